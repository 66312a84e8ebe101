/-
  NARROWER THAN 'FOR EVERY INPUT', by the rows' own cells (each row's printed sentence says how): CodecWrites: laid · CodecPrefix: laid · CodecFrames: laid · CodecBit: laid · CodecReads: laid · CodecItems: laid · CodecBack: laid · CodecNames: laid.
  DERIVED. THE GIVEN ROWS OF THIS SEAT. 8 by the template 'for every input the law returns true; each argument reads behind the call as it read before'; 0 by the template 'total and deterministic' (their statements: YtcbifehmmfjioaaDoorTotals.lean).
  GIVEN WITH THE SEED: the statements are not yours to turn. If you find one false, say at which input.
  Laid BY PROGRAM, IN A SANDBOX (cutbox-rows.mjs): the forced cells as the released guide's own fill.sh prints them over the translation 3c4b8bda22b6faa1… (all of the seat's roots in one cut). By AI agents, Wed Nov 11 2026. No macro, syntax, notation, axiom, sorry.
-/
import Derived.Test.YtcbifehmmfjioaaDoorChecked
import GoSem.Claim
import GoSem.ClaimJoined
import GoSem.ClaimMapViews
import Derived.JoinedTies
import Derived.KernelRfl
namespace Go.Proofs.YtcbifehmmfjioaaDoor
/- THE CELL 'sum', in the pinned program and in every row, IS THE sha256 OF THE DUMP (.gsa) THAT YtcbifehmmfjioaaDoorProg.lean LOADS. Nothing in Lean hashes anything: it is a label: what it is worth is what the hold of that sum in a sandbox is worth. -/
noncomputable def Tryd.pinned : Pinned := { name := "ytcbifehmmfjioaadoor", sum := "3c4b8bda22b6faa16a3f8ef816bef8c861cd3b0290f5084ba9126e850279ff3f", checked := Tryd.checked }
namespace Rows
def none {H : Type} : Left H := { results := [], args := [] }

/- WHAT THE LISTED PACKAGE-LEVEL VARIABLES READ AS WHEN THE CALL BEGINS. Each datum BY PROGRAM (the guide's laid-datum.mjs) off the statement by which the dump's own 'gosem.cut.vars' lays the variable. In a bare row this is a premise. The card (YtcbifehmmfjioaaDoorCards.lean) ties it to the program's text. -/
def laid_gazette_codec_sums {H : Type} : DataW H := .agg [.lit (.int .u32 0), .lit (.int .u32 274646895), .lit (.int .u32 549293790), .lit (.int .u32 820201905), .lit (.int .u32 1098587580), .lit (.int .u32 1361435347), .lit (.int .u32 1640403810), .lit (.int .u32 1905808397), .lit (.int .u32 2197175160), .lit (.int .u32 2460548119), .lit (.int .u32 2722870694), .lit (.int .u32 2987750089), .lit (.int .u32 3280807620), .lit (.int .u32 3553878443), .lit (.int .u32 3811616794), .lit (.int .u32 4084100981)]
def laid_errors_errorType {H : Type} : DataW H := .iface "internal/reflectlite.rtype" (.agg [.ptr (.lit (.string [101, 114, 114, 111, 114]))])

/-- 'gazettelaw01.CodecWrites': WHATEVER THE INPUT: true; the input reads as it did. -/
def codecWritesSpec : ChangeSpec := { name := "codecWrites", fn := fun _ => fun
  | [d] => { results := [.lit (.bool true)], args := [d] }
  | _ => none }
def codecWritesRow : OpenClaim := { program := "ytcbifehmmfjioaadoor", sum := "3c4b8bda22b6faa16a3f8ef816bef8c861cd3b0290f5084ba9126e850279ff3f", func := "gazette/gazettelaw01.CodecWrites", spec := "codecWrites", named := ["gazette/codec.sums"], apart := false, laid := [("gazette/codec.sums", laid_gazette_codec_sums)] }
def CodecWritesSaid : Prop := codecWritesRow.holds Tryd.pinned (OpenSpec.ofChange codecWritesSpec)

/-- ITS FALSE NEIGHBOUR: 'it returns false'. Refute it at one input. -/
def codecWritesWrong : ChangeSpec := { name := "codecWrites", fn := fun _ => fun
  | [d] => { results := [.lit (.bool false)], args := [d] }
  | _ => none }
def CodecWritesWrongFalsely : Prop := codecWritesRow.holds Tryd.pinned (OpenSpec.ofChange codecWritesWrong)

/-- 'gazettelaw01.CodecPrefix': WHATEVER THE INPUT: true; the input reads as it did. -/
def codecPrefixSpec : ChangeSpec := { name := "codecPrefix", fn := fun _ => fun
  | [d] => { results := [.lit (.bool true)], args := [d] }
  | _ => none }
def codecPrefixRow : OpenClaim := { program := "ytcbifehmmfjioaadoor", sum := "3c4b8bda22b6faa16a3f8ef816bef8c861cd3b0290f5084ba9126e850279ff3f", func := "gazette/gazettelaw01.CodecPrefix", spec := "codecPrefix", inPlace := ["internal/reflectlite.ValueOf", "(internal/reflectlite.Value).Type", "(internal/reflectlite.Value).IsNil", "internal/reflectlite.TypeOf", "(internal/reflectlite.Value).Elem", "(internal/reflectlite.Value).Set"], unfollowed := true, recurses := true, named := ["gazette/codec.sums", "errors.errorType"], apart := false, laid := [("errors.errorType", laid_errors_errorType), ("gazette/codec.sums", laid_gazette_codec_sums)] }
def CodecPrefixSaid : Prop := codecPrefixRow.holds Tryd.pinned (OpenSpec.ofChange codecPrefixSpec)

/-- ITS FALSE NEIGHBOUR: 'it returns false'. Refute it at one input. -/
def codecPrefixWrong : ChangeSpec := { name := "codecPrefix", fn := fun _ => fun
  | [d] => { results := [.lit (.bool false)], args := [d] }
  | _ => none }
def CodecPrefixWrongFalsely : Prop := codecPrefixRow.holds Tryd.pinned (OpenSpec.ofChange codecPrefixWrong)

/-- 'gazettelaw01.CodecFrames': WHATEVER THE INPUT: true; the input reads as it did. -/
def codecFramesSpec : ChangeSpec := { name := "codecFrames", fn := fun _ => fun
  | [d1, d2] => { results := [.lit (.bool true)], args := [d1, d2] }
  | _ => none }
def codecFramesRow : OpenClaim := { program := "ytcbifehmmfjioaadoor", sum := "3c4b8bda22b6faa16a3f8ef816bef8c861cd3b0290f5084ba9126e850279ff3f", func := "gazette/gazettelaw01.CodecFrames", spec := "codecFrames", inPlace := ["internal/reflectlite.ValueOf", "(internal/reflectlite.Value).Type", "(internal/reflectlite.Value).IsNil", "internal/reflectlite.TypeOf", "(internal/reflectlite.Value).Elem", "(internal/reflectlite.Value).Set"], unfollowed := true, recurses := true, named := ["gazette/codec.sums", "errors.errorType"], apart := false, laid := [("errors.errorType", laid_errors_errorType), ("gazette/codec.sums", laid_gazette_codec_sums)] }
def CodecFramesSaid : Prop := codecFramesRow.holds Tryd.pinned (OpenSpec.ofChange codecFramesSpec)

/-- ITS FALSE NEIGHBOUR: 'it returns false'. Refute it at one input. -/
def codecFramesWrong : ChangeSpec := { name := "codecFrames", fn := fun _ => fun
  | [d1, d2] => { results := [.lit (.bool false)], args := [d1, d2] }
  | _ => none }
def CodecFramesWrongFalsely : Prop := codecFramesRow.holds Tryd.pinned (OpenSpec.ofChange codecFramesWrong)

/-- 'gazettelaw01.CodecBit': WHATEVER THE INPUT: true; the input reads as it did. -/
def codecBitSpec : ChangeSpec := { name := "codecBit", fn := fun _ => fun
  | [d1, d2] => { results := [.lit (.bool true)], args := [d1, d2] }
  | _ => none }
def codecBitRow : OpenClaim := { program := "ytcbifehmmfjioaadoor", sum := "3c4b8bda22b6faa16a3f8ef816bef8c861cd3b0290f5084ba9126e850279ff3f", func := "gazette/gazettelaw01.CodecBit", spec := "codecBit", inPlace := ["internal/reflectlite.ValueOf", "(internal/reflectlite.Value).Type", "(internal/reflectlite.Value).IsNil", "internal/reflectlite.TypeOf", "(internal/reflectlite.Value).Elem", "(internal/reflectlite.Value).Set"], unfollowed := true, recurses := true, named := ["gazette/codec.sums", "errors.errorType"], apart := false, laid := [("errors.errorType", laid_errors_errorType), ("gazette/codec.sums", laid_gazette_codec_sums)] }
def CodecBitSaid : Prop := codecBitRow.holds Tryd.pinned (OpenSpec.ofChange codecBitSpec)

/-- ITS FALSE NEIGHBOUR: 'it returns false'. Refute it at one input. -/
def codecBitWrong : ChangeSpec := { name := "codecBit", fn := fun _ => fun
  | [d1, d2] => { results := [.lit (.bool false)], args := [d1, d2] }
  | _ => none }
def CodecBitWrongFalsely : Prop := codecBitRow.holds Tryd.pinned (OpenSpec.ofChange codecBitWrong)

/-- 'gazettelaw01.CodecReads': WHATEVER THE INPUT: true; the input reads as it did. -/
def codecReadsSpec : ChangeSpec := { name := "codecReads", fn := fun _ => fun
  | [d1, d2] => { results := [.lit (.bool true)], args := [d1, d2] }
  | _ => none }
def codecReadsRow : OpenClaim := { program := "ytcbifehmmfjioaadoor", sum := "3c4b8bda22b6faa16a3f8ef816bef8c861cd3b0290f5084ba9126e850279ff3f", func := "gazette/gazettelaw01.CodecReads", spec := "codecReads", inPlace := ["internal/reflectlite.ValueOf", "(internal/reflectlite.Value).Type", "(internal/reflectlite.Value).IsNil", "internal/reflectlite.TypeOf", "(internal/reflectlite.Value).Elem", "(internal/reflectlite.Value).Set"], unfollowed := true, recurses := true, named := ["gazette/codec.sums", "errors.errorType"], apart := false, laid := [("errors.errorType", laid_errors_errorType), ("gazette/codec.sums", laid_gazette_codec_sums)] }
def CodecReadsSaid : Prop := codecReadsRow.holds Tryd.pinned (OpenSpec.ofChange codecReadsSpec)

/-- ITS FALSE NEIGHBOUR: 'it returns false'. Refute it at one input. -/
def codecReadsWrong : ChangeSpec := { name := "codecReads", fn := fun _ => fun
  | [d1, d2] => { results := [.lit (.bool false)], args := [d1, d2] }
  | _ => none }
def CodecReadsWrongFalsely : Prop := codecReadsRow.holds Tryd.pinned (OpenSpec.ofChange codecReadsWrong)

/-- 'gazettelaw01.CodecItems': WHATEVER THE INPUT: true; the input reads as it did. -/
def codecItemsSpec : ChangeSpec := { name := "codecItems", fn := fun _ => fun
  | [d1, d2] => { results := [.lit (.bool true)], args := [d1, d2] }
  | _ => none }
def codecItemsRow : OpenClaim := { program := "ytcbifehmmfjioaadoor", sum := "3c4b8bda22b6faa16a3f8ef816bef8c861cd3b0290f5084ba9126e850279ff3f", func := "gazette/gazettelaw01.CodecItems", spec := "codecItems", inPlace := ["internal/reflectlite.ValueOf", "(internal/reflectlite.Value).Type", "(internal/reflectlite.Value).IsNil", "internal/reflectlite.TypeOf", "(internal/reflectlite.Value).Elem", "(internal/reflectlite.Value).Set"], unfollowed := true, recurses := true, named := ["gazette/codec.sums", "errors.errorType"], apart := false, laid := [("errors.errorType", laid_errors_errorType), ("gazette/codec.sums", laid_gazette_codec_sums)] }
def CodecItemsSaid : Prop := codecItemsRow.holds Tryd.pinned (OpenSpec.ofChange codecItemsSpec)

/-- ITS FALSE NEIGHBOUR: 'it returns false'. Refute it at one input. -/
def codecItemsWrong : ChangeSpec := { name := "codecItems", fn := fun _ => fun
  | [d1, d2] => { results := [.lit (.bool false)], args := [d1, d2] }
  | _ => none }
def CodecItemsWrongFalsely : Prop := codecItemsRow.holds Tryd.pinned (OpenSpec.ofChange codecItemsWrong)

/-- 'gazettelaw01.CodecBack': WHATEVER THE INPUT: true; the input reads as it did. -/
def codecBackSpec : ChangeSpec := { name := "codecBack", fn := fun _ => fun
  | [d1, d2, d3] => { results := [.lit (.bool true)], args := [d1, d2, d3] }
  | _ => none }
def codecBackRow : OpenClaim := { program := "ytcbifehmmfjioaadoor", sum := "3c4b8bda22b6faa16a3f8ef816bef8c861cd3b0290f5084ba9126e850279ff3f", func := "gazette/gazettelaw01.CodecBack", spec := "codecBack", inPlace := ["internal/reflectlite.ValueOf", "(internal/reflectlite.Value).Type", "(internal/reflectlite.Value).IsNil", "internal/reflectlite.TypeOf", "(internal/reflectlite.Value).Elem", "(internal/reflectlite.Value).Set"], unfollowed := true, recurses := true, named := ["gazette/codec.sums", "errors.errorType"], apart := false, laid := [("errors.errorType", laid_errors_errorType), ("gazette/codec.sums", laid_gazette_codec_sums)] }
def CodecBackSaid : Prop := codecBackRow.holds Tryd.pinned (OpenSpec.ofChange codecBackSpec)

/-- ITS FALSE NEIGHBOUR: 'it returns false'. Refute it at one input. -/
def codecBackWrong : ChangeSpec := { name := "codecBack", fn := fun _ => fun
  | [d1, d2, d3] => { results := [.lit (.bool false)], args := [d1, d2, d3] }
  | _ => none }
def CodecBackWrongFalsely : Prop := codecBackRow.holds Tryd.pinned (OpenSpec.ofChange codecBackWrong)

/-- 'gazettelaw01.CodecNames': WHATEVER THE INPUT: true; the input reads as it did. -/
def codecNamesSpec : ChangeSpec := { name := "codecNames", fn := fun _ => fun
  | [] => { results := [.lit (.bool true)], args := [] }
  | _ => none }
def codecNamesRow : OpenClaim := { program := "ytcbifehmmfjioaadoor", sum := "3c4b8bda22b6faa16a3f8ef816bef8c861cd3b0290f5084ba9126e850279ff3f", func := "gazette/gazettelaw01.CodecNames", spec := "codecNames", inPlace := ["internal/reflectlite.ValueOf", "(internal/reflectlite.Value).Type", "(internal/reflectlite.Value).IsNil", "internal/reflectlite.TypeOf", "(internal/reflectlite.Value).Elem", "(internal/reflectlite.Value).Set"], unfollowed := true, recurses := true, named := ["gazette/codec.sums", "errors.errorType"], apart := false, laid := [("errors.errorType", laid_errors_errorType), ("gazette/codec.sums", laid_gazette_codec_sums)] }
def CodecNamesSaid : Prop := codecNamesRow.holds Tryd.pinned (OpenSpec.ofChange codecNamesSpec)

/-- ITS FALSE NEIGHBOUR: 'it returns false'. Refute it at one input. -/
def codecNamesWrong : ChangeSpec := { name := "codecNames", fn := fun _ => fun
  | [] => { results := [.lit (.bool false)], args := [] }
  | _ => none }
def CodecNamesWrongFalsely : Prop := codecNamesRow.holds Tryd.pinned (OpenSpec.ofChange codecNamesWrong)

/- THE SECOND FORM. 'bulk': how many values and letters a reading holds, each counted each time it is reached (what is shared counts as often as it is met; a slice's spare places count too). A statement '..UptoSaid' is the law's where the arguments, and the package variables that the reading takes, are together of bulk at most 1048576: NARROWER than '..Said'. Prove '..Said' where nothing that the law and all that it calls make is longer than what came in: it says more and counts as full. Else prove '..UptoSaid'. A law counts once. -/
mutual
def uptoBulk {H : Type} : DataW H → Nat
  | .lit (.string bytes) => bytes.length + 1
  | .lit _ => 1
  | .nil => 1
  | .ptr d => uptoBulk d + 1
  | .slice elems spare => uptoBulkAll elems + uptoBulkAll spare + 1
  | .agg parts => uptoBulkAll parts + 1
  | .iface _ d => uptoBulk d + 1
  | .map entries => uptoBulkEntries entries + 1
  | .held _ => 1
def uptoBulkAll {H : Type} : List (DataW H) → Nat
  | [] => 0
  | d :: r => uptoBulk d + uptoBulkAll r
def uptoBulkEntries {H : Type} : List (Lit × DataW H) → Nat
  | [] => 0
  | x :: r => uptoBulkEntry x + uptoBulkEntries r
def uptoBulkEntry {H : Type} : Lit × DataW H → Nat
  | (.string bytes, d) => bytes.length + uptoBulk d + 1
  | (_, d) => uptoBulk d + 1
 end
def uptoSmall : (H : Type) → List (DataW H) → Bool := fun _ ds => decide (uptoBulkAll ds ≤ 1048576)
def OpenSpec.upto (s : _root_.Go.ChangeSpec) : _root_.Go.OpenSpec := { _root_.Go.OpenSpec.ofChange s with cond := some uptoSmall }

/-- 'gazettelaw01.CodecWrites', WHERE WHAT IT READS IS OF BULK AT MOST 1048576: true; the input reads as it did. -/
def codecWritesUptoRow : OpenClaim := { program := "ytcbifehmmfjioaadoor", sum := "3c4b8bda22b6faa16a3f8ef816bef8c861cd3b0290f5084ba9126e850279ff3f", func := "gazette/gazettelaw01.CodecWrites", spec := "codecWrites", named := ["gazette/codec.sums"], apart := false, laid := [("gazette/codec.sums", laid_gazette_codec_sums)], narrowed := true }
def CodecWritesUptoSaid : Prop := codecWritesUptoRow.holds Tryd.pinned (OpenSpec.upto codecWritesSpec)

/-- 'gazettelaw01.CodecPrefix', WHERE WHAT IT READS IS OF BULK AT MOST 1048576: true; the input reads as it did. -/
def codecPrefixUptoRow : OpenClaim := { program := "ytcbifehmmfjioaadoor", sum := "3c4b8bda22b6faa16a3f8ef816bef8c861cd3b0290f5084ba9126e850279ff3f", func := "gazette/gazettelaw01.CodecPrefix", spec := "codecPrefix", inPlace := ["internal/reflectlite.ValueOf", "(internal/reflectlite.Value).Type", "(internal/reflectlite.Value).IsNil", "internal/reflectlite.TypeOf", "(internal/reflectlite.Value).Elem", "(internal/reflectlite.Value).Set"], unfollowed := true, recurses := true, named := ["gazette/codec.sums", "errors.errorType"], apart := false, laid := [("errors.errorType", laid_errors_errorType), ("gazette/codec.sums", laid_gazette_codec_sums)], narrowed := true }
def CodecPrefixUptoSaid : Prop := codecPrefixUptoRow.holds Tryd.pinned (OpenSpec.upto codecPrefixSpec)

/-- 'gazettelaw01.CodecFrames', WHERE WHAT IT READS IS OF BULK AT MOST 1048576: true; the input reads as it did. -/
def codecFramesUptoRow : OpenClaim := { program := "ytcbifehmmfjioaadoor", sum := "3c4b8bda22b6faa16a3f8ef816bef8c861cd3b0290f5084ba9126e850279ff3f", func := "gazette/gazettelaw01.CodecFrames", spec := "codecFrames", inPlace := ["internal/reflectlite.ValueOf", "(internal/reflectlite.Value).Type", "(internal/reflectlite.Value).IsNil", "internal/reflectlite.TypeOf", "(internal/reflectlite.Value).Elem", "(internal/reflectlite.Value).Set"], unfollowed := true, recurses := true, named := ["gazette/codec.sums", "errors.errorType"], apart := false, laid := [("errors.errorType", laid_errors_errorType), ("gazette/codec.sums", laid_gazette_codec_sums)], narrowed := true }
def CodecFramesUptoSaid : Prop := codecFramesUptoRow.holds Tryd.pinned (OpenSpec.upto codecFramesSpec)

/-- 'gazettelaw01.CodecBit', WHERE WHAT IT READS IS OF BULK AT MOST 1048576: true; the input reads as it did. -/
def codecBitUptoRow : OpenClaim := { program := "ytcbifehmmfjioaadoor", sum := "3c4b8bda22b6faa16a3f8ef816bef8c861cd3b0290f5084ba9126e850279ff3f", func := "gazette/gazettelaw01.CodecBit", spec := "codecBit", inPlace := ["internal/reflectlite.ValueOf", "(internal/reflectlite.Value).Type", "(internal/reflectlite.Value).IsNil", "internal/reflectlite.TypeOf", "(internal/reflectlite.Value).Elem", "(internal/reflectlite.Value).Set"], unfollowed := true, recurses := true, named := ["gazette/codec.sums", "errors.errorType"], apart := false, laid := [("errors.errorType", laid_errors_errorType), ("gazette/codec.sums", laid_gazette_codec_sums)], narrowed := true }
def CodecBitUptoSaid : Prop := codecBitUptoRow.holds Tryd.pinned (OpenSpec.upto codecBitSpec)

/-- 'gazettelaw01.CodecReads', WHERE WHAT IT READS IS OF BULK AT MOST 1048576: true; the input reads as it did. -/
def codecReadsUptoRow : OpenClaim := { program := "ytcbifehmmfjioaadoor", sum := "3c4b8bda22b6faa16a3f8ef816bef8c861cd3b0290f5084ba9126e850279ff3f", func := "gazette/gazettelaw01.CodecReads", spec := "codecReads", inPlace := ["internal/reflectlite.ValueOf", "(internal/reflectlite.Value).Type", "(internal/reflectlite.Value).IsNil", "internal/reflectlite.TypeOf", "(internal/reflectlite.Value).Elem", "(internal/reflectlite.Value).Set"], unfollowed := true, recurses := true, named := ["gazette/codec.sums", "errors.errorType"], apart := false, laid := [("errors.errorType", laid_errors_errorType), ("gazette/codec.sums", laid_gazette_codec_sums)], narrowed := true }
def CodecReadsUptoSaid : Prop := codecReadsUptoRow.holds Tryd.pinned (OpenSpec.upto codecReadsSpec)

/-- 'gazettelaw01.CodecItems', WHERE WHAT IT READS IS OF BULK AT MOST 1048576: true; the input reads as it did. -/
def codecItemsUptoRow : OpenClaim := { program := "ytcbifehmmfjioaadoor", sum := "3c4b8bda22b6faa16a3f8ef816bef8c861cd3b0290f5084ba9126e850279ff3f", func := "gazette/gazettelaw01.CodecItems", spec := "codecItems", inPlace := ["internal/reflectlite.ValueOf", "(internal/reflectlite.Value).Type", "(internal/reflectlite.Value).IsNil", "internal/reflectlite.TypeOf", "(internal/reflectlite.Value).Elem", "(internal/reflectlite.Value).Set"], unfollowed := true, recurses := true, named := ["gazette/codec.sums", "errors.errorType"], apart := false, laid := [("errors.errorType", laid_errors_errorType), ("gazette/codec.sums", laid_gazette_codec_sums)], narrowed := true }
def CodecItemsUptoSaid : Prop := codecItemsUptoRow.holds Tryd.pinned (OpenSpec.upto codecItemsSpec)

/-- 'gazettelaw01.CodecBack', WHERE WHAT IT READS IS OF BULK AT MOST 1048576: true; the input reads as it did. -/
def codecBackUptoRow : OpenClaim := { program := "ytcbifehmmfjioaadoor", sum := "3c4b8bda22b6faa16a3f8ef816bef8c861cd3b0290f5084ba9126e850279ff3f", func := "gazette/gazettelaw01.CodecBack", spec := "codecBack", inPlace := ["internal/reflectlite.ValueOf", "(internal/reflectlite.Value).Type", "(internal/reflectlite.Value).IsNil", "internal/reflectlite.TypeOf", "(internal/reflectlite.Value).Elem", "(internal/reflectlite.Value).Set"], unfollowed := true, recurses := true, named := ["gazette/codec.sums", "errors.errorType"], apart := false, laid := [("errors.errorType", laid_errors_errorType), ("gazette/codec.sums", laid_gazette_codec_sums)], narrowed := true }
def CodecBackUptoSaid : Prop := codecBackUptoRow.holds Tryd.pinned (OpenSpec.upto codecBackSpec)

/-- 'gazettelaw01.CodecNames', WHERE WHAT IT READS IS OF BULK AT MOST 1048576: true; the input reads as it did. -/
def codecNamesUptoRow : OpenClaim := { program := "ytcbifehmmfjioaadoor", sum := "3c4b8bda22b6faa16a3f8ef816bef8c861cd3b0290f5084ba9126e850279ff3f", func := "gazette/gazettelaw01.CodecNames", spec := "codecNames", inPlace := ["internal/reflectlite.ValueOf", "(internal/reflectlite.Value).Type", "(internal/reflectlite.Value).IsNil", "internal/reflectlite.TypeOf", "(internal/reflectlite.Value).Elem", "(internal/reflectlite.Value).Set"], unfollowed := true, recurses := true, named := ["gazette/codec.sums", "errors.errorType"], apart := false, laid := [("errors.errorType", laid_errors_errorType), ("gazette/codec.sums", laid_gazette_codec_sums)], narrowed := true }
def CodecNamesUptoSaid : Prop := codecNamesUptoRow.holds Tryd.pinned (OpenSpec.upto codecNamesSpec)

end Rows
end Go.Proofs.YtcbifehmmfjioaaDoor
