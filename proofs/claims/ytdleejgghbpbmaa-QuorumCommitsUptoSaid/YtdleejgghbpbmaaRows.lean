/-
  No cell of these rows narrows 'for every input' (looked for: loops, veiled, ifaces, maps, wideKeys, modest, calm, conditions, laid).
  DERIVED. THE GIVEN ROWS OF THIS SEAT. 7 by the template 'for every input the law returns true; each argument reads behind the call as it read before'; 0 by the template 'total and deterministic' (their statements: YtdleejgghbpbmaaTotals.lean).
  GIVEN WITH THE SEED: the statements are not yours to turn. If you find one false, say at which input.
  Laid BY PROGRAM, IN A SANDBOX (cutbox-rows.mjs): the forced cells as the released guide's own fill.sh prints them over the translation 93bff33c97ce43cc… (all of the seat's roots in one cut). By AI agents, Wed Nov 11 2026. No macro, syntax, notation, axiom, sorry.
-/
import Derived.Test.YtdleejgghbpbmaaChecked
import GoSem.Claim
import GoSem.ClaimJoined
import GoSem.ClaimMapViews
import Derived.JoinedTies
import Derived.KernelRfl
namespace Go.Proofs.Ytdleejgghbpbmaa
/- THE CELL 'sum', in the pinned program and in every row, IS THE sha256 OF THE DUMP (.gsa) THAT YtdleejgghbpbmaaProg.lean LOADS. Nothing in Lean hashes anything: it is a label: what it is worth is what the hold of that sum in a sandbox is worth. -/
noncomputable def Try.pinned : Pinned := { name := "ytdleejgghbpbmaa", sum := "93bff33c97ce43cca48982d45736805bfc4e7d4ece6a1a61eb5dfb59cebc26dc", checked := Try.checked }
namespace Rows
def none {H : Type} : Left H := { results := [], args := [] }

/-- 'gazettelaw07.QuorumTells': WHATEVER THE INPUT: true; the input reads as it did. -/
def quorumTellsSpec : ChangeSpec := { name := "quorumTells", fn := fun _ => fun
  | [d1, d2, d3] => { results := [.lit (.bool true)], args := [d1, d2, d3] }
  | _ => none }
def quorumTellsRow : OpenClaim := { program := "ytdleejgghbpbmaa", sum := "93bff33c97ce43cca48982d45736805bfc4e7d4ece6a1a61eb5dfb59cebc26dc", func := "gazette/gazettelaw07.QuorumTells", spec := "quorumTells", unfollowed := true, recurses := true, apart := false }
def QuorumTellsSaid : Prop := quorumTellsRow.holds Try.pinned (OpenSpec.ofChange quorumTellsSpec)

/-- ITS FALSE NEIGHBOUR: 'it returns false'. Refute it at one input. -/
def quorumTellsWrong : ChangeSpec := { name := "quorumTells", fn := fun _ => fun
  | [d1, d2, d3] => { results := [.lit (.bool false)], args := [d1, d2, d3] }
  | _ => none }
def QuorumTellsWrongFalsely : Prop := quorumTellsRow.holds Try.pinned (OpenSpec.ofChange quorumTellsWrong)

/-- 'gazettelaw07.QuorumMost': WHATEVER THE INPUT: true; the input reads as it did. -/
def quorumMostSpec : ChangeSpec := { name := "quorumMost", fn := fun _ => fun
  | [d] => { results := [.lit (.bool true)], args := [d] }
  | _ => none }
def quorumMostRow : OpenClaim := { program := "ytdleejgghbpbmaa", sum := "93bff33c97ce43cca48982d45736805bfc4e7d4ece6a1a61eb5dfb59cebc26dc", func := "gazette/gazettelaw07.QuorumMost", spec := "quorumMost", unfollowed := true, recurses := true, apart := false }
def QuorumMostSaid : Prop := quorumMostRow.holds Try.pinned (OpenSpec.ofChange quorumMostSpec)

/-- ITS FALSE NEIGHBOUR: 'it returns false'. Refute it at one input. -/
def quorumMostWrong : ChangeSpec := { name := "quorumMost", fn := fun _ => fun
  | [d] => { results := [.lit (.bool false)], args := [d] }
  | _ => none }
def QuorumMostWrongFalsely : Prop := quorumMostRow.holds Try.pinned (OpenSpec.ofChange quorumMostWrong)

/-- 'gazettelaw07.QuorumMeets': WHATEVER THE INPUT: true; the input reads as it did. -/
def quorumMeetsSpec : ChangeSpec := { name := "quorumMeets", fn := fun _ => fun
  | [d1, d2, d3, d4] => { results := [.lit (.bool true)], args := [d1, d2, d3, d4] }
  | _ => none }
def quorumMeetsRow : OpenClaim := { program := "ytdleejgghbpbmaa", sum := "93bff33c97ce43cca48982d45736805bfc4e7d4ece6a1a61eb5dfb59cebc26dc", func := "gazette/gazettelaw07.QuorumMeets", spec := "quorumMeets", unfollowed := true, recurses := true, apart := false }
def QuorumMeetsSaid : Prop := quorumMeetsRow.holds Try.pinned (OpenSpec.ofChange quorumMeetsSpec)

/-- ITS FALSE NEIGHBOUR: 'it returns false'. Refute it at one input. -/
def quorumMeetsWrong : ChangeSpec := { name := "quorumMeets", fn := fun _ => fun
  | [d1, d2, d3, d4] => { results := [.lit (.bool false)], args := [d1, d2, d3, d4] }
  | _ => none }
def QuorumMeetsWrongFalsely : Prop := quorumMeetsRow.holds Try.pinned (OpenSpec.ofChange quorumMeetsWrong)

/-- 'gazettelaw07.QuorumStays': WHATEVER THE INPUT: true; the input reads as it did. -/
def quorumStaysSpec : ChangeSpec := { name := "quorumStays", fn := fun _ => fun
  | [d1, d2, d3] => { results := [.lit (.bool true)], args := [d1, d2, d3] }
  | _ => none }
def quorumStaysRow : OpenClaim := { program := "ytdleejgghbpbmaa", sum := "93bff33c97ce43cca48982d45736805bfc4e7d4ece6a1a61eb5dfb59cebc26dc", func := "gazette/gazettelaw07.QuorumStays", spec := "quorumStays", unfollowed := true, recurses := true, apart := false }
def QuorumStaysSaid : Prop := quorumStaysRow.holds Try.pinned (OpenSpec.ofChange quorumStaysSpec)

/-- ITS FALSE NEIGHBOUR: 'it returns false'. Refute it at one input. -/
def quorumStaysWrong : ChangeSpec := { name := "quorumStays", fn := fun _ => fun
  | [d1, d2, d3] => { results := [.lit (.bool false)], args := [d1, d2, d3] }
  | _ => none }
def QuorumStaysWrongFalsely : Prop := quorumStaysRow.holds Try.pinned (OpenSpec.ofChange quorumStaysWrong)

/-- 'gazettelaw07.QuorumCommits': WHATEVER THE INPUT: true; the input reads as it did. -/
def quorumCommitsSpec : ChangeSpec := { name := "quorumCommits", fn := fun _ => fun
  | [d1, d2] => { results := [.lit (.bool true)], args := [d1, d2] }
  | _ => none }
def quorumCommitsRow : OpenClaim := { program := "ytdleejgghbpbmaa", sum := "93bff33c97ce43cca48982d45736805bfc4e7d4ece6a1a61eb5dfb59cebc26dc", func := "gazette/gazettelaw07.QuorumCommits", spec := "quorumCommits", unfollowed := true, recurses := true, apart := false }
def QuorumCommitsSaid : Prop := quorumCommitsRow.holds Try.pinned (OpenSpec.ofChange quorumCommitsSpec)

/-- ITS FALSE NEIGHBOUR: 'it returns false'. Refute it at one input. -/
def quorumCommitsWrong : ChangeSpec := { name := "quorumCommits", fn := fun _ => fun
  | [d1, d2] => { results := [.lit (.bool false)], args := [d1, d2] }
  | _ => none }
def QuorumCommitsWrongFalsely : Prop := quorumCommitsRow.holds Try.pinned (OpenSpec.ofChange quorumCommitsWrong)

/-- 'gazettelaw07.QuorumGrows': WHATEVER THE INPUT: true; the input reads as it did. -/
def quorumGrowsSpec : ChangeSpec := { name := "quorumGrows", fn := fun _ => fun
  | [d1, d2, d3, d4] => { results := [.lit (.bool true)], args := [d1, d2, d3, d4] }
  | _ => none }
def quorumGrowsRow : OpenClaim := { program := "ytdleejgghbpbmaa", sum := "93bff33c97ce43cca48982d45736805bfc4e7d4ece6a1a61eb5dfb59cebc26dc", func := "gazette/gazettelaw07.QuorumGrows", spec := "quorumGrows", unfollowed := true, recurses := true, apart := false }
def QuorumGrowsSaid : Prop := quorumGrowsRow.holds Try.pinned (OpenSpec.ofChange quorumGrowsSpec)

/-- ITS FALSE NEIGHBOUR: 'it returns false'. Refute it at one input. -/
def quorumGrowsWrong : ChangeSpec := { name := "quorumGrows", fn := fun _ => fun
  | [d1, d2, d3, d4] => { results := [.lit (.bool false)], args := [d1, d2, d3, d4] }
  | _ => none }
def QuorumGrowsWrongFalsely : Prop := quorumGrowsRow.holds Try.pinned (OpenSpec.ofChange quorumGrowsWrong)

/-- 'gazettelaw07.QuorumOrder': WHATEVER THE INPUT: true; the input reads as it did. -/
def quorumOrderSpec : ChangeSpec := { name := "quorumOrder", fn := fun _ => fun
  | [d1, d2, d3] => { results := [.lit (.bool true)], args := [d1, d2, d3] }
  | _ => none }
def quorumOrderRow : OpenClaim := { program := "ytdleejgghbpbmaa", sum := "93bff33c97ce43cca48982d45736805bfc4e7d4ece6a1a61eb5dfb59cebc26dc", func := "gazette/gazettelaw07.QuorumOrder", spec := "quorumOrder", unfollowed := true, recurses := true, apart := false }
def QuorumOrderSaid : Prop := quorumOrderRow.holds Try.pinned (OpenSpec.ofChange quorumOrderSpec)

/-- ITS FALSE NEIGHBOUR: 'it returns false'. Refute it at one input. -/
def quorumOrderWrong : ChangeSpec := { name := "quorumOrder", fn := fun _ => fun
  | [d1, d2, d3] => { results := [.lit (.bool false)], args := [d1, d2, d3] }
  | _ => none }
def QuorumOrderWrongFalsely : Prop := quorumOrderRow.holds Try.pinned (OpenSpec.ofChange quorumOrderWrong)

/- THE SECOND FORM. 'bulk': how many values and letters a reading holds, each counted each time it is reached (what is shared counts as often as it is met; a slice's spare places count too). A statement '..UptoSaid' is the law's where the arguments, and the package variables that the reading takes, are together of bulk at most 1048576: NARROWER than '..Said'. Prove '..Said' where nothing that the law and all that it calls make is longer than what came in: it says more and counts as full. Else prove '..UptoSaid'. A law counts once. -/
mutual
def uptoBulk {H : Type} : DataW H → Nat
  | .lit (.string bytes) => bytes.length + 1
  | .lit _ => 1
  | .nil => 1
  | .ptr d => uptoBulk d + 1
  | .slice elems spare => uptoBulkAll elems + uptoBulkAll spare + 1
  | .agg parts => uptoBulkAll parts + 1
  | .iface _ d => uptoBulk d + 1
  | .map entries => uptoBulkEntries entries + 1
  | .held _ => 1
def uptoBulkAll {H : Type} : List (DataW H) → Nat
  | [] => 0
  | d :: r => uptoBulk d + uptoBulkAll r
def uptoBulkEntries {H : Type} : List (Lit × DataW H) → Nat
  | [] => 0
  | x :: r => uptoBulkEntry x + uptoBulkEntries r
def uptoBulkEntry {H : Type} : Lit × DataW H → Nat
  | (.string bytes, d) => bytes.length + uptoBulk d + 1
  | (_, d) => uptoBulk d + 1
 end
def uptoSmall : (H : Type) → List (DataW H) → Bool := fun _ ds => decide (uptoBulkAll ds ≤ 1048576)
def OpenSpec.upto (s : _root_.Go.ChangeSpec) : _root_.Go.OpenSpec := { _root_.Go.OpenSpec.ofChange s with cond := some uptoSmall }

/-- 'gazettelaw07.QuorumTells', WHERE WHAT IT READS IS OF BULK AT MOST 1048576: true; the input reads as it did. -/
def quorumTellsUptoRow : OpenClaim := { program := "ytdleejgghbpbmaa", sum := "93bff33c97ce43cca48982d45736805bfc4e7d4ece6a1a61eb5dfb59cebc26dc", func := "gazette/gazettelaw07.QuorumTells", spec := "quorumTells", unfollowed := true, recurses := true, apart := false, narrowed := true }
def QuorumTellsUptoSaid : Prop := quorumTellsUptoRow.holds Try.pinned (OpenSpec.upto quorumTellsSpec)

/-- 'gazettelaw07.QuorumMost', WHERE WHAT IT READS IS OF BULK AT MOST 1048576: true; the input reads as it did. -/
def quorumMostUptoRow : OpenClaim := { program := "ytdleejgghbpbmaa", sum := "93bff33c97ce43cca48982d45736805bfc4e7d4ece6a1a61eb5dfb59cebc26dc", func := "gazette/gazettelaw07.QuorumMost", spec := "quorumMost", unfollowed := true, recurses := true, apart := false, narrowed := true }
def QuorumMostUptoSaid : Prop := quorumMostUptoRow.holds Try.pinned (OpenSpec.upto quorumMostSpec)

/-- 'gazettelaw07.QuorumMeets', WHERE WHAT IT READS IS OF BULK AT MOST 1048576: true; the input reads as it did. -/
def quorumMeetsUptoRow : OpenClaim := { program := "ytdleejgghbpbmaa", sum := "93bff33c97ce43cca48982d45736805bfc4e7d4ece6a1a61eb5dfb59cebc26dc", func := "gazette/gazettelaw07.QuorumMeets", spec := "quorumMeets", unfollowed := true, recurses := true, apart := false, narrowed := true }
def QuorumMeetsUptoSaid : Prop := quorumMeetsUptoRow.holds Try.pinned (OpenSpec.upto quorumMeetsSpec)

/-- 'gazettelaw07.QuorumStays', WHERE WHAT IT READS IS OF BULK AT MOST 1048576: true; the input reads as it did. -/
def quorumStaysUptoRow : OpenClaim := { program := "ytdleejgghbpbmaa", sum := "93bff33c97ce43cca48982d45736805bfc4e7d4ece6a1a61eb5dfb59cebc26dc", func := "gazette/gazettelaw07.QuorumStays", spec := "quorumStays", unfollowed := true, recurses := true, apart := false, narrowed := true }
def QuorumStaysUptoSaid : Prop := quorumStaysUptoRow.holds Try.pinned (OpenSpec.upto quorumStaysSpec)

/-- 'gazettelaw07.QuorumCommits', WHERE WHAT IT READS IS OF BULK AT MOST 1048576: true; the input reads as it did. -/
def quorumCommitsUptoRow : OpenClaim := { program := "ytdleejgghbpbmaa", sum := "93bff33c97ce43cca48982d45736805bfc4e7d4ece6a1a61eb5dfb59cebc26dc", func := "gazette/gazettelaw07.QuorumCommits", spec := "quorumCommits", unfollowed := true, recurses := true, apart := false, narrowed := true }
def QuorumCommitsUptoSaid : Prop := quorumCommitsUptoRow.holds Try.pinned (OpenSpec.upto quorumCommitsSpec)

/-- 'gazettelaw07.QuorumGrows', WHERE WHAT IT READS IS OF BULK AT MOST 1048576: true; the input reads as it did. -/
def quorumGrowsUptoRow : OpenClaim := { program := "ytdleejgghbpbmaa", sum := "93bff33c97ce43cca48982d45736805bfc4e7d4ece6a1a61eb5dfb59cebc26dc", func := "gazette/gazettelaw07.QuorumGrows", spec := "quorumGrows", unfollowed := true, recurses := true, apart := false, narrowed := true }
def QuorumGrowsUptoSaid : Prop := quorumGrowsUptoRow.holds Try.pinned (OpenSpec.upto quorumGrowsSpec)

/-- 'gazettelaw07.QuorumOrder', WHERE WHAT IT READS IS OF BULK AT MOST 1048576: true; the input reads as it did. -/
def quorumOrderUptoRow : OpenClaim := { program := "ytdleejgghbpbmaa", sum := "93bff33c97ce43cca48982d45736805bfc4e7d4ece6a1a61eb5dfb59cebc26dc", func := "gazette/gazettelaw07.QuorumOrder", spec := "quorumOrder", unfollowed := true, recurses := true, apart := false, narrowed := true }
def QuorumOrderUptoSaid : Prop := quorumOrderUptoRow.holds Try.pinned (OpenSpec.upto quorumOrderSpec)

end Rows
end Go.Proofs.Ytdleejgghbpbmaa
