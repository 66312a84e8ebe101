/-
  DERIVED. GIVEN WITH THE SEED: THE CARDS: each row of YthaomecbklmmdaaDoorRows.lean that lists a variable, with what it lists TIED to the program's text (the seventh form; the later family's looks); each row that meets fmt, with fmt's text TOLD by the authors' own Lean function (tested against real Go, not proved from fmt's source: count such statements apart). THE CARD IS WHAT COUNTS. Prove the row's statement (the work); the ties are given (YthaomecbklmmdaaDoorTie.lean); close each card by the builder's one call (the guide's Derived/Test/ToyasCard.lean, 'card_holds'). Laid BY PROGRAM, IN A SANDBOX (cutbox-door.mjs). By AI agents, Wed Nov 11 2026. No macro, syntax, notation, axiom, sorry.
-/
import Derived.Test.YthaomecbklmmdaaDoorRows
import GoSem.ClaimSeven
namespace Go.Proofs.YthaomecbklmmdaaDoor
namespace Rows

/-- THE TIED CARD OF 'gazettelaw11.BeatsOpens'. -/
def beatsOpensCard : Claim7 := { stood := { row := beatsOpensRow, standIns := [], harness := (true, "bc6bb4e820196c152fe9dd0e2ce3cc1c3ce1d44ce70518cd6ae39a955cc46f87"), looks := true }, kinds := [], alts := [], laidByText := true, laidKinds := [.handle], laidTests := true, laidLooks := .later }
def BeatsOpensCardSaid : Prop := Claim7.holds Tryd.pinned (.plain (OpenSpec.ofChange beatsOpensSpec)) beatsOpensCard

/-- THE TIED CARD OF 'gazettelaw11.BeatsBack'. -/
def beatsBackCard : Claim7 := { stood := { row := beatsBackRow, standIns := [], harness := (true, "bc6bb4e820196c152fe9dd0e2ce3cc1c3ce1d44ce70518cd6ae39a955cc46f87"), looks := true }, kinds := [], alts := [], laidByText := true, laidKinds := [.handle], laidTests := true, laidLooks := .later }
def BeatsBackCardSaid : Prop := Claim7.holds Tryd.pinned (.plain (OpenSpec.ofChange beatsBackSpec)) beatsBackCard

/-- THE TIED CARD OF 'gazettelaw11.BeatsRead'. -/
def beatsReadCard : Claim7 := { stood := { row := beatsReadRow, standIns := [], harness := (true, "bc6bb4e820196c152fe9dd0e2ce3cc1c3ce1d44ce70518cd6ae39a955cc46f87"), looks := true }, kinds := [], alts := [], laidByText := true, laidKinds := [.handle], laidTests := true, laidLooks := .later }
def BeatsReadCardSaid : Prop := Claim7.holds Tryd.pinned (.plain (OpenSpec.ofChange beatsReadSpec)) beatsReadCard

/-- THE SECOND FORM's CARD OF 'gazettelaw11.BeatsOpens'. -/
def beatsOpensUptoCard : Claim7 := { stood := { row := beatsOpensUptoRow, standIns := [], harness := (true, "bc6bb4e820196c152fe9dd0e2ce3cc1c3ce1d44ce70518cd6ae39a955cc46f87"), looks := true }, kinds := [], alts := [], laidByText := true, laidKinds := [.handle], laidTests := true, laidLooks := .later }
def BeatsOpensUptoCardSaid : Prop := Claim7.holds Tryd.pinned (.plain (OpenSpec.upto beatsOpensSpec)) beatsOpensUptoCard

/-- THE SECOND FORM's CARD OF 'gazettelaw11.BeatsBack'. -/
def beatsBackUptoCard : Claim7 := { stood := { row := beatsBackUptoRow, standIns := [], harness := (true, "bc6bb4e820196c152fe9dd0e2ce3cc1c3ce1d44ce70518cd6ae39a955cc46f87"), looks := true }, kinds := [], alts := [], laidByText := true, laidKinds := [.handle], laidTests := true, laidLooks := .later }
def BeatsBackUptoCardSaid : Prop := Claim7.holds Tryd.pinned (.plain (OpenSpec.upto beatsBackSpec)) beatsBackUptoCard

/-- THE SECOND FORM's CARD OF 'gazettelaw11.BeatsRead'. -/
def beatsReadUptoCard : Claim7 := { stood := { row := beatsReadUptoRow, standIns := [], harness := (true, "bc6bb4e820196c152fe9dd0e2ce3cc1c3ce1d44ce70518cd6ae39a955cc46f87"), looks := true }, kinds := [], alts := [], laidByText := true, laidKinds := [.handle], laidTests := true, laidLooks := .later }
def BeatsReadUptoCardSaid : Prop := Claim7.holds Tryd.pinned (.plain (OpenSpec.upto beatsReadSpec)) beatsReadUptoCard
end Rows
end Go.Proofs.YthaomecbklmmdaaDoor
