/-
  DERIVED. GIVEN WITH THE SEED: THE CARDS: each row of YtcbifehmmfjioaaDoorRows.lean that lists a variable, with what it lists TIED to the program's text (the seventh form; the later family's looks); each row that meets fmt, with fmt's text TOLD by the authors' own Lean function (tested against real Go, not proved from fmt's source: count such statements apart). THE CARD IS WHAT COUNTS. Prove the row's statement (the work); the ties are given (YtcbifehmmfjioaaDoorTie.lean); close each card by the builder's one call (the guide's Derived/Test/ToyasCard.lean, 'card_holds'). Laid BY PROGRAM, IN A SANDBOX (cutbox-door.mjs). By AI agents, Wed Nov 11 2026. No macro, syntax, notation, axiom, sorry.
-/
import Derived.Test.YtcbifehmmfjioaaDoorRows
import GoSem.ClaimSeven
namespace Go.Proofs.YtcbifehmmfjioaaDoor
namespace Rows

/-- THE TIED CARD OF 'gazettelaw01.CodecWrites'. -/
def codecWritesCard : Claim7 := { stood := { row := codecWritesRow, standIns := [], harness := (true, "634dc0eb61df2c112edec2ea16528a7814ac1fed8f65cdbae0cea8c774ea26d7"), looks := true }, kinds := [], alts := [], laidByText := true, laidKinds := [.data], laidTests := true, laidLooks := .later }
def CodecWritesCardSaid : Prop := Claim7.holds Tryd.pinned (.plain (OpenSpec.ofChange codecWritesSpec)) codecWritesCard

/-- THE TIED CARD OF 'gazettelaw01.CodecPrefix'. -/
def codecPrefixCard : Claim7 := { stood := { row := codecPrefixRow, standIns := [], harness := (true, "634dc0eb61df2c112edec2ea16528a7814ac1fed8f65cdbae0cea8c774ea26d7"), looks := true }, kinds := [], alts := [], laidByText := true, laidKinds := [.handle, .data], laidTests := true, laidLooks := .later }
def CodecPrefixCardSaid : Prop := Claim7.holds Tryd.pinned (.plain (OpenSpec.ofChange codecPrefixSpec)) codecPrefixCard

/-- THE TIED CARD OF 'gazettelaw01.CodecFrames'. -/
def codecFramesCard : Claim7 := { stood := { row := codecFramesRow, standIns := [], harness := (true, "634dc0eb61df2c112edec2ea16528a7814ac1fed8f65cdbae0cea8c774ea26d7"), looks := true }, kinds := [], alts := [], laidByText := true, laidKinds := [.handle, .data], laidTests := true, laidLooks := .later }
def CodecFramesCardSaid : Prop := Claim7.holds Tryd.pinned (.plain (OpenSpec.ofChange codecFramesSpec)) codecFramesCard

/-- THE TIED CARD OF 'gazettelaw01.CodecBit'. -/
def codecBitCard : Claim7 := { stood := { row := codecBitRow, standIns := [], harness := (true, "634dc0eb61df2c112edec2ea16528a7814ac1fed8f65cdbae0cea8c774ea26d7"), looks := true }, kinds := [], alts := [], laidByText := true, laidKinds := [.handle, .data], laidTests := true, laidLooks := .later }
def CodecBitCardSaid : Prop := Claim7.holds Tryd.pinned (.plain (OpenSpec.ofChange codecBitSpec)) codecBitCard

/-- THE TIED CARD OF 'gazettelaw01.CodecReads'. -/
def codecReadsCard : Claim7 := { stood := { row := codecReadsRow, standIns := [], harness := (true, "634dc0eb61df2c112edec2ea16528a7814ac1fed8f65cdbae0cea8c774ea26d7"), looks := true }, kinds := [], alts := [], laidByText := true, laidKinds := [.handle, .data], laidTests := true, laidLooks := .later }
def CodecReadsCardSaid : Prop := Claim7.holds Tryd.pinned (.plain (OpenSpec.ofChange codecReadsSpec)) codecReadsCard

/-- THE TIED CARD OF 'gazettelaw01.CodecItems'. -/
def codecItemsCard : Claim7 := { stood := { row := codecItemsRow, standIns := [], harness := (true, "634dc0eb61df2c112edec2ea16528a7814ac1fed8f65cdbae0cea8c774ea26d7"), looks := true }, kinds := [], alts := [], laidByText := true, laidKinds := [.handle, .data], laidTests := true, laidLooks := .later }
def CodecItemsCardSaid : Prop := Claim7.holds Tryd.pinned (.plain (OpenSpec.ofChange codecItemsSpec)) codecItemsCard

/-- THE TIED CARD OF 'gazettelaw01.CodecBack'. -/
def codecBackCard : Claim7 := { stood := { row := codecBackRow, standIns := [], harness := (true, "634dc0eb61df2c112edec2ea16528a7814ac1fed8f65cdbae0cea8c774ea26d7"), looks := true }, kinds := [], alts := [], laidByText := true, laidKinds := [.handle, .data], laidTests := true, laidLooks := .later }
def CodecBackCardSaid : Prop := Claim7.holds Tryd.pinned (.plain (OpenSpec.ofChange codecBackSpec)) codecBackCard

/-- THE TIED CARD OF 'gazettelaw01.CodecNames'. -/
def codecNamesCard : Claim7 := { stood := { row := codecNamesRow, standIns := [], harness := (true, "634dc0eb61df2c112edec2ea16528a7814ac1fed8f65cdbae0cea8c774ea26d7"), looks := true }, kinds := [], alts := [], laidByText := true, laidKinds := [.handle, .data], laidTests := true, laidLooks := .later }
def CodecNamesCardSaid : Prop := Claim7.holds Tryd.pinned (.plain (OpenSpec.ofChange codecNamesSpec)) codecNamesCard

/-- THE SECOND FORM's CARD OF 'gazettelaw01.CodecWrites'. -/
def codecWritesUptoCard : Claim7 := { stood := { row := codecWritesUptoRow, standIns := [], harness := (true, "634dc0eb61df2c112edec2ea16528a7814ac1fed8f65cdbae0cea8c774ea26d7"), looks := true }, kinds := [], alts := [], laidByText := true, laidKinds := [.data], laidTests := true, laidLooks := .later }
def CodecWritesUptoCardSaid : Prop := Claim7.holds Tryd.pinned (.plain (OpenSpec.upto codecWritesSpec)) codecWritesUptoCard

/-- THE SECOND FORM's CARD OF 'gazettelaw01.CodecPrefix'. -/
def codecPrefixUptoCard : Claim7 := { stood := { row := codecPrefixUptoRow, standIns := [], harness := (true, "634dc0eb61df2c112edec2ea16528a7814ac1fed8f65cdbae0cea8c774ea26d7"), looks := true }, kinds := [], alts := [], laidByText := true, laidKinds := [.handle, .data], laidTests := true, laidLooks := .later }
def CodecPrefixUptoCardSaid : Prop := Claim7.holds Tryd.pinned (.plain (OpenSpec.upto codecPrefixSpec)) codecPrefixUptoCard

/-- THE SECOND FORM's CARD OF 'gazettelaw01.CodecFrames'. -/
def codecFramesUptoCard : Claim7 := { stood := { row := codecFramesUptoRow, standIns := [], harness := (true, "634dc0eb61df2c112edec2ea16528a7814ac1fed8f65cdbae0cea8c774ea26d7"), looks := true }, kinds := [], alts := [], laidByText := true, laidKinds := [.handle, .data], laidTests := true, laidLooks := .later }
def CodecFramesUptoCardSaid : Prop := Claim7.holds Tryd.pinned (.plain (OpenSpec.upto codecFramesSpec)) codecFramesUptoCard

/-- THE SECOND FORM's CARD OF 'gazettelaw01.CodecBit'. -/
def codecBitUptoCard : Claim7 := { stood := { row := codecBitUptoRow, standIns := [], harness := (true, "634dc0eb61df2c112edec2ea16528a7814ac1fed8f65cdbae0cea8c774ea26d7"), looks := true }, kinds := [], alts := [], laidByText := true, laidKinds := [.handle, .data], laidTests := true, laidLooks := .later }
def CodecBitUptoCardSaid : Prop := Claim7.holds Tryd.pinned (.plain (OpenSpec.upto codecBitSpec)) codecBitUptoCard

/-- THE SECOND FORM's CARD OF 'gazettelaw01.CodecReads'. -/
def codecReadsUptoCard : Claim7 := { stood := { row := codecReadsUptoRow, standIns := [], harness := (true, "634dc0eb61df2c112edec2ea16528a7814ac1fed8f65cdbae0cea8c774ea26d7"), looks := true }, kinds := [], alts := [], laidByText := true, laidKinds := [.handle, .data], laidTests := true, laidLooks := .later }
def CodecReadsUptoCardSaid : Prop := Claim7.holds Tryd.pinned (.plain (OpenSpec.upto codecReadsSpec)) codecReadsUptoCard

/-- THE SECOND FORM's CARD OF 'gazettelaw01.CodecItems'. -/
def codecItemsUptoCard : Claim7 := { stood := { row := codecItemsUptoRow, standIns := [], harness := (true, "634dc0eb61df2c112edec2ea16528a7814ac1fed8f65cdbae0cea8c774ea26d7"), looks := true }, kinds := [], alts := [], laidByText := true, laidKinds := [.handle, .data], laidTests := true, laidLooks := .later }
def CodecItemsUptoCardSaid : Prop := Claim7.holds Tryd.pinned (.plain (OpenSpec.upto codecItemsSpec)) codecItemsUptoCard

/-- THE SECOND FORM's CARD OF 'gazettelaw01.CodecBack'. -/
def codecBackUptoCard : Claim7 := { stood := { row := codecBackUptoRow, standIns := [], harness := (true, "634dc0eb61df2c112edec2ea16528a7814ac1fed8f65cdbae0cea8c774ea26d7"), looks := true }, kinds := [], alts := [], laidByText := true, laidKinds := [.handle, .data], laidTests := true, laidLooks := .later }
def CodecBackUptoCardSaid : Prop := Claim7.holds Tryd.pinned (.plain (OpenSpec.upto codecBackSpec)) codecBackUptoCard

/-- THE SECOND FORM's CARD OF 'gazettelaw01.CodecNames'. -/
def codecNamesUptoCard : Claim7 := { stood := { row := codecNamesUptoRow, standIns := [], harness := (true, "634dc0eb61df2c112edec2ea16528a7814ac1fed8f65cdbae0cea8c774ea26d7"), looks := true }, kinds := [], alts := [], laidByText := true, laidKinds := [.handle, .data], laidTests := true, laidLooks := .later }
def CodecNamesUptoCardSaid : Prop := Claim7.holds Tryd.pinned (.plain (OpenSpec.upto codecNamesSpec)) codecNamesUptoCard
end Rows
end Go.Proofs.YtcbifehmmfjioaaDoor
