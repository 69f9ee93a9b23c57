/-
  DERIVED. GIVEN WITH THE SEED: THE CARDS: each row of YtngkbmlmlfofdaaDoorRows.lean that lists a variable, with what it lists TIED to the program's text (the seventh form; the later family's looks); each row that meets fmt, with fmt's text TOLD by the authors' own Lean function (tested against real Go, not proved from fmt's source: count such statements apart). THE CARD IS WHAT COUNTS. Prove the row's statement (the work); the ties are given (YtngkbmlmlfofdaaDoorTie.lean); close each card by the builder's one call (the guide's Derived/Test/ToyasCard.lean, 'card_holds'). Laid BY PROGRAM, IN A SANDBOX (cutbox-door.mjs). By AI agents, Wed Nov 11 2026. No macro, syntax, notation, axiom, sorry.
-/
import Derived.Test.YtngkbmlmlfofdaaDoorRows
import GoSem.ClaimSeven
namespace Go.Proofs.YtngkbmlmlfofdaaDoor
namespace Rows

/-- THE TIED CARD OF 'wainloadlaw03.FieldsOctals'. -/
def fieldsOctalsCard : Claim7 := { stood := { row := fieldsOctalsRow, standIns := [], harness := (true, "ab737519bc81643adb1fb78bcf92ceabc4e260920beafdb82b7abda541b3aead"), looks := false }, kinds := [], alts := [], laidByText := true, laidKinds := [.data, .data, .data, .data, .pinned], laidTests := true, laidLooks := .later }
def FieldsOctalsCardSaid : Prop := Claim7.holds Tryd.pinned (.plain (OpenSpec.ofChange fieldsOctalsSpec)) fieldsOctalsCard

/-- THE TIED CARD OF 'wainloadlaw03.FieldsPuts'. -/
def fieldsPutsCard : Claim7 := { stood := { row := fieldsPutsRow, standIns := [], harness := (true, "ab737519bc81643adb1fb78bcf92ceabc4e260920beafdb82b7abda541b3aead"), looks := false }, kinds := [], alts := [], laidByText := true, laidKinds := [.data, .data, .data, .data, .pinned], laidTests := true, laidLooks := .later }
def FieldsPutsCardSaid : Prop := Claim7.holds Tryd.pinned (.plain (OpenSpec.ofChange fieldsPutsSpec)) fieldsPutsCard

/-- THE TIED CARD OF 'wainloadlaw03.FieldsSeconds'. -/
def fieldsSecondsCard : Claim7 := { stood := { row := fieldsSecondsRow, standIns := [], harness := (true, "ab737519bc81643adb1fb78bcf92ceabc4e260920beafdb82b7abda541b3aead"), looks := false }, kinds := [], alts := [], laidByText := true, laidKinds := [.data, .data, .data, .data, .pinned], laidTests := true, laidLooks := .later }
def FieldsSecondsCardSaid : Prop := Claim7.holds Tryd.pinned (.plain (OpenSpec.ofChange fieldsSecondsSpec)) fieldsSecondsCard

/-- THE TIED CARD OF 'wainloadlaw03.FieldsTimes'. -/
def fieldsTimesCard : Claim7 := { stood := { row := fieldsTimesRow, standIns := [], harness := (true, "ab737519bc81643adb1fb78bcf92ceabc4e260920beafdb82b7abda541b3aead"), looks := false }, kinds := [], alts := [], laidByText := true, laidKinds := [.data, .data, .data, .data, .pinned], laidTests := true, laidLooks := .later }
def FieldsTimesCardSaid : Prop := Claim7.holds Tryd.pinned (.plain (OpenSpec.ofChange fieldsTimesSpec)) fieldsTimesCard

/-- THE TIED CARD OF 'wainloadlaw03.FieldsBlanks'. -/
def fieldsBlanksCard : Claim7 := { stood := { row := fieldsBlanksRow, standIns := [], harness := (true, "ab737519bc81643adb1fb78bcf92ceabc4e260920beafdb82b7abda541b3aead"), looks := false }, kinds := [], alts := [], laidByText := true, laidKinds := [.data, .data, .data, .data, .pinned], laidTests := true, laidLooks := .later }
def FieldsBlanksCardSaid : Prop := Claim7.holds Tryd.pinned (.plain (OpenSpec.ofChange fieldsBlanksSpec)) fieldsBlanksCard

/-- THE TIED CARD OF 'wainloadlaw03.FieldsLe'. -/
def fieldsLeCard : Claim7 := { stood := { row := fieldsLeRow, standIns := [], harness := (true, "ab737519bc81643adb1fb78bcf92ceabc4e260920beafdb82b7abda541b3aead"), looks := false }, kinds := [], alts := [], laidByText := true, laidKinds := [.data, .data, .data, .data, .pinned], laidTests := true, laidLooks := .later }
def FieldsLeCardSaid : Prop := Claim7.holds Tryd.pinned (.plain (OpenSpec.ofChange fieldsLeSpec)) fieldsLeCard

/-- THE TIED CARD OF 'wainloadlaw03.FieldsDecimals'. -/
def fieldsDecimalsCard : Claim7 := { stood := { row := fieldsDecimalsRow, standIns := [], harness := (true, "ab737519bc81643adb1fb78bcf92ceabc4e260920beafdb82b7abda541b3aead"), looks := false }, kinds := [], alts := [], laidByText := true, laidKinds := [.data, .data, .data, .data, .pinned], laidTests := true, laidLooks := .later }
def FieldsDecimalsCardSaid : Prop := Claim7.holds Tryd.pinned (.plain (OpenSpec.ofChange fieldsDecimalsSpec)) fieldsDecimalsCard

/-- THE SECOND FORM's CARD OF 'wainloadlaw03.FieldsOctals'. -/
def fieldsOctalsUptoCard : Claim7 := { stood := { row := fieldsOctalsUptoRow, standIns := [], harness := (true, "ab737519bc81643adb1fb78bcf92ceabc4e260920beafdb82b7abda541b3aead"), looks := false }, kinds := [], alts := [], laidByText := true, laidKinds := [.data, .data, .data, .data, .pinned], laidTests := true, laidLooks := .later }
def FieldsOctalsUptoCardSaid : Prop := Claim7.holds Tryd.pinned (.plain (OpenSpec.upto fieldsOctalsSpec)) fieldsOctalsUptoCard

/-- THE SECOND FORM's CARD OF 'wainloadlaw03.FieldsPuts'. -/
def fieldsPutsUptoCard : Claim7 := { stood := { row := fieldsPutsUptoRow, standIns := [], harness := (true, "ab737519bc81643adb1fb78bcf92ceabc4e260920beafdb82b7abda541b3aead"), looks := false }, kinds := [], alts := [], laidByText := true, laidKinds := [.data, .data, .data, .data, .pinned], laidTests := true, laidLooks := .later }
def FieldsPutsUptoCardSaid : Prop := Claim7.holds Tryd.pinned (.plain (OpenSpec.upto fieldsPutsSpec)) fieldsPutsUptoCard

/-- THE SECOND FORM's CARD OF 'wainloadlaw03.FieldsSeconds'. -/
def fieldsSecondsUptoCard : Claim7 := { stood := { row := fieldsSecondsUptoRow, standIns := [], harness := (true, "ab737519bc81643adb1fb78bcf92ceabc4e260920beafdb82b7abda541b3aead"), looks := false }, kinds := [], alts := [], laidByText := true, laidKinds := [.data, .data, .data, .data, .pinned], laidTests := true, laidLooks := .later }
def FieldsSecondsUptoCardSaid : Prop := Claim7.holds Tryd.pinned (.plain (OpenSpec.upto fieldsSecondsSpec)) fieldsSecondsUptoCard

/-- THE SECOND FORM's CARD OF 'wainloadlaw03.FieldsTimes'. -/
def fieldsTimesUptoCard : Claim7 := { stood := { row := fieldsTimesUptoRow, standIns := [], harness := (true, "ab737519bc81643adb1fb78bcf92ceabc4e260920beafdb82b7abda541b3aead"), looks := false }, kinds := [], alts := [], laidByText := true, laidKinds := [.data, .data, .data, .data, .pinned], laidTests := true, laidLooks := .later }
def FieldsTimesUptoCardSaid : Prop := Claim7.holds Tryd.pinned (.plain (OpenSpec.upto fieldsTimesSpec)) fieldsTimesUptoCard

/-- THE SECOND FORM's CARD OF 'wainloadlaw03.FieldsBlanks'. -/
def fieldsBlanksUptoCard : Claim7 := { stood := { row := fieldsBlanksUptoRow, standIns := [], harness := (true, "ab737519bc81643adb1fb78bcf92ceabc4e260920beafdb82b7abda541b3aead"), looks := false }, kinds := [], alts := [], laidByText := true, laidKinds := [.data, .data, .data, .data, .pinned], laidTests := true, laidLooks := .later }
def FieldsBlanksUptoCardSaid : Prop := Claim7.holds Tryd.pinned (.plain (OpenSpec.upto fieldsBlanksSpec)) fieldsBlanksUptoCard

/-- THE SECOND FORM's CARD OF 'wainloadlaw03.FieldsLe'. -/
def fieldsLeUptoCard : Claim7 := { stood := { row := fieldsLeUptoRow, standIns := [], harness := (true, "ab737519bc81643adb1fb78bcf92ceabc4e260920beafdb82b7abda541b3aead"), looks := false }, kinds := [], alts := [], laidByText := true, laidKinds := [.data, .data, .data, .data, .pinned], laidTests := true, laidLooks := .later }
def FieldsLeUptoCardSaid : Prop := Claim7.holds Tryd.pinned (.plain (OpenSpec.upto fieldsLeSpec)) fieldsLeUptoCard

/-- THE SECOND FORM's CARD OF 'wainloadlaw03.FieldsDecimals'. -/
def fieldsDecimalsUptoCard : Claim7 := { stood := { row := fieldsDecimalsUptoRow, standIns := [], harness := (true, "ab737519bc81643adb1fb78bcf92ceabc4e260920beafdb82b7abda541b3aead"), looks := false }, kinds := [], alts := [], laidByText := true, laidKinds := [.data, .data, .data, .data, .pinned], laidTests := true, laidLooks := .later }
def FieldsDecimalsUptoCardSaid : Prop := Claim7.holds Tryd.pinned (.plain (OpenSpec.upto fieldsDecimalsSpec)) fieldsDecimalsUptoCard
end Rows
end Go.Proofs.YtngkbmlmlfofdaaDoor
