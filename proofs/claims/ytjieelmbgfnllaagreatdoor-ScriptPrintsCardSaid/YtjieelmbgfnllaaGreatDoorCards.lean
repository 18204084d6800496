/-
  DERIVED. GIVEN WITH THE SEED: THE CARDS: each row of YtjieelmbgfnllaaGreatDoorRows.lean that lists a variable, with what it lists TIED to the program's text (the seventh form; the later family's looks); each row that meets fmt, with fmt's text TOLD by the authors' own Lean function (tested against real Go, not proved from fmt's source: count such statements apart). THE CARD IS WHAT COUNTS. Prove the row's statement (the work); the ties are given (YtjieelmbgfnllaaGreatDoorTie.lean); close each card by the builder's one call (the guide's Derived/Test/ToyasCard.lean, 'card_holds'). Laid BY PROGRAM, IN A SANDBOX (cutbox-door.mjs). By AI agents, Wed Nov 11 2026. No macro, syntax, notation, axiom, sorry.
-/
import Derived.Test.YtjieelmbgfnllaaGreatDoorRows
import GoSem.ClaimSeven
namespace Go.Proofs.YtjieelmbgfnllaaGreatDoor
namespace Rows

/-- THE TIED CARD OF 'screelaw20.ScriptParses'. -/
def scriptParsesCard : Claim7 := { stood := { row := scriptParsesRow, standIns := [], harness := (true, "a9966e7656cff759dfac7da7c1bf5e102bccdc1b157d8210733290071455c32e"), looks := true }, kinds := [], alts := [], laidByText := true, laidKinds := [.data, .data, .data, .data, .handle, .pinned], laidTests := true, laidLooks := .later }
def ScriptParsesCardSaid : Prop := Claim7.holds Tryz.pinned (.plain (OpenSpec.ofChange scriptParsesSpec)) scriptParsesCard

/-- THE TIED CARD OF 'screelaw20.ScriptPrints'. -/
def scriptPrintsCard : Claim7 := { stood := { row := scriptPrintsRow, standIns := [], harness := (true, "a9966e7656cff759dfac7da7c1bf5e102bccdc1b157d8210733290071455c32e"), looks := true }, kinds := [], alts := [], laidByText := true, laidKinds := [.data, .data, .data, .data, .handle, .pinned], laidTests := true, laidLooks := .later }
def ScriptPrintsCardSaid : Prop := Claim7.holds Tryz.pinned (.plain (OpenSpec.ofChange scriptPrintsSpec)) scriptPrintsCard

/-- THE TIED CARD OF 'screelaw20.ScriptBack'. -/
def scriptBackCard : Claim7 := { stood := { row := scriptBackRow, standIns := [], harness := (true, "a9966e7656cff759dfac7da7c1bf5e102bccdc1b157d8210733290071455c32e"), looks := true }, kinds := [], alts := [], laidByText := true, laidKinds := [.data, .data, .data, .data, .handle, .pinned], laidTests := true, laidLooks := .later }
def ScriptBackCardSaid : Prop := Claim7.holds Tryz.pinned (.plain (OpenSpec.ofChange scriptBackSpec)) scriptBackCard

/-- THE TIED CARD OF 'screelaw20.ScriptAgain'. -/
def scriptAgainCard : Claim7 := { stood := { row := scriptAgainRow, standIns := [], harness := (true, "a9966e7656cff759dfac7da7c1bf5e102bccdc1b157d8210733290071455c32e"), looks := true }, kinds := [], alts := [], laidByText := true, laidKinds := [.data, .data, .data, .data, .handle, .pinned], laidTests := true, laidLooks := .later }
def ScriptAgainCardSaid : Prop := Claim7.holds Tryz.pinned (.plain (OpenSpec.ofChange scriptAgainSpec)) scriptAgainCard

/-- THE TIED CARD OF 'screelaw20.ScriptSpaces'. -/
def scriptSpacesCard : Claim7 := { stood := { row := scriptSpacesRow, standIns := [], harness := (true, "a9966e7656cff759dfac7da7c1bf5e102bccdc1b157d8210733290071455c32e"), looks := true }, kinds := [], alts := [], laidByText := true, laidKinds := [.data, .data, .data, .data, .handle, .pinned], laidTests := true, laidLooks := .later }
def ScriptSpacesCardSaid : Prop := Claim7.holds Tryz.pinned (.plain (OpenSpec.ofChange scriptSpacesSpec)) scriptSpacesCard

/-- THE TIED CARD OF 'screelaw20.ScriptUnfolds'. -/
def scriptUnfoldsCard : Claim7 := { stood := { row := scriptUnfoldsRow, standIns := [], harness := (true, "a9966e7656cff759dfac7da7c1bf5e102bccdc1b157d8210733290071455c32e"), looks := true }, kinds := [], alts := [], laidByText := true, laidKinds := [.data, .data, .data, .data, .handle, .pinned], laidTests := true, laidLooks := .later }
def ScriptUnfoldsCardSaid : Prop := Claim7.holds Tryz.pinned (.plain (OpenSpec.ofChange scriptUnfoldsSpec)) scriptUnfoldsCard

/-- THE TIED CARD OF 'screelaw20.ScriptBehind'. -/
def scriptBehindCard : Claim7 := { stood := { row := scriptBehindRow, standIns := [], harness := (true, "a9966e7656cff759dfac7da7c1bf5e102bccdc1b157d8210733290071455c32e"), looks := true }, kinds := [], alts := [], laidByText := true, laidKinds := [.data, .data, .data, .data, .handle, .pinned], laidTests := true, laidLooks := .later }
def ScriptBehindCardSaid : Prop := Claim7.holds Tryz.pinned (.plain (OpenSpec.ofChange scriptBehindSpec)) scriptBehindCard

/-- THE TIED CARD OF 'screelaw20.ScriptTurns'. -/
def scriptTurnsCard : Claim7 := { stood := { row := scriptTurnsRow, standIns := [], harness := (true, "a9966e7656cff759dfac7da7c1bf5e102bccdc1b157d8210733290071455c32e"), looks := true }, kinds := [], alts := [], laidByText := true, laidKinds := [.data, .data, .data, .data, .handle, .listed, .data, .pinned], laidTests := true, laidLooks := .later }
def ScriptTurnsCardSaid : Prop := Claim7.holds Tryz.pinned (.plain (OpenSpec.ofChange scriptTurnsSpec)) scriptTurnsCard

/-- THE SECOND FORM's CARD OF 'screelaw20.ScriptParses'. -/
def scriptParsesUptoCard : Claim7 := { stood := { row := scriptParsesUptoRow, standIns := [], harness := (true, "a9966e7656cff759dfac7da7c1bf5e102bccdc1b157d8210733290071455c32e"), looks := true }, kinds := [], alts := [], laidByText := true, laidKinds := [.data, .data, .data, .data, .handle, .pinned], laidTests := true, laidLooks := .later }
def ScriptParsesUptoCardSaid : Prop := Claim7.holds Tryz.pinned (.plain (OpenSpec.upto scriptParsesSpec)) scriptParsesUptoCard

/-- THE SECOND FORM's CARD OF 'screelaw20.ScriptPrints'. -/
def scriptPrintsUptoCard : Claim7 := { stood := { row := scriptPrintsUptoRow, standIns := [], harness := (true, "a9966e7656cff759dfac7da7c1bf5e102bccdc1b157d8210733290071455c32e"), looks := true }, kinds := [], alts := [], laidByText := true, laidKinds := [.data, .data, .data, .data, .handle, .pinned], laidTests := true, laidLooks := .later }
def ScriptPrintsUptoCardSaid : Prop := Claim7.holds Tryz.pinned (.plain (OpenSpec.upto scriptPrintsSpec)) scriptPrintsUptoCard

/-- THE SECOND FORM's CARD OF 'screelaw20.ScriptBack'. -/
def scriptBackUptoCard : Claim7 := { stood := { row := scriptBackUptoRow, standIns := [], harness := (true, "a9966e7656cff759dfac7da7c1bf5e102bccdc1b157d8210733290071455c32e"), looks := true }, kinds := [], alts := [], laidByText := true, laidKinds := [.data, .data, .data, .data, .handle, .pinned], laidTests := true, laidLooks := .later }
def ScriptBackUptoCardSaid : Prop := Claim7.holds Tryz.pinned (.plain (OpenSpec.upto scriptBackSpec)) scriptBackUptoCard

/-- THE SECOND FORM's CARD OF 'screelaw20.ScriptAgain'. -/
def scriptAgainUptoCard : Claim7 := { stood := { row := scriptAgainUptoRow, standIns := [], harness := (true, "a9966e7656cff759dfac7da7c1bf5e102bccdc1b157d8210733290071455c32e"), looks := true }, kinds := [], alts := [], laidByText := true, laidKinds := [.data, .data, .data, .data, .handle, .pinned], laidTests := true, laidLooks := .later }
def ScriptAgainUptoCardSaid : Prop := Claim7.holds Tryz.pinned (.plain (OpenSpec.upto scriptAgainSpec)) scriptAgainUptoCard

/-- THE SECOND FORM's CARD OF 'screelaw20.ScriptSpaces'. -/
def scriptSpacesUptoCard : Claim7 := { stood := { row := scriptSpacesUptoRow, standIns := [], harness := (true, "a9966e7656cff759dfac7da7c1bf5e102bccdc1b157d8210733290071455c32e"), looks := true }, kinds := [], alts := [], laidByText := true, laidKinds := [.data, .data, .data, .data, .handle, .pinned], laidTests := true, laidLooks := .later }
def ScriptSpacesUptoCardSaid : Prop := Claim7.holds Tryz.pinned (.plain (OpenSpec.upto scriptSpacesSpec)) scriptSpacesUptoCard

/-- THE SECOND FORM's CARD OF 'screelaw20.ScriptUnfolds'. -/
def scriptUnfoldsUptoCard : Claim7 := { stood := { row := scriptUnfoldsUptoRow, standIns := [], harness := (true, "a9966e7656cff759dfac7da7c1bf5e102bccdc1b157d8210733290071455c32e"), looks := true }, kinds := [], alts := [], laidByText := true, laidKinds := [.data, .data, .data, .data, .handle, .pinned], laidTests := true, laidLooks := .later }
def ScriptUnfoldsUptoCardSaid : Prop := Claim7.holds Tryz.pinned (.plain (OpenSpec.upto scriptUnfoldsSpec)) scriptUnfoldsUptoCard

/-- THE SECOND FORM's CARD OF 'screelaw20.ScriptBehind'. -/
def scriptBehindUptoCard : Claim7 := { stood := { row := scriptBehindUptoRow, standIns := [], harness := (true, "a9966e7656cff759dfac7da7c1bf5e102bccdc1b157d8210733290071455c32e"), looks := true }, kinds := [], alts := [], laidByText := true, laidKinds := [.data, .data, .data, .data, .handle, .pinned], laidTests := true, laidLooks := .later }
def ScriptBehindUptoCardSaid : Prop := Claim7.holds Tryz.pinned (.plain (OpenSpec.upto scriptBehindSpec)) scriptBehindUptoCard

/-- THE SECOND FORM's CARD OF 'screelaw20.ScriptTurns'. -/
def scriptTurnsUptoCard : Claim7 := { stood := { row := scriptTurnsUptoRow, standIns := [], harness := (true, "a9966e7656cff759dfac7da7c1bf5e102bccdc1b157d8210733290071455c32e"), looks := true }, kinds := [], alts := [], laidByText := true, laidKinds := [.data, .data, .data, .data, .handle, .listed, .data, .pinned], laidTests := true, laidLooks := .later }
def ScriptTurnsUptoCardSaid : Prop := Claim7.holds Tryz.pinned (.plain (OpenSpec.upto scriptTurnsSpec)) scriptTurnsUptoCard
end Rows
end Go.Proofs.YtjieelmbgfnllaaGreatDoor
