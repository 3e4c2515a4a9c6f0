/-
  DERIVED. GIVEN WITH THE SEED: THE CARDS: each row of YtbahiohlhhdkcaaDoorRows.lean that lists a variable, with what it lists TIED to the program's text (the seventh form; the later family's looks); each row that meets fmt, with fmt's text TOLD by the authors' own Lean function (tested against real Go, not proved from fmt's source: count such statements apart). THE CARD IS WHAT COUNTS. Prove the row's statement (the work); the ties are given (YtbahiohlhhdkcaaDoorTie.lean); close each card by the builder's one call (the guide's Derived/Test/ToyasCard.lean, 'card_holds'). Laid BY PROGRAM, IN A SANDBOX (cutbox-door.mjs). By AI agents, Wed Nov 11 2026. No macro, syntax, notation, axiom, sorry.
-/
import Derived.Test.YtbahiohlhhdkcaaDoorRows
import GoSem.ClaimSeven
namespace Go.Proofs.YtbahiohlhhdkcaaDoor
namespace Rows

/-- THE TIED CARD OF 'telltalelaw09.JournalAppends'. -/
def journalAppendsCard : Claim7 := { stood := { row := journalAppendsRow, standIns := [], harness := (true, "18c6e7e62a375e3cd36859e377bce9ca97908a68763cf4252a6d07476c2d47e9"), looks := false }, kinds := [], alts := [], laidByText := true, laidKinds := [.data], laidTests := true, laidLooks := .later }
def JournalAppendsCardSaid : Prop := Claim7.holds Tryd.pinned (.plain (OpenSpec.ofChange journalAppendsSpec)) journalAppendsCard

/-- THE TIED CARD OF 'telltalelaw09.JournalScans'. -/
def journalScansCard : Claim7 := { stood := { row := journalScansRow, standIns := [], harness := (true, "18c6e7e62a375e3cd36859e377bce9ca97908a68763cf4252a6d07476c2d47e9"), looks := false }, kinds := [], alts := [], laidByText := true, laidKinds := [.data], laidTests := true, laidLooks := .later }
def JournalScansCardSaid : Prop := Claim7.holds Tryd.pinned (.plain (OpenSpec.ofChange journalScansSpec)) journalScansCard

/-- THE TIED CARD OF 'telltalelaw09.JournalAgain'. -/
def journalAgainCard : Claim7 := { stood := { row := journalAgainRow, standIns := [], harness := (true, "18c6e7e62a375e3cd36859e377bce9ca97908a68763cf4252a6d07476c2d47e9"), looks := false }, kinds := [], alts := [], laidByText := true, laidKinds := [.data], laidTests := true, laidLooks := .later }
def JournalAgainCardSaid : Prop := Claim7.holds Tryd.pinned (.plain (OpenSpec.ofChange journalAgainSpec)) journalAgainCard

/-- THE TIED CARD OF 'telltalelaw09.JournalStarts'. -/
def journalStartsCard : Claim7 := { stood := { row := journalStartsRow, standIns := [], harness := (true, "18c6e7e62a375e3cd36859e377bce9ca97908a68763cf4252a6d07476c2d47e9"), looks := false }, kinds := [], alts := [], laidByText := true, laidKinds := [.data], laidTests := true, laidLooks := .later }
def JournalStartsCardSaid : Prop := Claim7.holds Tryd.pinned (.plain (OpenSpec.ofChange journalStartsSpec)) journalStartsCard

/-- THE TIED CARD OF 'telltalelaw09.JournalLasts'. -/
def journalLastsCard : Claim7 := { stood := { row := journalLastsRow, standIns := [], harness := (true, "18c6e7e62a375e3cd36859e377bce9ca97908a68763cf4252a6d07476c2d47e9"), looks := false }, kinds := [], alts := [], laidByText := true, laidKinds := [.data], laidTests := true, laidLooks := .later }
def JournalLastsCardSaid : Prop := Claim7.holds Tryd.pinned (.plain (OpenSpec.ofChange journalLastsSpec)) journalLastsCard

/-- THE SECOND FORM's CARD OF 'telltalelaw09.JournalAppends'. -/
def journalAppendsUptoCard : Claim7 := { stood := { row := journalAppendsUptoRow, standIns := [], harness := (true, "18c6e7e62a375e3cd36859e377bce9ca97908a68763cf4252a6d07476c2d47e9"), looks := false }, kinds := [], alts := [], laidByText := true, laidKinds := [.data], laidTests := true, laidLooks := .later }
def JournalAppendsUptoCardSaid : Prop := Claim7.holds Tryd.pinned (.plain (OpenSpec.upto journalAppendsSpec)) journalAppendsUptoCard

/-- THE SECOND FORM's CARD OF 'telltalelaw09.JournalScans'. -/
def journalScansUptoCard : Claim7 := { stood := { row := journalScansUptoRow, standIns := [], harness := (true, "18c6e7e62a375e3cd36859e377bce9ca97908a68763cf4252a6d07476c2d47e9"), looks := false }, kinds := [], alts := [], laidByText := true, laidKinds := [.data], laidTests := true, laidLooks := .later }
def JournalScansUptoCardSaid : Prop := Claim7.holds Tryd.pinned (.plain (OpenSpec.upto journalScansSpec)) journalScansUptoCard

/-- THE SECOND FORM's CARD OF 'telltalelaw09.JournalAgain'. -/
def journalAgainUptoCard : Claim7 := { stood := { row := journalAgainUptoRow, standIns := [], harness := (true, "18c6e7e62a375e3cd36859e377bce9ca97908a68763cf4252a6d07476c2d47e9"), looks := false }, kinds := [], alts := [], laidByText := true, laidKinds := [.data], laidTests := true, laidLooks := .later }
def JournalAgainUptoCardSaid : Prop := Claim7.holds Tryd.pinned (.plain (OpenSpec.upto journalAgainSpec)) journalAgainUptoCard

/-- THE SECOND FORM's CARD OF 'telltalelaw09.JournalStarts'. -/
def journalStartsUptoCard : Claim7 := { stood := { row := journalStartsUptoRow, standIns := [], harness := (true, "18c6e7e62a375e3cd36859e377bce9ca97908a68763cf4252a6d07476c2d47e9"), looks := false }, kinds := [], alts := [], laidByText := true, laidKinds := [.data], laidTests := true, laidLooks := .later }
def JournalStartsUptoCardSaid : Prop := Claim7.holds Tryd.pinned (.plain (OpenSpec.upto journalStartsSpec)) journalStartsUptoCard

/-- THE SECOND FORM's CARD OF 'telltalelaw09.JournalLasts'. -/
def journalLastsUptoCard : Claim7 := { stood := { row := journalLastsUptoRow, standIns := [], harness := (true, "18c6e7e62a375e3cd36859e377bce9ca97908a68763cf4252a6d07476c2d47e9"), looks := false }, kinds := [], alts := [], laidByText := true, laidKinds := [.data], laidTests := true, laidLooks := .later }
def JournalLastsUptoCardSaid : Prop := Claim7.holds Tryd.pinned (.plain (OpenSpec.upto journalLastsSpec)) journalLastsUptoCard
end Rows
end Go.Proofs.YtbahiohlhhdkcaaDoor
