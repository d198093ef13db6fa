/-
  DERIVED. GIVEN WITH THE SEED: THE CARDS: each row of YtoaniefcobkaiaaGreatDoorRows.lean that lists a variable, with what it lists TIED to the program's text (the seventh form; the later family's looks); each row that meets fmt, with fmt's text TOLD by the authors' own Lean function (tested against real Go, not proved from fmt's source: count such statements apart). THE CARD IS WHAT COUNTS. Prove the row's statement (the work); the ties are given (YtoaniefcobkaiaaGreatDoorTie.lean); close each card by the builder's one call (the guide's Derived/Test/ToyasCard.lean, 'card_holds'). Laid BY PROGRAM, IN A SANDBOX (cutbox-door.mjs). By AI agents, Wed Nov 11 2026. No macro, syntax, notation, axiom, sorry.
-/
import Derived.Test.YtoaniefcobkaiaaGreatDoorRows
import GoSem.ClaimSeven
namespace Go.Proofs.YtoaniefcobkaiaaGreatDoor
namespace Rows

/-- THE TIED CARD OF 'marqueelaw18.TermResets'. -/
def termResetsCard : Claim7 := { stood := { row := termResetsRow, standIns := [], harness := (true, "30dc466a5e44d3df03850ab079c273890e3fbd623fc7da739d09c3cb136c67de"), looks := true }, kinds := [], alts := [], laidByText := true, laidKinds := [.data, .data, .data, .data, .sentinel, .sentinel, .pinned], laidTests := true, laidLooks := .later }
def TermResetsCardSaid : Prop := Claim7.holds Tryz.pinned (.plain (OpenSpec.ofChange termResetsSpec)) termResetsCard

/-- THE TIED CARD OF 'marqueelaw18.TermCuts'. -/
def termCutsCard : Claim7 := { stood := { row := termCutsRow, standIns := [], harness := (true, "30dc466a5e44d3df03850ab079c273890e3fbd623fc7da739d09c3cb136c67de"), looks := true }, kinds := [], alts := [], laidByText := true, laidKinds := [.data, .data, .data, .data, .sentinel, .sentinel, .pinned], laidTests := true, laidLooks := .later }
def TermCutsCardSaid : Prop := Claim7.holds Tryz.pinned (.plain (OpenSpec.ofChange termCutsSpec)) termCutsCard

/-- THE TIED CARD OF 'marqueelaw18.TermNone'. -/
def termNoneCard : Claim7 := { stood := { row := termNoneRow, standIns := [], harness := (true, "30dc466a5e44d3df03850ab079c273890e3fbd623fc7da739d09c3cb136c67de"), looks := true }, kinds := [], alts := [], laidByText := true, laidKinds := [.data, .data, .data, .data, .sentinel, .sentinel, .pinned], laidTests := true, laidLooks := .later }
def TermNoneCardSaid : Prop := Claim7.holds Tryz.pinned (.plain (OpenSpec.ofChange termNoneSpec)) termNoneCard

/-- THE SECOND FORM's CARD OF 'marqueelaw18.TermResets'. -/
def termResetsUptoCard : Claim7 := { stood := { row := termResetsUptoRow, standIns := [], harness := (true, "30dc466a5e44d3df03850ab079c273890e3fbd623fc7da739d09c3cb136c67de"), looks := true }, kinds := [], alts := [], laidByText := true, laidKinds := [.data, .data, .data, .data, .sentinel, .sentinel, .pinned], laidTests := true, laidLooks := .later }
def TermResetsUptoCardSaid : Prop := Claim7.holds Tryz.pinned (.plain (OpenSpec.upto termResetsSpec)) termResetsUptoCard

/-- THE SECOND FORM's CARD OF 'marqueelaw18.TermCuts'. -/
def termCutsUptoCard : Claim7 := { stood := { row := termCutsUptoRow, standIns := [], harness := (true, "30dc466a5e44d3df03850ab079c273890e3fbd623fc7da739d09c3cb136c67de"), looks := true }, kinds := [], alts := [], laidByText := true, laidKinds := [.data, .data, .data, .data, .sentinel, .sentinel, .pinned], laidTests := true, laidLooks := .later }
def TermCutsUptoCardSaid : Prop := Claim7.holds Tryz.pinned (.plain (OpenSpec.upto termCutsSpec)) termCutsUptoCard

/-- THE SECOND FORM's CARD OF 'marqueelaw18.TermNone'. -/
def termNoneUptoCard : Claim7 := { stood := { row := termNoneUptoRow, standIns := [], harness := (true, "30dc466a5e44d3df03850ab079c273890e3fbd623fc7da739d09c3cb136c67de"), looks := true }, kinds := [], alts := [], laidByText := true, laidKinds := [.data, .data, .data, .data, .sentinel, .sentinel, .pinned], laidTests := true, laidLooks := .later }
def TermNoneUptoCardSaid : Prop := Claim7.holds Tryz.pinned (.plain (OpenSpec.upto termNoneSpec)) termNoneUptoCard
end Rows
end Go.Proofs.YtoaniefcobkaiaaGreatDoor
