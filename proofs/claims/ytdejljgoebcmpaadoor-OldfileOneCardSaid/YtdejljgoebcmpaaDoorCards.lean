/-
  DERIVED. GIVEN WITH THE SEED: THE CARDS: each row of YtdejljgoebcmpaaDoorRows.lean that lists a variable, with what it lists TIED to the program's text (the seventh form; the later family's looks); each row that meets fmt, with fmt's text TOLD by the authors' own Lean function (tested against real Go, not proved from fmt's source: count such statements apart). THE CARD IS WHAT COUNTS. Prove the row's statement (the work); the ties are given (YtdejljgoebcmpaaDoorTie.lean); close each card by the builder's one call (the guide's Derived/Test/ToyasCard.lean, 'card_holds'). Laid BY PROGRAM, IN A SANDBOX (cutbox-door.mjs). By AI agents, Wed Nov 11 2026. No macro, syntax, notation, axiom, sorry.
-/
import Derived.Test.YtdejljgoebcmpaaDoorRows
import GoSem.ClaimSeven
namespace Go.Proofs.YtdejljgoebcmpaaDoor
namespace Rows

/-- THE TIED CARD OF 'dioramalaw17.OldfileBack'. -/
def oldfileBackCard : Claim7 := { stood := { row := oldfileBackRow, standIns := [], harness := (true, "8b78ff85cd0eacf51a88155cbad7c61d1da4fa380004cd3e67d756dc8757368e"), looks := true }, kinds := [], alts := [], laidByText := true, laidKinds := [.data, .pinned], laidTests := true, laidLooks := .later }
def OldfileBackCardSaid : Prop := Claim7.holds Tryd.pinned (.plain (OpenSpec.ofChange oldfileBackSpec)) oldfileBackCard

/-- THE TIED CARD OF 'dioramalaw17.OldfileOne'. -/
def oldfileOneCard : Claim7 := { stood := { row := oldfileOneRow, standIns := [], harness := (true, "8b78ff85cd0eacf51a88155cbad7c61d1da4fa380004cd3e67d756dc8757368e"), looks := true }, kinds := [], alts := [], laidByText := true, laidKinds := [.data, .pinned], laidTests := true, laidLooks := .later }
def OldfileOneCardSaid : Prop := Claim7.holds Tryd.pinned (.plain (OpenSpec.ofChange oldfileOneSpec)) oldfileOneCard

/-- THE SECOND FORM's CARD OF 'dioramalaw17.OldfileBack'. -/
def oldfileBackUptoCard : Claim7 := { stood := { row := oldfileBackUptoRow, standIns := [], harness := (true, "8b78ff85cd0eacf51a88155cbad7c61d1da4fa380004cd3e67d756dc8757368e"), looks := true }, kinds := [], alts := [], laidByText := true, laidKinds := [.data, .pinned], laidTests := true, laidLooks := .later }
def OldfileBackUptoCardSaid : Prop := Claim7.holds Tryd.pinned (.plain (OpenSpec.upto oldfileBackSpec)) oldfileBackUptoCard

/-- THE SECOND FORM's CARD OF 'dioramalaw17.OldfileOne'. -/
def oldfileOneUptoCard : Claim7 := { stood := { row := oldfileOneUptoRow, standIns := [], harness := (true, "8b78ff85cd0eacf51a88155cbad7c61d1da4fa380004cd3e67d756dc8757368e"), looks := true }, kinds := [], alts := [], laidByText := true, laidKinds := [.data, .pinned], laidTests := true, laidLooks := .later }
def OldfileOneUptoCardSaid : Prop := Claim7.holds Tryd.pinned (.plain (OpenSpec.upto oldfileOneSpec)) oldfileOneUptoCard
end Rows
end Go.Proofs.YtdejljgoebcmpaaDoor
