/-
  DERIVED. GIVEN WITH THE SEED: THE CARDS: each row of YtlpkgngjofabaaaDoorRows.lean that lists a variable, with what it lists TIED to the program's text (the seventh form; the later family's looks); each row that meets fmt, with fmt's text TOLD by the authors' own Lean function (tested against real Go, not proved from fmt's source: count such statements apart). THE CARD IS WHAT COUNTS. Prove the row's statement (the work); the ties are given (YtlpkgngjofabaaaDoorTie.lean); close each card by the builder's one call (the guide's Derived/Test/ToyasCard.lean, 'card_holds'). Laid BY PROGRAM, IN A SANDBOX (cutbox-door.mjs). By AI agents, Wed Nov 11 2026. No macro, syntax, notation, axiom, sorry.
-/
import Derived.Test.YtlpkgngjofabaaaDoorRows
import GoSem.ClaimSeven
namespace Go.Proofs.YtlpkgngjofabaaaDoor
namespace Rows

/-- THE TIED CARD OF 'chancellaw10.SaltUsers'. -/
def saltUsersCard : Claim7 := { stood := { row := saltUsersRow, standIns := [], harness := (true, "6f941cee305a5549f11db4dd95ec9c4a547e13ea3f8cff6f7b2acd810358766e"), looks := false }, kinds := [], alts := [], laidByText := true, laidKinds := [.data, .pinned], laidTests := true, laidLooks := .later }
def SaltUsersCardSaid : Prop := Claim7.holds Tryd.pinned (.plain (OpenSpec.ofChange saltUsersSpec)) saltUsersCard

/-- THE SECOND FORM's CARD OF 'chancellaw10.SaltUsers'. -/
def saltUsersUptoCard : Claim7 := { stood := { row := saltUsersUptoRow, standIns := [], harness := (true, "6f941cee305a5549f11db4dd95ec9c4a547e13ea3f8cff6f7b2acd810358766e"), looks := false }, kinds := [], alts := [], laidByText := true, laidKinds := [.data, .pinned], laidTests := true, laidLooks := .later }
def SaltUsersUptoCardSaid : Prop := Claim7.holds Tryd.pinned (.plain (OpenSpec.upto saltUsersSpec)) saltUsersUptoCard
end Rows
end Go.Proofs.YtlpkgngjofabaaaDoor
