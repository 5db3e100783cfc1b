/-
  DERIVED. GIVEN WITH THE SEED: THE CARDS: each row of YtpleiklodomgiaaGreatDoorRows.lean that lists a variable, with what it lists TIED to the program's text (the seventh form; the later family's looks); each row that meets fmt, with fmt's text TOLD by the authors' own Lean function (tested against real Go, not proved from fmt's source: count such statements apart). THE CARD IS WHAT COUNTS. Prove the row's statement (the work); the ties are given (YtpleiklodomgiaaGreatDoorTie.lean); close each card by the builder's one call (the guide's Derived/Test/ToyasCard.lean, 'card_holds'). Laid BY PROGRAM, IN A SANDBOX (cutbox-door.mjs). By AI agents, Wed Nov 11 2026. No macro, syntax, notation, axiom, sorry.
-/
import Derived.Test.YtpleiklodomgiaaGreatDoorRows
import GoSem.ClaimSeven
namespace Go.Proofs.YtpleiklodomgiaaGreatDoor
namespace Rows

/-- THE TIED CARD OF 'magpielaw11.ModelIs'. -/
def modelIsCard : Claim7 := { stood := { row := modelIsRow, standIns := [], harness := (true, "947f2d40b1f9a7cb3b1c0cfbf6802f4c0ab41b60af31e10922573f3699864cdb"), looks := false }, kinds := [], alts := [], laidByText := true, laidKinds := [.data, .pinned], laidTests := true, laidLooks := .later }
def ModelIsCardSaid : Prop := Claim7.holds Tryz.pinned (.plain (OpenSpec.ofChange modelIsSpec)) modelIsCard

/-- THE TIED CARD OF 'magpielaw11.ModelPages'. -/
def modelPagesCard : Claim7 := { stood := { row := modelPagesRow, standIns := [], harness := (true, "947f2d40b1f9a7cb3b1c0cfbf6802f4c0ab41b60af31e10922573f3699864cdb"), looks := false }, kinds := [], alts := [], laidByText := true, laidKinds := [.data, .pinned], laidTests := true, laidLooks := .later }
def ModelPagesCardSaid : Prop := Claim7.holds Tryz.pinned (.plain (OpenSpec.ofChange modelPagesSpec)) modelPagesCard

/-- THE SECOND FORM's CARD OF 'magpielaw11.ModelIs'. -/
def modelIsUptoCard : Claim7 := { stood := { row := modelIsUptoRow, standIns := [], harness := (true, "947f2d40b1f9a7cb3b1c0cfbf6802f4c0ab41b60af31e10922573f3699864cdb"), looks := false }, kinds := [], alts := [], laidByText := true, laidKinds := [.data, .pinned], laidTests := true, laidLooks := .later }
def ModelIsUptoCardSaid : Prop := Claim7.holds Tryz.pinned (.plain (OpenSpec.upto modelIsSpec)) modelIsUptoCard

/-- THE SECOND FORM's CARD OF 'magpielaw11.ModelPages'. -/
def modelPagesUptoCard : Claim7 := { stood := { row := modelPagesUptoRow, standIns := [], harness := (true, "947f2d40b1f9a7cb3b1c0cfbf6802f4c0ab41b60af31e10922573f3699864cdb"), looks := false }, kinds := [], alts := [], laidByText := true, laidKinds := [.data, .pinned], laidTests := true, laidLooks := .later }
def ModelPagesUptoCardSaid : Prop := Claim7.holds Tryz.pinned (.plain (OpenSpec.upto modelPagesSpec)) modelPagesUptoCard
end Rows
end Go.Proofs.YtpleiklodomgiaaGreatDoor
