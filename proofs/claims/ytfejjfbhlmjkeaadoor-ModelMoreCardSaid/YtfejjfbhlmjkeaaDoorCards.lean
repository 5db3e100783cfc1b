/-
  DERIVED. GIVEN WITH THE SEED: THE CARDS: each row of YtfejjfbhlmjkeaaDoorRows.lean that lists a variable, with what it lists TIED to the program's text (the seventh form; the later family's looks); each row that meets fmt, with fmt's text TOLD by the authors' own Lean function (tested against real Go, not proved from fmt's source: count such statements apart). THE CARD IS WHAT COUNTS. Prove the row's statement (the work); the ties are given (YtfejjfbhlmjkeaaDoorTie.lean); close each card by the builder's one call (the guide's Derived/Test/ToyasCard.lean, 'card_holds'). Laid BY PROGRAM, IN A SANDBOX (cutbox-door.mjs). By AI agents, Wed Nov 11 2026. No macro, syntax, notation, axiom, sorry.
-/
import Derived.Test.YtfejjfbhlmjkeaaDoorRows
import GoSem.ClaimSeven
namespace Go.Proofs.YtfejjfbhlmjkeaaDoor
namespace Rows

/-- THE TIED CARD OF 'magpielaw03.WordIs'. -/
def wordIsCard : Claim7 := { stood := { row := wordIsRow, standIns := [], harness := (true, "a2cd3b7f3e6080219560c556a8cea4b008734d78ea87e0dc8f6ca224a8703b42"), looks := false }, kinds := [], alts := [], laidByText := true, laidKinds := [.data, .pinned], laidTests := true, laidLooks := .later }
def WordIsCardSaid : Prop := Claim7.holds Tryd.pinned (.plain (OpenSpec.ofChange wordIsSpec)) wordIsCard

/-- THE TIED CARD OF 'magpielaw03.WordStands'. -/
def wordStandsCard : Claim7 := { stood := { row := wordStandsRow, standIns := [], harness := (true, "a2cd3b7f3e6080219560c556a8cea4b008734d78ea87e0dc8f6ca224a8703b42"), looks := false }, kinds := [], alts := [], laidByText := true, laidKinds := [.data, .pinned], laidTests := true, laidLooks := .later }
def WordStandsCardSaid : Prop := Claim7.holds Tryd.pinned (.plain (OpenSpec.ofChange wordStandsSpec)) wordStandsCard

/-- THE TIED CARD OF 'magpielaw09.MatchNot'. -/
def matchNotCard : Claim7 := { stood := { row := matchNotRow, standIns := [], harness := (true, "a2cd3b7f3e6080219560c556a8cea4b008734d78ea87e0dc8f6ca224a8703b42"), looks := false }, kinds := [], alts := [], laidByText := true, laidKinds := [.data, .pinned], laidTests := true, laidLooks := .later }
def MatchNotCardSaid : Prop := Claim7.holds Tryd.pinned (.plain (OpenSpec.ofChange matchNotSpec)) matchNotCard

/-- THE TIED CARD OF 'magpielaw09.MatchStands'. -/
def matchStandsCard : Claim7 := { stood := { row := matchStandsRow, standIns := [], harness := (true, "a2cd3b7f3e6080219560c556a8cea4b008734d78ea87e0dc8f6ca224a8703b42"), looks := false }, kinds := [], alts := [], laidByText := true, laidKinds := [.data, .pinned], laidTests := true, laidLooks := .later }
def MatchStandsCardSaid : Prop := Claim7.holds Tryd.pinned (.plain (OpenSpec.ofChange matchStandsSpec)) matchStandsCard

/-- THE TIED CARD OF 'magpielaw09.MatchOrder'. -/
def matchOrderCard : Claim7 := { stood := { row := matchOrderRow, standIns := [], harness := (true, "a2cd3b7f3e6080219560c556a8cea4b008734d78ea87e0dc8f6ca224a8703b42"), looks := false }, kinds := [], alts := [], laidByText := true, laidKinds := [.data, .pinned], laidTests := true, laidLooks := .later }
def MatchOrderCardSaid : Prop := Claim7.holds Tryd.pinned (.plain (OpenSpec.ofChange matchOrderSpec)) matchOrderCard

/-- THE TIED CARD OF 'magpielaw09.MatchIs'. -/
def matchIsCard : Claim7 := { stood := { row := matchIsRow, standIns := [], harness := (true, "a2cd3b7f3e6080219560c556a8cea4b008734d78ea87e0dc8f6ca224a8703b42"), looks := false }, kinds := [], alts := [], laidByText := true, laidKinds := [.data, .pinned], laidTests := true, laidLooks := .later }
def MatchIsCardSaid : Prop := Claim7.holds Tryd.pinned (.plain (OpenSpec.ofChange matchIsSpec)) matchIsCard

/-- THE TIED CARD OF 'magpielaw09.MatchParts'. -/
def matchPartsCard : Claim7 := { stood := { row := matchPartsRow, standIns := [], harness := (true, "a2cd3b7f3e6080219560c556a8cea4b008734d78ea87e0dc8f6ca224a8703b42"), looks := false }, kinds := [], alts := [], laidByText := true, laidKinds := [.data, .pinned], laidTests := true, laidLooks := .later }
def MatchPartsCardSaid : Prop := Claim7.holds Tryd.pinned (.plain (OpenSpec.ofChange matchPartsSpec)) matchPartsCard

/-- THE TIED CARD OF 'magpielaw11.ModelRows'. -/
def modelRowsCard : Claim7 := { stood := { row := modelRowsRow, standIns := [], harness := (true, "a2cd3b7f3e6080219560c556a8cea4b008734d78ea87e0dc8f6ca224a8703b42"), looks := false }, kinds := [], alts := [], laidByText := true, laidKinds := [.data, .pinned], laidTests := true, laidLooks := .later }
def ModelRowsCardSaid : Prop := Claim7.holds Tryd.pinned (.plain (OpenSpec.ofChange modelRowsSpec)) modelRowsCard

/-- THE TIED CARD OF 'magpielaw11.ModelMore'. -/
def modelMoreCard : Claim7 := { stood := { row := modelMoreRow, standIns := [], harness := (true, "a2cd3b7f3e6080219560c556a8cea4b008734d78ea87e0dc8f6ca224a8703b42"), looks := false }, kinds := [], alts := [], laidByText := true, laidKinds := [.data, .pinned], laidTests := true, laidLooks := .later }
def ModelMoreCardSaid : Prop := Claim7.holds Tryd.pinned (.plain (OpenSpec.ofChange modelMoreSpec)) modelMoreCard

/-- THE SECOND FORM's CARD OF 'magpielaw03.WordIs'. -/
def wordIsUptoCard : Claim7 := { stood := { row := wordIsUptoRow, standIns := [], harness := (true, "a2cd3b7f3e6080219560c556a8cea4b008734d78ea87e0dc8f6ca224a8703b42"), looks := false }, kinds := [], alts := [], laidByText := true, laidKinds := [.data, .pinned], laidTests := true, laidLooks := .later }
def WordIsUptoCardSaid : Prop := Claim7.holds Tryd.pinned (.plain (OpenSpec.upto wordIsSpec)) wordIsUptoCard

/-- THE SECOND FORM's CARD OF 'magpielaw03.WordStands'. -/
def wordStandsUptoCard : Claim7 := { stood := { row := wordStandsUptoRow, standIns := [], harness := (true, "a2cd3b7f3e6080219560c556a8cea4b008734d78ea87e0dc8f6ca224a8703b42"), looks := false }, kinds := [], alts := [], laidByText := true, laidKinds := [.data, .pinned], laidTests := true, laidLooks := .later }
def WordStandsUptoCardSaid : Prop := Claim7.holds Tryd.pinned (.plain (OpenSpec.upto wordStandsSpec)) wordStandsUptoCard

/-- THE SECOND FORM's CARD OF 'magpielaw09.MatchNot'. -/
def matchNotUptoCard : Claim7 := { stood := { row := matchNotUptoRow, standIns := [], harness := (true, "a2cd3b7f3e6080219560c556a8cea4b008734d78ea87e0dc8f6ca224a8703b42"), looks := false }, kinds := [], alts := [], laidByText := true, laidKinds := [.data, .pinned], laidTests := true, laidLooks := .later }
def MatchNotUptoCardSaid : Prop := Claim7.holds Tryd.pinned (.plain (OpenSpec.upto matchNotSpec)) matchNotUptoCard

/-- THE SECOND FORM's CARD OF 'magpielaw09.MatchStands'. -/
def matchStandsUptoCard : Claim7 := { stood := { row := matchStandsUptoRow, standIns := [], harness := (true, "a2cd3b7f3e6080219560c556a8cea4b008734d78ea87e0dc8f6ca224a8703b42"), looks := false }, kinds := [], alts := [], laidByText := true, laidKinds := [.data, .pinned], laidTests := true, laidLooks := .later }
def MatchStandsUptoCardSaid : Prop := Claim7.holds Tryd.pinned (.plain (OpenSpec.upto matchStandsSpec)) matchStandsUptoCard

/-- THE SECOND FORM's CARD OF 'magpielaw09.MatchOrder'. -/
def matchOrderUptoCard : Claim7 := { stood := { row := matchOrderUptoRow, standIns := [], harness := (true, "a2cd3b7f3e6080219560c556a8cea4b008734d78ea87e0dc8f6ca224a8703b42"), looks := false }, kinds := [], alts := [], laidByText := true, laidKinds := [.data, .pinned], laidTests := true, laidLooks := .later }
def MatchOrderUptoCardSaid : Prop := Claim7.holds Tryd.pinned (.plain (OpenSpec.upto matchOrderSpec)) matchOrderUptoCard

/-- THE SECOND FORM's CARD OF 'magpielaw09.MatchIs'. -/
def matchIsUptoCard : Claim7 := { stood := { row := matchIsUptoRow, standIns := [], harness := (true, "a2cd3b7f3e6080219560c556a8cea4b008734d78ea87e0dc8f6ca224a8703b42"), looks := false }, kinds := [], alts := [], laidByText := true, laidKinds := [.data, .pinned], laidTests := true, laidLooks := .later }
def MatchIsUptoCardSaid : Prop := Claim7.holds Tryd.pinned (.plain (OpenSpec.upto matchIsSpec)) matchIsUptoCard

/-- THE SECOND FORM's CARD OF 'magpielaw09.MatchParts'. -/
def matchPartsUptoCard : Claim7 := { stood := { row := matchPartsUptoRow, standIns := [], harness := (true, "a2cd3b7f3e6080219560c556a8cea4b008734d78ea87e0dc8f6ca224a8703b42"), looks := false }, kinds := [], alts := [], laidByText := true, laidKinds := [.data, .pinned], laidTests := true, laidLooks := .later }
def MatchPartsUptoCardSaid : Prop := Claim7.holds Tryd.pinned (.plain (OpenSpec.upto matchPartsSpec)) matchPartsUptoCard

/-- THE SECOND FORM's CARD OF 'magpielaw11.ModelRows'. -/
def modelRowsUptoCard : Claim7 := { stood := { row := modelRowsUptoRow, standIns := [], harness := (true, "a2cd3b7f3e6080219560c556a8cea4b008734d78ea87e0dc8f6ca224a8703b42"), looks := false }, kinds := [], alts := [], laidByText := true, laidKinds := [.data, .pinned], laidTests := true, laidLooks := .later }
def ModelRowsUptoCardSaid : Prop := Claim7.holds Tryd.pinned (.plain (OpenSpec.upto modelRowsSpec)) modelRowsUptoCard

/-- THE SECOND FORM's CARD OF 'magpielaw11.ModelMore'. -/
def modelMoreUptoCard : Claim7 := { stood := { row := modelMoreUptoRow, standIns := [], harness := (true, "a2cd3b7f3e6080219560c556a8cea4b008734d78ea87e0dc8f6ca224a8703b42"), looks := false }, kinds := [], alts := [], laidByText := true, laidKinds := [.data, .pinned], laidTests := true, laidLooks := .later }
def ModelMoreUptoCardSaid : Prop := Claim7.holds Tryd.pinned (.plain (OpenSpec.upto modelMoreSpec)) modelMoreUptoCard
end Rows
end Go.Proofs.YtfejjfbhlmjkeaaDoor
