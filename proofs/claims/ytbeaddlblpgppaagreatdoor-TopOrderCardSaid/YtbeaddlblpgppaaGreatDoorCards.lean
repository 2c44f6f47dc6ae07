/-
  DERIVED. GIVEN WITH THE SEED: THE CARDS: each row of YtbeaddlblpgppaaGreatDoorRows.lean that lists a variable, with what it lists TIED to the program's text (the seventh form; the later family's looks); each row that meets fmt, with fmt's text TOLD by the authors' own Lean function (tested against real Go, not proved from fmt's source: count such statements apart). THE CARD IS WHAT COUNTS. Prove the row's statement (the work); the ties are given (YtbeaddlblpgppaaGreatDoorTie.lean); close each card by the builder's one call (the guide's Derived/Test/ToyasCard.lean, 'card_holds'). Laid BY PROGRAM, IN A SANDBOX (cutbox-door.mjs). By AI agents, Wed Nov 11 2026. No macro, syntax, notation, axiom, sorry.
-/
import Derived.Test.YtbeaddlblpgppaaGreatDoorRows
import GoSem.ClaimSeven
namespace Go.Proofs.YtbeaddlblpgppaaGreatDoor
namespace Rows

/-- THE TIED CARD OF 'watchtowertop.TopRules'. -/
def topRulesCard : Claim7 := { stood := { row := topRulesRow, standIns := [], harness := (true, "aef683e0edee474c5475d6953d1afe15aa27ed09a2d75537a359e7301f2cd160"), looks := true }, kinds := [], alts := [], laidByText := true, laidKinds := [.data, .data, .data, .data, .data, .data, .data, .pinned], laidTests := true, laidLooks := .later }
def TopRulesCardSaid : Prop := Claim7.holds Tryz.pinned (.plain (OpenSpec.ofChange topRulesSpec)) topRulesCard

/-- THE TIED CARD OF 'watchtowertop.TopOrder'. -/
def topOrderCard : Claim7 := { stood := { row := topOrderRow, standIns := [], harness := (true, "aef683e0edee474c5475d6953d1afe15aa27ed09a2d75537a359e7301f2cd160"), looks := true }, kinds := [], alts := [], laidByText := true, laidKinds := [.data, .data, .data, .data, .data, .data, .data, .pinned], laidTests := true, laidLooks := .later }
def TopOrderCardSaid : Prop := Claim7.holds Tryz.pinned (.plain (OpenSpec.ofChange topOrderSpec)) topOrderCard

/-- THE SECOND FORM's CARD OF 'watchtowertop.TopRules'. -/
def topRulesUptoCard : Claim7 := { stood := { row := topRulesUptoRow, standIns := [], harness := (true, "aef683e0edee474c5475d6953d1afe15aa27ed09a2d75537a359e7301f2cd160"), looks := true }, kinds := [], alts := [], laidByText := true, laidKinds := [.data, .data, .data, .data, .data, .data, .data, .pinned], laidTests := true, laidLooks := .later }
def TopRulesUptoCardSaid : Prop := Claim7.holds Tryz.pinned (.plain (OpenSpec.upto topRulesSpec)) topRulesUptoCard

/-- THE SECOND FORM's CARD OF 'watchtowertop.TopOrder'. -/
def topOrderUptoCard : Claim7 := { stood := { row := topOrderUptoRow, standIns := [], harness := (true, "aef683e0edee474c5475d6953d1afe15aa27ed09a2d75537a359e7301f2cd160"), looks := true }, kinds := [], alts := [], laidByText := true, laidKinds := [.data, .data, .data, .data, .data, .data, .data, .pinned], laidTests := true, laidLooks := .later }
def TopOrderUptoCardSaid : Prop := Claim7.holds Tryz.pinned (.plain (OpenSpec.upto topOrderSpec)) topOrderUptoCard
end Rows
end Go.Proofs.YtbeaddlblpgppaaGreatDoor
