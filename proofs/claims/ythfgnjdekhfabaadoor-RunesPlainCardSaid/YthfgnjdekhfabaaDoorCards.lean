/-
  DERIVED. GIVEN WITH THE SEED: THE CARDS: each row of YthfgnjdekhfabaaDoorRows.lean that lists a variable, with what it lists TIED to the program's text (the seventh form; the later family's looks); each row that meets fmt, with fmt's text TOLD by the authors' own Lean function (tested against real Go, not proved from fmt's source: count such statements apart). THE CARD IS WHAT COUNTS. Prove the row's statement (the work); the ties are given (YthfgnjdekhfabaaDoorTie.lean); close each card by the builder's one call (the guide's Derived/Test/ToyasCard.lean, 'card_holds'). Laid BY PROGRAM, IN A SANDBOX (cutbox-door.mjs). By AI agents, Wed Nov 11 2026. No macro, syntax, notation, axiom, sorry.
-/
import Derived.Test.YthfgnjdekhfabaaDoorRows
import GoSem.ClaimSeven
namespace Go.Proofs.YthfgnjdekhfabaaDoor
namespace Rows

/-- THE TIED CARD OF 'lyceumlaw04.RunesFeed'. -/
def runesFeedCard : Claim7 := { stood := { row := runesFeedRow, standIns := [], harness := (true, "4e22f14263969c422dbe880423942d0848bdb59906f41321173d3119e80e1ce4"), looks := false }, kinds := [], alts := [], laidByText := true, laidKinds := [.data, .pinned], laidTests := true, laidLooks := .later }
def RunesFeedCardSaid : Prop := Claim7.holds Tryd.pinned (.plain (OpenSpec.ofChange runesFeedSpec)) runesFeedCard

/-- THE TIED CARD OF 'lyceumlaw04.RunesParted'. -/
def runesPartedCard : Claim7 := { stood := { row := runesPartedRow, standIns := [], harness := (true, "4e22f14263969c422dbe880423942d0848bdb59906f41321173d3119e80e1ce4"), looks := false }, kinds := [], alts := [], laidByText := true, laidKinds := [.data, .pinned], laidTests := true, laidLooks := .later }
def RunesPartedCardSaid : Prop := Claim7.holds Tryd.pinned (.plain (OpenSpec.ofChange runesPartedSpec)) runesPartedCard

/-- THE TIED CARD OF 'lyceumlaw04.RunesBack'. -/
def runesBackCard : Claim7 := { stood := { row := runesBackRow, standIns := [], harness := (true, "4e22f14263969c422dbe880423942d0848bdb59906f41321173d3119e80e1ce4"), looks := false }, kinds := [], alts := [], laidByText := true, laidKinds := [.data, .pinned], laidTests := true, laidLooks := .later }
def RunesBackCardSaid : Prop := Claim7.holds Tryd.pinned (.plain (OpenSpec.ofChange runesBackSpec)) runesBackCard

/-- THE TIED CARD OF 'lyceumlaw04.RunesClean'. -/
def runesCleanCard : Claim7 := { stood := { row := runesCleanRow, standIns := [], harness := (true, "4e22f14263969c422dbe880423942d0848bdb59906f41321173d3119e80e1ce4"), looks := false }, kinds := [], alts := [], laidByText := true, laidKinds := [.data, .pinned], laidTests := true, laidLooks := .later }
def RunesCleanCardSaid : Prop := Claim7.holds Tryd.pinned (.plain (OpenSpec.ofChange runesCleanSpec)) runesCleanCard

/-- THE TIED CARD OF 'lyceumlaw04.RunesTell'. -/
def runesTellCard : Claim7 := { stood := { row := runesTellRow, standIns := [], harness := (true, "4e22f14263969c422dbe880423942d0848bdb59906f41321173d3119e80e1ce4"), looks := false }, kinds := [], alts := [], laidByText := true, laidKinds := [.data, .pinned], laidTests := true, laidLooks := .later }
def RunesTellCardSaid : Prop := Claim7.holds Tryd.pinned (.plain (OpenSpec.ofChange runesTellSpec)) runesTellCard

/-- THE TIED CARD OF 'lyceumlaw04.RunesPlain'. -/
def runesPlainCard : Claim7 := { stood := { row := runesPlainRow, standIns := [], harness := (true, "4e22f14263969c422dbe880423942d0848bdb59906f41321173d3119e80e1ce4"), looks := false }, kinds := [], alts := [], laidByText := true, laidKinds := [.data, .pinned], laidTests := true, laidLooks := .later }
def RunesPlainCardSaid : Prop := Claim7.holds Tryd.pinned (.plain (OpenSpec.ofChange runesPlainSpec)) runesPlainCard

/-- THE SECOND FORM's CARD OF 'lyceumlaw04.RunesFeed'. -/
def runesFeedUptoCard : Claim7 := { stood := { row := runesFeedUptoRow, standIns := [], harness := (true, "4e22f14263969c422dbe880423942d0848bdb59906f41321173d3119e80e1ce4"), looks := false }, kinds := [], alts := [], laidByText := true, laidKinds := [.data, .pinned], laidTests := true, laidLooks := .later }
def RunesFeedUptoCardSaid : Prop := Claim7.holds Tryd.pinned (.plain (OpenSpec.upto runesFeedSpec)) runesFeedUptoCard

/-- THE SECOND FORM's CARD OF 'lyceumlaw04.RunesParted'. -/
def runesPartedUptoCard : Claim7 := { stood := { row := runesPartedUptoRow, standIns := [], harness := (true, "4e22f14263969c422dbe880423942d0848bdb59906f41321173d3119e80e1ce4"), looks := false }, kinds := [], alts := [], laidByText := true, laidKinds := [.data, .pinned], laidTests := true, laidLooks := .later }
def RunesPartedUptoCardSaid : Prop := Claim7.holds Tryd.pinned (.plain (OpenSpec.upto runesPartedSpec)) runesPartedUptoCard

/-- THE SECOND FORM's CARD OF 'lyceumlaw04.RunesBack'. -/
def runesBackUptoCard : Claim7 := { stood := { row := runesBackUptoRow, standIns := [], harness := (true, "4e22f14263969c422dbe880423942d0848bdb59906f41321173d3119e80e1ce4"), looks := false }, kinds := [], alts := [], laidByText := true, laidKinds := [.data, .pinned], laidTests := true, laidLooks := .later }
def RunesBackUptoCardSaid : Prop := Claim7.holds Tryd.pinned (.plain (OpenSpec.upto runesBackSpec)) runesBackUptoCard

/-- THE SECOND FORM's CARD OF 'lyceumlaw04.RunesClean'. -/
def runesCleanUptoCard : Claim7 := { stood := { row := runesCleanUptoRow, standIns := [], harness := (true, "4e22f14263969c422dbe880423942d0848bdb59906f41321173d3119e80e1ce4"), looks := false }, kinds := [], alts := [], laidByText := true, laidKinds := [.data, .pinned], laidTests := true, laidLooks := .later }
def RunesCleanUptoCardSaid : Prop := Claim7.holds Tryd.pinned (.plain (OpenSpec.upto runesCleanSpec)) runesCleanUptoCard

/-- THE SECOND FORM's CARD OF 'lyceumlaw04.RunesTell'. -/
def runesTellUptoCard : Claim7 := { stood := { row := runesTellUptoRow, standIns := [], harness := (true, "4e22f14263969c422dbe880423942d0848bdb59906f41321173d3119e80e1ce4"), looks := false }, kinds := [], alts := [], laidByText := true, laidKinds := [.data, .pinned], laidTests := true, laidLooks := .later }
def RunesTellUptoCardSaid : Prop := Claim7.holds Tryd.pinned (.plain (OpenSpec.upto runesTellSpec)) runesTellUptoCard

/-- THE SECOND FORM's CARD OF 'lyceumlaw04.RunesPlain'. -/
def runesPlainUptoCard : Claim7 := { stood := { row := runesPlainUptoRow, standIns := [], harness := (true, "4e22f14263969c422dbe880423942d0848bdb59906f41321173d3119e80e1ce4"), looks := false }, kinds := [], alts := [], laidByText := true, laidKinds := [.data, .pinned], laidTests := true, laidLooks := .later }
def RunesPlainUptoCardSaid : Prop := Claim7.holds Tryd.pinned (.plain (OpenSpec.upto runesPlainSpec)) runesPlainUptoCard
end Rows
end Go.Proofs.YthfgnjdekhfabaaDoor
