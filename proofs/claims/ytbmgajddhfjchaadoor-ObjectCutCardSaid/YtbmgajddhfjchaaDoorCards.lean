/-
  DERIVED. GIVEN WITH THE SEED: THE CARDS: each row of YtbmgajddhfjchaaDoorRows.lean that lists a variable, with what it lists TIED to the program's text (the seventh form; the later family's looks); each row that meets fmt, with fmt's text TOLD by the authors' own Lean function (tested against real Go, not proved from fmt's source: count such statements apart). THE CARD IS WHAT COUNTS. Prove the row's statement (the work); the ties are given (YtbmgajddhfjchaaDoorTie.lean); close each card by the builder's one call (the guide's Derived/Test/ToyasCard.lean, 'card_holds'). Laid BY PROGRAM, IN A SANDBOX (cutbox-door.mjs). By AI agents, Wed Nov 11 2026. No macro, syntax, notation, axiom, sorry.
-/
import Derived.Test.YtbmgajddhfjchaaDoorRows
import GoSem.ClaimSeven
namespace Go.Proofs.YtbmgajddhfjchaaDoor
namespace Rows

/-- THE TIED CARD OF 'parquetlaw21.ObjectBack'. -/
def objectBackCard : Claim7 := { stood := { row := objectBackRow, standIns := [], harness := (true, "d39b693e69a5b361ee3bcd7a16b722694346eafa2d43f5d4f2b04eb8907f1739"), looks := false }, kinds := [], alts := [], laidByText := true, laidKinds := [.data, .data, .data], laidTests := true, laidLooks := .later }
def ObjectBackCardSaid : Prop := Claim7.holds Tryd.pinned (.plain (OpenSpec.ofChange objectBackSpec)) objectBackCard

/-- THE TIED CARD OF 'parquetlaw21.ObjectCut'. -/
def objectCutCard : Claim7 := { stood := { row := objectCutRow, standIns := [], harness := (true, "d39b693e69a5b361ee3bcd7a16b722694346eafa2d43f5d4f2b04eb8907f1739"), looks := false }, kinds := [], alts := [], laidByText := true, laidKinds := [.data, .data, .data], laidTests := true, laidLooks := .later }
def ObjectCutCardSaid : Prop := Claim7.holds Tryd.pinned (.plain (OpenSpec.ofChange objectCutSpec)) objectCutCard

/-- THE TIED CARD OF 'parquetlaw21.ObjectHurt'. -/
def objectHurtCard : Claim7 := { stood := { row := objectHurtRow, standIns := [], harness := (true, "d39b693e69a5b361ee3bcd7a16b722694346eafa2d43f5d4f2b04eb8907f1739"), looks := false }, kinds := [], alts := [], laidByText := true, laidKinds := [.data, .data, .data], laidTests := true, laidLooks := .later }
def ObjectHurtCardSaid : Prop := Claim7.holds Tryd.pinned (.plain (OpenSpec.ofChange objectHurtSpec)) objectHurtCard

/-- THE TIED CARD OF 'parquetlaw21.ObjectLoose'. -/
def objectLooseCard : Claim7 := { stood := { row := objectLooseRow, standIns := [], harness := (true, "d39b693e69a5b361ee3bcd7a16b722694346eafa2d43f5d4f2b04eb8907f1739"), looks := false }, kinds := [], alts := [], laidByText := true, laidKinds := [.data, .data, .data], laidTests := true, laidLooks := .later }
def ObjectLooseCardSaid : Prop := Claim7.holds Tryd.pinned (.plain (OpenSpec.ofChange objectLooseSpec)) objectLooseCard

/-- THE SECOND FORM's CARD OF 'parquetlaw21.ObjectBack'. -/
def objectBackUptoCard : Claim7 := { stood := { row := objectBackUptoRow, standIns := [], harness := (true, "d39b693e69a5b361ee3bcd7a16b722694346eafa2d43f5d4f2b04eb8907f1739"), looks := false }, kinds := [], alts := [], laidByText := true, laidKinds := [.data, .data, .data], laidTests := true, laidLooks := .later }
def ObjectBackUptoCardSaid : Prop := Claim7.holds Tryd.pinned (.plain (OpenSpec.upto objectBackSpec)) objectBackUptoCard

/-- THE SECOND FORM's CARD OF 'parquetlaw21.ObjectCut'. -/
def objectCutUptoCard : Claim7 := { stood := { row := objectCutUptoRow, standIns := [], harness := (true, "d39b693e69a5b361ee3bcd7a16b722694346eafa2d43f5d4f2b04eb8907f1739"), looks := false }, kinds := [], alts := [], laidByText := true, laidKinds := [.data, .data, .data], laidTests := true, laidLooks := .later }
def ObjectCutUptoCardSaid : Prop := Claim7.holds Tryd.pinned (.plain (OpenSpec.upto objectCutSpec)) objectCutUptoCard

/-- THE SECOND FORM's CARD OF 'parquetlaw21.ObjectHurt'. -/
def objectHurtUptoCard : Claim7 := { stood := { row := objectHurtUptoRow, standIns := [], harness := (true, "d39b693e69a5b361ee3bcd7a16b722694346eafa2d43f5d4f2b04eb8907f1739"), looks := false }, kinds := [], alts := [], laidByText := true, laidKinds := [.data, .data, .data], laidTests := true, laidLooks := .later }
def ObjectHurtUptoCardSaid : Prop := Claim7.holds Tryd.pinned (.plain (OpenSpec.upto objectHurtSpec)) objectHurtUptoCard

/-- THE SECOND FORM's CARD OF 'parquetlaw21.ObjectLoose'. -/
def objectLooseUptoCard : Claim7 := { stood := { row := objectLooseUptoRow, standIns := [], harness := (true, "d39b693e69a5b361ee3bcd7a16b722694346eafa2d43f5d4f2b04eb8907f1739"), looks := false }, kinds := [], alts := [], laidByText := true, laidKinds := [.data, .data, .data], laidTests := true, laidLooks := .later }
def ObjectLooseUptoCardSaid : Prop := Claim7.holds Tryd.pinned (.plain (OpenSpec.upto objectLooseSpec)) objectLooseUptoCard
end Rows
end Go.Proofs.YtbmgajddhfjchaaDoor
