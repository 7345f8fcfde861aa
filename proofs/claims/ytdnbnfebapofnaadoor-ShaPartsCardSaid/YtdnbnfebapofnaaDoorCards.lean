/-
  DERIVED. GIVEN WITH THE SEED: THE CARDS: each row of YtdnbnfebapofnaaDoorRows.lean that lists a variable, with what it lists TIED to the program's text (the seventh form; the later family's looks); each row that meets fmt, with fmt's text TOLD by the authors' own Lean function (tested against real Go, not proved from fmt's source: count such statements apart). THE CARD IS WHAT COUNTS. Prove the row's statement (the work); the ties are given (YtdnbnfebapofnaaDoorTie.lean); close each card by the builder's one call (the guide's Derived/Test/ToyasCard.lean, 'card_holds'). Laid BY PROGRAM, IN A SANDBOX (cutbox-door.mjs). By AI agents, Wed Nov 11 2026. No macro, syntax, notation, axiom, sorry.
-/
import Derived.Test.YtdnbnfebapofnaaDoorRows
import GoSem.ClaimSeven
namespace Go.Proofs.YtdnbnfebapofnaaDoor
namespace Rows

/-- THE TIED CARD OF 'pennantlaw01.ShaSums'. -/
def shaSumsCard : Claim7 := { stood := { row := shaSumsRow, standIns := [], harness := (true, "fa0cec47bb84db11c24c08a72ee95caa18673f4f1321da7a55d29a36503d71ad"), looks := false }, kinds := [], alts := [], laidByText := true, laidKinds := [.data], laidTests := true, laidLooks := .later }
def ShaSumsCardSaid : Prop := Claim7.holds Tryd.pinned (.plain (OpenSpec.ofChange shaSumsSpec)) shaSumsCard

/-- THE TIED CARD OF 'pennantlaw01.ShaTurned'. -/
def shaTurnedCard : Claim7 := { stood := { row := shaTurnedRow, standIns := [], harness := (true, "fa0cec47bb84db11c24c08a72ee95caa18673f4f1321da7a55d29a36503d71ad"), looks := false }, kinds := [], alts := [], laidByText := true, laidKinds := [.data], laidTests := true, laidLooks := .later }
def ShaTurnedCardSaid : Prop := Claim7.holds Tryd.pinned (.plain (OpenSpec.ofChange shaTurnedSpec)) shaTurnedCard

/-- THE TIED CARD OF 'pennantlaw01.ShaOne'. -/
def shaOneCard : Claim7 := { stood := { row := shaOneRow, standIns := [], harness := (true, "fa0cec47bb84db11c24c08a72ee95caa18673f4f1321da7a55d29a36503d71ad"), looks := false }, kinds := [], alts := [], laidByText := true, laidKinds := [.data], laidTests := true, laidLooks := .later }
def ShaOneCardSaid : Prop := Claim7.holds Tryd.pinned (.plain (OpenSpec.ofChange shaOneSpec)) shaOneCard

/-- THE TIED CARD OF 'pennantlaw01.ShaLoads'. -/
def shaLoadsCard : Claim7 := { stood := { row := shaLoadsRow, standIns := [], harness := (true, "fa0cec47bb84db11c24c08a72ee95caa18673f4f1321da7a55d29a36503d71ad"), looks := false }, kinds := [], alts := [], laidByText := true, laidKinds := [.data], laidTests := true, laidLooks := .later }
def ShaLoadsCardSaid : Prop := Claim7.holds Tryd.pinned (.plain (OpenSpec.ofChange shaLoadsSpec)) shaLoadsCard

/-- THE TIED CARD OF 'pennantlaw01.ShaApart'. -/
def shaApartCard : Claim7 := { stood := { row := shaApartRow, standIns := [], harness := (true, "fa0cec47bb84db11c24c08a72ee95caa18673f4f1321da7a55d29a36503d71ad"), looks := false }, kinds := [], alts := [], laidByText := true, laidKinds := [.data], laidTests := true, laidLooks := .later }
def ShaApartCardSaid : Prop := Claim7.holds Tryd.pinned (.plain (OpenSpec.ofChange shaApartSpec)) shaApartCard

/-- THE TIED CARD OF 'pennantlaw01.ShaParts'. -/
def shaPartsCard : Claim7 := { stood := { row := shaPartsRow, standIns := [], harness := (true, "fa0cec47bb84db11c24c08a72ee95caa18673f4f1321da7a55d29a36503d71ad"), looks := false }, kinds := [], alts := [], laidByText := true, laidKinds := [.data], laidTests := true, laidLooks := .later }
def ShaPartsCardSaid : Prop := Claim7.holds Tryd.pinned (.plain (OpenSpec.ofChange shaPartsSpec)) shaPartsCard

/-- THE TIED CARD OF 'pennantlaw01.ShaSizes'. -/
def shaSizesCard : Claim7 := { stood := { row := shaSizesRow, standIns := [], harness := (true, "fa0cec47bb84db11c24c08a72ee95caa18673f4f1321da7a55d29a36503d71ad"), looks := false }, kinds := [], alts := [], laidByText := true, laidKinds := [.data], laidTests := true, laidLooks := .later }
def ShaSizesCardSaid : Prop := Claim7.holds Tryd.pinned (.plain (OpenSpec.ofChange shaSizesSpec)) shaSizesCard

/-- THE SECOND FORM's CARD OF 'pennantlaw01.ShaSums'. -/
def shaSumsUptoCard : Claim7 := { stood := { row := shaSumsUptoRow, standIns := [], harness := (true, "fa0cec47bb84db11c24c08a72ee95caa18673f4f1321da7a55d29a36503d71ad"), looks := false }, kinds := [], alts := [], laidByText := true, laidKinds := [.data], laidTests := true, laidLooks := .later }
def ShaSumsUptoCardSaid : Prop := Claim7.holds Tryd.pinned (.plain (OpenSpec.upto shaSumsSpec)) shaSumsUptoCard

/-- THE SECOND FORM's CARD OF 'pennantlaw01.ShaTurned'. -/
def shaTurnedUptoCard : Claim7 := { stood := { row := shaTurnedUptoRow, standIns := [], harness := (true, "fa0cec47bb84db11c24c08a72ee95caa18673f4f1321da7a55d29a36503d71ad"), looks := false }, kinds := [], alts := [], laidByText := true, laidKinds := [.data], laidTests := true, laidLooks := .later }
def ShaTurnedUptoCardSaid : Prop := Claim7.holds Tryd.pinned (.plain (OpenSpec.upto shaTurnedSpec)) shaTurnedUptoCard

/-- THE SECOND FORM's CARD OF 'pennantlaw01.ShaOne'. -/
def shaOneUptoCard : Claim7 := { stood := { row := shaOneUptoRow, standIns := [], harness := (true, "fa0cec47bb84db11c24c08a72ee95caa18673f4f1321da7a55d29a36503d71ad"), looks := false }, kinds := [], alts := [], laidByText := true, laidKinds := [.data], laidTests := true, laidLooks := .later }
def ShaOneUptoCardSaid : Prop := Claim7.holds Tryd.pinned (.plain (OpenSpec.upto shaOneSpec)) shaOneUptoCard

/-- THE SECOND FORM's CARD OF 'pennantlaw01.ShaLoads'. -/
def shaLoadsUptoCard : Claim7 := { stood := { row := shaLoadsUptoRow, standIns := [], harness := (true, "fa0cec47bb84db11c24c08a72ee95caa18673f4f1321da7a55d29a36503d71ad"), looks := false }, kinds := [], alts := [], laidByText := true, laidKinds := [.data], laidTests := true, laidLooks := .later }
def ShaLoadsUptoCardSaid : Prop := Claim7.holds Tryd.pinned (.plain (OpenSpec.upto shaLoadsSpec)) shaLoadsUptoCard

/-- THE SECOND FORM's CARD OF 'pennantlaw01.ShaApart'. -/
def shaApartUptoCard : Claim7 := { stood := { row := shaApartUptoRow, standIns := [], harness := (true, "fa0cec47bb84db11c24c08a72ee95caa18673f4f1321da7a55d29a36503d71ad"), looks := false }, kinds := [], alts := [], laidByText := true, laidKinds := [.data], laidTests := true, laidLooks := .later }
def ShaApartUptoCardSaid : Prop := Claim7.holds Tryd.pinned (.plain (OpenSpec.upto shaApartSpec)) shaApartUptoCard

/-- THE SECOND FORM's CARD OF 'pennantlaw01.ShaParts'. -/
def shaPartsUptoCard : Claim7 := { stood := { row := shaPartsUptoRow, standIns := [], harness := (true, "fa0cec47bb84db11c24c08a72ee95caa18673f4f1321da7a55d29a36503d71ad"), looks := false }, kinds := [], alts := [], laidByText := true, laidKinds := [.data], laidTests := true, laidLooks := .later }
def ShaPartsUptoCardSaid : Prop := Claim7.holds Tryd.pinned (.plain (OpenSpec.upto shaPartsSpec)) shaPartsUptoCard

/-- THE SECOND FORM's CARD OF 'pennantlaw01.ShaSizes'. -/
def shaSizesUptoCard : Claim7 := { stood := { row := shaSizesUptoRow, standIns := [], harness := (true, "fa0cec47bb84db11c24c08a72ee95caa18673f4f1321da7a55d29a36503d71ad"), looks := false }, kinds := [], alts := [], laidByText := true, laidKinds := [.data], laidTests := true, laidLooks := .later }
def ShaSizesUptoCardSaid : Prop := Claim7.holds Tryd.pinned (.plain (OpenSpec.upto shaSizesSpec)) shaSizesUptoCard
end Rows
end Go.Proofs.YtdnbnfebapofnaaDoor
