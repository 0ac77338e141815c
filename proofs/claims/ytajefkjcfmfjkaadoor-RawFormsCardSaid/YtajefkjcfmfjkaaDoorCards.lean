/-
  DERIVED. GIVEN WITH THE SEED: THE CARDS: each row of YtajefkjcfmfjkaaDoorRows.lean that lists a variable, with what it lists TIED to the program's text (the seventh form; the later family's looks); each row that meets fmt, with fmt's text TOLD by the authors' own Lean function (tested against real Go, not proved from fmt's source: count such statements apart). THE CARD IS WHAT COUNTS. Prove the row's statement (the work); the ties are given (YtajefkjcfmfjkaaDoorTie.lean); close each card by the builder's one call (the guide's Derived/Test/ToyasCard.lean, 'card_holds'). Laid BY PROGRAM, IN A SANDBOX (cutbox-door.mjs). By AI agents, Wed Nov 11 2026. No macro, syntax, notation, axiom, sorry.
-/
import Derived.Test.YtajefkjcfmfjkaaDoorRows
import GoSem.ClaimSeven
namespace Go.Proofs.YtajefkjcfmfjkaaDoor
namespace Rows

/-- THE TIED CARD OF 'lfchecklaw01.TokenPieces'. -/
def tokenPiecesCard : Claim7 := { stood := { row := tokenPiecesRow, standIns := [], harness := (true, "0214b7409b11aba01738601ab9c6540f9e9632c7160b080a87d639eaaaddb014"), looks := false }, kinds := [], alts := [], laidByText := true, laidKinds := [.data], laidTests := true, laidLooks := .later }
def TokenPiecesCardSaid : Prop := Claim7.holds Tryd.pinned (.plain (OpenSpec.ofChange tokenPiecesSpec)) tokenPiecesCard

/-- THE TIED CARD OF 'lfchecklaw01.TokenNames'. -/
def tokenNamesCard : Claim7 := { stood := { row := tokenNamesRow, standIns := [], harness := (true, "0214b7409b11aba01738601ab9c6540f9e9632c7160b080a87d639eaaaddb014"), looks := false }, kinds := [], alts := [], laidByText := true, laidKinds := [.data], laidTests := true, laidLooks := .later }
def TokenNamesCardSaid : Prop := Claim7.holds Tryd.pinned (.plain (OpenSpec.ofChange tokenNamesSpec)) tokenNamesCard

/-- THE TIED CARD OF 'lfchecklaw01.TokenSpells'. -/
def tokenSpellsCard : Claim7 := { stood := { row := tokenSpellsRow, standIns := [], harness := (true, "0214b7409b11aba01738601ab9c6540f9e9632c7160b080a87d639eaaaddb014"), looks := false }, kinds := [], alts := [], laidByText := true, laidKinds := [.data], laidTests := true, laidLooks := .later }
def TokenSpellsCardSaid : Prop := Claim7.holds Tryd.pinned (.plain (OpenSpec.ofChange tokenSpellsSpec)) tokenSpellsCard

/-- THE TIED CARD OF 'lfchecklaw01.TokenJoins'. -/
def tokenJoinsCard : Claim7 := { stood := { row := tokenJoinsRow, standIns := [], harness := (true, "0214b7409b11aba01738601ab9c6540f9e9632c7160b080a87d639eaaaddb014"), looks := false }, kinds := [], alts := [], laidByText := true, laidKinds := [.data], laidTests := true, laidLooks := .later }
def TokenJoinsCardSaid : Prop := Claim7.holds Tryd.pinned (.plain (OpenSpec.ofChange tokenJoinsSpec)) tokenJoinsCard

/-- THE TIED CARD OF 'lfchecklaw01.TokenCuts'. -/
def tokenCutsCard : Claim7 := { stood := { row := tokenCutsRow, standIns := [], harness := (true, "0214b7409b11aba01738601ab9c6540f9e9632c7160b080a87d639eaaaddb014"), looks := false }, kinds := [], alts := [], laidByText := true, laidKinds := [.data], laidTests := true, laidLooks := .later }
def TokenCutsCardSaid : Prop := Claim7.holds Tryd.pinned (.plain (OpenSpec.ofChange tokenCutsSpec)) tokenCutsCard

/-- THE TIED CARD OF 'lfchecklaw01.TokenComments'. -/
def tokenCommentsCard : Claim7 := { stood := { row := tokenCommentsRow, standIns := [], harness := (true, "0214b7409b11aba01738601ab9c6540f9e9632c7160b080a87d639eaaaddb014"), looks := false }, kinds := [], alts := [], laidByText := true, laidKinds := [.data], laidTests := true, laidLooks := .later }
def TokenCommentsCardSaid : Prop := Claim7.holds Tryd.pinned (.plain (OpenSpec.ofChange tokenCommentsSpec)) tokenCommentsCard

/-- THE TIED CARD OF 'lfchecklaw01.TokenOffsets'. -/
def tokenOffsetsCard : Claim7 := { stood := { row := tokenOffsetsRow, standIns := [], harness := (true, "0214b7409b11aba01738601ab9c6540f9e9632c7160b080a87d639eaaaddb014"), looks := false }, kinds := [], alts := [], laidByText := true, laidKinds := [.data], laidTests := true, laidLooks := .later }
def TokenOffsetsCardSaid : Prop := Claim7.holds Tryd.pinned (.plain (OpenSpec.ofChange tokenOffsetsSpec)) tokenOffsetsCard

/-- THE TIED CARD OF 'lfchecklaw02.RawForms'. -/
def rawFormsCard : Claim7 := { stood := { row := rawFormsRow, standIns := [], harness := (true, "0214b7409b11aba01738601ab9c6540f9e9632c7160b080a87d639eaaaddb014"), looks := false }, kinds := [], alts := [], laidByText := true, laidKinds := [.data], laidTests := true, laidLooks := .later }
def RawFormsCardSaid : Prop := Claim7.holds Tryd.pinned (.plain (OpenSpec.ofChange rawFormsSpec)) rawFormsCard

/-- THE TIED CARD OF 'lfchecklaw02.RawSame'. -/
def rawSameCard : Claim7 := { stood := { row := rawSameRow, standIns := [], harness := (true, "0214b7409b11aba01738601ab9c6540f9e9632c7160b080a87d639eaaaddb014"), looks := false }, kinds := [], alts := [], laidByText := true, laidKinds := [.data], laidTests := true, laidLooks := .later }
def RawSameCardSaid : Prop := Claim7.holds Tryd.pinned (.plain (OpenSpec.ofChange rawSameSpec)) rawSameCard

/-- THE TIED CARD OF 'lfchecklaw02.RawTexts'. -/
def rawTextsCard : Claim7 := { stood := { row := rawTextsRow, standIns := [], harness := (true, "0214b7409b11aba01738601ab9c6540f9e9632c7160b080a87d639eaaaddb014"), looks := false }, kinds := [], alts := [], laidByText := true, laidKinds := [.data], laidTests := true, laidLooks := .later }
def RawTextsCardSaid : Prop := Claim7.holds Tryd.pinned (.plain (OpenSpec.ofChange rawTextsSpec)) rawTextsCard

/-- THE TIED CARD OF 'lfchecklaw02.RawBinds'. -/
def rawBindsCard : Claim7 := { stood := { row := rawBindsRow, standIns := [], harness := (true, "0214b7409b11aba01738601ab9c6540f9e9632c7160b080a87d639eaaaddb014"), looks := false }, kinds := [], alts := [], laidByText := true, laidKinds := [.data], laidTests := true, laidLooks := .later }
def RawBindsCardSaid : Prop := Claim7.holds Tryd.pinned (.plain (OpenSpec.ofChange rawBindsSpec)) rawBindsCard

/-- THE TIED CARD OF 'lfchecklaw03.OperatorResolves'. -/
def operatorResolvesCard : Claim7 := { stood := { row := operatorResolvesRow, standIns := [], harness := (true, "0214b7409b11aba01738601ab9c6540f9e9632c7160b080a87d639eaaaddb014"), looks := false }, kinds := [], alts := [], laidByText := true, laidKinds := [.data], laidTests := true, laidLooks := .later }
def OperatorResolvesCardSaid : Prop := Claim7.holds Tryd.pinned (.plain (OpenSpec.ofChange operatorResolvesSpec)) operatorResolvesCard

/-- THE TIED CARD OF 'lfchecklaw03.OperatorForms'. -/
def operatorFormsCard : Claim7 := { stood := { row := operatorFormsRow, standIns := [], harness := (true, "0214b7409b11aba01738601ab9c6540f9e9632c7160b080a87d639eaaaddb014"), looks := false }, kinds := [], alts := [], laidByText := true, laidKinds := [.data], laidTests := true, laidLooks := .later }
def OperatorFormsCardSaid : Prop := Claim7.holds Tryd.pinned (.plain (OpenSpec.ofChange operatorFormsSpec)) operatorFormsCard

/-- THE TIED CARD OF 'lfchecklaw03.OperatorAdds'. -/
def operatorAddsCard : Claim7 := { stood := { row := operatorAddsRow, standIns := [], harness := (true, "0214b7409b11aba01738601ab9c6540f9e9632c7160b080a87d639eaaaddb014"), looks := false }, kinds := [], alts := [], laidByText := true, laidKinds := [.data], laidTests := true, laidLooks := .later }
def OperatorAddsCardSaid : Prop := Claim7.holds Tryd.pinned (.plain (OpenSpec.ofChange operatorAddsSpec)) operatorAddsCard

/-- THE SECOND FORM's CARD OF 'lfchecklaw01.TokenPieces'. -/
def tokenPiecesUptoCard : Claim7 := { stood := { row := tokenPiecesUptoRow, standIns := [], harness := (true, "0214b7409b11aba01738601ab9c6540f9e9632c7160b080a87d639eaaaddb014"), looks := false }, kinds := [], alts := [], laidByText := true, laidKinds := [.data], laidTests := true, laidLooks := .later }
def TokenPiecesUptoCardSaid : Prop := Claim7.holds Tryd.pinned (.plain (OpenSpec.upto tokenPiecesSpec)) tokenPiecesUptoCard

/-- THE SECOND FORM's CARD OF 'lfchecklaw01.TokenNames'. -/
def tokenNamesUptoCard : Claim7 := { stood := { row := tokenNamesUptoRow, standIns := [], harness := (true, "0214b7409b11aba01738601ab9c6540f9e9632c7160b080a87d639eaaaddb014"), looks := false }, kinds := [], alts := [], laidByText := true, laidKinds := [.data], laidTests := true, laidLooks := .later }
def TokenNamesUptoCardSaid : Prop := Claim7.holds Tryd.pinned (.plain (OpenSpec.upto tokenNamesSpec)) tokenNamesUptoCard

/-- THE SECOND FORM's CARD OF 'lfchecklaw01.TokenSpells'. -/
def tokenSpellsUptoCard : Claim7 := { stood := { row := tokenSpellsUptoRow, standIns := [], harness := (true, "0214b7409b11aba01738601ab9c6540f9e9632c7160b080a87d639eaaaddb014"), looks := false }, kinds := [], alts := [], laidByText := true, laidKinds := [.data], laidTests := true, laidLooks := .later }
def TokenSpellsUptoCardSaid : Prop := Claim7.holds Tryd.pinned (.plain (OpenSpec.upto tokenSpellsSpec)) tokenSpellsUptoCard

/-- THE SECOND FORM's CARD OF 'lfchecklaw01.TokenJoins'. -/
def tokenJoinsUptoCard : Claim7 := { stood := { row := tokenJoinsUptoRow, standIns := [], harness := (true, "0214b7409b11aba01738601ab9c6540f9e9632c7160b080a87d639eaaaddb014"), looks := false }, kinds := [], alts := [], laidByText := true, laidKinds := [.data], laidTests := true, laidLooks := .later }
def TokenJoinsUptoCardSaid : Prop := Claim7.holds Tryd.pinned (.plain (OpenSpec.upto tokenJoinsSpec)) tokenJoinsUptoCard

/-- THE SECOND FORM's CARD OF 'lfchecklaw01.TokenCuts'. -/
def tokenCutsUptoCard : Claim7 := { stood := { row := tokenCutsUptoRow, standIns := [], harness := (true, "0214b7409b11aba01738601ab9c6540f9e9632c7160b080a87d639eaaaddb014"), looks := false }, kinds := [], alts := [], laidByText := true, laidKinds := [.data], laidTests := true, laidLooks := .later }
def TokenCutsUptoCardSaid : Prop := Claim7.holds Tryd.pinned (.plain (OpenSpec.upto tokenCutsSpec)) tokenCutsUptoCard

/-- THE SECOND FORM's CARD OF 'lfchecklaw01.TokenComments'. -/
def tokenCommentsUptoCard : Claim7 := { stood := { row := tokenCommentsUptoRow, standIns := [], harness := (true, "0214b7409b11aba01738601ab9c6540f9e9632c7160b080a87d639eaaaddb014"), looks := false }, kinds := [], alts := [], laidByText := true, laidKinds := [.data], laidTests := true, laidLooks := .later }
def TokenCommentsUptoCardSaid : Prop := Claim7.holds Tryd.pinned (.plain (OpenSpec.upto tokenCommentsSpec)) tokenCommentsUptoCard

/-- THE SECOND FORM's CARD OF 'lfchecklaw01.TokenOffsets'. -/
def tokenOffsetsUptoCard : Claim7 := { stood := { row := tokenOffsetsUptoRow, standIns := [], harness := (true, "0214b7409b11aba01738601ab9c6540f9e9632c7160b080a87d639eaaaddb014"), looks := false }, kinds := [], alts := [], laidByText := true, laidKinds := [.data], laidTests := true, laidLooks := .later }
def TokenOffsetsUptoCardSaid : Prop := Claim7.holds Tryd.pinned (.plain (OpenSpec.upto tokenOffsetsSpec)) tokenOffsetsUptoCard

/-- THE SECOND FORM's CARD OF 'lfchecklaw02.RawForms'. -/
def rawFormsUptoCard : Claim7 := { stood := { row := rawFormsUptoRow, standIns := [], harness := (true, "0214b7409b11aba01738601ab9c6540f9e9632c7160b080a87d639eaaaddb014"), looks := false }, kinds := [], alts := [], laidByText := true, laidKinds := [.data], laidTests := true, laidLooks := .later }
def RawFormsUptoCardSaid : Prop := Claim7.holds Tryd.pinned (.plain (OpenSpec.upto rawFormsSpec)) rawFormsUptoCard

/-- THE SECOND FORM's CARD OF 'lfchecklaw02.RawSame'. -/
def rawSameUptoCard : Claim7 := { stood := { row := rawSameUptoRow, standIns := [], harness := (true, "0214b7409b11aba01738601ab9c6540f9e9632c7160b080a87d639eaaaddb014"), looks := false }, kinds := [], alts := [], laidByText := true, laidKinds := [.data], laidTests := true, laidLooks := .later }
def RawSameUptoCardSaid : Prop := Claim7.holds Tryd.pinned (.plain (OpenSpec.upto rawSameSpec)) rawSameUptoCard

/-- THE SECOND FORM's CARD OF 'lfchecklaw02.RawTexts'. -/
def rawTextsUptoCard : Claim7 := { stood := { row := rawTextsUptoRow, standIns := [], harness := (true, "0214b7409b11aba01738601ab9c6540f9e9632c7160b080a87d639eaaaddb014"), looks := false }, kinds := [], alts := [], laidByText := true, laidKinds := [.data], laidTests := true, laidLooks := .later }
def RawTextsUptoCardSaid : Prop := Claim7.holds Tryd.pinned (.plain (OpenSpec.upto rawTextsSpec)) rawTextsUptoCard

/-- THE SECOND FORM's CARD OF 'lfchecklaw02.RawBinds'. -/
def rawBindsUptoCard : Claim7 := { stood := { row := rawBindsUptoRow, standIns := [], harness := (true, "0214b7409b11aba01738601ab9c6540f9e9632c7160b080a87d639eaaaddb014"), looks := false }, kinds := [], alts := [], laidByText := true, laidKinds := [.data], laidTests := true, laidLooks := .later }
def RawBindsUptoCardSaid : Prop := Claim7.holds Tryd.pinned (.plain (OpenSpec.upto rawBindsSpec)) rawBindsUptoCard

/-- THE SECOND FORM's CARD OF 'lfchecklaw03.OperatorResolves'. -/
def operatorResolvesUptoCard : Claim7 := { stood := { row := operatorResolvesUptoRow, standIns := [], harness := (true, "0214b7409b11aba01738601ab9c6540f9e9632c7160b080a87d639eaaaddb014"), looks := false }, kinds := [], alts := [], laidByText := true, laidKinds := [.data], laidTests := true, laidLooks := .later }
def OperatorResolvesUptoCardSaid : Prop := Claim7.holds Tryd.pinned (.plain (OpenSpec.upto operatorResolvesSpec)) operatorResolvesUptoCard

/-- THE SECOND FORM's CARD OF 'lfchecklaw03.OperatorForms'. -/
def operatorFormsUptoCard : Claim7 := { stood := { row := operatorFormsUptoRow, standIns := [], harness := (true, "0214b7409b11aba01738601ab9c6540f9e9632c7160b080a87d639eaaaddb014"), looks := false }, kinds := [], alts := [], laidByText := true, laidKinds := [.data], laidTests := true, laidLooks := .later }
def OperatorFormsUptoCardSaid : Prop := Claim7.holds Tryd.pinned (.plain (OpenSpec.upto operatorFormsSpec)) operatorFormsUptoCard

/-- THE SECOND FORM's CARD OF 'lfchecklaw03.OperatorAdds'. -/
def operatorAddsUptoCard : Claim7 := { stood := { row := operatorAddsUptoRow, standIns := [], harness := (true, "0214b7409b11aba01738601ab9c6540f9e9632c7160b080a87d639eaaaddb014"), looks := false }, kinds := [], alts := [], laidByText := true, laidKinds := [.data], laidTests := true, laidLooks := .later }
def OperatorAddsUptoCardSaid : Prop := Claim7.holds Tryd.pinned (.plain (OpenSpec.upto operatorAddsSpec)) operatorAddsUptoCard
end Rows
end Go.Proofs.YtajefkjcfmfjkaaDoor
