/-
  NARROWER THAN 'FOR EVERY INPUT', by the rows' own cells (each row's printed sentence says how): TokenPieces: laid · TokenNames: laid · TokenSpells: laid · TokenJoins: laid · TokenCuts: laid · TokenComments: laid · TokenOffsets: laid · RawForms: laid · RawSame: laid · RawTexts: laid · RawBinds: laid · OperatorResolves: laid · OperatorForms: laid · OperatorAdds: laid.
  DERIVED. THE GIVEN ROWS OF THIS SEAT. 14 by the template 'for every input the law returns true; each argument reads behind the call as it read before'; 0 by the template 'total and deterministic' (their statements: YtajefkjcfmfjkaaDoorTotals.lean).
  GIVEN WITH THE SEED: the statements are not yours to turn. If you find one false, say at which input.
  Laid BY PROGRAM, IN A SANDBOX (cutbox-rows.mjs): the forced cells as the released guide's own fill.sh prints them over the translation a07ec1a8d38208d4… (all of the seat's roots in one cut). By AI agents, Wed Nov 11 2026. No macro, syntax, notation, axiom, sorry.
-/
import Derived.Test.YtajefkjcfmfjkaaDoorChecked
import GoSem.Claim
import GoSem.ClaimJoined
import GoSem.ClaimMapViews
import Derived.JoinedTies
import Derived.KernelRfl
namespace Go.Proofs.YtajefkjcfmfjkaaDoor
/- THE CELL 'sum', in the pinned program and in every row, IS THE sha256 OF THE DUMP (.gsa) THAT YtajefkjcfmfjkaaDoorProg.lean LOADS. Nothing in Lean hashes anything: it is a label: what it is worth is what the hold of that sum in a sandbox is worth. -/
noncomputable def Tryd.pinned : Pinned := { name := "ytajefkjcfmfjkaadoor", sum := "a07ec1a8d38208d4638057524f39c59f0102318d093400ea82f8ec41676486ee", checked := Tryd.checked }
namespace Rows
def none {H : Type} : Left H := { results := [], args := [] }

/- WHAT THE LISTED PACKAGE-LEVEL VARIABLES READ AS WHEN THE CALL BEGINS. Each datum BY PROGRAM (the guide's laid-datum.mjs) off the statement by which the dump's own 'gosem.cut.vars' lays the variable. In a bare row this is a premise. The card (YtajefkjcfmfjkaaDoorCards.lean) ties it to the program's text. -/
def laid_lfcheck_lfchecklaw01_pieces {H : Type} : DataW H := .slice [.lit (.string [97]), .lit (.string [78]), .lit (.string [116, 121, 112, 101]), .lit (.string [45, 62]), .lit (.string [60, 45]), .lit (.string [61]), .lit (.string [95]), .lit (.string [95, 120]), .lit (.string [40]), .lit (.string [41]), .lit (.string [91]), .lit (.string [93]), .lit (.string [123]), .lit (.string [125]), .lit (.string [58]), .lit (.string [46]), .lit (.string [32]), .lit (.string [10]), .lit (.string [9]), .lit (.string [37, 32, 99]), .lit (.string [37]), .lit (.string [37, 123]), .lit (.string [125, 37]), .lit (.string [37, 109, 111, 100, 101]), .lit (.string [37, 37]), .lit (.string [64, 99]), .lit (.string [97, 45, 62, 98]), .lit (.string [0]), .lit (.string [127]), .lit (.string [195, 169]), .lit (.string [43]), .lit (.string [97, 97, 97, 97, 97, 97, 97, 97, 97, 97, 97, 97, 97, 97, 97, 97, 97, 97, 97, 97, 97, 97, 97, 97, 97, 97, 97, 97, 97, 97, 97, 97, 97, 97, 97, 97, 97, 97, 97, 97, 97, 97, 97, 97, 97, 97, 97, 97, 97, 97, 97, 97, 97, 97, 97, 97, 97, 97, 97, 97, 97, 97, 97, 97])] []
def laid_lfcheck_lfcheckmade_words {H : Type} : DataW H := .slice [.lit (.string [97]), .lit (.string [98]), .lit (.string [78]), .lit (.string [77]), .lit (.string [43]), .lit (.string [42]), .lit (.string [126]), .lit (.string [33]), .lit (.string [110, 97, 116]), .lit (.string [102]), .lit (.string [64, 120]), .lit (.string [116, 121, 112, 101]), .lit (.string [])] []

/-- 'lfchecklaw01.TokenPieces': WHATEVER THE INPUT: true; the input reads as it did. -/
def tokenPiecesSpec : ChangeSpec := { name := "tokenPieces", fn := fun _ => fun
  | [d] => { results := [.lit (.bool true)], args := [d] }
  | _ => none }
def tokenPiecesRow : OpenClaim := { program := "ytajefkjcfmfjkaadoor", sum := "a07ec1a8d38208d4638057524f39c59f0102318d093400ea82f8ec41676486ee", func := "lfcheck/lfchecklaw01.TokenPieces", spec := "tokenPieces", inPlace := ["internal/bytealg.IndexByteString", "internal/abi.NoEscape", "internal/bytealg.MakeNoZero"], unfollowed := true, recurses := true, named := ["lfcheck/lfchecklaw01.pieces"], apart := false, laid := [("lfcheck/lfchecklaw01.pieces", laid_lfcheck_lfchecklaw01_pieces)] }
def TokenPiecesSaid : Prop := tokenPiecesRow.holds Tryd.pinned (OpenSpec.ofChange tokenPiecesSpec)

/-- ITS FALSE NEIGHBOUR: 'it returns false'. Refute it at one input. -/
def tokenPiecesWrong : ChangeSpec := { name := "tokenPieces", fn := fun _ => fun
  | [d] => { results := [.lit (.bool false)], args := [d] }
  | _ => none }
def TokenPiecesWrongFalsely : Prop := tokenPiecesRow.holds Tryd.pinned (OpenSpec.ofChange tokenPiecesWrong)

/-- 'lfchecklaw01.TokenNames': WHATEVER THE INPUT: true; the input reads as it did. -/
def tokenNamesSpec : ChangeSpec := { name := "tokenNames", fn := fun _ => fun
  | [d1, d2] => { results := [.lit (.bool true)], args := [d1, d2] }
  | _ => none }
def tokenNamesRow : OpenClaim := { program := "ytajefkjcfmfjkaadoor", sum := "a07ec1a8d38208d4638057524f39c59f0102318d093400ea82f8ec41676486ee", func := "lfcheck/lfchecklaw01.TokenNames", spec := "tokenNames", inPlace := ["internal/bytealg.IndexByteString", "internal/abi.NoEscape", "internal/bytealg.MakeNoZero"], unfollowed := true, recurses := true, named := ["lfcheck/lfchecklaw01.pieces"], apart := false, laid := [("lfcheck/lfchecklaw01.pieces", laid_lfcheck_lfchecklaw01_pieces)] }
def TokenNamesSaid : Prop := tokenNamesRow.holds Tryd.pinned (OpenSpec.ofChange tokenNamesSpec)

/-- ITS FALSE NEIGHBOUR: 'it returns false'. Refute it at one input. -/
def tokenNamesWrong : ChangeSpec := { name := "tokenNames", fn := fun _ => fun
  | [d1, d2] => { results := [.lit (.bool false)], args := [d1, d2] }
  | _ => none }
def TokenNamesWrongFalsely : Prop := tokenNamesRow.holds Tryd.pinned (OpenSpec.ofChange tokenNamesWrong)

/-- 'lfchecklaw01.TokenSpells': WHATEVER THE INPUT: true; the input reads as it did. -/
def tokenSpellsSpec : ChangeSpec := { name := "tokenSpells", fn := fun _ => fun
  | [d] => { results := [.lit (.bool true)], args := [d] }
  | _ => none }
def tokenSpellsRow : OpenClaim := { program := "ytajefkjcfmfjkaadoor", sum := "a07ec1a8d38208d4638057524f39c59f0102318d093400ea82f8ec41676486ee", func := "lfcheck/lfchecklaw01.TokenSpells", spec := "tokenSpells", inPlace := ["internal/bytealg.IndexByteString", "internal/abi.NoEscape", "internal/bytealg.MakeNoZero"], unfollowed := true, recurses := true, named := ["lfcheck/lfchecklaw01.pieces"], apart := false, laid := [("lfcheck/lfchecklaw01.pieces", laid_lfcheck_lfchecklaw01_pieces)] }
def TokenSpellsSaid : Prop := tokenSpellsRow.holds Tryd.pinned (OpenSpec.ofChange tokenSpellsSpec)

/-- ITS FALSE NEIGHBOUR: 'it returns false'. Refute it at one input. -/
def tokenSpellsWrong : ChangeSpec := { name := "tokenSpells", fn := fun _ => fun
  | [d] => { results := [.lit (.bool false)], args := [d] }
  | _ => none }
def TokenSpellsWrongFalsely : Prop := tokenSpellsRow.holds Tryd.pinned (OpenSpec.ofChange tokenSpellsWrong)

/-- 'lfchecklaw01.TokenJoins': WHATEVER THE INPUT: true; the input reads as it did. -/
def tokenJoinsSpec : ChangeSpec := { name := "tokenJoins", fn := fun _ => fun
  | [d1, d2] => { results := [.lit (.bool true)], args := [d1, d2] }
  | _ => none }
def tokenJoinsRow : OpenClaim := { program := "ytajefkjcfmfjkaadoor", sum := "a07ec1a8d38208d4638057524f39c59f0102318d093400ea82f8ec41676486ee", func := "lfcheck/lfchecklaw01.TokenJoins", spec := "tokenJoins", inPlace := ["internal/bytealg.IndexByteString", "internal/abi.NoEscape", "internal/bytealg.MakeNoZero"], unfollowed := true, recurses := true, named := ["lfcheck/lfchecklaw01.pieces"], apart := false, laid := [("lfcheck/lfchecklaw01.pieces", laid_lfcheck_lfchecklaw01_pieces)] }
def TokenJoinsSaid : Prop := tokenJoinsRow.holds Tryd.pinned (OpenSpec.ofChange tokenJoinsSpec)

/-- ITS FALSE NEIGHBOUR: 'it returns false'. Refute it at one input. -/
def tokenJoinsWrong : ChangeSpec := { name := "tokenJoins", fn := fun _ => fun
  | [d1, d2] => { results := [.lit (.bool false)], args := [d1, d2] }
  | _ => none }
def TokenJoinsWrongFalsely : Prop := tokenJoinsRow.holds Tryd.pinned (OpenSpec.ofChange tokenJoinsWrong)

/-- 'lfchecklaw01.TokenCuts': WHATEVER THE INPUT: true; the input reads as it did. -/
def tokenCutsSpec : ChangeSpec := { name := "tokenCuts", fn := fun _ => fun
  | [d1, d2] => { results := [.lit (.bool true)], args := [d1, d2] }
  | _ => none }
def tokenCutsRow : OpenClaim := { program := "ytajefkjcfmfjkaadoor", sum := "a07ec1a8d38208d4638057524f39c59f0102318d093400ea82f8ec41676486ee", func := "lfcheck/lfchecklaw01.TokenCuts", spec := "tokenCuts", inPlace := ["internal/bytealg.IndexByteString", "internal/abi.NoEscape", "internal/bytealg.MakeNoZero"], unfollowed := true, recurses := true, named := ["lfcheck/lfchecklaw01.pieces"], apart := false, laid := [("lfcheck/lfchecklaw01.pieces", laid_lfcheck_lfchecklaw01_pieces)] }
def TokenCutsSaid : Prop := tokenCutsRow.holds Tryd.pinned (OpenSpec.ofChange tokenCutsSpec)

/-- ITS FALSE NEIGHBOUR: 'it returns false'. Refute it at one input. -/
def tokenCutsWrong : ChangeSpec := { name := "tokenCuts", fn := fun _ => fun
  | [d1, d2] => { results := [.lit (.bool false)], args := [d1, d2] }
  | _ => none }
def TokenCutsWrongFalsely : Prop := tokenCutsRow.holds Tryd.pinned (OpenSpec.ofChange tokenCutsWrong)

/-- 'lfchecklaw01.TokenComments': WHATEVER THE INPUT: true; the input reads as it did. -/
def tokenCommentsSpec : ChangeSpec := { name := "tokenComments", fn := fun _ => fun
  | [d1, d2] => { results := [.lit (.bool true)], args := [d1, d2] }
  | _ => none }
def tokenCommentsRow : OpenClaim := { program := "ytajefkjcfmfjkaadoor", sum := "a07ec1a8d38208d4638057524f39c59f0102318d093400ea82f8ec41676486ee", func := "lfcheck/lfchecklaw01.TokenComments", spec := "tokenComments", inPlace := ["internal/bytealg.IndexByteString", "internal/abi.NoEscape", "internal/bytealg.MakeNoZero"], unfollowed := true, recurses := true, named := ["lfcheck/lfchecklaw01.pieces"], apart := false, laid := [("lfcheck/lfchecklaw01.pieces", laid_lfcheck_lfchecklaw01_pieces)] }
def TokenCommentsSaid : Prop := tokenCommentsRow.holds Tryd.pinned (OpenSpec.ofChange tokenCommentsSpec)

/-- ITS FALSE NEIGHBOUR: 'it returns false'. Refute it at one input. -/
def tokenCommentsWrong : ChangeSpec := { name := "tokenComments", fn := fun _ => fun
  | [d1, d2] => { results := [.lit (.bool false)], args := [d1, d2] }
  | _ => none }
def TokenCommentsWrongFalsely : Prop := tokenCommentsRow.holds Tryd.pinned (OpenSpec.ofChange tokenCommentsWrong)

/-- 'lfchecklaw01.TokenOffsets': WHATEVER THE INPUT: true; the input reads as it did. -/
def tokenOffsetsSpec : ChangeSpec := { name := "tokenOffsets", fn := fun _ => fun
  | [d] => { results := [.lit (.bool true)], args := [d] }
  | _ => none }
def tokenOffsetsRow : OpenClaim := { program := "ytajefkjcfmfjkaadoor", sum := "a07ec1a8d38208d4638057524f39c59f0102318d093400ea82f8ec41676486ee", func := "lfcheck/lfchecklaw01.TokenOffsets", spec := "tokenOffsets", inPlace := ["internal/bytealg.IndexByteString", "internal/abi.NoEscape", "internal/bytealg.MakeNoZero"], unfollowed := true, recurses := true, named := ["lfcheck/lfchecklaw01.pieces"], apart := false, laid := [("lfcheck/lfchecklaw01.pieces", laid_lfcheck_lfchecklaw01_pieces)] }
def TokenOffsetsSaid : Prop := tokenOffsetsRow.holds Tryd.pinned (OpenSpec.ofChange tokenOffsetsSpec)

/-- ITS FALSE NEIGHBOUR: 'it returns false'. Refute it at one input. -/
def tokenOffsetsWrong : ChangeSpec := { name := "tokenOffsets", fn := fun _ => fun
  | [d] => { results := [.lit (.bool false)], args := [d] }
  | _ => none }
def TokenOffsetsWrongFalsely : Prop := tokenOffsetsRow.holds Tryd.pinned (OpenSpec.ofChange tokenOffsetsWrong)

/-- 'lfchecklaw02.RawForms': WHATEVER THE INPUT: true; the input reads as it did. -/
def rawFormsSpec : ChangeSpec := { name := "rawForms", fn := fun _ => fun
  | [d1, d2, d3] => { results := [.lit (.bool true)], args := [d1, d2, d3] }
  | _ => none }
def rawFormsRow : OpenClaim := { program := "ytajefkjcfmfjkaadoor", sum := "a07ec1a8d38208d4638057524f39c59f0102318d093400ea82f8ec41676486ee", func := "lfcheck/lfchecklaw02.RawForms", spec := "rawForms", inPlace := ["internal/bytealg.IndexByteString", "internal/abi.NoEscape"], unfollowed := true, recurses := true, named := ["lfcheck/lfcheckmade.words"], apart := false, laid := [("lfcheck/lfcheckmade.words", laid_lfcheck_lfcheckmade_words)] }
def RawFormsSaid : Prop := rawFormsRow.holds Tryd.pinned (OpenSpec.ofChange rawFormsSpec)

/-- ITS FALSE NEIGHBOUR: 'it returns false'. Refute it at one input. -/
def rawFormsWrong : ChangeSpec := { name := "rawForms", fn := fun _ => fun
  | [d1, d2, d3] => { results := [.lit (.bool false)], args := [d1, d2, d3] }
  | _ => none }
def RawFormsWrongFalsely : Prop := rawFormsRow.holds Tryd.pinned (OpenSpec.ofChange rawFormsWrong)

/-- 'lfchecklaw02.RawSame': WHATEVER THE INPUT: true; the input reads as it did. -/
def rawSameSpec : ChangeSpec := { name := "rawSame", fn := fun _ => fun
  | [d1, d2, d3] => { results := [.lit (.bool true)], args := [d1, d2, d3] }
  | _ => none }
def rawSameRow : OpenClaim := { program := "ytajefkjcfmfjkaadoor", sum := "a07ec1a8d38208d4638057524f39c59f0102318d093400ea82f8ec41676486ee", func := "lfcheck/lfchecklaw02.RawSame", spec := "rawSame", inPlace := ["internal/bytealg.IndexByteString", "internal/abi.NoEscape"], unfollowed := true, recurses := true, named := ["lfcheck/lfcheckmade.words"], apart := false, laid := [("lfcheck/lfcheckmade.words", laid_lfcheck_lfcheckmade_words)] }
def RawSameSaid : Prop := rawSameRow.holds Tryd.pinned (OpenSpec.ofChange rawSameSpec)

/-- ITS FALSE NEIGHBOUR: 'it returns false'. Refute it at one input. -/
def rawSameWrong : ChangeSpec := { name := "rawSame", fn := fun _ => fun
  | [d1, d2, d3] => { results := [.lit (.bool false)], args := [d1, d2, d3] }
  | _ => none }
def RawSameWrongFalsely : Prop := rawSameRow.holds Tryd.pinned (OpenSpec.ofChange rawSameWrong)

/-- 'lfchecklaw02.RawTexts': WHATEVER THE INPUT: true; the input reads as it did. -/
def rawTextsSpec : ChangeSpec := { name := "rawTexts", fn := fun _ => fun
  | [d1, d2] => { results := [.lit (.bool true)], args := [d1, d2] }
  | _ => none }
def rawTextsRow : OpenClaim := { program := "ytajefkjcfmfjkaadoor", sum := "a07ec1a8d38208d4638057524f39c59f0102318d093400ea82f8ec41676486ee", func := "lfcheck/lfchecklaw02.RawTexts", spec := "rawTexts", inPlace := ["internal/bytealg.IndexByteString", "internal/abi.NoEscape"], unfollowed := true, recurses := true, named := ["lfcheck/lfcheckmade.words"], apart := false, laid := [("lfcheck/lfcheckmade.words", laid_lfcheck_lfcheckmade_words)] }
def RawTextsSaid : Prop := rawTextsRow.holds Tryd.pinned (OpenSpec.ofChange rawTextsSpec)

/-- ITS FALSE NEIGHBOUR: 'it returns false'. Refute it at one input. -/
def rawTextsWrong : ChangeSpec := { name := "rawTexts", fn := fun _ => fun
  | [d1, d2] => { results := [.lit (.bool false)], args := [d1, d2] }
  | _ => none }
def RawTextsWrongFalsely : Prop := rawTextsRow.holds Tryd.pinned (OpenSpec.ofChange rawTextsWrong)

/-- 'lfchecklaw02.RawBinds': WHATEVER THE INPUT: true; the input reads as it did. -/
def rawBindsSpec : ChangeSpec := { name := "rawBinds", fn := fun _ => fun
  | [d1, d2] => { results := [.lit (.bool true)], args := [d1, d2] }
  | _ => none }
def rawBindsRow : OpenClaim := { program := "ytajefkjcfmfjkaadoor", sum := "a07ec1a8d38208d4638057524f39c59f0102318d093400ea82f8ec41676486ee", func := "lfcheck/lfchecklaw02.RawBinds", spec := "rawBinds", inPlace := ["internal/bytealg.IndexByteString", "internal/abi.NoEscape"], unfollowed := true, recurses := true, named := ["lfcheck/lfcheckmade.words"], apart := false, laid := [("lfcheck/lfcheckmade.words", laid_lfcheck_lfcheckmade_words)] }
def RawBindsSaid : Prop := rawBindsRow.holds Tryd.pinned (OpenSpec.ofChange rawBindsSpec)

/-- ITS FALSE NEIGHBOUR: 'it returns false'. Refute it at one input. -/
def rawBindsWrong : ChangeSpec := { name := "rawBinds", fn := fun _ => fun
  | [d1, d2] => { results := [.lit (.bool false)], args := [d1, d2] }
  | _ => none }
def RawBindsWrongFalsely : Prop := rawBindsRow.holds Tryd.pinned (OpenSpec.ofChange rawBindsWrong)

/-- 'lfchecklaw03.OperatorResolves': WHATEVER THE INPUT: true; the input reads as it did. -/
def operatorResolvesSpec : ChangeSpec := { name := "operatorResolves", fn := fun _ => fun
  | [d1, d2] => { results := [.lit (.bool true)], args := [d1, d2] }
  | _ => none }
def operatorResolvesRow : OpenClaim := { program := "ytajefkjcfmfjkaadoor", sum := "a07ec1a8d38208d4638057524f39c59f0102318d093400ea82f8ec41676486ee", func := "lfcheck/lfchecklaw03.OperatorResolves", spec := "operatorResolves", inPlace := ["internal/bytealg.IndexByteString"], unfollowed := true, recurses := true, named := ["lfcheck/lfcheckmade.words"], apart := false, laid := [("lfcheck/lfcheckmade.words", laid_lfcheck_lfcheckmade_words)] }
def OperatorResolvesSaid : Prop := operatorResolvesRow.holds Tryd.pinned (OpenSpec.ofChange operatorResolvesSpec)

/-- ITS FALSE NEIGHBOUR: 'it returns false'. Refute it at one input. -/
def operatorResolvesWrong : ChangeSpec := { name := "operatorResolves", fn := fun _ => fun
  | [d1, d2] => { results := [.lit (.bool false)], args := [d1, d2] }
  | _ => none }
def OperatorResolvesWrongFalsely : Prop := operatorResolvesRow.holds Tryd.pinned (OpenSpec.ofChange operatorResolvesWrong)

/-- 'lfchecklaw03.OperatorForms': WHATEVER THE INPUT: true; the input reads as it did. -/
def operatorFormsSpec : ChangeSpec := { name := "operatorForms", fn := fun _ => fun
  | [d1, d2, d3] => { results := [.lit (.bool true)], args := [d1, d2, d3] }
  | _ => none }
def operatorFormsRow : OpenClaim := { program := "ytajefkjcfmfjkaadoor", sum := "a07ec1a8d38208d4638057524f39c59f0102318d093400ea82f8ec41676486ee", func := "lfcheck/lfchecklaw03.OperatorForms", spec := "operatorForms", inPlace := ["internal/bytealg.IndexByteString"], unfollowed := true, recurses := true, named := ["lfcheck/lfcheckmade.words"], apart := false, laid := [("lfcheck/lfcheckmade.words", laid_lfcheck_lfcheckmade_words)] }
def OperatorFormsSaid : Prop := operatorFormsRow.holds Tryd.pinned (OpenSpec.ofChange operatorFormsSpec)

/-- ITS FALSE NEIGHBOUR: 'it returns false'. Refute it at one input. -/
def operatorFormsWrong : ChangeSpec := { name := "operatorForms", fn := fun _ => fun
  | [d1, d2, d3] => { results := [.lit (.bool false)], args := [d1, d2, d3] }
  | _ => none }
def OperatorFormsWrongFalsely : Prop := operatorFormsRow.holds Tryd.pinned (OpenSpec.ofChange operatorFormsWrong)

/-- 'lfchecklaw03.OperatorAdds': WHATEVER THE INPUT: true; the input reads as it did. -/
def operatorAddsSpec : ChangeSpec := { name := "operatorAdds", fn := fun _ => fun
  | [d1, d2] => { results := [.lit (.bool true)], args := [d1, d2] }
  | _ => none }
def operatorAddsRow : OpenClaim := { program := "ytajefkjcfmfjkaadoor", sum := "a07ec1a8d38208d4638057524f39c59f0102318d093400ea82f8ec41676486ee", func := "lfcheck/lfchecklaw03.OperatorAdds", spec := "operatorAdds", inPlace := ["internal/bytealg.IndexByteString"], unfollowed := true, recurses := true, named := ["lfcheck/lfcheckmade.words"], apart := false, laid := [("lfcheck/lfcheckmade.words", laid_lfcheck_lfcheckmade_words)] }
def OperatorAddsSaid : Prop := operatorAddsRow.holds Tryd.pinned (OpenSpec.ofChange operatorAddsSpec)

/-- ITS FALSE NEIGHBOUR: 'it returns false'. Refute it at one input. -/
def operatorAddsWrong : ChangeSpec := { name := "operatorAdds", fn := fun _ => fun
  | [d1, d2] => { results := [.lit (.bool false)], args := [d1, d2] }
  | _ => none }
def OperatorAddsWrongFalsely : Prop := operatorAddsRow.holds Tryd.pinned (OpenSpec.ofChange operatorAddsWrong)

/- THE SECOND FORM. 'bulk': how many values and letters a reading holds, each counted each time it is reached (what is shared counts as often as it is met; a slice's spare places count too). A statement '..UptoSaid' is the law's where the arguments, and the package variables that the reading takes, are together of bulk at most 1048576: NARROWER than '..Said'. Prove '..Said' where nothing that the law and all that it calls make is longer than what came in: it says more and counts as full. Else prove '..UptoSaid'. A law counts once. -/
mutual
def uptoBulk {H : Type} : DataW H → Nat
  | .lit (.string bytes) => bytes.length + 1
  | .lit _ => 1
  | .nil => 1
  | .ptr d => uptoBulk d + 1
  | .slice elems spare => uptoBulkAll elems + uptoBulkAll spare + 1
  | .agg parts => uptoBulkAll parts + 1
  | .iface _ d => uptoBulk d + 1
  | .map entries => uptoBulkEntries entries + 1
  | .held _ => 1
def uptoBulkAll {H : Type} : List (DataW H) → Nat
  | [] => 0
  | d :: r => uptoBulk d + uptoBulkAll r
def uptoBulkEntries {H : Type} : List (Lit × DataW H) → Nat
  | [] => 0
  | x :: r => uptoBulkEntry x + uptoBulkEntries r
def uptoBulkEntry {H : Type} : Lit × DataW H → Nat
  | (.string bytes, d) => bytes.length + uptoBulk d + 1
  | (_, d) => uptoBulk d + 1
 end
def uptoSmall : (H : Type) → List (DataW H) → Bool := fun _ ds => decide (uptoBulkAll ds ≤ 1048576)
def OpenSpec.upto (s : _root_.Go.ChangeSpec) : _root_.Go.OpenSpec := { _root_.Go.OpenSpec.ofChange s with cond := some uptoSmall }

/-- 'lfchecklaw01.TokenPieces', WHERE WHAT IT READS IS OF BULK AT MOST 1048576: true; the input reads as it did. -/
def tokenPiecesUptoRow : OpenClaim := { program := "ytajefkjcfmfjkaadoor", sum := "a07ec1a8d38208d4638057524f39c59f0102318d093400ea82f8ec41676486ee", func := "lfcheck/lfchecklaw01.TokenPieces", spec := "tokenPieces", inPlace := ["internal/bytealg.IndexByteString", "internal/abi.NoEscape", "internal/bytealg.MakeNoZero"], unfollowed := true, recurses := true, named := ["lfcheck/lfchecklaw01.pieces"], apart := false, laid := [("lfcheck/lfchecklaw01.pieces", laid_lfcheck_lfchecklaw01_pieces)], narrowed := true }
def TokenPiecesUptoSaid : Prop := tokenPiecesUptoRow.holds Tryd.pinned (OpenSpec.upto tokenPiecesSpec)

/-- 'lfchecklaw01.TokenNames', WHERE WHAT IT READS IS OF BULK AT MOST 1048576: true; the input reads as it did. -/
def tokenNamesUptoRow : OpenClaim := { program := "ytajefkjcfmfjkaadoor", sum := "a07ec1a8d38208d4638057524f39c59f0102318d093400ea82f8ec41676486ee", func := "lfcheck/lfchecklaw01.TokenNames", spec := "tokenNames", inPlace := ["internal/bytealg.IndexByteString", "internal/abi.NoEscape", "internal/bytealg.MakeNoZero"], unfollowed := true, recurses := true, named := ["lfcheck/lfchecklaw01.pieces"], apart := false, laid := [("lfcheck/lfchecklaw01.pieces", laid_lfcheck_lfchecklaw01_pieces)], narrowed := true }
def TokenNamesUptoSaid : Prop := tokenNamesUptoRow.holds Tryd.pinned (OpenSpec.upto tokenNamesSpec)

/-- 'lfchecklaw01.TokenSpells', WHERE WHAT IT READS IS OF BULK AT MOST 1048576: true; the input reads as it did. -/
def tokenSpellsUptoRow : OpenClaim := { program := "ytajefkjcfmfjkaadoor", sum := "a07ec1a8d38208d4638057524f39c59f0102318d093400ea82f8ec41676486ee", func := "lfcheck/lfchecklaw01.TokenSpells", spec := "tokenSpells", inPlace := ["internal/bytealg.IndexByteString", "internal/abi.NoEscape", "internal/bytealg.MakeNoZero"], unfollowed := true, recurses := true, named := ["lfcheck/lfchecklaw01.pieces"], apart := false, laid := [("lfcheck/lfchecklaw01.pieces", laid_lfcheck_lfchecklaw01_pieces)], narrowed := true }
def TokenSpellsUptoSaid : Prop := tokenSpellsUptoRow.holds Tryd.pinned (OpenSpec.upto tokenSpellsSpec)

/-- 'lfchecklaw01.TokenJoins', WHERE WHAT IT READS IS OF BULK AT MOST 1048576: true; the input reads as it did. -/
def tokenJoinsUptoRow : OpenClaim := { program := "ytajefkjcfmfjkaadoor", sum := "a07ec1a8d38208d4638057524f39c59f0102318d093400ea82f8ec41676486ee", func := "lfcheck/lfchecklaw01.TokenJoins", spec := "tokenJoins", inPlace := ["internal/bytealg.IndexByteString", "internal/abi.NoEscape", "internal/bytealg.MakeNoZero"], unfollowed := true, recurses := true, named := ["lfcheck/lfchecklaw01.pieces"], apart := false, laid := [("lfcheck/lfchecklaw01.pieces", laid_lfcheck_lfchecklaw01_pieces)], narrowed := true }
def TokenJoinsUptoSaid : Prop := tokenJoinsUptoRow.holds Tryd.pinned (OpenSpec.upto tokenJoinsSpec)

/-- 'lfchecklaw01.TokenCuts', WHERE WHAT IT READS IS OF BULK AT MOST 1048576: true; the input reads as it did. -/
def tokenCutsUptoRow : OpenClaim := { program := "ytajefkjcfmfjkaadoor", sum := "a07ec1a8d38208d4638057524f39c59f0102318d093400ea82f8ec41676486ee", func := "lfcheck/lfchecklaw01.TokenCuts", spec := "tokenCuts", inPlace := ["internal/bytealg.IndexByteString", "internal/abi.NoEscape", "internal/bytealg.MakeNoZero"], unfollowed := true, recurses := true, named := ["lfcheck/lfchecklaw01.pieces"], apart := false, laid := [("lfcheck/lfchecklaw01.pieces", laid_lfcheck_lfchecklaw01_pieces)], narrowed := true }
def TokenCutsUptoSaid : Prop := tokenCutsUptoRow.holds Tryd.pinned (OpenSpec.upto tokenCutsSpec)

/-- 'lfchecklaw01.TokenComments', WHERE WHAT IT READS IS OF BULK AT MOST 1048576: true; the input reads as it did. -/
def tokenCommentsUptoRow : OpenClaim := { program := "ytajefkjcfmfjkaadoor", sum := "a07ec1a8d38208d4638057524f39c59f0102318d093400ea82f8ec41676486ee", func := "lfcheck/lfchecklaw01.TokenComments", spec := "tokenComments", inPlace := ["internal/bytealg.IndexByteString", "internal/abi.NoEscape", "internal/bytealg.MakeNoZero"], unfollowed := true, recurses := true, named := ["lfcheck/lfchecklaw01.pieces"], apart := false, laid := [("lfcheck/lfchecklaw01.pieces", laid_lfcheck_lfchecklaw01_pieces)], narrowed := true }
def TokenCommentsUptoSaid : Prop := tokenCommentsUptoRow.holds Tryd.pinned (OpenSpec.upto tokenCommentsSpec)

/-- 'lfchecklaw01.TokenOffsets', WHERE WHAT IT READS IS OF BULK AT MOST 1048576: true; the input reads as it did. -/
def tokenOffsetsUptoRow : OpenClaim := { program := "ytajefkjcfmfjkaadoor", sum := "a07ec1a8d38208d4638057524f39c59f0102318d093400ea82f8ec41676486ee", func := "lfcheck/lfchecklaw01.TokenOffsets", spec := "tokenOffsets", inPlace := ["internal/bytealg.IndexByteString", "internal/abi.NoEscape", "internal/bytealg.MakeNoZero"], unfollowed := true, recurses := true, named := ["lfcheck/lfchecklaw01.pieces"], apart := false, laid := [("lfcheck/lfchecklaw01.pieces", laid_lfcheck_lfchecklaw01_pieces)], narrowed := true }
def TokenOffsetsUptoSaid : Prop := tokenOffsetsUptoRow.holds Tryd.pinned (OpenSpec.upto tokenOffsetsSpec)

/-- 'lfchecklaw02.RawForms', WHERE WHAT IT READS IS OF BULK AT MOST 1048576: true; the input reads as it did. -/
def rawFormsUptoRow : OpenClaim := { program := "ytajefkjcfmfjkaadoor", sum := "a07ec1a8d38208d4638057524f39c59f0102318d093400ea82f8ec41676486ee", func := "lfcheck/lfchecklaw02.RawForms", spec := "rawForms", inPlace := ["internal/bytealg.IndexByteString", "internal/abi.NoEscape"], unfollowed := true, recurses := true, named := ["lfcheck/lfcheckmade.words"], apart := false, laid := [("lfcheck/lfcheckmade.words", laid_lfcheck_lfcheckmade_words)], narrowed := true }
def RawFormsUptoSaid : Prop := rawFormsUptoRow.holds Tryd.pinned (OpenSpec.upto rawFormsSpec)

/-- 'lfchecklaw02.RawSame', WHERE WHAT IT READS IS OF BULK AT MOST 1048576: true; the input reads as it did. -/
def rawSameUptoRow : OpenClaim := { program := "ytajefkjcfmfjkaadoor", sum := "a07ec1a8d38208d4638057524f39c59f0102318d093400ea82f8ec41676486ee", func := "lfcheck/lfchecklaw02.RawSame", spec := "rawSame", inPlace := ["internal/bytealg.IndexByteString", "internal/abi.NoEscape"], unfollowed := true, recurses := true, named := ["lfcheck/lfcheckmade.words"], apart := false, laid := [("lfcheck/lfcheckmade.words", laid_lfcheck_lfcheckmade_words)], narrowed := true }
def RawSameUptoSaid : Prop := rawSameUptoRow.holds Tryd.pinned (OpenSpec.upto rawSameSpec)

/-- 'lfchecklaw02.RawTexts', WHERE WHAT IT READS IS OF BULK AT MOST 1048576: true; the input reads as it did. -/
def rawTextsUptoRow : OpenClaim := { program := "ytajefkjcfmfjkaadoor", sum := "a07ec1a8d38208d4638057524f39c59f0102318d093400ea82f8ec41676486ee", func := "lfcheck/lfchecklaw02.RawTexts", spec := "rawTexts", inPlace := ["internal/bytealg.IndexByteString", "internal/abi.NoEscape"], unfollowed := true, recurses := true, named := ["lfcheck/lfcheckmade.words"], apart := false, laid := [("lfcheck/lfcheckmade.words", laid_lfcheck_lfcheckmade_words)], narrowed := true }
def RawTextsUptoSaid : Prop := rawTextsUptoRow.holds Tryd.pinned (OpenSpec.upto rawTextsSpec)

/-- 'lfchecklaw02.RawBinds', WHERE WHAT IT READS IS OF BULK AT MOST 1048576: true; the input reads as it did. -/
def rawBindsUptoRow : OpenClaim := { program := "ytajefkjcfmfjkaadoor", sum := "a07ec1a8d38208d4638057524f39c59f0102318d093400ea82f8ec41676486ee", func := "lfcheck/lfchecklaw02.RawBinds", spec := "rawBinds", inPlace := ["internal/bytealg.IndexByteString", "internal/abi.NoEscape"], unfollowed := true, recurses := true, named := ["lfcheck/lfcheckmade.words"], apart := false, laid := [("lfcheck/lfcheckmade.words", laid_lfcheck_lfcheckmade_words)], narrowed := true }
def RawBindsUptoSaid : Prop := rawBindsUptoRow.holds Tryd.pinned (OpenSpec.upto rawBindsSpec)

/-- 'lfchecklaw03.OperatorResolves', WHERE WHAT IT READS IS OF BULK AT MOST 1048576: true; the input reads as it did. -/
def operatorResolvesUptoRow : OpenClaim := { program := "ytajefkjcfmfjkaadoor", sum := "a07ec1a8d38208d4638057524f39c59f0102318d093400ea82f8ec41676486ee", func := "lfcheck/lfchecklaw03.OperatorResolves", spec := "operatorResolves", inPlace := ["internal/bytealg.IndexByteString"], unfollowed := true, recurses := true, named := ["lfcheck/lfcheckmade.words"], apart := false, laid := [("lfcheck/lfcheckmade.words", laid_lfcheck_lfcheckmade_words)], narrowed := true }
def OperatorResolvesUptoSaid : Prop := operatorResolvesUptoRow.holds Tryd.pinned (OpenSpec.upto operatorResolvesSpec)

/-- 'lfchecklaw03.OperatorForms', WHERE WHAT IT READS IS OF BULK AT MOST 1048576: true; the input reads as it did. -/
def operatorFormsUptoRow : OpenClaim := { program := "ytajefkjcfmfjkaadoor", sum := "a07ec1a8d38208d4638057524f39c59f0102318d093400ea82f8ec41676486ee", func := "lfcheck/lfchecklaw03.OperatorForms", spec := "operatorForms", inPlace := ["internal/bytealg.IndexByteString"], unfollowed := true, recurses := true, named := ["lfcheck/lfcheckmade.words"], apart := false, laid := [("lfcheck/lfcheckmade.words", laid_lfcheck_lfcheckmade_words)], narrowed := true }
def OperatorFormsUptoSaid : Prop := operatorFormsUptoRow.holds Tryd.pinned (OpenSpec.upto operatorFormsSpec)

/-- 'lfchecklaw03.OperatorAdds', WHERE WHAT IT READS IS OF BULK AT MOST 1048576: true; the input reads as it did. -/
def operatorAddsUptoRow : OpenClaim := { program := "ytajefkjcfmfjkaadoor", sum := "a07ec1a8d38208d4638057524f39c59f0102318d093400ea82f8ec41676486ee", func := "lfcheck/lfchecklaw03.OperatorAdds", spec := "operatorAdds", inPlace := ["internal/bytealg.IndexByteString"], unfollowed := true, recurses := true, named := ["lfcheck/lfcheckmade.words"], apart := false, laid := [("lfcheck/lfcheckmade.words", laid_lfcheck_lfcheckmade_words)], narrowed := true }
def OperatorAddsUptoSaid : Prop := operatorAddsUptoRow.holds Tryd.pinned (OpenSpec.upto operatorAddsSpec)

end Rows
end Go.Proofs.YtajefkjcfmfjkaaDoor
