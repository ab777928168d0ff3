/-
  DERIVED. GIVEN WITH THE SEED: THE CARDS: each row of YtcoddeemfdnjpaaDoorRows.lean that lists a variable, with what it lists TIED to the program's text (the seventh form; the later family's looks); each row that meets fmt, with fmt's text TOLD by the authors' own Lean function (tested against real Go, not proved from fmt's source: count such statements apart). THE CARD IS WHAT COUNTS. Prove the row's statement (the work); the ties are given (YtcoddeemfdnjpaaDoorTie.lean); close each card by the builder's one call (the guide's Derived/Test/ToyasCard.lean, 'card_holds'). Laid BY PROGRAM, IN A SANDBOX (cutbox-door.mjs). By AI agents, Wed Nov 11 2026. No macro, syntax, notation, axiom, sorry.
-/
import Derived.Test.YtcoddeemfdnjpaaDoorRows
import GoSem.ClaimSeven
namespace Go.Proofs.YtcoddeemfdnjpaaDoor
namespace Rows

/-- THE TIED CARD OF 'rollbooklaw02.CrcSums'. -/
def crcSumsCard : Claim7 := { stood := { row := crcSumsRow, standIns := [], harness := (true, "29c3a8e9f3f272036fb88436435e3cbc7fce43204ef3e6df1a557c4d4dbff5f4"), looks := false }, kinds := [], alts := [], laidByText := true, laidKinds := [.data], laidTests := true, laidLooks := .later }
def CrcSumsCardSaid : Prop := Claim7.holds Tryd.pinned (.plain (OpenSpec.ofChange crcSumsSpec)) crcSumsCard

/-- THE TIED CARD OF 'rollbooklaw02.CrcJoins'. -/
def crcJoinsCard : Claim7 := { stood := { row := crcJoinsRow, standIns := [], harness := (true, "29c3a8e9f3f272036fb88436435e3cbc7fce43204ef3e6df1a557c4d4dbff5f4"), looks := false }, kinds := [], alts := [], laidByText := true, laidKinds := [.data], laidTests := true, laidLooks := .later }
def CrcJoinsCardSaid : Prop := Claim7.holds Tryd.pinned (.plain (OpenSpec.ofChange crcJoinsSpec)) crcJoinsCard

/-- THE TIED CARD OF 'rollbooklaw02.CrcTells'. -/
def crcTellsCard : Claim7 := { stood := { row := crcTellsRow, standIns := [], harness := (true, "29c3a8e9f3f272036fb88436435e3cbc7fce43204ef3e6df1a557c4d4dbff5f4"), looks := false }, kinds := [], alts := [], laidByText := true, laidKinds := [.data], laidTests := true, laidLooks := .later }
def CrcTellsCardSaid : Prop := Claim7.holds Tryd.pinned (.plain (OpenSpec.ofChange crcTellsSpec)) crcTellsCard

/-- THE TIED CARD OF 'rollbooklaw04.PagePacks'. -/
def pagePacksCard : Claim7 := { stood := { row := pagePacksRow, standIns := [], harness := (true, "29c3a8e9f3f272036fb88436435e3cbc7fce43204ef3e6df1a557c4d4dbff5f4"), looks := false }, kinds := [], alts := [], laidByText := true, laidKinds := [.data], laidTests := true, laidLooks := .later }
def PagePacksCardSaid : Prop := Claim7.holds Tryd.pinned (.plain (OpenSpec.ofChange pagePacksSpec)) pagePacksCard

/-- THE TIED CARD OF 'rollbooklaw13.PrepSame'. -/
def prepSameCard : Claim7 := { stood := { row := prepSameRow, standIns := [], harness := (true, "29c3a8e9f3f272036fb88436435e3cbc7fce43204ef3e6df1a557c4d4dbff5f4"), looks := false }, kinds := [], alts := [], laidByText := true, laidKinds := [.data, .pinned], laidTests := true, laidLooks := .later }
def PrepSameCardSaid : Prop := Claim7.holds Tryd.pinned (.plain (OpenSpec.ofChange prepSameSpec)) prepSameCard

/-- THE TIED CARD OF 'rollbooklaw04.PageReads'. -/
def pageReadsCard : Claim7 := { stood := { row := pageReadsRow, standIns := [], harness := (true, "29c3a8e9f3f272036fb88436435e3cbc7fce43204ef3e6df1a557c4d4dbff5f4"), looks := false }, kinds := [], alts := [], laidByText := true, laidKinds := [.data], laidTests := true, laidLooks := .later }
def PageReadsCardSaid : Prop := Claim7.holds Tryd.pinned (.plain (OpenSpec.ofChange pageReadsSpec)) pageReadsCard

/-- THE TIED CARD OF 'rollbooklaw13.PrepBlanks'. -/
def prepBlanksCard : Claim7 := { stood := { row := prepBlanksRow, standIns := [], harness := (true, "29c3a8e9f3f272036fb88436435e3cbc7fce43204ef3e6df1a557c4d4dbff5f4"), looks := false }, kinds := [], alts := [], laidByText := true, laidKinds := [.data, .pinned], laidTests := true, laidLooks := .later }
def PrepBlanksCardSaid : Prop := Claim7.holds Tryd.pinned (.plain (OpenSpec.ofChange prepBlanksSpec)) prepBlanksCard

/-- THE TIED CARD OF 'rollbooklaw04.PageMetas'. -/
def pageMetasCard : Claim7 := { stood := { row := pageMetasRow, standIns := [], harness := (true, "29c3a8e9f3f272036fb88436435e3cbc7fce43204ef3e6df1a557c4d4dbff5f4"), looks := false }, kinds := [], alts := [], laidByText := true, laidKinds := [.data], laidTests := true, laidLooks := .later }
def PageMetasCardSaid : Prop := Claim7.holds Tryd.pinned (.plain (OpenSpec.ofChange pageMetasSpec)) pageMetasCard

/-- THE TIED CARD OF 'rollbooklaw04.PageNewest'. -/
def pageNewestCard : Claim7 := { stood := { row := pageNewestRow, standIns := [], harness := (true, "29c3a8e9f3f272036fb88436435e3cbc7fce43204ef3e6df1a557c4d4dbff5f4"), looks := false }, kinds := [], alts := [], laidByText := true, laidKinds := [.data], laidTests := true, laidLooks := .later }
def PageNewestCardSaid : Prop := Claim7.holds Tryd.pinned (.plain (OpenSpec.ofChange pageNewestSpec)) pageNewestCard

/-- THE TIED CARD OF 'rollbooklaw04.PageTells'. -/
def pageTellsCard : Claim7 := { stood := { row := pageTellsRow, standIns := [], harness := (true, "29c3a8e9f3f272036fb88436435e3cbc7fce43204ef3e6df1a557c4d4dbff5f4"), looks := false }, kinds := [], alts := [], laidByText := true, laidKinds := [.data], laidTests := true, laidLooks := .later }
def PageTellsCardSaid : Prop := Claim7.holds Tryd.pinned (.plain (OpenSpec.ofChange pageTellsSpec)) pageTellsCard

/-- THE TIED CARD OF 'rollbooklaw01.FieldNumbers'. -/
def fieldNumbersCard : Claim7 := { stood := { row := fieldNumbersRow, standIns := [], harness := (true, "29c3a8e9f3f272036fb88436435e3cbc7fce43204ef3e6df1a557c4d4dbff5f4"), looks := false }, kinds := [], alts := [], laidByText := true, laidKinds := [.data, .pinned], laidTests := true, laidLooks := .later }
def FieldNumbersCardSaid : Prop := Claim7.holds Tryd.pinned (.plain (OpenSpec.ofChange fieldNumbersSpec)) fieldNumbersCard

/-- THE TIED CARD OF 'rollbooklaw01.FieldOrder'. -/
def fieldOrderCard : Claim7 := { stood := { row := fieldOrderRow, standIns := [], harness := (true, "29c3a8e9f3f272036fb88436435e3cbc7fce43204ef3e6df1a557c4d4dbff5f4"), looks := false }, kinds := [], alts := [], laidByText := true, laidKinds := [.data, .pinned], laidTests := true, laidLooks := .later }
def FieldOrderCardSaid : Prop := Claim7.holds Tryd.pinned (.plain (OpenSpec.ofChange fieldOrderSpec)) fieldOrderCard

/-- THE TIED CARD OF 'rollbooklaw01.FieldTuples'. -/
def fieldTuplesCard : Claim7 := { stood := { row := fieldTuplesRow, standIns := [], harness := (true, "29c3a8e9f3f272036fb88436435e3cbc7fce43204ef3e6df1a557c4d4dbff5f4"), looks := false }, kinds := [], alts := [], laidByText := true, laidKinds := [.data, .pinned], laidTests := true, laidLooks := .later }
def FieldTuplesCardSaid : Prop := Claim7.holds Tryd.pinned (.plain (OpenSpec.ofChange fieldTuplesSpec)) fieldTuplesCard

/-- THE TIED CARD OF 'rollbooklaw01.FieldParts'. -/
def fieldPartsCard : Claim7 := { stood := { row := fieldPartsRow, standIns := [], harness := (true, "29c3a8e9f3f272036fb88436435e3cbc7fce43204ef3e6df1a557c4d4dbff5f4"), looks := false }, kinds := [], alts := [], laidByText := true, laidKinds := [.data, .pinned], laidTests := true, laidLooks := .later }
def FieldPartsCardSaid : Prop := Claim7.holds Tryd.pinned (.plain (OpenSpec.ofChange fieldPartsSpec)) fieldPartsCard

/-- THE TIED CARD OF 'rollbooklaw01.FieldTexts'. -/
def fieldTextsCard : Claim7 := { stood := { row := fieldTextsRow, standIns := [], harness := (true, "29c3a8e9f3f272036fb88436435e3cbc7fce43204ef3e6df1a557c4d4dbff5f4"), looks := false }, kinds := [], alts := [], laidByText := true, laidKinds := [.data, .pinned], laidTests := true, laidLooks := .later }
def FieldTextsCardSaid : Prop := Claim7.holds Tryd.pinned (.plain (OpenSpec.ofChange fieldTextsSpec)) fieldTextsCard

/-- THE TIED CARD OF 'rollbooklaw13.PrepRunes'. -/
def prepRunesCard : Claim7 := { stood := { row := prepRunesRow, standIns := [], harness := (true, "29c3a8e9f3f272036fb88436435e3cbc7fce43204ef3e6df1a557c4d4dbff5f4"), looks := false }, kinds := [], alts := [], laidByText := true, laidKinds := [.data, .pinned], laidTests := true, laidLooks := .later }
def PrepRunesCardSaid : Prop := Claim7.holds Tryd.pinned (.plain (OpenSpec.ofChange prepRunesSpec)) prepRunesCard

/-- THE TIED CARD OF 'rollbooklaw13.PrepReady'. -/
def prepReadyCard : Claim7 := { stood := { row := prepReadyRow, standIns := [], harness := (true, "29c3a8e9f3f272036fb88436435e3cbc7fce43204ef3e6df1a557c4d4dbff5f4"), looks := false }, kinds := [], alts := [], laidByText := true, laidKinds := [.data, .pinned], laidTests := true, laidLooks := .later }
def PrepReadyCardSaid : Prop := Claim7.holds Tryd.pinned (.plain (OpenSpec.ofChange prepReadySpec)) prepReadyCard

/-- THE TIED CARD OF 'rollbooklaw13.PrepOnce'. -/
def prepOnceCard : Claim7 := { stood := { row := prepOnceRow, standIns := [], harness := (true, "29c3a8e9f3f272036fb88436435e3cbc7fce43204ef3e6df1a557c4d4dbff5f4"), looks := false }, kinds := [], alts := [], laidByText := true, laidKinds := [.data, .pinned], laidTests := true, laidLooks := .later }
def PrepOnceCardSaid : Prop := Claim7.holds Tryd.pinned (.plain (OpenSpec.ofChange prepOnceSpec)) prepOnceCard

/-- THE SECOND FORM's CARD OF 'rollbooklaw02.CrcSums'. -/
def crcSumsUptoCard : Claim7 := { stood := { row := crcSumsUptoRow, standIns := [], harness := (true, "29c3a8e9f3f272036fb88436435e3cbc7fce43204ef3e6df1a557c4d4dbff5f4"), looks := false }, kinds := [], alts := [], laidByText := true, laidKinds := [.data], laidTests := true, laidLooks := .later }
def CrcSumsUptoCardSaid : Prop := Claim7.holds Tryd.pinned (.plain (OpenSpec.upto crcSumsSpec)) crcSumsUptoCard

/-- THE SECOND FORM's CARD OF 'rollbooklaw02.CrcJoins'. -/
def crcJoinsUptoCard : Claim7 := { stood := { row := crcJoinsUptoRow, standIns := [], harness := (true, "29c3a8e9f3f272036fb88436435e3cbc7fce43204ef3e6df1a557c4d4dbff5f4"), looks := false }, kinds := [], alts := [], laidByText := true, laidKinds := [.data], laidTests := true, laidLooks := .later }
def CrcJoinsUptoCardSaid : Prop := Claim7.holds Tryd.pinned (.plain (OpenSpec.upto crcJoinsSpec)) crcJoinsUptoCard

/-- THE SECOND FORM's CARD OF 'rollbooklaw02.CrcTells'. -/
def crcTellsUptoCard : Claim7 := { stood := { row := crcTellsUptoRow, standIns := [], harness := (true, "29c3a8e9f3f272036fb88436435e3cbc7fce43204ef3e6df1a557c4d4dbff5f4"), looks := false }, kinds := [], alts := [], laidByText := true, laidKinds := [.data], laidTests := true, laidLooks := .later }
def CrcTellsUptoCardSaid : Prop := Claim7.holds Tryd.pinned (.plain (OpenSpec.upto crcTellsSpec)) crcTellsUptoCard

/-- THE SECOND FORM's CARD OF 'rollbooklaw04.PagePacks'. -/
def pagePacksUptoCard : Claim7 := { stood := { row := pagePacksUptoRow, standIns := [], harness := (true, "29c3a8e9f3f272036fb88436435e3cbc7fce43204ef3e6df1a557c4d4dbff5f4"), looks := false }, kinds := [], alts := [], laidByText := true, laidKinds := [.data], laidTests := true, laidLooks := .later }
def PagePacksUptoCardSaid : Prop := Claim7.holds Tryd.pinned (.plain (OpenSpec.upto pagePacksSpec)) pagePacksUptoCard

/-- THE SECOND FORM's CARD OF 'rollbooklaw13.PrepSame'. -/
def prepSameUptoCard : Claim7 := { stood := { row := prepSameUptoRow, standIns := [], harness := (true, "29c3a8e9f3f272036fb88436435e3cbc7fce43204ef3e6df1a557c4d4dbff5f4"), looks := false }, kinds := [], alts := [], laidByText := true, laidKinds := [.data, .pinned], laidTests := true, laidLooks := .later }
def PrepSameUptoCardSaid : Prop := Claim7.holds Tryd.pinned (.plain (OpenSpec.upto prepSameSpec)) prepSameUptoCard

/-- THE SECOND FORM's CARD OF 'rollbooklaw04.PageReads'. -/
def pageReadsUptoCard : Claim7 := { stood := { row := pageReadsUptoRow, standIns := [], harness := (true, "29c3a8e9f3f272036fb88436435e3cbc7fce43204ef3e6df1a557c4d4dbff5f4"), looks := false }, kinds := [], alts := [], laidByText := true, laidKinds := [.data], laidTests := true, laidLooks := .later }
def PageReadsUptoCardSaid : Prop := Claim7.holds Tryd.pinned (.plain (OpenSpec.upto pageReadsSpec)) pageReadsUptoCard

/-- THE SECOND FORM's CARD OF 'rollbooklaw13.PrepBlanks'. -/
def prepBlanksUptoCard : Claim7 := { stood := { row := prepBlanksUptoRow, standIns := [], harness := (true, "29c3a8e9f3f272036fb88436435e3cbc7fce43204ef3e6df1a557c4d4dbff5f4"), looks := false }, kinds := [], alts := [], laidByText := true, laidKinds := [.data, .pinned], laidTests := true, laidLooks := .later }
def PrepBlanksUptoCardSaid : Prop := Claim7.holds Tryd.pinned (.plain (OpenSpec.upto prepBlanksSpec)) prepBlanksUptoCard

/-- THE SECOND FORM's CARD OF 'rollbooklaw04.PageMetas'. -/
def pageMetasUptoCard : Claim7 := { stood := { row := pageMetasUptoRow, standIns := [], harness := (true, "29c3a8e9f3f272036fb88436435e3cbc7fce43204ef3e6df1a557c4d4dbff5f4"), looks := false }, kinds := [], alts := [], laidByText := true, laidKinds := [.data], laidTests := true, laidLooks := .later }
def PageMetasUptoCardSaid : Prop := Claim7.holds Tryd.pinned (.plain (OpenSpec.upto pageMetasSpec)) pageMetasUptoCard

/-- THE SECOND FORM's CARD OF 'rollbooklaw04.PageNewest'. -/
def pageNewestUptoCard : Claim7 := { stood := { row := pageNewestUptoRow, standIns := [], harness := (true, "29c3a8e9f3f272036fb88436435e3cbc7fce43204ef3e6df1a557c4d4dbff5f4"), looks := false }, kinds := [], alts := [], laidByText := true, laidKinds := [.data], laidTests := true, laidLooks := .later }
def PageNewestUptoCardSaid : Prop := Claim7.holds Tryd.pinned (.plain (OpenSpec.upto pageNewestSpec)) pageNewestUptoCard

/-- THE SECOND FORM's CARD OF 'rollbooklaw04.PageTells'. -/
def pageTellsUptoCard : Claim7 := { stood := { row := pageTellsUptoRow, standIns := [], harness := (true, "29c3a8e9f3f272036fb88436435e3cbc7fce43204ef3e6df1a557c4d4dbff5f4"), looks := false }, kinds := [], alts := [], laidByText := true, laidKinds := [.data], laidTests := true, laidLooks := .later }
def PageTellsUptoCardSaid : Prop := Claim7.holds Tryd.pinned (.plain (OpenSpec.upto pageTellsSpec)) pageTellsUptoCard

/-- THE SECOND FORM's CARD OF 'rollbooklaw01.FieldNumbers'. -/
def fieldNumbersUptoCard : Claim7 := { stood := { row := fieldNumbersUptoRow, standIns := [], harness := (true, "29c3a8e9f3f272036fb88436435e3cbc7fce43204ef3e6df1a557c4d4dbff5f4"), looks := false }, kinds := [], alts := [], laidByText := true, laidKinds := [.data, .pinned], laidTests := true, laidLooks := .later }
def FieldNumbersUptoCardSaid : Prop := Claim7.holds Tryd.pinned (.plain (OpenSpec.upto fieldNumbersSpec)) fieldNumbersUptoCard

/-- THE SECOND FORM's CARD OF 'rollbooklaw01.FieldOrder'. -/
def fieldOrderUptoCard : Claim7 := { stood := { row := fieldOrderUptoRow, standIns := [], harness := (true, "29c3a8e9f3f272036fb88436435e3cbc7fce43204ef3e6df1a557c4d4dbff5f4"), looks := false }, kinds := [], alts := [], laidByText := true, laidKinds := [.data, .pinned], laidTests := true, laidLooks := .later }
def FieldOrderUptoCardSaid : Prop := Claim7.holds Tryd.pinned (.plain (OpenSpec.upto fieldOrderSpec)) fieldOrderUptoCard

/-- THE SECOND FORM's CARD OF 'rollbooklaw01.FieldTuples'. -/
def fieldTuplesUptoCard : Claim7 := { stood := { row := fieldTuplesUptoRow, standIns := [], harness := (true, "29c3a8e9f3f272036fb88436435e3cbc7fce43204ef3e6df1a557c4d4dbff5f4"), looks := false }, kinds := [], alts := [], laidByText := true, laidKinds := [.data, .pinned], laidTests := true, laidLooks := .later }
def FieldTuplesUptoCardSaid : Prop := Claim7.holds Tryd.pinned (.plain (OpenSpec.upto fieldTuplesSpec)) fieldTuplesUptoCard

/-- THE SECOND FORM's CARD OF 'rollbooklaw01.FieldParts'. -/
def fieldPartsUptoCard : Claim7 := { stood := { row := fieldPartsUptoRow, standIns := [], harness := (true, "29c3a8e9f3f272036fb88436435e3cbc7fce43204ef3e6df1a557c4d4dbff5f4"), looks := false }, kinds := [], alts := [], laidByText := true, laidKinds := [.data, .pinned], laidTests := true, laidLooks := .later }
def FieldPartsUptoCardSaid : Prop := Claim7.holds Tryd.pinned (.plain (OpenSpec.upto fieldPartsSpec)) fieldPartsUptoCard

/-- THE SECOND FORM's CARD OF 'rollbooklaw01.FieldTexts'. -/
def fieldTextsUptoCard : Claim7 := { stood := { row := fieldTextsUptoRow, standIns := [], harness := (true, "29c3a8e9f3f272036fb88436435e3cbc7fce43204ef3e6df1a557c4d4dbff5f4"), looks := false }, kinds := [], alts := [], laidByText := true, laidKinds := [.data, .pinned], laidTests := true, laidLooks := .later }
def FieldTextsUptoCardSaid : Prop := Claim7.holds Tryd.pinned (.plain (OpenSpec.upto fieldTextsSpec)) fieldTextsUptoCard

/-- THE SECOND FORM's CARD OF 'rollbooklaw13.PrepRunes'. -/
def prepRunesUptoCard : Claim7 := { stood := { row := prepRunesUptoRow, standIns := [], harness := (true, "29c3a8e9f3f272036fb88436435e3cbc7fce43204ef3e6df1a557c4d4dbff5f4"), looks := false }, kinds := [], alts := [], laidByText := true, laidKinds := [.data, .pinned], laidTests := true, laidLooks := .later }
def PrepRunesUptoCardSaid : Prop := Claim7.holds Tryd.pinned (.plain (OpenSpec.upto prepRunesSpec)) prepRunesUptoCard

/-- THE SECOND FORM's CARD OF 'rollbooklaw13.PrepReady'. -/
def prepReadyUptoCard : Claim7 := { stood := { row := prepReadyUptoRow, standIns := [], harness := (true, "29c3a8e9f3f272036fb88436435e3cbc7fce43204ef3e6df1a557c4d4dbff5f4"), looks := false }, kinds := [], alts := [], laidByText := true, laidKinds := [.data, .pinned], laidTests := true, laidLooks := .later }
def PrepReadyUptoCardSaid : Prop := Claim7.holds Tryd.pinned (.plain (OpenSpec.upto prepReadySpec)) prepReadyUptoCard

/-- THE SECOND FORM's CARD OF 'rollbooklaw13.PrepOnce'. -/
def prepOnceUptoCard : Claim7 := { stood := { row := prepOnceUptoRow, standIns := [], harness := (true, "29c3a8e9f3f272036fb88436435e3cbc7fce43204ef3e6df1a557c4d4dbff5f4"), looks := false }, kinds := [], alts := [], laidByText := true, laidKinds := [.data, .pinned], laidTests := true, laidLooks := .later }
def PrepOnceUptoCardSaid : Prop := Claim7.holds Tryd.pinned (.plain (OpenSpec.upto prepOnceSpec)) prepOnceUptoCard
end Rows
end Go.Proofs.YtcoddeemfdnjpaaDoor
