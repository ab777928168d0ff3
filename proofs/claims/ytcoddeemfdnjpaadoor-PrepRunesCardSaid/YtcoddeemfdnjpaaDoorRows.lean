/-
  NARROWER THAN 'FOR EVERY INPUT', by the rows' own cells (each row's printed sentence says how): CrcSums: laid · CrcJoins: laid · CrcTells: laid · PagePacks: laid · PrepSame: laid · PageReads: laid · PrepBlanks: laid · PageMetas: laid · PageNewest: laid · PageTells: laid · FieldNumbers: laid · FieldOrder: laid · FieldTuples: laid · FieldParts: laid · FieldTexts: laid · PrepRunes: laid · PrepReady: laid · PrepOnce: laid.
  DERIVED. THE GIVEN ROWS OF THIS SEAT. 18 by the template 'for every input the law returns true; each argument reads behind the call as it read before'; 0 by the template 'total and deterministic' (their statements: YtcoddeemfdnjpaaDoorTotals.lean).
  GIVEN WITH THE SEED: the statements are not yours to turn. If you find one false, say at which input.
  Laid BY PROGRAM, IN A SANDBOX (cutbox-rows.mjs): the forced cells as the released guide's own fill.sh prints them over the translation 52df3019b54af054… (all of the seat's roots in one cut). By AI agents, Wed Nov 11 2026. No macro, syntax, notation, axiom, sorry.
-/
import Derived.Test.YtcoddeemfdnjpaaDoorChecked
import GoSem.PinnedTables
import GoSem.Claim
import GoSem.ClaimJoined
import GoSem.ClaimMapViews
import Derived.JoinedTies
import Derived.KernelRfl
namespace Go.Proofs.YtcoddeemfdnjpaaDoor
/- THE CELL 'sum', in the pinned program and in every row, IS THE sha256 OF THE DUMP (.gsa) THAT YtcoddeemfdnjpaaDoorProg.lean LOADS. Nothing in Lean hashes anything: it is a label: what it is worth is what the hold of that sum in a sandbox is worth. -/
noncomputable def Tryd.pinned : Pinned := { name := "ytcoddeemfdnjpaadoor", sum := "52df3019b54af054edf0d0955262b18c146cb615f700573b6c39ff515d1b0b1f", checked := Tryd.checked }
namespace Rows
def none {H : Type} : Left H := { results := [], args := [] }

/- WHAT THE LISTED PACKAGE-LEVEL VARIABLES READ AS WHEN THE CALL BEGINS. Each datum BY PROGRAM (the guide's laid-datum.mjs) off the statement by which the dump's own 'gosem.cut.vars' lays the variable. In a bare row this is a premise. The card (YtcoddeemfdnjpaaDoorCards.lean) ties it to the program's text. -/
def laid_rollbook_crc_row {H : Type} : DataW H := .agg [.lit (.int .u32 0), .lit (.int .u32 498536548), .lit (.int .u32 997073096), .lit (.int .u32 651767980), .lit (.int .u32 1994146192), .lit (.int .u32 1802195444), .lit (.int .u32 1303535960), .lit (.int .u32 1342533948), .lit (.int .u32 3988292384), .lit (.int .u32 4027552580), .lit (.int .u32 3604390888), .lit (.int .u32 3412177804), .lit (.int .u32 2607071920), .lit (.int .u32 2262029012), .lit (.int .u32 2685067896), .lit (.int .u32 3183342108)]
def laid_unicode_utf8_acceptRanges {H : Type} : DataW H := .agg [.agg [.lit (.int .u8 128), .lit (.int .u8 191)], .agg [.lit (.int .u8 160), .lit (.int .u8 191)], .agg [.lit (.int .u8 128), .lit (.int .u8 159)], .agg [.lit (.int .u8 144), .lit (.int .u8 191)], .agg [.lit (.int .u8 128), .lit (.int .u8 143)], .agg [.lit (.int .u8 0), .lit (.int .u8 0)], .agg [.lit (.int .u8 0), .lit (.int .u8 0)], .agg [.lit (.int .u8 0), .lit (.int .u8 0)], .agg [.lit (.int .u8 0), .lit (.int .u8 0)], .agg [.lit (.int .u8 0), .lit (.int .u8 0)], .agg [.lit (.int .u8 0), .lit (.int .u8 0)], .agg [.lit (.int .u8 0), .lit (.int .u8 0)], .agg [.lit (.int .u8 0), .lit (.int .u8 0)], .agg [.lit (.int .u8 0), .lit (.int .u8 0)], .agg [.lit (.int .u8 0), .lit (.int .u8 0)], .agg [.lit (.int .u8 0), .lit (.int .u8 0)]]
/-- One of Go's own tables, pinned by name: the form's constant. -/
def laid_unicode_utf8_first : DataW Unit := Go.Pinned.utf8First

/-- 'rollbooklaw02.CrcSums': WHATEVER THE INPUT: true; the input reads as it did. -/
def crcSumsSpec : ChangeSpec := { name := "crcSums", fn := fun _ => fun
  | [d1, d2] => { results := [.lit (.bool true)], args := [d1, d2] }
  | _ => none }
def crcSumsRow : OpenClaim := { program := "ytcoddeemfdnjpaadoor", sum := "52df3019b54af054edf0d0955262b18c146cb615f700573b6c39ff515d1b0b1f", func := "rollbook/rollbooklaw02.CrcSums", spec := "crcSums", named := ["rollbook/crc.row"], apart := false, laid := [("rollbook/crc.row", laid_rollbook_crc_row)] }
def CrcSumsSaid : Prop := crcSumsRow.holds Tryd.pinned (OpenSpec.ofChange crcSumsSpec)

/-- ITS FALSE NEIGHBOUR: 'it returns false'. Refute it at one input. -/
def crcSumsWrong : ChangeSpec := { name := "crcSums", fn := fun _ => fun
  | [d1, d2] => { results := [.lit (.bool false)], args := [d1, d2] }
  | _ => none }
def CrcSumsWrongFalsely : Prop := crcSumsRow.holds Tryd.pinned (OpenSpec.ofChange crcSumsWrong)

/-- 'rollbooklaw02.CrcJoins': WHATEVER THE INPUT: true; the input reads as it did. -/
def crcJoinsSpec : ChangeSpec := { name := "crcJoins", fn := fun _ => fun
  | [d1, d2] => { results := [.lit (.bool true)], args := [d1, d2] }
  | _ => none }
def crcJoinsRow : OpenClaim := { program := "ytcoddeemfdnjpaadoor", sum := "52df3019b54af054edf0d0955262b18c146cb615f700573b6c39ff515d1b0b1f", func := "rollbook/rollbooklaw02.CrcJoins", spec := "crcJoins", named := ["rollbook/crc.row"], apart := false, laid := [("rollbook/crc.row", laid_rollbook_crc_row)] }
def CrcJoinsSaid : Prop := crcJoinsRow.holds Tryd.pinned (OpenSpec.ofChange crcJoinsSpec)

/-- ITS FALSE NEIGHBOUR: 'it returns false'. Refute it at one input. -/
def crcJoinsWrong : ChangeSpec := { name := "crcJoins", fn := fun _ => fun
  | [d1, d2] => { results := [.lit (.bool false)], args := [d1, d2] }
  | _ => none }
def CrcJoinsWrongFalsely : Prop := crcJoinsRow.holds Tryd.pinned (OpenSpec.ofChange crcJoinsWrong)

/-- 'rollbooklaw02.CrcTells': WHATEVER THE INPUT: true; the input reads as it did. -/
def crcTellsSpec : ChangeSpec := { name := "crcTells", fn := fun _ => fun
  | [d1, d2, d3] => { results := [.lit (.bool true)], args := [d1, d2, d3] }
  | _ => none }
def crcTellsRow : OpenClaim := { program := "ytcoddeemfdnjpaadoor", sum := "52df3019b54af054edf0d0955262b18c146cb615f700573b6c39ff515d1b0b1f", func := "rollbook/rollbooklaw02.CrcTells", spec := "crcTells", named := ["rollbook/crc.row"], apart := false, laid := [("rollbook/crc.row", laid_rollbook_crc_row)] }
def CrcTellsSaid : Prop := crcTellsRow.holds Tryd.pinned (OpenSpec.ofChange crcTellsSpec)

/-- ITS FALSE NEIGHBOUR: 'it returns false'. Refute it at one input. -/
def crcTellsWrong : ChangeSpec := { name := "crcTells", fn := fun _ => fun
  | [d1, d2, d3] => { results := [.lit (.bool false)], args := [d1, d2, d3] }
  | _ => none }
def CrcTellsWrongFalsely : Prop := crcTellsRow.holds Tryd.pinned (OpenSpec.ofChange crcTellsWrong)

/-- 'rollbooklaw04.PagePacks': WHATEVER THE INPUT: true; the input reads as it did. -/
def pagePacksSpec : ChangeSpec := { name := "pagePacks", fn := fun _ => fun
  | [d] => { results := [.lit (.bool true)], args := [d] }
  | _ => none }
def pagePacksRow : OpenClaim := { program := "ytcoddeemfdnjpaadoor", sum := "52df3019b54af054edf0d0955262b18c146cb615f700573b6c39ff515d1b0b1f", func := "rollbook/rollbooklaw04.PagePacks", spec := "pagePacks", inPlace := ["internal/abi.NoEscape", "internal/bytealg.MakeNoZero"], named := ["rollbook/crc.row"], apart := false, laid := [("rollbook/crc.row", laid_rollbook_crc_row)] }
def PagePacksSaid : Prop := pagePacksRow.holds Tryd.pinned (OpenSpec.ofChange pagePacksSpec)

/-- ITS FALSE NEIGHBOUR: 'it returns false'. Refute it at one input. -/
def pagePacksWrong : ChangeSpec := { name := "pagePacks", fn := fun _ => fun
  | [d] => { results := [.lit (.bool false)], args := [d] }
  | _ => none }
def PagePacksWrongFalsely : Prop := pagePacksRow.holds Tryd.pinned (OpenSpec.ofChange pagePacksWrong)

/-- 'rollbooklaw13.PrepSame': WHATEVER THE INPUT: true; the input reads as it did. -/
def prepSameSpec : ChangeSpec := { name := "prepSame", fn := fun _ => fun
  | [d1, d2, d3] => { results := [.lit (.bool true)], args := [d1, d2, d3] }
  | _ => none }
def prepSameRow : OpenClaim := { program := "ytcoddeemfdnjpaadoor", sum := "52df3019b54af054edf0d0955262b18c146cb615f700573b6c39ff515d1b0b1f", func := "rollbook/rollbooklaw13.PrepSame", spec := "prepSame", inPlace := ["internal/abi.NoEscape", "internal/bytealg.CountString", "internal/bytealg.IndexByteString", "internal/bytealg.IndexString", "internal/bytealg.MakeNoZero"], named := ["unicode/utf8.first", "unicode/utf8.acceptRanges", "internal/bytealg.MaxLen"], apart := false, laid := [("unicode/utf8.acceptRanges", laid_unicode_utf8_acceptRanges), ("unicode/utf8.first", laid_unicode_utf8_first)] }
def PrepSameSaid : Prop := prepSameRow.holds Tryd.pinned (OpenSpec.ofChange prepSameSpec)

/-- ITS FALSE NEIGHBOUR: 'it returns false'. Refute it at one input. -/
def prepSameWrong : ChangeSpec := { name := "prepSame", fn := fun _ => fun
  | [d1, d2, d3] => { results := [.lit (.bool false)], args := [d1, d2, d3] }
  | _ => none }
def PrepSameWrongFalsely : Prop := prepSameRow.holds Tryd.pinned (OpenSpec.ofChange prepSameWrong)

/-- 'rollbooklaw04.PageReads': WHATEVER THE INPUT: true; the input reads as it did. -/
def pageReadsSpec : ChangeSpec := { name := "pageReads", fn := fun _ => fun
  | [d] => { results := [.lit (.bool true)], args := [d] }
  | _ => none }
def pageReadsRow : OpenClaim := { program := "ytcoddeemfdnjpaadoor", sum := "52df3019b54af054edf0d0955262b18c146cb615f700573b6c39ff515d1b0b1f", func := "rollbook/rollbooklaw04.PageReads", spec := "pageReads", inPlace := ["internal/abi.NoEscape", "internal/bytealg.MakeNoZero"], named := ["rollbook/crc.row"], apart := false, laid := [("rollbook/crc.row", laid_rollbook_crc_row)] }
def PageReadsSaid : Prop := pageReadsRow.holds Tryd.pinned (OpenSpec.ofChange pageReadsSpec)

/-- ITS FALSE NEIGHBOUR: 'it returns false'. Refute it at one input. -/
def pageReadsWrong : ChangeSpec := { name := "pageReads", fn := fun _ => fun
  | [d] => { results := [.lit (.bool false)], args := [d] }
  | _ => none }
def PageReadsWrongFalsely : Prop := pageReadsRow.holds Tryd.pinned (OpenSpec.ofChange pageReadsWrong)

/-- 'rollbooklaw13.PrepBlanks': WHATEVER THE INPUT: true; the input reads as it did. -/
def prepBlanksSpec : ChangeSpec := { name := "prepBlanks", fn := fun _ => fun
  | [d1, d2, d3] => { results := [.lit (.bool true)], args := [d1, d2, d3] }
  | _ => none }
def prepBlanksRow : OpenClaim := { program := "ytcoddeemfdnjpaadoor", sum := "52df3019b54af054edf0d0955262b18c146cb615f700573b6c39ff515d1b0b1f", func := "rollbook/rollbooklaw13.PrepBlanks", spec := "prepBlanks", inPlace := ["internal/abi.NoEscape", "internal/bytealg.CountString", "internal/bytealg.IndexByteString", "internal/bytealg.IndexString", "internal/bytealg.MakeNoZero"], named := ["unicode/utf8.first", "unicode/utf8.acceptRanges", "internal/bytealg.MaxLen"], apart := false, laid := [("unicode/utf8.acceptRanges", laid_unicode_utf8_acceptRanges), ("unicode/utf8.first", laid_unicode_utf8_first)] }
def PrepBlanksSaid : Prop := prepBlanksRow.holds Tryd.pinned (OpenSpec.ofChange prepBlanksSpec)

/-- ITS FALSE NEIGHBOUR: 'it returns false'. Refute it at one input. -/
def prepBlanksWrong : ChangeSpec := { name := "prepBlanks", fn := fun _ => fun
  | [d1, d2, d3] => { results := [.lit (.bool false)], args := [d1, d2, d3] }
  | _ => none }
def PrepBlanksWrongFalsely : Prop := prepBlanksRow.holds Tryd.pinned (OpenSpec.ofChange prepBlanksWrong)

/-- 'rollbooklaw04.PageMetas': WHATEVER THE INPUT: true; the input reads as it did. -/
def pageMetasSpec : ChangeSpec := { name := "pageMetas", fn := fun _ => fun
  | [d1, d2] => { results := [.lit (.bool true)], args := [d1, d2] }
  | _ => none }
def pageMetasRow : OpenClaim := { program := "ytcoddeemfdnjpaadoor", sum := "52df3019b54af054edf0d0955262b18c146cb615f700573b6c39ff515d1b0b1f", func := "rollbook/rollbooklaw04.PageMetas", spec := "pageMetas", inPlace := ["internal/abi.NoEscape", "internal/bytealg.MakeNoZero"], unfollowed := true, recurses := true, named := ["rollbook/crc.row"], apart := false, laid := [("rollbook/crc.row", laid_rollbook_crc_row)] }
def PageMetasSaid : Prop := pageMetasRow.holds Tryd.pinned (OpenSpec.ofChange pageMetasSpec)

/-- ITS FALSE NEIGHBOUR: 'it returns false'. Refute it at one input. -/
def pageMetasWrong : ChangeSpec := { name := "pageMetas", fn := fun _ => fun
  | [d1, d2] => { results := [.lit (.bool false)], args := [d1, d2] }
  | _ => none }
def PageMetasWrongFalsely : Prop := pageMetasRow.holds Tryd.pinned (OpenSpec.ofChange pageMetasWrong)

/-- 'rollbooklaw04.PageNewest': WHATEVER THE INPUT: true; the input reads as it did. -/
def pageNewestSpec : ChangeSpec := { name := "pageNewest", fn := fun _ => fun
  | [d1, d2] => { results := [.lit (.bool true)], args := [d1, d2] }
  | _ => none }
def pageNewestRow : OpenClaim := { program := "ytcoddeemfdnjpaadoor", sum := "52df3019b54af054edf0d0955262b18c146cb615f700573b6c39ff515d1b0b1f", func := "rollbook/rollbooklaw04.PageNewest", spec := "pageNewest", inPlace := ["internal/abi.NoEscape", "internal/bytealg.MakeNoZero"], unfollowed := true, recurses := true, named := ["rollbook/crc.row"], apart := false, laid := [("rollbook/crc.row", laid_rollbook_crc_row)] }
def PageNewestSaid : Prop := pageNewestRow.holds Tryd.pinned (OpenSpec.ofChange pageNewestSpec)

/-- ITS FALSE NEIGHBOUR: 'it returns false'. Refute it at one input. -/
def pageNewestWrong : ChangeSpec := { name := "pageNewest", fn := fun _ => fun
  | [d1, d2] => { results := [.lit (.bool false)], args := [d1, d2] }
  | _ => none }
def PageNewestWrongFalsely : Prop := pageNewestRow.holds Tryd.pinned (OpenSpec.ofChange pageNewestWrong)

/-- 'rollbooklaw04.PageTells': WHATEVER THE INPUT: true; the input reads as it did. -/
def pageTellsSpec : ChangeSpec := { name := "pageTells", fn := fun _ => fun
  | [d1, d2, d3, d4] => { results := [.lit (.bool true)], args := [d1, d2, d3, d4] }
  | _ => none }
def pageTellsRow : OpenClaim := { program := "ytcoddeemfdnjpaadoor", sum := "52df3019b54af054edf0d0955262b18c146cb615f700573b6c39ff515d1b0b1f", func := "rollbook/rollbooklaw04.PageTells", spec := "pageTells", inPlace := ["internal/abi.NoEscape", "internal/bytealg.MakeNoZero"], unfollowed := true, recurses := true, named := ["rollbook/crc.row"], apart := false, laid := [("rollbook/crc.row", laid_rollbook_crc_row)] }
def PageTellsSaid : Prop := pageTellsRow.holds Tryd.pinned (OpenSpec.ofChange pageTellsSpec)

/-- ITS FALSE NEIGHBOUR: 'it returns false'. Refute it at one input. -/
def pageTellsWrong : ChangeSpec := { name := "pageTells", fn := fun _ => fun
  | [d1, d2, d3, d4] => { results := [.lit (.bool false)], args := [d1, d2, d3, d4] }
  | _ => none }
def PageTellsWrongFalsely : Prop := pageTellsRow.holds Tryd.pinned (OpenSpec.ofChange pageTellsWrong)

/-- 'rollbooklaw01.FieldNumbers': WHATEVER THE INPUT: true; the input reads as it did. -/
def fieldNumbersSpec : ChangeSpec := { name := "fieldNumbers", fn := fun _ => fun
  | [d1, d2, d3, d4] => { results := [.lit (.bool true)], args := [d1, d2, d3, d4] }
  | _ => none }
def fieldNumbersRow : OpenClaim := { program := "ytcoddeemfdnjpaadoor", sum := "52df3019b54af054edf0d0955262b18c146cb615f700573b6c39ff515d1b0b1f", func := "rollbook/rollbooklaw01.FieldNumbers", spec := "fieldNumbers", inPlace := ["internal/bytealg.CountString", "internal/bytealg.IndexByteString", "internal/bytealg.IndexString", "internal/abi.NoEscape", "internal/bytealg.MakeNoZero"], named := ["internal/bytealg.MaxLen", "unicode/utf8.first", "unicode/utf8.acceptRanges"], apart := false, laid := [("unicode/utf8.acceptRanges", laid_unicode_utf8_acceptRanges), ("unicode/utf8.first", laid_unicode_utf8_first)] }
def FieldNumbersSaid : Prop := fieldNumbersRow.holds Tryd.pinned (OpenSpec.ofChange fieldNumbersSpec)

/-- ITS FALSE NEIGHBOUR: 'it returns false'. Refute it at one input. -/
def fieldNumbersWrong : ChangeSpec := { name := "fieldNumbers", fn := fun _ => fun
  | [d1, d2, d3, d4] => { results := [.lit (.bool false)], args := [d1, d2, d3, d4] }
  | _ => none }
def FieldNumbersWrongFalsely : Prop := fieldNumbersRow.holds Tryd.pinned (OpenSpec.ofChange fieldNumbersWrong)

/-- 'rollbooklaw01.FieldOrder': WHATEVER THE INPUT: true; the input reads as it did. -/
def fieldOrderSpec : ChangeSpec := { name := "fieldOrder", fn := fun _ => fun
  | [d1, d2] => { results := [.lit (.bool true)], args := [d1, d2] }
  | _ => none }
def fieldOrderRow : OpenClaim := { program := "ytcoddeemfdnjpaadoor", sum := "52df3019b54af054edf0d0955262b18c146cb615f700573b6c39ff515d1b0b1f", func := "rollbook/rollbooklaw01.FieldOrder", spec := "fieldOrder", inPlace := ["internal/bytealg.CountString", "internal/bytealg.IndexByteString", "internal/bytealg.IndexString", "internal/abi.NoEscape", "internal/bytealg.MakeNoZero", "internal/bytealg.abigen_runtime_cmpstring"], named := ["internal/bytealg.MaxLen", "unicode/utf8.first", "unicode/utf8.acceptRanges"], apart := false, laid := [("unicode/utf8.acceptRanges", laid_unicode_utf8_acceptRanges), ("unicode/utf8.first", laid_unicode_utf8_first)] }
def FieldOrderSaid : Prop := fieldOrderRow.holds Tryd.pinned (OpenSpec.ofChange fieldOrderSpec)

/-- ITS FALSE NEIGHBOUR: 'it returns false'. Refute it at one input. -/
def fieldOrderWrong : ChangeSpec := { name := "fieldOrder", fn := fun _ => fun
  | [d1, d2] => { results := [.lit (.bool false)], args := [d1, d2] }
  | _ => none }
def FieldOrderWrongFalsely : Prop := fieldOrderRow.holds Tryd.pinned (OpenSpec.ofChange fieldOrderWrong)

/-- 'rollbooklaw01.FieldTuples': WHATEVER THE INPUT: true; the input reads as it did. -/
def fieldTuplesSpec : ChangeSpec := { name := "fieldTuples", fn := fun _ => fun
  | [d] => { results := [.lit (.bool true)], args := [d] }
  | _ => none }
def fieldTuplesRow : OpenClaim := { program := "ytcoddeemfdnjpaadoor", sum := "52df3019b54af054edf0d0955262b18c146cb615f700573b6c39ff515d1b0b1f", func := "rollbook/rollbooklaw01.FieldTuples", spec := "fieldTuples", inPlace := ["internal/bytealg.CountString", "internal/bytealg.IndexByteString", "internal/bytealg.IndexString", "internal/abi.NoEscape", "internal/bytealg.MakeNoZero"], named := ["internal/bytealg.MaxLen", "unicode/utf8.first", "unicode/utf8.acceptRanges"], apart := false, laid := [("unicode/utf8.acceptRanges", laid_unicode_utf8_acceptRanges), ("unicode/utf8.first", laid_unicode_utf8_first)] }
def FieldTuplesSaid : Prop := fieldTuplesRow.holds Tryd.pinned (OpenSpec.ofChange fieldTuplesSpec)

/-- ITS FALSE NEIGHBOUR: 'it returns false'. Refute it at one input. -/
def fieldTuplesWrong : ChangeSpec := { name := "fieldTuples", fn := fun _ => fun
  | [d] => { results := [.lit (.bool false)], args := [d] }
  | _ => none }
def FieldTuplesWrongFalsely : Prop := fieldTuplesRow.holds Tryd.pinned (OpenSpec.ofChange fieldTuplesWrong)

/-- 'rollbooklaw01.FieldParts': WHATEVER THE INPUT: true; the input reads as it did. -/
def fieldPartsSpec : ChangeSpec := { name := "fieldParts", fn := fun _ => fun
  | [d] => { results := [.lit (.bool true)], args := [d] }
  | _ => none }
def fieldPartsRow : OpenClaim := { program := "ytcoddeemfdnjpaadoor", sum := "52df3019b54af054edf0d0955262b18c146cb615f700573b6c39ff515d1b0b1f", func := "rollbook/rollbooklaw01.FieldParts", spec := "fieldParts", inPlace := ["internal/bytealg.CountString", "internal/bytealg.IndexByteString", "internal/bytealg.IndexString", "internal/abi.NoEscape", "internal/bytealg.MakeNoZero"], named := ["internal/bytealg.MaxLen", "unicode/utf8.first", "unicode/utf8.acceptRanges"], apart := false, laid := [("unicode/utf8.acceptRanges", laid_unicode_utf8_acceptRanges), ("unicode/utf8.first", laid_unicode_utf8_first)] }
def FieldPartsSaid : Prop := fieldPartsRow.holds Tryd.pinned (OpenSpec.ofChange fieldPartsSpec)

/-- ITS FALSE NEIGHBOUR: 'it returns false'. Refute it at one input. -/
def fieldPartsWrong : ChangeSpec := { name := "fieldParts", fn := fun _ => fun
  | [d] => { results := [.lit (.bool false)], args := [d] }
  | _ => none }
def FieldPartsWrongFalsely : Prop := fieldPartsRow.holds Tryd.pinned (OpenSpec.ofChange fieldPartsWrong)

/-- 'rollbooklaw01.FieldTexts': WHATEVER THE INPUT: true; the input reads as it did. -/
def fieldTextsSpec : ChangeSpec := { name := "fieldTexts", fn := fun _ => fun
  | [d1, d2, d3, d4] => { results := [.lit (.bool true)], args := [d1, d2, d3, d4] }
  | _ => none }
def fieldTextsRow : OpenClaim := { program := "ytcoddeemfdnjpaadoor", sum := "52df3019b54af054edf0d0955262b18c146cb615f700573b6c39ff515d1b0b1f", func := "rollbook/rollbooklaw01.FieldTexts", spec := "fieldTexts", inPlace := ["internal/bytealg.CountString", "internal/bytealg.IndexByteString", "internal/bytealg.IndexString", "internal/abi.NoEscape", "internal/bytealg.MakeNoZero"], named := ["internal/bytealg.MaxLen", "unicode/utf8.first", "unicode/utf8.acceptRanges"], apart := false, laid := [("unicode/utf8.acceptRanges", laid_unicode_utf8_acceptRanges), ("unicode/utf8.first", laid_unicode_utf8_first)] }
def FieldTextsSaid : Prop := fieldTextsRow.holds Tryd.pinned (OpenSpec.ofChange fieldTextsSpec)

/-- ITS FALSE NEIGHBOUR: 'it returns false'. Refute it at one input. -/
def fieldTextsWrong : ChangeSpec := { name := "fieldTexts", fn := fun _ => fun
  | [d1, d2, d3, d4] => { results := [.lit (.bool false)], args := [d1, d2, d3, d4] }
  | _ => none }
def FieldTextsWrongFalsely : Prop := fieldTextsRow.holds Tryd.pinned (OpenSpec.ofChange fieldTextsWrong)

/-- 'rollbooklaw13.PrepRunes': WHATEVER THE INPUT: true; the input reads as it did. -/
def prepRunesSpec : ChangeSpec := { name := "prepRunes", fn := fun _ => fun
  | [d] => { results := [.lit (.bool true)], args := [d] }
  | _ => none }
def prepRunesRow : OpenClaim := { program := "ytcoddeemfdnjpaadoor", sum := "52df3019b54af054edf0d0955262b18c146cb615f700573b6c39ff515d1b0b1f", func := "rollbook/rollbooklaw13.PrepRunes", spec := "prepRunes", inPlace := ["internal/abi.NoEscape", "internal/bytealg.CountString", "internal/bytealg.IndexByteString", "internal/bytealg.IndexString", "internal/bytealg.MakeNoZero"], named := ["unicode/utf8.first", "unicode/utf8.acceptRanges", "internal/bytealg.MaxLen"], apart := false, laid := [("unicode/utf8.acceptRanges", laid_unicode_utf8_acceptRanges), ("unicode/utf8.first", laid_unicode_utf8_first)] }
def PrepRunesSaid : Prop := prepRunesRow.holds Tryd.pinned (OpenSpec.ofChange prepRunesSpec)

/-- ITS FALSE NEIGHBOUR: 'it returns false'. Refute it at one input. -/
def prepRunesWrong : ChangeSpec := { name := "prepRunes", fn := fun _ => fun
  | [d] => { results := [.lit (.bool false)], args := [d] }
  | _ => none }
def PrepRunesWrongFalsely : Prop := prepRunesRow.holds Tryd.pinned (OpenSpec.ofChange prepRunesWrong)

/-- 'rollbooklaw13.PrepReady': WHATEVER THE INPUT: true; the input reads as it did. -/
def prepReadySpec : ChangeSpec := { name := "prepReady", fn := fun _ => fun
  | [d1, d2] => { results := [.lit (.bool true)], args := [d1, d2] }
  | _ => none }
def prepReadyRow : OpenClaim := { program := "ytcoddeemfdnjpaadoor", sum := "52df3019b54af054edf0d0955262b18c146cb615f700573b6c39ff515d1b0b1f", func := "rollbook/rollbooklaw13.PrepReady", spec := "prepReady", inPlace := ["internal/abi.NoEscape", "internal/bytealg.CountString", "internal/bytealg.IndexByteString", "internal/bytealg.IndexString", "internal/bytealg.MakeNoZero"], named := ["unicode/utf8.first", "unicode/utf8.acceptRanges", "internal/bytealg.MaxLen"], apart := false, laid := [("unicode/utf8.acceptRanges", laid_unicode_utf8_acceptRanges), ("unicode/utf8.first", laid_unicode_utf8_first)] }
def PrepReadySaid : Prop := prepReadyRow.holds Tryd.pinned (OpenSpec.ofChange prepReadySpec)

/-- ITS FALSE NEIGHBOUR: 'it returns false'. Refute it at one input. -/
def prepReadyWrong : ChangeSpec := { name := "prepReady", fn := fun _ => fun
  | [d1, d2] => { results := [.lit (.bool false)], args := [d1, d2] }
  | _ => none }
def PrepReadyWrongFalsely : Prop := prepReadyRow.holds Tryd.pinned (OpenSpec.ofChange prepReadyWrong)

/-- 'rollbooklaw13.PrepOnce': WHATEVER THE INPUT: true; the input reads as it did. -/
def prepOnceSpec : ChangeSpec := { name := "prepOnce", fn := fun _ => fun
  | [d1, d2] => { results := [.lit (.bool true)], args := [d1, d2] }
  | _ => none }
def prepOnceRow : OpenClaim := { program := "ytcoddeemfdnjpaadoor", sum := "52df3019b54af054edf0d0955262b18c146cb615f700573b6c39ff515d1b0b1f", func := "rollbook/rollbooklaw13.PrepOnce", spec := "prepOnce", inPlace := ["internal/abi.NoEscape", "internal/bytealg.CountString", "internal/bytealg.IndexByteString", "internal/bytealg.IndexString", "internal/bytealg.MakeNoZero"], named := ["unicode/utf8.first", "unicode/utf8.acceptRanges", "internal/bytealg.MaxLen"], apart := false, laid := [("unicode/utf8.acceptRanges", laid_unicode_utf8_acceptRanges), ("unicode/utf8.first", laid_unicode_utf8_first)] }
def PrepOnceSaid : Prop := prepOnceRow.holds Tryd.pinned (OpenSpec.ofChange prepOnceSpec)

/-- ITS FALSE NEIGHBOUR: 'it returns false'. Refute it at one input. -/
def prepOnceWrong : ChangeSpec := { name := "prepOnce", fn := fun _ => fun
  | [d1, d2] => { results := [.lit (.bool false)], args := [d1, d2] }
  | _ => none }
def PrepOnceWrongFalsely : Prop := prepOnceRow.holds Tryd.pinned (OpenSpec.ofChange prepOnceWrong)

/- THE SECOND FORM. 'bulk': how many values and letters a reading holds, each counted each time it is reached (what is shared counts as often as it is met; a slice's spare places count too). A statement '..UptoSaid' is the law's where the arguments, and the package variables that the reading takes, are together of bulk at most 1048576: NARROWER than '..Said'. Prove '..Said' where nothing that the law and all that it calls make is longer than what came in: it says more and counts as full. Else prove '..UptoSaid'. A law counts once. -/
mutual
def uptoBulk {H : Type} : DataW H → Nat
  | .lit (.string bytes) => bytes.length + 1
  | .lit _ => 1
  | .nil => 1
  | .ptr d => uptoBulk d + 1
  | .slice elems spare => uptoBulkAll elems + uptoBulkAll spare + 1
  | .agg parts => uptoBulkAll parts + 1
  | .iface _ d => uptoBulk d + 1
  | .map entries => uptoBulkEntries entries + 1
  | .held _ => 1
def uptoBulkAll {H : Type} : List (DataW H) → Nat
  | [] => 0
  | d :: r => uptoBulk d + uptoBulkAll r
def uptoBulkEntries {H : Type} : List (Lit × DataW H) → Nat
  | [] => 0
  | x :: r => uptoBulkEntry x + uptoBulkEntries r
def uptoBulkEntry {H : Type} : Lit × DataW H → Nat
  | (.string bytes, d) => bytes.length + uptoBulk d + 1
  | (_, d) => uptoBulk d + 1
 end
def uptoSmall : (H : Type) → List (DataW H) → Bool := fun _ ds => decide (uptoBulkAll ds ≤ 1048576)
def OpenSpec.upto (s : _root_.Go.ChangeSpec) : _root_.Go.OpenSpec := { _root_.Go.OpenSpec.ofChange s with cond := some uptoSmall }

/-- 'rollbooklaw02.CrcSums', WHERE WHAT IT READS IS OF BULK AT MOST 1048576: true; the input reads as it did. -/
def crcSumsUptoRow : OpenClaim := { program := "ytcoddeemfdnjpaadoor", sum := "52df3019b54af054edf0d0955262b18c146cb615f700573b6c39ff515d1b0b1f", func := "rollbook/rollbooklaw02.CrcSums", spec := "crcSums", named := ["rollbook/crc.row"], apart := false, laid := [("rollbook/crc.row", laid_rollbook_crc_row)], narrowed := true }
def CrcSumsUptoSaid : Prop := crcSumsUptoRow.holds Tryd.pinned (OpenSpec.upto crcSumsSpec)

/-- 'rollbooklaw02.CrcJoins', WHERE WHAT IT READS IS OF BULK AT MOST 1048576: true; the input reads as it did. -/
def crcJoinsUptoRow : OpenClaim := { program := "ytcoddeemfdnjpaadoor", sum := "52df3019b54af054edf0d0955262b18c146cb615f700573b6c39ff515d1b0b1f", func := "rollbook/rollbooklaw02.CrcJoins", spec := "crcJoins", named := ["rollbook/crc.row"], apart := false, laid := [("rollbook/crc.row", laid_rollbook_crc_row)], narrowed := true }
def CrcJoinsUptoSaid : Prop := crcJoinsUptoRow.holds Tryd.pinned (OpenSpec.upto crcJoinsSpec)

/-- 'rollbooklaw02.CrcTells', WHERE WHAT IT READS IS OF BULK AT MOST 1048576: true; the input reads as it did. -/
def crcTellsUptoRow : OpenClaim := { program := "ytcoddeemfdnjpaadoor", sum := "52df3019b54af054edf0d0955262b18c146cb615f700573b6c39ff515d1b0b1f", func := "rollbook/rollbooklaw02.CrcTells", spec := "crcTells", named := ["rollbook/crc.row"], apart := false, laid := [("rollbook/crc.row", laid_rollbook_crc_row)], narrowed := true }
def CrcTellsUptoSaid : Prop := crcTellsUptoRow.holds Tryd.pinned (OpenSpec.upto crcTellsSpec)

/-- 'rollbooklaw04.PagePacks', WHERE WHAT IT READS IS OF BULK AT MOST 1048576: true; the input reads as it did. -/
def pagePacksUptoRow : OpenClaim := { program := "ytcoddeemfdnjpaadoor", sum := "52df3019b54af054edf0d0955262b18c146cb615f700573b6c39ff515d1b0b1f", func := "rollbook/rollbooklaw04.PagePacks", spec := "pagePacks", inPlace := ["internal/abi.NoEscape", "internal/bytealg.MakeNoZero"], named := ["rollbook/crc.row"], apart := false, laid := [("rollbook/crc.row", laid_rollbook_crc_row)], narrowed := true }
def PagePacksUptoSaid : Prop := pagePacksUptoRow.holds Tryd.pinned (OpenSpec.upto pagePacksSpec)

/-- 'rollbooklaw13.PrepSame', WHERE WHAT IT READS IS OF BULK AT MOST 1048576: true; the input reads as it did. -/
def prepSameUptoRow : OpenClaim := { program := "ytcoddeemfdnjpaadoor", sum := "52df3019b54af054edf0d0955262b18c146cb615f700573b6c39ff515d1b0b1f", func := "rollbook/rollbooklaw13.PrepSame", spec := "prepSame", inPlace := ["internal/abi.NoEscape", "internal/bytealg.CountString", "internal/bytealg.IndexByteString", "internal/bytealg.IndexString", "internal/bytealg.MakeNoZero"], named := ["unicode/utf8.first", "unicode/utf8.acceptRanges", "internal/bytealg.MaxLen"], apart := false, laid := [("unicode/utf8.acceptRanges", laid_unicode_utf8_acceptRanges), ("unicode/utf8.first", laid_unicode_utf8_first)], narrowed := true }
def PrepSameUptoSaid : Prop := prepSameUptoRow.holds Tryd.pinned (OpenSpec.upto prepSameSpec)

/-- 'rollbooklaw04.PageReads', WHERE WHAT IT READS IS OF BULK AT MOST 1048576: true; the input reads as it did. -/
def pageReadsUptoRow : OpenClaim := { program := "ytcoddeemfdnjpaadoor", sum := "52df3019b54af054edf0d0955262b18c146cb615f700573b6c39ff515d1b0b1f", func := "rollbook/rollbooklaw04.PageReads", spec := "pageReads", inPlace := ["internal/abi.NoEscape", "internal/bytealg.MakeNoZero"], named := ["rollbook/crc.row"], apart := false, laid := [("rollbook/crc.row", laid_rollbook_crc_row)], narrowed := true }
def PageReadsUptoSaid : Prop := pageReadsUptoRow.holds Tryd.pinned (OpenSpec.upto pageReadsSpec)

/-- 'rollbooklaw13.PrepBlanks', WHERE WHAT IT READS IS OF BULK AT MOST 1048576: true; the input reads as it did. -/
def prepBlanksUptoRow : OpenClaim := { program := "ytcoddeemfdnjpaadoor", sum := "52df3019b54af054edf0d0955262b18c146cb615f700573b6c39ff515d1b0b1f", func := "rollbook/rollbooklaw13.PrepBlanks", spec := "prepBlanks", inPlace := ["internal/abi.NoEscape", "internal/bytealg.CountString", "internal/bytealg.IndexByteString", "internal/bytealg.IndexString", "internal/bytealg.MakeNoZero"], named := ["unicode/utf8.first", "unicode/utf8.acceptRanges", "internal/bytealg.MaxLen"], apart := false, laid := [("unicode/utf8.acceptRanges", laid_unicode_utf8_acceptRanges), ("unicode/utf8.first", laid_unicode_utf8_first)], narrowed := true }
def PrepBlanksUptoSaid : Prop := prepBlanksUptoRow.holds Tryd.pinned (OpenSpec.upto prepBlanksSpec)

/-- 'rollbooklaw04.PageMetas', WHERE WHAT IT READS IS OF BULK AT MOST 1048576: true; the input reads as it did. -/
def pageMetasUptoRow : OpenClaim := { program := "ytcoddeemfdnjpaadoor", sum := "52df3019b54af054edf0d0955262b18c146cb615f700573b6c39ff515d1b0b1f", func := "rollbook/rollbooklaw04.PageMetas", spec := "pageMetas", inPlace := ["internal/abi.NoEscape", "internal/bytealg.MakeNoZero"], unfollowed := true, recurses := true, named := ["rollbook/crc.row"], apart := false, laid := [("rollbook/crc.row", laid_rollbook_crc_row)], narrowed := true }
def PageMetasUptoSaid : Prop := pageMetasUptoRow.holds Tryd.pinned (OpenSpec.upto pageMetasSpec)

/-- 'rollbooklaw04.PageNewest', WHERE WHAT IT READS IS OF BULK AT MOST 1048576: true; the input reads as it did. -/
def pageNewestUptoRow : OpenClaim := { program := "ytcoddeemfdnjpaadoor", sum := "52df3019b54af054edf0d0955262b18c146cb615f700573b6c39ff515d1b0b1f", func := "rollbook/rollbooklaw04.PageNewest", spec := "pageNewest", inPlace := ["internal/abi.NoEscape", "internal/bytealg.MakeNoZero"], unfollowed := true, recurses := true, named := ["rollbook/crc.row"], apart := false, laid := [("rollbook/crc.row", laid_rollbook_crc_row)], narrowed := true }
def PageNewestUptoSaid : Prop := pageNewestUptoRow.holds Tryd.pinned (OpenSpec.upto pageNewestSpec)

/-- 'rollbooklaw04.PageTells', WHERE WHAT IT READS IS OF BULK AT MOST 1048576: true; the input reads as it did. -/
def pageTellsUptoRow : OpenClaim := { program := "ytcoddeemfdnjpaadoor", sum := "52df3019b54af054edf0d0955262b18c146cb615f700573b6c39ff515d1b0b1f", func := "rollbook/rollbooklaw04.PageTells", spec := "pageTells", inPlace := ["internal/abi.NoEscape", "internal/bytealg.MakeNoZero"], unfollowed := true, recurses := true, named := ["rollbook/crc.row"], apart := false, laid := [("rollbook/crc.row", laid_rollbook_crc_row)], narrowed := true }
def PageTellsUptoSaid : Prop := pageTellsUptoRow.holds Tryd.pinned (OpenSpec.upto pageTellsSpec)

/-- 'rollbooklaw01.FieldNumbers', WHERE WHAT IT READS IS OF BULK AT MOST 1048576: true; the input reads as it did. -/
def fieldNumbersUptoRow : OpenClaim := { program := "ytcoddeemfdnjpaadoor", sum := "52df3019b54af054edf0d0955262b18c146cb615f700573b6c39ff515d1b0b1f", func := "rollbook/rollbooklaw01.FieldNumbers", spec := "fieldNumbers", inPlace := ["internal/bytealg.CountString", "internal/bytealg.IndexByteString", "internal/bytealg.IndexString", "internal/abi.NoEscape", "internal/bytealg.MakeNoZero"], named := ["internal/bytealg.MaxLen", "unicode/utf8.first", "unicode/utf8.acceptRanges"], apart := false, laid := [("unicode/utf8.acceptRanges", laid_unicode_utf8_acceptRanges), ("unicode/utf8.first", laid_unicode_utf8_first)], narrowed := true }
def FieldNumbersUptoSaid : Prop := fieldNumbersUptoRow.holds Tryd.pinned (OpenSpec.upto fieldNumbersSpec)

/-- 'rollbooklaw01.FieldOrder', WHERE WHAT IT READS IS OF BULK AT MOST 1048576: true; the input reads as it did. -/
def fieldOrderUptoRow : OpenClaim := { program := "ytcoddeemfdnjpaadoor", sum := "52df3019b54af054edf0d0955262b18c146cb615f700573b6c39ff515d1b0b1f", func := "rollbook/rollbooklaw01.FieldOrder", spec := "fieldOrder", inPlace := ["internal/bytealg.CountString", "internal/bytealg.IndexByteString", "internal/bytealg.IndexString", "internal/abi.NoEscape", "internal/bytealg.MakeNoZero", "internal/bytealg.abigen_runtime_cmpstring"], named := ["internal/bytealg.MaxLen", "unicode/utf8.first", "unicode/utf8.acceptRanges"], apart := false, laid := [("unicode/utf8.acceptRanges", laid_unicode_utf8_acceptRanges), ("unicode/utf8.first", laid_unicode_utf8_first)], narrowed := true }
def FieldOrderUptoSaid : Prop := fieldOrderUptoRow.holds Tryd.pinned (OpenSpec.upto fieldOrderSpec)

/-- 'rollbooklaw01.FieldTuples', WHERE WHAT IT READS IS OF BULK AT MOST 1048576: true; the input reads as it did. -/
def fieldTuplesUptoRow : OpenClaim := { program := "ytcoddeemfdnjpaadoor", sum := "52df3019b54af054edf0d0955262b18c146cb615f700573b6c39ff515d1b0b1f", func := "rollbook/rollbooklaw01.FieldTuples", spec := "fieldTuples", inPlace := ["internal/bytealg.CountString", "internal/bytealg.IndexByteString", "internal/bytealg.IndexString", "internal/abi.NoEscape", "internal/bytealg.MakeNoZero"], named := ["internal/bytealg.MaxLen", "unicode/utf8.first", "unicode/utf8.acceptRanges"], apart := false, laid := [("unicode/utf8.acceptRanges", laid_unicode_utf8_acceptRanges), ("unicode/utf8.first", laid_unicode_utf8_first)], narrowed := true }
def FieldTuplesUptoSaid : Prop := fieldTuplesUptoRow.holds Tryd.pinned (OpenSpec.upto fieldTuplesSpec)

/-- 'rollbooklaw01.FieldParts', WHERE WHAT IT READS IS OF BULK AT MOST 1048576: true; the input reads as it did. -/
def fieldPartsUptoRow : OpenClaim := { program := "ytcoddeemfdnjpaadoor", sum := "52df3019b54af054edf0d0955262b18c146cb615f700573b6c39ff515d1b0b1f", func := "rollbook/rollbooklaw01.FieldParts", spec := "fieldParts", inPlace := ["internal/bytealg.CountString", "internal/bytealg.IndexByteString", "internal/bytealg.IndexString", "internal/abi.NoEscape", "internal/bytealg.MakeNoZero"], named := ["internal/bytealg.MaxLen", "unicode/utf8.first", "unicode/utf8.acceptRanges"], apart := false, laid := [("unicode/utf8.acceptRanges", laid_unicode_utf8_acceptRanges), ("unicode/utf8.first", laid_unicode_utf8_first)], narrowed := true }
def FieldPartsUptoSaid : Prop := fieldPartsUptoRow.holds Tryd.pinned (OpenSpec.upto fieldPartsSpec)

/-- 'rollbooklaw01.FieldTexts', WHERE WHAT IT READS IS OF BULK AT MOST 1048576: true; the input reads as it did. -/
def fieldTextsUptoRow : OpenClaim := { program := "ytcoddeemfdnjpaadoor", sum := "52df3019b54af054edf0d0955262b18c146cb615f700573b6c39ff515d1b0b1f", func := "rollbook/rollbooklaw01.FieldTexts", spec := "fieldTexts", inPlace := ["internal/bytealg.CountString", "internal/bytealg.IndexByteString", "internal/bytealg.IndexString", "internal/abi.NoEscape", "internal/bytealg.MakeNoZero"], named := ["internal/bytealg.MaxLen", "unicode/utf8.first", "unicode/utf8.acceptRanges"], apart := false, laid := [("unicode/utf8.acceptRanges", laid_unicode_utf8_acceptRanges), ("unicode/utf8.first", laid_unicode_utf8_first)], narrowed := true }
def FieldTextsUptoSaid : Prop := fieldTextsUptoRow.holds Tryd.pinned (OpenSpec.upto fieldTextsSpec)

/-- 'rollbooklaw13.PrepRunes', WHERE WHAT IT READS IS OF BULK AT MOST 1048576: true; the input reads as it did. -/
def prepRunesUptoRow : OpenClaim := { program := "ytcoddeemfdnjpaadoor", sum := "52df3019b54af054edf0d0955262b18c146cb615f700573b6c39ff515d1b0b1f", func := "rollbook/rollbooklaw13.PrepRunes", spec := "prepRunes", inPlace := ["internal/abi.NoEscape", "internal/bytealg.CountString", "internal/bytealg.IndexByteString", "internal/bytealg.IndexString", "internal/bytealg.MakeNoZero"], named := ["unicode/utf8.first", "unicode/utf8.acceptRanges", "internal/bytealg.MaxLen"], apart := false, laid := [("unicode/utf8.acceptRanges", laid_unicode_utf8_acceptRanges), ("unicode/utf8.first", laid_unicode_utf8_first)], narrowed := true }
def PrepRunesUptoSaid : Prop := prepRunesUptoRow.holds Tryd.pinned (OpenSpec.upto prepRunesSpec)

/-- 'rollbooklaw13.PrepReady', WHERE WHAT IT READS IS OF BULK AT MOST 1048576: true; the input reads as it did. -/
def prepReadyUptoRow : OpenClaim := { program := "ytcoddeemfdnjpaadoor", sum := "52df3019b54af054edf0d0955262b18c146cb615f700573b6c39ff515d1b0b1f", func := "rollbook/rollbooklaw13.PrepReady", spec := "prepReady", inPlace := ["internal/abi.NoEscape", "internal/bytealg.CountString", "internal/bytealg.IndexByteString", "internal/bytealg.IndexString", "internal/bytealg.MakeNoZero"], named := ["unicode/utf8.first", "unicode/utf8.acceptRanges", "internal/bytealg.MaxLen"], apart := false, laid := [("unicode/utf8.acceptRanges", laid_unicode_utf8_acceptRanges), ("unicode/utf8.first", laid_unicode_utf8_first)], narrowed := true }
def PrepReadyUptoSaid : Prop := prepReadyUptoRow.holds Tryd.pinned (OpenSpec.upto prepReadySpec)

/-- 'rollbooklaw13.PrepOnce', WHERE WHAT IT READS IS OF BULK AT MOST 1048576: true; the input reads as it did. -/
def prepOnceUptoRow : OpenClaim := { program := "ytcoddeemfdnjpaadoor", sum := "52df3019b54af054edf0d0955262b18c146cb615f700573b6c39ff515d1b0b1f", func := "rollbook/rollbooklaw13.PrepOnce", spec := "prepOnce", inPlace := ["internal/abi.NoEscape", "internal/bytealg.CountString", "internal/bytealg.IndexByteString", "internal/bytealg.IndexString", "internal/bytealg.MakeNoZero"], named := ["unicode/utf8.first", "unicode/utf8.acceptRanges", "internal/bytealg.MaxLen"], apart := false, laid := [("unicode/utf8.acceptRanges", laid_unicode_utf8_acceptRanges), ("unicode/utf8.first", laid_unicode_utf8_first)], narrowed := true }
def PrepOnceUptoSaid : Prop := prepOnceUptoRow.holds Tryd.pinned (OpenSpec.upto prepOnceSpec)

end Rows
end Go.Proofs.YtcoddeemfdnjpaaDoor
