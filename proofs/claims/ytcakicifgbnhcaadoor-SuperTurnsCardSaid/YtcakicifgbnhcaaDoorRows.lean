/-
  NARROWER THAN 'FOR EVERY INPUT', by the rows' own cells (each row's printed sentence says how): CrcSums: laid · CrcParts: laid · CrcTold: laid · CrcLine: laid · PageSeals: laid · PageOpens: laid · PageTold: laid · PageMoved: laid · SuperBack: laid · SuperReads: laid · SuperNewest: laid · SuperTurns: laid.
  DERIVED. THE GIVEN ROWS OF THIS SEAT. 12 by the template 'for every input the law returns true; each argument reads behind the call as it read before'; 0 by the template 'total and deterministic' (their statements: YtcakicifgbnhcaaDoorTotals.lean).
  GIVEN WITH THE SEED: the statements are not yours to turn. If you find one false, say at which input.
  Laid BY PROGRAM, IN A SANDBOX (cutbox-rows.mjs): the forced cells as the released guide's own fill.sh prints them over the translation 1a45eef91ddf21bb… (all of the seat's roots in one cut). By AI agents, Wed Nov 11 2026. No macro, syntax, notation, axiom, sorry.
-/
import Derived.Test.YtcakicifgbnhcaaDoorChecked
import GoSem.Claim
import GoSem.ClaimJoined
import GoSem.ClaimMapViews
import Derived.JoinedTies
import Derived.KernelRfl
namespace Go.Proofs.YtcakicifgbnhcaaDoor
/- THE CELL 'sum', in the pinned program and in every row, IS THE sha256 OF THE DUMP (.gsa) THAT YtcakicifgbnhcaaDoorProg.lean LOADS. Nothing in Lean hashes anything: it is a label: what it is worth is what the hold of that sum in a sandbox is worth. -/
noncomputable def Tryd.pinned : Pinned := { name := "ytcakicifgbnhcaadoor", sum := "1a45eef91ddf21bb0d3d86d78787be3c3d5138348e23978e3f8e522904f7de6c", checked := Tryd.checked }
namespace Rows
def none {H : Type} : Left H := { results := [], args := [] }

/- WHAT THE LISTED PACKAGE-LEVEL VARIABLES READ AS WHEN THE CALL BEGINS. Each datum BY PROGRAM (the guide's laid-datum.mjs) off the statement by which the dump's own 'gosem.cut.vars' lays the variable. In a bare row this is a premise. The card (YtcakicifgbnhcaaDoorCards.lean) ties it to the program's text. -/
def laid_cashbook_crc_halves {H : Type} : DataW H := .agg [.lit (.int .u32 0), .lit (.int .u32 274646895), .lit (.int .u32 549293790), .lit (.int .u32 820201905), .lit (.int .u32 1098587580), .lit (.int .u32 1361435347), .lit (.int .u32 1640403810), .lit (.int .u32 1905808397), .lit (.int .u32 2197175160), .lit (.int .u32 2460548119), .lit (.int .u32 2722870694), .lit (.int .u32 2987750089), .lit (.int .u32 3280807620), .lit (.int .u32 3553878443), .lit (.int .u32 3811616794), .lit (.int .u32 4084100981)]

/-- 'cashbooklaw04.CrcSums': WHATEVER THE INPUT: true; the input reads as it did. -/
def crcSumsSpec : ChangeSpec := { name := "crcSums", fn := fun _ => fun
  | [d1, d2] => { results := [.lit (.bool true)], args := [d1, d2] }
  | _ => none }
def crcSumsRow : OpenClaim := { program := "ytcakicifgbnhcaadoor", sum := "1a45eef91ddf21bb0d3d86d78787be3c3d5138348e23978e3f8e522904f7de6c", func := "cashbook/cashbooklaw04.CrcSums", spec := "crcSums", named := ["cashbook/crc.halves"], apart := false, laid := [("cashbook/crc.halves", laid_cashbook_crc_halves)] }
def CrcSumsSaid : Prop := crcSumsRow.holds Tryd.pinned (OpenSpec.ofChange crcSumsSpec)

/-- ITS FALSE NEIGHBOUR: 'it returns false'. Refute it at one input. -/
def crcSumsWrong : ChangeSpec := { name := "crcSums", fn := fun _ => fun
  | [d1, d2] => { results := [.lit (.bool false)], args := [d1, d2] }
  | _ => none }
def CrcSumsWrongFalsely : Prop := crcSumsRow.holds Tryd.pinned (OpenSpec.ofChange crcSumsWrong)

/-- 'cashbooklaw04.CrcParts': WHATEVER THE INPUT: true; the input reads as it did. -/
def crcPartsSpec : ChangeSpec := { name := "crcParts", fn := fun _ => fun
  | [d1, d2] => { results := [.lit (.bool true)], args := [d1, d2] }
  | _ => none }
def crcPartsRow : OpenClaim := { program := "ytcakicifgbnhcaadoor", sum := "1a45eef91ddf21bb0d3d86d78787be3c3d5138348e23978e3f8e522904f7de6c", func := "cashbook/cashbooklaw04.CrcParts", spec := "crcParts", named := ["cashbook/crc.halves"], apart := false, laid := [("cashbook/crc.halves", laid_cashbook_crc_halves)] }
def CrcPartsSaid : Prop := crcPartsRow.holds Tryd.pinned (OpenSpec.ofChange crcPartsSpec)

/-- ITS FALSE NEIGHBOUR: 'it returns false'. Refute it at one input. -/
def crcPartsWrong : ChangeSpec := { name := "crcParts", fn := fun _ => fun
  | [d1, d2] => { results := [.lit (.bool false)], args := [d1, d2] }
  | _ => none }
def CrcPartsWrongFalsely : Prop := crcPartsRow.holds Tryd.pinned (OpenSpec.ofChange crcPartsWrong)

/-- 'cashbooklaw04.CrcTold': WHATEVER THE INPUT: true; the input reads as it did. -/
def crcToldSpec : ChangeSpec := { name := "crcTold", fn := fun _ => fun
  | [d1, d2, d3] => { results := [.lit (.bool true)], args := [d1, d2, d3] }
  | _ => none }
def crcToldRow : OpenClaim := { program := "ytcakicifgbnhcaadoor", sum := "1a45eef91ddf21bb0d3d86d78787be3c3d5138348e23978e3f8e522904f7de6c", func := "cashbook/cashbooklaw04.CrcTold", spec := "crcTold", named := ["cashbook/crc.halves"], apart := false, laid := [("cashbook/crc.halves", laid_cashbook_crc_halves)] }
def CrcToldSaid : Prop := crcToldRow.holds Tryd.pinned (OpenSpec.ofChange crcToldSpec)

/-- ITS FALSE NEIGHBOUR: 'it returns false'. Refute it at one input. -/
def crcToldWrong : ChangeSpec := { name := "crcTold", fn := fun _ => fun
  | [d1, d2, d3] => { results := [.lit (.bool false)], args := [d1, d2, d3] }
  | _ => none }
def CrcToldWrongFalsely : Prop := crcToldRow.holds Tryd.pinned (OpenSpec.ofChange crcToldWrong)

/-- 'cashbooklaw04.CrcLine': WHATEVER THE INPUT: true; the input reads as it did. -/
def crcLineSpec : ChangeSpec := { name := "crcLine", fn := fun _ => fun
  | [d1, d2, d3] => { results := [.lit (.bool true)], args := [d1, d2, d3] }
  | _ => none }
def crcLineRow : OpenClaim := { program := "ytcakicifgbnhcaadoor", sum := "1a45eef91ddf21bb0d3d86d78787be3c3d5138348e23978e3f8e522904f7de6c", func := "cashbook/cashbooklaw04.CrcLine", spec := "crcLine", named := ["cashbook/crc.halves"], apart := false, laid := [("cashbook/crc.halves", laid_cashbook_crc_halves)] }
def CrcLineSaid : Prop := crcLineRow.holds Tryd.pinned (OpenSpec.ofChange crcLineSpec)

/-- ITS FALSE NEIGHBOUR: 'it returns false'. Refute it at one input. -/
def crcLineWrong : ChangeSpec := { name := "crcLine", fn := fun _ => fun
  | [d1, d2, d3] => { results := [.lit (.bool false)], args := [d1, d2, d3] }
  | _ => none }
def CrcLineWrongFalsely : Prop := crcLineRow.holds Tryd.pinned (OpenSpec.ofChange crcLineWrong)

/-- 'cashbooklaw06.PageSeals': WHATEVER THE INPUT: true; the input reads as it did. -/
def pageSealsSpec : ChangeSpec := { name := "pageSeals", fn := fun _ => fun
  | [d1, d2, d3] => { results := [.lit (.bool true)], args := [d1, d2, d3] }
  | _ => none }
def pageSealsRow : OpenClaim := { program := "ytcakicifgbnhcaadoor", sum := "1a45eef91ddf21bb0d3d86d78787be3c3d5138348e23978e3f8e522904f7de6c", func := "cashbook/cashbooklaw06.PageSeals", spec := "pageSeals", inPlace := ["internal/bytealg.Count", "internal/bytealg.IndexByte", "internal/bytealg.Index"], named := ["cashbook/crc.halves", "internal/bytealg.MaxLen"], apart := false, laid := [("cashbook/crc.halves", laid_cashbook_crc_halves)] }
def PageSealsSaid : Prop := pageSealsRow.holds Tryd.pinned (OpenSpec.ofChange pageSealsSpec)

/-- ITS FALSE NEIGHBOUR: 'it returns false'. Refute it at one input. -/
def pageSealsWrong : ChangeSpec := { name := "pageSeals", fn := fun _ => fun
  | [d1, d2, d3] => { results := [.lit (.bool false)], args := [d1, d2, d3] }
  | _ => none }
def PageSealsWrongFalsely : Prop := pageSealsRow.holds Tryd.pinned (OpenSpec.ofChange pageSealsWrong)

/-- 'cashbooklaw06.PageOpens': WHATEVER THE INPUT: true; the input reads as it did. -/
def pageOpensSpec : ChangeSpec := { name := "pageOpens", fn := fun _ => fun
  | [d1, d2, d3] => { results := [.lit (.bool true)], args := [d1, d2, d3] }
  | _ => none }
def pageOpensRow : OpenClaim := { program := "ytcakicifgbnhcaadoor", sum := "1a45eef91ddf21bb0d3d86d78787be3c3d5138348e23978e3f8e522904f7de6c", func := "cashbook/cashbooklaw06.PageOpens", spec := "pageOpens", inPlace := ["internal/bytealg.Count", "internal/bytealg.IndexByte", "internal/bytealg.Index"], named := ["cashbook/crc.halves", "internal/bytealg.MaxLen"], apart := false, laid := [("cashbook/crc.halves", laid_cashbook_crc_halves)] }
def PageOpensSaid : Prop := pageOpensRow.holds Tryd.pinned (OpenSpec.ofChange pageOpensSpec)

/-- ITS FALSE NEIGHBOUR: 'it returns false'. Refute it at one input. -/
def pageOpensWrong : ChangeSpec := { name := "pageOpens", fn := fun _ => fun
  | [d1, d2, d3] => { results := [.lit (.bool false)], args := [d1, d2, d3] }
  | _ => none }
def PageOpensWrongFalsely : Prop := pageOpensRow.holds Tryd.pinned (OpenSpec.ofChange pageOpensWrong)

/-- 'cashbooklaw06.PageTold': WHATEVER THE INPUT: true; the input reads as it did. -/
def pageToldSpec : ChangeSpec := { name := "pageTold", fn := fun _ => fun
  | [d1, d2, d3] => { results := [.lit (.bool true)], args := [d1, d2, d3] }
  | _ => none }
def pageToldRow : OpenClaim := { program := "ytcakicifgbnhcaadoor", sum := "1a45eef91ddf21bb0d3d86d78787be3c3d5138348e23978e3f8e522904f7de6c", func := "cashbook/cashbooklaw06.PageTold", spec := "pageTold", inPlace := ["internal/bytealg.Count", "internal/bytealg.IndexByte", "internal/bytealg.Index"], named := ["cashbook/crc.halves", "internal/bytealg.MaxLen"], apart := false, laid := [("cashbook/crc.halves", laid_cashbook_crc_halves)] }
def PageToldSaid : Prop := pageToldRow.holds Tryd.pinned (OpenSpec.ofChange pageToldSpec)

/-- ITS FALSE NEIGHBOUR: 'it returns false'. Refute it at one input. -/
def pageToldWrong : ChangeSpec := { name := "pageTold", fn := fun _ => fun
  | [d1, d2, d3] => { results := [.lit (.bool false)], args := [d1, d2, d3] }
  | _ => none }
def PageToldWrongFalsely : Prop := pageToldRow.holds Tryd.pinned (OpenSpec.ofChange pageToldWrong)

/-- 'cashbooklaw06.PageMoved': WHATEVER THE INPUT: true; the input reads as it did. -/
def pageMovedSpec : ChangeSpec := { name := "pageMoved", fn := fun _ => fun
  | [d1, d2, d3] => { results := [.lit (.bool true)], args := [d1, d2, d3] }
  | _ => none }
def pageMovedRow : OpenClaim := { program := "ytcakicifgbnhcaadoor", sum := "1a45eef91ddf21bb0d3d86d78787be3c3d5138348e23978e3f8e522904f7de6c", func := "cashbook/cashbooklaw06.PageMoved", spec := "pageMoved", inPlace := ["internal/bytealg.Count", "internal/bytealg.IndexByte", "internal/bytealg.Index"], named := ["cashbook/crc.halves", "internal/bytealg.MaxLen"], apart := false, laid := [("cashbook/crc.halves", laid_cashbook_crc_halves)] }
def PageMovedSaid : Prop := pageMovedRow.holds Tryd.pinned (OpenSpec.ofChange pageMovedSpec)

/-- ITS FALSE NEIGHBOUR: 'it returns false'. Refute it at one input. -/
def pageMovedWrong : ChangeSpec := { name := "pageMoved", fn := fun _ => fun
  | [d1, d2, d3] => { results := [.lit (.bool false)], args := [d1, d2, d3] }
  | _ => none }
def PageMovedWrongFalsely : Prop := pageMovedRow.holds Tryd.pinned (OpenSpec.ofChange pageMovedWrong)

/-- 'cashbooklaw07.SuperBack': WHATEVER THE INPUT: true; the input reads as it did. -/
def superBackSpec : ChangeSpec := { name := "superBack", fn := fun _ => fun
  | [d] => { results := [.lit (.bool true)], args := [d] }
  | _ => none }
def superBackRow : OpenClaim := { program := "ytcakicifgbnhcaadoor", sum := "1a45eef91ddf21bb0d3d86d78787be3c3d5138348e23978e3f8e522904f7de6c", func := "cashbook/cashbooklaw07.SuperBack", spec := "superBack", inPlace := ["internal/bytealg.Count", "internal/bytealg.IndexByte", "internal/bytealg.Index"], unfollowed := true, recurses := true, named := ["cashbook/crc.halves", "internal/bytealg.MaxLen"], apart := false, laid := [("cashbook/crc.halves", laid_cashbook_crc_halves)] }
def SuperBackSaid : Prop := superBackRow.holds Tryd.pinned (OpenSpec.ofChange superBackSpec)

/-- ITS FALSE NEIGHBOUR: 'it returns false'. Refute it at one input. -/
def superBackWrong : ChangeSpec := { name := "superBack", fn := fun _ => fun
  | [d] => { results := [.lit (.bool false)], args := [d] }
  | _ => none }
def SuperBackWrongFalsely : Prop := superBackRow.holds Tryd.pinned (OpenSpec.ofChange superBackWrong)

/-- 'cashbooklaw07.SuperReads': WHATEVER THE INPUT: true; the input reads as it did. -/
def superReadsSpec : ChangeSpec := { name := "superReads", fn := fun _ => fun
  | [d1, d2, d3] => { results := [.lit (.bool true)], args := [d1, d2, d3] }
  | _ => none }
def superReadsRow : OpenClaim := { program := "ytcakicifgbnhcaadoor", sum := "1a45eef91ddf21bb0d3d86d78787be3c3d5138348e23978e3f8e522904f7de6c", func := "cashbook/cashbooklaw07.SuperReads", spec := "superReads", inPlace := ["internal/bytealg.Count", "internal/bytealg.IndexByte", "internal/bytealg.Index"], unfollowed := true, recurses := true, named := ["cashbook/crc.halves", "internal/bytealg.MaxLen"], apart := false, laid := [("cashbook/crc.halves", laid_cashbook_crc_halves)] }
def SuperReadsSaid : Prop := superReadsRow.holds Tryd.pinned (OpenSpec.ofChange superReadsSpec)

/-- ITS FALSE NEIGHBOUR: 'it returns false'. Refute it at one input. -/
def superReadsWrong : ChangeSpec := { name := "superReads", fn := fun _ => fun
  | [d1, d2, d3] => { results := [.lit (.bool false)], args := [d1, d2, d3] }
  | _ => none }
def SuperReadsWrongFalsely : Prop := superReadsRow.holds Tryd.pinned (OpenSpec.ofChange superReadsWrong)

/-- 'cashbooklaw07.SuperNewest': WHATEVER THE INPUT: true; the input reads as it did. -/
def superNewestSpec : ChangeSpec := { name := "superNewest", fn := fun _ => fun
  | [d1, d2] => { results := [.lit (.bool true)], args := [d1, d2] }
  | _ => none }
def superNewestRow : OpenClaim := { program := "ytcakicifgbnhcaadoor", sum := "1a45eef91ddf21bb0d3d86d78787be3c3d5138348e23978e3f8e522904f7de6c", func := "cashbook/cashbooklaw07.SuperNewest", spec := "superNewest", inPlace := ["internal/bytealg.Count", "internal/bytealg.IndexByte", "internal/bytealg.Index"], unfollowed := true, recurses := true, named := ["cashbook/crc.halves", "internal/bytealg.MaxLen"], apart := false, laid := [("cashbook/crc.halves", laid_cashbook_crc_halves)] }
def SuperNewestSaid : Prop := superNewestRow.holds Tryd.pinned (OpenSpec.ofChange superNewestSpec)

/-- ITS FALSE NEIGHBOUR: 'it returns false'. Refute it at one input. -/
def superNewestWrong : ChangeSpec := { name := "superNewest", fn := fun _ => fun
  | [d1, d2] => { results := [.lit (.bool false)], args := [d1, d2] }
  | _ => none }
def SuperNewestWrongFalsely : Prop := superNewestRow.holds Tryd.pinned (OpenSpec.ofChange superNewestWrong)

/-- 'cashbooklaw07.SuperTurns': WHATEVER THE INPUT: true; the input reads as it did. -/
def superTurnsSpec : ChangeSpec := { name := "superTurns", fn := fun _ => fun
  | [d1, d2, d3] => { results := [.lit (.bool true)], args := [d1, d2, d3] }
  | _ => none }
def superTurnsRow : OpenClaim := { program := "ytcakicifgbnhcaadoor", sum := "1a45eef91ddf21bb0d3d86d78787be3c3d5138348e23978e3f8e522904f7de6c", func := "cashbook/cashbooklaw07.SuperTurns", spec := "superTurns", inPlace := ["internal/bytealg.Count", "internal/bytealg.IndexByte", "internal/bytealg.Index"], unfollowed := true, recurses := true, named := ["cashbook/crc.halves", "internal/bytealg.MaxLen"], apart := false, laid := [("cashbook/crc.halves", laid_cashbook_crc_halves)] }
def SuperTurnsSaid : Prop := superTurnsRow.holds Tryd.pinned (OpenSpec.ofChange superTurnsSpec)

/-- ITS FALSE NEIGHBOUR: 'it returns false'. Refute it at one input. -/
def superTurnsWrong : ChangeSpec := { name := "superTurns", fn := fun _ => fun
  | [d1, d2, d3] => { results := [.lit (.bool false)], args := [d1, d2, d3] }
  | _ => none }
def SuperTurnsWrongFalsely : Prop := superTurnsRow.holds Tryd.pinned (OpenSpec.ofChange superTurnsWrong)

/- THE SECOND FORM. 'bulk': how many values and letters a reading holds, each counted each time it is reached (what is shared counts as often as it is met; a slice's spare places count too). A statement '..UptoSaid' is the law's where the arguments, and the package variables that the reading takes, are together of bulk at most 1048576: NARROWER than '..Said'. Prove '..Said' where nothing that the law and all that it calls make is longer than what came in: it says more and counts as full. Else prove '..UptoSaid'. A law counts once. -/
mutual
def uptoBulk {H : Type} : DataW H → Nat
  | .lit (.string bytes) => bytes.length + 1
  | .lit _ => 1
  | .nil => 1
  | .ptr d => uptoBulk d + 1
  | .slice elems spare => uptoBulkAll elems + uptoBulkAll spare + 1
  | .agg parts => uptoBulkAll parts + 1
  | .iface _ d => uptoBulk d + 1
  | .map entries => uptoBulkEntries entries + 1
  | .held _ => 1
def uptoBulkAll {H : Type} : List (DataW H) → Nat
  | [] => 0
  | d :: r => uptoBulk d + uptoBulkAll r
def uptoBulkEntries {H : Type} : List (Lit × DataW H) → Nat
  | [] => 0
  | x :: r => uptoBulkEntry x + uptoBulkEntries r
def uptoBulkEntry {H : Type} : Lit × DataW H → Nat
  | (.string bytes, d) => bytes.length + uptoBulk d + 1
  | (_, d) => uptoBulk d + 1
 end
def uptoSmall : (H : Type) → List (DataW H) → Bool := fun _ ds => decide (uptoBulkAll ds ≤ 1048576)
def OpenSpec.upto (s : _root_.Go.ChangeSpec) : _root_.Go.OpenSpec := { _root_.Go.OpenSpec.ofChange s with cond := some uptoSmall }

/-- 'cashbooklaw04.CrcSums', WHERE WHAT IT READS IS OF BULK AT MOST 1048576: true; the input reads as it did. -/
def crcSumsUptoRow : OpenClaim := { program := "ytcakicifgbnhcaadoor", sum := "1a45eef91ddf21bb0d3d86d78787be3c3d5138348e23978e3f8e522904f7de6c", func := "cashbook/cashbooklaw04.CrcSums", spec := "crcSums", named := ["cashbook/crc.halves"], apart := false, laid := [("cashbook/crc.halves", laid_cashbook_crc_halves)], narrowed := true }
def CrcSumsUptoSaid : Prop := crcSumsUptoRow.holds Tryd.pinned (OpenSpec.upto crcSumsSpec)

/-- 'cashbooklaw04.CrcParts', WHERE WHAT IT READS IS OF BULK AT MOST 1048576: true; the input reads as it did. -/
def crcPartsUptoRow : OpenClaim := { program := "ytcakicifgbnhcaadoor", sum := "1a45eef91ddf21bb0d3d86d78787be3c3d5138348e23978e3f8e522904f7de6c", func := "cashbook/cashbooklaw04.CrcParts", spec := "crcParts", named := ["cashbook/crc.halves"], apart := false, laid := [("cashbook/crc.halves", laid_cashbook_crc_halves)], narrowed := true }
def CrcPartsUptoSaid : Prop := crcPartsUptoRow.holds Tryd.pinned (OpenSpec.upto crcPartsSpec)

/-- 'cashbooklaw04.CrcTold', WHERE WHAT IT READS IS OF BULK AT MOST 1048576: true; the input reads as it did. -/
def crcToldUptoRow : OpenClaim := { program := "ytcakicifgbnhcaadoor", sum := "1a45eef91ddf21bb0d3d86d78787be3c3d5138348e23978e3f8e522904f7de6c", func := "cashbook/cashbooklaw04.CrcTold", spec := "crcTold", named := ["cashbook/crc.halves"], apart := false, laid := [("cashbook/crc.halves", laid_cashbook_crc_halves)], narrowed := true }
def CrcToldUptoSaid : Prop := crcToldUptoRow.holds Tryd.pinned (OpenSpec.upto crcToldSpec)

/-- 'cashbooklaw04.CrcLine', WHERE WHAT IT READS IS OF BULK AT MOST 1048576: true; the input reads as it did. -/
def crcLineUptoRow : OpenClaim := { program := "ytcakicifgbnhcaadoor", sum := "1a45eef91ddf21bb0d3d86d78787be3c3d5138348e23978e3f8e522904f7de6c", func := "cashbook/cashbooklaw04.CrcLine", spec := "crcLine", named := ["cashbook/crc.halves"], apart := false, laid := [("cashbook/crc.halves", laid_cashbook_crc_halves)], narrowed := true }
def CrcLineUptoSaid : Prop := crcLineUptoRow.holds Tryd.pinned (OpenSpec.upto crcLineSpec)

/-- 'cashbooklaw06.PageSeals', WHERE WHAT IT READS IS OF BULK AT MOST 1048576: true; the input reads as it did. -/
def pageSealsUptoRow : OpenClaim := { program := "ytcakicifgbnhcaadoor", sum := "1a45eef91ddf21bb0d3d86d78787be3c3d5138348e23978e3f8e522904f7de6c", func := "cashbook/cashbooklaw06.PageSeals", spec := "pageSeals", inPlace := ["internal/bytealg.Count", "internal/bytealg.IndexByte", "internal/bytealg.Index"], named := ["cashbook/crc.halves", "internal/bytealg.MaxLen"], apart := false, laid := [("cashbook/crc.halves", laid_cashbook_crc_halves)], narrowed := true }
def PageSealsUptoSaid : Prop := pageSealsUptoRow.holds Tryd.pinned (OpenSpec.upto pageSealsSpec)

/-- 'cashbooklaw06.PageOpens', WHERE WHAT IT READS IS OF BULK AT MOST 1048576: true; the input reads as it did. -/
def pageOpensUptoRow : OpenClaim := { program := "ytcakicifgbnhcaadoor", sum := "1a45eef91ddf21bb0d3d86d78787be3c3d5138348e23978e3f8e522904f7de6c", func := "cashbook/cashbooklaw06.PageOpens", spec := "pageOpens", inPlace := ["internal/bytealg.Count", "internal/bytealg.IndexByte", "internal/bytealg.Index"], named := ["cashbook/crc.halves", "internal/bytealg.MaxLen"], apart := false, laid := [("cashbook/crc.halves", laid_cashbook_crc_halves)], narrowed := true }
def PageOpensUptoSaid : Prop := pageOpensUptoRow.holds Tryd.pinned (OpenSpec.upto pageOpensSpec)

/-- 'cashbooklaw06.PageTold', WHERE WHAT IT READS IS OF BULK AT MOST 1048576: true; the input reads as it did. -/
def pageToldUptoRow : OpenClaim := { program := "ytcakicifgbnhcaadoor", sum := "1a45eef91ddf21bb0d3d86d78787be3c3d5138348e23978e3f8e522904f7de6c", func := "cashbook/cashbooklaw06.PageTold", spec := "pageTold", inPlace := ["internal/bytealg.Count", "internal/bytealg.IndexByte", "internal/bytealg.Index"], named := ["cashbook/crc.halves", "internal/bytealg.MaxLen"], apart := false, laid := [("cashbook/crc.halves", laid_cashbook_crc_halves)], narrowed := true }
def PageToldUptoSaid : Prop := pageToldUptoRow.holds Tryd.pinned (OpenSpec.upto pageToldSpec)

/-- 'cashbooklaw06.PageMoved', WHERE WHAT IT READS IS OF BULK AT MOST 1048576: true; the input reads as it did. -/
def pageMovedUptoRow : OpenClaim := { program := "ytcakicifgbnhcaadoor", sum := "1a45eef91ddf21bb0d3d86d78787be3c3d5138348e23978e3f8e522904f7de6c", func := "cashbook/cashbooklaw06.PageMoved", spec := "pageMoved", inPlace := ["internal/bytealg.Count", "internal/bytealg.IndexByte", "internal/bytealg.Index"], named := ["cashbook/crc.halves", "internal/bytealg.MaxLen"], apart := false, laid := [("cashbook/crc.halves", laid_cashbook_crc_halves)], narrowed := true }
def PageMovedUptoSaid : Prop := pageMovedUptoRow.holds Tryd.pinned (OpenSpec.upto pageMovedSpec)

/-- 'cashbooklaw07.SuperBack', WHERE WHAT IT READS IS OF BULK AT MOST 1048576: true; the input reads as it did. -/
def superBackUptoRow : OpenClaim := { program := "ytcakicifgbnhcaadoor", sum := "1a45eef91ddf21bb0d3d86d78787be3c3d5138348e23978e3f8e522904f7de6c", func := "cashbook/cashbooklaw07.SuperBack", spec := "superBack", inPlace := ["internal/bytealg.Count", "internal/bytealg.IndexByte", "internal/bytealg.Index"], unfollowed := true, recurses := true, named := ["cashbook/crc.halves", "internal/bytealg.MaxLen"], apart := false, laid := [("cashbook/crc.halves", laid_cashbook_crc_halves)], narrowed := true }
def SuperBackUptoSaid : Prop := superBackUptoRow.holds Tryd.pinned (OpenSpec.upto superBackSpec)

/-- 'cashbooklaw07.SuperReads', WHERE WHAT IT READS IS OF BULK AT MOST 1048576: true; the input reads as it did. -/
def superReadsUptoRow : OpenClaim := { program := "ytcakicifgbnhcaadoor", sum := "1a45eef91ddf21bb0d3d86d78787be3c3d5138348e23978e3f8e522904f7de6c", func := "cashbook/cashbooklaw07.SuperReads", spec := "superReads", inPlace := ["internal/bytealg.Count", "internal/bytealg.IndexByte", "internal/bytealg.Index"], unfollowed := true, recurses := true, named := ["cashbook/crc.halves", "internal/bytealg.MaxLen"], apart := false, laid := [("cashbook/crc.halves", laid_cashbook_crc_halves)], narrowed := true }
def SuperReadsUptoSaid : Prop := superReadsUptoRow.holds Tryd.pinned (OpenSpec.upto superReadsSpec)

/-- 'cashbooklaw07.SuperNewest', WHERE WHAT IT READS IS OF BULK AT MOST 1048576: true; the input reads as it did. -/
def superNewestUptoRow : OpenClaim := { program := "ytcakicifgbnhcaadoor", sum := "1a45eef91ddf21bb0d3d86d78787be3c3d5138348e23978e3f8e522904f7de6c", func := "cashbook/cashbooklaw07.SuperNewest", spec := "superNewest", inPlace := ["internal/bytealg.Count", "internal/bytealg.IndexByte", "internal/bytealg.Index"], unfollowed := true, recurses := true, named := ["cashbook/crc.halves", "internal/bytealg.MaxLen"], apart := false, laid := [("cashbook/crc.halves", laid_cashbook_crc_halves)], narrowed := true }
def SuperNewestUptoSaid : Prop := superNewestUptoRow.holds Tryd.pinned (OpenSpec.upto superNewestSpec)

/-- 'cashbooklaw07.SuperTurns', WHERE WHAT IT READS IS OF BULK AT MOST 1048576: true; the input reads as it did. -/
def superTurnsUptoRow : OpenClaim := { program := "ytcakicifgbnhcaadoor", sum := "1a45eef91ddf21bb0d3d86d78787be3c3d5138348e23978e3f8e522904f7de6c", func := "cashbook/cashbooklaw07.SuperTurns", spec := "superTurns", inPlace := ["internal/bytealg.Count", "internal/bytealg.IndexByte", "internal/bytealg.Index"], unfollowed := true, recurses := true, named := ["cashbook/crc.halves", "internal/bytealg.MaxLen"], apart := false, laid := [("cashbook/crc.halves", laid_cashbook_crc_halves)], narrowed := true }
def SuperTurnsUptoSaid : Prop := superTurnsUptoRow.holds Tryd.pinned (OpenSpec.upto superTurnsSpec)

end Rows
end Go.Proofs.YtcakicifgbnhcaaDoor
