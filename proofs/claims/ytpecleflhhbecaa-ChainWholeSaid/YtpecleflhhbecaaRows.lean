/-
  No cell of these rows narrows 'for every input' (looked for: loops, veiled, ifaces, maps, wideKeys, modest, calm, conditions, laid).
  DERIVED. THE GIVEN ROWS OF THIS SEAT. 8 by the template 'for every input the law returns true; each argument reads behind the call as it read before'; 0 by the template 'total and deterministic' (their statements: YtpecleflhhbecaaTotals.lean).
  GIVEN WITH THE SEED: the statements are not yours to turn. If you find one false, say at which input.
  Laid BY PROGRAM, IN A SANDBOX (cutbox-rows.mjs): the forced cells as the released guide's own fill.sh prints them over the translation 6a565cd067537a89… (all of the seat's roots in one cut). By AI agents, Wed Nov 11 2026. No macro, syntax, notation, axiom, sorry.
-/
import Derived.Test.YtpecleflhhbecaaChecked
import GoSem.Claim
import GoSem.ClaimJoined
import GoSem.ClaimMapViews
import Derived.JoinedTies
import Derived.KernelRfl
namespace Go.Proofs.Ytpecleflhhbecaa
/- THE CELL 'sum', in the pinned program and in every row, IS THE sha256 OF THE DUMP (.gsa) THAT YtpecleflhhbecaaProg.lean LOADS. Nothing in Lean hashes anything: it is a label: what it is worth is what the hold of that sum in a sandbox is worth. -/
noncomputable def Try.pinned : Pinned := { name := "ytpecleflhhbecaa", sum := "6a565cd067537a8903531c9d6c97c06560bcdc6d60571d41d0b453d7c0a4c4cb", checked := Try.checked }
namespace Rows
def none {H : Type} : Left H := { results := [], args := [] }

/-- 'cashbooklaw09.ListNeeds': WHATEVER THE INPUT: true; the input reads as it did. -/
def listNeedsSpec : ChangeSpec := { name := "listNeeds", fn := fun _ => fun
  | [d] => { results := [.lit (.bool true)], args := [d] }
  | _ => none }
def listNeedsRow : OpenClaim := { program := "ytpecleflhhbecaa", sum := "6a565cd067537a8903531c9d6c97c06560bcdc6d60571d41d0b453d7c0a4c4cb", func := "cashbook/cashbooklaw09.ListNeeds", spec := "listNeeds", unfollowed := true, recurses := true, apart := false }
def ListNeedsSaid : Prop := listNeedsRow.holds Try.pinned (OpenSpec.ofChange listNeedsSpec)

/-- ITS FALSE NEIGHBOUR: 'it returns false'. Refute it at one input. -/
def listNeedsWrong : ChangeSpec := { name := "listNeeds", fn := fun _ => fun
  | [d] => { results := [.lit (.bool false)], args := [d] }
  | _ => none }
def ListNeedsWrongFalsely : Prop := listNeedsRow.holds Try.pinned (OpenSpec.ofChange listNeedsWrong)

/-- 'cashbooklaw09.ListBodies': WHATEVER THE INPUT: true; the input reads as it did. -/
def listBodiesSpec : ChangeSpec := { name := "listBodies", fn := fun _ => fun
  | [d1, d2] => { results := [.lit (.bool true)], args := [d1, d2] }
  | _ => none }
def listBodiesRow : OpenClaim := { program := "ytpecleflhhbecaa", sum := "6a565cd067537a8903531c9d6c97c06560bcdc6d60571d41d0b453d7c0a4c4cb", func := "cashbook/cashbooklaw09.ListBodies", spec := "listBodies", unfollowed := true, recurses := true, apart := false }
def ListBodiesSaid : Prop := listBodiesRow.holds Try.pinned (OpenSpec.ofChange listBodiesSpec)

/-- ITS FALSE NEIGHBOUR: 'it returns false'. Refute it at one input. -/
def listBodiesWrong : ChangeSpec := { name := "listBodies", fn := fun _ => fun
  | [d1, d2] => { results := [.lit (.bool false)], args := [d1, d2] }
  | _ => none }
def ListBodiesWrongFalsely : Prop := listBodiesRow.holds Try.pinned (OpenSpec.ofChange listBodiesWrong)

/-- 'cashbooklaw21.ChainSplits': WHATEVER THE INPUT: true; the input reads as it did. -/
def chainSplitsSpec : ChangeSpec := { name := "chainSplits", fn := fun _ => fun
  | [d] => { results := [.lit (.bool true)], args := [d] }
  | _ => none }
def chainSplitsRow : OpenClaim := { program := "ytpecleflhhbecaa", sum := "6a565cd067537a8903531c9d6c97c06560bcdc6d60571d41d0b453d7c0a4c4cb", func := "cashbook/cashbooklaw21.ChainSplits", spec := "chainSplits", unfollowed := true, recurses := true, apart := false }
def ChainSplitsSaid : Prop := chainSplitsRow.holds Try.pinned (OpenSpec.ofChange chainSplitsSpec)

/-- ITS FALSE NEIGHBOUR: 'it returns false'. Refute it at one input. -/
def chainSplitsWrong : ChangeSpec := { name := "chainSplits", fn := fun _ => fun
  | [d] => { results := [.lit (.bool false)], args := [d] }
  | _ => none }
def ChainSplitsWrongFalsely : Prop := chainSplitsRow.holds Try.pinned (OpenSpec.ofChange chainSplitsWrong)

/-- 'cashbooklaw21.ChainRuns': WHATEVER THE INPUT: true; the input reads as it did. -/
def chainRunsSpec : ChangeSpec := { name := "chainRuns", fn := fun _ => fun
  | [d] => { results := [.lit (.bool true)], args := [d] }
  | _ => none }
def chainRunsRow : OpenClaim := { program := "ytpecleflhhbecaa", sum := "6a565cd067537a8903531c9d6c97c06560bcdc6d60571d41d0b453d7c0a4c4cb", func := "cashbook/cashbooklaw21.ChainRuns", spec := "chainRuns", unfollowed := true, recurses := true, apart := false }
def ChainRunsSaid : Prop := chainRunsRow.holds Try.pinned (OpenSpec.ofChange chainRunsSpec)

/-- ITS FALSE NEIGHBOUR: 'it returns false'. Refute it at one input. -/
def chainRunsWrong : ChangeSpec := { name := "chainRuns", fn := fun _ => fun
  | [d] => { results := [.lit (.bool false)], args := [d] }
  | _ => none }
def ChainRunsWrongFalsely : Prop := chainRunsRow.holds Try.pinned (OpenSpec.ofChange chainRunsWrong)

/-- 'cashbooklaw21.ChainWhole': WHATEVER THE INPUT: true; the input reads as it did. -/
def chainWholeSpec : ChangeSpec := { name := "chainWhole", fn := fun _ => fun
  | [d] => { results := [.lit (.bool true)], args := [d] }
  | _ => none }
def chainWholeRow : OpenClaim := { program := "ytpecleflhhbecaa", sum := "6a565cd067537a8903531c9d6c97c06560bcdc6d60571d41d0b453d7c0a4c4cb", func := "cashbook/cashbooklaw21.ChainWhole", spec := "chainWhole", unfollowed := true, recurses := true, apart := false }
def ChainWholeSaid : Prop := chainWholeRow.holds Try.pinned (OpenSpec.ofChange chainWholeSpec)

/-- ITS FALSE NEIGHBOUR: 'it returns false'. Refute it at one input. -/
def chainWholeWrong : ChangeSpec := { name := "chainWhole", fn := fun _ => fun
  | [d] => { results := [.lit (.bool false)], args := [d] }
  | _ => none }
def ChainWholeWrongFalsely : Prop := chainWholeRow.holds Try.pinned (OpenSpec.ofChange chainWholeWrong)

/-- 'cashbooklaw21.ChainApart': WHATEVER THE INPUT: true; the input reads as it did. -/
def chainApartSpec : ChangeSpec := { name := "chainApart", fn := fun _ => fun
  | [d1, d2] => { results := [.lit (.bool true)], args := [d1, d2] }
  | _ => none }
def chainApartRow : OpenClaim := { program := "ytpecleflhhbecaa", sum := "6a565cd067537a8903531c9d6c97c06560bcdc6d60571d41d0b453d7c0a4c4cb", func := "cashbook/cashbooklaw21.ChainApart", spec := "chainApart", unfollowed := true, recurses := true, apart := false }
def ChainApartSaid : Prop := chainApartRow.holds Try.pinned (OpenSpec.ofChange chainApartSpec)

/-- ITS FALSE NEIGHBOUR: 'it returns false'. Refute it at one input. -/
def chainApartWrong : ChangeSpec := { name := "chainApart", fn := fun _ => fun
  | [d1, d2] => { results := [.lit (.bool false)], args := [d1, d2] }
  | _ => none }
def ChainApartWrongFalsely : Prop := chainApartRow.holds Try.pinned (OpenSpec.ofChange chainApartWrong)

/-- 'cashbooklaw09.ListParses': WHATEVER THE INPUT: true; the input reads as it did. -/
def listParsesSpec : ChangeSpec := { name := "listParses", fn := fun _ => fun
  | [d] => { results := [.lit (.bool true)], args := [d] }
  | _ => none }
def listParsesRow : OpenClaim := { program := "ytpecleflhhbecaa", sum := "6a565cd067537a8903531c9d6c97c06560bcdc6d60571d41d0b453d7c0a4c4cb", func := "cashbook/cashbooklaw09.ListParses", spec := "listParses", unfollowed := true, recurses := true, apart := false }
def ListParsesSaid : Prop := listParsesRow.holds Try.pinned (OpenSpec.ofChange listParsesSpec)

/-- ITS FALSE NEIGHBOUR: 'it returns false'. Refute it at one input. -/
def listParsesWrong : ChangeSpec := { name := "listParses", fn := fun _ => fun
  | [d] => { results := [.lit (.bool false)], args := [d] }
  | _ => none }
def ListParsesWrongFalsely : Prop := listParsesRow.holds Try.pinned (OpenSpec.ofChange listParsesWrong)

/-- 'cashbooklaw09.ListBack': WHATEVER THE INPUT: true; the input reads as it did. -/
def listBackSpec : ChangeSpec := { name := "listBack", fn := fun _ => fun
  | [d1, d2] => { results := [.lit (.bool true)], args := [d1, d2] }
  | _ => none }
def listBackRow : OpenClaim := { program := "ytpecleflhhbecaa", sum := "6a565cd067537a8903531c9d6c97c06560bcdc6d60571d41d0b453d7c0a4c4cb", func := "cashbook/cashbooklaw09.ListBack", spec := "listBack", unfollowed := true, recurses := true, apart := false }
def ListBackSaid : Prop := listBackRow.holds Try.pinned (OpenSpec.ofChange listBackSpec)

/-- ITS FALSE NEIGHBOUR: 'it returns false'. Refute it at one input. -/
def listBackWrong : ChangeSpec := { name := "listBack", fn := fun _ => fun
  | [d1, d2] => { results := [.lit (.bool false)], args := [d1, d2] }
  | _ => none }
def ListBackWrongFalsely : Prop := listBackRow.holds Try.pinned (OpenSpec.ofChange listBackWrong)

/- THE SECOND FORM. 'bulk': how many values and letters a reading holds, each counted each time it is reached (what is shared counts as often as it is met; a slice's spare places count too). A statement '..UptoSaid' is the law's where the arguments, and the package variables that the reading takes, are together of bulk at most 1048576: NARROWER than '..Said'. Prove '..Said' where nothing that the law and all that it calls make is longer than what came in: it says more and counts as full. Else prove '..UptoSaid'. A law counts once. -/
mutual
def uptoBulk {H : Type} : DataW H → Nat
  | .lit (.string bytes) => bytes.length + 1
  | .lit _ => 1
  | .nil => 1
  | .ptr d => uptoBulk d + 1
  | .slice elems spare => uptoBulkAll elems + uptoBulkAll spare + 1
  | .agg parts => uptoBulkAll parts + 1
  | .iface _ d => uptoBulk d + 1
  | .map entries => uptoBulkEntries entries + 1
  | .held _ => 1
def uptoBulkAll {H : Type} : List (DataW H) → Nat
  | [] => 0
  | d :: r => uptoBulk d + uptoBulkAll r
def uptoBulkEntries {H : Type} : List (Lit × DataW H) → Nat
  | [] => 0
  | x :: r => uptoBulkEntry x + uptoBulkEntries r
def uptoBulkEntry {H : Type} : Lit × DataW H → Nat
  | (.string bytes, d) => bytes.length + uptoBulk d + 1
  | (_, d) => uptoBulk d + 1
 end
def uptoSmall : (H : Type) → List (DataW H) → Bool := fun _ ds => decide (uptoBulkAll ds ≤ 1048576)
def OpenSpec.upto (s : _root_.Go.ChangeSpec) : _root_.Go.OpenSpec := { _root_.Go.OpenSpec.ofChange s with cond := some uptoSmall }

/-- 'cashbooklaw09.ListNeeds', WHERE WHAT IT READS IS OF BULK AT MOST 1048576: true; the input reads as it did. -/
def listNeedsUptoRow : OpenClaim := { program := "ytpecleflhhbecaa", sum := "6a565cd067537a8903531c9d6c97c06560bcdc6d60571d41d0b453d7c0a4c4cb", func := "cashbook/cashbooklaw09.ListNeeds", spec := "listNeeds", unfollowed := true, recurses := true, apart := false, narrowed := true }
def ListNeedsUptoSaid : Prop := listNeedsUptoRow.holds Try.pinned (OpenSpec.upto listNeedsSpec)

/-- 'cashbooklaw09.ListBodies', WHERE WHAT IT READS IS OF BULK AT MOST 1048576: true; the input reads as it did. -/
def listBodiesUptoRow : OpenClaim := { program := "ytpecleflhhbecaa", sum := "6a565cd067537a8903531c9d6c97c06560bcdc6d60571d41d0b453d7c0a4c4cb", func := "cashbook/cashbooklaw09.ListBodies", spec := "listBodies", unfollowed := true, recurses := true, apart := false, narrowed := true }
def ListBodiesUptoSaid : Prop := listBodiesUptoRow.holds Try.pinned (OpenSpec.upto listBodiesSpec)

/-- 'cashbooklaw21.ChainSplits', WHERE WHAT IT READS IS OF BULK AT MOST 1048576: true; the input reads as it did. -/
def chainSplitsUptoRow : OpenClaim := { program := "ytpecleflhhbecaa", sum := "6a565cd067537a8903531c9d6c97c06560bcdc6d60571d41d0b453d7c0a4c4cb", func := "cashbook/cashbooklaw21.ChainSplits", spec := "chainSplits", unfollowed := true, recurses := true, apart := false, narrowed := true }
def ChainSplitsUptoSaid : Prop := chainSplitsUptoRow.holds Try.pinned (OpenSpec.upto chainSplitsSpec)

/-- 'cashbooklaw21.ChainRuns', WHERE WHAT IT READS IS OF BULK AT MOST 1048576: true; the input reads as it did. -/
def chainRunsUptoRow : OpenClaim := { program := "ytpecleflhhbecaa", sum := "6a565cd067537a8903531c9d6c97c06560bcdc6d60571d41d0b453d7c0a4c4cb", func := "cashbook/cashbooklaw21.ChainRuns", spec := "chainRuns", unfollowed := true, recurses := true, apart := false, narrowed := true }
def ChainRunsUptoSaid : Prop := chainRunsUptoRow.holds Try.pinned (OpenSpec.upto chainRunsSpec)

/-- 'cashbooklaw21.ChainWhole', WHERE WHAT IT READS IS OF BULK AT MOST 1048576: true; the input reads as it did. -/
def chainWholeUptoRow : OpenClaim := { program := "ytpecleflhhbecaa", sum := "6a565cd067537a8903531c9d6c97c06560bcdc6d60571d41d0b453d7c0a4c4cb", func := "cashbook/cashbooklaw21.ChainWhole", spec := "chainWhole", unfollowed := true, recurses := true, apart := false, narrowed := true }
def ChainWholeUptoSaid : Prop := chainWholeUptoRow.holds Try.pinned (OpenSpec.upto chainWholeSpec)

/-- 'cashbooklaw21.ChainApart', WHERE WHAT IT READS IS OF BULK AT MOST 1048576: true; the input reads as it did. -/
def chainApartUptoRow : OpenClaim := { program := "ytpecleflhhbecaa", sum := "6a565cd067537a8903531c9d6c97c06560bcdc6d60571d41d0b453d7c0a4c4cb", func := "cashbook/cashbooklaw21.ChainApart", spec := "chainApart", unfollowed := true, recurses := true, apart := false, narrowed := true }
def ChainApartUptoSaid : Prop := chainApartUptoRow.holds Try.pinned (OpenSpec.upto chainApartSpec)

/-- 'cashbooklaw09.ListParses', WHERE WHAT IT READS IS OF BULK AT MOST 1048576: true; the input reads as it did. -/
def listParsesUptoRow : OpenClaim := { program := "ytpecleflhhbecaa", sum := "6a565cd067537a8903531c9d6c97c06560bcdc6d60571d41d0b453d7c0a4c4cb", func := "cashbook/cashbooklaw09.ListParses", spec := "listParses", unfollowed := true, recurses := true, apart := false, narrowed := true }
def ListParsesUptoSaid : Prop := listParsesUptoRow.holds Try.pinned (OpenSpec.upto listParsesSpec)

/-- 'cashbooklaw09.ListBack', WHERE WHAT IT READS IS OF BULK AT MOST 1048576: true; the input reads as it did. -/
def listBackUptoRow : OpenClaim := { program := "ytpecleflhhbecaa", sum := "6a565cd067537a8903531c9d6c97c06560bcdc6d60571d41d0b453d7c0a4c4cb", func := "cashbook/cashbooklaw09.ListBack", spec := "listBack", unfollowed := true, recurses := true, apart := false, narrowed := true }
def ListBackUptoSaid : Prop := listBackUptoRow.holds Try.pinned (OpenSpec.upto listBackSpec)

end Rows
end Go.Proofs.Ytpecleflhhbecaa
