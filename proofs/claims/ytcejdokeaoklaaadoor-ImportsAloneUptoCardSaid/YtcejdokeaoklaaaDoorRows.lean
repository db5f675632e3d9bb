/-
  NARROWER THAN 'FOR EVERY INPUT', by the rows' own cells (each row's printed sentence says how): ImportsSplits: laid · ImportsFolders: laid · ImportsOrders: loops, laid · ImportsAlone: loops, laid · ImportsStand: loops, laid.
  DERIVED. THE GIVEN ROWS OF THIS SEAT. 5 by the template 'for every input the law returns true; each argument reads behind the call as it read before'; 0 by the template 'total and deterministic' (their statements: YtcejdokeaoklaaaDoorTotals.lean).
  GIVEN WITH THE SEED: the statements are not yours to turn. If you find one false, say at which input.
  Laid BY PROGRAM, IN A SANDBOX (cutbox-rows.mjs): the forced cells as the released guide's own fill.sh prints them over the translation 89d9cd6a4e4164a3… (all of the seat's roots in one cut). By AI agents, Wed Nov 11 2026. No macro, syntax, notation, axiom, sorry.
-/
import Derived.Test.YtcejdokeaoklaaaDoorChecked
import GoSem.PinnedTables
import GoSem.Claim
import GoSem.ClaimJoined
import GoSem.ClaimMapViews
import Derived.JoinedTies
import Derived.KernelRfl
namespace Go.Proofs.YtcejdokeaoklaaaDoor
/- THE CELL 'sum', in the pinned program and in every row, IS THE sha256 OF THE DUMP (.gsa) THAT YtcejdokeaoklaaaDoorProg.lean LOADS. Nothing in Lean hashes anything: it is a label: what it is worth is what the hold of that sum in a sandbox is worth. -/
noncomputable def Tryd.pinned : Pinned := { name := "ytcejdokeaoklaaadoor", sum := "89d9cd6a4e4164a346b34a4363e4b60468110d6a6843afef47f7c8e3e5dbd982", checked := Tryd.checked }
namespace Rows
def none {H : Type} : Left H := { results := [], args := [] }

/- WHAT THE LISTED PACKAGE-LEVEL VARIABLES READ AS WHEN THE CALL BEGINS. Each datum BY PROGRAM (the guide's laid-datum.mjs) off the statement by which the dump's own 'gosem.cut.vars' lays the variable. In a bare row this is a premise. The card (YtcejdokeaoklaaaDoorCards.lean) ties it to the program's text. -/
def laid_unicode_utf8_acceptRanges {H : Type} : DataW H := .agg [.agg [.lit (.int .u8 128), .lit (.int .u8 191)], .agg [.lit (.int .u8 160), .lit (.int .u8 191)], .agg [.lit (.int .u8 128), .lit (.int .u8 159)], .agg [.lit (.int .u8 144), .lit (.int .u8 191)], .agg [.lit (.int .u8 128), .lit (.int .u8 143)], .agg [.lit (.int .u8 0), .lit (.int .u8 0)], .agg [.lit (.int .u8 0), .lit (.int .u8 0)], .agg [.lit (.int .u8 0), .lit (.int .u8 0)], .agg [.lit (.int .u8 0), .lit (.int .u8 0)], .agg [.lit (.int .u8 0), .lit (.int .u8 0)], .agg [.lit (.int .u8 0), .lit (.int .u8 0)], .agg [.lit (.int .u8 0), .lit (.int .u8 0)], .agg [.lit (.int .u8 0), .lit (.int .u8 0)], .agg [.lit (.int .u8 0), .lit (.int .u8 0)], .agg [.lit (.int .u8 0), .lit (.int .u8 0)], .agg [.lit (.int .u8 0), .lit (.int .u8 0)]]
/-- One of Go's own tables, pinned by name: the form's constant. -/
def laid_unicode_utf8_first : DataW Unit := Go.Pinned.utf8First

/-- 'scholiastlaw13.ImportsSplits': WHATEVER THE INPUT: true; the input reads as it did. -/
def importsSplitsSpec : ChangeSpec := { name := "importsSplits", fn := fun _ => fun
  | [d] => { results := [.lit (.bool true)], args := [d] }
  | _ => none }
def importsSplitsRow : OpenClaim := { program := "ytcejdokeaoklaaadoor", sum := "89d9cd6a4e4164a346b34a4363e4b60468110d6a6843afef47f7c8e3e5dbd982", func := "scholiast/scholiastlaw13.ImportsSplits", spec := "importsSplits", inPlace := ["internal/bytealg.CountString", "internal/bytealg.IndexByteString", "internal/bytealg.IndexString"], named := ["unicode/utf8.first", "unicode/utf8.acceptRanges", "internal/bytealg.MaxLen"], apart := false, laid := [("unicode/utf8.acceptRanges", laid_unicode_utf8_acceptRanges), ("unicode/utf8.first", laid_unicode_utf8_first)] }
def ImportsSplitsSaid : Prop := importsSplitsRow.holds Tryd.pinned (OpenSpec.ofChange importsSplitsSpec)

/-- ITS FALSE NEIGHBOUR: 'it returns false'. Refute it at one input. -/
def importsSplitsWrong : ChangeSpec := { name := "importsSplits", fn := fun _ => fun
  | [d] => { results := [.lit (.bool false)], args := [d] }
  | _ => none }
def ImportsSplitsWrongFalsely : Prop := importsSplitsRow.holds Tryd.pinned (OpenSpec.ofChange importsSplitsWrong)

/-- 'scholiastlaw13.ImportsFolders': WHATEVER THE INPUT: true; the input reads as it did. -/
def importsFoldersSpec : ChangeSpec := { name := "importsFolders", fn := fun _ => fun
  | [d] => { results := [.lit (.bool true)], args := [d] }
  | _ => none }
def importsFoldersRow : OpenClaim := { program := "ytcejdokeaoklaaadoor", sum := "89d9cd6a4e4164a346b34a4363e4b60468110d6a6843afef47f7c8e3e5dbd982", func := "scholiast/scholiastlaw13.ImportsFolders", spec := "importsFolders", inPlace := ["internal/bytealg.CountString", "internal/bytealg.IndexByteString", "internal/bytealg.IndexString"], recurses := true, named := ["unicode/utf8.first", "unicode/utf8.acceptRanges", "internal/bytealg.MaxLen"], apart := false, laid := [("unicode/utf8.acceptRanges", laid_unicode_utf8_acceptRanges), ("unicode/utf8.first", laid_unicode_utf8_first)] }
def ImportsFoldersSaid : Prop := importsFoldersRow.holds Tryd.pinned (OpenSpec.ofChange importsFoldersSpec)

/-- ITS FALSE NEIGHBOUR: 'it returns false'. Refute it at one input. -/
def importsFoldersWrong : ChangeSpec := { name := "importsFolders", fn := fun _ => fun
  | [d] => { results := [.lit (.bool false)], args := [d] }
  | _ => none }
def ImportsFoldersWrongFalsely : Prop := importsFoldersRow.holds Tryd.pinned (OpenSpec.ofChange importsFoldersWrong)

/-- 'scholiastlaw13.ImportsOrders': WHATEVER THE INPUT: true; the input reads as it did. -/
def importsOrdersSpec : ChangeSpec := { name := "importsOrders", fn := fun _ => fun
  | [d1, d2, d3] => { results := [.lit (.bool true)], args := [d1, d2, d3] }
  | _ => none }
def importsOrdersRow : OpenClaim := { program := "ytcejdokeaoklaaadoor", sum := "89d9cd6a4e4164a346b34a4363e4b60468110d6a6843afef47f7c8e3e5dbd982", func := "scholiast/scholiastlaw13.ImportsOrders", spec := "importsOrders", inPlace := ["internal/bytealg.CountString", "internal/bytealg.IndexByteString", "internal/bytealg.IndexString"], unfollowed := true, recurses := true, named := ["unicode/utf8.first", "unicode/utf8.acceptRanges", "internal/bytealg.MaxLen"], loops := true, apart := false, laid := [("unicode/utf8.acceptRanges", laid_unicode_utf8_acceptRanges), ("unicode/utf8.first", laid_unicode_utf8_first)] }
def ImportsOrdersSaid : Prop := importsOrdersRow.holds Tryd.pinned (OpenSpec.ofChange importsOrdersSpec)

/-- ITS FALSE NEIGHBOUR: 'it returns false'. Refute it at one input. -/
def importsOrdersWrong : ChangeSpec := { name := "importsOrders", fn := fun _ => fun
  | [d1, d2, d3] => { results := [.lit (.bool false)], args := [d1, d2, d3] }
  | _ => none }
def ImportsOrdersWrongFalsely : Prop := importsOrdersRow.holds Tryd.pinned (OpenSpec.ofChange importsOrdersWrong)

/-- 'scholiastlaw13.ImportsAlone': WHATEVER THE INPUT: true; the input reads as it did. -/
def importsAloneSpec : ChangeSpec := { name := "importsAlone", fn := fun _ => fun
  | [d1, d2, d3] => { results := [.lit (.bool true)], args := [d1, d2, d3] }
  | _ => none }
def importsAloneRow : OpenClaim := { program := "ytcejdokeaoklaaadoor", sum := "89d9cd6a4e4164a346b34a4363e4b60468110d6a6843afef47f7c8e3e5dbd982", func := "scholiast/scholiastlaw13.ImportsAlone", spec := "importsAlone", inPlace := ["internal/bytealg.CountString", "internal/bytealg.IndexByteString", "internal/bytealg.IndexString"], unfollowed := true, recurses := true, named := ["unicode/utf8.first", "unicode/utf8.acceptRanges", "internal/bytealg.MaxLen"], loops := true, apart := false, laid := [("unicode/utf8.acceptRanges", laid_unicode_utf8_acceptRanges), ("unicode/utf8.first", laid_unicode_utf8_first)] }
def ImportsAloneSaid : Prop := importsAloneRow.holds Tryd.pinned (OpenSpec.ofChange importsAloneSpec)

/-- ITS FALSE NEIGHBOUR: 'it returns false'. Refute it at one input. -/
def importsAloneWrong : ChangeSpec := { name := "importsAlone", fn := fun _ => fun
  | [d1, d2, d3] => { results := [.lit (.bool false)], args := [d1, d2, d3] }
  | _ => none }
def ImportsAloneWrongFalsely : Prop := importsAloneRow.holds Tryd.pinned (OpenSpec.ofChange importsAloneWrong)

/-- 'scholiastlaw13.ImportsStand': WHATEVER THE INPUT: true; the input reads as it did. -/
def importsStandSpec : ChangeSpec := { name := "importsStand", fn := fun _ => fun
  | [d1, d2] => { results := [.lit (.bool true)], args := [d1, d2] }
  | _ => none }
def importsStandRow : OpenClaim := { program := "ytcejdokeaoklaaadoor", sum := "89d9cd6a4e4164a346b34a4363e4b60468110d6a6843afef47f7c8e3e5dbd982", func := "scholiast/scholiastlaw13.ImportsStand", spec := "importsStand", inPlace := ["internal/bytealg.CountString", "internal/bytealg.IndexByteString", "internal/bytealg.IndexString"], unfollowed := true, recurses := true, named := ["unicode/utf8.first", "unicode/utf8.acceptRanges", "internal/bytealg.MaxLen"], loops := true, apart := false, laid := [("unicode/utf8.acceptRanges", laid_unicode_utf8_acceptRanges), ("unicode/utf8.first", laid_unicode_utf8_first)] }
def ImportsStandSaid : Prop := importsStandRow.holds Tryd.pinned (OpenSpec.ofChange importsStandSpec)

/-- ITS FALSE NEIGHBOUR: 'it returns false'. Refute it at one input. -/
def importsStandWrong : ChangeSpec := { name := "importsStand", fn := fun _ => fun
  | [d1, d2] => { results := [.lit (.bool false)], args := [d1, d2] }
  | _ => none }
def ImportsStandWrongFalsely : Prop := importsStandRow.holds Tryd.pinned (OpenSpec.ofChange importsStandWrong)

/- THE SECOND FORM. 'bulk': how many values and letters a reading holds, each counted each time it is reached (what is shared counts as often as it is met; a slice's spare places count too). A statement '..UptoSaid' is the law's where the arguments, and the package variables that the reading takes, are together of bulk at most 1048576: NARROWER than '..Said'. Prove '..Said' where nothing that the law and all that it calls make is longer than what came in: it says more and counts as full. Else prove '..UptoSaid'. A law counts once. -/
mutual
def uptoBulk {H : Type} : DataW H → Nat
  | .lit (.string bytes) => bytes.length + 1
  | .lit _ => 1
  | .nil => 1
  | .ptr d => uptoBulk d + 1
  | .slice elems spare => uptoBulkAll elems + uptoBulkAll spare + 1
  | .agg parts => uptoBulkAll parts + 1
  | .iface _ d => uptoBulk d + 1
  | .map entries => uptoBulkEntries entries + 1
  | .held _ => 1
def uptoBulkAll {H : Type} : List (DataW H) → Nat
  | [] => 0
  | d :: r => uptoBulk d + uptoBulkAll r
def uptoBulkEntries {H : Type} : List (Lit × DataW H) → Nat
  | [] => 0
  | x :: r => uptoBulkEntry x + uptoBulkEntries r
def uptoBulkEntry {H : Type} : Lit × DataW H → Nat
  | (.string bytes, d) => bytes.length + uptoBulk d + 1
  | (_, d) => uptoBulk d + 1
 end
def uptoSmall : (H : Type) → List (DataW H) → Bool := fun _ ds => decide (uptoBulkAll ds ≤ 1048576)
def OpenSpec.upto (s : _root_.Go.ChangeSpec) : _root_.Go.OpenSpec := { _root_.Go.OpenSpec.ofChange s with cond := some uptoSmall }

/-- 'scholiastlaw13.ImportsSplits', WHERE WHAT IT READS IS OF BULK AT MOST 1048576: true; the input reads as it did. -/
def importsSplitsUptoRow : OpenClaim := { program := "ytcejdokeaoklaaadoor", sum := "89d9cd6a4e4164a346b34a4363e4b60468110d6a6843afef47f7c8e3e5dbd982", func := "scholiast/scholiastlaw13.ImportsSplits", spec := "importsSplits", inPlace := ["internal/bytealg.CountString", "internal/bytealg.IndexByteString", "internal/bytealg.IndexString"], named := ["unicode/utf8.first", "unicode/utf8.acceptRanges", "internal/bytealg.MaxLen"], apart := false, laid := [("unicode/utf8.acceptRanges", laid_unicode_utf8_acceptRanges), ("unicode/utf8.first", laid_unicode_utf8_first)], narrowed := true }
def ImportsSplitsUptoSaid : Prop := importsSplitsUptoRow.holds Tryd.pinned (OpenSpec.upto importsSplitsSpec)

/-- 'scholiastlaw13.ImportsFolders', WHERE WHAT IT READS IS OF BULK AT MOST 1048576: true; the input reads as it did. -/
def importsFoldersUptoRow : OpenClaim := { program := "ytcejdokeaoklaaadoor", sum := "89d9cd6a4e4164a346b34a4363e4b60468110d6a6843afef47f7c8e3e5dbd982", func := "scholiast/scholiastlaw13.ImportsFolders", spec := "importsFolders", inPlace := ["internal/bytealg.CountString", "internal/bytealg.IndexByteString", "internal/bytealg.IndexString"], recurses := true, named := ["unicode/utf8.first", "unicode/utf8.acceptRanges", "internal/bytealg.MaxLen"], apart := false, laid := [("unicode/utf8.acceptRanges", laid_unicode_utf8_acceptRanges), ("unicode/utf8.first", laid_unicode_utf8_first)], narrowed := true }
def ImportsFoldersUptoSaid : Prop := importsFoldersUptoRow.holds Tryd.pinned (OpenSpec.upto importsFoldersSpec)

/-- 'scholiastlaw13.ImportsOrders', WHERE WHAT IT READS IS OF BULK AT MOST 1048576: true; the input reads as it did. -/
def importsOrdersUptoRow : OpenClaim := { program := "ytcejdokeaoklaaadoor", sum := "89d9cd6a4e4164a346b34a4363e4b60468110d6a6843afef47f7c8e3e5dbd982", func := "scholiast/scholiastlaw13.ImportsOrders", spec := "importsOrders", inPlace := ["internal/bytealg.CountString", "internal/bytealg.IndexByteString", "internal/bytealg.IndexString"], unfollowed := true, recurses := true, named := ["unicode/utf8.first", "unicode/utf8.acceptRanges", "internal/bytealg.MaxLen"], loops := true, apart := false, laid := [("unicode/utf8.acceptRanges", laid_unicode_utf8_acceptRanges), ("unicode/utf8.first", laid_unicode_utf8_first)], narrowed := true }
def ImportsOrdersUptoSaid : Prop := importsOrdersUptoRow.holds Tryd.pinned (OpenSpec.upto importsOrdersSpec)

/-- 'scholiastlaw13.ImportsAlone', WHERE WHAT IT READS IS OF BULK AT MOST 1048576: true; the input reads as it did. -/
def importsAloneUptoRow : OpenClaim := { program := "ytcejdokeaoklaaadoor", sum := "89d9cd6a4e4164a346b34a4363e4b60468110d6a6843afef47f7c8e3e5dbd982", func := "scholiast/scholiastlaw13.ImportsAlone", spec := "importsAlone", inPlace := ["internal/bytealg.CountString", "internal/bytealg.IndexByteString", "internal/bytealg.IndexString"], unfollowed := true, recurses := true, named := ["unicode/utf8.first", "unicode/utf8.acceptRanges", "internal/bytealg.MaxLen"], loops := true, apart := false, laid := [("unicode/utf8.acceptRanges", laid_unicode_utf8_acceptRanges), ("unicode/utf8.first", laid_unicode_utf8_first)], narrowed := true }
def ImportsAloneUptoSaid : Prop := importsAloneUptoRow.holds Tryd.pinned (OpenSpec.upto importsAloneSpec)

/-- 'scholiastlaw13.ImportsStand', WHERE WHAT IT READS IS OF BULK AT MOST 1048576: true; the input reads as it did. -/
def importsStandUptoRow : OpenClaim := { program := "ytcejdokeaoklaaadoor", sum := "89d9cd6a4e4164a346b34a4363e4b60468110d6a6843afef47f7c8e3e5dbd982", func := "scholiast/scholiastlaw13.ImportsStand", spec := "importsStand", inPlace := ["internal/bytealg.CountString", "internal/bytealg.IndexByteString", "internal/bytealg.IndexString"], unfollowed := true, recurses := true, named := ["unicode/utf8.first", "unicode/utf8.acceptRanges", "internal/bytealg.MaxLen"], loops := true, apart := false, laid := [("unicode/utf8.acceptRanges", laid_unicode_utf8_acceptRanges), ("unicode/utf8.first", laid_unicode_utf8_first)], narrowed := true }
def ImportsStandUptoSaid : Prop := importsStandUptoRow.holds Tryd.pinned (OpenSpec.upto importsStandSpec)

end Rows
end Go.Proofs.YtcejdokeaoklaaaDoor
