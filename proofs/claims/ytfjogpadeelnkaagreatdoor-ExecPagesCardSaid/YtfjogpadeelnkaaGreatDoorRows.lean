/-
  NARROWER THAN 'FOR EVERY INPUT', by the rows' own cells (each row's printed sentence says how): ExecRows: laid · ExecErrors: laid · ExecPages: laid · ExecAlike: laid · ExecOrders: laid.
  DERIVED. THE GIVEN ROWS OF THIS SEAT. 5 by the template 'for every input the law returns true; each argument reads behind the call as it read before'; 0 by the template 'total and deterministic' (their statements: YtfjogpadeelnkaaGreatDoorTotals.lean).
  GIVEN WITH THE SEED: the statements are not yours to turn. If you find one false, say at which input.
  Laid BY PROGRAM, IN A SANDBOX (cutbox-rows.mjs): the forced cells as the released guide's own fill.sh prints them over the translation 0596d825692f864c… (all of the seat's roots in one cut). By AI agents, Wed Nov 11 2026. No macro, syntax, notation, axiom, sorry.
-/
import Derived.Test.YtfjogpadeelnkaaGreatDoorChecked
import GoSem.PinnedTables
import GoSem.Claim
import GoSem.ClaimJoined
import GoSem.ClaimMapViews
import Derived.JoinedTies
import Derived.KernelRfl
namespace Go.Proofs.YtfjogpadeelnkaaGreatDoor
/- THE CELL 'sum', in the pinned program and in every row, IS THE sha256 OF THE DUMP (.gsa) THAT YtfjogpadeelnkaaGreatDoorProg.lean LOADS. Nothing in Lean hashes anything: it is a label: what it is worth is what the hold of that sum in a sandbox is worth. -/
noncomputable def Tryz.pinned : Pinned := { name := "ytfjogpadeelnkaagreatdoor", sum := "0596d825692f864cf64b6fcbdeb323b2b5878c90a19d641956efbe46c8271e97", checked := Tryz.checked }
namespace Rows
def none {H : Type} : Left H := { results := [], args := [] }

/- WHAT THE LISTED PACKAGE-LEVEL VARIABLES READ AS WHEN THE CALL BEGINS. Each datum BY PROGRAM (the guide's laid-datum.mjs) off the statement by which the dump's own 'gosem.cut.vars' lays the variable. In a bare row this is a premise. The card (YtfjogpadeelnkaaGreatDoorCards.lean) ties it to the program's text. -/
def laid_unicode_utf8_acceptRanges {H : Type} : DataW H := .agg [.agg [.lit (.int .u8 128), .lit (.int .u8 191)], .agg [.lit (.int .u8 160), .lit (.int .u8 191)], .agg [.lit (.int .u8 128), .lit (.int .u8 159)], .agg [.lit (.int .u8 144), .lit (.int .u8 191)], .agg [.lit (.int .u8 128), .lit (.int .u8 143)], .agg [.lit (.int .u8 0), .lit (.int .u8 0)], .agg [.lit (.int .u8 0), .lit (.int .u8 0)], .agg [.lit (.int .u8 0), .lit (.int .u8 0)], .agg [.lit (.int .u8 0), .lit (.int .u8 0)], .agg [.lit (.int .u8 0), .lit (.int .u8 0)], .agg [.lit (.int .u8 0), .lit (.int .u8 0)], .agg [.lit (.int .u8 0), .lit (.int .u8 0)], .agg [.lit (.int .u8 0), .lit (.int .u8 0)], .agg [.lit (.int .u8 0), .lit (.int .u8 0)], .agg [.lit (.int .u8 0), .lit (.int .u8 0)], .agg [.lit (.int .u8 0), .lit (.int .u8 0)]]
/-- One of Go's own tables, pinned by name: the form's constant. -/
def laid_unicode_utf8_first : DataW Unit := Go.Pinned.utf8First

/-- 'granarylaw22.ExecRows': WHATEVER THE INPUT: true; the input reads as it did. -/
def execRowsSpec : ChangeSpec := { name := "execRows", fn := fun _ => fun
  | [d1, d2, d3] => { results := [.lit (.bool true)], args := [d1, d2, d3] }
  | _ => none }
def execRowsRow : OpenClaim := { program := "ytfjogpadeelnkaagreatdoor", sum := "0596d825692f864cf64b6fcbdeb323b2b5878c90a19d641956efbe46c8271e97", func := "granary/granarylaw22.ExecRows", spec := "execRows", inPlace := ["internal/bytealg.CountString", "internal/bytealg.IndexByteString", "internal/bytealg.IndexString", "internal/abi.NoEscape", "internal/bytealg.MakeNoZero", "internal/bytealg.abigen_runtime_cmpstring"], unfollowed := true, recurses := true, named := ["unicode/utf8.first", "unicode/utf8.acceptRanges", "internal/bytealg.MaxLen"], apart := false, laid := [("unicode/utf8.acceptRanges", laid_unicode_utf8_acceptRanges), ("unicode/utf8.first", laid_unicode_utf8_first)] }
def ExecRowsSaid : Prop := execRowsRow.holds Tryz.pinned (OpenSpec.ofChange execRowsSpec)

/-- ITS FALSE NEIGHBOUR: 'it returns false'. Refute it at one input. -/
def execRowsWrong : ChangeSpec := { name := "execRows", fn := fun _ => fun
  | [d1, d2, d3] => { results := [.lit (.bool false)], args := [d1, d2, d3] }
  | _ => none }
def ExecRowsWrongFalsely : Prop := execRowsRow.holds Tryz.pinned (OpenSpec.ofChange execRowsWrong)

/-- 'granarylaw22.ExecErrors': WHATEVER THE INPUT: true; the input reads as it did. -/
def execErrorsSpec : ChangeSpec := { name := "execErrors", fn := fun _ => fun
  | [d1, d2, d3, d4, d5, d6] => { results := [.lit (.bool true)], args := [d1, d2, d3, d4, d5, d6] }
  | _ => none }
def execErrorsRow : OpenClaim := { program := "ytfjogpadeelnkaagreatdoor", sum := "0596d825692f864cf64b6fcbdeb323b2b5878c90a19d641956efbe46c8271e97", func := "granary/granarylaw22.ExecErrors", spec := "execErrors", inPlace := ["internal/bytealg.CountString", "internal/bytealg.IndexByteString", "internal/bytealg.IndexString", "internal/abi.NoEscape", "internal/bytealg.MakeNoZero", "internal/bytealg.abigen_runtime_cmpstring"], unfollowed := true, recurses := true, named := ["unicode/utf8.first", "unicode/utf8.acceptRanges", "internal/bytealg.MaxLen"], apart := false, laid := [("unicode/utf8.acceptRanges", laid_unicode_utf8_acceptRanges), ("unicode/utf8.first", laid_unicode_utf8_first)] }
def ExecErrorsSaid : Prop := execErrorsRow.holds Tryz.pinned (OpenSpec.ofChange execErrorsSpec)

/-- ITS FALSE NEIGHBOUR: 'it returns false'. Refute it at one input. -/
def execErrorsWrong : ChangeSpec := { name := "execErrors", fn := fun _ => fun
  | [d1, d2, d3, d4, d5, d6] => { results := [.lit (.bool false)], args := [d1, d2, d3, d4, d5, d6] }
  | _ => none }
def ExecErrorsWrongFalsely : Prop := execErrorsRow.holds Tryz.pinned (OpenSpec.ofChange execErrorsWrong)

/-- 'granarylaw22.ExecPages': WHATEVER THE INPUT: true; the input reads as it did. -/
def execPagesSpec : ChangeSpec := { name := "execPages", fn := fun _ => fun
  | [d1, d2, d3, d4] => { results := [.lit (.bool true)], args := [d1, d2, d3, d4] }
  | _ => none }
def execPagesRow : OpenClaim := { program := "ytfjogpadeelnkaagreatdoor", sum := "0596d825692f864cf64b6fcbdeb323b2b5878c90a19d641956efbe46c8271e97", func := "granary/granarylaw22.ExecPages", spec := "execPages", inPlace := ["internal/bytealg.CountString", "internal/bytealg.IndexByteString", "internal/bytealg.IndexString", "internal/abi.NoEscape", "internal/bytealg.MakeNoZero", "internal/bytealg.abigen_runtime_cmpstring"], unfollowed := true, recurses := true, named := ["unicode/utf8.first", "unicode/utf8.acceptRanges", "internal/bytealg.MaxLen"], apart := false, laid := [("unicode/utf8.acceptRanges", laid_unicode_utf8_acceptRanges), ("unicode/utf8.first", laid_unicode_utf8_first)] }
def ExecPagesSaid : Prop := execPagesRow.holds Tryz.pinned (OpenSpec.ofChange execPagesSpec)

/-- ITS FALSE NEIGHBOUR: 'it returns false'. Refute it at one input. -/
def execPagesWrong : ChangeSpec := { name := "execPages", fn := fun _ => fun
  | [d1, d2, d3, d4] => { results := [.lit (.bool false)], args := [d1, d2, d3, d4] }
  | _ => none }
def ExecPagesWrongFalsely : Prop := execPagesRow.holds Tryz.pinned (OpenSpec.ofChange execPagesWrong)

/-- 'granarylaw22.ExecAlike': WHATEVER THE INPUT: true; the input reads as it did. -/
def execAlikeSpec : ChangeSpec := { name := "execAlike", fn := fun _ => fun
  | [d1, d2, d3] => { results := [.lit (.bool true)], args := [d1, d2, d3] }
  | _ => none }
def execAlikeRow : OpenClaim := { program := "ytfjogpadeelnkaagreatdoor", sum := "0596d825692f864cf64b6fcbdeb323b2b5878c90a19d641956efbe46c8271e97", func := "granary/granarylaw22.ExecAlike", spec := "execAlike", inPlace := ["internal/bytealg.CountString", "internal/bytealg.IndexByteString", "internal/bytealg.IndexString", "internal/abi.NoEscape", "internal/bytealg.MakeNoZero", "internal/bytealg.abigen_runtime_cmpstring"], unfollowed := true, recurses := true, named := ["unicode/utf8.first", "unicode/utf8.acceptRanges", "internal/bytealg.MaxLen"], apart := false, laid := [("unicode/utf8.acceptRanges", laid_unicode_utf8_acceptRanges), ("unicode/utf8.first", laid_unicode_utf8_first)] }
def ExecAlikeSaid : Prop := execAlikeRow.holds Tryz.pinned (OpenSpec.ofChange execAlikeSpec)

/-- ITS FALSE NEIGHBOUR: 'it returns false'. Refute it at one input. -/
def execAlikeWrong : ChangeSpec := { name := "execAlike", fn := fun _ => fun
  | [d1, d2, d3] => { results := [.lit (.bool false)], args := [d1, d2, d3] }
  | _ => none }
def ExecAlikeWrongFalsely : Prop := execAlikeRow.holds Tryz.pinned (OpenSpec.ofChange execAlikeWrong)

/-- 'granarylaw22.ExecOrders': WHATEVER THE INPUT: true; the input reads as it did. -/
def execOrdersSpec : ChangeSpec := { name := "execOrders", fn := fun _ => fun
  | [d1, d2, d3] => { results := [.lit (.bool true)], args := [d1, d2, d3] }
  | _ => none }
def execOrdersRow : OpenClaim := { program := "ytfjogpadeelnkaagreatdoor", sum := "0596d825692f864cf64b6fcbdeb323b2b5878c90a19d641956efbe46c8271e97", func := "granary/granarylaw22.ExecOrders", spec := "execOrders", inPlace := ["internal/bytealg.CountString", "internal/bytealg.IndexByteString", "internal/bytealg.IndexString", "internal/abi.NoEscape", "internal/bytealg.MakeNoZero", "internal/bytealg.abigen_runtime_cmpstring"], unfollowed := true, recurses := true, named := ["unicode/utf8.first", "unicode/utf8.acceptRanges", "internal/bytealg.MaxLen"], apart := false, laid := [("unicode/utf8.acceptRanges", laid_unicode_utf8_acceptRanges), ("unicode/utf8.first", laid_unicode_utf8_first)] }
def ExecOrdersSaid : Prop := execOrdersRow.holds Tryz.pinned (OpenSpec.ofChange execOrdersSpec)

/-- ITS FALSE NEIGHBOUR: 'it returns false'. Refute it at one input. -/
def execOrdersWrong : ChangeSpec := { name := "execOrders", fn := fun _ => fun
  | [d1, d2, d3] => { results := [.lit (.bool false)], args := [d1, d2, d3] }
  | _ => none }
def ExecOrdersWrongFalsely : Prop := execOrdersRow.holds Tryz.pinned (OpenSpec.ofChange execOrdersWrong)

/- THE SECOND FORM. 'bulk': how many values and letters a reading holds, each counted each time it is reached (what is shared counts as often as it is met; a slice's spare places count too). A statement '..UptoSaid' is the law's where the arguments, and the package variables that the reading takes, are together of bulk at most 1048576: NARROWER than '..Said'. Prove '..Said' where nothing that the law and all that it calls make is longer than what came in: it says more and counts as full. Else prove '..UptoSaid'. A law counts once. -/
mutual
def uptoBulk {H : Type} : DataW H → Nat
  | .lit (.string bytes) => bytes.length + 1
  | .lit _ => 1
  | .nil => 1
  | .ptr d => uptoBulk d + 1
  | .slice elems spare => uptoBulkAll elems + uptoBulkAll spare + 1
  | .agg parts => uptoBulkAll parts + 1
  | .iface _ d => uptoBulk d + 1
  | .map entries => uptoBulkEntries entries + 1
  | .held _ => 1
def uptoBulkAll {H : Type} : List (DataW H) → Nat
  | [] => 0
  | d :: r => uptoBulk d + uptoBulkAll r
def uptoBulkEntries {H : Type} : List (Lit × DataW H) → Nat
  | [] => 0
  | x :: r => uptoBulkEntry x + uptoBulkEntries r
def uptoBulkEntry {H : Type} : Lit × DataW H → Nat
  | (.string bytes, d) => bytes.length + uptoBulk d + 1
  | (_, d) => uptoBulk d + 1
 end
def uptoSmall : (H : Type) → List (DataW H) → Bool := fun _ ds => decide (uptoBulkAll ds ≤ 1048576)
def OpenSpec.upto (s : _root_.Go.ChangeSpec) : _root_.Go.OpenSpec := { _root_.Go.OpenSpec.ofChange s with cond := some uptoSmall }

/-- 'granarylaw22.ExecRows', WHERE WHAT IT READS IS OF BULK AT MOST 1048576: true; the input reads as it did. -/
def execRowsUptoRow : OpenClaim := { program := "ytfjogpadeelnkaagreatdoor", sum := "0596d825692f864cf64b6fcbdeb323b2b5878c90a19d641956efbe46c8271e97", func := "granary/granarylaw22.ExecRows", spec := "execRows", inPlace := ["internal/bytealg.CountString", "internal/bytealg.IndexByteString", "internal/bytealg.IndexString", "internal/abi.NoEscape", "internal/bytealg.MakeNoZero", "internal/bytealg.abigen_runtime_cmpstring"], unfollowed := true, recurses := true, named := ["unicode/utf8.first", "unicode/utf8.acceptRanges", "internal/bytealg.MaxLen"], apart := false, laid := [("unicode/utf8.acceptRanges", laid_unicode_utf8_acceptRanges), ("unicode/utf8.first", laid_unicode_utf8_first)], narrowed := true }
def ExecRowsUptoSaid : Prop := execRowsUptoRow.holds Tryz.pinned (OpenSpec.upto execRowsSpec)

/-- 'granarylaw22.ExecErrors', WHERE WHAT IT READS IS OF BULK AT MOST 1048576: true; the input reads as it did. -/
def execErrorsUptoRow : OpenClaim := { program := "ytfjogpadeelnkaagreatdoor", sum := "0596d825692f864cf64b6fcbdeb323b2b5878c90a19d641956efbe46c8271e97", func := "granary/granarylaw22.ExecErrors", spec := "execErrors", inPlace := ["internal/bytealg.CountString", "internal/bytealg.IndexByteString", "internal/bytealg.IndexString", "internal/abi.NoEscape", "internal/bytealg.MakeNoZero", "internal/bytealg.abigen_runtime_cmpstring"], unfollowed := true, recurses := true, named := ["unicode/utf8.first", "unicode/utf8.acceptRanges", "internal/bytealg.MaxLen"], apart := false, laid := [("unicode/utf8.acceptRanges", laid_unicode_utf8_acceptRanges), ("unicode/utf8.first", laid_unicode_utf8_first)], narrowed := true }
def ExecErrorsUptoSaid : Prop := execErrorsUptoRow.holds Tryz.pinned (OpenSpec.upto execErrorsSpec)

/-- 'granarylaw22.ExecPages', WHERE WHAT IT READS IS OF BULK AT MOST 1048576: true; the input reads as it did. -/
def execPagesUptoRow : OpenClaim := { program := "ytfjogpadeelnkaagreatdoor", sum := "0596d825692f864cf64b6fcbdeb323b2b5878c90a19d641956efbe46c8271e97", func := "granary/granarylaw22.ExecPages", spec := "execPages", inPlace := ["internal/bytealg.CountString", "internal/bytealg.IndexByteString", "internal/bytealg.IndexString", "internal/abi.NoEscape", "internal/bytealg.MakeNoZero", "internal/bytealg.abigen_runtime_cmpstring"], unfollowed := true, recurses := true, named := ["unicode/utf8.first", "unicode/utf8.acceptRanges", "internal/bytealg.MaxLen"], apart := false, laid := [("unicode/utf8.acceptRanges", laid_unicode_utf8_acceptRanges), ("unicode/utf8.first", laid_unicode_utf8_first)], narrowed := true }
def ExecPagesUptoSaid : Prop := execPagesUptoRow.holds Tryz.pinned (OpenSpec.upto execPagesSpec)

/-- 'granarylaw22.ExecAlike', WHERE WHAT IT READS IS OF BULK AT MOST 1048576: true; the input reads as it did. -/
def execAlikeUptoRow : OpenClaim := { program := "ytfjogpadeelnkaagreatdoor", sum := "0596d825692f864cf64b6fcbdeb323b2b5878c90a19d641956efbe46c8271e97", func := "granary/granarylaw22.ExecAlike", spec := "execAlike", inPlace := ["internal/bytealg.CountString", "internal/bytealg.IndexByteString", "internal/bytealg.IndexString", "internal/abi.NoEscape", "internal/bytealg.MakeNoZero", "internal/bytealg.abigen_runtime_cmpstring"], unfollowed := true, recurses := true, named := ["unicode/utf8.first", "unicode/utf8.acceptRanges", "internal/bytealg.MaxLen"], apart := false, laid := [("unicode/utf8.acceptRanges", laid_unicode_utf8_acceptRanges), ("unicode/utf8.first", laid_unicode_utf8_first)], narrowed := true }
def ExecAlikeUptoSaid : Prop := execAlikeUptoRow.holds Tryz.pinned (OpenSpec.upto execAlikeSpec)

/-- 'granarylaw22.ExecOrders', WHERE WHAT IT READS IS OF BULK AT MOST 1048576: true; the input reads as it did. -/
def execOrdersUptoRow : OpenClaim := { program := "ytfjogpadeelnkaagreatdoor", sum := "0596d825692f864cf64b6fcbdeb323b2b5878c90a19d641956efbe46c8271e97", func := "granary/granarylaw22.ExecOrders", spec := "execOrders", inPlace := ["internal/bytealg.CountString", "internal/bytealg.IndexByteString", "internal/bytealg.IndexString", "internal/abi.NoEscape", "internal/bytealg.MakeNoZero", "internal/bytealg.abigen_runtime_cmpstring"], unfollowed := true, recurses := true, named := ["unicode/utf8.first", "unicode/utf8.acceptRanges", "internal/bytealg.MaxLen"], apart := false, laid := [("unicode/utf8.acceptRanges", laid_unicode_utf8_acceptRanges), ("unicode/utf8.first", laid_unicode_utf8_first)], narrowed := true }
def ExecOrdersUptoSaid : Prop := execOrdersUptoRow.holds Tryz.pinned (OpenSpec.upto execOrdersSpec)

end Rows
end Go.Proofs.YtfjogpadeelnkaaGreatDoor
