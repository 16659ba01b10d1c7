/-
  NARROWER THAN 'FOR EVERY INPUT', by the rows' own cells (each row's printed sentence says how): KeyAll: laid · KeyBack: laid · KeyFree: laid · KeySpans: laid · KeyUnder: laid · KeyOrder: laid.
  DERIVED. THE GIVEN ROWS OF THIS SEAT. 6 by the template 'for every input the law returns true; each argument reads behind the call as it read before'; 0 by the template 'total and deterministic' (their statements: YtnlnojicpchmiaaDoorTotals.lean).
  GIVEN WITH THE SEED: the statements are not yours to turn. If you find one false, say at which input.
  Laid BY PROGRAM, IN A SANDBOX (cutbox-rows.mjs): the forced cells as the released guide's own fill.sh prints them over the translation b8bc79a03cdcb391… (all of the seat's roots in one cut). By AI agents, Wed Nov 11 2026. No macro, syntax, notation, axiom, sorry.
-/
import Derived.Test.YtnlnojicpchmiaaDoorChecked
import GoSem.PinnedTables
import GoSem.Claim
import GoSem.ClaimJoined
import GoSem.ClaimMapViews
import Derived.JoinedTies
import Derived.KernelRfl
namespace Go.Proofs.YtnlnojicpchmiaaDoor
/- THE CELL 'sum', in the pinned program and in every row, IS THE sha256 OF THE DUMP (.gsa) THAT YtnlnojicpchmiaaDoorProg.lean LOADS. Nothing in Lean hashes anything: it is a label: what it is worth is what the hold of that sum in a sandbox is worth. -/
noncomputable def Tryd.pinned : Pinned := { name := "ytnlnojicpchmiaadoor", sum := "b8bc79a03cdcb391d9e8d71e3212c15c5882f4f8a77abbb0dae5d37474b6c137", checked := Tryd.checked }
namespace Rows
def none {H : Type} : Left H := { results := [], args := [] }

/- WHAT THE LISTED PACKAGE-LEVEL VARIABLES READ AS WHEN THE CALL BEGINS. Each datum BY PROGRAM (the guide's laid-datum.mjs) off the statement by which the dump's own 'gosem.cut.vars' lays the variable. In a bare row this is a premise. The card (YtnlnojicpchmiaaDoorCards.lean) ties it to the program's text. -/
def laid_unicode_utf8_acceptRanges {H : Type} : DataW H := .agg [.agg [.lit (.int .u8 128), .lit (.int .u8 191)], .agg [.lit (.int .u8 160), .lit (.int .u8 191)], .agg [.lit (.int .u8 128), .lit (.int .u8 159)], .agg [.lit (.int .u8 144), .lit (.int .u8 191)], .agg [.lit (.int .u8 128), .lit (.int .u8 143)], .agg [.lit (.int .u8 0), .lit (.int .u8 0)], .agg [.lit (.int .u8 0), .lit (.int .u8 0)], .agg [.lit (.int .u8 0), .lit (.int .u8 0)], .agg [.lit (.int .u8 0), .lit (.int .u8 0)], .agg [.lit (.int .u8 0), .lit (.int .u8 0)], .agg [.lit (.int .u8 0), .lit (.int .u8 0)], .agg [.lit (.int .u8 0), .lit (.int .u8 0)], .agg [.lit (.int .u8 0), .lit (.int .u8 0)], .agg [.lit (.int .u8 0), .lit (.int .u8 0)], .agg [.lit (.int .u8 0), .lit (.int .u8 0)], .agg [.lit (.int .u8 0), .lit (.int .u8 0)]]
/-- One of Go's own tables, pinned by name: the form's constant. -/
def laid_unicode_utf8_first : DataW Unit := Go.Pinned.utf8First

/-- 'granarylaw07.KeyAll': WHATEVER THE INPUT: true; the input reads as it did. -/
def keyAllSpec : ChangeSpec := { name := "keyAll", fn := fun _ => fun
  | [d1, d2, d3, d4] => { results := [.lit (.bool true)], args := [d1, d2, d3, d4] }
  | _ => none }
def keyAllRow : OpenClaim := { program := "ytnlnojicpchmiaadoor", sum := "b8bc79a03cdcb391d9e8d71e3212c15c5882f4f8a77abbb0dae5d37474b6c137", func := "granary/granarylaw07.KeyAll", spec := "keyAll", inPlace := ["internal/bytealg.CountString", "internal/bytealg.IndexByteString", "internal/bytealg.IndexString", "internal/abi.NoEscape", "internal/bytealg.MakeNoZero"], unfollowed := true, recurses := true, named := ["unicode/utf8.first", "unicode/utf8.acceptRanges", "internal/bytealg.MaxLen"], apart := false, laid := [("unicode/utf8.acceptRanges", laid_unicode_utf8_acceptRanges), ("unicode/utf8.first", laid_unicode_utf8_first)] }
def KeyAllSaid : Prop := keyAllRow.holds Tryd.pinned (OpenSpec.ofChange keyAllSpec)

/-- ITS FALSE NEIGHBOUR: 'it returns false'. Refute it at one input. -/
def keyAllWrong : ChangeSpec := { name := "keyAll", fn := fun _ => fun
  | [d1, d2, d3, d4] => { results := [.lit (.bool false)], args := [d1, d2, d3, d4] }
  | _ => none }
def KeyAllWrongFalsely : Prop := keyAllRow.holds Tryd.pinned (OpenSpec.ofChange keyAllWrong)

/-- 'granarylaw07.KeyBack': WHATEVER THE INPUT: true; the input reads as it did. -/
def keyBackSpec : ChangeSpec := { name := "keyBack", fn := fun _ => fun
  | [d1, d2, d3, d4] => { results := [.lit (.bool true)], args := [d1, d2, d3, d4] }
  | _ => none }
def keyBackRow : OpenClaim := { program := "ytnlnojicpchmiaadoor", sum := "b8bc79a03cdcb391d9e8d71e3212c15c5882f4f8a77abbb0dae5d37474b6c137", func := "granary/granarylaw07.KeyBack", spec := "keyBack", inPlace := ["internal/bytealg.CountString", "internal/bytealg.IndexByteString", "internal/bytealg.IndexString", "internal/abi.NoEscape", "internal/bytealg.MakeNoZero"], unfollowed := true, recurses := true, named := ["unicode/utf8.first", "unicode/utf8.acceptRanges", "internal/bytealg.MaxLen"], apart := false, laid := [("unicode/utf8.acceptRanges", laid_unicode_utf8_acceptRanges), ("unicode/utf8.first", laid_unicode_utf8_first)] }
def KeyBackSaid : Prop := keyBackRow.holds Tryd.pinned (OpenSpec.ofChange keyBackSpec)

/-- ITS FALSE NEIGHBOUR: 'it returns false'. Refute it at one input. -/
def keyBackWrong : ChangeSpec := { name := "keyBack", fn := fun _ => fun
  | [d1, d2, d3, d4] => { results := [.lit (.bool false)], args := [d1, d2, d3, d4] }
  | _ => none }
def KeyBackWrongFalsely : Prop := keyBackRow.holds Tryd.pinned (OpenSpec.ofChange keyBackWrong)

/-- 'granarylaw07.KeyFree': WHATEVER THE INPUT: true; the input reads as it did. -/
def keyFreeSpec : ChangeSpec := { name := "keyFree", fn := fun _ => fun
  | [d1, d2, d3] => { results := [.lit (.bool true)], args := [d1, d2, d3] }
  | _ => none }
def keyFreeRow : OpenClaim := { program := "ytnlnojicpchmiaadoor", sum := "b8bc79a03cdcb391d9e8d71e3212c15c5882f4f8a77abbb0dae5d37474b6c137", func := "granary/granarylaw07.KeyFree", spec := "keyFree", inPlace := ["internal/bytealg.CountString", "internal/bytealg.IndexByteString", "internal/bytealg.IndexString", "internal/abi.NoEscape", "internal/bytealg.MakeNoZero"], unfollowed := true, recurses := true, named := ["unicode/utf8.first", "unicode/utf8.acceptRanges", "internal/bytealg.MaxLen"], apart := false, laid := [("unicode/utf8.acceptRanges", laid_unicode_utf8_acceptRanges), ("unicode/utf8.first", laid_unicode_utf8_first)] }
def KeyFreeSaid : Prop := keyFreeRow.holds Tryd.pinned (OpenSpec.ofChange keyFreeSpec)

/-- ITS FALSE NEIGHBOUR: 'it returns false'. Refute it at one input. -/
def keyFreeWrong : ChangeSpec := { name := "keyFree", fn := fun _ => fun
  | [d1, d2, d3] => { results := [.lit (.bool false)], args := [d1, d2, d3] }
  | _ => none }
def KeyFreeWrongFalsely : Prop := keyFreeRow.holds Tryd.pinned (OpenSpec.ofChange keyFreeWrong)

/-- 'granarylaw07.KeySpans': WHATEVER THE INPUT: true; the input reads as it did. -/
def keySpansSpec : ChangeSpec := { name := "keySpans", fn := fun _ => fun
  | [d1, d2, d3, d4] => { results := [.lit (.bool true)], args := [d1, d2, d3, d4] }
  | _ => none }
def keySpansRow : OpenClaim := { program := "ytnlnojicpchmiaadoor", sum := "b8bc79a03cdcb391d9e8d71e3212c15c5882f4f8a77abbb0dae5d37474b6c137", func := "granary/granarylaw07.KeySpans", spec := "keySpans", inPlace := ["internal/bytealg.CountString", "internal/bytealg.IndexByteString", "internal/bytealg.IndexString", "internal/abi.NoEscape", "internal/bytealg.MakeNoZero"], unfollowed := true, recurses := true, named := ["unicode/utf8.first", "unicode/utf8.acceptRanges", "internal/bytealg.MaxLen"], apart := false, laid := [("unicode/utf8.acceptRanges", laid_unicode_utf8_acceptRanges), ("unicode/utf8.first", laid_unicode_utf8_first)] }
def KeySpansSaid : Prop := keySpansRow.holds Tryd.pinned (OpenSpec.ofChange keySpansSpec)

/-- ITS FALSE NEIGHBOUR: 'it returns false'. Refute it at one input. -/
def keySpansWrong : ChangeSpec := { name := "keySpans", fn := fun _ => fun
  | [d1, d2, d3, d4] => { results := [.lit (.bool false)], args := [d1, d2, d3, d4] }
  | _ => none }
def KeySpansWrongFalsely : Prop := keySpansRow.holds Tryd.pinned (OpenSpec.ofChange keySpansWrong)

/-- 'granarylaw07.KeyUnder': WHATEVER THE INPUT: true; the input reads as it did. -/
def keyUnderSpec : ChangeSpec := { name := "keyUnder", fn := fun _ => fun
  | [d1, d2, d3] => { results := [.lit (.bool true)], args := [d1, d2, d3] }
  | _ => none }
def keyUnderRow : OpenClaim := { program := "ytnlnojicpchmiaadoor", sum := "b8bc79a03cdcb391d9e8d71e3212c15c5882f4f8a77abbb0dae5d37474b6c137", func := "granary/granarylaw07.KeyUnder", spec := "keyUnder", inPlace := ["internal/bytealg.CountString", "internal/bytealg.IndexByteString", "internal/bytealg.IndexString", "internal/abi.NoEscape", "internal/bytealg.MakeNoZero"], unfollowed := true, recurses := true, named := ["unicode/utf8.first", "unicode/utf8.acceptRanges", "internal/bytealg.MaxLen"], apart := false, laid := [("unicode/utf8.acceptRanges", laid_unicode_utf8_acceptRanges), ("unicode/utf8.first", laid_unicode_utf8_first)] }
def KeyUnderSaid : Prop := keyUnderRow.holds Tryd.pinned (OpenSpec.ofChange keyUnderSpec)

/-- ITS FALSE NEIGHBOUR: 'it returns false'. Refute it at one input. -/
def keyUnderWrong : ChangeSpec := { name := "keyUnder", fn := fun _ => fun
  | [d1, d2, d3] => { results := [.lit (.bool false)], args := [d1, d2, d3] }
  | _ => none }
def KeyUnderWrongFalsely : Prop := keyUnderRow.holds Tryd.pinned (OpenSpec.ofChange keyUnderWrong)

/-- 'granarylaw07.KeyOrder': WHATEVER THE INPUT: true; the input reads as it did. -/
def keyOrderSpec : ChangeSpec := { name := "keyOrder", fn := fun _ => fun
  | [d1, d2, d3, d4] => { results := [.lit (.bool true)], args := [d1, d2, d3, d4] }
  | _ => none }
def keyOrderRow : OpenClaim := { program := "ytnlnojicpchmiaadoor", sum := "b8bc79a03cdcb391d9e8d71e3212c15c5882f4f8a77abbb0dae5d37474b6c137", func := "granary/granarylaw07.KeyOrder", spec := "keyOrder", inPlace := ["internal/bytealg.CountString", "internal/bytealg.IndexByteString", "internal/bytealg.IndexString", "internal/abi.NoEscape", "internal/bytealg.MakeNoZero", "internal/bytealg.abigen_runtime_cmpstring"], unfollowed := true, recurses := true, named := ["unicode/utf8.first", "unicode/utf8.acceptRanges", "internal/bytealg.MaxLen"], apart := false, laid := [("unicode/utf8.acceptRanges", laid_unicode_utf8_acceptRanges), ("unicode/utf8.first", laid_unicode_utf8_first)] }
def KeyOrderSaid : Prop := keyOrderRow.holds Tryd.pinned (OpenSpec.ofChange keyOrderSpec)

/-- ITS FALSE NEIGHBOUR: 'it returns false'. Refute it at one input. -/
def keyOrderWrong : ChangeSpec := { name := "keyOrder", fn := fun _ => fun
  | [d1, d2, d3, d4] => { results := [.lit (.bool false)], args := [d1, d2, d3, d4] }
  | _ => none }
def KeyOrderWrongFalsely : Prop := keyOrderRow.holds Tryd.pinned (OpenSpec.ofChange keyOrderWrong)

/- THE SECOND FORM. 'bulk': how many values and letters a reading holds, each counted each time it is reached (what is shared counts as often as it is met; a slice's spare places count too). A statement '..UptoSaid' is the law's where the arguments, and the package variables that the reading takes, are together of bulk at most 1048576: NARROWER than '..Said'. Prove '..Said' where nothing that the law and all that it calls make is longer than what came in: it says more and counts as full. Else prove '..UptoSaid'. A law counts once. -/
mutual
def uptoBulk {H : Type} : DataW H → Nat
  | .lit (.string bytes) => bytes.length + 1
  | .lit _ => 1
  | .nil => 1
  | .ptr d => uptoBulk d + 1
  | .slice elems spare => uptoBulkAll elems + uptoBulkAll spare + 1
  | .agg parts => uptoBulkAll parts + 1
  | .iface _ d => uptoBulk d + 1
  | .map entries => uptoBulkEntries entries + 1
  | .held _ => 1
def uptoBulkAll {H : Type} : List (DataW H) → Nat
  | [] => 0
  | d :: r => uptoBulk d + uptoBulkAll r
def uptoBulkEntries {H : Type} : List (Lit × DataW H) → Nat
  | [] => 0
  | x :: r => uptoBulkEntry x + uptoBulkEntries r
def uptoBulkEntry {H : Type} : Lit × DataW H → Nat
  | (.string bytes, d) => bytes.length + uptoBulk d + 1
  | (_, d) => uptoBulk d + 1
 end
def uptoSmall : (H : Type) → List (DataW H) → Bool := fun _ ds => decide (uptoBulkAll ds ≤ 1048576)
def OpenSpec.upto (s : _root_.Go.ChangeSpec) : _root_.Go.OpenSpec := { _root_.Go.OpenSpec.ofChange s with cond := some uptoSmall }

/-- 'granarylaw07.KeyAll', WHERE WHAT IT READS IS OF BULK AT MOST 1048576: true; the input reads as it did. -/
def keyAllUptoRow : OpenClaim := { program := "ytnlnojicpchmiaadoor", sum := "b8bc79a03cdcb391d9e8d71e3212c15c5882f4f8a77abbb0dae5d37474b6c137", func := "granary/granarylaw07.KeyAll", spec := "keyAll", inPlace := ["internal/bytealg.CountString", "internal/bytealg.IndexByteString", "internal/bytealg.IndexString", "internal/abi.NoEscape", "internal/bytealg.MakeNoZero"], unfollowed := true, recurses := true, named := ["unicode/utf8.first", "unicode/utf8.acceptRanges", "internal/bytealg.MaxLen"], apart := false, laid := [("unicode/utf8.acceptRanges", laid_unicode_utf8_acceptRanges), ("unicode/utf8.first", laid_unicode_utf8_first)], narrowed := true }
def KeyAllUptoSaid : Prop := keyAllUptoRow.holds Tryd.pinned (OpenSpec.upto keyAllSpec)

/-- 'granarylaw07.KeyBack', WHERE WHAT IT READS IS OF BULK AT MOST 1048576: true; the input reads as it did. -/
def keyBackUptoRow : OpenClaim := { program := "ytnlnojicpchmiaadoor", sum := "b8bc79a03cdcb391d9e8d71e3212c15c5882f4f8a77abbb0dae5d37474b6c137", func := "granary/granarylaw07.KeyBack", spec := "keyBack", inPlace := ["internal/bytealg.CountString", "internal/bytealg.IndexByteString", "internal/bytealg.IndexString", "internal/abi.NoEscape", "internal/bytealg.MakeNoZero"], unfollowed := true, recurses := true, named := ["unicode/utf8.first", "unicode/utf8.acceptRanges", "internal/bytealg.MaxLen"], apart := false, laid := [("unicode/utf8.acceptRanges", laid_unicode_utf8_acceptRanges), ("unicode/utf8.first", laid_unicode_utf8_first)], narrowed := true }
def KeyBackUptoSaid : Prop := keyBackUptoRow.holds Tryd.pinned (OpenSpec.upto keyBackSpec)

/-- 'granarylaw07.KeyFree', WHERE WHAT IT READS IS OF BULK AT MOST 1048576: true; the input reads as it did. -/
def keyFreeUptoRow : OpenClaim := { program := "ytnlnojicpchmiaadoor", sum := "b8bc79a03cdcb391d9e8d71e3212c15c5882f4f8a77abbb0dae5d37474b6c137", func := "granary/granarylaw07.KeyFree", spec := "keyFree", inPlace := ["internal/bytealg.CountString", "internal/bytealg.IndexByteString", "internal/bytealg.IndexString", "internal/abi.NoEscape", "internal/bytealg.MakeNoZero"], unfollowed := true, recurses := true, named := ["unicode/utf8.first", "unicode/utf8.acceptRanges", "internal/bytealg.MaxLen"], apart := false, laid := [("unicode/utf8.acceptRanges", laid_unicode_utf8_acceptRanges), ("unicode/utf8.first", laid_unicode_utf8_first)], narrowed := true }
def KeyFreeUptoSaid : Prop := keyFreeUptoRow.holds Tryd.pinned (OpenSpec.upto keyFreeSpec)

/-- 'granarylaw07.KeySpans', WHERE WHAT IT READS IS OF BULK AT MOST 1048576: true; the input reads as it did. -/
def keySpansUptoRow : OpenClaim := { program := "ytnlnojicpchmiaadoor", sum := "b8bc79a03cdcb391d9e8d71e3212c15c5882f4f8a77abbb0dae5d37474b6c137", func := "granary/granarylaw07.KeySpans", spec := "keySpans", inPlace := ["internal/bytealg.CountString", "internal/bytealg.IndexByteString", "internal/bytealg.IndexString", "internal/abi.NoEscape", "internal/bytealg.MakeNoZero"], unfollowed := true, recurses := true, named := ["unicode/utf8.first", "unicode/utf8.acceptRanges", "internal/bytealg.MaxLen"], apart := false, laid := [("unicode/utf8.acceptRanges", laid_unicode_utf8_acceptRanges), ("unicode/utf8.first", laid_unicode_utf8_first)], narrowed := true }
def KeySpansUptoSaid : Prop := keySpansUptoRow.holds Tryd.pinned (OpenSpec.upto keySpansSpec)

/-- 'granarylaw07.KeyUnder', WHERE WHAT IT READS IS OF BULK AT MOST 1048576: true; the input reads as it did. -/
def keyUnderUptoRow : OpenClaim := { program := "ytnlnojicpchmiaadoor", sum := "b8bc79a03cdcb391d9e8d71e3212c15c5882f4f8a77abbb0dae5d37474b6c137", func := "granary/granarylaw07.KeyUnder", spec := "keyUnder", inPlace := ["internal/bytealg.CountString", "internal/bytealg.IndexByteString", "internal/bytealg.IndexString", "internal/abi.NoEscape", "internal/bytealg.MakeNoZero"], unfollowed := true, recurses := true, named := ["unicode/utf8.first", "unicode/utf8.acceptRanges", "internal/bytealg.MaxLen"], apart := false, laid := [("unicode/utf8.acceptRanges", laid_unicode_utf8_acceptRanges), ("unicode/utf8.first", laid_unicode_utf8_first)], narrowed := true }
def KeyUnderUptoSaid : Prop := keyUnderUptoRow.holds Tryd.pinned (OpenSpec.upto keyUnderSpec)

/-- 'granarylaw07.KeyOrder', WHERE WHAT IT READS IS OF BULK AT MOST 1048576: true; the input reads as it did. -/
def keyOrderUptoRow : OpenClaim := { program := "ytnlnojicpchmiaadoor", sum := "b8bc79a03cdcb391d9e8d71e3212c15c5882f4f8a77abbb0dae5d37474b6c137", func := "granary/granarylaw07.KeyOrder", spec := "keyOrder", inPlace := ["internal/bytealg.CountString", "internal/bytealg.IndexByteString", "internal/bytealg.IndexString", "internal/abi.NoEscape", "internal/bytealg.MakeNoZero", "internal/bytealg.abigen_runtime_cmpstring"], unfollowed := true, recurses := true, named := ["unicode/utf8.first", "unicode/utf8.acceptRanges", "internal/bytealg.MaxLen"], apart := false, laid := [("unicode/utf8.acceptRanges", laid_unicode_utf8_acceptRanges), ("unicode/utf8.first", laid_unicode_utf8_first)], narrowed := true }
def KeyOrderUptoSaid : Prop := keyOrderUptoRow.holds Tryd.pinned (OpenSpec.upto keyOrderSpec)

end Rows
end Go.Proofs.YtnlnojicpchmiaaDoor
