/- Part of the proof of a law: plain data. -/
import Derived.Test.YtnlnojicpchmiaaDoorGwMore
namespace Lv
open Go
set_option linter.unusedVariables false
set_option linter.unusedSimpArgs false
set_option linter.unusedSectionVars false
set_option maxRecDepth 100000
variable [BaseTab]
structure ApiValue where
  Kind : Int
  N : UInt64
  S : List UInt8
deriving DecidableEq, Inhabited
abbrev eApiValue (x : ApiValue) : D := .agg [eI x.Kind, eU64 x.N, eS x.S]
def eqApiValue (x y : ApiValue) : Bool := (x.Kind == y.Kind && (x.N == y.N && (x.S == y.S && true)))
structure ApiSpan where
  Lo : List UInt8
  Hi : List UInt8
  Open : Bool
deriving DecidableEq, Inhabited
abbrev eApiSpan (x : ApiSpan) : D := .agg [eS x.Lo, eS x.Hi, eB x.Open]
end Lv
