/- Part of the proof of a law: plain data. -/
import Derived.Test.YtihhhgaaagefgaaDoorGwDel
import Derived.Test.YtihhhgaaagefgaaDoorGwPlain
namespace Lv
open Go
set_option linter.unusedVariables false
set_option linter.unusedSimpArgs false
set_option linter.unusedSectionVars false
set_option maxRecDepth 100000
variable [BaseTab]
structure ApiValue where
 Kind : Int
 N : UInt64
 S : List UInt8
deriving DecidableEq, Inhabited
abbrev eApiValue (x : ApiValue) : D := .agg [eI x.Kind, eU64 x.N, eS x.S]
def eqApiValue (x y : ApiValue) : Bool := (x.Kind == y.Kind && (x.N == y.N && (x.S == y.S && true)))
structure ApiColumn where
 Name : List UInt8
 Kind : Int
 Max : Int
 Nulls : Bool
 Default : ApiValue
deriving DecidableEq, Inhabited
abbrev eApiColumn (x : ApiColumn) : D := .agg [eS x.Name, eI x.Kind, eI x.Max, eB x.Nulls, eI x.Default.Kind, eU64 x.Default.N, eS x.Default.S]
end Lv
