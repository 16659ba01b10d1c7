/- Part of the proof of a law: plain data. -/
import Derived.Test.YtiipocnfifahpaaGreatDoorGwArr
import Derived.Test.YtiipocnfifahpaaGreatDoorGwPlain
namespace Lv
open Go
set_option linter.unusedVariables false
set_option linter.unusedSimpArgs false
set_option linter.unusedSectionVars false
set_option maxRecDepth 100000
variable [BaseTab]
structure ApiValue where
 Kind : Int
 N : UInt64
 S : List UInt8
deriving DecidableEq, Inhabited
abbrev eApiValue (x : ApiValue) : D := .agg [eI x.Kind, eU64 x.N, eS x.S]
structure ApiColumn where
 Name : List UInt8
 Kind : Int
 Max : Int
 Nulls : Bool
 Default : ApiValue
deriving DecidableEq, Inhabited
abbrev eApiColumn (x : ApiColumn) : D := .agg [eS x.Name, eI x.Kind, eI x.Max, eB x.Nulls, eI x.Default.Kind, eU64 x.Default.N, eS x.Default.S]
structure PredNode where
 Kind : Int
 Col : Int
 Op : Int
 Val : ApiValue
deriving DecidableEq, Inhabited
abbrev ePredNode (x : PredNode) : D := .agg [eI x.Kind, eI x.Col, eI x.Op, eI x.Val.Kind, eU64 x.Val.N, eS x.Val.S]
structure ApiPart where
 Col : Int
 Down : Bool
deriving DecidableEq, Inhabited
abbrev eApiPart (x : ApiPart) : D := .agg [eI x.Col, eB x.Down]
structure ApiSpan where
 Lo : List UInt8
 Hi : List UInt8
 Open : Bool
deriving DecidableEq, Inhabited
abbrev eApiSpan (x : ApiSpan) : D := .agg [eS x.Lo, eS x.Hi, eB x.Open]
def eqApiValue (x y : ApiValue) : Bool := (x.Kind == y.Kind && (x.N == y.N && (x.S == y.S && true)))
def eqPredNode (x y : PredNode) : Bool := (x.Kind == y.Kind && (x.Col == y.Col && (x.Op == y.Op && (eqApiValue x.Val y.Val && true))))
end Lv
