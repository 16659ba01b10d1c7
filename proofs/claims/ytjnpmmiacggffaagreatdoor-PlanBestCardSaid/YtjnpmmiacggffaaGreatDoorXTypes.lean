/- Part of the proof of a law: plain data. -/
import Derived.Test.YtjnpmmiacggffaaGreatDoorGwIface
import Derived.Test.YtjnpmmiacggffaaGreatDoorGwPlain
namespace Lv
open Go
set_option linter.unusedVariables false
set_option linter.unusedSimpArgs false
set_option linter.unusedSectionVars false
set_option maxRecDepth 100000
variable [BaseTab]
structure ApiValue where
 Kind : Int
 N : UInt64
 S : List UInt8
deriving DecidableEq, Inhabited
abbrev eApiValue (x : ApiValue) : D := .agg [eI x.Kind, eU64 x.N, eS x.S]
structure ApiColumn where
 Name : List UInt8
 Kind : Int
 Max : Int
 Nulls : Bool
 Default : ApiValue
deriving DecidableEq, Inhabited
abbrev eApiColumn (x : ApiColumn) : D := .agg [eS x.Name, eI x.Kind, eI x.Max, eB x.Nulls, eI x.Default.Kind, eU64 x.Default.N, eS x.Default.S]
structure ApiPart where
 Col : Int
 Down : Bool
deriving DecidableEq, Inhabited
abbrev eApiPart (x : ApiPart) : D := .agg [eI x.Col, eB x.Down]
structure ApiIndex where
 Name : List UInt8
 Parts : List ApiPart
 Extra : List Int
 Unique : Bool
 Ready : Bool
 Tree : Int
deriving DecidableEq, Inhabited
abbrev eApiIndex (x : ApiIndex) : D := .agg [eS x.Name, (eL 2 eApiPart) x.Parts, (eL 1 eI) x.Extra, eB x.Unique, eB x.Ready, eI x.Tree]
structure PredNode where
 Kind : Int
 Col : Int
 Op : Int
 Val : ApiValue
deriving DecidableEq, Inhabited
abbrev ePredNode (x : PredNode) : D := .agg [eI x.Kind, eI x.Col, eI x.Op, eI x.Val.Kind, eU64 x.Val.N, eS x.Val.S]
structure ApiTable where
 Name : List UInt8
 Cols : List ApiColumn
 Primary : List Int
 Indexes : List ApiIndex
 Tree : Int
deriving DecidableEq, Inhabited
abbrev eApiTable (x : ApiTable) : D := .agg [eS x.Name, (eL 7 eApiColumn) x.Cols, (eL 1 eI) x.Primary, (eL 6 eApiIndex) x.Indexes, eI x.Tree]
structure PlanQuery where
 Pred : List PredNode
 Cols : List Int
 Order : List ApiPart
 Limit : Int
deriving DecidableEq, Inhabited
abbrev ePlanQuery (x : PlanQuery) : D := .agg [(eL 6 ePredNode) x.Pred, (eL 1 eI) x.Cols, (eL 2 eApiPart) x.Order, eI x.Limit]
structure ApiSpan where
 Lo : List UInt8
 Hi : List UInt8
 Open : Bool
deriving DecidableEq, Inhabited
abbrev eApiSpan (x : ApiSpan) : D := .agg [eS x.Lo, eS x.Hi, eB x.Open]
structure PlanPlan where
 Index : Int
 Span : ApiSpan
 Fixed : Int
 Bounded : Bool
 Covers : Bool
 Cost : Int
deriving DecidableEq, Inhabited
abbrev ePlanPlan (x : PlanPlan) : D := .agg [eI x.Index, eS x.Span.Lo, eS x.Span.Hi, eB x.Span.Open, eI x.Fixed, eB x.Bounded, eB x.Covers, eI x.Cost]
def eqApiValue (x y : ApiValue) : Bool := (x.Kind == y.Kind && (x.N == y.N && (x.S == y.S && true)))
def eqPredNode (x y : PredNode) : Bool := (x.Kind == y.Kind && (x.Col == y.Col && (x.Op == y.Op && (eqApiValue x.Val y.Val && true))))
end Lv
