/- Part of the proof of a law: plain data. -/
import Derived.Test.YtddopjhkmkoicaaGreatDoorGwIface
import Derived.Test.YtddopjhkmkoicaaGreatDoorGwPlain
namespace Lv
open Go
set_option linter.unusedVariables false
set_option linter.unusedSimpArgs false
set_option linter.unusedSectionVars false
set_option maxRecDepth 100000
variable [BaseTab]
structure ApiValue where
 Kind : Int
 N : UInt64
 S : List UInt8
deriving DecidableEq, Inhabited
abbrev eApiValue (x : ApiValue) : D := .agg [eI x.Kind, eU64 x.N, eS x.S]
structure ApiColumn where
 Name : List UInt8
 Kind : Int
 Max : Int
 Nulls : Bool
 Default : ApiValue
deriving DecidableEq, Inhabited
abbrev eApiColumn (x : ApiColumn) : D := .agg [eS x.Name, eI x.Kind, eI x.Max, eB x.Nulls, eI x.Default.Kind, eU64 x.Default.N, eS x.Default.S]
structure ApiPart where
 Col : Int
 Down : Bool
deriving DecidableEq, Inhabited
abbrev eApiPart (x : ApiPart) : D := .agg [eI x.Col, eB x.Down]
structure ApiIndex where
 Name : List UInt8
 Parts : List ApiPart
 Extra : List Int
 Unique : Bool
 Ready : Bool
 Tree : Int
deriving DecidableEq, Inhabited
abbrev eApiIndex (x : ApiIndex) : D := .agg [eS x.Name, (eL 2 eApiPart) x.Parts, (eL 1 eI) x.Extra, eB x.Unique, eB x.Ready, eI x.Tree]
structure ApiTable where
 Name : List UInt8
 Cols : List ApiColumn
 Primary : List Int
 Indexes : List ApiIndex
 Tree : Int
deriving DecidableEq, Inhabited
abbrev eApiTable (x : ApiTable) : D := .agg [eS x.Name, (eL 7 eApiColumn) x.Cols, (eL 1 eI) x.Primary, (eL 6 eApiIndex) x.Indexes, eI x.Tree]
structure FanBuilt where
 Key : List UInt8
 Any : Bool
deriving DecidableEq, Inhabited
abbrev eFanBuilt (x : FanBuilt) : D := .agg [eS x.Key, eB x.Any]
def eqApiValue (x y : ApiValue) : Bool := (x.Kind == y.Kind && (x.N == y.N && (x.S == y.S && true)))
structure FanSide where
 row : List ApiValue
 primary : List UInt8
deriving DecidableEq, Inhabited
abbrev eFanSide (x : FanSide) : D := .agg [(eL 3 eApiValue) x.row, eS x.primary]
structure ApiSpan where
 Lo : List UInt8
 Hi : List UInt8
 Open : Bool
deriving DecidableEq, Inhabited
abbrev eApiSpan (x : ApiSpan) : D := .agg [eS x.Lo, eS x.Hi, eB x.Open]
structure ApiLock where
 Space : Int
 Span : ApiSpan
 Own : Bool
deriving DecidableEq, Inhabited
abbrev eApiLock (x : ApiLock) : D := .agg [eI x.Space, eS x.Span.Lo, eS x.Span.Hi, eB x.Span.Open, eB x.Own]
structure ApiMsg where
 Seq : UInt64
 Kind : Int
 Key : List UInt8
 Txn : UInt64
 Val : List UInt8
 Off : Int
 Num : UInt64
deriving DecidableEq, Inhabited
abbrev eApiMsg (x : ApiMsg) : D := .agg [eU64 x.Seq, eI x.Kind, eS x.Key, eU64 x.Txn, eS x.Val, eI x.Off, eU64 x.Num]
structure ForestOp where
 Kind : Int
 Tree : Int
 Msg : ApiMsg
deriving DecidableEq, Inhabited
abbrev eForestOp (x : ForestOp) : D := .agg [eI x.Kind, eI x.Tree, eU64 x.Msg.Seq, eI x.Msg.Kind, eS x.Msg.Key, eU64 x.Msg.Txn, eS x.Msg.Val, eI x.Msg.Off, eU64 x.Msg.Num]
structure ApiPair where
 Key : List UInt8
 Val : List UInt8
deriving DecidableEq, Inhabited
abbrev eApiPair (x : ApiPair) : D := .agg [eS x.Key, eS x.Val]
def eqApiPair (x y : ApiPair) : Bool := (x.Key == y.Key && (x.Val == y.Val && true))
structure FanProbe where
 Tree : Int
 Span : ApiSpan
deriving DecidableEq, Inhabited
abbrev eFanProbe (x : FanProbe) : D := .agg [eI x.Tree, eS x.Span.Lo, eS x.Span.Hi, eB x.Span.Open]
def eqApiSpan (x y : ApiSpan) : Bool := (x.Lo == y.Lo && (x.Hi == y.Hi && (x.Open == y.Open && true)))
structure Granaryref19Built where
 Key : List UInt8
 Any : Bool
deriving DecidableEq, Inhabited
abbrev eGranaryref19Built (x : Granaryref19Built) : D := .agg [eS x.Key, eB x.Any]
structure Granaryref14Op where
 Kind : Int
 Tree : Int
 Msg : ApiMsg
deriving DecidableEq, Inhabited
abbrev eGranaryref14Op (x : Granaryref14Op) : D := .agg [eI x.Kind, eI x.Tree, eU64 x.Msg.Seq, eI x.Msg.Kind, eS x.Msg.Key, eU64 x.Msg.Txn, eS x.Msg.Val, eI x.Msg.Off, eU64 x.Msg.Num]
structure Granaryref19Probe where
 Tree : Int
 Span : ApiSpan
deriving DecidableEq, Inhabited
abbrev eGranaryref19Probe (x : Granaryref19Probe) : D := .agg [eI x.Tree, eS x.Span.Lo, eS x.Span.Hi, eB x.Span.Open]
structure FanWork where
 Ops : List ForestOp
 Locks : List ApiLock
 Probes : List FanProbe
deriving DecidableEq, Inhabited
abbrev eFanWork (x : FanWork) : D := .agg [(eL 9 eForestOp) x.Ops, (eL 5 eApiLock) x.Locks, (eL 4 eFanProbe) x.Probes]
structure Granaryref19Work where
 Ops : List Granaryref14Op
 Locks : List ApiLock
 Probes : List Granaryref19Probe
deriving DecidableEq, Inhabited
abbrev eGranaryref19Work (x : Granaryref19Work) : D := .agg [(eL 9 eGranaryref14Op) x.Ops, (eL 5 eApiLock) x.Locks, (eL 4 eGranaryref19Probe) x.Probes]
def eqApiLock (x y : ApiLock) : Bool := (x.Space == y.Space && (eqApiSpan x.Span y.Span && (x.Own == y.Own && true)))
def eqApiMsg (x y : ApiMsg) : Bool := (x.Seq == y.Seq && (x.Kind == y.Kind && (x.Key == y.Key && (x.Txn == y.Txn && (x.Val == y.Val && (x.Off == y.Off && (x.Num == y.Num && true)))))))
def eqApiColumn (x y : ApiColumn) : Bool := (x.Name == y.Name && (x.Kind == y.Kind && (x.Max == y.Max && (x.Nulls == y.Nulls && (eqApiValue x.Default y.Default && true)))))
def eqApiPart (x y : ApiPart) : Bool := (x.Col == y.Col && (x.Down == y.Down && true))
end Lv
