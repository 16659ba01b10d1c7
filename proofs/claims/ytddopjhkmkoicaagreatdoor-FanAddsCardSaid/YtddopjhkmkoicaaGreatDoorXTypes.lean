/- Part of the proof of a law: plain data. -/
import Derived.Test.YtddopjhkmkoicaaGreatDoorGwIface
import Derived.Test.YtddopjhkmkoicaaGreatDoorGwPlain
namespace Lv
open Go
set_option linter.unusedVariables false
set_option linter.unusedSimpArgs false
set_option linter.unusedSectionVars false
set_option maxRecDepth 100000
variable [BaseTab]
structure ApiValue where
 Kind : Int
 N : UInt64
 S : List UInt8
deriving DecidableEq, Inhabited
abbrev eApiValue (x : ApiValue) : D := .agg [eI x.Kind, eU64 x.N, eS x.S]
structure ApiColumn where
 Name : List UInt8
 Kind : Int
 Max : Int
 xL : Bool
 Default : ApiValue
deriving DecidableEq, Inhabited
abbrev eApiColumn (x : ApiColumn) : D := .agg [eS x.Name, eI x.Kind, eI x.Max, eB x.xL, eI x.Default.Kind, eU64 x.Default.N, eS x.Default.S]
structure ApiPart where
 Col : Int
 Down : Bool
deriving DecidableEq, Inhabited
abbrev eApiPart (x : ApiPart) : D := .agg [eI x.Col, eB x.Down]
structure ApiIndex where
 Name : List UInt8
 Parts : List ApiPart
 Extra : List Int
 Unique : Bool
 Ready : Bool
 Tree : Int
deriving DecidableEq, Inhabited
abbrev eApiIndex (x : ApiIndex) : D := .agg [eS x.Name, (eL 2 eApiPart) x.Parts, (eL 1 eI) x.Extra, eB x.Unique, eB x.Ready, eI x.Tree]
structure ApiTable where
 Name : List UInt8
 bq : List ApiColumn
 bB : List Int
 aY : List ApiIndex
 Tree : Int
deriving DecidableEq, Inhabited
abbrev eApiTable (x : ApiTable) : D := .agg [eS x.Name, (eL 7 eApiColumn) x.bq, (eL 1 eI) x.bB, (eL 6 eApiIndex) x.aY, eI x.Tree]
structure FanBuilt where
 Key : List UInt8
 Any : Bool
deriving DecidableEq, Inhabited
abbrev eFanBuilt (x : FanBuilt) : D := .agg [eS x.Key, eB x.Any]
def eG (x y : ApiValue) : Bool := (x.Kind == y.Kind && (x.N == y.N && (x.S == y.S && true)))
structure iY where
 row : List ApiValue
 primary : List UInt8
deriving DecidableEq, Inhabited
abbrev aC (x : iY) : D := .agg [(eL 3 eApiValue) x.row, eS x.primary]
structure aU where
 Lo : List UInt8
 Hi : List UInt8
 Open : Bool
deriving DecidableEq, Inhabited
abbrev eZ (x : aU) : D := .agg [eS x.Lo, eS x.Hi, eB x.Open]
structure ay where
 Space : Int
 Span : aU
 Own : Bool
deriving DecidableEq, Inhabited
abbrev aK (x : ay) : D := .agg [eI x.Space, eS x.Span.Lo, eS x.Span.Hi, eB x.Span.Open, eB x.Own]
structure bL where
 Seq : UInt64
 Kind : Int
 Key : List UInt8
 A9 : UInt64
 Val : List UInt8
 Off : Int
 Num : UInt64
deriving DecidableEq, Inhabited
abbrev bX (x : bL) : D := .agg [eU64 x.Seq, eI x.Kind, eS x.Key, eU64 x.A9, eS x.Val, eI x.Off, eU64 x.Num]
structure au where
 Kind : Int
 Tree : Int
 zw : bL
deriving DecidableEq, Inhabited
abbrev aJ (x : au) : D := .agg [eI x.Kind, eI x.Tree, eU64 x.zw.Seq, eI x.zw.Kind, eS x.zw.Key, eU64 x.zw.A9, eS x.zw.Val, eI x.zw.Off, eU64 x.zw.Num]
structure dN where
 Key : List UInt8
 Val : List UInt8
deriving DecidableEq, Inhabited
abbrev bG (x : dN) : D := .agg [eS x.Key, eS x.Val]
def o8 (x y : dN) : Bool := (x.Key == y.Key && (x.Val == y.Val && true))
structure aX where
 Tree : Int
 Span : aU
deriving DecidableEq, Inhabited
abbrev bg (x : aX) : D := .agg [eI x.Tree, eS x.Span.Lo, eS x.Span.Hi, eB x.Span.Open]
structure aM where
 Kind : Int
 Tree : Int
 zw : bL
deriving DecidableEq, Inhabited
abbrev bI (x : aM) : D := .agg [eI x.Kind, eI x.Tree, eU64 x.zw.Seq, eI x.zw.Kind, eS x.zw.Key, eU64 x.zw.A9, eS x.zw.Val, eI x.zw.Off, eU64 x.zw.Num]
structure zx where
 Td : List au
 Locks : List ay
 uV : List aX
deriving DecidableEq, Inhabited
abbrev qy (x : zx) : D := .agg [(eL 9 aJ) x.Td, (eL 5 aK) x.Locks, (eL 4 bg) x.uV]
structure gW where
 Tree : Int
 Span : aU
deriving DecidableEq, Inhabited
abbrev AP (x : gW) : D := .agg [eI x.Tree, eS x.Span.Lo, eS x.Span.Hi, eB x.Span.Open]
structure iE where
 Td : List aM
 Locks : List ay
 uV : List gW
deriving DecidableEq, Inhabited
abbrev fC (x : iE) : D := .agg [(eL 9 bI) x.Td, (eL 5 aK) x.Locks, (eL 4 AP) x.uV]
def lS (x y : aU) : Bool := (x.Lo == y.Lo && (x.Hi == y.Hi && (x.Open == y.Open && true)))
def nE (x y : ay) : Bool := (x.Space == y.Space && (lS x.Span y.Span && (x.Own == y.Own && true)))
def sN (x y : bL) : Bool := (x.Seq == y.Seq && (x.Kind == y.Kind && (x.Key == y.Key && (x.A9 == y.A9 && (x.Val == y.Val && (x.Off == y.Off && (x.Num == y.Num && true)))))))
structure aW where
 Key : List UInt8
 Has : Bool
 Val : List UInt8
 A9 : UInt64
 New : Bool
 jg : List UInt8
deriving DecidableEq, Inhabited
abbrev aO (x : aW) : D := .agg [eS x.Key, eB x.Has, eS x.Val, eU64 x.A9, eB x.New, eS x.jg]
structure aB where
 has : Bool
 s : List UInt8
deriving DecidableEq, Inhabited
abbrev aH (x : aB) : D := .agg [eB x.has, eS x.s]
end Lv
