/- Part of the proof of a law: plain data. -/
import Derived.Test.YtjnpmmiacggffaaGreatDoorGwIface
import Derived.Test.YtjnpmmiacggffaaGreatDoorGwPlain
namespace Lv
open Go
set_option linter.unusedVariables false
set_option linter.unusedSimpArgs false
set_option linter.unusedSectionVars false
set_option maxRecDepth 100000
variable [bJ]
structure ak where
 Kind : Int
 N : UInt64
 S : List UInt8
deriving DecidableEq, Inhabited
abbrev bA (x : ak) : D := .agg [eI x.Kind, jM x.N, eS x.S]
structure aB where
 Name : List UInt8
 Kind : Int
 Max : Int
 vN : Bool
 Default : ak
deriving DecidableEq, Inhabited
abbrev bI (x : aB) : D := .agg [eS x.Name, eI x.Kind, eI x.Max, eB x.vN, eI x.Default.Kind, jM x.Default.N, eS x.Default.S]
structure aI where
 Col : Int
 Down : Bool
deriving DecidableEq, Inhabited
abbrev aR (x : aI) : D := .agg [eI x.Col, eB x.Down]
structure bE where
 Name : List UInt8
 Parts : List aI
 Extra : List Int
 Unique : Bool
 Ready : Bool
 Tree : Int
deriving DecidableEq, Inhabited
abbrev bH (x : bE) : D := .agg [eS x.Name, (eL 2 aR) x.Parts, (eL 1 eI) x.Extra, eB x.Unique, eB x.Ready, eI x.Tree]
structure aP where
 Name : List UInt8
 aV : List aB
 aH : List Int
 bn : List bE
 Tree : Int
deriving DecidableEq, Inhabited
abbrev aK (x : aP) : D := .agg [eS x.Name, (eL 7 bI) x.aV, (eL 1 eI) x.aH, (eL 6 bH) x.bn, eI x.Tree]
structure aA where
 Kind : Int
 Col : Int
 Op : Int
 Val : ak
deriving DecidableEq, Inhabited
abbrev aU (x : aA) : D := .agg [eI x.Kind, eI x.Col, eI x.Op, eI x.Val.Kind, jM x.Val.N, eS x.Val.S]
structure bP where
 Pred : List aA
 aV : List Int
 Order : List aI
 Limit : Int
deriving DecidableEq, Inhabited
abbrev bY (x : bP) : D := .agg [(eL 6 aU) x.Pred, (eL 1 eI) x.aV, (eL 2 aR) x.Order, eI x.Limit]
structure aW where
 Lo : List UInt8
 Hi : List UInt8
 Open : Bool
deriving DecidableEq, Inhabited
abbrev bB (x : aW) : D := .agg [eS x.Lo, eS x.Hi, eB x.Open]
structure aG where
 Index : Int
 Span : aW
 Fixed : Int
 Bounded : Bool
 Covers : Bool
 jL : Int
deriving DecidableEq, Inhabited
abbrev aQ (x : aG) : D := .agg [eI x.Index, eS x.Span.Lo, eS x.Span.Hi, eB x.Span.Open, eI x.Fixed, eB x.Bounded, eB x.Covers, eI x.jL]
def dw (x y : ak) : Bool := (x.Kind == y.Kind && (x.N == y.N && (x.S == y.S && true)))
def oD (x y : aA) : Bool := (x.Kind == y.Kind && (x.Col == y.Col && (x.Op == y.Op && (dw x.Val y.Val && true))))
structure bq where
 Kind : Int
 Col : Int
 Op : Int
 Val : ak
deriving DecidableEq, Inhabited
abbrev au (x : bq) : D := .agg [eI x.Kind, eI x.Col, eI x.Op, eI x.Val.Kind, jM x.Val.N, eS x.Val.S]
structure bT where
 Pred : List bq
 aV : List Int
 Order : List aI
 Limit : Int
deriving DecidableEq, Inhabited
abbrev bK (x : bT) : D := .agg [(eL 6 au) x.Pred, (eL 1 eI) x.aV, (eL 2 aR) x.Order, eI x.Limit]
structure aD where
 Index : Int
 Span : aW
 Fixed : Int
 Bounded : Bool
 Covers : Bool
 jL : Int
deriving DecidableEq, Inhabited
abbrev aL (x : aD) : D := .agg [eI x.Index, eS x.Span.Lo, eS x.Span.Hi, eB x.Span.Open, eI x.Fixed, eB x.Bounded, eB x.Covers, eI x.jL]
def kg (x y : aB) : Bool := (x.Name == y.Name && (x.Kind == y.Kind && (x.Max == y.Max && (x.vN == y.vN && (dw x.Default y.Default && true)))))
def oU (x y : aI) : Bool := (x.Col == y.Col && (x.Down == y.Down && true))
def FV (x y : aW) : Bool := (x.Lo == y.Lo && (x.Hi == y.Hi && (x.Open == y.Open && true)))
def gJ (x y : aD) : Bool := (x.Index == y.Index && (FV x.Span y.Span && (x.Fixed == y.Fixed && (x.Bounded == y.Bounded && (x.Covers == y.Covers && (x.jL == y.jL && true))))))
end Lv
