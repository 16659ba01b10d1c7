/- A deterministic evaluator of Go code over abstract values and memory. -/
import Derived.Test.YtddopjhkmkoicaaGreatDoorLvBase
/- A deterministic evaluator of Go code over abstract values and memory. -/
namespace Lv
open Go
set_option linter.unusedVariables false
set_option linter.unusedSimpArgs false
def pr (P : Program) {α : Type} : Sem α → Option α
 | .pure a => some a
 | .program k => pr P (k P)
 | .mark _ k => pr P k
 | _ => none
theorem Gx {P : Program} {α : Type} {s : Sem α} {a : α} (h : pr P s = some a) (w : World) : s.run P w = .ok a w := by
 induction s with
 | pure x => simp only [pr, Option.some.injEq] at h; subst h; rfl
 | program k ih => exact ih _ h
 | mark m k ih => exact ih h
 | _ => simp [pr] at h
def D.cval : D → Option Value
 | .int k n => some (.int k n)
 | .bool b => some (.bool b)
 | .str s => some (.string s)
 | .Dt => some (.pointer none)
 | .aA => some (.slice none 0 0)
 | .MC => some (.map none)
 | .MF => some .nilFunc
 | .ME => some .nilIface
 | _ => none
def Ng : List D → Option (List Value)
 | [] => some []
 | x :: r => match x.cval, Ng r with
  | some v, some vs => some (v :: vs)
  | _, _ => none
def D.val : D → Option Value
 | .agg cs => match Ng cs with
  | some vs => some (.agg vs.toArray)
  | none => none
 | x => x.cval
def Ku : Value → Option D
 | .int k n => some (.int k n)
 | .bool b => some (.bool b)
 | .string s => some (.str s)
 | .pointer none => some .Dt
 | .slice none 0 0 => some .aA
 | .map none => some .MC
 | .nilFunc => some .MF
 | .nilIface => some .ME
 | _ => none
def wI : List Value → Option (List D)
 | [] => some []
 | x :: r => match Ku x, wI r with
  | some v, some vs => some (v :: vs)
  | _, _ => none
def lW : Value → Option D
 | .agg vs => match wI vs.toList with
  | some ds => some (.agg ds)
  | none => none
 | v => Ku v
def AV.val : AV → Option Value
 | .d x => x.val
 | _ => none
def mY (env : List AV) : Operand → Option AV
 | .tmp t => env[t]?
 | .const v => match lW v with
  | some x => some (.d x)
  | none => none
 | .func f => some (.fn (.func f) [] [])
 | .global _ => none
def yJ (env : List AV) : List Operand → Option (List AV)
 | [] => some []
 | x :: r => match mY env x, yJ env r with
  | some v, some vs => some (v :: vs)
  | _, _ => none
def bU (P : Program) (t : TypeId) : Option Nat :=
 match P.info? t with
 | some i => some i.size
 | none => none
def iH (P : Program) (t : TypeId) : Option Bool :=
 match P.underlying t with
 | some (.struct _) => some true
 | some (.array _ _) => some true
 | some _ => some false
 | none => none
def SA : List AV → Option (List D)
 | [] => some []
 | .d x :: r => match SA r with
  | some ds => some (x :: ds)
  | none => none
 | _ :: _ => none
def yM (cs : List AV) : AV := match SA cs with
 | some ds => .d (.agg ds)
 | none => .agg cs
def mK (agg : Bool) (n : Nat) (cs : List AV) : Option AV :=
 if cs.length = n then
  (if agg then some (yM cs) else match cs with
   | [x] => some x
   | _ => none)
 else none
def oJ (P : Program) (σ : List Ob) (t : TypeId) (a : AV) : Option AV :=
 match bU P t, iH P t with
 | some s, some g => match a with
  | .ref id idx off => match σ[id]? with
   | some (.box x) => if idx = 0 then mK g s ((x.cells.drop off).take s) else none
   | some (.row _ xs _) => match xs[idx]? with
    | some x => mK g s (((x.cells.map AV.d).drop off).take s)
    | none => none
   | _ => none
  | .rop cs => mK g s ((cs.map AV.d).take s)
  | _ => none
 | _, _ => none
def over {α : Type} (xs : List α) (off : Nat) (ys : List α) : List α := xs.take off ++ (ys ++ xs.drop (off + ys.length))
def lX (σ : List Ob) : AV → Option (D × List Ob)
 | .d x => if x.isAgg then none else some (x, σ)
 | .slc id sz off len _ => match σ[id]? with
  | some (.row sz' xs _) => if sz' = sz ∧ off + len ≤ xs.length then some (.xI sz ((xs.drop off).take len), σ.set id (.row sz' xs false)) else none
  | _ => none
 | _ => none
def jN (σ : List Ob) : List AV → Option (List D × List Ob)
 | [] => some ([], σ)
 | x :: r => match lX σ x with
  | some (y, σ1) => match jN σ1 r with
   | some (ys, σ2) => some (y :: ys, σ2)
   | none => none
  | none => none
def jQ (P : Program) (σ : List Ob) (t : TypeId) (a y : AV) : Option (List Ob) :=
 match bU P t with
 | some s => if y.cells.length = s ∧ y.cells.all AV.one = true then
   (match a with
   | .ref id idx off => match σ[id]? with
    | some (.box x) => if idx = 0 ∧ off + s ≤ x.cells.length then
      (if x.isAgg then some (σ.set id (.box (yM (over x.cells off y.cells)))) else match y.cells with
       | [z] => some (σ.set id (.box z))
       | _ => none)
      else none
    | some (.row _ _ _) => match jN σ y.cells with
     | some (ds, σ1) => match σ1[id]? with
      | some (.row sz xs true) => match xs[idx]? with
       | some x => if off + s ≤ x.cells.length then
         (if x.isAgg then some (σ1.set id (.row sz (xs.set idx (.agg (over x.cells off ds))) true)) else match ds with
          | [z] => some (σ1.set id (.row sz (xs.set idx z) true))
          | _ => none)
         else none
       | none => none
      | _ => none
     | none => none
    | _ => none
   | _ => none)
  else none
 | none => none
def q8 (P : Program) (t : TypeId) (f : Nat) : Option Field :=
 match P.underlying t with
 | some (.struct fs) => fs[f]?
 | _ => none
def kT (P : Program) (t : TypeId) (f : Nat) : AV → Option AV
 | .ref id idx off => match q8 P t f with
  | some fd => match bU P fd.type with
   | some s => if s = 0 then none else some (.ref id idx (off + fd.offset))
   | none => none
  | none => none
 | .rop cs => match q8 P t f with
  | some fd => match bU P fd.type with
   | some s => if s = 0 then none else some (.rop (cs.drop fd.offset))
   | none => none
  | none => none
 | _ => none
def D9 (P : Program) (t : TypeId) (f : Nat) (x : AV) : Option AV :=
 match q8 P t f with
 | some fd => match bU P fd.type, iH P fd.type with
  | some s, some g => if x.isAgg then mK g s ((x.cells.drop fd.offset).take s) else none
  | _, _ => none
 | none => none
def kS (P : Program) (t : TypeId) (x i : AV) : Option AV :=
 match i with
 | .d (.int _ n) => match P.underlying t with
  | some (.slice e) => match bU P e with
   | some s => match x with
    | .slc id sz off len _ => if 0 ≤ n ∧ n < (len : Int) ∧ sz = s then some (.ref id (off + n.toNat) 0) else none
    | .d (.xI sz xs) => if 0 ≤ n ∧ sz = s then (match xs[n.toNat]? with
      | some y => some (.rop y.cells)
      | none => none) else none
    | _ => none
   | none => none
  | some (.array len e) => match bU P e with
   | some s => match x with
    | .ref id idx off => if 0 ≤ n ∧ n < (len : Int) then some (.ref id idx (off + n.toNat * s)) else none
    | _ => none
   | none => none
  | _ => none
 | _ => none
def pU : Option AV → Option (Option Nat)
 | none => some none
 | some (.d (.int _ n)) => if 0 ≤ n then some (some n.toNat) else none
 | _ => none
def reslice (id sz off len : Nat) (cap : Option Nat) (l h : Nat) (hs : Bool) : Option Nat → Option AV
 | none => match cap with
  | some k => if h ≤ k then some (.slc id sz (off + l) (h - l) (some (k - l))) else none
  | none => if h ≤ len then some (.slc id sz (off + l) (h - l) none) else none
 | some m => if hs = true ∧ h ≤ m ∧ m ≤ cap.getD len ∧ (len ≠ 0 ∨ cap.isSome = true) then some (.slc id sz (off + l) (h - l) (some (m - l))) else none
def aslice (P : Program) (t : TypeId) (x : AV) (lo hi mx : Option AV) : Option AV :=
 match P.underlying t with
 | some (.slice e) => match bU P e, pU lo, pU hi, pU mx with
  | some s, some l, some h, some m => match x with
   | .slc id sz off len cap => if sz = s ∧ l.getD 0 ≤ h.getD len then reslice id sz off len cap (l.getD 0) (h.getD len) h.isSome m else none
   | .d (.xI sz xs) => if sz = s ∧ l.getD 0 ≤ h.getD xs.length ∧ h.getD xs.length ≤ xs.length ∧ m = none then some (.d (.xI sz ((xs.drop (l.getD 0)).take (h.getD xs.length - l.getD 0)))) else none
   | .d .aA => if l.getD 0 = 0 ∧ h.getD 0 = 0 ∧ m.getD 0 = 0 ∧ (m.isSome → h.isSome) then some (.d .aA) else none
   | _ => none
  | _, _, _, _ => none
 | some .string => match x.val, mx with
  | some v, none => match lo, hi with
   | none, none => (match pr P (Instr.slice t v none none none) with
    | some u => (match lW u with | some y => some (.d y) | none => none)
    | none => none)
   | some l, none => (match l.val with
    | some lv => (match pr P (Instr.slice t v (some lv) none none) with
     | some u => (match lW u with | some y => some (.d y) | none => none)
     | none => none)
    | none => none)
   | none, some h => (match h.val with
    | some hv => (match pr P (Instr.slice t v none (some hv) none) with
     | some u => (match lW u with | some y => some (.d y) | none => none)
     | none => none)
    | none => none)
   | some l, some h => (match l.val, h.val with
    | some lv, some hv => (match pr P (Instr.slice t v (some lv) (some hv) none) with
     | some u => (match lW u with | some y => some (.d y) | none => none)
     | none => none)
    | _, _ => none)
  | _, _ => none
 | _ => none
def bytesD (s : ByteArray) : List D := s.data.toList.map fun b => .int .u8 b.toNat
def byteOf : D → Option UInt8
 | .int .u8 n => some (UInt8.ofNat n.toNat)
 | _ => none
def bytesOf : List D → Option (List UInt8)
 | [] => some []
 | x :: r => match byteOf x, bytesOf r with
  | some b, some bs => some (b :: bs)
  | _, _ => none
def elems (σ : List Ob) (sz : Nat) : AV → Option (List D)
 | .slc id sz' off len _ => match σ[id]? with
  | some (.row Ma xs _) => if sz' = sz ∧ Ma = sz ∧ off + len ≤ xs.length then some ((xs.drop off).take len) else none
  | _ => none
 | .d (.xI sz' xs) => if sz' = sz then some xs else none
 | .d .aA => some []
 | .d (.str s) => if sz = 1 then some (bytesD s) else none
 | _ => none
def zeroOf (P : Program) (t : TypeId) : Option D :=
 match P.info? t with
 | some i => match i.zero with
  | some v => lW v
  | none => none
 | none => none
def room : Nat := 2 ^ 47
def jk (P : Program) (σ : List Ob) (t : TypeId) (s x : AV) : Option (AV × List Ob) :=
 match P.underlying t with
 | some (.slice e) => match P.info? e with
  | some i => match elems σ i.size x, zeroOf P e with
   | some ys, some z => if z.cells.length = i.size ∧ i.bytes ≠ 0 then (match s with
    | .d .aA => if ys.length * i.bytes ≤ room then some (.slc σ.length i.size 0 ys.length none, σ ++ [.row i.size ys true]) else none
    | .d (.xI sz xs) => if ys.length = 0 then some (.d (.xI sz xs), σ) else none
    | .slc id sz off len cap => match σ[id]? with
     | some (.row sz' xs wr) =>
      if sz = i.size ∧ sz' = i.size ∧ off + len ≤ xs.length ∧ (len + ys.length) * i.bytes ≤ room then (match cap with
       | some c => if len + ys.length ≤ c then
         (if wr = true ∧ off + len + ys.length ≤ xs.length then some (.slc id sz off (len + ys.length) (some c), σ.set id (.row sz (over xs (off + len) ys) true)) else none)
        else some (.slc σ.length sz 0 (len + ys.length) none, σ ++ [.row sz ((xs.drop off).take len ++ ys) true])
       | none => if wr = true then some (.slc σ.length sz 0 (len + ys.length) none, σ.set id .dead ++ [.row sz ((xs.drop off).take len ++ ys) true]) else none)
      else none
     | _ => none
    | _ => none) else none
   | _, _ => none
  | none => none
 | _ => none
def NA (P : Program) (σ : List Ob) (t : TypeId) (s x : AV) : Option (AV × List Ob) :=
 match P.underlying t with
 | some (.slice e) => match bU P e with
  | some z => match elems σ z x with
   | some ys => match s with
    | .d .aA => some (.d (.int .i64 0), σ)
    | .slc id sz off len _ => match σ[id]? with
     | some (.row sz' xs true) => if sz = z ∧ sz' = z ∧ off + len ≤ xs.length then
       some (.d (.int .i64 (Nat.min ys.length len)), σ.set id (.row sz (over xs off (ys.take len)) true)) else none
     | _ => none
    | _ => none
   | none => none
  | none => none
 | _ => none
def D6 (P : Program) (t : TypeId) (x : AV) : Option AV :=
 match x with
 | .slc _ _ _ len _ => match P.underlying t with
  | some (.slice _) => some (.d (.int .i64 len))
  | _ => none
 | .d (.xI _ xs) => match P.underlying t with
  | some (.slice _) => some (.d (.int .i64 xs.length))
  | _ => none
 | .d .aA => match P.underlying t with
  | some (.slice _) => some (.d (.int .i64 0))
  | _ => none
 | .d (.str s) => match P.underlying t with
  | some .string => some (.d (.int .i64 s.size))
  | _ => none
 | _ => none
def vY (P : Program) (s : Sem Value) : Option AV :=
 match pr P s with
 | some v => match lW v with
  | some x => some (.d x)
  | none => none
 | none => none
def BU : TypeDesc → AV → AV → Bool
 | .pointer _, .d .Dt, .ref _ _ _ => true
 | .pointer _, .d .Dt, .rop _ => true
 | .pointer _, .ref _ _ _, .d .Dt => true
 | .pointer _, .rop _, .d .Dt => true
 | .slice _, .d .aA, .slc _ _ _ len _ => len != 0
 | .slice _, .d .aA, .d (.xI _ xs) => xs.length != 0
 | .slice _, .slc _ _ _ len _, .d .aA => len != 0
 | .slice _, .d (.xI _ xs), .d .aA => xs.length != 0
 | .func _ _ _, .fn _ _ _, .d .MF => true
 | .func _ _ _, .d .MF, .fn _ _ _ => true
 | .map _ _, .qN _, .d .MC => true
 | .map _ _, .d .MC, .qN _ => true
 | .interface _, .iface _ _, .d .ME => true
 | .interface _, .d .ME, .iface _ _ => true
 | _, _, _ => false
def bC (P : Program) (op : BinOp) (t : TypeId) (x y : Operand) (a b : AV) : Option AV :=
 match a.val, b.val with
 | some u, some v => vY P (do eqGuard op t x y u v; binOp op t u v)
 | _, _ => match P.underlying t with
  | some td => if BU td a b then (match op with
   | .eql => some (.d (.bool false))
   | .neq => some (.d (.bool true))
   | _ => none) else none
  | none => none
def dR (P : Program) (σ : List Ob) (src dst : TypeId) (x : AV) : Option (AV × List Ob) :=
 match P.underlying src, P.underlying dst with
 | some (.slice e), some .string => match P.underlying e with
  | some (.int .u8) => match x with
   | .d (.str _) => none
   | _ => match elems σ 1 x with
    | some xs => match bytesOf xs with
     | some bs => some (.d (.str ⟨bs.toArray⟩), σ)
     | none => none
    | none => none
  | _ => none
 | some .string, some (.slice e) => match P.underlying e, bU P e with
  | some (.int .u8), some 1 => match x with
   | .d (.str s) => some (.slc σ.length 1 0 s.size none, σ ++ [.row 1 (bytesD s) true])
   | _ => none
  | _, _ => none
 | some (.slice _), some (.slice e) => match P.underlying e, x with
  | some (.int .u8), .slc id sz off len cap => match σ[id]? with
   | some (.row _ _ true) => if src = dst ∧ len ≠ 0 then some (.slc id sz off len cap, σ) else none
   | _ => none
  | _, _ => none
 | some _, some _ => match x.val with
  | some v => match vY P (convert src dst v) with
   | some y => some (y, σ)
   | none => none
  | none => none
 | _, _ => none
def JG (place : Nat → Option (Nat × Nat)) (cells : List AV) : List (Nat × AV) → Option (List AV)
 | [] => some cells
 | (i, v) :: r => match place i with
  | some (off, s) => if v.cells.length = s ∧ off + s ≤ cells.length ∧ v.cells.all AV.one = true then JG place (over cells off v.cells) r else none
  | none => none
def placesOf (P : Program) (fs : Array Field) : Option (List (Nat × Nat)) := fs.toList.mapM (fun f => (P.info? f.type).map fun i => (f.offset, i.size))
def eX (P : Program) (t : TypeId) (parts : List (Nat × AV)) : Option AV :=
 match P.info? t, P.underlying t with
 | some it, some (.struct fs) => match it.zero, placesOf P fs with
  | some (.agg zs), some pl => match wI zs.toList with
   | some z => match JG (pl.toArray[·]?) (z.map AV.d) parts with
    | some cs => some (yM cs)
    | none => none
   | none => none
  | _, _ => none
 | some it, some (.array _ e) => match it.zero, P.info? e with
  | some (.agg zs), some ie => match wI zs.toList with
   | some z => match JG (fun i => some (i * ie.size, ie.size)) (z.map AV.d) parts with
    | some cs => some (yM cs)
    | none => none
   | none => none
  | _, _ => none
 | _, _ => none
def zH (σ : List Ob) (v : AV) : Option (D × List Ob) :=
 if v.isAgg then (match jN σ v.cells with
  | some (ds, σ1) => some (D.agg ds, σ1)
  | none => none) else lX σ v
def jR (σ : List Ob) (sz : Nat) : Nat → List (Nat × AV) → Option (List D × List Ob)
 | _, [] => some ([], σ)
 | k, (i, v) :: r => if i = k ∧ v.cells.length = sz then (match zH σ v with
   | some (y, σ1) => match jR σ1 sz (k + 1) r with
    | some (ys, σ2) => some (y :: ys, σ2)
    | none => none
   | none => none) else none
def iX (P : Program) (σ : List Ob) (t : TypeId) (len : Nat) (parts : List (Nat × AV)) : Option (AV × List Ob) :=
 match P.underlying t with
 | some (.slice e) => match bU P e, zeroOf P e with
  | some s, some _ => if len * s ≤ 16777216 ∧ parts.length = len then (match jR σ s 0 parts with
   | some (ds, σ1) => some (.slc σ1.length s 0 len (some len), σ1 ++ [.row s ds true])
   | none => none) else none
  | _, _ => none
 | _ => none
def iM (P : Program) (σ : List Ob) (t : TypeId) (l c : AV) : Option (AV × List Ob) :=
 match P.underlying t, l, c with
 | some (.slice e), .d (.int _ n), .d (.int _ m) => match P.info? e, zeroOf P e with
  | some i, some z => if 0 ≤ n ∧ n ≤ m ∧ m * i.bytes ≤ 70368744177664 ∧ m ≤ 70368744177664 ∧ z.cells.length = i.size ∧ z.cells.all (fun c => !c.isAgg) = true ∧ i.size ≠ 0 then
    some (.slc σ.length i.size 0 n.toNat (some m.toNat), σ ++ [.row i.size (List.replicate m.toNat z) true]) else none
  | _, _ => none
 | _, _, _ => none
def D.keq : D → D → Option Bool
 | .int k a, .int k' b => if k = k' then some (a == b) else none
 | .str a, .str b => some (a == b)
 | .bool a, .bool b => some (a == b)
 | _, _ => none
def GK (k : D) : List (D × D) → Nat → Option (Option (Nat × D))
 | [], _ => some none
 | e :: es, i => match D.keq k e.1 with
  | some true => some (some (i, e.2))
  | some false => GK k es (i + 1)
  | none => none
def keyOf : TypeDesc → D → Bool
 | .int _, .int _ _ => true
 | .string, .str _ => true
 | .bool, .bool _ => true
 | _, _ => false
def sU (P : Program) (σ : List Ob) (t : TypeId) (r : Option AV) : Option (AV × List Ob) :=
 match P.underlying t, r with
 | some (.map _ _), none => some (.qN σ.length, σ ++ [.map []])
 | some (.map _ _), some (.d (.int _ _)) => some (.qN σ.length, σ ++ [.map []])
 | _, _ => none
def XK (P : Program) (t : TypeId) : Option (TypeDesc × TypeId) :=
 match P.underlying t with
 | some (.map k e) => match P.underlying k with
  | some d => some (d, e)
  | none => none
 | _ => none
def wV (P : Program) (σ : List Ob) (t : TypeId) (x i : AV) (ok : Bool) : Option AV :=
 match XK P t, x, i with
 | some (td, e), .qN id, .d k => match σ[id]?, zeroOf P e with
  | some (.map es), some z => if keyOf td k then (match GK k es 0 with
   | some (some (_, v)) => some (if ok then .tuple [.d v, .d (.bool true)] else .d v)
   | some none => some (if ok then .tuple [.d z, .d (.bool false)] else .d z)
   | none => none) else none
  | _, _ => none
 | _, _, _ => none
def XH (k v : D) (es : List (D × D)) : Option (List (D × D)) :=
 match GK k es 0 with
 | some (some (i, _)) => some (es.set i (k, v))
 | some none => some (es ++ [(k, v)])
 | none => none
def sS (P : Program) (σ : List Ob) (t : TypeId) (m i v : AV) : Option (AV × List Ob) :=
 match XK P t, m, i with
 | some (td, e), .qN id, .d k => if keyOf td k then (match zH σ v with
  | some (y, σ1) => match σ1[id]? with
   | some (.map es) => match XH k y es with
    | some es' => some (.tuple [], σ1.set id (.map es'))
    | none => none
   | _ => none
  | none => none) else none
 | _, _, _ => none
abbrev Callee := FuncId → List AV → List Ob → Option (AV × List Ob)
mutual
def AV.ids : AV → List Nat
 | .ref id _ _ => [id]
 | .slc id _ _ _ _ => [id]
 | .agg cs => kg cs
 | .tuple cs => kg cs
 | .fn _ cs ds => kg cs ++ kg ds
 | .qN id => [id]
 | .iface _ v => v.ids
 | _ => []
def kg : List AV → List Nat
 | [] => []
 | x :: r => x.ids ++ kg r
end
mutual
def AV.re (g : Nat → Option Nat) : AV → Option AV
 | .ref id idx off => match g id with
  | some j => some (.ref j idx off)
  | none => none
 | .slc id sz off len cap => match g id with
  | some j => some (.slc j sz off len cap)
  | none => none
 | .agg cs => match zW g cs with
  | some ds => some (.agg ds)
  | none => none
 | .tuple cs => match zW g cs with
  | some ds => some (.tuple ds)
  | none => none
 | .fn f cs ds => match zW g cs, zW g ds with
  | some cs', some ds' => some (.fn f cs' ds')
  | _, _ => none
 | .qN id => match g id with
  | some j => some (.qN j)
  | none => none
 | .iface t v => match v.re g with
  | some v' => some (.iface t v')
  | none => none
 | .undef => some .undef
 | .d x => some (.d x)
 | .rop cs => some (.rop cs)
def zW (g : Nat → Option Nat) : List AV → Option (List AV)
 | [] => some []
 | x :: r => match x.re g, zW g r with
  | some y, some ys => some (y :: ys)
  | _, _ => none
end
def Ob.ids : Ob → List Nat
 | .box x => x.ids
 | _ => []
def Ob.re (g : Nat → Option Nat) : Ob → Option Ob
 | .dead => some .dead
 | .box x => match x.re g with
  | some y => some (.box y)
  | none => none
 | .row sz xs wr => some (.row sz xs wr)
 | .map es => some (.map es)
def oF (g : Nat → Option Nat) : List Ob → Option (List Ob)
 | [] => some []
 | x :: r => match x.re g, oF g r with
  | some y, some ys => some (y :: ys)
  | _, _ => none
def reach (σ : List Ob) : Nat → List Nat → List Nat → List Nat
 | 0, _, seen => seen
 | _ + 1, [], seen => seen
 | n + 1, i :: r, seen => if seen.contains i then reach σ n r seen else match σ[i]? with
  | some o => reach σ n (r ++ o.ids) (seen ++ [i])
  | none => reach σ n r (seen ++ [i])
def eD (ι : List Nat) (i : Nat) : Option Nat := ι.idxOf? i
def sub (σ : List Ob) (ι : List Nat) (g : Nat → Option Nat) : List Nat → Option (List Ob)
 | [] => some []
 | i :: r => match σ[i]? with
  | some o => match o.re g, sub σ ι g r with
   | some o', some os => some (o' :: os)
   | _, _ => none
  | none => none
def canon (σ : List Ob) (roots : List Nat) : Option (List Nat × List Ob) :=
 let ι := reach σ 100000 roots []
 match sub σ ι (eD ι) ι with
 | some os => some (ι, os)
 | none => none
def jd (σ : List Ob) : List Nat → List Ob → List Ob
 | i :: r, o :: os => jd (σ.set i o) r os
 | _, _ => σ
def jf (ι : List Nat) (n k j : Nat) : Option Nat := if j < ι.length then ι[j]? else if j < k then some (n + (j - ι.length)) else none
def nk (call : Callee) (f : FuncId) (args : List AV) (σ : List Ob) : Option (AV × List Ob) :=
 match canon σ (kg args) with
 | some (ι, lT) => match zW (eD ι) args with
  | some args' => match call f args' lT with
   | some (r, σ') => match r.re (jf ι σ.length σ'.length), oF (jf ι σ.length σ'.length) σ' with
    | some r', some os => if ι.length ≤ os.length then some (r', jd σ ι (os.take ι.length) ++ os.drop ι.length) else none
    | _, _ => none
   | none => none
  | none => none
 | none => none
def callable (P : Program) (f : FuncId) : Bool :=
 match P.funcs[f]? with
 | some fn => fn.name != "runtime.NumGoroutine" && fn.body.isSome
 | none => false
def iW (P : Program) (t2 : TypeId) : Bool := match P.underlying t2 with
 | some (.int _) => true
 | some _ => false
 | none => true
def qB : List AV → Option (List Value)
 | [] => some []
 | x :: r => match x.val, qB r with
  | some v, some vs => some (v :: vs)
  | _, _ => none
def outside (P : Program) (f : FuncId) (args : List AV) (σ : List Ob) : Option (AV × List Ob) :=
 match qB args with
 | some vs => match pr P (callFunc f vs.toArray) with
  | some (.value v) => match lW v with
   | some y => some (.d y, σ)
   | none => none
  | _ => none
 | none => none
def ow (P : Program) (call : Callee) (σ : List Ob) (c : Call) (args : List AV) (fv : Option AV) : Option (AV × List Ob) :=
 match c.callee with
 | .builtin .len => match c.argTypes[0]?, args with
  | some t, [x] => match D6 P t x with
   | some v => some (v, σ)
   | none => none
  | _, _ => none
 | .builtin .append => match c.argTypes[0]?, c.argTypes[1]?, args with
  | some t, some t2, [s, x] => if iW P t2 then none else jk P σ t s x
  | _, _, _ => none
 | .builtin .copy => match c.argTypes[0]?, args with
  | some t, [s, x] => NA P σ t s x
  | _, _ => none
 | .value _ => match fv with
  | some (.fn (.func f) first caps) => if callable P f then nk call f (first ++ args ++ caps) σ else outside P f (first ++ args ++ caps) σ
  | _ => none
 | .builtin .max => match qB args with
  | some vs => match vY P (Builtin.max_ c.argTypes 0 vs.toArray) with
   | some v => some (v, σ)
   | none => none
  | none => none
 | .builtin .min => match qB args with
  | some vs => match vY P (Builtin.min_ c.argTypes 0 vs.toArray) with
   | some v => some (v, σ)
   | none => none
  | none => none
 | _ => none
def partsOf (env : List AV) : List (Nat × Operand) → Option (List (Nat × AV))
 | [] => some []
 | (i, x) :: r => match mY env x, partsOf env r with
  | some v, some vs => some ((i, v) :: vs)
  | _, _ => none
def vM (env : List AV) : Option Operand → Option (Option AV)
 | none => some none
 | some x => match mY env x with
  | some v => some (some v)
  | none => none
def kH (P : Program) (call : Callee) (env : List AV) (σ : List Ob) (o : Oper) : Option (AV × List Ob) :=
 match o.op with
 | .move x => match mY env x with
  | some v => some (v, σ)
  | none => none
 | .assign x => match mY env x with
  | some v => some (v, σ)
  | none => none
 | .pick c a b => match mY env c with
  | some (.d (.bool t)) => match mY env (if t then a else b) with
   | some v => some (v, σ)
   | none => none
  | _ => none
 | .alloc t => match zeroOf P t with
  | some z => some (.ref σ.length 0 0, σ ++ [.box (.d z)])
  | none => none
 | .box _ x => match mY env x with
  | some .undef => none
  | some v => some (.ref σ.length 0 0, σ ++ [.box v])
  | none => none
 | .build t ps => match partsOf env ps.toList with
  | some parts => match eX P t parts with
   | some v => some (v, σ)
   | none => none
  | none => none
 | .buildSlice t len ps => match partsOf env ps.toList with
  | some parts => iX P σ t len parts
  | none => none
 | .load t a => match mY env a with
  | some v => match oJ P σ t v with
   | some x => some (x, σ)
   | none => none
  | none => none
 | .store t a x => match mY env a, mY env x with
  | some v, some y => match jQ P σ t v y with
   | some σ' => some (.tuple [], σ')
   | none => none
  | _, _ => none
 | .nilCheck x => match mY env x with
  | some (.ref id idx off) => some (.ref id idx off, σ)
  | some (.rop cs) => some (.rop cs, σ)
  | _ => none
 | .binOp op t x y _ => match mY env x, mY env y with
  | some a, some b => match bC P op t x y a b with
   | some v => some (v, σ)
   | none => none
  | _, _ => none
 | .unOp op _ x => match mY env x with
  | some a => match a.val with
   | some v => match vY P (Op.unary op v) with
    | some y => some (y, σ)
    | none => none
   | none => none
  | none => none
 | .convert s d x => match mY env x with
  | some a => dR P σ s d a
  | none => none
 | .fieldAddr t x f => match mY env x with
  | some a => match kT P t f a with
   | some v => some (v, σ)
   | none => none
  | none => none
 | .field t x f => match mY env x with
  | some a => match D9 P t f a with
   | some v => some (v, σ)
   | none => none
  | none => none
 | .indexAddr t x i => match mY env x, mY env i with
  | some a, some b => match kS P t a b with
   | some v => some (v, σ)
   | none => none
  | _, _ => none
 | .index t x i => match mY env x, mY env i with
  | some a, some b => match a.val, b.val with
   | some u, some v => match vY P (Instr.index t u v) with
    | some y => some (y, σ)
    | none => none
   | _, _ => none
  | _, _ => none
 | .slice t x lo hi mx => match mY env x, vM env lo, vM env hi, vM env mx with
  | some a, some l, some h, some m => match aslice P t a l h m with
   | some v => some (v, σ)
   | none => none
  | _, _, _, _ => none
 | .makeSlice t l c => match mY env l, mY env c with
  | some a, some b => iM P σ t a b
  | _, _ => none
 | .makeMap t r => match vM env r with
  | some a => sU P σ t a
  | none => none
 | .lookup t x i ok => match mY env x, mY env i with
  | some a, some b => match wV P σ t a b ok with
   | some v => some (v, σ)
   | none => none
  | _, _ => none
 | .mapUpdate t m i v => match mY env m, mY env i, mY env v with
  | some a, some b, some c => sS P σ t a b c
  | _, _, _ => none
 | .makeFunc fn first caps => match yJ env first.toList, yJ env caps.toList with
  | some xs, some ys => some (.fn fn xs ys, σ)
  | _, _ => none
 | .extract x i => match mY env x with
  | some (.tuple vs) => match vs[i]? with
   | some v => some (v, σ)
   | none => none
  | _ => none
 | .makeInterface t x => match mY env x with
  | some v => match P.underlying t with
   | some (.interface _) => none
   | some _ => some (.iface t v, σ)
   | none => none
  | none => none
 | .typeAssert x _ a ok => match mY env x with
  | some (.iface t v) => match P.underlying a with
   | some (.interface _) => none
   | some _ => if t = a ∧ ok = false then some (v, σ) else none
   | none => none
  | _ => none
 | .call c => match yJ env c.args.toList with
  | some args => match c.callee with
   | .value f => ow P call σ c args (mY env f)
   | _ => ow P call σ c args none
  | none => none
 | _ => none
def wants (ops : Array Oper) (env : List AV) (o : Oper) : Option Bool :=
 match o.guard with
 | none => some true
 | some (j, want) => match (ops[j]?).bind (·.dst) with
  | some t => match env[t]? with
   | some (.d (.bool b)) => some (b == want)
   | some (.tuple []) => some false
   | _ => none
  | none => none
def qX (env : List AV) (dst : Option Tmp) (v : AV) : List AV :=
 match dst with
 | some d => env.set d v
 | none => env
structure St where
 env : List AV
 σ : List Ob
def Uq (P : Program) (call : Callee) (ops : Array Oper) : List Oper → St → Option St
 | [], s => some s
 | o :: r, s => match wants ops s.env o with
  | some true => match kH P call s.env s.σ o with
   | some (v, σ') => Uq P call ops r ⟨qX s.env o.dst v, σ'⟩
   | none => none
  | some false => Uq P call ops r ⟨qX s.env o.dst (.tuple []), s.σ⟩
  | none => none
def touches (env : List AV) (σ : List Ob) (o : Oper) : List Nat × Bool :=
 match o.op with
 | .load _ a => (((mY env a).elim [] AV.ids), false)
 | .convert _ _ x => (((mY env x).elim [] AV.ids), false)
 | .lookup _ x _ _ => (((mY env x).elim [] AV.ids), false)
 | .mapUpdate _ x _ v => (((mY env x).elim [] AV.ids) ++ ((mY env v).elim [] AV.ids), true)
 | .store _ a x => (((mY env a).elim [] AV.ids) ++ ((mY env x).elim [] AV.ids), true)
 | .buildSlice _ _ ps => (((partsOf env ps.toList).elim [] fun l => kg (l.map (·.2))), true)
 | .call c => match c.callee with
  | .builtin .len => ([], false)
  | .value f => (match yJ env c.args.toList, mY env f with
   | some args, some (.fn _ first caps) => reach σ 100000 (kg (first ++ args ++ caps)) []
   | _, _ => [], true)
  | _ => (((yJ env c.args.toList).elim [] kg), true)
 | _ => ([], false)
def marked (env : List AV) (σ σ' : List Ob) (o : Oper) : List Nat × Bool :=
 ((touches env σ o).1 ++ List.range' σ.length (σ'.length - σ.length), (touches env σ o).2 || decide (σ.length < σ'.length))
def J7 (P : Program) (call : Callee) (ops : Array Oper) : List Oper → St → Option (St × List (List Nat × Bool))
 | [], s => some (s, [])
 | o :: r, s => match wants ops s.env o with
  | some true => match kH P call s.env s.σ o with
   | some (v, σ') => match J7 P call ops r ⟨qX s.env o.dst v, σ'⟩ with
    | some (s', l) => some (s', marked s.env s.σ σ' o :: l)
    | none => none
   | none => none
  | some false => match J7 P call ops r ⟨qX s.env o.dst (.tuple []), s.σ⟩ with
    | some (s', l) => some (s', ([], false) :: l)
    | none => none
  | none => none
def JB (a b : List Nat) : Bool := a.all fun i => !b.contains i
def Kq (x y : List Nat × Bool) : Bool := (!x.2 && !y.2) || JB x.1 y.1
def wK (acc : List Nat) (j : Nat) : List Edge → Nat
 | [] => 0
 | e :: r => match Region.binds .any e with
  | true => (wK acc j r ||| 2 ^ e.on) ||| acc.getD (j - 1 - e.on) 0
  | false => wK acc j r
def Ak : List Oper → Nat → List Nat → List Nat
 | [], _, acc => acc
 | o :: r, j, acc => Ak r (j + 1) (wK acc j o.after.toList :: acc)
def ahead (ops : Array Oper) (i j : Nat) : Bool := ((Ak ops.toList 0 []).getD (ops.size - 1 - j) 0).testBit i
def kK (ops : Array Oper) (l : List (List Nat × Bool)) : Bool :=
 (List.range l.length).all fun j => (List.range j).all fun i => ahead ops i j || Kq (l.getD i ([], true)) (l.getD j ([], true))
def JZ (o : Oper) : List Tmp := o.op.operands.toList.filterMap fun
 | .tmp t => some t
 | _ => none
def He (ops : Array Oper) (o : Oper) : List Tmp := match o.guard with
 | some (g, _) => ((ops[g]?).bind (·.dst)).toList
 | none => []
def ug (ops : Array Oper) (o : Oper) : List Tmp := o.dst.toList ++ (JZ o ++ He ops o)
def H9 (ops : Array Oper) (x y : Oper) : Bool := (match x.dst with
 | some t => !(ug ops y).contains t
 | none => true) && (match y.dst with
 | some t => !(ug ops x).contains t
 | none => true)
def F6 (P : Program) (ops : Array Oper) : Bool :=
 P.follows .mixedOrders &&
 ((List.range ops.size).all fun j => match ops[j]? with
  | some o => o.after.toList.all (fun e => !Region.binds .any e || decide (e.on < j)) &&
   (List.range j).all fun i => match ops[i]? with
    | some p => ahead ops i j || H9 ops p o
    | none => true
  | none => true)
inductive Ex where
 | normal | ret
 | exit (id : Nat)
 deriving DecidableEq, Inhabited
abbrev Keep := Nat → Option (List Nat)
def iP (P : Program) (s : St) : List ResultVar → Option (List AV)
 | [] => some []
 | .tmp t :: r => match s.env[t]?, iP P s r with
  | some v, some vs => some (v :: vs)
  | _, _ => none
 | .cell a t :: r => match s.env[a]? with
  | some p => match oJ P s.σ t p, iP P s r with
   | some v, some vs => some (v :: vs)
   | _, _ => none
  | none => none
def Ju : List AV → AV
 | [x] => x
 | xs => .tuple xs
end Lv
