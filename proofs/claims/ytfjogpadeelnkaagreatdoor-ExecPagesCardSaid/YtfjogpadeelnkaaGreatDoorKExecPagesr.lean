/- What the rows' list gives, how arguments are read. -/
import Derived.Test.YtfjogpadeelnkaaGreatDoorA4
import Derived.Test.YtfjogpadeelnkaaGreatDoorA6
import Derived.Test.YtfjogpadeelnkaaGreatDoorRows
import Derived.Test.YtfjogpadeelnkaaGreatDoorTie
import Derived.Test.YtfjogpadeelnkaaGreatDoorCards
import Derived.Deep.DeepHandedRow
import Derived.Lib.LaidTab
import Derived.Lib.LaidU8T
import Derived.Lib.LaidIn
import Derived.Shelf.Vars
import Derived.WalkKit
import Derived.ProofKit
import Derived.OpenShut
import Derived.ShutString
import Derived.Below
import Derived.Lay
import Derived.SevenTiedAt
set_option linter.unnecessarySimpa false
set_option linter.unusedVariables false
set_option linter.unusedSimpArgs false
namespace Go.Proofs.YtfjogpadeelnkaaGreatDoor
open Go.ChangeShapes Go.WideShapes Go.ChangeAt Go.RowKit
set_option maxRecDepth 100000
theorem own:ownKnob Tryz.prog.godebug=none:=by kernel_rfl
theorem laidOut:laidOutB Tryz.prog=true:=by kernel_rfl
theorem Ck {H:Type}:∀l:List (DataW H),Rows.uptoBulkAll l=(l.map Rows.uptoBulk).sum
 | []=>rfl
 | d::l=>by simp only [Rows.uptoBulkAll,List.map_cons,List.sum_cons,Ck l]
theorem aoM {H:Type}:Lv.TQ (Rows.uptoBulk (H:=H)) where
 one d:=by
  cases d with
  | lit l=>cases l <;> simp [Rows.uptoBulk]
  | _=>simp [Rows.uptoBulk]
 str bs:=by simp [Rows.uptoBulk]
 agg ps:=by simp only [Rows.uptoBulk,Ck];exact Nat.le_refl _
 slice es r:=by simp only [Rows.uptoBulk,Ck];omega
@[reducible] def Sg (W:World):Lv.bJ:=⟨fun a=>W.cell? a⟩
theorem akp {W:World} (hT:Go.Lib.Utf8Tabs (Tryz.laysValid_ren.g 3) (Tryz.laysValid_ren.g 4) W) (hm:∃m,W.cell? ⟨0,0,none⟩=some (.int .i64 m)):@Lv.wY (Sg W):=
 @Lv.wY.mk (Sg W) (fun w hw=>⟨fun c hc=>hw _ _ (hT.1 c hc),fun i hi=>⟨hw _ _ (hT.2 i hi).1,hw _ _ (hT.2 i hi).2⟩⟩) hm
theorem adM {W:World} {l:List (String×DataW Unit)} (hL:laidMetH Tryz.prog l W) (h1:("unicode/utf8.first",Go.Lib.firstData)∈l) (h2:("unicode/utf8.acceptRanges",Go.Lib.acceptData)∈l) (hh:(l.all fun x=>x.2.handleName?.isNone)=true):
  Go.Lib.Utf8Tabs (Tryz.laysValid_ren.g 3) (Tryz.laysValid_ren.g 4) W:=by
 rw [MakeChecks.laidMetH_plain _ _ _ hh] at hL
 exact utf8Tabs_of_readsT (U8Types.of196 Tryz.laysValid) ⟨by kernel_rfl,by kernel_rfl,by kernel_rfl,by kernel_rfl,by kernel_rfl,by kernel_rfl,by kernel_rfl⟩ (Go.Lib.laidMet.reads hL h1) (Go.Lib.laidMet.reads hL h2)
theorem abY:Go.Pinned.utf8First=Go.Lib.firstData:=by kernel_rfl
theorem Zl:(Rows.laid_unicode_utf8_acceptRanges:DataW Unit)=Go.Lib.acceptData:=by kernel_rfl
theorem Yu {W:World} (h:W.ShapedOpen Tryz.prog):∃m,W.cell? ⟨0,0,none⟩=some (.int .i64 m):=
 cell_of_shapedOpen_int (P:=Tryz.prog) (g:=0) (t:=3) (zero:=#[.int .i64 0]) h (of_decide_eq_true (by kernel_rfl)) (by kernel_rfl) rfl (by kernel_rfl) (by kernel_rfl) (by kernel_rfl)
def good {H:Type} (t:TypeId) (d:DataW H):Prop:=∀n∈d.weights Tryz.prog t,n≤reachBytes
theorem laws {H:Type}:Lv.ME (H:=H) Tryz.prog 140737488351232 (good (H:=H)):=Lv.YC Tryz.prog
theorem Ka {H:Type} {ts:List TypeId} {ds:List (DataW H)} (h:(DataW.weightsEach Tryz.prog ts ds).all (·≤reachBytes)=true) {j:Nat} {t:TypeId} {d:DataW H} (ht:ts[j]?=some t) (hd:ds[j]?=some d):good t d:=
 fun n hn=>by simpa using List.all_eq_true.1 h n (DataW.weights_mem_each ht hd n hn)
section
variable {H:Type} {enc:TypeId×Value→H} {W:World}
theorem c3:Tryz.prog.cellsOf 3=1:=by kernel_rfl
theorem u3:Tryz.prog.underlying 3=some (.int .i64):=by kernel_rfl
theorem Zp:Lv.Sd (good (H:=H)) enc Tryz.prog W 3 Lv.eI 1 (fun x=>(-9223372036854775808≤x∧x < 9223372036854775808)):=Lv.akC laws u3
theorem c24:Tryz.prog.cellsOf 24=1:=by kernel_rfl
theorem c4:Tryz.prog.cellsOf 4=1:=by kernel_rfl
theorem u4:Tryz.prog.underlying 4=some (.bool):=by kernel_rfl
theorem sd4:Lv.Sd (good (H:=H)) enc Tryz.prog W 4 Lv.eB 1 (fun x=>True):=Lv.ahm laws u4
theorem c23:Tryz.prog.cellsOf 23=1:=by kernel_rfl
theorem u23:Tryz.prog.underlying 23=some (.slice 3):=by kernel_rfl
theorem bk3:Tryz.prog.bytesOf 3=8:=by kernel_rfl
theorem by3:Tryz.prog.bytesOf 3≠0:=by rw [show Tryz.prog.bytesOf 3=8 by kernel_rfl];decide
theorem aho:Lv.Sd (good (H:=H)) enc Tryz.prog W 23 (Lv.eL 1 Lv.eI) 1 (fun x=>(x.length*8≤140737488351232∧∀y∈x,(-9223372036854775808≤y∧y < 9223372036854775808))):=Lv.vZ laws (K:=8) u23 c3 (by decide) by3 (Lv.qm u23 bk3) Zp
theorem c28:Tryz.prog.cellsOf 28=1:=by kernel_rfl
theorem u91:Tryz.prog.underlying 91=some (.struct (Tryz.prog.fieldsOf 91)):=by kernel_rfl
theorem c91:Tryz.prog.cellsOf 91=2:=by kernel_rfl
theorem asl:Lv.Sd (good (H:=H)) enc Tryz.prog W 91 Lv.aK 2 (fun x=>(Lv.Cz 140737488351232 x)):=Lv.vY laws (fun p:Int×Bool×Unit=>(⟨p.1,p.2.1⟩:Lv.aX)) u91 c91 (fs:=[(3,0),(4,1)]) (by kernel_rfl) (Lv.iE c3 Zp (Lv.iE c4 sd4 Lv.KI)) (fun p=>rfl) (fun p h=>h)
theorem u28:Tryz.prog.underlying 28=some (.slice 91):=by kernel_rfl
theorem auk:Tryz.prog.bytesOf 91=16:=by kernel_rfl
theorem aue:Tryz.prog.bytesOf 91≠0:=by rw [show Tryz.prog.bytesOf 91=16 by kernel_rfl];decide
theorem akD:Lv.Sd (good (H:=H)) enc Tryz.prog W 28 (Lv.eL 2 Lv.aK) 1 (fun x=>(x.length*16≤140737488351232∧∀y∈x,(Lv.Cz 140737488351232 y))):=Lv.vZ laws (K:=16) u28 c91 (by decide) aue (Lv.qm u28 auk) asl
theorem c9:Tryz.prog.cellsOf 9=1:=by kernel_rfl
theorem u9:Tryz.prog.underlying 9=some (.string):=by kernel_rfl
theorem sd9:Lv.Sd (good (H:=H)) enc Tryz.prog W 9 Lv.eS 1 (fun x=>(x.length≤140737488351232)):=Lv.akB laws u9
theorem u65:Tryz.prog.underlying 65=some (.struct (Tryz.prog.fieldsOf 65)):=by kernel_rfl
theorem c65:Tryz.prog.cellsOf 65=6:=by kernel_rfl
theorem asr:Lv.Sd (good (H:=H)) enc Tryz.prog W 65 Lv.bF 6 (fun x=>(Lv.El 140737488351232 x)):=Lv.vY laws (fun p:List UInt8×List Lv.aX×List Int×Bool×Bool×Int×Unit=>(⟨p.1,p.2.1,p.2.2.1,p.2.2.2.1,p.2.2.2.2.1,p.2.2.2.2.2.1⟩:Lv.bT)) u65 c65 (fs:=[(9,0),(28,1),(23,2),(4,3),(4,4),(3,5)]) (by kernel_rfl) (Lv.iE c9 sd9 (Lv.iE c28 akD (Lv.iE c23 aho (Lv.iE c4 sd4 (Lv.iE c4 sd4 (Lv.iE c3 Zp Lv.KI)))))) (fun p=>rfl) (fun p h=>h)
theorem u24:Tryz.prog.underlying 24=some (.slice 65):=by kernel_rfl
theorem auo:Tryz.prog.bytesOf 65=80:=by kernel_rfl
theorem aui:Tryz.prog.bytesOf 65≠0:=by rw [show Tryz.prog.bytesOf 65=80 by kernel_rfl];decide
theorem asy:Lv.Sd (good (H:=H)) enc Tryz.prog W 24 (Lv.eL 6 Lv.bF) 1 (fun x=>(x.length*80≤140737488351232∧∀y∈x,(Lv.El 140737488351232 y))):=Lv.vZ laws (K:=80) u24 c65 (by decide) aui (Lv.qm u24 auo) asr
theorem c22:Tryz.prog.cellsOf 22=1:=by kernel_rfl
theorem c83:Tryz.prog.cellsOf 83=3:=by kernel_rfl
theorem c68:Tryz.prog.cellsOf 68=1:=by kernel_rfl
theorem u68:Tryz.prog.underlying 68=some (.int .u64):=by kernel_rfl
theorem asq:Lv.Sd (good (H:=H)) enc Tryz.prog W 68 Lv.eX 1 (fun x=>True):=Lv.akA laws u68
theorem u83:Tryz.prog.underlying 83=some (.struct (Tryz.prog.fieldsOf 83)):=by kernel_rfl
theorem ahn:Lv.Sd (good (H:=H)) enc Tryz.prog W 83 Lv.au 3 (fun x=>(Lv.nV 140737488351232 x)):=Lv.vY laws (fun p:Int×UInt64×List UInt8×Unit=>(⟨p.1,p.2.1,p.2.2.1⟩:Lv.aj)) u83 c83 (fs:=[(3,0),(68,1),(9,2)]) (by kernel_rfl) (Lv.iE c3 Zp (Lv.iE c68 asq (Lv.iE c9 sd9 Lv.KI))) (fun p=>rfl) (fun p h=>h)
theorem u94:Tryz.prog.underlying 94=some (.struct (Tryz.prog.fieldsOf 94)):=by kernel_rfl
theorem c94:Tryz.prog.cellsOf 94=7:=by kernel_rfl
theorem asj:Lv.Sd (good (H:=H)) enc Tryz.prog W 94 Lv.aJ 7 (fun x=>(Lv.BO 140737488351232 x)):=Lv.vY laws (fun p:List UInt8×Int×Int×Bool×Lv.aj×Unit=>(⟨p.1,p.2.1,p.2.2.1,p.2.2.2.1,p.2.2.2.2.1⟩:Lv.aA)) u94 c94 (fs:=[(9,0),(3,1),(3,2),(4,3),(83,4)]) (by kernel_rfl) (Lv.iE c9 sd9 (Lv.iE c3 Zp (Lv.iE c3 Zp (Lv.iE c4 sd4 (Lv.iE c83 ahn Lv.KI))))) (fun p=>rfl) (fun p h=>h)
theorem u22:Tryz.prog.underlying 22=some (.slice 94):=by kernel_rfl
theorem auj:Tryz.prog.bytesOf 94=72:=by kernel_rfl
theorem aud:Tryz.prog.bytesOf 94≠0:=by rw [show Tryz.prog.bytesOf 94=72 by kernel_rfl];decide
theorem asz:Lv.Sd (good (H:=H)) enc Tryz.prog W 22 (Lv.eL 7 Lv.aJ) 1 (fun x=>(x.length*72≤140737488351232∧∀y∈x,(Lv.BO 140737488351232 y))):=Lv.vZ laws (K:=72) u22 c94 (by decide) aud (Lv.qm u22 auj) asj
theorem u26:Tryz.prog.underlying 26=some (.struct (Tryz.prog.fieldsOf 26)):=by kernel_rfl
theorem c26:Tryz.prog.cellsOf 26=5:=by kernel_rfl
theorem asx:Lv.Sd (good (H:=H)) enc Tryz.prog W 26 Lv.bE 5 (fun x=>(Lv.Ej 140737488351232 x)):=Lv.vY laws (fun p:List UInt8×List Lv.aA×List Int×List Lv.bT×Int×Unit=>(⟨p.1,p.2.1,p.2.2.1,p.2.2.2.1,p.2.2.2.2.1⟩:Lv.aL)) u26 c26 (fs:=[(9,0),(22,1),(23,2),(24,3),(3,4)]) (by kernel_rfl) (Lv.iE c9 sd9 (Lv.iE c22 asz (Lv.iE c23 aho (Lv.iE c24 asy (Lv.iE c3 Zp Lv.KI))))) (fun p=>rfl) (fun p h=>h)
theorem c27:Tryz.prog.cellsOf 27=1:=by kernel_rfl
theorem u85:Tryz.prog.underlying 85=some (.struct (Tryz.prog.fieldsOf 85)):=by kernel_rfl
theorem c85:Tryz.prog.cellsOf 85=6:=by kernel_rfl
theorem asn:Lv.Sd (good (H:=H)) enc Tryz.prog W 85 Lv.bg 6 (fun x=>(Lv.Ei 140737488351232 x)):=Lv.vY laws (fun p:Int×Int×Int×Lv.aj×Unit=>(⟨p.1,p.2.1,p.2.2.1,p.2.2.2.1⟩:Lv.aY)) u85 c85 (fs:=[(3,0),(3,1),(3,2),(83,3)]) (by kernel_rfl) (Lv.iE c3 Zp (Lv.iE c3 Zp (Lv.iE c3 Zp (Lv.iE c83 ahn Lv.KI)))) (fun p=>rfl) (fun p h=>h)
theorem u27:Tryz.prog.underlying 27=some (.slice 85):=by kernel_rfl
theorem aul:Tryz.prog.bytesOf 85=56:=by kernel_rfl
theorem auf:Tryz.prog.bytesOf 85≠0:=by rw [show Tryz.prog.bytesOf 85=56 by kernel_rfl];decide
theorem asw:Lv.Sd (good (H:=H)) enc Tryz.prog W 27 (Lv.eL 6 Lv.bg) 1 (fun x=>(x.length*56≤140737488351232∧∀y∈x,(Lv.Ei 140737488351232 y))):=Lv.vZ laws (K:=56) u27 c85 (by decide) auf (Lv.qm u27 aul) asn
theorem u30:Tryz.prog.underlying 30=some (.struct (Tryz.prog.fieldsOf 30)):=by kernel_rfl
theorem c30:Tryz.prog.cellsOf 30=4:=by kernel_rfl
theorem asv:Lv.Sd (good (H:=H)) enc Tryz.prog W 30 Lv.dQ 4 (fun x=>(Lv.BN 140737488351232 x)):=Lv.vY laws (fun p:List Lv.aY×List Int×List Lv.aX×Int×Unit=>(⟨p.1,p.2.1,p.2.2.1,p.2.2.2.1⟩:Lv.bG)) u30 c30 (fs:=[(27,0),(23,1),(28,2),(3,3)]) (by kernel_rfl) (Lv.iE c27 asw (Lv.iE c23 aho (Lv.iE c28 akD (Lv.iE c3 Zp Lv.KI)))) (fun p=>rfl) (fun p h=>h)
theorem u71:Tryz.prog.underlying 71=some (.slice 83):=by kernel_rfl
theorem aum:Tryz.prog.bytesOf 83=32:=by kernel_rfl
theorem aug:Tryz.prog.bytesOf 83≠0:=by rw [show Tryz.prog.bytesOf 83=32 by kernel_rfl];decide
theorem aso:Lv.Sd (good (H:=H)) enc Tryz.prog W 71 (Lv.eL 3 Lv.au) 1 (fun x=>(x.length*32≤140737488351232∧∀y∈x,(Lv.nV 140737488351232 y))):=Lv.vZ laws (K:=32) u71 c83 (by decide) aug (Lv.qm u71 aum) ahn
theorem u31:Tryz.prog.underlying 31=some (.slice 71):=by kernel_rfl
theorem c71:Tryz.prog.cellsOf 71=1:=by kernel_rfl
theorem aun:Tryz.prog.bytesOf 71=24:=by kernel_rfl
theorem auh:Tryz.prog.bytesOf 71≠0:=by rw [show Tryz.prog.bytesOf 71=24 by kernel_rfl];decide
theorem asu:Lv.Sd (good (H:=H)) enc Tryz.prog W 31 (Lv.eL 1 (Lv.eL 3 Lv.au)) 1 (fun x=>(x.length*24≤140737488351232∧∀y∈x,(y.length*32≤140737488351232∧∀z∈y,(Lv.nV 140737488351232 z)))):=Lv.vZ laws (K:=24) u31 c71 (by decide) auh (Lv.qm u31 aun) aso
end
end Go.Proofs.YtfjogpadeelnkaaGreatDoor
