/- The law ExecPages of the seat: for every arguments it returns true, and memory reads as it did. No condition of its own. -/
import Derived.Test.YtfjogpadeelnkaaGreatDoorA5
import Derived.Test.YtfjogpadeelnkaaGreatDoorKExecPagesr
set_option linter.unnecessarySimpa false
set_option linter.unusedVariables false
set_option linter.unusedSimpArgs false
namespace Go.Proofs.YtfjogpadeelnkaaGreatDoor
open Go.ChangeShapes Go.WideShapes Go.ChangeAt Go.RowKit
set_option maxRecDepth 100000
theorem JU (W:World) (a0:Lv.aL) (a1:Lv.bG) (a2:List (List Lv.aj)) (a3:Int) (k0:(Lv.Ej 140737488351232 a0)) (k1:(Lv.BN 140737488351232 a1)) (k2:(a2.length*24≤140737488351232∧∀y∈a2,(y.length*32≤140737488351232∧∀z∈y,(Lv.nV 140737488351232 z)))) (k3:(-9223372036854775808≤a3∧a3 < 9223372036854775808)) (fG:Array Value)
  (hT:Go.Lib.Utf8Tabs (Tryz.laysValid_ren.g 3) (Tryz.laysValid_ren.g 4) W) (hm:∃m,W.cell? ⟨0,0,none⟩=some (.int .i64 m))
  (hv:Lv.oo (fun a=>W.cell? a) (fun _=>none) [.d (Lv.bE a0),.d (Lv.dQ a1),.d ((Lv.eL 1 (Lv.eL 3 Lv.au)) a2),.d (Lv.eI a3)] fG):
  Calls Tryz.prog 5 fG W fun e W'=>e=.returned (.bool true)∧Below W.heap.size W W':=
 @Lv.JW (Sg W) Tryz.prog 5 _ _ _ _ (@Lv.Ey (Sg W) (akp hT hm) a0 a1 a2 a3 true (@Lv.MF (Sg W) a0 a1 a2 a3 (Lv.akX (by decide) k0) (Lv.akY (by decide) k1) k1.2.2.1.1 (Lv.aec (by decide) (by decide) k2) (Lv.aa3 (by decide) (by decide) k2.1))) rfl W (fun _ _ h=>h) hv
theorem JR (os:Os) {H:Type} (enc:TypeId×Value→H):∃places,DataW.whole enc Tryz.prog ((World.laidAll Tryz.prog os Rows.execPagesRow.laid).forCall (fun _ _=>0) ⟨#[],#[.agg #[.string ⟨#[]⟩,.slice none 0 0,.slice none 0 0,.slice none 0 0,.int .i64 0],.agg #[.slice none 0 0,.slice none 0 0,.slice none 0 0,.int .i64 0],.slice none 0 0,.int .i64 0],[]⟩).memory Tryz.f5.params.toList Rows.execPagesSpec.vars false #[Value.agg #[.string ⟨#[]⟩,.slice none 0 0,.slice none 0 0,.slice none 0 0,.int .i64 0],.agg #[.slice none 0 0,.slice none 0 0,.slice none 0 0,.int .i64 0],.slice none 0 0,.int .i64 0].toList 8=some ([.agg [.lit (.string []),.nil,.nil,.nil,.lit (.int .i64 0)],.agg [.nil,.nil,.nil,.lit (.int .i64 0)],.nil,.lit (.int .i64 0)],[],places):=
 ⟨[],by kernel_rfl⟩
theorem Ih (os:Os) (started:os.Started) (H:Type) (enc:TypeId×Value→H) (F:Stop.Interp):
  ReturnsInHanded {} Tryz.checked os 5 .any ((OpenSpec.ofChange Rows.execPagesSpec).preRow enc Tryz.prog Tryz.f5 Rows.execPagesRow.domain false Rows.execPagesRow.laid) (((OpenSpec.ofChange Rows.execPagesSpec).at F).post enc Tryz.prog Tryz.f5 false true false false):=by
 obtain ⟨places,hx⟩:=JR os enc
 refine returnsInHanded_of_row (C:=Tryz.checked) (s:=OpenSpec.ofChange Rows.execPagesSpec) own started (by kernel_rfl) Tryz.func5
  (witness_row_at (enc:=enc) (C:=Tryz.checked) false (World.laidAll Tryz.prog os Rows.execPagesRow.laid) #[.agg #[.string ⟨#[]⟩,.slice none 0 0,.slice none 0 0,.slice none 0 0,.int .i64 0],.agg #[.slice none 0 0,.slice none 0 0,.slice none 0 0,.int .i64 0],.slice none 0 0,.int .i64 0] (World.laidAll_os _ _ _) (by kernel_rfl) (by kernel_rfl) (by kernel_rfl)
   (OpenSpec.preRow_of_cond 8 hx (by kernel_rfl) (fun k hk=>by cases hk) (by kernel_rfl) (by rw [MakeChecks.laidMetH_plain _ _ _ (by kernel_rfl)];exact laidMet_laidAll _ (by kernel_rfl) (by kernel_rfl)))) ?_
 intro W base args ds gs before hval0 hW _ hcond hsz0 hL hsh _
 have hval:∀(j:Nat) t v,Tryz.f5.params[j]?=some t→args[j]?=some v→Value.okWide Tryz.prog W .any base t v:=hval0
 have hsz:(DataW.weightsEach Tryz.prog (Tryz.f5.params.toList++Rows.execPagesSpec.plain.varTypes Tryz.prog) (ds++gs)).all (·≤reachBytes)=true:=hsz0
 have hW':=hW
 obtain ⟨p,q,hA0,hV,rfl,hfz,hnd⟩:=hW
 have hA:DataW.TrodAll enc Tryz.prog W 0 (fun _=>true) true Tryz.f5.params.toList args.toList ds p:=hA0
 rw [Tryz.params5] at hA hval hsz
 obtain ⟨v0,vs0,d0,ds0,p0,q0,hargs,rfl,rfl,h0,r0⟩:=trodAll_cons hA
 obtain ⟨v1,vs1,d1,ds1,p1,q1,rfl,rfl,rfl,h1,r1⟩:=trodAll_cons r0
 obtain ⟨v2,vs2,d2,ds2,p2,q2,rfl,rfl,rfl,h2,r2⟩:=trodAll_cons r1
 obtain ⟨v3,vs3,d3,ds3,p3,q3,rfl,rfl,rfl,h3,r3⟩:=trodAll_cons r2
 obtain ⟨rfl,rfl,rfl⟩:=trodAll_nil r3
 obtain rfl:args=#[v0,v1,v2,v3]:=by cases args;simp_all
 obtain ⟨rfl,rfl⟩:=trodVars_none hV
 have lt0:∀x∈p0,x.block < W.heap.size:=by obtain ⟨m,hm⟩:=h0;exact DataW.trod_lt m _ _ _ hm
 have lt1:∀x∈p1,x.block < W.heap.size:=by obtain ⟨m,hm⟩:=h1;exact DataW.trod_lt m _ _ _ hm
 have lt2:∀x∈p2,x.block < W.heap.size:=by obtain ⟨m,hm⟩:=h2;exact DataW.trod_lt m _ _ _ hm
 have lt3:∀x∈p3,x.block < W.heap.size:=by obtain ⟨m,hm⟩:=h3;exact DataW.trod_lt m _ _ _ hm
 obtain ⟨a0,V0,k0⟩:=Lv.Wd laws asx h0 (.inl fun a=>⟨rfl,by obtain ⟨cs,e,_⟩:=okWide_struct u26 (hval 0 26 v0 rfl rfl);exact ⟨cs,e⟩⟩) (Ka hsz (j:=0) (t:=26) rfl rfl)
 obtain ⟨a1,V1,k1⟩:=Lv.Wd laws asv h1 (.inl fun a=>⟨rfl,by obtain ⟨cs,e,_⟩:=okWide_struct u30 (hval 1 30 v1 rfl rfl);exact ⟨cs,e⟩⟩) (Ka hsz (j:=1) (t:=30) rfl rfl)
 obtain ⟨a2,V2,k2⟩:=Lv.Wd laws asu h2 (.inr fun a=>⟨rfl,fun cs e=>by obtain ⟨x,y,z,e'⟩:=okWide_slice u31 (hval 2 31 v2 rfl rfl);rw [e'] at e;cases e⟩) (Ka hsz (j:=2) (t:=31) rfl rfl)
 obtain ⟨a3,V3,k3⟩:=Lv.Wd laws Zp h3 (.inr fun a=>⟨rfl,fun cs e=>by obtain ⟨x,e'⟩:=okWide_int u3 (hval 3 3 v3 rfl rfl);rw [e'] at e;cases e⟩) (Ka hsz (j:=3) (t:=3) rfl rfl)
 clear hA0 hval0 hsz0
 have hT:=adM hL (.tail _ (abY▸.head _)) (Zl▸.head _) (by kernel_rfl)
 refine (JU W a0 a1 a2 a3 k0 k1 k2 k3 _ hT (Yu hsh) (Lv.Fe V0 (Lv.Fe V1 (Lv.Fe V2 (Lv.Fe V3 Lv.adz))))).mono fun e W' ⟨he,bel⟩=>?_
 subst he
 exact ⟨_,rfl,_,_,_,[],_,[],hW',trodAll_mk1 (shut_bool u4 _),(trodAll_cons_mk (Below.trod laidOut (by kernel_rfl) (of_decide_eq_true (by kernel_rfl)) h0 bel lt0) (trodAll_cons_mk (Below.trod laidOut (by kernel_rfl) (of_decide_eq_true (by kernel_rfl)) h1 bel lt1) (trodAll_cons_mk (Below.trod laidOut (by kernel_rfl) (of_decide_eq_true (by kernel_rfl)) h2 bel lt2) (trodAll_cons_mk (Below.trod laidOut (by kernel_rfl) (of_decide_eq_true (by kernel_rfl)) h3 bel lt3) trodAll_mk0)))),rfl,bel.frame _,fun h=>by cases h⟩
theorem Ch:Rows.ExecPagesSaid:=
 OpenClaim.holds_of_cond 5 Tryz.f5 rfl rfl rfl rfl rfl rfl rfl ⟨rfl,rfl,rfl,rfl,rfl⟩ rfl rfl rfl rfl rfl (by kernel_rfl) Tryz.func5 (by kernel_rfl)
  (of_decide_eq_true (by kernel_rfl)) (by unfold Func.isWrapper;first | (rw [if_pos (by decide +kernel)];kernel_rfl) | (rw [if_neg (by decide +kernel)];exact ⟨rfl,rfl⟩))
  (fun os started H enc _ F=>by rw [OpenClaim.pre_eq_preRow];exact Ih os started H enc F)
theorem execPages_card:Rows.ExecPagesCardSaid:=
 Claim7.holds_tied_plain_at .later [] _ _ _ _ Ch (fun _ h=>by cases h) (by kernel_rfl) (fun _ h=>by cases h) execPages_row_tie rfl ⟨rfl,rfl⟩ (by kernel_rfl) rfl
  (fun f fn hf hfn=>by
   obtain rfl:f=5:=Option.some.inj ((show Tryz.prog.funcNamed "granary/granarylaw22.ExecPages" = some 5 by kernel_rfl).symm.trans hf) |>.symm
   obtain rfl:fn=Tryz.f5:=(Option.some.inj (Tryz.func5.symm.trans hfn)).symm
   exact ⟨by kernel_rfl,fun j t ht=>by
    rw [Tryz.params5] at ht
    have hm:t∈[26,30,31,3]:=by simpa using Array.mem_of_getElem? ht
    have hall:([26,30,31,3].all fun u=> !Tryz.prog.wantsStandIn u)=true:=by kernel_rfl
    exact (show Tryz.prog.wantsStandIn t=false by simpa using List.all_eq_true.1 hall t hm)⟩)
  (by kernel_rfl)
#print axioms Ch
#print axioms execPages_card
end Go.Proofs.YtfjogpadeelnkaaGreatDoor
