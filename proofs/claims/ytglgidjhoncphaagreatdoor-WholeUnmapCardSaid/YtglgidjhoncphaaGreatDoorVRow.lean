/- Proved here: contracts of functions of this program, under the premises that each theorem names. -/
import Derived.LaidMore
import Derived.Stop.Joined
import Derived.Test.YtglgidjhoncphaaGreatDoorVzb
set_option linter.all false
set_option maxRecDepth 4000
set_option maxHeartbeats 4000000
open List renaming getElem?_eq_getElem->UO,length_map->VI,drop_zero->W9
open Go.Proofs.Tryz renaming prog->Vv,underlying3->Vw,underlying4->Xj
open Option.some renaming inj->VQ,injEq->Wt
open Go.DataW renaming trod->Wm,trod_int->Yb
open Prod.mk renaming injEq->W8
namespace Go.Proofs.YtglgidjhoncphaaGreatDoor
open Go Go.QM Go.ChangeShapes Go.WideShapes Go.ChangeAt Go.RowKit
theorem own:ownKnob Tryz.prog.godebug=none:=by kernel_rfl
theorem Pa:laidOutB Vv=true:=by kernel_rfl
theorem readable:∀t∈Tryz.f4.params.toList,Tryz.prog.readableRec t=true/\t<Tryz.prog.types.size:=by rw[Tryz.params4];intro t d;simp only[List.mem_cons,List.not_mem_nil,or_false]at d;rcases d with rfl|rfl|rfl|rfl<;>exact⟨by kernel_rfl,dt aM⟩
theorem Dq{α:Type}{ce:α->List Value}{sz:Nat}:∀{L:List α} {cs:List Value},cs.length=L.length*sz->(∀i a,L[i]? =some a->(cs.drop (i*sz)).take sz=ce a)->cs=L.flatMap ce
 | [],cs,d,_=>by rw[List.length_nil,Nat.zero_mul]at d;rw[List.length_eq_zero_iff.1 d];rfl
 | a::L,cs,d,h=>by have u:=h 0 a rfl;rw[Nat.zero_mul,W9]at u;rw[List.length_cons,Nat.succ_mul]at d;have C:=Dq (ce:=ce) (sz:=sz) (L:=L) (cs:=cs.drop sz) (by rw[List.length_drop];omega) (λi b w=>by have:=h (i+1) b w;rwa[Nat.succ_mul,Nat.add_comm,<-List.drop_drop]at this);rw[List.flatMap_cons,<-u,<-C,List.take_append_drop]
section
variable {H : Type} {enc : TypeId × Value → H} {P : Program} {W : World} {b : Nat} {ds : Nat → Bool} {held : Bool}
theorem yF{α:Type}{n:Nat}{e t:TypeId}{fuel:Nat}{cs:List Value}{q:List MemPlace}{L:List α}(ce:α->List Value)(dJ:α->DataW H)(sz:Nat)(ar:P.underlying t=some (.array n e))(Q:P.cellsOf e=sz)(V:P.cellsOf t=n*sz)
 (N:∀m w a q,Wm enc P W b ds held m e w=some (dJ a,q)->w=ce a) (h:Wm enc P W b ds held fuel t cs=some (.agg (L.map dJ),q)):cs=L.flatMap ce:=by
 obtain⟨xs,m,rfl,u,aq,an,Z⟩:=DataW.trod_array ar h;simp only[W8,DataW.agg.injEq]at u;have C:L.length=n:=by have:=congrArg List.length u.1;rw[VI,VI]at this;omega
 refine Dq (sz:=sz) (by rw[aq,V,C]) (λi a D=>?_);have ag:i<n:=by rw[<-C];exact(List.getElem?_eq_some_iff.1 D).1
 have d:=Z i ag;rw[Q]at d;have E:i<xs.length:=U
 rw[UO E]at d;have O:(xs[i]).1=dJ a:=(by have:=congrArg (λz=>z[i]?) u.1;simp only[List.getElem?_map,D,UO E,Option.map_some,Wt]at this;exact this.symm);exact N m _ a (xs[i]).2 (by rw[d,<-O])
theorem EP{k:IntKind}{t:TypeId}(C:P.underlying t=some (.int k))(m:Nat)(d:List Value)(a:Int)(q:List MemPlace)(h:Wm enc P W b ds held m t d=some (.lit (.int k a),q)):d=[.int k a]:=by obtain⟨n,w,u,_⟩:=Yb C h;simp only[W8,DataW.lit.injEq,Lit.int.injEq,true_and]at u;rw[w,u.1]
end
theorem B3{P:Program}{w:World}{n:String}{g:Nat}{cs:Array Value}(u:P.globalNamed n=some g)(h:w.var? P n=some cs):∃E d,w.heap[g]? =some (.cells cs E d):=by simp only[World.var?,u,Option.bind_some]at h;split at h<;>simp_all
def Kg:List (Int×Int×Bool):=[(0,0,false),(1,1,true),(0,8,true),(3,2,true),(3,2,true),(4,2,true),(5,2,true),(5,2,true),(5,2,true),(5,1,true),(4,1,true),(0,0,false),(0,0,false),(0,0,false),(0,0,false),(2,2,true),(0,0,true),(8,1,true),(8,2,true)]
theorem Ki{W:World}{b:Nat}{av:Nat->Bool}{held:Bool}{H:Type}{enc:TypeId×Value->H}(m:Nat)(w:List Value)(a:Int×Int×Bool)(q:List MemPlace)(h:Wm enc Vv W b av held m 340 w=some (.agg [.lit (.int .i64 a.1),.lit (.int .i64 a.2.1),.lit (.bool a.2.2)],q)):w=jk a.1 a.2.1 a.2.2:=by
 obtain⟨xs,n,_,Z,V,hlen,N⟩:=DataW.trod_struct Tryz.underlying340 h;rw[show Tryz.prog.cellsOf 340=3 from by kernel_rfl]at V;obtain⟨d,u,c2,rfl⟩:∃d u c2,w=[d,u,c2]:=(by match w,V with|[d,u,c2],_=>exact⟨d,u,c2,rfl⟩);have hlen:xs.length=3:=hlen;obtain⟨C,D,E,rfl⟩:∃C D E,xs=[C,D,E]:=(by match xs,hlen with|[C,D,E],_=>exact⟨C,D,E,rfl⟩);have ar:Tryz.prog.cellsOf 3=1:=aM
 have aq:Tryz.prog.cellsOf 4=1:=aM
 have O:=N 0 _ rfl;have P:=N 1 _ rfl;have Q:=N 2 _ rfl;simp only[List.getElem_toArray,List.getElem_cons_zero,List.getElem_cons_succ,ar,aq,W9,List.drop_succ_cons,List.take_succ_cons,List.take_zero]at O P Q;obtain⟨ax,dh,f0,_⟩:=Yb Vw O;obtain⟨bN,ag,f1,_⟩:=Yb Vw P;obtain⟨aA,an,f2⟩:=DataW.trod_bool Xj Q;cases dh;cases ag;cases an;subst f0 f1 f2;simp only[List.map_cons,List.map_nil,W8,DataW.agg.injEq,List.cons.injEq,DataW.lit.injEq,Lit.int.injEq,Lit.bool.injEq,true_and,and_true]at Z;obtain⟨⟨g0,g1,g2⟩,_⟩:=Z;rw[g0,g1,g2];rfl
theorem NC{W:World}(h:laidMetH Vv Rows.wholeUnmapRow.laid W):c7 (here W):=by rw[MakeChecks.laidMetH_plain _ _ _ aM]at h;obtain⟨a5,⟨g0,t0,aY,f0,a4,a7,a2,a3,qE,a0,⟨g1,t1,N,f1,fX,a8,d,ar,aA,ag,⟨g2,t2,O,f2,hj,a9,u,av,aB,an,⟨g3,t3,P,f3,qQ,bc,w,ax,aG,aq,_,_⟩,_⟩,_⟩,_⟩,_,_⟩:=h;obtain rfl:=VQ ((show Tryz.prog.globalNamed _=some 2 by kernel_rfl).symm.trans d);obtain rfl:=VQ ((show Tryz.prog.globalNamed _=some 0 by kernel_rfl).symm.trans u);obtain rfl:=VQ ((show Tryz.prog.globalNamed _=some 1 by kernel_rfl).symm.trans w);obtain rfl:=VQ ((show(Tryz.prog.globals[2]?).map (·.type)=some 411 by kernel_rfl).symm.trans ar);obtain rfl:=VQ ((show(Tryz.prog.globals[0]?).map (·.type)=some 226 by kernel_rfl).symm.trans av);obtain rfl:=VQ ((show(Tryz.prog.globals[1]?).map (·.type)=some 341 by kernel_rfl).symm.trans ax);have Q:N.toList=tb:=(by have:=yF (L:=Lib.deBruijn64tab.map λn:Nat=>(n:Int)) (λa=>[jC a]) (λa=>.lit (.int .u8 a)) 1 Tryz.underlying411 aM aM (EP Tryz.underlying5) ag;exact this.trans aM);have V:O.toList=qt:=(by have:=yF (L:=[0,64,128,256,32,32,48,256]) (λa=>[aa a]) (λa=>.lit (.int .i64 a)) 1 Tryz.underlying226 aM aM (EP Vw) an;exact this.trans aM);have Z:P.toList=sq:=(by have:=yF (L:=Kg) (λa=>jk a.1 a.2.1 a.2.2) (λa=>.agg [.lit (.int .i64 a.1),.lit (.int .i64 a.2.1),.lit (.bool a.2.2)]) 3 Tryz.underlying341 aM aM Ki aq;exact this.trans aM);obtain⟨D,aV,bN⟩:=B3 d aA;obtain⟨E,z2,aI⟩:=B3 u aB;obtain⟨H,z3,aS⟩:=B3 w aG;refine⟨⟨E,z2,λC e=>?_⟩,⟨H,z3,λC e=>?_⟩,⟨D,aV,λC e=>?_⟩⟩;rw[e,aI,<-V];rw[e,aS,<-Z];rw[e,bN,<-Q]
theorem L4(os:Os)(args:Array Value):laidMetH Vv Rows.wholeUnmapRow.laid ((World.doorLaid Vv 43 os).forCall (λ_ _=>0) ⟨#[],args,[]⟩).memory:=
 laidMetH_of_parts3 (fuel:=8) (laidMet_of_run' 8 aM aM) aM aM
theorem lifted(os:Os)(started:os.Started)(H:Type)(enc:TypeId×Value->H):
 ReturnsInHanded {} Tryz.checked os 4 .any (λw args=>(Rows.wholeUnmapSpec.pre enc Vv Tryz.f4 [] false w args/\laidMetH Vv Rows.wholeUnmapRow.laid w)/\sizedMet enc Vv Tryz.f4 (OpenSpec.ofChange Rows.wholeUnmapSpec) false w args)
  (Rows.wholeUnmapSpec.post enc Vv Tryz.f4 false true false false):=by
 refine returnsInHanded_of_change_and (C:=Tryz.checked) (X:=λw _=>laidMetH Vv Rows.wholeUnmapRow.laid w) (λ_ _ _ av h=>h.of_heap av) own started aM Tryz.func4
  (ChangeSpec.witness_shaped (enc:=enc) (C:=Tryz.checked) (os:=os) (X:=λw _=>laidMetH Vv Rows.wholeUnmapRow.laid w) false (World.doorLaid Vv 43 os) #[.agg #[aa 0,aa 0,aa 0],.slice none 0 0,jC 0,.bool false] 8 rfl (World.shaped_of_RefB aM aM) aM aM aM (L4 os _)) ?_
 intro W base args N gs before aB au _ _ ag _;have d:∀(j:Nat) t v,Tryz.f4.params[j]? =some t->args[j]? =some v->Value.okWide Vv W .any base t v:=aB;have aq:=au;obtain⟨p,q,V,an,rfl,aY,a0⟩:=au;have D:DataW.TrodAll enc Vv W 0 (λ_=>true) true Tryz.f4.params.toList args.toList N p:=V;rw[Tryz.params4]at D d;obtain⟨v0,v1,v2,v3,d0,d1,d2,d3,a2,fX,hj,qQ,rfl,rfl,rfl,O,P,Q,aV⟩:=trodAll_four D;obtain⟨rfl,rfl⟩:=trodVars_none an;obtain⟨n,lim,aG,rfl⟩:=Qy (d 0 23 v0 rfl rfl) O;obtain⟨di,l,lc,E,rfl,Z,aA,_,ax⟩:=Qx (d 1 24 v1 rfl rfl) P;obtain⟨u,rfl,rfl,rfl,aI⟩:=open_int Tryz.underlying5 (d 2 5 v2 rfl rfl) Q;have bo:=Ts aI;obtain⟨u,rfl⟩:∃n:Nat,u=n:=⟨u.toNat,by omega⟩;obtain⟨gB,rfl⟩:=okWide_bool Xj (d 3 4 v3 rfl rfl);refine((unmap_ok n lim aG di lc l ax u U gB).lawful ⟨NC ag,Z,aA⟩).mono λe aS ⟨he,ar⟩=>?_;subst he;exact⟨_,rfl,Pb aq rfl rfl aM Xj Pa readable ar⟩
theorem Fb:Tryz.prog.funcNamed Rows.wholeUnmapRow.func=some 4:=by kernel_rfl
theorem OM:Tryz.f4.isInstance Vv Rows.wholeUnmapRow.origin Rows.wholeUnmapRow.targs:=dt aM
theorem ON:Tryz.f4.isWrapper Vv Rows.wholeUnmapRow.wrapper Rows.wholeUnmapRow.mainSum:=by unfold Func.isWrapper;first|(rw[aw (by decide+kernel)];kernel_rfl)|(rw[al (by decide+kernel)];exact⟨rfl,rfl⟩)
theorem TA:Rows.WholeUnmapSaid:=
 OpenClaim.holds_of_wide 4 Tryz.f4 rfl rfl rfl rfl rfl rfl rfl ⟨rfl,rfl,rfl,rfl,rfl⟩ rfl rfl rfl rfl rfl Fb Tryz.func4 RC OM ON (λos started H enc _=>lifted os started H enc)
theorem unmap_card:Rows.WholeUnmapCardSaid:=
 Claim7.holds_tied_plain_at .later [] [.data, .data, .data, .data] true (true, "2656b22e84306cca343b9ea50bd573a91fa4c338bee4ae38097b1b2b8f3ddc3f") false
  TA (λ_ h=>by cases h) KV (λ_ h=>by cases h) wholeUnmap_row_tie rfl ⟨rfl,rfl⟩ KU rfl
  (λf fn u w=>by obtain rfl:f=4:=VQ (Fb.symm.trans u)|>.symm;obtain rfl:fn=Tryz.f4:=(VQ (Tryz.func4.symm.trans w)).symm;exact⟨KT,λj t d=>by rw[Tryz.params4]at d;(have hm:t∈[23,24,5,4]:=by simpa using Array.mem_of_getElem? d);exact(show Tryz.prog.wantsStandIn t=false by simpa using List.all_eq_true.1 KR t hm)⟩)
  KS
end Go.Proofs.YtglgidjhoncphaaGreatDoor
