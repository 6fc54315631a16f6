/- Proved here: the card of WholeGrace, grace_card, in full and without any condition: what a script deletes waits its whole period with its bytes unturned, and its last tick frees it. -/
import Derived.LaidMore
import Derived.Stop.Joined
import Derived.Test.YtglgidjhoncphaaGreatDoorGk
import Derived.Test.YtglgidjhoncphaaGreatDoorGi
set_option linter.all false
set_option maxRecDepth 4000
set_option maxHeartbeats 4000000
open List renaming getElem?_eq_getElem->Ve,length_map->V5,drop_zero->Xz
open Go.Proofs.Tryz renaming prog->VS,underlying3->VW,underlying4->YG
open Option.some renaming inj->Wn,injEq->WU
open Go.DataW renaming trod->WQ,trod_int->YF
open Prod.mk renaming injEq->Xy
open Go.Lit renaming int->YA
namespace Go.Proofs.YtglgidjhoncphaaGreatDoor
open Go.Proofs.Q
open Go Go.QM Go.ChangeShapes Go.WideShapes Go.ChangeAt Go.RowKit
theorem own:ownKnob Tryz.prog.godebug=none:=by kernel_rfl
theorem Pk:laidOutB VS=true:=by kernel_rfl
theorem readable:∀t∈Tryz.f6.params.toList,Tryz.prog.readableRec t=true/\t<Tryz.prog.types.size:=by rw[Tryz.params6];intro t d;simp only[List.mem_cons,List.not_mem_nil,or_false]at d;rcases d with rfl|rfl<;>exact⟨by kernel_rfl,dz a1⟩
theorem Dp{α:Type}{ce:α->List Value}{sz:Nat}:∀{L:List α} {cs:List Value},cs.length=L.length*sz->(∀i a,L[i]? =some a->(cs.drop (i*sz)).take sz=ce a)->cs=L.flatMap ce
 | [],cs,d,_=>by rw[List.length_nil,Nat.zero_mul]at d;rw[List.length_eq_zero_iff.1 d];rfl
 | a::L,cs,d,h=>by have u:=h 0 a rfl;rw[Nat.zero_mul,Xz]at u;rw[List.length_cons,Nat.succ_mul]at d;have C:=Dp (ce:=ce) (sz:=sz) (L:=L) (cs:=cs.drop sz) (by rw[List.length_drop];omega) (λi b w=>by have:=h (i+1) b w;rwa[Nat.succ_mul,Nat.add_comm,<-List.drop_drop]at this);rw[List.flatMap_cons,<-u,<-C,List.take_append_drop]
section
variable {H : Type} {enc : TypeId × Value → H} {P : Program} {W : World} {b : Nat} {dH : Nat → Bool} {held : Bool}
theorem yP{α:Type}{n:Nat}{e t:TypeId}{fuel:Nat}{cs:List Value}{q:List MemPlace}{L:List α}(ce:α->List Value)(dY:α->DataW H)(sz:Nat)(aq:P.underlying t=some (.array n e))(Q:P.cellsOf e=sz)(V:P.cellsOf t=n*sz)
 (N:∀m w a q,WQ enc P W b dH held m e w=some (dY a,q)->w=ce a) (h:WQ enc P W b dH held fuel t cs=some (.agg (L.map dY),q)):cs=L.flatMap ce:=by
 obtain⟨xs,m,rfl,u,ah,an,aA⟩:=DataW.trod_array aq h;simp only[Xy,DataW.agg.injEq]at u;have C:L.length=n:=by have:=congrArg List.length u.1;rw[V5,V5]at this;omega
 refine Dp (sz:=sz) (by rw[ah,V,C]) (λi a D=>?_);have Z:i<n:=by rw[<-C];exact(List.getElem?_eq_some_iff.1 D).1
 have d:=aA i Z;rw[Q]at d;have E:i<xs.length:=U
 rw[Ve E]at d;have O:(xs[i]).1=dY a:=(by have:=congrArg (λz=>z[i]?) u.1;simp only[List.getElem?_map,D,Ve E,Option.map_some,WU]at this;exact this.symm);exact N m _ a (xs[i]).2 (by rw[d,<-O])
theorem EP{k:IntKind}{t:TypeId}(C:P.underlying t=some (.int k))(m:Nat)(d:List Value)(a:Int)(q:List MemPlace)(h:WQ enc P W b dH held m t d=some (.lit (YA k a),q)):d=[.int k a]:=by obtain⟨n,w,u,_⟩:=YF C h;simp only[Xy,DataW.lit.injEq,Lit.int.injEq,true_and]at u;rw[w,u.1]
end
theorem B6{P:Program}{w:World}{n:String}{g:Nat}{cs:Array Value}(u:P.globalNamed n=some g)(h:w.var? P n=some cs):∃E d,w.heap[g]? =some (.cells cs E d):=by simp only[World.var?,u,Option.bind_some]at h;split at h<;>simp_all
def Ki:List (Int×Int×Bool):=[(0,0,false),(1,1,true),(0,8,true),(3,2,true),(3,2,true),(4,2,true),(5,2,true),(5,2,true),(5,2,true),(5,1,true),(4,1,true),(0,0,false),(0,0,false),(0,0,false),(0,0,false),(2,2,true),(0,0,true),(8,1,true),(8,2,true)]
theorem Kk{W:World}{b:Nat}{ar:Nat->Bool}{held:Bool}{H:Type}{enc:TypeId×Value->H}(m:Nat)(w:List Value)(a:Int×Int×Bool)(q:List MemPlace)(h:WQ enc VS W b ar held m 340 w=some (.agg [.lit (YA .i64 a.1),.lit (YA .i64 a.2.1),.lit (.bool a.2.2)],q)):w=jh a.1 a.2.1 a.2.2:=by
 obtain⟨xs,n,_,V,Q,hlen,aA⟩:=DataW.trod_struct Tryz.underlying340 h;rw[show Tryz.prog.cellsOf 340=3 from by kernel_rfl]at Q;obtain⟨d,u,c2,rfl⟩:∃d u c2,w=[d,u,c2]:=(by match w,Q with|[d,u,c2],_=>exact⟨d,u,c2,rfl⟩);have hlen:xs.length=3:=hlen;obtain⟨C,D,E,rfl⟩:∃C D E,xs=[C,D,E]:=(by match xs,hlen with|[C,D,E],_=>exact⟨C,D,E,rfl⟩);have aq:Tryz.prog.cellsOf 3=1:=a1
 have an:Tryz.prog.cellsOf 4=1:=a1
 have N:=aA 0 _ rfl;have O:=aA 1 _ rfl;have P:=aA 2 _ rfl;simp only[List.getElem_toArray,List.getElem_cons_zero,List.getElem_cons_succ,aq,an,Xz,List.drop_succ_cons,List.take_succ_cons,List.take_zero]at N O P;obtain⟨au,eB,f0,_⟩:=YF VW N;obtain⟨bS,Z,f1,_⟩:=YF VW O;obtain⟨av,ah,f2⟩:=DataW.trod_bool YG P;cases eB;cases Z;cases ah;subst f0 f1 f2;simp only[List.map_cons,List.map_nil,Xy,DataW.agg.injEq,List.cons.injEq,DataW.lit.injEq,Lit.int.injEq,Lit.bool.injEq,true_and,and_true]at V;obtain⟨⟨g0,g1,g2⟩,_⟩:=V;rw[g0,g1,g2];rfl
theorem NF{W:World}(h:laidMetH VS Rows.wholeGraceRow.laid W):c5 (here W):=by rw[MakeChecks.laidMetH_plain _ _ _ a1]at h;obtain⟨a8,⟨g0,t0,a0,f0,a5,a9,a3,a4,qF,a2,⟨g1,t1,N,f1,ga,bb,d,ar,az,ah,⟨g2,t2,O,f2,ho,bc,u,au,aB,an,⟨g3,t3,P,f3,rP,bd,w,av,aH,aq,_,_⟩,_⟩,_⟩,_⟩,_,_⟩:=h;obtain rfl:=Wn ((show Tryz.prog.globalNamed _=some 2 by kernel_rfl).symm.trans d);obtain rfl:=Wn ((show Tryz.prog.globalNamed _=some 0 by kernel_rfl).symm.trans u);obtain rfl:=Wn ((show Tryz.prog.globalNamed _=some 1 by kernel_rfl).symm.trans w);obtain rfl:=Wn ((show(Tryz.prog.globals[2]?).map (·.type)=some 411 by kernel_rfl).symm.trans ar);obtain rfl:=Wn ((show(Tryz.prog.globals[0]?).map (·.type)=some 226 by kernel_rfl).symm.trans au);obtain rfl:=Wn ((show(Tryz.prog.globals[1]?).map (·.type)=some 341 by kernel_rfl).symm.trans av);have Q:N.toList=tf:=(by have:=yP (L:=Lib.deBruijn64tab.map λn:Nat=>(n:Int)) (λa=>[m7 a]) (λa=>.lit (YA .u8 a)) 1 Tryz.underlying411 a1 a1 (EP Tryz.underlying5) ah;exact this.trans a1);have V:O.toList=qt:=(by have:=yP (L:=[0,64,128,256,32,32,48,256]) (λa=>[aa a]) (λa=>.lit (YA .i64 a)) 1 Tryz.underlying226 a1 a1 (EP VW) an;exact this.trans a1);have Z:P.toList=ss:=(by have:=yP (L:=Ki) (λa=>jh a.1 a.2.1 a.2.2) (λa=>.agg [.lit (YA .i64 a.1),.lit (YA .i64 a.2.1),.lit (.bool a.2.2)]) 3 Tryz.underlying341 a1 a1 Kk aq;exact this.trans a1);obtain⟨D,aW,bS⟩:=B6 d az;obtain⟨E,z2,aL⟩:=B6 u aB;obtain⟨H,z3,aQ⟩:=B6 w aH;refine⟨⟨E,z2,λC e=>?_⟩,⟨H,z3,λC e=>?_⟩,⟨D,aW,λC e=>?_⟩⟩;rw[e,aL,<-V];rw[e,aQ,<-Z];rw[e,bS,<-Q]
theorem L7(os:Os)(args:Array Value):laidMetH VS Rows.wholeGraceRow.laid ((World.doorLaid VS 43 os).forCall (λ_ _=>0) ⟨#[],args,[]⟩).memory:=
 laidMetH_of_parts3 (fuel:=8) (laidMet_of_run' 8 a1 a1) a1 a1
theorem lifted(os:Os)(started:os.Started)(H:Type)(enc:TypeId×Value->H):
 ReturnsInHanded {} Tryz.checked os 6 .any (λw args=>(Rows.wholeGraceSpec.pre enc VS Tryz.f6 [] false w args/\laidMetH VS Rows.wholeGraceRow.laid w)/\sizedMet enc VS Tryz.f6 (OpenSpec.ofChange Rows.wholeGraceSpec) false w args)
  (Rows.wholeGraceSpec.post enc VS Tryz.f6 false true false false):=by
 refine returnsInHanded_of_change_and (C:=Tryz.checked) (X:=λw _=>laidMetH VS Rows.wholeGraceRow.laid w) (λ_ _ _ aq h=>h.of_heap aq) own started a1 Tryz.func6
  (ChangeSpec.witness_shaped (enc:=enc) (C:=Tryz.checked) (os:=os) (X:=λw _=>laidMetH VS Rows.wholeGraceRow.laid w) false (World.doorLaid VS 43 os) #[.agg #[aa 0,aa 0,aa 0],.slice none 0 0] 8 rfl (World.shaped_of_RefB a1 a1) a1 a1 a1 (L7 os _)) ?_
 intro W base args D gs before av aw _ _ V _;have d:∀(j:Nat) t v,Tryz.f6.params[j]? =some t->args[j]? =some v->Value.okWide VS W .any base t v:=av;have ah:=aw;obtain⟨p,q,P,Z,rfl,aH,aL⟩:=aw;have u:DataW.TrodAll enc VS W 0 (λ_=>true) true Tryz.f6.params.toList args.toList D p:=P;rw[Tryz.params6]at u d;obtain⟨v0,v1,d0,d1,aQ,ga,rfl,rfl,rfl,N,O⟩:=trodAll_two u;obtain⟨rfl,rfl⟩:=trodVars_none Z;obtain⟨n,lim,az,rfl⟩:=QK (d 0 23 v0 rfl rfl) N;obtain⟨de,l,lc,E,rfl,Q,au,_,ar⟩:=QJ (d 1 24 v1 rfl rfl) O;refine((grace_ok n lim az de lc l ar).lawful ⟨NF V,Q,au⟩).mono λe aB ⟨he,an⟩=>?_;subst he;exact⟨_,rfl,Pl ah rfl rfl a1 YG Pk readable an⟩
theorem Fb:Tryz.prog.funcNamed Rows.wholeGraceRow.func=some 6:=by kernel_rfl
theorem OT:Tryz.f6.isInstance VS Rows.wholeGraceRow.origin Rows.wholeGraceRow.targs:=dz a1
theorem OU:Tryz.f6.isWrapper VS Rows.wholeGraceRow.wrapper Rows.wholeGraceRow.mainSum:=by unfold Func.isWrapper;first|(rw[ax (by decide+kernel)];kernel_rfl)|(rw[al (by decide+kernel)];exact⟨rfl,rfl⟩)
theorem NA:Rows.WholeGraceSaid:=
 OpenClaim.holds_of_wide 6 Tryz.f6 rfl rfl rfl rfl rfl rfl rfl ⟨rfl,rfl,rfl,rfl,rfl⟩ rfl rfl rfl rfl rfl Fb Tryz.func6 RS OT OU (λos started H enc _=>lifted os started H enc)
theorem grace_card:Rows.WholeGraceCardSaid:=
 Claim7.holds_tied_plain_at .later [] [.data, .data, .data, .data] true (true, "2656b22e84306cca343b9ea50bd573a91fa4c338bee4ae38097b1b2b8f3ddc3f") false
  NA (λ_ h=>by cases h) KX (λ_ h=>by cases h) wholeGrace_row_tie rfl ⟨rfl,rfl⟩ KW rfl
  (λf fn aA u=>by obtain rfl:f=6:=Wn (Fb.symm.trans aA)|>.symm;obtain rfl:fn=Tryz.f6:=(Wn (Tryz.func6.symm.trans u)).symm;exact⟨KV,λj t d=>by rw[Tryz.params6]at d;(have hm:t∈[23,24]:=by simpa using Array.mem_of_getElem? d);exact(show Tryz.prog.wantsStandIn t=false by simpa using List.all_eq_true.1 KT t hm)⟩)
  KU
end Go.Proofs.YtglgidjhoncphaaGreatDoor
