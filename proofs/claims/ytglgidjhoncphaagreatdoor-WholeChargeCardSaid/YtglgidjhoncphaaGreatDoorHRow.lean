/- Proved here: contracts, each under its own premises. -/
import Derived.LaidMore
import Derived.Stop.Joined
import Derived.Test.YtglgidjhoncphaaGreatDoorHk
import Derived.Test.YtglgidjhoncphaaGreatDoorHi
set_option linter.all false
set_option maxRecDepth 4000
set_option maxHeartbeats 4000000
open List renaming getElem?_eq_getElem->Vc,length_map->Wb,drop_zero->Xu
open Go.Proofs.Tryz renaming prog->VU,underlying3->VV,underlying4->YF
open Option.some renaming inj->Ws,injEq->WQ
open Go.DataW renaming trod->WK,trod_int->YD
open Prod.mk renaming injEq->Xt
open Go.Lit renaming int->Yz
namespace Go.Proofs.YtglgidjhoncphaaGreatDoor
open Go.Proofs.Q
open Go Go.QM Go.ChangeShapes Go.WideShapes Go.ChangeAt Go.RowKit
theorem own:ownKnob Tryz.prog.godebug=none:=by kernel_rfl
theorem Pe:laidOutB VU=true:=by kernel_rfl
theorem readable:∀t∈Tryz.f7.params.toList,Tryz.prog.readableRec t=true/\t<Tryz.prog.types.size:=by rw[Tryz.params7];intro t d;simp only[List.mem_cons,List.not_mem_nil,or_false]at d;rcases d with rfl|rfl<;>exact⟨by kernel_rfl,dz aV⟩
theorem DC{α:Type}{ce:α->List Value}{sz:Nat}:∀{L:List α} {cs:List Value},cs.length=L.length*sz->(∀i a,L[i]? =some a->(cs.drop (i*sz)).take sz=ce a)->cs=L.flatMap ce
 | [],cs,d,_=>by rw[List.length_nil,Nat.zero_mul]at d;rw[List.length_eq_zero_iff.1 d];rfl
 | a::L,cs,d,h=>by have u:=h 0 a rfl;rw[Nat.zero_mul,Xu]at u;rw[List.length_cons,Nat.succ_mul]at d;have C:=DC (ce:=ce) (sz:=sz) (L:=L) (cs:=cs.drop sz) (by rw[List.length_drop];omega) (λi b w=>by have:=h (i+1) b w;rwa[Nat.succ_mul,Nat.add_comm,<-List.drop_drop]at this);rw[List.flatMap_cons,<-u,<-C,List.take_append_drop]
section
variable {H : Type} {enc : TypeId × Value → H} {P : Program} {W : World} {b : Nat} {dF : Nat → Bool} {held : Bool}
theorem yS{α:Type}{n:Nat}{e t:TypeId}{fuel:Nat}{cs:List Value}{q:List MemPlace}{L:List α}(ce:α->List Value)(dY:α->DataW H)(sz:Nat)(au:P.underlying t=some (.array n e))(V:P.cellsOf e=sz)(Z:P.cellsOf t=n*sz)
 (N:∀m w a q,WK enc P W b dF held m e w=some (dY a,q)->w=ce a) (h:WK enc P W b dF held fuel t cs=some (.agg (L.map dY),q)):cs=L.flatMap ce:=by
 obtain⟨xs,m,rfl,u,ar,ao,ag⟩:=DataW.trod_array au h;simp only[Xt,DataW.agg.injEq]at u;have C:L.length=n:=by have:=congrArg List.length u.1;rw[Wb,Wb]at this;omega
 refine DC (sz:=sz) (by rw[ar,Z,C]) (λi a D=>?_);have aq:i<n:=by rw[<-C];exact(List.getElem?_eq_some_iff.1 D).1
 have d:=ag i aq;rw[V]at d;have E:i<xs.length:=U
 rw[Vc E]at d;have O:(xs[i]).1=dY a:=(by have:=congrArg (λz=>z[i]?) u.1;simp only[List.getElem?_map,D,Vc E,Option.map_some,WQ]at this;exact this.symm);exact N m _ a (xs[i]).2 (by rw[d,<-O])
theorem EZ{k:IntKind}{t:TypeId}(C:P.underlying t=some (.int k))(m:Nat)(d:List Value)(a:Int)(q:List MemPlace)(h:WK enc P W b dF held m t d=some (.lit (Yz k a),q)):d=[.int k a]:=by obtain⟨n,w,u,_⟩:=YD C h;simp only[Xt,DataW.lit.injEq,Lit.int.injEq,true_and]at u;rw[w,u.1]
end
theorem Ck{P:Program}{w:World}{n:String}{g:Nat}{cs:Array Value}(u:P.globalNamed n=some g)(h:w.var? P n=some cs):∃E d,w.heap[g]? =some (.cells cs E d):=by simp only[World.var?,u,Option.bind_some]at h;split at h<;>simp_all
def Kj:List (Int×Int×Bool):=[(0,0,false),(1,1,true),(0,8,true),(3,2,true),(3,2,true),(4,2,true),(5,2,true),(5,2,true),(5,2,true),(5,1,true),(4,1,true),(0,0,false),(0,0,false),(0,0,false),(0,0,false),(2,2,true),(0,0,true),(8,1,true),(8,2,true)]
theorem Kl{W:World}{b:Nat}{aw:Nat->Bool}{held:Bool}{H:Type}{enc:TypeId×Value->H}(m:Nat)(w:List Value)(a:Int×Int×Bool)(q:List MemPlace)(h:WK enc VU W b aw held m 340 w=some (.agg [.lit (Yz .i64 a.1),.lit (Yz .i64 a.2.1),.lit (.bool a.2.2)],q)):w=jl a.1 a.2.1 a.2.2:=by
 obtain⟨xs,n,_,ag,Z,hlen,N⟩:=DataW.trod_struct Tryz.underlying340 h;rw[show Tryz.prog.cellsOf 340=3 from by kernel_rfl]at Z;obtain⟨d,u,c2,rfl⟩:∃d u c2,w=[d,u,c2]:=(by match w,Z with|[d,u,c2],_=>exact⟨d,u,c2,rfl⟩);have hlen:xs.length=3:=hlen;obtain⟨C,D,E,rfl⟩:∃C D E,xs=[C,D,E]:=(by match xs,hlen with|[C,D,E],_=>exact⟨C,D,E,rfl⟩);have au:Tryz.prog.cellsOf 3=1:=aV
 have ar:Tryz.prog.cellsOf 4=1:=aV
 have O:=N 0 _ rfl;have P:=N 1 _ rfl;have V:=N 2 _ rfl;simp only[List.getElem_toArray,List.getElem_cons_zero,List.getElem_cons_succ,au,ar,Xu,List.drop_succ_cons,List.take_succ_cons,List.take_zero]at O P V;obtain⟨ay,eB,f0,_⟩:=YD VV O;obtain⟨bN,ao,f1,_⟩:=YD VV P;obtain⟨aA,aq,f2⟩:=DataW.trod_bool YF V;cases eB;cases ao;cases aq;subst f0 f1 f2;simp only[List.map_cons,List.map_nil,Xt,DataW.agg.injEq,List.cons.injEq,DataW.lit.injEq,Lit.int.injEq,Lit.bool.injEq,true_and,and_true]at ag;obtain⟨⟨g0,g1,g2⟩,_⟩:=ag;rw[g0,g1,g2];rfl
theorem NG{W:World}(h:laidMetH VU Rows.wholeChargeRow.laid W):da (here W):=by rw[MakeChecks.laidMetH_plain _ _ _ aV]at h;obtain⟨a8,⟨g0,t0,a2,f0,a7,a9,a4,a5,qG,a3,⟨g1,t1,N,f1,ga,ba,d,au,aA,ao,⟨g2,t2,O,f2,hx,bc,u,aw,aF,aq,⟨g3,t3,P,f3,rU,bd,w,ay,aL,ar,_,_⟩,_⟩,_⟩,_⟩,_,_⟩:=h;obtain rfl:=Ws ((show Tryz.prog.globalNamed _=some 2 by kernel_rfl).symm.trans d);obtain rfl:=Ws ((show Tryz.prog.globalNamed _=some 0 by kernel_rfl).symm.trans u);obtain rfl:=Ws ((show Tryz.prog.globalNamed _=some 1 by kernel_rfl).symm.trans w);obtain rfl:=Ws ((show(Tryz.prog.globals[2]?).map (·.type)=some 411 by kernel_rfl).symm.trans au);obtain rfl:=Ws ((show(Tryz.prog.globals[0]?).map (·.type)=some 226 by kernel_rfl).symm.trans aw);obtain rfl:=Ws ((show(Tryz.prog.globals[1]?).map (·.type)=some 341 by kernel_rfl).symm.trans ay);have V:N.toList=th:=(by have:=yS (L:=Lib.deBruijn64tab.map λn:Nat=>(n:Int)) (λa=>[m6 a]) (λa=>.lit (Yz .u8 a)) 1 Tryz.underlying411 aV aV (EZ Tryz.underlying5) ao;exact this.trans aV);have Z:O.toList=qu:=(by have:=yS (L:=[0,64,128,256,32,32,48,256]) (λa=>[aa a]) (λa=>.lit (Yz .i64 a)) 1 Tryz.underlying226 aV aV (EZ VV) aq;exact this.trans aV);have ag:P.toList=sx:=(by have:=yS (L:=Kj) (λa=>jl a.1 a.2.1 a.2.2) (λa=>.agg [.lit (Yz .i64 a.1),.lit (Yz .i64 a.2.1),.lit (.bool a.2.2)]) 3 Tryz.underlying341 aV aV Kl ar;exact this.trans aV);obtain⟨D,a0,bN⟩:=Ck d aA;obtain⟨E,z2,aP⟩:=Ck u aF;obtain⟨H,z3,aW⟩:=Ck w aL;refine⟨⟨E,z2,λC e=>?_⟩,⟨H,z3,λC e=>?_⟩,⟨D,a0,λC e=>?_⟩⟩;rw[e,aP,<-Z];rw[e,aW,<-ag];rw[e,bN,<-V]
theorem Ma(os:Os)(args:Array Value):laidMetH VU Rows.wholeChargeRow.laid ((World.doorLaid VU 43 os).forCall (λ_ _=>0) ⟨#[],args,[]⟩).memory:=
 laidMetH_of_parts3 (fuel:=8) (laidMet_of_run' 8 aV aV) aV aV
theorem lifted(os:Os)(started:os.Started)(H:Type)(enc:TypeId×Value->H):
 ReturnsInHanded {} Tryz.checked os 7 .any (λw args=>(Rows.wholeChargeSpec.pre enc VU Tryz.f7 [] false w args/\laidMetH VU Rows.wholeChargeRow.laid w)/\sizedMet enc VU Tryz.f7 (OpenSpec.ofChange Rows.wholeChargeSpec) false w args)
  (Rows.wholeChargeSpec.post enc VU Tryz.f7 false true false false):=by
 refine returnsInHanded_of_change_and (C:=Tryz.checked) (X:=λw _=>laidMetH VU Rows.wholeChargeRow.laid w) (λ_ _ _ ar h=>h.of_heap ar) own started aV Tryz.func7
  (ChangeSpec.witness_shaped (enc:=enc) (C:=Tryz.checked) (os:=os) (X:=λw _=>laidMetH VU Rows.wholeChargeRow.laid w) false (World.doorLaid VU 43 os) #[.agg #[aa 0,aa 0,aa 0],.slice none 0 0] 8 rfl (World.shaped_of_RefB aV aV) aV aV aV (Ma os _)) ?_
 intro W base args D gs before ay av _ _ Z _;have d:∀(j:Nat) t v,Tryz.f7.params[j]? =some t->args[j]? =some v->Value.okWide VU W .any base t v:=ay;have ao:=av;obtain⟨p,q,P,ag,rfl,aL,aP⟩:=av;have u:DataW.TrodAll enc VU W 0 (λ_=>true) true Tryz.f7.params.toList args.toList D p:=P;rw[Tryz.params7]at u d;obtain⟨v0,v1,d0,d1,aW,ga,rfl,rfl,rfl,N,O⟩:=trodAll_two u;obtain⟨rfl,rfl⟩:=trodVars_none ag;obtain⟨n,lim,aA,rfl⟩:=Qy (d 0 23 v0 rfl rfl) N;obtain⟨dg,l,lc,E,rfl,V,aw,_,au⟩:=Qx (d 1 24 v1 rfl rfl) O;refine((charge_ok n lim aA dg lc l au).lawful ⟨NG Z,V,aw⟩).mono λe aF ⟨he,aq⟩=>?_;subst he;exact⟨_,rfl,Pf ao rfl rfl aV YF Pe readable aq⟩
theorem Fl:Tryz.prog.funcNamed Rows.wholeChargeRow.func=some 7:=by kernel_rfl
theorem OS:Tryz.f7.isInstance VU Rows.wholeChargeRow.origin Rows.wholeChargeRow.targs:=dz aV
theorem OT:Tryz.f7.isWrapper VU Rows.wholeChargeRow.wrapper Rows.wholeChargeRow.mainSum:=by unfold Func.isWrapper;first|(rw[ax (by decide+kernel)];kernel_rfl)|(rw[al (by decide+kernel)];exact⟨rfl,rfl⟩)
theorem K6:Rows.WholeChargeSaid:=
 OpenClaim.holds_of_wide 7 Tryz.f7 rfl rfl rfl rfl rfl rfl rfl ⟨rfl,rfl,rfl,rfl,rfl⟩ rfl rfl rfl rfl rfl Fl Tryz.func7 RP OS OT (λos started H enc _=>lifted os started H enc)
theorem charge_card:Rows.WholeChargeCardSaid:=
 Claim7.holds_tied_plain_at .later [] [.data, .data, .data, .data] true (true, "2656b22e84306cca343b9ea50bd573a91fa4c338bee4ae38097b1b2b8f3ddc3f") false
  K6 (λ_ h=>by cases h) KW (λ_ h=>by cases h) wholeCharge_row_tie rfl ⟨rfl,rfl⟩ KV rfl
  (λf fn u w=>by obtain rfl:f=7:=Ws (Fl.symm.trans u)|>.symm;obtain rfl:fn=Tryz.f7:=(Ws (Tryz.func7.symm.trans w)).symm;exact⟨KU,λj t d=>by rw[Tryz.params7]at d;(have hm:t∈[23,24]:=by simpa using Array.mem_of_getElem? d);exact(show Tryz.prog.wantsStandIn t=false by simpa using List.all_eq_true.1 KS t hm)⟩)
  KT
end Go.Proofs.YtglgidjhoncphaaGreatDoor
