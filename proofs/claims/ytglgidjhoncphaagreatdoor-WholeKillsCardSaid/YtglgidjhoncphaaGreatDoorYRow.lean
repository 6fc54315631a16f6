/- Proved here: contracts of functions of this program, under the premises that each theorem names. -/
import Derived.LaidMore
import Derived.Stop.Joined
import Derived.Test.YtglgidjhoncphaaGreatDoorYzb
set_option linter.all false
set_option maxRecDepth 4000
set_option maxHeartbeats 4000000
open List renaming getElem?_eq_getElem->Uo,length_map->VP,drop_zero->WF
open Go.Proofs.Tryz renaming prog->U3,underlying3->U4,underlying4->XL
open Option.some renaming inj->VB,injEq->V3
open Go.DataW renaming trod->VW,trod_int->XK
open Prod.mk renaming injEq->WE
namespace Go.Proofs.YtglgidjhoncphaaGreatDoor
open Go Go.QM Go.ChangeShapes Go.WideShapes Go.ChangeAt Go.RowKit
theorem own:ownKnob Tryz.prog.godebug=none:=by kernel_rfl
theorem OI:laidOutB U3=true:=by kernel_rfl
theorem readable:∀t∈Tryz.f3.params.toList,Tryz.prog.readableRec t=true/\t<Tryz.prog.types.size:=by rw[Tryz.params3];intro t d;simp only[List.mem_cons,List.not_mem_nil,or_false]at d;rcases d with rfl|rfl|rfl<;>exact⟨by kernel_rfl,ds aR⟩
theorem C0{α:Type}{ce:α->List Value}{sz:Nat}:∀{L:List α} {cs:List Value},cs.length=L.length*sz->(∀i a,L[i]? =some a->(cs.drop (i*sz)).take sz=ce a)->cs=L.flatMap ce
 | [],cs,d,_=>by rw[List.length_nil,Nat.zero_mul]at d;rw[List.length_eq_zero_iff.1 d];rfl
 | a::L,cs,d,h=>by have u:=h 0 a rfl;rw[Nat.zero_mul,WF]at u;rw[List.length_cons,Nat.succ_mul]at d;have C:=C0 (ce:=ce) (sz:=sz) (L:=L) (cs:=cs.drop sz) (by rw[List.length_drop];omega) (λi b w=>by have:=h (i+1) b w;rwa[Nat.succ_mul,Nat.add_comm,<-List.drop_drop]at this);rw[List.flatMap_cons,<-u,<-C,List.take_append_drop]
section
variable {H : Type} {enc : TypeId × Value → H} {P : Program} {W : World} {b : Nat} {dC : Nat → Bool} {held : Bool}
theorem yo{α:Type}{n:Nat}{e t:TypeId}{fuel:Nat}{cs:List Value}{q:List MemPlace}{L:List α}(ce:α->List Value)(dA:α->DataW H)(sz:Nat)(ao:P.underlying t=some (.array n e))(Q:P.cellsOf e=sz)(V:P.cellsOf t=n*sz)
 (N:∀m w a q,VW enc P W b dC held m e w=some (dA a,q)->w=ce a) (h:VW enc P W b dC held fuel t cs=some (.agg (L.map dA),q)):cs=L.flatMap ce:=by
 obtain⟨xs,m,rfl,u,an,au,Z⟩:=DataW.trod_array ao h;simp only[WE,DataW.agg.injEq]at u;have C:L.length=n:=by have:=congrArg List.length u.1;rw[VP,VP]at this;omega
 refine C0 (sz:=sz) (by rw[an,V,C]) (λi a D=>?_);have ag:i<n:=by rw[<-C];exact(List.getElem?_eq_some_iff.1 D).1
 have d:=Z i ag;rw[Q]at d;have E:i<xs.length:=U
 rw[Uo E]at d;have O:(xs[i]).1=dA a:=(by have:=congrArg (λz=>z[i]?) u.1;simp only[List.getElem?_map,D,Uo E,Option.map_some,V3]at this;exact this.symm);exact N m _ a (xs[i]).2 (by rw[d,<-O])
theorem Er{k:IntKind}{t:TypeId}(C:P.underlying t=some (.int k))(m:Nat)(d:List Value)(a:Int)(q:List MemPlace)(h:VW enc P W b dC held m t d=some (.lit (.int k a),q)):d=[.int k a]:=by obtain⟨n,w,u,_⟩:=XK C h;simp only[WE,DataW.lit.injEq,Lit.int.injEq,true_and]at u;rw[w,u.1]
end
theorem BH{P:Program}{w:World}{n:String}{g:Nat}{cs:Array Value}(u:P.globalNamed n=some g)(h:w.var? P n=some cs):∃E d,w.heap[g]? =some (.cells cs E d):=by simp only[World.var?,u,Option.bind_some]at h;split at h<;>simp_all
def JK:List (Int×Int×Bool):=[(0,0,false),(1,1,true),(0,8,true),(3,2,true),(3,2,true),(4,2,true),(5,2,true),(5,2,true),(5,2,true),(5,1,true),(4,1,true),(0,0,false),(0,0,false),(0,0,false),(0,0,false),(2,2,true),(0,0,true),(8,1,true),(8,2,true)]
theorem JM{W:World}{b:Nat}{au:Nat->Bool}{held:Bool}{H:Type}{enc:TypeId×Value->H}(m:Nat)(w:List Value)(a:Int×Int×Bool)(q:List MemPlace)(h:VW enc U3 W b au held m 340 w=some (.agg [.lit (.int .i64 a.1),.lit (.int .i64 a.2.1),.lit (.bool a.2.2)],q)):w=je a.1 a.2.1 a.2.2:=by
 obtain⟨xs,n,_,Z,V,hlen,N⟩:=DataW.trod_struct Tryz.underlying340 h;rw[show Tryz.prog.cellsOf 340=3 from by kernel_rfl]at V;obtain⟨d,u,c2,rfl⟩:∃d u c2,w=[d,u,c2]:=(by match w,V with|[d,u,c2],_=>exact⟨d,u,c2,rfl⟩);have hlen:xs.length=3:=hlen;obtain⟨C,D,E,rfl⟩:∃C D E,xs=[C,D,E]:=(by match xs,hlen with|[C,D,E],_=>exact⟨C,D,E,rfl⟩);have ar:Tryz.prog.cellsOf 3=1:=aR
 have ao:Tryz.prog.cellsOf 4=1:=aR
 have O:=N 0 _ rfl;have P:=N 1 _ rfl;have Q:=N 2 _ rfl;simp only[List.getElem_toArray,List.getElem_cons_zero,List.getElem_cons_succ,ar,ao,WF,List.drop_succ_cons,List.take_succ_cons,List.take_zero]at O P Q;obtain⟨ax,ey,f0,_⟩:=XK U4 O;obtain⟨bO,ag,f1,_⟩:=XK U4 P;obtain⟨aA,an,f2⟩:=DataW.trod_bool XL Q;cases ey;cases ag;cases an;subst f0 f1 f2;simp only[List.map_cons,List.map_nil,WE,DataW.agg.injEq,List.cons.injEq,DataW.lit.injEq,Lit.int.injEq,Lit.bool.injEq,true_and,and_true]at Z;obtain⟨⟨g0,g1,g2⟩,_⟩:=Z;rw[g0,g1,g2];rfl
theorem M4{W:World}(h:laidMetH U3 Rows.wholeKillsRow.laid W):c8 (here W):=by rw[MakeChecks.laidMetH_plain _ _ _ aR]at h;obtain⟨a7,⟨g0,t0,a0,f0,a5,a8,a3,a4,qt,a2,⟨g1,t1,N,f1,fT,a9,d,ar,aA,ag,⟨g2,t2,O,f2,ha,bb,u,au,aC,an,⟨g3,t3,P,f3,rB,bd,w,ax,aH,ao,_,_⟩,_⟩,_⟩,_⟩,_,_⟩:=h;obtain rfl:=VB ((show Tryz.prog.globalNamed _=some 2 by kernel_rfl).symm.trans d);obtain rfl:=VB ((show Tryz.prog.globalNamed _=some 0 by kernel_rfl).symm.trans u);obtain rfl:=VB ((show Tryz.prog.globalNamed _=some 1 by kernel_rfl).symm.trans w);obtain rfl:=VB ((show(Tryz.prog.globals[2]?).map (·.type)=some 411 by kernel_rfl).symm.trans ar);obtain rfl:=VB ((show(Tryz.prog.globals[0]?).map (·.type)=some 226 by kernel_rfl).symm.trans au);obtain rfl:=VB ((show(Tryz.prog.globals[1]?).map (·.type)=some 341 by kernel_rfl).symm.trans ax);have Q:N.toList=s5:=(by have:=yo (L:=Lib.deBruijn64tab.map λn:Nat=>(n:Int)) (λa=>[k9 a]) (λa=>.lit (.int .u8 a)) 1 Tryz.underlying411 aR aR (Er Tryz.underlying5) ag;exact this.trans aR);have V:O.toList=qj:=(by have:=yo (L:=[0,64,128,256,32,32,48,256]) (λa=>[aa a]) (λa=>.lit (.int .i64 a)) 1 Tryz.underlying226 aR aR (Er U4) an;exact this.trans aR);have Z:P.toList=sg:=(by have:=yo (L:=JK) (λa=>je a.1 a.2.1 a.2.2) (λa=>.agg [.lit (.int .i64 a.1),.lit (.int .i64 a.2.1),.lit (.bool a.2.2)]) 3 Tryz.underlying341 aR aR JM ao;exact this.trans aR);obtain⟨D,aX,bO⟩:=BH d aA;obtain⟨E,z2,aK⟩:=BH u aC;obtain⟨H,z3,aQ⟩:=BH w aH;refine⟨⟨E,z2,λC e=>?_⟩,⟨H,z3,λC e=>?_⟩,⟨D,aX,λC e=>?_⟩⟩;rw[e,aK,<-V];rw[e,aQ,<-Z];rw[e,bO,<-Q]
theorem Lx(os:Os)(args:Array Value):laidMetH U3 Rows.wholeKillsRow.laid ((World.doorLaid U3 43 os).forCall (λ_ _=>0) ⟨#[],args,[]⟩).memory:=
 laidMetH_of_parts3 (fuel:=8) (laidMet_of_run' 8 aR aR) aR aR
theorem lifted(os:Os)(started:os.Started)(H:Type)(enc:TypeId×Value->H):
 ReturnsInHanded {} Tryz.checked os 3 .any (λw args=>(Rows.wholeKillsSpec.pre enc U3 Tryz.f3 [] false w args/\laidMetH U3 Rows.wholeKillsRow.laid w)/\sizedMet enc U3 Tryz.f3 (OpenSpec.ofChange Rows.wholeKillsSpec) false w args)
  (Rows.wholeKillsSpec.post enc U3 Tryz.f3 false true false false):=by
 refine returnsInHanded_of_change_and (C:=Tryz.checked) (X:=λw _=>laidMetH U3 Rows.wholeKillsRow.laid w) (λ_ _ _ au h=>h.of_heap au) own started aR Tryz.func3
  (ChangeSpec.witness_shaped (enc:=enc) (C:=Tryz.checked) (os:=os) (X:=λw _=>laidMetH U3 Rows.wholeKillsRow.laid w) false (World.doorLaid U3 43 os) #[.agg #[aa 0,aa 0,aa 0],.slice none 0 0,k9 0] 8 rfl (World.shaped_of_RefB aR aR) aR aR aR (Lx os _)) ?_
 intro W base args N gs before aC av _ _ ag _;have d:∀(j:Nat) t v,Tryz.f3.params[j]? =some t->args[j]? =some v->Value.okWide U3 W .any base t v:=aC;have ao:=av;obtain⟨p,q,V,an,rfl,aX,a0⟩:=av;have D:DataW.TrodAll enc U3 W 0 (λ_=>true) true Tryz.f3.params.toList args.toList N p:=V;rw[Tryz.params3]at D d;obtain⟨v0,v1,v2,d0,d1,d2,a2,fT,ha,rfl,rfl,rfl,O,P,Q⟩:=trodAll_three D;obtain⟨rfl,rfl⟩:=trodVars_none an;obtain⟨n,lim,aH,rfl⟩:=P6 (d 0 23 v0 rfl rfl) O;obtain⟨di,l,lc,E,rfl,Z,aA,_,ax⟩:=P5 (d 1 24 v1 rfl rfl) P;obtain⟨u,rfl,rfl,rfl,aK⟩:=open_int Tryz.underlying5 (d 2 5 v2 rfl rfl) Q;have bw:=S2 aK;obtain⟨u,rfl⟩:∃n:Nat,u=n:=⟨u.toNat,by omega⟩;refine((kills_ok n lim aH di lc l ax u U).lawful ⟨M4 ag,Z,aA⟩).mono λe aQ ⟨he,ar⟩=>?_;subst he;exact⟨_,rfl,OJ ao rfl rfl aR XL OI readable ar⟩
theorem EO:Tryz.prog.funcNamed Rows.wholeKillsRow.func=some 3:=by kernel_rfl
theorem Ob:Tryz.f3.isInstance U3 Rows.wholeKillsRow.origin Rows.wholeKillsRow.targs:=ds aR
theorem Oc:Tryz.f3.isWrapper U3 Rows.wholeKillsRow.wrapper Rows.wholeKillsRow.mainSum:=by unfold Func.isWrapper;first|(rw[aw (by decide+kernel)];kernel_rfl)|(rw[al (by decide+kernel)];exact⟨rfl,rfl⟩)
theorem Oz:Rows.WholeKillsSaid:=
 OpenClaim.holds_of_wide 3 Tryz.f3 rfl rfl rfl rfl rfl rfl rfl ⟨rfl,rfl,rfl,rfl,rfl⟩ rfl rfl rfl rfl rfl EO Tryz.func3 Q9 Ob Oc (λos started H enc _=>lifted os started H enc)
theorem kills_card:Rows.WholeKillsCardSaid:=
 Claim7.holds_tied_plain_at .later [] [.data, .data, .data, .data] true (true, "2656b22e84306cca343b9ea50bd573a91fa4c338bee4ae38097b1b2b8f3ddc3f") false
  Oz (λ_ h=>by cases h) Kp (λ_ h=>by cases h) wholeKills_row_tie rfl ⟨rfl,rfl⟩ Ko rfl
  (λf fn u w=>by obtain rfl:f=3:=VB (EO.symm.trans u)|>.symm;obtain rfl:fn=Tryz.f3:=(VB (Tryz.func3.symm.trans w)).symm;exact⟨Kn,λj t d=>by rw[Tryz.params3]at d;(have hm:t∈[23,24,5]:=by simpa using Array.mem_of_getElem? d);exact(show Tryz.prog.wantsStandIn t=false by simpa using List.all_eq_true.1 Kl t hm)⟩)
  Km
end Go.Proofs.YtglgidjhoncphaaGreatDoor
