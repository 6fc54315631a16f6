/- Proved here: contracts, each under its own premises. -/
import Derived.LaidMore
import Derived.Stop.Joined
import Derived.Test.YtglgidjhoncphaaGreatDoorUk
import Derived.Test.YtglgidjhoncphaaGreatDoorUi
set_option linter.all false
set_option maxRecDepth 4000
set_option maxHeartbeats 4000000
open List renaming getElem?_eq_getElem->Vb,length_map->Wf,drop_zero->Xx
open Go.Proofs.Tryz renaming prog->VT,underlying3->VV,underlying4->Yy
open Option.some renaming inj->Wr,injEq->WQ
open Go.DataW renaming trod->WK,trod_int->Yx
open Prod.mk renaming injEq->Xw
open Go.Lit renaming int->Ys
namespace Go.Proofs.YtglgidjhoncphaaGreatDoor
open Go.Proofs.Q
open Go Go.QM Go.ChangeShapes Go.WideShapes Go.ChangeAt Go.RowKit
theorem own:ownKnob Tryz.prog.godebug=none:=by kernel_rfl
theorem Pe:laidOutB VT=true:=by kernel_rfl
theorem readable:∀t∈Tryz.f5.params.toList,Tryz.prog.readableRec t=true/\t<Tryz.prog.types.size:=by rw[Tryz.params5];intro t d;simp only[List.mem_cons,List.not_mem_nil,or_false]at d;rcases d with rfl|rfl<;>exact⟨by kernel_rfl,dp aV⟩
theorem Ds{α:Type}{ce:α->List Value}{sz:Nat}:∀{L:List α} {cs:List Value},cs.length=L.length*sz->(∀i a,L[i]? =some a->(cs.drop (i*sz)).take sz=ce a)->cs=L.flatMap ce
 | [],cs,d,_=>by rw[List.length_nil,Nat.zero_mul]at d;rw[List.length_eq_zero_iff.1 d];rfl
 | a::L,cs,d,h=>by have u:=h 0 a rfl;rw[Nat.zero_mul,Xx]at u;rw[List.length_cons,Nat.succ_mul]at d;have w:=Ds (ce:=ce) (sz:=sz) (L:=L) (cs:=cs.drop sz) (by rw[List.length_drop];omega) (λi b am=>by have:=h (i+1) b am;rwa[Nat.succ_mul,Nat.add_comm,<-List.drop_drop]at this);rw[List.flatMap_cons,<-u,<-w,List.take_append_drop]
section
variable {H : Type} {enc : TypeId × Value → H} {P : Program} {W : World} {b : Nat} {dH : Nat → Bool} {held : Bool}
theorem yP{α:Type}{n:Nat}{e t:TypeId}{fuel:Nat}{cs:List Value}{q:List MemPlace}{L:List α}(ce:α->List Value)(dO:α->DataW H)(sz:Nat)(ar:P.underlying t=some (.array n e))(Q:P.cellsOf e=sz)(V:P.cellsOf t=n*sz)
 (N:∀m w a q,WK enc P W b dH held m e w=some (dO a,q)->w=ce a) (h:WK enc P W b dH held fuel t cs=some (.agg (L.map dO),q)):cs=L.flatMap ce:=by
 obtain⟨xs,m,rfl,u,aq,au,Z⟩:=DataW.trod_array ar h;simp only[Xw,DataW.agg.injEq]at u;have C:L.length=n:=by have:=congrArg List.length u.1;rw[Wf,Wf]at this;omega
 refine Ds (sz:=sz) (by rw[aq,V,C]) (λi a D=>?_);have ah:i<n:=by rw[<-C];exact(List.getElem?_eq_some_iff.1 D).1
 have d:=Z i ah;rw[Q]at d;have E:i<xs.length:=U
 rw[Vb E]at d;have O:(xs[i]).1=dO a:=(by have:=congrArg (λz=>z[i]?) u.1;simp only[List.getElem?_map,D,Vb E,Option.map_some,WQ]at this;exact this.symm);exact N m _ a (xs[i]).2 (by rw[d,<-O])
theorem ER{k:IntKind}{t:TypeId}(C:P.underlying t=some (.int k))(m:Nat)(d:List Value)(a:Int)(q:List MemPlace)(h:WK enc P W b dH held m t d=some (.lit (Ys k a),q)):d=[.int k a]:=by obtain⟨n,w,u,_⟩:=Yx C h;simp only[Xw,DataW.lit.injEq,Lit.int.injEq,true_and]at u;rw[w,u.1]
end
theorem Ca{P:Program}{w:World}{n:String}{g:Nat}{cs:Array Value}(u:P.globalNamed n=some g)(h:w.var? P n=some cs):∃E d,w.heap[g]? =some (.cells cs E d):=by simp only[World.var?,u,Option.bind_some]at h;split at h<;>simp_all
def Kk:List (Int×Int×Bool):=[(0,0,false),(1,1,true),(0,8,true),(3,2,true),(3,2,true),(4,2,true),(5,2,true),(5,2,true),(5,2,true),(5,1,true),(4,1,true),(0,0,false),(0,0,false),(0,0,false),(0,0,false),(2,2,true),(0,0,true),(8,1,true),(8,2,true)]
theorem Km{W:World}{b:Nat}{au:Nat->Bool}{held:Bool}{H:Type}{enc:TypeId×Value->H}(m:Nat)(w:List Value)(a:Int×Int×Bool)(q:List MemPlace)(h:WK enc VT W b au held m 340 w=some (.agg [.lit (Ys .i64 a.1),.lit (Ys .i64 a.2.1),.lit (.bool a.2.2)],q)):w=jp a.1 a.2.1 a.2.2:=by
 obtain⟨xs,n,_,Z,V,hlen,N⟩:=DataW.trod_struct Tryz.underlying340 h;rw[show Tryz.prog.cellsOf 340=3 from by kernel_rfl]at V;obtain⟨d,u,c2,rfl⟩:∃d u c2,w=[d,u,c2]:=(by match w,V with|[d,u,c2],_=>exact⟨d,u,c2,rfl⟩);have hlen:xs.length=3:=hlen;obtain⟨C,D,E,rfl⟩:∃C D E,xs=[C,D,E]:=(by match xs,hlen with|[C,D,E],_=>exact⟨C,D,E,rfl⟩);have ar:Tryz.prog.cellsOf 3=1:=aV
 have am:Tryz.prog.cellsOf 4=1:=aV
 have O:=N 0 _ rfl;have P:=N 1 _ rfl;have Q:=N 2 _ rfl;simp only[List.getElem_toArray,List.getElem_cons_zero,List.getElem_cons_succ,ar,am,Xx,List.drop_succ_cons,List.take_succ_cons,List.take_zero]at O P Q;obtain⟨av,et,f0,_⟩:=Yx VV O;obtain⟨bM,ah,f1,_⟩:=Yx VV P;obtain⟨aw,aq,f2⟩:=DataW.trod_bool Yy Q;cases et;cases ah;cases aq;subst f0 f1 f2;simp only[List.map_cons,List.map_nil,Xw,DataW.agg.injEq,List.cons.injEq,DataW.lit.injEq,Lit.int.injEq,Lit.bool.injEq,true_and,and_true]at Z;obtain⟨⟨g0,g1,g2⟩,_⟩:=Z;rw[g0,g1,g2];rfl
theorem ND{W:World}(h:laidMetH VT Rows.wholeTablesRow.laid W):cW (here W):=by rw[MakeChecks.laidMetH_plain _ _ _ aV]at h;obtain⟨a9,⟨g0,t0,a1,f0,a5,ba,a3,a4,qM,a2,⟨g1,t1,N,f1,gh,bb,d,au,aB,ah,⟨g2,t2,O,f2,hf,bd,u,av,aD,aq,⟨g3,t3,P,f3,rY,bg,w,aw,aI,ar,_,_⟩,_⟩,_⟩,_⟩,_,_⟩:=h;obtain rfl:=Wr ((show Tryz.prog.globalNamed _=some 2 by kernel_rfl).symm.trans d);obtain rfl:=Wr ((show Tryz.prog.globalNamed _=some 0 by kernel_rfl).symm.trans u);obtain rfl:=Wr ((show Tryz.prog.globalNamed _=some 1 by kernel_rfl).symm.trans w);obtain rfl:=Wr ((show(Tryz.prog.globals[2]?).map (·.type)=some 411 by kernel_rfl).symm.trans au);obtain rfl:=Wr ((show(Tryz.prog.globals[0]?).map (·.type)=some 226 by kernel_rfl).symm.trans av);obtain rfl:=Wr ((show(Tryz.prog.globals[1]?).map (·.type)=some 341 by kernel_rfl).symm.trans aw);have Q:N.toList=tp:=(by have:=yP (L:=Lib.deBruijn64tab.map λn:Nat=>(n:Int)) (λa=>[nb a]) (λa=>.lit (Ys .u8 a)) 1 Tryz.underlying411 aV aV (ER Tryz.underlying5) ah;exact this.trans aV);have V:O.toList=qA:=(by have:=yP (L:=[0,64,128,256,32,32,48,256]) (λa=>[aa a]) (λa=>.lit (Ys .i64 a)) 1 Tryz.underlying226 aV aV (ER VV) aq;exact this.trans aV);have Z:P.toList=sB:=(by have:=yP (L:=Kk) (λa=>jp a.1 a.2.1 a.2.2) (λa=>.agg [.lit (Ys .i64 a.1),.lit (Ys .i64 a.2.1),.lit (.bool a.2.2)]) 3 Tryz.underlying341 aV aV Km ar;exact this.trans aV);obtain⟨D,a0,bM⟩:=Ca d aB;obtain⟨E,z2,aJ⟩:=Ca u aD;obtain⟨H,z3,aT⟩:=Ca w aI;refine⟨⟨E,z2,λC e=>?_⟩,⟨H,z3,λC e=>?_⟩,⟨D,a0,λC e=>?_⟩⟩;rw[e,aJ,<-V];rw[e,aT,<-Z];rw[e,bM,<-Q]
theorem L8(os:Os)(args:Array Value):laidMetH VT Rows.wholeTablesRow.laid ((World.doorLaid VT 43 os).forCall (λ_ _=>0) ⟨#[],args,[]⟩).memory:=
 laidMetH_of_parts3 (fuel:=8) (laidMet_of_run' 8 aV aV) aV aV
theorem lifted(os:Os)(started:os.Started)(H:Type)(enc:TypeId×Value->H):
 ReturnsInHanded {} Tryz.checked os 5 .any (λw args=>(Rows.wholeTablesSpec.pre enc VT Tryz.f5 [] false w args/\laidMetH VT Rows.wholeTablesRow.laid w)/\sizedMet enc VT Tryz.f5 (OpenSpec.ofChange Rows.wholeTablesSpec) false w args)
  (Rows.wholeTablesSpec.post enc VT Tryz.f5 false true false false):=by
 refine returnsInHanded_of_change_and (C:=Tryz.checked) (X:=λw _=>laidMetH VT Rows.wholeTablesRow.laid w) (λ_ _ _ ah h=>h.of_heap ah) own started aV Tryz.func5
  (ChangeSpec.witness_shaped (enc:=enc) (C:=Tryz.checked) (os:=os) (X:=λw _=>laidMetH VT Rows.wholeTablesRow.laid w) false (World.doorLaid VT 43 os) #[.agg #[aa 0,aa 0,aa 0],.slice none 0 0] 8 rfl (World.shaped_of_RefB aV aV) aV aV aV (L8 os _)) ?_
 intro W base args u gs before au ax _ _ Q _;have d:∀(j:Nat) t v,Tryz.f5.params[j]? =some t->args[j]? =some v->Value.okWide VT W .any base t v:=au;have Z:=ax;obtain⟨p,q,O,V,rfl,aB,aD⟩:=ax;have aE:DataW.TrodAll enc VT W 0 (λ_=>true) true Tryz.f5.params.toList args.toList u p:=O;rw[Tryz.params5]at aE d;obtain⟨v0,v1,d0,d1,aI,gh,rfl,rfl,rfl,D,N⟩:=trodAll_two aE;obtain⟨rfl,rfl⟩:=trodVars_none V;obtain⟨n,lim,av,rfl⟩:=QK (d 0 23 v0 rfl rfl) D;obtain⟨dn,l,lc,E,rfl,P,ar,_,aq⟩:=QJ (d 1 24 v1 rfl rfl) N;refine((tables_ok n lim av dn lc l aq).lawful ⟨ND Q,P,ar⟩).mono λe aw ⟨he,am⟩=>?_;subst he;exact⟨_,rfl,Pf Z rfl rfl aV Yy Pe readable am⟩
theorem Fe:Tryz.prog.funcNamed Rows.wholeTablesRow.func=some 5:=by kernel_rfl
theorem OP:Tryz.f5.isInstance VT Rows.wholeTablesRow.origin Rows.wholeTablesRow.targs:=dp aV
theorem OQ:Tryz.f5.isWrapper VT Rows.wholeTablesRow.wrapper Rows.wholeTablesRow.mainSum:=by unfold Func.isWrapper;first|(rw[az (by decide+kernel)];kernel_rfl)|(rw[al (by decide+kernel)];exact⟨rfl,rfl⟩)
theorem Ta:Rows.WholeTablesSaid:=
 OpenClaim.holds_of_wide 5 Tryz.f5 rfl rfl rfl rfl rfl rfl rfl ⟨rfl,rfl,rfl,rfl,rfl⟩ rfl rfl rfl rfl rfl Fe Tryz.func5 RS OP OQ (λos started H enc _=>lifted os started H enc)
theorem tables_card:Rows.WholeTablesCardSaid:=
 Claim7.holds_tied_plain_at .later [] [.data, .data, .data, .data] true (true, "2656b22e84306cca343b9ea50bd573a91fa4c338bee4ae38097b1b2b8f3ddc3f") false
  Ta (λ_ h=>by cases h) KX (λ_ h=>by cases h) wholeTables_row_tie rfl ⟨rfl,rfl⟩ KW rfl
  (λf fn u w=>by obtain rfl:f=5:=Wr (Fe.symm.trans u)|>.symm;obtain rfl:fn=Tryz.f5:=(Wr (Tryz.func5.symm.trans w)).symm;exact⟨KV,λj t d=>by rw[Tryz.params5]at d;(have hm:t∈[23,24]:=by simpa using Array.mem_of_getElem? d);exact(show Tryz.prog.wantsStandIn t=false by simpa using List.all_eq_true.1 KT t hm)⟩)
  KU
end Go.Proofs.YtglgidjhoncphaaGreatDoor
