/- Proved here: contracts of functions of this program, under the premises that each theorem names. -/
import Derived.RangeFuncRecord
import Derived.Test.YtglgidjhoncphaaGreatDoorYd
set_option linter.all false
set_option maxRecDepth 4000
set_option maxHeartbeats 4000000
open List renaming flatMap_cons->UN,getD_eq_getElem?_getD->Vl,cons_append->WG,takeWhile_cons_of_pos->XG,dropWhile_cons_of_pos->XI
open Go.QM.aF renaming refl->U5
open Nat renaming add_mul->Vf,blt->V6
open Array renaming getD_eq_getD_getElem?->Vr,getElem?_append->WS
open Go.Value renaming func->Xl
open Go.World renaming size_alloc->Xx
open Go.Fence renaming wide->XJ
namespace Go.QM
open Go
def q5 (P:Program) (l:Nat) (args:List Value) (A:ax) (R:Bool->ax->Prop):Prop:=
  ∀ w,sat w A->∃fn tmps assign body,(Instr.yield l args.toArray).run P w=.ok (.round l fn tmps assign body) w/\
    RoundIn XJ 0 P l fn tmps assign body w (λe hX=>∃b bk,e=.returned (.bool b)/\fr w hX/\sat hX bk/\R b bk)
def qZ (P:Program) (tS:FuncId) (lb:List Value) {α:Type} (y5:α->List Value) (ok:List α->α->Prop) (pre:List ax) {Y:Type} (xs:Y->List α) (eD:Y->Prop) (post:Y->List ax):Prop:=
  mJ P tS=true/\∀(l:Nat) (bJ:List α->ax),
    (∀yz x G,ok yz x->q5 P l (y5 x) (sep (bJ yz) G) (λb bk=>b=true/\bk=sep (bJ (yz++[x])) G))->
    ∀ w,sat w (sep (ah pre) (bJ []))->
      CallsIn XJ 0 P tS (Xl (.yield l) #[] #[]::lb).toArray w (λe hX=>∃v y,e=.returned v/\eD y/\fr w hX/\sat hX (sep (ah (post y)) (bJ (xs y))))
section
variable {r : Option Nat} {P : Program} {N : Nat} {ops : Array Oper} {Q : ff} {ag : Env} {aQ : List Deferred} {A : ax} {K : Value → ax → Prop}
variable {d : Option Tmp} {ty : TypeId} {ps : String} {bh : Array Edge} {g : Option (Nat × Bool)}
theorem BR{C:Operand}{l:Nat}{vs:List Value}{u:List Operand}{D:Array TypeId}(i:Nat){hs rest:List ax}{B:ax}{R:Bool->ax->Prop}(H:q5 P l vs (sep B (ah rest)) R)
    (W:bb ag C=.func (.yield l) #[] #[]) (V:lE ag u=vs) (N:eT i hs=some (B,rest)) (k:∀b bk,R b bk->K (.bool b) bk):
    cj r P ag ⟨d,.call ⟨.value C,u.toArray,D⟩,ty,ps,bh,g⟩ (ah hs) K:=by intro a w he Q;refine⟨λ_ _=>trivial,?_⟩;rw[rH _ kx,he];obtain⟨fn,tmps,assign,body,Z,E⟩:=H w (Q.bf (fC N));have O:(execOp (bb ag) ⟨d,.call ⟨.value C,u.toArray,D⟩,ty,ps,bh,g⟩).run P w=.ok (.round l fn tmps assign body) w:=(by grind[execOp,resolve,Deferred.ofValue,invoke,y9]);rw[O];refine⟨va r,?_⟩;refine RoundIn.mono (show RoundIn (mA r) (0-1) P l fn tmps assign body w _ from E) ?_;grind
def Jn{α Y:Type}(bJ:List α->ax)(xs:Y->List α)(eD:Y->Prop)(post:Y->List ax):ff
  | .ret,_,aQ,A|.normal,_,aQ,A=>aQ=[]/\∃y,eD y/\aF A (ah (bJ (xs y)::post y))
  | _,_,_,_=>False
theorem qZ.intro{u:FuncId}{lb:List Value}{α:Type}{O:α->List Value}{ok:List α->α->Prop}{pre:List ax}{Y:Type}{xs:Y->List α}{ag:Y->Prop}{post:Y->List ax}{fn:Func}{c:Code}
    (he:mJ P u=true) (au:P.funcs[u]? =some fn) (ar:fn.body=some c) (bq:fn.ntmps=N) (aQ:Nat.ble (lb.length+1) N=true) (aC:fn.results=#[])
    (h:∀(l:Nat) (bJ:List α->ax),(∀d x G,ok d x->q5 P l (O x) (sep (bJ d) G) (λb bk=>b=true/\bk=sep (bJ (d++[x])) G))->
      ab none P N c (Jn bJ xs ag post) (nS (Xl (.yield l) #[] #[]::lb)) [] (ah (bJ []::pre))):qZ P u lb O ok pre xs ag post:=by
 refine⟨he,λl bJ ao w aH=>?_⟩;have aA:lb.length+1<=N:=b2
 refine callsIn_of_wp au ar trivial (wpIn_mono (h l bJ ao _ w ?_ (aH.bf nt)) ?_) rfl;refine⟨by simp[bq,aA],λt=>?_,rfl⟩;simp only[nS,Vr,Vl,WS];grind;rintro e an Z ⟨s,aX,aK,bk,Q,V,C⟩;have W:(results fn an.tmps).run P Z=.ok (.tuple #[]) Z:=by simp[results,aC]
 cases e with|ret=>obtain⟨D,y,E,H⟩:=C;exact⟨by rw[Q.defers,D],_,W,_,y,rfl,E,s,V.bf (H.trans nt)⟩|normal=>obtain⟨D,y,E,H⟩:=C;exact⟨by rw[Q.defers,D],_,W,_,y,rfl,E,s,V.bf (H.trans nt)⟩|_=>exact C.elim
def rR(ag:Env):List Nat->List Value->Env
  | p::ps,v::vs=>rR (hd ag p v) ps vs
  | _,_=>ag
theorem cn.zip{a:Act}:∀(ps:List Nat) (vs:List Value) {ag:Env} {tmps:Array Value},cn N ⟨tmps,[]⟩ ag []->ps.all (λp=>V6 p N)=true->
    cn N ⟨(ps.zip vs).foldl (λt (x:Nat×Value)=>t.setIfInBounds x.1 x.2) tmps,[]⟩ (rR ag ps vs) []
  | [],_,_,_,h,_=>h
  | _::_,[],_,_,h,_=>h
  | p::ps,v::vs,ag,tmps,h,bq=>by simp only[List.all_cons,Bool.and_eq_true]at bq;simp only[List.zip_cons_cons,List.foldl_cons,rR];exact cn.zip (a:=a) ps vs (cn.put (d:=some p) h bq.1 v) bq.2
theorem qI{w:World}{A:ax}{b:Nat}{o:Obj}(d:Obj)(h:sat w (sep (obj b o) A)):sat (w.putObj b d) (sep (obj b d) A):=by have u:w.heap[b]? =some o:=(iw (jc b o)).sat h;grind[uE,World.putObj_heap_same,World.putObj_heap_other]
theorem o5(w:World)(b:Nat)(o:Obj):fr w (w.putObj b o):=⟨rfl,rfl,rfl,by simp⟩
theorem ab.GC{α Y:Type}{V:FuncId}{lb:List Value}{go:Operand}{C:List Nat}{assign body:Code}{hs pre ee rest:List ax}{u:α->List Value}{ok:List α->α->Prop}{xs:Y->List α}{a8:Y->Prop}{post:Y->List ax}
    (bJ:List α->List ax) (iter:qZ P V lb u ok pre xs a8 post) (bP:bb ag go=.func (.func V) #[] lb.toArray) (b6:lq hs pre ee) (gB:lq ee (bJ []) rest)
    (hlen:∀x,(u x).length=C.length) (b9:C.all (λp=>V6 p N)=true)
    (bx:∀(l:Nat) d x F,ok d x->ab (some l) P N assign (o7 (λcy be bd=>be=[]/\aF bd (ah (bJ d++[F]))/\
      ∀aC,ab (some l) P N body (λe _ aH aA=>e=.normal/\aH=[]/\aF aA (ah (bJ (d++[x])++[aC]))) cy [] (ah (bJ d++[aC]))) (λ_ _ _ _=>False)) (rR ag C (u x)) [] (ah (bJ d++[F])))
    (k:∀D y,a8 y->Q .normal ag ({target:=.collected D,args:=#[]}::aQ) (ah (post y++(bJ (xs y)++(obj D (.deferred (some []))::rest))))):
    ab none P N (.rangeFunc go C.toArray assign body) Q ag aQ (ah hs):=by
 intro a w E cC;refine wpIn_rangeFunc ?_;intro fn _;obtain⟨rec,H⟩:∃rec:LoopState->Loop,rec=λst=>{state:=st,pending:=none,fn,tmps:=a.tmps,params:=C.toArray,assign,body,defers:=w.heap.size}:=⟨_,rfl⟩;obtain⟨dq,aX⟩:∃dq,(w.alloc (.deferred (some []))).alloc (.loop (rec .ready))=dq:=⟨_,rfl⟩;obtain⟨D,aJ⟩:∃D,w.heap.size=D:=⟨_,rfl⟩;have cm:sat dq (sep (obj (D+1) (.loop (rec .ready))) (sep (obj D (.deferred (some []))) (ah hs))):=(by grind[oP,Xx]);have co:fr w dq:=by rw[<-aX];exact⟨rfl,rfl,rfl,by simp only[Xx];omega⟩
 let R:ax:=sep (obj D (.deferred (some []))) (ah rest);let O:List α->ax:=λd=>sep (ah (bJ d)) (sep (obj (D+1) (.loop (rec .ready))) R);refine⟨D+1,[{target:=.collected D,args:=#[]}],dq,{target:=.fn (.func V) lb.toArray,args:=#[.func (.yield (D+1)) #[] #[]]},dq,V,(Xl (.yield (D+1)) #[] #[]::lb).toArray,dq,?_,?_,λ_ _=>trivial,?_,va none,?_⟩;rw[<-aX,H,<-aJ];exact run_enterLoop_outer _ _ _ _ _;have:a.eval go=.func (.func V) #[] lb.toArray:=by rw[E.eval];exact bP
 simp only[resolve,this,Deferred.ofValue];simp[Act.eval];simp[invoke,y6 iter.1]
 have cg:∀d x G,ok d x->q5 P (D+1) (u x) (sep (O d) G) (λb a9=>b=true/\a9=sep (O (d++[x])) G):=by
  intro d x G b5 cG a7;have bY:cG.heap[D+1]? =some (.loop (rec .ready)):=(iw (vl (iw (jc _ _)))).sat a7;have au:=run_yield (P:=P) (args:=(u x).toArray) bY (by rw[H];simp[hlen]);refine⟨_,_,_,_,au,roundIn_of_wpIn trivial ?_⟩;have bO:(((rec .ready).params.zip (u x).toArray).foldl (λtmps (x:Nat×Value)=>tmps.setIfInBounds x.1 x.2) (rec .ready).tmps)=(C.zip (u x)).foldl (λt (x:Nat×Value)=>t.setIfInBounds x.1 x.2) a.tmps:=b2;have cf:cn N ⟨((rec .ready).params.zip (u x).toArray).foldl (λtmps (x:Nat×Value)=>tmps.setIfInBounds x.1 x.2) (rec .ready).tmps,[]⟩ (rR ag C (u x)) []:=(by rw[bO];exact cn.zip (a:=a) C (u x) ⟨E.size,E.get,rfl⟩ b9)
  have bh:aF (sep (O d) G) (ah (bJ d++[sep (obj (D+1) (.loop (rec .ready))) (sep R G)])):=
    pK.trans ((dP (U5 _) pK).trans rI)
  have bm:=bx (D+1) d x (sep (obj (D+1) (.loop (rec .ready))) (sep R G)) b5 _ cG cf (a7.bf bh);have bl:(rec .ready).assign=assign:=b2
  have br:(rec .ready).body=body:=b2
  rw[bl,br];refine wpIn_mono (show assign.wpIn (Fence.wide.inRound (D+1)) 0 P _ _ cG from bm) ?_;rintro e a2 an ⟨s2,cD,aH,aA,cd,ar,a3⟩;cases e with|normal=>obtain⟨rfl,bE,bX⟩:=a3;have aK:∀st (d:List α),aF (ah (bJ d++[sep (obj (D+1) (.loop (rec st))) (sep R G)])) (sep (obj (D+1) (.loop (rec st))) (sep (ah (bJ d)) (sep R G))):=λst d=>qJ.trans ju;have bk:∀st (d:List α),aF (sep (obj (D+1) (.loop (rec st))) (sep (ah (bJ d)) (sep R G))) (ah (bJ d++[sep (obj (D+1) (.loop (rec st))) (sep R G)])):=λst d=>ju.trans rI;have Z:=(ar.bf bE).bf (aK .ready d);have ao:an.heap[D+1]? =some (.loop (rec .ready)):=(iw (jc _ _)).sat Z;have a0:=run_beginRound (P:=P) ao (by rw[H]);(have bD:({rec .ready with state:=.busy}:Loop)=rec .busy:=by rw[H]);rw[bD]at a0;refine⟨_,a0,?_⟩;have cj:=(qI (.loop (rec .busy)) Z).bf (bk .busy d);have bo:=bX (sep (obj (D+1) (.loop (rec .busy))) (sep R G)) a2 _ cd cj;refine wpIn_mono (show body.wpIn (Fence.wide.inRound (D+1)) 0 P _ _ _ from bo) ?_;rintro e a5 cu ⟨ct,cI,cA,cz,cB,ck,cc⟩;obtain⟨rfl,rfl,bI⟩:=cc;have a4:=(ck.bf bI).bf (aK .busy (d++[x]));have bZ:cu.heap[D+1]? =some (.loop (rec .busy)):=(iw (jc _ _)).sat a4;have W:=run_endRound (P:=P) none bZ;(have ce:({rec .busy with state:=if(none:Option Code).isNone then .ready else .done,pending:=none}:Loop)=rec .ready:=by rw[H];rfl);rw[ce]at W;refine⟨_,_,W,true,_,rfl,(s2.trans (o5 _ _ _)).trans (ct.trans (o5 _ _ _)),?_,rfl,rfl⟩;have cl:=qI (.loop (rec .ready)) a4;exact cl.bf (ju.trans ((dP (U5 _) ns).trans ns))|_=>exact a3.elim
 have cq:sat dq (sep (ah pre) (O [])):=(by refine cm.bf ?_;have ey:aF (ah hs) (sep (ah pre) (sep (ah (bJ [])) (ah rest))):=b6.trans (dP (U5 _) gB);refine(dP (U5 _) (dP (U5 _) ey)).trans ?_;refine(dP (U5 _) ju).trans (ju.trans (dP (U5 _) ?_));exact(dP (U5 _) ju).trans ju);refine CallsIn.mono (iter.2 (D+1) O cg dq cq) ?_;rintro e an ⟨v,y,rfl,au,s2,ar⟩
 have Z:sat an (sep (obj (D+1) (.loop (rec .ready))) (sep (ah (post y)) (sep (ah (bJ (xs y))) R))):=
   ar.bf ((dP (U5 _) ju).trans ju)
 have ao:an.heap[D+1]? =some (.loop (rec .ready)):=(iw (jc _ _)).sat Z;have W:=run_endLoop (P:=P) ao (by rw[H];simp);have ca:(rec .ready).pending=none:=b2
 rw[ca]at W;refine⟨none,_,W,(co.trans s2).trans (o5 _ _ _),ag,_,_,⟨E.size,E.get,by rw[<-E.defers];rfl⟩,?_,k D y au⟩;refine((qI _ Z).bf rJ).bf ?_;exact(dP (U5 _) (oQ (bJ (xs y)) (obj D (.deferred (some []))::rest))).trans (oQ _ _)
def ye(P:Program)(rs:List ResultVar){Y:Type}(res:Y->Value)(eD:Y->Prop)(post:Y->List ax)(F:ax):ff
  | .ret,ag,aQ,A|.normal,ag,aQ,A=>∃y vs D,aQ=[{target:=.collected D,args:=#[]}]/\rs.all (λx=>match x with|.tmp _=>true|_=>false)=true/\iH P rs vs ag A/\jJ vs=res y/\eD y/\aF A (ah (obj D (.deferred (some []))::(post y++[F])))
  | _,_,_,_=>False
theorem Cm:∀{rs:List ResultVar} {vs:List Value} {A B:ax},rs.all (λx=>match x with|.tmp _=>true|_=>false)=true->iH P rs vs ag A->iH P rs vs ag B
  | [],[],_,_,_,_=>trivial
  | .tmp t::rs,v::vs,_,_,h,x=>⟨x.1,Cm (by simpa using h) x.2⟩
  | [],_::_,_,_,_,x=>x.elim
  | .tmp _::_,[],_,_,_,x=>x.elim
  | .cell _ _::_,_,_,_,h,_=>by simp at h
theorem fw.Es{f:FuncId}{fn:Func}{c:Code}{rs:List ResultVar}{args:List Value}{rd:ax->Prop}{pre:List ax}{Y:Type}{res:Y->Value}{O:Y->Prop}{post:Y->List ax}
    (he:mJ P f=true) (aX:P.funcs[f]? =some fn) (aK:fn.body=some c) (bq:fn.ntmps=N) (a5:Nat.ble args.length N=true) (ar:fn.results=rs.toArray)
    (h:∀F,rd F->ab none P N c (λe ag aQ A=>ye P rs res O post F e ag aQ A\/b8 P rs res O post F e ag aQ A) (nS args) [] (ah (pre++[F]))):fw P f args rd pre res O post:=by
 refine⟨he,λF aH w a3=>?_⟩;have a0:args.length<=N:=b2
 have key:∀(e:Exit) (Q:Act) (d:World) E C u,fr w d->cn N Q E C->sat d u->(e=.ret\/e=.normal)->(ye P rs res O post F e E C u\/b8 P rs res O post F e E C u)->
     LeavesInM XJ 0 P fn Q.tmps (λe d=>∃y,e=.returned (res y)/\O y/\fr w d/\sat d (sep (ah (post y)) F)) Q.defers .returning d:=by
   intro e Q d E C u s V W he H
   rw[V.defers]
   have aC:ye P rs res O post F .ret E C u\/b8 P rs res O post F .ret E C u:=by rcases he with rfl|rfl<;>exact H
   rcases aC with⟨y,vs,D,rfl,a4,bO,Z,an,ao⟩|⟨rfl,y,vs,bO,Z,an,ao⟩
   · have au:=W.bf ao
     have a2:d.heap[D]? =some (.deferred (some [])):=(iw (jc _ _)).sat au
     refine⟨by simp,.inl ⟨D,_,rfl,run_takeDeferred a2,?_⟩⟩
     have aA:=(qI (.deferred none) au).bf rJ
     exact⟨_,sU ar V.get aA (Cm a4 bO),y,by rw[Z],an,s.trans (o5 _ _ _),aA.bf qJ⟩
   · exact⟨_,sU ar V.get W bO,y,by rw[Z],an,s,W.bf (ao.trans qJ)⟩
 refine callsIn_of_wp_marks aX aK trivial (wpIn_mono (h F aH _ w ?_ (a3.bf rI)) ?_) rfl;refine⟨by simp[bq,a0],λt=>?_,rfl⟩;simp only[nS,Vr,Vl,WS];grind;rintro e Q d ⟨s,E,C,u,V,W,H⟩;cases e with|ret=>exact key .ret Q d E C u s V W (.inl rfl) H|normal=>exact key .normal Q d E C u s V W (.inr rfl) H|_=>rcases H with H|H<;>exact H.elim
end
end Go.QM
namespace Go.QM
open Go
theorem ay{α:Type}{p:α->Prop}{B:α->List ax}(x:α)(d:p x){hs gs:List ax}(h:aF (ah hs) (ah (B x++gs))):aF (ah hs) (ah (fj (λx=>pure' (p x) (ah (B x)))::gs)):=
  h.trans ((uG (B x) gs).trans (dP (h1 λ_ a=>⟨x,d,a⟩) (U5 _)))
theorem ca(n:Nat){hs r gs:List ax}{A B:ax}(h:eT n hs=some (A,r))(e:A=B)(k:aF (ah r) (ah gs)):aF (ah hs) (ah (B::gs)):=by subst e;exact bN n h k
theorem eM(n:Nat){hs r gs:List ax}{A B:ax}(h:eT n hs=some (A,r))(e:aF A B)(k:aF (ah r) (ah gs)):aF (ah hs) (ah (B::gs)):=
  (fC h).trans (dP e k)
theorem sq(n:Nat){α:Type}{p:α->Prop}{B:α->List ax}{hs r:List ax}(h:eT n hs=some (fj (λx=>pure' (p x) (ah (B x))),r)){w:World}(hw:sat w (ah hs)):∃x,p x/\sat w (ah (B x++r)):=by obtain⟨N,D,E,H,d,rfl,⟨z,u,aN⟩,C⟩:=hw.bf (fC h);exact⟨z,u,sat.bf ⟨_,D,E,H,d,rfl,aN,C⟩ (oQ _ _)⟩
section
variable {r : Option Nat} {P : Program} {N : Nat} {ops : Array Oper} {l : List Oper} {Q : ff} {ag : Env} {aQ : List Deferred} {A I : ax} {K : Value → ax → Prop} {c : Code} {T : List Nat} {co : List (Nat × Bool)}
theorem ab.open(n:Nat){α:Type}{p:α->Prop}{B:α->List ax}{hs d:List ax}(h:eT n hs=some (fj (λx=>pure' (p x) (ah (B x))),d))(k:∀x,p x->ab r P N c Q ag aQ (ah (B x++d))):ab r P N c Q ag aQ (ah hs):=
  λa w C hs=>let⟨x,u,D⟩:=sq n h hs;k x u a w C D
theorem aO.open(n:Nat){α:Type}{p:α->Prop}{B:α->List ax}{hs d:List ax}(h:eT n hs=some (fj (λx=>pure' (p x) (ah (B x))),d))(k:∀x,p x->aO r P N ops l Q ag aQ (ah (B x++d))):aO r P N ops l Q ag aQ (ah hs):=
  λa w C hs=>let⟨x,u,D⟩:=sq n h hs;k x u a w C D
theorem b3.open(n:Nat){α:Type}{p:α->Prop}{B:α->List ax}{hs d:List ax}(h:eT n hs=some (fj (λx=>pure' (p x) (ah (B x))),d))(k:∀x,p x->b3 r P N ops I T co Q ag aQ (ah (B x++d))):b3 r P N ops I T co Q ag aQ (ah hs):=
  λa w listed C hs=>let⟨x,u,D⟩:=sq n h hs;k x u a w listed C D
theorem ab.m6(n:Nat){E sz d cap:Nat}{ad:Option Addr}{cs:List Value}{hs D:List ax}(h:eT n hs=some (aT E sz ad d cap cs,D))(k:cs.length=d*sz->d<=cap->cap<=maxLen->ab r P N c Q ag aQ (ah hs)):ab r P N c Q ag aQ (ah hs):=
  λa w C hs=>by obtain⟨O,W,Z,an,H,rfl,u,V⟩:=hs.bf (fC h);obtain⟨f1,f2,f3,_⟩:=mn u;exact k f1 f2 f3 a w C hs
end
theorem Dw(n:Nat){hs r:List ax}{B:ax}(h:eT n hs=some (B,r)):aF (ah hs) B:=(fC h).trans xp
theorem Dv{hs:List ax}{B:ax}(h:aF (ah hs) (ah [B])):aF (ah hs) B:=h.trans xp
section
variable {r : Option Nat} {P : Program} {N : Nat} {Q : ff} {ag : Env} {aQ : List Deferred} {c : Code}
end
theorem kp{α:Type}{enc:α->List Value}{sz:Nat}(h:∀a,(enc a).length=sz):∀(xs:List α),(xs.flatMap enc).length=xs.length*sz
  | []=>by simp
  | a::xs=>by rw[UN,List.length_append,h,kp h xs,List.length_cons,Vf];omega
theorem tQ{α:Type}{enc:α->List Value}{sz:Nat}(h:∀a,(enc a).length=sz):∀{xs:List α} {i j:Nat} {a:α} {v:Value},xs[i]? =some a->(enc a)[j]? =some v->(xs.flatMap enc)[i*sz+j]? =some v
  | [],_,_,_,_,d,_=>by simp at d
  | b::xs,0,j,a,v,d,u=>by simp at d;subst d;rw[UN,Nat.zero_mul,Nat.zero_add,List.getElem?_append_left (List.getElem?_eq_some_iff.1 u).1];exact u
  | b::xs,i+1,j,a,v,d,u=>by simp at d;have:=tQ h d u;rw[UN,List.getElem?_append_right (by rw[h,Vf];omega),h,Vf];rw[show i*sz+1*sz+j-sz=i*sz+j by omega];exact this
theorem zf{α:Type}{enc:α->List Value}{sz:Nat}(h:∀a,(enc a).length=sz):∀(xs:List α) (i:Nat),(xs.flatMap enc).drop (i*sz)=(xs.drop i).flatMap enc
  | [],i=>by simp
  | b::xs,0=>by simp
  | b::xs,i+1=>by rw[UN,List.drop_append,List.drop_eq_nil_of_le (by rw[h,Vf];omega),h,Vf];rw[show i*sz+1*sz-sz=i*sz by omega,List.nil_append,List.drop_succ_cons];exact zf h xs i
theorem vY{α:Type}{enc:α->List Value}{sz:Nat}(h:∀a,(enc a).length=sz):∀(xs:List α) (i:Nat),(xs.flatMap enc).take (i*sz)=(xs.take i).flatMap enc
  | [],i=>by simp
  | b::xs,0=>by simp
  | b::xs,i+1=>by rw[UN,List.take_append,List.take_of_length_le (by rw[h,Vf];omega),h,Vf];rw[show i*sz+1*sz-sz=i*sz by omega,List.take_succ_cons,UN,vY h xs i]
theorem m7{α:Type}{enc:α->List Value}{sz:Nat}(h:∀a,(enc a).length=sz){xs:List α}{i:Nat}{a:α}(d:xs[i]? =some a):((xs.flatMap enc).drop (i*sz)).take sz=enc a:=by grind[zf,List.drop_eq_getElem_cons]
theorem HU{α:Type}{p:α->Bool}:∀{l:List α},(∀t∈l,p t=true)->l.takeWhile p=l
  | [],_=>rfl
  | a::l,h=>by rw[XG (h a cF),HU λt d=>h t (by simp[d])]
theorem Dq{α:Type}{p:α->Bool}:∀{l:List α},(∀t∈l,p t=true)->l.dropWhile p=[]
  | [],_=>rfl
  | a::l,h=>by rw[XI (h a cF),Dq λt d=>h t (by simp[d])]
theorem HV{α:Type}{p:α->Bool}{m:List α}:∀{l:List α},(∀t∈l,p t=true)->(l++m).takeWhile p=l++m.takeWhile p
  | [],_=>rfl
  | a::l,h=>by rw[WG,XG (h a cF),HV λt d=>h t (by simp[d])];rfl
theorem Dr{α:Type}{p:α->Bool}{m:List α}:∀{l:List α},(∀t∈l,p t=true)->(l++m).dropWhile p=m.dropWhile p
  | [],_=>rfl
  | a::l,h=>by rw[WG,XI (h a cF),Dr λt d=>h t (by simp[d])]
theorem vW{α:Type}{p:α->Bool}:∀{l:List α} {k:Nat} {t:α},l[k]? =some t->p t=true->(∀j u,j<k->l[j]? =some u->p u=false)->l.findIdx? p=some k
  | [],_,_,h,_,_=>by simp at h
  | a::l,0,t,h,d,_=>by simp at h;subst h;simp[List.findIdx?_cons,d]
  | a::l,k+1,t,h,d,au=>by have w:=au 0 a U rfl;have:=vW (l:=l) (k:=k) (by simpa using h) d (λj u C hu=>au (j+1) u U (by simpa using hu));simp[List.findIdx?_cons,w,this]
theorem zc{α:Type}{p:α->Bool}{l:List α}(au:∀j u,j<l.length->l[j]? =some u->p u=false):l.findIdx? p=none:=by rw[List.findIdx?_eq_none_iff];intro x d;obtain⟨j,w,rfl⟩:=List.getElem_of_mem d;simp_all
def ints(xs:List Int):List Value:=xs.map (λx=>.int .i64 x)
theorem eb(xs:List Int):(ints xs).length=xs.length:=by simp[ints]
theorem hN{xs:List Int}{i:Nat}{x:Int}(h:xs[i]? =some x):(ints xs)[i*1]? =some (.int .i64 x):=by simp[ints,h]
end Go.QM
