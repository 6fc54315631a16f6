/- Proved here: contracts of functions of this program, under the premises that each theorem names. -/
import Derived.RangeFuncRecord
import Derived.Test.YtglgidjhoncphaaGreatDoorVd
set_option linter.all false
set_option maxRecDepth 4000
set_option maxHeartbeats 4000000
open List renaming flatMap_cons->Vf,getD_eq_getElem?_getD->VO,cons_append->Xa,takeWhile_cons_of_pos->X8,dropWhile_cons_of_pos->X9
open Go.QM.aF renaming refl->Vx
open Nat renaming add_mul->VJ,blt->WJ
open Array renaming getD_eq_getD_getElem?->VV,getElem?_append->Xn
open Go.Value renaming func->XO
open Go.World renaming size_alloc->X0
open Go.Fence renaming wide->Ya
namespace Go.QM
open Go
def rl (P:Program) (l:Nat) (args:List Value) (A:ax) (R:Bool->ax->Prop):Prop:=
  ∀ w,sat w A->∃fn tmps assign body,(Instr.yield l args.toArray).run P w=.ok (.round l fn tmps assign body) w/\
    RoundIn Ya 0 P l fn tmps assign body w (λe h2=>∃b bl,e=.returned (.bool b)/\ft w h2/\sat h2 bl/\R b bl)
def re (P:Program) (ua:FuncId) (lb:List Value) {α:Type} (zl:α->List Value) (ok:List α->α->Prop) (pre:List ax) {Y:Type} (xs:Y->List α) (ez:Y->Prop) (post:Y->List ax):Prop:=
  mX P ua=true/\∀(l:Nat) (bM:List α->ax),
    (∀yQ x G,ok yQ x->rl P l (zl x) (sep (bM yQ) G) (λb bl=>b=true/\bl=sep (bM (yQ++[x])) G))->
    ∀ w,sat w (sep (ah pre) (bM []))->
      CallsIn Ya 0 P ua (XO (.yield l) #[] #[]::lb).toArray w (λe h2=>∃v y,e=.returned v/\ez y/\ft w h2/\sat h2 (sep (ah (post y)) (bM (xs y))))
section
variable {r : Option Nat} {P : Program} {N : Nat} {ops : Array Oper} {Q : ff} {ag : Env} {aS : List Deferred} {A : ax} {K : Value → ax → Prop}
variable {d : Option Tmp} {ty : TypeId} {ps : String} {bh : Array Edge} {g : Option (Nat × Bool)}
theorem Cf{C:Operand}{l:Nat}{vs:List Value}{u:List Operand}{D:Array TypeId}(i:Nat){hs rest:List ax}{B:ax}{R:Bool->ax->Prop}(H:rl P l vs (sep B (ah rest)) R)
    (W:bc ag C=.func (.yield l) #[] #[]) (V:lT ag u=vs) (N:eO i hs=some (B,rest)) (k:∀b bl,R b bl->K (.bool b) bl):
    cg r P ag ⟨d,.call ⟨.value C,u.toArray,D⟩,ty,ps,bh,g⟩ (ah hs) K:=by intro a w he Q;refine⟨λ_ _=>trivial,?_⟩;rw[rV _ kJ,he];obtain⟨fn,tmps,assign,body,Z,E⟩:=H w (Q.bg (fI N));have O:(execOp (bc ag) ⟨d,.call ⟨.value C,u.toArray,D⟩,ty,ps,bh,g⟩).run P w=.ok (.round l fn tmps assign body) w:=(by grind[execOp,resolve,Deferred.ofValue,invoke,zq]);rw[O];refine⟨vq r,?_⟩;refine RoundIn.mono (show RoundIn (mO r) (0-1) P l fn tmps assign body w _ from E) ?_;grind
def JQ{α Y:Type}(bM:List α->ax)(xs:Y->List α)(ez:Y->Prop)(post:Y->List ax):ff
  | .ret,_,aS,A|.normal,_,aS,A=>aS=[]/\∃y,ez y/\aF A (ah (bM (xs y)::post y))
  | _,_,_,_=>False
theorem re.intro{u:FuncId}{lb:List Value}{α:Type}{O:α->List Value}{ok:List α->α->Prop}{pre:List ax}{Y:Type}{xs:Y->List α}{ag:Y->Prop}{post:Y->List ax}{fn:Func}{c:Code}
    (he:mX P u=true) (av:P.funcs[u]? =some fn) (ar:fn.body=some c) (bw:fn.ntmps=N) (aS:Nat.ble (lb.length+1) N=true) (aB:fn.results=#[])
    (h:∀(l:Nat) (bM:List α->ax),(∀d x G,ok d x->rl P l (O x) (sep (bM d) G) (λb bl=>b=true/\bl=sep (bM (d++[x])) G))->
      ab none P N c (JQ bM xs ag post) (n3 (XO (.yield l) #[] #[]::lb)) [] (ah (bM []::pre))):re P u lb O ok pre xs ag post:=by
 refine⟨he,λl bM aq w aG=>?_⟩;have aA:lb.length+1<=N:=b2
 refine callsIn_of_wp av ar trivial (wpIn_mono (h l bM aq _ w ?_ (aG.bg nF)) ?_) rfl;refine⟨by simp[bw,aA],λt=>?_,rfl⟩;simp only[n3,VV,VO,Xn];grind;rintro e an Z ⟨s,aV,aI,bl,Q,V,C⟩;have W:(results fn an.tmps).run P Z=.ok (.tuple #[]) Z:=by simp[results,aB]
 cases e with|ret=>obtain⟨D,y,E,H⟩:=C;exact⟨by rw[Q.defers,D],_,W,_,y,rfl,E,s,V.bg (H.trans nF)⟩|normal=>obtain⟨D,y,E,H⟩:=C;exact⟨by rw[Q.defers,D],_,W,_,y,rfl,E,s,V.bg (H.trans nF)⟩|_=>exact C.elim
def r3(ag:Env):List Nat->List Value->Env
  | p::ps,v::vs=>r3 (hP ag p v) ps vs
  | _,_=>ag
theorem ch.zip{a:Act}:∀(ps:List Nat) (vs:List Value) {ag:Env} {tmps:Array Value},ch N ⟨tmps,[]⟩ ag []->ps.all (λp=>WJ p N)=true->
    ch N ⟨(ps.zip vs).foldl (λt (x:Nat×Value)=>t.setIfInBounds x.1 x.2) tmps,[]⟩ (r3 ag ps vs) []
  | [],_,_,_,h,_=>h
  | _::_,[],_,_,h,_=>h
  | p::ps,v::vs,ag,tmps,h,bw=>by simp only[List.all_cons,Bool.and_eq_true]at bw;simp only[List.zip_cons_cons,List.foldl_cons,r3];exact ch.zip (a:=a) ps vs (ch.put (d:=some p) h bw.1 v) bw.2
theorem qU{w:World}{A:ax}{b:Nat}{o:Obj}(d:Obj)(h:sat w (sep (obj b o) A)):sat (w.putObj b d) (sep (obj b d) A):=by have u:w.heap[b]? =some o:=(iC (ji b o)).sat h;grind[uU,World.putObj_heap_same,World.putObj_heap_other]
theorem pl(w:World)(b:Nat)(o:Obj):ft w (w.putObj b o):=⟨rfl,rfl,rfl,by simp⟩
theorem ab.G5{α Y:Type}{V:FuncId}{lb:List Value}{go:Operand}{C:List Nat}{assign body:Code}{hs pre ef rest:List ax}{u:α->List Value}{ok:List α->α->Prop}{xs:Y->List α}{a7:Y->Prop}{post:Y->List ax}
    (bM:List α->List ax) (iter:re P V lb u ok pre xs a7 post) (bN:bc ag go=.func (.func V) #[] lb.toArray) (b7:lH hs pre ef) (gH:lH ef (bM []) rest)
    (hlen:∀x,(u x).length=C.length) (b8:C.all (λp=>WJ p N)=true)
    (bq:∀(l:Nat) d x F,ok d x->ab (some l) P N assign (po (λcw bd a9=>bd=[]/\aF a9 (ah (bM d++[F]))/\
      ∀aB,ab (some l) P N body (λe _ aG aA=>e=.normal/\aG=[]/\aF aA (ah (bM (d++[x])++[aB]))) cw [] (ah (bM d++[aB]))) (λ_ _ _ _=>False)) (r3 ag C (u x)) [] (ah (bM d++[F])))
    (k:∀D y,a7 y->Q .normal ag ({target:=.collected D,args:=#[]}::aS) (ah (post y++(bM (xs y)++(obj D (.deferred (some []))::rest))))):
    ab none P N (.rangeFunc go C.toArray assign body) Q ag aS (ah hs):=by
 intro a w E cB;refine wpIn_rangeFunc ?_;intro fn _;obtain⟨rec,H⟩:∃rec:LoopState->Loop,rec=λst=>{state:=st,pending:=none,fn,tmps:=a.tmps,params:=C.toArray,assign,body,defers:=w.heap.size}:=⟨_,rfl⟩;obtain⟨dp,aV⟩:∃dp,(w.alloc (.deferred (some []))).alloc (.loop (rec .ready))=dp:=⟨_,rfl⟩;obtain⟨D,aK⟩:∃D,w.heap.size=D:=⟨_,rfl⟩;have co:sat dp (sep (obj (D+1) (.loop (rec .ready))) (sep (obj D (.deferred (some []))) (ah hs))):=(by grind[o2,X0]);have cq:ft w dp:=by rw[<-aV];exact⟨rfl,rfl,rfl,by simp only[X0];omega⟩
 let R:ax:=sep (obj D (.deferred (some []))) (ah rest);let O:List α->ax:=λd=>sep (ah (bM d)) (sep (obj (D+1) (.loop (rec .ready))) R);refine⟨D+1,[{target:=.collected D,args:=#[]}],dp,{target:=.fn (.func V) lb.toArray,args:=#[.func (.yield (D+1)) #[] #[]]},dp,V,(XO (.yield (D+1)) #[] #[]::lb).toArray,dp,?_,?_,λ_ _=>trivial,?_,vq none,?_⟩;rw[<-aV,H,<-aK];exact run_enterLoop_outer _ _ _ _ _;have:a.eval go=.func (.func V) #[] lb.toArray:=by rw[E.eval];exact bN
 simp only[resolve,this,Deferred.ofValue];simp[Act.eval];simp[invoke,zm iter.1]
 have cg:∀d x G,ok d x->rl P (D+1) (u x) (sep (O d) G) (λb a8=>b=true/\a8=sep (O (d++[x])) G):=by
  intro d x G b0 cF a4;have bW:cF.heap[D+1]? =some (.loop (rec .ready)):=(iC (vC (iC (ji _ _)))).sat a4;have av:=run_yield (P:=P) (args:=(u x).toArray) bW (by rw[H];simp[hlen]);refine⟨_,_,_,_,av,roundIn_of_wpIn trivial ?_⟩;have bL:(((rec .ready).params.zip (u x).toArray).foldl (λtmps (x:Nat×Value)=>tmps.setIfInBounds x.1 x.2) (rec .ready).tmps)=(C.zip (u x)).foldl (λt (x:Nat×Value)=>t.setIfInBounds x.1 x.2) a.tmps:=b2;have ce:ch N ⟨((rec .ready).params.zip (u x).toArray).foldl (λtmps (x:Nat×Value)=>tmps.setIfInBounds x.1 x.2) (rec .ready).tmps,[]⟩ (r3 ag C (u x)) []:=(by rw[bL];exact ch.zip (a:=a) C (u x) ⟨E.size,E.get,rfl⟩ b8)
  have be:aF (sep (O d) G) (ah (bM d++[sep (obj (D+1) (.loop (rec .ready))) (sep R G)])):=
    pY.trans ((dO (Vx _) pY).trans rW)
  have bl:=bq (D+1) d x (sep (obj (D+1) (.loop (rec .ready))) (sep R G)) b0 _ cF ce (a4.bg be);have bi:(rec .ready).assign=assign:=b2
  have bp:(rec .ready).body=body:=b2
  rw[bi,bp];refine wpIn_mono (show assign.wpIn (Fence.wide.inRound (D+1)) 0 P _ _ cF from bl) ?_;rintro e a2 an ⟨s2,cG,aG,aA,cc,ar,a0⟩;cases e with|normal=>obtain⟨rfl,bz,bQ⟩:=a0;have aI:∀st (d:List α),aF (ah (bM d++[sep (obj (D+1) (.loop (rec st))) (sep R G)])) (sep (obj (D+1) (.loop (rec st))) (sep (ah (bM d)) (sep R G))):=λst d=>qV.trans jB;have bh:∀st (d:List α),aF (sep (obj (D+1) (.loop (rec st))) (sep (ah (bM d)) (sep R G))) (ah (bM d++[sep (obj (D+1) (.loop (rec st))) (sep R G)])):=λst d=>jB.trans rW;have Z:=(ar.bg bz).bg (aI .ready d);have aq:an.heap[D+1]? =some (.loop (rec .ready)):=(iC (ji _ _)).sat Z;have aY:=run_beginRound (P:=P) aq (by rw[H]);(have bu:({rec .ready with state:=.busy}:Loop)=rec .busy:=by rw[H]);rw[bu]at aY;refine⟨_,aY,?_⟩;have ci:=(qU (.loop (rec .busy)) Z).bg (bh .busy d);have bn:=bQ (sep (obj (D+1) (.loop (rec .busy))) (sep R G)) a2 _ cc ci;refine wpIn_mono (show body.wpIn (Fence.wide.inRound (D+1)) 0 P _ _ _ from bn) ?_;rintro e a5 cu ⟨ct,cH,cy,cx,cA,cj,cb⟩;obtain⟨rfl,rfl,bG⟩:=cb;have a3:=(cj.bg bG).bg (aI .busy (d++[x]));have bY:cu.heap[D+1]? =some (.loop (rec .busy)):=(iC (ji _ _)).sat a3;have W:=run_endRound (P:=P) none bY;(have cd:({rec .busy with state:=if(none:Option Code).isNone then .ready else .done,pending:=none}:Loop)=rec .ready:=by rw[H];rfl);rw[cd]at W;refine⟨_,_,W,true,_,rfl,(s2.trans (pl _ _ _)).trans (ct.trans (pl _ _ _)),?_,rfl,rfl⟩;have ck:=qU (.loop (rec .ready)) a3;exact ck.bg (jB.trans ((dO (Vx _) nE).trans nE))|_=>exact a0.elim
 have cr:sat dp (sep (ah pre) (O [])):=(by refine co.bg ?_;have dh:aF (ah hs) (sep (ah pre) (sep (ah (bM [])) (ah rest))):=b7.trans (dO (Vx _) gH);refine(dO (Vx _) (dO (Vx _) dh)).trans ?_;refine(dO (Vx _) jB).trans (jB.trans (dO (Vx _) ?_));exact(dO (Vx _) jB).trans jB);refine CallsIn.mono (iter.2 (D+1) O cg dp cr) ?_;rintro e an ⟨v,y,rfl,av,s2,ar⟩
 have Z:sat an (sep (obj (D+1) (.loop (rec .ready))) (sep (ah (post y)) (sep (ah (bM (xs y))) R))):=
   ar.bg ((dO (Vx _) jB).trans jB)
 have aq:an.heap[D+1]? =some (.loop (rec .ready)):=(iC (ji _ _)).sat Z;have W:=run_endLoop (P:=P) aq (by rw[H];simp);have b9:(rec .ready).pending=none:=b2
 rw[b9]at W;refine⟨none,_,W,(cq.trans s2).trans (pl _ _ _),ag,_,_,⟨E.size,E.get,by rw[<-E.defers];rfl⟩,?_,k D y av⟩;refine((qU _ Z).bg rX).bg ?_;exact(dO (Vx _) (o3 (bM (xs y)) (obj D (.deferred (some []))::rest))).trans (o3 _ _)
def yw(P:Program)(rs:List ResultVar){Y:Type}(res:Y->Value)(ez:Y->Prop)(post:Y->List ax)(F:ax):ff
  | .ret,ag,aS,A|.normal,ag,aS,A=>∃y vs D,aS=[{target:=.collected D,args:=#[]}]/\rs.all (λx=>match x with|.tmp _=>true|_=>false)=true/\iL P rs vs ag A/\jV vs=res y/\ez y/\aF A (ah (obj D (.deferred (some []))::(post y++[F])))
  | _,_,_,_=>False
theorem CL:∀{rs:List ResultVar} {vs:List Value} {A B:ax},rs.all (λx=>match x with|.tmp _=>true|_=>false)=true->iL P rs vs ag A->iL P rs vs ag B
  | [],[],_,_,_,_=>trivial
  | .tmp t::rs,v::vs,_,_,h,x=>⟨x.1,CL (by simpa using h) x.2⟩
  | [],_::_,_,_,_,x=>x.elim
  | .tmp _::_,[],_,_,_,x=>x.elim
  | .cell _ _::_,_,_,_,h,_=>by simp at h
theorem fA.EQ{f:FuncId}{fn:Func}{c:Code}{rs:List ResultVar}{args:List Value}{rd:ax->Prop}{pre:List ax}{Y:Type}{res:Y->Value}{O:Y->Prop}{post:Y->List ax}
    (he:mX P f=true) (aV:P.funcs[f]? =some fn) (aI:fn.body=some c) (bw:fn.ntmps=N) (a4:Nat.ble args.length N=true) (ar:fn.results=rs.toArray)
    (h:∀F,rd F->ab none P N c (λe ag aS A=>yw P rs res O post F e ag aS A\/b4 P rs res O post F e ag aS A) (n3 args) [] (ah (pre++[F]))):fA P f args rd pre res O post:=by
 refine⟨he,λF aG w a2=>?_⟩;have aY:args.length<=N:=b2
 have key:∀(e:Exit) (Q:Act) (d:World) E C u,ft w d->ch N Q E C->sat d u->(e=.ret\/e=.normal)->(yw P rs res O post F e E C u\/b4 P rs res O post F e E C u)->
     LeavesInM Ya 0 P fn Q.tmps (λe d=>∃y,e=.returned (res y)/\O y/\ft w d/\sat d (sep (ah (post y)) F)) Q.defers .returning d:=by
   intro e Q d E C u s V W he H
   rw[V.defers]
   have aB:yw P rs res O post F .ret E C u\/b4 P rs res O post F .ret E C u:=by rcases he with rfl|rfl<;>exact H
   rcases aB with⟨y,vs,D,rfl,a3,bN,Z,an,aq⟩|⟨rfl,y,vs,bN,Z,an,aq⟩
   · have av:=W.bg aq
     have a0:d.heap[D]? =some (.deferred (some [])):=(iC (ji _ _)).sat av
     refine⟨by simp,.inl ⟨D,_,rfl,run_takeDeferred a0,?_⟩⟩
     have aA:=(qU (.deferred none) av).bg rX
     exact⟨_,s0 ar V.get aA (CL a3 bN),y,by rw[Z],an,s.trans (pl _ _ _),aA.bg qV⟩
   · exact⟨_,s0 ar V.get W bN,y,by rw[Z],an,s,W.bg (aq.trans qV)⟩
 refine callsIn_of_wp_marks aV aI trivial (wpIn_mono (h F aG _ w ?_ (a2.bg rW)) ?_) rfl;refine⟨by simp[bw,aY],λt=>?_,rfl⟩;simp only[n3,VV,VO,Xn];grind;rintro e Q d ⟨s,E,C,u,V,W,H⟩;cases e with|ret=>exact key .ret Q d E C u s V W (.inl rfl) H|normal=>exact key .normal Q d E C u s V W (.inr rfl) H|_=>rcases H with H|H<;>exact H.elim
end
end Go.QM
namespace Go.QM
open Go
theorem ay{α:Type}{p:α->Prop}{B:α->List ax}(x:α)(d:p x){hs gs:List ax}(h:aF (ah hs) (ah (B x++gs))):aF (ah hs) (ah (fj (λx=>pure' (p x) (ah (B x)))::gs)):=
  h.trans ((uW (B x) gs).trans (dO (h8 λ_ a=>⟨x,d,a⟩) (Vx _)))
theorem b8(n:Nat){hs r gs:List ax}{A B:ax}(h:eO n hs=some (A,r))(e:A=B)(k:aF (ah r) (ah gs)):aF (ah hs) (ah (B::gs)):=by subst e;exact bI n h k
theorem eH(n:Nat){hs r gs:List ax}{A B:ax}(h:eO n hs=some (A,r))(e:aF A B)(k:aF (ah r) (ah gs)):aF (ah hs) (ah (B::gs)):=
  (fI h).trans (dO e k)
theorem sA(n:Nat){α:Type}{p:α->Prop}{B:α->List ax}{hs r:List ax}(h:eO n hs=some (fj (λx=>pure' (p x) (ah (B x))),r)){w:World}(hw:sat w (ah hs)):∃x,p x/\sat w (ah (B x++r)):=by obtain⟨N,D,E,H,d,rfl,⟨z,u,aN⟩,C⟩:=hw.bg (fI h);exact⟨z,u,sat.bg ⟨_,D,E,H,d,rfl,aN,C⟩ (o3 _ _)⟩
section
variable {r : Option Nat} {P : Program} {N : Nat} {ops : Array Oper} {l : List Oper} {Q : ff} {ag : Env} {aS : List Deferred} {A I : ax} {K : Value → ax → Prop} {c : Code} {T : List Nat} {co : List (Nat × Bool)}
theorem ab.open(n:Nat){α:Type}{p:α->Prop}{B:α->List ax}{hs d:List ax}(h:eO n hs=some (fj (λx=>pure' (p x) (ah (B x))),d))(k:∀x,p x->ab r P N c Q ag aS (ah (B x++d))):ab r P N c Q ag aS (ah hs):=
  λa w C hs=>let⟨x,u,D⟩:=sA n h hs;k x u a w C D
theorem aT.open(n:Nat){α:Type}{p:α->Prop}{B:α->List ax}{hs d:List ax}(h:eO n hs=some (fj (λx=>pure' (p x) (ah (B x))),d))(k:∀x,p x->aT r P N ops l Q ag aS (ah (B x++d))):aT r P N ops l Q ag aS (ah hs):=
  λa w C hs=>let⟨x,u,D⟩:=sA n h hs;k x u a w C D
theorem b6.open(n:Nat){α:Type}{p:α->Prop}{B:α->List ax}{hs d:List ax}(h:eO n hs=some (fj (λx=>pure' (p x) (ah (B x))),d))(k:∀x,p x->b6 r P N ops I T co Q ag aS (ah (B x++d))):b6 r P N ops I T co Q ag aS (ah hs):=
  λa w listed C hs=>let⟨x,u,D⟩:=sA n h hs;k x u a w listed C D
theorem ab.nl(n:Nat){E sz d cap:Nat}{ad:Option Addr}{cs:List Value}{hs D:List ax}(h:eO n hs=some (a1 E sz ad d cap cs,D))(k:cs.length=d*sz->d<=cap->cap<=maxLen->ab r P N c Q ag aS (ah hs)):ab r P N c Q ag aS (ah hs):=
  λa w C hs=>by obtain⟨O,W,Z,an,H,rfl,u,V⟩:=hs.bg (fI h);obtain⟨f1,f2,f3,_⟩:=oj u;exact k f1 f2 f3 a w C hs
end
theorem DX(n:Nat){hs r:List ax}{B:ax}(h:eO n hs=some (B,r)):aF (ah hs) B:=(fI h).trans xE
theorem DW{hs:List ax}{B:ax}(h:aF (ah hs) (ah [B])):aF (ah hs) B:=h.trans xE
section
variable {r : Option Nat} {P : Program} {N : Nat} {Q : ff} {ag : Env} {aS : List Deferred} {c : Code}
end
theorem kE{α:Type}{enc:α->List Value}{sz:Nat}(h:∀a,(enc a).length=sz):∀(xs:List α),(xs.flatMap enc).length=xs.length*sz
  | []=>by simp
  | a::xs=>by rw[Vf,List.length_append,h,kE h xs,List.length_cons,VJ];omega
theorem t7{α:Type}{enc:α->List Value}{sz:Nat}(h:∀a,(enc a).length=sz):∀{xs:List α} {i j:Nat} {a:α} {v:Value},xs[i]? =some a->(enc a)[j]? =some v->(xs.flatMap enc)[i*sz+j]? =some v
  | [],_,_,_,_,d,_=>by simp at d
  | b::xs,0,j,a,v,d,u=>by simp at d;subst d;rw[Vf,Nat.zero_mul,Nat.zero_add,List.getElem?_append_left (List.getElem?_eq_some_iff.1 u).1];exact u
  | b::xs,i+1,j,a,v,d,u=>by simp at d;have:=t7 h d u;rw[Vf,List.getElem?_append_right (by rw[h,VJ];omega),h,VJ];rw[show i*sz+1*sz+j-sz=i*sz+j by omega];exact this
theorem zv{α:Type}{enc:α->List Value}{sz:Nat}(h:∀a,(enc a).length=sz):∀(xs:List α) (i:Nat),(xs.flatMap enc).drop (i*sz)=(xs.drop i).flatMap enc
  | [],i=>by simp
  | b::xs,0=>by simp
  | b::xs,i+1=>by rw[Vf,List.drop_append,List.drop_eq_nil_of_le (by rw[h,VJ];omega),h,VJ];rw[show i*sz+1*sz-sz=i*sz by omega,List.nil_append,List.drop_succ_cons];exact zv h xs i
theorem wm{α:Type}{enc:α->List Value}{sz:Nat}(h:∀a,(enc a).length=sz):∀(xs:List α) (i:Nat),(xs.flatMap enc).take (i*sz)=(xs.take i).flatMap enc
  | [],i=>by simp
  | b::xs,0=>by simp
  | b::xs,i+1=>by rw[Vf,List.take_append,List.take_of_length_le (by rw[h,VJ];omega),h,VJ];rw[show i*sz+1*sz-sz=i*sz by omega,List.take_succ_cons,Vf,wm h xs i]
theorem nm{α:Type}{enc:α->List Value}{sz:Nat}(h:∀a,(enc a).length=sz){xs:List α}{i:Nat}{a:α}(d:xs[i]? =some a):((xs.flatMap enc).drop (i*sz)).take sz=enc a:=by grind[zv,List.drop_eq_getElem_cons]
theorem Io{α:Type}{p:α->Bool}:∀{l:List α},(∀t∈l,p t=true)->l.takeWhile p=l
  | [],_=>rfl
  | a::l,h=>by rw[X8 (h a cE),Io λt d=>h t (by simp[d])]
theorem DR{α:Type}{p:α->Bool}:∀{l:List α},(∀t∈l,p t=true)->l.dropWhile p=[]
  | [],_=>rfl
  | a::l,h=>by rw[X9 (h a cE),DR λt d=>h t (by simp[d])]
theorem Ip{α:Type}{p:α->Bool}{m:List α}:∀{l:List α},(∀t∈l,p t=true)->(l++m).takeWhile p=l++m.takeWhile p
  | [],_=>rfl
  | a::l,h=>by rw[Xa,X8 (h a cE),Ip λt d=>h t (by simp[d])];rfl
theorem DS{α:Type}{p:α->Bool}{m:List α}:∀{l:List α},(∀t∈l,p t=true)->(l++m).dropWhile p=m.dropWhile p
  | [],_=>rfl
  | a::l,h=>by rw[Xa,X9 (h a cE),DS λt d=>h t (by simp[d])]
theorem wj{α:Type}{p:α->Bool}:∀{l:List α} {k:Nat} {t:α},l[k]? =some t->p t=true->(∀j u,j<k->l[j]? =some u->p u=false)->l.findIdx? p=some k
  | [],_,_,h,_,_=>by simp at h
  | a::l,0,t,h,d,_=>by simp at h;subst h;simp[List.findIdx?_cons,d]
  | a::l,k+1,t,h,d,an=>by have w:=an 0 a U rfl;have:=wj (l:=l) (k:=k) (by simpa using h) d (λj u C hu=>an (j+1) u U (by simpa using hu));simp[List.findIdx?_cons,w,this]
theorem zu{α:Type}{p:α->Bool}{l:List α}(an:∀j u,j<l.length->l[j]? =some u->p u=false):l.findIdx? p=none:=by rw[List.findIdx?_eq_none_iff];intro x d;obtain⟨j,w,rfl⟩:=List.getElem_of_mem d;simp_all
def ints(xs:List Int):List Value:=xs.map (λx=>.int .i64 x)
theorem eb(xs:List Int):(ints xs).length=xs.length:=by simp[ints]
theorem hU{xs:List Int}{i:Nat}{x:Int}(h:xs[i]? =some x):(ints xs)[i*1]? =some (.int .i64 x):=by simp[ints,h]
end Go.QM
