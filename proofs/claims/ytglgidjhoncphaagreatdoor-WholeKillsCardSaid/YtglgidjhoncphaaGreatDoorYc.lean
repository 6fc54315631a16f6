/- Proved here: contracts of functions of this program, under the premises that each theorem names. -/
import Derived.Laws.Append
import Derived.Test.YtglgidjhoncphaaGreatDoorYb
set_option linter.all false
set_option maxRecDepth 4000
set_option maxHeartbeats 4000000
open Go.Result renaming andThen_ok->UA,andThen->WB
open Go.Sem renaming run_bind->UL,run_pure->U2
open Bool renaming and_eq_true->UW,eq_iff_iff->WY
open Go.QM.aF renaming refl->U5
open Go.Instr renaming sliceBound->Vk,sliceBounds->W8,sliceAt->XS
open Go.Op renaming intCmp->Xd,intArith->XN,equalIn->XV
open Go.IntKind renaming signed->Xw,wrap->XQ,bits->XR
namespace Go.QM
open Go
def mJ(P:Program)(f:FuncId):Bool:=match P.funcs[f]? with
  | some fn => fn.name != "runtime.NumGoroutine" && fn.body.isSome
  | none=>false
theorem y6{P:Program}{f:FuncId}(h:mJ P f=true)(args:Array Value)(w:World):(callFunc f args).run P w=.ok (.enter f args) w:=by unfold mJ at h;cases d:P.funcs[f]? with|none=>rw[d]at h;cases h|some fn=>rw[d]at h;simp only[UW,bne_iff_ne,ne_eq]at h;obtain⟨C,u⟩:=h;(have u:fn.body.isNone=false:=by cases D:fn.body<;>simp_all);simp only[callFunc,UL,run_program,UA,d];rw[al (by simpa using C),al (by simp[u])];rfl
def fw (P:Program) (f:FuncId) (args:List Value) (rd:ax->Prop) (pre:List ax) {Y:Type} (res:Y->Value) (eD:Y->Prop) (post:Y->List ax):Prop:=
  mJ P f=true/\∀F,rd F->∀w,sat w (sep (ah pre) F)->
    CallsIn Fence.wide 0 P f args.toArray w (λe hX=>∃y,e=.returned (res y)/\eD y/\fr w hX/\sat hX (sep (ah (post y)) F))
def be:ax->Prop:=λ_=>True
def jJ:List Value->Value
  | [v]=>v
  | vs=>.tuple vs.toArray
def iH(P:Program):List ResultVar->List Value->Env->ax->Prop
  | [],[],_,_=>True
  | .tmp t::rs,v::vs,ag,A=>ag t=v/\iH P rs vs ag A
  | .cell a ty::rs,v::vs,ag,A=>(∃b off,ag a=.pointer (some ⟨b,off,none⟩)/\∀w,sat w A->(loadVar ty ⟨b,off,none⟩).run P w=.ok v w)/\iH P rs vs ag A
  | _,_,_,_=>False
theorem sU{P:Program}{fn:Func}{rs:List ResultVar}{vs:List Value}{C:Env}{A:ax}{tmps:Array Value}{w:World}(O:fn.results=rs.toArray)(D:∀t,tmps.getD t undef=C t)(hs:sat w A)
    (h:iH P rs vs C A):(results fn tmps).run P w=.ok (jJ vs) w:=by
 have key:∀(rs:List ResultVar) (vs:List Value),iH P rs vs C A->(rs.mapM (m:=Sem) fun
     | .tmp t=>pure (tmps.getD t undef)
     | .cell a t=>do loadVar t (<-asAddr (tmps.getD a undef))).run P w=.ok vs w:=by
   intro rs
   induction rs with
   | nil=>intro vs h;cases vs with|nil=>simp|cons v vs=>exact h.elim
   | cons x rs E=>
     intro vs h
     cases vs with
     | nil=>cases x<;>exact h.elim
     | cons v vs=>
       cases x with
       | tmp t=>obtain⟨d,u⟩:=h;simp only[List.mapM_cons,UL,U2,UA,E vs u,D t,d]
       | cell a ty=>
         obtain⟨⟨b,off,d,H⟩,u⟩:=h
         have N:asAddr (.pointer (some ⟨b,off,none⟩))=pure ⟨b,off,none⟩:=rfl
         simp only[List.mapM_cons,UL,U2,UA,E vs u,D a,d,N,H w hs]
 have:=key rs vs h;unfold results;rw[O,List.mapM_toArray];simp only[UL,Sem.run_map];refine Eq.trans (congrArg (λx=>WB (WB x _) _) this) ?_;simp only[UA,U2];congr 1;cases vs with|nil=>simp[jJ]|cons v vs=>cases vs<;>simp[jJ]
def b8(P:Program)(rs:List ResultVar){Y:Type}(res:Y->Value)(eD:Y->Prop)(post:Y->List ax)(F:ax):ff
  | .ret,ag,aQ,A|.normal,ag,aQ,A=>aQ=[]/\∃y vs,iH P rs vs ag A/\jJ vs=res y/\eD y/\aF A (ah (post y++[F]))
  | _,_,_,_=>False
variable{F:ax}
theorem b8.i{P:Program}{rs:List ResultVar}{Y:Type}{res:Y->Value}{u:Y->Prop}{post:Y->List ax}{d:Env}{A:ax}(y:Y)(vs:List Value)(w:iH P rs vs d A)(C:jJ vs=res y)(D:u y)
    (E:aF A (ah (post y++[F]))):b8 P rs res u post F .ret d [] A:=⟨rfl,y,vs,w,C,D,E⟩
theorem b8.n{P:Program}{rs:List ResultVar}{Y:Type}{res:Y->Value}{u:Y->Prop}{post:Y->List ax}{d:Env}{A:ax}(y:Y)(vs:List Value)(w:iH P rs vs d A)(C:jJ vs=res y)(D:u y)
    (E:aF A (ah (post y++[F]))):b8 P rs res u post F .normal d [] A:=⟨rfl,y,vs,w,C,D,E⟩
def nS(l:List Value):Env:=λt=>l.getD t undef
theorem qJ{l:List ax}:aF (ah (l++[F])) (sep (ah l) F):=(uG l [F]).trans (dP (U5 _) xp)
theorem rI{l:List ax}:aF (sep (ah l) F) (ah (l++[F])):=(dP (U5 _) pL).trans (oQ l [F])
theorem fw.intro{P:Program}{f:FuncId}{fn:Func}{c:Code}{N:Nat}{rs:List ResultVar}{args:List Value}{rd:ax->Prop}{pre:List ax}{Y:Type}{res:Y->Value}{V:Y->Prop}{post:Y->List ax}
    (he:mJ P f=true) (ag:P.funcs[f]? =some fn) (Z:fn.body=some c) (bq:fn.ntmps=N) (aC:Nat.ble args.length N=true) (Q:fn.results=rs.toArray)
    (h:∀F,rd F->ab none P N c (b8 P rs res V post F) (nS args) [] (ah (pre++[F]))):fw P f args rd pre res V post:=by
 refine⟨he,λF W w ao=>?_⟩;have an:args.length<=N:=b2
 refine callsIn_of_wp ag Z trivial (wpIn_mono (h F W _ w ?_ (ao.bf rI)) ?_) rfl;refine⟨by simp[bq,an],λt=>?_,rfl⟩;simp only[nS,Array.getD_eq_getD_getElem?,List.getD_eq_getElem?_getD,Array.getElem?_append];grind;rintro e au aH ⟨s,aK,aA,ar,d,u,C⟩;cases e with|ret=>obtain⟨D,y,vs,bO,E,H,O⟩:=C;exact⟨by rw[d.defers,D],_,sU Q d.get u bO,y,by rw[E],H,s,u.bf (O.trans qJ)⟩|normal=>obtain⟨D,y,vs,bO,E,H,O⟩:=C;exact⟨by rw[d.defers,D],_,sU Q d.get u bO,y,by rw[E],H,s,u.bf (O.trans qJ)⟩|_=>exact C.elim
theorem fw.bf{P:Program}{f:FuncId}{args:List Value}{rd E:ax->Prop}{pre D:List ax}{Y u:Type}{res:Y->Value}{N:Y->Prop}{post:Y->List ax}{H:u->Value}{O:u->Prop}{C:u->List ax}
    (h:fw P f args rd pre res N post) (ao:∀F,E F->rd F) (an:aF (ah D) (ah pre)) (au:∀y,N y->∃d,res y=H d/\O d/\aF (ah (post y)) (ah (C d))):fw P f args E D H O C:=
  ⟨h.1,λF ag w ar=>(h.2 F (ao F ag) w (ar.bf (dP an (U5 _)))).mono λe aH ⟨y,Q,V,W,Z⟩=>by obtain⟨d,bO,aA,aC⟩:=au y V;exact⟨d,by rw[Q,bO],aA,W,Z.bf (dP aC (U5 _))⟩⟩
section
variable {r : Option Nat} {P : Program} {N : Nat} {ops : Array Oper} {l : List Oper} {Q : ff} {ag : Env} {aQ : List Deferred} {A : ax} {K : Value → ax → Prop}
variable {d : Option Tmp} {ty : TypeId} {ps : String} {bh : Array Edge} {g : Option (Nat × Bool)}
def lE(ag:Env):List Operand->List Value
  | []=>[]
  | x::l=>bb ag x::lE ag l
theorem y9(d:Env)(l:List Operand):l.map (bb d)=lE d l:=by induction l with|nil=>rfl|cons x l u=>simp[lE,u]
theorem kR{f:FuncId}{C:Operand}{lb vs:List Value}{u:List Operand}{D:Array TypeId}{rd:ax->Prop}{pre hs rest:List ax}{Y:Type}{res:Y->Value}{E:Y->Prop}{post:Y->List ax}
    (spec:fw P f (vs++lb) rd pre res E post) (N:bb ag C=.func (.func f) #[] lb.toArray) (H:lE ag u=vs) (O:lq hs pre rest) (Q:rd (ah rest)) (k:∀y,E y->K (res y) (ah (post y++rest))):
    cj r P ag ⟨d,.call ⟨.value C,u.toArray,D⟩,ty,ps,bh,g⟩ (ah hs) K:=by intro a w he W;refine⟨λ_ _=>trivial,?_⟩;rw[rH _ kx,he];have V:(execOp (bb ag) ⟨d,.call ⟨.value C,u.toArray,D⟩,ty,ps,bh,g⟩).run P w=.ok (.enter f (vs++lb).toArray) w:=(by simp[execOp,resolve,N,Deferred.ofValue,invoke,y9,H,y6 spec.1]);rw[V];refine⟨va r,?_⟩;have:=spec.2 (ah rest) Q w (W.bf O);refine CallsIn.mono (show CallsIn (mA r) (0-1) P f (vs++lb).toArray w _ from this) ?_;rintro e ao ⟨y,rfl,an,s,Z⟩;exact⟨res y,_,rfl,s,Z.bf (oQ _ _),k y an⟩
theorem aL{f:FuncId}{vs:List Value}{u:List Operand}{H:Array TypeId}{rd:ax->Prop}{pre hs rest:List ax}{Y:Type}{res:Y->Value}{w:Y->Prop}{post:Y->List ax}
    (spec:fw P f vs rd pre res w post) (C:lE ag u=vs) (D:lq hs pre rest) (E:rd (ah rest)) (k:∀y,w y->K (res y) (ah (post y++rest))):
    cj r P ag ⟨d,.call ⟨.value (.func f),u.toArray,H⟩,ty,ps,bh,g⟩ (ah hs) K:=
  kR (lb:=[]) (vs:=vs) (by simpa using spec) rfl C D E k
end
end Go.QM
namespace Go.QM
open Go
theorem mu{n:Int}(d:-9223372036854775808<=n)(u:n<=9223372036854775807):IntKind.i64.wrap n=n:=by grind[XQ,XR,Xw]
theorem pX{n:Int}(d:0<=n)(u:n<=4294967295):IntKind.u32.wrap n=n:=by grind[XQ,XR,Xw]
theorem xT{n:Int}(d:0<=n)(u:n<=18446744073709551615):IntKind.u64.wrap n=n:=by grind[XQ,XR,Xw]
theorem JX(a b:Int):(a==b)=decide (a=b):=by rw[WY];simp
section
variable {r : Option Nat} {P : Program} {N : Nat} {ops : Array Oper} {l : List Oper} {Q : ff} {ag : Env} {aQ : List Deferred} {A : ax} {K : Value → ax → Prop}
variable {d : Option Tmp} {ty : TypeId} {ps : String} {bh : Array Edge} {g : Option (Nat × Bool)}
variable {t t' : TypeId} {x y : Operand} {k : IntKind} {a b c : Int}
theorem add(u:bb ag x=.int k a)(w:bb ag y=.int k b)(hw:k.wrap (a+b)=c):bz P ag ⟨d,.binOp .add t x y t',ty,ps,bh,g⟩ A (.int k c):=
  λ_ _=>by simp[execOp,eqGuard,binOp,XN,u,w,hw]
theorem sub(u:bb ag x=.int k a)(w:bb ag y=.int k b)(hw:k.wrap (a-b)=c):bz P ag ⟨d,.binOp .sub t x y t',ty,ps,bh,g⟩ A (.int k c):=
  λ_ _=>by simp[execOp,eqGuard,binOp,XN,u,w,hw]
theorem mul(u:bb ag x=.int k a)(w:bb ag y=.int k b)(hw:k.wrap (a*b)=c):bz P ag ⟨d,.binOp .mul t x y t',ty,ps,bh,g⟩ A (.int k c):=
  λ_ _=>by simp[execOp,eqGuard,binOp,XN,u,w,hw]
theorem quo(w:bb ag x=.int k a)(C:bb ag y=.int k b)(u:b≠0)(hw:k.wrap (a.tdiv b)=c):bz P ag ⟨d,.binOp .quo t x y t',ty,ps,bh,g⟩ A (.int k c):=
  λ_ _=>by simp[execOp,eqGuard,binOp,Op.intDiv,w,C,hw,u]
theorem rem(w:bb ag x=.int k a)(C:bb ag y=.int k b)(u:b≠0)(hw:a.tmod b=c):bz P ag ⟨d,.binOp .rem t x y t',ty,ps,bh,g⟩ A (.int k c):=
  λ_ _=>by simp[execOp,eqGuard,binOp,Op.intDiv,w,C,hw,u]
theorem ig(C:bb ag x=.int .i64 a)(D:bb ag y=.int .i64 b)(u:-9223372036854775808<=a+b)(w:a+b<=9223372036854775807):bz P ag ⟨d,.binOp .add t x y t',ty,ps,bh,g⟩ A (.int .i64 (a+b)):=add C D (mu u w)
theorem oR(C:bb ag x=.int .i64 a)(D:bb ag y=.int .i64 b)(u:-9223372036854775808<=a-b)(w:a-b<=9223372036854775807):bz P ag ⟨d,.binOp .sub t x y t',ty,ps,bh,g⟩ A (.int .i64 (a-b)):=sub C D (mu u w)
theorem nZ(C:bb ag x=.int .i64 a)(D:bb ag y=.int .i64 b)(u:-9223372036854775808<=a*b)(w:a*b<=9223372036854775807):bz P ag ⟨d,.binOp .mul t x y t',ty,ps,bh,g⟩ A (.int .i64 (a*b)):=mul C D (mu u w)
theorem k4(w:bb ag x=.int .i64 a)(C:bb ag y=.int .i64 b)(u:0<=a)(N:0<b)(H:a<=9223372036854775807):bz P ag ⟨d,.binOp .quo t x y t',ty,ps,bh,g⟩ A (.int .i64 (a/b)):=
  quo w C U (by rw[Int.tdiv_eq_ediv_of_nonneg u];have D:0<=a/b:=Int.ediv_nonneg u U;have E:a/b<=a:=Int.ediv_le_self b u;exact mu U U)
theorem pJ(w:bb ag x=.int k a)(C:bb ag y=.int k b)(u:0<=a)(D:0<b):bz P ag ⟨d,.binOp .rem t x y t',ty,ps,bh,g⟩ A (.int k (a %b)):=
  rem w C U (Int.tmod_eq_emod_of_nonneg u)
theorem lss(u:bb ag x=.int k a)(w:bb ag y=.int k b):bz P ag ⟨d,.binOp .lss t x y t',ty,ps,bh,g⟩ A (.bool (decide (a<b))):=
  λ_ _=>by simp[execOp,eqGuard,binOp,Xd,u,w]
theorem leq(u:bb ag x=.int k a)(w:bb ag y=.int k b):bz P ag ⟨d,.binOp .leq t x y t',ty,ps,bh,g⟩ A (.bool (decide (a<=b))):=
  λ_ _=>by simp[execOp,eqGuard,binOp,Xd,u,w]
theorem gtr(u:bb ag x=.int k a)(w:bb ag y=.int k b):bz P ag ⟨d,.binOp .gtr t x y t',ty,ps,bh,g⟩ A (.bool (decide (b<a))):=
  λ_ _=>by simp[execOp,eqGuard,binOp,Xd,u,w]
theorem geq(u:bb ag x=.int k a)(w:bb ag y=.int k b):bz P ag ⟨d,.binOp .geq t x y t',ty,ps,bh,g⟩ A (.bool (decide (b<=a))):=
  λ_ _=>by simp[execOp,eqGuard,binOp,Xd,u,w]
theorem vP(u:bb ag x=.int k a)(w:bb ag y=.int k b):bz P ag ⟨d,.binOp .eql t x y t',ty,ps,bh,g⟩ A (.bool (decide (a=b))):=
  λ_ _=>by simp[execOp,eqGuard,binOp,Xd,u,w,JX]
theorem wW(u:bb ag x=.int k a)(w:bb ag y=.int k b):bz P ag ⟨d,.binOp .neq t x y t',ty,ps,bh,g⟩ A (.bool (decide (a≠b))):=
  λ_ _=>by
   have:(a !=b)=decide (a≠b):=by rw[WY];simp
   simp[execOp,eqGuard,binOp,Xd,u,w,this]
theorem neg(u:bb ag x=.int k a)(hw:k.wrap (0-a)=c):bz P ag ⟨d,.unOp .neg t x,ty,ps,bh,g⟩ A (.int k c):=
  λ_ _=>by simp only[execOp,Op.unary,XN,u,hw];rfl
theorem AE{p:Prop}[Decidable p](u:bb ag x=.bool (decide p)):bz P ag ⟨d,.unOp .not t x,ty,ps,bh,g⟩ A (.bool (decide (¬p))):=
  λ_ _=>by simp[execOp,Op.unary,u]
theorem wX{b:Bool}(u:bb ag x=.bool b):bz P ag ⟨d,.unOp .not t x,ty,ps,bh,g⟩ A (.bool (!b)):=
  λ_ _=>by simp[execOp,Op.unary,u]
def sw(P:Program)(t:TypeId)(k:IntKind):Bool:=match P.underlying t with
  | some (.int wu)=>decide (wu=k)
  | _=>false
theorem Ep{t:TypeId}{k:IntKind}(h:sw P t k=true)(w:World):(underlying t).run P w=.ok (.int k) w:=by unfold sw at h;cases hu:P.underlying t with|none=>rw[hu]at h;cases h|some u=>(rw[hu]at h;cases u<;>first|(cases h;done)|(have:=ds h;subst this;simp[underlying,hu]))
theorem conv(k u:IntKind)(C:sw P t k=true)(D:sw P t' u=true)(E:bb ag x=.int k a)(hw:u.wrap a=c):bz P ag ⟨d,.convert t t' x,ty,ps,bh,g⟩ A (.int u c):=
  λw _=>by simp[execOp,Go.convert,Ep C,Ep D,E,Conv.intToInt,hw]
def ux(P:Program)(t:TypeId):Bool:=match P.underlying t with
  | some (.pointer _)=>true
  | _=>false
theorem Qt{t:TypeId}(h:ux P t=true):∃e,P.underlying t=some (.pointer e):=by grind[ux]
theorem DE{t:TypeId}(h:ux P t=true)(p:Option Addr)(w:World):(Op.equal t (.pointer p) (.pointer none)).run P w=.ok p.isNone w:=by obtain⟨e,he⟩:=Qt h;have key:∀d,(XV (d+1) t (.pointer p) (.pointer none)).run P w=.ok p.isNone w:=λd=>(by cases p<;>simp[XV,underlying,he]);exact key 9999
theorem DA{p:Option Addr}(u:ux P t=true)(C:bb ag x=.pointer p)(D:bb ag y=.pointer none):bz P ag ⟨d,.binOp .eql t x y t',ty,ps,bh,g⟩ A (.bool p.isNone):=by intro w _;unfold execOp;simp only[C,D,eqGuard,binOp,UL,U2,UA,DE u];trivial
theorem Ay{p:Option Addr}(u:ux P t=true)(C:bb ag x=.pointer p)(D:bb ag y=.pointer none):bz P ag ⟨d,.binOp .neq t x y t',ty,ps,bh,g⟩ A (.bool p.isSome):=by intro w _;unfold execOp;simp only[C,D,eqGuard,binOp,UL,U2,UA,DE u];simp_all
def hc(P:Program)(t:TypeId)(E sz:Nat):Bool:=match P.underlying t with
  | some (.slice e)=>Nat.beq e E&&qO P e sz
  | _=>false
theorem hV{t E sz:Nat}(h:hc P t E sz=true)(w:World):(underlying t).run P w=.ok (.slice E) w/\(Go.sizeOf E).run P w=.ok sz w:=by unfold hc at h;cases hu:P.underlying t with|none=>rw[hu]at h;cases h|some u=>rw[hu]at h;(cases u<;>first|(cases h;done)|(simp only[UW]at h;have:=Nat.eq_of_beq_eq_true h.1;subst this;exact⟨by simp[underlying,hu],Bq h.2 w⟩))
variable(E sz:Nat){n cap:Nat}
theorem zL{u off:Nat}{j:Int}{o:Nat}(N:hc P t E sz=true)(O:bb ag x=.slice (some ⟨u,off,none⟩) n cap)(Q:bb ag y=.int .i64 j)(C:0<=j)(D:j<n)(H:off+j.toNat*sz=o):
    bz P ag ⟨d,.indexAddr t x y,ty,ps,bh,g⟩ A (.pointer (some ⟨u,o,none⟩)):=
  λw _=>by simp[execOp,Instr.indexAt,O,Q,asIntOf,hV N,C,D,ix,H]
def fU(ad:Option Addr)(o:Nat):Value:=.pointer (ad.map λp=>⟨p.block,p.off+o,none⟩)
theorem len{ad:Option Addr}(u:hc P t E sz=true)(C:bb ag x=.slice ad n cap):
    bz P ag ⟨d,.call ⟨.builtin .len,#[x],#[t]⟩,ty,ps,bh,g⟩ A (.int .i64 n):=
  λw _=>by simp[execOp,resolve,invoke,builtin,Builtin.len_,C,hV u,goInt]
def dI(ad:Option Addr)(cap j sz:Nat):Option Addr:=if cap=j then ad else ad.map (·.add (j*sz))
theorem Hb{ad:Option Addr}{j:Int}(D:hc P t E sz=true)(H:bb ag x=.slice ad n cap)(N:bb ag y=.int .i64 j)(u:0<=j)(C:j<=n):
    bz P ag ⟨d,.slice t x (some y) none none,ty,ps,bh,g⟩ A (.slice (dI ad cap j.toNat sz) (n-j.toNat) (cap-j.toNat)):=
  λw _=>by simp[execOp,XS,Instr.slice,W8,Vk,H,N,asIntOf,hV D,u,C,dI]
theorem RW{ad:Option Addr}{j:Int}(D:hc P t E sz=true)(H:bb ag x=.slice ad n cap)(N:bb ag y=.int .i64 j)(u:0<=j)(C:j<=cap):
    bz P ag ⟨d,.slice t x none (some y) none,ty,ps,bh,g⟩ A (.slice ad j.toNat cap):=
  λw _=>by
   have:(if cap=0 then ad else Option.map (λx=>x.add 0) ad)=ad:=by split<;>cases ad<;>simp[Addr.add]
   simp[execOp,XS,Instr.slice,W8,Vk,H,N,asIntOf,hV D,u,C,this]
theorem xw{z:Operand}{ad:Option Addr}{j i:Int}(Q:hc P t E sz=true)(V:bb ag x=.slice ad n cap)(W:bb ag y=.int .i64 i)(Z:bb ag z=.int .i64 j)(D:0<=i)(an:i<=j)(H:j<=cap):
    bz P ag ⟨d,.slice t x (some y) (some z) none,ty,ps,bh,g⟩ A (.slice (dI ad cap i.toNat sz) (j.toNat-i.toNat) (cap-i.toNat)):=
  λw _=>by
   have O:0<=j:=U
   have ao:i.toNat<=j.toNat:=U
   have N:i<=(j.toNat:Int):=U
   have u:(Vk (.int .i64 j) cap .sliceAcap).run P w=.ok j.toNat w:=by simp[Vk,asIntOf,O,H]
   have C:(Vk (.int .i64 i) j.toNat .sliceB).run P w=.ok i.toNat w:=by simp only[Vk,asIntOf,UL,U2,UA];rw[aw ⟨D,N⟩];rfl
   simp[execOp,XS,Instr.slice,W8,V,W,Z,hV Q,u,C,dI]
end
end Go.QM
