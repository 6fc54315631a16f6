/- Proved here: contracts of functions of this program, under the premises that each theorem names. -/
import Derived.Laws.Append
import Derived.Test.YtglgidjhoncphaaGreatDoorVb
set_option linter.all false
set_option maxRecDepth 4000
set_option maxHeartbeats 4000000
open Go.Result renaming andThen_ok->U1,andThen->W3
open Go.Sem renaming run_bind->Vc,run_pure->Vu
open Bool renaming and_eq_true->Vq,eq_iff_iff->Xt
open Go.QM.aF renaming refl->Vx
open Go.Instr renaming sliceBound->VN,sliceBounds->XD,sliceAt->Yi
open Go.Op renaming intCmp->XH,intArith->Yd,equalIn->Yn
open Go.IntKind renaming signed->XZ,wrap->Yg,bits->Yh
namespace Go.QM
open Go
def mX(P:Program)(f:FuncId):Bool:=match P.funcs[f]? with
  | some fn => fn.name != "runtime.NumGoroutine" && fn.body.isSome
  | none=>false
theorem zm{P:Program}{f:FuncId}(h:mX P f=true)(args:Array Value)(w:World):(callFunc f args).run P w=.ok (.enter f args) w:=by unfold mX at h;cases d:P.funcs[f]? with|none=>rw[d]at h;cases h|some fn=>rw[d]at h;simp only[Vq,bne_iff_ne,ne_eq]at h;obtain⟨C,u⟩:=h;(have u:fn.body.isNone=false:=by cases D:fn.body<;>simp_all);simp only[callFunc,Vc,run_program,U1,d];rw[al (by simpa using C),al (by simp[u])];rfl
def fA (P:Program) (f:FuncId) (args:List Value) (rd:ax->Prop) (pre:List ax) {Y:Type} (res:Y->Value) (ez:Y->Prop) (post:Y->List ax):Prop:=
  mX P f=true/\∀F,rd F->∀w,sat w (sep (ah pre) F)->
    CallsIn Fence.wide 0 P f args.toArray w (λe h2=>∃y,e=.returned (res y)/\ez y/\ft w h2/\sat h2 (sep (ah (post y)) F))
def be:ax->Prop:=λ_=>True
def jV:List Value->Value
  | [v]=>v
  | vs=>.tuple vs.toArray
def iL(P:Program):List ResultVar->List Value->Env->ax->Prop
  | [],[],_,_=>True
  | .tmp t::rs,v::vs,ag,A=>ag t=v/\iL P rs vs ag A
  | .cell a ty::rs,v::vs,ag,A=>(∃b off,ag a=.pointer (some ⟨b,off,none⟩)/\∀w,sat w A->(loadVar ty ⟨b,off,none⟩).run P w=.ok v w)/\iL P rs vs ag A
  | _,_,_,_=>False
theorem s0{P:Program}{fn:Func}{rs:List ResultVar}{vs:List Value}{C:Env}{A:ax}{tmps:Array Value}{w:World}(O:fn.results=rs.toArray)(D:∀t,tmps.getD t undef=C t)(hs:sat w A)
    (h:iL P rs vs C A):(results fn tmps).run P w=.ok (jV vs) w:=by
 have key:∀(rs:List ResultVar) (vs:List Value),iL P rs vs C A->(rs.mapM (m:=Sem) fun
     | .tmp t=>pure (tmps.getD t undef)
     | .cell a t=>do loadVar t (<-asAddr (tmps.getD a undef))).run P w=.ok vs w:=by
   intro rs
   induction rs with
   | nil=>intro vs h;cases vs with|nil=>simp|cons v vs=>exact h.elim
   | cons x rs E=>
     intro vs h
     cases vs with
     | nil=>cases x<;>exact h.elim
     | cons v vs=>
       cases x with
       | tmp t=>obtain⟨d,u⟩:=h;simp only[List.mapM_cons,Vc,Vu,U1,E vs u,D t,d]
       | cell a ty=>
         obtain⟨⟨b,off,d,H⟩,u⟩:=h
         have N:asAddr (.pointer (some ⟨b,off,none⟩))=pure ⟨b,off,none⟩:=rfl
         simp only[List.mapM_cons,Vc,Vu,U1,E vs u,D a,d,N,H w hs]
 have:=key rs vs h;unfold results;rw[O,List.mapM_toArray];simp only[Vc,Sem.run_map];refine Eq.trans (congrArg (λx=>W3 (W3 x _) _) this) ?_;simp only[U1,Vu];congr 1;cases vs with|nil=>simp[jV]|cons v vs=>cases vs<;>simp[jV]
def b4(P:Program)(rs:List ResultVar){Y:Type}(res:Y->Value)(ez:Y->Prop)(post:Y->List ax)(F:ax):ff
  | .ret,ag,aS,A|.normal,ag,aS,A=>aS=[]/\∃y vs,iL P rs vs ag A/\jV vs=res y/\ez y/\aF A (ah (post y++[F]))
  | _,_,_,_=>False
variable{F:ax}
theorem b4.i{P:Program}{rs:List ResultVar}{Y:Type}{res:Y->Value}{u:Y->Prop}{post:Y->List ax}{d:Env}{A:ax}(y:Y)(vs:List Value)(w:iL P rs vs d A)(C:jV vs=res y)(D:u y)
    (E:aF A (ah (post y++[F]))):b4 P rs res u post F .ret d [] A:=⟨rfl,y,vs,w,C,D,E⟩
theorem b4.n{P:Program}{rs:List ResultVar}{Y:Type}{res:Y->Value}{u:Y->Prop}{post:Y->List ax}{d:Env}{A:ax}(y:Y)(vs:List Value)(w:iL P rs vs d A)(C:jV vs=res y)(D:u y)
    (E:aF A (ah (post y++[F]))):b4 P rs res u post F .normal d [] A:=⟨rfl,y,vs,w,C,D,E⟩
def n3(l:List Value):Env:=λt=>l.getD t undef
theorem qV{l:List ax}:aF (ah (l++[F])) (sep (ah l) F):=(uW l [F]).trans (dO (Vx _) xE)
theorem rW{l:List ax}:aF (sep (ah l) F) (ah (l++[F])):=(dO (Vx _) pZ).trans (o3 l [F])
theorem fA.intro{P:Program}{f:FuncId}{fn:Func}{c:Code}{N:Nat}{rs:List ResultVar}{args:List Value}{rd:ax->Prop}{pre:List ax}{Y:Type}{res:Y->Value}{V:Y->Prop}{post:Y->List ax}
    (he:mX P f=true) (ag:P.funcs[f]? =some fn) (Z:fn.body=some c) (bw:fn.ntmps=N) (aB:Nat.ble args.length N=true) (Q:fn.results=rs.toArray)
    (h:∀F,rd F->ab none P N c (b4 P rs res V post F) (n3 args) [] (ah (pre++[F]))):fA P f args rd pre res V post:=by
 refine⟨he,λF W w aq=>?_⟩;have an:args.length<=N:=b2
 refine callsIn_of_wp ag Z trivial (wpIn_mono (h F W _ w ?_ (aq.bg rW)) ?_) rfl;refine⟨by simp[bw,an],λt=>?_,rfl⟩;simp only[n3,Array.getD_eq_getD_getElem?,List.getD_eq_getElem?_getD,Array.getElem?_append];grind;rintro e av aG ⟨s,aI,aA,ar,d,u,C⟩;cases e with|ret=>obtain⟨D,y,vs,bN,E,H,O⟩:=C;exact⟨by rw[d.defers,D],_,s0 Q d.get u bN,y,by rw[E],H,s,u.bg (O.trans qV)⟩|normal=>obtain⟨D,y,vs,bN,E,H,O⟩:=C;exact⟨by rw[d.defers,D],_,s0 Q d.get u bN,y,by rw[E],H,s,u.bg (O.trans qV)⟩|_=>exact C.elim
theorem fA.bg{P:Program}{f:FuncId}{args:List Value}{rd E:ax->Prop}{pre D:List ax}{Y u:Type}{res:Y->Value}{N:Y->Prop}{post:Y->List ax}{H:u->Value}{O:u->Prop}{C:u->List ax}
    (h:fA P f args rd pre res N post) (aq:∀F,E F->rd F) (an:aF (ah D) (ah pre)) (av:∀y,N y->∃d,res y=H d/\O d/\aF (ah (post y)) (ah (C d))):fA P f args E D H O C:=
  ⟨h.1,λF ag w ar=>(h.2 F (aq F ag) w (ar.bg (dO an (Vx _)))).mono λe aG ⟨y,Q,V,W,Z⟩=>by obtain⟨d,bN,aA,aB⟩:=av y V;exact⟨d,by rw[Q,bN],aA,W,Z.bg (dO aB (Vx _))⟩⟩
section
variable {r : Option Nat} {P : Program} {N : Nat} {ops : Array Oper} {l : List Oper} {Q : ff} {ag : Env} {aS : List Deferred} {A : ax} {K : Value → ax → Prop}
variable {d : Option Tmp} {ty : TypeId} {ps : String} {bh : Array Edge} {g : Option (Nat × Bool)}
def lT(ag:Env):List Operand->List Value
  | []=>[]
  | x::l=>bc ag x::lT ag l
theorem zq(d:Env)(l:List Operand):l.map (bc d)=lT d l:=by induction l with|nil=>rfl|cons x l u=>simp[lT,u]
theorem k4{f:FuncId}{C:Operand}{lb vs:List Value}{u:List Operand}{D:Array TypeId}{rd:ax->Prop}{pre hs rest:List ax}{Y:Type}{res:Y->Value}{E:Y->Prop}{post:Y->List ax}
    (spec:fA P f (vs++lb) rd pre res E post) (N:bc ag C=.func (.func f) #[] lb.toArray) (H:lT ag u=vs) (O:lH hs pre rest) (Q:rd (ah rest)) (k:∀y,E y->K (res y) (ah (post y++rest))):
    cg r P ag ⟨d,.call ⟨.value C,u.toArray,D⟩,ty,ps,bh,g⟩ (ah hs) K:=by intro a w he W;refine⟨λ_ _=>trivial,?_⟩;rw[rV _ kJ,he];have V:(execOp (bc ag) ⟨d,.call ⟨.value C,u.toArray,D⟩,ty,ps,bh,g⟩).run P w=.ok (.enter f (vs++lb).toArray) w:=(by simp[execOp,resolve,N,Deferred.ofValue,invoke,zq,H,zm spec.1]);rw[V];refine⟨vq r,?_⟩;have:=spec.2 (ah rest) Q w (W.bg O);refine CallsIn.mono (show CallsIn (mO r) (0-1) P f (vs++lb).toArray w _ from this) ?_;rintro e aq ⟨y,rfl,an,s,Z⟩;exact⟨res y,_,rfl,s,Z.bg (o3 _ _),k y an⟩
theorem aL{f:FuncId}{vs:List Value}{u:List Operand}{H:Array TypeId}{rd:ax->Prop}{pre hs rest:List ax}{Y:Type}{res:Y->Value}{w:Y->Prop}{post:Y->List ax}
    (spec:fA P f vs rd pre res w post) (C:lT ag u=vs) (D:lH hs pre rest) (E:rd (ah rest)) (k:∀y,w y->K (res y) (ah (post y++rest))):
    cg r P ag ⟨d,.call ⟨.value (.func f),u.toArray,H⟩,ty,ps,bh,g⟩ (ah hs) K:=
  k4 (lb:=[]) (vs:=vs) (by simpa using spec) rfl C D E k
end
end Go.QM
namespace Go.QM
open Go
theorem m8{n:Int}(d:-9223372036854775808<=n)(u:n<=9223372036854775807):IntKind.i64.wrap n=n:=by grind[Yg,Yh,XZ]
theorem pa{n:Int}(d:0<=n)(u:n<=4294967295):IntKind.u32.wrap n=n:=by grind[Yg,Yh,XZ]
theorem x9{n:Int}(d:0<=n)(u:n<=18446744073709551615):IntKind.u64.wrap n=n:=by grind[Yg,Yh,XZ]
theorem Ks(a b:Int):(a==b)=decide (a=b):=by rw[Xt];simp
section
variable {r : Option Nat} {P : Program} {N : Nat} {ops : Array Oper} {l : List Oper} {Q : ff} {ag : Env} {aS : List Deferred} {A : ax} {K : Value → ax → Prop}
variable {d : Option Tmp} {ty : TypeId} {ps : String} {bh : Array Edge} {g : Option (Nat × Bool)}
variable {t t' : TypeId} {x y : Operand} {k : IntKind} {a b c : Int}
theorem add(u:bc ag x=.int k a)(w:bc ag y=.int k b)(hw:k.wrap (a+b)=c):bA P ag ⟨d,.binOp .add t x y t',ty,ps,bh,g⟩ A (.int k c):=
  λ_ _=>by simp[execOp,eqGuard,binOp,Yd,u,w,hw]
theorem sub(u:bc ag x=.int k a)(w:bc ag y=.int k b)(hw:k.wrap (a-b)=c):bA P ag ⟨d,.binOp .sub t x y t',ty,ps,bh,g⟩ A (.int k c):=
  λ_ _=>by simp[execOp,eqGuard,binOp,Yd,u,w,hw]
theorem mul(u:bc ag x=.int k a)(w:bc ag y=.int k b)(hw:k.wrap (a*b)=c):bA P ag ⟨d,.binOp .mul t x y t',ty,ps,bh,g⟩ A (.int k c):=
  λ_ _=>by simp[execOp,eqGuard,binOp,Yd,u,w,hw]
theorem quo(w:bc ag x=.int k a)(C:bc ag y=.int k b)(u:b≠0)(hw:k.wrap (a.tdiv b)=c):bA P ag ⟨d,.binOp .quo t x y t',ty,ps,bh,g⟩ A (.int k c):=
  λ_ _=>by simp[execOp,eqGuard,binOp,Op.intDiv,w,C,hw,u]
theorem rem(w:bc ag x=.int k a)(C:bc ag y=.int k b)(u:b≠0)(hw:a.tmod b=c):bA P ag ⟨d,.binOp .rem t x y t',ty,ps,bh,g⟩ A (.int k c):=
  λ_ _=>by simp[execOp,eqGuard,binOp,Op.intDiv,w,C,hw,u]
theorem io(C:bc ag x=.int .i64 a)(D:bc ag y=.int .i64 b)(u:-9223372036854775808<=a+b)(w:a+b<=9223372036854775807):bA P ag ⟨d,.binOp .add t x y t',ty,ps,bh,g⟩ A (.int .i64 (a+b)):=add C D (m8 u w)
theorem o5(C:bc ag x=.int .i64 a)(D:bc ag y=.int .i64 b)(u:-9223372036854775808<=a-b)(w:a-b<=9223372036854775807):bA P ag ⟨d,.binOp .sub t x y t',ty,ps,bh,g⟩ A (.int .i64 (a-b)):=sub C D (m8 u w)
theorem oa(C:bc ag x=.int .i64 a)(D:bc ag y=.int .i64 b)(u:-9223372036854775808<=a*b)(w:a*b<=9223372036854775807):bA P ag ⟨d,.binOp .mul t x y t',ty,ps,bh,g⟩ A (.int .i64 (a*b)):=mul C D (m8 u w)
theorem ll(w:bc ag x=.int .i64 a)(C:bc ag y=.int .i64 b)(u:0<=a)(N:0<b)(H:a<=9223372036854775807):bA P ag ⟨d,.binOp .quo t x y t',ty,ps,bh,g⟩ A (.int .i64 (a/b)):=
  quo w C U (by rw[Int.tdiv_eq_ediv_of_nonneg u];have D:0<=a/b:=Int.ediv_nonneg u U;have E:a/b<=a:=Int.ediv_le_self b u;exact m8 U U)
theorem pX(w:bc ag x=.int k a)(C:bc ag y=.int k b)(u:0<=a)(D:0<b):bA P ag ⟨d,.binOp .rem t x y t',ty,ps,bh,g⟩ A (.int k (a %b)):=
  rem w C U (Int.tmod_eq_emod_of_nonneg u)
theorem lss(u:bc ag x=.int k a)(w:bc ag y=.int k b):bA P ag ⟨d,.binOp .lss t x y t',ty,ps,bh,g⟩ A (.bool (decide (a<b))):=
  λ_ _=>by simp[execOp,eqGuard,binOp,XH,u,w]
theorem leq(u:bc ag x=.int k a)(w:bc ag y=.int k b):bA P ag ⟨d,.binOp .leq t x y t',ty,ps,bh,g⟩ A (.bool (decide (a<=b))):=
  λ_ _=>by simp[execOp,eqGuard,binOp,XH,u,w]
theorem gtr(u:bc ag x=.int k a)(w:bc ag y=.int k b):bA P ag ⟨d,.binOp .gtr t x y t',ty,ps,bh,g⟩ A (.bool (decide (b<a))):=
  λ_ _=>by simp[execOp,eqGuard,binOp,XH,u,w]
theorem geq(u:bc ag x=.int k a)(w:bc ag y=.int k b):bA P ag ⟨d,.binOp .geq t x y t',ty,ps,bh,g⟩ A (.bool (decide (b<=a))):=
  λ_ _=>by simp[execOp,eqGuard,binOp,XH,u,w]
theorem wc(u:bc ag x=.int k a)(w:bc ag y=.int k b):bA P ag ⟨d,.binOp .eql t x y t',ty,ps,bh,g⟩ A (.bool (decide (a=b))):=
  λ_ _=>by simp[execOp,eqGuard,binOp,XH,u,w,Ks]
theorem sQ(u:bc ag x=.int k a)(w:bc ag y=.int k b):bA P ag ⟨d,.binOp .neq t x y t',ty,ps,bh,g⟩ A (.bool (decide (a≠b))):=
  λ_ _=>by
   have:(a !=b)=decide (a≠b):=by rw[Xt];simp
   simp[execOp,eqGuard,binOp,XH,u,w,this]
theorem neg(u:bc ag x=.int k a)(hw:k.wrap (0-a)=c):bA P ag ⟨d,.unOp .neg t x,ty,ps,bh,g⟩ A (.int k c):=
  λ_ _=>by simp only[execOp,Op.unary,Yd,u,hw];rfl
theorem AV{p:Prop}[Decidable p](u:bc ag x=.bool (decide p)):bA P ag ⟨d,.unOp .not t x,ty,ps,bh,g⟩ A (.bool (decide (¬p))):=
  λ_ _=>by simp[execOp,Op.unary,u]
theorem xd{b:Bool}(u:bc ag x=.bool b):bA P ag ⟨d,.unOp .not t x,ty,ps,bh,g⟩ A (.bool (!b)):=
  λ_ _=>by simp[execOp,Op.unary,u]
def sE(P:Program)(t:TypeId)(k:IntKind):Bool:=match P.underlying t with
  | some (.int wI)=>decide (wI=k)
  | _=>false
theorem EO{t:TypeId}{k:IntKind}(h:sE P t k=true)(w:World):(underlying t).run P w=.ok (.int k) w:=by unfold sE at h;cases hu:P.underlying t with|none=>rw[hu]at h;cases h|some u=>(rw[hu]at h;cases u<;>first|(cases h;done)|(have:=dt h;subst this;simp[underlying,hu]))
theorem conv(k u:IntKind)(C:sE P t k=true)(D:sE P t' u=true)(E:bc ag x=.int k a)(hw:u.wrap a=c):bA P ag ⟨d,.convert t t' x,ty,ps,bh,g⟩ A (.int u c):=
  λw _=>by simp[execOp,Go.convert,EO C,EO D,E,Conv.intToInt,hw]
def uN(P:Program)(t:TypeId):Bool:=match P.underlying t with
  | some (.pointer _)=>true
  | _=>false
theorem QV{t:TypeId}(h:uN P t=true):∃e,P.underlying t=some (.pointer e):=by grind[uN]
theorem D4{t:TypeId}(h:uN P t=true)(p:Option Addr)(w:World):(Op.equal t (.pointer p) (.pointer none)).run P w=.ok p.isNone w:=by obtain⟨e,he⟩:=QV h;have key:∀d,(Yn (d+1) t (.pointer p) (.pointer none)).run P w=.ok p.isNone w:=λd=>(by cases p<;>simp[Yn,underlying,he]);exact key 9999
theorem D1{p:Option Addr}(u:uN P t=true)(C:bc ag x=.pointer p)(D:bc ag y=.pointer none):bA P ag ⟨d,.binOp .eql t x y t',ty,ps,bh,g⟩ A (.bool p.isNone):=by intro w _;unfold execOp;simp only[C,D,eqGuard,binOp,Vc,Vu,U1,D4 u];trivial
theorem AO{p:Option Addr}(u:uN P t=true)(C:bc ag x=.pointer p)(D:bc ag y=.pointer none):bA P ag ⟨d,.binOp .neq t x y t',ty,ps,bh,g⟩ A (.bool p.isSome):=by intro w _;unfold execOp;simp only[C,D,eqGuard,binOp,Vc,Vu,U1,D4 u];simp_all
def hl(P:Program)(t:TypeId)(E sz:Nat):Bool:=match P.underlying t with
  | some (.slice e)=>Nat.beq e E&&q0 P e sz
  | _=>false
theorem h1{t E sz:Nat}(h:hl P t E sz=true)(w:World):(underlying t).run P w=.ok (.slice E) w/\(Go.sizeOf E).run P w=.ok sz w:=by unfold hl at h;cases hu:P.underlying t with|none=>rw[hu]at h;cases h|some u=>rw[hu]at h;(cases u<;>first|(cases h;done)|(simp only[Vq]at h;have:=Nat.eq_of_beq_eq_true h.1;subst this;exact⟨by simp[underlying,hu],BL h.2 w⟩))
variable(E sz:Nat){n cap:Nat}
theorem zZ{u off:Nat}{j:Int}{o:Nat}(N:hl P t E sz=true)(O:bc ag x=.slice (some ⟨u,off,none⟩) n cap)(Q:bc ag y=.int .i64 j)(C:0<=j)(D:j<n)(H:off+j.toNat*sz=o):
    bA P ag ⟨d,.indexAddr t x y,ty,ps,bh,g⟩ A (.pointer (some ⟨u,o,none⟩)):=
  λw _=>by simp[execOp,Instr.indexAt,O,Q,asIntOf,h1 N,C,D,h5,H]
def fy(ad:Option Addr)(o:Nat):Value:=.pointer (ad.map λp=>⟨p.block,p.off+o,none⟩)
theorem len{ad:Option Addr}(u:hl P t E sz=true)(C:bc ag x=.slice ad n cap):
    bA P ag ⟨d,.call ⟨.builtin .len,#[x],#[t]⟩,ty,ps,bh,g⟩ A (.int .i64 n):=
  λw _=>by simp[execOp,resolve,invoke,builtin,Builtin.len_,C,h1 u,goInt]
def du(ad:Option Addr)(cap j sz:Nat):Option Addr:=if cap=j then ad else ad.map (·.add (j*sz))
theorem BB{ad:Option Addr}{j:Int}(D:hl P t E sz=true)(H:bc ag x=.slice ad n cap)(N:bc ag y=.int .i64 j)(u:0<=j)(C:j<=n):
    bA P ag ⟨d,.slice t x (some y) none none,ty,ps,bh,g⟩ A (.slice (du ad cap j.toNat sz) (n-j.toNat) (cap-j.toNat)):=
  λw _=>by simp[execOp,Yi,Instr.slice,XD,VN,H,N,asIntOf,h1 D,u,C,du]
theorem Sn{ad:Option Addr}{j:Int}(D:hl P t E sz=true)(H:bc ag x=.slice ad n cap)(N:bc ag y=.int .i64 j)(u:0<=j)(C:j<=cap):
    bA P ag ⟨d,.slice t x none (some y) none,ty,ps,bh,g⟩ A (.slice ad j.toNat cap):=
  λw _=>by
   have:(if cap=0 then ad else Option.map (λx=>x.add 0) ad)=ad:=by split<;>cases ad<;>simp[Addr.add]
   simp[execOp,Yi,Instr.slice,XD,VN,H,N,asIntOf,h1 D,u,C,this]
theorem xK{z:Operand}{ad:Option Addr}{j i:Int}(Q:hl P t E sz=true)(V:bc ag x=.slice ad n cap)(W:bc ag y=.int .i64 i)(Z:bc ag z=.int .i64 j)(D:0<=i)(an:i<=j)(H:j<=cap):
    bA P ag ⟨d,.slice t x (some y) (some z) none,ty,ps,bh,g⟩ A (.slice (du ad cap i.toNat sz) (j.toNat-i.toNat) (cap-i.toNat)):=
  λw _=>by
   have O:0<=j:=U
   have aq:i.toNat<=j.toNat:=U
   have N:i<=(j.toNat:Int):=U
   have u:(VN (.int .i64 j) cap .sliceAcap).run P w=.ok j.toNat w:=by simp[VN,asIntOf,O,H]
   have C:(VN (.int .i64 i) j.toNat .sliceB).run P w=.ok i.toNat w:=by simp only[VN,asIntOf,Vc,Vu,U1];rw[aw ⟨D,N⟩];rfl
   simp[execOp,Yi,Instr.slice,XD,V,W,Z,h1 Q,u,C,du]
end
end Go.QM
