/- Proved here: contracts of functions of this program, under the premises that each theorem names. -/
import Derived.Laws.Cells
import Derived.Laws.CopyRow
import Derived.Laws.Tables
import Derived.Test.YtglgidjhoncphaaGreatDoorVa
set_option linter.all false
set_option maxRecDepth 4000
set_option maxHeartbeats 4000000
open Go.Result renaming andThen_ok->U1,andThen->W3
open Go.Sem renaming run_bind->Vc
open Nat renaming eq_of_beq_eq_true->Vd,beq->Wa,blt->WJ
open Go.Region renaming wanted->Vl,ready->VG,binds->Wy,noSelect->Xf
open Go.Value renaming oneCell'->Vo
open Bool renaming and_eq_true->Vq
open Array renaming getD_eq_getD_getElem?->VV,getElem?_eq_none->Yu
open Go.Instr renaming sureAddr->Wl,indexAt->Xl
open Go.Oper renaming uponIn->Wq,wpIn_mono->Xo,wpIn->X1
open Go.Act renaming put_comm->WF
open List renaming all_eq_true->WT
open Go renaming yielded->Xp
open Go.RoundIn renaming mono->Xx
open Go.CallsIn renaming mono->Xz
open Go.QM.ft renaming refl->XE
open Option renaming bind_some->XG
namespace Go.QM
open Go
def cg (r:Option Nat) (P:Program) (ag:Env) (o:Oper) (A:ax) (K:Value->ax->Prop):Prop:=
  ∀ a w,a.eval=bc ag->sat w A->
    o.wpIn (mO r) 0 P a w (λa' h2=>∃v bl,a'=a.put o.dst v/\ft w h2/\sat h2 bl/\K v bl) (λ_ _ _=>False)
def m9(F:Fence)(n:Nat)(P:Program)(ops:Array Oper)(Q:Exit->Act->World->Prop):List Oper->Act->World->Prop
  | [],a,w=>Q .normal a w
  | o::rest,a,w=>if Vl o (yielded ops a.tmps)=true then o.wpIn F n P a w (m9 F n P ops Q rest) Q else(∀f,o.about P w a.eval=some f->F.fn f)/\m9 F n P ops Q rest (a.put o.dst undef) w
theorem B8{F:Fence}{n:Nat}{P:Program}{ops:Array Oper}{Q:Exit->Act->World->Prop}:∀(l:List Oper) (k:Nat),(∀j,l[j]? =ops[k+j]?)->∀(a:Act) (w:World),
    m9 F n P ops Q l a w->wpOpsIn F n P ops Q (List.range' k l.length) a w
  | [],_,_,a,w,h=>by simpa[wpOpsIn,m9]using h
  | o::l,k,d,a,w,h=>by
   have C:ops[k]? =some o:=by simpa using(d 0).symm
   have u:∀j,l[j]? =ops[(k+1)+j]? :=λj=>by have:=d (j+1);simpa[Nat.add_assoc,Nat.add_comm 1 j]using this
   simp only[List.length_cons,List.range'_succ];simp only[wpOpsIn,C];simp only[m9]at h;split;rename_i hw;rw[aw hw]at h;exact Xo (λa w=>B8 l (k+1) u a w) h;rename_i hw;rw[al hw]at h;exact⟨h.1,B8 l (k+1) u _ _ h.2⟩
theorem Oper.x7{F:Fence}{n:Nat}{P:Program}{o:Oper}{a:Act}{w:World}{K u:Act->World->Prop}{Q:Exit->Act->World->Prop}(h:∀a w,K a w->u a w)
    (d:o.wpIn F n P a w K (λ_ _ _=>False)):o.wpIn F n P a w u Q:=by
 unfold X1 at*;refine⟨d.1,?_⟩;have d:=d.2;generalize(o.semAt F.round a.eval).run P w=r at*;have C:¬LetsOut (λ(_:Exit) (_:Act) (_:World)=>False):=by grind[LetsOut]
 cases r with
 | ok x D=>
   cases x<;>simp only[Wq]at d⊢<;>
     first
       | exact h _ _ d
       | exact⟨d.1,Xz d.2 (λe E he=>by cases e<;>first|exact h _ _ he|exact he.elim|exact(C he).elim)⟩
       | exact⟨d.1,RowsIn.mono d.2 (λ_ _ he=>h _ _ he)⟩
       | exact⟨d.1,Xx d.2 (λe E he=>by cases e<;>first|exact h _ _ he|exact he.elim|exact(C he).elim)⟩
 | halt x D=>cases x<;>simp only[Wq]at d
def aT(r:Option Nat)(P:Program)(N:Nat)(ops:Array Oper)(l:List Oper)(Q:ff)(ag:Env)(aS:List Deferred)(A:ax):Prop:=
  ∀a w,ch N a ag aS->sat w A->m9 (mO r) 0 P ops (d8 N w Q) l a w
section
variable {r : Option Nat} {P : Program} {N : Nat} {ops : Array Oper} {l : List Oper} {Q : ff} {ag : Env} {aS : List Deferred} {A : ax} {K : Value → ax → Prop}
theorem x8{F:Fence}{n:Nat}{Q u:Exit->Act->World->Prop}(d:∀e a w,Q e a w->u e a w):∀(l:List Oper) (a:Act) (w:World),m9 F n P ops Q l a w->m9 F n P ops u l a w
  | [],_,_,h=>d _ _ _ h
  | o :: l,a,w,h=>by
   simp only[m9]at h⊢;split;rename_i hw;rw[aw hw]at h;refine Xo (λa w=>x8 d l a w) ?_;unfold X1 at*;refine⟨h.1,?_⟩;have h:=h.2;have C:LetsOut Q->LetsOut u:=λ⟨a,w,x⟩=>⟨a,w,d _ _ _ x⟩;generalize(o.semAt F.round a.eval).run P w=r at*
   cases r with
   | ok x D=>
     cases x<;>simp only[Wq]at h⊢<;>
       first
         | exact h
         | exact⟨h.1,Xz h.2 (λe E he=>by cases e<;>first|exact he|exact d _ _ _ he|exact C he)⟩
         | exact⟨h.1,Xx h.2 (λe E he=>by cases e<;>first|exact he|exact d _ _ _ he|exact C he)⟩
   | halt x D=>cases x<;>simp only[Wq]at h⊢;exact d _ _ _ h
   rename_i hw;rw[al hw]at h;exact⟨h.1,x8 d l _ _ h.2⟩
theorem aT.bg{B:ax}(e:aF A B)(h:aT r P N ops l Q ag aS B):aT r P N ops l Q ag aS A:=λa w x y=>h a w x (y.bg e)
theorem ab.region{id:Nat}(h:aT r P N l.toArray l Q ag aS A):ab r P N (.region id l.toArray false) Q ag aS A:=by intro a w d u;refine wpIn_region ?_;have:=B8 (ops:=l.toArray) l 0 cE a w (h a w d u);grind[List.range_eq_range']
theorem aT.nil(h:Q .normal ag aS A):aT r P N ops [] Q ag aS A:=λ_ w x y=>⟨XE w,ag,aS,A,x,y,h⟩
variable{o:Oper}
theorem aT.cons(O:o.guard=none)(u:jN N o.dst=true)(h:cg r P ag o A (λv bl=>aT r P N ops l Q (j0 ag o.dst v) aS bl)):aT r P N ops (o::l) Q ag aS A:=by
 intro a w d D;have hw:Vl o (yielded ops a.tmps)=true:=by grind[Vl]
 simp only[m9,hw,if_true];refine Oper.x7 ?_ (h a w d.eval D);rintro H V ⟨v,bl,rfl,s,E,C⟩;exact x8 (λe a w=>vj s (λ_ _ _ _ h=>h)) l _ _ (C _ _ (d.put u v) E)
def ik (ops:Array Oper) (ag:Env) (j:Nat):Option Bool:=
  match(ops[j]?).bind (·.dst)with
  | some d=>match ag d with
    | .bool b=>some b
    | _=>none
  | none=>none
theorem ch.yielded{a:Act}(h:ch N a ag aS){j:Nat}{b:Bool}(w:ik ops ag j=some b):yielded ops a.tmps j=some b:=by unfold ik at w;unfold Xp;cases C:(ops[j]?).bind (·.dst)with|none=>rw[C]at w;cases w|some d=>rw[C]at w;simp only[]at w;have u:=h.get d;rw[VV]at u;simp only[XG];(cases D:a.tmps[d]? with|none=>rw[D]at u;simp[undef]at u;rw[<-u]at w;simp at w|some v=>rw[D]at u;simp at u;rw[u];cases hv:ag d<;>simp_all)
variable{b:Bool}{j:Nat}
theorem aT.DC(C:o.guard=some (j,b))(O:ik ops ag j=some b)(u:jN N o.dst=true)(h:cg r P ag o A (λv bl=>aT r P N ops l Q (j0 ag o.dst v) aS bl)):aT r P N ops (o::l) Q ag aS A:=by
 intro a w d E;have hw:Vl o (Xp ops a.tmps)=true:=by simp[Vl,C,d.yielded O]
 simp only[m9,hw,if_true];refine Oper.x7 ?_ (h a w d.eval E);rintro V W ⟨v,bl,rfl,s,H,D⟩;exact x8 (λe a w=>vj s (λ_ _ _ _ h=>h)) l _ _ (D _ _ (d.put u v) H)
theorem aT.Se(C:o.guard=some (j,!b))(E:ik ops ag j=some b)(u:jN N o.dst=true)(h:aT r P N ops l Q (j0 ag o.dst undef) aS A):aT r P N ops (o::l) Q ag aS A:=by
 intro a w d D;have hw:Vl o (Xp ops a.tmps)=false:=by simp[Vl,C,d.yielded E]
 simp only[m9,hw];exact⟨λ_ _=>trivial,h _ _ (d.put u undef) D⟩
def vc (ops:Array Oper) (ag:Env) (j:Nat):Bool:=
  match(ops[j]?).bind (·.dst)with
  | some d=>match ag d with
    | .bool _=>false
    | _=>true
  | none=>true
theorem ch.I0{a:Act}(h:ch N a ag aS)(u:vc ops ag j=true):Xp ops a.tmps j=none:=by unfold vc at u;unfold Xp;cases C:(ops[j]?).bind (·.dst)with|none=>rfl|some d=>rw[C]at u;simp only[]at u;have w:=h.get d;rw[VV]at w;simp only[XG];(cases hv:a.tmps[d]? with|none=>rfl|some v=>rw[hv]at w;simp only[Option.getD_some]at w;subst w;revert u;generalize ag d=z;intro u;(cases z<;>first|rfl|cases u))
theorem aT.Hz(C:o.guard=some (j,b))(E:vc ops ag j=true)(u:jN N o.dst=true)(h:aT r P N ops l Q (j0 ag o.dst undef) aS A):aT r P N ops (o::l) Q ag aS A:=by
 intro a w d D;have hw:Vl o (Xp ops a.tmps)=false:=by simp[Vl,C,d.I0 E]
 simp only[m9,hw];exact⟨λ_ _=>trivial,h _ _ (d.put u undef) D⟩
theorem aT.split(t:Nat)(d:ag t=.bool b)(u:b=true->aT r P N ops l Q (hP ag t (.bool true)) aS A)(w:b=false->aT r P N ops l Q (hP ag t (.bool false)) aS A):aT r P N ops l Q ag aS A:=by cases b with|true=>have:=u rfl;rwa[r4 d]at this|false=>have:=w rfl;rwa[r4 d]at this
theorem aT.known(t:Nat){c:Bool}(u:ag t=.bool b)(d:b=c)(h:aT r P N ops l Q (hP ag t (.bool c)) aS A):aT r P N ops l Q ag aS A:=by subst d;rwa[r4 u]at h
theorem cg.mono{d:Value->ax->Prop}(h:cg r P ag o A K)(H:∀v bl,K v bl->d v bl):cg r P ag o A d:=
  λa w x y=>Xo (λ_ _ ⟨v,bl,u,C,D,E⟩=>⟨v,bl,u,C,D,H _ _ E⟩) (h a w x y)
theorem cg.bg{B:ax}(e:aF A B)(h:cg r P ag o B K):cg r P ag o A K:=λa w x y=>h a w x (y.bg e)
def iS:Op->Bool
  | .defer _=>false
  | _=>true
theorem rV(r:Option Nat)(h:iS o.op=true)(f:Operand->Value):o.semAt r f=execOp f o:=
  Oper.semAt_eq r f o (λc d=>by rw[d]at h;cases h)
theorem cg.run(D:iS o.op=true)
    (h:∀w,sat w A->∃v d bl,((execOp (bc ag) o).run P w=.ok (.value v) d\/((execOp (bc ag) o).run P w=.ok .skip d/\v=undef))/\ft w d/\sat d bl/\K v bl):cg r P ag o A K:=by intro a w he E;obtain⟨v,d,bl,u,N,H,C⟩:=h w E;refine⟨λ_ _=>trivial,?_⟩;rw[rV _ D,he];rcases u with u|⟨u,rfl⟩<;>rw[u]<;>exact⟨_,bl,rfl,N,H,C⟩
theorem cg.val(v:Value)(u:iS o.op=true)(h:∀w,sat w A->(execOp (bc ag) o).run P w=.ok (.value v) w)(k:K v A):cg r P ag o A K:=
  cg.run u λw d=>⟨v,w,A,.inl (h w d),XE w,d,k⟩
def bA(P:Program)(ag:Env)(o:Oper)(A:ax)(v:Value):Prop:=∀w,sat w A->(execOp (bc ag) o).run P w=.ok (.value v) w
theorem cg.q{v:Value}(d:iS o.op=true)(h:bA P ag o A v)(k:K v A):cg r P ag o A K:=cg.val v d h k
variable {op : Op} {d : Option Tmp} {ty : TypeId} {ps : String} {bh : Array Edge} {g : Option (Nat × Bool)} {t : Nat} {v : Value} {j : Nat} {b : Bool}
theorem q(u:iS op=true)(d:WJ t N=true)(w:bA P ag ⟨some t,op,ty,ps,bh,none⟩ A v)(h:aT r P N ops l Q (hP ag t v) aS A):aT r P N ops (⟨some t,op,ty,ps,bh,none⟩::l) Q ag aS A:=
  aT.cons rfl d (cg.q u w h)
theorem c8(C:ik ops ag j=some b)(u:iS op=true)(d:WJ t N=true)(w:bA P ag ⟨some t,op,ty,ps,bh,some (j,b)⟩ A v)(h:aT r P N ops l Q (hP ag t v) aS A):aT r P N ops (⟨some t,op,ty,ps,bh,some (j,b)⟩::l) Q ag aS A:=
  aT.DC rfl C d (cg.q u w h)
theorem m3(u:ik ops ag j=some (!b))(d:WJ t N=true)(h:aT r P N ops l Q (hP ag t undef) aS A):aT r P N ops (⟨some t,op,ty,ps,bh,some (j,b)⟩::l) Q ag aS A:=
  aT.Se (o:=⟨some t,op,ty,ps,bh,some (j,b)⟩) (b:=!b) cE u d h
theorem Q7(u:vc ops ag j=true)(d:WJ t N=true)(h:aT r P N ops l Q (hP ag t undef) aS A):aT r P N ops (⟨some t,op,ty,ps,bh,some (j,b)⟩::l) Q ag aS A:=
  aT.Hz (o:=⟨some t,op,ty,ps,bh,some (j,b)⟩) rfl u d h
theorem e(d:WJ t N=true)(h:cg r P ag ⟨some t,op,ty,ps,bh,none⟩ A (λv bl=>aT r P N ops l Q (hP ag t v) aS bl)):aT r P N ops (⟨some t,op,ty,ps,bh,none⟩::l) Q ag aS A:=
  aT.cons rfl d h
theorem dh(h:cg r P ag ⟨none,op,ty,ps,bh,none⟩ A (λ_ bl=>aT r P N ops l Q ag aS bl)):aT r P N ops (⟨none,op,ty,ps,bh,none⟩::l) Q ag aS A:=
  aT.cons rfl rfl h
theorem pF(u:ik ops ag j=some b)(d:WJ t N=true)(h:cg r P ag ⟨some t,op,ty,ps,bh,some (j,b)⟩ A (λv bl=>aT r P N ops l Q (hP ag t v) aS bl)):aT r P N ops (⟨some t,op,ty,ps,bh,some (j,b)⟩::l) Q ag aS A:=
  aT.DC rfl u d h
variable{x:Operand}
theorem e8{v:Value}(u:bc ag x=v):bA P ag ⟨d,.move x,ty,ps,bh,g⟩ A v:=λ_ _=>by simp[execOp,u]
theorem oB{v:Value}(u:bc ag x=v):bA P ag ⟨d,.assign x,ty,ps,bh,g⟩ A v:=λ_ _=>by simp[execOp,u]
theorem Bc{c y:Operand}{v:Value}(u:bc ag c=.bool true)(w:bc ag x=v):bA P ag ⟨d,.pick c x y,ty,ps,bh,g⟩ A v:=λ_ _=>by simp[execOp,u,w,asBool]
theorem Bb{c y:Operand}{v:Value}(u:bc ag c=.bool false)(w:bc ag y=v):bA P ag ⟨d,.pick c x y,ty,ps,bh,g⟩ A v:=λ_ _=>by simp[execOp,u,w,asBool]
theorem sP{a:Addr}(u:bc ag x=.pointer (some a)):bA P ag ⟨d,.nilCheck x,ty,ps,bh,g⟩ A (.pointer (some a)):=λ_ _=>by simp[execOp,u]
theorem pu(v:Value)(h:∀w,(execOp (bc ag) ⟨d,op,ty,ps,bh,g⟩).run P w=.ok (.value v) w):bA P ag ⟨d,op,ty,ps,bh,g⟩ A v:=λw _=>h w
theorem h5(b off n:Nat):(⟨b,off,none⟩:Addr).add n=⟨b,off+n,none⟩:=by unfold Addr.add;split<;>simp_all
def mA(P:Program)(t:TypeId):Bool:=match P.underlying t with
  | some (.struct _)|some (.array _ _)|none=>false
  | some _=>true
def qo(P:Program)(t:TypeId)(n:Nat):Bool:=match P.underlying t,P.info? t with
  | some (.struct _),some i|some (.array _ _),some i=>Wa i.size n
  | _,_=>false
def q0(P:Program)(t:TypeId)(n:Nat):Bool:=match P.info? t with
  | some i=>Wa i.size n
  | none=>false
def wn (P:Program) (s:TypeId) (f off:Nat):Bool:=match P.underlying s with
  | some (.struct pK)=>match pK[f]? with
    | some fd=>Wa fd.offset off&&(match P.info? fd.type with|some i=>!Wa i.size 0|none=>false)
    | none=>false
  | _=>false
theorem uj{t:TypeId}(h:mA P t=true)(w:World):(isAgg t).run P w=.ok false w:=by unfold mA at h;cases hu:P.underlying t with|none=>rw[hu]at h;cases h|some u=>(rw[hu]at h;cases u<;>first|(simp at h;done)|simp[isAgg,underlying,hu])
variable{n:Nat}
theorem E7{t:TypeId}(h:qo P t n=true)(w:World):(isAgg t).run P w=.ok true w/\(sizeOf t).run P w=.ok n w:=by unfold qo at h;cases hu:P.underlying t with|none=>rw[hu]at h;cases h|some u=>rw[hu]at h;(cases d:P.info? t with|none=>rw[d]at h;cases u<;>cases h|some i=>rw[d]at h;(cases u<;>first|(cases h;done)|(simp only[]at h;have:=Vd h;simp[isAgg,underlying,hu,sizeOf,typeInfo,d,this])))
theorem BL{t:TypeId}(h:q0 P t n=true)(w:World):(sizeOf t).run P w=.ok n w:=by unfold q0 at h;cases d:P.info? t with|none=>rw[d]at h;cases h|some i=>rw[d]at h;have:=Vd h;simp[sizeOf,typeInfo,d,this]
variable{off:Nat}
theorem cY{s:TypeId}{f b:Nat}(o:Nat)(C:wn P s f o=true)(Q:bc ag x=.pointer (some ⟨b,off,none⟩)):
    bA P ag ⟨d,.fieldAddr s x f,ty,ps,bh,g⟩ A (.pointer (some ⟨b,off+o,none⟩)):=by intro w _;unfold wn at C;cases hu:P.underlying s with|none=>rw[hu]at C;cases C|some u=>rw[hu]at C;(cases u with|struct O=>simp only[]at C;(cases H:O[f]? with|none=>rw[H]at C;cases C|some fd=>rw[H]at C;simp only[Vq]at C;obtain⟨E,D⟩:=C;have E:=Vd E;(cases N:P.info? fd.type with|none=>rw[N]at D;cases D|some i=>rw[N]at D;(have V:i.size≠0:=λe=>by simp[e]at D);simp[execOp,Instr.fieldAt,underlying,hu,H,Q,Wl,fieldPlace,sizeOf,typeInfo,N,V,h5,E]))|_=>cases C)
variable{E:Nat}{lW:Nat×Nat}
theorem yX{w:World}{b:Nat}{l:List Value}(h:w.heap[b]? =some (.cells l.toArray E lW))(off:Nat):w.cell? ⟨b,off,none⟩=l[off]? :=by grind[World.cell?]
theorem Ar{t:TypeId}(d:mA P t=true){w:World}{b:Nat}{l:List Value}{v:Value}(h:w.heap[b]? =some (.cells l.toArray E lW))(hv:l[off]? =some v):
    (loadVar t ⟨b,off,none⟩).run P w=.ok v w:=by simp[loadVar,uj d,yX h,hv]
variable{vs:List Value}
theorem Aq{t:TypeId}(C:qo P t n=true){w:World}{b:Nat}{l:List Value}(h:w.heap[b]? =some (.cells l.toArray E lW))(hv:(l.drop off).take n=vs)(an:vs.length=n):
    (loadVar t ⟨b,off,none⟩).run P w=.ok (.agg vs.toArray) w:=by have u:=run_loadCells_list (P:=P) w ⟨b,off,none⟩ vs (λj v d=>by rw[h5,yX h];rw[<-hv,List.getElem?_take]at d;split at d;rwa[List.getElem?_drop]at d;cases d);rw[an]at u;simp[loadVar,E7 C,u]
class fT(A:ax)(b:Nat)(o:outParam Obj):Prop where
  rd:Rd A b o
instance (b:Nat)(E:TypeId)(l:List Value):fT (aj b E l) b (.cells l.toArray E (0,0)):=⟨nc b E l⟩
instance (b:Nat)(o:Obj):fT (obj b o) b o:=⟨ji b o⟩
instance (A:ax)(l:List ax)(b:Nat)(o:Obj)[h:fT (ah l) b o]:fT (ah (A::l)) b o:=⟨lI h.rd⟩
instance (A:ax)(l:List ax)(b:Nat)(o:Obj)[h:fT A b o]:fT (ah (A::l)) b o:=⟨jh h.rd⟩
theorem Pl{t:TypeId}{b:Nat}{l:List Value}{v:Value}(C:mA P t=true)(D:bc ag x=.pointer (some ⟨b,off,none⟩))(hr:Rd A b (.cells l.toArray E lW))(hv:l[off]? =some v):
    bA P ag ⟨d,.load t x,ty,ps,bh,g⟩ A v:=by intro w u;simp[execOp,Instr.loadAt,D,Wl,Ar C (hr.sat u) hv]
theorem Pm{t:TypeId}{b:Nat}{l:List Value}(n:Nat)(C:qo P t n=true)(D:bc ag x=.pointer (some ⟨b,off,none⟩))(hr:Rd A b (.cells l.toArray E lW))(hv:(l.drop off).take n=vs)(an:vs.length=n):
    bA P ag ⟨d,.load t x,ty,ps,bh,g⟩ A (.agg vs.toArray):=by intro w u;simp[execOp,Instr.loadAt,D,Wl,Aq C (hr.sat u) hv an]
theorem gS{t:TypeId}{b:Nat}{l:List Value}{v:Value}(u:mA P t=true)(w:bc ag x=.pointer (some ⟨b,off,none⟩))[hr:fT A b (.cells l.toArray E lW)](hv:l[off]? =some v):
    bA P ag ⟨d,.load t x,ty,ps,bh,g⟩ A v:=Pl u w hr.rd hv
theorem fM{t:TypeId}{b:Nat}{l:List Value}(n:Nat)(u:qo P t n=true)(w:bc ag x=.pointer (some ⟨b,off,none⟩))[hr:fT A b (.cells l.toArray E lW)](hv:(l.drop off).take n=vs)(an:vs.length=n):
    bA P ag ⟨d,.load t x,ty,ps,bh,g⟩ A (.agg vs.toArray):=Pm n u w hr.rd hv an
def dI(off:Nat)(vs l:List Value):List Value:=l.take off++vs++l.drop (off+vs.length)
theorem u1{l:List Value}(h:off+vs.length<=l.length):(dI off vs l).length=l.length:=by grind[dI]
theorem xD{w:World}{b:Nat}{l l':List Value}(h:sat w (sep (aj b E l) A)):sat (w.setRow b l'.toArray) (sep (aj b E l') A):=by have d:w.heap[b]? =some (.cells l.toArray E (0,0)):=(iC (nc b E l)).sat h;exact uU h (setRow_heap w b _ _ E (0,0) d) (λi u=>setRow_other w b i _ u)
theorem SI{t:TypeId}{v:Value}(D:q0 P t n=true)(an:v.cells.toList.length=n)(d:v.cells.toList.all Vo=true){w:World}{b:Nat}{l:List Value}
    (h:w.heap[b]? =some (.cells l.toArray E (0,0))) (hlen:off+n<=l.length):(storeVar t ⟨b,off,none⟩ v).run P w=.ok () (w.setRow b (dI off v.cells.toList l).toArray):=by
 have:=run_storeCells_at P b off E v.cells.toList 0 l.toArray w h (by rw[an];simpa using hlen) (λu hu=>by simpa using WT.1 d u hu);simp only[Nat.add_zero]at this;have C:v.cells.size=n:=by trivial
 simp only[storeVar,Vc,BL D,U1,C,ne_eq,not_true_eq_false,if_false,this,dI]
theorem GD(i:Nat){hs rest:List ax}{t:TypeId}{y:Operand}{b:Nat}{l l':List Value}{v:Value}(V:bc ag x=.pointer (some ⟨b,off,none⟩))(u:eO i hs=some (aj b E l,rest))(W:bc ag y=v)
    (N:v.cells.toList=vs) (D:vs.all Vo=true) (Q:q0 P t n=true) (an:vs.length=n) (hlen:off+n<=l.length) (O:dI off vs l=l') (k:K undef (ah (aj b E l'::rest))):
    cg r P ag ⟨d,.store t x y,ty,ps,bh,g⟩ (ah hs) K:=by subst N;refine cg.run rfl λw C=>⟨undef,w.setRow b l'.toArray,_,.inr ⟨?_,rfl⟩,⟨rfl,rfl,rfl,by simp⟩,?_,k⟩;have H:w.heap[b]? =some (.cells l.toArray E (0,0)):=(iC (nc b E l)).sat (C.bg (fI u));subst O;simp only[execOp,Instr.storeAt,V,W,Wl,Vc,Sem.run_pure,U1,SI Q an D H hlen];exact xD (C.bg (fI u))
class rj(hs:List ax)(b:Nat)(E:outParam Nat)(l:outParam (List Value))(r:outParam (List ax)):Prop where
  tk:∃i,eO i hs=some (aj b E l,r)
instance (b E:Nat)(l:List Value)(r:List ax):rj (aj b E l::r) b E l r:=⟨0,rfl⟩
instance (A:ax)(hs:List ax)(b E:Nat)(l:List Value)(r:List ax)[h:rj hs b E l r]:rj (A::hs) b E l (A::r):=⟨by
  obtain⟨i,pM⟩:=h.tk
  exact⟨i+1,by simp[eO,pM]⟩⟩
theorem st{hs rest:List ax}{t:TypeId}{y:Operand}{b:Nat}{l l':List Value}{v:Value}(n:Nat)(H:q0 P t n=true)(N:bc ag x=.pointer (some ⟨b,off,none⟩))(O:bc ag y=v)
    (C:v.cells.toList=vs) (w:vs.all Vo=true) (an:Wa vs.length n=true) [u:rj hs b E l rest] (hlen:off+n<=l.length) (D:dI off vs l=l') (k:K undef (ah (aj b E l'::rest))):
    cg r P ag ⟨d,.store t x y,ty,ps,bh,g⟩ (ah hs) K:=by obtain⟨i,u⟩:=u.tk;exact GD i N u O C w H (Vd an) hlen D k
theorem cg.new{o:Oper}(bi:iS o.op=true)(E:TypeId)(l:List Value)(f:Nat->Value)(d:∀w,(execOp (bc ag) o).run P w=.ok (.value (f w.heap.size)) (w.alloc (.cells l.toArray E)))
    {hs:List ax} (k:∀b,K (f b) (ah (aj b E l::hs))):cg r P ag o (ah hs) K:=
  cg.run bi λw u=>⟨_,_,_,.inl (d w),⟨rfl,rfl,rfl,by simp⟩,o2 _ u,k w.heap.size⟩
theorem e0{hs:List ax}{E:TypeId}{v:Value}{l:List Value}(C:bc ag x=v)(u:v.cells.toList=l)(k:∀b,K (.pointer (some ⟨b,0,none⟩)) (ah (aj b E l::hs))):
    cg r P ag ⟨d,.box E x,ty,ps,bh,g⟩ (ah hs) K:=by subst u;refine cg.new rfl E _ (λb=>.pointer (some ⟨b,0,none⟩)) (λw=>?_) k;simp[execOp,Instr.box,newVar,newRow,C]
def ly(P:Program)(t:TypeId):Option Value:=(P.info? t).bind (·.zero)
theorem vm{t:TypeId}{z:Value}(h:ly P t=some z)(w:World):(zeroValue t).run P w=.ok z w:=by unfold ly at h;cases d:P.info? t with|none=>rw[d]at h;cases h|some i=>rw[d]at h;simp only[XG]at h;simp[zeroValue,typeInfo,d,h]
theorem gA{hs:List ax}{E:TypeId}{z:Value}{l:List Value}(C:ly P E=some z)(u:z.cells.toList=l)(k:∀b,K (.pointer (some ⟨b,0,none⟩)) (ah (aj b E l::hs))):
    cg r P ag ⟨d,.alloc E,ty,ps,bh,g⟩ (ah hs) K:=by subst u;refine cg.new rfl E _ (λb=>.pointer (some ⟨b,0,none⟩)) (λw=>?_) k;simp[execOp,Instr.alloc,newVar,newRow,vm C]
end
end Go.QM
namespace Go.QM
open Go
def h4{α:Type}(P:Program)(s:Sem α):Prop:=(∃r,∀w,s.run P w=.ok r w)\/∀w r h2,s.run P w≠.ok r h2
theorem h4.pure{α:Type}{P:Program}(r:α):h4 P (pure r:Sem α):=.inl ⟨r,λw=>by simp⟩
variable{P:Program}{α:Type}
theorem h4.bind{β:Type}{s:Sem α}{f:α->Sem β}(hs:h4 P s)(C:∀a,h4 P (f a)):h4 P (s>>=f):=by
 rcases hs with⟨r,d⟩|hs;rcases C r with⟨q,D⟩|an;exact .inl ⟨q,λw=>by simp[d,D]⟩;exact .inr λw q u=>by simp[d];exact an w q u
 refine .inr λw q u h=>?_;rw[Vc]at h;cases hw:s.run P w with|ok r cF=>exact hs w r cF hw|halt x cF=>rw[hw]at h;simp[W3]at h
theorem h4.stuck{α:Type}{P:Program}(why:String):h4 P (stuck why:Sem α):=.inr λw r d h=>by simp at h
theorem h4.IA(u:Unsupported):h4 P (unsupported u:Sem α):=.inr λw r d h=>by simp at h
theorem Qc(x y:Int)(s:Bool)(c:BoundsCode)(w:World)(r:α)(d:World):(runtimePanic (.bounds x y s c):Sem α).run P w≠.ok r d:=by simp[runtimePanic]
theorem Qb{β:Type}{s:Sem α}{f:α->Sem β}(C:∀a w r d,(f a).run P w≠.ok r d)(w:World)(r:β)(d:World):(s>>=f).run P w≠.ok r d:=by intro h;rw[Vc]at h;cases u:s.run P w with|ok b cF=>rw[u]at h;exact C b cF r d h|halt x cF=>rw[u]at h;simp[W3]at h
theorem h4.bounds(k:IntKind)(x y:Int)(c:BoundsCode):h4 P (boundsPanic k x y c:Sem α):=by refine .inr λw r d h=>?_;grind[boundsPanic,Qb,Qc]
theorem h4.int(v:Value):h4 P (asIntOf v):=by unfold asIntOf;split;exact .pure _;exact .IA _;exact .stuck _
theorem h4.Ix(t:TypeId):h4 P (underlying t):=by unfold underlying;cases h:P.underlying t with|some d=>exact .inl ⟨d,λw=>by simp[h]⟩|none=>(exact .inr λw r u=>by simp[h])
theorem h4.size(t:TypeId):h4 P (sizeOf t):=by unfold sizeOf typeInfo;cases h:P.info? t with|some d=>exact .inl ⟨d.size,λw=>by simp[h]⟩|none=>(exact .inr λw r u=>by simp[h])
theorem h4.z6{why:String}(t:TypeId)(k:IntKind)(i:Int)(base:Option Addr)(len:Nat)(elem:TypeId)(u:TypeDesc->Bool):h4 P (do
    let d<-underlying t
    match base with
    | some a=>if 0<=i/\i<len then(do let z<-sizeOf elem;Pure.pure (Value.pointer (some (a.add (i.toNat*z)))))else if u d=true then unsupported (Unsupported.noEntry why)else boundsPanic k i len .index
    | none=>boundsPanic k i 0 .index:Sem Value):=by refine .bind (.Ix _) λw=>?_;cases base with|some a=>dsimp only;split;exact .bind (.size _) λ_=>.pure _;split;exact .IA _;exact .bounds _ _ _ _|none=>exact .bounds _ _ _ _
theorem h4.index(t:TypeId)(x y:Value):h4 P (Xl t x y):=by unfold Xl;refine .bind (.int _) λw=>?_;refine .bind (.Ix _) λu=>?_;dsimp only;split;refine .bind ?_ λ_=>.bind (.pure _) λble=>?_;unfold Wl;split;exact .pure _;exact .stuck _;exact h4.z6 t w.1 w.2 _ _ _ (λd=>decide (ble.2.1<=1)&&match d with|.array _ _=>true|_=>false);exact .bind (.pure _) λble=>h4.z6 t w.1 w.2 _ _ _ (λd=>decide (ble.2.1<=1)&&match d with|.array _ _=>true|_=>false);exact .bind (.stuck _) λble=>h4.z6 t w.1 w.2 _ _ _ (λd=>decide (ble.2.1<=1)&&match d with|.array _ _=>true|_=>false)
def oN:Op->Bool
  | .move _|.assign _|.indexAddr ..=>true
  | _=>false
theorem NI{e:Operand->Value}{o:Oper}(h:oN o.op=true){v:Value}{w:World}(hr:(execOp e o).run P w=.ok (.value v) w)(C:World):(execOp e o).run P C=.ok (.value v) C:=by
 obtain⟨d,op,ty,ps,bh,g⟩:=o;cases op<;>first|(cases h;done)|skip
 case move x=>simp[execOp]at hr⊢;exact hr
 case assign x=>simp[execOp]at hr⊢;exact hr
 case indexAddr t x y=>
   have E:h4 P (Xl t (e x) (e y)>>=λa=>(Pure.pure (Next.value a):Sem Next)):=.bind (.index _ _ _) λ_=>.pure _
   rcases E with⟨r,u⟩|u
   · have D:=(u w).symm.trans hr
     cases D
     exact u C
   · exact absurd hr (u w _ w)
def iP(ops:Array Oper)(i:Nat):Bool:=match ops[i]? with
  | some o=>oN o.op
  | none=>false
section
variable {F : Fence} {n : Nat} {P : Program} {ops : Array Oper} {Q : Exit → Act → World → Prop} {I : World → Prop} {T : List Nat}
def oo (F:Fence) (n:Nat) (P:Program) (ops:Array Oper) (Q:Exit->Act->World->Prop) (I:World->Prop) (T:List Nat):Nat->Array Bool->Act->World->Prop
  | 0,listed,a,w=>VG .any ops listed=[]/\Q .normal a w
  | fuel+1,listed,a,w=>
    (VG .any ops listed=[]->Q .normal a w)/\
    ∀i∈VG .any ops listed,wpOpIn F n P ops Q i (λa' h2=>(i∉T->I w->I h2)/\oo F n P ops Q I T fuel (listed.setIfInBounds i true) a' h2) a w
theorem B7:∀(fuel:Nat) (listed:Array Bool) (a:Act) (w:World),oo F n P ops Q I T fuel listed a w->wpAnyIn F n P .any ops Q fuel listed a w
  | 0,_,_,_,h=>h
  | fuel+1,_,_,_,h=>⟨h.1,λi C=>wpOpIn_mono (λd D u=>B7 fuel _ d D u.2) (h.2 i C)⟩
def qq (ops:Array Oper):Nat->Nat->Nat->Bool
  | 0,_,_=>false
  | f+1,j,i=>match ops[j]? with
    | some o=>o.after.any (λe=>Wy .any e&&e.on==i)||o.after.any (λe=>Wy .any e&&qq ops f e.on i)
    | none=>false
def pg(ops:Array Oper)(listed:Array Bool):Prop:=∀j o,ops[j]? =some o->listed.getD j true=true->∀e∈o.after,Wy .any e=true->listed.getD e.on false=true
theorem CZ{listed:Array Bool}(D:pg ops listed):∀(f j i:Nat),qq ops f j i=true->(∀o,ops[j]? =some o->∀e∈o.after,Wy .any e=true->listed.getD e.on false=true)->listed.getD i false=true
  | 0,_,_,h,_=>by simp[qq]at h
  | f + 1,j,i,h,E=>by
    simp only[qq]at h
    cases u:ops[j]? with
    | none=>rw[u]at h;cases h
    | some o=>
      rw[u]at h
      simp only[Bool.or_eq_true]at h
      rcases h with h|h
      · obtain⟨e,he,d⟩:=Array.any_eq_true'.1 h
        simp only[Vq,beq_iff_eq]at d
        have:=E o u e he d.1
        rwa[d.2]at this
      · obtain⟨e,he,d⟩:=Array.any_eq_true'.1 h
        simp only[Vq]at d
        have C:=E o u e he d.1
        refine CZ D f e.on i d.2 (λV Q H O N=>D e.on V Q ?_ H O N)
        have P:e.on<listed.size:=by
          rcases Nat.lt_or_ge e.on listed.size with w|w
          · exact w
          · simp[Yu w]at C
        simp[P]at C⊢
        exact C
variable{listed:Array Bool}
theorem pg.set(w:pg ops listed){i:Nat}(hr:i∈VG .any ops listed):pg ops (listed.setIfInBounds i true):=by intro j o D d e he u;obtain⟨_,N,H,E⟩:=mem_ready.1 hr;by_cases C:i=j;grind[getD_set_true];rw[getD_set_ne true C]at d;exact getD_set_true (w j o D d e he u)
theorem Rf(d:pg ops listed){i j:Nat}(u:listed.getD i true=false)(w:j∈VG .any ops listed)(h:qq ops 9 j i=true):False:=by grind[mem_ready,CZ]
def ky(P:Program)(ops:Array Oper)(I:World->Prop)(o:Oper)(v:Value)(a:Act):Prop:=
  iS o.op=true/\((Vl o (yielded ops a.tmps)=true/\∀w,I w->(execOp a.eval o).run P w=.ok (.value v) w)\/
  (Vl o (yielded ops a.tmps)=false/\v=undef))
theorem ky.op(u:∀f,F.fn f){i:Nat}{o:Oper}{v:Value}{a:Act}(E:ops[i]? =some o)(d:ky P ops I o v a)
    {K:Act->World->Prop} {w:World} (C:I w) (h:K (a.put o.dst v) w):wpOpIn F n P ops Q i K a w:=by unfold Go.wpOpIn;simp only[E];obtain⟨D,d⟩:=d;rcases d with⟨hw,hv⟩|⟨hw,rfl⟩;simp only[hw,if_true,X1,rV _ D,hv w C,Wq];exact⟨λf _=>u f,h⟩;simp_all
theorem ky.of_same{o:Oper}{v:Value}{a a':Act}(d:ky P ops I o v a)(he:execOp a'.eval o=execOp a.eval o)
    (hw:Vl o (yielded ops a'.tmps)=Vl o (yielded ops a.tmps)):ky P ops I o v a':=by grind[ky]
theorem ky.free{o:Oper}{v:Value}{a:Act}(d:ky P ops I o v a){w0:World}(u:I w0)(C:oN o.op=true):ky P ops (λ_=>True) o v a:=
  ⟨d.1,d.2.imp (λh=>⟨h.1,λw _=>NI C (h.2 w0 u) w⟩) (λh=>h)⟩
theorem TW(an:∀f,F.fn f){j:Nat}{C D:Oper}{v:Value}(ar:ops[j]? =some D)(aq:C.apart ops D=true)(Z:iS D.op=true)
    (av:∀cs b,C.op≠.select cs b) (ax:∀cs b,D.op≠.select cs b)
    (N:∀c a w,Q (.panic c) (a.put C.dst v) w->Q (.panic c) a w) {K:Act->World->Prop} {a:Act} {w:World}
    (E:ky P ops I C v a) (h:wpOpIn F n P ops Q j K (a.put C.dst v) w):
    wpOpIn F n P ops Q j (λa' O=>ky P ops I C v a'/\K (a'.put C.dst v) O) a w:=by
 obtain⟨V,H,W⟩:=Oper.apart_spec aq
 have nu:∀(a:Act),ky P ops I C v a->∀u,ky P ops I C v (a.put D.dst u):=λa E u=>
   E.of_same (execOp_put C av a D.dst u W) (wanted_put C a D.dst u W)
 have aA:∀d,ky P ops I C v {a with defers:=d::a.defers}:=λd=>E.of_same rfl rfl;unfold wpOpIn at*;simp only[ar]at*;rw[wanted_put D a C.dst v V]at h;split
 ·rename_i hw
  simp only[hw,if_true]at h
  unfold X1 at*
  refine⟨λf _=>an f,?_⟩
  have h:=h.2
  rw[rV _ Z,execOp_put D ax a C.dst v V]at h
  rw[rV _ Z]
  generalize(execOp a.eval D).run P w=r at*
  cases r with
  | ok x O=>
    cases x<;>simp only[Wq]at h⊢
    case value u=>exact⟨nu a E u,by rw[<-WF a v u H];exact h⟩
    case skip=>exact⟨nu a E _,by rw[<-WF a v undef H];exact h⟩
    case defer d=>
      refine⟨nu _ (aA d) _,?_⟩
      rw[<-WF _ v undef H,<-Act.put_defers]
      exact h
    case enter f args=>
      refine⟨h.1,Xz h.2 λe ag he=>?_⟩
      cases e with
      | returned u=>exact⟨nu a E u,by rw[<-WF a v u H];exact he⟩
      | panicked c=>exact N _ _ _ he
      | outgrown=>exact he
    case row row args=>exact⟨h.1,RowsIn.mono h.2 λu ag he=>⟨nu a E u,by rw[<-WF a v u H];exact he⟩⟩
    case round l f tmps assign body=>
      refine⟨h.1,Xx h.2 λe ag he=>?_⟩
      cases e with
      | returned u=>exact⟨nu a E u,by rw[<-WF a v u H];exact he⟩
      | panicked c=>exact N _ _ _ he
      | outgrown=>exact he
  | halt x O=>
    cases x<;>simp only[Wq]at h⊢
    case panic u=>exact N _ _ _ h
 grind[WF]
theorem B6(aq:∀f,F.fn f){i:Nat}{E:Oper}{v:Value}{I':World->Prop}(av:ops[i]? =some E)(aG:∀(j:Nat) (o:Oper) cs b,ops[j]? =some o->o.op≠.select cs b)
    (a8:∀(j:Nat) (o:Oper),ops[j]? =some o->iS o.op=true) (aY:∀c a w,Q (.panic c) (a.put E.dst v) w->Q (.panic c) a w)
    (O:(∀w,I' w)\/(I'=I/\∀j∈T,qq ops 9 j i=true)):
    ∀ (fuel:Nat) (listed:Array Bool) (a:Act) (w:World),pg ops listed->
      (∀j C,ops[j]? =some C->j≠i->listed.getD j true=false->(∀e∈C.after,Wy .any e=true->e.on≠i)->E.apart ops C=true)->
      i∈VG .any ops listed->ky P ops I' E v a->I' w->
      oo F n P ops Q I T fuel (listed.setIfInBounds i true) (a.put E.dst v) w->oo F n P ops Q I T (fuel+1) listed a w:=by
 intro fuel
 induction fuel with
 | zero=>
   intro listed a w ar _ u ag W H
   refine⟨λh=>(by rw[h]at u;cases u),λj N=>?_⟩
   by_cases d:j=i
   · subst d;exact ag.op aq av W ⟨λ_ h=>h,H⟩
   · have:=ready_mono N d
     rw[H.1]at this
     cases this
 | succ fuel bc=>
   intro listed a w ar oN u ag W H
   refine⟨λh=>(by rw[h]at u;cases u),λj N=>?_⟩
   by_cases d:j=i
   · subst d;exact ag.op aq av W ⟨λ_ h=>h,H⟩
   · have D:=H.2 j (ready_mono N d)
     obtain⟨aB,C,Z,a0⟩:=mem_ready.1 N
     have a9:∀e∈C.after,Wy .any e=true->e.on≠i:=λe he a2 heq=>by
       have D:=a0 e he a2
       have ax:=(mem_ready.1 u).1
       rw[heq]at D
       rcases Nat.lt_or_ge i listed.size with an|an
       · simp[an]at ax D;rw[ax]at D;cases D
       · simp[Yu an]at D
     have aV:=TW aq Z (oN j C Z d aB a9) (a8 j C Z) (λcs b=>aG i E cs b av) (λcs b=>aG j C cs b Z) aY ag D
     have a3:∀k ok,ops[k]? =some ok->k≠i->(listed.setIfInBounds j true).getD k true=false->
         (∀e∈ok.after,Wy .any e=true->e.on≠i)->E.apart ops ok=true:=λk ok a5 a7 fD eI=>by
       refine oN k ok a5 a7 ?_ eI
       by_cases aA:j=k
       · subst aA;exact aB
       · rw[getD_set_ne true aA]at fD;exact fD
     refine wpOpIn_mono (λaS aI V=>⟨V.2.1,bc (listed.setIfInBounds j true) aS aI (ar.set N) a3 (ready_mono u (Ne.symm d)) V.1 ?_ ?_⟩) aV
     · rcases O with O|⟨rfl,O⟩
       · exact O aI
       · exact V.2.1 (λa4=>Rf ar (mem_ready.1 u).1 N (O j a4)) W
     · rw[Array.setIfInBounds_comm _ _ d]
       exact V.2.2
def px(ops:Array Oper)(T:List Nat):List (Nat×Bool)->Array Bool->Bool
  | [],listed=>(VG .any ops listed).isEmpty
  | (i,false)::c,listed=>(VG .any ops listed).contains i&&Region.free .any ops listed i&&(T.all (λj=>qq ops 9 j i)||iP ops i)&&px ops T c (listed.setIfInBounds i true)
  | (i,true)::c,listed=>(VG .any ops listed==[i])&&px ops T c (listed.setIfInBounds i true)
def yW(ops:Array Oper)(T:List Nat)(c:List (Nat×Bool)):Bool:=
  Xf ops&&ops.all (λo=>iS o.op)&&(c.length==ops.size)&&px ops T c (Array.replicate ops.size false)
end
section
variable {r : Option Nat} {P : Program} {N : Nat} {ops : Array Oper} {Q : ff} {ag : Env} {aS : List Deferred} {A I : ax} {T : List Nat} {c : List (Nat × Bool)}
def mf(Q:Exit->Act->World->Prop):Exit->Act->World->Prop
  | .panic _,_,_=>False
  | e,a,w=>Q e a w
theorem vw{w0 w:World}(s:ft w0 w){e:Exit}{a:Act}{d:World}(h:mf (d8 N w Q) e a d):mf (d8 N w0 Q) e a d:=by cases e<;>first|exact h|exact vj (w:=w) s (λ_ _ _ _ h=>h) h
theorem CF{X:Exit->Act->World->Prop}{e:Exit}{a:Act}{d:World}(h:mf X e a d):X e a d:=by cases e<;>first|exact h.elim|exact h
def b6 (r:Option Nat) (P:Program) (N:Nat) (ops:Array Oper) (I:ax) (T:List Nat) (c:List (Nat×Bool)) (Q:ff) (ag:Env) (aS:List Deferred) (A:ax):Prop:=
  ∀ a w listed,ch N a ag aS->sat w A->(∃w0,sat w0 I)->(sat w I\/∀x∈c,x.2=true\/iP ops x.1=true)->pg ops listed->Xf ops=true->(∀(j:Nat) (o:Oper),ops[j]? =some o->iS o.op=true)->px ops T c listed=true->
    oo (mO r) 0 P ops (mf (d8 N w Q)) (λw=>sat w I) T c.length listed a w
theorem r7{F:Fence}{n:Nat}{Q D:Exit->Act->World->Prop}{S:World->Prop}(u:∀e a w,Q e a w->D e a w):∀(fuel:Nat) (listed:Array Bool) (a:Act) (w:World),oo F n P ops Q S T fuel listed a w->oo F n P ops D S T fuel listed a w
  | 0,_,_,_,h=>⟨h.1,u _ _ _ h.2⟩
  | fuel + 1,listed,a,w,h=>⟨λO=>u _ _ _ (h.1 O),λi V=>by
   have d:=h.2 i V;unfold wpOpIn at*
   cases H:ops[i]? with
   | none=>rw[H]at d;exact⟨d.1,r7 u fuel _ _ _ d.2⟩
   | some o=>
     rw[H]at d
     simp only[]at d⊢
     split
     · rename_i hw
       rw[aw hw]at d
       refine Xo (K:=λN C=>(i∉T->S w->S C)/\oo F n P ops Q S T fuel (listed.setIfInBounds i true) N C) (λa w h=>⟨h.1,r7 u fuel _ a w h.2⟩) ?_
       unfold X1 at*
       refine⟨d.1,?_⟩
       have h:=d.2
       have E:LetsOut Q->LetsOut D:=λ⟨a,w,x⟩=>⟨a,w,u _ _ _ x⟩
       generalize(o.semAt F.round a.eval).run P w=r at*
       cases r with
       | ok x C=>
         cases x<;>simp only[Wq]at h⊢<;>
           first
             | exact h
             | exact⟨h.1,Xz h.2 (λe W he=>by cases e<;>first|exact he|exact u _ _ _ he|exact E he)⟩
             | exact⟨h.1,Xx h.2 (λe W he=>by cases e<;>first|exact he|exact u _ _ _ he|exact E he)⟩
       | halt x C=>cases x<;>simp only[Wq]at h⊢;exact u _ _ _ h
     · rename_i hw
       rw[al hw]at d
       exact⟨d.1,d.2.1,r7 u fuel _ _ _ d.2.2⟩⟩
theorem b6.bg{B:ax}(e:aF A B)(h:b6 r P N ops I T c Q ag aS B):b6 r P N ops I T c Q ag aS A:=λa w l x y=>h a w l x (y.bg e)
theorem b6.nil(h:Q .normal ag aS A):b6 r P N ops I T [] Q ag aS A:=by intro a w listed d u _ _ _ _ _ aN;exact⟨by simpa[px]using aN,XE w,ag,aS,A,d,u,h⟩
variable{i:Nat}{o:Oper}
theorem b6.xy{v:Value}(u:ops[i]? =some o)(ax:jN N o.dst=true)
    (an:∀a,ch N a ag aS->ky P ops (λw=>sat w I) o v a) (h:b6 r P N ops I T c Q (j0 ag o.dst v) aS A):b6 r P N ops I T ((i,false)::c) Q ag aS A:=by
 intro a w listed H aB V ar C O E aN;simp only[px,Vq,Bool.or_eq_true]at aN;obtain⟨⟨⟨aV,Z⟩,d⟩,aN⟩:=aN;have D:i∈VG .any ops listed:=b2
 have av:sat w I\/∀x∈c,x.2=true\/iP ops x.1=true:=cp
 have:=h (a.put o.dst v) w (listed.setIfInBounds i true) (H.put ax v) aB V av (C.set D) O E aN;have aI:iP ops i=true->oN o.op=true:=by grind[iP]
 have key:oN o.op=true->oo (mO r) 0 P ops (mf (d8 N w Q)) (λw=>sat w I) T (c.length+1) listed a w:=λaq=>
   let⟨aY,aG⟩:=V
   B6 (I':=λ_=>True) (vr r) u (Region.noSelect_spec O) E (λc a w h=>h.elim) (.inl λ_=>trivial) c.length listed a w C (Region.free_spec u Z) D ((an a H).free aG aq) trivial this
 rcases d with d|d;rcases ar with W|W;exact B6 (vr r) u (Region.noSelect_spec O) E (λc a w h=>h.elim) (.inr ⟨rfl,λj aA=>WT.1 d j aA⟩) c.length listed a w C (Region.free_spec u Z) D (an a H) W this;simp_all;simp_all
theorem b6.q{v:Value}(D:ops[i]? =some o)(u:o.guard=none)(d:jN N o.dst=true)(C:iS o.op=true)
    (O:bA P ag o I v) (h:b6 r P N ops I T c Q (j0 ag o.dst v) aS A):b6 r P N ops I T ((i,false)::c) Q ag aS A:=
  b6.xy D d (λa E=>⟨C,.inl ⟨by simp[Vl,u],λw H=>by rw[E.eval];exact O w H⟩⟩) h
variable{b:Bool}{j:Nat}
theorem b6.Q1{v:Value}(E:ops[i]? =some o)(C:o.guard=some (j,b))(V:ik ops ag j=some b)(u:jN N o.dst=true)(D:iS o.op=true)
    (O:bA P ag o I v) (h:b6 r P N ops I T c Q (j0 ag o.dst v) aS A):b6 r P N ops I T ((i,false)::c) Q ag aS A:=
  b6.xy E u (λa d=>⟨D,.inl ⟨by simp[Vl,C,d.yielded V],λw H=>by rw[d.eval];exact O w H⟩⟩) h
theorem b6.skip(C:ops[i]? =some o)(u:o.guard=some (j,!b))(E:ik ops ag j=some b)(d:jN N o.dst=true)(w:iS o.op=true)
    (h:b6 r P N ops I T c Q (j0 ag o.dst undef) aS A):b6 r P N ops I T ((i,false)::c) Q ag aS A:=
  b6.xy C d (λa D=>⟨w,.inr ⟨by simp[Vl,u,D.yielded E],rfl⟩⟩) h
theorem b6.split(t:Nat)(d:ag t=.bool b)(u:b=true->b6 r P N ops I T c Q (hP ag t (.bool true)) aS A)(w:b=false->b6 r P N ops I T c Q (hP ag t (.bool false)) aS A):b6 r P N ops I T c Q ag aS A:=by cases b with|true=>have:=u rfl;rwa[r4 d]at this|false=>have:=w rfl;rwa[r4 d]at this
theorem b6.known(t:Nat){b':Bool}(u:ag t=.bool b)(d:b=b')(h:b6 r P N ops I T c Q (hP ag t (.bool b')) aS A):b6 r P N ops I T c Q ag aS A:=by subst d;rwa[r4 u]at h
theorem b6.DT(aG:ops[i]? =some o)(Z:jN N o.dst=true)(hw:∀a,ch N a ag aS->Vl o (yielded ops a.tmps)=true)
    (h:cg r P ag o A (λv bl=>(T.contains i=true\/aF bl I)/\((∀x∈c,x.2=true\/iP ops x.1=true)\/aF bl I)/\b6 r P N ops I T c Q (j0 ag o.dst v) aS bl)):b6 r P N ops I T ((i,true)::c) Q ag aS A:=by
 intro a w listed d aI O a2 W aV aB aN;simp only[px,Vq,beq_iff_eq]at aN;obtain⟨u,aN⟩:=aN;refine⟨λaY=>(by rw[aY]at u;cases u),λj D=>?_⟩;rw[u]at D;obtain rfl:j=i:=by simpa using D
 have aq:j∈VG .any ops listed:=b2
 unfold wpOpIn;rw[aG];simp only[];rw[aw (hw a d)];refine Oper.x7 ?_ (h a w d.eval aI);rintro a0 E ⟨v,bl,rfl,s,C,av,ax,ar⟩;have an:=ar _ E (listed.setIfInBounds j true) (d.put Z v) C O (ax.elim .inr λh=>.inl (C.bg h)) (W.set aq) aV aB aN;have aA:∀e a H,mf (d8 N E Q) e a H->mf (d8 N w Q) e a H:=by grind[vw]
 exact⟨λV _=>av.elim (λh=>absurd (by simpa using h) V) λh=>C.bg h,r7 aA c.length _ _ _ an⟩
theorem b6.tQ(w:ops[i]? =some o)(u:o.guard=none)(d:jN N o.dst=true)
    (h:cg r P ag o A (λv bl=>(T.contains i=true\/aF bl I)/\((∀x∈c,x.2=true\/iP ops x.1=true)\/aF bl I)/\b6 r P N ops I T c Q (j0 ag o.dst v) aS bl)):b6 r P N ops I T ((i,true)::c) Q ag aS A:=
  b6.DT w d (λ_ _=>by simp[Vl,u]) h
theorem b6.Mc(w:ops[i]? =some o)(u:o.guard=some (j,b))(D:ik ops ag j=some b)(d:jN N o.dst=true)
    (h:cg r P ag o A (λv bl=>(T.contains i=true\/aF bl I)/\((∀x∈c,x.2=true\/iP ops x.1=true)\/aF bl I)/\b6 r P N ops I T c Q (j0 ag o.dst v) aS bl)):b6 r P N ops I T ((i,true)::c) Q ag aS A:=
  b6.DT w d (λa C=>by simp[Vl,u,C.yielded D]) h
theorem b6.Hz(C:ops[i]? =some o)(u:o.guard=some (j,b))(E:vc ops ag j=true)(d:jN N o.dst=true)(w:iS o.op=true)
    (h:b6 r P N ops I T c Q (j0 ag o.dst undef) aS A):b6 r P N ops I T ((i,false)::c) Q ag aS A:=
  b6.xy C d (λa D=>⟨w,.inr ⟨by simp[Vl,u,D.I0 E],rfl⟩⟩) h
theorem b6.Sd(av:ops[i]? =some o)(an:o.guard=some (j,!b))(aB:ik ops ag j=some b)(Z:jN N o.dst=true)(D:(T.contains i=true/\∀x∈c,x.2=true)\/aF A I)
    (h:b6 r P N ops I T c Q (j0 ag o.dst undef) aS A):b6 r P N ops I T ((i,true)::c) Q ag aS A:=by
 intro a w listed H u O aI W ax ar aN;simp only[px,Vq,beq_iff_eq]at aN;obtain⟨d,aN⟩:=aN;refine⟨λaG=>(by rw[aG]at d;cases d),λC E=>?_⟩;rw[d]at E;obtain rfl:C=i:=by simpa using E
 have aq:C∈VG .any ops listed:=b2
 unfold wpOpIn;rw[av];simp only[];rw[al (by simp[Vl,an,H.yielded aB])]
 exact⟨λf _=>vr r f,λV _=>D.elim (λh=>absurd (by simpa using h.1) V) λh=>u.bg h,
   h _ w (listed.setIfInBounds C true) (H.put Z undef) u O (D.elim (λh=>.inr λx aA=>.inl (h.2 x aA)) λh=>.inl (u.bg h)) (W.set aq) ax ar aN⟩
section
variable {op : Op} {ty : TypeId} {ps : String} {bh : Array Edge} {t i : Nat} {v : Value} {j : Nat} {b : Bool}
theorem bU(w:ops[i]? =some ⟨some t,op,ty,ps,bh,none⟩)(u:iS op=true)(d:WJ t N=true)(C:bA P ag ⟨some t,op,ty,ps,bh,none⟩ I v)(h:b6 r P N ops I T c Q (hP ag t v) aS A):b6 r P N ops I T ((i,false)::c) Q ag aS A:=
  b6.q w rfl d u C h
theorem eG(w:ops[i]? =some ⟨some t,op,ty,ps,bh,some (j,b)⟩)(D:ik ops ag j=some b)(u:iS op=true)(d:WJ t N=true)(C:bA P ag ⟨some t,op,ty,ps,bh,some (j,b)⟩ I v)(h:b6 r P N ops I T c Q (hP ag t v) aS A):b6 r P N ops I T ((i,false)::c) Q ag aS A:=
  b6.Q1 w rfl D d u C h
theorem LX(w:ops[i]? =some ⟨some t,op,ty,ps,bh,some (j,b)⟩)(C:ik ops ag j=some (!b))(u:iS op=true)(d:WJ t N=true)(h:b6 r P N ops I T c Q (hP ag t undef) aS A):b6 r P N ops I T ((i,false)::c) Q ag aS A:=
  b6.skip (b:=!b) w cE C d u h
theorem dJ(C:ops[i]? =some ⟨some t,op,ty,ps,bh,none⟩)(w:WJ t N=true)
    (h:cg r P ag ⟨some t,op,ty,ps,bh,none⟩ A (λv bl=>aF bl I/\b6 r P N ops I T c Q (hP ag t v) aS bl)):b6 r P N ops I T ((i,true)::c) Q ag aS A:=
  b6.tQ C rfl w (h.mono λ_ _ ⟨d,u⟩=>⟨.inr d,.inr d,u⟩)
theorem DL(w:ops[i]? =some ⟨none,op,ty,ps,bh,none⟩)
    (h:cg r P ag ⟨none,op,ty,ps,bh,none⟩ A (λ_ bl=>aF bl I/\b6 r P N ops I T c Q ag aS bl)):b6 r P N ops I T ((i,true)::c) Q ag aS A:=
  b6.tQ w rfl rfl (h.mono λ_ _ ⟨d,u⟩=>⟨.inr d,.inr d,u⟩)
theorem dl(u:T.contains i=true)(D:c.all (λx=>x.2||iP ops x.1)=true)(C:ops[i]? =some ⟨some t,op,ty,ps,bh,none⟩)(w:WJ t N=true)
    (h:cg r P ag ⟨some t,op,ty,ps,bh,none⟩ A (λv bl=>b6 r P N ops I T c Q (hP ag t v) aS bl)):b6 r P N ops I T ((i,true)::c) Q ag aS A:=
  b6.tQ C rfl w (h.mono λ_ _ d=>⟨.inl u,.inl (λx E=>by simpa using WT.1 D x E),d⟩)
theorem LZ(u:T.contains i=true)(C:c.all (λx=>x.2||iP ops x.1)=true)(w:ops[i]? =some ⟨none,op,ty,ps,bh,none⟩)
    (h:cg r P ag ⟨none,op,ty,ps,bh,none⟩ A (λ_ bl=>b6 r P N ops I T c Q ag aS bl)):b6 r P N ops I T ((i,true)::c) Q ag aS A:=
  b6.tQ w rfl rfl (h.mono λ_ _ d=>⟨.inl u,.inl (λx D=>by simpa using WT.1 C x D),d⟩)
theorem LS(C:ops[i]? =some ⟨some t,op,ty,ps,bh,some (j,b)⟩)(D:ik ops ag j=some b)(w:WJ t N=true)
    (h:cg r P ag ⟨some t,op,ty,ps,bh,some (j,b)⟩ A (λv bl=>aF bl I/\b6 r P N ops I T c Q (hP ag t v) aS bl)):b6 r P N ops I T ((i,true)::c) Q ag aS A:=
  b6.Mc C rfl D w (h.mono λ_ _ ⟨d,u⟩=>⟨.inr d,.inr d,u⟩)
theorem LY(w:ops[i]? =some ⟨some t,op,ty,ps,bh,some (j,b)⟩)(C:ik ops ag j=some (!b))(d:WJ t N=true)(u:aF A I)(h:b6 r P N ops I T c Q (hP ag t undef) aS A):b6 r P N ops I T ((i,true)::c) Q ag aS A:=
  b6.Sd (b:=!b) w cE C d (.inr u) h
end
theorem ab.draw{id:Nat}{l:List Oper}(I:ax)(T:List Nat)(c:List (Nat×Bool))(hm:P.follows .mixedOrders=true)(aN:yW l.toArray T c=true)(C:aF A I)
    (h:b6 r P N l.toArray I T c Q ag aS A):ab r P N (.region id l.toArray true) Q ag aS A:=by
 intro a w ar d;simp only[yW,Vq,beq_iff_eq]at aN;obtain⟨⟨⟨O,V⟩,W⟩,Z⟩:=aN;have D:=h a {w with drawn:=w.drawn+1} (Array.replicate l.toArray.size false) ar d ⟨{w with drawn:=w.drawn+1},sat.bg (w:={w with drawn:=w.drawn+1}) d C⟩ (.inl (sat.bg (w:={w with drawn:=w.drawn+1}) d C)) (by intro j o H E;(have an:j<l.toArray.size:=by grind);rw[VV,Array.getElem?_replicate,aw an]at E;cases E) O (λj o H=>Array.all_eq_true_iff_forall_mem.1 V o (Array.mem_of_getElem? H)) Z
 have aq:∀e a u,mf (d8 N {w with drawn:=w.drawn+1} Q) e a u->d8 N w Q e a u:=λe a u h=>
   CF (vw (w0:=w) (w:={w with drawn:=w.drawn+1}) ⟨rfl,rfl,rfl,Nat.le_refl _⟩ h)
 rw[W]at D;exact wpIn_region_any hm (B7 _ _ _ _ (r7 aq _ _ _ _ D))
end
end Go.QM
