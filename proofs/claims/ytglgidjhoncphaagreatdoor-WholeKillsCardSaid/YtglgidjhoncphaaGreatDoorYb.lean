/- Proved here: contracts of functions of this program, under the premises that each theorem names. -/
import Derived.Laws.Cells
import Derived.Laws.CopyRow
import Derived.Laws.Tables
import Derived.Test.YtglgidjhoncphaaGreatDoorYa
set_option linter.all false
set_option maxRecDepth 4000
set_option maxHeartbeats 4000000
open Go.Result renaming andThen_ok->UA,andThen->WB
open Go.Sem renaming run_bind->UL
open Nat renaming eq_of_beq_eq_true->UM,beq->VI,blt->V6
open Go.Region renaming wanted->UV,ready->Vc,binds->V9,noSelect->WL
open Bool renaming and_eq_true->UW
open Go.Value renaming oneCell'->UY
open Array renaming getD_eq_getD_getElem?->Vr,getElem?_eq_none->X1
open Go.Instr renaming sureAddr->VV,indexAt->WQ
open Go.Oper renaming uponIn->V0,wpIn_mono->WT,wpIn->Xy
open Go.Act renaming put_comm->Wg
open List renaming all_eq_true->Ws
open Go renaming yielded->WU
open Go.RoundIn renaming mono->W2
open Go.CallsIn renaming mono->W4
open Go.QM.fr renaming refl->W9
open Option renaming bind_some->Xc
namespace Go.QM
open Go
def cj (r:Option Nat) (P:Program) (ag:Env) (o:Oper) (A:ax) (K:Value->ax->Prop):Prop:=
  ∀ a w,a.eval=bb ag->sat w A->
    o.wpIn (mA r) 0 P a w (λa' hX=>∃v bk,a'=a.put o.dst v/\fr w hX/\sat hX bk/\K v bk) (λ_ _ _=>False)
def mV(F:Fence)(n:Nat)(P:Program)(ops:Array Oper)(Q:Exit->Act->World->Prop):List Oper->Act->World->Prop
  | [],a,w=>Q .normal a w
  | o::rest,a,w=>if UV o (yielded ops a.tmps)=true then o.wpIn F n P a w (mV F n P ops Q rest) Q else(∀f,o.about P w a.eval=some f->F.fn f)/\mV F n P ops Q rest (a.put o.dst undef) w
theorem BL{F:Fence}{n:Nat}{P:Program}{ops:Array Oper}{Q:Exit->Act->World->Prop}:∀(l:List Oper) (k:Nat),(∀j,l[j]? =ops[k+j]?)->∀(a:Act) (w:World),
    mV F n P ops Q l a w->wpOpsIn F n P ops Q (List.range' k l.length) a w
  | [],_,_,a,w,h=>by simpa[wpOpsIn,mV]using h
  | o::l,k,d,a,w,h=>by
   have C:ops[k]? =some o:=by simpa using(d 0).symm
   have u:∀j,l[j]? =ops[(k+1)+j]? :=λj=>by have:=d (j+1);simpa[Nat.add_assoc,Nat.add_comm 1 j]using this
   simp only[List.length_cons,List.range'_succ];simp only[wpOpsIn,C];simp only[mV]at h;split;rename_i hw;rw[aw hw]at h;exact WT (λa w=>BL l (k+1) u a w) h;rename_i hw;rw[al hw]at h;exact⟨h.1,BL l (k+1) u _ _ h.2⟩
theorem Oper.xR{F:Fence}{n:Nat}{P:Program}{o:Oper}{a:Act}{w:World}{K u:Act->World->Prop}{Q:Exit->Act->World->Prop}(h:∀a w,K a w->u a w)
    (d:o.wpIn F n P a w K (λ_ _ _=>False)):o.wpIn F n P a w u Q:=by
 unfold Xy at*;refine⟨d.1,?_⟩;have d:=d.2;generalize(o.semAt F.round a.eval).run P w=r at*;have C:¬LetsOut (λ(_:Exit) (_:Act) (_:World)=>False):=by grind[LetsOut]
 cases r with
 | ok x D=>
   cases x<;>simp only[V0]at d⊢<;>
     first
       | exact h _ _ d
       | exact⟨d.1,W4 d.2 (λe E he=>by cases e<;>first|exact h _ _ he|exact he.elim|exact(C he).elim)⟩
       | exact⟨d.1,RowsIn.mono d.2 (λ_ _ he=>h _ _ he)⟩
       | exact⟨d.1,W2 d.2 (λe E he=>by cases e<;>first|exact h _ _ he|exact he.elim|exact(C he).elim)⟩
 | halt x D=>cases x<;>simp only[V0]at d
def aO(r:Option Nat)(P:Program)(N:Nat)(ops:Array Oper)(l:List Oper)(Q:ff)(ag:Env)(aQ:List Deferred)(A:ax):Prop:=
  ∀a w,cn N a ag aQ->sat w A->mV (mA r) 0 P ops (d8 N w Q) l a w
section
variable {r : Option Nat} {P : Program} {N : Nat} {ops : Array Oper} {l : List Oper} {Q : ff} {ag : Env} {aQ : List Deferred} {A : ax} {K : Value → ax → Prop}
theorem xS{F:Fence}{n:Nat}{Q u:Exit->Act->World->Prop}(d:∀e a w,Q e a w->u e a w):∀(l:List Oper) (a:Act) (w:World),mV F n P ops Q l a w->mV F n P ops u l a w
  | [],_,_,h=>d _ _ _ h
  | o :: l,a,w,h=>by
   simp only[mV]at h⊢;split;rename_i hw;rw[aw hw]at h;refine WT (λa w=>xS d l a w) ?_;unfold Xy at*;refine⟨h.1,?_⟩;have h:=h.2;have C:LetsOut Q->LetsOut u:=λ⟨a,w,x⟩=>⟨a,w,d _ _ _ x⟩;generalize(o.semAt F.round a.eval).run P w=r at*
   cases r with
   | ok x D=>
     cases x<;>simp only[V0]at h⊢<;>
       first
         | exact h
         | exact⟨h.1,W4 h.2 (λe E he=>by cases e<;>first|exact he|exact d _ _ _ he|exact C he)⟩
         | exact⟨h.1,W2 h.2 (λe E he=>by cases e<;>first|exact he|exact d _ _ _ he|exact C he)⟩
   | halt x D=>cases x<;>simp only[V0]at h⊢;exact d _ _ _ h
   rename_i hw;rw[al hw]at h;exact⟨h.1,xS d l _ _ h.2⟩
theorem aO.bf{B:ax}(e:aF A B)(h:aO r P N ops l Q ag aQ B):aO r P N ops l Q ag aQ A:=λa w x y=>h a w x (y.bf e)
theorem ab.region{id:Nat}(h:aO r P N l.toArray l Q ag aQ A):ab r P N (.region id l.toArray false) Q ag aQ A:=by intro a w d u;refine wpIn_region ?_;have:=BL (ops:=l.toArray) l 0 cF a w (h a w d u);grind[List.range_eq_range']
theorem aO.nil(h:Q .normal ag aQ A):aO r P N ops [] Q ag aQ A:=λ_ w x y=>⟨W9 w,ag,aQ,A,x,y,h⟩
variable{o:Oper}
theorem aO.cons(O:o.guard=none)(u:jj N o.dst=true)(h:cj r P ag o A (λv bk=>aO r P N ops l Q (jw ag o.dst v) aQ bk)):aO r P N ops (o::l) Q ag aQ A:=by
 intro a w d D;have hw:UV o (yielded ops a.tmps)=true:=by grind[UV]
 simp only[mV,hw,if_true];refine Oper.xR ?_ (h a w d.eval D);rintro H V ⟨v,bk,rfl,s,E,C⟩;exact xS (λe a w=>u2 s (λ_ _ _ _ h=>h)) l _ _ (C _ _ (d.put u v) E)
def ib (ops:Array Oper) (ag:Env) (j:Nat):Option Bool:=
  match(ops[j]?).bind (·.dst)with
  | some d=>match ag d with
    | .bool b=>some b
    | _=>none
  | none=>none
theorem cn.yielded{a:Act}(h:cn N a ag aQ){j:Nat}{b:Bool}(w:ib ops ag j=some b):yielded ops a.tmps j=some b:=by unfold ib at w;unfold WU;cases C:(ops[j]?).bind (·.dst)with|none=>rw[C]at w;cases w|some d=>rw[C]at w;simp only[]at w;have u:=h.get d;rw[Vr]at u;simp only[Xc];(cases D:a.tmps[d]? with|none=>rw[D]at u;simp[undef]at u;rw[<-u]at w;simp at w|some v=>rw[D]at u;simp at u;rw[u];cases hv:ag d<;>simp_all)
variable{b:Bool}{j:Nat}
theorem aO.Da(C:o.guard=some (j,b))(O:ib ops ag j=some b)(u:jj N o.dst=true)(h:cj r P ag o A (λv bk=>aO r P N ops l Q (jw ag o.dst v) aQ bk)):aO r P N ops (o::l) Q ag aQ A:=by
 intro a w d E;have hw:UV o (WU ops a.tmps)=true:=by simp[UV,C,d.yielded O]
 simp only[mV,hw,if_true];refine Oper.xR ?_ (h a w d.eval E);rintro V W ⟨v,bk,rfl,s,H,D⟩;exact xS (λe a w=>u2 s (λ_ _ _ _ h=>h)) l _ _ (D _ _ (d.put u v) H)
theorem aO.RM(C:o.guard=some (j,!b))(E:ib ops ag j=some b)(u:jj N o.dst=true)(h:aO r P N ops l Q (jw ag o.dst undef) aQ A):aO r P N ops (o::l) Q ag aQ A:=by
 intro a w d D;have hw:UV o (WU ops a.tmps)=false:=by simp[UV,C,d.yielded E]
 simp only[mV,hw];exact⟨λ_ _=>trivial,h _ _ (d.put u undef) D⟩
def qR (ops:Array Oper) (ag:Env) (j:Nat):Bool:=
  match(ops[j]?).bind (·.dst)with
  | some d=>match ag d with
    | .bool _=>false
    | _=>true
  | none=>true
theorem cn.BQ{a:Act}(h:cn N a ag aQ)(u:qR ops ag j=true):WU ops a.tmps j=none:=by unfold qR at u;unfold WU;cases C:(ops[j]?).bind (·.dst)with|none=>rfl|some d=>rw[C]at u;simp only[]at u;have w:=h.get d;rw[Vr]at w;simp only[Xc];(cases hv:a.tmps[d]? with|none=>rfl|some v=>rw[hv]at w;simp only[Option.getD_some]at w;subst w;revert u;generalize ag d=z;intro u;(cases z<;>first|rfl|cases u))
theorem aO.Bh(C:o.guard=some (j,b))(E:qR ops ag j=true)(u:jj N o.dst=true)(h:aO r P N ops l Q (jw ag o.dst undef) aQ A):aO r P N ops (o::l) Q ag aQ A:=by
 intro a w d D;have hw:UV o (WU ops a.tmps)=false:=by simp[UV,C,d.BQ E]
 simp only[mV,hw];exact⟨λ_ _=>trivial,h _ _ (d.put u undef) D⟩
theorem aO.split(t:Nat)(d:ag t=.bool b)(u:b=true->aO r P N ops l Q (hd ag t (.bool true)) aQ A)(w:b=false->aO r P N ops l Q (hd ag t (.bool false)) aQ A):aO r P N ops l Q ag aQ A:=by cases b with|true=>have:=u rfl;rwa[rS d]at this|false=>have:=w rfl;rwa[rS d]at this
theorem aO.known(t:Nat){c:Bool}(u:ag t=.bool b)(d:b=c)(h:aO r P N ops l Q (hd ag t (.bool c)) aQ A):aO r P N ops l Q ag aQ A:=by subst d;rwa[rS u]at h
theorem cj.mono{d:Value->ax->Prop}(h:cj r P ag o A K)(H:∀v bk,K v bk->d v bk):cj r P ag o A d:=
  λa w x y=>WT (λ_ _ ⟨v,bk,u,C,D,E⟩=>⟨v,bk,u,C,D,H _ _ E⟩) (h a w x y)
theorem cj.bf{B:ax}(e:aF A B)(h:cj r P ag o B K):cj r P ag o A K:=λa w x y=>h a w x (y.bf e)
def iB:Op->Bool
  | .defer _=>false
  | _=>true
theorem rH(r:Option Nat)(h:iB o.op=true)(f:Operand->Value):o.semAt r f=execOp f o:=
  Oper.semAt_eq r f o (λc d=>by rw[d]at h;cases h)
theorem cj.run(D:iB o.op=true)
    (h:∀w,sat w A->∃v d bk,((execOp (bb ag) o).run P w=.ok (.value v) d\/((execOp (bb ag) o).run P w=.ok .skip d/\v=undef))/\fr w d/\sat d bk/\K v bk):cj r P ag o A K:=by intro a w he E;obtain⟨v,d,bk,u,N,H,C⟩:=h w E;refine⟨λ_ _=>trivial,?_⟩;rw[rH _ D,he];rcases u with u|⟨u,rfl⟩<;>rw[u]<;>exact⟨_,bk,rfl,N,H,C⟩
theorem cj.val(v:Value)(u:iB o.op=true)(h:∀w,sat w A->(execOp (bb ag) o).run P w=.ok (.value v) w)(k:K v A):cj r P ag o A K:=
  cj.run u λw d=>⟨v,w,A,.inl (h w d),W9 w,d,k⟩
def bz(P:Program)(ag:Env)(o:Oper)(A:ax)(v:Value):Prop:=∀w,sat w A->(execOp (bb ag) o).run P w=.ok (.value v) w
theorem cj.q{v:Value}(d:iB o.op=true)(h:bz P ag o A v)(k:K v A):cj r P ag o A K:=cj.val v d h k
variable {op : Op} {d : Option Tmp} {ty : TypeId} {ps : String} {bh : Array Edge} {g : Option (Nat × Bool)} {t : Nat} {v : Value} {j : Nat} {b : Bool}
theorem q(u:iB op=true)(d:V6 t N=true)(w:bz P ag ⟨some t,op,ty,ps,bh,none⟩ A v)(h:aO r P N ops l Q (hd ag t v) aQ A):aO r P N ops (⟨some t,op,ty,ps,bh,none⟩::l) Q ag aQ A:=
  aO.cons rfl d (cj.q u w h)
theorem c5(C:ib ops ag j=some b)(u:iB op=true)(d:V6 t N=true)(w:bz P ag ⟨some t,op,ty,ps,bh,some (j,b)⟩ A v)(h:aO r P N ops l Q (hd ag t v) aQ A):aO r P N ops (⟨some t,op,ty,ps,bh,some (j,b)⟩::l) Q ag aQ A:=
  aO.Da rfl C d (cj.q u w h)
theorem mR(u:ib ops ag j=some (!b))(d:V6 t N=true)(h:aO r P N ops l Q (hd ag t undef) aQ A):aO r P N ops (⟨some t,op,ty,ps,bh,some (j,b)⟩::l) Q ag aQ A:=
  aO.RM (o:=⟨some t,op,ty,ps,bh,some (j,b)⟩) (b:=!b) cF u d h
theorem QE(u:qR ops ag j=true)(d:V6 t N=true)(h:aO r P N ops l Q (hd ag t undef) aQ A):aO r P N ops (⟨some t,op,ty,ps,bh,some (j,b)⟩::l) Q ag aQ A:=
  aO.Bh (o:=⟨some t,op,ty,ps,bh,some (j,b)⟩) rfl u d h
theorem e(d:V6 t N=true)(h:cj r P ag ⟨some t,op,ty,ps,bh,none⟩ A (λv bk=>aO r P N ops l Q (hd ag t v) aQ bk)):aO r P N ops (⟨some t,op,ty,ps,bh,none⟩::l) Q ag aQ A:=
  aO.cons rfl d h
theorem ey(h:cj r P ag ⟨none,op,ty,ps,bh,none⟩ A (λ_ bk=>aO r P N ops l Q ag aQ bk)):aO r P N ops (⟨none,op,ty,ps,bh,none⟩::l) Q ag aQ A:=
  aO.cons rfl rfl h
theorem pj(u:ib ops ag j=some b)(d:V6 t N=true)(h:cj r P ag ⟨some t,op,ty,ps,bh,some (j,b)⟩ A (λv bk=>aO r P N ops l Q (hd ag t v) aQ bk)):aO r P N ops (⟨some t,op,ty,ps,bh,some (j,b)⟩::l) Q ag aQ A:=
  aO.Da rfl u d h
variable{x:Operand}
theorem fu{v:Value}(u:bb ag x=v):bz P ag ⟨d,.move x,ty,ps,bh,g⟩ A v:=λ_ _=>by simp[execOp,u]
theorem om{v:Value}(u:bb ag x=v):bz P ag ⟨d,.assign x,ty,ps,bh,g⟩ A v:=λ_ _=>by simp[execOp,u]
theorem AT{c y:Operand}{v:Value}(u:bb ag c=.bool true)(w:bb ag x=v):bz P ag ⟨d,.pick c x y,ty,ps,bh,g⟩ A v:=λ_ _=>by simp[execOp,u,w,asBool]
theorem xc{c y:Operand}{v:Value}(u:bb ag c=.bool false)(w:bb ag y=v):bz P ag ⟨d,.pick c x y,ty,ps,bh,g⟩ A v:=λ_ _=>by simp[execOp,u,w,asBool]
theorem sK{a:Addr}(u:bb ag x=.pointer (some a)):bz P ag ⟨d,.nilCheck x,ty,ps,bh,g⟩ A (.pointer (some a)):=λ_ _=>by simp[execOp,u]
theorem pu(v:Value)(h:∀w,(execOp (bb ag) ⟨d,op,ty,ps,bh,g⟩).run P w=.ok (.value v) w):bz P ag ⟨d,op,ty,ps,bh,g⟩ A v:=λw _=>h w
theorem ix(b off n:Nat):(⟨b,off,none⟩:Addr).add n=⟨b,off+n,none⟩:=by unfold Addr.add;split<;>simp_all
def mf(P:Program)(t:TypeId):Bool:=match P.underlying t with
  | some (.struct _)|some (.array _ _)|none=>false
  | some _=>true
def qe(P:Program)(t:TypeId)(n:Nat):Bool:=match P.underlying t,P.info? t with
  | some (.struct _),some i|some (.array _ _),some i=>VI i.size n
  | _,_=>false
def qO(P:Program)(t:TypeId)(n:Nat):Bool:=match P.info? t with
  | some i=>VI i.size n
  | none=>false
def vZ (P:Program) (s:TypeId) (f off:Nat):Bool:=match P.underlying s with
  | some (.struct pq)=>match pq[f]? with
    | some fd=>VI fd.offset off&&(match P.info? fd.type with|some i=>!VI i.size 0|none=>false)
    | none=>false
  | _=>false
theorem tZ{t:TypeId}(h:mf P t=true)(w:World):(isAgg t).run P w=.ok false w:=by unfold mf at h;cases hu:P.underlying t with|none=>rw[hu]at h;cases h|some u=>(rw[hu]at h;cases u<;>first|(simp at h;done)|simp[isAgg,underlying,hu])
variable{n:Nat}
theorem EK{t:TypeId}(h:qe P t n=true)(w:World):(isAgg t).run P w=.ok true w/\(sizeOf t).run P w=.ok n w:=by unfold qe at h;cases hu:P.underlying t with|none=>rw[hu]at h;cases h|some u=>rw[hu]at h;(cases d:P.info? t with|none=>rw[d]at h;cases u<;>cases h|some i=>rw[d]at h;(cases u<;>first|(cases h;done)|(simp only[]at h;have:=UM h;simp[isAgg,underlying,hu,sizeOf,typeInfo,d,this])))
theorem Bq{t:TypeId}(h:qO P t n=true)(w:World):(sizeOf t).run P w=.ok n w:=by unfold qO at h;cases d:P.info? t with|none=>rw[d]at h;cases h|some i=>rw[d]at h;have:=UM h;simp[sizeOf,typeInfo,d,this]
variable{off:Nat}
theorem cW{s:TypeId}{f b:Nat}(o:Nat)(C:vZ P s f o=true)(Q:bb ag x=.pointer (some ⟨b,off,none⟩)):
    bz P ag ⟨d,.fieldAddr s x f,ty,ps,bh,g⟩ A (.pointer (some ⟨b,off+o,none⟩)):=by intro w _;unfold vZ at C;cases hu:P.underlying s with|none=>rw[hu]at C;cases C|some u=>rw[hu]at C;(cases u with|struct O=>simp only[]at C;(cases H:O[f]? with|none=>rw[H]at C;cases C|some fd=>rw[H]at C;simp only[UW]at C;obtain⟨E,D⟩:=C;have E:=UM E;(cases N:P.info? fd.type with|none=>rw[N]at D;cases D|some i=>rw[N]at D;(have V:i.size≠0:=λe=>by simp[e]at D);simp[execOp,Instr.fieldAt,underlying,hu,H,Q,VV,fieldPlace,sizeOf,typeInfo,N,V,ix,E]))|_=>cases C)
variable{E:Nat}{lG:Nat×Nat}
theorem yG{w:World}{b:Nat}{l:List Value}(h:w.heap[b]? =some (.cells l.toArray E lG))(off:Nat):w.cell? ⟨b,off,none⟩=l[off]? :=by grind[World.cell?]
theorem Ac{t:TypeId}(d:mf P t=true){w:World}{b:Nat}{l:List Value}{v:Value}(h:w.heap[b]? =some (.cells l.toArray E lG))(hv:l[off]? =some v):
    (loadVar t ⟨b,off,none⟩).run P w=.ok v w:=by simp[loadVar,tZ d,yG h,hv]
variable{vs:List Value}
theorem Ab{t:TypeId}(C:qe P t n=true){w:World}{b:Nat}{l:List Value}(h:w.heap[b]? =some (.cells l.toArray E lG))(hv:(l.drop off).take n=vs)(au:vs.length=n):
    (loadVar t ⟨b,off,none⟩).run P w=.ok (.agg vs.toArray) w:=by have u:=run_loadCells_list (P:=P) w ⟨b,off,none⟩ vs (λj v d=>by rw[ix,yG h];rw[<-hv,List.getElem?_take]at d;split at d;rwa[List.getElem?_drop]at d;cases d);rw[au]at u;simp[loadVar,EK C,u]
class fP(A:ax)(b:Nat)(o:outParam Obj):Prop where
  rd:Rd A b o
instance (b:Nat)(E:TypeId)(l:List Value):fP (aj b E l) b (.cells l.toArray E (0,0)):=⟨mY b E l⟩
instance (b:Nat)(o:Obj):fP (obj b o) b o:=⟨jc b o⟩
instance (A:ax)(l:List ax)(b:Nat)(o:Obj)[h:fP (ah l) b o]:fP (ah (A::l)) b o:=⟨lr h.rd⟩
instance (A:ax)(l:List ax)(b:Nat)(o:Obj)[h:fP A b o]:fP (ah (A::l)) b o:=⟨jb h.rd⟩
theorem OS{t:TypeId}{b:Nat}{l:List Value}{v:Value}(C:mf P t=true)(D:bb ag x=.pointer (some ⟨b,off,none⟩))(hr:Rd A b (.cells l.toArray E lG))(hv:l[off]? =some v):
    bz P ag ⟨d,.load t x,ty,ps,bh,g⟩ A v:=by intro w u;simp[execOp,Instr.loadAt,D,VV,Ac C (hr.sat u) hv]
theorem OT{t:TypeId}{b:Nat}{l:List Value}(n:Nat)(C:qe P t n=true)(D:bb ag x=.pointer (some ⟨b,off,none⟩))(hr:Rd A b (.cells l.toArray E lG))(hv:(l.drop off).take n=vs)(au:vs.length=n):
    bz P ag ⟨d,.load t x,ty,ps,bh,g⟩ A (.agg vs.toArray):=by intro w u;simp[execOp,Instr.loadAt,D,VV,Ab C (hr.sat u) hv au]
theorem gJ{t:TypeId}{b:Nat}{l:List Value}{v:Value}(u:mf P t=true)(w:bb ag x=.pointer (some ⟨b,off,none⟩))[hr:fP A b (.cells l.toArray E lG)](hv:l[off]? =some v):
    bz P ag ⟨d,.load t x,ty,ps,bh,g⟩ A v:=OS u w hr.rd hv
theorem fM{t:TypeId}{b:Nat}{l:List Value}(n:Nat)(u:qe P t n=true)(w:bb ag x=.pointer (some ⟨b,off,none⟩))[hr:fP A b (.cells l.toArray E lG)](hv:(l.drop off).take n=vs)(au:vs.length=n):
    bz P ag ⟨d,.load t x,ty,ps,bh,g⟩ A (.agg vs.toArray):=OT n u w hr.rd hv au
def dJ(off:Nat)(vs l:List Value):List Value:=l.take off++vs++l.drop (off+vs.length)
theorem uL{l:List Value}(h:off+vs.length<=l.length):(dJ off vs l).length=l.length:=by grind[dJ]
theorem xo{w:World}{b:Nat}{l l':List Value}(h:sat w (sep (aj b E l) A)):sat (w.setRow b l'.toArray) (sep (aj b E l') A):=by have d:w.heap[b]? =some (.cells l.toArray E (0,0)):=(iw (mY b E l)).sat h;exact uE h (setRow_heap w b _ _ E (0,0) d) (λi u=>setRow_other w b i _ u)
theorem Si{t:TypeId}{v:Value}(D:qO P t n=true)(au:v.cells.toList.length=n)(d:v.cells.toList.all UY=true){w:World}{b:Nat}{l:List Value}
    (h:w.heap[b]? =some (.cells l.toArray E (0,0))) (hlen:off+n<=l.length):(storeVar t ⟨b,off,none⟩ v).run P w=.ok () (w.setRow b (dJ off v.cells.toList l).toArray):=by
 have:=run_storeCells_at P b off E v.cells.toList 0 l.toArray w h (by rw[au];simpa using hlen) (λu hu=>by simpa using Ws.1 d u hu);simp only[Nat.add_zero]at this;have C:v.cells.size=n:=by trivial
 simp only[storeVar,UL,Bq D,UA,C,ne_eq,not_true_eq_false,if_false,this,dJ]
theorem Gc(i:Nat){hs rest:List ax}{t:TypeId}{y:Operand}{b:Nat}{l l':List Value}{v:Value}(V:bb ag x=.pointer (some ⟨b,off,none⟩))(u:eT i hs=some (aj b E l,rest))(W:bb ag y=v)
    (N:v.cells.toList=vs) (D:vs.all UY=true) (Q:qO P t n=true) (au:vs.length=n) (hlen:off+n<=l.length) (O:dJ off vs l=l') (k:K undef (ah (aj b E l'::rest))):
    cj r P ag ⟨d,.store t x y,ty,ps,bh,g⟩ (ah hs) K:=by subst N;refine cj.run rfl λw C=>⟨undef,w.setRow b l'.toArray,_,.inr ⟨?_,rfl⟩,⟨rfl,rfl,rfl,by simp⟩,?_,k⟩;have H:w.heap[b]? =some (.cells l.toArray E (0,0)):=(iw (mY b E l)).sat (C.bf (fC u));subst O;simp only[execOp,Instr.storeAt,V,W,VV,UL,Sem.run_pure,UA,Si Q au D H hlen];exact xo (C.bf (fC u))
class q3(hs:List ax)(b:Nat)(E:outParam Nat)(l:outParam (List Value))(r:outParam (List ax)):Prop where
  tk:∃i,eT i hs=some (aj b E l,r)
instance (b E:Nat)(l:List Value)(r:List ax):q3 (aj b E l::r) b E l r:=⟨0,rfl⟩
instance (A:ax)(hs:List ax)(b E:Nat)(l:List Value)(r:List ax)[h:q3 hs b E l r]:q3 (A::hs) b E l (A::r):=⟨by
  obtain⟨i,pt⟩:=h.tk
  exact⟨i+1,by simp[eT,pt]⟩⟩
theorem st{hs rest:List ax}{t:TypeId}{y:Operand}{b:Nat}{l l':List Value}{v:Value}(n:Nat)(H:qO P t n=true)(N:bb ag x=.pointer (some ⟨b,off,none⟩))(O:bb ag y=v)
    (C:v.cells.toList=vs) (w:vs.all UY=true) (au:VI vs.length n=true) [u:q3 hs b E l rest] (hlen:off+n<=l.length) (D:dJ off vs l=l') (k:K undef (ah (aj b E l'::rest))):
    cj r P ag ⟨d,.store t x y,ty,ps,bh,g⟩ (ah hs) K:=by obtain⟨i,u⟩:=u.tk;exact Gc i N u O C w H (UM au) hlen D k
theorem cj.new{o:Oper}(bo:iB o.op=true)(E:TypeId)(l:List Value)(f:Nat->Value)(d:∀w,(execOp (bb ag) o).run P w=.ok (.value (f w.heap.size)) (w.alloc (.cells l.toArray E)))
    {hs:List ax} (k:∀b,K (f b) (ah (aj b E l::hs))):cj r P ag o (ah hs) K:=
  cj.run bo λw u=>⟨_,_,_,.inl (d w),⟨rfl,rfl,rfl,by simp⟩,oP _ u,k w.heap.size⟩
theorem eV{hs:List ax}{E:TypeId}{v:Value}{l:List Value}(C:bb ag x=v)(u:v.cells.toList=l)(k:∀b,K (.pointer (some ⟨b,0,none⟩)) (ah (aj b E l::hs))):
    cj r P ag ⟨d,.box E x,ty,ps,bh,g⟩ (ah hs) K:=by subst u;refine cj.new rfl E _ (λb=>.pointer (some ⟨b,0,none⟩)) (λw=>?_) k;simp[execOp,Instr.box,newVar,newRow,C]
def lg(P:Program)(t:TypeId):Option Value:=(P.info? t).bind (·.zero)
theorem u5{t:TypeId}{z:Value}(h:lg P t=some z)(w:World):(zeroValue t).run P w=.ok z w:=by unfold lg at h;cases d:P.info? t with|none=>rw[d]at h;cases h|some i=>rw[d]at h;simp only[Xc]at h;simp[zeroValue,typeInfo,d,h]
theorem gv{hs:List ax}{E:TypeId}{z:Value}{l:List Value}(C:lg P E=some z)(u:z.cells.toList=l)(k:∀b,K (.pointer (some ⟨b,0,none⟩)) (ah (aj b E l::hs))):
    cj r P ag ⟨d,.alloc E,ty,ps,bh,g⟩ (ah hs) K:=by subst u;refine cj.new rfl E _ (λb=>.pointer (some ⟨b,0,none⟩)) (λw=>?_) k;simp[execOp,Instr.alloc,newVar,newRow,u5 C]
end
end Go.QM
namespace Go.QM
open Go
def hZ{α:Type}(P:Program)(s:Sem α):Prop:=(∃r,∀w,s.run P w=.ok r w)\/∀w r hX,s.run P w≠.ok r hX
theorem hZ.pure{α:Type}{P:Program}(r:α):hZ P (pure r:Sem α):=.inl ⟨r,λw=>by simp⟩
variable{P:Program}{α:Type}
theorem hZ.bind{β:Type}{s:Sem α}{f:α->Sem β}(hs:hZ P s)(C:∀a,hZ P (f a)):hZ P (s>>=f):=by
 rcases hs with⟨r,d⟩|hs;rcases C r with⟨q,D⟩|au;exact .inl ⟨q,λw=>by simp[d,D]⟩;exact .inr λw q u=>by simp[d];exact au w q u
 refine .inr λw q u h=>?_;rw[UL]at h;cases hw:s.run P w with|ok r cG=>exact hs w r cG hw|halt x cG=>rw[hw]at h;simp[WB]at h
theorem hZ.stuck{α:Type}{P:Program}(why:String):hZ P (stuck why:Sem α):=.inr λw r d h=>by simp at h
theorem hZ.H6(u:Unsupported):hZ P (unsupported u:Sem α):=.inr λw r d h=>by simp at h
theorem PL(x y:Int)(s:Bool)(c:BoundsCode)(w:World)(r:α)(d:World):(runtimePanic (.bounds x y s c):Sem α).run P w≠.ok r d:=by simp[runtimePanic]
theorem PK{β:Type}{s:Sem α}{f:α->Sem β}(C:∀a w r d,(f a).run P w≠.ok r d)(w:World)(r:β)(d:World):(s>>=f).run P w≠.ok r d:=by intro h;rw[UL]at h;cases u:s.run P w with|ok b cG=>rw[u]at h;exact C b cG r d h|halt x cG=>rw[u]at h;simp[WB]at h
theorem hZ.bounds(k:IntKind)(x y:Int)(c:BoundsCode):hZ P (boundsPanic k x y c:Sem α):=by refine .inr λw r d h=>?_;grind[boundsPanic,PK,PL]
theorem hZ.int(v:Value):hZ P (asIntOf v):=by unfold asIntOf;split;exact .pure _;exact .H6 _;exact .stuck _
theorem hZ.H3(t:TypeId):hZ P (underlying t):=by unfold underlying;cases h:P.underlying t with|some d=>exact .inl ⟨d,λw=>by simp[h]⟩|none=>(exact .inr λw r u=>by simp[h])
theorem hZ.size(t:TypeId):hZ P (sizeOf t):=by unfold sizeOf typeInfo;cases h:P.info? t with|some d=>exact .inl ⟨d.size,λw=>by simp[h]⟩|none=>(exact .inr λw r u=>by simp[h])
theorem hZ.zN{why:String}(t:TypeId)(k:IntKind)(i:Int)(base:Option Addr)(len:Nat)(elem:TypeId)(u:TypeDesc->Bool):hZ P (do
    let d<-underlying t
    match base with
    | some a=>if 0<=i/\i<len then(do let z<-sizeOf elem;Pure.pure (Value.pointer (some (a.add (i.toNat*z)))))else if u d=true then unsupported (Unsupported.noEntry why)else boundsPanic k i len .index
    | none=>boundsPanic k i 0 .index:Sem Value):=by refine .bind (.H3 _) λw=>?_;cases base with|some a=>dsimp only;split;exact .bind (.size _) λ_=>.pure _;split;exact .H6 _;exact .bounds _ _ _ _|none=>exact .bounds _ _ _ _
theorem hZ.index(t:TypeId)(x y:Value):hZ P (WQ t x y):=by unfold WQ;refine .bind (.int _) λw=>?_;refine .bind (.H3 _) λu=>?_;dsimp only;split;refine .bind ?_ λ_=>.bind (.pure _) λble=>?_;unfold VV;split;exact .pure _;exact .stuck _;exact hZ.zN t w.1 w.2 _ _ _ (λd=>decide (ble.2.1<=1)&&match d with|.array _ _=>true|_=>false);exact .bind (.pure _) λble=>hZ.zN t w.1 w.2 _ _ _ (λd=>decide (ble.2.1<=1)&&match d with|.array _ _=>true|_=>false);exact .bind (.stuck _) λble=>hZ.zN t w.1 w.2 _ _ _ (λd=>decide (ble.2.1<=1)&&match d with|.array _ _=>true|_=>false)
def oB:Op->Bool
  | .move _|.assign _|.indexAddr ..=>true
  | _=>false
theorem Na{e:Operand->Value}{o:Oper}(h:oB o.op=true){v:Value}{w:World}(hr:(execOp e o).run P w=.ok (.value v) w)(C:World):(execOp e o).run P C=.ok (.value v) C:=by
 obtain⟨d,op,ty,ps,bh,g⟩:=o;cases op<;>first|(cases h;done)|skip
 case move x=>simp[execOp]at hr⊢;exact hr
 case assign x=>simp[execOp]at hr⊢;exact hr
 case indexAddr t x y=>
   have E:hZ P (WQ t (e x) (e y)>>=λa=>(Pure.pure (Next.value a):Sem Next)):=.bind (.index _ _ _) λ_=>.pure _
   rcases E with⟨r,u⟩|u
   · have D:=(u w).symm.trans hr
     cases D
     exact u C
   · exact absurd hr (u w _ w)
def kt(ops:Array Oper)(i:Nat):Bool:=match ops[i]? with
  | some o=>oB o.op
  | none=>false
section
variable {F : Fence} {n : Nat} {P : Program} {ops : Array Oper} {Q : Exit → Act → World → Prop} {I : World → Prop} {T : List Nat}
def n9 (F:Fence) (n:Nat) (P:Program) (ops:Array Oper) (Q:Exit->Act->World->Prop) (I:World->Prop) (T:List Nat):Nat->Array Bool->Act->World->Prop
  | 0,listed,a,w=>Vc .any ops listed=[]/\Q .normal a w
  | fuel+1,listed,a,w=>
    (Vc .any ops listed=[]->Q .normal a w)/\
    ∀i∈Vc .any ops listed,wpOpIn F n P ops Q i (λa' hX=>(i∉T->I w->I hX)/\n9 F n P ops Q I T fuel (listed.setIfInBounds i true) a' hX) a w
theorem BK:∀(fuel:Nat) (listed:Array Bool) (a:Act) (w:World),n9 F n P ops Q I T fuel listed a w->wpAnyIn F n P .any ops Q fuel listed a w
  | 0,_,_,_,h=>h
  | fuel+1,_,_,_,h=>⟨h.1,λi C=>wpOpIn_mono (λd D u=>BK fuel _ d D u.2) (h.2 i C)⟩
def qf (ops:Array Oper):Nat->Nat->Nat->Bool
  | 0,_,_=>false
  | f+1,j,i=>match ops[j]? with
    | some o=>o.after.any (λe=>V9 .any e&&e.on==i)||o.after.any (λe=>V9 .any e&&qf ops f e.on i)
    | none=>false
def o0(ops:Array Oper)(listed:Array Bool):Prop:=∀j o,ops[j]? =some o->listed.getD j true=true->∀e∈o.after,V9 .any e=true->listed.getD e.on false=true
theorem CA{listed:Array Bool}(D:o0 ops listed):∀(f j i:Nat),qf ops f j i=true->(∀o,ops[j]? =some o->∀e∈o.after,V9 .any e=true->listed.getD e.on false=true)->listed.getD i false=true
  | 0,_,_,h,_=>by simp[qf]at h
  | f + 1,j,i,h,E=>by
    simp only[qf]at h
    cases u:ops[j]? with
    | none=>rw[u]at h;cases h
    | some o=>
      rw[u]at h
      simp only[Bool.or_eq_true]at h
      rcases h with h|h
      · obtain⟨e,he,d⟩:=Array.any_eq_true'.1 h
        simp only[UW,beq_iff_eq]at d
        have:=E o u e he d.1
        rwa[d.2]at this
      · obtain⟨e,he,d⟩:=Array.any_eq_true'.1 h
        simp only[UW]at d
        have C:=E o u e he d.1
        refine CA D f e.on i d.2 (λV Q H O N=>D e.on V Q ?_ H O N)
        have P:e.on<listed.size:=by
          rcases Nat.lt_or_ge e.on listed.size with w|w
          · exact w
          · simp[X1 w]at C
        simp[P]at C⊢
        exact C
variable{listed:Array Bool}
theorem o0.set(w:o0 ops listed){i:Nat}(hr:i∈Vc .any ops listed):o0 ops (listed.setIfInBounds i true):=by intro j o D d e he u;obtain⟨_,N,H,E⟩:=mem_ready.1 hr;by_cases C:i=j;grind[getD_set_true];rw[getD_set_ne true C]at d;exact getD_set_true (w j o D d e he u)
theorem QL(d:o0 ops listed){i j:Nat}(u:listed.getD i true=false)(w:j∈Vc .any ops listed)(h:qf ops 9 j i=true):False:=by grind[mem_ready,CA]
def ki(P:Program)(ops:Array Oper)(I:World->Prop)(o:Oper)(v:Value)(a:Act):Prop:=
  iB o.op=true/\((UV o (yielded ops a.tmps)=true/\∀w,I w->(execOp a.eval o).run P w=.ok (.value v) w)\/
  (UV o (yielded ops a.tmps)=false/\v=undef))
theorem ki.op(u:∀f,F.fn f){i:Nat}{o:Oper}{v:Value}{a:Act}(E:ops[i]? =some o)(d:ki P ops I o v a)
    {K:Act->World->Prop} {w:World} (C:I w) (h:K (a.put o.dst v) w):wpOpIn F n P ops Q i K a w:=by unfold Go.wpOpIn;simp only[E];obtain⟨D,d⟩:=d;rcases d with⟨hw,hv⟩|⟨hw,rfl⟩;simp only[hw,if_true,Xy,rH _ D,hv w C,V0];exact⟨λf _=>u f,h⟩;simp_all
theorem ki.of_same{o:Oper}{v:Value}{a a':Act}(d:ki P ops I o v a)(he:execOp a'.eval o=execOp a.eval o)
    (hw:UV o (yielded ops a'.tmps)=UV o (yielded ops a.tmps)):ki P ops I o v a':=by grind[ki]
theorem ki.free{o:Oper}{v:Value}{a:Act}(d:ki P ops I o v a){w0:World}(u:I w0)(C:oB o.op=true):ki P ops (λ_=>True) o v a:=
  ⟨d.1,d.2.imp (λh=>⟨h.1,λw _=>Na C (h.2 w0 u) w⟩) (λh=>h)⟩
theorem Tu(an:∀f,F.fn f){j:Nat}{C D:Oper}{v:Value}(ar:ops[j]? =some D)(ao:C.apart ops D=true)(Z:iB D.op=true)
    (au:∀cs b,C.op≠.select cs b) (ax:∀cs b,D.op≠.select cs b)
    (N:∀c a w,Q (.panic c) (a.put C.dst v) w->Q (.panic c) a w) {K:Act->World->Prop} {a:Act} {w:World}
    (E:ki P ops I C v a) (h:wpOpIn F n P ops Q j K (a.put C.dst v) w):
    wpOpIn F n P ops Q j (λa' O=>ki P ops I C v a'/\K (a'.put C.dst v) O) a w:=by
 obtain⟨V,H,W⟩:=Oper.apart_spec ao
 have nh:∀(a:Act),ki P ops I C v a->∀u,ki P ops I C v (a.put D.dst u):=λa E u=>
   E.of_same (execOp_put C au a D.dst u W) (wanted_put C a D.dst u W)
 have aA:∀d,ki P ops I C v {a with defers:=d::a.defers}:=λd=>E.of_same rfl rfl;unfold wpOpIn at*;simp only[ar]at*;rw[wanted_put D a C.dst v V]at h;split
 ·rename_i hw
  simp only[hw,if_true]at h
  unfold Xy at*
  refine⟨λf _=>an f,?_⟩
  have h:=h.2
  rw[rH _ Z,execOp_put D ax a C.dst v V]at h
  rw[rH _ Z]
  generalize(execOp a.eval D).run P w=r at*
  cases r with
  | ok x O=>
    cases x<;>simp only[V0]at h⊢
    case value u=>exact⟨nh a E u,by rw[<-Wg a v u H];exact h⟩
    case skip=>exact⟨nh a E _,by rw[<-Wg a v undef H];exact h⟩
    case defer d=>
      refine⟨nh _ (aA d) _,?_⟩
      rw[<-Wg _ v undef H,<-Act.put_defers]
      exact h
    case enter f args=>
      refine⟨h.1,W4 h.2 λe ag he=>?_⟩
      cases e with
      | returned u=>exact⟨nh a E u,by rw[<-Wg a v u H];exact he⟩
      | panicked c=>exact N _ _ _ he
      | outgrown=>exact he
    case row row args=>exact⟨h.1,RowsIn.mono h.2 λu ag he=>⟨nh a E u,by rw[<-Wg a v u H];exact he⟩⟩
    case round l f tmps assign body=>
      refine⟨h.1,W2 h.2 λe ag he=>?_⟩
      cases e with
      | returned u=>exact⟨nh a E u,by rw[<-Wg a v u H];exact he⟩
      | panicked c=>exact N _ _ _ he
      | outgrown=>exact he
  | halt x O=>
    cases x<;>simp only[V0]at h⊢
    case panic u=>exact N _ _ _ h
 grind[Wg]
theorem BJ(ao:∀f,F.fn f){i:Nat}{E:Oper}{v:Value}{I':World->Prop}(au:ops[i]? =some E)(aH:∀(j:Nat) (o:Oper) cs b,ops[j]? =some o->o.op≠.select cs b)
    (a9:∀(j:Nat) (o:Oper),ops[j]? =some o->iB o.op=true) (a0:∀c a w,Q (.panic c) (a.put E.dst v) w->Q (.panic c) a w)
    (O:(∀w,I' w)\/(I'=I/\∀j∈T,qf ops 9 j i=true)):
    ∀ (fuel:Nat) (listed:Array Bool) (a:Act) (w:World),o0 ops listed->
      (∀j C,ops[j]? =some C->j≠i->listed.getD j true=false->(∀e∈C.after,V9 .any e=true->e.on≠i)->E.apart ops C=true)->
      i∈Vc .any ops listed->ki P ops I' E v a->I' w->
      n9 F n P ops Q I T fuel (listed.setIfInBounds i true) (a.put E.dst v) w->n9 F n P ops Q I T (fuel+1) listed a w:=by
 intro fuel
 induction fuel with
 | zero=>
   intro listed a w ar _ u ag W H
   refine⟨λh=>(by rw[h]at u;cases u),λj N=>?_⟩
   by_cases d:j=i
   · subst d;exact ag.op ao au W ⟨λ_ h=>h,H⟩
   · have:=ready_mono N d
     rw[H.1]at this
     cases this
 | succ fuel bd=>
   intro listed a w ar oB u ag W H
   refine⟨λh=>(by rw[h]at u;cases u),λj N=>?_⟩
   by_cases d:j=i
   · subst d;exact ag.op ao au W ⟨λ_ h=>h,H⟩
   · have D:=H.2 j (ready_mono N d)
     obtain⟨aC,C,Z,a2⟩:=mem_ready.1 N
     have bb:∀e∈C.after,V9 .any e=true->e.on≠i:=λe he a3 heq=>by
       have D:=a2 e he a3
       have ax:=(mem_ready.1 u).1
       rw[heq]at D
       rcases Nat.lt_or_ge i listed.size with an|an
       · simp[an]at ax D;rw[ax]at D;cases D
       · simp[X1 an]at D
     have aX:=Tu ao Z (oB j C Z d aC bb) (a9 j C Z) (λcs b=>aH i E cs b au) (λcs b=>aH j C cs b Z) a0 ag D
     have a4:∀k ok,ops[k]? =some ok->k≠i->(listed.setIfInBounds j true).getD k true=false->
         (∀e∈ok.after,V9 .any e=true->e.on≠i)->E.apart ops ok=true:=λk ok a7 a8 gf eJ=>by
       refine oB k ok a7 a8 ?_ eJ
       by_cases aA:j=k
       · subst aA;exact aC
       · rw[getD_set_ne true aA]at gf;exact gf
     refine wpOpIn_mono (λaQ aK V=>⟨V.2.1,bd (listed.setIfInBounds j true) aQ aK (ar.set N) a4 (ready_mono u (Ne.symm d)) V.1 ?_ ?_⟩) aX
     · rcases O with O|⟨rfl,O⟩
       · exact O aK
       · exact V.2.1 (λa5=>QL ar (mem_ready.1 u).1 N (O j a5)) W
     · rw[Array.setIfInBounds_comm _ _ d]
       exact V.2.2
def oq(ops:Array Oper)(T:List Nat):List (Nat×Bool)->Array Bool->Bool
  | [],listed=>(Vc .any ops listed).isEmpty
  | (i,false)::c,listed=>(Vc .any ops listed).contains i&&Region.free .any ops listed i&&(T.all (λj=>qf ops 9 j i)||kt ops i)&&oq ops T c (listed.setIfInBounds i true)
  | (i,true)::c,listed=>(Vc .any ops listed==[i])&&oq ops T c (listed.setIfInBounds i true)
def yF(ops:Array Oper)(T:List Nat)(c:List (Nat×Bool)):Bool:=
  WL ops&&ops.all (λo=>iB o.op)&&(c.length==ops.size)&&oq ops T c (Array.replicate ops.size false)
end
section
variable {r : Option Nat} {P : Program} {N : Nat} {ops : Array Oper} {Q : ff} {ag : Env} {aQ : List Deferred} {A I : ax} {T : List Nat} {c : List (Nat × Bool)}
def l0(Q:Exit->Act->World->Prop):Exit->Act->World->Prop
  | .panic _,_,_=>False
  | e,a,w=>Q e a w
theorem vf{w0 w:World}(s:fr w0 w){e:Exit}{a:Act}{d:World}(h:l0 (d8 N w Q) e a d):l0 (d8 N w0 Q) e a d:=by cases e<;>first|exact h|exact u2 (w:=w) s (λ_ _ _ _ h=>h) h
theorem Cg{X:Exit->Act->World->Prop}{e:Exit}{a:Act}{d:World}(h:l0 X e a d):X e a d:=by cases e<;>first|exact h.elim|exact h
def b3 (r:Option Nat) (P:Program) (N:Nat) (ops:Array Oper) (I:ax) (T:List Nat) (c:List (Nat×Bool)) (Q:ff) (ag:Env) (aQ:List Deferred) (A:ax):Prop:=
  ∀ a w listed,cn N a ag aQ->sat w A->(∃w0,sat w0 I)->(sat w I\/∀x∈c,x.2=true\/kt ops x.1=true)->o0 ops listed->WL ops=true->(∀(j:Nat) (o:Oper),ops[j]? =some o->iB o.op=true)->oq ops T c listed=true->
    n9 (mA r) 0 P ops (l0 (d8 N w Q)) (λw=>sat w I) T c.length listed a w
theorem rV{F:Fence}{n:Nat}{Q D:Exit->Act->World->Prop}{S:World->Prop}(u:∀e a w,Q e a w->D e a w):∀(fuel:Nat) (listed:Array Bool) (a:Act) (w:World),n9 F n P ops Q S T fuel listed a w->n9 F n P ops D S T fuel listed a w
  | 0,_,_,_,h=>⟨h.1,u _ _ _ h.2⟩
  | fuel + 1,listed,a,w,h=>⟨λO=>u _ _ _ (h.1 O),λi V=>by
   have d:=h.2 i V;unfold wpOpIn at*
   cases H:ops[i]? with
   | none=>rw[H]at d;exact⟨d.1,rV u fuel _ _ _ d.2⟩
   | some o=>
     rw[H]at d
     simp only[]at d⊢
     split
     · rename_i hw
       rw[aw hw]at d
       refine WT (K:=λN C=>(i∉T->S w->S C)/\n9 F n P ops Q S T fuel (listed.setIfInBounds i true) N C) (λa w h=>⟨h.1,rV u fuel _ a w h.2⟩) ?_
       unfold Xy at*
       refine⟨d.1,?_⟩
       have h:=d.2
       have E:LetsOut Q->LetsOut D:=λ⟨a,w,x⟩=>⟨a,w,u _ _ _ x⟩
       generalize(o.semAt F.round a.eval).run P w=r at*
       cases r with
       | ok x C=>
         cases x<;>simp only[V0]at h⊢<;>
           first
             | exact h
             | exact⟨h.1,W4 h.2 (λe W he=>by cases e<;>first|exact he|exact u _ _ _ he|exact E he)⟩
             | exact⟨h.1,W2 h.2 (λe W he=>by cases e<;>first|exact he|exact u _ _ _ he|exact E he)⟩
       | halt x C=>cases x<;>simp only[V0]at h⊢;exact u _ _ _ h
     · rename_i hw
       rw[al hw]at d
       exact⟨d.1,d.2.1,rV u fuel _ _ _ d.2.2⟩⟩
theorem b3.bf{B:ax}(e:aF A B)(h:b3 r P N ops I T c Q ag aQ B):b3 r P N ops I T c Q ag aQ A:=λa w l x y=>h a w l x (y.bf e)
theorem b3.nil(h:Q .normal ag aQ A):b3 r P N ops I T [] Q ag aQ A:=by intro a w listed d u _ _ _ _ _ aN;exact⟨by simpa[oq]using aN,W9 w,ag,aQ,A,d,u,h⟩
variable{i:Nat}{o:Oper}
theorem b3.xj{v:Value}(u:ops[i]? =some o)(ax:jj N o.dst=true)
    (an:∀a,cn N a ag aQ->ki P ops (λw=>sat w I) o v a) (h:b3 r P N ops I T c Q (jw ag o.dst v) aQ A):b3 r P N ops I T ((i,false)::c) Q ag aQ A:=by
 intro a w listed H aC V ar C O E aN;simp only[oq,UW,Bool.or_eq_true]at aN;obtain⟨⟨⟨aX,Z⟩,d⟩,aN⟩:=aN;have D:i∈Vc .any ops listed:=b2
 have au:sat w I\/∀x∈c,x.2=true\/kt ops x.1=true:=cr
 have:=h (a.put o.dst v) w (listed.setIfInBounds i true) (H.put ax v) aC V au (C.set D) O E aN;have aK:kt ops i=true->oB o.op=true:=by grind[kt]
 have key:oB o.op=true->n9 (mA r) 0 P ops (l0 (d8 N w Q)) (λw=>sat w I) T (c.length+1) listed a w:=λao=>
   let⟨a0,aH⟩:=V
   BJ (I':=λ_=>True) (td r) u (Region.noSelect_spec O) E (λc a w h=>h.elim) (.inl λ_=>trivial) c.length listed a w C (Region.free_spec u Z) D ((an a H).free aH ao) trivial this
 rcases d with d|d;rcases ar with W|W;exact BJ (td r) u (Region.noSelect_spec O) E (λc a w h=>h.elim) (.inr ⟨rfl,λj aA=>Ws.1 d j aA⟩) c.length listed a w C (Region.free_spec u Z) D (an a H) W this;simp_all;simp_all
theorem b3.q{v:Value}(D:ops[i]? =some o)(u:o.guard=none)(d:jj N o.dst=true)(C:iB o.op=true)
    (O:bz P ag o I v) (h:b3 r P N ops I T c Q (jw ag o.dst v) aQ A):b3 r P N ops I T ((i,false)::c) Q ag aQ A:=
  b3.xj D d (λa E=>⟨C,.inl ⟨by simp[UV,u],λw H=>by rw[E.eval];exact O w H⟩⟩) h
variable{b:Bool}{j:Nat}
theorem b3.Qz{v:Value}(E:ops[i]? =some o)(C:o.guard=some (j,b))(V:ib ops ag j=some b)(u:jj N o.dst=true)(D:iB o.op=true)
    (O:bz P ag o I v) (h:b3 r P N ops I T c Q (jw ag o.dst v) aQ A):b3 r P N ops I T ((i,false)::c) Q ag aQ A:=
  b3.xj E u (λa d=>⟨D,.inl ⟨by simp[UV,C,d.yielded V],λw H=>by rw[d.eval];exact O w H⟩⟩) h
theorem b3.skip(C:ops[i]? =some o)(u:o.guard=some (j,!b))(E:ib ops ag j=some b)(d:jj N o.dst=true)(w:iB o.op=true)
    (h:b3 r P N ops I T c Q (jw ag o.dst undef) aQ A):b3 r P N ops I T ((i,false)::c) Q ag aQ A:=
  b3.xj C d (λa D=>⟨w,.inr ⟨by simp[UV,u,D.yielded E],rfl⟩⟩) h
theorem b3.split(t:Nat)(d:ag t=.bool b)(u:b=true->b3 r P N ops I T c Q (hd ag t (.bool true)) aQ A)(w:b=false->b3 r P N ops I T c Q (hd ag t (.bool false)) aQ A):b3 r P N ops I T c Q ag aQ A:=by cases b with|true=>have:=u rfl;rwa[rS d]at this|false=>have:=w rfl;rwa[rS d]at this
theorem b3.known(t:Nat){b':Bool}(u:ag t=.bool b)(d:b=b')(h:b3 r P N ops I T c Q (hd ag t (.bool b')) aQ A):b3 r P N ops I T c Q ag aQ A:=by subst d;rwa[rS u]at h
theorem b3.Ds(aH:ops[i]? =some o)(Z:jj N o.dst=true)(hw:∀a,cn N a ag aQ->UV o (yielded ops a.tmps)=true)
    (h:cj r P ag o A (λv bk=>(T.contains i=true\/aF bk I)/\((∀x∈c,x.2=true\/kt ops x.1=true)\/aF bk I)/\b3 r P N ops I T c Q (jw ag o.dst v) aQ bk)):b3 r P N ops I T ((i,true)::c) Q ag aQ A:=by
 intro a w listed d aK O a3 W aX aC aN;simp only[oq,UW,beq_iff_eq]at aN;obtain⟨u,aN⟩:=aN;refine⟨λa0=>(by rw[a0]at u;cases u),λj D=>?_⟩;rw[u]at D;obtain rfl:j=i:=by simpa using D
 have ao:j∈Vc .any ops listed:=b2
 unfold wpOpIn;rw[aH];simp only[];rw[aw (hw a d)];refine Oper.xR ?_ (h a w d.eval aK);rintro a2 E ⟨v,bk,rfl,s,C,au,ax,ar⟩;have an:=ar _ E (listed.setIfInBounds j true) (d.put Z v) C O (ax.elim .inr λh=>.inl (C.bf h)) (W.set ao) aX aC aN;have aA:∀e a H,l0 (d8 N E Q) e a H->l0 (d8 N w Q) e a H:=by grind[vf]
 exact⟨λV _=>au.elim (λh=>absurd (by simpa using h) V) λh=>C.bf h,rV aA c.length _ _ _ an⟩
theorem b3.tI(w:ops[i]? =some o)(u:o.guard=none)(d:jj N o.dst=true)
    (h:cj r P ag o A (λv bk=>(T.contains i=true\/aF bk I)/\((∀x∈c,x.2=true\/kt ops x.1=true)\/aF bk I)/\b3 r P N ops I T c Q (jw ag o.dst v) aQ bk)):b3 r P N ops I T ((i,true)::c) Q ag aQ A:=
  b3.Ds w d (λ_ _=>by simp[UV,u]) h
theorem b3.LG(w:ops[i]? =some o)(u:o.guard=some (j,b))(D:ib ops ag j=some b)(d:jj N o.dst=true)
    (h:cj r P ag o A (λv bk=>(T.contains i=true\/aF bk I)/\((∀x∈c,x.2=true\/kt ops x.1=true)\/aF bk I)/\b3 r P N ops I T c Q (jw ag o.dst v) aQ bk)):b3 r P N ops I T ((i,true)::c) Q ag aQ A:=
  b3.Ds w d (λa C=>by simp[UV,u,C.yielded D]) h
theorem b3.Bh(C:ops[i]? =some o)(u:o.guard=some (j,b))(E:qR ops ag j=true)(d:jj N o.dst=true)(w:iB o.op=true)
    (h:b3 r P N ops I T c Q (jw ag o.dst undef) aQ A):b3 r P N ops I T ((i,false)::c) Q ag aQ A:=
  b3.xj C d (λa D=>⟨w,.inr ⟨by simp[UV,u,D.BQ E],rfl⟩⟩) h
theorem b3.RN(ar:ops[i]? =some o)(Z:o.guard=some (j,b))(ax:qR ops ag j=true)(W:jj N o.dst=true)(D:aF A I)
    (h:b3 r P N ops I T c Q (jw ag o.dst undef) aQ A):b3 r P N ops I T ((i,true)::c) Q ag aQ A:=by
 intro a w listed H u O aC V au ao aN;simp only[oq,UW,beq_iff_eq]at aN;obtain⟨d,aN⟩:=aN;refine⟨λaA=>(by rw[aA]at d;cases d),λC E=>?_⟩;rw[d]at E;obtain rfl:C=i:=by simpa using E
 have an:C∈Vc .any ops listed:=b2
 unfold wpOpIn;rw[ar];simp only[];rw[al (by simp[UV,Z,H.BQ ax])];exact⟨λf _=>td r f,λ_ _=>u.bf D,h _ w (listed.setIfInBounds C true) (H.put W undef) u O (.inl (u.bf D)) (V.set an) au ao aN⟩
theorem b3.RL(au:ops[i]? =some o)(an:o.guard=some (j,!b))(aC:ib ops ag j=some b)(Z:jj N o.dst=true)(D:(T.contains i=true/\∀x∈c,x.2=true)\/aF A I)
    (h:b3 r P N ops I T c Q (jw ag o.dst undef) aQ A):b3 r P N ops I T ((i,true)::c) Q ag aQ A:=by
 intro a w listed H u O aK W ax ar aN;simp only[oq,UW,beq_iff_eq]at aN;obtain⟨d,aN⟩:=aN;refine⟨λaH=>(by rw[aH]at d;cases d),λC E=>?_⟩;rw[d]at E;obtain rfl:C=i:=by simpa using E
 have ao:C∈Vc .any ops listed:=b2
 unfold wpOpIn;rw[au];simp only[];rw[al (by simp[UV,an,H.yielded aC])]
 exact⟨λf _=>td r f,λV _=>D.elim (λh=>absurd (by simpa using h.1) V) λh=>u.bf h,
   h _ w (listed.setIfInBounds C true) (H.put Z undef) u O (D.elim (λh=>.inr λx aA=>.inl (h.2 x aA)) λh=>.inl (u.bf h)) (W.set ao) ax ar aN⟩
section
variable {op : Op} {ty : TypeId} {ps : String} {bh : Array Edge} {t i : Nat} {v : Value} {j : Nat} {b : Bool}
theorem bU(w:ops[i]? =some ⟨some t,op,ty,ps,bh,none⟩)(u:iB op=true)(d:V6 t N=true)(C:bz P ag ⟨some t,op,ty,ps,bh,none⟩ I v)(h:b3 r P N ops I T c Q (hd ag t v) aQ A):b3 r P N ops I T ((i,false)::c) Q ag aQ A:=
  b3.q w rfl d u C h
theorem eH(w:ops[i]? =some ⟨some t,op,ty,ps,bh,some (j,b)⟩)(D:ib ops ag j=some b)(u:iB op=true)(d:V6 t N=true)(C:bz P ag ⟨some t,op,ty,ps,bh,some (j,b)⟩ I v)(h:b3 r P N ops I T c Q (hd ag t v) aQ A):b3 r P N ops I T ((i,false)::c) Q ag aQ A:=
  b3.Qz w rfl D d u C h
theorem Lo(w:ops[i]? =some ⟨some t,op,ty,ps,bh,some (j,b)⟩)(C:ib ops ag j=some (!b))(u:iB op=true)(d:V6 t N=true)(h:b3 r P N ops I T c Q (hd ag t undef) aQ A):b3 r P N ops I T ((i,false)::c) Q ag aQ A:=
  b3.skip (b:=!b) w cF C d u h
theorem dA(C:ops[i]? =some ⟨some t,op,ty,ps,bh,none⟩)(w:V6 t N=true)
    (h:cj r P ag ⟨some t,op,ty,ps,bh,none⟩ A (λv bk=>aF bk I/\b3 r P N ops I T c Q (hd ag t v) aQ bk)):b3 r P N ops I T ((i,true)::c) Q ag aQ A:=
  b3.tI C rfl w (h.mono λ_ _ ⟨d,u⟩=>⟨.inr d,.inr d,u⟩)
theorem Dj(w:ops[i]? =some ⟨none,op,ty,ps,bh,none⟩)
    (h:cj r P ag ⟨none,op,ty,ps,bh,none⟩ A (λ_ bk=>aF bk I/\b3 r P N ops I T c Q ag aQ bk)):b3 r P N ops I T ((i,true)::c) Q ag aQ A:=
  b3.tI w rfl rfl (h.mono λ_ _ ⟨d,u⟩=>⟨.inr d,.inr d,u⟩)
theorem dl(u:T.contains i=true)(D:c.all (λx=>x.2||kt ops x.1)=true)(C:ops[i]? =some ⟨some t,op,ty,ps,bh,none⟩)(w:V6 t N=true)
    (h:cj r P ag ⟨some t,op,ty,ps,bh,none⟩ A (λv bk=>b3 r P N ops I T c Q (hd ag t v) aQ bk)):b3 r P N ops I T ((i,true)::c) Q ag aQ A:=
  b3.tI C rfl w (h.mono λ_ _ d=>⟨.inl u,.inl (λx E=>by simpa using Ws.1 D x E),d⟩)
theorem Lr(u:T.contains i=true)(C:c.all (λx=>x.2||kt ops x.1)=true)(w:ops[i]? =some ⟨none,op,ty,ps,bh,none⟩)
    (h:cj r P ag ⟨none,op,ty,ps,bh,none⟩ A (λ_ bk=>b3 r P N ops I T c Q ag aQ bk)):b3 r P N ops I T ((i,true)::c) Q ag aQ A:=
  b3.tI w rfl rfl (h.mono λ_ _ d=>⟨.inl u,.inl (λx D=>by simpa using Ws.1 C x D),d⟩)
theorem Lk(C:ops[i]? =some ⟨some t,op,ty,ps,bh,some (j,b)⟩)(D:ib ops ag j=some b)(w:V6 t N=true)
    (h:cj r P ag ⟨some t,op,ty,ps,bh,some (j,b)⟩ A (λv bk=>aF bk I/\b3 r P N ops I T c Q (hd ag t v) aQ bk)):b3 r P N ops I T ((i,true)::c) Q ag aQ A:=
  b3.LG C rfl D w (h.mono λ_ _ ⟨d,u⟩=>⟨.inr d,.inr d,u⟩)
theorem Lq(w:ops[i]? =some ⟨some t,op,ty,ps,bh,some (j,b)⟩)(C:qR ops ag j=true)(u:iB op=true)(d:V6 t N=true)(h:b3 r P N ops I T c Q (hd ag t undef) aQ A):b3 r P N ops I T ((i,false)::c) Q ag aQ A:=
  b3.Bh w rfl C d u h
theorem Dl(w:ops[i]? =some ⟨some t,op,ty,ps,bh,some (j,b)⟩)(C:qR ops ag j=true)(d:V6 t N=true)(u:aF A I)(h:b3 r P N ops I T c Q (hd ag t undef) aQ A):b3 r P N ops I T ((i,true)::c) Q ag aQ A:=
  b3.RN w rfl C d u h
theorem Lp(w:ops[i]? =some ⟨some t,op,ty,ps,bh,some (j,b)⟩)(C:ib ops ag j=some (!b))(d:V6 t N=true)(u:aF A I)(h:b3 r P N ops I T c Q (hd ag t undef) aQ A):b3 r P N ops I T ((i,true)::c) Q ag aQ A:=
  b3.RL (b:=!b) w cF C d (.inr u) h
end
theorem ab.draw{id:Nat}{l:List Oper}(I:ax)(T:List Nat)(c:List (Nat×Bool))(hm:P.follows .mixedOrders=true)(aN:yF l.toArray T c=true)(C:aF A I)
    (h:b3 r P N l.toArray I T c Q ag aQ A):ab r P N (.region id l.toArray true) Q ag aQ A:=by
 intro a w ar d;simp only[yF,UW,beq_iff_eq]at aN;obtain⟨⟨⟨O,V⟩,W⟩,Z⟩:=aN;have D:=h a {w with drawn:=w.drawn+1} (Array.replicate l.toArray.size false) ar d ⟨{w with drawn:=w.drawn+1},sat.bf (w:={w with drawn:=w.drawn+1}) d C⟩ (.inl (sat.bf (w:={w with drawn:=w.drawn+1}) d C)) (by intro j o H E;(have an:j<l.toArray.size:=by grind);rw[Vr,Array.getElem?_replicate,aw an]at E;cases E) O (λj o H=>Array.all_eq_true_iff_forall_mem.1 V o (Array.mem_of_getElem? H)) Z
 have ao:∀e a u,l0 (d8 N {w with drawn:=w.drawn+1} Q) e a u->d8 N w Q e a u:=λe a u h=>
   Cg (vf (w0:=w) (w:={w with drawn:=w.drawn+1}) ⟨rfl,rfl,rfl,Nat.le_refl _⟩ h)
 rw[W]at D;exact wpIn_region_any hm (BK _ _ _ _ (rV ao _ _ _ _ D))
end
end Go.QM
