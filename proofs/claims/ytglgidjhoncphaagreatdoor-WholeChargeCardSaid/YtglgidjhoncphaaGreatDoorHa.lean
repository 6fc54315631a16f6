/- Proved here: contracts, each under its own premises. -/
import Derived.RangeFuncLeaves
import Derived.OrdersIn
import Derived.Laws.World
import Derived.Laws.Sem
import Derived.KernelRfl
import Derived.Laws.Cells
import Derived.Laws.CopyRow
import Derived.Laws.Tables
import Derived.Laws.Append
import Derived.Laws.AppendOwn
import Derived.RangeFuncRecord
import Derived.Laws.StructEq
import Derived.MapKept
import Derived.OpenShut
import Derived.ProofKit
import Derived.Test.YtglgidjhoncphaaGreatDoorProg
set_option linter.all false
set_option maxRecDepth 4000
set_option maxHeartbeats 4000000
open Nat renaming eq_of_beq_eq_true->VC,beq->WA,blt->W7,le_refl->Vi,mul_le_mul_right->VR,add_mul->V8,add_sub_cancel_left->WF,min_eq_left->W9
open Array renaming getD_eq_getD_getElem?->Wl,getElem?_eq_none->YU,getElem?_append->XJ
open Option.some renaming injEq->WQ
open Prod.mk renaming injEq->Xt
open Go.Fence renaming wide->YC
open Go.Result renaming andThen_ok->Vo,andThen->Xp
open Go.Sem renaming run_bind->VB,run_pure->VT
open Go.Region renaming wanted->VN,ready->V5,binds->WW,noSelect->XA
open Go.Value renaming oneCell'->VO,func->Yc
open Bool renaming and_eq_true->VQ,eq_iff_iff->XP,false_eq_true->XX
open Go.Instr renaming sureAddr->WJ,indexAt->XF,sliceBound->Wg,sliceBounds->X0,sliceAt->YM,findNow->XG,checkKey->XR,lookup->X7
open Go.Oper renaming uponIn->WO,wpIn_mono->XK,wpIn->Yq
open Go.Act renaming put_comm->W2
open List renaming all_eq_true->Xf,length_append->mp,nil_append->Vx,replicate->VA,map_cons->VF,append_assoc->VJ,take_of_length_le->VS,take_append_drop->V4,append_nil->V9,getElem?_append_left->Wh,drop_eq_nil_of_le->Wv,take_append_of_le_length->WG,getElem?_cons_succ->WI,length_drop->W3,map_nil->W5,eq_nil_of_length_eq_zero->Xd,getElem?_append_right->Xs,map_toArray->Xw,getElem?_cons_zero->XC,drop_append->XE,drop_append_of_le_length->Yf,getD_eq_getElem?_getD->Vu,flatMap_cons->VD,cons_append->VM,takeWhile_cons_of_pos->YA,dropWhile_cons_of_pos->YB,drop_eq_getElem_cons->Xm,mem_singleton->Vd,getElem?_eq_some_iff->Vm,mem_cons->Vq,mem_map->Vs,length_cons->Vy,nodup_append->VI,range->Wo,length->WY,getElem?_map->Xx,append_of_mem->Xz,ext_getElem?->Yv,getElem?_eq_getElem->Vc,getElem?_eq_none->Xj
open Go renaming yielded->XL,sizeOf->X8
open Go.RoundIn renaming mono->XT
open Go.CallsIn renaming mono->XW
open Option renaming bind_some->X4,map_some->WL
open Go.Op renaming intCmp->X5,intArith->YH,equalIn->YP
open Go.IntKind renaming signed->Yn,wrap->YJ,bits->YK
open Go.Builtin renaming firstCells->VG,zeroCells->VH,lenOf->XO,append_->Ya
open Go.Addr.mk renaming injEq->Xo
open Go.World renaming size_alloc->Yp
open BitVec renaming ofInt->VX,toNat_ofInt->Xi
open Int renaming eq_ofNat_of_zero_le->Wk
open List.cons renaming inj->Xh
open Go.MapKept renaming run_getObj_map->V2,run_setObj_map->WS
open Go.DataW renaming TrodAll->XS
open Go.Proofs.Tryz renaming prog->Yg
namespace Go
theorem AS{G:Prop}(h:G:=by dsimp only;rw[List.length_append,List.length_singleton];omega):G:=h
theorem xf{G:Prop}(h:G:=by dsimp only;rw[List.length_append,List.length_singleton];rfl):G:=h
theorem sW{G:Prop}(h:G:=by simp only[List.length_append,List.length_singleton];omega):G:=h
theorem FX{G:Prop}(h:G:=by dsimp only;rw[Ga,List.length_append];first|done|fail):G:=h
theorem jv{G:Prop}(h:G:=by simp only[List.length_cons,List.length_nil];omega):G:=h
theorem AW{G:Prop}(h:G:=by rw[List.length_append,List.length_append];omega):G:=h
theorem FY{G:Prop}(h:G:=by rw[kC km,List.length_set];omega):G:=h
theorem xg{G:Prop}(h:G:=by show T.S.length+_<=_;first|omega|(simp<;>omega)):G:=h
theorem sX{G:Prop}(h:G:=by dsimp only;rw[List.length_append];rfl):G:=h
theorem uD{G:Prop}(h:G:=by dsimp only;rw[List.length_append]):G:=h
theorem sU{G:Prop}(h:G:=by rw[List.take_zero,<-rA];rfl):G:=h
theorem AT{G:Prop}(h:G:=by rw[kC km];omega):G:=h
theorem mz{G:Prop}(h:G:=by rw[IntKind.wrap_u64];omega):G:=h
theorem xd{G:Prop}(h:G:=by rw[List.length_take];omega):G:=h
theorem AU{G:Prop}(h:G:=by rw[List.length_cons];omega):G:=h
theorem AV{G:Prop}(h:G:=by rw[List.length_set];omega):G:=h
theorem sV{G:Prop}(h:G:=by show T.A.length<=_;omega):G:=h
theorem gr{G:Prop}(h:G:=by simp only[maxLen];omega):G:=h
theorem xe{G:Prop}(h:G:=by dsimp only;rw[Sd]):G:=h
theorem cK{G:Prop}(h:G:=by dsimp only;omega):G:=h
theorem rQ{G:Prop}(h:G:=by simp;omega):G:=h
theorem aV{G:Prop}(h:G:=by kernel_rfl):G:=h
theorem rR{G:Prop}(h:G:=by rw[e];rfl):G:=h
theorem b2{G:Prop}(h:G:=by simp_all):G:=h
theorem am{G:Prop}(h:G:=by decide):G:=h
theorem U{G:Prop}(h:G:=by omega):G:=h
theorem cm{G:Prop}(h:G:=by grind):G:=h
theorem jN{G:Prop}(h:G:=by rw[e]):G:=h
theorem cE{G:Prop}(h:G:=by simp):G:=h
theorem kk{G:Prop}(h:G:=by rfl):G:=h
end Go
namespace Go
theorem al{c:Prop}[h:Decidable c](d:¬c){α:Sort _}{t e:α}:ite c t e=e:=if_neg d
theorem ax{c:Prop}[h:Decidable c](d:c){α:Sort _}{t e:α}:ite c t e=t:=if_pos d
theorem dz{p:Prop}[inst:Decidable p](h:decide p=true):p:=of_decide_eq_true h
theorem d7{p:Prop}[inst:Decidable p](h:decide p=false):¬p:=of_decide_eq_false h
theorem c7{p:Prop}[inst:Decidable p](h:p):decide p=true:=decide_eq_true h
theorem dn{p:Prop}[inst:Decidable p](h:¬p):decide p=false:=decide_eq_false h
end Go
namespace Go.QM
open Go
abbrev kv:=Nat->Option Obj
def nq(a b:kv):Prop:=∀i,a i=none\/b i=none
def gj(a b:kv):kv:=λi=>match a i with|some o=>some o|none=>b i
def ll(a b:kv):Prop:=∀i o,a i=some o->b i=some o
abbrev ay:=kv->Prop
def sep(A B:ay):ay:=λh=>∃a b,nq a b/\h=gj a b/\A a/\B b
def kz:ay:=λh=>h=λ_=>none
def obj(b:Nat)(o:Obj):ay:=λh=>h=λi=>if i=b then some o else none
def aj(b:Nat)(E:TypeId)(l:List Value):ay:=obj b (.cells l.toArray E (0,0))
def ah:List ay->ay
  | []=>kz
  | A::l=>sep A (ah l)
def fg{α:Type}(A:α->ay):ay:=λh=>∃x,A x h
def pure'(p:Prop)(A:ay):ay:=λh=>p/\A h
variable{a b:kv}
theorem nq.symm(h:nq a b):nq b a:=λi=>(h i).symm
theorem EV(h:nq a b):gj a b=gj b a:=by funext i;rcases h i with h|h<;>simp only[gj,h];all_goals grind
theorem EU(a b c:kv):gj (gj a b) c=gj a (gj b c):=by grind[gj]
theorem Ac(a:kv):ll a a:=λ_ _ h=>h
theorem ll.trans{c:kv}(h:ll a b)(k:ll b c):ll a c:=λi o x=>k i o (h i o x)
theorem qF(a b:kv):ll a (gj a b):=λi o h=>by simp[gj,h]
theorem uq(h:nq a b):ll b (gj a b):=by rw[EV h];exact qF b a
theorem N0{a' b':kv}(C:ll a a')(D:ll b b')(h:nq a' b'):ll (gj a b) (gj a' b'):=by intro i o d;simp only[gj]at d⊢;cases w:a i with|some x=>rw[w]at d;rw[C i x w];exact d|none=>rw[w]at d;have u:=D i o d;rcases h i with h|h;rw[h];exact u;rw[h]at u;cases u
theorem NL{a' b':kv}(h:nq a' b')(u:ll a a')(w:ll b b'):nq a b:=by
 intro i;rcases h i with h|h
 left;cases d:a i with
 | none=>rfl
 | some o=>have:=u i o d;rw[h]at this;cases this
 right;cases d:b i with
 | none=>rfl
 | some o=>have:=w i o d;rw[h]at this;cases this
theorem wK{c:kv}:nq (gj a b) c↔nq a c/\nq b c:=by
 constructor;·intro h;constructor<;>intro i<;>rcases h i with h|h;all_goals grind[gj]
 ·intro⟨h,k⟩ i;rcases h i with h|h;(·rcases k i with k|k;all_goals grind[gj]);simp_all
def aG(A B:ay):Prop:=∀h,A h->∃EI,ll EI h/\B EI
theorem aG.refl(A:ay):aG A A:=λh x=>⟨h,Ac h,x⟩
variable{A B C:ay}
theorem aG.trans(x:aG A B)(y:aG B C):aG A C:=λh a=>
  let⟨d,s1,b⟩:=x h a;let⟨u,s2,c⟩:=y d b;⟨u,s2.trans s1,c⟩
theorem hR(x:∀h,A h->B h):aG A B:=λh a=>⟨h,Ac h,x h a⟩
theorem Mn(A:ay):aG A kz:=λ_ _=>⟨λ_=>none,(λ_ _ h=>by cases h),rfl⟩
theorem dT{bl u:ay}(x:aG A bl)(y:aG B u):aG (sep A B) (sep bl u):=by rintro h ⟨a,b,d,rfl,E,N⟩;obtain⟨w,D,H⟩:=x a E;obtain⟨C,aB,O⟩:=y b N;exact⟨gj w C,N0 D aB d,w,C,NL d D aB,rfl,H,O⟩
theorem nE:aG (sep A B) (sep B A):=hR (by
  rintro h ⟨a,b,d,rfl,u,w⟩
  exact⟨b,a,d.symm,EV d,w,u⟩)
theorem pZ:aG (sep (sep A B) C) (sep A (sep B C)):=hR (by
  rintro h ⟨H,c,d,rfl,⟨a,b,u,rfl,w,D⟩,E⟩
  obtain⟨d1,d2⟩:=wK.1 d
  exact⟨a,gj b c,(wK.2 ⟨u.symm,d1.symm⟩).symm,EU a b c,w,b,c,d2,rfl,D,E⟩)
theorem nD:aG (sep A (sep B C)) (sep (sep A B) C):=hR (by
  rintro h ⟨a,H,d,rfl,w,b,c,u,rfl,D,E⟩
  obtain⟨d1,d2⟩:=wK.1 d.symm
  exact⟨gj a b,c,wK.2 ⟨d2.symm,u⟩,(EU a b c).symm,⟨a,b,d1.symm,rfl,w,D⟩,E⟩)
theorem o1:aG A (sep A kz):=hR (λh a=>⟨h,λ_=>none,λ_=>.inr rfl,by funext i;simp only[gj];cases h i<;>rfl,a,rfl⟩)
theorem xR:aG (sep A B) A:=by rintro h ⟨a,b,d,rfl,u,w⟩;exact⟨a,qF a b,u⟩
theorem r3:aG (sep A B) B:=nE.trans xR
theorem jC:aG (sep A (sep B C)) (sep B (sep A C)):=
  nD.trans ((dT nE (aG.refl _)).trans pZ)
def eV:Nat->List ay->Option (ay×List ay)
  | _,[]=>none
  | 0,A::l=>some (A,l)
  | n+1,A::l=>match eV n l with|some (B,r)=>some (B,A::r)|none=>none
theorem fG:∀{n:Nat} {l r:List ay} {B:ay},eV n l=some (B,r)->aG (ah l) (sep B (ah r))
  | _,[],_,_,h=>by simp[eV]at h
  | 0,A::l,_,_,h=>by simp only[eV,WQ,Xt]at h;obtain⟨rfl,rfl⟩:=h;exact aG.refl _
  | n+1,A::l,r,B,h=>by simp only[eV]at h;cases d:eV n l with|none=>rw[d]at h;cases h|some x=>obtain⟨C,u⟩:=x;rw[d]at h;simp only[WQ,Xt]at h;obtain⟨rfl,rfl⟩:=h;exact(dT (aG.refl A) (fG d)).trans jC
def lI(hs pre rest:List ay):Prop:=aG (ah hs) (sep (ah pre) (ah rest))
theorem ev(hs:List ay):lI hs [] hs:=o1.trans nE
theorem d6(i:Nat){hs r pre rest:List ay}(h:eV i hs=some (A,r))(k:lI r pre rest):lI hs (A::pre) rest:=
  (fG h).trans ((dT (aG.refl _) k).trans nD)
theorem ol:∀(l m:List ay),aG (sep (ah l) (ah m)) (ah (l++m))
  | [],_=>r3
  | _::l,m=>pZ.trans (dT (aG.refl _) (ol l m))
theorem u6:∀(l m:List ay),aG (ah (l++m)) (sep (ah l) (ah m))
  | [],_=>o1.trans nE
  | _::l,m=>(dT (aG.refl _) (u6 l m)).trans nD
theorem aX(hs:List ay):aG (ah hs) (ah []):=Mn _
theorem bP(n:Nat){hs r gs:List ay}(h:eV n hs=some (B,r))(k:aG (ah r) (ah gs)):aG (ah hs) (ah (B::gs)):=
  (fG h).trans (dT (aG.refl _) k)
theorem Mm(hs:List ay):aG (ah hs) (ah hs):=aG.refl _
theorem D3(n:Nat){hs r gs:List ay}(h:eV n hs=some (A,r))(e:aG A B)(k:aG (ah (B::r)) (ah gs)):aG (ah hs) (ah gs):=
  (fG h).trans ((dT e (aG.refl _)).trans k)
def sat(w:World)(A:ay):Prop:=∃h:kv,(∀i o,h i=some o->w.heap[i]? =some o)/\A h
theorem sat.bg{w:World}(h:sat w A)(e:aG A B):sat w B:=
  let⟨x,u,a⟩:=h;let⟨y,s,b⟩:=e x a;⟨y,λi o d=>u i o (s i o d),b⟩
structure fw(w h1:World):Prop where
  os:h1.os=w.os
  tape:h1.tape=w.tape
  output:h1.output=w.output
  size:w.heap.size<=h1.heap.size
theorem fw.refl(w:World):fw w w:=⟨rfl,rfl,rfl,Nat.le_refl _⟩
theorem fw.trans{a b c:World}(h:fw a b)(k:fw b c):fw a c:=⟨k.os.trans h.os,k.tape.trans h.tape,k.output.trans h.output,Nat.le_trans h.size k.size⟩
theorem o0{w:World}(o:Obj)(h:sat w A):sat (w.alloc o) (sep (obj w.heap.size o) A):=by
 obtain⟨x,E,a⟩:=h;have C:∀i o,x i=some o->i<w.heap.size:=cm
 refine⟨gj (λi=>if i=w.heap.size then some o else none) x,?_,_,x,?_,rfl,rfl,a⟩;intro i d u;simp only[gj]at u;show(w.heap.push o)[i]? =some d;grind;intro i;by_cases e:i=w.heap.size;right;cases D:x i with|none=>rfl|some d=>exact absurd (C i d D) U
 simp_all
def Rd(A:ay)(b:Nat)(o:Obj):Prop:=∀h,A h->h b=some o
variable{o:Obj}
theorem Rd.sat{b:Nat}(r:Rd A b o){w:World}(h:sat w A):w.heap[b]? =some o:=
  let⟨x,d,a⟩:=h;d b o (r x a)
theorem iL(b:Nat)(o:Obj):Rd (obj b o) b o:=λh e=>by rw[e];simp
theorem na(b:Nat)(E:TypeId)(l:List Value):Rd (aj b E l) b (.cells l.toArray E (0,0)):=iL _ _
theorem iA{b:Nat}(r:Rd A b o):Rd (sep A B) b o:=by rintro h ⟨x,y,d,rfl,u,w⟩;exact qF x y b o (r x u)
theorem vM{b:Nat}(r:Rd B b o):Rd (sep A B) b o:=by rintro h ⟨x,y,d,rfl,w,u⟩;exact uq d b o (r y u)
theorem iK{l:List ay}{b:Nat}(r:Rd A b o):Rd (ah (A::l)) b o:=iA r
theorem kb{l:List ay}{b:Nat}(r:Rd (ah l) b o):Rd (ah (A::l)) b o:=vM r
theorem u4{w D:World}{b:Nat}{C:Obj}(h:sat w (sep (obj b o) A))(V:D.heap[b]? =some C)(H:∀i,i≠b->D.heap[i]? =w.heap[i]?):
    sat D (sep (obj b C) A):=by obtain⟨x,P,p,q,d,rfl,N,O⟩:=h;have W:q b=none:=(by rcases d b with h|h;rw[N]at h;simp at h;trivial);refine⟨gj (λi=>if i=b then some C else none) q,?_,_,q,?_,rfl,rfl,O⟩;intro i E u;simp only[gj]at u;by_cases e:i=b;simp_all;simp[e]at u;rw[H i e];exact P i E (uq d i E u);intro i;grind
abbrev Env:=Nat->Value
def hM(ag:Env)(d:Nat)(v:Value):Env:=λt=>bif WA t d then v else ag t
def jU(ag:Env):Option Nat->Value->Env
  | some d,v=>hM ag d v
  | none,_=>ag
def bc(ag:Env):Operand->Value
  | .tmp t=>ag t
  | .const v=>v
  | .global g=>.pointer (some ⟨g,0,none⟩)
  | .func f=>.func (.func f) #[] #[]
def cy(ag:Env):List (Nat×Value)->Env
  | []=>ag
  | (t,v)::l=>hM (cy ag l) t v
def oQ(ag:Env):List (Nat×Value)->Prop
  | []=>True
  | (t,v)::l=>ag t=v/\oQ ag l
theorem sb{d:Env}{t:Nat}{v:Value}(h:d t=v):hM d t v=d:=by grind[hM,VC]
theorem q6{d:Env}:∀{l:List (Nat×Value)},oQ d l->cy d l=d
  | [],_=>rfl
  | (t,v)::l,h=>by rw[cy,q6 h.2,sb h.1]
structure cd(N:Nat)(a:Act)(ag:Env)(aP:List Deferred):Prop where
  size:a.tmps.size=N
  get:∀t,a.tmps.getD t undef=ag t
  defers:a.defers=aP
theorem cd.eval{N:Nat}{a:Act}{d:Env}{u:List Deferred}(h:cd N a d u):a.eval=bc d:=by funext x;cases x<;>first|exact h.get _|rfl
def jL(N:Nat):Option Nat->Bool
  | some d=>Nat.blt d N
  | none=>true
theorem cd.put{N:Nat}{a:Act}{w:Env}{u:List Deferred}(h:cd N a w u){d:Option Nat}(D:jL N d=true)(v:Value):cd N (a.put d v) (jU w d v) u:=by cases d with|none=>exact h|some d=>(have H:d<N:=by simpa[jL,Nat.blt_eq]using D);refine⟨by simp[Act.put,h.size],λt=>?_,h.defers⟩;simp only[Act.put,jU,hM];by_cases e:t=d;subst e;have:WA t t=true:=Nat.beq_refl t;rw[this];simp[h.size,H];(have C:WA t d=false:=by cases E:WA t d with|false=>rfl|true=>exact absurd (VC E) e);rw[C,cond_false,<-h.get t];rw[Wl,Wl,Array.getElem?_setIfInBounds_ne (λx=>e x.symm)]
def mO(r:Option Nat):Fence:={YC with round:=r}
theorem vC(r:Option Nat)(f:FuncId):(mO r).fn f:=trivial
theorem vB(r:Option Nat):(mO r).depth.isSome=true->1<=0:=λh=>by simp[mO,YC]at h
abbrev fk:=Exit->Env->List Deferred->ay->Prop
def dQ(N:Nat)(w:World)(Q:fk):Exit->Act->World->Prop:=
  λe a' h1=>fw w h1/\∃JF DX bl,cd N a' JF DX/\sat h1 bl/\Q e JF DX bl
def ab(r:Option Nat)(P:Program)(N:Nat)(c:Code)(Q:fk)(ag:Env)(aP:List Deferred)(A:ay):Prop:=
  ∀a w,cd N a ag aP->sat w A->c.wpIn (mO r) 0 P (dQ N w Q) a w
theorem vt{N:Nat}{w0 w:World}{Q d:fk}(hs:fw w0 w)(C:∀e ag aP A,Q e ag aP A->d e ag aP A){e:Exit}{a':Act}{u:World}(h:dQ N w Q e a' u):dQ N w0 d e a' u:=
  let⟨s,ag,aP,A,x,y,z⟩:=h;⟨hs.trans s,ag,aP,A,x,y,C _ _ _ _ z⟩
def pk(K:Env->List Deferred->ay->Prop)(Q:fk):fk
  | .normal,ag,aP,A=>K ag aP A
  | e,ag,aP,A=>Q e ag aP A
def o9(id:Nat)(Q:fk):fk
  | .exit EX,ag,aP,A=>bif WA EX id then Q .normal ag aP A else Q (.exit EX) ag aP A
  | e,ag,aP,A=>Q e ag aP A
section code
variable {r : Option Nat} {P : Program} {N : Nat} {Q : fk} {ag : Env} {aP : List Deferred} {A : ay}
theorem ab.bg{c:Code}{B:ay}(e:aG A B)(h:ab r P N c Q ag aP B):ab r P N c Q ag aP A:=λa w x y=>h a w x (y.bg e)
theorem ab.mono{c:Code}{d:fk}(h:ab r P N c Q ag aP A)(u:∀e ag aP A,Q e ag aP A->d e ag aP A):ab r P N c d ag aP A:=
  λa w x y=>wpIn_mono (h a w x y) λ_ _ _=>vt (fw.refl w) u
theorem ab.gc{c:Code}(l:List (Nat×Value))(d:oQ ag l)(h:∀u,ab r P N c Q (cy u l) aP A):ab r P N c Q ag aP A:=by have:=h ag;rwa[q6 d]at this
theorem ab.skip(h:Q .normal ag aP A):ab r P N .skip Q ag aP A:=λ_ w x y=>wpIn_skip ⟨fw.refl w,ag,aP,A,x,y,h⟩
theorem ab.label{l:Nat}(h:Q .normal ag aP A):ab r P N (.label l) Q ag aP A:=λ_ w x y=>wpIn_label ⟨fw.refl w,ag,aP,A,x,y,h⟩
theorem ab.exit{id:Nat}(h:Q (.exit id) ag aP A):ab r P N (.exit id) Q ag aP A:=λ_ w x y=>wpIn_exit ⟨fw.refl w,ag,aP,A,x,y,h⟩
theorem ab.goto{l:Nat}(h:Q (.goto l) ag aP A):ab r P N (.goto l) Q ag aP A:=λ_ w x y=>wpIn_goto ⟨fw.refl w,ag,aP,A,x,y,h⟩
theorem ab.ret(h:Q .ret ag aP A):ab r P N .ret Q ag aP A:=λ_ w x y=>wpIn_ret ⟨fw.refl w,ag,aP,A,x,y,h⟩
variable{x y:Code}
theorem ab.seq(h:ab r P N x (pk (λag aP A=>ab r P N y Q ag aP A) Q) ag aP A):ab r P N (.seq x y) Q ag aP A:=by intro a w O V;refine wpIn_seq (wpIn_mono (h a w O V) ?_);rintro e E W ⟨s,Z,H,D,d,u,C⟩;cases e with|normal=>exact wpIn_mono (C E W d u) λ_ _ _=>vt s (λ_ _ _ _ h=>h)|_=>exact⟨s,Z,H,D,d,u,C⟩
theorem ab.block{id:Nat}{c:Code}(h:ab r P N c (o9 id Q) ag aP A):ab r P N (.block id c) Q ag aP A:=by intro a w W Z;refine wpIn_block (wpIn_mono (h a w W Z) ?_);rintro e ao aq ⟨s,O,D,C,E,H,d⟩;cases e with|exit u=>simp only[Exit.inBlock];simp only[o9]at d;by_cases e:u=id;subst e;rw[ax rfl];have:WA u u=true:=Nat.beq_refl _;rw[this]at d;exact⟨s,O,D,C,E,H,d⟩;rw[al e];(have:WA u id=false:=by cases V:WA u id with|false=>rfl|true=>exact absurd (VC V) e);rw[this]at d;exact⟨s,O,D,C,E,H,d⟩|_=>exact⟨s,O,D,C,E,H,d⟩
theorem ab.cond{c:Operand}{t:Bool}(u:bc ag c=.bool t)(E:t=true->ab r P N x Q ag aP A)(D:t=false->ab r P N y Q ag aP A):ab r P N (.cond c x y) Q ag aP A:=by intro a w d C;cases t with|true=>exact wpIn_cond_true (by rw[d.eval];exact u) (E rfl a w d C)|false=>exact wpIn_cond_false (by rw[d.eval];exact u) (D rfl a w d C)
theorem ab.Lx{c:Operand}(d:bc ag c=.bool true)(u:ab r P N x Q ag aP A):ab r P N (.cond c x y) Q ag aP A:=
  ab.cond d (λ_=>u) (λh=>by cases h)
theorem ab.Lw{c:Operand}(d:bc ag c=.bool false)(u:ab r P N y Q ag aP A):ab r P N (.cond c x y) Q ag aP A:=
  ab.cond d (λh=>by cases h) (λ_=>u)
theorem ab.aA{c:Operand}{p:Prop}[Decidable p](d:bc ag c=.bool (decide p))(w:p->ab r P N x Q ag aP A)(u:¬p->ab r P N y Q ag aP A):ab r P N (.cond c x y) Q ag aP A:=
  ab.cond d (λh=>w (dz h)) (λh=>u (d7 h))
end code
theorem T8{F:Fence}{n:Nat}{P:Program}{Q:Exit->Act->World->Prop}{a:Act}{w:World}{c:Code}(bL:Nat->Act->World->Prop)(O:Nat)(aw:bL O a w)
    (round:∀m a w,bL m a w->c.wpIn F n P (Exit.then (λa' D=>∃m',m'<m/\bL m' a' D) Q) a w):(Code.loop c).wpIn F n P Q a w:=by
 intro b k cs au H N
 have key:∀j a w,bL j a w->
     ∃e a' D,Q e a' D/\ArrivesIn (Machine.fenced P F) P (lone (b.atR a (.code c::.inLoop c::k)) cs w) b k cs e a' D:=by
   intro j
   induction j using Nat.strongRecOn with
   | _ j ay=>
     intro a w Z
     obtain⟨e,C,E,u,d⟩:=round j a w Z b (.inLoop c::k) cs au H N
     cases e with
     | normal=>
       obtain⟨m',aq,ag⟩:=u
       obtain⟨W,V,aA,ar,ao⟩:=ay m' aq C E ag
       exact⟨W,V,aA,ar,.of_steps (StepsIn.trans d (.one (fenced_calm H N rfl) stepR_inLoop)) ao⟩
     | exit id=>exact⟨_,C,E,u,.pass (x:=.inLoop c) rfl (λ_ _=>.inl cE) d⟩
     | goto l=>exact⟨_,C,E,u,.pass (x:=.inLoop c) rfl (λ_ _=>.inl cE) d⟩
     | ret=>exact⟨_,C,E,u,.pass (x:=.inLoop c) rfl (λ_ _=>.inl cE) d⟩
     | panic hl=>exact⟨_,C,E,u,.pass (x:=.inLoop c) rfl (λ_ _=>.inl cE) d⟩
     | outgrown=>exact⟨_,C,E,u,.pass (x:=.inLoop c) rfl (λ_ _=>.inl cE) d⟩
 obtain⟨e,a',D,u,d⟩:=key O a w aw;exact⟨e,a',D,u,.of_steps (.one (fenced_calm H N rfl) stepR_loop) d⟩
section Lt
variable {r : Option Nat} {P : Program} {N : Nat} {Q : fk} {ag : Env} {aP : List Deferred} {A : ay}
theorem ab.loop{ι:Type}{c:Code}(inv:ι->Prop)(L:ι->List (Nat×Value))(B:ι->ay)(d:ι->Nat)(i0:ι)(au:inv i0)(aL:oQ ag (L i0))(he:aG A (B i0))
    (round:∀i,inv i->∀u,ab r P N c (pk (λa7 ar Z=>ar=aP/\∃j,inv j/\d j<d i/\oQ a7 (L j)/\aG Z (B j)) Q) (cy u (L i)) aP (B i)):
    ab r P N (.loop c) Q ag aP A:=by intro a w a2 a4;refine T8 (λm D C=>fw w C/\∃i u,inv i/\cd N D (cy u (L i)) aP/\sat C (B i)/\d i=m) (d i0) ⟨fw.refl w,i0,ag,au,by rw[q6 aL];exact a2,a4.bg he,rfl⟩ ?_;rintro m ao cI ⟨s1,i,u,aA,a3,a5,rfl⟩;refine wpIn_mono (round i aA u ao cI a3 a5) ?_;rintro e D C ⟨s,V,aq,W,E,H,O⟩;cases e with|normal=>obtain⟨rfl,j,aF,a0,aW,aw⟩:=O;exact⟨d j,a0,s1.trans s,j,V,aF,by rw[q6 aW];exact E,H.bg aw,rfl⟩|_=>exact⟨s1.trans s,V,aq,W,E,H,O⟩
theorem ab.cut{ι:Type}{x y:Code}(inv:ι->Prop)(L:ι->List (Nat×Value))(B:ι->ay)(C:ab r P N x (pk (λd w u=>w=aP/\∃j,inv j/\oQ d (L j)/\aG u (B j)) Q) ag aP A)
    (D:∀j,inv j->∀O,ab r P N y Q (cy O (L j)) aP (B j)):ab r P N (.seq x y) Q ag aP A:=by refine ab.seq (C.mono λe d w u h=>?_);cases e with|normal=>obtain⟨rfl,j,E,H,he⟩:=h;have:=D j E d;rw[q6 H]at this;exact this.bg he|_=>exact h
variable {K : Env → List Deferred → ay → Prop} {i j : Nat}
theorem hW(h:K ag aP A):pk K Q .normal ag aP A:=h
theorem lS(h:Q (.exit i) ag aP A):pk K Q (.exit i) ag aP A:=h
theorem rt(h:Q .ret ag aP A):pk K Q .ret ag aP A:=h
theorem jb(h:Q .normal ag aP A):o9 i Q .normal ag aP A:=h
theorem qw(h:Q .normal ag aP A):o9 i Q (.exit i) ag aP A:=by
 have:WA i i=true:=b2
 simp only[o9,this,cond_true];exact h
theorem aL(d:WA j i=false)(h:Q (.exit j) ag aP A):o9 i Q (.exit j) ag aP A:=by simp only[o9,d,cond_false];exact h
theorem kN(h:Q .ret ag aP A):o9 i Q .ret ag aP A:=h
end Lt
end Go.QM
open Go.QM.fw renaming refl->X1
namespace Go.QM
open Go
def ck (r:Option Nat) (P:Program) (ag:Env) (o:Oper) (A:ay) (K:Value->ay->Prop):Prop:=
  ∀ a w,a.eval=bc ag->sat w A->
    o.wpIn (mO r) 0 P a w (λa' h1=>∃v bl,a'=a.put o.dst v/\fw w h1/\sat h1 bl/\K v bl) (λ_ _ _=>False)
def m8(F:Fence)(n:Nat)(P:Program)(ops:Array Oper)(Q:Exit->Act->World->Prop):List Oper->Act->World->Prop
  | [],a,w=>Q .normal a w
  | o::rest,a,w=>if VN o (yielded ops a.tmps)=true then o.wpIn F n P a w (m8 F n P ops Q rest) Q else(∀f,o.about P w a.eval=some f->F.fn f)/\m8 F n P ops Q rest (a.put o.dst undef) w
theorem Cp{F:Fence}{n:Nat}{P:Program}{ops:Array Oper}{Q:Exit->Act->World->Prop}:∀(l:List Oper) (k:Nat),(∀j,l[j]? =ops[k+j]?)->∀(a:Act) (w:World),
    m8 F n P ops Q l a w->wpOpsIn F n P ops Q (List.range' k l.length) a w
  | [],_,_,a,w,h=>by simpa[wpOpsIn,m8]using h
  | o::l,k,d,a,w,h=>by
   have C:ops[k]? =some o:=by simpa using(d 0).symm
   have u:∀j,l[j]? =ops[(k+1)+j]? :=λj=>by have:=d (j+1);simpa[Nat.add_assoc,Nat.add_comm 1 j]using this
   simp only[List.length_cons,List.range'_succ];simp only[wpOpsIn,C];simp only[m8]at h;split;rename_i hw;rw[ax hw]at h;exact XK (λa w=>Cp l (k+1) u a w) h;rename_i hw;rw[al hw]at h;exact⟨h.1,Cp l (k+1) u _ _ h.2⟩
theorem Oper.yh{F:Fence}{n:Nat}{P:Program}{o:Oper}{a:Act}{w:World}{K u:Act->World->Prop}{Q:Exit->Act->World->Prop}(h:∀a w,K a w->u a w)
    (d:o.wpIn F n P a w K (λ_ _ _=>False)):o.wpIn F n P a w u Q:=by
 unfold Yq at*;refine⟨d.1,?_⟩;have d:=d.2;generalize(o.semAt F.round a.eval).run P w=r at*;have C:¬LetsOut (λ(_:Exit) (_:Act) (_:World)=>False):=by grind[LetsOut]
 cases r with
 | ok x D=>
   cases x<;>simp only[WO]at d⊢<;>
     first
       | exact h _ _ d
       | exact⟨d.1,XW d.2 (λe E he=>by cases e<;>first|exact h _ _ he|exact he.elim|exact(C he).elim)⟩
       | exact⟨d.1,RowsIn.mono d.2 (λ_ _ he=>h _ _ he)⟩
       | exact⟨d.1,XT d.2 (λe E he=>by cases e<;>first|exact h _ _ he|exact he.elim|exact(C he).elim)⟩
 | halt x D=>cases x<;>simp only[WO]at d
def aU(r:Option Nat)(P:Program)(N:Nat)(ops:Array Oper)(l:List Oper)(Q:fk)(ag:Env)(aP:List Deferred)(A:ay):Prop:=
  ∀a w,cd N a ag aP->sat w A->m8 (mO r) 0 P ops (dQ N w Q) l a w
section
variable {r : Option Nat} {P : Program} {N : Nat} {ops : Array Oper} {l : List Oper} {Q : fk} {ag : Env} {aP : List Deferred} {A : ay} {K : Value → ay → Prop}
theorem yi{F:Fence}{n:Nat}{Q u:Exit->Act->World->Prop}(d:∀e a w,Q e a w->u e a w):∀(l:List Oper) (a:Act) (w:World),m8 F n P ops Q l a w->m8 F n P ops u l a w
  | [],_,_,h=>d _ _ _ h
  | o :: l,a,w,h=>by
   simp only[m8]at h⊢;split;rename_i hw;rw[ax hw]at h;refine XK (λa w=>yi d l a w) ?_;unfold Yq at*;refine⟨h.1,?_⟩;have h:=h.2;have C:LetsOut Q->LetsOut u:=λ⟨a,w,x⟩=>⟨a,w,d _ _ _ x⟩;generalize(o.semAt F.round a.eval).run P w=r at*
   cases r with
   | ok x D=>
     cases x<;>simp only[WO]at h⊢<;>
       first
         | exact h
         | exact⟨h.1,XW h.2 (λe E he=>by cases e<;>first|exact he|exact d _ _ _ he|exact C he)⟩
         | exact⟨h.1,XT h.2 (λe E he=>by cases e<;>first|exact he|exact d _ _ _ he|exact C he)⟩
   | halt x D=>cases x<;>simp only[WO]at h⊢;exact d _ _ _ h
   rename_i hw;rw[al hw]at h;exact⟨h.1,yi d l _ _ h.2⟩
theorem aU.bg{B:ay}(e:aG A B)(h:aU r P N ops l Q ag aP B):aU r P N ops l Q ag aP A:=λa w x y=>h a w x (y.bg e)
theorem ab.region{id:Nat}(h:aU r P N l.toArray l Q ag aP A):ab r P N (.region id l.toArray false) Q ag aP A:=by intro a w d u;refine wpIn_region ?_;have:=Cp (ops:=l.toArray) l 0 cE a w (h a w d u);grind[List.range_eq_range']
theorem aU.nil(h:Q .normal ag aP A):aU r P N ops [] Q ag aP A:=λ_ w x y=>⟨X1 w,ag,aP,A,x,y,h⟩
variable{o:Oper}
theorem aU.cons(O:o.guard=none)(u:jL N o.dst=true)(h:ck r P ag o A (λv bl=>aU r P N ops l Q (jU ag o.dst v) aP bl)):aU r P N ops (o::l) Q ag aP A:=by
 intro a w d D;have hw:VN o (yielded ops a.tmps)=true:=by grind[VN]
 simp only[m8,hw,if_true];refine Oper.yh ?_ (h a w d.eval D);rintro H V ⟨v,bl,rfl,s,E,C⟩;exact yi (λe a w=>vt s (λ_ _ _ _ h=>h)) l _ _ (C _ _ (d.put u v) E)
def ij (ops:Array Oper) (ag:Env) (j:Nat):Option Bool:=
  match(ops[j]?).bind (·.dst)with
  | some d=>match ag d with
    | .bool b=>some b
    | _=>none
  | none=>none
theorem cd.yielded{a:Act}(h:cd N a ag aP){j:Nat}{b:Bool}(w:ij ops ag j=some b):yielded ops a.tmps j=some b:=by unfold ij at w;unfold XL;cases C:(ops[j]?).bind (·.dst)with|none=>rw[C]at w;cases w|some d=>rw[C]at w;simp only[]at w;have u:=h.get d;rw[Wl]at u;simp only[X4];(cases D:a.tmps[d]? with|none=>rw[D]at u;simp[undef]at u;rw[<-u]at w;simp at w|some v=>rw[D]at u;simp at u;rw[u];cases hv:ag d<;>simp_all)
variable{b:Bool}{j:Nat}
theorem aU.DM(C:o.guard=some (j,b))(O:ij ops ag j=some b)(u:jL N o.dst=true)(h:ck r P ag o A (λv bl=>aU r P N ops l Q (jU ag o.dst v) aP bl)):aU r P N ops (o::l) Q ag aP A:=by
 intro a w d E;have hw:VN o (XL ops a.tmps)=true:=by simp[VN,C,d.yielded O]
 simp only[m8,hw,if_true];refine Oper.yh ?_ (h a w d.eval E);rintro V W ⟨v,bl,rfl,s,H,D⟩;exact yi (λe a w=>vt s (λ_ _ _ _ h=>h)) l _ _ (D _ _ (d.put u v) H)
theorem aU.Ss(C:o.guard=some (j,!b))(E:ij ops ag j=some b)(u:jL N o.dst=true)(h:aU r P N ops l Q (jU ag o.dst undef) aP A):aU r P N ops (o::l) Q ag aP A:=by
 intro a w d D;have hw:VN o (XL ops a.tmps)=false:=by simp[VN,C,d.yielded E]
 simp only[m8,hw];exact⟨λ_ _=>trivial,h _ _ (d.put u undef) D⟩
def vn (ops:Array Oper) (ag:Env) (j:Nat):Bool:=
  match(ops[j]?).bind (·.dst)with
  | some d=>match ag d with
    | .bool _=>false
    | _=>true
  | none=>true
theorem cd.I3{a:Act}(h:cd N a ag aP)(u:vn ops ag j=true):XL ops a.tmps j=none:=by unfold vn at u;unfold XL;cases C:(ops[j]?).bind (·.dst)with|none=>rfl|some d=>rw[C]at u;simp only[]at u;have w:=h.get d;rw[Wl]at w;simp only[X4];(cases hv:a.tmps[d]? with|none=>rfl|some v=>rw[hv]at w;simp only[Option.getD_some]at w;subst w;revert u;generalize ag d=z;intro u;(cases z<;>first|rfl|cases u))
theorem aU.HB(C:o.guard=some (j,b))(E:vn ops ag j=true)(u:jL N o.dst=true)(h:aU r P N ops l Q (jU ag o.dst undef) aP A):aU r P N ops (o::l) Q ag aP A:=by
 intro a w d D;have hw:VN o (XL ops a.tmps)=false:=by simp[VN,C,d.I3 E]
 simp only[m8,hw];exact⟨λ_ _=>trivial,h _ _ (d.put u undef) D⟩
theorem aU.split(t:Nat)(d:ag t=.bool b)(u:b=true->aU r P N ops l Q (hM ag t (.bool true)) aP A)(w:b=false->aU r P N ops l Q (hM ag t (.bool false)) aP A):aU r P N ops l Q ag aP A:=by cases b with|true=>have:=u rfl;rwa[sb d]at this|false=>have:=w rfl;rwa[sb d]at this
theorem aU.known(t:Nat){c:Bool}(u:ag t=.bool b)(d:b=c)(h:aU r P N ops l Q (hM ag t (.bool c)) aP A):aU r P N ops l Q ag aP A:=by subst d;rwa[sb u]at h
theorem ck.mono{d:Value->ay->Prop}(h:ck r P ag o A K)(H:∀v bl,K v bl->d v bl):ck r P ag o A d:=
  λa w x y=>XK (λ_ _ ⟨v,bl,u,C,D,E⟩=>⟨v,bl,u,C,D,H _ _ E⟩) (h a w x y)
theorem ck.bg{B:ay}(e:aG A B)(h:ck r P ag o B K):ck r P ag o A K:=λa w x y=>h a w x (y.bg e)
def iR:Op->Bool
  | .defer _=>false
  | _=>true
theorem r1(r:Option Nat)(h:iR o.op=true)(f:Operand->Value):o.semAt r f=execOp f o:=
  Oper.semAt_eq r f o (λc d=>by rw[d]at h;cases h)
theorem ck.run(D:iR o.op=true)
    (h:∀w,sat w A->∃v d bl,((execOp (bc ag) o).run P w=.ok (.value v) d\/((execOp (bc ag) o).run P w=.ok .skip d/\v=undef))/\fw w d/\sat d bl/\K v bl):ck r P ag o A K:=by intro a w he E;obtain⟨v,d,bl,u,N,H,C⟩:=h w E;refine⟨λ_ _=>trivial,?_⟩;rw[r1 _ D,he];rcases u with u|⟨u,rfl⟩<;>rw[u]<;>exact⟨_,bl,rfl,N,H,C⟩
theorem ck.val(v:Value)(u:iR o.op=true)(h:∀w,sat w A->(execOp (bc ag) o).run P w=.ok (.value v) w)(k:K v A):ck r P ag o A K:=
  ck.run u λw d=>⟨v,w,A,.inl (h w d),X1 w,d,k⟩
def bE(P:Program)(ag:Env)(o:Oper)(A:ay)(v:Value):Prop:=∀w,sat w A->(execOp (bc ag) o).run P w=.ok (.value v) w
theorem ck.q{v:Value}(d:iR o.op=true)(h:bE P ag o A v)(k:K v A):ck r P ag o A K:=ck.val v d h k
variable {op : Op} {d : Option Tmp} {ty : TypeId} {ps : String} {bh : Array Edge} {g : Option (Nat × Bool)} {t : Nat} {v : Value} {j : Nat} {b : Bool}
theorem q(u:iR op=true)(d:W7 t N=true)(w:bE P ag ⟨some t,op,ty,ps,bh,none⟩ A v)(h:aU r P N ops l Q (hM ag t v) aP A):aU r P N ops (⟨some t,op,ty,ps,bh,none⟩::l) Q ag aP A:=
  aU.cons rfl d (ck.q u w h)
theorem db(C:ij ops ag j=some b)(u:iR op=true)(d:W7 t N=true)(w:bE P ag ⟨some t,op,ty,ps,bh,some (j,b)⟩ A v)(h:aU r P N ops l Q (hM ag t v) aP A):aU r P N ops (⟨some t,op,ty,ps,bh,some (j,b)⟩::l) Q ag aP A:=
  aU.DM rfl C d (ck.q u w h)
theorem m3(u:ij ops ag j=some (!b))(d:W7 t N=true)(h:aU r P N ops l Q (hM ag t undef) aP A):aU r P N ops (⟨some t,op,ty,ps,bh,some (j,b)⟩::l) Q ag aP A:=
  aU.Ss (o:=⟨some t,op,ty,ps,bh,some (j,b)⟩) (b:=!b) cE u d h
theorem Rj(u:vn ops ag j=true)(d:W7 t N=true)(h:aU r P N ops l Q (hM ag t undef) aP A):aU r P N ops (⟨some t,op,ty,ps,bh,some (j,b)⟩::l) Q ag aP A:=
  aU.HB (o:=⟨some t,op,ty,ps,bh,some (j,b)⟩) rfl u d h
theorem e(d:W7 t N=true)(h:ck r P ag ⟨some t,op,ty,ps,bh,none⟩ A (λv bl=>aU r P N ops l Q (hM ag t v) aP bl)):aU r P N ops (⟨some t,op,ty,ps,bh,none⟩::l) Q ag aP A:=
  aU.cons rfl d h
theorem eB(h:ck r P ag ⟨none,op,ty,ps,bh,none⟩ A (λ_ bl=>aU r P N ops l Q ag aP bl)):aU r P N ops (⟨none,op,ty,ps,bh,none⟩::l) Q ag aP A:=
  aU.cons rfl rfl h
theorem pB(u:ij ops ag j=some b)(d:W7 t N=true)(h:ck r P ag ⟨some t,op,ty,ps,bh,some (j,b)⟩ A (λv bl=>aU r P N ops l Q (hM ag t v) aP bl)):aU r P N ops (⟨some t,op,ty,ps,bh,some (j,b)⟩::l) Q ag aP A:=
  aU.DM rfl u d h
variable{x:Operand}
theorem fR{v:Value}(u:bc ag x=v):bE P ag ⟨d,.move x,ty,ps,bh,g⟩ A v:=λ_ _=>by simp[execOp,u]
theorem oG{v:Value}(u:bc ag x=v):bE P ag ⟨d,.assign x,ty,ps,bh,g⟩ A v:=λ_ _=>by simp[execOp,u]
theorem Br{c y:Operand}{v:Value}(u:bc ag c=.bool true)(w:bc ag x=v):bE P ag ⟨d,.pick c x y,ty,ps,bh,g⟩ A v:=λ_ _=>by simp[execOp,u,w,asBool]
theorem Bq{c y:Operand}{v:Value}(u:bc ag c=.bool false)(w:bc ag y=v):bE P ag ⟨d,.pick c x y,ty,ps,bh,g⟩ A v:=λ_ _=>by simp[execOp,u,w,asBool]
theorem sY{a:Addr}(u:bc ag x=.pointer (some a)):bE P ag ⟨d,.nilCheck x,ty,ps,bh,g⟩ A (.pointer (some a)):=λ_ _=>by simp[execOp,u]
theorem U9{f:FuncId}{lb:Array Value}(u:bc ag x=.func (.func f) #[] lb):bE P ag ⟨d,.nilCheck x,ty,ps,bh,g⟩ A (.func (.func f) #[] lb):=λ_ _=>by simp[execOp,u]
theorem pu(v:Value)(h:∀w,(execOp (bc ag) ⟨d,op,ty,ps,bh,g⟩).run P w=.ok (.value v) w):bE P ag ⟨d,op,ty,ps,bh,g⟩ A v:=λw _=>h w
theorem iB(b off n:Nat):(⟨b,off,none⟩:Addr).add n=⟨b,off+n,none⟩:=by unfold Addr.add;split<;>simp_all
def mA(P:Program)(t:TypeId):Bool:=match P.underlying t with
  | some (.struct _)|some (.array _ _)|none=>false
  | some _=>true
def qq(P:Program)(t:TypeId)(n:Nat):Bool:=match P.underlying t,P.info? t with
  | some (.struct _),some i|some (.array _ _),some i=>WA i.size n
  | _,_=>false
def q2(P:Program)(t:TypeId)(n:Nat):Bool:=match P.info? t with
  | some i=>WA i.size n
  | none=>false
def wB (P:Program) (s:TypeId) (f off:Nat):Bool:=match P.underlying s with
  | some (.struct pJ)=>match pJ[f]? with
    | some fd=>WA fd.offset off&&(match P.info? fd.type with|some i=>!WA i.size 0|none=>false)
    | none=>false
  | _=>false
theorem us{t:TypeId}(h:mA P t=true)(w:World):(isAgg t).run P w=.ok false w:=by unfold mA at h;cases hu:P.underlying t with|none=>rw[hu]at h;cases h|some u=>(rw[hu]at h;cases u<;>first|(simp at h;done)|simp[isAgg,underlying,hu])
variable{n:Nat}
theorem Fi{t:TypeId}(h:qq P t n=true)(w:World):(isAgg t).run P w=.ok true w/\(sizeOf t).run P w=.ok n w:=by unfold qq at h;cases hu:P.underlying t with|none=>rw[hu]at h;cases h|some u=>rw[hu]at h;(cases d:P.info? t with|none=>rw[d]at h;cases u<;>cases h|some i=>rw[d]at h;(cases u<;>first|(cases h;done)|(simp only[]at h;have:=VC h;simp[isAgg,underlying,hu,sizeOf,typeInfo,d,this])))
theorem B2{t:TypeId}(h:q2 P t n=true)(w:World):(sizeOf t).run P w=.ok n w:=by unfold q2 at h;cases d:P.info? t with|none=>rw[d]at h;cases h|some i=>rw[d]at h;have:=VC h;simp[sizeOf,typeInfo,d,this]
variable{off:Nat}
theorem c1{s:TypeId}{f b:Nat}(o:Nat)(C:wB P s f o=true)(V:bc ag x=.pointer (some ⟨b,off,none⟩)):
    bE P ag ⟨d,.fieldAddr s x f,ty,ps,bh,g⟩ A (.pointer (some ⟨b,off+o,none⟩)):=by intro w _;unfold wB at C;cases hu:P.underlying s with|none=>rw[hu]at C;cases C|some u=>rw[hu]at C;(cases u with|struct O=>simp only[]at C;(cases H:O[f]? with|none=>rw[H]at C;cases C|some fd=>rw[H]at C;simp only[VQ]at C;obtain⟨E,D⟩:=C;have E:=VC E;(cases N:P.info? fd.type with|none=>rw[N]at D;cases D|some i=>rw[N]at D;(have W:i.size≠0:=λe=>by simp[e]at D);simp[execOp,Instr.fieldAt,underlying,hu,H,V,WJ,fieldPlace,sizeOf,typeInfo,N,W,iB,E]))|_=>cases C)
variable{E:Nat}{lV:Nat×Nat}
theorem y9{w:World}{b:Nat}{l:List Value}(h:w.heap[b]? =some (.cells l.toArray E lV))(off:Nat):w.cell? ⟨b,off,none⟩=l[off]? :=by grind[World.cell?]
theorem AM{t:TypeId}(d:mA P t=true){w:World}{b:Nat}{l:List Value}{v:Value}(h:w.heap[b]? =some (.cells l.toArray E lV))(hv:l[off]? =some v):
    (loadVar t ⟨b,off,none⟩).run P w=.ok v w:=by simp[loadVar,us d,y9 h,hv]
variable{vs:List Value}
theorem AL{t:TypeId}(C:qq P t n=true){w:World}{b:Nat}{l:List Value}(h:w.heap[b]? =some (.cells l.toArray E lV))(hv:(l.drop off).take n=vs)(ao:vs.length=n):
    (loadVar t ⟨b,off,none⟩).run P w=.ok (.agg vs.toArray) w:=by have u:=run_loadCells_list (P:=P) w ⟨b,off,none⟩ vs (λj v d=>by rw[iB,y9 h];rw[<-hv,List.getElem?_take]at d;split at d;rwa[List.getElem?_drop]at d;cases d);rw[ao]at u;simp[loadVar,Fi C,u]
class fN(A:ay)(b:Nat)(o:outParam Obj):Prop where
  rd:Rd A b o
instance (b:Nat)(E:TypeId)(l:List Value):fN (aj b E l) b (.cells l.toArray E (0,0)):=⟨na b E l⟩
instance (b:Nat)(o:Obj):fN (obj b o) b o:=⟨iL b o⟩
instance (A:ay)(l:List ay)(b:Nat)(o:Obj)[h:fN (ah l) b o]:fN (ah (A::l)) b o:=⟨kb h.rd⟩
instance (A:ay)(l:List ay)(b:Nat)(o:Obj)[h:fN A b o]:fN (ah (A::l)) b o:=⟨iK h.rd⟩
theorem Po{t:TypeId}{b:Nat}{l:List Value}{v:Value}(C:mA P t=true)(D:bc ag x=.pointer (some ⟨b,off,none⟩))(hr:Rd A b (.cells l.toArray E lV))(hv:l[off]? =some v):
    bE P ag ⟨d,.load t x,ty,ps,bh,g⟩ A v:=by intro w u;simp[execOp,Instr.loadAt,D,WJ,AM C (hr.sat u) hv]
theorem Pp{t:TypeId}{b:Nat}{l:List Value}(n:Nat)(C:qq P t n=true)(D:bc ag x=.pointer (some ⟨b,off,none⟩))(hr:Rd A b (.cells l.toArray E lV))(hv:(l.drop off).take n=vs)(ao:vs.length=n):
    bE P ag ⟨d,.load t x,ty,ps,bh,g⟩ A (.agg vs.toArray):=by intro w u;simp[execOp,Instr.loadAt,D,WJ,AL C (hr.sat u) hv ao]
theorem gG{t:TypeId}{b:Nat}{l:List Value}{v:Value}(u:mA P t=true)(w:bc ag x=.pointer (some ⟨b,off,none⟩))[hr:fN A b (.cells l.toArray E lV)](hv:l[off]? =some v):
    bE P ag ⟨d,.load t x,ty,ps,bh,g⟩ A v:=Po u w hr.rd hv
theorem fQ{t:TypeId}{b:Nat}{l:List Value}(n:Nat)(u:qq P t n=true)(w:bc ag x=.pointer (some ⟨b,off,none⟩))[hr:fN A b (.cells l.toArray E lV)](hv:(l.drop off).take n=vs)(ao:vs.length=n):
    bE P ag ⟨d,.load t x,ty,ps,bh,g⟩ A (.agg vs.toArray):=Pp n u w hr.rd hv ao
def dM(off:Nat)(vs l:List Value):List Value:=l.take off++vs++l.drop (off+vs.length)
theorem ve{l:List Value}(h:off+vs.length<=l.length):(dM off vs l).length=l.length:=by grind[dM]
theorem xQ{w:World}{b:Nat}{l l':List Value}(h:sat w (sep (aj b E l) A)):sat (w.setRow b l'.toArray) (sep (aj b E l') A):=by have d:w.heap[b]? =some (.cells l.toArray E (0,0)):=(iA (na b E l)).sat h;exact u4 h (setRow_heap w b _ _ E (0,0) d) (λi u=>setRow_other w b i _ u)
theorem SW{t:TypeId}{v:Value}(D:q2 P t n=true)(ao:v.cells.toList.length=n)(d:v.cells.toList.all VO=true){w:World}{b:Nat}{l:List Value}
    (h:w.heap[b]? =some (.cells l.toArray E (0,0))) (hlen:off+n<=l.length):(storeVar t ⟨b,off,none⟩ v).run P w=.ok () (w.setRow b (dM off v.cells.toList l).toArray):=by
 have:=run_storeCells_at P b off E v.cells.toList 0 l.toArray w h (by rw[ao];simpa using hlen) (λu hu=>by simpa using Xf.1 d u hu);simp only[Nat.add_zero]at this;have C:v.cells.size=n:=by trivial
 simp only[storeVar,VB,B2 D,Vo,C,ne_eq,not_true_eq_false,if_false,this,dM]
theorem GH(i:Nat){hs rest:List ay}{t:TypeId}{y:Operand}{b:Nat}{l l':List Value}{v:Value}(W:bc ag x=.pointer (some ⟨b,off,none⟩))(u:eV i hs=some (aj b E l,rest))(Z:bc ag y=v)
    (N:v.cells.toList=vs) (D:vs.all VO=true) (V:q2 P t n=true) (ao:vs.length=n) (hlen:off+n<=l.length) (O:dM off vs l=l') (k:K undef (ah (aj b E l'::rest))):
    ck r P ag ⟨d,.store t x y,ty,ps,bh,g⟩ (ah hs) K:=by subst N;refine ck.run rfl λw C=>⟨undef,w.setRow b l'.toArray,_,.inr ⟨?_,rfl⟩,⟨rfl,rfl,rfl,by simp⟩,?_,k⟩;have H:w.heap[b]? =some (.cells l.toArray E (0,0)):=(iA (na b E l)).sat (C.bg (fG u));subst O;simp only[execOp,Instr.storeAt,W,Z,WJ,VB,Sem.run_pure,Vo,SW V ao D H hlen];exact xQ (C.bg (fG u))
class rj(hs:List ay)(b:Nat)(E:outParam Nat)(l:outParam (List Value))(r:outParam (List ay)):Prop where
  tk:∃i,eV i hs=some (aj b E l,r)
instance (b E:Nat)(l:List Value)(r:List ay):rj (aj b E l::r) b E l r:=⟨0,rfl⟩
instance (A:ay)(hs:List ay)(b E:Nat)(l:List Value)(r:List ay)[h:rj hs b E l r]:rj (A::hs) b E l (A::r):=⟨by
  obtain⟨i,pL⟩:=h.tk
  exact⟨i+1,by simp[eV,pL]⟩⟩
theorem st{hs rest:List ay}{t:TypeId}{y:Operand}{b:Nat}{l l':List Value}{v:Value}(n:Nat)(H:q2 P t n=true)(N:bc ag x=.pointer (some ⟨b,off,none⟩))(O:bc ag y=v)
    (C:v.cells.toList=vs) (w:vs.all VO=true) (ao:WA vs.length n=true) [u:rj hs b E l rest] (hlen:off+n<=l.length) (D:dM off vs l=l') (k:K undef (ah (aj b E l'::rest))):
    ck r P ag ⟨d,.store t x y,ty,ps,bh,g⟩ (ah hs) K:=by obtain⟨i,u⟩:=u.tk;exact GH i N u O C w H (VC ao) hlen D k
theorem ck.new{o:Oper}(bq:iR o.op=true)(E:TypeId)(l:List Value)(f:Nat->Value)(d:∀w,(execOp (bc ag) o).run P w=.ok (.value (f w.heap.size)) (w.alloc (.cells l.toArray E)))
    {hs:List ay} (k:∀b,K (f b) (ah (aj b E l::hs))):ck r P ag o (ah hs) K:=
  ck.run bq λw u=>⟨_,_,_,.inl (d w),⟨rfl,rfl,rfl,by simp⟩,o0 _ u,k w.heap.size⟩
theorem eS{hs:List ay}{E:TypeId}{v:Value}{l:List Value}(C:bc ag x=v)(u:v.cells.toList=l)(k:∀b,K (.pointer (some ⟨b,0,none⟩)) (ah (aj b E l::hs))):
    ck r P ag ⟨d,.box E x,ty,ps,bh,g⟩ (ah hs) K:=by subst u;refine ck.new rfl E _ (λb=>.pointer (some ⟨b,0,none⟩)) (λw=>?_) k;simp[execOp,Instr.box,newVar,newRow,C]
def lA(P:Program)(t:TypeId):Option Value:=(P.info? t).bind (·.zero)
theorem vw{t:TypeId}{z:Value}(h:lA P t=some z)(w:World):(zeroValue t).run P w=.ok z w:=by unfold lA at h;cases d:P.info? t with|none=>rw[d]at h;cases h|some i=>rw[d]at h;simp only[X4]at h;simp[zeroValue,typeInfo,d,h]
theorem gx{hs:List ay}{E:TypeId}{z:Value}{l:List Value}(C:lA P E=some z)(u:z.cells.toList=l)(k:∀b,K (.pointer (some ⟨b,0,none⟩)) (ah (aj b E l::hs))):
    ck r P ag ⟨d,.alloc E,ty,ps,bh,g⟩ (ah hs) K:=by subst u;refine ck.new rfl E _ (λb=>.pointer (some ⟨b,0,none⟩)) (λw=>?_) k;simp[execOp,Instr.alloc,newVar,newRow,vw C]
end
end Go.QM
namespace Go.QM
open Go
def h3{α:Type}(P:Program)(s:Sem α):Prop:=(∃r,∀w,s.run P w=.ok r w)\/∀w r h1,s.run P w≠.ok r h1
theorem h3.pure{α:Type}{P:Program}(r:α):h3 P (pure r:Sem α):=.inl ⟨r,λw=>by simp⟩
variable{P:Program}{α:Type}
theorem h3.bind{β:Type}{s:Sem α}{f:α->Sem β}(hs:h3 P s)(C:∀a,h3 P (f a)):h3 P (s>>=f):=by
 rcases hs with⟨r,d⟩|hs;rcases C r with⟨q,D⟩|ao;exact .inl ⟨q,λw=>by simp[d,D]⟩;exact .inr λw q u=>by simp[d];exact ao w q u
 refine .inr λw q u h=>?_;rw[VB]at h;cases hw:s.run P w with|ok r cI=>exact hs w r cI hw|halt x cI=>rw[hw]at h;simp[Xp]at h
theorem h3.stuck{α:Type}{P:Program}(why:String):h3 P (stuck why:Sem α):=.inr λw r d h=>by simp at h
theorem h3.IE(u:Unsupported):h3 P (unsupported u:Sem α):=.inr λw r d h=>by simp at h
theorem Qc(x y:Int)(s:Bool)(c:BoundsCode)(w:World)(r:α)(d:World):(runtimePanic (.bounds x y s c):Sem α).run P w≠.ok r d:=by simp[runtimePanic]
theorem Qb{β:Type}{s:Sem α}{f:α->Sem β}(C:∀a w r d,(f a).run P w≠.ok r d)(w:World)(r:β)(d:World):(s>>=f).run P w≠.ok r d:=by intro h;rw[VB]at h;cases u:s.run P w with|ok b cI=>rw[u]at h;exact C b cI r d h|halt x cI=>rw[u]at h;simp[Xp]at h
theorem h3.bounds(k:IntKind)(x y:Int)(c:BoundsCode):h3 P (boundsPanic k x y c:Sem α):=by refine .inr λw r d h=>?_;grind[boundsPanic,Qb,Qc]
theorem h3.int(v:Value):h3 P (asIntOf v):=by unfold asIntOf;split;exact .pure _;exact .IE _;exact .stuck _
theorem h3.IB(t:TypeId):h3 P (underlying t):=by unfold underlying;cases h:P.underlying t with|some d=>exact .inl ⟨d,λw=>by simp[h]⟩|none=>(exact .inr λw r u=>by simp[h])
theorem h3.size(t:TypeId):h3 P (sizeOf t):=by unfold sizeOf typeInfo;cases h:P.info? t with|some d=>exact .inl ⟨d.size,λw=>by simp[h]⟩|none=>(exact .inr λw r u=>by simp[h])
theorem h3.Aq{why:String}(t:TypeId)(k:IntKind)(i:Int)(base:Option Addr)(len:Nat)(elem:TypeId)(u:TypeDesc->Bool):h3 P (do
    let d<-underlying t
    match base with
    | some a=>if 0<=i/\i<len then(do let z<-sizeOf elem;Pure.pure (Value.pointer (some (a.add (i.toNat*z)))))else if u d=true then unsupported (Unsupported.noEntry why)else boundsPanic k i len .index
    | none=>boundsPanic k i 0 .index:Sem Value):=by refine .bind (.IB _) λw=>?_;cases base with|some a=>dsimp only;split;exact .bind (.size _) λ_=>.pure _;split;exact .IE _;exact .bounds _ _ _ _|none=>exact .bounds _ _ _ _
theorem h3.index(t:TypeId)(x y:Value):h3 P (XF t x y):=by unfold XF;refine .bind (.int _) λw=>?_;refine .bind (.IB _) λu=>?_;dsimp only;split;refine .bind ?_ λ_=>.bind (.pure _) λble=>?_;unfold WJ;split;exact .pure _;exact .stuck _;exact h3.Aq t w.1 w.2 _ _ _ (λd=>decide (ble.2.1<=1)&&match d with|.array _ _=>true|_=>false);exact .bind (.pure _) λble=>h3.Aq t w.1 w.2 _ _ _ (λd=>decide (ble.2.1<=1)&&match d with|.array _ _=>true|_=>false);exact .bind (.stuck _) λble=>h3.Aq t w.1 w.2 _ _ _ (λd=>decide (ble.2.1<=1)&&match d with|.array _ _=>true|_=>false)
def oP:Op->Bool
  | .move _|.assign _|.indexAddr ..=>true
  | _=>false
theorem NO{e:Operand->Value}{o:Oper}(h:oP o.op=true){v:Value}{w:World}(hr:(execOp e o).run P w=.ok (.value v) w)(C:World):(execOp e o).run P C=.ok (.value v) C:=by
 obtain⟨d,op,ty,ps,bh,g⟩:=o;cases op<;>first|(cases h;done)|skip
 case move x=>simp[execOp]at hr⊢;exact hr
 case assign x=>simp[execOp]at hr⊢;exact hr
 case indexAddr t x y=>
   have E:h3 P (XF t (e x) (e y)>>=λa=>(Pure.pure (Next.value a):Sem Next)):=.bind (.index _ _ _) λ_=>.pure _
   rcases E with⟨r,u⟩|u
   · have D:=(u w).symm.trans hr
     cases D
     exact u C
   · exact absurd hr (u w _ w)
def kF(ops:Array Oper)(i:Nat):Bool:=match ops[i]? with
  | some o=>oP o.op
  | none=>false
section
variable {F : Fence} {n : Nat} {P : Program} {ops : Array Oper} {Q : Exit → Act → World → Prop} {I : World → Prop} {T : List Nat}
def ot (F:Fence) (n:Nat) (P:Program) (ops:Array Oper) (Q:Exit->Act->World->Prop) (I:World->Prop) (T:List Nat):Nat->Array Bool->Act->World->Prop
  | 0,listed,a,w=>V5 .any ops listed=[]/\Q .normal a w
  | fuel+1,listed,a,w=>
    (V5 .any ops listed=[]->Q .normal a w)/\
    ∀i∈V5 .any ops listed,wpOpIn F n P ops Q i (λa' h1=>(i∉T->I w->I h1)/\ot F n P ops Q I T fuel (listed.setIfInBounds i true) a' h1) a w
theorem Co:∀(fuel:Nat) (listed:Array Bool) (a:Act) (w:World),ot F n P ops Q I T fuel listed a w->wpAnyIn F n P .any ops Q fuel listed a w
  | 0,_,_,_,h=>h
  | fuel+1,_,_,_,h=>⟨h.1,λi C=>wpOpIn_mono (λd D u=>Co fuel _ d D u.2) (h.2 i C)⟩
def qr (ops:Array Oper):Nat->Nat->Nat->Bool
  | 0,_,_=>false
  | f+1,j,i=>match ops[j]? with
    | some o=>o.after.any (λe=>WW .any e&&e.on==i)||o.after.any (λe=>WW .any e&&qr ops f e.on i)
    | none=>false
def pa(ops:Array Oper)(listed:Array Bool):Prop:=∀j o,ops[j]? =some o->listed.getD j true=true->∀e∈o.after,WW .any e=true->listed.getD e.on false=true
theorem Dc{listed:Array Bool}(D:pa ops listed):∀(f j i:Nat),qr ops f j i=true->(∀o,ops[j]? =some o->∀e∈o.after,WW .any e=true->listed.getD e.on false=true)->listed.getD i false=true
  | 0,_,_,h,_=>by simp[qr]at h
  | f + 1,j,i,h,E=>by
    simp only[qr]at h
    cases u:ops[j]? with
    | none=>rw[u]at h;cases h
    | some o=>
      rw[u]at h
      simp only[Bool.or_eq_true]at h
      rcases h with h|h
      · obtain⟨e,he,d⟩:=Array.any_eq_true'.1 h
        simp only[VQ,beq_iff_eq]at d
        have:=E o u e he d.1
        rwa[d.2]at this
      · obtain⟨e,he,d⟩:=Array.any_eq_true'.1 h
        simp only[VQ]at d
        have C:=E o u e he d.1
        refine Dc D f e.on i d.2 (λW V H O N=>D e.on W V ?_ H O N)
        have P:e.on<listed.size:=by
          rcases Nat.lt_or_ge e.on listed.size with w|w
          · exact w
          · simp[YU w]at C
        simp[P]at C⊢
        exact C
variable{listed:Array Bool}
theorem pa.set(w:pa ops listed){i:Nat}(hr:i∈V5 .any ops listed):pa ops (listed.setIfInBounds i true):=by intro j o D d e he u;obtain⟨_,N,H,E⟩:=mem_ready.1 hr;by_cases C:i=j;grind[getD_set_true];rw[getD_set_ne true C]at d;exact getD_set_true (w j o D d e he u)
theorem Ru(d:pa ops listed){i j:Nat}(u:listed.getD i true=false)(w:j∈V5 .any ops listed)(h:qr ops 9 j i=true):False:=by grind[mem_ready,Dc]
def kw(P:Program)(ops:Array Oper)(I:World->Prop)(o:Oper)(v:Value)(a:Act):Prop:=
  iR o.op=true/\((VN o (yielded ops a.tmps)=true/\∀w,I w->(execOp a.eval o).run P w=.ok (.value v) w)\/
  (VN o (yielded ops a.tmps)=false/\v=undef))
theorem kw.op(u:∀f,F.fn f){i:Nat}{o:Oper}{v:Value}{a:Act}(E:ops[i]? =some o)(d:kw P ops I o v a)
    {K:Act->World->Prop} {w:World} (C:I w) (h:K (a.put o.dst v) w):wpOpIn F n P ops Q i K a w:=by unfold Go.wpOpIn;simp only[E];obtain⟨D,d⟩:=d;rcases d with⟨hw,hv⟩|⟨hw,rfl⟩;simp only[hw,if_true,Yq,r1 _ D,hv w C,WO];exact⟨λf _=>u f,h⟩;simp_all
theorem kw.of_same{o:Oper}{v:Value}{a a':Act}(d:kw P ops I o v a)(he:execOp a'.eval o=execOp a.eval o)
    (hw:VN o (yielded ops a'.tmps)=VN o (yielded ops a.tmps)):kw P ops I o v a':=by grind[kw]
theorem kw.free{o:Oper}{v:Value}{a:Act}(d:kw P ops I o v a){w0:World}(u:I w0)(C:oP o.op=true):kw P ops (λ_=>True) o v a:=
  ⟨d.1,d.2.imp (λh=>⟨h.1,λw _=>NO C (h.2 w0 u) w⟩) (λh=>h)⟩
theorem Ua(ao:∀f,F.fn f){j:Nat}{C D:Oper}{v:Value}(ar:ops[j]? =some D)(aq:C.apart ops D=true)(Z:iR D.op=true)
    (au:∀cs b,C.op≠.select cs b) (aw:∀cs b,D.op≠.select cs b)
    (N:∀c a w,Q (.panic c) (a.put C.dst v) w->Q (.panic c) a w) {K:Act->World->Prop} {a:Act} {w:World}
    (E:kw P ops I C v a) (h:wpOpIn F n P ops Q j K (a.put C.dst v) w):
    wpOpIn F n P ops Q j (λa' O=>kw P ops I C v a'/\K (a'.put C.dst v) O) a w:=by
 obtain⟨V,H,W⟩:=Oper.apart_spec aq
 have nu:∀(a:Act),kw P ops I C v a->∀u,kw P ops I C v (a.put D.dst u):=λa E u=>
   E.of_same (execOp_put C au a D.dst u W) (wanted_put C a D.dst u W)
 have ay:∀d,kw P ops I C v {a with defers:=d::a.defers}:=λd=>E.of_same rfl rfl;unfold wpOpIn at*;simp only[ar]at*;rw[wanted_put D a C.dst v V]at h;split
 ·rename_i hw
  simp only[hw,if_true]at h
  unfold Yq at*
  refine⟨λf _=>ao f,?_⟩
  have h:=h.2
  rw[r1 _ Z,execOp_put D aw a C.dst v V]at h
  rw[r1 _ Z]
  generalize(execOp a.eval D).run P w=r at*
  cases r with
  | ok x O=>
    cases x<;>simp only[WO]at h⊢
    case value u=>exact⟨nu a E u,by rw[<-W2 a v u H];exact h⟩
    case skip=>exact⟨nu a E _,by rw[<-W2 a v undef H];exact h⟩
    case defer d=>
      refine⟨nu _ (ay d) _,?_⟩
      rw[<-W2 _ v undef H,<-Act.put_defers]
      exact h
    case enter f args=>
      refine⟨h.1,XW h.2 λe ag he=>?_⟩
      cases e with
      | returned u=>exact⟨nu a E u,by rw[<-W2 a v u H];exact he⟩
      | panicked c=>exact N _ _ _ he
      | outgrown=>exact he
    case row row args=>exact⟨h.1,RowsIn.mono h.2 λu ag he=>⟨nu a E u,by rw[<-W2 a v u H];exact he⟩⟩
    case round l f tmps assign body=>
      refine⟨h.1,XT h.2 λe ag he=>?_⟩
      cases e with
      | returned u=>exact⟨nu a E u,by rw[<-W2 a v u H];exact he⟩
      | panicked c=>exact N _ _ _ he
      | outgrown=>exact he
  | halt x O=>
    cases x<;>simp only[WO]at h⊢
    case panic u=>exact N _ _ _ h
 grind[W2]
theorem Cn(aq:∀f,F.fn f){i:Nat}{E:Oper}{v:Value}{I':World->Prop}(au:ops[i]? =some E)(aF:∀(j:Nat) (o:Oper) cs b,ops[j]? =some o->o.op≠.select cs b)
    (a9:∀(j:Nat) (o:Oper),ops[j]? =some o->iR o.op=true) (a0:∀c a w,Q (.panic c) (a.put E.dst v) w->Q (.panic c) a w)
    (O:(∀w,I' w)\/(I'=I/\∀j∈T,qr ops 9 j i=true)):
    ∀ (fuel:Nat) (listed:Array Bool) (a:Act) (w:World),pa ops listed->
      (∀j C,ops[j]? =some C->j≠i->listed.getD j true=false->(∀e∈C.after,WW .any e=true->e.on≠i)->E.apart ops C=true)->
      i∈V5 .any ops listed->kw P ops I' E v a->I' w->
      ot F n P ops Q I T fuel (listed.setIfInBounds i true) (a.put E.dst v) w->ot F n P ops Q I T (fuel+1) listed a w:=by
 intro fuel
 induction fuel with
 | zero=>
   intro listed a w ar _ u ag W H
   refine⟨λh=>(by rw[h]at u;cases u),λj N=>?_⟩
   by_cases d:j=i
   · subst d;exact ag.op aq au W ⟨λ_ h=>h,H⟩
   · have:=ready_mono N d
     rw[H.1]at this
     cases this
 | succ fuel bc=>
   intro listed a w ar oP u ag W H
   refine⟨λh=>(by rw[h]at u;cases u),λj N=>?_⟩
   by_cases d:j=i
   · subst d;exact ag.op aq au W ⟨λ_ h=>h,H⟩
   · have D:=H.2 j (ready_mono N d)
     obtain⟨aA,C,Z,a2⟩:=mem_ready.1 N
     have ba:∀e∈C.after,WW .any e=true->e.on≠i:=λe he a3 heq=>by
       have D:=a2 e he a3
       have aw:=(mem_ready.1 u).1
       rw[heq]at D
       rcases Nat.lt_or_ge i listed.size with ao|ao
       · simp[ao]at aw D;rw[aw]at D;cases D
       · simp[YU ao]at D
     have aW:=Ua aq Z (oP j C Z d aA ba) (a9 j C Z) (λcs b=>aF i E cs b au) (λcs b=>aF j C cs b Z) a0 ag D
     have a4:∀k ok,ops[k]? =some ok->k≠i->(listed.setIfInBounds j true).getD k true=false->
         (∀e∈ok.after,WW .any e=true->e.on≠i)->E.apart ops ok=true:=λk ok a7 a8 gj eM=>by
       refine oP k ok a7 a8 ?_ eM
       by_cases ay:j=k
       · subst ay;exact aA
       · rw[getD_set_ne true ay]at gj;exact gj
     refine wpOpIn_mono (λaP aL V=>⟨V.2.1,bc (listed.setIfInBounds j true) aP aL (ar.set N) a4 (ready_mono u (Ne.symm d)) V.1 ?_ ?_⟩) aW
     · rcases O with O|⟨rfl,O⟩
       · exact O aL
       · exact V.2.1 (λa5=>Ru ar (mem_ready.1 u).1 N (O j a5)) W
     · rw[Array.setIfInBounds_comm _ _ d]
       exact V.2.2
def pt(ops:Array Oper)(T:List Nat):List (Nat×Bool)->Array Bool->Bool
  | [],listed=>(V5 .any ops listed).isEmpty
  | (i,false)::c,listed=>(V5 .any ops listed).contains i&&Region.free .any ops listed i&&(T.all (λj=>qr ops 9 j i)||kF ops i)&&pt ops T c (listed.setIfInBounds i true)
  | (i,true)::c,listed=>(V5 .any ops listed==[i])&&pt ops T c (listed.setIfInBounds i true)
def y8(ops:Array Oper)(T:List Nat)(c:List (Nat×Bool)):Bool:=
  XA ops&&ops.all (λo=>iR o.op)&&(c.length==ops.size)&&pt ops T c (Array.replicate ops.size false)
end
section
variable {r : Option Nat} {P : Program} {N : Nat} {ops : Array Oper} {Q : fk} {ag : Env} {aP : List Deferred} {A I : ay} {T : List Nat} {c : List (Nat × Bool)}
def mj(Q:Exit->Act->World->Prop):Exit->Act->World->Prop
  | .panic _,_,_=>False
  | e,a,w=>Q e a w
theorem vG{w0 w:World}(s:fw w0 w){e:Exit}{a:Act}{d:World}(h:mj (dQ N w Q) e a d):mj (dQ N w0 Q) e a d:=by cases e<;>first|exact h|exact vt (w:=w) s (λ_ _ _ _ h=>h) h
theorem CQ{X:Exit->Act->World->Prop}{e:Exit}{a:Act}{d:World}(h:mj X e a d):X e a d:=by cases e<;>first|exact h.elim|exact h
def ca (r:Option Nat) (P:Program) (N:Nat) (ops:Array Oper) (I:ay) (T:List Nat) (c:List (Nat×Bool)) (Q:fk) (ag:Env) (aP:List Deferred) (A:ay):Prop:=
  ∀ a w listed,cd N a ag aP->sat w A->(∃w0,sat w0 I)->(sat w I\/∀x∈c,x.2=true\/kF ops x.1=true)->pa ops listed->XA ops=true->(∀(j:Nat) (o:Oper),ops[j]? =some o->iR o.op=true)->pt ops T c listed=true->
    ot (mO r) 0 P ops (mj (dQ N w Q)) (λw=>sat w I) T c.length listed a w
theorem se{F:Fence}{n:Nat}{Q D:Exit->Act->World->Prop}{S:World->Prop}(u:∀e a w,Q e a w->D e a w):∀(fuel:Nat) (listed:Array Bool) (a:Act) (w:World),ot F n P ops Q S T fuel listed a w->ot F n P ops D S T fuel listed a w
  | 0,_,_,_,h=>⟨h.1,u _ _ _ h.2⟩
  | fuel + 1,listed,a,w,h=>⟨λO=>u _ _ _ (h.1 O),λi V=>by
   have d:=h.2 i V;unfold wpOpIn at*
   cases H:ops[i]? with
   | none=>rw[H]at d;exact⟨d.1,se u fuel _ _ _ d.2⟩
   | some o=>
     rw[H]at d
     simp only[]at d⊢
     split
     · rename_i hw
       rw[ax hw]at d
       refine XK (K:=λN C=>(i∉T->S w->S C)/\ot F n P ops Q S T fuel (listed.setIfInBounds i true) N C) (λa w h=>⟨h.1,se u fuel _ a w h.2⟩) ?_
       unfold Yq at*
       refine⟨d.1,?_⟩
       have h:=d.2
       have E:LetsOut Q->LetsOut D:=λ⟨a,w,x⟩=>⟨a,w,u _ _ _ x⟩
       generalize(o.semAt F.round a.eval).run P w=r at*
       cases r with
       | ok x C=>
         cases x<;>simp only[WO]at h⊢<;>
           first
             | exact h
             | exact⟨h.1,XW h.2 (λe W he=>by cases e<;>first|exact he|exact u _ _ _ he|exact E he)⟩
             | exact⟨h.1,XT h.2 (λe W he=>by cases e<;>first|exact he|exact u _ _ _ he|exact E he)⟩
       | halt x C=>cases x<;>simp only[WO]at h⊢;exact u _ _ _ h
     · rename_i hw
       rw[al hw]at d
       exact⟨d.1,d.2.1,se u fuel _ _ _ d.2.2⟩⟩
theorem ca.bg{B:ay}(e:aG A B)(h:ca r P N ops I T c Q ag aP B):ca r P N ops I T c Q ag aP A:=λa w l x y=>h a w l x (y.bg e)
theorem ca.nil(h:Q .normal ag aP A):ca r P N ops I T [] Q ag aP A:=by intro a w listed d u _ _ _ _ _ aQ;exact⟨by simpa[pt]using aQ,X1 w,ag,aP,A,d,u,h⟩
variable{i:Nat}{o:Oper}
theorem ca.xK{v:Value}(u:ops[i]? =some o)(aw:jL N o.dst=true)
    (ao:∀a,cd N a ag aP->kw P ops (λw=>sat w I) o v a) (h:ca r P N ops I T c Q (jU ag o.dst v) aP A):ca r P N ops I T ((i,false)::c) Q ag aP A:=by
 intro a w listed H aA V ar C O E aQ;simp only[pt,VQ,Bool.or_eq_true]at aQ;obtain⟨⟨⟨aW,Z⟩,d⟩,aQ⟩:=aQ;have D:i∈V5 .any ops listed:=b2
 have au:sat w I\/∀x∈c,x.2=true\/kF ops x.1=true:=cm
 have:=h (a.put o.dst v) w (listed.setIfInBounds i true) (H.put aw v) aA V au (C.set D) O E aQ;have aL:kF ops i=true->oP o.op=true:=by grind[kF]
 have key:oP o.op=true->ot (mO r) 0 P ops (mj (dQ N w Q)) (λw=>sat w I) T (c.length+1) listed a w:=λaq=>
   let⟨a0,aF⟩:=V
   Cn (I':=λ_=>True) (vC r) u (Region.noSelect_spec O) E (λc a w h=>h.elim) (.inl λ_=>trivial) c.length listed a w C (Region.free_spec u Z) D ((ao a H).free aF aq) trivial this
 rcases d with d|d;rcases ar with W|W;exact Cn (vC r) u (Region.noSelect_spec O) E (λc a w h=>h.elim) (.inr ⟨rfl,λj ay=>Xf.1 d j ay⟩) c.length listed a w C (Region.free_spec u Z) D (ao a H) W this;simp_all;simp_all
theorem ca.q{v:Value}(D:ops[i]? =some o)(u:o.guard=none)(d:jL N o.dst=true)(C:iR o.op=true)
    (O:bE P ag o I v) (h:ca r P N ops I T c Q (jU ag o.dst v) aP A):ca r P N ops I T ((i,false)::c) Q ag aP A:=
  ca.xK D d (λa E=>⟨C,.inl ⟨by simp[VN,u],λw H=>by rw[E.eval];exact O w H⟩⟩) h
variable{b:Bool}{j:Nat}
theorem ca.Q5{v:Value}(E:ops[i]? =some o)(C:o.guard=some (j,b))(V:ij ops ag j=some b)(u:jL N o.dst=true)(D:iR o.op=true)
    (O:bE P ag o I v) (h:ca r P N ops I T c Q (jU ag o.dst v) aP A):ca r P N ops I T ((i,false)::c) Q ag aP A:=
  ca.xK E u (λa d=>⟨D,.inl ⟨by simp[VN,C,d.yielded V],λw H=>by rw[d.eval];exact O w H⟩⟩) h
theorem ca.skip(C:ops[i]? =some o)(u:o.guard=some (j,!b))(E:ij ops ag j=some b)(d:jL N o.dst=true)(w:iR o.op=true)
    (h:ca r P N ops I T c Q (jU ag o.dst undef) aP A):ca r P N ops I T ((i,false)::c) Q ag aP A:=
  ca.xK C d (λa D=>⟨w,.inr ⟨by simp[VN,u,D.yielded E],rfl⟩⟩) h
theorem ca.split(t:Nat)(d:ag t=.bool b)(u:b=true->ca r P N ops I T c Q (hM ag t (.bool true)) aP A)(w:b=false->ca r P N ops I T c Q (hM ag t (.bool false)) aP A):ca r P N ops I T c Q ag aP A:=by cases b with|true=>have:=u rfl;rwa[sb d]at this|false=>have:=w rfl;rwa[sb d]at this
theorem ca.known(t:Nat){b':Bool}(u:ag t=.bool b)(d:b=b')(h:ca r P N ops I T c Q (hM ag t (.bool b')) aP A):ca r P N ops I T c Q ag aP A:=by subst d;rwa[sb u]at h
theorem ca.D2(aF:ops[i]? =some o)(Z:jL N o.dst=true)(hw:∀a,cd N a ag aP->VN o (yielded ops a.tmps)=true)
    (h:ck r P ag o A (λv bl=>(T.contains i=true\/aG bl I)/\((∀x∈c,x.2=true\/kF ops x.1=true)\/aG bl I)/\ca r P N ops I T c Q (jU ag o.dst v) aP bl)):ca r P N ops I T ((i,true)::c) Q ag aP A:=by
 intro a w listed d aL O a3 W aW aA aQ;simp only[pt,VQ,beq_iff_eq]at aQ;obtain⟨u,aQ⟩:=aQ;refine⟨λa0=>(by rw[a0]at u;cases u),λj D=>?_⟩;rw[u]at D;obtain rfl:j=i:=by simpa using D
 have aq:j∈V5 .any ops listed:=b2
 unfold wpOpIn;rw[aF];simp only[];rw[ax (hw a d)];refine Oper.yh ?_ (h a w d.eval aL);rintro a2 E ⟨v,bl,rfl,s,C,au,aw,ar⟩;have ao:=ar _ E (listed.setIfInBounds j true) (d.put Z v) C O (aw.elim .inr λh=>.inl (C.bg h)) (W.set aq) aW aA aQ;have ay:∀e a H,mj (dQ N E Q) e a H->mj (dQ N w Q) e a H:=by grind[vG]
 exact⟨λV _=>au.elim (λh=>absurd (by simpa using h) V) λh=>C.bg h,se ay c.length _ _ _ ao⟩
theorem ca.t6(w:ops[i]? =some o)(u:o.guard=none)(d:jL N o.dst=true)
    (h:ck r P ag o A (λv bl=>(T.contains i=true\/aG bl I)/\((∀x∈c,x.2=true\/kF ops x.1=true)\/aG bl I)/\ca r P N ops I T c Q (jU ag o.dst v) aP bl)):ca r P N ops I T ((i,true)::c) Q ag aP A:=
  ca.D2 w d (λ_ _=>by simp[VN,u]) h
theorem ca.Mi(w:ops[i]? =some o)(u:o.guard=some (j,b))(D:ij ops ag j=some b)(d:jL N o.dst=true)
    (h:ck r P ag o A (λv bl=>(T.contains i=true\/aG bl I)/\((∀x∈c,x.2=true\/kF ops x.1=true)\/aG bl I)/\ca r P N ops I T c Q (jU ag o.dst v) aP bl)):ca r P N ops I T ((i,true)::c) Q ag aP A:=
  ca.D2 w d (λa C=>by simp[VN,u,C.yielded D]) h
theorem ca.HB(C:ops[i]? =some o)(u:o.guard=some (j,b))(E:vn ops ag j=true)(d:jL N o.dst=true)(w:iR o.op=true)
    (h:ca r P N ops I T c Q (jU ag o.dst undef) aP A):ca r P N ops I T ((i,false)::c) Q ag aP A:=
  ca.xK C d (λa D=>⟨w,.inr ⟨by simp[VN,u,D.I3 E],rfl⟩⟩) h
theorem ca.Sr(au:ops[i]? =some o)(ao:o.guard=some (j,!b))(aA:ij ops ag j=some b)(Z:jL N o.dst=true)(D:(T.contains i=true/\∀x∈c,x.2=true)\/aG A I)
    (h:ca r P N ops I T c Q (jU ag o.dst undef) aP A):ca r P N ops I T ((i,true)::c) Q ag aP A:=by
 intro a w listed H u O aL W aw ar aQ;simp only[pt,VQ,beq_iff_eq]at aQ;obtain⟨d,aQ⟩:=aQ;refine⟨λaF=>(by rw[aF]at d;cases d),λC E=>?_⟩;rw[d]at E;obtain rfl:C=i:=by simpa using E
 have aq:C∈V5 .any ops listed:=b2
 unfold wpOpIn;rw[au];simp only[];rw[al (by simp[VN,ao,H.yielded aA])]
 exact⟨λf _=>vC r f,λV _=>D.elim (λh=>absurd (by simpa using h.1) V) λh=>u.bg h,
   h _ w (listed.setIfInBounds C true) (H.put Z undef) u O (D.elim (λh=>.inr λx ay=>.inl (h.2 x ay)) λh=>.inl (u.bg h)) (W.set aq) aw ar aQ⟩
section
variable {op : Op} {ty : TypeId} {ps : String} {bh : Array Edge} {t i : Nat} {v : Value} {j : Nat} {b : Bool}
theorem bY(w:ops[i]? =some ⟨some t,op,ty,ps,bh,none⟩)(u:iR op=true)(d:W7 t N=true)(C:bE P ag ⟨some t,op,ty,ps,bh,none⟩ I v)(h:ca r P N ops I T c Q (hM ag t v) aP A):ca r P N ops I T ((i,false)::c) Q ag aP A:=
  ca.q w rfl d u C h
theorem eH(w:ops[i]? =some ⟨some t,op,ty,ps,bh,some (j,b)⟩)(D:ij ops ag j=some b)(u:iR op=true)(d:W7 t N=true)(C:bE P ag ⟨some t,op,ty,ps,bh,some (j,b)⟩ I v)(h:ca r P N ops I T c Q (hM ag t v) aP A):ca r P N ops I T ((i,false)::c) Q ag aP A:=
  ca.Q5 w rfl D d u C h
theorem L3(w:ops[i]? =some ⟨some t,op,ty,ps,bh,some (j,b)⟩)(C:ij ops ag j=some (!b))(u:iR op=true)(d:W7 t N=true)(h:ca r P N ops I T c Q (hM ag t undef) aP A):ca r P N ops I T ((i,false)::c) Q ag aP A:=
  ca.skip (b:=!b) w cE C d u h
theorem dY(C:ops[i]? =some ⟨some t,op,ty,ps,bh,none⟩)(w:W7 t N=true)
    (h:ck r P ag ⟨some t,op,ty,ps,bh,none⟩ A (λv bl=>aG bl I/\ca r P N ops I T c Q (hM ag t v) aP bl)):ca r P N ops I T ((i,true)::c) Q ag aP A:=
  ca.t6 C rfl w (h.mono λ_ _ ⟨d,u⟩=>⟨.inr d,.inr d,u⟩)
theorem DU(w:ops[i]? =some ⟨none,op,ty,ps,bh,none⟩)
    (h:ck r P ag ⟨none,op,ty,ps,bh,none⟩ A (λ_ bl=>aG bl I/\ca r P N ops I T c Q ag aP bl)):ca r P N ops I T ((i,true)::c) Q ag aP A:=
  ca.t6 w rfl rfl (h.mono λ_ _ ⟨d,u⟩=>⟨.inr d,.inr d,u⟩)
theorem dl(u:T.contains i=true)(D:c.all (λx=>x.2||kF ops x.1)=true)(C:ops[i]? =some ⟨some t,op,ty,ps,bh,none⟩)(w:W7 t N=true)
    (h:ck r P ag ⟨some t,op,ty,ps,bh,none⟩ A (λv bl=>ca r P N ops I T c Q (hM ag t v) aP bl)):ca r P N ops I T ((i,true)::c) Q ag aP A:=
  ca.t6 C rfl w (h.mono λ_ _ d=>⟨.inl u,.inl (λx E=>by simpa using Xf.1 D x E),d⟩)
theorem L5(u:T.contains i=true)(C:c.all (λx=>x.2||kF ops x.1)=true)(w:ops[i]? =some ⟨none,op,ty,ps,bh,none⟩)
    (h:ck r P ag ⟨none,op,ty,ps,bh,none⟩ A (λ_ bl=>ca r P N ops I T c Q ag aP bl)):ca r P N ops I T ((i,true)::c) Q ag aP A:=
  ca.t6 w rfl rfl (h.mono λ_ _ d=>⟨.inl u,.inl (λx D=>by simpa using Xf.1 C x D),d⟩)
theorem LZ(C:ops[i]? =some ⟨some t,op,ty,ps,bh,some (j,b)⟩)(D:ij ops ag j=some b)(w:W7 t N=true)
    (h:ck r P ag ⟨some t,op,ty,ps,bh,some (j,b)⟩ A (λv bl=>aG bl I/\ca r P N ops I T c Q (hM ag t v) aP bl)):ca r P N ops I T ((i,true)::c) Q ag aP A:=
  ca.Mi C rfl D w (h.mono λ_ _ ⟨d,u⟩=>⟨.inr d,.inr d,u⟩)
theorem L4(w:ops[i]? =some ⟨some t,op,ty,ps,bh,some (j,b)⟩)(C:ij ops ag j=some (!b))(d:W7 t N=true)(u:aG A I)(h:ca r P N ops I T c Q (hM ag t undef) aP A):ca r P N ops I T ((i,true)::c) Q ag aP A:=
  ca.Sr (b:=!b) w cE C d (.inr u) h
end
theorem ab.draw{id:Nat}{l:List Oper}(I:ay)(T:List Nat)(c:List (Nat×Bool))(hm:P.follows .mixedOrders=true)(aQ:y8 l.toArray T c=true)(C:aG A I)
    (h:ca r P N l.toArray I T c Q ag aP A):ab r P N (.region id l.toArray true) Q ag aP A:=by
 intro a w ar d;simp only[y8,VQ,beq_iff_eq]at aQ;obtain⟨⟨⟨O,V⟩,W⟩,Z⟩:=aQ;have D:=h a {w with drawn:=w.drawn+1} (Array.replicate l.toArray.size false) ar d ⟨{w with drawn:=w.drawn+1},sat.bg (w:={w with drawn:=w.drawn+1}) d C⟩ (.inl (sat.bg (w:={w with drawn:=w.drawn+1}) d C)) (by intro j o H E;(have ao:j<l.toArray.size:=by grind);rw[Wl,Array.getElem?_replicate,ax ao]at E;cases E) O (λj o H=>Array.all_eq_true_iff_forall_mem.1 V o (Array.mem_of_getElem? H)) Z
 have aq:∀e a u,mj (dQ N {w with drawn:=w.drawn+1} Q) e a u->dQ N w Q e a u:=λe a u h=>
   CQ (vG (w0:=w) (w:={w with drawn:=w.drawn+1}) ⟨rfl,rfl,rfl,Nat.le_refl _⟩ h)
 rw[W]at D;exact wpIn_region_any hm (Co _ _ _ _ (se aq _ _ _ _ D))
end
end Go.QM
open Go.QM.aG renaming refl->VW
namespace Go.QM
open Go
def ld(P:Program)(f:FuncId):Bool:=match P.funcs[f]? with
  | some fn => fn.name != "runtime.NumGoroutine" && fn.body.isSome
  | none=>false
theorem zC{P:Program}{f:FuncId}(h:ld P f=true)(args:Array Value)(w:World):(callFunc f args).run P w=.ok (.enter f args) w:=by unfold ld at h;cases d:P.funcs[f]? with|none=>rw[d]at h;cases h|some fn=>rw[d]at h;simp only[VQ,bne_iff_ne,ne_eq]at h;obtain⟨C,u⟩:=h;(have u:fn.body.isNone=false:=by cases D:fn.body<;>simp_all);simp only[callFunc,VB,run_program,Vo,d];rw[al (by simpa using C),al (by simp[u])];rfl
def eF (P:Program) (f:FuncId) (args:List Value) (rd:ay->Prop) (pre:List ay) {Y:Type} (res:Y->Value) (φ:Y->Prop) (post:Y->List ay):Prop:=
  ld P f=true/\∀F,rd F->∀w,sat w (sep (ah pre) F)->
    CallsIn Fence.wide 0 P f args.toArray w (λe h1=>∃y,e=.returned (res y)/\φ y/\fw w h1/\sat h1 (sep (ah (post y)) F))
def ba:ay->Prop:=λ_=>True
def jR:List Value->Value
  | [v]=>v
  | vs=>.tuple vs.toArray
def iM(P:Program):List ResultVar->List Value->Env->ay->Prop
  | [],[],_,_=>True
  | .tmp t::rs,v::vs,ag,A=>ag t=v/\iM P rs vs ag A
  | .cell a ty::rs,v::vs,ag,A=>(∃b off,ag a=.pointer (some ⟨b,off,none⟩)/\∀w,sat w A->(loadVar ty ⟨b,off,none⟩).run P w=.ok v w)/\iM P rs vs ag A
  | _,_,_,_=>False
theorem ta{P:Program}{fn:Func}{rs:List ResultVar}{vs:List Value}{C:Env}{A:ay}{tmps:Array Value}{w:World}(O:fn.results=rs.toArray)(D:∀t,tmps.getD t undef=C t)(hs:sat w A)
    (h:iM P rs vs C A):(results fn tmps).run P w=.ok (jR vs) w:=by
 have key:∀(rs:List ResultVar) (vs:List Value),iM P rs vs C A->(rs.mapM (m:=Sem) fun
     | .tmp t=>pure (tmps.getD t undef)
     | .cell a t=>do loadVar t (<-asAddr (tmps.getD a undef))).run P w=.ok vs w:=by
   intro rs
   induction rs with
   | nil=>intro vs h;cases vs with|nil=>simp|cons v vs=>exact h.elim
   | cons x rs E=>
     intro vs h
     cases vs with
     | nil=>cases x<;>exact h.elim
     | cons v vs=>
       cases x with
       | tmp t=>obtain⟨d,u⟩:=h;simp only[List.mapM_cons,VB,VT,Vo,E vs u,D t,d]
       | cell a ty=>
         obtain⟨⟨b,off,d,H⟩,u⟩:=h
         have N:asAddr (.pointer (some ⟨b,off,none⟩))=pure ⟨b,off,none⟩:=rfl
         simp only[List.mapM_cons,VB,VT,Vo,E vs u,D a,d,N,H w hs]
 have:=key rs vs h;unfold results;rw[O,List.mapM_toArray];simp only[VB,Sem.run_map];refine Eq.trans (congrArg (λx=>Xp (Xp x _) _) this) ?_;simp only[Vo,VT];congr 1;cases vs with|nil=>simp[jR]|cons v vs=>cases vs<;>simp[jR]
def b4(P:Program)(rs:List ResultVar){Y:Type}(res:Y->Value)(φ:Y->Prop)(post:Y->List ay)(F:ay):fk
  | .ret,ag,aP,A|.normal,ag,aP,A=>aP=[]/\∃y vs,iM P rs vs ag A/\jR vs=res y/\φ y/\aG A (ah (post y++[F]))
  | _,_,_,_=>False
variable{F:ay}
theorem b4.i{P:Program}{rs:List ResultVar}{Y:Type}{res:Y->Value}{φ:Y->Prop}{post:Y->List ay}{d:Env}{A:ay}(y:Y)(vs:List Value)(u:iM P rs vs d A)(w:jR vs=res y)(C:φ y)
    (D:aG A (ah (post y++[F]))):b4 P rs res φ post F .ret d [] A:=⟨rfl,y,vs,u,w,C,D⟩
theorem b4.n{P:Program}{rs:List ResultVar}{Y:Type}{res:Y->Value}{φ:Y->Prop}{post:Y->List ay}{d:Env}{A:ay}(y:Y)(vs:List Value)(u:iM P rs vs d A)(w:jR vs=res y)(C:φ y)
    (D:aG A (ah (post y++[F]))):b4 P rs res φ post F .normal d [] A:=⟨rfl,y,vs,u,w,C,D⟩
def n6(l:List Value):Env:=λt=>l.getD t undef
theorem qX{l:List ay}:aG (ah (l++[F])) (sep (ah l) F):=(u6 l [F]).trans (dT (VW _) xR)
theorem r2{l:List ay}:aG (sep (ah l) F) (ah (l++[F])):=(dT (VW _) o1).trans (ol l [F])
theorem eF.intro{P:Program}{f:FuncId}{fn:Func}{c:Code}{N:Nat}{rs:List ResultVar}{args:List Value}{rd:ay->Prop}{pre:List ay}{Y:Type}{res:Y->Value}{φ:Y->Prop}{post:Y->List ay}
    (he:ld P f=true) (ag:P.funcs[f]? =some fn) (Z:fn.body=some c) (bB:fn.ntmps=N) (aA:Nat.ble args.length N=true) (V:fn.results=rs.toArray)
    (h:∀F,rd F->ab none P N c (b4 P rs res φ post F) (n6 args) [] (ah (pre++[F]))):eF P f args rd pre res φ post:=by
 refine⟨he,λF W w aq=>?_⟩;have ao:args.length<=N:=b2
 refine callsIn_of_wp ag Z trivial (wpIn_mono (h F W _ w ?_ (aq.bg r2)) ?_) rfl;refine⟨by simp[bB,ao],λt=>?_,rfl⟩;simp only[n6,Array.getD_eq_getD_getElem?,List.getD_eq_getElem?_getD,Array.getElem?_append];grind;rintro e au aF ⟨s,aL,aw,ar,d,u,C⟩;cases e with|ret=>obtain⟨D,y,vs,bN,E,H,O⟩:=C;exact⟨by rw[d.defers,D],_,ta V d.get u bN,y,by rw[E],H,s,u.bg (O.trans qX)⟩|normal=>obtain⟨D,y,vs,bN,E,H,O⟩:=C;exact⟨by rw[d.defers,D],_,ta V d.get u bN,y,by rw[E],H,s,u.bg (O.trans qX)⟩|_=>exact C.elim
theorem eF.bg{P:Program}{f:FuncId}{args:List Value}{rd E:ay->Prop}{pre D:List ay}{Y u:Type}{res:Y->Value}{φ:Y->Prop}{post:Y->List ay}{H:u->Value}{N:u->Prop}{C:u->List ay}
    (h:eF P f args rd pre res φ post) (aq:∀F,E F->rd F) (ao:aG (ah D) (ah pre)) (au:∀y,φ y->∃d,res y=H d/\N d/\aG (ah (post y)) (ah (C d))):eF P f args E D H N C:=
  ⟨h.1,λF ag w ar=>(h.2 F (aq F ag) w (ar.bg (dT ao (VW _)))).mono λe aF ⟨y,O,V,W,Z⟩=>by obtain⟨d,bN,aw,aA⟩:=au y V;exact⟨d,by rw[O,bN],aw,W,Z.bg (dT aA (VW _))⟩⟩
section
variable {r : Option Nat} {P : Program} {N : Nat} {ops : Array Oper} {l : List Oper} {Q : fk} {ag : Env} {aP : List Deferred} {A : ay} {K : Value → ay → Prop}
variable {d : Option Tmp} {ty : TypeId} {ps : String} {bh : Array Edge} {g : Option (Nat × Bool)}
def lT(ag:Env):List Operand->List Value
  | []=>[]
  | x::l=>bc ag x::lT ag l
theorem zF(d:Env)(l:List Operand):l.map (bc d)=lT d l:=by induction l with|nil=>rfl|cons x l u=>simp[lT,u]
theorem k5{f:FuncId}{C:Operand}{lb vs:List Value}{u:List Operand}{D:Array TypeId}{rd:ay->Prop}{pre hs rest:List ay}{Y:Type}{res:Y->Value}{φ:Y->Prop}{post:Y->List ay}
    (spec:eF P f (vs++lb) rd pre res φ post) (H:bc ag C=.func (.func f) #[] lb.toArray) (E:lT ag u=vs) (N:lI hs pre rest) (O:rd (ah rest)) (k:∀y,φ y->K (res y) (ah (post y++rest))):
    ck r P ag ⟨d,.call ⟨.value C,u.toArray,D⟩,ty,ps,bh,g⟩ (ah hs) K:=by intro a w he W;refine⟨λ_ _=>trivial,?_⟩;rw[r1 _ kk,he];have V:(execOp (bc ag) ⟨d,.call ⟨.value C,u.toArray,D⟩,ty,ps,bh,g⟩).run P w=.ok (.enter f (vs++lb).toArray) w:=(by simp[execOp,resolve,H,Deferred.ofValue,invoke,zF,E,zC spec.1]);rw[V];refine⟨vB r,?_⟩;have:=spec.2 (ah rest) O w (W.bg N);refine CallsIn.mono (show CallsIn (mO r) (0-1) P f (vs++lb).toArray w _ from this) ?_;rintro e aq ⟨y,rfl,ao,s,Z⟩;exact⟨res y,_,rfl,s,Z.bg (ol _ _),k y ao⟩
theorem aI{f:FuncId}{vs:List Value}{u:List Operand}{E:Array TypeId}{rd:ay->Prop}{pre hs rest:List ay}{Y:Type}{res:Y->Value}{φ:Y->Prop}{post:Y->List ay}
    (spec:eF P f vs rd pre res φ post) (w:lT ag u=vs) (C:lI hs pre rest) (D:rd (ah rest)) (k:∀y,φ y->K (res y) (ah (post y++rest))):
    ck r P ag ⟨d,.call ⟨.value (.func f),u.toArray,E⟩,ty,ps,bh,g⟩ (ah hs) K:=
  k5 (lb:=[]) (vs:=vs) (by simpa using spec) rfl w C D k
end
end Go.QM
namespace Go.QM
open Go
theorem nN{n:Int}(d:-9223372036854775808<=n)(u:n<=9223372036854775807):IntKind.i64.wrap n=n:=by grind[YJ,YK,Yn]
theorem q8{n:Int}(d:0<=n)(u:n<=4294967295):IntKind.u32.wrap n=n:=by grind[YJ,YK,Yn]
theorem yj{n:Int}(d:0<=n)(u:n<=18446744073709551615):IntKind.u64.wrap n=n:=by grind[YJ,YK,Yn]
theorem Kv(a b:Int):(a==b)=decide (a=b):=by rw[XP];simp
section
variable {r : Option Nat} {P : Program} {N : Nat} {ops : Array Oper} {l : List Oper} {Q : fk} {ag : Env} {aP : List Deferred} {A : ay} {K : Value → ay → Prop}
variable {d : Option Tmp} {ty : TypeId} {ps : String} {bh : Array Edge} {g : Option (Nat × Bool)}
variable {t t' : TypeId} {x y : Operand} {k : IntKind} {a b c : Int}
theorem add(u:bc ag x=.int k a)(w:bc ag y=.int k b)(hw:k.wrap (a+b)=c):bE P ag ⟨d,.binOp .add t x y t',ty,ps,bh,g⟩ A (.int k c):=
  λ_ _=>by simp[execOp,eqGuard,binOp,YH,u,w,hw]
theorem sub(u:bc ag x=.int k a)(w:bc ag y=.int k b)(hw:k.wrap (a-b)=c):bE P ag ⟨d,.binOp .sub t x y t',ty,ps,bh,g⟩ A (.int k c):=
  λ_ _=>by simp[execOp,eqGuard,binOp,YH,u,w,hw]
theorem mul(u:bc ag x=.int k a)(w:bc ag y=.int k b)(hw:k.wrap (a*b)=c):bE P ag ⟨d,.binOp .mul t x y t',ty,ps,bh,g⟩ A (.int k c):=
  λ_ _=>by simp[execOp,eqGuard,binOp,YH,u,w,hw]
theorem quo(w:bc ag x=.int k a)(C:bc ag y=.int k b)(u:b≠0)(hw:k.wrap (a.tdiv b)=c):bE P ag ⟨d,.binOp .quo t x y t',ty,ps,bh,g⟩ A (.int k c):=
  λ_ _=>by simp[execOp,eqGuard,binOp,Op.intDiv,w,C,hw,u]
theorem rem(w:bc ag x=.int k a)(C:bc ag y=.int k b)(u:b≠0)(hw:a.tmod b=c):bE P ag ⟨d,.binOp .rem t x y t',ty,ps,bh,g⟩ A (.int k c):=
  λ_ _=>by simp[execOp,eqGuard,binOp,Op.intDiv,w,C,hw,u]
theorem io(C:bc ag x=.int .i64 a)(D:bc ag y=.int .i64 b)(u:-9223372036854775808<=a+b)(w:a+b<=9223372036854775807):bE P ag ⟨d,.binOp .add t x y t',ty,ps,bh,g⟩ A (.int .i64 (a+b)):=add C D (nN u w)
theorem oo(C:bc ag x=.int .i64 a)(D:bc ag y=.int .i64 b)(u:-9223372036854775808<=a-b)(w:a-b<=9223372036854775807):bE P ag ⟨d,.binOp .sub t x y t',ty,ps,bh,g⟩ A (.int .i64 (a-b)):=sub C D (nN u w)
theorem oc(C:bc ag x=.int .i64 a)(D:bc ag y=.int .i64 b)(u:-9223372036854775808<=a*b)(w:a*b<=9223372036854775807):bE P ag ⟨d,.binOp .mul t x y t',ty,ps,bh,g⟩ A (.int .i64 (a*b)):=mul C D (nN u w)
theorem kn(w:bc ag x=.int .i64 a)(C:bc ag y=.int .i64 b)(u:0<=a)(N:0<b)(H:a<=9223372036854775807):bE P ag ⟨d,.binOp .quo t x y t',ty,ps,bh,g⟩ A (.int .i64 (a/b)):=
  quo w C U (by rw[Int.tdiv_eq_ediv_of_nonneg u];have D:0<=a/b:=Int.ediv_nonneg u U;have E:a/b<=a:=Int.ediv_le_self b u;exact nN U U)
theorem pY(w:bc ag x=.int k a)(C:bc ag y=.int k b)(u:0<=a)(D:0<b):bE P ag ⟨d,.binOp .rem t x y t',ty,ps,bh,g⟩ A (.int k (a %b)):=
  rem w C U (Int.tmod_eq_emod_of_nonneg u)
theorem lss(u:bc ag x=.int k a)(w:bc ag y=.int k b):bE P ag ⟨d,.binOp .lss t x y t',ty,ps,bh,g⟩ A (.bool (decide (a<b))):=
  λ_ _=>by simp[execOp,eqGuard,binOp,X5,u,w]
theorem leq(u:bc ag x=.int k a)(w:bc ag y=.int k b):bE P ag ⟨d,.binOp .leq t x y t',ty,ps,bh,g⟩ A (.bool (decide (a<=b))):=
  λ_ _=>by simp[execOp,eqGuard,binOp,X5,u,w]
theorem gtr(u:bc ag x=.int k a)(w:bc ag y=.int k b):bE P ag ⟨d,.binOp .gtr t x y t',ty,ps,bh,g⟩ A (.bool (decide (b<a))):=
  λ_ _=>by simp[execOp,eqGuard,binOp,X5,u,w]
theorem geq(u:bc ag x=.int k a)(w:bc ag y=.int k b):bE P ag ⟨d,.binOp .geq t x y t',ty,ps,bh,g⟩ A (.bool (decide (b<=a))):=
  λ_ _=>by simp[execOp,eqGuard,binOp,X5,u,w]
theorem wp(u:bc ag x=.int k a)(w:bc ag y=.int k b):bE P ag ⟨d,.binOp .eql t x y t',ty,ps,bh,g⟩ A (.bool (decide (a=b))):=
  λ_ _=>by simp[execOp,eqGuard,binOp,X5,u,w,Kv]
theorem uJ(u:bc ag x=.int k a)(w:bc ag y=.int k b):bE P ag ⟨d,.binOp .neq t x y t',ty,ps,bh,g⟩ A (.bool (decide (a≠b))):=
  λ_ _=>by
   have:(a !=b)=decide (a≠b):=by rw[XP];simp
   simp[execOp,eqGuard,binOp,X5,u,w,this]
theorem neg(u:bc ag x=.int k a)(hw:k.wrap (0-a)=c):bE P ag ⟨d,.unOp .neg t x,ty,ps,bh,g⟩ A (.int k c):=
  λ_ _=>by simp only[execOp,Op.unary,YH,u,hw];rfl
theorem xr{p:Prop}[Decidable p](u:bc ag x=.bool (decide p)):bE P ag ⟨d,.unOp .not t x,ty,ps,bh,g⟩ A (.bool (decide (¬p))):=
  λ_ _=>by simp[execOp,Op.unary,u]
theorem uM{b:Bool}(u:bc ag x=.bool b):bE P ag ⟨d,.unOp .not t x,ty,ps,bh,g⟩ A (.bool (!b)):=
  λ_ _=>by simp[execOp,Op.unary,u]
def sN(P:Program)(t:TypeId)(k:IntKind):Bool:=match P.underlying t with
  | some (.int wT)=>decide (wT=k)
  | _=>false
theorem EY{t:TypeId}{k:IntKind}(h:sN P t k=true)(w:World):(underlying t).run P w=.ok (.int k) w:=by unfold sN at h;cases hu:P.underlying t with|none=>rw[hu]at h;cases h|some u=>(rw[hu]at h;cases u<;>first|(cases h;done)|(have:=dz h;subst this;simp[underlying,hu]))
theorem conv(k u:IntKind)(C:sN P t k=true)(D:sN P t' u=true)(E:bc ag x=.int k a)(hw:u.wrap a=c):bE P ag ⟨d,.convert t t' x,ty,ps,bh,g⟩ A (.int u c):=
  λw _=>by simp[execOp,Go.convert,EY C,EY D,E,Conv.intToInt,hw]
def uX(P:Program)(t:TypeId):Bool:=match P.underlying t with
  | some (.pointer _)=>true
  | _=>false
theorem QZ{t:TypeId}(h:uX P t=true):∃e,P.underlying t=some (.pointer e):=by grind[uX]
theorem Ed{t:TypeId}(h:uX P t=true)(p:Option Addr)(w:World):(Op.equal t (.pointer p) (.pointer none)).run P w=.ok p.isNone w:=by obtain⟨e,he⟩:=QZ h;have key:∀d,(YP (d+1) t (.pointer p) (.pointer none)).run P w=.ok p.isNone w:=λd=>(by cases p<;>simp[YP,underlying,he]);exact key 9999
theorem D9{p:Option Addr}(u:uX P t=true)(C:bc ag x=.pointer p)(D:bc ag y=.pointer none):bE P ag ⟨d,.binOp .eql t x y t',ty,ps,bh,g⟩ A (.bool p.isNone):=by intro w _;unfold execOp;simp only[C,D,eqGuard,binOp,VB,VT,Vo,Ed u];trivial
theorem A7{p:Option Addr}(u:uX P t=true)(C:bc ag x=.pointer p)(D:bc ag y=.pointer none):bE P ag ⟨d,.binOp .neq t x y t',ty,ps,bh,g⟩ A (.bool p.isSome):=by intro w _;unfold execOp;simp only[C,D,eqGuard,binOp,VB,VT,Vo,Ed u];simp_all
def hd(P:Program)(t:TypeId)(E sz:Nat):Bool:=match P.underlying t with
  | some (.slice e)=>Nat.beq e E&&q2 P e sz
  | _=>false
theorem h0{t E sz:Nat}(h:hd P t E sz=true)(w:World):(underlying t).run P w=.ok (.slice E) w/\(Go.sizeOf E).run P w=.ok sz w:=by unfold hd at h;cases hu:P.underlying t with|none=>rw[hu]at h;cases h|some u=>rw[hu]at h;(cases u<;>first|(cases h;done)|(simp only[VQ]at h;have:=Nat.eq_of_beq_eq_true h.1;subst this;exact⟨by simp[underlying,hu],B2 h.2 w⟩))
variable(E sz:Nat){cap:Nat}
theorem Ao{u off n:Nat}{j:Int}{o:Nat}(N:hd P t E sz=true)(O:bc ag x=.slice (some ⟨u,off,none⟩) n cap)(V:bc ag y=.int .i64 j)(C:0<=j)(D:j<n)(H:off+j.toNat*sz=o):
    bE P ag ⟨d,.indexAddr t x y,ty,ps,bh,g⟩ A (.pointer (some ⟨u,o,none⟩)):=
  λw _=>by simp[execOp,Instr.indexAt,O,V,asIntOf,h0 N,C,D,iB,H]
def fF(ad:Option Addr)(o:Nat):Value:=.pointer (ad.map λp=>⟨p.block,p.off+o,none⟩)
theorem len{ad:Option Addr}{n:Nat}(u:hd P t E sz=true)(C:bc ag x=.slice ad n cap):
    bE P ag ⟨d,.call ⟨.builtin .len,#[x],#[t]⟩,ty,ps,bh,g⟩ A (.int .i64 n):=
  λw _=>by simp[execOp,resolve,invoke,builtin,Builtin.len_,C,h0 u,goInt]
def dL(ad:Option Addr)(cap j sz:Nat):Option Addr:=if cap=j then ad else ad.map (·.add (j*sz))
theorem HF{ad:Option Addr}{n:Nat}{j:Int}(D:hd P t E sz=true)(H:bc ag x=.slice ad n cap)(N:bc ag y=.int .i64 j)(u:0<=j)(C:j<=n):
    bE P ag ⟨d,.slice t x (some y) none none,ty,ps,bh,g⟩ A (.slice (dL ad cap j.toNat sz) (n-j.toNat) (cap-j.toNat)):=
  λw _=>by simp[execOp,YM,Instr.slice,X0,Wg,H,N,asIntOf,h0 D,u,C,dL]
theorem SB{ad:Option Addr}{n:Nat}{j:Int}(D:hd P t E sz=true)(H:bc ag x=.slice ad n cap)(N:bc ag y=.int .i64 j)(u:0<=j)(C:j<=cap):
    bE P ag ⟨d,.slice t x none (some y) none,ty,ps,bh,g⟩ A (.slice ad j.toNat cap):=
  λw _=>by
   have:(if cap=0 then ad else Option.map (λx=>x.add 0) ad)=ad:=by split<;>cases ad<;>simp[Addr.add]
   simp[execOp,YM,Instr.slice,X0,Wg,H,N,asIntOf,h0 D,u,C,this]
theorem xW{z:Operand}{ad:Option Addr}{n:Nat}{j i:Int}(V:hd P t E sz=true)(W:bc ag x=.slice ad n cap)(Z:bc ag y=.int .i64 i)(ao:bc ag z=.int .i64 j)(D:0<=i)(aq:i<=j)(H:j<=cap):
    bE P ag ⟨d,.slice t x (some y) (some z) none,ty,ps,bh,g⟩ A (.slice (dL ad cap i.toNat sz) (j.toNat-i.toNat) (cap-i.toNat)):=
  λw _=>by
   have O:0<=j:=U
   have ar:i.toNat<=j.toNat:=U
   have N:i<=(j.toNat:Int):=U
   have u:(Wg (.int .i64 j) cap .sliceAcap).run P w=.ok j.toNat w:=by simp[Wg,asIntOf,O,H]
   have C:(Wg (.int .i64 i) j.toNat .sliceB).run P w=.ok i.toNat w:=by simp only[Wg,asIntOf,VB,VT,Vo];rw[ax ⟨D,N⟩];rfl
   simp[execOp,YM,Instr.slice,X0,W,Z,ao,h0 V,u,C,dL]
end
end Go.QM
namespace Go.QM
open Go
def aZ(E sz:Nat)(ad:Option Addr)(n cap:Nat)(cs:List Value):ay:=match ad with
  | none=>pure' (n=0/\cap=0/\cs=[]) kz
  | some p=>fg λx:List Value×List Value=>
      pure' (p=⟨p.block,x.1.length,none⟩/\cs.length=n*sz/\n<=cap/\cap<=maxLen/\cap*sz<=cs.length+x.2.length) (aj p.block E (x.1++cs++x.2))
theorem dI(E sz:Nat)(hs:List ay):aG (ah hs) (ah (aZ E sz none 0 0 []::hs)):=
  (o1.trans nE).trans (dT (hR λ_ h=>⟨⟨rfl,rfl,rfl⟩,h⟩) (VW _))
def vJ(h:kv)(E:Nat)(ad:Option Addr)(cs:List Value):Prop:=
  cs=[]\/∃p pre SX lV,ad=some p/\p=⟨p.block,pre.length,none⟩/\h p.block=some (.cells (pre++cs++SX).toArray E lV)
def cQ(A:ay)(E:Nat)(ad:Option Addr)(cs:List Value):Prop:=∀h,A h->vJ h E ad cs
variable{E:Nat}{ad:Option Addr}{cs:List Value}
theorem vJ.sub{h d:kv}(x:vJ h E ad cs)(s:ll h d):vJ d E ad cs:=by rcases x with x|⟨p,pre,H,u,w,C,D⟩;exact .inl x;exact .inr ⟨p,pre,H,u,w,C,s _ _ D⟩
theorem yF(E sz:Nat)(ad:Option Addr)(n cap:Nat)(cs:List Value):cQ (aZ E sz ad n cap cs) E ad cs:=by intro h d;cases ad with|none=>exact .inl d.1.2.2|some p=>obtain⟨⟨pre,C⟩,⟨u,_⟩,w⟩:=d;exact .inr ⟨p,pre,C,(0,0),rfl,u,by rw[w];simp⟩
variable{A:ay}
theorem ph{B:ay}(x:cQ A E ad cs):cQ (sep A B) E ad cs:=by rintro h ⟨a,b,d,rfl,u,w⟩;exact(x a u).sub (qF a b)
theorem tD{B:ay}(x:cQ B E ad cs):cQ (sep A B) E ad cs:=by rintro h ⟨a,b,d,rfl,w,u⟩;exact(x b u).sub (uq d)
theorem vL{B:ay}(e:aG A B)(x:cQ B E ad cs):cQ A E ad cs:=λh a=>
  let⟨d,s,u⟩:=e h a;(x d u).sub s
theorem JU(x:cQ A E ad cs)(k:Nat):cQ A E ad (cs.take k):=λh a=>by
  rcases x h a with x|⟨p,pre,D,d,u,w,C⟩
  · exact .inl (by simp[x])
  · refine .inr ⟨p,pre,cs.drop k++D,d,u,w,?_⟩
    rw[C,VJ pre (cs.take k),<-VJ (cs.take k),V4,VJ]
variable{sz cap:Nat}
theorem CU(x:cQ A E ad cs){n j:Nat}(N:cs.length=n*sz)(H:j<=n)(P:n<=cap):cQ A E (dL ad cap j sz) (cs.drop (j*sz)):=λh a=>by
  by_cases D:cap=j
  · left
    have:n=j:=U
    subst this
    rw[List.drop_eq_nil_iff];omega
  · rcases x h a with x|⟨p,pre,O,d,u,w,C⟩
    · exact .inl (by simp[x])
    · have hle:j*sz<=cs.length:=by rw[N];exact VR _ H
      refine .inr ⟨⟨p.block,pre.length+j*sz,none⟩,pre++cs.take (j*sz),O,d,?_,?_,?_⟩
      · rw[u,w];simp[dL,D,iB]
      · simp[W9 hle]
      · rw[C,VJ pre (cs.take _),V4]
class bi(A:ay)(ad:Option Addr)(E:outParam Nat)(cs:outParam (List Value)):Prop where
  rd:cQ A E ad cs
instance (E sz:Nat)(ad:Option Addr)(n cap:Nat)(cs:List Value):bi (aZ E sz ad n cap cs) ad E cs:=⟨yF E sz ad n cap cs⟩
instance (A:ay)(l:List ay)(ad:Option Addr)(E:Nat)(cs:List Value)[h:bi (ah l) ad E cs]:bi (ah (A::l)) ad E cs:=⟨tD h.rd⟩
instance (A:ay)(l:List ay)(ad:Option Addr)(E:Nat)(cs:List Value)[h:bi A ad E cs]:bi (ah (A::l)) ad E cs:=⟨ph h.rd⟩
class pl(hs:List ay)(ad:Option Addr)(E sz n cap:outParam Nat)(cs:outParam (List Value))(r:outParam (List ay)):Prop where
  tk:∃i,eV i hs=some (aZ E sz ad n cap cs,r)
instance (ad:Option Addr)(E sz n cap:Nat)(cs:List Value)(r:List ay):pl (aZ E sz ad n cap cs::r) ad E sz n cap cs r:=⟨0,rfl⟩
instance (A:ay)(hs:List ay)(ad:Option Addr)(E sz n cap:Nat)(cs:List Value)(r:List ay)[h:pl hs ad E sz n cap cs r]:pl (A::hs) ad E sz n cap cs (A::r):=⟨by
  obtain⟨i,pL⟩:=h.tk
  exact⟨i+1,by simp[eV,pL]⟩⟩
theorem m5{n:Nat}{h:kv}(x:aZ E sz ad n cap cs h):cs.length=n*sz/\n<=cap/\cap<=maxLen/\(ad=none->n=0):=by cases ad with|none=>obtain⟨⟨rfl,rfl,rfl⟩,_⟩:=x;simp|some p=>obtain⟨⟨pre,C⟩,⟨_,d,u,w,_⟩,_⟩:=x;exact⟨d,u,w,λe=>by cases e⟩
theorem BT{n:Nat}{j:Nat}(D:j<=n):aG (aZ E sz ad n cap cs) (aZ E sz (dL ad cap j sz) (n-j) (cap-j) (cs.drop (j*sz))):=hR λh x=>by
  obtain⟨f1,f2,f3,_⟩:=m5 x
  cases ad with
  | none=>
    obtain⟨⟨rfl,rfl,rfl⟩,x⟩:=x
    obtain rfl:j=0:=by omega
    simp only[dL,if_true]
    exact⟨⟨by simp,by simp,by simp⟩,x⟩
  | some p=>
    obtain⟨⟨pre,w⟩,⟨d,N,O,P,C⟩,x⟩:=x
    have hle:j*sz<=cs.length:=by rw[f1];exact VR _ D
    by_cases u:cap=j
    · have H:n=j:=U
      subst u H
      simp only[dL,if_true,Nat.sub_self]
      refine⟨(pre,cs++w),⟨d,?_,Vi _,Nat.zero_le _,by simp⟩,?_⟩
      · simp only[W3];omega
      · have:cs.drop (n*sz)=[]:=by rw[List.drop_eq_nil_iff];omega
        rw[this];simpa using x
    · have:dL (some p) cap j sz=some ⟨p.block,pre.length+j*sz,none⟩:=by rw[d];simp[dL,u,iB]
      rw[this]
      refine⟨(pre++cs.take (j*sz),w),⟨?_,?_,by omega,by omega,?_⟩,?_⟩
      · simp[W9 hle]
      · simp only[W3,f1,Nat.sub_mul]
      · simp only[W3,Nat.sub_mul];simp only[]at C;omega
      · simp only[]
        rw[VJ pre,V4];exact x
theorem p1{n:Nat}{j:Nat}(C:j<=n):aG (aZ E sz ad n cap cs) (aZ E sz ad j cap (cs.take (j*sz))):=hR λh x=>by
  obtain⟨f1,f2,f3,_⟩:=m5 x
  have hle:j*sz<=cs.length:=by rw[f1];exact VR _ C
  cases ad with
  | none=>
    obtain⟨⟨rfl,rfl,rfl⟩,x⟩:=x
    obtain rfl:j=0:=by omega
    exact⟨⟨rfl,rfl,by simp⟩,x⟩
  | some p=>
    obtain⟨⟨pre,d⟩,⟨u,D,H,N,w⟩,x⟩:=x
    refine⟨(pre,cs.drop (j*sz)++d),⟨u,by simp[W9 hle],by omega,f3,?_⟩,?_⟩
    · simp only[]at w;simp;omega
    · simp only[]
      rw[show pre++List.take (j*sz) cs++(List.drop (j*sz) cs++d)=pre++cs++d by
        rw[VJ,<-VJ (List.take _ _),V4,VJ]]
      exact x
section
variable {r : Option Nat} {P : Program} {N : Nat} {ops : Array Oper} {l : List Oper} {Q : fk} {ag : Env} {aP : List Deferred} {A : ay} {K : Value → ay → Prop}
variable {d : Option Tmp} {ty : TypeId} {ps : String} {bh : Array Edge} {g : Option (Nat × Bool)}
variable {t t' : TypeId} {x y : Operand} {k : IntKind} {a b c : Int}
variable{ad:Option Addr}{cs:List Value}{E:Nat}
theorem cQ.sat(x:cQ A E ad cs){w:World}(h:QM.sat w A):
    cs=[]\/∃p pre u d,ad=some p/\p=⟨p.block,pre.length,none⟩/\w.heap[p.block]? =some (.cells (pre++cs++u).toArray E d):=by obtain⟨D,P,C⟩:=h;rcases x D C with x|⟨p,pre,u,d,H,N,O⟩;all_goals grind
theorem cQ.xq(x:cQ A E ad cs){w:World}(h:QM.sat w A)(ao:cs≠[]):∃p,ad=some p/\p.spot=none:=by rcases x.sat h with x|⟨p,pre,H,d,u,C,D⟩;all_goals grind
variable{vA cap:Nat}
theorem ht(E sz:Nat){n i:Nat}(N:hd P t E sz=true)(O:bc ag x=.slice ad n cap)(V:bc ag y=.int .i64 (i:Int))[hr:bi A ad vA cs](D:i<n)(u:0<cs.length):
    bE P ag ⟨d,.indexAddr t x y,ty,ps,bh,g⟩ A (fF ad (i*sz)):=λw H=>by
  obtain⟨p,rfl,C⟩:=hr.rd.xq H (by intro e;rw[e]at u;cases u)
  obtain⟨af,W,Z⟩:=p
  simp only at C;subst C
  simp[execOp,XF,O,V,asIntOf,h0 N,D,iB,fF]
theorem kI(E sz:Nat){n:Nat}{j:Int}(O:hd P t E sz=true)(V:bc ag x=.slice ad n cap)(W:bc ag y=.int .i64 j)[hr:bi A ad vA cs](D:0<=j)(H:j<n)(u:0<cs.length):
    bE P ag ⟨d,.indexAddr t x y,ty,ps,bh,g⟩ A (fF ad (j.toNat*sz)):=λw N=>by
  obtain⟨p,rfl,C⟩:=hr.rd.xq N (by intro e;rw[e]at u;cases u)
  obtain⟨af,Z,ao⟩:=p
  simp only at C;subst C
  simp[execOp,XF,V,W,asIntOf,h0 O,D,H,iB,fF]
theorem oL{s:TypeId}{x:Operand}{f:Nat}{u:Nat}(o:Nat)(H:wB P s f o=true)(N:bc ag x=fF ad u)[hr:bi A ad vA cs](C:0<cs.length):
    bE P ag ⟨d,.fieldAddr s x f,ty,ps,bh,g⟩ A (fF ad (u+o)):=λw E=>by
  obtain⟨p,rfl,D⟩:=hr.rd.xq E (by intro e;rw[e]at C;cases C)
  obtain⟨af,O,V⟩:=p
  simp only at D;subst D
  have:=(c1 (A:=A) (d:=d) (ty:=ty) (ps:=ps) (bh:=bh) (g:=g) o H (show bc ag x=.pointer (some ⟨af,O+u,none⟩)by rw[N];rfl)) w E
  rw[this];simp[fF,Nat.add_assoc]
theorem Va{x:Operand}{C:Nat}(E:bc ag x=fF ad C)[hr:bi A ad vA cs](u:0<cs.length):
    bE P ag ⟨d,.nilCheck x,ty,ps,bh,g⟩ A (fF ad C):=λw D=>by
  obtain⟨p,rfl,H⟩:=hr.rd.xq D (by intro e;rw[e]at u;cases u)
  simp[execOp,E,fF]
theorem dB{t:TypeId}{x:Operand}{o:Nat}{v:Value}(N:mA P t=true)(O:bc ag x=fF ad o)[hr:bi A ad E cs](hv:cs[o]? =some v):
    bE P ag ⟨d,.load t x,ty,ps,bh,g⟩ A v:=λw H=>by
  rcases hr.rd.sat H with h|⟨p,pre,ao,V,rfl,u,C⟩
  · rw[h]at hv;simp at hv
  · have D:o<cs.length:=(List.getElem?_eq_some_iff.1 hv).1
    obtain⟨af,W,Z⟩:=p
    simp only[Xo,true_and]at u
    obtain⟨rfl,rfl⟩:=u
    have:=AM (P:=P) (off:=pre.length+o) N C (v:=v) (by
      rw[VJ,Xs U,WF,Wh D];exact hv)
    simp[execOp,Instr.loadAt,O,fF,WJ,this]
theorem gH{t:TypeId}{x:Operand}{o:Nat}{vs:List Value}(n:Nat)(H:qq P t n=true)(N:bc ag x=fF ad o)[hr:bi A ad E cs](hv:(cs.drop o).take n=vs)(ao:vs.length=n)(V:0<n):
    bE P ag ⟨d,.load t x,ty,ps,bh,g⟩ A (.agg vs.toArray):=λw D=>by
  have hlen:o+n<=cs.length:=by
    rw[<-hv]at ao;simp only[List.length_take,W3]at ao;omega
  rcases hr.rd.sat D with h|⟨p,pre,aq,O,rfl,u,C⟩
  · rw[h]at hlen;simp at hlen;omega
  · obtain⟨af,W,Z⟩:=p
    simp only[Xo,true_and]at u
    obtain⟨rfl,rfl⟩:=u
    have:=AL (P:=P) (off:=pre.length+o) H C (vs:=vs) (by
      rw[VJ,XE,Wv U,WF,Vx,Yf U,WG rQ];exact hv) ao
    simp[execOp,Instr.loadAt,N,fF,WJ,this]
theorem ck.post{o:Oper}{so:Value->ay->Prop}(h:ck r P ag o A so)(O:∀v u,so v u->∃d,aG u d/\K v d):ck r P ag o A K:=
  λa w x y=>Oper.wpIn_mono (λ_ _ ⟨v,C,D,E,H,N⟩=>by obtain⟨d,e,k⟩:=O v C N;exact⟨v,d,D,E,H.bg e,k⟩) (h a w x y)
theorem ck.ex{o:Oper}{α:Type}{B:α->ay}{rest:List ay}(h:∀x,ck r P ag o (ah (B x::rest)) K):ck r P ag o (ah (fg B::rest)) K:=λa w he D=>by
  obtain⟨N,E,p,H,d,rfl,⟨z,u⟩,C⟩:=D
  exact h z a w he ⟨_,E,p,H,d,rfl,u,C⟩
theorem ck.pure{o:Oper}{p:Prop}{B:ay}{rest:List ay}(h:p->ck r P ag o (ah (B::rest)) K):ck r P ag o (ah (pure' p B::rest)) K:=λa w he D=>by
  obtain⟨O,E,H,N,d,rfl,⟨z,u⟩,C⟩:=D
  exact h z a w he ⟨_,E,H,N,d,rfl,u,C⟩
theorem eg{hs rest:List ay}{t:TypeId}{x y:Operand}{o sz D:Nat}{w vs:List Value}{v:Value}(n:Nat)(W:q2 P t n=true)(aq:bc ag x=fF ad o)(ar:bc ag y=v)
    (V:v.cells.toList=vs) (O:vs.all VO=true) (ao:WA vs.length n=true) (aw:0<n) [C:pl hs ad E sz D cap cs rest] (hlen:o+n<=cs.length) (H:dM o vs cs=w) (k:K undef (ah (aZ E sz ad D cap w::rest))):
    ck r P ag ⟨d,.store t x y,ty,ps,bh,g⟩ (ah hs) K:=by
 obtain⟨i,C⟩:=C.tk;have ao:=VC ao;refine ck.bg (fG C) (show ck r P ag _ (ah (aZ E sz ad D cap cs::rest)) K from ?_)
 cases ad with
 | none=>exact ck.pure λ⟨_,_,e⟩=>by rw[e]at hlen;simp at hlen;omega
 | some p=>
   refine ck.ex λ⟨pre,u⟩=>ck.pure λ⟨f1,f2,f3,f4,f5⟩=>?_
   obtain⟨af,aF,aL⟩:=p
   simp only[Xo,true_and]at f1 f5
   obtain⟨rfl,rfl⟩:=f1
   have Z:o+vs.length<=cs.length:=U
   have N:dM (pre.length+o) vs (pre++cs++u)=pre++w++u:=by
     subst H
     unfold dM
     rw[VJ pre cs u,List.take_append,VS U,WF,Nat.add_assoc,XE,Wv U,WF,Vx,
       WG U,Yf U]
     simp[VJ]
   refine ck.post (so:=λv A=>v=undef/\A=ah (aj af E (pre++w++u)::rest))
     (GH 0 (hs:=aj af E (pre++cs++u)::rest) (b:=af) (off:=pre.length+o) (by rw[aq];rfl) rfl ar V O W ao rQ N ⟨rfl,rfl⟩) ?_
   rintro v au ⟨rfl,rfl⟩
   refine⟨_,dT (hR λh x=>?_) (VW _),k⟩
   have aA:w.length=cs.length:=by rw[<-H];exact ve Z
   exact⟨(pre,u),⟨rfl,by omega,f3,f4,by simp only[];omega⟩,x⟩
end
end Go.QM
namespace Go.QM
open Go
def rx(P:Program)(E sz bytes:Nat):Bool:=match P.info? E with
  | some i=>WA i.size sz&&WA i.bytes bytes&&(match i.zero with|some z=>WA z.cells.size sz|none=>false)
  | none=>false
theorem t7{P:Program}{E sz bytes:Nat}(h:rx P E sz bytes=true):∃i z,P.info? E=some i/\i.zero=some z/\i.size=sz/\i.bytes=bytes/\z.cells.size=sz:=by unfold rx at h;cases w:P.info? E with|none=>rw[w]at h;cases h|some i=>rw[w]at h;simp only[VQ]at h;obtain⟨⟨C,D⟩,d⟩:=h;(cases u:i.zero with|none=>rw[u]at d;cases d|some z=>rw[u]at d;exact⟨i,z,rfl,u,VC C,VC D,VC d⟩)
section
variable {r : Option Nat} {P : Program} {N : Nat} {ops : Array Oper} {l : List Oper} {Q : fk} {ag : Env} {aP : List Deferred} {A : ay} {K : Value → ay → Prop}
variable {d : Option Tmp} {ty : TypeId} {ps : String} {bh : Array Edge} {g : Option (Nat × Bool)}
variable {t t' : TypeId} {x y : Operand} {k : IntKind} {a b c : Int}
theorem qB{w:World}{E:Nat}{ad:Option Addr}{cs:List Value}{m sz c:Nat}(h:cs=[]\/∃p pre C d,ad=some p/\p=⟨p.block,pre.length,none⟩/\w.heap[p.block]? =some (.cells (pre++cs++C).toArray E d))(hm:m*sz<=cs.length):
    (VG sz m (.slice ad m c)).run P w=.ok (cs.take (m*sz)).toArray w:=by by_cases D:m*sz=0;cases ad<;>simp[VG,D,loadCells,loadCellsFrom];rcases h with h|⟨p,pre,C,d,rfl,u,H⟩;simp_all;refine run_firstCells_some w sz m p m c _ (by simp[W9 hm]) (λj v N=>?_);obtain⟨af,O,V⟩:=p;simp only[Xo,true_and]at u;obtain⟨rfl,rfl⟩:=u;rw[iB,y9 H];grind
theorem ap{hs rest:List ay}{E sz n cap bj m V:Nat}{ad N:Option Addr}{cs Z news:List Value}(bytes:Nat)(aF:hd P t E sz=true)(aL:hd P t' E sz=true)(bS:rx P E sz bytes=true)
    (aP:bc ag x=.slice ad n cap) (aW:bc ag y=.slice N m V) [au:pl hs ad E sz n cap cs rest] [hr:bi (ah rest) N bj Z] (hm:m*sz<=Z.length) (ba:Z.take (m*sz)=news) (bo:news.all VO=true)
    (bt:(n+m)*bytes<=140737488355328) (b7:n+m<=maxLen) (k:∀a2 a3,K (.slice a2 (n+m) a3) (ah (aZ E sz a2 (n+m) a3 (cs++news)::rest))):
    ck r P ag ⟨d,.call ⟨.builtin .append,#[x,y],#[t,t']⟩,ty,ps,bh,g⟩ (ah hs) K:=by
 obtain⟨i,au⟩:=au.tk;obtain⟨inf,z,a8,cf,cl,bN,cg⟩:=t7 bS;refine ck.bg (fG au) (show ck r P ag _ (ah (aZ E sz ad n cap cs::rest)) K from ?_);have W:news.length=m*sz:=cm
 have a9:¬((n+m:Nat):Int)>IntKind.i64.max:=(by have:maxLen=9223372036854775807:=rfl;(have e:IntKind.i64.max=9223372036854775807:=by decide);omega);have ce:∀w,(Go.typeInfo E).run P w=.ok inf w:=λw=>by simp[typeInfo,a8]
 have ch:∀w,(Go.zeroValue E).run P w=.ok z w:=λw=>by simp[zeroValue,typeInfo,a8,cf]
 -- the grown slice
 have grow:∀(w:World),sat w (ah rest)->cap<n+m->cs.length=n*sz->(∀C:World,C.heap=w.heap->(VG sz n (.slice ad n cap)).run P C=.ok cs.toArray C)->
     ∃v C a0,((execOp (bc ag) ⟨d,.call ⟨.builtin .append,#[x,y],#[t,t']⟩,ty,ps,bh,g⟩).run P w=.ok (.value v) C\/((execOp (bc ag) ⟨d,.call ⟨.builtin .append,#[x,y],#[t,t']⟩,ty,ps,bh,g⟩).run P w=.ok .skip C/\v=undef))/\fw w C/\sat C a0/\K v a0:=by
   intro w D bZ a5 hold
   have O:(VG sz m (.slice N m V)).run P w.drew=.ok news.toArray w.drew:=by
     rw[<-ba];exact qB (hr.rd.sat (w:=w.drew) D) hm
   have bV:=hold w.drew rfl
   have cc:¬(Builtin.nextslicecap (n+m) cap*inf.bytes>2^48):=by
     have:=growslice_fits (need:=n+m) (old:=cap) (bytes:=inf.bytes) bZ (by rw[bN];exact bt)
     omega
   have b0:=grownCap_ge w (n+m) cap E
   have bR:=grownCap_le_maxLen w (n+m) cap E b7
   have ci:¬(((n+m:Nat):Int)>IntKind.i64.max/\(false=true\/inf.bytes=0)):=λ⟨h,_⟩=>a9 h
   refine⟨.slice (some ⟨w.heap.size,0,none⟩) (n+m) (grownCap w (n+m) cap E),w.drew.alloc (.cells (cs.toArray++news.toArray++VH z.cells (grownCap w (n+m) cap E-(n+m))) E),_,.inl ?_,⟨rfl,rfl,rfl,by simp⟩,?_,k _ _⟩
   · simp only[execOp,resolve,invoke,builtin,Ya,Xw,VF,W5,VB,VT,Vo,aP,aW,List.getElem?_toArray,XC,WI,h0 aF,h0 aL,XO,XX,if_false]
     rw[al U]
     simp only[VB,ce,Vo,false_or,al cc,VT,a9,false_and,if_false,run_choose,Question.forced,XX,run_askRoom,Bool.not_false,if_true]
     change Xp (Xp (Sem.run P (VG sz n (.slice ad n cap)) w.drew) _) _=_
     simp only[bV,O,ch,Vo,newRow,VB,run_newObj,VT]
     rfl
   · have cd:=o0 (.cells (cs.toArray++news.toArray++VH z.cells (grownCap w (n+m) cap E-(n+m))) E) (show sat w.drew (ah rest)from D)
     refine cd.bg (dT (hR λh ar=>?_) (VW _))
     refine⟨([],(VH z.cells (grownCap w (n+m) cap E-(n+m))).toList),⟨rfl,?_,b0,bR,?_⟩,?_⟩
     · simp[a5,W,V8]
     · simp only[mp,a5,W,Array.length_toList,size_zeroCells,cg,<-V8]
       exact VR _ U
     · simp only[aj]
       have e:([]++(cs++news)++(VH z.cells (grownCap w (n+m) cap E-(n+m))).toList).toArray=cs.toArray++news.toArray++VH z.cells (grownCap w (n+m) cap E-(n+m)):=by
         apply Array.ext';simp
       rw[e];exact ar
 cases ad with|none=>refine ck.pure λ⟨ao,aq,bl⟩=>ck.run rfl λw D=>?_;subst ao aq bl;have D:=D.bg r3;by_cases bn:m=0;subst bn;refine⟨.slice none 0 0,w,ah (aZ E sz none (0+0) 0 ([]++news)::rest),.inl ?_,fw.refl w,D.bg (dI E sz rest|>.trans ?_),by simpa using k none 0⟩;(have O:(VG sz 0 (.slice N 0 V)).run P w=.ok #[] w:=by cases N<;>simp[VG,loadCells,loadCellsFrom]);simp[execOp,resolve,invoke,builtin,Ya,aP,aW,h0 aF,h0 aL,XO,O];have:news=[]:=Xd (by simpa using W);subst this;exact VW _;exact grow w D U cE (λC _=>by simp[VG])|some p=>refine ck.ex λ⟨pre,H⟩=>ck.pure λ⟨f1,f2,f3,f4,f5⟩=>ck.run rfl λw D=>?_;obtain⟨af,cn,co⟩:=p;simp only[Xo,true_and]at f1 f5;obtain⟨rfl,rfl⟩:=f1;have a4:w.heap[af]? =some (.cells (pre++cs++H).toArray E (0,0)):=(iA (na af E _)).sat D;have bd:=D.bg r3;by_cases aw:n+m<=cap;have O:(VG sz m (.slice N m V)).run P w=.ok news.toArray w:=(by rw[<-ba];exact qB (hr.rd.sat bd) hm);have a7:pre.length+n*sz+news.length<=(pre++cs++H).length:=(by have:(n+m)*sz<=cap*sz:=VR _ aw;rw[V8]at this;simp only[mp];omega);have aA:=run_storeCells_at P af (pre.length+n*sz) E news 0 (pre++cs++H).toArray w a4 (by simpa using a7) (λu hu=>by simpa using List.all_eq_true.1 bo u hu);have ao:(List.take (pre.length+n*sz+0) (pre++cs++H)++news++List.drop (pre.length+n*sz+0+news.length) (pre++cs++H))=pre++(cs++news)++H.drop news.length:=(by(have aq:pre.length+n*sz+0=(pre++cs).length:=by simp[f2]);rw[aq,List.take_left,XE,Wv U];simp);dsimp only at aA;rw[ao]at aA;refine⟨.slice (some ⟨af,pre.length,none⟩) (n+m) cap,w.setRow af (pre++(cs++news)++H.drop news.length).toArray,ah (aZ E sz (some ⟨af,pre.length,none⟩) (n+m) cap (cs++news)::rest),.inl ?_,⟨rfl,rfl,rfl,by simp⟩,?_,k _ _⟩;simp only[execOp,resolve,invoke,builtin,Ya,Xw,VF,W5,VB,VT,Vo,aP,aW,List.getElem?_toArray,XC,WI,h0 aF,h0 aL,XO,XX,if_false];rw[ax aw];simp only[VB,Bool.not_false,if_true,O,Vo,iB,aA,VT];refine(xQ (l':=pre++(cs++news)++H.drop news.length) D).bg (dT (hR λh ar=>?_) (VW _));refine⟨(pre,H.drop news.length),⟨rfl,by simp[f2,W,V8],aw,f4,?_⟩,ar⟩;simp only[mp,W3];simp only[mp]at a7;omega;exact grow w bd U f2 (λC hw=>by(have bH:C.heap[af]? =some (.cells (pre++cs++H).toArray E (0,0)):=by rw[hw];exact a4);have:=qB (P:=P) (w:=C) (E:=E) (ad:=some ⟨af,pre.length,none⟩) (cs:=cs) (m:=n) (sz:=sz) (c:=cap) (.inr ⟨_,pre,H,(0,0),rfl,rfl,bH⟩) U;rw[VS U]at this;exact this)
def qy(ag:Env):List (Nat×Operand)->List (Nat×Value)
  | []=>[]
  | (i,x)::l=>(i,bc ag x)::qy ag l
theorem Ee(d:Env)(l:List (Nat×Operand)):l.map (λ(i,x)=>(i,bc d x))=qy d l:=by induction l with|nil=>rfl|cons x l u=>simp[qy,u]
theorem Hd(z:List Value):∀(n i:Nat),i<n*z.length->(VA n z).flatten[i]? =z[i %z.length]?
  | 0,i,h=>by simp at h
  | n+1,i,h=>by
   rw[List.replicate_succ,List.flatten_cons];have u:0<z.length:=by rcases Nat.eq_zero_or_pos z.length with e|e<;>first|exact e|(rw[e]at h;simp at h)
   by_cases d:i<z.length;rw[Wh d,Nat.mod_eq_of_lt d];have d:=Nat.le_of_not_lt d;rw[Xs d,Hd z n (i-z.length) (by rw[V8]at h;omega),Nat.mod_eq_sub_mod d]
theorem CF(z:Array Value)(n:Nat):(Array.range (n*z.size)).map (z[· %z.size]!)=(VA n z.toList).flatten.toArray:=by apply Array.ext';apply List.ext_getElem?;intro i;by_cases d:i<n*z.size;grind[Hd,Nat.mod_lt];simp_all
def Du (P:Program) (t len:Nat) (parts:List (Nat×Value)):Option (Nat×Nat×List Value):=match P.underlying t with
  | some (.slice e)=>match P.info? e with
    | some i=>
      match bif Nat.ble (len*i.size) 16777216 then i.zero else none with
      | some z=>match(bif WA z.cells.size i.size then Instr.fill (λj=>some (j*i.size,i.size)) (VA len z.cells.toList).flatten.toArray parts else none)with
        | some cells=>bif WA cells.toList.length (len*i.size)&&Nat.ble len maxLen then some (e,i.size,cells.toList)else none
        | none=>none
      | none=>none
    | none=>none
  | _=>none
theorem bs{hs:List ay}{t len E sz:Nat}{parts:List (Nat×Operand)}{cs:List Value}(C:Du P t len (qy ag parts)=some (E,sz,cs))
    (k:∀b,K (.slice (some ⟨b,0,none⟩) len len) (ah (aZ E sz (some ⟨b,0,none⟩) len len cs::hs))):ck r P ag ⟨d,.buildSlice t len parts.toArray,ty,ps,bh,g⟩ (ah hs) K:=by unfold Du at C;cases hu:P.underlying t with|none=>rw[hu]at C;cases C|some u=>rw[hu]at C;(cases u<;>first|(cases C;done)|skip);rename_i e;simp only[]at C;(cases V:P.info? e with|none=>rw[V]at C;cases C|some inf=>rw[V]at C;simp only[]at C;(cases Z:Nat.ble (len*inf.size) 16777216 with|false=>rw[Z]at C;cases C|true=>rw[Z,cond_true]at C;have aq:¬(len*inf.size>2^24):=(by have:=Nat.le_of_ble_eq_true Z;(have e:2^24=16777216:=by decide);omega);(cases ao:inf.zero with|none=>rw[ao]at C;cases C|some z=>rw[ao]at C;simp only[]at C;split at C;rename_i cells H;have N:(WA cells.toList.length (len*inf.size)&&Nat.ble len maxLen)=true:=(by cases N:(WA cells.toList.length (len*inf.size)&&Nat.ble len maxLen)with|false=>rw[N]at C;cases C|true=>rfl);rw[N]at C;simp only[cond_true,WQ,Prod.mk.injEq]at C;obtain⟨rfl,rfl,rfl⟩:=C;simp only[VQ]at N;obtain⟨aw,hm⟩:=N;have hlen:=VC aw;refine ck.run rfl λw aF=>⟨.slice (some ⟨w.heap.size,0,none⟩) len len,w.alloc (.cells cells e),_,.inl ?_,⟨rfl,rfl,rfl,by simp⟩,(o0 _ aF).bg (dT (hR λh au=>?_) (VW _)),k w.heap.size⟩;have D:WA z.cells.size inf.size=true:=(by cases ar:WA z.cells.size inf.size with|false=>rw[ar]at H;cases H|true=>rfl);rw[D,cond_true]at H;have D:=VC D;(have gj:∀w,(underlying t).run P w=.ok (.slice e) w:=λw=>by simp[underlying,hu]);(have aL:∀w,(X8 e).run P w=.ok inf.size w:=λw=>by simp[X8,typeInfo,V]);have aA:List.map (λx=>match x with|(i,x)=>(i,bc ag x)) parts=qy ag parts:=Ee ag parts;simp only[execOp,Instr.buildSlice,Xw,VB,gj,aL,Vo,aA];rw[al aq];(have aP:∀w,(zeroValue e).run P w=.ok z w:=λw=>by simp[zeroValue,typeInfo,V,ao]);by_cases O:len*inf.size=0;rw[ax O];have W:(Array.range (len*inf.size)).map ((#[]:Array Value)[· %(#[]:Array Value).size]!)=(VA len z.cells.toList).flatten.toArray:=(by rw[O];have:((VA len z.cells.toList).flatten)=[]:=Xd (by simp[D,O]);rw[this];apply Array.ext<;>simp);simp only[VB,Vo,VT,W,H,newRow,run_newObj];rfl;rw[al O];have W:=CF z.cells len;rw[D]at W;simp only[VB,Vo,VT,aP,D,W,H,newRow,run_newObj];rfl;refine⟨([],[]),⟨rfl,hlen,Vi _,by simpa using hm,by simp only[List.length_nil];omega⟩,?_⟩;simp only[aj,Vx,V9,Array.toArray_toList];exact au;cases C)))
theorem AZ{hs:List ay}{E n:Nat}{z:Value}(bytes:Nat)(N:hd P t E 1=true)(O:rx P E 1 bytes=true)(a0:lA P E=some z)(a2:z.cells=#[z])(ao:bc ag x=.int .i64 (n:Int))(aq:bc ag y=.int .i64 (n:Int))(aA:bytes*n<=281474976710656)(hm:n<=maxLen)
    (k:∀b,K (.slice (some ⟨b,0,none⟩) n n) (ah (aZ E 1 (some ⟨b,0,none⟩) n n (VA n z)::hs))):ck r P ag ⟨d,.makeSlice t x y,ty,ps,bh,g⟩ (ah hs) K:=by
 obtain⟨inf,u,H,ar,aW,aL,a3⟩:=t7 O;have aw:u=z:=by grind[lA]
 subst aw;have aP:maxLen=9223372036854775807:=rfl;have hw:IntKind.i64.wrap (n:Int)=n:=by grind[nN]
 have D:((Array.range n).map ((if n=0 then #[]else u.cells)[· %(if n=0 then(#[]:Array Value)else u.cells).size]!))=(VA n u).toArray:=cm;have aF:((inf.bytes:Int)*(n:Int))<=281474976710656:=cm;have Z:(decide ((n:Int)<0)||decide ((inf.bytes:Int)*(n:Int)>2^48))=false:=b2;refine ck.run rfl λw W=>⟨.slice (some ⟨w.heap.size,0,none⟩) n n,w.alloc (.cells (VA n u).toArray E),_,.inl ?_,⟨rfl,rfl,rfl,by simp⟩,(o0 _ W).bg (dT (hR λh V=>?_) (VW _)),k w.heap.size⟩;have au:∀w,(zeroValue E).run P w=.ok u w:=λw=>by simp[zeroValue,typeInfo,H,ar]
 simp only[execOp,Instr.makeSlice,VB,h0 N,Vo,ao,aq,asInt,asIntOf,VT,typeInfo,run_program,H,hw,Z];rw[al cE];simp only[VB,run_askRoom,h0 N,Vo,Int.toNat_natCast,Nat.mul_one];by_cases C:n=0;rw[ax C];simp only[ax C]at D;simp only[VB,Vo,VT,D,newRow,run_newObj];trivial;rw[al C];simp only[al C]at D;simp only[VB,Vo,VT,au,D,newRow,run_newObj];trivial;refine⟨([],[]),⟨rfl,by simp,Vi _,hm,by simp⟩,?_⟩;simp only[aj,Vx,V9];exact V
def rV (P:Program):List Field->Option (List (Nat×Nat))
  | []=>some []
  | f::pJ=>match P.info? f.type,rV P pJ with
    | some i,some r=>some ((f.offset,i.size)::r)
    | _,_=>none
theorem GU:∀{d:List Field} {r:List (Nat×Nat)},rV P d=some r->∀w,(d.mapM (m:=Sem) λf=>do pure (f.offset,<-X8 f.type)).run P w=.ok r w
  | [],_,h,w=>by simp only[rV,WQ]at h;subst h;simp
  | f::d,r,h,w=>by simp only[rV]at h;cases u:P.info? f.type with|none=>rw[u]at h;cases h|some i=>(cases C:rV P d with|none=>rw[u,C]at h;cases h|some E=>rw[u,C]at h;simp only[WQ]at h;subst h;(have D:(X8 f.type).run P w=.ok i.size w:=by simp[X8,typeInfo,u]);simp only[List.mapM_cons,VB,VT,D,Vo,GU C w])
def Dq (P:Program) (t:TypeId) (parts:List (Nat×Value)):Option (List Value):=match P.underlying t,lA P t with
  | some (.struct pJ),some z=>match rV P pJ.toList with
    | some r=>(Instr.fill (r[·]?) z.cells parts).map (·.toList)
    | none=>none
  | _,_=>none
theorem eh{parts:List (Nat×Operand)}{cs:List Value}(C:Dq P t (qy ag parts)=some cs):bE P ag ⟨d,.build t parts.toArray,ty,ps,bh,g⟩ A (.agg cs.toArray):=by intro w _;unfold Dq at C;cases hu:P.underlying t with|none=>rw[hu]at C;cases C|some u=>(cases H:lA P t with|none=>rw[hu,H]at C;cases u<;>cases C|some z=>rw[hu,H]at C;(cases u<;>first|(cases C;done)|skip);rename_i D;simp only[]at C;(cases E:rV P D.toList with|none=>rw[E]at C;cases C|some N=>rw[E]at C;simp only[Option.map_eq_some_iff]at C;obtain⟨cells,O,rfl⟩:=C;(have gj:(underlying t).run P w=.ok (.struct D) w:=by simp[underlying,hu]);have hm:(D.mapM (m:=Sem) λf=>do pure (f.offset,<-X8 f.type)).run P w=.ok N.toArray w:=(by(have e:D=D.toList.toArray:=by simp);rw[e,List.mapM_toArray];simp only[Sem.run_map];have:=GU E w;exact(congrArg (λx=>Xp x _) this));have W:List.map (λx=>match x with|(i,x)=>(i,bc ag x)) parts=qy ag parts:=Ee ag parts;(have V:Instr.fill (λx=>N.toArray[x]?) z.cells (qy ag parts)=some cells:=by simpa using O);simp only[execOp,Instr.build,Xw,W,VB,vw H,Vo,gj,hm,V,VT,Array.toArray_toList]))
theorem uE{fn:Fn}{u cs:List Operand}{tm m7:List Value}(D:lT ag u=tm)(C:lT ag cs=m7):bE P ag ⟨d,.makeFunc fn u.toArray cs.toArray,ty,ps,bh,g⟩ A (.func fn tm.toArray m7.toArray):=by intro w _;simp[execOp,Instr.makeFunc,zF,D,C]
end
end Go.QM
namespace Go.QM
open Go
def rl (P:Program) (l:Nat) (args:List Value) (A:ay) (R:Bool->ay->Prop):Prop:=
  ∀ w,sat w A->∃fn tmps assign body,(Instr.yield l args.toArray).run P w=.ok (.round l fn tmps assign body) w/\
    RoundIn YC 0 P l fn tmps assign body w (λe h1=>∃b bl,e=.returned (.bool b)/\fw w h1/\sat h1 bl/\R b bl)
def pc (P:Program) (ui:FuncId) (lb:List Value) {α:Type} (zA:α->List Value) (ok:List α->α->Prop) (pre:List ay) {Y:Type} (xs:Y->List α) (φ:Y->Prop) (post:Y->List ay):Prop:=
  ld P ui=true/\∀(l:Nat) (bL:List α->ay),
    (∀y2 x G,ok y2 x->rl P l (zA x) (sep (bL y2) G) (λb bl=>b=true/\bl=sep (bL (y2++[x])) G))->
    ∀ w,sat w (sep (ah pre) (bL []))->
      CallsIn YC 0 P ui (Yc (.yield l) #[] #[]::lb).toArray w (λe h1=>∃v y,e=.returned v/\φ y/\fw w h1/\sat h1 (sep (ah (post y)) (bL (xs y))))
section
variable {r : Option Nat} {P : Program} {N : Nat} {ops : Array Oper} {Q : fk} {ag : Env} {aP : List Deferred} {A : ay} {K : Value → ay → Prop}
variable {d : Option Tmp} {ty : TypeId} {ps : String} {bh : Array Edge} {g : Option (Nat × Bool)}
theorem yp{C:Operand}{l:Nat}{vs:List Value}{u:List Operand}{D:Array TypeId}(i:Nat){hs rest:List ay}{B:ay}{R:Bool->ay->Prop}(E:rl P l vs (sep B (ah rest)) R)
    (W:bc ag C=.func (.yield l) #[] #[]) (V:lT ag u=vs) (H:eV i hs=some (B,rest)) (k:∀b bl,R b bl->K (.bool b) bl):
    ck r P ag ⟨d,.call ⟨.value C,u.toArray,D⟩,ty,ps,bh,g⟩ (ah hs) K:=by intro a w he O;refine⟨λ_ _=>trivial,?_⟩;rw[r1 _ kk,he];obtain⟨fn,tmps,assign,body,Z,aN⟩:=E w (O.bg (fG H));have N:(execOp (bc ag) ⟨d,.call ⟨.value C,u.toArray,D⟩,ty,ps,bh,g⟩).run P w=.ok (.round l fn tmps assign body) w:=(by grind[execOp,resolve,Deferred.ofValue,invoke,zF]);rw[N];refine⟨vB r,?_⟩;refine RoundIn.mono (show RoundIn (mO r) (0-1) P l fn tmps assign body w _ from aN) ?_;grind
def JW{α Y:Type}(bL:List α->ay)(xs:Y->List α)(φ:Y->Prop)(post:Y->List ay):fk
  | .ret,_,aP,A|.normal,_,aP,A=>aP=[]/\∃y,φ y/\aG A (ah (bL (xs y)::post y))
  | _,_,_,_=>False
theorem pc.intro{u:FuncId}{lb:List Value}{α:Type}{O:α->List Value}{ok:List α->α->Prop}{pre:List ay}{Y:Type}{xs:Y->List α}{φ:Y->Prop}{post:Y->List ay}{fn:Func}{c:Code}
    (he:ld P u=true) (au:P.funcs[u]? =some fn) (ar:fn.body=some c) (bB:fn.ntmps=N) (aP:Nat.ble (lb.length+1) N=true) (aA:fn.results=#[])
    (h:∀(l:Nat) (bL:List α->ay),(∀d x G,ok d x->rl P l (O x) (sep (bL d) G) (λb bl=>b=true/\bl=sep (bL (d++[x])) G))->
      ab none P N c (JW bL xs φ post) (n6 (Yc (.yield l) #[] #[]::lb)) [] (ah (bL []::pre))):pc P u lb O ok pre xs φ post:=by
 refine⟨he,λl bL aq w aF=>?_⟩;have aw:lb.length+1<=N:=b2
 refine callsIn_of_wp au ar trivial (wpIn_mono (h l bL aq _ w ?_ (aF.bg nE)) ?_) rfl;refine⟨by simp[bB,aw],λt=>?_,rfl⟩;simp only[n6,Wl,Vu,XJ];grind;rintro e ao ag ⟨s,aW,aL,bl,V,W,C⟩;have Z:(results fn ao.tmps).run P ag=.ok (.tuple #[]) ag:=by simp[results,aA]
 cases e with|ret=>obtain⟨D,y,E,H⟩:=C;exact⟨by rw[V.defers,D],_,Z,_,y,rfl,E,s,W.bg (H.trans nE)⟩|normal=>obtain⟨D,y,E,H⟩:=C;exact⟨by rw[V.defers,D],_,Z,_,y,rfl,E,s,W.bg (H.trans nE)⟩|_=>exact C.elim
def sa(ag:Env):List Nat->List Value->Env
  | p::ps,v::vs=>sa (hM ag p v) ps vs
  | _,_=>ag
theorem cd.zip{a:Act}:∀(ps:List Nat) (vs:List Value) {ag:Env} {tmps:Array Value},cd N ⟨tmps,[]⟩ ag []->ps.all (λp=>W7 p N)=true->
    cd N ⟨(ps.zip vs).foldl (λt (x:Nat×Value)=>t.setIfInBounds x.1 x.2) tmps,[]⟩ (sa ag ps vs) []
  | [],_,_,_,h,_=>h
  | _::_,[],_,_,h,_=>h
  | p::ps,v::vs,ag,tmps,h,bB=>by simp only[List.all_cons,Bool.and_eq_true]at bB;simp only[List.zip_cons_cons,List.foldl_cons,sa];exact cd.zip (a:=a) ps vs (cd.put (d:=some p) h bB.1 v) bB.2
theorem qW{w:World}{A:ay}{b:Nat}{o:Obj}(d:Obj)(h:sat w (sep (obj b o) A)):sat (w.putObj b d) (sep (obj b d) A):=by have u:w.heap[b]? =some o:=(iA (iL b o)).sat h;grind[u4,World.putObj_heap_same,World.putObj_heap_other]
theorem pi(w:World)(b:Nat)(o:Obj):fw w (w.putObj b o):=⟨rfl,rfl,rfl,by simp⟩
theorem ab.BB{α Y:Type}{V:FuncId}{lb:List Value}{go:Operand}{C:List Nat}{assign body:Code}{hs pre ef rest:List ay}{u:α->List Value}{ok:List α->α->Prop}{xs:Y->List α}{φ:Y->Prop}{post:Y->List ay}
    (bL:List α->List ay) (iter:pc P V lb u ok pre xs φ post) (bS:bc ag go=.func (.func V) #[] lb.toArray) (cc:lI hs pre ef) (gD:lI ef (bL []) rest)
    (hlen:∀x,(u x).length=C.length) (ce:C.all (λp=>W7 p N)=true)
    (bo:∀(l:Nat) d x F,ok d x->ab (some l) P N assign (pk (λcA ba a9=>ba=[]/\aG a9 (ah (bL d++[F]))/\
      ∀aA,ab (some l) P N body (λe _ aF aw=>e=.normal/\aF=[]/\aG aw (ah (bL (d++[x])++[aA]))) cA [] (ah (bL d++[aA]))) (λ_ _ _ _=>False)) (sa ag C (u x)) [] (ah (bL d++[F])))
    (k:∀D y,φ y->Q .normal ag ({target:=.collected D,args:=#[]}::aP) (ah (post y++(bL (xs y)++(obj D (.deferred (some []))::rest))))):
    ab none P N (.rangeFunc go C.toArray assign body) Q ag aP (ah hs):=by
 intro a w E cJ;refine wpIn_rangeFunc ?_;intro fn _;obtain⟨rec,H⟩:∃rec:LoopState->Loop,rec=λst=>{state:=st,pending:=none,fn,tmps:=a.tmps,params:=C.toArray,assign,body,defers:=w.heap.size}:=⟨_,rfl⟩;obtain⟨dr,aW⟩:∃dr,(w.alloc (.deferred (some []))).alloc (.loop (rec .ready))=dr:=⟨_,rfl⟩;obtain⟨D,aM⟩:∃D,w.heap.size=D:=⟨_,rfl⟩;have ct:sat dr (sep (obj (D+1) (.loop (rec .ready))) (sep (obj D (.deferred (some []))) (ah hs))):=(by grind[o0,Yp]);have cu:fw w dr:=by rw[<-aW];exact⟨rfl,rfl,rfl,by simp only[Yp];omega⟩
 let R:ay:=sep (obj D (.deferred (some []))) (ah rest);let O:List α->ay:=λd=>sep (ah (bL d)) (sep (obj (D+1) (.loop (rec .ready))) R);refine⟨D+1,[{target:=.collected D,args:=#[]}],dr,{target:=.fn (.func V) lb.toArray,args:=#[.func (.yield (D+1)) #[] #[]]},dr,V,(Yc (.yield (D+1)) #[] #[]::lb).toArray,dr,?_,?_,λ_ _=>trivial,?_,vB none,?_⟩;rw[<-aW,H,<-aM];exact run_enterLoop_outer _ _ _ _ _;have:a.eval go=.func (.func V) #[] lb.toArray:=by rw[E.eval];exact bS
 simp only[resolve,this,Deferred.ofValue];simp[Act.eval];simp[invoke,zC iter.1]
 have cl:∀d x G,ok d x->rl P (D+1) (u x) (sep (O d) G) (λb a8=>b=true/\a8=sep (O (d++[x])) G):=by
  intro d x G b7 cI a7;have bZ:cI.heap[D+1]? =some (.loop (rec .ready)):=(iA (vM (iA (iL _ _)))).sat a7;have au:=run_yield (P:=P) (args:=(u x).toArray) bZ (by rw[H];simp[hlen]);refine⟨_,_,_,_,au,roundIn_of_wpIn trivial ?_⟩;have bR:(((rec .ready).params.zip (u x).toArray).foldl (λtmps (x:Nat×Value)=>tmps.setIfInBounds x.1 x.2) (rec .ready).tmps)=(C.zip (u x)).foldl (λt (x:Nat×Value)=>t.setIfInBounds x.1 x.2) a.tmps:=b2;have ck:cd N ⟨((rec .ready).params.zip (u x).toArray).foldl (λtmps (x:Nat×Value)=>tmps.setIfInBounds x.1 x.2) (rec .ready).tmps,[]⟩ (sa ag C (u x)) []:=(by rw[bR];exact cd.zip (a:=a) C (u x) ⟨E.size,E.get,rfl⟩ ce)
  have bd:aG (sep (O d) G) (ah (bL d++[sep (obj (D+1) (.loop (rec .ready))) (sep R G)])):=
    pZ.trans ((dT (VW _) pZ).trans r2)
  have bj:=bo (D+1) d x (sep (obj (D+1) (.loop (rec .ready))) (sep R G)) b7 _ cI ck (a7.bg bd);have bi:(rec .ready).assign=assign:=b2
  have bn:(rec .ready).body=body:=b2
  rw[bi,bn];refine wpIn_mono (show assign.wpIn (Fence.wide.inRound (D+1)) 0 P _ _ cI from bj) ?_;rintro e a2 ao ⟨s2,cM,aF,aw,ch,ar,a3⟩;cases e with|normal=>obtain⟨rfl,bH,bV⟩:=a3;have aL:∀st (d:List α),aG (ah (bL d++[sep (obj (D+1) (.loop (rec st))) (sep R G)])) (sep (obj (D+1) (.loop (rec st))) (sep (ah (bL d)) (sep R G))):=λst d=>qX.trans jC;have bh:∀st (d:List α),aG (sep (obj (D+1) (.loop (rec st))) (sep (ah (bL d)) (sep R G))) (ah (bL d++[sep (obj (D+1) (.loop (rec st))) (sep R G)])):=λst d=>jC.trans r2;have Z:=(ar.bg bH).bg (aL .ready d);have aq:ao.heap[D+1]? =some (.loop (rec .ready)):=(iA (iL _ _)).sat Z;have a0:=run_beginRound (P:=P) aq (by rw[H]);(have bt:({rec .ready with state:=.busy}:Loop)=rec .busy:=by rw[H]);rw[bt]at a0;refine⟨_,a0,?_⟩;have cn:=(qW (.loop (rec .busy)) Z).bg (bh .busy d);have bl:=bV (sep (obj (D+1) (.loop (rec .busy))) (sep R G)) a2 _ ch cn;refine wpIn_mono (show body.wpIn (Fence.wide.inRound (D+1)) 0 P _ _ _ from bl) ?_;rintro e a5 cy ⟨cx,cN,cD,cB,cF,co,cg⟩;obtain⟨rfl,rfl,bN⟩:=cg;have a4:=(co.bg bN).bg (aL .busy (d++[x]));have b0:cy.heap[D+1]? =some (.loop (rec .busy)):=(iA (iL _ _)).sat a4;have W:=run_endRound (P:=P) none b0;(have ci:({rec .busy with state:=if(none:Option Code).isNone then .ready else .done,pending:=none}:Loop)=rec .ready:=by rw[H];rfl);rw[ci]at W;refine⟨_,_,W,true,_,rfl,(s2.trans (pi _ _ _)).trans (cx.trans (pi _ _ _)),?_,rfl,rfl⟩;have cr:=qW (.loop (rec .ready)) a4;exact cr.bg (jC.trans ((dT (VW _) nD).trans nD))|_=>exact a3.elim
 have cw:sat dr (sep (ah pre) (O [])):=(by refine ct.bg ?_;have eB:aG (ah hs) (sep (ah pre) (sep (ah (bL [])) (ah rest))):=cc.trans (dT (VW _) gD);refine(dT (VW _) (dT (VW _) eB)).trans ?_;refine(dT (VW _) jC).trans (jC.trans (dT (VW _) ?_));exact(dT (VW _) jC).trans jC);refine CallsIn.mono (iter.2 (D+1) O cl dr cw) ?_;rintro e ao ⟨v,y,rfl,au,s2,ar⟩
 have Z:sat ao (sep (obj (D+1) (.loop (rec .ready))) (sep (ah (post y)) (sep (ah (bL (xs y))) R))):=
   ar.bg ((dT (VW _) jC).trans jC)
 have aq:ao.heap[D+1]? =some (.loop (rec .ready)):=(iA (iL _ _)).sat Z;have W:=run_endLoop (P:=P) aq (by rw[H];simp);have cf:(rec .ready).pending=none:=b2
 rw[cf]at W;refine⟨none,_,W,(cu.trans s2).trans (pi _ _ _),ag,_,_,⟨E.size,E.get,by rw[<-E.defers];rfl⟩,?_,k D y au⟩;refine((qW _ Z).bg r3).bg ?_;exact(dT (VW _) (ol (bL (xs y)) (obj D (.deferred (some []))::rest))).trans (ol _ _)
def yH(P:Program)(rs:List ResultVar){Y:Type}(res:Y->Value)(φ:Y->Prop)(post:Y->List ay)(F:ay):fk
  | .ret,ag,aP,A|.normal,ag,aP,A=>∃y vs D,aP=[{target:=.collected D,args:=#[]}]/\rs.all (λx=>match x with|.tmp _=>true|_=>false)=true/\iM P rs vs ag A/\jR vs=res y/\φ y/\aG A (ah (obj D (.deferred (some []))::(post y++[F])))
  | _,_,_,_=>False
theorem CW:∀{rs:List ResultVar} {vs:List Value} {A B:ay},rs.all (λx=>match x with|.tmp _=>true|_=>false)=true->iM P rs vs ag A->iM P rs vs ag B
  | [],[],_,_,_,_=>trivial
  | .tmp t::rs,v::vs,_,_,h,x=>⟨x.1,CW (by simpa using h) x.2⟩
  | [],_::_,_,_,_,x=>x.elim
  | .tmp _::_,[],_,_,_,x=>x.elim
  | .cell _ _::_,_,_,_,h,_=>by simp at h
theorem eF.E0{f:FuncId}{fn:Func}{c:Code}{rs:List ResultVar}{args:List Value}{rd:ay->Prop}{pre:List ay}{Y:Type}{res:Y->Value}{φ:Y->Prop}{post:Y->List ay}
    (he:ld P f=true) (aW:P.funcs[f]? =some fn) (aL:fn.body=some c) (bB:fn.ntmps=N) (a5:Nat.ble args.length N=true) (ar:fn.results=rs.toArray)
    (h:∀F,rd F->ab none P N c (λe ag aP A=>yH P rs res φ post F e ag aP A\/b4 P rs res φ post F e ag aP A) (n6 args) [] (ah (pre++[F]))):eF P f args rd pre res φ post:=by
 refine⟨he,λF aF w a3=>?_⟩;have a0:args.length<=N:=b2
 have key:∀(e:Exit) (O:Act) (d:World) E C u,fw w d->cd N O E C->sat d u->(e=.ret\/e=.normal)->(yH P rs res φ post F e E C u\/b4 P rs res φ post F e E C u)->
     LeavesInM YC 0 P fn O.tmps (λe d=>∃y,e=.returned (res y)/\φ y/\fw w d/\sat d (sep (ah (post y)) F)) O.defers .returning d:=by
   intro e O d E C u s V W he H
   rw[V.defers]
   have aA:yH P rs res φ post F .ret E C u\/b4 P rs res φ post F .ret E C u:=by rcases he with rfl|rfl<;>exact H
   rcases aA with⟨y,vs,D,rfl,a4,bN,Z,ao,aq⟩|⟨rfl,y,vs,bN,Z,ao,aq⟩
   · have au:=W.bg aq
     have a2:d.heap[D]? =some (.deferred (some [])):=(iA (iL _ _)).sat au
     refine⟨by simp,.inl ⟨D,_,rfl,run_takeDeferred a2,?_⟩⟩
     have aw:=(qW (.deferred none) au).bg r3
     exact⟨_,ta ar V.get aw (CW a4 bN),y,by rw[Z],ao,s.trans (pi _ _ _),aw.bg qX⟩
   · exact⟨_,ta ar V.get W bN,y,by rw[Z],ao,s,W.bg (aq.trans qX)⟩
 refine callsIn_of_wp_marks aW aL trivial (wpIn_mono (h F aF _ w ?_ (a3.bg r2)) ?_) rfl;refine⟨by simp[bB,a0],λt=>?_,rfl⟩;simp only[n6,Wl,Vu,XJ];grind;rintro e O d ⟨s,E,C,u,V,W,H⟩;cases e with|ret=>exact key .ret O d E C u s V W (.inl rfl) H|normal=>exact key .normal O d E C u s V W (.inr rfl) H|_=>rcases H with H|H<;>exact H.elim
end
end Go.QM
namespace Go.QM
open Go
theorem az{α:Type}{p:α->Prop}{B:α->List ay}(x:α)(d:p x){hs gs:List ay}(h:aG (ah hs) (ah (B x++gs))):aG (ah hs) (ah (fg (λx=>pure' (p x) (ah (B x)))::gs)):=
  h.trans ((u6 (B x) gs).trans (dT (hR λ_ a=>⟨x,d,a⟩) (VW _)))
theorem b6(n:Nat){hs r gs:List ay}{A B:ay}(h:eV n hs=some (A,r))(e:A=B)(k:aG (ah r) (ah gs)):aG (ah hs) (ah (B::gs)):=by subst e;exact bP n h k
theorem eI(n:Nat){hs r gs:List ay}{A B:ay}(h:eV n hs=some (A,r))(e:aG A B)(k:aG (ah r) (ah gs)):aG (ah hs) (ah (B::gs)):=
  (fG h).trans (dT e k)
theorem sI(n:Nat){α:Type}{p:α->Prop}{B:α->List ay}{hs r:List ay}(h:eV n hs=some (fg (λx=>pure' (p x) (ah (B x))),r)){w:World}(hw:sat w (ah hs)):∃x,p x/\sat w (ah (B x++r)):=by obtain⟨N,D,E,H,d,rfl,⟨z,u,aQ⟩,C⟩:=hw.bg (fG h);exact⟨z,u,sat.bg ⟨_,D,E,H,d,rfl,aQ,C⟩ (ol _ _)⟩
section
variable {r : Option Nat} {P : Program} {N : Nat} {ops : Array Oper} {l : List Oper} {Q : fk} {ag : Env} {aP : List Deferred} {A I : ay} {K : Value → ay → Prop} {c : Code} {T : List Nat} {co : List (Nat × Bool)}
theorem ab.open(n:Nat){α:Type}{p:α->Prop}{B:α->List ay}{hs d:List ay}(h:eV n hs=some (fg (λx=>pure' (p x) (ah (B x))),d))(k:∀x,p x->ab r P N c Q ag aP (ah (B x++d))):ab r P N c Q ag aP (ah hs):=
  λa w C hs=>let⟨x,u,D⟩:=sI n h hs;k x u a w C D
theorem aU.open(n:Nat){α:Type}{p:α->Prop}{B:α->List ay}{hs d:List ay}(h:eV n hs=some (fg (λx=>pure' (p x) (ah (B x))),d))(k:∀x,p x->aU r P N ops l Q ag aP (ah (B x++d))):aU r P N ops l Q ag aP (ah hs):=
  λa w C hs=>let⟨x,u,D⟩:=sI n h hs;k x u a w C D
theorem ca.open(n:Nat){α:Type}{p:α->Prop}{B:α->List ay}{hs d:List ay}(h:eV n hs=some (fg (λx=>pure' (p x) (ah (B x))),d))(k:∀x,p x->ca r P N ops I T co Q ag aP (ah (B x++d))):ca r P N ops I T co Q ag aP (ah hs):=
  λa w listed C hs=>let⟨x,u,D⟩:=sI n h hs;k x u a w listed C D
theorem ab.nj(n:Nat){E sz d cap:Nat}{ad:Option Addr}{cs:List Value}{hs D:List ay}(h:eV n hs=some (aZ E sz ad d cap cs,D))(k:cs.length=d*sz->d<=cap->cap<=maxLen->ab r P N c Q ag aP (ah hs)):ab r P N c Q ag aP (ah hs):=
  λa w C hs=>by obtain⟨O,W,Z,ao,H,rfl,u,V⟩:=hs.bg (fG h);obtain⟨f1,f2,f3,_⟩:=m5 u;exact k f1 f2 f3 a w C hs
end
theorem D6(n:Nat){hs r:List ay}{B:ay}(h:eV n hs=some (B,r)):aG (ah hs) B:=(fG h).trans xR
theorem D5{hs:List ay}{B:ay}(h:aG (ah hs) (ah [B])):aG (ah hs) B:=h.trans xR
section
variable {r : Option Nat} {P : Program} {N : Nat} {Q : fk} {ag : Env} {aP : List Deferred} {c : Code}
end
theorem kC{α:Type}{enc:α->List Value}{sz:Nat}(h:∀a,(enc a).length=sz):∀(xs:List α),(xs.flatMap enc).length=xs.length*sz
  | []=>by simp
  | a::xs=>by rw[VD,List.length_append,h,kC h xs,List.length_cons,V8];omega
theorem ug{α:Type}{enc:α->List Value}{sz:Nat}(h:∀a,(enc a).length=sz):∀{xs:List α} {i j:Nat} {a:α} {v:Value},xs[i]? =some a->(enc a)[j]? =some v->(xs.flatMap enc)[i*sz+j]? =some v
  | [],_,_,_,_,d,_=>by simp at d
  | b::xs,0,j,a,v,d,u=>by simp at d;subst d;rw[VD,Nat.zero_mul,Nat.zero_add,List.getElem?_append_left (List.getElem?_eq_some_iff.1 u).1];exact u
  | b::xs,i+1,j,a,v,d,u=>by simp at d;have:=ug h d u;rw[VD,List.getElem?_append_right (by rw[h,V8];omega),h,V8];rw[show i*sz+1*sz+j-sz=i*sz+j by omega];exact this
theorem zL{α:Type}{enc:α->List Value}{sz:Nat}(h:∀a,(enc a).length=sz):∀(xs:List α) (i:Nat),(xs.flatMap enc).drop (i*sz)=(xs.drop i).flatMap enc
  | [],i=>by simp
  | b::xs,0=>by simp
  | b::xs,i+1=>by rw[VD,List.drop_append,List.drop_eq_nil_of_le (by rw[h,V8];omega),h,V8];rw[show i*sz+1*sz-sz=i*sz by omega,List.nil_append,List.drop_succ_cons];exact zL h xs i
theorem wA{α:Type}{enc:α->List Value}{sz:Nat}(h:∀a,(enc a).length=sz):∀(xs:List α) (i:Nat),(xs.flatMap enc).take (i*sz)=(xs.take i).flatMap enc
  | [],i=>by simp
  | b::xs,0=>by simp
  | b::xs,i+1=>by rw[VD,List.take_append,List.take_of_length_le (by rw[h,V8];omega),h,V8];rw[show i*sz+1*sz-sz=i*sz by omega,List.take_succ_cons,VD,wA h xs i]
theorem nk{α:Type}{enc:α->List Value}{sz:Nat}(h:∀a,(enc a).length=sz){xs:List α}{i:Nat}{a:α}(d:xs[i]? =some a):((xs.flatMap enc).drop (i*sz)).take sz=enc a:=by grind[zL,List.drop_eq_getElem_cons]
theorem Is{α:Type}{p:α->Bool}:∀{l:List α},(∀t∈l,p t=true)->l.takeWhile p=l
  | [],_=>rfl
  | a::l,h=>by rw[YA (h a cE),Is λt d=>h t (by simp[d])]
theorem D0{α:Type}{p:α->Bool}:∀{l:List α},(∀t∈l,p t=true)->l.dropWhile p=[]
  | [],_=>rfl
  | a::l,h=>by rw[YB (h a cE),D0 λt d=>h t (by simp[d])]
theorem It{α:Type}{p:α->Bool}{m:List α}:∀{l:List α},(∀t∈l,p t=true)->(l++m).takeWhile p=l++m.takeWhile p
  | [],_=>rfl
  | a::l,h=>by rw[VM,YA (h a cE),It λt d=>h t (by simp[d])];rfl
theorem D1{α:Type}{p:α->Bool}{m:List α}:∀{l:List α},(∀t∈l,p t=true)->(l++m).dropWhile p=m.dropWhile p
  | [],_=>rfl
  | a::l,h=>by rw[VM,YB (h a cE),D1 λt d=>h t (by simp[d])]
theorem wx{α:Type}{p:α->Bool}:∀{l:List α} {k:Nat} {t:α},l[k]? =some t->p t=true->(∀j u,j<k->l[j]? =some u->p u=false)->l.findIdx? p=some k
  | [],_,_,h,_,_=>by simp at h
  | a::l,0,t,h,d,_=>by simp at h;subst h;simp[List.findIdx?_cons,d]
  | a::l,k+1,t,h,d,ao=>by have w:=ao 0 a U rfl;have:=wx (l:=l) (k:=k) (by simpa using h) d (λj u C hu=>ao (j+1) u U (by simpa using hu));simp[List.findIdx?_cons,w,this]
theorem zI{α:Type}{p:α->Bool}{l:List α}(ao:∀j u,j<l.length->l[j]? =some u->p u=false):l.findIdx? p=none:=by rw[List.findIdx?_eq_none_iff];intro x d;obtain⟨j,w,rfl⟩:=List.getElem_of_mem d;simp_all
def ints(xs:List Int):List Value:=xs.map (λx=>.int .i64 x)
theorem dP(xs:List Int):(ints xs).length=xs.length:=by simp[ints]
theorem gW{xs:List Int}{i:Nat}{x:Int}(h:xs[i]? =some x):(ints xs)[i*1]? =some (.int .i64 x):=by simp[ints,h]
end Go.QM
namespace Go.QM
open Go
section
variable {r : Option Nat} {P : Program} {N : Nat} {ops : Array Oper} {l : List Oper} {Q : fk} {ag : Env} {aP : List Deferred} {A : ay} {K : Value → ay → Prop}
variable {d : Option Tmp} {ty : TypeId} {ps : String} {bh : Array Edge} {g : Option (Nat × Bool)}
variable {t t' : TypeId} {x y : Operand} {k : IntKind} {a b c : Int}
def ro(P:Program)(t:TypeId)(n E sz:Nat):Bool:=match P.underlying t with
  | some (.array m e)=>WA m n&&WA e E&&q2 P e sz
  | _=>false
theorem tM{n E sz:Nat}(h:ro P t n E sz=true)(w:World):(underlying t).run P w=.ok (.array n E) w/\(Go.sizeOf E).run P w=.ok sz w:=by
 unfold ro at h
 cases hu:P.underlying t with
 | none=>rw[hu]at h;cases h
 | some u=>
   rw[hu]at h
   cases u<;>first
     | (cases h;done)
     | (simp only[VQ]at h
        obtain⟨⟨d,C⟩,D⟩:=h
        have d:=VC d
        have C:=VC C
        subst d;subst C
        exact⟨by simp[underlying,hu],B2 D w⟩)
variable{lM:Nat}
theorem uH(u:bc ag x=.pointer (some ⟨lM,0,none⟩)):bE P ag ⟨d,.nilCheck x,ty,ps,bh,g⟩ A (fF (some ⟨lM,0,none⟩) 0):=λw _=>by
  simp[execOp,u,fF]
theorem P7{o:Nat}(u:bc ag x=fF (some ⟨lM,0,none⟩) o):bE P ag ⟨d,.nilCheck x,ty,ps,bh,g⟩ A (fF (some ⟨lM,0,none⟩) o):=λw _=>by
  simp[execOp,u,fF]
theorem n7{s:TypeId}{f u:Nat}(o:Nat)(C:wB P s f o=true)(E:bc ag x=fF (some ⟨lM,0,none⟩) u):bE P ag ⟨d,.fieldAddr s x f,ty,ps,bh,g⟩ A (fF (some ⟨lM,0,none⟩) (u+o)):=λw D=>by
  have:=(c1 (A:=A) (d:=d) (ty:=ty) (ps:=ps) (bh:=bh) (g:=g) o C (show bc ag x=.pointer (some ⟨lM,0+u,none⟩)by rw[E];rfl)) w D
  rw[this];simp[fF,Nat.add_assoc]
variable(n E sz:Nat)
theorem Ap{u:Nat}{j:Int}(H:ro P t n E sz=true)(N:bc ag x=fF (some ⟨lM,0,none⟩) u)(O:bc ag y=.int k j)(C:0<=j)(D:j<n):
    bE P ag ⟨d,.indexAddr t x y,ty,ps,bh,g⟩ A (fF (some ⟨lM,0,none⟩) (u+j.toNat*sz)):=λw _=>by
  simp[execOp,XF,WJ,N,O,asIntOf,tM H,C,D,iB,fF]
theorem lo{off:Nat}{j:Int}(D:ro P t n E sz=true)(H:bc ag x=.pointer (some ⟨lM,off,none⟩))(N:bc ag y=.int k j)(u:0<=j)(C:j<n):
    bE P ag ⟨d,.indexAddr t x y,ty,ps,bh,g⟩ A (.pointer (some ⟨lM,off+j.toNat*sz,none⟩)):=λw _=>by
  simp[execOp,XF,WJ,H,N,asIntOf,tM D,u,C,iB]
theorem xV{o:Nat}(C:ro P t n E sz=true)(D:bc ag x=fF (some ⟨lM,0,none⟩) o)(u:o=0):
    bE P ag ⟨d,.slice t x none none none,ty,ps,bh,g⟩ A (.slice (some ⟨lM,0,none⟩) n n):=λw _=>by
  subst u
  by_cases ao:n=0<;>simp[execOp,Instr.sliceAt,WJ,Instr.sliceBounds,D,tM C,fF,ao,iB]
theorem N1{vs ws:List Value}{j:Int}(D:ro P t n E sz=true)(he:qq P E sz=true)(H:bc ag x=.agg vs.toArray)(N:bc ag y=.int k j)(u:0<=j)(C:j<n)(hv:(vs.drop (j.toNat*sz)).take sz=ws):
    bE P ag ⟨d,.index t x y,ty,ps,bh,g⟩ A (.agg ws.toArray):=λw _=>by
  simp[execOp,Instr.index,H,N,asIntOf,tM D,u,C,part,Fi he]
  exact hv
theorem N2{vs:List Value}{v:Value}{j:Int}(D:ro P t n E sz=true)(he:mA P E=true)(H:bc ag x=.agg vs.toArray)(N:bc ag y=.int k j)(u:0<=j)(C:j<n)(hv:vs[j.toNat*sz]? =some v):
    bE P ag ⟨d,.index t x y,ty,ps,bh,g⟩ A v:=λw _=>by
  simp[execOp,Instr.index,H,N,asIntOf,tM D,u,C,part,us he,hv]
theorem SC{E sz n:Nat}{cs:List Value}(h:cs.length=n*sz)(ao:n<=maxLen):aG (aj lM E cs) (aZ E sz (some ⟨lM,0,none⟩) n n cs):=
  hR λd x=>⟨([],[]),⟨rfl,h,Nat.le_refl _,ao,by simp[h]⟩,by simpa[aj]using x⟩
def oK(P:Program)(n:Nat):List Field->Nat->Bool
  | [],m=>WA m n
  | f :: pJ, m => (f.name != "_") && Nat.beq f.offset m && (match P.underlying f.type with | some (.int .i64) => true | _ => false) && oK P n pJ (m + 1)
def ry(P:Program)(t:TypeId)(n:Nat):Bool:=match P.underlying t with
  | some (.struct pJ)=>oK P n pJ.toList 0&&!(P.stoodInHeld t)&&!(P.eqGuardType P.depth t)
  | _=>false
theorem D8{n:Nat}{d:Nat}(xs C:List Int)(V:xs.length=n)(Z:C.length=n)(w:World):∀(D:List Field) (m:Nat),m<=n->oK P n D m=true->
    (Op.eqFields (d+1) (ints xs).toArray (ints C).toArray D).run P w=.ok (decide (xs.drop m=C.drop m)) w
  | [],m,_,h=>by
    have:=VC h
    simp[Op.eqFields,Wv,this,V,Z]
  | f ::D,m,hm,h=>by
    simp only[oK,VQ]at h
    obtain⟨⟨⟨aq,H⟩,E⟩,O⟩:=h
    have H:=VC H
    have hu:P.underlying f.type=some (.int .i64):=by
      cases hu:P.underlying f.type with
      | none=>rw[hu]at E;cases E
      | some u=>rw[hu]at E;cases u<;>first|(cases E;done)|(rename_i k;cases k<;>first|(cases E;done)|rfl)
    have aw:m<n:=by
      rcases Nat.lt_or_ge m n with h|h
      · exact h
      · exfalso
        have ar:∀(D:List Field) (m:Nat),n<m->oK P n D m=true->False:=by
          intro D
          induction D with
          | nil=>intro m hm h;have:=VC h;omega
          | cons f D au=>intro m hm h;simp only[oK,VQ]at h;exact au _ U h.2
        exact ar D (m+1) U O
    have W:xs.drop m=xs[m]::xs.drop (m+1):=Xm U
    have ag:C.drop m=C[m]::C.drop (m+1):=Xm U
    have ga:(part f.type (ints xs).toArray f.offset).run P w=.ok (.int .i64 xs[m]) w:=by
      have N:mA P f.type=true:=by simp[mA,hu]
      simp[part,us N,H,ints,show m<xs.length by omega]
    have hx:(part f.type (ints C).toArray f.offset).run P w=.ok (.int .i64 C[m]) w:=by
      have N:mA P f.type=true:=by simp[mA,hu]
      simp[part,us N,H,ints,show m<C.length by omega]
    have ao : f.name ≠ "_" := by simpa using aq
    simp only[Op.eqFields,ao,ne_eq,not_false_eq_true,if_true,Sem.run_bind,ga,hx,Result.andThen_ok,run_equalIn_int w d f.type .i64 .i64 _ _ hu]
    by_cases he:xs[m]=C[m]
    · rw[al (by simp[he]),D8 xs C V Z w D (m+1) U O]
      refine congrArg (λb=>Result.ok b w) (decide_eq_decide.2 ?_)
      rw[W,ag,he]
      exact⟨λh=>by rw[h],λh=>(Xh h).2⟩
    · rw[ax (by simp[he]),Sem.run_pure]
      refine congrArg (λb=>Result.ok b w) (dn ?_).symm
      rw[W,ag]
      exact λh=>he (Xh h).1
theorem Ea{n:Nat}(h:ry P t n=true)(xs C:List Int)(V:xs.length=n)(W:C.length=n)(w:World):
    (Op.equalIn 10000 t (.agg (ints xs).toArray) (.agg (ints C).toArray)).run P w=.ok (decide (xs=C)) w/\P.eqGuardType P.depth t=false:=by unfold ry at h;cases hu:P.underlying t with|none=>rw[hu]at h;cases h|some u=>rw[hu]at h;(cases u with|struct D=>simp only[VQ,Bool.not_eq_true']at h;obtain⟨⟨H,N⟩,O⟩:=h;(have E:P.fieldsOf t=D:=by simp[Program.fieldsOf,hu]);have:=D8 (P:=P) (d:=9998) xs C V W w D.toList 0 (Nat.zero_le _) H;refine⟨?_,O⟩;rw[run_equalIn_agg w 9999 t _ _ (by rw[E];exact hu) N,E,this];simp|_=>cases h)
theorem P9{xs u:List Int}(E:ry P t n=true)(H:bc ag x=.agg (ints xs).toArray)(N:bc ag y=.agg (ints u).toArray)(ao:xs.length=n)(hm:u.length=n):
    bE P ag ⟨d,.binOp .neq t x y t',ty,ps,bh,g⟩ A (.bool (decide (xs≠u))):=λw _=>by
  obtain⟨C,D⟩:=Ea E xs u ao hm w
  simp[execOp,H,N,run_eqGuard_agg w .neq t x y _ _ D,run_neq_struct w t,C]
theorem BP{E:IntKind}{n:Int}(C:bc ag x=.int k a)(D:bc ag y=.int E n)(H:0<=n)(u:k.wrap (a*2^min n.toNat k.bits)=c):
    bE P ag ⟨d,.binOp .shl t x y t',ty,ps,bh,g⟩ A (.int k c):=λw _=>by
  have:¬n<0:=U
  simp[execOp,C,D,eqGuard,binOp,Op.shift,this,u]
theorem Bm(C:bc ag x=.int k a)(D:bc ag y=.int k b)(u:k.wrap (VX k.bits a|||VX k.bits b).toNat=c):
    bE P ag ⟨d,.binOp .or t x y t',ty,ps,bh,g⟩ A (.int k c):=λw _=>by
  simp[execOp,C,D,eqGuard,binOp,Op.intBits]
  simpa using u
theorem vR(C:bc ag x=.int k a)(D:bc ag y=.int k b)(u:k.wrap (VX k.bits a&&&VX k.bits b).toNat=c):
    bE P ag ⟨d,.binOp .and t x y t',ty,ps,bh,g⟩ A (.int k c):=λw _=>by
  simp[execOp,C,D,eqGuard,binOp,Op.intBits]
  simpa using u
theorem So(d:0<=a)(u:a<=16777215):IntKind.u32.wrap (a*2^min (8:Int).toNat IntKind.u32.bits)=a*256:=by
 have e:(2:Int)^min (8:Int).toNat IntKind.u32.bits=256:=am
 grind[q8]
theorem QA{q i:Int}(w:0<=q)(E:q<=16777215)(C:0<=i)(H:i<256):IntKind.u32.wrap (VX IntKind.u32.bits (q*256)|||VX IntKind.u32.bits i).toNat=q*256+i:=by have D:IntKind.u32.bits=32:=rfl;obtain⟨q,rfl⟩:=Wk w;obtain⟨i,rfl⟩:=Wk C;have e:(VX IntKind.u32.bits ((q:Int)*256)|||VX IntKind.u32.bits (i:Int)).toNat=q*256+i:=(by rw[BitVec.toNat_or,Xi,Xi,D];(have d:(((q:Int)*256) %((2^32:Nat):Int)).toNat=2^8*q:=by omega);(have u:((i:Int) %((2^32:Nat):Int)).toNat=i:=by omega);rw[d,u,<-Nat.two_pow_add_eq_or_of_lt U];omega);grind[q8]
theorem De{z:Int}(w:0<=z)(D:z<=4294967295):IntKind.u32.wrap (VX IntKind.u32.bits z&&&VX IntKind.u32.bits 255).toNat=z %256:=by have C:IntKind.u32.bits=32:=rfl;obtain⟨z,rfl⟩:=Wk w;have e:(VX IntKind.u32.bits (z:Int)&&&VX IntKind.u32.bits 255).toNat=z %256:=(by rw[BitVec.toNat_and,Xi,Xi,C];(have d:((z:Int) %((2^32:Nat):Int)).toNat=z:=by omega);(have u:((255:Int) %((2^32:Nat):Int)).toNat=2^8-1:=by decide);rw[d,u,Nat.and_two_pow_sub_one_eq_mod]);grind[q8]
end
theorem e5{P:Program}{d:Env}{A:ay}{t a n b off E:Nat}{u:Nat×Nat}{l vs:List Value}(H:qq P t n=true)(C:d a=.pointer (some ⟨b,off,none⟩))[h:fN A b (.cells l.toArray E u)](hv:(l.drop off).take n=vs)(ao:vs.length=n):
    ∃b off,d a=.pointer (some ⟨b,off,none⟩)/\∀w,sat w A->(loadVar t ⟨b,off,none⟩).run P w=.ok (.agg vs.toArray) w:=
  ⟨b,off,C,λ_ D=>AL H (h.rd.sat D) hv ao⟩
theorem G6{P:Program}{d:Env}{A:ay}{t a b off E:Nat}{u:Nat×Nat}{l:List Value}{v:Value}(H:mA P t=true)(C:d a=.pointer (some ⟨b,off,none⟩))[h:fN A b (.cells l.toArray E u)](hv:l[off]? =some v):
    ∃b off,d a=.pointer (some ⟨b,off,none⟩)/\∀w,sat w A->(loadVar t ⟨b,off,none⟩).run P w=.ok v w:=
  ⟨b,off,C,λ_ D=>AM H (h.rd.sat D) hv⟩
theorem pH{α:Type}{enc:α->List Value}{sz:Nat}(h:∀a,(enc a).length=sz){xs:List α}{i:Nat}{a:α}(d:xs[i]? =some a){o:Nat}(j:Nat)(w:o=i*sz+j){v:Value}(u:(enc a)[j]? =some v):(xs.flatMap enc)[o]? =some v:=by grind[ug]
theorem kB{α:Type}{enc:α->List Value}{sz:Nat}(h:∀a,(enc a).length=sz){xs:List α}{i:Nat}{a:α}(d:xs[i]? =some a){o:Nat}(j m:Nat)(w:o=i*sz+j)(hm:j+m<=sz){vs:List Value}(u:((enc a).drop j).take m=vs):
    ((xs.flatMap enc).drop o).take m=vs:=by subst w u;have C:=nk h d;grind[List.drop_take,List.drop_drop]
theorem sJ{α:Type}{enc:α->List Value}{sz:Nat}(h:∀a,(enc a).length=sz){xs:List α}{i:Nat}{a a':α}(w:xs[i]? =some a){o:Nat}(j:Nat){vs:List Value}(C:o=i*sz+j)(hm:j+vs.length<=sz)(u:enc a'=dM j vs (enc a)):
    dM o vs (xs.flatMap enc)=(xs.set i a').flatMap enc:=by
 subst C;have O:=(List.getElem?_eq_some_iff.1 w).1;have E:xs=xs.take i++a::xs.drop (i+1):=(by grind[List.take_append_drop,Xm]);have D:xs.set i a'=xs.take i++a'::xs.drop (i+1):=cm
 have d:((xs.take i).flatMap enc).length=i*sz:=by grind[kC]
 rw[D];conv=>lhs;rw[E]
 simp only[List.flatMap_append,List.flatMap_cons,dM,u];have H:((xs.take i).flatMap enc++(enc a++(xs.drop (i+1)).flatMap enc)).take (i*sz+j)=(xs.take i).flatMap enc++(enc a).take j:=(by rw[List.take_append,d,Nat.add_sub_cancel_left,List.take_of_length_le U,List.take_append_of_le_length (by rw[h];omega)]);have N:((xs.take i).flatMap enc++(enc a++(xs.drop (i+1)).flatMap enc)).drop (i*sz+j+vs.length)=(enc a).drop (j+vs.length)++(xs.drop (i+1)).flatMap enc:=(by rw[List.drop_append,d,Wv U,List.nil_append,show i*sz+j+vs.length-i*sz=j+vs.length by omega,List.drop_append_of_le_length (by rw[h];omega)]);grind
end Go.QM
namespace Go.QM
open Go
section
variable {α : Type} [DecidableEq α]
def kA(a:α):List (α×Value)->Nat->Option (Nat×Value)
  | [],_=>none
  | t::m,i=>if a=t.1 then some (i,t.2)else kA a m (i+1)
def fp(a:α):List (α×Value)->Option Value
  | []=>none
  | t::m=>if a=t.1 then some t.2 else fp a m
def iU(a:α)(v:Value):List (α×Value)->List (α×Value)
  | []=>[(a,v)]
  | t::m=>if a=t.1 then(a,v)::m else t::iU a v m
def iO(a:α):List (α×Value)->List (α×Value)
  | []=>[]
  | t::m=>if a=t.1 then m else t::iO a m
theorem ue{a:α}:∀{m:List (α×Value)} {i:Nat},kA a m i=none->fp a m=none/\(∀v,iU a v m=m++[(a,v)])/\iO a m=m
  | [],_,_=>⟨rfl,λ_=>rfl,rfl⟩
  | t::m,i,h=>by unfold kA at h;split at h;cases h;rename_i d;obtain⟨u,w,C⟩:=ue h;exact⟨by rw[fp,al d,u],λv=>by rw[iU,al d,w];rfl,by rw[iO,al d,C]⟩
theorem uf{a:α}:∀{m:List (α×Value)} {i j:Nat} {v:Value},kA a m i=some (j,v)->∃k,j=i+k/\m[k]? =some (a,v)/\fp a m=some v/\(∀u,iU a u m=m.set k (a,u))/\iO a m=m.eraseIdx k
  | [],_,_,_,h=>by cases h
  | t::m,i,j,v,h=>by unfold kA at h;split at h;rename_i he;cases h;refine⟨0,rfl,?_,by rw[fp,ax he],λu=>by rw[iU,ax he];rfl,by rw[iO,ax he];rfl⟩;obtain⟨x,y⟩:=t;simp only at he;subst he;rfl;rename_i d;obtain⟨k,H,w,C,D,E⟩:=uf h;exact⟨k+1,by omega,w,by rw[fp,al d,C],λu=>by rw[iU,al d,D];rfl,by rw[iO,al d,E];rfl⟩
structure dR(P:Program)(hU:TypeId)(enc:α->Value):Prop where
  n1:∀(kz:Bool) (a:α) (w:World),(XR kz 10000 hU (enc a)).run P w=.ok () w
  find:∀(a:α) (m:List (α×Value)) (es:List MapEntry) (w:World),es.map (λe=>(e.key,e.val))=m.map (λt=>(enc t.1,t.2))->(Instr.findKey hU (enc a) es).run P w=.ok (kA a m 0) w
  same:∀a:α,Instr.sameBits 10000 (enc a) (enc a)=true
end
def encI(x:Int):Value:=.int .i64 x
theorem dR.int{P:Program}{u:TypeId}(h:P.underlying u=some (.int .i64)):dR P u encI where
  n1:=λkz a w=>by
    unfold XR
    simp[underlying,h,encI]
  find := λa m es w he=>by
    have key:∀(m:List (Int×Value)) (es:List MapEntry) (i:Nat),es.map (λe=>(e.key,e.val))=m.map (λt=>(encI t.1,t.2))->XG (.int .i64) (encI a) es i=some (kA a m i):=by
      intro m
      induction m with
      | nil=>intro es i he;cases es with|nil=>rfl|cons e es=>simp at he
      | cons t m H=>
        intro es i he
        cases es with
        | nil=>simp at he
        | cons e es=>
          simp only[VF,List.cons.injEq,Xt]at he
          obtain⟨⟨C,D⟩,E⟩:=he
          rw[XG,C]
          simp only[encI,Instr.sameNow,if_true,kA]
          by_cases d:a=t.1
          · simp[d,D]
          · have:(a==t.1)=false:=by simpa using d
            simp only[this,al d]
            exact H es (i+1) E
    simp[Instr.findKey,underlying,h,key m es 0 he]
  same:=λa=>by simp[Instr.sameBits,encI]
def iI(es:Array MapEntry)(aI:Nat):Prop:=(∀e∈es.toList,e.born<aI)/\(es.toList.map (·.born)).Nodup
theorem iI.push{es:Array MapEntry}{aI:Nat}(h:iI es aI){k v:Value}:iI (es.push {key:=k,val:=v,born:=aI}) (aI+1):=by refine⟨λe he=>?_,?_⟩;rw[Array.toList_push,List.mem_append,Vd]at he;rcases he with he|rfl;have:=h.1 e he;omega;simp_all;rw[Array.toList_push,List.map_append,VI];refine⟨h.2,by simp,λa d c w e=>?_⟩;obtain⟨u,hu,rfl⟩:=Vs.1 d;have:=h.1 u hu;simp_all
theorem iI.modify{es:Array MapEntry}{aI:Nat}(h:iI es aI)(j:Nat)(f:MapEntry->MapEntry)(C:∀e,(f e).born=e.born):iI (es.modify j f) aI:=by
 have hm:(es.modify j f).toList.map (·.born)=es.toList.map (·.born):=(by rw[Array.toList_modify];apply Yv;grind);refine⟨λe he=>?_,by rw[hm];exact h.2⟩;have d:e.born∈(es.modify j f).toList.map (·.born):=cm
 rw[hm]at d;obtain⟨u,hu,w⟩:=Vs.1 d;rw[<-w];exact h.1 u hu
theorem iI.erase{es:Array MapEntry}{aI:Nat}(h:iI es aI)(j:Nat):iI (es.eraseIdxIfInBounds j) aI:=by have d:(es.eraseIdxIfInBounds j).toList.Sublist es.toList:=(by grind[Array.toList_eraseIdx]);exact⟨λe he=>h.1 e (d.subset he),h.2.sublist (d.map _)⟩
def An{α:Type}(enc:α->Value)(m:List (α×Value))(o:Obj):Prop:=∃es aI,o=.map es aI/\es.toList.map (λe=>(e.key,e.val))=m.map (λt=>(enc t.1,t.2))/\iI es aI
def nx{α:Type}(enc:α->Value)(b:Nat)(m:List (α×Value)):ay:=fg λo:Obj=>pure' (An enc m o) (obj b o)
def sq{α:Type}(A:ay)(b:Nat)(enc:α->Value)(m:List (α×Value)):Prop:=∀h,A h->∃o,h b=some o/\An enc m o
theorem yE{α:Type}(enc:α->Value)(b:Nat)(m:List (α×Value)):sq (nx enc b m) b enc m:=λh ⟨o,d,u⟩=>⟨o,by rw[u];simp,d⟩
theorem CS{α:Type}{A B:ay}{b:Nat}{enc:α->Value}{m:List (α×Value)}(x:sq A b enc m):sq (sep A B) b enc m:=by rintro h ⟨a,c,d,rfl,C,D⟩;obtain⟨o,u,w⟩:=x a C;exact⟨o,qF a c b o u,w⟩
class vK(A:ay)(b:Nat)(α:outParam Type)(enc:outParam (α->Value))(m:outParam (List (α×Value))):Prop where
  rd:sq A b enc m
class yJ(hs:List ay)(b:Nat)(α:outParam Type)(enc:outParam (α->Value))(m:outParam (List (α×Value)))(r:outParam (List ay)):Prop where
  tk:∃i,eV i hs=some (nx enc b m,r)
instance {α:Type}(enc:α->Value)(b:Nat)(m:List (α×Value))(r:List ay):yJ (nx enc b m::r) b α enc m r:=⟨0,rfl⟩
theorem sq.sat{α:Type}{A:ay}{b:Nat}{enc:α->Value}{m:List (α×Value)}(x:sq A b enc m){w:World}(h:QM.sat w A):∃es aI,w.heap[b]? =some (.map es aI)/\es.toList.map (λe=>(e.key,e.val))=m.map (λt=>(enc t.1,t.2))/\iI es aI:=by obtain⟨u,E,d⟩:=h;obtain⟨o,C,es,aI,rfl,D⟩:=x u d;grind
theorem AR{β d:Type}(f:β->d):∀(l:List β) (j:Nat),(l.eraseIdx j).map f=(l.map f).eraseIdx j
  | [],_=>by simp
  | _::_,0=>by simp
  | a::l,j+1=>by simp[AR f l j]
section
variable {α : Type} {enc : α → Value} {m : List (α × Value)}
variable {r : Option Nat} {P : Program} {ag : Env} {A : ay} {K : Value → ay → Prop}
variable {d : Option Tmp} {ty : TypeId} {ps : String} {bh : Array Edge} {g : Option (Nat × Bool)}
variable {t : TypeId} {x : Operand}
def mv(P:Program)(t hU e:TypeId):Bool:=match P.underlying t with
  | some (.map k v)=>WA k hU&&WA v e
  | _=>false
theorem oU{d e:TypeId}(h:mv P t d e=true)(w:World):(underlying t).run P w=.ok (.map d e) w:=by unfold mv at h;cases hu:P.underlying t with|none=>rw[hu]at h;cases h|some u=>rw[hu]at h;(cases u<;>first|(cases h;done)|(simp only[Bool.and_eq_true]at h;have C:=VC h.1;have D:=VC h.2;subst C;subst D;simp[underlying,hu]))
theorem PN{hs:List ay}(enc:α->Value)(k:∀b,K (.map (some b)) (ah (nx enc b []::hs))):ck r P ag ⟨d,.makeMap t none,ty,ps,bh,g⟩ (ah hs) K:=
  ck.run rfl λw C=>⟨.map (some w.heap.size),w.alloc (.map #[] 0),_,.inl rfl,⟨rfl,rfl,rfl,by simp⟩,
    (o0 _ C).bg (dT (hR λh u=>⟨_,⟨#[],0,rfl,rfl,⟨λ_ h=>(by cases h),List.nodup_nil⟩⟩,u⟩) (VW _)),k w.heap.size⟩
theorem xP{w:World}{b:Nat}{m':List (α×Value)}{es es':Array MapEntry}{aI pw:Nat}{hs rest:List ay}(Z:sat w (ah hs))(d:∃i,eV i hs=some (nx enc b m,rest))(ao:w.heap[b]? =some (.map es aI))
    (D:es'.toList.map (λe=>(e.key,e.val))=m'.map (λt=>(enc t.1,t.2))) (N:iI es' pw):sat {w with heap:=w.heap.setIfInBounds b (.map es' pw)} (ah (nx enc b m'::rest)):=by
 obtain⟨i,d⟩:=d;obtain⟨u,ag,p,q,C,rfl,⟨o,aq,V⟩,W⟩:=Z.bg (fG d);have E:sat w (sep (obj b o) (ah rest)):=⟨_,ag,p,q,C,rfl,V,W⟩;have P:b<w.heap.size:=cm
 have H:sat {w with heap:=w.heap.setIfInBounds b (.map es' pw)} (sep (obj b (.map es' pw)) (ah rest)):=
   u4 E (by show(w.heap.setIfInBounds b _)[b]? =_;rw[Array.getElem?_setIfInBounds_self_of_lt P]) (λj O=>by show(w.heap.setIfInBounds b _)[j]? =_;rw[Array.getElem?_setIfInBounds_ne (Ne.symm O)])
 exact H.bg (dT (hR λh u=>⟨_,⟨es',pw,rfl,D,N⟩,u⟩) (VW _))
theorem Py(N e:TypeId){b:Nat}(E:mv P t N e=true)(H:bc ag x=.map (some b))[hr:vK A b α enc m]:
    bE P ag ⟨d,.call ⟨.builtin .len,#[x],#[t]⟩,ty,ps,bh,g⟩ A (.int .i64 m.length):=λw D=>by
  obtain⟨es,aI,u,C,O⟩:=hr.rd.sat D
  have hlen:es.size=m.length:=by simpa using congrArg WY C
  simp[execOp,resolve,invoke,builtin,Builtin.len_,H,oU E,V2 u,goInt,hlen]
end
section
variable {α : Type} [DecidableEq α] {enc : α → Value} {m : List (α × Value)}
variable {r : Option Nat} {P : Program} {N : Nat} {ops : Array Oper} {l : List Oper} {Q : fk} {ag : Env} {aP : List Deferred} {A : ay} {K : Value → ay → Prop}
variable {d : Option Tmp} {ty : TypeId} {ps : String} {bh : Array Edge} {g : Option (Nat × Bool)}
variable {t t' : TypeId} {x y z : Operand} {k : IntKind}
variable{a:α}
theorem PB(W e:TypeId){b:Nat}{Z:Value}(N:mv P t W e=true)(ar:lA P e=some Z)(D:dR P W enc)(O:bc ag x=.map (some b))(V:bc ag y=enc a)[hr:vK A b α enc m]:
    bE P ag ⟨d,.lookup t x y false,ty,ps,bh,g⟩ A ((fp a m).getD Z):=λw aq=>by
  obtain⟨es,aI,E,ao,au⟩:=hr.rd.sat aq
  have H:=D.find a m es.toList w ao
  cases u:kA a m 0 with
  | none=>
    obtain⟨C,_⟩:=ue u
    simp[execOp,X7,O,V,oU N,V2 E,D.n1,H,u,C,vw ar]
  | some p=>
    obtain⟨j,v⟩:=p
    obtain⟨_,_,_,C,_⟩:=uf u
    simp[execOp,X7,O,V,oU N,V2 E,D.n1,H,u,C]
theorem PC(W e:TypeId){b:Nat}{Z:Value}(N:mv P t W e=true)(ar:lA P e=some Z)(D:dR P W enc)(O:bc ag x=.map (some b))(V:bc ag y=enc a)[hr:vK A b α enc m]:
    bE P ag ⟨d,.lookup t x y true,ty,ps,bh,g⟩ A (.tuple #[(fp a m).getD Z,.bool (fp a m).isSome]):=λw aq=>by
  obtain⟨es,aI,E,ao,au⟩:=hr.rd.sat aq
  have H:=D.find a m es.toList w ao
  cases u:kA a m 0 with
  | none=>
    obtain⟨C,_⟩:=ue u
    simp[execOp,X7,O,V,oU N,V2 E,D.n1,H,u,C,vw ar]
  | some p=>
    obtain⟨j,v⟩:=p
    obtain⟨_,_,_,C,_⟩:=uf u
    simp[execOp,X7,O,V,oU N,V2 E,D.n1,H,u,C]
theorem P2{hs rest:List ay}(aw e:TypeId){b:Nat}{v:Value}(aq:mv P t aw e=true)(E:dR P aw enc)(ar:bc ag x=.map (some b))(au:bc ag y=enc a)(hv:bc ag z=v)[N:yJ hs b α enc m rest]
    (k:K undef (ah (nx enc b (iU a v m)::rest))):ck r P ag ⟨d,.mapUpdate t x y z,ty,ps,bh,g⟩ (ah hs) K:=by refine ck.run rfl λw O=>?_;obtain⟨i,aF⟩:=N.tk;obtain⟨es,aI,u,C,V⟩:=(CS (yE enc b m)).sat (O.bg (fG aF));have W:=E.find a m es.toList w C;cases D:kA a m 0 with|none=>obtain⟨_,H,_⟩:=ue D;refine⟨undef,{w with heap:=w.heap.setIfInBounds b (.map (es.push {key:=enc a,val:=v,born:=aI}) (aI+1))},_,.inr ⟨?_,rfl⟩,⟨rfl,rfl,rfl,?_⟩,xP (m':=iU a v m) (es':=es.push {key:=enc a,val:=v,born:=aI}) (pw:=aI+1) O N.tk u (by rw[H];simp[C]) V.push,k⟩;simp[execOp,Instr.mapUpdate,ar,au,hv,oU aq,V2 u,E.n1,W,D,WS _ u];simp|some p=>obtain⟨j,v0⟩:=p;obtain⟨n,aW,H,_,aA,_⟩:=uf D;(have aL:j=n:=by omega);subst aL;have ao:((es.toList[j]?).map (·.key))=some (enc a):=(by have:=congrArg (λl=>l[j]?) C;simp only[Xx,H,WL]at this;cases he:es.toList[j]? with|none=>rw[he]at this;cases this|some eB=>rw[he]at this;simp only[WL,WQ,Xt]at this;simp[this.1]);have aP:(Instr.keyThatStays (((es[j]?).map (·.key)).getD (enc a)) (enc a)).run P w=.ok (enc a) w:=(by(have:es[j]? =es.toList[j]? :=by simp);rw[this,ao];simp[Instr.keyThatStays,E.same a]);refine⟨undef,{w with heap:=w.heap.setIfInBounds b (.map (es.modify j λe=>{e with key:=enc a,val:=v}) aI)},_,.inr ⟨?_,rfl⟩,⟨rfl,rfl,rfl,?_⟩,xP (m':=iU a v m) (es':=es.modify j λe=>{e with key:=enc a,val:=v}) (pw:=aI) O N.tk u ?_ (V.modify j _ λ_=>rfl),k⟩;simp[execOp,Instr.mapUpdate,ar,au,hv,oU aq,V2 u,E.n1,W,D,aP,WS _ u];simp;rw[aA,List.map_set,<-C,Array.toList_modify];apply Yv;intro i;simp only[Xx,List.getElem?_modify,List.getElem?_set,List.length_map];by_cases Z:j=i;subst Z;(cases he:es.toList[j]? with|none=>simp[he]at ao|some eB=>have:=(Vm.1 he).1;simp;simpa using this);simp[Z]
theorem LY{hs rest:List ay}(au e:TypeId){b:Nat}{aw:Array TypeId}(Z:mv P t au e=true)(N:dR P au enc)(aq:bc ag x=.map (some b))(ar:bc ag y=enc a)(ao:aw[0]? =some t)[H:yJ hs b α enc m rest]
    (k:K (.tuple #[]) (ah (nx enc b (iO a m)::rest))):ck r P ag ⟨d,.call ⟨.builtin .delete,#[x,y],aw⟩,ty,ps,bh,g⟩ (ah hs) K:=by refine ck.run rfl λw O=>?_;obtain⟨i,aF⟩:=H.tk;obtain⟨es,aI,u,C,V⟩:=(CS (yE enc b m)).sat (O.bg (fG aF));have W:=N.find a m es.toList w C;cases D:kA a m 0 with|none=>obtain⟨_,_,E⟩:=ue D;refine⟨.tuple #[],{w with heap:=w.heap.setIfInBounds b (.map es aI)},_,.inl ?_,⟨rfl,rfl,rfl,?_⟩,xP (m':=iO a m) (es':=es) (pw:=aI) O H.tk u (by rw[E];exact C) V,k⟩;simp[execOp,resolve,invoke,builtin,Builtin.delete_,aq,ar,ao,oU Z,V2 u,N.n1,W,D,WS _ u];simp|some p=>obtain⟨j,v0⟩:=p;obtain⟨n,aW,E,_,_,aA⟩:=uf D;(have aP:j=n:=by omega);subst aP;(have hlen:es.size=m.length:=by simpa using congrArg WY C);(have aL:j<es.size:=by rw[hlen];exact(Vm.1 E).1);refine⟨.tuple #[],{w with heap:=w.heap.setIfInBounds b (.map (es.eraseIdxIfInBounds j) aI)},_,.inl ?_,⟨rfl,rfl,rfl,?_⟩,xP (m':=iO a m) (es':=es.eraseIdxIfInBounds j) (pw:=aI) O H.tk u ?_ (V.erase j),k⟩;simp[execOp,resolve,invoke,builtin,Builtin.delete_,aq,ar,ao,oU Z,V2 u,N.n1,W,D,WS _ u];simp;rw[aA,AR,<-C,<-AR];simp[Array.eraseIdxIfInBounds,aL]
end
end Go.QM
namespace Go.QM
open Go
class sp(cs:List Value)(cap j sz:Nat):Prop where
  n:∃n,cs.length=n*sz/\j<=n/\n<=cap
instance (A:ay)(ad:Option Addr)(cap j sz E:Nat)(cs:List Value)[hr:bi A ad E cs][h:sp cs cap j sz]:bi A (dL ad cap j sz) E (cs.drop (j*sz)):=⟨by
  obtain⟨n,gA,gB,gC⟩:=h.n
  exact CU hr.rd gA gB gC⟩
section
variable {r : Option Nat} {P : Program} {N : Nat} {ops : Array Oper} {l : List Oper} {Q : fk} {ag : Env} {aP : List Deferred} {A : ay} {K : Value → ay → Prop}
variable {d : Option Tmp} {ty : TypeId} {ps : String} {bh : Array Edge} {g : Option (Nat × Bool)}
variable {t t' : TypeId} {x y z : Operand} {k : IntKind}
theorem om(E sz i:Nat){ad:Option Addr}{n cap:Nat}{j:Int}(w:hd P t E sz=true)(C:bc ag x=.slice ad n cap)(D:bc ag y=.int .i64 j)(u:j=(i:Int))(H:i<=n):
    bE P ag ⟨d,.slice t x (some y) none none,ty,ps,bh,g⟩ A (.slice (dL ad cap i sz) (n-i) (cap-i)):=by subst u;have:=HF (A:=A) (d:=d) (ty:=ty) (ps:=ps) (bh:=bh) (g:=g) E sz w C D U U;trivial
theorem nG(E sz i:Nat){ad:Option Addr}{n cap:Nat}{j:Int}(w:hd P t E sz=true)(C:bc ag x=.slice ad n cap)(D:bc ag y=.int .i64 j)(u:j=(i:Int))(H:i<=cap):
    bE P ag ⟨d,.slice t x none (some y) none,ty,ps,bh,g⟩ A (.slice ad i cap):=by subst u;have:=SB (A:=A) (d:=d) (ty:=ty) (ps:=ps) (bh:=bh) (g:=g) E sz w C D U U;trivial
end
class vO(hs:List ay)(A:ay)(r:outParam (List ay)):Prop where
  tk:∃i,eV i hs=some (A,r)
instance (priority:=100)(B:ay)(hs:List ay)(A:ay)(r:List ay)[h:vO hs A r]:vO (B::hs) A (B::r):=⟨by
  obtain⟨i,pL⟩:=h.tk
  exact⟨i+1,by simp[eV,pL]⟩⟩
instance (priority:=200)(A:ay)(r:List ay):vO (A::r) A r:=⟨0,rfl⟩
class eC(hs pre:List ay)(rest:outParam (List ay)):Prop where
  p:lI hs pre rest
instance (hs:List ay):eC hs [] hs:=⟨ev hs⟩
instance (hs r pre rest:List ay)(A:ay)[h:vO hs A r][k:eC r pre rest]:eC hs (A::pre) rest:=⟨by
  obtain⟨i,pL⟩:=h.tk
  exact d6 i pL k.p⟩
section
variable {α : Type} [DecidableEq α]
def fj(f:α->Option Value)(a:α)(v:Value):α->Option Value:=λx=>if x=a then some v else f x
def fV(f:α->Option Value)(a:α):α->Option Value:=λx=>if x=a then none else f x
structure j9(f:α->Option Value)(n:Nat)(m:List (α×Value)):Prop where
  bq:(m.map (·.1)).Nodup
  oa:∀a,fp a m=f a
  n:m.length=n
theorem xb{a:α}:∀{m:List (α×Value)},fp a m=none↔a∉m.map (·.1)
  | []=>by simp[fp]
  | t::m=>by simp only[fp,VF,Vq,not_or];split;rename_i h;simp[h];rename_i h;rw[xb];simp[h]
theorem FO(a b:α)(v:Value):∀(m:List (α×Value)),fp a (iU b v m)=if a=b then some v else fp a m
  | []=>by simp only[iU,fp]
  | t::m=>by simp only[iU];by_cases h:b=t.1;rw[ax h];simp only[fp];by_cases d:a=b;rw[ax d,ax d];rw[al d,al d,al (by rw[<-h];exact d)];rw[al h];simp only[fp];by_cases d:a=t.1;rw[ax d,ax d,al (by rw[d];exact λe=>h e.symm)];rw[al d,al d];exact FO a b v m
theorem Fu(b:α)(v:Value):∀(m:List (α×Value)),(iU b v m).map (·.1)=if b∈m.map (·.1)then m.map (·.1)else m.map (·.1)++[b]
  | []=>by simp[iU]
  | t::m=>by simp only[iU];by_cases h:b=t.1;rw[ax h];simp[h];rw[al h];simp only[VF,Fu b v m,Vq];by_cases d:b∈m.map (·.1);rw[ax d,ax (.inr d)];rw[al d,al (by simp[h,d])];rfl
theorem FN(a b:α):∀(m:List (α×Value)),(m.map (·.1)).Nodup->fp a (iO b m)=if a=b then none else fp a m
  | [],_=>by simp[iO,fp]
  | t::m,ao=>by simp only[VF,List.nodup_cons]at ao;simp only[iO];by_cases h:b=t.1;rw[ax h];by_cases d:a=b;rw[ax d,xb,d,h];exact ao.1;rw[al d];simp only[fp];rw[al (by rw[<-h];exact d)];rw[al h];simp only[fp];by_cases d:a=t.1;rw[ax d,ax d,al (by rw[d];exact λe=>h e.symm)];rw[al d,al d];exact FN a b m ao.2
theorem Ft(b:α):∀(m:List (α×Value)),((iO b m).map (·.1)).Sublist (m.map (·.1))
  | []=>by simp[iO]
  | t::m=>by simp only[iO];by_cases h:b=t.1;rw[ax h];simp;rw[al h];simp only[VF];exact(Ft b m).cons_cons _
theorem DW(b:α):∀(m:List (α×Value)),(iO b m).length=if(fp b m).isSome then m.length-1 else m.length
  | []=>rfl
  | t::m=>by
   by_cases h:b=t.1;have d:fp b (t::m)=some t.2:=by simp only[fp];rw[ax h]
   have u:iO b (t::m)=m:=by simp only[iO];rw[ax h]
   rw[d,u];rfl;have d:fp b (t::m)=fp b m:=by simp only[fp];rw[al h]
   have u:iO b (t::m)=t::iO b m:=by simp only[iO];rw[al h]
   rw[d,u,Vy,DW b m];split;rename_i w;have:m≠[]:=by intro e;subst e;simp[fp]at w
   have:=List.length_pos_iff.2 this;simp only[Vy];omega;rfl
theorem IF(b:α)(v:Value):∀(m:List (α×Value)),(iU b v m).length=if(fp b m).isSome then m.length else m.length+1
  | []=>rfl
  | t::m=>by
   by_cases h:b=t.1;have d:fp b (t::m)=some t.2:=by simp only[fp];rw[ax h]
   have u:iU b v (t::m)=(b,v)::m:=by simp only[iU];rw[ax h]
   rw[d,u];rfl;have d:fp b (t::m)=fp b m:=by simp only[fp];rw[al h]
   have u:iU b v (t::m)=t::iU b v m:=by simp only[iU];rw[al h]
   rw[d,u,Vy,IF b v m];split<;>rfl
theorem j9.up{f:α->Option Value}{n:Nat}{m:List (α×Value)}(h:j9 f n m)(a:α)(v:Value):j9 (fj f a v) (if(f a).isSome then n else n+1) (iU a v m) where
  bq:=by
    rw[Fu]
    split
    · exact h.bq
    · rename_i u
      rw[VI]
      refine⟨h.bq,by simp,?_⟩
      intro x w y d e
      simp only[Vd]at d
      subst d;subst e;exact u w
  oa:=λx=>by rw[FO,fj,h.oa]
  n:=by rw[IF,h.oa,h.n]
theorem j9.dl{f:α->Option Value}{n:Nat}{m:List (α×Value)}(h:j9 f n m)(a:α):j9 (fV f a) (if(f a).isSome then n-1 else n) (iO a m) where
  bq:=h.bq.sublist (Ft a m)
  oa:=λx=>by rw[FN _ _ _ h.bq,fV,h.oa]
  n:=by rw[DW,h.oa,h.n]
end
def bO{α:Type}[DecidableEq α](enc:α->Value)(b:Nat)(f:α->Option Value)(n:Nat):ay:=fg λm:List (α×Value)=>pure' (j9 f n m) (nx enc b m)
def qn{α:Type}[DecidableEq α](A:ay)(b:Nat)(enc:α->Value)(f:α->Option Value)(n:Nat):Prop:=∀h,A h->∃m,j9 f n m/\∃o,h b=some o/\An enc m o
section
variable {α : Type} [DecidableEq α] {enc : α → Value} {f : α → Option Value} {n b : Nat}
theorem JR:qn (bO enc b f n) b enc f n:=λ_ ⟨m,hm,d⟩=>⟨m,hm,yE enc b m _ d⟩
theorem JQ{A B:ay}(x:qn A b enc f n):qn (sep A B) b enc f n:=by rintro h ⟨a,c,d,rfl,C,D⟩;obtain⟨m,hm,o,u,w⟩:=x a C;exact⟨m,hm,o,qF a c b o u,w⟩
theorem JS{A B:ay}(x:qn B b enc f n):qn (sep A B) b enc f n:=by rintro h ⟨a,c,d,rfl,D,C⟩;obtain⟨m,hm,o,u,w⟩:=x c C;exact⟨m,hm,o,uq d b o u,w⟩
end
class qo(A:ay)(b:Nat){α:outParam Type}[outParam (DecidableEq α)](enc:outParam (α->Value))(f:outParam (α->Option Value))(n:outParam Nat):Prop where
  rd:qn A b enc f n
section
variable {α : Type} [DecidableEq α]
instance (enc:α->Value)(b:Nat)(f:α->Option Value)(n:Nat):qo (bO enc b f n) b enc f n:=⟨JR⟩
instance (A:ay)(l:List ay)(b:Nat)(enc:α->Value)(f:α->Option Value)(n:Nat)[h:qo (ah l) b enc f n]:qo (ah (A::l)) b enc f n:=⟨JS h.rd⟩
instance (A:ay)(l:List ay)(b:Nat)(enc:α->Value)(f:α->Option Value)(n:Nat)[h:qo A b enc f n]:qo (ah (A::l)) b enc f n:=⟨JQ h.rd⟩
end
class su(hs:List ay)(b:Nat){α:outParam Type}[outParam (DecidableEq α)](enc:outParam (α->Value))(f:outParam (α->Option Value))(n:outParam Nat)(r:outParam (List ay)):Prop where
  tk:∃i,eV i hs=some (bO enc b f n,r)
section
variable {α : Type} [DecidableEq α]
instance (enc:α->Value)(b:Nat)(f:α->Option Value)(n:Nat)(r:List ay):su (bO enc b f n::r) b enc f n r:=⟨0,rfl⟩
instance (A:ay)(hs:List ay)(b:Nat)(enc:α->Value)(f:α->Option Value)(n:Nat)(r:List ay)[h:su hs b enc f n r]:su (A::hs) b enc f n (A::r):=⟨by
  obtain⟨i,pL⟩:=h.tk
  exact⟨i+1,by simp[eV,pL]⟩⟩
end
section
variable {α : Type} [DecidableEq α] {enc : α → Value} {f : α → Option Value} {n : Nat}
variable {r : Option Nat} {P : Program} {N : Nat} {ops : Array Oper} {l : List Oper} {Q : fk} {ag : Env} {aP : List Deferred} {A : ay} {K : Value → ay → Prop}
variable {d : Option Tmp} {ty : TypeId} {ps : String} {bh : Array Edge} {g : Option (Nat × Bool)}
variable {t t' : TypeId} {x y z : Operand}
variable{b:Nat}
theorem qn.at(hr:qn A b enc f n){w:World}(hs:QM.sat w A):∃(B:ay) (m:List (α×Value)),j9 f n m/\QM.sat w B/\vK B b α enc m:=by obtain⟨d,E,D⟩:=hs;obtain⟨m,hm,o,u,C⟩:=hr d D;exact⟨λh=>h=d,m,hm,⟨d,E,rfl⟩,⟨λh e=>by subst e;exact⟨o,u,C⟩⟩⟩
variable(hU:TypeId){a:α}
theorem kj(e:TypeId){u:Value}(H:mv P t hU e=true)(V:lA P e=some u)(C:dR P hU enc)(N:bc ag x=.map (some b))(O:bc ag y=enc a)[hr:qo A b enc f n]:
    bE P ag ⟨d,.lookup t x y false,ty,ps,bh,g⟩ A ((f a).getD u):=λw D=>by
  obtain⟨B,m,hm,E,W⟩:=hr.rd.at D
  have:=(PB (A:=B) (d:=d) (ty:=ty) (ps:=ps) (bh:=bh) (g:=g) hU e H V C N O) w E
  rwa[hm.oa]at this
theorem FSa(e:TypeId){u:Value}(H:mv P t hU e=true)(V:lA P e=some u)(C:dR P hU enc)(N:bc ag x=.map (some b))(O:bc ag y=enc a)[hr:qo A b enc f n]:
    bE P ag ⟨d,.lookup t x y true,ty,ps,bh,g⟩ A (.tuple #[(f a).getD u,.bool (f a).isSome]):=λw D=>by
  obtain⟨B,m,hm,E,W⟩:=hr.rd.at D
  have:=(PC (A:=B) (d:=d) (ty:=ty) (ps:=ps) (bh:=bh) (g:=g) hU e H V C N O) w E
  rwa[hm.oa]at this
theorem Px(e:TypeId)(D:mv P t hU e=true)(E:bc ag x=.map (some b))[hr:qo A b enc f n]:
    bE P ag ⟨d,.call ⟨.builtin .len,#[x],#[t]⟩,ty,ps,bh,g⟩ A (.int .i64 n):=λw u=>by
  obtain⟨B,m,hm,C,H⟩:=hr.rd.at u
  have:=(Py (A:=B) (d:=d) (ty:=ty) (ps:=ps) (bh:=bh) (g:=g) hU e D E) w C
  rwa[hm.n]at this
theorem xi{hs:List ay}(enc:α->Value)(k:∀b,K (.map (some b)) (ah (bO enc b (λ_=>none) 0::hs))):ck r P ag ⟨d,.makeMap t none,ty,ps,bh,g⟩ (ah hs) K:=
  ck.post (so:=λv u=>∃b,v=.map (some b)/\u=ah (nx enc b []::hs)) (PN enc λb=>⟨b,rfl,rfl⟩) (by rintro v u ⟨b,rfl,rfl⟩;exact⟨_,dT (hR λh w=>⟨[],⟨by simp,λ_=>rfl,rfl⟩,w⟩) (VW _),k b⟩)
theorem l1{hs rest:List ay}(e:TypeId){v:Value}(H:mv P t hU e=true)(D:dR P hU enc)(N:bc ag x=.map (some b))(O:bc ag y=enc a)(hv:bc ag z=v)[u:su hs b enc f n rest]
    (k:K undef (ah (bO enc b (fj f a v) (if(f a).isSome then n else n+1)::rest))):ck r P ag ⟨d,.mapUpdate t x y z,ty,ps,bh,g⟩ (ah hs) K:=by obtain⟨i,u⟩:=u.tk;refine ck.bg (fG u) (show ck r P ag _ (ah (bO enc b f n::rest)) K from ?_);refine ck.ex λm=>ck.pure λhm=>?_;exact ck.post (so:=λC w=>C=undef/\w=ah (nx enc b (iU a v m)::rest)) (P2 hU e H D N O hv ⟨rfl,rfl⟩) (by rintro C w ⟨rfl,rfl⟩;exact⟨_,dT (hR λh E=>⟨_,hm.up a v,E⟩) (VW _),k⟩)
theorem lP{hs rest:List ay}(e:TypeId){C:Array TypeId}(N:mv P t hU e=true)(E:dR P hU enc)(V:bc ag x=.map (some b))(W:bc ag y=enc a)(O:C[0]? =some t)[u:su hs b enc f n rest]
    (k:K (.tuple #[]) (ah (bO enc b (fV f a) (if(f a).isSome then n-1 else n)::rest))):ck r P ag ⟨d,.call ⟨.builtin .delete,#[x,y],C⟩,ty,ps,bh,g⟩ (ah hs) K:=by obtain⟨i,u⟩:=u.tk;refine ck.bg (fG u) (show ck r P ag _ (ah (bO enc b f n::rest)) K from ?_);refine ck.ex λm=>ck.pure λhm=>?_;exact ck.post (so:=λD w=>D=.tuple #[]/\w=ah (nx enc b (iO a m)::rest)) (LY hU e N E V W O ⟨rfl,rfl⟩) (by rintro D w ⟨rfl,rfl⟩;exact⟨_,dT (hR λh H=>⟨_,hm.dl a,H⟩) (VW _),k⟩)
end
end Go.QM
namespace Go.QM
open Go
def b8{α:Type}(f:α->ay)(L:List α):ay:=ah (L.map f)
section
variable {α : Type} {f g : α → ay}
theorem Sc{l m:List ay}(h:l.Perm m):aG (ah l) (ah m):=by induction h with|nil=>exact VW _|cons x _ w=>exact dT (VW x) w|swap x y l=>exact jC|trans _ _ d u=>exact d.trans u
variable{L:List α}
theorem vY{M:List α}(h:L.Perm M):aG (b8 f L) (b8 f M):=Sc (h.map f)
theorem y3{L:List α}(h:∀a∈L,f a=g a):b8 f L=b8 g L:=by grind[b8,List.map_congr_left]
theorem nb(hs:List ay):aG (ah hs) (ah (b8 f []::hs)):=o1.trans nE
theorem fW(n:Nat){hs d:List ay}{L':List α}{a:α}(h:eV n hs=some (b8 f L,d))(u:L.Perm (a::L')):aG (ah hs) (ah (f a::b8 f L'::d)):=
  (fG h).trans ((dT (vY u) (VW _)).trans pZ)
theorem cY(i j:Nat){hs ef u gs:List ay}{L M:List α}{A:ay}(a:α)(w:eV i hs=some (A,ef))(d:eV j ef=some (b8 f L,u))(C:A=g a)(D:∀x∈L,f x=g x)(E:(a::L).Perm M)
    (k:aG (ah u) (ah gs)):aG (ah hs) (ah (b8 g M::gs)):=by subst C;rw[y3 D]at d;refine(fG w).trans ((dT (VW _) (fG d)).trans (nD.trans (dT ?_ k)));exact vY (f:=g) E
theorem pD(i:Nat){hs r gs:List ay}{L M:List α}(h:eV i hs=some (b8 f L,r))(d:∀x∈L,f x=g x)(u:L.Perm M)(k:aG (ah r) (ah gs)):aG (ah hs) (ah (b8 g M::gs)):=by rw[y3 d]at h;exact(fG h).trans (dT (vY u) k)
theorem s7{i:Nat}{a:α}(h:L[i]? =some a):L.Perm (a::(L.take i++L.drop (i+1))):=by grind[List.drop_eq_getElem_cons,List.take_append_drop,List.perm_middle]
theorem fA{a:α}(h:a∈L):∃L',L.Perm (a::L'):=by obtain⟨s,t,rfl⟩:=Xz h;grind[List.perm_middle]
end
section
variable {r : Option Nat} {P : Program} {N : Nat} {ops : Array Oper} {l : List Oper} {Q : fk} {ag : Env} {aP : List Deferred} {A : ay} {K : Value → ay → Prop}
variable {d : Option Tmp} {ty : TypeId} {ps : String} {bh : Array Edge} {g : Option (Nat × Bool)}
variable {t t' : TypeId} {x y : Operand}
variable{E:Nat}
theorem vg{w:World}{b off:Nat}{l vs:List Value}(h:w.heap[b]? =some (.cells l.toArray E (0,0)))(hlen:off+vs.length<=l.length)(d:vs.all VO=true):
    (storeCells ⟨b,off,none⟩ vs).run P w=.ok () (w.setRow b (dM off vs l).toArray):=by have:=run_storeCells_at P b off E vs 0 l.toArray w h (by simpa using hlen) (λu hu=>by simpa using List.all_eq_true.1 d u hu);trivial
theorem xZ{pre cs d vs:List Value}{o:Nat}(h:o+vs.length<=cs.length):dM (pre.length+o) vs (pre++cs++d)=pre++dM o vs cs++d:=by
 unfold dM
 rw[List.append_assoc pre cs d,List.take_append,List.take_of_length_le U,WF,Nat.add_assoc,List.drop_append,List.drop_eq_nil_of_le U,WF,List.nil_append,
   List.take_append_of_le_length U,List.drop_append_of_le_length U]
 simp_all
variable{n sz cap:Nat}{rest:List ay}
theorem xY{w:World}{af:Nat}{pre cs u d:List Value}(h:sat w (sep (aj af E (pre++cs++d)) (ah rest)))(f2:cs.length=n*sz)(f3:n<=cap)(f4:cap<=maxLen)
    (f5:cap*sz<=cs.length+d.length) (D:u.length=cs.length):sat (w.setRow af (pre++u++d).toArray) (ah (aZ E sz (some ⟨af,pre.length,none⟩) n cap u::rest)):=
  (xQ h).bg (dT (hR λh C=>⟨(pre,d),⟨rfl,by omega,f3,f4,by simp only;omega⟩,C⟩) (VW _))
theorem xX{w:World}{ad:Option Addr}{cs:List Value}{hs:List ay}(N:sat w (ah hs))(C:∃i,eV i hs=some (aZ E sz ad n cap cs,rest))(ao:0<cs.length):
    ∃af pre u,ad=some ⟨af,pre.length,none⟩/\cs.length=n*sz/\n<=cap/\cap<=maxLen/\cap*sz<=cs.length+u.length/\sat w (sep (aj af E (pre++cs++u)) (ah rest)):=by obtain⟨i,C⟩:=C;obtain⟨P,O,a,b,D,rfl,d,H⟩:=N.bg (fG C);cases ad with|none=>obtain⟨⟨_,_,e⟩,_⟩:=d;rw[e]at ao;simp at ao|some p=>obtain⟨⟨pre,u⟩,⟨f1,f2,f3,f4,f5⟩,d⟩:=d;obtain⟨af,V,W⟩:=p;simp only[Addr.mk.injEq,true_and]at f1;obtain⟨rfl,rfl⟩:=f1;exact⟨af,pre,u,rfl,f2,f3,f4,f5,_,O,a,b,D,rfl,d,H⟩
theorem LB{hs:List ay}{aq m D:Nat}{ad C:Option Addr}{cs u H:List Value}(k:Nat)(a4:hd P t E sz=true)(a5:bc ag x=.slice ad n cap)(a7:bc ag y=.slice C m D)
    [aL:pl hs ad E sz n cap cs rest] [hr:bi (ah hs) C aq u] (hm:m*sz<=u.length) (aP:Nat.min m n=k) (a3:0<cs.length) (ar:(u.take (k*sz)).all VO=true) (V:dM 0 (u.take (k*sz)) cs=H)
    (a8:K (.int .i64 k) (ah (aZ E sz ad n cap H::rest))):ck r P ag ⟨d,.call ⟨.builtin .copy,#[x,y],#[t,t']⟩,ty,ps,bh,g⟩ (ah hs) K:=by
 refine ck.run rfl λw W=>?_;obtain⟨af,pre,ao,rfl,f2,f3,f4,f5,N⟩:=xX W aL.tk a3;have au:w.heap[af]? =some (.cells (pre++cs++ao).toArray E (0,0)):=(iA (na af E _)).sat N;have aW:k<=m:=cm
 have a0:k<=n:=cm
 have a2:k*sz<=u.length:=Nat.le_trans (VR _ aW) hm;have aw:(u.take (k*sz)).length=k*sz:=b2
 have O:0+(u.take (k*sz)).length<=cs.length:=by rw[aw,f2];have:=VR sz a0;omega
 have Z:=vg (P:=P) (off:=pre.length+0) au AW ar;rw[xZ O,V,Nat.add_zero]at Z;have aF:VG sz k (.slice C m D)=VG sz k (.slice C k D):=by cases C<;>rfl
 have aA:(VG sz k (.slice C m D)).run P w=.ok (u.take (k*sz)).toArray w:=by rw[aF];exact qB (hr.rd.sat W) a2
 refine⟨.int .i64 k,w.setRow af (pre++H++ao).toArray,_,.inl ?_,⟨rfl,rfl,rfl,by simp⟩,xY N f2 f3 f4 f5 (by rw[<-V];exact ve O),a8⟩;simp[execOp,resolve,invoke,builtin,Builtin.copy_,a5,a7,h0 a4,Builtin.lenOf,aP,aA,Z,goInt]
theorem zh{hs:List ay}{ad:Option Addr}{cs:List Value}{z:Value}{ar:Array TypeId}(i:Nat)(W:hd P t E sz=true)(ba:lA P E=some z)(bj:z.cells.toList.length=sz)(bd:z.cells.toList.all VO=true)(a0:0<sz)
    (u:bc ag x=.slice (dL ad cap i sz) (n-i) (cap-i)) (Z:ar[0]? =some t) [D:pl hs ad E sz n cap cs rest] (a7:i<=n)
    (k:∀C,C.length=cs.length->C.take (i*sz)=cs.take (i*sz)->K (.tuple #[]) (ah (aZ E sz ad n cap C::rest))):ck r P ag ⟨d,.call ⟨.builtin .clear,#[x],ar⟩,ty,ps,bh,g⟩ (ah hs) K:=by
 refine ck.run rfl λw N=>?_;by_cases au:n-i=0;obtain⟨j,H⟩:=D.tk;refine⟨.tuple #[],w,_,.inl ?_,fw.refl w,N.bg (fG H),k cs rfl rfl⟩;rw[au]at u;cases aP:dL ad cap i sz<;>rw[aP]at u<;>simp[execOp,resolve,invoke,builtin,Builtin.clear_,u,Z,(h0 W w).1];obtain⟨j,H⟩:=D.tk;have aF:cs.length=n*sz:=(by obtain⟨a5,a9,a,b,a4,rfl,aL,a8⟩:=N.bg (fG H);exact(m5 aL).1);have aA:0<cs.length:=by rw[aF];exact Nat.mul_pos U a0
 obtain⟨af,pre,aq,rfl,f2,f3,f4,f5,V⟩:=xX N D.tk aA;have aw:w.heap[af]? =some (.cells (pre++cs++aq).toArray E (0,0)):=(iA (na af E _)).sat V;have aW:dL (some ⟨af,pre.length,none⟩) cap i sz=some ⟨af,pre.length+i*sz,none⟩:=(by rw[dL,al U];simp[iB]);rw[aW]at u;have bi:(VH z.cells (n-i)).toList=(List.replicate (n-i) z.cells.toList).flatten:=(by grind[CF,VH]);have ao:(VH z.cells (n-i)).toList.length=(n-i)*sz:=b2;have a2:(VH z.cells (n-i)).toList.all VO=true:=b2;have hmul:i*sz+(n-i)*sz=n*sz:=by rw[<-Nat.add_mul];congr 1;omega
 have O:=vg (P:=P) (off:=pre.length+i*sz) aw (by rw[ao,mp,mp];omega) a2;rw[xZ (by rw[ao];omega)]at O;have mq:(dM (i*sz) (VH z.cells (n-i)).toList cs).length=cs.length:=by grind[ve]
 refine⟨.tuple #[],w.setRow af (pre++dM (i*sz) (VH z.cells (n-i)).toList cs++aq).toArray,_,.inl ?_,⟨rfl,rfl,rfl,by simp⟩,xY V f2 f3 f4 f5 mq,k _ mq ?_⟩;obtain⟨m,hm⟩:∃m,n-i=m+1:=⟨n-i-1,by omega⟩;rw[hm]at u O;have a3:(zeroValue E).run P w=.ok z w:=by grind[vw]
 simp[execOp,resolve,invoke,builtin,Builtin.clear_,u,Z,(h0 W w).1,a3,O,hm];grind[dM]
def BU(P:Program)(t:TypeId):Bool:=match P.underlying t with
  | some (.slice _)=>true
  | _=>false
theorem Mp{t:TypeId}(h:BU P t=true)(p:Option Addr)(n c:Nat)(w:World):(Op.equal t (.slice p n c) (.slice none 0 0)).run P w=.ok p.isNone w:=by unfold BU at h;cases hu:P.underlying t with|none=>rw[hu]at h;cases h|some u=>rw[hu]at h;(cases u<;>first|(cases h;done)|skip);have key:∀d,(YP (d+1) t (.slice p n c) (.slice none 0 0)).run P w=.ok p.isNone w:=λd=>(by cases p<;>simp[YP,underlying,hu]);exact key 9999
theorem Eb{p:Option Addr}{c:Nat}(u:BU P t=true)(C:bc ag x=.slice p n c)(D:bc ag y=.slice none 0 0):bE P ag ⟨d,.binOp .eql t x y t',ty,ps,bh,g⟩ A (.bool p.isNone):=by intro w _;unfold execOp;simp only[C,D,eqGuard,binOp,VB,VT,Vo,Mp u];trivial
def v7(P:Program)(t:TypeId):Bool:=match P.underlying t with
  | some .bool=>true
  | _=>false
theorem Ec{t:TypeId}(h:v7 P t=true)(a b:Bool)(w:World):(Op.equal t (.bool a) (.bool b)).run P w=.ok (a==b) w:=by unfold v7 at h;cases hu:P.underlying t with|none=>rw[hu]at h;cases h|some u=>rw[hu]at h;(cases u<;>first|(cases h;done)|skip);have key:∀d,(YP (d+1) t (.bool a) (.bool b)).run P w=.ok (a==b) w:=λd=>(by simp[YP,underlying,hu]);exact key 9999
theorem zD{a b:Bool}(u:v7 P t=true)(C:bc ag x=.bool a)(D:bc ag y=.bool b):bE P ag ⟨d,.binOp .eql t x y t',ty,ps,bh,g⟩ A (.bool (a==b)):=by intro w _;unfold execOp;simp only[C,D,eqGuard,binOp,VB,VT,Vo,Ec u];trivial
theorem xo{a b:Bool}(u:v7 P t=true)(C:bc ag x=.bool a)(D:bc ag y=.bool b):bE P ag ⟨d,.binOp .neq t x y t',ty,ps,bh,g⟩ A (.bool (a !=b)):=by intro w _;unfold execOp;simp only[C,D,eqGuard,binOp,VB,VT,Vo,Ec u];trivial
end
section
variable {r : Option Nat} {P : Program} {N : Nat} {Q : fk} {ag : Env} {aP : List Deferred} {A : ay} {c : Code}
theorem ab.fact{p:Prop}(h:∀d,A d->p)(k:p->ab r P N c Q ag aP A):ab r P N c Q ag aP A:=λa w C u=>
  k (let⟨d,_,x⟩:=u;h d x) a w C u
end
theorem JT{A:ay}{E:Nat}{cs:List Value}(x:cQ A E none cs):∀h,A h->cs=[]:=λh a=>by
  rcases x h a with d|⟨_,_,_,_,d,_⟩
  · exact d
  · cases d
def gv(r:Nat->Value)(ih:List Value):List Value:=[r 0,r 1,r 2,r 3,r 4,r 5,r 6,r 7]++ih
theorem Hr{r:Nat->Value}{ih:List Value}{p o:Nat}(u:p<8)(d:o=p):(gv r ih)[o]? =some (r p):=by rw[d];clear d;rcases p with _|_|_|_|_|_|_|_|p<;>first|rfl|omega
theorem RY{r:Nat->Value}{ih:List Value}{p o:Nat}(v:Value)(u:p<8)(d:o=p):dM o [v] (gv r ih)=gv (λx=>if x=p then v else r x) ih:=by rw[d];clear d;rcases p with _|_|_|_|_|_|_|_|p<;>first|rfl|omega
theorem Hq{r d:Nat->Value}{ih:List Value}(h:∀p,p<8->r p=d p):gv r ih=gv d ih:=by grind[gv]
theorem RX(r:Nat->Value)(ih:List Value):(gv r ih).length=8+ih.length:=by simp[gv];omega
theorem xL{n p:Nat}(d:p<n):∃L,(Wo n).Perm (p::L)/\∀x∈L,x≠p/\x<n:=by
 have hm:p∈Wo n:=b2
 obtain⟨s,t,e⟩:=Xz hm;grind[List.nodup_range]
def dK{α:Type}(f:Nat->α)(p:Nat)(v:α):Nat->α:=λx=>if x=p then v else f x
theorem jD{α:Type}(f:Nat->α)(p:Nat)(v:α):dK f p v p=v:=by simp[dK]
theorem jh{α:Type}{f:Nat->α}{p x:Nat}{v:α}(h:x≠p):dK f p v x=f x:=by simp[dK,h]
def aO{α:Type}(f:Int->α)(p:Int)(v:α):Int->α:=λx=>if x=p then v else f x
theorem cj{α:Type}(f:Int->α)(p:Int)(v:α):aO f p v p=v:=by simp[aO]
theorem bM{α:Type}{f:Int->α}{p x:Int}{v:α}(h:x≠p):aO f p v x=f x:=by simp[aO,h]
end Go.QM
namespace Go.QM
open Go Go.ChangeShapes Go.WideShapes Go.RowKit
def here(W:World):ay:=λh=>∀i,h i=W.heap[i]?
theorem NN(W:World):sat W (sep (ah []) (here W)):=
  ⟨λi=>W.heap[i]?,λ_ _ h=>h,λ_=>none,λi=>W.heap[i]?,λ_=>.inl rfl,by funext i;rfl,rfl,λ_=>rfl⟩
theorem NM{W u:World}(s:fw W u){A:ay}(h:sat u (sep A (here W))):Below W.heap.size W u:=by
 refine⟨s.os,s.tape,s.output,s.size,λk D=>?_⟩;obtain⟨x,C,a,b,d,rfl,_,w⟩:=h;have e:W.heap[k]? =some W.heap[k]:=b2
 rw[e];refine C k _ ?_;rcases d k with d|d;simp only[gj,d,w k];exact e;rw[w k,e]at d;cases d
theorem eF.lawful{P:Program}{f:FuncId}{args:List Value}{rd:ay->Prop}(h:eF P f args rd [] (λ_:Unit=>.bool true) (λ_=>True) (λ_=>[])){W:World}(D:rd (here W)):
    Calls P f args.toArray W λe d=>e=.returned (.bool true)/\Below W.heap.size W d:=
  callsIn_wide.1 ((h.2 (here W) D W (NN W)).mono λ_ _ ⟨_,u,_,w,C⟩=>⟨u,NM w C⟩)
section
variable {H : Type} {enc : TypeId × Value → H} {P : Program}
theorem Im(O:laidOutB P=true){W E:World}{ag:Nat->Bool}(N:Below W.heap.size W E):∀{C:List TypeId} {vs:List Value} {w:List (DataW H)} {p:List MemPlace},
    (∀t∈C,P.readableRec t=true/\t<P.types.size)->XS enc P W 0 (λ_=>true) true C vs w p->(∀x∈p,x.block<W.heap.size)->(∀x∈p,ag x.block=true)->
    XS enc P E 0 ag true C vs w p
  | [],vs,w,p,_,h,_,_=>by obtain⟨rfl,rfl,rfl⟩:=trodAll_nil h;exact trodAll_mk0
  | t::C,vs,w,p,D,h,V,Z=>by
   obtain⟨v,aw,d,au,p,q,rfl,rfl,rfl,ao,aq⟩:=trodAll_cons h
   exact trodAll_cons_mk (WideElems.Trod_stays O (D t cE).1 (D t cE).2 ao (λx u=>N.same (V x (by simp[u]))) (λx u=>Z x (by simp[u])))
     (Im O N (λt ar=>D t (by simp[ar])) aq (λx u=>V x (by simp[u])) (λx u=>Z x (by simp[u])))
theorem Pf{f:Func}{s:ChangeSpec}{W w:World}{args:Array Value}{d:List (DataW H)}{before:List MemPlace}{aR:TypeId}
    (av:DataW.Whole enc P f.params.toList s.vars false W args.toList d [] before) (hv:s.vars=[])
    (aA:s.fn H d={results:=[.lit (.bool true)],args:=d})
    (ao:f.resultTypes=#[aR]) (aq:P.underlying aR=some .bool) (aF:laidOutB P=true) (hr:∀t∈f.params.toList,P.readableRec t=true/\t<P.types.size)
    (Z:Below W.heap.size W w):s.post enc P f false true false false W args (.bool true) w:=by
 have O:=av.lt;have E:=av;obtain⟨p,q,ay,D,rfl,aw,_⟩:=av;rw[hv]at D;obtain⟨_,rfl⟩:=trodVars_none D;simp only[List.append_nil]at O aw E;have V:∀u:Nat->Bool,(∀x∈p,u x.block=true)->XS enc P w 0 u true f.params.toList args.toList d p:=by grind[Im]
 have C:s.fn H (d++[])={results:=[.lit (.bool true)],args:=d}:=b2
 have ag:∀(b:Nat) (u:Nat->Bool) (N:Bool),XS enc P w b u N f.resultTypes.toList ((Value.bool true).resultList f.resultTypes.size) [.lit (.bool true)] []:=λb u N=>(by rw[ao];exact trodAll_cons_mk (shut_bool aq true) trodAll_mk0);have ar:∀u:Nat->Bool,DataW.TrodVars enc P w u s.vars [] []:=by grind[DataW.TrodVars]
 refine⟨d,[],p,[],p,[],E,by rw[C];exact ag _ _ _,by rw[C];exact V _ (λx au=>by simpa using O x au),by rw[C];exact ar _,Z.frame _,λ_=>?_⟩;trivial
def cL(k:IntKind)(xs:List Int):List Value:=xs.map (λx=>.int k x)
theorem iE(k:IntKind)(xs:List Int):(cL k xs).length=xs.length:=by simp[cL]
theorem nB{k:IntKind}{xs:List Int}{i:Nat}{x:Int}(h:xs[i]? =some x):(cL k xs)[i*1]? =some (.int k x):=by simp[cL,h]
theorem BC{W:World}{a:Addr}{cs:List Value}(h:∀i v,cs[i]? =some v->W.cell? (a.add i)=some v):∃E,cQ (here W) E (some a) cs:=by
 by_cases N:cs=[];exact⟨0,λ_ _=>.inl N⟩;obtain⟨v,l,rfl⟩:=List.exists_cons_of_ne_nil N;obtain⟨D,u,H⟩:=a;have d:W.cell? ⟨D,u,H⟩=some v:=by have:=h 0 v rfl;simpa[Addr.add]using this
 cases H with|some s=>simp only[World.cell?]at d;split at d<;>simp at d|none=>
 simp only[iB,World.cell?]at d h;cases w:W.heap[D]? with|none=>rw[w]at d;cases d|some o=>(cases o with|cells c t aW=>simp only[w]at d h;simp only[Option.isSome_none,Bool.false_eq_true,if_false]at d h;refine⟨t,λP e=>.inr ⟨_,c.toList.take u,c.toList.drop (u+(v::l).length),aW,rfl,?_,?_⟩⟩;have:u<c.size:=(Array.getElem?_eq_some_iff.1 d).1;simp;omega;rw[e,w];have key:(c.toList.drop u).take (v::l).length=v::l:=(by apply List.ext_getElem?;intro i;by_cases C:i<(v::l).length;rw[List.getElem?_take_of_lt C,List.getElem?_drop,Array.getElem?_toList];rw[h i _ (Vc C),Vc C];rw[Xj (by simp at C⊢;omega),Xj U]);have:c.toList.take u++(v::l)++c.toList.drop (u+(v::l).length)=c.toList:=(by rw[<-List.drop_drop,List.append_assoc];have O:v::l++(c.toList.drop u).drop (v::l).length=c.toList.drop u:=(by have:=V4 (v::l).length (c.toList.drop u);rw[key]at this;exact this);rw[O,V4]);rw[this]|_=>rw[w]at d;cases d)
end
end Go.QM
namespace Go.QM
open Go
structure ea(L:List Nat)(R:Prop):Prop where
  k:R
structure ak(c:Nat)(X:Prop):Prop where
  k:X
abbrev cF(b:Nat):Option Addr:=some ⟨b,0,none⟩
abbrev ae(b:Nat):Value:=.pointer (some ⟨b,0,none⟩)
abbrev bH:=@eF Yg
abbrev bn(f:FuncId)(a:List Value)(rd:ay->Prop)(pre:List ay)(v:Value)(post:List ay):Prop:=eF Yg f a rd pre (λ_:Unit=>v) (λ_=>True) (λ_=>post)
abbrev aa(x:Int):Value:=.int .i64 x
abbrev bk(x:Int):Value:=.int .u64 x
abbrev aS(x:Int):Value:=.int .u32 x
abbrev m6(x:Int):Value:=.int .u8 x
theorem ai{A B:ay}(h:aG A B:=by repeat(first|exact aX _|refine bP 0 rfl ?_|refine bP 1 rfl ?_|refine bP 2 rfl ?_|refine bP 3 rfl ?_|refine bP 4 rfl ?_|refine bP 5 rfl ?_|refine bP 6 rfl ?_|refine bP 7 rfl ?_|refine bP 8 rfl ?_|refine bP 9 rfl ?_|refine bP 10 rfl ?_|refine bP 11 rfl ?_|refine bP 12 rfl ?_|refine bP 13 rfl ?_|refine bP 14 rfl ?_|refine bP 15 rfl ?_|refine bP 16 rfl ?_|refine bP 17 rfl ?_|refine bP 18 rfl ?_)):aG A B:=h
theorem UX{G R:Prop}(k:R)(h:ea [] R->G:=by intro z;(first|refine bP 0 rfl ?_|refine bP 1 rfl ?_|refine bP 2 rfl ?_|refine bP 3 rfl ?_|refine bP 4 rfl ?_|refine bP 5 rfl ?_|refine bP 6 rfl ?_|refine bP 7 rfl ?_|refine bP 8 rfl ?_|refine bP 9 rfl ?_|refine bP 10 rfl ?_|refine bP 11 rfl ?_|refine bP 12 rfl ?_|refine bP 13 rfl ?_|refine bP 14 rfl ?_|refine bP 15 rfl ?_|refine bP 16 rfl ?_|refine bP 17 rfl ?_|refine bP 18 rfl ?_);exact z.k):G:=h ⟨k⟩
theorem eA{p:Prop}(h:p:=by first|assumption|(simp[dP]<;>omega)):p:=h
theorem aF{P:Program}{f:FuncId}{fn:Func}{c:Code}{N:Nat}{rs:List ResultVar}{args:List Value}{rd:ay->Prop}{pre:List ay}{Y:Type}{res:Y->Value}{φ:Y->Prop}{post:Y->List ay}
    (EP:P.funcs[f]? =some fn) (bB:fn.ntmps=N) (h:∀F,rd F->ab none P N c (b4 P rs res φ post F) (n6 args) [] (ah (pre++[F]))) (lj:fn.body=some c:=by rfl) (NZ:fn.results=rs.toArray:=by rfl) (gV:Nat.ble args.length N=true:=by rfl) (he:ld P f=true:=by kernel_rfl):eF P f args rd pre res φ post:=eF.intro he EP lj bB gV NZ h
section
variable {P : Program} {rs : List ResultVar} {Y : Type} {res : Y → Value} {φ : Y → Prop} {post : Y → List ay} {F : ay} {ag : Env} {A : ay} {v w : Value}
theorem CX(y:Y)(gC:φ y)(h6:aG A (ah (post y++[F])))(gA:iM P rs [] ag A:=by exact trivial)(gB:jR []=res y:=by rfl):b4 P rs res φ post F .ret ag [] A:=b4.i y [] gA gB gC h6
theorem br(y:Y)(gC:φ y)(h6:aG A (ah (post y++[F])))(gA:iM P rs [v] ag A:=by exact⟨rfl,trivial⟩)(gB:jR [v]=res y:=by rfl):b4 P rs res φ post F .ret ag [] A:=b4.i y [v] gA gB gC h6
theorem cT(y:Y)(gC:φ y)(h6:aG A (ah (post y++[F])))(gA:iM P rs [v,w] ag A:=by exact⟨rfl,rfl,trivial⟩)(gB:jR [v,w]=res y:=by rfl):b4 P rs res φ post F .ret ag [] A:=b4.i y [v,w] gA gB gC h6
theorem mR(y:Y)(gC:φ y)(h6:aG A (ah (post y++[F])))(gA:iM P rs [] ag A:=by exact trivial)(gB:jR []=res y:=by rfl):b4 P rs res φ post F .normal ag [] A:=b4.n y [] gA gB gC h6
theorem UR(y:Y)(gC:φ y)(h6:aG A (ah (post y++[F])))(gA:iM P rs [v] ag A:=by exact⟨rfl,trivial⟩)(gB:jR [v]=res y:=by rfl):b4 P rs res φ post F .normal ag [] A:=b4.n y [v] gA gB gC h6
theorem US(y:Y)(gC:φ y)(h6:aG A (ah (post y++[F])))(gA:iM P rs [v,w] ag A:=by exact⟨rfl,rfl,trivial⟩)(gB:jR [v,w]=res y:=by rfl):b4 P rs res φ post F .normal ag [] A:=b4.n y [v,w] gA gB gC h6
end
section
variable {P : Program} {rs : List ResultVar} {res : Unit → Value} {φ : Unit → Prop} {post : Unit → List ay} {F : ay} {ag : Env} {A : ay} {v w : Value}
theorem JY(h6:aG A (ah (post ()++[F])))(gA:iM P rs [] ag A:=by exact trivial)(gB:jR []=res ():=by rfl)(gC:φ ():=by trivial):b4 P rs res φ post F .ret ag [] A:=b4.i () [] gA gB gC h6
theorem e9(h6:aG A (ah (post ()++[F])))(gA:iM P rs [v] ag A:=by exact⟨rfl,trivial⟩)(gB:jR [v]=res ():=by rfl)(gC:φ ():=by trivial):b4 P rs res φ post F .ret ag [] A:=b4.i () [v] gA gB gC h6
theorem hN(h6:aG A (ah (post ()++[F])))(gA:iM P rs [v,w] ag A:=by exact⟨rfl,rfl,trivial⟩)(gB:jR [v,w]=res ():=by rfl)(gC:φ ():=by trivial):b4 P rs res φ post F .ret ag [] A:=b4.i () [v,w] gA gB gC h6
theorem qp(h6:aG A (ah (post ()++[F])))(gA:iM P rs [] ag A:=by exact trivial)(gB:jR []=res ():=by rfl)(gC:φ ():=by trivial):b4 P rs res φ post F .normal ag [] A:=b4.n () [] gA gB gC h6
theorem UT(h6:aG A (ah (post ()++[F])))(gA:iM P rs [v] ag A:=by exact⟨rfl,trivial⟩)(gB:jR [v]=res ():=by rfl)(gC:φ ():=by trivial):b4 P rs res φ post F .normal ag [] A:=b4.n () [v] gA gB gC h6
theorem UU(h6:aG A (ah (post ()++[F])))(gA:iM P rs [v,w] ag A:=by exact⟨rfl,rfl,trivial⟩)(gB:jR [v,w]=res ():=by rfl)(gC:φ ():=by trivial):b4 P rs res φ post F .normal ag [] A:=b4.n () [v,w] gA gB gC h6
end
section
variable {r : Option Nat} {P : Program} {N : Nat} {ops : Array Oper} {l : List Oper} {Q : fk} {ag : Env} {aP : List Deferred} {A : ay} {K : Value → ay → Prop}
variable {d : Option Tmp} {ty : TypeId} {ps : String} {bh : Array Edge} {g : Option (Nat × Bool)}
theorem a7{f:FuncId}{vs:List Value}{nY:List Operand}{r9:Array TypeId}{rd:ay->Prop}{pre hs rest:List ay}{Y:Type}{res:Y->Value}{φ:Y->Prop}{post:Y->List ay}
    (spec:eF P f vs rd pre res φ post) (k:∀y,φ y->K (res y) (ah (post y++rest))) (kD:lT ag nY=vs:=by rfl) (lX:lI hs pre rest:=by exact eC.p) (rF:rd (ah rest):=by first|trivial|exact cv.aY):
    ck r P ag ⟨d,.call ⟨.value (.func f),nY.toArray,r9⟩,ty,ps,bh,g⟩ (ah hs) K:=aI spec kD lX rF k
theorem aq{f:FuncId}{vs:List Value}{nY:List Operand}{r9:Array TypeId}{rd:ay->Prop}{pre hs rest:List ay}{res:Unit->Value}{φ:Unit->Prop}{post:Unit->List ay}
    (spec:eF P f vs rd pre res φ post) (k:K (res ()) (ah (post ()++rest))) (kD:lT ag nY=vs:=by rfl) (lX:lI hs pre rest:=by exact eC.p) (rF:rd (ah rest):=by first|trivial|exact cv.aY):
    ck r P ag ⟨d,.call ⟨.value (.func f),nY.toArray,r9⟩,ty,ps,bh,g⟩ (ah hs) K:=aI spec kD lX rF λ_ _=>k
theorem eL{f:FuncId}{vs:List Value}{nY:List Operand}{r9:Array TypeId}{rd:ay->Prop}{pre hs rest:List ay}{Y:Type}{res:Y->Value}{φ:Y->Prop}{post:Y->List ay}
    (spec:eF P f vs rd pre res φ post) (rF:rd (ah rest)) (k:∀y,φ y->K (res y) (ah (post y++rest))) (kD:lT ag nY=vs:=by rfl) (lX:lI hs pre rest:=by exact eC.p):
    ck r P ag ⟨d,.call ⟨.value (.func f),nY.toArray,r9⟩,ty,ps,bh,g⟩ (ah hs) K:=aI spec kD lX rF k
theorem ew{f:FuncId}{vs:List Value}{nY:List Operand}{r9:Array TypeId}{rd:ay->Prop}{pre hs rest:List ay}{res:Unit->Value}{φ:Unit->Prop}{post:Unit->List ay}
    (spec:eF P f vs rd pre res φ post) (rF:rd (ah rest)) (k:K (res ()) (ah (post ()++rest))) (kD:lT ag nY=vs:=by rfl) (lX:lI hs pre rest:=by exact eC.p):
    ck r P ag ⟨d,.call ⟨.value (.func f),nY.toArray,r9⟩,ty,ps,bh,g⟩ (ah hs) K:=aI spec kD lX rF λ_ _=>k
end
section
variable {r : Option Nat} {P : Program} {N : Nat} {Q : fk} {ag : Env} {aP : List Deferred} {A I : ay}
theorem cC{id:Nat}{l:List Oper}(c:List (Nat×Bool))(NH:aG A I)(h:ca r P N l.toArray I [] c Q ag aP A)(hm:P.follows .mixedOrders=true:=by kernel_rfl)(aQ:y8 l.toArray [] c=true:=by kernel_rfl):ab r P N (.region id l.toArray true) Q ag aP A:=ab.draw I [] c hm aQ NH h
end
theorem bI{G:Prop}(h:G:=by repeat(first|exact trivial|refine⟨rfl,?_⟩)):G:=h
theorem eJ{α:Sort _}(a:α):∃v,a=v:=⟨a,rfl⟩
theorem UY{α:Sort _}(a:α):∃v,v=a:=⟨a,rfl⟩
theorem an{B:ay}{r gs:List ay}(k:aG (ah (r)) (ah gs)):aG (ah (B::r)) (ah (B::gs)):=bP 0 rfl k
theorem bU{ed B:ay}{r gs:List ay}(k:aG (ah (ed::r)) (ah gs)):aG (ah (ed::B::r)) (ah (B::gs)):=bP 1 rfl k
theorem bv{ed d B:ay}{r gs:List ay}(k:aG (ah (ed::d::r)) (ah gs)):aG (ah (ed::d::B::r)) (ah (B::gs)):=bP 2 rfl k
theorem c0{ed d u B:ay}{r gs:List ay}(k:aG (ah (ed::d::u::r)) (ah gs)):aG (ah (ed::d::u::B::r)) (ah (B::gs)):=bP 3 rfl k
theorem eQ{ed d u w B:ay}{r gs:List ay}(k:aG (ah (ed::d::u::w::r)) (ah gs)):aG (ah (ed::d::u::w::B::r)) (ah (B::gs)):=bP 4 rfl k
theorem eE{ed d u w C B:ay}{r gs:List ay}(k:aG (ah (ed::d::u::w::C::r)) (ah gs)):aG (ah (ed::d::u::w::C::B::r)) (ah (B::gs)):=bP 5 rfl k
instance (n:Nat):OfNat (Nat×Bool) n:=⟨(OfNat.ofNat n,false)⟩
instance:Neg (Nat×Bool):=⟨λx=>(x.1,true)⟩
theorem dh{G:Prop}(h:G:=by exact e9 ai):G:=h
theorem hC{G:Prop}(h:G:=by exact e9 (an (an (aX _)))):G:=h
theorem j7{G:Prop}(h:G:=by exact e9 (an (aX _))):G:=h
theorem kt{G:Prop}(h:G:=by exact e9 (az (⟨bx,a,af,aR,B,M,ad,cap⟩:jk) bB ai)):G:=h
theorem kV{G:Prop}(h:G:=by exact b4.i () [_,_] ⟨(e5 (n:=3) rfl rfl rfl rfl),rfl,trivial⟩ rfl trivial ai):G:=h
theorem nO{G:Prop}(h:G:=by exact br _ trivial ai):G:=h
theorem ow{G:Prop}(h:G:=by exact e9 (az ⟨A,aC⟩ av (an (an (an (an (aX _))))))):G:=h
theorem ox{G:Prop}(h:G:=by exact b4.i () [_,_] ⟨(e5 (n:=2) rfl rfl rfl rfl),rfl,trivial⟩ rfl trivial ai):G:=h
theorem o8{G:Prop}(h:G:=by exact e9 (az (⟨ad,cap,aC⟩:kX) bB ai)):G:=h
theorem rb{G:Prop}(h:G:=by exact br false (λh=>(by cases h)) ai):G:=h
theorem si{G:Prop}(h:G:=by exact e9 (az (⟨A,aC⟩:oE) av ai)):G:=h
theorem sj{G:Prop}(h:G:=by exact b4.i () [_] ⟨rfl,trivial⟩ (congrArg Value.bool (decide_eq_decide.2 U)) trivial (an (aX _))):G:=h
theorem sk{G:Prop}(h:G:=by exact b4.i () [_] ⟨rfl,trivial⟩ (congrArg Value.bool (dn U).symm) trivial (an (aX _))):G:=h
theorem tp{G:Prop}(h:G:=by exact hN (an (an (an (aX _))))):G:=h
theorem tq{G:Prop}(h:G:=by exact cT (0,2) (λbJ=>absurd bJ (show ¬(2:Int)=0 by decide)) (az (⟨b5,aB⟩:eN) trivial (eE (eE (az (bT.mk aH bu:bT) trivial ai))))):G:=h
theorem tr{G:Prop}(h:G:=by exact b4.i () [_,_,_] ⟨(e5 (n:=3) rfl rfl rfl rfl),rfl,rfl,trivial⟩ rfl trivial (az (⟨(aO ad to (dL (ad to) (cap to) 1 3)),(aO cap to (cap to-1)),aC⟩:kX) bB ai)):G:=h
theorem yq{G:Prop}(h:G:=by exact qp (an (an (aX _)))):G:=h
theorem yr{G:Prop}(h:G:=by exact b4.i () [_,_] ⟨(e5 (n:=3) rfl rfl rfl rfl),rfl,trivial⟩ (by rw[aN];rfl) trivial (bU (aX _))):G:=h
theorem ys{G:Prop}(h:G:=by exact cT (0,X) (.inl ⟨qG,rfl⟩) ai):G:=h
theorem yt{G:Prop}(h:G:=by exact e9 (az ⟨ad,cap,aC⟩ bB (an (an (an (an (an (aX _)))))))):G:=h
theorem yu{G:Prop}(h:G:=by exact b4.i () [_,_,_] ⟨(e5 (n:=3) rfl rfl rfl rfl),rfl,rfl,trivial⟩ rfl trivial (az (⟨ad,cap,aC⟩:kX) bB ai)):G:=h
theorem yv{G:Prop}(h:G:=by exact hN (az (⟨ad,cap,aC⟩:kX) bB ai)):G:=h
theorem yw{G:Prop}(h:G:=by exact cT ((0,cq),dr) ⟨cG,λe=>by omega,λe=>by omega,λe=>by omega⟩ (an (eI 0 rfl (hH U) ai))):G:=h
theorem yx{G:Prop}(h:G:=by exact br (none:Option oC) ⟨λ_=>eM,λz h=>(by cases h)⟩ (az () trivial ai)):G:=h
theorem yy{G:Prop}(h:G:=by exact b4.i _ [_] ⟨rfl,trivial⟩ rfl (λh=>(by cases h)) ai):G:=h
theorem Cv{G:Prop}(h:G:=by exact hN (az (⟨A,aC⟩:oE) av ai)):G:=h
theorem Cw{G:Prop}(h:G:=by exact hN (az A trivial (az ⟨ad,cap,aC,bz⟩ av (bU (bU (bU (bU (bU (bU (aX _)))))))))):G:=h
theorem Cx{G:Prop}(h:G:=by exact b4.i (A3,qN) [_] ⟨(e5 (n:=3) rfl rfl rfl rfl),trivial⟩ rfl nR.zero ((dI 277 5 _).trans ((dI 47 1 _).trans ai))):G:=h
theorem Cy{G:Prop}(h:G:=by exact cT (0,9) (λbJ=>absurd bJ (show ¬(9:Int)=0 by decide)) (az (⟨b5,aB⟩:eN) trivial (eE (eE (az (bT.mk aH bu:bT) trivial ai))))):G:=h
theorem Cz{G:Prop}(h:G:=by exact cT (0,3) (λbJ=>absurd bJ (show ¬(3:Int)=0 by decide)) (az (⟨b5,aB⟩:eN) trivial (eE (eE (az (bT.mk aH bu:bT) trivial ai))))):G:=h
theorem CA{G:Prop}(h:G:=by exact b4.i () [_,_] ⟨(e5 (n:=3) rfl rfl rfl rfl),rfl,trivial⟩ rfl trivial (az (⟨bx,a,af,aR,B,M,ad,cap⟩:jk) bB ai)):G:=h
theorem CB{G:Prop}(h:G:=by exact br ((b3 X.A.l t 3).2,⟨X,T,aM,hv,bm,aY,I,bw,lv⟩) (d8.refl _) (az (⟨aK,a1,aJ,hm,be,lm,bp⟩:di) ⟨av,aQ.up U⟩ ai)):G:=h
theorem CC{G:Prop}(h:G:=by exact br ((b3 X.A.l t 5).2,⟨X,T,aM,hv,bm,aY,I,bw,lv⟩) (d8.refl _) (az (⟨aK,a1,aJ,hm,be,lm,bp⟩:di) ⟨av,aQ.up U⟩ ai)):G:=h
theorem CD{G:Prop}(h:G:=by exact br _ trivial (az (⟨aK,a1,aJ,hm,be,lm,bp⟩:di) ⟨av,aQ⟩ ai)):G:=h
theorem CE{G:Prop}(h:G:=by exact b4.i false [_] ⟨rfl,trivial⟩ rfl (λh=>(by cases h)) ai):G:=h
theorem I4{G:Prop}(h:G:=by exact e9 (az A trivial (az ⟨ad,cap,aC,bz⟩ av (an (an (an (an (an (an (aX _)))))))))):G:=h
theorem I5{G:Prop}(h:G:=by exact cT ((none,0),X) (.inl ⟨hv,rfl⟩) ((dI 33 1 _).trans (an (az (bT.mk aH bu:bT) trivial ai)))):G:=h
theorem I6{G:Prop}(h:G:=by exact br (0,⟨X.A.lay (bF h) s (dO c 15) Q,(b1.hi X.L X.last 0 (h,(s:Int))).1,(b1.hi X.L X.last 0 (h,(s:Int))).2.1⟩) (.inl ⟨rfl,rC,Q,ul,rfl⟩) (az (bT.mk aH bu:bT) trivial ai)):G:=h
theorem I7{G:Prop}(h:G:=by exact b4.i (OU,false) [_,_] ⟨(e5 (n:=5) rfl rfl rfl rfl),rfl,trivial⟩ rfl ⟨⟨by decide,by decide,by decide,by decide⟩,λh=>absurd h am⟩ ai):G:=h
theorem I8{G:Prop}(h:G:=by exact b4.i (0,0) [_] ⟨(e5 (n:=2) rfl rfl rfl rfl),trivial⟩ rfl ⟨by decide,by decide⟩ ai):G:=h
theorem I9{G:Prop}(h:G:=by exact cT ([],none,0,1) ⟨Nat.zero_le _,λm h=>(by cases h)⟩ ((dI 427 4 _).trans ai)):G:=h
theorem Ja{G:Prop}(h:G:=by exact b4.i () [_,_] ⟨(e5 (n:=3) rfl rfl rfl rfl),rfl,trivial⟩ rfl trivial (az (⟨ad,cap,aC⟩:kX) bB ai)):G:=h
theorem Jb{G:Prop}(h:G:=by exact e9 (az (⟨ad,cap,aC⟩:kX) bB (an (an (cY 0 0 id rfl rfl rfl (λ_ _=>rfl) bK.symm (an (an (aX _)))))))):G:=h
theorem Jc{G:Prop}(h:G:=by exact CX ⟨X,T,aM,hv,bm,aY,I,bw,lv⟩ rfl (az (⟨aK,a1,aJ,hm,be,lm,bp⟩:di) ⟨av,aQ.up U⟩ ai)):G:=h
theorem Jd{G:Prop}(h:G:=by exact br (cq,⟨X,T,aM,hv,bm,aY,I,bw,lv⟩) (d8.refl _) (az (⟨aK,a1,aJ,hm,be,lm,bp⟩:di) ⟨av,aQ.up U⟩ ai)):G:=h
theorem Je{G:Prop}(h:G:=by exact br (12,⟨X,T,aM,hv,bm,aY,I,bw,lv⟩) (d8.refl _) (az (⟨aK,a1,aJ,hm,be,lm,bp⟩:di) ⟨av,aQ.up U⟩ ai)):G:=h
theorem Jf{G:Prop}(h:G:=by exact br (12,⟨X,T,aM,hv,bm,aY,I,bw,lv⟩) ⟨d8.refl _,λ_ _ _ _=>rfl⟩ (az (⟨aK,a1,aJ,hm,be,lm,bp⟩:di) ⟨av,aQ.up U⟩ (an (c0 (an (bv (bv (bv (cY 0 0 g rfl rfl rfl (λ_ _=>rfl) ec.symm ai))))))))):G:=h
theorem Jg{G:Prop}(h:G:=by exact cT (⟨fy,T,aM,hv,bm,aY,I,bw,lv⟩,0,cq) ⟨.inr bK,λ_=>⟨rfl,rfl,λh=>absurd h he⟩,λ_ h=>absurd h he⟩ (az (⟨aK,a1,aJ,hm,be,lm,bp⟩:di) ⟨av.o6 j1 mq,aQ.o6 U U⟩ (c0 (az (⟨b5,aB⟩:eN) trivial ai)))):G:=h
theorem Jh{G:Prop}(h:G:=by exact b4.i () [_,_] ⟨(e5 (n:=2) rfl rfl rfl rfl),rfl,trivial⟩ rfl trivial (c0 (az (⟨aK,a1,aJ,hm,be,lm,bp⟩:di) ⟨av,aQ⟩ (c0 (az (⟨b5,aB⟩:eN) trivial ai))))):G:=h
theorem Ji{G:Prop}(h:G:=by exact b4.i () [_] ⟨(e5 (n:=3) rfl rfl rfl rfl),trivial⟩ rfl trivial ai):G:=h
theorem Jj{G:Prop}(h:G:=by exact br (none:Option oC) (λz h=>(by cases h)) (az () trivial ai)):G:=h
theorem Jl{c:Nat}{L:List Nat}{G R X:Prop}(z:ea (c::L) R)(k:ea L R->X)(a:Nat.ble 0 c=true:=by rfl)(b:Nat.ble c 23=true:=by rfl)(h:ak c X->G:=by intro z;(first|(have:ak 0 _:=z;refine e rfl ?_)|(have:ak 1 _:=z;change ab _ _ _ _ _ _ _ (ah [_,_]))|(have:ak 2 _:=z;refine aU.nil (hW ?_))|(have:ak 3 _:=z;refine q rfl rfl (fR (v:=.int _ _) rfl) ?_)|(have:ak 4 _:=z;refine ab.skip (hW ?_))|(have:ak 5 _:=z;change aU _ _ _ _ _ _ _ _ (ah [_,_]))|(have:ak 6 _:=z;change aU _ _ _ _ _ _ _ _ (ah [_,_,_]))|(have:ak 7 _:=z;refine ab.seq ?_)|(have:ak 8 _:=z;change ab _ _ _ _ _ _ _ (ah [_]))|(have:ak 9 _:=z;change aU _ _ _ _ _ _ _ _ (ah [_,_,_,_,_]))|(have:ak 10 _:=z;refine⟨ai,?_⟩)|(have:ak 11 _:=z;change ab _ _ _ _ _ _ _ (ah [_,_,_]))|(have:ak 12 _:=z;refine ab.Lx rfl ?_)|(have:ak 13 _:=z;refine db rfl rfl rfl (fR (v:=.int _ _) rfl) ?_)|(have:ak 14 _:=z;change aU _ _ _ _ _ _ _ _ (ah [_,_,_,_]))|(have:ak 15 _:=z;change aU _ _ _ _ _ _ _ _ (ah [_,_,_,_,_,_]))|(have:ak 16 _:=z;refine bY rfl rfl rfl (fR (v:=.int _ _) rfl) ?_)|(have:ak 17 _:=z;refine dY rfl rfl ?_)|(have:ak 18 _:=z;change aU _ _ _ _ _ _ _ _ (ah [_,_,_,_,_,_,_]))|(have:ak 19 _:=z;refine q rfl rfl (fR (v:=.bool _) rfl) ?_)|(have:ak 20 _:=z;refine ab.skip (jb (hW ?_)))|(have:ak 21 _:=z;change aU _ _ _ _ _ _ _ _ (ah [_,_,_,_,_,_,_,_,_]))|(have:ak 22 _:=z;refine eB ?_)|(have:ak 23 _:=z;refine ab.Lw rfl ?_));exact z.k):G:=h ⟨k ⟨z.k⟩⟩
theorem JC{c:Nat}{L:List Nat}{G R X:Prop}(z:ea (c::L) R)(k:ea L R->X)(a:Nat.ble 72 c=true:=by rfl)(b:Nat.ble c 95=true:=by rfl)(h:ak c X->G:=by intro z;(first|(have:ak 72 _:=z;refine ab.block ?_)|(have:ak 73 _:=z;refine ca.nil (hW ?_))|(have:ak 74 _:=z;refine ab.ret (rt ?_))|(have:ak 75 _:=z;refine ab.exit (lS (lS (qw (hW ?_)))))|(have:ak 76 _:=z;change aU _ _ _ _ _ _ _ _ (ah [_,_,_,_,_,_,_,_]))|(have:ak 77 _:=z;refine q rfl rfl (oG (v:=.int _ _) rfl) ?_)|(have:ak 78 _:=z;refine bY rfl rfl rfl (fR (v:=.pointer _) rfl) ?_)|(have:ak 79 _:=z;change ab _ _ _ _ _ _ _ (ah [_,_,_,_,_,_,_,_,_]))|(have:ak 80 _:=z;refine q rfl rfl (sY rfl) ?_)|(have:ak 81 _:=z;refine q rfl rfl (c1 0 rfl rfl) ?_)|(have:ak 82 _:=z;change ab _ _ _ _ _ _ _ (ah [_,_,_,_,_]))|(have:ak 83 _:=z;change ab _ _ _ _ _ _ _ (ah [_,_,_,_]))|(have:ak 84 _:=z;refine q rfl rfl (gG rfl rfl rfl) ?_)|(have:ak 85 _:=z;refine q rfl rfl (oG (v:=.slice _ _ _) rfl) ?_)|(have:ak 86 _:=z;refine bY rfl rfl rfl (c1 0 rfl rfl) ?_)|(have:ak 87 _:=z;refine q rfl rfl (uJ rfl rfl) ?_)|(have:ak 88 _:=z;refine bY rfl rfl rfl (sY rfl) ?_)|(have:ak 89 _:=z;refine q rfl rfl (uM rfl) ?_)|(have:ak 90 _:=z;refine L5 rfl rfl rfl ?_)|(have:ak 91 _:=z;refine q rfl rfl (pu (v:=.int _ _) (λ_=>rfl)) ?_)|(have:ak 92 _:=z;refine bY rfl rfl rfl (gG rfl rfl rfl) ?_)|(have:ak 93 _:=z;refine q rfl rfl (fR (v:=.slice _ _ _) rfl) ?_)|(have:ak 94 _:=z;refine pB rfl rfl ?_)|(have:ak 95 _:=z;refine q rfl rfl (oG rfl) ?_));exact z.k):G:=h ⟨k ⟨z.k⟩⟩
theorem JD{c:Nat}{L:List Nat}{G R X:Prop}(z:ea (c::L) R)(k:ea L R->X)(a:Nat.ble 144 c=true:=by rfl)(b:Nat.ble c 167=true:=by rfl)(h:ak c X->G:=by intro z;(first|(have:ak 144 _:=z;change ab _ _ _ _ _ _ _ (ah [_,_,_,_,_,_,_,_]))|(have:ak 145 _:=z;change aU _ _ _ _ _ _ _ _ (ah [_,_,_,_,_,_,_,_,_,_]))|(have:ak 146 _:=z;refine q rfl rfl (io rfl rfl U U) ?_)|(have:ak 147 _:=z;refine q rfl rfl (eh (cs:=[.int _ _,.int _ _]) rfl) ?_)|(have:ak 148 _:=z;refine ab.ret ?_)|(have:ak 149 _:=z;refine q rfl rfl (Bq (v:=.bool _) rfl rfl) ?_)|(have:ak 150 _:=z;refine bs (cs:=[.int _ _]) rfl ?_)|(have:ak 151 _:=z;change aU _ _ _ _ _ _ _ _ (ah [_]))|(have:ak 152 _:=z;refine bY rfl rfl rfl (fR (v:=.tuple _) rfl) ?_)|(have:ak 153 _:=z;change aU _ _ _ _ _ _ _ _ (ah [_,_,_,_,_,_,_,_,_,_,_,_,_]))|(have:ak 154 _:=z;refine bY rfl rfl rfl (fR (v:=.bool _) rfl) ?_)|(have:ak 155 _:=z;refine ab.region ?_)|(have:ak 156 _:=z;refine q rfl rfl (D9 rfl rfl rfl) ?_)|(have:ak 157 _:=z;change ab _ _ _ _ _ _ _ (ah [_,_,_,_,_,_]))|(have:ak 158 _:=z;refine q rfl rfl (fR (v:=.pointer _) rfl) ?_)|(have:ak 159 _:=z;refine db rfl rfl rfl (gtr rfl rfl) ?_)|(have:ak 160 _:=z;refine db rfl rfl rfl (wp rfl rfl) ?_)|(have:ak 161 _:=z;refine ab.ret (kN (rt ?_)))|(have:ak 162 _:=z;refine Rj rfl rfl ?_)|(have:ak 163 _:=z;refine eH rfl rfl rfl rfl (gG rfl rfl rfl) ?_)|(have:ak 164 _:=z;refine q rfl rfl (oG (v:=.pointer _) rfl) ?_)|(have:ak 165 _:=z;refine db rfl rfl rfl (gG rfl rfl rfl) ?_)|(have:ak 166 _:=z;refine ab.ret (kN (rt (rt (kN (rt ?_))))))|(have:ak 167 _:=z;refine q rfl rfl (gtr rfl rfl) ?_));exact z.k):G:=h ⟨k ⟨z.k⟩⟩
theorem Jm{c:Nat}{L:List Nat}{G R X:Prop}(z:ea (c::L) R)(k:ea L R->X)(a:Nat.ble 240 c=true:=by rfl)(b:Nat.ble c 263=true:=by rfl)(h:ak c X->G:=by intro z;(first|(have:ak 240 _:=z;refine db rfl rfl rfl (uJ rfl rfl) ?_)|(have:ak 241 _:=z;refine bY rfl rfl rfl (Bq (v:=.bool _) rfl rfl) ?_)|(have:ak 242 _:=z;refine eS (v:=.agg #[_,_]) (l:=[.int _ _,.int _ _]) rfl rfl ?_)|(have:ak 243 _:=z;refine q rfl rfl (oo rfl rfl U U) ?_)|(have:ak 244 _:=z;refine q rfl rfl (fQ (vs:=[_,_]) 2 rfl rfl rfl rfl) ?_)|(have:ak 245 _:=z;change ab _ _ _ _ _ _ _ (ah [_,_,_,_,_,_,_]))|(have:ak 246 _:=z;refine aU.nil (jb (hW ?_)))|(have:ak 247 _:=z;refine gx (l:=[.int _ _,.int _ _,.int _ _]) rfl rfl ?_)|(have:ak 248 _:=z;change aG _ _/\ca _ _ _ _ _ _ _ _ _ _ (ah [_,_,_,_,_,_,_,_,_,_]))|(have:ak 249 _:=z;refine q rfl rfl (len 47 1 rfl rfl) ?_)|(have:ak 250 _:=z;refine bY rfl rfl rfl (fQ (vs:=[_,_]) 2 rfl rfl rfl rfl) ?_)|(have:ak 251 _:=z;refine q rfl rfl (eh (cs:=[.int _ _,.int _ _,.int _ _]) rfl) ?_)|(have:ak 252 _:=z;refine q rfl rfl (len 33 1 rfl rfl) ?_)|(have:ak 253 _:=z;change aG _ _/\ca _ _ _ _ _ _ _ _ _ _ (ah [_,_,_,_,_,_,_,_,_]))|(have:ak 254 _:=z;refine gx (l:=[.int _ _,.int _ _,.bool _]) rfl rfl ?_)|(have:ak 255 _:=z;refine q rfl rfl (eh (cs:=[.int _ _,.int _ _,.bool _]) rfl) ?_)|(have:ak 256 _:=z;refine q rfl rfl (pu (v:=.bool _) (λ_=>rfl)) ?_)|(have:ak 257 _:=z;refine gx (l:=[.int _ _,.int _ _]) rfl rfl ?_)|(have:ak 258 _:=z;refine DU rfl ?_)|(have:ak 259 _:=z;refine eS (v:=.agg #[_,_,_]) (l:=[.int _ _,.int _ _,.int _ _]) rfl rfl ?_)|(have:ak 260 _:=z;change aG _ _/\ca _ _ _ _ _ _ _ _ _ _ (ah [_,_,_,_,_,_]))|(have:ak 261 _:=z;change aG _ _/\ca _ _ _ _ _ _ _ _ _ _ (ah [_,_,_,_,_,_,_]))|(have:ak 262 _:=z;change aG _ _/\ca _ _ _ _ _ _ _ _ _ _ (ah [_,_,_]))|(have:ak 263 _:=z;refine db rfl rfl rfl (leq rfl rfl) ?_));exact z.k):G:=h ⟨k ⟨z.k⟩⟩
theorem Jn{c:Nat}{L:List Nat}{G R X:Prop}(z:ea (c::L) R)(k:ea L R->X)(a:Nat.ble 288 c=true:=by rfl)(b:Nat.ble c 311=true:=by rfl)(h:ak c X->G:=by intro z;(first|(have:ak 288 _:=z;refine q rfl rfl (c1 2 rfl rfl) ?_)|(have:ak 289 _:=z;refine db rfl rfl rfl (fR (v:=.pointer _) rfl) ?_)|(have:ak 290 _:=z;change aG _ _/\ca _ _ _ _ _ _ _ _ _ _ (ah [_,_,_,_,_,_,_,_]))|(have:ak 291 _:=z;refine eH rfl rfl rfl rfl (fR (v:=.int _ _) rfl) ?_)|(have:ak 292 _:=z;refine LZ rfl rfl rfl ?_)|(have:ak 293 _:=z;refine ca.nil (jb (hW ?_)))|(have:ak 294 _:=z;refine bs (cs:=[.int _ _,.int _ _]) rfl ?_)|(have:ak 295 _:=z;refine db rfl rfl rfl (c1 3 rfl rfl) ?_)|(have:ak 296 _:=z;refine q rfl rfl (fR (v:=.tuple _) rfl) ?_)|(have:ak 297 _:=z;refine q rfl rfl (wp rfl rfl) ?_)|(have:ak 298 _:=z;change aG _ _/\ca _ _ _ _ _ _ _ _ _ _ (ah [_,_,_,_,_]))|(have:ak 299 _:=z;refine eH rfl rfl rfl rfl (sY rfl) ?_)|(have:ak 300 _:=z;refine bY rfl rfl rfl (fQ (vs:=[_,_,_]) 3 rfl rfl rfl rfl) ?_)|(have:ak 301 _:=z;change aU _ _ _ _ _ _ _ _ (ah [_,_,_,_,_,_,_,_,_,_,_,_]))|(have:ak 302 _:=z;change ab _ _ _ _ _ _ _ (ah [_,_,_,_,_,_,_,_,_,_]))|(have:ak 303 _:=z;change aU _ _ _ _ _ _ _ _ (ah [_,_,_,_,_,_,_,_,_,_,_,_,_,_,_]))|(have:ak 304 _:=z;refine q rfl rfl (fR rfl) ?_)|(have:ak 305 _:=z;refine q rfl rfl (len 3 1 rfl rfl) ?_)|(have:ak 306 _:=z;refine db rfl rfl rfl (geq rfl rfl) ?_)|(have:ak 307 _:=z;refine q rfl rfl (conv .i64 .u64 rfl rfl rfl (qb U)) ?_)|(have:ak 308 _:=z;refine q rfl rfl (conv .u64 .i64 rfl rfl rfl (o4 U)) ?_)|(have:ak 309 _:=z;refine eS (v:=.agg #[_,_,_]) (l:=[.pointer _,.int _ _,.int _ _]) rfl rfl ?_)|(have:ak 310 _:=z;refine st (v:=.agg #[_,_,_,_,_]) (vs:=[_,_,_,_,_]) 5 rfl rfl rfl rfl rfl rfl (Nat.le_of_ble_eq_true rfl) rfl ?_)|(have:ak 311 _:=z;change aU _ _ _ _ _ _ _ _ (ah [_,_,_,_,_,_,_,_,_,_,_])));exact z.k):G:=h ⟨k ⟨z.k⟩⟩
theorem Jo{c:Nat}{L:List Nat}{G R X:Prop}(z:ea (c::L) R)(k:ea L R->X)(a:Nat.ble 336 c=true:=by rfl)(b:Nat.ble c 359=true:=by rfl)(h:ak c X->G:=by intro z;(first|(have:ak 336 _:=z;refine q rfl rfl (conv .i64 .u64 rfl rfl rfl rfl) ?_)|(have:ak 337 _:=z;refine q rfl rfl (mul rfl rfl rfl) ?_)|(have:ak 338 _:=z;apply ab.open 1 rfl)|(have:ak 339 _:=z;refine q rfl rfl (fR (v:=.func (.func gU) #[] lb.toArray) rfl) ?_)|(have:ak 340 _:=z;refine db rfl rfl rfl (fR (v:=.bool _) rfl) ?_)|(have:ak 341 _:=z;refine eH rfl rfl rfl rfl (fR (v:=.pointer _) rfl) ?_)|(have:ak 342 _:=z;refine bY rfl rfl rfl (Br (v:=.bool _) rfl rfl) ?_)|(have:ak 343 _:=z;refine q rfl rfl (pu (v:=.slice _ _ _) (λ_=>rfl)) ?_)|(have:ak 344 _:=z;refine ab.exit (lS (lS (qw ?_))))|(have:ak 345 _:=z;refine db rfl rfl rfl (uM rfl) ?_)|(have:ak 346 _:=z;change ab _ _ _ _ _ _ _ (ah [_,_,_,_,_,_,_,_,_,_,_,_]))|(have:ak 347 _:=z;refine q rfl rfl (len 277 5 rfl rfl) ?_)|(have:ak 348 _:=z;refine ab.bg (fW 0 rfl bK) ?_)|(have:ak 349 _:=z;refine bY rfl rfl rfl (oG (v:=.int _ _) rfl) ?_)|(have:ak 350 _:=z;change aG _ _/\ca _ _ _ _ _ _ _ _ _ _ (ah [_,_,_,_]))|(have:ak 351 _:=z;refine aU.nil ?_)|(have:ak 352 _:=z;refine xi QM.encI ?_)|(have:ak 353 _:=z;refine gx (l:=ints [_,_,_]) rfl rfl ?_)|(have:ak 354 _:=z;refine q rfl rfl (fQ (vs:=ints [_,_,_]) 3 rfl rfl rfl rfl) ?_)|(have:ak 355 _:=z;refine ab.bg (fW 2 rfl bK) ?_)|(have:ak 356 _:=z;refine q rfl rfl (ht 33 1 rfl rfl rfl U eA) ?_)|(have:ak 357 _:=z;refine st (v:=.agg #[_,_,_,_]) (vs:=[_,_,_,_]) 4 rfl rfl rfl rfl rfl rfl (Nat.le_of_ble_eq_true rfl) rfl ?_)|(have:ak 358 _:=z;change ab _ _ _ _ _ _ _ (ah [_,_,_,_,_,_,_,_,_,_,_]))|(have:ak 359 _:=z;refine q rfl rfl (kj 3 278 rfl rfl (dR.int rfl) rfl rfl) ?_));exact z.k):G:=h ⟨k ⟨z.k⟩⟩
theorem Jp{c:Nat}{L:List Nat}{G R X:Prop}(z:ea (c::L) R)(k:ea L R->X)(a:Nat.ble 360 c=true:=by rfl)(b:Nat.ble c 383=true:=by rfl)(h:ak c X->G:=by intro z;(first|(have:ak 360 _:=z;refine bY rfl rfl rfl (wp rfl rfl) ?_)|(have:ak 361 _:=z;refine bY rfl rfl rfl (c1 9 rfl rfl) ?_)|(have:ak 362 _:=z;refine gx (l:=[.int _ _,.int _ _,.int _ _,.int _ _,.int _ _,.bool _,.int _ _,.slice _ _ _,.slice _ _ _]) rfl rfl ?_)|(have:ak 363 _:=z;refine m3 rfl rfl ?_)|(have:ak 364 _:=z;refine bY rfl rfl rfl (c1 2 rfl rfl) ?_)|(have:ak 365 _:=z;refine q rfl rfl (ht 3 1 rfl rfl rfl U eA) ?_)|(have:ak 366 _:=z;refine db rfl rfl rfl (c1 0 rfl rfl) ?_)|(have:ak 367 _:=z;refine bY rfl rfl rfl (fR (v:=.slice _ _ _) rfl) ?_)|(have:ak 368 _:=z;refine st (v:=.slice _ _ _) (vs:=[_]) 1 rfl rfl rfl rfl rfl rfl (Nat.le_of_ble_eq_true rfl) rfl ?_)|(have:ak 369 _:=z;refine bY rfl rfl rfl (oG (v:=.slice _ _ _) rfl) ?_)|(have:ak 370 _:=z;refine db rfl rfl rfl (Br (v:=.bool _) rfl rfl) ?_)|(have:ak 371 _:=z;refine eH rfl rfl rfl rfl (c1 0 rfl rfl) ?_)|(have:ak 372 _:=z;refine eH rfl rfl rfl rfl (c1 2 rfl rfl) ?_)|(have:ak 373 _:=z;refine L4 rfl rfl rfl ai ?_)|(have:ak 374 _:=z;refine bY rfl rfl rfl (io rfl rfl U U) ?_)|(have:ak 375 _:=z;refine bY rfl rfl rfl (uM rfl) ?_)|(have:ak 376 _:=z;refine q rfl rfl (P7 rfl) ?_)|(have:ak 377 _:=z;refine bY rfl rfl rfl (fQ (vs:=ints [_,_]) 2 rfl rfl rfl rfl) ?_)|(have:ak 378 _:=z;refine bY rfl rfl rfl (conv .u32 .i64 rfl rfl rfl (nN U U)) ?_)|(have:ak 379 _:=z;refine gx (l:=[.int _ _,.int _ _,.int _ _,.int _ _,.bool _]) rfl rfl ?_)|(have:ak 380 _:=z;change ab _ _ _ _ _ _ _ (ah [_,_,_,_,_,_,_,_,_,_,_,_,_]))|(have:ak 381 _:=z;refine q rfl rfl (add rfl rfl rfl) ?_)|(have:ak 382 _:=z;refine q rfl rfl (fQ (vs:=[aa op,aa s,aa a,aa b,aa bG,.bool cb,bk x,.slice bA ws.length bQ,.slice bC aT.length bW,aS t,aS cz,aS h,aa r]) 13 rfl rfl rfl aV) ?_)|(have:ak 383 _:=z;refine q rfl rfl (lss rfl rfl) ?_));exact z.k):G:=h ⟨k ⟨z.k⟩⟩
theorem Jq{c:Nat}{L:List Nat}{G R X:Prop}(z:ea (c::L) R)(k:ea L R->X)(a:Nat.ble 384 c=true:=by rfl)(b:Nat.ble c 407=true:=by rfl)(h:ak c X->G:=by intro z;(first|(have:ak 384 _:=z;refine L3 rfl rfl rfl rfl ?_)|(have:ak 385 _:=z;refine q rfl rfl (c1 3 rfl rfl) ?_)|(have:ak 386 _:=z;refine db rfl rfl rfl (lss rfl rfl) ?_)|(have:ak 387 _:=z;refine ab.bg (fW 3 rfl bK) ?_)|(have:ak 388 _:=z;refine db rfl rfl rfl (Bq (v:=.bool _) rfl rfl) ?_)|(have:ak 389 _:=z;refine eH rfl rfl rfl rfl (oL 0 rfl rfl eA) ?_)|(have:ak 390 _:=z;refine aU.known 5 rfl (c:=false) (dn U) ?_)|(have:ak 391 _:=z;refine q rfl rfl (len 296 2 rfl rfl) ?_)|(have:ak 392 _:=z;refine db rfl rfl rfl (fR (v:=.slice _ _ _) rfl) ?_)|(have:ak 393 _:=z;refine q rfl rfl (n7 0 rfl rfl) ?_)|(have:ak 394 _:=z;refine dw (i:=0) rfl rfl rfl aV (fR (v:=.pointer _) rfl) ?_)|(have:ak 395 _:=z;refine q rfl rfl (fQ (vs:=[_,_,_,_,_]) 5 rfl rfl rfl rfl) ?_)|(have:ak 396 _:=z;refine gx (l:=[.int _ _,.slice _ _ _,.slice _ _ _]) rfl rfl ?_)|(have:ak 397 _:=z;change aG _ _/\ca _ _ _ _ _ _ _ _ _ _ (ah [_,_,_,_,_,_,_,_,_,_,_]))|(have:ak 398 _:=z;change aG _ _/\ca _ _ _ _ _ _ _ _ _ _ (ah [_,_,_,_,_,_,_,_,_,_,_,_,_,_,_,_,_]))|(have:ak 399 _:=z;change aU _ _ _ _ _ _ _ _ (ah [_,_,_,_,_,_,_,_,_,_,_,_,_,_]))|(have:ak 400 _:=z;refine q rfl rfl (c1 5 rfl rfl) ?_)|(have:ak 401 _:=z;refine bY rfl rfl rfl (c1 4 rfl rfl) ?_)|(have:ak 402 _:=z;refine db rfl rfl rfl (fQ (vs:=[_,_,_]) 3 rfl rfl rfl rfl) ?_)|(have:ak 403 _:=z;refine bY rfl rfl rfl (eh (cs:=[aa op,aa s,aa a,aa b,aa bG,.bool (decide ((f9:Int)=1)),bk cI,.slice none 0 0,.slice none 0 0]) aV) ?_)|(have:ak 404 _:=z;refine st (v:=.agg (List.toArray [aa op,aa s,aa a,aa b,aa bG,.bool (decide ((f9:Int)=1)),bk cI,.slice none 0 0,.slice none 0 0])) (vs:=[aa op,aa s,aa a,aa b,aa bG,.bool (decide ((f9:Int)=1)),bk cI,.slice none 0 0,.slice none 0 0]) 9 rfl rfl rfl rfl rfl rfl (Nat.le_of_ble_eq_true rfl) rfl ?_)|(have:ak 405 _:=z;refine eS (v:=.agg (List.toArray [aa op,aa s,aa a,aa b,aa bG,.bool cb,bk x,.slice bA ws.length bQ,.slice bC aT.length bW,aS t,aS cz,aS h,aa r])) (l:=[aa op,aa s,aa a,aa b,aa bG,.bool cb,bk x,.slice bA ws.length bQ,.slice bC aT.length bW,aS t,aS cz,aS h,aa r]) rfl rfl ?_)|(have:ak 406 _:=z;refine q rfl rfl (c1 1 rfl rfl) ?_)|(have:ak 407 _:=z;refine q rfl rfl (c1 4 rfl rfl) ?_));exact z.k):G:=h ⟨k ⟨z.k⟩⟩
theorem Jr{c:Nat}{L:List Nat}{G R X:Prop}(z:ea (c::L) R)(k:ea L R->X)(a:Nat.ble 408 c=true:=by rfl)(b:Nat.ble c 431=true:=by rfl)(h:ak c X->G:=by intro z;(first|(have:ak 408 _:=z;refine q rfl rfl (geq rfl rfl) ?_)|(have:ak 409 _:=z;refine q rfl rfl (xr rfl) ?_)|(have:ak 410 _:=z;refine db rfl rfl rfl (D9 rfl rfl rfl) ?_)|(have:ak 411 _:=z;refine q rfl rfl (uE (tm:=[]) (m7:=[.pointer _]) rfl rfl) ?_)|(have:ak 412 _:=z;refine dw (i:=1) rfl rfl rfl aV (sY rfl) ?_)|(have:ak 413 _:=z;refine dw (i:=2) rfl rfl rfl aV (c1 0 rfl rfl) ?_)|(have:ak 414 _:=z;refine q rfl rfl (len 427 4 rfl rfl) ?_)|(have:ak 415 _:=z;refine q rfl rfl (ht 427 4 rfl rfl rfl U eA) ?_)|(have:ak 416 _:=z;refine db rfl rfl rfl (len 277 5 rfl rfl) ?_)|(have:ak 417 _:=z;refine q rfl rfl (ht 277 5 rfl rfl rfl U eA) ?_)|(have:ak 418 _:=z;refine ab.bg (fW 3 rfl ec) ?_)|(have:ak 419 _:=z;refine eS (v:=.agg #[_,_,_]) (l:=[.int _ _,.int _ _,.bool _]) rfl rfl ?_)|(have:ak 420 _:=z;refine aI (vm b T id) rfl eC.p trivial ?_)|(have:ak 421 _:=z;refine bY rfl rfl rfl (kj 33 35 rfl rfl (dR.u32 rfl) rfl rfl) ?_)|(have:ak 422 _:=z;change aG _ _/\er _ _ _ _ _ _ _ _ _ _ _ (ah [_,_,_]))|(have:ak 423 _:=z;refine bY rfl rfl rfl (c1 10 rfl rfl) ?_)|(have:ak 424 _:=z;refine bY rfl rfl rfl (c1 11 rfl rfl) ?_)|(have:ak 425 _:=z;refine q rfl rfl (c1 7 rfl rfl) ?_)|(have:ak 426 _:=z;refine q rfl rfl (len 103 12 rfl rfl) ?_)|(have:ak 427 _:=z;refine bY rfl rfl rfl (c1 1 rfl rfl) ?_)|(have:ak 428 _:=z;apply ab.open 0 rfl)|(have:ak 429 _:=z;refine q rfl rfl (fQ (vs:=[_,_,_]) 3 rfl rfl rfl rfl) ?_)|(have:ak 430 _:=z;refine bY rfl rfl rfl (pu (v:=.int _ _) (λ_=>rfl)) ?_)|(have:ak 431 _:=z;refine q rfl rfl (conv .u32 .i64 rfl rfl rfl (nN U U)) ?_));exact z.k):G:=h ⟨k ⟨z.k⟩⟩
theorem Js{c:Nat}{L:List Nat}{G R X:Prop}(z:ea (c::L) R)(k:ea L R->X)(a:Nat.ble 432 c=true:=by rfl)(b:Nat.ble c 455=true:=by rfl)(h:ak c X->G:=by intro z;(first|(have:ak 432 _:=z;refine bY rfl rfl rfl (c1 3 rfl rfl) ?_)|(have:ak 433 _:=z;apply ab.open 2 rfl)|(have:ak 434 _:=z;apply aU.open 0 rfl)|(have:ak 435 _:=z;refine bY rfl rfl rfl (lo 8 90 1 rfl rfl rfl U U) ?_)|(have:ak 436 _:=z;refine q rfl rfl (ht 405 3 rfl rfl rfl U eA) ?_)|(have:ak 437 _:=z;refine bY rfl rfl rfl (gtr rfl rfl) ?_)|(have:ak 438 _:=z;refine bY rfl rfl rfl (oo rfl rfl U U) ?_)|(have:ak 439 _:=z;refine q rfl rfl (FSa 3 3 rfl rfl (dR.int rfl) rfl rfl) ?_)|(have:ak 440 _:=z;refine q rfl rfl (ht 47 1 rfl rfl rfl U eA) ?_)|(have:ak 441 _:=z;refine db rfl rfl rfl (oo rfl rfl U U) ?_)|(have:ak 442 _:=z;refine bY rfl rfl rfl (eh (cs:=[.int _ _,.int _ _]) rfl) ?_)|(have:ak 443 _:=z;refine dw (i:=3) rfl rfl rfl aV (gG rfl rfl rfl) ?_)|(have:ak 444 _:=z;change aG _ _/\ca _ _ _ _ _ _ _ _ _ _ (ah [_,_,_,_,_,_,_,_,_,_,_,_]))|(have:ak 445 _:=z;refine q rfl rfl (eh (cs:=[.pointer _,.pointer _,.pointer _]) rfl) ?_)|(have:ak 446 _:=z;refine eS (v:=.agg #[_,_,_]) (l:=[.pointer _,.pointer _,.pointer _]) rfl rfl ?_)|(have:ak 447 _:=z;refine eS (v:=.int _ _) (l:=[.int _ _]) rfl rfl ?_)|(have:ak 448 _:=z;refine gx (l:=[.int _ _,.int _ _,.int _ _,.bool _]) rfl rfl ?_)|(have:ak 449 _:=z;refine bY rfl rfl rfl (pu (v:=.slice _ _ _) (λ_=>rfl)) ?_)|(have:ak 450 _:=z;refine q rfl rfl (c1 17 rfl rfl) ?_)|(have:ak 451 _:=z;refine q rfl rfl (kj 3 211 rfl rfl (dR.int rfl) rfl rfl) ?_)|(have:ak 452 _:=z;refine bY rfl rfl rfl (c1 6 rfl rfl) ?_)|(have:ak 453 _:=z;refine bY rfl rfl rfl (c1 7 rfl rfl) ?_)|(have:ak 454 _:=z;refine q rfl rfl (eh (cs:=[aa 0,aa 0,aa 0,aa 0,aa 0,.bool false,bk 0,.slice none 0 0,.slice none 0 0]) aV) ?_)|(have:ak 455 _:=z;refine st (v:=.agg (List.toArray [aa 0,aa 0,aa 0,aa 0,aa 0,.bool false,bk 0,.slice none 0 0,.slice none 0 0])) (vs:=[aa 0,aa 0,aa 0,aa 0,aa 0,.bool false,bk 0,.slice none 0 0,.slice none 0 0]) 9 rfl rfl rfl rfl rfl rfl (Nat.le_of_ble_eq_true rfl) rfl ?_));exact z.k):G:=h ⟨k ⟨z.k⟩⟩
theorem Jt{c:Nat}{L:List Nat}{G R X:Prop}(z:ea (c::L) R)(k:ea L R->X)(a:Nat.ble 456 c=true:=by rfl)(b:Nat.ble c 479=true:=by rfl)(h:ak c X->G:=by intro z;(first|(have:ak 456 _:=z;refine q rfl rfl (Br (v:=.bool _) rfl rfl) ?_)|(have:ak 457 _:=z;refine ab.exit (lS (qw (hW ?_))))|(have:ak 458 _:=z;refine q rfl rfl (oc rfl rfl U U) ?_)|(have:ak 459 _:=z;refine bY rfl rfl rfl (len 405 3 rfl rfl) ?_)|(have:ak 460 _:=z;refine aU.known 7 rfl (c:=true) (c7 U) ?_)|(have:ak 461 _:=z;refine db rfl rfl rfl (conv .i64 .u64 rfl rfl rfl (qb U)) ?_)|(have:ak 462 _:=z;refine db rfl rfl rfl (len 5 1 rfl rfl) ?_)|(have:ak 463 _:=z;refine db rfl rfl rfl (pY rfl rfl U U) ?_)|(have:ak 464 _:=z;refine q rfl rfl (len 5 1 rfl rfl) ?_)|(have:ak 465 _:=z;refine aU.known 7 rfl (c:=false) (dn U) ?_)|(have:ak 466 _:=z;refine q rfl rfl (lo 21 294 1 rfl rfl rfl U U) ?_)|(have:ak 467 _:=z;refine q rfl rfl (gG rfl rfl (yZ U U)) ?_)|(have:ak 468 _:=z;refine aU.bg (fW 2 rfl gi) ?_)|(have:ak 469 _:=z;refine eH rfl rfl rfl rfl (c1 1 rfl rfl) ?_)|(have:ak 470 _:=z;refine eH rfl rfl rfl rfl (uM rfl) ?_)|(have:ak 471 _:=z;refine q rfl rfl (eh (cs:=[.int _ _,.int _ _,.int _ _,.int _ _,.int _ _]) rfl) ?_)|(have:ak 472 _:=z;refine db rfl rfl rfl (c1 4 rfl rfl) ?_)|(have:ak 473 _:=z;refine bY rfl rfl rfl (oG (v:=.pointer _) rfl) ?_)|(have:ak 474 _:=z;refine aU.known 5 rfl (c:=true) (c7 U) ?_)|(have:ak 475 _:=z;refine q rfl rfl (uH rfl) ?_)|(have:ak 476 _:=z;refine q rfl rfl (conv .i64 .u32 rfl rfl rfl (q8 U U)) ?_)|(have:ak 477 _:=z;refine st (v:=.agg (List.toArray (ints [_,_]))) (vs:=ints [_,_]) 2 rfl rfl rfl rfl rfl rfl (Nat.le_of_ble_eq_true rfl) rfl ?_)|(have:ak 478 _:=z;refine eS (v:=.agg #[_,_,_,_]) (l:=[.int _ _,.int _ _,.int _ _,.slice _ _ _]) rfl rfl ?_)|(have:ak 479 _:=z;refine ap 4 rfl rfl rfl rfl rfl (Nat.le_of_ble_eq_true rfl) (show _=cL .u32 [x]from rfl) rfl U gr ?_));exact z.k):G:=h ⟨k ⟨z.k⟩⟩
theorem Ju{c:Nat}{L:List Nat}{G R X:Prop}(z:ea (c::L) R)(k:ea L R->X)(a:Nat.ble 480 c=true:=by rfl)(b:Nat.ble c 503=true:=by rfl)(h:ak c X->G:=by intro z;(first|(have:ak 480 _:=z;refine q rfl rfl (eh (cs:=[.pointer _,.pointer _,.pointer _,.pointer _,.pointer _,.pointer _,.pointer _,.pointer _,.pointer _,.pointer _,.pointer _]) rfl) ?_)|(have:ak 481 _:=z;refine eS (v:=.agg _) (l:=[.pointer _,.pointer _,.pointer _,.pointer _,.pointer _,.pointer _,.pointer _,.pointer _,.pointer _,.pointer _,.pointer _]) rfl rfl ?_)|(have:ak 482 _:=z;refine q rfl rfl (gH (vs:=[_,_,_,_]) 4 rfl rfl (kB uF hm 0 4 U U (show _=[aa (f1:Int),aa t1,aa ef,.bool g1]from rfl)) rfl am) ?_)|(have:ak 483 _:=z;refine q rfl rfl (eh (cs:=[.int _ _,.slice _ _ _,.slice _ _ _]) rfl) ?_)|(have:ak 484 _:=z;refine ab.ret (rt (kN (rt (rt (kN (rt ?_)))))))|(have:ak 485 _:=z;refine db rfl rfl rfl (len 47 1 rfl rfl) ?_)|(have:ak 486 _:=z;change ab _ _ _ _ _ _ _ (ah [_,_,_,_,_,_,_,_,_,_,_,_,_,_,_,_]))|(have:ak 487 _:=z;refine st (v:=.bool _) (vs:=[_]) 1 rfl rfl rfl rfl rfl rfl (Nat.le_of_ble_eq_true rfl) rfl ?_)|(have:ak 488 _:=z;refine bY rfl rfl rfl (kj 3 278 rfl rfl (dR.int rfl) rfl rfl) ?_)|(have:ak 489 _:=z;refine ab.bg (B:=ah [du b (cZ T bf),F]) ((az (⟨bx,a,af,aR,B,M,ad,cap⟩:jk) bB ai)) ?_)|(have:ak 490 _:=z;refine q rfl rfl (FSa 33 35 rfl rfl (dR.u32 rfl) rfl rfl) ?_)|(have:ak 491 _:=z;refine bY rfl rfl rfl (conv .i64 .u32 rfl rfl rfl (q8 U U)) ?_)|(have:ak 492 _:=z;refine bY rfl rfl rfl (c1 5 rfl rfl) ?_)|(have:ak 493 _:=z;refine gx (l:=Pg) rfl rfl ?_)|(have:ak 494 _:=z;refine st (v:=.agg qL.toArray) (vs:=qL) 24 rfl rfl rfl rfl rfl rfl (Nat.le_of_ble_eq_true rfl) rfl ?_)|(have:ak 495 _:=z;refine ab.ret (rt (kN (rt ?_))))|(have:ak 496 _:=z;refine q rfl rfl (c1 6 rfl rfl) ?_)|(have:ak 497 _:=z;refine gx (l:=[.int _ _,.int _ _,.int _ _,.slice _ _ _]) rfl rfl ?_)|(have:ak 498 _:=z;refine q rfl rfl (eh (cs:=[.pointer _]) rfl) ?_)|(have:ak 499 _:=z;refine eS (v:=.agg _) (l:=[.int _ _,.int _ _,.int _ _,.int _ _,.int _ _,.bool _,.int _ _,.slice _ _ _,.slice _ _ _]) rfl rfl ?_)|(have:ak 500 _:=z;refine q rfl rfl (ht 103 12 rfl rfl rfl U eA) ?_)|(have:ak 501 _:=z;refine db rfl rfl rfl (ht 103 12 rfl rfl rfl U eA) ?_)|(have:ak 502 _:=z;refine db rfl rfl rfl (oL 3 rfl rfl eA) ?_)|(have:ak 503 _:=z;refine st (v:=.int _ _) (vs:=[_]) 1 rfl rfl rfl rfl rfl rfl (Nat.le_of_ble_eq_true rfl) rfl ?_));exact z.k):G:=h ⟨k ⟨z.k⟩⟩
theorem Jv{c:Nat}{L:List Nat}{G R X:Prop}(z:ea (c::L) R)(k:ea L R->X)(a:Nat.ble 504 c=true:=by rfl)(b:Nat.ble c 527=true:=by rfl)(h:ak c X->G:=by intro z;(first|(have:ak 504 _:=z;refine db rfl rfl rfl (sY rfl) ?_)|(have:ak 505 _:=z;refine eg (v:=.int _ _) (vs:=[_]) 1 rfl rfl rfl rfl rfl rfl am U (wM (i:=i) U U _) ?_)|(have:ak 506 _:=z;refine q rfl rfl (kI 3 1 rfl rfl rfl U U eA) ?_)|(have:ak 507 _:=z;refine bY rfl rfl rfl (gG rfl rfl (Hr oR U)) ?_)|(have:ak 508 _:=z;refine cC [0,1,2,3,4,5,6,7,8,9] (aG.refl _) ?_)|(have:ak 509 _:=z;refine q rfl rfl (dB rfl rfl (gW qH)) ?_)|(have:ak 510 _:=z;refine bY rfl rfl rfl (c1 8 rfl rfl) ?_)|(have:ak 511 _:=z;refine eH rfl rfl rfl rfl (kI 405 3 rfl rfl rfl U U eA) ?_)|(have:ak 512 _:=z;refine aU.known 11 rfl (c:=false) (dn U) ?_)|(have:ak 513 _:=z;refine eS (v:=.agg #[_,_]) (l:=[.pointer _,.int _ _]) rfl rfl ?_)|(have:ak 514 _:=z;refine q rfl rfl (ht 296 2 rfl rfl rfl U eA) ?_)|(have:ak 515 _:=z;refine q rfl rfl (om 296 2 k rfl rfl rfl rfl U) ?_)|(have:ak 516 _:=z;refine aU.known 11 rfl (c:=true) (c7 U) ?_)|(have:ak 517 _:=z;refine eH rfl rfl rfl rfl (uJ rfl rfl) ?_)|(have:ak 518 _:=z;refine gx (l:=[.pointer _,.int _ _]) rfl rfl ?_)|(have:ak 519 _:=z;(first|refine q rfl rfl (gG rfl rfl rfl) ?_|refine q rfl rfl (dB rfl rfl rfl) ?_))|(have:ak 520 _:=z;refine eS (v:=.agg #[_,_,_,_,_]) (l:=[.int _ _,.int _ _,.int _ _,.int _ _,.int _ _]) rfl rfl ?_)|(have:ak 521 _:=z;refine ab.bg (fW 1 rfl bK) ?_)|(have:ak 522 _:=z;refine aU.bg (fW 4 rfl gi) ?_)|(have:ak 523 _:=z;refine bY rfl rfl rfl (n7 0 rfl rfl) ?_)|(have:ak 524 _:=z;refine q rfl rfl (eh (cs:=[.int _ _,.int _ _,.slice _ _ _]) rfl) ?_)|(have:ak 525 _:=z;refine q rfl rfl (dB rfl rfl rfl) ?_)|(have:ak 526 _:=z;refine dw (i:=6) rfl rfl rfl aV (gG rfl rfl rfl) ?_)|(have:ak 527 _:=z;refine q rfl rfl (eh (cs:=ints [_,_]) rfl) ?_));exact z.k):G:=h ⟨k ⟨z.k⟩⟩
theorem Jw{c:Nat}{L:List Nat}{G R X:Prop}(z:ea (c::L) R)(k:ea L R->X)(a:Nat.ble 528 c=true:=by rfl)(b:Nat.ble c 551=true:=by rfl)(h:ak c X->G:=by intro z;(first|(have:ak 528 _:=z;refine gx (l:=ints [_,_]) rfl rfl ?_)|(have:ak 529 _:=z;refine bY rfl rfl rfl (eh (cs:=[.int _ _,.int _ _,.int _ _,.slice _ _ _]) rfl) ?_)|(have:ak 530 _:=z;refine ab.bg (fW 5 rfl bK) ?_)|(have:ak 531 _:=z;refine bY rfl rfl rfl (kj 3 216 rfl rfl (dR.int rfl) rfl rfl) ?_)|(have:ak 532 _:=z;refine ap 8 rfl rfl rfl rfl rfl (Nat.le_of_ble_eq_true rfl) (show _=ints [t.id]from rfl) rfl U gr ?_)|(have:ak 533 _:=z;refine bY rfl rfl rfl (ht 33 1 rfl rfl rfl U eA) ?_)|(have:ak 534 _:=z;refine ap 4 rfl rfl rfl rfl rfl U (Qe .u32 rfl) (Gh .u32 _) U gr ?_)|(have:ak 535 _:=z;refine bY rfl rfl rfl (conv .u64 .i64 rfl rfl rfl (o4 U)) ?_)|(have:ak 536 _:=z;change aG _ _/\er _ _ _ _ _ _ _ _ _ _ _ (ah [_,_,_,_,_,_,_]))|(have:ak 537 _:=z;refine eH rfl rfl rfl rfl (wp rfl rfl) ?_)|(have:ak 538 _:=z;change aG _ _/\ca _ _ _ _ _ _ _ _ _ _ (ah [_,_,_,_,_,_,_,_,_,_,_,_,_,_,_]))|(have:ak 539 _:=z;change aG _ _/\ca _ _ _ _ _ _ _ _ _ _ (ah [_,_,_,_,_,_,_,_,_,_,_,_,_,_,_,_]))|(have:ak 540 _:=z;change aU _ _ _ _ _ _ _ _ (ah [_,_,_,_,_,_,_,_,_,_,_,_,_,_,_,_]))|(have:ak 541 _:=z;refine q rfl rfl (rn (a:=hy) (b:=rg) rfl rfl U U rfl) ?_)|(have:ak 542 _:=z;refine aU.known 62 rfl (c:=false) (dn U) ?_)|(have:ak 543 _:=z;refine q rfl rfl (bE.to (v:=((off %8:Nat):Int)) (pY rfl rfl U U) U) ?_)|(have:ak 544 _:=z;refine q rfl rfl (bE.to (v:=((a+off:Nat):Int)) (io (a:=((a:Nat):Int)) (b:=((off:Nat):Int)) rfl rfl U U) U) ?_)|(have:ak 545 _:=z;refine q rfl rfl (kj 3 318 rfl rfl (dR.int rfl) rfl rfl) ?_)|(have:ak 546 _:=z;refine q rfl rfl (lo 16 3 1 rfl rfl rfl U U) ?_)|(have:ak 547 _:=z;refine ab.bg (fW 6 rfl ec) ?_)|(have:ak 548 _:=z;refine q rfl rfl (len 75 3 rfl rfl) ?_)|(have:ak 549 _:=z;refine cC [0,1,2,3,4,5,6,7,8] (aG.refl _) ?_)|(have:ak 550 _:=z;refine q rfl rfl (len 71 2 rfl rfl) ?_)|(have:ak 551 _:=z;refine ab.bg (B:=ah [c4 aE af top n ⟨X,T,aM,hv,bm,aY,I,bw,lv⟩ [],F]) (az (⟨aK,a1,aJ,hm,be,lm,bp⟩:di) ⟨av,aQ⟩ ai) ?_));exact z.k):G:=h ⟨k ⟨z.k⟩⟩
theorem Jx{c:Nat}{L:List Nat}{G R X:Prop}(z:ea (c::L) R)(k:ea L R->X)(a:Nat.ble 552 c=true:=by rfl)(b:Nat.ble c 575=true:=by rfl)(h:ak c X->G:=by intro z;(first|(have:ak 552 _:=z;refine aU.bg (B:=ah [c4 aE af top n ⟨X,T,aM,hv,bm,aY,bL,bw,lv⟩ [],F]) (az (⟨aK,a1,aJ,hm,be,lm,bp⟩:di) ⟨av.oS gD.2.1,aQ.oS bL⟩ ai) ?_)|(have:ak 553 _:=z;refine db rfl rfl rfl (c1 8 rfl rfl) ?_)|(have:ak 554 _:=z;refine eH rfl rfl rfl rfl (fR (v:=.slice _ _ _) rfl) ?_)|(have:ak 555 _:=z;refine bY rfl rfl rfl (lo 19 340 3 rfl rfl rfl U U) ?_)|(have:ak 556 _:=z;change aG _ _/\er _ _ _ _ _ _ _ _ _ _ _ (ah [_,_,_,_,_,_,_,_,_,_,_,_,_,_,_,_]))|(have:ak 557 _:=z;refine eS (v:=.agg #[_]) (l:=[.pointer _]) rfl rfl ?_)|(have:ak 558 _:=z;refine q rfl rfl (fQ (vs:=_) 9 rfl rfl rfl rfl) ?_)|(have:ak 559 _:=z;refine q rfl rfl (conv .i64 .u64 rfl rfl rfl (qb (a:=0) am)) ?_)|(have:ak 560 _:=z;refine gx (l:=[.int _ _,.int _ _,.slice _ _ _]) rfl rfl ?_)|(have:ak 561 _:=z;refine q rfl rfl (eh (cs:=[.int _ _,.int _ _,.int _ _,.int _ _,.int _ _,.bool _,.int _ _,.slice _ _ _,.slice _ _ _]) rfl) ?_)|(have:ak 562 _:=z;refine eS (v:=.agg (List.toArray [aa op,aa s,aa a,aa b,aa bG,.bool cb,bk x,.slice bA ws.length bQ,.slice bC aT.length bW])) (l:=[aa op,aa s,aa a,aa b,aa bG,.bool cb,bk x,.slice bA ws.length bQ,.slice bC aT.length bW]) rfl rfl ?_)|(have:ak 563 _:=z;refine(show aG _ (ah [fZ x.aH af top X.A,aj aB 148 [ae x.aH,ae x.bu],b1.hp x.bu X.L X.last])from ai).trans ?_)|(have:ak 564 _:=z;refine gx (l:=[.pointer _,.int _ _,.int _ _]) rfl rfl ?_)|(have:ak 565 _:=z;refine db rfl rfl rfl (c1 1 rfl rfl) ?_)|(have:ak 566 _:=z;refine q rfl rfl (A7 rfl rfl rfl) ?_)|(have:ak 567 _:=z;refine ab.loop (ι:=Nat) (λi=>i<=xs.length/\∀j t,j<i->xs[j]? =some t->pr t=false) (λi=>[(0,.slice ad xs.length cap),(1,.func (.func gU) #[] lb.toArray),(7,aa xs.length),(8,aa i)]) (λi=>ah [F]) (λi=>xs.length-i) 0 ⟨Nat.zero_le _,by intro j t h;omega⟩ bI (an (aX _)) ?_)|(have:ak 568 _:=z;refine ab.loop (ι:=Nat×Nat×List Int) (λs=>hD xs pr s.1 s.2.1 s.2.2) (λs=>[(0,.slice ad xs.length cap),(1,.func (.func gU) #[] lb.toArray),(5,aa ((s.1:Nat):Int)),(6,aa ((s.2.1:Nat):Int))]) (λs=>ah [aZ 3 1 ad xs.length cap (ints s.2.2),F]) (λs=>xs.length-s.2.1) ⟨k,k+1,xs⟩ aM bI (an (an (aX _))) ?_)|(have:ak 569 _:=z;refine aI (rY ej _ aC S.length (iZ A S) id) rfl (d6 0 rfl (d6 1 rfl (ev _))) trivial ?_)|(have:ak 570 _:=z;refine ap 8 rfl rfl rfl rfl rfl (Nat.le_of_ble_eq_true rfl) (show _=ints [id]from rfl) rfl U gr ?_)|(have:ak 571 _:=z;refine st (v:=.slice _ _ _) (vs:=[_]) 1 rfl rfl rfl rfl rfl rfl (by rw[RX];simp;omega) (RY _ oR U) ?_)|(have:ak 572 _:=z;refine ab.bg (B:=ah [dt ej (iT S t.id (t.left-1)),F]) (az ⟨ad,cap,aC,A⟩ NI (b6 1 rfl (congrArg (aj ej 261) (EN (λx=>by rw[Hv]))) (pD 3 rfl (λx _=>by dsimp only[mG];rw[Hv]) (List.Perm.refl _) (b6 1 rfl (by rw[Er (Hu S t.id (t.left-1)),BN]) (cY 0 0 ⟨t.id,t.prio,t.whole,t.left-1⟩ rfl rfl rfl (λ_ _=>rfl) (Sh aN.bq bK _) (an (aX _))))))) ?_)|(have:ak 573 _:=z;refine bY rfl rfl rfl (uE (tm:=[]) (m7:=[.pointer _]) rfl rfl) ?_)|(have:ak 574 _:=z;refine eS (v:=.agg (List.toArray (ints [_,_]))) (l:=ints [_,_]) rfl rfl ?_)|(have:ak 575 _:=z;refine eS (v:=.agg (List.toArray (ints [_,_,_]))) (l:=ints [_,_,_]) rfl rfl ?_));exact z.k):G:=h ⟨k ⟨z.k⟩⟩
theorem Jy{c:Nat}{L:List Nat}{G R X:Prop}(z:ea (c::L) R)(k:ea L R->X)(a:Nat.ble 576 c=true:=by rfl)(b:Nat.ble c 599=true:=by rfl)(h:ak c X->G:=by intro z;(first|(have:ak 576 _:=z;refine bY rfl rfl rfl (fQ (vs:=ints [_,_,_]) 3 rfl rfl rfl rfl) ?_)|(have:ak 577 _:=z;refine eH rfl rfl rfl rfl (fQ (vs:=ints [_,_]) 2 rfl rfl rfl rfl) ?_)|(have:ak 578 _:=z;refine ab.draw _ [8] [0,1,2,3,4,5,6,7,-8] aV aV (aG.refl _) ?_)|(have:ak 579 _:=z;refine q rfl rfl (bE.to (v:=((fM n:Nat):Int)) (kn rfl rfl U U U) (by rw[fM];omega)) ?_)|(have:ak 580 _:=z;refine q rfl rfl (bE.to (v:=((o/64:Nat):Int)) (kn rfl rfl U U U) U) ?_)|(have:ak 581 _:=z;refine q rfl rfl (bE.to (v:=((o %64:Nat):Int)) (pY rfl rfl U U) U) ?_)|(have:ak 582 _:=z;refine bY rfl rfl rfl (lo 21 294 1 rfl rfl rfl U U) ?_)|(have:ak 583 _:=z;refine K7 (MF (some ⟨B gb.aD,0,none⟩) ((gb.aD:Int)*1024) t) rfl rfl (ev _) trivial ?_)|(have:ak 584 _:=z;refine bY rfl rfl rfl (om 296 2 (k+1) rfl rfl rfl rfl U) ?_)|(have:ak 585 _:=z;refine eF.E0 (rs:=[.tmp 4]) aV Tryz.func198 rfl Tryz.ntmps198 kk rfl ?_)|(have:ak 586 _:=z;refine ap 8 rfl rfl rfl rfl rfl (Nat.le_of_ble_eq_true rfl) (show _=ints [x]from rfl) rfl U gr ?_)|(have:ak 587 _:=z;refine ab.draw _ [11] [0,1,2,3,4,5,6,8,9,-7,10,-11] aV aV (an (aX _)) ?_)|(have:ak 588 _:=z;refine bY rfl rfl rfl (lo 8 165 1 rfl rfl rfl U U) ?_)|(have:ak 589 _:=z;refine q rfl rfl (eh (cs:=[.pointer _,.int _ _,.int _ _]) rfl) ?_)|(have:ak 590 _:=z;refine q rfl rfl (Ap 256 210 5 rfl rfl rfl U U) ?_)|(have:ak 591 _:=z;refine ab.loop (ι:=Nat) (λi=>i<=l.length/\∀j t,j<i->l[j]? =some t->pr t=false) (λi=>[(0,.slice ad l.length cap),(1,.func (.func gU) #[] lb.toArray),(7,aa l.length),(8,aa i)]) (λi=>ah [F]) (λi=>l.length-i) 0 ⟨Nat.zero_le _,by intro j t h;omega⟩ bI (an (aX _)) ?_)|(have:ak 592 _:=z;refine db rfl rfl rfl (Ap 256 210 5 rfl rfl rfl U U) ?_)|(have:ak 593 _:=z;refine bY rfl rfl rfl (Ap 256 210 5 rfl rfl rfl U U) ?_)|(have:ak 594 _:=z;refine cC [0,1,2,3,4,5,6,7,8,9,10,11,12,13,14,15,16,17,18,19] (aG.refl _) ?_)|(have:ak 595 _:=z;refine ap 8 rfl rfl rfl rfl rfl (Nat.le_of_ble_eq_true rfl) rfl rfl U gr ?_)|(have:ak 596 _:=z;refine ap 4 rfl rfl rfl rfl rfl (Nat.le_of_ble_eq_true rfl) (show _=cL .u32 [z]from rfl) rfl U gr ?_)|(have:ak 597 _:=z;refine aI (pG b aC bz L.length last (iD A L) par) rfl (d6 0 rfl (d6 0 rfl (ev _))) trivial ?_)|(have:ak 598 _:=z;refine bY rfl rfl rfl (kj (a:=(_,_)) 78 3 rfl rfl (dR.pair aV) rfl rfl) ?_)|(have:ak 599 _:=z;refine l1 (a:=(_,_)) 78 3 rfl (dR.pair aV) rfl rfl rfl ?_));exact z.k):G:=h ⟨k ⟨z.k⟩⟩
theorem Jz{c:Nat}{L:List Nat}{G R X:Prop}(z:ea (c::L) R)(k:ea L R->X)(a:Nat.ble 600 c=true:=by rfl)(b:Nat.ble c 623=true:=by rfl)(h:ak c X->G:=by intro z;(first|(have:ak 600 _:=z;refine ab.draw _ [13,15] [0,1,2,3,4,5,6,7,8,9,10,11,12,-13,14,-15] aV aV (aG.refl _) ?_)|(have:ak 601 _:=z;refine bY rfl rfl rfl (kI 3 1 rfl rfl rfl U U eA) ?_)|(have:ak 602 _:=z;refine ap 8 rfl rfl rfl rfl rfl U (E1 rfl) (rG _) U gr ?_)|(have:ak 603 _:=z;refine bY rfl rfl rfl (kI 33 1 rfl rfl rfl U U eA) ?_)|(have:ak 604 _:=z;refine lP (a:=(_,_)) 78 3 rfl (dR.pair aV) rfl rfl rfl ?_)|(have:ak 605 _:=z;refine ab.draw _ [12] [0,1,2,3,4,5,6,7,8,9,10,11,-12] aV aV (aG.refl _) ?_)|(have:ak 606 _:=z;refine cC [0,1,2,3,5,6,7,8,-4,-9] (show aG (ah _) (ah [aj bb 150 [ae aR,aS h,aa (bX X.A h)],aj aB 148 [ae aH,ae bu]])from ai) ?_)|(have:ak 607 _:=z;refine ap 4 rfl rfl rfl rfl rfl (Nat.le_of_ble_eq_true rfl) (show _=cL .u32 [h]from rfl) rfl U gr ?_)|(have:ak 608 _:=z;refine er.of [(7,false),(8,false),(9,false),(10,true),(11,true),(12,false)] aV rfl ?_)|(have:ak 609 _:=z;refine er.of [(6,true),(7,false),(8,false),(9,false),(11,true),(12,false)] aV rfl ?_)|(have:ak 610 _:=z;refine eS (v:=.agg #[_,_,_,_]) (l:=[.int _ _,.int _ _,.int _ _,.bool _]) rfl rfl ?_)|(have:ak 611 _:=z;refine eS (v:=.agg #[_,_,_,_,_]) (l:=[.int _ _,.int _ _,.int _ _,.int _ _,.bool _]) rfl rfl ?_)|(have:ak 612 _:=z;refine q rfl rfl (eh (cs:=[.int _ _,.int _ _,.int _ _,.int _ _,.bool _]) rfl) ?_)|(have:ak 613 _:=z;refine dw (i:=4) rfl rfl rfl aV (fR (v:=.pointer _) rfl) ?_)|(have:ak 614 _:=z;refine dw (i:=12) rfl rfl rfl aV (conv .i64 .u64 rfl rfl rfl (qb U)) ?_)|(have:ak 615 _:=z;refine bs (cs:=[.int _ _,.int _ _,.int _ _,.int _ _,.bool _]) rfl ?_)|(have:ak 616 _:=z;refine q rfl rfl (gH (vs:=[_,_,_,_,_]) 5 rfl rfl (kB wR hm 0 5 U U (show _=[aa (hk:Int),aa ib,aa hy,aa f9,.bool g9]from rfl)) rfl am) ?_)|(have:ak 617 _:=z;refine eS (v:=.agg #[_,_,_]) (l:=[.int _ _,.slice _ _ _,.slice _ _ _]) rfl rfl ?_)|(have:ak 618 _:=z;refine bY rfl rfl rfl (fQ (vs:=[_,_,_,_,_]) 5 rfl rfl rfl rfl) ?_)|(have:ak 619 _:=z;refine ap 32 rfl rfl rfl rfl rfl U (P4 lp) (Gb lp) U gr ?_)|(have:ak 620 _:=z;change aU _ _ _ _ _ _ _ _ (ah [_,_,_,_,_,_,_,_,_,_,_,_,_,_,_,_,_,_,_]))|(have:ak 621 _:=z;refine ap 24 rfl rfl rfl rfl rfl (Nat.le_of_ble_eq_true rfl) (show _=jd [o]from rfl) rfl U gr ?_)|(have:ak 622 _:=z;refine ab.bg (B:=ah [b8 (dJ A ad cap s) s.ids,b8 (e1 ad cap s) s.ids,aj b 352 [.map (some aC)],bO QM.encI aC (ee A s.ids) s.ids.length,aj cp 75 (e4 dv),F]) ai ?_)|(have:ak 623 _:=z;refine q rfl rfl (om 75 3 (1) rfl rfl rfl U U) ?_));exact z.k):G:=h ⟨k ⟨z.k⟩⟩
theorem JA{c:Nat}{L:List Nat}{G R X:Prop}(z:ea (c::L) R)(k:ea L R->X)(a:Nat.ble 624 c=true:=by rfl)(b:Nat.ble c 647=true:=by rfl)(h:ak c X->G:=by intro z;(first|(have:ak 624 _:=z;refine ab.bg (B:=ah [b8 (dJ A ad cap s) s.ids,b8 (e1 ad cap s) s.ids,aj b 352 [.map (some aC)],bO QM.encI aC (ee A s.ids) s.ids.length,aj bD 3 [aa id],F]) ai ?_)|(have:ak 625 _:=z;refine bY rfl rfl rfl (eh (cs:=[.int _ _,.slice _ _ _,.slice _ _ _]) rfl) ?_)|(have:ak 626 _:=z;refine cC [0,1,2,3,4,5,6,7,8,9,10,11,12,13,14,-15] (show aG (ah _) (ah [aj aE 130 [ae aK,ae a1,ae aJ,.map (some hm),.map (some be),.map (some lm)],aj (bp g) 245 [aa (aY g).1,bk ((aY g).2:Int)]])from ai) ?_)|(have:ak 627 _:=z;refine aU.bg (B:=ah [c4 aE af top (n+K.length) ⟨X,T,aM,hv,bm,aY,I,bw,lv⟩ [],aZ 33 1 hX K.length fq (cL .u32 K),F]) (az (⟨aK,a1,aJ,hm,be,lm,bp⟩:di) ⟨av,aQ⟩ (bP 6 rfl (az (⟨b5,aB⟩:eN) trivial (eQ (eQ (az (bT.mk aH bu:bT) trivial ai)))))) ?_)|(have:ak 628 _:=z;refine eS (v:=.agg (List.toArray [aa op,aa s,aa a,aa b,aa bG,.bool cb,bk x,.slice bA ws.length bQ,.slice bC aT.length bW])) (l:=[aa op,aa s,aa a,aa b,aa bG,.bool cb,bk x,.slice bA ws.length bQ,.slice bC aT.length bW]) rfl rfl ?_)|(have:ak 629 _:=z;refine bY rfl rfl rfl (kI 47 1 rfl rfl rfl U U eA) ?_)|(have:ak 630 _:=z;refine q rfl rfl (conv .u32 .u64 rfl rfl rfl (yj U U)) ?_)|(have:ak 631 _:=z;refine cC [0,1,2,3,4,5,6,7,8,9,10,11,12,-13,14] (show aG (ah _) (ah [aj b9 121 [ae aE],aj gN 269 [aa op,aa s,aa a,aa b,aa bG,.bool cb,bk x,.slice bA ws.length bQ,.slice bC aT.length bW,aS t,aS cz,aS h,aa r],aj cp 39 [aS ey,aa uZ]])from ai) ?_)|(have:ak 632 _:=z;change aG _ _/\ca _ _ _ _ _ _ _ _ _ _ (ah [_,_,_,_,_,_,_,_,_,_,_,_,_,_]))|(have:ak 633 _:=z;refine cC [0,1,2,3,4,5,6,7,8,-9,10] (show aG (ah _) (ah [aj b9 121 [ae aE],aj gN 269 [aa op,aa s,aa a,aa b,aa bG,.bool cb,bk x,.slice bA ws.length bQ,.slice bC aT.length bW,aS t,aS cz,aS h,aa r]])from ai) ?_)|(have:ak 634 _:=z;change aG _ _/\ca _ _ _ _ _ _ _ _ _ _ (ah [_,_,_,_,_,_,_,_,_,_,_,_,_]))|(have:ak 635 _:=z;refine eS (v:=.agg (List.toArray [aa gk,aa gu,.slice jE dc me])) (l:=[aa gk,aa gu,.slice jE dc me]) rfl rfl ?_)|(have:ak 636 _:=z;refine db rfl rfl rfl (fQ (vs:=[_,_,_,_]) 4 rfl rfl rfl rfl) ?_)|(have:ak 637 _:=z;refine db rfl rfl rfl (eh (cs:=[.int _ _,.int _ _,.int _ _,.slice _ _ _]) rfl) ?_)|(have:ak 638 _:=z;refine eS (v:=.agg (List.toArray [aa i.b,aa i.o,aa i.r,aa i.f,.bool i.g])) (l:=[aa i.b,aa i.o,aa i.r,aa i.f,.bool i.g]) rfl rfl ?_)|(have:ak 639 _:=z;refine q rfl rfl (gH (vs:=[_,_,_,_,_]) 5 rfl rfl (kB Ar h7 0 5 U U (show _=[aa bf.b,aa bf.o,aa bf.r,aa bf.f,.bool bf.g]from rfl)) rfl am) ?_)|(have:ak 640 _:=z;refine q rfl rfl (fQ (vs:=[aa op,aa s,aa a,aa b,aa bG,.bool cb,bk x,.slice bA ws.length bQ,.slice bC aT.length bW]) 9 rfl rfl rfl rfl) ?_)|(have:ak 641 _:=z;refine ab.loop (ι:=Nat) (λk=>k<=l.length/\∀i a,i<k->l[i]? =some a->a.rw.length<=40) (λk=>[(1,.slice dg l.length lc),(5,aa k)]) (λk=>ah [F]) (λk=>l.length-k) 0 ⟨Nat.zero_le _,λi a h _=>absurd h (Nat.not_lt_zero _)⟩ bI ai ?_)|(have:ak 642 _:=z;refine q rfl rfl (dB rfl rfl (pH sw h7 2 U rfl)) ?_)|(have:ak 643 _:=z;refine db rfl rfl rfl (dB rfl rfl (pH sw h7 10 U rfl)) ?_)|(have:ak 644 _:=z;refine db rfl rfl rfl (dB rfl rfl (pH sw h7 11 U rfl)) ?_)|(have:ak 645 _:=z;refine q rfl rfl (gH (vs:=_) 12 rfl rfl (kB sw h7 0 12 U U (show _=[aa bf.gk,aa bf.gu,.slice bf.cH bf.rw.length bf.rc,aa bf.op,aa bf.s,aa bf.a,aa bf.b,aa bf.c,.bool bf.cb,bk bf.x,.slice bf.bA bf.ws.length bf.bQ,.slice bf.bC bf.aT.length bf.bW]from rfl)) rfl am) ?_)|(have:ak 646 _:=z;refine st (v:=.agg #[_,_,_]) (vs:=[_,_,_]) 3 rfl rfl rfl rfl rfl rfl (Nat.le_of_ble_eq_true rfl) rfl ?_)|(have:ak 647 _:=z;refine q rfl rfl (pu (v:=.pointer _) (λ_=>rfl)) ?_));exact z.k):G:=h ⟨k ⟨z.k⟩⟩
theorem JB{c:Nat}{L:List Nat}{G R X:Prop}(z:ea (c::L) R)(k:ea L R->X)(a:Nat.ble 651 c=true:=by rfl)(b:Nat.ble c 660=true:=by rfl)(h:ak c X->G:=by intro z;(first|(have:ak 651 _:=z;refine q rfl rfl (pu (v:=.agg #[_,_,_]) (λ_=>rfl)) ?_)|(have:ak 652 _:=z;refine q rfl rfl (c1 8 rfl rfl) ?_)|(have:ak 653 _:=z;refine st (v:=.agg (List.toArray (ints [_,_,_]))) (vs:=ints [_,_,_]) 3 rfl rfl rfl rfl rfl rfl (Nat.le_of_ble_eq_true rfl) rfl ?_)|(have:ak 654 _:=z;refine q rfl rfl (oG (v:=.bool _) rfl) ?_)|(have:ak 655 _:=z;refine st (v:=.agg #[_,_]) (vs:=[_,_]) 2 rfl rfl rfl rfl rfl rfl (Nat.le_of_ble_eq_true rfl) rfl ?_)|(have:ak 656 _:=z;refine q rfl rfl (pu (v:=.agg #[_,_]) (λ_=>rfl)) ?_)|(have:ak 657 _:=z;refine db rfl rfl rfl (c1 2 rfl rfl) ?_)|(have:ak 658 _:=z;refine bY rfl rfl rfl (oG (v:=.bool _) rfl) ?_)|(have:ak 659 _:=z;refine bY rfl rfl rfl (pu (v:=.agg #[_,_,_]) (λ_=>rfl)) ?_)|(have:ak 660 _:=z;refine⟨rfl,rfl,?_⟩));exact z.k):G:=h ⟨k ⟨z.k⟩⟩
theorem a6(L:List Nat){G R:Prop}(k:R)(h:ea L R->G:=by intro z;(repeat(first|(refine Jl z ?_;clear z;intro z)|(refine JC z ?_;clear z;intro z)|(refine JD z ?_;clear z;intro z)|(refine Jm z ?_;clear z;intro z)|(refine Jn z ?_;clear z;intro z)|(refine Jo z ?_;clear z;intro z)|(refine Jp z ?_;clear z;intro z)|(refine Jq z ?_;clear z;intro z)|(refine Jr z ?_;clear z;intro z)|(refine Js z ?_;clear z;intro z)|(refine Jt z ?_;clear z;intro z)|(refine Ju z ?_;clear z;intro z)|(refine Jv z ?_;clear z;intro z)|(refine Jw z ?_;clear z;intro z)|(refine Jx z ?_;clear z;intro z)|(refine Jy z ?_;clear z;intro z)|(refine Jz z ?_;clear z;intro z)|(refine JA z ?_;clear z;intro z)|(refine JB z ?_;clear z;intro z)));exact z.k):G:=h ⟨k⟩
theorem UG{c:Nat}{L:List Nat}{G R X:Prop}(z:ea (c::L) R)(k:ea L R->X)(a:Nat.ble 24 c=true:=by rfl)(b:Nat.ble c 47=true:=by rfl)(h:ak c X->G:=by intro z;(first|(have:ak 24 _:=z;refine a6 [7,155] ?_)|(have:ak 25 _:=z;refine a6 [7,155,0] ?_)|(have:ak 26 _:=z;refine a6 [77,2,148] ?_)|(have:ak 27 _:=z;refine a6 [7,155,3] ?_)|(have:ak 28 _:=z;refine a6 [77,2] ?_)|(have:ak 29 _:=z;refine a6 [3,0] ?_)|(have:ak 30 _:=z;refine a6 [2,7] ?_)|(have:ak 31 _:=z;refine a6 [77,2,7] ?_)|(have:ak 32 _:=z;refine a6 [7,155,158,3,0] ?_)|(have:ak 33 _:=z;refine a6 [7,155,93] ?_)|(have:ak 34 _:=z;refine a6 [7,155,158,3] ?_)|(have:ak 35 _:=z;refine a6 [7,155,77,2,7] ?_)|(have:ak 36 _:=z;refine a6 [7,155,158] ?_)|(have:ak 37 _:=z;refine a6 [155,158] ?_)|(have:ak 38 _:=z;refine a6 [654,2] ?_)|(have:ak 39 _:=z;refine a6 [7,155,3,87,2] ?_)|(have:ak 40 _:=z;refine a6 [149,19] ?_)|(have:ak 41 _:=z;refine a6 [7,155,158,156,2,23,4] ?_)|(have:ak 42 _:=z;refine a6 [7,155,383,2,7] ?_)|(have:ak 43 _:=z;refine a6 [7,155,158,80,81] ?_)|(have:ak 44 _:=z;refine a6 [4,7] ?_)|(have:ak 45 _:=z;refine a6 [363,363,363,363] ?_)|(have:ak 46 _:=z;refine a6 [7,155,297,654,2] ?_)|(have:ak 47 _:=z;refine a6 [10,17] ?_));exact z.k):G:=h ⟨k ⟨z.k⟩⟩
theorem UJ{c:Nat}{L:List Nat}{G R X:Prop}(z:ea (c::L) R)(k:ea L R->X)(a:Nat.ble 48 c=true:=by rfl)(b:Nat.ble c 71=true:=by rfl)(h:ak c X->G:=by intro z;(first|(have:ak 48 _:=z;refine a6 [363,363] ?_)|(have:ak 49 _:=z;refine a6 [78,88,86,92] ?_)|(have:ak 50 _:=z;refine a6 [7,155,158,80,81,84] ?_)|(have:ak 51 _:=z;refine a6 [456,19] ?_)|(have:ak 52 _:=z;refine a6 [363,363,363] ?_)|(have:ak 53 _:=z;refine a6 [7,155,77,2,7,155,158,3,0] ?_)|(have:ak 54 _:=z;refine a6 [80,81,84] ?_)|(have:ak 55 _:=z;refine a6 [288,84] ?_)|(have:ak 56 _:=z;refine a6 [164,2,7] ?_)|(have:ak 57 _:=z;refine a6 [12,7,155] ?_)|(have:ak 58 _:=z;refine a6 [406,84] ?_)|(have:ak 59 _:=z;refine a6 [296,647,91,164,77,2,7,72,7,155,3,87,654,2] ?_)|(have:ak 60 _:=z;refine a6 [4,7,72] ?_)|(have:ak 61 _:=z;refine a6 [85,2,148] ?_)|(have:ak 62 _:=z;refine a6 [7,155,19] ?_)|(have:ak 63 _:=z;refine a6 [246,155,146,3,2] ?_)|(have:ak 64 _:=z;refine a6 [77,2,7,155,3] ?_)|(have:ak 65 _:=z;refine a6 [7,155,158,80,406,84] ?_)|(have:ak 66 _:=z;refine a6 [22,646] ?_)|(have:ak 67 _:=z;refine a6 [7,155,77,2,161] ?_)|(have:ak 68 _:=z;refine a6 [3,0,150] ?_)|(have:ak 69 _:=z;refine a6 [7,155,158,0] ?_)|(have:ak 70 _:=z;refine a6 [654,2,148] ?_)|(have:ak 71 _:=z;refine a6 [7,155,81,84] ?_));exact z.k):G:=h ⟨k ⟨z.k⟩⟩
theorem UL{c:Nat}{L:List Nat}{G R X:Prop}(z:ea (c::L) R)(k:ea L R->X)(a:Nat.ble 96 c=true:=by rfl)(b:Nat.ble c 119=true:=by rfl)(h:ak c X->G:=by intro z;(first|(have:ak 96 _:=z;refine a6 [81,84] ?_)|(have:ak 97 _:=z;refine a6 [10,349,73] ?_)|(have:ak 98 _:=z;refine a6 [149,654,2,148] ?_)|(have:ak 99 _:=z;refine a6 [77,77,2,148] ?_)|(have:ak 100 _:=z;refine a6 [7,155,158,80,288,84] ?_)|(have:ak 101 _:=z;refine a6 [7,155,158,156] ?_)|(have:ak 102 _:=z;refine a6 [22,655] ?_)|(have:ak 103 _:=z;refine a6 [149,2] ?_)|(have:ak 104 _:=z;refine a6 [164,2,148] ?_)|(have:ak 105 _:=z;refine a6 [654,2,7] ?_)|(have:ak 106 _:=z;refine a6 [7,155,77,2] ?_)|(have:ak 107 _:=z;refine a6 [2,23,4] ?_)|(have:ak 108 _:=z;refine a6 [2,23] ?_)|(have:ak 109 _:=z;refine a6 [86,92] ?_)|(have:ak 110 _:=z;refine a6 [10,73] ?_)|(have:ak 111 _:=z;refine a6 [20,155,146,3,2] ?_)|(have:ak 112 _:=z;refine a6 [3,2,72] ?_)|(have:ak 113 _:=z;refine a6 [155,93] ?_)|(have:ak 114 _:=z;refine a6 [7,155,304] ?_)|(have:ak 115 _:=z;refine a6 [7,155,85,2] ?_)|(have:ak 116 _:=z;refine a6 [22,646,77,2,7] ?_)|(have:ak 117 _:=z;refine a6 [155,158,80] ?_)|(have:ak 118 _:=z;refine a6 [2,7,155,77,2,148] ?_)|(have:ak 119 _:=z;refine a6 [77,77,2,161] ?_));exact z.k):G:=h ⟨k ⟨z.k⟩⟩
theorem UM{c:Nat}{L:List Nat}{G R X:Prop}(z:ea (c::L) R)(k:ea L R->X)(a:Nat.ble 120 c=true:=by rfl)(b:Nat.ble c 143=true:=by rfl)(h:ak c X->G:=by intro z;(first|(have:ak 120 _:=z;refine a6 [3,3] ?_)|(have:ak 121 _:=z;refine a6 [2,23,4,7] ?_)|(have:ak 122 _:=z;refine a6 [7,155,158,80] ?_)|(have:ak 123 _:=z;refine a6 [77,2,74] ?_)|(have:ak 124 _:=z;refine a6 [7,155,164,2,7] ?_)|(have:ak 125 _:=z;refine a6 [7,155,3,77,2,74] ?_)|(have:ak 126 _:=z;refine a6 [77,2,7,155,3,87,2] ?_)|(have:ak 127 _:=z;refine a6 [7,155,654,2] ?_)|(have:ak 128 _:=z;refine a6 [7,7,155,3] ?_)|(have:ak 129 _:=z;refine a6 [296,91,91,77,77,2,7] ?_)|(have:ak 130 _:=z;refine a6 [7,155,429] ?_)|(have:ak 131 _:=z;refine a6 [456,654,2,148] ?_)|(have:ak 132 _:=z;refine a6 [155,3,146,77,2] ?_)|(have:ak 133 _:=z;refine a6 [78,88,427,92] ?_)|(have:ak 134 _:=z;refine a6 [456,2,12,7,155] ?_)|(have:ak 135 _:=z;refine a6 [364,92] ?_)|(have:ak 136 _:=z;refine a6 [289,504] ?_)|(have:ak 137 _:=z;refine a6 [350,10] ?_)|(have:ak 138 _:=z;refine a6 [7,155,3,0] ?_)|(have:ak 139 _:=z;refine a6 [7,155,77,2,74] ?_)|(have:ak 140 _:=z;refine a6 [7,155,3,77,2] ?_)|(have:ak 141 _:=z;refine a6 [13,159] ?_)|(have:ak 142 _:=z;refine a6 [2,72] ?_)|(have:ak 143 _:=z;refine a6 [456,654,2] ?_));exact z.k):G:=h ⟨k ⟨z.k⟩⟩
theorem UN{c:Nat}{L:List Nat}{G R X:Prop}(z:ea (c::L) R)(k:ea L R->X)(a:Nat.ble 168 c=true:=by rfl)(b:Nat.ble c 191=true:=by rfl)(h:ak c X->G:=by intro z;(first|(have:ak 168 _:=z;refine a6 [7,155,164,2] ?_)|(have:ak 169 _:=z;refine a6 [7,155,3,297,2] ?_)|(have:ak 170 _:=z;refine a6 [78,88,86,86,92] ?_)|(have:ak 171 _:=z;refine a6 [7,155,77,77,2,161] ?_)|(have:ak 172 _:=z;refine a6 [7,155,3,87,2,23,4] ?_)|(have:ak 173 _:=z;refine a6 [77,77,2] ?_)|(have:ak 174 _:=z;refine a6 [85,2] ?_)|(have:ak 175 _:=z;refine a6 [297,654,2] ?_)|(have:ak 176 _:=z;refine a6 [158,80] ?_)|(have:ak 177 _:=z;refine a6 [305,3,2,72] ?_)|(have:ak 178 _:=z;refine a6 [155,158,3,0] ?_)|(have:ak 179 _:=z;refine a6 [7,155,3,383,19] ?_)|(have:ak 180 _:=z;refine a6 [296,647,91,164,77,2,7,7,155,3,87,2] ?_)|(have:ak 181 _:=z;refine a6 [427,92] ?_)|(have:ak 182 _:=z;refine a6 [85,2,7] ?_)|(have:ak 183 _:=z;refine a6 [383,2] ?_)|(have:ak 184 _:=z;refine a6 [77,654,2] ?_)|(have:ak 185 _:=z;refine a6 [78,88,364,92] ?_)|(have:ak 186 _:=z;refine a6 [8,7,155,0] ?_)|(have:ak 187 _:=z;refine a6 [384,384,384,384] ?_)|(have:ak 188 _:=z;refine a6 [4,7,72,7,155,365] ?_)|(have:ak 189 _:=z;refine a6 [7,155,3,77,77,2,74] ?_)|(have:ak 190 _:=z;refine a6 [456,2] ?_)|(have:ak 191 _:=z;refine a6 [654,2,23] ?_));exact z.k):G:=h ⟨k ⟨z.k⟩⟩
theorem UO{c:Nat}{L:List Nat}{G R X:Prop}(z:ea (c::L) R)(k:ea L R->X)(a:Nat.ble 192 c=true:=by rfl)(b:Nat.ble c 215=true:=by rfl)(h:ak c X->G:=by intro z;(first|(have:ak 192 _:=z;refine a6 [366,165] ?_)|(have:ak 193 _:=z;refine a6 [297,19] ?_)|(have:ak 194 _:=z;refine a6 [85,77,2] ?_)|(have:ak 195 _:=z;refine a6 [7,155,3,3] ?_)|(have:ak 196 _:=z;refine a6 [7,155,85,2,7] ?_)|(have:ak 197 _:=z;refine a6 [12,7,155,77,2,161] ?_)|(have:ak 198 _:=z;refine a6 [296,647,91,164,77,2,7] ?_)|(have:ak 199 _:=z;refine a6 [349,73] ?_)|(have:ak 200 _:=z;refine a6 [155,3] ?_)|(have:ak 201 _:=z;refine a6 [7,155,77,2,148] ?_)|(have:ak 202 _:=z;refine a6 [22,503] ?_)|(have:ak 203 _:=z;refine a6 [13,386] ?_)|(have:ak 204 _:=z;refine a6 [23,4] ?_)|(have:ak 205 _:=z;refine a6 [367,16] ?_)|(have:ak 206 _:=z;refine a6 [20,7] ?_)|(have:ak 207 _:=z;refine a6 [149,654,2] ?_)|(have:ak 208 _:=z;refine a6 [3,3,0] ?_)|(have:ak 209 _:=z;refine a6 [81,84,0] ?_)|(have:ak 210 _:=z;refine a6 [75,7,155,93] ?_)|(have:ak 211 _:=z;refine a6 [7,155,3,77,2,161] ?_)|(have:ak 212 _:=z;refine a6 [297,2] ?_)|(have:ak 213 _:=z;refine a6 [363,363,363,363,363] ?_)|(have:ak 214 _:=z;refine a6 [407,84] ?_)|(have:ak 215 _:=z;refine a6 [7,155,77,77,2] ?_));exact z.k):G:=h ⟨k ⟨z.k⟩⟩
theorem UP{c:Nat}{L:List Nat}{G R X:Prop}(z:ea (c::L) R)(k:ea L R->X)(a:Nat.ble 216 c=true:=by rfl)(b:Nat.ble c 239=true:=by rfl)(h:ak c X->G:=by intro z;(first|(have:ak 216 _:=z;refine a6 [296,651,91,0,564] ?_)|(have:ak 217 _:=z;refine a6 [7,155,3,87] ?_)|(have:ak 218 _:=z;refine a6 [77,77,2,7] ?_)|(have:ak 219 _:=z;refine a6 [4,7,72,7,155] ?_)|(have:ak 220 _:=z;refine a6 [385,84] ?_)|(have:ak 221 _:=z;refine a6 [3,431,0] ?_)|(have:ak 222 _:=z;refine a6 [7,155,654,2,7,155,3] ?_)|(have:ak 223 _:=z;refine a6 [3,431] ?_)|(have:ak 224 _:=z;refine a6 [2,148] ?_)|(have:ak 225 _:=z;refine a6 [657,165] ?_)|(have:ak 226 _:=z;refine a6 [2,7,155] ?_)|(have:ak 227 _:=z;refine a6 [3,22,646] ?_)|(have:ak 228 _:=z;refine a6 [7,155,77,2,72] ?_)|(have:ak 229 _:=z;refine a6 [7,155,158,156,19] ?_)|(have:ak 230 _:=z;refine a6 [296,651,91,0,247] ?_)|(have:ak 231 _:=z;refine a6 [296,656,256,0,257] ?_)|(have:ak 232 _:=z;refine a6 [75,7,155,3,77,2,148] ?_)|(have:ak 233 _:=z;refine a6 [7,155,158,80,81,84,0] ?_)|(have:ak 234 _:=z;refine a6 [149,19,363,363,363,363,363] ?_)|(have:ak 235 _:=z;refine a6 [296,647,91,164] ?_)|(have:ak 236 _:=z;refine a6 [72,7,155,3,87,654,2] ?_)|(have:ak 237 _:=z;refine a6 [89,2] ?_)|(have:ak 238 _:=z;refine a6 [565,165] ?_)|(have:ak 239 _:=z;refine a6 [13,94] ?_));exact z.k):G:=h ⟨k ⟨z.k⟩⟩
theorem UH{c:Nat}{L:List Nat}{G R X:Prop}(z:ea (c::L) R)(k:ea L R->X)(a:Nat.ble 264 c=true:=by rfl)(b:Nat.ble c 287=true:=by rfl)(h:ak c X->G:=by intro z;(first|(have:ak 264 _:=z;refine a6 [16,17] ?_)|(have:ak 265 _:=z;refine a6 [7,155,406,84] ?_)|(have:ak 266 _:=z;refine a6 [89,654,2,23] ?_)|(have:ak 267 _:=z;refine a6 [7,155,158,429] ?_)|(have:ak 268 _:=z;refine a6 [80,406] ?_)|(have:ak 269 _:=z;refine a6 [22,368] ?_)|(have:ak 270 _:=z;refine a6 [408,19] ?_)|(have:ak 271 _:=z;refine a6 [93,0] ?_)|(have:ak 272 _:=z;refine a6 [658,73] ?_)|(have:ak 273 _:=z;refine a6 [164,2,74] ?_)|(have:ak 274 _:=z;refine a6 [349,349,73] ?_)|(have:ak 275 _:=z;refine a6 [78,88,432,92] ?_)|(have:ak 276 _:=z;refine a6 [7,155,429,22,646] ?_)|(have:ak 277 _:=z;refine a6 [164,2] ?_)|(have:ak 278 _:=z;refine a6 [296,91,91] ?_)|(have:ak 279 _:=z;refine a6 [155,3,146] ?_)|(have:ak 280 _:=z;refine a6 [652,84] ?_)|(have:ak 281 _:=z;refine a6 [22,653] ?_)|(have:ak 282 _:=z;refine a6 [298,10] ?_)|(have:ak 283 _:=z;refine a6 [430,430] ?_)|(have:ak 284 _:=z;refine a6 [248,10] ?_)|(have:ak 285 _:=z;refine a6 [258,646] ?_)|(have:ak 286 _:=z;refine a6 [22,503,2] ?_)|(have:ak 287 _:=z;refine a6 [385,84,3] ?_));exact z.k):G:=h ⟨k ⟨z.k⟩⟩
theorem UI{c:Nat}{L:List Nat}{G R X:Prop}(z:ea (c::L) R)(k:ea L R->X)(a:Nat.ble 312 c=true:=by rfl)(b:Nat.ble c 335=true:=by rfl)(h:ak c X->G:=by intro z;(first|(have:ak 312 _:=z;refine a6 [296,91,256] ?_)|(have:ak 313 _:=z;refine a6 [427,92,17] ?_)|(have:ak 314 _:=z;refine a6 [7,155,93,3] ?_)|(have:ak 315 _:=z;refine a6 [7,155,158,566] ?_)|(have:ak 316 _:=z;refine a6 [363,363,456,19] ?_)|(have:ak 317 _:=z;refine a6 [22,655,654,2] ?_)|(have:ak 318 _:=z;refine a6 [288,84,3,0] ?_)|(have:ak 319 _:=z;refine a6 [93,3] ?_)|(have:ak 320 _:=z;refine a6 [77,246] ?_)|(have:ak 321 _:=z;refine a6 [1,428] ?_)|(have:ak 322 _:=z;refine a6 [659,430] ?_)|(have:ak 323 _:=z;refine a6 [92,86] ?_)|(have:ak 324 _:=z;refine a6 [155,146,3,2] ?_)|(have:ak 325 _:=z;refine a6 [7,155,3,77,2,148] ?_)|(have:ak 326 _:=z;refine a6 [77,77,2,74] ?_)|(have:ak 327 _:=z;refine a6 [296,651] ?_)|(have:ak 328 _:=z;refine a6 [78,88,86] ?_)|(have:ak 329 _:=z;refine a6 [256,0] ?_)|(have:ak 330 _:=z;refine a6 [91,0] ?_)|(have:ak 331 _:=z;refine a6 [7,155,3,383] ?_)|(have:ak 332 _:=z;refine a6 [7,155,3,87,654,2] ?_)|(have:ak 333 _:=z;refine a6 [432,92] ?_)|(have:ak 334 _:=z;refine a6 [296,656] ?_)|(have:ak 335 _:=z;refine a6 [384,384] ?_));exact z.k):G:=h ⟨k ⟨z.k⟩⟩
theorem UK{c:Nat}{L:List Nat}{G R X:Prop}(z:ea (c::L) R)(k:ea L R->X)(a:Nat.ble 648 c=true:=by rfl)(b:Nat.ble c 650=true:=by rfl)(h:ak c X->G:=by intro z;(first|(have:ak 648 _:=z;refine a6 [78,88] ?_)|(have:ak 649 _:=z;refine a6 [146,3,2] ?_)|(have:ak 650 _:=z;refine a6 [296,651,91,0] ?_));exact z.k):G:=h ⟨k ⟨z.k⟩⟩
theorem J(L:List Nat){G R:Prop}(k:R)(h:ea L R->G:=by intro z;(repeat(first|(refine Jl z ?_;clear z;intro z)|(refine UG z ?_;clear z;intro z)|(refine UJ z ?_;clear z;intro z)|(refine JC z ?_;clear z;intro z)|(refine UL z ?_;clear z;intro z)|(refine UM z ?_;clear z;intro z)|(refine JD z ?_;clear z;intro z)|(refine UN z ?_;clear z;intro z)|(refine UO z ?_;clear z;intro z)|(refine UP z ?_;clear z;intro z)|(refine Jm z ?_;clear z;intro z)|(refine UH z ?_;clear z;intro z)|(refine Jn z ?_;clear z;intro z)|(refine UI z ?_;clear z;intro z)|(refine Jo z ?_;clear z;intro z)|(refine Jp z ?_;clear z;intro z)|(refine Jq z ?_;clear z;intro z)|(refine Jr z ?_;clear z;intro z)|(refine Js z ?_;clear z;intro z)|(refine Jt z ?_;clear z;intro z)|(refine Ju z ?_;clear z;intro z)|(refine Jv z ?_;clear z;intro z)|(refine Jw z ?_;clear z;intro z)|(refine Jx z ?_;clear z;intro z)|(refine Jy z ?_;clear z;intro z)|(refine Jz z ?_;clear z;intro z)|(refine JA z ?_;clear z;intro z)|(refine UK z ?_;clear z;intro z)|(refine JB z ?_;clear z;intro z)));exact z.k):G:=h ⟨k⟩
theorem Jk{G:Prop}(h:G:=by
 funext x
 by_cases h:x∈Y
 ·rw[ax h,ax (by simp[h])]
 rw[al h]
 by_cases e:x=y
 ·rw[ax (by simp[e]),e,cj]
 rw[al (by simp[e,h]),bM e]):G:=h
end Go.QM
