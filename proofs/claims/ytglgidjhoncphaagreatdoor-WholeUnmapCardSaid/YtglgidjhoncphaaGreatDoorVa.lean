/- Proved here: contracts of functions of this program, under the premises that each theorem names. -/
import Derived.RangeFuncLeaves
import Derived.OrdersIn
import Derived.Laws.World
import Derived.Laws.Sem
import Derived.KernelRfl
set_option linter.all false
set_option maxRecDepth 4000
set_option maxHeartbeats 4000000
open Nat renaming eq_of_beq_eq_true->Vd,beq->Wa
open Array renaming getD_eq_getD_getElem?->VV
open Option.some renaming injEq->Wt
open Prod.mk renaming injEq->W8
open Go.Fence renaming wide->Ya
namespace Go
theorem Av{G:Prop}(h:G:=by dsimp only;rw[List.length_append,List.length_singleton];omega):G:=h
theorem w2{G:Prop}(h:G:=by dsimp only;rw[List.length_append,List.length_singleton];rfl):G:=h
theorem FP{G:Prop}(h:G:=by dsimp only;rw[F3,List.length_append];first|done|fail):G:=h
theorem ux{G:Prop}(h:G:=by simp only[List.length_append,List.length_singleton];omega):G:=h
theorem FQ{G:Prop}(h:G:=by rw[Eh (Hs S t.id (t.left-1)),By]):G:=h
theorem jv{G:Prop}(h:G:=by simp only[List.length_cons,List.length_nil];omega):G:=h
theorem AA{G:Prop}(h:G:=by rw[List.length_append,List.length_append];omega):G:=h
theorem FR{G:Prop}(h:G:=by rw[kE kM,List.length_set];omega):G:=h
theorem w4{G:Prop}(h:G:=by show T.S.length+_<=_;first|omega|(simp<;>omega)):G:=h
theorem w5{G:Prop}(h:G:=by first|rfl|decide|exact dk (by omega)):G:=h
theorem sM{G:Prop}(h:G:=by dsimp only;rw[List.length_append];rfl):G:=h
theorem uw{G:Prop}(h:G:=by dsimp only;rw[List.length_append]):G:=h
theorem sN{G:Prop}(h:G:=by rw[List.take_zero,<-rz];rfl):G:=h
theorem Aw{G:Prop}(h:G:=by rw[kE kM];omega):G:=h
theorem Ax{G:Prop}(h:G:=by rw[List.length_singleton];omega):G:=h
theorem mz{G:Prop}(h:G:=by rw[IntKind.wrap_u64];omega):G:=h
theorem Ay{G:Prop}(h:G:=by rw[List.length_cons];omega):G:=h
theorem Az{G:Prop}(h:G:=by rw[List.length_set];omega):G:=h
theorem sO{G:Prop}(h:G:=by show T.A.length<=_;omega):G:=h
theorem gl{G:Prop}(h:G:=by simp only[maxLen];omega):G:=h
theorem w3{G:Prop}(h:G:=by dsimp only;rw[R0]):G:=h
theorem cD{G:Prop}(h:G:=by dsimp only;omega):G:=h
theorem rN{G:Prop}(h:G:=by simp;omega):G:=h
theorem aM{G:Prop}(h:G:=by kernel_rfl):G:=h
theorem rO{G:Prop}(h:G:=by rw[e];rfl):G:=h
theorem b2{G:Prop}(h:G:=by simp_all):G:=h
theorem am{G:Prop}(h:G:=by decide):G:=h
theorem U{G:Prop}(h:G:=by omega):G:=h
theorem cp{G:Prop}(h:G:=by grind):G:=h
theorem jP{G:Prop}(h:G:=by rw[e]):G:=h
theorem cE{G:Prop}(h:G:=by simp):G:=h
theorem kJ{G:Prop}(h:G:=by rfl):G:=h
end Go
namespace Go
theorem al{c:Prop}[h:Decidable c](d:¬c){α:Sort _}{t e:α}:ite c t e=e:=if_neg d
theorem aw{c:Prop}[h:Decidable c](d:c){α:Sort _}{t e:α}:ite c t e=t:=if_pos d
theorem dt{p:Prop}[inst:Decidable p](h:decide p=true):p:=of_decide_eq_true h
theorem dX{p:Prop}[inst:Decidable p](h:decide p=false):¬p:=of_decide_eq_false h
theorem c1{p:Prop}[inst:Decidable p](h:p):decide p=true:=decide_eq_true h
theorem dk{p:Prop}[inst:Decidable p](h:¬p):decide p=false:=decide_eq_false h
end Go
namespace Go.QM
open Go
abbrev kx:=Nat->Option Obj
def nr(a b:kx):Prop:=∀i,a i=none\/b i=none
def fD(a b:kx):kx:=λi=>match a i with|some o=>some o|none=>b i
def ld(a b:kx):Prop:=∀i o,a i=some o->b i=some o
abbrev ax:=kx->Prop
def sep(A B:ax):ax:=λh=>∃a b,nr a b/\h=fD a b/\A a/\B b
def kB:ax:=λh=>h=λ_=>none
def obj(b:Nat)(o:Obj):ax:=λh=>h=λi=>if i=b then some o else none
def aj(b:Nat)(E:TypeId)(l:List Value):ax:=obj b (.cells l.toArray E (0,0))
def ah:List ax->ax
  | []=>kB
  | A::l=>sep A (ah l)
def fj{α:Type}(A:α->ax):ax:=λh=>∃x,A x h
def pure'(p:Prop)(A:ax):ax:=λh=>p/\A h
variable{a b:kx}
theorem nr.symm(h:nr a b):nr b a:=λi=>(h i).symm
theorem EL(h:nr a b):fD a b=fD b a:=by funext i;rcases h i with h|h<;>simp only[fD,h];all_goals grind
theorem EK(a b c:kx):fD (fD a b) c=fD a (fD b c):=by grind[fD]
theorem uh(a:kx):ld a a:=λ_ _ h=>h
theorem ld.trans{c:kx}(h:ld a b)(k:ld b c):ld a c:=λi o x=>k i o (h i o x)
theorem qD(a b:kx):ld a (fD a b):=λi o h=>by simp[fD,h]
theorem ug(h:nr a b):ld b (fD a b):=by rw[EL h];exact qD b a
theorem NU{a' b':kx}(C:ld a a')(D:ld b b')(h:nr a' b'):ld (fD a b) (fD a' b'):=by intro i o d;simp only[fD]at d⊢;cases w:a i with|some x=>rw[w]at d;rw[C i x w];exact d|none=>rw[w]at d;have u:=D i o d;rcases h i with h|h;rw[h];exact u;rw[h]at u;cases u
theorem NF{a' b':kx}(h:nr a' b')(u:ld a a')(w:ld b b'):nr a b:=by
 intro i;rcases h i with h|h
 left;cases d:a i with
 | none=>rfl
 | some o=>have:=u i o d;rw[h]at this;cases this
 right;cases d:b i with
 | none=>rfl
 | some o=>have:=w i o d;rw[h]at this;cases this
theorem wz{c:kx}:nr (fD a b) c↔nr a c/\nr b c:=by
 constructor;·intro h;constructor<;>intro i<;>rcases h i with h|h;all_goals grind[fD]
 ·intro⟨h,k⟩ i;rcases h i with h|h;(·rcases k i with k|k;all_goals grind[fD]);simp_all
def aF(A B:ax):Prop:=∀h,A h->∃EA,ld EA h/\B EA
theorem aF.refl(A:ax):aF A A:=λh x=>⟨h,uh h,x⟩
variable{A B C:ax}
theorem aF.trans(x:aF A B)(y:aF B C):aF A C:=λh a=>
  let⟨d,s1,b⟩:=x h a;let⟨u,s2,c⟩:=y d b;⟨u,s2.trans s1,c⟩
theorem h8(x:∀h,A h->B h):aF A B:=λh a=>⟨h,uh h,x h a⟩
theorem Mh(A:ax):aF A kB:=λ_ _=>⟨λ_=>none,(λ_ _ h=>by cases h),rfl⟩
theorem dO{bl u:ax}(x:aF A bl)(y:aF B u):aF (sep A B) (sep bl u):=by rintro h ⟨a,b,d,rfl,E,N⟩;obtain⟨w,D,H⟩:=x a E;obtain⟨C,az,O⟩:=y b N;exact⟨fD w C,NU D az d,w,C,NF d D az,rfl,H,O⟩
theorem nF:aF (sep A B) (sep B A):=h8 (by
  rintro h ⟨a,b,d,rfl,u,w⟩
  exact⟨b,a,d.symm,EL d,w,u⟩)
theorem pY:aF (sep (sep A B) C) (sep A (sep B C)):=h8 (by
  rintro h ⟨H,c,d,rfl,⟨a,b,u,rfl,w,D⟩,E⟩
  obtain⟨d1,d2⟩:=wz.1 d
  exact⟨a,fD b c,(wz.2 ⟨u.symm,d1.symm⟩).symm,EK a b c,w,b,c,d2,rfl,D,E⟩)
theorem nE:aF (sep A (sep B C)) (sep (sep A B) C):=h8 (by
  rintro h ⟨a,H,d,rfl,w,b,c,u,rfl,D,E⟩
  obtain⟨d1,d2⟩:=wz.1 d.symm
  exact⟨fD a b,c,wz.2 ⟨d2.symm,u⟩,(EK a b c).symm,⟨a,b,d1.symm,rfl,w,D⟩,E⟩)
theorem pZ:aF A (sep A kB):=h8 (λh a=>⟨h,λ_=>none,λ_=>.inr rfl,by funext i;simp only[fD];cases h i<;>rfl,a,rfl⟩)
theorem xE:aF (sep A B) A:=by rintro h ⟨a,b,d,rfl,u,w⟩;exact⟨a,qD a b,u⟩
theorem rX:aF (sep A B) B:=nF.trans xE
theorem jB:aF (sep A (sep B C)) (sep B (sep A C)):=
  nE.trans ((dO nF (aF.refl _)).trans pY)
def eO:Nat->List ax->Option (ax×List ax)
  | _,[]=>none
  | 0,A::l=>some (A,l)
  | n+1,A::l=>match eO n l with|some (B,r)=>some (B,A::r)|none=>none
theorem fI:∀{n:Nat} {l r:List ax} {B:ax},eO n l=some (B,r)->aF (ah l) (sep B (ah r))
  | _,[],_,_,h=>by simp[eO]at h
  | 0,A::l,_,_,h=>by simp only[eO,Wt,W8]at h;obtain⟨rfl,rfl⟩:=h;exact aF.refl _
  | n+1,A::l,r,B,h=>by simp only[eO]at h;cases d:eO n l with|none=>rw[d]at h;cases h|some x=>obtain⟨C,u⟩:=x;rw[d]at h;simp only[Wt,W8]at h;obtain⟨rfl,rfl⟩:=h;exact(dO (aF.refl A) (fI d)).trans jB
def lH(hs pre rest:List ax):Prop:=aF (ah hs) (sep (ah pre) (ah rest))
theorem eu(hs:List ax):lH hs [] hs:=pZ.trans nF
theorem dY(i:Nat){hs r pre rest:List ax}(h:eO i hs=some (A,r))(k:lH r pre rest):lH hs (A::pre) rest:=
  (fI h).trans ((dO (aF.refl _) k).trans nE)
theorem o3:∀(l m:List ax),aF (sep (ah l) (ah m)) (ah (l++m))
  | [],_=>rX
  | _::l,m=>pY.trans (dO (aF.refl _) (o3 l m))
theorem uW:∀(l m:List ax),aF (ah (l++m)) (sep (ah l) (ah m))
  | [],_=>pZ.trans nF
  | _::l,m=>(dO (aF.refl _) (uW l m)).trans nE
theorem aZ(hs:List ax):aF (ah hs) (ah []):=Mh _
theorem bI(n:Nat){hs r gs:List ax}(h:eO n hs=some (B,r))(k:aF (ah r) (ah gs)):aF (ah hs) (ah (B::gs)):=
  (fI h).trans (dO (aF.refl _) k)
theorem Mg(hs:List ax):aF (ah hs) (ah hs):=aF.refl _
theorem DU(n:Nat){hs r gs:List ax}(h:eO n hs=some (A,r))(e:aF A B)(k:aF (ah (B::r)) (ah gs)):aF (ah hs) (ah gs):=
  (fI h).trans ((dO e (aF.refl _)).trans k)
def sat(w:World)(A:ax):Prop:=∃h:kx,(∀i o,h i=some o->w.heap[i]? =some o)/\A h
theorem sat.bg{w:World}(h:sat w A)(e:aF A B):sat w B:=
  let⟨x,u,a⟩:=h;let⟨y,s,b⟩:=e x a;⟨y,λi o d=>u i o (s i o d),b⟩
structure ft(w h2:World):Prop where
  os:h2.os=w.os
  tape:h2.tape=w.tape
  output:h2.output=w.output
  size:w.heap.size<=h2.heap.size
theorem ft.refl(w:World):ft w w:=⟨rfl,rfl,rfl,Nat.le_refl _⟩
theorem ft.trans{a b c:World}(h:ft a b)(k:ft b c):ft a c:=⟨k.os.trans h.os,k.tape.trans h.tape,k.output.trans h.output,Nat.le_trans h.size k.size⟩
theorem o2{w:World}(o:Obj)(h:sat w A):sat (w.alloc o) (sep (obj w.heap.size o) A):=by
 obtain⟨x,E,a⟩:=h;have C:∀i o,x i=some o->i<w.heap.size:=cp
 refine⟨fD (λi=>if i=w.heap.size then some o else none) x,?_,_,x,?_,rfl,rfl,a⟩;intro i d u;simp only[fD]at u;show(w.heap.push o)[i]? =some d;grind;intro i;by_cases e:i=w.heap.size;right;cases D:x i with|none=>rfl|some d=>exact absurd (C i d D) U
 simp_all
def Rd(A:ax)(b:Nat)(o:Obj):Prop:=∀h,A h->h b=some o
variable{o:Obj}
theorem Rd.sat{b:Nat}(r:Rd A b o){w:World}(h:sat w A):w.heap[b]? =some o:=
  let⟨x,d,a⟩:=h;d b o (r x a)
theorem ji(b:Nat)(o:Obj):Rd (obj b o) b o:=λh e=>by rw[e];simp
theorem nc(b:Nat)(E:TypeId)(l:List Value):Rd (aj b E l) b (.cells l.toArray E (0,0)):=ji _ _
theorem iC{b:Nat}(r:Rd A b o):Rd (sep A B) b o:=by rintro h ⟨x,y,d,rfl,u,w⟩;exact qD x y b o (r x u)
theorem vC{b:Nat}(r:Rd B b o):Rd (sep A B) b o:=by rintro h ⟨x,y,d,rfl,w,u⟩;exact ug d b o (r y u)
theorem jh{l:List ax}{b:Nat}(r:Rd A b o):Rd (ah (A::l)) b o:=iC r
theorem lI{l:List ax}{b:Nat}(r:Rd (ah l) b o):Rd (ah (A::l)) b o:=vC r
theorem uU{w D:World}{b:Nat}{C:Obj}(h:sat w (sep (obj b o) A))(Q:D.heap[b]? =some C)(H:∀i,i≠b->D.heap[i]? =w.heap[i]?):
    sat D (sep (obj b C) A):=by obtain⟨x,P,p,q,d,rfl,N,O⟩:=h;have V:q b=none:=(by rcases d b with h|h;rw[N]at h;simp at h;trivial);refine⟨fD (λi=>if i=b then some C else none) q,?_,_,q,?_,rfl,rfl,O⟩;intro i E u;simp only[fD]at u;by_cases e:i=b;simp_all;simp[e]at u;rw[H i e];exact P i E (ug d i E u);intro i;grind
abbrev Env:=Nat->Value
def hP(ag:Env)(d:Nat)(v:Value):Env:=λt=>bif Wa t d then v else ag t
def j0(ag:Env):Option Nat->Value->Env
  | some d,v=>hP ag d v
  | none,_=>ag
def bc(ag:Env):Operand->Value
  | .tmp t=>ag t
  | .const v=>v
  | .global g=>.pointer (some ⟨g,0,none⟩)
  | .func f=>.func (.func f) #[] #[]
def cr(ag:Env):List (Nat×Value)->Env
  | []=>ag
  | (t,v)::l=>hP (cr ag l) t v
def oP(ag:Env):List (Nat×Value)->Prop
  | []=>True
  | (t,v)::l=>ag t=v/\oP ag l
theorem r4{d:Env}{t:Nat}{v:Value}(h:d t=v):hP d t v=d:=by grind[hP,Vd]
theorem q4{d:Env}:∀{l:List (Nat×Value)},oP d l->cr d l=d
  | [],_=>rfl
  | (t,v)::l,h=>by rw[cr,q4 h.2,r4 h.1]
structure ch(N:Nat)(a:Act)(ag:Env)(aS:List Deferred):Prop where
  size:a.tmps.size=N
  get:∀t,a.tmps.getD t undef=ag t
  defers:a.defers=aS
theorem ch.eval{N:Nat}{a:Act}{d:Env}{u:List Deferred}(h:ch N a d u):a.eval=bc d:=by funext x;cases x<;>first|exact h.get _|rfl
def jN(N:Nat):Option Nat->Bool
  | some d=>Nat.blt d N
  | none=>true
theorem ch.put{N:Nat}{a:Act}{w:Env}{u:List Deferred}(h:ch N a w u){d:Option Nat}(D:jN N d=true)(v:Value):ch N (a.put d v) (j0 w d v) u:=by cases d with|none=>exact h|some d=>(have H:d<N:=by simpa[jN,Nat.blt_eq]using D);refine⟨by simp[Act.put,h.size],λt=>?_,h.defers⟩;simp only[Act.put,j0,hP];by_cases e:t=d;subst e;have:Wa t t=true:=Nat.beq_refl t;rw[this];simp[h.size,H];(have C:Wa t d=false:=by cases E:Wa t d with|false=>rfl|true=>exact absurd (Vd E) e);rw[C,cond_false,<-h.get t];rw[VV,VV,Array.getElem?_setIfInBounds_ne (λx=>e x.symm)]
def mO(r:Option Nat):Fence:={Ya with round:=r}
theorem vr(r:Option Nat)(f:FuncId):(mO r).fn f:=trivial
theorem vq(r:Option Nat):(mO r).depth.isSome=true->1<=0:=λh=>by simp[mO,Ya]at h
abbrev ff:=Exit->Env->List Deferred->ax->Prop
def d8(N:Nat)(w:World)(Q:ff):Exit->Act->World->Prop:=
  λe a' h2=>ft w h2/\∃Jz DO bl,ch N a' Jz DO/\sat h2 bl/\Q e Jz DO bl
def ab(r:Option Nat)(P:Program)(N:Nat)(c:Code)(Q:ff)(ag:Env)(aS:List Deferred)(A:ax):Prop:=
  ∀a w,ch N a ag aS->sat w A->c.wpIn (mO r) 0 P (d8 N w Q) a w
theorem vj{N:Nat}{w0 w:World}{Q d:ff}(hs:ft w0 w)(C:∀e ag aS A,Q e ag aS A->d e ag aS A){e:Exit}{a':Act}{u:World}(h:d8 N w Q e a' u):d8 N w0 d e a' u:=
  let⟨s,ag,aS,A,x,y,z⟩:=h;⟨hs.trans s,ag,aS,A,x,y,C _ _ _ _ z⟩
def po(K:Env->List Deferred->ax->Prop)(Q:ff):ff
  | .normal,ag,aS,A=>K ag aS A
  | e,ag,aS,A=>Q e ag aS A
def pf(id:Nat)(Q:ff):ff
  | .exit EN,ag,aS,A=>bif Wa EN id then Q .normal ag aS A else Q (.exit EN) ag aS A
  | e,ag,aS,A=>Q e ag aS A
section code
variable {r : Option Nat} {P : Program} {N : Nat} {Q : ff} {ag : Env} {aS : List Deferred} {A : ax}
theorem ab.bg{c:Code}{B:ax}(e:aF A B)(h:ab r P N c Q ag aS B):ab r P N c Q ag aS A:=λa w x y=>h a w x (y.bg e)
theorem ab.mono{c:Code}{d:ff}(h:ab r P N c Q ag aS A)(u:∀e ag aS A,Q e ag aS A->d e ag aS A):ab r P N c d ag aS A:=
  λa w x y=>wpIn_mono (h a w x y) λ_ _ _=>vj (ft.refl w) u
theorem ab.gc{c:Code}(l:List (Nat×Value))(d:oP ag l)(h:∀u,ab r P N c Q (cr u l) aS A):ab r P N c Q ag aS A:=by have:=h ag;rwa[q4 d]at this
theorem ab.skip(h:Q .normal ag aS A):ab r P N .skip Q ag aS A:=λ_ w x y=>wpIn_skip ⟨ft.refl w,ag,aS,A,x,y,h⟩
theorem ab.label{l:Nat}(h:Q .normal ag aS A):ab r P N (.label l) Q ag aS A:=λ_ w x y=>wpIn_label ⟨ft.refl w,ag,aS,A,x,y,h⟩
theorem ab.exit{id:Nat}(h:Q (.exit id) ag aS A):ab r P N (.exit id) Q ag aS A:=λ_ w x y=>wpIn_exit ⟨ft.refl w,ag,aS,A,x,y,h⟩
theorem ab.goto{l:Nat}(h:Q (.goto l) ag aS A):ab r P N (.goto l) Q ag aS A:=λ_ w x y=>wpIn_goto ⟨ft.refl w,ag,aS,A,x,y,h⟩
theorem ab.ret(h:Q .ret ag aS A):ab r P N .ret Q ag aS A:=λ_ w x y=>wpIn_ret ⟨ft.refl w,ag,aS,A,x,y,h⟩
variable{x y:Code}
theorem ab.seq(h:ab r P N x (po (λag aS A=>ab r P N y Q ag aS A) Q) ag aS A):ab r P N (.seq x y) Q ag aS A:=by intro a w O V;refine wpIn_seq (wpIn_mono (h a w O V) ?_);rintro e E W ⟨s,Z,H,D,d,u,C⟩;cases e with|normal=>exact wpIn_mono (C E W d u) λ_ _ _=>vj s (λ_ _ _ _ h=>h)|_=>exact⟨s,Z,H,D,d,u,C⟩
theorem ab.block{id:Nat}{c:Code}(h:ab r P N c (pf id Q) ag aS A):ab r P N (.block id c) Q ag aS A:=by intro a w W Z;refine wpIn_block (wpIn_mono (h a w W Z) ?_);rintro e an aq ⟨s,O,D,C,E,H,d⟩;cases e with|exit u=>simp only[Exit.inBlock];simp only[pf]at d;by_cases e:u=id;subst e;rw[aw rfl];have:Wa u u=true:=Nat.beq_refl _;rw[this]at d;exact⟨s,O,D,C,E,H,d⟩;rw[al e];(have:Wa u id=false:=by cases V:Wa u id with|false=>rfl|true=>exact absurd (Vd V) e);rw[this]at d;exact⟨s,O,D,C,E,H,d⟩|_=>exact⟨s,O,D,C,E,H,d⟩
theorem ab.cond{c:Operand}{t:Bool}(u:bc ag c=.bool t)(E:t=true->ab r P N x Q ag aS A)(D:t=false->ab r P N y Q ag aS A):ab r P N (.cond c x y) Q ag aS A:=by intro a w d C;cases t with|true=>exact wpIn_cond_true (by rw[d.eval];exact u) (E rfl a w d C)|false=>exact wpIn_cond_false (by rw[d.eval];exact u) (D rfl a w d C)
theorem ab.Lt{c:Operand}(d:bc ag c=.bool true)(u:ab r P N x Q ag aS A):ab r P N (.cond c x y) Q ag aS A:=
  ab.cond d (λ_=>u) (λh=>by cases h)
theorem ab.Ls{c:Operand}(d:bc ag c=.bool false)(u:ab r P N y Q ag aS A):ab r P N (.cond c x y) Q ag aS A:=
  ab.cond d (λh=>by cases h) (λ_=>u)
theorem ab.aA{c:Operand}{p:Prop}[Decidable p](d:bc ag c=.bool (decide p))(w:p->ab r P N x Q ag aS A)(u:¬p->ab r P N y Q ag aS A):ab r P N (.cond c x y) Q ag aS A:=
  ab.cond d (λh=>w (dt h)) (λh=>u (dX h))
end code
theorem TU{F:Fence}{n:Nat}{P:Program}{Q:Exit->Act->World->Prop}{a:Act}{w:World}{c:Code}(bM:Nat->Act->World->Prop)(O:Nat)(ax:bM O a w)
    (round:∀m a w,bM m a w->c.wpIn F n P (Exit.then (λa' D=>∃m',m'<m/\bM m' a' D) Q) a w):(Code.loop c).wpIn F n P Q a w:=by
 intro b k cs av H N
 have key:∀j a w,bM j a w->
     ∃e a' D,Q e a' D/\ArrivesIn (Machine.fenced P F) P (lone (b.atR a (.code c::.inLoop c::k)) cs w) b k cs e a' D:=by
   intro j
   induction j using Nat.strongRecOn with
   | _ j aA=>
     intro a w Z
     obtain⟨e,C,E,u,d⟩:=round j a w Z b (.inLoop c::k) cs av H N
     cases e with
     | normal=>
       obtain⟨m',aq,ag⟩:=u
       obtain⟨W,V,aB,ar,an⟩:=aA m' aq C E ag
       exact⟨W,V,aB,ar,.of_steps (StepsIn.trans d (.one (fenced_calm H N rfl) stepR_inLoop)) an⟩
     | exit id=>exact⟨_,C,E,u,.pass (x:=.inLoop c) rfl (λ_ _=>.inl cE) d⟩
     | goto l=>exact⟨_,C,E,u,.pass (x:=.inLoop c) rfl (λ_ _=>.inl cE) d⟩
     | ret=>exact⟨_,C,E,u,.pass (x:=.inLoop c) rfl (λ_ _=>.inl cE) d⟩
     | panic hJ=>exact⟨_,C,E,u,.pass (x:=.inLoop c) rfl (λ_ _=>.inl cE) d⟩
     | outgrown=>exact⟨_,C,E,u,.pass (x:=.inLoop c) rfl (λ_ _=>.inl cE) d⟩
 obtain⟨e,a',D,u,d⟩:=key O a w ax;exact⟨e,a',D,u,.of_steps (.one (fenced_calm H N rfl) stepR_loop) d⟩
section Lo
variable {r : Option Nat} {P : Program} {N : Nat} {Q : ff} {ag : Env} {aS : List Deferred} {A : ax}
theorem ab.loop{ι:Type}{c:Code}(inv:ι->Prop)(L:ι->List (Nat×Value))(B:ι->ax)(d:ι->Nat)(i0:ι)(av:inv i0)(aI:oP ag (L i0))(he:aF A (B i0))
    (round:∀i,inv i->∀u,ab r P N c (po (λa5 ar Z=>ar=aS/\∃j,inv j/\d j<d i/\oP a5 (L j)/\aF Z (B j)) Q) (cr u (L i)) aS (B i)):
    ab r P N (.loop c) Q ag aS A:=by intro a w a0 a3;refine TU (λm D C=>ft w C/\∃i u,inv i/\ch N D (cr u (L i)) aS/\sat C (B i)/\d i=m) (d i0) ⟨ft.refl w,i0,ag,av,by rw[q4 aI];exact a0,a3.bg he,rfl⟩ ?_;rintro m an cF ⟨s1,i,u,aB,a2,a4,rfl⟩;refine wpIn_mono (round i aB u an cF a2 a4) ?_;rintro e D C ⟨s,V,aq,W,E,H,O⟩;cases e with|normal=>obtain⟨rfl,j,aG,aY,aV,aA⟩:=O;exact⟨d j,aY,s1.trans s,j,V,aG,by rw[q4 aV];exact E,H.bg aA,rfl⟩|_=>exact⟨s1.trans s,V,aq,W,E,H,O⟩
theorem ab.cut{ι:Type}{x y:Code}(inv:ι->Prop)(L:ι->List (Nat×Value))(B:ι->ax)(C:ab r P N x (po (λd w u=>w=aS/\∃j,inv j/\oP d (L j)/\aF u (B j)) Q) ag aS A)
    (D:∀j,inv j->∀O,ab r P N y Q (cr O (L j)) aS (B j)):ab r P N (.seq x y) Q ag aS A:=by refine ab.seq (C.mono λe d w u h=>?_);cases e with|normal=>obtain⟨rfl,j,E,H,he⟩:=h;have:=D j E d;rw[q4 H]at this;exact this.bg he|_=>exact h
variable {K : Env → List Deferred → ax → Prop} {i j : Nat}
theorem ie(h:K ag aS A):po K Q .normal ag aS A:=h
theorem kC(h:Q (.exit i) ag aS A):po K Q (.exit i) ag aS A:=h
theorem rt(h:Q .ret ag aS A):po K Q .ret ag aS A:=h
theorem jQ(h:Q .normal ag aS A):pf i Q .normal ag aS A:=h
theorem oF(h:Q .normal ag aS A):pf i Q (.exit i) ag aS A:=by
 have:Wa i i=true:=b2
 simp only[pf,this,cond_true];exact h
theorem aI(d:Wa j i=false)(h:Q (.exit j) ag aS A):pf i Q (.exit j) ag aS A:=by simp only[pf,d,cond_false];exact h
theorem kN(h:Q .ret ag aS A):pf i Q .ret ag aS A:=h
end Lo
end Go.QM
