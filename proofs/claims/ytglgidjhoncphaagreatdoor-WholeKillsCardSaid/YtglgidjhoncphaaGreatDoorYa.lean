/- Proved here: contracts of functions of this program, under the premises that each theorem names. -/
import Derived.RangeFuncLeaves
import Derived.OrdersIn
import Derived.Laws.World
import Derived.Laws.Sem
import Derived.KernelRfl
set_option linter.all false
set_option maxRecDepth 4000
set_option maxHeartbeats 4000000
open Nat renaming eq_of_beq_eq_true->UM,beq->VI
open Array renaming getD_eq_getD_getElem?->Vr
open Option.some renaming injEq->V3
open Prod.mk renaming injEq->WE
open Go.Fence renaming wide->XJ
namespace Go
theorem Ag{G:Prop}(h:G:=by dsimp only;rw[List.length_append,List.length_singleton];omega):G:=h
theorem wO{G:Prop}(h:G:=by dsimp only;rw[List.length_append,List.length_singleton];rfl):G:=h
theorem Fq{G:Prop}(h:G:=by dsimp only;rw[FF,List.length_append];first|done|fail):G:=h
theorem ug{G:Prop}(h:G:=by simp only[List.length_append,List.length_singleton];omega):G:=h
theorem Fs{G:Prop}(h:G:=by rw[DR (G2 S t.id (t.left-1)),Be]):G:=h
theorem jn{G:Prop}(h:G:=by simp only[List.length_cons,List.length_nil];omega):G:=h
theorem Ak{G:Prop}(h:G:=by rw[List.length_append,List.length_append];omega):G:=h
theorem Ft{G:Prop}(h:G:=by rw[kp kz,List.length_set];omega):G:=h
theorem wP{G:Prop}(h:G:=by show T.S.length+_<=_;first|omega|(simp<;>omega)):G:=h
theorem Al{G:Prop}(h:G:=by first|rfl|decide|exact c4 (by omega)):G:=h
theorem sH{G:Prop}(h:G:=by dsimp only;rw[List.length_append];rfl):G:=h
theorem uf{G:Prop}(h:G:=by dsimp only;rw[List.length_append]):G:=h
theorem sI{G:Prop}(h:G:=by rw[List.take_zero,<-rh];rfl):G:=h
theorem Ah{G:Prop}(h:G:=by rw[kp kz];omega):G:=h
theorem md{G:Prop}(h:G:=by rw[IntKind.wrap_u64];omega):G:=h
theorem Ai{G:Prop}(h:G:=by rw[List.length_cons];omega):G:=h
theorem Aj{G:Prop}(h:G:=by rw[List.length_set];omega):G:=h
theorem sJ{G:Prop}(h:G:=by show T.A.length<=_;omega):G:=h
theorem gp{G:Prop}(h:G:=by simp only[maxLen];omega):G:=h
theorem wN{G:Prop}(h:G:=by dsimp only;rw[Ry]):G:=h
theorem cH{G:Prop}(h:G:=by dsimp only;omega):G:=h
theorem rx{G:Prop}(h:G:=by simp;omega):G:=h
theorem aR{G:Prop}(h:G:=by kernel_rfl):G:=h
theorem ry{G:Prop}(h:G:=by rw[e];rfl):G:=h
theorem b2{G:Prop}(h:G:=by simp_all):G:=h
theorem am{G:Prop}(h:G:=by decide):G:=h
theorem U{G:Prop}(h:G:=by omega):G:=h
theorem cr{G:Prop}(h:G:=by grind):G:=h
theorem jE{G:Prop}(h:G:=by rw[e]):G:=h
theorem cF{G:Prop}(h:G:=by simp):G:=h
theorem kx{G:Prop}(h:G:=by rfl):G:=h
end Go
namespace Go
theorem al{c:Prop}[h:Decidable c](d:¬c){α:Sort _}{t e:α}:ite c t e=e:=if_neg d
theorem aw{c:Prop}[h:Decidable c](d:c){α:Sort _}{t e:α}:ite c t e=t:=if_pos d
theorem ds{p:Prop}[inst:Decidable p](h:decide p=true):p:=of_decide_eq_true h
theorem dV{p:Prop}[inst:Decidable p](h:decide p=false):¬p:=of_decide_eq_false h
theorem cR{p:Prop}[inst:Decidable p](h:p):decide p=true:=decide_eq_true h
theorem c4{p:Prop}[inst:Decidable p](h:¬p):decide p=false:=decide_eq_false h
end Go
namespace Go.QM
open Go
abbrev kh:=Nat->Option Obj
def nc(a b:kh):Prop:=∀i,a i=none\/b i=none
def gf(a b:kh):kh:=λi=>match a i with|some o=>some o|none=>b i
def kY(a b:kh):Prop:=∀i o,a i=some o->b i=some o
abbrev ax:=kh->Prop
def sep(A B:ax):ax:=λh=>∃a b,nc a b/\h=gf a b/\A a/\B b
def km:ax:=λh=>h=λ_=>none
def obj(b:Nat)(o:Obj):ax:=λh=>h=λi=>if i=b then some o else none
def aj(b:Nat)(E:TypeId)(l:List Value):ax:=obj b (.cells l.toArray E (0,0))
def ah:List ax->ax
  | []=>km
  | A::l=>sep A (ah l)
def fj{α:Type}(A:α->ax):ax:=λh=>∃x,A x h
def pure'(p:Prop)(A:ax):ax:=λh=>p/\A h
variable{a b:kh}
theorem nc.symm(h:nc a b):nc b a:=λi=>(h i).symm
theorem Em(h:nc a b):gf a b=gf b a:=by funext i;rcases h i with h|h<;>simp only[gf,h];all_goals grind
theorem El(a b c:kh):gf (gf a b) c=gf a (gf b c):=by grind[gf]
theorem zA(a:kh):kY a a:=λ_ _ h=>h
theorem kY.trans{c:kh}(h:kY a b)(k:kY b c):kY a c:=λi o x=>k i o (h i o x)
theorem qs(a b:kh):kY a (gf a b):=λi o h=>by simp[gf,h]
theorem tX(h:nc a b):kY b (gf a b):=by rw[Em h];exact qs b a
theorem Nn{a' b':kh}(C:kY a a')(D:kY b b')(h:nc a' b'):kY (gf a b) (gf a' b'):=by intro i o d;simp only[gf]at d⊢;cases w:a i with|some x=>rw[w]at d;rw[C i x w];exact d|none=>rw[w]at d;have u:=D i o d;rcases h i with h|h;rw[h];exact u;rw[h]at u;cases u
theorem M7{a' b':kh}(h:nc a' b')(u:kY a a')(w:kY b b'):nc a b:=by
 intro i;rcases h i with h|h
 left;cases d:a i with
 | none=>rfl
 | some o=>have:=u i o d;rw[h]at this;cases this
 right;cases d:b i with
 | none=>rfl
 | some o=>have:=w i o d;rw[h]at this;cases this
theorem wh{c:kh}:nc (gf a b) c↔nc a c/\nc b c:=by
 constructor;·intro h;constructor<;>intro i<;>rcases h i with h|h;all_goals grind[gf]
 ·intro⟨h,k⟩ i;rcases h i with h|h;(·rcases k i with k|k;all_goals grind[gf]);simp_all
def aF(A B:ax):Prop:=∀h,A h->∃D9,kY D9 h/\B D9
theorem aF.refl(A:ax):aF A A:=λh x=>⟨h,zA h,x⟩
variable{A B C:ax}
theorem aF.trans(x:aF A B)(y:aF B C):aF A C:=λh a=>
  let⟨d,s1,b⟩:=x h a;let⟨u,s2,c⟩:=y d b;⟨u,s2.trans s1,c⟩
theorem h1(x:∀h,A h->B h):aF A B:=λh a=>⟨h,zA h,x h a⟩
theorem LL(A:ax):aF A km:=λ_ _=>⟨λ_=>none,(λ_ _ h=>by cases h),rfl⟩
theorem dP{bk u:ax}(x:aF A bk)(y:aF B u):aF (sep A B) (sep bk u):=by rintro h ⟨a,b,d,rfl,E,N⟩;obtain⟨w,D,H⟩:=x a E;obtain⟨C,aB,O⟩:=y b N;exact⟨gf w C,Nn D aB d,w,C,M7 d D aB,rfl,H,O⟩
theorem nt:aF (sep A B) (sep B A):=h1 (by
  rintro h ⟨a,b,d,rfl,u,w⟩
  exact⟨b,a,d.symm,Em d,w,u⟩)
theorem pK:aF (sep (sep A B) C) (sep A (sep B C)):=h1 (by
  rintro h ⟨H,c,d,rfl,⟨a,b,u,rfl,w,D⟩,E⟩
  obtain⟨d1,d2⟩:=wh.1 d
  exact⟨a,gf b c,(wh.2 ⟨u.symm,d1.symm⟩).symm,El a b c,w,b,c,d2,rfl,D,E⟩)
theorem ns:aF (sep A (sep B C)) (sep (sep A B) C):=h1 (by
  rintro h ⟨a,H,d,rfl,w,b,c,u,rfl,D,E⟩
  obtain⟨d1,d2⟩:=wh.1 d.symm
  exact⟨gf a b,c,wh.2 ⟨d2.symm,u⟩,(El a b c).symm,⟨a,b,d1.symm,rfl,w,D⟩,E⟩)
theorem pL:aF A (sep A km):=h1 (λh a=>⟨h,λ_=>none,λ_=>.inr rfl,by funext i;simp only[gf];cases h i<;>rfl,a,rfl⟩)
theorem xp:aF (sep A B) A:=by rintro h ⟨a,b,d,rfl,u,w⟩;exact⟨a,qs a b,u⟩
theorem rJ:aF (sep A B) B:=nt.trans xp
theorem ju:aF (sep A (sep B C)) (sep B (sep A C)):=
  ns.trans ((dP nt (aF.refl _)).trans pK)
def eT:Nat->List ax->Option (ax×List ax)
  | _,[]=>none
  | 0,A::l=>some (A,l)
  | n+1,A::l=>match eT n l with|some (B,r)=>some (B,A::r)|none=>none
theorem fC:∀{n:Nat} {l r:List ax} {B:ax},eT n l=some (B,r)->aF (ah l) (sep B (ah r))
  | _,[],_,_,h=>by simp[eT]at h
  | 0,A::l,_,_,h=>by simp only[eT,V3,WE]at h;obtain⟨rfl,rfl⟩:=h;exact aF.refl _
  | n+1,A::l,r,B,h=>by simp only[eT]at h;cases d:eT n l with|none=>rw[d]at h;cases h|some x=>obtain⟨C,u⟩:=x;rw[d]at h;simp only[V3,WE]at h;obtain⟨rfl,rfl⟩:=h;exact(dP (aF.refl A) (fC d)).trans ju
def lq(hs pre rest:List ax):Prop:=aF (ah hs) (sep (ah pre) (ah rest))
theorem eA(hs:List ax):lq hs [] hs:=pL.trans nt
theorem dY(i:Nat){hs r pre rest:List ax}(h:eT i hs=some (A,r))(k:lq r pre rest):lq hs (A::pre) rest:=
  (fC h).trans ((dP (aF.refl _) k).trans ns)
theorem oQ:∀(l m:List ax),aF (sep (ah l) (ah m)) (ah (l++m))
  | [],_=>rJ
  | _::l,m=>pK.trans (dP (aF.refl _) (oQ l m))
theorem uG:∀(l m:List ax),aF (ah (l++m)) (sep (ah l) (ah m))
  | [],_=>pL.trans nt
  | _::l,m=>(dP (aF.refl _) (uG l m)).trans ns
theorem a6(hs:List ax):aF (ah hs) (ah []):=LL _
theorem bN(n:Nat){hs r gs:List ax}(h:eT n hs=some (B,r))(k:aF (ah r) (ah gs)):aF (ah hs) (ah (B::gs)):=
  (fC h).trans (dP (aF.refl _) k)
theorem LK(hs:List ax):aF (ah hs) (ah hs):=aF.refl _
theorem Dt(n:Nat){hs r gs:List ax}(h:eT n hs=some (A,r))(e:aF A B)(k:aF (ah (B::r)) (ah gs)):aF (ah hs) (ah gs):=
  (fC h).trans ((dP e (aF.refl _)).trans k)
def sat(w:World)(A:ax):Prop:=∃h:kh,(∀i o,h i=some o->w.heap[i]? =some o)/\A h
theorem sat.bf{w:World}(h:sat w A)(e:aF A B):sat w B:=
  let⟨x,u,a⟩:=h;let⟨y,s,b⟩:=e x a;⟨y,λi o d=>u i o (s i o d),b⟩
structure fr(w hX:World):Prop where
  os:hX.os=w.os
  tape:hX.tape=w.tape
  output:hX.output=w.output
  size:w.heap.size<=hX.heap.size
theorem fr.refl(w:World):fr w w:=⟨rfl,rfl,rfl,Nat.le_refl _⟩
theorem fr.trans{a b c:World}(h:fr a b)(k:fr b c):fr a c:=⟨k.os.trans h.os,k.tape.trans h.tape,k.output.trans h.output,Nat.le_trans h.size k.size⟩
theorem oP{w:World}(o:Obj)(h:sat w A):sat (w.alloc o) (sep (obj w.heap.size o) A):=by
 obtain⟨x,E,a⟩:=h;have C:∀i o,x i=some o->i<w.heap.size:=cr
 refine⟨gf (λi=>if i=w.heap.size then some o else none) x,?_,_,x,?_,rfl,rfl,a⟩;intro i d u;simp only[gf]at u;show(w.heap.push o)[i]? =some d;grind;intro i;by_cases e:i=w.heap.size;right;cases D:x i with|none=>rfl|some d=>exact absurd (C i d D) U
 simp_all
def Rd(A:ax)(b:Nat)(o:Obj):Prop:=∀h,A h->h b=some o
variable{o:Obj}
theorem Rd.sat{b:Nat}(r:Rd A b o){w:World}(h:sat w A):w.heap[b]? =some o:=
  let⟨x,d,a⟩:=h;d b o (r x a)
theorem jc(b:Nat)(o:Obj):Rd (obj b o) b o:=λh e=>by rw[e];simp
theorem mY(b:Nat)(E:TypeId)(l:List Value):Rd (aj b E l) b (.cells l.toArray E (0,0)):=jc _ _
theorem iw{b:Nat}(r:Rd A b o):Rd (sep A B) b o:=by rintro h ⟨x,y,d,rfl,u,w⟩;exact qs x y b o (r x u)
theorem vl{b:Nat}(r:Rd B b o):Rd (sep A B) b o:=by rintro h ⟨x,y,d,rfl,w,u⟩;exact tX d b o (r y u)
theorem jb{l:List ax}{b:Nat}(r:Rd A b o):Rd (ah (A::l)) b o:=iw r
theorem lr{l:List ax}{b:Nat}(r:Rd (ah l) b o):Rd (ah (A::l)) b o:=vl r
theorem uE{w D:World}{b:Nat}{C:Obj}(h:sat w (sep (obj b o) A))(Q:D.heap[b]? =some C)(H:∀i,i≠b->D.heap[i]? =w.heap[i]?):
    sat D (sep (obj b C) A):=by obtain⟨x,P,p,q,d,rfl,N,O⟩:=h;have V:q b=none:=(by rcases d b with h|h;rw[N]at h;simp at h;trivial);refine⟨gf (λi=>if i=b then some C else none) q,?_,_,q,?_,rfl,rfl,O⟩;intro i E u;simp only[gf]at u;by_cases e:i=b;simp_all;simp[e]at u;rw[H i e];exact P i E (tX d i E u);intro i;grind
abbrev Env:=Nat->Value
def hd(ag:Env)(d:Nat)(v:Value):Env:=λt=>bif VI t d then v else ag t
def jw(ag:Env):Option Nat->Value->Env
  | some d,v=>hd ag d v
  | none,_=>ag
def bb(ag:Env):Operand->Value
  | .tmp t=>ag t
  | .const v=>v
  | .global g=>.pointer (some ⟨g,0,none⟩)
  | .func f=>.func (.func f) #[] #[]
def ct(ag:Env):List (Nat×Value)->Env
  | []=>ag
  | (t,v)::l=>hd (ct ag l) t v
def oC(ag:Env):List (Nat×Value)->Prop
  | []=>True
  | (t,v)::l=>ag t=v/\oC ag l
theorem rS{d:Env}{t:Nat}{v:Value}(h:d t=v):hd d t v=d:=by grind[hd,UM]
theorem qS{d:Env}:∀{l:List (Nat×Value)},oC d l->ct d l=d
  | [],_=>rfl
  | (t,v)::l,h=>by rw[ct,qS h.2,rS h.1]
structure cn(N:Nat)(a:Act)(ag:Env)(aQ:List Deferred):Prop where
  size:a.tmps.size=N
  get:∀t,a.tmps.getD t undef=ag t
  defers:a.defers=aQ
theorem cn.eval{N:Nat}{a:Act}{d:Env}{u:List Deferred}(h:cn N a d u):a.eval=bb d:=by funext x;cases x<;>first|exact h.get _|rfl
def jj(N:Nat):Option Nat->Bool
  | some d=>Nat.blt d N
  | none=>true
theorem cn.put{N:Nat}{a:Act}{w:Env}{u:List Deferred}(h:cn N a w u){d:Option Nat}(D:jj N d=true)(v:Value):cn N (a.put d v) (jw w d v) u:=by cases d with|none=>exact h|some d=>(have H:d<N:=by simpa[jj,Nat.blt_eq]using D);refine⟨by simp[Act.put,h.size],λt=>?_,h.defers⟩;simp only[Act.put,jw,hd];by_cases e:t=d;subst e;have:VI t t=true:=Nat.beq_refl t;rw[this];simp[h.size,H];(have C:VI t d=false:=by cases E:VI t d with|false=>rfl|true=>exact absurd (UM E) e);rw[C,cond_false,<-h.get t];rw[Vr,Vr,Array.getElem?_setIfInBounds_ne (λx=>e x.symm)]
def mA(r:Option Nat):Fence:={XJ with round:=r}
theorem td(r:Option Nat)(f:FuncId):(mA r).fn f:=trivial
theorem va(r:Option Nat):(mA r).depth.isSome=true->1<=0:=λh=>by simp[mA,XJ]at h
abbrev ff:=Exit->Env->List Deferred->ax->Prop
def d8(N:Nat)(w:World)(Q:ff):Exit->Act->World->Prop:=
  λe a' hX=>fr w hX/\∃I6 Dn bk,cn N a' I6 Dn/\sat hX bk/\Q e I6 Dn bk
def ab(r:Option Nat)(P:Program)(N:Nat)(c:Code)(Q:ff)(ag:Env)(aQ:List Deferred)(A:ax):Prop:=
  ∀a w,cn N a ag aQ->sat w A->c.wpIn (mA r) 0 P (d8 N w Q) a w
theorem u2{N:Nat}{w0 w:World}{Q d:ff}(hs:fr w0 w)(C:∀e ag aQ A,Q e ag aQ A->d e ag aQ A){e:Exit}{a':Act}{u:World}(h:d8 N w Q e a' u):d8 N w0 d e a' u:=
  let⟨s,ag,aQ,A,x,y,z⟩:=h;⟨hs.trans s,ag,aQ,A,x,y,C _ _ _ _ z⟩
def o7(K:Env->List Deferred->ax->Prop)(Q:ff):ff
  | .normal,ag,aQ,A=>K ag aQ A
  | e,ag,aQ,A=>Q e ag aQ A
def oZ(id:Nat)(Q:ff):ff
  | .exit Eo,ag,aQ,A=>bif VI Eo id then Q .normal ag aQ A else Q (.exit Eo) ag aQ A
  | e,ag,aQ,A=>Q e ag aQ A
section code
variable {r : Option Nat} {P : Program} {N : Nat} {Q : ff} {ag : Env} {aQ : List Deferred} {A : ax}
theorem ab.bf{c:Code}{B:ax}(e:aF A B)(h:ab r P N c Q ag aQ B):ab r P N c Q ag aQ A:=λa w x y=>h a w x (y.bf e)
theorem ab.mono{c:Code}{d:ff}(h:ab r P N c Q ag aQ A)(u:∀e ag aQ A,Q e ag aQ A->d e ag aQ A):ab r P N c d ag aQ A:=
  λa w x y=>wpIn_mono (h a w x y) λ_ _ _=>u2 (fr.refl w) u
theorem ab.gc{c:Code}(l:List (Nat×Value))(d:oC ag l)(h:∀u,ab r P N c Q (ct u l) aQ A):ab r P N c Q ag aQ A:=by have:=h ag;rwa[qS d]at this
theorem ab.skip(h:Q .normal ag aQ A):ab r P N .skip Q ag aQ A:=λ_ w x y=>wpIn_skip ⟨fr.refl w,ag,aQ,A,x,y,h⟩
theorem ab.label{l:Nat}(h:Q .normal ag aQ A):ab r P N (.label l) Q ag aQ A:=λ_ w x y=>wpIn_label ⟨fr.refl w,ag,aQ,A,x,y,h⟩
theorem ab.exit{id:Nat}(h:Q (.exit id) ag aQ A):ab r P N (.exit id) Q ag aQ A:=λ_ w x y=>wpIn_exit ⟨fr.refl w,ag,aQ,A,x,y,h⟩
theorem ab.goto{l:Nat}(h:Q (.goto l) ag aQ A):ab r P N (.goto l) Q ag aQ A:=λ_ w x y=>wpIn_goto ⟨fr.refl w,ag,aQ,A,x,y,h⟩
theorem ab.ret(h:Q .ret ag aQ A):ab r P N .ret Q ag aQ A:=λ_ w x y=>wpIn_ret ⟨fr.refl w,ag,aQ,A,x,y,h⟩
variable{x y:Code}
theorem ab.seq(h:ab r P N x (o7 (λag aQ A=>ab r P N y Q ag aQ A) Q) ag aQ A):ab r P N (.seq x y) Q ag aQ A:=by intro a w O V;refine wpIn_seq (wpIn_mono (h a w O V) ?_);rintro e E W ⟨s,Z,H,D,d,u,C⟩;cases e with|normal=>exact wpIn_mono (C E W d u) λ_ _ _=>u2 s (λ_ _ _ _ h=>h)|_=>exact⟨s,Z,H,D,d,u,C⟩
theorem ab.block{id:Nat}{c:Code}(h:ab r P N c (oZ id Q) ag aQ A):ab r P N (.block id c) Q ag aQ A:=by intro a w W Z;refine wpIn_block (wpIn_mono (h a w W Z) ?_);rintro e an ao ⟨s,O,D,C,E,H,d⟩;cases e with|exit u=>simp only[Exit.inBlock];simp only[oZ]at d;by_cases e:u=id;subst e;rw[aw rfl];have:VI u u=true:=Nat.beq_refl _;rw[this]at d;exact⟨s,O,D,C,E,H,d⟩;rw[al e];(have:VI u id=false:=by cases V:VI u id with|false=>rfl|true=>exact absurd (UM V) e);rw[this]at d;exact⟨s,O,D,C,E,H,d⟩|_=>exact⟨s,O,D,C,E,H,d⟩
theorem ab.cond{c:Operand}{t:Bool}(u:bb ag c=.bool t)(E:t=true->ab r P N x Q ag aQ A)(D:t=false->ab r P N y Q ag aQ A):ab r P N (.cond c x y) Q ag aQ A:=by intro a w d C;cases t with|true=>exact wpIn_cond_true (by rw[d.eval];exact u) (E rfl a w d C)|false=>exact wpIn_cond_false (by rw[d.eval];exact u) (D rfl a w d C)
theorem ab.KW{c:Operand}(d:bb ag c=.bool true)(u:ab r P N x Q ag aQ A):ab r P N (.cond c x y) Q ag aQ A:=
  ab.cond d (λ_=>u) (λh=>by cases h)
theorem ab.KV{c:Operand}(d:bb ag c=.bool false)(u:ab r P N y Q ag aQ A):ab r P N (.cond c x y) Q ag aQ A:=
  ab.cond d (λh=>by cases h) (λ_=>u)
theorem ab.aA{c:Operand}{p:Prop}[Decidable p](d:bb ag c=.bool (decide p))(w:p->ab r P N x Q ag aQ A)(u:¬p->ab r P N y Q ag aQ A):ab r P N (.cond c x y) Q ag aQ A:=
  ab.cond d (λh=>w (ds h)) (λh=>u (dV h))
end code
theorem Ts{F:Fence}{n:Nat}{P:Program}{Q:Exit->Act->World->Prop}{a:Act}{w:World}{c:Code}(bJ:Nat->Act->World->Prop)(O:Nat)(ax:bJ O a w)
    (round:∀m a w,bJ m a w->c.wpIn F n P (Exit.then (λa' D=>∃m',m'<m/\bJ m' a' D) Q) a w):(Code.loop c).wpIn F n P Q a w:=by
 intro b k cs au H N
 have key:∀j a w,bJ j a w->
     ∃e a' D,Q e a' D/\ArrivesIn (Machine.fenced P F) P (lone (b.atR a (.code c::.inLoop c::k)) cs w) b k cs e a' D:=by
   intro j
   induction j using Nat.strongRecOn with
   | _ j aA=>
     intro a w Z
     obtain⟨e,C,E,u,d⟩:=round j a w Z b (.inLoop c::k) cs au H N
     cases e with
     | normal=>
       obtain⟨m',ao,ag⟩:=u
       obtain⟨W,V,aC,ar,an⟩:=aA m' ao C E ag
       exact⟨W,V,aC,ar,.of_steps (StepsIn.trans d (.one (fenced_calm H N rfl) stepR_inLoop)) an⟩
     | exit id=>exact⟨_,C,E,u,.pass (x:=.inLoop c) rfl (λ_ _=>.inl cF) d⟩
     | goto l=>exact⟨_,C,E,u,.pass (x:=.inLoop c) rfl (λ_ _=>.inl cF) d⟩
     | ret=>exact⟨_,C,E,u,.pass (x:=.inLoop c) rfl (λ_ _=>.inl cF) d⟩
     | panic hz=>exact⟨_,C,E,u,.pass (x:=.inLoop c) rfl (λ_ _=>.inl cF) d⟩
     | outgrown=>exact⟨_,C,E,u,.pass (x:=.inLoop c) rfl (λ_ _=>.inl cF) d⟩
 obtain⟨e,a',D,u,d⟩:=key O a w ax;exact⟨e,a',D,u,.of_steps (.one (fenced_calm H N rfl) stepR_loop) d⟩
section KR
variable {r : Option Nat} {P : Program} {N : Nat} {Q : ff} {ag : Env} {aQ : List Deferred} {A : ax}
theorem ab.loop{ι:Type}{c:Code}(inv:ι->Prop)(L:ι->List (Nat×Value))(B:ι->ax)(d:ι->Nat)(i0:ι)(au:inv i0)(aK:oC ag (L i0))(he:aF A (B i0))
    (round:∀i,inv i->∀u,ab r P N c (o7 (λa7 ar Z=>ar=aQ/\∃j,inv j/\d j<d i/\oC a7 (L j)/\aF Z (B j)) Q) (ct u (L i)) aQ (B i)):
    ab r P N (.loop c) Q ag aQ A:=by intro a w a2 a4;refine Ts (λm D C=>fr w C/\∃i u,inv i/\cn N D (ct u (L i)) aQ/\sat C (B i)/\d i=m) (d i0) ⟨fr.refl w,i0,ag,au,by rw[qS aK];exact a2,a4.bf he,rfl⟩ ?_;rintro m an cG ⟨s1,i,u,aC,a3,a5,rfl⟩;refine wpIn_mono (round i aC u an cG a3 a5) ?_;rintro e D C ⟨s,V,ao,W,E,H,O⟩;cases e with|normal=>obtain⟨rfl,j,aH,a0,aX,aA⟩:=O;exact⟨d j,a0,s1.trans s,j,V,aH,by rw[qS aX];exact E,H.bf aA,rfl⟩|_=>exact⟨s1.trans s,V,ao,W,E,H,O⟩
theorem ab.cut{ι:Type}{x y:Code}(inv:ι->Prop)(L:ι->List (Nat×Value))(B:ι->ax)(C:ab r P N x (o7 (λd w u=>w=aQ/\∃j,inv j/\oC d (L j)/\aF u (B j)) Q) ag aQ A)
    (D:∀j,inv j->∀O,ab r P N y Q (ct O (L j)) aQ (B j)):ab r P N (.seq x y) Q ag aQ A:=by refine ab.seq (C.mono λe d w u h=>?_);cases e with|normal=>obtain⟨rfl,j,E,H,he⟩:=h;have:=D j E d;rw[qS H]at this;exact this.bf he|_=>exact h
variable {K : Env → List Deferred → ax → Prop} {i j : Nat}
theorem h5(h:K ag aQ A):o7 K Q .normal ag aQ A:=h
theorem kn(h:Q (.exit i) ag aQ A):o7 K Q (.exit i) ag aQ A:=h
theorem rt(h:Q .ret ag aQ A):o7 K Q .ret ag aQ A:=h
theorem jF(h:Q .normal ag aQ A):oZ i Q .normal ag aQ A:=h
theorem ov(h:Q .normal ag aQ A):oZ i Q (.exit i) ag aQ A:=by
 have:VI i i=true:=b2
 simp only[oZ,this,cond_true];exact h
theorem aK(d:VI j i=false)(h:Q (.exit j) ag aQ A):oZ i Q (.exit j) ag aQ A:=by simp only[oZ,d,cond_false];exact h
theorem kA(h:Q .ret ag aQ A):oZ i Q .ret ag aQ A:=h
end KR
end Go.QM
