/- Proved here: contracts, each under its own premises. -/
import Derived.RangeFuncLeaves
import Derived.OrdersIn
import Derived.Laws.World
import Derived.Laws.Sem
import Derived.KernelRfl
import Derived.Laws.Cells
import Derived.Laws.CopyRow
import Derived.Laws.Tables
import Derived.Laws.Append
import Derived.Laws.AppendOwn
import Derived.RangeFuncRecord
import Derived.Laws.StructEq
import Derived.MapKept
import Derived.OpenShut
import Derived.ProofKit
import Derived.Test.YtglgidjhoncphaaGreatDoorProg
set_option linter.all false
set_option maxRecDepth 4000
set_option maxHeartbeats 4000000
open Nat renaming eq_of_beq_eq_true->VB,beq->WE,blt->Xc,le_refl->Vm,mul_le_mul_right->VT,add_mul->V9,add_sub_cancel_left->WL,min_eq_left->Xe
open Array renaming getD_eq_getD_getElem?->Wm,getElem?_eq_none->YV,getElem?_append->XN
open Option.some renaming injEq->WU
open Prod.mk renaming injEq->Xy
open Go.Fence renaming wide->YE
open Go.Result renaming andThen_ok->Vs,andThen->Xv
open Go.Sem renaming run_bind->VA,run_pure->VV
open Go.Region renaming wanted->VN,ready->V7,binds->W1,noSelect->XE
open Go.Value renaming oneCell'->VP,func->Yg
open Bool renaming and_eq_true->VR,eq_iff_iff->XT,false_eq_true->X1
open Go.Instr renaming sureAddr->WP,indexAt->XJ,sliceBound->Wg,sliceBounds->X4,sliceAt->YN,findNow->XK,checkKey->XV,lookup->Yb
open Go.Oper renaming uponIn->WS,wpIn_mono->XO,wpIn->Yt
open List renaming all_eq_true->W0,length_append->mp,replicate->Vw,append_assoc->VJ,nil_append->VK,map_cons->VO,take_of_length_le->VU,take_append_drop->V6,append_nil->Wa,drop_eq_nil_of_le->Wy,getElem?_append_left->WG,take_append_of_le_length->WM,getElem?_cons_succ->WO,length_drop->W8,map_nil->Xa,eq_nil_of_length_eq_zero->Xi,map_toArray->XB,drop_append->XI,drop_append_of_le_length->Yj,getElem?_append_right->YC,getElem?_cons_zero->YS,flatMap_cons->VD,cons_append->V4,getD_eq_getElem?_getD->Wh,findIdx?_cons->XZ,takeWhile_cons_of_pos->YB,dropWhile_cons_of_pos->YD,drop_eq_getElem_cons->Xr,mem_singleton->Vf,getElem?_eq_some_iff->Vo,mem_map->Vq,mem_cons->Vt,length_cons->VC,range->VF,nodup_append->VI,getElem?_map->WJ,length->W4,append_of_mem->XD,ext_getElem?->XM,getElem?_eq_getElem->Ve,getElem?_eq_none->Xn
open Go.Act renaming put_comm->W7
open Go renaming yielded->XP,sizeOf->Yc
open Go.RoundIn renaming mono->XX
open Go.CallsIn renaming mono->X0
open Option renaming bind_some->X7,map_some->WD
open Go.Op renaming intCmp->X8,intArith->YI,equalIn->YQ
open Go.IntKind renaming signed->Yq,wrap->YK,bits->YL
open Go.Builtin renaming firstCells->VG,zeroCells->VH,lenOf->XS,append_->Ye
open Go.Addr.mk renaming injEq->Xu
open Go.World renaming size_alloc->Ys
open BitVec renaming ofInt->VY,toNat_ofInt->Xm
open Int renaming eq_ofNat_of_zero_le->Wk
open List.cons renaming inj->Xl
open Go.MapKept renaming run_getObj_map->V3,run_setObj_map->WW
open Go.DataW renaming TrodAll->XW
open Go.Proofs.Tryz renaming prog->Yk
namespace Go
theorem AF{G:Prop}(h:G:=by dsimp only;rw[List.length_append,List.length_singleton];omega):G:=h
theorem xd{G:Prop}(h:G:=by dsimp only;rw[List.length_append,List.length_singleton];rfl):G:=h
theorem FM{G:Prop}(h:G:=by dsimp only;rw[FZ,List.length_append];first|done|fail):G:=h
theorem uB{G:Prop}(h:G:=by simp only[List.length_append,List.length_singleton];omega):G:=h
theorem jq{G:Prop}(h:G:=by simp only[List.length_cons,List.length_nil];omega):G:=h
theorem AJ{G:Prop}(h:G:=by rw[List.length_append,List.length_append];omega):G:=h
theorem FN{G:Prop}(h:G:=by rw[kc kj,List.length_set];omega):G:=h
theorem xe{G:Prop}(h:G:=by show T.S.length+_<=_;first|omega|(simp<;>omega)):G:=h
theorem sU{G:Prop}(h:G:=by dsimp only;rw[List.length_append];rfl):G:=h
theorem uC{G:Prop}(h:G:=by dsimp only;rw[List.length_append]):G:=h
theorem sS{G:Prop}(h:G:=by rw[List.take_zero,<-ry];rfl):G:=h
theorem AG{G:Prop}(h:G:=by rw[kc kj];omega):G:=h
theorem mu{G:Prop}(h:G:=by rw[IntKind.wrap_u64];omega):G:=h
theorem AH{G:Prop}(h:G:=by rw[List.length_cons];omega):G:=h
theorem AI{G:Prop}(h:G:=by rw[List.length_set];omega):G:=h
theorem sT{G:Prop}(h:G:=by show T.A.length<=_;omega):G:=h
theorem gq{G:Prop}(h:G:=by simp only[maxLen];omega):G:=h
theorem xc{G:Prop}(h:G:=by dsimp only;rw[Sg]):G:=h
theorem cB{G:Prop}(h:G:=by dsimp only;omega):G:=h
theorem rL{G:Prop}(h:G:=by simp;omega):G:=h
theorem a1{G:Prop}(h:G:=by kernel_rfl):G:=h
theorem rM{G:Prop}(h:G:=by rw[e];rfl):G:=h
theorem b4{G:Prop}(h:G:=by simp_all):G:=h
theorem am{G:Prop}(h:G:=by decide):G:=h
theorem U{G:Prop}(h:G:=by omega):G:=h
theorem cr{G:Prop}(h:G:=by grind):G:=h
theorem jJ{G:Prop}(h:G:=by rw[e]):G:=h
theorem cG{G:Prop}(h:G:=by simp):G:=h
theorem kG{G:Prop}(h:G:=by rfl):G:=h
end Go
namespace Go
theorem al{c:Prop}[h:Decidable c](d:¬c){α:Sort _}{t e:α}:ite c t e=e:=if_neg d
theorem ax{c:Prop}[h:Decidable c](d:c){α:Sort _}{t e:α}:ite c t e=t:=if_pos d
theorem dz{p:Prop}[inst:Decidable p](h:decide p=true):p:=of_decide_eq_true h
theorem d6{p:Prop}[inst:Decidable p](h:decide p=false):¬p:=of_decide_eq_false h
theorem da{p:Prop}[inst:Decidable p](h:p):decide p=true:=decide_eq_true h
theorem du{p:Prop}[inst:Decidable p](h:¬p):decide p=false:=decide_eq_false h
end Go
namespace Go.QM
open Go
abbrev kr:=Nat->Option Obj
def nr(a b:kr):Prop:=∀i,a i=none\/b i=none
def gj(a b:kr):kr:=λi=>match a i with|some o=>some o|none=>b i
def kD(a b:kr):Prop:=∀i o,a i=some o->b i=some o
abbrev av:=kr->Prop
def sep(A B:av):av:=λh=>∃a b,nr a b/\h=gj a b/\A a/\B b
def kx:av:=λh=>h=λ_=>none
def obj(b:Nat)(o:Obj):av:=λh=>h=λi=>if i=b then some o else none
def aj(b:Nat)(E:TypeId)(l:List Value):av:=obj b (.cells l.toArray E (0,0))
def ag:List av->av
  | []=>kx
  | A::l=>sep A (ag l)
def e7{α:Type}(A:α->av):av:=λh=>∃x,A x h
def pure'(p:Prop)(A:av):av:=λh=>p/\A h
variable{a b:kr}
theorem nr.symm(h:nr a b):nr b a:=λi=>(h i).symm
theorem EL(h:nr a b):gj a b=gj b a:=by funext i;rcases h i with h|h<;>simp only[gj,h];all_goals grind
theorem EK(a b c:kr):gj (gj a b) c=gj a (gj b c):=by grind[gj]
theorem zY(a:kr):kD a a:=λ_ _ h=>h
theorem kD.trans{c:kr}(h:kD a b)(k:kD b c):kD a c:=λi o x=>k i o (h i o x)
theorem qE(a b:kr):kD a (gj a b):=λi o h=>by simp[gj,h]
theorem um(h:nr a b):kD b (gj a b):=by rw[EL h];exact qE b a
theorem N1{a' b':kr}(C:kD a a')(D:kD b b')(h:nr a' b'):kD (gj a b) (gj a' b'):=by intro i o d;simp only[gj]at d⊢;cases w:a i with|some x=>rw[w]at d;rw[C i x w];exact d|none=>rw[w]at d;have u:=D i o d;rcases h i with h|h;rw[h];exact u;rw[h]at u;cases u
theorem NM{a' b':kr}(h:nr a' b')(u:kD a a')(w:kD b b'):nr a b:=by
 intro i;rcases h i with h|h
 left;cases d:a i with
 | none=>rfl
 | some o=>have:=u i o d;rw[h]at this;cases this
 right;cases d:b i with
 | none=>rfl
 | some o=>have:=w i o d;rw[h]at this;cases this
theorem wL{c:kr}:nr (gj a b) c↔nr a c/\nr b c:=by
 constructor;·intro h;constructor<;>intro i<;>rcases h i with h|h;all_goals grind[gj]
 ·intro⟨h,k⟩ i;rcases h i with h|h;(·rcases k i with k|k;all_goals grind[gj]);simp_all
def aE(A B:av):Prop:=∀h,A h->∃uj,kD uj h/\B uj
theorem aE.refl(A:av):aE A A:=λh x=>⟨h,zY h,x⟩
variable{A B C:av}
theorem aE.trans(x:aE A B)(y:aE B C):aE A C:=λh a=>
  let⟨d,s1,b⟩:=x h a;let⟨u,s2,c⟩:=y d b;⟨u,s2.trans s1,c⟩
theorem hM(x:∀h,A h->B h):aE A B:=λh a=>⟨h,zY h,x h a⟩
theorem Ml(A:av):aE A kx:=λ_ _=>⟨λ_=>none,(λ_ _ h=>by cases h),rfl⟩
theorem dR{a8 u:av}(x:aE A a8)(y:aE B u):aE (sep A B) (sep a8 u):=by rintro h ⟨a,b,d,rfl,E,N⟩;obtain⟨w,D,H⟩:=x a E;obtain⟨C,aC,O⟩:=y b N;exact⟨gj w C,N1 D aC d,w,C,NM d D aC,rfl,H,O⟩
theorem nC:aE (sep A B) (sep B A):=hM (by
  rintro h ⟨a,b,d,rfl,u,w⟩
  exact⟨b,a,d.symm,EL d,w,u⟩)
theorem pT:aE (sep (sep A B) C) (sep A (sep B C)):=hM (by
  rintro h ⟨H,c,d,rfl,⟨a,b,u,rfl,w,D⟩,E⟩
  obtain⟨d1,d2⟩:=wL.1 d
  exact⟨a,gj b c,(wL.2 ⟨u.symm,d1.symm⟩).symm,EK a b c,w,b,c,d2,rfl,D,E⟩)
theorem m6:aE (sep A (sep B C)) (sep (sep A B) C):=hM (by
  rintro h ⟨a,H,d,rfl,w,b,c,u,rfl,D,E⟩
  obtain⟨d1,d2⟩:=wL.1 d.symm
  exact⟨gj a b,c,wL.2 ⟨d2.symm,u⟩,(EK a b c).symm,⟨a,b,d1.symm,rfl,w,D⟩,E⟩)
theorem pU:aE A (sep A kx):=hM (λh a=>⟨h,λ_=>none,λ_=>.inr rfl,by funext i;simp only[gj];cases h i<;>rfl,a,rfl⟩)
theorem u3:aE (sep A B) A:=by rintro h ⟨a,b,d,rfl,u,w⟩;exact⟨a,qE a b,u⟩
theorem qV:aE (sep A B) B:=nC.trans u3
theorem jx:aE (sep A (sep B C)) (sep B (sep A C)):=
  m6.trans ((dR nC (aE.refl _)).trans pT)
def eU:Nat->List av->Option (av×List av)
  | _,[]=>none
  | 0,A::l=>some (A,l)
  | n+1,A::l=>match eU n l with|some (B,r)=>some (B,A::r)|none=>none
theorem fC:∀{n:Nat} {l r:List av} {B:av},eU n l=some (B,r)->aE (ag l) (sep B (ag r))
  | _,[],_,_,h=>by simp[eU]at h
  | 0,A::l,_,_,h=>by simp only[eU,WU,Xy]at h;obtain⟨rfl,rfl⟩:=h;exact aE.refl _
  | n+1,A::l,r,B,h=>by simp only[eU]at h;cases d:eU n l with|none=>rw[d]at h;cases h|some x=>obtain⟨C,u⟩:=x;rw[d]at h;simp only[WU,Xy]at h;obtain⟨rfl,rfl⟩:=h;exact(dR (aE.refl A) (fC d)).trans jx
def lF(hs pre rest:List av):Prop:=aE (ag hs) (sep (ag pre) (ag rest))
theorem eC(hs:List av):lF hs [] hs:=pU.trans nC
theorem ed(i:Nat){hs r pre rest:List av}(h:eU i hs=some (A,r))(k:lF r pre rest):lF hs (A::pre) rest:=
  (fC h).trans ((dR (aE.refl _) k).trans m6)
theorem og:∀(l m:List av),aE (sep (ag l) (ag m)) (ag (l++m))
  | [],_=>qV
  | _::l,m=>pT.trans (dR (aE.refl _) (og l m))
theorem u2:∀(l m:List av),aE (ag (l++m)) (sep (ag l) (ag m))
  | [],_=>pU.trans nC
  | _::l,m=>(dR (aE.refl _) (u2 l m)).trans m6
theorem a6(hs:List av):aE (ag hs) (ag []):=Ml _
theorem bM(n:Nat){hs r gs:List av}(h:eU n hs=some (B,r))(k:aE (ag r) (ag gs)):aE (ag hs) (ag (B::gs)):=
  (fC h).trans (dR (aE.refl _) k)
theorem Mk(hs:List av):aE (ag hs) (ag hs):=aE.refl _
theorem DT(n:Nat){hs r gs:List av}(h:eU n hs=some (A,r))(e:aE A B)(k:aE (ag (B::r)) (ag gs)):aE (ag hs) (ag gs):=
  (fC h).trans ((dR e (aE.refl _)).trans k)
def sat(w:World)(A:av):Prop:=∃h:kr,(∀i o,h i=some o->w.heap[i]? =some o)/\A h
theorem sat.bk{w:World}(h:sat w A)(e:aE A B):sat w B:=
  let⟨x,u,a⟩:=h;let⟨y,s,b⟩:=e x a;⟨y,λi o d=>u i o (s i o d),b⟩
structure fv(w hZ:World):Prop where
  os:hZ.os=w.os
  tape:hZ.tape=w.tape
  output:hZ.output=w.output
  size:w.heap.size<=hZ.heap.size
theorem fv.refl(w:World):fv w w:=⟨rfl,rfl,rfl,Nat.le_refl _⟩
theorem fv.trans{a b c:World}(h:fv a b)(k:fv b c):fv a c:=⟨k.os.trans h.os,k.tape.trans h.tape,k.output.trans h.output,Nat.le_trans h.size k.size⟩
theorem oU{w:World}(o:Obj)(h:sat w A):sat (w.alloc o) (sep (obj w.heap.size o) A):=by
 obtain⟨x,E,a⟩:=h;have C:∀i o,x i=some o->i<w.heap.size:=cr
 refine⟨gj (λi=>if i=w.heap.size then some o else none) x,?_,_,x,?_,rfl,rfl,a⟩;intro i d u;simp only[gj]at u;show(w.heap.push o)[i]? =some d;grind;intro i;by_cases e:i=w.heap.size;right;cases D:x i with|none=>rfl|some d=>exact absurd (C i d D) U
 simp_all
def Rd(A:av)(b:Nat)(o:Obj):Prop:=∀h,A h->h b=some o
variable{o:Obj}
theorem Rd.sat{b:Nat}(r:Rd A b o){w:World}(h:sat w A):w.heap[b]? =some o:=
  let⟨x,d,a⟩:=h;d b o (r x a)
theorem jf(b:Nat)(o:Obj):Rd (obj b o) b o:=λh e=>by rw[e];simp
theorem nb(b:Nat)(E:TypeId)(l:List Value):Rd (aj b E l) b (.cells l.toArray E (0,0)):=jf _ _
theorem iB{b:Nat}(r:Rd A b o):Rd (sep A B) b o:=by rintro h ⟨x,y,d,rfl,u,w⟩;exact qE x y b o (r x u)
theorem vJ{b:Nat}(r:Rd B b o):Rd (sep A B) b o:=by rintro h ⟨x,y,d,rfl,w,u⟩;exact um d b o (r y u)
theorem iW{l:List av}{b:Nat}(r:Rd A b o):Rd (ag (A::l)) b o:=iB r
theorem lG{l:List av}{b:Nat}(r:Rd (ag l) b o):Rd (ag (A::l)) b o:=vJ r
theorem yD{b:Nat}(e:aE A B)(r:Rd B b o):Rd A b o:=λh a=>
  let⟨d,s,u⟩:=e h a;s b o (r d u)
theorem u0{w D:World}{b:Nat}{C:Obj}(h:sat w (sep (obj b o) A))(Q:D.heap[b]? =some C)(H:∀i,i≠b->D.heap[i]? =w.heap[i]?):
    sat D (sep (obj b C) A):=by obtain⟨x,P,p,q,d,rfl,N,O⟩:=h;have V:q b=none:=(by rcases d b with h|h;rw[N]at h;simp at h;trivial);refine⟨gj (λi=>if i=b then some C else none) q,?_,_,q,?_,rfl,rfl,O⟩;intro i E u;simp only[gj]at u;by_cases e:i=b;simp_all;simp[e]at u;rw[H i e];exact P i E (um d i E u);intro i;grind
abbrev Env:=Nat->Value
def hG(ah:Env)(d:Nat)(v:Value):Env:=λt=>bif WE t d then v else ah t
def jS(ah:Env):Option Nat->Value->Env
  | some d,v=>hG ah d v
  | none,_=>ah
def bf(ah:Env):Operand->Value
  | .tmp t=>ah t
  | .const v=>v
  | .global g=>.pointer (some ⟨g,0,none⟩)
  | .func f=>.func (.func f) #[] #[]
def cx(ah:Env):List (Nat×Value)->Env
  | []=>ah
  | (t,v)::l=>hG (cx ah l) t v
def oK(ah:Env):List (Nat×Value)->Prop
  | []=>True
  | (t,v)::l=>ah t=v/\oK ah l
theorem r6{d:Env}{t:Nat}{v:Value}(h:d t=v):hG d t v=d:=by grind[hG,VB]
theorem q3{d:Env}:∀{l:List (Nat×Value)},oK d l->cx d l=d
  | [],_=>rfl
  | (t,v)::l,h=>by rw[cx,q3 h.2,r6 h.1]
structure ck(N:Nat)(a:Act)(ah:Env)(aQ:List Deferred):Prop where
  size:a.tmps.size=N
  get:∀t,a.tmps.getD t undef=ah t
  defers:a.defers=aQ
theorem ck.eval{N:Nat}{a:Act}{d:Env}{u:List Deferred}(h:ck N a d u):a.eval=bf d:=by funext x;cases x<;>first|exact h.get _|rfl
def jG(N:Nat):Option Nat->Bool
  | some d=>Nat.blt d N
  | none=>true
theorem ck.put{N:Nat}{a:Act}{w:Env}{u:List Deferred}(h:ck N a w u){d:Option Nat}(D:jG N d=true)(v:Value):ck N (a.put d v) (jS w d v) u:=by cases d with|none=>exact h|some d=>(have H:d<N:=by simpa[jG,Nat.blt_eq]using D);refine⟨by simp[Act.put,h.size],λt=>?_,h.defers⟩;simp only[Act.put,jS,hG];by_cases e:t=d;subst e;have:WE t t=true:=Nat.beq_refl t;rw[this];simp[h.size,H];(have C:WE t d=false:=by cases E:WE t d with|false=>rfl|true=>exact absurd (VB E) e);rw[C,cond_false,<-h.get t];rw[Wm,Wm,Array.getElem?_setIfInBounds_ne (λx=>e x.symm)]
def mM(r:Option Nat):Fence:={YE with round:=r}
theorem vA(r:Option Nat)(f:FuncId):(mM r).fn f:=trivial
theorem vz(r:Option Nat):(mM r).depth.isSome=true->1<=0:=λh=>by simp[mM,YE]at h
abbrev fk:=Exit->Env->List Deferred->av->Prop
def d8(N:Nat)(w:World)(Q:fk):Exit->Act->World->Prop:=
  λe a' hZ=>fv w hZ/\∃JC DN a8,ck N a' JC DN/\sat hZ a8/\Q e JC DN a8
def ab(r:Option Nat)(P:Program)(N:Nat)(c:Code)(Q:fk)(ah:Env)(aQ:List Deferred)(A:av):Prop:=
  ∀a w,ck N a ah aQ->sat w A->c.wpIn (mM r) 0 P (d8 N w Q) a w
theorem vo{N:Nat}{w0 w:World}{Q d:fk}(hs:fv w0 w)(C:∀e ah aQ A,Q e ah aQ A->d e ah aQ A){e:Exit}{a':Act}{u:World}(h:d8 N w Q e a' u):d8 N w0 d e a' u:=
  let⟨s,ah,aQ,A,x,y,z⟩:=h;⟨hs.trans s,ah,aQ,A,x,y,C _ _ _ _ z⟩
def pc(K:Env->List Deferred->av->Prop)(Q:fk):fk
  | .normal,ah,aQ,A=>K ah aQ A
  | e,ah,aQ,A=>Q e ah aQ A
def o2(id:Nat)(Q:fk):fk
  | .exit EN,ah,aQ,A=>bif WE EN id then Q .normal ah aQ A else Q (.exit EN) ah aQ A
  | e,ah,aQ,A=>Q e ah aQ A
section code
variable {r : Option Nat} {P : Program} {N : Nat} {Q : fk} {ah : Env} {aQ : List Deferred} {A : av}
theorem ab.bk{c:Code}{B:av}(e:aE A B)(h:ab r P N c Q ah aQ B):ab r P N c Q ah aQ A:=λa w x y=>h a w x (y.bk e)
theorem ab.mono{c:Code}{d:fk}(h:ab r P N c Q ah aQ A)(u:∀e ah aQ A,Q e ah aQ A->d e ah aQ A):ab r P N c d ah aQ A:=
  λa w x y=>wpIn_mono (h a w x y) λ_ _ _=>vo (fv.refl w) u
theorem ab.gc{c:Code}(l:List (Nat×Value))(d:oK ah l)(h:∀u,ab r P N c Q (cx u l) aQ A):ab r P N c Q ah aQ A:=by have:=h ah;rwa[q3 d]at this
theorem ab.skip(h:Q .normal ah aQ A):ab r P N .skip Q ah aQ A:=λ_ w x y=>wpIn_skip ⟨fv.refl w,ah,aQ,A,x,y,h⟩
theorem ab.label{l:Nat}(h:Q .normal ah aQ A):ab r P N (.label l) Q ah aQ A:=λ_ w x y=>wpIn_label ⟨fv.refl w,ah,aQ,A,x,y,h⟩
theorem ab.exit{id:Nat}(h:Q (.exit id) ah aQ A):ab r P N (.exit id) Q ah aQ A:=λ_ w x y=>wpIn_exit ⟨fv.refl w,ah,aQ,A,x,y,h⟩
theorem ab.goto{l:Nat}(h:Q (.goto l) ah aQ A):ab r P N (.goto l) Q ah aQ A:=λ_ w x y=>wpIn_goto ⟨fv.refl w,ah,aQ,A,x,y,h⟩
theorem ab.ret(h:Q .ret ah aQ A):ab r P N .ret Q ah aQ A:=λ_ w x y=>wpIn_ret ⟨fv.refl w,ah,aQ,A,x,y,h⟩
variable{x y:Code}
theorem ab.seq(h:ab r P N x (pc (λah aQ A=>ab r P N y Q ah aQ A) Q) ah aQ A):ab r P N (.seq x y) Q ah aQ A:=by intro a w O V;refine wpIn_seq (wpIn_mono (h a w O V) ?_);rintro e E W ⟨s,Z,H,D,d,u,C⟩;cases e with|normal=>exact wpIn_mono (C E W d u) λ_ _ _=>vo s (λ_ _ _ _ h=>h)|_=>exact⟨s,Z,H,D,d,u,C⟩
theorem ab.block{id:Nat}{c:Code}(h:ab r P N c (o2 id Q) ah aQ A):ab r P N (.block id c) Q ah aQ A:=by intro a w W Z;refine wpIn_block (wpIn_mono (h a w W Z) ?_);rintro e an aq ⟨s,O,D,C,E,H,d⟩;cases e with|exit u=>simp only[Exit.inBlock];simp only[o2]at d;by_cases e:u=id;subst e;rw[ax rfl];have:WE u u=true:=Nat.beq_refl _;rw[this]at d;exact⟨s,O,D,C,E,H,d⟩;rw[al e];(have:WE u id=false:=by cases V:WE u id with|false=>rfl|true=>exact absurd (VB V) e);rw[this]at d;exact⟨s,O,D,C,E,H,d⟩|_=>exact⟨s,O,D,C,E,H,d⟩
theorem ab.cond{c:Operand}{t:Bool}(u:bf ah c=.bool t)(D:t=true->ab r P N x Q ah aQ A)(aA:t=false->ab r P N y Q ah aQ A):ab r P N (.cond c x y) Q ah aQ A:=by intro a w d C;cases t with|true=>exact wpIn_cond_true (by rw[d.eval];exact u) (D rfl a w d C)|false=>exact wpIn_cond_false (by rw[d.eval];exact u) (aA rfl a w d C)
theorem ab.Lv{c:Operand}(d:bf ah c=.bool true)(u:ab r P N x Q ah aQ A):ab r P N (.cond c x y) Q ah aQ A:=
  ab.cond d (λ_=>u) (λh=>by cases h)
theorem ab.DA{c:Operand}(d:bf ah c=.bool false)(aA:ab r P N y Q ah aQ A):ab r P N (.cond c x y) Q ah aQ A:=
  ab.cond d (λh=>by cases h) (λ_=>aA)
theorem ab.az{c:Operand}{p:Prop}[Decidable p](d:bf ah c=.bool (decide p))(u:p->ab r P N x Q ah aQ A)(aA:¬p->ab r P N y Q ah aQ A):ab r P N (.cond c x y) Q ah aQ A:=
  ab.cond d (λh=>u (dz h)) (λh=>aA (d6 h))
end code
theorem Ua{F:Fence}{n:Nat}{P:Program}{Q:Exit->Act->World->Prop}{a:Act}{w:World}{c:Code}(bP:Nat->Act->World->Prop)(O:Nat)(av:bP O a w)
    (round:∀m a w,bP m a w->c.wpIn F n P (Exit.then (λa' D=>∃m',m'<m/\bP m' a' D) Q) a w):(Code.loop c).wpIn F n P Q a w:=by
 intro b k cs au H N
 have key:∀j a w,bP j a w->
     ∃e a' D,Q e a' D/\ArrivesIn (Machine.fenced P F) P (lone (b.atR a (.code c::.inLoop c::k)) cs w) b k cs e a' D:=by
   intro j
   induction j using Nat.strongRecOn with
   | _ j az=>
     intro a w Z
     obtain⟨e,C,E,u,d⟩:=round j a w Z b (.inLoop c::k) cs au H N
     cases e with
     | normal=>
       obtain⟨m',aq,ah⟩:=u
       obtain⟨W,V,aB,ar,an⟩:=az m' aq C E ah
       exact⟨W,V,aB,ar,.of_steps (StepsIn.trans d (.one (fenced_calm H N rfl) stepR_inLoop)) an⟩
     | exit id=>exact⟨_,C,E,u,.pass (x:=.inLoop c) rfl (λ_ _=>.inl cG) d⟩
     | goto l=>exact⟨_,C,E,u,.pass (x:=.inLoop c) rfl (λ_ _=>.inl cG) d⟩
     | ret=>exact⟨_,C,E,u,.pass (x:=.inLoop c) rfl (λ_ _=>.inl cG) d⟩
     | panic hA=>exact⟨_,C,E,u,.pass (x:=.inLoop c) rfl (λ_ _=>.inl cG) d⟩
     | outgrown=>exact⟨_,C,E,u,.pass (x:=.inLoop c) rfl (λ_ _=>.inl cG) d⟩
 obtain⟨e,a',D,u,d⟩:=key O a w av;exact⟨e,a',D,u,.of_steps (.one (fenced_calm H N rfl) stepR_loop) d⟩
section Lr
variable {r : Option Nat} {P : Program} {N : Nat} {Q : fk} {ah : Env} {aQ : List Deferred} {A : av}
theorem ab.loop{ι:Type}{c:Code}(inv:ι->Prop)(L:ι->List (Nat×Value))(B:ι->av)(d:ι->Nat)(i0:ι)(au:inv i0)(aL:oK ah (L i0))(he:aE A (B i0))
    (round:∀i,inv i->∀u,ab r P N c (pc (λa8 ar Z=>ar=aQ/\∃j,inv j/\d j<d i/\oK a8 (L j)/\aE Z (B j)) Q) (cx u (L i)) aQ (B i)):
    ab r P N (.loop c) Q ah aQ A:=by intro a w a2 a4;refine Ua (λm D C=>fv w C/\∃i u,inv i/\ck N D (cx u (L i)) aQ/\sat C (B i)/\d i=m) (d i0) ⟨fv.refl w,i0,ah,au,by rw[q3 aL];exact a2,a4.bk he,rfl⟩ ?_;rintro m an cI ⟨s1,i,u,aB,a3,a5,rfl⟩;refine wpIn_mono (round i aB u an cI a3 a5) ?_;rintro e D C ⟨s,V,aq,W,E,H,O⟩;cases e with|normal=>obtain⟨rfl,j,aH,a0,aW,az⟩:=O;exact⟨d j,a0,s1.trans s,j,V,aH,by rw[q3 aW];exact E,H.bk az,rfl⟩|_=>exact⟨s1.trans s,V,aq,W,E,H,O⟩
theorem ab.cut{ι:Type}{x y:Code}(inv:ι->Prop)(L:ι->List (Nat×Value))(B:ι->av)(C:ab r P N x (pc (λd w u=>w=aQ/\∃j,inv j/\oK d (L j)/\aE u (B j)) Q) ah aQ A)
    (D:∀j,inv j->∀O,ab r P N y Q (cx O (L j)) aQ (B j)):ab r P N (.seq x y) Q ah aQ A:=by refine ab.seq (C.mono λe d w u h=>?_);cases e with|normal=>obtain⟨rfl,j,E,H,he⟩:=h;have:=D j E d;rw[q3 H]at this;exact this.bk he|_=>exact h
variable {K : Env → List Deferred → av → Prop} {i j : Nat}
theorem ib(h:K ah aQ A):pc K Q .normal ah aQ A:=h
theorem lP(h:Q (.exit i) ah aQ A):pc K Q (.exit i) ah aQ A:=h
theorem rt(h:Q .ret ah aQ A):pc K Q .ret ah aQ A:=h
theorem jK(h:Q .normal ah aQ A):o2 i Q .normal ah aQ A:=h
theorem qv(h:Q .normal ah aQ A):o2 i Q (.exit i) ah aQ A:=by
 have:WE i i=true:=b4
 simp only[o2,this,cond_true];exact h
theorem aL(d:WE j i=false)(h:Q (.exit j) ah aQ A):o2 i Q (.exit j) ah aQ A:=by simp only[o2,d,cond_false];exact h
theorem kJ(h:Q .ret ah aQ A):o2 i Q .ret ah aQ A:=h
end Lr
end Go.QM
open Go.QM.fv renaming refl->X5
namespace Go.QM
open Go
def cn (r:Option Nat) (P:Program) (ah:Env) (o:Oper) (A:av) (K:Value->av->Prop):Prop:=
  ∀ a w,a.eval=bf ah->sat w A->
    o.wpIn (mM r) 0 P a w (λa' hZ=>∃v a8,a'=a.put o.dst v/\fv w hZ/\sat hZ a8/\K v a8) (λ_ _ _=>False)
def m9(F:Fence)(n:Nat)(P:Program)(ops:Array Oper)(Q:Exit->Act->World->Prop):List Oper->Act->World->Prop
  | [],a,w=>Q .normal a w
  | o::rest,a,w=>if VN o (yielded ops a.tmps)=true then o.wpIn F n P a w (m9 F n P ops Q rest) Q else(∀f,o.about P w a.eval=some f->F.fn f)/\m9 F n P ops Q rest (a.put o.dst undef) w
theorem Cb{F:Fence}{n:Nat}{P:Program}{ops:Array Oper}{Q:Exit->Act->World->Prop}:∀(l:List Oper) (k:Nat),(∀j,l[j]? =ops[k+j]?)->∀(a:Act) (w:World),
    m9 F n P ops Q l a w->wpOpsIn F n P ops Q (List.range' k l.length) a w
  | [],_,_,a,w,h=>by simpa[wpOpsIn,m9]using h
  | o::l,k,d,a,w,h=>by
   have C:ops[k]? =some o:=by simpa using(d 0).symm
   have u:∀j,l[j]? =ops[(k+1)+j]? :=λj=>by have:=d (j+1);simpa[Nat.add_assoc,Nat.add_comm 1 j]using this
   simp only[List.length_cons,List.range'_succ];simp only[wpOpsIn,C];simp only[m9]at h;split;rename_i hw;rw[ax hw]at h;exact XO (λa w=>Cb l (k+1) u a w) h;rename_i hw;rw[al hw]at h;exact⟨h.1,Cb l (k+1) u _ _ h.2⟩
theorem Oper.yd{F:Fence}{n:Nat}{P:Program}{o:Oper}{a:Act}{w:World}{K u:Act->World->Prop}{Q:Exit->Act->World->Prop}(h:∀a w,K a w->u a w)
    (d:o.wpIn F n P a w K (λ_ _ _=>False)):o.wpIn F n P a w u Q:=by
 unfold Yt at*;refine⟨d.1,?_⟩;have d:=d.2;generalize(o.semAt F.round a.eval).run P w=r at*;have C:¬LetsOut (λ(_:Exit) (_:Act) (_:World)=>False):=by grind[LetsOut]
 cases r with
 | ok x D=>
   cases x<;>simp only[WS]at d⊢<;>
     first
       | exact h _ _ d
       | exact⟨d.1,X0 d.2 (λe E he=>by cases e<;>first|exact h _ _ he|exact he.elim|exact(C he).elim)⟩
       | exact⟨d.1,RowsIn.mono d.2 (λ_ _ he=>h _ _ he)⟩
       | exact⟨d.1,XX d.2 (λe E he=>by cases e<;>first|exact h _ _ he|exact he.elim|exact(C he).elim)⟩
 | halt x D=>cases x<;>simp only[WS]at d
def aY(r:Option Nat)(P:Program)(N:Nat)(ops:Array Oper)(l:List Oper)(Q:fk)(ah:Env)(aQ:List Deferred)(A:av):Prop:=
  ∀a w,ck N a ah aQ->sat w A->m9 (mM r) 0 P ops (d8 N w Q) l a w
section
variable {r : Option Nat} {P : Program} {N : Nat} {ops : Array Oper} {l : List Oper} {Q : fk} {ah : Env} {aQ : List Deferred} {A : av} {K : Value → av → Prop}
theorem ye{F:Fence}{n:Nat}{Q u:Exit->Act->World->Prop}(d:∀e a w,Q e a w->u e a w):∀(l:List Oper) (a:Act) (w:World),m9 F n P ops Q l a w->m9 F n P ops u l a w
  | [],_,_,h=>d _ _ _ h
  | o :: l,a,w,h=>by
   simp only[m9]at h⊢;split;rename_i hw;rw[ax hw]at h;refine XO (λa w=>ye d l a w) ?_;unfold Yt at*;refine⟨h.1,?_⟩;have h:=h.2;have C:LetsOut Q->LetsOut u:=λ⟨a,w,x⟩=>⟨a,w,d _ _ _ x⟩;generalize(o.semAt F.round a.eval).run P w=r at*
   cases r with
   | ok x D=>
     cases x<;>simp only[WS]at h⊢<;>
       first
         | exact h
         | exact⟨h.1,X0 h.2 (λe E he=>by cases e<;>first|exact he|exact d _ _ _ he|exact C he)⟩
         | exact⟨h.1,XX h.2 (λe E he=>by cases e<;>first|exact he|exact d _ _ _ he|exact C he)⟩
   | halt x D=>cases x<;>simp only[WS]at h⊢;exact d _ _ _ h
   rename_i hw;rw[al hw]at h;exact⟨h.1,ye d l _ _ h.2⟩
theorem aY.bk{B:av}(e:aE A B)(h:aY r P N ops l Q ah aQ B):aY r P N ops l Q ah aQ A:=λa w x y=>h a w x (y.bk e)
theorem ab.region{id:Nat}(h:aY r P N l.toArray l Q ah aQ A):ab r P N (.region id l.toArray false) Q ah aQ A:=by intro a w d u;refine wpIn_region ?_;have:=Cb (ops:=l.toArray) l 0 cG a w (h a w d u);grind[List.range_eq_range']
theorem aY.nil(h:Q .normal ah aQ A):aY r P N ops [] Q ah aQ A:=λ_ w x y=>⟨X5 w,ah,aQ,A,x,y,h⟩
variable{o:Oper}
theorem aY.cons(O:o.guard=none)(u:jG N o.dst=true)(h:cn r P ah o A (λv a8=>aY r P N ops l Q (jS ah o.dst v) aQ a8)):aY r P N ops (o::l) Q ah aQ A:=by
 intro a w d D;have hw:VN o (yielded ops a.tmps)=true:=by grind[VN]
 simp only[m9,hw,if_true];refine Oper.yd ?_ (h a w d.eval D);rintro H V ⟨v,a8,rfl,s,E,C⟩;exact ye (λe a w=>vo s (λ_ _ _ _ h=>h)) l _ _ (C _ _ (d.put u v) E)
def ik (ops:Array Oper) (ah:Env) (j:Nat):Option Bool:=
  match(ops[j]?).bind (·.dst)with
  | some d=>match ah d with
    | .bool b=>some b
    | _=>none
  | none=>none
theorem ck.yielded{a:Act}(h:ck N a ah aQ){j:Nat}{b:Bool}(w:ik ops ah j=some b):yielded ops a.tmps j=some b:=by unfold ik at w;unfold XP;cases C:(ops[j]?).bind (·.dst)with|none=>rw[C]at w;cases w|some d=>rw[C]at w;simp only[]at w;have u:=h.get d;rw[Wm]at u;simp only[X7];(cases D:a.tmps[d]? with|none=>rw[D]at u;simp[undef]at u;rw[<-u]at w;simp at w|some v=>rw[D]at u;simp at u;rw[u];cases hv:ah d<;>simp_all)
variable{b:Bool}{j:Nat}
theorem aY.DB(C:o.guard=some (j,b))(O:ik ops ah j=some b)(u:jG N o.dst=true)(h:cn r P ah o A (λv a8=>aY r P N ops l Q (jS ah o.dst v) aQ a8)):aY r P N ops (o::l) Q ah aQ A:=by
 intro a w d E;have hw:VN o (XP ops a.tmps)=true:=by simp[VN,C,d.yielded O]
 simp only[m9,hw,if_true];refine Oper.yd ?_ (h a w d.eval E);rintro V W ⟨v,a8,rfl,s,H,D⟩;exact ye (λe a w=>vo s (λ_ _ _ _ h=>h)) l _ _ (D _ _ (d.put u v) H)
theorem aY.Sv(C:o.guard=some (j,!b))(E:ik ops ah j=some b)(u:jG N o.dst=true)(h:aY r P N ops l Q (jS ah o.dst undef) aQ A):aY r P N ops (o::l) Q ah aQ A:=by
 intro a w d D;have hw:VN o (XP ops a.tmps)=false:=by simp[VN,C,d.yielded E]
 simp only[m9,hw];exact⟨λ_ _=>trivial,h _ _ (d.put u undef) D⟩
def vj (ops:Array Oper) (ah:Env) (j:Nat):Bool:=
  match(ops[j]?).bind (·.dst)with
  | some d=>match ah d with
    | .bool _=>false
    | _=>true
  | none=>true
theorem ck.IZ{a:Act}(h:ck N a ah aQ)(u:vj ops ah j=true):XP ops a.tmps j=none:=by unfold vj at u;unfold XP;cases C:(ops[j]?).bind (·.dst)with|none=>rfl|some d=>rw[C]at u;simp only[]at u;have w:=h.get d;rw[Wm]at w;simp only[X7];(cases hv:a.tmps[d]? with|none=>rfl|some v=>rw[hv]at w;simp only[Option.getD_some]at w;subst w;revert u;generalize ah d=z;intro u;(cases z<;>first|rfl|cases u))
theorem aY.Hy(C:o.guard=some (j,b))(E:vj ops ah j=true)(u:jG N o.dst=true)(h:aY r P N ops l Q (jS ah o.dst undef) aQ A):aY r P N ops (o::l) Q ah aQ A:=by
 intro a w d D;have hw:VN o (XP ops a.tmps)=false:=by simp[VN,C,d.IZ E]
 simp only[m9,hw];exact⟨λ_ _=>trivial,h _ _ (d.put u undef) D⟩
theorem aY.split(t:Nat)(d:ah t=.bool b)(u:b=true->aY r P N ops l Q (hG ah t (.bool true)) aQ A)(w:b=false->aY r P N ops l Q (hG ah t (.bool false)) aQ A):aY r P N ops l Q ah aQ A:=by cases b with|true=>have:=u rfl;rwa[r6 d]at this|false=>have:=w rfl;rwa[r6 d]at this
theorem aY.known(t:Nat){c:Bool}(u:ah t=.bool b)(d:b=c)(h:aY r P N ops l Q (hG ah t (.bool c)) aQ A):aY r P N ops l Q ah aQ A:=by subst d;rwa[r6 u]at h
theorem cn.mono{d:Value->av->Prop}(h:cn r P ah o A K)(H:∀v a8,K v a8->d v a8):cn r P ah o A d:=
  λa w x y=>XO (λ_ _ ⟨v,a8,u,C,D,E⟩=>⟨v,a8,u,C,D,H _ _ E⟩) (h a w x y)
theorem cn.bk{B:av}(e:aE A B)(h:cn r P ah o B K):cn r P ah o A K:=λa w x y=>h a w x (y.bk e)
def iQ:Op->Bool
  | .defer _=>false
  | _=>true
theorem rW(r:Option Nat)(h:iQ o.op=true)(f:Operand->Value):o.semAt r f=execOp f o:=
  Oper.semAt_eq r f o (λc d=>by rw[d]at h;cases h)
theorem cn.run(D:iQ o.op=true)
    (h:∀w,sat w A->∃v d a8,((execOp (bf ah) o).run P w=.ok (.value v) d\/((execOp (bf ah) o).run P w=.ok .skip d/\v=undef))/\fv w d/\sat d a8/\K v a8):cn r P ah o A K:=by intro a w he E;obtain⟨v,d,a8,u,N,H,C⟩:=h w E;refine⟨λ_ _=>trivial,?_⟩;rw[rW _ D,he];rcases u with u|⟨u,rfl⟩<;>rw[u]<;>exact⟨_,a8,rfl,N,H,C⟩
theorem cn.val(v:Value)(u:iQ o.op=true)(h:∀w,sat w A->(execOp (bf ah) o).run P w=.ok (.value v) w)(k:K v A):cn r P ah o A K:=
  cn.run u λw d=>⟨v,w,A,.inl (h w d),X5 w,d,k⟩
def bF(P:Program)(ah:Env)(o:Oper)(A:av)(v:Value):Prop:=∀w,sat w A->(execOp (bf ah) o).run P w=.ok (.value v) w
theorem cn.q{v:Value}(d:iQ o.op=true)(h:bF P ah o A v)(k:K v A):cn r P ah o A K:=cn.val v d h k
variable {op : Op} {d : Option Tmp} {ty : TypeId} {ps : String} {bl : Array Edge} {g : Option (Nat × Bool)} {t : Nat} {v : Value} {j : Nat} {b : Bool}
theorem q(u:iQ op=true)(d:Xc t N=true)(w:bF P ah ⟨some t,op,ty,ps,bl,none⟩ A v)(h:aY r P N ops l Q (hG ah t v) aQ A):aY r P N ops (⟨some t,op,ty,ps,bl,none⟩::l) Q ah aQ A:=
  aY.cons rfl d (cn.q u w h)
theorem dc(C:ik ops ah j=some b)(u:iQ op=true)(d:Xc t N=true)(w:bF P ah ⟨some t,op,ty,ps,bl,some (j,b)⟩ A v)(h:aY r P N ops l Q (hG ah t v) aQ A):aY r P N ops (⟨some t,op,ty,ps,bl,some (j,b)⟩::l) Q ah aQ A:=
  aY.DB rfl C d (cn.q u w h)
theorem m5(u:ik ops ah j=some (!b))(d:Xc t N=true)(h:aY r P N ops l Q (hG ah t undef) aQ A):aY r P N ops (⟨some t,op,ty,ps,bl,some (j,b)⟩::l) Q ah aQ A:=
  aY.Sv (o:=⟨some t,op,ty,ps,bl,some (j,b)⟩) (b:=!b) cG u d h
theorem Rn(u:vj ops ah j=true)(d:Xc t N=true)(h:aY r P N ops l Q (hG ah t undef) aQ A):aY r P N ops (⟨some t,op,ty,ps,bl,some (j,b)⟩::l) Q ah aQ A:=
  aY.Hy (o:=⟨some t,op,ty,ps,bl,some (j,b)⟩) rfl u d h
theorem e(d:Xc t N=true)(h:cn r P ah ⟨some t,op,ty,ps,bl,none⟩ A (λv a8=>aY r P N ops l Q (hG ah t v) aQ a8)):aY r P N ops (⟨some t,op,ty,ps,bl,none⟩::l) Q ah aQ A:=
  aY.cons rfl d h
theorem eB(h:cn r P ah ⟨none,op,ty,ps,bl,none⟩ A (λ_ a8=>aY r P N ops l Q ah aQ a8)):aY r P N ops (⟨none,op,ty,ps,bl,none⟩::l) Q ah aQ A:=
  aY.cons rfl rfl h
theorem pt(u:ik ops ah j=some b)(d:Xc t N=true)(h:cn r P ah ⟨some t,op,ty,ps,bl,some (j,b)⟩ A (λv a8=>aY r P N ops l Q (hG ah t v) aQ a8)):aY r P N ops (⟨some t,op,ty,ps,bl,some (j,b)⟩::l) Q ah aQ A:=
  aY.DB rfl u d h
variable{x:Operand}
theorem fW{v:Value}(u:bf ah x=v):bF P ah ⟨d,.move x,ty,ps,bl,g⟩ A v:=λ_ _=>by simp[execOp,u]
theorem oC{v:Value}(u:bf ah x=v):bF P ah ⟨d,.assign x,ty,ps,bl,g⟩ A v:=λ_ _=>by simp[execOp,u]
theorem Bh{c y:Operand}{v:Value}(u:bf ah c=.bool true)(w:bf ah x=v):bF P ah ⟨d,.pick c x y,ty,ps,bl,g⟩ A v:=λ_ _=>by simp[execOp,u,w,asBool]
theorem Bg{c y:Operand}{v:Value}(u:bf ah c=.bool false)(w:bf ah y=v):bF P ah ⟨d,.pick c x y,ty,ps,bl,g⟩ A v:=λ_ _=>by simp[execOp,u,w,asBool]
theorem js{a:Addr}(u:bf ah x=.pointer (some a)):bF P ah ⟨d,.nilCheck x,ty,ps,bl,g⟩ A (.pointer (some a)):=λ_ _=>by simp[execOp,u]
theorem F4{f:FuncId}{lb:Array Value}(u:bf ah x=.func (.func f) #[] lb):bF P ah ⟨d,.nilCheck x,ty,ps,bl,g⟩ A (.func (.func f) #[] lb):=λ_ _=>by simp[execOp,u]
theorem pu(v:Value)(h:∀w,(execOp (bf ah) ⟨d,op,ty,ps,bl,g⟩).run P w=.ok (.value v) w):bF P ah ⟨d,op,ty,ps,bl,g⟩ A v:=λw _=>h w
theorem iC(b off n:Nat):(⟨b,off,none⟩:Addr).add n=⟨b,off+n,none⟩:=by unfold Addr.add;split<;>simp_all
def mv(P:Program)(t:TypeId):Bool:=match P.underlying t with
  | some (.struct _)|some (.array _ _)|none=>false
  | some _=>true
def qp(P:Program)(t:TypeId)(n:Nat):Bool:=match P.underlying t,P.info? t with
  | some (.struct _),some i|some (.array _ _),some i=>WE i.size n
  | _,_=>false
def q0(P:Program)(t:TypeId)(n:Nat):Bool:=match P.info? t with
  | some i=>WE i.size n
  | none=>false
def wC (P:Program) (s:TypeId) (f off:Nat):Bool:=match P.underlying s with
  | some (.struct pC)=>match pC[f]? with
    | some fd=>WE fd.offset off&&(match P.info? fd.type with|some i=>!WE i.size 0|none=>false)
    | none=>false
  | _=>false
theorem uq{t:TypeId}(h:mv P t=true)(w:World):(isAgg t).run P w=.ok false w:=by unfold mv at h;cases hu:P.underlying t with|none=>rw[hu]at h;cases h|some u=>(rw[hu]at h;cases u<;>first|(simp at h;done)|simp[isAgg,underlying,hu])
variable{n:Nat}
theorem E7{t:TypeId}(h:qp P t n=true)(w:World):(isAgg t).run P w=.ok true w/\(sizeOf t).run P w=.ok n w:=by unfold qp at h;cases hu:P.underlying t with|none=>rw[hu]at h;cases h|some u=>rw[hu]at h;(cases d:P.info? t with|none=>rw[d]at h;cases u<;>cases h|some i=>rw[d]at h;(cases u<;>first|(cases h;done)|(simp only[]at h;have:=VB h;simp[isAgg,underlying,hu,sizeOf,typeInfo,d,this])))
theorem BP{t:TypeId}(h:q0 P t n=true)(w:World):(sizeOf t).run P w=.ok n w:=by unfold q0 at h;cases d:P.info? t with|none=>rw[d]at h;cases h|some i=>rw[d]at h;have:=VB h;simp[sizeOf,typeInfo,d,this]
variable{off:Nat}
theorem cY{s:TypeId}{f b:Nat}(o:Nat)(aA:wC P s f o=true)(O:bf ah x=.pointer (some ⟨b,off,none⟩)):
    bF P ah ⟨d,.fieldAddr s x f,ty,ps,bl,g⟩ A (.pointer (some ⟨b,off+o,none⟩)):=by intro w _;unfold wC at aA;cases hu:P.underlying s with|none=>rw[hu]at aA;cases aA|some u=>rw[hu]at aA;(cases u with|struct N=>simp only[]at aA;(cases E:N[f]? with|none=>rw[E]at aA;cases aA|some fd=>rw[E]at aA;simp only[VR]at aA;obtain⟨D,C⟩:=aA;have D:=VB D;(cases H:P.info? fd.type with|none=>rw[H]at C;cases C|some i=>rw[H]at C;(have Q:i.size≠0:=λe=>by simp[e]at C);simp[execOp,Instr.fieldAt,underlying,hu,E,O,WP,fieldPlace,sizeOf,typeInfo,H,Q,iC,D]))|_=>cases aA)
variable{E:Nat}{lS:Nat×Nat}
theorem y6{w:World}{b:Nat}{l:List Value}(h:w.heap[b]? =some (.cells l.toArray E lS))(off:Nat):w.cell? ⟨b,off,none⟩=l[off]? :=by grind[World.cell?]
theorem AB{t:TypeId}(d:mv P t=true){w:World}{b:Nat}{l:List Value}{v:Value}(h:w.heap[b]? =some (.cells l.toArray E lS))(hv:l[off]? =some v):
    (loadVar t ⟨b,off,none⟩).run P w=.ok v w:=by simp[loadVar,uq d,y6 h,hv]
variable{vs:List Value}
theorem AA{t:TypeId}(C:qp P t n=true){w:World}{b:Nat}{l:List Value}(h:w.heap[b]? =some (.cells l.toArray E lS))(hv:(l.drop off).take n=vs)(an:vs.length=n):
    (loadVar t ⟨b,off,none⟩).run P w=.ok (.agg vs.toArray) w:=by have u:=run_loadCells_list (P:=P) w ⟨b,off,none⟩ vs (λj v d=>by rw[iC,y6 h];rw[<-hv,List.getElem?_take]at d;split at d;rwa[List.getElem?_drop]at d;cases d);rw[an]at u;simp[loadVar,E7 C,u]
class fL(A:av)(b:Nat)(o:outParam Obj):Prop where
  rd:Rd A b o
instance (b:Nat)(E:TypeId)(l:List Value):fL (aj b E l) b (.cells l.toArray E (0,0)):=⟨nb b E l⟩
instance (b:Nat)(o:Obj):fL (obj b o) b o:=⟨jf b o⟩
instance (A:av)(l:List av)(b:Nat)(o:Obj)[h:fL (ag l) b o]:fL (ag (A::l)) b o:=⟨lG h.rd⟩
instance (A:av)(l:List av)(b:Nat)(o:Obj)[h:fL A b o]:fL (ag (A::l)) b o:=⟨iW h.rd⟩
theorem Pu{t:TypeId}{b:Nat}{l:List Value}{v:Value}(C:mv P t=true)(D:bf ah x=.pointer (some ⟨b,off,none⟩))(hr:Rd A b (.cells l.toArray E lS))(hv:l[off]? =some v):
    bF P ah ⟨d,.load t x,ty,ps,bl,g⟩ A v:=by intro w u;simp[execOp,Instr.loadAt,D,WP,AB C (hr.sat u) hv]
theorem Pv{t:TypeId}{b:Nat}{l:List Value}(n:Nat)(C:qp P t n=true)(D:bf ah x=.pointer (some ⟨b,off,none⟩))(hr:Rd A b (.cells l.toArray E lS))(hv:(l.drop off).take n=vs)(an:vs.length=n):
    bF P ah ⟨d,.load t x,ty,ps,bl,g⟩ A (.agg vs.toArray):=by intro w u;simp[execOp,Instr.loadAt,D,WP,AA C (hr.sat u) hv an]
theorem fF{t:TypeId}{b:Nat}{l:List Value}{v:Value}(u:mv P t=true)(w:bf ah x=.pointer (some ⟨b,off,none⟩))[hr:fL A b (.cells l.toArray E lS)](hv:l[off]? =some v):
    bF P ah ⟨d,.load t x,ty,ps,bl,g⟩ A v:=Pu u w hr.rd hv
theorem fQ{t:TypeId}{b:Nat}{l:List Value}(n:Nat)(u:qp P t n=true)(w:bf ah x=.pointer (some ⟨b,off,none⟩))[hr:fL A b (.cells l.toArray E lS)](hv:(l.drop off).take n=vs)(an:vs.length=n):
    bF P ah ⟨d,.load t x,ty,ps,bl,g⟩ A (.agg vs.toArray):=Pv n u w hr.rd hv an
def dC(off:Nat)(vs l:List Value):List Value:=l.take off++vs++l.drop (off+vs.length)
theorem u9{l:List Value}(h:off+vs.length<=l.length):(dC off vs l).length=l.length:=by grind[dC]
theorem xL{w:World}{b:Nat}{l l':List Value}(h:sat w (sep (aj b E l) A)):sat (w.setRow b l'.toArray) (sep (aj b E l') A):=by have d:w.heap[b]? =some (.cells l.toArray E (0,0)):=(iB (nb b E l)).sat h;exact u0 h (setRow_heap w b _ _ E (0,0) d) (λi u=>setRow_other w b i _ u)
theorem S0{t:TypeId}{v:Value}(D:q0 P t n=true)(an:v.cells.toList.length=n)(d:v.cells.toList.all VP=true){w:World}{b:Nat}{l:List Value}
    (h:w.heap[b]? =some (.cells l.toArray E (0,0))) (hlen:off+n<=l.length):(storeVar t ⟨b,off,none⟩ v).run P w=.ok () (w.setRow b (dC off v.cells.toList l).toArray):=by
 have:=run_storeCells_at P b off E v.cells.toList 0 l.toArray w h (by rw[an];simpa using hlen) (λu hu=>by simpa using W0.1 d u hu);simp only[Nat.add_zero]at this;have C:v.cells.size=n:=by trivial
 simp only[storeVar,VA,BP D,Vs,C,ne_eq,not_true_eq_false,if_false,this,dC]
theorem GA(i:Nat){hs rest:List av}{t:TypeId}{y:Operand}{b:Nat}{l l':List Value}{v:Value}(V:bf ah x=.pointer (some ⟨b,off,none⟩))(u:eU i hs=some (aj b E l,rest))(W:bf ah y=v)
    (N:v.cells.toList=vs) (D:vs.all VP=true) (Q:q0 P t n=true) (an:vs.length=n) (hlen:off+n<=l.length) (O:dC off vs l=l') (k:K undef (ag (aj b E l'::rest))):
    cn r P ah ⟨d,.store t x y,ty,ps,bl,g⟩ (ag hs) K:=by subst N;refine cn.run rfl λw C=>⟨undef,w.setRow b l'.toArray,_,.inr ⟨?_,rfl⟩,⟨rfl,rfl,rfl,by simp⟩,?_,k⟩;have H:w.heap[b]? =some (.cells l.toArray E (0,0)):=(iB (nb b E l)).sat (C.bk (fC u));subst O;simp only[execOp,Instr.storeAt,V,W,WP,VA,Sem.run_pure,Vs,S0 Q an D H hlen];exact xL (C.bk (fC u))
class rh(hs:List av)(b:Nat)(E:outParam Nat)(l:outParam (List Value))(r:outParam (List av)):Prop where
  tk:∃i,eU i hs=some (aj b E l,r)
instance (b E:Nat)(l:List Value)(r:List av):rh (aj b E l::r) b E l r:=⟨0,rfl⟩
instance (A:av)(hs:List av)(b E:Nat)(l:List Value)(r:List av)[h:rh hs b E l r]:rh (A::hs) b E l (A::r):=⟨by
  obtain⟨i,pE⟩:=h.tk
  exact⟨i+1,by simp[eU,pE]⟩⟩
theorem st{hs rest:List av}{t:TypeId}{y:Operand}{b:Nat}{l l':List Value}{v:Value}(n:Nat)(H:q0 P t n=true)(N:bf ah x=.pointer (some ⟨b,off,none⟩))(O:bf ah y=v)
    (C:v.cells.toList=vs) (w:vs.all VP=true) (an:WE vs.length n=true) [u:rh hs b E l rest] (hlen:off+n<=l.length) (D:dC off vs l=l') (k:K undef (ag (aj b E l'::rest))):
    cn r P ah ⟨d,.store t x y,ty,ps,bl,g⟩ (ag hs) K:=by obtain⟨i,u⟩:=u.tk;exact GA i N u O C w H (VB an) hlen D k
theorem cn.new{o:Oper}(bA:iQ o.op=true)(E:TypeId)(l:List Value)(f:Nat->Value)(d:∀w,(execOp (bf ah) o).run P w=.ok (.value (f w.heap.size)) (w.alloc (.cells l.toArray E)))
    {hs:List av} (k:∀b,K (f b) (ag (aj b E l::hs))):cn r P ah o (ag hs) K:=
  cn.run bA λw u=>⟨_,_,_,.inl (d w),⟨rfl,rfl,rfl,by simp⟩,oU _ u,k w.heap.size⟩
theorem e0{hs:List av}{E:TypeId}{v:Value}{l:List Value}(C:bf ah x=v)(u:v.cells.toList=l)(k:∀b,K (.pointer (some ⟨b,0,none⟩)) (ag (aj b E l::hs))):
    cn r P ah ⟨d,.box E x,ty,ps,bl,g⟩ (ag hs) K:=by subst u;refine cn.new rfl E _ (λb=>.pointer (some ⟨b,0,none⟩)) (λw=>?_) k;simp[execOp,Instr.box,newVar,newRow,C]
def ly(P:Program)(t:TypeId):Option Value:=(P.info? t).bind (·.zero)
theorem vu{t:TypeId}{z:Value}(h:ly P t=some z)(w:World):(zeroValue t).run P w=.ok z w:=by unfold ly at h;cases d:P.info? t with|none=>rw[d]at h;cases h|some i=>rw[d]at h;simp only[X7]at h;simp[zeroValue,typeInfo,d,h]
theorem gm{hs:List av}{E:TypeId}{z:Value}{l:List Value}(C:ly P E=some z)(u:z.cells.toList=l)(k:∀b,K (.pointer (some ⟨b,0,none⟩)) (ag (aj b E l::hs))):
    cn r P ah ⟨d,.alloc E,ty,ps,bl,g⟩ (ag hs) K:=by subst u;refine cn.new rfl E _ (λb=>.pointer (some ⟨b,0,none⟩)) (λw=>?_) k;simp[execOp,Instr.alloc,newVar,newRow,vu C]
end
end Go.QM
namespace Go.QM
open Go
def h1{α:Type}(P:Program)(s:Sem α):Prop:=(∃r,∀w,s.run P w=.ok r w)\/∀w r hZ,s.run P w≠.ok r hZ
theorem h1.pure{α:Type}{P:Program}(r:α):h1 P (pure r:Sem α):=.inl ⟨r,λw=>by simp⟩
variable{P:Program}{α:Type}
theorem h1.bind{β:Type}{s:Sem α}{f:α->Sem β}(hs:h1 P s)(aA:∀a,h1 P (f a)):h1 P (s>>=f):=by
 rcases hs with⟨r,d⟩|hs;rcases aA r with⟨q,C⟩|an;exact .inl ⟨q,λw=>by simp[d,C]⟩;exact .inr λw q u=>by simp[d];exact an w q u
 refine .inr λw q u h=>?_;rw[VA]at h;cases hw:s.run P w with|ok r cI=>exact hs w r cI hw|halt x cI=>rw[hw]at h;simp[Xv]at h
theorem h1.stuck{α:Type}{P:Program}(why:String):h1 P (stuck why:Sem α):=.inr λw r d h=>by simp at h
theorem h1.Iy(u:Unsupported):h1 P (unsupported u:Sem α):=.inr λw r d h=>by simp at h
theorem Qn(x y:Int)(s:Bool)(c:BoundsCode)(w:World)(r:α)(d:World):(runtimePanic (.bounds x y s c):Sem α).run P w≠.ok r d:=by simp[runtimePanic]
theorem Qm{β:Type}{s:Sem α}{f:α->Sem β}(aA:∀a w r d,(f a).run P w≠.ok r d)(w:World)(r:β)(d:World):(s>>=f).run P w≠.ok r d:=by intro h;rw[VA]at h;cases u:s.run P w with|ok b cI=>rw[u]at h;exact aA b cI r d h|halt x cI=>rw[u]at h;simp[Xv]at h
theorem h1.bounds(k:IntKind)(x y:Int)(c:BoundsCode):h1 P (boundsPanic k x y c:Sem α):=by refine .inr λw r d h=>?_;grind[boundsPanic,Qm,Qn]
theorem h1.int(v:Value):h1 P (asIntOf v):=by unfold asIntOf;split;exact .pure _;exact .Iy _;exact .stuck _
theorem h1.Iv(t:TypeId):h1 P (underlying t):=by unfold underlying;cases h:P.underlying t with|some d=>exact .inl ⟨d,λw=>by simp[h]⟩|none=>(exact .inr λw r u=>by simp[h])
theorem h1.size(t:TypeId):h1 P (sizeOf t):=by unfold sizeOf typeInfo;cases h:P.info? t with|some d=>exact .inl ⟨d.size,λw=>by simp[h]⟩|none=>(exact .inr λw r u=>by simp[h])
theorem h1.Ai{why:String}(t:TypeId)(k:IntKind)(i:Int)(base:Option Addr)(len:Nat)(elem:TypeId)(u:TypeDesc->Bool):h1 P (do
    let d<-underlying t
    match base with
    | some a=>if 0<=i/\i<len then(do let z<-sizeOf elem;Pure.pure (Value.pointer (some (a.add (i.toNat*z)))))else if u d=true then unsupported (Unsupported.noEntry why)else boundsPanic k i len .index
    | none=>boundsPanic k i 0 .index:Sem Value):=by refine .bind (.Iv _) λw=>?_;cases base with|some a=>dsimp only;split;exact .bind (.size _) λ_=>.pure _;split;exact .Iy _;exact .bounds _ _ _ _|none=>exact .bounds _ _ _ _
theorem h1.index(t:TypeId)(x y:Value):h1 P (XJ t x y):=by unfold XJ;refine .bind (.int _) λw=>?_;refine .bind (.Iv _) λu=>?_;dsimp only;split;refine .bind ?_ λ_=>.bind (.pure _) λble=>?_;unfold WP;split;exact .pure _;exact .stuck _;exact h1.Ai t w.1 w.2 _ _ _ (λd=>decide (ble.2.1<=1)&&match d with|.array _ _=>true|_=>false);exact .bind (.pure _) λble=>h1.Ai t w.1 w.2 _ _ _ (λd=>decide (ble.2.1<=1)&&match d with|.array _ _=>true|_=>false);exact .bind (.stuck _) λble=>h1.Ai t w.1 w.2 _ _ _ (λd=>decide (ble.2.1<=1)&&match d with|.array _ _=>true|_=>false)
def oJ:Op->Bool
  | .move _|.assign _|.indexAddr ..=>true
  | _=>false
theorem NP{e:Operand->Value}{o:Oper}(h:oJ o.op=true){v:Value}{w:World}(hr:(execOp e o).run P w=.ok (.value v) w)(C:World):(execOp e o).run P C=.ok (.value v) C:=by
 obtain⟨d,op,ty,ps,bl,g⟩:=o;cases op<;>first|(cases h;done)|skip
 case move x=>simp[execOp]at hr⊢;exact hr
 case assign x=>simp[execOp]at hr⊢;exact hr
 case indexAddr t x y=>
   have E:h1 P (XJ t (e x) (e y)>>=λa=>(Pure.pure (Next.value a):Sem Next)):=.bind (.index _ _ _) λ_=>.pure _
   rcases E with⟨r,u⟩|u
   · have D:=(u w).symm.trans hr
     cases D
     exact u C
   · exact absurd hr (u w _ w)
def kC(ops:Array Oper)(i:Nat):Bool:=match ops[i]? with
  | some o=>oJ o.op
  | none=>false
section
variable {F : Fence} {n : Nat} {P : Program} {ops : Array Oper} {Q : Exit → Act → World → Prop} {I : World → Prop} {T : List Nat}
def om (F:Fence) (n:Nat) (P:Program) (ops:Array Oper) (Q:Exit->Act->World->Prop) (I:World->Prop) (T:List Nat):Nat->Array Bool->Act->World->Prop
  | 0,listed,a,w=>V7 .any ops listed=[]/\Q .normal a w
  | fuel+1,listed,a,w=>
    (V7 .any ops listed=[]->Q .normal a w)/\
    ∀i∈V7 .any ops listed,wpOpIn F n P ops Q i (λa' hZ=>(i∉T->I w->I hZ)/\om F n P ops Q I T fuel (listed.setIfInBounds i true) a' hZ) a w
theorem Ca:∀(fuel:Nat) (listed:Array Bool) (a:Act) (w:World),om F n P ops Q I T fuel listed a w->wpAnyIn F n P .any ops Q fuel listed a w
  | 0,_,_,_,h=>h
  | fuel+1,_,_,_,h=>⟨h.1,λi C=>wpOpIn_mono (λd D u=>Ca fuel _ d D u.2) (h.2 i C)⟩
def qq (ops:Array Oper):Nat->Nat->Nat->Bool
  | 0,_,_=>false
  | f+1,j,i=>match ops[j]? with
    | some o=>o.after.any (λe=>W1 .any e&&e.on==i)||o.after.any (λe=>W1 .any e&&qq ops f e.on i)
    | none=>false
def o4(ops:Array Oper)(listed:Array Bool):Prop:=∀j o,ops[j]? =some o->listed.getD j true=true->∀e∈o.after,W1 .any e=true->listed.getD e.on false=true
theorem CW{listed:Array Bool}(D:o4 ops listed):∀(f j i:Nat),qq ops f j i=true->(∀o,ops[j]? =some o->∀e∈o.after,W1 .any e=true->listed.getD e.on false=true)->listed.getD i false=true
  | 0,_,_,h,_=>by simp[qq]at h
  | f + 1,j,i,h,E=>by
    simp only[qq]at h
    cases u:ops[j]? with
    | none=>rw[u]at h;cases h
    | some o=>
      rw[u]at h
      simp only[Bool.or_eq_true]at h
      rcases h with h|h
      · obtain⟨e,he,d⟩:=Array.any_eq_true'.1 h
        simp only[VR,beq_iff_eq]at d
        have:=E o u e he d.1
        rwa[d.2]at this
      · obtain⟨e,he,d⟩:=Array.any_eq_true'.1 h
        simp only[VR]at d
        have C:=E o u e he d.1
        refine CW D f e.on i d.2 (λV Q H O N=>D e.on V Q ?_ H O N)
        have P:e.on<listed.size:=by
          rcases Nat.lt_or_ge e.on listed.size with w|w
          · exact w
          · simp[YV w]at C
        simp[P]at C⊢
        exact C
variable{listed:Array Bool}
theorem o4.set(w:o4 ops listed){i:Nat}(hr:i∈V7 .any ops listed):o4 ops (listed.setIfInBounds i true):=by intro j o D d e he u;obtain⟨_,N,H,E⟩:=mem_ready.1 hr;by_cases C:i=j;grind[getD_set_true];rw[getD_set_ne true C]at d;exact getD_set_true (w j o D d e he u)
theorem Rw(d:o4 ops listed){i j:Nat}(u:listed.getD i true=false)(w:j∈V7 .any ops listed)(h:qq ops 9 j i=true):False:=by grind[mem_ready,CW]
def ks(P:Program)(ops:Array Oper)(I:World->Prop)(o:Oper)(v:Value)(a:Act):Prop:=
  iQ o.op=true/\((VN o (yielded ops a.tmps)=true/\∀w,I w->(execOp a.eval o).run P w=.ok (.value v) w)\/
  (VN o (yielded ops a.tmps)=false/\v=undef))
theorem ks.op(u:∀f,F.fn f){i:Nat}{o:Oper}{v:Value}{a:Act}(E:ops[i]? =some o)(d:ks P ops I o v a)
    {K:Act->World->Prop} {w:World} (C:I w) (h:K (a.put o.dst v) w):wpOpIn F n P ops Q i K a w:=by unfold Go.wpOpIn;simp only[E];obtain⟨D,d⟩:=d;rcases d with⟨hw,hv⟩|⟨hw,rfl⟩;simp only[hw,if_true,Yt,rW _ D,hv w C,WS];exact⟨λf _=>u f,h⟩;simp_all
theorem ks.of_same{o:Oper}{v:Value}{a a':Act}(d:ks P ops I o v a)(he:execOp a'.eval o=execOp a.eval o)
    (hw:VN o (yielded ops a'.tmps)=VN o (yielded ops a.tmps)):ks P ops I o v a':=by grind[ks]
theorem ks.free{o:Oper}{v:Value}{a:Act}(d:ks P ops I o v a){w0:World}(u:I w0)(aA:oJ o.op=true):ks P ops (λ_=>True) o v a:=
  ⟨d.1,d.2.imp (λh=>⟨h.1,λw _=>NP aA (h.2 w0 u) w⟩) (λh=>h)⟩
theorem Uc(an:∀f,F.fn f){j:Nat}{C D:Oper}{v:Value}(ar:ops[j]? =some D)(aq:C.apart ops D=true)(Z:iQ D.op=true)
    (au:∀cs b,C.op≠.select cs b) (av:∀cs b,D.op≠.select cs b)
    (N:∀c a w,Q (.panic c) (a.put C.dst v) w->Q (.panic c) a w) {K:Act->World->Prop} {a:Act} {w:World}
    (E:ks P ops I C v a) (h:wpOpIn F n P ops Q j K (a.put C.dst v) w):
    wpOpIn F n P ops Q j (λa' O=>ks P ops I C v a'/\K (a'.put C.dst v) O) a w:=by
 obtain⟨V,H,W⟩:=Oper.apart_spec aq
 have nu:∀(a:Act),ks P ops I C v a->∀u,ks P ops I C v (a.put D.dst u):=λa E u=>
   E.of_same (execOp_put C au a D.dst u W) (wanted_put C a D.dst u W)
 have az:∀d,ks P ops I C v {a with defers:=d::a.defers}:=λd=>E.of_same rfl rfl;unfold wpOpIn at*;simp only[ar]at*;rw[wanted_put D a C.dst v V]at h;split
 ·rename_i hw
  simp only[hw,if_true]at h
  unfold Yt at*
  refine⟨λf _=>an f,?_⟩
  have h:=h.2
  rw[rW _ Z,execOp_put D av a C.dst v V]at h
  rw[rW _ Z]
  generalize(execOp a.eval D).run P w=r at*
  cases r with
  | ok x O=>
    cases x<;>simp only[WS]at h⊢
    case value u=>exact⟨nu a E u,by rw[<-W7 a v u H];exact h⟩
    case skip=>exact⟨nu a E _,by rw[<-W7 a v undef H];exact h⟩
    case defer d=>
      refine⟨nu _ (az d) _,?_⟩
      rw[<-W7 _ v undef H,<-Act.put_defers]
      exact h
    case enter f args=>
      refine⟨h.1,X0 h.2 λe ah he=>?_⟩
      cases e with
      | returned u=>exact⟨nu a E u,by rw[<-W7 a v u H];exact he⟩
      | panicked c=>exact N _ _ _ he
      | outgrown=>exact he
    case row row args=>exact⟨h.1,RowsIn.mono h.2 λu ah he=>⟨nu a E u,by rw[<-W7 a v u H];exact he⟩⟩
    case round l f tmps assign body=>
      refine⟨h.1,XX h.2 λe ah he=>?_⟩
      cases e with
      | returned u=>exact⟨nu a E u,by rw[<-W7 a v u H];exact he⟩
      | panicked c=>exact N _ _ _ he
      | outgrown=>exact he
  | halt x O=>
    cases x<;>simp only[WS]at h⊢
    case panic u=>exact N _ _ _ h
 grind[W7]
theorem B9(aq:∀f,F.fn f){i:Nat}{E:Oper}{v:Value}{I':World->Prop}(au:ops[i]? =some E)(aH:∀(j:Nat) (o:Oper) cs b,ops[j]? =some o->o.op≠.select cs b)
    (bb:∀(j:Nat) (o:Oper),ops[j]? =some o->iQ o.op=true) (a0:∀c a w,Q (.panic c) (a.put E.dst v) w->Q (.panic c) a w)
    (O:(∀w,I' w)\/(I'=I/\∀j∈T,qq ops 9 j i=true)):
    ∀ (fuel:Nat) (listed:Array Bool) (a:Act) (w:World),o4 ops listed->
      (∀j C,ops[j]? =some C->j≠i->listed.getD j true=false->(∀e∈C.after,W1 .any e=true->e.on≠i)->E.apart ops C=true)->
      i∈V7 .any ops listed->ks P ops I' E v a->I' w->
      om F n P ops Q I T fuel (listed.setIfInBounds i true) (a.put E.dst v) w->om F n P ops Q I T (fuel+1) listed a w:=by
 intro fuel
 induction fuel with
 | zero=>
   intro listed a w ar _ u ah W H
   refine⟨λh=>(by rw[h]at u;cases u),λj N=>?_⟩
   by_cases d:j=i
   · subst d;exact ah.op aq au W ⟨λ_ h=>h,H⟩
   · have:=ready_mono N d
     rw[H.1]at this
     cases this
 | succ fuel bd=>
   intro listed a w ar oJ u ah W H
   refine⟨λh=>(by rw[h]at u;cases u),λj N=>?_⟩
   by_cases d:j=i
   · subst d;exact ah.op aq au W ⟨λ_ h=>h,H⟩
   · have D:=H.2 j (ready_mono N d)
     obtain⟨aB,C,Z,a2⟩:=mem_ready.1 N
     have bc:∀e∈C.after,W1 .any e=true->e.on≠i:=λe he a3 heq=>by
       have D:=a2 e he a3
       have av:=(mem_ready.1 u).1
       rw[heq]at D
       rcases Nat.lt_or_ge i listed.size with an|an
       · simp[an]at av D;rw[av]at D;cases D
       · simp[YV an]at D
     have aW:=Uc aq Z (oJ j C Z d aB bc) (bb j C Z) (λcs b=>aH i E cs b au) (λcs b=>aH j C cs b Z) a0 ah D
     have a4:∀k ok,ops[k]? =some ok->k≠i->(listed.setIfInBounds j true).getD k true=false->
         (∀e∈ok.after,W1 .any e=true->e.on≠i)->E.apart ops ok=true:=λk ok a8 a9 gj eF=>by
       refine oJ k ok a8 a9 ?_ eF
       by_cases az:j=k
       · subst az;exact aB
       · rw[getD_set_ne true az]at gj;exact gj
     refine wpOpIn_mono (λaQ aL V=>⟨V.2.1,bd (listed.setIfInBounds j true) aQ aL (ar.set N) a4 (ready_mono u (Ne.symm d)) V.1 ?_ ?_⟩) aW
     · rcases O with O|⟨rfl,O⟩
       · exact O aL
       · exact V.2.1 (λa5=>Rw ar (mem_ready.1 u).1 N (O j a5)) W
     · rw[Array.setIfInBounds_comm _ _ d]
       exact V.2.2
def ph(ops:Array Oper)(T:List Nat):List (Nat×Bool)->Array Bool->Bool
  | [],listed=>(V7 .any ops listed).isEmpty
  | (i,false)::c,listed=>(V7 .any ops listed).contains i&&Region.free .any ops listed i&&(T.all (λj=>qq ops 9 j i)||kC ops i)&&ph ops T c (listed.setIfInBounds i true)
  | (i,true)::c,listed=>(V7 .any ops listed==[i])&&ph ops T c (listed.setIfInBounds i true)
def y5(ops:Array Oper)(T:List Nat)(c:List (Nat×Bool)):Bool:=
  XE ops&&ops.all (λo=>iQ o.op)&&(c.length==ops.size)&&ph ops T c (Array.replicate ops.size false)
end
section
variable {r : Option Nat} {P : Program} {N : Nat} {ops : Array Oper} {Q : fk} {ah : Env} {aQ : List Deferred} {A I : av} {T : List Nat} {c : List (Nat × Bool)}
def md(Q:Exit->Act->World->Prop):Exit->Act->World->Prop
  | .panic _,_,_=>False
  | e,a,w=>Q e a w
theorem vE{w0 w:World}(s:fv w0 w){e:Exit}{a:Act}{d:World}(h:md (d8 N w Q) e a d):md (d8 N w0 Q) e a d:=by cases e<;>first|exact h|exact vo (w:=w) s (λ_ _ _ _ h=>h) h
theorem CE{X:Exit->Act->World->Prop}{e:Exit}{a:Act}{d:World}(h:md X e a d):X e a d:=by cases e<;>first|exact h.elim|exact h
def b8 (r:Option Nat) (P:Program) (N:Nat) (ops:Array Oper) (I:av) (T:List Nat) (c:List (Nat×Bool)) (Q:fk) (ah:Env) (aQ:List Deferred) (A:av):Prop:=
  ∀ a w listed,ck N a ah aQ->sat w A->(∃w0,sat w0 I)->(sat w I\/∀x∈c,x.2=true\/kC ops x.1=true)->o4 ops listed->XE ops=true->(∀(j:Nat) (o:Oper),ops[j]? =some o->iQ o.op=true)->ph ops T c listed=true->
    om (mM r) 0 P ops (md (d8 N w Q)) (λw=>sat w I) T c.length listed a w
theorem r9{F:Fence}{n:Nat}{Q D:Exit->Act->World->Prop}{S:World->Prop}(u:∀e a w,Q e a w->D e a w):∀(fuel:Nat) (listed:Array Bool) (a:Act) (w:World),om F n P ops Q S T fuel listed a w->om F n P ops D S T fuel listed a w
  | 0,_,_,_,h=>⟨h.1,u _ _ _ h.2⟩
  | fuel + 1,listed,a,w,h=>⟨λO=>u _ _ _ (h.1 O),λi V=>by
   have d:=h.2 i V;unfold wpOpIn at*
   cases H:ops[i]? with
   | none=>rw[H]at d;exact⟨d.1,r9 u fuel _ _ _ d.2⟩
   | some o=>
     rw[H]at d
     simp only[]at d⊢
     split
     · rename_i hw
       rw[ax hw]at d
       refine XO (K:=λN C=>(i∉T->S w->S C)/\om F n P ops Q S T fuel (listed.setIfInBounds i true) N C) (λa w h=>⟨h.1,r9 u fuel _ a w h.2⟩) ?_
       unfold Yt at*
       refine⟨d.1,?_⟩
       have h:=d.2
       have E:LetsOut Q->LetsOut D:=λ⟨a,w,x⟩=>⟨a,w,u _ _ _ x⟩
       generalize(o.semAt F.round a.eval).run P w=r at*
       cases r with
       | ok x C=>
         cases x<;>simp only[WS]at h⊢<;>
           first
             | exact h
             | exact⟨h.1,X0 h.2 (λe W he=>by cases e<;>first|exact he|exact u _ _ _ he|exact E he)⟩
             | exact⟨h.1,XX h.2 (λe W he=>by cases e<;>first|exact he|exact u _ _ _ he|exact E he)⟩
       | halt x C=>cases x<;>simp only[WS]at h⊢;exact u _ _ _ h
     · rename_i hw
       rw[al hw]at d
       exact⟨d.1,d.2.1,r9 u fuel _ _ _ d.2.2⟩⟩
theorem b8.bk{B:av}(e:aE A B)(h:b8 r P N ops I T c Q ah aQ B):b8 r P N ops I T c Q ah aQ A:=λa w l x y=>h a w l x (y.bk e)
theorem b8.nil(h:Q .normal ah aQ A):b8 r P N ops I T [] Q ah aQ A:=by intro a w listed d u _ _ _ _ _ aR;exact⟨by simpa[ph]using aR,X5 w,ah,aQ,A,d,u,h⟩
variable{i:Nat}{o:Oper}
theorem b8.xG{v:Value}(u:ops[i]? =some o)(au:jG N o.dst=true)
    (Z:∀a,ck N a ah aQ->ks P ops (λw=>sat w I) o v a) (h:b8 r P N ops I T c Q (jS ah o.dst v) aQ A):b8 r P N ops I T ((i,false)::c) Q ah aQ A:=by
 intro a w listed H az V aq C O E aR;simp only[ph,VR,Bool.or_eq_true]at aR;obtain⟨⟨⟨aL,aA⟩,d⟩,aR⟩:=aR;have D:i∈V7 .any ops listed:=b4
 have ar:sat w I\/∀x∈c,x.2=true\/kC ops x.1=true:=cr
 have:=h (a.put o.dst v) w (listed.setIfInBounds i true) (H.put au v) az V ar (C.set D) O E aR;have aH:kC ops i=true->oJ o.op=true:=by grind[kC]
 have key:oJ o.op=true->om (mM r) 0 P ops (md (d8 N w Q)) (λw=>sat w I) T (c.length+1) listed a w:=λan=>
   let⟨aW,aB⟩:=V
   B9 (I':=λ_=>True) (vA r) u (Region.noSelect_spec O) E (λc a w h=>h.elim) (.inl λ_=>trivial) c.length listed a w C (Region.free_spec u aA) D ((Z a H).free aB an) trivial this
 rcases d with d|d;rcases aq with W|W;exact B9 (vA r) u (Region.noSelect_spec O) E (λc a w h=>h.elim) (.inr ⟨rfl,λj av=>W0.1 d j av⟩) c.length listed a w C (Region.free_spec u aA) D (Z a H) W this;simp_all;simp_all
theorem b8.q{v:Value}(D:ops[i]? =some o)(u:o.guard=none)(d:jG N o.dst=true)(C:iQ o.op=true)
    (O:bF P ah o I v) (h:b8 r P N ops I T c Q (jS ah o.dst v) aQ A):b8 r P N ops I T ((i,false)::c) Q ah aQ A:=
  b8.xG D d (λa E=>⟨C,.inl ⟨by simp[VN,u],λw H=>by rw[E.eval];exact O w H⟩⟩) h
variable{b:Bool}{j:Nat}
theorem b8.Rh{v:Value}(E:ops[i]? =some o)(C:o.guard=some (j,b))(V:ik ops ah j=some b)(u:jG N o.dst=true)(D:iQ o.op=true)
    (O:bF P ah o I v) (h:b8 r P N ops I T c Q (jS ah o.dst v) aQ A):b8 r P N ops I T ((i,false)::c) Q ah aQ A:=
  b8.xG E u (λa d=>⟨D,.inl ⟨by simp[VN,C,d.yielded V],λw H=>by rw[d.eval];exact O w H⟩⟩) h
theorem b8.skip(C:ops[i]? =some o)(u:o.guard=some (j,!b))(E:ik ops ah j=some b)(d:jG N o.dst=true)(w:iQ o.op=true)
    (h:b8 r P N ops I T c Q (jS ah o.dst undef) aQ A):b8 r P N ops I T ((i,false)::c) Q ah aQ A:=
  b8.xG C d (λa D=>⟨w,.inr ⟨by simp[VN,u,D.yielded E],rfl⟩⟩) h
theorem b8.split(t:Nat)(d:ah t=.bool b)(u:b=true->b8 r P N ops I T c Q (hG ah t (.bool true)) aQ A)(w:b=false->b8 r P N ops I T c Q (hG ah t (.bool false)) aQ A):b8 r P N ops I T c Q ah aQ A:=by cases b with|true=>have:=u rfl;rwa[r6 d]at this|false=>have:=w rfl;rwa[r6 d]at this
theorem b8.known(t:Nat){b':Bool}(u:ah t=.bool b)(d:b=b')(h:b8 r P N ops I T c Q (hG ah t (.bool b')) aQ A):b8 r P N ops I T c Q ah aQ A:=by subst d;rwa[r6 u]at h
theorem b8.DS(aH:ops[i]? =some o)(Z:jG N o.dst=true)(hw:∀a,ck N a ah aQ->VN o (yielded ops a.tmps)=true)
    (h:cn r P ah o A (λv a8=>(T.contains i=true\/aE a8 I)/\((∀x∈c,x.2=true\/kC ops x.1=true)\/aE a8 I)/\b8 r P N ops I T c Q (jS ah o.dst v) aQ a8)):b8 r P N ops I T ((i,true)::c) Q ah aQ A:=by
 intro a w listed d aL O a3 W aW aB aR;simp only[ph,VR,beq_iff_eq]at aR;obtain⟨u,aR⟩:=aR;refine⟨λa0=>(by rw[a0]at u;cases u),λj D=>?_⟩;rw[u]at D;obtain rfl:j=i:=by simpa using D
 have aq:j∈V7 .any ops listed:=b4
 unfold wpOpIn;rw[aH];simp only[];rw[ax (hw a d)];refine Oper.yd ?_ (h a w d.eval aL);rintro a2 E ⟨v,a8,rfl,s,C,au,av,ar⟩;have an:=ar _ E (listed.setIfInBounds j true) (d.put Z v) C O (av.elim .inr λh=>.inl (C.bk h)) (W.set aq) aW aB aR;have az:∀e a H,md (d8 N E Q) e a H->md (d8 N w Q) e a H:=by grind[vE]
 exact⟨λV _=>au.elim (λh=>absurd (by simpa using h) V) λh=>C.bk h,r9 az c.length _ _ _ an⟩
theorem b8.tY(w:ops[i]? =some o)(u:o.guard=none)(d:jG N o.dst=true)
    (h:cn r P ah o A (λv a8=>(T.contains i=true\/aE a8 I)/\((∀x∈c,x.2=true\/kC ops x.1=true)\/aE a8 I)/\b8 r P N ops I T c Q (jS ah o.dst v) aQ a8)):b8 r P N ops I T ((i,true)::c) Q ah aQ A:=
  b8.DS w d (λ_ _=>by simp[VN,u]) h
theorem b8.Mg(w:ops[i]? =some o)(u:o.guard=some (j,b))(D:ik ops ah j=some b)(d:jG N o.dst=true)
    (h:cn r P ah o A (λv a8=>(T.contains i=true\/aE a8 I)/\((∀x∈c,x.2=true\/kC ops x.1=true)\/aE a8 I)/\b8 r P N ops I T c Q (jS ah o.dst v) aQ a8)):b8 r P N ops I T ((i,true)::c) Q ah aQ A:=
  b8.DS w d (λa C=>by simp[VN,u,C.yielded D]) h
theorem b8.Hy(C:ops[i]? =some o)(u:o.guard=some (j,b))(E:vj ops ah j=true)(d:jG N o.dst=true)(w:iQ o.op=true)
    (h:b8 r P N ops I T c Q (jS ah o.dst undef) aQ A):b8 r P N ops I T ((i,false)::c) Q ah aQ A:=
  b8.xG C d (λa D=>⟨w,.inr ⟨by simp[VN,u,D.IZ E],rfl⟩⟩) h
theorem b8.Su(au:ops[i]? =some o)(an:o.guard=some (j,!b))(aB:ik ops ah j=some b)(Z:jG N o.dst=true)(D:(T.contains i=true/\∀x∈c,x.2=true)\/aE A I)
    (h:b8 r P N ops I T c Q (jS ah o.dst undef) aQ A):b8 r P N ops I T ((i,true)::c) Q ah aQ A:=by
 intro a w listed H u O aL W av ar aR;simp only[ph,VR,beq_iff_eq]at aR;obtain⟨d,aR⟩:=aR;refine⟨λaH=>(by rw[aH]at d;cases d),λC E=>?_⟩;rw[d]at E;obtain rfl:C=i:=by simpa using E
 have aq:C∈V7 .any ops listed:=b4
 unfold wpOpIn;rw[au];simp only[];rw[al (by simp[VN,an,H.yielded aB])]
 exact⟨λf _=>vA r f,λV _=>D.elim (λh=>absurd (by simpa using h.1) V) λh=>u.bk h,
   h _ w (listed.setIfInBounds C true) (H.put Z undef) u O (D.elim (λh=>.inr λx az=>.inl (h.2 x az)) λh=>.inl (u.bk h)) (W.set aq) av ar aR⟩
section
variable {op : Op} {ty : TypeId} {ps : String} {bl : Array Edge} {t i : Nat} {v : Value} {j : Nat} {b : Bool}
theorem bI(w:ops[i]? =some ⟨some t,op,ty,ps,bl,none⟩)(u:iQ op=true)(d:Xc t N=true)(C:bF P ah ⟨some t,op,ty,ps,bl,none⟩ I v)(h:b8 r P N ops I T c Q (hG ah t v) aQ A):b8 r P N ops I T ((i,false)::c) Q ah aQ A:=
  b8.q w rfl d u C h
theorem eH(w:ops[i]? =some ⟨some t,op,ty,ps,bl,some (j,b)⟩)(D:ik ops ah j=some b)(u:iQ op=true)(d:Xc t N=true)(C:bF P ah ⟨some t,op,ty,ps,bl,some (j,b)⟩ I v)(h:b8 r P N ops I T c Q (hG ah t v) aQ A):b8 r P N ops I T ((i,false)::c) Q ah aQ A:=
  b8.Rh w rfl D d u C h
theorem L0(w:ops[i]? =some ⟨some t,op,ty,ps,bl,some (j,b)⟩)(C:ik ops ah j=some (!b))(u:iQ op=true)(d:Xc t N=true)(h:b8 r P N ops I T c Q (hG ah t undef) aQ A):b8 r P N ops I T ((i,false)::c) Q ah aQ A:=
  b8.skip (b:=!b) w cG C d u h
theorem dY(C:ops[i]? =some ⟨some t,op,ty,ps,bl,none⟩)(w:Xc t N=true)
    (h:cn r P ah ⟨some t,op,ty,ps,bl,none⟩ A (λv a8=>aE a8 I/\b8 r P N ops I T c Q (hG ah t v) aQ a8)):b8 r P N ops I T ((i,true)::c) Q ah aQ A:=
  b8.tY C rfl w (h.mono λ_ _ ⟨d,u⟩=>⟨.inr d,.inr d,u⟩)
theorem DK(w:ops[i]? =some ⟨none,op,ty,ps,bl,none⟩)
    (h:cn r P ah ⟨none,op,ty,ps,bl,none⟩ A (λ_ a8=>aE a8 I/\b8 r P N ops I T c Q ah aQ a8)):b8 r P N ops I T ((i,true)::c) Q ah aQ A:=
  b8.tY w rfl rfl (h.mono λ_ _ ⟨d,u⟩=>⟨.inr d,.inr d,u⟩)
theorem dl(u:T.contains i=true)(D:c.all (λx=>x.2||kC ops x.1)=true)(C:ops[i]? =some ⟨some t,op,ty,ps,bl,none⟩)(w:Xc t N=true)
    (h:cn r P ah ⟨some t,op,ty,ps,bl,none⟩ A (λv a8=>b8 r P N ops I T c Q (hG ah t v) aQ a8)):b8 r P N ops I T ((i,true)::c) Q ah aQ A:=
  b8.tY C rfl w (h.mono λ_ _ d=>⟨.inl u,.inl (λx E=>by simpa using W0.1 D x E),d⟩)
theorem L2(u:T.contains i=true)(C:c.all (λx=>x.2||kC ops x.1)=true)(w:ops[i]? =some ⟨none,op,ty,ps,bl,none⟩)
    (h:cn r P ah ⟨none,op,ty,ps,bl,none⟩ A (λ_ a8=>b8 r P N ops I T c Q ah aQ a8)):b8 r P N ops I T ((i,true)::c) Q ah aQ A:=
  b8.tY w rfl rfl (h.mono λ_ _ d=>⟨.inl u,.inl (λx D=>by simpa using W0.1 C x D),d⟩)
theorem LW(C:ops[i]? =some ⟨some t,op,ty,ps,bl,some (j,b)⟩)(D:ik ops ah j=some b)(w:Xc t N=true)
    (h:cn r P ah ⟨some t,op,ty,ps,bl,some (j,b)⟩ A (λv a8=>aE a8 I/\b8 r P N ops I T c Q (hG ah t v) aQ a8)):b8 r P N ops I T ((i,true)::c) Q ah aQ A:=
  b8.Mg C rfl D w (h.mono λ_ _ ⟨d,u⟩=>⟨.inr d,.inr d,u⟩)
theorem L1(w:ops[i]? =some ⟨some t,op,ty,ps,bl,some (j,b)⟩)(C:ik ops ah j=some (!b))(d:Xc t N=true)(u:aE A I)(h:b8 r P N ops I T c Q (hG ah t undef) aQ A):b8 r P N ops I T ((i,true)::c) Q ah aQ A:=
  b8.Su (b:=!b) w cG C d (.inr u) h
end
theorem ab.draw{id:Nat}{l:List Oper}(I:av)(T:List Nat)(c:List (Nat×Bool))(hm:P.follows .mixedOrders=true)(aR:y5 l.toArray T c=true)(C:aE A I)
    (h:b8 r P N l.toArray I T c Q ah aQ A):ab r P N (.region id l.toArray true) Q ah aQ A:=by
 intro a w ar d;simp only[y5,VR,beq_iff_eq]at aR;obtain⟨⟨⟨O,V⟩,W⟩,Z⟩:=aR;have D:=h a {w with drawn:=w.drawn+1} (Array.replicate l.toArray.size false) ar d ⟨{w with drawn:=w.drawn+1},sat.bk (w:={w with drawn:=w.drawn+1}) d C⟩ (.inl (sat.bk (w:={w with drawn:=w.drawn+1}) d C)) (by intro j o H E;(have an:j<l.toArray.size:=by grind);rw[Wm,Array.getElem?_replicate,ax an]at E;cases E) O (λj o H=>Array.all_eq_true_iff_forall_mem.1 V o (Array.mem_of_getElem? H)) Z
 have aq:∀e a u,md (d8 N {w with drawn:=w.drawn+1} Q) e a u->d8 N w Q e a u:=λe a u h=>
   CE (vE (w0:=w) (w:={w with drawn:=w.drawn+1}) ⟨rfl,rfl,rfl,Nat.le_refl _⟩ h)
 rw[W]at D;exact wpIn_region_any hm (Ca _ _ _ _ (r9 aq _ _ _ _ D))
end
end Go.QM
open Go.QM.aE renaming refl->VZ
namespace Go.QM
open Go
def lO(P:Program)(f:FuncId):Bool:=match P.funcs[f]? with
  | some fn => fn.name != "runtime.NumGoroutine" && fn.body.isSome
  | none=>false
theorem zw{P:Program}{f:FuncId}(h:lO P f=true)(args:Array Value)(w:World):(callFunc f args).run P w=.ok (.enter f args) w:=by unfold lO at h;cases aA:P.funcs[f]? with|none=>rw[aA]at h;cases h|some fn=>rw[aA]at h;simp only[VR,bne_iff_ne,ne_eq]at h;obtain⟨u,d⟩:=h;(have d:fn.body.isNone=false:=by cases C:fn.body<;>simp_all);simp only[callFunc,VA,run_program,Vs,aA];rw[al (by simpa using u),al (by simp[d])];rfl
def eQ (P:Program) (f:FuncId) (args:List Value) (rd:av->Prop) (pre:List av) {Y:Type} (res:Y->Value) (φ:Y->Prop) (post:Y->List av):Prop:=
  lO P f=true/\∀F,rd F->∀w,sat w (sep (ag pre) F)->
    CallsIn Fence.wide 0 P f args.toArray w (λe hZ=>∃y,e=.returned (res y)/\φ y/\fv w hZ/\sat hZ (sep (ag (post y)) F))
def be:av->Prop:=λ_=>True
def jO:List Value->Value
  | [v]=>v
  | vs=>.tuple vs.toArray
def iK(P:Program):List ResultVar->List Value->Env->av->Prop
  | [],[],_,_=>True
  | .tmp t::rs,v::vs,ah,A=>ah t=v/\iK P rs vs ah A
  | .cell a ty::rs,v::vs,ah,A=>(∃b off,ah a=.pointer (some ⟨b,off,none⟩)/\∀w,sat w A->(loadVar ty ⟨b,off,none⟩).run P w=.ok v w)/\iK P rs vs ah A
  | _,_,_,_=>False
theorem s7{P:Program}{fn:Func}{rs:List ResultVar}{vs:List Value}{C:Env}{A:av}{tmps:Array Value}{w:World}(O:fn.results=rs.toArray)(D:∀t,tmps.getD t undef=C t)(hs:sat w A)
    (h:iK P rs vs C A):(results fn tmps).run P w=.ok (jO vs) w:=by
 have key:∀(rs:List ResultVar) (vs:List Value),iK P rs vs C A->(rs.mapM (m:=Sem) fun
     | .tmp t=>pure (tmps.getD t undef)
     | .cell a t=>do loadVar t (<-asAddr (tmps.getD a undef))).run P w=.ok vs w:=by
   intro rs
   induction rs with
   | nil=>intro vs h;cases vs with|nil=>simp|cons v vs=>exact h.elim
   | cons x rs E=>
     intro vs h
     cases vs with
     | nil=>cases x<;>exact h.elim
     | cons v vs=>
       cases x with
       | tmp t=>obtain⟨d,u⟩:=h;simp only[List.mapM_cons,VA,VV,Vs,E vs u,D t,d]
       | cell a ty=>
         obtain⟨⟨b,off,d,H⟩,u⟩:=h
         have N:asAddr (.pointer (some ⟨b,off,none⟩))=pure ⟨b,off,none⟩:=rfl
         simp only[List.mapM_cons,VA,VV,Vs,E vs u,D a,d,N,H w hs]
 have:=key rs vs h;unfold results;rw[O,List.mapM_toArray];simp only[VA,Sem.run_map];refine Eq.trans (congrArg (λx=>Xv (Xv x _) _) this) ?_;simp only[Vs,VV];congr 1;cases vs with|nil=>simp[jO]|cons v vs=>cases vs<;>simp[jO]
def b7(P:Program)(rs:List ResultVar){Y:Type}(res:Y->Value)(φ:Y->Prop)(post:Y->List av)(F:av):fk
  | .ret,ah,aQ,A|.normal,ah,aQ,A=>aQ=[]/\∃y vs,iK P rs vs ah A/\jO vs=res y/\φ y/\aE A (ag (post y++[F]))
  | _,_,_,_=>False
variable{F:av}
theorem b7.i{P:Program}{rs:List ResultVar}{Y:Type}{res:Y->Value}{φ:Y->Prop}{post:Y->List av}{d:Env}{A:av}(y:Y)(vs:List Value)(u:iK P rs vs d A)(w:jO vs=res y)(C:φ y)
    (D:aE A (ag (post y++[F]))):b7 P rs res φ post F .ret d [] A:=⟨rfl,y,vs,u,w,C,D⟩
theorem b7.n{P:Program}{rs:List ResultVar}{Y:Type}{res:Y->Value}{φ:Y->Prop}{post:Y->List av}{d:Env}{A:av}(y:Y)(vs:List Value)(u:iK P rs vs d A)(w:jO vs=res y)(C:φ y)
    (D:aE A (ag (post y++[F]))):b7 P rs res φ post F .normal d [] A:=⟨rfl,y,vs,u,w,C,D⟩
def n2(l:List Value):Env:=λt=>l.getD t undef
theorem qU{l:List av}:aE (ag (l++[F])) (sep (ag l) F):=(u2 l [F]).trans (dR (VZ _) u3)
theorem rX{l:List av}:aE (sep (ag l) F) (ag (l++[F])):=(dR (VZ _) pU).trans (og l [F])
theorem eQ.intro{P:Program}{f:FuncId}{fn:Func}{c:Code}{N:Nat}{rs:List ResultVar}{args:List Value}{rd:av->Prop}{pre:List av}{Y:Type}{res:Y->Value}{φ:Y->Prop}{post:Y->List av}
    (he:lO P f=true) (aA:P.funcs[f]? =some fn) (W:fn.body=some c) (br:fn.ntmps=N) (au:Nat.ble args.length N=true) (Q:fn.results=rs.toArray)
    (h:∀F,rd F->ab none P N c (b7 P rs res φ post F) (n2 args) [] (ag (pre++[F]))):eQ P f args rd pre res φ post:=by
 refine⟨he,λF V w ah=>?_⟩;have Z:args.length<=N:=b4
 refine callsIn_of_wp aA W trivial (wpIn_mono (h F V _ w ?_ (ah.bk rX)) ?_) rfl;refine⟨by simp[br,Z],λt=>?_,rfl⟩;simp only[n2,Array.getD_eq_getD_getElem?,List.getD_eq_getElem?_getD,Array.getElem?_append];grind;rintro e aq az ⟨s,aB,ar,an,d,u,C⟩;cases e with|ret=>obtain⟨D,y,vs,bS,E,H,O⟩:=C;exact⟨by rw[d.defers,D],_,s7 Q d.get u bS,y,by rw[E],H,s,u.bk (O.trans qU)⟩|normal=>obtain⟨D,y,vs,bS,E,H,O⟩:=C;exact⟨by rw[d.defers,D],_,s7 Q d.get u bS,y,by rw[E],H,s,u.bk (O.trans qU)⟩|_=>exact C.elim
theorem eQ.bk{P:Program}{f:FuncId}{args:List Value}{rd E:av->Prop}{pre D:List av}{Y u:Type}{res:Y->Value}{φ:Y->Prop}{post:Y->List av}{H:u->Value}{N:u->Prop}{C:u->List av}
    (h:eQ P f args rd pre res φ post) (an:∀F,E F->rd F) (ah:aE (ag D) (ag pre)) (ar:∀y,φ y->∃d,res y=H d/\N d/\aE (ag (post y)) (ag (C d))):eQ P f args E D H N C:=
  ⟨h.1,λF Z w aq=>(h.2 F (an F Z) w (aq.bk (dR ah (VZ _)))).mono λe aB ⟨y,O,Q,V,W⟩=>by obtain⟨d,bS,au,az⟩:=ar y Q;exact⟨d,by rw[O,bS],au,V,W.bk (dR az (VZ _))⟩⟩
section
variable {r : Option Nat} {P : Program} {N : Nat} {ops : Array Oper} {l : List Oper} {Q : fk} {ah : Env} {aQ : List Deferred} {A : av} {K : Value → av → Prop}
variable {d : Option Tmp} {ty : TypeId} {ps : String} {bl : Array Edge} {g : Option (Nat × Bool)}
def lQ(ah:Env):List Operand->List Value
  | []=>[]
  | x::l=>bf ah x::lQ ah l
theorem zz(d:Env)(l:List Operand):l.map (bf d)=lQ d l:=by induction l with|nil=>rfl|cons x l u=>simp[lQ,u]
theorem kw{f:FuncId}{C:Operand}{lb vs:List Value}{u:List Operand}{D:Array TypeId}{rd:av->Prop}{pre hs rest:List av}{Y:Type}{res:Y->Value}{φ:Y->Prop}{post:Y->List av}
    (spec:eQ P f (vs++lb) rd pre res φ post) (H:bf ah C=.func (.func f) #[] lb.toArray) (E:lQ ah u=vs) (N:lF hs pre rest) (O:rd (ag rest)) (k:∀y,φ y->K (res y) (ag (post y++rest))):
    cn r P ah ⟨d,.call ⟨.value C,u.toArray,D⟩,ty,ps,bl,g⟩ (ag hs) K:=by intro a w he V;refine⟨λ_ _=>trivial,?_⟩;rw[rW _ kG,he];have Q:(execOp (bf ah) ⟨d,.call ⟨.value C,u.toArray,D⟩,ty,ps,bl,g⟩).run P w=.ok (.enter f (vs++lb).toArray) w:=(by simp[execOp,resolve,H,Deferred.ofValue,invoke,zz,E,zw spec.1]);rw[Q];refine⟨vz r,?_⟩;have:=spec.2 (ag rest) O w (V.bk N);refine CallsIn.mono (show CallsIn (mM r) (0-1) P f (vs++lb).toArray w _ from this) ?_;rintro e an ⟨y,rfl,Z,s,W⟩;exact⟨res y,_,rfl,s,W.bk (og _ _),k y Z⟩
theorem aK{f:FuncId}{vs:List Value}{u:List Operand}{E:Array TypeId}{rd:av->Prop}{pre hs rest:List av}{Y:Type}{res:Y->Value}{φ:Y->Prop}{post:Y->List av}
    (spec:eQ P f vs rd pre res φ post) (w:lQ ah u=vs) (C:lF hs pre rest) (D:rd (ag rest)) (k:∀y,φ y->K (res y) (ag (post y++rest))):
    cn r P ah ⟨d,.call ⟨.value (.func f),u.toArray,E⟩,ty,ps,bl,g⟩ (ag hs) K:=
  kw (lb:=[]) (vs:=vs) (by simpa using spec) rfl w C D k
end
end Go.QM
namespace Go.QM
open Go
theorem nK{n:Int}(d:-9223372036854775808<=n)(u:n<=9223372036854775807):IntKind.i64.wrap n=n:=by grind[YK,YL,Yq]
theorem q5{n:Int}(d:0<=n)(u:n<=4294967295):IntKind.u32.wrap n=n:=by grind[YK,YL,Yq]
theorem yf{n:Int}(d:0<=n)(u:n<=18446744073709551615):IntKind.u64.wrap n=n:=by grind[YK,YL,Yq]
theorem Ku(a b:Int):(a==b)=decide (a=b):=by rw[XT];simp
section
variable {r : Option Nat} {P : Program} {N : Nat} {ops : Array Oper} {l : List Oper} {Q : fk} {ah : Env} {aQ : List Deferred} {A : av} {K : Value → av → Prop}
variable {d : Option Tmp} {ty : TypeId} {ps : String} {bl : Array Edge} {g : Option (Nat × Bool)}
variable {t t' : TypeId} {x y : Operand} {k : IntKind} {a b c : Int}
theorem add(u:bf ah x=.int k a)(w:bf ah y=.int k b)(hw:k.wrap (a+b)=c):bF P ah ⟨d,.binOp .add t x y t',ty,ps,bl,g⟩ A (.int k c):=
  λ_ _=>by simp[execOp,eqGuard,binOp,YI,u,w,hw]
theorem sub(u:bf ah x=.int k a)(w:bf ah y=.int k b)(hw:k.wrap (a-b)=c):bF P ah ⟨d,.binOp .sub t x y t',ty,ps,bl,g⟩ A (.int k c):=
  λ_ _=>by simp[execOp,eqGuard,binOp,YI,u,w,hw]
theorem mul(u:bf ah x=.int k a)(w:bf ah y=.int k b)(hw:k.wrap (a*b)=c):bF P ah ⟨d,.binOp .mul t x y t',ty,ps,bl,g⟩ A (.int k c):=
  λ_ _=>by simp[execOp,eqGuard,binOp,YI,u,w,hw]
theorem quo(w:bf ah x=.int k a)(C:bf ah y=.int k b)(u:b≠0)(hw:k.wrap (a.tdiv b)=c):bF P ah ⟨d,.binOp .quo t x y t',ty,ps,bl,g⟩ A (.int k c):=
  λ_ _=>by simp[execOp,eqGuard,binOp,Op.intDiv,w,C,hw,u]
theorem rem(w:bf ah x=.int k a)(C:bf ah y=.int k b)(u:b≠0)(hw:a.tmod b=c):bF P ah ⟨d,.binOp .rem t x y t',ty,ps,bl,g⟩ A (.int k c):=
  λ_ _=>by simp[execOp,eqGuard,binOp,Op.intDiv,w,C,hw,u]
theorem hJ(C:bf ah x=.int .i64 a)(D:bf ah y=.int .i64 b)(u:-9223372036854775808<=a+b)(w:a+b<=9223372036854775807):bF P ah ⟨d,.binOp .add t x y t',ty,ps,bl,g⟩ A (.int .i64 (a+b)):=add C D (nK u w)
theorem nH(C:bf ah x=.int .i64 a)(D:bf ah y=.int .i64 b)(u:-9223372036854775808<=a-b)(w:a-b<=9223372036854775807):bF P ah ⟨d,.binOp .sub t x y t',ty,ps,bl,g⟩ A (.int .i64 (a-b)):=sub C D (nK u w)
theorem ob(C:bf ah x=.int .i64 a)(D:bf ah y=.int .i64 b)(u:-9223372036854775808<=a*b)(w:a*b<=9223372036854775807):bF P ah ⟨d,.binOp .mul t x y t',ty,ps,bl,g⟩ A (.int .i64 (a*b)):=mul C D (nK u w)
theorem ln(w:bf ah x=.int .i64 a)(C:bf ah y=.int .i64 b)(u:0<=a)(N:0<b)(H:a<=9223372036854775807):bF P ah ⟨d,.binOp .quo t x y t',ty,ps,bl,g⟩ A (.int .i64 (a/b)):=
  quo w C U (by rw[Int.tdiv_eq_ediv_of_nonneg u];have D:0<=a/b:=Int.ediv_nonneg u U;have E:a/b<=a:=Int.ediv_le_self b u;exact nK U U)
theorem pS(w:bf ah x=.int k a)(C:bf ah y=.int k b)(u:0<=a)(D:0<b):bF P ah ⟨d,.binOp .rem t x y t',ty,ps,bl,g⟩ A (.int k (a %b)):=
  rem w C U (Int.tmod_eq_emod_of_nonneg u)
theorem lss(u:bf ah x=.int k a)(w:bf ah y=.int k b):bF P ah ⟨d,.binOp .lss t x y t',ty,ps,bl,g⟩ A (.bool (decide (a<b))):=
  λ_ _=>by simp[execOp,eqGuard,binOp,X8,u,w]
theorem leq(u:bf ah x=.int k a)(w:bf ah y=.int k b):bF P ah ⟨d,.binOp .leq t x y t',ty,ps,bl,g⟩ A (.bool (decide (a<=b))):=
  λ_ _=>by simp[execOp,eqGuard,binOp,X8,u,w]
theorem gtr(u:bf ah x=.int k a)(w:bf ah y=.int k b):bF P ah ⟨d,.binOp .gtr t x y t',ty,ps,bl,g⟩ A (.bool (decide (b<a))):=
  λ_ _=>by simp[execOp,eqGuard,binOp,X8,u,w]
theorem geq(u:bf ah x=.int k a)(w:bf ah y=.int k b):bF P ah ⟨d,.binOp .geq t x y t',ty,ps,bl,g⟩ A (.bool (decide (b<=a))):=
  λ_ _=>by simp[execOp,eqGuard,binOp,X8,u,w]
theorem wr(u:bf ah x=.int k a)(w:bf ah y=.int k b):bF P ah ⟨d,.binOp .eql t x y t',ty,ps,bl,g⟩ A (.bool (decide (a=b))):=
  λ_ _=>by simp[execOp,eqGuard,binOp,X8,u,w,Ku]
theorem xk(u:bf ah x=.int k a)(w:bf ah y=.int k b):bF P ah ⟨d,.binOp .neq t x y t',ty,ps,bl,g⟩ A (.bool (decide (a≠b))):=
  λ_ _=>by
   have:(a !=b)=decide (a≠b):=by rw[XT];simp
   simp[execOp,eqGuard,binOp,X8,u,w,this]
theorem neg(u:bf ah x=.int k a)(hw:k.wrap (0-a)=c):bF P ah ⟨d,.unOp .neg t x,ty,ps,bl,g⟩ A (.int k c):=
  λ_ _=>by simp only[execOp,Op.unary,YI,u,hw];rfl
theorem A1{p:Prop}[Decidable p](u:bf ah x=.bool (decide p)):bF P ah ⟨d,.unOp .not t x,ty,ps,bl,g⟩ A (.bool (decide (¬p))):=
  λ_ _=>by simp[execOp,Op.unary,u]
theorem xm{b:Bool}(u:bf ah x=.bool b):bF P ah ⟨d,.unOp .not t x,ty,ps,bl,g⟩ A (.bool (!b)):=
  λ_ _=>by simp[execOp,Op.unary,u]
def sI(P:Program)(t:TypeId)(k:IntKind):Bool:=match P.underlying t with
  | some (.int wT)=>decide (wT=k)
  | _=>false
theorem EO{t:TypeId}{k:IntKind}(h:sI P t k=true)(w:World):(underlying t).run P w=.ok (.int k) w:=by unfold sI at h;cases hu:P.underlying t with|none=>rw[hu]at h;cases h|some u=>(rw[hu]at h;cases u<;>first|(cases h;done)|(have:=dz h;subst this;simp[underlying,hu]))
theorem conv(k u:IntKind)(C:sI P t k=true)(D:sI P t' u=true)(E:bf ah x=.int k a)(hw:u.wrap a=c):bF P ah ⟨d,.convert t t' x,ty,ps,bl,g⟩ A (.int u c):=
  λw _=>by simp[execOp,Go.convert,EO C,EO D,E,Conv.intToInt,hw]
def uT(P:Program)(t:TypeId):Bool:=match P.underlying t with
  | some (.pointer _)=>true
  | _=>false
theorem Ra{t:TypeId}(h:uT P t=true):∃e,P.underlying t=some (.pointer e):=by grind[uT]
theorem D3{t:TypeId}(h:uT P t=true)(p:Option Addr)(w:World):(Op.equal t (.pointer p) (.pointer none)).run P w=.ok p.isNone w:=by obtain⟨e,he⟩:=Ra h;have key:∀d,(YQ (d+1) t (.pointer p) (.pointer none)).run P w=.ok p.isNone w:=λd=>(by cases p<;>simp[YQ,underlying,he]);exact key 9999
theorem D0{p:Option Addr}(u:uT P t=true)(C:bf ah x=.pointer p)(D:bf ah y=.pointer none):bF P ah ⟨d,.binOp .eql t x y t',ty,ps,bl,g⟩ A (.bool p.isNone):=by intro w _;unfold execOp;simp only[C,D,eqGuard,binOp,VA,VV,Vs,D3 u];trivial
theorem AW{p:Option Addr}(u:uT P t=true)(C:bf ah x=.pointer p)(D:bf ah y=.pointer none):bF P ah ⟨d,.binOp .neq t x y t',ty,ps,bl,g⟩ A (.bool p.isSome):=by intro w _;unfold execOp;simp only[C,D,eqGuard,binOp,VA,VV,Vs,D3 u];simp_all
def hd(P:Program)(t:TypeId)(E sz:Nat):Bool:=match P.underlying t with
  | some (.slice e)=>Nat.beq e E&&q0 P e sz
  | _=>false
theorem hX{t E sz:Nat}(h:hd P t E sz=true)(w:World):(underlying t).run P w=.ok (.slice E) w/\(Go.sizeOf E).run P w=.ok sz w:=by unfold hd at h;cases hu:P.underlying t with|none=>rw[hu]at h;cases h|some u=>rw[hu]at h;(cases u<;>first|(cases h;done)|(simp only[VR]at h;have:=Nat.eq_of_beq_eq_true h.1;subst this;exact⟨by simp[underlying,hu],BP h.2 w⟩))
variable(E sz:Nat){cap:Nat}
theorem ut{u off n:Nat}{j:Int}{o:Nat}(N:hd P t E sz=true)(O:bf ah x=.slice (some ⟨u,off,none⟩) n cap)(Q:bf ah y=.int .i64 j)(C:0<=j)(D:j<n)(H:off+j.toNat*sz=o):
    bF P ah ⟨d,.indexAddr t x y,ty,ps,bl,g⟩ A (.pointer (some ⟨u,o,none⟩)):=
  λw _=>by simp[execOp,Instr.indexAt,O,Q,asIntOf,hX N,C,D,iC,H]
def fI(ad:Option Addr)(o:Nat):Value:=.pointer (ad.map λp=>⟨p.block,p.off+o,none⟩)
theorem len{ad:Option Addr}{n:Nat}(u:hd P t E sz=true)(C:bf ah x=.slice ad n cap):
    bF P ah ⟨d,.call ⟨.builtin .len,#[x],#[t]⟩,ty,ps,bl,g⟩ A (.int .i64 n):=
  λw _=>by simp[execOp,resolve,invoke,builtin,Builtin.len_,C,hX u,goInt]
def dN(ad:Option Addr)(cap j sz:Nat):Option Addr:=if cap=j then ad else ad.map (·.add (j*sz))
theorem HB{ad:Option Addr}{n:Nat}{j:Int}(D:hd P t E sz=true)(H:bf ah x=.slice ad n cap)(N:bf ah y=.int .i64 j)(u:0<=j)(C:j<=n):
    bF P ah ⟨d,.slice t x (some y) none none,ty,ps,bl,g⟩ A (.slice (dN ad cap j.toNat sz) (n-j.toNat) (cap-j.toNat)):=
  λw _=>by simp[execOp,YN,Instr.slice,X4,Wg,H,N,asIntOf,hX D,u,C,dN]
theorem SE{ad:Option Addr}{n:Nat}{j:Int}(D:hd P t E sz=true)(H:bf ah x=.slice ad n cap)(N:bf ah y=.int .i64 j)(u:0<=j)(C:j<=cap):
    bF P ah ⟨d,.slice t x none (some y) none,ty,ps,bl,g⟩ A (.slice ad j.toNat cap):=
  λw _=>by
   have:(if cap=0 then ad else Option.map (λx=>x.add 0) ad)=ad:=by split<;>cases ad<;>simp[Addr.add]
   simp[execOp,YN,Instr.slice,X4,Wg,H,N,asIntOf,hX D,u,C,this]
theorem xQ{z:Operand}{ad:Option Addr}{n:Nat}{j i:Int}(Q:hd P t E sz=true)(V:bf ah x=.slice ad n cap)(W:bf ah y=.int .i64 i)(Z:bf ah z=.int .i64 j)(D:0<=i)(an:i<=j)(H:j<=cap):
    bF P ah ⟨d,.slice t x (some y) (some z) none,ty,ps,bl,g⟩ A (.slice (dN ad cap i.toNat sz) (j.toNat-i.toNat) (cap-i.toNat)):=
  λw _=>by
   have O:0<=j:=U
   have aq:i.toNat<=j.toNat:=U
   have N:i<=(j.toNat:Int):=U
   have u:(Wg (.int .i64 j) cap .sliceAcap).run P w=.ok j.toNat w:=by simp[Wg,asIntOf,O,H]
   have C:(Wg (.int .i64 i) j.toNat .sliceB).run P w=.ok i.toNat w:=by simp only[Wg,asIntOf,VA,VV,Vs];rw[ax ⟨D,N⟩];rfl
   simp[execOp,YN,Instr.slice,X4,V,W,Z,hX Q,u,C,dN]
end
end Go.QM
namespace Go.QM
open Go
def aX(E sz:Nat)(ad:Option Addr)(n cap:Nat)(cs:List Value):av:=match ad with
  | none=>pure' (n=0/\cap=0/\cs=[]) kx
  | some p=>e7 λx:List Value×List Value=>
      pure' (p=⟨p.block,x.1.length,none⟩/\cs.length=n*sz/\n<=cap/\cap<=maxLen/\cap*sz<=cs.length+x.2.length) (aj p.block E (x.1++cs++x.2))
theorem dG(E sz:Nat)(hs:List av):aE (ag hs) (ag (aX E sz none 0 0 []::hs)):=
  (pU.trans nC).trans (dR (hM λ_ h=>⟨⟨rfl,rfl,rfl⟩,h⟩) (VZ _))
def vH(h:kr)(E:Nat)(ad:Option Addr)(cs:List Value):Prop:=
  cs=[]\/∃p pre S1 lS,ad=some p/\p=⟨p.block,pre.length,none⟩/\h p.block=some (.cells (pre++cs++S1).toArray E lS)
def cN(A:av)(E:Nat)(ad:Option Addr)(cs:List Value):Prop:=∀h,A h->vH h E ad cs
variable{E:Nat}{ad:Option Addr}{cs:List Value}
theorem vH.sub{h d:kr}(x:vH h E ad cs)(s:kD h d):vH d E ad cs:=by rcases x with x|⟨p,pre,H,u,w,C,D⟩;exact .inl x;exact .inr ⟨p,pre,H,u,w,C,s _ _ D⟩
theorem yB(E sz:Nat)(ad:Option Addr)(n cap:Nat)(cs:List Value):cN (aX E sz ad n cap cs) E ad cs:=by intro h d;cases ad with|none=>exact .inl d.1.2.2|some p=>obtain⟨⟨pre,C⟩,⟨u,_⟩,w⟩:=d;exact .inr ⟨p,pre,C,(0,0),rfl,u,by rw[w];simp⟩
variable{A:av}
theorem o9{B:av}(x:cN A E ad cs):cN (sep A B) E ad cs:=by rintro h ⟨a,b,d,rfl,u,w⟩;exact(x a u).sub (qE a b)
theorem tB{B:av}(x:cN B E ad cs):cN (sep A B) E ad cs:=by rintro h ⟨a,b,d,rfl,w,u⟩;exact(x b u).sub (um d)
theorem sm{B:av}(e:aE A B)(x:cN B E ad cs):cN A E ad cs:=λh a=>
  let⟨d,s,u⟩:=e h a;(x d u).sub s
theorem JS(x:cN A E ad cs)(k:Nat):cN A E ad (cs.take k):=λh a=>by
  rcases x h a with x|⟨p,pre,D,d,u,w,C⟩
  · exact .inl (by simp[x])
  · refine .inr ⟨p,pre,cs.drop k++D,d,u,w,?_⟩
    rw[C,VJ pre (cs.take k),<-VJ (cs.take k),V6,VJ]
variable{sz cap:Nat}
theorem CI(x:cN A E ad cs){n j:Nat}(N:cs.length=n*sz)(H:j<=n)(P:n<=cap):cN A E (dN ad cap j sz) (cs.drop (j*sz)):=λh a=>by
  by_cases D:cap=j
  · left
    have:n=j:=U
    subst this
    rw[List.drop_eq_nil_iff];omega
  · rcases x h a with x|⟨p,pre,O,d,u,w,C⟩
    · exact .inl (by simp[x])
    · have hle:j*sz<=cs.length:=by rw[N];exact VT _ H
      refine .inr ⟨⟨p.block,pre.length+j*sz,none⟩,pre++cs.take (j*sz),O,d,?_,?_,?_⟩
      · rw[u,w];simp[dN,D,iC]
      · simp[Xe hle]
      · rw[C,VJ pre (cs.take _),V6]
class bj(A:av)(ad:Option Addr)(E:outParam Nat)(cs:outParam (List Value)):Prop where
  rd:cN A E ad cs
instance (E sz:Nat)(ad:Option Addr)(n cap:Nat)(cs:List Value):bj (aX E sz ad n cap cs) ad E cs:=⟨yB E sz ad n cap cs⟩
instance (A:av)(l:List av)(ad:Option Addr)(E:Nat)(cs:List Value)[h:bj (ag l) ad E cs]:bj (ag (A::l)) ad E cs:=⟨tB h.rd⟩
instance (A:av)(l:List av)(ad:Option Addr)(E:Nat)(cs:List Value)[h:bj A ad E cs]:bj (ag (A::l)) ad E cs:=⟨o9 h.rd⟩
class pe(hs:List av)(ad:Option Addr)(E sz n cap:outParam Nat)(cs:outParam (List Value))(r:outParam (List av)):Prop where
  tk:∃i,eU i hs=some (aX E sz ad n cap cs,r)
instance (ad:Option Addr)(E sz n cap:Nat)(cs:List Value)(r:List av):pe (aX E sz ad n cap cs::r) ad E sz n cap cs r:=⟨0,rfl⟩
instance (A:av)(hs:List av)(ad:Option Addr)(E sz n cap:Nat)(cs:List Value)(r:List av)[h:pe hs ad E sz n cap cs r]:pe (A::hs) ad E sz n cap cs (A::r):=⟨by
  obtain⟨i,pE⟩:=h.tk
  exact⟨i+1,by simp[eU,pE]⟩⟩
theorem nF{n:Nat}{h:kr}(x:aX E sz ad n cap cs h):cs.length=n*sz/\n<=cap/\cap<=maxLen/\(ad=none->n=0):=by cases ad with|none=>obtain⟨⟨rfl,rfl,rfl⟩,_⟩:=x;simp|some p=>obtain⟨⟨pre,C⟩,⟨_,d,u,w,_⟩,_⟩:=x;exact⟨d,u,w,λe=>by cases e⟩
theorem BI{n:Nat}{j:Nat}(D:j<=n):aE (aX E sz ad n cap cs) (aX E sz (dN ad cap j sz) (n-j) (cap-j) (cs.drop (j*sz))):=hM λh x=>by
  obtain⟨f1,f2,f3,_⟩:=nF x
  cases ad with
  | none=>
    obtain⟨⟨rfl,rfl,rfl⟩,x⟩:=x
    obtain rfl:j=0:=by omega
    simp only[dN,if_true]
    exact⟨⟨by simp,by simp,by simp⟩,x⟩
  | some p=>
    obtain⟨⟨pre,w⟩,⟨d,N,O,P,C⟩,x⟩:=x
    have hle:j*sz<=cs.length:=by rw[f1];exact VT _ D
    by_cases u:cap=j
    · have H:n=j:=U
      subst u H
      simp only[dN,if_true,Nat.sub_self]
      refine⟨(pre,cs++w),⟨d,?_,Vm _,Nat.zero_le _,by simp⟩,?_⟩
      · simp only[W8];omega
      · have:cs.drop (n*sz)=[]:=by rw[List.drop_eq_nil_iff];omega
        rw[this];simpa using x
    · have:dN (some p) cap j sz=some ⟨p.block,pre.length+j*sz,none⟩:=by rw[d];simp[dN,u,iC]
      rw[this]
      refine⟨(pre++cs.take (j*sz),w),⟨?_,?_,by omega,by omega,?_⟩,?_⟩
      · simp[Xe hle]
      · simp only[W8,f1,Nat.sub_mul]
      · simp only[W8,Nat.sub_mul];simp only[]at C;omega
      · simp only[]
        rw[VJ pre,V6];exact x
theorem pV{n:Nat}{j:Nat}(C:j<=n):aE (aX E sz ad n cap cs) (aX E sz ad j cap (cs.take (j*sz))):=hM λh x=>by
  obtain⟨f1,f2,f3,_⟩:=nF x
  have hle:j*sz<=cs.length:=by rw[f1];exact VT _ C
  cases ad with
  | none=>
    obtain⟨⟨rfl,rfl,rfl⟩,x⟩:=x
    obtain rfl:j=0:=by omega
    exact⟨⟨rfl,rfl,by simp⟩,x⟩
  | some p=>
    obtain⟨⟨pre,d⟩,⟨u,D,H,N,w⟩,x⟩:=x
    refine⟨(pre,cs.drop (j*sz)++d),⟨u,by simp[Xe hle],by omega,f3,?_⟩,?_⟩
    · simp only[]at w;simp;omega
    · simp only[]
      rw[show pre++List.take (j*sz) cs++(List.drop (j*sz) cs++d)=pre++cs++d by
        rw[VJ,<-VJ (List.take _ _),V6,VJ]]
      exact x
section
variable {r : Option Nat} {P : Program} {N : Nat} {ops : Array Oper} {l : List Oper} {Q : fk} {ah : Env} {aQ : List Deferred} {A : av} {K : Value → av → Prop}
variable {d : Option Tmp} {ty : TypeId} {ps : String} {bl : Array Edge} {g : Option (Nat × Bool)}
variable {t t' : TypeId} {x y : Operand} {k : IntKind} {a b c : Int}
variable{ad:Option Addr}{cs:List Value}{E:Nat}
theorem cN.sat(x:cN A E ad cs){w:World}(h:QM.sat w A):
    cs=[]\/∃p pre u d,ad=some p/\p=⟨p.block,pre.length,none⟩/\w.heap[p.block]? =some (.cells (pre++cs++u).toArray E d):=by obtain⟨D,P,C⟩:=h;rcases x D C with x|⟨p,pre,u,d,H,N,O⟩;all_goals grind
theorem cN.xl(x:cN A E ad cs){w:World}(h:QM.sat w A)(an:cs≠[]):∃p,ad=some p/\p.spot=none:=by rcases x.sat h with x|⟨p,pre,H,d,u,C,D⟩;all_goals grind
variable{vy cap:Nat}
theorem gN(E sz:Nat){n i:Nat}(N:hd P t E sz=true)(O:bf ah x=.slice ad n cap)(Q:bf ah y=.int .i64 (i:Int))[hr:bj A ad vy cs](D:i<n)(u:0<cs.length):
    bF P ah ⟨d,.indexAddr t x y,ty,ps,bl,g⟩ A (fI ad (i*sz)):=λw H=>by
  obtain⟨p,rfl,C⟩:=hr.rd.xl H (by intro e;rw[e]at u;cases u)
  obtain⟨af,V,W⟩:=p
  simp only at C;subst C
  simp[execOp,XJ,O,Q,asIntOf,hX N,D,iC,fI]
theorem jZ(E sz:Nat){n:Nat}{j:Int}(O:hd P t E sz=true)(Q:bf ah x=.slice ad n cap)(V:bf ah y=.int .i64 j)[hr:bj A ad vy cs](D:0<=j)(H:j<n)(u:0<cs.length):
    bF P ah ⟨d,.indexAddr t x y,ty,ps,bl,g⟩ A (fI ad (j.toNat*sz)):=λw N=>by
  obtain⟨p,rfl,C⟩:=hr.rd.xl N (by intro e;rw[e]at u;cases u)
  obtain⟨af,W,Z⟩:=p
  simp only at C;subst C
  simp[execOp,XJ,Q,V,asIntOf,hX O,D,H,iC,fI]
theorem mi{s:TypeId}{x:Operand}{f:Nat}{u:Nat}(o:Nat)(aA:wC P s f o=true)(H:bf ah x=fI ad u)[hr:bj A ad vy cs](C:0<cs.length):
    bF P ah ⟨d,.fieldAddr s x f,ty,ps,bl,g⟩ A (fI ad (u+o)):=λw E=>by
  obtain⟨p,rfl,D⟩:=hr.rd.xl E (by intro e;rw[e]at C;cases C)
  obtain⟨af,N,O⟩:=p
  simp only at D;subst D
  have:=(cY (A:=A) (d:=d) (ty:=ty) (ps:=ps) (bl:=bl) (g:=g) o aA (show bf ah x=.pointer (some ⟨af,N+u,none⟩)by rw[H];rfl)) w E
  rw[this];simp[fI,Nat.add_assoc]
theorem F5{x:Operand}{C:Nat}(E:bf ah x=fI ad C)[hr:bj A ad vy cs](u:0<cs.length):
    bF P ah ⟨d,.nilCheck x,ty,ps,bl,g⟩ A (fI ad C):=λw D=>by
  obtain⟨p,rfl,H⟩:=hr.rd.xl D (by intro e;rw[e]at u;cases u)
  simp[execOp,E,fI]
theorem dk{t:TypeId}{x:Operand}{o:Nat}{v:Value}(N:mv P t=true)(O:bf ah x=fI ad o)[hr:bj A ad E cs](hv:cs[o]? =some v):
    bF P ah ⟨d,.load t x,ty,ps,bl,g⟩ A v:=λw H=>by
  rcases hr.rd.sat H with h|⟨p,pre,Z,Q,rfl,u,C⟩
  · rw[h]at hv;simp at hv
  · have D:o<cs.length:=(List.getElem?_eq_some_iff.1 hv).1
    obtain⟨af,V,W⟩:=p
    simp only[Xu,true_and]at u
    obtain⟨rfl,rfl⟩:=u
    have:=AB (P:=P) (off:=pre.length+o) N C (v:=v) (by
      rw[VJ,YC U,WL,WG D];exact hv)
    simp[execOp,Instr.loadAt,O,fI,WP,this]
theorem gp{t:TypeId}{x:Operand}{o:Nat}{vs:List Value}(n:Nat)(H:qp P t n=true)(N:bf ah x=fI ad o)[hr:bj A ad E cs](hv:(cs.drop o).take n=vs)(an:vs.length=n)(Q:0<n):
    bF P ah ⟨d,.load t x,ty,ps,bl,g⟩ A (.agg vs.toArray):=λw D=>by
  have hlen:o+n<=cs.length:=by
    rw[<-hv]at an;simp only[List.length_take,W8]at an;omega
  rcases hr.rd.sat D with h|⟨p,pre,Z,O,rfl,u,C⟩
  · rw[h]at hlen;simp at hlen;omega
  · obtain⟨af,V,W⟩:=p
    simp only[Xu,true_and]at u
    obtain⟨rfl,rfl⟩:=u
    have:=AA (P:=P) (off:=pre.length+o) H C (vs:=vs) (by
      rw[VJ,XI,Wy U,WL,VK,Yj U,WM rL];exact hv) an
    simp[execOp,Instr.loadAt,N,fI,WP,this]
theorem cn.post{o:Oper}{sj:Value->av->Prop}(h:cn r P ah o A sj)(O:∀v u,sj v u->∃d,aE u d/\K v d):cn r P ah o A K:=
  λa w x y=>Oper.wpIn_mono (λ_ _ ⟨v,C,D,E,H,N⟩=>by obtain⟨d,e,k⟩:=O v C N;exact⟨v,d,D,E,H.bk e,k⟩) (h a w x y)
theorem cn.ex{o:Oper}{α:Type}{B:α->av}{rest:List av}(h:∀x,cn r P ah o (ag (B x::rest)) K):cn r P ah o (ag (e7 B::rest)) K:=λa w he D=>by
  obtain⟨N,E,p,H,d,rfl,⟨z,u⟩,C⟩:=D
  exact h z a w he ⟨_,E,p,H,d,rfl,u,C⟩
theorem cn.pure{o:Oper}{p:Prop}{B:av}{rest:List av}(h:p->cn r P ah o (ag (B::rest)) K):cn r P ah o (ag (pure' p B::rest)) K:=λa w he D=>by
  obtain⟨O,E,H,N,d,rfl,⟨z,u⟩,C⟩:=D
  exact h z a w he ⟨_,E,H,N,d,rfl,u,C⟩
theorem ej{hs rest:List av}{t:TypeId}{x y:Operand}{o sz D:Nat}{w vs:List Value}{v:Value}(n:Nat)(V:q0 P t n=true)(Z:bf ah x=fI ad o)(aq:bf ah y=v)
    (Q:v.cells.toList=vs) (O:vs.all VP=true) (an:WE vs.length n=true) (au:0<n) [C:pe hs ad E sz D cap cs rest] (hlen:o+n<=cs.length) (H:dC o vs cs=w) (k:K undef (ag (aX E sz ad D cap w::rest))):
    cn r P ah ⟨d,.store t x y,ty,ps,bl,g⟩ (ag hs) K:=by
 obtain⟨i,C⟩:=C.tk;have an:=VB an;refine cn.bk (fC C) (show cn r P ah _ (ag (aX E sz ad D cap cs::rest)) K from ?_)
 cases ad with
 | none=>exact cn.pure λ⟨_,_,e⟩=>by rw[e]at hlen;simp at hlen;omega
 | some p=>
   refine cn.ex λ⟨pre,u⟩=>cn.pure λ⟨f1,f2,f3,f4,f5⟩=>?_
   obtain⟨af,aB,aH⟩:=p
   simp only[Xu,true_and]at f1 f5
   obtain⟨rfl,rfl⟩:=f1
   have W:o+vs.length<=cs.length:=U
   have N:dC (pre.length+o) vs (pre++cs++u)=pre++w++u:=by
     subst H
     unfold dC
     rw[VJ pre cs u,List.take_append,VU U,WL,Nat.add_assoc,XI,Wy U,WL,VK,
       WM U,Yj U]
     simp[VJ]
   refine cn.post (sj:=λv A=>v=undef/\A=ag (aj af E (pre++w++u)::rest))
     (GA 0 (hs:=aj af E (pre++cs++u)::rest) (b:=af) (off:=pre.length+o) (by rw[Z];rfl) rfl aq Q O V an rL N ⟨rfl,rfl⟩) ?_
   rintro v ar ⟨rfl,rfl⟩
   refine⟨_,dR (hM λh x=>?_) (VZ _),k⟩
   have az:w.length=cs.length:=by rw[<-H];exact u9 W
   exact⟨(pre,u),⟨rfl,by omega,f3,f4,by simp only[];omega⟩,x⟩
end
end Go.QM
namespace Go.QM
open Go
def ru(P:Program)(E sz bytes:Nat):Bool:=match P.info? E with
  | some i=>WE i.size sz&&WE i.bytes bytes&&(match i.zero with|some z=>WE z.cells.size sz|none=>false)
  | none=>false
theorem tZ{P:Program}{E sz bytes:Nat}(h:ru P E sz bytes=true):∃i z,P.info? E=some i/\i.zero=some z/\i.size=sz/\i.bytes=bytes/\z.cells.size=sz:=by unfold ru at h;cases w:P.info? E with|none=>rw[w]at h;cases h|some i=>rw[w]at h;simp only[VR]at h;obtain⟨⟨C,D⟩,d⟩:=h;(cases u:i.zero with|none=>rw[u]at d;cases d|some z=>rw[u]at d;exact⟨i,z,rfl,u,VB C,VB D,VB d⟩)
section
variable {r : Option Nat} {P : Program} {N : Nat} {ops : Array Oper} {l : List Oper} {Q : fk} {ah : Env} {aQ : List Deferred} {A : av} {K : Value → av → Prop}
variable {d : Option Tmp} {ty : TypeId} {ps : String} {bl : Array Edge} {g : Option (Nat × Bool)}
variable {t t' : TypeId} {x y : Operand} {k : IntKind} {a b c : Int}
theorem qA{w:World}{E:Nat}{ad:Option Addr}{cs:List Value}{m sz c:Nat}(h:cs=[]\/∃p pre C d,ad=some p/\p=⟨p.block,pre.length,none⟩/\w.heap[p.block]? =some (.cells (pre++cs++C).toArray E d))(hm:m*sz<=cs.length):
    (VG sz m (.slice ad m c)).run P w=.ok (cs.take (m*sz)).toArray w:=by by_cases D:m*sz=0;cases ad<;>simp[VG,D,loadCells,loadCellsFrom];rcases h with h|⟨p,pre,C,d,rfl,u,H⟩;simp_all;refine run_firstCells_some w sz m p m c _ (by simp[Xe hm]) (λj v N=>?_);obtain⟨af,O,Q⟩:=p;simp only[Xu,true_and]at u;obtain⟨rfl,rfl⟩:=u;rw[iC,y6 H];grind
theorem ap{hs rest:List av}{E sz n cap bd m Q:Nat}{ad N:Option Addr}{cs W news:List Value}(bytes:Nat)(aB:hd P t E sz=true)(aH:hd P t' E sz=true)(bR:ru P E sz bytes=true)
    (aL:bf ah x=.slice ad n cap) (aQ:bf ah y=.slice N m Q) [ar:pe hs ad E sz n cap cs rest] [hr:bj (ag rest) N bd W] (hm:m*sz<=W.length) (bb:W.take (m*sz)=news) (bp:news.all VP=true)
    (bt:(n+m)*bytes<=140737488355328) (b0:n+m<=maxLen) (k:∀a0 a2,K (.slice a0 (n+m) a2) (ag (aX E sz a0 (n+m) a2 (cs++news)::rest))):
    cn r P ah ⟨d,.call ⟨.builtin .append,#[x,y],#[t,t']⟩,ty,ps,bl,g⟩ (ag hs) K:=by
 obtain⟨i,ar⟩:=ar.tk;obtain⟨inf,z,a8,cc,cj,bE,ce⟩:=tZ bR;refine cn.bk (fC ar) (show cn r P ah _ (ag (aX E sz ad n cap cs::rest)) K from ?_);have V:news.length=m*sz:=cr
 have a9:¬((n+m:Nat):Int)>IntKind.i64.max:=(by have:maxLen=9223372036854775807:=rfl;(have e:IntKind.i64.max=9223372036854775807:=by decide);omega);have b6:∀w,(Go.typeInfo E).run P w=.ok inf w:=λw=>by simp[typeInfo,a8]
 have cg:∀w,(Go.zeroValue E).run P w=.ok z w:=λw=>by simp[zeroValue,typeInfo,a8,cc]
 -- the grown slice
 have grow:∀(w:World),sat w (ag rest)->cap<n+m->cs.length=n*sz->(∀C:World,C.heap=w.heap->(VG sz n (.slice ad n cap)).run P C=.ok cs.toArray C)->
     ∃v C aW,((execOp (bf ah) ⟨d,.call ⟨.builtin .append,#[x,y],#[t,t']⟩,ty,ps,bl,g⟩).run P w=.ok (.value v) C\/((execOp (bf ah) ⟨d,.call ⟨.builtin .append,#[x,y],#[t,t']⟩,ty,ps,bl,g⟩).run P w=.ok .skip C/\v=undef))/\fv w C/\sat C aW/\K v aW:=by
   intro w D bW a4 hold
   have O:(VG sz m (.slice N m Q)).run P w.drew=.ok news.toArray w.drew:=by
     rw[<-bb];exact qA (hr.rd.sat (w:=w.drew) D) hm
   have bS:=hold w.drew rfl
   have b1:¬(Builtin.nextslicecap (n+m) cap*inf.bytes>2^48):=by
     have:=growslice_fits (need:=n+m) (old:=cap) (bytes:=inf.bytes) bW (by rw[bE];exact bt)
     omega
   have bY:=grownCap_ge w (n+m) cap E
   have bK:=grownCap_le_maxLen w (n+m) cap E b0
   have ci:¬(((n+m:Nat):Int)>IntKind.i64.max/\(false=true\/inf.bytes=0)):=λ⟨h,_⟩=>a9 h
   refine⟨.slice (some ⟨w.heap.size,0,none⟩) (n+m) (grownCap w (n+m) cap E),w.drew.alloc (.cells (cs.toArray++news.toArray++VH z.cells (grownCap w (n+m) cap E-(n+m))) E),_,.inl ?_,⟨rfl,rfl,rfl,by simp⟩,?_,k _ _⟩
   · simp only[execOp,resolve,invoke,builtin,Ye,XB,VO,Xa,VA,VV,Vs,aL,aQ,List.getElem?_toArray,YS,WO,hX aB,hX aH,XS,X1,if_false]
     rw[al U]
     simp only[VA,b6,Vs,false_or,al b1,VV,a9,false_and,if_false,run_choose,Question.forced,X1,run_askRoom,Bool.not_false,if_true]
     change Xv (Xv (Sem.run P (VG sz n (.slice ad n cap)) w.drew) _) _=_
     simp only[bS,O,cg,Vs,newRow,VA,run_newObj,VV]
     rfl
   · have b2:=oU (.cells (cs.toArray++news.toArray++VH z.cells (grownCap w (n+m) cap E-(n+m))) E) (show sat w.drew (ag rest)from D)
     refine b2.bk (dR (hM λh aq=>?_) (VZ _))
     refine⟨([],(VH z.cells (grownCap w (n+m) cap E-(n+m))).toList),⟨rfl,?_,bY,bK,?_⟩,?_⟩
     · simp[a4,V,V9]
     · simp only[mp,a4,V,Array.length_toList,size_zeroCells,ce,<-V9]
       exact VT _ U
     · simp only[aj]
       have e:([]++(cs++news)++(VH z.cells (grownCap w (n+m) cap E-(n+m))).toList).toArray=cs.toArray++news.toArray++VH z.cells (grownCap w (n+m) cap E-(n+m)):=by
         apply Array.ext';simp
       rw[e];exact aq
 cases ad with|none=>refine cn.pure λ⟨Z,an,be⟩=>cn.run rfl λw D=>?_;subst Z an be;have D:=D.bk qV;by_cases bi:m=0;subst bi;refine⟨.slice none 0 0,w,ag (aX E sz none (0+0) 0 ([]++news)::rest),.inl ?_,fv.refl w,D.bk (dG E sz rest|>.trans ?_),by simpa using k none 0⟩;(have O:(VG sz 0 (.slice N 0 Q)).run P w=.ok #[] w:=by cases N<;>simp[VG,loadCells,loadCellsFrom]);simp[execOp,resolve,invoke,builtin,Ye,aL,aQ,hX aB,hX aH,XS,O];have:news=[]:=Xi (by simpa using V);subst this;exact VZ _;exact grow w D U cG (λC _=>by simp[VG])|some p=>refine cn.ex λ⟨pre,H⟩=>cn.pure λ⟨f1,f2,f3,f4,f5⟩=>cn.run rfl λw D=>?_;obtain⟨af,ck,cl⟩:=p;simp only[Xu,true_and]at f1 f5;obtain⟨rfl,rfl⟩:=f1;have a3:w.heap[af]? =some (.cells (pre++cs++H).toArray E (0,0)):=(iB (nb af E _)).sat D;have bc:=D.bk qV;by_cases au:n+m<=cap;have O:(VG sz m (.slice N m Q)).run P w=.ok news.toArray w:=(by rw[<-bb];exact qA (hr.rd.sat bc) hm);have a5:pre.length+n*sz+news.length<=(pre++cs++H).length:=(by have:(n+m)*sz<=cap*sz:=VT _ au;rw[V9]at this;simp only[mp];omega);have az:=run_storeCells_at P af (pre.length+n*sz) E news 0 (pre++cs++H).toArray w a3 (by simpa using a5) (λu hu=>by simpa using List.all_eq_true.1 bp u hu);have Z:(List.take (pre.length+n*sz+0) (pre++cs++H)++news++List.drop (pre.length+n*sz+0+news.length) (pre++cs++H))=pre++(cs++news)++H.drop news.length:=(by(have an:pre.length+n*sz+0=(pre++cs).length:=by simp[f2]);rw[an,List.take_left,XI,Wy U];simp);dsimp only at az;rw[Z]at az;refine⟨.slice (some ⟨af,pre.length,none⟩) (n+m) cap,w.setRow af (pre++(cs++news)++H.drop news.length).toArray,ag (aX E sz (some ⟨af,pre.length,none⟩) (n+m) cap (cs++news)::rest),.inl ?_,⟨rfl,rfl,rfl,by simp⟩,?_,k _ _⟩;simp only[execOp,resolve,invoke,builtin,Ye,XB,VO,Xa,VA,VV,Vs,aL,aQ,List.getElem?_toArray,YS,WO,hX aB,hX aH,XS,X1,if_false];rw[ax au];simp only[VA,Bool.not_false,if_true,O,Vs,iC,az,VV];refine(xL (l':=pre++(cs++news)++H.drop news.length) D).bk (dR (hM λh aq=>?_) (VZ _));refine⟨(pre,H.drop news.length),⟨rfl,by simp[f2,V,V9],au,f4,?_⟩,aq⟩;simp only[mp,W8];simp only[mp]at a5;omega;exact grow w bc U f2 (λC hw=>by(have bD:C.heap[af]? =some (.cells (pre++cs++H).toArray E (0,0)):=by rw[hw];exact a3);have:=qA (P:=P) (w:=C) (E:=E) (ad:=some ⟨af,pre.length,none⟩) (cs:=cs) (m:=n) (sz:=sz) (c:=cap) (.inr ⟨_,pre,H,(0,0),rfl,rfl,bD⟩) U;rw[VU U]at this;exact this)
def qx(ah:Env):List (Nat×Operand)->List (Nat×Value)
  | []=>[]
  | (i,x)::l=>(i,bf ah x)::qx ah l
theorem D4(d:Env)(l:List (Nat×Operand)):l.map (λ(i,x)=>(i,bf d x))=qx d l:=by induction l with|nil=>rfl|cons x l u=>simp[qx,u]
theorem Ha(z:List Value):∀(n i:Nat),i<n*z.length->(Vw n z).flatten[i]? =z[i %z.length]?
  | 0,i,h=>by simp at h
  | n+1,i,h=>by
   rw[List.replicate_succ,List.flatten_cons];have u:0<z.length:=by rcases Nat.eq_zero_or_pos z.length with e|e<;>first|exact e|(rw[e]at h;simp at h)
   by_cases d:i<z.length;rw[WG d,Nat.mod_eq_of_lt d];have d:=Nat.le_of_not_lt d;rw[YC d,Ha z n (i-z.length) (by rw[V9]at h;omega),Nat.mod_eq_sub_mod d]
theorem Ct(z:Array Value)(n:Nat):(Array.range (n*z.size)).map (z[· %z.size]!)=(Vw n z.toList).flatten.toArray:=by apply Array.ext';apply List.ext_getElem?;intro i;by_cases d:i<n*z.size;grind[Ha,Nat.mod_lt];simp_all
def Df (P:Program) (t len:Nat) (parts:List (Nat×Value)):Option (Nat×Nat×List Value):=match P.underlying t with
  | some (.slice e)=>match P.info? e with
    | some i=>
      match bif Nat.ble (len*i.size) 16777216 then i.zero else none with
      | some z=>match(bif WE z.cells.size i.size then Instr.fill (λj=>some (j*i.size,i.size)) (Vw len z.cells.toList).flatten.toArray parts else none)with
        | some cells=>bif WE cells.toList.length (len*i.size)&&Nat.ble len maxLen then some (e,i.size,cells.toList)else none
        | none=>none
      | none=>none
    | none=>none
  | _=>none
theorem bs{hs:List av}{t len E sz:Nat}{parts:List (Nat×Operand)}{cs:List Value}(C:Df P t len (qx ah parts)=some (E,sz,cs))
    (k:∀b,K (.slice (some ⟨b,0,none⟩) len len) (ag (aX E sz (some ⟨b,0,none⟩) len len cs::hs))):cn r P ah ⟨d,.buildSlice t len parts.toArray,ty,ps,bl,g⟩ (ag hs) K:=by unfold Df at C;cases hu:P.underlying t with|none=>rw[hu]at C;cases C|some u=>rw[hu]at C;(cases u<;>first|(cases C;done)|skip);rename_i e;simp only[]at C;(cases O:P.info? e with|none=>rw[O]at C;cases C|some inf=>rw[O]at C;simp only[]at C;(cases V:Nat.ble (len*inf.size) 16777216 with|false=>rw[V]at C;cases C|true=>rw[V,cond_true]at C;have Z:¬(len*inf.size>2^24):=(by have:=Nat.le_of_ble_eq_true V;(have e:2^24=16777216:=by decide);omega);(cases W:inf.zero with|none=>rw[W]at C;cases C|some z=>rw[W]at C;simp only[]at C;split at C;rename_i cells aA;have H:(WE cells.toList.length (len*inf.size)&&Nat.ble len maxLen)=true:=(by cases H:(WE cells.toList.length (len*inf.size)&&Nat.ble len maxLen)with|false=>rw[H]at C;cases C|true=>rfl);rw[H]at C;simp only[cond_true,WU,Prod.mk.injEq]at C;obtain⟨rfl,rfl,rfl⟩:=C;simp only[VR]at H;obtain⟨ar,hm⟩:=H;have hlen:=VB ar;refine cn.run rfl λw az=>⟨.slice (some ⟨w.heap.size,0,none⟩) len len,w.alloc (.cells cells e),_,.inl ?_,⟨rfl,rfl,rfl,by simp⟩,(oU _ az).bk (dR (hM λh aq=>?_) (VZ _)),k w.heap.size⟩;have D:WE z.cells.size inf.size=true:=(by cases an:WE z.cells.size inf.size with|false=>rw[an]at aA;cases aA|true=>rfl);rw[D,cond_true]at aA;have D:=VB D;(have gj:∀w,(underlying t).run P w=.ok (.slice e) w:=λw=>by simp[underlying,hu]);(have aB:∀w,(Yc e).run P w=.ok inf.size w:=λw=>by simp[Yc,typeInfo,O]);have au:List.map (λx=>match x with|(i,x)=>(i,bf ah x)) parts=qx ah parts:=D4 ah parts;simp only[execOp,Instr.buildSlice,XB,VA,gj,aB,Vs,au];rw[al Z];(have aH:∀w,(zeroValue e).run P w=.ok z w:=λw=>by simp[zeroValue,typeInfo,O,W]);by_cases N:len*inf.size=0;rw[ax N];have Q:(Array.range (len*inf.size)).map ((#[]:Array Value)[· %(#[]:Array Value).size]!)=(Vw len z.cells.toList).flatten.toArray:=(by rw[N];have:((Vw len z.cells.toList).flatten)=[]:=Xi (by simp[D,N]);rw[this];apply Array.ext<;>simp);simp only[VA,Vs,VV,Q,aA,newRow,run_newObj];rfl;rw[al N];have Q:=Ct z.cells len;rw[D]at Q;simp only[VA,Vs,VV,aH,D,Q,aA,newRow,run_newObj];rfl;refine⟨([],[]),⟨rfl,hlen,Vm _,by simpa using hm,by simp only[List.length_nil];omega⟩,?_⟩;simp only[aj,VK,Wa,Array.toArray_toList];exact aq;cases C)))
theorem AM{hs:List av}{E n:Nat}{z:Value}(bytes:Nat)(N:hd P t E 1=true)(O:ru P E 1 bytes=true)(aW:ly P E=some z)(a0:z.cells=#[z])(Z:bf ah x=.int .i64 (n:Int))(an:bf ah y=.int .i64 (n:Int))(az:bytes*n<=281474976710656)(hm:n<=maxLen)
    (k:∀b,K (.slice (some ⟨b,0,none⟩) n n) (ag (aX E 1 (some ⟨b,0,none⟩) n n (Vw n z)::hs))):cn r P ah ⟨d,.makeSlice t x y,ty,ps,bl,g⟩ (ag hs) K:=by
 obtain⟨inf,u,H,aq,aQ,aH,a2⟩:=tZ O;have au:u=z:=by grind[ly]
 subst au;have aL:maxLen=9223372036854775807:=rfl;have hw:IntKind.i64.wrap (n:Int)=n:=by grind[nK]
 have D:((Array.range n).map ((if n=0 then #[]else u.cells)[· %(if n=0 then(#[]:Array Value)else u.cells).size]!))=(Vw n u).toArray:=cr;have aB:((inf.bytes:Int)*(n:Int))<=281474976710656:=cr;have W:(decide ((n:Int)<0)||decide ((inf.bytes:Int)*(n:Int)>2^48))=false:=b4;refine cn.run rfl λw V=>⟨.slice (some ⟨w.heap.size,0,none⟩) n n,w.alloc (.cells (Vw n u).toArray E),_,.inl ?_,⟨rfl,rfl,rfl,by simp⟩,(oU _ V).bk (dR (hM λh Q=>?_) (VZ _)),k w.heap.size⟩;have ar:∀w,(zeroValue E).run P w=.ok u w:=λw=>by simp[zeroValue,typeInfo,H,aq]
 simp only[execOp,Instr.makeSlice,VA,hX N,Vs,Z,an,asInt,asIntOf,VV,typeInfo,run_program,H,hw,W];rw[al cG];simp only[VA,run_askRoom,hX N,Vs,Int.toNat_natCast,Nat.mul_one];by_cases C:n=0;rw[ax C];simp only[ax C]at D;simp only[VA,Vs,VV,D,newRow,run_newObj];trivial;rw[al C];simp only[al C]at D;simp only[VA,Vs,VV,ar,D,newRow,run_newObj];trivial;refine⟨([],[]),⟨rfl,by simp,Vm _,hm,by simp⟩,?_⟩;simp only[aj,VK,Wa];exact Q
def rQ (P:Program):List Field->Option (List (Nat×Nat))
  | []=>some []
  | f::pC=>match P.info? f.type,rQ P pC with
    | some i,some r=>some ((f.offset,i.size)::r)
    | _,_=>none
theorem GN:∀{d:List Field} {r:List (Nat×Nat)},rQ P d=some r->∀w,(d.mapM (m:=Sem) λf=>do pure (f.offset,<-Yc f.type)).run P w=.ok r w
  | [],_,h,w=>by simp only[rQ,WU]at h;subst h;simp
  | f::d,r,h,w=>by simp only[rQ]at h;cases u:P.info? f.type with|none=>rw[u]at h;cases h|some i=>(cases C:rQ P d with|none=>rw[u,C]at h;cases h|some E=>rw[u,C]at h;simp only[WU]at h;subst h;(have D:(Yc f.type).run P w=.ok i.size w:=by simp[Yc,typeInfo,u]);simp only[List.mapM_cons,VA,VV,D,Vs,GN C w])
def Db (P:Program) (t:TypeId) (parts:List (Nat×Value)):Option (List Value):=match P.underlying t,ly P t with
  | some (.struct pC),some z=>match rQ P pC.toList with
    | some r=>(Instr.fill (r[·]?) z.cells parts).map (·.toList)
    | none=>none
  | _,_=>none
theorem ek{parts:List (Nat×Operand)}{cs:List Value}(C:Db P t (qx ah parts)=some cs):bF P ah ⟨d,.build t parts.toArray,ty,ps,bl,g⟩ A (.agg cs.toArray):=by intro w _;unfold Db at C;cases hu:P.underlying t with|none=>rw[hu]at C;cases C|some u=>(cases H:ly P t with|none=>rw[hu,H]at C;cases u<;>cases C|some z=>rw[hu,H]at C;(cases u<;>first|(cases C;done)|skip);rename_i D;simp only[]at C;(cases E:rQ P D.toList with|none=>rw[E]at C;cases C|some N=>rw[E]at C;simp only[Option.map_eq_some_iff]at C;obtain⟨cells,aA,rfl⟩:=C;(have gj:(underlying t).run P w=.ok (.struct D) w:=by simp[underlying,hu]);have hm:(D.mapM (m:=Sem) λf=>do pure (f.offset,<-Yc f.type)).run P w=.ok N.toArray w:=(by(have e:D=D.toList.toArray:=by simp);rw[e,List.mapM_toArray];simp only[Sem.run_map];have:=GN E w;exact(congrArg (λx=>Xv x _) this));have Q:List.map (λx=>match x with|(i,x)=>(i,bf ah x)) parts=qx ah parts:=D4 ah parts;(have O:Instr.fill (λx=>N.toArray[x]?) z.cells (qx ah parts)=some cells:=by simpa using aA);simp only[execOp,Instr.build,XB,Q,VA,vu H,Vs,gj,hm,O,VV,Array.toArray_toList]))
theorem uD{fn:Fn}{u cs:List Operand}{tj ti:List Value}(aA:lQ ah u=tj)(C:lQ ah cs=ti):bF P ah ⟨d,.makeFunc fn u.toArray cs.toArray,ty,ps,bl,g⟩ A (.func fn tj.toArray ti.toArray):=by intro w _;simp[execOp,Instr.makeFunc,zz,aA,C]
end
end Go.QM
namespace Go.QM
open Go
def rj (P:Program) (l:Nat) (args:List Value) (A:av) (R:Bool->av->Prop):Prop:=
  ∀ w,sat w A->∃fn tmps assign body,(Instr.yield l args.toArray).run P w=.ok (.round l fn tmps assign body) w/\
    RoundIn YE 0 P l fn tmps assign body w (λe hZ=>∃b a8,e=.returned (.bool b)/\fv w hZ/\sat hZ a8/\R b a8)
def ra (P:Program) (ug:FuncId) (lb:List Value) {α:Type} (zv:α->List Value) (ok:List α->α->Prop) (pre:List av) {Y:Type} (xs:Y->List α) (φ:Y->Prop) (post:Y->List av):Prop:=
  lO P ug=true/\∀(l:Nat) (bP:List α->av),
    (∀yZ x G,ok yZ x->rj P l (zv x) (sep (bP yZ) G) (λb a8=>b=true/\a8=sep (bP (yZ++[x])) G))->
    ∀ w,sat w (sep (ag pre) (bP []))->
      CallsIn YE 0 P ug (Yg (.yield l) #[] #[]::lb).toArray w (λe hZ=>∃v y,e=.returned v/\φ y/\fv w hZ/\sat hZ (sep (ag (post y)) (bP (xs y))))
section
variable {r : Option Nat} {P : Program} {N : Nat} {ops : Array Oper} {Q : fk} {ah : Env} {aQ : List Deferred} {A : av} {K : Value → av → Prop}
variable {d : Option Tmp} {ty : TypeId} {ps : String} {bl : Array Edge} {g : Option (Nat × Bool)}
theorem Cf{C:Operand}{l:Nat}{vs:List Value}{u:List Operand}{D:Array TypeId}(i:Nat){hs rest:List av}{B:av}{R:Bool->av->Prop}(E:rj P l vs (sep B (ag rest)) R)
    (V:bf ah C=.func (.yield l) #[] #[]) (Q:lQ ah u=vs) (H:eU i hs=some (B,rest)) (k:∀b a8,R b a8->K (.bool b) a8):
    cn r P ah ⟨d,.call ⟨.value C,u.toArray,D⟩,ty,ps,bl,g⟩ (ag hs) K:=by intro a w he O;refine⟨λ_ _=>trivial,?_⟩;rw[rW _ kG,he];obtain⟨fn,tmps,assign,body,W,aO⟩:=E w (O.bk (fC H));have N:(execOp (bf ah) ⟨d,.call ⟨.value C,u.toArray,D⟩,ty,ps,bl,g⟩).run P w=.ok (.round l fn tmps assign body) w:=(by grind[execOp,resolve,Deferred.ofValue,invoke,zz]);rw[N];refine⟨vz r,?_⟩;refine RoundIn.mono (show RoundIn (mM r) (0-1) P l fn tmps assign body w _ from aO) ?_;grind
def JU{α Y:Type}(bP:List α->av)(xs:Y->List α)(φ:Y->Prop)(post:Y->List av):fk
  | .ret,_,aQ,A|.normal,_,aQ,A=>aQ=[]/\∃y,φ y/\aE A (ag (bP (xs y)::post y))
  | _,_,_,_=>False
theorem ra.intro{u:FuncId}{lb:List Value}{α:Type}{O:α->List Value}{ok:List α->α->Prop}{pre:List av}{Y:Type}{xs:Y->List α}{φ:Y->Prop}{post:Y->List av}{fn:Func}{c:Code}
    (he:lO P u=true) (aA:P.funcs[u]? =some fn) (aq:fn.body=some c) (br:fn.ntmps=N) (aH:Nat.ble (lb.length+1) N=true) (au:fn.results=#[])
    (h:∀(l:Nat) (bP:List α->av),(∀d x G,ok d x->rj P l (O x) (sep (bP d) G) (λb a8=>b=true/\a8=sep (bP (d++[x])) G))->
      ab none P N c (JU bP xs φ post) (n2 (Yg (.yield l) #[] #[]::lb)) [] (ag (bP []::pre))):ra P u lb O ok pre xs φ post:=by
 refine⟨he,λl bP an w az=>?_⟩;have ar:lb.length+1<=N:=b4
 refine callsIn_of_wp aA aq trivial (wpIn_mono (h l bP an _ w ?_ (az.bk nC)) ?_) rfl;refine⟨by simp[br,ar],λt=>?_,rfl⟩;simp only[n2,Wm,Wh,XN];grind;rintro e ah Z ⟨s,aL,aB,a8,Q,V,C⟩;have W:(results fn ah.tmps).run P Z=.ok (.tuple #[]) Z:=by simp[results,au]
 cases e with|ret=>obtain⟨D,y,E,H⟩:=C;exact⟨by rw[Q.defers,D],_,W,_,y,rfl,E,s,V.bk (H.trans nC)⟩|normal=>obtain⟨D,y,E,H⟩:=C;exact⟨by rw[Q.defers,D],_,W,_,y,rfl,E,s,V.bk (H.trans nC)⟩|_=>exact C.elim
def r5(ah:Env):List Nat->List Value->Env
  | p::ps,v::vs=>r5 (hG ah p v) ps vs
  | _,_=>ah
theorem ck.zip{a:Act}:∀(ps:List Nat) (vs:List Value) {ah:Env} {tmps:Array Value},ck N ⟨tmps,[]⟩ ah []->ps.all (λp=>Xc p N)=true->
    ck N ⟨(ps.zip vs).foldl (λt (x:Nat×Value)=>t.setIfInBounds x.1 x.2) tmps,[]⟩ (r5 ah ps vs) []
  | [],_,_,_,h,_=>h
  | _::_,[],_,_,h,_=>h
  | p::ps,v::vs,ah,tmps,h,br=>by simp only[List.all_cons,Bool.and_eq_true]at br;simp only[List.zip_cons_cons,List.foldl_cons,r5];exact ck.zip (a:=a) ps vs (ck.put (d:=some p) h br.1 v) br.2
theorem qT{w:World}{A:av}{b:Nat}{o:Obj}(d:Obj)(h:sat w (sep (obj b o) A)):sat (w.putObj b d) (sep (obj b d) A):=by have u:w.heap[b]? =some o:=(iB (jf b o)).sat h;grind[u0,World.putObj_heap_same,World.putObj_heap_other]
theorem pa(w:World)(b:Nat)(o:Obj):fv w (w.putObj b o):=⟨rfl,rfl,rfl,by simp⟩
theorem ab.G2{α Y:Type}{V:FuncId}{lb:List Value}{go:Operand}{C:List Nat}{assign body:Code}{hs pre ei rest:List av}{u:α->List Value}{ok:List α->α->Prop}{xs:Y->List α}{φ:Y->Prop}{post:Y->List av}
    (bP:List α->List av) (iter:ra P V lb u ok pre xs φ post) (bS:bf ah go=.func (.func V) #[] lb.toArray) (b2:lF hs pre ei) (gD:lF ei (bP []) rest)
    (hlen:∀x,(u x).length=C.length) (b6:C.all (λp=>Xc p N)=true)
    (bt:∀(l:Nat) d x F,ok d x->ab (some l) P N assign (pc (λcz bc bb=>bc=[]/\aE bb (ag (bP d++[F]))/\
      ∀aB,ab (some l) P N body (λe _ aH az=>e=.normal/\aH=[]/\aE az (ag (bP (d++[x])++[aB]))) cz [] (ag (bP d++[aB]))) (λ_ _ _ _=>False)) (r5 ah C (u x)) [] (ag (bP d++[F])))
    (k:∀D y,φ y->Q .normal ah ({target:=.collected D,args:=#[]}::aQ) (ag (post y++(bP (xs y)++(obj D (.deferred (some []))::rest))))):
    ab none P N (.rangeFunc go C.toArray assign body) Q ah aQ (ag hs):=by
 intro a w E cJ;refine wpIn_rangeFunc ?_;intro fn _;obtain⟨rec,H⟩:∃rec:LoopState->Loop,rec=λst=>{state:=st,pending:=none,fn,tmps:=a.tmps,params:=C.toArray,assign,body,defers:=w.heap.size}:=⟨_,rfl⟩;obtain⟨dv,aW⟩:∃dv,(w.alloc (.deferred (some []))).alloc (.loop (rec .ready))=dv:=⟨_,rfl⟩;obtain⟨D,aM⟩:∃D,w.heap.size=D:=⟨_,rfl⟩;have cq:sat dv (sep (obj (D+1) (.loop (rec .ready))) (sep (obj D (.deferred (some []))) (ag hs))):=(by grind[oU,Ys]);have cu:fv w dv:=by rw[<-aW];exact⟨rfl,rfl,rfl,by simp only[Ys];omega⟩
 let R:av:=sep (obj D (.deferred (some []))) (ag rest);let O:List α->av:=λd=>sep (ag (bP d)) (sep (obj (D+1) (.loop (rec .ready))) R);refine⟨D+1,[{target:=.collected D,args:=#[]}],dv,{target:=.fn (.func V) lb.toArray,args:=#[.func (.yield (D+1)) #[] #[]]},dv,V,(Yg (.yield (D+1)) #[] #[]::lb).toArray,dv,?_,?_,λ_ _=>trivial,?_,vz none,?_⟩;rw[<-aW,H,<-aM];exact run_enterLoop_outer _ _ _ _ _;have:a.eval go=.func (.func V) #[] lb.toArray:=by rw[E.eval];exact bS
 simp only[resolve,this,Deferred.ofValue];simp[Act.eval];simp[invoke,zw iter.1]
 have cl:∀d x G,ok d x->rj P (D+1) (u x) (sep (O d) G) (λb a9=>b=true/\a9=sep (O (d++[x])) G):=by
  intro d x G b1 cI a8;have bY:cI.heap[D+1]? =some (.loop (rec .ready)):=(iB (vJ (iB (jf _ _)))).sat a8;have au:=run_yield (P:=P) (args:=(u x).toArray) bY (by rw[H];simp[hlen]);refine⟨_,_,_,_,au,roundIn_of_wpIn trivial ?_⟩;have bR:(((rec .ready).params.zip (u x).toArray).foldl (λtmps (x:Nat×Value)=>tmps.setIfInBounds x.1 x.2) (rec .ready).tmps)=(C.zip (u x)).foldl (λt (x:Nat×Value)=>t.setIfInBounds x.1 x.2) a.tmps:=b4;have cj:ck N ⟨((rec .ready).params.zip (u x).toArray).foldl (λtmps (x:Nat×Value)=>tmps.setIfInBounds x.1 x.2) (rec .ready).tmps,[]⟩ (r5 ah C (u x)) []:=(by rw[bR];exact ck.zip (a:=a) C (u x) ⟨E.size,E.get,rfl⟩ b6)
  have bd:aE (sep (O d) G) (ag (bP d++[sep (obj (D+1) (.loop (rec .ready))) (sep R G)])):=
    pT.trans ((dR (VZ _) pT).trans rX)
  have bj:=bt (D+1) d x (sep (obj (D+1) (.loop (rec .ready))) (sep R G)) b1 _ cI cj (a8.bk bd);have bi:(rec .ready).assign=assign:=b4
  have bp:(rec .ready).body=body:=b4
  rw[bi,bp];refine wpIn_mono (show assign.wpIn (Fence.wide.inRound (D+1)) 0 P _ _ cI from bj) ?_;rintro e a2 an ⟨s2,cL,aH,az,cg,ar,a3⟩;cases e with|normal=>obtain⟨rfl,bE,bW⟩:=a3;have aL:∀st (d:List α),aE (ag (bP d++[sep (obj (D+1) (.loop (rec st))) (sep R G)])) (sep (obj (D+1) (.loop (rec st))) (sep (ag (bP d)) (sep R G))):=λst d=>qU.trans jx;have be:∀st (d:List α),aE (sep (obj (D+1) (.loop (rec st))) (sep (ag (bP d)) (sep R G))) (ag (bP d++[sep (obj (D+1) (.loop (rec st))) (sep R G)])):=λst d=>jx.trans rX;have Z:=(ar.bk bE).bk (aL .ready d);have aq:an.heap[D+1]? =some (.loop (rec .ready)):=(iB (jf _ _)).sat Z;have a0:=run_beginRound (P:=P) aq (by rw[H]);(have bD:({rec .ready with state:=.busy}:Loop)=rec .busy:=by rw[H]);rw[bD]at a0;refine⟨_,a0,?_⟩;have cn:=(qT (.loop (rec .busy)) Z).bk (be .busy d);have bl:=bW (sep (obj (D+1) (.loop (rec .busy))) (sep R G)) a2 _ cg cn;refine wpIn_mono (show body.wpIn (Fence.wide.inRound (D+1)) 0 P _ _ _ from bl) ?_;rintro e a5 cy ⟨cx,cM,cC,cA,cF,co,ce⟩;obtain⟨rfl,rfl,bK⟩:=ce;have a4:=(co.bk bK).bk (aL .busy (d++[x]));have b0:cy.heap[D+1]? =some (.loop (rec .busy)):=(iB (jf _ _)).sat a4;have W:=run_endRound (P:=P) none b0;(have ci:({rec .busy with state:=if(none:Option Code).isNone then .ready else .done,pending:=none}:Loop)=rec .ready:=by rw[H];rfl);rw[ci]at W;refine⟨_,_,W,true,_,rfl,(s2.trans (pa _ _ _)).trans (cx.trans (pa _ _ _)),?_,rfl,rfl⟩;have cp:=qT (.loop (rec .ready)) a4;exact cp.bk (jx.trans ((dR (VZ _) m6).trans m6))|_=>exact a3.elim
 have cv:sat dv (sep (ag pre) (O [])):=(by refine cq.bk ?_;have eB:aE (ag hs) (sep (ag pre) (sep (ag (bP [])) (ag rest))):=b2.trans (dR (VZ _) gD);refine(dR (VZ _) (dR (VZ _) eB)).trans ?_;refine(dR (VZ _) jx).trans (jx.trans (dR (VZ _) ?_));exact(dR (VZ _) jx).trans jx);refine CallsIn.mono (iter.2 (D+1) O cl dv cv) ?_;rintro e an ⟨v,y,rfl,au,s2,ar⟩
 have Z:sat an (sep (obj (D+1) (.loop (rec .ready))) (sep (ag (post y)) (sep (ag (bP (xs y))) R))):=
   ar.bk ((dR (VZ _) jx).trans jx)
 have aq:an.heap[D+1]? =some (.loop (rec .ready)):=(iB (jf _ _)).sat Z;have W:=run_endLoop (P:=P) aq (by rw[H];simp);have cc:(rec .ready).pending=none:=b4
 rw[cc]at W;refine⟨none,_,W,(cu.trans s2).trans (pa _ _ _),ah,_,_,⟨E.size,E.get,by rw[<-E.defers];rfl⟩,?_,k D y au⟩;refine((qT _ Z).bk qV).bk ?_;exact(dR (VZ _) (og (bP (xs y)) (obj D (.deferred (some []))::rest))).trans (og _ _)
def yE(P:Program)(rs:List ResultVar){Y:Type}(res:Y->Value)(φ:Y->Prop)(post:Y->List av)(F:av):fk
  | .ret,ah,aQ,A|.normal,ah,aQ,A=>∃y vs D,aQ=[{target:=.collected D,args:=#[]}]/\rs.all (λx=>match x with|.tmp _=>true|_=>false)=true/\iK P rs vs ah A/\jO vs=res y/\φ y/\aE A (ag (obj D (.deferred (some []))::(post y++[F])))
  | _,_,_,_=>False
theorem CJ:∀{rs:List ResultVar} {vs:List Value} {A B:av},rs.all (λx=>match x with|.tmp _=>true|_=>false)=true->iK P rs vs ah A->iK P rs vs ah B
  | [],[],_,_,_,_=>trivial
  | .tmp t::rs,v::vs,_,_,h,x=>⟨x.1,CJ (by simpa using h) x.2⟩
  | [],_::_,_,_,_,x=>x.elim
  | .tmp _::_,[],_,_,_,x=>x.elim
  | .cell _ _::_,_,_,_,h,_=>by simp at h
theorem eQ.EQ{f:FuncId}{fn:Func}{c:Code}{rs:List ResultVar}{args:List Value}{rd:av->Prop}{pre:List av}{Y:Type}{res:Y->Value}{φ:Y->Prop}{post:Y->List av}
    (he:lO P f=true) (aA:P.funcs[f]? =some fn) (aH:fn.body=some c) (br:fn.ntmps=N) (a3:Nat.ble args.length N=true) (aq:fn.results=rs.toArray)
    (h:∀F,rd F->ab none P N c (λe ah aQ A=>yE P rs res φ post F e ah aQ A\/b7 P rs res φ post F e ah aQ A) (n2 args) [] (ag (pre++[F]))):eQ P f args rd pre res φ post:=by
 refine⟨he,λF aB w a0=>?_⟩;have aL:args.length<=N:=b4
 have key:∀(e:Exit) (O:Act) (d:World) E C u,fv w d->ck N O E C->sat d u->(e=.ret\/e=.normal)->(yE P rs res φ post F e E C u\/b7 P rs res φ post F e E C u)->
     LeavesInM YE 0 P fn O.tmps (λe d=>∃y,e=.returned (res y)/\φ y/\fv w d/\sat d (sep (ag (post y)) F)) O.defers .returning d:=by
   intro e O d E C u s Q V he H
   rw[Q.defers]
   have az:yE P rs res φ post F .ret E C u\/b7 P rs res φ post F .ret E C u:=by rcases he with rfl|rfl<;>exact H
   rcases az with⟨y,vs,D,rfl,a2,bS,W,Z,an⟩|⟨rfl,y,vs,bS,W,Z,an⟩
   · have ar:=V.bk an
     have aW:d.heap[D]? =some (.deferred (some [])):=(iB (jf _ _)).sat ar
     refine⟨by simp,.inl ⟨D,_,rfl,run_takeDeferred aW,?_⟩⟩
     have au:=(qT (.deferred none) ar).bk qV
     exact⟨_,s7 aq Q.get au (CJ a2 bS),y,by rw[W],Z,s.trans (pa _ _ _),au.bk qU⟩
   · exact⟨_,s7 aq Q.get V bS,y,by rw[W],Z,s,V.bk (an.trans qU)⟩
 refine callsIn_of_wp_marks aA aH trivial (wpIn_mono (h F aB _ w ?_ (a0.bk rX)) ?_) rfl;refine⟨by simp[br,aL],λt=>?_,rfl⟩;simp only[n2,Wm,Wh,XN];grind;rintro e O d ⟨s,E,C,u,Q,V,H⟩;cases e with|ret=>exact key .ret O d E C u s Q V (.inl rfl) H|normal=>exact key .normal O d E C u s Q V (.inr rfl) H|_=>rcases H with H|H<;>exact H.elim
end
end Go.QM
namespace Go.QM
open Go
theorem ay{α:Type}{p:α->Prop}{B:α->List av}(x:α)(d:p x){hs gs:List av}(h:aE (ag hs) (ag (B x++gs))):aE (ag hs) (ag (e7 (λx=>pure' (p x) (ag (B x)))::gs)):=
  h.trans ((u2 (B x) gs).trans (dR (hM λ_ a=>⟨x,d,a⟩) (VZ _)))
theorem b9(n:Nat){hs r gs:List av}{A B:av}(h:eU n hs=some (A,r))(e:A=B)(k:aE (ag r) (ag gs)):aE (ag hs) (ag (B::gs)):=by subst e;exact bM n h k
theorem eN(n:Nat){hs r gs:List av}{A B:av}(h:eU n hs=some (A,r))(e:aE A B)(k:aE (ag r) (ag gs)):aE (ag hs) (ag (B::gs)):=
  (fC h).trans (dR e k)
theorem sD(n:Nat){α:Type}{p:α->Prop}{B:α->List av}{hs r:List av}(h:eU n hs=some (e7 (λx=>pure' (p x) (ag (B x))),r)){w:World}(hw:sat w (ag hs)):∃x,p x/\sat w (ag (B x++r)):=by obtain⟨N,D,E,H,d,rfl,⟨z,u,aR⟩,C⟩:=hw.bk (fC h);exact⟨z,u,sat.bk ⟨_,D,E,H,d,rfl,aR,C⟩ (og _ _)⟩
section
variable {r : Option Nat} {P : Program} {N : Nat} {ops : Array Oper} {l : List Oper} {Q : fk} {ah : Env} {aQ : List Deferred} {A I : av} {K : Value → av → Prop} {c : Code} {T : List Nat} {co : List (Nat × Bool)}
theorem ab.open(n:Nat){α:Type}{p:α->Prop}{B:α->List av}{hs d:List av}(h:eU n hs=some (e7 (λx=>pure' (p x) (ag (B x))),d))(k:∀x,p x->ab r P N c Q ah aQ (ag (B x++d))):ab r P N c Q ah aQ (ag hs):=
  λa w C hs=>let⟨x,u,D⟩:=sD n h hs;k x u a w C D
theorem aY.open(n:Nat){α:Type}{p:α->Prop}{B:α->List av}{hs d:List av}(h:eU n hs=some (e7 (λx=>pure' (p x) (ag (B x))),d))(k:∀x,p x->aY r P N ops l Q ah aQ (ag (B x++d))):aY r P N ops l Q ah aQ (ag hs):=
  λa w C hs=>let⟨x,u,D⟩:=sD n h hs;k x u a w C D
theorem b8.open(n:Nat){α:Type}{p:α->Prop}{B:α->List av}{hs d:List av}(h:eU n hs=some (e7 (λx=>pure' (p x) (ag (B x))),d))(k:∀x,p x->b8 r P N ops I T co Q ah aQ (ag (B x++d))):b8 r P N ops I T co Q ah aQ (ag hs):=
  λa w listed C hs=>let⟨x,u,D⟩:=sD n h hs;k x u a w listed C D
theorem ab.nk(n:Nat){E sz d cap:Nat}{ad:Option Addr}{cs:List Value}{hs D:List av}(h:eU n hs=some (aX E sz ad d cap cs,D))(k:cs.length=d*sz->d<=cap->cap<=maxLen->ab r P N c Q ah aQ (ag hs)):ab r P N c Q ah aQ (ag hs):=
  λa w C hs=>by obtain⟨O,W,Z,an,H,rfl,u,V⟩:=hs.bk (fC h);obtain⟨f1,f2,f3,_⟩:=nF u;exact k f1 f2 f3 a w C hs
end
def Bt(F B:av):av:=λh=>F h/\∃uj,kD uj h/\B uj
theorem RD(F B:av):aE (Bt F B) F:=hM λ_ h=>h.1
theorem wp(n:Nat){hs r:List av}{B:av}(h:eU n hs=some (B,r)):aE (ag hs) B:=(fC h).trans u3
theorem DV{hs:List av}{B:av}(h:aE (ag hs) (ag [B])):aE (ag hs) B:=h.trans u3
theorem DW(n:Nat){hs r gs:List av}{F B:av}(h:eU n hs=some (Bt F B,r))(k:aE (ag r) (ag gs)):aE (ag hs) (ag (F::gs)):=
  (fC h).trans (dR (RD F B) k)
section
variable {r : Option Nat} {P : Program} {N : Nat} {Q : fk} {ah : Env} {aQ : List Deferred} {c : Code}
theorem ab.QI{F:av}{α:Type}{p:α->Prop}{B:α->List av}{hs:List av}(h:aE F (e7 (λx=>pure' (p x) (ag (B x)))))(k:∀x,p x->ab r P N c Q ah aQ (ag (Bt F (ag (B x))::hs))):ab r P N c Q ah aQ (ag (F::hs)):=by intro a w O V;obtain⟨aq,W,u,Z,C,rfl,d,H⟩:=V;obtain⟨D,an,x,E,aR⟩:=h u d;exact k x E a w O ⟨_,W,u,Z,C,rfl,⟨d,D,an,aR⟩,H⟩
end
theorem kc{α:Type}{enc:α->List Value}{sz:Nat}(h:∀a,(enc a).length=sz):∀(xs:List α),(xs.flatMap enc).length=xs.length*sz
  | []=>by simp
  | a::xs=>by rw[VD,List.length_append,h,kc h xs,List.length_cons,V9];omega
theorem qB{α:Type}{enc:α->List Value}{sz:Nat}(h:∀a,(enc a).length=sz):∀{xs:List α} {i j:Nat} {a:α} {v:Value},xs[i]? =some a->(enc a)[j]? =some v->(xs.flatMap enc)[i*sz+j]? =some v
  | [],_,_,_,_,d,_=>by simp at d
  | b::xs,0,j,a,v,d,u=>by simp at d;subst d;rw[VD,Nat.zero_mul,Nat.zero_add,List.getElem?_append_left (List.getElem?_eq_some_iff.1 u).1];exact u
  | b::xs,i+1,j,a,v,d,u=>by simp at d;have:=qB h d u;rw[VD,List.getElem?_append_right (by rw[h,V9];omega),h,V9];rw[show i*sz+1*sz+j-sz=i*sz+j by omega];exact this
theorem zE{α:Type}{enc:α->List Value}{sz:Nat}(h:∀a,(enc a).length=sz):∀(xs:List α) (i:Nat),(xs.flatMap enc).drop (i*sz)=(xs.drop i).flatMap enc
  | [],i=>by simp
  | b::xs,0=>by simp
  | b::xs,i+1=>by rw[VD,List.drop_append,List.drop_eq_nil_of_le (by rw[h,V9];omega),h,V9];rw[show i*sz+1*sz-sz=i*sz by omega,List.nil_append,List.drop_succ_cons];exact zE h xs i
theorem wB{α:Type}{enc:α->List Value}{sz:Nat}(h:∀a,(enc a).length=sz):∀(xs:List α) (i:Nat),(xs.flatMap enc).take (i*sz)=(xs.take i).flatMap enc
  | [],i=>by simp
  | b::xs,0=>by simp
  | b::xs,i+1=>by rw[VD,List.take_append,List.take_of_length_le (by rw[h,V9];omega),h,V9];rw[show i*sz+1*sz-sz=i*sz by omega,List.take_succ_cons,VD,wB h xs i]
variable{α:Type}{sz:Nat}
theorem mY{enc:α->List Value}(h:∀a,(enc a).length=sz){xs:List α}{i:Nat}{a:α}(d:xs[i]? =some a):((xs.flatMap enc).drop (i*sz)).take sz=enc a:=by grind[zE,List.drop_eq_getElem_cons]
theorem Il{α:Type}{p:α->Bool}:∀{l:List α},(∀t∈l,p t=true)->l.takeWhile p=l
  | [],_=>rfl
  | a::l,h=>by rw[YB (h a cG),Il λt d=>h t (by simp[d])]
theorem DQ{α:Type}{p:α->Bool}:∀{l:List α},(∀t∈l,p t=true)->l.dropWhile p=[]
  | [],_=>rfl
  | a::l,h=>by rw[YD (h a cG),DQ λt d=>h t (by simp[d])]
theorem Im{α:Type}{p:α->Bool}{m:List α}:∀{l:List α},(∀t∈l,p t=true)->(l++m).takeWhile p=l++m.takeWhile p
  | [],_=>rfl
  | a::l,h=>by rw[V4,YB (h a cG),Im λt d=>h t (by simp[d])];rfl
theorem DR{α:Type}{p:α->Bool}{m:List α}:∀{l:List α},(∀t∈l,p t=true)->(l++m).dropWhile p=m.dropWhile p
  | [],_=>rfl
  | a::l,h=>by rw[V4,YD (h a cG),DR λt d=>h t (by simp[d])]
theorem ub{α:Type}{p:α->Bool}:∀{l:List α} {k:Nat} {t:α},l[k]? =some t->p t=true->(∀j u,j<k->l[j]? =some u->p u=false)->l.findIdx? p=some k
  | [],_,_,h,_,_=>by simp at h
  | a::l,0,t,h,d,_=>by simp at h;subst h;simp[XZ,d]
  | a::l,k+1,t,h,d,an=>by have w:=an 0 a U rfl;have:=ub (l:=l) (k:=k) (by simpa using h) d (λj u C hu=>an (j+1) u U (by simpa using hu));simp[XZ,w,this]
variable{p:α->Bool}
theorem wz{l:List α}(an:∀j u,j<l.length->l[j]? =some u->p u=false):l.findIdx? p=none:=by rw[List.findIdx?_eq_none_iff];intro x d;obtain⟨j,w,rfl⟩:=List.getElem_of_mem d;simp_all
theorem U1{l:List α}(h:l.findIdx? p=none):l.find? p=none:=by simp_all
theorem Er{α:Type}{p:α->Bool}:∀{l:List α} {k:Nat},l.findIdx? p=some k->∃t,l[k]? =some t/\l.find? p=some t
  | [],_,h=>by simp at h
  | a::l,k,h=>by rw[XZ]at h;by_cases d:p a=true;simp[d]at h;subst h;exact⟨a,rfl,by simp[d]⟩;simp[d]at h;obtain⟨j,C,rfl⟩:=h;obtain⟨t,u,w⟩:=Er C;exact⟨t,by simpa using u,by simp[d,w]⟩
def ints(xs:List Int):List Value:=xs.map (λx=>.int .i64 x)
theorem ec(xs:List Int):(ints xs).length=xs.length:=by simp[ints]
theorem hO{xs:List Int}{i:Nat}{x:Int}(h:xs[i]? =some x):(ints xs)[i*1]? =some (.int .i64 x):=by simp[ints,h]
end Go.QM
namespace Go.QM
open Go
section
variable {r : Option Nat} {P : Program} {N : Nat} {ops : Array Oper} {l : List Oper} {Q : fk} {ah : Env} {aQ : List Deferred} {A : av} {K : Value → av → Prop}
variable {d : Option Tmp} {ty : TypeId} {ps : String} {bl : Array Edge} {g : Option (Nat × Bool)}
variable {t t' : TypeId} {x y : Operand} {k : IntKind} {a b c : Int}
def rm(P:Program)(t:TypeId)(n E sz:Nat):Bool:=match P.underlying t with
  | some (.array m e)=>WE m n&&WE e E&&q0 P e sz
  | _=>false
theorem tI{n E sz:Nat}(h:rm P t n E sz=true)(w:World):(underlying t).run P w=.ok (.array n E) w/\(Go.sizeOf E).run P w=.ok sz w:=by
 unfold rm at h
 cases hu:P.underlying t with
 | none=>rw[hu]at h;cases h
 | some u=>
   rw[hu]at h
   cases u<;>first
     | (cases h;done)
     | (simp only[VR]at h
        obtain⟨⟨d,C⟩,D⟩:=h
        have d:=VB d
        have C:=VB C
        subst d;subst C
        exact⟨by simp[underlying,hu],BP D w⟩)
variable{lJ:Nat}
theorem uG(u:bf ah x=.pointer (some ⟨lJ,0,none⟩)):bF P ah ⟨d,.nilCheck x,ty,ps,bl,g⟩ A (fI (some ⟨lJ,0,none⟩) 0):=λw _=>by
  simp[execOp,u,fI]
theorem Qi{o:Nat}(u:bf ah x=fI (some ⟨lJ,0,none⟩) o):bF P ah ⟨d,.nilCheck x,ty,ps,bl,g⟩ A (fI (some ⟨lJ,0,none⟩) o):=λw _=>by
  simp[execOp,u,fI]
theorem n3{s:TypeId}{f u:Nat}(o:Nat)(aA:wC P s f o=true)(D:bf ah x=fI (some ⟨lJ,0,none⟩) u):bF P ah ⟨d,.fieldAddr s x f,ty,ps,bl,g⟩ A (fI (some ⟨lJ,0,none⟩) (u+o)):=λw C=>by
  have:=(cY (A:=A) (d:=d) (ty:=ty) (ps:=ps) (bl:=bl) (g:=g) o aA (show bf ah x=.pointer (some ⟨lJ,0+u,none⟩)by rw[D];rfl)) w C
  rw[this];simp[fI,Nat.add_assoc]
variable(n E sz:Nat)
theorem Ah{u:Nat}{j:Int}(H:rm P t n E sz=true)(N:bf ah x=fI (some ⟨lJ,0,none⟩) u)(O:bf ah y=.int k j)(C:0<=j)(D:j<n):
    bF P ah ⟨d,.indexAddr t x y,ty,ps,bl,g⟩ A (fI (some ⟨lJ,0,none⟩) (u+j.toNat*sz)):=λw _=>by
  simp[execOp,XJ,WP,N,O,asIntOf,tI H,C,D,iC,fI]
theorem jI{off:Nat}{j:Int}(D:rm P t n E sz=true)(H:bf ah x=.pointer (some ⟨lJ,off,none⟩))(N:bf ah y=.int k j)(u:0<=j)(C:j<n):
    bF P ah ⟨d,.indexAddr t x y,ty,ps,bl,g⟩ A (.pointer (some ⟨lJ,off+j.toNat*sz,none⟩)):=λw _=>by
  simp[execOp,XJ,WP,H,N,asIntOf,tI D,u,C,iC]
theorem xP{o:Nat}(C:rm P t n E sz=true)(D:bf ah x=fI (some ⟨lJ,0,none⟩) o)(u:o=0):
    bF P ah ⟨d,.slice t x none none none,ty,ps,bl,g⟩ A (.slice (some ⟨lJ,0,none⟩) n n):=λw _=>by
  subst u
  by_cases an:n=0<;>simp[execOp,Instr.sliceAt,WP,Instr.sliceBounds,D,tI C,fI,an,iC]
theorem N3{vs ws:List Value}{j:Int}(D:rm P t n E sz=true)(he:qp P E sz=true)(H:bf ah x=.agg vs.toArray)(N:bf ah y=.int k j)(u:0<=j)(C:j<n)(hv:(vs.drop (j.toNat*sz)).take sz=ws):
    bF P ah ⟨d,.index t x y,ty,ps,bl,g⟩ A (.agg ws.toArray):=λw _=>by
  simp[execOp,Instr.index,H,N,asIntOf,tI D,u,C,part,E7 he]
  exact hv
theorem N4{vs:List Value}{v:Value}{j:Int}(D:rm P t n E sz=true)(he:mv P E=true)(H:bf ah x=.agg vs.toArray)(N:bf ah y=.int k j)(u:0<=j)(C:j<n)(hv:vs[j.toNat*sz]? =some v):
    bF P ah ⟨d,.index t x y,ty,ps,bl,g⟩ A v:=λw _=>by
  simp[execOp,Instr.index,H,N,asIntOf,tI D,u,C,part,uq he,hv]
theorem SF{E sz n:Nat}{cs:List Value}(h:cs.length=n*sz)(an:n<=maxLen):aE (aj lJ E cs) (aX E sz (some ⟨lJ,0,none⟩) n n cs):=
  hM λd x=>⟨([],[]),⟨rfl,h,Nat.le_refl _,an,by simp[h]⟩,by simpa[aj]using x⟩
def oG(P:Program)(n:Nat):List Field->Nat->Bool
  | [],m=>WE m n
  | f :: pC, m => (f.name != "_") && Nat.beq f.offset m && (match P.underlying f.type with | some (.int .i64) => true | _ => false) && oG P n pC (m + 1)
def rv(P:Program)(t:TypeId)(n:Nat):Bool:=match P.underlying t with
  | some (.struct pC)=>oG P n pC.toList 0&&!(P.stoodInHeld t)&&!(P.eqGuardType P.depth t)
  | _=>false
theorem DZ{n:Nat}{d:Nat}(xs C:List Int)(Q:xs.length=n)(W:C.length=n)(w:World):∀(D:List Field) (m:Nat),m<=n->oG P n D m=true->
    (Op.eqFields (d+1) (ints xs).toArray (ints C).toArray D).run P w=.ok (decide (xs.drop m=C.drop m)) w
  | [],m,_,h=>by
    have:=VB h
    simp[Op.eqFields,Wy,this,Q,W]
  | f ::D,m,hm,h=>by
    simp only[oG,VR]at h
    obtain⟨⟨⟨ah,H⟩,E⟩,O⟩:=h
    have H:=VB H
    have hu:P.underlying f.type=some (.int .i64):=by
      cases hu:P.underlying f.type with
      | none=>rw[hu]at E;cases E
      | some u=>rw[hu]at E;cases u<;>first|(cases E;done)|(rename_i k;cases k<;>first|(cases E;done)|rfl)
    have au:m<n:=by
      rcases Nat.lt_or_ge m n with h|h
      · exact h
      · exfalso
        have aq:∀(D:List Field) (m:Nat),n<m->oG P n D m=true->False:=by
          intro D
          induction D with
          | nil=>intro m hm h;have:=VB h;omega
          | cons f D ar=>intro m hm h;simp only[oG,VR]at h;exact ar _ U h.2
        exact aq D (m+1) U O
    have V:xs.drop m=xs[m]::xs.drop (m+1):=Xr U
    have Z:C.drop m=C[m]::C.drop (m+1):=Xr U
    have ga:(part f.type (ints xs).toArray f.offset).run P w=.ok (.int .i64 xs[m]) w:=by
      have N:mv P f.type=true:=by simp[mv,hu]
      simp[part,uq N,H,ints,show m<xs.length by omega]
    have ho:(part f.type (ints C).toArray f.offset).run P w=.ok (.int .i64 C[m]) w:=by
      have N:mv P f.type=true:=by simp[mv,hu]
      simp[part,uq N,H,ints,show m<C.length by omega]
    have an : f.name ≠ "_" := by simpa using ah
    simp only[Op.eqFields,an,ne_eq,not_false_eq_true,if_true,Sem.run_bind,ga,ho,Result.andThen_ok,run_equalIn_int w d f.type .i64 .i64 _ _ hu]
    by_cases he:xs[m]=C[m]
    · rw[al (by simp[he]),DZ xs C Q W w D (m+1) U O]
      refine congrArg (λb=>Result.ok b w) (decide_eq_decide.2 ?_)
      rw[V,Z,he]
      exact⟨λh=>by rw[h],λh=>(Xl h).2⟩
    · rw[ax (by simp[he]),Sem.run_pure]
      refine congrArg (λb=>Result.ok b w) (du ?_).symm
      rw[V,Z]
      exact λh=>he (Xl h).1
theorem D1{n:Nat}(h:rv P t n=true)(xs C:List Int)(O:xs.length=n)(Q:C.length=n)(w:World):
    (Op.equalIn 10000 t (.agg (ints xs).toArray) (.agg (ints C).toArray)).run P w=.ok (decide (xs=C)) w/\P.eqGuardType P.depth t=false:=by unfold rv at h;cases hu:P.underlying t with|none=>rw[hu]at h;cases h|some u=>rw[hu]at h;(cases u with|struct D=>simp only[VR,Bool.not_eq_true']at h;obtain⟨⟨E,H⟩,N⟩:=h;(have aA:P.fieldsOf t=D:=by simp[Program.fieldsOf,hu]);have:=DZ (P:=P) (d:=9998) xs C O Q w D.toList 0 (Nat.zero_le _) E;refine⟨?_,N⟩;rw[run_equalIn_agg w 9999 t _ _ (by rw[aA];exact hu) H,aA,this];simp|_=>cases h)
theorem Qk{xs u:List Int}(E:rv P t n=true)(H:bf ah x=.agg (ints xs).toArray)(N:bf ah y=.agg (ints u).toArray)(an:xs.length=n)(hm:u.length=n):
    bF P ah ⟨d,.binOp .neq t x y t',ty,ps,bl,g⟩ A (.bool (decide (xs≠u))):=λw _=>by
  obtain⟨C,D⟩:=D1 E xs u an hm w
  simp[execOp,H,N,run_eqGuard_agg w .neq t x y _ _ D,run_neq_struct w t,C]
theorem BG{E:IntKind}{n:Int}(C:bf ah x=.int k a)(D:bf ah y=.int E n)(H:0<=n)(u:k.wrap (a*2^min n.toNat k.bits)=c):
    bF P ah ⟨d,.binOp .shl t x y t',ty,ps,bl,g⟩ A (.int k c):=λw _=>by
  have:¬n<0:=U
  simp[execOp,C,D,eqGuard,binOp,Op.shift,this,u]
theorem Bb(C:bf ah x=.int k a)(D:bf ah y=.int k b)(u:k.wrap (VY k.bits a|||VY k.bits b).toNat=c):
    bF P ah ⟨d,.binOp .or t x y t',ty,ps,bl,g⟩ A (.int k c):=λw _=>by
  simp[execOp,C,D,eqGuard,binOp,Op.intBits]
  simpa using u
theorem vP(C:bf ah x=.int k a)(D:bf ah y=.int k b)(u:k.wrap (VY k.bits a&&&VY k.bits b).toNat=c):
    bF P ah ⟨d,.binOp .and t x y t',ty,ps,bl,g⟩ A (.int k c):=λw _=>by
  simp[execOp,C,D,eqGuard,binOp,Op.intBits]
  simpa using u
theorem Sr(d:0<=a)(u:a<=16777215):IntKind.u32.wrap (a*2^min (8:Int).toNat IntKind.u32.bits)=a*256:=by
 have e:(2:Int)^min (8:Int).toNat IntKind.u32.bits=256:=am
 grind[q5]
theorem QN{q i:Int}(w:0<=q)(E:q<=16777215)(C:0<=i)(H:i<256):IntKind.u32.wrap (VY IntKind.u32.bits (q*256)|||VY IntKind.u32.bits i).toNat=q*256+i:=by have D:IntKind.u32.bits=32:=rfl;obtain⟨q,rfl⟩:=Wk w;obtain⟨i,rfl⟩:=Wk C;have e:(VY IntKind.u32.bits ((q:Int)*256)|||VY IntKind.u32.bits (i:Int)).toNat=q*256+i:=(by rw[BitVec.toNat_or,Xm,Xm,D];(have d:(((q:Int)*256) %((2^32:Nat):Int)).toNat=2^8*q:=by omega);(have u:((i:Int) %((2^32:Nat):Int)).toNat=i:=by omega);rw[d,u,<-Nat.two_pow_add_eq_or_of_lt U];omega);grind[q5]
theorem CY{z:Int}(w:0<=z)(D:z<=4294967295):IntKind.u32.wrap (VY IntKind.u32.bits z&&&VY IntKind.u32.bits 255).toNat=z %256:=by have C:IntKind.u32.bits=32:=rfl;obtain⟨z,rfl⟩:=Wk w;have e:(VY IntKind.u32.bits (z:Int)&&&VY IntKind.u32.bits 255).toNat=z %256:=(by rw[BitVec.toNat_and,Xm,Xm,C];(have d:((z:Int) %((2^32:Nat):Int)).toNat=z:=by omega);(have u:((255:Int) %((2^32:Nat):Int)).toNat=2^8-1:=by decide);rw[d,u,Nat.and_two_pow_sub_one_eq_mod]);grind[q5]
end
theorem fa{P:Program}{d:Env}{A:av}{t a n b off E:Nat}{u:Nat×Nat}{l vs:List Value}(H:qp P t n=true)(C:d a=.pointer (some ⟨b,off,none⟩))[h:fL A b (.cells l.toArray E u)](hv:(l.drop off).take n=vs)(an:vs.length=n):
    ∃b off,d a=.pointer (some ⟨b,off,none⟩)/\∀w,sat w A->(loadVar t ⟨b,off,none⟩).run P w=.ok (.agg vs.toArray) w:=
  ⟨b,off,C,λ_ D=>AA H (h.rd.sat D) hv an⟩
theorem G3{P:Program}{d:Env}{A:av}{t a b off E:Nat}{u:Nat×Nat}{l:List Value}{v:Value}(H:mv P t=true)(C:d a=.pointer (some ⟨b,off,none⟩))[h:fL A b (.cells l.toArray E u)](hv:l[off]? =some v):
    ∃b off,d a=.pointer (some ⟨b,off,none⟩)/\∀w,sat w A->(loadVar t ⟨b,off,none⟩).run P w=.ok v w:=
  ⟨b,off,C,λ_ D=>AB H (h.rd.sat D) hv⟩
theorem pz{α:Type}{enc:α->List Value}{sz:Nat}(h:∀a,(enc a).length=sz){xs:List α}{i:Nat}{a:α}(d:xs[i]? =some a){o:Nat}(j:Nat)(w:o=i*sz+j){v:Value}(u:(enc a)[j]? =some v):(xs.flatMap enc)[o]? =some v:=by grind[qB]
theorem kz{α:Type}{enc:α->List Value}{sz:Nat}(h:∀a,(enc a).length=sz){xs:List α}{i:Nat}{a:α}(d:xs[i]? =some a){o:Nat}(j m:Nat)(w:o=i*sz+j)(hm:j+m<=sz){vs:List Value}(u:((enc a).drop j).take m=vs):
    ((xs.flatMap enc).drop o).take m=vs:=by subst w u;have C:=mY h d;grind[List.drop_take,List.drop_drop]
theorem sE{α:Type}{enc:α->List Value}{sz:Nat}(h:∀a,(enc a).length=sz){xs:List α}{i:Nat}{a a':α}(w:xs[i]? =some a){o:Nat}(j:Nat){vs:List Value}(C:o=i*sz+j)(hm:j+vs.length<=sz)(u:enc a'=dC j vs (enc a)):
    dC o vs (xs.flatMap enc)=(xs.set i a').flatMap enc:=by
 subst C;have O:=(List.getElem?_eq_some_iff.1 w).1;have E:xs=xs.take i++a::xs.drop (i+1):=(by grind[List.take_append_drop,Xr]);have D:xs.set i a'=xs.take i++a'::xs.drop (i+1):=cr
 have d:((xs.take i).flatMap enc).length=i*sz:=by grind[kc]
 rw[D];conv=>lhs;rw[E]
 simp only[List.flatMap_append,List.flatMap_cons,dC,u];have H:((xs.take i).flatMap enc++(enc a++(xs.drop (i+1)).flatMap enc)).take (i*sz+j)=(xs.take i).flatMap enc++(enc a).take j:=(by rw[List.take_append,d,Nat.add_sub_cancel_left,List.take_of_length_le U,List.take_append_of_le_length (by rw[h];omega)]);have N:((xs.take i).flatMap enc++(enc a++(xs.drop (i+1)).flatMap enc)).drop (i*sz+j+vs.length)=(enc a).drop (j+vs.length)++(xs.drop (i+1)).flatMap enc:=(by rw[List.drop_append,d,Wy U,List.nil_append,show i*sz+j+vs.length-i*sz=j+vs.length by omega,List.drop_append_of_le_length (by rw[h];omega)]);grind
end Go.QM
namespace Go.QM
open Go
section
variable {α : Type} [DecidableEq α]
def ky(a:α):List (α×Value)->Nat->Option (Nat×Value)
  | [],_=>none
  | t::m,i=>if a=t.1 then some (i,t.2)else ky a m (i+1)
def fH(a:α):List (α×Value)->Option Value
  | []=>none
  | t::m=>if a=t.1 then some t.2 else fH a m
def iT(a:α)(v:Value):List (α×Value)->List (α×Value)
  | []=>[(a,v)]
  | t::m=>if a=t.1 then(a,v)::m else t::iT a v m
def iM(a:α):List (α×Value)->List (α×Value)
  | []=>[]
  | t::m=>if a=t.1 then m else t::iM a m
theorem uc{a:α}:∀{m:List (α×Value)} {i:Nat},ky a m i=none->fH a m=none/\(∀v,iT a v m=m++[(a,v)])/\iM a m=m
  | [],_,_=>⟨rfl,λ_=>rfl,rfl⟩
  | t::m,i,h=>by unfold ky at h;split at h;cases h;rename_i d;obtain⟨u,w,C⟩:=uc h;exact⟨by rw[fH,al d,u],λv=>by rw[iT,al d,w];rfl,by rw[iM,al d,C]⟩
theorem ud{a:α}:∀{m:List (α×Value)} {i j:Nat} {v:Value},ky a m i=some (j,v)->∃k,j=i+k/\m[k]? =some (a,v)/\fH a m=some v/\(∀u,iT a u m=m.set k (a,u))/\iM a m=m.eraseIdx k
  | [],_,_,_,h=>by cases h
  | t::m,i,j,v,h=>by unfold ky at h;split at h;rename_i he;cases h;refine⟨0,rfl,?_,by rw[fH,ax he],λu=>by rw[iT,ax he];rfl,by rw[iM,ax he];rfl⟩;obtain⟨x,y⟩:=t;simp only at he;subst he;rfl;rename_i d;obtain⟨k,H,w,C,D,E⟩:=ud h;exact⟨k+1,by omega,w,by rw[fH,al d,C],λu=>by rw[iT,al d,D];rfl,by rw[iM,al d,E];rfl⟩
structure dS(P:Program)(hR:TypeId)(enc:α->Value):Prop where
  nX:∀(kx:Bool) (a:α) (w:World),(XV kx 10000 hR (enc a)).run P w=.ok () w
  find:∀(a:α) (m:List (α×Value)) (es:List MapEntry) (w:World),es.map (λe=>(e.key,e.val))=m.map (λt=>(enc t.1,t.2))->(Instr.findKey hR (enc a) es).run P w=.ok (ky a m 0) w
  same:∀a:α,Instr.sameBits 10000 (enc a) (enc a)=true
end
def encI(x:Int):Value:=.int .i64 x
theorem dS.int{P:Program}{u:TypeId}(h:P.underlying u=some (.int .i64)):dS P u encI where
  nX:=λkx a w=>by
    unfold XV
    simp[underlying,h,encI]
  find := λa m es w he=>by
    have key:∀(m:List (Int×Value)) (es:List MapEntry) (i:Nat),es.map (λe=>(e.key,e.val))=m.map (λt=>(encI t.1,t.2))->XK (.int .i64) (encI a) es i=some (ky a m i):=by
      intro m
      induction m with
      | nil=>intro es i he;cases es with|nil=>rfl|cons e es=>simp at he
      | cons t m H=>
        intro es i he
        cases es with
        | nil=>simp at he
        | cons e es=>
          simp only[VO,List.cons.injEq,Xy]at he
          obtain⟨⟨C,D⟩,E⟩:=he
          rw[XK,C]
          simp only[encI,Instr.sameNow,if_true,ky]
          by_cases d:a=t.1
          · simp[d,D]
          · have:(a==t.1)=false:=by simpa using d
            simp only[this,al d]
            exact H es (i+1) E
    simp[Instr.findKey,underlying,h,key m es 0 he]
  same:=λa=>by simp[Instr.sameBits,encI]
def jd(es:Array MapEntry)(aK:Nat):Prop:=(∀e∈es.toList,e.born<aK)/\(es.toList.map (·.born)).Nodup
theorem jd.push{es:Array MapEntry}{aK:Nat}(h:jd es aK){k v:Value}:jd (es.push {key:=k,val:=v,born:=aK}) (aK+1):=by refine⟨λe he=>?_,?_⟩;rw[Array.toList_push,List.mem_append,Vf]at he;rcases he with he|rfl;have:=h.1 e he;omega;simp_all;rw[Array.toList_push,List.map_append,VI];refine⟨h.2,by simp,λa d c w e=>?_⟩;obtain⟨u,hu,rfl⟩:=Vq.1 d;have:=h.1 u hu;simp_all
theorem jd.modify{es:Array MapEntry}{aK:Nat}(h:jd es aK)(j:Nat)(f:MapEntry->MapEntry)(aA:∀e,(f e).born=e.born):jd (es.modify j f) aK:=by
 have hm:(es.modify j f).toList.map (·.born)=es.toList.map (·.born):=(by rw[Array.toList_modify];apply XM;grind);refine⟨λe he=>?_,by rw[hm];exact h.2⟩;have d:e.born∈(es.modify j f).toList.map (·.born):=cr
 rw[hm]at d;obtain⟨u,hu,w⟩:=Vq.1 d;rw[<-w];exact h.1 u hu
theorem jd.erase{es:Array MapEntry}{aK:Nat}(h:jd es aK)(j:Nat):jd (es.eraseIdxIfInBounds j) aK:=by have d:(es.eraseIdxIfInBounds j).toList.Sublist es.toList:=(by grind[Array.toList_eraseIdx]);exact⟨λe he=>h.1 e (d.subset he),h.2.sublist (d.map _)⟩
def Ag{α:Type}(enc:α->Value)(m:List (α×Value))(o:Obj):Prop:=∃es aK,o=.map es aK/\es.toList.map (λe=>(e.key,e.val))=m.map (λt=>(enc t.1,t.2))/\jd es aK
def nx{α:Type}(enc:α->Value)(b:Nat)(m:List (α×Value)):av:=e7 λo:Obj=>pure' (Ag enc m o) (obj b o)
def sl{α:Type}(A:av)(b:Nat)(enc:α->Value)(m:List (α×Value)):Prop:=∀h,A h->∃o,h b=some o/\Ag enc m o
theorem yz{α:Type}(enc:α->Value)(b:Nat)(m:List (α×Value)):sl (nx enc b m) b enc m:=λh ⟨o,d,u⟩=>⟨o,by rw[u];simp,d⟩
theorem CG{α:Type}{A B:av}{b:Nat}{enc:α->Value}{m:List (α×Value)}(x:sl A b enc m):sl (sep A B) b enc m:=by rintro h ⟨a,c,d,rfl,C,D⟩;obtain⟨o,u,w⟩:=x a C;exact⟨o,qE a c b o u,w⟩
class vI(A:av)(b:Nat)(α:outParam Type)(enc:outParam (α->Value))(m:outParam (List (α×Value))):Prop where
  rd:sl A b enc m
class yG(hs:List av)(b:Nat)(α:outParam Type)(enc:outParam (α->Value))(m:outParam (List (α×Value)))(r:outParam (List av)):Prop where
  tk:∃i,eU i hs=some (nx enc b m,r)
instance {α:Type}(enc:α->Value)(b:Nat)(m:List (α×Value))(r:List av):yG (nx enc b m::r) b α enc m r:=⟨0,rfl⟩
theorem sl.sat{α:Type}{A:av}{b:Nat}{enc:α->Value}{m:List (α×Value)}(x:sl A b enc m){w:World}(h:QM.sat w A):∃es aK,w.heap[b]? =some (.map es aK)/\es.toList.map (λe=>(e.key,e.val))=m.map (λt=>(enc t.1,t.2))/\jd es aK:=by obtain⟨u,E,d⟩:=h;obtain⟨o,C,es,aK,rfl,D⟩:=x u d;grind
theorem AE{β d:Type}(f:β->d):∀(l:List β) (j:Nat),(l.eraseIdx j).map f=(l.map f).eraseIdx j
  | [],_=>by simp
  | _::_,0=>by simp
  | a::l,j+1=>by simp[AE f l j]
section
variable {α : Type} {enc : α → Value} {m : List (α × Value)}
variable {r : Option Nat} {P : Program} {ah : Env} {A : av} {K : Value → av → Prop}
variable {d : Option Tmp} {ty : TypeId} {ps : String} {bl : Array Edge} {g : Option (Nat × Bool)}
variable {t : TypeId} {x : Operand}
def mo(P:Program)(t hR e:TypeId):Bool:=match P.underlying t with
  | some (.map k v)=>WE k hR&&WE v e
  | _=>false
theorem oO{d e:TypeId}(h:mo P t d e=true)(w:World):(underlying t).run P w=.ok (.map d e) w:=by unfold mo at h;cases hu:P.underlying t with|none=>rw[hu]at h;cases h|some u=>rw[hu]at h;(cases u<;>first|(cases h;done)|(simp only[Bool.and_eq_true]at h;have C:=VB h.1;have D:=VB h.2;subst C;subst D;simp[underlying,hu]))
theorem PY{hs:List av}(enc:α->Value)(k:∀b,K (.map (some b)) (ag (nx enc b []::hs))):cn r P ah ⟨d,.makeMap t none,ty,ps,bl,g⟩ (ag hs) K:=
  cn.run rfl λw C=>⟨.map (some w.heap.size),w.alloc (.map #[] 0),_,.inl rfl,⟨rfl,rfl,rfl,by simp⟩,
    (oU _ C).bk (dR (hM λh u=>⟨_,⟨#[],0,rfl,rfl,⟨λ_ h=>(by cases h),List.nodup_nil⟩⟩,u⟩) (VZ _)),k w.heap.size⟩
theorem xK{w:World}{b:Nat}{m':List (α×Value)}{es es':Array MapEntry}{aK pk:Nat}{hs rest:List av}(W:sat w (ag hs))(d:∃i,eU i hs=some (nx enc b m,rest))(ah:w.heap[b]? =some (.map es aK))
    (D:es'.toList.map (λe=>(e.key,e.val))=m'.map (λt=>(enc t.1,t.2))) (N:jd es' pk):sat {w with heap:=w.heap.setIfInBounds b (.map es' pk)} (ag (nx enc b m'::rest)):=by
 obtain⟨i,d⟩:=d;obtain⟨u,Z,p,q,C,rfl,⟨o,an,Q⟩,V⟩:=W.bk (fC d);have E:sat w (sep (obj b o) (ag rest)):=⟨_,Z,p,q,C,rfl,Q,V⟩;have P:b<w.heap.size:=cr
 have H:sat {w with heap:=w.heap.setIfInBounds b (.map es' pk)} (sep (obj b (.map es' pk)) (ag rest)):=
   u0 E (by show(w.heap.setIfInBounds b _)[b]? =_;rw[Array.getElem?_setIfInBounds_self_of_lt P]) (λj O=>by show(w.heap.setIfInBounds b _)[j]? =_;rw[Array.getElem?_setIfInBounds_ne (Ne.symm O)])
 exact H.bk (dR (hM λh u=>⟨_,⟨es',pk,rfl,D,N⟩,u⟩) (VZ _))
theorem PH(N e:TypeId){b:Nat}(E:mo P t N e=true)(H:bf ah x=.map (some b))[hr:vI A b α enc m]:
    bF P ah ⟨d,.call ⟨.builtin .len,#[x],#[t]⟩,ty,ps,bl,g⟩ A (.int .i64 m.length):=λw D=>by
  obtain⟨es,aK,u,C,O⟩:=hr.rd.sat D
  have hlen:es.size=m.length:=by simpa using congrArg W4 C
  simp[execOp,resolve,invoke,builtin,Builtin.len_,H,oO E,V3 u,goInt,hlen]
end
section
variable {α : Type} [DecidableEq α] {enc : α → Value} {m : List (α × Value)}
variable {r : Option Nat} {P : Program} {N : Nat} {ops : Array Oper} {l : List Oper} {Q : fk} {ah : Env} {aQ : List Deferred} {A : av} {K : Value → av → Prop}
variable {d : Option Tmp} {ty : TypeId} {ps : String} {bl : Array Edge} {g : Option (Nat × Bool)}
variable {t t' : TypeId} {x y z : Operand} {k : IntKind}
variable{a:α}
theorem PK(Q e:TypeId){b:Nat}{V:Value}(H:mo P t Q e=true)(an:ly P e=some V)(D:dS P Q enc)(N:bf ah x=.map (some b))(O:bf ah y=enc a)[hr:vI A b α enc m]:
    bF P ah ⟨d,.lookup t x y false,ty,ps,bl,g⟩ A ((fH a m).getD V):=λw Z=>by
  obtain⟨es,aK,E,W,aq⟩:=hr.rd.sat Z
  have aA:=D.find a m es.toList w W
  cases u:ky a m 0 with
  | none=>
    obtain⟨C,_⟩:=uc u
    simp[execOp,Yb,N,O,oO H,V3 E,D.nX,aA,u,C,vu an]
  | some p=>
    obtain⟨j,v⟩:=p
    obtain⟨_,_,_,C,_⟩:=ud u
    simp[execOp,Yb,N,O,oO H,V3 E,D.nX,aA,u,C]
theorem PL(Q e:TypeId){b:Nat}{V:Value}(H:mo P t Q e=true)(an:ly P e=some V)(D:dS P Q enc)(N:bf ah x=.map (some b))(O:bf ah y=enc a)[hr:vI A b α enc m]:
    bF P ah ⟨d,.lookup t x y true,ty,ps,bl,g⟩ A (.tuple #[(fH a m).getD V,.bool (fH a m).isSome]):=λw Z=>by
  obtain⟨es,aK,E,W,aq⟩:=hr.rd.sat Z
  have aA:=D.find a m es.toList w W
  cases u:ky a m 0 with
  | none=>
    obtain⟨C,_⟩:=uc u
    simp[execOp,Yb,N,O,oO H,V3 E,D.nX,aA,u,C,vu an]
  | some p=>
    obtain⟨j,v⟩:=p
    obtain⟨_,_,_,C,_⟩:=ud u
    simp[execOp,Yb,N,O,oO H,V3 E,D.nX,aA,u,C]
theorem Qd{hs rest:List av}(ar e:TypeId){b:Nat}{v:Value}(Z:mo P t ar e=true)(E:dS P ar enc)(an:bf ah x=.map (some b))(aq:bf ah y=enc a)(hv:bf ah z=v)[N:yG hs b α enc m rest]
    (k:K undef (ag (nx enc b (iT a v m)::rest))):cn r P ah ⟨d,.mapUpdate t x y z,ty,ps,bl,g⟩ (ag hs) K:=by refine cn.run rfl λw O=>?_;obtain⟨i,az⟩:=N.tk;obtain⟨es,aK,u,C,Q⟩:=(CG (yz enc b m)).sat (O.bk (fC az));have aA:=E.find a m es.toList w C;cases D:ky a m 0 with|none=>obtain⟨_,H,_⟩:=uc D;refine⟨undef,{w with heap:=w.heap.setIfInBounds b (.map (es.push {key:=enc a,val:=v,born:=aK}) (aK+1))},_,.inr ⟨?_,rfl⟩,⟨rfl,rfl,rfl,?_⟩,xK (m':=iT a v m) (es':=es.push {key:=enc a,val:=v,born:=aK}) (pk:=aK+1) O N.tk u (by rw[H];simp[C]) Q.push,k⟩;simp[execOp,Instr.mapUpdate,an,aq,hv,oO Z,V3 u,E.nX,aA,D,WW _ u];simp|some p=>obtain⟨j,v0⟩:=p;obtain⟨n,aL,H,_,au,_⟩:=ud D;(have aB:j=n:=by omega);subst aB;have W:((es.toList[j]?).map (·.key))=some (enc a):=(by have:=congrArg (λl=>l[j]?) C;simp only[WJ,H,WD]at this;cases he:es.toList[j]? with|none=>rw[he]at this;cases this|some eB=>rw[he]at this;simp only[WD,WU,Xy]at this;simp[this.1]);have aH:(Instr.keyThatStays (((es[j]?).map (·.key)).getD (enc a)) (enc a)).run P w=.ok (enc a) w:=(by(have:es[j]? =es.toList[j]? :=by simp);rw[this,W];simp[Instr.keyThatStays,E.same a]);refine⟨undef,{w with heap:=w.heap.setIfInBounds b (.map (es.modify j λe=>{e with key:=enc a,val:=v}) aK)},_,.inr ⟨?_,rfl⟩,⟨rfl,rfl,rfl,?_⟩,xK (m':=iT a v m) (es':=es.modify j λe=>{e with key:=enc a,val:=v}) (pk:=aK) O N.tk u ?_ (Q.modify j _ λ_=>rfl),k⟩;simp[execOp,Instr.mapUpdate,an,aq,hv,oO Z,V3 u,E.nX,aA,D,aH,WW _ u];simp;rw[au,List.map_set,<-C,Array.toList_modify];apply XM;intro i;simp only[WJ,List.getElem?_modify,List.getElem?_set,List.length_map];by_cases V:j=i;subst V;(cases he:es.toList[j]? with|none=>simp[he]at W|some eB=>have:=(Vo.1 he).1;simp;simpa using this);simp[V]
theorem LV{hs rest:List av}(aq e:TypeId){b:Nat}{ar:Array TypeId}(V:mo P t aq e=true)(N:dS P aq enc)(Z:bf ah x=.map (some b))(an:bf ah y=enc a)(W:ar[0]? =some t)[H:yG hs b α enc m rest]
    (k:K (.tuple #[]) (ag (nx enc b (iM a m)::rest))):cn r P ah ⟨d,.call ⟨.builtin .delete,#[x,y],ar⟩,ty,ps,bl,g⟩ (ag hs) K:=by refine cn.run rfl λw O=>?_;obtain⟨i,az⟩:=H.tk;obtain⟨es,aK,u,C,Q⟩:=(CG (yz enc b m)).sat (O.bk (fC az));have aA:=N.find a m es.toList w C;cases D:ky a m 0 with|none=>obtain⟨_,_,E⟩:=uc D;refine⟨.tuple #[],{w with heap:=w.heap.setIfInBounds b (.map es aK)},_,.inl ?_,⟨rfl,rfl,rfl,?_⟩,xK (m':=iM a m) (es':=es) (pk:=aK) O H.tk u (by rw[E];exact C) Q,k⟩;simp[execOp,resolve,invoke,builtin,Builtin.delete_,Z,an,W,oO V,V3 u,N.nX,aA,D,WW _ u];simp|some p=>obtain⟨j,v0⟩:=p;obtain⟨n,aL,E,_,_,au⟩:=ud D;(have aH:j=n:=by omega);subst aH;(have hlen:es.size=m.length:=by simpa using congrArg W4 C);(have aB:j<es.size:=by rw[hlen];exact(Vo.1 E).1);refine⟨.tuple #[],{w with heap:=w.heap.setIfInBounds b (.map (es.eraseIdxIfInBounds j) aK)},_,.inl ?_,⟨rfl,rfl,rfl,?_⟩,xK (m':=iM a m) (es':=es.eraseIdxIfInBounds j) (pk:=aK) O H.tk u ?_ (Q.erase j),k⟩;simp[execOp,resolve,invoke,builtin,Builtin.delete_,Z,an,W,oO V,V3 u,N.nX,aA,D,WW _ u];simp;rw[au,AE,<-C,<-AE];simp[Array.eraseIdxIfInBounds,aB]
end
end Go.QM
namespace Go.QM
open Go
class sk(cs:List Value)(cap j sz:Nat):Prop where
  n:∃n,cs.length=n*sz/\j<=n/\n<=cap
instance (A:av)(ad:Option Addr)(cap j sz E:Nat)(cs:List Value)[hr:bj A ad E cs][h:sk cs cap j sz]:bj A (dN ad cap j sz) E (cs.drop (j*sz)):=⟨by
  obtain⟨n,gA,gB,gC⟩:=h.n
  exact CI hr.rd gA gB gC⟩
section
variable {r : Option Nat} {P : Program} {N : Nat} {ops : Array Oper} {l : List Oper} {Q : fk} {ah : Env} {aQ : List Deferred} {A : av} {K : Value → av → Prop}
variable {d : Option Tmp} {ty : TypeId} {ps : String} {bl : Array Edge} {g : Option (Nat × Bool)}
variable {t t' : TypeId} {x y z : Operand} {k : IntKind}
theorem oh(E sz i:Nat){ad:Option Addr}{n cap:Nat}{j:Int}(w:hd P t E sz=true)(C:bf ah x=.slice ad n cap)(D:bf ah y=.int .i64 j)(u:j=(i:Int))(H:i<=n):
    bF P ah ⟨d,.slice t x (some y) none none,ty,ps,bl,g⟩ A (.slice (dN ad cap i sz) (n-i) (cap-i)):=by subst u;have:=HB (A:=A) (d:=d) (ty:=ty) (ps:=ps) (bl:=bl) (g:=g) E sz w C D U U;trivial
theorem nE(E sz i:Nat){ad:Option Addr}{n cap:Nat}{j:Int}(w:hd P t E sz=true)(C:bf ah x=.slice ad n cap)(D:bf ah y=.int .i64 j)(u:j=(i:Int))(H:i<=cap):
    bF P ah ⟨d,.slice t x none (some y) none,ty,ps,bl,g⟩ A (.slice ad i cap):=by subst u;have:=SE (A:=A) (d:=d) (ty:=ty) (ps:=ps) (bl:=bl) (g:=g) E sz w C D U U;trivial
end
class vL(hs:List av)(A:av)(r:outParam (List av)):Prop where
  tk:∃i,eU i hs=some (A,r)
instance (priority:=100)(B:av)(hs:List av)(A:av)(r:List av)[h:vL hs A r]:vL (B::hs) A (B::r):=⟨by
  obtain⟨i,pE⟩:=h.tk
  exact⟨i+1,by simp[eU,pE]⟩⟩
instance (priority:=200)(A:av)(r:List av):vL (A::r) A r:=⟨0,rfl⟩
class eD(hs pre:List av)(rest:outParam (List av)):Prop where
  p:lF hs pre rest
instance (hs:List av):eD hs [] hs:=⟨eC hs⟩
instance (hs r pre rest:List av)(A:av)[h:vL hs A r][k:eD r pre rest]:eD hs (A::pre) rest:=⟨by
  obtain⟨i,pE⟩:=h.tk
  exact ed i pE k.p⟩
section
variable {α : Type} [DecidableEq α]
def fj(f:α->Option Value)(a:α)(v:Value):α->Option Value:=λx=>if x=a then some v else f x
def fZ(f:α->Option Value)(a:α):α->Option Value:=λx=>if x=a then none else f x
structure kW(f:α->Option Value)(n:Nat)(m:List (α×Value)):Prop where
  bA:(m.map (·.1)).Nodup
  oN:∀a,fH a m=f a
  n:m.length=n
theorem Az{a:α}:∀{m:List (α×Value)},fH a m=none↔a∉m.map (·.1)
  | []=>by simp[fH]
  | t::m=>by simp only[fH,VO,Vt,not_or];split;rename_i h;simp[h];rename_i h;rw[Az];simp[h]
theorem FD(a b:α)(v:Value):∀(m:List (α×Value)),fH a (iT b v m)=if a=b then some v else fH a m
  | []=>by simp only[iT,fH]
  | t::m=>by simp only[iT];by_cases h:b=t.1;rw[ax h];simp only[fH];by_cases d:a=b;rw[ax d,ax d];rw[al d,al d,al (by rw[<-h];exact d)];rw[al h];simp only[fH];by_cases d:a=t.1;rw[ax d,ax d,al (by rw[d];exact λe=>h e.symm)];rw[al d,al d];exact FD a b v m
theorem Fj(b:α)(v:Value):∀(m:List (α×Value)),(iT b v m).map (·.1)=if b∈m.map (·.1)then m.map (·.1)else m.map (·.1)++[b]
  | []=>by simp[iT]
  | t::m=>by simp only[iT];by_cases h:b=t.1;rw[ax h];simp[h];rw[al h];simp only[VO,Fj b v m,Vt];by_cases d:b∈m.map (·.1);rw[ax d,ax (.inr d)];rw[al d,al (by simp[h,d])];rfl
theorem FC(a b:α):∀(m:List (α×Value)),(m.map (·.1)).Nodup->fH a (iM b m)=if a=b then none else fH a m
  | [],_=>by simp[iM,fH]
  | t::m,an=>by simp only[VO,List.nodup_cons]at an;simp only[iM];by_cases h:b=t.1;rw[ax h];by_cases d:a=b;rw[ax d,Az,d,h];exact an.1;rw[al d];simp only[fH];rw[al (by rw[<-h];exact d)];rw[al h];simp only[fH];by_cases d:a=t.1;rw[ax d,ax d,al (by rw[d];exact λe=>h e.symm)];rw[al d,al d];exact FC a b m an.2
theorem Fi(b:α):∀(m:List (α×Value)),((iM b m).map (·.1)).Sublist (m.map (·.1))
  | []=>by simp[iM]
  | t::m=>by simp only[iM];by_cases h:b=t.1;rw[ax h];simp;rw[al h];simp only[VO];exact(Fi b m).cons_cons _
theorem DM(b:α):∀(m:List (α×Value)),(iM b m).length=if(fH b m).isSome then m.length-1 else m.length
  | []=>rfl
  | t::m=>by
   by_cases h:b=t.1;have d:fH b (t::m)=some t.2:=by simp only[fH];rw[ax h]
   have u:iM b (t::m)=m:=by simp only[iM];rw[ax h]
   rw[d,u];rfl;have d:fH b (t::m)=fH b m:=by simp only[fH];rw[al h]
   have u:iM b (t::m)=t::iM b m:=by simp only[iM];rw[al h]
   rw[d,u,VC,DM b m];split;rename_i w;have:m≠[]:=by intro e;subst e;simp[fH]at w
   have:=List.length_pos_iff.2 this;simp only[VC];omega;rfl
theorem Iz(b:α)(v:Value):∀(m:List (α×Value)),(iT b v m).length=if(fH b m).isSome then m.length else m.length+1
  | []=>rfl
  | t::m=>by
   by_cases h:b=t.1;have d:fH b (t::m)=some t.2:=by simp only[fH];rw[ax h]
   have u:iT b v (t::m)=(b,v)::m:=by simp only[iT];rw[ax h]
   rw[d,u];rfl;have d:fH b (t::m)=fH b m:=by simp only[fH];rw[al h]
   have u:iT b v (t::m)=t::iT b v m:=by simp only[iT];rw[al h]
   rw[d,u,VC,Iz b v m];split<;>rfl
theorem kW.up{f:α->Option Value}{n:Nat}{m:List (α×Value)}(h:kW f n m)(a:α)(v:Value):kW (fj f a v) (if(f a).isSome then n else n+1) (iT a v m) where
  bA:=by
    rw[Fj]
    split
    · exact h.bA
    · rename_i u
      rw[VI]
      refine⟨h.bA,by simp,?_⟩
      intro x w y d e
      simp only[Vf]at d
      subst d;subst e;exact u w
  oN:=λx=>by rw[FD,fj,h.oN]
  n:=by rw[Iz,h.oN,h.n]
theorem kW.dl{f:α->Option Value}{n:Nat}{m:List (α×Value)}(h:kW f n m)(a:α):kW (fZ f a) (if(f a).isSome then n-1 else n) (iM a m) where
  bA:=h.bA.sublist (Fi a m)
  oN:=λx=>by rw[FC _ _ _ h.bA,fZ,h.oN]
  n:=by rw[DM,h.oN,h.n]
end
def bT{α:Type}[DecidableEq α](enc:α->Value)(b:Nat)(f:α->Option Value)(n:Nat):av:=e7 λm:List (α×Value)=>pure' (kW f n m) (nx enc b m)
def qm{α:Type}[DecidableEq α](A:av)(b:Nat)(enc:α->Value)(f:α->Option Value)(n:Nat):Prop:=∀h,A h->∃m,kW f n m/\∃o,h b=some o/\Ag enc m o
section
variable {α : Type} [DecidableEq α] {enc : α → Value} {f : α → Option Value} {n b : Nat}
theorem JP:qm (bT enc b f n) b enc f n:=λ_ ⟨m,hm,d⟩=>⟨m,hm,yz enc b m _ d⟩
theorem JO{A B:av}(x:qm A b enc f n):qm (sep A B) b enc f n:=by rintro h ⟨a,c,d,rfl,C,D⟩;obtain⟨m,hm,o,u,w⟩:=x a C;exact⟨m,hm,o,qE a c b o u,w⟩
theorem JQ{A B:av}(x:qm B b enc f n):qm (sep A B) b enc f n:=by rintro h ⟨a,c,d,rfl,D,C⟩;obtain⟨m,hm,o,u,w⟩:=x c C;exact⟨m,hm,o,um d b o u,w⟩
end
class qn(A:av)(b:Nat){α:outParam Type}[outParam (DecidableEq α)](enc:outParam (α->Value))(f:outParam (α->Option Value))(n:outParam Nat):Prop where
  rd:qm A b enc f n
section
variable {α : Type} [DecidableEq α]
instance (enc:α->Value)(b:Nat)(f:α->Option Value)(n:Nat):qn (bT enc b f n) b enc f n:=⟨JP⟩
instance (A:av)(l:List av)(b:Nat)(enc:α->Value)(f:α->Option Value)(n:Nat)[h:qn (ag l) b enc f n]:qn (ag (A::l)) b enc f n:=⟨JQ h.rd⟩
instance (A:av)(l:List av)(b:Nat)(enc:α->Value)(f:α->Option Value)(n:Nat)[h:qn A b enc f n]:qn (ag (A::l)) b enc f n:=⟨JO h.rd⟩
end
class sp(hs:List av)(b:Nat){α:outParam Type}[outParam (DecidableEq α)](enc:outParam (α->Value))(f:outParam (α->Option Value))(n:outParam Nat)(r:outParam (List av)):Prop where
  tk:∃i,eU i hs=some (bT enc b f n,r)
section
variable {α : Type} [DecidableEq α]
instance (enc:α->Value)(b:Nat)(f:α->Option Value)(n:Nat)(r:List av):sp (bT enc b f n::r) b enc f n r:=⟨0,rfl⟩
instance (A:av)(hs:List av)(b:Nat)(enc:α->Value)(f:α->Option Value)(n:Nat)(r:List av)[h:sp hs b enc f n r]:sp (A::hs) b enc f n (A::r):=⟨by
  obtain⟨i,pE⟩:=h.tk
  exact⟨i+1,by simp[eU,pE]⟩⟩
end
section
variable {α : Type} [DecidableEq α] {enc : α → Value} {f : α → Option Value} {n : Nat}
variable {r : Option Nat} {P : Program} {N : Nat} {ops : Array Oper} {l : List Oper} {Q : fk} {ah : Env} {aQ : List Deferred} {A : av} {K : Value → av → Prop}
variable {d : Option Tmp} {ty : TypeId} {ps : String} {bl : Array Edge} {g : Option (Nat × Bool)}
variable {t t' : TypeId} {x y z : Operand}
variable{b:Nat}
theorem qm.at(hr:qm A b enc f n){w:World}(hs:QM.sat w A):∃(B:av) (m:List (α×Value)),kW f n m/\QM.sat w B/\vI B b α enc m:=by obtain⟨d,E,D⟩:=hs;obtain⟨m,hm,o,u,C⟩:=hr d D;exact⟨λh=>h=d,m,hm,⟨d,E,rfl⟩,⟨λh e=>by subst e;exact⟨o,u,C⟩⟩⟩
variable(hR:TypeId){a:α}
theorem kh(e:TypeId){u:Value}(H:mo P t hR e=true)(Q:ly P e=some u)(C:dS P hR enc)(N:bf ah x=.map (some b))(O:bf ah y=enc a)[hr:qn A b enc f n]:
    bF P ah ⟨d,.lookup t x y false,ty,ps,bl,g⟩ A ((f a).getD u):=λw D=>by
  obtain⟨B,m,hm,E,V⟩:=hr.rd.at D
  have:=(PK (A:=B) (d:=d) (ty:=ty) (ps:=ps) (bl:=bl) (g:=g) hR e H Q C N O) w E
  rwa[hm.oN]at this
theorem FH(e:TypeId){u:Value}(H:mo P t hR e=true)(Q:ly P e=some u)(C:dS P hR enc)(N:bf ah x=.map (some b))(O:bf ah y=enc a)[hr:qn A b enc f n]:
    bF P ah ⟨d,.lookup t x y true,ty,ps,bl,g⟩ A (.tuple #[(f a).getD u,.bool (f a).isSome]):=λw D=>by
  obtain⟨B,m,hm,E,V⟩:=hr.rd.at D
  have:=(PL (A:=B) (d:=d) (ty:=ty) (ps:=ps) (bl:=bl) (g:=g) hR e H Q C N O) w E
  rwa[hm.oN]at this
theorem PG(e:TypeId)(D:mo P t hR e=true)(E:bf ah x=.map (some b))[hr:qn A b enc f n]:
    bF P ah ⟨d,.call ⟨.builtin .len,#[x],#[t]⟩,ty,ps,bl,g⟩ A (.int .i64 n):=λw u=>by
  obtain⟨B,m,hm,C,H⟩:=hr.rd.at u
  have:=(PH (A:=B) (d:=d) (ty:=ty) (ps:=ps) (bl:=bl) (g:=g) hR e D E) w C
  rwa[hm.n]at this
theorem xg{hs:List av}(enc:α->Value)(k:∀b,K (.map (some b)) (ag (bT enc b (λ_=>none) 0::hs))):cn r P ah ⟨d,.makeMap t none,ty,ps,bl,g⟩ (ag hs) K:=
  cn.post (sj:=λv u=>∃b,v=.map (some b)/\u=ag (nx enc b []::hs)) (PY enc λb=>⟨b,rfl,rfl⟩) (by rintro v u ⟨b,rfl,rfl⟩;exact⟨_,dR (hM λh w=>⟨[],⟨by simp,λ_=>rfl,rfl⟩,w⟩) (VZ _),k b⟩)
theorem lX{hs rest:List av}(e:TypeId){v:Value}(H:mo P t hR e=true)(D:dS P hR enc)(N:bf ah x=.map (some b))(O:bf ah y=enc a)(hv:bf ah z=v)[u:sp hs b enc f n rest]
    (k:K undef (ag (bT enc b (fj f a v) (if(f a).isSome then n else n+1)::rest))):cn r P ah ⟨d,.mapUpdate t x y z,ty,ps,bl,g⟩ (ag hs) K:=by obtain⟨i,u⟩:=u.tk;refine cn.bk (fC u) (show cn r P ah _ (ag (bT enc b f n::rest)) K from ?_);refine cn.ex λm=>cn.pure λhm=>?_;exact cn.post (sj:=λC w=>C=undef/\w=ag (nx enc b (iT a v m)::rest)) (Qd hR e H D N O hv ⟨rfl,rfl⟩) (by rintro C w ⟨rfl,rfl⟩;exact⟨_,dR (hM λh E=>⟨_,hm.up a v,E⟩) (VZ _),k⟩)
theorem lM{hs rest:List av}(e:TypeId){C:Array TypeId}(N:mo P t hR e=true)(E:dS P hR enc)(Q:bf ah x=.map (some b))(V:bf ah y=enc a)(O:C[0]? =some t)[u:sp hs b enc f n rest]
    (k:K (.tuple #[]) (ag (bT enc b (fZ f a) (if(f a).isSome then n-1 else n)::rest))):cn r P ah ⟨d,.call ⟨.builtin .delete,#[x,y],C⟩,ty,ps,bl,g⟩ (ag hs) K:=by obtain⟨i,u⟩:=u.tk;refine cn.bk (fC u) (show cn r P ah _ (ag (bT enc b f n::rest)) K from ?_);refine cn.ex λm=>cn.pure λhm=>?_;exact cn.post (sj:=λD w=>D=.tuple #[]/\w=ag (nx enc b (iM a m)::rest)) (LV hR e N E Q V O ⟨rfl,rfl⟩) (by rintro D w ⟨rfl,rfl⟩;exact⟨_,dR (hM λh H=>⟨_,hm.dl a,H⟩) (VZ _),k⟩)
end
end Go.QM
namespace Go.QM
open Go
def b3{α:Type}(f:α->av)(L:List α):av:=ag (L.map f)
section
variable {α : Type} {f g : α → av}
theorem Sf{l m:List av}(h:l.Perm m):aE (ag l) (ag m):=by induction h with|nil=>exact VZ _|cons x _ w=>exact dR (VZ x) w|swap x y l=>exact jx|trans _ _ d u=>exact d.trans u
variable{L:List α}
theorem vX{M:List α}(h:L.Perm M):aE (b3 f L) (b3 f M):=Sf (h.map f)
theorem y0{L:List α}(h:∀a∈L,f a=g a):b3 f L=b3 g L:=by grind[b3,List.map_congr_left]
theorem mS(hs:List av):aE (ag hs) (ag (b3 f []::hs)):=pU.trans nC
theorem fN(n:Nat){hs d:List av}{L':List α}{a:α}(h:eU n hs=some (b3 f L,d))(u:L.Perm (a::L')):aE (ag hs) (ag (f a::b3 f L'::d)):=
  (fC h).trans ((dR (vX u) (VZ _)).trans pT)
theorem cX(i j:Nat){hs ei u gs:List av}{L M:List α}{A:av}(a:α)(w:eU i hs=some (A,ei))(d:eU j ei=some (b3 f L,u))(C:A=g a)(D:∀x∈L,f x=g x)(E:(a::L).Perm M)
    (k:aE (ag u) (ag gs)):aE (ag hs) (ag (b3 g M::gs)):=by subst C;rw[y0 D]at d;refine(fC w).trans ((dR (VZ _) (fC d)).trans (m6.trans (dR ?_ k)));exact vX (f:=g) E
theorem pv(i:Nat){hs r gs:List av}{L M:List α}(h:eU i hs=some (b3 f L,r))(d:∀x∈L,f x=g x)(u:L.Perm M)(k:aE (ag r) (ag gs)):aE (ag hs) (ag (b3 g M::gs)):=by rw[y0 d]at h;exact(fC h).trans (dR (vX u) k)
theorem s4{i:Nat}{a:α}(h:L[i]? =some a):L.Perm (a::(L.take i++L.drop (i+1))):=by grind[List.drop_eq_getElem_cons,List.take_append_drop,List.perm_middle]
theorem fB{a:α}(h:a∈L):∃L',L.Perm (a::L'):=by obtain⟨s,t,rfl⟩:=XD h;grind[List.perm_middle]
end
section
variable {r : Option Nat} {P : Program} {N : Nat} {ops : Array Oper} {l : List Oper} {Q : fk} {ah : Env} {aQ : List Deferred} {A : av} {K : Value → av → Prop}
variable {d : Option Tmp} {ty : TypeId} {ps : String} {bl : Array Edge} {g : Option (Nat × Bool)}
variable {t t' : TypeId} {x y : Operand}
variable{E:Nat}
theorem vb{w:World}{b off:Nat}{l vs:List Value}(h:w.heap[b]? =some (.cells l.toArray E (0,0)))(hlen:off+vs.length<=l.length)(d:vs.all VP=true):
    (storeCells ⟨b,off,none⟩ vs).run P w=.ok () (w.setRow b (dC off vs l).toArray):=by have:=run_storeCells_at P b off E vs 0 l.toArray w h (by simpa using hlen) (λu hu=>by simpa using List.all_eq_true.1 d u hu);trivial
theorem xT{pre cs d vs:List Value}{o:Nat}(h:o+vs.length<=cs.length):dC (pre.length+o) vs (pre++cs++d)=pre++dC o vs cs++d:=by
 unfold dC
 rw[List.append_assoc pre cs d,List.take_append,List.take_of_length_le U,WL,Nat.add_assoc,List.drop_append,List.drop_eq_nil_of_le U,WL,List.nil_append,
   List.take_append_of_le_length U,List.drop_append_of_le_length U]
 simp_all
variable{n sz cap:Nat}{rest:List av}
theorem xS{w:World}{af:Nat}{pre cs u d:List Value}(h:sat w (sep (aj af E (pre++cs++d)) (ag rest)))(f2:cs.length=n*sz)(f3:n<=cap)(f4:cap<=maxLen)
    (f5:cap*sz<=cs.length+d.length) (D:u.length=cs.length):sat (w.setRow af (pre++u++d).toArray) (ag (aX E sz (some ⟨af,pre.length,none⟩) n cap u::rest)):=
  (xL h).bk (dR (hM λh C=>⟨(pre,d),⟨rfl,by omega,f3,f4,by simp only;omega⟩,C⟩) (VZ _))
theorem xR{w:World}{ad:Option Addr}{cs:List Value}{hs:List av}(N:sat w (ag hs))(C:∃i,eU i hs=some (aX E sz ad n cap cs,rest))(an:0<cs.length):
    ∃af pre u,ad=some ⟨af,pre.length,none⟩/\cs.length=n*sz/\n<=cap/\cap<=maxLen/\cap*sz<=cs.length+u.length/\sat w (sep (aj af E (pre++cs++u)) (ag rest)):=by obtain⟨i,C⟩:=C;obtain⟨P,O,a,b,D,rfl,d,H⟩:=N.bk (fC C);cases ad with|none=>obtain⟨⟨_,_,e⟩,_⟩:=d;rw[e]at an;simp at an|some p=>obtain⟨⟨pre,u⟩,⟨f1,f2,f3,f4,f5⟩,d⟩:=d;obtain⟨af,Q,V⟩:=p;simp only[Addr.mk.injEq,true_and]at f1;obtain⟨rfl,rfl⟩:=f1;exact⟨af,pre,u,rfl,f2,f3,f4,f5,_,O,a,b,D,rfl,d,H⟩
theorem Ly{hs:List av}{an m D:Nat}{ad C:Option Addr}{cs u H:List Value}(k:Nat)(a3:hd P t E sz=true)(a4:bf ah x=.slice ad n cap)(a5:bf ah y=.slice C m D)
    [aH:pe hs ad E sz n cap cs rest] [hr:bj (ag hs) C an u] (hm:m*sz<=u.length) (aL:Nat.min m n=k) (a2:0<cs.length) (aq:(u.take (k*sz)).all VP=true) (Q:dC 0 (u.take (k*sz)) cs=H)
    (a8:K (.int .i64 k) (ag (aX E sz ad n cap H::rest))):cn r P ah ⟨d,.call ⟨.builtin .copy,#[x,y],#[t,t']⟩,ty,ps,bl,g⟩ (ag hs) K:=by
 refine cn.run rfl λw V=>?_;obtain⟨af,pre,Z,rfl,f2,f3,f4,f5,N⟩:=xR V aH.tk a2;have ar:w.heap[af]? =some (.cells (pre++cs++Z).toArray E (0,0)):=(iB (nb af E _)).sat N;have aQ:k<=m:=cr
 have aW:k<=n:=cr
 have a0:k*sz<=u.length:=Nat.le_trans (VT _ aQ) hm;have au:(u.take (k*sz)).length=k*sz:=b4
 have O:0+(u.take (k*sz)).length<=cs.length:=by rw[au,f2];have:=VT sz aW;omega
 have W:=vb (P:=P) (off:=pre.length+0) ar AJ aq;rw[xT O,Q,Nat.add_zero]at W;have aB:VG sz k (.slice C m D)=VG sz k (.slice C k D):=by cases C<;>rfl
 have az:(VG sz k (.slice C m D)).run P w=.ok (u.take (k*sz)).toArray w:=by rw[aB];exact qA (hr.rd.sat V) a0
 refine⟨.int .i64 k,w.setRow af (pre++H++Z).toArray,_,.inl ?_,⟨rfl,rfl,rfl,by simp⟩,xS N f2 f3 f4 f5 (by rw[<-Q];exact u9 O),a8⟩;simp[execOp,resolve,invoke,builtin,Builtin.copy_,a4,a5,hX a3,Builtin.lenOf,aL,az,W,goInt]
theorem zd{hs:List av}{ad:Option Addr}{cs:List Value}{z:Value}{aq:Array TypeId}(i:Nat)(V:hd P t E sz=true)(bb:ly P E=some z)(be:z.cells.toList.length=sz)(bc:z.cells.toList.all VP=true)(aW:0<sz)
    (u:bf ah x=.slice (dN ad cap i sz) (n-i) (cap-i)) (W:aq[0]? =some t) [D:pe hs ad E sz n cap cs rest] (a5:i<=n)
    (k:∀C,C.length=cs.length->C.take (i*sz)=cs.take (i*sz)->K (.tuple #[]) (ag (aX E sz ad n cap C::rest))):cn r P ah ⟨d,.call ⟨.builtin .clear,#[x],aq⟩,ty,ps,bl,g⟩ (ag hs) K:=by
 refine cn.run rfl λw N=>?_;by_cases ar:n-i=0;obtain⟨j,H⟩:=D.tk;refine⟨.tuple #[],w,_,.inl ?_,fv.refl w,N.bk (fC H),k cs rfl rfl⟩;rw[ar]at u;cases aL:dN ad cap i sz<;>rw[aL]at u<;>simp[execOp,resolve,invoke,builtin,Builtin.clear_,u,W,(hX V w).1];obtain⟨j,H⟩:=D.tk;have aB:cs.length=n*sz:=(by obtain⟨a4,a9,a,b,a3,rfl,aH,a8⟩:=N.bk (fC H);exact(nF aH).1);have az:0<cs.length:=by rw[aB];exact Nat.mul_pos U aW
 obtain⟨af,pre,an,rfl,f2,f3,f4,f5,Q⟩:=xR N D.tk az;have au:w.heap[af]? =some (.cells (pre++cs++an).toArray E (0,0)):=(iB (nb af E _)).sat Q;have aQ:dN (some ⟨af,pre.length,none⟩) cap i sz=some ⟨af,pre.length+i*sz,none⟩:=(by rw[dN,al U];simp[iC]);rw[aQ]at u;have bd:(VH z.cells (n-i)).toList=(List.replicate (n-i) z.cells.toList).flatten:=(by grind[Ct,VH]);have Z:(VH z.cells (n-i)).toList.length=(n-i)*sz:=b4;have a0:(VH z.cells (n-i)).toList.all VP=true:=b4;have hmul:i*sz+(n-i)*sz=n*sz:=by rw[<-Nat.add_mul];congr 1;omega
 have O:=vb (P:=P) (off:=pre.length+i*sz) au (by rw[Z,mp,mp];omega) a0;rw[xT (by rw[Z];omega)]at O;have mj:(dC (i*sz) (VH z.cells (n-i)).toList cs).length=cs.length:=by grind[u9]
 refine⟨.tuple #[],w.setRow af (pre++dC (i*sz) (VH z.cells (n-i)).toList cs++an).toArray,_,.inl ?_,⟨rfl,rfl,rfl,by simp⟩,xS Q f2 f3 f4 f5 mj,k _ mj ?_⟩;obtain⟨m,hm⟩:∃m,n-i=m+1:=⟨n-i-1,by omega⟩;rw[hm]at u O;have a2:(zeroValue E).run P w=.ok z w:=by grind[vu]
 simp[execOp,resolve,invoke,builtin,Builtin.clear_,u,W,(hX V w).1,a2,O,hm];grind[dC]
def BJ(P:Program)(t:TypeId):Bool:=match P.underlying t with
  | some (.slice _)=>true
  | _=>false
theorem Mo{t:TypeId}(h:BJ P t=true)(p:Option Addr)(n c:Nat)(w:World):(Op.equal t (.slice p n c) (.slice none 0 0)).run P w=.ok p.isNone w:=by unfold BJ at h;cases hu:P.underlying t with|none=>rw[hu]at h;cases h|some u=>rw[hu]at h;(cases u<;>first|(cases h;done)|skip);have key:∀d,(YQ (d+1) t (.slice p n c) (.slice none 0 0)).run P w=.ok p.isNone w:=λd=>(by cases p<;>simp[YQ,underlying,hu]);exact key 9999
theorem Mn{p:Option Addr}{c:Nat}(u:BJ P t=true)(C:bf ah x=.slice p n c)(D:bf ah y=.slice none 0 0):bF P ah ⟨d,.binOp .eql t x y t',ty,ps,bl,g⟩ A (.bool p.isNone):=by intro w _;unfold execOp;simp only[C,D,eqGuard,binOp,VA,VV,Vs,Mo u];trivial
def v6(P:Program)(t:TypeId):Bool:=match P.underlying t with
  | some .bool=>true
  | _=>false
theorem D2{t:TypeId}(h:v6 P t=true)(a b:Bool)(w:World):(Op.equal t (.bool a) (.bool b)).run P w=.ok (a==b) w:=by unfold v6 at h;cases hu:P.underlying t with|none=>rw[hu]at h;cases h|some u=>rw[hu]at h;(cases u<;>first|(cases h;done)|skip);have key:∀d,(YQ (d+1) t (.bool a) (.bool b)).run P w=.ok (a==b) w:=λd=>(by simp[YQ,underlying,hu]);exact key 9999
theorem zx{a b:Bool}(u:v6 P t=true)(C:bf ah x=.bool a)(D:bf ah y=.bool b):bF P ah ⟨d,.binOp .eql t x y t',ty,ps,bl,g⟩ A (.bool (a==b)):=by intro w _;unfold execOp;simp only[C,D,eqGuard,binOp,VA,VV,Vs,D2 u];trivial
theorem uI{a b:Bool}(u:v6 P t=true)(C:bf ah x=.bool a)(D:bf ah y=.bool b):bF P ah ⟨d,.binOp .neq t x y t',ty,ps,bl,g⟩ A (.bool (a !=b)):=by intro w _;unfold execOp;simp only[C,D,eqGuard,binOp,VA,VV,Vs,D2 u];trivial
end
section
variable {r : Option Nat} {P : Program} {N : Nat} {Q : fk} {ah : Env} {aQ : List Deferred} {A : av} {c : Code}
theorem ab.fact{p:Prop}(h:∀d,A d->p)(k:p->ab r P N c Q ah aQ A):ab r P N c Q ah aQ A:=λa w C u=>
  k (let⟨d,_,x⟩:=u;h d x) a w C u
end
theorem JR{A:av}{E:Nat}{cs:List Value}(x:cN A E none cs):∀h,A h->cs=[]:=λh a=>by
  rcases x h a with d|⟨_,_,_,_,d,_⟩
  · exact d
  · cases d
def gw(r:Nat->Value)(ii:List Value):List Value:=[r 0,r 1,r 2,r 3,r 4,r 5,r 6,r 7]++ii
theorem Ho{r:Nat->Value}{ii:List Value}{p o:Nat}(u:p<8)(d:o=p):(gw r ii)[o]? =some (r p):=by rw[d];clear d;rcases p with _|_|_|_|_|_|_|_|p<;>first|rfl|omega
theorem R1{r:Nat->Value}{ii:List Value}{p o:Nat}(v:Value)(u:p<8)(d:o=p):dC o [v] (gw r ii)=gw (λx=>if x=p then v else r x) ii:=by rw[d];clear d;rcases p with _|_|_|_|_|_|_|_|p<;>first|rfl|omega
theorem Hn{r d:Nat->Value}{ii:List Value}(h:∀p,p<8->r p=d p):gw r ii=gw d ii:=by grind[gw]
theorem R0(r:Nat->Value)(ii:List Value):(gw r ii).length=8+ii.length:=by simp[gw];omega
theorem xH{n p:Nat}(d:p<n):∃L,(VF n).Perm (p::L)/\∀x∈L,x≠p/\x<n:=by
 have hm:p∈VF n:=b4
 obtain⟨s,t,e⟩:=XD hm;grind[List.nodup_range]
def dK{α:Type}(f:Nat->α)(p:Nat)(v:α):Nat->α:=λx=>if x=p then v else f x
theorem jy{α:Type}(f:Nat->α)(p:Nat)(v:α):dK f p v p=v:=by simp[dK]
theorem jb{α:Type}{f:Nat->α}{p x:Nat}{v:α}(h:x≠p):dK f p v x=f x:=by simp[dK,h]
def aP{α:Type}(f:Int->α)(p:Int)(v:α):Int->α:=λx=>if x=p then v else f x
theorem cm{α:Type}(f:Int->α)(p:Int)(v:α):aP f p v p=v:=by simp[aP]
theorem bQ{α:Type}{f:Int->α}{p x:Int}{v:α}(h:x≠p):aP f p v x=f x:=by simp[aP,h]
end Go.QM
namespace Go.QM
open Go Go.ChangeShapes Go.WideShapes Go.RowKit
def here(W:World):av:=λh=>∀i,h i=W.heap[i]?
theorem NO(W:World):sat W (sep (ag []) (here W)):=
  ⟨λi=>W.heap[i]?,λ_ _ h=>h,λ_=>none,λi=>W.heap[i]?,λ_=>.inl rfl,by funext i;rfl,rfl,λ_=>rfl⟩
theorem NN{W u:World}(s:fv W u){A:av}(h:sat u (sep A (here W))):Below W.heap.size W u:=by
 refine⟨s.os,s.tape,s.output,s.size,λk D=>?_⟩;obtain⟨x,C,a,b,d,rfl,_,w⟩:=h;have e:W.heap[k]? =some W.heap[k]:=b4
 rw[e];refine C k _ ?_;rcases d k with d|d;simp only[gj,d,w k];exact e;rw[w k,e]at d;cases d
theorem eQ.lawful{P:Program}{f:FuncId}{args:List Value}{rd:av->Prop}(h:eQ P f args rd [] (λ_:Unit=>.bool true) (λ_=>True) (λ_=>[])){W:World}(D:rd (here W)):
    Calls P f args.toArray W λe d=>e=.returned (.bool true)/\Below W.heap.size W d:=
  callsIn_wide.1 ((h.2 (here W) D W (NO W)).mono λ_ _ ⟨_,u,_,w,C⟩=>⟨u,NN w C⟩)
section
variable {H : Type} {enc : TypeId × Value → H} {P : Program}
theorem Ig(O:laidOutB P=true){W E:World}{Z:Nat->Bool}(N:Below W.heap.size W E):∀{C:List TypeId} {vs:List Value} {w:List (DataW H)} {p:List MemPlace},
    (∀t∈C,P.readableRec t=true/\t<P.types.size)->XW enc P W 0 (λ_=>true) true C vs w p->(∀x∈p,x.block<W.heap.size)->(∀x∈p,Z x.block=true)->
    XW enc P E 0 Z true C vs w p
  | [],vs,w,p,_,h,_,_=>by obtain⟨rfl,rfl,rfl⟩:=trodAll_nil h;exact trodAll_mk0
  | t::C,vs,w,p,D,h,Q,V=>by
   obtain⟨v,au,d,ar,p,q,rfl,rfl,rfl,ah,an⟩:=trodAll_cons h
   exact trodAll_cons_mk (WideElems.Trod_stays O (D t cG).1 (D t cG).2 ah (λx u=>N.same (Q x (by simp[u]))) (λx u=>V x (by simp[u])))
     (Ig O N (λt aq=>D t (by simp[aq])) an (λx u=>Q x (by simp[u])) (λx u=>V x (by simp[u])))
theorem Pl{f:Func}{s:ChangeSpec}{W w:World}{args:Array Value}{d:List (DataW H)}{before:List MemPlace}{aS:TypeId}
    (aw:DataW.Whole enc P f.params.toList s.vars false W args.toList d [] before) (hv:s.vars=[])
    (az:s.fn H d={results:=[.lit (.bool true)],args:=d})
    (ah:f.resultTypes=#[aS]) (an:P.underlying aS=some .bool) (aB:laidOutB P=true) (hr:∀t∈f.params.toList,P.readableRec t=true/\t<P.types.size)
    (V:Below W.heap.size W w):s.post enc P f false true false false W args (.bool true) w:=by
 have O:=aw.lt;have E:=aw;obtain⟨p,q,av,D,rfl,au,_⟩:=aw;rw[hv]at D;obtain⟨_,rfl⟩:=trodVars_none D;simp only[List.append_nil]at O au E;have Q:∀u:Nat->Bool,(∀x∈p,u x.block=true)->XW enc P w 0 u true f.params.toList args.toList d p:=by grind[Ig]
 have C:s.fn H (d++[])={results:=[.lit (.bool true)],args:=d}:=b4
 have Z:∀(b:Nat) (u:Nat->Bool) (N:Bool),XW enc P w b u N f.resultTypes.toList ((Value.bool true).resultList f.resultTypes.size) [.lit (.bool true)] []:=λb u N=>(by rw[ah];exact trodAll_cons_mk (shut_bool an true) trodAll_mk0);have aq:∀u:Nat->Bool,DataW.TrodVars enc P w u s.vars [] []:=by grind[DataW.TrodVars]
 refine⟨d,[],p,[],p,[],E,by rw[C];exact Z _ _ _,by rw[C];exact Q _ (λx ar=>by simpa using O x ar),by rw[C];exact aq _,V.frame _,λ_=>?_⟩;trivial
def cf(k:IntKind)(xs:List Int):List Value:=xs.map (λx=>.int k x)
theorem hT(k:IntKind)(xs:List Int):(cf k xs).length=xs.length:=by simp[cf]
theorem j0{k:IntKind}{xs:List Int}{i:Nat}{x:Int}(h:xs[i]? =some x):(cf k xs)[i*1]? =some (.int k x):=by simp[cf,h]
theorem Br{W:World}{a:Addr}{cs:List Value}(h:∀i v,cs[i]? =some v->W.cell? (a.add i)=some v):∃E,cN (here W) E (some a) cs:=by
 by_cases N:cs=[];exact⟨0,λ_ _=>.inl N⟩;obtain⟨v,l,rfl⟩:=List.exists_cons_of_ne_nil N;obtain⟨D,u,H⟩:=a;have d:W.cell? ⟨D,u,H⟩=some v:=by have:=h 0 v rfl;simpa[Addr.add]using this
 cases H with|some s=>simp only[World.cell?]at d;split at d<;>simp at d|none=>
 simp only[iC,World.cell?]at d h;cases w:W.heap[D]? with|none=>rw[w]at d;cases d|some o=>(cases o with|cells c t aW=>simp only[w]at d h;simp only[Option.isSome_none,Bool.false_eq_true,if_false]at d h;refine⟨t,λP e=>.inr ⟨_,c.toList.take u,c.toList.drop (u+(v::l).length),aW,rfl,?_,?_⟩⟩;have:u<c.size:=(Array.getElem?_eq_some_iff.1 d).1;simp;omega;rw[e,w];have key:(c.toList.drop u).take (v::l).length=v::l:=(by apply List.ext_getElem?;intro i;by_cases C:i<(v::l).length;rw[List.getElem?_take_of_lt C,List.getElem?_drop,Array.getElem?_toList];rw[h i _ (Ve C),Ve C];rw[Xn (by simp at C⊢;omega),Xn U]);have:c.toList.take u++(v::l)++c.toList.drop (u+(v::l).length)=c.toList:=(by rw[<-List.drop_drop,List.append_assoc];have O:v::l++(c.toList.drop u).drop (v::l).length=c.toList.drop u:=(by have:=V6 (v::l).length (c.toList.drop u);rw[key]at this;exact this);rw[O,V6]);rw[this]|_=>rw[w]at d;cases d)
end
end Go.QM
namespace Go.QM
open Go
structure ef(L:List Nat)(R:Prop):Prop where
  k:R
structure ak(c:Nat)(X:Prop):Prop where
  k:X
abbrev cJ(b:Nat):Option Addr:=some ⟨b,0,none⟩
abbrev ae(b:Nat):Value:=.pointer (some ⟨b,0,none⟩)
abbrev bK:=@eQ Yk
abbrev bt(f:FuncId)(a:List Value)(rd:av->Prop)(pre:List av)(v:Value)(post:List av):Prop:=eQ Yk f a rd pre (λ_:Unit=>v) (λ_=>True) (λ_=>post)
abbrev aa(x:Int):Value:=.int .i64 x
abbrev bn(x:Int):Value:=.int .u64 x
abbrev aT(x:Int):Value:=.int .u32 x
abbrev m7(x:Int):Value:=.int .u8 x
theorem ai{A B:av}(h:aE A B:=by repeat(first|exact a6 _|refine bM 0 rfl ?_|refine bM 1 rfl ?_|refine bM 2 rfl ?_|refine bM 3 rfl ?_|refine bM 4 rfl ?_|refine bM 5 rfl ?_|refine bM 6 rfl ?_|refine bM 7 rfl ?_|refine bM 8 rfl ?_|refine bM 9 rfl ?_|refine bM 10 rfl ?_|refine bM 11 rfl ?_|refine bM 12 rfl ?_|refine bM 13 rfl ?_|refine bM 14 rfl ?_|refine bM 15 rfl ?_|refine bM 16 rfl ?_|refine bM 17 rfl ?_|refine bM 18 rfl ?_)):aE A B:=h
theorem UZ{G R:Prop}(k:R)(h:ef [] R->G:=by intro z;(first|refine bM 0 rfl ?_|refine bM 1 rfl ?_|refine bM 2 rfl ?_|refine bM 3 rfl ?_|refine bM 4 rfl ?_|refine bM 5 rfl ?_|refine bM 6 rfl ?_|refine bM 7 rfl ?_|refine bM 8 rfl ?_|refine bM 9 rfl ?_|refine bM 10 rfl ?_|refine bM 11 rfl ?_|refine bM 12 rfl ?_|refine bM 13 rfl ?_|refine bM 14 rfl ?_|refine bM 15 rfl ?_|refine bM 16 rfl ?_|refine bM 17 rfl ?_|refine bM 18 rfl ?_);exact z.k):G:=h ⟨k⟩
theorem dQ{p:Prop}(h:p:=by first|assumption|(simp[ec]<;>omega)):p:=h
theorem aH{P:Program}{f:FuncId}{fn:Func}{c:Code}{N:Nat}{rs:List ResultVar}{args:List Value}{rd:av->Prop}{pre:List av}{Y:Type}{res:Y->Value}{φ:Y->Prop}{post:Y->List av}
    (aA:P.funcs[f]? =some fn) (br:fn.ntmps=N) (h:∀F,rd F->ab none P N c (b7 P rs res φ post F) (n2 args) [] (ag (pre++[F]))) (nn:fn.body=some c:=by rfl) (N0:fn.results=rs.toArray:=by rfl) (gV:Nat.ble args.length N=true:=by rfl) (he:lO P f=true:=by kernel_rfl):eQ P f args rd pre res φ post:=eQ.intro he aA nn br gV N0 h
section
variable {P : Program} {rs : List ResultVar} {Y : Type} {res : Y → Value} {φ : Y → Prop} {post : Y → List av} {F : av} {ah : Env} {A : av} {v w : Value}
theorem CK(y:Y)(gC:φ y)(h6:aE A (ag (post y++[F])))(gA:iK P rs [] ah A:=by exact trivial)(gB:jO []=res y:=by rfl):b7 P rs res φ post F .ret ah [] A:=b7.i y [] gA gB gC h6
theorem bu(y:Y)(gC:φ y)(h6:aE A (ag (post y++[F])))(gA:iK P rs [v] ah A:=by exact⟨rfl,trivial⟩)(gB:jO [v]=res y:=by rfl):b7 P rs res φ post F .ret ah [] A:=b7.i y [v] gA gB gC h6
theorem cQ(y:Y)(gC:φ y)(h6:aE A (ag (post y++[F])))(gA:iK P rs [v,w] ah A:=by exact⟨rfl,rfl,trivial⟩)(gB:jO [v,w]=res y:=by rfl):b7 P rs res φ post F .ret ah [] A:=b7.i y [v,w] gA gB gC h6
theorem mO(y:Y)(gC:φ y)(h6:aE A (ag (post y++[F])))(gA:iK P rs [] ah A:=by exact trivial)(gB:jO []=res y:=by rfl):b7 P rs res φ post F .normal ah [] A:=b7.n y [] gA gB gC h6
theorem US(y:Y)(gC:φ y)(h6:aE A (ag (post y++[F])))(gA:iK P rs [v] ah A:=by exact⟨rfl,trivial⟩)(gB:jO [v]=res y:=by rfl):b7 P rs res φ post F .normal ah [] A:=b7.n y [v] gA gB gC h6
theorem UT(y:Y)(gC:φ y)(h6:aE A (ag (post y++[F])))(gA:iK P rs [v,w] ah A:=by exact⟨rfl,rfl,trivial⟩)(gB:jO [v,w]=res y:=by rfl):b7 P rs res φ post F .normal ah [] A:=b7.n y [v,w] gA gB gC h6
end
section
variable {P : Program} {rs : List ResultVar} {res : Unit → Value} {φ : Unit → Prop} {post : Unit → List av} {F : av} {ah : Env} {A : av} {v w : Value}
theorem JW(h6:aE A (ag (post ()++[F])))(gA:iK P rs [] ah A:=by exact trivial)(gB:jO []=res ():=by rfl)(gC:φ ():=by trivial):b7 P rs res φ post F .ret ah [] A:=b7.i () [] gA gB gC h6
theorem eZ(h6:aE A (ag (post ()++[F])))(gA:iK P rs [v] ah A:=by exact⟨rfl,trivial⟩)(gB:jO [v]=res ():=by rfl)(gC:φ ():=by trivial):b7 P rs res φ post F .ret ah [] A:=b7.i () [v] gA gB gC h6
theorem hI(h6:aE A (ag (post ()++[F])))(gA:iK P rs [v,w] ah A:=by exact⟨rfl,rfl,trivial⟩)(gB:jO [v,w]=res ():=by rfl)(gC:φ ():=by trivial):b7 P rs res φ post F .ret ah [] A:=b7.i () [v,w] gA gB gC h6
theorem qo(h6:aE A (ag (post ()++[F])))(gA:iK P rs [] ah A:=by exact trivial)(gB:jO []=res ():=by rfl)(gC:φ ():=by trivial):b7 P rs res φ post F .normal ah [] A:=b7.n () [] gA gB gC h6
theorem UU(h6:aE A (ag (post ()++[F])))(gA:iK P rs [v] ah A:=by exact⟨rfl,trivial⟩)(gB:jO [v]=res ():=by rfl)(gC:φ ():=by trivial):b7 P rs res φ post F .normal ah [] A:=b7.n () [v] gA gB gC h6
theorem UV(h6:aE A (ag (post ()++[F])))(gA:iK P rs [v,w] ah A:=by exact⟨rfl,rfl,trivial⟩)(gB:jO [v,w]=res ():=by rfl)(gC:φ ():=by trivial):b7 P rs res φ post F .normal ah [] A:=b7.n () [v,w] gA gB gC h6
end
section
variable {r : Option Nat} {P : Program} {N : Nat} {ops : Array Oper} {l : List Oper} {Q : fk} {ah : Env} {aQ : List Deferred} {A : av} {K : Value → av → Prop}
variable {d : Option Tmp} {ty : TypeId} {ps : String} {bl : Array Edge} {g : Option (Nat × Bool)}
theorem bb{f:FuncId}{vs:List Value}{nV:List Operand}{r4:Array TypeId}{rd:av->Prop}{pre hs rest:List av}{Y:Type}{res:Y->Value}{φ:Y->Prop}{post:Y->List av}
    (spec:eQ P f vs rd pre res φ post) (k:∀y,φ y->K (res y) (ag (post y++rest))) (kA:lQ ah nV=vs:=by rfl) (lT:lF hs pre rest:=by exact eD.p) (rC:rd (ag rest):=by first|trivial|exact cw.aV):
    cn r P ah ⟨d,.call ⟨.value (.func f),nV.toArray,r4⟩,ty,ps,bl,g⟩ (ag hs) K:=aK spec kA lT rC k
theorem au{f:FuncId}{vs:List Value}{nV:List Operand}{r4:Array TypeId}{rd:av->Prop}{pre hs rest:List av}{res:Unit->Value}{φ:Unit->Prop}{post:Unit->List av}
    (spec:eQ P f vs rd pre res φ post) (k:K (res ()) (ag (post ()++rest))) (kA:lQ ah nV=vs:=by rfl) (lT:lF hs pre rest:=by exact eD.p) (rC:rd (ag rest):=by first|trivial|exact cw.aV):
    cn r P ah ⟨d,.call ⟨.value (.func f),nV.toArray,r4⟩,ty,ps,bl,g⟩ (ag hs) K:=aK spec kA lT rC λ_ _=>k
theorem eM{f:FuncId}{vs:List Value}{nV:List Operand}{r4:Array TypeId}{rd:av->Prop}{pre hs rest:List av}{Y:Type}{res:Y->Value}{φ:Y->Prop}{post:Y->List av}
    (spec:eQ P f vs rd pre res φ post) (rC:rd (ag rest)) (k:∀y,φ y->K (res y) (ag (post y++rest))) (kA:lQ ah nV=vs:=by rfl) (lT:lF hs pre rest:=by exact eD.p):
    cn r P ah ⟨d,.call ⟨.value (.func f),nV.toArray,r4⟩,ty,ps,bl,g⟩ (ag hs) K:=aK spec kA lT rC k
theorem ew{f:FuncId}{vs:List Value}{nV:List Operand}{r4:Array TypeId}{rd:av->Prop}{pre hs rest:List av}{res:Unit->Value}{φ:Unit->Prop}{post:Unit->List av}
    (spec:eQ P f vs rd pre res φ post) (rC:rd (ag rest)) (k:K (res ()) (ag (post ()++rest))) (kA:lQ ah nV=vs:=by rfl) (lT:lF hs pre rest:=by exact eD.p):
    cn r P ah ⟨d,.call ⟨.value (.func f),nV.toArray,r4⟩,ty,ps,bl,g⟩ (ag hs) K:=aK spec kA lT rC λ_ _=>k
end
section
variable {r : Option Nat} {P : Program} {N : Nat} {Q : fk} {ah : Env} {aQ : List Deferred} {A I : av}
theorem cD{id:Nat}{l:List Oper}(c:List (Nat×Bool))(NJ:aE A I)(h:b8 r P N l.toArray I [] c Q ah aQ A)(hm:P.follows .mixedOrders=true:=by kernel_rfl)(aR:y5 l.toArray [] c=true:=by kernel_rfl):ab r P N (.region id l.toArray true) Q ah aQ A:=ab.draw I [] c hm aR NJ h
end
theorem bG{G:Prop}(h:G:=by repeat(first|exact trivial|refine⟨rfl,?_⟩)):G:=h
theorem eO{α:Sort _}(a:α):∃v,a=v:=⟨a,rfl⟩
theorem U0{α:Sort _}(a:α):∃v,v=a:=⟨a,rfl⟩
theorem ao{B:av}{r gs:List av}(k:aE (ag (r)) (ag gs)):aE (ag (B::r)) (ag (B::gs)):=bM 0 rfl k
theorem bN{ee B:av}{r gs:List av}(k:aE (ag (ee::r)) (ag gs)):aE (ag (ee::B::r)) (ag (B::gs)):=bM 1 rfl k
theorem bw{ee d B:av}{r gs:List av}(k:aE (ag (ee::d::r)) (ag gs)):aE (ag (ee::d::B::r)) (ag (B::gs)):=bM 2 rfl k
theorem cO{ee d u B:av}{r gs:List av}(k:aE (ag (ee::d::u::r)) (ag gs)):aE (ag (ee::d::u::B::r)) (ag (B::gs)):=bM 3 rfl k
theorem eK{ee d u w B:av}{r gs:List av}(k:aE (ag (ee::d::u::w::r)) (ag gs)):aE (ag (ee::d::u::w::B::r)) (ag (B::gs)):=bM 4 rfl k
theorem eG{ee d u w C B:av}{r gs:List av}(k:aE (ag (ee::d::u::w::C::r)) (ag gs)):aE (ag (ee::d::u::w::C::B::r)) (ag (B::gs)):=bM 5 rfl k
instance (n:Nat):OfNat (Nat×Bool) n:=⟨(OfNat.ofNat n,false)⟩
instance:Neg (Nat×Bool):=⟨λx=>(x.1,true)⟩
theorem dn{G:Prop}(h:G:=by exact eZ ai):G:=h
theorem hH{G:Prop}(h:G:=by exact eZ (ao (ao (a6 _)))):G:=h
theorem j4{G:Prop}(h:G:=by exact eZ (ao (a6 _))):G:=h
theorem kp{G:Prop}(h:G:=by exact eZ (ay (⟨bx,a,af,aS,B,M,ad,cap⟩:jg) br ai)):G:=h
theorem kT{G:Prop}(h:G:=by exact b7.i () [_,_] ⟨(fa (n:=3) rfl rfl rfl rfl),rfl,trivial⟩ rfl trivial ai):G:=h
theorem nL{G:Prop}(h:G:=by exact bu _ trivial ai):G:=h
theorem ot{G:Prop}(h:G:=by exact b7.i () [_,_] ⟨(fa (n:=2) rfl rfl rfl rfl),rfl,trivial⟩ rfl trivial ai):G:=h
theorem o1{G:Prop}(h:G:=by exact eZ (ay (⟨ad,cap,aF⟩:kX) br ai)):G:=h
theorem q8{G:Prop}(h:G:=by exact bu false (λh=>(by cases h)) ai):G:=h
theorem sf{G:Prop}(h:G:=by exact eZ (ay (⟨A,aF⟩:oA) aw ai)):G:=h
theorem sd{G:Prop}(h:G:=by exact b7.i () [_] ⟨rfl,trivial⟩ (congrArg Value.bool (decide_eq_decide.2 U)) trivial (ao (a6 _))):G:=h
theorem se{G:Prop}(h:G:=by exact b7.i () [_] ⟨rfl,trivial⟩ (congrArg Value.bool (du U).symm) trivial (ao (a6 _))):G:=h
theorem tm{G:Prop}(h:G:=by exact hI (ao (ao (ao (a6 _))))):G:=h
theorem tn{G:Prop}(h:G:=by exact cQ (0,2) (λbL=>absurd bL (show ¬(2:Int)=0 by decide)) (ay (⟨cb,aC⟩:eP) trivial (eG (eG (ay (bV.mk aI bz:bV) trivial ai))))):G:=h
theorem tp{G:Prop}(h:G:=by exact b7.i () [_,_,_] ⟨(fa (n:=3) rfl rfl rfl rfl),rfl,rfl,trivial⟩ rfl trivial (ay (⟨(aP ad to (dN (ad to) (cap to) 1 3)),(aP cap to (cap to-1)),aF⟩:kX) br ai)):G:=h
theorem vr{G:Prop}(h:G:=by exact b7.i () [_] ⟨rfl,trivial⟩ (by rw[aA];rfl) trivial ai):G:=h
theorem vt{G:Prop}(h:G:=by exact b7.i () [_] ⟨rfl,trivial⟩ (by rw[aA];rfl) trivial (ao (a6 _))):G:=h
theorem yk{G:Prop}(h:G:=by exact qo (ao (ao (a6 _)))):G:=h
theorem yl{G:Prop}(h:G:=by exact b7.i () [_,_] ⟨(fa (n:=3) rfl rfl rfl rfl),rfl,trivial⟩ (by rw[aO];rfl) trivial (bN (a6 _))):G:=h
theorem ym{G:Prop}(h:G:=by exact cQ (0,X) (.inl ⟨qF,rfl⟩) ai):G:=h
theorem yn{G:Prop}(h:G:=by exact eZ (ay ⟨ad,cap,aF⟩ br (ao (ao (ao (ao (ao (a6 _)))))))):G:=h
theorem yo{G:Prop}(h:G:=by exact b7.i () [_,_,_] ⟨(fa (n:=3) rfl rfl rfl rfl),rfl,rfl,trivial⟩ rfl trivial (ay (⟨ad,cap,aF⟩:kX) br ai)):G:=h
theorem yp{G:Prop}(h:G:=by exact hI (ay (⟨ad,cap,aF⟩:kX) br ai)):G:=h
theorem yq{G:Prop}(h:G:=by exact cQ ((0,ct),dv) ⟨cH,λe=>by omega,λe=>by omega,λe=>by omega⟩ (ao (eN 0 rfl (hD U) ai))):G:=h
theorem yr{G:Prop}(h:G:=by exact bu (none:Option oy) ⟨λ_=>eF,λz h=>(by cases h)⟩ (ay () trivial ai)):G:=h
theorem ys{G:Prop}(h:G:=by exact b7.i _ [_] ⟨rfl,trivial⟩ rfl (λh=>(by cases h)) ai):G:=h
theorem Ci{G:Prop}(h:G:=by exact eZ (ay ⟨A,aF⟩ aw (ao (ao (ao (ao (a6 _))))))):G:=h
theorem Cj{G:Prop}(h:G:=by exact hI (ay (⟨A,aF⟩:oA) aw ai)):G:=h
theorem Ck{G:Prop}(h:G:=by exact hI (ay A trivial (ay ⟨ad,cap,aF,bv⟩ aw (bN (bN (bN (bN (bN (bN (a6 _)))))))))):G:=h
theorem Cl{G:Prop}(h:G:=by exact b7.i (AQ,qM) [_] ⟨(fa (n:=3) rfl rfl rfl rfl),trivial⟩ rfl nO.zero ((dG 277 5 _).trans ((dG 47 1 _).trans ai))):G:=h
theorem Cm{G:Prop}(h:G:=by exact cQ (0,9) (λbL=>absurd bL (show ¬(9:Int)=0 by decide)) (ay (⟨cb,aC⟩:eP) trivial (eG (eG (ay (bV.mk aI bz:bV) trivial ai))))):G:=h
theorem Cn{G:Prop}(h:G:=by exact cQ (0,3) (λbL=>absurd bL (show ¬(3:Int)=0 by decide)) (ay (⟨cb,aC⟩:eP) trivial (eG (eG (ay (bV.mk aI bz:bV) trivial ai))))):G:=h
theorem Co{G:Prop}(h:G:=by exact b7.i () [_,_] ⟨(fa (n:=3) rfl rfl rfl rfl),rfl,trivial⟩ rfl trivial (ay (⟨bx,a,af,aS,B,M,ad,cap⟩:jg) br ai)):G:=h
theorem Cp{G:Prop}(h:G:=by exact bu ((b5 X.A.l t 3).2,⟨X,T,aM,hv,bm,aV,I,bq,lv⟩) (dL.refl _) (ay (⟨aN,a7,aJ,hm,bg,lm,bo⟩:dm) ⟨aw,aR.up U⟩ ai)):G:=h
theorem Cq{G:Prop}(h:G:=by exact bu ((b5 X.A.l t 5).2,⟨X,T,aM,hv,bm,aV,I,bq,lv⟩) (dL.refl _) (ay (⟨aN,a7,aJ,hm,bg,lm,bo⟩:dm) ⟨aw,aR.up U⟩ ai)):G:=h
theorem Cr{G:Prop}(h:G:=by exact bu _ trivial (ay (⟨aN,a7,aJ,hm,bg,lm,bo⟩:dm) ⟨aw,aR⟩ ai)):G:=h
theorem Cs{G:Prop}(h:G:=by exact b7.i false [_] ⟨rfl,trivial⟩ rfl (λh=>(by cases h)) ai):G:=h
theorem I3{G:Prop}(h:G:=by exact eZ (ay A trivial (ay ⟨ad,cap,aF,bv⟩ aw (ao (ao (ao (ao (ao (ao (a6 _)))))))))):G:=h
theorem I4{G:Prop}(h:G:=by exact cQ ((none,0),X) (.inl ⟨hv,rfl⟩) ((dG 33 1 _).trans (ao (ay (bV.mk aI bz:bV) trivial ai)))):G:=h
theorem I5{G:Prop}(h:G:=by exact b7.i (OV,false) [_,_] ⟨(fa (n:=5) rfl rfl rfl rfl),rfl,trivial⟩ rfl ⟨⟨by decide,by decide,by decide,by decide⟩,λh=>absurd h am⟩ ai):G:=h
theorem I6{G:Prop}(h:G:=by exact b7.i (0,0) [_] ⟨(fa (n:=2) rfl rfl rfl rfl),trivial⟩ rfl ⟨by decide,by decide⟩ ai):G:=h
theorem I7{G:Prop}(h:G:=by exact cQ ([],none,0,1) ⟨Nat.zero_le _,λm h=>(by cases h)⟩ ((dG 427 4 _).trans ai)):G:=h
theorem I8{G:Prop}(h:G:=by exact b7.i () [_,_] ⟨(fa (n:=3) rfl rfl rfl rfl),rfl,trivial⟩ rfl trivial (ay (⟨ad,cap,aF⟩:kX) br ai)):G:=h
theorem I9{G:Prop}(h:G:=by exact eZ (ay (⟨ad,cap,aF⟩:kX) br (ao (ao (cX 0 0 id rfl rfl rfl (λ_ _=>rfl) bO.symm (ao (ao (a6 _)))))))):G:=h
theorem Ja{G:Prop}(h:G:=by exact CK ⟨X,T,aM,hv,bm,aV,I,bq,lv⟩ rfl (ay (⟨aN,a7,aJ,hm,bg,lm,bo⟩:dm) ⟨aw,aR.up U⟩ ai)):G:=h
theorem Jb{G:Prop}(h:G:=by exact bu (ct,⟨X,T,aM,hv,bm,aV,I,bq,lv⟩) (dL.refl _) (ay (⟨aN,a7,aJ,hm,bg,lm,bo⟩:dm) ⟨aw,aR.up U⟩ ai)):G:=h
theorem Jc{G:Prop}(h:G:=by exact bu (12,⟨X,T,aM,hv,bm,aV,I,bq,lv⟩) (dL.refl _) (ay (⟨aN,a7,aJ,hm,bg,lm,bo⟩:dm) ⟨aw,aR.up U⟩ ai)):G:=h
theorem Jd{G:Prop}(h:G:=by exact bu (12,⟨X,T,aM,hv,bm,aV,I,bq,lv⟩) ⟨dL.refl _,λ_ _ _ _=>rfl⟩ (ay (⟨aN,a7,aJ,hm,bg,lm,bo⟩:dm) ⟨aw,aR.up U⟩ (ao (cO (ao (bw (bw (bw (cX 0 0 g rfl rfl rfl (λ_ _=>rfl) eb.symm ai))))))))):G:=h
theorem Je{G:Prop}(h:G:=by exact cQ (⟨fx,T,aM,hv,bm,aV,I,bq,lv⟩,0,ct) ⟨.inr bO,λ_=>⟨rfl,rfl,λh=>absurd h he⟩,λ_ h=>absurd h he⟩ (ay (⟨aN,a7,aJ,hm,bg,lm,bo⟩:dm) ⟨aw.oZ jD mj,aR.oZ U U⟩ (cO (ay (⟨cb,aC⟩:eP) trivial ai)))):G:=h
theorem Jf{G:Prop}(h:G:=by exact b7.i () [_,_] ⟨(fa (n:=2) rfl rfl rfl rfl),rfl,trivial⟩ rfl trivial (cO (ay (⟨aN,a7,aJ,hm,bg,lm,bo⟩:dm) ⟨aw,aR⟩ (cO (ay (⟨cb,aC⟩:eP) trivial ai))))):G:=h
theorem Jg{G:Prop}(h:G:=by exact b7.i () [_] ⟨(fa (n:=3) rfl rfl rfl rfl),trivial⟩ rfl trivial ai):G:=h
theorem Jh{G:Prop}(h:G:=by exact bu (none:Option oy) (λz h=>(by cases h)) (ay () trivial ai)):G:=h
theorem Jj{c:Nat}{L:List Nat}{G R X:Prop}(z:ef (c::L) R)(k:ef L R->X)(a:Nat.ble 0 c=true:=by rfl)(b:Nat.ble c 23=true:=by rfl)(h:ak c X->G:=by intro z;(first|(have:ak 0 _:=z;refine e rfl ?_)|(have:ak 1 _:=z;change ab _ _ _ _ _ _ _ (ag [_,_]))|(have:ak 2 _:=z;refine aY.nil (ib ?_))|(have:ak 3 _:=z;refine q rfl rfl (fW (v:=.int _ _) rfl) ?_)|(have:ak 4 _:=z;refine ab.skip (ib ?_))|(have:ak 5 _:=z;change aY _ _ _ _ _ _ _ _ (ag [_,_]))|(have:ak 6 _:=z;refine ab.seq ?_)|(have:ak 7 _:=z;change aY _ _ _ _ _ _ _ _ (ag [_,_,_]))|(have:ak 8 _:=z;change ab _ _ _ _ _ _ _ (ag [_]))|(have:ak 9 _:=z;refine⟨ai,?_⟩)|(have:ak 10 _:=z;change aY _ _ _ _ _ _ _ _ (ag [_,_,_,_,_]))|(have:ak 11 _:=z;refine bI rfl rfl rfl (fW (v:=.int _ _) rfl) ?_)|(have:ak 12 _:=z;refine dc rfl rfl rfl (fW (v:=.int _ _) rfl) ?_)|(have:ak 13 _:=z;change ab _ _ _ _ _ _ _ (ag [_,_,_]))|(have:ak 14 _:=z;change aY _ _ _ _ _ _ _ _ (ag [_,_,_,_,_,_]))|(have:ak 15 _:=z;refine dY rfl rfl ?_)|(have:ak 16 _:=z;change aY _ _ _ _ _ _ _ _ (ag [_,_,_,_,_,_,_]))|(have:ak 17 _:=z;change aY _ _ _ _ _ _ _ _ (ag [_,_,_,_]))|(have:ak 18 _:=z;refine q rfl rfl (fW (v:=.bool _) rfl) ?_)|(have:ak 19 _:=z;refine ab.exit (lP (lP (qv (ib ?_)))))|(have:ak 20 _:=z;refine ab.Lv rfl ?_)|(have:ak 21 _:=z;change aY _ _ _ _ _ _ _ _ (ag [_,_,_,_,_,_,_,_,_]))|(have:ak 22 _:=z;refine ab.skip (jK (ib ?_)))|(have:ak 23 _:=z;refine eB ?_));exact z.k):G:=h ⟨k ⟨z.k⟩⟩
theorem Jz{c:Nat}{L:List Nat}{G R X:Prop}(z:ef (c::L) R)(k:ef L R->X)(a:Nat.ble 72 c=true:=by rfl)(b:Nat.ble c 95=true:=by rfl)(h:ak c X->G:=by intro z;(first|(have:ak 72 _:=z;refine ab.DA rfl ?_)|(have:ak 73 _:=z;refine q rfl rfl (oC (v:=.int _ _) rfl) ?_)|(have:ak 74 _:=z;refine b8.nil (ib ?_))|(have:ak 75 _:=z;refine ab.block ?_)|(have:ak 76 _:=z;refine ab.ret (rt ?_))|(have:ak 77 _:=z;refine bI rfl rfl rfl (fW (v:=.pointer _) rfl) ?_)|(have:ak 78 _:=z;change aY _ _ _ _ _ _ _ _ (ag [_,_,_,_,_,_,_,_]))|(have:ak 79 _:=z;change ab _ _ _ _ _ _ _ (ag [_,_,_,_,_,_,_,_,_]))|(have:ak 80 _:=z;refine q rfl rfl (js rfl) ?_)|(have:ak 81 _:=z;refine q rfl rfl (cY 0 rfl rfl) ?_)|(have:ak 82 _:=z;change ab _ _ _ _ _ _ _ (ag [_,_,_,_,_]))|(have:ak 83 _:=z;refine q rfl rfl (oC (v:=.slice _ _ _) rfl) ?_)|(have:ak 84 _:=z;refine ab.ret (kJ (rt ?_)))|(have:ak 85 _:=z;refine q rfl rfl (fF rfl rfl rfl) ?_)|(have:ak 86 _:=z;refine q rfl rfl (fW (v:=.slice _ _ _) rfl) ?_)|(have:ak 87 _:=z;change ab _ _ _ _ _ _ _ (ag [_,_,_,_]))|(have:ak 88 _:=z;refine bI rfl rfl rfl (cY 0 rfl rfl) ?_)|(have:ak 89 _:=z;refine bI rfl rfl rfl (js rfl) ?_)|(have:ak 90 _:=z;refine q rfl rfl (xm rfl) ?_)|(have:ak 91 _:=z;refine L2 rfl rfl rfl ?_)|(have:ak 92 _:=z;refine q rfl rfl (pu (v:=.int _ _) (λ_=>rfl)) ?_)|(have:ak 93 _:=z;refine q rfl rfl (xk rfl rfl) ?_)|(have:ak 94 _:=z;refine bI rfl rfl rfl (fF rfl rfl rfl) ?_)|(have:ak 95 _:=z;refine pt rfl rfl ?_));exact z.k):G:=h ⟨k ⟨z.k⟩⟩
theorem JA{c:Nat}{L:List Nat}{G R X:Prop}(z:ef (c::L) R)(k:ef L R->X)(a:Nat.ble 144 c=true:=by rfl)(b:Nat.ble c 167=true:=by rfl)(h:ak c X->G:=by intro z;(first|(have:ak 144 _:=z;refine bI rfl rfl rfl (fW (v:=.bool _) rfl) ?_)|(have:ak 145 _:=z;change ab _ _ _ _ _ _ _ (ag [_,_,_,_,_,_,_,_]))|(have:ak 146 _:=z;change aY _ _ _ _ _ _ _ _ (ag [_,_,_,_,_,_,_,_,_,_]))|(have:ak 147 _:=z;refine ab.ret ?_)|(have:ak 148 _:=z;change aY _ _ _ _ _ _ _ _ (ag [_]))|(have:ak 149 _:=z;refine bI rfl rfl rfl (fW (v:=.tuple _) rfl) ?_)|(have:ak 150 _:=z;refine q rfl rfl (ek (cs:=[.int _ _,.int _ _]) rfl) ?_)|(have:ak 151 _:=z;refine q rfl rfl (Bg (v:=.bool _) rfl rfl) ?_)|(have:ak 152 _:=z;refine bs (cs:=[.int _ _]) rfl ?_)|(have:ak 153 _:=z;refine q rfl rfl (oC rfl) ?_)|(have:ak 154 _:=z;refine q rfl rfl (hJ rfl rfl U U) ?_)|(have:ak 155 _:=z;refine aY.nil (jK (ib ?_)))|(have:ak 156 _:=z;refine q rfl rfl (D0 rfl rfl rfl) ?_)|(have:ak 157 _:=z;refine ab.region ?_)|(have:ak 158 _:=z;refine dc rfl rfl rfl (wr rfl rfl) ?_)|(have:ak 159 _:=z;change aY _ _ _ _ _ _ _ _ (ag [_,_,_,_,_,_,_,_,_,_,_,_,_]))|(have:ak 160 _:=z;refine dc rfl rfl rfl (gtr rfl rfl) ?_)|(have:ak 161 _:=z;change ab _ _ _ _ _ _ _ (ag [_,_,_,_,_,_]))|(have:ak 162 _:=z;refine Rn rfl rfl ?_)|(have:ak 163 _:=z;refine eH rfl rfl rfl rfl (fF rfl rfl rfl) ?_)|(have:ak 164 _:=z;refine q rfl rfl (fW (v:=.pointer _) rfl) ?_)|(have:ak 165 _:=z;refine ab.ret (kJ (rt (rt (kJ (rt ?_))))))|(have:ak 166 _:=z;refine q rfl rfl (oC (v:=.pointer _) rfl) ?_)|(have:ak 167 _:=z;refine dc rfl rfl rfl (fF rfl rfl rfl) ?_));exact z.k):G:=h ⟨k ⟨z.k⟩⟩
theorem JB{c:Nat}{L:List Nat}{G R X:Prop}(z:ef (c::L) R)(k:ef L R->X)(a:Nat.ble 216 c=true:=by rfl)(b:Nat.ble c 239=true:=by rfl)(h:ak c X->G:=by intro z;(first|(have:ak 216 _:=z;refine q rfl rfl (gtr rfl rfl) ?_)|(have:ak 217 _:=z;refine bI rfl rfl rfl (Bg (v:=.bool _) rfl rfl) ?_)|(have:ak 218 _:=z;refine dc rfl rfl rfl (xk rfl rfl) ?_)|(have:ak 219 _:=z;refine q rfl rfl (nH rfl rfl U U) ?_)|(have:ak 220 _:=z;refine q rfl rfl (fQ (vs:=[_,_]) 2 rfl rfl rfl rfl) ?_)|(have:ak 221 _:=z;refine q rfl rfl (fQ (vs:=[_,_,_]) 3 rfl rfl rfl rfl) ?_)|(have:ak 222 _:=z;refine gm (l:=[.int _ _,.int _ _,.int _ _]) rfl rfl ?_)|(have:ak 223 _:=z;change ab _ _ _ _ _ _ _ (ag [_,_,_,_,_,_,_]))|(have:ak 224 _:=z;refine q rfl rfl (len 33 1 rfl rfl) ?_)|(have:ak 225 _:=z;change aE _ _/\b8 _ _ _ _ _ _ _ _ _ _ (ag [_,_,_,_,_,_,_,_,_,_]))|(have:ak 226 _:=z;refine eH rfl rfl rfl rfl (fW (v:=.int _ _) rfl) ?_)|(have:ak 227 _:=z;refine q rfl rfl (len 47 1 rfl rfl) ?_)|(have:ak 228 _:=z;refine bI rfl rfl rfl (fQ (vs:=[_,_]) 2 rfl rfl rfl rfl) ?_)|(have:ak 229 _:=z;refine q rfl rfl (ek (cs:=[.int _ _,.int _ _,.int _ _]) rfl) ?_)|(have:ak 230 _:=z;refine DK rfl ?_)|(have:ak 231 _:=z;refine b8.nil (jK (ib ?_)))|(have:ak 232 _:=z;change aE _ _/\b8 _ _ _ _ _ _ _ _ _ _ (ag [_,_,_,_,_,_,_,_,_]))|(have:ak 233 _:=z;refine gm (l:=[.int _ _,.int _ _,.bool _]) rfl rfl ?_)|(have:ak 234 _:=z;refine q rfl rfl (ek (cs:=[.int _ _,.int _ _,.bool _]) rfl) ?_)|(have:ak 235 _:=z;refine gm (l:=[.int _ _,.int _ _]) rfl rfl ?_)|(have:ak 236 _:=z;refine LW rfl rfl rfl ?_)|(have:ak 237 _:=z;change aE _ _/\b8 _ _ _ _ _ _ _ _ _ _ (ag [_,_,_,_,_,_]))|(have:ak 238 _:=z;change aE _ _/\b8 _ _ _ _ _ _ _ _ _ _ (ag [_,_,_,_,_,_,_]))|(have:ak 239 _:=z;change aE _ _/\b8 _ _ _ _ _ _ _ _ _ _ (ag [_,_,_])));exact z.k):G:=h ⟨k ⟨z.k⟩⟩
theorem Jk{c:Nat}{L:List Nat}{G R X:Prop}(z:ef (c::L) R)(k:ef L R->X)(a:Nat.ble 288 c=true:=by rfl)(b:Nat.ble c 311=true:=by rfl)(h:ak c X->G:=by intro z;(first|(have:ak 288 _:=z;refine dc rfl rfl rfl (leq rfl rfl) ?_)|(have:ak 289 _:=z;refine q rfl rfl (fW (v:=.tuple _) rfl) ?_)|(have:ak 290 _:=z;refine q rfl rfl (wr rfl rfl) ?_)|(have:ak 291 _:=z;refine q rfl rfl (cY 2 rfl rfl) ?_)|(have:ak 292 _:=z;refine e0 (v:=.agg #[_,_,_]) (l:=[.int _ _,.int _ _,.int _ _]) rfl rfl ?_)|(have:ak 293 _:=z;change aE _ _/\b8 _ _ _ _ _ _ _ _ _ _ (ag [_,_,_,_,_,_,_,_]))|(have:ak 294 _:=z;refine bs (cs:=[.int _ _,.int _ _]) rfl ?_)|(have:ak 295 _:=z;refine dc rfl rfl rfl (cY 3 rfl rfl) ?_)|(have:ak 296 _:=z;refine q rfl rfl (pu (v:=.bool _) (λ_=>rfl)) ?_)|(have:ak 297 _:=z;change aE _ _/\b8 _ _ _ _ _ _ _ _ _ _ (ag [_,_,_,_,_]))|(have:ak 298 _:=z;refine eH rfl rfl rfl rfl (js rfl) ?_)|(have:ak 299 _:=z;change aY _ _ _ _ _ _ _ _ (ag [_,_,_,_,_,_,_,_,_,_,_,_]))|(have:ak 300 _:=z;refine q rfl rfl (fW rfl) ?_)|(have:ak 301 _:=z;refine dc rfl rfl rfl (fW (v:=.pointer _) rfl) ?_)|(have:ak 302 _:=z;refine q rfl rfl (fW (v:=.func (.func gv) #[] lb.toArray) rfl) ?_)|(have:ak 303 _:=z;refine dc rfl rfl rfl (geq rfl rfl) ?_)|(have:ak 304 _:=z;refine eH rfl rfl rfl rfl (fW (v:=.pointer _) rfl) ?_)|(have:ak 305 _:=z;refine q rfl rfl (pu (v:=.slice _ _ _) (λ_=>rfl)) ?_)|(have:ak 306 _:=z;refine q rfl rfl (conv .i64 .u64 rfl rfl rfl (p7 U)) ?_)|(have:ak 307 _:=z;refine q rfl rfl (conv .u64 .i64 rfl rfl rfl (oX U)) ?_)|(have:ak 308 _:=z;refine e0 (v:=.agg #[_,_,_]) (l:=[.pointer _,.int _ _,.int _ _]) rfl rfl ?_)|(have:ak 309 _:=z;refine st (v:=.agg #[_,_,_,_,_]) (vs:=[_,_,_,_,_]) 5 rfl rfl rfl rfl rfl rfl (Nat.le_of_ble_eq_true rfl) rfl ?_)|(have:ak 310 _:=z;refine bI rfl rfl rfl (fQ (vs:=[_,_,_]) 3 rfl rfl rfl rfl) ?_)|(have:ak 311 _:=z;refine q rfl rfl (gN 33 1 rfl rfl rfl U dQ) ?_));exact z.k):G:=h ⟨k ⟨z.k⟩⟩
theorem Jl{c:Nat}{L:List Nat}{G R X:Prop}(z:ef (c::L) R)(k:ef L R->X)(a:Nat.ble 312 c=true:=by rfl)(b:Nat.ble c 335=true:=by rfl)(h:ak c X->G:=by intro z;(first|(have:ak 312 _:=z;change ab _ _ _ _ _ _ _ (ag [_,_,_,_,_,_,_,_,_,_]))|(have:ak 313 _:=z;change aY _ _ _ _ _ _ _ _ (ag [_,_,_,_,_,_,_,_,_,_,_]))|(have:ak 314 _:=z;refine q rfl rfl (conv .i64 .u64 rfl rfl rfl rfl) ?_)|(have:ak 315 _:=z;refine q rfl rfl (mul rfl rfl rfl) ?_)|(have:ak 316 _:=z;apply ab.open 1 rfl)|(have:ak 317 _:=z;refine dc rfl rfl rfl (fW (v:=.bool _) rfl) ?_)|(have:ak 318 _:=z;refine bI rfl rfl rfl (Bh (v:=.bool _) rfl rfl) ?_)|(have:ak 319 _:=z;refine dc rfl rfl rfl (xm rfl) ?_)|(have:ak 320 _:=z;refine q rfl rfl (len 277 5 rfl rfl) ?_)|(have:ak 321 _:=z;refine ab.bk (fN 0 rfl bO) ?_)|(have:ak 322 _:=z;change aE _ _/\b8 _ _ _ _ _ _ _ _ _ _ (ag [_,_,_,_]))|(have:ak 323 _:=z;refine q rfl rfl (len 3 1 rfl rfl) ?_)|(have:ak 324 _:=z;refine bI rfl rfl rfl (fW (v:=.slice _ _ _) rfl) ?_)|(have:ak 325 _:=z;refine aY.nil ?_)|(have:ak 326 _:=z;refine xg QM.encI ?_)|(have:ak 327 _:=z;refine bI rfl rfl rfl (oC (v:=.slice _ _ _) rfl) ?_)|(have:ak 328 _:=z;refine gm (l:=ints [_,_,_]) rfl rfl ?_)|(have:ak 329 _:=z;refine eH rfl rfl rfl rfl (cY 2 rfl rfl) ?_)|(have:ak 330 _:=z;refine q rfl rfl (fQ (vs:=ints [_,_,_]) 3 rfl rfl rfl rfl) ?_)|(have:ak 331 _:=z;refine ab.bk (fN 2 rfl bO) ?_)|(have:ak 332 _:=z;refine ab.exit (lP (lP (qv ?_))))|(have:ak 333 _:=z;change ab _ _ _ _ _ _ _ (ag [_,_,_,_,_,_,_,_,_,_,_,_]))|(have:ak 334 _:=z;refine st (v:=.agg #[_,_,_,_]) (vs:=[_,_,_,_]) 4 rfl rfl rfl rfl rfl rfl (Nat.le_of_ble_eq_true rfl) rfl ?_)|(have:ak 335 _:=z;change ab _ _ _ _ _ _ _ (ag [_,_,_,_,_,_,_,_,_,_,_])));exact z.k):G:=h ⟨k ⟨z.k⟩⟩
theorem Jm{c:Nat}{L:List Nat}{G R X:Prop}(z:ef (c::L) R)(k:ef L R->X)(a:Nat.ble 360 c=true:=by rfl)(b:Nat.ble c 383=true:=by rfl)(h:ak c X->G:=by intro z;(first|(have:ak 360 _:=z;refine q rfl rfl (kh 3 278 rfl rfl (dS.int rfl) rfl rfl) ?_)|(have:ak 361 _:=z;refine bI rfl rfl rfl (cY 9 rfl rfl) ?_)|(have:ak 362 _:=z;refine gm (l:=[.int _ _,.int _ _,.int _ _,.int _ _,.int _ _,.bool _,.int _ _,.slice _ _ _,.slice _ _ _]) rfl rfl ?_)|(have:ak 363 _:=z;refine m5 rfl rfl ?_)|(have:ak 364 _:=z;refine L0 rfl rfl rfl rfl ?_)|(have:ak 365 _:=z;refine bI rfl rfl rfl (oC (v:=.int _ _) rfl) ?_)|(have:ak 366 _:=z;refine bI rfl rfl rfl (cY 2 rfl rfl) ?_)|(have:ak 367 _:=z;refine dc rfl rfl rfl (cY 0 rfl rfl) ?_)|(have:ak 368 _:=z;refine st (v:=.slice _ _ _) (vs:=[_]) 1 rfl rfl rfl rfl rfl rfl (Nat.le_of_ble_eq_true rfl) rfl ?_)|(have:ak 369 _:=z;refine dc rfl rfl rfl (Bh (v:=.bool _) rfl rfl) ?_)|(have:ak 370 _:=z;refine eH rfl rfl rfl rfl (cY 0 rfl rfl) ?_)|(have:ak 371 _:=z;refine L1 rfl rfl rfl ai ?_)|(have:ak 372 _:=z;refine bI rfl rfl rfl (xm rfl) ?_)|(have:ak 373 _:=z;refine q rfl rfl (Qi rfl) ?_)|(have:ak 374 _:=z;refine bI rfl rfl rfl (fQ (vs:=ints [_,_]) 2 rfl rfl rfl rfl) ?_)|(have:ak 375 _:=z;refine bI rfl rfl rfl (conv .u32 .i64 rfl rfl rfl (nK U U)) ?_)|(have:ak 376 _:=z;refine gm (l:=[.int _ _,.int _ _,.int _ _,.int _ _,.bool _]) rfl rfl ?_)|(have:ak 377 _:=z;change ab _ _ _ _ _ _ _ (ag [_,_,_,_,_,_,_,_,_,_,_,_,_]))|(have:ak 378 _:=z;refine q rfl rfl (add rfl rfl rfl) ?_)|(have:ak 379 _:=z;refine bI rfl rfl rfl (wr rfl rfl) ?_)|(have:ak 380 _:=z;refine q rfl rfl (fQ (vs:=[aa op,aa s,aa a,aa b,aa bJ,.bool ca,bn x,.slice bB ws.length bU,.slice bH aU.length bZ,aT t,aT cE,aT h,aa r]) 13 rfl rfl rfl a1) ?_)|(have:ak 381 _:=z;refine q rfl rfl (lss rfl rfl) ?_)|(have:ak 382 _:=z;refine bI rfl rfl rfl (pu (v:=.int _ _) (λ_=>rfl)) ?_)|(have:ak 383 _:=z;refine q rfl rfl (cY 3 rfl rfl) ?_));exact z.k):G:=h ⟨k ⟨z.k⟩⟩
theorem Jn{c:Nat}{L:List Nat}{G R X:Prop}(z:ef (c::L) R)(k:ef L R->X)(a:Nat.ble 384 c=true:=by rfl)(b:Nat.ble c 407=true:=by rfl)(h:ak c X->G:=by intro z;(first|(have:ak 384 _:=z;refine e0 (v:=.agg #[_,_]) (l:=[.int _ _,.int _ _]) rfl rfl ?_)|(have:ak 385 _:=z;refine ab.bk (fN 3 rfl bO) ?_)|(have:ak 386 _:=z;refine dc rfl rfl rfl (Bg (v:=.bool _) rfl rfl) ?_)|(have:ak 387 _:=z;refine eH rfl rfl rfl rfl (mi 0 rfl rfl dQ) ?_)|(have:ak 388 _:=z;refine bI rfl rfl rfl (hJ rfl rfl U U) ?_)|(have:ak 389 _:=z;refine aY.known 5 rfl (c:=false) (du U) ?_)|(have:ak 390 _:=z;refine q rfl rfl (len 296 2 rfl rfl) ?_)|(have:ak 391 _:=z;refine dc rfl rfl rfl (fW (v:=.slice _ _ _) rfl) ?_)|(have:ak 392 _:=z;refine q rfl rfl (A1 rfl) ?_)|(have:ak 393 _:=z;refine q rfl rfl (n3 0 rfl rfl) ?_)|(have:ak 394 _:=z;refine dy (i:=0) rfl rfl rfl a1 (fW (v:=.pointer _) rfl) ?_)|(have:ak 395 _:=z;refine q rfl rfl (fQ (vs:=[_,_,_,_,_]) 5 rfl rfl rfl rfl) ?_)|(have:ak 396 _:=z;refine gm (l:=[.int _ _,.slice _ _ _,.slice _ _ _]) rfl rfl ?_)|(have:ak 397 _:=z;change aE _ _/\b8 _ _ _ _ _ _ _ _ _ _ (ag [_,_,_,_,_,_,_,_,_,_,_]))|(have:ak 398 _:=z;refine bI rfl rfl rfl (pu (v:=.slice _ _ _) (λ_=>rfl)) ?_)|(have:ak 399 _:=z;change aE _ _/\b8 _ _ _ _ _ _ _ _ _ _ (ag [_,_,_,_,_,_,_,_,_,_,_,_,_,_,_,_,_]))|(have:ak 400 _:=z;refine q rfl rfl (cY 5 rfl rfl) ?_)|(have:ak 401 _:=z;refine bI rfl rfl rfl (cY 4 rfl rfl) ?_)|(have:ak 402 _:=z;refine dc rfl rfl rfl (fQ (vs:=[_,_,_]) 3 rfl rfl rfl rfl) ?_)|(have:ak 403 _:=z;refine bI rfl rfl rfl (ek (cs:=[aa op,aa s,aa a,aa b,aa bJ,.bool (decide ((f9:Int)=1)),bn cI,.slice none 0 0,.slice none 0 0]) a1) ?_)|(have:ak 404 _:=z;refine st (v:=.agg (List.toArray [aa op,aa s,aa a,aa b,aa bJ,.bool (decide ((f9:Int)=1)),bn cI,.slice none 0 0,.slice none 0 0])) (vs:=[aa op,aa s,aa a,aa b,aa bJ,.bool (decide ((f9:Int)=1)),bn cI,.slice none 0 0,.slice none 0 0]) 9 rfl rfl rfl rfl rfl rfl (Nat.le_of_ble_eq_true rfl) rfl ?_)|(have:ak 405 _:=z;refine e0 (v:=.agg (List.toArray [aa op,aa s,aa a,aa b,aa bJ,.bool ca,bn x,.slice bB ws.length bU,.slice bH aU.length bZ,aT t,aT cE,aT h,aa r])) (l:=[aa op,aa s,aa a,aa b,aa bJ,.bool ca,bn x,.slice bB ws.length bU,.slice bH aU.length bZ,aT t,aT cE,aT h,aa r]) rfl rfl ?_)|(have:ak 406 _:=z;refine q rfl rfl (cY 1 rfl rfl) ?_)|(have:ak 407 _:=z;refine q rfl rfl (gN 3 1 rfl rfl rfl U dQ) ?_));exact z.k):G:=h ⟨k ⟨z.k⟩⟩
theorem Jo{c:Nat}{L:List Nat}{G R X:Prop}(z:ef (c::L) R)(k:ef L R->X)(a:Nat.ble 408 c=true:=by rfl)(b:Nat.ble c 431=true:=by rfl)(h:ak c X->G:=by intro z;(first|(have:ak 408 _:=z;refine dc rfl rfl rfl (lss rfl rfl) ?_)|(have:ak 409 _:=z;refine q rfl rfl (cY 4 rfl rfl) ?_)|(have:ak 410 _:=z;refine q rfl rfl (geq rfl rfl) ?_)|(have:ak 411 _:=z;refine bI rfl rfl rfl (nH rfl rfl U U) ?_)|(have:ak 412 _:=z;refine dc rfl rfl rfl (D0 rfl rfl rfl) ?_)|(have:ak 413 _:=z;refine q rfl rfl (uD (tj:=[]) (ti:=[.pointer _]) rfl rfl) ?_)|(have:ak 414 _:=z;refine e0 (v:=.int _ _) (l:=[.int _ _]) rfl rfl ?_)|(have:ak 415 _:=z;refine dy (i:=1) rfl rfl rfl a1 (js rfl) ?_)|(have:ak 416 _:=z;refine dy (i:=2) rfl rfl rfl a1 (cY 0 rfl rfl) ?_)|(have:ak 417 _:=z;refine q rfl rfl (len 427 4 rfl rfl) ?_)|(have:ak 418 _:=z;refine q rfl rfl (gN 427 4 rfl rfl rfl U dQ) ?_)|(have:ak 419 _:=z;refine dc rfl rfl rfl (len 277 5 rfl rfl) ?_)|(have:ak 420 _:=z;refine q rfl rfl (gN 277 5 rfl rfl rfl U dQ) ?_)|(have:ak 421 _:=z;refine ab.bk (fN 3 rfl eb) ?_)|(have:ak 422 _:=z;refine e0 (v:=.agg #[_,_,_]) (l:=[.int _ _,.int _ _,.bool _]) rfl rfl ?_)|(have:ak 423 _:=z;refine aK (vi b T id) rfl eD.p trivial ?_)|(have:ak 424 _:=z;refine bI rfl rfl rfl (kh 33 35 rfl rfl (dS.u32 rfl) rfl rfl) ?_)|(have:ak 425 _:=z;change aY _ _ _ _ _ _ _ _ (ag [_,_,_,_,_,_,_,_,_,_,_,_,_,_]))|(have:ak 426 _:=z;change aE _ _/\ev _ _ _ _ _ _ _ _ _ _ _ (ag [_,_,_]))|(have:ak 427 _:=z;refine bI rfl rfl rfl (cY 10 rfl rfl) ?_)|(have:ak 428 _:=z;refine bI rfl rfl rfl (cY 11 rfl rfl) ?_)|(have:ak 429 _:=z;refine q rfl rfl (cY 7 rfl rfl) ?_)|(have:ak 430 _:=z;refine q rfl rfl (len 103 12 rfl rfl) ?_)|(have:ak 431 _:=z;refine bI rfl rfl rfl (cY 1 rfl rfl) ?_));exact z.k):G:=h ⟨k ⟨z.k⟩⟩
theorem Jp{c:Nat}{L:List Nat}{G R X:Prop}(z:ef (c::L) R)(k:ef L R->X)(a:Nat.ble 432 c=true:=by rfl)(b:Nat.ble c 455=true:=by rfl)(h:ak c X->G:=by intro z;(first|(have:ak 432 _:=z;refine q rfl rfl (conv .u32 .i64 rfl rfl rfl (nK U U)) ?_)|(have:ak 433 _:=z;refine bI rfl rfl rfl (cY 3 rfl rfl) ?_)|(have:ak 434 _:=z;apply aY.open 0 rfl)|(have:ak 435 _:=z;refine bI rfl rfl rfl (jI 8 90 1 rfl rfl rfl U U) ?_)|(have:ak 436 _:=z;refine q rfl rfl (gN 405 3 rfl rfl rfl U dQ) ?_)|(have:ak 437 _:=z;refine bI rfl rfl rfl (gtr rfl rfl) ?_)|(have:ak 438 _:=z;refine q rfl rfl (FH 3 3 rfl rfl (dS.int rfl) rfl rfl) ?_)|(have:ak 439 _:=z;refine q rfl rfl (gN 47 1 rfl rfl rfl U dQ) ?_)|(have:ak 440 _:=z;refine dc rfl rfl rfl (nH rfl rfl U U) ?_)|(have:ak 441 _:=z;refine q rfl rfl (len 5 1 rfl rfl) ?_)|(have:ak 442 _:=z;refine bI rfl rfl rfl (ek (cs:=[.int _ _,.int _ _]) rfl) ?_)|(have:ak 443 _:=z;refine dy (i:=3) rfl rfl rfl a1 (fF rfl rfl rfl) ?_)|(have:ak 444 _:=z;change aE _ _/\b8 _ _ _ _ _ _ _ _ _ _ (ag [_,_,_,_,_,_,_,_,_,_,_,_]))|(have:ak 445 _:=z;refine q rfl rfl (ek (cs:=[.pointer _,.pointer _,.pointer _]) rfl) ?_)|(have:ak 446 _:=z;refine e0 (v:=.agg #[_,_,_]) (l:=[.pointer _,.pointer _,.pointer _]) rfl rfl ?_)|(have:ak 447 _:=z;refine gm (l:=[.int _ _,.int _ _,.int _ _,.bool _]) rfl rfl ?_)|(have:ak 448 _:=z;change aE _ _/\b8 _ _ _ _ _ _ _ _ _ _ (ag [_,_,_,_,_,_,_,_,_,_,_,_,_,_,_,_,_,_,_]))|(have:ak 449 _:=z;refine q rfl rfl (cY 17 rfl rfl) ?_)|(have:ak 450 _:=z;refine q rfl rfl (kh 3 211 rfl rfl (dS.int rfl) rfl rfl) ?_)|(have:ak 451 _:=z;refine bI rfl rfl rfl (cY 6 rfl rfl) ?_)|(have:ak 452 _:=z;refine bI rfl rfl rfl (cY 7 rfl rfl) ?_)|(have:ak 453 _:=z;refine q rfl rfl (ek (cs:=[aa 0,aa 0,aa 0,aa 0,aa 0,.bool false,bn 0,.slice none 0 0,.slice none 0 0]) a1) ?_)|(have:ak 454 _:=z;refine st (v:=.agg (List.toArray [aa 0,aa 0,aa 0,aa 0,aa 0,.bool false,bn 0,.slice none 0 0,.slice none 0 0])) (vs:=[aa 0,aa 0,aa 0,aa 0,aa 0,.bool false,bn 0,.slice none 0 0,.slice none 0 0]) 9 rfl rfl rfl rfl rfl rfl (Nat.le_of_ble_eq_true rfl) rfl ?_)|(have:ak 455 _:=z;refine gm (l:=[.int _ _,.int _ _,.slice _ _ _]) rfl rfl ?_));exact z.k):G:=h ⟨k ⟨z.k⟩⟩
theorem Jq{c:Nat}{L:List Nat}{G R X:Prop}(z:ef (c::L) R)(k:ef L R->X)(a:Nat.ble 456 c=true:=by rfl)(b:Nat.ble c 479=true:=by rfl)(h:ak c X->G:=by intro z;(first|(have:ak 456 _:=z;refine q rfl rfl (Bh (v:=.bool _) rfl rfl) ?_)|(have:ak 457 _:=z;apply ab.open 0 rfl)|(have:ak 458 _:=z;apply ab.open 2 rfl)|(have:ak 459 _:=z;refine cD [0,1,2,3,4,5,6,7,8,9] (aE.refl _) ?_)|(have:ak 460 _:=z;refine ab.exit (lP (qv (ib ?_))))|(have:ak 461 _:=z;refine q rfl rfl (ob rfl rfl U U) ?_)|(have:ak 462 _:=z;refine bI rfl rfl rfl (len 405 3 rfl rfl) ?_)|(have:ak 463 _:=z;refine aY.known 7 rfl (c:=true) (da U) ?_)|(have:ak 464 _:=z;refine dc rfl rfl rfl (conv .i64 .u64 rfl rfl rfl (p7 U)) ?_)|(have:ak 465 _:=z;refine dc rfl rfl rfl (len 5 1 rfl rfl) ?_)|(have:ak 466 _:=z;refine dc rfl rfl rfl (pS rfl rfl U U) ?_)|(have:ak 467 _:=z;refine aY.known 7 rfl (c:=false) (du U) ?_)|(have:ak 468 _:=z;refine q rfl rfl (jI 21 294 1 rfl rfl rfl U U) ?_)|(have:ak 469 _:=z;refine q rfl rfl (fF rfl rfl (yW U U)) ?_)|(have:ak 470 _:=z;refine aY.bk (fN 2 rfl gi) ?_)|(have:ak 471 _:=z;refine eH rfl rfl rfl rfl (cY 1 rfl rfl) ?_)|(have:ak 472 _:=z;refine eH rfl rfl rfl rfl (xm rfl) ?_)|(have:ak 473 _:=z;refine q rfl rfl (ek (cs:=[.int _ _,.int _ _,.int _ _,.int _ _,.int _ _]) rfl) ?_)|(have:ak 474 _:=z;refine dc rfl rfl rfl (cY 4 rfl rfl) ?_)|(have:ak 475 _:=z;refine bI rfl rfl rfl (oC (v:=.pointer _) rfl) ?_)|(have:ak 476 _:=z;refine aY.known 5 rfl (c:=true) (da U) ?_)|(have:ak 477 _:=z;refine q rfl rfl (uG rfl) ?_)|(have:ak 478 _:=z;refine q rfl rfl (conv .i64 .u32 rfl rfl rfl (q5 U U)) ?_)|(have:ak 479 _:=z;refine q rfl rfl (vP rfl rfl (CY U U)) ?_));exact z.k):G:=h ⟨k ⟨z.k⟩⟩
theorem Jr{c:Nat}{L:List Nat}{G R X:Prop}(z:ef (c::L) R)(k:ef L R->X)(a:Nat.ble 480 c=true:=by rfl)(b:Nat.ble c 503=true:=by rfl)(h:ak c X->G:=by intro z;(first|(have:ak 480 _:=z;refine st (v:=.agg (List.toArray (ints [_,_]))) (vs:=ints [_,_]) 2 rfl rfl rfl rfl rfl rfl (Nat.le_of_ble_eq_true rfl) rfl ?_)|(have:ak 481 _:=z;refine bI rfl rfl rfl (xk rfl rfl) ?_)|(have:ak 482 _:=z;refine e0 (v:=.agg #[_,_,_,_]) (l:=[.int _ _,.int _ _,.int _ _,.slice _ _ _]) rfl rfl ?_)|(have:ak 483 _:=z;refine ap 4 rfl rfl rfl rfl rfl (Nat.le_of_ble_eq_true rfl) (show _=cf .u32 [x]from rfl) rfl U gq ?_)|(have:ak 484 _:=z;refine q rfl rfl (ek (cs:=[.pointer _,.pointer _,.pointer _,.pointer _,.pointer _,.pointer _,.pointer _,.pointer _,.pointer _,.pointer _,.pointer _]) rfl) ?_)|(have:ak 485 _:=z;refine e0 (v:=.agg _) (l:=[.pointer _,.pointer _,.pointer _,.pointer _,.pointer _,.pointer _,.pointer _,.pointer _,.pointer _,.pointer _,.pointer _]) rfl rfl ?_)|(have:ak 486 _:=z;refine eH rfl rfl rfl rfl (wr rfl rfl) ?_)|(have:ak 487 _:=z;refine q rfl rfl (gp (vs:=[_,_,_,_]) 4 rfl rfl (kz uE hm 0 4 U U (show _=[aa (f1:Int),aa t1,aa ei,.bool g1]from rfl)) rfl am) ?_)|(have:ak 488 _:=z;refine q rfl rfl (ek (cs:=[.int _ _,.slice _ _ _,.slice _ _ _]) rfl) ?_)|(have:ak 489 _:=z;refine ab.ret (rt (kJ (rt (rt (kJ (rt ?_)))))))|(have:ak 490 _:=z;refine dc rfl rfl rfl (len 47 1 rfl rfl) ?_)|(have:ak 491 _:=z;change ab _ _ _ _ _ _ _ (ag [_,_,_,_,_,_,_,_,_,_,_,_,_,_,_,_]))|(have:ak 492 _:=z;change aY _ _ _ _ _ _ _ _ (ag [_,_,_,_,_,_,_,_,_,_,_,_,_,_,_,_,_,_]))|(have:ak 493 _:=z;change aY _ _ _ _ _ _ _ _ (ag [_,_,_,_,_,_,_,_,_,_,_,_,_,_,_]))|(have:ak 494 _:=z;refine st (v:=.bool _) (vs:=[_]) 1 rfl rfl rfl rfl rfl rfl (Nat.le_of_ble_eq_true rfl) rfl ?_)|(have:ak 495 _:=z;refine bI rfl rfl rfl (kh 3 278 rfl rfl (dS.int rfl) rfl rfl) ?_)|(have:ak 496 _:=z;refine ab.bk (B:=ag [dq b (c0 T bh),F]) ((ay (⟨bx,a,af,aS,B,M,ad,cap⟩:jg) br ai)) ?_)|(have:ak 497 _:=z;refine q rfl rfl (FH 33 35 rfl rfl (dS.u32 rfl) rfl rfl) ?_)|(have:ak 498 _:=z;refine bI rfl rfl rfl (conv .i64 .u32 rfl rfl rfl (q5 U U)) ?_)|(have:ak 499 _:=z;refine bI rfl rfl rfl (cY 5 rfl rfl) ?_)|(have:ak 500 _:=z;refine gm (l:=Pm) rfl rfl ?_)|(have:ak 501 _:=z;refine st (v:=.agg qL.toArray) (vs:=qL) 24 rfl rfl rfl rfl rfl rfl (Nat.le_of_ble_eq_true rfl) rfl ?_)|(have:ak 502 _:=z;refine eH rfl rfl rfl rfl (fW (v:=.slice _ _ _) rfl) ?_)|(have:ak 503 _:=z;refine ab.ret (rt (kJ (rt ?_)))));exact z.k):G:=h ⟨k ⟨z.k⟩⟩
theorem Js{c:Nat}{L:List Nat}{G R X:Prop}(z:ef (c::L) R)(k:ef L R->X)(a:Nat.ble 504 c=true:=by rfl)(b:Nat.ble c 527=true:=by rfl)(h:ak c X->G:=by intro z;(first|(have:ak 504 _:=z;refine q rfl rfl (cY 6 rfl rfl) ?_)|(have:ak 505 _:=z;refine gm (l:=[.int _ _,.int _ _,.int _ _,.slice _ _ _]) rfl rfl ?_)|(have:ak 506 _:=z;refine q rfl rfl (ek (cs:=[.pointer _]) rfl) ?_)|(have:ak 507 _:=z;refine e0 (v:=.agg _) (l:=[.int _ _,.int _ _,.int _ _,.int _ _,.int _ _,.bool _,.int _ _,.slice _ _ _,.slice _ _ _]) rfl rfl ?_)|(have:ak 508 _:=z;refine q rfl rfl (gN 103 12 rfl rfl rfl U dQ) ?_)|(have:ak 509 _:=z;refine dc rfl rfl rfl (gN 103 12 rfl rfl rfl U dQ) ?_)|(have:ak 510 _:=z;refine dc rfl rfl rfl (mi 3 rfl rfl dQ) ?_)|(have:ak 511 _:=z;change aE _ _/\b8 _ _ _ _ _ _ _ _ _ _ (ag [_,_,_,_,_,_,_,_,_,_,_,_,_,_,_,_,_,_,_,_]))|(have:ak 512 _:=z;refine st (v:=.int _ _) (vs:=[_]) 1 rfl rfl rfl rfl rfl rfl (Nat.le_of_ble_eq_true rfl) rfl ?_)|(have:ak 513 _:=z;refine dc rfl rfl rfl (js rfl) ?_)|(have:ak 514 _:=z;refine ej (v:=.int _ _) (vs:=[_]) 1 rfl rfl rfl rfl rfl rfl am U (wN (i:=i) U U _) ?_)|(have:ak 515 _:=z;refine q rfl rfl (jZ 3 1 rfl rfl rfl U U dQ) ?_)|(have:ak 516 _:=z;refine bI rfl rfl rfl (fF rfl rfl (Ho lU U)) ?_)|(have:ak 517 _:=z;refine q rfl rfl (dk rfl rfl (hO qG)) ?_)|(have:ak 518 _:=z;refine bI rfl rfl rfl (cY 8 rfl rfl) ?_)|(have:ak 519 _:=z;refine eH rfl rfl rfl rfl (jZ 405 3 rfl rfl rfl U U dQ) ?_)|(have:ak 520 _:=z;refine q rfl rfl (Mn rfl rfl rfl) ?_)|(have:ak 521 _:=z;refine aY.known 11 rfl (c:=false) (du U) ?_)|(have:ak 522 _:=z;refine e0 (v:=.agg #[_,_]) (l:=[.pointer _,.int _ _]) rfl rfl ?_)|(have:ak 523 _:=z;refine q rfl rfl (gN 296 2 rfl rfl rfl U dQ) ?_)|(have:ak 524 _:=z;refine q rfl rfl (oh 296 2 k rfl rfl rfl rfl U) ?_)|(have:ak 525 _:=z;refine aY.known 11 rfl (c:=true) (da U) ?_)|(have:ak 526 _:=z;refine cD [0,1,2,3,4,5,6,7,8,9,10] (aE.refl _) ?_)|(have:ak 527 _:=z;refine eH rfl rfl rfl rfl (xk rfl rfl) ?_));exact z.k):G:=h ⟨k ⟨z.k⟩⟩
theorem Jt{c:Nat}{L:List Nat}{G R X:Prop}(z:ef (c::L) R)(k:ef L R->X)(a:Nat.ble 528 c=true:=by rfl)(b:Nat.ble c 551=true:=by rfl)(h:ak c X->G:=by intro z;(first|(have:ak 528 _:=z;refine gm (l:=[.pointer _,.int _ _]) rfl rfl ?_)|(have:ak 529 _:=z;refine e0 (v:=.agg #[_,_,_,_,_]) (l:=[.int _ _,.int _ _,.int _ _,.int _ _,.int _ _]) rfl rfl ?_)|(have:ak 530 _:=z;refine ab.bk (fN 1 rfl bO) ?_)|(have:ak 531 _:=z;refine aY.bk (fN 4 rfl gi) ?_)|(have:ak 532 _:=z;refine ab.loop (ι:=Nat) (λi=>i<=l.length/\∀j t,j<i->l[j]? =some t->pr t=false) (λi=>[(0,.slice ad l.length cap),(1,.func (.func gv) #[] lb.toArray),(7,aa l.length),(8,aa i)]) (λi=>ag [F]) (λi=>l.length-i) 0 ⟨Nat.zero_le _,by intro j t h;omega⟩ bG (ao (a6 _)) ?_)|(have:ak 533 _:=z;refine bI rfl rfl rfl (n3 0 rfl rfl) ?_)|(have:ak 534 _:=z;refine q rfl rfl (ek (cs:=[.int _ _,.int _ _,.slice _ _ _]) rfl) ?_)|(have:ak 535 _:=z;refine q rfl rfl (dk rfl rfl rfl) ?_)|(have:ak 536 _:=z;(first|refine q rfl rfl (fF rfl rfl rfl) ?_|refine q rfl rfl (dk rfl rfl rfl) ?_))|(have:ak 537 _:=z;refine dy (i:=6) rfl rfl rfl a1 (fF rfl rfl rfl) ?_)|(have:ak 538 _:=z;refine q rfl rfl (ek (cs:=ints [_,_]) rfl) ?_)|(have:ak 539 _:=z;refine cD [0,1,2,3,4,5,6,7,8,9,10,11,12] (aE.refl _) ?_)|(have:ak 540 _:=z;refine gm (l:=ints [_,_]) rfl rfl ?_)|(have:ak 541 _:=z;refine bI rfl rfl rfl (ek (cs:=[.int _ _,.int _ _,.int _ _,.slice _ _ _]) rfl) ?_)|(have:ak 542 _:=z;refine ab.bk (fN 5 rfl bO) ?_)|(have:ak 543 _:=z;refine bI rfl rfl rfl (kh 3 216 rfl rfl (dS.int rfl) rfl rfl) ?_)|(have:ak 544 _:=z;refine ap 8 rfl rfl rfl rfl rfl (Nat.le_of_ble_eq_true rfl) (show _=ints [t.id]from rfl) rfl U gq ?_)|(have:ak 545 _:=z;refine bI rfl rfl rfl (gN 33 1 rfl rfl rfl U dQ) ?_)|(have:ak 546 _:=z;refine bI rfl rfl rfl (conv .u64 .i64 rfl rfl rfl (oX U)) ?_)|(have:ak 547 _:=z;change aE _ _/\ev _ _ _ _ _ _ _ _ _ _ _ (ag [_,_,_,_,_,_,_]))|(have:ak 548 _:=z;change aE _ _/\b8 _ _ _ _ _ _ _ _ _ _ (ag [_,_,_,_,_,_,_,_,_,_,_,_,_,_,_]))|(have:ak 549 _:=z;refine q rfl rfl (rl (a:=hp) (b:=rg) rfl rfl U U rfl) ?_)|(have:ak 550 _:=z;refine aY.known 62 rfl (c:=false) (du U) ?_)|(have:ak 551 _:=z;refine q rfl rfl (bF.to (v:=((off %8:Nat):Int)) (pS rfl rfl U U) U) ?_));exact z.k):G:=h ⟨k ⟨z.k⟩⟩
theorem Ju{c:Nat}{L:List Nat}{G R X:Prop}(z:ef (c::L) R)(k:ef L R->X)(a:Nat.ble 552 c=true:=by rfl)(b:Nat.ble c 575=true:=by rfl)(h:ak c X->G:=by intro z;(first|(have:ak 552 _:=z;refine q rfl rfl (bF.to (v:=((a+off:Nat):Int)) (hJ (a:=((a:Nat):Int)) (b:=((off:Nat):Int)) rfl rfl U U) U) ?_)|(have:ak 553 _:=z;refine q rfl rfl (kh 3 318 rfl rfl (dS.int rfl) rfl rfl) ?_)|(have:ak 554 _:=z;refine q rfl rfl (jI 16 3 1 rfl rfl rfl U U) ?_)|(have:ak 555 _:=z;refine ab.bk (fN 6 rfl eb) ?_)|(have:ak 556 _:=z;refine q rfl rfl (len 75 3 rfl rfl) ?_)|(have:ak 557 _:=z;refine cD [0,1,2,3,4,5,6,7,8] (aE.refl _) ?_)|(have:ak 558 _:=z;refine q rfl rfl (len 71 2 rfl rfl) ?_)|(have:ak 559 _:=z;refine ab.bk (B:=ag [c4 aG af top n ⟨X,T,aM,hv,bm,aV,I,bq,lv⟩ [],F]) (ay (⟨aN,a7,aJ,hm,bg,lm,bo⟩:dm) ⟨aw,aR⟩ ai) ?_)|(have:ak 560 _:=z;refine aY.bk (B:=ag [c4 aG af top n ⟨X,T,aM,hv,bm,aV,bP,bq,lv⟩ [],F]) (ay (⟨aN,a7,aJ,hm,bg,lm,bo⟩:dm) ⟨aw.oL gD.2.1,aR.oL bP⟩ ai) ?_)|(have:ak 561 _:=z;refine dc rfl rfl rfl (cY 8 rfl rfl) ?_)|(have:ak 562 _:=z;refine bI rfl rfl rfl (jI 19 340 3 rfl rfl rfl U U) ?_)|(have:ak 563 _:=z;change aE _ _/\ev _ _ _ _ _ _ _ _ _ _ _ (ag [_,_,_,_,_,_,_,_,_,_,_,_,_,_,_,_]))|(have:ak 564 _:=z;refine e0 (v:=.agg #[_]) (l:=[.pointer _]) rfl rfl ?_)|(have:ak 565 _:=z;refine q rfl rfl (fQ (vs:=_) 9 rfl rfl rfl rfl) ?_)|(have:ak 566 _:=z;refine q rfl rfl (conv .i64 .u64 rfl rfl rfl (p7 (a:=0) am)) ?_)|(have:ak 567 _:=z;refine q rfl rfl (ek (cs:=[.int _ _,.int _ _,.int _ _,.int _ _,.int _ _,.bool _,.int _ _,.slice _ _ _,.slice _ _ _]) rfl) ?_)|(have:ak 568 _:=z;refine e0 (v:=.agg (List.toArray [aa op,aa s,aa a,aa b,aa bJ,.bool ca,bn x,.slice bB ws.length bU,.slice bH aU.length bZ])) (l:=[aa op,aa s,aa a,aa b,aa bJ,.bool ca,bn x,.slice bB ws.length bU,.slice bH aU.length bZ]) rfl rfl ?_)|(have:ak 569 _:=z;refine bI rfl rfl rfl (jI 256 99 1 rfl rfl rfl U U) ?_)|(have:ak 570 _:=z;refine eH rfl rfl rfl rfl (gN 33 1 rfl rfl rfl U dQ) ?_)|(have:ak 571 _:=z;refine gm (l:=[.pointer _,.int _ _,.int _ _]) rfl rfl ?_)|(have:ak 572 _:=z;refine dc rfl rfl rfl (cY 1 rfl rfl) ?_)|(have:ak 573 _:=z;refine bI rfl rfl rfl (oC (v:=.bool _) rfl) ?_)|(have:ak 574 _:=z;refine q rfl rfl (AW rfl rfl rfl) ?_)|(have:ak 575 _:=z;refine ab.loop (ι:=Nat) (λi=>i<=xs.length/\∀j t,j<i->xs[j]? =some t->pr t=false) (λi=>[(0,.slice ad xs.length cap),(1,.func (.func gv) #[] lb.toArray),(7,aa xs.length),(8,aa i)]) (λi=>ag [F]) (λi=>xs.length-i) 0 ⟨Nat.zero_le _,by intro j t h;omega⟩ bG (ao (a6 _)) ?_));exact z.k):G:=h ⟨k ⟨z.k⟩⟩
theorem Jv{c:Nat}{L:List Nat}{G R X:Prop}(z:ef (c::L) R)(k:ef L R->X)(a:Nat.ble 576 c=true:=by rfl)(b:Nat.ble c 599=true:=by rfl)(h:ak c X->G:=by intro z;(first|(have:ak 576 _:=z;refine ab.loop (ι:=Nat×Nat×List Int) (λs=>hy xs pr s.1 s.2.1 s.2.2) (λs=>[(0,.slice ad xs.length cap),(1,.func (.func gv) #[] lb.toArray),(5,aa ((s.1:Nat):Int)),(6,aa ((s.2.1:Nat):Int))]) (λs=>ag [aX 3 1 ad xs.length cap (ints s.2.2),F]) (λs=>xs.length-s.2.1) ⟨k,k+1,xs⟩ aM bG (ao (ao (a6 _))) ?_)|(have:ak 577 _:=z;refine aK (rT eo _ aF S.length (iY A S) id) rfl (ed 0 rfl (ed 1 rfl (eC _))) trivial ?_)|(have:ak 578 _:=z;refine ap 8 rfl rfl rfl rfl rfl (Nat.le_of_ble_eq_true rfl) (show _=ints [id]from rfl) rfl U gq ?_)|(have:ak 579 _:=z;refine st (v:=.slice _ _ _) (vs:=[_]) 1 rfl rfl rfl rfl rfl rfl (by rw[R0];simp;omega) (R1 _ lU U) ?_)|(have:ak 580 _:=z;refine ab.bk (B:=ag [ez eo (iS S t.id (t.left-1)),F]) (ay ⟨ad,cap,aF,A⟩ NK (b9 1 rfl (congrArg (aj eo 261) (EE (λx=>by rw[Hs]))) (pv 3 rfl (λx _=>by dsimp only[mE];rw[Hs]) (List.Perm.refl _) (b9 1 rfl (by rw[Eg (Hr S t.id (t.left-1)),BE]) (cX 0 0 ⟨t.id,t.prio,t.whole,t.left-1⟩ rfl rfl rfl (λ_ _=>rfl) (Sk aO.bA bO _) (ao (a6 _))))))) ?_)|(have:ak 581 _:=z;refine bI rfl rfl rfl (uD (tj:=[]) (ti:=[.pointer _]) rfl rfl) ?_)|(have:ak 582 _:=z;refine e0 (v:=.agg (List.toArray (ints [_,_]))) (l:=ints [_,_]) rfl rfl ?_)|(have:ak 583 _:=z;refine e0 (v:=.agg (List.toArray (ints [_,_,_]))) (l:=ints [_,_,_]) rfl rfl ?_)|(have:ak 584 _:=z;refine bI rfl rfl rfl (fQ (vs:=ints [_,_,_]) 3 rfl rfl rfl rfl) ?_)|(have:ak 585 _:=z;refine eH rfl rfl rfl rfl (fQ (vs:=ints [_,_]) 2 rfl rfl rfl rfl) ?_)|(have:ak 586 _:=z;refine ab.draw _ [8] [0,1,2,3,4,5,6,7,-8] a1 a1 (aE.refl _) ?_)|(have:ak 587 _:=z;refine q rfl rfl (bF.to (v:=((fS n:Nat):Int)) (ln rfl rfl U U U) (by rw[fS];omega)) ?_)|(have:ak 588 _:=z;refine q rfl rfl (bF.to (v:=((o/64:Nat):Int)) (ln rfl rfl U U U) U) ?_)|(have:ak 589 _:=z;refine q rfl rfl (bF.to (v:=((o %64:Nat):Int)) (pS rfl rfl U U) U) ?_)|(have:ak 590 _:=z;refine bI rfl rfl rfl (jI 21 294 1 rfl rfl rfl U U) ?_)|(have:ak 591 _:=z;refine K5 (MF (some ⟨B gb.aD,0,none⟩) ((gb.aD:Int)*1024) t) rfl rfl (eC _) trivial ?_)|(have:ak 592 _:=z;refine bI rfl rfl rfl (oh 296 2 (k+1) rfl rfl rfl rfl U) ?_)|(have:ak 593 _:=z;refine ab.draw _ [11] [0,1,2,3,4,5,6,8,9,-7,10,-11] a1 a1 (ao (a6 _)) ?_)|(have:ak 594 _:=z;refine bI rfl rfl rfl (jI 8 165 1 rfl rfl rfl U U) ?_)|(have:ak 595 _:=z;refine q rfl rfl (ek (cs:=[.pointer _,.int _ _,.int _ _]) rfl) ?_)|(have:ak 596 _:=z;refine q rfl rfl (Ah 256 210 5 rfl rfl rfl U U) ?_)|(have:ak 597 _:=z;refine dc rfl rfl rfl (Ah 256 210 5 rfl rfl rfl U U) ?_)|(have:ak 598 _:=z;refine bI rfl rfl rfl (Ah 256 210 5 rfl rfl rfl U U) ?_)|(have:ak 599 _:=z;refine cD [0,1,2,3,4,5,6,7,8,9,10,11,12,13,14,15,16,17,18,19] (aE.refl _) ?_));exact z.k):G:=h ⟨k ⟨z.k⟩⟩
theorem Jw{c:Nat}{L:List Nat}{G R X:Prop}(z:ef (c::L) R)(k:ef L R->X)(a:Nat.ble 600 c=true:=by rfl)(b:Nat.ble c 623=true:=by rfl)(h:ak c X->G:=by intro z;(first|(have:ak 600 _:=z;refine ap 8 rfl rfl rfl rfl rfl (Nat.le_of_ble_eq_true rfl) rfl rfl U gq ?_)|(have:ak 601 _:=z;(first|refine bI rfl rfl rfl (js rfl) ?_|refine bI rfl rfl rfl (F4 rfl) ?_|refine bI rfl rfl rfl (F5 rfl dQ) ?_))|(have:ak 602 _:=z;(first|refine bI rfl rfl rfl (cY 1 rfl rfl) ?_|refine bI rfl rfl rfl (mi 1 rfl rfl dQ) ?_))|(have:ak 603 _:=z;refine ap 4 rfl rfl rfl rfl rfl (Nat.le_of_ble_eq_true rfl) (show _=cf .u32 [z]from rfl) rfl U gq ?_)|(have:ak 604 _:=z;refine aK (py b aF bv L.length last (iE A L) par) rfl (ed 0 rfl (ed 0 rfl (eC _))) trivial ?_)|(have:ak 605 _:=z;refine bI rfl rfl rfl (kh (a:=(_,_)) 78 3 rfl rfl (dS.pair a1) rfl rfl) ?_)|(have:ak 606 _:=z;refine lX (a:=(_,_)) 78 3 rfl (dS.pair a1) rfl rfl rfl ?_)|(have:ak 607 _:=z;refine ab.draw _ [13,15] [0,1,2,3,4,5,6,7,8,9,10,11,12,-13,14,-15] a1 a1 (aE.refl _) ?_)|(have:ak 608 _:=z;refine bI rfl rfl rfl (jZ 3 1 rfl rfl rfl U U dQ) ?_)|(have:ak 609 _:=z;refine ap 8 rfl rfl rfl rfl rfl U (ER rfl) (rD _) U gq ?_)|(have:ak 610 _:=z;refine bI rfl rfl rfl (jZ 33 1 rfl rfl rfl U U dQ) ?_)|(have:ak 611 _:=z;refine ap 4 rfl rfl rfl rfl rfl U (Qp .u32 rfl) (F9 .u32 _) U gq ?_)|(have:ak 612 _:=z;refine lM (a:=(_,_)) 78 3 rfl (dS.pair a1) rfl rfl rfl ?_)|(have:ak 613 _:=z;refine ab.draw _ [12] [0,1,2,3,4,5,6,7,8,9,10,11,-12] a1 a1 (aE.refl _) ?_)|(have:ak 614 _:=z;refine cD [0,1,2,3,5,6,7,8,-4,-9] (show aE (ag _) (ag [aj ba 150 [ae aS,aT h,aa (bX X.A h)],aj aC 148 [ae aI,ae bz]])from ai) ?_)|(have:ak 615 _:=z;refine ap 4 rfl rfl rfl rfl rfl (Nat.le_of_ble_eq_true rfl) (show _=cf .u32 [h]from rfl) rfl U gq ?_)|(have:ak 616 _:=z;refine ev.of [(7,false),(8,false),(9,false),(10,true),(11,true),(12,false)] a1 rfl ?_)|(have:ak 617 _:=z;refine ev.of [(6,true),(7,false),(8,false),(9,false),(11,true),(12,false)] a1 rfl ?_)|(have:ak 618 _:=z;refine e0 (v:=.agg #[_,_,_,_]) (l:=[.int _ _,.int _ _,.int _ _,.bool _]) rfl rfl ?_)|(have:ak 619 _:=z;refine e0 (v:=.agg #[_,_,_,_,_]) (l:=[.int _ _,.int _ _,.int _ _,.int _ _,.bool _]) rfl rfl ?_)|(have:ak 620 _:=z;refine q rfl rfl (ek (cs:=[.int _ _,.int _ _,.int _ _,.int _ _,.bool _]) rfl) ?_)|(have:ak 621 _:=z;refine dy (i:=4) rfl rfl rfl a1 (fW (v:=.pointer _) rfl) ?_)|(have:ak 622 _:=z;refine dy (i:=12) rfl rfl rfl a1 (conv .i64 .u64 rfl rfl rfl (p7 U)) ?_)|(have:ak 623 _:=z;refine bs (cs:=[.int _ _,.int _ _,.int _ _,.int _ _,.bool _]) rfl ?_));exact z.k):G:=h ⟨k ⟨z.k⟩⟩
theorem Jx{c:Nat}{L:List Nat}{G R X:Prop}(z:ef (c::L) R)(k:ef L R->X)(a:Nat.ble 624 c=true:=by rfl)(b:Nat.ble c 647=true:=by rfl)(h:ak c X->G:=by intro z;(first|(have:ak 624 _:=z;refine q rfl rfl (gp (vs:=[_,_,_,_,_]) 5 rfl rfl (kz wR hm 0 5 U U (show _=[aa (hj:Int),aa ic,aa hp,aa f9,.bool g9]from rfl)) rfl am) ?_)|(have:ak 625 _:=z;change ab _ _ _ _ _ _ _ (ag [_,_,_,_,_,_,_,_,_,_,_,_,_,_,_]))|(have:ak 626 _:=z;change aE _ _/\b8 _ _ _ _ _ _ _ _ _ _ (ag [_,_,_,_,_,_,_,_,_,_,_,_,_,_,_,_]))|(have:ak 627 _:=z;refine e0 (v:=.agg #[_,_,_]) (l:=[.int _ _,.slice _ _ _,.slice _ _ _]) rfl rfl ?_)|(have:ak 628 _:=z;change aY _ _ _ _ _ _ _ _ (ag [_,_,_,_,_,_,_,_,_,_,_,_,_,_,_,_]))|(have:ak 629 _:=z;refine bI rfl rfl rfl (fQ (vs:=[_,_,_,_,_]) 5 rfl rfl rfl rfl) ?_)|(have:ak 630 _:=z;refine ap 32 rfl rfl rfl rfl rfl U (Qf lj) (F0 lj) U gq ?_)|(have:ak 631 _:=z;change ab _ _ _ _ _ _ _ (ag [_,_,_,_,_,_,_,_,_,_,_,_,_,_,_,_,_]))|(have:ak 632 _:=z;change aY _ _ _ _ _ _ _ _ (ag [_,_,_,_,_,_,_,_,_,_,_,_,_,_,_,_,_,_,_]))|(have:ak 633 _:=z;refine ap 24 rfl rfl rfl rfl rfl (Nat.le_of_ble_eq_true rfl) (show _=i8 [o]from rfl) rfl U gq ?_)|(have:ak 634 _:=z;refine ab.bk (B:=ag [b3 (dJ A ad cap s) s.ids,b3 (e5 ad cap s) s.ids,aj b 352 [.map (some aF)],bT QM.encI aF (eg A s.ids) s.ids.length,aj ch 75 (e9 dx),F]) ai ?_)|(have:ak 635 _:=z;refine q rfl rfl (oh 75 3 (1) rfl rfl rfl U U) ?_)|(have:ak 636 _:=z;refine ab.bk (B:=ag [b3 (dJ A ad cap s) s.ids,b3 (e5 ad cap s) s.ids,aj b 352 [.map (some aF)],bT QM.encI aF (eg A s.ids) s.ids.length,aj bC 3 [aa id],F]) ai ?_)|(have:ak 637 _:=z;refine bI rfl rfl rfl (ek (cs:=[.int _ _,.slice _ _ _,.slice _ _ _]) rfl) ?_)|(have:ak 638 _:=z;refine cD [0,1,2,3,4,5,6,7,8,9,10,11,12,13,14,-15] (show aE (ag _) (ag [aj aG 130 [ae aN,ae a7,ae aJ,.map (some hm),.map (some bg),.map (some lm)],aj (bo g) 245 [aa (aV g).1,bn ((aV g).2:Int)]])from ai) ?_)|(have:ak 639 _:=z;refine aY.bk (B:=ag [c4 aG af top (n+K.length) ⟨X,T,aM,hv,bm,aV,I,bq,lv⟩ [],aX 33 1 hU K.length fq (cf .u32 K),F]) (ay (⟨aN,a7,aJ,hm,bg,lm,bo⟩:dm) ⟨aw,aR⟩ (bM 6 rfl (ay (⟨cb,aC⟩:eP) trivial (eK (eK (ay (bV.mk aI bz:bV) trivial ai)))))) ?_)|(have:ak 640 _:=z;refine e0 (v:=.agg (List.toArray [aa op,aa s,aa a,aa b,aa bJ,.bool ca,bn x,.slice bB ws.length bU,.slice bH aU.length bZ])) (l:=[aa op,aa s,aa a,aa b,aa bJ,.bool ca,bn x,.slice bB ws.length bU,.slice bH aU.length bZ]) rfl rfl ?_)|(have:ak 641 _:=z;refine bI rfl rfl rfl (jZ 47 1 rfl rfl rfl U U dQ) ?_)|(have:ak 642 _:=z;refine q rfl rfl (conv .u32 .u64 rfl rfl rfl (yf U U)) ?_)|(have:ak 643 _:=z;refine cD [0,1,2,3,4,5,6,7,8,9,10,11,12,-13,14] (show aE (ag _) (ag [aj cd 121 [ae aG],aj gK 269 [aa op,aa s,aa a,aa b,aa bJ,.bool ca,bn x,.slice bB ws.length bU,.slice bH aU.length bZ,aT t,aT cE,aT h,aa r],aj ch 39 [aT ea,aa uV]])from ai) ?_)|(have:ak 644 _:=z;change aE _ _/\b8 _ _ _ _ _ _ _ _ _ _ (ag [_,_,_,_,_,_,_,_,_,_,_,_,_,_]))|(have:ak 645 _:=z;refine cD [0,1,2,3,4,5,6,7,8,-9,10] (show aE (ag _) (ag [aj cd 121 [ae aG],aj gK 269 [aa op,aa s,aa a,aa b,aa bJ,.bool ca,bn x,.slice bB ws.length bU,.slice bH aU.length bZ,aT t,aT cE,aT h,aa r]])from ai) ?_)|(have:ak 646 _:=z;change aE _ _/\b8 _ _ _ _ _ _ _ _ _ _ (ag [_,_,_,_,_,_,_,_,_,_,_,_,_]))|(have:ak 647 _:=z;refine dc rfl rfl rfl (fQ (vs:=[_,_,_,_]) 4 rfl rfl rfl rfl) ?_));exact z.k):G:=h ⟨k ⟨z.k⟩⟩
theorem Jy{c:Nat}{L:List Nat}{G R X:Prop}(z:ef (c::L) R)(k:ef L R->X)(a:Nat.ble 648 c=true:=by rfl)(b:Nat.ble c 666=true:=by rfl)(h:ak c X->G:=by intro z;(first|(have:ak 648 _:=z;refine dc rfl rfl rfl (ek (cs:=[.int _ _,.int _ _,.int _ _,.slice _ _ _]) rfl) ?_)|(have:ak 649 _:=z;refine e0 (v:=.agg (List.toArray [aa i.b,aa i.o,aa i.r,aa i.f,.bool i.g])) (l:=[aa i.b,aa i.o,aa i.r,aa i.f,.bool i.g]) rfl rfl ?_)|(have:ak 650 _:=z;refine q rfl rfl (gp (vs:=[_,_,_,_,_]) 5 rfl rfl (kz Aj h7 0 5 U U (show _=[aa bh.b,aa bh.o,aa bh.r,aa bh.f,.bool bh.g]from rfl)) rfl am) ?_)|(have:ak 651 _:=z;refine q rfl rfl (fQ (vs:=[aa op,aa s,aa a,aa b,aa bJ,.bool ca,bn x,.slice bB ws.length bU,.slice bH aU.length bZ]) 9 rfl rfl rfl rfl) ?_)|(have:ak 652 _:=z;refine ab.loop (ι:=Nat) (λk=>k<=l.length/\∀i a,i<k->l[i]? =some a->a.rw.length<=40) (λk=>[(1,.slice de l.length lc),(5,aa k)]) (λk=>ag [F]) (λk=>l.length-k) 0 ⟨Nat.zero_le _,λi a h _=>absurd h (Nat.not_lt_zero _)⟩ bG ai ?_)|(have:ak 653 _:=z;refine q rfl rfl (dk rfl rfl (pz sr h7 2 U rfl)) ?_)|(have:ak 654 _:=z;refine dc rfl rfl rfl (dk rfl rfl (pz sr h7 10 U rfl)) ?_)|(have:ak 655 _:=z;refine dc rfl rfl rfl (dk rfl rfl (pz sr h7 11 U rfl)) ?_)|(have:ak 656 _:=z;refine q rfl rfl (gp (vs:=_) 12 rfl rfl (kz sr h7 0 12 U U (show _=[aa bh.eh,aa bh.gk,.slice bh.cK bh.rw.length bh.rc,aa bh.op,aa bh.s,aa bh.a,aa bh.b,aa bh.c,.bool bh.ca,bn bh.x,.slice bh.bB bh.ws.length bh.bU,.slice bh.bH bh.aU.length bh.bZ]from rfl)) rfl am) ?_)|(have:ak 657 _:=z;refine st (v:=.agg #[_,_,_]) (vs:=[_,_,_]) 3 rfl rfl rfl rfl rfl rfl (Nat.le_of_ble_eq_true rfl) rfl ?_)|(have:ak 658 _:=z;refine q rfl rfl (pu (v:=.pointer _) (λ_=>rfl)) ?_)|(have:ak 659 _:=z;refine q rfl rfl (pu (v:=.agg #[_,_,_]) (λ_=>rfl)) ?_)|(have:ak 660 _:=z;refine q rfl rfl (cY 8 rfl rfl) ?_)|(have:ak 661 _:=z;refine st (v:=.agg (List.toArray (ints [_,_,_]))) (vs:=ints [_,_,_]) 3 rfl rfl rfl rfl rfl rfl (Nat.le_of_ble_eq_true rfl) rfl ?_)|(have:ak 662 _:=z;refine q rfl rfl (oC (v:=.bool _) rfl) ?_)|(have:ak 663 _:=z;refine st (v:=.agg #[_,_]) (vs:=[_,_]) 2 rfl rfl rfl rfl rfl rfl (Nat.le_of_ble_eq_true rfl) rfl ?_)|(have:ak 664 _:=z;refine q rfl rfl (pu (v:=.agg #[_,_]) (λ_=>rfl)) ?_)|(have:ak 665 _:=z;refine dc rfl rfl rfl (cY 2 rfl rfl) ?_)|(have:ak 666 _:=z;refine bI rfl rfl rfl (pu (v:=.agg #[_,_,_]) (λ_=>rfl)) ?_));exact z.k):G:=h ⟨k ⟨z.k⟩⟩
theorem aZ(L:List Nat){G R:Prop}(k:R)(h:ef L R->G:=by intro z;(repeat(first|(refine Jj z ?_;clear z;intro z)|(refine Jz z ?_;clear z;intro z)|(refine JA z ?_;clear z;intro z)|(refine JB z ?_;clear z;intro z)|(refine Jk z ?_;clear z;intro z)|(refine Jl z ?_;clear z;intro z)|(refine Jm z ?_;clear z;intro z)|(refine Jn z ?_;clear z;intro z)|(refine Jo z ?_;clear z;intro z)|(refine Jp z ?_;clear z;intro z)|(refine Jq z ?_;clear z;intro z)|(refine Jr z ?_;clear z;intro z)|(refine Js z ?_;clear z;intro z)|(refine Jt z ?_;clear z;intro z)|(refine Ju z ?_;clear z;intro z)|(refine Jv z ?_;clear z;intro z)|(refine Jw z ?_;clear z;intro z)|(refine Jx z ?_;clear z;intro z)|(refine Jy z ?_;clear z;intro z)));exact z.k):G:=h ⟨k⟩
theorem UH{c:Nat}{L:List Nat}{G R X:Prop}(z:ef (c::L) R)(k:ef L R->X)(a:Nat.ble 24 c=true:=by rfl)(b:Nat.ble c 47=true:=by rfl)(h:ak c X->G:=by intro z;(first|(have:ak 24 _:=z;refine aZ [6,157] ?_)|(have:ak 25 _:=z;refine aZ [6,157,3] ?_)|(have:ak 26 _:=z;refine aZ [6,157,0] ?_)|(have:ak 27 _:=z;refine aZ [73,2] ?_)|(have:ak 28 _:=z;refine aZ [3,0] ?_)|(have:ak 29 _:=z;refine aZ [2,6] ?_)|(have:ak 30 _:=z;refine aZ [73,2,147] ?_)|(have:ak 31 _:=z;refine aZ [73,2,6] ?_)|(have:ak 32 _:=z;refine aZ [6,157,164,3,0] ?_)|(have:ak 33 _:=z;refine aZ [6,157,86] ?_)|(have:ak 34 _:=z;refine aZ [6,157,3,93,2] ?_)|(have:ak 35 _:=z;refine aZ [6,157,164,3] ?_)|(have:ak 36 _:=z;refine aZ [6,157,73,2,6] ?_)|(have:ak 37 _:=z;refine aZ [6,157,164] ?_)|(have:ak 38 _:=z;refine aZ [662,2] ?_)|(have:ak 39 _:=z;refine aZ [157,164] ?_)|(have:ak 40 _:=z;refine aZ [6,157,164,80,81,85] ?_)|(have:ak 41 _:=z;refine aZ [151,18] ?_)|(have:ak 42 _:=z;refine aZ [6,157,164,156,2,72,4] ?_)|(have:ak 43 _:=z;refine aZ [6,157,381,2,6] ?_)|(have:ak 44 _:=z;refine aZ [4,6] ?_)|(have:ak 45 _:=z;refine aZ [9,15] ?_)|(have:ak 46 _:=z;refine aZ [6,157,164,80,81] ?_)|(have:ak 47 _:=z;refine aZ [363,363,363,363] ?_));exact z.k):G:=h ⟨k ⟨z.k⟩⟩
theorem UL{c:Nat}{L:List Nat}{G R X:Prop}(z:ef (c::L) R)(k:ef L R->X)(a:Nat.ble 48 c=true:=by rfl)(b:Nat.ble c 71=true:=by rfl)(h:ak c X->G:=by intro z;(first|(have:ak 48 _:=z;refine aZ [6,157,290,662,2] ?_)|(have:ak 49 _:=z;refine aZ [363,363] ?_)|(have:ak 50 _:=z;refine aZ [77,89,88,94] ?_)|(have:ak 51 _:=z;refine aZ [456,18] ?_)|(have:ak 52 _:=z;refine aZ [363,363,363] ?_)|(have:ak 53 _:=z;refine aZ [80,81,85] ?_)|(have:ak 54 _:=z;refine aZ [23,657] ?_)|(have:ak 55 _:=z;refine aZ [291,85] ?_)|(have:ak 56 _:=z;refine aZ [4,6,75] ?_)|(have:ak 57 _:=z;refine aZ [166,2,6] ?_)|(have:ak 58 _:=z;refine aZ [20,6,157] ?_)|(have:ak 59 _:=z;refine aZ [6,157,18] ?_)|(have:ak 60 _:=z;refine aZ [289,658,92,166,73,2,6,75,6,157,3,93,662,2] ?_)|(have:ak 61 _:=z;refine aZ [406,85] ?_)|(have:ak 62 _:=z;refine aZ [155,157,154,3,2] ?_)|(have:ak 63 _:=z;refine aZ [73,2,6,157,3] ?_)|(have:ak 64 _:=z;refine aZ [6,157,164,80,406,85] ?_)|(have:ak 65 _:=z;refine aZ [81,85] ?_)|(have:ak 66 _:=z;refine aZ [662,2,147] ?_)|(have:ak 67 _:=z;refine aZ [6,157,73,2,84] ?_)|(have:ak 68 _:=z;refine aZ [3,0,152] ?_)|(have:ak 69 _:=z;refine aZ [83,2,147] ?_)|(have:ak 70 _:=z;refine aZ [9,365,74] ?_)|(have:ak 71 _:=z;refine aZ [151,662,2,147] ?_));exact z.k):G:=h ⟨k ⟨z.k⟩⟩
theorem UM{c:Nat}{L:List Nat}{G R X:Prop}(z:ef (c::L) R)(k:ef L R->X)(a:Nat.ble 96 c=true:=by rfl)(b:Nat.ble c 119=true:=by rfl)(h:ak c X->G:=by intro z;(first|(have:ak 96 _:=z;refine aZ [73,73,2,147] ?_)|(have:ak 97 _:=z;refine aZ [6,157,164,80,291,85] ?_)|(have:ak 98 _:=z;refine aZ [6,157,73,2,6,157,164,3,0] ?_)|(have:ak 99 _:=z;refine aZ [2,6,157] ?_)|(have:ak 100 _:=z;refine aZ [2,72,4] ?_)|(have:ak 101 _:=z;refine aZ [6,157,164,156] ?_)|(have:ak 102 _:=z;refine aZ [88,94] ?_)|(have:ak 103 _:=z;refine aZ [23,663] ?_)|(have:ak 104 _:=z;refine aZ [662,2,6] ?_)|(have:ak 105 _:=z;refine aZ [6,157,164,0] ?_)|(have:ak 106 _:=z;refine aZ [6,157,73,2] ?_)|(have:ak 107 _:=z;refine aZ [289,658,92,166,73,2,6] ?_)|(have:ak 108 _:=z;refine aZ [157,86] ?_)|(have:ak 109 _:=z;refine aZ [151,2] ?_)|(have:ak 110 _:=z;refine aZ [166,2,147] ?_)|(have:ak 111 _:=z;refine aZ [6,157,81,85] ?_)|(have:ak 112 _:=z;refine aZ [3,2,75] ?_)|(have:ak 113 _:=z;refine aZ [9,74] ?_)|(have:ak 114 _:=z;refine aZ [22,157,154,3,2] ?_)|(have:ak 115 _:=z;refine aZ [2,72] ?_)|(have:ak 116 _:=z;refine aZ [23,657,73,2,6] ?_)|(have:ak 117 _:=z;refine aZ [73,73,2,84] ?_)|(have:ak 118 _:=z;refine aZ [157,164,80] ?_)|(have:ak 119 _:=z;refine aZ [2,6,157,73,2,147] ?_));exact z.k):G:=h ⟨k ⟨z.k⟩⟩
theorem UN{c:Nat}{L:List Nat}{G R X:Prop}(z:ef (c::L) R)(k:ef L R->X)(a:Nat.ble 120 c=true:=by rfl)(b:Nat.ble c 143=true:=by rfl)(h:ak c X->G:=by intro z;(first|(have:ak 120 _:=z;refine aZ [3,3] ?_)|(have:ak 121 _:=z;refine aZ [6,157,83,2] ?_)|(have:ak 122 _:=z;refine aZ [2,72,4,6] ?_)|(have:ak 123 _:=z;refine aZ [73,2,76] ?_)|(have:ak 124 _:=z;refine aZ [6,157,221] ?_)|(have:ak 125 _:=z;refine aZ [6,157,3,73,2,76] ?_)|(have:ak 126 _:=z;refine aZ [73,2,6,157,3,93,2] ?_)|(have:ak 127 _:=z;refine aZ [6,157,164,80] ?_)|(have:ak 128 _:=z;refine aZ [6,157,662,2] ?_)|(have:ak 129 _:=z;refine aZ [6,157,300] ?_)|(have:ak 130 _:=z;refine aZ [6,6,157,3] ?_)|(have:ak 131 _:=z;refine aZ [6,157,166,2,6] ?_)|(have:ak 132 _:=z;refine aZ [456,662,2,147] ?_)|(have:ak 133 _:=z;refine aZ [6,157,3,73,2,147] ?_)|(have:ak 134 _:=z;refine aZ [289,92,92,73,73,2,6] ?_)|(have:ak 135 _:=z;refine aZ [6,157,3,73,2] ?_)|(have:ak 136 _:=z;refine aZ [366,94] ?_)|(have:ak 137 _:=z;refine aZ [77,89,431,94] ?_)|(have:ak 138 _:=z;refine aZ [157,3,154,73,2] ?_)|(have:ak 139 _:=z;refine aZ [456,2,20,6,157] ?_)|(have:ak 140 _:=z;refine aZ [301,513] ?_)|(have:ak 141 _:=z;refine aZ [322,9] ?_)|(have:ak 142 _:=z;refine aZ [6,157,3,0] ?_)|(have:ak 143 _:=z;refine aZ [431,94] ?_));exact z.k):G:=h ⟨k ⟨z.k⟩⟩
theorem UO{c:Nat}{L:List Nat}{G R X:Prop}(z:ef (c::L) R)(k:ef L R->X)(a:Nat.ble 168 c=true:=by rfl)(b:Nat.ble c 191=true:=by rfl)(h:ak c X->G:=by intro z;(first|(have:ak 168 _:=z;refine aZ [12,160] ?_)|(have:ak 169 _:=z;refine aZ [456,662,2] ?_)|(have:ak 170 _:=z;refine aZ [6,157,166,2] ?_)|(have:ak 171 _:=z;refine aZ [6,157,3,290,2] ?_)|(have:ak 172 _:=z;refine aZ [77,89,88,88,94] ?_)|(have:ak 173 _:=z;refine aZ [73,73,2] ?_)|(have:ak 174 _:=z;refine aZ [290,662,2] ?_)|(have:ak 175 _:=z;refine aZ [164,80] ?_)|(have:ak 176 _:=z;refine aZ [83,73,2] ?_)|(have:ak 177 _:=z;refine aZ [323,3,2,75] ?_)|(have:ak 178 _:=z;refine aZ [157,164,3,0] ?_)|(have:ak 179 _:=z;refine aZ [6,157,3,381,18] ?_)|(have:ak 180 _:=z;refine aZ [6,157,73,73,2,84] ?_)|(have:ak 181 _:=z;refine aZ [365,74] ?_)|(have:ak 182 _:=z;refine aZ [381,2] ?_)|(have:ak 183 _:=z;refine aZ [2,75] ?_)|(have:ak 184 _:=z;refine aZ [73,662,2] ?_)|(have:ak 185 _:=z;refine aZ [77,89,366,94] ?_)|(have:ak 186 _:=z;refine aZ [6,157,73,2,76] ?_)|(have:ak 187 _:=z;refine aZ [4,6,75,6,157,407] ?_)|(have:ak 188 _:=z;refine aZ [6,157,3,73,73,2,76] ?_)|(have:ak 189 _:=z;refine aZ [456,2] ?_)|(have:ak 190 _:=z;refine aZ [83,2,6] ?_)|(have:ak 191 _:=z;refine aZ [662,2,72] ?_));exact z.k):G:=h ⟨k ⟨z.k⟩⟩
theorem UP{c:Nat}{L:List Nat}{G R X:Prop}(z:ef (c::L) R)(k:ef L R->X)(a:Nat.ble 192 c=true:=by rfl)(b:Nat.ble c 215=true:=by rfl)(h:ak c X->G:=by intro z;(first|(have:ak 192 _:=z;refine aZ [367,167] ?_)|(have:ak 193 _:=z;refine aZ [290,18] ?_)|(have:ak 194 _:=z;refine aZ [324,11] ?_)|(have:ak 195 _:=z;refine aZ [81,85,0] ?_)|(have:ak 196 _:=z;refine aZ [8,6,157,0] ?_)|(have:ak 197 _:=z;refine aZ [364,364,364,364] ?_)|(have:ak 198 _:=z;refine aZ [6,157,3,3] ?_)|(have:ak 199 _:=z;refine aZ [6,157,73,2,147] ?_)|(have:ak 200 _:=z;refine aZ [6,157,83,2,6] ?_)|(have:ak 201 _:=z;refine aZ [20,6,157,73,2,84] ?_)|(have:ak 202 _:=z;refine aZ [83,2] ?_)|(have:ak 203 _:=z;refine aZ [23,512] ?_)|(have:ak 204 _:=z;refine aZ [12,408] ?_)|(have:ak 205 _:=z;refine aZ [72,4] ?_)|(have:ak 206 _:=z;refine aZ [22,6] ?_)|(have:ak 207 _:=z;refine aZ [151,662,2] ?_)|(have:ak 208 _:=z;refine aZ [3,3,0] ?_)|(have:ak 209 _:=z;refine aZ [19,6,157,86] ?_)|(have:ak 210 _:=z;refine aZ [20,6,157,3,73,2] ?_)|(have:ak 211 _:=z;refine aZ [6,157,3,93,2,72,4] ?_)|(have:ak 212 _:=z;refine aZ [157,3] ?_)|(have:ak 213 _:=z;refine aZ [363,363,363,363,363] ?_)|(have:ak 214 _:=z;refine aZ [409,85] ?_)|(have:ak 215 _:=z;refine aZ [3,432,0] ?_));exact z.k):G:=h ⟨k ⟨z.k⟩⟩
theorem UI{c:Nat}{L:List Nat}{G R X:Prop}(z:ef (c::L) R)(k:ef L R->X)(a:Nat.ble 240 c=true:=by rfl)(b:Nat.ble c 263=true:=by rfl)(h:ak c X->G:=by intro z;(first|(have:ak 240 _:=z;refine aZ [6,157,73,73,2] ?_)|(have:ak 241 _:=z;refine aZ [289,659,92,0,571] ?_)|(have:ak 242 _:=z;refine aZ [6,157,3,93] ?_)|(have:ak 243 _:=z;refine aZ [73,73,2,6] ?_)|(have:ak 244 _:=z;refine aZ [290,2] ?_)|(have:ak 245 _:=z;refine aZ [4,6,75,6,157] ?_)|(have:ak 246 _:=z;refine aZ [6,157,662,2,6,157,3] ?_)|(have:ak 247 _:=z;refine aZ [3,432] ?_)|(have:ak 248 _:=z;refine aZ [383,85] ?_)|(have:ak 249 _:=z;refine aZ [90,2] ?_)|(have:ak 250 _:=z;refine aZ [665,167] ?_)|(have:ak 251 _:=z;refine aZ [3,23,657] ?_)|(have:ak 252 _:=z;refine aZ [6,157,164,221] ?_)|(have:ak 253 _:=z;refine aZ [6,157,73,2,75] ?_)|(have:ak 254 _:=z;refine aZ [6,157,164,156,18] ?_)|(have:ak 255 _:=z;refine aZ [289,659,92,0,222] ?_)|(have:ak 256 _:=z;refine aZ [289,664,296,0,235] ?_)|(have:ak 257 _:=z;refine aZ [151,18,363,363,363,363,363] ?_)|(have:ak 258 _:=z;refine aZ [289,658,92,166] ?_)|(have:ak 259 _:=z;refine aZ [75,6,157,3,93,662,2] ?_)|(have:ak 260 _:=z;refine aZ [2,147] ?_)|(have:ak 261 _:=z;refine aZ [572,167] ?_)|(have:ak 262 _:=z;refine aZ [86,0] ?_)|(have:ak 263 _:=z;refine aZ [11,15] ?_));exact z.k):G:=h ⟨k ⟨z.k⟩⟩
theorem UJ{c:Nat}{L:List Nat}{G R X:Prop}(z:ef (c::L) R)(k:ef L R->X)(a:Nat.ble 264 c=true:=by rfl)(b:Nat.ble c 287=true:=by rfl)(h:ak c X->G:=by intro z;(first|(have:ak 264 _:=z;refine aZ [6,157,86,3] ?_)|(have:ak 265 _:=z;refine aZ [6,157,406,85] ?_)|(have:ak 266 _:=z;refine aZ [90,662,2,72] ?_)|(have:ak 267 _:=z;refine aZ [80,406] ?_)|(have:ak 268 _:=z;refine aZ [410,18] ?_)|(have:ak 269 _:=z;refine aZ [573,74] ?_)|(have:ak 270 _:=z;refine aZ [166,2,76] ?_)|(have:ak 271 _:=z;refine aZ [365,365,74] ?_)|(have:ak 272 _:=z;refine aZ [77,89,433,94] ?_)|(have:ak 273 _:=z;refine aZ [23,657,73,2,147] ?_)|(have:ak 274 _:=z;refine aZ [166,2] ?_)|(have:ak 275 _:=z;refine aZ [289,92,92] ?_)|(have:ak 276 _:=z;refine aZ [660,85] ?_)|(have:ak 277 _:=z;refine aZ [23,661] ?_)|(have:ak 278 _:=z;refine aZ [297,9] ?_)|(have:ak 279 _:=z;refine aZ [23,368] ?_)|(have:ak 280 _:=z;refine aZ [12,95] ?_)|(have:ak 281 _:=z;refine aZ [382,382] ?_)|(have:ak 282 _:=z;refine aZ [225,9] ?_)|(have:ak 283 _:=z;refine aZ [230,657] ?_)|(have:ak 284 _:=z;refine aZ [23,512,2] ?_)|(have:ak 285 _:=z;refine aZ [383,85,3] ?_)|(have:ak 286 _:=z;refine aZ [289,92,296] ?_)|(have:ak 287 _:=z;refine aZ [431,94,15] ?_));exact z.k):G:=h ⟨k ⟨z.k⟩⟩
theorem UK{c:Nat}{L:List Nat}{G R X:Prop}(z:ef (c::L) R)(k:ef L R->X)(a:Nat.ble 336 c=true:=by rfl)(b:Nat.ble c 359=true:=by rfl)(h:ak c X->G:=by intro z;(first|(have:ak 336 _:=z;refine aZ [6,157,164,574] ?_)|(have:ak 337 _:=z;refine aZ [363,363,456,18] ?_)|(have:ak 338 _:=z;refine aZ [6,157,0,384] ?_)|(have:ak 339 _:=z;refine aZ [23,663,662,2] ?_)|(have:ak 340 _:=z;refine aZ [291,85,3,0] ?_)|(have:ak 341 _:=z;refine aZ [1,457] ?_)|(have:ak 342 _:=z;refine aZ [666,382] ?_)|(have:ak 343 _:=z;refine aZ [94,88] ?_)|(have:ak 344 _:=z;refine aZ [157,154,3,2] ?_)|(have:ak 345 _:=z;refine aZ [157,3,154] ?_)|(have:ak 346 _:=z;refine aZ [289,659] ?_)|(have:ak 347 _:=z;refine aZ [6,157,3,381] ?_)|(have:ak 348 _:=z;refine aZ [73,73,2,76] ?_)|(have:ak 349 _:=z;refine aZ [296,0] ?_)|(have:ak 350 _:=z;refine aZ [77,89,88] ?_)|(have:ak 351 _:=z;refine aZ [92,0] ?_)|(have:ak 352 _:=z;refine aZ [6,157,3,93,662,2] ?_)|(have:ak 353 _:=z;refine aZ [433,94] ?_)|(have:ak 354 _:=z;refine aZ [289,664] ?_)|(have:ak 355 _:=z;refine aZ [364,364] ?_)|(have:ak 356 _:=z;refine aZ [77,89] ?_)|(have:ak 357 _:=z;refine aZ [3,2] ?_)|(have:ak 358 _:=z;refine aZ [154,3,2] ?_)|(have:ak 359 _:=z;refine aZ [289,659,92,0] ?_));exact z.k):G:=h ⟨k ⟨z.k⟩⟩
theorem J(L:List Nat){G R:Prop}(k:R)(h:ef L R->G:=by intro z;(repeat(first|(refine Jj z ?_;clear z;intro z)|(refine UH z ?_;clear z;intro z)|(refine UL z ?_;clear z;intro z)|(refine Jz z ?_;clear z;intro z)|(refine UM z ?_;clear z;intro z)|(refine UN z ?_;clear z;intro z)|(refine JA z ?_;clear z;intro z)|(refine UO z ?_;clear z;intro z)|(refine UP z ?_;clear z;intro z)|(refine JB z ?_;clear z;intro z)|(refine UI z ?_;clear z;intro z)|(refine UJ z ?_;clear z;intro z)|(refine Jk z ?_;clear z;intro z)|(refine Jl z ?_;clear z;intro z)|(refine UK z ?_;clear z;intro z)|(refine Jm z ?_;clear z;intro z)|(refine Jn z ?_;clear z;intro z)|(refine Jo z ?_;clear z;intro z)|(refine Jp z ?_;clear z;intro z)|(refine Jq z ?_;clear z;intro z)|(refine Jr z ?_;clear z;intro z)|(refine Js z ?_;clear z;intro z)|(refine Jt z ?_;clear z;intro z)|(refine Ju z ?_;clear z;intro z)|(refine Jv z ?_;clear z;intro z)|(refine Jw z ?_;clear z;intro z)|(refine Jx z ?_;clear z;intro z)|(refine Jy z ?_;clear z;intro z)));exact z.k):G:=h ⟨k⟩
theorem Ji{G:Prop}(h:G:=by
 funext x
 by_cases h:x∈Y
 ·rw[ax h,ax (by simp[h])]
 rw[al h]
 by_cases e:x=y
 ·rw[ax (by simp[e]),e,cm]
 rw[al (by simp[e,h]),bQ e]):G:=h
end Go.QM
