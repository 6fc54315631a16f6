/- Proved here: contracts of this program's functions, under each theorem's premises. -/
import Derived.RangeFuncLeaves
import Derived.OrdersIn
import Derived.Laws.World
import Derived.Laws.Sem
import Derived.KernelRfl
import Derived.Laws.Cells
import Derived.Laws.CopyRow
import Derived.Laws.Tables
import Derived.Laws.Append
import Derived.Laws.AppendOwn
import Derived.RangeFuncRecord
import Derived.Laws.StructEq
import Derived.MapKept
import Derived.OpenShut
import Derived.ProofKit
import Derived.Test.YtglgidjhoncphaaGreatDoorProg
set_option linter.all false
set_option maxRecDepth 4000
set_option maxHeartbeats 4000000
open Nat renaming eq_of_beq_eq_true->VA,beq->Wx,blt->W9,le_refl->Vj,mul_le_mul_right->VQ,add_mul->V7,add_sub_cancel_left->WF,min_eq_left->Xb
open Array renaming getD_eq_getD_getElem?->Wi,getElem?_eq_none->YQ,getElem?_append->XM
open Option.some renaming injEq->WQ
open Prod.mk renaming injEq->Xw
open Go.Fence renaming wide->Yw
open Go.Result renaming andThen_ok->Vo,andThen->Xt
open Go.Sem renaming run_bind->Vz,run_pure->VS
open Go.Region renaming wanted->VL,ready->V2,binds->WW,noSelect->XE
open Go.Value renaming oneCell'->VN,func->Xn
open Bool renaming and_eq_true->VP,eq_iff_iff->XS,false_eq_true->XZ
open Go.Instr renaming sureAddr->WJ,indexAt->XJ,sliceBound->Wb,sliceBounds->X2,sliceAt->YF,findNow->XK,checkKey->XU,lookup->X9
open Go.Oper renaming uponIn->WO,wpIn_mono->XN,wpIn->Ym
open Go.Act renaming put_comm->W4
open List renaming all_eq_true->Xi,length_append->mp,replicate->Vx,append_assoc->VC,nil_append->VE,map_cons->VM,take_of_length_le->VR,take_append_drop->V1,append_nil->V4,drop_eq_nil_of_le->Wt,getElem?_append_left->Wz,take_append_of_le_length->WG,getElem?_cons_succ->WI,length_drop->W5,map_nil->W7,eq_nil_of_length_eq_zero->Xg,map_toArray->XA,drop_append->XI,drop_append_of_le_length->Yf,getElem?_append_right->Yu,getElem?_cons_zero->YM,flatMap_cons->Vw,cons_append->VU,getD_eq_getElem?_getD->Wc,takeWhile_cons_of_pos->Yt,dropWhile_cons_of_pos->Yv,drop_eq_getElem_cons->Xp,mem_singleton->Vc,getElem?_eq_some_iff->Vl,mem_map->Vn,mem_cons->Vp,length_cons->VB,nodup_append->VH,range->V8,length->WZ,getElem?_map->XB,append_of_mem->XD,ext_getElem?->Yp,getElem?_eq_getElem->Vb,getElem?_eq_none->Xm
open Go renaming yielded->XO,sizeOf->Ya
open Go.RoundIn renaming mono->XW
open Go.CallsIn renaming mono->XY
open Option renaming bind_some->X5,map_some->WM
open Go.Op renaming intCmp->X6,intArith->YA,equalIn->YJ
open Go.IntKind renaming signed->Yl,wrap->YD,bits->YE
open Go.Builtin renaming firstCells->VF,zeroCells->VG,lenOf->XR,append_->Yc
open Go.Addr.mk renaming injEq->Xs
open Go.World renaming size_alloc->XL
open BitVec renaming ofInt->VW,toNat_ofInt->Xl
open Int renaming eq_ofNat_of_zero_le->Wh
open List.cons renaming inj->Xk
open Go.MapKept renaming run_getObj_map->V0,run_setObj_map->WS
open Go.DataW renaming TrodAll->XV
open Go.Proofs.Tryz renaming prog->Yg
namespace Go
theorem AJ{G:Prop}(h:G:=by dsimp only;rw[List.length_append,List.length_singleton];omega):G:=h
theorem xc{G:Prop}(h:G:=by dsimp only;rw[List.length_append,List.length_singleton];rfl):G:=h
theorem FR{G:Prop}(h:G:=by dsimp only;rw[F5,List.length_append];first|done|fail):G:=h
theorem uG{G:Prop}(h:G:=by simp only[List.length_append,List.length_singleton];omega):G:=h
theorem FSa{G:Prop}(h:G:=by rw[List.length_append,List.length_singleton];omega):G:=h
theorem jy{G:Prop}(h:G:=by simp only[List.length_cons,List.length_nil];omega):G:=h
theorem AN{G:Prop}(h:G:=by rw[List.length_append,List.length_append];omega):G:=h
theorem FT{G:Prop}(h:G:=by rw[kF kN,List.length_set];omega):G:=h
theorem xd{G:Prop}(h:G:=by show T.S.length+_<=_;first|omega|(simp<;>omega)):G:=h
theorem sZ{G:Prop}(h:G:=by dsimp only;rw[List.length_append];rfl):G:=h
theorem uF{G:Prop}(h:G:=by dsimp only;rw[List.length_append]):G:=h
theorem sX{G:Prop}(h:G:=by rw[List.take_zero,<-rG];rfl):G:=h
theorem AK{G:Prop}(h:G:=by rw[kF kN];omega):G:=h
theorem mw{G:Prop}(h:G:=by rw[IntKind.wrap_u64];omega):G:=h
theorem AL{G:Prop}(h:G:=by rw[List.length_cons];omega):G:=h
theorem AM{G:Prop}(h:G:=by rw[List.length_set];omega):G:=h
theorem sY{G:Prop}(h:G:=by show T.A.length<=_;omega):G:=h
theorem gv{G:Prop}(h:G:=by simp only[maxLen];omega):G:=h
theorem xb{G:Prop}(h:G:=by dsimp only;rw[Sg]):G:=h
theorem cy{G:Prop}(h:G:=by dsimp only;omega):G:=h
theorem rV{G:Prop}(h:G:=by simp;omega):G:=h
theorem aV{G:Prop}(h:G:=by kernel_rfl):G:=h
theorem rW{G:Prop}(h:G:=by rw[e];rfl):G:=h
theorem b6{G:Prop}(h:G:=by simp_all):G:=h
theorem o2{G:Prop}(h:G:=by simp[am]):G:=h
theorem an{G:Prop}(h:G:=by decide):G:=h
theorem U{G:Prop}(h:G:=by omega):G:=h
theorem cv{G:Prop}(h:G:=by grind):G:=h
theorem jT{G:Prop}(h:G:=by rw[e]):G:=h
theorem cE{G:Prop}(h:G:=by simp):G:=h
theorem j8{G:Prop}(h:G:=by rfl):G:=h
end Go
namespace Go
theorem al{c:Prop}[h:Decidable c](d:¬c){α:Sort _}{t e:α}:ite c t e=e:=if_neg d
theorem az{c:Prop}[h:Decidable c](d:c){α:Sort _}{t e:α}:ite c t e=t:=if_pos d
theorem dp{p:Prop}[inst:Decidable p](h:decide p=true):p:=of_decide_eq_true h
theorem eb{p:Prop}[inst:Decidable p](h:decide p=false):¬p:=of_decide_eq_false h
theorem c1{p:Prop}[inst:Decidable p](h:p):decide p=true:=decide_eq_true h
theorem db{p:Prop}[inst:Decidable p](h:¬p):decide p=false:=decide_eq_false h
end Go
namespace Go.QM
open Go
abbrev kx:=Nat->Option Obj
def nx(a b:kx):Prop:=∀i,a i=none\/b i=none
def gq(a b:kx):kx:=λi=>match a i with|some o=>some o|none=>b i
def lg(a b:kx):Prop:=∀i o,a i=some o->b i=some o
abbrev aw:=kx->Prop
def sep(A B:aw):aw:=λh=>∃a b,nx a b/\h=gq a b/\A a/\B b
def kD:aw:=λh=>h=λ_=>none
def obj(b:Nat)(o:Obj):aw:=λh=>h=λi=>if i=b then some o else none
def aj(b:Nat)(E:TypeId)(l:List Value):aw:=obj b (.cells l.toArray E (0,0))
def ag:List aw->aw
  | []=>kD
  | A::l=>sep A (ag l)
def eQ{α:Type}(A:α->aw):aw:=λh=>∃x,A x h
def pure'(p:Prop)(A:aw):aw:=λh=>p/\A h
variable{a b:kx}
theorem nx.symm(h:nx a b):nx b a:=λi=>(h i).symm
theorem EN(h:nx a b):gq a b=gq b a:=by funext i;rcases h i with h|h<;>simp only[gq,h];all_goals grind
theorem EM(a b c:kx):gq (gq a b) c=gq a (gq b c):=by grind[gq]
theorem z6(a:kx):lg a a:=λ_ _ h=>h
theorem lg.trans{c:kx}(h:lg a b)(k:lg b c):lg a c:=λi o x=>k i o (h i o x)
theorem qL(a b:kx):lg a (gq a b):=λi o h=>by simp[gq,h]
theorem uq(h:nx a b):lg b (gq a b):=by rw[EN h];exact qL b a
theorem NW{a' b':kx}(C:lg a a')(am:lg b b')(h:nx a' b'):lg (gq a b) (gq a' b'):=by intro i o d;simp only[gq]at d⊢;cases w:a i with|some x=>rw[w]at d;rw[C i x w];exact d|none=>rw[w]at d;have u:=am i o d;rcases h i with h|h;rw[h];exact u;rw[h]at u;cases u
theorem NH{a' b':kx}(h:nx a' b')(u:lg a a')(am:lg b b'):nx a b:=by
 intro i;rcases h i with h|h
 left;cases d:a i with
 | none=>rfl
 | some o=>have:=u i o d;rw[h]at this;cases this
 right;cases d:b i with
 | none=>rfl
 | some o=>have:=am i o d;rw[h]at this;cases this
theorem wK{c:kx}:nx (gq a b) c↔nx a c/\nx b c:=by
 constructor;·intro h;constructor<;>intro i<;>rcases h i with h|h;all_goals grind[gq]
 ·intro⟨h,k⟩ i;rcases h i with h|h;(·rcases k i with k|k;all_goals grind[gq]);simp_all
def aG(A B:aw):Prop:=∀h,A h->∃EA,lg EA h/\B EA
theorem aG.refl(A:aw):aG A A:=λh x=>⟨h,z6 h,x⟩
variable{A B C:aw}
theorem aG.trans(x:aG A B)(y:aG B C):aG A C:=λh a=>
  let⟨d,s1,b⟩:=x h a;let⟨u,s2,c⟩:=y d b;⟨u,s2.trans s1,c⟩
theorem ia(x:∀h,A h->B h):aG A B:=λh a=>⟨h,z6 h,x h a⟩
theorem Mk(A:aw):aG A kD:=λ_ _=>⟨λ_=>none,(λ_ _ h=>by cases h),rfl⟩
theorem dv{bl u:aw}(x:aG A bl)(y:aG B u):aG (sep A B) (sep bl u):=by rintro h ⟨a,b,d,rfl,E,am⟩;obtain⟨w,D,H⟩:=x a E;obtain⟨C,ay,N⟩:=y b am;exact⟨gq w C,NW D ay d,w,C,NH d D ay,rfl,H,N⟩
theorem l8:aG (sep A B) (sep B A):=ia (by
  rintro h ⟨a,b,d,rfl,u,am⟩
  exact⟨b,a,d.symm,EN d,am,u⟩)
theorem oq:aG (sep (sep A B) C) (sep A (sep B C)):=ia (by
  rintro h ⟨E,c,d,rfl,⟨a,b,u,rfl,w,am⟩,D⟩
  obtain⟨d1,d2⟩:=wK.1 d
  exact⟨a,gq b c,(wK.2 ⟨u.symm,d1.symm⟩).symm,EM a b c,w,b,c,d2,rfl,am,D⟩)
theorem mH:aG (sep A (sep B C)) (sep (sep A B) C):=ia (by
  rintro h ⟨a,E,d,rfl,w,b,c,u,rfl,am,D⟩
  obtain⟨d1,d2⟩:=wK.1 d.symm
  exact⟨gq a b,c,wK.2 ⟨d2.symm,u⟩,(EM a b c).symm,⟨a,b,d1.symm,rfl,w,am⟩,D⟩)
theorem o9:aG A (sep A kD):=ia (λh a=>⟨h,λ_=>none,λ_=>.inr rfl,by funext i;simp only[gq];cases h i<;>rfl,a,rfl⟩)
theorem xL:aG (sep A B) A:=by rintro h ⟨a,b,d,rfl,u,am⟩;exact⟨a,qL a b,u⟩
theorem q1:aG (sep A B) B:=l8.trans xL
theorem hp:aG (sep A (sep B C)) (sep B (sep A C)):=
  mH.trans ((dv l8 (aG.refl _)).trans oq)
def eX:Nat->List aw->Option (aw×List aw)
  | _,[]=>none
  | 0,A::l=>some (A,l)
  | n+1,A::l=>match eX n l with|some (B,r)=>some (B,A::r)|none=>none
theorem fO:∀{n:Nat} {l r:List aw} {B:aw},eX n l=some (B,r)->aG (ag l) (sep B (ag r))
  | _,[],_,_,h=>by simp[eX]at h
  | 0,A::l,_,_,h=>by simp only[eX,WQ,Xw]at h;obtain⟨rfl,rfl⟩:=h;exact aG.refl _
  | n+1,A::l,r,B,h=>by simp only[eX]at h;cases d:eX n l with|none=>rw[d]at h;cases h|some x=>obtain⟨C,u⟩:=x;rw[d]at h;simp only[WQ,Xw]at h;obtain⟨rfl,rfl⟩:=h;exact(dv (aG.refl A) (fO d)).trans hp
def ky(hs pre rest:List aw):Prop:=aG (ag hs) (sep (ag pre) (ag rest))
theorem ez(hs:List aw):ky hs [] hs:=o9.trans l8
theorem d8(i:Nat){hs r pre rest:List aw}(h:eX i hs=some (A,r))(k:ky r pre rest):ky hs (A::pre) rest:=
  (fO h).trans ((dv (aG.refl _) k).trans mH)
theorem m9:∀(l m:List aw),aG (sep (ag l) (ag m)) (ag (l++m))
  | [],_=>q1
  | _::l,m=>oq.trans (dv (aG.refl _) (m9 l m))
theorem u7:∀(l m:List aw),aG (ag (l++m)) (sep (ag l) (ag m))
  | [],_=>o9.trans l8
  | _::l,m=>(dv (aG.refl _) (u7 l m)).trans mH
theorem a7(hs:List aw):aG (ag hs) (ag []):=Mk _
theorem bU(n:Nat){hs r gs:List aw}(h:eX n hs=some (B,r))(k:aG (ag r) (ag gs)):aG (ag hs) (ag (B::gs)):=
  (fO h).trans (dv (aG.refl _) k)
theorem Mj(hs:List aw):aG (ag hs) (ag hs):=aG.refl _
theorem DW(n:Nat){hs r gs:List aw}(h:eX n hs=some (A,r))(e:aG A B)(k:aG (ag (B::r)) (ag gs)):aG (ag hs) (ag gs):=
  (fO h).trans ((dv e (aG.refl _)).trans k)
def sat(w:World)(A:aw):Prop:=∃h:kx,(∀i o,h i=some o->w.heap[i]? =some o)/\A h
theorem sat.bf{w:World}(h:sat w A)(e:aG A B):sat w B:=
  let⟨x,u,a⟩:=h;let⟨y,s,b⟩:=e x a;⟨y,λi o d=>u i o (s i o d),b⟩
structure fp(w ht:World):Prop where
  os:ht.os=w.os
  tape:ht.tape=w.tape
  output:ht.output=w.output
  size:w.heap.size<=ht.heap.size
theorem fp.refl(w:World):fp w w:=⟨rfl,rfl,rfl,Nat.le_refl _⟩
theorem fp.trans{a b c:World}(h:fp a b)(k:fp b c):fp a c:=⟨k.os.trans h.os,k.tape.trans h.tape,k.output.trans h.output,Nat.le_trans h.size k.size⟩
theorem nK{w:World}(o:Obj)(h:sat w A):sat (w.alloc o) (sep (obj w.heap.size o) A):=by
 obtain⟨x,E,a⟩:=h;have C:∀i o,x i=some o->i<w.heap.size:=cv
 refine⟨gq (λi=>if i=w.heap.size then some o else none) x,?_,_,x,?_,rfl,rfl,a⟩;intro i d u;simp only[gq]at u;show(w.heap.push o)[i]? =some d;grind;intro i;by_cases e:i=w.heap.size;right;cases D:x i with|none=>rfl|some d=>exact absurd (C i d D) U
 simp_all
def Rd(A:aw)(b:Nat)(o:Obj):Prop:=∀h,A h->h b=some o
variable{o:Obj}
theorem Rd.sat{b:Nat}(r:Rd A b o){w:World}(h:sat w A):w.heap[b]? =some o:=
  let⟨x,d,a⟩:=h;d b o (r x a)
theorem iq(b:Nat)(o:Obj):Rd (obj b o) b o:=λh e=>by rw[e];simp
theorem ng(b:Nat)(E:TypeId)(l:List Value):Rd (aj b E l) b (.cells l.toArray E (0,0)):=iq _ _
theorem hA{b:Nat}(r:Rd A b o):Rd (sep A B) b o:=by rintro h ⟨x,y,d,rfl,u,am⟩;exact qL x y b o (r x u)
theorem qt{b:Nat}(r:Rd B b o):Rd (sep A B) b o:=by rintro h ⟨x,y,d,rfl,u,am⟩;exact uq d b o (r y am)
theorem jn{l:List aw}{b:Nat}(r:Rd A b o):Rd (ag (A::l)) b o:=hA r
theorem lG{l:List aw}{b:Nat}(r:Rd (ag l) b o):Rd (ag (A::l)) b o:=qt r
theorem u5{w D:World}{b:Nat}{C:Obj}(h:sat w (sep (obj b o) A))(am:D.heap[b]? =some C)(H:∀i,i≠b->D.heap[i]? =w.heap[i]?):
    sat D (sep (obj b C) A):=by obtain⟨x,P,p,q,d,rfl,N,O⟩:=h;have Q:q b=none:=(by rcases d b with h|h;rw[N]at h;simp at h;trivial);refine⟨gq (λi=>if i=b then some C else none) q,?_,_,q,?_,rfl,rfl,O⟩;intro i E u;simp only[gq]at u;by_cases e:i=b;simp_all;simp[e]at u;rw[H i e];exact P i E (uq d i E u);intro i;grind
abbrev Env:=Nat->Value
def hS(ah:Env)(d:Nat)(v:Value):Env:=λt=>bif Wx t d then v else ah t
def jX(ah:Env):Option Nat->Value->Env
  | some d,v=>hS ah d v
  | none,_=>ah
def bh(ah:Env):Operand->Value
  | .tmp t=>ah t
  | .const v=>v
  | .global g=>.pointer (some ⟨g,0,none⟩)
  | .func f=>.func (.func f) #[] #[]
def cx(ah:Env):List (Nat×Value)->Env
  | []=>ah
  | (t,v)::l=>hS (cx ah l) t v
def oW(ah:Env):List (Nat×Value)->Prop
  | []=>True
  | (t,v)::l=>ah t=v/\oW ah l
theorem sa{d:Env}{t:Nat}{v:Value}(h:d t=v):hS d t v=d:=by grind[hS,VA]
theorem ra{d:Env}:∀{l:List (Nat×Value)},oW d l->cx d l=d
  | [],_=>rfl
  | (t,v)::l,h=>by rw[cx,ra h.2,sa h.1]
structure cg(N:Nat)(a:Act)(ah:Env)(aT:List Deferred):Prop where
  size:a.tmps.size=N
  get:∀t,a.tmps.getD t undef=ah t
  defers:a.defers=aT
theorem cg.eval{N:Nat}{a:Act}{d:Env}{u:List Deferred}(h:cg N a d u):a.eval=bh d:=by funext x;cases x<;>first|exact h.get _|rfl
def jR(N:Nat):Option Nat->Bool
  | some d=>Nat.blt d N
  | none=>true
theorem cg.put{N:Nat}{a:Act}{w:Env}{u:List Deferred}(h:cg N a w u){d:Option Nat}(C:jR N d=true)(v:Value):cg N (a.put d v) (jX w d v) u:=by cases d with|none=>exact h|some d=>(have E:d<N:=by simpa[jR,Nat.blt_eq]using C);refine⟨by simp[Act.put,h.size],λt=>?_,h.defers⟩;simp only[Act.put,jX,hS];by_cases e:t=d;subst e;have:Wx t t=true:=Nat.beq_refl t;rw[this];simp[h.size,E];(have am:Wx t d=false:=by cases D:Wx t d with|false=>rfl|true=>exact absurd (VA D) e);rw[am,cond_false,<-h.get t];rw[Wi,Wi,Array.getElem?_setIfInBounds_ne (λx=>e x.symm)]
def mP(r:Option Nat):Fence:={Yw with round:=r}
theorem vA(r:Option Nat)(f:FuncId):(mP r).fn f:=trivial
theorem tA(r:Option Nat):(mP r).depth.isSome=true->1<=0:=λh=>by simp[mP,Yw]at h
abbrev fj:=Exit->Env->List Deferred->aw->Prop
def ee(N:Nat)(w:World)(Q:fj):Exit->Act->World->Prop:=
  λe a' ht=>fp w ht/\∃JI DP bl,cg N a' JI DP/\sat ht bl/\Q e JI DP bl
def ab(r:Option Nat)(P:Program)(N:Nat)(c:Code)(Q:fj)(ah:Env)(aT:List Deferred)(A:aw):Prop:=
  ∀a w,cg N a ah aT->sat w A->c.wpIn (mP r) 0 P (ee N w Q) a w
theorem vt{N:Nat}{w0 w:World}{Q d:fj}(hs:fp w0 w)(C:∀e ah aT A,Q e ah aT A->d e ah aT A){e:Exit}{a':Act}{u:World}(h:ee N w Q e a' u):ee N w0 d e a' u:=
  let⟨s,ah,aT,A,x,y,z⟩:=h;⟨hs.trans s,ah,aT,A,x,y,C _ _ _ _ z⟩
def oH(K:Env->List Deferred->aw->Prop)(Q:fj):fj
  | .normal,ah,aT,A=>K ah aT A
  | e,ah,aT,A=>Q e ah aT A
def pl(id:Nat)(Q:fj):fj
  | .exit EP,ah,aT,A=>bif Wx EP id then Q .normal ah aT A else Q (.exit EP) ah aT A
  | e,ah,aT,A=>Q e ah aT A
section code
variable {r : Option Nat} {P : Program} {N : Nat} {Q : fj} {ah : Env} {aT : List Deferred} {A : aw}
theorem ab.bf{c:Code}{B:aw}(e:aG A B)(h:ab r P N c Q ah aT B):ab r P N c Q ah aT A:=λa w x y=>h a w x (y.bf e)
theorem ab.mono{c:Code}{d:fj}(h:ab r P N c Q ah aT A)(u:∀e ah aT A,Q e ah aT A->d e ah aT A):ab r P N c d ah aT A:=
  λa w x y=>wpIn_mono (h a w x y) λ_ _ _=>vt (fp.refl w) u
theorem ab.gc{c:Code}(l:List (Nat×Value))(d:oW ah l)(h:∀u,ab r P N c Q (cx u l) aT A):ab r P N c Q ah aT A:=by have:=h ah;rwa[ra d]at this
theorem ab.skip(h:Q .normal ah aT A):ab r P N .skip Q ah aT A:=λ_ w x y=>wpIn_skip ⟨fp.refl w,ah,aT,A,x,y,h⟩
theorem ab.label{l:Nat}(h:Q .normal ah aT A):ab r P N (.label l) Q ah aT A:=λ_ w x y=>wpIn_label ⟨fp.refl w,ah,aT,A,x,y,h⟩
theorem ab.exit{id:Nat}(h:Q (.exit id) ah aT A):ab r P N (.exit id) Q ah aT A:=λ_ w x y=>wpIn_exit ⟨fp.refl w,ah,aT,A,x,y,h⟩
theorem ab.goto{l:Nat}(h:Q (.goto l) ah aT A):ab r P N (.goto l) Q ah aT A:=λ_ w x y=>wpIn_goto ⟨fp.refl w,ah,aT,A,x,y,h⟩
theorem ab.ret(h:Q .ret ah aT A):ab r P N .ret Q ah aT A:=λ_ w x y=>wpIn_ret ⟨fp.refl w,ah,aT,A,x,y,h⟩
variable{x y:Code}
theorem ab.seq(h:ab r P N x (oH (λah aT A=>ab r P N y Q ah aT A) Q) ah aT A):ab r P N (.seq x y) Q ah aT A:=by intro a w O V;refine wpIn_seq (wpIn_mono (h a w O V) ?_);rintro e E W ⟨s,Z,H,D,d,u,C⟩;cases e with|normal=>exact wpIn_mono (C E W d u) λ_ _ _=>vt s (λ_ _ _ _ h=>h)|_=>exact⟨s,Z,H,D,d,u,C⟩
theorem ab.block{id:Nat}{c:Code}(h:ab r P N c (pl id Q) ah aT A):ab r P N (.block id c) Q ah aT A:=by intro a w W Z;refine wpIn_block (wpIn_mono (h a w W Z) ?_);rintro e aq ar ⟨s,O,D,C,E,H,d⟩;cases e with|exit u=>simp only[Exit.inBlock];simp only[pl]at d;by_cases e:u=id;subst e;rw[az rfl];have:Wx u u=true:=Nat.beq_refl _;rw[this]at d;exact⟨s,O,D,C,E,H,d⟩;rw[al e];(have:Wx u id=false:=by cases V:Wx u id with|false=>rfl|true=>exact absurd (VA V) e);rw[this]at d;exact⟨s,O,D,C,E,H,d⟩|_=>exact⟨s,O,D,C,E,H,d⟩
theorem ab.cond{c:Operand}{t:Bool}(u:bh ah c=.bool t)(E:t=true->ab r P N x Q ah aT A)(D:t=false->ab r P N y Q ah aT A):ab r P N (.cond c x y) Q ah aT A:=by intro a w d C;cases t with|true=>exact wpIn_cond_true (by rw[d.eval];exact u) (E rfl a w d C)|false=>exact wpIn_cond_false (by rw[d.eval];exact u) (D rfl a w d C)
theorem ab.Lx{c:Operand}(d:bh ah c=.bool true)(u:ab r P N x Q ah aT A):ab r P N (.cond c x y) Q ah aT A:=
  ab.cond d (λ_=>u) (λh=>by cases h)
theorem ab.Lw{c:Operand}(d:bh ah c=.bool false)(u:ab r P N y Q ah aT A):ab r P N (.cond c x y) Q ah aT A:=
  ab.cond d (λh=>by cases h) (λ_=>u)
theorem ab.aB{c:Operand}{p:Prop}[Decidable p](d:bh ah c=.bool (decide p))(w:p->ab r P N x Q ah aT A)(u:¬p->ab r P N y Q ah aT A):ab r P N (.cond c x y) Q ah aT A:=
  ab.cond d (λh=>w (dp h)) (λh=>u (eb h))
end code
theorem Ue{F:Fence}{n:Nat}{P:Program}{Q:Exit->Act->World->Prop}{a:Act}{w:World}{c:Code}(bu:Nat->Act->World->Prop)(N:Nat)(av:bu N a w)
    (round:∀m a w,bu m a w->c.wpIn F n P (Exit.then (λa' D=>∃m',m'<m/\bu m' a' D) Q) a w):(Code.loop c).wpIn F n P Q a w:=by
 intro b k cs au am H
 have key:∀j a w,bu j a w->
     ∃e a' D,Q e a' D/\ArrivesIn (Machine.fenced P F) P (lone (b.atR a (.code c::.inLoop c::k)) cs w) b k cs e a' D:=by
   intro j
   induction j using Nat.strongRecOn with
   | _ j aw=>
     intro a w W
     obtain⟨e,C,E,u,d⟩:=round j a w W b (.inLoop c::k) cs au am H
     cases e with
     | normal=>
       obtain⟨m',aq,Z⟩:=u
       obtain⟨V,O,aB,ar,ah⟩:=aw m' aq C E Z
       exact⟨V,O,aB,ar,.of_steps (StepsIn.trans d (.one (fenced_calm am H rfl) stepR_inLoop)) ah⟩
     | exit id=>exact⟨_,C,E,u,.pass (x:=.inLoop c) rfl (λ_ _=>.inl cE) d⟩
     | goto l=>exact⟨_,C,E,u,.pass (x:=.inLoop c) rfl (λ_ _=>.inl cE) d⟩
     | ret=>exact⟨_,C,E,u,.pass (x:=.inLoop c) rfl (λ_ _=>.inl cE) d⟩
     | panic hN=>exact⟨_,C,E,u,.pass (x:=.inLoop c) rfl (λ_ _=>.inl cE) d⟩
     | outgrown=>exact⟨_,C,E,u,.pass (x:=.inLoop c) rfl (λ_ _=>.inl cE) d⟩
 obtain⟨e,a',D,u,d⟩:=key N a w av;exact⟨e,a',D,u,.of_steps (.one (fenced_calm am H rfl) stepR_loop) d⟩
section Ls
variable {r : Option Nat} {P : Program} {N : Nat} {Q : fj} {ah : Env} {aT : List Deferred} {A : aw}
theorem ab.loop{ι:Type}{c:Code}(inv:ι->Prop)(L:ι->List (Nat×Value))(B:ι->aw)(d:ι->Nat)(i0:ι)(av:inv i0)(aJ:oW ah (L i0))(he:aG A (B i0))
    (round:∀i,inv i->∀u,ab r P N c (oH (λa9 au Z=>au=aT/\∃j,inv j/\d j<d i/\oW a9 (L j)/\aG Z (B j)) Q) (cx u (L i)) aT (B i)):
    ab r P N (.loop c) Q ah aT A:=by intro a w a2 a4;refine Ue (λm D C=>fp w C/\∃i u,inv i/\cg N D (cx u (L i)) aT/\sat C (B i)/\d i=m) (d i0) ⟨fp.refl w,i0,ah,av,by rw[ra aJ];exact a2,a4.bf he,rfl⟩ ?_;rintro m aq cG ⟨s1,i,u,aD,a3,a5,rfl⟩;refine wpIn_mono (round i aD u aq cG a3 a5) ?_;rintro e D C ⟨s,V,ar,W,E,H,O⟩;cases e with|normal=>obtain⟨rfl,j,aI,a1,a0,aB⟩:=O;exact⟨d j,a1,s1.trans s,j,V,aI,by rw[ra a0];exact E,H.bf aB,rfl⟩|_=>exact⟨s1.trans s,V,ar,W,E,H,O⟩
theorem ab.cut{ι:Type}{x y:Code}(inv:ι->Prop)(L:ι->List (Nat×Value))(B:ι->aw)(C:ab r P N x (oH (λd w u=>w=aT/\∃j,inv j/\oW d (L j)/\aG u (B j)) Q) ah aT A)
    (D:∀j,inv j->∀O,ab r P N y Q (cx O (L j)) aT (B j)):ab r P N (.seq x y) Q ah aT A:=by refine ab.seq (C.mono λe d w u h=>?_);cases e with|normal=>obtain⟨rfl,j,E,H,he⟩:=h;have:=D j E d;rw[ra H]at this;exact this.bf he|_=>exact h
variable {K : Env → List Deferred → aw → Prop} {i j : Nat}
theorem iL(h:K ah aT A):oH K Q .normal ah aT A:=h
theorem mZ(h:Q (.exit i) ah aT A):oH K Q (.exit i) ah aT A:=h
theorem rt(h:Q .ret ah aT A):oH K Q .ret ah aT A:=h
theorem jA(h:Q .normal ah aT A):pl i Q .normal ah aT A:=h
theorem rC(h:Q .normal ah aT A):pl i Q (.exit i) ah aT A:=by
 have:Wx i i=true:=b6
 simp only[pl,this,cond_true];exact h
theorem aJ(d:Wx j i=false)(h:Q (.exit j) ah aT A):pl i Q (.exit j) ah aT A:=by simp only[pl,d,cond_false];exact h
theorem kO(h:Q .ret ah aT A):pl i Q .ret ah aT A:=h
end Ls
end Go.QM
open Go.QM.fp renaming refl->X3
namespace Go.QM
open Go
def cq (r:Option Nat) (P:Program) (ah:Env) (o:Oper) (A:aw) (K:Value->aw->Prop):Prop:=
  ∀ a w,a.eval=bh ah->sat w A->
    o.wpIn (mP r) 0 P a w (λa' ht=>∃v bl,a'=a.put o.dst v/\fp w ht/\sat ht bl/\K v bl) (λ_ _ _=>False)
def nd(F:Fence)(n:Nat)(P:Program)(ops:Array Oper)(Q:Exit->Act->World->Prop):List Oper->Act->World->Prop
  | [],a,w=>Q .normal a w
  | o::rest,a,w=>if VL o (yielded ops a.tmps)=true then o.wpIn F n P a w (nd F n P ops Q rest) Q else(∀f,o.about P w a.eval=some f->F.fn f)/\nd F n P ops Q rest (a.put o.dst undef) w
theorem Cf{F:Fence}{n:Nat}{P:Program}{ops:Array Oper}{Q:Exit->Act->World->Prop}:∀(l:List Oper) (k:Nat),(∀j,l[j]? =ops[k+j]?)->∀(a:Act) (w:World),
    nd F n P ops Q l a w->wpOpsIn F n P ops Q (List.range' k l.length) a w
  | [],_,_,a,w,h=>by simpa[wpOpsIn,nd]using h
  | o::l,k,d,a,w,h=>by
   have C:ops[k]? =some o:=by simpa using(d 0).symm
   have u:∀j,l[j]? =ops[(k+1)+j]? :=λj=>by have:=d (j+1);simpa[Nat.add_assoc,Nat.add_comm 1 j]using this
   simp only[List.length_cons,List.range'_succ];simp only[wpOpsIn,C];simp only[nd]at h;split;rename_i hw;rw[az hw]at h;exact XN (λa w=>Cf l (k+1) u a w) h;rename_i hw;rw[al hw]at h;exact⟨h.1,Cf l (k+1) u _ _ h.2⟩
theorem Oper.yf{F:Fence}{n:Nat}{P:Program}{o:Oper}{a:Act}{w:World}{K u:Act->World->Prop}{Q:Exit->Act->World->Prop}(h:∀a w,K a w->u a w)
    (d:o.wpIn F n P a w K (λ_ _ _=>False)):o.wpIn F n P a w u Q:=by
 unfold Ym at*;refine⟨d.1,?_⟩;have d:=d.2;generalize(o.semAt F.round a.eval).run P w=r at*;have C:¬LetsOut (λ(_:Exit) (_:Act) (_:World)=>False):=by grind[LetsOut]
 cases r with
 | ok x D=>
   cases x<;>simp only[WO]at d⊢<;>
     first
       | exact h _ _ d
       | exact⟨d.1,XY d.2 (λe E he=>by cases e<;>first|exact h _ _ he|exact he.elim|exact(C he).elim)⟩
       | exact⟨d.1,RowsIn.mono d.2 (λ_ _ he=>h _ _ he)⟩
       | exact⟨d.1,XW d.2 (λe E he=>by cases e<;>first|exact h _ _ he|exact he.elim|exact(C he).elim)⟩
 | halt x D=>cases x<;>simp only[WO]at d
def aW(r:Option Nat)(P:Program)(N:Nat)(ops:Array Oper)(l:List Oper)(Q:fj)(ah:Env)(aT:List Deferred)(A:aw):Prop:=
  ∀a w,cg N a ah aT->sat w A->nd (mP r) 0 P ops (ee N w Q) l a w
section
variable {r : Option Nat} {P : Program} {N : Nat} {ops : Array Oper} {l : List Oper} {Q : fj} {ah : Env} {aT : List Deferred} {A : aw} {K : Value → aw → Prop}
theorem yg{F:Fence}{n:Nat}{Q u:Exit->Act->World->Prop}(d:∀e a w,Q e a w->u e a w):∀(l:List Oper) (a:Act) (w:World),nd F n P ops Q l a w->nd F n P ops u l a w
  | [],_,_,h=>d _ _ _ h
  | o :: l,a,w,h=>by
   simp only[nd]at h⊢;split;rename_i hw;rw[az hw]at h;refine XN (λa w=>yg d l a w) ?_;unfold Ym at*;refine⟨h.1,?_⟩;have h:=h.2;have C:LetsOut Q->LetsOut u:=λ⟨a,w,x⟩=>⟨a,w,d _ _ _ x⟩;generalize(o.semAt F.round a.eval).run P w=r at*
   cases r with
   | ok x D=>
     cases x<;>simp only[WO]at h⊢<;>
       first
         | exact h
         | exact⟨h.1,XY h.2 (λe E he=>by cases e<;>first|exact he|exact d _ _ _ he|exact C he)⟩
         | exact⟨h.1,XW h.2 (λe E he=>by cases e<;>first|exact he|exact d _ _ _ he|exact C he)⟩
   | halt x D=>cases x<;>simp only[WO]at h⊢;exact d _ _ _ h
   rename_i hw;rw[al hw]at h;exact⟨h.1,yg d l _ _ h.2⟩
theorem aW.bf{B:aw}(e:aG A B)(h:aW r P N ops l Q ah aT B):aW r P N ops l Q ah aT A:=λa w x y=>h a w x (y.bf e)
theorem ab.region{id:Nat}(h:aW r P N l.toArray l Q ah aT A):ab r P N (.region id l.toArray false) Q ah aT A:=by intro a w d u;refine wpIn_region ?_;have:=Cf (ops:=l.toArray) l 0 cE a w (h a w d u);grind[List.range_eq_range']
theorem aW.nil(h:Q .normal ah aT A):aW r P N ops [] Q ah aT A:=λ_ w x y=>⟨X3 w,ah,aT,A,x,y,h⟩
variable{o:Oper}
theorem aW.cons(O:o.guard=none)(u:jR N o.dst=true)(h:cq r P ah o A (λv bl=>aW r P N ops l Q (jX ah o.dst v) aT bl)):aW r P N ops (o::l) Q ah aT A:=by
 intro a w d D;have hw:VL o (yielded ops a.tmps)=true:=by grind[VL]
 simp only[nd,hw,if_true];refine Oper.yf ?_ (h a w d.eval D);rintro H V ⟨v,bl,rfl,s,E,C⟩;exact yg (λe a w=>vt s (λ_ _ _ _ h=>h)) l _ _ (C _ _ (d.put u v) E)
def im (ops:Array Oper) (ah:Env) (j:Nat):Option Bool:=
  match(ops[j]?).bind (·.dst)with
  | some d=>match ah d with
    | .bool b=>some b
    | _=>none
  | none=>none
theorem cg.yielded{a:Act}(h:cg N a ah aT){j:Nat}{b:Bool}(w:im ops ah j=some b):yielded ops a.tmps j=some b:=by unfold im at w;unfold XO;cases C:(ops[j]?).bind (·.dst)with|none=>rw[C]at w;cases w|some d=>rw[C]at w;simp only[]at w;have u:=h.get d;rw[Wi]at u;simp only[X5];(cases D:a.tmps[d]? with|none=>rw[D]at u;simp[undef]at u;rw[<-u]at w;simp at w|some v=>rw[D]at u;simp at u;rw[u];cases hv:ah d<;>simp_all)
variable{b:Bool}{j:Nat}
theorem aW.DD(C:o.guard=some (j,b))(O:im ops ah j=some b)(u:jR N o.dst=true)(h:cq r P ah o A (λv bl=>aW r P N ops l Q (jX ah o.dst v) aT bl)):aW r P N ops (o::l) Q ah aT A:=by
 intro a w d E;have hw:VL o (XO ops a.tmps)=true:=by simp[VL,C,d.yielded O]
 simp only[nd,hw,if_true];refine Oper.yf ?_ (h a w d.eval E);rintro V W ⟨v,bl,rfl,s,H,D⟩;exact yg (λe a w=>vt s (λ_ _ _ _ h=>h)) l _ _ (D _ _ (d.put u v) H)
theorem aW.Sv(C:o.guard=some (j,!b))(E:im ops ah j=some b)(u:jR N o.dst=true)(h:aW r P N ops l Q (jX ah o.dst undef) aT A):aW r P N ops (o::l) Q ah aT A:=by
 intro a w d D;have hw:VL o (XO ops a.tmps)=false:=by simp[VL,C,d.yielded E]
 simp only[nd,hw];exact⟨λ_ _=>trivial,h _ _ (d.put u undef) D⟩
def vl (ops:Array Oper) (ah:Env) (j:Nat):Bool:=
  match(ops[j]?).bind (·.dst)with
  | some d=>match ah d with
    | .bool _=>false
    | _=>true
  | none=>true
theorem cg.I4{a:Act}(h:cg N a ah aT)(u:vl ops ah j=true):XO ops a.tmps j=none:=by unfold vl at u;unfold XO;cases C:(ops[j]?).bind (·.dst)with|none=>rfl|some d=>rw[C]at u;simp only[]at u;have w:=h.get d;rw[Wi]at w;simp only[X5];(cases hv:a.tmps[d]? with|none=>rfl|some v=>rw[hv]at w;simp only[Option.getD_some]at w;subst w;revert u;generalize ah d=z;intro u;(cases z<;>first|rfl|cases u))
theorem aW.HE(C:o.guard=some (j,b))(E:vl ops ah j=true)(u:jR N o.dst=true)(h:aW r P N ops l Q (jX ah o.dst undef) aT A):aW r P N ops (o::l) Q ah aT A:=by
 intro a w d D;have hw:VL o (XO ops a.tmps)=false:=by simp[VL,C,d.I4 E]
 simp only[nd,hw];exact⟨λ_ _=>trivial,h _ _ (d.put u undef) D⟩
theorem aW.split(t:Nat)(d:ah t=.bool b)(u:b=true->aW r P N ops l Q (hS ah t (.bool true)) aT A)(w:b=false->aW r P N ops l Q (hS ah t (.bool false)) aT A):aW r P N ops l Q ah aT A:=by cases b with|true=>have:=u rfl;rwa[sa d]at this|false=>have:=w rfl;rwa[sa d]at this
theorem aW.known(t:Nat){c:Bool}(d:ah t=.bool b)(am:b=c)(h:aW r P N ops l Q (hS ah t (.bool c)) aT A):aW r P N ops l Q ah aT A:=by subst am;rwa[sa d]at h
theorem cq.mono{d:Value->aw->Prop}(h:cq r P ah o A K)(H:∀v bl,K v bl->d v bl):cq r P ah o A d:=
  λa w x y=>XN (λ_ _ ⟨v,bl,u,C,D,E⟩=>⟨v,bl,u,C,D,H _ _ E⟩) (h a w x y)
theorem cq.bf{B:aw}(e:aG A B)(h:cq r P ah o B K):cq r P ah o A K:=λa w x y=>h a w x (y.bf e)
def iV:Op->Bool
  | .defer _=>false
  | _=>true
theorem r4(r:Option Nat)(h:iV o.op=true)(f:Operand->Value):o.semAt r f=execOp f o:=
  Oper.semAt_eq r f o (λc d=>by rw[d]at h;cases h)
theorem cq.run(D:iV o.op=true)
    (h:∀w,sat w A->∃v d bl,((execOp (bh ah) o).run P w=.ok (.value v) d\/((execOp (bh ah) o).run P w=.ok .skip d/\v=undef))/\fp w d/\sat d bl/\K v bl):cq r P ah o A K:=by intro a w he E;obtain⟨v,d,bl,u,N,H,C⟩:=h w E;refine⟨λ_ _=>trivial,?_⟩;rw[r4 _ D,he];rcases u with u|⟨u,rfl⟩<;>rw[u]<;>exact⟨_,bl,rfl,N,H,C⟩
theorem cq.val(v:Value)(u:iV o.op=true)(h:∀w,sat w A->(execOp (bh ah) o).run P w=.ok (.value v) w)(k:K v A):cq r P ah o A K:=
  cq.run u λw d=>⟨v,w,A,.inl (h w d),X3 w,d,k⟩
def bG(P:Program)(ah:Env)(o:Oper)(A:aw)(v:Value):Prop:=∀w,sat w A->(execOp (bh ah) o).run P w=.ok (.value v) w
theorem cq.q{v:Value}(d:iV o.op=true)(h:bG P ah o A v)(k:K v A):cq r P ah o A K:=cq.val v d h k
variable {op : Op} {d : Option Tmp} {ty : TypeId} {ps : String} {bk : Array Edge} {g : Option (Nat × Bool)} {t : Nat} {v : Value} {j : Nat} {b : Bool}
theorem q(u:iV op=true)(d:W9 t N=true)(w:bG P ah ⟨some t,op,ty,ps,bk,none⟩ A v)(h:aW r P N ops l Q (hS ah t v) aT A):aW r P N ops (⟨some t,op,ty,ps,bk,none⟩::l) Q ah aT A:=
  aW.cons rfl d (cq.q u w h)
theorem c9(C:im ops ah j=some b)(u:iV op=true)(d:W9 t N=true)(w:bG P ah ⟨some t,op,ty,ps,bk,some (j,b)⟩ A v)(h:aW r P N ops l Q (hS ah t v) aT A):aW r P N ops (⟨some t,op,ty,ps,bk,some (j,b)⟩::l) Q ah aT A:=
  aW.DD rfl C d (cq.q u w h)
theorem m6(u:im ops ah j=some (!b))(d:W9 t N=true)(h:aW r P N ops l Q (hS ah t undef) aT A):aW r P N ops (⟨some t,op,ty,ps,bk,some (j,b)⟩::l) Q ah aT A:=
  aW.Sv (o:=⟨some t,op,ty,ps,bk,some (j,b)⟩) (b:=!b) cE u d h
theorem Rl(u:vl ops ah j=true)(d:W9 t N=true)(h:aW r P N ops l Q (hS ah t undef) aT A):aW r P N ops (⟨some t,op,ty,ps,bk,some (j,b)⟩::l) Q ah aT A:=
  aW.HE (o:=⟨some t,op,ty,ps,bk,some (j,b)⟩) rfl u d h
theorem e(d:W9 t N=true)(h:cq r P ah ⟨some t,op,ty,ps,bk,none⟩ A (λv bl=>aW r P N ops l Q (hS ah t v) aT bl)):aW r P N ops (⟨some t,op,ty,ps,bk,none⟩::l) Q ah aT A:=
  aW.cons rfl d h
theorem et(h:cq r P ah ⟨none,op,ty,ps,bk,none⟩ A (λ_ bl=>aW r P N ops l Q ah aT bl)):aW r P N ops (⟨none,op,ty,ps,bk,none⟩::l) Q ah aT A:=
  aW.cons rfl rfl h
theorem oP(u:im ops ah j=some b)(d:W9 t N=true)(h:cq r P ah ⟨some t,op,ty,ps,bk,some (j,b)⟩ A (λv bl=>aW r P N ops l Q (hS ah t v) aT bl)):aW r P N ops (⟨some t,op,ty,ps,bk,some (j,b)⟩::l) Q ah aT A:=
  aW.DD rfl u d h
variable{x:Operand}
theorem fC{v:Value}(u:bh ah x=v):bG P ah ⟨d,.move x,ty,ps,bk,g⟩ A v:=λ_ _=>by simp[execOp,u]
theorem oK{v:Value}(u:bh ah x=v):bG P ah ⟨d,.assign x,ty,ps,bk,g⟩ A v:=λ_ _=>by simp[execOp,u]
theorem Bm{c y:Operand}{v:Value}(u:bh ah c=.bool true)(w:bh ah x=v):bG P ah ⟨d,.pick c x y,ty,ps,bk,g⟩ A v:=λ_ _=>by simp[execOp,u,w,asBool]
theorem Bl{c y:Operand}{v:Value}(u:bh ah c=.bool false)(w:bh ah y=v):bG P ah ⟨d,.pick c x y,ty,ps,bk,g⟩ A v:=λ_ _=>by simp[execOp,u,w,asBool]
theorem s0{a:Addr}(u:bh ah x=.pointer (some a)):bG P ah ⟨d,.nilCheck x,ty,ps,bk,g⟩ A (.pointer (some a)):=λ_ _=>by simp[execOp,u]
theorem pu(v:Value)(h:∀w,(execOp (bh ah) ⟨d,op,ty,ps,bk,g⟩).run P w=.ok (.value v) w):bG P ah ⟨d,op,ty,ps,bk,g⟩ A v:=λw _=>h w
theorem iG(b off n:Nat):(⟨b,off,none⟩:Addr).add n=⟨b,off+n,none⟩:=by unfold Addr.add;split<;>simp_all
def mz(P:Program)(t:TypeId):Bool:=match P.underlying t with
  | some (.struct _)|some (.array _ _)|none=>false
  | some _=>true
def qv(P:Program)(t:TypeId)(n:Nat):Bool:=match P.underlying t,P.info? t with
  | some (.struct _),some i|some (.array _ _),some i=>Wx i.size n
  | _,_=>false
def q7(P:Program)(t:TypeId)(n:Nat):Bool:=match P.info? t with
  | some i=>Wx i.size n
  | none=>false
def wA (P:Program) (s:TypeId) (f off:Nat):Bool:=match P.underlying s with
  | some (.struct pO)=>match pO[f]? with
    | some fd=>Wx fd.offset off&&(match P.info? fd.type with|some i=>!Wx i.size 0|none=>false)
    | none=>false
  | _=>false
theorem ut{t:TypeId}(h:mz P t=true)(w:World):(isAgg t).run P w=.ok false w:=by unfold mz at h;cases hu:P.underlying t with|none=>rw[hu]at h;cases h|some u=>(rw[hu]at h;cases u<;>first|(simp at h;done)|simp[isAgg,underlying,hu])
variable{n:Nat}
theorem E8{t:TypeId}(h:qv P t n=true)(w:World):(isAgg t).run P w=.ok true w/\(sizeOf t).run P w=.ok n w:=by unfold qv at h;cases hu:P.underlying t with|none=>rw[hu]at h;cases h|some u=>rw[hu]at h;(cases d:P.info? t with|none=>rw[d]at h;cases u<;>cases h|some i=>rw[d]at h;(cases u<;>first|(cases h;done)|(simp only[]at h;have:=VA h;simp[isAgg,underlying,hu,sizeOf,typeInfo,d,this])))
theorem BS{t:TypeId}(h:q7 P t n=true)(w:World):(sizeOf t).run P w=.ok n w:=by unfold q7 at h;cases d:P.info? t with|none=>rw[d]at h;cases h|some i=>rw[d]at h;have:=VA h;simp[sizeOf,typeInfo,d,this]
variable{off:Nat}
theorem c3{s:TypeId}{f b:Nat}(o:Nat)(C:wA P s f o=true)(Q:bh ah x=.pointer (some ⟨b,off,none⟩)):
    bG P ah ⟨d,.fieldAddr s x f,ty,ps,bk,g⟩ A (.pointer (some ⟨b,off+o,none⟩)):=by intro w _;unfold wA at C;cases hu:P.underlying s with|none=>rw[hu]at C;cases C|some u=>rw[hu]at C;(cases u with|struct O=>simp only[]at C;(cases H:O[f]? with|none=>rw[H]at C;cases C|some fd=>rw[H]at C;simp only[VP]at C;obtain⟨E,D⟩:=C;have E:=VA E;(cases N:P.info? fd.type with|none=>rw[N]at D;cases D|some i=>rw[N]at D;(have V:i.size≠0:=λe=>by simp[e]at D);simp[execOp,Instr.fieldAt,underlying,hu,H,Q,WJ,fieldPlace,sizeOf,typeInfo,N,V,iG,E]))|_=>cases C)
variable{E:Nat}{lU:Nat×Nat}
theorem y6{w:World}{b:Nat}{l:List Value}(h:w.heap[b]? =some (.cells l.toArray E lU))(off:Nat):w.cell? ⟨b,off,none⟩=l[off]? :=by grind[World.cell?]
theorem AF{t:TypeId}(d:mz P t=true){w:World}{b:Nat}{l:List Value}{v:Value}(h:w.heap[b]? =some (.cells l.toArray E lU))(hv:l[off]? =some v):
    (loadVar t ⟨b,off,none⟩).run P w=.ok v w:=by simp[loadVar,ut d,y6 h,hv]
variable{vs:List Value}
theorem AE{t:TypeId}(C:qv P t n=true){w:World}{b:Nat}{l:List Value}(h:w.heap[b]? =some (.cells l.toArray E lU))(hv:(l.drop off).take n=vs)(au:vs.length=n):
    (loadVar t ⟨b,off,none⟩).run P w=.ok (.agg vs.toArray) w:=by have u:=run_loadCells_list (P:=P) w ⟨b,off,none⟩ vs (λj v d=>by rw[iG,y6 h];rw[<-hv,List.getElem?_take]at d;split at d;rwa[List.getElem?_drop]at d;cases d);rw[au]at u;simp[loadVar,E8 C,u]
class gb(A:aw)(b:Nat)(o:outParam Obj):Prop where
  rd:Rd A b o
instance (b:Nat)(E:TypeId)(l:List Value):gb (aj b E l) b (.cells l.toArray E (0,0)):=⟨ng b E l⟩
instance (b:Nat)(o:Obj):gb (obj b o) b o:=⟨iq b o⟩
instance (A:aw)(l:List aw)(b:Nat)(o:Obj)[h:gb (ag l) b o]:gb (ag (A::l)) b o:=⟨lG h.rd⟩
instance (A:aw)(l:List aw)(b:Nat)(o:Obj)[h:gb A b o]:gb (ag (A::l)) b o:=⟨jn h.rd⟩
theorem Pp{t:TypeId}{b:Nat}{l:List Value}{v:Value}(C:mz P t=true)(D:bh ah x=.pointer (some ⟨b,off,none⟩))(hr:Rd A b (.cells l.toArray E lU))(hv:l[off]? =some v):
    bG P ah ⟨d,.load t x,ty,ps,bk,g⟩ A v:=by intro w u;simp[execOp,Instr.loadAt,D,WJ,AF C (hr.sat u) hv]
theorem Pq{t:TypeId}{b:Nat}{l:List Value}(n:Nat)(C:qv P t n=true)(D:bh ah x=.pointer (some ⟨b,off,none⟩))(hr:Rd A b (.cells l.toArray E lU))(hv:(l.drop off).take n=vs)(au:vs.length=n):
    bG P ah ⟨d,.load t x,ty,ps,bk,g⟩ A (.agg vs.toArray):=by intro w u;simp[execOp,Instr.loadAt,D,WJ,AE C (hr.sat u) hv au]
theorem gL{t:TypeId}{b:Nat}{l:List Value}{v:Value}(u:mz P t=true)(w:bh ah x=.pointer (some ⟨b,off,none⟩))[hr:gb A b (.cells l.toArray E lU)](hv:l[off]? =some v):
    bG P ah ⟨d,.load t x,ty,ps,bk,g⟩ A v:=Pp u w hr.rd hv
theorem fY{t:TypeId}{b:Nat}{l:List Value}(n:Nat)(u:qv P t n=true)(w:bh ah x=.pointer (some ⟨b,off,none⟩))[hr:gb A b (.cells l.toArray E lU)](hv:(l.drop off).take n=vs)(au:vs.length=n):
    bG P ah ⟨d,.load t x,ty,ps,bk,g⟩ A (.agg vs.toArray):=Pq n u w hr.rd hv au
def dN(off:Nat)(vs l:List Value):List Value:=l.take off++vs++l.drop (off+vs.length)
theorem vc{l:List Value}(h:off+vs.length<=l.length):(dN off vs l).length=l.length:=by grind[dN]
theorem xK{w:World}{b:Nat}{l l':List Value}(h:sat w (sep (aj b E l) A)):sat (w.setRow b l'.toArray) (sep (aj b E l') A):=by have am:w.heap[b]? =some (.cells l.toArray E (0,0)):=(hA (ng b E l)).sat h;exact u5 h (setRow_heap w b _ _ E (0,0) am) (λi d=>setRow_other w b i _ d)
theorem S4{t:TypeId}{v:Value}(D:q7 P t n=true)(au:v.cells.toList.length=n)(d:v.cells.toList.all VN=true){w:World}{b:Nat}{l:List Value}
    (h:w.heap[b]? =some (.cells l.toArray E (0,0))) (hlen:off+n<=l.length):(storeVar t ⟨b,off,none⟩ v).run P w=.ok () (w.setRow b (dN off v.cells.toList l).toArray):=by
 have:=run_storeCells_at P b off E v.cells.toList 0 l.toArray w h (by rw[au];simpa using hlen) (λu hu=>by simpa using Xi.1 d u hu);simp only[Nat.add_zero]at this;have C:v.cells.size=n:=by trivial
 simp only[storeVar,Vz,BS D,Vo,C,ne_eq,not_true_eq_false,if_false,this,dN]
theorem GJ(i:Nat){hs rest:List aw}{t:TypeId}{y:Operand}{b:Nat}{l l':List Value}{v:Value}(Q:bh ah x=.pointer (some ⟨b,off,none⟩))(u:eX i hs=some (aj b E l,rest))(V:bh ah y=v)
    (H:v.cells.toList=vs) (D:vs.all VN=true) (O:q7 P t n=true) (au:vs.length=n) (hlen:off+n<=l.length) (N:dN off vs l=l') (k:K undef (ag (aj b E l'::rest))):
    cq r P ah ⟨d,.store t x y,ty,ps,bk,g⟩ (ag hs) K:=by subst H;refine cq.run rfl λw C=>⟨undef,w.setRow b l'.toArray,_,.inr ⟨?_,rfl⟩,⟨rfl,rfl,rfl,by simp⟩,?_,k⟩;have am:w.heap[b]? =some (.cells l.toArray E (0,0)):=(hA (ng b E l)).sat (C.bf (fO u));subst N;simp only[execOp,Instr.storeAt,Q,V,WJ,Vz,Sem.run_pure,Vo,S4 O au D am hlen];exact xK (C.bf (fO u))
class rq(hs:List aw)(b:Nat)(E:outParam Nat)(l:outParam (List Value))(r:outParam (List aw)):Prop where
  tk:∃i,eX i hs=some (aj b E l,r)
instance (b E:Nat)(l:List Value)(r:List aw):rq (aj b E l::r) b E l r:=⟨0,rfl⟩
instance (A:aw)(hs:List aw)(b E:Nat)(l:List Value)(r:List aw)[h:rq hs b E l r]:rq (A::hs) b E l (A::r):=⟨by
  obtain⟨i,pQ⟩:=h.tk
  exact⟨i+1,by simp[eX,pQ]⟩⟩
theorem st{hs rest:List aw}{t:TypeId}{y:Operand}{b:Nat}{l l':List Value}{v:Value}(n:Nat)(H:q7 P t n=true)(N:bh ah x=.pointer (some ⟨b,off,none⟩))(O:bh ah y=v)
    (C:v.cells.toList=vs) (w:vs.all VN=true) (au:Wx vs.length n=true) [u:rq hs b E l rest] (hlen:off+n<=l.length) (D:dN off vs l=l') (k:K undef (ag (aj b E l'::rest))):
    cq r P ah ⟨d,.store t x y,ty,ps,bk,g⟩ (ag hs) K:=by obtain⟨i,u⟩:=u.tk;exact GJ i N u O C w H (VA au) hlen D k
theorem cq.new{o:Oper}(bC:iV o.op=true)(E:TypeId)(l:List Value)(f:Nat->Value)(d:∀w,(execOp (bh ah) o).run P w=.ok (.value (f w.heap.size)) (w.alloc (.cells l.toArray E)))
    {hs:List aw} (k:∀b,K (f b) (ag (aj b E l::hs))):cq r P ah o (ag hs) K:=
  cq.run bC λw u=>⟨_,_,_,.inl (d w),⟨rfl,rfl,rfl,by simp⟩,nK _ u,k w.heap.size⟩
theorem fe{hs:List aw}{E:TypeId}{v:Value}{l:List Value}(C:bh ah x=v)(u:v.cells.toList=l)(k:∀b,K (.pointer (some ⟨b,0,none⟩)) (ag (aj b E l::hs))):
    cq r P ah ⟨d,.box E x,ty,ps,bk,g⟩ (ag hs) K:=by subst u;refine cq.new rfl E _ (λb=>.pointer (some ⟨b,0,none⟩)) (λw=>?_) k;simp[execOp,Instr.box,newVar,newRow,C]
def ly(P:Program)(t:TypeId):Option Value:=(P.info? t).bind (·.zero)
theorem vw{t:TypeId}{z:Value}(h:ly P t=some z)(w:World):(zeroValue t).run P w=.ok z w:=by unfold ly at h;cases d:P.info? t with|none=>rw[d]at h;cases h|some i=>rw[d]at h;simp only[X5]at h;simp[zeroValue,typeInfo,d,h]
theorem gA{hs:List aw}{E:TypeId}{z:Value}{l:List Value}(C:ly P E=some z)(u:z.cells.toList=l)(k:∀b,K (.pointer (some ⟨b,0,none⟩)) (ag (aj b E l::hs))):
    cq r P ah ⟨d,.alloc E,ty,ps,bk,g⟩ (ag hs) K:=by subst u;refine cq.new rfl E _ (λb=>.pointer (some ⟨b,0,none⟩)) (λw=>?_) k;simp[execOp,Instr.alloc,newVar,newRow,vw C]
end
end Go.QM
namespace Go.QM
open Go
def h7{α:Type}(P:Program)(s:Sem α):Prop:=(∃r,∀w,s.run P w=.ok r w)\/∀w r ht,s.run P w≠.ok r ht
theorem h7.pure{α:Type}{P:Program}(r:α):h7 P (pure r:Sem α):=.inl ⟨r,λw=>by simp⟩
variable{P:Program}{α:Type}
theorem h7.bind{β:Type}{s:Sem α}{f:α->Sem β}(hs:h7 P s)(C:∀a,h7 P (f a)):h7 P (s>>=f):=by
 rcases hs with⟨r,d⟩|hs;rcases C r with⟨q,D⟩|au;exact .inl ⟨q,λw=>by simp[d,D]⟩;exact .inr λw q u=>by simp[d];exact au w q u
 refine .inr λw q u h=>?_;rw[Vz]at h;cases hw:s.run P w with|ok r cG=>exact hs w r cG hw|halt x cG=>rw[hw]at h;simp[Xt]at h
theorem h7.stuck{α:Type}{P:Program}(why:String):h7 P (stuck why:Sem α):=.inr λw r d h=>by simp at h
theorem h7.ID(u:Unsupported):h7 P (unsupported u:Sem α):=.inr λw r d h=>by simp at h
theorem Qp(x y:Int)(s:Bool)(c:BoundsCode)(w:World)(r:α)(d:World):(runtimePanic (.bounds x y s c):Sem α).run P w≠.ok r d:=by simp[runtimePanic]
theorem Qo{β:Type}{s:Sem α}{f:α->Sem β}(C:∀a w r d,(f a).run P w≠.ok r d)(w:World)(r:β)(d:World):(s>>=f).run P w≠.ok r d:=by intro h;rw[Vz]at h;cases u:s.run P w with|ok b cG=>rw[u]at h;exact C b cG r d h|halt x cG=>rw[u]at h;simp[Xt]at h
theorem h7.bounds(k:IntKind)(x y:Int)(c:BoundsCode):h7 P (boundsPanic k x y c:Sem α):=by refine .inr λw r d h=>?_;grind[boundsPanic,Qo,Qp]
theorem h7.int(v:Value):h7 P (asIntOf v):=by unfold asIntOf;split;exact .pure _;exact .ID _;exact .stuck _
theorem h7.IA(t:TypeId):h7 P (underlying t):=by unfold underlying;cases h:P.underlying t with|some d=>exact .inl ⟨d,λw=>by simp[h]⟩|none=>(exact .inr λw r u=>by simp[h])
theorem h7.size(t:TypeId):h7 P (sizeOf t):=by unfold sizeOf typeInfo;cases h:P.info? t with|some d=>exact .inl ⟨d.size,λw=>by simp[h]⟩|none=>(exact .inr λw r u=>by simp[h])
theorem h7.Am{why:String}(t:TypeId)(k:IntKind)(i:Int)(base:Option Addr)(len:Nat)(elem:TypeId)(u:TypeDesc->Bool):h7 P (do
    let d<-underlying t
    match base with
    | some a=>if 0<=i/\i<len then(do let z<-sizeOf elem;Pure.pure (Value.pointer (some (a.add (i.toNat*z)))))else if u d=true then unsupported (Unsupported.noEntry why)else boundsPanic k i len .index
    | none=>boundsPanic k i 0 .index:Sem Value):=by refine .bind (.IA _) λw=>?_;cases base with|some a=>dsimp only;split;exact .bind (.size _) λ_=>.pure _;split;exact .ID _;exact .bounds _ _ _ _|none=>exact .bounds _ _ _ _
theorem h7.index(t:TypeId)(x y:Value):h7 P (XJ t x y):=by unfold XJ;refine .bind (.int _) λw=>?_;refine .bind (.IA _) λu=>?_;dsimp only;split;refine .bind ?_ λ_=>.bind (.pure _) λble=>?_;unfold WJ;split;exact .pure _;exact .stuck _;exact h7.Am t w.1 w.2 _ _ _ (λd=>decide (ble.2.1<=1)&&match d with|.array _ _=>true|_=>false);exact .bind (.pure _) λble=>h7.Am t w.1 w.2 _ _ _ (λd=>decide (ble.2.1<=1)&&match d with|.array _ _=>true|_=>false);exact .bind (.stuck _) λble=>h7.Am t w.1 w.2 _ _ _ (λd=>decide (ble.2.1<=1)&&match d with|.array _ _=>true|_=>false)
def oV:Op->Bool
  | .move _|.assign _|.indexAddr ..=>true
  | _=>false
theorem NK{e:Operand->Value}{o:Oper}(h:oV o.op=true){v:Value}{w:World}(hr:(execOp e o).run P w=.ok (.value v) w)(C:World):(execOp e o).run P C=.ok (.value v) C:=by
 obtain⟨d,op,ty,ps,bk,g⟩:=o;cases op<;>first|(cases h;done)|skip
 case move x=>simp[execOp]at hr⊢;exact hr
 case assign x=>simp[execOp]at hr⊢;exact hr
 case indexAddr t x y=>
   have E:h7 P (XJ t (e x) (e y)>>=λa=>(Pure.pure (Next.value a):Sem Next)):=.bind (.index _ _ _) λ_=>.pure _
   rcases E with⟨r,u⟩|u
   · have D:=(u w).symm.trans hr
     cases D
     exact u C
   · exact absurd hr (u w _ w)
def kI(ops:Array Oper)(i:Nat):Bool:=match ops[i]? with
  | some o=>oV o.op
  | none=>false
section
variable {F : Fence} {n : Nat} {P : Program} {ops : Array Oper} {Q : Exit → Act → World → Prop} {I : World → Prop} {T : List Nat}
def ox (F:Fence) (n:Nat) (P:Program) (ops:Array Oper) (Q:Exit->Act->World->Prop) (I:World->Prop) (T:List Nat):Nat->Array Bool->Act->World->Prop
  | 0,listed,a,w=>V2 .any ops listed=[]/\Q .normal a w
  | fuel+1,listed,a,w=>
    (V2 .any ops listed=[]->Q .normal a w)/\
    ∀i∈V2 .any ops listed,wpOpIn F n P ops Q i (λa' ht=>(i∉T->I w->I ht)/\ox F n P ops Q I T fuel (listed.setIfInBounds i true) a' ht) a w
theorem Ce:∀(fuel:Nat) (listed:Array Bool) (a:Act) (w:World),ox F n P ops Q I T fuel listed a w->wpAnyIn F n P .any ops Q fuel listed a w
  | 0,_,_,_,h=>h
  | fuel+1,_,_,_,h=>⟨h.1,λi C=>wpOpIn_mono (λd D u=>Ce fuel _ d D u.2) (h.2 i C)⟩
def qx (ops:Array Oper):Nat->Nat->Nat->Bool
  | 0,_,_=>false
  | f+1,j,i=>match ops[j]? with
    | some o=>o.after.any (λe=>WW .any e&&e.on==i)||o.after.any (λe=>WW .any e&&qx ops f e.on i)
    | none=>false
def po(ops:Array Oper)(listed:Array Bool):Prop:=∀j o,ops[j]? =some o->listed.getD j true=true->∀e∈o.after,WW .any e=true->listed.getD e.on false=true
theorem C3{listed:Array Bool}(C:po ops listed):∀(f j i:Nat),qx ops f j i=true->(∀o,ops[j]? =some o->∀e∈o.after,WW .any e=true->listed.getD e.on false=true)->listed.getD i false=true
  | 0,_,_,h,_=>by simp[qx]at h
  | f + 1,j,i,h,D=>by
    simp only[qx]at h
    cases d:ops[j]? with
    | none=>rw[d]at h;cases h
    | some o=>
      rw[d]at h
      simp only[Bool.or_eq_true]at h
      rcases h with h|h
      · obtain⟨e,he,am⟩:=Array.any_eq_true'.1 h
        simp only[VP,beq_iff_eq]at am
        have:=D o d e he am.1
        rwa[am.2]at this
      · obtain⟨e,he,am⟩:=Array.any_eq_true'.1 h
        simp only[VP]at am
        have w:=D o d e he am.1
        refine C3 C f e.on i am.2 (λQ P E N H=>C e.on Q P ?_ E N H)
        have O:e.on<listed.size:=by
          rcases Nat.lt_or_ge e.on listed.size with u|u
          · exact u
          · simp[YQ u]at w
        simp[O]at w⊢
        exact w
variable{listed:Array Bool}
theorem po.set(u:po ops listed){i:Nat}(hr:i∈V2 .any ops listed):po ops (listed.setIfInBounds i true):=by intro j o C d e he am;obtain⟨_,H,E,D⟩:=mem_ready.1 hr;by_cases w:i=j;grind[getD_set_true];rw[getD_set_ne true w]at d;exact getD_set_true (u j o C d e he am)
theorem Rv(d:po ops listed){i j:Nat}(u:listed.getD i true=false)(w:j∈V2 .any ops listed)(h:qx ops 9 j i=true):False:=by grind[mem_ready,C3]
def kz(P:Program)(ops:Array Oper)(I:World->Prop)(o:Oper)(v:Value)(a:Act):Prop:=
  iV o.op=true/\((VL o (yielded ops a.tmps)=true/\∀w,I w->(execOp a.eval o).run P w=.ok (.value v) w)\/
  (VL o (yielded ops a.tmps)=false/\v=undef))
theorem kz.op(u:∀f,F.fn f){i:Nat}{o:Oper}{v:Value}{a:Act}(E:ops[i]? =some o)(d:kz P ops I o v a)
    {K:Act->World->Prop} {w:World} (C:I w) (h:K (a.put o.dst v) w):wpOpIn F n P ops Q i K a w:=by unfold Go.wpOpIn;simp only[E];obtain⟨D,d⟩:=d;rcases d with⟨hw,hv⟩|⟨hw,rfl⟩;simp only[hw,if_true,Ym,r4 _ D,hv w C,WO];exact⟨λf _=>u f,h⟩;simp_all
theorem kz.of_same{o:Oper}{v:Value}{a a':Act}(d:kz P ops I o v a)(he:execOp a'.eval o=execOp a.eval o)
    (hw:VL o (yielded ops a'.tmps)=VL o (yielded ops a.tmps)):kz P ops I o v a':=by grind[kz]
theorem kz.free{o:Oper}{v:Value}{a:Act}(d:kz P ops I o v a){w0:World}(u:I w0)(C:oV o.op=true):kz P ops (λ_=>True) o v a:=
  ⟨d.1,d.2.imp (λh=>⟨h.1,λw _=>NK C (h.2 w0 u) w⟩) (λh=>h)⟩
theorem Ug(aq:∀f,F.fn f){j:Nat}{C D:Oper}{v:Value}(au:ops[j]? =some D)(ar:C.apart ops D=true)(Z:iV D.op=true)
    (av:∀cs b,C.op≠.select cs b) (aw:∀cs b,D.op≠.select cs b)
    (N:∀c a w,Q (.panic c) (a.put C.dst v) w->Q (.panic c) a w) {K:Act->World->Prop} {a:Act} {w:World}
    (E:kz P ops I C v a) (h:wpOpIn F n P ops Q j K (a.put C.dst v) w):
    wpOpIn F n P ops Q j (λa' O=>kz P ops I C v a'/\K (a'.put C.dst v) O) a w:=by
 obtain⟨V,H,W⟩:=Oper.apart_spec ar
 have nB:∀(a:Act),kz P ops I C v a->∀u,kz P ops I C v (a.put D.dst u):=λa E u=>
   E.of_same (execOp_put C av a D.dst u W) (wanted_put C a D.dst u W)
 have aB:∀d,kz P ops I C v {a with defers:=d::a.defers}:=λd=>E.of_same rfl rfl;unfold wpOpIn at*;simp only[au]at*;rw[wanted_put D a C.dst v V]at h;split
 ·rename_i hw
  simp only[hw,if_true]at h
  unfold Ym at*
  refine⟨λf _=>aq f,?_⟩
  have h:=h.2
  rw[r4 _ Z,execOp_put D aw a C.dst v V]at h
  rw[r4 _ Z]
  generalize(execOp a.eval D).run P w=r at*
  cases r with
  | ok x O=>
    cases x<;>simp only[WO]at h⊢
    case value u=>exact⟨nB a E u,by rw[<-W4 a v u H];exact h⟩
    case skip=>exact⟨nB a E _,by rw[<-W4 a v undef H];exact h⟩
    case defer d=>
      refine⟨nB _ (aB d) _,?_⟩
      rw[<-W4 _ v undef H,<-Act.put_defers]
      exact h
    case enter f args=>
      refine⟨h.1,XY h.2 λe ah he=>?_⟩
      cases e with
      | returned u=>exact⟨nB a E u,by rw[<-W4 a v u H];exact he⟩
      | panicked c=>exact N _ _ _ he
      | outgrown=>exact he
    case row row args=>exact⟨h.1,RowsIn.mono h.2 λu ah he=>⟨nB a E u,by rw[<-W4 a v u H];exact he⟩⟩
    case round l f tmps assign body=>
      refine⟨h.1,XW h.2 λe ah he=>?_⟩
      cases e with
      | returned u=>exact⟨nB a E u,by rw[<-W4 a v u H];exact he⟩
      | panicked c=>exact N _ _ _ he
      | outgrown=>exact he
  | halt x O=>
    cases x<;>simp only[WO]at h⊢
    case panic u=>exact N _ _ _ h
 grind[W4]
theorem Cd(ar:∀f,F.fn f){i:Nat}{E:Oper}{v:Value}{I':World->Prop}(av:ops[i]? =some E)(aI:∀(j:Nat) (o:Oper) cs b,ops[j]? =some o->o.op≠.select cs b)
    (ba:∀(j:Nat) (o:Oper),ops[j]? =some o->iV o.op=true) (a1:∀c a w,Q (.panic c) (a.put E.dst v) w->Q (.panic c) a w)
    (O:(∀w,I' w)\/(I'=I/\∀j∈T,qx ops 9 j i=true)):
    ∀ (fuel:Nat) (listed:Array Bool) (a:Act) (w:World),po ops listed->
      (∀j C,ops[j]? =some C->j≠i->listed.getD j true=false->(∀e∈C.after,WW .any e=true->e.on≠i)->E.apart ops C=true)->
      i∈V2 .any ops listed->kz P ops I' E v a->I' w->
      ox F n P ops Q I T fuel (listed.setIfInBounds i true) (a.put E.dst v) w->ox F n P ops Q I T (fuel+1) listed a w:=by
 intro fuel
 induction fuel with
 | zero=>
   intro listed a w au _ u ah W H
   refine⟨λh=>(by rw[h]at u;cases u),λj N=>?_⟩
   by_cases d:j=i
   · subst d;exact ah.op ar av W ⟨λ_ h=>h,H⟩
   · have:=ready_mono N d
     rw[H.1]at this
     cases this
 | succ fuel bd=>
   intro listed a w au oV u ah W H
   refine⟨λh=>(by rw[h]at u;cases u),λj N=>?_⟩
   by_cases d:j=i
   · subst d;exact ah.op ar av W ⟨λ_ h=>h,H⟩
   · have D:=H.2 j (ready_mono N d)
     obtain⟨aD,C,Z,a2⟩:=mem_ready.1 N
     have bb:∀e∈C.after,WW .any e=true->e.on≠i:=λe he am heq=>by
       have D:=a2 e he am
       have aw:=(mem_ready.1 u).1
       rw[heq]at D
       rcases Nat.lt_or_ge i listed.size with aq|aq
       · simp[aq]at aw D;rw[aw]at D;cases D
       · simp[YQ aq]at D
     have a0:=Ug ar Z (oV j C Z d aD bb) (ba j C Z) (λcs b=>aI i E cs b av) (λcs b=>aI j C cs b Z) a1 ah D
     have a3:∀k ok,ops[k]? =some ok->k≠i->(listed.setIfInBounds j true).getD k true=false->
         (∀e∈ok.after,WW .any e=true->e.on≠i)->E.apart ops ok=true:=λk ok a5 a9 gq eP=>by
       refine oV k ok a5 a9 ?_ eP
       by_cases aB:j=k
       · subst aB;exact aD
       · rw[getD_set_ne true aB]at gq;exact gq
     refine wpOpIn_mono (λaT aJ V=>⟨V.2.1,bd (listed.setIfInBounds j true) aT aJ (au.set N) a3 (ready_mono u (Ne.symm d)) V.1 ?_ ?_⟩) a0
     · rcases O with O|⟨rfl,O⟩
       · exact O aJ
       · exact V.2.1 (λa4=>Rv au (mem_ready.1 u).1 N (O j a4)) W
     · rw[Array.setIfInBounds_comm _ _ d]
       exact V.2.2
def pC(ops:Array Oper)(T:List Nat):List (Nat×Bool)->Array Bool->Bool
  | [],listed=>(V2 .any ops listed).isEmpty
  | (i,false)::c,listed=>(V2 .any ops listed).contains i&&Region.free .any ops listed i&&(T.all (λj=>qx ops 9 j i)||kI ops i)&&pC ops T c (listed.setIfInBounds i true)
  | (i,true)::c,listed=>(V2 .any ops listed==[i])&&pC ops T c (listed.setIfInBounds i true)
def y5(ops:Array Oper)(T:List Nat)(c:List (Nat×Bool)):Bool:=
  XE ops&&ops.all (λo=>iV o.op)&&(c.length==ops.size)&&pC ops T c (Array.replicate ops.size false)
end
section
variable {r : Option Nat} {P : Program} {N : Nat} {ops : Array Oper} {Q : fj} {ah : Env} {aT : List Deferred} {A I : aw} {T : List Nat} {c : List (Nat × Bool)}
def mf(Q:Exit->Act->World->Prop):Exit->Act->World->Prop
  | .panic _,_,_=>False
  | e,a,w=>Q e a w
theorem vF{w0 w:World}(s:fp w0 w){e:Exit}{a:Act}{d:World}(h:mf (ee N w Q) e a d):mf (ee N w0 Q) e a d:=by cases e<;>first|exact h|exact vt (w:=w) s (λ_ _ _ _ h=>h) h
theorem CI{X:Exit->Act->World->Prop}{e:Exit}{a:Act}{d:World}(h:mf X e a d):X e a d:=by cases e<;>first|exact h.elim|exact h
def cd (r:Option Nat) (P:Program) (N:Nat) (ops:Array Oper) (I:aw) (T:List Nat) (c:List (Nat×Bool)) (Q:fj) (ah:Env) (aT:List Deferred) (A:aw):Prop:=
  ∀ a w listed,cg N a ah aT->sat w A->(∃w0,sat w0 I)->(sat w I\/∀x∈c,x.2=true\/kI ops x.1=true)->po ops listed->XE ops=true->(∀(j:Nat) (o:Oper),ops[j]? =some o->iV o.op=true)->pC ops T c listed=true->
    ox (mP r) 0 P ops (mf (ee N w Q)) (λw=>sat w I) T c.length listed a w
theorem sd{F:Fence}{n:Nat}{Q D:Exit->Act->World->Prop}{S:World->Prop}(u:∀e a w,Q e a w->D e a w):∀(fuel:Nat) (listed:Array Bool) (a:Act) (w:World),ox F n P ops Q S T fuel listed a w->ox F n P ops D S T fuel listed a w
  | 0,_,_,_,h=>⟨h.1,u _ _ _ h.2⟩
  | fuel + 1,listed,a,w,h=>⟨λO=>u _ _ _ (h.1 O),λi V=>by
   have d:=h.2 i V;unfold wpOpIn at*
   cases H:ops[i]? with
   | none=>rw[H]at d;exact⟨d.1,sd u fuel _ _ _ d.2⟩
   | some o=>
     rw[H]at d
     simp only[]at d⊢
     split
     · rename_i hw
       rw[az hw]at d
       refine XN (K:=λN C=>(i∉T->S w->S C)/\ox F n P ops Q S T fuel (listed.setIfInBounds i true) N C) (λa w h=>⟨h.1,sd u fuel _ a w h.2⟩) ?_
       unfold Ym at*
       refine⟨d.1,?_⟩
       have h:=d.2
       have E:LetsOut Q->LetsOut D:=λ⟨a,w,x⟩=>⟨a,w,u _ _ _ x⟩
       generalize(o.semAt F.round a.eval).run P w=r at*
       cases r with
       | ok x C=>
         cases x<;>simp only[WO]at h⊢<;>
           first
             | exact h
             | exact⟨h.1,XY h.2 (λe W he=>by cases e<;>first|exact he|exact u _ _ _ he|exact E he)⟩
             | exact⟨h.1,XW h.2 (λe W he=>by cases e<;>first|exact he|exact u _ _ _ he|exact E he)⟩
       | halt x C=>cases x<;>simp only[WO]at h⊢;exact u _ _ _ h
     · rename_i hw
       rw[al hw]at d
       exact⟨d.1,d.2.1,sd u fuel _ _ _ d.2.2⟩⟩
theorem cd.bf{B:aw}(e:aG A B)(h:cd r P N ops I T c Q ah aT B):cd r P N ops I T c Q ah aT A:=λa w l x y=>h a w l x (y.bf e)
theorem cd.nil(h:Q .normal ah aT A):cd r P N ops I T [] Q ah aT A:=by intro a w listed d u _ _ _ _ _ aU;exact⟨by simpa[pC]using aU,X3 w,ah,aT,A,d,u,h⟩
variable{i:Nat}{o:Oper}
theorem cd.xF{v:Value}(u:ops[i]? =some o)(aw:jR N o.dst=true)
    (aq:∀a,cg N a ah aT->kz P ops (λw=>sat w I) o v a) (h:cd r P N ops I T c Q (jX ah o.dst v) aT A):cd r P N ops I T ((i,false)::c) Q ah aT A:=by
 intro a w listed H aD V au C O E aU;simp only[pC,VP,Bool.or_eq_true]at aU;obtain⟨⟨⟨a0,Z⟩,d⟩,aU⟩:=aU;have D:i∈V2 .any ops listed:=b6
 have av:sat w I\/∀x∈c,x.2=true\/kI ops x.1=true:=cv
 have:=h (a.put o.dst v) w (listed.setIfInBounds i true) (H.put aw v) aD V av (C.set D) O E aU;have aJ:kI ops i=true->oV o.op=true:=by grind[kI]
 have key:oV o.op=true->ox (mP r) 0 P ops (mf (ee N w Q)) (λw=>sat w I) T (c.length+1) listed a w:=λar=>
   let⟨a1,aI⟩:=V
   Cd (I':=λ_=>True) (vA r) u (Region.noSelect_spec O) E (λc a w h=>h.elim) (.inl λ_=>trivial) c.length listed a w C (Region.free_spec u Z) D ((aq a H).free aI ar) trivial this
 rcases d with d|d;rcases au with W|W;exact Cd (vA r) u (Region.noSelect_spec O) E (λc a w h=>h.elim) (.inr ⟨rfl,λj aB=>Xi.1 d j aB⟩) c.length listed a w C (Region.free_spec u Z) D (aq a H) W this;simp_all;simp_all
theorem cd.q{v:Value}(D:ops[i]? =some o)(u:o.guard=none)(d:jR N o.dst=true)(C:iV o.op=true)
    (O:bG P ah o I v) (h:cd r P N ops I T c Q (jX ah o.dst v) aT A):cd r P N ops I T ((i,false)::c) Q ah aT A:=
  cd.xF D d (λa E=>⟨C,.inl ⟨by simp[VL,u],λw H=>by rw[E.eval];exact O w H⟩⟩) h
variable{b:Bool}{j:Nat}
theorem cd.Re{v:Value}(E:ops[i]? =some o)(C:o.guard=some (j,b))(V:im ops ah j=some b)(u:jR N o.dst=true)(D:iV o.op=true)
    (O:bG P ah o I v) (h:cd r P N ops I T c Q (jX ah o.dst v) aT A):cd r P N ops I T ((i,false)::c) Q ah aT A:=
  cd.xF E u (λa d=>⟨D,.inl ⟨by simp[VL,C,d.yielded V],λw H=>by rw[d.eval];exact O w H⟩⟩) h
theorem cd.skip(C:ops[i]? =some o)(u:o.guard=some (j,!b))(E:im ops ah j=some b)(d:jR N o.dst=true)(w:iV o.op=true)
    (h:cd r P N ops I T c Q (jX ah o.dst undef) aT A):cd r P N ops I T ((i,false)::c) Q ah aT A:=
  cd.xF C d (λa D=>⟨w,.inr ⟨by simp[VL,u,D.yielded E],rfl⟩⟩) h
theorem cd.split(t:Nat)(d:ah t=.bool b)(u:b=true->cd r P N ops I T c Q (hS ah t (.bool true)) aT A)(w:b=false->cd r P N ops I T c Q (hS ah t (.bool false)) aT A):cd r P N ops I T c Q ah aT A:=by cases b with|true=>have:=u rfl;rwa[sa d]at this|false=>have:=w rfl;rwa[sa d]at this
theorem cd.known(t:Nat){b':Bool}(d:ah t=.bool b)(am:b=b')(h:cd r P N ops I T c Q (hS ah t (.bool b')) aT A):cd r P N ops I T c Q ah aT A:=by subst am;rwa[sa d]at h
theorem cd.DU(aI:ops[i]? =some o)(Z:jR N o.dst=true)(hw:∀a,cg N a ah aT->VL o (yielded ops a.tmps)=true)
    (h:cq r P ah o A (λv bl=>(T.contains i=true\/aG bl I)/\((∀x∈c,x.2=true\/kI ops x.1=true)\/aG bl I)/\cd r P N ops I T c Q (jX ah o.dst v) aT bl)):cd r P N ops I T ((i,true)::c) Q ah aT A:=by
 intro a w listed d aJ O a3 W a0 aD aU;simp only[pC,VP,beq_iff_eq]at aU;obtain⟨u,aU⟩:=aU;refine⟨λa1=>(by rw[a1]at u;cases u),λj D=>?_⟩;rw[u]at D;obtain rfl:j=i:=by simpa using D
 have ar:j∈V2 .any ops listed:=b6
 unfold wpOpIn;rw[aI];simp only[];rw[az (hw a d)];refine Oper.yf ?_ (h a w d.eval aJ);rintro a2 E ⟨v,bl,rfl,s,C,av,aw,au⟩;have aq:=au _ E (listed.setIfInBounds j true) (d.put Z v) C O (aw.elim .inr λh=>.inl (C.bf h)) (W.set ar) a0 aD aU;have aB:∀e a H,mf (ee N E Q) e a H->mf (ee N w Q) e a H:=by grind[vF]
 exact⟨λV _=>av.elim (λh=>absurd (by simpa using h) V) λh=>C.bf h,sd aB c.length _ _ _ aq⟩
theorem cd.t8(w:ops[i]? =some o)(u:o.guard=none)(d:jR N o.dst=true)
    (h:cq r P ah o A (λv bl=>(T.contains i=true\/aG bl I)/\((∀x∈c,x.2=true\/kI ops x.1=true)\/aG bl I)/\cd r P N ops I T c Q (jX ah o.dst v) aT bl)):cd r P N ops I T ((i,true)::c) Q ah aT A:=
  cd.DU w d (λ_ _=>by simp[VL,u]) h
theorem cd.Mg(w:ops[i]? =some o)(u:o.guard=some (j,b))(D:im ops ah j=some b)(d:jR N o.dst=true)
    (h:cq r P ah o A (λv bl=>(T.contains i=true\/aG bl I)/\((∀x∈c,x.2=true\/kI ops x.1=true)\/aG bl I)/\cd r P N ops I T c Q (jX ah o.dst v) aT bl)):cd r P N ops I T ((i,true)::c) Q ah aT A:=
  cd.DU w d (λa C=>by simp[VL,u,C.yielded D]) h
theorem cd.HE(C:ops[i]? =some o)(u:o.guard=some (j,b))(E:vl ops ah j=true)(d:jR N o.dst=true)(w:iV o.op=true)
    (h:cd r P N ops I T c Q (jX ah o.dst undef) aT A):cd r P N ops I T ((i,false)::c) Q ah aT A:=
  cd.xF C d (λa D=>⟨w,.inr ⟨by simp[VL,u,D.I4 E],rfl⟩⟩) h
theorem cd.Su(av:ops[i]? =some o)(aq:o.guard=some (j,!b))(aD:im ops ah j=some b)(Z:jR N o.dst=true)(D:(T.contains i=true/\∀x∈c,x.2=true)\/aG A I)
    (h:cd r P N ops I T c Q (jX ah o.dst undef) aT A):cd r P N ops I T ((i,true)::c) Q ah aT A:=by
 intro a w listed H u O aJ W aw au aU;simp only[pC,VP,beq_iff_eq]at aU;obtain⟨d,aU⟩:=aU;refine⟨λaI=>(by rw[aI]at d;cases d),λC E=>?_⟩;rw[d]at E;obtain rfl:C=i:=by simpa using E
 have ar:C∈V2 .any ops listed:=b6
 unfold wpOpIn;rw[av];simp only[];rw[al (by simp[VL,aq,H.yielded aD])]
 exact⟨λf _=>vA r f,λV _=>D.elim (λh=>absurd (by simpa using h.1) V) λh=>u.bf h,
   h _ w (listed.setIfInBounds C true) (H.put Z undef) u O (D.elim (λh=>.inr λx aB=>.inl (h.2 x aB)) λh=>.inl (u.bf h)) (W.set ar) aw au aU⟩
section
variable {op : Op} {ty : TypeId} {ps : String} {bk : Array Edge} {t i : Nat} {v : Value} {j : Nat} {b : Bool}
theorem bZ(w:ops[i]? =some ⟨some t,op,ty,ps,bk,none⟩)(u:iV op=true)(d:W9 t N=true)(C:bG P ah ⟨some t,op,ty,ps,bk,none⟩ I v)(h:cd r P N ops I T c Q (hS ah t v) aT A):cd r P N ops I T ((i,false)::c) Q ah aT A:=
  cd.q w rfl d u C h
theorem eV(w:ops[i]? =some ⟨some t,op,ty,ps,bk,some (j,b)⟩)(D:im ops ah j=some b)(u:iV op=true)(d:W9 t N=true)(C:bG P ah ⟨some t,op,ty,ps,bk,some (j,b)⟩ I v)(h:cd r P N ops I T c Q (hS ah t v) aT A):cd r P N ops I T ((i,false)::c) Q ah aT A:=
  cd.Re w rfl D d u C h
theorem L1(w:ops[i]? =some ⟨some t,op,ty,ps,bk,some (j,b)⟩)(C:im ops ah j=some (!b))(u:iV op=true)(d:W9 t N=true)(h:cd r P N ops I T c Q (hS ah t undef) aT A):cd r P N ops I T ((i,false)::c) Q ah aT A:=
  cd.skip (b:=!b) w cE C d u h
theorem dO(C:ops[i]? =some ⟨some t,op,ty,ps,bk,none⟩)(w:W9 t N=true)
    (h:cq r P ah ⟨some t,op,ty,ps,bk,none⟩ A (λv bl=>aG bl I/\cd r P N ops I T c Q (hS ah t v) aT bl)):cd r P N ops I T ((i,true)::c) Q ah aT A:=
  cd.t8 C rfl w (h.mono λ_ _ ⟨d,u⟩=>⟨.inr d,.inr d,u⟩)
theorem DM(w:ops[i]? =some ⟨none,op,ty,ps,bk,none⟩)
    (h:cq r P ah ⟨none,op,ty,ps,bk,none⟩ A (λ_ bl=>aG bl I/\cd r P N ops I T c Q ah aT bl)):cd r P N ops I T ((i,true)::c) Q ah aT A:=
  cd.t8 w rfl rfl (h.mono λ_ _ ⟨d,u⟩=>⟨.inr d,.inr d,u⟩)
theorem dl(u:T.contains i=true)(D:c.all (λx=>x.2||kI ops x.1)=true)(C:ops[i]? =some ⟨some t,op,ty,ps,bk,none⟩)(w:W9 t N=true)
    (h:cq r P ah ⟨some t,op,ty,ps,bk,none⟩ A (λv bl=>cd r P N ops I T c Q (hS ah t v) aT bl)):cd r P N ops I T ((i,true)::c) Q ah aT A:=
  cd.t8 C rfl w (h.mono λ_ _ d=>⟨.inl u,.inl (λx E=>by simpa using Xi.1 D x E),d⟩)
theorem L3(u:T.contains i=true)(C:c.all (λx=>x.2||kI ops x.1)=true)(w:ops[i]? =some ⟨none,op,ty,ps,bk,none⟩)
    (h:cq r P ah ⟨none,op,ty,ps,bk,none⟩ A (λ_ bl=>cd r P N ops I T c Q ah aT bl)):cd r P N ops I T ((i,true)::c) Q ah aT A:=
  cd.t8 w rfl rfl (h.mono λ_ _ d=>⟨.inl u,.inl (λx D=>by simpa using Xi.1 C x D),d⟩)
theorem LX(C:ops[i]? =some ⟨some t,op,ty,ps,bk,some (j,b)⟩)(D:im ops ah j=some b)(w:W9 t N=true)
    (h:cq r P ah ⟨some t,op,ty,ps,bk,some (j,b)⟩ A (λv bl=>aG bl I/\cd r P N ops I T c Q (hS ah t v) aT bl)):cd r P N ops I T ((i,true)::c) Q ah aT A:=
  cd.Mg C rfl D w (h.mono λ_ _ ⟨d,u⟩=>⟨.inr d,.inr d,u⟩)
theorem L2(w:ops[i]? =some ⟨some t,op,ty,ps,bk,some (j,b)⟩)(C:im ops ah j=some (!b))(d:W9 t N=true)(u:aG A I)(h:cd r P N ops I T c Q (hS ah t undef) aT A):cd r P N ops I T ((i,true)::c) Q ah aT A:=
  cd.Su (b:=!b) w cE C d (.inr u) h
end
theorem ab.draw{id:Nat}{l:List Oper}(I:aw)(T:List Nat)(c:List (Nat×Bool))(hm:P.follows .mixedOrders=true)(aU:y5 l.toArray T c=true)(C:aG A I)
    (h:cd r P N l.toArray I T c Q ah aT A):ab r P N (.region id l.toArray true) Q ah aT A:=by
 intro a w au d;simp only[y5,VP,beq_iff_eq]at aU;obtain⟨⟨⟨O,V⟩,W⟩,Z⟩:=aU;have D:=h a {w with drawn:=w.drawn+1} (Array.replicate l.toArray.size false) au d ⟨{w with drawn:=w.drawn+1},sat.bf (w:={w with drawn:=w.drawn+1}) d C⟩ (.inl (sat.bf (w:={w with drawn:=w.drawn+1}) d C)) (by intro j o H E;(have aq:j<l.toArray.size:=by grind);rw[Wi,Array.getElem?_replicate,az aq]at E;cases E) O (λj o H=>Array.all_eq_true_iff_forall_mem.1 V o (Array.mem_of_getElem? H)) Z
 have ar:∀e a u,mf (ee N {w with drawn:=w.drawn+1} Q) e a u->ee N w Q e a u:=λe a u h=>
   CI (vF (w0:=w) (w:={w with drawn:=w.drawn+1}) ⟨rfl,rfl,rfl,Nat.le_refl _⟩ h)
 rw[W]at D;exact wpIn_region_any hm (Ce _ _ _ _ (sd ar _ _ _ _ D))
end
end Go.QM
open Go.QM.aG renaming refl->VJ
namespace Go.QM
open Go
def lR(P:Program)(f:FuncId):Bool:=match P.funcs[f]? with
  | some fn => fn.name != "runtime.NumGoroutine" && fn.body.isSome
  | none=>false
theorem wo{P:Program}{f:FuncId}(h:lR P f=true)(args:Array Value)(w:World):(callFunc f args).run P w=.ok (.enter f args) w:=by unfold lR at h;cases d:P.funcs[f]? with|none=>rw[d]at h;cases h|some fn=>rw[d]at h;simp only[VP,bne_iff_ne,ne_eq]at h;obtain⟨C,u⟩:=h;(have u:fn.body.isNone=false:=by cases am:fn.body<;>simp_all);simp only[callFunc,Vz,run_program,Vo,d];rw[al (by simpa using C),al (by simp[u])];rfl
def eD (P:Program) (f:FuncId) (args:List Value) (rd:aw->Prop) (pre:List aw) {Y:Type} (res:Y->Value) (φ:Y->Prop) (post:Y->List aw):Prop:=
  lR P f=true/\∀F,rd F->∀w,sat w (sep (ag pre) F)->
    CallsIn Fence.wide 0 P f args.toArray w (λe ht=>∃y,e=.returned (res y)/\φ y/\fp w ht/\sat ht (sep (ag (post y)) F))
def bg:aw->Prop:=λ_=>True
def jV:List Value->Value
  | [v]=>v
  | vs=>.tuple vs.toArray
def iQ(P:Program):List ResultVar->List Value->Env->aw->Prop
  | [],[],_,_=>True
  | .tmp t::rs,v::vs,ah,A=>ah t=v/\iQ P rs vs ah A
  | .cell a ty::rs,v::vs,ah,A=>(∃b off,ah a=.pointer (some ⟨b,off,none⟩)/\∀w,sat w A->(loadVar ty ⟨b,off,none⟩).run P w=.ok v w)/\iQ P rs vs ah A
  | _,_,_,_=>False
theorem td{P:Program}{fn:Func}{rs:List ResultVar}{vs:List Value}{C:Env}{A:aw}{tmps:Array Value}{w:World}(O:fn.results=rs.toArray)(D:∀t,tmps.getD t undef=C t)(hs:sat w A)
    (h:iQ P rs vs C A):(results fn tmps).run P w=.ok (jV vs) w:=by
 have key:∀(rs:List ResultVar) (vs:List Value),iQ P rs vs C A->(rs.mapM (m:=Sem) fun
     | .tmp t=>pure (tmps.getD t undef)
     | .cell a t=>do loadVar t (<-asAddr (tmps.getD a undef))).run P w=.ok vs w:=by
   intro rs
   induction rs with
   | nil=>intro vs h;cases vs with|nil=>simp|cons v vs=>exact h.elim
   | cons x rs E=>
     intro vs h
     cases vs with
     | nil=>cases x<;>exact h.elim
     | cons v vs=>
       cases x with
       | tmp t=>obtain⟨d,u⟩:=h;simp only[List.mapM_cons,Vz,VS,Vo,E vs u,D t,d]
       | cell a ty=>
         obtain⟨⟨b,off,d,H⟩,u⟩:=h
         have N:asAddr (.pointer (some ⟨b,off,none⟩))=pure ⟨b,off,none⟩:=rfl
         simp only[List.mapM_cons,Vz,VS,Vo,E vs u,D a,d,N,H w hs]
 have:=key rs vs h;unfold results;rw[O,List.mapM_toArray];simp only[Vz,Sem.run_map];refine Eq.trans (congrArg (λx=>Xt (Xt x _) _) this) ?_;simp only[Vo,VS];congr 1;cases vs with|nil=>simp[jV]|cons v vs=>cases vs<;>simp[jV]
def ca(P:Program)(rs:List ResultVar){Y:Type}(res:Y->Value)(φ:Y->Prop)(post:Y->List aw)(F:aw):fj
  | .ret,ah,aT,A|.normal,ah,aT,A=>aT=[]/\∃y vs,iQ P rs vs ah A/\jV vs=res y/\φ y/\aG A (ag (post y++[F]))
  | _,_,_,_=>False
variable{F:aw}
theorem ca.i{P:Program}{rs:List ResultVar}{Y:Type}{res:Y->Value}{φ:Y->Prop}{post:Y->List aw}{d:Env}{A:aw}(y:Y)(vs:List Value)(u:iQ P rs vs d A)(w:jV vs=res y)(C:φ y)
    (D:aG A (ag (post y++[F]))):ca P rs res φ post F .ret d [] A:=⟨rfl,y,vs,u,w,C,D⟩
theorem ca.n{P:Program}{rs:List ResultVar}{Y:Type}{res:Y->Value}{φ:Y->Prop}{post:Y->List aw}{d:Env}{A:aw}(y:Y)(vs:List Value)(u:iQ P rs vs d A)(w:jV vs=res y)(C:φ y)
    (D:aG A (ag (post y++[F]))):ca P rs res φ post F .normal d [] A:=⟨rfl,y,vs,u,w,C,D⟩
def mY(l:List Value):Env:=λt=>l.getD t undef
theorem p4{l:List aw}:aG (ag (l++[F])) (sep (ag l) F):=(u7 l [F]).trans (dv (VJ _) xL)
theorem p5{l:List aw}:aG (sep (ag l) F) (ag (l++[F])):=(dv (VJ _) o9).trans (m9 l [F])
theorem eD.intro{P:Program}{f:FuncId}{fn:Func}{c:Code}{N:Nat}{rs:List ResultVar}{args:List Value}{rd:aw->Prop}{pre:List aw}{Y:Type}{res:Y->Value}{φ:Y->Prop}{post:Y->List aw}
    (he:lR P f=true) (W:P.funcs[f]? =some fn) (am:fn.body=some c) (bB:fn.ntmps=N) (av:Nat.ble args.length N=true) (Q:fn.results=rs.toArray)
    (h:∀F,rd F->ab none P N c (ca P rs res φ post F) (mY args) [] (ag (pre++[F]))):eD P f args rd pre res φ post:=by
 refine⟨he,λF V w ah=>?_⟩;have Z:args.length<=N:=b6
 refine callsIn_of_wp W am trivial (wpIn_mono (h F V _ w ?_ (ah.bf p5)) ?_) rfl;refine⟨by simp[bB,Z],λt=>?_,rfl⟩;simp only[mY,Array.getD_eq_getD_getElem?,List.getD_eq_getElem?_getD,Array.getElem?_append];grind;rintro e ar aB ⟨s,aD,au,aq,d,u,C⟩;cases e with|ret=>obtain⟨D,y,vs,bM,E,H,O⟩:=C;exact⟨by rw[d.defers,D],_,td Q d.get u bM,y,by rw[E],H,s,u.bf (O.trans p4)⟩|normal=>obtain⟨D,y,vs,bM,E,H,O⟩:=C;exact⟨by rw[d.defers,D],_,td Q d.get u bM,y,by rw[E],H,s,u.bf (O.trans p4)⟩|_=>exact C.elim
theorem eD.bf{P:Program}{f:FuncId}{args:List Value}{rd E:aw->Prop}{pre D:List aw}{Y u:Type}{res:Y->Value}{φ:Y->Prop}{post:Y->List aw}{H:u->Value}{N:u->Prop}{C:u->List aw}
    (h:eD P f args rd pre res φ post) (aq:∀F,E F->rd F) (ah:aG (ag D) (ag pre)) (au:∀y,φ y->∃d,res y=H d/\N d/\aG (ag (post y)) (ag (C d))):eD P f args E D H N C:=
  ⟨h.1,λF Z w ar=>(h.2 F (aq F Z) w (ar.bf (dv ah (VJ _)))).mono λe aD ⟨y,O,Q,V,W⟩=>by obtain⟨d,bM,av,aB⟩:=au y Q;exact⟨d,by rw[O,bM],av,V,W.bf (dv aB (VJ _))⟩⟩
section
variable {r : Option Nat} {P : Program} {N : Nat} {ops : Array Oper} {l : List Oper} {Q : fj} {ah : Env} {aT : List Deferred} {A : aw} {K : Value → aw → Prop}
variable {d : Option Tmp} {ty : TypeId} {ps : String} {bk : Array Edge} {g : Option (Nat × Bool)}
def lS(ah:Env):List Operand->List Value
  | []=>[]
  | x::l=>bh ah x::lS ah l
theorem zA(d:Env)(l:List Operand):l.map (bh d)=lS d l:=by induction l with|nil=>rfl|cons x l u=>simp[lS,u]
theorem k7{f:FuncId}{C:Operand}{lb vs:List Value}{u:List Operand}{D:Array TypeId}{rd:aw->Prop}{pre hs rest:List aw}{Y:Type}{res:Y->Value}{φ:Y->Prop}{post:Y->List aw}
    (spec:eD P f (vs++lb) rd pre res φ post) (H:bh ah C=.func (.func f) #[] lb.toArray) (E:lS ah u=vs) (N:ky hs pre rest) (O:rd (ag rest)) (k:∀y,φ y->K (res y) (ag (post y++rest))):
    cq r P ah ⟨d,.call ⟨.value C,u.toArray,D⟩,ty,ps,bk,g⟩ (ag hs) K:=by intro a w he V;refine⟨λ_ _=>trivial,?_⟩;rw[r4 _ j8,he];have Q:(execOp (bh ah) ⟨d,.call ⟨.value C,u.toArray,D⟩,ty,ps,bk,g⟩).run P w=.ok (.enter f (vs++lb).toArray) w:=(by simp[execOp,resolve,H,Deferred.ofValue,invoke,zA,E,wo spec.1]);rw[Q];refine⟨tA r,?_⟩;have:=spec.2 (ag rest) O w (V.bf N);refine CallsIn.mono (show CallsIn (mP r) (0-1) P f (vs++lb).toArray w _ from this) ?_;rintro e aq ⟨y,rfl,Z,s,W⟩;exact⟨res y,_,rfl,s,W.bf (m9 _ _),k y Z⟩
theorem aO{f:FuncId}{vs:List Value}{u:List Operand}{E:Array TypeId}{rd:aw->Prop}{pre hs rest:List aw}{Y:Type}{res:Y->Value}{φ:Y->Prop}{post:Y->List aw}
    (spec:eD P f vs rd pre res φ post) (w:lS ah u=vs) (C:ky hs pre rest) (D:rd (ag rest)) (k:∀y,φ y->K (res y) (ag (post y++rest))):
    cq r P ah ⟨d,.call ⟨.value (.func f),u.toArray,E⟩,ty,ps,bk,g⟩ (ag hs) K:=
  k7 (lb:=[]) (vs:=vs) (by simpa using spec) rfl w C D k
end
end Go.QM
namespace Go.QM
open Go
theorem nQ{n:Int}(d:-9223372036854775808<=n)(u:n<=9223372036854775807):IntKind.i64.wrap n=n:=by grind[YD,YE,Yl]
theorem re{n:Int}(d:0<=n)(u:n<=4294967295):IntKind.u32.wrap n=n:=by grind[YD,YE,Yl]
theorem yh{n:Int}(d:0<=n)(u:n<=18446744073709551615):IntKind.u64.wrap n=n:=by grind[YD,YE,Yl]
theorem Kx(a b:Int):(a==b)=decide (a=b):=by rw[XS];simp
section
variable {r : Option Nat} {P : Program} {N : Nat} {ops : Array Oper} {l : List Oper} {Q : fj} {ah : Env} {aT : List Deferred} {A : aw} {K : Value → aw → Prop}
variable {d : Option Tmp} {ty : TypeId} {ps : String} {bk : Array Edge} {g : Option (Nat × Bool)}
variable {t t' : TypeId} {x y : Operand} {k : IntKind} {a b c : Int}
theorem add(u:bh ah x=.int k a)(w:bh ah y=.int k b)(hw:k.wrap (a+b)=c):bG P ah ⟨d,.binOp .add t x y t',ty,ps,bk,g⟩ A (.int k c):=
  λ_ _=>by simp[execOp,eqGuard,binOp,YA,u,w,hw]
theorem sub(u:bh ah x=.int k a)(w:bh ah y=.int k b)(hw:k.wrap (a-b)=c):bG P ah ⟨d,.binOp .sub t x y t',ty,ps,bk,g⟩ A (.int k c):=
  λ_ _=>by simp[execOp,eqGuard,binOp,YA,u,w,hw]
theorem mul(u:bh ah x=.int k a)(w:bh ah y=.int k b)(hw:k.wrap (a*b)=c):bG P ah ⟨d,.binOp .mul t x y t',ty,ps,bk,g⟩ A (.int k c):=
  λ_ _=>by simp[execOp,eqGuard,binOp,YA,u,w,hw]
theorem quo(u:bh ah x=.int k a)(w:bh ah y=.int k b)(am:b≠0)(hw:k.wrap (a.tdiv b)=c):bG P ah ⟨d,.binOp .quo t x y t',ty,ps,bk,g⟩ A (.int k c):=
  λ_ _=>by simp[execOp,eqGuard,binOp,Op.intDiv,u,w,hw,am]
theorem rem(u:bh ah x=.int k a)(w:bh ah y=.int k b)(am:b≠0)(hw:a.tmod b=c):bG P ah ⟨d,.binOp .rem t x y t',ty,ps,bk,g⟩ A (.int k c):=
  λ_ _=>by simp[execOp,eqGuard,binOp,Op.intDiv,u,w,hw,am]
theorem ir(C:bh ah x=.int .i64 a)(D:bh ah y=.int .i64 b)(u:-9223372036854775808<=a+b)(w:a+b<=9223372036854775807):bG P ah ⟨d,.binOp .add t x y t',ty,ps,bk,g⟩ A (.int .i64 (a+b)):=add C D (nQ u w)
theorem pa(C:bh ah x=.int .i64 a)(D:bh ah y=.int .i64 b)(u:-9223372036854775808<=a-b)(w:a-b<=9223372036854775807):bG P ah ⟨d,.binOp .sub t x y t',ty,ps,bk,g⟩ A (.int .i64 (a-b)):=sub C D (nQ u w)
theorem oe(C:bh ah x=.int .i64 a)(D:bh ah y=.int .i64 b)(u:-9223372036854775808<=a*b)(w:a*b<=9223372036854775807):bG P ah ⟨d,.binOp .mul t x y t',ty,ps,bk,g⟩ A (.int .i64 (a*b)):=mul C D (nQ u w)
theorem ln(w:bh ah x=.int .i64 a)(C:bh ah y=.int .i64 b)(u:0<=a)(am:0<b)(H:a<=9223372036854775807):bG P ah ⟨d,.binOp .quo t x y t',ty,ps,bk,g⟩ A (.int .i64 (a/b)):=
  quo w C U (by rw[Int.tdiv_eq_ediv_of_nonneg u];have D:0<=a/b:=Int.ediv_nonneg u U;have E:a/b<=a:=Int.ediv_le_self b u;exact nQ U U)
theorem p3(w:bh ah x=.int k a)(C:bh ah y=.int k b)(u:0<=a)(am:0<b):bG P ah ⟨d,.binOp .rem t x y t',ty,ps,bk,g⟩ A (.int k (a %b)):=
  rem w C U (Int.tmod_eq_emod_of_nonneg u)
theorem lss(u:bh ah x=.int k a)(w:bh ah y=.int k b):bG P ah ⟨d,.binOp .lss t x y t',ty,ps,bk,g⟩ A (.bool (decide (a<b))):=
  λ_ _=>by simp[execOp,eqGuard,binOp,X6,u,w]
theorem leq(u:bh ah x=.int k a)(w:bh ah y=.int k b):bG P ah ⟨d,.binOp .leq t x y t',ty,ps,bk,g⟩ A (.bool (decide (a<=b))):=
  λ_ _=>by simp[execOp,eqGuard,binOp,X6,u,w]
theorem gtr(u:bh ah x=.int k a)(w:bh ah y=.int k b):bG P ah ⟨d,.binOp .gtr t x y t',ty,ps,bk,g⟩ A (.bool (decide (b<a))):=
  λ_ _=>by simp[execOp,eqGuard,binOp,X6,u,w]
theorem geq(u:bh ah x=.int k a)(w:bh ah y=.int k b):bG P ah ⟨d,.binOp .geq t x y t',ty,ps,bk,g⟩ A (.bool (decide (b<=a))):=
  λ_ _=>by simp[execOp,eqGuard,binOp,X6,u,w]
theorem wp(u:bh ah x=.int k a)(w:bh ah y=.int k b):bG P ah ⟨d,.binOp .eql t x y t',ty,ps,bk,g⟩ A (.bool (decide (a=b))):=
  λ_ _=>by simp[execOp,eqGuard,binOp,X6,u,w,Kx]
theorem uL(u:bh ah x=.int k a)(w:bh ah y=.int k b):bG P ah ⟨d,.binOp .neq t x y t',ty,ps,bk,g⟩ A (.bool (decide (a≠b))):=
  λ_ _=>by
   have:(a !=b)=decide (a≠b):=by rw[XS];simp
   simp[execOp,eqGuard,binOp,X6,u,w,this]
theorem neg(u:bh ah x=.int k a)(hw:k.wrap (0-a)=c):bG P ah ⟨d,.unOp .neg t x,ty,ps,bk,g⟩ A (.int k c):=
  λ_ _=>by simp only[execOp,Op.unary,YA,u,hw];rfl
theorem A5{p:Prop}[Decidable p](u:bh ah x=.bool (decide p)):bG P ah ⟨d,.unOp .not t x,ty,ps,bk,g⟩ A (.bool (decide (¬p))):=
  λ_ _=>by simp[execOp,Op.unary,u]
theorem xk{b:Bool}(u:bh ah x=.bool b):bG P ah ⟨d,.unOp .not t x,ty,ps,bk,g⟩ A (.bool (!b)):=
  λ_ _=>by simp[execOp,Op.unary,u]
def sQ(P:Program)(t:TypeId)(k:IntKind):Bool:=match P.underlying t with
  | some (.int wR)=>decide (wR=k)
  | _=>false
theorem EQ{t:TypeId}{k:IntKind}(h:sQ P t k=true)(w:World):(underlying t).run P w=.ok (.int k) w:=by unfold sQ at h;cases hu:P.underlying t with|none=>rw[hu]at h;cases h|some u=>(rw[hu]at h;cases u<;>first|(cases h;done)|(have:=dp h;subst this;simp[underlying,hu]))
theorem conv(k u:IntKind)(C:sQ P t k=true)(D:sQ P t' u=true)(E:bh ah x=.int k a)(hw:u.wrap a=c):bG P ah ⟨d,.convert t t' x,ty,ps,bk,g⟩ A (.int u c):=
  λw _=>by simp[execOp,Go.convert,EQ C,EQ D,E,Conv.intToInt,hw]
def uY(P:Program)(t:TypeId):Bool:=match P.underlying t with
  | some (.pointer _)=>true
  | _=>false
theorem Q7{t:TypeId}(h:uY P t=true):∃e,P.underlying t=some (.pointer e):=by grind[uY]
theorem D5{t:TypeId}(h:uY P t=true)(p:Option Addr)(w:World):(Op.equal t (.pointer p) (.pointer none)).run P w=.ok p.isNone w:=by obtain⟨e,he⟩:=Q7 h;have key:∀d,(YJ (d+1) t (.pointer p) (.pointer none)).run P w=.ok p.isNone w:=λd=>(by cases p<;>simp[YJ,underlying,he]);exact key 9999
theorem zy{p:Option Addr}(u:uY P t=true)(C:bh ah x=.pointer p)(D:bh ah y=.pointer none):bG P ah ⟨d,.binOp .eql t x y t',ty,ps,bk,g⟩ A (.bool p.isNone):=by intro w _;unfold execOp;simp only[C,D,eqGuard,binOp,Vz,VS,Vo,D5 u];trivial
theorem AZ{p:Option Addr}(u:uY P t=true)(C:bh ah x=.pointer p)(D:bh ah y=.pointer none):bG P ah ⟨d,.binOp .neq t x y t',ty,ps,bk,g⟩ A (.bool p.isSome):=by intro w _;unfold execOp;simp only[C,D,eqGuard,binOp,Vz,VS,Vo,D5 u];simp_all
def hq(P:Program)(t:TypeId)(E sz:Nat):Bool:=match P.underlying t with
  | some (.slice e)=>Nat.beq e E&&q7 P e sz
  | _=>false
theorem h5{t E sz:Nat}(h:hq P t E sz=true)(w:World):(underlying t).run P w=.ok (.slice E) w/\(Go.sizeOf E).run P w=.ok sz w:=by unfold hq at h;cases hu:P.underlying t with|none=>rw[hu]at h;cases h|some u=>rw[hu]at h;(cases u<;>first|(cases h;done)|(simp only[VP]at h;have:=Nat.eq_of_beq_eq_true h.1;subst this;exact⟨by simp[underlying,hu],BS h.2 w⟩))
variable(E sz:Nat){n cap:Nat}
theorem Ak{u off:Nat}{j:Int}{o:Nat}(N:hq P t E sz=true)(O:bh ah x=.slice (some ⟨u,off,none⟩) n cap)(Q:bh ah y=.int .i64 j)(C:0<=j)(D:j<n)(H:off+j.toNat*sz=o):
    bG P ah ⟨d,.indexAddr t x y,ty,ps,bk,g⟩ A (.pointer (some ⟨u,o,none⟩)):=
  λw _=>by simp[execOp,Instr.indexAt,O,Q,asIntOf,h5 N,C,D,iG,H]
def gi(ad:Option Addr)(o:Nat):Value:=.pointer (ad.map λp=>⟨p.block,p.off+o,none⟩)
theorem len{ad:Option Addr}(u:hq P t E sz=true)(C:bh ah x=.slice ad n cap):
    bG P ah ⟨d,.call ⟨.builtin .len,#[x],#[t]⟩,ty,ps,bk,g⟩ A (.int .i64 n):=
  λw _=>by simp[execOp,resolve,invoke,builtin,Builtin.len_,C,h5 u,goInt]
def dM(ad:Option Addr)(cap j sz:Nat):Option Addr:=if cap=j then ad else ad.map (·.add (j*sz))
theorem HF{ad:Option Addr}{j:Int}(D:hq P t E sz=true)(H:bh ah x=.slice ad n cap)(N:bh ah y=.int .i64 j)(u:0<=j)(C:j<=n):
    bG P ah ⟨d,.slice t x (some y) none none,ty,ps,bk,g⟩ A (.slice (dM ad cap j.toNat sz) (n-j.toNat) (cap-j.toNat)):=
  λw _=>by simp[execOp,YF,Instr.slice,X2,Wb,H,N,asIntOf,h5 D,u,C,dM]
theorem SE{ad:Option Addr}{j:Int}(D:hq P t E sz=true)(H:bh ah x=.slice ad n cap)(N:bh ah y=.int .i64 j)(u:0<=j)(C:j<=cap):
    bG P ah ⟨d,.slice t x none (some y) none,ty,ps,bk,g⟩ A (.slice ad j.toNat cap):=
  λw _=>by
   have:(if cap=0 then ad else Option.map (λx=>x.add 0) ad)=ad:=by split<;>cases ad<;>simp[Addr.add]
   simp[execOp,YF,Instr.slice,X2,Wb,H,N,asIntOf,h5 D,u,C,this]
theorem xR{z:Operand}{ad:Option Addr}{j i:Int}(Q:hq P t E sz=true)(V:bh ah x=.slice ad n cap)(W:bh ah y=.int .i64 i)(Z:bh ah z=.int .i64 j)(D:0<=i)(aq:i<=j)(H:j<=cap):
    bG P ah ⟨d,.slice t x (some y) (some z) none,ty,ps,bk,g⟩ A (.slice (dM ad cap i.toNat sz) (j.toNat-i.toNat) (cap-i.toNat)):=
  λw _=>by
   have O:0<=j:=U
   have ar:i.toNat<=j.toNat:=U
   have N:i<=(j.toNat:Int):=U
   have u:(Wb (.int .i64 j) cap .sliceAcap).run P w=.ok j.toNat w:=by simp[Wb,asIntOf,O,H]
   have C:(Wb (.int .i64 i) j.toNat .sliceB).run P w=.ok i.toNat w:=by simp only[Wb,asIntOf,Vz,VS,Vo];rw[az ⟨D,N⟩];rfl
   simp[execOp,YF,Instr.slice,X2,V,W,Z,h5 Q,u,C,dM]
end
end Go.QM
namespace Go.QM
open Go
def a6(E sz:Nat)(ad:Option Addr)(n cap:Nat)(cs:List Value):aw:=match ad with
  | none=>pure' (n=0/\cap=0/\cs=[]) kD
  | some p=>eQ λx:List Value×List Value=>
      pure' (p=⟨p.block,x.1.length,none⟩/\cs.length=n*sz/\n<=cap/\cap<=maxLen/\cap*sz<=cs.length+x.2.length) (aj p.block E (x.1++cs++x.2))
theorem dE(E sz:Nat)(hs:List aw):aG (ag hs) (ag (a6 E sz none 0 0 []::hs)):=
  (o9.trans l8).trans (dv (ia λ_ h=>⟨⟨rfl,rfl,rfl⟩,h⟩) (VJ _))
def vI(h:kx)(E:Nat)(ad:Option Addr)(cs:List Value):Prop:=
  cs=[]\/∃p pre S5 lU,ad=some p/\p=⟨p.block,pre.length,none⟩/\h p.block=some (.cells (pre++cs++S5).toArray E lU)
def cQ(A:aw)(E:Nat)(ad:Option Addr)(cs:List Value):Prop:=∀h,A h->vI h E ad cs
variable{E:Nat}{ad:Option Addr}{cs:List Value}
theorem vI.sub{h d:kx}(x:vI h E ad cs)(s:lg h d):vI d E ad cs:=by rcases x with x|⟨p,pre,H,u,w,C,D⟩;exact .inl x;exact .inr ⟨p,pre,H,u,w,C,s _ _ D⟩
theorem yD(E sz:Nat)(ad:Option Addr)(n cap:Nat)(cs:List Value):cQ (a6 E sz ad n cap cs) E ad cs:=by intro h d;cases ad with|none=>exact .inl d.1.2.2|some p=>obtain⟨⟨pre,C⟩,⟨u,_⟩,w⟩:=d;exact .inr ⟨p,pre,C,(0,0),rfl,u,by rw[w];simp⟩
variable{A:aw}
theorem qs{B:aw}(x:cQ A E ad cs):cQ (sep A B) E ad cs:=by rintro h ⟨a,b,d,rfl,u,am⟩;exact(x a u).sub (qL a b)
theorem tG{B:aw}(x:cQ B E ad cs):cQ (sep A B) E ad cs:=by rintro h ⟨a,b,d,rfl,u,am⟩;exact(x b am).sub (uq d)
theorem vK{B:aw}(e:aG A B)(x:cQ B E ad cs):cQ A E ad cs:=λh a=>
  let⟨d,s,am⟩:=e h a;(x d am).sub s
theorem JW(x:cQ A E ad cs)(k:Nat):cQ A E ad (cs.take k):=λh a=>by
  rcases x h a with x|⟨p,pre,D,d,u,w,C⟩
  · exact .inl (by simp[x])
  · refine .inr ⟨p,pre,cs.drop k++D,d,u,w,?_⟩
    rw[C,VC pre (cs.take k),<-VC (cs.take k),V1,VC]
variable{sz cap:Nat}
theorem CM(x:cQ A E ad cs){n j:Nat}(N:cs.length=n*sz)(H:j<=n)(P:n<=cap):cQ A E (dM ad cap j sz) (cs.drop (j*sz)):=λh a=>by
  by_cases D:cap=j
  · left
    have:n=j:=U
    subst this
    rw[List.drop_eq_nil_iff];omega
  · rcases x h a with x|⟨p,pre,O,d,u,w,C⟩
    · exact .inl (by simp[x])
    · have hle:j*sz<=cs.length:=by rw[N];exact VQ _ H
      refine .inr ⟨⟨p.block,pre.length+j*sz,none⟩,pre++cs.take (j*sz),O,d,?_,?_,?_⟩
      · rw[u,w];simp[dM,D,iG]
      · simp[Xb hle]
      · rw[C,VC pre (cs.take _),V1]
class bn(A:aw)(ad:Option Addr)(E:outParam Nat)(cs:outParam (List Value)):Prop where
  rd:cQ A E ad cs
instance (E sz:Nat)(ad:Option Addr)(n cap:Nat)(cs:List Value):bn (a6 E sz ad n cap cs) ad E cs:=⟨yD E sz ad n cap cs⟩
instance (A:aw)(l:List aw)(ad:Option Addr)(E:Nat)(cs:List Value)[h:bn (ag l) ad E cs]:bn (ag (A::l)) ad E cs:=⟨tG h.rd⟩
instance (A:aw)(l:List aw)(ad:Option Addr)(E:Nat)(cs:List Value)[h:bn A ad E cs]:bn (ag (A::l)) ad E cs:=⟨qs h.rd⟩
class py(hs:List aw)(ad:Option Addr)(E sz n cap:outParam Nat)(cs:outParam (List Value))(r:outParam (List aw)):Prop where
  tk:∃i,eX i hs=some (a6 E sz ad n cap cs,r)
instance (ad:Option Addr)(E sz n cap:Nat)(cs:List Value)(r:List aw):py (a6 E sz ad n cap cs::r) ad E sz n cap cs r:=⟨0,rfl⟩
instance (A:aw)(hs:List aw)(ad:Option Addr)(E sz n cap:Nat)(cs:List Value)(r:List aw)[h:py hs ad E sz n cap cs r]:py (A::hs) ad E sz n cap cs (A::r):=⟨by
  obtain⟨i,pQ⟩:=h.tk
  exact⟨i+1,by simp[eX,pQ]⟩⟩
theorem ou{n:Nat}{h:kx}(x:a6 E sz ad n cap cs h):cs.length=n*sz/\n<=cap/\cap<=maxLen/\(ad=none->n=0):=by cases ad with|none=>obtain⟨⟨rfl,rfl,rfl⟩,_⟩:=x;simp|some p=>obtain⟨⟨pre,C⟩,⟨_,d,u,w,_⟩,_⟩:=x;exact⟨d,u,w,λe=>by cases e⟩
theorem BK{n:Nat}{j:Nat}(D:j<=n):aG (a6 E sz ad n cap cs) (a6 E sz (dM ad cap j sz) (n-j) (cap-j) (cs.drop (j*sz))):=ia λh x=>by
  obtain⟨f1,f2,f3,_⟩:=ou x
  cases ad with
  | none=>
    obtain⟨⟨rfl,rfl,rfl⟩,x⟩:=x
    obtain rfl:j=0:=by omega
    simp only[dM,if_true]
    exact⟨⟨by simp,by simp,by simp⟩,x⟩
  | some p=>
    obtain⟨⟨pre,w⟩,⟨d,N,O,P,C⟩,x⟩:=x
    have hle:j*sz<=cs.length:=by rw[f1];exact VQ _ D
    by_cases u:cap=j
    · have H:n=j:=U
      subst u H
      simp only[dM,if_true,Nat.sub_self]
      refine⟨(pre,cs++w),⟨d,?_,Vj _,Nat.zero_le _,by simp⟩,?_⟩
      · simp only[W5];omega
      · have:cs.drop (n*sz)=[]:=by rw[List.drop_eq_nil_iff];omega
        rw[this];simpa using x
    · have:dM (some p) cap j sz=some ⟨p.block,pre.length+j*sz,none⟩:=by rw[d];simp[dM,u,iG]
      rw[this]
      refine⟨(pre++cs.take (j*sz),w),⟨?_,?_,by omega,by omega,?_⟩,?_⟩
      · simp[Xb hle]
      · simp only[W5,f1,Nat.sub_mul]
      · simp only[W5,Nat.sub_mul];simp only[]at C;omega
      · simp only[]
        rw[VC pre,V1];exact x
theorem p6{n:Nat}{j:Nat}(C:j<=n):aG (a6 E sz ad n cap cs) (a6 E sz ad j cap (cs.take (j*sz))):=ia λh x=>by
  obtain⟨f1,f2,f3,_⟩:=ou x
  have hle:j*sz<=cs.length:=by rw[f1];exact VQ _ C
  cases ad with
  | none=>
    obtain⟨⟨rfl,rfl,rfl⟩,x⟩:=x
    obtain rfl:j=0:=by omega
    exact⟨⟨rfl,rfl,by simp⟩,x⟩
  | some p=>
    obtain⟨⟨pre,d⟩,⟨u,D,H,N,w⟩,x⟩:=x
    refine⟨(pre,cs.drop (j*sz)++d),⟨u,by simp[Xb hle],by omega,f3,?_⟩,?_⟩
    · simp only[]at w;simp;omega
    · simp only[]
      rw[show pre++List.take (j*sz) cs++(List.drop (j*sz) cs++d)=pre++cs++d by
        rw[VC,<-VC (List.take _ _),V1,VC]]
      exact x
section
variable {r : Option Nat} {P : Program} {N : Nat} {ops : Array Oper} {l : List Oper} {Q : fj} {ah : Env} {aT : List Deferred} {A : aw} {K : Value → aw → Prop}
variable {d : Option Tmp} {ty : TypeId} {ps : String} {bk : Array Edge} {g : Option (Nat × Bool)}
variable {t t' : TypeId} {x y : Operand} {k : IntKind} {a b c : Int}
variable{ad:Option Addr}{cs:List Value}{E:Nat}
theorem cQ.sat(x:cQ A E ad cs){w:World}(h:QM.sat w A):
    cs=[]\/∃p pre u d,ad=some p/\p=⟨p.block,pre.length,none⟩/\w.heap[p.block]? =some (.cells (pre++cs++u).toArray E d):=by obtain⟨D,P,C⟩:=h;rcases x D C with x|⟨p,pre,u,d,H,N,O⟩;all_goals grind
theorem cQ.A4(x:cQ A E ad cs){w:World}(h:QM.sat w A)(au:cs≠[]):∃p,ad=some p/\p.spot=none:=by rcases x.sat h with x|⟨p,pre,H,d,u,C,D⟩;all_goals grind
variable{cap:Nat}
theorem hH(E sz:Nat){D:Nat}{n i:Nat}(O:hq P t E sz=true)(Q:bh ah x=.slice ad n cap)(V:bh ah y=.int .i64 (i:Int))[hr:bn A ad D cs](H:i<n)(u:0<cs.length):
    bG P ah ⟨d,.indexAddr t x y,ty,ps,bk,g⟩ A (gi ad (i*sz)):=λw N=>by
  obtain⟨p,rfl,C⟩:=hr.rd.A4 N (by intro e;rw[e]at u;cases u)
  obtain⟨af,W,Z⟩:=p
  simp only at C;subst C
  simp[execOp,XJ,Q,V,asIntOf,h5 O,H,iG,gi]
theorem kK(E sz:Nat){D:Nat}{n:Nat}{j:Int}(Q:hq P t E sz=true)(V:bh ah x=.slice ad n cap)(W:bh ah y=.int .i64 j)[hr:bn A ad D cs](H:0<=j)(N:j<n)(u:0<cs.length):
    bG P ah ⟨d,.indexAddr t x y,ty,ps,bk,g⟩ A (gi ad (j.toNat*sz)):=λw O=>by
  obtain⟨p,rfl,C⟩:=hr.rd.A4 O (by intro e;rw[e]at u;cases u)
  obtain⟨af,Z,aq⟩:=p
  simp only at C;subst C
  simp[execOp,XJ,V,W,asIntOf,h5 Q,H,N,iG,gi]
theorem oR{s:TypeId}{x:Operand}{f:Nat}{u H:Nat}(o:Nat)(N:wA P s f o=true)(O:bh ah x=gi ad u)[hr:bn A ad H cs](C:0<cs.length):
    bG P ah ⟨d,.fieldAddr s x f,ty,ps,bk,g⟩ A (gi ad (u+o)):=λw E=>by
  obtain⟨p,rfl,D⟩:=hr.rd.A4 E (by intro e;rw[e]at C;cases C)
  obtain⟨af,Q,V⟩:=p
  simp only at D;subst D
  have:=(c3 (A:=A) (d:=d) (ty:=ty) (ps:=ps) (bk:=bk) (g:=g) o N (show bh ah x=.pointer (some ⟨af,Q+u,none⟩)by rw[O];rfl)) w E
  rw[this];simp[gi,Nat.add_assoc]
theorem dG{t:TypeId}{x:Operand}{o:Nat}{v:Value}(N:mz P t=true)(O:bh ah x=gi ad o)[hr:bn A ad E cs](hv:cs[o]? =some v):
    bG P ah ⟨d,.load t x,ty,ps,bk,g⟩ A v:=λw H=>by
  rcases hr.rd.sat H with h|⟨p,pre,Z,Q,rfl,u,C⟩
  · rw[h]at hv;simp at hv
  · have D:o<cs.length:=(List.getElem?_eq_some_iff.1 hv).1
    obtain⟨af,V,W⟩:=p
    simp only[Xs,true_and]at u
    obtain⟨rfl,rfl⟩:=u
    have:=AF (P:=P) (off:=pre.length+o) N C (v:=v) (by
      rw[VC,Yu U,WF,Wz D];exact hv)
    simp[execOp,Instr.loadAt,O,gi,WJ,this]
theorem gM{t:TypeId}{x:Operand}{o:Nat}{vs:List Value}(n:Nat)(H:qv P t n=true)(N:bh ah x=gi ad o)[hr:bn A ad E cs](hv:(cs.drop o).take n=vs)(au:vs.length=n)(Q:0<n):
    bG P ah ⟨d,.load t x,ty,ps,bk,g⟩ A (.agg vs.toArray):=λw D=>by
  have hlen:o+n<=cs.length:=by
    rw[<-hv]at au;simp only[List.length_take,W5]at au;omega
  rcases hr.rd.sat D with h|⟨p,pre,Z,O,rfl,u,C⟩
  · rw[h]at hlen;simp at hlen;omega
  · obtain⟨af,V,W⟩:=p
    simp only[Xs,true_and]at u
    obtain⟨rfl,rfl⟩:=u
    have:=AE (P:=P) (off:=pre.length+o) H C (vs:=vs) (by
      rw[VC,XI,Wt U,WF,VE,Yf U,WG rV];exact hv) au
    simp[execOp,Instr.loadAt,N,gi,WJ,this]
theorem cq.post{o:Oper}{sp:Value->aw->Prop}(h:cq r P ah o A sp)(O:∀v u,sp v u->∃d,aG u d/\K v d):cq r P ah o A K:=
  λa w x y=>Oper.wpIn_mono (λ_ _ ⟨v,C,D,E,H,N⟩=>by obtain⟨d,e,k⟩:=O v C N;exact⟨v,d,D,E,H.bf e,k⟩) (h a w x y)
theorem cq.ex{o:Oper}{α:Type}{B:α->aw}{rest:List aw}(h:∀x,cq r P ah o (ag (B x::rest)) K):cq r P ah o (ag (eQ B::rest)) K:=λa w he D=>by
  obtain⟨N,E,p,H,d,rfl,⟨z,u⟩,C⟩:=D
  exact h z a w he ⟨_,E,p,H,d,rfl,u,C⟩
theorem cq.pure{o:Oper}{p:Prop}{B:aw}{rest:List aw}(h:p->cq r P ah o (ag (B::rest)) K):cq r P ah o (ag (pure' p B::rest)) K:=λa w he D=>by
  obtain⟨O,E,H,N,d,rfl,⟨z,u⟩,C⟩:=D
  exact h z a w he ⟨_,E,H,N,d,rfl,u,C⟩
theorem eh{hs rest:List aw}{t:TypeId}{x y:Operand}{o sz D:Nat}{w vs:List Value}{v:Value}(n:Nat)(V:q7 P t n=true)(Z:bh ah x=gi ad o)(aq:bh ah y=v)
    (Q:v.cells.toList=vs) (O:vs.all VN=true) (au:Wx vs.length n=true) (av:0<n) [C:py hs ad E sz D cap cs rest] (hlen:o+n<=cs.length) (H:dN o vs cs=w) (k:K undef (ag (a6 E sz ad D cap w::rest))):
    cq r P ah ⟨d,.store t x y,ty,ps,bk,g⟩ (ag hs) K:=by
 obtain⟨i,C⟩:=C.tk;have au:=VA au;refine cq.bf (fO C) (show cq r P ah _ (ag (a6 E sz ad D cap cs::rest)) K from ?_)
 cases ad with
 | none=>exact cq.pure λ⟨_,_,e⟩=>by rw[e]at hlen;simp at hlen;omega
 | some p=>
   refine cq.ex λ⟨pre,u⟩=>cq.pure λ⟨f1,f2,f3,f4,f5⟩=>?_
   obtain⟨af,aD,aI⟩:=p
   simp only[Xs,true_and]at f1 f5
   obtain⟨rfl,rfl⟩:=f1
   have W:o+vs.length<=cs.length:=U
   have N:dN (pre.length+o) vs (pre++cs++u)=pre++w++u:=by
     subst H
     unfold dN
     rw[VC pre cs u,List.take_append,VR U,WF,Nat.add_assoc,XI,Wt U,WF,VE,
       WG U,Yf U]
     simp[VC]
   refine cq.post (sp:=λv A=>v=undef/\A=ag (aj af E (pre++w++u)::rest))
     (GJ 0 (hs:=aj af E (pre++cs++u)::rest) (b:=af) (off:=pre.length+o) (by rw[Z];rfl) rfl aq Q O V au rV N ⟨rfl,rfl⟩) ?_
   rintro v ar ⟨rfl,rfl⟩
   refine⟨_,dv (ia λh x=>?_) (VJ _),k⟩
   have aB:w.length=cs.length:=by rw[<-H];exact vc W
   exact⟨(pre,u),⟨rfl,by omega,f3,f4,by simp only[];omega⟩,x⟩
end
end Go.QM
namespace Go.QM
open Go
def rD(P:Program)(E sz bytes:Nat):Bool:=match P.info? E with
  | some i=>Wx i.size sz&&Wx i.bytes bytes&&(match i.zero with|some z=>Wx z.cells.size sz|none=>false)
  | none=>false
theorem ua{P:Program}{E sz bytes:Nat}(h:rD P E sz bytes=true):∃i z,P.info? E=some i/\i.zero=some z/\i.size=sz/\i.bytes=bytes/\z.cells.size=sz:=by unfold rD at h;cases w:P.info? E with|none=>rw[w]at h;cases h|some i=>rw[w]at h;simp only[VP]at h;obtain⟨⟨C,D⟩,d⟩:=h;(cases u:i.zero with|none=>rw[u]at d;cases d|some z=>rw[u]at d;exact⟨i,z,rfl,u,VA C,VA D,VA d⟩)
section
variable {r : Option Nat} {P : Program} {N : Nat} {ops : Array Oper} {l : List Oper} {Q : fj} {ah : Env} {aT : List Deferred} {A : aw} {K : Value → aw → Prop}
variable {d : Option Tmp} {ty : TypeId} {ps : String} {bk : Array Edge} {g : Option (Nat × Bool)}
variable {t t' : TypeId} {x y : Operand} {k : IntKind} {a b c : Int}
theorem qG{w:World}{E:Nat}{ad:Option Addr}{cs:List Value}{m sz c:Nat}(h:cs=[]\/∃p pre C d,ad=some p/\p=⟨p.block,pre.length,none⟩/\w.heap[p.block]? =some (.cells (pre++cs++C).toArray E d))(hm:m*sz<=cs.length):
    (VF sz m (.slice ad m c)).run P w=.ok (cs.take (m*sz)).toArray w:=by by_cases D:m*sz=0;cases ad<;>simp[VF,D,loadCells,loadCellsFrom];rcases h with h|⟨p,pre,C,d,rfl,u,H⟩;simp_all;refine run_firstCells_some w sz m p m c _ (by simp[Xb hm]) (λj v N=>?_);obtain⟨af,O,Q⟩:=p;simp only[Xs,true_and]at u;obtain⟨rfl,rfl⟩:=u;rw[iG,y6 H];grind
theorem ap{hs rest:List aw}{E sz n cap bg m Q:Nat}{ad N:Option Addr}{cs W news:List Value}(bytes:Nat)(aD:hq P t E sz=true)(aI:hq P t' E sz=true)(bK:rD P E sz bytes=true)
    (aJ:bh ah x=.slice ad n cap) (aT:bh ah y=.slice N m Q) [au:py hs ad E sz n cap cs rest] [hr:bn (ag rest) N bg W] (hm:m*sz<=W.length) (bb:W.take (m*sz)=news) (bo:news.all VN=true)
    (am:(n+m)*bytes<=140737488355328) (b0:n+m<=maxLen) (k:∀a1 a2,K (.slice a1 (n+m) a2) (ag (a6 E sz a1 (n+m) a2 (cs++news)::rest))):
    cq r P ah ⟨d,.call ⟨.builtin .append,#[x,y],#[t,t']⟩,ty,ps,bk,g⟩ (ag hs) K:=by
 obtain⟨i,au⟩:=au.tk;obtain⟨inf,z,a9,cb,cg,bz,cc⟩:=ua bK;refine cq.bf (fO au) (show cq r P ah _ (ag (a6 E sz ad n cap cs::rest)) K from ?_);have V:news.length=m*sz:=cv
 have ba:¬((n+m:Nat):Int)>IntKind.i64.max:=(by have:maxLen=9223372036854775807:=rfl;(have e:IntKind.i64.max=9223372036854775807:=by decide);omega);have b4:∀w,(Go.typeInfo E).run P w=.ok inf w:=λw=>by simp[typeInfo,a9]
 have ce:∀w,(Go.zeroValue E).run P w=.ok z w:=λw=>by simp[zeroValue,typeInfo,a9,cb]
 -- the grown slice
 have grow:∀(w:World),sat w (ag rest)->cap<n+m->cs.length=n*sz->(∀C:World,C.heap=w.heap->(VF sz n (.slice ad n cap)).run P C=.ok cs.toArray C)->
     ∃v C a0,((execOp (bh ah) ⟨d,.call ⟨.builtin .append,#[x,y],#[t,t']⟩,ty,ps,bk,g⟩).run P w=.ok (.value v) C\/((execOp (bh ah) ⟨d,.call ⟨.builtin .append,#[x,y],#[t,t']⟩,ty,ps,bk,g⟩).run P w=.ok .skip C/\v=undef))/\fp w C/\sat C a0/\K v a0:=by
   intro w D bM a4 hold
   have O:(VF sz m (.slice N m Q)).run P w.drew=.ok news.toArray w.drew:=by
     rw[<-bb];exact qG (hr.rd.sat (w:=w.drew) D) hm
   have bL:=hold w.drew rfl
   have b1:¬(Builtin.nextslicecap (n+m) cap*inf.bytes>2^48):=by
     have:=growslice_fits (need:=n+m) (old:=cap) (bytes:=inf.bytes) bM (by rw[bz];exact am)
     omega
   have bV:=grownCap_ge w (n+m) cap E
   have bF:=grownCap_le_maxLen w (n+m) cap E b0
   have cf:¬(((n+m:Nat):Int)>IntKind.i64.max/\(false=true\/inf.bytes=0)):=λ⟨h,_⟩=>ba h
   refine⟨.slice (some ⟨w.heap.size,0,none⟩) (n+m) (grownCap w (n+m) cap E),w.drew.alloc (.cells (cs.toArray++news.toArray++VG z.cells (grownCap w (n+m) cap E-(n+m))) E),_,.inl ?_,⟨rfl,rfl,rfl,by simp⟩,?_,k _ _⟩
   · simp only[execOp,resolve,invoke,builtin,Yc,XA,VM,W7,Vz,VS,Vo,aJ,aT,List.getElem?_toArray,YM,WI,h5 aD,h5 aI,XR,XZ,if_false]
     rw[al U]
     simp only[Vz,b4,Vo,false_or,al b1,VS,ba,false_and,if_false,run_choose,Question.forced,XZ,run_askRoom,Bool.not_false,if_true]
     change Xt (Xt (Sem.run P (VF sz n (.slice ad n cap)) w.drew) _) _=_
     simp only[bL,O,ce,Vo,newRow,Vz,run_newObj,VS]
     rfl
   · have b3:=nK (.cells (cs.toArray++news.toArray++VG z.cells (grownCap w (n+m) cap E-(n+m))) E) (show sat w.drew (ag rest)from D)
     refine b3.bf (dv (ia λh ar=>?_) (VJ _))
     refine⟨([],(VG z.cells (grownCap w (n+m) cap E-(n+m))).toList),⟨rfl,?_,bV,bF,?_⟩,?_⟩
     · simp[a4,V,V7]
     · simp only[mp,a4,V,Array.length_toList,size_zeroCells,cc,<-V7]
       exact VQ _ U
     · simp only[aj]
       have e:([]++(cs++news)++(VG z.cells (grownCap w (n+m) cap E-(n+m))).toList).toArray=cs.toArray++news.toArray++VG z.cells (grownCap w (n+m) cap E-(n+m)):=by
         apply Array.ext';simp
       rw[e];exact ar
 cases ad with|none=>refine cq.pure λ⟨Z,aq,bi⟩=>cq.run rfl λw D=>?_;subst Z aq bi;have D:=D.bf q1;by_cases bl:m=0;subst bl;refine⟨.slice none 0 0,w,ag (a6 E sz none (0+0) 0 ([]++news)::rest),.inl ?_,fp.refl w,D.bf (dE E sz rest|>.trans ?_),by simpa using k none 0⟩;(have O:(VF sz 0 (.slice N 0 Q)).run P w=.ok #[] w:=by cases N<;>simp[VF,loadCells,loadCellsFrom]);simp[execOp,resolve,invoke,builtin,Yc,aJ,aT,h5 aD,h5 aI,XR,O];have:news=[]:=Xg (by simpa using V);subst this;exact VJ _;exact grow w D U cE (λC _=>by simp[VF])|some p=>refine cq.ex λ⟨pre,H⟩=>cq.pure λ⟨f1,f2,f3,f4,f5⟩=>cq.run rfl λw D=>?_;obtain⟨af,ch,ck⟩:=p;simp only[Xs,true_and]at f1 f5;obtain⟨rfl,rfl⟩:=f1;have a3:w.heap[af]? =some (.cells (pre++cs++H).toArray E (0,0)):=(hA (ng af E _)).sat D;have bd:=D.bf q1;by_cases av:n+m<=cap;have O:(VF sz m (.slice N m Q)).run P w=.ok news.toArray w:=(by rw[<-bb];exact qG (hr.rd.sat bd) hm);have a5:pre.length+n*sz+news.length<=(pre++cs++H).length:=(by have:(n+m)*sz<=cap*sz:=VQ _ av;rw[V7]at this;simp only[mp];omega);have aB:=run_storeCells_at P af (pre.length+n*sz) E news 0 (pre++cs++H).toArray w a3 (by simpa using a5) (λu hu=>by simpa using List.all_eq_true.1 bo u hu);have Z:(List.take (pre.length+n*sz+0) (pre++cs++H)++news++List.drop (pre.length+n*sz+0+news.length) (pre++cs++H))=pre++(cs++news)++H.drop news.length:=(by(have aq:pre.length+n*sz+0=(pre++cs).length:=by simp[f2]);rw[aq,List.take_left,XI,Wt U];simp);dsimp only at aB;rw[Z]at aB;refine⟨.slice (some ⟨af,pre.length,none⟩) (n+m) cap,w.setRow af (pre++(cs++news)++H.drop news.length).toArray,ag (a6 E sz (some ⟨af,pre.length,none⟩) (n+m) cap (cs++news)::rest),.inl ?_,⟨rfl,rfl,rfl,by simp⟩,?_,k _ _⟩;simp only[execOp,resolve,invoke,builtin,Yc,XA,VM,W7,Vz,VS,Vo,aJ,aT,List.getElem?_toArray,YM,WI,h5 aD,h5 aI,XR,XZ,if_false];rw[az av];simp only[Vz,Bool.not_false,if_true,O,Vo,iG,aB,VS];refine(xK (l':=pre++(cs++news)++H.drop news.length) D).bf (dv (ia λh ar=>?_) (VJ _));refine⟨(pre,H.drop news.length),⟨rfl,by simp[f2,V,V7],av,f4,?_⟩,ar⟩;simp only[mp,W5];simp only[mp]at a5;omega;exact grow w bd U f2 (λC hw=>by(have br:C.heap[af]? =some (.cells (pre++cs++H).toArray E (0,0)):=by rw[hw];exact a3);have:=qG (P:=P) (w:=C) (E:=E) (ad:=some ⟨af,pre.length,none⟩) (cs:=cs) (m:=n) (sz:=sz) (c:=cap) (.inr ⟨_,pre,H,(0,0),rfl,rfl,br⟩) U;rw[VR U]at this;exact this)
def qD(ah:Env):List (Nat×Operand)->List (Nat×Value)
  | []=>[]
  | (i,x)::l=>(i,bh ah x)::qD ah l
theorem D6(d:Env)(l:List (Nat×Operand)):l.map (λ(i,x)=>(i,bh d x))=qD d l:=by induction l with|nil=>rfl|cons x l u=>simp[qD,u]
theorem Hg(z:List Value):∀(n i:Nat),i<n*z.length->(Vx n z).flatten[i]? =z[i %z.length]?
  | 0,i,h=>by simp at h
  | n+1,i,h=>by
   rw[List.replicate_succ,List.flatten_cons];have u:0<z.length:=by rcases Nat.eq_zero_or_pos z.length with e|e<;>first|exact e|(rw[e]at h;simp at h)
   by_cases d:i<z.length;rw[Wz d,Nat.mod_eq_of_lt d];have d:=Nat.le_of_not_lt d;rw[Yu d,Hg z n (i-z.length) (by rw[V7]at h;omega),Nat.mod_eq_sub_mod d]
theorem Cw(z:Array Value)(n:Nat):(Array.range (n*z.size)).map (z[· %z.size]!)=(Vx n z.toList).flatten.toArray:=by apply Array.ext';apply List.ext_getElem?;intro i;by_cases d:i<n*z.size;grind[Hg,Nat.mod_lt];simp_all
def Dk (P:Program) (t len:Nat) (parts:List (Nat×Value)):Option (Nat×Nat×List Value):=match P.underlying t with
  | some (.slice e)=>match P.info? e with
    | some i=>
      match bif Nat.ble (len*i.size) 16777216 then i.zero else none with
      | some z=>match(bif Wx z.cells.size i.size then Instr.fill (λj=>some (j*i.size,i.size)) (Vx len z.cells.toList).flatten.toArray parts else none)with
        | some cells=>bif Wx cells.toList.length (len*i.size)&&Nat.ble len maxLen then some (e,i.size,cells.toList)else none
        | none=>none
      | none=>none
    | none=>none
  | _=>none
theorem bs{hs:List aw}{t len E sz:Nat}{parts:List (Nat×Operand)}{cs:List Value}(C:Dk P t len (qD ah parts)=some (E,sz,cs))
    (k:∀b,K (.slice (some ⟨b,0,none⟩) len len) (ag (a6 E sz (some ⟨b,0,none⟩) len len cs::hs))):cq r P ah ⟨d,.buildSlice t len parts.toArray,ty,ps,bk,g⟩ (ag hs) K:=by unfold Dk at C;cases hu:P.underlying t with|none=>rw[hu]at C;cases C|some u=>rw[hu]at C;(cases u<;>first|(cases C;done)|skip);rename_i e;simp only[]at C;(cases Q:P.info? e with|none=>rw[Q]at C;cases C|some inf=>rw[Q]at C;simp only[]at C;(cases W:Nat.ble (len*inf.size) 16777216 with|false=>rw[W]at C;cases C|true=>rw[W,cond_true]at C;have aq:¬(len*inf.size>2^24):=(by have:=Nat.le_of_ble_eq_true W;(have e:2^24=16777216:=by decide);omega);(cases Z:inf.zero with|none=>rw[Z]at C;cases C|some z=>rw[Z]at C;simp only[]at C;split at C;rename_i cells H;have N:(Wx cells.toList.length (len*inf.size)&&Nat.ble len maxLen)=true:=(by cases N:(Wx cells.toList.length (len*inf.size)&&Nat.ble len maxLen)with|false=>rw[N]at C;cases C|true=>rfl);rw[N]at C;simp only[cond_true,WQ,Prod.mk.injEq]at C;obtain⟨rfl,rfl,rfl⟩:=C;simp only[VP]at N;obtain⟨au,hm⟩:=N;have hlen:=VA au;refine cq.run rfl λw aB=>⟨.slice (some ⟨w.heap.size,0,none⟩) len len,w.alloc (.cells cells e),_,.inl ?_,⟨rfl,rfl,rfl,by simp⟩,(nK _ aB).bf (dv (ia λh ar=>?_) (VJ _)),k w.heap.size⟩;have D:Wx z.cells.size inf.size=true:=(by cases am:Wx z.cells.size inf.size with|false=>rw[am]at H;cases H|true=>rfl);rw[D,cond_true]at H;have D:=VA D;(have gq:∀w,(underlying t).run P w=.ok (.slice e) w:=λw=>by simp[underlying,hu]);(have aD:∀w,(Ya e).run P w=.ok inf.size w:=λw=>by simp[Ya,typeInfo,Q]);have av:List.map (λx=>match x with|(i,x)=>(i,bh ah x)) parts=qD ah parts:=D6 ah parts;simp only[execOp,Instr.buildSlice,XA,Vz,gq,aD,Vo,av];rw[al aq];(have aI:∀w,(zeroValue e).run P w=.ok z w:=λw=>by simp[zeroValue,typeInfo,Q,Z]);by_cases O:len*inf.size=0;rw[az O];have V:(Array.range (len*inf.size)).map ((#[]:Array Value)[· %(#[]:Array Value).size]!)=(Vx len z.cells.toList).flatten.toArray:=(by rw[O];have:((Vx len z.cells.toList).flatten)=[]:=Xg (by simp[D,O]);rw[this];apply Array.ext<;>simp);simp only[Vz,Vo,VS,V,H,newRow,run_newObj];rfl;rw[al O];have V:=Cw z.cells len;rw[D]at V;simp only[Vz,Vo,VS,aI,D,V,H,newRow,run_newObj];rfl;refine⟨([],[]),⟨rfl,hlen,Vj _,by simpa using hm,by simp only[List.length_nil];omega⟩,?_⟩;simp only[aj,VE,V4,Array.toArray_toList];exact ar;cases C)))
theorem AQ{hs:List aw}{E n:Nat}{z:Value}(bytes:Nat)(N:hq P t E 1=true)(O:rD P E 1 bytes=true)(aT:ly P E=some z)(a0:z.cells=#[z])(Z:bh ah x=.int .i64 (n:Int))(aq:bh ah y=.int .i64 (n:Int))(am:bytes*n<=281474976710656)(hm:n<=maxLen)
    (k:∀b,K (.slice (some ⟨b,0,none⟩) n n) (ag (a6 E 1 (some ⟨b,0,none⟩) n n (Vx n z)::hs))):cq r P ah ⟨d,.makeSlice t x y,ty,ps,bk,g⟩ (ag hs) K:=by
 obtain⟨inf,u,H,ar,aJ,aD,a1⟩:=ua O;have av:u=z:=by grind[ly]
 subst av;have aI:maxLen=9223372036854775807:=rfl;have hw:IntKind.i64.wrap (n:Int)=n:=by grind[nQ]
 have D:((Array.range n).map ((if n=0 then #[]else u.cells)[· %(if n=0 then(#[]:Array Value)else u.cells).size]!))=(Vx n u).toArray:=cv;have aB:((inf.bytes:Int)*(n:Int))<=281474976710656:=cv;have W:(decide ((n:Int)<0)||decide ((inf.bytes:Int)*(n:Int)>2^48))=false:=b6;refine cq.run rfl λw V=>⟨.slice (some ⟨w.heap.size,0,none⟩) n n,w.alloc (.cells (Vx n u).toArray E),_,.inl ?_,⟨rfl,rfl,rfl,by simp⟩,(nK _ V).bf (dv (ia λh Q=>?_) (VJ _)),k w.heap.size⟩;have au:∀w,(zeroValue E).run P w=.ok u w:=λw=>by simp[zeroValue,typeInfo,H,ar]
 simp only[execOp,Instr.makeSlice,Vz,h5 N,Vo,Z,aq,asInt,asIntOf,VS,typeInfo,run_program,H,hw,W];rw[al cE];simp only[Vz,run_askRoom,h5 N,Vo,Int.toNat_natCast,Nat.mul_one];by_cases C:n=0;rw[az C];simp only[az C]at D;simp only[Vz,Vo,VS,D,newRow,run_newObj];trivial;rw[al C];simp only[al C]at D;simp only[Vz,Vo,VS,au,D,newRow,run_newObj];trivial;refine⟨([],[]),⟨rfl,by simp,Vj _,hm,by simp⟩,?_⟩;simp only[aj,VE,V4];exact Q
def rZ (P:Program):List Field->Option (List (Nat×Nat))
  | []=>some []
  | f::pO=>match P.info? f.type,rZ P pO with
    | some i,some r=>some ((f.offset,i.size)::r)
    | _,_=>none
theorem GY:∀{d:List Field} {r:List (Nat×Nat)},rZ P d=some r->∀w,(d.mapM (m:=Sem) λf=>do pure (f.offset,<-Ya f.type)).run P w=.ok r w
  | [],_,h,w=>by simp only[rZ,WQ]at h;subst h;simp
  | f::d,r,h,w=>by simp only[rZ]at h;cases u:P.info? f.type with|none=>rw[u]at h;cases h|some i=>(cases C:rZ P d with|none=>rw[u,C]at h;cases h|some E=>rw[u,C]at h;simp only[WQ]at h;subst h;(have D:(Ya f.type).run P w=.ok i.size w:=by simp[Ya,typeInfo,u]);simp only[List.mapM_cons,Vz,VS,D,Vo,GY C w])
def Dh (P:Program) (t:TypeId) (parts:List (Nat×Value)):Option (List Value):=match P.underlying t,ly P t with
  | some (.struct pO),some z=>match rZ P pO.toList with
    | some r=>(Instr.fill (r[·]?) z.cells parts).map (·.toList)
    | none=>none
  | _,_=>none
theorem ei{parts:List (Nat×Operand)}{cs:List Value}(C:Dh P t (qD ah parts)=some cs):bG P ah ⟨d,.build t parts.toArray,ty,ps,bk,g⟩ A (.agg cs.toArray):=by intro w _;unfold Dh at C;cases hu:P.underlying t with|none=>rw[hu]at C;cases C|some u=>(cases H:ly P t with|none=>rw[hu,H]at C;cases u<;>cases C|some z=>rw[hu,H]at C;(cases u<;>first|(cases C;done)|skip);rename_i D;simp only[]at C;(cases E:rZ P D.toList with|none=>rw[E]at C;cases C|some N=>rw[E]at C;simp only[Option.map_eq_some_iff]at C;obtain⟨cells,O,rfl⟩:=C;(have gq:(underlying t).run P w=.ok (.struct D) w:=by simp[underlying,hu]);have hm:(D.mapM (m:=Sem) λf=>do pure (f.offset,<-Ya f.type)).run P w=.ok N.toArray w:=(by(have e:D=D.toList.toArray:=by simp);rw[e,List.mapM_toArray];simp only[Sem.run_map];have:=GY E w;exact(congrArg (λx=>Xt x _) this));have V:List.map (λx=>match x with|(i,x)=>(i,bh ah x)) parts=qD ah parts:=D6 ah parts;(have Q:Instr.fill (λx=>N.toArray[x]?) z.cells (qD ah parts)=some cells:=by simpa using O);simp only[execOp,Instr.build,XA,V,Vz,vw H,Vo,gq,hm,Q,VS,Array.toArray_toList]))
theorem AS{fn:Fn}{u cs:List Operand}{vp vo:List Value}(D:lS ah u=vp)(C:lS ah cs=vo):bG P ah ⟨d,.makeFunc fn u.toArray cs.toArray,ty,ps,bk,g⟩ A (.func fn vp.toArray vo.toArray):=by intro w _;simp[execOp,Instr.makeFunc,zA,D,C]
end
end Go.QM
namespace Go.QM
open Go
def oI (P:Program) (l:Nat) (args:List Value) (A:aw) (R:Bool->aw->Prop):Prop:=
  ∀ w,sat w A->∃fn tmps assign body,(Instr.yield l args.toArray).run P w=.ok (.round l fn tmps assign body) w/\
    RoundIn Yw 0 P l fn tmps assign body w (λe ht=>∃b bl,e=.returned (.bool b)/\fp w ht/\sat ht bl/\R b bl)
def rm (P:Program) (qJ:FuncId) (lb:List Value) {α:Type} (uc:α->List Value) (ok:List α->α->Prop) (pre:List aw) {Y:Type} (xs:Y->List α) (φ:Y->Prop) (post:Y->List aw):Prop:=
  lR P qJ=true/\∀(l:Nat) (bu:List α->aw),
    (∀pB x G,ok pB x->oI P l (uc x) (sep (bu pB) G) (λb bl=>b=true/\bl=sep (bu (pB++[x])) G))->
    ∀ w,sat w (sep (ag pre) (bu []))->
      CallsIn Yw 0 P qJ (Xn (.yield l) #[] #[]::lb).toArray w (λe ht=>∃v y,e=.returned v/\φ y/\fp w ht/\sat ht (sep (ag (post y)) (bu (xs y))))
section
variable {r : Option Nat} {P : Program} {N : Nat} {ops : Array Oper} {Q : fj} {ah : Env} {aT : List Deferred} {A : aw} {K : Value → aw → Prop}
variable {d : Option Tmp} {ty : TypeId} {ps : String} {bk : Array Edge} {g : Option (Nat × Bool)}
theorem ym{C:Operand}{l:Nat}{vs:List Value}{u:List Operand}{D:Array TypeId}(i:Nat){hs rest:List aw}{B:aw}{R:Bool->aw->Prop}(E:oI P l vs (sep B (ag rest)) R)
    (V:bh ah C=.func (.yield l) #[] #[]) (Q:lS ah u=vs) (H:eX i hs=some (B,rest)) (k:∀b bl,R b bl->K (.bool b) bl):
    cq r P ah ⟨d,.call ⟨.value C,u.toArray,D⟩,ty,ps,bk,g⟩ (ag hs) K:=by intro a w he O;refine⟨λ_ _=>trivial,?_⟩;rw[r4 _ j8,he];obtain⟨fn,tmps,assign,body,W,aQ⟩:=E w (O.bf (fO H));have N:(execOp (bh ah) ⟨d,.call ⟨.value C,u.toArray,D⟩,ty,ps,bk,g⟩).run P w=.ok (.round l fn tmps assign body) w:=(by grind[execOp,resolve,Deferred.ofValue,invoke,zA]);rw[N];refine⟨tA r,?_⟩;refine RoundIn.mono (show RoundIn (mP r) (0-1) P l fn tmps assign body w _ from aQ) ?_;grind
def CP{α Y:Type}(bu:List α->aw)(xs:Y->List α)(φ:Y->Prop)(post:Y->List aw):fj
  | .ret,_,aT,A|.normal,_,aT,A=>aT=[]/\∃y,φ y/\aG A (ag (bu (xs y)::post y))
  | _,_,_,_=>False
theorem rm.intro{u:FuncId}{lb:List Value}{α:Type}{O:α->List Value}{ok:List α->α->Prop}{pre:List aw}{Y:Type}{xs:Y->List α}{φ:Y->Prop}{post:Y->List aw}{fn:Func}{c:Code}
    (he:lR P u=true) (ar:P.funcs[u]? =some fn) (am:fn.body=some c) (bB:fn.ntmps=N) (aI:Nat.ble (lb.length+1) N=true) (av:fn.results=#[])
    (h:∀(l:Nat) (bu:List α->aw),(∀d x G,ok d x->oI P l (O x) (sep (bu d) G) (λb bl=>b=true/\bl=sep (bu (d++[x])) G))->
      ab none P N c (CP bu xs φ post) (mY (Xn (.yield l) #[] #[]::lb)) [] (ag (bu []::pre))):rm P u lb O ok pre xs φ post:=by
 refine⟨he,λl bu aq w aB=>?_⟩;have au:lb.length+1<=N:=b6
 refine callsIn_of_wp ar am trivial (wpIn_mono (h l bu aq _ w ?_ (aB.bf l8)) ?_) rfl;refine⟨by simp[bB,au],λt=>?_,rfl⟩;simp only[mY,Wi,Wc,XM];grind;rintro e ah Z ⟨s,aJ,aD,bl,Q,V,C⟩;have W:(results fn ah.tmps).run P Z=.ok (.tuple #[]) Z:=by simp[results,av]
 cases e with|ret=>obtain⟨D,y,E,H⟩:=C;exact⟨by rw[Q.defers,D],_,W,_,y,rfl,E,s,V.bf (H.trans l8)⟩|normal=>obtain⟨D,y,E,H⟩:=C;exact⟨by rw[Q.defers,D],_,W,_,y,rfl,E,s,V.bf (H.trans l8)⟩|_=>exact C.elim
def qe(ah:Env):List Nat->List Value->Env
  | p::ps,v::vs=>qe (hS ah p v) ps vs
  | _,_=>ah
theorem cg.zip{a:Act}:∀(ps:List Nat) (vs:List Value) {ah:Env} {tmps:Array Value},cg N ⟨tmps,[]⟩ ah []->ps.all (λp=>W9 p N)=true->
    cg N ⟨(ps.zip vs).foldl (λt (x:Nat×Value)=>t.setIfInBounds x.1 x.2) tmps,[]⟩ (qe ah ps vs) []
  | [],_,_,_,h,_=>h
  | _::_,[],_,_,h,_=>h
  | p::ps,v::vs,ah,tmps,h,bB=>by simp only[List.all_cons,Bool.and_eq_true]at bB;simp only[List.zip_cons_cons,List.foldl_cons,qe];exact cg.zip (a:=a) ps vs (cg.put (d:=some p) h bB.1 v) bB.2
theorem oo{w:World}{A:aw}{b:Nat}{o:Obj}(d:Obj)(h:sat w (sep (obj b o) A)):sat (w.putObj b d) (sep (obj b d) A):=by have am:w.heap[b]? =some o:=(hA (iq b o)).sat h;grind[u5,World.putObj_heap_same,World.putObj_heap_other]
theorem nh(w:World)(b:Nat)(o:Obj):fp w (w.putObj b o):=⟨rfl,rfl,rfl,by simp⟩
theorem ab.Ha{α Y:Type}{V:FuncId}{lb:List Value}{go:Operand}{C:List Nat}{assign body:Code}{hs pre dT rest:List aw}{u:α->List Value}{ok:List α->α->Prop}{xs:Y->List α}{φ:Y->Prop}{post:Y->List aw}
    (bu:List α->List aw) (iter:rm P V lb u ok pre xs φ post) (bL:bh ah go=.func (.func V) #[] lb.toArray) (b3:ky hs pre dT) (fH:ky dT (bu []) rest)
    (hlen:∀x,(u x).length=C.length) (b4:C.all (λp=>W9 p N)=true)
    (bo:∀(l:Nat) d x F,ok d x->ab (some l) P N assign (oH (λcz bd bb=>bd=[]/\aG bb (ag (bu d++[F]))/\
      ∀aD,ab (some l) P N body (λe _ aI aB=>e=.normal/\aI=[]/\aG aB (ag (bu (d++[x])++[aD]))) cz [] (ag (bu d++[aD]))) (λ_ _ _ _=>False)) (qe ah C (u x)) [] (ag (bu d++[F])))
    (k:∀D y,φ y->Q .normal ah ({target:=.collected D,args:=#[]}::aT) (ag (post y++(bu (xs y)++(obj D (.deferred (some []))::rest))))):
    ab none P N (.rangeFunc go C.toArray assign body) Q ah aT (ag hs):=by
 intro a w E cF;refine wpIn_rangeFunc ?_;intro fn _;obtain⟨rec,H⟩:∃rec:LoopState->Loop,rec=λst=>{state:=st,pending:=none,fn,tmps:=a.tmps,params:=C.toArray,assign,body,defers:=w.heap.size}:=⟨_,rfl⟩;obtain⟨da,a0⟩:∃da,(w.alloc (.deferred (some []))).alloc (.loop (rec .ready))=da:=⟨_,rfl⟩;obtain⟨D,aN⟩:∃D,w.heap.size=D:=⟨_,rfl⟩;have cq:sat da (sep (obj (D+1) (.loop (rec .ready))) (sep (obj D (.deferred (some []))) (ag hs))):=(by grind[nK,XL]);have cr:fp w da:=by rw[<-a0];exact⟨rfl,rfl,rfl,by simp only[XL];omega⟩
 let R:aw:=sep (obj D (.deferred (some []))) (ag rest);let O:List α->aw:=λd=>sep (ag (bu d)) (sep (obj (D+1) (.loop (rec .ready))) R);refine⟨D+1,[{target:=.collected D,args:=#[]}],da,{target:=.fn (.func V) lb.toArray,args:=#[.func (.yield (D+1)) #[] #[]]},da,V,(Xn (.yield (D+1)) #[] #[]::lb).toArray,da,?_,?_,λ_ _=>trivial,?_,tA none,?_⟩;rw[<-a0,H,<-aN];exact run_enterLoop_outer _ _ _ _ _;have:a.eval go=.func (.func V) #[] lb.toArray:=by rw[E.eval];exact bL
 simp only[resolve,this,Deferred.ofValue];simp[Act.eval];simp[invoke,wo iter.1]
 have ck:∀d x G,ok d x->oI P (D+1) (u x) (sep (O d) G) (λb ba=>b=true/\ba=sep (O (d++[x])) G):=by
  intro d x G b1 cG a9;have bV:cG.heap[D+1]? =some (.loop (rec .ready)):=(hA (qt (hA (iq _ _)))).sat a9;have av:=run_yield (P:=P) (args:=(u x).toArray) bV (by rw[H];simp[hlen]);refine⟨_,_,_,_,av,roundIn_of_wpIn trivial ?_⟩;have bK:(((rec .ready).params.zip (u x).toArray).foldl (λtmps (x:Nat×Value)=>tmps.setIfInBounds x.1 x.2) (rec .ready).tmps)=(C.zip (u x)).foldl (λt (x:Nat×Value)=>t.setIfInBounds x.1 x.2) a.tmps:=b6;have ch:cg N ⟨((rec .ready).params.zip (u x).toArray).foldl (λtmps (x:Nat×Value)=>tmps.setIfInBounds x.1 x.2) (rec .ready).tmps,[]⟩ (qe ah C (u x)) []:=(by rw[bK];exact cg.zip (a:=a) C (u x) ⟨E.size,E.get,rfl⟩ b4)
  have bg:aG (sep (O d) G) (ag (bu d++[sep (obj (D+1) (.loop (rec .ready))) (sep R G)])):=
    oq.trans ((dv (VJ _) oq).trans p5)
  have am:=bo (D+1) d x (sep (obj (D+1) (.loop (rec .ready))) (sep R G)) b1 _ cG ch (a9.bf bg);have bk:(rec .ready).assign=assign:=b6
  have bn:(rec .ready).body=body:=b6
  rw[bk,bn];refine wpIn_mono (show assign.wpIn (Fence.wide.inRound (D+1)) 0 P _ _ cG from am) ?_;rintro e a2 aq ⟨s2,cH,aI,aB,ce,au,a3⟩;cases e with|normal=>obtain⟨rfl,bz,bM⟩:=a3;have aJ:∀st (d:List α),aG (ag (bu d++[sep (obj (D+1) (.loop (rec st))) (sep R G)])) (sep (obj (D+1) (.loop (rec st))) (sep (ag (bu d)) (sep R G))):=λst d=>p4.trans hp;have bi:∀st (d:List α),aG (sep (obj (D+1) (.loop (rec st))) (sep (ag (bu d)) (sep R G))) (ag (bu d++[sep (obj (D+1) (.loop (rec st))) (sep R G)])):=λst d=>hp.trans p5;have Z:=(au.bf bz).bf (aJ .ready d);have ar:aq.heap[D+1]? =some (.loop (rec .ready)):=(hA (iq _ _)).sat Z;have a1:=run_beginRound (P:=P) ar (by rw[H]);(have br:({rec .ready with state:=.busy}:Loop)=rec .busy:=by rw[H]);rw[br]at a1;refine⟨_,a1,?_⟩;have cm:=(oo (.loop (rec .busy)) Z).bf (bi .busy d);have bl:=bM (sep (obj (D+1) (.loop (rec .busy))) (sep R G)) a2 _ ce cm;refine wpIn_mono (show body.wpIn (Fence.wide.inRound (D+1)) 0 P _ _ _ from bl) ?_;rintro e a5 cx ⟨cw,cL,cC,cA,cD,cn,cc⟩;obtain⟨rfl,rfl,bF⟩:=cc;have a4:=(cn.bf bF).bf (aJ .busy (d++[x]));have b0:cx.heap[D+1]? =some (.loop (rec .busy)):=(hA (iq _ _)).sat a4;have W:=run_endRound (P:=P) none b0;(have cf:({rec .busy with state:=if(none:Option Code).isNone then .ready else .done,pending:=none}:Loop)=rec .ready:=by rw[H];rfl);rw[cf]at W;refine⟨_,_,W,true,_,rfl,(s2.trans (nh _ _ _)).trans (cw.trans (nh _ _ _)),?_,rfl,rfl⟩;have co:=oo (.loop (rec .ready)) a4;exact co.bf (hp.trans ((dv (VJ _) mH).trans mH))|_=>exact a3.elim
 have ct:sat da (sep (ag pre) (O [])):=(by refine cq.bf ?_;have et:aG (ag hs) (sep (ag pre) (sep (ag (bu [])) (ag rest))):=b3.trans (dv (VJ _) fH);refine(dv (VJ _) (dv (VJ _) et)).trans ?_;refine(dv (VJ _) hp).trans (hp.trans (dv (VJ _) ?_));exact(dv (VJ _) hp).trans hp);refine CallsIn.mono (iter.2 (D+1) O ck da ct) ?_;rintro e aq ⟨v,y,rfl,av,s2,au⟩
 have Z:sat aq (sep (obj (D+1) (.loop (rec .ready))) (sep (ag (post y)) (sep (ag (bu (xs y))) R))):=
   au.bf ((dv (VJ _) hp).trans hp)
 have ar:aq.heap[D+1]? =some (.loop (rec .ready)):=(hA (iq _ _)).sat Z;have W:=run_endLoop (P:=P) ar (by rw[H];simp);have cb:(rec .ready).pending=none:=b6
 rw[cb]at W;refine⟨none,_,W,(cr.trans s2).trans (nh _ _ _),ah,_,_,⟨E.size,E.get,by rw[<-E.defers];rfl⟩,?_,k D y av⟩;refine((oo _ Z).bf q1).bf ?_;exact(dv (VJ _) (m9 (bu (xs y)) (obj D (.deferred (some []))::rest))).trans (m9 _ _)
def yF(P:Program)(rs:List ResultVar){Y:Type}(res:Y->Value)(φ:Y->Prop)(post:Y->List aw)(F:aw):fj
  | .ret,ah,aT,A|.normal,ah,aT,A=>∃y vs D,aT=[{target:=.collected D,args:=#[]}]/\rs.all (λx=>match x with|.tmp _=>true|_=>false)=true/\iQ P rs vs ah A/\jV vs=res y/\φ y/\aG A (ag (obj D (.deferred (some []))::(post y++[F])))
  | _,_,_,_=>False
theorem CO:∀{rs:List ResultVar} {vs:List Value} {A B:aw},rs.all (λx=>match x with|.tmp _=>true|_=>false)=true->iQ P rs vs ah A->iQ P rs vs ah B
  | [],[],_,_,_,_=>trivial
  | .tmp t::rs,v::vs,_,_,h,x=>⟨x.1,CO (by simpa using h) x.2⟩
  | [],_::_,_,_,_,x=>x.elim
  | .tmp _::_,[],_,_,_,x=>x.elim
  | .cell _ _::_,_,_,_,h,_=>by simp at h
theorem eD.Aa{f:FuncId}{fn:Func}{c:Code}{rs:List ResultVar}{args:List Value}{rd:aw->Prop}{pre:List aw}{Y:Type}{res:Y->Value}{φ:Y->Prop}{post:Y->List aw}
    (he:lR P f=true) (aI:P.funcs[f]? =some fn) (am:fn.body=some c) (bB:fn.ntmps=N) (a3:Nat.ble args.length N=true) (ar:fn.results=rs.toArray)
    (h:∀F,rd F->ab none P N c (λe ah aT A=>yF P rs res φ post F e ah aT A\/ca P rs res φ post F e ah aT A) (mY args) [] (ag (pre++[F]))):eD P f args rd pre res φ post:=by
 refine⟨he,λF aD w a1=>?_⟩;have aJ:args.length<=N:=b6
 have key:∀(e:Exit) (O:Act) (d:World) E C u,fp w d->cg N O E C->sat d u->(e=.ret\/e=.normal)->(yF P rs res φ post F e E C u\/ca P rs res φ post F e E C u)->
     LeavesInM Yw 0 P fn O.tmps (λe d=>∃y,e=.returned (res y)/\φ y/\fp w d/\sat d (sep (ag (post y)) F)) O.defers .returning d:=by
   intro e O d E C u s Q V he H
   rw[Q.defers]
   have aB:yF P rs res φ post F .ret E C u\/ca P rs res φ post F .ret E C u:=by rcases he with rfl|rfl<;>exact H
   rcases aB with⟨y,vs,D,rfl,a2,bM,W,Z,aq⟩|⟨rfl,y,vs,bM,W,Z,aq⟩
   · have au:=V.bf aq
     have a0:d.heap[D]? =some (.deferred (some [])):=(hA (iq _ _)).sat au
     refine⟨by simp,.inl ⟨D,_,rfl,run_takeDeferred a0,?_⟩⟩
     have av:=(oo (.deferred none) au).bf q1
     exact⟨_,td ar Q.get av (CO a2 bM),y,by rw[W],Z,s.trans (nh _ _ _),av.bf p4⟩
   · exact⟨_,td ar Q.get V bM,y,by rw[W],Z,s,V.bf (aq.trans p4)⟩
 refine callsIn_of_wp_marks aI am trivial (wpIn_mono (h F aD _ w ?_ (a1.bf p5)) ?_) rfl;refine⟨by simp[bB,aJ],λt=>?_,rfl⟩;simp only[mY,Wi,Wc,XM];grind;rintro e O d ⟨s,E,C,u,Q,V,H⟩;cases e with|ret=>exact key .ret O d E C u s Q V (.inl rfl) H|normal=>exact key .normal O d E C u s Q V (.inr rfl) H|_=>rcases H with H|H<;>exact H.elim
end
end Go.QM
namespace Go.QM
open Go
theorem aA{α:Type}{p:α->Prop}{B:α->List aw}(x:α)(d:p x){hs gs:List aw}(h:aG (ag hs) (ag (B x++gs))):aG (ag hs) (ag (eQ (λx=>pure' (p x) (ag (B x)))::gs)):=
  h.trans ((u7 (B x) gs).trans (dv (ia λ_ a=>⟨x,d,a⟩) (VJ _)))
theorem b9(n:Nat){hs r gs:List aw}{A B:aw}(h:eX n hs=some (A,r))(e:A=B)(k:aG (ag r) (ag gs)):aG (ag hs) (ag (B::gs)):=by subst e;exact bU n h k
theorem eO(n:Nat){hs r gs:List aw}{A B:aw}(h:eX n hs=some (A,r))(e:aG A B)(k:aG (ag r) (ag gs)):aG (ag hs) (ag (B::gs)):=
  (fO h).trans (dv e k)
theorem sK(n:Nat){α:Type}{p:α->Prop}{B:α->List aw}{hs r:List aw}(h:eX n hs=some (eQ (λx=>pure' (p x) (ag (B x))),r)){w:World}(hw:sat w (ag hs)):∃x,p x/\sat w (ag (B x++r)):=by obtain⟨N,D,E,H,d,rfl,⟨z,u,aU⟩,C⟩:=hw.bf (fO h);exact⟨z,u,sat.bf ⟨_,D,E,H,d,rfl,aU,C⟩ (m9 _ _)⟩
section
variable {r : Option Nat} {P : Program} {N : Nat} {ops : Array Oper} {l : List Oper} {Q : fj} {ah : Env} {aT : List Deferred} {A I : aw} {K : Value → aw → Prop} {c : Code} {T : List Nat} {co : List (Nat × Bool)}
theorem ab.open(n:Nat){α:Type}{p:α->Prop}{B:α->List aw}{hs d:List aw}(h:eX n hs=some (eQ (λx=>pure' (p x) (ag (B x))),d))(k:∀x,p x->ab r P N c Q ah aT (ag (B x++d))):ab r P N c Q ah aT (ag hs):=
  λa w C hs=>let⟨x,u,D⟩:=sK n h hs;k x u a w C D
theorem aW.open(n:Nat){α:Type}{p:α->Prop}{B:α->List aw}{hs d:List aw}(h:eX n hs=some (eQ (λx=>pure' (p x) (ag (B x))),d))(k:∀x,p x->aW r P N ops l Q ah aT (ag (B x++d))):aW r P N ops l Q ah aT (ag hs):=
  λa w C hs=>let⟨x,u,D⟩:=sK n h hs;k x u a w C D
theorem cd.open(n:Nat){α:Type}{p:α->Prop}{B:α->List aw}{hs d:List aw}(h:eX n hs=some (eQ (λx=>pure' (p x) (ag (B x))),d))(k:∀x,p x->cd r P N ops I T co Q ah aT (ag (B x++d))):cd r P N ops I T co Q ah aT (ag hs):=
  λa w listed C hs=>let⟨x,u,D⟩:=sK n h hs;k x u a w listed C D
theorem ab.ns(n:Nat){E sz d cap:Nat}{ad:Option Addr}{cs:List Value}{hs D:List aw}(h:eX n hs=some (a6 E sz ad d cap cs,D))(k:cs.length=d*sz->d<=cap->cap<=maxLen->ab r P N c Q ah aT (ag hs)):ab r P N c Q ah aT (ag hs):=
  λa w C hs=>by obtain⟨O,W,Z,aq,H,rfl,u,V⟩:=hs.bf (fO h);obtain⟨f1,f2,f3,_⟩:=ou u;exact k f1 f2 f3 a w C hs
end
theorem DZ(n:Nat){hs r:List aw}{B:aw}(h:eX n hs=some (B,r)):aG (ag hs) B:=(fO h).trans xL
theorem DY{hs:List aw}{B:aw}(h:aG (ag hs) (ag [B])):aG (ag hs) B:=h.trans xL
section
variable {r : Option Nat} {P : Program} {N : Nat} {Q : fj} {ah : Env} {aT : List Deferred} {c : Code}
end
theorem kF{α:Type}{enc:α->List Value}{sz:Nat}(h:∀a,(enc a).length=sz):∀(xs:List α),(xs.flatMap enc).length=xs.length*sz
  | []=>by simp
  | a::xs=>by rw[Vw,List.length_append,h,kF h xs,List.length_cons,V7];omega
theorem ui{α:Type}{enc:α->List Value}{sz:Nat}(h:∀a,(enc a).length=sz):∀{xs:List α} {i j:Nat} {a:α} {v:Value},xs[i]? =some a->(enc a)[j]? =some v->(xs.flatMap enc)[i*sz+j]? =some v
  | [],_,_,_,_,d,_=>by simp at d
  | b::xs,0,j,a,v,d,u=>by simp at d;subst d;rw[Vw,Nat.zero_mul,Nat.zero_add,List.getElem?_append_left (List.getElem?_eq_some_iff.1 u).1];exact u
  | b::xs,i+1,j,a,v,d,u=>by simp at d;have:=ui h d u;rw[Vw,List.getElem?_append_right (by rw[h,V7];omega),h,V7];rw[show i*sz+1*sz+j-sz=i*sz+j by omega];exact this
theorem zG{α:Type}{enc:α->List Value}{sz:Nat}(h:∀a,(enc a).length=sz):∀(xs:List α) (i:Nat),(xs.flatMap enc).drop (i*sz)=(xs.drop i).flatMap enc
  | [],i=>by simp
  | b::xs,0=>by simp
  | b::xs,i+1=>by rw[Vw,List.drop_append,List.drop_eq_nil_of_le (by rw[h,V7];omega),h,V7];rw[show i*sz+1*sz-sz=i*sz by omega,List.nil_append,List.drop_succ_cons];exact zG h xs i
theorem wz{α:Type}{enc:α->List Value}{sz:Nat}(h:∀a,(enc a).length=sz):∀(xs:List α) (i:Nat),(xs.flatMap enc).take (i*sz)=(xs.take i).flatMap enc
  | [],i=>by simp
  | b::xs,0=>by simp
  | b::xs,i+1=>by rw[Vw,List.take_append,List.take_of_length_le (by rw[h,V7];omega),h,V7];rw[show i*sz+1*sz-sz=i*sz by omega,List.take_succ_cons,Vw,wz h xs i]
theorem nt{α:Type}{enc:α->List Value}{sz:Nat}(h:∀a,(enc a).length=sz){xs:List α}{i:Nat}{a:α}(d:xs[i]? =some a):((xs.flatMap enc).drop (i*sz)).take sz=enc a:=by grind[zG,List.drop_eq_getElem_cons]
theorem Ir{α:Type}{p:α->Bool}:∀{l:List α},(∀t∈l,p t=true)->l.takeWhile p=l
  | [],_=>rfl
  | a::l,h=>by rw[Yt (h a cE),Ir λt d=>h t (by simp[d])]
theorem DS{α:Type}{p:α->Bool}:∀{l:List α},(∀t∈l,p t=true)->l.dropWhile p=[]
  | [],_=>rfl
  | a::l,h=>by rw[Yv (h a cE),DS λt d=>h t (by simp[d])]
theorem Is{α:Type}{p:α->Bool}{m:List α}:∀{l:List α},(∀t∈l,p t=true)->(l++m).takeWhile p=l++m.takeWhile p
  | [],_=>rfl
  | a::l,h=>by rw[VU,Yt (h a cE),Is λt d=>h t (by simp[d])];rfl
theorem DT{α:Type}{p:α->Bool}{m:List α}:∀{l:List α},(∀t∈l,p t=true)->(l++m).dropWhile p=m.dropWhile p
  | [],_=>rfl
  | a::l,h=>by rw[VU,Yv (h a cE),DT λt d=>h t (by simp[d])]
theorem wx{α:Type}{p:α->Bool}:∀{l:List α} {k:Nat} {t:α},l[k]? =some t->p t=true->(∀j u,j<k->l[j]? =some u->p u=false)->l.findIdx? p=some k
  | [],_,_,h,_,_=>by simp at h
  | a::l,0,t,h,d,_=>by simp at h;subst h;simp[List.findIdx?_cons,d]
  | a::l,k+1,t,h,d,au=>by have w:=au 0 a U rfl;have:=wx (l:=l) (k:=k) (by simpa using h) d (λj u C hu=>au (j+1) u U (by simpa using hu));simp[List.findIdx?_cons,w,this]
theorem zD{α:Type}{p:α->Bool}{l:List α}(au:∀j u,j<l.length->l[j]? =some u->p u=false):l.findIdx? p=none:=by rw[List.findIdx?_eq_none_iff];intro x d;obtain⟨j,w,rfl⟩:=List.getElem_of_mem d;simp_all
def ints(xs:List Int):List Value:=xs.map (λx=>.int .i64 x)
theorem d7(xs:List Int):(ints xs).length=xs.length:=by simp[ints]
theorem hj{xs:List Int}{i:Nat}{x:Int}(h:xs[i]? =some x):(ints xs)[i*1]? =some (.int .i64 x):=by simp[ints,h]
end Go.QM
namespace Go.QM
open Go
section
variable {r : Option Nat} {P : Program} {N : Nat} {ops : Array Oper} {l : List Oper} {Q : fj} {ah : Env} {aT : List Deferred} {A : aw} {K : Value → aw → Prop}
variable {d : Option Tmp} {ty : TypeId} {ps : String} {bk : Array Edge} {g : Option (Nat × Bool)}
variable {t t' : TypeId} {x y : Operand} {k : IntKind} {a b c : Int}
def rv(P:Program)(t:TypeId)(n E sz:Nat):Bool:=match P.underlying t with
  | some (.array m e)=>Wx m n&&Wx e E&&q7 P e sz
  | _=>false
theorem tN{n E sz:Nat}(h:rv P t n E sz=true)(w:World):(underlying t).run P w=.ok (.array n E) w/\(Go.sizeOf E).run P w=.ok sz w:=by
 unfold rv at h
 cases hu:P.underlying t with
 | none=>rw[hu]at h;cases h
 | some u=>
   rw[hu]at h
   cases u<;>first
     | (cases h;done)
     | (simp only[VP]at h
        obtain⟨⟨d,C⟩,D⟩:=h
        have d:=VA d
        have C:=VA C
        subst d;subst C
        exact⟨by simp[underlying,hu],BS D w⟩)
variable{lL:Nat}
theorem uJ(u:bh ah x=.pointer (some ⟨lL,0,none⟩)):bG P ah ⟨d,.nilCheck x,ty,ps,bk,g⟩ A (gi (some ⟨lL,0,none⟩) 0):=λw _=>by
  simp[execOp,u,gi]
theorem Qe{o:Nat}(u:bh ah x=gi (some ⟨lL,0,none⟩) o):bG P ah ⟨d,.nilCheck x,ty,ps,bk,g⟩ A (gi (some ⟨lL,0,none⟩) o):=λw _=>by
  simp[execOp,u,gi]
theorem n7{s:TypeId}{f u:Nat}(o:Nat)(C:wA P s f o=true)(E:bh ah x=gi (some ⟨lL,0,none⟩) u):bG P ah ⟨d,.fieldAddr s x f,ty,ps,bk,g⟩ A (gi (some ⟨lL,0,none⟩) (u+o)):=λw D=>by
  have:=(c3 (A:=A) (d:=d) (ty:=ty) (ps:=ps) (bk:=bk) (g:=g) o C (show bh ah x=.pointer (some ⟨lL,0+u,none⟩)by rw[E];rfl)) w D
  rw[this];simp[gi,Nat.add_assoc]
variable(n E sz:Nat)
theorem Al{u:Nat}{j:Int}(H:rv P t n E sz=true)(N:bh ah x=gi (some ⟨lL,0,none⟩) u)(O:bh ah y=.int k j)(C:0<=j)(D:j<n):
    bG P ah ⟨d,.indexAddr t x y,ty,ps,bk,g⟩ A (gi (some ⟨lL,0,none⟩) (u+j.toNat*sz)):=λw _=>by
  simp[execOp,XJ,WJ,N,O,asIntOf,tN H,C,D,iG,gi]
theorem lW{off:Nat}{j:Int}(D:rv P t n E sz=true)(H:bh ah x=.pointer (some ⟨lL,off,none⟩))(N:bh ah y=.int k j)(u:0<=j)(C:j<n):
    bG P ah ⟨d,.indexAddr t x y,ty,ps,bk,g⟩ A (.pointer (some ⟨lL,off+j.toNat*sz,none⟩)):=λw _=>by
  simp[execOp,XJ,WJ,H,N,asIntOf,tN D,u,C,iG]
theorem xP{o:Nat}(C:rv P t n E sz=true)(D:bh ah x=gi (some ⟨lL,0,none⟩) o)(u:o=0):
    bG P ah ⟨d,.slice t x none none none,ty,ps,bk,g⟩ A (.slice (some ⟨lL,0,none⟩) n n):=λw _=>by
  subst u
  by_cases au:n=0<;>simp[execOp,Instr.sliceAt,WJ,Instr.sliceBounds,D,tN C,gi,au,iG]
theorem NX{vs ws:List Value}{j:Int}(D:rv P t n E sz=true)(he:qv P E sz=true)(H:bh ah x=.agg vs.toArray)(N:bh ah y=.int k j)(u:0<=j)(C:j<n)(hv:(vs.drop (j.toNat*sz)).take sz=ws):
    bG P ah ⟨d,.index t x y,ty,ps,bk,g⟩ A (.agg ws.toArray):=λw _=>by
  simp[execOp,Instr.index,H,N,asIntOf,tN D,u,C,part,E8 he]
  exact hv
theorem NY{vs:List Value}{v:Value}{j:Int}(D:rv P t n E sz=true)(he:mz P E=true)(H:bh ah x=.agg vs.toArray)(N:bh ah y=.int k j)(u:0<=j)(C:j<n)(hv:vs[j.toNat*sz]? =some v):
    bG P ah ⟨d,.index t x y,ty,ps,bk,g⟩ A v:=λw _=>by
  simp[execOp,Instr.index,H,N,asIntOf,tN D,u,C,part,ut he,hv]
theorem SF{E sz n:Nat}{cs:List Value}(h:cs.length=n*sz)(au:n<=maxLen):aG (aj lL E cs) (a6 E sz (some ⟨lL,0,none⟩) n n cs):=
  ia λd x=>⟨([],[]),⟨rfl,h,Nat.le_refl _,au,by simp[h]⟩,by simpa[aj]using x⟩
def oQ(P:Program)(n:Nat):List Field->Nat->Bool
  | [],m=>Wx m n
  | f :: pO, m => (f.name != "_") && Nat.beq f.offset m && (match P.underlying f.type with | some (.int .i64) => true | _ => false) && oQ P n pO (m + 1)
def rE(P:Program)(t:TypeId)(n:Nat):Bool:=match P.underlying t with
  | some (.struct pO)=>oQ P n pO.toList 0&&!(P.stoodInHeld t)&&!(P.eqGuardType P.depth t)
  | _=>false
theorem D1{n:Nat}{d:Nat}(xs C:List Int)(Q:xs.length=n)(W:C.length=n)(w:World):∀(D:List Field) (m:Nat),m<=n->oQ P n D m=true->
    (Op.eqFields (d+1) (ints xs).toArray (ints C).toArray D).run P w=.ok (decide (xs.drop m=C.drop m)) w
  | [],m,_,h=>by
    have:=VA h
    simp[Op.eqFields,Wt,this,Q,W]
  | f ::D,m,hm,h=>by
    simp only[oQ,VP]at h
    obtain⟨⟨⟨ah,H⟩,E⟩,O⟩:=h
    have H:=VA H
    have hu:P.underlying f.type=some (.int .i64):=by
      cases hu:P.underlying f.type with
      | none=>rw[hu]at E;cases E
      | some u=>rw[hu]at E;cases u<;>first|(cases E;done)|(rename_i k;cases k<;>first|(cases E;done)|rfl)
    have av:m<n:=by
      rcases Nat.lt_or_ge m n with h|h
      · exact h
      · exfalso
        have aq:∀(D:List Field) (m:Nat),n<m->oQ P n D m=true->False:=by
          intro D
          induction D with
          | nil=>intro m hm h;have:=VA h;omega
          | cons f D ar=>intro m hm h;simp only[oQ,VP]at h;exact ar _ U h.2
        exact aq D (m+1) U O
    have V:xs.drop m=xs[m]::xs.drop (m+1):=Xp U
    have Z:C.drop m=C[m]::C.drop (m+1):=Xp U
    have gh:(part f.type (ints xs).toArray f.offset).run P w=.ok (.int .i64 xs[m]) w:=by
      have N:mz P f.type=true:=by simp[mz,hu]
      simp[part,ut N,H,ints,show m<xs.length by omega]
    have hf:(part f.type (ints C).toArray f.offset).run P w=.ok (.int .i64 C[m]) w:=by
      have N:mz P f.type=true:=by simp[mz,hu]
      simp[part,ut N,H,ints,show m<C.length by omega]
    have au : f.name ≠ "_" := by simpa using ah
    simp only[Op.eqFields,au,ne_eq,not_false_eq_true,if_true,Sem.run_bind,gh,hf,Result.andThen_ok,run_equalIn_int w d f.type .i64 .i64 _ _ hu]
    by_cases he:xs[m]=C[m]
    · rw[al (by simp[he]),D1 xs C Q W w D (m+1) U O]
      refine congrArg (λb=>Result.ok b w) (decide_eq_decide.2 ?_)
      rw[V,Z,he]
      exact⟨λh=>by rw[h],λh=>(Xk h).2⟩
    · rw[az (by simp[he]),Sem.run_pure]
      refine congrArg (λb=>Result.ok b w) (db ?_).symm
      rw[V,Z]
      exact λh=>he (Xk h).1
theorem D2{n:Nat}(h:rE P t n=true)(xs C:List Int)(Q:xs.length=n)(V:C.length=n)(w:World):
    (Op.equalIn 10000 t (.agg (ints xs).toArray) (.agg (ints C).toArray)).run P w=.ok (decide (xs=C)) w/\P.eqGuardType P.depth t=false:=by unfold rE at h;cases hu:P.underlying t with|none=>rw[hu]at h;cases h|some u=>rw[hu]at h;(cases u with|struct D=>simp only[VP,Bool.not_eq_true']at h;obtain⟨⟨H,N⟩,O⟩:=h;(have E:P.fieldsOf t=D:=by simp[Program.fieldsOf,hu]);have:=D1 (P:=P) (d:=9998) xs C Q V w D.toList 0 (Nat.zero_le _) H;refine⟨?_,O⟩;rw[run_equalIn_agg w 9999 t _ _ (by rw[E];exact hu) N,E,this];simp|_=>cases h)
theorem Qm{xs u:List Int}(E:rE P t n=true)(H:bh ah x=.agg (ints xs).toArray)(N:bh ah y=.agg (ints u).toArray)(au:xs.length=n)(hm:u.length=n):
    bG P ah ⟨d,.binOp .neq t x y t',ty,ps,bk,g⟩ A (.bool (decide (xs≠u))):=λw _=>by
  obtain⟨C,D⟩:=D2 E xs u au hm w
  simp[execOp,H,N,run_eqGuard_agg w .neq t x y _ _ D,run_neq_struct w t,C]
theorem BH{E:IntKind}{n:Int}(C:bh ah x=.int k a)(D:bh ah y=.int E n)(H:0<=n)(u:k.wrap (a*2^min n.toNat k.bits)=c):
    bG P ah ⟨d,.binOp .shl t x y t',ty,ps,bk,g⟩ A (.int k c):=λw _=>by
  have:¬n<0:=U
  simp[execOp,C,D,eqGuard,binOp,Op.shift,this,u]
theorem Bh(C:bh ah x=.int k a)(D:bh ah y=.int k b)(u:k.wrap (VW k.bits a|||VW k.bits b).toNat=c):
    bG P ah ⟨d,.binOp .or t x y t',ty,ps,bk,g⟩ A (.int k c):=λw _=>by
  simp[execOp,C,D,eqGuard,binOp,Op.intBits]
  simpa using u
theorem vQ(C:bh ah x=.int k a)(D:bh ah y=.int k b)(u:k.wrap (VW k.bits a&&&VW k.bits b).toNat=c):
    bG P ah ⟨d,.binOp .and t x y t',ty,ps,bk,g⟩ A (.int k c):=λw _=>by
  simp[execOp,C,D,eqGuard,binOp,Op.intBits]
  simpa using u
theorem Sr(d:0<=a)(u:a<=16777215):IntKind.u32.wrap (a*2^min (8:Int).toNat IntKind.u32.bits)=a*256:=by
 have e:(2:Int)^min (8:Int).toNat IntKind.u32.bits=256:=an
 grind[re]
theorem QN{q i:Int}(w:0<=q)(D:q<=16777215)(C:0<=i)(E:i<256):IntKind.u32.wrap (VW IntKind.u32.bits (q*256)|||VW IntKind.u32.bits i).toNat=q*256+i:=by have am:IntKind.u32.bits=32:=rfl;obtain⟨q,rfl⟩:=Wh w;obtain⟨i,rfl⟩:=Wh C;have e:(VW IntKind.u32.bits ((q:Int)*256)|||VW IntKind.u32.bits (i:Int)).toNat=q*256+i:=(by rw[BitVec.toNat_or,Xl,Xl,am];(have d:(((q:Int)*256) %((2^32:Nat):Int)).toNat=2^8*q:=by omega);(have u:((i:Int) %((2^32:Nat):Int)).toNat=i:=by omega);rw[d,u,<-Nat.two_pow_add_eq_or_of_lt U];omega);grind[re]
theorem C5{z:Int}(w:0<=z)(C:z<=4294967295):IntKind.u32.wrap (VW IntKind.u32.bits z&&&VW IntKind.u32.bits 255).toNat=z %256:=by have am:IntKind.u32.bits=32:=rfl;obtain⟨z,rfl⟩:=Wh w;have e:(VW IntKind.u32.bits (z:Int)&&&VW IntKind.u32.bits 255).toNat=z %256:=(by rw[BitVec.toNat_and,Xl,Xl,am];(have d:((z:Int) %((2^32:Nat):Int)).toNat=z:=by omega);(have u:((255:Int) %((2^32:Nat):Int)).toNat=2^8-1:=by decide);rw[d,u,Nat.and_two_pow_sub_one_eq_mod]);grind[re]
end
theorem fl{P:Program}{d:Env}{A:aw}{t a n b off E:Nat}{u:Nat×Nat}{l vs:List Value}(H:qv P t n=true)(C:d a=.pointer (some ⟨b,off,none⟩))[h:gb A b (.cells l.toArray E u)](hv:(l.drop off).take n=vs)(au:vs.length=n):
    ∃b off,d a=.pointer (some ⟨b,off,none⟩)/\∀w,sat w A->(loadVar t ⟨b,off,none⟩).run P w=.ok (.agg vs.toArray) w:=
  ⟨b,off,C,λ_ D=>AE H (h.rd.sat D) hv au⟩
theorem Hb{P:Program}{d:Env}{A:aw}{t a b off E:Nat}{u:Nat×Nat}{l:List Value}{v:Value}(H:mz P t=true)(C:d a=.pointer (some ⟨b,off,none⟩))[h:gb A b (.cells l.toArray E u)](hv:l[off]? =some v):
    ∃b off,d a=.pointer (some ⟨b,off,none⟩)/\∀w,sat w A->(loadVar t ⟨b,off,none⟩).run P w=.ok v w:=
  ⟨b,off,C,λ_ D=>AF H (h.rd.sat D) hv⟩
theorem pM{α:Type}{enc:α->List Value}{sz:Nat}(h:∀a,(enc a).length=sz){xs:List α}{i:Nat}{a:α}(d:xs[i]? =some a){o:Nat}(j:Nat)(w:o=i*sz+j){v:Value}(u:(enc a)[j]? =some v):(xs.flatMap enc)[o]? =some v:=by grind[ui]
theorem k9{α:Type}{enc:α->List Value}{sz:Nat}(h:∀a,(enc a).length=sz){xs:List α}{i:Nat}{a:α}(d:xs[i]? =some a){o:Nat}(j m:Nat)(w:o=i*sz+j)(hm:j+m<=sz){vs:List Value}(u:((enc a).drop j).take m=vs):
    ((xs.flatMap enc).drop o).take m=vs:=by subst w u;have C:=nt h d;grind[List.drop_take,List.drop_drop]
theorem sL{α:Type}{enc:α->List Value}{sz:Nat}(h:∀a,(enc a).length=sz){xs:List α}{i:Nat}{a a':α}(w:xs[i]? =some a){o:Nat}(j:Nat){vs:List Value}(C:o=i*sz+j)(hm:j+vs.length<=sz)(u:enc a'=dN j vs (enc a)):
    dN o vs (xs.flatMap enc)=(xs.set i a').flatMap enc:=by
 subst C;have O:=(List.getElem?_eq_some_iff.1 w).1;have E:xs=xs.take i++a::xs.drop (i+1):=(by grind[List.take_append_drop,Xp]);have D:xs.set i a'=xs.take i++a'::xs.drop (i+1):=cv
 have d:((xs.take i).flatMap enc).length=i*sz:=by grind[kF]
 rw[D];conv=>lhs;rw[E]
 simp only[List.flatMap_append,List.flatMap_cons,dN,u];have H:((xs.take i).flatMap enc++(enc a++(xs.drop (i+1)).flatMap enc)).take (i*sz+j)=(xs.take i).flatMap enc++(enc a).take j:=(by rw[List.take_append,d,Nat.add_sub_cancel_left,List.take_of_length_le U,List.take_append_of_le_length (by rw[h];omega)]);have N:((xs.take i).flatMap enc++(enc a++(xs.drop (i+1)).flatMap enc)).drop (i*sz+j+vs.length)=(enc a).drop (j+vs.length)++(xs.drop (i+1)).flatMap enc:=(by rw[List.drop_append,d,Wt U,List.nil_append,show i*sz+j+vs.length-i*sz=j+vs.length by omega,List.drop_append_of_le_length (by rw[h];omega)]);grind
end Go.QM
namespace Go.QM
open Go
section
variable {α : Type} [DecidableEq α]
def kE(a:α):List (α×Value)->Nat->Option (Nat×Value)
  | [],_=>none
  | t::m,i=>if a=t.1 then some (i,t.2)else kE a m (i+1)
def fK(a:α):List (α×Value)->Option Value
  | []=>none
  | t::m=>if a=t.1 then some t.2 else fK a m
def iZ(a:α)(v:Value):List (α×Value)->List (α×Value)
  | []=>[(a,v)]
  | t::m=>if a=t.1 then(a,v)::m else t::iZ a v m
def iS(a:α):List (α×Value)->List (α×Value)
  | []=>[]
  | t::m=>if a=t.1 then m else t::iS a m
theorem ug{a:α}:∀{m:List (α×Value)} {i:Nat},kE a m i=none->fK a m=none/\(∀v,iZ a v m=m++[(a,v)])/\iS a m=m
  | [],_,_=>⟨rfl,λ_=>rfl,rfl⟩
  | t::m,i,h=>by unfold kE at h;split at h;cases h;rename_i d;obtain⟨u,w,C⟩:=ug h;exact⟨by rw[fK,al d,u],λv=>by rw[iZ,al d,w];rfl,by rw[iS,al d,C]⟩
theorem uh{a:α}:∀{m:List (α×Value)} {i j:Nat} {v:Value},kE a m i=some (j,v)->∃k,j=i+k/\m[k]? =some (a,v)/\fK a m=some v/\(∀u,iZ a u m=m.set k (a,u))/\iS a m=m.eraseIdx k
  | [],_,_,_,h=>by cases h
  | t::m,i,j,v,h=>by unfold kE at h;split at h;rename_i he;cases h;refine⟨0,rfl,?_,by rw[fK,az he],λu=>by rw[iZ,az he];rfl,by rw[iS,az he];rfl⟩;obtain⟨x,y⟩:=t;simp only at he;subst he;rfl;rename_i d;obtain⟨k,H,w,C,D,E⟩:=uh h;exact⟨k+1,by omega,w,by rw[fK,al d,C],λu=>by rw[iZ,al d,D];rfl,by rw[iS,al d,E];rfl⟩
structure dP(P:Program)(hZ:TypeId)(enc:α->Value):Prop where
  n2:∀(kD:Bool) (a:α) (w:World),(XU kD 10000 hZ (enc a)).run P w=.ok () w
  find:∀(a:α) (m:List (α×Value)) (es:List MapEntry) (w:World),es.map (λe=>(e.key,e.val))=m.map (λt=>(enc t.1,t.2))->(Instr.findKey hZ (enc a) es).run P w=.ok (kE a m 0) w
  same:∀a:α,Instr.sameBits 10000 (enc a) (enc a)=true
end
def encI(x:Int):Value:=.int .i64 x
theorem dP.int{P:Program}{u:TypeId}(h:P.underlying u=some (.int .i64)):dP P u encI where
  n2:=λkD a w=>by
    unfold XU
    simp[underlying,h,encI]
  find := λa m es w he=>by
    have key:∀(m:List (Int×Value)) (es:List MapEntry) (i:Nat),es.map (λe=>(e.key,e.val))=m.map (λt=>(encI t.1,t.2))->XK (.int .i64) (encI a) es i=some (kE a m i):=by
      intro m
      induction m with
      | nil=>intro es i he;cases es with|nil=>rfl|cons e es=>simp at he
      | cons t m H=>
        intro es i he
        cases es with
        | nil=>simp at he
        | cons e es=>
          simp only[VM,List.cons.injEq,Xw]at he
          obtain⟨⟨C,D⟩,E⟩:=he
          rw[XK,C]
          simp only[encI,Instr.sameNow,if_true,kE]
          by_cases d:a=t.1
          · simp[d,D]
          · have:(a==t.1)=false:=by simpa using d
            simp only[this,al d]
            exact H es (i+1) E
    simp[Instr.findKey,underlying,h,key m es 0 he]
  same:=λa=>by simp[Instr.sameBits,encI]
def jl(es:Array MapEntry)(aO:Nat):Prop:=(∀e∈es.toList,e.born<aO)/\(es.toList.map (·.born)).Nodup
theorem jl.push{es:Array MapEntry}{aO:Nat}(h:jl es aO){k v:Value}:jl (es.push {key:=k,val:=v,born:=aO}) (aO+1):=by refine⟨λe he=>?_,?_⟩;rw[Array.toList_push,List.mem_append,Vc]at he;rcases he with he|rfl;have:=h.1 e he;omega;simp_all;rw[Array.toList_push,List.map_append,VH];refine⟨h.2,by simp,λa d c w e=>?_⟩;obtain⟨u,hu,rfl⟩:=Vn.1 d;have:=h.1 u hu;simp_all
theorem jl.modify{es:Array MapEntry}{aO:Nat}(h:jl es aO)(j:Nat)(f:MapEntry->MapEntry)(C:∀e,(f e).born=e.born):jl (es.modify j f) aO:=by
 have hm:(es.modify j f).toList.map (·.born)=es.toList.map (·.born):=(by rw[Array.toList_modify];apply Yp;grind);refine⟨λe he=>?_,by rw[hm];exact h.2⟩;have d:e.born∈(es.modify j f).toList.map (·.born):=cv
 rw[hm]at d;obtain⟨u,hu,w⟩:=Vn.1 d;rw[<-w];exact h.1 u hu
theorem jl.erase{es:Array MapEntry}{aO:Nat}(h:jl es aO)(j:Nat):jl (es.eraseIdxIfInBounds j) aO:=by have d:(es.eraseIdxIfInBounds j).toList.Sublist es.toList:=(by grind[Array.toList_eraseIdx]);exact⟨λe he=>h.1 e (d.subset he),h.2.sublist (d.map _)⟩
def Aj{α:Type}(enc:α->Value)(m:List (α×Value))(o:Obj):Prop:=∃es aO,o=.map es aO/\es.toList.map (λe=>(e.key,e.val))=m.map (λt=>(enc t.1,t.2))/\jl es aO
def nE{α:Type}(enc:α->Value)(b:Nat)(m:List (α×Value)):aw:=eQ λo:Obj=>pure' (Aj enc m o) (obj b o)
def ss{α:Type}(A:aw)(b:Nat)(enc:α->Value)(m:List (α×Value)):Prop:=∀h,A h->∃o,h b=some o/\Aj enc m o
theorem yC{α:Type}(enc:α->Value)(b:Nat)(m:List (α×Value)):ss (nE enc b m) b enc m:=λh ⟨o,d,u⟩=>⟨o,by rw[u];simp,d⟩
theorem CK{α:Type}{A B:aw}{b:Nat}{enc:α->Value}{m:List (α×Value)}(x:ss A b enc m):ss (sep A B) b enc m:=by rintro h ⟨a,c,d,rfl,C,am⟩;obtain⟨o,u,w⟩:=x a C;exact⟨o,qL a c b o u,w⟩
class vJ(A:aw)(b:Nat)(α:outParam Type)(enc:outParam (α->Value))(m:outParam (List (α×Value))):Prop where
  rd:ss A b enc m
class yH(hs:List aw)(b:Nat)(α:outParam Type)(enc:outParam (α->Value))(m:outParam (List (α×Value)))(r:outParam (List aw)):Prop where
  tk:∃i,eX i hs=some (nE enc b m,r)
instance {α:Type}(enc:α->Value)(b:Nat)(m:List (α×Value))(r:List aw):yH (nE enc b m::r) b α enc m r:=⟨0,rfl⟩
theorem ss.sat{α:Type}{A:aw}{b:Nat}{enc:α->Value}{m:List (α×Value)}(x:ss A b enc m){w:World}(h:QM.sat w A):∃es aO,w.heap[b]? =some (.map es aO)/\es.toList.map (λe=>(e.key,e.val))=m.map (λt=>(enc t.1,t.2))/\jl es aO:=by obtain⟨u,E,d⟩:=h;obtain⟨o,C,es,aO,rfl,D⟩:=x u d;grind
theorem AI{β d:Type}(f:β->d):∀(l:List β) (j:Nat),(l.eraseIdx j).map f=(l.map f).eraseIdx j
  | [],_=>by simp
  | _::_,0=>by simp
  | a::l,j+1=>by simp[AI f l j]
section
variable {α : Type} {enc : α → Value} {m : List (α × Value)}
variable {r : Option Nat} {P : Program} {ah : Env} {A : aw} {K : Value → aw → Prop}
variable {d : Option Tmp} {ty : TypeId} {ps : String} {bk : Array Edge} {g : Option (Nat × Bool)}
variable {t : TypeId} {x : Operand}
def mr(P:Program)(t hZ e:TypeId):Bool:=match P.underlying t with
  | some (.map k v)=>Wx k hZ&&Wx v e
  | _=>false
theorem o1{d e:TypeId}(h:mr P t d e=true)(w:World):(underlying t).run P w=.ok (.map d e) w:=by unfold mr at h;cases hu:P.underlying t with|none=>rw[hu]at h;cases h|some u=>rw[hu]at h;(cases u<;>first|(cases h;done)|(simp only[Bool.and_eq_true]at h;have C:=VA h.1;have D:=VA h.2;subst C;subst D;simp[underlying,hu]))
theorem PT{hs:List aw}(enc:α->Value)(k:∀b,K (.map (some b)) (ag (nE enc b []::hs))):cq r P ah ⟨d,.makeMap t none,ty,ps,bk,g⟩ (ag hs) K:=
  cq.run rfl λw C=>⟨.map (some w.heap.size),w.alloc (.map #[] 0),_,.inl rfl,⟨rfl,rfl,rfl,by simp⟩,
    (nK _ C).bf (dv (ia λh u=>⟨_,⟨#[],0,rfl,rfl,⟨λ_ h=>(by cases h),List.nodup_nil⟩⟩,u⟩) (VJ _)),k w.heap.size⟩
theorem xJ{w:World}{b:Nat}{m':List (α×Value)}{es es':Array MapEntry}{aO pF:Nat}{hs rest:List aw}(W:sat w (ag hs))(d:∃i,eX i hs=some (nE enc b m,rest))(am:w.heap[b]? =some (.map es aO))
    (D:es'.toList.map (λe=>(e.key,e.val))=m'.map (λt=>(enc t.1,t.2))) (N:jl es' pF):sat {w with heap:=w.heap.setIfInBounds b (.map es' pF)} (ag (nE enc b m'::rest)):=by
 obtain⟨i,d⟩:=d;obtain⟨u,Z,p,q,C,rfl,⟨o,ah,Q⟩,V⟩:=W.bf (fO d);have E:sat w (sep (obj b o) (ag rest)):=⟨_,Z,p,q,C,rfl,Q,V⟩;have P:b<w.heap.size:=cv
 have H:sat {w with heap:=w.heap.setIfInBounds b (.map es' pF)} (sep (obj b (.map es' pF)) (ag rest)):=
   u5 E (by show(w.heap.setIfInBounds b _)[b]? =_;rw[Array.getElem?_setIfInBounds_self_of_lt P]) (λj O=>by show(w.heap.setIfInBounds b _)[j]? =_;rw[Array.getElem?_setIfInBounds_ne (Ne.symm O)])
 exact H.bf (dv (ia λh u=>⟨_,⟨es',pF,rfl,D,N⟩,u⟩) (VJ _))
theorem Pz(N e:TypeId){b:Nat}(E:mr P t N e=true)(H:bh ah x=.map (some b))[hr:vJ A b α enc m]:
    bG P ah ⟨d,.call ⟨.builtin .len,#[x],#[t]⟩,ty,ps,bk,g⟩ A (.int .i64 m.length):=λw D=>by
  obtain⟨es,aO,u,C,O⟩:=hr.rd.sat D
  have hlen:es.size=m.length:=by simpa using congrArg WZ C
  simp[execOp,resolve,invoke,builtin,Builtin.len_,H,o1 E,V0 u,goInt,hlen]
end
section
variable {α : Type} [DecidableEq α] {enc : α → Value} {m : List (α × Value)}
variable {r : Option Nat} {P : Program} {N : Nat} {ops : Array Oper} {l : List Oper} {Q : fj} {ah : Env} {aT : List Deferred} {A : aw} {K : Value → aw → Prop}
variable {d : Option Tmp} {ty : TypeId} {ps : String} {bk : Array Edge} {g : Option (Nat × Bool)}
variable {t t' : TypeId} {x y z : Operand} {k : IntKind}
variable{a:α}
theorem PF(V e:TypeId){b:Nat}{W:Value}(N:mr P t V e=true)(ar:ly P e=some W)(D:dP P V enc)(O:bh ah x=.map (some b))(Q:bh ah y=enc a)[hr:vJ A b α enc m]:
    bG P ah ⟨d,.lookup t x y false,ty,ps,bk,g⟩ A ((fK a m).getD W):=λw aq=>by
  obtain⟨es,aO,E,Z,au⟩:=hr.rd.sat aq
  have H:=D.find a m es.toList w Z
  cases u:kE a m 0 with
  | none=>
    obtain⟨C,_⟩:=ug u
    simp[execOp,X9,O,Q,o1 N,V0 E,D.n2,H,u,C,vw ar]
  | some p=>
    obtain⟨j,v⟩:=p
    obtain⟨_,_,_,C,_⟩:=uh u
    simp[execOp,X9,O,Q,o1 N,V0 E,D.n2,H,u,C]
theorem PG(V e:TypeId){b:Nat}{W:Value}(N:mr P t V e=true)(ar:ly P e=some W)(D:dP P V enc)(O:bh ah x=.map (some b))(Q:bh ah y=enc a)[hr:vJ A b α enc m]:
    bG P ah ⟨d,.lookup t x y true,ty,ps,bk,g⟩ A (.tuple #[(fK a m).getD W,.bool (fK a m).isSome]):=λw aq=>by
  obtain⟨es,aO,E,Z,au⟩:=hr.rd.sat aq
  have H:=D.find a m es.toList w Z
  cases u:kE a m 0 with
  | none=>
    obtain⟨C,_⟩:=ug u
    simp[execOp,X9,O,Q,o1 N,V0 E,D.n2,H,u,C,vw ar]
  | some p=>
    obtain⟨j,v⟩:=p
    obtain⟨_,_,_,C,_⟩:=uh u
    simp[execOp,X9,O,Q,o1 N,V0 E,D.n2,H,u,C]
theorem P8{hs rest:List aw}(av e:TypeId){b:Nat}{v:Value}(aq:mr P t av e=true)(E:dP P av enc)(ar:bh ah x=.map (some b))(au:bh ah y=enc a)(hv:bh ah z=v)[N:yH hs b α enc m rest]
    (k:K undef (ag (nE enc b (iZ a v m)::rest))):cq r P ah ⟨d,.mapUpdate t x y z,ty,ps,bk,g⟩ (ag hs) K:=by refine cq.run rfl λw O=>?_;obtain⟨i,aD⟩:=N.tk;obtain⟨es,aO,u,C,Q⟩:=(CK (yC enc b m)).sat (O.bf (fO aD));have V:=E.find a m es.toList w C;cases D:kE a m 0 with|none=>obtain⟨_,H,_⟩:=ug D;refine⟨undef,{w with heap:=w.heap.setIfInBounds b (.map (es.push {key:=enc a,val:=v,born:=aO}) (aO+1))},_,.inr ⟨?_,rfl⟩,⟨rfl,rfl,rfl,?_⟩,xJ (m':=iZ a v m) (es':=es.push {key:=enc a,val:=v,born:=aO}) (pF:=aO+1) O N.tk u (by rw[H];simp[C]) Q.push,k⟩;simp[execOp,Instr.mapUpdate,ar,au,hv,o1 aq,V0 u,E.n2,V,D,WS _ u];simp|some p=>obtain⟨j,v0⟩:=p;obtain⟨n,aT,H,_,aB,_⟩:=uh D;(have aI:j=n:=by omega);subst aI;have Z:((es.toList[j]?).map (·.key))=some (enc a):=(by have:=congrArg (λl=>l[j]?) C;simp only[XB,H,WM]at this;cases he:es.toList[j]? with|none=>rw[he]at this;cases this|some et=>rw[he]at this;simp only[WM,WQ,Xw]at this;simp[this.1]);have aJ:(Instr.keyThatStays (((es[j]?).map (·.key)).getD (enc a)) (enc a)).run P w=.ok (enc a) w:=(by(have:es[j]? =es.toList[j]? :=by simp);rw[this,Z];simp[Instr.keyThatStays,E.same a]);refine⟨undef,{w with heap:=w.heap.setIfInBounds b (.map (es.modify j λe=>{e with key:=enc a,val:=v}) aO)},_,.inr ⟨?_,rfl⟩,⟨rfl,rfl,rfl,?_⟩,xJ (m':=iZ a v m) (es':=es.modify j λe=>{e with key:=enc a,val:=v}) (pF:=aO) O N.tk u ?_ (Q.modify j _ λ_=>rfl),k⟩;simp[execOp,Instr.mapUpdate,ar,au,hv,o1 aq,V0 u,E.n2,V,D,aJ,WS _ u];simp;rw[aB,List.map_set,<-C,Array.toList_modify];apply Yp;intro i;simp only[XB,List.getElem?_modify,List.getElem?_set,List.length_map];by_cases W:j=i;subst W;(cases he:es.toList[j]? with|none=>simp[he]at Z|some et=>have:=(Vl.1 he).1;simp;simpa using this);simp[W]
theorem LW{hs rest:List aw}(au e:TypeId){b:Nat}{av:Array TypeId}(W:mr P t au e=true)(N:dP P au enc)(aq:bh ah x=.map (some b))(ar:bh ah y=enc a)(Z:av[0]? =some t)[H:yH hs b α enc m rest]
    (k:K (.tuple #[]) (ag (nE enc b (iS a m)::rest))):cq r P ah ⟨d,.call ⟨.builtin .delete,#[x,y],av⟩,ty,ps,bk,g⟩ (ag hs) K:=by refine cq.run rfl λw O=>?_;obtain⟨i,aD⟩:=H.tk;obtain⟨es,aO,u,C,Q⟩:=(CK (yC enc b m)).sat (O.bf (fO aD));have V:=N.find a m es.toList w C;cases D:kE a m 0 with|none=>obtain⟨_,_,E⟩:=ug D;refine⟨.tuple #[],{w with heap:=w.heap.setIfInBounds b (.map es aO)},_,.inl ?_,⟨rfl,rfl,rfl,?_⟩,xJ (m':=iS a m) (es':=es) (pF:=aO) O H.tk u (by rw[E];exact C) Q,k⟩;simp[execOp,resolve,invoke,builtin,Builtin.delete_,aq,ar,Z,o1 W,V0 u,N.n2,V,D,WS _ u];simp|some p=>obtain⟨j,v0⟩:=p;obtain⟨n,aT,E,_,_,aB⟩:=uh D;(have aJ:j=n:=by omega);subst aJ;(have hlen:es.size=m.length:=by simpa using congrArg WZ C);(have aI:j<es.size:=by rw[hlen];exact(Vl.1 E).1);refine⟨.tuple #[],{w with heap:=w.heap.setIfInBounds b (.map (es.eraseIdxIfInBounds j) aO)},_,.inl ?_,⟨rfl,rfl,rfl,?_⟩,xJ (m':=iS a m) (es':=es.eraseIdxIfInBounds j) (pF:=aO) O H.tk u ?_ (Q.erase j),k⟩;simp[execOp,resolve,invoke,builtin,Builtin.delete_,aq,ar,Z,o1 W,V0 u,N.n2,V,D,WS _ u];simp;rw[aB,AI,<-C,<-AI];simp[Array.eraseIdxIfInBounds,aI]
end
end Go.QM
namespace Go.QM
open Go
class sr(cs:List Value)(cap j sz:Nat):Prop where
  n:∃n,cs.length=n*sz/\j<=n/\n<=cap
instance (A:aw)(ad:Option Addr)(cap j sz E:Nat)(cs:List Value)[hr:bn A ad E cs][h:sr cs cap j sz]:bn A (dM ad cap j sz) E (cs.drop (j*sz)):=⟨by
  obtain⟨n,gH,gI,gJ⟩:=h.n
  exact CM hr.rd gH gI gJ⟩
section
variable {r : Option Nat} {P : Program} {N : Nat} {ops : Array Oper} {l : List Oper} {Q : fj} {ah : Env} {aT : List Deferred} {A : aw} {K : Value → aw → Prop}
variable {d : Option Tmp} {ty : TypeId} {ps : String} {bk : Array Edge} {g : Option (Nat × Bool)}
variable {t t' : TypeId} {x y z : Operand} {k : IntKind}
theorem ot(E sz i:Nat){ad:Option Addr}{n cap:Nat}{j:Int}(w:hq P t E sz=true)(C:bh ah x=.slice ad n cap)(D:bh ah y=.int .i64 j)(u:j=(i:Int))(H:i<=n):
    bG P ah ⟨d,.slice t x (some y) none none,ty,ps,bk,g⟩ A (.slice (dM ad cap i sz) (n-i) (cap-i)):=by subst u;have:=HF (A:=A) (d:=d) (ty:=ty) (ps:=ps) (bk:=bk) (g:=g) E sz w C D U U;trivial
theorem nM(E sz i:Nat){ad:Option Addr}{n cap:Nat}{j:Int}(w:hq P t E sz=true)(C:bh ah x=.slice ad n cap)(D:bh ah y=.int .i64 j)(u:j=(i:Int))(H:i<=cap):
    bG P ah ⟨d,.slice t x none (some y) none,ty,ps,bk,g⟩ A (.slice ad i cap):=by subst u;have:=SE (A:=A) (d:=d) (ty:=ty) (ps:=ps) (bk:=bk) (g:=g) E sz w C D U U;trivial
end
class vM(hs:List aw)(A:aw)(r:outParam (List aw)):Prop where
  tk:∃i,eX i hs=some (A,r)
instance (priority:=100)(B:aw)(hs:List aw)(A:aw)(r:List aw)[h:vM hs A r]:vM (B::hs) A (B::r):=⟨by
  obtain⟨i,pQ⟩:=h.tk
  exact⟨i+1,by simp[eX,pQ]⟩⟩
instance (priority:=200)(A:aw)(r:List aw):vM (A::r) A r:=⟨0,rfl⟩
class eF(hs pre:List aw)(rest:outParam (List aw)):Prop where
  p:ky hs pre rest
instance (hs:List aw):eF hs [] hs:=⟨ez hs⟩
instance (hs r pre rest:List aw)(A:aw)[h:vM hs A r][k:eF r pre rest]:eF hs (A::pre) rest:=⟨by
  obtain⟨i,pQ⟩:=h.tk
  exact d8 i pQ k.p⟩
section
variable {α : Type} [DecidableEq α]
def fo(f:α->Option Value)(a:α)(v:Value):α->Option Value:=λx=>if x=a then some v else f x
def gd(f:α->Option Value)(a:α):α->Option Value:=λx=>if x=a then none else f x
structure k0(f:α->Option Value)(n:Nat)(m:List (α×Value)):Prop where
  bC:(m.map (·.1)).Nodup
  o0:∀a,fK a m=f a
  n:m.length=n
theorem AD{a:α}:∀{m:List (α×Value)},fK a m=none↔a∉m.map (·.1)
  | []=>by simp[fK]
  | t::m=>by simp only[fK,VM,Vp,not_or];split;rename_i h;simp[h];rename_i h;rw[AD];simp[h]
theorem FH(a b:α)(v:Value):∀(m:List (α×Value)),fK a (iZ b v m)=if a=b then some v else fK a m
  | []=>by simp only[iZ,fK]
  | t::m=>by simp only[iZ];by_cases h:b=t.1;rw[az h];simp only[fK];by_cases d:a=b;rw[az d,az d];rw[al d,al d,al (by rw[<-h];exact d)];rw[al h];simp only[fK];by_cases d:a=t.1;rw[az d,az d,al (by rw[d];exact λe=>h e.symm)];rw[al d,al d];exact FH a b v m
theorem Fl(b:α)(v:Value):∀(m:List (α×Value)),(iZ b v m).map (·.1)=if b∈m.map (·.1)then m.map (·.1)else m.map (·.1)++[b]
  | []=>by simp[iZ]
  | t::m=>by simp only[iZ];by_cases h:b=t.1;rw[az h];simp[h];rw[al h];simp only[VM,Fl b v m,Vp];by_cases d:b∈m.map (·.1);rw[az d,az (.inr d)];rw[al d,al (by simp[h,d])];rfl
theorem FG(a b:α):∀(m:List (α×Value)),(m.map (·.1)).Nodup->fK a (iS b m)=if a=b then none else fK a m
  | [],_=>by simp[iS,fK]
  | t::m,au=>by simp only[VM,List.nodup_cons]at au;simp only[iS];by_cases h:b=t.1;rw[az h];by_cases d:a=b;rw[az d,AD,d,h];exact au.1;rw[al d];simp only[fK];rw[al (by rw[<-h];exact d)];rw[al h];simp only[fK];by_cases d:a=t.1;rw[az d,az d,al (by rw[d];exact λe=>h e.symm)];rw[al d,al d];exact FG a b m au.2
theorem Fk(b:α):∀(m:List (α×Value)),((iS b m).map (·.1)).Sublist (m.map (·.1))
  | []=>by simp[iS]
  | t::m=>by simp only[iS];by_cases h:b=t.1;rw[az h];simp;rw[al h];simp only[VM];exact(Fk b m).cons_cons _
theorem DO(b:α):∀(m:List (α×Value)),(iS b m).length=if(fK b m).isSome then m.length-1 else m.length
  | []=>rfl
  | t::m=>by
   by_cases h:b=t.1;have d:fK b (t::m)=some t.2:=by simp only[fK];rw[az h]
   have u:iS b (t::m)=m:=by simp only[iS];rw[az h]
   rw[d,u];rfl;have d:fK b (t::m)=fK b m:=by simp only[fK];rw[al h]
   have u:iS b (t::m)=t::iS b m:=by simp only[iS];rw[al h]
   rw[d,u,VB,DO b m];split;rename_i w;have:m≠[]:=by intro e;subst e;simp[fK]at w
   have:=List.length_pos_iff.2 this;simp only[VB];omega;rfl
theorem IE(b:α)(v:Value):∀(m:List (α×Value)),(iZ b v m).length=if(fK b m).isSome then m.length else m.length+1
  | []=>rfl
  | t::m=>by
   by_cases h:b=t.1;have d:fK b (t::m)=some t.2:=by simp only[fK];rw[az h]
   have u:iZ b v (t::m)=(b,v)::m:=by simp only[iZ];rw[az h]
   rw[d,u];rfl;have d:fK b (t::m)=fK b m:=by simp only[fK];rw[al h]
   have u:iZ b v (t::m)=t::iZ b v m:=by simp only[iZ];rw[al h]
   rw[d,u,VB,IE b v m];split<;>rfl
theorem k0.up{f:α->Option Value}{n:Nat}{m:List (α×Value)}(h:k0 f n m)(a:α)(v:Value):k0 (fo f a v) (if(f a).isSome then n else n+1) (iZ a v m) where
  bC:=by
    rw[Fl]
    split
    · exact h.bC
    · rename_i u
      rw[VH]
      refine⟨h.bC,by simp,?_⟩
      intro x w y d e
      simp only[Vc]at d
      subst d;subst e;exact u w
  o0:=λx=>by rw[FH,fo,h.o0]
  n:=by rw[IE,h.o0,h.n]
theorem k0.dl{f:α->Option Value}{n:Nat}{m:List (α×Value)}(h:k0 f n m)(a:α):k0 (gd f a) (if(f a).isSome then n-1 else n) (iS a m) where
  bC:=h.bC.sublist (Fk a m)
  o0:=λx=>by rw[FG _ _ _ h.bC,gd,h.o0]
  n:=by rw[DO,h.o0,h.n]
end
def bP{α:Type}[DecidableEq α](enc:α->Value)(b:Nat)(f:α->Option Value)(n:Nat):aw:=eQ λm:List (α×Value)=>pure' (k0 f n m) (nE enc b m)
def qq{α:Type}[DecidableEq α](A:aw)(b:Nat)(enc:α->Value)(f:α->Option Value)(n:Nat):Prop:=∀h,A h->∃m,k0 f n m/\∃o,h b=some o/\Aj enc m o
section
variable {α : Type} [DecidableEq α] {enc : α → Value} {f : α → Option Value} {n b : Nat}
theorem JT:qq (bP enc b f n) b enc f n:=λ_ ⟨m,hm,d⟩=>⟨m,hm,yC enc b m _ d⟩
theorem JS{A B:aw}(x:qq A b enc f n):qq (sep A B) b enc f n:=by rintro h ⟨a,c,d,rfl,C,am⟩;obtain⟨m,hm,o,u,w⟩:=x a C;exact⟨m,hm,o,qL a c b o u,w⟩
theorem JU{A B:aw}(x:qq B b enc f n):qq (sep A B) b enc f n:=by rintro h ⟨a,c,d,rfl,C,am⟩;obtain⟨m,hm,o,u,w⟩:=x c am;exact⟨m,hm,o,uq d b o u,w⟩
end
class qr(A:aw)(b:Nat){α:outParam Type}[outParam (DecidableEq α)](enc:outParam (α->Value))(f:outParam (α->Option Value))(n:outParam Nat):Prop where
  rd:qq A b enc f n
section
variable {α : Type} [DecidableEq α]
instance (enc:α->Value)(b:Nat)(f:α->Option Value)(n:Nat):qr (bP enc b f n) b enc f n:=⟨JT⟩
instance (A:aw)(l:List aw)(b:Nat)(enc:α->Value)(f:α->Option Value)(n:Nat)[h:qr (ag l) b enc f n]:qr (ag (A::l)) b enc f n:=⟨JU h.rd⟩
instance (A:aw)(l:List aw)(b:Nat)(enc:α->Value)(f:α->Option Value)(n:Nat)[h:qr A b enc f n]:qr (ag (A::l)) b enc f n:=⟨JS h.rd⟩
end
class sw(hs:List aw)(b:Nat){α:outParam Type}[outParam (DecidableEq α)](enc:outParam (α->Value))(f:outParam (α->Option Value))(n:outParam Nat)(r:outParam (List aw)):Prop where
  tk:∃i,eX i hs=some (bP enc b f n,r)
section
variable {α : Type} [DecidableEq α]
instance (enc:α->Value)(b:Nat)(f:α->Option Value)(n:Nat)(r:List aw):sw (bP enc b f n::r) b enc f n r:=⟨0,rfl⟩
instance (A:aw)(hs:List aw)(b:Nat)(enc:α->Value)(f:α->Option Value)(n:Nat)(r:List aw)[h:sw hs b enc f n r]:sw (A::hs) b enc f n (A::r):=⟨by
  obtain⟨i,pQ⟩:=h.tk
  exact⟨i+1,by simp[eX,pQ]⟩⟩
end
section
variable {α : Type} [DecidableEq α] {enc : α → Value} {f : α → Option Value} {n : Nat}
variable {r : Option Nat} {P : Program} {N : Nat} {ops : Array Oper} {l : List Oper} {Q : fj} {ah : Env} {aT : List Deferred} {A : aw} {K : Value → aw → Prop}
variable {d : Option Tmp} {ty : TypeId} {ps : String} {bk : Array Edge} {g : Option (Nat × Bool)}
variable {t t' : TypeId} {x y z : Operand}
variable{b:Nat}
theorem qq.at(hr:qq A b enc f n){w:World}(hs:QM.sat w A):∃(B:aw) (m:List (α×Value)),k0 f n m/\QM.sat w B/\vJ B b α enc m:=by obtain⟨d,E,D⟩:=hs;obtain⟨m,hm,o,u,C⟩:=hr d D;exact⟨λh=>h=d,m,hm,⟨d,E,rfl⟩,⟨λh e=>by subst e;exact⟨o,u,C⟩⟩⟩
variable(hZ:TypeId){a:α}
theorem ko(e:TypeId){u:Value}(H:mr P t hZ e=true)(Q:ly P e=some u)(C:dP P hZ enc)(N:bh ah x=.map (some b))(O:bh ah y=enc a)[hr:qr A b enc f n]:
    bG P ah ⟨d,.lookup t x y false,ty,ps,bk,g⟩ A ((f a).getD u):=λw D=>by
  obtain⟨B,m,hm,E,V⟩:=hr.rd.at D
  have:=(PF (A:=B) (d:=d) (ty:=ty) (ps:=ps) (bk:=bk) (g:=g) hZ e H Q C N O) w E
  rwa[hm.o0]at this
theorem FM(e:TypeId){u:Value}(H:mr P t hZ e=true)(Q:ly P e=some u)(C:dP P hZ enc)(N:bh ah x=.map (some b))(O:bh ah y=enc a)[hr:qr A b enc f n]:
    bG P ah ⟨d,.lookup t x y true,ty,ps,bk,g⟩ A (.tuple #[(f a).getD u,.bool (f a).isSome]):=λw D=>by
  obtain⟨B,m,hm,E,V⟩:=hr.rd.at D
  have:=(PG (A:=B) (d:=d) (ty:=ty) (ps:=ps) (bk:=bk) (g:=g) hZ e H Q C N O) w E
  rwa[hm.o0]at this
theorem Py(e:TypeId)(D:mr P t hZ e=true)(E:bh ah x=.map (some b))[hr:qr A b enc f n]:
    bG P ah ⟨d,.call ⟨.builtin .len,#[x],#[t]⟩,ty,ps,bk,g⟩ A (.int .i64 n):=λw u=>by
  obtain⟨B,m,hm,C,H⟩:=hr.rd.at u
  have:=(Pz (A:=B) (d:=d) (ty:=ty) (ps:=ps) (bk:=bk) (g:=g) hZ e D E) w C
  rwa[hm.n]at this
theorem xf{hs:List aw}(enc:α->Value)(k:∀b,K (.map (some b)) (ag (bP enc b (λ_=>none) 0::hs))):cq r P ah ⟨d,.makeMap t none,ty,ps,bk,g⟩ (ag hs) K:=
  cq.post (sp:=λv u=>∃b,v=.map (some b)/\u=ag (nE enc b []::hs)) (PT enc λb=>⟨b,rfl,rfl⟩) (by rintro v u ⟨b,rfl,rfl⟩;exact⟨_,dv (ia λh w=>⟨[],⟨by simp,λ_=>rfl,rfl⟩,w⟩) (VJ _),k b⟩)
theorem lY{hs rest:List aw}(e:TypeId){v:Value}(H:mr P t hZ e=true)(D:dP P hZ enc)(N:bh ah x=.map (some b))(O:bh ah y=enc a)(hv:bh ah z=v)[u:sw hs b enc f n rest]
    (k:K undef (ag (bP enc b (fo f a v) (if(f a).isSome then n else n+1)::rest))):cq r P ah ⟨d,.mapUpdate t x y z,ty,ps,bk,g⟩ (ag hs) K:=by obtain⟨i,u⟩:=u.tk;refine cq.bf (fO u) (show cq r P ah _ (ag (bP enc b f n::rest)) K from ?_);refine cq.ex λm=>cq.pure λhm=>?_;exact cq.post (sp:=λC w=>C=undef/\w=ag (nE enc b (iZ a v m)::rest)) (P8 hZ e H D N O hv ⟨rfl,rfl⟩) (by rintro C w ⟨rfl,rfl⟩;exact⟨_,dv (ia λh E=>⟨_,hm.up a v,E⟩) (VJ _),k⟩)
theorem lO{hs rest:List aw}(e:TypeId){C:Array TypeId}(N:mr P t hZ e=true)(E:dP P hZ enc)(Q:bh ah x=.map (some b))(V:bh ah y=enc a)(O:C[0]? =some t)[u:sw hs b enc f n rest]
    (k:K (.tuple #[]) (ag (bP enc b (gd f a) (if(f a).isSome then n-1 else n)::rest))):cq r P ah ⟨d,.call ⟨.builtin .delete,#[x,y],C⟩,ty,ps,bk,g⟩ (ag hs) K:=by obtain⟨i,u⟩:=u.tk;refine cq.bf (fO u) (show cq r P ah _ (ag (bP enc b f n::rest)) K from ?_);refine cq.ex λm=>cq.pure λhm=>?_;exact cq.post (sp:=λD w=>D=.tuple #[]/\w=ag (nE enc b (iS a m)::rest)) (LW hZ e N E Q V O ⟨rfl,rfl⟩) (by rintro D w ⟨rfl,rfl⟩;exact⟨_,dv (ia λh H=>⟨_,hm.dl a,H⟩) (VJ _),k⟩)
end
end Go.QM
namespace Go.QM
open Go
def b8{α:Type}(f:α->aw)(L:List α):aw:=ag (L.map f)
section
variable {α : Type} {f g : α → aw}
theorem Sf{l m:List aw}(h:l.Perm m):aG (ag l) (ag m):=by induction h with|nil=>exact VJ _|cons x _ w=>exact dv (VJ x) w|swap x y l=>exact hp|trans _ _ d u=>exact d.trans u
variable{L:List α}
theorem vV{M:List α}(h:L.Perm M):aG (b8 f L) (b8 f M):=Sf (h.map f)
theorem y0{L:List α}(h:∀a∈L,f a=g a):b8 f L=b8 g L:=by grind[b8,List.map_congr_left]
theorem ni(hs:List aw):aG (ag hs) (ag (b8 f []::hs)):=o9.trans l8
theorem fV(n:Nat){hs d:List aw}{L':List α}{a:α}(h:eX n hs=some (b8 f L,d))(u:L.Perm (a::L')):aG (ag hs) (ag (f a::b8 f L'::d)):=
  (fO h).trans ((dv (vV u) (VJ _)).trans oq)
theorem cX(i j:Nat){hs dT u gs:List aw}{L M:List α}{A:aw}(a:α)(w:eX i hs=some (A,dT))(d:eX j dT=some (b8 f L,u))(aE:A=g a)(C:∀x∈L,f x=g x)(D:(a::L).Perm M)
    (k:aG (ag u) (ag gs)):aG (ag hs) (ag (b8 g M::gs)):=by subst aE;rw[y0 C]at d;refine(fO w).trans ((dv (VJ _) (fO d)).trans (mH.trans (dv ?_ k)));exact vV (f:=g) D
theorem pI(i:Nat){hs r gs:List aw}{L M:List α}(h:eX i hs=some (b8 f L,r))(d:∀x∈L,f x=g x)(u:L.Perm M)(k:aG (ag r) (ag gs)):aG (ag hs) (ag (b8 g M::gs)):=by rw[y0 d]at h;exact(fO h).trans (dv (vV u) k)
theorem qX{i:Nat}{a:α}(h:L[i]? =some a):L.Perm (a::(L.take i++L.drop (i+1))):=by grind[List.drop_eq_getElem_cons,List.take_append_drop,List.perm_middle]
theorem fE{a:α}(h:a∈L):∃L',L.Perm (a::L'):=by obtain⟨s,t,rfl⟩:=XD h;grind[List.perm_middle]
end
section
variable {r : Option Nat} {P : Program} {N : Nat} {ops : Array Oper} {l : List Oper} {Q : fj} {ah : Env} {aT : List Deferred} {A : aw} {K : Value → aw → Prop}
variable {d : Option Tmp} {ty : TypeId} {ps : String} {bk : Array Edge} {g : Option (Nat × Bool)}
variable {t t' : TypeId} {x y : Operand}
variable{E:Nat}
theorem ve{w:World}{b off:Nat}{l vs:List Value}(h:w.heap[b]? =some (.cells l.toArray E (0,0)))(hlen:off+vs.length<=l.length)(d:vs.all VN=true):
    (storeCells ⟨b,off,none⟩ vs).run P w=.ok () (w.setRow b (dN off vs l).toArray):=by have:=run_storeCells_at P b off E vs 0 l.toArray w h (by simpa using hlen) (λu hu=>by simpa using List.all_eq_true.1 d u hu);trivial
theorem xU{pre cs d vs:List Value}{o:Nat}(h:o+vs.length<=cs.length):dN (pre.length+o) vs (pre++cs++d)=pre++dN o vs cs++d:=by
 unfold dN
 rw[List.append_assoc pre cs d,List.take_append,List.take_of_length_le U,WF,Nat.add_assoc,List.drop_append,List.drop_eq_nil_of_le U,WF,List.nil_append,
   List.take_append_of_le_length U,List.drop_append_of_le_length U]
 simp_all
variable{n sz cap:Nat}{rest:List aw}
theorem xT{w:World}{af:Nat}{pre cs u d:List Value}(h:sat w (sep (aj af E (pre++cs++d)) (ag rest)))(f2:cs.length=n*sz)(f3:n<=cap)(f4:cap<=maxLen)
    (f5:cap*sz<=cs.length+d.length) (D:u.length=cs.length):sat (w.setRow af (pre++u++d).toArray) (ag (a6 E sz (some ⟨af,pre.length,none⟩) n cap u::rest)):=
  (xK h).bf (dv (ia λh C=>⟨(pre,d),⟨rfl,by omega,f3,f4,by simp only;omega⟩,C⟩) (VJ _))
theorem xS{w:World}{ad:Option Addr}{cs:List Value}{hs:List aw}(N:sat w (ag hs))(C:∃i,eX i hs=some (a6 E sz ad n cap cs,rest))(au:0<cs.length):
    ∃af pre u,ad=some ⟨af,pre.length,none⟩/\cs.length=n*sz/\n<=cap/\cap<=maxLen/\cap*sz<=cs.length+u.length/\sat w (sep (aj af E (pre++cs++u)) (ag rest)):=by obtain⟨i,C⟩:=C;obtain⟨P,O,a,b,D,rfl,d,H⟩:=N.bf (fO C);cases ad with|none=>obtain⟨⟨_,_,e⟩,_⟩:=d;rw[e]at au;simp at au|some p=>obtain⟨⟨pre,u⟩,⟨f1,f2,f3,f4,f5⟩,d⟩:=d;obtain⟨af,Q,V⟩:=p;simp only[Addr.mk.injEq,true_and]at f1;obtain⟨rfl,rfl⟩:=f1;exact⟨af,pre,u,rfl,f2,f3,f4,f5,_,O,a,b,D,rfl,d,H⟩
theorem LA{hs:List aw}{aq m D:Nat}{ad C:Option Addr}{cs u H:List Value}(k:Nat)(a2:hq P t E sz=true)(a3:bh ah x=.slice ad n cap)(a4:bh ah y=.slice C m D)
    [aD:py hs ad E sz n cap cs rest] [hr:bn (ag hs) C aq u] (hm:m*sz<=u.length) (aI:Nat.min m n=k) (a1:0<cs.length) (ar:(u.take (k*sz)).all VN=true) (Q:dN 0 (u.take (k*sz)) cs=H)
    (a5:K (.int .i64 k) (ag (a6 E sz ad n cap H::rest))):cq r P ah ⟨d,.call ⟨.builtin .copy,#[x,y],#[t,t']⟩,ty,ps,bk,g⟩ (ag hs) K:=by
 refine cq.run rfl λw V=>?_;obtain⟨af,pre,Z,rfl,f2,f3,f4,f5,N⟩:=xS V aD.tk a1;have am:w.heap[af]? =some (.cells (pre++cs++Z).toArray E (0,0)):=(hA (ng af E _)).sat N;have aJ:k<=m:=cv
 have aT:k<=n:=cv
 have a0:k*sz<=u.length:=Nat.le_trans (VQ _ aJ) hm;have au:(u.take (k*sz)).length=k*sz:=b6
 have O:0+(u.take (k*sz)).length<=cs.length:=by rw[au,f2];have:=VQ sz aT;omega
 have W:=ve (P:=P) (off:=pre.length+0) am AN ar;rw[xU O,Q,Nat.add_zero]at W;have aB:VF sz k (.slice C m D)=VF sz k (.slice C k D):=by cases C<;>rfl
 have av:(VF sz k (.slice C m D)).run P w=.ok (u.take (k*sz)).toArray w:=by rw[aB];exact qG (hr.rd.sat V) a0
 refine⟨.int .i64 k,w.setRow af (pre++H++Z).toArray,_,.inl ?_,⟨rfl,rfl,rfl,by simp⟩,xT N f2 f3 f4 f5 (by rw[<-Q];exact vc O),a5⟩;simp[execOp,resolve,invoke,builtin,Builtin.copy_,a3,a4,h5 a2,Builtin.lenOf,aI,av,W,goInt]
theorem zd{hs:List aw}{ad:Option Addr}{cs:List Value}{z:Value}{ar:Array TypeId}(i:Nat)(V:hq P t E sz=true)(ba:ly P E=some z)(bg:z.cells.toList.length=sz)(bb:z.cells.toList.all VN=true)(aT:0<sz)
    (u:bh ah x=.slice (dM ad cap i sz) (n-i) (cap-i)) (W:ar[0]? =some t) [D:py hs ad E sz n cap cs rest] (a4:i<=n)
    (k:∀C,C.length=cs.length->C.take (i*sz)=cs.take (i*sz)->K (.tuple #[]) (ag (a6 E sz ad n cap C::rest))):cq r P ah ⟨d,.call ⟨.builtin .clear,#[x],ar⟩,ty,ps,bk,g⟩ (ag hs) K:=by
 refine cq.run rfl λw N=>?_;by_cases au:n-i=0;obtain⟨j,H⟩:=D.tk;refine⟨.tuple #[],w,_,.inl ?_,fp.refl w,N.bf (fO H),k cs rfl rfl⟩;rw[au]at u;cases aI:dM ad cap i sz<;>rw[aI]at u<;>simp[execOp,resolve,invoke,builtin,Builtin.clear_,u,W,(h5 V w).1];obtain⟨j,H⟩:=D.tk;have aB:cs.length=n*sz:=(by obtain⟨a3,a9,a,b,a2,rfl,aD,a5⟩:=N.bf (fO H);exact(ou aD).1);have av:0<cs.length:=by rw[aB];exact Nat.mul_pos U aT
 obtain⟨af,pre,aq,rfl,f2,f3,f4,f5,Q⟩:=xS N D.tk av;have am:w.heap[af]? =some (.cells (pre++cs++aq).toArray E (0,0)):=(hA (ng af E _)).sat Q;have aJ:dM (some ⟨af,pre.length,none⟩) cap i sz=some ⟨af,pre.length+i*sz,none⟩:=(by rw[dM,al U];simp[iG]);rw[aJ]at u;have bd:(VG z.cells (n-i)).toList=(List.replicate (n-i) z.cells.toList).flatten:=(by grind[Cw,VG]);have Z:(VG z.cells (n-i)).toList.length=(n-i)*sz:=b6;have a0:(VG z.cells (n-i)).toList.all VN=true:=b6;have hmul:i*sz+(n-i)*sz=n*sz:=by rw[<-Nat.add_mul];congr 1;omega
 have O:=ve (P:=P) (off:=pre.length+i*sz) am (by rw[Z,mp,mp];omega) a0;rw[xU (by rw[Z];omega)]at O;have j6:(dN (i*sz) (VG z.cells (n-i)).toList cs).length=cs.length:=by grind[vc]
 refine⟨.tuple #[],w.setRow af (pre++dN (i*sz) (VG z.cells (n-i)).toList cs++aq).toArray,_,.inl ?_,⟨rfl,rfl,rfl,by simp⟩,xT Q f2 f3 f4 f5 j6,k _ j6 ?_⟩;obtain⟨m,hm⟩:∃m,n-i=m+1:=⟨n-i-1,by omega⟩;rw[hm]at u O;have a1:(zeroValue E).run P w=.ok z w:=by grind[vw]
 simp[execOp,resolve,invoke,builtin,Builtin.clear_,u,W,(h5 V w).1,a1,O,hm];grind[dN]
def BL(P:Program)(t:TypeId):Bool:=match P.underlying t with
  | some (.slice _)=>true
  | _=>false
theorem Mn{t:TypeId}(h:BL P t=true)(p:Option Addr)(n c:Nat)(w:World):(Op.equal t (.slice p n c) (.slice none 0 0)).run P w=.ok p.isNone w:=by unfold BL at h;cases hu:P.underlying t with|none=>rw[hu]at h;cases h|some u=>rw[hu]at h;(cases u<;>first|(cases h;done)|skip);have key:∀d,(YJ (d+1) t (.slice p n c) (.slice none 0 0)).run P w=.ok p.isNone w:=λd=>(by cases p<;>simp[YJ,underlying,hu]);exact key 9999
theorem D3{p:Option Addr}{c:Nat}(u:BL P t=true)(C:bh ah x=.slice p n c)(D:bh ah y=.slice none 0 0):bG P ah ⟨d,.binOp .eql t x y t',ty,ps,bk,g⟩ A (.bool p.isNone):=by intro w _;unfold execOp;simp only[C,D,eqGuard,binOp,Vz,VS,Vo,Mn u];trivial
def vZ(P:Program)(t:TypeId):Bool:=match P.underlying t with
  | some .bool=>true
  | _=>false
theorem D4{t:TypeId}(h:vZ P t=true)(a b:Bool)(w:World):(Op.equal t (.bool a) (.bool b)).run P w=.ok (a==b) w:=by unfold vZ at h;cases hu:P.underlying t with|none=>rw[hu]at h;cases h|some u=>rw[hu]at h;(cases u<;>first|(cases h;done)|skip);have key:∀d,(YJ (d+1) t (.bool a) (.bool b)).run P w=.ok (a==b) w:=λd=>(by simp[YJ,underlying,hu]);exact key 9999
theorem zx{a b:Bool}(u:vZ P t=true)(C:bh ah x=.bool a)(D:bh ah y=.bool b):bG P ah ⟨d,.binOp .eql t x y t',ty,ps,bk,g⟩ A (.bool (a==b)):=by intro w _;unfold execOp;simp only[C,D,eqGuard,binOp,Vz,VS,Vo,D4 u];trivial
theorem xj{a b:Bool}(u:vZ P t=true)(C:bh ah x=.bool a)(D:bh ah y=.bool b):bG P ah ⟨d,.binOp .neq t x y t',ty,ps,bk,g⟩ A (.bool (a !=b)):=by intro w _;unfold execOp;simp only[C,D,eqGuard,binOp,Vz,VS,Vo,D4 u];trivial
end
section
variable {r : Option Nat} {P : Program} {N : Nat} {Q : fj} {ah : Env} {aT : List Deferred} {A : aw} {c : Code}
theorem ab.fact{p:Prop}(h:∀d,A d->p)(k:p->ab r P N c Q ah aT A):ab r P N c Q ah aT A:=λa w C u=>
  k (let⟨d,_,x⟩:=u;h d x) a w C u
end
theorem JV{A:aw}{E:Nat}{cs:List Value}(x:cQ A E none cs):∀h,A h->cs=[]:=λh a=>by
  rcases x h a with d|⟨_,_,_,_,d,_⟩
  · exact d
  · cases d
def gC(r:Nat->Value)(ik:List Value):List Value:=[r 0,r 1,r 2,r 3,r 4,r 5,r 6,r 7]++ik
theorem Hu{r:Nat->Value}{ik:List Value}{p o:Nat}(u:p<8)(d:o=p):(gC r ik)[o]? =some (r p):=by rw[d];clear d;rcases p with _|_|_|_|_|_|_|_|p<;>first|rfl|omega
theorem R1{r:Nat->Value}{ik:List Value}{p o:Nat}(v:Value)(u:p<8)(d:o=p):dN o [v] (gC r ik)=gC (λx=>if x=p then v else r x) ik:=by rw[d];clear d;rcases p with _|_|_|_|_|_|_|_|p<;>first|rfl|omega
theorem Ht{r d:Nat->Value}{ik:List Value}(h:∀p,p<8->r p=d p):gC r ik=gC d ik:=by grind[gC]
theorem R0(r:Nat->Value)(ik:List Value):(gC r ik).length=8+ik.length:=by simp[gC];omega
theorem xG{n p:Nat}(d:p<n):∃L,(V8 n).Perm (p::L)/\∀x∈L,x≠p/\x<n:=by
 have hm:p∈V8 n:=b6
 obtain⟨s,t,e⟩:=XD hm;grind[List.nodup_range]
def dK{α:Type}(f:Nat->α)(p:Nat)(v:α):Nat->α:=λx=>if x=p then v else f x
theorem jI{α:Type}(f:Nat->α)(p:Nat)(v:α):dK f p v p=v:=by simp[dK]
theorem jj{α:Type}{f:Nat->α}{p x:Nat}{v:α}(h:x≠p):dK f p v x=f x:=by simp[dK,h]
def aR{α:Type}(f:Int->α)(p:Int)(v:α):Int->α:=λx=>if x=p then v else f x
theorem cp{α:Type}(f:Int->α)(p:Int)(v:α):aR f p v p=v:=by simp[aR]
theorem bS{α:Type}{f:Int->α}{p x:Int}{v:α}(h:x≠p):aR f p v x=f x:=by simp[aR,h]
end Go.QM
namespace Go.QM
open Go Go.ChangeShapes Go.WideShapes Go.RowKit
def here(W:World):aw:=λh=>∀i,h i=W.heap[i]?
theorem NJ(W:World):sat W (sep (ag []) (here W)):=
  ⟨λi=>W.heap[i]?,λ_ _ h=>h,λ_=>none,λi=>W.heap[i]?,λ_=>.inl rfl,by funext i;rfl,rfl,λ_=>rfl⟩
theorem NI{W u:World}(s:fp W u){A:aw}(h:sat u (sep A (here W))):Below W.heap.size W u:=by
 refine⟨s.os,s.tape,s.output,s.size,λk C=>?_⟩;obtain⟨x,w,a,b,d,rfl,_,am⟩:=h;have e:W.heap[k]? =some W.heap[k]:=b6
 rw[e];refine w k _ ?_;rcases d k with d|d;simp only[gq,d,am k];exact e;rw[am k,e]at d;cases d
theorem eD.lawful{P:Program}{f:FuncId}{args:List Value}{rd:aw->Prop}(h:eD P f args rd [] (λ_:Unit=>.bool true) (λ_=>True) (λ_=>[])){W:World}(D:rd (here W)):
    Calls P f args.toArray W λe d=>e=.returned (.bool true)/\Below W.heap.size W d:=
  callsIn_wide.1 ((h.2 (here W) D W (NJ W)).mono λ_ _ ⟨_,u,_,w,C⟩=>⟨u,NI w C⟩)
section
variable {H : Type} {enc : TypeId × Value → H} {P : Program}
theorem Im(N:laidOutB P=true){W E:World}{V:Nat->Bool}(am:Below W.heap.size W E):∀{C:List TypeId} {vs:List Value} {w:List (DataW H)} {p:List MemPlace},
    (∀t∈C,P.readableRec t=true/\t<P.types.size)->XV enc P W 0 (λ_=>true) true C vs w p->(∀x∈p,x.block<W.heap.size)->(∀x∈p,V x.block=true)->
    XV enc P E 0 V true C vs w p
  | [],vs,w,p,_,h,_,_=>by obtain⟨rfl,rfl,rfl⟩:=trodAll_nil h;exact trodAll_mk0
  | t::C,vs,w,p,D,h,O,Q=>by
   obtain⟨v,au,d,ar,p,q,rfl,rfl,rfl,Z,ah⟩:=trodAll_cons h
   exact trodAll_cons_mk (WideElems.Trod_stays N (D t cE).1 (D t cE).2 Z (λx u=>am.same (O x (by simp[u]))) (λx u=>Q x (by simp[u])))
     (Im N am (λt aq=>D t (by simp[aq])) ah (λx u=>O x (by simp[u])) (λx u=>Q x (by simp[u])))
theorem Pf{f:Func}{s:ChangeSpec}{W w:World}{args:Array Value}{d:List (DataW H)}{before:List MemPlace}{aP:TypeId}
    (ax:DataW.Whole enc P f.params.toList s.vars false W args.toList d [] before) (hv:s.vars=[])
    (av:s.fn H d={results:=[.lit (.bool true)],args:=d})
    (Z:f.resultTypes=#[aP]) (ah:P.underlying aP=some .bool) (aw:laidOutB P=true) (hr:∀t∈f.params.toList,P.readableRec t=true/\t<P.types.size)
    (am:Below W.heap.size W w):s.post enc P f false true false false W args (.bool true) w:=by
 have O:=ax.lt;have E:=ax;obtain⟨p,q,aE,D,rfl,au,_⟩:=ax;rw[hv]at D;obtain⟨_,rfl⟩:=trodVars_none D;simp only[List.append_nil]at O au E;have Q:∀u:Nat->Bool,(∀x∈p,u x.block=true)->XV enc P w 0 u true f.params.toList args.toList d p:=by grind[Im]
 have C:s.fn H (d++[])={results:=[.lit (.bool true)],args:=d}:=b6
 have V:∀(b:Nat) (u:Nat->Bool) (N:Bool),XV enc P w b u N f.resultTypes.toList ((Value.bool true).resultList f.resultTypes.size) [.lit (.bool true)] []:=λb u N=>(by rw[Z];exact trodAll_cons_mk (shut_bool ah true) trodAll_mk0);have aq:∀u:Nat->Bool,DataW.TrodVars enc P w u s.vars [] []:=by grind[DataW.TrodVars]
 refine⟨d,[],p,[],p,[],E,by rw[C];exact V _ _ _,by rw[C];exact Q _ (λx ar=>by simpa using O x ar),by rw[C];exact aq _,am.frame _,λ_=>?_⟩;trivial
def cO(k:IntKind)(xs:List Int):List Value:=xs.map (λx=>.int k x)
theorem je(k:IntKind)(xs:List Int):(cO k xs).length=xs.length:=by simp[cO]
theorem nI{k:IntKind}{xs:List Int}{i:Nat}{x:Int}(h:xs[i]? =some x):(cO k xs)[i*1]? =some (.int k x):=by simp[cO,h]
theorem Bt{W:World}{a:Addr}{cs:List Value}(h:∀i v,cs[i]? =some v->W.cell? (a.add i)=some v):∃E,cQ (here W) E (some a) cs:=by
 by_cases H:cs=[];exact⟨0,λ_ _=>.inl H⟩;obtain⟨v,l,rfl⟩:=List.exists_cons_of_ne_nil H;obtain⟨C,u,D⟩:=a;have d:W.cell? ⟨C,u,D⟩=some v:=by have:=h 0 v rfl;simpa[Addr.add]using this
 cases D with|some s=>simp only[World.cell?]at d;split at d<;>simp at d|none=>
 simp only[iG,World.cell?]at d h;cases am:W.heap[C]? with|none=>rw[am]at d;cases d|some o=>(cases o with|cells c t a1=>simp only[am]at d h;simp only[Option.isSome_none,Bool.false_eq_true,if_false]at d h;refine⟨t,λO e=>.inr ⟨_,c.toList.take u,c.toList.drop (u+(v::l).length),a1,rfl,?_,?_⟩⟩;have:u<c.size:=(Array.getElem?_eq_some_iff.1 d).1;simp;omega;rw[e,am];have key:(c.toList.drop u).take (v::l).length=v::l:=(by apply List.ext_getElem?;intro i;by_cases w:i<(v::l).length;rw[List.getElem?_take_of_lt w,List.getElem?_drop,Array.getElem?_toList];rw[h i _ (Vb w),Vb w];rw[Xm (by simp at w⊢;omega),Xm U]);have:c.toList.take u++(v::l)++c.toList.drop (u+(v::l).length)=c.toList:=(by rw[<-List.drop_drop,List.append_assoc];have N:v::l++(c.toList.drop u).drop (v::l).length=c.toList.drop u:=(by have:=V1 (v::l).length (c.toList.drop u);rw[key]at this;exact this);rw[N,V1]);rw[this]|_=>rw[am]at d;cases d)
end
end Go.QM
namespace Go.QM
open Go
structure ed(L:List Nat)(R:Prop):Prop where
  k:R
structure ak(c:Nat)(X:Prop):Prop where
  k:X
abbrev cM(b:Nat):Option Addr:=some ⟨b,0,none⟩
abbrev ae(b:Nat):Value:=.pointer (some ⟨b,0,none⟩)
abbrev bK:=@eD Yg
abbrev bz(f:FuncId)(a:List Value)(rd:aw->Prop)(pre:List aw)(v:Value)(post:List aw):Prop:=eD Yg f a rd pre (λ_:Unit=>v) (λ_=>True) (λ_=>post)
abbrev aa(x:Int):Value:=.int .i64 x
abbrev bm(x:Int):Value:=.int .u64 x
abbrev aS(x:Int):Value:=.int .u32 x
abbrev nb(x:Int):Value:=.int .u8 x
theorem ai{A B:aw}(h:aG A B:=by repeat(first|exact a7 _|refine bU 0 rfl ?_|refine bU 1 rfl ?_|refine bU 2 rfl ?_|refine bU 3 rfl ?_|refine bU 4 rfl ?_|refine bU 5 rfl ?_|refine bU 6 rfl ?_|refine bU 7 rfl ?_|refine bU 8 rfl ?_|refine bU 9 rfl ?_|refine bU 10 rfl ?_|refine bU 11 rfl ?_|refine bU 12 rfl ?_|refine bU 13 rfl ?_|refine bU 14 rfl ?_|refine bU 15 rfl ?_|refine bU 16 rfl ?_|refine bU 17 rfl ?_|refine bU 18 rfl ?_)):aG A B:=h
theorem UZ{G R:Prop}(k:R)(h:ed [] R->G:=by intro z;(first|refine bU 0 rfl ?_|refine bU 1 rfl ?_|refine bU 2 rfl ?_|refine bU 3 rfl ?_|refine bU 4 rfl ?_|refine bU 5 rfl ?_|refine bU 6 rfl ?_|refine bU 7 rfl ?_|refine bU 8 rfl ?_|refine bU 9 rfl ?_|refine bU 10 rfl ?_|refine bU 11 rfl ?_|refine bU 12 rfl ?_|refine bU 13 rfl ?_|refine bU 14 rfl ?_|refine bU 15 rfl ?_|refine bU 16 rfl ?_|refine bU 17 rfl ?_|refine bU 18 rfl ?_);exact z.k):G:=h ⟨k⟩
theorem eB{p:Prop}(h:p:=by first|assumption|(simp[d7]<;>omega)):p:=h
theorem aI{P:Program}{f:FuncId}{fn:Func}{c:Code}{N:Nat}{rs:List ResultVar}{args:List Value}{rd:aw->Prop}{pre:List aw}{Y:Type}{res:Y->Value}{φ:Y->Prop}{post:Y->List aw}
    (EH:P.funcs[f]? =some fn) (bB:fn.ntmps=N) (h:∀F,rd F->ab none P N c (ca P rs res φ post F) (mY args) [] (ag (pre++[F]))) (am:fn.body=some c:=by rfl) (NV:fn.results=rs.toArray:=by rfl) (hc:Nat.ble args.length N=true:=by rfl) (he:lR P f=true:=by kernel_rfl):eD P f args rd pre res φ post:=eD.intro he EH am bB hc NV h
section
variable {P : Program} {rs : List ResultVar} {Y : Type} {res : Y → Value} {φ : Y → Prop} {post : Y → List aw} {F : aw} {ah : Env} {A : aw} {v w : Value}
theorem CQ(y:Y)(gJ:φ y)(ic:aG A (ag (post y++[F])))(gH:iQ P rs [] ah A:=by exact trivial)(gI:jV []=res y:=by rfl):ca P rs res φ post F .ret ah [] A:=ca.i y [] gH gI gJ ic
theorem bv(y:Y)(gJ:φ y)(ic:aG A (ag (post y++[F])))(gH:iQ P rs [v] ah A:=by exact⟨rfl,trivial⟩)(gI:jV [v]=res y:=by rfl):ca P rs res φ post F .ret ah [] A:=ca.i y [v] gH gI gJ ic
theorem cT(y:Y)(gJ:φ y)(ic:aG A (ag (post y++[F])))(gH:iQ P rs [v,w] ah A:=by exact⟨rfl,rfl,trivial⟩)(gI:jV [v,w]=res y:=by rfl):ca P rs res φ post F .ret ah [] A:=ca.i y [v,w] gH gI gJ ic
theorem mR(y:Y)(gJ:φ y)(ic:aG A (ag (post y++[F])))(gH:iQ P rs [] ah A:=by exact trivial)(gI:jV []=res y:=by rfl):ca P rs res φ post F .normal ah [] A:=ca.n y [] gH gI gJ ic
theorem UU(y:Y)(gJ:φ y)(ic:aG A (ag (post y++[F])))(gH:iQ P rs [v] ah A:=by exact⟨rfl,trivial⟩)(gI:jV [v]=res y:=by rfl):ca P rs res φ post F .normal ah [] A:=ca.n y [v] gH gI gJ ic
theorem UV(y:Y)(gJ:φ y)(ic:aG A (ag (post y++[F])))(gH:iQ P rs [v,w] ah A:=by exact⟨rfl,rfl,trivial⟩)(gI:jV [v,w]=res y:=by rfl):ca P rs res φ post F .normal ah [] A:=ca.n y [v,w] gH gI gJ ic
end
section
variable {P : Program} {rs : List ResultVar} {res : Unit → Value} {φ : Unit → Prop} {post : Unit → List aw} {F : aw} {ah : Env} {A : aw} {v w : Value}
theorem JZ(ic:aG A (ag (post ()++[F])))(gH:iQ P rs [] ah A:=by exact trivial)(gI:jV []=res ():=by rfl)(gJ:φ ():=by trivial):ca P rs res φ post F .ret ah [] A:=ca.i () [] gH gI gJ ic
theorem fc(ic:aG A (ag (post ()++[F])))(gH:iQ P rs [v] ah A:=by exact⟨rfl,trivial⟩)(gI:jV [v]=res ():=by rfl)(gJ:φ ():=by trivial):ca P rs res φ post F .ret ah [] A:=ca.i () [v] gH gI gJ ic
theorem hU(ic:aG A (ag (post ()++[F])))(gH:iQ P rs [v,w] ah A:=by exact⟨rfl,rfl,trivial⟩)(gI:jV [v,w]=res ():=by rfl)(gJ:φ ():=by trivial):ca P rs res φ post F .ret ah [] A:=ca.i () [v,w] gH gI gJ ic
theorem qu(ic:aG A (ag (post ()++[F])))(gH:iQ P rs [] ah A:=by exact trivial)(gI:jV []=res ():=by rfl)(gJ:φ ():=by trivial):ca P rs res φ post F .normal ah [] A:=ca.n () [] gH gI gJ ic
theorem UW(ic:aG A (ag (post ()++[F])))(gH:iQ P rs [v] ah A:=by exact⟨rfl,trivial⟩)(gI:jV [v]=res ():=by rfl)(gJ:φ ():=by trivial):ca P rs res φ post F .normal ah [] A:=ca.n () [v] gH gI gJ ic
theorem UX(ic:aG A (ag (post ()++[F])))(gH:iQ P rs [v,w] ah A:=by exact⟨rfl,rfl,trivial⟩)(gI:jV [v,w]=res ():=by rfl)(gJ:φ ():=by trivial):ca P rs res φ post F .normal ah [] A:=ca.n () [v,w] gH gI gJ ic
end
section
variable {r : Option Nat} {P : Program} {N : Nat} {ops : Array Oper} {l : List Oper} {Q : fj} {ah : Env} {aT : List Deferred} {A : aw} {K : Value → aw → Prop}
variable {d : Option Tmp} {ty : TypeId} {ps : String} {bk : Array Edge} {g : Option (Nat × Bool)}
theorem ba{f:FuncId}{vs:List Value}{n0:List Operand}{r9:Array TypeId}{rd:aw->Prop}{pre hs rest:List aw}{Y:Type}{res:Y->Value}{φ:Y->Prop}{post:Y->List aw}
    (spec:eD P f vs rd pre res φ post) (k:∀y,φ y->K (res y) (ag (post y++rest))) (kG:lS ah n0=vs:=by rfl) (lV:ky hs pre rest:=by exact eF.p) (rK:rd (ag rest):=by first|trivial|exact cl.aY):
    cq r P ah ⟨d,.call ⟨.value (.func f),n0.toArray,r9⟩,ty,ps,bk,g⟩ (ag hs) K:=aO spec kG lV rK k
theorem aq{f:FuncId}{vs:List Value}{n0:List Operand}{r9:Array TypeId}{rd:aw->Prop}{pre hs rest:List aw}{res:Unit->Value}{φ:Unit->Prop}{post:Unit->List aw}
    (spec:eD P f vs rd pre res φ post) (k:K (res ()) (ag (post ()++rest))) (kG:lS ah n0=vs:=by rfl) (lV:ky hs pre rest:=by exact eF.p) (rK:rd (ag rest):=by first|trivial|exact cl.aY):
    cq r P ah ⟨d,.call ⟨.value (.func f),n0.toArray,r9⟩,ty,ps,bk,g⟩ (ag hs) K:=aO spec kG lV rK λ_ _=>k
theorem eN{f:FuncId}{vs:List Value}{n0:List Operand}{r9:Array TypeId}{rd:aw->Prop}{pre hs rest:List aw}{Y:Type}{res:Y->Value}{φ:Y->Prop}{post:Y->List aw}
    (spec:eD P f vs rd pre res φ post) (rK:rd (ag rest)) (k:∀y,φ y->K (res y) (ag (post y++rest))) (kG:lS ah n0=vs:=by rfl) (lV:ky hs pre rest:=by exact eF.p):
    cq r P ah ⟨d,.call ⟨.value (.func f),n0.toArray,r9⟩,ty,ps,bk,g⟩ (ag hs) K:=aO spec kG lV rK k
theorem eJ{f:FuncId}{vs:List Value}{n0:List Operand}{r9:Array TypeId}{rd:aw->Prop}{pre hs rest:List aw}{res:Unit->Value}{φ:Unit->Prop}{post:Unit->List aw}
    (spec:eD P f vs rd pre res φ post) (rK:rd (ag rest)) (k:K (res ()) (ag (post ()++rest))) (kG:lS ah n0=vs:=by rfl) (lV:ky hs pre rest:=by exact eF.p):
    cq r P ah ⟨d,.call ⟨.value (.func f),n0.toArray,r9⟩,ty,ps,bk,g⟩ (ag hs) K:=aO spec kG lV rK λ_ _=>k
end
section
variable {r : Option Nat} {P : Program} {N : Nat} {Q : fj} {ah : Env} {aT : List Deferred} {A I : aw}
theorem cJ{id:Nat}{l:List Oper}(c:List (Nat×Bool))(NE:aG A I)(h:cd r P N l.toArray I [] c Q ah aT A)(hm:P.follows .mixedOrders=true:=by kernel_rfl)(aU:y5 l.toArray [] c=true:=by kernel_rfl):ab r P N (.region id l.toArray true) Q ah aT A:=ab.draw I [] c hm aU NE h
end
theorem bH{G:Prop}(h:G:=by repeat(first|exact trivial|refine⟨rfl,?_⟩)):G:=h
theorem eH{α:Sort _}(a:α):∃v,a=v:=⟨a,rfl⟩
theorem U0{α:Sort _}(a:α):∃v,v=a:=⟨a,rfl⟩
variable{B:aw}{gs:List aw}
theorem ao{r:List aw}(k:aG (ag (r)) (ag gs)):aG (ag (B::r)) (ag (B::gs)):=bU 0 rfl k
variable{eA:aw}
theorem bX{r:List aw}(k:aG (ag (eA::r)) (ag gs)):aG (ag (eA::B::r)) (ag (B::gs)):=bU 1 rfl k
variable{qg:aw}
theorem bw{r:List aw}(k:aG (ag (eA::qg::r)) (ag gs)):aG (ag (eA::qg::B::r)) (ag (B::gs)):=bU 2 rfl k
variable{sj:aw}
theorem cZ{r:List aw}(k:aG (ag (eA::qg::sj::r)) (ag gs)):aG (ag (eA::qg::sj::B::r)) (ag (B::gs)):=bU 3 rfl k
theorem eT{d:aw}{r:List aw}(k:aG (ag (eA::qg::sj::d::r)) (ag gs)):aG (ag (eA::qg::sj::d::B::r)) (ag (B::gs)):=bU 4 rfl k
theorem eI{d u:aw}{r:List aw}(k:aG (ag (eA::qg::sj::d::u::r)) (ag gs)):aG (ag (eA::qg::sj::d::u::B::r)) (ag (B::gs)):=bU 5 rfl k
instance (n:Nat):OfNat (Nat×Bool) n:=⟨(OfNat.ofNat n,false)⟩
instance:Neg (Nat×Bool):=⟨λx=>(x.1,true)⟩
theorem dy{G:Prop}(h:G:=by exact fc ai):G:=h
theorem hT{G:Prop}(h:G:=by exact fc (ao (ao (a7 _)))):G:=h
theorem kc{G:Prop}(h:G:=by exact fc (ao (a7 _))):G:=h
theorem kv{G:Prop}(h:G:=by exact fc (aA (⟨bx,a,af,aP,B,M,ad,cap⟩:jo) bB ai)):G:=h
theorem kX{G:Prop}(h:G:=by exact ca.i () [_,_] ⟨(fl (n:=2) rfl rfl rfl rfl),rfl,trivial⟩ rfl trivial ai):G:=h
theorem kY{G:Prop}(h:G:=by exact ca.i () [_,_] ⟨(fl (n:=3) rfl rfl rfl rfl),rfl,trivial⟩ rfl trivial ai):G:=h
theorem nR{G:Prop}(h:G:=by exact bv _ trivial ai):G:=h
theorem pk{G:Prop}(h:G:=by exact fc (aA (⟨ad,cap,aH⟩:k1) bB ai)):G:=h
theorem rj{G:Prop}(h:G:=by exact bv false (λh=>(by cases h)) ai):G:=h
theorem si{G:Prop}(h:G:=by exact fc (aA (⟨A,aH⟩:oG) ax ai)):G:=h
theorem sg{G:Prop}(h:G:=by exact ca.i () [_] ⟨rfl,trivial⟩ (congrArg Value.bool (decide_eq_decide.2 U)) trivial (ao (a7 _))):G:=h
theorem sh{G:Prop}(h:G:=by exact ca.i () [_] ⟨rfl,trivial⟩ (congrArg Value.bool (db U).symm) trivial (ao (a7 _))):G:=h
theorem tt{G:Prop}(h:G:=by exact hU (ao (ao (ao (a7 _))))):G:=h
theorem tu{G:Prop}(h:G:=by exact cT (0,2) (λbO=>absurd bO (show ¬(2:Int)=0 by decide)) (aA (⟨b2,ay⟩:eY) trivial (eI (eI (aA (bT.mk aK bt:bT) trivial ai))))):G:=h
theorem tv{G:Prop}(h:G:=by exact ca.i () [_,_,_] ⟨(fl (n:=3) rfl rfl rfl rfl),rfl,rfl,trivial⟩ rfl trivial (aA (⟨(aR ad to (dM (ad to) (cap to) 1 3)),(aR cap to (cap to-1)),aH⟩:k1) bB ai)):G:=h
theorem yn{G:Prop}(h:G:=by exact qu (ao (ao (a7 _)))):G:=h
theorem yo{G:Prop}(h:G:=by exact ca.i () [_,_] ⟨(fl (n:=3) rfl rfl rfl rfl),rfl,trivial⟩ rfl trivial (aA (⟨am,bx,S⟩:eE) ⟨aQ,aE⟩ ai)):G:=h
theorem yp{G:Prop}(h:G:=by exact cT (0,X) (.inl ⟨qM,rfl⟩) ai):G:=h
theorem yq{G:Prop}(h:G:=by exact fc (aA ⟨ad,cap,aH⟩ bB (ao (ao (ao (ao (ao (a7 _)))))))):G:=h
theorem yr{G:Prop}(h:G:=by exact ca.i () [_,_,_] ⟨(fl (n:=3) rfl rfl rfl rfl),rfl,rfl,trivial⟩ rfl trivial (aA (⟨ad,cap,aH⟩:k1) bB ai)):G:=h
theorem ys{G:Prop}(h:G:=by exact hU (aA (⟨ad,cap,aH⟩:k1) bB ai)):G:=h
theorem yt{G:Prop}(h:G:=by exact cT ((0,cu),da) ⟨cK,λe=>by omega,λe=>by omega,λe=>by omega⟩ (ao (eO 0 rfl (hQ U) ai))):G:=h
theorem yu{G:Prop}(h:G:=by exact bv (none:Option oE) ⟨λ_=>eP,λz h=>(by cases h)⟩ (aA () trivial ai)):G:=h
theorem yv{G:Prop}(h:G:=by exact ca.i _ [_] ⟨rfl,trivial⟩ rfl (λh=>(by cases h)) ai):G:=h
theorem yw{G:Prop}(h:G:=by exact ca.i () [_,_] ⟨(fl (n:=3) rfl rfl rfl rfl),rfl,trivial⟩ rfl trivial (aA (⟨am,bx,S⟩:eE) ⟨⟨aQ,aE⟩,n8⟩ ai)):G:=h
theorem Cl{G:Prop}(h:G:=by exact fc (aA ⟨A,aH⟩ ax (ao (ao (ao (ao (a7 _))))))):G:=h
theorem Cm{G:Prop}(h:G:=by exact hU (aA (⟨A,aH⟩:oG) ax ai)):G:=h
theorem Cn{G:Prop}(h:G:=by exact hU (aA A trivial (aA ⟨ad,cap,aH,bD⟩ ax (bX (bX (bX (bX (bX (bX (a7 _)))))))))):G:=h
theorem Co{G:Prop}(h:G:=by exact ca.i (AV,qS) [_] ⟨(fl (n:=3) rfl rfl rfl rfl),trivial⟩ rfl nU.zero ((dE 277 5 _).trans ((dE 47 1 _).trans ai))):G:=h
theorem Cp{G:Prop}(h:G:=by exact cT (0,9) (λbO=>absurd bO (show ¬(9:Int)=0 by decide)) (aA (⟨b2,ay⟩:eY) trivial (eI (eI (aA (bT.mk aK bt:bT) trivial ai))))):G:=h
theorem Cq{G:Prop}(h:G:=by exact cT (0,3) (λbO=>absurd bO (show ¬(3:Int)=0 by decide)) (aA (⟨b2,ay⟩:eY) trivial (eI (eI (aA (bT.mk aK bt:bT) trivial ai))))):G:=h
theorem Cr{G:Prop}(h:G:=by exact ca.i () [_,_] ⟨(fl (n:=3) rfl rfl rfl rfl),rfl,trivial⟩ rfl trivial (aA (⟨bx,a,af,aP,B,M,ad,cap⟩:jo) bB ai)):G:=h
theorem Cs{G:Prop}(h:G:=by exact bv ((bW X.A.l t 3).2,⟨X,T,aN,hv,bj,aY,I,bq,lv⟩) (ec.refl _) (aA (⟨aM,aX,aL,hm,bc,lm,bp⟩:dj) ⟨ax,aU.up U⟩ ai)):G:=h
theorem Ct{G:Prop}(h:G:=by exact bv ((bW X.A.l t 5).2,⟨X,T,aN,hv,bj,aY,I,bq,lv⟩) (ec.refl _) (aA (⟨aM,aX,aL,hm,bc,lm,bp⟩:dj) ⟨ax,aU.up U⟩ ai)):G:=h
theorem Cu{G:Prop}(h:G:=by exact bv _ trivial (aA (⟨aM,aX,aL,hm,bc,lm,bp⟩:dj) ⟨ax,aU⟩ ai)):G:=h
theorem Cv{G:Prop}(h:G:=by exact ca.i false [_] ⟨rfl,trivial⟩ rfl (λh=>(by cases h)) ai):G:=h
theorem I5{G:Prop}(h:G:=by exact ca.i () [_,_] ⟨(fl (n:=3) rfl rfl rfl rfl),rfl,trivial⟩ (by rw[aQ];rfl) trivial (bX (a7 _))):G:=h
theorem I6{G:Prop}(h:G:=by exact fc (aA A trivial (aA ⟨ad,cap,aH,bD⟩ ax (ao (ao (ao (ao (ao (ao (a7 _)))))))))):G:=h
theorem I7{G:Prop}(h:G:=by exact ca.i () [_,_] ⟨(fl (n:=3) rfl rfl rfl rfl),rfl,trivial⟩ rfl trivial (aA (bT.mk aK bt:bT) trivial ai)):G:=h
theorem I8{G:Prop}(h:G:=by exact ca.i () [_,_] ⟨(fl (n:=2) rfl rfl rfl rfl),rfl,trivial⟩ rfl trivial (bX (aA (bT.mk aK bt:bT) trivial (bU 6 rfl (aA (⟨am,bx,S⟩:eE) ⟨aQ,aE⟩ ai))))):G:=h
theorem I9{G:Prop}(h:G:=by exact cT ((none,0),X) (.inl ⟨hv,rfl⟩) ((dE 33 1 _).trans (ao (aA (bT.mk aK bt:bT) trivial ai)))):G:=h
theorem Ja{G:Prop}(h:G:=by exact ca.i (OR,false) [_,_] ⟨(fl (n:=5) rfl rfl rfl rfl),rfl,trivial⟩ rfl ⟨⟨by decide,by decide,by decide,by decide⟩,λh=>absurd h an⟩ ai):G:=h
theorem Jb{G:Prop}(h:G:=by exact ca.i (0,0) [_] ⟨(fl (n:=2) rfl rfl rfl rfl),trivial⟩ rfl ⟨by decide,by decide⟩ ai):G:=h
theorem Jc{G:Prop}(h:G:=by exact cT ([],none,0,1) ⟨Nat.zero_le _,λm h=>(by cases h)⟩ ((dE 427 4 _).trans ai)):G:=h
theorem Jd{G:Prop}(h:G:=by exact ca.i () [_,_] ⟨(fl (n:=3) rfl rfl rfl rfl),rfl,trivial⟩ rfl trivial (aA (⟨ad,cap,aH⟩:k1) bB ai)):G:=h
theorem Je{G:Prop}(h:G:=by exact fc (aA (⟨ad,cap,aH⟩:k1) bB (ao (ao (cX 0 0 id rfl rfl rfl (λ_ _=>rfl) bN.symm (ao (ao (a7 _)))))))):G:=h
theorem Jf{G:Prop}(h:G:=by exact CQ ⟨X,T,aN,hv,bj,aY,I,bq,lv⟩ rfl (aA (⟨aM,aX,aL,hm,bc,lm,bp⟩:dj) ⟨ax,aU.up U⟩ ai)):G:=h
theorem Jg{G:Prop}(h:G:=by exact bv (cu,⟨X,T,aN,hv,bj,aY,I,bq,lv⟩) (ec.refl _) (aA (⟨aM,aX,aL,hm,bc,lm,bp⟩:dj) ⟨ax,aU.up U⟩ ai)):G:=h
theorem Jh{G:Prop}(h:G:=by exact bv (12,⟨X,T,aN,hv,bj,aY,I,bq,lv⟩) (ec.refl _) (aA (⟨aM,aX,aL,hm,bc,lm,bp⟩:dj) ⟨ax,aU.up U⟩ ai)):G:=h
theorem Ji{G:Prop}(h:G:=by exact bv (12,⟨X,T,aN,hv,bj,aY,I,bq,lv⟩) ⟨ec.refl _,λ_ _ _ _=>rfl⟩ (aA (⟨aM,aX,aL,hm,bc,lm,bp⟩:dj) ⟨ax,aU.up U⟩ (ao (cZ (ao (bw (bw (bw (cX 0 0 g rfl rfl rfl (λ_ _=>rfl) ef.symm ai))))))))):G:=h
theorem Jj{G:Prop}(h:G:=by exact cT (⟨fz,T,aN,hv,bj,aY,I,bq,lv⟩,0,cu) ⟨.inr bN,λ_=>⟨rfl,rfl,λh=>absurd h he⟩,λ_ h=>absurd h he⟩ (aA (⟨aM,aX,aL,hm,bc,lm,bp⟩:dj) ⟨ax.pi jO j6,aU.pi U U⟩ (cZ (aA (⟨b2,ay⟩:eY) trivial ai)))):G:=h
theorem Jk{G:Prop}(h:G:=by exact ca.i () [_,_] ⟨(fl (n:=2) rfl rfl rfl rfl),rfl,trivial⟩ rfl trivial (cZ (aA (⟨aM,aX,aL,hm,bc,lm,bp⟩:dj) ⟨ax,aU⟩ (cZ (aA (⟨b2,ay⟩:eY) trivial ai))))):G:=h
theorem Jl{G:Prop}(h:G:=by exact ca.i () [_] ⟨(fl (n:=3) rfl rfl rfl rfl),trivial⟩ rfl trivial ai):G:=h
theorem Jm{G:Prop}(h:G:=by exact bv (none:Option oE) (λz h=>(by cases h)) (aA () trivial ai)):G:=h
theorem Jn{G:Prop}(h:G:=by exact ca.i () [_,_] ⟨(fl (n:=2) rfl rfl rfl rfl),rfl,trivial⟩ rfl trivial (bX (aA (bT.mk aK bt:bT) trivial (bU 6 rfl (aA (⟨am,bx,S⟩:eE) ⟨⟨aQ,aE⟩,n8⟩ ai))))):G:=h
theorem Jp{c:Nat}{L:List Nat}{G R X:Prop}(z:ed (c::L) R)(k:ed L R->X)(a:Nat.ble 0 c=true:=by rfl)(b:Nat.ble c 23=true:=by rfl)(h:ak c X->G:=by intro z;(first|(have:ak 0 _:=z;refine e rfl ?_)|(have:ak 1 _:=z;change ab _ _ _ _ _ _ _ (ag [_,_]))|(have:ak 2 _:=z;refine q rfl rfl (fC (v:=.int _ _) rfl) ?_)|(have:ak 3 _:=z;refine aW.nil (iL ?_))|(have:ak 4 _:=z;refine ab.skip (iL ?_))|(have:ak 5 _:=z;change aW _ _ _ _ _ _ _ _ (ag [_,_]))|(have:ak 6 _:=z;refine⟨ai,?_⟩)|(have:ak 7 _:=z;refine ab.seq ?_)|(have:ak 8 _:=z;change aW _ _ _ _ _ _ _ _ (ag [_,_,_]))|(have:ak 9 _:=z;change aW _ _ _ _ _ _ _ _ (ag [_,_,_,_,_]))|(have:ak 10 _:=z;change ab _ _ _ _ _ _ _ (ag [_]))|(have:ak 11 _:=z;change ab _ _ _ _ _ _ _ (ag [_,_,_]))|(have:ak 12 _:=z;change aW _ _ _ _ _ _ _ _ (ag [_,_,_,_,_,_]))|(have:ak 13 _:=z;refine dO rfl rfl ?_)|(have:ak 14 _:=z;refine ab.Lx rfl ?_)|(have:ak 15 _:=z;change aW _ _ _ _ _ _ _ _ (ag [_,_,_,_,_,_,_]))|(have:ak 16 _:=z;refine bZ rfl rfl rfl (fC (v:=.int _ _) rfl) ?_)|(have:ak 17 _:=z;refine c9 rfl rfl rfl (fC (v:=.int _ _) rfl) ?_)|(have:ak 18 _:=z;change aW _ _ _ _ _ _ _ _ (ag [_,_,_,_]))|(have:ak 19 _:=z;refine et ?_)|(have:ak 20 _:=z;refine q rfl rfl (fC (v:=.bool _) rfl) ?_)|(have:ak 21 _:=z;refine ab.exit (mZ (mZ (rC (iL ?_)))))|(have:ak 22 _:=z;change aW _ _ _ _ _ _ _ _ (ag [_,_,_,_,_,_,_,_,_]))|(have:ak 23 _:=z;refine ab.skip (jA (iL ?_))));exact z.k):G:=h ⟨k ⟨z.k⟩⟩
theorem Jy{c:Nat}{L:List Nat}{G R X:Prop}(z:ed (c::L) R)(k:ed L R->X)(a:Nat.ble 48 c=true:=by rfl)(b:Nat.ble c 71=true:=by rfl)(h:ak c X->G:=by intro z;(first|(have:ak 48 _:=z;refine q rfl rfl (oK (v:=.int _ _) rfl) ?_)|(have:ak 49 _:=z;refine ab.Lw rfl ?_)|(have:ak 50 _:=z;refine ab.ret (rt ?_))|(have:ak 51 _:=z;refine ab.block ?_)|(have:ak 52 _:=z;refine cd.nil (iL ?_))|(have:ak 53 _:=z;refine q rfl rfl (gL rfl rfl rfl) ?_)|(have:ak 54 _:=z;change aW _ _ _ _ _ _ _ _ (ag [_,_,_,_,_,_,_,_]))|(have:ak 55 _:=z;refine q rfl rfl (s0 rfl) ?_)|(have:ak 56 _:=z;refine bZ rfl rfl rfl (fC (v:=.pointer _) rfl) ?_)|(have:ak 57 _:=z;change ab _ _ _ _ _ _ _ (ag [_,_,_,_,_]))|(have:ak 58 _:=z;change ab _ _ _ _ _ _ _ (ag [_,_,_,_,_,_,_,_,_]))|(have:ak 59 _:=z;refine q rfl rfl (c3 0 rfl rfl) ?_)|(have:ak 60 _:=z;refine q rfl rfl (oK (v:=.slice _ _ _) rfl) ?_)|(have:ak 61 _:=z;change ab _ _ _ _ _ _ _ (ag [_,_,_,_]))|(have:ak 62 _:=z;refine q rfl rfl (fC (v:=.slice _ _ _) rfl) ?_)|(have:ak 63 _:=z;refine bZ rfl rfl rfl (c3 0 rfl rfl) ?_)|(have:ak 64 _:=z;refine q rfl rfl (xk rfl) ?_)|(have:ak 65 _:=z;refine q rfl rfl (ei (cs:=[.int _ _,.int _ _]) rfl) ?_)|(have:ak 66 _:=z;refine bZ rfl rfl rfl (s0 rfl) ?_)|(have:ak 67 _:=z;refine L3 rfl rfl rfl ?_)|(have:ak 68 _:=z;change aW _ _ _ _ _ _ _ _ (ag [_,_,_,_,_,_,_,_,_,_]))|(have:ak 69 _:=z;refine bZ rfl rfl rfl (gL rfl rfl rfl) ?_)|(have:ak 70 _:=z;refine q rfl rfl (pu (v:=.int _ _) (λ_=>rfl)) ?_)|(have:ak 71 _:=z;refine q rfl rfl (Bl (v:=.bool _) rfl rfl) ?_));exact z.k):G:=h ⟨k ⟨z.k⟩⟩
theorem JH{c:Nat}{L:List Nat}{G R X:Prop}(z:ed (c::L) R)(k:ed L R->X)(a:Nat.ble 144 c=true:=by rfl)(b:Nat.ble c 167=true:=by rfl)(h:ak c X->G:=by intro z;(first|(have:ak 144 _:=z;refine oP rfl rfl ?_)|(have:ak 145 _:=z;change ab _ _ _ _ _ _ _ (ag [_,_,_,_,_,_,_,_]))|(have:ak 146 _:=z;refine q rfl rfl (oK rfl) ?_)|(have:ak 147 _:=z;refine ab.ret ?_)|(have:ak 148 _:=z;refine bs (cs:=[.int _ _]) rfl ?_)|(have:ak 149 _:=z;refine q rfl rfl (ir rfl rfl U U) ?_)|(have:ak 150 _:=z;refine aW.nil (jA (iL ?_)))|(have:ak 151 _:=z;change aW _ _ _ _ _ _ _ _ (ag [_]))|(have:ak 152 _:=z;change ab _ _ _ _ _ _ _ (ag [_,_,_,_,_,_]))|(have:ak 153 _:=z;refine bZ rfl rfl rfl (fC (v:=.bool _) rfl) ?_)|(have:ak 154 _:=z;refine ab.ret (kO (rt ?_)))|(have:ak 155 _:=z;refine c9 rfl rfl rfl (wp rfl rfl) ?_)|(have:ak 156 _:=z;change aW _ _ _ _ _ _ _ _ (ag [_,_,_,_,_,_,_,_,_,_,_,_,_]))|(have:ak 157 _:=z;refine ab.region ?_)|(have:ak 158 _:=z;refine q rfl rfl (fC (v:=.pointer _) rfl) ?_)|(have:ak 159 _:=z;refine c9 rfl rfl rfl (gtr rfl rfl) ?_)|(have:ak 160 _:=z;refine Rl rfl rfl ?_)|(have:ak 161 _:=z;refine q rfl rfl (uL rfl rfl) ?_)|(have:ak 162 _:=z;refine gA (l:=[.int _ _,.int _ _,.int _ _]) rfl rfl ?_)|(have:ak 163 _:=z;refine eV rfl rfl rfl rfl (gL rfl rfl rfl) ?_)|(have:ak 164 _:=z;refine q rfl rfl (oK (v:=.pointer _) rfl) ?_)|(have:ak 165 _:=z;refine c9 rfl rfl rfl (gL rfl rfl rfl) ?_)|(have:ak 166 _:=z;refine ab.ret (kO (rt (rt (kO (rt ?_))))))|(have:ak 167 _:=z;refine q rfl rfl (fY (vs:=[_,_]) 2 rfl rfl rfl rfl) ?_));exact z.k):G:=h ⟨k ⟨z.k⟩⟩
theorem Jq{c:Nat}{L:List Nat}{G R X:Prop}(z:ed (c::L) R)(k:ed L R->X)(a:Nat.ble 240 c=true:=by rfl)(b:Nat.ble c 263=true:=by rfl)(h:ak c X->G:=by intro z;(first|(have:ak 240 _:=z;refine gA (l:=[.int _ _,.int _ _]) rfl rfl ?_)|(have:ak 241 _:=z;refine q rfl rfl (gtr rfl rfl) ?_)|(have:ak 242 _:=z;refine LX rfl rfl rfl ?_)|(have:ak 243 _:=z;refine bZ rfl rfl rfl (Bl (v:=.bool _) rfl rfl) ?_)|(have:ak 244 _:=z;refine fe (v:=.agg #[_,_]) (l:=[.int _ _,.int _ _]) rfl rfl ?_)|(have:ak 245 _:=z;refine q rfl rfl (pa rfl rfl U U) ?_)|(have:ak 246 _:=z;refine q rfl rfl (fY (vs:=[_,_,_]) 3 rfl rfl rfl rfl) ?_)|(have:ak 247 _:=z;change ab _ _ _ _ _ _ _ (ag [_,_,_,_,_,_,_]))|(have:ak 248 _:=z;refine q rfl rfl (ei (cs:=[.int _ _,.int _ _,.int _ _]) rfl) ?_)|(have:ak 249 _:=z;change aG _ _/\cd _ _ _ _ _ _ _ _ _ _ (ag [_,_,_,_,_,_,_,_,_,_]))|(have:ak 250 _:=z;refine q rfl rfl (len 47 1 rfl rfl) ?_)|(have:ak 251 _:=z;refine bZ rfl rfl rfl (fY (vs:=[_,_]) 2 rfl rfl rfl rfl) ?_)|(have:ak 252 _:=z;change aG _ _/\cd _ _ _ _ _ _ _ _ _ _ (ag [_,_,_,_,_,_,_,_,_]))|(have:ak 253 _:=z;refine q rfl rfl (len 3 1 rfl rfl) ?_)|(have:ak 254 _:=z;refine bZ rfl rfl rfl (fC (v:=.tuple _) rfl) ?_)|(have:ak 255 _:=z;refine q rfl rfl (len 33 1 rfl rfl) ?_)|(have:ak 256 _:=z;change aW _ _ _ _ _ _ _ _ (ag [_,_,_,_,_,_,_,_,_,_,_,_]))|(have:ak 257 _:=z;refine gA (l:=[.int _ _,.int _ _,.bool _]) rfl rfl ?_)|(have:ak 258 _:=z;refine q rfl rfl (ei (cs:=[.int _ _,.int _ _,.bool _]) rfl) ?_)|(have:ak 259 _:=z;refine DM rfl ?_)|(have:ak 260 _:=z;change aG _ _/\cd _ _ _ _ _ _ _ _ _ _ (ag [_,_,_,_,_,_]))|(have:ak 261 _:=z;refine q rfl rfl (conv .u64 .i64 rfl rfl rfl (ow U)) ?_)|(have:ak 262 _:=z;change aG _ _/\cd _ _ _ _ _ _ _ _ _ _ (ag [_,_,_,_,_,_,_]))|(have:ak 263 _:=z;change aG _ _/\cd _ _ _ _ _ _ _ _ _ _ (ag [_,_,_])));exact z.k):G:=h ⟨k ⟨z.k⟩⟩
theorem Jr{c:Nat}{L:List Nat}{G R X:Prop}(z:ed (c::L) R)(k:ed L R->X)(a:Nat.ble 288 c=true:=by rfl)(b:Nat.ble c 311=true:=by rfl)(h:ak c X->G:=by intro z;(first|(have:ak 288 _:=z;refine c9 rfl rfl rfl (leq rfl rfl) ?_)|(have:ak 289 _:=z;change aG _ _/\cd _ _ _ _ _ _ _ _ _ _ (ag [_,_,_,_,_,_,_,_,_,_,_,_,_,_,_,_,_]))|(have:ak 290 _:=z;refine q rfl rfl (c3 2 rfl rfl) ?_)|(have:ak 291 _:=z;refine fe (v:=.agg #[_,_,_]) (l:=[.int _ _,.int _ _,.int _ _]) rfl rfl ?_)|(have:ak 292 _:=z;change aG _ _/\cd _ _ _ _ _ _ _ _ _ _ (ag [_,_,_,_,_,_,_,_]))|(have:ak 293 _:=z;refine bs (cs:=[.int _ _,.int _ _]) rfl ?_)|(have:ak 294 _:=z;refine c9 rfl rfl rfl (c3 3 rfl rfl) ?_)|(have:ak 295 _:=z;refine fe (v:=.agg #[_,_,_]) (l:=[.pointer _,.int _ _,.int _ _]) rfl rfl ?_)|(have:ak 296 _:=z;refine q rfl rfl (fC (v:=.tuple _) rfl) ?_)|(have:ak 297 _:=z;refine q rfl rfl (zy rfl rfl rfl) ?_)|(have:ak 298 _:=z;refine q rfl rfl (wp rfl rfl) ?_)|(have:ak 299 _:=z;refine q rfl rfl (pu (v:=.bool _) (λ_=>rfl)) ?_)|(have:ak 300 _:=z;refine q rfl rfl (fC rfl) ?_)|(have:ak 301 _:=z;refine c9 rfl rfl rfl (fC (v:=.pointer _) rfl) ?_)|(have:ak 302 _:=z;change aG _ _/\cd _ _ _ _ _ _ _ _ _ _ (ag [_,_,_,_,_]))|(have:ak 303 _:=z;refine st (v:=.agg (List.toArray (ints [_,_,_]))) (vs:=ints [_,_,_]) 3 rfl rfl rfl rfl rfl rfl (Nat.le_of_ble_eq_true rfl) rfl ?_)|(have:ak 304 _:=z;refine eV rfl rfl rfl rfl (fC (v:=.pointer _) rfl) ?_)|(have:ak 305 _:=z;refine eV rfl rfl rfl rfl (s0 rfl) ?_)|(have:ak 306 _:=z;refine eV rfl rfl rfl rfl (fC (v:=.int _ _) rfl) ?_)|(have:ak 307 _:=z;refine q rfl rfl (conv .i64 .u64 rfl rfl rfl (pg U)) ?_)|(have:ak 308 _:=z;refine cd.nil (jA (iL ?_)))|(have:ak 309 _:=z;refine c9 rfl rfl rfl (uL rfl rfl) ?_)|(have:ak 310 _:=z;refine c9 rfl rfl rfl (geq rfl rfl) ?_)|(have:ak 311 _:=z;refine c9 rfl rfl rfl (xk rfl) ?_));exact z.k):G:=h ⟨k ⟨z.k⟩⟩
theorem Js{c:Nat}{L:List Nat}{G R X:Prop}(z:ed (c::L) R)(k:ed L R->X)(a:Nat.ble 312 c=true:=by rfl)(b:Nat.ble c 335=true:=by rfl)(h:ak c X->G:=by intro z;(first|(have:ak 312 _:=z;refine st (v:=.agg #[_,_,_,_,_]) (vs:=[_,_,_,_,_]) 5 rfl rfl rfl rfl rfl rfl (Nat.le_of_ble_eq_true rfl) rfl ?_)|(have:ak 313 _:=z;refine bZ rfl rfl rfl (fY (vs:=[_,_,_]) 3 rfl rfl rfl rfl) ?_)|(have:ak 314 _:=z;change ab _ _ _ _ _ _ _ (ag [_,_,_,_,_,_,_,_,_,_]))|(have:ak 315 _:=z;change aW _ _ _ _ _ _ _ _ (ag [_,_,_,_,_,_,_,_,_,_,_]))|(have:ak 316 _:=z;refine q rfl rfl (conv .i64 .u64 rfl rfl rfl rfl) ?_)|(have:ak 317 _:=z;refine q rfl rfl (mul rfl rfl rfl) ?_)|(have:ak 318 _:=z;refine q rfl rfl (fC (v:=.func (.func hb) #[] lb.toArray) rfl) ?_)|(have:ak 319 _:=z;refine c9 rfl rfl rfl (fC (v:=.bool _) rfl) ?_)|(have:ak 320 _:=z;refine q rfl rfl (pu (v:=.slice _ _ _) (λ_=>rfl)) ?_)|(have:ak 321 _:=z;refine ab.exit (mZ (mZ (rC ?_))))|(have:ak 322 _:=z;change ab _ _ _ _ _ _ _ (ag [_,_,_,_,_,_,_,_,_,_,_,_]))|(have:ak 323 _:=z;refine q rfl rfl (len 277 5 rfl rfl) ?_)|(have:ak 324 _:=z;refine ab.bf (fV 0 rfl bN) ?_)|(have:ak 325 _:=z;apply ab.open 1 rfl)|(have:ak 326 _:=z;change aG _ _/\cd _ _ _ _ _ _ _ _ _ _ (ag [_,_,_,_]))|(have:ak 327 _:=z;refine aW.nil ?_)|(have:ak 328 _:=z;refine xf QM.encI ?_)|(have:ak 329 _:=z;refine bZ rfl rfl rfl (Bm (v:=.bool _) rfl rfl) ?_)|(have:ak 330 _:=z;refine q rfl rfl (fY (vs:=ints [_,_,_]) 3 rfl rfl rfl rfl) ?_)|(have:ak 331 _:=z;refine ab.bf (fV 2 rfl bN) ?_)|(have:ak 332 _:=z;refine dm (i:=0) rfl rfl rfl aV (fC (v:=.pointer _) rfl) ?_)|(have:ak 333 _:=z;refine st (v:=.agg #[_,_,_,_]) (vs:=[_,_,_,_]) 4 rfl rfl rfl rfl rfl rfl (Nat.le_of_ble_eq_true rfl) rfl ?_)|(have:ak 334 _:=z;change ab _ _ _ _ _ _ _ (ag [_,_,_,_,_,_,_,_,_,_,_]))|(have:ak 335 _:=z;refine q rfl rfl (ko 3 278 rfl rfl (dP.int rfl) rfl rfl) ?_));exact z.k):G:=h ⟨k ⟨z.k⟩⟩
theorem Jt{c:Nat}{L:List Nat}{G R X:Prop}(z:ed (c::L) R)(k:ed L R->X)(a:Nat.ble 360 c=true:=by rfl)(b:Nat.ble c 383=true:=by rfl)(h:ak c X->G:=by intro z;(first|(have:ak 360 _:=z;refine bZ rfl rfl rfl (c3 9 rfl rfl) ?_)|(have:ak 361 _:=z;refine gA (l:=[.int _ _,.int _ _,.int _ _,.int _ _,.int _ _,.bool _,.int _ _,.slice _ _ _,.slice _ _ _]) rfl rfl ?_)|(have:ak 362 _:=z;refine m6 rfl rfl ?_)|(have:ak 363 _:=z;refine bZ rfl rfl rfl (oK (v:=.int _ _) rfl) ?_)|(have:ak 364 _:=z;refine bZ rfl rfl rfl (c3 2 rfl rfl) ?_)|(have:ak 365 _:=z;refine q rfl rfl (c3 3 rfl rfl) ?_)|(have:ak 366 _:=z;refine c9 rfl rfl rfl (c3 0 rfl rfl) ?_)|(have:ak 367 _:=z;refine bZ rfl rfl rfl (fC (v:=.slice _ _ _) rfl) ?_)|(have:ak 368 _:=z;refine st (v:=.slice _ _ _) (vs:=[_]) 1 rfl rfl rfl rfl rfl rfl (Nat.le_of_ble_eq_true rfl) rfl ?_)|(have:ak 369 _:=z;refine q rfl rfl (geq rfl rfl) ?_)|(have:ak 370 _:=z;refine bZ rfl rfl rfl (oK (v:=.slice _ _ _) rfl) ?_)|(have:ak 371 _:=z;refine c9 rfl rfl rfl (Bm (v:=.bool _) rfl rfl) ?_)|(have:ak 372 _:=z;refine gA (l:=ints [_,_,_]) rfl rfl ?_)|(have:ak 373 _:=z;refine eV rfl rfl rfl rfl (c3 0 rfl rfl) ?_)|(have:ak 374 _:=z;refine eV rfl rfl rfl rfl (c3 2 rfl rfl) ?_)|(have:ak 375 _:=z;refine L2 rfl rfl rfl ai ?_)|(have:ak 376 _:=z;refine q rfl rfl (len 296 2 rfl rfl) ?_)|(have:ak 377 _:=z;refine bZ rfl rfl rfl (xk rfl) ?_)|(have:ak 378 _:=z;refine q rfl rfl (hH 33 1 rfl rfl rfl U eB) ?_)|(have:ak 379 _:=z;refine bZ rfl rfl rfl (fY (vs:=ints [_,_]) 2 rfl rfl rfl rfl) ?_)|(have:ak 380 _:=z;refine bZ rfl rfl rfl (conv .u32 .i64 rfl rfl rfl (nQ U U)) ?_)|(have:ak 381 _:=z;refine gA (l:=[.int _ _,.int _ _,.int _ _,.int _ _,.bool _]) rfl rfl ?_)|(have:ak 382 _:=z;change ab _ _ _ _ _ _ _ (ag [_,_,_,_,_,_,_,_,_,_,_,_,_]))|(have:ak 383 _:=z;refine q rfl rfl (add rfl rfl rfl) ?_));exact z.k):G:=h ⟨k ⟨z.k⟩⟩
theorem Ju{c:Nat}{L:List Nat}{G R X:Prop}(z:ed (c::L) R)(k:ed L R->X)(a:Nat.ble 384 c=true:=by rfl)(b:Nat.ble c 407=true:=by rfl)(h:ak c X->G:=by intro z;(first|(have:ak 384 _:=z;refine bZ rfl rfl rfl (wp rfl rfl) ?_)|(have:ak 385 _:=z;refine q rfl rfl (fY (vs:=[aa op,aa s,aa a,aa b,aa bJ,.bool ci,bm x,.slice bE ws.length bY,.slice bI aZ.length b5,aS t,aS cB,aS h,aa r]) 13 rfl rfl rfl aV) ?_)|(have:ak 386 _:=z;refine L1 rfl rfl rfl rfl ?_)|(have:ak 387 _:=z;refine q rfl rfl (hH 3 1 rfl rfl rfl U eB) ?_)|(have:ak 388 _:=z;refine ab.bf (fV 3 rfl bN) ?_)|(have:ak 389 _:=z;refine c9 rfl rfl rfl (Bl (v:=.bool _) rfl rfl) ?_)|(have:ak 390 _:=z;refine eV rfl rfl rfl rfl (oR 0 rfl rfl eB) ?_)|(have:ak 391 _:=z;refine bZ rfl rfl rfl (ir rfl rfl U U) ?_)|(have:ak 392 _:=z;refine aW.known 5 rfl (c:=false) (db U) ?_)|(have:ak 393 _:=z;refine c9 rfl rfl rfl (fC (v:=.slice _ _ _) rfl) ?_)|(have:ak 394 _:=z;refine q rfl rfl (A5 rfl) ?_)|(have:ak 395 _:=z;refine q rfl rfl (Qe rfl) ?_)|(have:ak 396 _:=z;refine q rfl rfl (AS (vp:=[]) (vo:=[.pointer _]) rfl rfl) ?_)|(have:ak 397 _:=z;refine dm (i:=2) rfl rfl rfl aV (c3 0 rfl rfl) ?_)|(have:ak 398 _:=z;refine q rfl rfl (fY (vs:=[_,_,_,_,_]) 5 rfl rfl rfl rfl) ?_)|(have:ak 399 _:=z;refine gA (l:=[.int _ _,.slice _ _ _,.slice _ _ _]) rfl rfl ?_)|(have:ak 400 _:=z;change aG _ _/\cd _ _ _ _ _ _ _ _ _ _ (ag [_,_,_,_,_,_,_,_,_,_,_]))|(have:ak 401 _:=z;refine q rfl rfl (c3 5 rfl rfl) ?_)|(have:ak 402 _:=z;refine bZ rfl rfl rfl (c3 4 rfl rfl) ?_)|(have:ak 403 _:=z;refine c9 rfl rfl rfl (fY (vs:=[_,_,_]) 3 rfl rfl rfl rfl) ?_)|(have:ak 404 _:=z;refine bZ rfl rfl rfl (ei (cs:=[aa op,aa s,aa a,aa b,aa bJ,.bool (decide ((f9:Int)=1)),bm cG,.slice none 0 0,.slice none 0 0]) aV) ?_)|(have:ak 405 _:=z;refine st (v:=.agg (List.toArray [aa op,aa s,aa a,aa b,aa bJ,.bool (decide ((f9:Int)=1)),bm cG,.slice none 0 0,.slice none 0 0])) (vs:=[aa op,aa s,aa a,aa b,aa bJ,.bool (decide ((f9:Int)=1)),bm cG,.slice none 0 0,.slice none 0 0]) 9 rfl rfl rfl rfl rfl rfl (Nat.le_of_ble_eq_true rfl) rfl ?_)|(have:ak 406 _:=z;refine fe (v:=.agg (List.toArray [aa op,aa s,aa a,aa b,aa bJ,.bool ci,bm x,.slice bE ws.length bY,.slice bI aZ.length b5,aS t,aS cB,aS h,aa r])) (l:=[aa op,aa s,aa a,aa b,aa bJ,.bool ci,bm x,.slice bE ws.length bY,.slice bI aZ.length b5,aS t,aS cB,aS h,aa r]) rfl rfl ?_)|(have:ak 407 _:=z;refine q rfl rfl (c3 1 rfl rfl) ?_));exact z.k):G:=h ⟨k ⟨z.k⟩⟩
theorem Jv{c:Nat}{L:List Nat}{G R X:Prop}(z:ed (c::L) R)(k:ed L R->X)(a:Nat.ble 408 c=true:=by rfl)(b:Nat.ble c 431=true:=by rfl)(h:ak c X->G:=by intro z;(first|(have:ak 408 _:=z;refine q rfl rfl (lss rfl rfl) ?_)|(have:ak 409 _:=z;refine c9 rfl rfl rfl (lss rfl rfl) ?_)|(have:ak 410 _:=z;refine q rfl rfl (c3 4 rfl rfl) ?_)|(have:ak 411 _:=z;refine c9 rfl rfl rfl (zy rfl rfl rfl) ?_)|(have:ak 412 _:=z;refine q rfl rfl (n7 0 rfl rfl) ?_)|(have:ak 413 _:=z;refine dm (i:=1) rfl rfl rfl aV (s0 rfl) ?_)|(have:ak 414 _:=z;refine dm (i:=3) rfl rfl rfl aV (gL rfl rfl rfl) ?_)|(have:ak 415 _:=z;refine q rfl rfl (len 427 4 rfl rfl) ?_)|(have:ak 416 _:=z;refine q rfl rfl (hH 427 4 rfl rfl rfl U eB) ?_)|(have:ak 417 _:=z;refine c9 rfl rfl rfl (len 277 5 rfl rfl) ?_)|(have:ak 418 _:=z;refine q rfl rfl (hH 277 5 rfl rfl rfl U eB) ?_)|(have:ak 419 _:=z;change aG _ _/\cd _ _ _ _ _ _ _ _ _ _ (ag [_,_,_,_,_,_,_,_,_,_,_,_,_,_,_]))|(have:ak 420 _:=z;change aW _ _ _ _ _ _ _ _ (ag [_,_,_,_,_,_,_,_,_,_,_,_,_,_,_]))|(have:ak 421 _:=z;refine ab.bf (fV 3 rfl ef) ?_)|(have:ak 422 _:=z;refine fe (v:=.agg #[_,_,_]) (l:=[.int _ _,.int _ _,.bool _]) rfl rfl ?_)|(have:ak 423 _:=z;refine aO (vk b T id) rfl eF.p trivial ?_)|(have:ak 424 _:=z;refine bZ rfl rfl rfl (ko 33 35 rfl rfl (dP.u32 rfl) rfl rfl) ?_)|(have:ak 425 _:=z;change aW _ _ _ _ _ _ _ _ (ag [_,_,_,_,_,_,_,_,_,_,_,_,_,_]))|(have:ak 426 _:=z;change aG _ _/\ea _ _ _ _ _ _ _ _ _ _ _ (ag [_,_,_]))|(have:ak 427 _:=z;refine bZ rfl rfl rfl (c3 10 rfl rfl) ?_)|(have:ak 428 _:=z;refine bZ rfl rfl rfl (c3 11 rfl rfl) ?_)|(have:ak 429 _:=z;refine q rfl rfl (c3 7 rfl rfl) ?_)|(have:ak 430 _:=z;refine bZ rfl rfl rfl (c3 1 rfl rfl) ?_)|(have:ak 431 _:=z;refine bZ rfl rfl rfl (pu (v:=.int _ _) (λ_=>rfl)) ?_));exact z.k):G:=h ⟨k ⟨z.k⟩⟩
theorem Jw{c:Nat}{L:List Nat}{G R X:Prop}(z:ed (c::L) R)(k:ed L R->X)(a:Nat.ble 432 c=true:=by rfl)(b:Nat.ble c 455=true:=by rfl)(h:ak c X->G:=by intro z;(first|(have:ak 432 _:=z;refine q rfl rfl (conv .u32 .i64 rfl rfl rfl (nQ U U)) ?_)|(have:ak 433 _:=z;refine bZ rfl rfl rfl (c3 3 rfl rfl) ?_)|(have:ak 434 _:=z;apply ab.open 2 rfl)|(have:ak 435 _:=z;apply aW.open 0 rfl)|(have:ak 436 _:=z;refine bZ rfl rfl rfl (lW 8 90 1 rfl rfl rfl U U) ?_)|(have:ak 437 _:=z;refine ab.exit (mZ (rC (iL ?_))))|(have:ak 438 _:=z;refine q rfl rfl (hH 405 3 rfl rfl rfl U eB) ?_)|(have:ak 439 _:=z;refine bZ rfl rfl rfl (gtr rfl rfl) ?_)|(have:ak 440 _:=z;refine bZ rfl rfl rfl (pa rfl rfl U U) ?_)|(have:ak 441 _:=z;refine q rfl rfl (FM 3 3 rfl rfl (dP.int rfl) rfl rfl) ?_)|(have:ak 442 _:=z;refine q rfl rfl (hH 47 1 rfl rfl rfl U eB) ?_)|(have:ak 443 _:=z;refine c9 rfl rfl rfl (pa rfl rfl U U) ?_)|(have:ak 444 _:=z;refine eV rfl rfl rfl rfl (xk rfl) ?_)|(have:ak 445 _:=z;refine bZ rfl rfl rfl (ei (cs:=[.int _ _,.int _ _]) rfl) ?_)|(have:ak 446 _:=z;change aG _ _/\cd _ _ _ _ _ _ _ _ _ _ (ag [_,_,_,_,_,_,_,_,_,_,_,_]))|(have:ak 447 _:=z;refine q rfl rfl (ei (cs:=[.pointer _,.pointer _,.pointer _]) rfl) ?_)|(have:ak 448 _:=z;refine fe (v:=.agg #[_,_,_]) (l:=[.pointer _,.pointer _,.pointer _]) rfl rfl ?_)|(have:ak 449 _:=z;refine fe (v:=.int _ _) (l:=[.int _ _]) rfl rfl ?_)|(have:ak 450 _:=z;refine gA (l:=[.int _ _,.int _ _,.int _ _,.bool _]) rfl rfl ?_)|(have:ak 451 _:=z;change aW _ _ _ _ _ _ _ _ (ag [_,_,_,_,_,_,_,_,_,_,_,_,_,_,_,_]))|(have:ak 452 _:=z;refine bZ rfl rfl rfl (pu (v:=.slice _ _ _) (λ_=>rfl)) ?_)|(have:ak 453 _:=z;refine q rfl rfl (c3 17 rfl rfl) ?_)|(have:ak 454 _:=z;refine q rfl rfl (ko 3 211 rfl rfl (dP.int rfl) rfl rfl) ?_)|(have:ak 455 _:=z;refine bZ rfl rfl rfl (c3 6 rfl rfl) ?_));exact z.k):G:=h ⟨k ⟨z.k⟩⟩
theorem Jx{c:Nat}{L:List Nat}{G R X:Prop}(z:ed (c::L) R)(k:ed L R->X)(a:Nat.ble 456 c=true:=by rfl)(b:Nat.ble c 479=true:=by rfl)(h:ak c X->G:=by intro z;(first|(have:ak 456 _:=z;refine bZ rfl rfl rfl (c3 7 rfl rfl) ?_)|(have:ak 457 _:=z;refine q rfl rfl (ei (cs:=[aa 0,aa 0,aa 0,aa 0,aa 0,.bool false,bm 0,.slice none 0 0,.slice none 0 0]) aV) ?_)|(have:ak 458 _:=z;refine st (v:=.agg (List.toArray [aa 0,aa 0,aa 0,aa 0,aa 0,.bool false,bm 0,.slice none 0 0,.slice none 0 0])) (vs:=[aa 0,aa 0,aa 0,aa 0,aa 0,.bool false,bm 0,.slice none 0 0,.slice none 0 0]) 9 rfl rfl rfl rfl rfl rfl (Nat.le_of_ble_eq_true rfl) rfl ?_)|(have:ak 459 _:=z;change aG _ _/\ea _ _ _ _ _ _ _ _ _ _ _ (ag [_,_,_,_,_,_,_,_,_,_,_,_,_,_,_,_]))|(have:ak 460 _:=z;refine q rfl rfl (len 103 12 rfl rfl) ?_)|(have:ak 461 _:=z;refine q rfl rfl (Bm (v:=.bool _) rfl rfl) ?_)|(have:ak 462 _:=z;apply ab.open 0 rfl)|(have:ak 463 _:=z;refine gA (l:=[.pointer _,.int _ _,.int _ _]) rfl rfl ?_)|(have:ak 464 _:=z;refine q rfl rfl (oe rfl rfl U U) ?_)|(have:ak 465 _:=z;refine bZ rfl rfl rfl (len 405 3 rfl rfl) ?_)|(have:ak 466 _:=z;refine aW.known 7 rfl (c:=true) (c1 U) ?_)|(have:ak 467 _:=z;refine c9 rfl rfl rfl (conv .i64 .u64 rfl rfl rfl (pg U)) ?_)|(have:ak 468 _:=z;refine c9 rfl rfl rfl (len 5 1 rfl rfl) ?_)|(have:ak 469 _:=z;refine c9 rfl rfl rfl (p3 rfl rfl U U) ?_)|(have:ak 470 _:=z;refine q rfl rfl (len 5 1 rfl rfl) ?_)|(have:ak 471 _:=z;refine aW.known 7 rfl (c:=false) (db U) ?_)|(have:ak 472 _:=z;refine q rfl rfl (lW 21 294 1 rfl rfl rfl U U) ?_)|(have:ak 473 _:=z;refine q rfl rfl (gL rfl rfl (yX U U)) ?_)|(have:ak 474 _:=z;refine aW.bf (fV 2 rfl fX) ?_)|(have:ak 475 _:=z;refine q rfl rfl (hH 296 2 rfl rfl rfl U eB) ?_)|(have:ak 476 _:=z;refine eV rfl rfl rfl rfl (c3 1 rfl rfl) ?_)|(have:ak 477 _:=z;refine gA (l:=[.pointer _,.int _ _]) rfl rfl ?_)|(have:ak 478 _:=z;refine q rfl rfl (ei (cs:=[.int _ _,.int _ _,.int _ _,.int _ _,.int _ _]) rfl) ?_)|(have:ak 479 _:=z;refine c9 rfl rfl rfl (c3 4 rfl rfl) ?_));exact z.k):G:=h ⟨k ⟨z.k⟩⟩
theorem Jz{c:Nat}{L:List Nat}{G R X:Prop}(z:ed (c::L) R)(k:ed L R->X)(a:Nat.ble 480 c=true:=by rfl)(b:Nat.ble c 503=true:=by rfl)(h:ak c X->G:=by intro z;(first|(have:ak 480 _:=z;refine bZ rfl rfl rfl (oK (v:=.pointer _) rfl) ?_)|(have:ak 481 _:=z;refine aW.bf (fV 4 rfl fX) ?_)|(have:ak 482 _:=z;refine aW.known 5 rfl (c:=true) (c1 U) ?_)|(have:ak 483 _:=z;refine q rfl rfl (uJ rfl) ?_)|(have:ak 484 _:=z;refine q rfl rfl (conv .i64 .u32 rfl rfl rfl (re U U)) ?_)|(have:ak 485 _:=z;refine st (v:=.agg (List.toArray (ints [_,_]))) (vs:=ints [_,_]) 2 rfl rfl rfl rfl rfl rfl (Nat.le_of_ble_eq_true rfl) rfl ?_)|(have:ak 486 _:=z;refine fe (v:=.agg #[_,_,_,_]) (l:=[.int _ _,.int _ _,.int _ _,.slice _ _ _]) rfl rfl ?_)|(have:ak 487 _:=z;refine bZ rfl rfl rfl (hH 3 1 rfl rfl rfl U eB) ?_)|(have:ak 488 _:=z;refine ap 4 rfl rfl rfl rfl rfl (Nat.le_of_ble_eq_true rfl) (show _=cO .u32 [x]from rfl) rfl U gv ?_)|(have:ak 489 _:=z;refine q rfl rfl (ei (cs:=[.pointer _,.pointer _,.pointer _,.pointer _,.pointer _,.pointer _,.pointer _,.pointer _,.pointer _,.pointer _,.pointer _]) rfl) ?_)|(have:ak 490 _:=z;refine fe (v:=.agg _) (l:=[.pointer _,.pointer _,.pointer _,.pointer _,.pointer _,.pointer _,.pointer _,.pointer _,.pointer _,.pointer _,.pointer _]) rfl rfl ?_)|(have:ak 491 _:=z;refine q rfl rfl (gM (vs:=[_,_,_,_]) 4 rfl rfl (k9 uH hm 0 4 U U (show _=[aa (f1:Int),aa t1,aa dT,.bool g1]from rfl)) rfl an) ?_)|(have:ak 492 _:=z;refine q rfl rfl (ei (cs:=[.int _ _,.slice _ _ _,.slice _ _ _]) rfl) ?_)|(have:ak 493 _:=z;refine ab.ret (rt (kO (rt (rt (kO (rt ?_)))))))|(have:ak 494 _:=z;refine c9 rfl rfl rfl (len 47 1 rfl rfl) ?_)|(have:ak 495 _:=z;change ab _ _ _ _ _ _ _ (ag [_,_,_,_,_,_,_,_,_,_,_,_,_,_,_,_]))|(have:ak 496 _:=z;refine st (v:=.bool _) (vs:=[_]) 1 rfl rfl rfl rfl rfl rfl (Nat.le_of_ble_eq_true rfl) rfl ?_)|(have:ak 497 _:=z;refine cJ [0,1,2,3,4,5,6,7,8] (aG.refl _) ?_)|(have:ak 498 _:=z;refine bZ rfl rfl rfl (ko 3 278 rfl rfl (dP.int rfl) rfl rfl) ?_)|(have:ak 499 _:=z;refine ab.bf (B:=ag [dg b (cY T bR),F]) ((aA (⟨bx,a,af,aP,B,M,ad,cap⟩:jo) bB ai)) ?_)|(have:ak 500 _:=z;refine q rfl rfl (FM 33 35 rfl rfl (dP.u32 rfl) rfl rfl) ?_)|(have:ak 501 _:=z;refine bZ rfl rfl rfl (conv .i64 .u32 rfl rfl rfl (re U U)) ?_)|(have:ak 502 _:=z;refine bZ rfl rfl rfl (c3 5 rfl rfl) ?_)|(have:ak 503 _:=z;refine gA (l:=Pg) rfl rfl ?_));exact z.k):G:=h ⟨k ⟨z.k⟩⟩
theorem JA{c:Nat}{L:List Nat}{G R X:Prop}(z:ed (c::L) R)(k:ed L R->X)(a:Nat.ble 504 c=true:=by rfl)(b:Nat.ble c 527=true:=by rfl)(h:ak c X->G:=by intro z;(first|(have:ak 504 _:=z;refine st (v:=.agg qR.toArray) (vs:=qR) 24 rfl rfl rfl rfl rfl rfl (Nat.le_of_ble_eq_true rfl) rfl ?_)|(have:ak 505 _:=z;refine ab.ret (rt (kO (rt ?_))))|(have:ak 506 _:=z;refine q rfl rfl (c3 6 rfl rfl) ?_)|(have:ak 507 _:=z;refine gA (l:=[.int _ _,.int _ _,.int _ _,.slice _ _ _]) rfl rfl ?_)|(have:ak 508 _:=z;refine q rfl rfl (ei (cs:=[.pointer _]) rfl) ?_)|(have:ak 509 _:=z;refine fe (v:=.agg _) (l:=[.int _ _,.int _ _,.int _ _,.int _ _,.int _ _,.bool _,.int _ _,.slice _ _ _,.slice _ _ _]) rfl rfl ?_)|(have:ak 510 _:=z;refine c9 rfl rfl rfl (hH 103 12 rfl rfl rfl U eB) ?_)|(have:ak 511 _:=z;refine c9 rfl rfl rfl (oR 3 rfl rfl eB) ?_)|(have:ak 512 _:=z;refine Ml (x,y) ⟨rL,rfl⟩ ?_)|(have:ak 513 _:=z;refine st (v:=.int _ _) (vs:=[_]) 1 rfl rfl rfl rfl rfl rfl (Nat.le_of_ble_eq_true rfl) rfl ?_)|(have:ak 514 _:=z;refine c9 rfl rfl rfl (s0 rfl) ?_)|(have:ak 515 _:=z;refine eh (v:=.int _ _) (vs:=[_]) 1 rfl rfl rfl rfl rfl rfl an U (wL (i:=i) U U _) ?_)|(have:ak 516 _:=z;refine q rfl rfl (kK 3 1 rfl rfl rfl U U eB) ?_)|(have:ak 517 _:=z;refine bZ rfl rfl rfl (gL rfl rfl (Hu oX U)) ?_)|(have:ak 518 _:=z;refine cJ [0,1,2,3,4,5,6,7,8,9] (aG.refl _) ?_)|(have:ak 519 _:=z;refine q rfl rfl (dG rfl rfl (hj qN)) ?_)|(have:ak 520 _:=z;refine bZ rfl rfl rfl (c3 8 rfl rfl) ?_)|(have:ak 521 _:=z;refine eV rfl rfl rfl rfl (kK 405 3 rfl rfl rfl U U eB) ?_)|(have:ak 522 _:=z;refine aW.known 11 rfl (c:=false) (db U) ?_)|(have:ak 523 _:=z;refine fe (v:=.agg #[_,_]) (l:=[.pointer _,.int _ _]) rfl rfl ?_)|(have:ak 524 _:=z;refine q rfl rfl (ot 296 2 k rfl rfl rfl rfl U) ?_)|(have:ak 525 _:=z;refine aW.known 11 rfl (c:=true) (c1 U) ?_)|(have:ak 526 _:=z;refine fe (v:=.agg #[_,_,_,_,_]) (l:=[.int _ _,.int _ _,.int _ _,.int _ _,.int _ _]) rfl rfl ?_)|(have:ak 527 _:=z;refine ab.bf (fV 1 rfl bN) ?_));exact z.k):G:=h ⟨k ⟨z.k⟩⟩
theorem JB{c:Nat}{L:List Nat}{G R X:Prop}(z:ed (c::L) R)(k:ed L R->X)(a:Nat.ble 528 c=true:=by rfl)(b:Nat.ble c 551=true:=by rfl)(h:ak c X->G:=by intro z;(first|(have:ak 528 _:=z;refine q rfl rfl (lW 8 165 1 rfl rfl rfl U U) ?_)|(have:ak 529 _:=z;refine q rfl rfl (ei (cs:=[.pointer _,.int _ _,.int _ _]) rfl) ?_)|(have:ak 530 _:=z;refine bZ rfl rfl rfl (n7 0 rfl rfl) ?_)|(have:ak 531 _:=z;refine q rfl rfl (ei (cs:=[.int _ _,.int _ _,.slice _ _ _]) rfl) ?_)|(have:ak 532 _:=z;refine fe (v:=.pointer _) (l:=[.pointer _]) rfl rfl ?_)|(have:ak 533 _:=z;refine q rfl rfl (dG rfl rfl rfl) ?_)|(have:ak 534 _:=z;refine ap 8 rfl rfl rfl rfl rfl (Nat.le_of_ble_eq_true rfl) rfl rfl U gv ?_)|(have:ak 535 _:=z;refine dm (i:=6) rfl rfl rfl aV (gL rfl rfl rfl) ?_)|(have:ak 536 _:=z;refine q rfl rfl (ei (cs:=ints [_,_]) rfl) ?_)|(have:ak 537 _:=z;refine gA (l:=ints [_,_]) rfl rfl ?_)|(have:ak 538 _:=z;refine bZ rfl rfl rfl (uL rfl rfl) ?_)|(have:ak 539 _:=z;refine bZ rfl rfl rfl (ei (cs:=[.int _ _,.int _ _,.int _ _,.slice _ _ _]) rfl) ?_)|(have:ak 540 _:=z;refine ab.bf (fV 5 rfl bN) ?_)|(have:ak 541 _:=z;refine bZ rfl rfl rfl (ko 3 216 rfl rfl (dP.int rfl) rfl rfl) ?_)|(have:ak 542 _:=z;refine ap 8 rfl rfl rfl rfl rfl (Nat.le_of_ble_eq_true rfl) (show _=ints [t.id]from rfl) rfl U gv ?_)|(have:ak 543 _:=z;refine bZ rfl rfl rfl (conv .u64 .i64 rfl rfl rfl (ow U)) ?_)|(have:ak 544 _:=z;refine ab.exit (mZ (mZ (rC (jA (iL ?_))))))|(have:ak 545 _:=z;change aG _ _/\ea _ _ _ _ _ _ _ _ _ _ _ (ag [_,_,_,_,_,_,_]))|(have:ak 546 _:=z;refine ea.of [(7,false),(8,false),(9,false),(10,true),(11,true),(12,false)] aV rfl ?_)|(have:ak 547 _:=z;refine eV rfl rfl rfl rfl (wp rfl rfl) ?_)|(have:ak 548 _:=z;refine ea.of [(6,true),(7,false),(8,false),(9,false),(11,true),(12,false)] aV rfl ?_)|(have:ak 549 _:=z;refine q rfl rfl (ru (a:=fL) (b:=rg) rfl rfl U U rfl) ?_)|(have:ak 550 _:=z;refine aW.known 62 rfl (c:=false) (db U) ?_)|(have:ak 551 _:=z;refine q rfl rfl (bG.to (v:=((off %8:Nat):Int)) (p3 rfl rfl U U) U) ?_));exact z.k):G:=h ⟨k ⟨z.k⟩⟩
theorem JC{c:Nat}{L:List Nat}{G R X:Prop}(z:ed (c::L) R)(k:ed L R->X)(a:Nat.ble 552 c=true:=by rfl)(b:Nat.ble c 575=true:=by rfl)(h:ak c X->G:=by intro z;(first|(have:ak 552 _:=z;refine q rfl rfl (bG.to (v:=((a+off:Nat):Int)) (ir (a:=((a:Nat):Int)) (b:=((off:Nat):Int)) rfl rfl U U) U) ?_)|(have:ak 553 _:=z;refine q rfl rfl (ko 3 318 rfl rfl (dP.int rfl) rfl rfl) ?_)|(have:ak 554 _:=z;refine q rfl rfl (lW 16 3 1 rfl rfl rfl U U) ?_)|(have:ak 555 _:=z;refine ab.bf (fV 6 rfl ef) ?_)|(have:ak 556 _:=z;refine q rfl rfl (len 75 3 rfl rfl) ?_)|(have:ak 557 _:=z;refine q rfl rfl (len 71 2 rfl rfl) ?_)|(have:ak 558 _:=z;refine ab.bf (B:=ag [c4 aF af top n ⟨X,T,aN,hv,bj,aY,I,bq,lv⟩ [],F]) (aA (⟨aM,aX,aL,hm,bc,lm,bp⟩:dj) ⟨ax,aU⟩ ai) ?_)|(have:ak 559 _:=z;refine aW.bf (B:=ag [c4 aF af top n ⟨X,T,aN,hv,bj,aY,bu,bq,lv⟩ [],F]) (aA (⟨aM,aX,aL,hm,bc,lm,bp⟩:dj) ⟨ax.oY fH.2.1,aU.oY bu⟩ ai) ?_)|(have:ak 560 _:=z;refine c9 rfl rfl rfl (c3 8 rfl rfl) ?_)|(have:ak 561 _:=z;refine bZ rfl rfl rfl (lW 19 340 3 rfl rfl rfl U U) ?_)|(have:ak 562 _:=z;refine fe (v:=.agg #[_]) (l:=[.pointer _]) rfl rfl ?_)|(have:ak 563 _:=z;refine q rfl rfl (fY (vs:=_) 9 rfl rfl rfl rfl) ?_)|(have:ak 564 _:=z;refine q rfl rfl (conv .i64 .u64 rfl rfl rfl (pg (a:=0) an)) ?_)|(have:ak 565 _:=z;refine gA (l:=[.int _ _,.int _ _,.slice _ _ _]) rfl rfl ?_)|(have:ak 566 _:=z;refine q rfl rfl (ei (cs:=[.int _ _,.int _ _,.int _ _,.int _ _,.int _ _,.bool _,.int _ _,.slice _ _ _,.slice _ _ _]) rfl) ?_)|(have:ak 567 _:=z;refine fe (v:=.agg (List.toArray [aa op,aa s,aa a,aa b,aa bJ,.bool ci,bm x,.slice bE ws.length bY,.slice bI aZ.length b5])) (l:=[aa op,aa s,aa a,aa b,aa bJ,.bool ci,bm x,.slice bE ws.length bY,.slice bI aZ.length b5]) rfl rfl ?_)|(have:ak 568 _:=z;refine q rfl rfl (hH 103 12 rfl rfl rfl U eB) ?_)|(have:ak 569 _:=z;refine c9 rfl rfl rfl (c3 1 rfl rfl) ?_)|(have:ak 570 _:=z;refine q rfl rfl (AZ rfl rfl rfl) ?_)|(have:ak 571 _:=z;apply aW.open 1 rfl)|(have:ak 572 _:=z;refine ab.loop (ι:=Nat) (λi=>i<=xs.length/\∀j t,j<i->xs[j]? =some t->pr t=false) (λi=>[(0,.slice ad xs.length cap),(1,.func (.func hb) #[] lb.toArray),(7,aa xs.length),(8,aa i)]) (λi=>ag [F]) (λi=>xs.length-i) 0 ⟨Nat.zero_le _,by intro j t h;omega⟩ bH (ao (a7 _)) ?_)|(have:ak 573 _:=z;refine ab.loop (ι:=Nat×Nat×List Int) (λs=>hK xs pr s.1 s.2.1 s.2.2) (λs=>[(0,.slice ad xs.length cap),(1,.func (.func hb) #[] lb.toArray),(5,aa ((s.1:Nat):Int)),(6,aa ((s.2.1:Nat):Int))]) (λs=>ag [a6 3 1 ad xs.length cap (ints s.2.2),F]) (λs=>xs.length-s.2.1) ⟨k,k+1,xs⟩ aN bH (ao (ao (a7 _))) ?_)|(have:ak 574 _:=z;refine aO (r1 en _ aH S.length (ja A S) id) rfl (d8 0 rfl (d8 1 rfl (ez _))) trivial ?_)|(have:ak 575 _:=z;refine ap 8 rfl rfl rfl rfl rfl (Nat.le_of_ble_eq_true rfl) (show _=ints [id]from rfl) rfl U gv ?_));exact z.k):G:=h ⟨k ⟨z.k⟩⟩
theorem JD{c:Nat}{L:List Nat}{G R X:Prop}(z:ed (c::L) R)(k:ed L R->X)(a:Nat.ble 576 c=true:=by rfl)(b:Nat.ble c 599=true:=by rfl)(h:ak c X->G:=by intro z;(first|(have:ak 576 _:=z;refine st (v:=.slice _ _ _) (vs:=[_]) 1 rfl rfl rfl rfl rfl rfl (by rw[R0];simp;omega) (R1 _ oX U) ?_)|(have:ak 577 _:=z;refine ab.bf (B:=ag [eC en (iY S t.id (t.left-1)),F]) (aA ⟨ad,cap,aH,A⟩ NF (b9 1 rfl (congrArg (aj en 261) (EF (λx=>by rw[Hy]))) (pI 3 rfl (λx _=>by dsimp only[mG];rw[Hy]) (List.Perm.refl _) (b9 1 rfl (by rw[Ei (Hx S t.id (t.left-1)),BF]) (cX 0 0 ⟨t.id,t.prio,t.whole,t.left-1⟩ rfl rfl rfl (λ_ _=>rfl) (Sk aQ.bC bN _) (ao (a7 _))))))) ?_)|(have:ak 578 _:=z;refine bZ rfl rfl rfl (AS (vp:=[]) (vo:=[.pointer _]) rfl rfl) ?_)|(have:ak 579 _:=z;refine fe (v:=.agg (List.toArray (ints [_,_]))) (l:=ints [_,_]) rfl rfl ?_)|(have:ak 580 _:=z;refine fe (v:=.agg (List.toArray (ints [_,_,_]))) (l:=ints [_,_,_]) rfl rfl ?_)|(have:ak 581 _:=z;refine bZ rfl rfl rfl (fY (vs:=ints [_,_,_]) 3 rfl rfl rfl rfl) ?_)|(have:ak 582 _:=z;refine eV rfl rfl rfl rfl (fY (vs:=ints [_,_]) 2 rfl rfl rfl rfl) ?_)|(have:ak 583 _:=z;refine ab.draw _ [8] [0,1,2,3,4,5,6,7,-8] aV aV (aG.refl _) ?_)|(have:ak 584 _:=z;refine q rfl rfl (bG.to (v:=((fS n:Nat):Int)) (ln rfl rfl U U U) (by rw[fS];omega)) ?_)|(have:ak 585 _:=z;refine q rfl rfl (bG.to (v:=((o/64:Nat):Int)) (ln rfl rfl U U U) U) ?_)|(have:ak 586 _:=z;refine q rfl rfl (bG.to (v:=((o %64:Nat):Int)) (p3 rfl rfl U U) U) ?_)|(have:ak 587 _:=z;refine bZ rfl rfl rfl (lW 21 294 1 rfl rfl rfl U U) ?_)|(have:ak 588 _:=z;refine K5 (ME (some ⟨B gj.aC,0,none⟩) ((gj.aC:Int)*1024) t) rfl rfl (ez _) trivial ?_)|(have:ak 589 _:=z;refine bZ rfl rfl rfl (ot 296 2 (k+1) rfl rfl rfl rfl U) ?_)|(have:ak 590 _:=z;refine ab.draw _ [11] [0,1,2,3,4,5,6,8,9,-7,10,-11] aV aV (ao (a7 _)) ?_)|(have:ak 591 _:=z;refine bZ rfl rfl rfl (lW 8 165 1 rfl rfl rfl U U) ?_)|(have:ak 592 _:=z;refine q rfl rfl (Al 256 210 5 rfl rfl rfl U U) ?_)|(have:ak 593 _:=z;refine ab.loop (ι:=Nat) (λi=>i<=l.length/\∀j t,j<i->l[j]? =some t->pr t=false) (λi=>[(0,.slice ad l.length cap),(1,.func (.func hb) #[] lb.toArray),(7,aa l.length),(8,aa i)]) (λi=>ag [F]) (λi=>l.length-i) 0 ⟨Nat.zero_le _,by intro j t h;omega⟩ bH (ao (a7 _)) ?_)|(have:ak 594 _:=z;refine c9 rfl rfl rfl (Al 256 210 5 rfl rfl rfl U U) ?_)|(have:ak 595 _:=z;refine bZ rfl rfl rfl (Al 256 210 5 rfl rfl rfl U U) ?_)|(have:ak 596 _:=z;refine cJ [0,1,2,3,4,5,6,7,8,9,10,11,12,13,14,15,16,17,18,19] (aG.refl _) ?_)|(have:ak 597 _:=z;refine ap 4 rfl rfl rfl rfl rfl (Nat.le_of_ble_eq_true rfl) (show _=cO .u32 [z]from rfl) rfl U gv ?_)|(have:ak 598 _:=z;refine aO (pL b aH bD L.length last (iJ A L) par) rfl (d8 0 rfl (d8 0 rfl (ez _))) trivial ?_)|(have:ak 599 _:=z;refine bZ rfl rfl rfl (ko (a:=(_,_)) 78 3 rfl rfl (dP.pair aV) rfl rfl) ?_));exact z.k):G:=h ⟨k ⟨z.k⟩⟩
theorem JE{c:Nat}{L:List Nat}{G R X:Prop}(z:ed (c::L) R)(k:ed L R->X)(a:Nat.ble 600 c=true:=by rfl)(b:Nat.ble c 623=true:=by rfl)(h:ak c X->G:=by intro z;(first|(have:ak 600 _:=z;refine lY (a:=(_,_)) 78 3 rfl (dP.pair aV) rfl rfl rfl ?_)|(have:ak 601 _:=z;refine ab.draw _ [13,15] [0,1,2,3,4,5,6,7,8,9,10,11,12,-13,14,-15] aV aV (aG.refl _) ?_)|(have:ak 602 _:=z;refine bZ rfl rfl rfl (kK 3 1 rfl rfl rfl U U eB) ?_)|(have:ak 603 _:=z;refine ap 8 rfl rfl rfl rfl rfl U (ES rfl) (rM _) U gv ?_)|(have:ak 604 _:=z;refine bZ rfl rfl rfl (kK 33 1 rfl rfl rfl U U eB) ?_)|(have:ak 605 _:=z;refine ap 4 rfl rfl rfl rfl rfl U (Qr .u32 rfl) (Gj .u32 _) U gv ?_)|(have:ak 606 _:=z;refine lO (a:=(_,_)) 78 3 rfl (dP.pair aV) rfl rfl rfl ?_)|(have:ak 607 _:=z;refine ab.draw _ [12] [0,1,2,3,4,5,6,7,8,9,10,11,-12] aV aV (aG.refl _) ?_)|(have:ak 608 _:=z;refine cJ [0,1,2,3,5,6,7,8,10,11,12,-4,-9,13,-14,15] (show aG (ag _) (ag [aj cj 60 (ints (bD 2 (cI X.A h) (bQ X.A h)).l),aj ay 148 [ae aK,ae bt]])from ai) ?_)|(have:ak 609 _:=z;refine bZ rfl rfl rfl (ei (cs:=[.pointer _,.int _ _,.int _ _]) rfl) ?_)|(have:ak 610 _:=z;refine q rfl rfl (conv .u64 .u32 rfl rfl rfl (re U U)) ?_)|(have:ak 611 _:=z;refine q rfl rfl (bG.to (v:=(x:Int)) (sub rfl rfl (re U U)) U) ?_)|(have:ak 612 _:=z;refine cJ [0,1,2,3,5,6,7,8,-4,-9] (show aG (ag _) (ag [aj be 150 [ae aP,aS h,aa (bQ X.A h)],aj ay 148 [ae aK,ae bt]])from ai) ?_)|(have:ak 613 _:=z;refine ap 4 rfl rfl rfl rfl rfl (Nat.le_of_ble_eq_true rfl) (show _=cO .u32 [h]from rfl) rfl U gv ?_)|(have:ak 614 _:=z;refine fe (v:=.agg #[_,_,_,_]) (l:=[.int _ _,.int _ _,.int _ _,.bool _]) rfl rfl ?_)|(have:ak 615 _:=z;refine fe (v:=.agg #[_,_,_,_,_]) (l:=[.int _ _,.int _ _,.int _ _,.int _ _,.bool _]) rfl rfl ?_)|(have:ak 616 _:=z;refine q rfl rfl (ei (cs:=[.int _ _,.int _ _,.int _ _,.int _ _,.bool _]) rfl) ?_)|(have:ak 617 _:=z;refine dm (i:=4) rfl rfl rfl aV (fC (v:=.pointer _) rfl) ?_)|(have:ak 618 _:=z;refine dm (i:=12) rfl rfl rfl aV (conv .i64 .u64 rfl rfl rfl (pg U)) ?_)|(have:ak 619 _:=z;refine bs (cs:=[.int _ _,.int _ _,.int _ _,.int _ _,.bool _]) rfl ?_)|(have:ak 620 _:=z;refine q rfl rfl (gM (vs:=[_,_,_,_,_]) 5 rfl rfl (k9 wP hm 0 5 U U (show _=[aa (ha:Int),aa iW,aa fL,aa f9,.bool g9]from rfl)) rfl an) ?_)|(have:ak 621 _:=z;change aG _ _/\cd _ _ _ _ _ _ _ _ _ _ (ag [_,_,_,_,_,_,_,_,_,_,_,_,_,_,_,_]))|(have:ak 622 _:=z;refine fe (v:=.agg #[_,_,_]) (l:=[.int _ _,.slice _ _ _,.slice _ _ _]) rfl rfl ?_)|(have:ak 623 _:=z;refine bZ rfl rfl rfl (fY (vs:=[_,_,_,_,_]) 5 rfl rfl rfl rfl) ?_));exact z.k):G:=h ⟨k ⟨z.k⟩⟩
theorem JF{c:Nat}{L:List Nat}{G R X:Prop}(z:ed (c::L) R)(k:ed L R->X)(a:Nat.ble 624 c=true:=by rfl)(b:Nat.ble c 647=true:=by rfl)(h:ak c X->G:=by intro z;(first|(have:ak 624 _:=z;refine ap 32 rfl rfl rfl rfl rfl U (Qa lk) (F6 lk) U gv ?_)|(have:ak 625 _:=z;change aW _ _ _ _ _ _ _ _ (ag [_,_,_,_,_,_,_,_,_,_,_,_,_,_,_,_,_,_,_]))|(have:ak 626 _:=z;refine ap 24 rfl rfl rfl rfl rfl (Nat.le_of_ble_eq_true rfl) (show _=jf [o]from rfl) rfl U gv ?_)|(have:ak 627 _:=z;refine ab.bf (B:=ag [b8 (dJ A ad cap s) s.ids,b8 (e2 ad cap s) s.ids,aj b 352 [.map (some aH)],bP QM.encI aH (eg A s.ids) s.ids.length,aj cj 75 (e7 dz),F]) ai ?_)|(have:ak 628 _:=z;refine q rfl rfl (ot 75 3 (1) rfl rfl rfl U U) ?_)|(have:ak 629 _:=z;refine ab.bf (B:=ag [b8 (dJ A ad cap s) s.ids,b8 (e2 ad cap s) s.ids,aj b 352 [.map (some aH)],bP QM.encI aH (eg A s.ids) s.ids.length,aj bA 3 [aa id],F]) ai ?_)|(have:ak 630 _:=z;refine bZ rfl rfl rfl (ei (cs:=[.int _ _,.slice _ _ _,.slice _ _ _]) rfl) ?_)|(have:ak 631 _:=z;refine cJ [0,1,2,3,4,5,6,7,8,9,10,11,12,13,14,-15] (show aG (ag _) (ag [aj aF 130 [ae aM,ae aX,ae aL,.map (some hm),.map (some bc),.map (some lm)],aj (bp g) 245 [aa (aY g).1,bm ((aY g).2:Int)]])from ai) ?_)|(have:ak 632 _:=z;refine aW.bf (B:=ag [c4 aF af top (n+K.length) ⟨X,T,aN,hv,bj,aY,I,bq,lv⟩ [],a6 33 1 h1 K.length fv (cO .u32 K),F]) (aA (⟨aM,aX,aL,hm,bc,lm,bp⟩:dj) ⟨ax,aU⟩ (bU 6 rfl (aA (⟨b2,ay⟩:eY) trivial (eT (eT (aA (bT.mk aK bt:bT) trivial ai)))))) ?_)|(have:ak 633 _:=z;refine fe (v:=.agg (List.toArray [aa op,aa s,aa a,aa b,aa bJ,.bool ci,bm x,.slice bE ws.length bY,.slice bI aZ.length b5])) (l:=[aa op,aa s,aa a,aa b,aa bJ,.bool ci,bm x,.slice bE ws.length bY,.slice bI aZ.length b5]) rfl rfl ?_)|(have:ak 634 _:=z;refine bZ rfl rfl rfl (kK 47 1 rfl rfl rfl U U eB) ?_)|(have:ak 635 _:=z;refine q rfl rfl (conv .u32 .u64 rfl rfl rfl (yh U U)) ?_)|(have:ak 636 _:=z;refine cJ [0,1,2,3,4,5,6,7,8,9,10,11,12,-13,14] (show aG (ag _) (ag [aj b7 121 [ae aF],aj gQ 269 [aa op,aa s,aa a,aa b,aa bJ,.bool ci,bm x,.slice bE ws.length bY,.slice bI aZ.length b5,aS t,aS cB,aS h,aa r],aj cj 39 [aS ey,aa u0]])from ai) ?_)|(have:ak 637 _:=z;change aG _ _/\cd _ _ _ _ _ _ _ _ _ _ (ag [_,_,_,_,_,_,_,_,_,_,_,_,_,_]))|(have:ak 638 _:=z;refine cJ [0,1,2,3,4,5,6,7,8,-9,10] (show aG (ag _) (ag [aj b7 121 [ae aF],aj gQ 269 [aa op,aa s,aa a,aa b,aa bJ,.bool ci,bm x,.slice bE ws.length bY,.slice bI aZ.length b5,aS t,aS cB,aS h,aa r]])from ai) ?_)|(have:ak 639 _:=z;change aG _ _/\cd _ _ _ _ _ _ _ _ _ _ (ag [_,_,_,_,_,_,_,_,_,_,_,_,_]))|(have:ak 640 _:=z;refine fe (v:=.agg (List.toArray [aa gS,aa hl,.slice f8 dc gW])) (l:=[aa gS,aa hl,.slice f8 dc gW]) rfl rfl ?_)|(have:ak 641 _:=z;refine c9 rfl rfl rfl (fY (vs:=[_,_,_,_]) 4 rfl rfl rfl rfl) ?_)|(have:ak 642 _:=z;refine c9 rfl rfl rfl (ei (cs:=[.int _ _,.int _ _,.int _ _,.slice _ _ _]) rfl) ?_)|(have:ak 643 _:=z;refine fe (v:=.agg (List.toArray [aa i.b,aa i.o,aa i.r,aa i.f,.bool i.g])) (l:=[aa i.b,aa i.o,aa i.r,aa i.f,.bool i.g]) rfl rfl ?_)|(have:ak 644 _:=z;refine q rfl rfl (gM (vs:=[_,_,_,_,_]) 5 rfl rfl (k9 An iK 0 5 U U (show _=[aa bR.b,aa bR.o,aa bR.r,aa bR.f,.bool bR.g]from rfl)) rfl an) ?_)|(have:ak 645 _:=z;refine q rfl rfl (fY (vs:=[aa op,aa s,aa a,aa b,aa bJ,.bool ci,bm x,.slice bE ws.length bY,.slice bI aZ.length b5]) 9 rfl rfl rfl rfl) ?_)|(have:ak 646 _:=z;refine ab.loop (ι:=Nat) (λk=>k<=l.length/\∀i a,i<k->l[i]? =some a->a.rw.length<=40) (λk=>[(1,.slice dn l.length lc),(5,aa k)]) (λk=>ag [F]) (λk=>l.length-k) 0 ⟨Nat.zero_le _,λi a h _=>absurd h (Nat.not_lt_zero _)⟩ bH ai ?_)|(have:ak 647 _:=z;refine q rfl rfl (dG rfl rfl (pM sy iK 2 U rfl)) ?_));exact z.k):G:=h ⟨k ⟨z.k⟩⟩
theorem JG{c:Nat}{L:List Nat}{G R X:Prop}(z:ed (c::L) R)(k:ed L R->X)(a:Nat.ble 648 c=true:=by rfl)(b:Nat.ble c 662=true:=by rfl)(h:ak c X->G:=by intro z;(first|(have:ak 648 _:=z;refine c9 rfl rfl rfl (dG rfl rfl (pM sy iK 10 U rfl)) ?_)|(have:ak 649 _:=z;refine c9 rfl rfl rfl (dG rfl rfl (pM sy iK 11 U rfl)) ?_)|(have:ak 650 _:=z;change aG _ _/\ea _ _ _ _ _ _ _ _ _ _ _ (ag [_,_,_,_,_,_,_,_,_,_,_,_,_,_]))|(have:ak 651 _:=z;change aG _ _/\cd _ _ _ _ _ _ _ _ _ _ (ag [_,_,_,_,_,_,_,_,_,_,_,_,_,_,_,_,_,_]))|(have:ak 652 _:=z;refine st (v:=.agg #[_,_,_]) (vs:=[_,_,_]) 3 rfl rfl rfl rfl rfl rfl (Nat.le_of_ble_eq_true rfl) rfl ?_)|(have:ak 653 _:=z;refine q rfl rfl (pu (v:=.pointer _) (λ_=>rfl)) ?_)|(have:ak 654 _:=z;refine q rfl rfl (pu (v:=.agg #[_,_,_]) (λ_=>rfl)) ?_)|(have:ak 655 _:=z;refine q rfl rfl (pu (v:=.agg #[_,_]) (λ_=>rfl)) ?_)|(have:ak 656 _:=z;refine q rfl rfl (c3 8 rfl rfl) ?_)|(have:ak 657 _:=z;refine q rfl rfl (oK (v:=.bool _) rfl) ?_)|(have:ak 658 _:=z;refine st (v:=.agg #[_,_]) (vs:=[_,_]) 2 rfl rfl rfl rfl rfl rfl (Nat.le_of_ble_eq_true rfl) rfl ?_)|(have:ak 659 _:=z;refine bZ rfl rfl rfl (pu (v:=.agg #[_,_,_]) (λ_=>rfl)) ?_)|(have:ak 660 _:=z;refine c9 rfl rfl rfl (c3 2 rfl rfl) ?_)|(have:ak 661 _:=z;refine bZ rfl rfl rfl (oK (v:=.bool _) rfl) ?_)|(have:ak 662 _:=z;refine⟨rfl,rfl,?_⟩));exact z.k):G:=h ⟨k ⟨z.k⟩⟩
theorem a8(L:List Nat){G R:Prop}(k:R)(h:ed L R->G:=by intro z;(repeat(first|(refine Jp z ?_;clear z;intro z)|(refine Jy z ?_;clear z;intro z)|(refine JH z ?_;clear z;intro z)|(refine Jq z ?_;clear z;intro z)|(refine Jr z ?_;clear z;intro z)|(refine Js z ?_;clear z;intro z)|(refine Jt z ?_;clear z;intro z)|(refine Ju z ?_;clear z;intro z)|(refine Jv z ?_;clear z;intro z)|(refine Jw z ?_;clear z;intro z)|(refine Jx z ?_;clear z;intro z)|(refine Jz z ?_;clear z;intro z)|(refine JA z ?_;clear z;intro z)|(refine JB z ?_;clear z;intro z)|(refine JC z ?_;clear z;intro z)|(refine JD z ?_;clear z;intro z)|(refine JE z ?_;clear z;intro z)|(refine JF z ?_;clear z;intro z)|(refine JG z ?_;clear z;intro z)));exact z.k):G:=h ⟨k⟩
theorem UJ{c:Nat}{L:List Nat}{G R X:Prop}(z:ed (c::L) R)(k:ed L R->X)(a:Nat.ble 24 c=true:=by rfl)(b:Nat.ble c 47=true:=by rfl)(h:ak c X->G:=by intro z;(first|(have:ak 24 _:=z;refine a8 [7,157] ?_)|(have:ak 25 _:=z;refine a8 [7,157,0] ?_)|(have:ak 26 _:=z;refine a8 [7,157,2] ?_)|(have:ak 27 _:=z;refine a8 [2,0] ?_)|(have:ak 28 _:=z;refine a8 [48,3] ?_)|(have:ak 29 _:=z;refine a8 [3,7] ?_)|(have:ak 30 _:=z;refine a8 [48,3,147] ?_)|(have:ak 31 _:=z;refine a8 [48,3,7] ?_)|(have:ak 32 _:=z;refine a8 [7,157,2,161,3] ?_)|(have:ak 33 _:=z;refine a8 [7,157,158,2,0] ?_)|(have:ak 34 _:=z;refine a8 [7,157,62] ?_)|(have:ak 35 _:=z;refine a8 [7,157,158,2] ?_)|(have:ak 36 _:=z;refine a8 [657,3] ?_)|(have:ak 37 _:=z;refine a8 [157,158] ?_)|(have:ak 38 _:=z;refine a8 [7,157,158] ?_)|(have:ak 39 _:=z;refine a8 [7,157,48,3,7] ?_)|(have:ak 40 _:=z;refine a8 [71,20] ?_)|(have:ak 41 _:=z;refine a8 [7,157,158,55,59,53] ?_)|(have:ak 42 _:=z;refine a8 [7,157,158,297,3,49,4] ?_)|(have:ak 43 _:=z;refine a8 [7,157,408,3,7] ?_)|(have:ak 44 _:=z;refine a8 [4,7] ?_)|(have:ak 45 _:=z;refine a8 [7,157,158,55,59] ?_)|(have:ak 46 _:=z;refine a8 [362,362,362,362] ?_)|(have:ak 47 _:=z;refine a8 [6,13] ?_));exact z.k):G:=h ⟨k ⟨z.k⟩⟩
theorem UN{c:Nat}{L:List Nat}{G R X:Prop}(z:ed (c::L) R)(k:ed L R->X)(a:Nat.ble 72 c=true:=by rfl)(b:Nat.ble c 95=true:=by rfl)(h:ak c X->G:=by intro z;(first|(have:ak 72 _:=z;refine a8 [56,66,63,69] ?_)|(have:ak 73 _:=z;refine a8 [461,20] ?_)|(have:ak 74 _:=z;refine a8 [362,362,362] ?_)|(have:ak 75 _:=z;refine a8 [290,53] ?_)|(have:ak 76 _:=z;refine a8 [14,7,157] ?_)|(have:ak 77 _:=z;refine a8 [19,658] ?_)|(have:ak 78 _:=z;refine a8 [55,59,53] ?_)|(have:ak 79 _:=z;refine a8 [59,53] ?_)|(have:ak 80 _:=z;refine a8 [407,53] ?_)|(have:ak 81 _:=z;refine a8 [164,3,7] ?_)|(have:ak 82 _:=z;refine a8 [296,653,70,164,48,3,7,51,7,157,2,161,657,3] ?_)|(have:ak 83 _:=z;refine a8 [7,157,20] ?_)|(have:ak 84 _:=z;refine a8 [150,157,149,2,3] ?_)|(have:ak 85 _:=z;refine a8 [48,3,7,157,2] ?_)|(have:ak 86 _:=z;refine a8 [19,652,48,3,7] ?_)|(have:ak 87 _:=z;refine a8 [7,157,158,55,407,53] ?_)|(have:ak 88 _:=z;refine a8 [657,3,147] ?_)|(have:ak 89 _:=z;refine a8 [4,7,51] ?_)|(have:ak 90 _:=z;refine a8 [2,0,148] ?_)|(have:ak 91 _:=z;refine a8 [60,3,147] ?_)|(have:ak 92 _:=z;refine a8 [19,652] ?_)|(have:ak 93 _:=z;refine a8 [3,7,157] ?_)|(have:ak 94 _:=z;refine a8 [71,657,3,147] ?_)|(have:ak 95 _:=z;refine a8 [48,48,3,147] ?_));exact z.k):G:=h ⟨k ⟨z.k⟩⟩
theorem UO{c:Nat}{L:List Nat}{G R X:Prop}(z:ed (c::L) R)(k:ed L R->X)(a:Nat.ble 96 c=true:=by rfl)(b:Nat.ble c 119=true:=by rfl)(h:ak c X->G:=by intro z;(first|(have:ak 96 _:=z;refine a8 [7,157,48,3,7,157,158,2,0] ?_)|(have:ak 97 _:=z;refine a8 [71,3] ?_)|(have:ak 98 _:=z;refine a8 [7,157,158,0] ?_)|(have:ak 99 _:=z;refine a8 [7,157,59,53] ?_)|(have:ak 100 _:=z;refine a8 [7,157,298,657,3] ?_)|(have:ak 101 _:=z;refine a8 [7,157,158,55,290,53] ?_)|(have:ak 102 _:=z;refine a8 [362,362] ?_)|(have:ak 103 _:=z;refine a8 [7,157,158,297] ?_)|(have:ak 104 _:=z;refine a8 [657,3,7] ?_)|(have:ak 105 _:=z;refine a8 [362,362,362,362,362] ?_)|(have:ak 106 _:=z;refine a8 [3,49] ?_)|(have:ak 107 _:=z;refine a8 [7,157,48,3] ?_)|(have:ak 108 _:=z;refine a8 [7,157,48,3,154] ?_)|(have:ak 109 _:=z;refine a8 [164,3,147] ?_)|(have:ak 110 _:=z;refine a8 [63,69] ?_)|(have:ak 111 _:=z;refine a8 [2,3,51] ?_)|(have:ak 112 _:=z;refine a8 [157,62] ?_)|(have:ak 113 _:=z;refine a8 [6,52] ?_)|(have:ak 114 _:=z;refine a8 [23,157,149,2,3] ?_)|(have:ak 115 _:=z;refine a8 [296,653,70,164,48,3,7] ?_)|(have:ak 116 _:=z;refine a8 [7,157,246] ?_)|(have:ak 117 _:=z;refine a8 [7,157,60,3] ?_)|(have:ak 118 _:=z;refine a8 [7,7,157,2] ?_)|(have:ak 119 _:=z;refine a8 [48,48,3,154] ?_));exact z.k):G:=h ⟨k ⟨z.k⟩⟩
theorem UP{c:Nat}{L:List Nat}{G R X:Prop}(z:ed (c::L) R)(k:ed L R->X)(a:Nat.ble 120 c=true:=by rfl)(b:Nat.ble c 143=true:=by rfl)(h:ak c X->G:=by intro z;(first|(have:ak 120 _:=z;refine a8 [48,3,50] ?_)|(have:ak 121 _:=z;refine a8 [157,158,55] ?_)|(have:ak 122 _:=z;refine a8 [3,49,4,7] ?_)|(have:ak 123 _:=z;refine a8 [3,7,157,48,3,147] ?_)|(have:ak 124 _:=z;refine a8 [296,70,70,48,48,3,7] ?_)|(have:ak 125 _:=z;refine a8 [2,2] ?_)|(have:ak 126 _:=z;refine a8 [7,157,2,48,3,50] ?_)|(have:ak 127 _:=z;refine a8 [48,3,7,157,2,161,3] ?_)|(have:ak 128 _:=z;refine a8 [7,157,158,55] ?_)|(have:ak 129 _:=z;refine a8 [7,157,300] ?_)|(have:ak 130 _:=z;refine a8 [7,157,164,3,7] ?_)|(have:ak 131 _:=z;refine a8 [364,69] ?_)|(have:ak 132 _:=z;refine a8 [7,157,657,3] ?_)|(have:ak 133 _:=z;refine a8 [461,657,3,147] ?_)|(have:ak 134 _:=z;refine a8 [7,157,2,48,3,147] ?_)|(have:ak 135 _:=z;refine a8 [56,66,430,69] ?_)|(have:ak 136 _:=z;refine a8 [461,3,14,7,157] ?_)|(have:ak 137 _:=z;refine a8 [408,3] ?_)|(have:ak 138 _:=z;refine a8 [301,514] ?_)|(have:ak 139 _:=z;refine a8 [326,6] ?_)|(have:ak 140 _:=z;refine a8 [7,157,2,0] ?_)|(have:ak 141 _:=z;refine a8 [3,49,4] ?_)|(have:ak 142 _:=z;refine a8 [7,157,2,48,3] ?_)|(have:ak 143 _:=z;refine a8 [6,363,52] ?_));exact z.k):G:=h ⟨k ⟨z.k⟩⟩
theorem UQ{c:Nat}{L:List Nat}{G R X:Prop}(z:ed (c::L) R)(k:ed L R->X)(a:Nat.ble 168 c=true:=by rfl)(b:Nat.ble c 191=true:=by rfl)(h:ak c X->G:=by intro z;(first|(have:ak 168 _:=z;refine a8 [17,159] ?_)|(have:ak 169 _:=z;refine a8 [461,657,3] ?_)|(have:ak 170 _:=z;refine a8 [7,157,164,3] ?_)|(have:ak 171 _:=z;refine a8 [7,157,2,298,3] ?_)|(have:ak 172 _:=z;refine a8 [56,66,63,63,69] ?_)|(have:ak 173 _:=z;refine a8 [48,48,3] ?_)|(have:ak 174 _:=z;refine a8 [430,69] ?_)|(have:ak 175 _:=z;refine a8 [158,55] ?_)|(have:ak 176 _:=z;refine a8 [298,20] ?_)|(have:ak 177 _:=z;refine a8 [253,2,3,51] ?_)|(have:ak 178 _:=z;refine a8 [157,158,2,0] ?_)|(have:ak 179 _:=z;refine a8 [157,2,149,48,3] ?_)|(have:ak 180 _:=z;refine a8 [7,157,2,408,20] ?_)|(have:ak 181 _:=z;refine a8 [296,654,70,0,463] ?_)|(have:ak 182 _:=z;refine a8 [7,157,48,48,3,154] ?_)|(have:ak 183 _:=z;refine a8 [461,3] ?_)|(have:ak 184 _:=z;refine a8 [366,165] ?_)|(have:ak 185 _:=z;refine a8 [48,657,3] ?_)|(have:ak 186 _:=z;refine a8 [56,66,364,69] ?_)|(have:ak 187 _:=z;refine a8 [10,7,157,0] ?_)|(have:ak 188 _:=z;refine a8 [7,157,60,3,7] ?_)|(have:ak 189 _:=z;refine a8 [4,7,51,7,157,387] ?_)|(have:ak 190 _:=z;refine a8 [7,157,2,48,48,3,50] ?_)|(have:ak 191 _:=z;refine a8 [657,3,49] ?_));exact z.k):G:=h ⟨k ⟨z.k⟩⟩
theorem UR{c:Nat}{L:List Nat}{G R X:Prop}(z:ed (c::L) R)(k:ed L R->X)(a:Nat.ble 192 c=true:=by rfl)(b:Nat.ble c 215=true:=by rfl)(h:ak c X->G:=by intro z;(first|(have:ak 192 _:=z;refine a8 [49,4] ?_)|(have:ak 193 _:=z;refine a8 [367,16] ?_)|(have:ak 194 _:=z;refine a8 [60,48,3] ?_)|(have:ak 195 _:=z;refine a8 [59,53,0] ?_)|(have:ak 196 _:=z;refine a8 [2,2,0] ?_)|(have:ak 197 _:=z;refine a8 [2,19,652] ?_)|(have:ak 198 _:=z;refine a8 [21,7,157,62] ?_)|(have:ak 199 _:=z;refine a8 [7,157,2,2] ?_)|(have:ak 200 _:=z;refine a8 [259,652,6,363,52] ?_)|(have:ak 201 _:=z;refine a8 [14,7,157,48,3,154] ?_)|(have:ak 202 _:=z;refine a8 [7,157,2,161,3,49,4] ?_)|(have:ak 203 _:=z;refine a8 [60,3] ?_)|(have:ak 204 _:=z;refine a8 [363,52] ?_)|(have:ak 205 _:=z;refine a8 [298,657,3] ?_)|(have:ak 206 _:=z;refine a8 [60,3,7] ?_)|(have:ak 207 _:=z;refine a8 [4,7,51,7,157] ?_)|(have:ak 208 _:=z;refine a8 [19,513] ?_)|(have:ak 209 _:=z;refine a8 [17,409] ?_)|(have:ak 210 _:=z;refine a8 [23,7] ?_)|(have:ak 211 _:=z;refine a8 [71,657,3] ?_)|(have:ak 212 _:=z;refine a8 [7,157,48,3,147] ?_)|(have:ak 213 _:=z;refine a8 [7,157,48,3,50] ?_)|(have:ak 214 _:=z;refine a8 [296,654,70,0,162] ?_)|(have:ak 215 _:=z;refine a8 [7,157,2,48,3,154] ?_));exact z.k):G:=h ⟨k ⟨z.k⟩⟩
theorem US{c:Nat}{L:List Nat}{G R X:Prop}(z:ed (c::L) R)(k:ed L R->X)(a:Nat.ble 216 c=true:=by rfl)(b:Nat.ble c 239=true:=by rfl)(h:ak c X->G:=by intro z;(first|(have:ak 216 _:=z;refine a8 [7,157,2,161] ?_)|(have:ak 217 _:=z;refine a8 [157,2] ?_)|(have:ak 218 _:=z;refine a8 [410,53] ?_)|(have:ak 219 _:=z;refine a8 [386,386,386,386] ?_)|(have:ak 220 _:=z;refine a8 [7,157,48,48,3] ?_)|(have:ak 221 _:=z;refine a8 [7,157,657,3,7,157,2] ?_)|(have:ak 222 _:=z;refine a8 [51,7,157,2,161,657,3] ?_)|(have:ak 223 _:=z;refine a8 [48,48,3,7] ?_)|(have:ak 224 _:=z;refine a8 [298,3] ?_)|(have:ak 225 _:=z;refine a8 [3,51] ?_)|(have:ak 226 _:=z;refine a8 [2,432,0] ?_)|(have:ak 227 _:=z;refine a8 [254,659,431] ?_)|(have:ak 228 _:=z;refine a8 [7,157,158,297,20] ?_)|(have:ak 229 _:=z;refine a8 [296,655,299,0,240] ?_)|(have:ak 230 _:=z;refine a8 [2,432] ?_)|(have:ak 231 _:=z;refine a8 [365,53] ?_)|(have:ak 232 _:=z;refine a8 [3,147] ?_)|(have:ak 233 _:=z;refine a8 [660,165] ?_)|(have:ak 234 _:=z;refine a8 [64,657,3,49] ?_)|(have:ak 235 _:=z;refine a8 [296,653,70,164] ?_)|(have:ak 236 _:=z;refine a8 [64,3] ?_)|(have:ak 237 _:=z;refine a8 [569,165] ?_)|(have:ak 238 _:=z;refine a8 [62,0] ?_)|(have:ak 239 _:=z;refine a8 [16,13] ?_));exact z.k):G:=h ⟨k ⟨z.k⟩⟩
theorem UK{c:Nat}{L:List Nat}{G R X:Prop}(z:ed (c::L) R)(k:ed L R->X)(a:Nat.ble 264 c=true:=by rfl)(b:Nat.ble c 287=true:=by rfl)(h:ak c X->G:=by intro z;(first|(have:ak 264 _:=z;refine a8 [7,157,407,53] ?_)|(have:ak 265 _:=z;refine a8 [7,157,158,246] ?_)|(have:ak 266 _:=z;refine a8 [19,658,657,3] ?_)|(have:ak 267 _:=z;refine a8 [7,157,48,3,51] ?_)|(have:ak 268 _:=z;refine a8 [164,3] ?_)|(have:ak 269 _:=z;refine a8 [55,407] ?_)|(have:ak 270 _:=z;refine a8 [19,368] ?_)|(have:ak 271 _:=z;refine a8 [369,20] ?_)|(have:ak 272 _:=z;refine a8 [17,144] ?_)|(have:ak 273 _:=z;refine a8 [661,52] ?_)|(have:ak 274 _:=z;refine a8 [17,309] ?_)|(have:ak 275 _:=z;refine a8 [249,6] ?_)|(have:ak 276 _:=z;refine a8 [164,3,50] ?_)|(have:ak 277 _:=z;refine a8 [363,363,52] ?_)|(have:ak 278 _:=z;refine a8 [7,157,62,2] ?_)|(have:ak 279 _:=z;refine a8 [56,66,433,69] ?_)|(have:ak 280 _:=z;refine a8 [362,362,71,20] ?_)|(have:ak 281 _:=z;refine a8 [19,652,48,3,147] ?_)|(have:ak 282 _:=z;refine a8 [296,70,70] ?_)|(have:ak 283 _:=z;refine a8 [656,53] ?_)|(have:ak 284 _:=z;refine a8 [302,6] ?_)|(have:ak 285 _:=z;refine a8 [431,431] ?_)|(have:ak 286 _:=z;refine a8 [1,462] ?_)|(have:ak 287 _:=z;refine a8 [19,513,3] ?_));exact z.k):G:=h ⟨k ⟨z.k⟩⟩
theorem UL{c:Nat}{L:List Nat}{G R X:Prop}(z:ed (c::L) R)(k:ed L R->X)(a:Nat.ble 336 c=true:=by rfl)(b:Nat.ble c 359=true:=by rfl)(h:ak c X->G:=by intro z;(first|(have:ak 336 _:=z;refine a8 [365,53,2] ?_)|(have:ak 337 _:=z;refine a8 [296,70,299] ?_)|(have:ak 338 _:=z;refine a8 [430,69,13] ?_)|(have:ak 339 _:=z;refine a8 [297,3,49,4] ?_)|(have:ak 340 _:=z;refine a8 [7,157,158,570] ?_)|(have:ak 341 _:=z;refine a8 [362,362,461,20] ?_)|(have:ak 342 _:=z;refine a8 [290,53,2,0] ?_)|(have:ak 343 _:=z;refine a8 [157,149,2,3] ?_)|(have:ak 344 _:=z;refine a8 [161,3] ?_)|(have:ak 345 _:=z;refine a8 [69,63] ?_)|(have:ak 346 _:=z;refine a8 [157,2,149] ?_)|(have:ak 347 _:=z;refine a8 [48,48,3,50] ?_)|(have:ak 348 _:=z;refine a8 [70,0] ?_)|(have:ak 349 _:=z;refine a8 [56,66,63] ?_)|(have:ak 350 _:=z;refine a8 [296,654] ?_)|(have:ak 351 _:=z;refine a8 [299,0] ?_)|(have:ak 352 _:=z;refine a8 [7,157,2,161,657,3] ?_)|(have:ak 353 _:=z;refine a8 [433,69] ?_)|(have:ak 354 _:=z;refine a8 [296,655] ?_)|(have:ak 355 _:=z;refine a8 [408,20] ?_)|(have:ak 356 _:=z;refine a8 [386,386] ?_)|(have:ak 357 _:=z;refine a8 [56,66] ?_)|(have:ak 358 _:=z;refine a8 [149,2,3] ?_)|(have:ak 359 _:=z;refine a8 [296,654,70,0] ?_));exact z.k):G:=h ⟨k ⟨z.k⟩⟩
theorem UM{c:Nat}{L:List Nat}{G R X:Prop}(z:ed (c::L) R)(k:ed L R->X)(a:Nat.ble 663 c=true:=by rfl)(b:Nat.ble c 663=true:=by rfl)(h:ak c X->G:=by intro z;(first|(have:ak 663 _:=z;refine a8 [659,431] ?_));exact z.k):G:=h ⟨k ⟨z.k⟩⟩
theorem J(L:List Nat){G R:Prop}(k:R)(h:ed L R->G:=by intro z;(repeat(first|(refine Jp z ?_;clear z;intro z)|(refine UJ z ?_;clear z;intro z)|(refine Jy z ?_;clear z;intro z)|(refine UN z ?_;clear z;intro z)|(refine UO z ?_;clear z;intro z)|(refine UP z ?_;clear z;intro z)|(refine JH z ?_;clear z;intro z)|(refine UQ z ?_;clear z;intro z)|(refine UR z ?_;clear z;intro z)|(refine US z ?_;clear z;intro z)|(refine Jq z ?_;clear z;intro z)|(refine UK z ?_;clear z;intro z)|(refine Jr z ?_;clear z;intro z)|(refine Js z ?_;clear z;intro z)|(refine UL z ?_;clear z;intro z)|(refine Jt z ?_;clear z;intro z)|(refine Ju z ?_;clear z;intro z)|(refine Jv z ?_;clear z;intro z)|(refine Jw z ?_;clear z;intro z)|(refine Jx z ?_;clear z;intro z)|(refine Jz z ?_;clear z;intro z)|(refine JA z ?_;clear z;intro z)|(refine JB z ?_;clear z;intro z)|(refine JC z ?_;clear z;intro z)|(refine JD z ?_;clear z;intro z)|(refine JE z ?_;clear z;intro z)|(refine JF z ?_;clear z;intro z)|(refine JG z ?_;clear z;intro z)|(refine UM z ?_;clear z;intro z)));exact z.k):G:=h ⟨k⟩
theorem Jo{G:Prop}(h:G:=by
 funext x
 by_cases h:x∈Y
 ·rw[az h,az (by simp[h])]
 rw[al h]
 by_cases e:x=y
 ·rw[az (by simp[e]),e,cp]
 rw[al (by simp[e,h]),bS e]):G:=h
end Go.QM
