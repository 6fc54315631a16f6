/- Proved here: contracts of functions of this program, under the premises that each theorem names. -/
import Derived.Test.YtglgidjhoncphaaGreatDoorVu
set_option linter.all false
set_option maxRecDepth 4000
set_option maxHeartbeats 4000000
open List renaming length_append->mp,getElem?_eq_getElem->UO,mem_singleton->UP,mem_append->UQ,mem_of_getElem?->US,getElem?_eq_some_iff->UU,not_mem_nil->UZ,mem_map->U3,take_add_one->U5,nodup_cons->U6,mem_filter->U8,length_cons->U9,flatMap_cons->Vf,nodup_append->Vg,filter_eq_self->Vk,take_length->VC,nodup_nil->VD,length_map->VI,append_nil->VK,getElem?_of_mem->VS,map_append->V2,pairwise_iff_getElem->Wb,take_zero->Wp,filter_eq_nil_iff->WM,append_of_mem->Xe,foldl_append->XI
open Go.QM.ab renaming aA->UR,loop->Vp,bg->Wd
open Nat renaming le_refl->UW,zero_le->UX,le_of_ble_eq_true->U2
open Decidable renaming not_not->U4
open Go.QM.aF renaming refl->Vx
open Go.Value renaming int->V4
open Ne renaming symm->W5
open Option renaming toList->Yc
namespace Go.Proofs.YtglgidjhoncphaaGreatDoor
open Go Go.QM
theorem qN{l m:List Int}(h:l.Nodup)(hs:∀x∈l,x∈m):l.length<=m.length:=by induction l generalizing m with|nil=>simp|cons a l E=>obtain⟨w,C⟩:=U6.1 h;obtain⟨s,t,rfl⟩:=Xe (hs a cE);have:=E (m:=s++t) C (λx u=>by have d:=hs x (by simp[u]);have D:x≠a:=λe=>w (e▸u);simp at d⊢;rcases d with d|d|d;exact .inl d;exact absurd d D;exact .inr d);simp at this⊢;omega
structure dq(s:cG):Prop where
  bi:s.ids.Nodup
  ge:∀x∈s.ids,0<=x
  rg:∀x∈s.ids,s.st x=0\/s.st x=1\/s.st x=2\/s.st x=3
  row:∀x∈s.ids,∀o∈s.row x,o.aY∈s.ids/\o.aY≠x/\s.st o.aY=1/\s.aD o.aY=x
  jy:∀x∈s.ids,((s.row x).map (·.aY)).Nodup
  snd:∀x∈s.ids,s.st x=1->s.aD x∈s.ids/\∃o∈s.row (s.aD x),o.aY=x
  h6:∀x∈s.ids,s.aL x≠-1->s.aL x∈s.ids/\s.aL x≠x/\s.st (s.aL x)=3/\s.aD (s.aL x)=x
  ask:∀x∈s.ids,s.st x=3->s.aD x∈s.ids/\s.aL (s.aD x)=x
  idle:∀x∈s.ids,s.st x≠1->s.st x≠3->s.aD x=-1
theorem dq.zero:dq en:=⟨VD,λ_ h=>(UZ h).elim,λ_ h=>(UZ h).elim,λ_ h=>(UZ h).elim,λ_ h=>(UZ h).elim,λ_ h=>(UZ h).elim,λ_ h=>(UZ h).elim,λ_ h=>(UZ h).elim,λ_ h=>(UZ h).elim⟩
theorem dq.ext{s t:cG}(h:dq s)(w:t.ids=s.ids)(u:∀x∈s.ids,t.st x=s.st x/\t.aL x=s.aL x/\t.aD x=s.aD x/\t.row x=s.row x):dq t where
 bi:=by rw[w];exact h.bi
 ge:=by rw[w];exact h.ge
 rg:=λx d=>by rw[w]at d;rw[(u x d).1];exact h.rg x d
 row:=λx d o E=>by rw[w]at d;rw[(u x d).2.2.2]at E;have:=h.row x d o E;rw[w,(u _ this.1).1,(u _ this.1).2.2.1];exact this
 jy:=λx d=>by rw[w]at d;rw[(u x d).2.2.2];exact h.jy x d
 snd:=λx d C=>by rw[w]at d;rw[(u x d).1]at C;have:=h.snd x d C;rw[w,(u x d).2.2.1,(u _ this.1).2.2.2];exact this
 h6:=λx d D=>by rw[w]at d;rw[(u x d).2.1]at D;have:=h.h6 x d D;rw[w,(u x d).2.1,(u _ this.1).1,(u _ this.1).2.2.1];exact this
 ask:=λx d C=>by rw[w]at d;rw[(u x d).1]at C;have:=h.ask x d C;rw[w,(u x d).2.2.1,(u _ this.1).2.1];exact this
 idle:=λx d a b=>by rw[w]at d;rw[(u x d).1]at a b;rw[(u x d).2.2.1];exact h.idle x d a b
def eS(s:cG)(Y:List Int):cG:={s with st:=λx=>if x∈Y then 0 else s.st x,aD:=λx=>if x∈Y then -1 else s.aD x}
theorem rz(Y:List Int):∀s:cG,Y.foldl b0 s=eS s Y:=by induction Y with|nil=>intro s;simp[eS]|cons y Y d=>intro s;rw[List.foldl_cons,d,eS,eS];simp only[b0,cG.mk.injEq,true_and];constructor;exact Jf;constructor;exact Jf;trivial
def iJ(s:cG)(Y:List Int):cG:={eS s Y with row:=λx=>(s.row x).filter λo=>decide (o.aY∉Y)}
variable{s:cG}
theorem dq.un(h:dq s)(Y:List Int)(N:∀y∈Y,y∈s.ids/\s.st y=1):dq (iJ s Y) where
 bi:=h.bi
 ge:=h.ge
 rg:=λx d=>by show(if x∈Y then(0:Int)else s.st x)=0\/_;have:=h.rg x d;dsimp only[iJ,eS];split;exact .inl rfl;exact this
 row:=λx d o P=>by
  obtain⟨Q,C⟩:=U8.1 P;have C:o.aY∉Y:=by simpa using C
  have:=h.row x d o Q;dsimp only[iJ,eS];rw[al C,al C];exact this
 jy:=λx d=>(h.jy x d).sublist (List.filter_sublist.map _)
 snd:=λx d u=>by dsimp only[iJ,eS]at u⊢;by_cases hm:x∈Y;rw[aw hm]at u;cases u;rw[al hm]at u⊢;obtain⟨D,o,E,w⟩:=h.snd x d u;exact⟨D,o,U8.2 ⟨E,by rw[w];simpa using hm⟩,w⟩
 h6:=λx d O=>by
  obtain⟨D,E,w,H⟩:=h.h6 x d O;have hm:s.aL x∉Y:=λhm=>by have:=(N _ hm).2;omega
  dsimp only[iJ,eS];rw[al hm,al hm];exact⟨D,E,w,H⟩
 ask:=λx d u=>by dsimp only[iJ,eS]at u⊢;by_cases hm:x∈Y;rw[aw hm]at u;cases u;rw[al hm]at u⊢;exact h.ask x d u
 idle:=λx d a b=>by dsimp only[iJ,eS]at a b⊢;by_cases hm:x∈Y;rw[aw hm];rw[al hm]at a b⊢;exact h.idle x d a b
theorem dq.x0(h:dq s){y:Int}(N:y∈s.ids)(hs:s.st y=3):dq ⟨s.ids,aP s.st y 0,aP s.aL (s.aD y) (-1),aP s.aD y (-1),s.row⟩ where
 bi:=h.bi
 ge:=h.ge
 rg:=λx u=>by dsimp only;by_cases e:x=y;rw[e,cf];exact .inl rfl;rw[bP e];exact h.rg x u
 row:=λx u o H=>by
  have:=h.row x u o H;have e:o.aY≠y:=λe=>by rw[e]at this;omega
  dsimp only;rw[bP e,bP e];exact this
 jy:=h.jy
 snd:=λx u d=>by dsimp only at d⊢;by_cases e:x=y;rw[e,cf]at d;cases d;rw[bP e]at d⊢;exact h.snd x u d
 h6:=λx u C=>by
  dsimp only at C⊢;by_cases e:x=s.aD y;rw[e,cf]at C;exact absurd rfl C;rw[bP e]at C⊢;have:=h.h6 x u C;have w:s.aL x≠y:=λw=>by rw[w]at this;exact e this.2.2.2.symm
  rw[bP w,bP w];exact this
 ask:=λx u d=>by dsimp only at d⊢;by_cases e:x=y;rw[e,cf]at d;cases d;rw[bP e]at d⊢;have D:=h.ask x u d;have E:=h.ask y N hs;have w:s.aD x≠s.aD y:=λw=>e (by rw[<-D.2,w,E.2]);rw[bP w];exact D
 idle:=λx u a b=>by dsimp only at a b⊢;by_cases e:x=y;rw[e,cf];rw[bP e]at a b⊢;exact h.idle x u a b
theorem dq.set(h:dq s){y v:Int}(hs:s.st y≠1/\s.st y≠3)(D:s.aD y=-1)(hv:v=0\/v=2):dq (eg s y v) where
 bi:=h.bi
 ge:=h.ge
 rg:=λx d=>by dsimp only[eg];by_cases e:x=y;rw[e,cf];omega;rw[bP e];exact h.rg x d
 row:=λx d o C=>by
  have:=h.row x d o C;have e:o.aY≠y:=λe=>by rw[e]at this;omega
  dsimp only[eg];rw[bP e];exact this
 jy:=h.jy
 snd:=λx d u=>by dsimp only[eg]at u⊢;by_cases e:x=y;rw[e,cf]at u;omega;rw[bP e]at u;exact h.snd x d u
 h6:=λx d w=>by
  have:=h.h6 x d w;have e:s.aL x≠y:=λe=>by rw[e]at this;omega
  dsimp only[eg];rw[bP e];exact this
 ask:=λx d u=>by dsimp only[eg]at u⊢;by_cases e:x=y;rw[e,cf]at u;omega;rw[bP e]at u;exact h.ask x d u
 idle:=λx d a b=>by dsimp only[eg]at a b⊢;by_cases e:x=y;rw[e];exact D;rw[bP e]at a b;exact h.idle x d a b
theorem dq.send(h:dq s){to:Int}{o:eo}(P:o.aY∈s.ids)(V:to∈s.ids)(Q:o.aY≠to)(hs:s.st o.aY=0):dq (eN (dQ s o.aY 1 to) to o) where
 bi:=h.bi
 ge:=h.ge
 rg:=λx d=>by dsimp only[eN,dQ];by_cases e:x=o.aY;rw[e,cf];omega;rw[bP e];exact h.rg x d
 row:=λx d u hu=>by dsimp only[eN,dQ]at hu⊢;have old:u∈s.row x->u.aY∈s.ids/\u.aY≠x/\aP s.st o.aY 1 u.aY=1/\aP s.aD o.aY to u.aY=x:=λhu=>(by have:=h.row x d u hu;(have e:u.aY≠o.aY:=λe=>by rw[e]at this;omega);rw[bP e,bP e];exact this);by_cases e:x=to;subst e;rw[cf]at hu;rcases UQ.1 hu with hu|hu;exact old hu;rw[UP.1 hu,cf,cf];exact⟨P,Q,rfl,rfl⟩;rw[bP e]at hu;exact old hu
 jy:=λx d=>by dsimp only[eN,dQ];by_cases e:x=to;subst e;rw[cf,V2,Vg];refine⟨h.jy x d,by simp,λa O c D C=>?_⟩;obtain⟨u,hu,rfl⟩:=U3.1 O;have:=h.row x d u hu;simp only[List.map_cons,List.map_nil,UP]at D;rw[C,D]at this;omega;rw[bP e];exact h.jy x d
 snd:=λx d w=>by dsimp only[eN,dQ]at w⊢;by_cases e:x=o.aY;subst e;rw[cf,cf];exact⟨V,o,by simp,rfl⟩;rw[bP e]at w⊢;obtain⟨H,u,E,N⟩:=h.snd x d w;refine⟨H,u,?_,N⟩;by_cases C:s.aD x=to;rw[C,cf];rw[C]at E;exact UQ.2 (.inl E);rw[bP C];exact E
 h6:=λx d D=>by
  have:=h.h6 x d D;have e:s.aL x≠o.aY:=λe=>by rw[e]at this;omega
  dsimp only[eN,dQ];rw[bP e,bP e];exact this
 ask:=λx d w=>by dsimp only[eN,dQ]at w⊢;by_cases e:x=o.aY;rw[e,cf]at w;omega;rw[bP e]at w⊢;exact h.ask x d w
 idle:=λx d a b=>by dsimp only[eN,dQ]at a b⊢;by_cases e:x=o.aY;rw[e,cf]at a;exact absurd rfl a;rw[bP e]at a b⊢;exact h.idle x d a b
theorem dq.link(h:dq s){to f:Int}(H:f∈s.ids)(O:to∈s.ids)(N:f≠to)(hs:s.st f=0)(P:s.aL to=-1):dq (dQ (dy s to f) f 3 to) where
 bi:=h.bi
 ge:=h.ge
 rg:=λx d=>by dsimp only[dy,dQ];by_cases e:x=f;rw[e,cf];omega;rw[bP e];exact h.rg x d
 row:=λx d u hu=>by
  have:=h.row x d u hu;have e:u.aY≠f:=λe=>by rw[e]at this;omega
  dsimp only[dy,dQ];rw[bP e,bP e];exact this
 jy:=h.jy
 snd:=λx d C=>by dsimp only[dy,dQ]at C⊢;by_cases e:x=f;rw[e,cf]at C;omega;rw[bP e]at C⊢;exact h.snd x d C
 h6:=λx d D=>by
  dsimp only[dy,dQ]at D⊢;by_cases e:x=to;subst e;rw[cf,cf,cf];exact⟨H,N,rfl,rfl⟩;rw[bP e]at D⊢;have:=h.h6 x d D;have w:s.aL x≠f:=λw=>by rw[w]at this;omega
  rw[bP w,bP w];exact this
 ask:=λx d C=>by
  dsimp only[dy,dQ]at C⊢;by_cases e:x=f;subst e;rw[cf,cf];exact⟨O,rfl⟩;rw[bP e]at C⊢;have E:=h.ask x d C;have w:s.aD x≠to:=λw=>by have:=h.ge x d;rw[w]at E;omega
  rw[bP w];exact E
 idle:=λx d a b=>by dsimp only[dy,dQ]at a b⊢;by_cases e:x=f;rw[e,cf]at b;exact absurd rfl b;rw[bP e]at a b⊢;exact h.idle x d a b
theorem dq.join(h:dq s)(x:Int):dq (fE s x):=by
 rw[fE];split;trivial;rename_i N;have an:x∉s.ids:=b2
 have H:0<=x:=U
 have ne:∀y∈s.ids,y≠x:=cp
 have u:∀y,y∈s.ids++[x]->y∈s.ids\/y=x:=b2
 have mem:∀y,y∈s.ids->y∈s.ids++[x]:=b2
 refine⟨Vg.2 ⟨h.bi,by simp,λa E c C e=>ne a E (by rw[e];simpa using C)⟩,λy d=>?_,λy d=>?_,λy d o D=>?_,λy d=>?_,λy d w=>?_,λy d C=>?_,λy d w=>?_,λy d a b=>?_⟩;rcases u y d with d|rfl;exact h.ge y d;trivial;dsimp only;rcases u y d with d|rfl;rw[bP (ne y d)];exact h.rg y d;grind[cf];dsimp only at D⊢;rcases u y d with d|rfl;rw[bP (ne y d)]at D;have:=h.row y d o D;grind[bP];grind[cf];dsimp only;rcases u y d with d|rfl;rw[bP (ne y d)];exact h.jy y d;grind[cf];dsimp only at w⊢;rcases u y d with d|rfl;rw[bP (ne y d)]at w⊢;have:=h.snd y d w;grind[bP];grind[cf];dsimp only at C⊢;rcases u y d with d|rfl;rw[bP (ne y d)]at C⊢;have:=h.h6 y d C;grind[bP];grind[cf];dsimp only at w⊢;rcases u y d with d|rfl;rw[bP (ne y d)]at w⊢;have:=h.ask y d w;grind[bP];grind[cf];dsimp only at a b⊢;rcases u y d with d|rfl;rw[bP (ne y d)]at a b⊢;exact h.idle y d a b;grind[cf]
theorem dq.drop(h:dq s){x:Int}(hs:s.st x≠1)(hr:s.row x=[])(N:s.aL x=-1)(O:s.st x≠3):dq {s with ids:=s.ids.filter λy=>decide (y≠x)}:=by
 have u:∀y,y∈s.ids.filter (λy=>decide (y≠x))->y∈s.ids/\y≠x:=b2
 have E:∀y,y∈s.ids->y≠x->y∈s.ids.filter (λy=>decide (y≠x)):=b2
 refine⟨h.bi.sublist List.filter_sublist,λy d=>h.ge y (u y d).1,λy d=>h.rg y (u y d).1,λy d o D=>?_,λy d=>h.jy y (u y d).1,λy d w=>?_,λy d C=>?_,λy d w=>?_,λy d a b=>h.idle y (u y d).1 a b⟩;have:=h.row y (u y d).1 o D;grind;have:=h.snd y (u y d).1 w;grind;have:=h.h6 y (u y d).1 C;grind;have:=h.ask y (u y d).1 w;refine⟨E _ this.1 (λe=>?_),this.2⟩;have H:=h.ge y (u y d).1;grind
theorem uT(h:dq s){x:Int}(d:x∈s.ids):(s.row x).length<=s.ids.length:=by have:((s.row x).map (·.aY)).length<=s.ids.length:=(by refine qN (h.jy x d) λy w=>?_;obtain⟨o,u,rfl⟩:=U3.1 w;exact(h.row x d o u).1);simp_all
theorem Hm(h:dq s)(x:Int):(hC s x).length<=s.ids.length:=by grind[hC,uT]
theorem dq.offer(h:dq s)(to:Int)(o:eo):dq (eD s to o).1:=by rw[eD];split;trivial;rename_i d;simp only[not_or,U4]at d;split;trivial;rename_i u;split;trivial;rename_i w;exact h.send d.2 d.1 u (U4.1 w)
theorem dq.opens(h:dq s)(id:Int):dq (hZ s id).1:=by rw[hZ];split;trivial;rename_i d;split;trivial;rename_i u;have d:=U4.1 d;simp only[not_or,U4]at u;exact h.set U (h.idle id d U U) (.inr rfl)
def dm (s:cG) (to:Int):cG×eo×Int×Int:=
  if to∉s.ids then(s,dx,0,6)else if s.st to≠0/\s.st to≠2 then(s,dx,0,12)else
  match s.row to with
  | []=>(s,dx,0,6)
  | o ::r=>
    if o.aL=true then
      (if s.aL to≠-1 then dQ (dy (b0 (b0 (b0 (cA s to r) to) o.aY) (s.aL to)) to o.aY) o.aY 3 to else dQ (dy (b0 (b0 (cA s to r) to) o.aY) to o.aY) o.aY 3 to,o,s.aL to,0)
    else(b0 (b0 (cA s to r) to) o.aY,o,-1,0)
theorem My{o:eo}{r:List eo}(h:((o::r).map (·.aY)).Nodup):(o::r).filter (λu=>decide (u.aY∉[o.aY]))=r:=by simp_all
theorem dq.others(h:dq s){x y:Int}(d:x∈s.ids){Y:List Int}(C:∀z∈Y,s.aD z=y)(D:x≠y):(s.row x).filter (λu=>decide (u.aY∉Y))=s.row x:=by refine Vk.2 λu hu=>?_;simp only[decide_eq_true_eq];intro hm;have w:=(h.row x d u hu).2.2.2;simp_all
theorem SP(h:dq s){to:Int}(D:to∈s.ids)(hs:s.st to=0\/s.st to=2){o:eo}{r:List eo}(hr:s.row to=o::r):dq (b0 (b0 (cA s to r) to) o.aY):=by
 obtain⟨E,H,N,O⟩:=h.row to D o (by rw[hr];simp);have P:=h.idle to D U U;have hu:=h.un [o.aY] (λy Q=>by rw[UP.1 Q];exact⟨E,N⟩);have C:to∉[o.aY]:=cp
 have hv:=hu.set (y:=to) (v:=0) (by dsimp only[iJ,eS];rw[al C];omega) (by dsimp only[iJ,eS];rw[al C];exact P) (.inl rfl);refine hv.ext rfl λx w=>?_;have w:x∈s.ids:=w;dsimp only[b0,cA,eg,iJ,eS];refine⟨?_,rfl,?_,?_⟩;by_cases d:x=o.aY;subst d;rw[cf,bP H,aw cE];rw[bP d];by_cases u:x=to;grind[cf];rw[bP u,bP u,al (by simpa using d)];by_cases d:x=o.aY;subst d;rw[cf,aw cE];rw[bP d,al (by simpa using d)];grind[cf,bP];by_cases u:x=to;subst u;rw[cf,hr];have:=h.jy x w;grind[My];rw[bP u];exact(h.others w (λz V=>by rw[UP.1 V];exact O) u).symm
theorem dq.take(h:dq s)(to:Int):dq (dm s to).1:=by
 rw[dm];split;trivial;rename_i d;have d:=U4.1 d;split;trivial;rename_i N;have N:s.st to=0\/s.st to=2:=U
 split;trivial;rename_i o r H;have D:=SP h d N H;obtain⟨w,C,ag,an⟩:=h.row to d o (by rw[H];simp);split;split;rename_i u;obtain⟨O,c2,P,Q⟩:=h.h6 to d u;have ce:s.aL to≠o.aY:=cp
 have Z:(b0 (b0 (cA s to r) to) o.aY).st (s.aL to)=3:=(by dsimp only[b0,cA];rw[bP ce,bP c2];exact P);have W:(b0 (b0 (cA s to r) to) o.aY).aD (s.aL to)=to:=(by dsimp only[b0,cA];rw[bP ce,bP c2];exact Q);have E:=D.x0 (y:=s.aL to) O Z;rw[W]at E;have V:=E.link (to:=to) (f:=o.aY) w d C (by dsimp only[b0,cA];rw[bP (W5 ce),cf]) (by dsimp only;rw[cf]);refine V.ext rfl λx aq=>⟨rfl,?_,rfl,rfl⟩;dsimp only[dQ,dy,b0,cA];grind[cf,bP];rename_i u;have u:s.aL to=-1:=U
 exact D.link w d C (by dsimp only[b0,cA];rw[cf]) u;trivial
def fB(s:cG)(id:Int):cG×Int×Int:=
  if id∉s.ids then(s,0,6)else if s.st id≠0 then(s,0,12)else if s.aL id=-1 then(s,0,6)else(b0 (dy s id (-1)) (s.aL id),s.aL id,0)
theorem dq.answer(h:dq s)(id:Int):dq (fB s id).1:=by rw[fB];split;trivial;rename_i D;split;trivial;split;trivial;rename_i C;obtain⟨d,c2,u,w⟩:=h.h6 id (U4.1 D) C;have E:=h.x0 d u;rw[w]at E;trivial
def dN(s:cG)(id:Int):cG×Int:=
  if id∉s.ids then(s,6)else if s.st id=0 then(s,12)else
  if s.st id=1 then(b0 (eR s (s.aD id) λo=>decide (o.aY=id)) id,0)else if s.st id=3 then(b0 (dy s (s.aD id) (-1)) id,0)else(b0 s id,0)
theorem dq.call(h:dq s)(id:Int):dq (dN s id).1:=by rw[dN];split;trivial;rename_i d;have d:=U4.1 d;split;trivial;rename_i N;split;rename_i u;have hu:=h.un [id] (λy E=>by rw[UP.1 E];exact⟨d,u⟩);refine hu.ext rfl λx C=>?_;have C:x∈s.ids:=C;dsimp only[b0,eR,cA,iJ,eS];refine⟨?_,rfl,?_,?_⟩;by_cases e:x=id;rw[e,cf,aw cE];rw[bP e,al (by simpa using e)];by_cases e:x=id;rw[e,cf,aw cE];rw[bP e,al (by simpa using e)];by_cases e:x=s.aD id;grind[cf,List.filter_congr,jx];rw[bP e];exact(h.others C (λz H=>by rw[UP.1 H]) e).symm;rename_i u;split;rename_i w;exact h.x0 d w;rename_i w;have D:=h.idle id d u w;refine(h.set (y:=id) (v:=0) ⟨u,w⟩ D (.inl rfl)).ext rfl λx _=>⟨rfl,rfl,?_,rfl⟩;dsimp only[b0,eg];grind[cf,bP]
theorem tH(s:cG)(id:Int)(h:id∈s.ids):(dN s id).1.st id=0/\(dN s id).1.ids=s.ids:=by rw[dN,al (λd=>d h)];split;trivial;split;exact⟨cf _ _ _,rfl⟩;split;exact⟨cf _ _ _,rfl⟩;exact⟨cf _ _ _,rfl⟩
def dU(s:cG)(id:Int):List Int:=(s.row id).map (·.aY)++if s.aL id≠-1 then[s.aL id]else[]
def gD(s:cG)(id:Int):cG:={s with ids:=s.ids.filter λy=>decide (y≠id)}
def eT(s:cG)(id:Int):cG×List Int×Int:=
  if id∉s.ids then(s,[],6)else(gD (eS (cA (dN s id).1 id []) (dU (dN s id).1 id)) id,dU (dN s id).1 id,0)
theorem Ex(h:dq s){id:Int}(u:id∈s.ids){x:Int}(d:x∈dU s id):x∈s.ids/\x≠id/\s.aD x=id/\(s.st x=1\/s.st x=3):=by rcases UQ.1 d with d|d;obtain⟨o,C,rfl⟩:=U3.1 d;have:=h.row id u o C;simp_all;split at d;rename_i w;rw[UP.1 d];have:=h.h6 id u w;simp_all;trivial
theorem dq.Pq(h:dq s){id:Int}(E:id∈s.ids)(hs:s.st id=0):dq (gD (eS (cA s id []) (dU s id)) id):=by
 have ag:∀y∈(s.row id).map (·.aY),y∈s.ids/\s.st y=1:=λy H=>(by obtain⟨o,w,rfl⟩:=U3.1 H;have:=h.row id E o w;simp_all);have N:∀y∈(s.row id).map (·.aY),s.aD y=id:=λy H=>(by obtain⟨o,w,rfl⟩:=U3.1 H;exact(h.row id E o w).2.2.2);have hu:=h.un _ ag;have an:id∉(s.row id).map (·.aY):=cp
 have Q:(iJ s ((s.row id).map (·.aY))).row id=[]:=(by dsimp only[iJ];refine WM.2 λo w=>?_;grind);have av:(iJ s ((s.row id).map (·.aY))).st id=0:=by dsimp only[iJ,eS];rw[al an];exact hs
 by_cases u:s.aL id=-1;have C:=hu.drop (x:=id) U Q u U;have D:dU s id=(s.row id).map (·.aY):=by rw[dU,al (λh=>h u),VK]
 rw[D];refine C.ext rfl λx d=>⟨rfl,rfl,rfl,?_⟩;have d:x∈s.ids/\x≠id:=by grind[iJ,eS]
 dsimp only[gD,eS,cA,iJ];rw[bP d.2];exact(h.others d.1 N d.2).symm;obtain⟨V,c2,W,Z⟩:=h.h6 id E u;have O:s.aL id∉(s.row id).map (·.aY):=cp
 have ar:(iJ s ((s.row id).map (·.aY))).st (s.aL id)=3:=by dsimp only[iJ,eS];rw[al O];exact W
 have aq:(iJ s ((s.row id).map (·.aY))).aD (s.aL id)=id:=by dsimp only[iJ,eS];rw[al O];exact Z
 have P:=hu.x0 (y:=s.aL id) V ar;rw[aq]at P;have C:=P.drop (x:=id) (by dsimp only;rw[bP (W5 c2)];omega) Q (by dsimp only;rw[cf]) (by dsimp only;rw[bP (W5 c2)];omega);have D:dU s id=(s.row id).map (·.aY)++[s.aL id]:=by rw[dU,aw u]
 rw[D];refine C.ext rfl λx d=>?_;have d:x∈s.ids/\x≠id:=by grind[iJ,eS]
 dsimp only[gD,eS,cA,iJ];refine⟨?_,?_,?_,?_⟩;by_cases e:x=s.aL id;rw[e,cf,aw cE];rw[bP e];simp_all;grind[bP];by_cases e:x=s.aL id;rw[e,cf,aw cE];rw[bP e];simp_all;rw[bP d.2];exact(h.others d.1 N d.2).symm
theorem dq.leave(h:dq s)(id:Int):dq (eT s id).1:=by rw[eT];split;trivial;rename_i d;have d:=U4.1 d;have u:=tH s id d;exact(h.call id).Pq (by rw[u.2];exact d) u.1
end Go.Proofs.YtglgidjhoncphaaGreatDoor
namespace Go.Proofs.YtglgidjhoncphaaGreatDoor
open Go Go.QM
theorem DV{α:Type}{f g:α->ax}(i j:Nat){hs ef d gs:List ax}{L M:List α}{A bl:ax}(a:α)(u:eO i hs=some (A,ef))(w:eO j ef=some (b5 f L,d))(hw:aF A bl)(C:bl=g a)(D:∀x∈L,f x=g x)(E:(a::L).Perm M)
 (k:aF (ah d) (ah gs)):aF (ah hs) (ah (b5 g M::gs)):=
 (fI u).trans ((dO hw (Vx _)).trans (cQ 0 j (hs:=bl::ef) a rfl w C D E k))
variable(b:Nat)(A:Int->Nat)
theorem PU(s:cG)(au:dq s)(to:Int)(o:eo)(H:s.ids.length<=1000000):bu 376 [ae b,aa to,.agg (e1 o).toArray] be [ha b A s] (aa (eD s to o).2) [ha b A (eD s to o).1]:=by
 apply aG Tryz.func376 Tryz.ntmps376;intro F _;refine J [1,25,423] ?_;intro bb;apply J [31];refine ab.open 1 rfl (λE D=>?_);obtain⟨ad,cap,aE⟩:=E;have bw:=D;apply J [155];dsimp only at bw⊢;by_cases u:to∈s.ids;by_cases d:o.aY∈s.ids;apply J [175];apply aq (my b aE s.ids.length A s.ids to u);apply J [14,257,27,36,173];apply aq (my b aE s.ids.length A s.ids o.aY d);apply J [14,57,73,373,73,111,2,201];have w:¬(to∉s.ids\/o.aY∉s.ids):=b2
 apply UR rfl<;>intro he;have hv:eD s to o=(s,1):=by rw[eD,al w,aw he]
 rw[hv];apply J [103];exact pe;haveI:=o6 (A:=A) (ad:=ad) (cap:=cap) (s:=s) (x:=o.aY) d;apply J [67,91,37];apply UR rfl<;>intro C;have hv:eD s to o=(s,12):=by rw[eD,al w,al he,aw C]
 rw[hv];apply J [103];exact pe;have hv:eD s to o=(eN (dQ s o.aY 1 to) to o,0):=by rw[eD,al w,al he,al C]
 rw[hv];have N:=uT au u;apply J [23,32];apply aq (uA A ad cap s s.ids o.aY d bw 1 to);apply J [14,29];refine Wd (B:=ah [b5 (dE A ad cap (dQ s o.aY 1 to)) s.ids,b5 (eU ad cap (dQ s o.aY 1 to)) s.ids,aj b 352 [.map (some aE)],bJ QM.encI aE (ee A s.ids) s.ids.length,aj bb 75 (e1 o),F]) ai ?_;refine cC [0,1,2,3,-4] (eL (aZ _)) ?_;apply J [370,311,12];apply a7 (PX A ad cap (dQ s o.aY 1 to) s.ids to u bw o (by show(s.row to).length<=1000000;omega));intro y _;refine J [237,110,209] ?_;exact eZ (ay (⟨(aP ad to y.1),(aP cap to y.2),aE⟩:kX) bw ai);have hv:eD s to o=(s,6):=aw (.inr d);rw[hv];apply J [175];apply aq (my b aE s.ids.length A s.ids to u);apply J [14,257,27,36,173];apply aq (mw b aE s.ids.length A s.ids o.aY d);apply J [14,57,73,373,17,211];exact pe;have hv:eD s to o=(s,6):=aw (.inl u);rw[hv];by_cases d:o.aY∈s.ids;apply J [175];apply aq (mw b aE s.ids.length A s.ids to u);apply J [14,257,27,36,173];apply aq (my b aE s.ids.length A s.ids o.aY d);apply J [14,57,17,211];exact pe;apply J [175];apply aq (mw b aE s.ids.length A s.ids to u);apply J [14,257,27,36,173];apply aq (mw b aE s.ids.length A s.ids o.aY d);apply J [14,57,17,211];exact pe
theorem PV(s:cG)(au:dq s)(id:Int):bu 356 [ae b,aa id] be [ha b A s] (aa (hZ s id).2) [ha b A (hZ s id).1]:=by
 apply aG Tryz.func356 Tryz.ntmps356;intro F _;apply J [1];refine ab.open 0 rfl (λN E=>?_);obtain⟨ad,cap,aE⟩:=N;have bw:=E;apply J [85];dsimp only at bw⊢;by_cases h:id∈s.ids;obtain⟨M,bH⟩:=fp h;have C:=l1 bw bH;apply J [330,62];apply aq (my b aE s.ids.length A s.ids id h);apply J [14,57,73,67,91,20];refine aT.split 23 rfl (λu=>?_) (λu=>?_);have u:=dt u;have hv:hZ s id=(s,12):=by rw[hZ,al (λd=>d h),aw (.inl u)]
 rw[hv];apply J [48,51,140,197];exact I6;have u:=dX u;apply J [138,343,191];refine c8 rfl rfl rfl (len 75 3 rfl rfl) ?_;apply J [160,206];apply UR rfl<;>intro D;have hv:hZ s id=(s,12):=by rw[hZ,al (λd=>d h),aw (.inr U)]
 rw[hv];apply J [103];exact I6;have hv:hZ s id=(eg s id 2,0):=by rw[hZ,al (λd=>d h),al (λd=>d.elim (λw=>u w) (λw=>D U))]
 rw[hv];apply J [23,127,406,203,119];exact eZ (ay (⟨ad,cap,aE⟩:kX) bw (bV (bV (cQ 0 0 id rfl rfl (by dsimp only[dE,b0,dQ,eN,cA,eR,dy,eg];simp only[cf];rfl) (λy H=>by have h:=C y H;dsimp only[dE,b0,dQ,eN,cA,eR,dy,eg];simp only[bP h]) bH.symm (ao (ao (aZ _)))))));have hv:hZ s id=(s,6):=aw h;rw[hv];apply J [62];apply aq (mw b aE s.ids.length A s.ids id h);apply J [10,57,17,211];exact pe
theorem F2(s:cG)(au:dq s)(to:Int):bu 377 [ae b,aa to] be [ha b A s] (.tuple #[.agg (e1 (dm s to).2.1).toArray,aa (dm s to).2.2.1,aa (dm s to).2.2.2]) [ha b A (dm s to).1]:=by
 apply aG Tryz.func377 Tryz.ntmps377;intro F _;refine J [1,25,233] ?_;intro cl;apply J [242];refine ab.open 1 rfl (λa2 a0=>?_);obtain⟨ad,cap,aE⟩:=a2;have bw:=a0;apply J [155];dsimp only at bw⊢;by_cases h:to∈s.ids;have E:¬(to∉s.ids):=b2
 haveI:=o6 (A:=A) (ad:=ad) (cap:=cap) (s:=s) (x:=to) h;apply J [175];apply aq (my b aE s.ids.length A s.ids to h);apply J [14,57,73,67,91,20];refine aT.split 30 rfl (λQ=>?_) (λQ=>?_);have Q:=dt Q;apply J [138,261,158,140];apply UR rfl<;>intro aV;have hv:dm s to=(s,dx,0,12):=by rw[dm,al E,aw ⟨Q,aV⟩]
 rw[hv];dsimp only;apply J [24,234,96,116];exact yh;have N:¬(s.st to≠0/\s.st to≠2):=U
 refine J [205,621,117,81,0] ?_;apply aq (AD A ad cap s s.ids to h bw);apply J [14];rcases uS (s.row to)with d|⟨o,r,d⟩;have hv:dm s to=(s,dx,0,6):=by rw[dm,al E,al N,d]
 rw[hv,d];dsimp only[sD,sC];refine J [371,372,233] ?_;intro a3;apply J [96,101,56,259,55,234,96,368];exact yh;obtain⟨D,ax,aB,aI⟩:=au.row to h o (by rw[d];simp);have aS:=pV (s.row to);have W:(s.row to).length=r.length+1:=b2
 have Z:=au.h6 to h;obtain⟨M,bH⟩:=fp h;have H:=l1 bw bH;rw[show sD (s.row to)=o from by rw[d];rfl,show sC (s.row to)=true from by rw[d];rfl];refine J [371,372,233] ?_;intro O;apply J [96,101,56,89,118];refine Wd (B:=ah [b5 (dE A ad cap s) s.ids,b5 (eU ad cap s) s.ids,aj b 352 [.map (some aE)],bJ QM.encI aE (ee A s.ids) s.ids.length,aj cl 75 (e1 dx),aj O 75 (e1 o),F]) ai ?_;refine J [525,330,38,172,81,61,622,80,81,81,281,29] ?_;refine Wd (B:=ah [b5 (dE A (aP ad to (du (ad to) (cap to) 1 3)) (aP cap to (cap to-1)) (cA s to r)) s.ids,b5 (eU (aP ad to (du (ad to) (cap to) 1 3)) (aP cap to (cap to-1)) (cA s to r)) s.ids,aj b 352 [.map (some aE)],bJ QM.encI aE (ee A s.ids) s.ids.length,aj cl 75 (e1 dx),aj O 75 (e1 o),F]) (cQ 0 0 to rfl rfl (by dsimp only[dE,b0,dQ,eN,cA,eR,dy,eg];simp only[cf];rw[W];rfl) (λy w=>by have h:=H y w;dsimp only[dE,b0,dQ,eN,cA,eR,dy,eg];simp only[bP h]) bH.symm (DV 0 0 to rfl rfl (BD (j:=1) U) (by dsimp only[eU,b0,dQ,eN,cA,eR,dy,eg];simp only[cf];rw[W,d];rfl) (λy w=>by have h:=H y w;dsimp only[eU,b0,dQ,eN,cA,eR,dy,eg];simp only[bP h]) bH.symm ai)) ?_;apply J [38,0];apply aq (m1 A (aP ad to (du (ad to) (cap to) 1 3)) (aP cap to (cap to-1)) (cA s to r) s.ids to h bw);apply J [16,29,451,49,109,490];rw[ke D];apply J [441,200,107];apply aq (m1 A (aP ad to (du (ad to) (cap to) 1 3)) (aP cap to (cap to-1)) (b0 (cA s to r) to) s.ids o.aY D bw);apply J [16];by_cases C:o.aL=true;apply J [29,24,54,3];rw[C];apply J [17];haveI:=o6 (A:=A) (ad:=(aP ad to (du (ad to) (cap to) 1 3))) (cap:=(aP cap to (cap to-1))) (s:=(b0 (b0 (cA s to r) to) o.aY)) (x:=to) h;apply J [70,31,34];apply UR rfl<;>intro u;have u:s.aL to≠-1:=u;obtain⟨V,an,ar,av⟩:=Z u;apply J [38,53,2,336];rw[show(b0 (b0 (cA s to r) to) o.aY).aL to=s.aL to from rfl,ke V];refine e rfl ?_;apply aq (m1 A (aP ad to (du (ad to) (cap to) 1 3)) (aP cap to (cap to-1)) (b0 (b0 (cA s to r) to) o.aY) s.ids (s.aL to) V bw);apply J [16];have hv:dm s to=((dQ (dy (b0 (b0 (b0 (cA s to r) to) o.aY) (s.aL to)) to o.aY) o.aY 3 to),o,s.aL to,0):=by rw[dm,al E,al N,d];dsimp only;rw[aw C,aw u]
 rw[hv];dsimp only;apply J [29];refine Wd (B:=ah [b5 (dE A (aP ad to (du (ad to) (cap to) 1 3)) (aP cap to (cap to-1)) (b0 (b0 (b0 (cA s to r) to) o.aY) (s.aL to))) s.ids,b5 (eU (aP ad to (du (ad to) (cap to) 1 3)) (aP cap to (cap to-1)) (b0 (b0 (b0 (cA s to r) to) o.aY) (s.aL to))) s.ids,aj b 352 [.map (some aE)],bJ QM.encI aE (ee A s.ids) s.ids.length,aj cl 75 (e1 dx),aj O 75 (e1 o),F]) ai ?_;apply J [324,38,61,80,290,284];refine Wd (B:=ah [b5 (dE A (aP ad to (du (ad to) (cap to) 1 3)) (aP cap to (cap to-1)) (dy (b0 (b0 (b0 (cA s to r) to) o.aY) (s.aL to)) to o.aY)) s.ids,b5 (eU (aP ad to (du (ad to) (cap to) 1 3)) (aP cap to (cap to-1)) (dy (b0 (b0 (b0 (cA s to r) to) o.aY) (s.aL to)) to o.aY)) s.ids,aj b 352 [.map (some aE)],bJ QM.encI aE (ee A s.ids) s.ids.length,aj cl 75 (e1 dx),aj O 75 (e1 o),F]) (cQ 0 0 to rfl rfl (by dsimp only[dE,b0,dQ,eN,cA,eR,dy,eg];simp only[cf];rfl) (λy w=>by have h:=H y w;dsimp only[dE,b0,dQ,eN,cA,eR,dy,eg];simp only[bP h]) bH.symm ai) ?_;apply J [175];apply aq (uA A (aP ad to (du (ad to) (cap to) 1 3)) (aP cap to (cap to-1)) (dy (b0 (b0 (b0 (cA s to r) to) o.aY) (s.aL to)) to o.aY) s.ids o.aY D bw 3 to);apply J [16,100,224,252,69];exact th;have u:¬s.aL to≠-1:=u;have hv:dm s to=((dQ (dy (b0 (b0 (cA s to r) to) o.aY) to o.aY) o.aY 3 to),o,s.aL to,0):=by rw[dm,al E,al N,d];dsimp only;rw[aw C,al u]
 rw[hv];dsimp only;apply J [44];refine Wd (B:=ah [b5 (dE A (aP ad to (du (ad to) (cap to) 1 3)) (aP cap to (cap to-1)) (b0 (b0 (cA s to r) to) o.aY)) s.ids,b5 (eU (aP ad to (du (ad to) (cap to) 1 3)) (aP cap to (cap to-1)) (b0 (b0 (cA s to r) to) o.aY)) s.ids,aj b 352 [.map (some aE)],bJ QM.encI aE (ee A s.ids) s.ids.length,aj cl 75 (e1 dx),aj O 75 (e1 o),F]) ai ?_;apply J [324,38,61,80,290,284];refine Wd (B:=ah [b5 (dE A (aP ad to (du (ad to) (cap to) 1 3)) (aP cap to (cap to-1)) (dy (b0 (b0 (cA s to r) to) o.aY) to o.aY)) s.ids,b5 (eU (aP ad to (du (ad to) (cap to) 1 3)) (aP cap to (cap to-1)) (dy (b0 (b0 (cA s to r) to) o.aY) to o.aY)) s.ids,aj b 352 [.map (some aE)],bJ QM.encI aE (ee A s.ids) s.ids.length,aj cl 75 (e1 dx),aj O 75 (e1 o),F]) (cQ 0 0 to rfl rfl (by dsimp only[dE,b0,dQ,eN,cA,eR,dy,eg];simp only[cf];rfl) (λy w=>by have h:=H y w;dsimp only[dE,b0,dQ,eN,cA,eR,dy,eg];simp only[bP h]) bH.symm ai) ?_;apply J [175];apply aq (uA A (aP ad to (du (ad to) (cap to) 1 3)) (aP cap to (cap to-1)) (dy (b0 (b0 (cA s to r) to) o.aY) to o.aY) s.ids o.aY D bw 3 to);apply J [16,100,224,252,69];exact th;have ag:o.aL=false:=b2
 have hv:dm s to=((b0 (b0 (cA s to r) to) o.aY),o,-1,0):=by rw[dm,al E,al N,d];dsimp only;rw[al C]
 rw[hv];dsimp only;apply J [29,24,54,3];rw[ag];apply J [204,130,252,69];exact th;have Q:=dX Q;apply J [212,144,189];have N:¬(s.st to≠0/\s.st to≠2):=U
 refine J [205,621,117,81,0] ?_;apply aq (AD A ad cap s s.ids to h bw);apply J [14];rcases uS (s.row to)with d|⟨o,r,d⟩;have hv:dm s to=(s,dx,0,6):=by rw[dm,al E,al N,d]
 rw[hv,d];dsimp only[sD,sC];refine J [371,372,233] ?_;intro a4;apply J [96,101,56,259,55,234,96,368];exact yh;obtain⟨D,ax,aB,aI⟩:=au.row to h o (by rw[d];simp);have aS:=pV (s.row to);have W:(s.row to).length=r.length+1:=b2
 have Z:=au.h6 to h;obtain⟨M,bH⟩:=fp h;have H:=l1 bw bH;rw[show sD (s.row to)=o from by rw[d];rfl,show sC (s.row to)=true from by rw[d];rfl];refine J [371,372,233] ?_;intro P;apply J [96,101,56,89,118];refine Wd (B:=ah [b5 (dE A ad cap s) s.ids,b5 (eU ad cap s) s.ids,aj b 352 [.map (some aE)],bJ QM.encI aE (ee A s.ids) s.ids.length,aj cl 75 (e1 dx),aj P 75 (e1 o),F]) ai ?_;refine J [525,330,38,172,81,61,622,80,81,81,281,29] ?_;refine Wd (B:=ah [b5 (dE A (aP ad to (du (ad to) (cap to) 1 3)) (aP cap to (cap to-1)) (cA s to r)) s.ids,b5 (eU (aP ad to (du (ad to) (cap to) 1 3)) (aP cap to (cap to-1)) (cA s to r)) s.ids,aj b 352 [.map (some aE)],bJ QM.encI aE (ee A s.ids) s.ids.length,aj cl 75 (e1 dx),aj P 75 (e1 o),F]) (cQ 0 0 to rfl rfl (by dsimp only[dE,b0,dQ,eN,cA,eR,dy,eg];simp only[cf];rw[W];rfl) (λy w=>by have h:=H y w;dsimp only[dE,b0,dQ,eN,cA,eR,dy,eg];simp only[bP h]) bH.symm (DV 0 0 to rfl rfl (BD (j:=1) U) (by dsimp only[eU,b0,dQ,eN,cA,eR,dy,eg];simp only[cf];rw[W,d];rfl) (λy w=>by have h:=H y w;dsimp only[eU,b0,dQ,eN,cA,eR,dy,eg];simp only[bP h]) bH.symm ai)) ?_;apply J [38,0];apply aq (m1 A (aP ad to (du (ad to) (cap to) 1 3)) (aP cap to (cap to-1)) (cA s to r) s.ids to h bw);apply J [16,29,451,49,109,490];rw[ke D];apply J [441,200,107];apply aq (m1 A (aP ad to (du (ad to) (cap to) 1 3)) (aP cap to (cap to-1)) (b0 (cA s to r) to) s.ids o.aY D bw);apply J [16];by_cases C:o.aL=true;apply J [29,24,54,3];rw[C];apply J [17];haveI:=o6 (A:=A) (ad:=(aP ad to (du (ad to) (cap to) 1 3))) (cap:=(aP cap to (cap to-1))) (s:=(b0 (b0 (cA s to r) to) o.aY)) (x:=to) h;apply J [70,31,34];apply UR rfl<;>intro u;have u:s.aL to≠-1:=u;obtain⟨V,an,ar,av⟩:=Z u;apply J [38,53,2,336];rw[show(b0 (b0 (cA s to r) to) o.aY).aL to=s.aL to from rfl,ke V];refine e rfl ?_;apply aq (m1 A (aP ad to (du (ad to) (cap to) 1 3)) (aP cap to (cap to-1)) (b0 (b0 (cA s to r) to) o.aY) s.ids (s.aL to) V bw);apply J [16];have hv:dm s to=((dQ (dy (b0 (b0 (b0 (cA s to r) to) o.aY) (s.aL to)) to o.aY) o.aY 3 to),o,s.aL to,0):=by rw[dm,al E,al N,d];dsimp only;rw[aw C,aw u]
 rw[hv];dsimp only;apply J [29];refine Wd (B:=ah [b5 (dE A (aP ad to (du (ad to) (cap to) 1 3)) (aP cap to (cap to-1)) (b0 (b0 (b0 (cA s to r) to) o.aY) (s.aL to))) s.ids,b5 (eU (aP ad to (du (ad to) (cap to) 1 3)) (aP cap to (cap to-1)) (b0 (b0 (b0 (cA s to r) to) o.aY) (s.aL to))) s.ids,aj b 352 [.map (some aE)],bJ QM.encI aE (ee A s.ids) s.ids.length,aj cl 75 (e1 dx),aj P 75 (e1 o),F]) ai ?_;apply J [324,38,61,80,290,284];refine Wd (B:=ah [b5 (dE A (aP ad to (du (ad to) (cap to) 1 3)) (aP cap to (cap to-1)) (dy (b0 (b0 (b0 (cA s to r) to) o.aY) (s.aL to)) to o.aY)) s.ids,b5 (eU (aP ad to (du (ad to) (cap to) 1 3)) (aP cap to (cap to-1)) (dy (b0 (b0 (b0 (cA s to r) to) o.aY) (s.aL to)) to o.aY)) s.ids,aj b 352 [.map (some aE)],bJ QM.encI aE (ee A s.ids) s.ids.length,aj cl 75 (e1 dx),aj P 75 (e1 o),F]) (cQ 0 0 to rfl rfl (by dsimp only[dE,b0,dQ,eN,cA,eR,dy,eg];simp only[cf];rfl) (λy w=>by have h:=H y w;dsimp only[dE,b0,dQ,eN,cA,eR,dy,eg];simp only[bP h]) bH.symm ai) ?_;apply J [175];apply aq (uA A (aP ad to (du (ad to) (cap to) 1 3)) (aP cap to (cap to-1)) (dy (b0 (b0 (b0 (cA s to r) to) o.aY) (s.aL to)) to o.aY) s.ids o.aY D bw 3 to);apply J [16,100,224,252,69];exact th;have u:¬s.aL to≠-1:=u;have hv:dm s to=((dQ (dy (b0 (b0 (cA s to r) to) o.aY) to o.aY) o.aY 3 to),o,s.aL to,0):=by rw[dm,al E,al N,d];dsimp only;rw[aw C,al u]
 rw[hv];dsimp only;apply J [44];refine Wd (B:=ah [b5 (dE A (aP ad to (du (ad to) (cap to) 1 3)) (aP cap to (cap to-1)) (b0 (b0 (cA s to r) to) o.aY)) s.ids,b5 (eU (aP ad to (du (ad to) (cap to) 1 3)) (aP cap to (cap to-1)) (b0 (b0 (cA s to r) to) o.aY)) s.ids,aj b 352 [.map (some aE)],bJ QM.encI aE (ee A s.ids) s.ids.length,aj cl 75 (e1 dx),aj P 75 (e1 o),F]) ai ?_;apply J [324,38,61,80,290,284];refine Wd (B:=ah [b5 (dE A (aP ad to (du (ad to) (cap to) 1 3)) (aP cap to (cap to-1)) (dy (b0 (b0 (cA s to r) to) o.aY) to o.aY)) s.ids,b5 (eU (aP ad to (du (ad to) (cap to) 1 3)) (aP cap to (cap to-1)) (dy (b0 (b0 (cA s to r) to) o.aY) to o.aY)) s.ids,aj b 352 [.map (some aE)],bJ QM.encI aE (ee A s.ids) s.ids.length,aj cl 75 (e1 dx),aj P 75 (e1 o),F]) (cQ 0 0 to rfl rfl (by dsimp only[dE,b0,dQ,eN,cA,eR,dy,eg];simp only[cf];rfl) (λy w=>by have h:=H y w;dsimp only[dE,b0,dQ,eN,cA,eR,dy,eg];simp only[bP h]) bH.symm ai) ?_;apply J [175];apply aq (uA A (aP ad to (du (ad to) (cap to) 1 3)) (aP cap to (cap to-1)) (dy (b0 (b0 (cA s to r) to) o.aY) to o.aY) s.ids o.aY D bw 3 to);apply J [16,100,224,252,69];exact th;have ag:o.aL=false:=b2
 have hv:dm s to=((b0 (b0 (cA s to r) to) o.aY),o,-1,0):=by rw[dm,al E,al N,d];dsimp only;rw[al C]
 rw[hv];dsimp only;apply J [29,24,54,3];rw[ag];apply J [204,130,252,69];exact th;have hv:dm s to=(s,dx,0,6):=aw h;rw[hv];dsimp only;apply J [175];apply aq (mw b aE s.ids.length A s.ids to h);apply J [14,57,55,234,252,116];exact yh
theorem PC(s:cG)(au:dq s)(id:Int):bu 378 [ae b,aa id] be [ha b A s] (.tuple #[aa (fB s id).2.1,aa (fB s id).2.2]) [ha b A (fB s id).1]:=by
 apply aG Tryz.func378 Tryz.ntmps378;intro F _;apply J [1];refine ab.open 0 rfl (λN E=>?_);obtain⟨ad,cap,aE⟩:=N;have bw:=E;apply J [85];dsimp only at bw⊢;by_cases h:id∈s.ids;have u:¬(id∉s.ids):=b2
 haveI:=o6 (A:=A) (ad:=ad) (cap:=cap) (s:=s) (x:=id) h;apply J [215,32];apply aq (my b aE s.ids.length A s.ids id h);apply J [10,57,73,67,91,37];apply UR rfl<;>intro w;have hv:fB s id=(s,0,12):=by rw[fB,al u,aw w]
 rw[hv];dsimp only;apply J [179];exact yi;apply J [70,201];apply UR rfl<;>intro d;have hv:fB s id=(s,0,6):=by rw[fB,al u,al w,aw d]
 rw[hv];dsimp only;apply J [179];exact yi;have hv:fB s id=(b0 (dy s id (-1)) (s.aL id),s.aL id,0):=by rw[fB,al u,al w,al d]
 rw[hv];dsimp only;obtain⟨C,O,P,Q⟩:=au.h6 id h d;obtain⟨M,bH⟩:=fp h;have D:=l1 bw bH;apply J [23,70,31];refine Wd (B:=ah [b5 (dE A ad cap s) s.ids,b5 (eU ad cap s) s.ids,aj b 352 [.map (some aE)],bJ QM.encI aE (ee A s.ids) s.ids.length,F]) ai ?_;apply J [324,117,290,203,29];refine Wd (B:=ah [b5 (dE A ad cap (dy s id (-1))) s.ids,b5 (eU ad cap (dy s id (-1))) s.ids,aj b 352 [.map (some aE)],bJ QM.encI aE (ee A s.ids) s.ids.length,F]) (cQ 0 0 id rfl rfl (by dsimp only[dE,b0,dQ,eN,cA,eR,dy,eg];simp only[cf];rfl) (λy H=>by have h:=D y H;dsimp only[dE,b0,dQ,eN,cA,eR,dy,eg];simp only[bP h]) bH.symm ai) ?_;apply J [38,53,2,336];rw[ke C];refine e rfl ?_;apply aq (m1 A ad cap (dy s id (-1)) s.ids (s.aL id) C bw);apply J [10,3,26,69];exact yi;have hv:fB s id=(s,0,6):=aw h;rw[hv];dsimp only;apply J [215,32];apply aq (mw b aE s.ids.length A s.ids id h);apply J [10,57,17,26,116];exact yi
variable(id:Int)
theorem PG(o:eo):bu 330 [.agg (e1 o).toArray,ae b] (λF=>Rd F b (.cells #[aa id] 3 (0,0))) [] (.bool (decide (o.aY=id))) []:=by apply aG Tryz.func330 Tryz.ntmps330;intro F d;apply J [9];haveI:fT F b (.cells #[aa id] 3 (0,0)):=⟨d⟩;refine J [25,423] ?_;intro bb;apply J [37,111,82,296,63];exact dw
theorem w6(s:cG)(au:dq s)(id:Int)(Q:s.ids.length<=1000000):bu 279 [ae b,aa id] be [ha b A s] (aa (dN s id).2) [ha b A (dN s id).1]:=by
 apply aG Tryz.func279 Tryz.ntmps279;intro F _;refine J [1,25,447] ?_;intro bo;apply J [31];refine ab.open 1 rfl (λP N=>?_);obtain⟨ad,cap,aE⟩:=P;have bw:=N;apply J [155];dsimp only at bw⊢;by_cases h:id∈s.ids;have u:¬(id∉s.ids):=b2
 haveI:=o6 (A:=A) (ad:=ad) (cap:=cap) (s:=s) (x:=id) h;apply J [38,82,0];apply aq (my b aE s.ids.length A s.ids id h);apply J [14,113,199,118,67,250,98];apply UR rfl<;>intro w;have hv:dN s id=(s,12):=by rw[dN,al u,aw w]
 rw[hv];apply J [103];exact pe;apply J [98];apply UR rfl<;>intro C;have hv:dN s id=(b0 (eR s (s.aD id) λo=>decide (o.aY=id)) id,0):=by rw[dN,al u,al w,aw C]
 rw[hv];dsimp only;obtain⟨d,_⟩:=au.snd id h C;have V:=uT au d;refine J [623,604,49,277,490] ?_;rw[ke d];apply J [88,87,571];refine dl rfl rfl rfl rfl ?_;apply eQ (AB A ad cap s s.ids (s.aD id) d bw 330 [ae bo] (λo=>decide (o.aY=id)) (λF=>Rd F bo (.cells #[aa id] 3 (0,0))) (PG bo id) (λE _ h=>yv h E) U) fT.rd;intro y _;change b6 _ _ _ _ _ _ _ _ _ _ (ah [_,_,_,_,_,_,_]);apply J [301,107];apply aq (m1 A (aP ad (s.aD id) y.2.1) (aP cap (s.aD id) y.2.2) (eR s (s.aD id) λo=>decide (o.aY=id)) s.ids id h bw);apply J [16,119];exact eZ (ay (⟨(aP ad (s.aD id) y.2.1),(aP cap (s.aD id) y.2.2),aE⟩:kX) bw ai);apply J [98];apply UR rfl<;>intro D;have hv:dN s id=(b0 (dy s (s.aD id) (-1)) id,0):=by rw[dN,al u,al w,al C,aw D]
 rw[hv];dsimp only;obtain⟨d,_⟩:=au.ask id h D;obtain⟨M,bH⟩:=fp d;have H:=l1 bw bH;refine J [623] ?_;refine ab.draw _ [11] [0,1,2,3,4,5,6,7,8,9,10,-11] aM aM (Vx _) ?_;apply J [49,277,490];rw[ke d];refine b6.bg (fV 0 rfl bH) ?_;apply J [88,341,90,508,301,8];refine Wd (B:=ah [b5 (dE A ad cap (dy s (s.aD id) (-1))) s.ids,b5 (eU ad cap (dy s (s.aD id) (-1))) s.ids,aj b 352 [.map (some aE)],bJ QM.encI aE (ee A s.ids) s.ids.length,F]) (cQ 0 0 (s.aD id) rfl rfl (by dsimp only[dE,b0,dQ,eN,cA,eR,dy,eg];simp only[cf];rfl) (λy O=>by have h:=H y O;dsimp only[dE,b0,dQ,eN,cA,eR,dy,eg];simp only[bP h]) bH.symm ai) ?_;apply J [38,0];apply aq (m1 A ad cap (dy s (s.aD id) (-1)) s.ids id h bw);apply J [10,119];exact pe;have hv:dN s id=(b0 s id,0):=by rw[dN,al u,al w,al C,al D]
 rw[hv];dsimp only;apply J [23,107];apply aq (m1 A ad cap s s.ids id h bw);apply J [14,119];exact pe;have hv:dN s id=(s,6):=aw h;rw[hv];apply J [38,82,0];apply aq (mw b aE s.ids.length A s.ids id h);apply J [14,113,34,17,124];exact pe
theorem PP(o:eo):bu 383 [.agg (e1 o).toArray] (λ_=>True) [] (.bool true) []:=by apply aG Tryz.func383 Tryz.ntmps383;intro F _;refine J [194,423] ?_;intro d;apply J [37,24,63];exact dw
theorem PQ(s:cG)(au:dq s)(id:Int)(aV:s.ids.length<=1000000):bL 369 [ae b,aa id] be [ha b A s] (λy:Option Addr×Nat=>.tuple #[.slice y.1 (eT s id).2.1.length y.2,aa (eT s id).2.2]) (λ_=>True) (λy=>[a1 3 1 y.1 (eT s id).2.1.length y.2 (ints (eT s id).2.1),ha b A (eT s id).1]):=by
 apply aG Tryz.func369 Tryz.ntmps369;intro F _;apply J [1];refine ab.open 0 rfl (λaB ax=>?_);obtain⟨ad,cap,aE⟩:=aB;have bw:=ax;apply J [85];dsimp only at bw⊢;by_cases h:id∈s.ids;have hv:eT s id=(gD (eS (cA (dN s id).1 id []) (dU (dN s id).1 id)) id,dU (dN s id).1 id,0):=al (λa2=>a2 h);rw[hv];dsimp only;obtain⟨bh,a0⟩:=tH s id h;have V:=au.call id;apply J [24,192,32];apply aq (my b aE s.ids.length A s.ids id h);apply J [10,113,199,118];refine Wd (B:=ah [ha b A s,F]) (ay (⟨ad,cap,aE⟩:kX) bw ai) ?_;apply J [175];apply aq (w6 b A s au id aV);apply J [5];clear hv bw;have w:id∈(dN s id).1.ids:=b2
 have a9:(dN s id).1.ids.length<=1000000:=b2
 generalize(dN s id).1=Z at bh a0 V w a9⊢;clear a0 aV h au;apply J [29];refine ab.open 0 rfl (λaB ax=>?_);obtain⟨ad,cap,aE⟩:=aB;have bw:=ax;apply J [85];dsimp only at bw⊢;have bp:=uT V w;have aS:=λx (C:x∈dU Z id)=>Ex V w C;apply J [117,81,0];apply a7 (AB A ad cap Z Z.ids id w bw 383 [] (λ_=>true) (λ_=>True) PP (λ_ _ _=>trivial) U);intro y _;apply J [14];have a4:(eR Z id λ_=>true)=cA Z id []:=by grind[eR,WM,jx]
 have a5:jK (Z.row id) (λ_=>true)=(Z.row id).map (·.aY):=by grind[jK,Vk]
 have aI:((Z.row id).map (·.aY)).length=(Z.row id).length:=b2
 have bn:=eb ((Z.row id).map (·.aY));rw[a4,a5];obtain⟨⟨bk,gc⟩,⟨d,u⟩⟩:=y;dsimp only;haveI:=o6 (A:=A) (ad:=(aP ad id d)) (cap:=(aP cap id u)) (s:=(cA Z id [])) (x:=id) w;apply J [188,70,91,3];apply UR rfl<;>intro D;have D:Z.aL id≠-1:=D;have cn:dU Z id=(Z.row id).map (·.aY)++[Z.aL id]:=by rw[dU,aw D]
 refine J [104,172,54,0,149] ?_;intro bl;refine e rfl ?_;refine ap 8 rfl rfl rfl rfl rfl (U2 rfl) (show _=ints [Z.aL id]from rfl) rfl U gl ?_;intro E H;apply J [188,8];have a3:=eb (dU Z id);have P:(dU Z id).length=(Z.row id).length+1:=b2
 refine Wd (B:=ah [a1 3 1 E (dU Z id).length H (ints (dU Z id)),b5 (dE A (aP ad id d) (aP cap id u) (cA Z id [])) Z.ids,b5 (eU (aP ad id d) (aP cap id u) (cA Z id [])) Z.ids,aj b 352 [.map (some aE)],bJ QM.encI aE (ee A Z.ids) Z.ids.length,F]) (b8 0 rfl (by rw[cn,mp];simp[ints]) ai) ?_;rw[show((Z.row id).map (·.aY)).length+1=(dU Z id).length from by rw[P,aI]];apply J [104,174];refine Vp (ι:=Nat) (λk=>k<=(dU Z id).length) (λk=>[(0,ae b),(1,aa id),(8,.slice E (dU Z id).length H),(39,.slice E (dU Z id).length H),(40,aa (dU Z id).length),(41,aa ((k:Nat):Int))]) (λk=>ah [a1 3 1 E (dU Z id).length H (ints (dU Z id)),b5 (dE A (aP ad id d) (aP cap id u) (eS (cA Z id []) ((dU Z id).take k))) Z.ids,b5 (eU (aP ad id d) (aP cap id u) (eS (cA Z id []) ((dU Z id).take k))) Z.ids,aj b 352 [.map (some aE)],bJ QM.encI aE (ee A Z.ids) Z.ids.length,F]) (λk=>(dU Z id).length-k) 0 (UX _) bC (ao (b8 0 rfl sN (b8 0 rfl sN ai))) ?_;rintro k an bi;dsimp only[cr]at an⊢;apply J [43];apply UR rfl<;>intro a8;have av:k<(dU Z id).length:=U
 obtain⟨x,C⟩:∃x,(dU Z id)[k]? =some x:=⟨_,UO av⟩;have bd:0<(ints (dU Z id)).length:=U
 obtain⟨O,_⟩:=aS x (US C);have N:b0 (eS (cA Z id []) ((dU Z id).take k)) x=(eS (cA Z id []) ((dU Z id).take (k+1))):=by rw[<-rz,<-rz,U5,C,Yc,XI];rfl
 refine J [186] ?_;refine q rfl rfl (dC rfl rfl (hU C)) ?_;apply J [27,38,53,2,336];rw[ke O];refine e rfl ?_;apply aq (m1 A (aP ad id d) (aP cap id u) (eS (cA Z id []) ((dU Z id).take k)) Z.ids x O bw);apply J [14];rw[N];refine J [59] ?_;exact⟨rfl,(k+1),U,U,bC,(bV (ao (b8 0 rfl (by rw[<-N];rfl) ai)))⟩;obtain rfl:k=(dU Z id).length:=by omega
 rw[VC];obtain⟨M,bH⟩:=fp w;have bc:=l1 bw bH;have hM:M.Perm (Z.ids.filter λy=>decide (y≠id)):=cp;have Q:(Z.ids.filter λy=>decide (y≠id)).Nodup:=cp
 have ar:(Z.ids.filter λy=>decide (y≠id)).length=Z.ids.length-1:=by rw[<-hM.length_eq,bH.length_eq];rfl
 have W:ee A (Z.ids.filter λy=>decide (y≠id))=fU (ee A Z.ids) id:=(by funext y;simp only[ee,fU];grind);have ag:=ke (A:=A) w;apply J [21,40,2,19];refine lP 3 278 rfl (dL.int rfl) rfl rfl rfl ?_;apply J [3,33,83,30];exact cN ⟨E,H⟩ trivial (bV (ay (⟨(aP ad id d),(aP cap id u),aE⟩:kX) Q (c0 (b8 0 rfl (by dsimp only[gD,eS,cA];rw[W,ar,ag];rfl) ((fV 0 rfl bH).trans (oG 1 rfl (λ_ _=>rfl) hM ((fV 1 rfl bH).trans (oG 1 rfl (λ_ _=>rfl) hM (bv (aZ _))))))))));have D:¬Z.aL id≠-1:=D;have cn:dU Z id=(Z.row id).map (·.aY):=by rw[dU,al D,VK]
 apply J [44,8];have a3:=eb (dU Z id);have P:(dU Z id).length=(Z.row id).length:=b2
 refine Wd (B:=ah [a1 3 1 bk (dU Z id).length gc (ints (dU Z id)),b5 (dE A (aP ad id d) (aP cap id u) (cA Z id [])) Z.ids,b5 (eU (aP ad id d) (aP cap id u) (cA Z id [])) Z.ids,aj b 352 [.map (some aE)],bJ QM.encI aE (ee A Z.ids) Z.ids.length,F]) (b8 0 rfl (by rw[cn]) ai) ?_;rw[show((Z.row id).map (·.aY)).length=(dU Z id).length from by rw[P,aI]];apply J [104,174];refine Vp (ι:=Nat) (λk=>k<=(dU Z id).length) (λk=>[(0,ae b),(1,aa id),(8,.slice bk (dU Z id).length gc),(39,.slice bk (dU Z id).length gc),(40,aa (dU Z id).length),(41,aa ((k:Nat):Int))]) (λk=>ah [a1 3 1 bk (dU Z id).length gc (ints (dU Z id)),b5 (dE A (aP ad id d) (aP cap id u) (eS (cA Z id []) ((dU Z id).take k))) Z.ids,b5 (eU (aP ad id d) (aP cap id u) (eS (cA Z id []) ((dU Z id).take k))) Z.ids,aj b 352 [.map (some aE)],bJ QM.encI aE (ee A Z.ids) Z.ids.length,F]) (λk=>(dU Z id).length-k) 0 (UX _) bC (ao (b8 0 rfl sN (b8 0 rfl sN ai))) ?_;rintro k an bi;dsimp only[cr]at an⊢;apply J [43];apply UR rfl<;>intro a8;have av:k<(dU Z id).length:=U
 obtain⟨x,C⟩:∃x,(dU Z id)[k]? =some x:=⟨_,UO av⟩;have bd:0<(ints (dU Z id)).length:=U
 obtain⟨O,_⟩:=aS x (US C);have N:b0 (eS (cA Z id []) ((dU Z id).take k)) x=(eS (cA Z id []) ((dU Z id).take (k+1))):=by rw[<-rz,<-rz,U5,C,Yc,XI];rfl
 refine J [186] ?_;refine q rfl rfl (dC rfl rfl (hU C)) ?_;apply J [27,38,53,2,336];rw[ke O];refine e rfl ?_;apply aq (m1 A (aP ad id d) (aP cap id u) (eS (cA Z id []) ((dU Z id).take k)) Z.ids x O bw);apply J [14];rw[N];refine J [59] ?_;exact⟨rfl,(k+1),U,U,bC,(bV (ao (b8 0 rfl (by rw[<-N];rfl) ai)))⟩;obtain rfl:k=(dU Z id).length:=by omega
 rw[VC];obtain⟨M,bH⟩:=fp w;have bc:=l1 bw bH;have hM:M.Perm (Z.ids.filter λy=>decide (y≠id)):=cp;have Q:(Z.ids.filter λy=>decide (y≠id)).Nodup:=cp
 have ar:(Z.ids.filter λy=>decide (y≠id)).length=Z.ids.length-1:=by rw[<-hM.length_eq,bH.length_eq];rfl
 have W:ee A (Z.ids.filter λy=>decide (y≠id))=fU (ee A Z.ids) id:=(by funext y;simp only[ee,fU];grind);have ag:=ke (A:=A) w;apply J [21,40,2,19];refine lP 3 278 rfl (dL.int rfl) rfl rfl rfl ?_;apply J [3,33,83,30];exact cN ⟨bk,gc⟩ trivial (bV (ay (⟨(aP ad id d),(aP cap id u),aE⟩:kX) Q (c0 (b8 0 rfl (by dsimp only[gD,eS,cA];rw[W,ar,ag];rfl) ((fV 0 rfl bH).trans (oG 1 rfl (λ_ _=>rfl) hM ((fV 1 rfl bH).trans (oG 1 rfl (λ_ _=>rfl) hM (bv (aZ _))))))))));have hv:eT s id=(s,[],6):=aw h;rw[hv];dsimp only;apply J [24,192,32];apply aq (mw b aE s.ids.length A s.ids id h);apply J [10,113,34,17,26,83,129];exact cN ⟨none,0⟩ trivial ((dH 3 1 _).trans (ao (ay (⟨ad,cap,aE⟩:kX) bw ai)))
def rf(f:Int->Option Value)(n:Nat)(y:List Int):Prop:=y.Nodup/\y.length=n/\∀x,x∈y↔(f x).isSome=true
theorem F9{α:Type}{l m:List α}(h:l.Nodup)(hs:∀x∈l,x∈m):l.length<=m.length:=by induction l generalizing m with|nil=>simp|cons a l E=>obtain⟨w,C⟩:=U6.1 h;obtain⟨s,t,rfl⟩:=Xe (hs a cE);have:=E (m:=s++t) C (λx u=>by have d:=hs x (by simp[u]);have D:x≠a:=λe=>w (e▸u);simp at d⊢;rcases d with d|d|d;exact .inl d;exact absurd d D;exact .inr d);simp at this⊢;omega
def As(b:Nat)(f:Int->Option Value)(n:Nat):ax:=fj λy:List (Int×Value)×Array MapEntry×Nat=>pure' (kW f n y.1/\y.2.1.toList.map (λe=>(e.key,e.val))=y.1.map (λt=>(QM.encI t.1,t.2))/\jf y.2.1 y.2.2) (ah [obj b (.map y.2.1 y.2.2)])
theorem PD(f:Int->Option Value)(n:Nat):aF (bJ QM.encI b f n) (As b f n):=by rintro h ⟨m,hm,o,⟨es,aL,rfl,u,w⟩,C⟩;obtain⟨d,s,D⟩:=(pZ:aF (obj b (.map es aL)) (ah [obj b (.map es aL)])) h C;exact⟨d,s,⟨m,es,aL⟩,⟨hm,u,w⟩,D⟩
theorem PE{b:Nat}{f:Int->Option Value}{n:Nat}{m:List (Int×Value)}{es:Array MapEntry}{aL:Nat}(hm:kW f n m)(d:es.toList.map (λe=>(e.key,e.val))=m.map (λt=>(QM.encI t.1,t.2)))(u:jf es aL):aF (obj b (.map es aL)) (bJ QM.encI b f n):=
 h8 λh w=>⟨m,hm,_,⟨es,aL,rfl,d,u⟩,w⟩
variable{x:Int}
theorem Pt{m:List (Int×Value)}:x∈m.map (·.1)↔(fG x m).isSome=true:=by have:=Ao (a:=x) (m:=m);cases h:fG x m with|none=>rw[h]at this;simpa using this.1 rfl|some v=>rw[h]at this;simp only[Option.isSome_some,iff_true];(exact U4.1 λd=>by have:=this.2 d;cases this)
theorem OV{f:Int->Option Value}{n:Nat}{m:List (Int×Value)}{es:Array MapEntry}{aL:Nat}(hm:kW f n m)(u:es.toList.map (λe=>(e.key,e.val))=m.map (λt=>(QM.encI t.1,t.2)))(w:jf es aL)
 {bG:List MapEntry} (bN:∀e∈bG,e∈es.toList) (C:(bG.map (·.born)).Nodup) (D:∀e∈es.toList,e.born∈(bG.map (·.born)).toArray):rf f n (bG.map n7):=by have d:=(all_keys w bN C λe he=>by simpa using D e he).map n7;rw[(E8 u).2]at d;refine⟨d.nodup_iff.2 hm.bi,by rw[d.length_eq,VI,hm.n],λx=>?_⟩;rw[d.mem_iff,Pt,hm.oV]
def A7(b7 gf c:Nat)(xs:List Int):ax:=fj λx:Option Addr×Nat=>pure' True (ah [aj c b7 [.slice x.1 xs.length x.2],a1 gf 1 x.1 xs.length x.2 (ints xs)])
variable(jn:Nat)
theorem OX(aE n:Nat)(f:Int->Option Value)(an:n<=1000000):re Tryz.prog 384 [ae jn] (λx:Int=>[aa x]) (λO _=>O.length<=1000000) [aj jn 350 [.map (some aE)],bJ QM.encI aE f n] (λy:List Int=>y) (rf f n) (λ_=>[aj jn 350 [.map (some aE)],bJ QM.encI aE f n]):=by
 refine re.intro aM Tryz.func384 rfl Tryz.ntmps384 kJ rfl ?_;intro av bM P;apply J [13];refine Wd (B:=ah [bM [],aj jn 350 [.map (some aE)],As aE f n]) (ao (ao (eH 0 rfl (PD aE f n) (aZ _)))) ?_;apply ab.open 2 rfl;rintro⟨m,es,aL⟩ ⟨hm,C,w⟩;apply J [13];dsimp only at hm C w⊢;apply J [24,82,0];refine Bn 3 278 rfl rfl ?_;intro it;apply J [18,250];refine Vp (ι:=List MapEntry) (λbG=>(∀e∈bG,e∈es.toList)/\(bG.map (·.born)).Nodup) (λbG=>[(0,.func (.yield av) #[] #[]),(5,ae it)]) (λbG=>ah [bM (bG.map n7),obj it (.mapIter (some aE) aL ((bG.map (·.born)).toArray) aL),obj aE (.map es aL),aj jn 350 [.map (some aE)]]) (λbG=>es.toList.length-bG.length) [] ⟨(λ_ h=>(by cases h)),VD⟩ bC ai ?_;rintro bG ⟨D,E⟩ aG;dsimp only[cr]at D E⊢;apply J [25];refine AY 1 rfl rfl (lI (jh (ji _ _))) w (λQ=>?_) (λd he ag=>?_);apply J [18];have V:=OV hm C w D E Q;apply J [297,29,73,331];exact⟨rfl,(bG.map n7),V,(bV (bv (eH 1 rfl (PE hm C w) (aZ _))))⟩;apply J [18];have W:=(E8 C).1 d he;have ag:d.born∉bG.map (·.born):=b2
 have N:((bG++[d]).map (·.born)).Nodup:=cp;have H:∀u∈bG++[d],u∈es.toList:=λu hu=>cp;have Z:=F9 N (m:=es.toList.map (·.born)) (λx ar=>by obtain⟨u,hu,rfl⟩:=U3.1 ar;exact U3.2 ⟨u,H u hu,rfl⟩);simp only[VI,mp,U9,List.length_nil]at Z;have aB:es.toList.length=n:=(by have:=congrArg List.length C;simp only[VI]at this;rw[this,hm.n]);have aq:((bG.map (·.born)).toArray.push d.born)=(((bG++[d]).map (·.born)).toArray):=cE
 apply J [297,29,17,4,76,24];refine q rfl rfl (zk d rfl (lI (lI (jh (ji _ _)))) he w) ?_;rw[W];apply J [93,27,128,28];refine Cf 1 (P (bG.map n7) (n7 d) _ (by simp only[VI];omega)) rfl rfl rfl ?_;rintro aA ax ⟨rfl,rfl⟩;apply J [18,89,108,23];exact⟨rfl,(bG++[d]),⟨H,N⟩,ux,bC,(b8 0 rfl (by rw[V2];rfl) (b8 0 rfl (by rw[aq]) (ao (ao (aZ _)))))⟩
variable(aE:Nat)
theorem OY:bL 370 [.map (some aE)] be [] (λjn:Nat=>.func (.func 384) #[] #[ae jn]) (λ_=>True) (λjn=>[aj jn 350 [.map (some aE)]]):=by apply aG Tryz.func370 Tryz.ntmps370;intro F _;apply J [194];refine e0 (v:=.map _) (l:=[.map _]) rfl rfl ?_;intro bb;apply J [150,100,414,150,260];exact br bb trivial ai
theorem Kf(aE n:Nat)(f:Int->Option Value)(an:n<=1000000):bL 198 [.slice none 0 0,.func (.func 384) #[] #[ae jn]] be [aj jn 350 [.map (some aE)],bJ QM.encI aE f n] (λy:(Option Addr×Nat)×List Int=>.slice y.1.1 y.2.length y.1.2) (λy=>rf f n y.2) (λy=>[a1 3 1 y.1.1 y.2.length y.1.2 (ints y.2),bJ QM.encI aE f n]):=by refine fA.EQ (rs:=[.tmp 4]) aM Tryz.func198 rfl Tryz.ntmps198 kJ rfl ?_;intro F _;apply J [13,25];refine e0 (v:=.slice _ _ _) (l:=[.slice _ _ _]) rfl rfl ?_;intro bo;apply J [188,128,250];refine Wd (B:=ah [aj jn 350 [.map (some aE)],bJ QM.encI aE f n,A7 90 3 bo [],F]) ((dH 3 1 _).trans (bv (bv (ay (⟨none,0⟩:Option Addr×Nat) trivial ai)))) ?_;refine ab.G5 (λd=>[A7 90 3 bo d]) (OX jn aE n f an) rfl (dY 0 rfl (dY 0 rfl (eu _))) (dY 0 rfl (eu _)) (λ_=>rfl) rfl ?_ ?_;rintro V d x N Q;apply J [1,217,27];refine⟨rfl,(Vx _),λO=>?_⟩;refine J [1,235] ?_;rintro⟨u,w⟩-;apply J [13];have P:=eb d;refine J [76,217,82,66] ?_;intro cl;refine e rfl ?_;refine ap 8 rfl rfl rfl rfl rfl (U2 rfl) (show _=ints [x]from rfl) rfl U gl ?_;intro u w;apply J [281];refine aT.nil (jQ ?_);refine⟨rfl,rfl,?_⟩;change aF (ah [_,_,_,_]) (ah [_,_]);exact(ay ⟨u,w⟩ trivial (b8 0 rfl (by simp[dI,Value.cells]) (b8 0 rfl (by simp[ints]) (bV (aZ _)))));intro D y H;refine(jQ (ie ?_));refine J [85,460] ?_;rintro⟨C,E⟩-;apply J [155,24,82,105];exact .inl ⟨⟨(C,E),y⟩,[_],D,rfl,rfl,⟨rfl,trivial⟩,rfl,H,(eL (bV (bv (bv (aZ _)))))⟩
theorem Lq(aE n:Nat)(f:Int->Option Value)(an:n<=1000000):bL 147 [.func (.func 384) #[] #[ae jn]] be [aj jn 350 [.map (some aE)],bJ QM.encI aE f n] (λy:(Option Addr×Nat)×List Int=>.slice y.1.1 y.2.length y.1.2) (λy=>rf f n y.2) (λy=>[a1 3 1 y.1.1 y.2.length y.1.2 (ints y.2),bJ QM.encI aE f n]):=by apply aG Tryz.func147 Tryz.ntmps147;intro F _;apply J [13,121,128,0];apply a7 (Kf jn aE n f an);intro y d;apply J [7,105];exact br y d ai
theorem SA{y z:List Int}(d:y.Perm z):fH y=fH z:=
 List.Perm.eq_of_pairwise (le:=λa c=>a<=c) (λa c _ _ u w=>by omega) (HH y) (HH z) ((s7 y).trans (d.trans (s7 z).symm))
theorem OW{A:Int->Nat}{ids y:List Int}(an:ids.Nodup)(h:rf (ee A ids) ids.length y):fH y=fH ids:=by refine SA ((List.perm_ext_iff_of_nodup h.1 an).2 λx=>?_);rw[h.2.2,ee];simp_all
def ks(g:Int):eo->Bool:=λo=>decide (o.gt=g)
def h9(s:cG)(g:Int)(D:List Int):List Int:=D.flatMap λx=>jK (s.row x) (ks g)
def gw(s:cG)(g:Int)(D:List Int):cG:={s with row:=λx=>if x∈D then(s.row x).filter (jx (ks g))else s.row x}
def gC(s:cG)(g:Int):cG×List Int:=(eS (gw s g (fH s.ids)) (h9 s g (fH s.ids)),h9 s g (fH s.ids))
variable(s:cG)
theorem Hn(g:Int):gw s g []=s:=by simp[gw]
variable{g:Int}
theorem RI{s:cG}{D:List Int}(an:D.Nodup){k:Nat}(C:D[k]? =some x):eR (gw s g (D.take k)) x (ks g)=gw s g (D.take (k+1))/\(gw s g (D.take k)).row x=s.row x:=by
 have hm:x∉D.take k:=λw=>(by grind[VS,Wb]);have u:∀y,y∈D.take (k+1)↔y∈D.take k\/y=x:=by grind[U5]
 refine⟨?_,al hm⟩;simp only[eR,cA,gw,cG.mk.injEq,true_and];funext y;by_cases d:y=x;subst d;rw[cf,al hm,aw ((u y).2 (.inr rfl))];rw[bP d];simp_all
theorem Nu{s:cG}{D:List Int}{k:Nat}(d:D[k]? =some x):h9 s g (D.take (k+1))=h9 s g (D.take k)++jK (s.row x) (ks g):=by grind[h9,U5]
theorem zH{s:cG}{g:Int}:∀{D:List Int},(∀x∈D,(s.row x).length<=1000)->(h9 s g D).length<=1000*D.length
 | [],_=>UX _
 | x::D,h=>by
  have u:=zH (g:=g) (D:=D) λy d=>h y (by simp[d]);have w:=h x cE;have C:=zI (s.row x) (ks g);have e:h9 s g (x::D)=jK (s.row x) (ks g)++h9 s g D:=by rw[h9,h9,Vf]
  rw[e,mp,U9];omega
theorem ww{s:cG}{D:List Int}{y:Int}:y∈h9 s g D↔∃x∈D,∃o∈s.row x,o.gt=g/\o.aY=y:=by rw[h9,List.mem_flatMap];constructor;rintro⟨x,u,E⟩;obtain⟨o,d,rfl⟩:=U3.1 E;grind[ks];rintro⟨x,u,o,d,w,C⟩;exact⟨x,u,U3.2 ⟨o,U8.2 ⟨d,by simpa[ks]using w⟩,C⟩⟩
theorem rZ{y:List Int}:x∈fH y↔x∈y:=(s7 y).mem_iff
theorem dq.one{s:cG}(h:dq s){y:Int}(w:x∈s.ids)(H:y∈s.ids){o u:eo}(d:o∈s.row x)(hu:u∈s.row y)(e:o.aY=u.aY):x=y/\o=u:=by
 have O:=(h.row x w o d).2.2.2;have P:=(h.row y H u hu).2.2.2;have E:x=y:=b2
 subst E;refine⟨rfl,?_⟩;obtain⟨i,C⟩:=VS d;obtain⟨j,D⟩:=VS hu;obtain⟨N,bb⟩:=UU.1 C;obtain⟨a2,bo⟩:=UU.1 D;have Q:=Wb.1 (h.jy x w);grind
theorem uc{s:cG}(h:dq s){y:Int}(w:y∈h9 s g (fH s.ids)):y∈s.ids/\s.st y=1:=by obtain⟨x,u,o,d,_,rfl⟩:=ww.1 w;have:=h.row x (rZ.1 u) o d;simp_all
theorem dq.close{s:cG}(h:dq s)(g:Int):dq (gC s g).1:=by refine(h.un (h9 s g (fH s.ids)) λy w=>uc h w).ext rfl λx d=>⟨rfl,rfl,rfl,?_⟩;have d:x∈s.ids:=d;dsimp only[gC,eS,gw,iJ];rw[aw (rZ.2 d)];refine List.filter_congr λo D=>?_;rw[jx,ks,Bool.eq_iff_iff];simp only[Bool.not_eq_true',decide_eq_false_iff_not,decide_eq_true_eq,ww];constructor;rintro E ⟨y,w,u,hu,H,C⟩;have:=h.one d (rZ.1 w) D hu C.symm;simp_all;grind[rZ]
theorem PZ(ad:Option Addr)(cap:Nat)(xs:List Int)(d:xs.length<=1000000):bu 148 [.slice ad xs.length cap] be [a1 3 1 ad xs.length cap (ints xs)] (.tuple #[]) [a1 3 1 ad xs.length cap (ints (fH xs))]:=
 SB Pe aM 3 ad cap xs d
theorem SC(aE n:Nat)(f:Int->Option Value)(an:n<=1000000):bL 98 [.func (.func 384) #[] #[ae jn]] be [aj jn 350 [.map (some aE)],bJ QM.encI aE f n] (λy:(Option Addr×Nat)×List Int=>.slice y.1.1 (fH y.2).length y.1.2) (λy=>rf f n y.2) (λy=>[a1 3 1 y.1.1 (fH y.2).length y.1.2 (ints (fH y.2)),bJ QM.encI aE f n]):=by apply aG Tryz.func98 Tryz.ntmps98;intro F _;apply J [13,121,128,0];apply a7 (Lq jn aE n f an);intro y d;apply J [7,180,33];have u:=d.2.1;refine e rfl ?_;apply aq (PZ y.1.1 y.1.2 y.2 U);apply J [7,3,33,105];exact b4.i y [_] ⟨rfl,trivial⟩ (by rw[rY];rfl) d (b8 0 rfl (by rw[rY]) ai)
theorem PI(gt:Int)(o:eo):bu 371 [.agg (e1 o).toArray,ae b] (λF=>Rd F b (.cells #[aa gt] 3 (0,0))) [] (.bool (ks gt o)) []:=by apply aG Tryz.func371 Tryz.ntmps371;intro F d;apply J [9];haveI:fT F b (.cells #[aa gt] 3 (0,0)):=⟨d⟩;refine J [25,423] ?_;intro bb;apply J [37,263,82,296,63];exact dw
theorem PJ(s:cG)(au:dq s)(gt:Int)(bl:s.ids.length<=1000):bL 344 [ae b,aa gt] be [ha b A s] (λy:Option Addr×Nat=>.slice y.1 (gC s gt).2.length y.2) (λ_=>True) (λy=>[a1 3 1 y.1 (gC s gt).2.length y.2 (ints (gC s gt).2),ha b A (gC s gt).1]):=by
 apply aG Tryz.func344 Tryz.ntmps344;intro F _;refine J [1,25,447] ?_;intro bo;apply J [188];refine ab.open 1 rfl (λa8 a5=>?_);obtain⟨ad,cap,aE⟩:=a8;have bw:=a5;apply J [155];dsimp only at bw⊢;apply J [217,188,71,118,40,0];apply a7 (OY aE);intro jn _;apply J [16,0];apply a7 (SC jn aE s.ids.length (ee A s.ids) U);intro y E;apply J [16];rw[OW bw E];have a0:(fH s.ids).length=s.ids.length:=rY _;have V:(fH s.ids).Nodup:=by grind[s7]
 have Q:∀x,x∈fH s.ids↔x∈s.ids:=by grind[rZ]
 have C:∀x∈fH s.ids,(s.row x).length<=1000:=by grind[uT]
 have H:=λx w=>uc au (g:=gt) (y:=x) w;have W:gC s gt=(eS (gw s gt (fH s.ids)) (h9 s gt (fH s.ids)),h9 s gt (fH s.ids)):=rfl;rw[W];dsimp only;generalize fH s.ids=D at a0 V Q C H⊢;obtain⟨⟨O,P⟩,bu⟩:=y;dsimp only;have bc:=eb D;clear W E;apply J [174];refine Vp (ι:=Nat×(Int->Option Addr)×(Int->Nat)×(Option Addr×Nat)) (λu=>u.1<=D.length) (λu=>[(0,ae b),(3,ae bo),(5,.slice u.2.2.2.1 (h9 s gt (D.take u.1)).length u.2.2.2.2),(17,.slice O D.length P),(18,aa D.length),(19,aa ((u.1:Nat):Int))]) (λu=>ah [a1 3 1 u.2.2.2.1 (h9 s gt (D.take u.1)).length u.2.2.2.2 (ints (h9 s gt (D.take u.1))),b5 (dE A u.2.1 u.2.2.1 (gw s gt (D.take u.1))) s.ids,b5 (eU u.2.1 u.2.2.1 (gw s gt (D.take u.1))) s.ids,a1 3 1 O D.length P (ints D),aj b 352 [.map (some aE)],bJ QM.encI aE (ee A s.ids) s.ids.length,aj bo 3 [aa gt],F]) (λu=>D.length-u.1) ⟨0,ad,cap,(none,0)⟩ (UX _) bC ((dH 3 1 _).trans (ao (b8 3 rfl (by dsimp only;rw[Wp,Hn]) (b8 3 rfl (by dsimp only;rw[Wp,Hn]) ai)))) ?_;rintro⟨k,ad,cap,⟨hY,fo⟩⟩ N bz;dsimp only[cr]at N⊢;apply J [43];apply UR rfl<;>intro bn;have an:k<D.length:=U
 obtain⟨x,w⟩:∃x,D[k]? =some x:=⟨D[k],UO an⟩;have aI:=US w;have aB:=(Q x).1 aI;have a4:0<(ints D).length:=U
 obtain⟨a2,ar⟩:=RI (s:=s) (g:=gt) V w;have ag:=Nu (s:=s) (g:=gt) w;have Z:=zH (s:=s) (g:=gt) (D:=D.take k) (λy E=>C y (List.mem_of_mem_take E));have bp:(D.take k).length<=k:=b2
 have bq:=C x aI;have bd:=zI (s.row x) (ks gt);have bh:=eb (h9 s gt (D.take k));have bi:=eb (jK (s.row x) (ks gt));refine J [186] ?_;refine q rfl rfl (dC rfl rfl (hU w)) ?_;apply J [27,104,162,53,2,336];rw[ke aB];apply J [80,81,414,0];apply eQ (AB A ad cap (gw s gt (D.take k)) s.ids x aB bw 371 [ae bo] (ks gt) (λF=>Rd F bo (.cells #[aa gt] 3 (0,0))) (PI bo gt) (λaS _ h=>yv h aS) (by rw[ar];omega)) fT.rd;intro y _;apply J [22];rw[a2,ar];refine J [0,600] ?_;intro aV aY;refine J [83,59] ?_;exact⟨rfl,⟨k+1,aP ad x y.2.1,aP cap x y.2.2,(aV,aY)⟩,cD,cD,⟨rfl,rfl,congrArg (λn=>Value.slice _ n _) (by dsimp only;rw[ag,mp]),rfl,rfl,rfl,trivial⟩,(b8 0 rfl (by dsimp only;rw[ag,mp,pN]) ai)⟩;obtain rfl:k=D.length:=U
 rw[VC];have Z:=zH (s:=s) (g:=gt) C;generalize cn:h9 s gt D=d at H Z⊢;have a9:=eb d;apply J [21,8,33,174];refine Vp (ι:=Nat) (λk=>k<=d.length) (λk=>[(0,ae b),(5,.slice hY d.length fo),(36,.slice hY d.length fo),(37,aa d.length),(38,aa ((k:Nat):Int))]) (λk=>ah [a1 3 1 hY d.length fo (ints d),b5 (dE A ad cap (eS (gw s gt D) (d.take k))) s.ids,b5 (eU ad cap (eS (gw s gt D) (d.take k))) s.ids,aj b 352 [.map (some aE)],bJ QM.encI aE (ee A s.ids) s.ids.length,F]) (λk=>d.length-k) 0 (UX _) bC (ao (b8 0 rfl sN (b8 0 rfl sN ai))) ?_;rintro k N bG;dsimp only[cr]at N⊢;apply J [43];apply UR rfl<;>intro an;have a3:k<d.length:=U
 obtain⟨x,w⟩:∃x,d[k]? =some x:=⟨_,UO a3⟩;have a4:0<(ints d).length:=U
 obtain⟨ax,_⟩:=H x (US w);have av:b0 (eS (gw s gt D) (d.take k)) x=(eS (gw s gt D) (d.take (k+1))):=by rw[<-rz,<-rz,U5,w,Yc,XI];rfl
 refine J [186] ?_;refine q rfl rfl (dC rfl rfl (hU w)) ?_;apply J [27,38,53,2,336];rw[ke ax];refine e rfl ?_;apply aq (m1 A ad cap (eS (gw s gt D) (d.take k)) s.ids x ax bw);apply J [14];rw[av];refine J [59] ?_;exact⟨rfl,(k+1),U,U,bC,(bV (ao (b8 0 rfl (by rw[<-av];rfl) ai)))⟩;obtain rfl:k=d.length:=by omega
 rw[VC];apply J [207,105];exact br ⟨hY,fo⟩ trivial (ao (ay (⟨ad,cap,aE⟩:kX) bw ai))
open iz (cX jp gM hK h0 iG jo mF uv ids)
open Rd (ep h3 gz fS hE e9 jb ku ig)
structure pn where
  fJ:Int
  cm:Int
deriving DecidableEq
def H5(t:pn):List Value:=[.int .i64 t.fJ,.int .i64 t.cm]
theorem BR(t:pn):(H5 t).length=2:=rfl
def kS(L:List pn):List Value:=L.flatMap H5
theorem BS(L:List pn):(kS L).length=L.length*2:=kE BR L
theorem S0(S T:List pn):kS S++kS T=kS (S++T):=by simp[kS]
structure b7 where
  S:List Rd.cJ
  now:Int
  cj:Int
  A:List cX
  m:cG
  pr:Int->Int
  b9:Int->Int
  on:Int->Bool
  told:List pn
def t0:b7:=⟨[],0,0,[],en,λ_=>0,λ_=>0,λ_=>false,[]⟩
def e2(T:b7)(id:Int):Int:=if id∈T.m.ids then(if T.on id=true then T.m.st id else 4)else -1
def lq(why:Int)(T:b7)(id:Int):b7:={T with S:=(gz T.S id (T.pr id) (T.b9 id)).1,A:=hK T.A [id],told:=T.told++[⟨id,why⟩]}
def dn(T:b7)(why:Int)(l:List Int):b7:=l.foldl (lq why) T
def cU(T:b7)(m:cG):b7:={T with m:=m}
def lN(T:b7)(id lr:Int):b7:=
  if 0<lr then{T with S:=Rd.gD T.S [id],cj:=(h0 T.A T.now T.cj id lr).2.1,A:=(h0 T.A T.now T.cj id lr).1}else{T with S:=Rd.gD T.S [id]}
def mi(lr:Int):Prop:=lr<0\/1048576<lr
instance (t:Int):Decidable (mi t):=inferInstanceAs (Decidable (_\/_))
def kz(T:b7)(id:Int):b7:=if id∈T.m.ids\/id<0 then T else{T with m:=fE T.m id,pr:=aP T.pr id 0,b9:=aP T.b9 id 0,on:=aP T.on id false}
def hS(T:b7)(l:List Int):b7:=l.foldl kz T
def hO(T:b7)(id p s:Int):b7×Int:=
  if id∉T.m.ids then(T,6)else if p<0\/7<p\/s<1\/16<s then(T,1)else if T.on id=true then(T,12)else
  ({T with S:=(gz T.S id p s).1,pr:=aP T.pr id p,b9:=aP T.b9 id s,on:=aP T.on id true},(gz T.S id p s).2)
def ma(T:b7)(id:Int):b7×Int:=
  if id∉T.m.ids then(T,6)else if T.on id≠true then(T,12)else
  ({T with S:=Rd.gD T.S [id],A:=hK T.A [id],m:=(dN T.m id).1,on:=aP T.on id false},0)
def mB(T:b7)(id:Int):b7:={T with S:=Rd.gD T.S [id],A:=hK T.A [id],m:=(eT T.m id).1}
def iH(T:b7)(id:Int):b7×Int:=
  if id∉T.m.ids then(T,6)else(dn (mB T id) 13 (eT T.m id).2.1,0)
def ih(T:b7)(aY to gt:Int)(aL:Bool)(lr:Int):b7×Int:=
  if aY∉T.m.ids\/to∉T.m.ids then(T,6)else if aY=to\/mi lr then(T,1)else if e2 T aY≠0 then(T,12)else
  (lN (cU T (eD T.m to ⟨aY,gt,aL⟩).1) aY lr,0)
def j7(T:b7)(id lr:Int):b7×Int:=
  if id∉T.m.ids then(T,6)else if mi lr then(T,1)else if e2 T id≠0 then(T,12)else
  if(hZ T.m id).2≠0 then(T,(hZ T.m id).2)else(lN (cU T (hZ T.m id).1) id lr,0)
def gK(T:b7)(o:eo)(el s id:Int):b7:=
  let CN:=if o.aL=true then T else dn T 0 [o.aY]
  let gV:=if el=-1 then CN else dn CN 13 [el]
  if s=2 then dn gV 0 [id]else gV
def ja(T:b7)(id:Int):b7×eo×Int:=
  if id∉T.m.ids then(T,dx,6)else if e2 T id≠0/\e2 T id≠2 then(T,dx,12)else
  if(dm T.m id).2.2.2≠0 then(T,dx,(dm T.m id).2.2.2)else
  (gK (cU T (dm T.m id).1) (dm T.m id).2.1 (dm T.m id).2.2.1 (e2 T id) id,(dm T.m id).2.1,0)
def kq(T:b7)(id why:Int):b7×eo×Int:=
  if id∉T.m.ids then(T,dx,6)else match T.m.row id with
  | []=>(T,dx,6)
  | o::_=>(dn (cU T (dN T.m o.aY).1) why [o.aY],o,0)
def kA(T:b7)(id:Int):b7×Int×Int:=
  if id∉T.m.ids then(T,0,6)else if e2 T id≠0 then(T,0,12)else
  if(fB T.m id).2.2=0 then(dn (cU T (fB T.m id).1) 0 [(fB T.m id).2.1],(fB T.m id).2.1,0)else(T,(fB T.m id).2.1,(fB T.m id).2.2)
def iy(T:b7)(why id:Int):b7×Int:=
  if id∉T.m.ids then(T,6)else if e2 T id=0\/e2 T id=4 then(T,12)else(dn (cU T (dN T.m id).1) why [id],0)
def mU(T:b7)(g:Int):b7×Int:=(dn (cU T (gC T.m g).1) 13 (gC T.m g).2,(gC T.m g).2.length)
def kT(T:b7):b7:={T with S:=jb T.S,now:=T.now+1,A:=mF (T.now+1) T.A}
def kt(T:b7)(l:List Int):b7:=l.foldl (λT id=>(iy T 14 id).1) T
def p4(T:b7):b7:=kt (kT T) (ids (jo (T.now+1) T.A))
def sa(T:b7):b7:={T with S:=ku T.S}
def r1(T:b7):b7:={T with told:=[]}
structure cq(T:b7)(L:List Int):Prop where
  eX:dq T.m
  mG:fS T.S
  fF:∀t∈T.S,1<=t.left/\t.left<=t.whole
  ds:∀t∈T.S,t.prio=T.pr t.id/\t.whole=T.b9 t.id
  ln:∀x,ep T.S x↔(x∈T.m.ids/\T.on x=true/\T.m.st x=0)/\x∉L
  nz:gM T.A
  gA:∀x,jp T.A x->x∈T.m.ids/\(T.m.st x≠0\/x∈L)
  off:∀x∈T.m.ids,T.m.st x≠0->T.on x=true
  ps:∀x∈T.m.ids,T.on x=true->(0<=T.pr x/\T.pr x<=7)/\1<=T.b9 x/\T.b9 x<=16
  nI:∀e∈T.A,T.now<e.at_/\e.at_<=T.now+1048576
  qf:∀x∈L,x∈T.m.ids/\T.on x=true/\T.m.st x=0
  tp:L.Nodup
variable{x:Int}
theorem ED{S:List Rd.cJ}{t:Rd.cJ}:ep (S++[t]) x↔ep S x\/t.id=x:=by simp[ep,or_and_right,exists_or]
theorem y6{A:List cX}{l:List Int}:jp (hK A l) x↔jp A x/\x∉l:=by rw[iz.Du];constructor;rintro⟨e,he,rfl⟩;obtain⟨d,u⟩:=U8.1 he;exact⟨⟨e,d,rfl⟩,by simpa using u⟩;rintro⟨⟨e,he,rfl⟩,h⟩;exact⟨e,U8.2 ⟨he,by simpa using h⟩,rfl⟩
theorem y7{A:List cX}{l:List Int}{e:cX}(h:e∈hK A l):e∈A:=by rw[iz.Du]at h;exact(U8.1 h).1
theorem y5{A:List cX}(h:gM A)(l:List Int):gM (hK A l):=h.sublist ((iz.vV A l).map _)
theorem zg{S:List Rd.cJ}{l:List Int}:ep (Rd.gD S l) x↔ep S x/\x∉l:=by rw[Rd.L7];constructor;rintro⟨e,he,rfl⟩;obtain⟨d,u⟩:=U8.1 he;exact⟨⟨e,d,rfl⟩,by simpa using u⟩;rintro⟨⟨e,he,rfl⟩,h⟩;exact⟨e,U8.2 ⟨he,by simpa using h⟩,rfl⟩
theorem CR{S:List Rd.cJ}{id p s:Int}(d:0<=id)(u:0<=p/\p<=7)(hs:1<=s/\s<=16)(an:¬ep S id):gz S id p s=(S++[⟨id,p,s,s⟩],0):=by rw[gz,al U,al an]
theorem cq.JZ{T:b7}{L:List Int}(h:cq T (x::L)):gz T.S x (T.pr x) (T.b9 x)=(T.S++[⟨x,T.pr x,T.b9 x,T.b9 x⟩],0):=by obtain⟨d,w,D⟩:=h.qf x cE;have u:=h.ps x d w;exact CR (h.eX.ge x d) u.1 u.2 (λC=>((h.ln x).1 C).2 cE)
theorem cq.mH{T:b7}{L:List Int}(h:cq T (x::L))(why:Int):cq (lq why T x) L:=by
 obtain⟨C,D,O⟩:=h.qf x cE;have P:=h.ps x C D;have N:=h.eX.ge x C;have H:¬ep T.S x:=λu=>((h.ln x).1 u).2 cE;have E:=U6.1 h.tp;have e:lq why T x={T with S:=T.S++[⟨x,T.pr x,T.b9 x,T.b9 x⟩],A:=hK T.A [x],told:=T.told++[⟨x,why⟩]}:=by rw[lq,h.JZ]
 rw[e];refine⟨h.eX,h.mG.add (t:=⟨x,T.pr x,T.b9 x,T.b9 x⟩) H cD,λt d=>?_,λt d=>?_,λy=>?_,y5 h.nz _,λy w=>?_,h.off,h.ps,λe he=>h.nI e (y7 he),λy w=>h.qf y (by simp[w]),E.2⟩;rcases UQ.1 d with d|d;exact h.fF t d;simp_all;rcases UQ.1 d with d|d;exact h.ds t d;simp_all;dsimp only;rw[ED,h.ln];grind;obtain⟨u,Q⟩:=y6.1 w;obtain⟨V,W⟩:=h.gA y u;simp_all
theorem cq.p3:∀{L M:List Int} {T:b7} (why:Int),cq T (L++M)->cq (dn T why L) M
 | [],_,_,_,h=>h
 | x::L,M,T,why,h=>cq.p3 (L:=L) (M:=M) why (cq.mH (L:=L++M) h why)
theorem BQ(why:Int):∀(l:List Int) (T:b7),(dn T why l).m=T.m/\(dn T why l).now=T.now/\(dn T why l).cj=T.cj/\(dn T why l).pr=T.pr/\(dn T why l).b9=T.b9/\(dn T why l).on=T.on/\(dn T why l).told.length=T.told.length+l.length
 | [],_=>⟨rfl,rfl,rfl,rfl,rfl,rfl,rfl⟩
 | x::l,T=>by obtain⟨d,u,w,C,D,E,H⟩:=BQ why l (lq why T x);refine⟨d,u,w,C,D,E,?_⟩;rw[show dn T why (x::l)=dn (lq why T x) why l from rfl,H];simp[lq];omega
theorem cq.meet{T:b7}(h:cq T []){m:cG}(au:dq m)(w:m.ids=T.m.ids)(M:List Int)(bH:∀x∈M,x∈T.m.ids/\T.m.st x≠0/\m.st x=0)(an:∀x∈T.m.ids,x∉M->(m.st x=0↔T.m.st x=0))(O:M.Nodup):cq (cU T m) M:=by
 refine⟨au,h.mG,h.fF,h.ds,λx=>?_,h.nz,λx d=>?_,λx d H=>?_,λx d=>h.ps x (w▸d),h.nI,λx d=>?_,O⟩;show ep T.S x↔(x∈m.ids/\T.on x=true/\m.st x=0)/\x∉M;rw[h.ln,w];grind;obtain⟨u,C⟩:=h.gA x d;refine⟨w▸u,?_⟩;by_cases D:x∈M;simp_all;exact .inl λE=>(C.resolve_right UZ) ((an x u D).1 E);have d:x∈T.m.ids:=w▸d;have H:m.st x≠0:=H;have D:x∉M:=cp
 exact h.off x d λE=>H ((an x d D).2 E);obtain⟨u,C,N⟩:=bH x d;exact⟨w▸u,h.off x u C,N⟩
end Go.Proofs.YtglgidjhoncphaaGreatDoor
namespace Go.Proofs.YtglgidjhoncphaaGreatDoor
open Go Go.QM
open iz (cX jp gM hK h0 iG jo mF uv ids)
open Rd (ep h3 gz fS hE e9 jb ku ig)
structure jj where
  q:Nat
  a:Nat
  p:Nat
  aQ:Nat
  B:Int->Nat
  M:Int->Nat
  ad:Option Addr
  cap:Nat
abbrev lu(B:Int->Nat)(T:b7)(x:Int):ax:=aj (B x) 215 [.int .i64 (T.pr x),.int .i64 (T.b9 x),.bool (T.on x)]
def dc(b:Nat)(T:b7):ax:=fj λy:jj=>pure' T.m.ids.Nodup (ah [aj b 201 [ae y.q,ae y.a,ae y.p,.map (some y.aQ),.slice y.ad T.told.length y.cap],Rd.eF y.q T.S,iz.n6 y.a T.now T.cj T.A,ha y.p y.M T.m,bJ QM.encI y.aQ (ee y.B T.m.ids) T.m.ids.length,b5 (lu y.B T) T.m.ids,a1 71 2 y.ad T.told.length y.cap (kS T.told)])
theorem ya{B:Int->Nat}{T:b7}{L:List Int}{x:Int}(h:x∈L):fT (b5 (lu B T) L) (B x) (.cells (List.toArray [aa (T.pr x),aa (T.b9 x),.bool (T.on x)]) 215 (0,0)):=⟨sl h (nc _ _ _)⟩
variable(T:b7)(why:Int)
theorem SX(l:List Int){k:Nat}{x:Int}(h:l[k]? =some x):dn T why (l.take (k+1))=lq why (dn T why (l.take k)) x:=by grind[U5,dn]
theorem J2(S:List Rd.cJ)(id p s:Int):(gz S id p s).1.length<=S.length+1:=by rw[gz];split;all_goals grind
theorem BP(why:Int):∀(l:List Int) (T:b7),(dn T why l).S.length<=T.S.length+l.length/\(dn T why l).A.length<=T.A.length
 | [],_=>⟨UW _,UW _⟩
 | x::l,T=>by obtain⟨w,C⟩:=BP why l (lq why T x);have D:=J2 T.S x (T.pr x) (T.b9 x);have E:(hK T.A [x]).length<=T.A.length:=(iz.vV _ _).length_le;have e:dn T why (x::l)=dn (lq why T x) why l:=rfl;have d:(lq why T x).S=(gz T.S x (T.pr x) (T.b9 x)).1:=rfl;have u:(lq why T x).A=hK T.A [x]:=rfl;rw[d]at w;rw[u]at C;rw[e,U9];omega
structure fu(T:b7):Prop where
  ids:T.m.ids.length<=1000
  now:0<=T.now/\T.now<=1000000000
  cj:0<=T.cj/\T.cj<=1000000000
  told:T.told.length<=100000000
theorem NX{S:List Rd.cJ}(an:h3 S){L:List Int}(h:∀x,ep S x->x∈L):S.length<=L.length:=by have:=qN an (m:=L) λx u=>(by obtain⟨t,d,rfl⟩:=U3.1 u;exact h _ ⟨t,d,rfl⟩);simp_all
theorem NY{S:List cX}(an:gM S){L:List Int}(h:∀x,jp S x->x∈L):S.length<=L.length:=by have:=qN an (m:=L) λx u=>(by obtain⟨t,d,rfl⟩:=U3.1 u;exact h _ ⟨t,d,rfl⟩);simp_all
theorem cq.FA{T:b7}{L:List Int}(h:cq T L):T.S.length<=T.m.ids.length:=NX h.mG.bi λx d=>((h.ln x).1 d).1.1
theorem cq.Ak{T:b7}{L:List Int}(h:cq T L):T.A.length<=T.m.ids.length:=NY h.nz λx d=>(h.gA x d).1
theorem cq.Al{T:b7}{L:List Int}(h:cq T L):L.length<=T.m.ids.length:=qN h.tp λx d=>(h.qf x d).1
theorem CV{T:b7}(d:fu T)(C:T.A.length<=500000):(0<=T.now/\T.now<=1000000000000)/\(0<=T.cj/\T.cj<=1000000000000)/\T.A.length<=500000:=by have u:=d.now;have w:=d.cj;omega
theorem J1(x:Int):(kz T x).m=fE T.m x:=by rw[kz];split;rename_i h;rw[fE,aw h];trivial
theorem J0(l:List Int){k:Nat}{x:Int}(h:l[k]? =some x):hS T (l.take (k+1))=kz (hS T (l.take k)) x:=by grind[U5,hS]
theorem CQ(l:List Int):∀T:b7,T.m.ids.length<=(hS T l).m.ids.length/\(hS T l).m.ids.length<=T.m.ids.length+l.length:=by induction l with|nil=>exact λT=>⟨UW _,UW _⟩|cons x l u=>intro T;have w:=Ff T.m x;have d:=u (kz T x);rw[J1]at d;rw[show hS T (x::l)=hS (kz T x) l from rfl,U9];omega
variable(b:Nat)
theorem xU(aQ n:Nat)(B:Int->Nat)(ids:List Int)(id:Int)(h:id∈ids)(d u c2 w:Value):bu 114 [ae b,aa id] be [aj b 201 [d,u,c2,.map (some aQ),w],bJ QM.encI aQ (ee B ids) n] (.tuple #[.pointer (some ⟨(B id),0,none⟩),aa 0]) [aj b 201 [d,u,c2,.map (some aQ),w],bJ QM.encI aQ (ee B ids) n]:=by apply aG Tryz.func114 Tryz.ntmps114;intro F _;apply J [13,24,150,150,29,128,154,99,128,80,248,304,452];rw[ke h];apply J [52,42,36,165,30];exact tf
theorem xT(aQ n:Nat)(B:Int->Nat)(ids:List Int)(id:Int)(h:id∉ids)(d u c2 w:Value):bu 114 [ae b,aa id] be [aj b 201 [d,u,c2,.map (some aQ),w],bJ QM.encI aQ (ee B ids) n] (.tuple #[.pointer none,aa 6]) [aj b 201 [d,u,c2,.map (some aQ),w],bJ QM.encI aQ (ee B ids) n]:=by apply aG Tryz.func114 Tryz.ntmps114;intro F _;apply J [13,24,150,150,29,128,154,99,128,80,248,304,452];rw[tV h];apply J [52,71,3,55,165,129];exact tf
theorem S9:bL 135 [] be [] (λb:Nat=>ae b) (λ_=>True) (λb=>[dc b t0]):=by
 apply aG Tryz.func135 Tryz.ntmps135;intro F _;apply J [9,168,25];apply a7 Rd.Rw;intro bF _;apply J [5,0];apply a7 iz.pS;intro a _;apply J [7,0];refine aL (PT (λ_=>0)) rfl (eu _) trivial ?_;intro af _;refine J [18,0,328] ?_;intro bb;refine q rfl rfl (eh (cs:=[.pointer _,.pointer _,.pointer _,.map _,.slice _ _ _]) rfl) ?_;refine e rfl ?_;refine e0 (v:=.agg #[_,_,_,_,_]) (l:=[.pointer _,.pointer _,.pointer _,.map _,.slice _ _ _]) rfl rfl ?_;intro bo;apply J [106];have d:ee (λ_=>0) []=λ_=>none:=by trivial
 exact br bo trivial ((dH 71 2 _).trans ((nf (f:=lu (λ_=>0) t0) _).trans (ay (⟨bF,a,af,bb,λ_=>0,λ_=>0,none,0⟩:jj) VD (bv (ey (eL (c0 (b8 2 rfl (by dsimp only[t0,en];rw[d];rfl) (ao (ao (ao (aZ _))))))))))))
theorem Ig(t:Int):bu 355 [aa t] be [] (.bool (decide (¬mi t))) []:=by
 apply aG Tryz.func355 Tryz.ntmps355;intro F _;apply J [9,241,271];refine aT.split 5 rfl (λd=>?_) (λd=>?_);have d:=dt d;apply J [11,289,132];have u:decide (t<=1048576)=decide (¬mi t):=decide_eq_decide.2 (by rw[mi];omega);exact b4.i () [_] ⟨rfl,trivial⟩ (by rw[<-u];rfl) trivial (ao (aZ _));have d:=dX d;apply J [47,68];have u:decide (¬mi t)=false:=by grind[mi]
 exact b4.i () [_] ⟨rfl,trivial⟩ (by rw[u];rfl) trivial (ao (aZ _))
theorem vb(T:b7)(id:Int):bu 66 [ae b,aa id] be [dc b T] (aa (e2 T id)) [dc b T]:=by
 apply aG Tryz.func66 Tryz.ntmps66;intro F _;apply J [1];refine ab.open 0 rfl (λw u=>?_);obtain⟨bF,a,af,aQ,B,M,ad,cap⟩:=w;have bw:=u;apply J [145];dsimp only at bw⊢;by_cases h:id∈T.m.ids;haveI:=ya (B:=B) (T:=T) (x:=id) h;apply J [62];apply aq (xU b aQ T.m.ids.length B T.m.ids id h (ae bF) (ae a) (ae af) (.slice ad T.told.length cap));apply J [78,57,73,70,89,37];cases d:T.on id with|true=>?_|false=>?_
 have hv:e2 T id=u3 T.m id:=by rw[e2,aw h,u3,aw h,d];rfl
 rw[hv];apply J [73,23,70,28];apply aq (P0 af M T.m id);apply J [78,30];exact kv;have hv:e2 T id=4:=by rw[e2,aw h,d];rfl
 rw[hv];apply J [197];exact kv;have hv:e2 T id=-1:=al h;rw[hv];apply J [62];apply aq (xT b aQ T.m.ids.length B T.m.ids id h (ae bF) (ae a) (ae af) (.slice ad T.told.length cap));apply J [78,57,197];exact kv
theorem SO(T:b7)(w:Option Addr)(H:Nat)(xs:List Int)(a5:xs.length<=100000)(a7:T.m.ids.length<=100000):bu 142 [ae b,.slice w xs.length H] (λF=>∃E,cM F E w (ints xs)) [dc b T] (aa ((hS T xs).m.ids.length-T.m.ids.length:Int)) [dc b (hS T xs)]:=by
 apply aG Tryz.func142 Tryz.ntmps142;intro F ⟨E,W⟩;apply J [1];haveI:bn F w E (ints xs):=⟨W⟩;have bc:=eb xs;apply J [102,39,33,174];refine Vp (ι:=Nat) (λk=>k<=xs.length) (λk=>[(0,ae b),(5,aa ((hS T (xs.take k)).m.ids.length-T.m.ids.length:Int)),(8,.slice w xs.length H),(9,aa xs.length),(10,aa ((k:Nat):Int))]) (λk=>ah [dc b (hS T (xs.take k)),F]) (λk=>xs.length-k) 0 (UX _) ⟨rfl,congrArg (V4 .i64) (Int.sub_self _).symm,rfl,rfl,rfl,trivial⟩ (ao (ao (aZ _))) ?_;rintro k ax bd;dsimp only[cr]at ax⊢;apply J [43];apply UR rfl<;>intro a8;have aB:k<xs.length:=U
 obtain⟨x,O⟩:∃x,xs[k]? =some x:=⟨xs[k],UO aB⟩;have a9:0<(ints xs).length:=U
 have d:=J0 T xs O;have av:=CQ (xs.take k) T;have a4:(xs.take k).length<=k:=b2
 generalize(hS T (xs.take k))=Z at d av⊢;have a0:Z.m.ids.length<=1000000:=U
 refine ab.open 0 rfl (λa2 aS=>?_);obtain⟨bF,a,af,aQ,B,M,ad,cap⟩:=a2;have bw:=aS;apply J [145];dsimp only at bw⊢;refine J [186] ?_;refine q rfl rfl (dC rfl rfl (hU O)) ?_;refine J [27,360,20,138,251,282,149] ?_;intro cl;refine pF rfl rfl ?_;apply eQ (PL af M Z.m (cK cl) _ [x] cE a0) ⟨_,bn.rd (ad:=some ⟨cl,0,none⟩)⟩;intro D _;apply J [22];rw[show nt Z.m [x]=fE Z.m x from rfl];by_cases h:x∈Z.m.ids\/x<0;have C:kz Z x=Z:=aw h;have N:fE Z.m x=Z.m:=aw h;rw[C]at d;rw[N,Int.sub_self];refine J [156,458,108,112] ?_;exact⟨rfl,(k+1),U,U,⟨rfl,congrArg (λz:b7=>V4 .i64 ((z.m.ids.length:Int)-T.m.ids.length)) d.symm,rfl,rfl,rfl,trivial⟩,(by rw[d];exact(ay (⟨bF,a,af,aQ,B,D,ad,cap⟩:jj) bw ai))⟩;have C:kz Z x={Z with m:=fE Z.m x,pr:=aP Z.pr x 0,b9:=aP Z.b9 x 0,on:=aP Z.on x false}:=al h;have N:(fE Z.m x).ids=Z.m.ids++[x]:=by rw[fE,al h]
 have aV:x∉Z.m.ids:=b2
 rw[C]at d;have P:((fE Z.m x).ids.length:Int)-(Z.m.ids.length:Int)=1:=cp
 rw[P];have a3:=tV (A:=B) aV;have an:(fE Z.m x).ids.Nodup:=cp
 refine J [156,182,17,127,285,234,0,423] ?_;intro u;refine dh ?_;refine lZ 3 211 rfl (dL.int rfl) rfl rfl rfl ?_;refine J [3,367,72,59] ?_;have aI:∀y∈Z.m.ids,y≠x:=cp
 have aq:(x::Z.m.ids).Perm (fE Z.m x).ids:=cp
 have ar:∀y∈Z.m.ids,lu B Z y=lu (aP B x u) {Z with m:=fE Z.m x,pr:=aP Z.pr x 0,b9:=aP Z.b9 x 0,on:=aP Z.on x false} y:=λy aY=>(by have Q:=aI y aY;dsimp only[lu];simp only[bP Q]);have V:aj u 215 [aa 0,aa 0,.bool false]=lu (aP B x u) {Z with m:=fE Z.m x,pr:=aP Z.pr x 0,b9:=aP Z.b9 x 0,on:=aP Z.on x false} x:=by dsimp only[lu];simp only[cf]
 have ag:bJ QM.encI aQ (fe (ee B Z.m.ids) x (ae u)) (if((ee B Z.m.ids) x).isSome then Z.m.ids.length else Z.m.ids.length+1)=bJ QM.encI aQ (ee (aP B x u) (fE Z.m x).ids) (fE Z.m x).ids.length:=(by grind[D6]);exact⟨rfl,(k+1),U,U,⟨rfl,congrArg (V4 .i64) (by rw[d];show _=((fE Z.m x).ids.length:Int)-_;omega),rfl,rfl,rfl,trivial⟩,(by rw[d];exact(ay (⟨bF,a,af,aQ,aP B x u,D,ad,cap⟩:jj) an (eL (eL (eL (bv (b8 0 rfl (ag) (cQ 0 1 x rfl rfl V ar aq (bV (bV (aZ _)))))))))))⟩;obtain rfl:k=xs.length:=U
 rw[VC];apply J [21,133];exact hQ
theorem HZ(T:b7)(E:fu T)(C:T.A.length<=500000)(D:T.S.length<=1000000)(id d:Int):bu 357 [ae b,aa id,aa d] be [dc b T] (.tuple #[]) [dc b (lN T id d)]:=by apply aG Tryz.func357 Tryz.ntmps357;intro F _;apply J [1];refine ab.open 0 rfl (λN H=>?_);obtain⟨bF,a,af,aQ,B,M,ad,cap⟩:=N;have bw:=H;apply J [145];dsimp only at bw⊢;refine J [40,66] ?_;intro u;refine e rfl ?_;apply eE (Rd.zh bF T.S D (cK u) _ [id] cE) ⟨_,bn.rd (ad:=some ⟨u,0,none⟩)⟩;apply J [22,3,26,219,3];apply UR rfl<;>intro w;have hv:lN T id d={T with S:=Rd.gD T.S [id],cj:=(h0 T.A T.now T.cj id d).2.1,A:=(h0 T.A T.now T.cj id d).1}:=aw w;rw[hv];apply J [117,58,193];apply aq (iz.R8 a T.now T.cj T.A (CV E C) id d);apply J [22,327];exact qn (ay (⟨bF,a,af,aQ,B,M,ad,cap⟩:jj) bw ai);have hv:lN T id d={T with S:=Rd.gD T.S [id]}:=al w;rw[hv];refine ab.skip ?_;exact qn (ay (⟨bF,a,af,aQ,B,M,ad,cap⟩:jj) bw ai)
theorem mb(T:b7)(u:fu T)(why:Int)(d:Option Addr)(aq:Nat)(l:List Int)(be:∀x∈l,x∈T.m.ids)(bc:T.S.length+l.length<=1000000)(a9:T.A.length<=500000):bu 280 [ae b,aa why,.slice d l.length aq] (λF=>∃E,cM F E d (ints l)) [dc b T] (.tuple #[]) [dc b (dn T why l)]:=by
 apply aG Tryz.func280 Tryz.ntmps280;intro F ⟨E,aI⟩;apply J [1];haveI:bn F d E (ints l):=⟨aI⟩;have bq:=eb l;apply J [33,174];refine Vp (ι:=Nat) (λk=>k<=l.length) (λk=>[(0,ae b),(1,aa why),(9,.slice d l.length aq),(10,aa l.length),(11,aa ((k:Nat):Int))]) (λk=>ah [dc b (dn T why (l.take k)),F]) (λk=>l.length-k) 0 (UX _) bC (ao (ao (aZ _))) ?_;rintro k aS bz;dsimp only[cr]at aS⊢;apply J [43];apply UR rfl<;>intro bh;have a0:k<l.length:=U
 obtain⟨x,Q⟩:∃x,l[k]? =some x:=⟨l[k],UO a0⟩;have bi:0<(ints l).length:=U
 have O:=SX T why l Q;obtain⟨an,D,H,ar,av,ax,aB⟩:=BQ why (l.take k) T;have bd:(l.take k).length<=k:=b2
 obtain⟨aV,aY⟩:=BP why (l.take k) T;have w:x∈(dn T why (l.take k)).m.ids:=cp
 have N:=u.now;have P:=u.cj;have bp:=u.told;rw[<-D]at N;rw[<-H]at P;have a4:(dn T why (l.take k)).told.length<=200000000:=U
 have V:(dn T why (l.take k)).S.length<=1000000:=U
 have a3:(dn T why (l.take k)).A.length<=500000:=U
 clear an D H ar av ax aB aV aY;generalize(dn T why (l.take k))=Z at O w N P a4 V a3⊢;have bl:=BS Z.told;refine ab.open 0 rfl (λa5 a2=>?_);obtain⟨bF,a,af,aQ,B,M,ad,cap⟩:=a5;have bw:=a2;apply J [145];dsimp only at bw⊢;haveI:=ya (B:=B) (T:=Z) (x:=x) w;refine J [186] ?_;refine q rfl rfl (dC rfl rfl (hU Q)) ?_;apply J [27,127,285,452];rw[ke w];refine J [279,67,66] ?_;intro C;refine e rfl ?_;apply eQ (iz.y2 a Z.now Z.cj Z.A U (cK C) _ [x] cE) ⟨_,bn.rd (ad:=some ⟨C,0,none⟩)⟩;intro _ _;apply J [22];refine aT.bg (B:=ah [iz.n6 a Z.now Z.cj (hK Z.A [x]),aj b 201 [ae bF,ae a,ae af,.map (some aQ),.slice ad Z.told.length cap],Rd.eF bF Z.S,ha af M Z.m,bJ QM.encI aQ (ee B Z.m.ids) Z.m.ids.length,b5 (lu B Z) Z.m.ids,a1 71 2 ad Z.told.length cap (kS Z.told),F]) ai ?_;apply J [29];refine cC [0,1,2,3,4,5,6,7,8,9,10,11,12,-13] (bV (eL (aZ _))) ?_;apply J [49,15,49,123,12];apply a7 (Rd.vG bF Z.S V x (Z.pr x) (Z.b9 x));intro _ _;refine J [292,110,38,172,214,120,95,0,231] ?_;intro a8;refine e rfl ?_;refine ap 16 rfl rfl rfl rfl rfl (U2 rfl) (show _=kS [⟨x,why⟩]from rfl) rfl U gl ?_;intro W ag;refine J [80,409,281,59] ?_;exact⟨rfl,(k+1),U,U,bC,(by rw[O];exact(ay (⟨bF,a,af,aQ,B,M,W,ag⟩:jj) bw (b8 0 rfl (by dsimp only[lq];rw[mp];rfl) (by(repeat(first|refine bI 0 rfl ?_|refine bI 1 rfl ?_|refine bI 2 rfl ?_|refine bI 3 rfl ?_|refine bI 4 rfl ?_|refine bI 5 rfl ?_|refine bI 6 rfl ?_|refine bI 7 rfl ?_|refine bI 8 rfl ?_|refine bI 9 rfl ?_));refine b8 0 rfl (by dsimp only[lq];rw[mp,S0];rfl) ?_;exact ai))))⟩;obtain rfl:k=l.length:=by omega
 rw[VC];apply J [331];exact ye
end Go.Proofs.YtglgidjhoncphaaGreatDoor
namespace Go.Proofs.YtglgidjhoncphaaGreatDoor
open Go Go.QM
open iz (cX jp gM hK h0 iG jo mF uv ids)
open Rd (ep h3 gz fS hE e9 jb ku ig)
variable(s:cG)
theorem xi(to:Int)(o:eo):(eD s to o).1.ids=s.ids:=by rw[eD];(repeat' split)<;>rfl
theorem xj(id:Int):(hZ s id).1.ids=s.ids:=by rw[hZ];(repeat' split)<;>rfl
theorem u6(to:Int):(dm s to).1.ids=s.ids:=by rw[dm];split;trivial;split;trivial;split;trivial;split;dsimp only;split<;>rfl;trivial
theorem vL(id:Int):(fB s id).1.ids=s.ids:=by rw[fB];(repeat' split)<;>rfl
theorem lO(id:Int):(dN s id).1.ids=s.ids:=by by_cases h:id∈s.ids;grind[tH];rw[dN,aw h]
variable{x:Int}
theorem sx(id:Int)(d:x≠id):(dN s id).1.st x=s.st x:=by rw[dN];split;trivial;split;trivial;split;exact bP d;split;exact bP d;exact bP d
theorem wY{s:cG}{id:Int}(h:id∈s.ids):(eT s id).1.ids=s.ids.filter λy=>decide (y≠id):=by rw[eT,al (λd=>d h)];show((dN s id).1.ids.filter _)=_;grind[lO]
theorem Pr{s:cG}(au:dq s){id:Int}(h:id∈s.ids)(u:x∈(eT s id).2.1):x∈s.ids/\x≠id/\s.st x≠0/\(eT s id).1.st x=0:=by
 rw[eT,al (λd=>d h)]at u⊢;have u:x∈dU (dN s id).1 id:=u;have D:id∈(dN s id).1.ids:=by grind[lO]
 obtain⟨w,d,E,C⟩:=Ex (au.call id) D u;rw[lO]at w;rw[sx s id d]at C;refine⟨w,d,by omega,?_⟩;show(if x∈dU (dN s id).1 id then(0:Int)else _)=0;simp_all
theorem Ps{s:cG}(au:dq s){id:Int}(h:id∈s.ids):(eT s id).2.1.Nodup:=by
 rw[eT,al (λw=>w h)];show(dU (dN s id).1 id).Nodup;have u:id∈(dN s id).1.ids:=by grind[lO]
 have d:=au.call id;generalize(dN s id).1=Z at u d⊢;rw[dU];split;rename_i D;refine Vg.2 ⟨d.jy id u,by simp,λa C c E e=>?_⟩;rw[UP]at E;obtain⟨o,H,rfl⟩:=U3.1 C;have N:=d.row id u o H;have w:=d.h6 id u D;simp_all;rw[VK];exact d.jy id u
theorem Aj{s:cG}{id:Int}(h:id∈s.ids)(d:x∉(eT s id).2.1)(w:x≠id):(eT s id).1.st x=s.st x:=by rw[eT,al (λu=>u h)]at d⊢;have d:x∉dU (dN s id).1 id:=d;show(if x∈dU (dN s id).1 id then(0:Int)else(dN s id).1.st x)=_;rw[al d,sx s id w]
theorem y3{s:cG}(au:dq s)(g:Int):(gC s g).2.Nodup:=by
 show(h9 s g (fH s.ids)).Nodup;have an:(fH s.ids).Nodup:=(s7 _).nodup_iff.2 au.bi;have d:∀x∈fH s.ids,x∈s.ids:=by grind[rZ]
 generalize fH s.ids=D at an d;induction D with|nil=>exact VD|cons x D Q=>obtain⟨C,E⟩:=U6.1 an;rw[show h9 s g (x::D)=jK (s.row x) (ks g)++h9 s g D by rw[h9,h9,Vf]];refine Vg.2 ⟨(au.jy x (d x cE)).sublist (List.filter_sublist.map _),Q E λy w=>d y (by simp[w]),λa N c O e=>?_⟩;obtain⟨o,P,rfl⟩:=U3.1 N;obtain⟨y,w,u,hu,_,H⟩:=ww.1 O;have:=au.one (d x cE) (d y (by simp[w])) (U8.1 P).1 hu (by rw[H];exact e);exact C (this.1▸w)
theorem Dt(g:Int)(x:Int):(gC s g).1.st x=if x∈(gC s g).2 then 0 else s.st x:=rfl
variable{T:b7}
theorem cq.block(h:cq T []){m:cG}(au:dq m)(C:m.ids=T.m.ids)(N:x∈T.m.ids)(hs:e2 T x=0)(Z:m.st x≠0)(an:∀y,y≠x->m.st y=T.m.st y){u:Int}(w:¬mi u):cq (lN (cU T m) x u) []:=by obtain⟨aq,Q⟩:T.on x=true/\T.m.st x=0:=(by rw[e2,aw N]at hs;grind);have H:¬jp T.A x:=λE=>((h.gA x E).2.resolve_right UZ) Q;have ag:=h.eX.ge x N;have key:∀A O,gM A->(∀y,jp A y->jp T.A y\/y=x)->(∀e∈A,T.now<e.at_/\e.at_<=T.now+1048576)->cq {T with S:=Rd.gD T.S [x],cj:=O,A:=A,m:=m} []:=λA O P a2 a3=>(by refine⟨au,h.mG.sub (Rd.n2 _ _),λt w=>h.fF t ((Rd.n2 _ _).subset w),λt w=>h.ds t ((Rd.n2 _ _).subset w),λy=>?_,P,λy d=>?_,λy d D=>?_,λy d=>h.ps y (C▸d),a3,λy d=>(UZ d).elim,VD⟩;show ep (Rd.gD T.S [x]) y↔(y∈m.ids/\T.on y=true/\m.st y=0)/\y∉[];rw[zg,h.ln,C,UP];grind;show y∈m.ids/\(m.st y≠0\/y∈[]);rw[C];by_cases e:y=x;simp_all;have E:=h.gA y ((a2 y d).resolve_right e);simp_all;have d:y∈m.ids:=d;have D:m.st y≠0:=D;show T.on y=true;by_cases e:y=x;simp_all;rw[an y e]at D;exact h.off y (C▸d) D);rw[lN];split;rename_i ar;have W:h0 T.A T.now T.cj x u=(T.A++[⟨T.now+u,T.cj+1,x⟩],T.cj+1,0):=(by rw[mi]at w;rw[h0,al U,al H]);show cq {T with S:=Rd.gD T.S [x],cj:=(h0 T.A T.now T.cj x u).2.1,A:=(h0 T.A T.now T.cj x u).1,m:=m} [];rw[W];refine key _ _ ?_ (λy d=>?_) λe he=>?_;exact iz.BG (e:=(⟨T.now+u,T.cj+1,x⟩:cX)) h.nz (λa V e=>H ⟨a,V,e⟩);obtain⟨e,he,rfl⟩:=d;rcases UQ.1 he with he|he;exact .inl ⟨e,he,rfl⟩;simp_all;rcases UQ.1 he with he|he;exact h.nI e he;grind[mi];exact key _ _ h.nz (λy d=>.inl d) h.nI
theorem BJ(hs:e2 T x=0):x∈T.m.ids/\T.on x=true/\T.m.st x=0:=by grind[e2]
theorem cq.send(h:cq T [])(aY to gt:Int)(aL:Bool)(P:Int):cq (ih T aY to gt aL P).1 []:=by
 rw[ih];split;trivial;rename_i Q;split;trivial;rename_i C;split;trivial;rename_i u;have D:aY∈T.m.ids:=b2
 have N:to∈T.m.ids:=b2
 have u:=U4.1 u;have H:=(BJ u).2.2;have E:eD T.m to ⟨aY,gt,aL⟩=(eN (dQ T.m aY 1 to) to ⟨aY,gt,aL⟩,0):=(by rw[eD,al (λd=>d.elim (λw=>w N) (λw=>w D)),al (λd=>C (.inl d)),al (λd=>d H)]);refine cq.block h (h.eX.offer to ⟨aY,gt,aL⟩) (xi _ _ _) D u ?_ (λy O=>?_) (λd=>C (.inr d));rw[E];show aP T.m.st aY 1 aY≠0;grind[cf];rw[E];exact bP O
theorem cq.wait(h:cq T [])(id N:Int):cq (j7 T id N).1 []:=by rw[j7];split;trivial;rename_i d;split;trivial;rename_i D;split;trivial;rename_i u;split;trivial;rename_i w;have d:=U4.1 d;have u:=U4.1 u;have O:=(BJ u).2.2;have w:=U4.1 w;have C:(hZ T.m id).1=eg T.m id 2:=(by rw[hZ,al (λE=>E d)]at w⊢;grind);refine cq.block h (h.eX.opens id) (xj _ _) d u ?_ (λy H=>?_) D;rw[C];show aP T.m.st id 2 id≠0;grind[cf];rw[C];exact bP H
theorem cq.Dl(h:cq T []){id:Int}(d:id∈T.m.ids)(hs:T.m.st id≠0):cq (cU T (dN T.m id).1) [id]:=
 h.meet (h.eX.call id) (lO _ _) [id] (λx u=>by rw[UP.1 u];exact⟨d,hs,(tH _ _ d).1⟩) (λx u an=>by rw[sx _ _ (λe=>an (by simp[e]))]) cE
theorem cq.x3(h:cq T [])(why id:Int):cq (iy T why id).1 []:=by rw[iy];split;trivial;rename_i d;split;trivial;rename_i u;have d:=U4.1 d;refine cq.p3 (L:=[id]) (M:=[]) why (h.Dl d λw=>u ?_);rw[e2,aw d];omega
theorem cq.refuse(h:cq T [])(id why:Int):cq (kq T id why).1 []:=by rw[kq];split;trivial;rename_i d;have d:=U4.1 d;split;trivial;rename_i o r w;have u:=h.eX.row id d o (by rw[w];simp);exact cq.p3 (L:=[o.aY]) (M:=[]) why (h.Dl u.1 U)
theorem cq.answer(h:cq T [])(id:Int):cq (kA T id).1 []:=by
 rw[kA];split;trivial;rename_i u;split;trivial;rename_i C;split;rename_i D;have u:=U4.1 u;have C:=U4.1 C;have H:=(BJ C).2.2;have w:T.m.aL id≠-1:=λw=>by rw[fB,al (λd=>d u),al (λd=>d H),aw w]at D;cases D
 have E:fB T.m id=(b0 (dy T.m id (-1)) (T.m.aL id),T.m.aL id,0):=by rw[fB,al (λd=>d u),al (λd=>d H),al w]
 have O:=h.eX.h6 id u w;refine cq.p3 (L:=[(fB T.m id).2.1]) (M:=[]) 0 (h.meet (h.eX.answer id) (vL _ _) [(fB T.m id).2.1] (λx N=>?_) (λx N an=>?_) cE);rw[UP.1 N,E];exact⟨O.1,by dsimp only;omega,cf _ _ _⟩;rw[E]at an⊢;show aP T.m.st (T.m.aL id) 0 x=0↔_;grind[bP];trivial
theorem cq.close(h:cq T [])(g:Int):cq (mU T g).1 []:=by rw[mU];refine cq.p3 (L:=(gC T.m g).2) (M:=[]) 13 ?_;rw[VK];refine h.meet (h.eX.close g) rfl _ (λx d=>?_) (λx d an=>?_) (y3 h.eX g);have:=uc h.eX d;exact⟨this.1,by omega,by rw[Dt,aw d]⟩;rw[Dt,al an]
theorem cq.out(h:cq T []){id:Int}(w:id∈T.m.ids):cq (mB T id) (eT T.m id).2.1:=by
 have au:=h.eX.leave id;have V:=wY w;have hm:∀y,y∈(eT T.m id).1.ids↔y∈T.m.ids/\y≠id:=b2
 have Q:=λx (P:x∈(eT T.m id).2.1)=>Pr h.eX w P;refine⟨au,h.mG.sub (Rd.n2 _ _),λt O=>h.fF t ((Rd.n2 _ _).subset O),λt O=>h.ds t ((Rd.n2 _ _).subset O),λy=>?_,y5 h.nz _,λy d=>?_,λy d D=>?_,λy d=>h.ps y ((hm y).1 d).1,λe he=>h.nI e (y7 he),λx P=>?_,Ps h.eX w⟩;show ep (Rd.gD T.S [id]) y↔(y∈(eT T.m id).1.ids/\T.on y=true/\(eT T.m id).1.st y=0)/\y∉(eT T.m id).2.1;rw[zg,h.ln,hm,UP];grind[Aj];obtain⟨C,u⟩:=y6.1 d;have u:y≠id:=b2
 obtain⟨E,H⟩:=h.gA y C;refine⟨(hm y).2 ⟨E,u⟩,?_⟩;by_cases N:y∈(eT T.m id).2.1;simp_all;exact .inl (by show(eT T.m id).1.st y≠0;rw[Aj w N u];exact H.resolve_right UZ);have d:=(hm y).1 d;have D:(eT T.m id).1.st y≠0:=D;by_cases N:y∈(eT T.m id).2.1;simp_all;rw[Aj w N d.2]at D;exact h.off y d.1 D;obtain⟨C,u,E,H⟩:=Q x P;exact⟨(hm x).2 ⟨C,u⟩,h.off x C E,H⟩
theorem cq.remove(h:cq T [])(id:Int):cq (iH T id).1 []:=by rw[iH];split;trivial;rename_i d;refine cq.p3 (L:=(eT T.m id).2.1) (M:=[]) 13 ?_;rw[VK];exact h.out (U4.1 d)
theorem BN{s:cG}(au:dq s){id:Int}(N:id∈s.ids)(he:(dm s id).2.2.2=0):∃o r,s.row id=o::r/\(dm s id).2.1=o/\o.aY∈s.ids/\o.aY≠id/\s.st o.aY=1/\(dm s id).1.st id=0/\
 ((o.aL=false/\(dm s id).2.2.1=-1/\(dm s id).1.st o.aY=0/\∀x,x≠id->x≠o.aY->(dm s id).1.st x=s.st x)\/
  (o.aL=true/\(dm s id).2.2.1=s.aL id/\(dm s id).1.st o.aY=3/\(s.aL id≠-1->s.aL id∈s.ids/\s.aL id≠id/\s.aL id≠o.aY/\s.st (s.aL id)=3/\(dm s id).1.st (s.aL id)=0)/\∀x,x≠id->x≠o.aY->x≠s.aL id->(dm s id).1.st x=s.st x)):=by rw[dm,al (λh=>h N)]at he⊢;split at he;simp_all;rename_i W;rw[al W];cases P:s.row id with|nil=>rw[P]at he;cases he|cons o r=>obtain⟨E,d,H,Z⟩:=au.row id N o (by rw[P];simp);refine⟨o,r,rfl,?_⟩;dsimp only;(cases ag:o.aL with|false=>rw[al cE];refine⟨rfl,E,d,H,?_,.inl ⟨rfl,rfl,cf _ _ _,λx C u=>?_⟩⟩;show aP (aP s.st id 0) o.aY 0 id=0;rw[bP (W5 d),cf];show aP (aP s.st id 0) o.aY 0 x=_;rw[bP u,bP C]|true=>rw[aw rfl];have V:s.aL id≠-1->s.aL id∈s.ids/\s.aL id≠id/\s.aL id≠o.aY/\s.st (s.aL id)=3:=λan=>(by obtain⟨D,c2,w,O⟩:=au.h6 id N an;exact⟨D,c2,λe=>by rw[e]at w;omega,w⟩);by_cases an:s.aL id=-1;(·refine⟨?_,E,d,H,?_,.inr ⟨rfl,?_,?_,λh=>absurd an h,λx C u Q=>?_⟩⟩;(all_goals(first|(split<;>rfl)|skip));(rw[al (λh=>h an)]);show aP (aP (aP s.st id 0) o.aY 0) o.aY 3 id=0;rw[bP (W5 d),bP (W5 d),cf];(rw[al (λh=>h an)]);exact cf _ _ _;(rw[al (λh=>h an)]);show aP (aP (aP s.st id 0) o.aY 0) o.aY 3 x=_;rw[bP u,bP u,bP C]);obtain⟨D,c2,w,O⟩:=V an;refine⟨?_,E,d,H,?_,.inr ⟨rfl,?_,?_,λ_=>⟨D,c2,w,O,?_⟩,λx C u Q=>?_⟩⟩;(all_goals(first|(split<;>rfl)|skip));(rw[aw an]);show aP (aP (aP (aP s.st id 0) o.aY 0) (s.aL id) 0) o.aY 3 id=0;rw[bP (W5 d),bP (W5 c2),bP (W5 d),cf];(rw[aw an]);exact cf _ _ _;(rw[aw an]);show aP (aP (aP (aP s.st id 0) o.aY 0) (s.aL id) 0) o.aY 3 (s.aL id)=0;rw[bP w,cf];(rw[aw an]);show aP (aP (aP (aP s.st id 0) o.aY 0) (s.aL id) 0) o.aY 3 x=_;rw[bP u,bP Q,bP u,bP C])
theorem cq.take(h:cq T [])(id:Int):cq (ja T id).1 []:=by
 rw[ja];split;trivial;rename_i u;split;trivial;rename_i P;split;trivial;rename_i D;have u:=U4.1 u;have D:=U4.1 D;obtain⟨o,r,aG,Z,f1,f2,f3,f4,f5⟩:=BN h.eX u D;have au:=h.eX.take id;have H:=u6 T.m id;have ag:e2 T id=T.m.st id:=(by rw[e2,aw u];split;trivial;rename_i Q;exfalso;apply P;rw[e2,aw u,al Q];decide);have aI:T.m.st id=0\/T.m.st id=2:=U
 dsimp only;rw[Z,gK];have go:∀(w C:List Int),cq (cU T (dm T.m id).1) (w++(C++(if T.m.st id=2 then[id]else[])))->cq (let gV:=dn (dn (cU T (dm T.m id).1) 0 w) 13 C;if e2 T id=2 then dn gV 0 [id]else gV) []:=λw C W=>(by have V:=cq.p3 0 W;have N:=cq.p3 13 V;rw[ag];dsimp only;split;rename_i e;rw[aw e]at N;exact cq.p3 (L:=[id]) (M:=[]) 0 N;simp_all);rcases f5 with⟨g1,g2,g3,g4⟩|⟨g1,g2,g3,g5,g4⟩;·rw[al (show ¬(o.aL=true)by rw[g1];decide),g2,aw (show(-1:Int)=-1 from rfl)];have:=go [o.aY] [] ?_;trivial;refine h.meet au H _ (λx d=>?_) (λx d an=>?_) ?_;all_goals grind
 rw[aw g1,g2];have eI:∀x,x∈T.m.ids->x≠o.aY->x≠id->x≠T.m.aL id->((dm T.m id).1.st x=0↔T.m.st x=0):=b2
 have aB:(dm T.m id).1.st o.aY=0↔T.m.st o.aY=0:=U
 by_cases E:T.m.aL id=-1;rw[aw E];have:=go [] [] ?_;trivial;refine h.meet au H _ (λx d=>?_) (λx d an=>?_) ?_;simp_all;simp only[List.nil_append]at an;by_cases e:x=id;simp_all;by_cases O:x=o.aY;simp_all;exact eI x d O e (λaA=>by have:=h.eX.ge x d;omega);grind;rw[al E];obtain⟨aq,c2,ar,av,ax⟩:=g5 E;have:=go [] [T.m.aL id] ?_;trivial;refine h.meet au H _ (λx d=>?_) (λx d an=>?_) ?_;all_goals grind
end Go.Proofs.YtglgidjhoncphaaGreatDoor
