/- Proved here: contracts of functions of this program, under the premises that each theorem names. -/
import Derived.Test.YtglgidjhoncphaaGreatDoorYu
set_option linter.all false
set_option maxRecDepth 4000
set_option maxHeartbeats 4000000
open List renaming length_append->mp,getElem?_eq_getElem->Uo,mem_singleton->Up,mem_append->Uq,mem_of_getElem?->Us,not_mem_nil->Uy,getElem?_eq_some_iff->Uz,mem_map->UE,take_add_one->UF,nodup_cons->UI,flatMap_cons->UN,mem_filter->UO,length_cons->UP,nodup_append->US,filter_eq_self->UU,take_length->U9,nodup_nil->Va,append_nil->Vg,getElem?_of_mem->Vo,map_append->Vy,pairwise_iff_getElem->VJ,length_map->VP,take_zero->VZ,filter_eq_nil_iff->Wm,append_of_mem->WK,foldl_append->Xe
open Go.QM.ab renaming aA->Ur,loop->UZ,bf->VM
open Nat renaming zero_le->Uv,le_refl->Uw,le_of_ble_eq_true->UC
open Decidable renaming not_not->UD
open Go.QM.aF renaming refl->U5
open Go.Value renaming int->VA
open Ne renaming symm->WC
open Option renaming toList->XM
namespace Go.Proofs.YtglgidjhoncphaaGreatDoor
open Go Go.QM
theorem qC{l m:List Int}(h:l.Nodup)(hs:∀x∈l,x∈m):l.length<=m.length:=by induction l generalizing m with|nil=>simp|cons a l E=>obtain⟨w,C⟩:=UI.1 h;obtain⟨s,t,rfl⟩:=WK (hs a cF);have:=E (m:=s++t) C (λx u=>by have d:=hs x (by simp[u]);have D:x≠a:=λe=>w (e▸u);simp at d⊢;rcases d with d|d|d;exact .inl d;exact absurd d D;exact .inr d);simp at this⊢;omega
structure dr(s:cI):Prop where
  bo:s.ids.Nodup
  ge:∀x∈s.ids,0<=x
  rg:∀x∈s.ids,s.st x=0\/s.st x=1\/s.st x=2\/s.st x=3
  row:∀x∈s.ids,∀o∈s.row x,o.aX∈s.ids/\o.aX≠x/\s.st o.aX=1/\s.aD o.aX=x
  jq:∀x∈s.ids,((s.row x).map (·.aX)).Nodup
  snd:∀x∈s.ids,s.st x=1->s.aD x∈s.ids/\∃o∈s.row (s.aD x),o.aX=x
  hy:∀x∈s.ids,s.aL x≠-1->s.aL x∈s.ids/\s.aL x≠x/\s.st (s.aL x)=3/\s.aD (s.aL x)=x
  ask:∀x∈s.ids,s.st x=3->s.aD x∈s.ids/\s.aL (s.aD x)=x
  idle:∀x∈s.ids,s.st x≠1->s.st x≠3->s.aD x=-1
theorem dr.zero:dr en:=⟨Va,λ_ h=>(Uy h).elim,λ_ h=>(Uy h).elim,λ_ h=>(Uy h).elim,λ_ h=>(Uy h).elim,λ_ h=>(Uy h).elim,λ_ h=>(Uy h).elim,λ_ h=>(Uy h).elim,λ_ h=>(Uy h).elim⟩
variable{s:cI}
theorem dr.ext{t:cI}(h:dr s)(w:t.ids=s.ids)(u:∀x∈s.ids,t.st x=s.st x/\t.aL x=s.aL x/\t.aD x=s.aD x/\t.row x=s.row x):dr t where
 bo:=by rw[w];exact h.bo
 ge:=by rw[w];exact h.ge
 rg:=λx d=>by rw[w]at d;rw[(u x d).1];exact h.rg x d
 row:=λx d o E=>by rw[w]at d;rw[(u x d).2.2.2]at E;have:=h.row x d o E;rw[w,(u _ this.1).1,(u _ this.1).2.2.1];exact this
 jq:=λx d=>by rw[w]at d;rw[(u x d).2.2.2];exact h.jq x d
 snd:=λx d C=>by rw[w]at d;rw[(u x d).1]at C;have:=h.snd x d C;rw[w,(u x d).2.2.1,(u _ this.1).2.2.2];exact this
 hy:=λx d D=>by rw[w]at d;rw[(u x d).2.1]at D;have:=h.hy x d D;rw[w,(u x d).2.1,(u _ this.1).1,(u _ this.1).2.2.1];exact this
 ask:=λx d C=>by rw[w]at d;rw[(u x d).1]at C;have:=h.ask x d C;rw[w,(u x d).2.2.1,(u _ this.1).2.1];exact this
 idle:=λx d a b=>by rw[w]at d;rw[(u x d).1]at a b;rw[(u x d).2.2.1];exact h.idle x d a b
def eX(s:cI)(Y:List Int):cI:={s with st:=λx=>if x∈Y then 0 else s.st x,aD:=λx=>if x∈Y then -1 else s.aD x}
theorem rh(Y:List Int):∀s:cI,Y.foldl bZ s=eX s Y:=by induction Y with|nil=>intro s;simp[eX]|cons y Y d=>intro s;rw[List.foldl_cons,d,eX,eX];simp only[bZ,cI.mk.injEq,true_and];constructor;exact IL;constructor;exact IL;trivial
def iF(s:cI)(Y:List Int):cI:={eX s Y with row:=λx=>(s.row x).filter λo=>decide (o.aX∉Y)}
theorem dr.un(h:dr s)(Y:List Int)(N:∀y∈Y,y∈s.ids/\s.st y=1):dr (iF s Y) where
 bo:=h.bo
 ge:=h.ge
 rg:=λx d=>by show(if x∈Y then(0:Int)else s.st x)=0\/_;have:=h.rg x d;dsimp only[iF,eX];split;exact .inl rfl;exact this
 row:=λx d o P=>by
  obtain⟨Q,C⟩:=UO.1 P;have C:o.aX∉Y:=by simpa using C
  have:=h.row x d o Q;dsimp only[iF,eX];rw[al C,al C];exact this
 jq:=λx d=>(h.jq x d).sublist (List.filter_sublist.map _)
 snd:=λx d u=>by dsimp only[iF,eX]at u⊢;by_cases hm:x∈Y;rw[aw hm]at u;cases u;rw[al hm]at u⊢;obtain⟨D,o,E,w⟩:=h.snd x d u;exact⟨D,o,UO.2 ⟨E,by rw[w];simpa using hm⟩,w⟩
 hy:=λx d O=>by
  obtain⟨D,E,w,H⟩:=h.hy x d O;have hm:s.aL x∉Y:=λhm=>by have:=(N _ hm).2;omega
  dsimp only[iF,eX];rw[al hm,al hm];exact⟨D,E,w,H⟩
 ask:=λx d u=>by dsimp only[iF,eX]at u⊢;by_cases hm:x∈Y;rw[aw hm]at u;cases u;rw[al hm]at u⊢;exact h.ask x d u
 idle:=λx d a b=>by dsimp only[iF,eX]at a b⊢;by_cases hm:x∈Y;rw[aw hm];rw[al hm]at a b⊢;exact h.idle x d a b
theorem dr.xL(h:dr s){y:Int}(N:y∈s.ids)(hs:s.st y=3):dr ⟨s.ids,aP s.st y 0,aP s.aL (s.aD y) (-1),aP s.aD y (-1),s.row⟩ where
 bo:=h.bo
 ge:=h.ge
 rg:=λx u=>by dsimp only;by_cases e:x=y;rw[e,ci];exact .inl rfl;rw[bM e];exact h.rg x u
 row:=λx u o H=>by
  have:=h.row x u o H;have e:o.aX≠y:=λe=>by rw[e]at this;omega
  dsimp only;rw[bM e,bM e];exact this
 jq:=h.jq
 snd:=λx u d=>by dsimp only at d⊢;by_cases e:x=y;rw[e,ci]at d;cases d;rw[bM e]at d⊢;exact h.snd x u d
 hy:=λx u C=>by
  dsimp only at C⊢;by_cases e:x=s.aD y;rw[e,ci]at C;exact absurd rfl C;rw[bM e]at C⊢;have:=h.hy x u C;have w:s.aL x≠y:=λw=>by rw[w]at this;exact e this.2.2.2.symm
  rw[bM w,bM w];exact this
 ask:=λx u d=>by dsimp only at d⊢;by_cases e:x=y;rw[e,ci]at d;cases d;rw[bM e]at d⊢;have D:=h.ask x u d;have E:=h.ask y N hs;have w:s.aD x≠s.aD y:=λw=>e (by rw[<-D.2,w,E.2]);rw[bM w];exact D
 idle:=λx u a b=>by dsimp only at a b⊢;by_cases e:x=y;rw[e,ci];rw[bM e]at a b⊢;exact h.idle x u a b
theorem dr.set(h:dr s){y v:Int}(hs:s.st y≠1/\s.st y≠3)(D:s.aD y=-1)(hv:v=0\/v=2):dr (ef s y v) where
 bo:=h.bo
 ge:=h.ge
 rg:=λx d=>by dsimp only[ef];by_cases e:x=y;rw[e,ci];omega;rw[bM e];exact h.rg x d
 row:=λx d o C=>by
  have:=h.row x d o C;have e:o.aX≠y:=λe=>by rw[e]at this;omega
  dsimp only[ef];rw[bM e];exact this
 jq:=h.jq
 snd:=λx d u=>by dsimp only[ef]at u⊢;by_cases e:x=y;rw[e,ci]at u;omega;rw[bM e]at u;exact h.snd x d u
 hy:=λx d w=>by
  have:=h.hy x d w;have e:s.aL x≠y:=λe=>by rw[e]at this;omega
  dsimp only[ef];rw[bM e];exact this
 ask:=λx d u=>by dsimp only[ef]at u⊢;by_cases e:x=y;rw[e,ci]at u;omega;rw[bM e]at u;exact h.ask x d u
 idle:=λx d a b=>by dsimp only[ef]at a b⊢;by_cases e:x=y;rw[e];exact D;rw[bM e]at a b;exact h.idle x d a b
theorem dr.send(h:dr s){to:Int}{o:eg}(P:o.aX∈s.ids)(V:to∈s.ids)(Q:o.aX≠to)(hs:s.st o.aX=0):dr (eR (dQ s o.aX 1 to) to o) where
 bo:=h.bo
 ge:=h.ge
 rg:=λx d=>by dsimp only[eR,dQ];by_cases e:x=o.aX;rw[e,ci];omega;rw[bM e];exact h.rg x d
 row:=λx d u hu=>by dsimp only[eR,dQ]at hu⊢;have old:u∈s.row x->u.aX∈s.ids/\u.aX≠x/\aP s.st o.aX 1 u.aX=1/\aP s.aD o.aX to u.aX=x:=λhu=>(by have:=h.row x d u hu;(have e:u.aX≠o.aX:=λe=>by rw[e]at this;omega);rw[bM e,bM e];exact this);by_cases e:x=to;subst e;rw[ci]at hu;rcases Uq.1 hu with hu|hu;exact old hu;rw[Up.1 hu,ci,ci];exact⟨P,Q,rfl,rfl⟩;rw[bM e]at hu;exact old hu
 jq:=λx d=>by dsimp only[eR,dQ];by_cases e:x=to;subst e;rw[ci,Vy,US];refine⟨h.jq x d,by simp,λa O c D C=>?_⟩;obtain⟨u,hu,rfl⟩:=UE.1 O;have:=h.row x d u hu;simp only[List.map_cons,List.map_nil,Up]at D;rw[C,D]at this;omega;rw[bM e];exact h.jq x d
 snd:=λx d w=>by dsimp only[eR,dQ]at w⊢;by_cases e:x=o.aX;subst e;rw[ci,ci];exact⟨V,o,by simp,rfl⟩;rw[bM e]at w⊢;obtain⟨H,u,E,N⟩:=h.snd x d w;refine⟨H,u,?_,N⟩;by_cases C:s.aD x=to;rw[C,ci];rw[C]at E;exact Uq.2 (.inl E);rw[bM C];exact E
 hy:=λx d D=>by
  have:=h.hy x d D;have e:s.aL x≠o.aX:=λe=>by rw[e]at this;omega
  dsimp only[eR,dQ];rw[bM e,bM e];exact this
 ask:=λx d w=>by dsimp only[eR,dQ]at w⊢;by_cases e:x=o.aX;rw[e,ci]at w;omega;rw[bM e]at w⊢;exact h.ask x d w
 idle:=λx d a b=>by dsimp only[eR,dQ]at a b⊢;by_cases e:x=o.aX;rw[e,ci]at a;exact absurd rfl a;rw[bM e]at a b⊢;exact h.idle x d a b
theorem dr.link(h:dr s){to f:Int}(H:f∈s.ids)(O:to∈s.ids)(N:f≠to)(hs:s.st f=0)(P:s.aL to=-1):dr (dQ (dx s to f) f 3 to) where
 bo:=h.bo
 ge:=h.ge
 rg:=λx d=>by dsimp only[dx,dQ];by_cases e:x=f;rw[e,ci];omega;rw[bM e];exact h.rg x d
 row:=λx d u hu=>by
  have:=h.row x d u hu;have e:u.aX≠f:=λe=>by rw[e]at this;omega
  dsimp only[dx,dQ];rw[bM e,bM e];exact this
 jq:=h.jq
 snd:=λx d C=>by dsimp only[dx,dQ]at C⊢;by_cases e:x=f;rw[e,ci]at C;omega;rw[bM e]at C⊢;exact h.snd x d C
 hy:=λx d D=>by
  dsimp only[dx,dQ]at D⊢;by_cases e:x=to;subst e;rw[ci,ci,ci];exact⟨H,N,rfl,rfl⟩;rw[bM e]at D⊢;have:=h.hy x d D;have w:s.aL x≠f:=λw=>by rw[w]at this;omega
  rw[bM w,bM w];exact this
 ask:=λx d C=>by
  dsimp only[dx,dQ]at C⊢;by_cases e:x=f;subst e;rw[ci,ci];exact⟨O,rfl⟩;rw[bM e]at C⊢;have E:=h.ask x d C;have w:s.aD x≠to:=λw=>by have:=h.ge x d;rw[w]at E;omega
  rw[bM w];exact E
 idle:=λx d a b=>by dsimp only[dx,dQ]at a b⊢;by_cases e:x=f;rw[e,ci]at b;exact absurd rfl b;rw[bM e]at a b⊢;exact h.idle x d a b
theorem dr.join(h:dr s)(x:Int):dr (fy s x):=by
 rw[fy];split;trivial;rename_i N;have au:x∉s.ids:=b2
 have H:0<=x:=U
 have ne:∀y∈s.ids,y≠x:=cr
 have u:∀y,y∈s.ids++[x]->y∈s.ids\/y=x:=b2
 have mem:∀y,y∈s.ids->y∈s.ids++[x]:=b2
 refine⟨US.2 ⟨h.bo,by simp,λa E c C e=>ne a E (by rw[e];simpa using C)⟩,λy d=>?_,λy d=>?_,λy d o D=>?_,λy d=>?_,λy d w=>?_,λy d C=>?_,λy d w=>?_,λy d a b=>?_⟩;rcases u y d with d|rfl;exact h.ge y d;trivial;dsimp only;rcases u y d with d|rfl;rw[bM (ne y d)];exact h.rg y d;grind[ci];dsimp only at D⊢;rcases u y d with d|rfl;rw[bM (ne y d)]at D;have:=h.row y d o D;grind[bM];grind[ci];dsimp only;rcases u y d with d|rfl;rw[bM (ne y d)];exact h.jq y d;grind[ci];dsimp only at w⊢;rcases u y d with d|rfl;rw[bM (ne y d)]at w⊢;have:=h.snd y d w;grind[bM];grind[ci];dsimp only at C⊢;rcases u y d with d|rfl;rw[bM (ne y d)]at C⊢;have:=h.hy y d C;grind[bM];grind[ci];dsimp only at w⊢;rcases u y d with d|rfl;rw[bM (ne y d)]at w⊢;have:=h.ask y d w;grind[bM];grind[ci];dsimp only at a b⊢;rcases u y d with d|rfl;rw[bM (ne y d)]at a b⊢;exact h.idle y d a b;grind[ci]
theorem dr.drop(h:dr s){x:Int}(hs:s.st x≠1)(hr:s.row x=[])(N:s.aL x=-1)(O:s.st x≠3):dr {s with ids:=s.ids.filter λy=>decide (y≠x)}:=by
 have u:∀y,y∈s.ids.filter (λy=>decide (y≠x))->y∈s.ids/\y≠x:=b2
 have E:∀y,y∈s.ids->y≠x->y∈s.ids.filter (λy=>decide (y≠x)):=b2
 refine⟨h.bo.sublist List.filter_sublist,λy d=>h.ge y (u y d).1,λy d=>h.rg y (u y d).1,λy d o D=>?_,λy d=>h.jq y (u y d).1,λy d w=>?_,λy d C=>?_,λy d w=>?_,λy d a b=>h.idle y (u y d).1 a b⟩;have:=h.row y (u y d).1 o D;grind;have:=h.snd y (u y d).1 w;grind;have:=h.hy y (u y d).1 C;grind;have:=h.ask y (u y d).1 w;refine⟨E _ this.1 (λe=>?_),this.2⟩;have H:=h.ge y (u y d).1;grind
theorem uD(h:dr s){x:Int}(d:x∈s.ids):(s.row x).length<=s.ids.length:=by have:((s.row x).map (·.aX)).length<=s.ids.length:=(by refine qC (h.jq x d) λy w=>?_;obtain⟨o,u,rfl⟩:=UE.1 w;exact(h.row x d o u).1);simp_all
theorem GV(h:dr s)(x:Int):(ev s x).length<=s.ids.length:=by grind[ev,uD]
theorem dr.offer(h:dr s)(to:Int)(o:eg):dr (eF s to o).1:=by rw[eF];split;trivial;rename_i d;simp only[not_or,UD]at d;split;trivial;rename_i u;split;trivial;rename_i w;exact h.send d.2 d.1 u (UD.1 w)
theorem dr.opens(h:dr s)(id:Int):dr (hT s id).1:=by rw[hT];split;trivial;rename_i d;split;trivial;rename_i u;have d:=UD.1 d;simp only[not_or,UD]at u;exact h.set U (h.idle id d U U) (.inr rfl)
def dm (s:cI) (to:Int):cI×eg×Int×Int:=
  if to∉s.ids then(s,dw,0,6)else if s.st to≠0/\s.st to≠2 then(s,dw,0,12)else
  match s.row to with
  | []=>(s,dw,0,6)
  | o ::r=>
    if o.aL=true then
      (if s.aL to≠-1 then dQ (dx (bZ (bZ (bZ (cA s to r) to) o.aX) (s.aL to)) to o.aX) o.aX 3 to else dQ (dx (bZ (bZ (cA s to r) to) o.aX) to o.aX) o.aX 3 to,o,s.aL to,0)
    else(bZ (bZ (cA s to r) to) o.aX,o,-1,0)
theorem L2{o:eg}{r:List eg}(h:((o::r).map (·.aX)).Nodup):(o::r).filter (λu=>decide (u.aX∉[o.aX]))=r:=by simp_all
theorem dr.others(h:dr s){x y:Int}(d:x∈s.ids){Y:List Int}(C:∀z∈Y,s.aD z=y)(D:x≠y):(s.row x).filter (λu=>decide (u.aX∉Y))=s.row x:=by refine UU.2 λu hu=>?_;simp only[decide_eq_true_eq];intro hm;have w:=(h.row x d u hu).2.2.2;simp_all
theorem Sp(h:dr s){to:Int}(D:to∈s.ids)(hs:s.st to=0\/s.st to=2){o:eg}{r:List eg}(hr:s.row to=o::r):dr (bZ (bZ (cA s to r) to) o.aX):=by
 obtain⟨E,H,N,O⟩:=h.row to D o (by rw[hr];simp);have P:=h.idle to D U U;have hu:=h.un [o.aX] (λy Q=>by rw[Up.1 Q];exact⟨E,N⟩);have C:to∉[o.aX]:=cr
 have hv:=hu.set (y:=to) (v:=0) (by dsimp only[iF,eX];rw[al C];omega) (by dsimp only[iF,eX];rw[al C];exact P) (.inl rfl);refine hv.ext rfl λx w=>?_;have w:x∈s.ids:=w;dsimp only[bZ,cA,ef,iF,eX];refine⟨?_,rfl,?_,?_⟩;by_cases d:x=o.aX;subst d;rw[ci,bM H,aw cF];rw[bM d];by_cases u:x=to;grind[ci];rw[bM u,bM u,al (by simpa using d)];by_cases d:x=o.aX;subst d;rw[ci,aw cF];rw[bM d,al (by simpa using d)];grind[ci,bM];by_cases u:x=to;subst u;rw[ci,hr];have:=h.jq x w;grind[L2];rw[bM u];exact(h.others w (λz V=>by rw[Up.1 V];exact O) u).symm
theorem dr.take(h:dr s)(to:Int):dr (dm s to).1:=by
 rw[dm];split;trivial;rename_i d;have d:=UD.1 d;split;trivial;rename_i N;have N:s.st to=0\/s.st to=2:=U
 split;trivial;rename_i o r H;have D:=Sp h d N H;obtain⟨w,C,ag,an⟩:=h.row to d o (by rw[H];simp);split;split;rename_i u;obtain⟨O,c2,P,Q⟩:=h.hy to d u;have ce:s.aL to≠o.aX:=cr
 have Z:(bZ (bZ (cA s to r) to) o.aX).st (s.aL to)=3:=(by dsimp only[bZ,cA];rw[bM ce,bM c2];exact P);have W:(bZ (bZ (cA s to r) to) o.aX).aD (s.aL to)=to:=(by dsimp only[bZ,cA];rw[bM ce,bM c2];exact Q);have E:=D.xL (y:=s.aL to) O Z;rw[W]at E;have V:=E.link (to:=to) (f:=o.aX) w d C (by dsimp only[bZ,cA];rw[bM (WC ce),ci]) (by dsimp only;rw[ci]);refine V.ext rfl λx ao=>⟨rfl,?_,rfl,rfl⟩;dsimp only[dQ,dx,bZ,cA];grind[ci,bM];rename_i u;have u:s.aL to=-1:=U
 exact D.link w d C (by dsimp only[bZ,cA];rw[ci]) u;trivial
def fx(s:cI)(id:Int):cI×Int×Int:=
  if id∉s.ids then(s,0,6)else if s.st id≠0 then(s,0,12)else if s.aL id=-1 then(s,0,6)else(bZ (dx s id (-1)) (s.aL id),s.aL id,0)
theorem dr.answer(h:dr s)(id:Int):dr (fx s id).1:=by rw[fx];split;trivial;rename_i D;split;trivial;split;trivial;rename_i C;obtain⟨d,c2,u,w⟩:=h.hy id (UD.1 D) C;have E:=h.xL d u;rw[w]at E;trivial
def dO(s:cI)(id:Int):cI×Int:=
  if id∉s.ids then(s,6)else if s.st id=0 then(s,12)else
  if s.st id=1 then(bZ (eW s (s.aD id) λo=>decide (o.aX=id)) id,0)else if s.st id=3 then(bZ (dx s (s.aD id) (-1)) id,0)else(bZ s id,0)
theorem dr.call(h:dr s)(id:Int):dr (dO s id).1:=by rw[dO];split;trivial;rename_i d;have d:=UD.1 d;split;trivial;rename_i N;split;rename_i u;have hu:=h.un [id] (λy E=>by rw[Up.1 E];exact⟨d,u⟩);refine hu.ext rfl λx C=>?_;have C:x∈s.ids:=C;dsimp only[bZ,eW,cA,iF,eX];refine⟨?_,rfl,?_,?_⟩;by_cases e:x=id;rw[e,ci,aw cF];rw[bM e,al (by simpa using e)];by_cases e:x=id;rw[e,ci,aw cF];rw[bM e,al (by simpa using e)];by_cases e:x=s.aD id;grind[ci,List.filter_congr,jp];rw[bM e];exact(h.others C (λz H=>by rw[Up.1 H]) e).symm;rename_i u;split;rename_i w;exact h.xL d w;rename_i w;have D:=h.idle id d u w;refine(h.set (y:=id) (v:=0) ⟨u,w⟩ D (.inl rfl)).ext rfl λx _=>⟨rfl,rfl,?_,rfl⟩;dsimp only[bZ,ef];grind[ci,bM]
theorem tz(s:cI)(id:Int)(h:id∈s.ids):(dO s id).1.st id=0/\(dO s id).1.ids=s.ids:=by rw[dO,al (λd=>d h)];split;trivial;split;exact⟨ci _ _ _,rfl⟩;split;exact⟨ci _ _ _,rfl⟩;exact⟨ci _ _ _,rfl⟩
def dU(s:cI)(id:Int):List Int:=(s.row id).map (·.aX)++if s.aL id≠-1 then[s.aL id]else[]
def gx(s:cI)(id:Int):cI:={s with ids:=s.ids.filter λy=>decide (y≠id)}
def eZ(s:cI)(id:Int):cI×List Int×Int:=
  if id∉s.ids then(s,[],6)else(gx (eX (cA (dO s id).1 id []) (dU (dO s id).1 id)) id,dU (dO s id).1 id,0)
theorem D6(h:dr s){id:Int}(u:id∈s.ids){x:Int}(d:x∈dU s id):x∈s.ids/\x≠id/\s.aD x=id/\(s.st x=1\/s.st x=3):=by rcases Uq.1 d with d|d;obtain⟨o,C,rfl⟩:=UE.1 d;have:=h.row id u o C;simp_all;split at d;rename_i w;rw[Up.1 d];have:=h.hy id u w;simp_all;trivial
theorem dr.OX(h:dr s){id:Int}(E:id∈s.ids)(hs:s.st id=0):dr (gx (eX (cA s id []) (dU s id)) id):=by
 have ag:∀y∈(s.row id).map (·.aX),y∈s.ids/\s.st y=1:=λy H=>(by obtain⟨o,w,rfl⟩:=UE.1 H;have:=h.row id E o w;simp_all);have N:∀y∈(s.row id).map (·.aX),s.aD y=id:=λy H=>(by obtain⟨o,w,rfl⟩:=UE.1 H;exact(h.row id E o w).2.2.2);have hu:=h.un _ ag;have an:id∉(s.row id).map (·.aX):=cr
 have Q:(iF s ((s.row id).map (·.aX))).row id=[]:=(by dsimp only[iF];refine Wm.2 λo w=>?_;grind);have au:(iF s ((s.row id).map (·.aX))).st id=0:=by dsimp only[iF,eX];rw[al an];exact hs
 by_cases u:s.aL id=-1;have C:=hu.drop (x:=id) U Q u U;have D:dU s id=(s.row id).map (·.aX):=by rw[dU,al (λh=>h u),Vg]
 rw[D];refine C.ext rfl λx d=>⟨rfl,rfl,rfl,?_⟩;have d:x∈s.ids/\x≠id:=by grind[iF,eX]
 dsimp only[gx,eX,cA,iF];rw[bM d.2];exact(h.others d.1 N d.2).symm;obtain⟨V,c2,W,Z⟩:=h.hy id E u;have O:s.aL id∉(s.row id).map (·.aX):=cr
 have ar:(iF s ((s.row id).map (·.aX))).st (s.aL id)=3:=by dsimp only[iF,eX];rw[al O];exact W
 have ao:(iF s ((s.row id).map (·.aX))).aD (s.aL id)=id:=by dsimp only[iF,eX];rw[al O];exact Z
 have P:=hu.xL (y:=s.aL id) V ar;rw[ao]at P;have C:=P.drop (x:=id) (by dsimp only;rw[bM (WC c2)];omega) Q (by dsimp only;rw[ci]) (by dsimp only;rw[bM (WC c2)];omega);have D:dU s id=(s.row id).map (·.aX)++[s.aL id]:=by rw[dU,aw u]
 rw[D];refine C.ext rfl λx d=>?_;have d:x∈s.ids/\x≠id:=by grind[iF,eX]
 dsimp only[gx,eX,cA,iF];refine⟨?_,?_,?_,?_⟩;by_cases e:x=s.aL id;rw[e,ci,aw cF];rw[bM e];simp_all;grind[bM];by_cases e:x=s.aL id;rw[e,ci,aw cF];rw[bM e];simp_all;rw[bM d.2];exact(h.others d.1 N d.2).symm
theorem dr.leave(h:dr s)(id:Int):dr (eZ s id).1:=by rw[eZ];split;trivial;rename_i d;have d:=UD.1 d;have u:=tz s id d;exact(h.call id).OX (by rw[u.2];exact d) u.1
end Go.Proofs.YtglgidjhoncphaaGreatDoor
namespace Go.Proofs.YtglgidjhoncphaaGreatDoor
open Go Go.QM
theorem Du{α:Type}{f g:α->ax}(i j:Nat){hs ee d gs:List ax}{L M:List α}{A bk:ax}(a:α)(u:eT i hs=some (A,ee))(w:eT j ee=some (b7 f L,d))(hw:aF A bk)(C:bk=g a)(D:∀x∈L,f x=g x)(E:(a::L).Perm M)
 (k:aF (ah d) (ah gs)):aF (ah hs) (ah (b7 g M::gs)):=
 (fC u).trans ((dP hw (U5 _)).trans (cU 0 j (hs:=bk::ee) a rfl w C D E k))
variable(b:Nat)(A:Int->Nat)
theorem Pt(s:cI)(av:dr s)(to:Int)(o:eg)(H:s.ids.length<=1000000):br 376 [ae b,aa to,.agg (e2 o).toArray] be [gT b A s] (aa (eF s to o).2) [gT b A (eF s to o).1]:=by
 apply aH Tryz.func376 Tryz.ntmps376;intro F _;refine J [1,26,425] ?_;intro ba;apply J [31];refine ab.open 1 rfl (λE D=>?_);obtain⟨ad,cap,aE⟩:=E;have bq:=D;apply J [156];dsimp only at bq⊢;by_cases u:to∈s.ids;by_cases d:o.aX∈s.ids;apply J [175];apply ao (mc b aE s.ids.length A s.ids to u);apply J [13,232,27,37,194];apply ao (mc b aE s.ids.length A s.ids o.aX d);apply J [13,58,74,355,74,110,2,199];have w:¬(to∉s.ids\/o.aX∉s.ids):=b2
 apply Ur rfl<;>intro he;have hv:eF s to o=(s,1):=by rw[eF,al w,aw he]
 rw[hv];apply J [45];exact oY;haveI:=oS (A:=A) (ad:=ad) (cap:=cap) (s:=s) (x:=o.aX) d;apply J [64,161,47];apply Ur rfl<;>intro C;have hv:eF s to o=(s,12):=by rw[eF,al w,al he,aw C]
 rw[hv];apply J [45];exact oY;have hv:eF s to o=(eR (dQ s o.aX 1 to) to o,0):=by rw[eF,al w,al he,al C]
 rw[hv];have N:=uD av u;apply J [23,32];apply ao (ui A ad cap s s.ids o.aX d bq 1 to);apply J [13,25];refine VM (B:=ah [b7 (dE A ad cap (dQ s o.aX 1 to)) s.ids,b7 (e0 ad cap (dQ s o.aX 1 to)) s.ids,aj b 352 [.map (some aE)],bC QM.encI aE (ed A s.ids) s.ids.length,aj ba 75 (e2 o),F]) ai ?_;refine cx [0,1,2,3,-4] (eU (a6 _)) ?_;apply J [351,315,11];apply a7 (Pw A ad cap (dQ s o.aX 1 to) s.ids to u bq o (by show(s.row to).length<=1000000;omega));intro y _;refine J [258,108,207] ?_;exact fa (ay (⟨(aP ad to y.1),(aP cap to y.2),aE⟩:kK) bq ai);have hv:eF s to o=(s,6):=aw (.inr d);rw[hv];apply J [175];apply ao (mc b aE s.ids.length A s.ids to u);apply J [13,232,27,37,194];apply ao (mb b aE s.ids.length A s.ids o.aX d);apply J [13,58,74,355,15,210];exact oY;have hv:eF s to o=(s,6):=aw (.inl u);rw[hv];by_cases d:o.aX∈s.ids;apply J [175];apply ao (mb b aE s.ids.length A s.ids to u);apply J [13,232,27,37,194];apply ao (mc b aE s.ids.length A s.ids o.aX d);apply J [13,58,15,210];exact oY;apply J [175];apply ao (mb b aE s.ids.length A s.ids to u);apply J [13,232,27,37,194];apply ao (mb b aE s.ids.length A s.ids o.aX d);apply J [13,58,15,210];exact oY
theorem Pu(s:cI)(av:dr s)(id:Int):br 356 [ae b,aa id] be [gT b A s] (aa (hT s id).2) [gT b A (hT s id).1]:=by
 apply aH Tryz.func356 Tryz.ntmps356;intro F _;apply J [1];refine ab.open 0 rfl (λN E=>?_);obtain⟨ad,cap,aE⟩:=N;have bq:=E;apply J [84];dsimp only at bq⊢;by_cases h:id∈s.ids;obtain⟨M,bG⟩:=fv h;have C:=lM bq bG;apply J [362,96];apply ao (mc b aE s.ids.length A s.ids id h);apply J [13,58,74,64,161,18];refine aO.split 23 rfl (λu=>?_) (λu=>?_);have u:=ds u;have hv:hT s id=(s,12):=by rw[hT,al (λd=>d h),aw (.inl u)]
 rw[hv];apply J [48,97,196,45];exact IC;have u:=dV u;apply J [138,371,139];refine c5 rfl rfl rfl (len 75 3 rfl rfl) ?_;apply J [158,182];apply Ur rfl<;>intro D;have hv:hT s id=(s,12):=by rw[hT,al (λd=>d h),aw (.inr U)]
 rw[hv];apply J [45];exact IC;have hv:hT s id=(ef s id 2,0):=by rw[hT,al (λd=>d h),al (λd=>d.elim (λw=>u w) (λw=>D U))]
 rw[hv];apply J [23,126,408,190,118];exact fa (ay (⟨ad,cap,aE⟩:kK) bq (bW (bW (cU 0 0 id rfl rfl (by dsimp only[dE,bZ,dQ,eR,cA,eW,dx,ef];simp only[ci];rfl) (λy H=>by have h:=C y H;dsimp only[dE,bZ,dQ,eR,cA,eW,dx,ef];simp only[bM h]) bG.symm (aq (aq (a6 _)))))));have hv:hT s id=(s,6):=aw h;rw[hv];apply J [96];apply ao (mb b aE s.ids.length A s.ids id h);apply J [10,58,15,210];exact oY
theorem FE(s:cI)(av:dr s)(to:Int):br 377 [ae b,aa to] be [gT b A s] (.tuple #[.agg (e2 (dm s to).2.1).toArray,aa (dm s to).2.2.1,aa (dm s to).2.2.2]) [gT b A (dm s to).1]:=by
 apply aH Tryz.func377 Tryz.ntmps377;intro F _;refine J [1,26,256] ?_;intro b4;apply J [219];refine ab.open 1 rfl (λa3 a2=>?_);obtain⟨ad,cap,aE⟩:=a3;have bq:=a2;apply J [156];dsimp only at bq⊢;by_cases h:to∈s.ids;have E:¬(to∉s.ids):=b2
 haveI:=oS (A:=A) (ad:=ad) (cap:=cap) (s:=s) (x:=to) h;apply J [175];apply ao (mc b aE s.ids.length A s.ids to h);apply J [13,58,74,64,161,18];refine aO.split 30 rfl (λQ=>?_) (λQ=>?_);have Q:=ds Q;apply J [138,201,301,368,47];apply Ur rfl<;>intro a0;have hv:dm s to=(s,dw,0,12):=by rw[dm,al E,aw ⟨Q,a0⟩]
 rw[hv];dsimp only;apply J [345,66,275];exact x1;have N:¬(s.st to≠0/\s.st to≠2):=U
 refine J [203,626,117,81,0] ?_;apply ao (An A ad cap s s.ids to h bq);apply J [13];rcases uC (s.row to)with d|⟨o,r,d⟩;have hv:dm s to=(s,dw,0,6):=by rw[dm,al E,al N,d]
 rw[hv,d];dsimp only[su,ss];refine J [352,354,256] ?_;intro a4;apply J [66,105,239,122,345,66,141,83];exact x1;obtain⟨D,ax,aC,aK⟩:=av.row to h o (by rw[d];simp);have aQ:=pG (s.row to);have W:(s.row to).length=r.length+1:=b2
 have Z:=av.hy to h;obtain⟨M,bG⟩:=fv h;have H:=lM bq bG;rw[show su (s.row to)=o from by rw[d];rfl,show ss (s.row to)=true from by rw[d];rfl];refine J [352,354,256] ?_;intro O;apply J [66,105,239,121];refine VM (B:=ah [b7 (dE A ad cap s) s.ids,b7 (e0 ad cap s) s.ids,aj b 352 [.map (some aE)],bC QM.encI aE (ed A s.ids) s.ids.length,aj b4 75 (e2 dw),aj O 75 (e2 o),F]) ai ?_;refine J [532,362,36,173,81,56,627,80,81,81,281,25] ?_;refine VM (B:=ah [b7 (dE A (aP ad to (dI (ad to) (cap to) 1 3)) (aP cap to (cap to-1)) (cA s to r)) s.ids,b7 (e0 (aP ad to (dI (ad to) (cap to) 1 3)) (aP cap to (cap to-1)) (cA s to r)) s.ids,aj b 352 [.map (some aE)],bC QM.encI aE (ed A s.ids) s.ids.length,aj b4 75 (e2 dw),aj O 75 (e2 o),F]) (cU 0 0 to rfl rfl (by dsimp only[dE,bZ,dQ,eR,cA,eW,dx,ef];simp only[ci];rw[W];rfl) (λy w=>by have h:=H y w;dsimp only[dE,bZ,dQ,eR,cA,eW,dx,ef];simp only[bM h]) bG.symm (Du 0 0 to rfl rfl (Bj (j:=1) U) (by dsimp only[e0,bZ,dQ,eR,cA,eW,dx,ef];simp only[ci];rw[W,d];rfl) (λy w=>by have h:=H y w;dsimp only[e0,bZ,dQ,eR,cA,eW,dx,ef];simp only[bM h]) bG.symm ai)) ?_;apply J [36,0];apply ao (mP A (aP ad to (dI (ad to) (cap to) 1 3)) (aP cap to (cap to-1)) (cA s to r) s.ids to h bq);apply J [17,25,557,51,107,498];rw[j2 D];apply J [479,179,69];apply ao (mP A (aP ad to (dI (ad to) (cap to) 1 3)) (aP cap to (cap to-1)) (bZ (cA s to r) to) s.ids o.aX D bq);apply J [17];by_cases C:o.aL=true;apply J [25,24,54,3];rw[C];apply J [15];haveI:=oS (A:=A) (ad:=(aP ad to (dI (ad to) (cap to) 1 3))) (cap:=(aP cap to (cap to-1))) (s:=(bZ (bZ (cA s to r) to) o.aX)) (x:=to) h;apply J [99,31,33];apply Ur rfl<;>intro u;have u:s.aL to≠-1:=u;obtain⟨V,an,ar,au⟩:=Z u;apply J [36,53,2,365];rw[show(bZ (bZ (cA s to r) to) o.aX).aL to=s.aL to from rfl,j2 V];refine e rfl ?_;apply ao (mP A (aP ad to (dI (ad to) (cap to) 1 3)) (aP cap to (cap to-1)) (bZ (bZ (cA s to r) to) o.aX) s.ids (s.aL to) V bq);apply J [17];have hv:dm s to=((dQ (dx (bZ (bZ (bZ (cA s to r) to) o.aX) (s.aL to)) to o.aX) o.aX 3 to),o,s.aL to,0):=by rw[dm,al E,al N,d];dsimp only;rw[aw C,aw u]
 rw[hv];dsimp only;apply J [25];refine VM (B:=ah [b7 (dE A (aP ad to (dI (ad to) (cap to) 1 3)) (aP cap to (cap to-1)) (bZ (bZ (bZ (cA s to r) to) o.aX) (s.aL to))) s.ids,b7 (e0 (aP ad to (dI (ad to) (cap to) 1 3)) (aP cap to (cap to-1)) (bZ (bZ (bZ (cA s to r) to) o.aX) (s.aL to))) s.ids,aj b 352 [.map (some aE)],bC QM.encI aE (ed A s.ids) s.ids.length,aj b4 75 (e2 dw),aj O 75 (e2 o),F]) ai ?_;apply J [328,36,56,80,263,343];refine VM (B:=ah [b7 (dE A (aP ad to (dI (ad to) (cap to) 1 3)) (aP cap to (cap to-1)) (dx (bZ (bZ (bZ (cA s to r) to) o.aX) (s.aL to)) to o.aX)) s.ids,b7 (e0 (aP ad to (dI (ad to) (cap to) 1 3)) (aP cap to (cap to-1)) (dx (bZ (bZ (bZ (cA s to r) to) o.aX) (s.aL to)) to o.aX)) s.ids,aj b 352 [.map (some aE)],bC QM.encI aE (ed A s.ids) s.ids.length,aj b4 75 (e2 dw),aj O 75 (e2 o),F]) (cU 0 0 to rfl rfl (by dsimp only[dE,bZ,dQ,eR,cA,eW,dx,ef];simp only[ci];rfl) (λy w=>by have h:=H y w;dsimp only[dE,bZ,dQ,eR,cA,eW,dx,ef];simp only[bM h]) bG.symm ai) ?_;apply J [175];apply ao (ui A (aP ad to (dI (ad to) (cap to) 1 3)) (aP cap to (cap to-1)) (dx (bZ (bZ (bZ (cA s to r) to) o.aX) (s.aL to)) to o.aX) s.ids o.aX D bq 3 to);apply J [17,338,229,71];exact ta;have u:¬s.aL to≠-1:=u;have hv:dm s to=((dQ (dx (bZ (bZ (cA s to r) to) o.aX) to o.aX) o.aX 3 to),o,s.aL to,0):=by rw[dm,al E,al N,d];dsimp only;rw[aw C,al u]
 rw[hv];dsimp only;apply J [42];refine VM (B:=ah [b7 (dE A (aP ad to (dI (ad to) (cap to) 1 3)) (aP cap to (cap to-1)) (bZ (bZ (cA s to r) to) o.aX)) s.ids,b7 (e0 (aP ad to (dI (ad to) (cap to) 1 3)) (aP cap to (cap to-1)) (bZ (bZ (cA s to r) to) o.aX)) s.ids,aj b 352 [.map (some aE)],bC QM.encI aE (ed A s.ids) s.ids.length,aj b4 75 (e2 dw),aj O 75 (e2 o),F]) ai ?_;apply J [328,36,56,80,263,343];refine VM (B:=ah [b7 (dE A (aP ad to (dI (ad to) (cap to) 1 3)) (aP cap to (cap to-1)) (dx (bZ (bZ (cA s to r) to) o.aX) to o.aX)) s.ids,b7 (e0 (aP ad to (dI (ad to) (cap to) 1 3)) (aP cap to (cap to-1)) (dx (bZ (bZ (cA s to r) to) o.aX) to o.aX)) s.ids,aj b 352 [.map (some aE)],bC QM.encI aE (ed A s.ids) s.ids.length,aj b4 75 (e2 dw),aj O 75 (e2 o),F]) (cU 0 0 to rfl rfl (by dsimp only[dE,bZ,dQ,eR,cA,eW,dx,ef];simp only[ci];rfl) (λy w=>by have h:=H y w;dsimp only[dE,bZ,dQ,eR,cA,eW,dx,ef];simp only[bM h]) bG.symm ai) ?_;apply J [175];apply ao (ui A (aP ad to (dI (ad to) (cap to) 1 3)) (aP cap to (cap to-1)) (dx (bZ (bZ (cA s to r) to) o.aX) to o.aX) s.ids o.aX D bq 3 to);apply J [17,338,229,71];exact ta;have ag:o.aL=false:=b2
 have hv:dm s to=((bZ (bZ (cA s to r) to) o.aX),o,-1,0):=by rw[dm,al E,al N,d];dsimp only;rw[al C]
 rw[hv];dsimp only;apply J [25,24,54,3];rw[ag];apply J [202,128,229,71];exact ta;have Q:=dV Q;apply J [214,93,189];have N:¬(s.st to≠0/\s.st to≠2):=U
 refine J [203,626,117,81,0] ?_;apply ao (An A ad cap s s.ids to h bq);apply J [13];rcases uC (s.row to)with d|⟨o,r,d⟩;have hv:dm s to=(s,dw,0,6):=by rw[dm,al E,al N,d]
 rw[hv,d];dsimp only[su,ss];refine J [352,354,256] ?_;intro a5;apply J [66,105,239,122,345,66,141,83];exact x1;obtain⟨D,ax,aC,aK⟩:=av.row to h o (by rw[d];simp);have aQ:=pG (s.row to);have W:(s.row to).length=r.length+1:=b2
 have Z:=av.hy to h;obtain⟨M,bG⟩:=fv h;have H:=lM bq bG;rw[show su (s.row to)=o from by rw[d];rfl,show ss (s.row to)=true from by rw[d];rfl];refine J [352,354,256] ?_;intro P;apply J [66,105,239,121];refine VM (B:=ah [b7 (dE A ad cap s) s.ids,b7 (e0 ad cap s) s.ids,aj b 352 [.map (some aE)],bC QM.encI aE (ed A s.ids) s.ids.length,aj b4 75 (e2 dw),aj P 75 (e2 o),F]) ai ?_;refine J [532,362,36,173,81,56,627,80,81,81,281,25] ?_;refine VM (B:=ah [b7 (dE A (aP ad to (dI (ad to) (cap to) 1 3)) (aP cap to (cap to-1)) (cA s to r)) s.ids,b7 (e0 (aP ad to (dI (ad to) (cap to) 1 3)) (aP cap to (cap to-1)) (cA s to r)) s.ids,aj b 352 [.map (some aE)],bC QM.encI aE (ed A s.ids) s.ids.length,aj b4 75 (e2 dw),aj P 75 (e2 o),F]) (cU 0 0 to rfl rfl (by dsimp only[dE,bZ,dQ,eR,cA,eW,dx,ef];simp only[ci];rw[W];rfl) (λy w=>by have h:=H y w;dsimp only[dE,bZ,dQ,eR,cA,eW,dx,ef];simp only[bM h]) bG.symm (Du 0 0 to rfl rfl (Bj (j:=1) U) (by dsimp only[e0,bZ,dQ,eR,cA,eW,dx,ef];simp only[ci];rw[W,d];rfl) (λy w=>by have h:=H y w;dsimp only[e0,bZ,dQ,eR,cA,eW,dx,ef];simp only[bM h]) bG.symm ai)) ?_;apply J [36,0];apply ao (mP A (aP ad to (dI (ad to) (cap to) 1 3)) (aP cap to (cap to-1)) (cA s to r) s.ids to h bq);apply J [17,25,557,51,107,498];rw[j2 D];apply J [479,179,69];apply ao (mP A (aP ad to (dI (ad to) (cap to) 1 3)) (aP cap to (cap to-1)) (bZ (cA s to r) to) s.ids o.aX D bq);apply J [17];by_cases C:o.aL=true;apply J [25,24,54,3];rw[C];apply J [15];haveI:=oS (A:=A) (ad:=(aP ad to (dI (ad to) (cap to) 1 3))) (cap:=(aP cap to (cap to-1))) (s:=(bZ (bZ (cA s to r) to) o.aX)) (x:=to) h;apply J [99,31,33];apply Ur rfl<;>intro u;have u:s.aL to≠-1:=u;obtain⟨V,an,ar,au⟩:=Z u;apply J [36,53,2,365];rw[show(bZ (bZ (cA s to r) to) o.aX).aL to=s.aL to from rfl,j2 V];refine e rfl ?_;apply ao (mP A (aP ad to (dI (ad to) (cap to) 1 3)) (aP cap to (cap to-1)) (bZ (bZ (cA s to r) to) o.aX) s.ids (s.aL to) V bq);apply J [17];have hv:dm s to=((dQ (dx (bZ (bZ (bZ (cA s to r) to) o.aX) (s.aL to)) to o.aX) o.aX 3 to),o,s.aL to,0):=by rw[dm,al E,al N,d];dsimp only;rw[aw C,aw u]
 rw[hv];dsimp only;apply J [25];refine VM (B:=ah [b7 (dE A (aP ad to (dI (ad to) (cap to) 1 3)) (aP cap to (cap to-1)) (bZ (bZ (bZ (cA s to r) to) o.aX) (s.aL to))) s.ids,b7 (e0 (aP ad to (dI (ad to) (cap to) 1 3)) (aP cap to (cap to-1)) (bZ (bZ (bZ (cA s to r) to) o.aX) (s.aL to))) s.ids,aj b 352 [.map (some aE)],bC QM.encI aE (ed A s.ids) s.ids.length,aj b4 75 (e2 dw),aj P 75 (e2 o),F]) ai ?_;apply J [328,36,56,80,263,343];refine VM (B:=ah [b7 (dE A (aP ad to (dI (ad to) (cap to) 1 3)) (aP cap to (cap to-1)) (dx (bZ (bZ (bZ (cA s to r) to) o.aX) (s.aL to)) to o.aX)) s.ids,b7 (e0 (aP ad to (dI (ad to) (cap to) 1 3)) (aP cap to (cap to-1)) (dx (bZ (bZ (bZ (cA s to r) to) o.aX) (s.aL to)) to o.aX)) s.ids,aj b 352 [.map (some aE)],bC QM.encI aE (ed A s.ids) s.ids.length,aj b4 75 (e2 dw),aj P 75 (e2 o),F]) (cU 0 0 to rfl rfl (by dsimp only[dE,bZ,dQ,eR,cA,eW,dx,ef];simp only[ci];rfl) (λy w=>by have h:=H y w;dsimp only[dE,bZ,dQ,eR,cA,eW,dx,ef];simp only[bM h]) bG.symm ai) ?_;apply J [175];apply ao (ui A (aP ad to (dI (ad to) (cap to) 1 3)) (aP cap to (cap to-1)) (dx (bZ (bZ (bZ (cA s to r) to) o.aX) (s.aL to)) to o.aX) s.ids o.aX D bq 3 to);apply J [17,338,229,71];exact ta;have u:¬s.aL to≠-1:=u;have hv:dm s to=((dQ (dx (bZ (bZ (cA s to r) to) o.aX) to o.aX) o.aX 3 to),o,s.aL to,0):=by rw[dm,al E,al N,d];dsimp only;rw[aw C,al u]
 rw[hv];dsimp only;apply J [42];refine VM (B:=ah [b7 (dE A (aP ad to (dI (ad to) (cap to) 1 3)) (aP cap to (cap to-1)) (bZ (bZ (cA s to r) to) o.aX)) s.ids,b7 (e0 (aP ad to (dI (ad to) (cap to) 1 3)) (aP cap to (cap to-1)) (bZ (bZ (cA s to r) to) o.aX)) s.ids,aj b 352 [.map (some aE)],bC QM.encI aE (ed A s.ids) s.ids.length,aj b4 75 (e2 dw),aj P 75 (e2 o),F]) ai ?_;apply J [328,36,56,80,263,343];refine VM (B:=ah [b7 (dE A (aP ad to (dI (ad to) (cap to) 1 3)) (aP cap to (cap to-1)) (dx (bZ (bZ (cA s to r) to) o.aX) to o.aX)) s.ids,b7 (e0 (aP ad to (dI (ad to) (cap to) 1 3)) (aP cap to (cap to-1)) (dx (bZ (bZ (cA s to r) to) o.aX) to o.aX)) s.ids,aj b 352 [.map (some aE)],bC QM.encI aE (ed A s.ids) s.ids.length,aj b4 75 (e2 dw),aj P 75 (e2 o),F]) (cU 0 0 to rfl rfl (by dsimp only[dE,bZ,dQ,eR,cA,eW,dx,ef];simp only[ci];rfl) (λy w=>by have h:=H y w;dsimp only[dE,bZ,dQ,eR,cA,eW,dx,ef];simp only[bM h]) bG.symm ai) ?_;apply J [175];apply ao (ui A (aP ad to (dI (ad to) (cap to) 1 3)) (aP cap to (cap to-1)) (dx (bZ (bZ (cA s to r) to) o.aX) to o.aX) s.ids o.aX D bq 3 to);apply J [17,338,229,71];exact ta;have ag:o.aL=false:=b2
 have hv:dm s to=((bZ (bZ (cA s to r) to) o.aX),o,-1,0):=by rw[dm,al E,al N,d];dsimp only;rw[al C]
 rw[hv];dsimp only;apply J [25,24,54,3];rw[ag];apply J [202,128,229,71];exact ta;have hv:dm s to=(s,dw,0,6):=aw h;rw[hv];dsimp only;apply J [175];apply ao (mb b aE s.ids.length A s.ids to h);apply J [13,58,15,345,229,275];exact x1
theorem Pb(s:cI)(av:dr s)(id:Int):br 378 [ae b,aa id] be [gT b A s] (.tuple #[aa (fx s id).2.1,aa (fx s id).2.2]) [gT b A (fx s id).1]:=by
 apply aH Tryz.func378 Tryz.ntmps378;intro F _;apply J [1];refine ab.open 0 rfl (λN E=>?_);obtain⟨ad,cap,aE⟩:=N;have bq:=E;apply J [84];dsimp only at bq⊢;by_cases h:id∈s.ids;have u:¬(id∉s.ids):=b2
 haveI:=oS (A:=A) (ad:=ad) (cap:=cap) (s:=s) (x:=id) h;apply J [134,32];apply ao (mc b aE s.ids.length A s.ids id h);apply J [10,58,74,64,161,47];apply Ur rfl<;>intro w;have hv:fx s id=(s,0,12):=by rw[fx,al u,aw w]
 rw[hv];dsimp only;apply J [119];exact x2;apply J [99,199];apply Ur rfl<;>intro d;have hv:fx s id=(s,0,6):=by rw[fx,al u,al w,aw d]
 rw[hv];dsimp only;apply J [119];exact x2;have hv:fx s id=(bZ (dx s id (-1)) (s.aL id),s.aL id,0):=by rw[fx,al u,al w,al d]
 rw[hv];dsimp only;obtain⟨C,O,P,Q⟩:=av.hy id h d;obtain⟨M,bG⟩:=fv h;have D:=lM bq bG;apply J [23,99,31];refine VM (B:=ah [b7 (dE A ad cap s) s.ids,b7 (e0 ad cap s) s.ids,aj b 352 [.map (some aE)],bC QM.encI aE (ed A s.ids) s.ids.length,F]) ai ?_;apply J [328,117,263,190,25];refine VM (B:=ah [b7 (dE A ad cap (dx s id (-1))) s.ids,b7 (e0 ad cap (dx s id (-1))) s.ids,aj b 352 [.map (some aE)],bC QM.encI aE (ed A s.ids) s.ids.length,F]) (cU 0 0 id rfl rfl (by dsimp only[dE,bZ,dQ,eR,cA,eW,dx,ef];simp only[ci];rfl) (λy H=>by have h:=D y H;dsimp only[dE,bZ,dQ,eR,cA,eW,dx,ef];simp only[bM h]) bG.symm ai) ?_;apply J [36,53,2,365];rw[j2 C];refine e rfl ?_;apply ao (mP A ad cap (dx s id (-1)) s.ids (s.aL id) C bq);apply J [10,3,29,71];exact x2;have hv:fx s id=(s,0,6):=aw h;rw[hv];dsimp only;apply J [134,32];apply ao (mb b aE s.ids.length A s.ids id h);apply J [10,58,15,349,252];exact x2
variable(id:Int)
theorem Pe(o:eg):br 330 [.agg (e2 o).toArray,ae b] (λF=>Rd F b (.cells #[aa id] 3 (0,0))) [] (.bool (decide (o.aX=id))) []:=by apply aH Tryz.func330 Tryz.ntmps330;intro F d;apply J [9];haveI:fP F b (.cells #[aa id] 3 (0,0)):=⟨d⟩;refine J [26,425] ?_;intro ba;apply J [47,110,82,262,65];exact dp
theorem wQ(s:cI)(av:dr s)(id:Int)(Q:s.ids.length<=1000000):br 279 [ae b,aa id] be [gT b A s] (aa (dO s id).2) [gT b A (dO s id).1]:=by
 apply aH Tryz.func279 Tryz.ntmps279;intro F _;refine J [1,26,448] ?_;intro bw;apply J [31];refine ab.open 1 rfl (λP N=>?_);obtain⟨ad,cap,aE⟩:=P;have bq:=N;apply J [156];dsimp only at bq⊢;by_cases h:id∈s.ids;have u:¬(id∉s.ids):=b2
 haveI:=oS (A:=A) (ad:=ad) (cap:=cap) (s:=s) (x:=id) h;apply J [36,82,0];apply ao (mc b aE s.ids.length A s.ids id h);apply J [13,112,172,121,64,227,98];apply Ur rfl<;>intro w;have hv:dO s id=(s,12):=by rw[dO,al u,aw w]
 rw[hv];apply J [45];exact oY;apply J [98];apply Ur rfl<;>intro C;have hv:dO s id=(bZ (eW s (s.aD id) λo=>decide (o.aX=id)) id,0):=by rw[dO,al u,al w,aw C]
 rw[hv];dsimp only;obtain⟨d,_⟩:=av.snd id h C;have V:=uD av d;refine J [628,608,51,273,498] ?_;rw[j2 d];apply J [88,87,577];refine dl rfl rfl rfl rfl ?_;apply eQ (Am A ad cap s s.ids (s.aD id) d bq 330 [ae bw] (λo=>decide (o.aX=id)) (λF=>Rd F bw (.cells #[aa id] 3 (0,0))) (Pe bw id) (λE _ h=>yd h E) U) fP.rd;intro y _;change b3 _ _ _ _ _ _ _ _ _ _ (ah [_,_,_,_,_,_,_]);apply J [306,69];apply ao (mP A (aP ad (s.aD id) y.2.1) (aP cap (s.aD id) y.2.2) (eW s (s.aD id) λo=>decide (o.aX=id)) s.ids id h bq);apply J [17,118];exact fa (ay (⟨(aP ad (s.aD id) y.2.1),(aP cap (s.aD id) y.2.2),aE⟩:kK) bq ai);apply J [98];apply Ur rfl<;>intro D;have hv:dO s id=(bZ (dx s (s.aD id) (-1)) id,0):=by rw[dO,al u,al w,al C,aw D]
 rw[hv];dsimp only;obtain⟨d,_⟩:=av.ask id h D;obtain⟨M,bG⟩:=fv d;have H:=lM bq bG;refine J [628] ?_;refine ab.draw _ [11] [0,1,2,3,4,5,6,7,8,9,10,-11] aR aR (U5 _) ?_;apply J [51,273,498];rw[j2 d];refine b3.bf (fR 0 rfl bG) ?_;apply J [88,370,91,514,306,7];refine VM (B:=ah [b7 (dE A ad cap (dx s (s.aD id) (-1))) s.ids,b7 (e0 ad cap (dx s (s.aD id) (-1))) s.ids,aj b 352 [.map (some aE)],bC QM.encI aE (ed A s.ids) s.ids.length,F]) (cU 0 0 (s.aD id) rfl rfl (by dsimp only[dE,bZ,dQ,eR,cA,eW,dx,ef];simp only[ci];rfl) (λy O=>by have h:=H y O;dsimp only[dE,bZ,dQ,eR,cA,eW,dx,ef];simp only[bM h]) bG.symm ai) ?_;apply J [36,0];apply ao (mP A ad cap (dx s (s.aD id) (-1)) s.ids id h bq);apply J [10,118];exact oY;have hv:dO s id=(bZ s id,0):=by rw[dO,al u,al w,al C,al D]
 rw[hv];dsimp only;apply J [23,69];apply ao (mP A ad cap s s.ids id h bq);apply J [13,118];exact oY;have hv:dO s id=(s,6):=aw h;rw[hv];apply J [36,82,0];apply ao (mb b aE s.ids.length A s.ids id h);apply J [13,112,33,15,124];exact oY
theorem Po(o:eg):br 383 [.agg (e2 o).toArray] (λ_=>True) [] (.bool true) []:=by apply aH Tryz.func383 Tryz.ntmps383;intro F _;refine J [197,425] ?_;intro d;apply J [47,24,65];exact dp
theorem Pp(s:cI)(av:dr s)(id:Int)(a0:s.ids.length<=1000000):bI 369 [ae b,aa id] be [gT b A s] (λy:Option Addr×Nat=>.tuple #[.slice y.1 (eZ s id).2.1.length y.2,aa (eZ s id).2.2]) (λ_=>True) (λy=>[aT 3 1 y.1 (eZ s id).2.1.length y.2 (ints (eZ s id).2.1),gT b A (eZ s id).1]):=by
 apply aH Tryz.func369 Tryz.ntmps369;intro F _;apply J [1];refine ab.open 0 rfl (λaC ax=>?_);obtain⟨ad,cap,aE⟩:=aC;have bq:=ax;apply J [84];dsimp only at bq⊢;by_cases h:id∈s.ids;have hv:eZ s id=(gx (eX (cA (dO s id).1 id []) (dU (dO s id).1 id)) id,dU (dO s id).1 id,0):=al (λa3=>a3 h);rw[hv];dsimp only;obtain⟨bk,a2⟩:=tz s id h;have V:=av.call id;apply J [44,27,32];apply ao (mc b aE s.ids.length A s.ids id h);apply J [10,112,172,121];refine VM (B:=ah [gT b A s,F]) (ay (⟨ad,cap,aE⟩:kK) bq ai) ?_;apply J [175];apply ao (wQ b A s av id a0);apply J [6];clear hv bq;have w:id∈(dO s id).1.ids:=b2
 have bb:(dO s id).1.ids.length<=1000000:=b2
 generalize(dO s id).1=Z at bk a2 V w bb⊢;clear a2 a0 h av;apply J [25];refine ab.open 0 rfl (λaC ax=>?_);obtain⟨ad,cap,aE⟩:=aC;have bq:=ax;apply J [84];dsimp only at bq⊢;have br:=uD V w;have aQ:=λx (C:x∈dU Z id)=>D6 V w C;apply J [117,81,0];apply a7 (Am A ad cap Z Z.ids id w bq 383 [] (λ_=>true) (λ_=>True) Po (λ_ _ _=>trivial) U);intro y _;apply J [13];have a5:(eW Z id λ_=>true)=cA Z id []:=by grind[eW,Wm,jp]
 have a8:jB (Z.row id) (λ_=>true)=(Z.row id).map (·.aX):=by grind[jB,UU]
 have aK:((Z.row id).map (·.aX)).length=(Z.row id).length:=b2
 have bo:=eb ((Z.row id).map (·.aX));rw[a5,a8];obtain⟨⟨bi,gc⟩,⟨d,u⟩⟩:=y;dsimp only;haveI:=oS (A:=A) (ad:=(aP ad id d)) (cap:=(aP cap id u)) (s:=(cA Z id [])) (x:=id) w;apply J [123,99,284];apply Ur rfl<;>intro D;have D:Z.aL id≠-1:=D;have cE:dU Z id=(Z.row id).map (·.aX)++[Z.aL id]:=by rw[dU,aw D]
 refine J [114,173,54,0,148] ?_;intro bm;refine e rfl ?_;refine ap 8 rfl rfl rfl rfl rfl (UC rfl) (show _=ints [Z.aL id]from rfl) rfl U gp ?_;intro E H;apply J [123,7];have a4:=eb (dU Z id);have P:(dU Z id).length=(Z.row id).length+1:=b2
 refine VM (B:=ah [aT 3 1 E (dU Z id).length H (ints (dU Z id)),b7 (dE A (aP ad id d) (aP cap id u) (cA Z id [])) Z.ids,b7 (e0 (aP ad id d) (aP cap id u) (cA Z id [])) Z.ids,aj b 352 [.map (some aE)],bC QM.encI aE (ed A Z.ids) Z.ids.length,F]) (ca 0 rfl (by rw[cE,mp];simp[ints]) ai) ?_;rw[show((Z.row id).map (·.aX)).length+1=(dU Z id).length from by rw[P,aK]];apply J [114,174];refine UZ (ι:=Nat) (λk=>k<=(dU Z id).length) (λk=>[(0,ae b),(1,aa id),(8,.slice E (dU Z id).length H),(39,.slice E (dU Z id).length H),(40,aa (dU Z id).length),(41,aa ((k:Nat):Int))]) (λk=>ah [aT 3 1 E (dU Z id).length H (ints (dU Z id)),b7 (dE A (aP ad id d) (aP cap id u) (eX (cA Z id []) ((dU Z id).take k))) Z.ids,b7 (e0 (aP ad id d) (aP cap id u) (eX (cA Z id []) ((dU Z id).take k))) Z.ids,aj b 352 [.map (some aE)],bC QM.encI aE (ed A Z.ids) Z.ids.length,F]) (λk=>(dU Z id).length-k) 0 (Uv _) bu (aq (ca 0 rfl sI (ca 0 rfl sI ai))) ?_;rintro k an bl;dsimp only[ct]at an⊢;apply J [40];apply Ur rfl<;>intro a9;have au:k<(dU Z id).length:=U
 obtain⟨x,C⟩:∃x,(dU Z id)[k]? =some x:=⟨_,Uo au⟩;have bh:0<(ints (dU Z id)).length:=U
 obtain⟨O,_⟩:=aQ x (Us C);have N:bZ (eX (cA Z id []) ((dU Z id).take k)) x=(eX (cA Z id []) ((dU Z id).take (k+1))):=by rw[<-rh,<-rh,UF,C,XM,Xe];rfl
 refine J [187] ?_;refine q rfl rfl (dv rfl rfl (hN C)) ?_;apply J [27,36,53,2,365];rw[j2 O];refine e rfl ?_;apply ao (mP A (aP ad id d) (aP cap id u) (eX (cA Z id []) ((dU Z id).take k)) Z.ids x O bq);apply J [13];rw[N];refine J [60] ?_;exact⟨rfl,(k+1),U,U,bu,(bW (aq (ca 0 rfl (by rw[<-N];rfl) ai)))⟩;obtain rfl:k=(dU Z id).length:=by omega
 rw[U9];obtain⟨M,bG⟩:=fv w;have bd:=lM bq bG;have jT:M.Perm (Z.ids.filter λy=>decide (y≠id)):=cr;have Q:(Z.ids.filter λy=>decide (y≠id)).Nodup:=cr
 have ar:(Z.ids.filter λy=>decide (y≠id)).length=Z.ids.length-1:=by rw[<-jT.length_eq,bG.length_eq];rfl
 have W:ed A (Z.ids.filter λy=>decide (y≠id))=fQ (ed A Z.ids) id:=(by funext y;simp only[ed,fQ];grind);have ag:=j2 (A:=A) w;apply J [22,39,2,20];refine lB 3 278 rfl (dM.int rfl) rfl rfl rfl ?_;apply J [221,21,30];exact cN ⟨E,H⟩ trivial (bW (ay (⟨(aP ad id d),(aP cap id u),aE⟩:kK) Q (cY (ca 0 rfl (by dsimp only[gx,eX,cA];rw[W,ar,ag];rfl) ((fR 0 rfl bG).trans (ow 1 rfl (λ_ _=>rfl) jT ((fR 1 rfl bG).trans (ow 1 rfl (λ_ _=>rfl) jT (bp (a6 _))))))))));have D:¬Z.aL id≠-1:=D;have cE:dU Z id=(Z.row id).map (·.aX):=by rw[dU,al D,Vg]
 apply J [42,7];have a4:=eb (dU Z id);have P:(dU Z id).length=(Z.row id).length:=b2
 refine VM (B:=ah [aT 3 1 bi (dU Z id).length gc (ints (dU Z id)),b7 (dE A (aP ad id d) (aP cap id u) (cA Z id [])) Z.ids,b7 (e0 (aP ad id d) (aP cap id u) (cA Z id [])) Z.ids,aj b 352 [.map (some aE)],bC QM.encI aE (ed A Z.ids) Z.ids.length,F]) (ca 0 rfl (by rw[cE]) ai) ?_;rw[show((Z.row id).map (·.aX)).length=(dU Z id).length from by rw[P,aK]];apply J [114,174];refine UZ (ι:=Nat) (λk=>k<=(dU Z id).length) (λk=>[(0,ae b),(1,aa id),(8,.slice bi (dU Z id).length gc),(39,.slice bi (dU Z id).length gc),(40,aa (dU Z id).length),(41,aa ((k:Nat):Int))]) (λk=>ah [aT 3 1 bi (dU Z id).length gc (ints (dU Z id)),b7 (dE A (aP ad id d) (aP cap id u) (eX (cA Z id []) ((dU Z id).take k))) Z.ids,b7 (e0 (aP ad id d) (aP cap id u) (eX (cA Z id []) ((dU Z id).take k))) Z.ids,aj b 352 [.map (some aE)],bC QM.encI aE (ed A Z.ids) Z.ids.length,F]) (λk=>(dU Z id).length-k) 0 (Uv _) bu (aq (ca 0 rfl sI (ca 0 rfl sI ai))) ?_;rintro k an bl;dsimp only[ct]at an⊢;apply J [40];apply Ur rfl<;>intro a9;have au:k<(dU Z id).length:=U
 obtain⟨x,C⟩:∃x,(dU Z id)[k]? =some x:=⟨_,Uo au⟩;have bh:0<(ints (dU Z id)).length:=U
 obtain⟨O,_⟩:=aQ x (Us C);have N:bZ (eX (cA Z id []) ((dU Z id).take k)) x=(eX (cA Z id []) ((dU Z id).take (k+1))):=by rw[<-rh,<-rh,UF,C,XM,Xe];rfl
 refine J [187] ?_;refine q rfl rfl (dv rfl rfl (hN C)) ?_;apply J [27,36,53,2,365];rw[j2 O];refine e rfl ?_;apply ao (mP A (aP ad id d) (aP cap id u) (eX (cA Z id []) ((dU Z id).take k)) Z.ids x O bq);apply J [13];rw[N];refine J [60] ?_;exact⟨rfl,(k+1),U,U,bu,(bW (aq (ca 0 rfl (by rw[<-N];rfl) ai)))⟩;obtain rfl:k=(dU Z id).length:=by omega
 rw[U9];obtain⟨M,bG⟩:=fv w;have bd:=lM bq bG;have jT:M.Perm (Z.ids.filter λy=>decide (y≠id)):=cr;have Q:(Z.ids.filter λy=>decide (y≠id)).Nodup:=cr
 have ar:(Z.ids.filter λy=>decide (y≠id)).length=Z.ids.length-1:=by rw[<-jT.length_eq,bG.length_eq];rfl
 have W:ed A (Z.ids.filter λy=>decide (y≠id))=fQ (ed A Z.ids) id:=(by funext y;simp only[ed,fQ];grind);have ag:=j2 (A:=A) w;apply J [22,39,2,20];refine lB 3 278 rfl (dM.int rfl) rfl rfl rfl ?_;apply J [221,21,30];exact cN ⟨bi,gc⟩ trivial (bW (ay (⟨(aP ad id d),(aP cap id u),aE⟩:kK) Q (cY (ca 0 rfl (by dsimp only[gx,eX,cA];rw[W,ar,ag];rfl) ((fR 0 rfl bG).trans (ow 1 rfl (λ_ _=>rfl) jT ((fR 1 rfl bG).trans (ow 1 rfl (λ_ _=>rfl) jT (bp (a6 _))))))))));have hv:eZ s id=(s,[],6):=aw h;rw[hv];dsimp only;apply J [44,27,32];apply ao (mb b aE s.ids.length A s.ids id h);apply J [10,112,33,15,29,21,127];exact cN ⟨none,0⟩ trivial ((dH 3 1 _).trans (aq (ay (⟨ad,cap,aE⟩:kK) bq ai)))
def q0(f:Int->Option Value)(n:Nat)(y:List Int):Prop:=y.Nodup/\y.length=n/\∀x,x∈y↔(f x).isSome=true
theorem FK{α:Type}{l m:List α}(h:l.Nodup)(hs:∀x∈l,x∈m):l.length<=m.length:=by induction l generalizing m with|nil=>simp|cons a l E=>obtain⟨w,C⟩:=UI.1 h;obtain⟨s,t,rfl⟩:=WK (hs a cF);have:=E (m:=s++t) C (λx u=>by have d:=hs x (by simp[u]);have D:x≠a:=λe=>w (e▸u);simp at d⊢;rcases d with d|d|d;exact .inl d;exact absurd d D;exact .inr d);simp at this⊢;omega
def Ad(b:Nat)(f:Int->Option Value)(n:Nat):ax:=fj λy:List (Int×Value)×Array MapEntry×Nat=>pure' (kJ f n y.1/\y.2.1.toList.map (λe=>(e.key,e.val))=y.1.map (λt=>(QM.encI t.1,t.2))/\i9 y.2.1 y.2.2) (ah [obj b (.map y.2.1 y.2.2)])
theorem Pc(f:Int->Option Value)(n:Nat):aF (bC QM.encI b f n) (Ad b f n):=by rintro h ⟨m,hm,o,⟨es,aL,rfl,u,w⟩,C⟩;obtain⟨d,s,D⟩:=(pL:aF (obj b (.map es aL)) (ah [obj b (.map es aL)])) h C;exact⟨d,s,⟨m,es,aL⟩,⟨hm,u,w⟩,D⟩
theorem Pd{b:Nat}{f:Int->Option Value}{n:Nat}{m:List (Int×Value)}{es:Array MapEntry}{aL:Nat}(hm:kJ f n m)(d:es.toList.map (λe=>(e.key,e.val))=m.map (λt=>(QM.encI t.1,t.2)))(u:i9 es aL):aF (obj b (.map es aL)) (bC QM.encI b f n):=
 h1 λh w=>⟨m,hm,_,⟨es,aL,rfl,d,u⟩,w⟩
variable{x:Int}
theorem O2{m:List (Int×Value)}:x∈m.map (·.1)↔(fA x m).isSome=true:=by have:=z8 (a:=x) (m:=m);cases h:fA x m with|none=>rw[h]at this;simpa using this.1 rfl|some v=>rw[h]at this;simp only[Option.isSome_some,iff_true];(exact UD.1 λd=>by have:=this.2 d;cases this)
theorem Ok{f:Int->Option Value}{n:Nat}{m:List (Int×Value)}{es:Array MapEntry}{aL:Nat}(hm:kJ f n m)(u:es.toList.map (λe=>(e.key,e.val))=m.map (λt=>(QM.encI t.1,t.2)))(w:i9 es aL)
 {bE:List MapEntry} (bO:∀e∈bE,e∈es.toList) (C:(bE.map (·.born)).Nodup) (D:∀e∈es.toList,e.born∈(bE.map (·.born)).toArray):q0 f n (bE.map nW):=by have d:=(all_keys w bO C λe he=>by simpa using D e he).map nW;rw[(EL u).2]at d;refine⟨d.nodup_iff.2 hm.bo,by rw[d.length_eq,VP,hm.n],λx=>?_⟩;rw[d.mem_iff,O2,hm.oH]
def AP(b9 gm c:Nat)(xs:List Int):ax:=fj λx:Option Addr×Nat=>pure' True (ah [aj c b9 [.slice x.1 xs.length x.2],aT gm 1 x.1 xs.length x.2 (ints xs)])
variable(jg:Nat)
theorem Om(aE n:Nat)(f:Int->Option Value)(au:n<=1000000):qZ Tryz.prog 384 [ae jg] (λx:Int=>[aa x]) (λO _=>O.length<=1000000) [aj jg 350 [.map (some aE)],bC QM.encI aE f n] (λy:List Int=>y) (q0 f n) (λ_=>[aj jg 350 [.map (some aE)],bC QM.encI aE f n]):=by
 refine qZ.intro aR Tryz.func384 rfl Tryz.ntmps384 kx rfl ?_;intro ar bJ P;apply J [12];refine VM (B:=ah [bJ [],aj jg 350 [.map (some aE)],Ad aE f n]) (aq (aq (eM 0 rfl (Pc aE f n) (a6 _)))) ?_;apply ab.open 2 rfl;rintro⟨m,es,aL⟩ ⟨hm,C,w⟩;apply J [12];dsimp only at hm C w⊢;apply J [24,82,0];refine A4 3 278 rfl rfl ?_;intro it;apply J [19,227];refine UZ (ι:=List MapEntry) (λbE=>(∀e∈bE,e∈es.toList)/\(bE.map (·.born)).Nodup) (λbE=>[(0,.func (.yield ar) #[] #[]),(5,ae it)]) (λbE=>ah [bJ (bE.map nW),obj it (.mapIter (some aE) aL ((bE.map (·.born)).toArray) aL),obj aE (.map es aL),aj jg 350 [.map (some aE)]]) (λbE=>es.toList.length-bE.length) [] ⟨(λ_ h=>(by cases h)),Va⟩ bu ai ?_;rintro bE ⟨D,E⟩ aH;dsimp only[ct]at D E⊢;apply J [26];refine AH 1 rfl rfl (lr (jb (jc _ _))) w (λQ=>?_) (λd he ag=>?_);apply J [19];have V:=Ok hm C w D E Q;apply J [298,25,74,363];exact⟨rfl,(bE.map nW),V,(bW (bp (eM 1 rfl (Pd hm C w) (a6 _))))⟩;apply J [19];have W:=(EL C).1 d he;have ag:d.born∉bE.map (·.born):=b2
 have N:((bE++[d]).map (·.born)).Nodup:=cr;have H:∀u∈bE++[d],u∈es.toList:=λu hu=>cr;have Z:=FK N (m:=es.toList.map (·.born)) (λx ao=>by obtain⟨u,hu,rfl⟩:=UE.1 ao;exact UE.2 ⟨u,H u hu,rfl⟩);simp only[VP,mp,UP,List.length_nil]at Z;have aC:es.toList.length=n:=(by have:=congrArg List.length C;simp only[VP]at this;rw[this,hm.n]);have an:((bE.map (·.born)).toArray.push d.born)=(((bE++[d]).map (·.born)).toArray):=cF
 apply J [298,25,15,4,76,24];refine q rfl rfl (y4 d rfl (lr (lr (jb (jc _ _)))) he w) ?_;rw[W];apply J [95,27,135,28];refine BR 1 (P (bE.map nW) (nW d) _ (by simp only[VP];omega)) rfl rfl rfl ?_;rintro aA ax ⟨rfl,rfl⟩;apply J [19,89,116,23];exact⟨rfl,(bE++[d]),⟨H,N⟩,ug,bu,(ca 0 rfl (by rw[Vy];rfl) (ca 0 rfl (by rw[an]) (aq (aq (a6 _)))))⟩
variable(aE:Nat)
theorem On:bI 370 [.map (some aE)] be [] (λjg:Nat=>.func (.func 384) #[] #[ae jg]) (λ_=>True) (λjg=>[aj jg 350 [.map (some aE)]]):=by apply aH Tryz.func370 Tryz.ntmps370;intro F _;apply J [197];refine eV (v:=.map _) (l:=[.map _]) rfl rfl ?_;intro ba;apply J [149,59,417,149,233];exact bn ba trivial ai
theorem JJ(aE n:Nat)(f:Int->Option Value)(au:n<=1000000):bI 198 [.slice none 0 0,.func (.func 384) #[] #[ae jg]] be [aj jg 350 [.map (some aE)],bC QM.encI aE f n] (λy:(Option Addr×Nat)×List Int=>.slice y.1.1 y.2.length y.1.2) (λy=>q0 f n y.2) (λy=>[aT 3 1 y.1.1 y.2.length y.1.2 (ints y.2),bC QM.encI aE f n]):=by refine fw.Es (rs:=[.tmp 4]) aR Tryz.func198 rfl Tryz.ntmps198 kx rfl ?_;intro F _;apply J [12,26];refine eV (v:=.slice _ _ _) (l:=[.slice _ _ _]) rfl rfl ?_;intro bw;apply J [123,135,227];refine VM (B:=ah [aj jg 350 [.map (some aE)],bC QM.encI aE f n,AP 90 3 bw [],F]) ((dH 3 1 _).trans (bp (bp (ay (⟨none,0⟩:Option Addr×Nat) trivial ai)))) ?_;refine ab.GC (λd=>[AP 90 3 bw d]) (Om jg aE n f au) rfl (dY 0 rfl (dY 0 rfl (eA _))) (dY 0 rfl (eA _)) (λ_=>rfl) rfl ?_ ?_;rintro V d x N Q;apply J [1,164,27];refine⟨rfl,(U5 _),λO=>?_⟩;refine J [1,297] ?_;rintro⟨u,w⟩-;apply J [12];have P:=eb d;refine J [76,164,82,63] ?_;intro b4;refine e rfl ?_;refine ap 8 rfl rfl rfl rfl rfl (UC rfl) (show _=ints [x]from rfl) rfl U gp ?_;intro u w;apply J [281];refine aO.nil (jF ?_);refine⟨rfl,rfl,?_⟩;change aF (ah [_,_,_,_]) (ah [_,_]);exact(ay ⟨u,w⟩ trivial (ca 0 rfl (by simp[dJ,Value.cells]) (ca 0 rfl (by simp[ints]) (bW (a6 _)))));intro D y H;refine(jF (h5 ?_));refine J [84,462] ?_;rintro⟨C,E⟩-;apply J [156,24,82,101];exact .inl ⟨⟨(C,E),y⟩,[_],D,rfl,rfl,⟨rfl,trivial⟩,rfl,H,(eU (bW (bp (bp (a6 _)))))⟩
theorem KT(aE n:Nat)(f:Int->Option Value)(au:n<=1000000):bI 147 [.func (.func 384) #[] #[ae jg]] be [aj jg 350 [.map (some aE)],bC QM.encI aE f n] (λy:(Option Addr×Nat)×List Int=>.slice y.1.1 y.2.length y.1.2) (λy=>q0 f n y.2) (λy=>[aT 3 1 y.1.1 y.2.length y.1.2 (ints y.2),bC QM.encI aE f n]):=by apply aH Tryz.func147 Tryz.ntmps147;intro F _;apply J [12,44,59,288,0];apply a7 (JJ jg aE n f au);intro y d;apply J [8,101];exact bn y d ai
theorem R8{y z:List Int}(d:y.Perm z):fB y=fB z:=
 List.Perm.eq_of_pairwise (le:=λa c=>a<=c) (λa c _ _ u w=>by omega) (Hf y) (Hf z) ((sZ y).trans (d.trans (sZ z).symm))
theorem Ol{A:Int->Nat}{ids y:List Int}(au:ids.Nodup)(h:q0 (ed A ids) ids.length y):fB y=fB ids:=by refine R8 ((List.perm_ext_iff_of_nodup h.1 au).2 λx=>?_);rw[h.2.2,ed];simp_all
def kc(g:Int):eg->Bool:=λo=>decide (o.gt=g)
def h2(s:cI)(g:Int)(D:List Int):List Int:=D.flatMap λx=>jB (s.row x) (kc g)
def gq(s:cI)(g:Int)(D:List Int):cI:={s with row:=λx=>if x∈D then(s.row x).filter (jp (kc g))else s.row x}
def gw(s:cI)(g:Int):cI×List Int:=(eX (gq s g (fB s.ids)) (h2 s g (fB s.ids)),h2 s g (fB s.ids))
variable(s:cI)
theorem GW(g:Int):gq s g []=s:=by simp[gq]
variable{g:Int}
theorem Rh{s:cI}{D:List Int}(au:D.Nodup){k:Nat}(C:D[k]? =some x):eW (gq s g (D.take k)) x (kc g)=gq s g (D.take (k+1))/\(gq s g (D.take k)).row x=s.row x:=by
 have hm:x∉D.take k:=λw=>(by grind[Vo,VJ]);have u:∀y,y∈D.take (k+1)↔y∈D.take k\/y=x:=by grind[UF]
 refine⟨?_,al hm⟩;simp only[eW,cA,gq,cI.mk.injEq,true_and];funext y;by_cases d:y=x;subst d;rw[ci,al hm,aw ((u y).2 (.inr rfl))];rw[bM d];simp_all
theorem MV{s:cI}{D:List Int}{k:Nat}(d:D[k]? =some x):h2 s g (D.take (k+1))=h2 s g (D.take k)++jB (s.row x) (kc g):=by grind[h2,UF]
theorem zr{s:cI}{g:Int}:∀{D:List Int},(∀x∈D,(s.row x).length<=1000)->(h2 s g D).length<=1000*D.length
 | [],_=>Uv _
 | x::D,h=>by
  have u:=zr (g:=g) (D:=D) λy d=>h y (by simp[d]);have w:=h x cF;have C:=zt (s.row x) (kc g);have e:h2 s g (x::D)=jB (s.row x) (kc g)++h2 s g D:=by rw[h2,h2,UN]
  rw[e,mp,UP];omega
theorem wd{s:cI}{D:List Int}{y:Int}:y∈h2 s g D↔∃x∈D,∃o∈s.row x,o.gt=g/\o.aX=y:=by rw[h2,List.mem_flatMap];constructor;rintro⟨x,u,E⟩;obtain⟨o,d,rfl⟩:=UE.1 E;grind[kc];rintro⟨x,u,o,d,w,C⟩;exact⟨x,u,UE.2 ⟨o,UO.2 ⟨d,by simpa[kc]using w⟩,C⟩⟩
theorem rM{y:List Int}:x∈fB y↔x∈y:=(sZ y).mem_iff
theorem dr.one{s:cI}(h:dr s){y:Int}(w:x∈s.ids)(H:y∈s.ids){o u:eg}(d:o∈s.row x)(hu:u∈s.row y)(e:o.aX=u.aX):x=y/\o=u:=by
 have O:=(h.row x w o d).2.2.2;have P:=(h.row y H u hu).2.2.2;have E:x=y:=b2
 subst E;refine⟨rfl,?_⟩;obtain⟨i,C⟩:=Vo d;obtain⟨j,D⟩:=Vo hu;obtain⟨N,ba⟩:=Uz.1 C;obtain⟨a2,bw⟩:=Uz.1 D;have Q:=VJ.1 (h.jq x w);grind
theorem tU{s:cI}(h:dr s){y:Int}(w:y∈h2 s g (fB s.ids)):y∈s.ids/\s.st y=1:=by obtain⟨x,u,o,d,_,rfl⟩:=wd.1 w;have:=h.row x (rM.1 u) o d;simp_all
theorem dr.close{s:cI}(h:dr s)(g:Int):dr (gw s g).1:=by refine(h.un (h2 s g (fB s.ids)) λy w=>tU h w).ext rfl λx d=>⟨rfl,rfl,rfl,?_⟩;have d:x∈s.ids:=d;dsimp only[gw,eX,gq,iF];rw[aw (rM.2 d)];refine List.filter_congr λo D=>?_;rw[jp,kc,Bool.eq_iff_iff];simp only[Bool.not_eq_true',decide_eq_false_iff_not,decide_eq_true_eq,wd];constructor;rintro E ⟨y,w,u,hu,H,C⟩;have:=h.one d (rM.1 w) D hu C.symm;simp_all;grind[rM]
theorem Py(ad:Option Addr)(cap:Nat)(xs:List Int)(d:xs.length<=1000000):br 148 [.slice ad xs.length cap] be [aT 3 1 ad xs.length cap (ints xs)] (.tuple #[]) [aT 3 1 ad xs.length cap (ints (fB xs))]:=
 R9 OM aR 3 ad cap xs d
theorem Sa(aE n:Nat)(f:Int->Option Value)(au:n<=1000000):bI 98 [.func (.func 384) #[] #[ae jg]] be [aj jg 350 [.map (some aE)],bC QM.encI aE f n] (λy:(Option Addr×Nat)×List Int=>.slice y.1.1 (fB y.2).length y.1.2) (λy=>q0 f n y.2) (λy=>[aT 3 1 y.1.1 (fB y.2).length y.1.2 (ints (fB y.2)),bC QM.encI aE f n]):=by apply aH Tryz.func98 Tryz.ntmps98;intro F _;apply J [12,44,59,288,0];apply a7 (KT jg aE n f au);intro y d;apply J [8,21,221];have u:=d.2.1;refine e rfl ?_;apply ao (Py y.1.1 y.1.2 y.2 U);apply J [8,221,101];exact b8.i y [_] ⟨rfl,trivial⟩ (by rw[rL];rfl) d (ca 0 rfl (by rw[rL]) ai)
theorem Pg(gt:Int)(o:eg):br 371 [.agg (e2 o).toArray,ae b] (λF=>Rd F b (.cells #[aa gt] 3 (0,0))) [] (.bool (kc gt o)) []:=by apply aH Tryz.func371 Tryz.ntmps371;intro F d;apply J [9];haveI:fP F b (.cells #[aa gt] 3 (0,0)):=⟨d⟩;refine J [26,425] ?_;intro ba;apply J [47,264,82,262,65];exact dp
theorem Ph(s:cI)(av:dr s)(gt:Int)(bm:s.ids.length<=1000):bI 344 [ae b,aa gt] be [gT b A s] (λy:Option Addr×Nat=>.slice y.1 (gw s gt).2.length y.2) (λ_=>True) (λy=>[aT 3 1 y.1 (gw s gt).2.length y.2 (ints (gw s gt).2),gT b A (gw s gt).1]):=by
 apply aH Tryz.func344 Tryz.ntmps344;intro F _;refine J [1,26,448] ?_;intro bw;apply J [123];refine ab.open 1 rfl (λa9 a8=>?_);obtain⟨ad,cap,aE⟩:=a9;have bq:=a8;apply J [156];dsimp only at bq⊢;apply J [164,123,106,121,39,0];apply a7 (On aE);intro jg _;apply J [17,0];apply a7 (Sa jg aE s.ids.length (ed A s.ids) U);intro y E;apply J [17];rw[Ol bq E];have a2:(fB s.ids).length=s.ids.length:=rL _;have V:(fB s.ids).Nodup:=by grind[sZ]
 have Q:∀x,x∈fB s.ids↔x∈s.ids:=by grind[rM]
 have C:∀x∈fB s.ids,(s.row x).length<=1000:=by grind[uD]
 have H:=λx w=>tU av (g:=gt) (y:=x) w;have W:gw s gt=(eX (gq s gt (fB s.ids)) (h2 s gt (fB s.ids)),h2 s gt (fB s.ids)):=rfl;rw[W];dsimp only;generalize fB s.ids=D at a2 V Q C H⊢;obtain⟨⟨O,P⟩,bD⟩:=y;dsimp only;have bd:=eb D;clear W E;apply J [174];refine UZ (ι:=Nat×(Int->Option Addr)×(Int->Nat)×(Option Addr×Nat)) (λu=>u.1<=D.length) (λu=>[(0,ae b),(3,ae bw),(5,.slice u.2.2.2.1 (h2 s gt (D.take u.1)).length u.2.2.2.2),(17,.slice O D.length P),(18,aa D.length),(19,aa ((u.1:Nat):Int))]) (λu=>ah [aT 3 1 u.2.2.2.1 (h2 s gt (D.take u.1)).length u.2.2.2.2 (ints (h2 s gt (D.take u.1))),b7 (dE A u.2.1 u.2.2.1 (gq s gt (D.take u.1))) s.ids,b7 (e0 u.2.1 u.2.2.1 (gq s gt (D.take u.1))) s.ids,aT 3 1 O D.length P (ints D),aj b 352 [.map (some aE)],bC QM.encI aE (ed A s.ids) s.ids.length,aj bw 3 [aa gt],F]) (λu=>D.length-u.1) ⟨0,ad,cap,(none,0)⟩ (Uv _) bu ((dH 3 1 _).trans (aq (ca 3 rfl (by dsimp only;rw[VZ,GW]) (ca 3 rfl (by dsimp only;rw[VZ,GW]) ai)))) ?_;rintro⟨k,ad,cap,⟨hS,fo⟩⟩ N bE;dsimp only[ct]at N⊢;apply J [40];apply Ur rfl<;>intro bo;have an:k<D.length:=U
 obtain⟨x,w⟩:∃x,D[k]? =some x:=⟨D[k],Uo an⟩;have aK:=Us w;have aC:=(Q x).1 aK;have a5:0<(ints D).length:=U
 obtain⟨a3,ar⟩:=Rh (s:=s) (g:=gt) V w;have ag:=MV (s:=s) (g:=gt) w;have Z:=zr (s:=s) (g:=gt) (D:=D.take k) (λy E=>C y (List.mem_of_mem_take E));have br:(D.take k).length<=k:=b2
 have bx:=C x aK;have bh:=zt (s.row x) (kc gt);have bk:=eb (h2 s gt (D.take k));have bl:=eb (jB (s.row x) (kc gt));refine J [187] ?_;refine q rfl rfl (dv rfl rfl (hN w)) ?_;apply J [27,114,157,53,2,365];rw[j2 aC];apply J [80,81,417,0];apply eQ (Am A ad cap (gq s gt (D.take k)) s.ids x aC bq 371 [ae bw] (kc gt) (λF=>Rd F bw (.cells #[aa gt] 3 (0,0))) (Pg bw gt) (λaQ _ h=>yd h aQ) (by rw[ar];omega)) fP.rd;intro y _;apply J [72];rw[a3,ar];refine J [0,604] ?_;intro aX a0;refine J [21,60] ?_;exact⟨rfl,⟨k+1,aP ad x y.2.1,aP cap x y.2.2,(aX,a0)⟩,cH,cH,⟨rfl,rfl,congrArg (λn=>Value.slice _ n _) (by dsimp only;rw[ag,mp]),rfl,rfl,rfl,trivial⟩,(ca 0 rfl (by dsimp only;rw[ag,mp,pv]) ai)⟩;obtain rfl:k=D.length:=U
 rw[U9];have Z:=zr (s:=s) (g:=gt) C;generalize cE:h2 s gt D=d at H Z⊢;have bb:=eb d;apply J [22,7,35,174];refine UZ (ι:=Nat) (λk=>k<=d.length) (λk=>[(0,ae b),(5,.slice hS d.length fo),(36,.slice hS d.length fo),(37,aa d.length),(38,aa ((k:Nat):Int))]) (λk=>ah [aT 3 1 hS d.length fo (ints d),b7 (dE A ad cap (eX (gq s gt D) (d.take k))) s.ids,b7 (e0 ad cap (eX (gq s gt D) (d.take k))) s.ids,aj b 352 [.map (some aE)],bC QM.encI aE (ed A s.ids) s.ids.length,F]) (λk=>d.length-k) 0 (Uv _) bu (aq (ca 0 rfl sI (ca 0 rfl sI ai))) ?_;rintro k N bO;dsimp only[ct]at N⊢;apply J [40];apply Ur rfl<;>intro an;have a4:k<d.length:=U
 obtain⟨x,w⟩:∃x,d[k]? =some x:=⟨_,Uo a4⟩;have a5:0<(ints d).length:=U
 obtain⟨ax,_⟩:=H x (Us w);have au:bZ (eX (gq s gt D) (d.take k)) x=(eX (gq s gt D) (d.take (k+1))):=by rw[<-rh,<-rh,UF,w,XM,Xe];rfl
 refine J [187] ?_;refine q rfl rfl (dv rfl rfl (hN w)) ?_;apply J [27,36,53,2,365];rw[j2 ax];refine e rfl ?_;apply ao (mP A ad cap (eX (gq s gt D) (d.take k)) s.ids x ax bq);apply J [13];rw[au];refine J [60] ?_;exact⟨rfl,(k+1),U,U,bu,(bW (aq (ca 0 rfl (by rw[<-au];rfl) ai)))⟩;obtain rfl:k=d.length:=by omega
 rw[U9];apply J [204,101];exact bn ⟨hS,fo⟩ trivial (aq (ay (⟨ad,cap,aE⟩:kK) bq ai))
open ir (cZ ji gF hA hU iC jh ml ue ids)
open Rd (ep hY gu fO hq dB i5 ke h6)
structure o6 where
  fD:Int
  cp:Int
deriving DecidableEq
def HC(t:o6):List Value:=[.int .i64 t.fD,.int .i64 t.cp]
theorem xH(t:o6):(HC t).length=2:=rfl
def hp(L:List o6):List Value:=L.flatMap HC
theorem Bw(L:List o6):(hp L).length=L.length*2:=kp xH L
theorem SA(S T:List o6):hp S++hp T=hp (S++T):=by simp[hp]
structure b9 where
  S:List Rd.cO
  now:Int
  cm:Int
  A:List cZ
  m:cI
  pr:Int->Int
  cd:Int->Int
  on:Int->Bool
  told:List o6
def t0:b9:=⟨[],0,0,[],en,λ_=>0,λ_=>0,λ_=>false,[]⟩
def eS(T:b9)(id:Int):Int:=if id∈T.m.ids then(if T.on id=true then T.m.st id else 4)else -1
def k7(why:Int)(T:b9)(id:Int):b9:={T with S:=(gu T.S id (T.pr id) (T.cd id)).1,A:=hA T.A [id],told:=T.told++[⟨id,why⟩]}
def dn(T:b9)(why:Int)(l:List Int):b9:=l.foldl (k7 why) T
def cV(T:b9)(m:cI):b9:={T with m:=m}
def lz(T:b9)(id k8:Int):b9:=
  if 0<k8 then{T with S:=Rd.gx T.S [id],cm:=(hU T.A T.now T.cm id k8).2.1,A:=(hU T.A T.now T.cm id k8).1}else{T with S:=Rd.gx T.S [id]}
def l3(k8:Int):Prop:=k8<0\/1048576<k8
instance (t:Int):Decidable (l3 t):=inferInstanceAs (Decidable (_\/_))
def kj(T:b9)(id:Int):b9:=if id∈T.m.ids\/id<0 then T else{T with m:=fy T.m id,pr:=aP T.pr id 0,cd:=aP T.cd id 0,on:=aP T.on id false}
def hK(T:b9)(l:List Int):b9:=l.foldl kj T
def hG(T:b9)(id p s:Int):b9×Int:=
  if id∉T.m.ids then(T,6)else if p<0\/7<p\/s<1\/16<s then(T,1)else if T.on id=true then(T,12)else
  ({T with S:=(gu T.S id p s).1,pr:=aP T.pr id p,cd:=aP T.cd id s,on:=aP T.on id true},(gu T.S id p s).2)
def lV(T:b9)(id:Int):b9×Int:=
  if id∉T.m.ids then(T,6)else if T.on id≠true then(T,12)else
  ({T with S:=Rd.gx T.S [id],A:=hA T.A [id],m:=(dO T.m id).1,on:=aP T.on id false},0)
def mg(T:b9)(id:Int):b9:={T with S:=Rd.gx T.S [id],A:=hA T.A [id],m:=(eZ T.m id).1}
def iD(T:b9)(id:Int):b9×Int:=
  if id∉T.m.ids then(T,6)else(dn (mg T id) 13 (eZ T.m id).2.1,0)
def h7(T:b9)(aX to gt:Int)(aL:Bool)(k8:Int):b9×Int:=
  if aX∉T.m.ids\/to∉T.m.ids then(T,6)else if aX=to\/l3 k8 then(T,1)else if eS T aX≠0 then(T,12)else
  (lz (cV T (eF T.m to ⟨aX,gt,aL⟩).1) aX k8,0)
def jX(T:b9)(id k8:Int):b9×Int:=
  if id∉T.m.ids then(T,6)else if l3 k8 then(T,1)else if eS T id≠0 then(T,12)else
  if(hT T.m id).2≠0 then(T,(hT T.m id).2)else(lz (cV T (hT T.m id).1) id k8,0)
def gE(T:b9)(o:eg)(el s id:Int):b9:=
  let Co:=if o.aL=true then T else dn T 0 [o.aX]
  let gO:=if el=-1 then Co else dn Co 13 [el]
  if s=2 then dn gO 0 [id]else gO
def iZ(T:b9)(id:Int):b9×eg×Int:=
  if id∉T.m.ids then(T,dw,6)else if eS T id≠0/\eS T id≠2 then(T,dw,12)else
  if(dm T.m id).2.2.2≠0 then(T,dw,(dm T.m id).2.2.2)else
  (gE (cV T (dm T.m id).1) (dm T.m id).2.1 (dm T.m id).2.2.1 (eS T id) id,(dm T.m id).2.1,0)
def ka(T:b9)(id why:Int):b9×eg×Int:=
  if id∉T.m.ids then(T,dw,6)else match T.m.row id with
  | []=>(T,dw,6)
  | o::_=>(dn (cV T (dO T.m o.aX).1) why [o.aX],o,0)
def kk(T:b9)(id:Int):b9×Int×Int:=
  if id∉T.m.ids then(T,0,6)else if eS T id≠0 then(T,0,12)else
  if(fx T.m id).2.2=0 then(dn (cV T (fx T.m id).1) 0 [(fx T.m id).2.1],(fx T.m id).2.1,0)else(T,(fx T.m id).2.1,(fx T.m id).2.2)
def iq(T:b9)(why id:Int):b9×Int:=
  if id∉T.m.ids then(T,6)else if eS T id=0\/eS T id=4 then(T,12)else(dn (cV T (dO T.m id).1) why [id],0)
def mG(T:b9)(g:Int):b9×Int:=(dn (cV T (gw T.m g).1) 13 (gw T.m g).2,(gw T.m g).2.length)
def kG(T:b9):b9:={T with S:=i5 T.S,now:=T.now+1,A:=ml (T.now+1) T.A}
def kd(T:b9)(l:List Int):b9:=l.foldl (λT id=>(iq T 14 id).1) T
def pQ(T:b9):b9:=kd (kG T) (ids (jh (T.now+1) T.A))
def rY(T:b9):b9:={T with S:=ke T.S}
def rP(T:b9):b9:={T with told:=[]}
structure cl(T:b9)(L:List Int):Prop where
  eK:dr T.m
  mm:fO T.S
  fz:∀t∈T.S,1<=t.left/\t.left<=t.whole
  dC:∀t∈T.S,t.prio=T.pr t.id/\t.whole=T.cd t.id
  k5:∀x,ep T.S x↔(x∈T.m.ids/\T.on x=true/\T.m.st x=0)/\x∉L
  nm:gF T.A
  gv:∀x,ji T.A x->x∈T.m.ids/\(T.m.st x≠0\/x∈L)
  off:∀x∈T.m.ids,T.m.st x≠0->T.on x=true
  ps:∀x∈T.m.ids,T.on x=true->(0<=T.pr x/\T.pr x<=7)/\1<=T.cd x/\T.cd x<=16
  nx:∀e∈T.A,T.now<e.at_/\e.at_<=T.now+1048576
  p5:∀x∈L,x∈T.m.ids/\T.on x=true/\T.m.st x=0
  tg:L.Nodup
variable{x:Int}
theorem Ec{S:List Rd.cO}{t:Rd.cO}:ep (S++[t]) x↔ep S x\/t.id=x:=by simp[ep,or_and_right,exists_or]
theorem yQ{A:List cZ}{l:List Int}:ji (hA A l) x↔ji A x/\x∉l:=by rw[ir.C3];constructor;rintro⟨e,he,rfl⟩;obtain⟨d,u⟩:=UO.1 he;exact⟨⟨e,d,rfl⟩,by simpa using u⟩;rintro⟨⟨e,he,rfl⟩,h⟩;exact⟨e,UO.2 ⟨he,by simpa using h⟩,rfl⟩
theorem yR{A:List cZ}{l:List Int}{e:cZ}(h:e∈hA A l):e∈A:=by rw[ir.C3]at h;exact(UO.1 h).1
theorem yP{A:List cZ}(h:gF A)(l:List Int):gF (hA A l):=h.sublist ((ir.vF A l).map _)
theorem y0{S:List Rd.cO}{l:List Int}:ep (Rd.gx S l) x↔ep S x/\x∉l:=by rw[Rd.LA];constructor;rintro⟨e,he,rfl⟩;obtain⟨d,u⟩:=UO.1 he;exact⟨⟨e,d,rfl⟩,by simpa using u⟩;rintro⟨⟨e,he,rfl⟩,h⟩;exact⟨e,UO.2 ⟨he,by simpa using h⟩,rfl⟩
theorem Cs{S:List Rd.cO}{id p s:Int}(d:0<=id)(u:0<=p/\p<=7)(hs:1<=s/\s<=16)(au:¬ep S id):gu S id p s=(S++[⟨id,p,s,s⟩],0):=by rw[gu,al U,al au]
theorem cl.Jw{T:b9}{L:List Int}(h:cl T (x::L)):gu T.S x (T.pr x) (T.cd x)=(T.S++[⟨x,T.pr x,T.cd x,T.cd x⟩],0):=by obtain⟨d,w,D⟩:=h.p5 x cF;have u:=h.ps x d w;exact Cs (h.eK.ge x d) u.1 u.2 (λC=>((h.k5 x).1 C).2 cF)
theorem cl.mo{T:b9}{L:List Int}(h:cl T (x::L))(why:Int):cl (k7 why T x) L:=by
 obtain⟨C,D,O⟩:=h.p5 x cF;have P:=h.ps x C D;have N:=h.eK.ge x C;have H:¬ep T.S x:=λu=>((h.k5 x).1 u).2 cF;have E:=UI.1 h.tg;have e:k7 why T x={T with S:=T.S++[⟨x,T.pr x,T.cd x,T.cd x⟩],A:=hA T.A [x],told:=T.told++[⟨x,why⟩]}:=by rw[k7,h.Jw]
 rw[e];refine⟨h.eK,h.mm.add (t:=⟨x,T.pr x,T.cd x,T.cd x⟩) H cH,λt d=>?_,λt d=>?_,λy=>?_,yP h.nm _,λy w=>?_,h.off,h.ps,λe he=>h.nx e (yR he),λy w=>h.p5 y (by simp[w]),E.2⟩;rcases Uq.1 d with d|d;exact h.fz t d;simp_all;rcases Uq.1 d with d|d;exact h.dC t d;simp_all;dsimp only;rw[Ec,h.k5];grind;obtain⟨u,Q⟩:=yQ.1 w;obtain⟨V,W⟩:=h.gv y u;simp_all
theorem cl.pP:∀{L M:List Int} {T:b9} (why:Int),cl T (L++M)->cl (dn T why L) M
 | [],_,_,_,h=>h
 | x::L,M,T,why,h=>cl.pP (L:=L) (M:=M) why (cl.mo (L:=L++M) h why)
theorem Bv(why:Int):∀(l:List Int) (T:b9),(dn T why l).m=T.m/\(dn T why l).now=T.now/\(dn T why l).cm=T.cm/\(dn T why l).pr=T.pr/\(dn T why l).cd=T.cd/\(dn T why l).on=T.on/\(dn T why l).told.length=T.told.length+l.length
 | [],_=>⟨rfl,rfl,rfl,rfl,rfl,rfl,rfl⟩
 | x::l,T=>by obtain⟨d,u,w,C,D,E,H⟩:=Bv why l (k7 why T x);refine⟨d,u,w,C,D,E,?_⟩;rw[show dn T why (x::l)=dn (k7 why T x) why l from rfl,H];simp[k7];omega
theorem cl.meet{T:b9}(h:cl T []){m:cI}(av:dr m)(w:m.ids=T.m.ids)(M:List Int)(bG:∀x∈M,x∈T.m.ids/\T.m.st x≠0/\m.st x=0)(au:∀x∈T.m.ids,x∉M->(m.st x=0↔T.m.st x=0))(O:M.Nodup):cl (cV T m) M:=by
 refine⟨av,h.mm,h.fz,h.dC,λx=>?_,h.nm,λx d=>?_,λx d H=>?_,λx d=>h.ps x (w▸d),h.nx,λx d=>?_,O⟩;show ep T.S x↔(x∈m.ids/\T.on x=true/\m.st x=0)/\x∉M;rw[h.k5,w];grind;obtain⟨u,C⟩:=h.gv x d;refine⟨w▸u,?_⟩;by_cases D:x∈M;simp_all;exact .inl λE=>(C.resolve_right Uy) ((au x u D).1 E);have d:x∈T.m.ids:=w▸d;have H:m.st x≠0:=H;have D:x∉M:=cr
 exact h.off x d λE=>H ((au x d D).2 E);obtain⟨u,C,N⟩:=bG x d;exact⟨w▸u,h.off x u C,N⟩
end Go.Proofs.YtglgidjhoncphaaGreatDoor
namespace Go.Proofs.YtglgidjhoncphaaGreatDoor
open Go Go.QM
open ir (cZ ji gF hA hU iC jh ml ue ids)
open Rd (ep hY gu fO hq dB i5 ke h6)
structure jd where
  q:Nat
  a:Nat
  p:Nat
  aU:Nat
  B:Int->Nat
  M:Int->Nat
  ad:Option Addr
  cap:Nat
abbrev ld(B:Int->Nat)(T:b9)(x:Int):ax:=aj (B x) 215 [.int .i64 (T.pr x),.int .i64 (T.cd x),.bool (T.on x)]
def c9(b:Nat)(T:b9):ax:=fj λy:jd=>pure' T.m.ids.Nodup (ah [aj b 201 [ae y.q,ae y.a,ae y.p,.map (some y.aU),.slice y.ad T.told.length y.cap],Rd.eI y.q T.S,ir.nV y.a T.now T.cm T.A,gT y.p y.M T.m,bC QM.encI y.aU (ed y.B T.m.ids) T.m.ids.length,b7 (ld y.B T) T.m.ids,aT 71 2 y.ad T.told.length y.cap (hp T.told)])
theorem xU{B:Int->Nat}{T:b9}{L:List Int}{x:Int}(h:x∈L):fP (b7 (ld B T) L) (B x) (.cells (List.toArray [aa (T.pr x),aa (T.cd x),.bool (T.on x)]) 215 (0,0)):=⟨sb h (mY _ _ _)⟩
variable(T:b9)(why:Int)
theorem Sx(l:List Int){k:Nat}{x:Int}(h:l[k]? =some x):dn T why (l.take (k+1))=k7 why (dn T why (l.take k)) x:=by grind[UF,dn]
theorem Jz(S:List Rd.cO)(id p s:Int):(gu S id p s).1.length<=S.length+1:=by rw[gu];split;all_goals grind
theorem Bu(why:Int):∀(l:List Int) (T:b9),(dn T why l).S.length<=T.S.length+l.length/\(dn T why l).A.length<=T.A.length
 | [],_=>⟨Uw _,Uw _⟩
 | x::l,T=>by obtain⟨w,C⟩:=Bu why l (k7 why T x);have D:=Jz T.S x (T.pr x) (T.cd x);have E:(hA T.A [x]).length<=T.A.length:=(ir.vF _ _).length_le;have e:dn T why (x::l)=dn (k7 why T x) why l:=rfl;have d:(k7 why T x).S=(gu T.S x (T.pr x) (T.cd x)).1:=rfl;have u:(k7 why T x).A=hA T.A [x]:=rfl;rw[d]at w;rw[u]at C;rw[e,UP];omega
structure fk(T:b9):Prop where
  ids:T.m.ids.length<=1000
  now:0<=T.now/\T.now<=1000000000
  cm:0<=T.cm/\T.cm<=1000000000
  told:T.told.length<=100000000
theorem Nq{S:List Rd.cO}(au:hY S){L:List Int}(h:∀x,ep S x->x∈L):S.length<=L.length:=by have:=qC au (m:=L) λx u=>(by obtain⟨t,d,rfl⟩:=UE.1 u;exact h _ ⟨t,d,rfl⟩);simp_all
theorem Nr{S:List cZ}(au:gF S){L:List Int}(h:∀x,ji S x->x∈L):S.length<=L.length:=by have:=qC au (m:=L) λx u=>(by obtain⟨t,d,rfl⟩:=UE.1 u;exact h _ ⟨t,d,rfl⟩);simp_all
theorem cl.E9{T:b9}{L:List Int}(h:cl T L):T.S.length<=T.m.ids.length:=Nq h.mm.bo λx d=>((h.k5 x).1 d).1.1
theorem cl.zZ{T:b9}{L:List Int}(h:cl T L):T.A.length<=T.m.ids.length:=Nr h.nm λx d=>(h.gv x d).1
theorem cl.z1{T:b9}{L:List Int}(h:cl T L):L.length<=T.m.ids.length:=qC h.tg λx d=>(h.p5 x d).1
theorem Cw{T:b9}(d:fk T)(C:T.A.length<=500000):(0<=T.now/\T.now<=1000000000000)/\(0<=T.cm/\T.cm<=1000000000000)/\T.A.length<=500000:=by have u:=d.now;have w:=d.cm;omega
theorem Jy(x:Int):(kj T x).m=fy T.m x:=by rw[kj];split;rename_i h;rw[fy,aw h];trivial
theorem Jx(l:List Int){k:Nat}{x:Int}(h:l[k]? =some x):hK T (l.take (k+1))=kj (hK T (l.take k)) x:=by grind[UF,hK]
theorem Cr(l:List Int):∀T:b9,T.m.ids.length<=(hK T l).m.ids.length/\(hK T l).m.ids.length<=T.m.ids.length+l.length:=by induction l with|nil=>exact λT=>⟨Uw _,Uw _⟩|cons x l u=>intro T;have w:=ER T.m x;have d:=u (kj T x);rw[Jy]at d;rw[show hK T (x::l)=hK (kj T x) l from rfl,UP];omega
variable(b:Nat)
theorem xF(aU n:Nat)(B:Int->Nat)(ids:List Int)(id:Int)(h:id∈ids)(d u c2 w:Value):br 114 [ae b,aa id] be [aj b 201 [d,u,c2,.map (some aU),w],bC QM.encI aU (ed B ids) n] (.tuple #[.pointer (some ⟨(B id),0,none⟩),aa 0]) [aj b 201 [d,u,c2,.map (some aU),w],bC QM.encI aU (ed B ids) n]:=by apply aH Tryz.func114 Tryz.ntmps114;intro F _;apply J [12,24,149,149,25,135,154,100,135,80,220,288,453];rw[j2 h];apply J [55,41,37,159,30];exact s8
theorem xE(aU n:Nat)(B:Int->Nat)(ids:List Int)(id:Int)(h:id∉ids)(d u c2 w:Value):br 114 [ae b,aa id] be [aj b 201 [d,u,c2,.map (some aU),w],bC QM.encI aU (ed B ids) n] (.tuple #[.pointer none,aa 6]) [aj b 201 [d,u,c2,.map (some aU),w],bC QM.encI aU (ed B ids) n]:=by apply aH Tryz.func114 Tryz.ntmps114;intro F _;apply J [12,24,149,149,25,135,154,100,135,80,220,288,453];rw[tN h];apply J [55,106,122,340,127];exact s8
theorem SJ:bI 135 [] be [] (λb:Nat=>ae b) (λ_=>True) (λb=>[c9 b t0]):=by
 apply aH Tryz.func135 Tryz.ntmps135;intro F _;apply J [9,272,26];apply a7 Rd.Q3;intro bF _;apply J [6,0];apply a7 ir.pC;intro a _;apply J [8,0];refine aL (Ps (λ_=>0)) rfl (eA _) trivial ?_;intro af _;refine J [19,0,333] ?_;intro ba;refine q rfl rfl (eh (cs:=[.pointer _,.pointer _,.pointer _,.map _,.slice _ _ _]) rfl) ?_;refine e rfl ?_;refine eV (v:=.agg #[_,_,_,_,_]) (l:=[.pointer _,.pointer _,.pointer _,.map _,.slice _ _ _]) rfl rfl ?_;intro bw;apply J [109];have d:ed (λ_=>0) []=λ_=>none:=by trivial
 exact bn bw trivial ((dH 71 2 _).trans ((mZ (f:=ld (λ_=>0) t0) _).trans (ay (⟨bF,a,af,ba,λ_=>0,λ_=>0,none,0⟩:jd) Va (bp (eE (eU (cY (ca 2 rfl (by dsimp only[t0,en];rw[d];rfl) (aq (aq (aq (a6 _))))))))))))
theorem HM(t:Int):br 355 [aa t] be [] (.bool (decide (¬l3 t))) []:=by
 apply aH Tryz.func355 Tryz.ntmps355;intro F _;apply J [9,223,235];refine aO.split 5 rfl (λd=>?_) (λd=>?_);have d:=ds d;apply J [16,261,130];have u:decide (t<=1048576)=decide (¬l3 t):=decide_eq_decide.2 (by rw[l3];omega);exact b8.i () [_] ⟨rfl,trivial⟩ (by rw[<-u];rfl) trivial (aq (a6 _));have d:=dV d;apply J [49,70];have u:decide (¬l3 t)=false:=by grind[l3]
 exact b8.i () [_] ⟨rfl,trivial⟩ (by rw[u];rfl) trivial (aq (a6 _))
theorem uT(T:b9)(id:Int):br 66 [ae b,aa id] be [c9 b T] (aa (eS T id)) [c9 b T]:=by
 apply aH Tryz.func66 Tryz.ntmps66;intro F _;apply J [1];refine ab.open 0 rfl (λw u=>?_);obtain⟨bF,a,af,aU,B,M,ad,cap⟩:=w;have bq:=u;apply J [144];dsimp only at bq⊢;by_cases h:id∈T.m.ids;haveI:=xU (B:=B) (T:=T) (x:=id) h;apply J [96];apply ao (xF b aU T.m.ids.length B T.m.ids id h (ae bF) (ae a) (ae af) (.slice ad T.told.length cap));apply J [78,58,74,99,89,47];cases d:T.on id with|true=>?_|false=>?_
 have hv:eS T id=uM T.m id:=by rw[eS,aw h,uM,aw h,d];rfl
 rw[hv];apply J [74,23,99,28];apply ao (Pz af M T.m id);apply J [78,30];exact kf;have hv:eS T id=4:=by rw[eS,aw h,d];rfl
 rw[hv];apply J [15,45];exact kf;have hv:eS T id=-1:=al h;rw[hv];apply J [96];apply ao (xE b aU T.m.ids.length B T.m.ids id h (ae bF) (ae a) (ae af) (.slice ad T.told.length cap));apply J [78,58,15,45];exact kf
theorem So(T:b9)(w:Option Addr)(H:Nat)(xs:List Int)(a7:xs.length<=100000)(a8:T.m.ids.length<=100000):br 142 [ae b,.slice w xs.length H] (λF=>∃E,cM F E w (ints xs)) [c9 b T] (aa ((hK T xs).m.ids.length-T.m.ids.length:Int)) [c9 b (hK T xs)]:=by
 apply aH Tryz.func142 Tryz.ntmps142;intro F ⟨E,W⟩;apply J [1];haveI:bl F w E (ints xs):=⟨W⟩;have bd:=eb xs;apply J [102,38,35,174];refine UZ (ι:=Nat) (λk=>k<=xs.length) (λk=>[(0,ae b),(5,aa ((hK T (xs.take k)).m.ids.length-T.m.ids.length:Int)),(8,.slice w xs.length H),(9,aa xs.length),(10,aa ((k:Nat):Int))]) (λk=>ah [c9 b (hK T (xs.take k)),F]) (λk=>xs.length-k) 0 (Uv _) ⟨rfl,congrArg (VA .i64) (Int.sub_self _).symm,rfl,rfl,rfl,trivial⟩ (aq (aq (a6 _))) ?_;rintro k ax be;dsimp only[ct]at ax⊢;apply J [40];apply Ur rfl<;>intro a9;have aC:k<xs.length:=U
 obtain⟨x,O⟩:∃x,xs[k]? =some x:=⟨xs[k],Uo aC⟩;have bb:0<(ints xs).length:=U
 have d:=Jx T xs O;have au:=Cr (xs.take k) T;have a5:(xs.take k).length<=k:=b2
 generalize(hK T (xs.take k))=Z at d au⊢;have a2:Z.m.ids.length<=1000000:=U
 refine ab.open 0 rfl (λa3 aQ=>?_);obtain⟨bF,a,af,aU,B,M,ad,cap⟩:=a3;have bq:=aQ;apply J [144];dsimp only at bq⊢;refine J [187] ?_;refine q rfl rfl (dv rfl rfl (hN O)) ?_;refine J [27,37,254,18,138,228,282,148] ?_;intro b4;refine pj rfl rfl ?_;apply eQ (Pk af M Z.m (cL b4) _ [x] cF a2) ⟨_,bl.rd (ad:=some ⟨b4,0,none⟩)⟩;intro D _;apply J [72];rw[show ng Z.m [x]=fy Z.m x from rfl];by_cases h:x∈Z.m.ids\/x<0;have C:kj Z x=Z:=aw h;have N:fy Z.m x=Z.m:=aw h;rw[C]at d;rw[N,Int.sub_self];refine J [92,368,116,111] ?_;exact⟨rfl,(k+1),U,U,⟨rfl,congrArg (λz:b9=>VA .i64 ((z.m.ids.length:Int)-T.m.ids.length)) d.symm,rfl,rfl,rfl,trivial⟩,(by rw[d];exact(ay (⟨bF,a,af,aU,B,D,ad,cap⟩:jd) bq ai))⟩;have C:kj Z x={Z with m:=fy Z.m x,pr:=aP Z.pr x 0,cd:=aP Z.cd x 0,on:=aP Z.on x false}:=al h;have N:(fy Z.m x).ids=Z.m.ids++[x]:=by rw[fy,al h]
 have aX:x∉Z.m.ids:=b2
 rw[C]at d;have P:((fy Z.m x).ids.length:Int)-(Z.m.ids.length:Int)=1:=cr
 rw[P];have a4:=tN (A:=B) aX;have an:(fy Z.m x).ids.Nodup:=cr
 refine J [92,104,126,270,516,0,425] ?_;intro u;refine ey ?_;refine lK 3 211 rfl (dM.int rfl) rfl rfl rfl ?_;refine J [3,347,73,60] ?_;have aK:∀y∈Z.m.ids,y≠x:=cr
 have ao:(x::Z.m.ids).Perm (fy Z.m x).ids:=cr
 have ar:∀y∈Z.m.ids,ld B Z y=ld (aP B x u) {Z with m:=fy Z.m x,pr:=aP Z.pr x 0,cd:=aP Z.cd x 0,on:=aP Z.on x false} y:=λy a0=>(by have Q:=aK y a0;dsimp only[ld];simp only[bM Q]);have V:aj u 215 [aa 0,aa 0,.bool false]=ld (aP B x u) {Z with m:=fy Z.m x,pr:=aP Z.pr x 0,cd:=aP Z.cd x 0,on:=aP Z.on x false} x:=by dsimp only[ld];simp only[ci]
 have ag:bC QM.encI aU (fe (ed B Z.m.ids) x (ae u)) (if((ed B Z.m.ids) x).isSome then Z.m.ids.length else Z.m.ids.length+1)=bC QM.encI aU (ed (aP B x u) (fy Z.m x).ids) (fy Z.m x).ids.length:=(by grind[DG]);exact⟨rfl,(k+1),U,U,⟨rfl,congrArg (VA .i64) (by rw[d];show _=((fy Z.m x).ids.length:Int)-_;omega),rfl,rfl,rfl,trivial⟩,(by rw[d];exact(ay (⟨bF,a,af,aU,aP B x u,D,ad,cap⟩:jd) an (eU (eU (eU (bp (ca 0 rfl (ag) (cU 0 1 x rfl rfl V ar ao (bW (bW (a6 _)))))))))))⟩;obtain rfl:k=xs.length:=U
 rw[U9];apply J [22,132];exact hI
theorem Hw(T:b9)(E:fk T)(C:T.A.length<=500000)(D:T.S.length<=1000000)(id d:Int):br 357 [ae b,aa id,aa d] be [c9 b T] (.tuple #[]) [c9 b (lz T id d)]:=by apply aH Tryz.func357 Tryz.ntmps357;intro F _;apply J [1];refine ab.open 0 rfl (λN H=>?_);obtain⟨bF,a,af,aU,B,M,ad,cap⟩:=N;have bq:=H;apply J [144];dsimp only at bq⊢;refine J [39,63] ?_;intro u;refine e rfl ?_;apply eG (Rd.y1 bF T.S D (cL u) _ [id] cF) ⟨_,bl.rd (ad:=some ⟨u,0,none⟩)⟩;apply J [72,3,29,165,3];apply Ur rfl<;>intro w;have hv:lz T id d={T with S:=Rd.gx T.S [id],cm:=(hU T.A T.now T.cm id d).2.1,A:=(hU T.A T.now T.cm id d).1}:=aw w;rw[hv];apply J [117,57,195];apply ao (ir.RG a T.now T.cm T.A (Cw E C) id d);apply J [72,332];exact qd (ay (⟨bF,a,af,aU,B,M,ad,cap⟩:jd) bq ai);have hv:lz T id d={T with S:=Rd.gx T.S [id]}:=al w;rw[hv];refine ab.skip ?_;exact qd (ay (⟨bF,a,af,aU,B,M,ad,cap⟩:jd) bq ai)
theorem lW(T:b9)(u:fk T)(why:Int)(d:Option Addr)(ao:Nat)(l:List Int)(bh:∀x∈l,x∈T.m.ids)(bd:T.S.length+l.length<=1000000)(bb:T.A.length<=500000):br 280 [ae b,aa why,.slice d l.length ao] (λF=>∃E,cM F E d (ints l)) [c9 b T] (.tuple #[]) [c9 b (dn T why l)]:=by
 apply aH Tryz.func280 Tryz.ntmps280;intro F ⟨E,aK⟩;apply J [1];haveI:bl F d E (ints l):=⟨aK⟩;have bD:=eb l;apply J [35,174];refine UZ (ι:=Nat) (λk=>k<=l.length) (λk=>[(0,ae b),(1,aa why),(9,.slice d l.length ao),(10,aa l.length),(11,aa ((k:Nat):Int))]) (λk=>ah [c9 b (dn T why (l.take k)),F]) (λk=>l.length-k) 0 (Uv _) bu (aq (aq (a6 _))) ?_;rintro k aQ bE;dsimp only[ct]at aQ⊢;apply J [40];apply Ur rfl<;>intro bk;have a2:k<l.length:=U
 obtain⟨x,Q⟩:∃x,l[k]? =some x:=⟨l[k],Uo a2⟩;have bm:0<(ints l).length:=U
 have O:=Sx T why l Q;obtain⟨an,D,H,ar,au,ax,aC⟩:=Bv why (l.take k) T;have be:(l.take k).length<=k:=b2
 obtain⟨aX,a0⟩:=Bu why (l.take k) T;have w:x∈(dn T why (l.take k)).m.ids:=cr
 have N:=u.now;have P:=u.cm;have bx:=u.told;rw[<-D]at N;rw[<-H]at P;have a5:(dn T why (l.take k)).told.length<=200000000:=U
 have V:(dn T why (l.take k)).S.length<=1000000:=U
 have a4:(dn T why (l.take k)).A.length<=500000:=U
 clear an D H ar au ax aC aX a0;generalize(dn T why (l.take k))=Z at O w N P a5 V a4⊢;have bo:=Bw Z.told;refine ab.open 0 rfl (λa8 a3=>?_);obtain⟨bF,a,af,aU,B,M,ad,cap⟩:=a8;have bq:=a3;apply J [144];dsimp only at bq⊢;haveI:=xU (B:=B) (T:=Z) (x:=x) w;refine J [187] ?_;refine q rfl rfl (dv rfl rfl (hN Q)) ?_;apply J [27,126,270,453];rw[j2 w];refine J [159,3,64,63] ?_;intro C;refine e rfl ?_;apply eQ (ir.yL a Z.now Z.cm Z.A U (cL C) _ [x] cF) ⟨_,bl.rd (ad:=some ⟨C,0,none⟩)⟩;intro _ _;apply J [72];refine aO.bf (B:=ah [ir.nV a Z.now Z.cm (hA Z.A [x]),aj b 201 [ae bF,ae a,ae af,.map (some aU),.slice ad Z.told.length cap],Rd.eI bF Z.S,gT af M Z.m,bC QM.encI aU (ed B Z.m.ids) Z.m.ids.length,b7 (ld B Z) Z.m.ids,aT 71 2 ad Z.told.length cap (hp Z.told),F]) ai ?_;apply J [25];refine cx [0,1,2,3,4,5,6,7,8,9,10,11,12,-13] (bW (eU (a6 _))) ?_;apply J [51,14,51,136,11];apply a7 (Rd.vo bF Z.S V x (Z.pr x) (Z.cd x));intro _ _;refine J [290,108,36,173,215,120,247,0,293] ?_;intro a9;refine e rfl ?_;refine ap 16 rfl rfl rfl rfl rfl (UC rfl) (show _=hp [⟨x,why⟩]from rfl) rfl U gp ?_;intro W ag;refine J [80,410,281,60] ?_;exact⟨rfl,(k+1),U,U,bu,(by rw[O];exact(ay (⟨bF,a,af,aU,B,M,W,ag⟩:jd) bq (ca 0 rfl (by dsimp only[k7];rw[mp];rfl) (by(repeat(first|refine bN 0 rfl ?_|refine bN 1 rfl ?_|refine bN 2 rfl ?_|refine bN 3 rfl ?_|refine bN 4 rfl ?_|refine bN 5 rfl ?_|refine bN 6 rfl ?_|refine bN 7 rfl ?_|refine bN 8 rfl ?_|refine bN 9 rfl ?_));refine ca 0 rfl (by dsimp only[k7];rw[mp,SA];rfl) ?_;exact ai))))⟩;obtain rfl:k=l.length:=by omega
 rw[U9];apply J [363];exact xY
end Go.Proofs.YtglgidjhoncphaaGreatDoor
namespace Go.Proofs.YtglgidjhoncphaaGreatDoor
open Go Go.QM
open ir (cZ ji gF hA hU iC jh ml ue ids)
open Rd (ep hY gu fO hq dB i5 ke h6)
variable(s:cI)
theorem w4(to:Int)(o:eg):(eF s to o).1.ids=s.ids:=by rw[eF];(repeat' split)<;>rfl
theorem w5(id:Int):(hT s id).1.ids=s.ids:=by rw[hT];(repeat' split)<;>rfl
theorem uP(to:Int):(dm s to).1.ids=s.ids:=by rw[dm];split;trivial;split;trivial;split;trivial;split;dsimp only;split<;>rfl;trivial
theorem vu(id:Int):(fx s id).1.ids=s.ids:=by rw[fx];(repeat' split)<;>rfl
theorem lA(id:Int):(dO s id).1.ids=s.ids:=by by_cases h:id∈s.ids;grind[tz];rw[dO,aw h]
variable{x:Int}
theorem sn(id:Int)(d:x≠id):(dO s id).1.st x=s.st x:=by rw[dO];split;trivial;split;trivial;split;exact bM d;split;exact bM d;exact bM d
theorem wK{s:cI}{id:Int}(h:id∈s.ids):(eZ s id).1.ids=s.ids.filter λy=>decide (y≠id):=by rw[eZ,al (λd=>d h)];show((dO s id).1.ids.filter _)=_;grind[lA]
theorem OY{s:cI}(av:dr s){id:Int}(h:id∈s.ids)(u:x∈(eZ s id).2.1):x∈s.ids/\x≠id/\s.st x≠0/\(eZ s id).1.st x=0:=by
 rw[eZ,al (λd=>d h)]at u⊢;have u:x∈dU (dO s id).1 id:=u;have D:id∈(dO s id).1.ids:=by grind[lA]
 obtain⟨w,d,E,C⟩:=D6 (av.call id) D u;rw[lA]at w;rw[sn s id d]at C;refine⟨w,d,by omega,?_⟩;show(if x∈dU (dO s id).1 id then(0:Int)else _)=0;simp_all
theorem OZ{s:cI}(av:dr s){id:Int}(h:id∈s.ids):(eZ s id).2.1.Nodup:=by
 rw[eZ,al (λw=>w h)];show(dU (dO s id).1 id).Nodup;have u:id∈(dO s id).1.ids:=by grind[lA]
 have d:=av.call id;generalize(dO s id).1=Z at u d⊢;rw[dU];split;rename_i D;refine US.2 ⟨d.jq id u,by simp,λa C c E e=>?_⟩;rw[Up]at E;obtain⟨o,H,rfl⟩:=UE.1 C;have N:=d.row id u o H;have w:=d.hy id u D;simp_all;rw[Vg];exact d.jq id u
theorem zY{s:cI}{id:Int}(h:id∈s.ids)(d:x∉(eZ s id).2.1)(w:x≠id):(eZ s id).1.st x=s.st x:=by rw[eZ,al (λu=>u h)]at d⊢;have d:x∉dU (dO s id).1 id:=d;show(if x∈dU (dO s id).1 id then(0:Int)else(dO s id).1.st x)=_;rw[al d,sn s id w]
theorem yN{s:cI}(av:dr s)(g:Int):(gw s g).2.Nodup:=by
 show(h2 s g (fB s.ids)).Nodup;have au:(fB s.ids).Nodup:=(sZ _).nodup_iff.2 av.bo;have d:∀x∈fB s.ids,x∈s.ids:=by grind[rM]
 generalize fB s.ids=D at au d;induction D with|nil=>exact Va|cons x D Q=>obtain⟨C,E⟩:=UI.1 au;rw[show h2 s g (x::D)=jB (s.row x) (kc g)++h2 s g D by rw[h2,h2,UN]];refine US.2 ⟨(av.jq x (d x cF)).sublist (List.filter_sublist.map _),Q E λy w=>d y (by simp[w]),λa N c O e=>?_⟩;obtain⟨o,P,rfl⟩:=UE.1 N;obtain⟨y,w,u,hu,_,H⟩:=wd.1 O;have:=av.one (d x cF) (d y (by simp[w])) (UO.1 P).1 hu (by rw[H];exact e);exact C (this.1▸w)
theorem C2(g:Int)(x:Int):(gw s g).1.st x=if x∈(gw s g).2 then 0 else s.st x:=rfl
variable{T:b9}
theorem cl.block(h:cl T []){m:cI}(av:dr m)(C:m.ids=T.m.ids)(N:x∈T.m.ids)(hs:eS T x=0)(Z:m.st x≠0)(au:∀y,y≠x->m.st y=T.m.st y){u:Int}(w:¬l3 u):cl (lz (cV T m) x u) []:=by obtain⟨an,Q⟩:T.on x=true/\T.m.st x=0:=(by rw[eS,aw N]at hs;grind);have H:¬ji T.A x:=λE=>((h.gv x E).2.resolve_right Uy) Q;have ag:=h.eK.ge x N;have key:∀A O,gF A->(∀y,ji A y->ji T.A y\/y=x)->(∀e∈A,T.now<e.at_/\e.at_<=T.now+1048576)->cl {T with S:=Rd.gx T.S [x],cm:=O,A:=A,m:=m} []:=λA O P a2 a3=>(by refine⟨av,h.mm.sub (Rd.nR _ _),λt w=>h.fz t ((Rd.nR _ _).subset w),λt w=>h.dC t ((Rd.nR _ _).subset w),λy=>?_,P,λy d=>?_,λy d D=>?_,λy d=>h.ps y (C▸d),a3,λy d=>(Uy d).elim,Va⟩;show ep (Rd.gx T.S [x]) y↔(y∈m.ids/\T.on y=true/\m.st y=0)/\y∉[];rw[y0,h.k5,C,Up];grind;show y∈m.ids/\(m.st y≠0\/y∈[]);rw[C];by_cases e:y=x;simp_all;have E:=h.gv y ((a2 y d).resolve_right e);simp_all;have d:y∈m.ids:=d;have D:m.st y≠0:=D;show T.on y=true;by_cases e:y=x;simp_all;rw[au y e]at D;exact h.off y (C▸d) D);rw[lz];split;rename_i ao;have W:hU T.A T.now T.cm x u=(T.A++[⟨T.now+u,T.cm+1,x⟩],T.cm+1,0):=(by rw[l3]at w;rw[hU,al U,al H]);show cl {T with S:=Rd.gx T.S [x],cm:=(hU T.A T.now T.cm x u).2.1,A:=(hU T.A T.now T.cm x u).1,m:=m} [];rw[W];refine key _ _ ?_ (λy d=>?_) λe he=>?_;exact ir.Bm (e:=(⟨T.now+u,T.cm+1,x⟩:cZ)) h.nm (λa V e=>H ⟨a,V,e⟩);obtain⟨e,he,rfl⟩:=d;rcases Uq.1 he with he|he;exact .inl ⟨e,he,rfl⟩;simp_all;rcases Uq.1 he with he|he;exact h.nx e he;grind[l3];exact key _ _ h.nm (λy d=>.inl d) h.nx
theorem Bo(hs:eS T x=0):x∈T.m.ids/\T.on x=true/\T.m.st x=0:=by grind[eS]
theorem cl.send(h:cl T [])(aX to gt:Int)(aL:Bool)(P:Int):cl (h7 T aX to gt aL P).1 []:=by
 rw[h7];split;trivial;rename_i Q;split;trivial;rename_i C;split;trivial;rename_i u;have D:aX∈T.m.ids:=b2
 have N:to∈T.m.ids:=b2
 have u:=UD.1 u;have H:=(Bo u).2.2;have E:eF T.m to ⟨aX,gt,aL⟩=(eR (dQ T.m aX 1 to) to ⟨aX,gt,aL⟩,0):=(by rw[eF,al (λd=>d.elim (λw=>w N) (λw=>w D)),al (λd=>C (.inl d)),al (λd=>d H)]);refine cl.block h (h.eK.offer to ⟨aX,gt,aL⟩) (w4 _ _ _) D u ?_ (λy O=>?_) (λd=>C (.inr d));rw[E];show aP T.m.st aX 1 aX≠0;grind[ci];rw[E];exact bM O
theorem cl.wait(h:cl T [])(id N:Int):cl (jX T id N).1 []:=by rw[jX];split;trivial;rename_i d;split;trivial;rename_i D;split;trivial;rename_i u;split;trivial;rename_i w;have d:=UD.1 d;have u:=UD.1 u;have O:=(Bo u).2.2;have w:=UD.1 w;have C:(hT T.m id).1=ef T.m id 2:=(by rw[hT,al (λE=>E d)]at w⊢;grind);refine cl.block h (h.eK.opens id) (w5 _ _) d u ?_ (λy H=>?_) D;rw[C];show aP T.m.st id 2 id≠0;grind[ci];rw[C];exact bM H
theorem cl.CV(h:cl T []){id:Int}(d:id∈T.m.ids)(hs:T.m.st id≠0):cl (cV T (dO T.m id).1) [id]:=
 h.meet (h.eK.call id) (lA _ _) [id] (λx u=>by rw[Up.1 u];exact⟨d,hs,(tz _ _ d).1⟩) (λx u au=>by rw[sn _ _ (λe=>au (by simp[e]))]) cF
theorem cl.xO(h:cl T [])(why id:Int):cl (iq T why id).1 []:=by rw[iq];split;trivial;rename_i d;split;trivial;rename_i u;have d:=UD.1 d;refine cl.pP (L:=[id]) (M:=[]) why (h.CV d λw=>u ?_);rw[eS,aw d];omega
theorem cl.refuse(h:cl T [])(id why:Int):cl (ka T id why).1 []:=by rw[ka];split;trivial;rename_i d;have d:=UD.1 d;split;trivial;rename_i o r w;have u:=h.eK.row id d o (by rw[w];simp);exact cl.pP (L:=[o.aX]) (M:=[]) why (h.CV u.1 U)
theorem cl.answer(h:cl T [])(id:Int):cl (kk T id).1 []:=by
 rw[kk];split;trivial;rename_i u;split;trivial;rename_i C;split;rename_i D;have u:=UD.1 u;have C:=UD.1 C;have H:=(Bo C).2.2;have w:T.m.aL id≠-1:=λw=>by rw[fx,al (λd=>d u),al (λd=>d H),aw w]at D;cases D
 have E:fx T.m id=(bZ (dx T.m id (-1)) (T.m.aL id),T.m.aL id,0):=by rw[fx,al (λd=>d u),al (λd=>d H),al w]
 have O:=h.eK.hy id u w;refine cl.pP (L:=[(fx T.m id).2.1]) (M:=[]) 0 (h.meet (h.eK.answer id) (vu _ _) [(fx T.m id).2.1] (λx N=>?_) (λx N au=>?_) cF);rw[Up.1 N,E];exact⟨O.1,by dsimp only;omega,ci _ _ _⟩;rw[E]at au⊢;show aP T.m.st (T.m.aL id) 0 x=0↔_;grind[bM];trivial
theorem cl.close(h:cl T [])(g:Int):cl (mG T g).1 []:=by rw[mG];refine cl.pP (L:=(gw T.m g).2) (M:=[]) 13 ?_;rw[Vg];refine h.meet (h.eK.close g) rfl _ (λx d=>?_) (λx d au=>?_) (yN h.eK g);have:=tU h.eK d;exact⟨this.1,by omega,by rw[C2,aw d]⟩;rw[C2,al au]
theorem cl.out(h:cl T []){id:Int}(w:id∈T.m.ids):cl (mg T id) (eZ T.m id).2.1:=by
 have av:=h.eK.leave id;have V:=wK w;have hm:∀y,y∈(eZ T.m id).1.ids↔y∈T.m.ids/\y≠id:=b2
 have Q:=λx (P:x∈(eZ T.m id).2.1)=>OY h.eK w P;refine⟨av,h.mm.sub (Rd.nR _ _),λt O=>h.fz t ((Rd.nR _ _).subset O),λt O=>h.dC t ((Rd.nR _ _).subset O),λy=>?_,yP h.nm _,λy d=>?_,λy d D=>?_,λy d=>h.ps y ((hm y).1 d).1,λe he=>h.nx e (yR he),λx P=>?_,OZ h.eK w⟩;show ep (Rd.gx T.S [id]) y↔(y∈(eZ T.m id).1.ids/\T.on y=true/\(eZ T.m id).1.st y=0)/\y∉(eZ T.m id).2.1;rw[y0,h.k5,hm,Up];grind[zY];obtain⟨C,u⟩:=yQ.1 d;have u:y≠id:=b2
 obtain⟨E,H⟩:=h.gv y C;refine⟨(hm y).2 ⟨E,u⟩,?_⟩;by_cases N:y∈(eZ T.m id).2.1;simp_all;exact .inl (by show(eZ T.m id).1.st y≠0;rw[zY w N u];exact H.resolve_right Uy);have d:=(hm y).1 d;have D:(eZ T.m id).1.st y≠0:=D;by_cases N:y∈(eZ T.m id).2.1;simp_all;rw[zY w N d.2]at D;exact h.off y d.1 D;obtain⟨C,u,E,H⟩:=Q x P;exact⟨(hm x).2 ⟨C,u⟩,h.off x C E,H⟩
theorem cl.remove(h:cl T [])(id:Int):cl (iD T id).1 []:=by rw[iD];split;trivial;rename_i d;refine cl.pP (L:=(eZ T.m id).2.1) (M:=[]) 13 ?_;rw[Vg];exact h.out (UD.1 d)
theorem Bs{s:cI}(av:dr s){id:Int}(N:id∈s.ids)(he:(dm s id).2.2.2=0):∃o r,s.row id=o::r/\(dm s id).2.1=o/\o.aX∈s.ids/\o.aX≠id/\s.st o.aX=1/\(dm s id).1.st id=0/\
 ((o.aL=false/\(dm s id).2.2.1=-1/\(dm s id).1.st o.aX=0/\∀x,x≠id->x≠o.aX->(dm s id).1.st x=s.st x)\/
  (o.aL=true/\(dm s id).2.2.1=s.aL id/\(dm s id).1.st o.aX=3/\(s.aL id≠-1->s.aL id∈s.ids/\s.aL id≠id/\s.aL id≠o.aX/\s.st (s.aL id)=3/\(dm s id).1.st (s.aL id)=0)/\∀x,x≠id->x≠o.aX->x≠s.aL id->(dm s id).1.st x=s.st x)):=by rw[dm,al (λh=>h N)]at he⊢;split at he;simp_all;rename_i W;rw[al W];cases P:s.row id with|nil=>rw[P]at he;cases he|cons o r=>obtain⟨E,d,H,Z⟩:=av.row id N o (by rw[P];simp);refine⟨o,r,rfl,?_⟩;dsimp only;(cases ag:o.aL with|false=>rw[al cF];refine⟨rfl,E,d,H,?_,.inl ⟨rfl,rfl,ci _ _ _,λx C u=>?_⟩⟩;show aP (aP s.st id 0) o.aX 0 id=0;rw[bM (WC d),ci];show aP (aP s.st id 0) o.aX 0 x=_;rw[bM u,bM C]|true=>rw[aw rfl];have V:s.aL id≠-1->s.aL id∈s.ids/\s.aL id≠id/\s.aL id≠o.aX/\s.st (s.aL id)=3:=λau=>(by obtain⟨D,c2,w,O⟩:=av.hy id N au;exact⟨D,c2,λe=>by rw[e]at w;omega,w⟩);by_cases au:s.aL id=-1;(·refine⟨?_,E,d,H,?_,.inr ⟨rfl,?_,?_,λh=>absurd au h,λx C u Q=>?_⟩⟩;(all_goals(first|(split<;>rfl)|skip));(rw[al (λh=>h au)]);show aP (aP (aP s.st id 0) o.aX 0) o.aX 3 id=0;rw[bM (WC d),bM (WC d),ci];(rw[al (λh=>h au)]);exact ci _ _ _;(rw[al (λh=>h au)]);show aP (aP (aP s.st id 0) o.aX 0) o.aX 3 x=_;rw[bM u,bM u,bM C]);obtain⟨D,c2,w,O⟩:=V au;refine⟨?_,E,d,H,?_,.inr ⟨rfl,?_,?_,λ_=>⟨D,c2,w,O,?_⟩,λx C u Q=>?_⟩⟩;(all_goals(first|(split<;>rfl)|skip));(rw[aw au]);show aP (aP (aP (aP s.st id 0) o.aX 0) (s.aL id) 0) o.aX 3 id=0;rw[bM (WC d),bM (WC c2),bM (WC d),ci];(rw[aw au]);exact ci _ _ _;(rw[aw au]);show aP (aP (aP (aP s.st id 0) o.aX 0) (s.aL id) 0) o.aX 3 (s.aL id)=0;rw[bM w,ci];(rw[aw au]);show aP (aP (aP (aP s.st id 0) o.aX 0) (s.aL id) 0) o.aX 3 x=_;rw[bM u,bM Q,bM u,bM C])
theorem cl.take(h:cl T [])(id:Int):cl (iZ T id).1 []:=by
 rw[iZ];split;trivial;rename_i u;split;trivial;rename_i P;split;trivial;rename_i D;have u:=UD.1 u;have D:=UD.1 D;obtain⟨o,r,aH,Z,f1,f2,f3,f4,f5⟩:=Bs h.eK u D;have av:=h.eK.take id;have H:=uP T.m id;have ag:eS T id=T.m.st id:=(by rw[eS,aw u];split;trivial;rename_i Q;exfalso;apply P;rw[eS,aw u,al Q];decide);have aK:T.m.st id=0\/T.m.st id=2:=U
 dsimp only;rw[Z,gE];have go:∀(w C:List Int),cl (cV T (dm T.m id).1) (w++(C++(if T.m.st id=2 then[id]else[])))->cl (let gO:=dn (dn (cV T (dm T.m id).1) 0 w) 13 C;if eS T id=2 then dn gO 0 [id]else gO) []:=λw C W=>(by have V:=cl.pP 0 W;have N:=cl.pP 13 V;rw[ag];dsimp only;split;rename_i e;rw[aw e]at N;exact cl.pP (L:=[id]) (M:=[]) 0 N;simp_all);rcases f5 with⟨g1,g2,g3,g4⟩|⟨g1,g2,g3,g5,g4⟩;·rw[al (show ¬(o.aL=true)by rw[g1];decide),g2,aw (show(-1:Int)=-1 from rfl)];have:=go [o.aX] [] ?_;trivial;refine h.meet av H _ (λx d=>?_) (λx d au=>?_) ?_;all_goals grind
 rw[aw g1,g2];have eJ:∀x,x∈T.m.ids->x≠o.aX->x≠id->x≠T.m.aL id->((dm T.m id).1.st x=0↔T.m.st x=0):=b2
 have aC:(dm T.m id).1.st o.aX=0↔T.m.st o.aX=0:=U
 by_cases E:T.m.aL id=-1;rw[aw E];have:=go [] [] ?_;trivial;refine h.meet av H _ (λx d=>?_) (λx d au=>?_) ?_;simp_all;simp only[List.nil_append]at au;by_cases e:x=id;simp_all;by_cases O:x=o.aX;simp_all;exact eJ x d O e (λaA=>by have:=h.eK.ge x d;omega);grind;rw[al E];obtain⟨an,c2,ao,ar,ax⟩:=g5 E;have:=go [] [T.m.aL id] ?_;trivial;refine h.meet av H _ (λx d=>?_) (λx d au=>?_) ?_;all_goals grind
end Go.Proofs.YtglgidjhoncphaaGreatDoor
