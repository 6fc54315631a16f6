/- Proved here: contracts of functions of this program, under the premises that each theorem names. -/
import Derived.Test.YtglgidjhoncphaaGreatDoorYi
set_option linter.all false
set_option maxRecDepth 4000
set_option maxHeartbeats 4000000
open List renaming length_append->mp,getElem?_eq_getElem->Uo,mem_singleton->Up,mem_append->Uq,length_singleton->Ux,getElem?_eq_some_iff->Uz,mem_cons->UB,mem_map->UE,take_add_one->UF,nodup_cons->UI,mem_filter->UO,length_cons->UP,filter_eq_self->UU,map_cons->UX,take_length->U9,nodup_nil->Va,length_set->Ve,append_nil->Vg,getD_eq_getElem?_getD->Vl,getElem?_of_mem->Vo,perm_append_singleton->Vt,range->Vu,map_congr_left->Vw,length_take->VC,filter_cons_of_neg->VD,length_map->VP,filter_sublist->VQ,drop_drop->V1,length->Wc,filter_filter->Wd,map_nil->Wi,filter_eq_nil_iff->Wm,append_of_mem->WK,foldl_cons->WN,find?_cons->WW,map_map->W7,filter_append->Xn,filter_map->XB
open Go.QM.ab renaming aA->Ur,loop->UZ,bf->VM
open Nat renaming zero_le->Uv,le_refl->Uw,le_of_ble_eq_true->UC
open Go.QM.aO renaming known->UG
open Bool renaming and_eq_true->UW,eq_iff_iff->WY
open Go.Value renaming oneCell'->UY,slice->U8,int->VA,bool->VF
open Go.Proofs.Tryz renaming prog->U3
open Go.QM.aF renaming refl->U5
open Int renaming eq_ofNat_of_zero_le->Vq
open List.Perm renaming refl->V2
open Option.some renaming injEq->V3
open List.cons renaming inj->Wu
open Ne renaming symm->WC
open List.Sublist renaming refl->WO
open Go.QM.b8 renaming i->Xq
open List.Pairwise renaming nil->XD
open Function renaming comp_apply->X0
namespace Go.Proofs.YtglgidjhoncphaaGreatDoor.Rd
open Go Go.QM
theorem tY(xs:List Int)(k:Nat):(ints xs).take (k*1)=ints (xs.take k):=by simp[ints,List.map_take]
theorem rm:∀(xs:List Int),(ints xs).all UY=true
 | []=>rfl
 | x::xs=>by have:=rm xs;rw[ints]at this⊢;rw[UX,List.all_cons,this];rfl
variable{xs:List Int}{i:Nat}
theorem wk(h:i<xs.length){o:Nat}(d:o=i*1)(v:Int):dJ o [aa v] (ints xs)=ints (xs.set i v):=by rw[d,Nat.mul_one,List.set_eq_take_append_cons_drop,aw h];simp[dJ,ints]
theorem pv(xs d:List Int):ints xs++ints d=ints (xs++d):=by simp[ints]
def gL(pr:Int->Bool):Int->Bool:=λx=>!pr x
structure ht(xs:List Int)(pr:Int->Bool)(i j:Nat)(oX:List Int):Prop where
  len:oX.length=xs.length
  ku:i<j
  oF:j<=xs.length
  tk:oX.take i=(xs.take j).filter (gL pr)
  nP:oX.drop j=xs.drop j
variable{pr:Int->Bool}
theorem ht.start{k:Nat}(h:xs.findIdx? pr=some k):ht xs pr k (k+1) xs:=by rw[List.findIdx?_eq_some_iff_getElem]at h;obtain⟨d,u,au⟩:=h;refine⟨rfl,by omega,d,?_,rfl⟩;grind[UF,gL,UU,List.getElem_of_mem,VC]
theorem ht.nh{j:Nat}{d:List Int}(h:ht xs pr i j d)(w:j<xs.length){x:Int}(D:xs[j]? =some x)(C:pr x=false):ht xs pr (i+1) (j+1) (d.set i x) where
 len:=by rw[Ve];exact h.len
 ku:=by have:=h.ku;omega
 oF:=w
 tk:=by
  have E:=h.len;have u:=h.ku
  rw[UF,List.getElem?_set_self U,UF,D,Xn,<-h.tk]
  rw[List.take_set_of_le (Uw i)]
  simp[gL,C]
 nP:=by
  have u:=h.ku
  rw[List.drop_set_of_lt U]
  rw[<-V1,h.nP,V1]
theorem ht.skip{j:Nat}{d:List Int}(h:ht xs pr i j d)(u:j<xs.length){x:Int}(C:xs[j]? =some x)(w:pr x=true):ht xs pr i (j+1) d where
 len:=h.len
 ku:=by have:=h.ku;omega
 oF:=u
 tk:=by rw[UF,C,Xn,h.tk];simp[gL,w]
 nP:=by rw[<-V1,h.nP,V1]
theorem ht.get{j:Nat}{d:List Int}(h:ht xs pr i j d){x:Int}(w:xs[j]? =some x):d[j]? =some x:=by
 have u:(d.drop j)[0]? =(xs.drop j)[0]? :=by rw[h.nP]
 simp_all
theorem ht.done{u:List Int}(h:ht xs pr i xs.length u):u.take i=xs.filter (gL pr)/\(xs.filter (gL pr)).length=i:=by have d:=h.tk;rw[U9]at d;refine⟨d,?_⟩;rw[<-d,VC];have:=h.len;have:=h.ku;omega
theorem yY(h:xs.findIdx? pr=none):xs.filter (gL pr)=xs:=by grind[UU,gL]
theorem zC(ad:Option Addr)(cap:Nat)(xs:List Int)(gS:FuncId)(lb:List Value)(pr:Int->Bool)(D:ax->Prop)(O:∀x,br gS ([aa x]++lb) D [] (.bool (pr x)) [])(W:xs.length<=1000000000):fw U3 340 [.slice ad xs.length cap,.func (.func gS) #[] lb.toArray] (λF=>(∃E,cM F E ad (ints xs))/\D (ah [F])) [] (λ_:Unit=>aa (match xs.findIdx? pr with|some i=>(i:Int)|none=>-1)) (λ_=>True) (λ_=>[]):=by
 apply aH Tryz.func340 Tryz.ntmps340;intro F ⟨⟨E,H⟩,N⟩;apply J [9];haveI:bl F ad E (ints xs):=⟨H⟩;refine J [38,35,174,573] ?_;rintro k ⟨hinv,eJ⟩ Z;dsimp only[ct]at hinv eJ⊢;apply J [40];apply Ur rfl<;>intro C;have C:k<xs.length:=U
 obtain⟨t,w⟩:∃t,xs[k]? =some t:=⟨xs[k],Uo C⟩;have V:0<(ints xs).length:=by grind[eb]
 refine J [62,142,24,321,86,2,409] ?_;refine q rfl rfl (dv rfl rfl (hN w)) ?_;refine e rfl ?_;refine kR (O t) rfl rfl (eA _) N ?_;intro _ _;apply J [151,3];cases Q:pr t with|true=>?_|false=>?_
 apply J [15,142,163];have d:xs.findIdx? pr=some k:=by grind[vW]
 exact Xq () [_] ⟨rfl,trivial⟩ (by rw[d];rfl) trivial ai;refine J [74,111] ?_;exact⟨rfl,(k+1),⟨by omega,λj u P hu=>by rcases Nat.lt_succ_iff_lt_or_eq.1 P with h|h;exact eJ j u h hu;subst h;rw[w]at hu;cases hu;exact Q⟩,U,bu,(aq (a6 _))⟩;obtain rfl:k=xs.length:=by omega
 have d:xs.findIdx? pr=none:=by grind[zc]
 apply J [22,207];exact Xq () [_] ⟨rfl,trivial⟩ (by rw[d];rfl) trivial (aq (a6 _))
theorem vM(ad:Option Addr)(cap:Nat)(xs:List Int)(gS:FuncId)(lb:List Value)(pr:Int->Bool)(u:ax->Prop)(Q:∀x,br gS ([aa x]++lb) u [] (.bool (pr x)) [])(an:xs.length<=1000000000)(ao:∀F,u F->u (ah [F]))(W:∀B F,u F->u (ah [B,F])):fw U3 286 [.slice ad xs.length cap,.func (.func gS) #[] lb.toArray] u [aT 3 1 ad xs.length cap (ints xs)] (λ_:Unit=>.slice ad (xs.filter (gL pr)).length cap) (λ_=>True) (λ_=>[aT 3 1 ad (xs.filter (gL pr)).length cap (ints (xs.filter (gL pr)))]):=by
 apply aH Tryz.func286 Tryz.ntmps286;intro F P;apply J [1];refine ab.m6 0 rfl (λ_ au _=>?_);have a2:=eb xs;apply J [44,221,321,0];apply eG (zC ad cap xs gS lb pr u Q an) ⟨⟨_,bl.rd⟩,ao _ (W _ _ P)⟩;apply J [6];cases V:xs.findIdx? pr with|none=>?_|some k=>?_
 dsimp only;rw[yY V];apply J [31,208];refine Ur rfl (λC=>?_) (λC=>absurd (rfl) C);apply J [35,21,224];exact hI;dsimp only;have aJ:=ht.start V;have aQ:k<xs.length:=by have:=aJ.oF;omega
 apply J [31,208];refine Ur rfl (λD=>absurd D U) (λD=>?_);refine J [42,29,150,27,76,574] ?_;rintro⟨i,j,w⟩ d a5;dsimp only[ct]at d⊢;have aK:=d.oF;have aC:=d.ku;have a4:=d.len;have a3:=eb w;apply J [129,86,331,191];apply Ur rfl<;>intro aX;have H:j<xs.length:=U
 obtain⟨x,N⟩:∃x,xs[j]? =some x:=⟨xs[j],Uo H⟩;have ar:=d.get N;have a0:0<(ints w).length:=U
 refine J [62,35,2,409] ?_;refine q rfl rfl (dv rfl rfl (hN ar)) ?_;apply J [27,24,321,28];refine kR (Q x) rfl rfl (eA _) (W _ _ P) ?_;intro _ _;apply J [6,89,3];cases Z:pr x with|true=>?_|false=>?_
 refine J [74,23,186] ?_;exact⟨rfl,⟨i,j+1,w⟩,(d.skip H N Z),cH,bu,(aq (aq (a6 _)))⟩;refine J [15,35,120,409,20,518,3,347,73,153,186] ?_;exact⟨rfl,⟨i+1,j+1,w.set i x⟩,(d.nh H N Z),cH,bu,(aq (aq (a6 _)))⟩;obtain rfl:j=xs.length:=by omega
 obtain⟨d1,d2⟩:=d.done;apply J [204,2];refine q rfl rfl (n6 3 1 (i) rfl rfl rfl U U) ?_;refine ey ?_;refine yO (sz:=1) (z:=aa 0) i rfl rfl rfl rfl am rfl rfl U ?_;intro O C D;have ag:O.take (i*1)=ints (xs.filter (gL pr)):=by grind[tY]
 apply J [221,2];refine q rfl rfl (nv 3 1 (i) rfl rfl rfl U U) ?_;apply J [101];exact Xq () [_] ⟨rfl,trivial⟩ (by rw[d2];rfl) trivial (eM 0 rfl (by have:=pM (E:=3) (sz:=1) (ad:=ad) (n:=xs.length) (cap:=cap) (cs:=O) (j:=i) U;rw[ag]at this;rw[d2];exact this) (aq (a6 _)))
end Go.Proofs.YtglgidjhoncphaaGreatDoor.Rd
namespace Go.Proofs.YtglgidjhoncphaaGreatDoor.Rd
open Go Go.QM
structure cO where
  id:Int
  prio:Int
  whole:Int
  left:Int
def SB(t:cO):List Value:=[.int .i64 t.whole,.int .i64 t.left,.int .i64 t.prio]
def dz(S:List cO)(p:Nat):List Int:=(S.filter λt=>decide (t.prio=(p:Int))).map (·.id)
def ep(S:List cO)(id:Int):Prop:=∃t∈S,t.id=id
instance (S:List cO)(id:Int):Decidable (ep S id):=inferInstanceAs (Decidable (∃t∈S,t.id=id))
def iK(A:Int->Nat)(S:List cO):Int->Option Value:=λid=>if ep S id then some (.pointer (some ⟨A id,0,none⟩))else none
def hY(S:List cO):Prop:=(S.map (·.id)).Nodup
structure fO(S:List cO):Prop where
  bo:hY S
  rg:∀t∈S,0<=t.id/\(0<=t.prio/\t.prio<=7)/\(0<=t.whole/\t.whole<=16)/\0<=t.left/\t.left<=16
structure Ch where
  ad:Nat->Option Addr
  cap:Nat->Nat
  aE:Nat
  A:Int->Nat
abbrev lU(ad:Nat->Option Addr)(cap:Nat->Nat)(S:List cO)(p:Nat):ax:=aT 3 1 (ad p) (dz S p).length (cap p) (ints (dz S p))
abbrev rO(A:Int->Nat)(t:cO):ax:=aj (A t.id) 373 (SB t)
abbrev tV(ad:Nat->Option Addr)(cap:Nat->Nat)(aE:Nat)(S:List cO):List Value:=gq (λp=>.slice (ad p) (dz S p).length (cap p)) [.map (some aE)]
def eI(q:Nat)(S:List cO):ax:=fj λy:Ch=>pure' (fO S) (ah [aj q 261 (tV y.ad y.cap y.aE S),b7 (lU y.ad y.cap S) (Vu 8),bC QM.encI y.aE (iK y.A S) S.length,b7 (rO y.A) S])
variable{S T:List cO}
theorem hY.perm(h:hY S)(p:T.Perm S):hY T:=(p.map _).nodup_iff.2 h
variable{t:cO}
theorem hY.inj(h:hY S){u:cO}(C:t∈S)(hu:u∈S)(e:t.id=u.id):t=u:=by obtain⟨L,w⟩:=fv C;rcases UB.1 (w.mem_iff.1 hu)with d|d;simp_all;exact absurd (UE.2 ⟨u,d,e.symm⟩) (UI.1 (h.perm w.symm)).1
def eF(S:List cO)(id:Int):List cO:=S.filter λt=>decide (t.id≠id)
theorem AL{L:List cO}(h:hY S)(w:S.Perm (t::L)):(eF S t.id).Perm L:=by have d:=w.filter λu=>decide (u.id≠t.id);rw[VD cF]at d;have C:L.filter (λu=>decide (u.id≠t.id))=L:=UU.2 λu hu=>(by have:=(UI.1 (h.perm w.symm)).1;simp_all);rw[C]at d;exact d
theorem DR{A:Int->Nat}(h:∀x,ep T x↔ep S x):iK A T=iK A S:=by grind[iK]
theorem vS{A:Int->Nat}{id:Int}(h:ep S id):iK A S id=some (.pointer (some ⟨A id,0,none⟩)):=aw h
theorem vR{A:Int->Nat}{id:Int}(h:¬ep S id):iK A S id=none:=al h
theorem PT(S:List cO)(x:Int):¬ep (eF S x) x:=by rintro⟨t,d,h⟩;have:=(UO.1 d).2;simp_all
theorem w3{x y:Int}:ep (eF S x) y↔ep S y/\y≠x:=by constructor;rintro⟨t,d,rfl⟩;obtain⟨u,w⟩:=UO.1 d;exact⟨⟨t,u,rfl⟩,by simpa using w⟩;rintro⟨⟨t,d,rfl⟩,h⟩;exact⟨t,UO.2 ⟨d,by simpa using h⟩,rfl⟩
theorem PS{x:Int}(h:¬ep S x):eF S x=S:=UU.2 λt d=>by
 simp only[decide_eq_true_eq];exact λe=>h ⟨t,d,e⟩
theorem F3{x:Int}(au:hY S)(h:ep S x):(eF S x).length+1=S.length:=by obtain⟨t,u,rfl⟩:=h;obtain⟨L,d⟩:=fv u;rw[(AL au d).length_eq,d.length_eq];rfl
theorem fO.sub(h:fO S)(hs:T.Sublist S):fO T:=⟨h.bo.sublist (hs.map _),λt d=>h.rg t (hs.subset d)⟩
theorem fO.off(h:fO S)(x:Int):fO (eF S x):=h.sub VQ
def gu(S:List cO)(id prio cd:Int):List cO×Int:=if id<0\/prio<0\/7<prio\/cd<1\/16<cd then(S,1)else if ep S id then(S,7)else(S++[⟨id,prio,cd,cd⟩],0)
theorem fO.add(h:fO S)(C:¬ep S t.id)(hr:0<=t.id/\(0<=t.prio/\t.prio<=7)/\(0<=t.whole/\t.whole<=16)/\0<=t.left/\t.left<=16):fO (S++[t]) where
 bo:=by
  rw[hY,List.map_append,List.nodup_append]
  refine⟨h.bo,by simp,λx D y d=>?_⟩
  obtain⟨a,w,rfl⟩:=UE.1 D
  simp only[UX,Wi,Up]at d
  rw[d];exact λe=>C ⟨a,w,e⟩
 rg:=λu hu=>by
  rcases Uq.1 hu with hu|hu
  ·exact h.rg u hu
  rw[Up.1 hu];exact hr
theorem xl(S T:List cO)(p:Nat):dz (S++T) p=dz S p++dz T p:=by simp[dz]
variable{p:Nat}
theorem GQ(h:t.prio=p):dz [t] p=[t.id]:=by simp[dz,h]
theorem GR(h:t.prio≠p):dz [t] p=[]:=by simp[dz,h]
theorem LU{A:Int->Nat}(b:Nat):iK (aP A t.id b) (S++[t])=fe (iK A S) t.id (ae b):=by
 funext x;simp only[iK,fe];have d:ep (S++[t]) x↔ep S x\/t.id=x:=by simp[ep,or_and_right,exists_or]
 by_cases e:x=t.id;rw[aw (d.2 (.inr e.symm)),aw e,e,ci];rw[al e,bM e];grind
variable(x:Int)
theorem LV{A:Int->Nat}:iK A (eF S x)=fQ (iK A S) x:=by funext y;simp only[iK,fQ];by_cases e:y=x;rw[aw e,al (λh=>(w3.1 h).2 e)];rw[al e];by_cases h:ep S y;rw[aw h,aw (w3.2 ⟨h,e⟩)];rw[al h,al (λd=>h (w3.1 d).1)]
theorem A9{x:Int}:x∈dz S p↔∃t∈S,t.prio=p/\t.id=x:=by simp[dz,and_assoc]
theorem A8(S:List cO)(p:Nat):(dz S p).length<=S.length:=by rw[dz,VP];exact List.length_filter_le _ _
theorem Ba(S:List cO)(p:Nat)(x:Int):dz (eF S x) p=(dz S p).filter λy=>decide (y≠x):=by rw[dz,dz,XB,eF,Wd,Wd];grind
theorem GP(au:hY S)(C:t∈S)(w:t.prio≠p):dz (eF S t.id) p=dz S p:=by rw[Ba];refine UU.2 λy D=>?_;obtain⟨u,hu,d,rfl⟩:=A9.1 D;simp only[decide_eq_true_eq];intro e;rw[au.inj hu C e]at d;exact w d
variable{cap:Nat->Nat}
theorem GZ{ad:Nat->Option Addr}{L:List Nat}{a:Option Addr}{c:Nat}(d:∀x∈L,x≠p/\x<8)(h:∀x,x≠p->dz T x=dz S x):∀x∈L,lU ad cap S x=lU (dF ad p a) (dF cap p c) T x:=λx u=>by
 have:=(d x u).1
 simp only[lU,i6 this,h x this]
theorem Ri{ad:Nat->Option Addr}{L:List Nat}(d:∀x∈L,x≠p/\x<8)(h:∀x,x≠p->dz T x=dz S x):∀x∈L,lU ad cap S x=lU ad cap T x:=λx u=>by
 have:=(d x u).1
 simp only[lU,h x this]
theorem Ee{ad:Nat->Option Addr}{aE:Nat}{n c:Nat}{a:Option Addr}(h:∀x,x≠p->dz T x=dz S x)(d:(dz T p).length=n):
 gq (λx=>if x=p then U8 a n c else .slice (ad x) (dz S x).length (cap x)) [.map (some aE)]=tV (dF ad p a) (dF cap p c) aE T:=GX λx _=>by
 by_cases e:x=p
 ·rw[aw e,e,jv,jv,d]
 rw[al e,i6 e,i6 e,h x e]
theorem zx{ad:Nat->Option Addr}{aE:Nat}(h:∀x,(dz T x).length=(dz S x).length):tV ad cap aE S=tV ad cap aE T:=GX λx _=>by rw[h x]
def gx(S:List cO)(ids:List Int):List cO:=ids.foldl eF S
theorem LB(S:List cO)(ids:List Int)(x:Int):gx S (ids++[x])=eF (gx S ids) x:=by simp[gx]
theorem nR(S:List cO):∀ids,(gx S ids).Sublist S
 | []=>WO _
 | x::l=>by rw[gx,WN];exact(nR (eF S x) l).trans VQ
theorem LA(S:List cO)(ids:List Int):gx S ids=S.filter λt=>decide (t.id∉ids):=by induction ids generalizing S with|nil=>exact(UU.2 λa _=>by simp).symm|cons x l d=>rw[gx,WN];have:=d (eF S x);rw[gx]at this;rw[this,eF,Wd];congr 1;funext e;rw[WY];simp only[UW,decide_eq_true_eq,UB,not_or];exact⟨λh=>⟨h.2,h.1⟩,λh=>⟨h.2,h.1⟩⟩
def hq(S:List cO):Option cO:=S.find? λt=>S.all λu=>decide (u.prio<=t.prio)
def dB(S:List cO):Int:=match hq S with
  | some t=>t.id
  | none=>-1
theorem ny(h:hq S=some t):t∈S/\∀u∈S,u.prio<=t.prio:=by refine⟨List.mem_of_find?_eq_some h,λu hu=>?_⟩;have:=List.find?_some h;simp_all
theorem HN(h:fO S)(au:∀x,p<x->x<8->dz S x=[]){x:Int}{rest:List Int}(hr:dz S p=x::rest):∃t,hq S=some t/\t.id=x/\t.prio=p:=by
 have hle:∀u∈S,u.prio<=p:=λu hu=>(by have D:=h.rg u hu;obtain⟨k,O⟩:=Vq D.2.1.1;by_cases P:p<k;have:=au k P U;have hm:u.id∈dz S k:=A9.2 ⟨u,hu,O,rfl⟩;rw[this]at hm;cases hm;omega);obtain⟨t,T,d⟩:∃t T,S.filter (λt=>decide (t.prio=(p:Int)))=t::T:=(by cases H:S.filter (λt=>decide (t.prio=(p:Int)))with|nil=>rw[dz,H]at hr;cases hr|cons t T=>exact⟨t,T,rfl⟩);have N:t.id=x:=by rw[dz,d]at hr;simpa using(Wu hr).1
 have C:=UO.1 (show t∈S.filter (λt=>decide (t.prio=(p:Int)))by rw[d];simp);have Q:t.prio=p:=by simpa using C.2
 refine⟨t,?_,N,Q⟩;have E:hq S=S.find? λt=>decide (t.prio=(p:Int)):=(by rw[hq];have:∀u∈S,(S.all λv=>decide (v.prio<=u.prio))=decide (u.prio=(p:Int)):=λu hu=>(by rw[WY,List.all_eq_true];simp only[decide_eq_true_eq];constructor;intro w;have V:=w t C.1;have W:=hle u hu;omega;intro w v hv;have:=hle v hv;omega);induction S with|nil=>rfl|cons a l _=>exact find_congr this);rw[E,<-List.head?_filter,d];rfl
 where find_congr {f g:cO->Bool}:∀{l:List cO},(∀u∈l,f u=g u)->l.find? f=l.find? g
  | [],_=>rfl
  | a::l,h=>by
   rw[WW,WW,h a cF,find_congr λu hu=>h u (by simp[hu])]
theorem SM(h:fO S)(au:∀x,x<8->dz S x=[]):S=[]:=by
 rcases S with _|⟨t,T⟩;trivial;have d:=h.rg t cF;obtain⟨k,u⟩:=Vq d.2.1.1;have hm:t.id∈dz (t::T) k:=by grind[A9]
 grind
def h6(S:List cO)(t:cO):List cO:=eF S t.id++[⟨t.id,t.prio,t.whole,t.whole⟩]
def iE(S:List cO)(id v:Int):List cO:=S.map λt=>if t.id=id then⟨t.id,t.prio,t.whole,v⟩else t
def i5(S:List cO):List cO:=match hq S with
  | none=>S
  | some t=>if t.left=1 then h6 S t else iE S t.id (t.left-1)
def ke(S:List cO):List cO:=match hq S with
  | none=>S
  | some t=>h6 S t
theorem A6(u:t∈S)(x:Int):ep (h6 S t) x↔ep S x:=by
 have d:ep (h6 S t) x↔ep (eF S t.id) x\/t.id=x:=by simp[h6,ep,or_and_right,exists_or]
 rw[d,w3];constructor;rintro(h|h);simp_all;exact⟨t,u,h⟩;grind
theorem fO.A5(h:fO S)(d:t∈S):fO (h6 S t):=
 (h.off t.id).add (t:=⟨t.id,t.prio,t.whole,t.whole⟩) (PT S t.id) (by have:=h.rg t d;dsimp only;omega)
theorem A7(h:hY S)(d:t∈S):(h6 S t).length=S.length:=by have:=F3 h ⟨t,d,rfl⟩;grind[h6]
theorem GM(au:hY S)(u:t∈S){x:Nat}(d:t.prio=p)(w:x≠p):dz (h6 S t) x=dz S x:=by grind[h6,xl,GR,GP]
theorem Q8(au:hY S)(p:Nat):(dz S p).Nodup:=au.sublist (List.filter_sublist.map _)
theorem GL(au:hY S)(u:t.prio=p){rest:List Int}(hr:dz S p=t.id::rest):dz (h6 S t) p=rest++[t.id]:=by rw[h6,xl,GQ (by dsimp only;exact u),Ba,hr,VD cF];have d:=Q8 au p;rw[hr,UI]at d;rw[UU.2 λy w=>by simp only[decide_eq_true_eq];exact λe=>d.1 (by rw[<-e];exact w)]
theorem SL(h:hq S=some t)(C:t.prio=p):∃rest,dz S p=t.id::rest:=by obtain⟨hm,hle⟩:=ny h;have w:hq S=S.find? λt=>decide (t.prio=(p:Int)):=(by rw[hq];refine HN.find_congr λu hu=>?_;grind);rw[w,<-List.head?_filter]at h;cases d:S.filter (λt=>decide (t.prio=(p:Int)))with|nil=>rw[d]at h;cases h|cons a l=>rw[d]at h;simp only[List.head?_cons,V3]at h;exact⟨l.map (·.id),by rw[dz,d,h];rfl⟩
theorem Ra(rest:List Int):dJ 0 (((ints (x::rest)).drop (1*1)).take (rest.length*1)) (ints (x::rest))=ints (rest++(x::rest).drop rest.length):=by grind[dJ,ints,List.map_drop]
theorem Rg(rest:List Int):(rest++(x::rest).drop rest.length).set rest.length x=rest++[x]:=by
 rw[List.set_append_right _ _ (Uw _),Nat.sub_self];have d:((x::rest).drop rest.length).length=1:=cF
 grind[List.length_eq_one_iff]
theorem G2(S:List cO)(id v x:Int):ep (iE S id v) x↔ep S x:=by simp only[ep,iE,UE];grind
theorem xr(S:List cO)(id v:Int)(p:Nat):dz (iE S id v) p=dz S p:=by rw[dz,dz,iE,XB,W7];have d:((λt:cO=>decide (t.prio=(p:Int)))∘λt:cO=>if t.id=id then(⟨t.id,t.prio,t.whole,v⟩:cO)else t)=λt=>decide (t.prio=(p:Int)):=cr;rw[d];exact Vw λt _=>by simp only[X0];split<;>rfl
theorem RA(S:List cO)(id v:Int):(iE S id v).map (·.id)=S.map (·.id):=by rw[iE,W7];exact Vw λt _=>by simp only[X0];split<;>rfl
theorem Be(S:List cO)(id v:Int):(iE S id v).length=S.length:=by simp[iE]
theorem fO.iE{S:List cO}(h:fO S)(id:Int){v:Int}(hv:0<=v/\v<=16):fO (iE S id v) where
 bo:=by rw[hY,RA];exact h.bo
 rg:=λt d=>by obtain⟨u,hu,rfl⟩:=UE.1 d;have:=h.rg u hu;split;dsimp only;omega;exact this
theorem G3{L:List cO}(au:hY S)(w:S.Perm (t::L))(v:Int):(⟨t.id,t.prio,t.whole,v⟩::L:List cO).Perm (iE S t.id v):=by have d:=w.map λu:cO=>if u.id=t.id then(⟨u.id,u.prio,u.whole,v⟩:cO)else u;rw[UX,aw rfl]at d;have C:L.map (λu:cO=>if u.id=t.id then(⟨u.id,u.prio,u.whole,v⟩:cO)else u)=L:=(by(conv=>rhs;rw[<-List.map_id L]);refine Vw λu hu=>?_;have:=(UI.1 (au.perm w.symm)).1;simp_all);rw[C]at d;exact d.symm
theorem RC(h:hq S=some t)(v:Int):hq (iE S t.id v)=some ⟨t.id,t.prio,t.whole,v⟩:=by
 have D:∀u:cO,(if u.id=t.id then(⟨u.id,u.prio,u.whole,v⟩:cO)else u).prio=u.prio:=cr
 rw[hq,iE,List.find?_map];have d:((λa:cO=>(S.map λu:cO=>if u.id=t.id then(⟨u.id,u.prio,u.whole,v⟩:cO)else u).all λw=>decide (w.prio<=a.prio))∘λu:cO=>if u.id=t.id then(⟨u.id,u.prio,u.whole,v⟩:cO)else u)=λa=>S.all λw=>decide (w.prio<=a.prio):=cr;rw[d];have C:S.find? (λa=>S.all λw=>decide (w.prio<=a.prio))=some t:=h;simp_all
theorem RB(S:List cO)(id v:Int):eF (iE S id v) id=eF S id:=by
 rw[eF,eF,iE,XB];have d:((λu:cO=>decide (u.id≠id))∘λt:cO=>if t.id=id then(⟨t.id,t.prio,t.whole,v⟩:cO)else t)=λu=>decide (u.id≠id):=cr;rw[d];conv=>rhs;rw[<-List.map_id (S.filter _)]
 refine Vw λu hu=>?_;simp_all
theorem fO.nil:fO []:=⟨Va,λt h=>by cases h⟩
theorem not_neg(h:fO S):¬ep S (-1):=by rintro⟨t,d,u⟩;have:=h.rg t d;omega
end Go.Proofs.YtglgidjhoncphaaGreatDoor.Rd
namespace Go.Proofs.YtglgidjhoncphaaGreatDoor.Rd
open Go Go.QM
def ev(S:List cO)(p:Int):List Int:=if 0<=p/\p<=7 then dz S p.toNat else[]
theorem Rb{S:List cO}{p:Nat}{x:Int}:(dz S p).filter (gL λy=>decide (y=x))=dz (eF S x) p:=by grind[Ba,List.filter_congr,gL]
theorem Qi{S L:List cO}{t:cO}(h:hY S)(d:S.Perm (t::L))(u:cO):(u::L).Perm (eF S t.id++[u]):=
 ((AL h d).symm.cons u).trans (Vt _ _).symm
variable(d7:Nat)
theorem Q2(aE:Nat)(F:ax):aF (ah [aj d7 261 (gq (λ_=>.slice none 0 0) [.map (some aE)]),bC QM.encI aE (λ_=>none) 0,F]) (ah [eI d7 [],F]):=by
 have u:iK (λ_=>0) []=λ_=>none:=by trivial
 have d:Vu 8=[0,1,2,3,4,5,6,7]:=kx
 refine(mZ (f:=rO (λ_=>0)) _).trans ?_;refine(((dH 3 1 _).trans ((dH 3 1 _).trans ((dH 3 1 _).trans ((dH 3 1 _).trans ((dH 3 1 _).trans ((dH 3 1 _).trans ((dH 3 1 _).trans (dH 3 1 _)))))))):aF _ (ah [aT 3 1 none 0 0 [],aT 3 1 none 0 0 [],aT 3 1 none 0 0 [],aT 3 1 none 0 0 [],aT 3 1 none 0 0 [],aT 3 1 none 0 0 [],aT 3 1 none 0 0 [],aT 3 1 none 0 0 [],_,_,_,_])).trans ?_;refine ay (⟨λ_=>none,λ_=>0,aE,λ_=>0⟩:Ch) fO.nil ?_;refine bN 9 rfl ?_;refine(show aF (ah [aT 3 1 none 0 0 [],aT 3 1 none 0 0 [],aT 3 1 none 0 0 [],aT 3 1 none 0 0 [],aT 3 1 none 0 0 [],aT 3 1 none 0 0 [],aT 3 1 none 0 0 [],aT 3 1 none 0 0 [],b7 (rO λ_=>0) [],bC QM.encI aE (λ_=>none) 0,F]) (ah [b7 (lU (λ_=>none) (λ_=>0) []) (Vu 8),bC QM.encI aE (iK (λ_=>0) []) 0,b7 (rO λ_=>0) [],F])from ?_);rw[u,b7,d];refine(uG [aT 3 1 none 0 0 [],aT 3 1 none 0 0 [],aT 3 1 none 0 0 [],aT 3 1 none 0 0 [],aT 3 1 none 0 0 [],aT 3 1 none 0 0 [],aT 3 1 none 0 0 [],aT 3 1 none 0 0 []] _).trans (dP (U5 _) ?_);exact bN 1 rfl (aq (aq (a6 _)))
theorem Q3:bI 191 [] be [] (λd7:Nat=>ae d7) (λ_=>True) (λd7=>[eI d7 []]):=by
 apply aH Tryz.func191 Tryz.ntmps191;intro F _;refine J [9,272,26,333] ?_;intro ba;first|refine q rfl rfl (eh (cs:=[.slice _ _ _,.slice _ _ _,.slice _ _ _,.slice _ _ _,.slice _ _ _,.slice _ _ _,.slice _ _ _,.slice _ _ _,.map _]) rfl) ?_|refine q rfl rfl (eh (cs:=[_,_,_,_,_,_,_,_,_]) rfl) ?_
 refine e rfl ?_;refine eV (v:=.agg _) (l:=[.slice _ _ _,.slice _ _ _,.slice _ _ _,.slice _ _ _,.slice _ _ _,.slice _ _ _,.slice _ _ _,.slice _ _ _,.map _]) rfl rfl ?_;intro bw;apply J [109];have d:Vu 8=[0,1,2,3,4,5,6,7]:=kx
 exact bn bw trivial (Q2 bw ba F)
theorem qF(r:Nat->Value)(aE n:Nat)(f:Int->Option Value)(id:Int):br 241 [ae d7,aa id] be [aj d7 261 (gq r [.map (some aE)]),bC QM.encI aE f n] ((f id).getD (.pointer none)) [aj d7 261 (gq r [.map (some aE)]),bC QM.encI aE f n]:=by apply aH Tryz.func241 Tryz.ntmps241;intro F _;apply J [12,24,149,25,135,154,100,135,80,279,288];refine q rfl rfl (j8 3 368 rfl rfl (dM.int rfl) rfl rfl) ?_;apply J [149,233];exact fa (aq (aq (aq (a6 _))))
theorem Cu(b:Nat)(w l r:Int):br 242 [ae b] be [aj b 373 [aa w,aa l,aa r]] (.tuple #[]) [aj b 373 [aa w,aa w,aa r]]:=by apply aH Tryz.func242 Tryz.ntmps242;intro F _;apply J [1,36,157,53,267,190,332];exact xY
theorem Sb(b:Nat)(w l r:Int)(d:0<=l/\l<=100):br 276 [ae b] be [aj b 373 [aa w,aa l,aa r]] (.bool (decide (l-1=0))) [aj b 373 [aa w,aa (l-1),aa r]]:=by apply aH Tryz.func276 Tryz.ntmps276;intro F _;refine J [1,67,64,241,267,343,64,262,65] ?_;exact hI
theorem Lz(b:Nat)(id x:Int):br 382 [aa x,ae b] (λF=>Rd F b (.cells #[aa id] 3 (0,0))) [] (.bool (decide (x=id))) []:=by apply aH Tryz.func382 Tryz.ntmps382;intro F d;apply J [9];haveI:fP F b (.cells #[aa id] 3 (0,0)):=⟨d⟩;apply J [223,82,262,65];exact jY
theorem qH(S:List cO)(au:S.length<=1000000):br 105 [ae d7] be [eI d7 S] (aa (dB S)) [eI d7 S]:=by
 apply aH Tryz.func105 Tryz.ntmps105;intro F _;apply J [1];refine ab.open 0 rfl (λd H=>?_);obtain⟨ad,cap,aE,A⟩:=d;have u:=H;apply J [84];dsimp only at u⊢;apply J [38,266];refine UZ (ι:=Nat) (λk=>k<=8/\∀x,k<=x->x<8->dz S x=[]) (λk=>[(0,ae d7),(3,aa ((k:Int)-1))]) (λk=>ah [aj d7 261 (tV ad cap aE S),b7 (lU ad cap S) (Vu 8),bC QM.encI aE (iK A S) S.length,b7 (rO A) S,F]) (λk=>k) 8 ⟨Uw _,λx D w=>by omega⟩ bu (aq (aq (aq (aq (aq (a6 _)))))) ?_;rintro k ⟨P,C⟩ aC;dsimp only[ct]at P C⊢;apply J [7,37,254,18];refine UG 7 rfl (c:=true) rfl ?_;apply J [16,310,268];apply Ur rfl<;>intro Z;obtain⟨p,rfl⟩:∃z,k=z+1:=⟨k-1,by omega⟩;rw[show(((p+1:Nat):Int)-1)=(p:Int)from by omega];have oD:p<8:=U
 obtain⟨L,E,W⟩:=xk oD;refine VM (fR 1 rfl E) ?_;apply J [62,34,80,81];refine q rfl rfl (k1 8 90 1 rfl rfl rfl U U) ?_;refine q rfl rfl (gJ rfl rfl (GY oD U)) ?_;apply J [21,221,331,165,3];apply Ur rfl<;>intro hlen;obtain⟨d,rest,V⟩:∃d rest,dz S p=d::rest:=(by cases Q:dz S p with|nil=>rw[Q]at hlen;simp at hlen|cons a l=>exact⟨a,l,rfl⟩);obtain⟨t,ao,ar,ax⟩:=HN u (λx D w=>C x U w) V;have hv:dB S=d:=by grind[dB]
 rw[hv];have H:(dz S p)[0]? =some d:=b2
 have ag:=eb (dz S p);have an:0<(ints (dz S p)).length:=U
 refine J [35,519] ?_;refine q rfl rfl (dv rfl rfl (hN H)) ?_;apply J [27,163];exact fa (ay ⟨ad,cap,aE,A⟩ u (bp (cU 0 0 p rfl rfl rfl (λ_ _=>rfl) E.symm (aq (aq (aq (a6 _)))))));refine J [23,212,241,27] ?_;exact⟨rfl,p,⟨by omega,λx D w=>by rcases Nat.lt_or_eq_of_le D with N|N;exact C x U w;subst N;exact List.length_eq_zero_iff.1 U⟩,U,bu,(bp (cU 0 0 p rfl rfl rfl (λ_ _=>rfl) E.symm (aq (aq (aq (a6 _))))))⟩;obtain rfl:k=0:=by omega
 have O:=SM u (λx h=>C x U h);have hv:dB S=-1:=by rw[O];rfl
 rw[hv];apply J [22,207];exact fa (ay ⟨ad,cap,aE,A⟩ u (aq (aq (aq (aq (aq (a6 _)))))))
theorem vo(S:List cO)(au:S.length<=1000000)(id pr d:Int):br 197 [ae d7,aa id,aa pr,aa d] be [eI d7 S] (aa (gu S id pr d).2) [eI d7 (gu S id pr d).1]:=by
 apply aH Tryz.func197 Tryz.ntmps197;intro F _;apply J [1,38,76,217];refine UG 13 rfl (c:=false) rfl ?_;apply J [200,50];refine aO.split 17 rfl (λC=>?_) (λC=>?_);have C:=ds C;have hv:gu S id pr d=(S,1):=by rw[gu,aw U]
 rw[hv];dsimp only;apply J [336,336,336,49,196,45];exact hI;have C:=dV C;apply J [200,50];refine aO.split 21 rfl (λD=>?_) (λD=>?_);have D:=ds D;have hv:gu S id pr d=(S,1):=by rw[gu,aw U]
 rw[hv];dsimp only;apply J [336,336,49,196,45];exact hI;have D:=dV D;apply J [169,50];refine aO.split 25 rfl (λE=>?_) (λE=>?_);have E:=ds E;have hv:gu S id pr d=(S,1):=by rw[gu,aw U]
 rw[hv];dsimp only;apply J [336,49,196,45];exact hI;have E:=dV E;apply J [200,50];refine aO.split 29 rfl (λH=>?_) (λH=>?_);have H:=ds H;have hv:gu S id pr d=(S,1):=by rw[gu,aw U]
 rw[hv];dsimp only;apply J [49,196,45];exact hI;have H:=dV H;apply J [169,182];apply Ur rfl<;>intro aX;have hv:gu S id pr d=(S,1):=by rw[gu,aw U]
 rw[hv];dsimp only;apply J [45];exact hI;refine ab.open 0 rfl (λax ar=>?_);obtain⟨ad,cap,aE,A⟩:=ax;have O:=ar;apply J [84];dsimp only at O⊢;by_cases w:ep S id;have N:=vS (A:=A) w;have hv:gu S id pr d=(S,7):=by rw[gu,al U,aw w]
 rw[hv];dsimp only;apply J [32];refine aL (qF d7 _ aE S.length (iK A S) id) rfl (dY 0 rfl (dY 1 rfl (eA _))) trivial ?_;intro _ _;apply J [10];rw[N];apply J [254,348,45];exact fa (ay ⟨ad,cap,aE,A⟩ O (aq (bW (aq (aq (aq (a6 _)))))));have N:=vR (A:=A) w;have hv:gu S id pr d=(S++[⟨id,pr,d,d⟩],0):=by rw[gu,al U,al w]
 rw[hv];dsimp only;obtain⟨p,rfl⟩:=Vq (show 0<=pr by omega);have oD:p<8:=U
 obtain⟨L,P,an⟩:=xk oD;have aQ:=A8 S p;have ao:=O.add (t:=⟨id,p,d,d⟩) w cH;have Q:∀x,x≠p->dz (S++[⟨id,(p:Int),d,d⟩]) x=dz S x:=by grind[xl,GR]
 have V:dz (S++[⟨id,(p:Int),d,d⟩]) p=dz S p++[id]:=by grind[xl,GQ]
 have aK:=eb (dz S p);refine VM (fR 1 rfl P) ?_;apply J [32];refine aL (qF d7 _ aE S.length (iK A S) id) rfl (dY 2 rfl (dY 2 rfl (eA _))) trivial ?_;intro _ _;apply J [13];rw[N];apply J [254,189,23,29];first|refine q rfl rfl (eh (cs:=[.int _ _,.int _ _]) rfl) ?_|refine q rfl rfl (eh (cs:=[_,_]) rfl) ?_
 apply J [2];first|refine q rfl rfl (eh (cs:=[.int _ _,.int _ _,.int _ _]) rfl) ?_|refine q rfl rfl (eh (cs:=[_,_,_]) rfl) ?_
 refine J [0,289] ?_;intro b4;apply J [159,3,46,0];refine aL (Cu b4 d 0 p) rfl (dY 0 rfl (eA _)) trivial ?_;intro _ _;apply J [17,3,126,279,2,157,20];refine lK 3 368 rfl (dM.int rfl) rfl rfl rfl ?_;apply J [25];refine ab.draw _ [14] [0,1,2,3,4,5,6,7,8,11,12,-9,-10,13,-14] aR aR (bp (a6 _)) ?_;refine J [77,14,77,14,88,87,438,520,14,88,87,11,148] ?_;intro aC;refine J [43,575] ?_;intro W Z;refine J [5,438,91,576,75,207] ?_;exact fa (ay ⟨dF ad p W,dF cap p Z,aE,aP A id b4⟩ ao (ca 0 rfl (congrArg (aj d7 261) (Ee (n:=(dz S p).length+1) Q (by rw[V,mp];rfl))) (cU 0 3 p rfl rfl (by dsimp only[lU];rw[jv,jv,V,mp,Ux,pv]) (GZ an Q) P.symm (ca 1 rfl (by dsimp only;rw[LU (t:=⟨id,(p:Int),d,d⟩),N,mp];rfl) (cU 1 1 ⟨id,(p:Int),d,d⟩ rfl rfl (by dsimp only[rO];rw[ci];rfl) (λu hu=>by dsimp only[rO];rw[bM (λag=>w ⟨u,hu,ag⟩)]) (Vt _ _).symm (bW (a6 _)))))))
end Go.Proofs.YtglgidjhoncphaaGreatDoor.Rd
namespace Go.Proofs.YtglgidjhoncphaaGreatDoor.Rd
open Go Go.QM
theorem row_one(xs:List Int)(a b:Nat):(((ints xs).drop a).take b).all UY=true:=by grind[rm]
theorem Q1(S:List cO)(t:cO)(v:Int):h6 (iE S t.id v) ⟨t.id,t.prio,t.whole,v⟩=h6 S t:=by rw[h6,RB];rfl
theorem Q0{S:List cO}(au:hY S){t:cO}(u:t∈S){p:Nat}(d:t.prio=p){rest:List Int}(hr:dz S p=t.id::rest)(x:Nat):(dz (h6 S t) x).length=(dz S x).length:=by by_cases e:x=p;rw[e,GL au d hr,hr];simp;grind[GM]
theorem fO.tick{S:List cO}(h:fO S)(d:∀t∈S,1<=t.left):fO (i5 S):=by rw[i5];cases u:hq S with|none=>exact h|some t=>have hm:=(ny u).1;have w:=h.rg t hm;have C:=d t hm;dsimp only;split;exact h.A5 hm;exact h.iE t.id U
theorem QZ{S:List cO}(h:fO S)(u:∀t∈S,1<=t.left):(i5 S).length=S.length:=by rw[i5];cases d:hq S with|none=>rfl|some t=>dsimp only;split;exact A7 h.bo (ny d).1;exact Be _ _ _
variable(d7:Nat)
theorem GN(S:List cO)(au:S.length<=1000000)(t:cO)(E:hq S=some t):br 277 [ae d7,aa t.id] be [eI d7 S] (.tuple #[]) [eI d7 (h6 S t)]:=by
 apply aH Tryz.func277 Tryz.ntmps277;intro F _;apply J [1];refine ab.open 0 rfl (λZ W=>?_);obtain⟨ad,cap,aE,A⟩:=Z;have d:=W;apply J [84];dsimp only at d⊢;have u:=(ny E).1;have Q:=d.rg t u;obtain⟨p,w⟩:=Vq Q.2.1.1;have oD:p<8:=U
 obtain⟨rest,C⟩:=SL E w;obtain⟨L,D,H⟩:=xk oD;obtain⟨M,bG⟩:=fv u;have O:=vS (A:=A) ⟨t,u,rfl⟩;have P:=A8 S p;rw[C,UP]at P;apply J [389];refine VM (fR 3 rfl D) ?_;apply J [32];refine aL (qF d7 _ aE S.length (iK A S) t.id) rfl (dY 4 rfl (dY 4 rfl (eA _))) trivial ?_;intro _ _;apply J [17];rw[O];apply J [55,41,46,0];refine aL (Cu (A t.id) t.whole t.left t.prio) rfl (dY 4 rfl (eA _)) trivial ?_;intro _ _;refine J [17,25,521,77,185,88,87,438,520,334,75,7] ?_;dsimp only[lU];rw[C,UP];refine ab.m6 3 rfl (λ_ N _=>?_);haveI:r9 (ints (t.id::rest)) (cap p) 1 1:=⟨rest.length+1,by rw[eb];simp,by omega,N⟩;have ag:0<(ints (rest++(t.id::rest).drop rest.length)).length:=by grind[eb]
 apply J [243,114,86];refine q rfl rfl (n6 3 1 (1) rfl rfl rfl U U) ?_;refine e rfl ?_;refine KZ rest.length rfl rfl rfl (by rw[List.length_drop,eb];simp) (Nat.min_eq_left (Nat.sub_le _ _)) (by rw[eb];exact Nat.succ_pos _) (row_one _ _ _) (Ra t.id rest) ?_;refine J [3,114,86,331,241,2,519,20] ?_;refine ef (v:=.int _ _) (vs:=[_]) 1 rfl rfl rfl rfl rfl rfl am (by rw[eb];simp) ((wk (i:=rest.length) cF U _).trans (congrArg ints (Rg t.id rest))) ?_;refine aO.nil ?_;exact qd (ay ⟨ad,cap,aE,A⟩ (d.A5 u) (ca 2 rfl (congrArg (aj d7 261) (zx (Q0 d.bo u w C))) (cU 0 2 p rfl rfl (by dsimp only[lU];rw[GL d.bo w C,mp];rfl) (Ri H (λx V=>GM d.bo u w V)) D.symm (ca 1 rfl (by rw[DR (A6 u),A7 d.bo u]) (cU 0 0 ⟨t.id,t.prio,t.whole,t.whole⟩ rfl rfl rfl (λ_ _=>rfl) (Qi d.bo bG _) (aq (a6 _)))))))
theorem Q7(S:List cO)(au:S.length<=1000000)(id:Int)(w:¬ep S id):br 277 [ae d7,aa id] be [eI d7 S] (.tuple #[]) [eI d7 S]:=by apply aH Tryz.func277 Tryz.ntmps277;intro F _;apply J [1];refine ab.open 0 rfl (λD C=>?_);obtain⟨ad,cap,aE,A⟩:=D;have d:=C;apply J [84];dsimp only at d⊢;have u:=vR (A:=A) w;apply J [32];refine aL (qF d7 _ aE S.length (iK A S) id) rfl (dY 0 rfl (dY 1 rfl (eA _))) trivial ?_;intro _ _;apply J [10];rw[u];apply J [55,106,122,83];exact Jp (ay ⟨ad,cap,aE,A⟩ d (aq (bW (aq (aq (aq (a6 _)))))))
theorem QG(S:List cO)(au:S.length<=1000000)(H:∀t∈S,1<=t.left):br 213 [ae d7] be [eI d7 S] (aa (dB (i5 S))) [eI d7 (i5 S)]:=by
 apply aH Tryz.func213 Tryz.ntmps213;intro F _;apply J [1,102,69];refine aL (qH d7 S au) rfl (dY 0 rfl (eA _)) trivial ?_;intro _ _;apply J [6,31,7];refine ab.open 0 rfl (λP O=>?_);obtain⟨ad,cap,aE,A⟩:=P;have d:=O;apply J [84];dsimp only at d⊢;have N:=QZ d H;cases w:hq S with|none=>?_|some t=>?_
 have hv:i5 S=S:=by grind[i5]
 have u:dB S=-1:=by grind[dB]
 have D:=vR (A:=A) (not_neg d);rw[u,hv];apply J [175];refine aL (qF d7 _ aE S.length (iK A S) (-1)) rfl (dY 0 rfl (dY 1 rfl (eA _))) trivial ?_;intro _ _;apply J [10];rw[D];apply J [159,205,254,18];refine UG 12 rfl (c:=false) rfl ?_;apply J [48,93,100,37];refine aO.bf (B:=ah [eI d7 S,F]) (ay ⟨ad,cap,aE,A⟩ d (aq (bW (aq (aq (aq (a6 _))))))) ?_;refine e rfl ?_;refine aL (qH d7 S au) rfl (dY 0 rfl (eA _)) trivial ?_;intro _ _;apply J [6];rw[u];apply J [30];exact hI;have C:=(ny w).1;have W:=d.rg t C;have V:=H t C;have u:dB S=t.id:=by grind[dB]
 obtain⟨M,bG⟩:=fv C;have D:=vS (A:=A) ⟨t,C,rfl⟩;have E:=d.iE t.id (v:=t.left-1) U;rw[u];apply J [389,175];refine aL (qF d7 _ aE S.length (iK A S) t.id) rfl (dY 2 rfl (dY 3 rfl (eA _))) trivial ?_;intro _ _;apply J [13];rw[D];apply J [159,205,254,18];refine UG 12 rfl (c:=true) rfl ?_;apply J [138,371,90];refine aL (Sb (A t.id) t.whole t.left t.prio U) rfl (dY 2 rfl (eA _)) trivial ?_;intro _ _;apply J [13,268];apply Ur rfl<;>intro Q;refine VM (B:=ah [eI d7 (iE S t.id (t.left-1)),F]) (ay ⟨ad,cap,aE,A⟩ E (ca 1 rfl (congrArg (aj d7 261) (zx (λx=>by rw[xr]))) (ow 3 rfl (λx _=>by dsimp only[lU];rw[xr]) (V2 _) (ca 1 rfl Fs (cU 0 0 ⟨t.id,t.prio,t.whole,t.left-1⟩ rfl rfl rfl (λ_ _=>rfl) (G3 d.bo bG _) (aq (a6 _))))))) ?_;have hv:i5 S=h6 S t:=by rw[i5,w];dsimp only;rw[aw U]
 rw[hv]at N⊢;apply J [175];refine aL (GN d7 (iE S t.id (t.left-1)) (by rw[Be];exact au) ⟨t.id,t.prio,t.whole,t.left-1⟩ (RC w _)) rfl (dY 0 rfl (eA _)) trivial ?_;intro _ _;apply J [6];rw[Q1];apply J [3,69];refine aL (qH d7 (h6 S t) U) rfl (dY 0 rfl (eA _)) trivial ?_;intro _ _;apply J [6,30];exact hI;refine VM (B:=ah [eI d7 (iE S t.id (t.left-1)),F]) (ay ⟨ad,cap,aE,A⟩ E (ca 1 rfl (congrArg (aj d7 261) (zx (λx=>by rw[xr]))) (ow 3 rfl (λx _=>by dsimp only[lU];rw[xr]) (V2 _) (ca 1 rfl Fs (cU 0 0 ⟨t.id,t.prio,t.whole,t.left-1⟩ rfl rfl rfl (λ_ _=>rfl) (G3 d.bo bG _) (aq (a6 _))))))) ?_;have hv:i5 S=(iE S t.id (t.left-1)):=by rw[i5,w];dsimp only;rw[al U]
 rw[hv]at N⊢;apply J [4,69];refine aL (qH d7 (iE S t.id (t.left-1)) U) rfl (dY 0 rfl (eA _)) trivial ?_;intro _ _;apply J [6,30];exact hI
theorem TP(S:List cO)(au:S.length<=1000000)(u:fO S):br 363 [ae d7] be [eI d7 S] (aa (dB (ke S))) [eI d7 (ke S)]:=by
 apply aH Tryz.func363 Tryz.ntmps363;intro F _;apply J [1,102,37,157,0];apply ao (qH d7 S au);apply J [6];cases w:hq S with|none=>?_|some t=>?_
 have hv:ke S=S:=by grind[ke]
 have d:dB S=-1:=by grind[dB]
 rw[hv,d];refine e rfl ?_;apply ao (Q7 d7 S au (-1) (not_neg u));apply J [6,3,69];apply ao (qH d7 S au);apply J [6];rw[d];apply J [30];exact hI;have hv:ke S=h6 S t:=by grind[ke]
 have d:dB S=t.id:=by grind[dB]
 have C:=A7 u.bo (ny w).1;rw[hv,d];refine e rfl ?_;apply ao (GN d7 S au t w);apply J [6,3,69];apply ao (qH d7 (h6 S t) U);apply J [6,30];exact hI
theorem y1(S:List cO)(au:S.length<=1000000)(a2:Option Addr)(c2:Nat)(xs:List Int)(ao:xs.length<=1000000):br 360 [ae d7,.slice a2 xs.length c2] (λF=>∃E,cM F E a2 (ints xs)) [eI d7 S] (aa ((S.length:Int)-(gx S xs).length)) [eI d7 (gx S xs)]:=by
 apply aH Tryz.func360 Tryz.ntmps360;intro F ⟨E,P⟩;apply J [1];haveI:bl F a2 E (ints xs):=⟨P⟩;have a4:=eb xs;apply J [102,38,35,174];refine UZ (ι:=Nat×List cO) (λs=>s.1<=xs.length/\s.2=gx S (xs.take s.1)) (λs=>[(0,ae d7),(5,aa ((S.length:Int)-(s.2.length:Int))),(9,.slice a2 xs.length c2),(10,aa xs.length),(11,aa ((s.1:Nat):Int))]) (λs=>ah [eI d7 s.2,F]) (λs=>xs.length-s.1) ⟨0,S⟩ ⟨Uv _,rfl⟩ ⟨rfl,congrArg (VA .i64) (Int.sub_self _).symm,rfl,rfl,rfl,trivial⟩ (aq (aq (a6 _))) ?_;rintro⟨k,Z⟩ ⟨V,C⟩ a5;dsimp only[ct]at V C⊢;apply J [40];apply Ur rfl<;>intro aK;have W:k<xs.length:=U
 obtain⟨x,qu⟩:∃x,xs[k]? =some x:=⟨xs[k],Uo W⟩;have a0:0<(ints xs).length:=U
 have O:gx S (xs.take (k+1))=eF Z x:=by grind[UF,LB]
 have aC:Z.length<=S.length:=by grind[nR]
 refine J [187,522,0] ?_;refine gv (l:=[.int _ _]) rfl rfl ?_;intro ba;apply J [190,25];refine VM (ju) ?_;apply J [12];refine ab.open 0 rfl (λax ar=>?_);obtain⟨ad,cap,aE,A⟩:=ax;have d:=ar;apply J [156];dsimp only at d⊢;by_cases u:ep Z x;have w:=vS (A:=A) u;have aQ:=F3 d.bo u;obtain⟨t,D,rfl⟩:=u;have an:=d.rg t D;obtain⟨p,aX⟩:=Vq an.2.1.1;have oD:p<8:=U
 obtain⟨L,H,Q⟩:=xk oD;obtain⟨M,bG⟩:=fv D;have a3:=A8 Z p;have N:∀x,x≠p->dz (eF Z t.id) x=dz Z x:=λx ao=>GP d.bo D U;apply J [389];refine VM (fR 3 rfl H) ?_;apply J [36,82,0];refine aL (qF d7 _ aE Z.length (iK A Z) t.id) rfl (dY 4 rfl (dY 4 rfl (eA _))) trivial ?_;intro _ _;apply J [78];rw[w];apply J [55,106,121];refine ab.draw _ [19] [0,1,2,3,4,5,6,7,8,9,10,11,12,13,14,16,17,-15,18,-19] aR aR (aq (cY (a6 _))) ?_;refine J [77,185,77,185,88,87,438,520,577,88,87,11] ?_;refine aL (vM (ad p) (cap p) (dz Z p) 382 [ae ba] (λy=>decide (y=t.id)) (λF=>Rd F ba (.cells #[aa t.id] 3 (0,0))) (λy=>Lz ba t.id y) U (λ_ h=>jb h) (λ_ _ h=>lr (jb h))) rfl (dY 2 rfl (eA _)) fP.rd ?_;intro _ _;refine J [290,5] ?_;rw[Rb];refine J [438,91,576,75,7] ?_;refine cx [0,1,2,3,4,-5] (aq (eE (a6 _))) ?_;apply J [359,523,94,94,257];refine lB 3 368 rfl (dM.int rfl) rfl rfl rfl ?_;refine J [108,347,73,60] ?_;exact⟨rfl,⟨k+1,eF Z t.id⟩,⟨by dsimp only;omega,O.symm⟩,cH,⟨rfl,congrArg (VA .i64) cH,rfl,rfl,rfl,trivial⟩,(ay ⟨dF ad p (ad p),dF cap p (cap p),aE,A⟩ (d.off t.id) (ca 1 rfl (congrArg (aj d7 261) (Ee (n:=(dz (eF Z t.id) p).length) N rfl)) (cU 1 1 p rfl rfl (by dsimp only[lU];rw[jv,jv]) (GZ Q N) H.symm (ca 0 rfl (by rw[LV,w,show(eF Z t.id).length=Z.length-1 from by omega];rfl) (ow 1 rfl (λ_ _=>rfl) (AL d.bo bG).symm (bp (a6 _)))))))⟩;have w:=vR (A:=A) u;have ag:=PS u;apply J [36,82,0];refine aL (qF d7 _ aE Z.length (iK A Z) x) rfl (dY 0 rfl (dY 1 rfl (eA _))) trivial ?_;intro _ _;apply J [13];rw[w];apply J [55,106,122];refine ab.exit (kn (ov (h5 ?_)));refine J [346] ?_;exact⟨rfl,⟨k+1,Z⟩,⟨by dsimp only;omega,by dsimp only;rw[O,ag]⟩,cH,bu,(ay ⟨ad,cap,aE,A⟩ d (aq (bW (aq (aq (bW (a6 _)))))))⟩;obtain rfl:k=xs.length:=U
 rw[U9]at C;subst C;apply J [22,132];exact hI
end Go.Proofs.YtglgidjhoncphaaGreatDoor.Rd
namespace Go.Proofs.YtglgidjhoncphaaGreatDoor.ir
open Go Go.QM
structure cZ where
  at_:Int
  cm:Int
  id:Int
def mH(e:cZ):List Value:=ints [e.at_,e.cm,e.id]
theorem lD(e:cZ):(mH e).length=3:=rfl
def hM(H:List cZ):List Value:=H.flatMap mH
theorem pk(H:List cZ):(hM H).length=H.length*3:=kp lD H
def hi(a b:cZ):Prop:=a.at_<b.at_\/a.at_=b.at_/\a.cm<b.cm
instance (a b:cZ):Decidable (hi a b):=inferInstanceAs (Decidable (a.at_<b.at_\/a.at_=b.at_/\a.cm<b.cm))
def cy(L:List cZ)(k:Nat):cZ:=L.getD k ⟨0,0,0⟩
variable{L:List cZ}{k:Nat}
theorem mM(h:k<L.length):L[k]? =some (cy L k):=by simp[cy,h]
theorem zp{e:cZ}(h:L[k]? =some e):cy L k=e:=by simp[cy,Vl,h]
theorem zo(h:k<L.length):cy L k∈L:=List.mem_of_getElem? (mM h)
variable{i:Nat}
theorem oz(h:i<L.length)(e:cZ)(k:Nat):cy (L.set i e) k=if k=i then e else cy L k:=by simp only[cy,Vl,List.getElem?_set];grind
theorem G7(h:i<L.length):L.set i (cy L i)=L:=by grind[cy,List.set_getElem_self]
def kM(L:List cZ)(k:Nat):Prop:=¬hi (cy L k) (cy L ((k-1)/2))
def ln(L:List cZ):Prop:=∀k,0<k->k<L.length->kM L k
structure p3(L:List cZ)(i:Nat):Prop where
  a:∀k,0<k->k<L.length->k≠i->(k-1)/2≠i->kM L k
  b:∀k,0<k->k<L.length->(k-1)/2=i->0<i->¬hi (cy L k) (cy L ((i-1)/2))
structure nB(L:List cZ)(i:Nat):Prop where
  a:∀k,0<k->k<L.length->k≠i->kM L k
  b:∀k,0<k->k<L.length->(k-1)/2=i->0<i->¬hi (cy L k) (cy L ((i-1)/2))
def swp(L:List cZ)(i k:Nat):List cZ:=(L.set i (cy L k)).set k (cy L i)
theorem qN(L:List cZ)(i k:Nat):(swp L i k).length=L.length:=by simp[swp]
theorem Bp(d:i<L.length)(u:k<L.length):(swp L i k).Perm L:=by grind[cy,swp,List.set_set_perm]
theorem qq(d:i<L.length)(u:k<L.length)(j:Nat):cy (swp L i k) j=if j=k then cy L i else if j=i then cy L k else cy L j:=by grind[swp,oz]
theorem p3.step(h:p3 L i)(E:i<L.length)(N:0<k)(D:k<L.length)(H:(k-1)/2=i)(W:hi (cy L k) (cy L i))
 (O:∀s,0<s->s<L.length->(s-1)/2=i->¬hi (cy L s) (cy L k)):p3 (swp L i k) k where
 a:=λj w d P V=>by rw[qN]at d;have C:=qq E D;simp only[kM,C];rw[al P,al V];by_cases e:j=i;rw[aw e,al U];have:=h.b k N D H U;rw[e];exact this;rw[al e];by_cases u:(j-1)/2=i;rw[aw u];exact O j w d u;rw[al u];exact h.a j w d e u
 b:=λj w d Q _=>by rw[qN]at d;have C:=qq E D;simp only[C];rw[al U,al U,al U,aw H];have:=h.a j w d U U;rw[kM,Q]at this;exact this
theorem p3.exit(h:p3 L i)(w:∀s,0<s->s<L.length->(s-1)/2=i->¬hi (cy L s) (cy L i)):nB L i where
 a:=λk d u C=>by by_cases e:(k-1)/2=i;rw[kM,e];exact w k d u e;exact h.a k d u C e
 b:=h.b
theorem nB.step(h:nB L i)(N:i<L.length)(P:0<i)(O:hi (cy L i) (cy L ((i-1)/2))):nB (swp L i ((i-1)/2)) ((i-1)/2) where
 a:=λj u d Q=>by
  rw[qN]at d;have w:(i-1)/2<L.length:=U
  have E:=qq N w;simp only[kM,E];rw[al Q];by_cases e:j=i;subst e;rw[aw rfl,aw rfl];simp only[hi]at O⊢;omega;rw[al e];by_cases C:(j-1)/2=(i-1)/2;rw[aw C];have:=h.a j u d e;rw[kM,C]at this;simp only[hi]at this O⊢;omega;rw[al C];by_cases D:(j-1)/2=i;rw[aw D];exact h.b j u d D P;rw[al D];exact h.a j u d e
 b:=λj u d V gd=>by
  rw[qN]at d;have w:(i-1)/2<L.length:=U
  have E:=qq N w;simp only[E];have H:=h.a ((i-1)/2) gd w U;rw[kM]at H;rw[al U,al (by omega:((i-1)/2-1)/2≠(i-1)/2),al (by omega:((i-1)/2-1)/2≠i)];by_cases e:j=i;rw[aw e];exact H;rw[al e];have:=h.a j u d e;rw[kM,V]at this;simp only[hi]at this H⊢;omega
theorem nB.exit(h:nB L i)(he:i=0\/¬hi (cy L i) (cy L ((i-1)/2))):ln L:=λk d u=>by
 by_cases e:k=i
 ·subst e
  rcases he with he|he
  ·omega
  exact he
 exact h.a k d u e
theorem ln.hole(h:ln L)(i:Nat):nB L i where
 a:=λk d u _=>h k d u
 b:=λk d u E D=>by have w:=h k d u;have C:=h i D U;rw[kM,E]at w;rw[kM]at C;simp only[hi]at w C⊢;omega
theorem ln.min(h:ln L):∀k,k<L.length->¬hi (cy L k) (cy L 0):=by intro k;induction k using Nat.strongRecOn with|_ k D=>intro C;by_cases u:k=0;subst u;simp only[hi];omega;have d:=h k U C;have w:=D ((k-1)/2) U U;rw[kM]at d;simp only[hi]at d w⊢;omega
structure nG(f:Int->Option Value)(L:List cZ)(i:Nat):Prop where
  a:∀j,j<L.length->j≠i->f (cy L j).id=some (.int .i64 j)
  b:∀x,(∀j,j<L.length->(cy L j).id≠x)->f x=none
structure jP(f:Int->Option Value)(L:List cZ):Prop where
  a:∀j,j<L.length->f (cy L j).id=some (.int .i64 j)
  b:∀x,(∀j,j<L.length->(cy L j).id≠x)->f x=none
def gF(L:List cZ):Prop:=(L.map (·.id)).Nodup
theorem gF.perm{M:List cZ}(h:gF L)(p:M.Perm L):gF M:=(p.map _).nodup_iff.2 h
theorem gF.inj(h:gF L){j:Nat}(C:j<L.length)(D:k<L.length)(e:(cy L j).id=(cy L k).id):j=k:=by
 have d:(L.map (·.id))[j]? =some (cy L j).id:=by grind[mM]
 have u:(L.map (·.id))[k]? =some (cy L k).id:=by grind[mM]
 rw[e]at d;obtain⟨w,ba⟩:=Uz.1 d;obtain⟨a2,bw⟩:=Uz.1 u;have E:=List.pairwise_iff_getElem.1 h;grind
theorem nG.step{f:Int->Option Value}(h:nG f L i)(au:gF L)(u:i<L.length)(d:k<L.length)(N:k≠i):nG (fe f (cy L k).id (aa i)) (swp L i k) k where
 a:=λj w H=>by
  rw[qN]at w
  rw[qq u d,al H]
  by_cases e:j=i
  ·subst e;rw[aw rfl,fe,aw rfl]
  rw[al e,fe,al (λC=>H (au.inj w d C))];exact h.a j w e
 b :=λx D=>by
  have E:(cy L k).id≠x:=by
   have:=D i (by rw[qN];exact u)
   rwa[qq u d,al (WC N),aw rfl]at this
  rw[fe,al (WC E)]
  refine h.b x λj w=>?_
  by_cases e:j=k
  ·rw[e];exact E
  by_cases C:j=i
  ·have:=D k (by rw[qN];exact d)
   rw[qq u d,aw rfl]at this
   rw[C];exact this
  have:=D j (by rw[qN];exact w)
  rwa[qq u d,al e,al C]at this
theorem nG.done{f:Int->Option Value}(h:nG f L i)(au:gF L)(d:i<L.length):jP (fe f (cy L i).id (aa i)) L where
 a:=λj u=>by by_cases e:j=i;subst e;rw[fe,aw rfl];rw[fe,al (λC=>e (au.inj u d C))];exact h.a j u e
 b:=λx w=>by rw[fe,al (WC (w i d))];exact h.b x w
theorem jP.CT{f:Int->Option Value}(h:jP f L)(i:Nat):nG f L i:=⟨λj d _=>h.a j d,h.b⟩
theorem jP.none{f:Int->Option Value}{L:List cZ}(h:jP f L){x:Int}(u:∀e∈L,e.id≠x):f x=none:=h.b x λ_ d=>u _ (zo d)
theorem jP.some{f:Int->Option Value}{L:List cZ}(h:jP f L){e:cZ}(he:e∈L):∃j,j<L.length/\cy L j=e/\f e.id=some (aa j):=by obtain⟨j,u⟩:=Vo he;have w:=(Uz.1 u).1;have d:=zp u;exact⟨j,w,d,by rw[<-d];exact h.a j w⟩
theorem Ek{A:List cZ}(e:cZ)(d:i<A.length)(w:k<A.length)(u:k≠i):(A.set i (cy A k)).set k e=swp (A.set i e) i k:=by rw[swp,oz d,al u,oz d,aw rfl,List.set_set]
theorem yk(a b:cZ):br 364 [.agg (ints [a.at_,a.cm]).toArray,.agg (ints [b.at_,b.cm]).toArray] be [] (.bool (decide (hi a b))) []:=by apply aH Tryz.func364 Tryz.ntmps364;intro F _;refine J [197,578] ?_;intro ba;refine J [0,578] ?_;intro bw;apply J [47,110,56,385,18];refine aO.split 10 rfl (λd=>?_) (λd=>?_);have d:=ds d;apply J [48,49,192,192,461,319,130];exact Xq () [_] ⟨rfl,trivial⟩ (congrArg VF (cR (.inl d)).symm) trivial (bp (a6 _));have d:=dV d;apply J [139,139,92,244];refine aO.split 16 rfl (λu=>?_) (λu=>?_);have u:=ds u;apply J [201,201,388,291,70];exact Xq () [_] ⟨rfl,trivial⟩ (congrArg VF (by rw[decide_eq_decide];simp only[hi];omega)) trivial (bp (a6 _));have u:=dV u;apply J [214,335,70];exact Xq () [_] ⟨rfl,trivial⟩ (congrArg VF (c4 (by simp only[hi];omega)).symm) trivial (bp (a6 _))
theorem n1(b:Nat)(now w:Int)(H:List cZ)(ad:Option Addr)(n cap u m:Nat)(f:Int->Option Value)(i:Nat)(au:H.length=n)(E:i<n)(D:n<=1000000)(d:cZ):br 326 [ae b,aa i,.agg (mH d).toArray] be [aj b 367 [aa now,aa w,.slice ad n cap,.map (some u)],aT 405 3 ad n cap (hM H),bC QM.encI u f m] (.tuple #[]) [aj b 367 [aa now,aa w,.slice ad n cap,.map (some u)],aT 405 3 ad n cap (hM (H.set i d)),bC QM.encI u (fe f d.id (aa i)) (if(f d.id).isSome then m else m+1)]:=by
 apply aH Tryz.func326 Tryz.ntmps326;intro F _;apply J [85];have C:=mM (show i<H.length by omega);have N:0<(hM H).length:=by grind[pk]
 refine J [26,579] ?_;intro b4;apply J [25];refine ab.draw _ [7] [0,1,2,3,4,5,6,-7] aR aR (U5 _) ?_;apply J [185,14,580];refine bU rfl rfl rfl (gD 405 3 rfl rfl rfl U dW) ?_;apply J [91];refine ef (v:=.agg (List.toArray (ints [_,_,_]))) (vs:=ints [_,_,_]) 3 rfl rfl rfl rfl rfl rfl am (by rw[kp lD];omega) (sr (a':=d) lD C 0 U (UC rfl) rfl) ?_;refine b3.nil (h5 ?_);refine cx [0,1,2,3,4,5,6,-7] (aq (aq (aq (a6 _)))) ?_;apply J [273,137,14,257];refine lK 3 3 rfl (dM.int rfl) rfl rfl rfl ?_;refine⟨ai,?_⟩;refine b3.nil ?_;exact qd (cY (bW (aq (bW (a6 _)))))
theorem H8(b:Nat)(now E:Int)(H:List cZ)(ad:Option Addr)(n cap u m:Nat)(f:Int->Option Value)(i:Nat)(au:H.length=n)(a7:i<n)(Z:n<=1000000)(a4:nB H i)(av:nG f H i)(bq:gF H):bI 328 [ae b,aa i] be [aj b 367 [aa now,aa E,.slice ad n cap,.map (some u)],aT 405 3 ad n cap (hM H),bC QM.encI u f m] (λ_:List cZ×(Int->Option Value)×Nat=>.tuple #[]) (λy=>ln y.1/\jP y.2.1 y.1/\y.1.Perm H) (λy=>[aj b 367 [aa now,aa E,.slice ad n cap,.map (some u)],aT 405 3 ad n cap (hM y.1),bC QM.encI u y.2.1 y.2.2]):=by
 apply aH Tryz.func328 Tryz.ntmps328;intro F _;apply J [85];have a5:=mM (show i<H.length by omega);have bd:0<(hM H).length:=by rw[pk];omega
 refine J [99,2,439] ?_;refine q rfl rfl (gK (vs:=ints [_,_,_]) 3 rfl rfl (m7 lD a5) rfl am) ?_;refine J [0,374] ?_;intro aK;apply J [20,302,25,76];obtain⟨d,he⟩:=et (cy H i);rw[he];refine UZ (ι:=Nat×List cZ×(Int->Option Value)×Nat) (λs=>s.1<n/\s.2.1.length=n/\nB (s.2.1.set s.1 d) s.1/\nG s.2.2.1 (s.2.1.set s.1 d) s.1/\(s.2.1.set s.1 d).Perm H) (λs=>[(0,ae b),(1,aa ((s.1:Nat):Int)),(4,ae aK)]) (λs=>ah [aj aK 405 (mH d),aj b 367 [aa now,aa E,.slice ad n cap,.map (some u)],aT 405 3 ad n cap (hM s.2.1),bC QM.encI u s.2.2.1 s.2.2.2,F]) (λs=>s.1) ⟨i,H,f,m⟩ (by dsimp only;rw[<-he,G7 U];exact⟨a7,au,a4,av,V2 _⟩) bu (aq (aq (aq (aq (aq (a6 _)))))) ?_;rintro⟨k,A,g,aC⟩ ⟨a8,C,Q,V,w⟩ bh;dsimp only[ct]at a8 C Q V w⊢;have P:k<A.length:=U
 have bb:0<(hM A).length:=by rw[pk];omega
 have l5:(A.set k d).length=n:=by rw[Ve];exact C
 apply J [7,7];refine cx [0,1,2,3,4,5,6,7,8,9,10,11,12,13,14,-15,16] (aq (aq (aq (aq (a6 _))))) ?_;apply J [14,440,152];refine b3.split 14 rfl (λO=>?_) (λO=>?_);have O:=ds O;have a9:0<k:=U
 obtain⟨pp,an⟩:∃pp:Nat,((k:Int)-1)/2=pp:=⟨(k-1)/2,by omega⟩;have ar:pp=(k-1)/2:=U
 have a2:=mM (show pp<A.length by omega);have ag:cy (A.set k d) pp=cy A pp:=by rw[oz P,al U]
 have D:cy (A.set k d) k=d:=by rw[oz P,aw rfl]
 apply J [375,581,303,304,376,160,292];refine eH rfl rfl rfl rfl (oR rfl rfl U U) ?_;refine eH rfl rfl rfl rfl (k4 rfl rfl U U U) ?_;rw[an];refine eH rfl rfl rfl rfl (gD 405 3 rfl rfl rfl U dW) ?_;refine J [390] ?_;refine eH rfl rfl rfl rfl (gK (vs:=ints [_,_]) 2 rfl rfl (kW lD a2 0 2 U U rfl) rfl am) ?_;apply J [166];apply ao (yk d (cy A pp));refine J [280,322,75] ?_;apply Ur rfl<;>intro a3;refine J [4,76,34,173,54,2,241] ?_;refine q rfl rfl (k4 rfl rfl U U U) ?_;rw[an];refine J [439] ?_;refine q rfl rfl (gK (vs:=ints [_,_,_]) 3 rfl rfl (m7 lD a2) rfl am) ?_;refine e rfl ?_;apply ao (n1 b now E A ad n cap u aC g k C U Z (cy A pp));refine J [10,3,212,241] ?_;refine q rfl rfl (k4 rfl rfl U U U) ?_;rw[an];apply J [73,153];have ax:=Ek d P (show pp<A.length by omega) U;have aX:=Q.step U a9 (by rw[<-ar,ag,D];exact a3);have a0:=V.step (bq.perm w) U (show pp<(A.set k d).length by omega) U;rw[<-ar,<-ax]at aX;rw[ag,<-ax]at a0;have aQ:=(Bp (L:=A.set k d) (i:=k) (k:=pp) U U).trans w;rw[<-ax]at aQ;exact⟨rfl,⟨pp,A.set k (cy A pp),_,_⟩,⟨by dsimp only;omega,by dsimp only;rw[Ve];exact C,aX,a0,aQ⟩,cH,bu,(cY (aq (aq (aq (aq (a6 _))))))⟩;have W:=Q.exit (.inr (by rw[D,<-ar,ag];exact a3));apply J [22,36,2,360,0];apply ao (n1 b now E A ad n cap u aC g k C U Z d);apply J [10,332];have N:=V.done (bq.perm w) U;have D:cy (A.set k d) k=d:=by rw[oz P,aw rfl]
 rw[D]at N;exact mC ⟨A.set k d,_,_⟩ ⟨W,N,w⟩ (aq (aq (aq (bW (a6 _)))));have O:=dV O;have W:=Q.exit (.inl U);refine J [206,206,206,305,167,75,74,22,36,2,360,0] ?_;apply ao (n1 b now E A ad n cap u aC g k C U Z d);apply J [10,332];have N:=V.done (bq.perm w) U;have D:cy (A.set k d) k=d:=by rw[oz P,aw rfl]
 rw[D]at N;exact mC ⟨A.set k d,_,_⟩ ⟨W,N,w⟩ (aq (aq (aq (bW (a6 _)))))
theorem Ly(b:Nat)(now D:Int)(H:List cZ)(ad:Option Addr)(n cap u m:Nat)(f:Int->Option Value)(i:Nat)(au:H.length=n)(br:i<n)(aC:n<=1000000)(aJ:p3 H i)(av:nG f H i)(bq:gF H):bI 327 [ae b,aa i] be [aj b 367 [aa now,aa D,.slice ad n cap,.map (some u)],aT 405 3 ad n cap (hM H),bC QM.encI u f m] (λ_:List cZ×(Int->Option Value)×Nat=>.tuple #[]) (λy=>jP y.2.1 y.1/\y.1.Perm H/\∃j,j<n/\nB y.1 j/\cy y.1 j=cy H i) (λy=>[aj b 367 [aa now,aa D,.slice ad n cap,.map (some u)],aT 405 3 ad n cap (hM y.1),bC QM.encI u y.2.1 y.2.2]):=by
 apply aH Tryz.func327 Tryz.ntmps327;intro F _;apply J [85];have bl:=mM (show i<H.length by omega);have bO:0<(hM H).length:=by grind[pk]
 refine J [99,2,439] ?_;refine q rfl rfl (gK (vs:=ints [_,_,_]) 3 rfl rfl (m7 lD bl) rfl am) ?_;refine J [0,374] ?_;intro W;apply J [20,302,25,76];obtain⟨d,he⟩:=et (cy H i);rw[he];refine UZ (ι:=Nat×List cZ×(Int->Option Value)×Nat) (λs=>s.1<n/\s.2.1.length=n/\p3 (s.2.1.set s.1 d) s.1/\nG s.2.2.1 (s.2.1.set s.1 d) s.1/\(s.2.1.set s.1 d).Perm H) (λs=>[(0,ae b),(1,aa ((s.1:Nat):Int)),(4,ae W)]) (λs=>ah [aj W 405 (mH d),aj b 367 [aa now,aa D,.slice ad n cap,.map (some u)],aT 405 3 ad n cap (hM s.2.1),bC QM.encI u s.2.2.1 s.2.2.2,F]) (λs=>n-s.1) ⟨i,H,f,m⟩ (by dsimp only;rw[<-he,G7 U];exact⟨br,au,aJ,av,V2 _⟩) bu (aq (aq (aq (aq (aq (a6 _)))))) ?_;rintro⟨k,A,g,ar⟩ ⟨aQ,N,Z,ag,w⟩ bP;dsimp only[ct]at aQ N Z ag w⊢;have aX:k<A.length:=U
 have bE:0<(hM A).length:=by grind[pk]
 have l5:(A.set k d).length=n:=b2
 have E:∀j,j≠k->cy (A.set k d) j=cy A j:=λj bx=>by rw[oz aX,al bx]
 have C:cy (A.set k d) k=d:=by rw[oz aX,aw rfl]
 refine J [76,29,463,150,27] ?_;refine ab.cut (ι:=Nat) (λc=>(c=2*k+1\/c=2*k+2/\c<n)/\∀s,s<n->(s=2*k+1\/s=2*k+2)->¬hi (cy A s) (cy A c)) (λc=>[(0,ae b),(1,aa k),(4,ae W),(5,aa ((c:Nat):Int))]) (λc=>ah [aj W 405 (mH d),aj b 367 [aa now,aa D,.slice ad n cap,.map (some u)],aT 405 3 ad n cap (hM A),bC QM.encI u g ar,F]) ?_ ?_;refine ab.seq ?_;refine cx [0,1,2,3,4,5,6,7,8,9,10,11,12,13,14,15,16,17,18,19,20,21,22,23,24,25,-26,27] (aq (aq (aq (aq (a6 _))))) ?_;refine J [14,391,185,464] ?_;refine bU rfl rfl rfl (lss rfl rfl) ?_;apply J [152];refine b3.split 24 rfl (λQ=>?_) (λQ=>?_);have Q:=ds Q;have bo:=mM (show 2*k+2<A.length by omega);have bm:=mM (show 2*k+1<A.length by omega);apply J [303,304,376,160,292];refine eH rfl rfl rfl rfl (ig rfl rfl U U) ?_;refine J [524,390] ?_;refine eH rfl rfl rfl rfl (gK (vs:=ints [_,_]) 2 rfl rfl (kW lD bo 0 2 U U rfl) rfl am) ?_;refine J [303,304,376,160,292,524,390] ?_;refine eH rfl rfl rfl rfl (gK (vs:=ints [_,_]) 2 rfl rfl (kW lD bm 0 2 U U rfl) rfl am) ?_;apply J [166];apply ao (yk (cy A (2*k+2)) (cy A (2*k+1)));refine J [280,322,75] ?_;apply Ur rfl<;>intro bb;refine J [186] ?_;exact⟨rfl,(2*k+2),⟨.inr ⟨rfl,by omega⟩,λs V an=>by rcases an with rfl|rfl<;>simp only[hi]at bb⊢<;>omega⟩,⟨rfl,rfl,rfl,congrArg (VA .i64) U,trivial⟩,(aq (aq (aq (aq (aq (a6 _))))))⟩;apply J [4];exact⟨rfl,(2*k+1),⟨.inl rfl,λs V an=>by rcases an with rfl|rfl;simp only[hi];omega;exact bb⟩,⟨rfl,rfl,rfl,congrArg (VA .i64) U,trivial⟩,(aq (aq (aq (aq (aq (a6 _))))))⟩;have Q:=dV Q;refine J [206,206,206,206,320,305,167,75,202] ?_;exact⟨rfl,(2*k+1),⟨.inl rfl,λs V an=>by obtain rfl:s=2*k+1:=U;simp only[hi];omega⟩,⟨rfl,rfl,rfl,congrArg (VA .i64) U,trivial⟩,(aq (aq (aq (aq (aq (a6 _))))))⟩;rintro c ⟨bk,a8⟩ bX;dsimp only[ct]at bk a8⊢;apply J [7,7];refine cx [0,1,2,3,4,5,6,7,8,9,10,11,12,13,14,15,16,17,-18,19,20] (aq (aq (aq (aq (a6 _))))) ?_;apply J [14,185,464];refine bU rfl rfl rfl (geq rfl rfl) ?_;apply J [152];refine b3.split 53 rfl (λP=>?_) (λP=>?_);have P:=ds P;have a0:∀s,s<n->(s=2*k+1\/s=2*k+2)->¬hi (cy A s) d:=U
 refine J [206,206,358,305,320,322,75,15] ?_;have ax:=Z.exit (λs a3 V bh=>by rw[C,E s U];exact a0 s U U);refine ab.exit (kn (aK rfl (kn (ov (h5 ?_)))));apply J [36,2,360,0];apply ao (n1 b now D A ad n cap u ar g k N U aC d);apply J [10,332];have O:=ag.done (bq.perm w) U;rw[C]at O;exact mC ⟨A.set k d,_,_⟩ ⟨O,w,k,aQ,ax,C⟩ (aq (aq (aq (bW (a6 _)))));have P:=dV P;have bD:c<n:=U
 have a9:=mM (show c<A.length by omega);apply J [303,304,376,160,292];refine eH rfl rfl rfl rfl (gD 405 3 rfl rfl rfl U dW) ?_;refine J [390] ?_;refine eH rfl rfl rfl rfl (gK (vs:=ints [_,_]) 2 rfl rfl (kW lD a9 0 2 U U rfl) rfl am) ?_;apply J [375,581,166];apply ao (yk (cy A c) d);refine J [280] ?_;refine eH rfl rfl rfl rfl (AE rfl) ?_;apply J [167,75];apply Ur rfl<;>intro bd;have a0:∀s,s<n->(s=2*k+1\/s=2*k+2)->¬hi (cy A s) d:=by grind[hi]
 have ax:=Z.exit (λs a3 V bh=>by rw[C,E s U];exact a0 s U U);refine ab.exit (kn (aK rfl (kn (ov (h5 ?_)))));apply J [36,2,360,0];apply ao (n1 b now D A ad n cap u ar g k N U aC d);apply J [10,332];have O:=ag.done (bq.perm w) U;rw[C]at O;exact mC ⟨A.set k d,_,_⟩ ⟨O,w,k,aQ,ax,C⟩ (aq (aq (aq (bW (a6 _)))));have bd:hi (cy A c) d:=b2
 refine J [4,34,173,54,2,439] ?_;refine q rfl rfl (gK (vs:=ints [_,_,_]) 3 rfl rfl (m7 lD a9) rfl am) ?_;refine e rfl ?_;apply ao (n1 b now D A ad n cap u ar g k N U aC (cy A c));apply J [10,3,212,73,153];have a2:=Ek d aX (show c<A.length by omega) U;have a4:=Z.step (k:=c) U U U U (by rw[C,E c U];exact bd) (λs a3 V bh=>by rw[E c U,E s U];exact a8 s U U);have a7:=ag.step (bq.perm w) U (show c<(A.set k d).length by omega) U;rw[<-a2]at a4;rw[E c U,<-a2]at a7;have a5:=(Bp (L:=A.set k d) (i:=k) (k:=c) U U).trans w;rw[<-a2]at a5;exact⟨rfl,⟨c,A.set k (cy A c),_,_⟩,⟨by dsimp only;omega,by dsimp only;rw[Ve];exact N,a4,a7,a5⟩,cH,bu,(cY (aq (aq (aq (aq (a6 _))))))⟩
end Go.Proofs.YtglgidjhoncphaaGreatDoor.ir
namespace Go.Proofs.YtglgidjhoncphaaGreatDoor.ir
open Go Go.QM
theorem Dy(H:List cZ)(k:Nat):(hM H).take (k*3)=hM (H.take k):=vY lD H k
variable{H:List cZ}{n:Nat}
theorem D3{j:Nat}(h:j<n):cy (H.take n) j=cy H j:=by simp[cy,Vl,List.getElem?_take,h]
theorem Hk(au:H.length=n+1):H.take n++[cy H n]=H:=by grind[cy,List.take_append_getElem]
def jf(H:List cZ)(n i:Nat):List cZ:=if i<n then(H.take n).set i (cy H n)else H.take n
theorem pi(au:H.length=n+1)(i:Nat):(jf H n i).length=n:=by grind[jf]
theorem m2{i:Nat}(au:H.length=n+1){j:Nat}(d:j<n):cy (jf H n i) j=if j=i then cy H n else cy H j:=by unfold jf;split;grind[oz,D3];rename_i h;rw[al U];exact D3 d
theorem Lb{i:Nat}(au:H.length=n+1)(u:i<=n):(cy H i::jf H n i).Perm H:=by
 by_cases h:i<n;have d:swp H i n=jf H n i++[cy H i]:=(by rw[jf,aw h,swp];grind[Hk,cy]);refine List.Perm.trans ?_ (d▸Bp U U);exact(Vt _ _).symm;obtain rfl:i=n:=U
 rw[jf,al h];have:=Hk au;refine List.Perm.trans ?_ (List.Perm.of_eq this);exact(Vt _ _).symm
theorem Ld{i:Nat}(au:H.length=n+1)(h:ln H):p3 (jf H n i) i where
 a:=λk u d D w=>by rw[pi au]at d;rw[kM,m2 au d,m2 au U,al D,al w];exact h k u U
 b:=λk u d w C=>by rw[pi au]at d;rw[m2 au d,m2 au U,al U,al U];exact(h.hole i).b k u U w C
theorem Lc(au:H.length=n+1)(h:ln H):ln (jf H n n):=λk u d=>by
 rw[pi au]at d
 rw[kM,m2 au d,m2 au U,al U,al U]
 exact h k u U
theorem Le{f:Int->Option Value}{i:Nat}(au:H.length=n+1)(av:jP f H)(bq:gF H)(C:i<n):jP (fe (fQ f (cy H i).id) (cy H n).id (aa i)) (jf H n i) where
 a:=λj u=>by
  rw[pi au]at u
  rw[m2 au u]
  by_cases e:j=i
  ·subst e;rw[aw rfl,fe,aw rfl]
  rw[al e,fe,al (λd=>by have:=bq.inj U U d;omega),fQ,al (λd=>e (bq.inj U U d))]
  exact av.a j U
 b :=λx D=>by
  have w:(cy H n).id≠x:=by
   have:=D i (by rw[pi au];exact C)
   rwa[m2 au C,aw rfl]at this
  rw[fe,al (WC w),fQ]
  split
  ·rfl
  rename_i E
  refine av.b x λj u=>?_
  by_cases e:j=i
  ·subst e;exact λe=>E e.symm
  by_cases d:j=n
  ·rw[d];exact w
  have:=D j (by rw[pi au];omega)
  rwa[m2 au U,al e]at this
theorem Lf{f:Int->Option Value}(au:H.length=n+1)(av:jP f H)(bq:gF H):jP (fQ f (cy H n).id) (jf H n n) where
 a:=λj u=>by rw[pi au]at u;rw[m2 au u,al U,fQ,al (λd=>by have:=bq.inj U U d;omega)];exact av.a j U
 b:=λx C=>by rw[fQ];split;rfl;rename_i w;refine av.b x λj u=>?_;by_cases d:j=n;rw[d];exact λe=>w e.symm;have:=C j (by rw[pi au];omega);rwa[m2 au U,al d]at this
theorem Di(b:Nat)(now u:Int)(H:List cZ)(ad:Option Addr)(n cap d m:Nat)(f:Int->Option Value)(i:Nat)(au:H.length=n+1)(a0:i<=n)(a5:n<=900000)(W:ln H)(av:jP f H)(bq:gF H):bI 278 [ae b,aa i] be [aj b 367 [aa now,aa u,.slice ad (n+1) cap,.map (some d)],aT 405 3 ad (n+1) cap (hM H),bC QM.encI d f m] (λ_:List cZ×(Int->Option Value)×Nat=>.agg (mH (cy H i)).toArray) (λy=>y.1.length=n/\ln y.1/\jP y.2.1 y.1/\(cy H i::y.1).Perm H) (λy=>[aj b 367 [aa now,aa u,.slice ad n cap,.map (some d)],aT 405 3 ad n cap (hM y.1),bC QM.encI d y.2.1 y.2.2]):=by
 apply aH Tryz.func278 Tryz.ntmps278;intro F _;apply J [85];refine ab.m6 1 rfl (λ_ a8 _=>?_);have aQ:=mM (show i<H.length by omega);have aX:=mM (show n<H.length by omega);have bb:0<(hM H).length:=U
 have D:=pi au i;have E:=Lb au a0;have a7:gF (cy H i::jf H n i):=bq.perm E;have Z:gF (jf H n i):=by grind[gF]
 refine J [26,374] ?_;intro ba;apply J [25];refine cx [0,1,2,3,4,5,6,7,8,9,10,11,12,-13,-14,15] (aq (aq (aq (aq (a6 _))))) ?_;apply J [185,14];refine bU rfl rfl rfl (gD 405 3 rfl rfl rfl U dW) ?_;refine bU rfl rfl rfl (gK (vs:=ints [_,_,_]) 3 rfl rfl (m7 lD aQ) rfl am) ?_;refine J [185,464,441] ?_;rw[show(((n+1:Nat):Int)-1)=(n:Int)from by omega];refine J [11,374] ?_;intro bw;refine J [5,257,302,143,7] ?_;refine cx [0,1,2,3,4,5,-6] (aq (aq (aq (a6 _)))) ?_;apply J [273,137,257];refine lB 3 3 rfl (dM.int rfl) rfl rfl rfl ?_;refine J [108,99,2,439] ?_;refine q rfl rfl (gK (vs:=ints [_,_,_]) 3 rfl rfl (m7 lD aX) rfl am) ?_;refine J [0,374] ?_;intro b4;apply J [20,302,205,173,54,2];refine q rfl rfl (nv 405 3 (n) rfl rfl rfl U U) ?_;apply J [80,263,281,25,198,191];apply Ur rfl<;>intro a9;have w:i<n:=U
 have N:(H.take n).set i (cy H n)=jf H n i:=by rw[jf,aw w]
 have a2:(H.take n).length=n:=b2
 refine VM (B:=ah [aj b 367 [aa now,aa u,.slice ad n cap,.map (some d)],aT 405 3 ad n cap (hM (H.take n)),bC QM.encI d (fQ f (cy H i).id) _,aj b4 405 (mH (cy H n)),aj bw 405 (mH (cy H i)),aj ba 405 (ints [0,0,0]),F]) (aq (eM 4 rfl (by rw[<-Dy];exact pM U) (bW (aq (aq (aq (aq (a6 _)))))))) ?_;apply J [34,360,0];refine aL (n1 b now u (H.take n) ad n cap d _ _ i a2 w U (cy H n)) rfl (dY 0 rfl (dY 0 rfl (dY 0 rfl (eA _)))) trivial ?_;intro _ _;apply J [17];rw[N];apply J [3,32];refine aL (Ly b now u (jf H n i) ad n cap d _ _ i D w U (Ld au W) ((Le au av bq w).CT i) Z) rfl (dY 0 rfl (dY 0 rfl (dY 0 rfl (eA _)))) trivial ?_;intro⟨V,f3,a3⟩ ⟨Q,C,j,an,ar,O⟩;apply J [17];dsimp only at Q C an ar O⊢;rw[m2 au w,aw rfl]at O;have ao:V.length=n:=by rw[C.length_eq,D]
 have aK:f3 (cy H n).id=some (aa j):=by rw[<-O];exact Q.a j U
 refine J [3,582,77,273,137] ?_;refine bU rfl rfl rfl (j8 3 3 rfl rfl (dM.int rfl) rfl rfl) ?_;rw[aK];refine dl rfl rfl rfl rfl ?_;refine aL (H8 b now u V ad n cap d a3 f3 j ao an U ar (Q.CT j) (Z.perm C)) rfl (dY 0 rfl (dY 0 rfl (dY 0 rfl (eA _)))) trivial ?_;intro⟨aC,f4,a4⟩ ⟨ag,ax,P⟩;change b3 _ _ _ _ _ _ _ _ _ _ (ah [_,_,_,_,_,_,_]);dsimp only at ag ax P⊢;apply J [75,24,360,20,302,233];exact Xq ⟨aC,f4,a4⟩ [_] ⟨(e3 (n:=3) rfl rfl rfl rfl),trivial⟩ rfl ⟨by dsimp only;rw[P.length_eq,ao],ag,ax,((P.trans C).cons _).trans E⟩ (bW (bW (bW (cY (a6 _)))));obtain rfl:i=n:=by omega
 have N:H.take i=jf H i i:=by rw[jf,al U]
 refine VM (B:=ah [aj b 367 [aa now,aa u,.slice ad i cap,.map (some d)],aT 405 3 ad i cap (hM (jf H i i)),bC QM.encI d (fQ f (cy H i).id) _,aj b4 405 (mH (cy H i)),aj bw 405 (mH (cy H i)),aj ba 405 (ints [0,0,0]),F]) (aq (eM 4 rfl (by rw[<-N,<-Dy];exact pM U) (bW (aq (aq (aq (aq (a6 _)))))))) ?_;apply J [4,24,360,20,302,233];exact Xq ⟨jf H i i,_,_⟩ [_] ⟨(e3 (n:=3) rfl rfl rfl rfl),trivial⟩ rfl ⟨D,Lc au W,Lf au av bq,E⟩ (bW (bW (bW (cY (a6 _)))))
end Go.Proofs.YtglgidjhoncphaaGreatDoor.ir
namespace Go.Proofs.YtglgidjhoncphaaGreatDoor.ir
open Go Go.QM
structure jx(H:List cZ)(n:Nat)(f:Int->Option Value)(cm:Int)(Q:List cZ):Prop where
  n:H.length=n
  lH:ln H
  rU:jP f H
  pm:H.Perm Q
  bo:gF Q
  cm:∀e∈Q,e.cm<=cm
  uy:Q.Pairwise λa b=>a.cm<b.cm
structure I7 where
  H:List cZ
  n:Nat
  f:Int->Option Value
  ad:Option Addr
  cap:Nat
  Ig:Nat
  m:Nat
def nV(b:Nat)(now cm:Int)(Q:List cZ):ax:=fj λy:I7=>pure' (jx y.H y.n y.f cm Q) (ah [aj b 367 [.int .i64 now,.int .i64 cm,.slice y.ad y.n y.cap,.map (some y.Ig)],aT 405 3 y.ad y.n y.cap (hM y.H),bC QM.encI y.Ig y.f y.m])
variable{H Q:List cZ}{n:Nat}{cm:Int}
theorem jx.len{f:Int->Option Value}(h:jx H n f cm Q):n=Q.length:=by rw[<-h.n,h.pm.length_eq]
theorem jx.wU{f:Int->Option Value}(h:jx H n f cm Q):gF H:=h.bo.perm h.pm
theorem jx.start(d:Int):jx [] 0 (λ_=>none) d []:=⟨rfl,(λk _ h=>by simp at h),⟨(λj h=>by simp at h),λ_ _=>rfl⟩,V2 _,Va,(λe h=>by cases h),XD⟩
def ji(Q:List cZ)(id:Int):Prop:=∃e∈Q,e.id=id
instance (Q:List cZ)(id:Int):Decidable (ji Q id):=inferInstanceAs (Decidable (∃e∈Q,e.id=id))
variable{id:Int}
theorem jx.yes{f:Int->Option Value}(h:jx H n f cm Q)(C:ji Q id):∃j,j<n/\(cy H j).id=id/\f id=some (aa j):=by obtain⟨e,he,rfl⟩:=C;obtain⟨j,d,u,w⟩:=h.rU.some (h.pm.mem_iff.2 he);exact⟨j,by rw[<-h.n];exact d,by rw[u],w⟩
theorem jx.no{f:Int->Option Value}(h:jx H n f cm Q)(u:¬ji Q id):f id=none:=
 h.rU.none λe he d=>u ⟨e,h.pm.mem_iff.1 he,d⟩
def hU(Q:List cZ)(now cm id k8:Int):List cZ×Int×Int:=
  if id<0\/k8<1\/1048576<k8 then(Q,cm,1)else if ji Q id then(Q,cm,7)else(Q++[⟨now+k8,cm+1,id⟩],cm+1,0)
theorem LM(H:List cZ)(e:cZ):hM (H++[e])=hM H++mH e:=by simp[hM]
variable{e:cZ}
theorem wb{k:Nat}(h:k<H.length):cy (H++[e]) k=cy H k:=by simp[cy,Vl,List.getElem?_append,h]
theorem R6(h:ln H)(e:cZ):nB (H++[e]) H.length where
 a:=λk u d C=>by rw[mp,Ux]at d;rw[kM,wb U,wb U];exact h k u U
 b:=λk u d D w=>by rw[mp,Ux]at d;omega
theorem R7{f:Int->Option Value}(h:jP f H)(e:cZ):nG f (H++[e]) H.length where
 a:=λj d w=>by rw[mp,Ux]at d;rw[wb U];exact h.a j U
 b:=λx u=>h.b x λj d=>by have:=u j (by rw[mp];omega);rwa[wb d]at this
theorem Bm(h:gF H)(d:∀a∈H,a.id≠e.id):gF (H++[e]):=by grind[gF]
theorem jx.set{u:List cZ}{f f4:Int->Option Value}(h:jx H n f cm Q)(he:e.cm=cm+1)(O:¬ji Q e.id)(D:ln u)(E:jP f4 u)(w:u.Perm (H++[e])):jx u (n+1) f4 (cm+1) (Q++[e]) where
 n:=by rw[w.length_eq,mp,h.n];rfl
 lH:=D
 rU:=E
 pm:=w.trans (h.pm.append_right _)
 bo:=Bm h.bo λa d C=>O ⟨a,d,C⟩
 cm:=λa d=>by
  rcases Uq.1 d with d|d
  ·have:=h.cm a d;omega
  obtain rfl:=Up.1 d;omega
 uy:=by rw[List.pairwise_append];refine⟨h.uy,List.pairwise_singleton _ _,λa d b N=>?_⟩;obtain rfl:=Up.1 N;have:=h.cm a d;omega
def iC(Q:List cZ)(id:Int):List cZ:=Q.filter λe=>decide (e.id≠id)
theorem DW(h:gF (e::H)):iC (e::H) e.id=H:=by rw[iC,VD cF];refine UU.2 λa d=>?_;have:=(UI.1 h).1;simp_all
theorem jx.off{d:List cZ}{f w:Int->Option Value}(h:jx H (n+1) f cm Q){j:Nat}(O:(cy H j).id=id)(D:d.length=n)(E:ln d)(N:jP w d)(C:(cy H j::d).Perm H):jx d n w cm (iC Q id) where
 n:=D
 lH:=E
 rU:=N
 pm:=by
  have:=(C.trans h.pm).filter λe=>decide (e.id≠id)
  have u:=DW (h.wU.perm C)
  rw[O]at u
  rw[iC]at u⊢
  rwa[u]at this
 bo:=h.bo.sublist ((VQ).map _)
 cm:=λe he=>h.cm e (UO.1 he).1
 uy:=h.uy.sublist VQ
theorem PU(h:¬ji Q id):iC Q id=Q:=UU.2 λa d=>by
 simp only[decide_eq_true_eq];exact λe=>h ⟨a,d,e⟩
theorem F5(h:ji Q id)(au:gF Q):(iC Q id).length+1=Q.length:=by obtain⟨e,he,rfl⟩:=h;obtain⟨s,t,rfl⟩:=WK he;have d:(e::(s++t)).Perm (s++e::t):=List.perm_middle.symm;have u:=(d.filter λa=>decide (a.id≠e.id)).length_eq;have w:=DW (au.perm d);grind[iC]
def hA(Q:List cZ)(ids:List Int):List cZ:=ids.foldl iC Q
theorem KH(Q:List cZ)(ids:List Int)(x:Int):hA Q (ids++[x])=iC (hA Q ids) x:=by simp[hA]
theorem vF(Q:List cZ):∀ids,(hA Q ids).Sublist Q
 | []=>WO _
 | x::l=>by rw[hA,WN];exact(vF (iC Q x) l).trans VQ
theorem C3(Q:List cZ)(ids:List Int):hA Q ids=Q.filter λe=>decide (e.id∉ids):=by induction ids generalizing Q with|nil=>exact(UU.2 λa _=>by simp).symm|cons x l d=>rw[hA,WN];have:=d (iC Q x);rw[hA]at this;rw[this,iC,Wd];congr 1;funext e;rw[WY];simp only[UW,decide_eq_true_eq,UB,not_or];exact⟨λh=>⟨h.2,h.1⟩,λh=>⟨h.2,h.1⟩⟩
def jh(t:Int)(Q:List cZ):List cZ:=Q.filter λe=>decide (e.at_<=t)
def ml(t:Int)(Q:List cZ):List cZ:=Q.filter λe=>decide (¬e.at_<=t)
def ids(Q:List cZ):List Int:=Q.map (·.id)
theorem LF{f:Int->Option Value}{t:Int}(h:jx H n f cm Q)(W:0<n)(hle:(cy H 0).at_<=t)(Z:∀e∈Q,t<=e.at_):
 jh t Q=cy H 0::jh t (iC Q (cy H 0).id)/\ml t Q=ml t (iC Q (cy H 0).id):=by have au:=h.n;have u:cy H 0∈Q:=h.pm.mem_iff.1 (zo U);have E:∀a∈Q,a.at_<=t->(cy H 0).cm<=a.cm:=λa d w=>(by obtain⟨k,C⟩:=Vo (h.pm.mem_iff.2 d);have D:=(Uz.1 C).1;have:=h.lH.min k D;grind[zp,hi]);generalize cy H 0=e at u hle E⊢;have N:=h.bo;have ag:=h.uy;clear h au;obtain⟨s,r,rfl⟩:=WK u;have P:(e::(s++r)).Perm (s++e::r):=List.perm_middle.symm;have ao:∀a∈s++r,a.id≠e.id:=λa d V=>(by have:=(UI.1 (N.perm P)).1;grind);have an:∀a∈s,¬a.at_<=t:=λa d w=>cr;have O:iC (s++e::r) e.id=s++r:=(by grind[iC,UU]);rw[O];constructor;all_goals grind[jh,Wm,ml]
theorem Dp{f:Int->Option Value}{t:Int}(h:jx H n f cm Q)(u:n=0\/¬(cy H 0).at_<=t):jh t Q=[]/\ml t Q=Q:=by have w:∀a∈Q,¬a.at_<=t:=λa d=>(by obtain⟨k,C⟩:=Vo (h.pm.mem_iff.2 d);have D:=(Uz.1 C).1;have:=h.lH.min k D;rw[zp C]at this;rcases u with u|u;have:=h.n;omega;grind[hi]);exact⟨Wm.2 (λa d=>by simpa using w a d),UU.2 (λa d=>by simpa using w a d)⟩
def ue(Q:List cZ)(now id:Int):Int:=match Q.find? λe=>decide (e.id=id)with
  | some e=>e.at_-now
  | none=>0
theorem pC:bI 192 [] be [] (λb:Nat=>ae b) (λ_=>True) (λb=>[nV b 0 0 []]):=by apply aH Tryz.func192 Tryz.ntmps192;intro F _;refine J [9,272,26,333] ?_;intro ba;refine q rfl rfl (eh (cs:=[.int _ _,.int _ _,.slice _ _ _,.map _]) rfl) ?_;refine e rfl ?_;refine eV (v:=.agg #[_,_,_,_]) (l:=[.int _ _,.int _ _,.slice _ _ _,.map _]) rfl rfl ?_;intro bw;apply J [109];exact bn bw trivial ((dH 405 3 _).trans (ay ⟨[],0,λ_=>none,none,0,ba,0⟩ (jx.start 0) (bW (aq (aq (aq (a6 _)))))))
theorem RG(b:Nat)(now d:Int)(Q:List cZ)(a2:(0<=now/\now<=1000000000000)/\(0<=d/\d<=1000000000000)/\Q.length<=500000)(id w:Int):br 380 [ae b,aa id,aa w] be [nV b now d Q] (aa (hU Q now d id w).2.2) [nV b now (hU Q now d id w).2.1 (hU Q now d id w).1]:=by
 apply aH Tryz.func380 Tryz.ntmps380;intro F _;apply J [1,38,217];refine UG 11 rfl (c:=false) rfl ?_;apply J [200,50];refine aO.split 15 rfl (λE=>?_) (λE=>?_);have E:=ds E;have C:hU Q now d id w=(Q,d,1):=by rw[hU,aw U]
 rw[C];dsimp only;apply J [336,49,104,209];exact hI;have E:=dV E;apply J [200,50];refine aO.split 19 rfl (λN=>?_) (λN=>?_);have N:=ds N;have C:hU Q now d id w=(Q,d,1):=by rw[hU,aw U]
 rw[C];dsimp only;apply J [49,104,209];exact hI;have N:=dV N;apply J [169,103];apply Ur rfl<;>intro a5;have C:hU Q now d id w=(Q,d,1):=by rw[hU,aw U]
 rw[C];dsimp only;apply J [209];exact hI;by_cases D:ji Q id;have C:hU Q now d id w=(Q,d,7):=by rw[hU,al U,aw D]
 rw[C];dsimp only;refine ab.open 0 rfl (λZ W=>?_);obtain⟨H,n,f,ad,cap,P,m⟩:=Z;have u:=W;apply J [85];dsimp only at u⊢;have O:=u.n;have aX:=u.len;have aQ:=pk H;obtain⟨j,a4,a3,V⟩:=u.yes D;apply J [42,126,270,442];rw[V];apply J [286,183,168,122,209];exact fa (ay ⟨H,n,f,ad,cap,P,m⟩ u (aq (aq (aq (aq (a6 _))))));have C:hU Q now d id w=(Q++[⟨now+w,d+1,id⟩],d+1,0):=by rw[hU,al U,al D]
 rw[C];dsimp only;refine ab.open 0 rfl (λZ W=>?_);obtain⟨H,n,f,ad,cap,P,m⟩:=Z;have u:=W;apply J [85];dsimp only at u⊢;have O:=u.n;have aX:=u.len;have aQ:=pk H;have V:=u.no D;apply J [42,126,270,442];rw[V];refine J [286,183,168,100,64,150,267,190,25] ?_;refine ab.draw _ [22] [0,1,2,3,4,5,6,7,8,9,10,11,12,13,14,15,16,17,-18,-19,20,21,-22] aR aR (aq (a6 _)) ?_;refine J [77,185,51,14,391,136] ?_;refine bU rfl rfl rfl (eh (cs:=ints [_,_]) rfl) ?_;apply J [14];refine bU rfl rfl rfl (eh (cs:=ints [_,_,_]) rfl) ?_;refine dA rfl rfl ?_;refine bs (cs:=ints [_,_,_]) rfl ?_;intro b4;refine J [43] ?_;refine ap 24 rfl rfl rfl rfl rfl (UC rfl) (show _=mH ⟨now+w,d+1,id⟩from rfl) rfl U gp ?_;intro ag an;refine J [5,88,370,91,373,75,37,173,54] ?_;refine q rfl rfl (len 405 3 rfl rfl) ?_;refine J [241] ?_;rw[show(((n+1:Nat):Int)-1)=(n:Int)from by omega];rw[<-LM];refine e rfl ?_;refine aL (H8 b now (d+1) (H++[⟨now+w,d+1,id⟩]) ag (n+1) an P m f n (by rw[mp,O];rfl) U U (by have:=R6 u.lH ⟨now+w,d+1,id⟩;rwa[O]at this) (by have:=R7 u.rU ⟨now+w,d+1,id⟩;rwa[O]at this) (Bm u.wU λa aK aC=>D ⟨a,u.pm.mem_iff.1 aK,aC⟩)) rfl (dY 0 rfl (dY 0 rfl (dY 1 rfl (eA _)))) trivial ?_;intro⟨ax,f4,a0⟩ ⟨ao,au,ar⟩;apply J [10];dsimp only at ao au ar⊢;apply J [118];exact fa (ay ⟨ax,n+1,f4,ag,an,P,a0⟩ (u.set rfl D ao au ar) (aq (aq (aq (bW (a6 _))))))
theorem yL(b:Nat)(now u:Int)(Q:List cZ)(a4:(0<=now/\now<=1000000000000)/\(0<=u/\u<=1000000000000)/\Q.length<=500000)(a2:Option Addr)(c2:Nat)(xs:List Int)(be:xs.length<=1000000):br 332 [ae b,.slice a2 xs.length c2] (λF=>∃E,cM F E a2 (ints xs)) [nV b now u Q] (aa ((Q.length:Int)-(hA Q xs).length)) [nV b now u (hA Q xs)]:=by
 apply aH Tryz.func332 Tryz.ntmps332;intro F ⟨E,ao⟩;apply J [1];haveI:bl F a2 E (ints xs):=⟨ao⟩;have bh:=eb xs;apply J [102,38,35,174];refine UZ (ι:=Nat×List cZ) (λs=>s.1<=xs.length/\s.2=hA Q (xs.take s.1)) (λs=>[(0,ae b),(5,aa ((Q.length:Int)-(s.2.length:Int))),(10,.slice a2 xs.length c2),(11,aa xs.length),(12,aa ((s.1:Nat):Int))]) (λs=>ah [nV b now u s.2,F]) (λs=>xs.length-s.1) ⟨0,Q⟩ ⟨Uv _,rfl⟩ ⟨rfl,congrArg (VA .i64) (Int.sub_self _).symm,rfl,rfl,rfl,trivial⟩ (aq (aq (a6 _))) ?_;rintro⟨k,Z⟩ ⟨ax,C⟩ bk;dsimp only[ct]at ax C⊢;apply J [40];apply Ur rfl<;>intro a8;have aC:k<xs.length:=U
 obtain⟨x,qu⟩:∃x,xs[k]? =some x:=⟨xs[k],Uo aC⟩;have bd:0<(ints xs).length:=U
 have W:hA Q (xs.take (k+1))=iC Z x:=by grind[UF,KH]
 have a3:Z.length<=Q.length:=by grind[vF]
 refine J [187,522,31,7] ?_;refine ab.open 0 rfl (λa0 aQ=>?_);obtain⟨H,n,f,ad,cap,N,m⟩:=a0;have d:=aQ;apply J [85];dsimp only at d⊢;have ar:=d.n;have a9:=d.len;have a5:=pk H;apply J [36,154,116];by_cases w:ji Z x;obtain⟨j,a7,au,D⟩:=d.yes w;obtain⟨n,rfl⟩:∃z,n=z+1:=⟨n-1,by omega⟩;have bb:=F5 w d.bo;apply J [4,126,270,442];rw[D];apply J [286,183,168,122,32];refine aL (Di b now u H ad n cap N m f j ar U U d.lH d.rU d.wU) rfl (dY 0 rfl (dY 0 rfl (dY 0 rfl (eA _)))) trivial ?_;intro⟨an,f4,aX⟩ ⟨P,O,ag,V⟩;apply J [19];dsimp only at P O ag V⊢;refine J [3,347,73,60] ?_;exact⟨rfl,⟨k+1,iC Z x⟩,⟨by dsimp only;omega,W.symm⟩,cH,⟨rfl,congrArg (VA .i64) cH,rfl,rfl,rfl,trivial⟩,(ay ⟨an,n,f4,ad,cap,N,aX⟩ (d.off au P O ag V) (aq (aq (aq (aq (a6 _))))))⟩;have D:=d.no w;have aK:=PU w;apply J [4,126,270,442];rw[D];refine J [286,183,168,116,111] ?_;exact⟨rfl,⟨k+1,Z⟩,⟨by dsimp only;omega,by dsimp only;rw[W,aK]⟩,cH,bu,(ay ⟨H,n,f,ad,cap,N,m⟩ d (aq (aq (aq (aq (a6 _))))))⟩;obtain rfl:k=xs.length:=U
 rw[U9]at C;subst C;apply J [22,132];exact hI
theorem Bz(b:Nat)(now C:Int)(Q:List cZ)(a8:(0<=now/\now<=1000000000000)/\(0<=C/\C<=1000000000000)/\Q.length<=500000)(a3:∀e∈Q,now<e.at_/\e.at_<=2000000000000):bI 214 [ae b] be [nV b now C Q] (λy:Option Addr×Nat=>.slice y.1 (ids (jh (now+1) Q)).length y.2) (λ_=>True) (λy=>[aT 3 1 y.1 (ids (jh (now+1) Q)).length y.2 (ints (ids (jh (now+1) Q))),nV b (now+1) C (ml (now+1) Q)]):=by
 apply aH Tryz.func214 Tryz.ntmps214;intro F _;apply J [1,44,59,123,106,121];refine ab.open 0 rfl (λV P=>?_);obtain⟨H,n,f,ad,cap,D,m⟩:=V;have d:=P;apply J [85];dsimp only at d⊢;refine J [36,53,150,80,81,190,25,76] ?_;refine UZ (ι:=List cZ×List Int×Option Addr×Nat) (λs=>s.1.Sublist Q/\s.2.1++ids (jh (now+1) s.1)=ids (jh (now+1) Q)/\ml (now+1) s.1=ml (now+1) Q) (λs=>[(0,ae b),(3,.slice s.2.2.1 s.2.1.length s.2.2.2)]) (λs=>ah [aT 3 1 s.2.2.1 s.2.1.length s.2.2.2 (ints s.2.1),nV b (now+1) C s.1,F]) (λs=>s.1.length) ⟨Q,[],none,0⟩ ⟨WO _,rfl,rfl⟩ bu ((dH 3 1 _).trans (ca 0 rfl kx (ay ⟨H,n,f,ad,cap,D,m⟩ d (aq (aq (aq (aq (a6 _)))))))) ?_;rintro⟨Z,o,hS,fo⟩ ⟨N,u,w⟩ bl;dsimp only[ct]at N u w⊢;have a7:=N.length_le;have ao:=congrArg Wc u;rw[mp]at ao;have a9:(ids (jh (now+1) Q)).length<=Q.length:=by grind[ids,jh]
 clear d;refine ab.open 1 rfl (λV P=>?_);obtain⟨H,n,f,ad,cap,D,m⟩:=V;have d:=P;apply J [84];dsimp only at d⊢;have aQ:=d.n;have bd:=d.len;have bb:=pk H;apply J [7,7];refine cx [0,1,2,3,4,5,6,7,8,9,10,11,12,13,14,15,16,17,18,19,20] (U5 _) ?_;apply J [185,464,440,152];refine b3.split 19 rfl (λE=>?_) (λE=>?_);have E:=ds E;have a2:=mM (show 0<H.length by omega);have bk:0<(hM H).length:=U
 refine J [303,304,376,160,524,390,390] ?_;refine eH rfl rfl rfl rfl (dv rfl rfl (m8 lD a2 0 U rfl)) ?_;apply J [303,304,375,160];refine eH rfl rfl rfl rfl (leq rfl rfl) ?_;apply J [322,75];apply Ur rfl<;>intro W;obtain⟨d1,d2⟩:=LF d U W (λa aX=>by have:=a3 a (N.subset aX);omega);obtain⟨n,rfl⟩:∃z,n=z+1:=⟨n-1,by omega⟩;have bh:=F5 ⟨_,d.pm.mem_iff.1 (zo (show 0<H.length by omega)),rfl⟩ d.bo;apply J [4,76,114,157,0];refine aL (Di b (now+1) C H ad n cap D m f 0 aQ U U d.lH d.rU d.wU) rfl (dY 0 rfl (dY 0 rfl (dY 0 rfl (eA _)))) trivial ?_;intro⟨ax,f4,a4⟩ ⟨an,ag,au,ar⟩;apply J [10];dsimp only at an ag au ar⊢;refine J [350,148] ?_;intro a5;have a0:=congrArg Wc d1;rw[UP]at a0;rw[ids,VP]at ao;refine e rfl ?_;refine ap 8 rfl rfl rfl rfl rfl (UC rfl) (show _=ints [(cy H 0).id]from rfl) rfl U gp ?_;intro aC aK;apply J [21,153];exact⟨rfl,⟨iC Z (cy H 0).id,o++[(cy H 0).id],aC,aK⟩,⟨List.filter_sublist.trans N,by dsimp only;rw[<-u,d1];simp[ids],by dsimp only;rw[<-w,d2]⟩,cH,⟨rfl,congrArg (λn=>U8 _ n _) cF,trivial⟩,(ca 0 rfl (by simp[ints]) (ay ⟨ax,n,f4,ad,cap,D,a4⟩ (d.off rfl an ag au ar) (bW (bW (bW (bW (a6 _)))))))⟩;have O:=Dp (t:=now+1) d (.inr W);obtain⟨d1,d2⟩:=O;rw[d1]at u;rw[ids,Wi,Vg]at u;rw[d2]at w;apply J [204,101];exact Xq ⟨hS,fo⟩ [_] ⟨rfl,trivial⟩ (by rw[<-u];rfl) trivial (ca 3 rfl (by rw[<-u]) (ay ⟨H,n,f,ad,cap,D,m⟩ (by rw[<-w];exact d) (aq (aq (aq (aq (a6 _)))))));have E:=dV E;have O:=Dp (t:=now+1) d (.inl U);apply J [206,206,206,320,167,75,74];obtain⟨d1,d2⟩:=O;rw[d1]at u;rw[ids,Wi,Vg]at u;rw[d2]at w;apply J [204,101];exact Xq ⟨hS,fo⟩ [_] ⟨rfl,trivial⟩ (by rw[<-u];rfl) trivial (ca 3 rfl (by rw[<-u]) (ay ⟨H,n,f,ad,cap,D,m⟩ (by rw[<-w];exact d) (aq (aq (aq (aq (a6 _)))))))
end Go.Proofs.YtglgidjhoncphaaGreatDoor.ir
namespace Go.QM
open Go
section
variable {P : Program} {ag : Env} {A : ax} {d : Option Nat} {ty : TypeId} {ps : String} {bh : Array Edge} {g : Option (Nat × Bool)} {t t' : TypeId} {x y : Operand} {k : IntKind} {a b c : Int}
theorem RK{D:IntKind}{n:Int}(u:bb ag x=.int k a)(C:bb ag y=.int D n)(E:0<=n):
    bz P ag ⟨d,.binOp .shr t x y t',ty,ps,bh,g⟩ A (.int k (a.fdiv (2^min n.toNat k.bits))):=λw _=>by
  have:¬n<0:=U
  simp[execOp,u,C,eqGuard,binOp,Op.shift,this]
end
end Go.QM
