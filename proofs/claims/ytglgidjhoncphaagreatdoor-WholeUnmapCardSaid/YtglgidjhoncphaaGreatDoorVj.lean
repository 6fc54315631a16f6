/- Proved here: contracts of functions of this program, under the premises that each theorem names. -/
import Derived.Test.YtglgidjhoncphaaGreatDoorVi
set_option linter.all false
set_option maxRecDepth 4000
set_option maxHeartbeats 4000000
open List renaming length_append->mp,getElem?_eq_getElem->UO,mem_singleton->UP,mem_append->UQ,getElem?_eq_some_iff->UU,length_singleton->UY,mem_cons->U0,mem_map->U3,take_add_one->U5,nodup_cons->U6,mem_filter->U8,length_cons->U9,filter_eq_self->Vk,map_cons->Vm,take_length->VC,nodup_nil->VD,length_set->VH,length_map->VI,append_nil->VK,getD_eq_getElem?_getD->VO,range->VP,getElem?_of_mem->VS,perm_append_singleton->VX,map_congr_left->VZ,length_take->V5,filter_cons_of_neg->V6,filter_sublist->Wg,drop_drop->Wr,length->WB,filter_filter->WC,map_nil->WH,filter_eq_nil_iff->WM,append_of_mem->Xe,foldl_cons->Xh,find?_cons->Xr,map_map->XC,filter_append->XQ,filter_map->X3
open Go.QM.ab renaming aA->UR,loop->Vp,bg->Wd
open Nat renaming le_refl->UW,zero_le->UX,le_of_ble_eq_true->U2
open Go.QM.aT renaming known->Ve
open Go.Value renaming oneCell'->Vo,slice->Vt,bool->V1,int->V4
open Bool renaming and_eq_true->Vq,eq_iff_iff->Xt
open Go.Proofs.Tryz renaming prog->Vv
open Go.QM.aF renaming refl->Vx
open Int renaming eq_ofNat_of_zero_le->VU
open List.Perm renaming refl->Ws
open Option.some renaming injEq->Wt
open List.cons renaming inj->WV
open Ne renaming symm->W5
open List.Sublist renaming refl->Xi
open Go.QM.b4 renaming i->XT
open List.Pairwise renaming nil->X5
open Function renaming comp_apply->Yt
namespace Go.Proofs.YtglgidjhoncphaaGreatDoor.Rd
open Go Go.QM
theorem ui(xs:List Int)(k:Nat):(ints xs).take (k*1)=ints (xs.take k):=by simp[ints,List.map_take]
theorem rF:∀(xs:List Int),(ints xs).all Vo=true
 | []=>rfl
 | x::xs=>by have:=rF xs;rw[ints]at this⊢;rw[Vm,List.all_cons,this];rfl
variable{xs:List Int}{i:Nat}
theorem wC(h:i<xs.length){o:Nat}(d:o=i*1)(v:Int):dI o [aa v] (ints xs)=ints (xs.set i v):=by rw[d,Nat.mul_one,List.set_eq_take_append_cons_drop,aw h];simp[dI,ints]
theorem pN(xs ys:List Int):ints xs++ints ys=ints (xs++ys):=by simp[ints]
def gT(pr:Int->Bool):Int->Bool:=λx=>!pr x
structure hF(xs:List Int)(pr:Int->Bool)(i j:Nat)(ys:List Int):Prop where
  len:ys.length=xs.length
  kG:i<j
  oS:j<=xs.length
  tk:ys.take i=(xs.take j).filter (gT pr)
  n0:ys.drop j=xs.drop j
variable{pr:Int->Bool}
theorem hF.start{k:Nat}(h:xs.findIdx? pr=some k):hF xs pr k (k+1) xs:=by rw[List.findIdx?_eq_some_iff_getElem]at h;obtain⟨d,u,an⟩:=h;refine⟨rfl,by omega,d,?_,rfl⟩;grind[U5,gT,Vk,List.getElem_of_mem,V5]
theorem hF.nu{j:Nat}{ys:List Int}(h:hF xs pr i j ys)(u:j<xs.length){x:Int}(C:xs[j]? =some x)(w:pr x=false):hF xs pr (i+1) (j+1) (ys.set i x) where
 len:=by rw[VH];exact h.len
 kG:=by have:=h.kG;omega
 oS:=u
 tk:=by
  have D:=h.len;have d:=h.kG
  rw[U5,List.getElem?_set_self U,U5,C,XQ,<-h.tk]
  rw[List.take_set_of_le (UW i)]
  simp[gT,w]
 n0:=by
  have d:=h.kG
  rw[List.drop_set_of_lt U]
  rw[<-Wr,h.n0,Wr]
theorem hF.skip{j:Nat}{ys:List Int}(h:hF xs pr i j ys)(d:j<xs.length){x:Int}(w:xs[j]? =some x)(u:pr x=true):hF xs pr i (j+1) ys where
 len:=h.len
 kG:=by have:=h.kG;omega
 oS:=d
 tk:=by rw[U5,w,XQ,h.tk];simp[gT,u]
 n0:=by rw[<-Wr,h.n0,Wr]
theorem hF.get{j:Nat}{ys:List Int}(h:hF xs pr i j ys){x:Int}(u:xs[j]? =some x):ys[j]? =some x:=by
 have d:(ys.drop j)[0]? =(xs.drop j)[0]? :=by rw[h.n0]
 simp_all
theorem hF.done{ys:List Int}(h:hF xs pr i xs.length ys):ys.take i=xs.filter (gT pr)/\(xs.filter (gT pr)).length=i:=by have d:=h.tk;rw[VC]at d;refine⟨d,?_⟩;rw[<-d,V5];have:=h.len;have:=h.kG;omega
theorem ze(h:xs.findIdx? pr=none):xs.filter (gT pr)=xs:=by grind[Vk,gT]
theorem zP(ad:Option Addr)(cap:Nat)(xs:List Int)(gY:FuncId)(lb:List Value)(pr:Int->Bool)(D:ax->Prop)(O:∀x,bu gY ([aa x]++lb) D [] (.bool (pr x)) [])(W:xs.length<=1000000000):fA Vv 340 [.slice ad xs.length cap,.func (.func gY) #[] lb.toArray] (λF=>(∃E,cM F E ad (ints xs))/\D (ah [F])) [] (λ_:Unit=>aa (match xs.findIdx? pr with|some i=>(i:Int)|none=>-1)) (λ_=>True) (λ_=>[]):=by
 apply aG Tryz.func340 Tryz.ntmps340;intro F ⟨⟨E,H⟩,N⟩;apply J [9];haveI:bn F ad E (ints xs):=⟨H⟩;refine J [39,33,174,567] ?_;rintro k ⟨hinv,eI⟩ Z;dsimp only[cr]at hinv eI⊢;apply J [43];apply UR rfl<;>intro C;have C:k<xs.length:=U
 obtain⟨t,w⟩:∃t,xs[k]? =some t:=⟨xs[k],UO C⟩;have V:0<(ints xs).length:=by grind[eb]
 refine J [64,142,24,316,84,2,407] ?_;refine q rfl rfl (dC rfl rfl (hU w)) ?_;refine e rfl ?_;refine k4 (O t) rfl rfl (eu _) N ?_;intro _ _;apply J [153,3];cases Q:pr t with|true=>?_|false=>?_
 apply J [17,142,216];have d:xs.findIdx? pr=some k:=by grind[wj]
 exact XT () [_] ⟨rfl,trivial⟩ (by rw[d];rfl) trivial ai;refine J [73,112] ?_;exact⟨rfl,(k+1),⟨by omega,λj u P hu=>by rcases Nat.lt_succ_iff_lt_or_eq.1 P with h|h;exact eI j u h hu;subst h;rw[w]at hu;cases hu;exact Q⟩,U,bC,(ao (aZ _))⟩;obtain rfl:k=xs.length:=by omega
 have d:xs.findIdx? pr=none:=by grind[zu]
 apply J [21,209];exact XT () [_] ⟨rfl,trivial⟩ (by rw[d];rfl) trivial (ao (aZ _))
theorem v8(ad:Option Addr)(cap:Nat)(xs:List Int)(gY:FuncId)(lb:List Value)(pr:Int->Bool)(u:ax->Prop)(Q:∀x,bu gY ([aa x]++lb) u [] (.bool (pr x)) [])(an:xs.length<=1000000000)(aq:∀F,u F->u (ah [F]))(W:∀B F,u F->u (ah [B,F])):fA Vv 286 [.slice ad xs.length cap,.func (.func gY) #[] lb.toArray] u [a1 3 1 ad xs.length cap (ints xs)] (λ_:Unit=>.slice ad (xs.filter (gT pr)).length cap) (λ_=>True) (λ_=>[a1 3 1 ad (xs.filter (gT pr)).length cap (ints (xs.filter (gT pr)))]):=by
 apply aG Tryz.func286 Tryz.ntmps286;intro F P;apply J [1];refine ab.nl 0 rfl (λ_ av _=>?_);have a0:=eb xs;apply J [121,33,316,0];apply eE (zP ad cap xs gY lb pr u Q an) ⟨⟨_,bn.rd⟩,aq _ (W _ _ P)⟩;apply J [5];cases V:xs.findIdx? pr with|none=>?_|some k=>?_
 dsimp only;rw[ze V];apply J [31,177];refine UR rfl (λC=>?_) (λC=>absurd (rfl) C);apply J [33,180,75];exact hQ;dsimp only;have aK:=hF.start V;have aS:k<xs.length:=by have:=aK.oS;omega
 apply J [31,177];refine UR rfl (λD=>absurd D U) (λD=>?_);refine J [44,26,151,27,76,568] ?_;rintro⟨i,j,w⟩ d a4;dsimp only[cr]at d⊢;have aI:=d.oS;have aB:=d.kG;have a3:=d.len;have a2:=eb w;apply J [122,84,326,171];apply UR rfl<;>intro aV;have H:j<xs.length:=U
 obtain⟨x,N⟩:∃x,xs[j]? =some x:=⟨xs[j],UO H⟩;have ar:=d.get N;have aY:0<(ints w).length:=U
 refine J [64,287,407] ?_;refine q rfl rfl (dC rfl rfl (hU ar)) ?_;apply J [27,24,316,28];refine k4 (Q x) rfl rfl (eu _) (W _ _ P) ?_;intro _ _;apply J [5,259];cases Z:pr x with|true=>?_|false=>?_
 refine J [73,23,195] ?_;exact⟨rfl,⟨i,j+1,w⟩,(d.skip H N Z),cD,bC,(ao (ao (aZ _)))⟩;refine J [17,33,120,407,19,511,3,367,72,152,195] ?_;exact⟨rfl,⟨i+1,j+1,w.set i x⟩,(d.nu H N Z),cD,bC,(ao (ao (aZ _)))⟩;obtain rfl:j=xs.length:=by omega
 obtain⟨d1,d2⟩:=d.done;apply J [207,2];refine q rfl rfl (oi 3 1 (i) rfl rfl rfl U U) ?_;refine dh ?_;refine y4 (sz:=1) (z:=aa 0) i rfl rfl rfl rfl am rfl rfl U ?_;intro O C D;have ag:O.take (i*1)=ints (xs.filter (gT pr)):=by grind[ui]
 apply J [3,287];refine q rfl rfl (nH 3 1 (i) rfl rfl rfl U U) ?_;apply J [105];exact XT () [_] ⟨rfl,trivial⟩ (by rw[d2];rfl) trivial (eH 0 rfl (by have:=p0 (E:=3) (sz:=1) (ad:=ad) (n:=xs.length) (cap:=cap) (cs:=O) (j:=i) U;rw[ag]at this;rw[d2];exact this) (ao (aZ _)))
end Go.Proofs.YtglgidjhoncphaaGreatDoor.Rd
namespace Go.Proofs.YtglgidjhoncphaaGreatDoor.Rd
open Go Go.QM
structure cJ where
  id:Int
  prio:Int
  whole:Int
  left:Int
def S1(t:cJ):List Value:=[.int .i64 t.whole,.int .i64 t.left,.int .i64 t.prio]
def dA(S:List cJ)(p:Nat):List Int:=(S.filter λt=>decide (t.prio=(p:Int))).map (·.id)
def ep(S:List cJ)(id:Int):Prop:=∃t∈S,t.id=id
instance (S:List cJ)(id:Int):Decidable (ep S id):=inferInstanceAs (Decidable (∃t∈S,t.id=id))
def iO(A:Int->Nat)(S:List cJ):Int->Option Value:=λid=>if ep S id then some (.pointer (some ⟨A id,0,none⟩))else none
def h3(S:List cJ):Prop:=(S.map (·.id)).Nodup
structure fS(S:List cJ):Prop where
  bi:h3 S
  rg:∀t∈S,0<=t.id/\(0<=t.prio/\t.prio<=7)/\(0<=t.whole/\t.whole<=16)/\0<=t.left/\t.left<=16
structure CG where
  ad:Nat->Option Addr
  cap:Nat->Nat
  aE:Nat
  A:Int->Nat
abbrev l9(ad:Nat->Option Addr)(cap:Nat->Nat)(S:List cJ)(p:Nat):ax:=a1 3 1 (ad p) (dA S p).length (cap p) (ints (dA S p))
abbrev r0(A:Int->Nat)(t:cJ):ax:=aj (A t.id) 373 (S1 t)
abbrev ud(ad:Nat->Option Addr)(cap:Nat->Nat)(aE:Nat)(S:List cJ):List Value:=gw (λp=>.slice (ad p) (dA S p).length (cap p)) [.map (some aE)]
def eF(q:Nat)(S:List cJ):ax:=fj λy:CG=>pure' (fS S) (ah [aj q 261 (ud y.ad y.cap y.aE S),b5 (l9 y.ad y.cap S) (VP 8),bJ QM.encI y.aE (iO y.A S) S.length,b5 (r0 y.A) S])
variable{S T:List cJ}
theorem h3.perm(h:h3 S)(p:T.Perm S):h3 T:=(p.map _).nodup_iff.2 h
variable{t:cJ}
theorem h3.inj(h:h3 S){u:cJ}(C:t∈S)(hu:u∈S)(e:t.id=u.id):t=u:=by obtain⟨L,w⟩:=fp C;rcases U0.1 (w.mem_iff.1 hu)with d|d;simp_all;exact absurd (U3.2 ⟨u,d,e.symm⟩) (U6.1 (h.perm w.symm)).1
def eD(S:List cJ)(id:Int):List cJ:=S.filter λt=>decide (t.id≠id)
theorem A3{L:List cJ}(h:h3 S)(w:S.Perm (t::L)):(eD S t.id).Perm L:=by have d:=w.filter λu=>decide (u.id≠t.id);rw[V6 cE]at d;have C:L.filter (λu=>decide (u.id≠t.id))=L:=Vk.2 λu hu=>(by have:=(U6.1 (h.perm w.symm)).1;simp_all);rw[C]at d;exact d
theorem Eh{A:Int->Nat}(h:∀x,ep T x↔ep S x):iO A T=iO A S:=by grind[iO]
theorem wg{A:Int->Nat}{id:Int}(h:ep S id):iO A S id=some (.pointer (some ⟨A id,0,none⟩)):=aw h
theorem we{A:Int->Nat}{id:Int}(h:¬ep S id):iO A S id=none:=al h
theorem Ql(S:List cJ)(x:Int):¬ep (eD S x) x:=by rintro⟨t,d,h⟩;have:=(U8.1 d).2;simp_all
theorem xh{x y:Int}:ep (eD S x) y↔ep S y/\y≠x:=by constructor;rintro⟨t,d,rfl⟩;obtain⟨u,w⟩:=U8.1 d;exact⟨⟨t,u,rfl⟩,by simpa using w⟩;rintro⟨⟨t,d,rfl⟩,h⟩;exact⟨t,U8.2 ⟨d,by simpa using h⟩,rfl⟩
theorem Qk{x:Int}(h:¬ep S x):eD S x=S:=Vk.2 λt d=>by
 simp only[decide_eq_true_eq];exact λe=>h ⟨t,d,e⟩
theorem Gu{x:Int}(an:h3 S)(h:ep S x):(eD S x).length+1=S.length:=by obtain⟨t,u,rfl⟩:=h;obtain⟨L,d⟩:=fp u;rw[(A3 an d).length_eq,d.length_eq];rfl
theorem fS.sub(h:fS S)(hs:T.Sublist S):fS T:=⟨h.bi.sublist (hs.map _),λt d=>h.rg t (hs.subset d)⟩
theorem fS.off(h:fS S)(x:Int):fS (eD S x):=h.sub Wg
def gz(S:List cJ)(id prio b9:Int):List cJ×Int:=if id<0\/prio<0\/7<prio\/b9<1\/16<b9 then(S,1)else if ep S id then(S,7)else(S++[⟨id,prio,b9,b9⟩],0)
theorem fS.add(h:fS S)(C:¬ep S t.id)(hr:0<=t.id/\(0<=t.prio/\t.prio<=7)/\(0<=t.whole/\t.whole<=16)/\0<=t.left/\t.left<=16):fS (S++[t]) where
 bi:=by
  rw[h3,List.map_append,List.nodup_append]
  refine⟨h.bi,by simp,λx D y d=>?_⟩
  obtain⟨a,w,rfl⟩:=U3.1 D
  simp only[Vm,WH,UP]at d
  rw[d];exact λe=>C ⟨a,w,e⟩
 rg:=λu hu=>by
  rcases UQ.1 hu with hu|hu
  ·exact h.rg u hu
  rw[UP.1 hu];exact hr
theorem xA(S T:List cJ)(p:Nat):dA (S++T) p=dA S p++dA T p:=by simp[dA]
variable{p:Nat}
theorem Hi(h:t.prio=p):dA [t] p=[t.id]:=by simp[dA,h]
theorem Hj(h:t.prio≠p):dA [t] p=[]:=by simp[dA,h]
theorem Mq{A:Int->Nat}(b:Nat):iO (aP A t.id b) (S++[t])=fe (iO A S) t.id (ae b):=by
 funext x;simp only[iO,fe];have d:ep (S++[t]) x↔ep S x\/t.id=x:=by simp[ep,or_and_right,exists_or]
 by_cases e:x=t.id;rw[aw (d.2 (.inr e.symm)),aw e,e,cf];rw[al e,bP e];grind
variable(x:Int)
theorem Mr{A:Int->Nat}:iO A (eD S x)=fU (iO A S) x:=by funext y;simp only[iO,fU];by_cases e:y=x;rw[aw e,al (λh=>(xh.1 h).2 e)];rw[al e];by_cases h:ep S y;rw[aw h,aw (xh.2 ⟨h,e⟩)];rw[al h,al (λd=>h (xh.1 d).1)]
theorem Bs{S:List cJ}{x:Int}:x∈dA S p↔∃t∈S,t.prio=p/\t.id=x:=by simp[dA,and_assoc]
theorem Br(S:List cJ)(p:Nat):(dA S p).length<=S.length:=by rw[dA,VI];exact List.length_filter_le _ _
theorem Bt(S:List cJ)(p:Nat)(x:Int):dA (eD S x) p=(dA S p).filter λy=>decide (y≠x):=by rw[dA,dA,X3,eD,WC,WC];grind
theorem Hh(an:h3 S)(C:t∈S)(w:t.prio≠p):dA (eD S t.id) p=dA S p:=by rw[Bt];refine Vk.2 λy D=>?_;obtain⟨u,hu,d,rfl⟩:=Bs.1 D;simp only[decide_eq_true_eq];intro e;rw[an.inj hu C e]at d;exact w d
variable{cap:Nat->Nat}
theorem Hq{ad:Nat->Option Addr}{L:List Nat}{a:Option Addr}{c:Nat}(d:∀x∈L,x≠p/\x<8)(h:∀x,x≠p->dA T x=dA S x):∀x∈L,l9 ad cap S x=l9 (dF ad p a) (dF cap p c) T x:=λx u=>by
 have:=(d x u).1
 simp only[l9,jc this,h x this]
theorem RJ{ad:Nat->Option Addr}{L:List Nat}(d:∀x∈L,x≠p/\x<8)(h:∀x,x≠p->dA T x=dA S x):∀x∈L,l9 ad cap S x=l9 ad cap T x:=λx u=>by
 have:=(d x u).1
 simp only[l9,h x this]
theorem EF{ad:Nat->Option Addr}{aE:Nat}{n c:Nat}{a:Option Addr}(h:∀x,x≠p->dA T x=dA S x)(d:(dA T p).length=n):
 gw (λx=>if x=p then Vt a n c else .slice (ad x) (dA S x).length (cap x)) [.map (some aE)]=ud (dF ad p a) (dF cap p c) aE T:=Ho λx _=>by
 by_cases e:x=p
 ·rw[aw e,e,jD,jD,d]
 rw[al e,jc e,jc e,h x e]
theorem zM{ad:Nat->Option Addr}{aE:Nat}(h:∀x,(dA T x).length=(dA S x).length):ud ad cap aE S=ud ad cap aE T:=Ho λx _=>by rw[h x]
def gD(S:List cJ)(ids:List Int):List cJ:=ids.foldl eD S
theorem L8(S:List cJ)(ids:List Int)(x:Int):gD S (ids++[x])=eD (gD S ids) x:=by simp[gD]
theorem n2(S:List cJ):∀ids,(gD S ids).Sublist S
 | []=>Xi _
 | x::l=>by rw[gD,Xh];exact(n2 (eD S x) l).trans Wg
theorem L7(S:List cJ)(ids:List Int):gD S ids=S.filter λt=>decide (t.id∉ids):=by induction ids generalizing S with|nil=>exact(Vk.2 λa _=>by simp).symm|cons x l d=>rw[gD,Xh];have:=d (eD S x);rw[gD]at this;rw[this,eD,WC];congr 1;funext e;rw[Xt];simp only[Vq,decide_eq_true_eq,U0,not_or];exact⟨λh=>⟨h.2,h.1⟩,λh=>⟨h.2,h.1⟩⟩
def hE(S:List cJ):Option cJ:=S.find? λt=>S.all λu=>decide (u.prio<=t.prio)
def e9(S:List cJ):Int:=match hE S with
  | some t=>t.id
  | none=>-1
theorem nJ{S:List cJ}(h:hE S=some t):t∈S/\∀u∈S,u.prio<=t.prio:=by refine⟨List.mem_of_find?_eq_some h,λu hu=>?_⟩;have:=List.find?_some h;simp_all
theorem Ih(h:fS S)(an:∀x,p<x->x<8->dA S x=[]){x:Int}{rest:List Int}(hr:dA S p=x::rest):∃t,hE S=some t/\t.id=x/\t.prio=p:=by
 have hle:∀u∈S,u.prio<=p:=λu hu=>(by have D:=h.rg u hu;obtain⟨k,O⟩:=VU D.2.1.1;by_cases P:p<k;have:=an k P U;have hm:u.id∈dA S k:=Bs.2 ⟨u,hu,O,rfl⟩;rw[this]at hm;cases hm;omega);obtain⟨t,T,d⟩:∃t T,S.filter (λt=>decide (t.prio=(p:Int)))=t::T:=(by cases H:S.filter (λt=>decide (t.prio=(p:Int)))with|nil=>rw[dA,H]at hr;cases hr|cons t T=>exact⟨t,T,rfl⟩);have N:t.id=x:=by rw[dA,d]at hr;simpa using(WV hr).1
 have C:=U8.1 (show t∈S.filter (λt=>decide (t.prio=(p:Int)))by rw[d];simp);have Q:t.prio=p:=by simpa using C.2
 refine⟨t,?_,N,Q⟩;have E:hE S=S.find? λt=>decide (t.prio=(p:Int)):=(by rw[hE];have:∀u∈S,(S.all λv=>decide (v.prio<=u.prio))=decide (u.prio=(p:Int)):=λu hu=>(by rw[Xt,List.all_eq_true];simp only[decide_eq_true_eq];constructor;intro w;have V:=w t C.1;have W:=hle u hu;omega;intro w v hv;have:=hle v hv;omega);induction S with|nil=>rfl|cons a l _=>exact find_congr this);rw[E,<-List.head?_filter,d];rfl
 where find_congr {f g:cJ->Bool}:∀{l:List cJ},(∀u∈l,f u=g u)->l.find? f=l.find? g
  | [],_=>rfl
  | a::l,h=>by
   rw[Xr,Xr,h a cE,find_congr λu hu=>h u (by simp[hu])]
theorem Tc(h:fS S)(an:∀x,x<8->dA S x=[]):S=[]:=by
 rcases S with _|⟨t,T⟩;trivial;have d:=h.rg t cE;obtain⟨k,u⟩:=VU d.2.1.1;have hm:t.id∈dA (t::T) k:=by grind[Bs]
 grind
def ig(S:List cJ)(t:cJ):List cJ:=eD S t.id++[⟨t.id,t.prio,t.whole,t.whole⟩]
def iI(S:List cJ)(id v:Int):List cJ:=S.map λt=>if t.id=id then⟨t.id,t.prio,t.whole,v⟩else t
def jb(S:List cJ):List cJ:=match hE S with
  | none=>S
  | some t=>if t.left=1 then ig S t else iI S t.id (t.left-1)
def ku(S:List cJ):List cJ:=match hE S with
  | none=>S
  | some t=>ig S t
theorem Bp(u:t∈S)(x:Int):ep (ig S t) x↔ep S x:=by
 have d:ep (ig S t) x↔ep (eD S t.id) x\/t.id=x:=by simp[ig,ep,or_and_right,exists_or]
 rw[d,xh];constructor;rintro(h|h);simp_all;exact⟨t,u,h⟩;grind
theorem fS.Bo(h:fS S)(d:t∈S):fS (ig S t):=
 (h.off t.id).add (t:=⟨t.id,t.prio,t.whole,t.whole⟩) (Ql S t.id) (by have:=h.rg t d;dsimp only;omega)
theorem Bq(h:h3 S)(d:t∈S):(ig S t).length=S.length:=by have:=Gu h ⟨t,d,rfl⟩;grind[ig]
theorem He(an:h3 S)(u:t∈S){x:Nat}(d:t.prio=p)(w:x≠p):dA (ig S t) x=dA S x:=by grind[ig,xA,Hj,Hh]
theorem RB(an:h3 S)(p:Nat):(dA S p).Nodup:=an.sublist (List.filter_sublist.map _)
theorem Hd(an:h3 S)(u:t.prio=p){rest:List Int}(hr:dA S p=t.id::rest):dA (ig S t) p=rest++[t.id]:=by rw[ig,xA,Hi (by dsimp only;exact u),Bt,hr,V6 cE];have d:=RB an p;rw[hr,U6]at d;rw[Vk.2 λy w=>by simp only[decide_eq_true_eq];exact λe=>d.1 (by rw[<-e];exact w)]
theorem Tb(h:hE S=some t)(C:t.prio=p):∃rest,dA S p=t.id::rest:=by obtain⟨hm,hle⟩:=nJ h;have w:hE S=S.find? λt=>decide (t.prio=(p:Int)):=(by rw[hE];refine Ih.find_congr λu hu=>?_;grind);rw[w,<-List.head?_filter]at h;cases d:S.filter (λt=>decide (t.prio=(p:Int)))with|nil=>rw[d]at h;cases h|cons a l=>rw[d]at h;simp only[List.head?_cons,Wt]at h;exact⟨l.map (·.id),by rw[dA,d,h];rfl⟩
theorem RD(rest:List Int):dI 0 (((ints (x::rest)).drop (1*1)).take (rest.length*1)) (ints (x::rest))=ints (rest++(x::rest).drop rest.length):=by grind[dI,ints,List.map_drop]
theorem RH(rest:List Int):(rest++(x::rest).drop rest.length).set rest.length x=rest++[x]:=by
 rw[List.set_append_right _ _ (UW _),Nat.sub_self];have d:((x::rest).drop rest.length).length=1:=cE
 grind[List.length_eq_one_iff]
theorem Hs(S:List cJ)(id v x:Int):ep (iI S id v) x↔ep S x:=by simp only[ep,iI,U3];grind
theorem xG(S:List cJ)(id v:Int)(p:Nat):dA (iI S id v) p=dA S p:=by rw[dA,dA,iI,X3,XC];have d:((λt:cJ=>decide (t.prio=(p:Int)))∘λt:cJ=>if t.id=id then(⟨t.id,t.prio,t.whole,v⟩:cJ)else t)=λt=>decide (t.prio=(p:Int)):=cp;rw[d];exact VZ λt _=>by simp only[Yt];split<;>rfl
theorem R2(S:List cJ)(id v:Int):(iI S id v).map (·.id)=S.map (·.id):=by rw[iI,XC];exact VZ λt _=>by simp only[Yt];split<;>rfl
theorem By(S:List cJ)(id v:Int):(iI S id v).length=S.length:=by simp[iI]
theorem fS.iI{S:List cJ}(h:fS S)(id:Int){v:Int}(hv:0<=v/\v<=16):fS (iI S id v) where
 bi:=by rw[h3,R2];exact h.bi
 rg:=λt d=>by obtain⟨u,hu,rfl⟩:=U3.1 d;have:=h.rg u hu;split;dsimp only;omega;exact this
theorem Ht{L:List cJ}(an:h3 S)(w:S.Perm (t::L))(v:Int):(⟨t.id,t.prio,t.whole,v⟩::L:List cJ).Perm (iI S t.id v):=by have d:=w.map λu:cJ=>if u.id=t.id then(⟨u.id,u.prio,u.whole,v⟩:cJ)else u;rw[Vm,aw rfl]at d;have C:L.map (λu:cJ=>if u.id=t.id then(⟨u.id,u.prio,u.whole,v⟩:cJ)else u)=L:=(by(conv=>rhs;rw[<-List.map_id L]);refine VZ λu hu=>?_;have:=(U6.1 (an.perm w.symm)).1;simp_all);rw[C]at d;exact d.symm
theorem R4(h:hE S=some t)(v:Int):hE (iI S t.id v)=some ⟨t.id,t.prio,t.whole,v⟩:=by
 have D:∀u:cJ,(if u.id=t.id then(⟨u.id,u.prio,u.whole,v⟩:cJ)else u).prio=u.prio:=cp
 rw[hE,iI,List.find?_map];have d:((λa:cJ=>(S.map λu:cJ=>if u.id=t.id then(⟨u.id,u.prio,u.whole,v⟩:cJ)else u).all λw=>decide (w.prio<=a.prio))∘λu:cJ=>if u.id=t.id then(⟨u.id,u.prio,u.whole,v⟩:cJ)else u)=λa=>S.all λw=>decide (w.prio<=a.prio):=cp;rw[d];have C:S.find? (λa=>S.all λw=>decide (w.prio<=a.prio))=some t:=h;simp_all
theorem R3(S:List cJ)(id v:Int):eD (iI S id v) id=eD S id:=by
 rw[eD,eD,iI,X3];have d:((λu:cJ=>decide (u.id≠id))∘λt:cJ=>if t.id=id then(⟨t.id,t.prio,t.whole,v⟩:cJ)else t)=λu=>decide (u.id≠id):=cp;rw[d];conv=>rhs;rw[<-List.map_id (S.filter _)]
 refine VZ λu hu=>?_;simp_all
theorem fS.nil:fS []:=⟨VD,λt h=>by cases h⟩
theorem not_neg(h:fS S):¬ep S (-1):=by rintro⟨t,d,u⟩;have:=h.rg t d;omega
end Go.Proofs.YtglgidjhoncphaaGreatDoor.Rd
namespace Go.Proofs.YtglgidjhoncphaaGreatDoor.Rd
open Go Go.QM
def hC(S:List cJ)(p:Int):List Int:=if 0<=p/\p<=7 then dA S p.toNat else[]
theorem RE{S:List cJ}{p:Nat}{x:Int}:(dA S p).filter (gT λy=>decide (y=x))=dA (eD S x) p:=by grind[Bt,List.filter_congr,gT]
theorem QK{S L:List cJ}{t:cJ}(h:h3 S)(d:S.Perm (t::L))(u:cJ):(u::L).Perm (eD S t.id++[u]):=
 ((A3 h d).symm.cons u).trans (VX _ _).symm
variable(d7:Nat)
theorem Rv(aE:Nat)(F:ax):aF (ah [aj d7 261 (gw (λ_=>.slice none 0 0) [.map (some aE)]),bJ QM.encI aE (λ_=>none) 0,F]) (ah [eF d7 [],F]):=by
 have u:iO (λ_=>0) []=λ_=>none:=by trivial
 have d:VP 8=[0,1,2,3,4,5,6,7]:=kJ
 refine(nf (f:=r0 (λ_=>0)) _).trans ?_;refine(((dH 3 1 _).trans ((dH 3 1 _).trans ((dH 3 1 _).trans ((dH 3 1 _).trans ((dH 3 1 _).trans ((dH 3 1 _).trans ((dH 3 1 _).trans (dH 3 1 _)))))))):aF _ (ah [a1 3 1 none 0 0 [],a1 3 1 none 0 0 [],a1 3 1 none 0 0 [],a1 3 1 none 0 0 [],a1 3 1 none 0 0 [],a1 3 1 none 0 0 [],a1 3 1 none 0 0 [],a1 3 1 none 0 0 [],_,_,_,_])).trans ?_;refine ay (⟨λ_=>none,λ_=>0,aE,λ_=>0⟩:CG) fS.nil ?_;refine bI 9 rfl ?_;refine(show aF (ah [a1 3 1 none 0 0 [],a1 3 1 none 0 0 [],a1 3 1 none 0 0 [],a1 3 1 none 0 0 [],a1 3 1 none 0 0 [],a1 3 1 none 0 0 [],a1 3 1 none 0 0 [],a1 3 1 none 0 0 [],b5 (r0 λ_=>0) [],bJ QM.encI aE (λ_=>none) 0,F]) (ah [b5 (l9 (λ_=>none) (λ_=>0) []) (VP 8),bJ QM.encI aE (iO (λ_=>0) []) 0,b5 (r0 λ_=>0) [],F])from ?_);rw[u,b5,d];refine(uW [a1 3 1 none 0 0 [],a1 3 1 none 0 0 [],a1 3 1 none 0 0 [],a1 3 1 none 0 0 [],a1 3 1 none 0 0 [],a1 3 1 none 0 0 [],a1 3 1 none 0 0 [],a1 3 1 none 0 0 []] _).trans (dO (Vx _) ?_);exact bI 1 rfl (ao (ao (aZ _)))
theorem Rw:bL 191 [] be [] (λd7:Nat=>ae d7) (λ_=>True) (λd7=>[eF d7 []]):=by
 apply aG Tryz.func191 Tryz.ntmps191;intro F _;refine J [9,168,25,328] ?_;intro bb;first|refine q rfl rfl (eh (cs:=[.slice _ _ _,.slice _ _ _,.slice _ _ _,.slice _ _ _,.slice _ _ _,.slice _ _ _,.slice _ _ _,.slice _ _ _,.map _]) rfl) ?_|refine q rfl rfl (eh (cs:=[_,_,_,_,_,_,_,_,_]) rfl) ?_
 refine e rfl ?_;refine e0 (v:=.agg _) (l:=[.slice _ _ _,.slice _ _ _,.slice _ _ _,.slice _ _ _,.slice _ _ _,.slice _ _ _,.slice _ _ _,.slice _ _ _,.map _]) rfl rfl ?_;intro bo;apply J [106];have d:VP 8=[0,1,2,3,4,5,6,7]:=kJ
 exact br bo trivial (Rv bo bb F)
theorem qR(r:Nat->Value)(aE n:Nat)(f:Int->Option Value)(id:Int):bu 241 [ae d7,aa id] be [aj d7 261 (gw r [.map (some aE)]),bJ QM.encI aE f n] ((f id).getD (.pointer none)) [aj d7 261 (gw r [.map (some aE)]),bJ QM.encI aE f n]:=by apply aG Tryz.func241 Tryz.ntmps241;intro F _;apply J [13,24,150,29,128,154,99,128,80,280,304];refine q rfl rfl (ko 3 368 rfl rfl (dL.int rfl) rfl rfl) ?_;apply J [150,260];exact eZ (ao (ao (ao (aZ _))))
theorem CT(b:Nat)(w l r:Int):bu 242 [ae b] be [aj b 373 [aa w,aa l,aa r]] (.tuple #[]) [aj b 373 [aa w,aa w,aa r]]:=by apply aG Tryz.func242 Tryz.ntmps242;intro F _;apply J [1,38,162,53,269,203,327];exact ye
theorem SD(b:Nat)(w l r:Int)(d:0<=l/\l<=100):bu 276 [ae b] be [aj b 373 [aa w,aa l,aa r]] (.bool (decide (l-1=0))) [aj b 373 [aa w,aa (l-1),aa r]]:=by apply aG Tryz.func276 Tryz.ntmps276;intro F _;refine J [1,135,67,218,269,284,67,296,63] ?_;exact hQ
theorem L6(b:Nat)(id x:Int):bu 382 [aa x,ae b] (λF=>Rd F b (.cells #[aa id] 3 (0,0))) [] (.bool (decide (x=id))) []:=by apply aG Tryz.func382 Tryz.ntmps382;intro F d;apply J [9];haveI:fT F b (.cells #[aa id] 3 (0,0)):=⟨d⟩;apply J [241,82,296,63];exact j8
theorem qT(S:List cJ)(an:S.length<=1000000):bu 105 [ae d7] be [eF d7 S] (aa (e9 S)) [eF d7 S]:=by
 apply aG Tryz.func105 Tryz.ntmps105;intro F _;apply J [1];refine ab.open 0 rfl (λd H=>?_);obtain⟨ad,cap,aE,A⟩:=d;have u:=H;apply J [85];dsimp only at u⊢;apply J [39,266];refine Vp (ι:=Nat) (λk=>k<=8/\∀x,k<=x->x<8->dA S x=[]) (λk=>[(0,ae d7),(3,aa ((k:Int)-1))]) (λk=>ah [aj d7 261 (ud ad cap aE S),b5 (l9 ad cap S) (VP 8),bJ QM.encI aE (iO A S) S.length,b5 (r0 A) S,F]) (λk=>k) 8 ⟨UW _,λx D w=>by omega⟩ bC (ao (ao (ao (ao (ao (aZ _)))))) ?_;rintro k ⟨P,C⟩ aB;dsimp only[cr]at P C⊢;apply J [8,360,20];refine Ve 7 rfl (c:=true) rfl ?_;apply J [11,306,182];apply UR rfl<;>intro Z;obtain⟨p,rfl⟩:∃z,k=z+1:=⟨k-1,by omega⟩;rw[show(((p+1:Nat):Int)-1)=(p:Int)from by omega];have oQ:p<8:=U
 obtain⟨L,E,W⟩:=xz oQ;refine Wd (fV 1 rfl E) ?_;apply J [64,35,80,81];refine q rfl rfl (lh 8 90 1 rfl rfl rfl U U) ?_;refine q rfl rfl (gS rfl rfl (Hp oQ U)) ?_;apply J [180,33,326,219,3];apply UR rfl<;>intro hlen;obtain⟨d,rest,V⟩:∃d rest,dA S p=d::rest:=(by cases Q:dA S p with|nil=>rw[Q]at hlen;simp at hlen|cons a l=>exact⟨a,l,rfl⟩);obtain⟨t,ar,av,ax⟩:=Ih u (λx D w=>C x U w) V;have hv:e9 S=d:=by grind[e9]
 rw[hv];have H:(dA S p)[0]? =some d:=b2
 have ag:=eb (dA S p);have aq:0<(ints (dA S p)).length:=U
 refine J [33,512] ?_;refine q rfl rfl (dC rfl rfl (hU H)) ?_;apply J [27,216];exact eZ (ay ⟨ad,cap,aE,A⟩ u (bv (cQ 0 0 p rfl rfl rfl (λ_ _=>rfl) E.symm (ao (ao (ao (aZ _)))))));refine J [23,202,218,27] ?_;exact⟨rfl,p,⟨by omega,λx D w=>by rcases Nat.lt_or_eq_of_le D with N|N;exact C x U w;subst N;exact List.length_eq_zero_iff.1 U⟩,U,bC,(bv (cQ 0 0 p rfl rfl rfl (λ_ _=>rfl) E.symm (ao (ao (ao (aZ _))))))⟩;obtain rfl:k=0:=by omega
 have O:=Tc u (λx h=>C x U h);have hv:e9 S=-1:=by rw[O];rfl
 rw[hv];apply J [21,209];exact eZ (ay ⟨ad,cap,aE,A⟩ u (ao (ao (ao (ao (ao (aZ _)))))))
theorem vG(S:List cJ)(an:S.length<=1000000)(id pr d:Int):bu 197 [ae d7,aa id,aa pr,aa d] be [eF d7 S] (aa (gz S id pr d).2) [eF d7 (gz S id pr d).1]:=by
 apply aG Tryz.func197 Tryz.ntmps197;intro F _;apply J [1,39,76,253];refine Ve 13 rfl (c:=false) rfl ?_;apply J [190,41];refine aT.split 17 rfl (λC=>?_) (λC=>?_);have C:=dt C;have hv:gz S id pr d=(S,1):=by rw[gz,aw U]
 rw[hv];dsimp only;apply J [361,361,361,47,140,197];exact hQ;have C:=dX C;apply J [190,41];refine aT.split 21 rfl (λD=>?_) (λD=>?_);have D:=dt D;have hv:gz S id pr d=(S,1):=by rw[gz,aw U]
 rw[hv];dsimp only;apply J [361,361,47,140,197];exact hQ;have D:=dX D;apply J [143,41];refine aT.split 25 rfl (λE=>?_) (λE=>?_);have E:=dt E;have hv:gz S id pr d=(S,1):=by rw[gz,aw U]
 rw[hv];dsimp only;apply J [361,47,140,197];exact hQ;have E:=dX E;apply J [190,41];refine aT.split 29 rfl (λH=>?_) (λH=>?_);have H:=dt H;have hv:gz S id pr d=(S,1):=by rw[gz,aw U]
 rw[hv];dsimp only;apply J [47,140,197];exact hQ;have H:=dX H;apply J [143,206];apply UR rfl<;>intro aV;have hv:gz S id pr d=(S,1):=by rw[gz,aw U]
 rw[hv];dsimp only;apply J [103];exact hQ;refine ab.open 0 rfl (λax av=>?_);obtain⟨ad,cap,aE,A⟩:=ax;have O:=av;apply J [85];dsimp only at O⊢;by_cases w:ep S id;have N:=wg (A:=A) w;have hv:gz S id pr d=(S,7):=by rw[gz,al U,aw w]
 rw[hv];dsimp only;apply J [32];refine aL (qR d7 _ aE S.length (iO A S) id) rfl (dY 0 rfl (dY 1 rfl (eu _))) trivial ?_;intro _ _;apply J [10];rw[N];apply J [566,37,197];exact eZ (ay ⟨ad,cap,aE,A⟩ O (ao (bV (ao (ao (ao (aZ _)))))));have N:=we (A:=A) w;have hv:gz S id pr d=(S++[⟨id,pr,d,d⟩],0):=by rw[gz,al U,al w]
 rw[hv];dsimp only;obtain⟨p,rfl⟩:=VU (show 0<=pr by omega);have oQ:p<8:=U
 obtain⟨L,P,aq⟩:=xz oQ;have aS:=Br S p;have ar:=O.add (t:=⟨id,p,d,d⟩) w cD;have Q:∀x,x≠p->dA (S++[⟨id,(p:Int),d,d⟩]) x=dA S x:=by grind[xA,Hj]
 have V:dA (S++[⟨id,(p:Int),d,d⟩]) p=dA S p++[id]:=by grind[xA,Hi]
 have aI:=eb (dA S p);refine Wd (fV 1 rfl P) ?_;apply J [32];refine aL (qR d7 _ aE S.length (iO A S) id) rfl (dY 2 rfl (dY 2 rfl (eu _))) trivial ?_;intro _ _;apply J [14];rw[N];apply J [566,189,23,26];first|refine q rfl rfl (eh (cs:=[.int _ _,.int _ _]) rfl) ?_|refine q rfl rfl (eh (cs:=[_,_]) rfl) ?_
 apply J [2];first|refine q rfl rfl (eh (cs:=[.int _ _,.int _ _,.int _ _]) rfl) ?_|refine q rfl rfl (eh (cs:=[_,_,_]) rfl) ?_
 refine J [0,291] ?_;intro cl;apply J [279,46,0];refine aL (CT cl d 0 p) rfl (dY 0 rfl (eu _)) trivial ?_;intro _ _;apply J [16,3,127,280,2,162,19];refine lZ 3 368 rfl (dL.int rfl) rfl rfl rfl ?_;apply J [29];refine ab.draw _ [14] [0,1,2,3,4,5,6,7,8,11,12,-9,-10,13,-14] aM aM (bv (aZ _)) ?_;refine J [77,15,77,15,88,87,434,513,15,88,87,12,149] ?_;intro aB;refine J [45,569] ?_;intro W Z;refine J [6,434,90,570,74,209] ?_;exact eZ (ay ⟨dF ad p W,dF cap p Z,aE,aP A id cl⟩ ar (b8 0 rfl (congrArg (aj d7 261) (EF (n:=(dA S p).length+1) Q (by rw[V,mp];rfl))) (cQ 0 3 p rfl rfl (by dsimp only[l9];rw[jD,jD,V,mp,UY,pN]) (Hq aq Q) P.symm (b8 1 rfl (by dsimp only;rw[Mq (t:=⟨id,(p:Int),d,d⟩),N,mp];rfl) (cQ 1 1 ⟨id,(p:Int),d,d⟩ rfl rfl (by dsimp only[r0];rw[cf];rfl) (λu hu=>by dsimp only[r0];rw[bP (λag=>w ⟨u,hu,ag⟩)]) (VX _ _).symm (bV (aZ _)))))))
end Go.Proofs.YtglgidjhoncphaaGreatDoor.Rd
namespace Go.Proofs.YtglgidjhoncphaaGreatDoor.Rd
open Go Go.QM
theorem row_one(xs:List Int)(a b:Nat):(((ints xs).drop a).take b).all Vo=true:=by grind[rF]
theorem Ru(S:List cJ)(t:cJ)(v:Int):ig (iI S t.id v) ⟨t.id,t.prio,t.whole,v⟩=ig S t:=by rw[ig,R3];rfl
theorem Rt{S:List cJ}(an:h3 S){t:cJ}(u:t∈S){p:Nat}(d:t.prio=p){rest:List Int}(hr:dA S p=t.id::rest)(x:Nat):(dA (ig S t) x).length=(dA S x).length:=by by_cases e:x=p;rw[e,Hd an d hr,hr];simp;grind[He]
theorem fS.tick{S:List cJ}(h:fS S)(d:∀t∈S,1<=t.left):fS (jb S):=by rw[jb];cases u:hE S with|none=>exact h|some t=>have hm:=(nJ u).1;have w:=h.rg t hm;have C:=d t hm;dsimp only;split;exact h.Bo hm;exact h.iI t.id U
theorem Rs{S:List cJ}(h:fS S)(u:∀t∈S,1<=t.left):(jb S).length=S.length:=by rw[jb];cases d:hE S with|none=>rfl|some t=>dsimp only;split;exact Bq h.bi (nJ d).1;exact By _ _ _
variable(d7:Nat)
theorem Hf(S:List cJ)(an:S.length<=1000000)(t:cJ)(E:hE S=some t):bu 277 [ae d7,aa t.id] be [eF d7 S] (.tuple #[]) [eF d7 (ig S t)]:=by
 apply aG Tryz.func277 Tryz.ntmps277;intro F _;apply J [1];refine ab.open 0 rfl (λZ W=>?_);obtain⟨ad,cap,aE,A⟩:=Z;have d:=W;apply J [85];dsimp only at d⊢;have u:=(nJ E).1;have Q:=d.rg t u;obtain⟨p,w⟩:=VU Q.2.1.1;have oQ:p<8:=U
 obtain⟨rest,C⟩:=Tb E w;obtain⟨L,D,H⟩:=xz oQ;obtain⟨M,bH⟩:=fp u;have O:=wg (A:=A) ⟨t,u,rfl⟩;have P:=Br S p;rw[C,U9]at P;apply J [346];refine Wd (fV 3 rfl D) ?_;apply J [32];refine aL (qR d7 _ aE S.length (iO A S) t.id) rfl (dY 4 rfl (dY 4 rfl (eu _))) trivial ?_;intro _ _;apply J [16];rw[O];apply J [52,42,46,0];refine aL (CT (A t.id) t.whole t.left t.prio) rfl (dY 4 rfl (eu _)) trivial ?_;intro _ _;refine J [16,29,514,77,185,88,87,434,513,347,74,8] ?_;dsimp only[l9];rw[C,U9];refine ab.nl 3 rfl (λ_ N _=>?_);haveI:sj (ints (t.id::rest)) (cap p) 1 1:=⟨rest.length+1,by rw[eb];simp,by omega,N⟩;have ag:0<(ints (rest++(t.id::rest).drop rest.length)).length:=by grind[eb]
 apply J [226,104,84];refine q rfl rfl (oi 3 1 (1) rfl rfl rfl U U) ?_;refine e rfl ?_;refine Lw rest.length rfl rfl rfl (by rw[List.length_drop,eb];simp) (Nat.min_eq_left (Nat.sub_le _ _)) (by rw[eb];exact Nat.succ_pos _) (row_one _ _ _) (RD t.id rest) ?_;refine J [3,104,84,326,218,2,512,19] ?_;refine eg (v:=.int _ _) (vs:=[_]) 1 rfl rfl rfl rfl rfl rfl am (by rw[eb];simp) ((wC (i:=rest.length) cE U _).trans (congrArg ints (RH t.id rest))) ?_;refine aT.nil ?_;exact qn (ay ⟨ad,cap,aE,A⟩ (d.Bo u) (b8 2 rfl (congrArg (aj d7 261) (zM (Rt d.bi u w C))) (cQ 0 2 p rfl rfl (by dsimp only[l9];rw[Hd d.bi w C,mp];rfl) (RJ H (λx V=>He d.bi u w V)) D.symm (b8 1 rfl (by rw[Eh (Bp u),Bq d.bi u]) (cQ 0 0 ⟨t.id,t.prio,t.whole,t.whole⟩ rfl rfl rfl (λ_ _=>rfl) (QK d.bi bH _) (ao (aZ _)))))))
theorem RA(S:List cJ)(an:S.length<=1000000)(id:Int)(w:¬ep S id):bu 277 [ae d7,aa id] be [eF d7 S] (.tuple #[]) [eF d7 S]:=by apply aG Tryz.func277 Tryz.ntmps277;intro F _;apply J [1];refine ab.open 0 rfl (λD C=>?_);obtain⟨ad,cap,aE,A⟩:=D;have d:=C;apply J [85];dsimp only at d⊢;have u:=we (A:=A) w;apply J [32];refine aL (qR d7 _ aE S.length (iO A S) id) rfl (dY 0 rfl (dY 1 rfl (eu _))) trivial ?_;intro _ _;apply J [10];rw[u];apply J [52,71,364,75];exact JS (ay ⟨ad,cap,aE,A⟩ d (ao (bV (ao (ao (ao (aZ _)))))))
theorem Q9(S:List cJ)(an:S.length<=1000000)(H:∀t∈S,1<=t.left):bu 213 [ae d7] be [eF d7 S] (aa (e9 (jb S))) [eF d7 (jb S)]:=by
 apply aG Tryz.func213 Tryz.ntmps213;intro F _;apply J [1,102,107];refine aL (qT d7 S an) rfl (dY 0 rfl (eu _)) trivial ?_;intro _ _;apply J [5,31,8];refine ab.open 0 rfl (λP O=>?_);obtain⟨ad,cap,aE,A⟩:=P;have d:=O;apply J [85];dsimp only at d⊢;have N:=Rs d H;cases w:hE S with|none=>?_|some t=>?_
 have hv:jb S=S:=by grind[jb]
 have u:e9 S=-1:=by grind[e9]
 have D:=we (A:=A) (not_neg d);rw[u,hv];apply J [175];refine aL (qR d7 _ aE S.length (iO A S) (-1)) rfl (dY 0 rfl (dY 1 rfl (eu _))) trivial ?_;intro _ _;apply J [10];rw[D];apply J [279,360,20];refine Ve 12 rfl (c:=false) rfl ?_;apply J [48,144,99,36];refine aT.bg (B:=ah [eF d7 S,F]) (ay ⟨ad,cap,aE,A⟩ d (ao (bV (ao (ao (ao (aZ _))))))) ?_;refine e rfl ?_;refine aL (qT d7 S an) rfl (dY 0 rfl (eu _)) trivial ?_;intro _ _;apply J [5];rw[u];apply J [30];exact hQ;have C:=(nJ w).1;have W:=d.rg t C;have V:=H t C;have u:e9 S=t.id:=by grind[e9]
 obtain⟨M,bH⟩:=fp C;have D:=wg (A:=A) ⟨t,C,rfl⟩;have E:=d.iI t.id (v:=t.left-1) U;rw[u];apply J [346,175];refine aL (qR d7 _ aE S.length (iO A S) t.id) rfl (dY 2 rfl (dY 3 rfl (eu _))) trivial ?_;intro _ _;apply J [14];rw[D];apply J [279,360,20];refine Ve 12 rfl (c:=true) rfl ?_;apply J [138,343,94];refine aL (SD (A t.id) t.whole t.left t.prio U) rfl (dY 2 rfl (eu _)) trivial ?_;intro _ _;apply J [14,182];apply UR rfl<;>intro Q;refine Wd (B:=ah [eF d7 (iI S t.id (t.left-1)),F]) (ay ⟨ad,cap,aE,A⟩ E (b8 1 rfl (congrArg (aj d7 261) (zM (λx=>by rw[xG]))) (oG 3 rfl (λx _=>by dsimp only[l9];rw[xG]) (Ws _) (b8 1 rfl FQ (cQ 0 0 ⟨t.id,t.prio,t.whole,t.left-1⟩ rfl rfl rfl (λ_ _=>rfl) (Ht d.bi bH _) (ao (aZ _))))))) ?_;have hv:jb S=ig S t:=by rw[jb,w];dsimp only;rw[aw U]
 rw[hv]at N⊢;apply J [175];refine aL (Hf d7 (iI S t.id (t.left-1)) (by rw[By];exact an) ⟨t.id,t.prio,t.whole,t.left-1⟩ (R4 w _)) rfl (dY 0 rfl (eu _)) trivial ?_;intro _ _;apply J [5];rw[Ru];apply J [3,107];refine aL (qT d7 (ig S t) U) rfl (dY 0 rfl (eu _)) trivial ?_;intro _ _;apply J [5,30];exact hQ;refine Wd (B:=ah [eF d7 (iI S t.id (t.left-1)),F]) (ay ⟨ad,cap,aE,A⟩ E (b8 1 rfl (congrArg (aj d7 261) (zM (λx=>by rw[xG]))) (oG 3 rfl (λx _=>by dsimp only[l9];rw[xG]) (Ws _) (b8 1 rfl FQ (cQ 0 0 ⟨t.id,t.prio,t.whole,t.left-1⟩ rfl rfl rfl (λ_ _=>rfl) (Ht d.bi bH _) (ao (aZ _))))))) ?_;have hv:jb S=(iI S t.id (t.left-1)):=by rw[jb,w];dsimp only;rw[al U]
 rw[hv]at N⊢;apply J [4,107];refine aL (qT d7 (iI S t.id (t.left-1)) U) rfl (dY 0 rfl (eu _)) trivial ?_;intro _ _;apply J [5,30];exact hQ
theorem Ug(S:List cJ)(an:S.length<=1000000)(u:fS S):bu 363 [ae d7] be [eF d7 S] (aa (e9 (ku S))) [eF d7 (ku S)]:=by
 apply aG Tryz.func363 Tryz.ntmps363;intro F _;apply J [1,102,36,162,0];apply aq (qT d7 S an);apply J [5];cases w:hE S with|none=>?_|some t=>?_
 have hv:ku S=S:=by grind[ku]
 have d:e9 S=-1:=by grind[e9]
 rw[hv,d];refine e rfl ?_;apply aq (RA d7 S an (-1) (not_neg u));apply J [5,3,107];apply aq (qT d7 S an);apply J [5];rw[d];apply J [30];exact hQ;have hv:ku S=ig S t:=by grind[ku]
 have d:e9 S=t.id:=by grind[e9]
 have C:=Bq u.bi (nJ w).1;rw[hv,d];refine e rfl ?_;apply aq (Hf d7 S an t w);apply J [5,3,107];apply aq (qT d7 (ig S t) U);apply J [5,30];exact hQ
theorem zh(S:List cJ)(an:S.length<=1000000)(a2:Option Addr)(c2:Nat)(xs:List Int)(ar:xs.length<=1000000):bu 360 [ae d7,.slice a2 xs.length c2] (λF=>∃E,cM F E a2 (ints xs)) [eF d7 S] (aa ((S.length:Int)-(gD S xs).length)) [eF d7 (gD S xs)]:=by
 apply aG Tryz.func360 Tryz.ntmps360;intro F ⟨E,P⟩;apply J [1];haveI:bn F a2 E (ints xs):=⟨P⟩;have a3:=eb xs;apply J [102,39,33,174];refine Vp (ι:=Nat×List cJ) (λs=>s.1<=xs.length/\s.2=gD S (xs.take s.1)) (λs=>[(0,ae d7),(5,aa ((S.length:Int)-(s.2.length:Int))),(9,.slice a2 xs.length c2),(10,aa xs.length),(11,aa ((s.1:Nat):Int))]) (λs=>ah [eF d7 s.2,F]) (λs=>xs.length-s.1) ⟨0,S⟩ ⟨UX _,rfl⟩ ⟨rfl,congrArg (V4 .i64) (Int.sub_self _).symm,rfl,rfl,rfl,trivial⟩ (ao (ao (aZ _))) ?_;rintro⟨k,Z⟩ ⟨V,C⟩ a4;dsimp only[cr]at V C⊢;apply J [43];apply UR rfl<;>intro aI;have W:k<xs.length:=U
 obtain⟨x,qF⟩:∃x,xs[k]? =some x:=⟨xs[k],UO W⟩;have aY:0<(ints xs).length:=U
 have O:gD S (xs.take (k+1))=eD Z x:=by grind[U5,L8]
 have aB:Z.length<=S.length:=by grind[n2]
 refine J [186,515,0] ?_;refine gA (l:=[.int _ _]) rfl rfl ?_;intro bb;apply J [203,29];refine Wd (jB) ?_;apply J [13];refine ab.open 0 rfl (λax av=>?_);obtain⟨ad,cap,aE,A⟩:=ax;have d:=av;apply J [155];dsimp only at d⊢;by_cases u:ep Z x;have w:=wg (A:=A) u;have aS:=Gu d.bi u;obtain⟨t,D,rfl⟩:=u;have aq:=d.rg t D;obtain⟨p,aV⟩:=VU aq.2.1.1;have oQ:p<8:=U
 obtain⟨L,H,Q⟩:=xz oQ;obtain⟨M,bH⟩:=fp D;have a0:=Br Z p;have N:∀x,x≠p->dA (eD Z t.id) x=dA Z x:=λx ar=>Hh d.bi D U;apply J [346];refine Wd (fV 3 rfl H) ?_;apply J [38,82,0];refine aL (qR d7 _ aE Z.length (iO A Z) t.id) rfl (dY 4 rfl (dY 4 rfl (eu _))) trivial ?_;intro _ _;apply J [78];rw[w];apply J [52,71,118];refine ab.draw _ [19] [0,1,2,3,4,5,6,7,8,9,10,11,12,13,14,16,17,-15,18,-19] aM aM (ao (c0 (aZ _))) ?_;refine J [77,185,77,185,88,87,434,513,571,88,87,12] ?_;refine aL (v8 (ad p) (cap p) (dA Z p) 382 [ae bb] (λy=>decide (y=t.id)) (λF=>Rd F bb (.cells #[aa t.id] 3 (0,0))) (λy=>L6 bb t.id y) U (λ_ h=>jh h) (λ_ _ h=>lI (jh h))) rfl (dY 2 rfl (eu _)) fT.rd ?_;intro _ _;refine J [292,6] ?_;rw[RE];refine J [434,90,570,74,8] ?_;refine cC [0,1,2,3,4,-5] (ao (ey (aZ _))) ?_;apply J [378,516,92,92,222];refine lP 3 368 rfl (dL.int rfl) rfl rfl rfl ?_;refine J [110,367,72,59] ?_;exact⟨rfl,⟨k+1,eD Z t.id⟩,⟨by dsimp only;omega,O.symm⟩,cD,⟨rfl,congrArg (V4 .i64) cD,rfl,rfl,rfl,trivial⟩,(ay ⟨dF ad p (ad p),dF cap p (cap p),aE,A⟩ (d.off t.id) (b8 1 rfl (congrArg (aj d7 261) (EF (n:=(dA (eD Z t.id) p).length) N rfl)) (cQ 1 1 p rfl rfl (by dsimp only[l9];rw[jD,jD]) (Hq Q N) H.symm (b8 0 rfl (by rw[Mr,w,show(eD Z t.id).length=Z.length-1 from by omega];rfl) (oG 1 rfl (λ_ _=>rfl) (A3 d.bi bH).symm (bv (aZ _)))))))⟩;have w:=we (A:=A) u;have ag:=Qk u;apply J [38,82,0];refine aL (qR d7 _ aE Z.length (iO A Z) x) rfl (dY 0 rfl (dY 1 rfl (eu _))) trivial ?_;intro _ _;apply J [14];rw[w];apply J [52,71,364];refine ab.exit (kC (oF (ie ?_)));refine J [366] ?_;exact⟨rfl,⟨k+1,Z⟩,⟨by dsimp only;omega,by dsimp only;rw[O,ag]⟩,cD,bC,(ay ⟨ad,cap,aE,A⟩ d (ao (bV (ao (ao (bV (aZ _)))))))⟩;obtain rfl:k=xs.length:=U
 rw[VC]at C;subst C;apply J [21,133];exact hQ
end Go.Proofs.YtglgidjhoncphaaGreatDoor.Rd
namespace Go.Proofs.YtglgidjhoncphaaGreatDoor.iz
open Go Go.QM
structure cX where
  at_:Int
  cj:Int
  id:Int
def mV(e:cX):List Value:=ints [e.at_,e.cj,e.id]
theorem lS(e:cX):(mV e).length=3:=rfl
def hT(H:List cX):List Value:=H.flatMap mV
theorem pG(H:List cX):(hT H).length=H.length*3:=kE lS H
def ht(a b:cX):Prop:=a.at_<b.at_\/a.at_=b.at_/\a.cj<b.cj
instance (a b:cX):Decidable (ht a b):=inferInstanceAs (Decidable (a.at_<b.at_\/a.at_=b.at_/\a.cj<b.cj))
def cx(L:List cX)(k:Nat):cX:=L.getD k ⟨0,0,0⟩
variable{L:List cX}{k:Nat}
theorem mZ(h:k<L.length):L[k]? =some (cx L k):=by simp[cx,h]
theorem zF{e:cX}(h:L[k]? =some e):cx L k=e:=by simp[cx,VO,h]
theorem zE(h:k<L.length):cx L k∈L:=List.mem_of_getElem? (mZ h)
variable{i:Nat}
theorem oL(h:i<L.length)(e:cX)(k:Nat):cx (L.set i e) k=if k=i then e else cx L k:=by simp only[cx,VO,List.getElem?_set];grind
theorem Hx(h:i<L.length):L.set i (cx L i)=L:=by grind[cx,List.set_getElem_self]
def kZ(L:List cX)(k:Nat):Prop:=¬ht (cx L k) (cx L ((k-1)/2))
def lE(L:List cX):Prop:=∀k,0<k->k<L.length->kZ L k
structure qd(L:List cX)(i:Nat):Prop where
  a:∀k,0<k->k<L.length->k≠i->(k-1)/2≠i->kZ L k
  b:∀k,0<k->k<L.length->(k-1)/2=i->0<i->¬ht (cx L k) (cx L ((i-1)/2))
structure nN(L:List cX)(i:Nat):Prop where
  a:∀k,0<k->k<L.length->k≠i->kZ L k
  b:∀k,0<k->k<L.length->(k-1)/2=i->0<i->¬ht (cx L k) (cx L ((i-1)/2))
def swp(L:List cX)(i k:Nat):List cX:=(L.set i (cx L k)).set k (cx L i)
theorem qZ(L:List cX)(i k:Nat):(swp L i k).length=L.length:=by simp[swp]
theorem BK(d:i<L.length)(u:k<L.length):(swp L i k).Perm L:=by grind[cx,swp,List.set_set_perm]
theorem qB(d:i<L.length)(u:k<L.length)(j:Nat):cx (swp L i k) j=if j=k then cx L i else if j=i then cx L k else cx L j:=by grind[swp,oL]
theorem qd.step(h:qd L i)(E:i<L.length)(N:0<k)(D:k<L.length)(H:(k-1)/2=i)(W:ht (cx L k) (cx L i))
 (O:∀s,0<s->s<L.length->(s-1)/2=i->¬ht (cx L s) (cx L k)):qd (swp L i k) k where
 a:=λj w d P V=>by rw[qZ]at d;have C:=qB E D;simp only[kZ,C];rw[al P,al V];by_cases e:j=i;rw[aw e,al U];have:=h.b k N D H U;rw[e];exact this;rw[al e];by_cases u:(j-1)/2=i;rw[aw u];exact O j w d u;rw[al u];exact h.a j w d e u
 b:=λj w d Q _=>by rw[qZ]at d;have C:=qB E D;simp only[C];rw[al U,al U,al U,aw H];have:=h.a j w d U U;rw[kZ,Q]at this;exact this
theorem qd.exit(h:qd L i)(w:∀s,0<s->s<L.length->(s-1)/2=i->¬ht (cx L s) (cx L i)):nN L i where
 a:=λk d u C=>by by_cases e:(k-1)/2=i;rw[kZ,e];exact w k d u e;exact h.a k d u C e
 b:=h.b
theorem nN.step(h:nN L i)(N:i<L.length)(P:0<i)(O:ht (cx L i) (cx L ((i-1)/2))):nN (swp L i ((i-1)/2)) ((i-1)/2) where
 a:=λj u d Q=>by
  rw[qZ]at d;have w:(i-1)/2<L.length:=U
  have E:=qB N w;simp only[kZ,E];rw[al Q];by_cases e:j=i;subst e;rw[aw rfl,aw rfl];simp only[ht]at O⊢;omega;rw[al e];by_cases C:(j-1)/2=(i-1)/2;rw[aw C];have:=h.a j u d e;rw[kZ,C]at this;simp only[ht]at this O⊢;omega;rw[al C];by_cases D:(j-1)/2=i;rw[aw D];exact h.b j u d D P;rw[al D];exact h.a j u d e
 b:=λj u d V gi=>by
  rw[qZ]at d;have w:(i-1)/2<L.length:=U
  have E:=qB N w;simp only[E];have H:=h.a ((i-1)/2) gi w U;rw[kZ]at H;rw[al U,al (by omega:((i-1)/2-1)/2≠(i-1)/2),al (by omega:((i-1)/2-1)/2≠i)];by_cases e:j=i;rw[aw e];exact H;rw[al e];have:=h.a j u d e;rw[kZ,V]at this;simp only[ht]at this H⊢;omega
theorem nN.exit(h:nN L i)(he:i=0\/¬ht (cx L i) (cx L ((i-1)/2))):lE L:=λk d u=>by
 by_cases e:k=i
 ·subst e
  rcases he with he|he
  ·omega
  exact he
 exact h.a k d u e
theorem lE.hole(h:lE L)(i:Nat):nN L i where
 a:=λk d u _=>h k d u
 b:=λk d u E D=>by have w:=h k d u;have C:=h i D U;rw[kZ,E]at w;rw[kZ]at C;simp only[ht]at w C⊢;omega
theorem lE.min(h:lE L):∀k,k<L.length->¬ht (cx L k) (cx L 0):=by intro k;induction k using Nat.strongRecOn with|_ k D=>intro C;by_cases u:k=0;subst u;simp only[ht];omega;have d:=h k U C;have w:=D ((k-1)/2) U U;rw[kZ]at d;simp only[ht]at d w⊢;omega
structure nS(f:Int->Option Value)(L:List cX)(i:Nat):Prop where
  a:∀j,j<L.length->j≠i->f (cx L j).id=some (.int .i64 j)
  b:∀x,(∀j,j<L.length->(cx L j).id≠x)->f x=none
structure j3(f:Int->Option Value)(L:List cX):Prop where
  a:∀j,j<L.length->f (cx L j).id=some (.int .i64 j)
  b:∀x,(∀j,j<L.length->(cx L j).id≠x)->f x=none
def gM(L:List cX):Prop:=(L.map (·.id)).Nodup
theorem gM.perm{M:List cX}(h:gM L)(p:M.Perm L):gM M:=(p.map _).nodup_iff.2 h
theorem gM.inj(h:gM L){j:Nat}(C:j<L.length)(D:k<L.length)(e:(cx L j).id=(cx L k).id):j=k:=by
 have d:(L.map (·.id))[j]? =some (cx L j).id:=by grind[mZ]
 have u:(L.map (·.id))[k]? =some (cx L k).id:=by grind[mZ]
 rw[e]at d;obtain⟨w,bb⟩:=UU.1 d;obtain⟨a2,bo⟩:=UU.1 u;have E:=List.pairwise_iff_getElem.1 h;grind
theorem nS.step{f:Int->Option Value}(h:nS f L i)(an:gM L)(u:i<L.length)(d:k<L.length)(N:k≠i):nS (fe f (cx L k).id (aa i)) (swp L i k) k where
 a:=λj w H=>by
  rw[qZ]at w
  rw[qB u d,al H]
  by_cases e:j=i
  ·subst e;rw[aw rfl,fe,aw rfl]
  rw[al e,fe,al (λC=>H (an.inj w d C))];exact h.a j w e
 b :=λx D=>by
  have E:(cx L k).id≠x:=by
   have:=D i (by rw[qZ];exact u)
   rwa[qB u d,al (W5 N),aw rfl]at this
  rw[fe,al (W5 E)]
  refine h.b x λj w=>?_
  by_cases e:j=k
  ·rw[e];exact E
  by_cases C:j=i
  ·have:=D k (by rw[qZ];exact d)
   rw[qB u d,aw rfl]at this
   rw[C];exact this
  have:=D j (by rw[qZ];exact w)
  rwa[qB u d,al e,al C]at this
theorem nS.done{f:Int->Option Value}(h:nS f L i)(an:gM L)(d:i<L.length):j3 (fe f (cx L i).id (aa i)) L where
 a:=λj u=>by by_cases e:j=i;subst e;rw[fe,aw rfl];rw[fe,al (λC=>e (an.inj u d C))];exact h.a j u e
 b:=λx w=>by rw[fe,al (W5 (w i d))];exact h.b x w
theorem j3.Dj{f:Int->Option Value}(h:j3 f L)(i:Nat):nS f L i:=⟨λj d _=>h.a j d,h.b⟩
theorem j3.none{f:Int->Option Value}{L:List cX}(h:j3 f L){x:Int}(u:∀e∈L,e.id≠x):f x=none:=h.b x λ_ d=>u _ (zE d)
theorem j3.some{f:Int->Option Value}{L:List cX}(h:j3 f L){e:cX}(he:e∈L):∃j,j<L.length/\cx L j=e/\f e.id=some (aa j):=by obtain⟨j,u⟩:=VS he;have w:=(UU.1 u).1;have d:=zF u;exact⟨j,w,d,by rw[<-d];exact h.a j w⟩
theorem EJ{A:List cX}(e:cX)(d:i<A.length)(w:k<A.length)(u:k≠i):(A.set i (cx A k)).set k e=swp (A.set i e) i k:=by rw[swp,oL d,al u,oL d,aw rfl,List.set_set]
theorem yB(a b:cX):bu 364 [.agg (ints [a.at_,a.cj]).toArray,.agg (ints [b.at_,b.cj]).toArray] be [] (.bool (decide (ht a b))) []:=by apply aG Tryz.func364 Tryz.ntmps364;intro F _;refine J [194,572] ?_;intro bb;refine J [0,572] ?_;intro bo;apply J [37,111,61,374];refine aT.split 10 rfl (λd=>?_) (λd=>?_);have d:=dt d;apply J [48,47,161,161,161,161,161,340,132];exact XT () [_] ⟨rfl,trivial⟩ (congrArg V1 (c1 (.inl d)).symm) trivial (bv (aZ _));have d:=dX d;apply J [191,191,156,317];refine aT.split 16 rfl (λu=>?_) (λu=>?_);have u:=dt u;apply J [261,261,408,348,68];exact XT () [_] ⟨rfl,trivial⟩ (congrArg V1 (by rw[decide_eq_decide];simp only[ht];omega)) trivial (bv (aZ _));have u:=dX u;apply J [212,386,68];exact XT () [_] ⟨rfl,trivial⟩ (congrArg V1 (dk (by simp only[ht];omega)).symm) trivial (bv (aZ _))
theorem od(b:Nat)(now w:Int)(H:List cX)(ad:Option Addr)(n cap u m:Nat)(f:Int->Option Value)(i:Nat)(an:H.length=n)(E:i<n)(D:n<=1000000)(d:cX):bu 326 [ae b,aa i,.agg (mV d).toArray] be [aj b 367 [aa now,aa w,.slice ad n cap,.map (some u)],a1 405 3 ad n cap (hT H),bJ QM.encI u f m] (.tuple #[]) [aj b 367 [aa now,aa w,.slice ad n cap,.map (some u)],a1 405 3 ad n cap (hT (H.set i d)),bJ QM.encI u (fe f d.id (aa i)) (if(f d.id).isSome then m else m+1)]:=by
 apply aG Tryz.func326 Tryz.ntmps326;intro F _;apply J [86];have C:=mZ (show i<H.length by omega);have N:0<(hT H).length:=by grind[pG]
 refine J [25,573] ?_;intro cl;apply J [29];refine ab.draw _ [7] [0,1,2,3,4,5,6,-7] aM aM (Vx _) ?_;apply J [185,15,574];refine bU rfl rfl rfl (gP 405 3 rfl rfl rfl U dW) ?_;apply J [90];refine eg (v:=.agg (List.toArray (ints [_,_,_]))) (vs:=ints [_,_,_]) 3 rfl rfl rfl rfl rfl rfl am (by rw[kE lS];omega) (sB (a':=d) lS C 0 U (U2 rfl) rfl) ?_;refine b6.nil (ie ?_);refine cC [0,1,2,3,4,5,6,-7] (ao (ao (ao (aZ _)))) ?_;apply J [277,134,15,222];refine lZ 3 3 rfl (dL.int rfl) rfl rfl rfl ?_;refine⟨ai,?_⟩;refine b6.nil ?_;exact qn (c0 (bV (ao (bV (aZ _)))))
theorem IC(b:Nat)(now E:Int)(H:List cX)(ad:Option Addr)(n cap u m:Nat)(f:Int->Option Value)(i:Nat)(an:H.length=n)(a5:i<n)(Z:n<=1000000)(a3:nN H i)(au:nS f H i)(bw:gM H):bL 328 [ae b,aa i] be [aj b 367 [aa now,aa E,.slice ad n cap,.map (some u)],a1 405 3 ad n cap (hT H),bJ QM.encI u f m] (λ_:List cX×(Int->Option Value)×Nat=>.tuple #[]) (λy=>lE y.1/\j3 y.2.1 y.1/\y.1.Perm H) (λy=>[aj b 367 [aa now,aa E,.slice ad n cap,.map (some u)],a1 405 3 ad n cap (hT y.1),bJ QM.encI u y.2.1 y.2.2]):=by
 apply aG Tryz.func328 Tryz.ntmps328;intro F _;apply J [86];have a4:=mZ (show i<H.length by omega);have bc:0<(hT H).length:=by rw[pG];omega
 refine J [70,2,435] ?_;refine q rfl rfl (gv (vs:=ints [_,_,_]) 3 rfl rfl (nm lS a4) rfl am) ?_;refine J [0,349] ?_;intro aI;apply J [19,298,29,76];obtain⟨d,he⟩:=eC (cx H i);rw[he];refine Vp (ι:=Nat×List cX×(Int->Option Value)×Nat) (λs=>s.1<n/\s.2.1.length=n/\nN (s.2.1.set s.1 d) s.1/\nS s.2.2.1 (s.2.1.set s.1 d) s.1/\(s.2.1.set s.1 d).Perm H) (λs=>[(0,ae b),(1,aa ((s.1:Nat):Int)),(4,ae aI)]) (λs=>ah [aj aI 405 (mV d),aj b 367 [aa now,aa E,.slice ad n cap,.map (some u)],a1 405 3 ad n cap (hT s.2.1),bJ QM.encI u s.2.2.1 s.2.2.2,F]) (λs=>s.1) ⟨i,H,f,m⟩ (by dsimp only;rw[<-he,Hx U];exact⟨a5,an,a3,au,Ws _⟩) bC (ao (ao (ao (ao (ao (aZ _)))))) ?_;rintro⟨k,A,g,aB⟩ ⟨a7,C,Q,V,w⟩ bd;dsimp only[cr]at a7 C Q V w⊢;have P:k<A.length:=U
 have a9:0<(hT A).length:=by rw[pG];omega
 have ml:(A.set k d).length=n:=by rw[VH];exact C
 apply J [8,8];refine cC [0,1,2,3,4,5,6,7,8,9,10,11,12,13,14,-15,16] (ao (ao (ao (ao (aZ _))))) ?_;apply J [15,436,147];refine b6.split 14 rfl (λO=>?_) (λO=>?_);have O:=dt O;have a8:0<k:=U
 obtain⟨pp,ar⟩:∃pp:Nat,((k:Int)-1)/2=pp:=⟨(k-1)/2,by omega⟩;have av:pp=(k-1)/2:=U
 have a0:=mZ (show pp<A.length by omega);have ag:cx (A.set k d) pp=cx A pp:=by rw[oL P,al U]
 have D:cx (A.set k d) k=d:=by rw[oL P,aw rfl]
 apply J [350,575,318,299,351,164,300];refine eG rfl rfl rfl rfl (o5 rfl rfl U U) ?_;refine eG rfl rfl rfl rfl (ll rfl rfl U U U) ?_;rw[ar];refine eG rfl rfl rfl rfl (gP 405 3 rfl rfl rfl U dW) ?_;refine J [387] ?_;refine eG rfl rfl rfl rfl (gv (vs:=ints [_,_]) 2 rfl rfl (kh lS a0 0 2 U U rfl) rfl am) ?_;apply J [293];apply aq (yB d (cx A pp));refine J [270,319,74] ?_;apply UR rfl<;>intro a2;refine J [4,76,35,172,54,2,218] ?_;refine q rfl rfl (ll rfl rfl U U U) ?_;rw[ar];refine J [435] ?_;refine q rfl rfl (gv (vs:=ints [_,_,_]) 3 rfl rfl (nm lS a0) rfl am) ?_;refine e rfl ?_;apply aq (od b now E A ad n cap u aB g k C U Z (cx A pp));refine J [10,3,202,218] ?_;refine q rfl rfl (ll rfl rfl U U U) ?_;rw[ar];apply J [72,152];have ax:=EJ d P (show pp<A.length by omega) U;have aV:=Q.step U a8 (by rw[<-av,ag,D];exact a2);have aY:=V.step (bw.perm w) U (show pp<(A.set k d).length by omega) U;rw[<-av,<-ax]at aV;rw[ag,<-ax]at aY;have aS:=(BK (L:=A.set k d) (i:=k) (k:=pp) U U).trans w;rw[<-ax]at aS;exact⟨rfl,⟨pp,A.set k (cx A pp),_,_⟩,⟨by dsimp only;omega,by dsimp only;rw[VH];exact C,aV,aY,aS⟩,cD,bC,(c0 (ao (ao (ao (ao (aZ _))))))⟩;have W:=Q.exit (.inr (by rw[D,<-av,ag];exact a2));apply J [21,38,2,329,0];apply aq (od b now E A ad n cap u aB g k C U Z d);apply J [10,327];have N:=V.done (bw.perm w) U;have D:cx (A.set k d) k=d:=by rw[oL P,aw rfl]
 rw[D]at N;exact mQ ⟨A.set k d,_,_⟩ ⟨W,N,w⟩ (ao (ao (ao (bV (aZ _)))));have O:=dX O;have W:=Q.exit (.inl U);refine J [208,208,208,352,220,74,73,21,38,2,329,0] ?_;apply aq (od b now E A ad n cap u aB g k C U Z d);apply J [10,327];have N:=V.done (bw.perm w) U;have D:cx (A.set k d) k=d:=by rw[oL P,aw rfl]
 rw[D]at N;exact mQ ⟨A.set k d,_,_⟩ ⟨W,N,w⟩ (ao (ao (ao (bV (aZ _)))))
theorem L5(b:Nat)(now D:Int)(H:List cX)(ad:Option Addr)(n cap u m:Nat)(f:Int->Option Value)(i:Nat)(an:H.length=n)(bp:i<n)(aB:n<=1000000)(aK:qd H i)(au:nS f H i)(bw:gM H):bL 327 [ae b,aa i] be [aj b 367 [aa now,aa D,.slice ad n cap,.map (some u)],a1 405 3 ad n cap (hT H),bJ QM.encI u f m] (λ_:List cX×(Int->Option Value)×Nat=>.tuple #[]) (λy=>j3 y.2.1 y.1/\y.1.Perm H/\∃j,j<n/\nN y.1 j/\cx y.1 j=cx H i) (λy=>[aj b 367 [aa now,aa D,.slice ad n cap,.map (some u)],a1 405 3 ad n cap (hT y.1),bJ QM.encI u y.2.1 y.2.2]):=by
 apply aG Tryz.func327 Tryz.ntmps327;intro F _;apply J [86];have bi:=mZ (show i<H.length by omega);have bG:0<(hT H).length:=by grind[pG]
 refine J [70,2,435] ?_;refine q rfl rfl (gv (vs:=ints [_,_,_]) 3 rfl rfl (nm lS bi) rfl am) ?_;refine J [0,349] ?_;intro W;apply J [19,298,29,76];obtain⟨d,he⟩:=eC (cx H i);rw[he];refine Vp (ι:=Nat×List cX×(Int->Option Value)×Nat) (λs=>s.1<n/\s.2.1.length=n/\qd (s.2.1.set s.1 d) s.1/\nS s.2.2.1 (s.2.1.set s.1 d) s.1/\(s.2.1.set s.1 d).Perm H) (λs=>[(0,ae b),(1,aa ((s.1:Nat):Int)),(4,ae W)]) (λs=>ah [aj W 405 (mV d),aj b 367 [aa now,aa D,.slice ad n cap,.map (some u)],a1 405 3 ad n cap (hT s.2.1),bJ QM.encI u s.2.2.1 s.2.2.2,F]) (λs=>n-s.1) ⟨i,H,f,m⟩ (by dsimp only;rw[<-he,Hx U];exact⟨bp,an,aK,au,Ws _⟩) bC (ao (ao (ao (ao (ao (aZ _)))))) ?_;rintro⟨k,A,g,av⟩ ⟨aS,N,Z,ag,w⟩ bN;dsimp only[cr]at aS N Z ag w⊢;have aV:k<A.length:=U
 have bz:0<(hT A).length:=by grind[pG]
 have ml:(A.set k d).length=n:=b2
 have E:∀j,j≠k->cx (A.set k d) j=cx A j:=λj bq=>by rw[oL aV,al bq]
 have C:cx (A.set k d) k=d:=by rw[oL aV,aw rfl]
 refine J [76,26,461,151,27] ?_;refine ab.cut (ι:=Nat) (λc=>(c=2*k+1\/c=2*k+2/\c<n)/\∀s,s<n->(s=2*k+1\/s=2*k+2)->¬ht (cx A s) (cx A c)) (λc=>[(0,ae b),(1,aa k),(4,ae W),(5,aa ((c:Nat):Int))]) (λc=>ah [aj W 405 (mV d),aj b 367 [aa now,aa D,.slice ad n cap,.map (some u)],a1 405 3 ad n cap (hT A),bJ QM.encI u g av,F]) ?_ ?_;refine ab.seq ?_;refine cC [0,1,2,3,4,5,6,7,8,9,10,11,12,13,14,15,16,17,18,19,20,21,22,23,24,25,-26,27] (ao (ao (ao (ao (aZ _))))) ?_;refine J [15,388,185,462] ?_;refine bU rfl rfl rfl (lss rfl rfl) ?_;apply J [147];refine b6.split 24 rfl (λQ=>?_) (λQ=>?_);have Q:=dt Q;have bn:=mZ (show 2*k+2<A.length by omega);have bl:=mZ (show 2*k+1<A.length by omega);apply J [318,299,351,164,300];refine eG rfl rfl rfl rfl (io rfl rfl U U) ?_;refine J [517,387] ?_;refine eG rfl rfl rfl rfl (gv (vs:=ints [_,_]) 2 rfl rfl (kh lS bn 0 2 U U rfl) rfl am) ?_;refine J [318,299,351,164,300,517,387] ?_;refine eG rfl rfl rfl rfl (gv (vs:=ints [_,_]) 2 rfl rfl (kh lS bl 0 2 U U rfl) rfl am) ?_;apply J [293];apply aq (yB (cx A (2*k+2)) (cx A (2*k+1)));refine J [270,319,74] ?_;apply UR rfl<;>intro a9;refine J [195] ?_;exact⟨rfl,(2*k+2),⟨.inr ⟨rfl,by omega⟩,λs V ar=>by rcases ar with rfl|rfl<;>simp only[ht]at a9⊢<;>omega⟩,⟨rfl,rfl,rfl,congrArg (V4 .i64) U,trivial⟩,(ao (ao (ao (ao (ao (aZ _))))))⟩;apply J [4];exact⟨rfl,(2*k+1),⟨.inl rfl,λs V ar=>by rcases ar with rfl|rfl;simp only[ht];omega;exact a9⟩,⟨rfl,rfl,rfl,congrArg (V4 .i64) U,trivial⟩,(ao (ao (ao (ao (ao (aZ _))))))⟩;have Q:=dX Q;refine J [208,208,208,208,383,352,220,74,204] ?_;exact⟨rfl,(2*k+1),⟨.inl rfl,λs V ar=>by obtain rfl:s=2*k+1:=U;simp only[ht];omega⟩,⟨rfl,rfl,rfl,congrArg (V4 .i64) U,trivial⟩,(ao (ao (ao (ao (ao (aZ _))))))⟩;rintro c ⟨bh,a7⟩ bQ;dsimp only[cr]at bh a7⊢;apply J [8,8];refine cC [0,1,2,3,4,5,6,7,8,9,10,11,12,13,14,15,16,17,-18,19,20] (ao (ao (ao (ao (aZ _))))) ?_;apply J [15,185,462];refine bU rfl rfl rfl (geq rfl rfl) ?_;apply J [147];refine b6.split 53 rfl (λP=>?_) (λP=>?_);have P:=dt P;have aY:∀s,s<n->(s=2*k+1\/s=2*k+2)->¬ht (cx A s) d:=U
 refine J [208,208,377,352,383,319,74,17] ?_;have ax:=Z.exit (λs a2 V bd=>by rw[C,E s U];exact aY s U U);refine ab.exit (kC (aI rfl (kC (oF (ie ?_)))));apply J [38,2,329,0];apply aq (od b now D A ad n cap u av g k N U aB d);apply J [10,327];have O:=ag.done (bw.perm w) U;rw[C]at O;exact mQ ⟨A.set k d,_,_⟩ ⟨O,w,k,aS,ax,C⟩ (ao (ao (ao (bV (aZ _)))));have P:=dX P;have bu:c<n:=U
 have a8:=mZ (show c<A.length by omega);apply J [318,299,351,164,300];refine eG rfl rfl rfl rfl (gP 405 3 rfl rfl rfl U dW) ?_;refine J [387] ?_;refine eG rfl rfl rfl rfl (gv (vs:=ints [_,_]) 2 rfl rfl (kh lS a8 0 2 U U rfl) rfl am) ?_;apply J [350,575,293];apply aq (yB (cx A c) d);refine J [270] ?_;refine eG rfl rfl rfl rfl (AV rfl) ?_;apply J [220,74];apply UR rfl<;>intro bc;have aY:∀s,s<n->(s=2*k+1\/s=2*k+2)->¬ht (cx A s) d:=by grind[ht]
 have ax:=Z.exit (λs a2 V bd=>by rw[C,E s U];exact aY s U U);refine ab.exit (kC (aI rfl (kC (oF (ie ?_)))));apply J [38,2,329,0];apply aq (od b now D A ad n cap u av g k N U aB d);apply J [10,327];have O:=ag.done (bw.perm w) U;rw[C]at O;exact mQ ⟨A.set k d,_,_⟩ ⟨O,w,k,aS,ax,C⟩ (ao (ao (ao (bV (aZ _)))));have bc:ht (cx A c) d:=b2
 refine J [4,35,172,54,2,435] ?_;refine q rfl rfl (gv (vs:=ints [_,_,_]) 3 rfl rfl (nm lS a8) rfl am) ?_;refine e rfl ?_;apply aq (od b now D A ad n cap u av g k N U aB (cx A c));apply J [10,3,202,72,152];have a0:=EJ d aV (show c<A.length by omega) U;have a3:=Z.step (k:=c) U U U U (by rw[C,E c U];exact bc) (λs a2 V bd=>by rw[E c U,E s U];exact a7 s U U);have a5:=ag.step (bw.perm w) U (show c<(A.set k d).length by omega) U;rw[<-a0]at a3;rw[E c U,<-a0]at a5;have a4:=(BK (L:=A.set k d) (i:=k) (k:=c) U U).trans w;rw[<-a0]at a4;exact⟨rfl,⟨c,A.set k (cx A c),_,_⟩,⟨by dsimp only;omega,by dsimp only;rw[VH];exact N,a3,a5,a4⟩,cD,bC,(c0 (ao (ao (ao (ao (aZ _))))))⟩
end Go.Proofs.YtglgidjhoncphaaGreatDoor.iz
namespace Go.Proofs.YtglgidjhoncphaaGreatDoor.iz
open Go Go.QM
theorem DZ(H:List cX)(k:Nat):(hT H).take (k*3)=hT (H.take k):=wm lS H k
variable{H:List cX}{n:Nat}
theorem Eu{j:Nat}(h:j<n):cx (H.take n) j=cx H j:=by simp[cx,VO,List.getElem?_take,h]
theorem HL(an:H.length=n+1):H.take n++[cx H n]=H:=by grind[cx,List.take_append_getElem]
def jm(H:List cX)(n i:Nat):List cX:=if i<n then(H.take n).set i (cx H n)else H.take n
theorem pE(an:H.length=n+1)(i:Nat):(jm H n i).length=n:=by grind[jm]
theorem nj{i:Nat}(an:H.length=n+1){j:Nat}(d:j<n):cx (jm H n i) j=if j=i then cx H n else cx H j:=by unfold jm;split;grind[oL,Eu];rename_i h;rw[al U];exact Eu d
theorem LJ{i:Nat}(an:H.length=n+1)(u:i<=n):(cx H i::jm H n i).Perm H:=by
 by_cases h:i<n;have d:swp H i n=jm H n i++[cx H i]:=(by rw[jm,aw h,swp];grind[HL,cx]);refine List.Perm.trans ?_ (d▸BK U U);exact(VX _ _).symm;obtain rfl:i=n:=U
 rw[jm,al h];have:=HL an;refine List.Perm.trans ?_ (List.Perm.of_eq this);exact(VX _ _).symm
theorem LL{i:Nat}(an:H.length=n+1)(h:lE H):qd (jm H n i) i where
 a:=λk u d D w=>by rw[pE an]at d;rw[kZ,nj an d,nj an U,al D,al w];exact h k u U
 b:=λk u d w C=>by rw[pE an]at d;rw[nj an d,nj an U,al U,al U];exact(h.hole i).b k u U w C
theorem LK(an:H.length=n+1)(h:lE H):lE (jm H n n):=λk u d=>by
 rw[pE an]at d
 rw[kZ,nj an d,nj an U,al U,al U]
 exact h k u U
theorem LM{f:Int->Option Value}{i:Nat}(an:H.length=n+1)(au:j3 f H)(bw:gM H)(C:i<n):j3 (fe (fU f (cx H i).id) (cx H n).id (aa i)) (jm H n i) where
 a:=λj u=>by
  rw[pE an]at u
  rw[nj an u]
  by_cases e:j=i
  ·subst e;rw[aw rfl,fe,aw rfl]
  rw[al e,fe,al (λd=>by have:=bw.inj U U d;omega),fU,al (λd=>e (bw.inj U U d))]
  exact au.a j U
 b :=λx D=>by
  have w:(cx H n).id≠x:=by
   have:=D i (by rw[pE an];exact C)
   rwa[nj an C,aw rfl]at this
  rw[fe,al (W5 w),fU]
  split
  ·rfl
  rename_i E
  refine au.b x λj u=>?_
  by_cases e:j=i
  ·subst e;exact λe=>E e.symm
  by_cases d:j=n
  ·rw[d];exact w
  have:=D j (by rw[pE an];omega)
  rwa[nj an U,al e]at this
theorem LN{f:Int->Option Value}(an:H.length=n+1)(au:j3 f H)(bw:gM H):j3 (fU f (cx H n).id) (jm H n n) where
 a:=λj u=>by rw[pE an]at u;rw[nj an u,al U,fU,al (λd=>by have:=bw.inj U U d;omega)];exact au.a j U
 b:=λx C=>by rw[fU];split;rfl;rename_i w;refine au.b x λj u=>?_;by_cases d:j=n;rw[d];exact λe=>w e.symm;have:=C j (by rw[pE an];omega);rwa[nj an U,al d]at this
theorem DK(b:Nat)(now u:Int)(H:List cX)(ad:Option Addr)(n cap d m:Nat)(f:Int->Option Value)(i:Nat)(an:H.length=n+1)(aY:i<=n)(a4:n<=900000)(W:lE H)(au:j3 f H)(bw:gM H):bL 278 [ae b,aa i] be [aj b 367 [aa now,aa u,.slice ad (n+1) cap,.map (some d)],a1 405 3 ad (n+1) cap (hT H),bJ QM.encI d f m] (λ_:List cX×(Int->Option Value)×Nat=>.agg (mV (cx H i)).toArray) (λy=>y.1.length=n/\lE y.1/\j3 y.2.1 y.1/\(cx H i::y.1).Perm H) (λy=>[aj b 367 [aa now,aa u,.slice ad n cap,.map (some d)],a1 405 3 ad n cap (hT y.1),bJ QM.encI d y.2.1 y.2.2]):=by
 apply aG Tryz.func278 Tryz.ntmps278;intro F _;apply J [86];refine ab.nl 1 rfl (λ_ a7 _=>?_);have aS:=mZ (show i<H.length by omega);have aV:=mZ (show n<H.length by omega);have a9:0<(hT H).length:=U
 have D:=pE an i;have E:=LJ an aY;have a5:gM (cx H i::jm H n i):=bw.perm E;have Z:gM (jm H n i):=by grind[gM]
 refine J [25,349] ?_;intro bb;apply J [29];refine cC [0,1,2,3,4,5,6,7,8,9,10,11,12,-13,-14,15] (ao (ao (ao (ao (aZ _))))) ?_;apply J [185,15];refine bU rfl rfl rfl (gP 405 3 rfl rfl rfl U dW) ?_;refine bU rfl rfl rfl (gv (vs:=ints [_,_,_]) 3 rfl rfl (nm lS aS) rfl am) ?_;refine J [185,462,437] ?_;rw[show(((n+1:Nat):Int)-1)=(n:Int)from by omega];refine J [12,349] ?_;intro bo;refine J [6,222,298,136,8] ?_;refine cC [0,1,2,3,4,5,-6] (ao (ao (ao (aZ _)))) ?_;apply J [277,134,222];refine lP 3 3 rfl (dL.int rfl) rfl rfl rfl ?_;refine J [110,70,2,435] ?_;refine q rfl rfl (gv (vs:=ints [_,_,_]) 3 rfl rfl (nm lS aV) rfl am) ?_;refine J [0,349] ?_;intro cl;apply J [19,298,3,36,172,54,2];refine q rfl rfl (nH 405 3 (n) rfl rfl rfl U U) ?_;apply J [80,290,281,29,176,171];apply UR rfl<;>intro a8;have w:i<n:=U
 have N:(H.take n).set i (cx H n)=jm H n i:=by rw[jm,aw w]
 have a0:(H.take n).length=n:=b2
 refine Wd (B:=ah [aj b 367 [aa now,aa u,.slice ad n cap,.map (some d)],a1 405 3 ad n cap (hT (H.take n)),bJ QM.encI d (fU f (cx H i).id) _,aj cl 405 (mV (cx H n)),aj bo 405 (mV (cx H i)),aj bb 405 (ints [0,0,0]),F]) (ao (eH 4 rfl (by rw[<-DZ];exact p0 U) (bV (ao (ao (ao (ao (aZ _)))))))) ?_;apply J [35,329,0];refine aL (od b now u (H.take n) ad n cap d _ _ i a0 w U (cx H n)) rfl (dY 0 rfl (dY 0 rfl (dY 0 rfl (eu _)))) trivial ?_;intro _ _;apply J [16];rw[N];apply J [3,32];refine aL (L5 b now u (jm H n i) ad n cap d _ _ i D w U (LL an W) ((LM an au bw w).Dj i) Z) rfl (dY 0 rfl (dY 0 rfl (dY 0 rfl (eu _)))) trivial ?_;intro⟨V,f3,a2⟩ ⟨Q,C,j,aq,av,O⟩;apply J [16];dsimp only at Q C aq av O⊢;rw[nj an w,aw rfl]at O;have ar:V.length=n:=by rw[C.length_eq,D]
 have aI:f3 (cx H n).id=some (aa j):=by rw[<-O];exact Q.a j U
 refine J [3,576,77,277,134] ?_;refine bU rfl rfl rfl (ko 3 3 rfl rfl (dL.int rfl) rfl rfl) ?_;rw[aI];refine dl rfl rfl rfl rfl ?_;refine aL (IC b now u V ad n cap d a2 f3 j ar aq U av (Q.Dj j) (Z.perm C)) rfl (dY 0 rfl (dY 0 rfl (dY 0 rfl (eu _)))) trivial ?_;intro⟨aB,f4,a3⟩ ⟨ag,ax,P⟩;change b6 _ _ _ _ _ _ _ _ _ _ (ah [_,_,_,_,_,_,_]);dsimp only at ag ax P⊢;apply J [74,24,329,19,298,260];exact XT ⟨aB,f4,a3⟩ [_] ⟨(eV (n:=3) rfl rfl rfl rfl),trivial⟩ rfl ⟨by dsimp only;rw[P.length_eq,ar],ag,ax,((P.trans C).cons _).trans E⟩ (bV (bV (bV (c0 (aZ _)))));obtain rfl:i=n:=by omega
 have N:H.take i=jm H i i:=by rw[jm,al U]
 refine Wd (B:=ah [aj b 367 [aa now,aa u,.slice ad i cap,.map (some d)],a1 405 3 ad i cap (hT (jm H i i)),bJ QM.encI d (fU f (cx H i).id) _,aj cl 405 (mV (cx H i)),aj bo 405 (mV (cx H i)),aj bb 405 (ints [0,0,0]),F]) (ao (eH 4 rfl (by rw[<-N,<-DZ];exact p0 U) (bV (ao (ao (ao (ao (aZ _)))))))) ?_;apply J [4,24,329,19,298,260];exact XT ⟨jm H i i,_,_⟩ [_] ⟨(eV (n:=3) rfl rfl rfl rfl),trivial⟩ rfl ⟨D,LK an W,LN an au bw,E⟩ (bV (bV (bV (c0 (aZ _)))))
end Go.Proofs.YtglgidjhoncphaaGreatDoor.iz
namespace Go.Proofs.YtglgidjhoncphaaGreatDoor.iz
open Go Go.QM
structure jE(H:List cX)(n:Nat)(f:Int->Option Value)(cj:Int)(Q:List cX):Prop where
  n:H.length=n
  lX:lE H
  r6:j3 f H
  pm:H.Perm Q
  bi:gM Q
  cj:∀e∈Q,e.cj<=cj
  uO:Q.Pairwise λa b=>a.cj<b.cj
structure JA where
  H:List cX
  n:Nat
  f:Int->Option Value
  ad:Option Addr
  cap:Nat
  IJ:Nat
  m:Nat
def n6(b:Nat)(now cj:Int)(Q:List cX):ax:=fj λy:JA=>pure' (jE y.H y.n y.f cj Q) (ah [aj b 367 [.int .i64 now,.int .i64 cj,.slice y.ad y.n y.cap,.map (some y.IJ)],a1 405 3 y.ad y.n y.cap (hT y.H),bJ QM.encI y.IJ y.f y.m])
variable{H Q:List cX}{n:Nat}{cj:Int}
theorem jE.len{f:Int->Option Value}(h:jE H n f cj Q):n=Q.length:=by rw[<-h.n,h.pm.length_eq]
theorem jE.xa{f:Int->Option Value}(h:jE H n f cj Q):gM H:=h.bi.perm h.pm
theorem jE.start(d:Int):jE [] 0 (λ_=>none) d []:=⟨rfl,(λk _ h=>by simp at h),⟨(λj h=>by simp at h),λ_ _=>rfl⟩,Ws _,VD,(λe h=>by cases h),X5⟩
def jp(Q:List cX)(id:Int):Prop:=∃e∈Q,e.id=id
instance (Q:List cX)(id:Int):Decidable (jp Q id):=inferInstanceAs (Decidable (∃e∈Q,e.id=id))
variable{id:Int}
theorem jE.yes{f:Int->Option Value}(h:jE H n f cj Q)(C:jp Q id):∃j,j<n/\(cx H j).id=id/\f id=some (aa j):=by obtain⟨e,he,rfl⟩:=C;obtain⟨j,d,u,w⟩:=h.r6.some (h.pm.mem_iff.2 he);exact⟨j,by rw[<-h.n];exact d,by rw[u],w⟩
theorem jE.no{f:Int->Option Value}(h:jE H n f cj Q)(u:¬jp Q id):f id=none:=
 h.r6.none λe he d=>u ⟨e,h.pm.mem_iff.1 he,d⟩
def h0(Q:List cX)(now cj id lr:Int):List cX×Int×Int:=
  if id<0\/lr<1\/1048576<lr then(Q,cj,1)else if jp Q id then(Q,cj,7)else(Q++[⟨now+lr,cj+1,id⟩],cj+1,0)
theorem Mi(H:List cX)(e:cX):hT (H++[e])=hT H++mV e:=by simp[hT]
variable{e:cX}
theorem wu{k:Nat}(h:k<H.length):cx (H++[e]) k=cx H k:=by simp[cx,VO,List.getElem?_append,h]
theorem Sy(h:lE H)(e:cX):nN (H++[e]) H.length where
 a:=λk u d C=>by rw[mp,UY]at d;rw[kZ,wu U,wu U];exact h k u U
 b:=λk u d D w=>by rw[mp,UY]at d;omega
theorem Sz{f:Int->Option Value}(h:j3 f H)(e:cX):nS f (H++[e]) H.length where
 a:=λj d w=>by rw[mp,UY]at d;rw[wu U];exact h.a j U
 b:=λx u=>h.b x λj d=>by have:=u j (by rw[mp];omega);rwa[wu d]at this
theorem BG{H:List cX}(h:gM H)(d:∀a∈H,a.id≠e.id):gM (H++[e]):=by grind[gM]
theorem jE.set{u:List cX}{f f4:Int->Option Value}(h:jE H n f cj Q)(he:e.cj=cj+1)(O:¬jp Q e.id)(D:lE u)(E:j3 f4 u)(w:u.Perm (H++[e])):jE u (n+1) f4 (cj+1) (Q++[e]) where
 n:=by rw[w.length_eq,mp,h.n];rfl
 lX:=D
 r6:=E
 pm:=w.trans (h.pm.append_right _)
 bi:=BG h.bi λa d C=>O ⟨a,d,C⟩
 cj:=λa d=>by
  rcases UQ.1 d with d|d
  ·have:=h.cj a d;omega
  obtain rfl:=UP.1 d;omega
 uO:=by rw[List.pairwise_append];refine⟨h.uO,List.pairwise_singleton _ _,λa d b N=>?_⟩;obtain rfl:=UP.1 N;have:=h.cj a d;omega
def iG(Q:List cX)(id:Int):List cX:=Q.filter λe=>decide (e.id≠id)
theorem Em(h:gM (e::H)):iG (e::H) e.id=H:=by rw[iG,V6 cE];refine Vk.2 λa d=>?_;have:=(U6.1 h).1;simp_all
theorem jE.off{d:List cX}{f w:Int->Option Value}(h:jE H (n+1) f cj Q){j:Nat}(O:(cx H j).id=id)(D:d.length=n)(E:lE d)(N:j3 w d)(C:(cx H j::d).Perm H):jE d n w cj (iG Q id) where
 n:=D
 lX:=E
 r6:=N
 pm:=by
  have:=(C.trans h.pm).filter λe=>decide (e.id≠id)
  have u:=Em (h.xa.perm C)
  rw[O]at u
  rw[iG]at u⊢
  rwa[u]at this
 bi:=h.bi.sublist ((Wg).map _)
 cj:=λe he=>h.cj e (U8.1 he).1
 uO:=h.uO.sublist Wg
theorem Qm(h:¬jp Q id):iG Q id=Q:=Vk.2 λa d=>by
 simp only[decide_eq_true_eq];exact λe=>h ⟨a,d,e⟩
theorem Gw(h:jp Q id)(an:gM Q):(iG Q id).length+1=Q.length:=by obtain⟨e,he,rfl⟩:=h;obtain⟨s,t,rfl⟩:=Xe he;have d:(e::(s++t)).Perm (s++e::t):=List.perm_middle.symm;have u:=(d.filter λa=>decide (a.id≠e.id)).length_eq;have w:=Em (an.perm d);grind[iG]
def hK(Q:List cX)(ids:List Int):List cX:=ids.foldl iG Q
theorem Ld(Q:List cX)(ids:List Int)(x:Int):hK Q (ids++[x])=iG (hK Q ids) x:=by simp[hK]
theorem vV(Q:List cX):∀ids,(hK Q ids).Sublist Q
 | []=>Xi _
 | x::l=>by rw[hK,Xh];exact(vV (iG Q x) l).trans Wg
theorem Du(Q:List cX)(ids:List Int):hK Q ids=Q.filter λe=>decide (e.id∉ids):=by induction ids generalizing Q with|nil=>exact(Vk.2 λa _=>by simp).symm|cons x l d=>rw[hK,Xh];have:=d (iG Q x);rw[hK]at this;rw[this,iG,WC];congr 1;funext e;rw[Xt];simp only[Vq,decide_eq_true_eq,U0,not_or];exact⟨λh=>⟨h.2,h.1⟩,λh=>⟨h.2,h.1⟩⟩
def jo(t:Int)(Q:List cX):List cX:=Q.filter λe=>decide (e.at_<=t)
def mF(t:Int)(Q:List cX):List cX:=Q.filter λe=>decide (¬e.at_<=t)
def ids(Q:List cX):List Int:=Q.map (·.id)
theorem Mb{f:Int->Option Value}{t:Int}{Q:List cX}(h:jE H n f cj Q)(W:0<n)(hle:(cx H 0).at_<=t)(Z:∀e∈Q,t<=e.at_):
 jo t Q=cx H 0::jo t (iG Q (cx H 0).id)/\mF t Q=mF t (iG Q (cx H 0).id):=by have an:=h.n;have u:cx H 0∈Q:=h.pm.mem_iff.1 (zE U);have E:∀a∈Q,a.at_<=t->(cx H 0).cj<=a.cj:=λa d w=>(by obtain⟨k,C⟩:=VS (h.pm.mem_iff.2 d);have D:=(UU.1 C).1;have:=h.lX.min k D;grind[zF,ht]);generalize cx H 0=e at u hle E⊢;have N:=h.bi;have ag:=h.uO;clear h an;obtain⟨s,r,rfl⟩:=Xe u;have P:(e::(s++r)).Perm (s++e::r):=List.perm_middle.symm;have ar:∀a∈s++r,a.id≠e.id:=λa d V=>(by have:=(U6.1 (N.perm P)).1;grind);have aq:∀a∈s,¬a.at_<=t:=λa d w=>cp;have O:iG (s++e::r) e.id=s++r:=(by grind[iG,Vk]);rw[O];constructor;all_goals grind[jo,WM,mF]
theorem DQ{f:Int->Option Value}{t:Int}(h:jE H n f cj Q)(u:n=0\/¬(cx H 0).at_<=t):jo t Q=[]/\mF t Q=Q:=by have w:∀a∈Q,¬a.at_<=t:=λa d=>(by obtain⟨k,C⟩:=VS (h.pm.mem_iff.2 d);have D:=(UU.1 C).1;have:=h.lX.min k D;rw[zF C]at this;rcases u with u|u;have:=h.n;omega;grind[ht]);exact⟨WM.2 (λa d=>by simpa using w a d),Vk.2 (λa d=>by simpa using w a d)⟩
def uv(Q:List cX)(now id:Int):Int:=match Q.find? λe=>decide (e.id=id)with
  | some e=>e.at_-now
  | none=>0
theorem pS:bL 192 [] be [] (λb:Nat=>ae b) (λ_=>True) (λb=>[n6 b 0 0 []]):=by apply aG Tryz.func192 Tryz.ntmps192;intro F _;refine J [9,168,25,328] ?_;intro bb;refine q rfl rfl (eh (cs:=[.int _ _,.int _ _,.slice _ _ _,.map _]) rfl) ?_;refine e rfl ?_;refine e0 (v:=.agg #[_,_,_,_]) (l:=[.int _ _,.int _ _,.slice _ _ _,.map _]) rfl rfl ?_;intro bo;apply J [106];exact br bo trivial ((dH 405 3 _).trans (ay ⟨[],0,λ_=>none,none,0,bb,0⟩ (jE.start 0) (bV (ao (ao (ao (aZ _)))))))
theorem R8(b:Nat)(now d:Int)(Q:List cX)(a0:(0<=now/\now<=1000000000000)/\(0<=d/\d<=1000000000000)/\Q.length<=500000)(id w:Int):bu 380 [ae b,aa id,aa w] be [n6 b now d Q] (aa (h0 Q now d id w).2.2) [n6 b now (h0 Q now d id w).2.1 (h0 Q now d id w).1]:=by
 apply aG Tryz.func380 Tryz.ntmps380;intro F _;apply J [1,39,253];refine Ve 11 rfl (c:=false) rfl ?_;apply J [190,41];refine aT.split 15 rfl (λE=>?_) (λE=>?_);have E:=dt E;have C:h0 Q now d id w=(Q,d,1):=by rw[h0,aw U]
 rw[C];dsimp only;apply J [361,47,182,17,196];exact hQ;have E:=dX E;apply J [190,41];refine aT.split 19 rfl (λN=>?_) (λN=>?_);have N:=dt N;have C:h0 Q now d id w=(Q,d,1):=by rw[h0,aw U]
 rw[C];dsimp only;apply J [47,182,17,196];exact hQ;have N:=dX N;apply J [143,97];apply UR rfl<;>intro a4;have C:h0 Q now d id w=(Q,d,1):=by rw[h0,aw U]
 rw[C];dsimp only;apply J [196];exact hQ;by_cases D:jp Q id;have C:h0 Q now d id w=(Q,d,7):=by rw[h0,al U,aw D]
 rw[C];dsimp only;refine ab.open 0 rfl (λZ W=>?_);obtain⟨H,n,f,ad,cap,P,m⟩:=Z;have u:=W;apply J [86];dsimp only at u⊢;have O:=u.n;have aV:=u.len;have aS:=pG H;obtain⟨j,a3,a2,V⟩:=u.yes D;apply J [44,127,285,438];rw[V];apply J [286,184,56,364,196];exact eZ (ay ⟨H,n,f,ad,cap,P,m⟩ u (ao (ao (ao (ao (aZ _))))));have C:h0 Q now d id w=(Q++[⟨now+w,d+1,id⟩],d+1,0):=by rw[h0,al U,al D]
 rw[C];dsimp only;refine ab.open 0 rfl (λZ W=>?_);obtain⟨H,n,f,ad,cap,P,m⟩:=Z;have u:=W;apply J [86];dsimp only at u⊢;have O:=u.n;have aV:=u.len;have aS:=pG H;have V:=u.no D;apply J [44,127,285,438];rw[V];refine J [286,184,56,99,67,151,269,203,29] ?_;refine ab.draw _ [22] [0,1,2,3,4,5,6,7,8,9,10,11,12,13,14,15,16,17,-18,-19,20,21,-22] aM aM (ao (aZ _)) ?_;refine J [77,185,49,15,388,123] ?_;refine bU rfl rfl rfl (eh (cs:=ints [_,_]) rfl) ?_;apply J [15];refine bU rfl rfl rfl (eh (cs:=ints [_,_,_]) rfl) ?_;refine dJ rfl rfl ?_;refine bs (cs:=ints [_,_,_]) rfl ?_;intro cl;refine J [45] ?_;refine ap 24 rfl rfl rfl rfl rfl (U2 rfl) (show _=mV ⟨now+w,d+1,id⟩from rfl) rfl U gl ?_;intro ag an;refine J [6,88,341,90,345,74,36,172,54] ?_;refine q rfl rfl (len 405 3 rfl rfl) ?_;refine J [218] ?_;rw[show(((n+1:Nat):Int)-1)=(n:Int)from by omega];rw[<-Mi];refine e rfl ?_;refine aL (IC b now (d+1) (H++[⟨now+w,d+1,id⟩]) ag (n+1) an P m f n (by rw[mp,O];rfl) U U (by have:=Sy u.lX ⟨now+w,d+1,id⟩;rwa[O]at this) (by have:=Sz u.r6 ⟨now+w,d+1,id⟩;rwa[O]at this) (BG u.xa λa aI aB=>D ⟨a,u.pm.mem_iff.1 aI,aB⟩)) rfl (dY 0 rfl (dY 0 rfl (dY 1 rfl (eu _)))) trivial ?_;intro⟨ax,f4,aY⟩ ⟨aq,av,ar⟩;apply J [10];dsimp only at aq av ar⊢;apply J [119];exact eZ (ay ⟨ax,n+1,f4,ag,an,P,aY⟩ (u.set rfl D aq av ar) (ao (ao (ao (bV (aZ _))))))
theorem y2(b:Nat)(now u:Int)(Q:List cX)(a3:(0<=now/\now<=1000000000000)/\(0<=u/\u<=1000000000000)/\Q.length<=500000)(a2:Option Addr)(c2:Nat)(xs:List Int)(bd:xs.length<=1000000):bu 332 [ae b,.slice a2 xs.length c2] (λF=>∃E,cM F E a2 (ints xs)) [n6 b now u Q] (aa ((Q.length:Int)-(hK Q xs).length)) [n6 b now u (hK Q xs)]:=by
 apply aG Tryz.func332 Tryz.ntmps332;intro F ⟨E,aq⟩;apply J [1];haveI:bn F a2 E (ints xs):=⟨aq⟩;have be:=eb xs;apply J [102,39,33,174];refine Vp (ι:=Nat×List cX) (λs=>s.1<=xs.length/\s.2=hK Q (xs.take s.1)) (λs=>[(0,ae b),(5,aa ((Q.length:Int)-(s.2.length:Int))),(10,.slice a2 xs.length c2),(11,aa xs.length),(12,aa ((s.1:Nat):Int))]) (λs=>ah [n6 b now u s.2,F]) (λs=>xs.length-s.1) ⟨0,Q⟩ ⟨UX _,rfl⟩ ⟨rfl,congrArg (V4 .i64) (Int.sub_self _).symm,rfl,rfl,rfl,trivial⟩ (ao (ao (aZ _))) ?_;rintro⟨k,Z⟩ ⟨ax,C⟩ bh;dsimp only[cr]at ax C⊢;apply J [43];apply UR rfl<;>intro a7;have aB:k<xs.length:=U
 obtain⟨x,qF⟩:∃x,xs[k]? =some x:=⟨xs[k],UO aB⟩;have bc:0<(ints xs).length:=U
 have W:hK Q (xs.take (k+1))=iG Z x:=by grind[U5,Ld]
 have a0:Z.length<=Q.length:=by grind[vV]
 refine J [186,515,31,8] ?_;refine ab.open 0 rfl (λaY aS=>?_);obtain⟨H,n,f,ad,cap,N,m⟩:=aY;have d:=aS;apply J [86];dsimp only at d⊢;have ar:=d.n;have a8:=d.len;have a4:=pG H;apply J [38,154,108];by_cases w:jp Z x;obtain⟨j,a5,av,D⟩:=d.yes w;obtain⟨n,rfl⟩:∃z,n=z+1:=⟨n-1,by omega⟩;have a9:=Gw w d.bi;apply J [4,127,285,438];rw[D];apply J [286,184,56,364,32];refine aL (DK b now u H ad n cap N m f j ar U U d.lX d.r6 d.xa) rfl (dY 0 rfl (dY 0 rfl (dY 0 rfl (eu _)))) trivial ?_;intro⟨an,f4,aV⟩ ⟨P,O,ag,V⟩;apply J [18];dsimp only at P O ag V⊢;refine J [3,367,72,59] ?_;exact⟨rfl,⟨k+1,iG Z x⟩,⟨by dsimp only;omega,W.symm⟩,cD,⟨rfl,congrArg (V4 .i64) cD,rfl,rfl,rfl,trivial⟩,(ay ⟨an,n,f4,ad,cap,N,aV⟩ (d.off av P O ag V) (ao (ao (ao (ao (aZ _))))))⟩;have D:=d.no w;have aI:=Qm w;apply J [4,127,285,438];rw[D];refine J [286,184,56,108,112] ?_;exact⟨rfl,⟨k+1,Z⟩,⟨by dsimp only;omega,by dsimp only;rw[W,aI]⟩,cD,bC,(ay ⟨H,n,f,ad,cap,N,m⟩ d (ao (ao (ao (ao (aZ _))))))⟩;obtain rfl:k=xs.length:=U
 rw[VC]at C;subst C;apply J [21,133];exact hQ
theorem BV(b:Nat)(now C:Int)(Q:List cX)(a7:(0<=now/\now<=1000000000000)/\(0<=C/\C<=1000000000000)/\Q.length<=500000)(a2:∀e∈Q,now<e.at_/\e.at_<=2000000000000):bL 214 [ae b] be [n6 b now C Q] (λy:Option Addr×Nat=>.slice y.1 (ids (jo (now+1) Q)).length y.2) (λ_=>True) (λy=>[a1 3 1 y.1 (ids (jo (now+1) Q)).length y.2 (ints (ids (jo (now+1) Q))),n6 b (now+1) C (mF (now+1) Q)]):=by
 apply aG Tryz.func214 Tryz.ntmps214;intro F _;apply J [1,121,210,71,118];refine ab.open 0 rfl (λV P=>?_);obtain⟨H,n,f,ad,cap,D,m⟩:=V;have d:=P;apply J [86];dsimp only at d⊢;refine J [38,53,151,80,81,203,29,76] ?_;refine Vp (ι:=List cX×List Int×Option Addr×Nat) (λs=>s.1.Sublist Q/\s.2.1++ids (jo (now+1) s.1)=ids (jo (now+1) Q)/\mF (now+1) s.1=mF (now+1) Q) (λs=>[(0,ae b),(3,.slice s.2.2.1 s.2.1.length s.2.2.2)]) (λs=>ah [a1 3 1 s.2.2.1 s.2.1.length s.2.2.2 (ints s.2.1),n6 b (now+1) C s.1,F]) (λs=>s.1.length) ⟨Q,[],none,0⟩ ⟨Xi _,rfl,rfl⟩ bC ((dH 3 1 _).trans (b8 0 rfl kJ (ay ⟨H,n,f,ad,cap,D,m⟩ d (ao (ao (ao (ao (aZ _)))))))) ?_;rintro⟨Z,o,hY,fo⟩ ⟨N,u,w⟩ bl;dsimp only[cr]at N u w⊢;have a5:=N.length_le;have aq:=congrArg WB u;rw[mp]at aq;have a8:(ids (jo (now+1) Q)).length<=Q.length:=by grind[ids,jo]
 clear d;refine ab.open 1 rfl (λV P=>?_);obtain⟨H,n,f,ad,cap,D,m⟩:=V;have d:=P;apply J [85];dsimp only at d⊢;have aS:=d.n;have bc:=d.len;have a9:=pG H;apply J [8,8];refine cC [0,1,2,3,4,5,6,7,8,9,10,11,12,13,14,15,16,17,18,19,20] (Vx _) ?_;apply J [185,462,436,147];refine b6.split 19 rfl (λE=>?_) (λE=>?_);have E:=dt E;have a0:=mZ (show 0<H.length by omega);have bh:0<(hT H).length:=U
 refine J [318,299,351,164,517,387,387] ?_;refine eG rfl rfl rfl rfl (dC rfl rfl (lV lS a0 0 U rfl)) ?_;apply J [318,299,350,164];refine eG rfl rfl rfl rfl (leq rfl rfl) ?_;apply J [319,74];apply UR rfl<;>intro W;obtain⟨d1,d2⟩:=Mb d U W (λa aV=>by have:=a2 a (N.subset aV);omega);obtain⟨n,rfl⟩:∃z,n=z+1:=⟨n-1,by omega⟩;have bd:=Gw ⟨_,d.pm.mem_iff.1 (zE (show 0<H.length by omega)),rfl⟩ d.bi;apply J [4,76,104,162,0];refine aL (DK b (now+1) C H ad n cap D m f 0 aS U U d.lX d.r6 d.xa) rfl (dY 0 rfl (dY 0 rfl (dY 0 rfl (eu _)))) trivial ?_;intro⟨ax,f4,a3⟩ ⟨an,ag,av,ar⟩;apply J [10];dsimp only at an ag av ar⊢;refine J [369,149] ?_;intro a4;have aY:=congrArg WB d1;rw[U9]at aY;rw[ids,VI]at aq;refine e rfl ?_;refine ap 8 rfl rfl rfl rfl rfl (U2 rfl) (show _=ints [(cx H 0).id]from rfl) rfl U gl ?_;intro aB aI;apply J [83,152];exact⟨rfl,⟨iG Z (cx H 0).id,o++[(cx H 0).id],aB,aI⟩,⟨List.filter_sublist.trans N,by dsimp only;rw[<-u,d1];simp[ids],by dsimp only;rw[<-w,d2]⟩,cD,⟨rfl,congrArg (λn=>Vt _ n _) cE,trivial⟩,(b8 0 rfl (by simp[ints]) (ay ⟨ax,n,f4,ad,cap,D,a3⟩ (d.off rfl an ag av ar) (bV (bV (bV (bV (aZ _)))))))⟩;have O:=DQ (t:=now+1) d (.inr W);obtain⟨d1,d2⟩:=O;rw[d1]at u;rw[ids,WH,VK]at u;rw[d2]at w;apply J [207,105];exact XT ⟨hY,fo⟩ [_] ⟨rfl,trivial⟩ (by rw[<-u];rfl) trivial (b8 3 rfl (by rw[<-u]) (ay ⟨H,n,f,ad,cap,D,m⟩ (by rw[<-w];exact d) (ao (ao (ao (ao (aZ _)))))));have E:=dX E;have O:=DQ (t:=now+1) d (.inl U);apply J [208,208,208,383,220,74,73];obtain⟨d1,d2⟩:=O;rw[d1]at u;rw[ids,WH,VK]at u;rw[d2]at w;apply J [207,105];exact XT ⟨hY,fo⟩ [_] ⟨rfl,trivial⟩ (by rw[<-u];rfl) trivial (b8 3 rfl (by rw[<-u]) (ay ⟨H,n,f,ad,cap,D,m⟩ (by rw[<-w];exact d) (ao (ao (ao (ao (aZ _)))))))
end Go.Proofs.YtglgidjhoncphaaGreatDoor.iz
namespace Go.QM
open Go
section
variable {P : Program} {ag : Env} {A : ax} {d : Option Nat} {ty : TypeId} {ps : String} {bh : Array Edge} {g : Option (Nat × Bool)} {t t' : TypeId} {x y : Operand} {k : IntKind} {a b c : Int}
theorem Sc{D:IntKind}{n:Int}(u:bc ag x=.int k a)(C:bc ag y=.int D n)(E:0<=n):
    bA P ag ⟨d,.binOp .shr t x y t',ty,ps,bh,g⟩ A (.int k (a.fdiv (2^min n.toNat k.bits))):=λw _=>by
  have:¬n<0:=U
  simp[execOp,u,C,eqGuard,binOp,Op.shift,this]
end
end Go.QM
