/- Proved here: contracts of this program's functions, under each theorem's premises. -/
import Derived.Test.YtglgidjhoncphaaGreatDoorUa
import Derived.Laws.Bits64b
import Derived.Lib.TrailingZeros
set_option linter.all false
set_option maxRecDepth 4000
set_option maxHeartbeats 4000000
open List renaming length_append->mp,getElem?_eq_getElem->Vb,mem_singleton->Vc,mem_append->Vd,length_singleton->Vk,getElem?_eq_some_iff->Vl,mem_map->Vn,mem_cons->Vp,take_add_one->Vs,nodup_cons->Vu,mem_filter->Vv,length_cons->VB,filter_eq_self->VI,map_cons->VM,take_length->VY,nodup_nil->VZ,length_set->V3,append_nil->V4,range->V8,getElem?_of_mem->V9,getD_eq_getElem?_getD->Wc,length_map->Wf,perm_append_singleton->Wk,map_congr_left->Wm,length_take->Wo,filter_cons_of_neg->Ws,filter_sublist->WD,drop_drop->WP,length->WZ,filter_filter->W0,filter_append->W6,map_nil->W7,filter_eq_nil_iff->Xc,append_of_mem->XD,foldl_cons->XH,find?_cons->XQ,map_map->X1,filter_map->Yo,replicate->Vx,cons_append->VU,take_append_drop->V1,mem_range->W1,all_eq_true->Xi,pairwise_cons->XX
open Nat renaming zero_le->Vh,le_refl->Vj,le_of_ble_eq_true->Vq,mul_comm->WR,pow_le_pow_right->Vi,eq_of_beq_eq_true->VA,mul_one->Ww,and_two_pow_sub_one_eq_mod->W2,blt->W9,min_eq_left->Xb,two_pow_pos->Xj,lt_of_lt_of_le->Xo,mod_lt->X0,pow_succ->Ye,testBit_xor->Yq,mul_lt_mul_of_pos_right->Yr
open Go.Value renaming oneCell'->VN,slice->VO,int->Wn,bool->Wu
open Bool renaming and_eq_true->VP,eq_iff_iff->XS
open Go.Proofs.Tryz renaming prog->VT
open Int renaming eq_ofNat_of_zero_le->Wh
open Option.some renaming injEq->WQ
open List.cons renaming inj->Xk
open List.Pairwise renaming nil->Xq
open Ne renaming symm->Xu
open List.Sublist renaming refl->Xy
open List.Perm renaming refl->Xz
open Function renaming comp_apply->YP
open BitVec renaming ofInt->VW
open Go.Result renaming andThen_ok->Vo
open Go.Sem renaming run_bind->Vz,run_pure->VS
open Go.Region renaming wanted->VL,ready->V2,noSelect->XE
open Go.Lib renaming ctz->XC
open Go.Instr renaming findNow->XK,checkKey->XU
open Go.Builtin renaming max_->YG,max2->YH
open Go.QM.ab renaming aB->Ve,loop->VK,bf->WE
open Go.QM.aW renaming known->VD
open Go.QM.aG renaming refl->VJ
namespace Go.Proofs.Q.Rd
open Go Go.QM
theorem us(xs:List Int)(k:Nat):(ints xs).take (k*1)=ints (xs.take k):=by simp[ints,List.map_take]
theorem rM:∀(xs:List Int),(ints xs).all VN=true
 | []=>rfl
 | x::xs=>by have:=rM xs;rw[ints]at this⊢;rw[VM,List.all_cons,this];rfl
variable{xs:List Int}{i:Nat}
theorem wL(h:i<xs.length){o:Nat}(d:o=i*1)(v:Int):dN o [aa v] (ints xs)=ints (xs.set i v):=by rw[d,Nat.mul_one,List.set_eq_take_append_cons_drop,az h];simp[dN,ints]
theorem pR(xs d:List Int):ints xs++ints d=ints (xs++d):=by simp[ints]
def gU(pr:Int->Bool):Int->Bool:=λx=>!pr x
structure hK(xs:List Int)(pr:Int->Bool)(i j:Nat)(pj:List Int):Prop where
  len:pj.length=xs.length
  kJ:i<j
  oZ:j<=xs.length
  tk:pj.take i=(xs.take j).filter (gU pr)
  n5:pj.drop j=xs.drop j
variable{pr:Int->Bool}
theorem hK.start{k:Nat}(h:xs.findIdx? pr=some k):hK xs pr k (k+1) xs:=by rw[List.findIdx?_eq_some_iff_getElem]at h;obtain⟨d,u,au⟩:=h;refine⟨rfl,by omega,d,?_,rfl⟩;grind[Vs,gU,VI,List.getElem_of_mem,Wo]
theorem hK.nB{j:Nat}{d:List Int}(h:hK xs pr i j d)(w:j<xs.length){x:Int}(D:xs[j]? =some x)(C:pr x=false):hK xs pr (i+1) (j+1) (d.set i x) where
 len:=by rw[V3];exact h.len
 kJ:=by have:=h.kJ;omega
 oZ:=w
 tk:=by
  have E:=h.len;have u:=h.kJ
  rw[Vs,List.getElem?_set_self U,Vs,D,W6,<-h.tk]
  rw[List.take_set_of_le (Vj i)]
  simp[gU,C]
 n5:=by
  have u:=h.kJ
  rw[List.drop_set_of_lt U]
  rw[<-WP,h.n5,WP]
theorem hK.skip{j:Nat}{d:List Int}(h:hK xs pr i j d)(u:j<xs.length){x:Int}(C:xs[j]? =some x)(w:pr x=true):hK xs pr i (j+1) d where
 len:=h.len
 kJ:=by have:=h.kJ;omega
 oZ:=u
 tk:=by rw[Vs,C,W6,h.tk];simp[gU,w]
 n5:=by rw[<-WP,h.n5,WP]
theorem hK.get{j:Nat}{d:List Int}(h:hK xs pr i j d){x:Int}(w:xs[j]? =some x):d[j]? =some x:=by
 have u:(d.drop j)[0]? =(xs.drop j)[0]? :=by rw[h.n5]
 simp_all
theorem hK.done{u:List Int}(h:hK xs pr i xs.length u):u.take i=xs.filter (gU pr)/\(xs.filter (gU pr)).length=i:=by have d:=h.tk;rw[VY]at d;refine⟨d,?_⟩;rw[<-d,Wo];have:=h.len;have:=h.kJ;omega
theorem zo(h:xs.findIdx? pr=none):xs.filter (gU pr)=xs:=by grind[VI,gU]
theorem z8(ad:Option Addr)(cap:Nat)(xs:List Int)(hb:FuncId)(lb:List Value)(pr:Int->Bool)(D:aw->Prop)(O:∀x,bz hb ([aa x]++lb) D [] (.bool (pr x)) [])(W:xs.length<=1000000000):eD VT 340 [.slice ad xs.length cap,.func (.func hb) #[] lb.toArray] (λF=>(∃E,cQ F E ad (ints xs))/\D (ag [F])) [] (λ_:Unit=>aa (match xs.findIdx? pr with|some i=>(i:Int)|none=>-1)) (λ_=>True) (λ_=>[]):=by
 apply aI Tryz.func340 Tryz.ntmps340;intro F ⟨⟨E,H⟩,N⟩;apply J [10];haveI:bn F ad E (ints xs):=⟨H⟩;refine J [39,34,177,572] ?_;rintro k ⟨hinv,eP⟩ Z;dsimp only[cx]at hinv eP⊢;apply J [43];apply Ve rfl<;>intro C;have C:k<xs.length:=U
 obtain⟨t,w⟩:∃t,xs[k]? =some t:=⟨xs[k],Vb C⟩;have V:0<(ints xs).length:=by grind[d7]
 refine J [89,142,24,318,62,2,387] ?_;refine q rfl rfl (dG rfl rfl (hj w)) ?_;refine e rfl ?_;refine k7 (O t) rfl rfl (ez _) N ?_;intro _ _;apply J [151,3];cases Q:pr t with|true=>?_|false=>?_
 apply J [14,142,166];have d:xs.findIdx? pr=some k:=by grind[wx]
 exact ca.i () [_] ⟨rfl,trivial⟩ (by rw[d];rfl) trivial ai;refine J [49,114] ?_;exact⟨rfl,(k+1),⟨by omega,λj u P hu=>by rcases Nat.lt_succ_iff_lt_or_eq.1 P with h|h;exact eP j u h hu;subst h;rw[w]at hu;cases hu;exact Q⟩,U,bH,(ao (a7 _))⟩;obtain rfl:k=xs.length:=by omega
 have d:xs.findIdx? pr=none:=by grind[zD]
 apply J [21,212];exact ca.i () [_] ⟨rfl,trivial⟩ (by rw[d];rfl) trivial (ao (a7 _))
theorem wk(ad:Option Addr)(cap:Nat)(xs:List Int)(hb:FuncId)(lb:List Value)(pr:Int->Bool)(u:aw->Prop)(Q:∀x,bz hb ([aa x]++lb) u [] (.bool (pr x)) [])(aq:xs.length<=1000000000)(ar:∀F,u F->u (ag [F]))(W:∀B F,u F->u (ag [B,F])):eD VT 286 [.slice ad xs.length cap,.func (.func hb) #[] lb.toArray] u [a6 3 1 ad xs.length cap (ints xs)] (λ_:Unit=>.slice ad (xs.filter (gU pr)).length cap) (λ_=>True) (λ_=>[a6 3 1 ad (xs.filter (gU pr)).length cap (ints (xs.filter (gU pr)))]):=by
 apply aI Tryz.func286 Tryz.ntmps286;intro F P;apply J [1];refine ab.ns 0 rfl (λ_ av _=>?_);have a2:=d7 xs;apply J [117,34,318,0];apply eJ (z8 ad cap xs hb lb pr u Q aq) ⟨⟨_,bn.rd⟩,ar _ (W _ _ P)⟩;apply J [5];cases V:xs.findIdx? pr with|none=>?_|some k=>?_
 dsimp only;rw[zo V];apply J [31,171];refine Ve rfl (λC=>?_) (λC=>absurd (rfl) C);apply J [34,203,50];exact hT;dsimp only;have aN:=hK.start V;have aT:k<xs.length:=by have:=aN.oZ;omega
 apply J [31,171];refine Ve rfl (λD=>absurd D U) (λD=>?_);refine J [44,26,149,28,51,573] ?_;rintro⟨i,j,w⟩ d a5;dsimp only[cx]at d⊢;have aJ:=d.oZ;have aD:=d.kJ;have a4:=d.len;have a3:=d7 w;apply J [118,62,253,137];apply Ve rfl<;>intro a0;have H:j<xs.length:=U
 obtain⟨x,N⟩:∃x,xs[j]? =some x:=⟨xs[j],Vb H⟩;have au:=d.get N;have a1:0<(ints w).length:=U
 refine J [89,278,387] ?_;refine q rfl rfl (dG rfl rfl (hj au)) ?_;apply J [28,24,318,27];refine k7 (Q x) rfl rfl (ez _) (W _ _ P) ?_;intro _ _;apply J [5,236];cases Z:pr x with|true=>?_|false=>?_
 refine J [49,23,179] ?_;exact⟨rfl,⟨i,j+1,w⟩,(d.skip H N Z),cy,bH,(ao (ao (a7 _)))⟩;refine J [14,34,125,387,19,515,3,346,48,150,179] ?_;exact⟨rfl,⟨i+1,j+1,w.set i x⟩,(d.nB H N Z),cy,bH,(ao (ao (a7 _)))⟩;obtain rfl:j=xs.length:=by omega
 obtain⟨d1,d2⟩:=d.done;apply J [198,2];refine q rfl rfl (ot 3 1 (i) rfl rfl rfl U U) ?_;refine et ?_;refine zd (sz:=1) (z:=aa 0) i rfl rfl rfl rfl an rfl rfl U ?_;intro O C D;have ah:O.take (i*1)=ints (xs.filter (gU pr)):=by grind[us]
 apply J [3,278];refine q rfl rfl (nM 3 1 (i) rfl rfl rfl U U) ?_;apply J [91];exact ca.i () [_] ⟨rfl,trivial⟩ (by rw[d2];rfl) trivial (eO 0 rfl (by have:=p6 (E:=3) (sz:=1) (ad:=ad) (n:=xs.length) (cap:=cap) (cs:=O) (j:=i) U;rw[ah]at this;rw[d2];exact this) (ao (a7 _)))
end Go.Proofs.Q.Rd
namespace Go.Proofs.Q.Rd
open Go Go.QM
structure cS where
  id:Int
  prio:Int
  whole:Int
  left:Int
def Tm(t:cS):List Value:=[.int .i64 t.whole,.int .i64 t.left,.int .i64 t.prio]
def dD(S:List cS)(p:Nat):List Int:=(S.filter λt=>decide (t.prio=(p:Int))).map (·.id)
def ev(S:List cS)(id:Int):Prop:=∃t∈S,t.id=id
instance (S:List cS)(id:Int):Decidable (ev S id):=inferInstanceAs (Decidable (∃t∈S,t.id=id))
def ja(A:Int->Nat)(S:List cS):Int->Option Value:=λid=>if ev S id then some (.pointer (some ⟨A id,0,none⟩))else none
def h6(S:List cS):Prop:=(S.map (·.id)).Nodup
structure ga(S:List cS):Prop where
  bC:h6 S
  rg:∀t∈S,0<=t.id/\(0<=t.prio/\t.prio<=7)/\(0<=t.whole/\t.whole<=16)/\0<=t.left/\t.left<=16
structure CJ where
  ad:Nat->Option Addr
  cap:Nat->Nat
  aH:Nat
  A:Int->Nat
abbrev mG(ad:Nat->Option Addr)(cap:Nat->Nat)(S:List cS)(p:Nat):aw:=a6 3 1 (ad p) (dD S p).length (cap p) (ints (dD S p))
abbrev r7(A:Int->Nat)(t:cS):aw:=aj (A t.id) 373 (Tm t)
abbrev um(ad:Nat->Option Addr)(cap:Nat->Nat)(aH:Nat)(S:List cS):List Value:=gC (λp=>.slice (ad p) (dD S p).length (cap p)) [.map (some aH)]
def eC(q:Nat)(S:List cS):aw:=eQ λy:CJ=>pure' (ga S) (ag [aj q 261 (um y.ad y.cap y.aH S),b8 (mG y.ad y.cap S) (V8 8),bP QM.encI y.aH (ja y.A S) S.length,b8 (r7 y.A) S])
variable{S T:List cS}
theorem h6.perm(h:h6 S)(p:T.Perm S):h6 T:=(p.map _).nodup_iff.2 h
variable{t:cS}
theorem h6.inj(h:h6 S){u:cS}(C:t∈S)(hu:u∈S)(e:t.id=u.id):t=u:=by obtain⟨L,w⟩:=fE C;rcases Vp.1 (w.mem_iff.1 hu)with d|d;simp_all;exact absurd (Vn.2 ⟨u,d,e.symm⟩) (Vu.1 (h.perm w.symm)).1
def eM(S:List cS)(id:Int):List cS:=S.filter λt=>decide (t.id≠id)
theorem Be{L:List cS}(h:h6 S)(w:S.Perm (t::L)):(eM S t.id).Perm L:=by have d:=w.filter λu=>decide (u.id≠t.id);rw[Ws cE]at d;have C:L.filter (λu=>decide (u.id≠t.id))=L:=VI.2 λu hu=>(by have:=(Vu.1 (h.perm w.symm)).1;simp_all);rw[C]at d;exact d
theorem Ei{A:Int->Nat}(h:∀x,ev T x↔ev S x):ja A T=ja A S:=by grind[ja]
theorem wt{A:Int->Nat}{id:Int}(h:ev S id):ja A S id=some (.pointer (some ⟨A id,0,none⟩)):=az h
theorem wr{A:Int->Nat}{id:Int}(h:¬ev S id):ja A S id=none:=al h
theorem Qx(S:List cS)(x:Int):¬ev (eM S x) x:=by rintro⟨t,d,h⟩;have:=(Vv.1 d).2;simp_all
theorem xo{x y:Int}:ev (eM S x) y↔ev S y/\y≠x:=by constructor;rintro⟨t,d,rfl⟩;obtain⟨u,w⟩:=Vv.1 d;exact⟨⟨t,u,rfl⟩,by simpa using w⟩;rintro⟨⟨t,d,rfl⟩,h⟩;exact⟨t,Vv.2 ⟨d,by simpa using h⟩,rfl⟩
theorem Qw{x:Int}(h:¬ev S x):eM S x=S:=VI.2 λt d=>by
 simp only[decide_eq_true_eq];exact λe=>h ⟨t,d,e⟩
theorem Gz{x:Int}(au:h6 S)(h:ev S x):(eM S x).length+1=S.length:=by obtain⟨t,u,rfl⟩:=h;obtain⟨L,d⟩:=fE u;rw[(Be au d).length_eq,d.length_eq];rfl
theorem ga.sub(h:ga S)(hs:T.Sublist S):ga T:=⟨h.bC.sublist (hs.map _),λt d=>h.rg t (hs.subset d)⟩
theorem ga.off(h:ga S)(x:Int):ga (eM S x):=h.sub WD
def gE(S:List cS)(id prio ck:Int):List cS×Int:=if id<0\/prio<0\/7<prio\/ck<1\/16<ck then(S,1)else if ev S id then(S,7)else(S++[⟨id,prio,ck,ck⟩],0)
theorem ga.add(h:ga S)(C:¬ev S t.id)(hr:0<=t.id/\(0<=t.prio/\t.prio<=7)/\(0<=t.whole/\t.whole<=16)/\0<=t.left/\t.left<=16):ga (S++[t]) where
 bC:=by
  rw[h6,List.map_append,List.nodup_append]
  refine⟨h.bC,by simp,λx D y d=>?_⟩
  obtain⟨a,w,rfl⟩:=Vn.1 D
  simp only[VM,W7,Vc]at d
  rw[d];exact λe=>C ⟨a,w,e⟩
 rg:=λu hu=>by
  rcases Vd.1 hu with hu|hu
  ·exact h.rg u hu
  rw[Vc.1 hu];exact hr
theorem xH(S T:List cS)(p:Nat):dD (S++T) p=dD S p++dD T p:=by simp[dD]
variable{p:Nat}
theorem Hn(h:t.prio=p):dD [t] p=[t.id]:=by simp[dD,h]
theorem Ho(h:t.prio≠p):dD [t] p=[]:=by simp[dD,h]
theorem Mt{A:Int->Nat}(b:Nat):ja (aR A t.id b) (S++[t])=fo (ja A S) t.id (ae b):=by
 funext x;simp only[ja,fo];have d:ev (S++[t]) x↔ev S x\/t.id=x:=by simp[ev,or_and_right,exists_or]
 by_cases e:x=t.id;rw[az (d.2 (.inr e.symm)),az e,e,cp];rw[al e,bS e];grind
variable(x:Int)
theorem Mu{A:Int->Nat}:ja A (eM S x)=gd (ja A S) x:=by funext y;simp only[ja,gd];by_cases e:y=x;rw[az e,al (λh=>(xo.1 h).2 e)];rw[al e];by_cases h:ev S y;rw[az h,az (xo.2 ⟨h,e⟩)];rw[al h,al (λd=>h (xo.1 d).1)]
theorem BA{S:List cS}{x:Int}:x∈dD S p↔∃t∈S,t.prio=p/\t.id=x:=by simp[dD,and_assoc]
theorem Bz(S:List cS)(p:Nat):(dD S p).length<=S.length:=by rw[dD,Wf];exact List.length_filter_le _ _
theorem BB(S:List cS)(p:Nat)(x:Int):dD (eM S x) p=(dD S p).filter λy=>decide (y≠x):=by rw[dD,dD,Yo,eM,W0,W0];grind
theorem Hm(au:h6 S)(C:t∈S)(w:t.prio≠p):dD (eM S t.id) p=dD S p:=by rw[BB];refine VI.2 λy D=>?_;obtain⟨u,hu,d,rfl⟩:=BA.1 D;simp only[decide_eq_true_eq];intro e;rw[au.inj hu C e]at d;exact w d
variable{cap:Nat->Nat}
theorem Hv{ad:Nat->Option Addr}{L:List Nat}{a:Option Addr}{c:Nat}(d:∀x∈L,x≠p/\x<8)(h:∀x,x≠p->dD T x=dD S x):∀x∈L,mG ad cap S x=mG (dK ad p a) (dK cap p c) T x:=λx u=>by
 have:=(d x u).1
 simp only[mG,jj this,h x this]
theorem RZ{ad:Nat->Option Addr}{L:List Nat}(d:∀x∈L,x≠p/\x<8)(h:∀x,x≠p->dD T x=dD S x):∀x∈L,mG ad cap S x=mG ad cap T x:=λx u=>by
 have:=(d x u).1
 simp only[mG,h x this]
theorem EG{ad:Nat->Option Addr}{aH:Nat}{n c:Nat}{a:Option Addr}(h:∀x,x≠p->dD T x=dD S x)(d:(dD T p).length=n):
 gC (λx=>if x=p then VO a n c else .slice (ad x) (dD S x).length (cap x)) [.map (some aH)]=um (dK ad p a) (dK cap p c) aH T:=Ht λx _=>by
 by_cases e:x=p
 ·rw[az e,e,jI,jI,d]
 rw[al e,jj e,jj e,h x e]
theorem EF{ad:Nat->Option Addr}{aH:Nat}(h:∀x,(dD T x).length=(dD S x).length):um ad cap aH S=um ad cap aH T:=Ht λx _=>by rw[h x]
def gG(S:List cS)(ids:List Int):List cS:=ids.foldl eM S
theorem Mc(S:List cS)(ids:List Int)(x:Int):gG S (ids++[x])=eM (gG S ids) x:=by simp[gG]
theorem n6(S:List cS):∀ids,(gG S ids).Sublist S
 | []=>Xy _
 | x::l=>by rw[gG,XH];exact(n6 (eM S x) l).trans WD
theorem Mb(S:List cS)(ids:List Int):gG S ids=S.filter λt=>decide (t.id∉ids):=by induction ids generalizing S with|nil=>exact(VI.2 λa _=>by simp).symm|cons x l d=>rw[gG,XH];have:=d (eM S x);rw[gG]at this;rw[this,eM,W0];congr 1;funext e;rw[XS];simp only[VP,decide_eq_true_eq,Vp,not_or];exact⟨λh=>⟨h.2,h.1⟩,λh=>⟨h.2,h.1⟩⟩
def hJ(S:List cS):Option cS:=S.find? λt=>S.all λu=>decide (u.prio<=t.prio)
def fh(S:List cS):Int:=match hJ S with
  | some t=>t.id
  | none=>-1
theorem nP{S:List cS}(h:hJ S=some t):t∈S/\∀u∈S,u.prio<=t.prio:=by refine⟨List.mem_of_find?_eq_some h,λu hu=>?_⟩;have:=List.find?_some h;simp_all
theorem Il(h:ga S)(au:∀x,p<x->x<8->dD S x=[]){x:Int}{rest:List Int}(hr:dD S p=x::rest):∃t,hJ S=some t/\t.id=x/\t.prio=p:=by
 have hle:∀u∈S,u.prio<=p:=λu hu=>(by have D:=h.rg u hu;obtain⟨k,O⟩:=Wh D.2.1.1;by_cases P:p<k;have:=au k P U;have hm:u.id∈dD S k:=BA.2 ⟨u,hu,O,rfl⟩;rw[this]at hm;cases hm;omega);obtain⟨t,T,d⟩:∃t T,S.filter (λt=>decide (t.prio=(p:Int)))=t::T:=(by cases H:S.filter (λt=>decide (t.prio=(p:Int)))with|nil=>rw[dD,H]at hr;cases hr|cons t T=>exact⟨t,T,rfl⟩);have N:t.id=x:=by rw[dD,d]at hr;simpa using(Xk hr).1
 have C:=Vv.1 (show t∈S.filter (λt=>decide (t.prio=(p:Int)))by rw[d];simp);have Q:t.prio=p:=by simpa using C.2
 refine⟨t,?_,N,Q⟩;have E:hJ S=S.find? λt=>decide (t.prio=(p:Int)):=(by rw[hJ];have:∀u∈S,(S.all λv=>decide (v.prio<=u.prio))=decide (u.prio=(p:Int)):=λu hu=>(by rw[XS,List.all_eq_true];simp only[decide_eq_true_eq];constructor;intro w;have V:=w t C.1;have W:=hle u hu;omega;intro w v hv;have:=hle v hv;omega);induction S with|nil=>rfl|cons a l _=>exact find_congr this);rw[E,<-List.head?_filter,d];rfl
 where find_congr {f g:cS->Bool}:∀{l:List cS},(∀u∈l,f u=g u)->l.find? f=l.find? g
  | [],_=>rfl
  | a::l,h=>by
   rw[XQ,XQ,h a cE,find_congr λu hu=>h u (by simp[hu])]
theorem Tx(h:ga S)(au:∀x,x<8->dD S x=[]):S=[]:=by
 rcases S with _|⟨t,T⟩;trivial;have d:=h.rg t cE;obtain⟨k,u⟩:=Wh d.2.1.1;have hm:t.id∈dD (t::T) k:=by grind[BA]
 grind
def ih(S:List cS)(t:cS):List cS:=eM S t.id++[⟨t.id,t.prio,t.whole,t.whole⟩]
def iY(S:List cS)(id v:Int):List cS:=S.map λt=>if t.id=id then⟨t.id,t.prio,t.whole,v⟩else t
def ji(S:List cS):List cS:=match hJ S with
  | none=>S
  | some t=>if t.left=1 then ih S t else iY S t.id (t.left-1)
def ku(S:List cS):List cS:=match hJ S with
  | none=>S
  | some t=>ih S t
theorem Bx(u:t∈S)(x:Int):ev (ih S t) x↔ev S x:=by
 have d:ev (ih S t) x↔ev (eM S t.id) x\/t.id=x:=by simp[ih,ev,or_and_right,exists_or]
 rw[d,xo];constructor;rintro(h|h);simp_all;exact⟨t,u,h⟩;grind
theorem ga.Bw(h:ga S)(d:t∈S):ga (ih S t):=
 (h.off t.id).add (t:=⟨t.id,t.prio,t.whole,t.whole⟩) (Qx S t.id) (by have:=h.rg t d;dsimp only;omega)
theorem By(h:h6 S)(d:t∈S):(ih S t).length=S.length:=by have:=Gz h ⟨t,d,rfl⟩;grind[ih]
theorem Hj(au:h6 S)(u:t∈S){x:Nat}(d:t.prio=p)(w:x≠p):dD (ih S t) x=dD S x:=by grind[ih,xH,Ho,Hm]
theorem RR(au:h6 S)(p:Nat):(dD S p).Nodup:=au.sublist (List.filter_sublist.map _)
theorem Hi(au:h6 S)(u:t.prio=p){rest:List Int}(hr:dD S p=t.id::rest):dD (ih S t) p=rest++[t.id]:=by rw[ih,xH,Hn (by dsimp only;exact u),BB,hr,Ws cE];have d:=RR au p;rw[hr,Vu]at d;rw[VI.2 λy w=>by simp only[decide_eq_true_eq];exact λe=>d.1 (by rw[<-e];exact w)]
theorem Tw(h:hJ S=some t)(C:t.prio=p):∃rest,dD S p=t.id::rest:=by obtain⟨hm,hle⟩:=nP h;have w:hJ S=S.find? λt=>decide (t.prio=(p:Int)):=(by rw[hJ];refine Il.find_congr λu hu=>?_;grind);rw[w,<-List.head?_filter]at h;cases d:S.filter (λt=>decide (t.prio=(p:Int)))with|nil=>rw[d]at h;cases h|cons a l=>rw[d]at h;simp only[List.head?_cons,WQ]at h;exact⟨l.map (·.id),by rw[dD,d,h];rfl⟩
theorem RT(rest:List Int):dN 0 (((ints (x::rest)).drop (1*1)).take (rest.length*1)) (ints (x::rest))=ints (rest++(x::rest).drop rest.length):=by grind[dN,ints,List.map_drop]
theorem RX(rest:List Int):(rest++(x::rest).drop rest.length).set rest.length x=rest++[x]:=by
 rw[List.set_append_right _ _ (Vj _),Nat.sub_self];have d:((x::rest).drop rest.length).length=1:=cE
 grind[List.length_eq_one_iff]
theorem Hx(S:List cS)(id v x:Int):ev (iY S id v) x↔ev S x:=by simp only[ev,iY,Vn];grind
theorem Hy(S:List cS)(id v:Int)(p:Nat):dD (iY S id v) p=dD S p:=by rw[dD,dD,iY,Yo,X1];have d:((λt:cS=>decide (t.prio=(p:Int)))∘λt:cS=>if t.id=id then(⟨t.id,t.prio,t.whole,v⟩:cS)else t)=λt=>decide (t.prio=(p:Int)):=cv;rw[d];exact Wm λt _=>by simp only[YP];split<;>rfl
theorem Si(S:List cS)(id v:Int):(iY S id v).map (·.id)=S.map (·.id):=by rw[iY,X1];exact Wm λt _=>by simp only[YP];split<;>rfl
theorem BF(S:List cS)(id v:Int):(iY S id v).length=S.length:=by simp[iY]
theorem ga.iY{S:List cS}(h:ga S)(id:Int){v:Int}(hv:0<=v/\v<=16):ga (iY S id v) where
 bC:=by rw[h6,Si];exact h.bC
 rg:=λt d=>by obtain⟨u,hu,rfl⟩:=Vn.1 d;have:=h.rg u hu;split;dsimp only;omega;exact this
theorem Sk{L:List cS}(au:h6 S)(w:S.Perm (t::L))(v:Int):(⟨t.id,t.prio,t.whole,v⟩::L:List cS).Perm (iY S t.id v):=by have d:=w.map λu:cS=>if u.id=t.id then(⟨u.id,u.prio,u.whole,v⟩:cS)else u;rw[VM,az rfl]at d;have C:L.map (λu:cS=>if u.id=t.id then(⟨u.id,u.prio,u.whole,v⟩:cS)else u)=L:=(by(conv=>rhs;rw[<-List.map_id L]);refine Wm λu hu=>?_;have:=(Vu.1 (au.perm w.symm)).1;simp_all);rw[C]at d;exact d.symm
theorem Sl(h:hJ S=some t)(v:Int):hJ (iY S t.id v)=some ⟨t.id,t.prio,t.whole,v⟩:=by
 have D:∀u:cS,(if u.id=t.id then(⟨u.id,u.prio,u.whole,v⟩:cS)else u).prio=u.prio:=cv
 rw[hJ,iY,List.find?_map];have d:((λa:cS=>(S.map λu:cS=>if u.id=t.id then(⟨u.id,u.prio,u.whole,v⟩:cS)else u).all λw=>decide (w.prio<=a.prio))∘λu:cS=>if u.id=t.id then(⟨u.id,u.prio,u.whole,v⟩:cS)else u)=λa=>S.all λw=>decide (w.prio<=a.prio):=cv;rw[d];have C:S.find? (λa=>S.all λw=>decide (w.prio<=a.prio))=some t:=h;simp_all
theorem Sj(S:List cS)(id v:Int):eM (iY S id v) id=eM S id:=by
 rw[eM,eM,iY,Yo];have d:((λu:cS=>decide (u.id≠id))∘λt:cS=>if t.id=id then(⟨t.id,t.prio,t.whole,v⟩:cS)else t)=λu=>decide (u.id≠id):=cv;rw[d];conv=>rhs;rw[<-List.map_id (S.filter _)]
 refine Wm λu hu=>?_;simp_all
theorem ga.nil:ga []:=⟨VZ,λt h=>by cases h⟩
theorem not_neg(h:ga S):¬ev S (-1):=by rintro⟨t,d,u⟩;have:=h.rg t d;omega
end Go.Proofs.Q.Rd
namespace Go.Proofs.Q.Rd
open Go Go.QM
def hI(S:List cS)(p:Int):List Int:=if 0<=p/\p<=7 then dD S p.toNat else[]
theorem RU{S:List cS}{p:Nat}{x:Int}:(dD S p).filter (gU λy=>decide (y=x))=dD (eM S x) p:=by grind[BB,List.filter_congr,gU]
theorem QV{S L:List cS}{t:cS}(h:h6 S)(d:S.Perm (t::L))(u:cS):(u::L).Perm (eM S t.id++[u]):=
 ((Be h d).symm.cons u).trans (Wk _ _).symm
variable(en:Nat)
theorem RL(aH:Nat)(F:aw):aG (ag [aj en 261 (gC (λ_=>.slice none 0 0) [.map (some aH)]),bP QM.encI aH (λ_=>none) 0,F]) (ag [eC en [],F]):=by
 have u:ja (λ_=>0) []=λ_=>none:=by trivial
 have d:V8 8=[0,1,2,3,4,5,6,7]:=j8
 refine(ni (f:=r7 (λ_=>0)) _).trans ?_;refine(((dE 3 1 _).trans ((dE 3 1 _).trans ((dE 3 1 _).trans ((dE 3 1 _).trans ((dE 3 1 _).trans ((dE 3 1 _).trans ((dE 3 1 _).trans (dE 3 1 _)))))))):aG _ (ag [a6 3 1 none 0 0 [],a6 3 1 none 0 0 [],a6 3 1 none 0 0 [],a6 3 1 none 0 0 [],a6 3 1 none 0 0 [],a6 3 1 none 0 0 [],a6 3 1 none 0 0 [],a6 3 1 none 0 0 [],_,_,_,_])).trans ?_;refine aA (⟨λ_=>none,λ_=>0,aH,λ_=>0⟩:CJ) ga.nil ?_;refine bU 9 rfl ?_;refine(show aG (ag [a6 3 1 none 0 0 [],a6 3 1 none 0 0 [],a6 3 1 none 0 0 [],a6 3 1 none 0 0 [],a6 3 1 none 0 0 [],a6 3 1 none 0 0 [],a6 3 1 none 0 0 [],a6 3 1 none 0 0 [],b8 (r7 λ_=>0) [],bP QM.encI aH (λ_=>none) 0,F]) (ag [b8 (mG (λ_=>none) (λ_=>0) []) (V8 8),bP QM.encI aH (ja (λ_=>0) []) 0,b8 (r7 λ_=>0) [],F])from ?_);rw[u,b8,d];refine(u7 [a6 3 1 none 0 0 [],a6 3 1 none 0 0 [],a6 3 1 none 0 0 [],a6 3 1 none 0 0 [],a6 3 1 none 0 0 [],a6 3 1 none 0 0 [],a6 3 1 none 0 0 [],a6 3 1 none 0 0 []] _).trans (dv (VJ _) ?_);exact bU 1 rfl (ao (ao (a7 _)))
theorem RM:bK 191 [] bg [] (λen:Nat=>ae en) (λ_=>True) (λen=>[eC en []]):=by
 apply aI Tryz.func191 Tryz.ntmps191;intro F _;refine J [10,170,25,328] ?_;intro be;first|refine q rfl rfl (ei (cs:=[.slice _ _ _,.slice _ _ _,.slice _ _ _,.slice _ _ _,.slice _ _ _,.slice _ _ _,.slice _ _ _,.slice _ _ _,.map _]) rfl) ?_|refine q rfl rfl (ei (cs:=[_,_,_,_,_,_,_,_,_]) rfl) ?_
 refine e rfl ?_;refine fe (v:=.agg _) (l:=[.slice _ _ _,.slice _ _ _,.slice _ _ _,.slice _ _ _,.slice _ _ _,.slice _ _ _,.slice _ _ _,.slice _ _ _,.map _]) rfl rfl ?_;intro bA;apply J [109];have d:V8 8=[0,1,2,3,4,5,6,7]:=j8
 exact bv bA trivial (RL bA be F)
theorem r1(r:Nat->Value)(aH n:Nat)(f:Int->Option Value)(id:Int):bz 241 [ae en,aa id] bg [aj en 261 (gC r [.map (some aH)]),bP QM.encI aH f n] ((f id).getD (.pointer none)) [aj en 261 (gC r [.map (some aH)]),bP QM.encI aH f n]:=by apply aI Tryz.func241 Tryz.ntmps241;intro F _;apply J [11,24,146,29,129,339,129,55,283,300];refine q rfl rfl (ko 3 368 rfl rfl (dP.int rfl) rfl rfl) ?_;apply J [146,232];exact fc (ao (ao (ao (a7 _))))
theorem CX(b:Nat)(w l r:Int):bz 242 [ae b] bg [aj b 373 [aa w,aa l,aa r]] (.tuple #[]) [aj b 373 [aa w,aa w,aa r]]:=by apply aI Tryz.func242 Tryz.ntmps242;intro F _;apply J [1,37,158,78,269,208,327];exact yn
theorem SX(b:Nat)(w l r:Int)(d:0<=l/\l<=100):bz 276 [ae b] bg [aj b 373 [aa w,aa l,aa r]] (.bool (decide (l-1=0))) [aj b 373 [aa w,aa (l-1),aa r]]:=by apply aI Tryz.func276 Tryz.ntmps276;intro F _;refine J [1,132,87,245,269,287,87,298,88] ?_;exact hT
theorem Ma(b:Nat)(id x:Int):bz 382 [aa x,ae b] (λF=>Rd F b (.cells #[aa id] 3 (0,0))) [] (.bool (decide (x=id))) []:=by apply aI Tryz.func382 Tryz.ntmps382;intro F d;apply J [10];haveI:gb F b (.cells #[aa id] 3 (0,0)):=⟨d⟩;apply J [221,53,298,88];exact kc
theorem q0(S:List cS)(au:S.length<=1000000):bz 105 [ae en] bg [eC en S] (aa (fh S)) [eC en S]:=by
 apply aI Tryz.func105 Tryz.ntmps105;intro F _;apply J [1];refine ab.open 0 rfl (λd E=>?_);obtain⟨ad,cap,aH,A⟩:=d;have aQ:=E;apply J [57];dsimp only at aQ⊢;apply J [39,267];refine VK (ι:=Nat) (λk=>k<=8/\∀x,k<=x->x<8->dD S x=[]) (λk=>[(0,ae en),(3,aa ((k:Int)-1))]) (λk=>ag [aj en 261 (um ad cap aH S),b8 (mG ad cap S) (V8 8),bP QM.encI aH (ja A S) S.length,b8 (r7 A) S,F]) (λk=>k) 8 ⟨Vj _,λx C u=>by omega⟩ bH (ao (ao (ao (ao (ao (a7 _)))))) ?_;rintro k ⟨O,w⟩ aw;dsimp only[cx]at O w⊢;apply J [7,340,20];refine VD 7 rfl (c:=true) rfl ?_;apply J [17,310,183];apply Ve rfl<;>intro W;obtain⟨p,rfl⟩:∃z,k=z+1:=⟨k-1,by omega⟩;rw[show(((p+1:Nat):Int)-1)=(p:Int)from by omega];have oX:p<8:=U
 obtain⟨L,D,V⟩:=xG oX;refine WE (fV 1 rfl D) ?_;apply J [89,35,55,59];refine q rfl rfl (lW 8 90 1 rfl rfl rfl U U) ?_;refine q rfl rfl (gL rfl rfl (Hu oX U)) ?_;apply J [203,34,253,241,3];apply Ve rfl<;>intro hlen;obtain⟨d,rest,Q⟩:∃d rest,dD S p=d::rest:=(by cases P:dD S p with|nil=>rw[P]at hlen;simp at hlen|cons a l=>exact⟨a,l,rfl⟩);obtain⟨t,aq,ar,av⟩:=Il aQ (λx C u=>w x U u) Q;have hv:fh S=d:=by grind[fh]
 rw[hv];have E:(dD S p)[0]? =some d:=b6
 have Z:=d7 (dD S p);have ah:0<(ints (dD S p)).length:=U
 refine J [34,516] ?_;refine q rfl rfl (dG rfl rfl (hj E)) ?_;apply J [28,166];exact fc (aA ⟨ad,cap,aH,A⟩ aQ (bw (cX 0 0 p rfl rfl rfl (λ_ _=>rfl) D.symm (ao (ao (ao (a7 _)))))));refine J [23,217,245,28] ?_;exact⟨rfl,p,⟨by omega,λx C u=>by rcases Nat.lt_or_eq_of_le C with H|H;exact w x U u;subst H;exact List.length_eq_zero_iff.1 U⟩,U,bH,(bw (cX 0 0 p rfl rfl rfl (λ_ _=>rfl) D.symm (ao (ao (ao (a7 _))))))⟩;obtain rfl:k=0:=by omega
 have N:=Tx aQ (λx h=>w x U h);have hv:fh S=-1:=by rw[N];rfl
 rw[hv];apply J [21,212];exact fc (aA ⟨ad,cap,aH,A⟩ aQ (ao (ao (ao (ao (ao (a7 _)))))))
theorem vN(S:List cS)(au:S.length<=1000000)(id pr d:Int):bz 197 [ae en,aa id,aa pr,aa d] bg [eC en S] (aa (gE S id pr d).2) [eC en (gE S id pr d).1]:=by
 apply aI Tryz.func197 Tryz.ntmps197;intro F _;apply J [1,39,51,228];refine VD 13 rfl (c:=false) rfl ?_;apply J [209,40];refine aW.split 17 rfl (λC=>?_) (λC=>?_);have C:=dp C;have hv:gE S id pr d=(S,1):=by rw[gE,az U]
 rw[hv];dsimp only;apply J [341,341,341,102,169,201];exact hT;have C:=eb C;apply J [209,40];refine aW.split 21 rfl (λD=>?_) (λD=>?_);have D:=dp D;have hv:gE S id pr d=(S,1):=by rw[gE,az U]
 rw[hv];dsimp only;apply J [341,341,102,169,201];exact hT;have D:=eb D;apply J [168,40];refine aW.split 25 rfl (λE=>?_) (λE=>?_);have E:=dp E;have hv:gE S id pr d=(S,1):=by rw[gE,az U]
 rw[hv];dsimp only;apply J [341,102,169,201];exact hT;have E:=eb E;apply J [209,40];refine aW.split 29 rfl (λH=>?_) (λH=>?_);have H:=dp H;have hv:gE S id pr d=(S,1):=by rw[gE,az U]
 rw[hv];dsimp only;apply J [102,169,201];exact hT;have H:=eb H;apply J [168,211];apply Ve rfl<;>intro aT;have hv:gE S id pr d=(S,1):=by rw[gE,az U]
 rw[hv];dsimp only;apply J [108];exact hT;refine ab.open 0 rfl (λav ar=>?_);obtain⟨ad,cap,aH,A⟩:=av;have aQ:=ar;apply J [57];dsimp only at aQ⊢;by_cases w:ev S id;have N:=wt (A:=A) w;have hv:gE S id pr d=(S,7):=by rw[gE,al U,az w]
 rw[hv];dsimp only;refine J [33,574] ?_;intro _ _;apply J [9];rw[N];apply J [570,36,201];exact fc (aA ⟨ad,cap,aH,A⟩ aQ (ao (bX (ao (ao (ao (a7 _)))))));have N:=wr (A:=A) w;have hv:gE S id pr d=(S++[⟨id,pr,d,d⟩],0):=by rw[gE,al U,al w]
 rw[hv];dsimp only;obtain⟨p,rfl⟩:=Wh (show 0<=pr by omega);have oX:p<8:=U
 obtain⟨L,O,ah⟩:=xG oX;have aJ:=Bz S p;have aq:=aQ.add (t:=⟨id,p,d,d⟩) w cy;have P:∀x,x≠p->dD (S++[⟨id,(p:Int),d,d⟩]) x=dD S x:=by grind[xH,Ho]
 have Q:dD (S++[⟨id,(p:Int),d,d⟩]) p=dD S p++[id]:=by grind[xH,Hn]
 have aD:=d7 (dD S p);refine WE (fV 1 rfl O) ?_;apply J [33];refine aO (r1 en _ aH S.length (ja A S) id) rfl (d8 2 rfl (d8 2 rfl (ez _))) trivial ?_;intro _ _;apply J [12];rw[N];apply J [570,191,23,26];first|refine q rfl rfl (ei (cs:=[.int _ _,.int _ _]) rfl) ?_|refine q rfl rfl (ei (cs:=[_,_]) rfl) ?_
 apply J [2];first|refine q rfl rfl (ei (cs:=[.int _ _,.int _ _,.int _ _]) rfl) ?_|refine q rfl rfl (ei (cs:=[_,_,_]) rfl) ?_
 refine J [0,291] ?_;intro cj;apply J [268,45,0];refine aO (CX cj d 0 p) rfl (d8 0 rfl (ez _)) trivial ?_;intro _ _;apply J [15,3,128,283,2,158,19];refine lY 3 368 rfl (dP.int rfl) rfl rfl rfl ?_;apply J [29];refine ab.draw _ [14] [0,1,2,3,4,5,6,7,8,11,12,-9,-10,13,-14] aV aV (bw (a7 _)) ?_;refine J [56,16,56,16,66,63,436,517,16,66,63,13,148] ?_;intro aw;refine J [47,575] ?_;intro V W;refine J [6,436,67,576,52,212] ?_;exact fc (aA ⟨dK ad p V,dK cap p W,aH,aR A id cj⟩ aq (b9 0 rfl (congrArg (aj en 261) (EG (n:=(dD S p).length+1) P (by rw[Q,mp];rfl))) (cX 0 3 p rfl rfl (by dsimp only[mG];rw[jI,jI,Q,mp,Vk,pR]) (Hv ah P) O.symm (b9 1 rfl (by dsimp only;rw[Mt (t:=⟨id,(p:Int),d,d⟩),N,mp];rfl) (cX 1 1 ⟨id,(p:Int),d,d⟩ rfl rfl (by dsimp only[r7];rw[cp];rfl) (λu hu=>by dsimp only[r7];rw[bS (λZ=>w ⟨u,hu,Z⟩)]) (Wk _ _).symm (bX (a7 _)))))))
end Go.Proofs.Q.Rd
namespace Go.Proofs.Q.Rd
open Go Go.QM
theorem row_one(xs:List Int)(a b:Nat):(((ints xs).drop a).take b).all VN=true:=by grind[rM]
theorem RK(S:List cS)(t:cS)(v:Int):ih (iY S t.id v) ⟨t.id,t.prio,t.whole,v⟩=ih S t:=by rw[ih,Sj];rfl
theorem RJ{S:List cS}(au:h6 S){t:cS}(u:t∈S){p:Nat}(d:t.prio=p){rest:List Int}(hr:dD S p=t.id::rest)(x:Nat):(dD (ih S t) x).length=(dD S x).length:=by by_cases e:x=p;rw[e,Hi au d hr,hr];simp;grind[Hj]
theorem ga.tick{S:List cS}(h:ga S)(d:∀t∈S,1<=t.left):ga (ji S):=by rw[ji];cases u:hJ S with|none=>exact h|some t=>have hm:=(nP u).1;have w:=h.rg t hm;have C:=d t hm;dsimp only;split;exact h.Bw hm;exact h.iY t.id U
theorem RI{S:List cS}(h:ga S)(u:∀t∈S,1<=t.left):(ji S).length=S.length:=by rw[ji];cases d:hJ S with|none=>rfl|some t=>dsimp only;split;exact By h.bC (nP d).1;exact BF _ _ _
variable(en:Nat)
theorem Hk(S:List cS)(au:S.length<=1000000)(t:cS)(D:hJ S=some t):bz 277 [ae en,aa t.id] bg [eC en S] (.tuple #[]) [eC en (ih S t)]:=by
 apply aI Tryz.func277 Tryz.ntmps277;intro F _;apply J [1];refine ab.open 0 rfl (λW V=>?_);obtain⟨ad,cap,aH,A⟩:=W;have aQ:=V;apply J [57];dsimp only at aQ⊢;have d:=(nP D).1;have P:=aQ.rg t d;obtain⟨p,u⟩:=Wh P.2.1.1;have oX:p<8:=U
 obtain⟨rest,w⟩:=Tw D u;obtain⟨L,C,E⟩:=xG oX;obtain⟨M,bN⟩:=fE d;have N:=wt (A:=A) ⟨t,d,rfl⟩;have O:=Bz S p;rw[w,VB]at O;apply J [388];refine WE (fV 3 rfl C) ?_;apply J [33];refine aO (r1 en _ aH S.length (ja A S) t.id) rfl (d8 4 rfl (d8 4 rfl (ez _))) trivial ?_;intro _ _;apply J [15];rw[N];apply J [81,42,45,0];refine aO (CX (A t.id) t.whole t.left t.prio) rfl (d8 4 rfl (ez _)) trivial ?_;intro _ _;refine J [15,29,518,56,186,66,63,436,517,370,52,7] ?_;dsimp only[mG];rw[w,VB];refine ab.ns 3 rfl (λ_ H _=>?_);haveI:sr (ints (t.id::rest)) (cap p) 1 1:=⟨rest.length+1,by rw[d7];simp,by omega,H⟩;have Z:0<(ints (rest++(t.id::rest).drop rest.length)).length:=by grind[d7]
 apply J [247,112,62];refine q rfl rfl (ot 3 1 (1) rfl rfl rfl U U) ?_;refine e rfl ?_;refine LA rest.length rfl rfl rfl (by rw[List.length_drop,d7];simp) (Nat.min_eq_left (Nat.sub_le _ _)) (by rw[d7];exact Nat.succ_pos _) (row_one _ _ _) (RT t.id rest) ?_;refine J [3,112,62,253,245,2,516,19] ?_;refine eh (v:=.int _ _) (vs:=[_]) 1 rfl rfl rfl rfl rfl rfl an (by rw[d7];simp) ((wL (i:=rest.length) cE U _).trans (congrArg ints (RX t.id rest))) ?_;refine aW.nil ?_;exact qu (aA ⟨ad,cap,aH,A⟩ (aQ.Bw d) (b9 2 rfl (congrArg (aj en 261) (EF (RJ aQ.bC d u w))) (cX 0 2 p rfl rfl (by dsimp only[mG];rw[Hi aQ.bC u w,mp];rfl) (RZ E (λx Q=>Hj aQ.bC d u Q)) C.symm (b9 1 rfl (by rw[Ei (Bx d),By aQ.bC d]) (cX 0 0 ⟨t.id,t.prio,t.whole,t.whole⟩ rfl rfl rfl (λ_ _=>rfl) (QV aQ.bC bN _) (ao (a7 _)))))))
theorem RQ(S:List cS)(au:S.length<=1000000)(id:Int)(u:¬ev S id):bz 277 [ae en,aa id] bg [eC en S] (.tuple #[]) [eC en S]:=by apply aI Tryz.func277 Tryz.ntmps277;intro F _;apply J [1];refine ab.open 0 rfl (λC w=>?_);obtain⟨ad,cap,aH,A⟩:=C;have aQ:=w;apply J [57];dsimp only at aQ⊢;have d:=wr (A:=A) u;refine J [33,574] ?_;intro _ _;apply J [9];rw[d];apply J [81,103,3,14,50];exact JZ (aA ⟨ad,cap,aH,A⟩ aQ (ao (bX (ao (ao (ao (a7 _)))))))
theorem Rn(S:List cS)(au:S.length<=1000000)(D:∀t∈S,1<=t.left):bz 213 [ae en] bg [eC en S] (aa (fh (ji S))) [eC en (ji S)]:=by
 apply aI Tryz.func213 Tryz.ntmps213;intro F _;apply J [1,107,98];refine aO (q0 en S au) rfl (d8 0 rfl (ez _)) trivial ?_;intro _ _;apply J [5,31,7];refine ab.open 0 rfl (λN H=>?_);obtain⟨ad,cap,aH,A⟩:=N;have aQ:=H;apply J [57];dsimp only at aQ⊢;have E:=RI aQ D;cases u:hJ S with|none=>?_|some t=>?_
 have hv:ji S=S:=by grind[ji]
 have d:fh S=-1:=by grind[fh]
 have C:=wr (A:=A) (not_neg aQ);rw[d,hv];apply J [178];refine aO (r1 en _ aH S.length (ja A S) (-1)) rfl (d8 0 rfl (d8 1 rfl (ez _))) trivial ?_;intro _ _;apply J [9];rw[C];apply J [268,340,20];refine VD 12 rfl (c:=false) rfl ?_;apply J [46,71,141,38];refine aW.bf (B:=ag [eC en S,F]) (aA ⟨ad,cap,aH,A⟩ aQ (ao (bX (ao (ao (ao (a7 _))))))) ?_;refine e rfl ?_;refine aO (q0 en S au) rfl (d8 0 rfl (ez _)) trivial ?_;intro _ _;apply J [5];rw[d];apply J [30];exact hT;have w:=(nP u).1;have Q:=aQ.rg t w;have P:=D t w;have d:fh S=t.id:=by grind[fh]
 obtain⟨M,bN⟩:=fE w;have C:=wt (A:=A) ⟨t,w,rfl⟩;have NF:=aQ.iY t.id (v:=t.left-1) U;rw[d];apply J [388,178];refine aO (r1 en _ aH S.length (ja A S) t.id) rfl (d8 2 rfl (d8 3 rfl (ez _))) trivial ?_;intro _ _;apply J [12];rw[C];apply J [268,340,20];refine VD 12 rfl (c:=true) rfl ?_;apply J [138,366,144];refine aO (SX (A t.id) t.whole t.left t.prio U) rfl (d8 2 rfl (ez _)) trivial ?_;intro _ _;apply J [12,183];apply Ve rfl<;>intro O;refine J [577] ?_;have hv:ji S=ih S t:=by rw[ji,u];dsimp only;rw[az U]
 rw[hv]at E⊢;apply J [178];refine aO (Hk en (iY S t.id (t.left-1)) (by rw[BF];exact au) ⟨t.id,t.prio,t.whole,t.left-1⟩ (Sl u _)) rfl (d8 0 rfl (ez _)) trivial ?_;intro _ _;apply J [5];rw[RK];apply J [3,98];refine aO (q0 en (ih S t) U) rfl (d8 0 rfl (ez _)) trivial ?_;intro _ _;apply J [5,30];exact hT;refine J [577] ?_;have hv:ji S=(iY S t.id (t.left-1)):=by rw[ji,u];dsimp only;rw[al U]
 rw[hv]at E⊢;apply J [4,98];refine aO (q0 en (iY S t.id (t.left-1)) U) rfl (d8 0 rfl (ez _)) trivial ?_;intro _ _;apply J [5,30];exact hT
theorem UF(S:List cS)(au:S.length<=1000000)(aQ:ga S):bz 363 [ae en] bg [eC en S] (aa (fh (ku S))) [eC en (ku S)]:=by
 apply aI Tryz.func363 Tryz.ntmps363;intro F _;apply J [1,107,38,158,0];apply aq (q0 en S au);apply J [5];cases u:hJ S with|none=>?_|some t=>?_
 have hv:ku S=S:=by grind[ku]
 have d:fh S=-1:=by grind[fh]
 rw[hv,d];refine e rfl ?_;apply aq (RQ en S au (-1) (not_neg aQ));apply J [5,3,98];apply aq (q0 en S au);apply J [5];rw[d];apply J [30];exact hT;have hv:ku S=ih S t:=by grind[ku]
 have d:fh S=t.id:=by grind[fh]
 have w:=By aQ.bC (nP u).1;rw[hv,d];refine e rfl ?_;apply aq (Hk en S au t u);apply J [5,3,98];apply aq (q0 en (ih S t) U);apply J [5,30];exact hT
theorem zr(S:List cS)(au:S.length<=1000000)(a2:Option Addr)(c2:Nat)(xs:List Int)(aq:xs.length<=1000000):bz 360 [ae en,.slice a2 xs.length c2] (λF=>∃E,cQ F E a2 (ints xs)) [eC en S] (aa ((S.length:Int)-(gG S xs).length)) [eC en (gG S xs)]:=by
 apply aI Tryz.func360 Tryz.ntmps360;intro F ⟨E,O⟩;apply J [1];haveI:bn F a2 E (ints xs):=⟨O⟩;have a3:=d7 xs;apply J [107,39,34,177];refine VK (ι:=Nat×List cS) (λs=>s.1<=xs.length/\s.2=gG S (xs.take s.1)) (λs=>[(0,ae en),(5,aa ((S.length:Int)-(s.2.length:Int))),(9,.slice a2 xs.length c2),(10,aa xs.length),(11,aa ((s.1:Nat):Int))]) (λs=>ag [eC en s.2,F]) (λs=>xs.length-s.1) ⟨0,S⟩ ⟨Vh _,rfl⟩ ⟨rfl,congrArg (Wn .i64) (Int.sub_self _).symm,rfl,rfl,rfl,trivial⟩ (ao (ao (a7 _))) ?_;rintro⟨k,Z⟩ ⟨Q,w⟩ a4;dsimp only[cx]at Q w⊢;apply J [43];apply Ve rfl<;>intro aD;have V:k<xs.length:=U
 obtain⟨x,qN⟩:∃x,xs[k]? =some x:=⟨xs[k],Vb V⟩;have a0:0<(ints xs).length:=U
 have N:gG S (xs.take (k+1))=eM Z x:=by grind[Vs,Mc]
 have aw:Z.length<=S.length:=by grind[n6]
 refine J [189,519,0] ?_;refine gA (l:=[.int _ _]) rfl rfl ?_;intro be;apply J [208,29];refine WE (hp) ?_;apply J [11];refine ab.open 0 rfl (λav ar=>?_);obtain⟨ad,cap,aH,A⟩:=av;have aQ:=ar;apply J [152];dsimp only at aQ⊢;by_cases d:ev Z x;have u:=wt (A:=A) d;have aJ:=Gz aQ.bC d;obtain⟨t,C,rfl⟩:=d;have ah:=aQ.rg t C;obtain⟨p,aT⟩:=Wh ah.2.1.1;have oX:p<8:=U
 obtain⟨L,D,P⟩:=xG oX;obtain⟨M,bN⟩:=fE C;have a1:=Bz Z p;have H:∀x,x≠p->dD (eM Z t.id) x=dD Z x:=λx aq=>Hm aQ.bC C U;apply J [388];refine WE (fV 3 rfl D) ?_;apply J [37,53,0];refine aO (r1 en _ aH Z.length (ja A Z) t.id) rfl (d8 4 rfl (d8 4 rfl (ez _))) trivial ?_;intro _ _;apply J [54];rw[u];apply J [81,103,122];refine ab.draw _ [19] [0,1,2,3,4,5,6,7,8,9,10,11,12,13,14,16,17,-15,18,-19] aV aV (ao (cZ (a7 _))) ?_;refine J [56,186,56,186,66,63,436,517,578,66,63,13] ?_;refine aO (wk (ad p) (cap p) (dD Z p) 382 [ae be] (λy=>decide (y=t.id)) (λF=>Rd F be (.cells #[aa t.id] 3 (0,0))) (λy=>Ma be t.id y) U (λ_ h=>jn h) (λ_ _ h=>lG (jn h))) rfl (d8 2 rfl (ez _)) gb.rd ?_;intro _ _;refine J [292,6] ?_;rw[RU];refine J [436,67,576,52,7] ?_;refine cJ [0,1,2,3,4,-5] (ao (eI (a7 _))) ?_;apply J [357,520,69,69,259];refine lO 3 368 rfl (dP.int rfl) rfl rfl rfl ?_;refine J [113,346,48,84] ?_;exact⟨rfl,⟨k+1,eM Z t.id⟩,⟨by dsimp only;omega,N.symm⟩,cy,⟨rfl,congrArg (Wn .i64) cy,rfl,rfl,rfl,trivial⟩,(aA ⟨dK ad p (ad p),dK cap p (cap p),aH,A⟩ (aQ.off t.id) (b9 1 rfl (congrArg (aj en 261) (EG (n:=(dD (eM Z t.id) p).length) H rfl)) (cX 1 1 p rfl rfl (by dsimp only[mG];rw[jI,jI]) (Hv P H) D.symm (b9 0 rfl (by rw[Mu,u,show(eM Z t.id).length=Z.length-1 from by omega];rfl) (pI 1 rfl (λ_ _=>rfl) (Be aQ.bC bN).symm (bw (a7 _)))))))⟩;have u:=wr (A:=A) d;have W:=Qw d;apply J [37,53,0];refine aO (r1 en _ aH Z.length (ja A Z) x) rfl (d8 0 rfl (d8 1 rfl (ez _))) trivial ?_;intro _ _;apply J [12];rw[u];refine J [81,103,3,14,437,343] ?_;exact⟨rfl,⟨k+1,Z⟩,⟨by dsimp only;omega,by dsimp only;rw[N,W]⟩,cy,bH,(aA ⟨ad,cap,aH,A⟩ aQ (ao (bX (ao (ao (bX (a7 _)))))))⟩;obtain rfl:k=xs.length:=U
 rw[VY]at w;subst w;apply J [21,134];exact hT
end Go.Proofs.Q.Rd
namespace Go.Proofs.Q.iD
open Go Go.QM
structure c0 where
  at_:Int
  ct:Int
  id:Int
def mV(e:c0):List Value:=ints [e.at_,e.ct,e.id]
theorem lQ(e:c0):(mV e).length=3:=rfl
def hX(H:List c0):List Value:=H.flatMap mV
theorem pJ(H:List c0):(hX H).length=H.length*3:=kF lQ H
def hz(a b:c0):Prop:=a.at_<b.at_\/a.at_=b.at_/\a.ct<b.ct
instance (a b:c0):Decidable (hz a b):=inferInstanceAs (Decidable (a.at_<b.at_\/a.at_=b.at_/\a.ct<b.ct))
def cA(L:List c0)(k:Nat):c0:=L.getD k ⟨0,0,0⟩
variable{L:List c0}{k:Nat}
theorem m1(h:k<L.length):L[k]? =some (cA L k):=by simp[cA,h]
theorem zQ{e:c0}(h:L[k]? =some e):cA L k=e:=by simp[cA,Wc,h]
theorem zP(h:k<L.length):cA L k∈L:=List.mem_of_getElem? (m1 h)
variable{i:Nat}
theorem oT(h:i<L.length)(e:c0)(k:Nat):cA (L.set i e) k=if k=i then e else cA L k:=by simp only[cA,Wc,List.getElem?_set];grind
theorem HC(h:i<L.length):L.set i (cA L i)=L:=by grind[cA,List.set_getElem_self]
def k3(L:List c0)(k:Nat):Prop:=¬hz (cA L k) (cA L ((k-1)/2))
def lD(L:List c0):Prop:=∀k,0<k->k<L.length->k3 L k
structure qj(L:List c0)(i:Nat):Prop where
  a:∀k,0<k->k<L.length->k≠i->(k-1)/2≠i->k3 L k
  b:∀k,0<k->k<L.length->(k-1)/2=i->0<i->¬hz (cA L k) (cA L ((i-1)/2))
structure nS(L:List c0)(i:Nat):Prop where
  a:∀k,0<k->k<L.length->k≠i->k3 L k
  b:∀k,0<k->k<L.length->(k-1)/2=i->0<i->¬hz (cA L k) (cA L ((i-1)/2))
def swp(L:List c0)(i k:Nat):List c0:=(L.set i (cA L k)).set k (cA L i)
theorem q6(L:List c0)(i k:Nat):(swp L i k).length=L.length:=by simp[swp]
theorem BR(d:i<L.length)(u:k<L.length):(swp L i k).Perm L:=by grind[cA,swp,List.set_set_perm]
theorem qI(d:i<L.length)(u:k<L.length)(j:Nat):cA (swp L i k) j=if j=k then cA L i else if j=i then cA L k else cA L j:=by grind[swp,oT]
theorem qj.step(h:qj L i)(E:i<L.length)(N:0<k)(D:k<L.length)(H:(k-1)/2=i)(W:hz (cA L k) (cA L i))
 (O:∀s,0<s->s<L.length->(s-1)/2=i->¬hz (cA L s) (cA L k)):qj (swp L i k) k where
 a:=λj w d P V=>by rw[q6]at d;have C:=qI E D;simp only[k3,C];rw[al P,al V];by_cases e:j=i;rw[az e,al U];have:=h.b k N D H U;rw[e];exact this;rw[al e];by_cases u:(j-1)/2=i;rw[az u];exact O j w d u;rw[al u];exact h.a j w d e u
 b:=λj w d Q _=>by rw[q6]at d;have C:=qI E D;simp only[C];rw[al U,al U,al U,az H];have:=h.a j w d U U;rw[k3,Q]at this;exact this
theorem qj.exit(h:qj L i)(w:∀s,0<s->s<L.length->(s-1)/2=i->¬hz (cA L s) (cA L i)):nS L i where
 a:=λk d u C=>by by_cases e:(k-1)/2=i;rw[k3,e];exact w k d u e;exact h.a k d u C e
 b:=h.b
theorem nS.step(h:nS L i)(N:i<L.length)(P:0<i)(O:hz (cA L i) (cA L ((i-1)/2))):nS (swp L i ((i-1)/2)) ((i-1)/2) where
 a:=λj u d Q=>by
  rw[q6]at d;have w:(i-1)/2<L.length:=U
  have E:=qI N w;simp only[k3,E];rw[al Q];by_cases e:j=i;subst e;rw[az rfl,az rfl];simp only[hz]at O⊢;omega;rw[al e];by_cases C:(j-1)/2=(i-1)/2;rw[az C];have:=h.a j u d e;rw[k3,C]at this;simp only[hz]at this O⊢;omega;rw[al C];by_cases D:(j-1)/2=i;rw[az D];exact h.b j u d D P;rw[al D];exact h.a j u d e
 b:=λj u d V fX=>by
  rw[q6]at d;have w:(i-1)/2<L.length:=U
  have E:=qI N w;simp only[E];have H:=h.a ((i-1)/2) fX w U;rw[k3]at H;rw[al U,al (by omega:((i-1)/2-1)/2≠(i-1)/2),al (by omega:((i-1)/2-1)/2≠i)];by_cases e:j=i;rw[az e];exact H;rw[al e];have:=h.a j u d e;rw[k3,V]at this;simp only[hz]at this H⊢;omega
theorem nS.exit(h:nS L i)(he:i=0\/¬hz (cA L i) (cA L ((i-1)/2))):lD L:=λk d u=>by
 by_cases e:k=i
 ·subst e
  rcases he with he|he
  ·omega
  exact he
 exact h.a k d u e
theorem lD.hole(h:lD L)(i:Nat):nS L i where
 a:=λk d u _=>h k d u
 b:=λk d u E D=>by have w:=h k d u;have C:=h i D U;rw[k3,E]at w;rw[k3]at C;simp only[hz]at w C⊢;omega
theorem lD.min(h:lD L):∀k,k<L.length->¬hz (cA L k) (cA L 0):=by intro k;induction k using Nat.strongRecOn with|_ k D=>intro C;by_cases u:k=0;subst u;simp only[hz];omega;have d:=h k U C;have w:=D ((k-1)/2) U U;rw[k3]at d;simp only[hz]at d w⊢;omega
structure nX(f:Int->Option Value)(L:List c0)(i:Nat):Prop where
  a:∀j,j<L.length->j≠i->f (cA L j).id=some (.int .i64 j)
  b:∀x,(∀j,j<L.length->(cA L j).id≠x)->f x=none
structure j0(f:Int->Option Value)(L:List c0):Prop where
  a:∀j,j<L.length->f (cA L j).id=some (.int .i64 j)
  b:∀x,(∀j,j<L.length->(cA L j).id≠x)->f x=none
def gP(L:List c0):Prop:=(L.map (·.id)).Nodup
theorem gP.perm{M:List c0}(h:gP L)(p:M.Perm L):gP M:=(p.map _).nodup_iff.2 h
theorem gP.inj(h:gP L){j:Nat}(C:j<L.length)(D:k<L.length)(e:(cA L j).id=(cA L k).id):j=k:=by
 have d:(L.map (·.id))[j]? =some (cA L j).id:=by grind[m1]
 have u:(L.map (·.id))[k]? =some (cA L k).id:=by grind[m1]
 rw[e]at d;obtain⟨w,be⟩:=Vl.1 d;obtain⟨a2,bA⟩:=Vl.1 u;have E:=List.pairwise_iff_getElem.1 h;grind
theorem nX.step{f:Int->Option Value}(h:nX f L i)(au:gP L)(u:i<L.length)(d:k<L.length)(N:k≠i):nX (fo f (cA L k).id (aa i)) (swp L i k) k where
 a:=λj w H=>by
  rw[q6]at w
  rw[qI u d,al H]
  by_cases e:j=i
  ·subst e;rw[az rfl,fo,az rfl]
  rw[al e,fo,al (λC=>H (au.inj w d C))];exact h.a j w e
 b :=λx D=>by
  have E:(cA L k).id≠x:=by
   have:=D i (by rw[q6];exact u)
   rwa[qI u d,al (Xu N),az rfl]at this
  rw[fo,al (Xu E)]
  refine h.b x λj w=>?_
  by_cases e:j=k
  ·rw[e];exact E
  by_cases C:j=i
  ·have:=D k (by rw[q6];exact d)
   rw[qI u d,az rfl]at this
   rw[C];exact this
  have:=D j (by rw[q6];exact w)
  rwa[qI u d,al e,al C]at this
theorem nX.done{f:Int->Option Value}(h:nX f L i)(au:gP L)(d:i<L.length):j0 (fo f (cA L i).id (aa i)) L where
 a:=λj u=>by by_cases e:j=i;subst e;rw[fo,az rfl];rw[fo,al (λC=>e (au.inj u d C))];exact h.a j u e
 b:=λx w=>by rw[fo,al (Xu (w i d))];exact h.b x w
theorem j0.Dl{f:Int->Option Value}(h:j0 f L)(i:Nat):nX f L i:=⟨λj d _=>h.a j d,h.b⟩
theorem j0.none{f:Int->Option Value}{L:List c0}(h:j0 f L){x:Int}(u:∀e∈L,e.id≠x):f x=none:=h.b x λ_ d=>u _ (zP d)
theorem j0.some{f:Int->Option Value}{L:List c0}(h:j0 f L){e:c0}(he:e∈L):∃j,j<L.length/\cA L j=e/\f e.id=some (aa j):=by obtain⟨j,u⟩:=V9 he;have w:=(Vl.1 u).1;have d:=zQ u;exact⟨j,w,d,by rw[<-d];exact h.a j w⟩
theorem EL{A:List c0}(e:c0)(d:i<A.length)(w:k<A.length)(u:k≠i):(A.set i (cA A k)).set k e=swp (A.set i e) i k:=by rw[swp,oT d,al u,oT d,az rfl,List.set_set]
theorem yL(a b:c0):bz 364 [.agg (ints [a.at_,a.ct]).toArray,.agg (ints [b.at_,b.ct]).toArray] bg [] (.bool (decide (hz a b))) []:=by apply aI Tryz.func364 Tryz.ntmps364;intro F _;refine J [187,579] ?_;intro be;refine J [0,579] ?_;intro bA;apply J [36,99,79,355];refine aW.split 10 rfl (λd=>?_) (λd=>?_);have d:=dp d;apply J [46,102,160,160,160,160,160,362,133];exact ca.i () [_] ⟨rfl,trivial⟩ (congrArg Wu (c1 (.inl d)).symm) trivial (bw (a7 _));have d:=eb d;apply J [184,184,155,319];refine aW.split 16 rfl (λu=>?_) (λu=>?_);have u:=dp u;apply J [237,237,409,371,94];exact ca.i () [_] ⟨rfl,trivial⟩ (congrArg Wu (by rw[decide_eq_decide];simp only[hz];omega)) trivial (bw (a7 _));have u:=eb u;apply J [105,389,94];exact ca.i () [_] ⟨rfl,trivial⟩ (congrArg Wu (db (by simp only[hz];omega)).symm) trivial (bw (a7 _))
theorem oi(b:Nat)(now w:Int)(H:List c0)(ad:Option Addr)(n cap u m:Nat)(f:Int->Option Value)(i:Nat)(au:H.length=n)(E:i<n)(D:n<=1000000)(d:c0):bz 326 [ae b,aa i,.agg (mV d).toArray] bg [aj b 367 [aa now,aa w,.slice ad n cap,.map (some u)],a6 405 3 ad n cap (hX H),bP QM.encI u f m] (.tuple #[]) [aj b 367 [aa now,aa w,.slice ad n cap,.map (some u)],a6 405 3 ad n cap (hX (H.set i d)),bP QM.encI u (fo f d.id (aa i)) (if(f d.id).isSome then m else m+1)]:=by
 apply aI Tryz.func326 Tryz.ntmps326;intro F _;apply J [61];have C:=m1 (show i<H.length by omega);have N:0<(hX H).length:=by grind[pJ]
 refine J [25,580] ?_;intro cj;apply J [29];refine ab.draw _ [7] [0,1,2,3,4,5,6,-7] aV aV (VJ _) ?_;apply J [186,16,581];refine bZ rfl rfl rfl (hH 405 3 rfl rfl rfl U eB) ?_;apply J [67];refine eh (v:=.agg (List.toArray (ints [_,_,_]))) (vs:=ints [_,_,_]) 3 rfl rfl rfl rfl rfl rfl an (by rw[kF lQ];omega) (sL (a':=d) lQ C 0 U (Vq rfl) rfl) ?_;refine cd.nil (iL ?_);refine cJ [0,1,2,3,4,5,6,-7] (ao (ao (ao (a7 _)))) ?_;apply J [279,131,16,259];refine lY 3 3 rfl (dP.int rfl) rfl rfl rfl ?_;refine⟨ai,?_⟩;refine cd.nil ?_;exact qu (cZ (bX (ao (bX (a7 _)))))
theorem IF(b:Nat)(now D:Int)(H:List c0)(ad:Option Addr)(n cap u m:Nat)(f:Int->Option Value)(i:Nat)(au:H.length=n)(a5:i<n)(W:n<=1000000)(a3:nS H i)(ax:nX f H i)(bB:gP H):bK 328 [ae b,aa i] bg [aj b 367 [aa now,aa D,.slice ad n cap,.map (some u)],a6 405 3 ad n cap (hX H),bP QM.encI u f m] (λ_:List c0×(Int->Option Value)×Nat=>.tuple #[]) (λy=>lD y.1/\j0 y.2.1 y.1/\y.1.Perm H) (λy=>[aj b 367 [aa now,aa D,.slice ad n cap,.map (some u)],a6 405 3 ad n cap (hX y.1),bP QM.encI u y.2.1 y.2.2]):=by
 apply aI Tryz.func328 Tryz.ntmps328;intro F _;apply J [61];have a4:=m1 (show i<H.length by omega);have bd:0<(hX H).length:=by rw[pJ];omega
 refine J [101,2,438] ?_;refine q rfl rfl (gM (vs:=ints [_,_,_]) 3 rfl rfl (nt lQ a4) rfl an) ?_;refine J [0,372] ?_;intro aD;apply J [19,303,29,51];obtain⟨d,he⟩:=eH (cA H i);rw[he];refine VK (ι:=Nat×List c0×(Int->Option Value)×Nat) (λs=>s.1<n/\s.2.1.length=n/\nS (s.2.1.set s.1 d) s.1/\nX s.2.2.1 (s.2.1.set s.1 d) s.1/\(s.2.1.set s.1 d).Perm H) (λs=>[(0,ae b),(1,aa ((s.1:Nat):Int)),(4,ae aD)]) (λs=>ag [aj aD 405 (mV d),aj b 367 [aa now,aa D,.slice ad n cap,.map (some u)],a6 405 3 ad n cap (hX s.2.1),bP QM.encI u s.2.2.1 s.2.2.2,F]) (λs=>s.1) ⟨i,H,f,m⟩ (by dsimp only;rw[<-he,HC U];exact⟨a5,au,a3,ax,Xz _⟩) bH (ao (ao (ao (ao (ao (a7 _)))))) ?_;rintro⟨k,A,g,aw⟩ ⟨a9,aE,P,Q,w⟩ bh;dsimp only[cx]at a9 aE P Q w⊢;have O:k<A.length:=U
 have bb:0<(hX A).length:=by rw[pJ];omega
 have j6:(A.set k d).length=n:=by rw[V3];exact aE
 apply J [7,7];refine cJ [0,1,2,3,4,5,6,7,8,9,10,11,12,13,14,-15,16] (ao (ao (ao (ao (a7 _))))) ?_;apply J [16,439,153];refine cd.split 14 rfl (λN=>?_) (λN=>?_);have N:=dp N;have ba:0<k:=U
 obtain⟨pp,ah⟩:∃pp:Nat,((k:Int)-1)/2=pp:=⟨(k-1)/2,by omega⟩;have ar:pp=(k-1)/2:=U
 have a1:=m1 (show pp<A.length by omega);have Z:cA (A.set k d) pp=cA A pp:=by rw[oT O,al U]
 have C:cA (A.set k d) k=d:=by rw[oT O,az rfl]
 apply J [373,582,304,305,374,163,306];refine eV rfl rfl rfl rfl (pa rfl rfl U U) ?_;refine eV rfl rfl rfl rfl (ln rfl rfl U U U) ?_;rw[ah];refine eV rfl rfl rfl rfl (hH 405 3 rfl rfl rfl U eB) ?_;refine J [390] ?_;refine eV rfl rfl rfl rfl (gM (vs:=ints [_,_]) 2 rfl rfl (k9 lQ a1 0 2 U U rfl) rfl an) ?_;apply J [242];apply aq (yL d (cA A pp));refine J [284,329,52] ?_;apply Ve rfl<;>intro a2;refine J [4,51,35,175,75,2,245] ?_;refine q rfl rfl (ln rfl rfl U U U) ?_;rw[ah];refine J [438] ?_;refine q rfl rfl (gM (vs:=ints [_,_,_]) 3 rfl rfl (nt lQ a1) rfl an) ?_;refine e rfl ?_;apply aq (oi b now D A ad n cap u aw g k aE U W (cA A pp));refine J [9,3,217,245] ?_;refine q rfl rfl (ln rfl rfl U U U) ?_;rw[ah];apply J [48,150];have av:=EL d O (show pp<A.length by omega) U;have aT:=P.step U ba (by rw[<-ar,Z,C];exact a2);have a0:=Q.step (bB.perm w) U (show pp<(A.set k d).length by omega) U;rw[<-ar,<-av]at aT;rw[Z,<-av]at a0;have aJ:=(BR (L:=A.set k d) (i:=k) (k:=pp) U U).trans w;rw[<-av]at aJ;exact⟨rfl,⟨pp,A.set k (cA A pp),_,_⟩,⟨by dsimp only;omega,by dsimp only;rw[V3];exact aE,aT,a0,aJ⟩,cy,bH,(cZ (ao (ao (ao (ao (a7 _))))))⟩;have V:=P.exit (.inr (by rw[C,<-ar,Z];exact a2));apply J [21,37,2,330,0];apply aq (oi b now D A ad n cap u aw g k aE U W d);apply J [9,327];have E:=Q.done (bB.perm w) U;have C:cA (A.set k d) k=d:=by rw[oT O,az rfl]
 rw[C]at E;exact mR ⟨A.set k d,_,_⟩ ⟨V,E,w⟩ (ao (ao (ao (bX (a7 _)))));have N:=eb N;have V:=P.exit (.inl U);refine J [219,219,219,375,243,52,49,21,37,2,330,0] ?_;apply aq (oi b now D A ad n cap u aw g k aE U W d);apply J [9,327];have E:=Q.done (bB.perm w) U;have C:cA (A.set k d) k=d:=by rw[oT O,az rfl]
 rw[C]at E;exact mR ⟨A.set k d,_,_⟩ ⟨V,E,w⟩ (ao (ao (ao (bX (a7 _)))))
theorem L9(b:Nat)(now D:Int)(H:List c0)(ad:Option Addr)(n cap u m:Nat)(f:Int->Option Value)(i:Nat)(au:H.length=n)(bo:i<n)(aw:n<=1000000)(aN:qj H i)(ax:nX f H i)(bB:gP H):bK 327 [ae b,aa i] bg [aj b 367 [aa now,aa D,.slice ad n cap,.map (some u)],a6 405 3 ad n cap (hX H),bP QM.encI u f m] (λ_:List c0×(Int->Option Value)×Nat=>.tuple #[]) (λy=>j0 y.2.1 y.1/\y.1.Perm H/\∃j,j<n/\nS y.1 j/\cA y.1 j=cA H i) (λy=>[aj b 367 [aa now,aa D,.slice ad n cap,.map (some u)],a6 405 3 ad n cap (hX y.1),bP QM.encI u y.2.1 y.2.2]):=by
 apply aI Tryz.func327 Tryz.ntmps327;intro F _;apply J [61];have bk:=m1 (show i<H.length by omega);have bL:0<(hX H).length:=by grind[pJ]
 refine J [101,2,438] ?_;refine q rfl rfl (gM (vs:=ints [_,_,_]) 3 rfl rfl (nt lQ bk) rfl an) ?_;refine J [0,372] ?_;intro V;apply J [19,303,29,51];obtain⟨d,he⟩:=eH (cA H i);rw[he];refine VK (ι:=Nat×List c0×(Int->Option Value)×Nat) (λs=>s.1<n/\s.2.1.length=n/\qj (s.2.1.set s.1 d) s.1/\nX s.2.2.1 (s.2.1.set s.1 d) s.1/\(s.2.1.set s.1 d).Perm H) (λs=>[(0,ae b),(1,aa ((s.1:Nat):Int)),(4,ae V)]) (λs=>ag [aj V 405 (mV d),aj b 367 [aa now,aa D,.slice ad n cap,.map (some u)],a6 405 3 ad n cap (hX s.2.1),bP QM.encI u s.2.2.1 s.2.2.2,F]) (λs=>n-s.1) ⟨i,H,f,m⟩ (by dsimp only;rw[<-he,HC U];exact⟨bo,au,aN,ax,Xz _⟩) bH (ao (ao (ao (ao (ao (a7 _)))))) ?_;rintro⟨k,A,g,ar⟩ ⟨aD,aE,W,Z,w⟩ bM;dsimp only[cx]at aD aE W Z w⊢;have aT:k<A.length:=U
 have bF:0<(hX A).length:=by grind[pJ]
 have j6:(A.set k d).length=n:=b6
 have E:∀j,j≠k->cA (A.set k d) j=cA A j:=λj br=>by rw[oT aT,al br]
 have C:cA (A.set k d) k=d:=by rw[oT aT,az rfl]
 refine J [51,26,464,149,28] ?_;refine ab.cut (ι:=Nat) (λc=>(c=2*k+1\/c=2*k+2/\c<n)/\∀s,s<n->(s=2*k+1\/s=2*k+2)->¬hz (cA A s) (cA A c)) (λc=>[(0,ae b),(1,aa k),(4,ae V),(5,aa ((c:Nat):Int))]) (λc=>ag [aj V 405 (mV d),aj b 367 [aa now,aa D,.slice ad n cap,.map (some u)],a6 405 3 ad n cap (hX A),bP QM.encI u g ar,F]) ?_ ?_;refine ab.seq ?_;refine cJ [0,1,2,3,4,5,6,7,8,9,10,11,12,13,14,15,16,17,18,19,20,21,22,23,24,25,-26,27] (ao (ao (ao (ao (a7 _))))) ?_;refine J [16,391,186,465] ?_;refine bZ rfl rfl rfl (lss rfl rfl) ?_;apply J [153];refine cd.split 24 rfl (λP=>?_) (λP=>?_);have P:=dp P;have bn:=m1 (show 2*k+2<A.length by omega);have bl:=m1 (show 2*k+1<A.length by omega);apply J [304,305,374,163,306];refine eV rfl rfl rfl rfl (ir rfl rfl U U) ?_;refine J [521,390] ?_;refine eV rfl rfl rfl rfl (gM (vs:=ints [_,_]) 2 rfl rfl (k9 lQ bn 0 2 U U rfl) rfl an) ?_;refine J [304,305,374,163,306,521,390] ?_;refine eV rfl rfl rfl rfl (gM (vs:=ints [_,_]) 2 rfl rfl (k9 lQ bl 0 2 U U rfl) rfl an) ?_;apply J [242];apply aq (yL (cA A (2*k+2)) (cA A (2*k+1)));refine J [284,329,52] ?_;apply Ve rfl<;>intro bb;refine J [179] ?_;exact⟨rfl,(2*k+2),⟨.inr ⟨rfl,by omega⟩,λs Q ah=>by rcases ah with rfl|rfl<;>simp only[hz]at bb⊢<;>omega⟩,⟨rfl,rfl,rfl,congrArg (Wn .i64) U,trivial⟩,(ao (ao (ao (ao (ao (a7 _))))))⟩;apply J [4];exact⟨rfl,(2*k+1),⟨.inl rfl,λs Q ah=>by rcases ah with rfl|rfl;simp only[hz];omega;exact bb⟩,⟨rfl,rfl,rfl,congrArg (Wn .i64) U,trivial⟩,(ao (ao (ao (ao (ao (a7 _))))))⟩;have P:=eb P;refine J [219,219,219,219,386,375,243,52,192] ?_;exact⟨rfl,(2*k+1),⟨.inl rfl,λs Q ah=>by obtain rfl:s=2*k+1:=U;simp only[hz];omega⟩,⟨rfl,rfl,rfl,congrArg (Wn .i64) U,trivial⟩,(ao (ao (ao (ao (ao (a7 _))))))⟩;rintro c ⟨bi,a9⟩ bV;dsimp only[cx]at bi a9⊢;apply J [7,7];refine cJ [0,1,2,3,4,5,6,7,8,9,10,11,12,13,14,15,16,17,-18,19,20] (ao (ao (ao (ao (a7 _))))) ?_;apply J [16,186,465];refine bZ rfl rfl rfl (geq rfl rfl) ?_;apply J [153];refine cd.split 53 rfl (λO=>?_) (λO=>?_);have O:=dp O;have a0:∀s,s<n->(s=2*k+1\/s=2*k+2)->¬hz (cA A s) d:=U
 refine J [219,219,356,375,386,329,52,14] ?_;have av:=W.exit (λs a2 Q bh=>by rw[C,E s U];exact a0 s U U);refine ab.exit (mZ (aJ rfl (mZ (rC (iL ?_)))));apply J [37,2,330,0];apply aq (oi b now D A ad n cap u ar g k aE U aw d);apply J [9,327];have N:=Z.done (bB.perm w) U;rw[C]at N;exact mR ⟨A.set k d,_,_⟩ ⟨N,w,k,aD,av,C⟩ (ao (ao (ao (bX (a7 _)))));have O:=eb O;have bz:c<n:=U
 have ba:=m1 (show c<A.length by omega);apply J [304,305,374,163,306];refine eV rfl rfl rfl rfl (hH 405 3 rfl rfl rfl U eB) ?_;refine J [390] ?_;refine eV rfl rfl rfl rfl (gM (vs:=ints [_,_]) 2 rfl rfl (k9 lQ ba 0 2 U U rfl) rfl an) ?_;apply J [373,582,242];apply aq (yL (cA A c) d);refine J [284] ?_;refine eV rfl rfl rfl rfl (A5 rfl) ?_;apply J [243,52];apply Ve rfl<;>intro bd;have a0:∀s,s<n->(s=2*k+1\/s=2*k+2)->¬hz (cA A s) d:=by grind[hz]
 have av:=W.exit (λs a2 Q bh=>by rw[C,E s U];exact a0 s U U);refine ab.exit (mZ (aJ rfl (mZ (rC (iL ?_)))));apply J [37,2,330,0];apply aq (oi b now D A ad n cap u ar g k aE U aw d);apply J [9,327];have N:=Z.done (bB.perm w) U;rw[C]at N;exact mR ⟨A.set k d,_,_⟩ ⟨N,w,k,aD,av,C⟩ (ao (ao (ao (bX (a7 _)))));have bd:hz (cA A c) d:=b6
 refine J [4,35,175,75,2,438] ?_;refine q rfl rfl (gM (vs:=ints [_,_,_]) 3 rfl rfl (nt lQ ba) rfl an) ?_;refine e rfl ?_;apply aq (oi b now D A ad n cap u ar g k aE U aw (cA A c));apply J [9,3,217,48,150];have a1:=EL d aT (show c<A.length by omega) U;have a3:=W.step (k:=c) U U U U (by rw[C,E c U];exact bd) (λs a2 Q bh=>by rw[E c U,E s U];exact a9 s U U);have a5:=Z.step (bB.perm w) U (show c<(A.set k d).length by omega) U;rw[<-a1]at a3;rw[E c U,<-a1]at a5;have a4:=(BR (L:=A.set k d) (i:=k) (k:=c) U U).trans w;rw[<-a1]at a4;exact⟨rfl,⟨c,A.set k (cA A c),_,_⟩,⟨by dsimp only;omega,by dsimp only;rw[V3];exact aE,a3,a5,a4⟩,cy,bH,(cZ (ao (ao (ao (ao (a7 _))))))⟩
end Go.Proofs.Q.iD
namespace Go.Proofs.Q.iD
open Go Go.QM
theorem D0(H:List c0)(k:Nat):(hX H).take (k*3)=hX (H.take k):=wz lQ H k
variable{H:List c0}{n:Nat}
theorem Ev{j:Nat}(h:j<n):cA (H.take n) j=cA H j:=by simp[cA,Wc,List.getElem?_take,h]
theorem HQ(au:H.length=n+1):H.take n++[cA H n]=H:=by grind[cA,List.take_append_getElem]
def jr(H:List c0)(n i:Nat):List c0:=if i<n then(H.take n).set i (cA H n)else H.take n
theorem pH(au:H.length=n+1)(i:Nat):(jr H n i).length=n:=by grind[jr]
theorem nn{i:Nat}(au:H.length=n+1){j:Nat}(d:j<n):cA (jr H n i) j=if j=i then cA H n else cA H j:=by unfold jr;split;grind[oT,Ev];rename_i h;rw[al U];exact Ev d
theorem LN{i:Nat}(au:H.length=n+1)(u:i<=n):(cA H i::jr H n i).Perm H:=by
 by_cases h:i<n;have d:swp H i n=jr H n i++[cA H i]:=(by rw[jr,az h,swp];grind[HQ,cA]);refine List.Perm.trans ?_ (d▸BR U U);exact(Wk _ _).symm;obtain rfl:i=n:=U
 rw[jr,al h];have:=HQ au;refine List.Perm.trans ?_ (List.Perm.of_eq this);exact(Wk _ _).symm
theorem LP{i:Nat}(au:H.length=n+1)(h:lD H):qj (jr H n i) i where
 a:=λk u d D w=>by rw[pH au]at d;rw[k3,nn au d,nn au U,al D,al w];exact h k u U
 b:=λk u d w C=>by rw[pH au]at d;rw[nn au d,nn au U,al U,al U];exact(h.hole i).b k u U w C
theorem LO(au:H.length=n+1)(h:lD H):lD (jr H n n):=λk u d=>by
 rw[pH au]at d
 rw[k3,nn au d,nn au U,al U,al U]
 exact h k u U
theorem LQ{f:Int->Option Value}{i:Nat}(au:H.length=n+1)(ax:j0 f H)(bB:gP H)(C:i<n):j0 (fo (gd f (cA H i).id) (cA H n).id (aa i)) (jr H n i) where
 a:=λj u=>by
  rw[pH au]at u
  rw[nn au u]
  by_cases e:j=i
  ·subst e;rw[az rfl,fo,az rfl]
  rw[al e,fo,al (λd=>by have:=bB.inj U U d;omega),gd,al (λd=>e (bB.inj U U d))]
  exact ax.a j U
 b :=λx D=>by
  have w:(cA H n).id≠x:=by
   have:=D i (by rw[pH au];exact C)
   rwa[nn au C,az rfl]at this
  rw[fo,al (Xu w),gd]
  split
  ·rfl
  rename_i E
  refine ax.b x λj u=>?_
  by_cases e:j=i
  ·subst e;exact λe=>E e.symm
  by_cases d:j=n
  ·rw[d];exact w
  have:=D j (by rw[pH au];omega)
  rwa[nn au U,al e]at this
theorem LR{f:Int->Option Value}(au:H.length=n+1)(ax:j0 f H)(bB:gP H):j0 (gd f (cA H n).id) (jr H n n) where
 a:=λj u=>by rw[pH au]at u;rw[nn au u,al U,gd,al (λd=>by have:=bB.inj U U d;omega)];exact ax.a j U
 b:=λx C=>by rw[gd];split;rfl;rename_i w;refine ax.b x λj u=>?_;by_cases d:j=n;rw[d];exact λe=>w e.symm;have:=C j (by rw[pH au];omega);rwa[nn au U,al d]at this
theorem DL(b:Nat)(now u:Int)(H:List c0)(ad:Option Addr)(n cap d m:Nat)(f:Int->Option Value)(i:Nat)(au:H.length=n+1)(a1:i<=n)(a5:n<=900000)(W:lD H)(ax:j0 f H)(bB:gP H):bK 278 [ae b,aa i] bg [aj b 367 [aa now,aa u,.slice ad (n+1) cap,.map (some d)],a6 405 3 ad (n+1) cap (hX H),bP QM.encI d f m] (λ_:List c0×(Int->Option Value)×Nat=>.agg (mV (cA H i)).toArray) (λy=>y.1.length=n/\lD y.1/\j0 y.2.1 y.1/\(cA H i::y.1).Perm H) (λy=>[aj b 367 [aa now,aa u,.slice ad n cap,.map (some d)],a6 405 3 ad n cap (hX y.1),bP QM.encI d y.2.1 y.2.2]):=by
 apply aI Tryz.func278 Tryz.ntmps278;intro F _;apply J [61];refine ab.ns 1 rfl (λ_ ba _=>?_);have aT:=m1 (show i<H.length by omega);have a0:=m1 (show n<H.length by omega);have bd:0<(hX H).length:=U
 have D:=pH au i;have E:=LN au a1;have a9:gP (cA H i::jr H n i):=bB.perm E;have Z:gP (jr H n i):=by grind[gP]
 refine J [25,372] ?_;intro be;apply J [29];refine cJ [0,1,2,3,4,5,6,7,8,9,10,11,12,-13,-14,15] (ao (ao (ao (ao (a7 _))))) ?_;apply J [186,16];refine bZ rfl rfl rfl (hH 405 3 rfl rfl rfl U eB) ?_;refine bZ rfl rfl rfl (gM (vs:=ints [_,_,_]) 3 rfl rfl (nt lQ aT) rfl an) ?_;refine J [186,465,440] ?_;rw[show(((n+1:Nat):Int)-1)=(n:Int)from by omega];refine J [13,372] ?_;intro bA;refine J [6,259,303,143,7] ?_;refine cJ [0,1,2,3,4,5,-6] (ao (ao (ao (a7 _)))) ?_;apply J [279,131,259];refine lO 3 3 rfl (dP.int rfl) rfl rfl rfl ?_;refine J [113,101,2,438] ?_;refine q rfl rfl (gM (vs:=ints [_,_,_]) 3 rfl rfl (nt lQ a0) rfl an) ?_;refine J [0,372] ?_;intro cj;apply J [19,303,3,38,175,75,2];refine q rfl rfl (nM 405 3 (n) rfl rfl rfl U U) ?_;apply J [55,290,270,29,199,137];apply Ve rfl<;>intro bb;have w:i<n:=U
 have N:(H.take n).set i (cA H n)=jr H n i:=by rw[jr,az w]
 have a2:(H.take n).length=n:=b6
 refine WE (B:=ag [aj b 367 [aa now,aa u,.slice ad n cap,.map (some d)],a6 405 3 ad n cap (hX (H.take n)),bP QM.encI d (gd f (cA H i).id) _,aj cj 405 (mV (cA H n)),aj bA 405 (mV (cA H i)),aj be 405 (ints [0,0,0]),F]) (ao (eO 4 rfl (by rw[<-D0];exact p6 U) (bX (ao (ao (ao (ao (a7 _)))))))) ?_;apply J [35,330,0];refine aO (oi b now u (H.take n) ad n cap d _ _ i a2 w U (cA H n)) rfl (d8 0 rfl (d8 0 rfl (d8 0 rfl (ez _)))) trivial ?_;intro _ _;apply J [15];rw[N];apply J [3,33];refine aO (L9 b now u (jr H n i) ad n cap d _ _ i D w U (LP au W) ((LQ au ax bB w).Dl i) Z) rfl (d8 0 rfl (d8 0 rfl (d8 0 rfl (ez _)))) trivial ?_;intro⟨V,f3,a3⟩ ⟨Q,C,j,aq,av,O⟩;apply J [15];dsimp only at Q C aq av O⊢;rw[nn au w,az rfl]at O;have ar:V.length=n:=by rw[C.length_eq,D]
 have aJ:f3 (cA H n).id=some (aa j):=by rw[<-O];exact Q.a j U
 refine J [3,583,56,279,131] ?_;refine bZ rfl rfl rfl (ko 3 3 rfl rfl (dP.int rfl) rfl rfl) ?_;rw[aJ];refine dl rfl rfl rfl rfl ?_;refine aO (IF b now u V ad n cap d a3 f3 j ar aq U av (Q.Dl j) (Z.perm C)) rfl (d8 0 rfl (d8 0 rfl (d8 0 rfl (ez _)))) trivial ?_;intro⟨aD,f4,a4⟩ ⟨ah,aw,P⟩;change cd _ _ _ _ _ _ _ _ _ _ (ag [_,_,_,_,_,_,_]);dsimp only at ah aw P⊢;apply J [52,24,330,19,303,232];exact ca.i ⟨aD,f4,a4⟩ [_] ⟨(fl (n:=3) rfl rfl rfl rfl),trivial⟩ rfl ⟨by dsimp only;rw[P.length_eq,ar],ah,aw,((P.trans C).cons _).trans E⟩ (bX (bX (bX (cZ (a7 _)))));obtain rfl:i=n:=by omega
 have N:H.take i=jr H i i:=by rw[jr,al U]
 refine WE (B:=ag [aj b 367 [aa now,aa u,.slice ad i cap,.map (some d)],a6 405 3 ad i cap (hX (jr H i i)),bP QM.encI d (gd f (cA H i).id) _,aj cj 405 (mV (cA H i)),aj bA 405 (mV (cA H i)),aj be 405 (ints [0,0,0]),F]) (ao (eO 4 rfl (by rw[<-N,<-D0];exact p6 U) (bX (ao (ao (ao (ao (a7 _)))))))) ?_;apply J [4,24,330,19,303,232];exact ca.i ⟨jr H i i,_,_⟩ [_] ⟨(fl (n:=3) rfl rfl rfl rfl),trivial⟩ rfl ⟨D,LO au W,LR au ax bB,E⟩ (bX (bX (bX (cZ (a7 _)))))
end Go.Proofs.Q.iD
namespace Go.Proofs.Q.iD
open Go Go.QM
structure jJ(H:List c0)(n:Nat)(f:Int->Option Value)(ct:Int)(Q:List c0):Prop where
  n:H.length=n
  lV:lD H
  sc:j0 f H
  pm:H.Perm Q
  bC:gP Q
  ct:∀e∈Q,e.ct<=ct
  uZ:Q.Pairwise λa b=>a.ct<b.ct
structure JJ where
  H:List c0
  n:Nat
  f:Int->Option Value
  ad:Option Addr
  cap:Nat
  IM:Nat
  m:Nat
def oa(b:Nat)(now ct:Int)(Q:List c0):aw:=eQ λy:JJ=>pure' (jJ y.H y.n y.f ct Q) (ag [aj b 367 [.int .i64 now,.int .i64 ct,.slice y.ad y.n y.cap,.map (some y.IM)],a6 405 3 y.ad y.n y.cap (hX y.H),bP QM.encI y.IM y.f y.m])
variable{H Q:List c0}{n:Nat}{ct:Int}
theorem jJ.len{f:Int->Option Value}(h:jJ H n f ct Q):n=Q.length:=by rw[<-h.n,h.pm.length_eq]
theorem jJ.xi{f:Int->Option Value}(h:jJ H n f ct Q):gP H:=h.bC.perm h.pm
theorem jJ.start(d:Int):jJ [] 0 (λ_=>none) d []:=⟨rfl,(λk _ h=>by simp at h),⟨(λj h=>by simp at h),λ_ _=>rfl⟩,Xz _,VZ,(λe h=>by cases h),Xq⟩
def ju(Q:List c0)(id:Int):Prop:=∃e∈Q,e.id=id
instance (Q:List c0)(id:Int):Decidable (ju Q id):=inferInstanceAs (Decidable (∃e∈Q,e.id=id))
variable{id:Int}
theorem jJ.yes{f:Int->Option Value}(h:jJ H n f ct Q)(C:ju Q id):∃j,j<n/\(cA H j).id=id/\f id=some (aa j):=by obtain⟨e,he,rfl⟩:=C;obtain⟨j,d,u,w⟩:=h.sc.some (h.pm.mem_iff.2 he);exact⟨j,by rw[<-h.n];exact d,by rw[u],w⟩
theorem jJ.no{f:Int->Option Value}(h:jJ H n f ct Q)(u:¬ju Q id):f id=none:=
 h.sc.none λe he d=>u ⟨e,h.pm.mem_iff.1 he,d⟩
def h3(Q:List c0)(now ct id lr:Int):List c0×Int×Int:=
  if id<0\/lr<1\/1048576<lr then(Q,ct,1)else if ju Q id then(Q,ct,7)else(Q++[⟨now+lr,ct+1,id⟩],ct+1,0)
theorem Mm(H:List c0)(e:c0):hX (H++[e])=hX H++mV e:=by simp[hX]
variable{e:c0}
theorem wG{k:Nat}(h:k<H.length):cA (H++[e]) k=cA H k:=by simp[cA,Wc,List.getElem?_append,h]
theorem SR(h:lD H)(e:c0):nS (H++[e]) H.length where
 a:=λk u d C=>by rw[mp,Vk]at d;rw[k3,wG U,wG U];exact h k u U
 b:=λk u d D w=>by rw[mp,Vk]at d;omega
theorem SS{f:Int->Option Value}(h:j0 f H)(e:c0):nX f (H++[e]) H.length where
 a:=λj d w=>by rw[mp,Vk]at d;rw[wG U];exact h.a j U
 b:=λx u=>h.b x λj d=>by have:=u j (by rw[mp];omega);rwa[wG d]at this
theorem BO{H:List c0}(h:gP H)(d:∀a∈H,a.id≠e.id):gP (H++[e]):=by grind[gP]
theorem jJ.set{u:List c0}{f f4:Int->Option Value}(h:jJ H n f ct Q)(he:e.ct=ct+1)(N:¬ju Q e.id)(D:lD u)(E:j0 f4 u)(w:u.Perm (H++[e])):jJ u (n+1) f4 (ct+1) (Q++[e]) where
 n:=by rw[w.length_eq,mp,h.n];rfl
 lV:=D
 sc:=E
 pm:=w.trans (h.pm.append_right _)
 bC:=BO h.bC λa d C=>N ⟨a,d,C⟩
 ct:=λa d=>by
  rcases Vd.1 d with d|d
  ·have:=h.ct a d;omega
  obtain rfl:=Vc.1 d;omega
 uZ:=by rw[List.pairwise_append];refine⟨h.uZ,List.pairwise_singleton _ _,λa d b am=>?_⟩;obtain rfl:=Vc.1 am;have:=h.ct a d;omega
def iM(Q:List c0)(id:Int):List c0:=Q.filter λe=>decide (e.id≠id)
theorem En(h:gP (e::H)):iM (e::H) e.id=H:=by rw[iM,Ws cE];refine VI.2 λa d=>?_;have:=(Vu.1 h).1;simp_all
theorem jJ.off{d:List c0}{f w:Int->Option Value}(h:jJ H (n+1) f ct Q){j:Nat}(O:(cA H j).id=id)(D:d.length=n)(E:lD d)(N:j0 w d)(C:(cA H j::d).Perm H):jJ d n w ct (iM Q id) where
 n:=D
 lV:=E
 sc:=N
 pm:=by
  have:=(C.trans h.pm).filter λe=>decide (e.id≠id)
  have u:=En (h.xi.perm C)
  rw[O]at u
  rw[iM]at u⊢
  rwa[u]at this
 bC:=h.bC.sublist ((WD).map _)
 ct:=λe he=>h.ct e (Vv.1 he).1
 uZ:=h.uZ.sublist WD
theorem Qy(h:¬ju Q id):iM Q id=Q:=VI.2 λa d=>by
 simp only[decide_eq_true_eq];exact λe=>h ⟨a,d,e⟩
theorem GB(h:ju Q id)(au:gP Q):(iM Q id).length+1=Q.length:=by obtain⟨e,he,rfl⟩:=h;obtain⟨s,t,rfl⟩:=XD he;have d:(e::(s++t)).Perm (s++e::t):=List.perm_middle.symm;have u:=(d.filter λa=>decide (a.id≠e.id)).length_eq;have w:=En (au.perm d);grind[iM]
def hO(Q:List c0)(ids:List Int):List c0:=ids.foldl iM Q
theorem Lg(Q:List c0)(ids:List Int)(x:Int):hO Q (ids++[x])=iM (hO Q ids) x:=by simp[hO]
theorem wa(Q:List c0):∀ids,(hO Q ids).Sublist Q
 | []=>Xy _
 | x::l=>by rw[hO,XH];exact(wa (iM Q x) l).trans WD
theorem Dw(Q:List c0)(ids:List Int):hO Q ids=Q.filter λe=>decide (e.id∉ids):=by induction ids generalizing Q with|nil=>exact(VI.2 λa _=>by simp).symm|cons x l d=>rw[hO,XH];have:=d (iM Q x);rw[hO]at this;rw[this,iM,W0];congr 1;funext e;rw[XS];simp only[VP,decide_eq_true_eq,Vp,not_or];exact⟨λh=>⟨h.2,h.1⟩,λh=>⟨h.2,h.1⟩⟩
def jt(t:Int)(Q:List c0):List c0:=Q.filter λe=>decide (e.at_<=t)
def mE(t:Int)(Q:List c0):List c0:=Q.filter λe=>decide (¬e.at_<=t)
def ids(Q:List c0):List Int:=Q.map (·.id)
theorem Mf{f:Int->Option Value}{t:Int}{Q:List c0}(h:jJ H n f ct Q)(W:0<n)(hle:(cA H 0).at_<=t)(am:∀e∈Q,t<=e.at_):
 jt t Q=cA H 0::jt t (iM Q (cA H 0).id)/\mE t Q=mE t (iM Q (cA H 0).id):=by have au:=h.n;have u:cA H 0∈Q:=h.pm.mem_iff.1 (zP U);have E:∀a∈Q,a.at_<=t->(cA H 0).ct<=a.ct:=λa d w=>(by obtain⟨k,C⟩:=V9 (h.pm.mem_iff.2 d);have D:=(Vl.1 C).1;have:=h.lV.min k D;grind[zQ,hz]);generalize cA H 0=e at u hle E⊢;have N:=h.bC;have Z:=h.uZ;clear h au;obtain⟨s,r,rfl⟩:=XD u;have P:(e::(s++r)).Perm (s++e::r):=List.perm_middle.symm;have aq:∀a∈s++r,a.id≠e.id:=λa d V=>(by have:=(Vu.1 (N.perm P)).1;grind);have ah:∀a∈s,¬a.at_<=t:=λa d w=>cv;have O:iM (s++e::r) e.id=s++r:=(by grind[iM,VI]);rw[O];constructor;all_goals grind[jt,Xc,mE]
theorem DR{f:Int->Option Value}{t:Int}(h:jJ H n f ct Q)(u:n=0\/¬(cA H 0).at_<=t):jt t Q=[]/\mE t Q=Q:=by have w:∀a∈Q,¬a.at_<=t:=λa d=>(by obtain⟨k,C⟩:=V9 (h.pm.mem_iff.2 d);have D:=(Vl.1 C).1;have:=h.lV.min k D;rw[zQ C]at this;rcases u with u|u;have:=h.n;omega;grind[hz]);exact⟨Xc.2 (λa d=>by simpa using w a d),VI.2 (λa d=>by simpa using w a d)⟩
def uE(Q:List c0)(now id:Int):Int:=match Q.find? λe=>decide (e.id=id)with
  | some e=>e.at_-now
  | none=>0
theorem pY:bK 192 [] bg [] (λb:Nat=>ae b) (λ_=>True) (λb=>[oa b 0 0 []]):=by apply aI Tryz.func192 Tryz.ntmps192;intro F _;refine J [10,170,25,328] ?_;intro be;refine q rfl rfl (ei (cs:=[.int _ _,.int _ _,.slice _ _ _,.map _]) rfl) ?_;refine e rfl ?_;refine fe (v:=.agg #[_,_,_,_]) (l:=[.int _ _,.int _ _,.slice _ _ _,.map _]) rfl rfl ?_;intro bA;apply J [109];exact bv bA trivial ((dE 405 3 _).trans (aA ⟨[],0,λ_=>none,none,0,be,0⟩ (jJ.start 0) (bX (ao (ao (ao (a7 _)))))))
theorem Sp(b:Nat)(now d:Int)(Q:List c0)(am:(0<=now/\now<=1000000000000)/\(0<=d/\d<=1000000000000)/\Q.length<=500000)(id u:Int):bz 380 [ae b,aa id,aa u] bg [oa b now d Q] (aa (h3 Q now d id u).2.2) [oa b now (h3 Q now d id u).2.1 (h3 Q now d id u).1]:=by
 apply aI Tryz.func380 Tryz.ntmps380;intro F _;apply J [1,39,228];refine VD 11 rfl (c:=false) rfl ?_;apply J [209,40];refine aW.split 15 rfl (λC=>?_) (λC=>?_);have C:=dp C;have aQ:h3 Q now d id u=(Q,d,1):=by rw[h3,az U]
 rw[aQ];dsimp only;apply J [341,102,183,14,213];exact hT;have C:=eb C;apply J [209,40];refine aW.split 19 rfl (λD=>?_) (λD=>?_);have D:=dp D;have aQ:h3 Q now d id u=(Q,d,1):=by rw[h3,az U]
 rw[aQ];dsimp only;apply J [102,183,14,213];exact hT;have D:=eb D;apply J [168,97];apply Ve rfl<;>intro a2;have aQ:h3 Q now d id u=(Q,d,1):=by rw[h3,az U]
 rw[aQ];dsimp only;apply J [213];exact hT;by_cases w:ju Q id;have aQ:h3 Q now d id u=(Q,d,7):=by rw[h3,al U,az w]
 rw[aQ];dsimp only;refine ab.open 0 rfl (λV P=>?_);obtain⟨H,n,f,ad,cap,N,m⟩:=V;have aE:=P;apply J [61];dsimp only at aE⊢;have E:=aE.n;have aJ:=aE.len;have aD:=pJ H;obtain⟨j,a1,a0,O⟩:=aE.yes w;apply J [44,128,336,441];rw[O];apply J [337,185,83,3,14,213];exact fc (aA ⟨H,n,f,ad,cap,N,m⟩ aE (ao (ao (ao (ao (a7 _))))));have aQ:h3 Q now d id u=(Q++[⟨now+u,d+1,id⟩],d+1,0):=by rw[h3,al U,al w]
 rw[aQ];dsimp only;refine ab.open 0 rfl (λV P=>?_);obtain⟨H,n,f,ad,cap,N,m⟩:=V;have aE:=P;apply J [61];dsimp only at aE⊢;have E:=aE.n;have aJ:=aE.len;have aD:=pJ H;have O:=aE.no w;apply J [44,128,336,441];rw[O];refine J [337,185,83,141,87,149,269,208,29] ?_;refine ab.draw _ [22] [0,1,2,3,4,5,6,7,8,9,10,11,12,13,14,15,16,17,-18,-19,20,21,-22] aV aV (ao (a7 _)) ?_;refine J [56,186,72,16,391,135] ?_;refine bZ rfl rfl rfl (ei (cs:=ints [_,_]) rfl) ?_;apply J [16];refine bZ rfl rfl rfl (ei (cs:=ints [_,_,_]) rfl) ?_;refine dO rfl rfl ?_;refine bs (cs:=ints [_,_,_]) rfl ?_;intro cj;refine J [47] ?_;refine ap 24 rfl rfl rfl rfl rfl (Vq rfl) (show _=mV ⟨now+u,d+1,id⟩from rfl) rfl U gv ?_;intro W Z;refine J [6,66,364,67,368,52,38,175,75] ?_;refine q rfl rfl (len 405 3 rfl rfl) ?_;refine J [245] ?_;rw[show(((n+1:Nat):Int)-1)=(n:Int)from by omega];rw[<-Mm];refine e rfl ?_;refine aO (IF b now (d+1) (H++[⟨now+u,d+1,id⟩]) W (n+1) Z N m f n (by rw[mp,E];rfl) U U (by have:=SR aE.lV ⟨now+u,d+1,id⟩;rwa[E]at this) (by have:=SS aE.sc ⟨now+u,d+1,id⟩;rwa[E]at this) (BO aE.xi λa aw av=>w ⟨a,aE.pm.mem_iff.1 aw,av⟩)) rfl (d8 0 rfl (d8 0 rfl (d8 1 rfl (ez _)))) trivial ?_;intro⟨au,f4,aT⟩ ⟨ah,ar,aq⟩;apply J [9];dsimp only at ah ar aq⊢;apply J [123];exact fc (aA ⟨au,n+1,f4,W,Z,N,aT⟩ (aE.set rfl w ah ar aq) (ao (ao (ao (bX (a7 _))))))
theorem zb(b:Nat)(now d:Int)(Q:List c0)(am:(0<=now/\now<=1000000000000)/\(0<=d/\d<=1000000000000)/\Q.length<=500000)(a2:Option Addr)(c2:Nat)(xs:List Int)(bd:xs.length<=1000000):bz 332 [ae b,.slice a2 xs.length c2] (λF=>∃E,cQ F E a2 (ints xs)) [oa b now d Q] (aa ((Q.length:Int)-(hO Q xs).length)) [oa b now d (hO Q xs)]:=by
 apply aI Tryz.func332 Tryz.ntmps332;intro F ⟨E,aq⟩;apply J [1];haveI:bn F a2 E (ints xs):=⟨aq⟩;have bg:=d7 xs;apply J [107,39,34,177];refine VK (ι:=Nat×List c0) (λs=>s.1<=xs.length/\s.2=hO Q (xs.take s.1)) (λs=>[(0,ae b),(5,aa ((Q.length:Int)-(s.2.length:Int))),(10,.slice a2 xs.length c2),(11,aa xs.length),(12,aa ((s.1:Nat):Int))]) (λs=>ag [oa b now d s.2,F]) (λs=>xs.length-s.1) ⟨0,Q⟩ ⟨Vh _,rfl⟩ ⟨rfl,congrArg (Wn .i64) (Int.sub_self _).symm,rfl,rfl,rfl,trivial⟩ (ao (ao (a7 _))) ?_;rintro⟨k,Z⟩ ⟨av,w⟩ bh;dsimp only[cx]at av w⊢;apply J [43];apply Ve rfl<;>intro a5;have aw:k<xs.length:=U
 obtain⟨x,qN⟩:∃x,xs[k]? =some x:=⟨xs[k],Vb aw⟩;have bb:0<(ints xs).length:=U
 have V:hO Q (xs.take (k+1))=iM Z x:=by grind[Vs,Lg]
 have a1:Z.length<=Q.length:=by grind[wa]
 refine J [189,519,31,7] ?_;refine ab.open 0 rfl (λa0 aJ=>?_);obtain⟨H,n,f,ad,cap,D,m⟩:=a0;have aE:=aJ;apply J [61];dsimp only at aE⊢;have ar:=aE.n;have a9:=aE.len;have a3:=pJ H;apply J [37,297,106];by_cases u:ju Z x;obtain⟨j,a4,au,C⟩:=aE.yes u;obtain⟨n,rfl⟩:∃z,n=z+1:=⟨n-1,by omega⟩;have ba:=GB u aE.bC;apply J [4,128,336,441];rw[C];apply J [337,185,83,3,14,33];refine aO (DL b now d H ad n cap D m f j ar U U aE.lV aE.sc aE.xi) rfl (d8 0 rfl (d8 0 rfl (d8 0 rfl (ez _)))) trivial ?_;intro⟨ah,f4,aT⟩ ⟨O,N,W,P⟩;apply J [18];dsimp only at O N W P⊢;refine J [3,346,48,84] ?_;exact⟨rfl,⟨k+1,iM Z x⟩,⟨by dsimp only;omega,V.symm⟩,cy,⟨rfl,congrArg (Wn .i64) cy,rfl,rfl,rfl,trivial⟩,(aA ⟨ah,n,f4,ad,cap,D,aT⟩ (aE.off au O N W P) (ao (ao (ao (ao (a7 _))))))⟩;have C:=aE.no u;have aD:=Qy u;apply J [4,128,336,441];rw[C];refine J [337,185,83,106,114] ?_;exact⟨rfl,⟨k+1,Z⟩,⟨by dsimp only;omega,by dsimp only;rw[V,aD]⟩,cy,bH,(aA ⟨H,n,f,ad,cap,D,m⟩ aE (ao (ao (ao (ao (a7 _))))))⟩;obtain rfl:k=xs.length:=U
 rw[VY]at w;subst w;apply J [21,134];exact hT
theorem B3(b:Nat)(now w:Int)(Q:List c0)(am:(0<=now/\now<=1000000000000)/\(0<=w/\w<=1000000000000)/\Q.length<=500000)(a2:∀e∈Q,now<e.at_/\e.at_<=2000000000000):bK 214 [ae b] bg [oa b now w Q] (λy:Option Addr×Nat=>.slice y.1 (ids (jt (now+1) Q)).length y.2) (λ_=>True) (λy=>[a6 3 1 y.1 (ids (jt (now+1) Q)).length y.2 (ints (ids (jt (now+1) Q))),oa b (now+1) w (mE (now+1) Q)]):=by
 apply aI Tryz.func214 Tryz.ntmps214;intro F _;apply J [1,117,188,103,122];refine ab.open 0 rfl (λP O=>?_);obtain⟨H,n,f,ad,cap,C,m⟩:=P;have aE:=O;apply J [61];dsimp only at aE⊢;refine J [37,78,149,55,59,208,29,51] ?_;refine VK (ι:=List c0×List Int×Option Addr×Nat) (λs=>s.1.Sublist Q/\s.2.1++ids (jt (now+1) s.1)=ids (jt (now+1) Q)/\mE (now+1) s.1=mE (now+1) Q) (λs=>[(0,ae b),(3,.slice s.2.2.1 s.2.1.length s.2.2.2)]) (λs=>ag [a6 3 1 s.2.2.1 s.2.1.length s.2.2.2 (ints s.2.1),oa b (now+1) w s.1,F]) (λs=>s.1.length) ⟨Q,[],none,0⟩ ⟨Xy _,rfl,rfl⟩ bH ((dE 3 1 _).trans (b9 0 rfl j8 (aA ⟨H,n,f,ad,cap,C,m⟩ aE (ao (ao (ao (ao (a7 _)))))))) ?_;rintro⟨Z,o,h1,fv⟩ ⟨E,d,u⟩ bi;dsimp only[cx]at E d u⊢;have a5:=E.length_le;have aq:=congrArg WZ d;rw[mp]at aq;have a9:(ids (jt (now+1) Q)).length<=Q.length:=by grind[ids,jt]
 clear aE;refine ab.open 1 rfl (λP O=>?_);obtain⟨H,n,f,ad,cap,C,m⟩:=P;have aE:=O;apply J [57];dsimp only at aE⊢;have aJ:=aE.n;have bb:=aE.len;have ba:=pJ H;apply J [7,7];refine cJ [0,1,2,3,4,5,6,7,8,9,10,11,12,13,14,15,16,17,18,19,20] (VJ _) ?_;apply J [186,465,439,153];refine cd.split 19 rfl (λD=>?_) (λD=>?_);have D:=dp D;have a1:=m1 (show 0<H.length by omega);have bh:0<(hX H).length:=U
 refine J [304,305,374,163,521,390,390] ?_;refine eV rfl rfl rfl rfl (dG rfl rfl (pM lQ a1 0 U rfl)) ?_;apply J [304,305,373,163];refine eV rfl rfl rfl rfl (leq rfl rfl) ?_;apply J [329,52];apply Ve rfl<;>intro V;obtain⟨d1,d2⟩:=Mf aE U V (λa aT=>by have:=a2 a (E.subset aT);omega);obtain⟨n,rfl⟩:∃z,n=z+1:=⟨n-1,by omega⟩;have bd:=GB ⟨_,aE.pm.mem_iff.1 (zP (show 0<H.length by omega)),rfl⟩ aE.bC;apply J [4,51,112,158,0];refine aO (DL b (now+1) w H ad n cap C m f 0 aJ U U aE.lV aE.sc aE.xi) rfl (d8 0 rfl (d8 0 rfl (d8 0 rfl (ez _)))) trivial ?_;intro⟨av,f4,a3⟩ ⟨ah,W,au,ar⟩;apply J [9];dsimp only at ah W au ar⊢;refine J [348,148] ?_;intro a4;have a0:=congrArg WZ d1;rw[VB]at a0;rw[ids,Wf]at aq;refine e rfl ?_;refine ap 8 rfl rfl rfl rfl rfl (Vq rfl) (show _=ints [(cA H 0).id]from rfl) rfl U gv ?_;intro aw aD;apply J [60,150];exact⟨rfl,⟨iM Z (cA H 0).id,o++[(cA H 0).id],aw,aD⟩,⟨List.filter_sublist.trans E,by dsimp only;rw[<-d,d1];simp[ids],by dsimp only;rw[<-u,d2]⟩,cy,⟨rfl,congrArg (λn=>VO _ n _) cE,trivial⟩,(b9 0 rfl (by simp[ints]) (aA ⟨av,n,f4,ad,cap,C,a3⟩ (aE.off rfl ah W au ar) (bX (bX (bX (bX (a7 _)))))))⟩;have N:=DR (t:=now+1) aE (.inr V);obtain⟨d1,d2⟩:=N;rw[d1]at d;rw[ids,W7,V4]at d;rw[d2]at u;apply J [198,91];exact ca.i ⟨h1,fv⟩ [_] ⟨rfl,trivial⟩ (by rw[<-d];rfl) trivial (b9 3 rfl (by rw[<-d]) (aA ⟨H,n,f,ad,cap,C,m⟩ (by rw[<-u];exact aE) (ao (ao (ao (ao (a7 _)))))));have D:=eb D;have N:=DR (t:=now+1) aE (.inl U);apply J [219,219,219,386,243,52,49];obtain⟨d1,d2⟩:=N;rw[d1]at d;rw[ids,W7,V4]at d;rw[d2]at u;apply J [198,91];exact ca.i ⟨h1,fv⟩ [_] ⟨rfl,trivial⟩ (by rw[<-d];rfl) trivial (b9 3 rfl (by rw[<-d]) (aA ⟨H,n,f,ad,cap,C,m⟩ (by rw[<-u];exact aE) (ao (ao (ao (ao (a7 _)))))))
end Go.Proofs.Q.iD
namespace Go.QM
open Go
section
variable {P : Program} {ah : Env} {A : aw} {d : Option Nat} {ty : TypeId} {ps : String} {bk : Array Edge} {g : Option (Nat × Bool)} {t t' : TypeId} {x y : Operand} {k : IntKind} {a b c : Int}
theorem St{D:IntKind}{n:Int}(u:bh ah x=.int k a)(C:bh ah y=.int D n)(E:0<=n):
    bG P ah ⟨d,.binOp .shr t x y t',ty,ps,bk,g⟩ A (.int k (a.fdiv (2^min n.toNat k.bits))):=λw _=>by
  have:¬n<0:=U
  simp[execOp,u,C,eqGuard,binOp,Op.shift,this]
end
end Go.QM
namespace Go.QM
open Go
section
variable {P : Program} {ah : Env} {A : aw} {d : Option Nat} {ty : TypeId} {ps : String} {bk : Array Edge} {g : Option (Nat × Bool)} {t t' : TypeId} {x y : Operand} {a b n : Nat}
theorem FW{n:Nat}:min ((n:Int)).toNat IntKind.u64.bits=min n 64:=rfl
theorem L0{a:Nat}(n:Nat)(d:a<2^64):a/2^min n 64=a/2^n:=by by_cases h:n<=64;simp_all;rw[Nat.min_eq_right U,Nat.div_eq_of_lt d,Nat.div_eq_of_lt];exact Nat.lt_of_lt_of_le d (Nat.pow_le_pow_right an U)
theorem Ss{C:IntKind}(u:bh ah x=bm a)(w:bh ah y=.int C (n:Int))(D:a<2^64):
    bG P ah ⟨d,.binOp .shr t x y t',ty,ps,bk,g⟩ A (bm ((a/2^n:Nat):Int)):=by have h:=St (P:=P) (A:=A) (d:=d) (ty:=ty) (ps:=ps) (bk:=bk) (g:=g) (t:=t) (t':=t') u w U;have e:(a:Int).fdiv (2^min ((n:Int)).toNat IntKind.u64.bits)=((a/2^n:Nat):Int):=(by grind[FW,L0]);simp_all
theorem HD{C:IntKind}(u:bh ah x=bm a)(w:bh ah y=.int C (n:Int))(au:n<=64):
    bG P ah ⟨d,.binOp .shl t x y t',ty,ps,bk,g⟩ A (bm ((a*2^n %2^64:Nat):Int)):=
  BH u w U (by rw[FW,Nat.min_eq_left au,IntKind.wrap_u64];simp)
theorem C6(w:bh ah x=bm a)(C:bh ah y=bm b)(u:a<2^64)(am:b<2^64):
    bG P ah ⟨d,.binOp .and t x y t',ty,ps,bk,g⟩ A (bm ((a&&&b:Nat):Int)):=vQ w C (bits_and_u64_nat a b u am)
theorem QO(w:bh ah x=bm a)(C:bh ah y=bm b)(u:a<2^64)(am:b<2^64):
    bG P ah ⟨d,.binOp .or t x y t',ty,ps,bk,g⟩ A (bm ((a|||b:Nat):Int)):=Bh w C (bits_or_u64_nat a b u am)
theorem Ut(C:bh ah x=bm a)(D:bh ah y=bm b)(u:a<2^64)(am:b<2^64):
    bG P ah ⟨d,.binOp .xor t x y t',ty,ps,bk,g⟩ A (bm ((a^^^b:Nat):Int)):=λw _=>by
  have h:IntKind.u64.wrap (VW IntKind.u64.bits (a:Int)^^^VW IntKind.u64.bits (b:Int)).toNat=((a^^^b:Nat):Int):=bits_xor_u64_nat a b u am
  simp[execOp,C,D,eqGuard,binOp,Op.intBits]
  simpa using h
theorem Kb(w:bh ah x=bm a)(C:bh ah y=bm 1)(u:a<2^64):
    bG P ah ⟨d,.binOp .and t x y t',ty,ps,bk,g⟩ A (bm ((a %2:Nat):Int)):=by have h:=C6 (P:=P) (A:=A) (d:=d) (ty:=ty) (ps:=ps) (bk:=bk) (g:=g) (t:=t) (t':=t') (b:=1) w C u an;simp_all
theorem Sq{C:IntKind}(u:bh ah x=bm 1)(w:bh ah y=.int C (n:Int))(au:n<64):
    bG P ah ⟨d,.binOp .shl t x y t',ty,ps,bk,g⟩ A (bm ((2^n:Nat):Int)):=by have h:=HD (P:=P) (A:=A) (d:=d) (ty:=ty) (ps:=ps) (bk:=bk) (g:=g) (t:=t) (t':=t') (a:=1) u w U;rwa[Nat.one_mul,Nat.mod_eq_of_lt (Nat.pow_lt_pow_right an au)]at h
theorem Lv(C:bh ah x=bm a)(u:a<2^64):bG P ah ⟨d,.unOp .xor t x,ty,ps,bk,g⟩ A (bm ((2^64-1^^^a:Nat):Int)):=λw _=>by
  have h:IntKind.u64.wrap (VW IntKind.u64.bits ((2^64-1:Nat):Int)^^^VW IntKind.u64.bits (a:Int)).toNat=((2^64-1^^^a:Nat):Int):=bits_xor_u64_nat (2^64-1) a an u
  have e:(if IntKind.u64.signed=true then(-1:Int)else IntKind.u64.max)=((2^64-1:Nat):Int):=an
  simp only[execOp,C,Op.unary,e,Op.intBits]
  simpa using h
end
def oy(f:Nat->Bool):Nat->Nat
  | 0=>0
  | n+1=>oy f n+if f n then 2^n else 0
theorem Cg(f:Nat->Bool):∀n,oy f n<2^n
  | 0=>Nat.one_pos
  | n+1=>by have h:=Cg f n;rw[oy,Nat.pow_succ];split<;>omega
theorem IS(f:Nat->Bool):∀(n i:Nat),(oy f n).testBit i=(decide (i<n)&&f i)
  | 0,i=>by simp[oy]
  | n + 1,i=>by
    have E:=Cg f n
    have w:=IS f n i
    rw[oy]
    by_cases d:f n=true
    · rw[az d,Nat.add_comm,<-Nat.one_mul (2^n),WR,Nat.testBit_two_pow_mul_add _ E]
      by_cases u:i<n
      · rw[az u,w];simp[u,Nat.lt_succ_of_lt u]
      · rw[al u]
        by_cases e:i=n
        · subst e;simp[d]
        · have:i-n≠0:=U
          rw[db (by omega:¬i<n+1),Bool.false_and]
          have C:(1:Nat).testBit (i-n)=false:=by
            obtain⟨j,D⟩:∃j,i-n=j+1:=⟨i-n-1,by omega⟩
            rw[D,Nat.testBit_succ];simp
          exact C
    · rw[al d,Nat.add_zero,w]
      by_cases e:i=n
      · subst e;simp[d]
      · have:decide (i<n)=decide (i<n+1):=by rw[decide_eq_decide];omega
        rw[this]
theorem IT{f g:Nat->Bool}:∀{n:Nat},(∀i,i<n->f i=g i)->oy f n=oy g n
  | 0,_=>rfl
  | n+1,h=>by rw[oy,oy,IT λi d=>h i U,h n U]
end Go.QM
namespace Go.QM
open Go
def kL(m:Nat->Nat)(o:Nat):Nat->Nat
  | 0=>0
  | n+1=>kL m o n+m (o+n)*2^(8*n)
def cU(m:Nat->Nat)(o:Nat):Nat:=kL m o 8
def oL(m:Nat->Nat):Prop:=∀i,m i<256
theorem w6{m:Nat->Nat}(h:oL m)(o:Nat):∀n,kL m o n<2^(8*n)
  | 0=>Nat.one_pos
  | n+1=>by
   have d:=w6 h o n;have u:=h (o+n);have e:2^(8*(n+1))=256*2^(8*n):=by rw[Nat.mul_add,Nat.pow_add,WR]
   rw[kL,e];generalize 2^(8*n)=p at d⊢;have:m (o+n)*p<=255*p:=Nat.mul_le_mul_right _ U;omega
variable{m:Nat->Nat}
theorem sU(h:oL m)(o:Nat):cU m o<2^64:=w6 h o 8
theorem uD{m m':Nat->Nat}{o:Nat}:∀{n:Nat},(∀i,o<=i->i<o+n->m i=m' i)->kL m o n=kL m' o n
  | 0,_=>rfl
  | n+1,h=>by rw[kL,kL,uD λi d u=>h i d U,h (o+n) U U]
theorem QP{a c k:Nat}(h:a<2^k):a|||c*2^k=a+c*2^k:=by grind[WR,Nat.two_pow_add_eq_or_of_lt]
def xV(m:Nat->Nat)(o:Nat)(v:Nat)(n:Nat):Nat->Nat:=λi=>if o<=i/\i<o+n then v/2^(8*(i-o)) %256 else m i
def xW(m:Nat->Nat)(o:Nat)(v:Nat):Nat->Nat:=xV m o v 8
theorem FA{m:Nat->Nat}{o v:Nat}{k:Nat}:∀{n:Nat},n<=k->kL (xV m o v k) o n=v %2^(8*n)
  | 0,_=>by rw[kL];simp;omega
  | n+1,h=>by
   rw[kL,FA U,xV,az U,Nat.add_sub_cancel_left];have e:2^(8*(n+1))=2^(8*n)*256:=by rw[Nat.mul_add,Nat.pow_add]
   rw[e,Nat.mod_mul,WR (v/_ %256)]
theorem Ps(m:Nat->Nat)(o:Nat){v:Nat}(hv:v<2^64):cU (xW m o v) o=v:=by rw[cU,xW,FA (Nat.le_refl 8)];exact Nat.mod_eq_of_lt hv
variable{n:Nat}
theorem Pr{o d:Nat}{g:Nat->Nat}(h:d+8<=o\/o+n<=d):cU (λi=>if o<=i/\i<o+n then g i else m i) d=cU m d:=
  uD λi u w=>by rw[al U]
def hx(m:Nat->Nat)(o n:Nat):Nat->Nat:=λi=>if o<=i/\i<o+n then 0 else m i
theorem UG(h:oL m)(o n:Nat):oL (hx m o n):=λi=>by
  rw[hx];split
  · decide
  · exact h i
theorem UH(m:Nat->Nat)(o n:Nat):hx m o (n+1)=λi=>if i=o+n then 0 else hx m o n i:=by funext i;rw[hx,hx];grind
theorem UI(m:Nat->Nat)(o:Nat):hx m o 0=m:=funext λi=>by rw[hx,al U]
theorem FB{m:Nat->Nat}{o:Nat}:∀{n:Nat},(∀i,o<=i->i<o+n->m i=0)->kL m o n=0
  | 0,_=>rfl
  | n+1,h=>by rw[kL,FB λi d u=>h i d U,h (o+n) U U];simp
theorem w7{o d:Nat}(u:o<=d)(w:d+8<=o+n):cU (hx m o n) d=0:=
  FB λi C D=>by rw[hx,az U]
theorem Aw{o d:Nat}(h:d+8<=o\/o+n<=d):cU (hx m o n) d=cU m d:=Pr h
def i9(m:Nat->Nat)(n:Nat):List Value:=(List.range n).map λi=>.int .u8 (m i:Int)
theorem sG(m:Nat->Nat)(n:Nat):(i9 m n).length=n:=by simp[i9]
theorem y1(m:Nat->Nat){i:Nat}(h:i<n):(i9 m n)[i]? =some (nb (m i:Int)):=by simp[i9,h]
theorem Dm(m:Nat->Nat){i:Nat}(h:i<n)(v:Nat):dN i [nb v] (i9 m n)=i9 (λj=>if j=i then v else m j) n:=by have e:i9 (λj=>if j=i then v else m j) n=(i9 m n).set i (nb v):=(by apply List.ext_getElem?;intro j;by_cases d:j<n;rw[y1 _ d,List.getElem?_set];by_cases e:i=j;subst e;rw[az rfl,az rfl,az (by rw[sG];exact h)];rw[al (λh=>e h.symm),al e,y1 _ d];grind[sG]);rw[e,List.set_eq_take_append_cons_drop,az (by rw[sG];exact h)];grind[dN]
theorem KM(m:Nat->Nat)(n:Nat):(i9 m n).all Value.oneCell'=true:=by rw[List.all_eq_true];intro v hv;obtain⟨i,_,rfl⟩:=List.mem_map.1 hv;trivial
end Go.QM
namespace Go.QM
open Go
def iu(f:Nat->Bool)(k:Nat):Nat:=oy (λj=>f (64*k+j)) 64
variable(f:Nat->Bool)
theorem tR(k:Nat):iu f k<2^64:=Cg _ 64
theorem rA(k j:Nat):(iu f k).testBit j=(decide (j<64)&&f (64*k+j)):=IS _ 64 j
def k6(f:Nat->Bool)(w:Nat):List Value:=(V8 w).map λk=>.int .u64 (iu f k:Int)
theorem rz(w:Nat):(k6 f w).length=w:=by simp[k6]
theorem ry{w k:Nat}(h:k<w):(k6 f w)[k]? =some (bm (iu f k:Int)):=by simp[k6,h]
theorem KC(i:Nat):iu f (i/64)/2^(i %64) %2=if f i=true then 1 else 0:=by have h:=rA f (i/64) (i %64);grind
def ff(f:Nat->Bool)(i:Nat):Nat->Bool:=λx=>if x=i then !f x else f x
theorem KD(i:Nat):iu f (i/64)^^^2^(i %64)=iu (ff f i) (i/64):=by apply Nat.eq_of_testBit_eq;intro j;rw[Yq,rA,rA,Nat.testBit_two_pow,ff];grind
theorem KE{i k:Nat}(h:k≠i/64):iu (ff f i) k=iu f k:=
  IT λj d=>by rw[ff,al U]
theorem KB{i w:Nat}(h:i/64<w):dN (i/64) [bm ((iu f (i/64)^^^2^(i %64):Nat):Int)] (k6 f w)=k6 (ff f i) w:=by have e:k6 (ff f i) w=(k6 f w).set (i/64) (bm ((iu f (i/64)^^^2^(i %64):Nat):Int)):=(by apply List.ext_getElem?;intro j;by_cases d:j<w;rw[ry _ d,List.getElem?_set];by_cases e:i/64=j;subst e;rw[az rfl,az (by rw[rz];exact h),KD];rw[al e,ry _ d,KE f (Ne.symm e)];grind[rz]);rw[e,List.set_eq_take_append_cons_drop,az (by rw[rz];exact h)];grind[dN]
def l3(on:Bool)(x:Nat):Nat:=if on=true then x else 2^64-1^^^x
theorem QB{on:Bool}{x:Nat}(h:x<2^64):l3 on x<2^64:=by rw[l3];split;trivial;exact Nat.xor_lt_two_pow an h
theorem Bg(on:Bool)(f:Nat->Bool)(k:Nat){j:Nat}(d:j<64):(l3 on (iu f k)).testBit j=(f (64*k+j)==on):=by rw[l3];cases on with|true=>rw[az rfl,rA,c1 d];cases f (64*k+j)<;>rfl|false=>rw[al an,Yq,Nat.testBit_two_pow_sub_one,rA,c1 d];cases f (64*k+j)<;>rfl
theorem zn{x s j:Nat}(hs:s<64)(d:j<64):(x/2^s*2^s %2^64).testBit j=(decide (s<=j)&&x.testBit j):=by rw[Nat.testBit_mod_two_pow,c1 d,Bool.true_and,WR,Nat.testBit_two_pow_mul];grind
theorem LL{x:Nat}(d:x≠0)(h:x<2^64):XC 64 x<64/\x.testBit (XC 64 x)=true/\∀j,j<XC 64 x->x.testBit j=false:=by
 obtain⟨m,hm,u⟩:=Lib.ctzFrom_spec 64 x U h;have e:XC 64 x=Lib.ctzFrom 64 x:=by grind[XC]
 grind
def vB(f:Nat->Bool)(on:Bool)(n o i:Nat):Prop:=o<=i/\i<n/\f i=on/\∀j,o<=j->j<i->f j≠on
def sq(f:Nat->Bool)(on:Bool)(n o:Nat):Prop:=∀j,o<=j->j<n->f j≠on
theorem Ud{f:Nat->Bool}{on:Bool}{k s:Nat}(hs:s<64)(h:l3 on (iu f k)/2^s*2^s %2^64=0){j:Nat}(u:64*k+s<=j)(w:j<64*(k+1)):f j≠on:=λe=>by
  have d:=zn (x:=l3 on (iu f k)) hs (show j-64*k<64 by omega)
  rw[h,Nat.zero_testBit,Bg on f k U,show 64*k+(j-64*k)=j by omega,c1 (by omega:s<=j-64*k),e]at d
  cases on<;>cases d
theorem Uc{f:Nat->Bool}{on:Bool}{k s:Nat}(hs:s<64)(h:l3 on (iu f k)/2^s*2^s %2^64≠0):
    ∃c,XC 64 (l3 on (iu f k)/2^s*2^s %2^64)=c/\c<64/\s<=c/\f (64*k+c)=on/\∀j,64*k+s<=j->j<64*k+c->f j≠on:=by obtain⟨d,u,w⟩:=LL h (X0 _ an);refine⟨_,rfl,d,?_⟩;generalize XC 64 (l3 on (iu f k)/2^s*2^s %2^64)=c at d u w;rw[zn hs d,Bg on f k d]at u;have C:s<=c:=b6;rw[c1 C,Bool.true_and]at u;refine⟨C,by simpa using u,λj D E e=>?_⟩;have H:=w (j-64*k) U;grind[zn,Bg]
end Go.QM
namespace Go.QM
abbrev kd:=Nat->Nat->Bool
def k8(f:kd)(p:Nat):Nat->Nat
  | 0=>0
  | k+1=>k8 f p k+(f k (p/2^k)).toNat
def lp(f:kd)(k i:Nat)(v:Bool):kd:=λwR EO=>if wR=k/\EO=i then v else f wR EO
theorem tX(f:kd)(k i:Nat)(v:Bool)(p:Nat):∀n,k8 (lp f k i v) p n+(if k<n/\p/2^k=i then(f k i).toNat else 0)=k8 f p n+(if k<n/\p/2^k=i then v.toNat else 0)
  | 0=>by simp[k8]
  | n+1=>by have w:=tX f k i v p n;rw[k8,k8,lp];by_cases e:n=k;subst e;rw[al U,al U]at w;by_cases d:p/2^n=i;rw[az ⟨rfl,d⟩,az ⟨by omega,d⟩,az ⟨by omega,d⟩,d];omega;rw[al (λh=>d h.2),al (λh=>d h.2),al (λh=>d h.2)];omega;rw[al (λh=>e h.1)];by_cases d:p/2^k=i;by_cases u:k<n;rw[az ⟨u,d⟩,az ⟨u,d⟩]at w;rw[az ⟨by omega,d⟩,az ⟨by omega,d⟩];omega;rw[al (λh=>u h.1),al (λh=>u h.1)]at w;rw[al (λh=>u U),al (λh=>u U)];omega;rw[al (λh=>d h.2),al (λh=>d h.2)]at w;rw[al (λh=>d h.2),al (λh=>d h.2)];omega
theorem wh{f:kd}{p k:Nat}:∀{n:Nat},k8 f p n=0->k<n->f k (p/2^k)=false
  | 0,_,h=>by omega
  | n+1,h,u=>by
   rw[k8]at h;by_cases e:k=n;subst e;cases d:f k (p/2^k)with|false=>rfl|true=>rw[d]at h;simp at h
   exact wh (n:=n) U U
theorem zm{f:kd}{p:Nat}:∀{n:Nat},(∀k,k<n->f k (p/2^k)=false)->k8 f p n=0
  | 0,_=>rfl
  | n+1,h=>by rw[k8,zm λk d=>h k U,h n U];rfl
variable{f:kd}{k:Nat}
theorem DF{p:Nat}{n:Nat}(h:f k (p/2^k)=true)(d:k<n):k8 f p n≠0:=λe=>by
  rw[wh e d]at h;cases h
theorem t6(p k:Nat):p/2^(k+1)=p/2^k/2:=by rw[Ye,Nat.div_div_eq_div_mul]
theorem xg(i k:Nat):i*2^k/2^k=i:=Nat.mul_div_cancel i (Xj k)
variable{top i:Nat}
theorem FL(u:k<=top)(d:i<2^(top-k)):i*2^k<2^top:=by
 have e:2^top=2^(top-k)*2^k:=by rw[<-Nat.pow_add];congr 1;omega
 rw[e];exact Yr d (Xj k)
theorem wJ(d:k<top):2^(top-k)=2*2^(top-(k+1)):=by rw[show top-k=(top-(k+1))+1 by omega,Ye,WR]
structure mc(f:kd)(top:Nat)(cn:List Nat):Prop where
  bd:∀k i,f k i=true->k<=top/\i<2^(top-k)
  aq:∀p,p<2^top->k8 f p (top+1)=if p∈cn then 0 else 1
  bC:cn.Nodup
  lt:∀p∈cn,p<2^top
structure kw(f:kd)(top:Nat)(cn:List Nat)(k i:Nat):Prop where
  hZ:k<=top
  it:i<2^(top-k)
  bd:∀k i,f k i=true->k<=top/\i<2^(top-k)
  aq:∀p,p<2^top->k8 f p (top+1)=if p∈cn\/p/2^k=i then 0 else 1
  bC:cn.Nodup
  lt:∀p∈cn,p<2^top
  uN:∀p,p/2^k=i->p∉cn
theorem sD(bd:∀k i,f k i=true->k<=top/\i<2^(top-k)){k i:Nat}{v:Bool}(h:v=true->k<=top/\i<2^(top-k)):
    ∀d w,lp f k i v d w=true->d<=top/\w<2^(top-d):=λd w u=>by
  rw[lp]at u
  split at u
  · rename_i e;obtain⟨rfl,rfl⟩:=e;exact h u
  · exact bd d w u
theorem vf{l m:List Nat}(au:l.Nodup)(h:∀x∈l,x∈m):l.length<=m.length:=by induction l generalizing m with|nil=>exact Vh _|cons x l D=>obtain⟨w,C⟩:=Vu.1 au;have d:x∈m:=h x cE;have:=D (m:=m.erase x) C λy u=>(List.mem_erase_of_ne (λe:y=x=>w (e▸u))).2 (h y (by simp[u]));rw[List.length_erase_of_mem d]at this;have:=List.length_pos_of_mem d;rw[VB];omega
variable{cn:List Nat}
theorem mc.none(h:mc f top cn)(au:∀k,k<=top->∀i,i<2^(top-k)->f k i=false):2^top<=cn.length:=by have:=vf (l:=V8 (2^top)) (m:=cn) List.nodup_range λp u=>(by have u:=W1.1 u;have w:=h.aq p u;rw[zm λk C=>?_]at w;simp_all;cases d:f k (p/2^k)with|false=>rfl|true=>obtain⟨a,b⟩:=h.bd _ _ d;rw[au k a _ b]at d;cases d);simp_all
theorem mc.take(h:mc f top cn)(w:f k i=true):kw (lp f k i false) top cn k i:=by obtain⟨a,b⟩:=h.bd _ _ w;have key:∀p,p<2^top->p/2^k=i->p∉cn/\k8 f p (top+1)=1:=λp u e=>(by have d:=h.aq p u;by_cases C:p∈cn;rw[az C]at d;exact absurd d (DF (k:=k) (by rw[e];exact w) U);simp_all);refine⟨a,b,sD h.bd (λh=>by cases h),λp u=>?_,h.bC,h.lt,λp e hu=>(key p (h.lt p hu) e).1 hu⟩;have d:=tX f k i false p (top+1);by_cases e:p/2^k=i;grind;rw[al (λh=>e h.2),al (λh=>e h.2),h.aq p u]at d;simp_all
theorem kw.split(h:kw f top cn (k+1) i):f k (2*i+1)=false/\kw (lp f k (2*i+1) true) top cn k (2*i):=by have H:=h.hZ;have E:=h.it;have N:=wJ (k:=k) (top:=top) U;have C:(2*i+1)*2^k<2^top:=FL U U;have u:f k (2*i+1)=false:=(by have d:=h.aq _ C;(have e:(2*i+1)*2^k/2^(k+1)=i:=by grind[t6,xg]);rw[az (.inr e)]at d;grind[wh,xg]);refine⟨u,by omega,by omega,sD h.bd λ_=>by omega,λp D=>?_,h.bC,h.lt,λp e=>h.uN p (by rw[t6,e];omega)⟩;have d:=tX f k (2*i+1) true p (top+1);have w:=h.aq p D;rw[t6]at w;rw[u]at d;by_cases e:p/2^k=2*i+1;have hu:p∉cn:=h.uN p (by rw[t6,e];omega);grind;grind
theorem kw.done(h:kw f top cn 0 i):i<2^top/\i∉cn/\mc f top (i::cn):=by have u:i<2^top:=h.it;have au:i∉cn:=h.uN i cE;refine⟨u,au,h.bd,λp d=>?_,Vu.2 ⟨au,h.bC⟩,λp d=>?_⟩;rw[h.aq p d];grind;rcases Vp.1 d with rfl|d;trivial;exact h.lt p d
theorem mc.Nu(h:mc f top cn){d:Nat}(hm:d∈cn):kw f top (cn.erase d) 0 d:=by refine⟨Vh _,h.lt d hm,h.bd,λp u=>?_,h.bC.erase _,λp u=>h.lt p (List.mem_of_mem_erase u),λp e=>?_⟩;rw[h.aq p u];grind;simp only[Nat.pow_zero,Nat.div_one]at e;subst e;exact λw=>(List.Nodup.mem_erase_iff h.bC).1 w|>.1 rfl
theorem I0(i:Nat):(i^^^1)/2=i/2:=by rw[Nat.xor_div_two];simp
theorem Ur(i:Nat):(i^^^1)≠i:=λh=>by
  have d:=congrArg (λx=>x.testBit 0) h
  simp only[Yq]at d
  cases u:i.testBit 0<;>rw[u]at d<;>simp at d
theorem kw.merge(h:kw f top cn k i)(C:k<top)(w:f k (i^^^1)=true):kw (lp f k (i^^^1) false) top cn (k+1) (i/2):=by have u:=wJ C;have N:=h.it;obtain⟨E,H⟩:=h.bd _ _ w;have am:∀p,p/2^(k+1)=i/2↔p/2^k=i\/p/2^k=i^^^1:=λp=>(by grind[t6,I0,Ur]);have key:∀p,p<2^top->p/2^k=i^^^1->p∉cn/\k8 f p (top+1)=1:=λp u e=>(by have d:=h.aq p u;(have O:k8 f p (top+1)≠0:=by grind[DF]);simp_all);refine⟨by omega,by omega,sD h.bd (λh=>by cases h),λp D=>?_,h.bC,h.lt,λp e hu=>?_⟩;have d:=tX f k (i^^^1) false p (top+1);by_cases e:p/2^k=i^^^1;grind;rw[al (λh=>e h.2),al (λh=>e h.2),h.aq p D]at d;simp_all;rcases(am p).1 e with e|e;exact h.uN p e hu;exact(key p (h.lt p hu) e).1 hu
theorem kw.fill(h:kw f top cn k i):f k i=false/\mc (lp f k i true) top cn:=by have C:=h.hZ;have w:f k i=false:=(by have d:=h.aq _ (FL h.hZ h.it);rw[az (.inr (xg i k))]at d;grind[wh,xg]);refine⟨w,sD h.bd λ_=>⟨h.hZ,h.it⟩,λp u=>?_,h.bC,h.lt⟩;have d:=tX f k i true p (top+1);rw[w]at d;by_cases e:p/2^k=i;rw[az ⟨by omega,e⟩,az ⟨by omega,e⟩,h.aq p u,az (.inr e)]at d;rw[al (h.uN p e)];simpa using d;rw[al (λh=>e h.2),al (λh=>e h.2),h.aq p u]at d;simp_all
def ue(top:Nat):kd:=λk i=>decide (k=top/\i=0)
theorem mc.init(top:Nat):mc (ue top) top []:=by have u:=(kw.fill (f:=λ_ _=>false) (top:=top) (cn:=[]) (k:=top) (i:=0) ⟨Vj _,Xj _,λ_ _ h=>(by cases h),λp d=>(by rw[zm λ_ _=>rfl,az (.inr (Nat.div_eq_of_lt d))]),List.nodup_nil,λ_ h=>(by cases h),λ_ _ h=>(by cases h)⟩).2;trivial
end Go.QM
namespace Go.QM
def hD(f:Nat->Bool):Nat->Nat
  | 0=>0
  | n+1=>hD f n+(f n).toNat
theorem zh{f g:Nat->Bool}:∀{n:Nat},(∀i,i<n->f i=g i)->hD f n=hD g n
  | 0,_=>rfl
  | n+1,h=>by rw[hD,hD,zh λi d=>h i U,h n U]
theorem wg{f:Nat->Bool}{i:Nat}:∀{n:Nat},f i=false->i<n->hD (ff f i) n=hD f n+1
  | 0,_,h=>by omega
  | n+1,d,h=>by rw[hD,hD];by_cases e:i=n;subst e;rw[zh (f:=ff f i) (g:=f) λj u=>by rw[ff,al U],ff,az rfl,d];rfl;rw[wg d U,ff,al (λh=>e h.symm)];omega
theorem Nd(f:Nat->Bool)(i:Nat):ff (ff f i) i=f:=by funext j;rw[ff];split;rename_i h;subst h;rw[ff,az rfl,Bool.not_not];rename_i h;rw[ff,al h]
theorem zI(f:Nat->Bool)(i:Nat):ff f i i=!f i:=az rfl
variable{i:Nat}
theorem DC{f:Nat->Bool}{n:Nat}(d:f i=true)(h:i<n):hD (ff f i) n+1=hD f n:=by grind[wg,zI,Nd]
theorem zj{f:Nat->Bool}:∀{n:Nat},hD f n=0↔∀i,i<n->f i=false
  | 0=>⟨λ_ i h=>by omega,λ_=>rfl⟩
  | n+1=>by
   rw[hD,Nat.add_eq_zero_iff,zj];constructor;rintro⟨u,d⟩ i C;by_cases e:i=n
   subst e;cases w:f i with
   | false=>rfl
   | true=>rw[w]at d;cases d
   exact u i U;exact λh=>⟨λi C=>h i U,by rw[h n U];rfl⟩
theorem Lo{n:Nat}(h:0<n):hD (λj=>decide (j=0)) n=1:=by have:=wg (f:=λ_=>false) (i:=0) (n:=n) rfl h;grind[zj,zh,ff]
structure cc where
  aC:Nat
  f:Nat->Bool
def fF(many:Nat):List cc->Nat
  | []=>0
  | p::L=>hD p.f many+fF many L
theorem pf(many:Nat):∀L M:List cc,fF many (L++M)=fF many L+fF many M
  | [],M=>by simp[fF]
  | p::L,M=>by rw[VU,fF,fF,pf many L M];omega
def wC(many:Nat)(p:cc):Prop:=∀i,i<many->p.f i=true
def vG(many:Nat)(L:List cc)(q:Nat):Prop:=∀p∈L,p.aC≠q->wC many p
structure oC(many:Nat)(L:List cc):Prop where
  kr:L.Pairwise λa b=>a.aC<b.aC
  bd:∀p∈L,∀i,p.f i=true->i<many
inductive lB(many:Nat)(L L':List cc)(aC i:Nat):Prop
  | old (A B:List cc) (f:Nat->Bool) (gH:L=A++⟨aC,f⟩::B) (gI:L'=A++⟨aC,ff f i⟩::B) (gJ:f i=false) (ic:i<many)
  | new (A B:List cc) (gH:L=A++B) (gI:L'=A++⟨aC,λj=>decide (j=0)⟩::B) (gJ:i=0) (ic:∀p∈L,wC many p) (U1:∀p∈A,p.aC<aC) (U2:∀p∈B,aC<p.aC)
theorem G4{A B:List cc}{p q:cc}(h:(A++p::B).Pairwise λa b=>a.aC<b.aC)(e:p.aC=q.aC):(A++q::B).Pairwise λa b=>a.aC<b.aC:=by grind[XX]
theorem Rb{A B:List cc}{p:cc}(h:(A++p::B).Pairwise λa b=>a.aC<b.aC):(A++B).Pairwise (λa b=>a.aC<b.aC)/\∀a∈A++B,a.aC≠p.aC:=by grind[XX]
theorem Rc{A B:List cc}{p:cc}(h:(A++B).Pairwise λa b=>a.aC<b.aC)(aE:∀a∈A,a.aC<p.aC)(aU:∀b∈B,p.aC<b.aC):(A++p::B).Pairwise λa b=>a.aC<b.aC:=by grind[XX]
variable{L:List cc}{many aC:Nat}{L':List cc}
theorem lB.inv(g:lB many L L' aC i)(h:oC many L)(hm:0<many):oC many L':=by cases g with|old A B f w C D E=>subst w;subst C;refine⟨G4 h.kr rfl,λp d j u=>?_⟩;rcases Vd.1 d with d|d;exact h.bd p (by simp[d]) j u;rcases Vp.1 d with rfl|d;dsimp only[ff]at u;split at u;omega;exact h.bd ⟨aC,f⟩ cE j u;exact h.bd p (by simp[d]) j u|new A B w C D E H N=>subst w;subst C;refine⟨Rc h.kr H N,λp d j u=>?_⟩;rcases Vd.1 d with d|d;exact h.bd p (by simp[d]) j u;rcases Vp.1 d with rfl|d;have:=dp u;omega;exact h.bd p (by simp[d]) j u
theorem lB.used(g:lB many L L' aC i)(hm:0<many):fF many L'=fF many L+1:=by cases g with|old A B f d u w C=>subst d;subst u;have:=wg w C;rw[pf,pf,fF,fF];dsimp only;omega|new A B d u w C D E=>subst d;subst u;have:=Lo hm;rw[pf,pf,fF];dsimp only;omega
theorem lB.one{q:Nat}(g:lB many L L' aC i)(h:oC many L)(E:vG many L q):vG many L' aC:=by cases g with|old A B f C D H w=>subst C;subst D;have N:aC=q:=(by by_cases e:aC=q;exact e;have:=E ⟨aC,f⟩ cE e i w;dsimp only at this;rw[H]at this;cases this);subst N;intro p d u;rcases Vd.1 d with d|d;exact E p (by simp[d]) u;rcases Vp.1 d with rfl|d;exact absurd rfl u;exact E p (by simp[d]) u|new A B C D H w O P=>subst C;subst D;intro p d u;rcases Vd.1 d with d|d;exact w p (by simp[d]);rcases Vp.1 d with rfl|d;exact absurd rfl u;exact w p (by simp[d])
inductive mQ(many:Nat)(L L':List cc)(aC i:Nat):Prop
  | stay (A B:List cc) (f:Nat->Bool) (gH:L=A++⟨aC,f⟩::B) (gI:L'=A++⟨aC,ff f i⟩::B) (gJ:f i=true)
  | gone (A B:List cc) (f:Nat->Bool) (gH:L=A++⟨aC,f⟩::B) (gI:L'=A++B) (gJ:f i=true) (ic:∀j,j<many->j≠i->f j=false)
theorem mQ.inv(g:mQ many L L' aC i)(h:oC many L):oC many L':=by cases g with|stay A B f w C D=>subst w;subst C;refine⟨G4 h.kr rfl,λp d j u=>?_⟩;rcases Vd.1 d with d|d;exact h.bd p (by simp[d]) j u;rcases Vp.1 d with rfl|d;dsimp only[ff]at u;split at u;rename_i e;subst e;rw[D]at u;cases u;exact h.bd ⟨aC,f⟩ cE j u;exact h.bd p (by simp[d]) j u|gone A B f w C D E=>subst w;subst C;exact⟨(Rb h.kr).1,λp d=>h.bd p (by rcases Vd.1 d with d|d<;>simp[d])⟩
theorem mQ.used(g:mQ many L L' aC i)(h:oC many L):fF many L'+1=fF many L:=by cases g with|stay A B f u w d=>subst u;subst w;have:=DC d (h.bd ⟨aC,f⟩ cE i d);rw[pf,pf,fF,fF];dsimp only;omega|gone A B f u w d C=>subst u;subst w;have D:=h.bd ⟨aC,f⟩ cE i d;have:=DC (n:=many) d D;have H:hD (ff f i) many=0:=zj.2 λj E=>(by rw[ff];split;rename_i e;subst e;rw[d];rfl;rename_i e;exact C j E e);rw[pf,pf,fF];dsimp only;omega
theorem mQ.one(g:mQ many L L' aC i)(D:vG many L aC):vG many L' aC:=by cases g with|stay A B f w C E=>subst w;subst C;intro p d u;rcases Vd.1 d with d|d;exact D p (by simp[d]) u;rcases Vp.1 d with rfl|d;exact absurd rfl u;exact D p (by simp[d]) u|gone A B f w C E H=>subst w;subst C;intro p d u;exact D p (by rcases Vd.1 d with d|d<;>simp[d]) u
def fb(sz:Nat)(L:List cc)(a:Nat):Prop:=∃p∈L,∃i,p.f i=true/\a=p.aC*1024+64+i*sz
theorem fb.at{sz a:Nat}(h:fb sz L a):∃(k aC i:Nat) (f:Nat->Bool),L[k]? =some ⟨aC,f⟩/\f i=true/\a=aC*1024+64+i*sz:=by obtain⟨⟨aC,f⟩,C,i,d,u⟩:=h;obtain⟨k,w⟩:=List.getElem?_of_mem C;exact⟨k,aC,i,f,w,d,u⟩
theorem lB.jF{sz:Nat}(g:lB many L L' aC i)(hs:0<sz)(a:Nat):fb sz L' a↔fb sz L a\/a=aC*1024+64+i*sz:=by cases g with|old A B f D E w H=>subst D;subst E;constructor;rintro⟨p,d,j,u,e⟩;rcases Vd.1 d with d|d;exact .inl ⟨p,by simp[d],j,u,e⟩;rcases Vp.1 d with rfl|d;dsimp only[ff]at u e;split at u;rename_i C;subst C;exact .inr e;exact .inl ⟨⟨aC,f⟩,by simp,j,u,e⟩;exact .inl ⟨p,by simp[d],j,u,e⟩;rintro(⟨p,d,j,u,e⟩|e);rcases Vd.1 d with d|d;exact⟨p,by simp[d],j,u,e⟩;rcases Vp.1 d with rfl|d;refine⟨⟨aC,ff f i⟩,by simp,j,?_,e⟩;dsimp only[ff]at u⊢;rw[al (λC=>by subst C;rw[w]at u;cases u)];exact u;exact⟨p,by simp[d],j,u,e⟩;exact⟨⟨aC,ff f i⟩,by simp,i,by dsimp only;rw[zI,w];rfl,e⟩|new A B D E w H N O=>subst D;subst E;subst w;constructor;rintro⟨p,d,j,u,e⟩;rcases Vd.1 d with d|d;exact .inl ⟨p,by simp[d],j,u,e⟩;rcases Vp.1 d with rfl|d;have:=dp u;subst this;exact .inr e;exact .inl ⟨p,by simp[d],j,u,e⟩;rintro(⟨p,d,j,u,e⟩|e);exact⟨p,by rcases Vd.1 d with d|d<;>simp[d],j,u,e⟩;exact⟨⟨aC,λj=>decide (j=0)⟩,by simp,0,show decide ((0:Nat)=0)=true from rfl,e⟩
theorem mQ.jF{sz:Nat}(g:mQ many L L' aC i)(h:oC many L)(hs:0<sz){a:Nat}(O:fb sz L a)(E:a≠aC*1024+64+i*sz):fb sz L' a:=by obtain⟨p,d,j,u,e⟩:=O;cases g with|stay A B f C D H=>subst C;subst D;rcases Vd.1 d with d|d;exact⟨p,by simp[d],j,u,e⟩;rcases Vp.1 d with rfl|d;refine⟨⟨aC,ff f i⟩,by simp,j,?_,e⟩;dsimp only[ff]at u⊢;rw[al (λw=>by subst w;exact E e)];exact u;exact⟨p,by simp[d],j,u,e⟩|gone A B f C D H N=>subst C;subst D;rcases Vd.1 d with d|d;exact⟨p,by simp[d],j,u,e⟩;rcases Vp.1 d with rfl|d;by_cases w:j=i;subst w;exact absurd e E;have:=N j (h.bd _ cE j u) w;dsimp only at u;rw[this]at u;cases u;exact⟨p,by simp[d],j,u,e⟩
end Go.QM
namespace Go.QM
open Go
variable{a:Nat}
theorem sF(h:a<2^64):(VW 64 (a:Int)).toNat=a:=by simp_all
theorem ow(h:a<2^63):IntKind.i64.wrap (a:Int)=(a:Int):=nQ U U
theorem pg(h:a<2^64):IntKind.u64.wrap (a:Int)=(a:Int):=yh U U
theorem T0(a:Nat):IntKind.u8.wrap (a:Int)=((a %256:Nat):Int):=by simp[IntKind.wrap,IntKind.signed,IntKind.bits]
theorem Kc{b:Nat}(d:a<2^63)(am:b<2^63):IntKind.i64.wrap (VW IntKind.i64.bits (a:Int)&&&VW IntKind.i64.bits (b:Int)).toNat=((a&&&b:Nat):Int):=by rw[BitVec.toNat_and,show IntKind.i64.bits=64 from rfl,sF U,sF U];exact ow (Nat.and_lt_two_pow _ am)
theorem QQ{b:Nat}(d:a<2^63)(am:b<2^63):IntKind.i64.wrap (VW IntKind.i64.bits (a:Int)|||VW IntKind.i64.bits (b:Int)).toNat=((a|||b:Nat):Int):=by rw[BitVec.toNat_or,show IntKind.i64.bits=64 from rfl,sF U,sF U];exact ow (Nat.or_lt_two_pow d am)
theorem Uv{b:Nat}(d:a<2^63)(am:b<2^63):IntKind.i64.wrap (VW IntKind.i64.bits (a:Int)^^^VW IntKind.i64.bits (b:Int)).toNat=((a^^^b:Nat):Int):=by rw[BitVec.toNat_xor,show IntKind.i64.bits=64 from rfl,sF U,sF U];exact ow (Nat.xor_lt_two_pow d am)
section
variable {P : Program} {ah : Env} {A : aw} {d : Option Nat} {ty : TypeId} {ps : String} {bk : Array Edge} {g : Option (Nat × Bool)} {t t' : TypeId} {x y : Operand} {a b c n : Nat}
theorem bG.to{o:Oper}{k:IntKind}{u v:Int}(h:bG P ah o A (.int k u))(e:u=v):bG P ah o A (.int k v):=by rwa[e]at h
theorem PM{u v:Int}{N:Array TypeId}(D:bh ah x=aa u)(E:bh ah y=aa v):
    bG P ah ⟨d,.call ⟨.builtin .max,#[x,y],N⟩,ty,ps,bk,g⟩ A (aa (max u v)):=
  λw _=>by
   by_cases h:u<=v;by_cases H:u=v;subst H;simp[execOp,resolve,invoke,builtin,YG,YH,D,E];have C:u<v:=U
   simp[execOp,resolve,invoke,builtin,YG,YH,D,E,C,Int.max_eq_right h];have C:¬u<v:=U
   simp[execOp,resolve,invoke,builtin,YG,YH,D,E,C,Int.max_eq_left (by omega:v<=u)]
theorem ru(C:bh ah x=aa a)(D:bh ah y=aa b)(u:a<2^63)(am:b<2^63)(w:a&&&b=c):
    bG P ah ⟨d,.binOp .and t x y t',ty,ps,bk,g⟩ A (aa c):=by subst w;exact vQ C D (Kc u am)
theorem s9(C:bh ah x=aa a)(D:bh ah y=aa b)(u:a<2^63)(am:b<2^63)(w:a|||b=c):
    bG P ah ⟨d,.binOp .or t x y t',ty,ps,bk,g⟩ A (aa c):=by subst w;exact Bh C D (QQ u am)
theorem Us(D:bh ah x=aa a)(E:bh ah y=aa b)(u:a<2^63)(am:b<2^63)(C:a^^^b=c):
    bG P ah ⟨d,.binOp .xor t x y t',ty,ps,bk,g⟩ A (aa c):=λw _=>by
  have h:=Uv u am
  rw[C]at h
  simp[execOp,D,E,eqGuard,binOp,Op.intBits]
  simpa using h
theorem nL{E:IntKind}(C:bh ah x=aa a)(D:bh ah y=.int E (n:Int))(au:n<=64)(u:a*2^n=c)(w:c<2^63):
    bG P ah ⟨d,.binOp .shl t x y t',ty,ps,bk,g⟩ A (aa c):=
  BH C D U (by
   subst u;rw[show min ((n:Int)).toNat IntKind.i64.bits=n from Xb au];have e:(a:Int)*2^n=((a*2^n:Nat):Int):=cE
   rw[e];exact ow w)
theorem jH{E:IntKind}(C:bh ah x=bm a)(D:bh ah y=.int E (n:Int))(u:a<2^64)(w:a/2^n=c):
    bG P ah ⟨d,.binOp .shr t x y t',ty,ps,bk,g⟩ A (bm c):=by subst w;exact Ss C D u
theorem kB(C:bh ah x=bm a)(D:bh ah y=bm b)(u:a<2^64)(am:b<2^64)(w:a&&&b=c):
    bG P ah ⟨d,.binOp .and t x y t',ty,ps,bk,g⟩ A (bm c):=by subst w;exact C6 C D u am
theorem p1(C:bh ah x=bm a)(D:bh ah y=bm b)(u:a<2^64)(am:b<2^64)(w:a|||b=c):
    bG P ah ⟨d,.binOp .or t x y t',ty,ps,bk,g⟩ A (bm c):=by subst w;exact QO C D u am
theorem Uu(C:bh ah x=bm a)(D:bh ah y=bm b)(u:a<2^64)(am:b<2^64)(w:a^^^b=c):
    bG P ah ⟨d,.binOp .xor t x y t',ty,ps,bk,g⟩ A (bm c):=by subst w;exact Ut C D u am
theorem lI(w:bh ah x=bm a)(C:bh ah y=bm b)(u:a+b=c)(h:c<2^64):
    bG P ah ⟨d,.binOp .add t x y t',ty,ps,bk,g⟩ A (bm c):=
  add w C (by subst u;rw[show(a:Int)+(b:Int)=((a+b:Nat):Int)by simp];exact pg h)
theorem P9(w:bh ah x=bm a)(C:bh ah y=bm b)(u:a*b %2^64=c):
    bG P ah ⟨d,.binOp .mul t x y t',ty,ps,bk,g⟩ A (bm c):=
  mul w C (by subst u;rw[show(a:Int)*(b:Int)=((a*b:Nat):Int)by simp,IntKind.wrap_u64];simp)
theorem th{D:IntKind}(w:bh ah x=bm a)(C:bh ah y=.int D (n:Int))(au:n<=64)(u:a*2^n %2^64=c):
    bG P ah ⟨d,.binOp .shl t x y t',ty,ps,bk,g⟩ A (bm c):=by subst u;exact HD w C au
theorem Qn(u:bh ah x=bm a)(w:a≠0)(h:a<2^64):
    bG P ah ⟨d,.unOp .neg t x,ty,ps,bk,g⟩ A (bm ((2^64-a:Nat):Int)):=
  neg u mw
end
end Go.QM
namespace Go.QM
open Go
theorem Pt{m:Nat->Nat}(h:oL m)(o:Nat){k:Nat}(D:k<8):kL m o k|||(m (o+k)*2^(8*k) %2^64)=kL m o (k+1):=by have d:=w6 h o k;have u:=h (o+k);have w:m (o+k)*2^(8*k)<2^64:=(by(have e:(2:Nat)^64=2^(64-8*k)*2^(8*k):=by rw[<-Nat.pow_add];congr 1;omega);rw[e];have C:2^8<=2^(64-8*k):=Vi an U;exact Yr (Xo u C) (Xj _));rw[Nat.mod_eq_of_lt w,QP d,kL]
def ka(m:Nat->Nat)(o:Nat)(L:List Nat)(k:Nat):Nat->Nat:=λi=>if o<=i/\i<o+k then L.getD ((i-o)/8) 0/2^(8*((i-o) %8)) %256 else m i
def dx(m:Nat->Nat)(o:Nat)(L:List Nat):Nat->Nat:=ka m o L (8*L.length)
theorem S2(m:Nat->Nat)(o:Nat)(L:List Nat):ka m o L 0=m:=funext λi=>by rw[ka,al U]
theorem S1(m:Nat->Nat)(o:Nat)(L:List Nat)(k:Nat):ka m o L (k+1)=λi=>if i=o+k then L.getD (k/8) 0/2^(8*(k %8)) %256 else ka m o L k i:=by funext i;rw[ka,ka];grind
theorem S0{m:Nat->Nat}(h:oL m)(o:Nat)(L:List Nat)(k:Nat):oL (ka m o L k):=λi=>by
  rw[ka];split
  · exact X0 _ an
  · exact h i
theorem HS{m:Nat->Nat}{o d:Nat}{L:List Nat}(h:d+8<=o\/o+8*L.length<=d):cU (dx m o L) d=cU m d:=
  uD λi u w=>by rw[dx,ka,al U]
theorem BP{m:Nat->Nat}{o j v:Nat}{L:List Nat}(d:L[j]? =some v)(hv:v<2^64):cU (dx m o L) (o+8*j)=v:=by have C:=(List.getElem?_eq_some_iff.1 d).1;have e:cU (dx m o L) (o+8*j)=cU (xW m (o+8*j) v) (o+8*j):=uD λi u w=>(by rw[dx,ka,az U,xW,xV,az U];grind);grind[Ps]
section
variable {r : Option Nat} {P : Program} {N : Nat} {ops : Array Oper} {l : List Oper} {Q : fj} {ah : Env} {aT : List Deferred} {A : aw} {K : Value → aw → Prop}
variable {d : Option Tmp} {ty : TypeId} {ps : String} {bk : Array Edge} {g : Option (Nat × Bool)}
variable {t t' : TypeId} {x y z : Operand}
theorem SC(E sz:Nat){u off n cap i j:Nat}(w:hq P t E sz=true)(C:bh ah x=.slice (some ⟨u,off,none⟩) n cap)(D:bh ah y=aa i)(H:bh ah z=aa j)(N:i<=j)(O:j<=cap)(Q:i<cap):
    bG P ah ⟨d,.slice t x (some y) (some z) none,ty,ps,bk,g⟩ A (.slice (some ⟨u,off+i*sz,none⟩) (j-i) (cap-i)):=by have h:=xR (P:=P) (A:=A) (d:=d) (ty:=ty) (ps:=ps) (bk:=bk) (g:=g) E sz w C D H U U U;have e:dM (some (⟨u,off,none⟩:Addr)) cap (i:Int).toNat sz=some ⟨u,off+i*sz,none⟩:=(by rw[dM,al U];simp[iG]);simp_all
theorem PU{hs:List aw}{E n:Nat}{z:Value}(bytes:Nat)(N:hq P t E 1=true)(O:rD P E 1 bytes=true)(aJ:ly P E=some z)(aT:z.cells=#[z])(W:bh ah x=aa n)(Z:bh ah y=aa n)(am:bytes*n<=281474976710656)(hm:n<=maxLen)
    (k:∀b,K (.slice (cM b) n n) (ag (aj b E (Vx n z)::hs))):cq r P ah ⟨d,.makeSlice t x y,ty,ps,bk,g⟩ (ag hs) K:=by
 obtain⟨inf,u,H,aq,aI,aB,a0⟩:=ua O;have au:u=z:=by grind[ly]
 subst au;have aD:maxLen=9223372036854775807:=rfl;have hw:IntKind.i64.wrap (n:Int)=n:=by grind[nQ]
 have D:((Array.range n).map ((if n=0 then #[]else u.cells)[· %(if n=0 then(#[]:Array Value)else u.cells).size]!))=(Vx n u).toArray:=cv;have av:((inf.bytes:Int)*(n:Int))<=281474976710656:=cv;have V:(decide ((n:Int)<0)||decide ((inf.bytes:Int)*(n:Int)>2^48))=false:=b6;refine cq.run rfl λw Q=>⟨.slice (cM w.heap.size) n n,w.alloc (.cells (Vx n u).toArray E),_,.inl ?_,⟨rfl,rfl,rfl,by simp⟩,nK _ Q,k w.heap.size⟩;have ar:∀w,(zeroValue E).run P w=.ok u w:=λw=>by simp[zeroValue,typeInfo,H,aq]
 simp only[execOp,Instr.makeSlice,Vz,h5 N,Vo,W,Z,asInt,asIntOf,VS,typeInfo,run_program,H,hw,V];rw[al cE];simp only[Vz,run_askRoom,h5 N,Vo,Int.toNat_natCast,Ww];by_cases C:n=0;rw[az C];simp only[az C]at D;simp only[Vz,Vo,VS,D,newRow,run_newObj];trivial;rw[al C];simp only[al C]at D;simp only[Vz,Vo,VS,ar,D,newRow,run_newObj];trivial
end
theorem KQ(n:Nat):i9 (λ_=>0) n=Vx n (nb 0):=by rw[i9,List.eq_replicate_iff];simp_all
theorem CN(b E o k:Nat)(l:List Value):cQ (aj b E l) E (some ⟨b,o,none⟩) ((l.drop o).take k):=λh d=>by
  by_cases u:o<=l.length
  · refine .inr ⟨⟨b,o,none⟩,l.take o,(l.drop o).drop k,(0,0),rfl,by simp[Xb u],?_⟩
    have e:l.take o++(l.drop o).take k++(l.drop o).drop k=l:=by rw[List.append_assoc,V1,V1]
    rw[d,e];simp
  · left;rw[List.drop_eq_nil_of_le U];simp
end Go.QM
namespace Go.QM
open Go
def dB:List Nat->Nat
  | []=>0
  | a::l=>a+256*dB l
theorem yM{a b c d:Nat}(E:a<256)(H:c<256):(a+256*b)&&&(c+256*d)=(a&&&c)+256*(b&&&d):=by
 have u:(a+256*b)&&&(c+256*d)=((a+256*b)&&&(c+256*d)) %2^8+2^8*(((a+256*b)&&&(c+256*d))/2^8):=U
 rw[u,Nat.and_mod_two_pow,Nat.and_div_two_pow];have w:(a+256*b) %2^8=a:=U
 have C:(c+256*d) %2^8=c:=U
 have D:(a+256*b)/2^8=b:=U
 grind
def nj(x:Nat):Nat->List Nat
  | 0=>[]
  | n+1=>x %256::nj (x/256) n
theorem y4:∀{n x:Nat},x<256^n->dB (nj x n)=x
  | 0,x,h=>by(have:x=0:=by simpa using h);subst this;rfl
  | n+1,x,h=>by
   have:x/256<256^n:=by rw[Ye]at h;exact Nat.div_lt_of_lt_mul U
   rw[nj,dB,y4 this];omega
theorem y2:∀(n x:Nat),(nj x n).length=n
  | 0,_=>rfl
  | n+1,x=>by rw[nj,VB,y2 n]
theorem y3:∀(n x:Nat),∀a∈nj x n,a<256
  | 0,_,_,h=>by cases h
  | n+1,x,a,h=>by rcases Vp.1 h with rfl|h;exact X0 _ an;exact y3 n _ a h
theorem tL{m:Nat}(hm:m<256):∀{l:List Nat},(∀a∈l,a<256)->dB l&&&dB (l.map λ_=>m)=dB (l.map λa=>a&&&m)
  | [],_=>by simp[dB]
  | a::l,h=>by rw[VM,VM,dB,dB,dB,yM (h a cE) hm,tL hm λb am=>h b o2]
theorem va{m s:Nat}(hm:m<256)(hs:s<=8)(w:m<2^(8-s)):∀{l:List Nat},(∀a∈l,a<256)->dB l/2^s&&&dB (l.map λ_=>m)=dB (l.map λa=>a/2^s&&&m)
  | [],_=>by simp[dB]
  | a ::l,h=>by
    have P:=h a cE
    have V:=va hm hs w (l:=l) λb am=>h b o2
    rw[VM,VM,dB,dB,dB,<-V]
    have d:2^(8-s)*2^s=256:=by rw[<-Nat.pow_add,Nat.sub_add_cancel hs]
    have C:0<2^s:=Xj s
    generalize dB l=x
    generalize dB (l.map λ_=>m)=y
    have D:(a+256*x)/2^s=a/2^s+2^(8-s)*x:=by
      rw[show a+256*x=a+2^s*(2^(8-s)*x)by rw[<-Nat.mul_assoc,WR (2^s),d],Nat.add_mul_div_left _ _ C]
    have E:(a/2^s+2^(8-s)*x)=(a/2^s+2^(8-s)*(x %2^s))+256*(x/2^s):=by
      have H:=Nat.mod_add_div x (2^s)
      have ah:2^(8-s)*x=2^(8-s)*(x %2^s)+256*(x/2^s):=by
        conv=>lhs;rw[<-H]
        rw[Nat.mul_add,<-Nat.mul_assoc,d]
      omega
    have u:a/2^s<2^(8-s):=Nat.div_lt_of_lt_mul (by rw[WR,d];exact P)
    have aq:x %2^s<2^s:=X0 _ C
    have am:a/2^s+2^(8-s)*(x %2^s)<256:=by
      have:2^(8-s)*(x %2^s)<=2^(8-s)*(2^s-1):=Nat.mul_le_mul_left _ U
      have N:2^(8-s)*(2^s-1)=256-2^(8-s):=by rw[Nat.mul_sub,d,Ww]
      have O:2^(8-s)<=2^8:=Vi an U
      rw[N]at this
      generalize 2^(8-s)*(x %2^s)=k at this⊢
      generalize 2^(8-s)=Z at this u O
      generalize a/2^s=W at u⊢
      omega
    rw[D,E,yM am hm]
    congr 1
    apply Nat.eq_of_testBit_eq
    intro j
    rw[Nat.testBit_and,Nat.testBit_and]
    by_cases Q:j<8-s
    · congr 1
      rw[Nat.add_comm,Nat.testBit_two_pow_mul_add _ u,az Q]
    · have:m.testBit j=false:=Nat.testBit_lt_two_pow (Xo w (Vi an U))
      rw[this,Bool.and_false,Bool.and_false]
theorem tK(f g:Nat->Nat):∀l:List Nat,dB (l.map f)+dB (l.map g)=dB (l.map λa=>f a+g a)
  | []=>rfl
  | a::l=>by rw[VM,VM,VM,dB,dB,dB,<-tK f g l];omega
def gh(v:Nat):Nat:=(v/2^1&&&85)+(v&&&85)
def hf(v:Nat):Nat:=(v/2^2&&&51)+(v&&&51)
def rY(v:Nat):Nat:=(v/2^4+v)&&&15
def oh(v:Nat):Nat:=rY (hf (gh v))
def GO(v:Nat):Bool:=decide (gh v<256)&&decide (hf (gh v)<256)&&decide (hf (gh v)/16<=4/\hf (gh v) %16<=4)&&decide (oh v<=8)&&(decide (oh v=0)==decide (v=0))
theorem QU:(V8 256).all GO=true:=by kernel_rfl
theorem Bk{v:Nat}(h:v<256):gh v<256/\hf (gh v)<256/\(hf (gh v)/16<=4/\hf (gh v) %16<=4)/\oh v<=8/\(oh v=0↔v=0):=by have d:=Xi.1 QU v (W1.2 h);simp only[GO,VP,decide_eq_true_eq,beq_iff_eq,decide_eq_decide]at d;omega
theorem A0:∀{l:List Nat},(∀a∈l,a<256/\a/16<=4/\a %16<=4)->(dB l/2^4+dB l)&&&dB (l.map λ_=>15)=dB (l.map rY)/\dB l %16<=4
  | [],_=>by simp[dB]
  | a::l,h=>by
   obtain⟨w,C,D⟩:=h a cE;obtain⟨u,d⟩:=A0 (l:=l) λb am=>h b o2;rw[VM,VM,dB,dB,dB,<-u];generalize dB l=y at d⊢;have e:(a+256*y)/2^4+(a+256*y)=(a/16+a+16*(y %16))+256*(y/2^4+y):=U
   refine⟨?_,by omega⟩;rw[e,yM U an];congr 1;rw[rY,show 15=2^4-1 from rfl,W2,W2];omega
def kp(x:Nat):Nat:=(x/2^1&&&6148914691236517205)+(x&&&6148914691236517205)
def l1(x:Nat):Nat:=(x/2^2&&&3689348814741910323)+(x&&&3689348814741910323)
def m5(x:Nat):Nat:=(x/2^4+x)&&&1085102592571150095
def o4(x:Nat):Nat:=x+x/2^8
def jE(x:Nat):Nat:=x+x/2^16
def s6(x:Nat):Nat:=x+x/2^32
def fv(x:Nat):Nat:=s6 (jE (o4 (m5 (l1 (kp x)))))&&&127
theorem eight{l:List Nat}(h:l.length=8):∃a b c d e f g i,l=[a,b,c,d,e,f,g,i]:=by match l,h with|[a,b,c,d,e,f,g,i],_=>exact⟨a,b,c,d,e,f,g,i,rfl⟩
theorem sW{l:List Nat}(h:l.length=8)(m:Nat):(l.map λ_=>m)=[m,m,m,m,m,m,m,m]:=by obtain⟨a,b,c,d,e,f,g,i,rfl⟩:=eight h;rfl
theorem UY{a:Nat}(y:Nat)(h:a<256):(a+256*y)/256=y:=by omega
theorem KP{s q:Nat}(h:s<=64):(s+256*q)&&&127=s:=by rw[show 127=2^7-1 from rfl,W2];omega
theorem Qu{a b c d e f g i:Nat}(O:a<=8)(am:b<=8)(P:c<=8)(Q:d<=8)(he:e<=8)(V:f<=8)(W:g<=8)(Z:i<=8){x:Nat}(H:x=a+256*(b+256*(c+256*(d+256*(e+256*(f+256*(g+256*i))))))):
    (x+x/2^8+(x+x/2^8)/2^16+(x+x/2^8+(x+x/2^8)/2^16)/2^32)&&&127=a+b+c+d+e+f+g+i:=by
 have w:x/2^8=b+256*(c+256*(d+256*(e+256*(f+256*(g+256*i))))):=U
 have u:x+x/2^8=(a+b)+256*((b+c)+256*((c+d)+256*((d+e)+256*((e+f)+256*((f+g)+256*((g+i)+256*i)))))):=U
 generalize x+x/2^8=y at u⊢;clear w H;have C:y/2^16=(c+d)+256*((d+e)+256*((e+f)+256*((f+g)+256*((g+i)+256*i)))):=U;have D:y+y/2^16=(a+b+c+d)+256*((b+c+d+e)+256*((c+d+e+f)+256*((d+e+f+g)+256*((e+f+g+i)+256*((f+g+i)+256*((g+i)+256*i)))))):=U
 generalize y+y/2^16=z at D⊢;clear u C;have N:z/2^32=(e+f+g+i)+256*((f+g+i)+256*((g+i)+256*i)):=U;have E:z+z/2^32=(a+b+c+d+e+f+g+i)+256*((b+c+d+e+f+g+i)+256*((c+d+e+f+g+i)+256*((d+e+f+g+i)+256*((e+f+g+i)+256*((f+g+i)+256*((g+i)+256*i)))))):=U
 rw[E];exact KP U
theorem KO{a y n:Nat}(h:a<256)(d:y<256^n):a+256*y<256^(n+1):=by omega
theorem A9:∀{l:List Nat},(∀a∈l,a<256)->dB l<256^l.length
  | [],_=>Nat.one_pos
  | a::l,h=>by rw[dB,VB];exact KO (h a cE) (A9 λb am=>h b o2)
theorem Gt:∀{l:List Nat},dB l=0↔∀a∈l,a=0
  | []=>by simp[dB]
  | a::l=>by have d:=Gt (l:=l);simp only[dB,Vp,forall_eq_or_imp,<-d];omega
def ov:List Nat->Nat
  | []=>0
  | a::l=>a+ov l
theorem HV:∀{l:List Nat},(∀a∈l,a<=8)->ov l<=8*l.length
  | [],_=>Vh _
  | a::l,h=>by have d:=h a cE;have u:=HV (l:=l) λb am=>h b o2;rw[ov,VB];omega
theorem HW:∀{l:List Nat},ov l=0↔∀a∈l,a=0
  | []=>by simp[ov]
  | a::l=>by have d:=HW (l:=l);simp only[ov,Vp,forall_eq_or_imp,<-d];omega
theorem Gn{l:List Nat}(h:l.length=8)(u:∀a∈l,a<=8):s6 (jE (o4 (dB l)))&&&127=ov l:=by obtain⟨a,b,c,d,e,f,g,i,rfl⟩:=eight h;simp only[Vp,List.not_mem_nil,or_false,forall_eq_or_imp,forall_eq]at u;obtain⟨w,be,C,d1,D,f1,g1,i1⟩:=u;have:=Qu w be C d1 D f1 g1 i1 (x:=dB [a,b,c,d,e,f,g,i]) (by simp only[dB,Nat.mul_zero,Nat.add_zero]);grind[s6,jE,o4,ov]
theorem Gr(i:Nat):∀l:List Nat,dB (l++[i])=dB l+256^l.length*i
  | []=>by simp[dB]
  | a::l=>by rw[VU,dB,dB,Gr i l,VB,Ye,Nat.mul_add,Nat.add_assoc];congr 2;rw[<-Nat.mul_assoc,WR 256]
theorem Gs{l:List Nat}(au:l.length=8){m:Nat}(hm:∀a∈l,a<m)(h:∀a∈l,a<256):dB l<256^7*m:=by obtain⟨a,b,c,d,e,f,g,i,rfl⟩:=eight au;have w:[a,b,c,d,e,f,g,i]=[a,b,c,d,e,f,g]++[i]:=rfl;rw[w]at hm h⊢;have u:=A9 (l:=[a,b,c,d,e,f,g]) λx C=>h x (List.mem_append_left _ C);have D:=hm i (List.mem_append_right _ cE);rw[Gr];generalize dB [a,b,c,d,e,f,g]=y at u⊢;simp only[VB,List.length_nil]at u⊢;omega
theorem Gq{x:Nat}(ah:x<2^64):fv x<=64/\(fv x=0↔x=0)/\kp x<2^64/\l1 (kp x)<2^63/\m5 (l1 (kp x))<2^60:=by
 have u:=y3 8 x;have au:=y2 8 x;have Q:dB (nj x 8)=x:=by grind[y4]
 generalize nj x 8=l at u au Q;subst Q;have t:=λa (d:a∈l)=>Bk (u a d);have w:kp (dB l)=dB (l.map gh):=(by have g1:=va (m:=85) (s:=1) an an an u;have g2:=tL (m:=85) an u;rw[sW au]at g1 g2;rw[kp,show 6148914691236517205=dB [85,85,85,85,85,85,85,85]from by decide,g1,g2,tK];rfl);have C:∀a∈l.map gh,a<256:=b6
 have N:(l.map gh).length=8:=b6
 have H:l1 (dB (l.map gh))=dB ((l.map gh).map hf):=(by have g1:=va (m:=51) (s:=2) an an an C;have g2:=tL (m:=51) an C;rw[sW N]at g1 g2;rw[l1,show 3689348814741910323=dB [51,51,51,51,51,51,51,51]from by decide,g1,g2,tK];rfl);have D:∀a∈(l.map gh).map hf,a<256/\a/16<=4/\a %16<=4:=λa d=>cv;have O:((l.map gh).map hf).length=8:=b6
 have V:m5 (dB ((l.map gh).map hf))=dB (l.map oh):=(by have g1:=(A0 D).1;rw[sW O]at g1;rw[m5,show 1085102592571150095=dB [15,15,15,15,15,15,15,15]from by decide,g1,X1,X1];rfl);have E:∀a∈l.map oh,a<=8:=b6
 have P:(l.map oh).length=8:=b6
 have W:fv (dB l)=ov (l.map oh):=by grind[fv,Gn]
 have be:=A9 C;have Z:=HV E;rw[N]at be;rw[P]at Z;refine⟨by rw[W];omega,?_,by rw[w];exact be,?_,?_⟩;grind[HW,Gt];rw[w,H];exact Xo (Gs O (m:=80) (λa d=>by have:=D a d;omega) (λa d=>(D a d).1)) an;rw[w,H,V];exact Xo (Gs P (m:=9) (λa d=>Nat.lt_succ_of_le (E a d)) (λa d=>Nat.lt_of_le_of_lt (E a d) an)) an
end Go.QM
namespace Go.QM
open Go
section
variable {P : Program} {b : Frame} {a : Act} {k : List Item} {cs : List Frame} {w : World}
theorem S3{c:Code}:step P (lone (b.atR a (.code (.scope c)::k)) cs w)=.next (lone (b.atR a (.code c::.inScope c::k)) cs w):=
  step_lone_go (by simp[stepG,stepG.exec,Frame.atR])
theorem HU{c:Code}:step P (lone (b.atR a (.inScope c::k)) cs w)=.next (lone (b.atR a k) cs w):=
  step_lone_go (by simp[stepG,stepG.exec,Frame.atR])
end
def CE(l:Nat)(bu:Act->World->Prop)(Q:Exit->Act->World->Prop):Exit->Act->World->Prop
  | .goto l',a,w=>l'=l/\bu a w
  | e,a,w=>Q e a w
theorem Uf{F:Fence}{n:Nat}{P:Program}{Q:Exit->Act->World->Prop}{a:Act}{w:World}{c rest:Code}(l:Nat)(bu:Nat->Act->World->Prop)(a0:findLabel c l=some rest)
    (first:c.wpIn F n P (CE l (λa' H=>∃m,bu m a' H) Q) a w)
    (pass:∀m a w,bu m a w->rest.wpIn F n P (CE l (λa' H=>∃m',m'<m/\bu m' a' H) Q) a w):(Code.scope c).wpIn F n P Q a w:=by
 intro b k cs aD am N;have aB:gotoIn l (.inScope c::k)=some (.code rest::.inScope c::k):=by grind[gotoIn]
 have key:∀j a w,bu j a w->
     ∃e a' H,Q e a' H/\ArrivesIn (Machine.fenced P F) P (lone (b.atR a (.code rest::.inScope c::k)) cs w) b k cs e a' H:=by
   intro j
   induction j using Nat.strongRecOn with
   | _ j aJ=>
     intro a w fH
     obtain⟨e,u,D,C,d⟩:=pass j a w fH b (.inScope c::k) cs aD am N
     cases e with
     | normal=>exact⟨.normal,u,D,C,StepsIn.trans d (.one (fenced_calm am N rfl) HU)⟩
     | exit id=>exact⟨_,u,D,C,⟨λav ar=>d.1 av (by simp[exitTo,ar]),λW Z=>d.2 W (by simp[exitTo,Z])⟩⟩
     | goto aT=>
       obtain⟨rfl,m',aI,ah⟩:=C
       obtain⟨V,O,aw,au,aq⟩:=aJ m' aI u D ah
       exact⟨V,O,aw,au,.of_steps (d.1 _ aB) aq⟩
     | ret=>exact⟨_,u,D,C,d⟩
     | panic hN=>exact⟨_,u,D,C,d⟩
     | outgrown=>exact⟨_,u,D,C,d⟩
 have E:StepsIn (Machine.fenced P F) P (lone (b.atR a (.code (.scope c)::k)) cs w) (lone (b.atR a (.code c::.inScope c::k)) cs w):=.one (fenced_calm am N rfl) S3;obtain⟨e,u,D,C,d⟩:=first b (.inScope c::k) cs aD am N
 cases e with|normal=>exact⟨.normal,u,D,C,.of_steps E (StepsIn.trans d (.one (fenced_calm am N rfl) HU))⟩|exit id=>exact⟨_,u,D,C,.of_steps E ⟨λav ar=>d.1 av (by simp[exitTo,ar]),λW Z=>d.2 W (by simp[exitTo,Z])⟩⟩|goto aT=>obtain⟨rfl,m,ah⟩:=C;obtain⟨V,O,aw,au,aq⟩:=key _ u D ah;exact⟨V,O,aw,au,.of_steps E (.of_steps (d.1 _ aB) aq)⟩|ret=>exact⟨_,u,D,C,.of_steps E d⟩|panic hN=>exact⟨_,u,D,C,.of_steps E d⟩|outgrown=>exact⟨_,u,D,C,.of_steps E d⟩
def so(l:Nat)(bu:Env->List Deferred->aw->Prop)(Q:fj):fj
  | .goto l',ah,aT,A=>l'=l/\bu ah aT A
  | e,ah,aT,A=>Q e ah aT A
section
variable {r : Option Nat} {P : Program} {N : Nat} {Q : fj} {ah : Env} {aT : List Deferred} {A : aw}
theorem ab.scope{ι:Type}{c rest:Code}(l:Nat)(inv:ι->Prop)(L:ι->List (Nat×Value))(B:ι->aw)(V:ι->Nat)(a9:findLabel c l=some (.seq .skip rest))
    (pass:∀i,inv i->∀d,ab r P N rest (so l (λD C u=>C=aT/\∃j,inv j/\V j<V i/\oW D (L j)/\aG u (B j)) Q) (cx d (L i)) aT (B i))
    (first:(∀i,inv i->∀d,ab r P N rest (so l (λD C u=>C=aT/\∃j,inv j/\oW D (L j)/\aG u (B j)) Q) (cx d (L i)) aT (B i))->
      ab r P N c (so l (λD C u=>C=aT/\∃j,inv j/\oW D (L j)/\aG u (B j)) Q) ah aT A):ab r P N (.scope c) Q ah aT A:=by
 intro a w bb bg;refine Uf l (λm ar Z=>fp w Z/\∃i d,inv i/\cg N ar (cx d (L i)) aT/\sat Z (B i)/\V i=m) a9 ?_ ?_;refine wpIn_mono (first (λi aB d=>(pass i aB d).mono λe D C u h=>?_) a w bb bg) ?_;cases e with|goto aJ=>obtain⟨a1,a2,j,a3,_,a4,a5⟩:=h;exact⟨a1,a2,j,a3,a4,a5⟩|_=>exact h
 rintro e ar Z ⟨s,W,au,aq,E,H,O⟩;cases e with|goto aJ=>obtain⟨rfl,rfl,j,aD,aI,av⟩:=O;exact⟨rfl,V j,s,j,W,aD,by rw[ra aI];exact E,H.bf av,rfl⟩|_=>exact⟨s,W,au,aq,E,H,O⟩
 rintro m a0 cG ⟨s1,i,d,aB,bd,bh,rfl⟩;refine wpIn_seq (wpIn_skip ?_);refine wpIn_mono (pass i aB d a0 cG bd bh) ?_;rintro e ar Z ⟨s,W,au,aq,E,H,O⟩;cases e with|goto aJ=>obtain⟨rfl,rfl,j,aD,ba,aI,av⟩:=O;exact⟨rfl,V j,ba,s1.trans s,j,W,aD,by rw[ra aI];exact E,H.bf av,rfl⟩|_=>exact⟨s1.trans s,W,au,aq,E,H,O⟩
theorem ab.enter{ι:Type}{c:Code}{inv:ι->Prop}{L:ι->List (Nat×Value)}{B:ι->aw}(h:∀i,inv i->∀w,ab r P N c Q (cx w (L i)) aT (B i))(i0:ι)(d:inv i0)(u:oW ah (L i0))(he:aG A (B i0)):
    ab r P N c Q ah aT A:=by have:=h i0 d ah;rw[ra u]at this;exact this.bf he
variable {K : Env → List Deferred → aw → Prop} {i j : Nat}
theorem oZ(h:Q .normal ah aT A):so i K Q .normal ah aT A:=h
theorem Fi(h:Q .ret ah aT A):so i K Q .ret ah aT A:=h
theorem OT(h:K ah aT A):so i K Q (.goto i) ah aT A:=⟨rfl,h⟩
theorem gt(h:Q (.goto j) ah aT A):oH K Q (.goto j) ah aT A:=h
theorem hi(h:Q (.goto j) ah aT A):pl i Q (.goto j) ah aT A:=h
end
theorem ud{α:Type}{f g:α->aw}(i j k:Nat){hs dT u w gs:List aw}{L M:List α}{A B:aw}(a b:α)(C:eX i hs=some (A,dT))(D:eX j dT=some (B,u))(d:eX k u=some (b8 f L,w))(aE:A=g a)(aU:B=g b)
    (E:∀x∈L,f x=g x) (H:(a::b::L).Perm M) (N:aG (ag w) (ag gs)):aG (ag hs) (ag (b8 g M::gs)):=by subst aE;subst aU;rw[y0 E]at d;refine(fO C).trans ((dv (VJ _) (fO D)).trans ?_);refine(dv (VJ _) (dv (VJ _) (fO d))).trans ?_;refine(dv (VJ _) mH).trans (mH.trans (dv ?_ N));exact vV (f:=g) H
def mX(a:Int×Int):Value:=.agg (ints [a.1,a.2]).toArray
theorem Eo{P:Program}{u:TypeId}(h:rE P u 2=true)(a:Int×Int)(w:World):∀(m:List ((Int×Int)×Value)) (es:List MapEntry) (i:Nat),es.map (λe=>(e.key,e.val))=m.map (λt=>(mX t.1,t.2))->
    (Instr.findAsking u (mX a) es i).run P w=.ok (kE a m i) w
  | [],es,i,he=>by cases es with|nil=>rfl|cons e es=>simp at he
  | t ::m,es,i,he=>by
    cases es with
    | nil=>simp at he
    | cons e es=>
      simp only[VM,List.cons.injEq,Prod.mk.injEq]at he
      obtain⟨⟨C,D⟩,E⟩:=he
      have heq:=(D2 h [a.1,a.2] [t.1.1,t.1.2] rfl rfl w).1
      have H:(Op.equal u (mX a) (mX t.1)).run P w=.ok (decide (a=t.1)) w:=by
        refine Eq.trans heq (congrArg (λx=>Result.ok x w) ?_)
        rw[decide_eq_decide]
        obtain⟨N,a2⟩:=a
        obtain⟨⟨be,bA⟩,v⟩:=t
        simp
      simp only[Instr.findAsking,C,Vz,H,Vo,kE]
      by_cases d:a=t.1
      · rw[az (by simpa using d),az d,VS,D]
      · rw[al (by simpa using d),al d]
        exact Eo h a w m es (i+1) E
theorem Dr{P:Program}{n:Nat}(kD:Bool)(xs:List Int)(V:xs.length=n)(w:World):∀(d:List Field) (m:Nat),m<=n->oQ P n d m=true->
    (forIn (m:=Sem) d PUnit.unit λf _=>do
        if f.name ≠ "_" then Instr.checkKey kD 9999 f.type (← part f.type (ints xs).toArray f.offset)
        pure (ForInStep.yield PUnit.unit)).run P w=.ok PUnit.unit w
  | [],m,_,_=>by simp
  | f ::d,m,hm,h=>by
    simp only[oQ,VP]at h
    obtain⟨⟨⟨N,E⟩,C⟩,H⟩:=h
    have E:=VA E
    have hu:P.underlying f.type=some (.int .i64):=by
      cases hu:P.underlying f.type with
      | none=>rw[hu]at C;cases C
      | some u=>rw[hu]at C;cases u<;>first|(cases C;done)|(rename_i k;cases k<;>first|(cases C;done)|rfl)
    have W:m<n:=by
      rcases Nat.lt_or_ge m n with h|h
      · exact h
      · exfalso
        have Q:∀(d:List Field) (m:Nat),n<m->oQ P n d m=true->False:=by
          intro d
          induction d with
          | nil=>intro m hm h;have:=VA h;omega
          | cons f d D=>intro m hm h;simp only[oQ,VP]at h;exact D _ U h.2
        exact Q d (m+1) U H
    have gh:(part f.type (ints xs).toArray f.offset).run P w=.ok (aa xs[m]) w:=by
      have O:mz P f.type=true:=by simp[mz,hu]
      simp[part,ut O,E,ints,show m<xs.length by omega]
    have hf:(XU kD 9999 f.type (aa xs[m])).run P w=.ok () w:=by
      rw[show(9999:Nat)=9998+1 from rfl]
      unfold XU
      simp[underlying,hu]
    have au : f.name ≠ "_" := by simpa using N
    have D:=Dr kD xs V w d (m+1) U H
    simp only[List.forIn_cons,Vz,au,ne_eq,not_false_eq_true,if_true,Vo,gh,hf,VS]at D⊢
    exact D
theorem dP.pair{P:Program}{D:TypeId}(h:rE P D 2=true):dP P D mX where
  n2 :=λkD a w=>by
    have C:=h
    unfold rE at C
    cases hu:P.underlying D with
    | none=>rw[hu]at C;cases C
    | some u=>
      rw[hu]at C
      cases u with
      | struct d=>
        simp only[VP,Bool.not_eq_true']at C
        rw[show(10000:Nat)=9999+1 from rfl,XU]
        simp only[Vz,underlying,run_program,Vo,hu,mX]
        have:=Dr kD [a.1,a.2] rfl w d.toList 0 (Vh _) C.1.1
        rw[Array.forIn_toList]at this
        simpa using this
      | _=>cases C
  find:=λa m es w he=>by
    have H:∃d,P.underlying D=some (.struct d):=by
      unfold rE at h
      cases hu:P.underlying D with
      | none=>rw[hu]at h;cases h
      | some u=>
        rw[hu]at h
        cases u with
        | struct d=>exact⟨d,rfl⟩
        | _=>cases h
    obtain⟨d,hu⟩:=H
    have au:∀(es:List MapEntry),es.map (λe=>(e.key,e.val))=m.map (λt=>(mX t.1,t.2))->XK (.struct d) (mX a) es 0=none\/es=[]:=by
      intro es he
      cases es with
      | nil=>exact .inr rfl
      | cons e es=>left;simp[XK,mX,Instr.sameNow]
    rcases au es he with E|E
    · simp[Instr.findKey,underlying,hu,E,Eo h a w m es 0 he]
    · subst E
      have:m=[]:=by cases m with|nil=>rfl|cons t m=>simp at he
      subst this
      simp[Instr.findKey,underlying,hu,XK,kE]
  same:=λa=>by
    rw[show(10000:Nat)=9999+1 from rfl]
    simp[mX,ints,Instr.sameBits]
end Go.QM
namespace Go.QM
open Go
section
variable {r : Option Nat} {P : Program} {N : Nat} {ops : Array Oper} {Q : fj} {ah : Env} {aT : List Deferred} {A I : aw} {T : List Nat} {c : List (Nat × Bool)} {listed : Array Bool} {m : Nat}
def Bf(ops:Array Oper)(T:List Nat)(listed:Array Bool)(i:Nat):Bool:=(V2 .any ops listed).contains i&&Region.free .any ops listed i&&T.all (λj=>qx ops 9 j i)
def ea (r:Option Nat) (P:Program) (N:Nat) (ops:Array Oper) (I:aw) (T:List Nat) (listed:Array Bool) (m:Nat) (Q:fj) (ah:Env) (aT:List Deferred) (A:aw):Prop:=
  ∀ a w,cg N a ah aT->sat w A->sat w I->po ops listed->XE ops=true->(∀(j:Nat) (o:Oper),ops[j]? =some o->iV o.op=true)->
    ox (mP r) 0 P ops (mf (ee N w Q)) (λw=>sat w I) T m listed a w
theorem ea.of(c:List (Nat×Bool))(aU:pC ops T c listed=true)(hm:c.length=m)(h:cd r P N ops I T c Q ah aT A):ea r P N ops I T listed m Q ah aT A:=by intro a w D E d u H C;subst hm;exact h a w listed D E ⟨w,d⟩ (.inl d) u H C aU
theorem ea.bf{B:aw}(e:aG A B)(h:ea r P N ops I T listed m Q ah aT B):ea r P N ops I T listed m Q ah aT A:=λa w x y=>h a w x (y.bf e)
theorem ea.quiet{i:Nat}{o:Oper}{v:Value}(E:ops[i]? =some o)(Z:jR N o.dst=true)(H:Bf ops T listed i=true)
    (av:∀a,cg N a ah aT->kz P ops (λw=>sat w I) o v a) (h:ea r P N ops I T (listed.setIfInBounds i true) m Q (jX ah o.dst v) aT A):ea r P N ops I T listed (m+1) Q ah aT A:=by
 intro a w O au d u V D;simp only[Bf,VP]at H;obtain⟨⟨aw,aq⟩,W⟩:=H;have C:i∈V2 .any ops listed:=b6
 have:=h (a.put o.dst v) w (O.put Z v) au d (u.set C) V D;exact Cd (vA r) E (Region.noSelect_spec V) D (λc a w h=>h.elim) (.inr ⟨rfl,λj ar=>Xi.1 W j ar⟩) m listed a w u (Region.free_spec E aq) C (av a O) d this
theorem ea.step{i:Nat}{o:Oper}(au:ops[i]? =some o)(O:o.guard=none)(H:jR N o.dst=true)
    (h:cq r P ah o A (λv bl=>aG bl I/\ea r P N ops I T (listed.setIfInBounds i true) m Q (jX ah o.dst v) aT bl)) {a:Act} {w:World} (hr:cg N a ah aT) (hs:sat w A) (E:po ops listed)
    (av:XE ops=true) (ar:∀(j:Nat) (o:Oper),ops[j]? =some o->iV o.op=true) (W:i∈V2 .any ops listed):
    wpOpIn (mP r) 0 P ops (mf (ee N w Q)) i (λa' d=>(i∉T->sat w I->sat d I)/\ox (mP r) 0 P ops (mf (ee N w Q)) (λw=>sat w I) T m (listed.setIfInBounds i true) a' d) a w:=by
 unfold wpOpIn;rw[au];simp only[];rw[az (by simp[VL,O])];refine Oper.yf ?_ (h a w hr.eval hs);rintro a' d ⟨v,bl,rfl,s,u,C,Z⟩;have V:=Z _ d (hr.put H v) u (u.bf C) (E.set W) av ar;have aq:∀e a D,mf (ee N d Q) e a D->mf (ee N w Q) e a D:=by grind[vF]
 exact⟨λ_ _=>u.bf C,sd aq m _ _ _ V⟩
theorem ea.t8{i:Nat}{o:Oper}(V:ops[i]? =some o)(E:o.guard=none)(D:jR N o.dst=true)(d:(V2 .any ops listed==[i])=true)
    (h:cq r P ah o A (λv bl=>aG bl I/\ea r P N ops I T (listed.setIfInBounds i true) m Q (jX ah o.dst v) aT bl)):ea r P N ops I T listed (m+1) Q ah aT A:=by
 intro a w W Z _ C aq O;rw[beq_iff_eq]at d;refine⟨λar=>(by rw[ar]at d;cases d),λj u=>?_⟩;have H:=u;rw[d]at u;obtain rfl:j=i:=by simpa using u
 exact ea.step V E D h W Z C aq O H
theorem ea.fork{i j:Nat}{d u:Oper}(aD:ops[i]? =some d)(aI:ops[j]? =some u)(au:d.guard=none)(av:u.guard=none)(aq:jR N d.dst=true)(ar:jR N u.dst=true)(D:(V2 .any ops listed==[i,j])=true)
    (aw:cq r P ah d A (λv bl=>aG bl I/\ea r P N ops I T (listed.setIfInBounds i true) m Q (jX ah d.dst v) aT bl))
    (aB:cq r P ah u A (λv bl=>aG bl I/\ea r P N ops I T (listed.setIfInBounds j true) m Q (jX ah u.dst v) aT bl)):ea r P N ops I T listed (m+1) Q ah aT A:=by
 intro a w V W _ E Z O;rw[beq_iff_eq]at D;refine⟨λaJ=>(by rw[aJ]at D;cases D),λk C=>?_⟩;have H:=C;rw[D]at C;have C:k=i\/k=j:=b6
 rcases C with rfl|rfl;exact ea.step aD au aq aw V W E Z O H;exact ea.step aI av ar aB V W E Z O H
section
variable {op GI : Op} {ty Iu : TypeId} {ps G1 : String} {bk CW : Array Edge} {t t' i j : Nat} {v : Value}
theorem dm(C:ops[i]? =some ⟨some t,op,ty,ps,bk,none⟩)(u:iV op=true)(d:W9 t N=true)(D:Bf ops T listed i=true)(O:bG P ah ⟨some t,op,ty,ps,bk,none⟩ I v)
    (h:ea r P N ops I T (listed.setIfInBounds i true) m Q (hS ah t v) aT A):ea r P N ops I T listed (m+1) Q ah aT A:=
  ea.quiet C d D (λa E=>⟨u,.inl ⟨by simp[VL],λw H=>by rw[E.eval];exact O w H⟩⟩) h
theorem jM(D:ops[i]? =some ⟨some t,op,ty,ps,bk,none⟩)(E:ops[j]? =some ⟨some t',GI,Iu,G1,CW,none⟩)(d:W9 t N=true)(u:W9 t' N=true)(H:(V2 .any ops listed==[i,j])=true)
    (w:cq r P ah ⟨some t,op,ty,ps,bk,none⟩ A (λv bl=>aG bl I/\ea r P N ops I T (listed.setIfInBounds i true) m Q (hS ah t v) aT bl))
    (C:cq r P ah ⟨some t',GI,Iu,G1,CW,none⟩ A (λv bl=>aG bl I/\ea r P N ops I T (listed.setIfInBounds j true) m Q (hS ah t' v) aT bl)):ea r P N ops I T listed (m+1) Q ah aT A:=
  ea.fork D E rfl rfl d u H w C
end
theorem ab.oO{id:Nat}{l:List Oper}(I:aw)(T:List Nat)(m:Nat)(ar:l.toArray.size=m)(hm:P.follows .mixedOrders=true)(aU:(XE l.toArray&&l.toArray.all (λo=>iV o.op))=true)(O:aG A I)
    (h:ea r P N l.toArray I T (Array.replicate m false) m Q ah aT A):ab r P N (.region id l.toArray true) Q ah aT A:=by
 intro a w aq D;subst ar;simp only[VP]at aU;obtain⟨E,H⟩:=aU;have V:=h a {w with drawn:=w.drawn+1} aq D (sat.bf (w:={w with drawn:=w.drawn+1}) D O) (by intro j o C u;(have W:j<l.toArray.size:=by grind);rw[Array.getD_eq_getD_getElem?,Array.getElem?_replicate,az W]at u;cases u) E (λj o C=>Array.all_eq_true_iff_forall_mem.1 H o (Array.mem_of_getElem? C))
 have Z:∀e a d,mf (ee N {w with drawn:=w.drawn+1} Q) e a d->ee N w Q e a d:=λe a d h=>
   CI (vF (w0:=w) (w:={w with drawn:=w.drawn+1}) ⟨rfl,rfl,rfl,Vj _⟩ h)
 exact wpIn_region_any hm (Ce _ _ _ _ (sd Z _ _ _ _ V))
end
end Go.QM
namespace Go.QM
open Go
section
variable {P : Program} {ah : Env} {A : aw} {d : Option Nat} {ty : TypeId} {ps : String} {bk : Array Edge} {g : Option (Nat × Bool)} {t t' : TypeId} {x y : Operand}
end
end Go.QM
