/- Proved here: contracts, each under its own premises. -/
import Derived.Test.YtglgidjhoncphaaGreatDoorHa
import Derived.Laws.Bits64b
import Derived.Lib.TrailingZeros
set_option linter.all false
set_option maxRecDepth 4000
set_option maxHeartbeats 4000000
open List renaming length_append->mp,getElem?_eq_getElem->Vc,mem_singleton->Vd,mem_append->Ve,length_singleton->Vl,getElem?_eq_some_iff->Vm,mem_cons->Vq,mem_map->Vs,take_add_one->Vt,getD_eq_getElem?_getD->Vu,nodup_cons->Vw,length_cons->Vy,mem_filter->VE,map_cons->VF,filter_eq_self->VK,take_length->VY,nodup_nil->V1,length_set->V6,append_nil->V9,getElem?_of_mem->Wa,length_map->Wb,perm_append_singleton->We,range->Wo,map_congr_left->Wq,filter_cons_of_neg->Wt,filter_sublist->WE,length_take->WN,drop_drop->WP,length->WY,filter_filter->WZ,map_nil->W5,foldl_cons->Xl,append_of_mem->Xz,filter_eq_nil_iff->XI,find?_cons->XN,map_map->XZ,filter_append->Ye,filter_map->Yu,replicate->VA,cons_append->VM,take_append_drop->V4,all_eq_true->Xf,pairwise_cons->XU,mem_range->Yl
open Nat renaming le_refl->Vi,zero_le->Vj,le_of_ble_eq_true->Vp,mul_comm->WR,pow_le_pow_right->Vk,eq_of_beq_eq_true->VC,mul_one->Wz,and_two_pow_sub_one_eq_mod->W0,blt->W7,min_eq_left->W9,two_pow_pos->Xg,lt_of_lt_of_le->Xk,mod_lt->XY,pow_succ->Yd,testBit_xor->Yx,mul_lt_mul_of_pos_right->Yy
open Go.Value renaming oneCell'->VO,slice->V0,int->V3,bool->Ww
open Bool renaming and_eq_true->VQ,eq_iff_iff->XP
open Go.Proofs.Tryz renaming prog->VU
open Int renaming eq_ofNat_of_zero_le->Wk,sub_self->YL
open Option.some renaming injEq->WQ
open List.cons renaming inj->Xh
open Ne renaming symm->Xq
open List.Perm renaming refl->Xv
open List.Sublist renaming refl->XD
open List.Pairwise renaming nil->Yw
open Function renaming comp_apply->YT
open BitVec renaming ofInt->VX
open Go.Result renaming andThen_ok->Vo
open Go.Sem renaming run_bind->VB,run_pure->VT
open Go.Region renaming wanted->VN,ready->V5,noSelect->XA
open Go.Lib renaming ctz->Xy
open Go.Instr renaming findNow->XG,checkKey->XR
open Go.Builtin renaming max_->YN,max2->YO
open Go.QM.ab renaming aA->Vf,loop->VP,bg->WD
open Go.QM.aU renaming known->VL
open Go.QM.aG renaming refl->VW
open Go.QM.dR renaming int->Yh
open Go.QM.b4 renaming i->YE
namespace Go.Proofs.Q.Rd
open Go Go.QM
theorem ur(xs:List Int)(k:Nat):(ints xs).take (k*1)=ints (xs.take k):=by simp[ints,List.map_take]
theorem rG:∀(xs:List Int),(ints xs).all VO=true
 | []=>rfl
 | x::xs=>by have:=rG xs;rw[ints]at this⊢;rw[VF,List.all_cons,this];rfl
variable{xs:List Int}{i:Nat}
theorem wM(h:i<xs.length){o:Nat}(d:o=i*1)(v:Int):dM o [aa v] (ints xs)=ints (xs.set i v):=by rw[d,Nat.mul_one,List.set_eq_take_append_cons_drop,ax h];simp[dM,ints]
theorem pM(xs d:List Int):ints xs++ints d=ints (xs++d):=by simp[ints]
def gP(pr:Int->Bool):Int->Bool:=λx=>!pr x
structure hD(xs:List Int)(pr:Int->Bool)(i j:Nat)(o7:List Int):Prop where
  len:o7.length=xs.length
  kG:i<j
  oT:j<=xs.length
  tk:o7.take i=(xs.take j).filter (gP pr)
  n4:o7.drop j=xs.drop j
variable{pr:Int->Bool}
theorem hD.start{k:Nat}(h:xs.findIdx? pr=some k):hD xs pr k (k+1) xs:=by rw[List.findIdx?_eq_some_iff_getElem]at h;obtain⟨d,u,ao⟩:=h;refine⟨rfl,by omega,d,?_,rfl⟩;grind[Vt,gP,VK,List.getElem_of_mem,WN]
theorem hD.nu{j:Nat}{d:List Int}(h:hD xs pr i j d)(w:j<xs.length){x:Int}(D:xs[j]? =some x)(C:pr x=false):hD xs pr (i+1) (j+1) (d.set i x) where
 len:=by rw[V6];exact h.len
 kG:=by have:=h.kG;omega
 oT:=w
 tk:=by
  have E:=h.len;have u:=h.kG
  rw[Vt,List.getElem?_set_self U,Vt,D,Ye,<-h.tk]
  rw[List.take_set_of_le (Vi i)]
  simp[gP,C]
 n4:=by
  have u:=h.kG
  rw[List.drop_set_of_lt U]
  rw[<-WP,h.n4,WP]
theorem hD.skip{j:Nat}{d:List Int}(h:hD xs pr i j d)(u:j<xs.length){x:Int}(C:xs[j]? =some x)(w:pr x=true):hD xs pr i (j+1) d where
 len:=h.len
 kG:=by have:=h.kG;omega
 oT:=u
 tk:=by rw[Vt,C,Ye,h.tk];simp[gP,w]
 n4:=by rw[<-WP,h.n4,WP]
theorem hD.get{j:Nat}{d:List Int}(h:hD xs pr i j d){x:Int}(w:xs[j]? =some x):d[j]? =some x:=by
 have u:(d.drop j)[0]? =(xs.drop j)[0]? :=by rw[h.n4]
 simp_all
theorem hD.done{u:List Int}(h:hD xs pr i xs.length u):u.take i=xs.filter (gP pr)/\(xs.filter (gP pr)).length=i:=by have d:=h.tk;rw[VY]at d;refine⟨d,?_⟩;rw[<-d,WN];have:=h.len;have:=h.kG;omega
theorem zu(h:xs.findIdx? pr=none):xs.filter (gP pr)=xs:=by grind[VK,gP]
theorem Ae(ad:Option Addr)(cap:Nat)(xs:List Int)(gU:FuncId)(lb:List Value)(pr:Int->Bool)(D:ay->Prop)(O:∀x,bn gU ([aa x]++lb) D [] (.bool (pr x)) [])(Z:xs.length<=1000000000):eF VU 340 [.slice ad xs.length cap,.func (.func gU) #[] lb.toArray] (λF=>(∃E,cQ F E ad (ints xs))/\D (ah [F])) [] (λ_:Unit=>aa (match xs.findIdx? pr with|some i=>(i:Int)|none=>-1)) (λ_=>True) (λ_=>[]):=by
 apply aF Tryz.func340 Tryz.ntmps340;intro F ⟨⟨E,H⟩,N⟩;apply J [8];haveI:bi F ad E (ints xs):=⟨H⟩;refine J [35,33,177,567] ?_;rintro k ⟨hinv,eM⟩ ag;dsimp only[cy]at hinv eM⊢;apply J [42];apply Vf rfl<;>intro C;have C:k<xs.length:=U
 obtain⟨t,w⟩:∃t,xs[k]? =some t:=⟨xs[k],Vc C⟩;have W:0<(ints xs).length:=by grind[dP]
 refine J [60,140,24,339,319,365] ?_;refine q rfl rfl (dB rfl rfl (gW w)) ?_;refine e rfl ?_;refine k5 (O t) rfl rfl (ev _) N ?_;intro _ _;apply J [151,2];cases V:pr t with|true=>?_|false=>?_
 apply J [12,140,166];have d:xs.findIdx? pr=some k:=by grind[wx]
 exact YE () [_] ⟨rfl,trivial⟩ (by rw[d];rfl) trivial ai;refine J [23,111] ?_;exact⟨rfl,(k+1),⟨by omega,λj u P hu=>by rcases Nat.lt_succ_iff_lt_or_eq.1 P with h|h;exact eM j u h hu;subst h;rw[w]at hu;cases hu;exact V⟩,U,bI,(an (aX _))⟩;obtain rfl:k=xs.length:=by omega
 have d:xs.findIdx? pr=none:=by grind[zI]
 apply J [75,201];exact YE () [_] ⟨rfl,trivial⟩ (by rw[d];rfl) trivial (an (aX _))
theorem wk(ad:Option Addr)(cap:Nat)(xs:List Int)(gU:FuncId)(lb:List Value)(pr:Int->Bool)(u:ay->Prop)(V:∀x,bn gU ([aa x]++lb) u [] (.bool (pr x)) [])(aq:xs.length<=1000000000)(ar:∀F,u F->u (ah [F]))(Z:∀B F,u F->u (ah [B,F])):eF VU 286 [.slice ad xs.length cap,.func (.func gU) #[] lb.toArray] u [aZ 3 1 ad xs.length cap (ints xs)] (λ_:Unit=>.slice ad (xs.filter (gP pr)).length cap) (λ_=>True) (λ_=>[aZ 3 1 ad (xs.filter (gP pr)).length cap (ints (xs.filter (gP pr)))]):=by
 apply aF Tryz.func286 Tryz.ntmps286;intro F P;apply J [1];refine ab.nj 0 rfl (λ_ aw _=>?_);have a3:=dP xs;apply J [115,33,339,0];apply ew (Ae ad cap xs gU lb pr u V aq) ⟨⟨_,bi.rd⟩,ar _ (Z _ _ P)⟩;apply J [5];cases W:xs.findIdx? pr with|none=>?_|some k=>?_
 dsimp only;rw[zu W];apply J [31,169];refine Vf rfl (λC=>?_) (λC=>absurd (rfl) C);apply J [33,174,74];exact hC;dsimp only;have aM:=hD.start W;have aW:k<xs.length:=by have:=aM.oT;omega
 apply J [31,169];refine Vf rfl (λD=>absurd D U) (λD=>?_);refine J [44,27,146,28,72,568] ?_;rintro⟨i,j,w⟩ d a7;dsimp only[cy]at d⊢;have aP:=d.oT;have aL:=d.kG;have a5:=d.len;have a4:=dP w;apply J [128,93,305,183];apply Vf rfl<;>intro a0;have H:j<xs.length:=U
 obtain⟨x,N⟩:∃x,xs[j]? =some x:=⟨xs[j],Vc H⟩;have au:=d.get N;have a2:0<(ints w).length:=U
 refine J [60,314,365] ?_;refine q rfl rfl (dB rfl rfl (gW au)) ?_;apply J [28,24,339,29];refine k5 (V x) rfl rfl (ev _) (Z _ _ P) ?_;intro _ _;apply J [5,237];cases ag:pr x with|true=>?_|false=>?_
 refine J [23,20,132] ?_;exact⟨rfl,⟨i,j+1,w⟩,(d.skip H N ag),cK,bI,(an (an (aX _)))⟩;refine J [12,33,120,365,22,505,2,279,320,132] ?_;exact⟨rfl,⟨i+1,j+1,w.set i x⟩,(d.nu H N ag),cK,bI,(an (an (aX _)))⟩;obtain rfl:j=xs.length:=by omega
 obtain⟨d1,d2⟩:=d.done;apply J [210,3];refine q rfl rfl (om 3 1 (i) rfl rfl rfl U U) ?_;refine eB ?_;refine zh (sz:=1) (z:=aa 0) i rfl rfl rfl rfl am rfl rfl U ?_;intro O C D;have ao:O.take (i*1)=ints (xs.filter (gP pr)):=by grind[ur]
 apply J [2,314];refine q rfl rfl (nG 3 1 (i) rfl rfl rfl U U) ?_;apply J [61];exact YE () [_] ⟨rfl,trivial⟩ (by rw[d2];rfl) trivial (eI 0 rfl (by have:=p1 (E:=3) (sz:=1) (ad:=ad) (n:=xs.length) (cap:=cap) (cs:=O) (j:=i) U;rw[ao]at this;rw[d2];exact this) (an (aX _)))
end Go.Proofs.Q.Rd
namespace Go.Proofs.Q.Rd
open Go Go.QM
structure cR where
  id:Int
  prio:Int
  whole:Int
  left:Int
def Ti(t:cR):List Value:=[.int .i64 t.whole,.int .i64 t.left,.int .i64 t.prio]
def dE(S:List cR)(p:Nat):List Int:=(S.filter λt=>decide (t.prio=(p:Int))).map (·.id)
def et(S:List cR)(id:Int):Prop:=∃t∈S,t.id=id
instance (S:List cR)(id:Int):Decidable (et S id):=inferInstanceAs (Decidable (∃t∈S,t.id=id))
def iZ(A:Int->Nat)(S:List cR):Int->Option Value:=λid=>if et S id then some (.pointer (some ⟨A id,0,none⟩))else none
def h2(S:List cR):Prop:=(S.map (·.id)).Nodup
structure fU(S:List cR):Prop where
  bq:h2 S
  rg:∀t∈S,0<=t.id/\(0<=t.prio/\t.prio<=7)/\(0<=t.whole/\t.whole<=16)/\0<=t.left/\t.left<=16
structure CR where
  ad:Nat->Option Addr
  cap:Nat->Nat
  aC:Nat
  A:Int->Nat
abbrev mG(ad:Nat->Option Addr)(cap:Nat->Nat)(S:List cR)(p:Nat):ay:=aZ 3 1 (ad p) (dE S p).length (cap p) (ints (dE S p))
abbrev r7(A:Int->Nat)(t:cR):ay:=aj (A t.id) 373 (Ti t)
abbrev um(ad:Nat->Option Addr)(cap:Nat->Nat)(aC:Nat)(S:List cR):List Value:=gv (λp=>.slice (ad p) (dE S p).length (cap p)) [.map (some aC)]
def dt(q:Nat)(S:List cR):ay:=fg λy:CR=>pure' (fU S) (ah [aj q 261 (um y.ad y.cap y.aC S),b8 (mG y.ad y.cap S) (Wo 8),bO QM.encI y.aC (iZ y.A S) S.length,b8 (r7 y.A) S])
variable{S T:List cR}
theorem h2.perm(h:h2 S)(p:T.Perm S):h2 T:=(p.map _).nodup_iff.2 h
variable{t:cR}
theorem h2.inj(h:h2 S){u:cR}(C:t∈S)(hu:u∈S)(e:t.id=u.id):t=u:=by obtain⟨L,w⟩:=fA C;rcases Vq.1 (w.mem_iff.1 hu)with d|d;simp_all;exact absurd (Vs.2 ⟨u,d,e.symm⟩) (Vw.1 (h.perm w.symm)).1
def eG(S:List cR)(id:Int):List cR:=S.filter λt=>decide (t.id≠id)
theorem Bj{L:List cR}(h:h2 S)(w:S.Perm (t::L)):(eG S t.id).Perm L:=by have d:=w.filter λu=>decide (u.id≠t.id);rw[Wt cE]at d;have C:L.filter (λu=>decide (u.id≠t.id))=L:=VK.2 λu hu=>(by have:=(Vw.1 (h.perm w.symm)).1;simp_all);rw[C]at d;exact d
theorem Er{A:Int->Nat}(h:∀x,et T x↔et S x):iZ A T=iZ A S:=by grind[iZ]
theorem wt{A:Int->Nat}{id:Int}(h:et S id):iZ A S id=some (.pointer (some ⟨A id,0,none⟩)):=ax h
theorem wr{A:Int->Nat}{id:Int}(h:¬et S id):iZ A S id=none:=al h
theorem Ql(S:List cR)(x:Int):¬et (eG S x) x:=by rintro⟨t,d,h⟩;have:=(VE.1 d).2;simp_all
theorem xx{x y:Int}:et (eG S x) y↔et S y/\y≠x:=by constructor;rintro⟨t,d,rfl⟩;obtain⟨u,w⟩:=VE.1 d;exact⟨⟨t,u,rfl⟩,by simpa using w⟩;rintro⟨⟨t,d,rfl⟩,h⟩;exact⟨t,VE.2 ⟨d,by simpa using h⟩,rfl⟩
theorem Qk{x:Int}(h:¬et S x):eG S x=S:=VK.2 λt d=>by
 simp only[decide_eq_true_eq];exact λe=>h ⟨t,d,e⟩
theorem Gx{x:Int}(ao:h2 S)(h:et S x):(eG S x).length+1=S.length:=by obtain⟨t,u,rfl⟩:=h;obtain⟨L,d⟩:=fA u;rw[(Bj ao d).length_eq,d.length_eq];rfl
theorem fU.sub(h:fU S)(hs:T.Sublist S):fU T:=⟨h.bq.sublist (hs.map _),λt d=>h.rg t (hs.subset d)⟩
theorem fU.off(h:fU S)(x:Int):fU (eG S x):=h.sub WE
def gw(S:List cR)(id prio cf:Int):List cR×Int:=if id<0\/prio<0\/7<prio\/cf<1\/16<cf then(S,1)else if et S id then(S,7)else(S++[⟨id,prio,cf,cf⟩],0)
theorem fU.add(h:fU S)(C:¬et S t.id)(hr:0<=t.id/\(0<=t.prio/\t.prio<=7)/\(0<=t.whole/\t.whole<=16)/\0<=t.left/\t.left<=16):fU (S++[t]) where
 bq:=by
  rw[h2,List.map_append,List.nodup_append]
  refine⟨h.bq,by simp,λx D y d=>?_⟩
  obtain⟨a,w,rfl⟩:=Vs.1 D
  simp only[VF,W5,Vd]at d
  rw[d];exact λe=>C ⟨a,w,e⟩
 rg:=λu hu=>by
  rcases Ve.1 hu with hu|hu
  ·exact h.rg u hu
  rw[Vd.1 hu];exact hr
theorem xN(S T:List cR)(p:Nat):dE (S++T) p=dE S p++dE T p:=by simp[dE]
variable{p:Nat}
theorem Hk(h:t.prio=p):dE [t] p=[t.id]:=by simp[dE,h]
theorem Hl(h:t.prio≠p):dE [t] p=[]:=by simp[dE,h]
theorem Mv{A:Int->Nat}(b:Nat):iZ (aO A t.id b) (S++[t])=fj (iZ A S) t.id (ae b):=by
 funext x;simp only[iZ,fj];have d:et (S++[t]) x↔et S x\/t.id=x:=by simp[et,or_and_right,exists_or]
 by_cases e:x=t.id;rw[ax (d.2 (.inr e.symm)),ax e,e,cj];rw[al e,bM e];grind
variable(x:Int)
theorem Mw{A:Int->Nat}:iZ A (eG S x)=fV (iZ A S) x:=by funext y;simp only[iZ,fV];by_cases e:y=x;rw[ax e,al (λh=>(xx.1 h).2 e)];rw[al e];by_cases h:et S y;rw[ax h,ax (xx.2 ⟨h,e⟩)];rw[al h,al (λd=>h (xx.1 d).1)]
theorem BI{S:List cR}{x:Int}:x∈dE S p↔∃t∈S,t.prio=p/\t.id=x:=by simp[dE,and_assoc]
theorem BH(S:List cR)(p:Nat):(dE S p).length<=S.length:=by rw[dE,Wb];exact List.length_filter_le _ _
theorem BJ(S:List cR)(p:Nat)(x:Int):dE (eG S x) p=(dE S p).filter λy=>decide (y≠x):=by rw[dE,dE,Yu,eG,WZ,WZ];grind
theorem Hj(ao:h2 S)(C:t∈S)(w:t.prio≠p):dE (eG S t.id) p=dE S p:=by rw[BJ];refine VK.2 λy D=>?_;obtain⟨u,hu,d,rfl⟩:=BI.1 D;simp only[decide_eq_true_eq];intro e;rw[ao.inj hu C e]at d;exact w d
variable{cap:Nat->Nat}
theorem Hs{ad:Nat->Option Addr}{L:List Nat}{a:Option Addr}{c:Nat}(d:∀x∈L,x≠p/\x<8)(h:∀x,x≠p->dE T x=dE S x):∀x∈L,mG ad cap S x=mG (dK ad p a) (dK cap p c) T x:=λx u=>by
 have:=(d x u).1
 simp only[mG,jh this,h x this]
theorem RW{ad:Nat->Option Addr}{L:List Nat}(d:∀x∈L,x≠p/\x<8)(h:∀x,x≠p->dE T x=dE S x):∀x∈L,mG ad cap S x=mG ad cap T x:=λx u=>by
 have:=(d x u).1
 simp only[mG,h x this]
theorem EO{ad:Nat->Option Addr}{aC:Nat}{n c:Nat}{a:Option Addr}(h:∀x,x≠p->dE T x=dE S x)(d:(dE T p).length=n):
 gv (λx=>if x=p then V0 a n c else .slice (ad x) (dE S x).length (cap x)) [.map (some aC)]=um (dK ad p a) (dK cap p c) aC T:=Hq λx _=>by
 by_cases e:x=p
 ·rw[ax e,e,jD,jD,d]
 rw[al e,jh e,jh e,h x e]
theorem EN{ad:Nat->Option Addr}{aC:Nat}(h:∀x,(dE T x).length=(dE S x).length):um ad cap aC S=um ad cap aC T:=Hq λx _=>by rw[h x]
def gz(S:List cR)(ids:List Int):List cR:=ids.foldl eG S
theorem Me(S:List cR)(ids:List Int)(x:Int):gz S (ids++[x])=eG (gz S ids) x:=by simp[gz]
theorem n5(S:List cR):∀ids,(gz S ids).Sublist S
 | []=>XD _
 | x::l=>by rw[gz,Xl];exact(n5 (eG S x) l).trans WE
theorem Md(S:List cR)(ids:List Int):gz S ids=S.filter λt=>decide (t.id∉ids):=by induction ids generalizing S with|nil=>exact(VK.2 λa _=>by simp).symm|cons x l d=>rw[gz,Xl];have:=d (eG S x);rw[gz]at this;rw[this,eG,WZ];congr 1;funext e;rw[XP];simp only[VQ,decide_eq_true_eq,Vq,not_or];exact⟨λh=>⟨h.2,h.1⟩,λh=>⟨h.2,h.1⟩⟩
def hA(S:List cR):Option cR:=S.find? λt=>S.all λu=>decide (u.prio<=t.prio)
def fe(S:List cR):Int:=match hA S with
  | some t=>t.id
  | none=>-1
theorem nM{S:List cR}(h:hA S=some t):t∈S/\∀u∈S,u.prio<=t.prio:=by refine⟨List.mem_of_find?_eq_some h,λu hu=>?_⟩;have:=List.find?_some h;simp_all
theorem Il(h:fU S)(ao:∀x,p<x->x<8->dE S x=[]){x:Int}{rest:List Int}(hr:dE S p=x::rest):∃t,hA S=some t/\t.id=x/\t.prio=p:=by
 have hle:∀u∈S,u.prio<=p:=λu hu=>(by have D:=h.rg u hu;obtain⟨k,O⟩:=Wk D.2.1.1;by_cases P:p<k;have:=ao k P U;have hm:u.id∈dE S k:=BI.2 ⟨u,hu,O,rfl⟩;rw[this]at hm;cases hm;omega);obtain⟨t,T,d⟩:∃t T,S.filter (λt=>decide (t.prio=(p:Int)))=t::T:=(by cases H:S.filter (λt=>decide (t.prio=(p:Int)))with|nil=>rw[dE,H]at hr;cases hr|cons t T=>exact⟨t,T,rfl⟩);have N:t.id=x:=by rw[dE,d]at hr;simpa using(Xh hr).1
 have C:=VE.1 (show t∈S.filter (λt=>decide (t.prio=(p:Int)))by rw[d];simp);have V:t.prio=p:=by simpa using C.2
 refine⟨t,?_,N,V⟩;have E:hA S=S.find? λt=>decide (t.prio=(p:Int)):=(by rw[hA];have:∀u∈S,(S.all λv=>decide (v.prio<=u.prio))=decide (u.prio=(p:Int)):=λu hu=>(by rw[XP,List.all_eq_true];simp only[decide_eq_true_eq];constructor;intro w;have W:=w t C.1;have Z:=hle u hu;omega;intro w v hv;have:=hle v hv;omega);induction S with|nil=>rfl|cons a l _=>exact find_congr this);rw[E,<-List.head?_filter,d];rfl
 where find_congr {f g:cR->Bool}:∀{l:List cR},(∀u∈l,f u=g u)->l.find? f=l.find? g
  | [],_=>rfl
  | a::l,h=>by
   rw[XN,XN,h a cE,find_congr λu hu=>h u (by simp[hu])]
theorem Tt(h:fU S)(ao:∀x,x<8->dE S x=[]):S=[]:=by
 rcases S with _|⟨t,T⟩;trivial;have d:=h.rg t cE;obtain⟨k,u⟩:=Wk d.2.1.1;have hm:t.id∈dE (t::T) k:=by grind[BI]
 grind
def ie(S:List cR)(t:cR):List cR:=eG S t.id++[⟨t.id,t.prio,t.whole,t.whole⟩]
def iT(S:List cR)(id v:Int):List cR:=S.map λt=>if t.id=id then⟨t.id,t.prio,t.whole,v⟩else t
def jg(S:List cR):List cR:=match hA S with
  | none=>S
  | some t=>if t.left=1 then ie S t else iT S t.id (t.left-1)
def ks(S:List cR):List cR:=match hA S with
  | none=>S
  | some t=>ie S t
theorem BF(u:t∈S)(x:Int):et (ie S t) x↔et S x:=by
 have d:et (ie S t) x↔et (eG S t.id) x\/t.id=x:=by simp[ie,et,or_and_right,exists_or]
 rw[d,xx];constructor;rintro(h|h);simp_all;exact⟨t,u,h⟩;grind
theorem fU.BE(h:fU S)(d:t∈S):fU (ie S t):=
 (h.off t.id).add (t:=⟨t.id,t.prio,t.whole,t.whole⟩) (Ql S t.id) (by have:=h.rg t d;dsimp only;omega)
theorem BG(h:h2 S)(d:t∈S):(ie S t).length=S.length:=by have:=Gx h ⟨t,d,rfl⟩;grind[ie]
theorem Hg(ao:h2 S)(u:t∈S){x:Nat}(d:t.prio=p)(w:x≠p):dE (ie S t) x=dE S x:=by grind[ie,xN,Hl,Hj]
theorem RO(ao:h2 S)(p:Nat):(dE S p).Nodup:=ao.sublist (List.filter_sublist.map _)
theorem Hf(ao:h2 S)(u:t.prio=p){rest:List Int}(hr:dE S p=t.id::rest):dE (ie S t) p=rest++[t.id]:=by rw[ie,xN,Hk (by dsimp only;exact u),BJ,hr,Wt cE];have d:=RO ao p;rw[hr,Vw]at d;rw[VK.2 λy w=>by simp only[decide_eq_true_eq];exact λe=>d.1 (by rw[<-e];exact w)]
theorem Ts(h:hA S=some t)(C:t.prio=p):∃rest,dE S p=t.id::rest:=by obtain⟨hm,hle⟩:=nM h;have w:hA S=S.find? λt=>decide (t.prio=(p:Int)):=(by rw[hA];refine Il.find_congr λu hu=>?_;grind);rw[w,<-List.head?_filter]at h;cases d:S.filter (λt=>decide (t.prio=(p:Int)))with|nil=>rw[d]at h;cases h|cons a l=>rw[d]at h;simp only[List.head?_cons,WQ]at h;exact⟨l.map (·.id),by rw[dE,d,h];rfl⟩
theorem RQ(rest:List Int):dM 0 (((ints (x::rest)).drop (1*1)).take (rest.length*1)) (ints (x::rest))=ints (rest++(x::rest).drop rest.length):=by grind[dM,ints,List.map_drop]
theorem RU(rest:List Int):(rest++(x::rest).drop rest.length).set rest.length x=rest++[x]:=by
 rw[List.set_append_right _ _ (Vi _),Nat.sub_self];have d:((x::rest).drop rest.length).length=1:=cE
 grind[List.length_eq_one_iff]
theorem Hu(S:List cR)(id v x:Int):et (iT S id v) x↔et S x:=by simp only[et,iT,Vs];grind
theorem Hv(S:List cR)(id v:Int)(p:Nat):dE (iT S id v) p=dE S p:=by rw[dE,dE,iT,Yu,XZ];have d:((λt:cR=>decide (t.prio=(p:Int)))∘λt:cR=>if t.id=id then(⟨t.id,t.prio,t.whole,v⟩:cR)else t)=λt=>decide (t.prio=(p:Int)):=cm;rw[d];exact Wq λt _=>by simp only[YT];split<;>rfl
theorem Sf(S:List cR)(id v:Int):(iT S id v).map (·.id)=S.map (·.id):=by rw[iT,XZ];exact Wq λt _=>by simp only[YT];split<;>rfl
theorem BN(S:List cR)(id v:Int):(iT S id v).length=S.length:=by simp[iT]
theorem fU.iT{S:List cR}(h:fU S)(id:Int){v:Int}(hv:0<=v/\v<=16):fU (iT S id v) where
 bq:=by rw[h2,Sf];exact h.bq
 rg:=λt d=>by obtain⟨u,hu,rfl⟩:=Vs.1 d;have:=h.rg u hu;split;dsimp only;omega;exact this
theorem Sh{L:List cR}(ao:h2 S)(w:S.Perm (t::L))(v:Int):(⟨t.id,t.prio,t.whole,v⟩::L:List cR).Perm (iT S t.id v):=by have d:=w.map λu:cR=>if u.id=t.id then(⟨u.id,u.prio,u.whole,v⟩:cR)else u;rw[VF,ax rfl]at d;have C:L.map (λu:cR=>if u.id=t.id then(⟨u.id,u.prio,u.whole,v⟩:cR)else u)=L:=(by(conv=>rhs;rw[<-List.map_id L]);refine Wq λu hu=>?_;have:=(Vw.1 (ao.perm w.symm)).1;simp_all);rw[C]at d;exact d.symm
theorem Si(h:hA S=some t)(v:Int):hA (iT S t.id v)=some ⟨t.id,t.prio,t.whole,v⟩:=by
 have D:∀u:cR,(if u.id=t.id then(⟨u.id,u.prio,u.whole,v⟩:cR)else u).prio=u.prio:=cm
 rw[hA,iT,List.find?_map];have d:((λa:cR=>(S.map λu:cR=>if u.id=t.id then(⟨u.id,u.prio,u.whole,v⟩:cR)else u).all λw=>decide (w.prio<=a.prio))∘λu:cR=>if u.id=t.id then(⟨u.id,u.prio,u.whole,v⟩:cR)else u)=λa=>S.all λw=>decide (w.prio<=a.prio):=cm;rw[d];have C:S.find? (λa=>S.all λw=>decide (w.prio<=a.prio))=some t:=h;simp_all
theorem Sg(S:List cR)(id v:Int):eG (iT S id v) id=eG S id:=by
 rw[eG,eG,iT,Yu];have d:((λu:cR=>decide (u.id≠id))∘λt:cR=>if t.id=id then(⟨t.id,t.prio,t.whole,v⟩:cR)else t)=λu=>decide (u.id≠id):=cm;rw[d];conv=>rhs;rw[<-List.map_id (S.filter _)]
 refine Wq λu hu=>?_;simp_all
theorem fU.nil:fU []:=⟨V1,λt h=>by cases h⟩
theorem not_neg(h:fU S):¬et S (-1):=by rintro⟨t,d,u⟩;have:=h.rg t d;omega
end Go.Proofs.Q.Rd
namespace Go.Proofs.Q.Rd
open Go Go.QM
def hz(S:List cR)(p:Int):List Int:=if 0<=p/\p<=7 then dE S p.toNat else[]
theorem RR{S:List cR}{p:Nat}{x:Int}:(dE S p).filter (gP λy=>decide (y=x))=dE (eG S x) p:=by grind[BJ,List.filter_congr,gP]
theorem QN{S L:List cR}{t:cR}(h:h2 S)(d:S.Perm (t::L))(u:cR):(u::L).Perm (eG S t.id++[u]):=
 ((Bj h d).symm.cons u).trans (We _ _).symm
variable(ej:Nat)
theorem RI(aC:Nat)(F:ay):aG (ah [aj ej 261 (gv (λ_=>.slice none 0 0) [.map (some aC)]),bO QM.encI aC (λ_=>none) 0,F]) (ah [dt ej [],F]):=by
 have u:iZ (λ_=>0) []=λ_=>none:=by trivial
 have d:Wo 8=[0,1,2,3,4,5,6,7]:=kk
 refine(nb (f:=r7 (λ_=>0)) _).trans ?_;refine(((dI 3 1 _).trans ((dI 3 1 _).trans ((dI 3 1 _).trans ((dI 3 1 _).trans ((dI 3 1 _).trans ((dI 3 1 _).trans ((dI 3 1 _).trans (dI 3 1 _)))))))):aG _ (ah [aZ 3 1 none 0 0 [],aZ 3 1 none 0 0 [],aZ 3 1 none 0 0 [],aZ 3 1 none 0 0 [],aZ 3 1 none 0 0 [],aZ 3 1 none 0 0 [],aZ 3 1 none 0 0 [],aZ 3 1 none 0 0 [],_,_,_,_])).trans ?_;refine az (⟨λ_=>none,λ_=>0,aC,λ_=>0⟩:CR) fU.nil ?_;refine bP 9 rfl ?_;refine(show aG (ah [aZ 3 1 none 0 0 [],aZ 3 1 none 0 0 [],aZ 3 1 none 0 0 [],aZ 3 1 none 0 0 [],aZ 3 1 none 0 0 [],aZ 3 1 none 0 0 [],aZ 3 1 none 0 0 [],aZ 3 1 none 0 0 [],b8 (r7 λ_=>0) [],bO QM.encI aC (λ_=>none) 0,F]) (ah [b8 (mG (λ_=>none) (λ_=>0) []) (Wo 8),bO QM.encI aC (iZ (λ_=>0) []) 0,b8 (r7 λ_=>0) [],F])from ?_);rw[u,b8,d];refine(u6 [aZ 3 1 none 0 0 [],aZ 3 1 none 0 0 [],aZ 3 1 none 0 0 [],aZ 3 1 none 0 0 [],aZ 3 1 none 0 0 [],aZ 3 1 none 0 0 [],aZ 3 1 none 0 0 [],aZ 3 1 none 0 0 []] _).trans (dT (VW _) ?_);exact bP 1 rfl (an (an (aX _)))
theorem RJ:bH 191 [] ba [] (λej:Nat=>ae ej) (λ_=>True) (λej=>[dt ej []]):=by
 apply aF Tryz.func191 Tryz.ntmps191;intro F _;refine J [8,168,25,352] ?_;intro bb;first|refine q rfl rfl (eh (cs:=[.slice _ _ _,.slice _ _ _,.slice _ _ _,.slice _ _ _,.slice _ _ _,.slice _ _ _,.slice _ _ _,.slice _ _ _,.map _]) rfl) ?_|refine q rfl rfl (eh (cs:=[_,_,_,_,_,_,_,_,_]) rfl) ?_
 refine e rfl ?_;refine eS (v:=.agg _) (l:=[.slice _ _ _,.slice _ _ _,.slice _ _ _,.slice _ _ _,.slice _ _ _,.slice _ _ _,.slice _ _ _,.slice _ _ _,.map _]) rfl rfl ?_;intro bD;apply J [104];have d:Wo 8=[0,1,2,3,4,5,6,7]:=kk
 exact br bD trivial (RI bD bb F)
theorem rY(r:Nat->Value)(aC n:Nat)(f:Int->Option Value)(id:Int):bn 241 [ae ej,aa id] ba [aj ej 261 (gv r [.map (some aC)]),bO QM.encI aC f n] ((f id).getD (.pointer none)) [aj ej 261 (gv r [.map (some aC)]),bO QM.encI aC f n]:=by apply aF Tryz.func241 Tryz.ntmps241;intro F _;apply J [11,24,95,30,114,156,107,114,80,280,304];refine q rfl rfl (kj 3 368 rfl rfl (Yh rfl) rfl rfl) ?_;apply J [95,224];exact e9 (an (an (an (aX _))))
theorem C4(b:Nat)(w l r:Int):bn 242 [ae b] ba [aj b 373 [aa w,aa l,aa r]] (.tuple #[]) [aj b 373 [aa w,aa w,aa r]]:=by apply aF Tryz.func242 Tryz.ntmps242;intro F _;apply J [1,37,158,54,268,202,351];exact yq
theorem SO(b:Nat)(w l r:Int)(d:0<=l/\l<=100):bn 276 [ae b] ba [aj b 373 [aa w,aa l,aa r]] (.bool (decide (l-1=0))) [aj b 373 [aa w,aa (l-1),aa r]]:=by apply aF Tryz.func276 Tryz.ntmps276;intro F _;refine J [1,127,65,243,268,286,65,297,70] ?_;exact hC
theorem Mc(b:Nat)(id x:Int):bn 382 [aa x,ae b] (λF=>Rd F b (.cells #[aa id] 3 (0,0))) [] (.bool (decide (x=id))) []:=by apply aF Tryz.func382 Tryz.ntmps382;intro F d;apply J [8];haveI:fN F b (.cells #[aa id] 3 (0,0)):=⟨d⟩;apply J [222,84,297,70];exact j7
theorem qV(S:List cR)(ao:S.length<=1000000):bn 105 [ae ej] ba [dt ej S] (aa (fe S)) [dt ej S]:=by
 apply aF Tryz.func105 Tryz.ntmps105;intro F _;apply J [1];refine ab.open 0 rfl (λd E=>?_);obtain⟨ad,cap,aC,A⟩:=d;have aN:=E;apply J [82];dsimp only at aN⊢;apply J [35,228];refine VP (ι:=Nat) (λk=>k<=8/\∀x,k<=x->x<8->dE S x=[]) (λk=>[(0,ae ej),(3,aa ((k:Int)-1))]) (λk=>ah [aj ej 261 (um ad cap aC S),b8 (mG ad cap S) (Wo 8),bO QM.encI aC (iZ A S) S.length,b8 (r7 A) S,F]) (λk=>k) 8 ⟨Vi _,λx C u=>by omega⟩ bI (an (an (an (an (an (aX _)))))) ?_;rintro k ⟨O,w⟩ ay;dsimp only[cy]at O w⊢;apply J [7,315,19];refine VL 7 rfl (c:=true) rfl ?_;apply J [13,306,190];apply Vf rfl<;>intro Z;obtain⟨p,rfl⟩:∃z,k=z+1:=⟨k-1,by omega⟩;rw[show(((p+1:Nat):Int)-1)=(p:Int)from by omega];have oR:p<8:=U
 obtain⟨L,D,W⟩:=xL oR;refine WD (fW 1 rfl D) ?_;apply J [60,34,80,81];refine q rfl rfl (lo 8 90 1 rfl rfl rfl U U) ?_;refine q rfl rfl (gG rfl rfl (Hr oR U)) ?_;apply J [174,33,305,167,2];apply Vf rfl<;>intro hlen;obtain⟨d,rest,V⟩:∃d rest,dE S p=d::rest:=(by cases P:dE S p with|nil=>rw[P]at hlen;simp at hlen|cons a l=>exact⟨a,l,rfl⟩);obtain⟨t,ar,au,aw⟩:=Il aN (λx C u=>w x U u) V;have hv:fe S=d:=by grind[fe]
 rw[hv];have E:(dE S p)[0]? =some d:=b2
 have ag:=dP (dE S p);have aq:0<(ints (dE S p)).length:=U
 refine J [33,506] ?_;refine q rfl rfl (dB rfl rfl (gW E)) ?_;apply J [28,166];exact e9 (az ⟨ad,cap,aC,A⟩ aN (bv (cY 0 0 p rfl rfl rfl (λ_ _=>rfl) D.symm (an (an (an (aX _)))))));refine J [20,200,243,28] ?_;exact⟨rfl,p,⟨by omega,λx C u=>by rcases Nat.lt_or_eq_of_le C with H|H;exact w x U u;subst H;exact List.length_eq_zero_iff.1 U⟩,U,bI,(bv (cY 0 0 p rfl rfl rfl (λ_ _=>rfl) D.symm (an (an (an (aX _))))))⟩;obtain rfl:k=0:=by omega
 have N:=Tt aN (λx h=>w x U h);have hv:fe S=-1:=by rw[N];rfl
 rw[hv];apply J [75,201];exact e9 (az ⟨ad,cap,aC,A⟩ aN (an (an (an (an (an (aX _)))))))
theorem vP(S:List cR)(ao:S.length<=1000000)(id pr d:Int):bn 197 [ae ej,aa id,aa pr,aa d] ba [dt ej S] (aa (gw S id pr d).2) [dt ej (gw S id pr d).1]:=by
 apply aF Tryz.func197 Tryz.ntmps197;intro F _;apply J [1,35,72,229];refine VL 13 rfl (c:=false) rfl ?_;apply J [203,40];refine aU.split 17 rfl (λC=>?_) (λC=>?_);have C:=dz C;have hv:gw S id pr d=(S,1):=by rw[gw,ax U]
 rw[hv];dsimp only;apply J [316,316,316,48,143,197];exact hC;have C:=d7 C;apply J [203,40];refine aU.split 21 rfl (λD=>?_) (λD=>?_);have D:=dz D;have hv:gw S id pr d=(S,1):=by rw[gw,ax U]
 rw[hv];dsimp only;apply J [316,316,48,143,197];exact hC;have D:=d7 D;apply J [141,40];refine aU.split 25 rfl (λE=>?_) (λE=>?_);have E:=dz E;have hv:gw S id pr d=(S,1):=by rw[gw,ax U]
 rw[hv];dsimp only;apply J [316,48,143,197];exact hC;have E:=d7 E;apply J [203,40];refine aU.split 29 rfl (λH=>?_) (λH=>?_);have H:=dz H;have hv:gw S id pr d=(S,1):=by rw[gw,ax U]
 rw[hv];dsimp only;apply J [48,143,197];exact hC;have H:=d7 H;apply J [141,207];apply Vf rfl<;>intro aW;have hv:gw S id pr d=(S,1):=by rw[gw,ax U]
 rw[hv];dsimp only;apply J [67];exact hC;refine ab.open 0 rfl (λaw au=>?_);obtain⟨ad,cap,aC,A⟩:=aw;have aN:=au;apply J [82];dsimp only at aN⊢;by_cases w:et S id;have N:=wt (A:=A) w;have hv:gw S id pr d=(S,7):=by rw[gw,al U,ax w]
 rw[hv];dsimp only;refine J [32,569] ?_;intro _ _;apply J [9];rw[N];apply J [566,38,197];exact e9 (az ⟨ad,cap,aC,A⟩ aN (an (bU (an (an (an (aX _)))))));have N:=wr (A:=A) w;have hv:gw S id pr d=(S++[⟨id,pr,d,d⟩],0):=by rw[gw,al U,al w]
 rw[hv];dsimp only;obtain⟨p,rfl⟩:=Wk (show 0<=pr by omega);have oR:p<8:=U
 obtain⟨L,O,aq⟩:=xL oR;have aP:=BH S p;have ar:=aN.add (t:=⟨id,p,d,d⟩) w cK;have P:∀x,x≠p->dE (S++[⟨id,(p:Int),d,d⟩]) x=dE S x:=by grind[xN,Hl]
 have V:dE (S++[⟨id,(p:Int),d,d⟩]) p=dE S p++[id]:=by grind[xN,Hk]
 have aL:=dP (dE S p);refine WD (fW 1 rfl O) ?_;apply J [32];refine aI (rY ej _ aC S.length (iZ A S) id) rfl (d6 2 rfl (d6 2 rfl (ev _))) trivial ?_;intro _ _;apply J [15];rw[N];apply J [566,191,20,27];first|refine q rfl rfl (eh (cs:=[.int _ _,.int _ _]) rfl) ?_|refine q rfl rfl (eh (cs:=[_,_]) rfl) ?_
 apply J [3];first|refine q rfl rfl (eh (cs:=[.int _ _,.int _ _,.int _ _]) rfl) ?_|refine q rfl rfl (eh (cs:=[_,_,_]) rfl) ?_
 refine J [0,259] ?_;intro cp;apply J [277,43,0];refine aI (C4 cp d 0 p) rfl (d6 0 rfl (ev _)) trivial ?_;intro _ _;apply J [18,2,122,280,3,158,22];refine l1 3 368 rfl (Yh rfl) rfl rfl rfl ?_;apply J [30];refine ab.draw _ [14] [0,1,2,3,4,5,6,7,8,11,12,-9,-10,13,-14] aV aV (bv (aX _)) ?_;refine J [78,16,78,16,88,86,435,507,16,88,86,17,150] ?_;intro ay;refine J [47,570] ?_;intro W Z;refine J [10,435,90,571,73,201] ?_;exact e9 (az ⟨dK ad p W,dK cap p Z,aC,aO A id cp⟩ ar (b6 0 rfl (congrArg (aj ej 261) (EO (n:=(dE S p).length+1) P (by rw[V,mp];rfl))) (cY 0 3 p rfl rfl (by dsimp only[mG];rw[jD,jD,V,mp,Vl,pM]) (Hs aq P) O.symm (b6 1 rfl (by dsimp only;rw[Mv (t:=⟨id,(p:Int),d,d⟩),N,mp];rfl) (cY 1 1 ⟨id,(p:Int),d,d⟩ rfl rfl (by dsimp only[r7];rw[cj];rfl) (λu hu=>by dsimp only[r7];rw[bM (λag=>w ⟨u,hu,ag⟩)]) (We _ _).symm (bU (aX _)))))))
end Go.Proofs.Q.Rd
namespace Go.Proofs.Q.Rd
open Go Go.QM
theorem row_one(xs:List Int)(a b:Nat):(((ints xs).drop a).take b).all VO=true:=by grind[rG]
theorem RH(S:List cR)(t:cR)(v:Int):ie (iT S t.id v) ⟨t.id,t.prio,t.whole,v⟩=ie S t:=by rw[ie,Sg];rfl
theorem RG{S:List cR}(ao:h2 S){t:cR}(u:t∈S){p:Nat}(d:t.prio=p){rest:List Int}(hr:dE S p=t.id::rest)(x:Nat):(dE (ie S t) x).length=(dE S x).length:=by by_cases e:x=p;rw[e,Hf ao d hr,hr];simp;grind[Hg]
theorem fU.tick{S:List cR}(h:fU S)(d:∀t∈S,1<=t.left):fU (jg S):=by rw[jg];cases u:hA S with|none=>exact h|some t=>have hm:=(nM u).1;have w:=h.rg t hm;have C:=d t hm;dsimp only;split;exact h.BE hm;exact h.iT t.id U
theorem RF{S:List cR}(h:fU S)(u:∀t∈S,1<=t.left):(jg S).length=S.length:=by rw[jg];cases d:hA S with|none=>rfl|some t=>dsimp only;split;exact BG h.bq (nM d).1;exact BN _ _ _
variable(ej:Nat)
theorem Hh(S:List cR)(ao:S.length<=1000000)(t:cR)(D:hA S=some t):bn 277 [ae ej,aa t.id] ba [dt ej S] (.tuple #[]) [dt ej (ie S t)]:=by
 apply aF Tryz.func277 Tryz.ntmps277;intro F _;apply J [1];refine ab.open 0 rfl (λZ W=>?_);obtain⟨ad,cap,aC,A⟩:=Z;have aN:=W;apply J [82];dsimp only at aN⊢;have d:=(nM D).1;have P:=aN.rg t d;obtain⟨p,u⟩:=Wk P.2.1.1;have oR:p<8:=U
 obtain⟨rest,w⟩:=Ts D u;obtain⟨L,C,E⟩:=xL oR;obtain⟨M,bK⟩:=fA d;have N:=wt (A:=A) ⟨t,d,rfl⟩;have O:=BH S p;rw[w,Vy]at O;apply J [387];refine WD (fW 3 rfl C) ?_;apply J [32];refine aI (rY ej _ aC S.length (iZ A S) t.id) rfl (d6 4 rfl (d6 4 rfl (ev _))) trivial ?_;intro _ _;apply J [18];rw[N];apply J [56,41,43,0];refine aI (C4 (A t.id) t.whole t.left t.prio) rfl (d6 4 rfl (ev _)) trivial ?_;intro _ _;refine J [18,30,508,78,185,88,86,435,507,369,73,7] ?_;dsimp only[mG];rw[w,Vy];refine ab.nj 3 rfl (λ_ H _=>?_);haveI:sp (ints (t.id::rest)) (cap p) 1 1:=⟨rest.length+1,by rw[dP];simp,by omega,H⟩;have ag:0<(ints (rest++(t.id::rest).drop rest.length)).length:=by grind[dP]
 apply J [245,113,93];refine q rfl rfl (om 3 1 (1) rfl rfl rfl U U) ?_;refine e rfl ?_;refine LB rest.length rfl rfl rfl (by rw[List.length_drop,dP];simp) (Nat.min_eq_left (Nat.sub_le _ _)) (by rw[dP];exact Nat.succ_pos _) (row_one _ _ _) (RQ t.id rest) ?_;refine J [2,113,93,305,243,3,506,22] ?_;refine eg (v:=.int _ _) (vs:=[_]) 1 rfl rfl rfl rfl rfl rfl am (by rw[dP];simp) ((wM (i:=rest.length) cE U _).trans (congrArg ints (RU t.id rest))) ?_;refine aU.nil ?_;exact qp (az ⟨ad,cap,aC,A⟩ (aN.BE d) (b6 2 rfl (congrArg (aj ej 261) (EN (RG aN.bq d u w))) (cY 0 2 p rfl rfl (by dsimp only[mG];rw[Hf aN.bq u w,mp];rfl) (RW E (λx V=>Hg aN.bq d u V)) C.symm (b6 1 rfl (by rw[Er (BF d),BG aN.bq d]) (cY 0 0 ⟨t.id,t.prio,t.whole,t.whole⟩ rfl rfl rfl (λ_ _=>rfl) (QN aN.bq bK _) (an (aX _)))))))
theorem RN(S:List cR)(ao:S.length<=1000000)(id:Int)(u:¬et S id):bn 277 [ae ej,aa id] ba [dt ej S] (.tuple #[]) [dt ej S]:=by apply aF Tryz.func277 Tryz.ntmps277;intro F _;apply J [1];refine ab.open 0 rfl (λC w=>?_);obtain⟨ad,cap,aC,A⟩:=C;have aN:=w;apply J [82];dsimp only at aN⊢;have d:=wr (A:=A) u;refine J [32,569] ?_;intro _ _;apply J [9];rw[d];apply J [56,101,2,12,74];exact JY (az ⟨ad,cap,aC,A⟩ aN (an (bU (an (an (an (aX _)))))))
theorem Rl(S:List cR)(ao:S.length<=1000000)(D:∀t∈S,1<=t.left):bn 213 [ae ej] ba [dt ej S] (aa (fe (jg S))) [dt ej (jg S)]:=by
 apply aF Tryz.func213 Tryz.ntmps213;intro F _;apply J [1,106,69];refine aI (qV ej S ao) rfl (d6 0 rfl (ev _)) trivial ?_;intro _ _;apply J [5,31,7];refine ab.open 0 rfl (λN H=>?_);obtain⟨ad,cap,aC,A⟩:=N;have aN:=H;apply J [82];dsimp only at aN⊢;have E:=RF aN D;cases u:hA S with|none=>?_|some t=>?_
 have hv:jg S=S:=by grind[jg]
 have d:fe S=-1:=by grind[fe]
 have C:=wr (A:=A) (not_neg aN);rw[d,hv];apply J [178];refine aI (rY ej _ aC S.length (iZ A S) (-1)) rfl (d6 0 rfl (d6 1 rfl (ev _))) trivial ?_;intro _ _;apply J [9];rw[C];apply J [277,315,19];refine VL 12 rfl (c:=false) rfl ?_;apply J [45,149,107,36];refine aU.bg (B:=ah [dt ej S,F]) (az ⟨ad,cap,aC,A⟩ aN (an (bU (an (an (an (aX _))))))) ?_;refine e rfl ?_;refine aI (qV ej S ao) rfl (d6 0 rfl (ev _)) trivial ?_;intro _ _;apply J [5];rw[d];apply J [26];exact hC;have w:=(nM u).1;have V:=aN.rg t w;have P:=D t w;have d:fe S=t.id:=by grind[fe]
 obtain⟨M,bK⟩:=fA w;have C:=wt (A:=A) ⟨t,w,rfl⟩;have NI:=aN.iT t.id (v:=t.left-1) U;rw[d];apply J [387,178];refine aI (rY ej _ aC S.length (iZ A S) t.id) rfl (d6 2 rfl (d6 3 rfl (ev _))) trivial ?_;intro _ _;apply J [15];rw[C];apply J [277,315,19];refine VL 12 rfl (c:=true) rfl ?_;apply J [136,366,94];refine aI (SO (A t.id) t.whole t.left t.prio U) rfl (d6 2 rfl (ev _)) trivial ?_;intro _ _;apply J [15,190];apply Vf rfl<;>intro O;refine J [572] ?_;have hv:jg S=ie S t:=by rw[jg,u];dsimp only;rw[ax U]
 rw[hv]at E⊢;apply J [178];refine aI (Hh ej (iT S t.id (t.left-1)) (by rw[BN];exact ao) ⟨t.id,t.prio,t.whole,t.left-1⟩ (Si u _)) rfl (d6 0 rfl (ev _)) trivial ?_;intro _ _;apply J [5];rw[RH];apply J [2,69];refine aI (qV ej (ie S t) U) rfl (d6 0 rfl (ev _)) trivial ?_;intro _ _;apply J [5,26];exact hC;refine J [572] ?_;have hv:jg S=(iT S t.id (t.left-1)):=by rw[jg,u];dsimp only;rw[al U]
 rw[hv]at E⊢;apply J [4,69];refine aI (qV ej (iT S t.id (t.left-1)) U) rfl (d6 0 rfl (ev _)) trivial ?_;intro _ _;apply J [5,26];exact hC
theorem UC(S:List cR)(ao:S.length<=1000000)(aN:fU S):bn 363 [ae ej] ba [dt ej S] (aa (fe (ks S))) [dt ej (ks S)]:=by
 apply aF Tryz.func363 Tryz.ntmps363;intro F _;apply J [1,106,36,158,0];apply aq (qV ej S ao);apply J [5];cases u:hA S with|none=>?_|some t=>?_
 have hv:ks S=S:=by grind[ks]
 have d:fe S=-1:=by grind[fe]
 rw[hv,d];refine e rfl ?_;apply aq (RN ej S ao (-1) (not_neg aN));apply J [5,2,69];apply aq (qV ej S ao);apply J [5];rw[d];apply J [26];exact hC;have hv:ks S=ie S t:=by grind[ks]
 have d:fe S=t.id:=by grind[fe]
 have w:=BG aN.bq (nM u).1;rw[hv,d];refine e rfl ?_;apply aq (Hh ej S ao t u);apply J [5,2,69];apply aq (qV ej (ie S t) U);apply J [5,26];exact hC
theorem zx(S:List cR)(ao:S.length<=1000000)(a2:Option Addr)(c2:Nat)(xs:List Int)(ar:xs.length<=1000000):bn 360 [ae ej,.slice a2 xs.length c2] (λF=>∃E,cQ F E a2 (ints xs)) [dt ej S] (aa ((S.length:Int)-(gz S xs).length)) [dt ej (gz S xs)]:=by
 apply aF Tryz.func360 Tryz.ntmps360;intro F ⟨E,O⟩;apply J [1];haveI:bi F a2 E (ints xs):=⟨O⟩;have a4:=dP xs;apply J [106,35,33,177];refine VP (ι:=Nat×List cR) (λs=>s.1<=xs.length/\s.2=gz S (xs.take s.1)) (λs=>[(0,ae ej),(5,aa ((S.length:Int)-(s.2.length:Int))),(9,.slice a2 xs.length c2),(10,aa xs.length),(11,aa ((s.1:Nat):Int))]) (λs=>ah [dt ej s.2,F]) (λs=>xs.length-s.1) ⟨0,S⟩ ⟨Vj _,rfl⟩ ⟨rfl,congrArg (V3 .i64) (YL _).symm,rfl,rfl,rfl,trivial⟩ (an (an (aX _))) ?_;rintro⟨k,Z⟩ ⟨V,w⟩ a5;dsimp only[cy]at V w⊢;apply J [42];apply Vf rfl<;>intro aL;have W:k<xs.length:=U
 obtain⟨x,qH⟩:∃x,xs[k]? =some x:=⟨xs[k],Vc W⟩;have a0:0<(ints xs).length:=U
 have N:gz S (xs.take (k+1))=eG Z x:=by grind[Vt,Me]
 have ay:Z.length<=S.length:=by grind[n5]
 refine J [188,509,0] ?_;refine gx (l:=[.int _ _]) rfl rfl ?_;intro bb;apply J [202,30];refine WD (jC) ?_;apply J [11];refine ab.open 0 rfl (λaw au=>?_);obtain⟨ad,cap,aC,A⟩:=aw;have aN:=au;apply J [157];dsimp only at aN⊢;by_cases d:et Z x;have u:=wt (A:=A) d;have aP:=Gx aN.bq d;obtain⟨t,C,rfl⟩:=d;have aq:=aN.rg t C;obtain⟨p,aW⟩:=Wk aq.2.1.1;have oR:p<8:=U
 obtain⟨L,D,P⟩:=xL oR;obtain⟨M,bK⟩:=fA C;have a3:=BH Z p;have H:∀x,x≠p->dE (eG Z t.id) x=dE Z x:=λx ar=>Hj aN.bq C U;apply J [387];refine WD (fW 3 rfl D) ?_;apply J [37,84,0];refine aI (rY ej _ aC Z.length (iZ A Z) t.id) rfl (d6 4 rfl (d6 4 rfl (ev _))) trivial ?_;intro _ _;apply J [76];rw[u];apply J [56,101,121];refine ab.draw _ [19] [0,1,2,3,4,5,6,7,8,9,10,11,12,13,14,16,17,-15,18,-19] aV aV (an (c0 (aX _))) ?_;refine J [78,185,78,185,88,86,435,507,573,88,86,17] ?_;refine aI (wk (ad p) (cap p) (dE Z p) 382 [ae bb] (λy=>decide (y=t.id)) (λF=>Rd F bb (.cells #[aa t.id] 3 (0,0))) (λy=>Mc bb t.id y) U (λ_ h=>iK h) (λ_ _ h=>kb (iK h))) rfl (d6 2 rfl (ev _)) fN.rd ?_;intro _ _;refine J [290,10] ?_;rw[RR];refine J [435,90,571,73,7] ?_;refine cC [0,1,2,3,4,-5] (an (eE (aX _))) ?_;apply J [648,510,92,92,258];refine lP 3 368 rfl (Yh rfl) rfl rfl rfl ?_;refine J [110,279,77,63] ?_;exact⟨rfl,⟨k+1,eG Z t.id⟩,⟨by dsimp only;omega,N.symm⟩,cK,⟨rfl,congrArg (V3 .i64) cK,rfl,rfl,rfl,trivial⟩,(az ⟨dK ad p (ad p),dK cap p (cap p),aC,A⟩ (aN.off t.id) (b6 1 rfl (congrArg (aj ej 261) (EO (n:=(dE (eG Z t.id) p).length) H rfl)) (cY 1 1 p rfl rfl (by dsimp only[mG];rw[jD,jD]) (Hs P H) D.symm (b6 0 rfl (by rw[Mw,u,show(eG Z t.id).length=Z.length-1 from by omega];rfl) (pD 1 rfl (λ_ _=>rfl) (Bj aN.bq bK).symm (bv (aX _)))))))⟩;have u:=wr (A:=A) d;have ag:=Qk d;apply J [37,84,0];refine aI (rY ej _ aC Z.length (iZ A Z) x) rfl (d6 0 rfl (d6 1 rfl (ev _))) trivial ?_;intro _ _;apply J [15];rw[u];refine J [56,101,2,12,457,324] ?_;exact⟨rfl,⟨k+1,Z⟩,⟨by dsimp only;omega,by dsimp only;rw[N,ag]⟩,cK,bI,(az ⟨ad,cap,aC,A⟩ aN (an (bU (an (an (bU (aX _)))))))⟩;obtain rfl:k=xs.length:=U
 rw[VY]at w;subst w;apply J [232];exact hC
end Go.Proofs.Q.Rd
namespace Go.Proofs.Q.iy
open Go Go.QM
structure c3 where
  at_:Int
  cn:Int
  id:Int
def mW(e:c3):List Value:=ints [e.at_,e.cn,e.id]
theorem lR(e:c3):(mW e).length=3:=rfl
def hS(H:List c3):List Value:=H.flatMap mW
theorem pE(H:List c3):(hS H).length=H.length*3:=kC lR H
def hh(a b:c3):Prop:=a.at_<b.at_\/a.at_=b.at_/\a.cn<b.cn
instance (a b:c3):Decidable (hh a b):=inferInstanceAs (Decidable (a.at_<b.at_\/a.at_=b.at_/\a.cn<b.cn))
def cw(L:List c3)(k:Nat):c3:=L.getD k ⟨0,0,0⟩
variable{L:List c3}{k:Nat}
theorem mZ(h:k<L.length):L[k]? =some (cw L k):=by simp[cw,h]
theorem zV{e:c3}(h:L[k]? =some e):cw L k=e:=by simp[cw,Vu,h]
theorem zU(h:k<L.length):cw L k∈L:=List.mem_of_getElem? (mZ h)
variable{i:Nat}
theorem oN(h:i<L.length)(e:c3)(k:Nat):cw (L.set i e) k=if k=i then e else cw L k:=by simp only[cw,Vu,List.getElem?_set];grind
theorem Hz(h:i<L.length):L.set i (cw L i)=L:=by grind[cw,List.set_getElem_self]
def kZ(L:List c3)(k:Nat):Prop:=¬hh (cw L k) (cw L ((k-1)/2))
def lF(L:List c3):Prop:=∀k,0<k->k<L.length->kZ L k
structure qg(L:List c3)(i:Nat):Prop where
  a:∀k,0<k->k<L.length->k≠i->(k-1)/2≠i->kZ L k
  b:∀k,0<k->k<L.length->(k-1)/2=i->0<i->¬hh (cw L k) (cw L ((i-1)/2))
structure nP(L:List c3)(i:Nat):Prop where
  a:∀k,0<k->k<L.length->k≠i->kZ L k
  b:∀k,0<k->k<L.length->(k-1)/2=i->0<i->¬hh (cw L k) (cw L ((i-1)/2))
def swp(L:List c3)(i k:Nat):List c3:=(L.set i (cw L k)).set k (cw L i)
theorem q1(L:List c3)(i k:Nat):(swp L i k).length=L.length:=by simp[swp]
theorem B1(d:i<L.length)(u:k<L.length):(swp L i k).Perm L:=by grind[cw,swp,List.set_set_perm]
theorem qD(d:i<L.length)(u:k<L.length)(j:Nat):cw (swp L i k) j=if j=k then cw L i else if j=i then cw L k else cw L j:=by grind[swp,oN]
theorem qg.step(h:qg L i)(E:i<L.length)(N:0<k)(D:k<L.length)(H:(k-1)/2=i)(Z:hh (cw L k) (cw L i))
 (O:∀s,0<s->s<L.length->(s-1)/2=i->¬hh (cw L s) (cw L k)):qg (swp L i k) k where
 a:=λj w d P W=>by rw[q1]at d;have C:=qD E D;simp only[kZ,C];rw[al P,al W];by_cases e:j=i;rw[ax e,al U];have:=h.b k N D H U;rw[e];exact this;rw[al e];by_cases u:(j-1)/2=i;rw[ax u];exact O j w d u;rw[al u];exact h.a j w d e u
 b:=λj w d V _=>by rw[q1]at d;have C:=qD E D;simp only[C];rw[al U,al U,al U,ax H];have:=h.a j w d U U;rw[kZ,V]at this;exact this
theorem qg.exit(h:qg L i)(w:∀s,0<s->s<L.length->(s-1)/2=i->¬hh (cw L s) (cw L i)):nP L i where
 a:=λk d u C=>by by_cases e:(k-1)/2=i;rw[kZ,e];exact w k d u e;exact h.a k d u C e
 b:=h.b
theorem nP.step(h:nP L i)(N:i<L.length)(P:0<i)(O:hh (cw L i) (cw L ((i-1)/2))):nP (swp L i ((i-1)/2)) ((i-1)/2) where
 a:=λj u d V=>by
  rw[q1]at d;have w:(i-1)/2<L.length:=U
  have E:=qD N w;simp only[kZ,E];rw[al V];by_cases e:j=i;subst e;rw[ax rfl,ax rfl];simp only[hh]at O⊢;omega;rw[al e];by_cases C:(j-1)/2=(i-1)/2;rw[ax C];have:=h.a j u d e;rw[kZ,C]at this;simp only[hh]at this O⊢;omega;rw[al C];by_cases D:(j-1)/2=i;rw[ax D];exact h.b j u d D P;rw[al D];exact h.a j u d e
 b:=λj u d W gi=>by
  rw[q1]at d;have w:(i-1)/2<L.length:=U
  have E:=qD N w;simp only[E];have H:=h.a ((i-1)/2) gi w U;rw[kZ]at H;rw[al U,al (by omega:((i-1)/2-1)/2≠(i-1)/2),al (by omega:((i-1)/2-1)/2≠i)];by_cases e:j=i;rw[ax e];exact H;rw[al e];have:=h.a j u d e;rw[kZ,W]at this;simp only[hh]at this H⊢;omega
theorem nP.exit(h:nP L i)(he:i=0\/¬hh (cw L i) (cw L ((i-1)/2))):lF L:=λk d u=>by
 by_cases e:k=i
 ·subst e
  rcases he with he|he
  ·omega
  exact he
 exact h.a k d u e
theorem lF.hole(h:lF L)(i:Nat):nP L i where
 a:=λk d u _=>h k d u
 b:=λk d u E D=>by have w:=h k d u;have C:=h i D U;rw[kZ,E]at w;rw[kZ]at C;simp only[hh]at w C⊢;omega
theorem lF.min(h:lF L):∀k,k<L.length->¬hh (cw L k) (cw L 0):=by intro k;induction k using Nat.strongRecOn with|_ k D=>intro C;by_cases u:k=0;subst u;simp only[hh];omega;have d:=h k U C;have w:=D ((k-1)/2) U U;rw[kZ]at d;simp only[hh]at d w⊢;omega
structure nU(f:Int->Option Value)(L:List c3)(i:Nat):Prop where
  a:∀j,j<L.length->j≠i->f (cw L j).id=some (.int .i64 j)
  b:∀x,(∀j,j<L.length->(cw L j).id≠x)->f x=none
structure jX(f:Int->Option Value)(L:List c3):Prop where
  a:∀j,j<L.length->f (cw L j).id=some (.int .i64 j)
  b:∀x,(∀j,j<L.length->(cw L j).id≠x)->f x=none
def gL(L:List c3):Prop:=(L.map (·.id)).Nodup
theorem gL.perm{M:List c3}(h:gL L)(p:M.Perm L):gL M:=(p.map _).nodup_iff.2 h
theorem gL.inj(h:gL L){j:Nat}(C:j<L.length)(D:k<L.length)(e:(cw L j).id=(cw L k).id):j=k:=by
 have d:(L.map (·.id))[j]? =some (cw L j).id:=by grind[mZ]
 have u:(L.map (·.id))[k]? =some (cw L k).id:=by grind[mZ]
 rw[e]at d;obtain⟨w,bb⟩:=Vm.1 d;obtain⟨a2,bD⟩:=Vm.1 u;have E:=List.pairwise_iff_getElem.1 h;grind
theorem nU.step{f:Int->Option Value}(h:nU f L i)(ao:gL L)(u:i<L.length)(d:k<L.length)(N:k≠i):nU (fj f (cw L k).id (aa i)) (swp L i k) k where
 a:=λj w H=>by
  rw[q1]at w
  rw[qD u d,al H]
  by_cases e:j=i
  ·subst e;rw[ax rfl,fj,ax rfl]
  rw[al e,fj,al (λC=>H (ao.inj w d C))];exact h.a j w e
 b :=λx D=>by
  have E:(cw L k).id≠x:=by
   have:=D i (by rw[q1];exact u)
   rwa[qD u d,al (Xq N),ax rfl]at this
  rw[fj,al (Xq E)]
  refine h.b x λj w=>?_
  by_cases e:j=k
  ·rw[e];exact E
  by_cases C:j=i
  ·have:=D k (by rw[q1];exact d)
   rw[qD u d,ax rfl]at this
   rw[C];exact this
  have:=D j (by rw[q1];exact w)
  rwa[qD u d,al e,al C]at this
theorem nU.done{f:Int->Option Value}(h:nU f L i)(ao:gL L)(d:i<L.length):jX (fj f (cw L i).id (aa i)) L where
 a:=λj u=>by by_cases e:j=i;subst e;rw[fj,ax rfl];rw[fj,al (λC=>e (ao.inj u d C))];exact h.a j u e
 b:=λx w=>by rw[fj,al (Xq (w i d))];exact h.b x w
theorem jX.Dv{f:Int->Option Value}(h:jX f L)(i:Nat):nU f L i:=⟨λj d _=>h.a j d,h.b⟩
theorem jX.none{f:Int->Option Value}{L:List c3}(h:jX f L){x:Int}(u:∀e∈L,e.id≠x):f x=none:=h.b x λ_ d=>u _ (zU d)
theorem jX.some{f:Int->Option Value}{L:List c3}(h:jX f L){e:c3}(he:e∈L):∃j,j<L.length/\cw L j=e/\f e.id=some (aa j):=by obtain⟨j,u⟩:=Wa he;have w:=(Vm.1 u).1;have d:=zV u;exact⟨j,w,d,by rw[<-d];exact h.a j w⟩
theorem ET{A:List c3}(e:c3)(d:i<A.length)(w:k<A.length)(u:k≠i):(A.set i (cw A k)).set k e=swp (A.set i e) i k:=by rw[swp,oN d,al u,oN d,ax rfl,List.set_set]
theorem yN(a b:c3):bn 364 [.agg (ints [a.at_,a.cn]).toArray,.agg (ints [b.at_,b.cn]).toArray] ba [] (.bool (decide (hh a b))) []:=by apply aF Tryz.func364 Tryz.ntmps364;intro F _;refine J [186,574] ?_;intro bb;refine J [0,574] ?_;intro bD;apply J [38,71,96,383,19];refine aU.split 10 rfl (λd=>?_) (λd=>?_);have d:=dz d;apply J [45,48,162,162,162,162,162,363,131];exact YE () [_] ⟨rfl,trivial⟩ (congrArg Ww (c7 (.inl d)).symm) trivial (bv (aX _));have d:=d7 d;apply J [192,192,160,340];refine aU.split 16 rfl (λu=>?_) (λu=>?_);have u:=dz u;apply J [238,238,386,370,98];exact YE () [_] ⟨rfl,trivial⟩ (congrArg Ww (by rw[decide_eq_decide];simp only[hh];omega)) trivial (bv (aX _));have u:=d7 u;apply J [213,388,98];exact YE () [_] ⟨rfl,trivial⟩ (congrArg Ww (dn (by simp only[hh];omega)).symm) trivial (bv (aX _))
theorem og(b:Nat)(now w:Int)(H:List c3)(ad:Option Addr)(n cap u m:Nat)(f:Int->Option Value)(i:Nat)(ao:H.length=n)(E:i<n)(D:n<=1000000)(d:c3):bn 326 [ae b,aa i,.agg (mW d).toArray] ba [aj b 367 [aa now,aa w,.slice ad n cap,.map (some u)],aZ 405 3 ad n cap (hS H),bO QM.encI u f m] (.tuple #[]) [aj b 367 [aa now,aa w,.slice ad n cap,.map (some u)],aZ 405 3 ad n cap (hS (H.set i d)),bO QM.encI u (fj f d.id (aa i)) (if(f d.id).isSome then m else m+1)]:=by
 apply aF Tryz.func326 Tryz.ntmps326;intro F _;apply J [83];have C:=mZ (show i<H.length by omega);have N:0<(hS H).length:=by grind[pE]
 refine J [25,575] ?_;intro cp;apply J [30];refine ab.draw _ [7] [0,1,2,3,4,5,6,-7] aV aV (VW _) ?_;apply J [185,16,576];refine bY rfl rfl rfl (ht 405 3 rfl rfl rfl U eA) ?_;apply J [90];refine eg (v:=.agg (List.toArray (ints [_,_,_]))) (vs:=ints [_,_,_]) 3 rfl rfl rfl rfl rfl rfl am (by rw[kC lR];omega) (sJ (a':=d) lR C 0 U (Vp rfl) rfl) ?_;refine ca.nil (hW ?_);refine cC [0,1,2,3,4,5,6,-7] (an (an (an (aX _)))) ?_;apply J [275,135,16,258];refine l1 3 3 rfl (Yh rfl) rfl rfl rfl ?_;refine⟨ai,?_⟩;refine ca.nil ?_;exact qp (c0 (bU (an (bU (aX _)))))
theorem IG(b:Nat)(now E:Int)(H:List c3)(ad:Option Addr)(n cap u m:Nat)(f:Int->Option Value)(i:Nat)(ao:H.length=n)(a8:i<n)(ag:n<=1000000)(a5:nP H i)(av:nU f H i)(bB:gL H):bH 328 [ae b,aa i] ba [aj b 367 [aa now,aa E,.slice ad n cap,.map (some u)],aZ 405 3 ad n cap (hS H),bO QM.encI u f m] (λ_:List c3×(Int->Option Value)×Nat=>.tuple #[]) (λy=>lF y.1/\jX y.2.1 y.1/\y.1.Perm H) (λy=>[aj b 367 [aa now,aa E,.slice ad n cap,.map (some u)],aZ 405 3 ad n cap (hS y.1),bO QM.encI u y.2.1 y.2.2]):=by
 apply aF Tryz.func328 Tryz.ntmps328;intro F _;apply J [83];have a7:=mZ (show i<H.length by omega);have bh:0<(hS H).length:=by rw[pE];omega
 refine J [100,3,436] ?_;refine q rfl rfl (gH (vs:=ints [_,_,_]) 3 rfl rfl (nk lR a7) rfl am) ?_;refine J [0,353] ?_;intro aP;apply J [281,30,72];obtain⟨d,he⟩:=eJ (cw H i);rw[he];refine VP (ι:=Nat×List c3×(Int->Option Value)×Nat) (λs=>s.1<n/\s.2.1.length=n/\nP (s.2.1.set s.1 d) s.1/\nU s.2.2.1 (s.2.1.set s.1 d) s.1/\(s.2.1.set s.1 d).Perm H) (λs=>[(0,ae b),(1,aa ((s.1:Nat):Int)),(4,ae aP)]) (λs=>ah [aj aP 405 (mW d),aj b 367 [aa now,aa E,.slice ad n cap,.map (some u)],aZ 405 3 ad n cap (hS s.2.1),bO QM.encI u s.2.2.1 s.2.2.2,F]) (λs=>s.1) ⟨i,H,f,m⟩ (by dsimp only;rw[<-he,Hz U];exact⟨a8,ao,a5,av,Xv _⟩) bI (an (an (an (an (an (aX _)))))) ?_;rintro⟨k,A,g,aL⟩ ⟨a9,C,V,W,w⟩ bi;dsimp only[cy]at a9 C V W w⊢;have P:k<A.length:=U
 have bd:0<(hS A).length:=by rw[pE];omega
 have mq:(A.set k d).length=n:=by rw[V6];exact C
 apply J [7,7];refine cC [0,1,2,3,4,5,6,7,8,9,10,11,12,13,14,-15,16] (an (an (an (an (aX _))))) ?_;apply J [16,437,154];refine ca.split 14 rfl (λO=>?_) (λO=>?_);have O:=dz O;have bc:0<k:=U
 obtain⟨pp,au⟩:∃pp:Nat,((k:Int)-1)/2=pp:=⟨(k-1)/2,by omega⟩;have aw:pp=(k-1)/2:=U
 have a3:=mZ (show pp<A.length by omega);have ar:cw (A.set k d) pp=cw A pp:=by rw[oN P,al U]
 have D:cw (A.set k d) k=d:=by rw[oN P,ax rfl]
 apply J [371,577,341,299,372,163,291];refine eH rfl rfl rfl rfl (oo rfl rfl U U) ?_;refine eH rfl rfl rfl rfl (kn rfl rfl U U U) ?_;rw[au];refine eH rfl rfl rfl rfl (ht 405 3 rfl rfl rfl U eA) ?_;refine J [389] ?_;refine eH rfl rfl rfl rfl (gH (vs:=ints [_,_]) 2 rfl rfl (kB lR a3 0 2 U U rfl) rfl am) ?_;apply J [292];apply aq (yN d (cw A pp));refine J [282,342,73] ?_;apply Vf rfl<;>intro a4;refine J [4,72,34,176,55,3,243] ?_;refine q rfl rfl (kn rfl rfl U U U) ?_;rw[au];refine J [436] ?_;refine q rfl rfl (gH (vs:=ints [_,_,_]) 3 rfl rfl (nk lR a3) rfl am) ?_;refine e rfl ?_;apply aq (og b now E A ad n cap u aL g k C U ag (cw A pp));refine J [9,2,200,243] ?_;refine q rfl rfl (kn rfl rfl U U U) ?_;rw[au];apply J [320];have ay:=ET d P (show pp<A.length by omega) U;have a0:=V.step U bc (by rw[<-aw,ar,D];exact a4);have a2:=W.step (bB.perm w) U (show pp<(A.set k d).length by omega) U;rw[<-aw,<-ay]at a0;rw[ar,<-ay]at a2;have aW:=(B1 (L:=A.set k d) (i:=k) (k:=pp) U U).trans w;rw[<-ay]at aW;exact⟨rfl,⟨pp,A.set k (cw A pp),_,_⟩,⟨by dsimp only;omega,by dsimp only;rw[V6];exact C,a0,a2,aW⟩,cK,bI,(c0 (an (an (an (an (aX _))))))⟩;have Z:=V.exit (.inr (by rw[D,<-aw,ar];exact a4));apply J [75,37,3,354,0];apply aq (og b now E A ad n cap u aL g k C U ag d);apply J [9,351];have N:=W.done (bB.perm w) U;have D:cw (A.set k d) k=d:=by rw[oN P,ax rfl]
 rw[D]at N;exact mR ⟨A.set k d,_,_⟩ ⟨Z,N,w⟩ (an (an (an (bU (aX _)))));have O:=d7 O;have Z:=V.exit (.inl U);refine J [187,187,187,373,241,73,23,75,37,3,354,0] ?_;apply aq (og b now E A ad n cap u aL g k C U ag d);apply J [9,351];have N:=W.done (bB.perm w) U;have D:cw (A.set k d) k=d:=by rw[oN P,ax rfl]
 rw[D]at N;exact mR ⟨A.set k d,_,_⟩ ⟨Z,N,w⟩ (an (an (an (bU (aX _)))))
theorem Mb(b:Nat)(now D:Int)(H:List c3)(ad:Option Addr)(n cap u m:Nat)(f:Int->Option Value)(i:Nat)(ao:H.length=n)(bt:i<n)(aP:n<=1000000)(aM:qg H i)(av:nU f H i)(bB:gL H):bH 327 [ae b,aa i] ba [aj b 367 [aa now,aa D,.slice ad n cap,.map (some u)],aZ 405 3 ad n cap (hS H),bO QM.encI u f m] (λ_:List c3×(Int->Option Value)×Nat=>.tuple #[]) (λy=>jX y.2.1 y.1/\y.1.Perm H/\∃j,j<n/\nP y.1 j/\cw y.1 j=cw H i) (λy=>[aj b 367 [aa now,aa D,.slice ad n cap,.map (some u)],aZ 405 3 ad n cap (hS y.1),bO QM.encI u y.2.1 y.2.2]):=by
 apply aF Tryz.func327 Tryz.ntmps327;intro F _;apply J [83];have bl:=mZ (show i<H.length by omega);have bV:0<(hS H).length:=by grind[pE]
 refine J [100,3,436] ?_;refine q rfl rfl (gH (vs:=ints [_,_,_]) 3 rfl rfl (nk lR bl) rfl am) ?_;refine J [0,353] ?_;intro Z;apply J [281,30,72];obtain⟨d,he⟩:=eJ (cw H i);rw[he];refine VP (ι:=Nat×List c3×(Int->Option Value)×Nat) (λs=>s.1<n/\s.2.1.length=n/\qg (s.2.1.set s.1 d) s.1/\nU s.2.2.1 (s.2.1.set s.1 d) s.1/\(s.2.1.set s.1 d).Perm H) (λs=>[(0,ae b),(1,aa ((s.1:Nat):Int)),(4,ae Z)]) (λs=>ah [aj Z 405 (mW d),aj b 367 [aa now,aa D,.slice ad n cap,.map (some u)],aZ 405 3 ad n cap (hS s.2.1),bO QM.encI u s.2.2.1 s.2.2.2,F]) (λs=>n-s.1) ⟨i,H,f,m⟩ (by dsimp only;rw[<-he,Hz U];exact⟨bt,ao,aM,av,Xv _⟩) bI (an (an (an (an (an (aX _)))))) ?_;rintro⟨k,A,g,aw⟩ ⟨aW,N,ag,ar,w⟩ bZ;dsimp only[cy]at aW N ag ar w⊢;have a0:k<A.length:=U
 have bS:0<(hS A).length:=by grind[pE]
 have mq:(A.set k d).length=n:=b2
 have E:∀j,j≠k->cw (A.set k d) j=cw A j:=λj bN=>by rw[oN a0,al bN]
 have C:cw (A.set k d) k=d:=by rw[oN a0,ax rfl]
 refine J [72,27,458,146,28] ?_;refine ab.cut (ι:=Nat) (λc=>(c=2*k+1\/c=2*k+2/\c<n)/\∀s,s<n->(s=2*k+1\/s=2*k+2)->¬hh (cw A s) (cw A c)) (λc=>[(0,ae b),(1,aa k),(4,ae Z),(5,aa ((c:Nat):Int))]) (λc=>ah [aj Z 405 (mW d),aj b 367 [aa now,aa D,.slice ad n cap,.map (some u)],aZ 405 3 ad n cap (hS A),bO QM.encI u g aw,F]) ?_ ?_;refine ab.seq ?_;refine cC [0,1,2,3,4,5,6,7,8,9,10,11,12,13,14,15,16,17,18,19,20,21,22,23,24,25,-26,27] (an (an (an (an (aX _))))) ?_;refine J [16,374,185,459] ?_;refine bY rfl rfl rfl (lss rfl rfl) ?_;apply J [154];refine ca.split 24 rfl (λV=>?_) (λV=>?_);have V:=dz V;have bo:=mZ (show 2*k+2<A.length by omega);have bn:=mZ (show 2*k+1<A.length by omega);apply J [341,299,372,163,291];refine eH rfl rfl rfl rfl (io rfl rfl U U) ?_;refine J [511,389] ?_;refine eH rfl rfl rfl rfl (gH (vs:=ints [_,_]) 2 rfl rfl (kB lR bo 0 2 U U rfl) rfl am) ?_;refine J [341,299,372,163,291,511,389] ?_;refine eH rfl rfl rfl rfl (gH (vs:=ints [_,_]) 2 rfl rfl (kB lR bn 0 2 U U rfl) rfl am) ?_;apply J [292];apply aq (yN (cw A (2*k+2)) (cw A (2*k+1)));refine J [282,342,73] ?_;apply Vf rfl<;>intro bd;refine J [132] ?_;exact⟨rfl,(2*k+2),⟨.inr ⟨rfl,by omega⟩,λs W au=>by rcases au with rfl|rfl<;>simp only[hh]at bd⊢<;>omega⟩,⟨rfl,rfl,rfl,congrArg (V3 .i64) U,trivial⟩,(an (an (an (an (an (aX _))))))⟩;apply J [4];exact⟨rfl,(2*k+1),⟨.inl rfl,λs W au=>by rcases au with rfl|rfl;simp only[hh];omega;exact bd⟩,⟨rfl,rfl,rfl,congrArg (V3 .i64) U,trivial⟩,(an (an (an (an (an (aX _))))))⟩;have V:=d7 V;refine J [187,187,187,187,384,373,241,73,204] ?_;exact⟨rfl,(2*k+1),⟨.inl rfl,λs W au=>by obtain rfl:s=2*k+1:=U;simp only[hh];omega⟩,⟨rfl,rfl,rfl,congrArg (V3 .i64) U,trivial⟩,(an (an (an (an (an (aX _))))))⟩;rintro c ⟨bj,a9⟩ b0;dsimp only[cy]at bj a9⊢;apply J [7,7];refine cC [0,1,2,3,4,5,6,7,8,9,10,11,12,13,14,15,16,17,-18,19,20] (an (an (an (an (aX _))))) ?_;apply J [16,185,459];refine bY rfl rfl rfl (geq rfl rfl) ?_;apply J [154];refine ca.split 53 rfl (λP=>?_) (λP=>?_);have P:=dz P;have a2:∀s,s<n->(s=2*k+1\/s=2*k+2)->¬hh (cw A s) d:=U
 refine J [187,187,335,373,384,342,73,12] ?_;have ay:=ag.exit (λs a4 W bi=>by rw[C,E s U];exact a2 s U U);refine ab.exit (lS (aL rfl (lS (qw (hW ?_)))));apply J [37,3,354,0];apply aq (og b now D A ad n cap u aw g k N U aP d);apply J [9,351];have O:=ar.done (bB.perm w) U;rw[C]at O;exact mR ⟨A.set k d,_,_⟩ ⟨O,w,k,aW,ay,C⟩ (an (an (an (bU (aX _)))));have P:=d7 P;have bR:c<n:=U
 have bc:=mZ (show c<A.length by omega);apply J [341,299,372,163,291];refine eH rfl rfl rfl rfl (ht 405 3 rfl rfl rfl U eA) ?_;refine J [389] ?_;refine eH rfl rfl rfl rfl (gH (vs:=ints [_,_]) 2 rfl rfl (kB lR bc 0 2 U U rfl) rfl am) ?_;apply J [371,577,292];apply aq (yN (cw A c) d);refine J [282] ?_;refine eH rfl rfl rfl rfl (xr rfl) ?_;apply J [241,73];apply Vf rfl<;>intro bh;have a2:∀s,s<n->(s=2*k+1\/s=2*k+2)->¬hh (cw A s) d:=by grind[hh]
 have ay:=ag.exit (λs a4 W bi=>by rw[C,E s U];exact a2 s U U);refine ab.exit (lS (aL rfl (lS (qw (hW ?_)))));apply J [37,3,354,0];apply aq (og b now D A ad n cap u aw g k N U aP d);apply J [9,351];have O:=ar.done (bB.perm w) U;rw[C]at O;exact mR ⟨A.set k d,_,_⟩ ⟨O,w,k,aW,ay,C⟩ (an (an (an (bU (aX _)))));have bh:hh (cw A c) d:=b2
 refine J [4,34,176,55,3,436] ?_;refine q rfl rfl (gH (vs:=ints [_,_,_]) 3 rfl rfl (nk lR bc) rfl am) ?_;refine e rfl ?_;apply aq (og b now D A ad n cap u aw g k N U aP (cw A c));apply J [9,2,200,320];have a3:=ET d a0 (show c<A.length by omega) U;have a5:=ag.step (k:=c) U U U U (by rw[C,E c U];exact bh) (λs a4 W bi=>by rw[E c U,E s U];exact a9 s U U);have a8:=ar.step (bB.perm w) U (show c<(A.set k d).length by omega) U;rw[<-a3]at a5;rw[E c U,<-a3]at a8;have a7:=(B1 (L:=A.set k d) (i:=k) (k:=c) U U).trans w;rw[<-a3]at a7;exact⟨rfl,⟨c,A.set k (cw A c),_,_⟩,⟨by dsimp only;omega,by dsimp only;rw[V6];exact N,a5,a8,a7⟩,cK,bI,(c0 (an (an (an (an (aX _))))))⟩
end Go.Proofs.Q.iy
namespace Go.Proofs.Q.iy
open Go Go.QM
theorem D7(H:List c3)(k:Nat):(hS H).take (k*3)=hS (H.take k):=wA lR H k
variable{H:List c3}{n:Nat}
theorem ED{j:Nat}(h:j<n):cw (H.take n) j=cw H j:=by simp[cw,Vu,List.getElem?_take,h]
theorem HR(ao:H.length=n+1):H.take n++[cw H n]=H:=by grind[cw,List.take_append_getElem]
def jn(H:List c3)(n i:Nat):List c3:=if i<n then(H.take n).set i (cw H n)else H.take n
theorem pA(ao:H.length=n+1)(i:Nat):(jn H n i).length=n:=by grind[jn]
theorem nf{i:Nat}(ao:H.length=n+1){j:Nat}(d:j<n):cw (jn H n i) j=if j=i then cw H n else cw H j:=by unfold jn;split;grind[oN,ED];rename_i h;rw[al U];exact ED d
theorem LO{i:Nat}(ao:H.length=n+1)(u:i<=n):(cw H i::jn H n i).Perm H:=by
 by_cases h:i<n;have d:swp H i n=jn H n i++[cw H i]:=(by rw[jn,ax h,swp];grind[HR,cw]);refine List.Perm.trans ?_ (d▸B1 U U);exact(We _ _).symm;obtain rfl:i=n:=U
 rw[jn,al h];have:=HR ao;refine List.Perm.trans ?_ (List.Perm.of_eq this);exact(We _ _).symm
theorem LQ{i:Nat}(ao:H.length=n+1)(h:lF H):qg (jn H n i) i where
 a:=λk u d D w=>by rw[pA ao]at d;rw[kZ,nf ao d,nf ao U,al D,al w];exact h k u U
 b:=λk u d w C=>by rw[pA ao]at d;rw[nf ao d,nf ao U,al U,al U];exact(h.hole i).b k u U w C
theorem LP(ao:H.length=n+1)(h:lF H):lF (jn H n n):=λk u d=>by
 rw[pA ao]at d
 rw[kZ,nf ao d,nf ao U,al U,al U]
 exact h k u U
theorem LR{f:Int->Option Value}{i:Nat}(ao:H.length=n+1)(av:jX f H)(bB:gL H)(C:i<n):jX (fj (fV f (cw H i).id) (cw H n).id (aa i)) (jn H n i) where
 a:=λj u=>by
  rw[pA ao]at u
  rw[nf ao u]
  by_cases e:j=i
  ·subst e;rw[ax rfl,fj,ax rfl]
  rw[al e,fj,al (λd=>by have:=bB.inj U U d;omega),fV,al (λd=>e (bB.inj U U d))]
  exact av.a j U
 b :=λx D=>by
  have w:(cw H n).id≠x:=by
   have:=D i (by rw[pA ao];exact C)
   rwa[nf ao C,ax rfl]at this
  rw[fj,al (Xq w),fV]
  split
  ·rfl
  rename_i E
  refine av.b x λj u=>?_
  by_cases e:j=i
  ·subst e;exact λe=>E e.symm
  by_cases d:j=n
  ·rw[d];exact w
  have:=D j (by rw[pA ao];omega)
  rwa[nf ao U,al e]at this
theorem LS{f:Int->Option Value}(ao:H.length=n+1)(av:jX f H)(bB:gL H):jX (fV f (cw H n).id) (jn H n n) where
 a:=λj u=>by rw[pA ao]at u;rw[nf ao u,al U,fV,al (λd=>by have:=bB.inj U U d;omega)];exact av.a j U
 b:=λx C=>by rw[fV];split;rfl;rename_i w;refine av.b x λj u=>?_;by_cases d:j=n;rw[d];exact λe=>w e.symm;have:=C j (by rw[pA ao];omega);rwa[nf ao U,al d]at this
theorem DT(b:Nat)(now u:Int)(H:List c3)(ad:Option Addr)(n cap d m:Nat)(f:Int->Option Value)(i:Nat)(ao:H.length=n+1)(a2:i<=n)(a7:n<=900000)(Z:lF H)(av:jX f H)(bB:gL H):bH 278 [ae b,aa i] ba [aj b 367 [aa now,aa u,.slice ad (n+1) cap,.map (some d)],aZ 405 3 ad (n+1) cap (hS H),bO QM.encI d f m] (λ_:List c3×(Int->Option Value)×Nat=>.agg (mW (cw H i)).toArray) (λy=>y.1.length=n/\lF y.1/\jX y.2.1 y.1/\(cw H i::y.1).Perm H) (λy=>[aj b 367 [aa now,aa u,.slice ad n cap,.map (some d)],aZ 405 3 ad n cap (hS y.1),bO QM.encI d y.2.1 y.2.2]):=by
 apply aF Tryz.func278 Tryz.ntmps278;intro F _;apply J [83];refine ab.nj 1 rfl (λ_ a9 _=>?_);have aW:=mZ (show i<H.length by omega);have a0:=mZ (show n<H.length by omega);have bd:0<(hS H).length:=U
 have D:=pA ao i;have E:=LO ao a2;have a8:gL (cw H i::jn H n i):=bB.perm E;have ag:gL (jn H n i):=by grind[gL]
 refine J [25,353] ?_;intro bb;apply J [30];refine cC [0,1,2,3,4,5,6,7,8,9,10,11,12,-13,-14,15] (an (an (an (an (aX _))))) ?_;apply J [185,16];refine bY rfl rfl rfl (ht 405 3 rfl rfl rfl U eA) ?_;refine bY rfl rfl rfl (gH (vs:=ints [_,_,_]) 3 rfl rfl (nk lR aW) rfl am) ?_;refine J [185,459,438] ?_;rw[show(((n+1:Nat):Int)-1)=(n:Int)from by omega];refine J [17,353] ?_;intro bD;refine J [10,258,653,97,7] ?_;refine cC [0,1,2,3,4,5,-6] (an (an (an (aX _)))) ?_;apply J [275,135,258];refine lP 3 3 rfl (Yh rfl) rfl rfl rfl ?_;refine J [110,100,3,436] ?_;refine q rfl rfl (gH (vs:=ints [_,_,_]) 3 rfl rfl (nk lR a0) rfl am) ?_;refine J [0,353] ?_;intro cp;apply J [281,2,36,176,55,3];refine q rfl rfl (nG 405 3 (n) rfl rfl rfl U U) ?_;apply J [80,288,269,30,195,183];apply Vf rfl<;>intro bc;have w:i<n:=U
 have N:(H.take n).set i (cw H n)=jn H n i:=by rw[jn,ax w]
 have a3:(H.take n).length=n:=b2
 refine WD (B:=ah [aj b 367 [aa now,aa u,.slice ad n cap,.map (some d)],aZ 405 3 ad n cap (hS (H.take n)),bO QM.encI d (fV f (cw H i).id) _,aj cp 405 (mW (cw H n)),aj bD 405 (mW (cw H i)),aj bb 405 (ints [0,0,0]),F]) (an (eI 4 rfl (by rw[<-D7];exact p1 U) (bU (an (an (an (an (aX _)))))))) ?_;apply J [34,354,0];refine aI (og b now u (H.take n) ad n cap d _ _ i a3 w U (cw H n)) rfl (d6 0 rfl (d6 0 rfl (d6 0 rfl (ev _)))) trivial ?_;intro _ _;apply J [18];rw[N];apply J [2,32];refine aI (Mb b now u (jn H n i) ad n cap d _ _ i D w U (LQ ao Z) ((LR ao av bB w).Dv i) ag) rfl (d6 0 rfl (d6 0 rfl (d6 0 rfl (ev _)))) trivial ?_;intro⟨W,f3,a4⟩ ⟨V,C,j,ar,aw,O⟩;apply J [18];dsimp only at V C ar aw O⊢;rw[nf ao w,ax rfl]at O;have au:W.length=n:=by rw[C.length_eq,D]
 have aP:f3 (cw H n).id=some (aa j):=by rw[<-O];exact V.a j U
 refine J [2,578,78,275,135] ?_;refine bY rfl rfl rfl (kj 3 3 rfl rfl (Yh rfl) rfl rfl) ?_;rw[aP];refine dl rfl rfl rfl rfl ?_;refine aI (IG b now u W ad n cap d a4 f3 j au ar U aw (V.Dv j) (ag.perm C)) rfl (d6 0 rfl (d6 0 rfl (d6 0 rfl (ev _)))) trivial ?_;intro⟨aL,f4,a5⟩ ⟨aq,ay,P⟩;change ca _ _ _ _ _ _ _ _ _ _ (ah [_,_,_,_,_,_,_]);dsimp only at aq ay P⊢;apply J [73,24,354,281,224];exact YE ⟨aL,f4,a5⟩ [_] ⟨(e5 (n:=3) rfl rfl rfl rfl),trivial⟩ rfl ⟨by dsimp only;rw[P.length_eq,au],aq,ay,((P.trans C).cons _).trans E⟩ (bU (bU (bU (c0 (aX _)))));obtain rfl:i=n:=by omega
 have N:H.take i=jn H i i:=by rw[jn,al U]
 refine WD (B:=ah [aj b 367 [aa now,aa u,.slice ad i cap,.map (some d)],aZ 405 3 ad i cap (hS (jn H i i)),bO QM.encI d (fV f (cw H i).id) _,aj cp 405 (mW (cw H i)),aj bD 405 (mW (cw H i)),aj bb 405 (ints [0,0,0]),F]) (an (eI 4 rfl (by rw[<-N,<-D7];exact p1 U) (bU (an (an (an (an (aX _)))))))) ?_;apply J [4,24,354,281,224];exact YE ⟨jn H i i,_,_⟩ [_] ⟨(e5 (n:=3) rfl rfl rfl rfl),trivial⟩ rfl ⟨D,LP ao Z,LS ao av bB,E⟩ (bU (bU (bU (c0 (aX _)))))
end Go.Proofs.Q.iy
namespace Go.Proofs.Q.iy
open Go Go.QM
structure jF(H:List c3)(n:Nat)(f:Int->Option Value)(cn:Int)(Q:List c3):Prop where
  n:H.length=n
  lX:lF H
  sd:jX f H
  pm:H.Perm Q
  bq:gL Q
  cn:∀e∈Q,e.cn<=cn
  uY:Q.Pairwise λa b=>a.cn<b.cn
structure JG where
  H:List c3
  n:Nat
  f:Int->Option Value
  ad:Option Addr
  cap:Nat
  IL:Nat
  m:Nat
def n9(b:Nat)(now cn:Int)(Q:List c3):ay:=fg λy:JG=>pure' (jF y.H y.n y.f cn Q) (ah [aj b 367 [.int .i64 now,.int .i64 cn,.slice y.ad y.n y.cap,.map (some y.IL)],aZ 405 3 y.ad y.n y.cap (hS y.H),bO QM.encI y.IL y.f y.m])
variable{H Q:List c3}{n:Nat}{cn:Int}
theorem jF.len{f:Int->Option Value}(h:jF H n f cn Q):n=Q.length:=by rw[<-h.n,h.pm.length_eq]
theorem jF.xn{f:Int->Option Value}(h:jF H n f cn Q):gL H:=h.bq.perm h.pm
theorem jF.start(d:Int):jF [] 0 (λ_=>none) d []:=⟨rfl,(λk _ h=>by simp at h),⟨(λj h=>by simp at h),λ_ _=>rfl⟩,Xv _,V1,(λe h=>by cases h),Yw⟩
def jr(Q:List c3)(id:Int):Prop:=∃e∈Q,e.id=id
instance (Q:List c3)(id:Int):Decidable (jr Q id):=inferInstanceAs (Decidable (∃e∈Q,e.id=id))
variable{id:Int}
theorem jF.yes{f:Int->Option Value}(h:jF H n f cn Q)(C:jr Q id):∃j,j<n/\(cw H j).id=id/\f id=some (aa j):=by obtain⟨e,he,rfl⟩:=C;obtain⟨j,d,u,w⟩:=h.sd.some (h.pm.mem_iff.2 he);exact⟨j,by rw[<-h.n];exact d,by rw[u],w⟩
theorem jF.no{f:Int->Option Value}(h:jF H n f cn Q)(u:¬jr Q id):f id=none:=
 h.sd.none λe he d=>u ⟨e,h.pm.mem_iff.1 he,d⟩
def hZ(Q:List c3)(now cn id lu:Int):List c3×Int×Int:=
  if id<0\/lu<1\/1048576<lu then(Q,cn,1)else if jr Q id then(Q,cn,7)else(Q++[⟨now+lu,cn+1,id⟩],cn+1,0)
theorem Mo(H:List c3)(e:c3):hS (H++[e])=hS H++mW e:=by simp[hS]
variable{e:c3}
theorem wG{k:Nat}(h:k<H.length):cw (H++[e]) k=cw H k:=by simp[cw,Vu,List.getElem?_append,h]
theorem SL(h:lF H)(e:c3):nP (H++[e]) H.length where
 a:=λk u d C=>by rw[mp,Vl]at d;rw[kZ,wG U,wG U];exact h k u U
 b:=λk u d D w=>by rw[mp,Vl]at d;omega
theorem SM{f:Int->Option Value}(h:jX f H)(e:c3):nU f (H++[e]) H.length where
 a:=λj d w=>by rw[mp,Vl]at d;rw[wG U];exact h.a j U
 b:=λx u=>h.b x λj d=>by have:=u j (by rw[mp];omega);rwa[wG d]at this
theorem BV{H:List c3}(h:gL H)(d:∀a∈H,a.id≠e.id):gL (H++[e]):=by grind[gL]
theorem jF.set{u:List c3}{f f4:Int->Option Value}(h:jF H n f cn Q)(he:e.cn=cn+1)(O:¬jr Q e.id)(D:lF u)(E:jX f4 u)(w:u.Perm (H++[e])):jF u (n+1) f4 (cn+1) (Q++[e]) where
 n:=by rw[w.length_eq,mp,h.n];rfl
 lX:=D
 sd:=E
 pm:=w.trans (h.pm.append_right _)
 bq:=BV h.bq λa d C=>O ⟨a,d,C⟩
 cn:=λa d=>by
  rcases Ve.1 d with d|d
  ·have:=h.cn a d;omega
  obtain rfl:=Vd.1 d;omega
 uY:=by rw[List.pairwise_append];refine⟨h.uY,List.pairwise_singleton _ _,λa d b N=>?_⟩;obtain rfl:=Vd.1 N;have:=h.cn a d;omega
def iF(Q:List c3)(id:Int):List c3:=Q.filter λe=>decide (e.id≠id)
theorem Ew(h:gL (e::H)):iF (e::H) e.id=H:=by rw[iF,Wt cE];refine VK.2 λa d=>?_;have:=(Vw.1 h).1;simp_all
theorem jF.off{d:List c3}{f w:Int->Option Value}(h:jF H (n+1) f cn Q){j:Nat}(O:(cw H j).id=id)(D:d.length=n)(E:lF d)(N:jX w d)(C:(cw H j::d).Perm H):jF d n w cn (iF Q id) where
 n:=D
 lX:=E
 sd:=N
 pm:=by
  have:=(C.trans h.pm).filter λe=>decide (e.id≠id)
  have u:=Ew (h.xn.perm C)
  rw[O]at u
  rw[iF]at u⊢
  rwa[u]at this
 bq:=h.bq.sublist ((WE).map _)
 cn:=λe he=>h.cn e (VE.1 he).1
 uY:=h.uY.sublist WE
theorem Qm(h:¬jr Q id):iF Q id=Q:=VK.2 λa d=>by
 simp only[decide_eq_true_eq];exact λe=>h ⟨a,d,e⟩
theorem Gz(h:jr Q id)(ao:gL Q):(iF Q id).length+1=Q.length:=by obtain⟨e,he,rfl⟩:=h;obtain⟨s,t,rfl⟩:=Xz he;have d:(e::(s++t)).Perm (s++e::t):=List.perm_middle.symm;have u:=(d.filter λa=>decide (a.id≠e.id)).length_eq;have w:=Ew (ao.perm d);grind[iF]
def hF(Q:List c3)(ids:List Int):List c3:=ids.foldl iF Q
theorem Lh(Q:List c3)(ids:List Int)(x:Int):hF Q (ids++[x])=iF (hF Q ids) x:=by simp[hF]
theorem wc(Q:List c3):∀ids,(hF Q ids).Sublist Q
 | []=>XD _
 | x::l=>by rw[hF,Xl];exact(wc (iF Q x) l).trans WE
theorem DF(Q:List c3)(ids:List Int):hF Q ids=Q.filter λe=>decide (e.id∉ids):=by induction ids generalizing Q with|nil=>exact(VK.2 λa _=>by simp).symm|cons x l d=>rw[hF,Xl];have:=d (iF Q x);rw[hF]at this;rw[this,iF,WZ];congr 1;funext e;rw[XP];simp only[VQ,decide_eq_true_eq,Vq,not_or];exact⟨λh=>⟨h.2,h.1⟩,λh=>⟨h.2,h.1⟩⟩
def jp(t:Int)(Q:List c3):List c3:=Q.filter λe=>decide (e.at_<=t)
def mE(t:Int)(Q:List c3):List c3:=Q.filter λe=>decide (¬e.at_<=t)
def ids(Q:List c3):List Int:=Q.map (·.id)
theorem Mh{f:Int->Option Value}{t:Int}{Q:List c3}(h:jF H n f cn Q)(W:0<n)(hle:(cw H 0).at_<=t)(Z:∀e∈Q,t<=e.at_):
 jp t Q=cw H 0::jp t (iF Q (cw H 0).id)/\mE t Q=mE t (iF Q (cw H 0).id):=by have ao:=h.n;have u:cw H 0∈Q:=h.pm.mem_iff.1 (zU U);have E:∀a∈Q,a.at_<=t->(cw H 0).cn<=a.cn:=λa d w=>(by obtain⟨k,C⟩:=Wa (h.pm.mem_iff.2 d);have D:=(Vm.1 C).1;have:=h.lX.min k D;grind[zV,hh]);generalize cw H 0=e at u hle E⊢;have N:=h.bq;have ag:=h.uY;clear h ao;obtain⟨s,r,rfl⟩:=Xz u;have P:(e::(s++r)).Perm (s++e::r):=List.perm_middle.symm;have ar:∀a∈s++r,a.id≠e.id:=λa d V=>(by have:=(Vw.1 (N.perm P)).1;grind);have aq:∀a∈s,¬a.at_<=t:=λa d w=>cm;have O:iF (s++e::r) e.id=s++r:=(by grind[iF,VK]);rw[O];constructor;all_goals grind[jp,XI,mE]
theorem DZ{f:Int->Option Value}{t:Int}(h:jF H n f cn Q)(u:n=0\/¬(cw H 0).at_<=t):jp t Q=[]/\mE t Q=Q:=by have w:∀a∈Q,¬a.at_<=t:=λa d=>(by obtain⟨k,C⟩:=Wa (h.pm.mem_iff.2 d);have D:=(Vm.1 C).1;have:=h.lX.min k D;rw[zV C]at this;rcases u with u|u;have:=h.n;omega;grind[hh]);exact⟨XI.2 (λa d=>by simpa using w a d),VK.2 (λa d=>by simpa using w a d)⟩
def uB(Q:List c3)(now id:Int):Int:=match Q.find? λe=>decide (e.id=id)with
  | some e=>e.at_-now
  | none=>0
theorem pT:bH 192 [] ba [] (λb:Nat=>ae b) (λ_=>True) (λb=>[n9 b 0 0 []]):=by apply aF Tryz.func192 Tryz.ntmps192;intro F _;refine J [8,168,25,352] ?_;intro bb;refine q rfl rfl (eh (cs:=[.int _ _,.int _ _,.slice _ _ _,.map _]) rfl) ?_;refine e rfl ?_;refine eS (v:=.agg #[_,_,_,_]) (l:=[.int _ _,.int _ _,.slice _ _ _,.map _]) rfl rfl ?_;intro bD;apply J [104];exact br bD trivial ((dI 405 3 _).trans (az ⟨[],0,λ_=>none,none,0,bb,0⟩ (jF.start 0) (bU (an (an (an (aX _)))))))
theorem Sm(b:Nat)(now d:Int)(Q:List c3)(a0:(0<=now/\now<=1000000000000)/\(0<=d/\d<=1000000000000)/\Q.length<=500000)(id w:Int):bn 380 [ae b,aa id,aa w] ba [n9 b now d Q] (aa (hZ Q now d id w).2.2) [n9 b now (hZ Q now d id w).2.1 (hZ Q now d id w).1]:=by
 apply aF Tryz.func380 Tryz.ntmps380;intro F _;apply J [1,35,229];refine VL 11 rfl (c:=false) rfl ?_;apply J [203,40];refine aU.split 15 rfl (λD=>?_) (λD=>?_);have D:=dz D;have aN:hZ Q now d id w=(Q,d,1):=by rw[hZ,ax U]
 rw[aN];dsimp only;apply J [316,48,190,12,139];exact hC;have D:=d7 D;apply J [203,40];refine aU.split 19 rfl (λE=>?_) (λE=>?_);have E:=dz E;have aN:hZ Q now d id w=(Q,d,1):=by rw[hZ,ax U]
 rw[aN];dsimp only;apply J [48,190,12,139];exact hC;have E:=d7 E;apply J [141,103];apply Vf rfl<;>intro a4;have aN:hZ Q now d id w=(Q,d,1):=by rw[hZ,ax U]
 rw[aN];dsimp only;apply J [139];exact hC;by_cases C:jr Q id;have aN:hZ Q now d id w=(Q,d,7):=by rw[hZ,al U,ax C]
 rw[aN];dsimp only;refine ab.open 0 rfl (λW V=>?_);obtain⟨H,n,f,ad,cap,O,m⟩:=W;have u:=V;apply J [83];dsimp only at u⊢;have N:=u.n;have aP:=u.len;have aL:=pE H;obtain⟨j,a3,a2,P⟩:=u.yes C;apply J [44,122,287,439];rw[P];apply J [312,184,62,2,12,139];exact e9 (az ⟨H,n,f,ad,cap,O,m⟩ u (an (an (an (an (aX _))))));have aN:hZ Q now d id w=(Q++[⟨now+w,d+1,id⟩],d+1,0):=by rw[hZ,al U,al C]
 rw[aN];dsimp only;refine ab.open 0 rfl (λW V=>?_);obtain⟨H,n,f,ad,cap,O,m⟩:=W;have u:=V;apply J [83];dsimp only at u⊢;have N:=u.n;have aP:=u.len;have aL:=pE H;have P:=u.no C;apply J [44,122,287,439];rw[P];refine J [312,184,62,107,65,146,268,202,30] ?_;refine ab.draw _ [22] [0,1,2,3,4,5,6,7,8,9,10,11,12,13,14,15,16,17,-18,-19,20,21,-22] aV aV (an (aX _)) ?_;refine J [78,185,49,16,374,133] ?_;refine bY rfl rfl rfl (eh (cs:=ints [_,_]) rfl) ?_;apply J [16];refine bY rfl rfl rfl (eh (cs:=ints [_,_,_]) rfl) ?_;refine dY rfl rfl ?_;refine bs (cs:=ints [_,_,_]) rfl ?_;intro cp;refine J [47] ?_;refine ap 24 rfl rfl rfl rfl rfl (Vp rfl) (show _=mW ⟨now+w,d+1,id⟩from rfl) rfl U gr ?_;intro Z ag;refine J [10,88,364,90,368,73,36,176,55] ?_;refine q rfl rfl (len 405 3 rfl rfl) ?_;refine J [243] ?_;rw[show(((n+1:Nat):Int)-1)=(n:Int)from by omega];rw[<-Mo];refine e rfl ?_;refine aI (IG b now (d+1) (H++[⟨now+w,d+1,id⟩]) Z (n+1) ag O m f n (by rw[mp,N];rfl) U U (by have:=SL u.lX ⟨now+w,d+1,id⟩;rwa[N]at this) (by have:=SM u.sd ⟨now+w,d+1,id⟩;rwa[N]at this) (BV u.xn λa ay aw=>C ⟨a,u.pm.mem_iff.1 ay,aw⟩)) rfl (d6 0 rfl (d6 0 rfl (d6 1 rfl (ev _)))) trivial ?_;intro⟨au,f4,aW⟩ ⟨ao,ar,aq⟩;apply J [9];dsimp only at ao ar aq⊢;apply J [118];exact e9 (az ⟨au,n+1,f4,Z,ag,O,aW⟩ (u.set rfl C ao ar aq) (an (an (an (bU (aX _))))))
theorem ze(b:Nat)(now u:Int)(Q:List c3)(a4:(0<=now/\now<=1000000000000)/\(0<=u/\u<=1000000000000)/\Q.length<=500000)(a2:Option Addr)(c2:Nat)(xs:List Int)(bd:xs.length<=1000000):bn 332 [ae b,.slice a2 xs.length c2] (λF=>∃E,cQ F E a2 (ints xs)) [n9 b now u Q] (aa ((Q.length:Int)-(hF Q xs).length)) [n9 b now u (hF Q xs)]:=by
 apply aF Tryz.func332 Tryz.ntmps332;intro F ⟨E,aq⟩;apply J [1];haveI:bi F a2 E (ints xs):=⟨aq⟩;have bh:=dP xs;apply J [106,35,33,177];refine VP (ι:=Nat×List c3) (λs=>s.1<=xs.length/\s.2=hF Q (xs.take s.1)) (λs=>[(0,ae b),(5,aa ((Q.length:Int)-(s.2.length:Int))),(10,.slice a2 xs.length c2),(11,aa xs.length),(12,aa ((s.1:Nat):Int))]) (λs=>ah [n9 b now u s.2,F]) (λs=>xs.length-s.1) ⟨0,Q⟩ ⟨Vj _,rfl⟩ ⟨rfl,congrArg (V3 .i64) (YL _).symm,rfl,rfl,rfl,trivial⟩ (an (an (aX _))) ?_;rintro⟨k,Z⟩ ⟨aw,C⟩ bj;dsimp only[cy]at aw C⊢;apply J [42];apply Vf rfl<;>intro a8;have ay:k<xs.length:=U
 obtain⟨x,qH⟩:∃x,xs[k]? =some x:=⟨xs[k],Vc ay⟩;have bc:0<(ints xs).length:=U
 have W:hF Q (xs.take (k+1))=iF Z x:=by grind[Vt,Lh]
 have a3:Z.length<=Q.length:=by grind[wc]
 refine J [188,509,31,7] ?_;refine ab.open 0 rfl (λa0 aP=>?_);obtain⟨H,n,f,ad,cap,N,m⟩:=a0;have d:=aP;apply J [83];dsimp only at d⊢;have ar:=d.n;have a9:=d.len;have a5:=pE H;apply J [37,156,108];by_cases w:jr Z x;obtain⟨j,a7,au,D⟩:=d.yes w;obtain⟨n,rfl⟩:∃z,n=z+1:=⟨n-1,by omega⟩;have ba:=Gz w d.bq;apply J [4,122,287,439];rw[D];apply J [312,184,62,2,12,32];refine aI (DT b now u H ad n cap N m f j ar U U d.lX d.sd d.xn) rfl (d6 0 rfl (d6 0 rfl (d6 0 rfl (ev _)))) trivial ?_;intro⟨ao,f4,aW⟩ ⟨P,O,ag,V⟩;apply J [14];dsimp only at P O ag V⊢;refine J [2,279,77,63] ?_;exact⟨rfl,⟨k+1,iF Z x⟩,⟨by dsimp only;omega,W.symm⟩,cK,⟨rfl,congrArg (V3 .i64) cK,rfl,rfl,rfl,trivial⟩,(az ⟨ao,n,f4,ad,cap,N,aW⟩ (d.off au P O ag V) (an (an (an (an (aX _))))))⟩;have D:=d.no w;have aL:=Qm w;apply J [4,122,287,439];rw[D];refine J [312,184,62,108,111] ?_;exact⟨rfl,⟨k+1,Z⟩,⟨by dsimp only;omega,by dsimp only;rw[W,aL]⟩,cK,bI,(az ⟨H,n,f,ad,cap,N,m⟩ d (an (an (an (an (aX _))))))⟩;obtain rfl:k=xs.length:=U
 rw[VY]at C;subst C;apply J [232];exact hC
theorem Cc(b:Nat)(now C:Int)(Q:List c3)(a8:(0<=now/\now<=1000000000000)/\(0<=C/\C<=1000000000000)/\Q.length<=500000)(a3:∀e∈Q,now<e.at_/\e.at_<=2000000000000):bH 214 [ae b] ba [n9 b now C Q] (λy:Option Addr×Nat=>.slice y.1 (ids (jp (now+1) Q)).length y.2) (λ_=>True) (λy=>[aZ 3 1 y.1 (ids (jp (now+1) Q)).length y.2 (ints (ids (jp (now+1) Q))),n9 b (now+1) C (mE (now+1) Q)]):=by
 apply aF Tryz.func214 Tryz.ntmps214;intro F _;apply J [1,115,196,101,121];refine ab.open 0 rfl (λV P=>?_);obtain⟨H,n,f,ad,cap,D,m⟩:=V;have d:=P;apply J [83];dsimp only at d⊢;refine J [37,54,146,80,81,202,30,72] ?_;refine VP (ι:=List c3×List Int×Option Addr×Nat) (λs=>s.1.Sublist Q/\s.2.1++ids (jp (now+1) s.1)=ids (jp (now+1) Q)/\mE (now+1) s.1=mE (now+1) Q) (λs=>[(0,ae b),(3,.slice s.2.2.1 s.2.1.length s.2.2.2)]) (λs=>ah [aZ 3 1 s.2.2.1 s.2.1.length s.2.2.2 (ints s.2.1),n9 b (now+1) C s.1,F]) (λs=>s.1.length) ⟨Q,[],none,0⟩ ⟨XD _,rfl,rfl⟩ bI ((dI 3 1 _).trans (b6 0 rfl kk (az ⟨H,n,f,ad,cap,D,m⟩ d (an (an (an (an (aX _)))))))) ?_;rintro⟨Z,o,hX,fq⟩ ⟨N,u,w⟩ bj;dsimp only[cy]at N u w⊢;have a7:=N.length_le;have aq:=congrArg WY u;rw[mp]at aq;have a9:(ids (jp (now+1) Q)).length<=Q.length:=by grind[ids,jp]
 clear d;refine ab.open 1 rfl (λV P=>?_);obtain⟨H,n,f,ad,cap,D,m⟩:=V;have d:=P;apply J [82];dsimp only at d⊢;have aP:=d.n;have bd:=d.len;have bc:=pE H;apply J [7,7];refine cC [0,1,2,3,4,5,6,7,8,9,10,11,12,13,14,15,16,17,18,19,20] (VW _) ?_;apply J [185,459,437,154];refine ca.split 19 rfl (λE=>?_) (λE=>?_);have E:=dz E;have a2:=mZ (show 0<H.length by omega);have bi:0<(hS H).length:=U
 refine J [341,299,372,163,511,389,389] ?_;refine eH rfl rfl rfl rfl (dB rfl rfl (pH lR a2 0 U rfl)) ?_;apply J [341,299,371,163];refine eH rfl rfl rfl rfl (leq rfl rfl) ?_;apply J [342,73];apply Vf rfl<;>intro W;obtain⟨d1,d2⟩:=Mh d U W (λa aW=>by have:=a3 a (N.subset aW);omega);obtain⟨n,rfl⟩:∃z,n=z+1:=⟨n-1,by omega⟩;have bh:=Gz ⟨_,d.pm.mem_iff.1 (zU (show 0<H.length by omega)),rfl⟩ d.bq;apply J [4,72,113,158,0];refine aI (DT b (now+1) C H ad n cap D m f 0 aP U U d.lX d.sd d.xn) rfl (d6 0 rfl (d6 0 rfl (d6 0 rfl (ev _)))) trivial ?_;intro⟨aw,f4,a4⟩ ⟨ao,ag,au,ar⟩;apply J [9];dsimp only at ao ag au ar⊢;refine J [330,150] ?_;intro a5;have a0:=congrArg WY d1;rw[Vy]at a0;rw[ids,Wb]at aq;refine e rfl ?_;refine ap 8 rfl rfl rfl rfl rfl (Vp rfl) (show _=ints [(cw H 0).id]from rfl) rfl U gr ?_;intro ay aL;apply J [85,246];exact⟨rfl,⟨iF Z (cw H 0).id,o++[(cw H 0).id],ay,aL⟩,⟨List.filter_sublist.trans N,by dsimp only;rw[<-u,d1];simp[ids],by dsimp only;rw[<-w,d2]⟩,cK,⟨rfl,congrArg (λn=>V0 _ n _) cE,trivial⟩,(b6 0 rfl (by simp[ints]) (az ⟨aw,n,f4,ad,cap,D,a4⟩ (d.off rfl ao ag au ar) (bU (bU (bU (bU (aX _)))))))⟩;have O:=DZ (t:=now+1) d (.inr W);obtain⟨d1,d2⟩:=O;rw[d1]at u;rw[ids,W5,V9]at u;rw[d2]at w;apply J [210,61];exact YE ⟨hX,fq⟩ [_] ⟨rfl,trivial⟩ (by rw[<-u];rfl) trivial (b6 3 rfl (by rw[<-u]) (az ⟨H,n,f,ad,cap,D,m⟩ (by rw[<-w];exact d) (an (an (an (an (aX _)))))));have E:=d7 E;have O:=DZ (t:=now+1) d (.inl U);apply J [187,187,187,384,241,73,23];obtain⟨d1,d2⟩:=O;rw[d1]at u;rw[ids,W5,V9]at u;rw[d2]at w;apply J [210,61];exact YE ⟨hX,fq⟩ [_] ⟨rfl,trivial⟩ (by rw[<-u];rfl) trivial (b6 3 rfl (by rw[<-u]) (az ⟨H,n,f,ad,cap,D,m⟩ (by rw[<-w];exact d) (an (an (an (an (aX _)))))))
end Go.Proofs.Q.iy
namespace Go.QM
open Go
section
variable {P : Program} {ag : Env} {A : ay} {d : Option Nat} {ty : TypeId} {ps : String} {bh : Array Edge} {g : Option (Nat × Bool)} {t t' : TypeId} {x y : Operand} {k : IntKind} {a b c : Int}
theorem Sq{D:IntKind}{n:Int}(u:bc ag x=.int k a)(C:bc ag y=.int D n)(E:0<=n):
    bE P ag ⟨d,.binOp .shr t x y t',ty,ps,bh,g⟩ A (.int k (a.fdiv (2^min n.toNat k.bits))):=λw _=>by
  have:¬n<0:=U
  simp[execOp,u,C,eqGuard,binOp,Op.shift,this]
end
end Go.QM
namespace Go.QM
open Go
section
variable {P : Program} {ag : Env} {A : ay} {d : Option Nat} {ty : TypeId} {ps : String} {bh : Array Edge} {g : Option (Nat × Bool)} {t t' : TypeId} {x y : Operand} {a b n : Nat}
theorem F1{n:Nat}:min ((n:Int)).toNat IntKind.u64.bits=min n 64:=rfl
theorem L2{a:Nat}(n:Nat)(d:a<2^64):a/2^min n 64=a/2^n:=by by_cases h:n<=64;simp_all;rw[Nat.min_eq_right U,Nat.div_eq_of_lt d,Nat.div_eq_of_lt];exact Nat.lt_of_lt_of_le d (Nat.pow_le_pow_right am U)
theorem Sp{C:IntKind}(u:bc ag x=bk a)(w:bc ag y=.int C (n:Int))(D:a<2^64):
    bE P ag ⟨d,.binOp .shr t x y t',ty,ps,bh,g⟩ A (bk ((a/2^n:Nat):Int)):=by have h:=Sq (P:=P) (A:=A) (d:=d) (ty:=ty) (ps:=ps) (bh:=bh) (g:=g) (t:=t) (t':=t') u w U;have e:(a:Int).fdiv (2^min ((n:Int)).toNat IntKind.u64.bits)=((a/2^n:Nat):Int):=(by grind[F1,L2]);simp_all
theorem HA{C:IntKind}(u:bc ag x=bk a)(w:bc ag y=.int C (n:Int))(ao:n<=64):
    bE P ag ⟨d,.binOp .shl t x y t',ty,ps,bh,g⟩ A (bk ((a*2^n %2^64:Nat):Int)):=
  BP u w U (by rw[F1,Nat.min_eq_left ao,IntKind.wrap_u64];simp)
theorem Df(C:bc ag x=bk a)(D:bc ag y=bk b)(u:a<2^64)(w:b<2^64):
    bE P ag ⟨d,.binOp .and t x y t',ty,ps,bh,g⟩ A (bk ((a&&&b:Nat):Int)):=vR C D (bits_and_u64_nat a b u w)
theorem QB(C:bc ag x=bk a)(D:bc ag y=bk b)(u:a<2^64)(w:b<2^64):
    bE P ag ⟨d,.binOp .or t x y t',ty,ps,bh,g⟩ A (bk ((a|||b:Nat):Int)):=Bm C D (bits_or_u64_nat a b u w)
theorem Up(D:bc ag x=bk a)(E:bc ag y=bk b)(u:a<2^64)(C:b<2^64):
    bE P ag ⟨d,.binOp .xor t x y t',ty,ps,bh,g⟩ A (bk ((a^^^b:Nat):Int)):=λw _=>by
  have h:IntKind.u64.wrap (VX IntKind.u64.bits (a:Int)^^^VX IntKind.u64.bits (b:Int)).toNat=((a^^^b:Nat):Int):=bits_xor_u64_nat a b u C
  simp[execOp,D,E,eqGuard,binOp,Op.intBits]
  simpa using h
theorem Kb(w:bc ag x=bk a)(C:bc ag y=bk 1)(u:a<2^64):
    bE P ag ⟨d,.binOp .and t x y t',ty,ps,bh,g⟩ A (bk ((a %2:Nat):Int)):=by have h:=Df (P:=P) (A:=A) (d:=d) (ty:=ty) (ps:=ps) (bh:=bh) (g:=g) (t:=t) (t':=t') (b:=1) w C u am;simp_all
theorem Sn{C:IntKind}(u:bc ag x=bk 1)(w:bc ag y=.int C (n:Int))(ao:n<64):
    bE P ag ⟨d,.binOp .shl t x y t',ty,ps,bh,g⟩ A (bk ((2^n:Nat):Int)):=by have h:=HA (P:=P) (A:=A) (d:=d) (ty:=ty) (ps:=ps) (bh:=bh) (g:=g) (t:=t) (t':=t') (a:=1) u w U;rwa[Nat.one_mul,Nat.mod_eq_of_lt (Nat.pow_lt_pow_right am ao)]at h
theorem Lv(C:bc ag x=bk a)(u:a<2^64):bE P ag ⟨d,.unOp .xor t x,ty,ps,bh,g⟩ A (bk ((2^64-1^^^a:Nat):Int)):=λw _=>by
  have h:IntKind.u64.wrap (VX IntKind.u64.bits ((2^64-1:Nat):Int)^^^VX IntKind.u64.bits (a:Int)).toNat=((2^64-1^^^a:Nat):Int):=bits_xor_u64_nat (2^64-1) a am u
  have e:(if IntKind.u64.signed=true then(-1:Int)else IntKind.u64.max)=((2^64-1:Nat):Int):=am
  simp only[execOp,C,Op.unary,e,Op.intBits]
  simpa using h
end
def ou(f:Nat->Bool):Nat->Nat
  | 0=>0
  | n+1=>ou f n+if f n then 2^n else 0
theorem Cq(f:Nat->Bool):∀n,ou f n<2^n
  | 0=>Nat.one_pos
  | n+1=>by have h:=Cq f n;rw[ou,Nat.pow_succ];split<;>omega
theorem IR(f:Nat->Bool):∀(n i:Nat),(ou f n).testBit i=(decide (i<n)&&f i)
  | 0,i=>by simp[ou]
  | n + 1,i=>by
    have E:=Cq f n
    have w:=IR f n i
    rw[ou]
    by_cases d:f n=true
    · rw[ax d,Nat.add_comm,<-Nat.one_mul (2^n),WR,Nat.testBit_two_pow_mul_add _ E]
      by_cases u:i<n
      · rw[ax u,w];simp[u,Nat.lt_succ_of_lt u]
      · rw[al u]
        by_cases e:i=n
        · subst e;simp[d]
        · have:i-n≠0:=U
          rw[dn (by omega:¬i<n+1),Bool.false_and]
          have C:(1:Nat).testBit (i-n)=false:=by
            obtain⟨j,D⟩:∃j,i-n=j+1:=⟨i-n-1,by omega⟩
            rw[D,Nat.testBit_succ];simp
          exact C
    · rw[al d,Nat.add_zero,w]
      by_cases e:i=n
      · subst e;simp[d]
      · have:decide (i<n)=decide (i<n+1):=by rw[decide_eq_decide];omega
        rw[this]
theorem IS{f g:Nat->Bool}:∀{n:Nat},(∀i,i<n->f i=g i)->ou f n=ou g n
  | 0,_=>rfl
  | n+1,h=>by rw[ou,ou,IS λi d=>h i U,h n U]
end Go.QM
namespace Go.QM
open Go
def kL(m:Nat->Nat)(o:Nat):Nat->Nat
  | 0=>0
  | n+1=>kL m o n+m (o+n)*2^(8*n)
def cW(m:Nat->Nat)(o:Nat):Nat:=kL m o 8
def oH(m:Nat->Nat):Prop:=∀i,m i<256
theorem w8{m:Nat->Nat}(h:oH m)(o:Nat):∀n,kL m o n<2^(8*n)
  | 0=>Nat.one_pos
  | n+1=>by
   have d:=w8 h o n;have u:=h (o+n);have e:2^(8*(n+1))=256*2^(8*n):=by rw[Nat.mul_add,Nat.pow_add,WR]
   rw[kL,e];generalize 2^(8*n)=p at d⊢;have:m (o+n)*p<=255*p:=Nat.mul_le_mul_right _ U;omega
variable{m:Nat->Nat}
theorem sS(h:oH m)(o:Nat):cW m o<2^64:=w8 h o 8
theorem uA{m m':Nat->Nat}{o:Nat}:∀{n:Nat},(∀i,o<=i->i<o+n->m i=m' i)->kL m o n=kL m' o n
  | 0,_=>rfl
  | n+1,h=>by rw[kL,kL,uA λi d u=>h i d U,h (o+n) U U]
theorem QC{a c k:Nat}(h:a<2^k):a|||c*2^k=a+c*2^k:=by grind[WR,Nat.two_pow_add_eq_or_of_lt]
def x0(m:Nat->Nat)(o:Nat)(v:Nat)(n:Nat):Nat->Nat:=λi=>if o<=i/\i<o+n then v/2^(8*(i-o)) %256 else m i
def x1(m:Nat->Nat)(o:Nat)(v:Nat):Nat->Nat:=x0 m o v 8
theorem FH{m:Nat->Nat}{o v:Nat}{k:Nat}:∀{n:Nat},n<=k->kL (x0 m o v k) o n=v %2^(8*n)
  | 0,_=>by rw[kL];simp;omega
  | n+1,h=>by
   rw[kL,FH U,x0,ax U,Nat.add_sub_cancel_left];have e:2^(8*(n+1))=2^(8*n)*256:=by rw[Nat.mul_add,Nat.pow_add]
   rw[e,Nat.mod_mul,WR (v/_ %256)]
theorem Pr(m:Nat->Nat)(o:Nat){v:Nat}(hv:v<2^64):cW (x1 m o v) o=v:=by rw[cW,x1,FH (Nat.le_refl 8)];exact Nat.mod_eq_of_lt hv
variable{n:Nat}
theorem Pq{o d:Nat}{g:Nat->Nat}(h:d+8<=o\/o+n<=d):cW (λi=>if o<=i/\i<o+n then g i else m i) d=cW m d:=
  uA λi u w=>by rw[al U]
def hf(m:Nat->Nat)(o n:Nat):Nat->Nat:=λi=>if o<=i/\i<o+n then 0 else m i
theorem UD(h:oH m)(o n:Nat):oH (hf m o n):=λi=>by
  rw[hf];split
  · decide
  · exact h i
theorem UE(m:Nat->Nat)(o n:Nat):hf m o (n+1)=λi=>if i=o+n then 0 else hf m o n i:=by funext i;rw[hf,hf];grind
theorem UF(m:Nat->Nat)(o:Nat):hf m o 0=m:=funext λi=>by rw[hf,al U]
theorem FI{m:Nat->Nat}{o:Nat}:∀{n:Nat},(∀i,o<=i->i<o+n->m i=0)->kL m o n=0
  | 0,_=>rfl
  | n+1,h=>by rw[kL,FI λi d u=>h i d U,h (o+n) U U];simp
theorem w9{o d:Nat}(u:o<=d)(w:d+8<=o+n):cW (hf m o n) d=0:=
  FI λi C D=>by rw[hf,ax U]
theorem AE{o d:Nat}(h:d+8<=o\/o+n<=d):cW (hf m o n) d=cW m d:=Pq h
def iX(m:Nat->Nat)(n:Nat):List Value:=(List.range n).map λi=>.int .u8 (m i:Int)
theorem sD(m:Nat->Nat)(n:Nat):(iX m n).length=n:=by simp[iX]
theorem y4(m:Nat->Nat){i:Nat}(h:i<n):(iX m n)[i]? =some (m6 (m i:Int)):=by simp[iX,h]
theorem Dw(m:Nat->Nat){i:Nat}(h:i<n)(v:Nat):dM i [m6 v] (iX m n)=iX (λj=>if j=i then v else m j) n:=by have e:iX (λj=>if j=i then v else m j) n=(iX m n).set i (m6 v):=(by apply List.ext_getElem?;intro j;by_cases d:j<n;rw[y4 _ d,List.getElem?_set];by_cases e:i=j;subst e;rw[ax rfl,ax rfl,ax (by rw[sD];exact h)];rw[al (λh=>e h.symm),al e,y4 _ d];grind[sD]);rw[e,List.set_eq_take_append_cons_drop,ax (by rw[sD];exact h)];grind[dM]
theorem KK(m:Nat->Nat)(n:Nat):(iX m n).all Value.oneCell'=true:=by rw[List.all_eq_true];intro v hv;obtain⟨i,_,rfl⟩:=List.mem_map.1 hv;trivial
end Go.QM
namespace Go.QM
open Go
def ip(f:Nat->Bool)(k:Nat):Nat:=ou (λj=>f (64*k+j)) 64
variable(f:Nat->Bool)
theorem tP(k:Nat):ip f k<2^64:=Cq _ 64
theorem ru(k j:Nat):(ip f k).testBit j=(decide (j<64)&&f (64*k+j)):=IR _ 64 j
def k4(f:Nat->Bool)(w:Nat):List Value:=(Wo w).map λk=>.int .u64 (ip f k:Int)
theorem rr(w:Nat):(k4 f w).length=w:=by simp[k4]
theorem rq{w k:Nat}(h:k<w):(k4 f w)[k]? =some (bk (ip f k:Int)):=by simp[k4,h]
theorem KA(i:Nat):ip f (i/64)/2^(i %64) %2=if f i=true then 1 else 0:=by have h:=ru f (i/64) (i %64);grind
def fa(f:Nat->Bool)(i:Nat):Nat->Bool:=λx=>if x=i then !f x else f x
theorem KB(i:Nat):ip f (i/64)^^^2^(i %64)=ip (fa f i) (i/64):=by apply Nat.eq_of_testBit_eq;intro j;rw[Yx,ru,ru,Nat.testBit_two_pow,fa];grind
theorem KC{i k:Nat}(h:k≠i/64):ip (fa f i) k=ip f k:=
  IS λj d=>by rw[fa,al U]
theorem Kz{i w:Nat}(h:i/64<w):dM (i/64) [bk ((ip f (i/64)^^^2^(i %64):Nat):Int)] (k4 f w)=k4 (fa f i) w:=by have e:k4 (fa f i) w=(k4 f w).set (i/64) (bk ((ip f (i/64)^^^2^(i %64):Nat):Int)):=(by apply List.ext_getElem?;intro j;by_cases d:j<w;rw[rq _ d,List.getElem?_set];by_cases e:i/64=j;subst e;rw[ax rfl,ax (by rw[rr];exact h),KB];rw[al e,rq _ d,KC f (Ne.symm e)];grind[rr]);rw[e,List.set_eq_take_append_cons_drop,ax (by rw[rr];exact h)];grind[dM]
def l7(on:Bool)(x:Nat):Nat:=if on=true then x else 2^64-1^^^x
theorem Qp{on:Bool}{x:Nat}(h:x<2^64):l7 on x<2^64:=by rw[l7];split;trivial;exact Nat.xor_lt_two_pow am h
theorem Bl(on:Bool)(f:Nat->Bool)(k:Nat){j:Nat}(d:j<64):(l7 on (ip f k)).testBit j=(f (64*k+j)==on):=by rw[l7];cases on with|true=>rw[ax rfl,ru,c7 d];cases f (64*k+j)<;>rfl|false=>rw[al am,Yx,Nat.testBit_two_pow_sub_one,ru,c7 d];cases f (64*k+j)<;>rfl
theorem zt{x s j:Nat}(hs:s<64)(d:j<64):(x/2^s*2^s %2^64).testBit j=(decide (s<=j)&&x.testBit j):=by rw[Nat.testBit_mod_two_pow,c7 d,Bool.true_and,WR,Nat.testBit_two_pow_mul];grind
theorem LM{x:Nat}(d:x≠0)(h:x<2^64):Xy 64 x<64/\x.testBit (Xy 64 x)=true/\∀j,j<Xy 64 x->x.testBit j=false:=by
 obtain⟨m,hm,u⟩:=Lib.ctzFrom_spec 64 x U h;have e:Xy 64 x=Lib.ctzFrom 64 x:=by grind[Xy]
 grind
def yC(f:Nat->Bool)(on:Bool)(n o i:Nat):Prop:=o<=i/\i<n/\f i=on/\∀j,o<=j->j<i->f j≠on
def tB(f:Nat->Bool)(on:Bool)(n o:Nat):Prop:=∀j,o<=j->j<n->f j≠on
theorem T7{f:Nat->Bool}{on:Bool}{k s:Nat}(hs:s<64)(h:l7 on (ip f k)/2^s*2^s %2^64=0){j:Nat}(u:64*k+s<=j)(w:j<64*(k+1)):f j≠on:=λe=>by
  have d:=zt (x:=l7 on (ip f k)) hs (show j-64*k<64 by omega)
  rw[h,Nat.zero_testBit,Bl on f k U,show 64*k+(j-64*k)=j by omega,c7 (by omega:s<=j-64*k),e]at d
  cases on<;>cases d
theorem T6{f:Nat->Bool}{on:Bool}{k s:Nat}(hs:s<64)(h:l7 on (ip f k)/2^s*2^s %2^64≠0):
    ∃c,Xy 64 (l7 on (ip f k)/2^s*2^s %2^64)=c/\c<64/\s<=c/\f (64*k+c)=on/\∀j,64*k+s<=j->j<64*k+c->f j≠on:=by obtain⟨d,u,w⟩:=LM h (XY _ am);refine⟨_,rfl,d,?_⟩;generalize Xy 64 (l7 on (ip f k)/2^s*2^s %2^64)=c at d u w;rw[zt hs d,Bl on f k d]at u;have C:s<=c:=b2;rw[c7 C,Bool.true_and]at u;refine⟨C,by simpa using u,λj D E e=>?_⟩;have H:=w (j-64*k) U;grind[zt,Bl]
end Go.QM
namespace Go.QM
abbrev j8:=Nat->Nat->Bool
def k7(f:j8)(p:Nat):Nat->Nat
  | 0=>0
  | k+1=>k7 f p k+(f k (p/2^k)).toNat
def lr(f:j8)(k i:Nat)(v:Bool):j8:=λwT EW=>if wT=k/\EW=i then v else f wT EW
theorem tV(f:j8)(k i:Nat)(v:Bool)(p:Nat):∀n,k7 (lr f k i v) p n+(if k<n/\p/2^k=i then(f k i).toNat else 0)=k7 f p n+(if k<n/\p/2^k=i then v.toNat else 0)
  | 0=>by simp[k7]
  | n+1=>by have w:=tV f k i v p n;rw[k7,k7,lr];by_cases e:n=k;subst e;rw[al U,al U]at w;by_cases d:p/2^n=i;rw[ax ⟨rfl,d⟩,ax ⟨by omega,d⟩,ax ⟨by omega,d⟩,d];omega;rw[al (λh=>d h.2),al (λh=>d h.2),al (λh=>d h.2)];omega;rw[al (λh=>e h.1)];by_cases d:p/2^k=i;by_cases u:k<n;rw[ax ⟨u,d⟩,ax ⟨u,d⟩]at w;rw[ax ⟨by omega,d⟩,ax ⟨by omega,d⟩];omega;rw[al (λh=>u h.1),al (λh=>u h.1)]at w;rw[al (λh=>u U),al (λh=>u U)];omega;rw[al (λh=>d h.2),al (λh=>d h.2)]at w;rw[al (λh=>d h.2),al (λh=>d h.2)];omega
theorem wh{f:j8}{p k:Nat}:∀{n:Nat},k7 f p n=0->k<n->f k (p/2^k)=false
  | 0,_,h=>by omega
  | n+1,h,u=>by
   rw[k7]at h;by_cases e:k=n;subst e;cases d:f k (p/2^k)with|false=>rfl|true=>rw[d]at h;simp at h
   exact wh (n:=n) U U
theorem zq{f:j8}{p:Nat}:∀{n:Nat},(∀k,k<n->f k (p/2^k)=false)->k7 f p n=0
  | 0,_=>rfl
  | n+1,h=>by rw[k7,zq λk d=>h k U,h n U];rfl
variable{f:j8}{k:Nat}
theorem DO{p:Nat}{n:Nat}(h:f k (p/2^k)=true)(d:k<n):k7 f p n≠0:=λe=>by
  rw[wh e d]at h;cases h
theorem tY(p k:Nat):p/2^(k+1)=p/2^k/2:=by rw[Yd,Nat.div_div_eq_div_mul]
theorem xj(i k:Nat):i*2^k/2^k=i:=Nat.mul_div_cancel i (Xg k)
variable{top i:Nat}
theorem FR(u:k<=top)(d:i<2^(top-k)):i*2^k<2^top:=by
 have e:2^top=2^(top-k)*2^k:=by rw[<-Nat.pow_add];congr 1;omega
 rw[e];exact Yy d (Xg k)
theorem wJ(d:k<top):2^(top-k)=2*2^(top-(k+1)):=by rw[show top-k=(top-(k+1))+1 by omega,Yd,WR]
structure mg(f:j8)(top:Nat)(ci:List Nat):Prop where
  bd:∀k i,f k i=true->k<=top/\i<2^(top-k)
  aq:∀p,p<2^top->k7 f p (top+1)=if p∈ci then 0 else 1
  bq:ci.Nodup
  lt:∀p∈ci,p<2^top
structure ku(f:j8)(top:Nat)(ci:List Nat)(k i:Nat):Prop where
  hU:k<=top
  it:i<2^(top-k)
  bd:∀k i,f k i=true->k<=top/\i<2^(top-k)
  aq:∀p,p<2^top->k7 f p (top+1)=if p∈ci\/p/2^k=i then 0 else 1
  bq:ci.Nodup
  lt:∀p∈ci,p<2^top
  uL:∀p,p/2^k=i->p∉ci
theorem sA(bd:∀k i,f k i=true->k<=top/\i<2^(top-k)){k i:Nat}{v:Bool}(h:v=true->k<=top/\i<2^(top-k)):
    ∀d w,lr f k i v d w=true->d<=top/\w<2^(top-d):=λd w u=>by
  rw[lr]at u
  split at u
  · rename_i e;obtain⟨rfl,rfl⟩:=e;exact h u
  · exact bd d w u
theorem vh{l m:List Nat}(ao:l.Nodup)(h:∀x∈l,x∈m):l.length<=m.length:=by induction l generalizing m with|nil=>exact Vj _|cons x l D=>obtain⟨w,C⟩:=Vw.1 ao;have d:x∈m:=h x cE;have:=D (m:=m.erase x) C λy u=>(List.mem_erase_of_ne (λe:y=x=>w (e▸u))).2 (h y (by simp[u]));rw[List.length_erase_of_mem d]at this;have:=List.length_pos_of_mem d;rw[Vy];omega
variable{ci:List Nat}
theorem mg.none(h:mg f top ci)(ao:∀k,k<=top->∀i,i<2^(top-k)->f k i=false):2^top<=ci.length:=by have:=vh (l:=Wo (2^top)) (m:=ci) List.nodup_range λp u=>(by have u:=Yl.1 u;have w:=h.aq p u;rw[zq λk C=>?_]at w;simp_all;cases d:f k (p/2^k)with|false=>rfl|true=>obtain⟨a,b⟩:=h.bd _ _ d;rw[ao k a _ b]at d;cases d);simp_all
theorem mg.take(h:mg f top ci)(w:f k i=true):ku (lr f k i false) top ci k i:=by obtain⟨a,b⟩:=h.bd _ _ w;have key:∀p,p<2^top->p/2^k=i->p∉ci/\k7 f p (top+1)=1:=λp u e=>(by have d:=h.aq p u;by_cases C:p∈ci;rw[ax C]at d;exact absurd d (DO (k:=k) (by rw[e];exact w) U);simp_all);refine⟨a,b,sA h.bd (λh=>by cases h),λp u=>?_,h.bq,h.lt,λp e hu=>(key p (h.lt p hu) e).1 hu⟩;have d:=tV f k i false p (top+1);by_cases e:p/2^k=i;grind;rw[al (λh=>e h.2),al (λh=>e h.2),h.aq p u]at d;simp_all
theorem ku.split(h:ku f top ci (k+1) i):f k (2*i+1)=false/\ku (lr f k (2*i+1) true) top ci k (2*i):=by have H:=h.hU;have E:=h.it;have N:=wJ (k:=k) (top:=top) U;have C:(2*i+1)*2^k<2^top:=FR U U;have u:f k (2*i+1)=false:=(by have d:=h.aq _ C;(have e:(2*i+1)*2^k/2^(k+1)=i:=by grind[tY,xj]);rw[ax (.inr e)]at d;grind[wh,xj]);refine⟨u,by omega,by omega,sA h.bd λ_=>by omega,λp D=>?_,h.bq,h.lt,λp e=>h.uL p (by rw[tY,e];omega)⟩;have d:=tV f k (2*i+1) true p (top+1);have w:=h.aq p D;rw[tY]at w;rw[u]at d;by_cases e:p/2^k=2*i+1;have hu:p∉ci:=h.uL p (by rw[tY,e];omega);grind;grind
theorem ku.done(h:ku f top ci 0 i):i<2^top/\i∉ci/\mg f top (i::ci):=by have u:i<2^top:=h.it;have ao:i∉ci:=h.uL i cE;refine⟨u,ao,h.bd,λp d=>?_,Vw.2 ⟨ao,h.bq⟩,λp d=>?_⟩;rw[h.aq p d];grind;rcases Vq.1 d with rfl|d;trivial;exact h.lt p d
theorem mg.Nx(h:mg f top ci){d:Nat}(hm:d∈ci):ku f top (ci.erase d) 0 d:=by refine⟨Vj _,h.lt d hm,h.bd,λp u=>?_,h.bq.erase _,λp u=>h.lt p (List.mem_of_mem_erase u),λp e=>?_⟩;rw[h.aq p u];grind;simp only[Nat.pow_zero,Nat.div_one]at e;subst e;exact λw=>(List.Nodup.mem_erase_iff h.bq).1 w|>.1 rfl
theorem I0(i:Nat):(i^^^1)/2=i/2:=by rw[Nat.xor_div_two];simp
theorem Un(i:Nat):(i^^^1)≠i:=λh=>by
  have d:=congrArg (λx=>x.testBit 0) h
  simp only[Yx]at d
  cases u:i.testBit 0<;>rw[u]at d<;>simp at d
theorem ku.merge(h:ku f top ci k i)(D:k<top)(C:f k (i^^^1)=true):ku (lr f k (i^^^1) false) top ci (k+1) (i/2):=by have u:=wJ D;have O:=h.it;obtain⟨H,N⟩:=h.bd _ _ C;have w:∀p,p/2^(k+1)=i/2↔p/2^k=i\/p/2^k=i^^^1:=λp=>(by grind[tY,I0,Un]);have key:∀p,p<2^top->p/2^k=i^^^1->p∉ci/\k7 f p (top+1)=1:=λp u e=>(by have d:=h.aq p u;(have P:k7 f p (top+1)≠0:=by grind[DO]);simp_all);refine⟨by omega,by omega,sA h.bd (λh=>by cases h),λp E=>?_,h.bq,h.lt,λp e hu=>?_⟩;have d:=tV f k (i^^^1) false p (top+1);by_cases e:p/2^k=i^^^1;grind;rw[al (λh=>e h.2),al (λh=>e h.2),h.aq p E]at d;simp_all;rcases(w p).1 e with e|e;exact h.uL p e hu;exact(key p (h.lt p hu) e).1 hu
theorem ku.fill(h:ku f top ci k i):f k i=false/\mg (lr f k i true) top ci:=by have C:=h.hU;have w:f k i=false:=(by have d:=h.aq _ (FR h.hU h.it);rw[ax (.inr (xj i k))]at d;grind[wh,xj]);refine⟨w,sA h.bd λ_=>⟨h.hU,h.it⟩,λp u=>?_,h.bq,h.lt⟩;have d:=tV f k i true p (top+1);rw[w]at d;by_cases e:p/2^k=i;rw[ax ⟨by omega,e⟩,ax ⟨by omega,e⟩,h.aq p u,ax (.inr e)]at d;rw[al (h.uL p e)];simpa using d;rw[al (λh=>e h.2),al (λh=>e h.2),h.aq p u]at d;simp_all
def uc(top:Nat):j8:=λk i=>decide (k=top/\i=0)
theorem mg.init(top:Nat):mg (uc top) top []:=by have u:=(ku.fill (f:=λ_ _=>false) (top:=top) (ci:=[]) (k:=top) (i:=0) ⟨Vi _,Xg _,λ_ _ h=>(by cases h),λp d=>(by rw[zq λ_ _=>rfl,ax (.inr (Nat.div_eq_of_lt d))]),List.nodup_nil,λ_ h=>(by cases h),λ_ _ h=>(by cases h)⟩).2;trivial
end Go.QM
namespace Go.QM
def k6(f:Nat->Bool):Nat->Nat
  | 0=>0
  | n+1=>k6 f n+(f n).toNat
theorem zm{f g:Nat->Bool}:∀{n:Nat},(∀i,i<n->f i=g i)->k6 f n=k6 g n
  | 0,_=>rfl
  | n+1,h=>by rw[k6,k6,zm λi d=>h i U,h n U]
theorem wg{f:Nat->Bool}{i:Nat}:∀{n:Nat},f i=false->i<n->k6 (fa f i) n=k6 f n+1
  | 0,_,h=>by omega
  | n+1,d,h=>by rw[k6,k6];by_cases e:i=n;subst e;rw[zm (f:=fa f i) (g:=f) λj u=>by rw[fa,al U],fa,ax rfl,d];rfl;rw[wg d U,fa,al (λh=>e h.symm)];omega
theorem Nf(f:Nat->Bool)(i:Nat):fa (fa f i) i=f:=by funext j;rw[fa];split;rename_i h;subst h;rw[fa,ax rfl,Bool.not_not];rename_i h;rw[fa,al h]
theorem zN(f:Nat->Bool)(i:Nat):fa f i i=!f i:=ax rfl
variable{i:Nat}
theorem DL{f:Nat->Bool}{n:Nat}(d:f i=true)(h:i<n):k6 (fa f i) n+1=k6 f n:=by grind[wg,zN,Nf]
theorem zn{f:Nat->Bool}:∀{n:Nat},k6 f n=0↔∀i,i<n->f i=false
  | 0=>⟨λ_ i h=>by omega,λ_=>rfl⟩
  | n+1=>by
   rw[k6,Nat.add_eq_zero_iff,zn];constructor;rintro⟨u,d⟩ i C;by_cases e:i=n
   subst e;cases w:f i with
   | false=>rfl
   | true=>rw[w]at d;cases d
   exact u i U;exact λh=>⟨λi C=>h i U,by rw[h n U];rfl⟩
theorem Lp{n:Nat}(h:0<n):k6 (λj=>decide (j=0)) n=1:=by have:=wg (f:=λ_=>false) (i:=0) (n:=n) rfl h;grind[zn,zm,fa]
structure cg where
  aD:Nat
  f:Nat->Bool
def gQ(many:Nat):List cg->Nat
  | []=>0
  | p::L=>k6 p.f many+gQ many L
theorem qa(many:Nat):∀L M:List cg,gQ many (L++M)=gQ many L+gQ many M
  | [],M=>by simp[gQ]
  | p::L,M=>by rw[VM,gQ,gQ,qa many L M];omega
def wC(many:Nat)(p:cg):Prop:=∀i,i<many->p.f i=true
def vH(many:Nat)(L:List cg)(q:Nat):Prop:=∀p∈L,p.aD≠q->wC many p
structure oA(many:Nat)(L:List cg):Prop where
  j4:L.Pairwise λa b=>a.aD<b.aD
  bd:∀p∈L,∀i,p.f i=true->i<many
inductive lD(many:Nat)(L L':List cg)(aD i:Nat):Prop
  | old (A B:List cg) (f:Nat->Bool) (gA:L=A++⟨aD,f⟩::B) (gB:L'=A++⟨aD,fa f i⟩::B) (gC:f i=false) (h6:i<many)
  | new (A B:List cg) (gA:L=A++B) (gB:L'=A++⟨aD,λj=>decide (j=0)⟩::B) (gC:i=0) (h6:∀p∈L,wC many p) (UZ:∀p∈A,p.aD<aD) (U0:∀p∈B,aD<p.aD)
theorem G0{A B:List cg}{p q:cg}(h:(A++p::B).Pairwise λa b=>a.aD<b.aD)(e:p.aD=q.aD):(A++q::B).Pairwise λa b=>a.aD<b.aD:=by grind[XU]
theorem Q3{A B:List cg}{p:cg}(h:(A++p::B).Pairwise λa b=>a.aD<b.aD):(A++B).Pairwise (λa b=>a.aD<b.aD)/\∀a∈A++B,a.aD≠p.aD:=by grind[XU]
theorem Q4{A B:List cg}{p:cg}(h:(A++B).Pairwise λa b=>a.aD<b.aD)(d:∀a∈A,a.aD<p.aD)(aQ:∀b∈B,p.aD<b.aD):(A++p::B).Pairwise λa b=>a.aD<b.aD:=by grind[XU]
variable{L:List cg}{many aD:Nat}{L':List cg}
theorem lD.inv(g:lD many L L' aD i)(h:oA many L)(hm:0<many):oA many L':=by cases g with|old A B f w C D E=>subst w;subst C;refine⟨G0 h.j4 rfl,λp d j u=>?_⟩;rcases Ve.1 d with d|d;exact h.bd p (by simp[d]) j u;rcases Vq.1 d with rfl|d;dsimp only[fa]at u;split at u;omega;exact h.bd ⟨aD,f⟩ cE j u;exact h.bd p (by simp[d]) j u|new A B w C D E H N=>subst w;subst C;refine⟨Q4 h.j4 H N,λp d j u=>?_⟩;rcases Ve.1 d with d|d;exact h.bd p (by simp[d]) j u;rcases Vq.1 d with rfl|d;have:=dz u;omega;exact h.bd p (by simp[d]) j u
theorem lD.used(g:lD many L L' aD i)(hm:0<many):gQ many L'=gQ many L+1:=by cases g with|old A B f d u w C=>subst d;subst u;have:=wg w C;rw[qa,qa,gQ,gQ];dsimp only;omega|new A B d u w C D E=>subst d;subst u;have:=Lp hm;rw[qa,qa,gQ];dsimp only;omega
theorem lD.one{q:Nat}(g:lD many L L' aD i)(h:oA many L)(E:vH many L q):vH many L' aD:=by cases g with|old A B f C D H w=>subst C;subst D;have N:aD=q:=(by by_cases e:aD=q;exact e;have:=E ⟨aD,f⟩ cE e i w;dsimp only at this;rw[H]at this;cases this);subst N;intro p d u;rcases Ve.1 d with d|d;exact E p (by simp[d]) u;rcases Vq.1 d with rfl|d;exact absurd rfl u;exact E p (by simp[d]) u|new A B C D H w O P=>subst C;subst D;intro p d u;rcases Ve.1 d with d|d;exact w p (by simp[d]);rcases Vq.1 d with rfl|d;exact absurd rfl u;exact w p (by simp[d])
inductive mP(many:Nat)(L L':List cg)(aD i:Nat):Prop
  | stay (A B:List cg) (f:Nat->Bool) (gA:L=A++⟨aD,f⟩::B) (gB:L'=A++⟨aD,fa f i⟩::B) (gC:f i=true)
  | gone (A B:List cg) (f:Nat->Bool) (gA:L=A++⟨aD,f⟩::B) (gB:L'=A++B) (gC:f i=true) (h6:∀j,j<many->j≠i->f j=false)
theorem mP.inv(g:mP many L L' aD i)(h:oA many L):oA many L':=by cases g with|stay A B f w C D=>subst w;subst C;refine⟨G0 h.j4 rfl,λp d j u=>?_⟩;rcases Ve.1 d with d|d;exact h.bd p (by simp[d]) j u;rcases Vq.1 d with rfl|d;dsimp only[fa]at u;split at u;rename_i e;subst e;rw[D]at u;cases u;exact h.bd ⟨aD,f⟩ cE j u;exact h.bd p (by simp[d]) j u|gone A B f w C D E=>subst w;subst C;exact⟨(Q3 h.j4).1,λp d=>h.bd p (by rcases Ve.1 d with d|d<;>simp[d])⟩
theorem mP.used(g:mP many L L' aD i)(h:oA many L):gQ many L'+1=gQ many L:=by cases g with|stay A B f u w d=>subst u;subst w;have:=DL d (h.bd ⟨aD,f⟩ cE i d);rw[qa,qa,gQ,gQ];dsimp only;omega|gone A B f u w d C=>subst u;subst w;have D:=h.bd ⟨aD,f⟩ cE i d;have:=DL (n:=many) d D;have H:k6 (fa f i) many=0:=zn.2 λj E=>(by rw[fa];split;rename_i e;subst e;rw[d];rfl;rename_i e;exact C j E e);rw[qa,qa,gQ];dsimp only;omega
theorem mP.one(g:mP many L L' aD i)(D:vH many L aD):vH many L' aD:=by cases g with|stay A B f w C E=>subst w;subst C;intro p d u;rcases Ve.1 d with d|d;exact D p (by simp[d]) u;rcases Vq.1 d with rfl|d;exact absurd rfl u;exact D p (by simp[d]) u|gone A B f w C E H=>subst w;subst C;intro p d u;exact D p (by rcases Ve.1 d with d|d<;>simp[d]) u
def e8(sz:Nat)(L:List cg)(a:Nat):Prop:=∃p∈L,∃i,p.f i=true/\a=p.aD*1024+64+i*sz
theorem e8.at{sz a:Nat}(h:e8 sz L a):∃(k aD i:Nat) (f:Nat->Bool),L[k]? =some ⟨aD,f⟩/\f i=true/\a=aD*1024+64+i*sz:=by obtain⟨⟨aD,f⟩,C,i,d,u⟩:=h;obtain⟨k,w⟩:=List.getElem?_of_mem C;exact⟨k,aD,i,f,w,d,u⟩
theorem lD.jQ{sz:Nat}(g:lD many L L' aD i)(hs:0<sz)(a:Nat):e8 sz L' a↔e8 sz L a\/a=aD*1024+64+i*sz:=by cases g with|old A B f D E w H=>subst D;subst E;constructor;rintro⟨p,d,j,u,e⟩;rcases Ve.1 d with d|d;exact .inl ⟨p,by simp[d],j,u,e⟩;rcases Vq.1 d with rfl|d;dsimp only[fa]at u e;split at u;rename_i C;subst C;exact .inr e;exact .inl ⟨⟨aD,f⟩,by simp,j,u,e⟩;exact .inl ⟨p,by simp[d],j,u,e⟩;rintro(⟨p,d,j,u,e⟩|e);rcases Ve.1 d with d|d;exact⟨p,by simp[d],j,u,e⟩;rcases Vq.1 d with rfl|d;refine⟨⟨aD,fa f i⟩,by simp,j,?_,e⟩;dsimp only[fa]at u⊢;rw[al (λC=>by subst C;rw[w]at u;cases u)];exact u;exact⟨p,by simp[d],j,u,e⟩;exact⟨⟨aD,fa f i⟩,by simp,i,by dsimp only;rw[zN,w];rfl,e⟩|new A B D E w H N O=>subst D;subst E;subst w;constructor;rintro⟨p,d,j,u,e⟩;rcases Ve.1 d with d|d;exact .inl ⟨p,by simp[d],j,u,e⟩;rcases Vq.1 d with rfl|d;have:=dz u;subst this;exact .inr e;exact .inl ⟨p,by simp[d],j,u,e⟩;rintro(⟨p,d,j,u,e⟩|e);exact⟨p,by rcases Ve.1 d with d|d<;>simp[d],j,u,e⟩;exact⟨⟨aD,λj=>decide (j=0)⟩,by simp,0,show decide ((0:Nat)=0)=true from rfl,e⟩
theorem mP.jQ{sz:Nat}(g:mP many L L' aD i)(h:oA many L)(hs:0<sz){a:Nat}(O:e8 sz L a)(E:a≠aD*1024+64+i*sz):e8 sz L' a:=by obtain⟨p,d,j,u,e⟩:=O;cases g with|stay A B f C D H=>subst C;subst D;rcases Ve.1 d with d|d;exact⟨p,by simp[d],j,u,e⟩;rcases Vq.1 d with rfl|d;refine⟨⟨aD,fa f i⟩,by simp,j,?_,e⟩;dsimp only[fa]at u⊢;rw[al (λw=>by subst w;exact E e)];exact u;exact⟨p,by simp[d],j,u,e⟩|gone A B f C D H N=>subst C;subst D;rcases Ve.1 d with d|d;exact⟨p,by simp[d],j,u,e⟩;rcases Vq.1 d with rfl|d;by_cases w:j=i;subst w;exact absurd e E;have:=N j (h.bd _ cE j u) w;dsimp only at u;rw[this]at u;cases u;exact⟨p,by simp[d],j,u,e⟩
end Go.QM
namespace Go.QM
open Go
variable{a:Nat}
theorem sC(h:a<2^64):(VX 64 (a:Int)).toNat=a:=by simp_all
theorem o4(h:a<2^63):IntKind.i64.wrap (a:Int)=(a:Int):=nN U U
theorem qb(h:a<2^64):IntKind.u64.wrap (a:Int)=(a:Int):=yj U U
theorem TU(a:Nat):IntKind.u8.wrap (a:Int)=((a %256:Nat):Int):=by simp[IntKind.wrap,IntKind.signed,IntKind.bits]
theorem Kc{b:Nat}(u:a<2^63)(d:b<2^63):IntKind.i64.wrap (VX IntKind.i64.bits (a:Int)&&&VX IntKind.i64.bits (b:Int)).toNat=((a&&&b:Nat):Int):=by rw[BitVec.toNat_and,show IntKind.i64.bits=64 from rfl,sC U,sC U];exact o4 (Nat.and_lt_two_pow _ d)
theorem QD{b:Nat}(d:a<2^63)(u:b<2^63):IntKind.i64.wrap (VX IntKind.i64.bits (a:Int)|||VX IntKind.i64.bits (b:Int)).toNat=((a|||b:Nat):Int):=by rw[BitVec.toNat_or,show IntKind.i64.bits=64 from rfl,sC U,sC U];exact o4 (Nat.or_lt_two_pow d u)
theorem Ur{b:Nat}(d:a<2^63)(u:b<2^63):IntKind.i64.wrap (VX IntKind.i64.bits (a:Int)^^^VX IntKind.i64.bits (b:Int)).toNat=((a^^^b:Nat):Int):=by rw[BitVec.toNat_xor,show IntKind.i64.bits=64 from rfl,sC U,sC U];exact o4 (Nat.xor_lt_two_pow d u)
section
variable {P : Program} {ag : Env} {A : ay} {d : Option Nat} {ty : TypeId} {ps : String} {bh : Array Edge} {g : Option (Nat × Bool)} {t t' : TypeId} {x y : Operand} {a b c n : Nat}
theorem bE.to{o:Oper}{k:IntKind}{u v:Int}(h:bE P ag o A (.int k u))(e:u=v):bE P ag o A (.int k v):=by rwa[e]at h
theorem PG{u v:Int}{N:Array TypeId}(D:bc ag x=aa u)(E:bc ag y=aa v):
    bE P ag ⟨d,.call ⟨.builtin .max,#[x,y],N⟩,ty,ps,bh,g⟩ A (aa (max u v)):=
  λw _=>by
   by_cases h:u<=v;by_cases H:u=v;subst H;simp[execOp,resolve,invoke,builtin,YN,YO,D,E];have C:u<v:=U
   simp[execOp,resolve,invoke,builtin,YN,YO,D,E,C,Int.max_eq_right h];have C:¬u<v:=U
   simp[execOp,resolve,invoke,builtin,YN,YO,D,E,C,Int.max_eq_left (by omega:v<=u)]
theorem rn(D:bc ag x=aa a)(E:bc ag y=aa b)(u:a<2^63)(w:b<2^63)(C:a&&&b=c):
    bE P ag ⟨d,.binOp .and t x y t',ty,ps,bh,g⟩ A (aa c):=by subst C;exact vR D E (Kc u w)
theorem s6(D:bc ag x=aa a)(E:bc ag y=aa b)(u:a<2^63)(w:b<2^63)(C:a|||b=c):
    bE P ag ⟨d,.binOp .or t x y t',ty,ps,bh,g⟩ A (aa c):=by subst C;exact Bm D E (QD u w)
theorem Uo(E:bc ag x=aa a)(H:bc ag y=aa b)(u:a<2^63)(C:b<2^63)(D:a^^^b=c):
    bE P ag ⟨d,.binOp .xor t x y t',ty,ps,bh,g⟩ A (aa c):=λw _=>by
  have h:=Ur u C
  rw[D]at h
  simp[execOp,E,H,eqGuard,binOp,Op.intBits]
  simpa using h
theorem nF{E:IntKind}(C:bc ag x=aa a)(D:bc ag y=.int E (n:Int))(ao:n<=64)(u:a*2^n=c)(w:c<2^63):
    bE P ag ⟨d,.binOp .shl t x y t',ty,ps,bh,g⟩ A (aa c):=
  BP C D U (by
   subst u;rw[show min ((n:Int)).toNat IntKind.i64.bits=n from W9 ao];have e:(a:Int)*2^n=((a*2^n:Nat):Int):=cE
   rw[e];exact o4 w)
theorem jS{E:IntKind}(C:bc ag x=bk a)(D:bc ag y=.int E (n:Int))(u:a<2^64)(w:a/2^n=c):
    bE P ag ⟨d,.binOp .shr t x y t',ty,ps,bh,g⟩ A (bk c):=by subst w;exact Sp C D u
theorem k2(D:bc ag x=bk a)(E:bc ag y=bk b)(u:a<2^64)(w:b<2^64)(C:a&&&b=c):
    bE P ag ⟨d,.binOp .and t x y t',ty,ps,bh,g⟩ A (bk c):=by subst C;exact Df D E u w
theorem pW(D:bc ag x=bk a)(E:bc ag y=bk b)(u:a<2^64)(w:b<2^64)(C:a|||b=c):
    bE P ag ⟨d,.binOp .or t x y t',ty,ps,bh,g⟩ A (bk c):=by subst C;exact QB D E u w
theorem Uq(D:bc ag x=bk a)(E:bc ag y=bk b)(u:a<2^64)(w:b<2^64)(C:a^^^b=c):
    bE P ag ⟨d,.binOp .xor t x y t',ty,ps,bh,g⟩ A (bk c):=by subst C;exact Up D E u w
theorem mS(w:bc ag x=bk a)(C:bc ag y=bk b)(u:a+b=c)(h:c<2^64):
    bE P ag ⟨d,.binOp .add t x y t',ty,ps,bh,g⟩ A (bk c):=
  add w C (by subst u;rw[show(a:Int)+(b:Int)=((a+b:Nat):Int)by simp];exact qb h)
theorem P3(w:bc ag x=bk a)(C:bc ag y=bk b)(u:a*b %2^64=c):
    bE P ag ⟨d,.binOp .mul t x y t',ty,ps,bh,g⟩ A (bk c):=
  mul w C (by subst u;rw[show(a:Int)*(b:Int)=((a*b:Nat):Int)by simp,IntKind.wrap_u64];simp)
theorem u9{D:IntKind}(w:bc ag x=bk a)(C:bc ag y=.int D (n:Int))(ao:n<=64)(u:a*2^n %2^64=c):
    bE P ag ⟨d,.binOp .shl t x y t',ty,ps,bh,g⟩ A (bk c):=by subst u;exact HA w C ao
theorem Qa(u:bc ag x=bk a)(w:a≠0)(h:a<2^64):
    bE P ag ⟨d,.unOp .neg t x,ty,ps,bh,g⟩ A (bk ((2^64-a:Nat):Int)):=
  neg u mz
end
end Go.QM
namespace Go.QM
open Go
theorem Ps{m:Nat->Nat}(h:oH m)(o:Nat){k:Nat}(D:k<8):kL m o k|||(m (o+k)*2^(8*k) %2^64)=kL m o (k+1):=by have d:=w8 h o k;have u:=h (o+k);have w:m (o+k)*2^(8*k)<2^64:=(by(have e:(2:Nat)^64=2^(64-8*k)*2^(8*k):=by rw[<-Nat.pow_add];congr 1;omega);rw[e];have C:2^8<=2^(64-8*k):=Vk am U;exact Yy (Xk u C) (Xg _));rw[Nat.mod_eq_of_lt w,QC d,kL]
def j5(m:Nat->Nat)(o:Nat)(L:List Nat)(k:Nat):Nat->Nat:=λi=>if o<=i/\i<o+k then L.getD ((i-o)/8) 0/2^(8*((i-o) %8)) %256 else m i
def dA(m:Nat->Nat)(o:Nat)(L:List Nat):Nat->Nat:=j5 m o L (8*L.length)
theorem SU(m:Nat->Nat)(o:Nat)(L:List Nat):j5 m o L 0=m:=funext λi=>by rw[j5,al U]
theorem SS(m:Nat->Nat)(o:Nat)(L:List Nat)(k:Nat):j5 m o L (k+1)=λi=>if i=o+k then L.getD (k/8) 0/2^(8*(k %8)) %256 else j5 m o L k i:=by funext i;rw[j5,j5];grind
theorem SR{m:Nat->Nat}(h:oH m)(o:Nat)(L:List Nat)(k:Nat):oH (j5 m o L k):=λi=>by
  rw[j5];split
  · exact XY _ am
  · exact h i
theorem HT{m:Nat->Nat}{o d:Nat}{L:List Nat}(h:d+8<=o\/o+8*L.length<=d):cW (dA m o L) d=cW m d:=
  uA λi u w=>by rw[dA,j5,al U]
theorem BY{m:Nat->Nat}{o j v:Nat}{L:List Nat}(d:L[j]? =some v)(hv:v<2^64):cW (dA m o L) (o+8*j)=v:=by have C:=(List.getElem?_eq_some_iff.1 d).1;have e:cW (dA m o L) (o+8*j)=cW (x1 m (o+8*j) v) (o+8*j):=uA λi u w=>(by rw[dA,j5,ax U,x1,x0,ax U];grind);grind[Pr]
section
variable {r : Option Nat} {P : Program} {N : Nat} {ops : Array Oper} {l : List Oper} {Q : fk} {ag : Env} {aP : List Deferred} {A : ay} {K : Value → ay → Prop}
variable {d : Option Tmp} {ty : TypeId} {ps : String} {bh : Array Edge} {g : Option (Nat × Bool)}
variable {t t' : TypeId} {x y z : Operand}
theorem Sz(E sz:Nat){u off n cap i j:Nat}(w:hd P t E sz=true)(C:bc ag x=.slice (some ⟨u,off,none⟩) n cap)(D:bc ag y=aa i)(H:bc ag z=aa j)(N:i<=j)(O:j<=cap)(V:i<cap):
    bE P ag ⟨d,.slice t x (some y) (some z) none,ty,ps,bh,g⟩ A (.slice (some ⟨u,off+i*sz,none⟩) (j-i) (cap-i)):=by have h:=xW (P:=P) (A:=A) (d:=d) (ty:=ty) (ps:=ps) (bh:=bh) (g:=g) E sz w C D H U U U;have e:dL (some (⟨u,off,none⟩:Addr)) cap (i:Int).toNat sz=some ⟨u,off+i*sz,none⟩:=(by rw[dL,al U];simp[iB]);simp_all
theorem PO{hs:List ay}{E n:Nat}{z:Value}(bytes:Nat)(N:hd P t E 1=true)(O:rx P E 1 bytes=true)(aW:lA P E=some z)(a0:z.cells=#[z])(Z:bc ag x=aa n)(ao:bc ag y=aa n)(aw:bytes*n<=281474976710656)(hm:n<=maxLen)
    (k:∀b,K (.slice (cF b) n n) (ah (aj b E (VA n z)::hs))):ck r P ag ⟨d,.makeSlice t x y,ty,ps,bh,g⟩ (ah hs) K:=by
 obtain⟨inf,u,H,aq,aP,aF,a2⟩:=t7 O;have au:u=z:=by grind[lA]
 subst au;have aL:maxLen=9223372036854775807:=rfl;have hw:IntKind.i64.wrap (n:Int)=n:=by grind[nN]
 have D:((Array.range n).map ((if n=0 then #[]else u.cells)[· %(if n=0 then(#[]:Array Value)else u.cells).size]!))=(VA n u).toArray:=cm;have aA:((inf.bytes:Int)*(n:Int))<=281474976710656:=cm;have W:(decide ((n:Int)<0)||decide ((inf.bytes:Int)*(n:Int)>2^48))=false:=b2;refine ck.run rfl λw V=>⟨.slice (cF w.heap.size) n n,w.alloc (.cells (VA n u).toArray E),_,.inl ?_,⟨rfl,rfl,rfl,by simp⟩,o0 _ V,k w.heap.size⟩;have ar:∀w,(zeroValue E).run P w=.ok u w:=λw=>by simp[zeroValue,typeInfo,H,aq]
 simp only[execOp,Instr.makeSlice,VB,h0 N,Vo,Z,ao,asInt,asIntOf,VT,typeInfo,run_program,H,hw,W];rw[al cE];simp only[VB,run_askRoom,h0 N,Vo,Int.toNat_natCast,Wz];by_cases C:n=0;rw[ax C];simp only[ax C]at D;simp only[VB,Vo,VT,D,newRow,run_newObj];trivial;rw[al C];simp only[al C]at D;simp only[VB,Vo,VT,ar,D,newRow,run_newObj];trivial
end
theorem KO(n:Nat):iX (λ_=>0) n=VA n (m6 0):=by rw[iX,List.eq_replicate_iff];simp_all
theorem CV(b E o k:Nat)(l:List Value):cQ (aj b E l) E (some ⟨b,o,none⟩) ((l.drop o).take k):=λh d=>by
  by_cases u:o<=l.length
  · refine .inr ⟨⟨b,o,none⟩,l.take o,(l.drop o).drop k,(0,0),rfl,by simp[W9 u],?_⟩
    have e:l.take o++(l.drop o).take k++(l.drop o).drop k=l:=by rw[List.append_assoc,V4,V4]
    rw[d,e];simp
  · left;rw[List.drop_eq_nil_of_le U];simp
end Go.QM
namespace Go.QM
open Go
def dD:List Nat->Nat
  | []=>0
  | a::l=>a+256*dD l
theorem yP{a b c d:Nat}(E:a<256)(H:c<256):(a+256*b)&&&(c+256*d)=(a&&&c)+256*(b&&&d):=by
 have u:(a+256*b)&&&(c+256*d)=((a+256*b)&&&(c+256*d)) %2^8+2^8*(((a+256*b)&&&(c+256*d))/2^8):=U
 rw[u,Nat.and_mod_two_pow,Nat.and_div_two_pow];have w:(a+256*b) %2^8=a:=U
 have C:(c+256*d) %2^8=c:=U
 have D:(a+256*b)/2^8=b:=U
 grind
def nc(x:Nat):Nat->List Nat
  | 0=>[]
  | n+1=>x %256::nc (x/256) n
theorem y7:∀{n x:Nat},x<256^n->dD (nc x n)=x
  | 0,x,h=>by(have:x=0:=by simpa using h);subst this;rfl
  | n+1,x,h=>by
   have:x/256<256^n:=by rw[Yd]at h;exact Nat.div_lt_of_lt_mul U
   rw[nc,dD,y7 this];omega
theorem y5:∀(n x:Nat),(nc x n).length=n
  | 0,_=>rfl
  | n+1,x=>by rw[nc,Vy,y5 n]
theorem y6:∀(n x:Nat),∀a∈nc x n,a<256
  | 0,_,_,h=>by cases h
  | n+1,x,a,h=>by rcases Vq.1 h with rfl|h;exact XY _ am;exact y6 n _ a h
theorem tK{m:Nat}(hm:m<256):∀{l:List Nat},(∀a∈l,a<256)->dD l&&&dD (l.map λ_=>m)=dD (l.map λa=>a&&&m)
  | [],_=>by simp[dD]
  | a::l,h=>by rw[VF,VF,dD,dD,dD,yP (h a cE) hm,tK hm λb d=>h b (by simp[d])]
theorem va{m s:Nat}(hm:m<256)(hs:s<=8)(C:m<2^(8-s)):∀{l:List Nat},(∀a∈l,a<256)->dD l/2^s&&&dD (l.map λ_=>m)=dD (l.map λa=>a/2^s&&&m)
  | [],_=>by simp[dD]
  | a ::l,h=>by
    have V:=h a cE
    have Z:=va hm hs C (l:=l) λb u=>h b (by simp[u])
    rw[VF,VF,dD,dD,dD,<-Z]
    have d:2^(8-s)*2^s=256:=by rw[<-Nat.pow_add,Nat.sub_add_cancel hs]
    have D:0<2^s:=Xg s
    generalize dD l=x
    generalize dD (l.map λ_=>m)=y
    have E:(a+256*x)/2^s=a/2^s+2^(8-s)*x:=by
      rw[show a+256*x=a+2^s*(2^(8-s)*x)by rw[<-Nat.mul_assoc,WR (2^s),d],Nat.add_mul_div_left _ _ D]
    have H:(a/2^s+2^(8-s)*x)=(a/2^s+2^(8-s)*(x %2^s))+256*(x/2^s):=by
      have N:=Nat.mod_add_div x (2^s)
      have aq:2^(8-s)*x=2^(8-s)*(x %2^s)+256*(x/2^s):=by
        conv=>lhs;rw[<-N]
        rw[Nat.mul_add,<-Nat.mul_assoc,d]
      omega
    have w:a/2^s<2^(8-s):=Nat.div_lt_of_lt_mul (by rw[WR,d];exact V)
    have ar:x %2^s<2^s:=XY _ D
    have u:a/2^s+2^(8-s)*(x %2^s)<256:=by
      have:2^(8-s)*(x %2^s)<=2^(8-s)*(2^s-1):=Nat.mul_le_mul_left _ U
      have O:2^(8-s)*(2^s-1)=256-2^(8-s):=by rw[Nat.mul_sub,d,Wz]
      have P:2^(8-s)<=2^8:=Vk am U
      rw[O]at this
      generalize 2^(8-s)*(x %2^s)=k at this⊢
      generalize 2^(8-s)=ao at this w P
      generalize a/2^s=ag at w⊢
      omega
    rw[E,H,yP u hm]
    congr 1
    apply Nat.eq_of_testBit_eq
    intro j
    rw[Nat.testBit_and,Nat.testBit_and]
    by_cases W:j<8-s
    · congr 1
      rw[Nat.add_comm,Nat.testBit_two_pow_mul_add _ w,ax W]
    · have:m.testBit j=false:=Nat.testBit_lt_two_pow (Xk C (Vk am U))
      rw[this,Bool.and_false,Bool.and_false]
theorem tH(f g:Nat->Nat):∀l:List Nat,dD (l.map f)+dD (l.map g)=dD (l.map λa=>f a+g a)
  | []=>rfl
  | a::l=>by rw[VF,VF,VF,dD,dD,dD,<-tH f g l];omega
def ga(v:Nat):Nat:=(v/2^1&&&85)+(v&&&85)
def hx(v:Nat):Nat:=(v/2^2&&&51)+(v&&&51)
def rU(v:Nat):Nat:=(v/2^4+v)&&&15
def oe(v:Nat):Nat:=rU (hx (ga v))
def GK(v:Nat):Bool:=decide (ga v<256)&&decide (hx (ga v)<256)&&decide (hx (ga v)/16<=4/\hx (ga v) %16<=4)&&decide (oe v<=8)&&(decide (oe v=0)==decide (v=0))
theorem QK:(Wo 256).all GK=true:=by kernel_rfl
theorem Bo{v:Nat}(h:v<256):ga v<256/\hx (ga v)<256/\(hx (ga v)/16<=4/\hx (ga v) %16<=4)/\oe v<=8/\(oe v=0↔v=0):=by have d:=Xf.1 QK v (Yl.2 h);simp only[GK,VQ,decide_eq_true_eq,beq_iff_eq,decide_eq_decide]at d;omega
theorem A8:∀{l:List Nat},(∀a∈l,a<256/\a/16<=4/\a %16<=4)->(dD l/2^4+dD l)&&&dD (l.map λ_=>15)=dD (l.map rU)/\dD l %16<=4
  | [],_=>by simp[dD]
  | a::l,h=>by
   obtain⟨C,D,E⟩:=h a cE;obtain⟨w,u⟩:=A8 (l:=l) λb d=>h b (by simp[d]);rw[VF,VF,dD,dD,dD,<-w];generalize dD l=y at u⊢;have e:(a+256*y)/2^4+(a+256*y)=(a/16+a+16*(y %16))+256*(y/2^4+y):=U
   refine⟨?_,by omega⟩;rw[e,yP U am];congr 1;rw[rU,show 15=2^4-1 from rfl,W0,W0];omega
def kl(x:Nat):Nat:=(x/2^1&&&6148914691236517205)+(x&&&6148914691236517205)
def l5(x:Nat):Nat:=(x/2^2&&&3689348814741910323)+(x&&&3689348814741910323)
def m2(x:Nat):Nat:=(x/2^4+x)&&&1085102592571150095
def oV(x:Nat):Nat:=x+x/2^8
def ic(x:Nat):Nat:=x+x/2^16
def s3(x:Nat):Nat:=x+x/2^32
def fq(x:Nat):Nat:=s3 (ic (oV (m2 (l5 (kl x)))))&&&127
theorem eight{l:List Nat}(h:l.length=8):∃a b c d e f g i,l=[a,b,c,d,e,f,g,i]:=by match l,h with|[a,b,c,d,e,f,g,i],_=>exact⟨a,b,c,d,e,f,g,i,rfl⟩
theorem sT{l:List Nat}(h:l.length=8)(m:Nat):(l.map λ_=>m)=[m,m,m,m,m,m,m,m]:=by obtain⟨a,b,c,d,e,f,g,i,rfl⟩:=eight h;rfl
theorem UW{a:Nat}(y:Nat)(h:a<256):(a+256*y)/256=y:=by omega
theorem KN{s q:Nat}(h:s<=64):(s+256*q)&&&127=s:=by rw[show 127=2^7-1 from rfl,W0];omega
theorem Qi{a b c d e f g i:Nat}(O:a<=8)(P:b<=8)(V:c<=8)(W:d<=8)(he:e<=8)(Z:f<=8)(ag:g<=8)(ao:i<=8){x:Nat}(H:x=a+256*(b+256*(c+256*(d+256*(e+256*(f+256*(g+256*i))))))):
    (x+x/2^8+(x+x/2^8)/2^16+(x+x/2^8+(x+x/2^8)/2^16)/2^32)&&&127=a+b+c+d+e+f+g+i:=by
 have w:x/2^8=b+256*(c+256*(d+256*(e+256*(f+256*(g+256*i))))):=U
 have u:x+x/2^8=(a+b)+256*((b+c)+256*((c+d)+256*((d+e)+256*((e+f)+256*((f+g)+256*((g+i)+256*i)))))):=U
 generalize x+x/2^8=y at u⊢;clear w H;have C:y/2^16=(c+d)+256*((d+e)+256*((e+f)+256*((f+g)+256*((g+i)+256*i)))):=U;have D:y+y/2^16=(a+b+c+d)+256*((b+c+d+e)+256*((c+d+e+f)+256*((d+e+f+g)+256*((e+f+g+i)+256*((f+g+i)+256*((g+i)+256*i)))))):=U
 generalize y+y/2^16=z at D⊢;clear u C;have N:z/2^32=(e+f+g+i)+256*((f+g+i)+256*((g+i)+256*i)):=U;have E:z+z/2^32=(a+b+c+d+e+f+g+i)+256*((b+c+d+e+f+g+i)+256*((c+d+e+f+g+i)+256*((d+e+f+g+i)+256*((e+f+g+i)+256*((f+g+i)+256*((g+i)+256*i)))))):=U
 rw[E];exact KN U
theorem KM{a y n:Nat}(h:a<256)(d:y<256^n):a+256*y<256^(n+1):=by omega
theorem Be:∀{l:List Nat},(∀a∈l,a<256)->dD l<256^l.length
  | [],_=>Nat.one_pos
  | a::l,h=>by rw[dD,Vy];exact KM (h a cE) (Be λb d=>h b (by simp[d]))
theorem Gr:∀{l:List Nat},dD l=0↔∀a∈l,a=0
  | []=>by simp[dD]
  | a::l=>by have d:=Gr (l:=l);simp only[dD,Vq,forall_eq_or_imp,<-d];omega
def oq:List Nat->Nat
  | []=>0
  | a::l=>a+oq l
theorem HW:∀{l:List Nat},(∀a∈l,a<=8)->oq l<=8*l.length
  | [],_=>Vj _
  | a::l,h=>by have u:=h a cE;have w:=HW (l:=l) λb d=>h b (by simp[d]);rw[oq,Vy];omega
theorem HX:∀{l:List Nat},oq l=0↔∀a∈l,a=0
  | []=>by simp[oq]
  | a::l=>by have d:=HX (l:=l);simp only[oq,Vq,forall_eq_or_imp,<-d];omega
theorem Gl{l:List Nat}(h:l.length=8)(u:∀a∈l,a<=8):s3 (ic (oV (dD l)))&&&127=oq l:=by obtain⟨a,b,c,d,e,f,g,i,rfl⟩:=eight h;simp only[Vq,List.not_mem_nil,or_false,forall_eq_or_imp,forall_eq]at u;obtain⟨w,bb,C,d1,D,f1,g1,i1⟩:=u;have:=Qi w bb C d1 D f1 g1 i1 (x:=dD [a,b,c,d,e,f,g,i]) (by simp only[dD,Nat.mul_zero,Nat.add_zero]);grind[s3,ic,oV,oq]
theorem Gp(i:Nat):∀l:List Nat,dD (l++[i])=dD l+256^l.length*i
  | []=>by simp[dD]
  | a::l=>by rw[VM,dD,dD,Gp i l,Vy,Yd,Nat.mul_add,Nat.add_assoc];congr 2;rw[<-Nat.mul_assoc,WR 256]
theorem Gq{l:List Nat}(ao:l.length=8){m:Nat}(hm:∀a∈l,a<m)(h:∀a∈l,a<256):dD l<256^7*m:=by obtain⟨a,b,c,d,e,f,g,i,rfl⟩:=eight ao;have w:[a,b,c,d,e,f,g,i]=[a,b,c,d,e,f,g]++[i]:=rfl;rw[w]at hm h⊢;have u:=Be (l:=[a,b,c,d,e,f,g]) λx C=>h x (List.mem_append_left _ C);have D:=hm i (List.mem_append_right _ cE);rw[Gp];generalize dD [a,b,c,d,e,f,g]=y at u⊢;simp only[Vy,List.length_nil]at u⊢;omega
theorem Gn{x:Nat}(aq:x<2^64):fq x<=64/\(fq x=0↔x=0)/\kl x<2^64/\l5 (kl x)<2^63/\m2 (l5 (kl x))<2^60:=by
 have u:=y6 8 x;have ao:=y5 8 x;have V:dD (nc x 8)=x:=by grind[y7]
 generalize nc x 8=l at u ao V;subst V;have t:=λa (d:a∈l)=>Bo (u a d);have w:kl (dD l)=dD (l.map ga):=(by have g1:=va (m:=85) (s:=1) am am am u;have g2:=tK (m:=85) am u;rw[sT ao]at g1 g2;rw[kl,show 6148914691236517205=dD [85,85,85,85,85,85,85,85]from by decide,g1,g2,tH];rfl);have C:∀a∈l.map ga,a<256:=b2
 have N:(l.map ga).length=8:=b2
 have H:l5 (dD (l.map ga))=dD ((l.map ga).map hx):=(by have g1:=va (m:=51) (s:=2) am am am C;have g2:=tK (m:=51) am C;rw[sT N]at g1 g2;rw[l5,show 3689348814741910323=dD [51,51,51,51,51,51,51,51]from by decide,g1,g2,tH];rfl);have D:∀a∈(l.map ga).map hx,a<256/\a/16<=4/\a %16<=4:=λa d=>cm;have O:((l.map ga).map hx).length=8:=b2
 have W:m2 (dD ((l.map ga).map hx))=dD (l.map oe):=(by have g1:=(A8 D).1;rw[sT O]at g1;rw[m2,show 1085102592571150095=dD [15,15,15,15,15,15,15,15]from by decide,g1,XZ,XZ];rfl);have E:∀a∈l.map oe,a<=8:=b2
 have P:(l.map oe).length=8:=b2
 have Z:fq (dD l)=oq (l.map oe):=by grind[fq,Gl]
 have bb:=Be C;have ag:=HW E;rw[N]at bb;rw[P]at ag;refine⟨by rw[Z];omega,?_,by rw[w];exact bb,?_,?_⟩;grind[HX,Gr];rw[w,H];exact Xk (Gq O (m:=80) (λa d=>by have:=D a d;omega) (λa d=>(D a d).1)) am;rw[w,H,W];exact Xk (Gq P (m:=9) (λa d=>Nat.lt_succ_of_le (E a d)) (λa d=>Nat.lt_of_le_of_lt (E a d) am)) am
end Go.QM
namespace Go.QM
open Go
section
variable {P : Program} {b : Frame} {a : Act} {k : List Item} {cs : List Frame} {w : World}
theorem SV{c:Code}:step P (lone (b.atR a (.code (.scope c)::k)) cs w)=.next (lone (b.atR a (.code c::.inScope c::k)) cs w):=
  step_lone_go (by simp[stepG,stepG.exec,Frame.atR])
theorem HV{c:Code}:step P (lone (b.atR a (.inScope c::k)) cs w)=.next (lone (b.atR a k) cs w):=
  step_lone_go (by simp[stepG,stepG.exec,Frame.atR])
end
def CM(l:Nat)(bL:Act->World->Prop)(Q:Exit->Act->World->Prop):Exit->Act->World->Prop
  | .goto l',a,w=>l'=l/\bL a w
  | e,a,w=>Q e a w
theorem T9{F:Fence}{n:Nat}{P:Program}{Q:Exit->Act->World->Prop}{a:Act}{w:World}{c rest:Code}(l:Nat)(bL:Nat->Act->World->Prop)(a0:findLabel c l=some rest)
    (first:c.wpIn F n P (CM l (λa' H=>∃m,bL m a' H) Q) a w)
    (pass:∀m a w,bL m a w->rest.wpIn F n P (CM l (λa' H=>∃m',m'<m/\bL m' a' H) Q) a w):(Code.scope c).wpIn F n P Q a w:=by
 intro b k cs aF N O;have aA:gotoIn l (.inScope c::k)=some (.code rest::.inScope c::k):=by grind[gotoIn]
 have key:∀j a w,bL j a w->
     ∃e a' H,Q e a' H/\ArrivesIn (Machine.fenced P F) P (lone (b.atR a (.code rest::.inScope c::k)) cs w) b k cs e a' H:=by
   intro j
   induction j using Nat.strongRecOn with
   | _ j aP=>
     intro a w gD
     obtain⟨e,u,D,C,d⟩:=pass j a w gD b (.inScope c::k) cs aF N O
     cases e with
     | normal=>exact⟨.normal,u,D,C,StepsIn.trans d (.one (fenced_calm N O rfl) HV)⟩
     | exit id=>exact⟨_,u,D,C,⟨λaw ar=>d.1 aw (by simp[exitTo,ar]),λZ ag=>d.2 Z (by simp[exitTo,ag])⟩⟩
     | goto aW=>
       obtain⟨rfl,m',aL,ao⟩:=C
       obtain⟨W,V,ay,au,aq⟩:=aP m' aL u D ao
       exact⟨W,V,ay,au,.of_steps (d.1 _ aA) aq⟩
     | ret=>exact⟨_,u,D,C,d⟩
     | panic hl=>exact⟨_,u,D,C,d⟩
     | outgrown=>exact⟨_,u,D,C,d⟩
 have E:StepsIn (Machine.fenced P F) P (lone (b.atR a (.code (.scope c)::k)) cs w) (lone (b.atR a (.code c::.inScope c::k)) cs w):=.one (fenced_calm N O rfl) SV;obtain⟨e,u,D,C,d⟩:=first b (.inScope c::k) cs aF N O
 cases e with|normal=>exact⟨.normal,u,D,C,.of_steps E (StepsIn.trans d (.one (fenced_calm N O rfl) HV))⟩|exit id=>exact⟨_,u,D,C,.of_steps E ⟨λaw ar=>d.1 aw (by simp[exitTo,ar]),λZ ag=>d.2 Z (by simp[exitTo,ag])⟩⟩|goto aW=>obtain⟨rfl,m,ao⟩:=C;obtain⟨W,V,ay,au,aq⟩:=key _ u D ao;exact⟨W,V,ay,au,.of_steps E (.of_steps (d.1 _ aA) aq)⟩|ret=>exact⟨_,u,D,C,.of_steps E d⟩|panic hl=>exact⟨_,u,D,C,.of_steps E d⟩|outgrown=>exact⟨_,u,D,C,.of_steps E d⟩
def sn(l:Nat)(bL:Env->List Deferred->ay->Prop)(Q:fk):fk
  | .goto l',ag,aP,A=>l'=l/\bL ag aP A
  | e,ag,aP,A=>Q e ag aP A
section
variable {r : Option Nat} {P : Program} {N : Nat} {Q : fk} {ag : Env} {aP : List Deferred} {A : ay}
theorem ab.scope{ι:Type}{c rest:Code}(l:Nat)(inv:ι->Prop)(L:ι->List (Nat×Value))(B:ι->ay)(V:ι->Nat)(a7:findLabel c l=some (.seq .skip rest))
    (pass:∀i,inv i->∀d,ab r P N rest (sn l (λD C u=>C=aP/\∃j,inv j/\V j<V i/\oQ D (L j)/\aG u (B j)) Q) (cy d (L i)) aP (B i))
    (first:(∀i,inv i->∀d,ab r P N rest (sn l (λD C u=>C=aP/\∃j,inv j/\oQ D (L j)/\aG u (B j)) Q) (cy d (L i)) aP (B i))->
      ab r P N c (sn l (λD C u=>C=aP/\∃j,inv j/\oQ D (L j)/\aG u (B j)) Q) ag aP A):ab r P N (.scope c) Q ag aP A:=by
 intro a w a9 bc;refine T9 l (λm aq Z=>fw w Z/\∃i d,inv i/\cd N aq (cy d (L i)) aP/\sat Z (B i)/\V i=m) a7 ?_ ?_;refine wpIn_mono (first (λi aw d=>(pass i aw d).mono λe D C u h=>?_) a w a9 bc) ?_;cases e with|goto aL=>obtain⟨a0,a2,j,a3,_,a4,a5⟩:=h;exact⟨a0,a2,j,a3,a4,a5⟩|_=>exact h
 rintro e aq Z ⟨s,W,ar,ao,E,H,O⟩;cases e with|goto aL=>obtain⟨rfl,rfl,j,aA,aF,au⟩:=O;exact⟨rfl,V j,s,j,W,aA,by rw[q6 aF];exact E,H.bg au,rfl⟩|_=>exact⟨s,W,ar,ao,E,H,O⟩
 rintro m aW cI ⟨s1,i,d,aw,ba,bd,rfl⟩;refine wpIn_seq (wpIn_skip ?_);refine wpIn_mono (pass i aw d aW cI ba bd) ?_;rintro e aq Z ⟨s,W,ar,ao,E,H,O⟩;cases e with|goto aL=>obtain⟨rfl,rfl,j,aA,a8,aF,au⟩:=O;exact⟨rfl,V j,a8,s1.trans s,j,W,aA,by rw[q6 aF];exact E,H.bg au,rfl⟩|_=>exact⟨s1.trans s,W,ar,ao,E,H,O⟩
theorem ab.enter{ι:Type}{c:Code}{inv:ι->Prop}{L:ι->List (Nat×Value)}{B:ι->ay}(h:∀i,inv i->∀w,ab r P N c Q (cy w (L i)) aP (B i))(i0:ι)(d:inv i0)(u:oQ ag (L i0))(he:aG A (B i0)):
    ab r P N c Q ag aP A:=by have:=h i0 d ag;rw[q6 u]at this;exact this.bg he
variable {K : Env → List Deferred → ay → Prop} {i j : Nat}
theorem oT(h:Q .normal ag aP A):sn i K Q .normal ag aP A:=h
theorem Fq(h:Q .ret ag aP A):sn i K Q .ret ag aP A:=h
theorem OW(h:K ag aP A):sn i K Q (.goto i) ag aP A:=⟨rfl,h⟩
theorem gt(h:Q (.goto j) ag aP A):pk K Q (.goto j) ag aP A:=h
theorem gZ(h:Q (.goto j) ag aP A):o9 i Q (.goto j) ag aP A:=h
end
theorem ua{α:Type}{f g:α->ay}(i j k:Nat){hs ef u w gs:List ay}{L M:List α}{A B:ay}(a b:α)(C:eV i hs=some (A,ef))(D:eV j ef=some (B,u))(d:eV k u=some (b8 f L,w))(E:A=g a)(aQ:B=g b)
    (H:∀x∈L,f x=g x) (N:(a::b::L).Perm M) (O:aG (ah w) (ah gs)):aG (ah hs) (ah (b8 g M::gs)):=by subst E;subst aQ;rw[y3 H]at d;refine(fG C).trans ((dT (VW _) (fG D)).trans ?_);refine(dT (VW _) (dT (VW _) (fG d))).trans ?_;refine(dT (VW _) nD).trans (nD.trans (dT ?_ O));exact vY (f:=g) N
def mX(a:Int×Int):Value:=.agg (ints [a.1,a.2]).toArray
theorem Ex{P:Program}{u:TypeId}(h:ry P u 2=true)(a:Int×Int)(w:World):∀(m:List ((Int×Int)×Value)) (es:List MapEntry) (i:Nat),es.map (λe=>(e.key,e.val))=m.map (λt=>(mX t.1,t.2))->
    (Instr.findAsking u (mX a) es i).run P w=.ok (kA a m i) w
  | [],es,i,he=>by cases es with|nil=>rfl|cons e es=>simp at he
  | t ::m,es,i,he=>by
    cases es with
    | nil=>simp at he
    | cons e es=>
      simp only[VF,List.cons.injEq,Prod.mk.injEq]at he
      obtain⟨⟨C,D⟩,E⟩:=he
      have heq:=(Ea h [a.1,a.2] [t.1.1,t.1.2] rfl rfl w).1
      have H:(Op.equal u (mX a) (mX t.1)).run P w=.ok (decide (a=t.1)) w:=by
        refine Eq.trans heq (congrArg (λx=>Result.ok x w) ?_)
        rw[decide_eq_decide]
        obtain⟨N,a2⟩:=a
        obtain⟨⟨bb,bD⟩,v⟩:=t
        simp
      simp only[Instr.findAsking,C,VB,H,Vo,kA]
      by_cases d:a=t.1
      · rw[ax (by simpa using d),ax d,VT,D]
      · rw[al (by simpa using d),al d]
        exact Ex h a w m es (i+1) E
theorem DB{P:Program}{n:Nat}(kz:Bool)(xs:List Int)(W:xs.length=n)(w:World):∀(d:List Field) (m:Nat),m<=n->oK P n d m=true->
    (forIn (m:=Sem) d PUnit.unit λf _=>do
        if f.name ≠ "_" then Instr.checkKey kz 9999 f.type (← part f.type (ints xs).toArray f.offset)
        pure (ForInStep.yield PUnit.unit)).run P w=.ok PUnit.unit w
  | [],m,_,_=>by simp
  | f ::d,m,hm,h=>by
    simp only[oK,VQ]at h
    obtain⟨⟨⟨N,E⟩,C⟩,H⟩:=h
    have E:=VC E
    have hu:P.underlying f.type=some (.int .i64):=by
      cases hu:P.underlying f.type with
      | none=>rw[hu]at C;cases C
      | some u=>rw[hu]at C;cases u<;>first|(cases C;done)|(rename_i k;cases k<;>first|(cases C;done)|rfl)
    have Z:m<n:=by
      rcases Nat.lt_or_ge m n with h|h
      · exact h
      · exfalso
        have V:∀(d:List Field) (m:Nat),n<m->oK P n d m=true->False:=by
          intro d
          induction d with
          | nil=>intro m hm h;have:=VC h;omega
          | cons f d D=>intro m hm h;simp only[oK,VQ]at h;exact D _ U h.2
        exact V d (m+1) U H
    have ga:(part f.type (ints xs).toArray f.offset).run P w=.ok (aa xs[m]) w:=by
      have O:mA P f.type=true:=by simp[mA,hu]
      simp[part,us O,E,ints,show m<xs.length by omega]
    have hx:(XR kz 9999 f.type (aa xs[m])).run P w=.ok () w:=by
      rw[show(9999:Nat)=9998+1 from rfl]
      unfold XR
      simp[underlying,hu]
    have ao : f.name ≠ "_" := by simpa using N
    have D:=DB kz xs W w d (m+1) U H
    simp only[List.forIn_cons,VB,ao,ne_eq,not_false_eq_true,if_true,Vo,ga,hx,VT]at D⊢
    exact D
theorem dR.pair{P:Program}{D:TypeId}(h:ry P D 2=true):dR P D mX where
  n1 :=λkz a w=>by
    have C:=h
    unfold ry at C
    cases hu:P.underlying D with
    | none=>rw[hu]at C;cases C
    | some u=>
      rw[hu]at C
      cases u with
      | struct d=>
        simp only[VQ,Bool.not_eq_true']at C
        rw[show(10000:Nat)=9999+1 from rfl,XR]
        simp only[VB,underlying,run_program,Vo,hu,mX]
        have:=DB kz [a.1,a.2] rfl w d.toList 0 (Vj _) C.1.1
        rw[Array.forIn_toList]at this
        simpa using this
      | _=>cases C
  find:=λa m es w he=>by
    have H:∃d,P.underlying D=some (.struct d):=by
      unfold ry at h
      cases hu:P.underlying D with
      | none=>rw[hu]at h;cases h
      | some u=>
        rw[hu]at h
        cases u with
        | struct d=>exact⟨d,rfl⟩
        | _=>cases h
    obtain⟨d,hu⟩:=H
    have ao:∀(es:List MapEntry),es.map (λe=>(e.key,e.val))=m.map (λt=>(mX t.1,t.2))->XG (.struct d) (mX a) es 0=none\/es=[]:=by
      intro es he
      cases es with
      | nil=>exact .inr rfl
      | cons e es=>left;simp[XG,mX,Instr.sameNow]
    rcases ao es he with E|E
    · simp[Instr.findKey,underlying,hu,E,Ex h a w m es 0 he]
    · subst E
      have:m=[]:=by cases m with|nil=>rfl|cons t m=>simp at he
      subst this
      simp[Instr.findKey,underlying,hu,XG,kA]
  same:=λa=>by
    rw[show(10000:Nat)=9999+1 from rfl]
    simp[mX,ints,Instr.sameBits]
end Go.QM
namespace Go.QM
open Go
section
variable {r : Option Nat} {P : Program} {N : Nat} {ops : Array Oper} {Q : fk} {ag : Env} {aP : List Deferred} {A I : ay} {T : List Nat} {c : List (Nat × Bool)} {listed : Array Bool} {m : Nat}
def Bk(ops:Array Oper)(T:List Nat)(listed:Array Bool)(i:Nat):Bool:=(V5 .any ops listed).contains i&&Region.free .any ops listed i&&T.all (λj=>qr ops 9 j i)
def er (r:Option Nat) (P:Program) (N:Nat) (ops:Array Oper) (I:ay) (T:List Nat) (listed:Array Bool) (m:Nat) (Q:fk) (ag:Env) (aP:List Deferred) (A:ay):Prop:=
  ∀ a w,cd N a ag aP->sat w A->sat w I->pa ops listed->XA ops=true->(∀(j:Nat) (o:Oper),ops[j]? =some o->iR o.op=true)->
    ot (mO r) 0 P ops (mj (dQ N w Q)) (λw=>sat w I) T m listed a w
theorem er.of(c:List (Nat×Bool))(aQ:pt ops T c listed=true)(hm:c.length=m)(h:ca r P N ops I T c Q ag aP A):er r P N ops I T listed m Q ag aP A:=by intro a w D E d u H C;subst hm;exact h a w listed D E ⟨w,d⟩ (.inl d) u H C aQ
theorem er.bg{B:ay}(e:aG A B)(h:er r P N ops I T listed m Q ag aP B):er r P N ops I T listed m Q ag aP A:=λa w x y=>h a w x (y.bg e)
theorem er.quiet{i:Nat}{o:Oper}{v:Value}(E:ops[i]? =some o)(Z:jL N o.dst=true)(H:Bk ops T listed i=true)
    (au:∀a,cd N a ag aP->kw P ops (λw=>sat w I) o v a) (h:er r P N ops I T (listed.setIfInBounds i true) m Q (jU ag o.dst v) aP A):er r P N ops I T listed (m+1) Q ag aP A:=by
 intro a w O ar d u V D;simp only[Bk,VQ]at H;obtain⟨⟨aw,ao⟩,W⟩:=H;have C:i∈V5 .any ops listed:=b2
 have:=h (a.put o.dst v) w (O.put Z v) ar d (u.set C) V D;exact Cn (vC r) E (Region.noSelect_spec V) D (λc a w h=>h.elim) (.inr ⟨rfl,λj aq=>Xf.1 W j aq⟩) m listed a w u (Region.free_spec E ao) C (au a O) d this
theorem er.step{i:Nat}{o:Oper}(ar:ops[i]? =some o)(O:o.guard=none)(H:jL N o.dst=true)
    (h:ck r P ag o A (λv bl=>aG bl I/\er r P N ops I T (listed.setIfInBounds i true) m Q (jU ag o.dst v) aP bl)) {a:Act} {w:World} (hr:cd N a ag aP) (hs:sat w A) (E:pa ops listed)
    (au:XA ops=true) (aq:∀(j:Nat) (o:Oper),ops[j]? =some o->iR o.op=true) (W:i∈V5 .any ops listed):
    wpOpIn (mO r) 0 P ops (mj (dQ N w Q)) i (λa' d=>(i∉T->sat w I->sat d I)/\ot (mO r) 0 P ops (mj (dQ N w Q)) (λw=>sat w I) T m (listed.setIfInBounds i true) a' d) a w:=by
 unfold wpOpIn;rw[ar];simp only[];rw[ax (by simp[VN,O])];refine Oper.yh ?_ (h a w hr.eval hs);rintro a' d ⟨v,bl,rfl,s,u,C,Z⟩;have V:=Z _ d (hr.put H v) u (u.bg C) (E.set W) au aq;have ao:∀e a D,mj (dQ N d Q) e a D->mj (dQ N w Q) e a D:=by grind[vG]
 exact⟨λ_ _=>u.bg C,se ao m _ _ _ V⟩
theorem er.t6{i:Nat}{o:Oper}(V:ops[i]? =some o)(E:o.guard=none)(D:jL N o.dst=true)(d:(V5 .any ops listed==[i])=true)
    (h:ck r P ag o A (λv bl=>aG bl I/\er r P N ops I T (listed.setIfInBounds i true) m Q (jU ag o.dst v) aP bl)):er r P N ops I T listed (m+1) Q ag aP A:=by
 intro a w W Z _ C ao O;rw[beq_iff_eq]at d;refine⟨λaq=>(by rw[aq]at d;cases d),λj u=>?_⟩;have H:=u;rw[d]at u;obtain rfl:j=i:=by simpa using u
 exact er.step V E D h W Z C ao O H
theorem er.fork{i j:Nat}{d u:Oper}(aA:ops[i]? =some d)(aF:ops[j]? =some u)(ar:d.guard=none)(au:u.guard=none)(ao:jL N d.dst=true)(aq:jL N u.dst=true)(D:(V5 .any ops listed==[i,j])=true)
    (aw:ck r P ag d A (λv bl=>aG bl I/\er r P N ops I T (listed.setIfInBounds i true) m Q (jU ag d.dst v) aP bl))
    (ay:ck r P ag u A (λv bl=>aG bl I/\er r P N ops I T (listed.setIfInBounds j true) m Q (jU ag u.dst v) aP bl)):er r P N ops I T listed (m+1) Q ag aP A:=by
 intro a w V W _ E Z O;rw[beq_iff_eq]at D;refine⟨λaL=>(by rw[aL]at D;cases D),λk C=>?_⟩;have H:=C;rw[D]at C;have C:k=i\/k=j:=b2
 rcases C with rfl|rfl;exact er.step aA ar ao aw V W E Z O H;exact er.step aF au aq ay V W E Z O H
section
variable {op GG : Op} {ty Iv : TypeId} {ps GX : String} {bh C3 : Array Edge} {t t' i j : Nat} {v : Value}
theorem dw(C:ops[i]? =some ⟨some t,op,ty,ps,bh,none⟩)(u:iR op=true)(d:W7 t N=true)(D:Bk ops T listed i=true)(O:bE P ag ⟨some t,op,ty,ps,bh,none⟩ I v)
    (h:er r P N ops I T (listed.setIfInBounds i true) m Q (hM ag t v) aP A):er r P N ops I T listed (m+1) Q ag aP A:=
  er.quiet C d D (λa E=>⟨u,.inl ⟨by simp[VN],λw H=>by rw[E.eval];exact O w H⟩⟩) h
theorem lf(D:ops[i]? =some ⟨some t,op,ty,ps,bh,none⟩)(E:ops[j]? =some ⟨some t',GG,Iv,GX,C3,none⟩)(d:W7 t N=true)(u:W7 t' N=true)(H:(V5 .any ops listed==[i,j])=true)
    (w:ck r P ag ⟨some t,op,ty,ps,bh,none⟩ A (λv bl=>aG bl I/\er r P N ops I T (listed.setIfInBounds i true) m Q (hM ag t v) aP bl))
    (C:ck r P ag ⟨some t',GG,Iv,GX,C3,none⟩ A (λv bl=>aG bl I/\er r P N ops I T (listed.setIfInBounds j true) m Q (hM ag t' v) aP bl)):er r P N ops I T listed (m+1) Q ag aP A:=
  er.fork D E rfl rfl d u H w C
end
theorem ab.qv{id:Nat}{l:List Oper}(I:ay)(T:List Nat)(m:Nat)(aq:l.toArray.size=m)(hm:P.follows .mixedOrders=true)(aQ:(XA l.toArray&&l.toArray.all (λo=>iR o.op))=true)(O:aG A I)
    (h:er r P N l.toArray I T (Array.replicate m false) m Q ag aP A):ab r P N (.region id l.toArray true) Q ag aP A:=by
 intro a w ao D;subst aq;simp only[VQ]at aQ;obtain⟨E,H⟩:=aQ;have V:=h a {w with drawn:=w.drawn+1} ao D (sat.bg (w:={w with drawn:=w.drawn+1}) D O) (by intro j o C u;(have W:j<l.toArray.size:=by grind);rw[Array.getD_eq_getD_getElem?,Array.getElem?_replicate,ax W]at u;cases u) E (λj o C=>Array.all_eq_true_iff_forall_mem.1 H o (Array.mem_of_getElem? C))
 have Z:∀e a d,mj (dQ N {w with drawn:=w.drawn+1} Q) e a d->dQ N w Q e a d:=λe a d h=>
   CQ (vG (w0:=w) (w:={w with drawn:=w.drawn+1}) ⟨rfl,rfl,rfl,Vi _⟩ h)
 exact wpIn_region_any hm (Co _ _ _ _ (se Z _ _ _ _ V))
end
end Go.QM
namespace Go.QM
open Go
section
variable {P : Program} {ag : Env} {A : ay} {d : Option Nat} {ty : TypeId} {ps : String} {bh : Array Edge} {g : Option (Nat × Bool)} {t t' : TypeId} {x y : Operand}
end
end Go.QM
