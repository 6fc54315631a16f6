/- Proved here: contracts, each under its own premises. -/
import Derived.Test.YtglgidjhoncphaaGreatDoorGa
import Derived.Laws.Bits64b
import Derived.Lib.TrailingZeros
set_option linter.all false
set_option maxRecDepth 4000
set_option maxHeartbeats 4000000
open List renaming length_append->mp,getElem?_eq_getElem->Ve,mem_singleton->Vf,mem_append->Vg,length_singleton->Vn,getElem?_eq_some_iff->Vo,mem_map->Vq,mem_cons->Vt,take_add_one->Vv,nodup_cons->Vy,length_cons->VC,mem_filter->VE,range->VF,filter_eq_self->VL,map_cons->VO,take_length->V0,nodup_nil->V2,length_map->V5,length_set->V8,append_nil->Wa,getElem?_of_mem->Wb,perm_append_singleton->We,getD_eq_getElem?_getD->Wh,map_congr_left->Wr,length_take->Ww,filter_cons_of_neg->Wx,filter_sublist->WK,drop_drop->WT,length->W4,filter_filter->W5,map_nil->Xa,foldl_cons->Xq,append_of_mem->XD,filter_eq_nil_iff->XL,find?_cons->XR,map_map->X3,filter_append->Yi,filter_map->Yw,replicate->Vw,cons_append->V4,take_append_drop->V6,all_eq_true->W0,mem_range->Xs,pairwise_cons->XY
open Nat renaming zero_le->Vl,le_refl->Vm,le_of_ble_eq_true->Vr,mul_comm->WV,pow_le_pow_right->Vk,eq_of_beq_eq_true->VB,mul_one->WB,and_two_pow_sub_one_eq_mod->W6,blt->Xc,min_eq_left->Xe,two_pow_pos->Xk,lt_of_lt_of_le->Xo,mod_lt->X2,pow_succ->Yh,testBit_xor->Yy,mul_lt_mul_of_pos_right->Yz
open Go.Value renaming oneCell'->VP,slice->VX,int->Wl,bool->Wz
open Bool renaming and_eq_true->VR,eq_iff_iff->XT
open Go.Proofs.Tryz renaming prog->VS
open Int renaming eq_ofNat_of_zero_le->Wk,sub_self->YM
open Option.some renaming injEq->WU
open List.cons renaming inj->Xl
open Ne renaming symm->Xw
open List.Perm renaming refl->XA
open List.Sublist renaming refl->XH
open List.Pairwise renaming nil->Yx
open Function renaming comp_apply->YU
open BitVec renaming ofInt->VY
open Go.Result renaming andThen_ok->Vs
open Go.Sem renaming run_bind->VA,run_pure->VV
open Go.Region renaming wanted->VN,ready->V7,noSelect->XE
open Go.Lib renaming ctz->XC
open Go.Instr renaming findNow->XK,checkKey->XV
open Go.Builtin renaming max_->YO,max2->YP
open Go.QM.ab renaming az->Vh,loop->VQ,bk->WI
open Go.QM.aY renaming known->VM
open Go.QM.aE renaming refl->VZ
open Go.QM.dS renaming int->Yl
namespace Go.Proofs.Q.Rd
open Go Go.QM
theorem uo(xs:List Int)(k:Nat):(ints xs).take (k*1)=ints (xs.take k):=by simp[ints,List.map_take]
theorem rD:∀(xs:List Int),(ints xs).all VP=true
 | []=>rfl
 | x::xs=>by have:=rD xs;rw[ints]at this⊢;rw[VO,List.all_cons,this];rfl
variable{xs:List Int}{i:Nat}
theorem wN(h:i<xs.length){o:Nat}(d:o=i*1)(v:Int):dC o [aa v] (ints xs)=ints (xs.set i v):=by rw[d,Nat.mul_one,List.set_eq_take_append_cons_drop,ax h];simp[dC,ints]
theorem pF(xs d:List Int):ints xs++ints d=ints (xs++d):=by simp[ints]
def gP(pr:Int->Bool):Int->Bool:=λx=>!pr x
structure hy(xs:List Int)(pr:Int->Bool)(i j:Nat)(o0:List Int):Prop where
  len:o0.length=xs.length
  kE:i<j
  oM:j<=xs.length
  tk:o0.take i=(xs.take j).filter (gP pr)
  n0:o0.drop j=xs.drop j
variable{pr:Int->Bool}
theorem hy.start{k:Nat}(h:xs.findIdx? pr=some k):hy xs pr k (k+1) xs:=by rw[List.findIdx?_eq_some_iff_getElem]at h;obtain⟨d,u,an⟩:=h;refine⟨rfl,by omega,d,?_,rfl⟩;grind[Vv,gP,VL,List.getElem_of_mem,Ww]
theorem hy.nu{j:Nat}{d:List Int}(h:hy xs pr i j d)(w:j<xs.length){x:Int}(D:xs[j]? =some x)(C:pr x=false):hy xs pr (i+1) (j+1) (d.set i x) where
 len:=by rw[V8];exact h.len
 kE:=by have:=h.kE;omega
 oM:=w
 tk:=by
  have E:=h.len;have u:=h.kE
  rw[Vv,List.getElem?_set_self U,Vv,D,Yi,<-h.tk]
  rw[List.take_set_of_le (Vm i)]
  simp[gP,C]
 n0:=by
  have u:=h.kE
  rw[List.drop_set_of_lt U]
  rw[<-WT,h.n0,WT]
theorem hy.skip{j:Nat}{d:List Int}(h:hy xs pr i j d)(u:j<xs.length){x:Int}(C:xs[j]? =some x)(w:pr x=true):hy xs pr i (j+1) d where
 len:=h.len
 kE:=by have:=h.kE;omega
 oM:=u
 tk:=by rw[Vv,C,Yi,h.tk];simp[gP,w]
 n0:=by rw[<-WT,h.n0,WT]
theorem hy.get{j:Nat}{d:List Int}(h:hy xs pr i j d){x:Int}(w:xs[j]? =some x):d[j]? =some x:=by
 have u:(d.drop j)[0]? =(xs.drop j)[0]? :=by rw[h.n0]
 simp_all
theorem hy.done{u:List Int}(h:hy xs pr i xs.length u):u.take i=xs.filter (gP pr)/\(xs.filter (gP pr)).length=i:=by have d:=h.tk;rw[V0]at d;refine⟨d,?_⟩;rw[<-d,Ww];have:=h.len;have:=h.kE;omega
theorem zn(h:xs.findIdx? pr=none):xs.filter (gP pr)=xs:=by grind[VL,gP]
theorem z6(ad:Option Addr)(cap:Nat)(xs:List Int)(gv:FuncId)(lb:List Value)(pr:Int->Bool)(C:av->Prop)(N:∀x,bt gv ([aa x]++lb) C [] (.bool (pr x)) [])(V:xs.length<=1000000000):eQ VS 340 [.slice ad xs.length cap,.func (.func gv) #[] lb.toArray] (λF=>(∃E,cN F E ad (ints xs))/\C (ag [F])) [] (λ_:Unit=>aa (match xs.findIdx? pr with|some i=>(i:Int)|none=>-1)) (λ_=>True) (λ_=>[]):=by
 apply aH Tryz.func340 Tryz.ntmps340;intro F ⟨⟨E,D⟩,H⟩;apply J [8];haveI:bj F ad E (ints xs):=⟨D⟩;refine J [36,33,177,575] ?_;rintro k ⟨hinv,eF⟩ W;dsimp only[cx]at hinv eF⊢;apply J [43];apply Vh rfl<;>intro w;have w:k<xs.length:=U
 obtain⟨t,d⟩:∃t,xs[k]? =some t:=⟨xs[k],Ve w⟩;have Q:0<(ints xs).length:=by grind[ec]
 refine J [56,135,24,302,86,3,407] ?_;refine q rfl rfl (dk rfl rfl (hO d)) ?_;refine e rfl ?_;refine kw (N t) rfl rfl (eC _) H ?_;intro _ _;apply J [148,2];cases P:pr t with|true=>?_|false=>?_
 apply J [210,165];have aA:xs.findIdx? pr=some k:=by grind[ub]
 exact vr;refine J [72,114] ?_;exact⟨rfl,(k+1),⟨by omega,λj u O hu=>by rcases Nat.lt_succ_iff_lt_or_eq.1 O with h|h;exact eF j u h hu;subst h;rw[d]at hu;cases hu;exact P⟩,U,bG,(ao (a6 _))⟩;obtain rfl:k=xs.length:=by omega
 have aA:xs.findIdx? pr=none:=by grind[wz]
 apply J [19,199];exact vt
theorem wm(ad:Option Addr)(cap:Nat)(xs:List Int)(gv:FuncId)(lb:List Value)(pr:Int->Bool)(u:av->Prop)(Q:∀x,bt gv ([aa x]++lb) u [] (.bool (pr x)) [])(ah:xs.length<=1000000000)(an:∀F,u F->u (ag [F]))(V:∀B F,u F->u (ag [B,F])):eQ VS 286 [.slice ad xs.length cap,.func (.func gv) #[] lb.toArray] u [aX 3 1 ad xs.length cap (ints xs)] (λ_:Unit=>.slice ad (xs.filter (gP pr)).length cap) (λ_=>True) (λ_=>[aX 3 1 ad (xs.filter (gP pr)).length cap (ints (xs.filter (gP pr)))]):=by
 apply aH Tryz.func286 Tryz.ntmps286;intro F P;apply J [1];refine ab.nk 0 rfl (λ_ ar _=>?_);have a0:=ec xs;apply J [121,33,302,0];apply ew (z6 ad cap xs gv lb pr u Q ah) ⟨⟨_,bj.rd⟩,an _ (V _ _ P)⟩;apply J [5];cases aA:xs.findIdx? pr with|none=>?_|some k=>?_
 dsimp only;rw[zn aA];apply J [31,171];refine Vh rfl (λC=>?_) (λC=>absurd (rfl) C);apply J [33,202,76];exact hH;dsimp only;have aM:=hy.start aA;have aL:k<xs.length:=by have:=aM.oM;omega
 apply J [31,171];refine Vh rfl (λD=>absurd D U) (λD=>?_);refine J [44,25,154,27,75,576] ?_;rintro⟨i,j,w⟩ d a4;dsimp only[cx]at d⊢;have aB:=d.oM;have au:=d.kE;have a3:=d.len;have a2:=ec w;apply J [130,86,323,182];apply Vh rfl<;>intro aQ;have H:j<xs.length:=U
 obtain⟨x,N⟩:∃x,xs[j]? =some x:=⟨xs[j],Ve H⟩;have aq:=d.get N;have aW:0<(ints w).length:=U
 refine J [56,264,407] ?_;refine q rfl rfl (dk rfl rfl (hO aq)) ?_;apply J [27,24,302,28];refine kw (Q x) rfl rfl (eC _) (V _ _ P) ?_;intro _ _;apply J [5,249];cases W:pr x with|true=>?_|false=>?_
 refine J [72,22,138] ?_;exact⟨rfl,⟨i,j+1,w⟩,(d.skip H N W),cB,bG,(ao (ao (a6 _)))⟩;refine J [20,33,120,407,23,514,2,345,73,155,138] ?_;exact⟨rfl,⟨i+1,j+1,w.set i x⟩,(d.nu H N W),cB,bG,(ao (ao (a6 _)))⟩;obtain rfl:j=xs.length:=by omega
 obtain⟨d1,d2⟩:=d.done;apply J [209,3];refine q rfl rfl (oh 3 1 (i) rfl rfl rfl U U) ?_;refine eB ?_;refine zd (sz:=1) (z:=aa 0) i rfl rfl rfl rfl am rfl rfl U ?_;intro O C D;have Z:O.take (i*1)=ints (xs.filter (gP pr)):=by grind[uo]
 apply J [2,264];refine q rfl rfl (nE 3 1 (i) rfl rfl rfl U U) ?_;apply J [69];exact b7.i () [_] ⟨rfl,trivial⟩ (by rw[d2];rfl) trivial (eN 0 rfl (by have:=pV (E:=3) (sz:=1) (ad:=ad) (n:=xs.length) (cap:=cap) (cs:=O) (j:=i) U;rw[Z]at this;rw[d2];exact this) (ao (a6 _)))
end Go.Proofs.Q.Rd
namespace Go.Proofs.Q.Rd
open Go Go.QM
structure cR where
  id:Int
  prio:Int
  whole:Int
  left:Int
def Tj(t:cR):List Value:=[.int .i64 t.whole,.int .i64 t.left,.int .i64 t.prio]
def dF(S:List cR)(p:Nat):List Int:=(S.filter λt=>decide (t.prio=(p:Int))).map (·.id)
def ey(S:List cR)(id:Int):Prop:=∃t∈S,t.id=id
instance (S:List cR)(id:Int):Decidable (ey S id):=inferInstanceAs (Decidable (∃t∈S,t.id=id))
def iY(A:Int->Nat)(S:List cR):Int->Option Value:=λid=>if ey S id then some (.pointer (some ⟨A id,0,none⟩))else none
def h0(S:List cR):Prop:=(S.map (·.id)).Nodup
structure fY(S:List cR):Prop where
  bA:h0 S
  rg:∀t∈S,0<=t.id/\(0<=t.prio/\t.prio<=7)/\(0<=t.whole/\t.whole<=16)/\0<=t.left/\t.left<=16
structure CF where
  ad:Nat->Option Addr
  cap:Nat->Nat
  aF:Nat
  A:Int->Nat
abbrev mE(ad:Nat->Option Addr)(cap:Nat->Nat)(S:List cR)(p:Nat):av:=aX 3 1 (ad p) (dF S p).length (cap p) (ints (dF S p))
abbrev r2(A:Int->Nat)(t:cR):av:=aj (A t.id) 373 (Tj t)
abbrev uk(ad:Nat->Option Addr)(cap:Nat->Nat)(aF:Nat)(S:List cR):List Value:=gw (λp=>.slice (ad p) (dF S p).length (cap p)) [.map (some aF)]
def ez(q:Nat)(S:List cR):av:=e7 λy:CF=>pure' (fY S) (ag [aj q 261 (uk y.ad y.cap y.aF S),b3 (mE y.ad y.cap S) (VF 8),bT QM.encI y.aF (iY y.A S) S.length,b3 (r2 y.A) S])
variable{S T:List cR}
theorem h0.perm(h:h0 S)(p:T.Perm S):h0 T:=(p.map _).nodup_iff.2 h
variable{t:cR}
theorem h0.inj(h:h0 S){u:cR}(C:t∈S)(hu:u∈S)(e:t.id=u.id):t=u:=by obtain⟨L,w⟩:=fB C;rcases Vt.1 (w.mem_iff.1 hu)with d|d;simp_all;exact absurd (Vq.2 ⟨u,d,e.symm⟩) (Vy.1 (h.perm w.symm)).1
def eI(S:List cR)(id:Int):List cR:=S.filter λt=>decide (t.id≠id)
theorem A8{L:List cR}(h:h0 S)(w:S.Perm (t::L)):(eI S t.id).Perm L:=by have d:=w.filter λu=>decide (u.id≠t.id);rw[Wx cG]at d;have C:L.filter (λu=>decide (u.id≠t.id))=L:=VL.2 λu hu=>(by have:=(Vy.1 (h.perm w.symm)).1;simp_all);rw[C]at d;exact d
theorem Eg{A:Int->Nat}(h:∀x,ey T x↔ey S x):iY A T=iY A S:=by grind[iY]
theorem wv{A:Int->Nat}{id:Int}(h:ey S id):iY A S id=some (.pointer (some ⟨A id,0,none⟩)):=ax h
theorem wu{A:Int->Nat}{id:Int}(h:¬ey S id):iY A S id=none:=al h
theorem Qw(S:List cR)(x:Int):¬ey (eI S x) x:=by rintro⟨t,d,h⟩;have:=(VE.1 d).2;simp_all
theorem xq{x y:Int}:ey (eI S x) y↔ey S y/\y≠x:=by constructor;rintro⟨t,d,rfl⟩;obtain⟨u,w⟩:=VE.1 d;exact⟨⟨t,u,rfl⟩,by simpa using w⟩;rintro⟨⟨t,d,rfl⟩,h⟩;exact⟨t,VE.2 ⟨d,by simpa using h⟩,rfl⟩
theorem Qv{x:Int}(h:¬ey S x):eI S x=S:=VL.2 λt d=>by
 simp only[decide_eq_true_eq];exact λe=>h ⟨t,d,e⟩
theorem Gr{x:Int}(an:h0 S)(h:ey S x):(eI S x).length+1=S.length:=by obtain⟨t,u,rfl⟩:=h;obtain⟨L,d⟩:=fB u;rw[(A8 an d).length_eq,d.length_eq];rfl
theorem fY.sub(h:fY S)(hs:T.Sublist S):fY T:=⟨h.bA.sublist (hs.map _),λt d=>h.rg t (hs.subset d)⟩
theorem fY.off(h:fY S)(x:Int):fY (eI S x):=h.sub WK
def gx(S:List cR)(id prio ci:Int):List cR×Int:=if id<0\/prio<0\/7<prio\/ci<1\/16<ci then(S,1)else if ey S id then(S,7)else(S++[⟨id,prio,ci,ci⟩],0)
theorem fY.add(h:fY S)(C:¬ey S t.id)(hr:0<=t.id/\(0<=t.prio/\t.prio<=7)/\(0<=t.whole/\t.whole<=16)/\0<=t.left/\t.left<=16):fY (S++[t]) where
 bA:=by
  rw[h0,List.map_append,List.nodup_append]
  refine⟨h.bA,by simp,λx D y d=>?_⟩
  obtain⟨a,w,rfl⟩:=Vq.1 D
  simp only[VO,Xa,Vf]at d
  rw[d];exact λe=>C ⟨a,w,e⟩
 rg:=λu hu=>by
  rcases Vg.1 hu with hu|hu
  ·exact h.rg u hu
  rw[Vf.1 hu];exact hr
theorem xI(S T:List cR)(p:Nat):dF (S++T) p=dF S p++dF T p:=by simp[dF]
variable{p:Nat}
theorem Hh(h:t.prio=p):dF [t] p=[t.id]:=by simp[dF,h]
theorem Hi(h:t.prio≠p):dF [t] p=[]:=by simp[dF,h]
theorem Mu{A:Int->Nat}(b:Nat):iY (aP A t.id b) (S++[t])=fj (iY A S) t.id (ae b):=by
 funext x;simp only[iY,fj];have d:ey (S++[t]) x↔ey S x\/t.id=x:=by simp[ey,or_and_right,exists_or]
 by_cases e:x=t.id;rw[ax (d.2 (.inr e.symm)),ax e,e,cm];rw[al e,bQ e];grind
variable(x:Int)
theorem Mv{A:Int->Nat}:iY A (eI S x)=fZ (iY A S) x:=by funext y;simp only[iY,fZ];by_cases e:y=x;rw[ax e,al (λh=>(xq.1 h).2 e)];rw[al e];by_cases h:ey S y;rw[ax h,ax (xq.2 ⟨h,e⟩)];rw[al h,al (λd=>h (xq.1 d).1)]
theorem Bz{S:List cR}{x:Int}:x∈dF S p↔∃t∈S,t.prio=p/\t.id=x:=by simp[dF,and_assoc]
theorem By(S:List cR)(p:Nat):(dF S p).length<=S.length:=by rw[dF,V5];exact List.length_filter_le _ _
theorem BA(S:List cR)(p:Nat)(x:Int):dF (eI S x) p=(dF S p).filter λy=>decide (y≠x):=by rw[dF,dF,Yw,eI,W5,W5];grind
theorem Hg(an:h0 S)(C:t∈S)(w:t.prio≠p):dF (eI S t.id) p=dF S p:=by rw[BA];refine VL.2 λy D=>?_;obtain⟨u,hu,d,rfl⟩:=Bz.1 D;simp only[decide_eq_true_eq];intro e;rw[an.inj hu C e]at d;exact w d
variable{cap:Nat->Nat}
theorem Hp{ad:Nat->Option Addr}{L:List Nat}{a:Option Addr}{c:Nat}(d:∀x∈L,x≠p/\x<8)(h:∀x,x≠p->dF T x=dF S x):∀x∈L,mE ad cap S x=mE (dK ad p a) (dK cap p c) T x:=λx u=>by
 have:=(d x u).1
 simp only[mE,jb this,h x this]
theorem RZ{ad:Nat->Option Addr}{L:List Nat}(d:∀x∈L,x≠p/\x<8)(h:∀x,x≠p->dF T x=dF S x):∀x∈L,mE ad cap S x=mE ad cap T x:=λx u=>by
 have:=(d x u).1
 simp only[mE,h x this]
theorem EF{ad:Nat->Option Addr}{aF:Nat}{n c:Nat}{a:Option Addr}(h:∀x,x≠p->dF T x=dF S x)(d:(dF T p).length=n):
 gw (λx=>if x=p then VX a n c else .slice (ad x) (dF S x).length (cap x)) [.map (some aF)]=uk (dK ad p a) (dK cap p c) aF T:=Hn λx _=>by
 by_cases e:x=p
 ·rw[ax e,e,jy,jy,d]
 rw[al e,jb e,jb e,h x e]
theorem EE{ad:Nat->Option Addr}{aF:Nat}(h:∀x,(dF T x).length=(dF S x).length):uk ad cap aF S=uk ad cap aF T:=Hn λx _=>by rw[h x]
def gz(S:List cR)(ids:List Int):List cR:=ids.foldl eI S
theorem Mb(S:List cR)(ids:List Int)(x:Int):gz S (ids++[x])=eI (gz S ids) x:=by simp[gz]
theorem n1(S:List cR):∀ids,(gz S ids).Sublist S
 | []=>XH _
 | x::l=>by rw[gz,Xq];exact(n1 (eI S x) l).trans WK
theorem Ma(S:List cR)(ids:List Int):gz S ids=S.filter λt=>decide (t.id∉ids):=by induction ids generalizing S with|nil=>exact(VL.2 λa _=>by simp).symm|cons x l d=>rw[gz,Xq];have:=d (eI S x);rw[gz]at this;rw[this,eI,W5];congr 1;funext e;rw[XT];simp only[VR,decide_eq_true_eq,Vt,not_or];exact⟨λh=>⟨h.2,h.1⟩,λh=>⟨h.2,h.1⟩⟩
def hx(S:List cR):Option cR:=S.find? λt=>S.all λu=>decide (u.prio<=t.prio)
def fh(S:List cR):Int:=match hx S with
  | some t=>t.id
  | none=>-1
theorem nJ{S:List cR}(h:hx S=some t):t∈S/\∀u∈S,u.prio<=t.prio:=by refine⟨List.mem_of_find?_eq_some h,λu hu=>?_⟩;have:=List.find?_some h;simp_all
theorem If(h:fY S)(an:∀x,p<x->x<8->dF S x=[]){x:Int}{rest:List Int}(hr:dF S p=x::rest):∃t,hx S=some t/\t.id=x/\t.prio=p:=by
 have hle:∀u∈S,u.prio<=p:=λu hu=>(by have C:=h.rg u hu;obtain⟨k,N⟩:=Wk C.2.1.1;by_cases O:p<k;have:=an k O U;have hm:u.id∈dF S k:=Bz.2 ⟨u,hu,N,rfl⟩;rw[this]at hm;cases hm;omega);obtain⟨t,T,aA⟩:∃t T,S.filter (λt=>decide (t.prio=(p:Int)))=t::T:=(by cases E:S.filter (λt=>decide (t.prio=(p:Int)))with|nil=>rw[dF,E]at hr;cases hr|cons t T=>exact⟨t,T,rfl⟩);have H:t.id=x:=by rw[dF,aA]at hr;simpa using(Xl hr).1
 have w:=VE.1 (show t∈S.filter (λt=>decide (t.prio=(p:Int)))by rw[aA];simp);have P:t.prio=p:=by simpa using w.2
 refine⟨t,?_,H,P⟩;have D:hx S=S.find? λt=>decide (t.prio=(p:Int)):=(by rw[hx];have:∀u∈S,(S.all λv=>decide (v.prio<=u.prio))=decide (u.prio=(p:Int)):=λu hu=>(by rw[XT,List.all_eq_true];simp only[decide_eq_true_eq];constructor;intro d;have Q:=d t w.1;have V:=hle u hu;omega;intro d v hv;have:=hle v hv;omega);induction S with|nil=>rfl|cons a l _=>exact find_congr this);rw[D,<-List.head?_filter,aA];rfl
 where find_congr {f g:cR->Bool}:∀{l:List cR},(∀u∈l,f u=g u)->l.find? f=l.find? g
  | [],_=>rfl
  | a::l,h=>by
   rw[XR,XR,h a cG,find_congr λu hu=>h u (by simp[hu])]
theorem Tu(h:fY S)(an:∀x,x<8->dF S x=[]):S=[]:=by
 rcases S with _|⟨t,T⟩;trivial;have d:=h.rg t cG;obtain⟨k,u⟩:=Wk d.2.1.1;have hm:t.id∈dF (t::T) k:=by grind[Bz]
 grind
def ie(S:List cR)(t:cR):List cR:=eI S t.id++[⟨t.id,t.prio,t.whole,t.whole⟩]
def iS(S:List cR)(id v:Int):List cR:=S.map λt=>if t.id=id then⟨t.id,t.prio,t.whole,v⟩else t
def ja(S:List cR):List cR:=match hx S with
  | none=>S
  | some t=>if t.left=1 then ie S t else iS S t.id (t.left-1)
def ko(S:List cR):List cR:=match hx S with
  | none=>S
  | some t=>ie S t
theorem Bw(u:t∈S)(x:Int):ey (ie S t) x↔ey S x:=by
 have d:ey (ie S t) x↔ey (eI S t.id) x\/t.id=x:=by simp[ie,ey,or_and_right,exists_or]
 rw[d,xq];constructor;rintro(h|h);simp_all;exact⟨t,u,h⟩;grind
theorem fY.Bv(h:fY S)(d:t∈S):fY (ie S t):=
 (h.off t.id).add (t:=⟨t.id,t.prio,t.whole,t.whole⟩) (Qw S t.id) (by have:=h.rg t d;dsimp only;omega)
theorem Bx(h:h0 S)(d:t∈S):(ie S t).length=S.length:=by have:=Gr h ⟨t,d,rfl⟩;grind[ie]
theorem Hd(an:h0 S)(u:t∈S){x:Nat}(d:t.prio=p)(w:x≠p):dF (ie S t) x=dF S x:=by grind[ie,xI,Hi,Hg]
theorem RR(an:h0 S)(p:Nat):(dF S p).Nodup:=an.sublist (List.filter_sublist.map _)
theorem Hc(an:h0 S)(u:t.prio=p){rest:List Int}(hr:dF S p=t.id::rest):dF (ie S t) p=rest++[t.id]:=by rw[ie,xI,Hh (by dsimp only;exact u),BA,hr,Wx cG];have d:=RR an p;rw[hr,Vy]at d;rw[VL.2 λy w=>by simp only[decide_eq_true_eq];exact λe=>d.1 (by rw[<-e];exact w)]
theorem Tt(h:hx S=some t)(w:t.prio=p):∃rest,dF S p=t.id::rest:=by obtain⟨hm,hle⟩:=nJ h;have d:hx S=S.find? λt=>decide (t.prio=(p:Int)):=(by rw[hx];refine If.find_congr λu hu=>?_;grind);rw[d,<-List.head?_filter]at h;cases aA:S.filter (λt=>decide (t.prio=(p:Int)))with|nil=>rw[aA]at h;cases h|cons a l=>rw[aA]at h;simp only[List.head?_cons,WU]at h;exact⟨l.map (·.id),by rw[dF,aA,h];rfl⟩
theorem RT(rest:List Int):dC 0 (((ints (x::rest)).drop (1*1)).take (rest.length*1)) (ints (x::rest))=ints (rest++(x::rest).drop rest.length):=by grind[dC,ints,List.map_drop]
theorem RX(rest:List Int):(rest++(x::rest).drop rest.length).set rest.length x=rest++[x]:=by
 rw[List.set_append_right _ _ (Vm _),Nat.sub_self];have d:((x::rest).drop rest.length).length=1:=cG
 grind[List.length_eq_one_iff]
theorem Hr(S:List cR)(id v x:Int):ey (iS S id v) x↔ey S x:=by simp only[ey,iS,Vq];grind
theorem Hs(S:List cR)(id v:Int)(p:Nat):dF (iS S id v) p=dF S p:=by rw[dF,dF,iS,Yw,X3];have d:((λt:cR=>decide (t.prio=(p:Int)))∘λt:cR=>if t.id=id then(⟨t.id,t.prio,t.whole,v⟩:cR)else t)=λt=>decide (t.prio=(p:Int)):=cr;rw[d];exact Wr λt _=>by simp only[YU];split<;>rfl
theorem Si(S:List cR)(id v:Int):(iS S id v).map (·.id)=S.map (·.id):=by rw[iS,X3];exact Wr λt _=>by simp only[YU];split<;>rfl
theorem BE(S:List cR)(id v:Int):(iS S id v).length=S.length:=by simp[iS]
theorem fY.iS{S:List cR}(h:fY S)(id:Int){v:Int}(hv:0<=v/\v<=16):fY (iS S id v) where
 bA:=by rw[h0,Si];exact h.bA
 rg:=λt d=>by obtain⟨u,hu,rfl⟩:=Vq.1 d;have:=h.rg u hu;split;dsimp only;omega;exact this
theorem Sk{L:List cR}(an:h0 S)(w:S.Perm (t::L))(v:Int):(⟨t.id,t.prio,t.whole,v⟩::L:List cR).Perm (iS S t.id v):=by have d:=w.map λu:cR=>if u.id=t.id then(⟨u.id,u.prio,u.whole,v⟩:cR)else u;rw[VO,ax rfl]at d;have C:L.map (λu:cR=>if u.id=t.id then(⟨u.id,u.prio,u.whole,v⟩:cR)else u)=L:=(by(conv=>rhs;rw[<-List.map_id L]);refine Wr λu hu=>?_;have:=(Vy.1 (an.perm w.symm)).1;simp_all);rw[C]at d;exact d.symm
theorem Sl(h:hx S=some t)(v:Int):hx (iS S t.id v)=some ⟨t.id,t.prio,t.whole,v⟩:=by
 have aA:∀u:cR,(if u.id=t.id then(⟨u.id,u.prio,u.whole,v⟩:cR)else u).prio=u.prio:=cr
 rw[hx,iS,List.find?_map];have d:((λa:cR=>(S.map λu:cR=>if u.id=t.id then(⟨u.id,u.prio,u.whole,v⟩:cR)else u).all λw=>decide (w.prio<=a.prio))∘λu:cR=>if u.id=t.id then(⟨u.id,u.prio,u.whole,v⟩:cR)else u)=λa=>S.all λw=>decide (w.prio<=a.prio):=cr;rw[d];have C:S.find? (λa=>S.all λw=>decide (w.prio<=a.prio))=some t:=h;simp_all
theorem Sj(S:List cR)(id v:Int):eI (iS S id v) id=eI S id:=by
 rw[eI,eI,iS,Yw];have d:((λu:cR=>decide (u.id≠id))∘λt:cR=>if t.id=id then(⟨t.id,t.prio,t.whole,v⟩:cR)else t)=λu=>decide (u.id≠id):=cr;rw[d];conv=>rhs;rw[<-List.map_id (S.filter _)]
 refine Wr λu hu=>?_;simp_all
theorem fY.nil:fY []:=⟨V2,λt h=>by cases h⟩
theorem not_neg(h:fY S):¬ey S (-1):=by rintro⟨t,d,u⟩;have:=h.rg t d;omega
end Go.Proofs.Q.Rd
namespace Go.Proofs.Q.Rd
open Go Go.QM
def hq(S:List cR)(p:Int):List Int:=if 0<=p/\p<=7 then dF S p.toNat else[]
theorem RU{S:List cR}{p:Nat}{x:Int}:(dF S p).filter (gP λy=>decide (y=x))=dF (eI S x) p:=by grind[BA,List.filter_congr,gP]
theorem QZ{S L:List cR}{t:cR}(h:h0 S)(d:S.Perm (t::L))(u:cR):(u::L).Perm (eI S t.id++[u]):=
 ((A8 h d).symm.cons u).trans (We _ _).symm
variable(eo:Nat)
theorem RL(aF:Nat)(F:av):aE (ag [aj eo 261 (gw (λ_=>.slice none 0 0) [.map (some aF)]),bT QM.encI aF (λ_=>none) 0,F]) (ag [ez eo [],F]):=by
 have aA:iY (λ_=>0) []=λ_=>none:=by trivial
 have d:VF 8=[0,1,2,3,4,5,6,7]:=kG
 refine(mS (f:=r2 (λ_=>0)) _).trans ?_;refine(((dG 3 1 _).trans ((dG 3 1 _).trans ((dG 3 1 _).trans ((dG 3 1 _).trans ((dG 3 1 _).trans ((dG 3 1 _).trans ((dG 3 1 _).trans (dG 3 1 _)))))))):aE _ (ag [aX 3 1 none 0 0 [],aX 3 1 none 0 0 [],aX 3 1 none 0 0 [],aX 3 1 none 0 0 [],aX 3 1 none 0 0 [],aX 3 1 none 0 0 [],aX 3 1 none 0 0 [],aX 3 1 none 0 0 [],_,_,_,_])).trans ?_;refine ay (⟨λ_=>none,λ_=>0,aF,λ_=>0⟩:CF) fY.nil ?_;refine bM 9 rfl ?_;refine(show aE (ag [aX 3 1 none 0 0 [],aX 3 1 none 0 0 [],aX 3 1 none 0 0 [],aX 3 1 none 0 0 [],aX 3 1 none 0 0 [],aX 3 1 none 0 0 [],aX 3 1 none 0 0 [],aX 3 1 none 0 0 [],b3 (r2 λ_=>0) [],bT QM.encI aF (λ_=>none) 0,F]) (ag [b3 (mE (λ_=>none) (λ_=>0) []) (VF 8),bT QM.encI aF (iY (λ_=>0) []) 0,b3 (r2 λ_=>0) [],F])from ?_);rw[aA,b3,d];refine(u2 [aX 3 1 none 0 0 [],aX 3 1 none 0 0 [],aX 3 1 none 0 0 [],aX 3 1 none 0 0 [],aX 3 1 none 0 0 [],aX 3 1 none 0 0 [],aX 3 1 none 0 0 [],aX 3 1 none 0 0 []] _).trans (dR (VZ _) ?_);exact bM 1 rfl (ao (ao (a6 _)))
theorem RM:bK 191 [] be [] (λeo:Nat=>ae eo) (λ_=>True) (λeo=>[ez eo []]):=by
 apply aH Tryz.func191 Tryz.ntmps191;intro F _;refine J [8,170,26,326] ?_;intro ba;first|refine q rfl rfl (ek (cs:=[.slice _ _ _,.slice _ _ _,.slice _ _ _,.slice _ _ _,.slice _ _ _,.slice _ _ _,.slice _ _ _,.slice _ _ _,.map _]) rfl) ?_|refine q rfl rfl (ek (cs:=[_,_,_,_,_,_,_,_,_]) rfl) ?_
 refine e rfl ?_;refine e0 (v:=.agg _) (l:=[.slice _ _ _,.slice _ _ _,.slice _ _ _,.slice _ _ _,.slice _ _ _,.slice _ _ _,.slice _ _ _,.slice _ _ _,.map _]) rfl rfl ?_;intro bC;apply J [110];have d:VF 8=[0,1,2,3,4,5,6,7]:=kG
 exact bu bC trivial (RL bC ba F)
theorem rT(r:Nat->Value)(aF n:Nat)(f:Int->Option Value)(id:Int):bt 241 [ae eo,aa id] be [aj eo 261 (gw r [.map (some aF)]),bT QM.encI aF f n] ((f id).getD (.pointer none)) [aj eo 261 (gw r [.map (some aF)]),bT QM.encI aF f n]:=by apply aH Tryz.func241 Tryz.ntmps241;intro F _;apply J [13,24,153,29,129,156,100,129,80,276,300];refine q rfl rfl (kh 3 368 rfl rfl (Yl rfl) rfl rfl) ?_;apply J [153,260];exact eZ (ao (ao (ao (a6 _))))
theorem CR(b:Nat)(w l r:Int):bt 242 [ae b] be [aj b 373 [aa w,aa l,aa r]] (.tuple #[]) [aj b 373 [aa w,aa w,aa r]]:=by apply aH Tryz.func242 Tryz.ntmps242;intro F _;apply J [1,39,164,53,267,203,325];exact yk
theorem SS(b:Nat)(w l r:Int)(d:0<=l/\l<=100):bt 276 [ae b] be [aj b 373 [aa w,aa l,aa r]] (.bool (decide (l-1=0))) [aj b 373 [aa w,aa (l-1),aa r]]:=by apply aH Tryz.func276 Tryz.ntmps276;intro F _;refine J [1,128,64,219,267,284,64,290,66] ?_;exact hH
theorem L9(b:Nat)(id x:Int):bt 382 [aa x,ae b] (λF=>Rd F b (.cells #[aa id] 3 (0,0))) [] (.bool (decide (x=id))) []:=by apply aH Tryz.func382 Tryz.ntmps382;intro F d;apply J [8];haveI:fL F b (.cells #[aa id] 3 (0,0)):=⟨d⟩;apply J [246,85,290,66];exact j4
theorem qS(S:List cR)(an:S.length<=1000000):bt 105 [ae eo] be [ez eo S] (aa (fh S)) [ez eo S]:=by
 apply aH Tryz.func105 Tryz.ntmps105;intro F _;apply J [1];refine ab.open 0 rfl (λd E=>?_);obtain⟨ad,cap,aF,A⟩:=d;have aO:=E;apply J [82];dsimp only at aO⊢;apply J [36,253];refine VQ (ι:=Nat) (λk=>k<=8/\∀x,k<=x->x<8->dF S x=[]) (λk=>[(0,ae eo),(3,aa ((k:Int)-1))]) (λk=>ag [aj eo 261 (uk ad cap aF S),b3 (mE ad cap S) (VF 8),bT QM.encI aF (iY A S) S.length,b3 (r2 A) S,F]) (λk=>k) 8 ⟨Vm _,λx C u=>by omega⟩ bG (ao (ao (ao (ao (ao (a6 _)))))) ?_;rintro k ⟨O,w⟩ av;dsimp only[cx]at O w⊢;apply J [6,336,18];refine VM 7 rfl (c:=true) rfl ?_;apply J [12,303,189];apply Vh rfl<;>intro W;obtain⟨p,rfl⟩:∃z,k=z+1:=⟨k-1,by omega⟩;rw[show(((p+1:Nat):Int)-1)=(p:Int)from by omega];have lU:p<8:=U
 obtain⟨L,D,V⟩:=xH lU;refine WI (fN 1 rfl D) ?_;apply J [56,35,80,81];refine q rfl rfl (jI 8 90 1 rfl rfl rfl U U) ?_;refine q rfl rfl (fF rfl rfl (Ho lU U)) ?_;apply J [202,33,323,216,2];apply Vh rfl<;>intro hlen;obtain⟨d,rest,Q⟩:∃d rest,dF S p=d::rest:=(by cases P:dF S p with|nil=>rw[P]at hlen;simp at hlen|cons a l=>exact⟨a,l,rfl⟩);obtain⟨t,aq,ar,au⟩:=If aO (λx C u=>w x U u) Q;have hv:fh S=d:=by grind[fh]
 rw[hv];have E:(dF S p)[0]? =some d:=b4
 have Z:=ec (dF S p);have ah:0<(ints (dF S p)).length:=U
 refine J [33,515] ?_;refine q rfl rfl (dk rfl rfl (hO E)) ?_;apply J [27,165];exact eZ (ay ⟨ad,cap,aF,A⟩ aO (bw (cX 0 0 p rfl rfl rfl (λ_ _=>rfl) D.symm (ao (ao (ao (a6 _)))))));refine J [22,212,219,27] ?_;exact⟨rfl,p,⟨by omega,λx C u=>by rcases Nat.lt_or_eq_of_le C with H|H;exact w x U u;subst H;exact List.length_eq_zero_iff.1 U⟩,U,bG,(bw (cX 0 0 p rfl rfl rfl (λ_ _=>rfl) D.symm (ao (ao (ao (a6 _))))))⟩;obtain rfl:k=0:=by omega
 have N:=Tu aO (λx h=>w x U h);have hv:fh S=-1:=by rw[N];rfl
 rw[hv];apply J [19,199];exact eZ (ay ⟨ad,cap,aF,A⟩ aO (ao (ao (ao (ao (ao (a6 _)))))))
theorem vM(S:List cR)(an:S.length<=1000000)(id pr d:Int):bt 197 [ae eo,aa id,aa pr,aa d] be [ez eo S] (aa (gx S id pr d).2) [ez eo (gx S id pr d).1]:=by
 apply aH Tryz.func197 Tryz.ntmps197;intro F _;apply J [1,36,75,254];refine VM 13 rfl (c:=false) rfl ?_;apply J [204,41];refine aY.split 17 rfl (λC=>?_) (λC=>?_);have C:=dz C;have hv:gx S id pr d=(S,1):=by rw[gx,ax U]
 rw[hv];dsimp only;apply J [337,337,337,49,169,201];exact hH;have C:=d6 C;apply J [204,41];refine aY.split 21 rfl (λD=>?_) (λD=>?_);have D:=dz D;have hv:gx S id pr d=(S,1):=by rw[gx,ax U]
 rw[hv];dsimp only;apply J [337,337,49,169,201];exact hH;have D:=d6 D;apply J [168,41];refine aY.split 25 rfl (λE=>?_) (λE=>?_);have E:=dz E;have hv:gx S id pr d=(S,1):=by rw[gx,ax U]
 rw[hv];dsimp only;apply J [337,49,169,201];exact hH;have E:=d6 E;apply J [204,41];refine aY.split 29 rfl (λH=>?_) (λH=>?_);have H:=dz H;have hv:gx S id pr d=(S,1):=by rw[gx,ax U]
 rw[hv];dsimp only;apply J [49,169,201];exact hH;have H:=d6 H;apply J [168,207];apply Vh rfl<;>intro aL;have hv:gx S id pr d=(S,1):=by rw[gx,ax U]
 rw[hv];dsimp only;apply J [67];exact hH;refine ab.open 0 rfl (λar aq=>?_);obtain⟨ad,cap,aF,A⟩:=ar;have aO:=aq;apply J [82];dsimp only at aO⊢;by_cases w:ey S id;have aA:=wv (A:=A) w;have hv:gx S id pr d=(S,7):=by rw[gx,al U,ax w]
 rw[hv];dsimp only;refine J [32,577] ?_;intro _ _;apply J [10];rw[aA];apply J [574,38,201];exact eZ (ay ⟨ad,cap,aF,A⟩ aO (ao (bN (ao (ao (ao (a6 _)))))));have aA:=wu (A:=A) w;have hv:gx S id pr d=(S++[⟨id,pr,d,d⟩],0):=by rw[gx,al U,al w]
 rw[hv];dsimp only;obtain⟨p,rfl⟩:=Wk (show 0<=pr by omega);have lU:p<8:=U
 obtain⟨L,N,Z⟩:=xH lU;have aB:=By S p;have ah:=aO.add (t:=⟨id,p,d,d⟩) w cB;have O:∀x,x≠p->dF (S++[⟨id,(p:Int),d,d⟩]) x=dF S x:=by grind[xI,Hi]
 have P:dF (S++[⟨id,(p:Int),d,d⟩]) p=dF S p++[id]:=by grind[xI,Hh]
 have av:=ec (dF S p);refine WI (fN 1 rfl N) ?_;apply J [32];refine aK (rT eo _ aF S.length (iY A S) id) rfl (ed 2 rfl (ed 2 rfl (eC _))) trivial ?_;intro _ _;apply J [14];rw[aA];apply J [574,191,22,25];first|refine q rfl rfl (ek (cs:=[.int _ _,.int _ _]) rfl) ?_|refine q rfl rfl (ek (cs:=[_,_]) rfl) ?_
 apply J [3];first|refine q rfl rfl (ek (cs:=[.int _ _,.int _ _,.int _ _]) rfl) ?_|refine q rfl rfl (ek (cs:=[_,_,_]) rfl) ?_
 refine J [0,292] ?_;intro ch;apply J [274,46,0];refine aK (CR ch d 0 p) rfl (ed 0 rfl (eC _)) trivial ?_;intro _ _;apply J [16,2,127,276,3,164,23];refine lX 3 368 rfl (Yl rfl) rfl rfl rfl ?_;apply J [29];refine ab.draw _ [14] [0,1,2,3,4,5,6,7,8,11,12,-9,-10,13,-14] a1 a1 (bw (a6 _)) ?_;refine J [77,11,77,11,89,88,435,516,11,89,88,15,152] ?_;intro au;refine J [45,578] ?_;intro Q V;refine J [9,435,91,579,74,199] ?_;exact eZ (ay ⟨dK ad p Q,dK cap p V,aF,aP A id ch⟩ ah (b9 0 rfl (congrArg (aj eo 261) (EF (n:=(dF S p).length+1) O (by rw[P,mp];rfl))) (cX 0 3 p rfl rfl (by dsimp only[mE];rw[jy,jy,P,mp,Vn,pF]) (Hp Z O) N.symm (b9 1 rfl (by dsimp only;rw[Mu (t:=⟨id,(p:Int),d,d⟩),aA,mp];rfl) (cX 1 1 ⟨id,(p:Int),d,d⟩ rfl rfl (by dsimp only[r2];rw[cm];rfl) (λu hu=>by dsimp only[r2];rw[bQ (λW=>w ⟨u,hu,W⟩)]) (We _ _).symm (bN (a6 _)))))))
end Go.Proofs.Q.Rd
namespace Go.Proofs.Q.Rd
open Go Go.QM
theorem row_one(xs:List Int)(a b:Nat):(((ints xs).drop a).take b).all VP=true:=by grind[rD]
theorem RK(S:List cR)(t:cR)(v:Int):ie (iS S t.id v) ⟨t.id,t.prio,t.whole,v⟩=ie S t:=by rw[ie,Sj];rfl
theorem RJ{S:List cR}(an:h0 S){t:cR}(u:t∈S){p:Nat}(d:t.prio=p){rest:List Int}(hr:dF S p=t.id::rest)(x:Nat):(dF (ie S t) x).length=(dF S x).length:=by by_cases e:x=p;rw[e,Hc an d hr,hr];simp;grind[Hd]
theorem fY.tick{S:List cR}(h:fY S)(d:∀t∈S,1<=t.left):fY (ja S):=by rw[ja];cases u:hx S with|none=>exact h|some t=>have hm:=(nJ u).1;have w:=h.rg t hm;have C:=d t hm;dsimp only;split;exact h.Bv hm;exact h.iS t.id U
theorem RI{S:List cR}(h:fY S)(u:∀t∈S,1<=t.left):(ja S).length=S.length:=by rw[ja];cases d:hx S with|none=>rfl|some t=>dsimp only;split;exact Bx h.bA (nJ d).1;exact BE _ _ _
variable(eo:Nat)
theorem He(S:List cR)(an:S.length<=1000000)(t:cR)(D:hx S=some t):bt 277 [ae eo,aa t.id] be [ez eo S] (.tuple #[]) [ez eo (ie S t)]:=by
 apply aH Tryz.func277 Tryz.ntmps277;intro F _;apply J [1];refine ab.open 0 rfl (λV Q=>?_);obtain⟨ad,cap,aF,A⟩:=V;have aO:=Q;apply J [82];dsimp only at aO⊢;have d:=(nJ D).1;have O:=aO.rg t d;obtain⟨p,u⟩:=Wk O.2.1.1;have lU:p<8:=U
 obtain⟨rest,w⟩:=Tt D u;obtain⟨L,C,E⟩:=xH lU;obtain⟨M,bO⟩:=fB d;have aA:=wv (A:=A) ⟨t,d,rfl⟩;have N:=By S p;rw[w,VC]at N;apply J [385];refine WI (fN 3 rfl C) ?_;apply J [32];refine aK (rT eo _ aF S.length (iY A S) t.id) rfl (ed 4 rfl (ed 4 rfl (eC _))) trivial ?_;intro _ _;apply J [16];rw[aA];apply J [57,42,46,0];refine aK (CR (A t.id) t.whole t.left t.prio) rfl (ed 4 rfl (eC _)) trivial ?_;intro _ _;refine J [16,29,459,77,185,89,88,435,516,327,74,6] ?_;dsimp only[mE];rw[w,VC];refine ab.nk 3 rfl (λ_ H _=>?_);haveI:sk (ints (t.id::rest)) (cap p) 1 1:=⟨rest.length+1,by rw[ec];simp,by omega,H⟩;have W:0<(ints (rest++(t.id::rest).drop rest.length)).length:=by grind[ec]
 apply J [223,108,86];refine q rfl rfl (oh 3 1 (1) rfl rfl rfl U U) ?_;refine e rfl ?_;refine Ly rest.length rfl rfl rfl (by rw[List.length_drop,ec];simp) (Nat.min_eq_left (Nat.sub_le _ _)) (by rw[ec];exact Nat.succ_pos _) (row_one _ _ _) (RT t.id rest) ?_;refine J [2,108,86,323,219,3,515,23] ?_;refine ej (v:=.int _ _) (vs:=[_]) 1 rfl rfl rfl rfl rfl rfl am (by rw[ec];simp) ((wN (i:=rest.length) cG U _).trans (congrArg ints (RX t.id rest))) ?_;refine aY.nil ?_;exact qo (ay ⟨ad,cap,aF,A⟩ (aO.Bv d) (b9 2 rfl (congrArg (aj eo 261) (EE (RJ aO.bA d u w))) (cX 0 2 p rfl rfl (by dsimp only[mE];rw[Hc aO.bA u w,mp];rfl) (RZ E (λx P=>Hd aO.bA d u P)) C.symm (b9 1 rfl (by rw[Eg (Bw d),Bx aO.bA d]) (cX 0 0 ⟨t.id,t.prio,t.whole,t.whole⟩ rfl rfl rfl (λ_ _=>rfl) (QZ aO.bA bO _) (ao (a6 _)))))))
theorem RQ(S:List cR)(an:S.length<=1000000)(id:Int)(d:¬ey S id):bt 277 [ae eo,aa id] be [ez eo S] (.tuple #[]) [ez eo S]:=by apply aH Tryz.func277 Tryz.ntmps277;intro F _;apply J [1];refine ab.open 0 rfl (λw u=>?_);obtain⟨ad,cap,aF,A⟩:=w;have aO:=u;apply J [82];dsimp only at aO⊢;have aA:=wu (A:=A) d;refine J [32,577] ?_;intro _ _;apply J [10];rw[aA];apply J [57,101,2,20,76];exact JW (ay ⟨ad,cap,aF,A⟩ aO (ao (bN (ao (ao (ao (a6 _)))))))
theorem Rp(S:List cR)(an:S.length<=1000000)(C:∀t∈S,1<=t.left):bt 213 [ae eo] be [ez eo S] (aa (fh (ja S))) [ez eo (ja S)]:=by
 apply aH Tryz.func213 Tryz.ntmps213;intro F _;apply J [1,106,105];refine aK (qS eo S an) rfl (ed 0 rfl (eC _)) trivial ?_;intro _ _;apply J [5,31,6];refine ab.open 0 rfl (λH E=>?_);obtain⟨ad,cap,aF,A⟩:=H;have aO:=E;apply J [82];dsimp only at aO⊢;have D:=RI aO C;cases u:hx S with|none=>?_|some t=>?_
 have hv:ja S=S:=by grind[ja]
 have d:fh S=-1:=by grind[fh]
 have aA:=wu (A:=A) (not_neg aO);rw[d,hv];apply J [178];refine aK (rT eo _ aF S.length (iY A S) (-1)) rfl (ed 0 rfl (ed 1 rfl (eC _))) trivial ?_;intro _ _;apply J [10];rw[aA];apply J [274,336,18];refine VM 12 rfl (c:=false) rfl ?_;apply J [47,151,100,37];refine aY.bk (B:=ag [ez eo S,F]) (ay ⟨ad,cap,aF,A⟩ aO (ao (bN (ao (ao (ao (a6 _))))))) ?_;refine e rfl ?_;refine aK (qS eo S an) rfl (ed 0 rfl (eC _)) trivial ?_;intro _ _;apply J [5];rw[d];apply J [30];exact hH;have w:=(nJ u).1;have P:=aO.rg t w;have O:=C t w;have d:fh S=t.id:=by grind[fh]
 obtain⟨M,bO⟩:=fB w;have aA:=wv (A:=A) ⟨t,w,rfl⟩;have NK:=aO.iS t.id (v:=t.left-1) U;rw[d];apply J [385,178];refine aK (rT eo _ aF S.length (iY A S) t.id) rfl (ed 2 rfl (ed 3 rfl (eC _))) trivial ?_;intro _ _;apply J [14];rw[aA];apply J [274,336,18];refine VM 12 rfl (c:=true) rfl ?_;apply J [140,367,95];refine aK (SS (A t.id) t.whole t.left t.prio U) rfl (ed 2 rfl (eC _)) trivial ?_;intro _ _;apply J [14,189];apply Vh rfl<;>intro N;refine J [580] ?_;have hv:ja S=ie S t:=by rw[ja,u];dsimp only;rw[ax U]
 rw[hv]at D⊢;apply J [178];refine aK (He eo (iS S t.id (t.left-1)) (by rw[BE];exact an) ⟨t.id,t.prio,t.whole,t.left-1⟩ (Sl u _)) rfl (ed 0 rfl (eC _)) trivial ?_;intro _ _;apply J [5];rw[RK];apply J [2,105];refine aK (qS eo (ie S t) U) rfl (ed 0 rfl (eC _)) trivial ?_;intro _ _;apply J [5,30];exact hH;refine J [580] ?_;have hv:ja S=(iS S t.id (t.left-1)):=by rw[ja,u];dsimp only;rw[al U]
 rw[hv]at D⊢;apply J [4,105];refine aK (qS eo (iS S t.id (t.left-1)) U) rfl (ed 0 rfl (eC _)) trivial ?_;intro _ _;apply J [5,30];exact hH
theorem UA(S:List cR)(an:S.length<=1000000)(aO:fY S):bt 363 [ae eo] be [ez eo S] (aa (fh (ko S))) [ez eo (ko S)]:=by
 apply aH Tryz.func363 Tryz.ntmps363;intro F _;apply J [1,106,37,164,0];apply au (qS eo S an);apply J [5];cases u:hx S with|none=>?_|some t=>?_
 have hv:ko S=S:=by grind[ko]
 have d:fh S=-1:=by grind[fh]
 rw[hv,d];refine e rfl ?_;apply au (RQ eo S an (-1) (not_neg aO));apply J [5,2,105];apply au (qS eo S an);apply J [5];rw[d];apply J [30];exact hH;have hv:ko S=ie S t:=by grind[ko]
 have d:fh S=t.id:=by grind[fh]
 have w:=Bx aO.bA (nJ u).1;rw[hv,d];refine e rfl ?_;apply au (He eo S an t u);apply J [5,2,105];apply au (qS eo (ie S t) U);apply J [5,30];exact hH
theorem zq(S:List cR)(an:S.length<=1000000)(a2:Option Addr)(c2:Nat)(xs:List Int)(ah:xs.length<=1000000):bt 360 [ae eo,.slice a2 xs.length c2] (λF=>∃E,cN F E a2 (ints xs)) [ez eo S] (aa ((S.length:Int)-(gz S xs).length)) [ez eo (gz S xs)]:=by
 apply aH Tryz.func360 Tryz.ntmps360;intro F ⟨E,N⟩;apply J [1];haveI:bj F a2 E (ints xs):=⟨N⟩;have a0:=ec xs;apply J [106,36,33,177];refine VQ (ι:=Nat×List cR) (λs=>s.1<=xs.length/\s.2=gz S (xs.take s.1)) (λs=>[(0,ae eo),(5,aa ((S.length:Int)-(s.2.length:Int))),(9,.slice a2 xs.length c2),(10,aa xs.length),(11,aa ((s.1:Nat):Int))]) (λs=>ag [ez eo s.2,F]) (λs=>xs.length-s.1) ⟨0,S⟩ ⟨Vl _,rfl⟩ ⟨rfl,congrArg (Wl .i64) (YM _).symm,rfl,rfl,rfl,trivial⟩ (ao (ao (a6 _))) ?_;rintro⟨k,Z⟩ ⟨P,u⟩ a3;dsimp only[cx]at P u⊢;apply J [43];apply Vh rfl<;>intro av;have Q:k<xs.length:=U
 obtain⟨x,qG⟩:∃x,xs[k]? =some x:=⟨xs[k],Ve Q⟩;have aQ:0<(ints xs).length:=U
 have H:gz S (xs.take (k+1))=eI Z x:=by grind[Vv,Mb]
 have au:Z.length<=S.length:=by grind[n1]
 refine J [187,517,0] ?_;refine gm (l:=[.int _ _]) rfl rfl ?_;intro ba;apply J [203,29];refine WI (jx) ?_;apply J [13];refine ab.open 0 rfl (λar aq=>?_);obtain⟨ad,cap,aF,A⟩:=ar;have aO:=aq;apply J [161];dsimp only at aO⊢;by_cases d:ey Z x;have aA:=wv (A:=A) d;have aB:=Gr aO.bA d;obtain⟨t,w,rfl⟩:=d;have W:=aO.rg t w;obtain⟨p,aL⟩:=Wk W.2.1.1;have lU:p<8:=U
 obtain⟨L,C,O⟩:=xH lU;obtain⟨M,bO⟩:=fB w;have aW:=By Z p;have D:∀x,x≠p->dF (eI Z t.id) x=dF Z x:=λx ah=>Hg aO.bA w U;apply J [385];refine WI (fN 3 rfl C) ?_;apply J [39,85,0];refine aK (rT eo _ aF Z.length (iY A Z) t.id) rfl (ed 4 rfl (ed 4 rfl (eC _))) trivial ?_;intro _ _;apply J [78];rw[aA];apply J [57,101,122];refine ab.draw _ [19] [0,1,2,3,4,5,6,7,8,9,10,11,12,13,14,16,17,-15,18,-19] a1 a1 (ao (cO (a6 _))) ?_;refine J [77,185,77,185,89,88,435,516,581,89,88,15] ?_;refine aK (wm (ad p) (cap p) (dF Z p) 382 [ae ba] (λy=>decide (y=t.id)) (λF=>Rd F ba (.cells #[aa t.id] 3 (0,0))) (λy=>L9 ba t.id y) U (λ_ h=>iW h) (λ_ _ h=>lG (iW h))) rfl (ed 2 rfl (eC _)) fL.rd ?_;intro _ _;refine J [293,9] ?_;rw[RU];refine J [435,91,579,74,6] ?_;refine cD [0,1,2,3,4,-5] (ao (eG (a6 _))) ?_;apply J [356,518,94,94,230];refine lM 3 368 rfl (Yl rfl) rfl rfl rfl ?_;refine J [113,345,73,62] ?_;exact⟨rfl,⟨k+1,eI Z t.id⟩,⟨by dsimp only;omega,H.symm⟩,cB,⟨rfl,congrArg (Wl .i64) cB,rfl,rfl,rfl,trivial⟩,(ay ⟨dK ad p (ad p),dK cap p (cap p),aF,A⟩ (aO.off t.id) (b9 1 rfl (congrArg (aj eo 261) (EF (n:=(dF (eI Z t.id) p).length) D rfl)) (cX 1 1 p rfl rfl (by dsimp only[mE];rw[jy,jy]) (Hp O D) C.symm (b9 0 rfl (by rw[Mv,aA,show(eI Z t.id).length=Z.length-1 from by omega];rfl) (pv 1 rfl (λ_ _=>rfl) (A8 aO.bA bO).symm (bw (a6 _)))))))⟩;have aA:=wu (A:=A) d;have V:=Qv d;apply J [39,85,0];refine aK (rT eo _ aF Z.length (iY A Z) x) rfl (ed 0 rfl (ed 1 rfl (eC _))) trivial ?_;intro _ _;apply J [14];rw[aA];refine J [57,101,2,20,460,344] ?_;exact⟨rfl,⟨k+1,Z⟩,⟨by dsimp only;omega,by dsimp only;rw[H,V]⟩,cB,bG,(ay ⟨ad,cap,aF,A⟩ aO (ao (bN (ao (ao (bN (a6 _)))))))⟩;obtain rfl:k=xs.length:=U
 rw[V0]at u;subst u;apply J [19,133];exact hH
end Go.Proofs.Q.Rd
namespace Go.Proofs.Q.iy
open Go Go.QM
structure c1 where
  at_:Int
  cq:Int
  id:Int
def mW(e:c1):List Value:=ints [e.at_,e.cq,e.id]
theorem lN(e:c1):(mW e).length=3:=rfl
def hN(H:List c1):List Value:=H.flatMap mW
theorem pw(H:List c1):(hN H).length=H.length*3:=kc lN H
def hh(a b:c1):Prop:=a.at_<b.at_\/a.at_=b.at_/\a.cq<b.cq
instance (a b:c1):Decidable (hh a b):=inferInstanceAs (Decidable (a.at_<b.at_\/a.at_=b.at_/\a.cq<b.cq))
def cy(L:List c1)(k:Nat):c1:=L.getD k ⟨0,0,0⟩
variable{L:List c1}{k:Nat}
theorem m0(h:k<L.length):L[k]? =some (cy L k):=by simp[cy,h]
theorem zN{e:c1}(h:L[k]? =some e):cy L k=e:=by simp[cy,Wh,h]
theorem zM(h:k<L.length):cy L k∈L:=List.mem_of_getElem? (m0 h)
variable{i:Nat}
theorem oI(h:i<L.length)(e:c1)(k:Nat):cy (L.set i e) k=if k=i then e else cy L k:=by simp only[cy,Wh,List.getElem?_set];grind
theorem Hw(h:i<L.length):L.set i (cy L i)=L:=by grind[cy,List.set_getElem_self]
def kZ(L:List c1)(k:Nat):Prop:=¬hh (cy L k) (cy L ((k-1)/2))
def lC(L:List c1):Prop:=∀k,0<k->k<L.length->kZ L k
structure qf(L:List c1)(i:Nat):Prop where
  a:∀k,0<k->k<L.length->k≠i->(k-1)/2≠i->kZ L k
  b:∀k,0<k->k<L.length->(k-1)/2=i->0<i->¬hh (cy L k) (cy L ((i-1)/2))
structure nM(L:List c1)(i:Nat):Prop where
  a:∀k,0<k->k<L.length->k≠i->kZ L k
  b:∀k,0<k->k<L.length->(k-1)/2=i->0<i->¬hh (cy L k) (cy L ((i-1)/2))
def swp(L:List c1)(i k:Nat):List c1:=(L.set i (cy L k)).set k (cy L i)
theorem qZ(L:List c1)(i k:Nat):(swp L i k).length=L.length:=by simp[swp]
theorem BO(d:i<L.length)(u:k<L.length):(swp L i k).Perm L:=by grind[cy,swp,List.set_set_perm]
theorem qC(d:i<L.length)(u:k<L.length)(j:Nat):cy (swp L i k) j=if j=k then cy L i else if j=i then cy L k else cy L j:=by grind[swp,oI]
theorem qf.step(h:qf L i)(E:i<L.length)(N:0<k)(D:k<L.length)(H:(k-1)/2=i)(W:hh (cy L k) (cy L i))
 (O:∀s,0<s->s<L.length->(s-1)/2=i->¬hh (cy L s) (cy L k)):qf (swp L i k) k where
 a:=λj w d P V=>by rw[qZ]at d;have C:=qC E D;simp only[kZ,C];rw[al P,al V];by_cases e:j=i;rw[ax e,al U];have:=h.b k N D H U;rw[e];exact this;rw[al e];by_cases u:(j-1)/2=i;rw[ax u];exact O j w d u;rw[al u];exact h.a j w d e u
 b:=λj w d Q _=>by rw[qZ]at d;have C:=qC E D;simp only[C];rw[al U,al U,al U,ax H];have:=h.a j w d U U;rw[kZ,Q]at this;exact this
theorem qf.exit(h:qf L i)(w:∀s,0<s->s<L.length->(s-1)/2=i->¬hh (cy L s) (cy L i)):nM L i where
 a:=λk d u C=>by by_cases e:(k-1)/2=i;rw[kZ,e];exact w k d u e;exact h.a k d u C e
 b:=h.b
theorem nM.step(h:nM L i)(N:i<L.length)(P:0<i)(O:hh (cy L i) (cy L ((i-1)/2))):nM (swp L i ((i-1)/2)) ((i-1)/2) where
 a:=λj u d Q=>by
  rw[qZ]at d;have w:(i-1)/2<L.length:=U
  have E:=qC N w;simp only[kZ,E];rw[al Q];by_cases e:j=i;subst e;rw[ax rfl,ax rfl];simp only[hh]at O⊢;omega;rw[al e];by_cases C:(j-1)/2=(i-1)/2;rw[ax C];have:=h.a j u d e;rw[kZ,C]at this;simp only[hh]at this O⊢;omega;rw[al C];by_cases D:(j-1)/2=i;rw[ax D];exact h.b j u d D P;rw[al D];exact h.a j u d e
 b:=λj u d V gi=>by
  rw[qZ]at d;have w:(i-1)/2<L.length:=U
  have E:=qC N w;simp only[E];have H:=h.a ((i-1)/2) gi w U;rw[kZ]at H;rw[al U,al (by omega:((i-1)/2-1)/2≠(i-1)/2),al (by omega:((i-1)/2-1)/2≠i)];by_cases e:j=i;rw[ax e];exact H;rw[al e];have:=h.a j u d e;rw[kZ,V]at this;simp only[hh]at this H⊢;omega
theorem nM.exit(h:nM L i)(he:i=0\/¬hh (cy L i) (cy L ((i-1)/2))):lC L:=λk d u=>by
 by_cases e:k=i
 ·subst e
  rcases he with he|he
  ·omega
  exact he
 exact h.a k d u e
theorem lC.hole(h:lC L)(i:Nat):nM L i where
 a:=λk d u _=>h k d u
 b:=λk d u E D=>by have w:=h k d u;have C:=h i D U;rw[kZ,E]at w;rw[kZ]at C;simp only[hh]at w C⊢;omega
theorem lC.min(h:lC L):∀k,k<L.length->¬hh (cy L k) (cy L 0):=by intro k;induction k using Nat.strongRecOn with|_ k D=>intro C;by_cases u:k=0;subst u;simp only[hh];omega;have d:=h k U C;have w:=D ((k-1)/2) U U;rw[kZ]at d;simp only[hh]at d w⊢;omega
structure nR(f:Int->Option Value)(L:List c1)(i:Nat):Prop where
  a:∀j,j<L.length->j≠i->f (cy L j).id=some (.int .i64 j)
  b:∀x,(∀j,j<L.length->(cy L j).id≠x)->f x=none
structure jV(f:Int->Option Value)(L:List c1):Prop where
  a:∀j,j<L.length->f (cy L j).id=some (.int .i64 j)
  b:∀x,(∀j,j<L.length->(cy L j).id≠x)->f x=none
def gI(L:List c1):Prop:=(L.map (·.id)).Nodup
theorem gI.perm{M:List c1}(h:gI L)(p:M.Perm L):gI M:=(p.map _).nodup_iff.2 h
theorem gI.inj(h:gI L){j:Nat}(C:j<L.length)(D:k<L.length)(e:(cy L j).id=(cy L k).id):j=k:=by
 have d:(L.map (·.id))[j]? =some (cy L j).id:=by grind[m0]
 have u:(L.map (·.id))[k]? =some (cy L k).id:=by grind[m0]
 rw[e]at d;obtain⟨w,ba⟩:=Vo.1 d;obtain⟨a2,bC⟩:=Vo.1 u;have E:=List.pairwise_iff_getElem.1 h;grind
theorem nR.step{f:Int->Option Value}(h:nR f L i)(an:gI L)(u:i<L.length)(d:k<L.length)(N:k≠i):nR (fj f (cy L k).id (aa i)) (swp L i k) k where
 a:=λj w H=>by
  rw[qZ]at w
  rw[qC u d,al H]
  by_cases e:j=i
  ·subst e;rw[ax rfl,fj,ax rfl]
  rw[al e,fj,al (λC=>H (an.inj w d C))];exact h.a j w e
 b :=λx D=>by
  have E:(cy L k).id≠x:=by
   have:=D i (by rw[qZ];exact u)
   rwa[qC u d,al (Xw N),ax rfl]at this
  rw[fj,al (Xw E)]
  refine h.b x λj w=>?_
  by_cases e:j=k
  ·rw[e];exact E
  by_cases C:j=i
  ·have:=D k (by rw[qZ];exact d)
   rw[qC u d,ax rfl]at this
   rw[C];exact this
  have:=D j (by rw[qZ];exact w)
  rwa[qC u d,al e,al C]at this
theorem nR.done{f:Int->Option Value}(h:nR f L i)(an:gI L)(d:i<L.length):jV (fj f (cy L i).id (aa i)) L where
 a:=λj u=>by by_cases e:j=i;subst e;rw[fj,ax rfl];rw[fj,al (λC=>e (an.inj u d C))];exact h.a j u e
 b:=λx w=>by rw[fj,al (Xw (w i d))];exact h.b x w
theorem jV.Dh{f:Int->Option Value}(h:jV f L)(i:Nat):nR f L i:=⟨λj d _=>h.a j d,h.b⟩
theorem jV.none{f:Int->Option Value}{L:List c1}(h:jV f L){x:Int}(u:∀e∈L,e.id≠x):f x=none:=h.b x λ_ d=>u _ (zM d)
theorem jV.some{f:Int->Option Value}{L:List c1}(h:jV f L){e:c1}(he:e∈L):∃j,j<L.length/\cy L j=e/\f e.id=some (aa j):=by obtain⟨j,u⟩:=Wb he;have w:=(Vo.1 u).1;have d:=zN u;exact⟨j,w,d,by rw[<-d];exact h.a j w⟩
theorem EJ{A:List c1}(e:c1)(d:i<A.length)(w:k<A.length)(u:k≠i):(A.set i (cy A k)).set k e=swp (A.set i e) i k:=by rw[swp,oI d,al u,oI d,ax rfl,List.set_set]
theorem yL(a b:c1):bt 364 [.agg (ints [a.at_,a.cq]).toArray,.agg (ints [b.at_,b.cq]).toArray] be [] (.bool (decide (hh a b))) []:=by apply aH Tryz.func364 Tryz.ntmps364;intro F _;refine J [196,582] ?_;intro ba;refine J [0,582] ?_;intro bC;apply J [38,111,65,381,18];refine aY.split 10 rfl (λd=>?_) (λd=>?_);have d:=dz d;apply J [47,49,162,162,162,162,162,363,132];exact b7.i () [_] ⟨rfl,trivial⟩ (congrArg Wz (da (.inl d)).symm) trivial (bw (a6 _));have d:=d6 d;apply J [192,192,158,317];refine aY.split 16 rfl (λu=>?_) (λu=>?_);have u:=dz u;apply J [261,261,408,369,71];exact b7.i () [_] ⟨rfl,trivial⟩ (congrArg Wz (by rw[decide_eq_decide];simp only[hh];omega)) trivial (bw (a6 _));have u:=d6 u;apply J [213,386,71];exact b7.i () [_] ⟨rfl,trivial⟩ (congrArg Wz (du (by simp only[hh];omega)).symm) trivial (bw (a6 _))
theorem od(b:Nat)(now w:Int)(H:List c1)(ad:Option Addr)(n cap u m:Nat)(f:Int->Option Value)(i:Nat)(an:H.length=n)(E:i<n)(D:n<=1000000)(d:c1):bt 326 [ae b,aa i,.agg (mW d).toArray] be [aj b 367 [aa now,aa w,.slice ad n cap,.map (some u)],aX 405 3 ad n cap (hN H),bT QM.encI u f m] (.tuple #[]) [aj b 367 [aa now,aa w,.slice ad n cap,.map (some u)],aX 405 3 ad n cap (hN (H.set i d)),bT QM.encI u (fj f d.id (aa i)) (if(f d.id).isSome then m else m+1)]:=by
 apply aH Tryz.func326 Tryz.ntmps326;intro F _;apply J [87];have C:=m0 (show i<H.length by omega);have N:0<(hN H).length:=by grind[pw]
 refine J [26,583] ?_;intro ch;apply J [29];refine ab.draw _ [7] [0,1,2,3,4,5,6,-7] a1 a1 (VZ _) ?_;apply J [185,11,584];refine bI rfl rfl rfl (gN 405 3 rfl rfl rfl U dQ) ?_;apply J [91];refine ej (v:=.agg (List.toArray (ints [_,_,_]))) (vs:=ints [_,_,_]) 3 rfl rfl rfl rfl rfl rfl am (by rw[kc lN];omega) (sE (a':=d) lN C 0 U (Vr rfl) rfl) ?_;refine b8.nil (ib ?_);refine cD [0,1,2,3,4,5,6,-7] (ao (ao (ao (a6 _)))) ?_;apply J [272,136,11,230];refine lX 3 3 rfl (Yl rfl) rfl rfl rfl ?_;refine⟨ai,?_⟩;refine b8.nil ?_;exact qo (cO (bN (ao (bN (a6 _)))))
theorem IA(b:Nat)(now E:Int)(H:List c1)(ad:Option Addr)(n cap u m:Nat)(f:Int->Option Value)(i:Nat)(an:H.length=n)(a8:i<n)(Z:n<=1000000)(a4:nM H i)(aw:nR f H i)(br:gI H):bK 328 [ae b,aa i] be [aj b 367 [aa now,aa E,.slice ad n cap,.map (some u)],aX 405 3 ad n cap (hN H),bT QM.encI u f m] (λ_:List c1×(Int->Option Value)×Nat=>.tuple #[]) (λy=>lC y.1/\jV y.2.1 y.1/\y.1.Perm H) (λy=>[aj b 367 [aa now,aa E,.slice ad n cap,.map (some u)],aX 405 3 ad n cap (hN y.1),bT QM.encI u y.2.1 y.2.2]):=by
 apply aH Tryz.func328 Tryz.ntmps328;intro F _;apply J [87];have a5:=m0 (show i<H.length by omega);have bd:0<(hN H).length:=by rw[pw];omega
 refine J [97,3,436] ?_;refine q rfl rfl (gp (vs:=ints [_,_,_]) 3 rfl rfl (mY lN a5) rfl am) ?_;refine J [0,328] ?_;intro aL;apply J [277,29,75];obtain⟨d,he⟩:=eO (cy H i);rw[he];refine VQ (ι:=Nat×List c1×(Int->Option Value)×Nat) (λs=>s.1<n/\s.2.1.length=n/\nM (s.2.1.set s.1 d) s.1/\nR s.2.2.1 (s.2.1.set s.1 d) s.1/\(s.2.1.set s.1 d).Perm H) (λs=>[(0,ae b),(1,aa ((s.1:Nat):Int)),(4,ae aL)]) (λs=>ag [aj aL 405 (mW d),aj b 367 [aa now,aa E,.slice ad n cap,.map (some u)],aX 405 3 ad n cap (hN s.2.1),bT QM.encI u s.2.2.1 s.2.2.2,F]) (λs=>s.1) ⟨i,H,f,m⟩ (by dsimp only;rw[<-he,Hw U];exact⟨a8,an,a4,aw,XA _⟩) bG (ao (ao (ao (ao (ao (a6 _)))))) ?_;rintro⟨k,A,g,aB⟩ ⟨a9,C,Q,V,w⟩ bf;dsimp only[cx]at a9 C Q V w⊢;have P:k<A.length:=U
 have bc:0<(hN A).length:=by rw[pw];omega
 have mj:(A.set k d).length=n:=by rw[V8];exact C
 apply J [6,6];refine cD [0,1,2,3,4,5,6,7,8,9,10,11,12,13,14,-15,16] (ao (ao (ao (ao (a6 _))))) ?_;apply J [11,437,144];refine b8.split 14 rfl (λO=>?_) (λO=>?_);have O:=dz O;have bb:0<k:=U
 obtain⟨pp,aq⟩:∃pp:Nat,((k:Int)-1)/2=pp:=⟨(k-1)/2,by omega⟩;have ar:pp=(k-1)/2:=U
 have a2:=m0 (show pp<A.length by omega);have ah:cy (A.set k d) pp=cy A pp:=by rw[oI P,al U]
 have D:cy (A.set k d) k=d:=by rw[oI P,ax rfl]
 apply J [370,585,304,298,329,163,226];refine eH rfl rfl rfl rfl (nH rfl rfl U U) ?_;refine eH rfl rfl rfl rfl (ln rfl rfl U U U) ?_;rw[aq];refine eH rfl rfl rfl rfl (gN 405 3 rfl rfl rfl U dQ) ?_;refine J [387] ?_;refine eH rfl rfl rfl rfl (gp (vs:=ints [_,_]) 2 rfl rfl (kz lN a2 0 2 U U rfl) rfl am) ?_;apply J [236];apply au (yL d (cy A pp));refine J [278,318,74] ?_;apply Vh rfl<;>intro a3;refine J [4,75,35,175,55,3,219] ?_;refine q rfl rfl (ln rfl rfl U U U) ?_;rw[aq];refine J [436] ?_;refine q rfl rfl (gp (vs:=ints [_,_,_]) 3 rfl rfl (mY lN a2) rfl am) ?_;refine e rfl ?_;apply au (od b now E A ad n cap u aB g k C U Z (cy A pp));refine J [10,2,212,219] ?_;refine q rfl rfl (ln rfl rfl U U U) ?_;rw[aq];apply J [73,155];have av:=EJ d P (show pp<A.length by omega) U;have aW:=Q.step U bb (by rw[<-ar,ah,D];exact a3);have a0:=V.step (br.perm w) U (show pp<(A.set k d).length by omega) U;rw[<-ar,<-av]at aW;rw[ah,<-av]at a0;have aQ:=(BO (L:=A.set k d) (i:=k) (k:=pp) U U).trans w;rw[<-av]at aQ;exact⟨rfl,⟨pp,A.set k (cy A pp),_,_⟩,⟨by dsimp only;omega,by dsimp only;rw[V8];exact C,aW,a0,aQ⟩,cB,bG,(cO (ao (ao (ao (ao (a6 _))))))⟩;have W:=Q.exit (.inr (by rw[D,<-ar,ah];exact a3));apply J [19,39,3,330,0];apply au (od b now E A ad n cap u aB g k C U Z d);apply J [10,325];have N:=V.done (br.perm w) U;have D:cy (A.set k d) k=d:=by rw[oI P,ax rfl]
 rw[D]at N;exact mO ⟨A.set k d,_,_⟩ ⟨W,N,w⟩ (ao (ao (ao (bN (a6 _)))));have O:=d6 O;have W:=Q.exit (.inl U);refine J [197,197,197,371,217,74,72,19,39,3,330,0] ?_;apply au (od b now E A ad n cap u aB g k C U Z d);apply J [10,325];have N:=V.done (br.perm w) U;have D:cy (A.set k d) k=d:=by rw[oI P,ax rfl]
 rw[D]at N;exact mO ⟨A.set k d,_,_⟩ ⟨W,N,w⟩ (ao (ao (ao (bN (a6 _)))))
theorem L8(b:Nat)(now D:Int)(H:List c1)(ad:Option Addr)(n cap u m:Nat)(f:Int->Option Value)(i:Nat)(an:H.length=n)(bt:i<n)(aB:n<=1000000)(aM:qf H i)(aw:nR f H i)(br:gI H):bK 327 [ae b,aa i] be [aj b 367 [aa now,aa D,.slice ad n cap,.map (some u)],aX 405 3 ad n cap (hN H),bT QM.encI u f m] (λ_:List c1×(Int->Option Value)×Nat=>.tuple #[]) (λy=>jV y.2.1 y.1/\y.1.Perm H/\∃j,j<n/\nM y.1 j/\cy y.1 j=cy H i) (λy=>[aj b 367 [aa now,aa D,.slice ad n cap,.map (some u)],aX 405 3 ad n cap (hN y.1),bT QM.encI u y.2.1 y.2.2]):=by
 apply aH Tryz.func327 Tryz.ntmps327;intro F _;apply J [87];have bj:=m0 (show i<H.length by omega);have bS:0<(hN H).length:=by grind[pw]
 refine J [97,3,436] ?_;refine q rfl rfl (gp (vs:=ints [_,_,_]) 3 rfl rfl (mY lN bj) rfl am) ?_;refine J [0,328] ?_;intro W;apply J [277,29,75];obtain⟨d,he⟩:=eO (cy H i);rw[he];refine VQ (ι:=Nat×List c1×(Int->Option Value)×Nat) (λs=>s.1<n/\s.2.1.length=n/\qf (s.2.1.set s.1 d) s.1/\nR s.2.2.1 (s.2.1.set s.1 d) s.1/\(s.2.1.set s.1 d).Perm H) (λs=>[(0,ae b),(1,aa ((s.1:Nat):Int)),(4,ae W)]) (λs=>ag [aj W 405 (mW d),aj b 367 [aa now,aa D,.slice ad n cap,.map (some u)],aX 405 3 ad n cap (hN s.2.1),bT QM.encI u s.2.2.1 s.2.2.2,F]) (λs=>n-s.1) ⟨i,H,f,m⟩ (by dsimp only;rw[<-he,Hw U];exact⟨bt,an,aM,aw,XA _⟩) bG (ao (ao (ao (ao (ao (a6 _)))))) ?_;rintro⟨k,A,g,ar⟩ ⟨aQ,N,Z,ah,w⟩ bW;dsimp only[cx]at aQ N Z ah w⊢;have aW:k<A.length:=U
 have bR:0<(hN A).length:=by grind[pw]
 have mj:(A.set k d).length=n:=b4
 have E:∀j,j≠k->cy (A.set k d) j=cy A j:=λj bD=>by rw[oI aW,al bD]
 have C:cy (A.set k d) k=d:=by rw[oI aW,ax rfl]
 refine J [75,25,461,154,27] ?_;refine ab.cut (ι:=Nat) (λc=>(c=2*k+1\/c=2*k+2/\c<n)/\∀s,s<n->(s=2*k+1\/s=2*k+2)->¬hh (cy A s) (cy A c)) (λc=>[(0,ae b),(1,aa k),(4,ae W),(5,aa ((c:Nat):Int))]) (λc=>ag [aj W 405 (mW d),aj b 367 [aa now,aa D,.slice ad n cap,.map (some u)],aX 405 3 ad n cap (hN A),bT QM.encI u g ar,F]) ?_ ?_;refine ab.seq ?_;refine cD [0,1,2,3,4,5,6,7,8,9,10,11,12,13,14,15,16,17,18,19,20,21,22,23,24,25,-26,27] (ao (ao (ao (ao (a6 _))))) ?_;refine J [11,388,185,462] ?_;refine bI rfl rfl rfl (lss rfl rfl) ?_;apply J [144];refine b8.split 24 rfl (λQ=>?_) (λQ=>?_);have Q:=dz Q;have bp:=m0 (show 2*k+2<A.length by omega);have bl:=m0 (show 2*k+1<A.length by omega);apply J [304,298,329,163,226];refine eH rfl rfl rfl rfl (hJ rfl rfl U U) ?_;refine J [519,387] ?_;refine eH rfl rfl rfl rfl (gp (vs:=ints [_,_]) 2 rfl rfl (kz lN bp 0 2 U U rfl) rfl am) ?_;refine J [304,298,329,163,226,519,387] ?_;refine eH rfl rfl rfl rfl (gp (vs:=ints [_,_]) 2 rfl rfl (kz lN bl 0 2 U U rfl) rfl am) ?_;apply J [236];apply au (yL (cy A (2*k+2)) (cy A (2*k+1)));refine J [278,318,74] ?_;apply Vh rfl<;>intro bc;refine J [138] ?_;exact⟨rfl,(2*k+2),⟨.inr ⟨rfl,by omega⟩,λs V aq=>by rcases aq with rfl|rfl<;>simp only[hh]at bc⊢<;>omega⟩,⟨rfl,rfl,rfl,congrArg (Wl .i64) U,trivial⟩,(ao (ao (ao (ao (ao (a6 _))))))⟩;apply J [4];exact⟨rfl,(2*k+1),⟨.inl rfl,λs V aq=>by rcases aq with rfl|rfl;simp only[hh];omega;exact bc⟩,⟨rfl,rfl,rfl,congrArg (Wl .i64) U,trivial⟩,(ao (ao (ao (ao (ao (a6 _))))))⟩;have Q:=d6 Q;refine J [197,197,197,197,364,371,217,74,205] ?_;exact⟨rfl,(2*k+1),⟨.inl rfl,λs V aq=>by obtain rfl:s=2*k+1:=U;simp only[hh];omega⟩,⟨rfl,rfl,rfl,congrArg (Wl .i64) U,trivial⟩,(ao (ao (ao (ao (ao (a6 _))))))⟩;rintro c ⟨bi,a9⟩ bY;dsimp only[cx]at bi a9⊢;apply J [6,6];refine cD [0,1,2,3,4,5,6,7,8,9,10,11,12,13,14,15,16,17,-18,19,20] (ao (ao (ao (ao (a6 _))))) ?_;apply J [11,185,462];refine bI rfl rfl rfl (geq rfl rfl) ?_;apply J [144];refine b8.split 53 rfl (λP=>?_) (λP=>?_);have P:=dz P;have a0:∀s,s<n->(s=2*k+1\/s=2*k+2)->¬hh (cy A s) d:=U
 refine J [197,197,355,371,364,318,74,20] ?_;have av:=Z.exit (λs a3 V bf=>by rw[C,E s U];exact a0 s U U);refine ab.exit (lP (aL rfl (lP (qv (ib ?_)))));apply J [39,3,330,0];apply au (od b now D A ad n cap u ar g k N U aB d);apply J [10,325];have O:=ah.done (br.perm w) U;rw[C]at O;exact mO ⟨A.set k d,_,_⟩ ⟨O,w,k,aQ,av,C⟩ (ao (ao (ao (bN (a6 _)))));have P:=d6 P;have bE:c<n:=U
 have bb:=m0 (show c<A.length by omega);apply J [304,298,329,163,226];refine eH rfl rfl rfl rfl (gN 405 3 rfl rfl rfl U dQ) ?_;refine J [387] ?_;refine eH rfl rfl rfl rfl (gp (vs:=ints [_,_]) 2 rfl rfl (kz lN bb 0 2 U U rfl) rfl am) ?_;apply J [370,585,236];apply au (yL (cy A c) d);refine J [278] ?_;refine eH rfl rfl rfl rfl (A1 rfl) ?_;apply J [217,74];apply Vh rfl<;>intro bd;have a0:∀s,s<n->(s=2*k+1\/s=2*k+2)->¬hh (cy A s) d:=by grind[hh]
 have av:=Z.exit (λs a3 V bf=>by rw[C,E s U];exact a0 s U U);refine ab.exit (lP (aL rfl (lP (qv (ib ?_)))));apply J [39,3,330,0];apply au (od b now D A ad n cap u ar g k N U aB d);apply J [10,325];have O:=ah.done (br.perm w) U;rw[C]at O;exact mO ⟨A.set k d,_,_⟩ ⟨O,w,k,aQ,av,C⟩ (ao (ao (ao (bN (a6 _)))));have bd:hh (cy A c) d:=b4
 refine J [4,35,175,55,3,436] ?_;refine q rfl rfl (gp (vs:=ints [_,_,_]) 3 rfl rfl (mY lN bb) rfl am) ?_;refine e rfl ?_;apply au (od b now D A ad n cap u ar g k N U aB (cy A c));apply J [10,2,212,73,155];have a2:=EJ d aW (show c<A.length by omega) U;have a4:=Z.step (k:=c) U U U U (by rw[C,E c U];exact bd) (λs a3 V bf=>by rw[E c U,E s U];exact a9 s U U);have a8:=ah.step (br.perm w) U (show c<(A.set k d).length by omega) U;rw[<-a2]at a4;rw[E c U,<-a2]at a8;have a5:=(BO (L:=A.set k d) (i:=k) (k:=c) U U).trans w;rw[<-a2]at a5;exact⟨rfl,⟨c,A.set k (cy A c),_,_⟩,⟨by dsimp only;omega,by dsimp only;rw[V8];exact N,a4,a8,a5⟩,cB,bG,(cO (ao (ao (ao (ao (a6 _))))))⟩
end Go.Proofs.Q.iy
namespace Go.Proofs.Q.iy
open Go Go.QM
theorem DY(H:List c1)(k:Nat):(hN H).take (k*3)=hN (H.take k):=wB lN H k
variable{H:List c1}{n:Nat}
theorem Eu{j:Nat}(h:j<n):cy (H.take n) j=cy H j:=by simp[cy,Wh,List.getElem?_take,h]
theorem HK(an:H.length=n+1):H.take n++[cy H n]=H:=by grind[cy,List.take_append_getElem]
def jj(H:List c1)(n i:Nat):List c1:=if i<n then(H.take n).set i (cy H n)else H.take n
theorem pq(an:H.length=n+1)(i:Nat):(jj H n i).length=n:=by grind[jj]
theorem ng{i:Nat}(an:H.length=n+1){j:Nat}(d:j<n):cy (jj H n i) j=if j=i then cy H n else cy H j:=by unfold jj;split;grind[oI,Eu];rename_i h;rw[al U];exact Eu d
theorem LL{i:Nat}(an:H.length=n+1)(u:i<=n):(cy H i::jj H n i).Perm H:=by
 by_cases h:i<n;have d:swp H i n=jj H n i++[cy H i]:=(by rw[jj,ax h,swp];grind[HK,cy]);refine List.Perm.trans ?_ (d▸BO U U);exact(We _ _).symm;obtain rfl:i=n:=U
 rw[jj,al h];have:=HK an;refine List.Perm.trans ?_ (List.Perm.of_eq this);exact(We _ _).symm
theorem LN{i:Nat}(an:H.length=n+1)(h:lC H):qf (jj H n i) i where
 a:=λk u d D w=>by rw[pq an]at d;rw[kZ,ng an d,ng an U,al D,al w];exact h k u U
 b:=λk u d w C=>by rw[pq an]at d;rw[ng an d,ng an U,al U,al U];exact(h.hole i).b k u U w C
theorem LM(an:H.length=n+1)(h:lC H):lC (jj H n n):=λk u d=>by
 rw[pq an]at d
 rw[kZ,ng an d,ng an U,al U,al U]
 exact h k u U
theorem LO{f:Int->Option Value}{i:Nat}(an:H.length=n+1)(aw:jV f H)(br:gI H)(C:i<n):jV (fj (fZ f (cy H i).id) (cy H n).id (aa i)) (jj H n i) where
 a:=λj u=>by
  rw[pq an]at u
  rw[ng an u]
  by_cases e:j=i
  ·subst e;rw[ax rfl,fj,ax rfl]
  rw[al e,fj,al (λd=>by have:=br.inj U U d;omega),fZ,al (λd=>e (br.inj U U d))]
  exact aw.a j U
 b :=λx D=>by
  have w:(cy H n).id≠x:=by
   have:=D i (by rw[pq an];exact C)
   rwa[ng an C,ax rfl]at this
  rw[fj,al (Xw w),fZ]
  split
  ·rfl
  rename_i E
  refine aw.b x λj u=>?_
  by_cases e:j=i
  ·subst e;exact λe=>E e.symm
  by_cases d:j=n
  ·rw[d];exact w
  have:=D j (by rw[pq an];omega)
  rwa[ng an U,al e]at this
theorem LP{f:Int->Option Value}(an:H.length=n+1)(aw:jV f H)(br:gI H):jV (fZ f (cy H n).id) (jj H n n) where
 a:=λj u=>by rw[pq an]at u;rw[ng an u,al U,fZ,al (λd=>by have:=br.inj U U d;omega)];exact aw.a j U
 b:=λx C=>by rw[fZ];split;rfl;rename_i w;refine aw.b x λj u=>?_;by_cases d:j=n;rw[d];exact λe=>w e.symm;have:=C j (by rw[pq an];omega);rwa[ng an U,al d]at this
theorem DJ(b:Nat)(now u:Int)(H:List c1)(ad:Option Addr)(n cap d m:Nat)(f:Int->Option Value)(i:Nat)(an:H.length=n+1)(a0:i<=n)(a5:n<=900000)(W:lC H)(aw:jV f H)(br:gI H):bK 278 [ae b,aa i] be [aj b 367 [aa now,aa u,.slice ad (n+1) cap,.map (some d)],aX 405 3 ad (n+1) cap (hN H),bT QM.encI d f m] (λ_:List c1×(Int->Option Value)×Nat=>.agg (mW (cy H i)).toArray) (λy=>y.1.length=n/\lC y.1/\jV y.2.1 y.1/\(cy H i::y.1).Perm H) (λy=>[aj b 367 [aa now,aa u,.slice ad n cap,.map (some d)],aX 405 3 ad n cap (hN y.1),bT QM.encI d y.2.1 y.2.2]):=by
 apply aH Tryz.func278 Tryz.ntmps278;intro F _;apply J [87];refine ab.nk 1 rfl (λ_ a9 _=>?_);have aQ:=m0 (show i<H.length by omega);have aW:=m0 (show n<H.length by omega);have bc:0<(hN H).length:=U
 have D:=pq an i;have E:=LL an a0;have a8:gI (cy H i::jj H n i):=br.perm E;have Z:gI (jj H n i):=by grind[gI]
 refine J [26,328] ?_;intro ba;apply J [29];refine cD [0,1,2,3,4,5,6,7,8,9,10,11,12,-13,-14,15] (ao (ao (ao (ao (a6 _))))) ?_;apply J [185,11];refine bI rfl rfl rfl (gN 405 3 rfl rfl rfl U dQ) ?_;refine bI rfl rfl rfl (gp (vs:=ints [_,_,_]) 3 rfl rfl (mY lN aQ) rfl am) ?_;refine J [185,462,411] ?_;rw[show(((n+1:Nat):Int)-1)=(n:Int)from by omega];refine J [15,328] ?_;intro bC;refine J [9,230,661,70,6] ?_;refine cD [0,1,2,3,4,5,-6] (ao (ao (ao (a6 _)))) ?_;apply J [272,136,230];refine lM 3 3 rfl (Yl rfl) rfl rfl rfl ?_;refine J [113,97,3,436] ?_;refine q rfl rfl (gp (vs:=ints [_,_,_]) 3 rfl rfl (mY lN aW) rfl am) ?_;refine J [0,328] ?_;intro ch;apply J [277,2,37,175,55,3];refine q rfl rfl (nE 405 3 (n) rfl rfl rfl U U) ?_;apply J [80,291,279,29,198,182];apply Vh rfl<;>intro bb;have w:i<n:=U
 have N:(H.take n).set i (cy H n)=jj H n i:=by rw[jj,ax w]
 have a2:(H.take n).length=n:=b4
 refine WI (B:=ag [aj b 367 [aa now,aa u,.slice ad n cap,.map (some d)],aX 405 3 ad n cap (hN (H.take n)),bT QM.encI d (fZ f (cy H i).id) _,aj ch 405 (mW (cy H n)),aj bC 405 (mW (cy H i)),aj ba 405 (ints [0,0,0]),F]) (ao (eN 4 rfl (by rw[<-DY];exact pV U) (bN (ao (ao (ao (ao (a6 _)))))))) ?_;apply J [35,330,0];refine aK (od b now u (H.take n) ad n cap d _ _ i a2 w U (cy H n)) rfl (ed 0 rfl (ed 0 rfl (ed 0 rfl (eC _)))) trivial ?_;intro _ _;apply J [16];rw[N];apply J [2,32];refine aK (L8 b now u (jj H n i) ad n cap d _ _ i D w U (LN an W) ((LO an aw br w).Dh i) Z) rfl (ed 0 rfl (ed 0 rfl (ed 0 rfl (eC _)))) trivial ?_;intro⟨V,f3,a3⟩ ⟨Q,C,j,aq,au,O⟩;apply J [16];dsimp only at Q C aq au O⊢;rw[ng an w,ax rfl]at O;have ar:V.length=n:=by rw[C.length_eq,D]
 have aL:f3 (cy H n).id=some (aa j):=by rw[<-O];exact Q.a j U
 refine J [2,586,77,272,136] ?_;refine bI rfl rfl rfl (kh 3 3 rfl rfl (Yl rfl) rfl rfl) ?_;rw[aL];refine dl rfl rfl rfl rfl ?_;refine aK (IA b now u V ad n cap d a3 f3 j ar aq U au (Q.Dh j) (Z.perm C)) rfl (ed 0 rfl (ed 0 rfl (ed 0 rfl (eC _)))) trivial ?_;intro⟨aB,f4,a4⟩ ⟨ah,av,P⟩;change b8 _ _ _ _ _ _ _ _ _ _ (ag [_,_,_,_,_,_,_]);dsimp only at ah av P⊢;apply J [74,24,330,277,260];exact b7.i ⟨aB,f4,a4⟩ [_] ⟨(fa (n:=3) rfl rfl rfl rfl),trivial⟩ rfl ⟨by dsimp only;rw[P.length_eq,ar],ah,av,((P.trans C).cons _).trans E⟩ (bN (bN (bN (cO (a6 _)))));obtain rfl:i=n:=by omega
 have N:H.take i=jj H i i:=by rw[jj,al U]
 refine WI (B:=ag [aj b 367 [aa now,aa u,.slice ad i cap,.map (some d)],aX 405 3 ad i cap (hN (jj H i i)),bT QM.encI d (fZ f (cy H i).id) _,aj ch 405 (mW (cy H i)),aj bC 405 (mW (cy H i)),aj ba 405 (ints [0,0,0]),F]) (ao (eN 4 rfl (by rw[<-N,<-DY];exact pV U) (bN (ao (ao (ao (ao (a6 _)))))))) ?_;apply J [4,24,330,277,260];exact b7.i ⟨jj H i i,_,_⟩ [_] ⟨(fa (n:=3) rfl rfl rfl rfl),trivial⟩ rfl ⟨D,LM an W,LP an aw br,E⟩ (bN (bN (bN (cO (a6 _)))))
end Go.Proofs.Q.iy
namespace Go.Proofs.Q.iy
open Go Go.QM
structure jz(H:List c1)(n:Nat)(f:Int->Option Value)(cq:Int)(Q:List c1):Prop where
  n:H.length=n
  lT:lC H
  r8:jV f H
  pm:H.Perm Q
  bA:gI Q
  cq:∀e∈Q,e.cq<=cq
  uU:Q.Pairwise λa b=>a.cq<b.cq
structure JD where
  H:List c1
  n:Nat
  f:Int->Option Value
  ad:Option Addr
  cap:Nat
  IH:Nat
  m:Nat
def n7(b:Nat)(now cq:Int)(Q:List c1):av:=e7 λy:JD=>pure' (jz y.H y.n y.f cq Q) (ag [aj b 367 [.int .i64 now,.int .i64 cq,.slice y.ad y.n y.cap,.map (some y.IH)],aX 405 3 y.ad y.n y.cap (hN y.H),bT QM.encI y.IH y.f y.m])
variable{H Q:List c1}{n:Nat}{cq:Int}
theorem jz.len{f:Int->Option Value}(h:jz H n f cq Q):n=Q.length:=by rw[<-h.n,h.pm.length_eq]
theorem jz.xj{f:Int->Option Value}(h:jz H n f cq Q):gI H:=h.bA.perm h.pm
theorem jz.start(d:Int):jz [] 0 (λ_=>none) d []:=⟨rfl,(λk _ h=>by simp at h),⟨(λj h=>by simp at h),λ_ _=>rfl⟩,XA _,V2,(λe h=>by cases h),Yx⟩
def jm(Q:List c1)(id:Int):Prop:=∃e∈Q,e.id=id
instance (Q:List c1)(id:Int):Decidable (jm Q id):=inferInstanceAs (Decidable (∃e∈Q,e.id=id))
variable{id:Int}
theorem jz.yes{f:Int->Option Value}(h:jz H n f cq Q)(C:jm Q id):∃j,j<n/\(cy H j).id=id/\f id=some (aa j):=by obtain⟨e,he,rfl⟩:=C;obtain⟨j,d,u,w⟩:=h.r8.some (h.pm.mem_iff.2 he);exact⟨j,by rw[<-h.n];exact d,by rw[u],w⟩
theorem jz.no{f:Int->Option Value}(h:jz H n f cq Q)(u:¬jm Q id):f id=none:=
 h.r8.none λe he d=>u ⟨e,h.pm.mem_iff.1 he,d⟩
def hW(Q:List c1)(now cq id lr:Int):List c1×Int×Int:=
  if id<0\/lr<1\/1048576<lr then(Q,cq,1)else if jm Q id then(Q,cq,7)else(Q++[⟨now+lr,cq+1,id⟩],cq+1,0)
theorem Mm(H:List c1)(e:c1):hN (H++[e])=hN H++mW e:=by simp[hN]
variable{e:c1}
theorem wH{k:Nat}(h:k<H.length):cy (H++[e]) k=cy H k:=by simp[cy,Wh,List.getElem?_append,h]
theorem SN(h:lC H)(e:c1):nM (H++[e]) H.length where
 a:=λk u d C=>by rw[mp,Vn]at d;rw[kZ,wH U,wH U];exact h k u U
 b:=λk u d D w=>by rw[mp,Vn]at d;omega
theorem SO{f:Int->Option Value}(h:jV f H)(e:c1):nR f (H++[e]) H.length where
 a:=λj d w=>by rw[mp,Vn]at d;rw[wH U];exact h.a j U
 b:=λx u=>h.b x λj d=>by have:=u j (by rw[mp];omega);rwa[wH d]at this
theorem BL{H:List c1}(h:gI H)(d:∀a∈H,a.id≠e.id):gI (H++[e]):=by grind[gI]
theorem jz.set{u:List c1}{f f4:Int->Option Value}(h:jz H n f cq Q)(he:e.cq=cq+1)(O:¬jm Q e.id)(D:lC u)(E:jV f4 u)(w:u.Perm (H++[e])):jz u (n+1) f4 (cq+1) (Q++[e]) where
 n:=by rw[w.length_eq,mp,h.n];rfl
 lT:=D
 r8:=E
 pm:=w.trans (h.pm.append_right _)
 bA:=BL h.bA λa d C=>O ⟨a,d,C⟩
 cq:=λa d=>by
  rcases Vg.1 d with d|d
  ·have:=h.cq a d;omega
  obtain rfl:=Vf.1 d;omega
 uU:=by rw[List.pairwise_append];refine⟨h.uU,List.pairwise_singleton _ _,λa d b N=>?_⟩;obtain rfl:=Vf.1 N;have:=h.cq a d;omega
def iG(Q:List c1)(id:Int):List c1:=Q.filter λe=>decide (e.id≠id)
theorem El(h:gI (e::H)):iG (e::H) e.id=H:=by rw[iG,Wx cG];refine VL.2 λa d=>?_;have:=(Vy.1 h).1;simp_all
theorem jz.off{d:List c1}{f w:Int->Option Value}(h:jz H (n+1) f cq Q){j:Nat}(O:(cy H j).id=id)(D:d.length=n)(E:lC d)(N:jV w d)(C:(cy H j::d).Perm H):jz d n w cq (iG Q id) where
 n:=D
 lT:=E
 r8:=N
 pm:=by
  have:=(C.trans h.pm).filter λe=>decide (e.id≠id)
  have u:=El (h.xj.perm C)
  rw[O]at u
  rw[iG]at u⊢
  rwa[u]at this
 bA:=h.bA.sublist ((WK).map _)
 cq:=λe he=>h.cq e (VE.1 he).1
 uU:=h.uU.sublist WK
theorem Qx(h:¬jm Q id):iG Q id=Q:=VL.2 λa d=>by
 simp only[decide_eq_true_eq];exact λe=>h ⟨a,d,e⟩
theorem Gt(h:jm Q id)(an:gI Q):(iG Q id).length+1=Q.length:=by obtain⟨e,he,rfl⟩:=h;obtain⟨s,t,rfl⟩:=XD he;have d:(e::(s++t)).Perm (s++e::t):=List.perm_middle.symm;have u:=(d.filter λa=>decide (a.id≠e.id)).length_eq;have w:=El (an.perm d);grind[iG]
def hB(Q:List c1)(ids:List Int):List c1:=ids.foldl iG Q
theorem Lg(Q:List c1)(ids:List Int)(x:Int):hB Q (ids++[x])=iG (hB Q ids) x:=by simp[hB]
theorem wd(Q:List c1):∀ids,(hB Q ids).Sublist Q
 | []=>XH _
 | x::l=>by rw[hB,Xq];exact(wd (iG Q x) l).trans WK
theorem Dt(Q:List c1)(ids:List Int):hB Q ids=Q.filter λe=>decide (e.id∉ids):=by induction ids generalizing Q with|nil=>exact(VL.2 λa _=>by simp).symm|cons x l d=>rw[hB,Xq];have:=d (iG Q x);rw[hB]at this;rw[this,iG,W5];congr 1;funext e;rw[XT];simp only[VR,decide_eq_true_eq,Vt,not_or];exact⟨λh=>⟨h.2,h.1⟩,λh=>⟨h.2,h.1⟩⟩
def jl(t:Int)(Q:List c1):List c1:=Q.filter λe=>decide (e.at_<=t)
def mC(t:Int)(Q:List c1):List c1:=Q.filter λe=>decide (¬e.at_<=t)
def ids(Q:List c1):List Int:=Q.map (·.id)
theorem Mf{f:Int->Option Value}{t:Int}{Q:List c1}(h:jz H n f cq Q)(W:0<n)(hle:(cy H 0).at_<=t)(Z:∀e∈Q,t<=e.at_):
 jl t Q=cy H 0::jl t (iG Q (cy H 0).id)/\mC t Q=mC t (iG Q (cy H 0).id):=by have an:=h.n;have u:cy H 0∈Q:=h.pm.mem_iff.1 (zM U);have E:∀a∈Q,a.at_<=t->(cy H 0).cq<=a.cq:=λa d w=>(by obtain⟨k,C⟩:=Wb (h.pm.mem_iff.2 d);have D:=(Vo.1 C).1;have:=h.lT.min k D;grind[zN,hh]);generalize cy H 0=e at u hle E⊢;have N:=h.bA;have ah:=h.uU;clear h an;obtain⟨s,r,rfl⟩:=XD u;have P:(e::(s++r)).Perm (s++e::r):=List.perm_middle.symm;have ar:∀a∈s++r,a.id≠e.id:=λa d V=>(by have:=(Vy.1 (N.perm P)).1;grind);have aq:∀a∈s,¬a.at_<=t:=λa d w=>cr;have O:iG (s++e::r) e.id=s++r:=(by grind[iG,VL]);rw[O];constructor;all_goals grind[jl,XL,mC]
theorem DP{f:Int->Option Value}{t:Int}(h:jz H n f cq Q)(u:n=0\/¬(cy H 0).at_<=t):jl t Q=[]/\mC t Q=Q:=by have w:∀a∈Q,¬a.at_<=t:=λa d=>(by obtain⟨k,C⟩:=Wb (h.pm.mem_iff.2 d);have D:=(Vo.1 C).1;have:=h.lT.min k D;rw[zN C]at this;rcases u with u|u;have:=h.n;omega;grind[hh]);exact⟨XL.2 (λa d=>by simpa using w a d),VL.2 (λa d=>by simpa using w a d)⟩
def uz(Q:List c1)(now id:Int):Int:=match Q.find? λe=>decide (e.id=id)with
  | some e=>e.at_-now
  | none=>0
theorem pM:bK 192 [] be [] (λb:Nat=>ae b) (λ_=>True) (λb=>[n7 b 0 0 []]):=by apply aH Tryz.func192 Tryz.ntmps192;intro F _;refine J [8,170,26,326] ?_;intro ba;refine q rfl rfl (ek (cs:=[.int _ _,.int _ _,.slice _ _ _,.map _]) rfl) ?_;refine e rfl ?_;refine e0 (v:=.agg #[_,_,_,_]) (l:=[.int _ _,.int _ _,.slice _ _ _,.map _]) rfl rfl ?_;intro bC;apply J [110];exact bu bC trivial ((dG 405 3 _).trans (ay ⟨[],0,λ_=>none,none,0,ba,0⟩ (jz.start 0) (bN (ao (ao (ao (a6 _)))))))
theorem Sp(b:Nat)(now d:Int)(Q:List c1)(aW:(0<=now/\now<=1000000000000)/\(0<=d/\d<=1000000000000)/\Q.length<=500000)(id w:Int):bt 380 [ae b,aa id,aa w] be [n7 b now d Q] (aa (hW Q now d id w).2.2) [n7 b now (hW Q now d id w).2.1 (hW Q now d id w).1]:=by
 apply aH Tryz.func380 Tryz.ntmps380;intro F _;apply J [1,36,254];refine VM 11 rfl (c:=false) rfl ?_;apply J [204,41];refine aY.split 15 rfl (λD=>?_) (λD=>?_);have D:=dz D;have aO:hW Q now d id w=(Q,d,1):=by rw[hW,ax U]
 rw[aO];dsimp only;apply J [337,49,189,20,186];exact hH;have D:=d6 D;apply J [204,41];refine aY.split 19 rfl (λE=>?_) (λE=>?_);have E:=dz E;have aO:hW Q now d id w=(Q,d,1):=by rw[hW,ax U]
 rw[aO];dsimp only;apply J [49,189,20,186];exact hH;have E:=d6 E;apply J [168,109];apply Vh rfl<;>intro a3;have aO:hW Q now d id w=(Q,d,1):=by rw[hW,ax U]
 rw[aO];dsimp only;apply J [186];exact hH;by_cases C:jm Q id;have aO:hW Q now d id w=(Q,d,7):=by rw[hW,al U,ax C]
 rw[aO];dsimp only;refine ab.open 0 rfl (λV P=>?_);obtain⟨H,n,f,ad,cap,O,m⟩:=V;have u:=P;apply J [87];dsimp only at u⊢;have N:=u.n;have aL:=u.len;have aB:=pw H;obtain⟨j,a2,a0,aA⟩:=u.yes C;apply J [44,127,285,438];rw[aA];apply J [286,184,59,2,20,186];exact eZ (ay ⟨H,n,f,ad,cap,O,m⟩ u (ao (ao (ao (ao (a6 _))))));have aO:hW Q now d id w=(Q++[⟨now+w,d+1,id⟩],d+1,0):=by rw[hW,al U,al C]
 rw[aO];dsimp only;refine ab.open 0 rfl (λV P=>?_);obtain⟨H,n,f,ad,cap,O,m⟩:=V;have u:=P;apply J [87];dsimp only at u⊢;have N:=u.n;have aL:=u.len;have aB:=pw H;have aA:=u.no C;apply J [44,127,285,438];rw[aA];refine J [286,184,59,100,64,154,267,203,29] ?_;refine ab.draw _ [22] [0,1,2,3,4,5,6,7,8,9,10,11,12,13,14,15,16,17,-18,-19,20,21,-22] a1 a1 (ao (a6 _)) ?_;refine J [77,185,50,11,388,137] ?_;refine bI rfl rfl rfl (ek (cs:=ints [_,_]) rfl) ?_;apply J [11];refine bI rfl rfl rfl (ek (cs:=ints [_,_,_]) rfl) ?_;refine dY rfl rfl ?_;refine bs (cs:=ints [_,_,_]) rfl ?_;intro ch;refine J [45] ?_;refine ap 24 rfl rfl rfl rfl rfl (Vr rfl) (show _=mW ⟨now+w,d+1,id⟩from rfl) rfl U gq ?_;intro W Z;refine J [9,89,366,91,368,74,37,175,55] ?_;refine q rfl rfl (len 405 3 rfl rfl) ?_;refine J [219] ?_;rw[show(((n+1:Nat):Int)-1)=(n:Int)from by omega];rw[<-Mm];refine e rfl ?_;refine aK (IA b now (d+1) (H++[⟨now+w,d+1,id⟩]) W (n+1) Z O m f n (by rw[mp,N];rfl) U U (by have:=SN u.lT ⟨now+w,d+1,id⟩;rwa[N]at this) (by have:=SO u.r8 ⟨now+w,d+1,id⟩;rwa[N]at this) (BL u.xj λa av au=>C ⟨a,u.pm.mem_iff.1 av,au⟩)) rfl (ed 0 rfl (ed 0 rfl (ed 1 rfl (eC _)))) trivial ?_;intro⟨ar,f4,aQ⟩ ⟨ah,aq,an⟩;apply J [10];dsimp only at ah aq an⊢;apply J [119];exact eZ (ay ⟨ar,n+1,f4,W,Z,O,aQ⟩ (u.set rfl C ah aq an) (ao (ao (ao (bN (a6 _))))))
theorem zb(b:Nat)(now u:Int)(Q:List c1)(a3:(0<=now/\now<=1000000000000)/\(0<=u/\u<=1000000000000)/\Q.length<=500000)(a2:Option Addr)(c2:Nat)(xs:List Int)(bd:xs.length<=1000000):bt 332 [ae b,.slice a2 xs.length c2] (λF=>∃E,cN F E a2 (ints xs)) [n7 b now u Q] (aa ((Q.length:Int)-(hB Q xs).length)) [n7 b now u (hB Q xs)]:=by
 apply aH Tryz.func332 Tryz.ntmps332;intro F ⟨E,an⟩;apply J [1];haveI:bj F a2 E (ints xs):=⟨an⟩;have be:=ec xs;apply J [106,36,33,177];refine VQ (ι:=Nat×List c1) (λs=>s.1<=xs.length/\s.2=hB Q (xs.take s.1)) (λs=>[(0,ae b),(5,aa ((Q.length:Int)-(s.2.length:Int))),(10,.slice a2 xs.length c2),(11,aa xs.length),(12,aa ((s.1:Nat):Int))]) (λs=>ag [n7 b now u s.2,F]) (λs=>xs.length-s.1) ⟨0,Q⟩ ⟨Vl _,rfl⟩ ⟨rfl,congrArg (Wl .i64) (YM _).symm,rfl,rfl,rfl,trivial⟩ (ao (ao (a6 _))) ?_;rintro⟨k,Z⟩ ⟨au,C⟩ bf;dsimp only[cx]at au C⊢;apply J [43];apply Vh rfl<;>intro a8;have av:k<xs.length:=U
 obtain⟨x,qG⟩:∃x,xs[k]? =some x:=⟨xs[k],Ve av⟩;have bc:0<(ints xs).length:=U
 have V:hB Q (xs.take (k+1))=iG Z x:=by grind[Vv,Lg]
 have a0:Z.length<=Q.length:=by grind[wd]
 refine J [187,517,31,6] ?_;refine ab.open 0 rfl (λaW aL=>?_);obtain⟨H,n,f,ad,cap,D,m⟩:=aW;have d:=aL;apply J [87];dsimp only at d⊢;have aq:=d.n;have a9:=d.len;have a4:=pw H;apply J [39,156,115];by_cases w:jm Z x;obtain⟨j,a5,ar,aA⟩:=d.yes w;obtain⟨n,rfl⟩:∃z,n=z+1:=⟨n-1,by omega⟩;have bb:=Gt w d.bA;apply J [4,127,285,438];rw[aA];apply J [286,184,59,2,20,32];refine aK (DJ b now u H ad n cap D m f j aq U U d.lT d.r8 d.xj) rfl (ed 0 rfl (ed 0 rfl (ed 0 rfl (eC _)))) trivial ?_;intro⟨ah,f4,aQ⟩ ⟨O,N,W,P⟩;apply J [17];dsimp only at O N W P⊢;refine J [2,345,73,62] ?_;exact⟨rfl,⟨k+1,iG Z x⟩,⟨by dsimp only;omega,V.symm⟩,cB,⟨rfl,congrArg (Wl .i64) cB,rfl,rfl,rfl,trivial⟩,(ay ⟨ah,n,f4,ad,cap,D,aQ⟩ (d.off ar O N W P) (ao (ao (ao (ao (a6 _))))))⟩;have aA:=d.no w;have aB:=Qx w;apply J [4,127,285,438];rw[aA];refine J [286,184,59,115,114] ?_;exact⟨rfl,⟨k+1,Z⟩,⟨by dsimp only;omega,by dsimp only;rw[V,aB]⟩,cB,bG,(ay ⟨H,n,f,ad,cap,D,m⟩ d (ao (ao (ao (ao (a6 _))))))⟩;obtain rfl:k=xs.length:=U
 rw[V0]at C;subst C;apply J [19,133];exact hH
theorem BY(b:Nat)(now C:Int)(Q:List c1)(a9:(0<=now/\now<=1000000000000)/\(0<=C/\C<=1000000000000)/\Q.length<=500000)(a3:∀e∈Q,now<e.at_/\e.at_<=2000000000000):bK 214 [ae b] be [n7 b now C Q] (λy:Option Addr×Nat=>.slice y.1 (ids (jl (now+1) Q)).length y.2) (λ_=>True) (λy=>[aX 3 1 y.1 (ids (jl (now+1) Q)).length y.2 (ints (ids (jl (now+1) Q))),n7 b (now+1) C (mC (now+1) Q)]):=by
 apply aH Tryz.func214 Tryz.ntmps214;intro F _;apply J [1,121,200,101,122];refine ab.open 0 rfl (λV P=>?_);obtain⟨H,n,f,ad,cap,D,m⟩:=V;have d:=P;apply J [87];dsimp only at d⊢;refine J [39,53,154,80,81,203,29,75] ?_;refine VQ (ι:=List c1×List Int×Option Addr×Nat) (λs=>s.1.Sublist Q/\s.2.1++ids (jl (now+1) s.1)=ids (jl (now+1) Q)/\mC (now+1) s.1=mC (now+1) Q) (λs=>[(0,ae b),(3,.slice s.2.2.1 s.2.1.length s.2.2.2)]) (λs=>ag [aX 3 1 s.2.2.1 s.2.1.length s.2.2.2 (ints s.2.1),n7 b (now+1) C s.1,F]) (λs=>s.1.length) ⟨Q,[],none,0⟩ ⟨XH _,rfl,rfl⟩ bG ((dG 3 1 _).trans (b9 0 rfl kG (ay ⟨H,n,f,ad,cap,D,m⟩ d (ao (ao (ao (ao (a6 _)))))))) ?_;rintro⟨Z,o,hU,fq⟩ ⟨N,u,w⟩ bj;dsimp only[cx]at N u w⊢;have a8:=N.length_le;have aq:=congrArg W4 u;rw[mp]at aq;have bb:(ids (jl (now+1) Q)).length<=Q.length:=by grind[ids,jl]
 clear d;refine ab.open 1 rfl (λV P=>?_);obtain⟨H,n,f,ad,cap,D,m⟩:=V;have d:=P;apply J [82];dsimp only at d⊢;have aQ:=d.n;have bd:=d.len;have bc:=pw H;apply J [6,6];refine cD [0,1,2,3,4,5,6,7,8,9,10,11,12,13,14,15,16,17,18,19,20] (VZ _) ?_;apply J [185,462,437,144];refine b8.split 19 rfl (λE=>?_) (λE=>?_);have E:=dz E;have a2:=m0 (show 0<H.length by omega);have bi:0<(hN H).length:=U
 refine J [304,298,329,163,519,387,387] ?_;refine eH rfl rfl rfl rfl (dk rfl rfl (pz lN a2 0 U rfl)) ?_;apply J [304,298,370,163];refine eH rfl rfl rfl rfl (leq rfl rfl) ?_;apply J [318,74];apply Vh rfl<;>intro W;obtain⟨d1,d2⟩:=Mf d U W (λa aW=>by have:=a3 a (N.subset aW);omega);obtain⟨n,rfl⟩:∃z,n=z+1:=⟨n-1,by omega⟩;have bf:=Gt ⟨_,d.pm.mem_iff.1 (zM (show 0<H.length by omega)),rfl⟩ d.bA;apply J [4,75,108,164,0];refine aK (DJ b (now+1) C H ad n cap D m f 0 aQ U U d.lT d.r8 d.xj) rfl (ed 0 rfl (ed 0 rfl (ed 0 rfl (eC _)))) trivial ?_;intro⟨av,f4,a4⟩ ⟨an,ah,au,ar⟩;apply J [10];dsimp only at an ah au ar⊢;refine J [351,152] ?_;intro a5;have a0:=congrArg W4 d1;rw[VC]at a0;rw[ids,V5]at aq;refine e rfl ?_;refine ap 8 rfl rfl rfl rfl rfl (Vr rfl) (show _=ints [(cy H 0).id]from rfl) rfl U gq ?_;intro aB aL;apply J [83,155];exact⟨rfl,⟨iG Z (cy H 0).id,o++[(cy H 0).id],aB,aL⟩,⟨List.filter_sublist.trans N,by dsimp only;rw[<-u,d1];simp[ids],by dsimp only;rw[<-w,d2]⟩,cB,⟨rfl,congrArg (λn=>VX _ n _) cG,trivial⟩,(b9 0 rfl (by simp[ints]) (ay ⟨av,n,f4,ad,cap,D,a4⟩ (d.off rfl an ah au ar) (bN (bN (bN (bN (a6 _)))))))⟩;have O:=DP (t:=now+1) d (.inr W);obtain⟨d1,d2⟩:=O;rw[d1]at u;rw[ids,Xa,Wa]at u;rw[d2]at w;apply J [209,69];exact b7.i ⟨hU,fq⟩ [_] ⟨rfl,trivial⟩ (by rw[<-u];rfl) trivial (b9 3 rfl (by rw[<-u]) (ay ⟨H,n,f,ad,cap,D,m⟩ (by rw[<-w];exact d) (ao (ao (ao (ao (a6 _)))))));have E:=d6 E;have O:=DP (t:=now+1) d (.inl U);apply J [197,197,197,364,217,74,72];obtain⟨d1,d2⟩:=O;rw[d1]at u;rw[ids,Xa,Wa]at u;rw[d2]at w;apply J [209,69];exact b7.i ⟨hU,fq⟩ [_] ⟨rfl,trivial⟩ (by rw[<-u];rfl) trivial (b9 3 rfl (by rw[<-u]) (ay ⟨H,n,f,ad,cap,D,m⟩ (by rw[<-w];exact d) (ao (ao (ao (ao (a6 _)))))))
end Go.Proofs.Q.iy
namespace Go.QM
open Go
section
variable {P : Program} {ah : Env} {A : av} {d : Option Nat} {ty : TypeId} {ps : String} {bl : Array Edge} {g : Option (Nat × Bool)} {t t' : TypeId} {x y : Operand} {k : IntKind} {a b c : Int}
theorem St{D:IntKind}{n:Int}(u:bf ah x=.int k a)(C:bf ah y=.int D n)(E:0<=n):
    bF P ah ⟨d,.binOp .shr t x y t',ty,ps,bl,g⟩ A (.int k (a.fdiv (2^min n.toNat k.bits))):=λw _=>by
  have:¬n<0:=U
  simp[execOp,u,C,eqGuard,binOp,Op.shift,this]
end
end Go.QM
namespace Go.QM
open Go
section
variable {P : Program} {ah : Env} {A : av} {d : Option Nat} {ty : TypeId} {ps : String} {bl : Array Edge} {g : Option (Nat × Bool)} {t t' : TypeId} {x y : Operand} {a b n : Nat}
theorem FQ{n:Nat}:min ((n:Int)).toNat IntKind.u64.bits=min n 64:=rfl
theorem LZ{a:Nat}(n:Nat)(d:a<2^64):a/2^min n 64=a/2^n:=by by_cases h:n<=64;simp_all;rw[Nat.min_eq_right U,Nat.div_eq_of_lt d,Nat.div_eq_of_lt];exact Nat.lt_of_lt_of_le d (Nat.pow_le_pow_right am U)
theorem Ss{C:IntKind}(u:bf ah x=bn a)(w:bf ah y=.int C (n:Int))(D:a<2^64):
    bF P ah ⟨d,.binOp .shr t x y t',ty,ps,bl,g⟩ A (bn ((a/2^n:Nat):Int)):=by have h:=St (P:=P) (A:=A) (d:=d) (ty:=ty) (ps:=ps) (bl:=bl) (g:=g) (t:=t) (t':=t') u w U;have e:(a:Int).fdiv (2^min ((n:Int)).toNat IntKind.u64.bits)=((a/2^n:Nat):Int):=(by grind[FQ,LZ]);simp_all
theorem Hx{C:IntKind}(u:bf ah x=bn a)(w:bf ah y=.int C (n:Int))(an:n<=64):
    bF P ah ⟨d,.binOp .shl t x y t',ty,ps,bl,g⟩ A (bn ((a*2^n %2^64:Nat):Int)):=
  BG u w U (by rw[FQ,Nat.min_eq_left an,IntKind.wrap_u64];simp)
theorem CZ(C:bf ah x=bn a)(D:bf ah y=bn b)(u:a<2^64)(w:b<2^64):
    bF P ah ⟨d,.binOp .and t x y t',ty,ps,bl,g⟩ A (bn ((a&&&b:Nat):Int)):=vP C D (bits_and_u64_nat a b u w)
theorem QO(C:bf ah x=bn a)(D:bf ah y=bn b)(u:a<2^64)(w:b<2^64):
    bF P ah ⟨d,.binOp .or t x y t',ty,ps,bl,g⟩ A (bn ((a|||b:Nat):Int)):=Bb C D (bits_or_u64_nat a b u w)
theorem Up(D:bf ah x=bn a)(E:bf ah y=bn b)(u:a<2^64)(C:b<2^64):
    bF P ah ⟨d,.binOp .xor t x y t',ty,ps,bl,g⟩ A (bn ((a^^^b:Nat):Int)):=λw _=>by
  have h:IntKind.u64.wrap (VY IntKind.u64.bits (a:Int)^^^VY IntKind.u64.bits (b:Int)).toNat=((a^^^b:Nat):Int):=bits_xor_u64_nat a b u C
  simp[execOp,D,E,eqGuard,binOp,Op.intBits]
  simpa using h
theorem J8(w:bf ah x=bn a)(C:bf ah y=bn 1)(u:a<2^64):
    bF P ah ⟨d,.binOp .and t x y t',ty,ps,bl,g⟩ A (bn ((a %2:Nat):Int)):=by have h:=CZ (P:=P) (A:=A) (d:=d) (ty:=ty) (ps:=ps) (bl:=bl) (g:=g) (t:=t) (t':=t') (b:=1) w C u am;simp_all
theorem Sq{C:IntKind}(u:bf ah x=bn 1)(w:bf ah y=.int C (n:Int))(an:n<64):
    bF P ah ⟨d,.binOp .shl t x y t',ty,ps,bl,g⟩ A (bn ((2^n:Nat):Int)):=by have h:=Hx (P:=P) (A:=A) (d:=d) (ty:=ty) (ps:=ps) (bl:=bl) (g:=g) (t:=t) (t':=t') (a:=1) u w U;rwa[Nat.one_mul,Nat.mod_eq_of_lt (Nat.pow_lt_pow_right am an)]at h
theorem Lu(C:bf ah x=bn a)(u:a<2^64):bF P ah ⟨d,.unOp .xor t x,ty,ps,bl,g⟩ A (bn ((2^64-1^^^a:Nat):Int)):=λw _=>by
  have h:IntKind.u64.wrap (VY IntKind.u64.bits ((2^64-1:Nat):Int)^^^VY IntKind.u64.bits (a:Int)).toNat=((2^64-1^^^a:Nat):Int):=bits_xor_u64_nat (2^64-1) a am u
  have e:(if IntKind.u64.signed=true then(-1:Int)else IntKind.u64.max)=((2^64-1:Nat):Int):=am
  simp only[execOp,C,Op.unary,e,Op.intBits]
  simpa using h
end
def oo(f:Nat->Bool):Nat->Nat
  | 0=>0
  | n+1=>oo f n+if f n then 2^n else 0
theorem Cc(f:Nat->Bool):∀n,oo f n<2^n
  | 0=>Nat.one_pos
  | n+1=>by have h:=Cc f n;rw[oo,Nat.pow_succ];split<;>omega
theorem IM(f:Nat->Bool):∀(n i:Nat),(oo f n).testBit i=(decide (i<n)&&f i)
  | 0,i=>by simp[oo]
  | n + 1,i=>by
    have D:=Cc f n
    have u:=IM f n i
    rw[oo]
    by_cases aA:f n=true
    · rw[ax aA,Nat.add_comm,<-Nat.one_mul (2^n),WV,Nat.testBit_two_pow_mul_add _ D]
      by_cases d:i<n
      · rw[ax d,u];simp[d,Nat.lt_succ_of_lt d]
      · rw[al d]
        by_cases e:i=n
        · subst e;simp[aA]
        · have:i-n≠0:=U
          rw[du (by omega:¬i<n+1),Bool.false_and]
          have w:(1:Nat).testBit (i-n)=false:=by
            obtain⟨j,C⟩:∃j,i-n=j+1:=⟨i-n-1,by omega⟩
            rw[C,Nat.testBit_succ];simp
          exact w
    · rw[al aA,Nat.add_zero,u]
      by_cases e:i=n
      · subst e;simp[aA]
      · have:decide (i<n)=decide (i<n+1):=by rw[decide_eq_decide];omega
        rw[this]
theorem IN{f g:Nat->Bool}:∀{n:Nat},(∀i,i<n->f i=g i)->oo f n=oo g n
  | 0,_=>rfl
  | n+1,h=>by rw[oo,oo,IN λi d=>h i U,h n U]
end Go.QM
namespace Go.QM
open Go
def kF(m:Nat->Nat)(o:Nat):Nat->Nat
  | 0=>0
  | n+1=>kF m o n+m (o+n)*2^(8*n)
def cV(m:Nat->Nat)(o:Nat):Nat:=kF m o 8
def oD(m:Nat->Nat):Prop:=∀i,m i<256
theorem w8{m:Nat->Nat}(h:oD m)(o:Nat):∀n,kF m o n<2^(8*n)
  | 0=>Nat.one_pos
  | n+1=>by
   have d:=w8 h o n;have u:=h (o+n);have e:2^(8*(n+1))=256*2^(8*n):=by rw[Nat.mul_add,Nat.pow_add,WV]
   rw[kF,e];generalize 2^(8*n)=p at d⊢;have:m (o+n)*p<=255*p:=Nat.mul_le_mul_right _ U;omega
variable{m:Nat->Nat}
theorem sO(h:oD m)(o:Nat):cV m o<2^64:=w8 h o 8
theorem uy{m m':Nat->Nat}{o:Nat}:∀{n:Nat},(∀i,o<=i->i<o+n->m i=m' i)->kF m o n=kF m' o n
  | 0,_=>rfl
  | n+1,h=>by rw[kF,kF,uy λi d u=>h i d U,h (o+n) U U]
theorem QP{a c k:Nat}(h:a<2^k):a|||c*2^k=a+c*2^k:=by grind[WV,Nat.two_pow_add_eq_or_of_lt]
def xU(m:Nat->Nat)(o:Nat)(v:Nat)(n:Nat):Nat->Nat:=λi=>if o<=i/\i<o+n then v/2^(8*(i-o)) %256 else m i
def xV(m:Nat->Nat)(o:Nat)(v:Nat):Nat->Nat:=xU m o v 8
theorem Fw{m:Nat->Nat}{o v:Nat}{k:Nat}:∀{n:Nat},n<=k->kF (xU m o v k) o n=v %2^(8*n)
  | 0,_=>by rw[kF];simp;omega
  | n+1,h=>by
   rw[kF,Fw U,xU,ax U,Nat.add_sub_cancel_left];have e:2^(8*(n+1))=2^(8*n)*256:=by rw[Nat.mul_add,Nat.pow_add]
   rw[e,Nat.mod_mul,WV (v/_ %256)]
theorem Px(m:Nat->Nat)(o:Nat){v:Nat}(hv:v<2^64):cV (xV m o v) o=v:=by rw[cV,xV,Fw (Nat.le_refl 8)];exact Nat.mod_eq_of_lt hv
variable{n:Nat}
theorem Pw{o d:Nat}{g:Nat->Nat}(h:d+8<=o\/o+n<=d):cV (λi=>if o<=i/\i<o+n then g i else m i) d=cV m d:=
  uy λi u w=>by rw[al U]
def hf(m:Nat->Nat)(o n:Nat):Nat->Nat:=λi=>if o<=i/\i<o+n then 0 else m i
theorem UB(h:oD m)(o n:Nat):oD (hf m o n):=λi=>by
  rw[hf];split
  · decide
  · exact h i
theorem UC(m:Nat->Nat)(o n:Nat):hf m o (n+1)=λi=>if i=o+n then 0 else hf m o n i:=by funext i;rw[hf,hf];grind
theorem UD(m:Nat->Nat)(o:Nat):hf m o 0=m:=funext λi=>by rw[hf,al U]
theorem Fx{m:Nat->Nat}{o:Nat}:∀{n:Nat},(∀i,o<=i->i<o+n->m i=0)->kF m o n=0
  | 0,_=>rfl
  | n+1,h=>by rw[kF,Fx λi d u=>h i d U,h (o+n) U U];simp
theorem w9{o d:Nat}(u:o<=d)(w:d+8<=o+n):cV (hf m o n) d=0:=
  Fx λi C D=>by rw[hf,ax U]
theorem At{o d:Nat}(h:d+8<=o\/o+n<=d):cV (hf m o n) d=cV m d:=Pw h
def h2(m:Nat->Nat)(n:Nat):List Value:=(List.range n).map λi=>.int .u8 (m i:Int)
theorem rq(m:Nat->Nat)(n:Nat):(h2 m n).length=n:=by simp[h2]
theorem v8(m:Nat->Nat){i:Nat}(h:i<n):(h2 m n)[i]? =some (m7 (m i:Int)):=by simp[h2,h]
theorem Dj(m:Nat->Nat){i:Nat}(h:i<n)(v:Nat):dC i [m7 v] (h2 m n)=h2 (λj=>if j=i then v else m j) n:=by have e:h2 (λj=>if j=i then v else m j) n=(h2 m n).set i (m7 v):=(by apply List.ext_getElem?;intro j;by_cases d:j<n;rw[v8 _ d,List.getElem?_set];by_cases e:i=j;subst e;rw[ax rfl,ax rfl,ax (by rw[rq];exact h)];rw[al (λh=>e h.symm),al e,v8 _ d];grind[rq]);rw[e,List.set_eq_take_append_cons_drop,ax (by rw[rq];exact h)];grind[dC]
theorem Di(m:Nat->Nat)(n:Nat):(h2 m n).all Value.oneCell'=true:=by rw[List.all_eq_true];intro v hv;obtain⟨i,_,rfl⟩:=List.mem_map.1 hv;trivial
end Go.QM
namespace Go.QM
open Go
def io(f:Nat->Bool)(k:Nat):Nat:=oo (λj=>f (64*k+j)) 64
variable(f:Nat->Bool)
theorem tM(k:Nat):io f k<2^64:=Cc _ 64
theorem rp(k j:Nat):(io f k).testBit j=(decide (j<64)&&f (64*k+j)):=IM _ 64 j
def k3(f:Nat->Bool)(w:Nat):List Value:=(VF w).map λk=>.int .u64 (io f k:Int)
theorem ro(w:Nat):(k3 f w).length=w:=by simp[k3]
theorem rn{w k:Nat}(h:k<w):(k3 f w)[k]? =some (bn (io f k:Int)):=by simp[k3,h]
theorem Kz(i:Nat):io f (i/64)/2^(i %64) %2=if f i=true then 1 else 0:=by have h:=rp f (i/64) (i %64);grind
def ff(f:Nat->Bool)(i:Nat):Nat->Bool:=λx=>if x=i then !f x else f x
theorem KA(i:Nat):io f (i/64)^^^2^(i %64)=io (ff f i) (i/64):=by apply Nat.eq_of_testBit_eq;intro j;rw[Yy,rp,rp,Nat.testBit_two_pow,ff];grind
theorem KB{i k:Nat}(h:k≠i/64):io (ff f i) k=io f k:=
  IN λj d=>by rw[ff,al U]
theorem Ky{i w:Nat}(h:i/64<w):dC (i/64) [bn ((io f (i/64)^^^2^(i %64):Nat):Int)] (k3 f w)=k3 (ff f i) w:=by have e:k3 (ff f i) w=(k3 f w).set (i/64) (bn ((io f (i/64)^^^2^(i %64):Nat):Int)):=(by apply List.ext_getElem?;intro j;by_cases d:j<w;rw[rn _ d,List.getElem?_set];by_cases e:i/64=j;subst e;rw[ax rfl,ax (by rw[ro];exact h),KA];rw[al e,rn _ d,KB f (Ne.symm e)];grind[ro]);rw[e,List.set_eq_take_append_cons_drop,ax (by rw[ro];exact h)];grind[dC]
def l3(on:Bool)(x:Nat):Nat:=if on=true then x else 2^64-1^^^x
theorem QA{on:Bool}{x:Nat}(h:x<2^64):l3 on x<2^64:=by rw[l3];split;trivial;exact Nat.xor_lt_two_pow am h
theorem Ba(on:Bool)(f:Nat->Bool)(k:Nat){j:Nat}(d:j<64):(l3 on (io f k)).testBit j=(f (64*k+j)==on):=by rw[l3];cases on with|true=>rw[ax rfl,rp,da d];cases f (64*k+j)<;>rfl|false=>rw[al am,Yy,Nat.testBit_two_pow_sub_one,rp,da d];cases f (64*k+j)<;>rfl
theorem zm{x s j:Nat}(hs:s<64)(d:j<64):(x/2^s*2^s %2^64).testBit j=(decide (s<=j)&&x.testBit j):=by rw[Nat.testBit_mod_two_pow,da d,Bool.true_and,WV,Nat.testBit_two_pow_mul];grind
theorem LJ{x:Nat}(d:x≠0)(h:x<2^64):XC 64 x<64/\x.testBit (XC 64 x)=true/\∀j,j<XC 64 x->x.testBit j=false:=by
 obtain⟨m,hm,u⟩:=Lib.ctzFrom_spec 64 x U h;have e:XC 64 x=Lib.ctzFrom 64 x:=by grind[XC]
 grind
def yx(f:Nat->Bool)(on:Bool)(n o i:Nat):Prop:=o<=i/\i<n/\f i=on/\∀j,o<=j->j<i->f j≠on
def tz(f:Nat->Bool)(on:Bool)(n o:Nat):Prop:=∀j,o<=j->j<n->f j≠on
theorem T9{f:Nat->Bool}{on:Bool}{k s:Nat}(hs:s<64)(h:l3 on (io f k)/2^s*2^s %2^64=0){j:Nat}(u:64*k+s<=j)(w:j<64*(k+1)):f j≠on:=λe=>by
  have d:=zm (x:=l3 on (io f k)) hs (show j-64*k<64 by omega)
  rw[h,Nat.zero_testBit,Ba on f k U,show 64*k+(j-64*k)=j by omega,da (by omega:s<=j-64*k),e]at d
  cases on<;>cases d
theorem T8{f:Nat->Bool}{on:Bool}{k s:Nat}(hs:s<64)(h:l3 on (io f k)/2^s*2^s %2^64≠0):
    ∃c,XC 64 (l3 on (io f k)/2^s*2^s %2^64)=c/\c<64/\s<=c/\f (64*k+c)=on/\∀j,64*k+s<=j->j<64*k+c->f j≠on:=by obtain⟨d,u,w⟩:=LJ h (X2 _ am);refine⟨_,rfl,d,?_⟩;generalize XC 64 (l3 on (io f k)/2^s*2^s %2^64)=c at d u w;rw[zm hs d,Ba on f k d]at u;have C:s<=c:=b4;rw[da C,Bool.true_and]at u;refine⟨C,by simpa using u,λj D E e=>?_⟩;have H:=w (j-64*k) U;grind[zm,Ba]
end Go.QM
namespace Go.QM
abbrev j5:=Nat->Nat->Bool
def k5(f:j5)(p:Nat):Nat->Nat
  | 0=>0
  | k+1=>k5 f p k+(f k (p/2^k)).toNat
def lp(f:j5)(k i:Nat)(v:Bool):j5:=λwT EM=>if wT=k/\EM=i then v else f wT EM
theorem tS(f:j5)(k i:Nat)(v:Bool)(p:Nat):∀n,k5 (lp f k i v) p n+(if k<n/\p/2^k=i then(f k i).toNat else 0)=k5 f p n+(if k<n/\p/2^k=i then v.toNat else 0)
  | 0=>by simp[k5]
  | n+1=>by have w:=tS f k i v p n;rw[k5,k5,lp];by_cases e:n=k;subst e;rw[al U,al U]at w;by_cases d:p/2^n=i;rw[ax ⟨rfl,d⟩,ax ⟨by omega,d⟩,ax ⟨by omega,d⟩,d];omega;rw[al (λh=>d h.2),al (λh=>d h.2),al (λh=>d h.2)];omega;rw[al (λh=>e h.1)];by_cases d:p/2^k=i;by_cases u:k<n;rw[ax ⟨u,d⟩,ax ⟨u,d⟩]at w;rw[ax ⟨by omega,d⟩,ax ⟨by omega,d⟩];omega;rw[al (λh=>u h.1),al (λh=>u h.1)]at w;rw[al (λh=>u U),al (λh=>u U)];omega;rw[al (λh=>d h.2),al (λh=>d h.2)]at w;rw[al (λh=>d h.2),al (λh=>d h.2)];omega
theorem wi{f:j5}{p k:Nat}:∀{n:Nat},k5 f p n=0->k<n->f k (p/2^k)=false
  | 0,_,h=>by omega
  | n+1,h,d=>by
   rw[k5]at h;by_cases e:k=n;subst e;cases aA:f k (p/2^k)with|false=>rfl|true=>rw[aA]at h;simp at h
   exact wi (n:=n) U U
theorem zl{f:j5}{p:Nat}:∀{n:Nat},(∀k,k<n->f k (p/2^k)=false)->k5 f p n=0
  | 0,_=>rfl
  | n+1,h=>by rw[k5,zl λk d=>h k U,h n U];rfl
variable{f:j5}{k:Nat}
theorem DD{p:Nat}{n:Nat}(h:f k (p/2^k)=true)(d:k<n):k5 f p n≠0:=λe=>by
  rw[wi e d]at h;cases h
theorem tW(p k:Nat):p/2^(k+1)=p/2^k/2:=by rw[Yh,Nat.div_div_eq_div_mul]
theorem xh(i k:Nat):i*2^k/2^k=i:=Nat.mul_div_cancel i (Xk k)
variable{top i:Nat}
theorem FG(u:k<=top)(d:i<2^(top-k)):i*2^k<2^top:=by
 have e:2^top=2^(top-k)*2^k:=by rw[<-Nat.pow_add];congr 1;omega
 rw[e];exact Yz d (Xk k)
theorem wK(d:k<top):2^(top-k)=2*2^(top-(k+1)):=by rw[show top-k=(top-(k+1))+1 by omega,Yh,WV]
structure ma(f:j5)(top:Nat)(cl:List Nat):Prop where
  bd:∀k i,f k i=true->k<=top/\i<2^(top-k)
  au:∀p,p<2^top->k5 f p (top+1)=if p∈cl then 0 else 1
  bA:cl.Nodup
  lt:∀p∈cl,p<2^top
structure kq(f:j5)(top:Nat)(cl:List Nat)(k i:Nat):Prop where
  hR:k<=top
  it:i<2^(top-k)
  bd:∀k i,f k i=true->k<=top/\i<2^(top-k)
  au:∀p,p<2^top->k5 f p (top+1)=if p∈cl\/p/2^k=i then 0 else 1
  bA:cl.Nodup
  lt:∀p∈cl,p<2^top
  uK:∀p,p/2^k=i->p∉cl
theorem sw(bd:∀k i,f k i=true->k<=top/\i<2^(top-k)){k i:Nat}{v:Bool}(h:v=true->k<=top/\i<2^(top-k)):
    ∀d w,lp f k i v d w=true->d<=top/\w<2^(top-d):=λd w u=>by
  rw[lp]at u
  split at u
  · rename_i e;obtain⟨rfl,rfl⟩:=e;exact h u
  · exact bd d w u
theorem vc{l m:List Nat}(an:l.Nodup)(h:∀x∈l,x∈m):l.length<=m.length:=by induction l generalizing m with|nil=>exact Vl _|cons x l D=>obtain⟨w,C⟩:=Vy.1 an;have d:x∈m:=h x cG;have:=D (m:=m.erase x) C λy u=>(List.mem_erase_of_ne (λe:y=x=>w (e▸u))).2 (h y (by simp[u]));rw[List.length_erase_of_mem d]at this;have:=List.length_pos_of_mem d;rw[VC];omega
variable{cl:List Nat}
theorem ma.none(h:ma f top cl)(an:∀k,k<=top->∀i,i<2^(top-k)->f k i=false):2^top<=cl.length:=by have:=vc (l:=VF (2^top)) (m:=cl) List.nodup_range λp d=>(by have d:=Xs.1 d;have u:=h.au p d;rw[zl λk w=>?_]at u;simp_all;cases aA:f k (p/2^k)with|false=>rfl|true=>obtain⟨a,b⟩:=h.bd _ _ aA;rw[an k a _ b]at aA;cases aA);simp_all
theorem ma.take(h:ma f top cl)(aA:f k i=true):kq (lp f k i false) top cl k i:=by obtain⟨a,b⟩:=h.bd _ _ aA;have key:∀p,p<2^top->p/2^k=i->p∉cl/\k5 f p (top+1)=1:=λp u e=>(by have d:=h.au p u;by_cases w:p∈cl;rw[ax w]at d;exact absurd d (DD (k:=k) (by rw[e];exact aA) U);simp_all);refine⟨a,b,sw h.bd (λh=>by cases h),λp u=>?_,h.bA,h.lt,λp e hu=>(key p (h.lt p hu) e).1 hu⟩;have d:=tS f k i false p (top+1);by_cases e:p/2^k=i;grind;rw[al (λh=>e h.2),al (λh=>e h.2),h.au p u]at d;simp_all
theorem kq.split(h:kq f top cl (k+1) i):f k (2*i+1)=false/\kq (lp f k (2*i+1) true) top cl k (2*i):=by have H:=h.hR;have E:=h.it;have N:=wK (k:=k) (top:=top) U;have C:(2*i+1)*2^k<2^top:=FG U U;have u:f k (2*i+1)=false:=(by have d:=h.au _ C;(have e:(2*i+1)*2^k/2^(k+1)=i:=by grind[tW,xh]);rw[ax (.inr e)]at d;grind[wi,xh]);refine⟨u,by omega,by omega,sw h.bd λ_=>by omega,λp D=>?_,h.bA,h.lt,λp e=>h.uK p (by rw[tW,e];omega)⟩;have d:=tS f k (2*i+1) true p (top+1);have w:=h.au p D;rw[tW]at w;rw[u]at d;by_cases e:p/2^k=2*i+1;have hu:p∉cl:=h.uK p (by rw[tW,e];omega);grind;grind
theorem kq.done(h:kq f top cl 0 i):i<2^top/\i∉cl/\ma f top (i::cl):=by have u:i<2^top:=h.it;have an:i∉cl:=h.uK i cG;refine⟨u,an,h.bd,λp d=>?_,Vy.2 ⟨an,h.bA⟩,λp d=>?_⟩;rw[h.au p d];grind;rcases Vt.1 d with rfl|d;trivial;exact h.lt p d
theorem ma.Nv(h:ma f top cl){d:Nat}(hm:d∈cl):kq f top (cl.erase d) 0 d:=by refine⟨Vl _,h.lt d hm,h.bd,λp u=>?_,h.bA.erase _,λp u=>h.lt p (List.mem_of_mem_erase u),λp e=>?_⟩;rw[h.au p u];grind;simp only[Nat.pow_zero,Nat.div_one]at e;subst e;exact λw=>(List.Nodup.mem_erase_iff h.bA).1 w|>.1 rfl
theorem IW(i:Nat):(i^^^1)/2=i/2:=by rw[Nat.xor_div_two];simp
theorem Un(i:Nat):(i^^^1)≠i:=λh=>by
  have d:=congrArg (λx=>x.testBit 0) h
  simp only[Yy]at d
  cases u:i.testBit 0<;>rw[u]at d<;>simp at d
theorem kq.merge(h:kq f top cl k i)(C:k<top)(aA:f k (i^^^1)=true):kq (lp f k (i^^^1) false) top cl (k+1) (i/2):=by have u:=wK C;have N:=h.it;obtain⟨E,H⟩:=h.bd _ _ aA;have w:∀p,p/2^(k+1)=i/2↔p/2^k=i\/p/2^k=i^^^1:=λp=>(by grind[tW,IW,Un]);have key:∀p,p<2^top->p/2^k=i^^^1->p∉cl/\k5 f p (top+1)=1:=λp u e=>(by have d:=h.au p u;(have O:k5 f p (top+1)≠0:=by grind[DD]);simp_all);refine⟨by omega,by omega,sw h.bd (λh=>by cases h),λp D=>?_,h.bA,h.lt,λp e hu=>?_⟩;have d:=tS f k (i^^^1) false p (top+1);by_cases e:p/2^k=i^^^1;grind;rw[al (λh=>e h.2),al (λh=>e h.2),h.au p D]at d;simp_all;rcases(w p).1 e with e|e;exact h.uK p e hu;exact(key p (h.lt p hu) e).1 hu
theorem kq.fill(h:kq f top cl k i):f k i=false/\ma (lp f k i true) top cl:=by have C:=h.hR;have w:f k i=false:=(by have d:=h.au _ (FG h.hR h.it);rw[ax (.inr (xh i k))]at d;grind[wi,xh]);refine⟨w,sw h.bd λ_=>⟨h.hR,h.it⟩,λp u=>?_,h.bA,h.lt⟩;have d:=tS f k i true p (top+1);rw[w]at d;by_cases e:p/2^k=i;rw[ax ⟨by omega,e⟩,ax ⟨by omega,e⟩,h.au p u,ax (.inr e)]at d;rw[al (h.uK p e)];simpa using d;rw[al (λh=>e h.2),al (λh=>e h.2),h.au p u]at d;simp_all
def t8(top:Nat):j5:=λk i=>decide (k=top/\i=0)
theorem ma.init(top:Nat):ma (t8 top) top []:=by have u:=(kq.fill (f:=λ_ _=>false) (top:=top) (cl:=[]) (k:=top) (i:=0) ⟨Vm _,Xk _,λ_ _ h=>(by cases h),λp d=>(by rw[zl λ_ _=>rfl,ax (.inr (Nat.div_eq_of_lt d))]),List.nodup_nil,λ_ h=>(by cases h),λ_ _ h=>(by cases h)⟩).2;trivial
end Go.QM
namespace Go.QM
def k4(f:Nat->Bool):Nat->Nat
  | 0=>0
  | n+1=>k4 f n+(f n).toNat
theorem zi{f g:Nat->Bool}:∀{n:Nat},(∀i,i<n->f i=g i)->k4 f n=k4 g n
  | 0,_=>rfl
  | n+1,h=>by rw[k4,k4,zi λi d=>h i U,h n U]
theorem wh{f:Nat->Bool}{i:Nat}:∀{n:Nat},f i=false->i<n->k4 (ff f i) n=k4 f n+1
  | 0,_,h=>by omega
  | n+1,aA,h=>by rw[k4,k4];by_cases e:i=n;subst e;rw[zi (f:=ff f i) (g:=f) λj d=>by rw[ff,al U],ff,ax rfl,aA];rfl;rw[wh aA U,ff,al (λh=>e h.symm)];omega
theorem Nf(f:Nat->Bool)(i:Nat):ff (ff f i) i=f:=by funext j;rw[ff];split;rename_i h;subst h;rw[ff,ax rfl,Bool.not_not];rename_i h;rw[ff,al h]
theorem zG(f:Nat->Bool)(i:Nat):ff f i i=!f i:=ax rfl
variable{i:Nat}
theorem Dz{f:Nat->Bool}{n:Nat}(aA:f i=true)(h:i<n):k4 (ff f i) n+1=k4 f n:=by grind[wh,zG,Nf]
theorem zj{f:Nat->Bool}:∀{n:Nat},k4 f n=0↔∀i,i<n->f i=false
  | 0=>⟨λ_ i h=>by omega,λ_=>rfl⟩
  | n+1=>by
   rw[k4,Nat.add_eq_zero_iff,zj];constructor;rintro⟨u,d⟩ i w;by_cases e:i=n
   subst e;cases aA:f i with
   | false=>rfl
   | true=>rw[aA]at d;cases d
   exact u i U;exact λh=>⟨λi w=>h i U,by rw[h n U];rfl⟩
theorem Lo{n:Nat}(h:0<n):k4 (λj=>decide (j=0)) n=1:=by have:=wh (f:=λ_=>false) (i:=0) (n:=n) rfl h;grind[zj,zi,ff]
structure cj where
  aD:Nat
  f:Nat->Bool
def gQ(many:Nat):List cj->Nat
  | []=>0
  | p::L=>k4 p.f many+gQ many L
theorem p6(many:Nat):∀L M:List cj,gQ many (L++M)=gQ many L+gQ many M
  | [],M=>by simp[gQ]
  | p::L,M=>by rw[V4,gQ,gQ,p6 many L M];omega
def wD(many:Nat)(p:cj):Prop:=∀i,i<many->p.f i=true
def vF(many:Nat)(L:List cj)(q:Nat):Prop:=∀p∈L,p.aD≠q->wD many p
structure ow(many:Nat)(L:List cj):Prop where
  kl:L.Pairwise λa b=>a.aD<b.aD
  bd:∀p∈L,∀i,p.f i=true->i<many
inductive lA(many:Nat)(L L':List cj)(aD i:Nat):Prop
  | old (A B:List cj) (f:Nat->Bool) (gA:L=A++⟨aD,f⟩::B) (gB:L'=A++⟨aD,ff f i⟩::B) (gC:f i=false) (h6:i<many)
  | new (A B:List cj) (gA:L=A++B) (gB:L'=A++⟨aD,λj=>decide (j=0)⟩::B) (gC:i=0) (h6:∀p∈L,wD many p) (U2:∀p∈A,p.aD<aD) (U3:∀p∈B,aD<p.aD)
theorem GU{A B:List cj}{p q:cj}(h:(A++p::B).Pairwise λa b=>a.aD<b.aD)(e:p.aD=q.aD):(A++q::B).Pairwise λa b=>a.aD<b.aD:=by grind[XY]
theorem Rf{A B:List cj}{p:cj}(h:(A++p::B).Pairwise λa b=>a.aD<b.aD):(A++B).Pairwise (λa b=>a.aD<b.aD)/\∀a∈A++B,a.aD≠p.aD:=by grind[XY]
theorem Rg{A B:List cj}{p:cj}(h:(A++B).Pairwise λa b=>a.aD<b.aD)(d:∀a∈A,a.aD<p.aD)(aR:∀b∈B,p.aD<b.aD):(A++p::B).Pairwise λa b=>a.aD<b.aD:=by grind[XY]
variable{L:List cj}{many aD:Nat}{L':List cj}
theorem lA.inv(g:lA many L L' aD i)(h:ow many L)(hm:0<many):ow many L':=by cases g with|old A B f w C D E=>subst w;subst C;refine⟨GU h.kl rfl,λp d j u=>?_⟩;rcases Vg.1 d with d|d;exact h.bd p (by simp[d]) j u;rcases Vt.1 d with rfl|d;dsimp only[ff]at u;split at u;omega;exact h.bd ⟨aD,f⟩ cG j u;exact h.bd p (by simp[d]) j u|new A B w C D E H N=>subst w;subst C;refine⟨Rg h.kl H N,λp d j u=>?_⟩;rcases Vg.1 d with d|d;exact h.bd p (by simp[d]) j u;rcases Vt.1 d with rfl|d;have:=dz u;omega;exact h.bd p (by simp[d]) j u
theorem lA.used(g:lA many L L' aD i)(hm:0<many):gQ many L'=gQ many L+1:=by cases g with|old A B f d u w C=>subst d;subst u;have:=wh w C;rw[p6,p6,gQ,gQ];dsimp only;omega|new A B d u w C D E=>subst d;subst u;have:=Lo hm;rw[p6,p6,gQ];dsimp only;omega
theorem lA.one{q:Nat}(g:lA many L L' aD i)(h:ow many L)(E:vF many L q):vF many L' aD:=by cases g with|old A B f C D H w=>subst C;subst D;have N:aD=q:=(by by_cases e:aD=q;exact e;have:=E ⟨aD,f⟩ cG e i w;dsimp only at this;rw[H]at this;cases this);subst N;intro p d u;rcases Vg.1 d with d|d;exact E p (by simp[d]) u;rcases Vt.1 d with rfl|d;exact absurd rfl u;exact E p (by simp[d]) u|new A B C D H w O P=>subst C;subst D;intro p d u;rcases Vg.1 d with d|d;exact w p (by simp[d]);rcases Vt.1 d with rfl|d;exact absurd rfl u;exact w p (by simp[d])
inductive mN(many:Nat)(L L':List cj)(aD i:Nat):Prop
  | stay (A B:List cj) (f:Nat->Bool) (gA:L=A++⟨aD,f⟩::B) (gB:L'=A++⟨aD,ff f i⟩::B) (gC:f i=true)
  | gone (A B:List cj) (f:Nat->Bool) (gA:L=A++⟨aD,f⟩::B) (gB:L'=A++B) (gC:f i=true) (h6:∀j,j<many->j≠i->f j=false)
theorem mN.inv(g:mN many L L' aD i)(h:ow many L):ow many L':=by cases g with|stay A B f w C D=>subst w;subst C;refine⟨GU h.kl rfl,λp d j u=>?_⟩;rcases Vg.1 d with d|d;exact h.bd p (by simp[d]) j u;rcases Vt.1 d with rfl|d;dsimp only[ff]at u;split at u;rename_i e;subst e;rw[D]at u;cases u;exact h.bd ⟨aD,f⟩ cG j u;exact h.bd p (by simp[d]) j u|gone A B f w C D E=>subst w;subst C;exact⟨(Rf h.kl).1,λp d=>h.bd p (by rcases Vg.1 d with d|d<;>simp[d])⟩
theorem mN.used(g:mN many L L' aD i)(h:ow many L):gQ many L'+1=gQ many L:=by cases g with|stay A B f u w d=>subst u;subst w;have:=Dz d (h.bd ⟨aD,f⟩ cG i d);rw[p6,p6,gQ,gQ];dsimp only;omega|gone A B f u w d C=>subst u;subst w;have D:=h.bd ⟨aD,f⟩ cG i d;have:=Dz (n:=many) d D;have H:k4 (ff f i) many=0:=zj.2 λj E=>(by rw[ff];split;rename_i e;subst e;rw[d];rfl;rename_i e;exact C j E e);rw[p6,p6,gQ];dsimp only;omega
theorem mN.one(g:mN many L L' aD i)(D:vF many L aD):vF many L' aD:=by cases g with|stay A B f w C E=>subst w;subst C;intro p d u;rcases Vg.1 d with d|d;exact D p (by simp[d]) u;rcases Vt.1 d with rfl|d;exact absurd rfl u;exact D p (by simp[d]) u|gone A B f w C E H=>subst w;subst C;intro p d u;exact D p (by rcases Vg.1 d with d|d<;>simp[d]) u
def fe(sz:Nat)(L:List cj)(a:Nat):Prop:=∃p∈L,∃i,p.f i=true/\a=p.aD*1024+64+i*sz
theorem fe.at{sz a:Nat}(h:fe sz L a):∃(k aD i:Nat) (f:Nat->Bool),L[k]? =some ⟨aD,f⟩/\f i=true/\a=aD*1024+64+i*sz:=by obtain⟨⟨aD,f⟩,C,i,d,u⟩:=h;obtain⟨k,w⟩:=List.getElem?_of_mem C;exact⟨k,aD,i,f,w,d,u⟩
theorem lA.jN{sz:Nat}(g:lA many L L' aD i)(hs:0<sz)(a:Nat):fe sz L' a↔fe sz L a\/a=aD*1024+64+i*sz:=by cases g with|old A B f D E w H=>subst D;subst E;constructor;rintro⟨p,d,j,u,e⟩;rcases Vg.1 d with d|d;exact .inl ⟨p,by simp[d],j,u,e⟩;rcases Vt.1 d with rfl|d;dsimp only[ff]at u e;split at u;rename_i C;subst C;exact .inr e;exact .inl ⟨⟨aD,f⟩,by simp,j,u,e⟩;exact .inl ⟨p,by simp[d],j,u,e⟩;rintro(⟨p,d,j,u,e⟩|e);rcases Vg.1 d with d|d;exact⟨p,by simp[d],j,u,e⟩;rcases Vt.1 d with rfl|d;refine⟨⟨aD,ff f i⟩,by simp,j,?_,e⟩;dsimp only[ff]at u⊢;rw[al (λC=>by subst C;rw[w]at u;cases u)];exact u;exact⟨p,by simp[d],j,u,e⟩;exact⟨⟨aD,ff f i⟩,by simp,i,by dsimp only;rw[zG,w];rfl,e⟩|new A B D E w H N O=>subst D;subst E;subst w;constructor;rintro⟨p,d,j,u,e⟩;rcases Vg.1 d with d|d;exact .inl ⟨p,by simp[d],j,u,e⟩;rcases Vt.1 d with rfl|d;have:=dz u;subst this;exact .inr e;exact .inl ⟨p,by simp[d],j,u,e⟩;rintro(⟨p,d,j,u,e⟩|e);exact⟨p,by rcases Vg.1 d with d|d<;>simp[d],j,u,e⟩;exact⟨⟨aD,λj=>decide (j=0)⟩,by simp,0,show decide ((0:Nat)=0)=true from rfl,e⟩
theorem mN.jN{sz:Nat}(g:mN many L L' aD i)(h:ow many L)(hs:0<sz){a:Nat}(O:fe sz L a)(E:a≠aD*1024+64+i*sz):fe sz L' a:=by obtain⟨p,d,j,u,e⟩:=O;cases g with|stay A B f C D H=>subst C;subst D;rcases Vg.1 d with d|d;exact⟨p,by simp[d],j,u,e⟩;rcases Vt.1 d with rfl|d;refine⟨⟨aD,ff f i⟩,by simp,j,?_,e⟩;dsimp only[ff]at u⊢;rw[al (λw=>by subst w;exact E e)];exact u;exact⟨p,by simp[d],j,u,e⟩|gone A B f C D H N=>subst C;subst D;rcases Vg.1 d with d|d;exact⟨p,by simp[d],j,u,e⟩;rcases Vt.1 d with rfl|d;by_cases w:j=i;subst w;exact absurd e E;have:=N j (h.bd _ cG j u) w;dsimp only at u;rw[this]at u;cases u;exact⟨p,by simp[d],j,u,e⟩
end Go.QM
namespace Go.QM
open Go
variable{a:Nat}
theorem sy(h:a<2^64):(VY 64 (a:Int)).toNat=a:=by simp_all
theorem oX(h:a<2^63):IntKind.i64.wrap (a:Int)=(a:Int):=nK U U
theorem p7(h:a<2^64):IntKind.u64.wrap (a:Int)=(a:Int):=yf U U
theorem TV(a:Nat):IntKind.u8.wrap (a:Int)=((a %256:Nat):Int):=by simp[IntKind.wrap,IntKind.signed,IntKind.bits]
theorem J9{b:Nat}(u:a<2^63)(d:b<2^63):IntKind.i64.wrap (VY IntKind.i64.bits (a:Int)&&&VY IntKind.i64.bits (b:Int)).toNat=((a&&&b:Nat):Int):=by rw[BitVec.toNat_and,show IntKind.i64.bits=64 from rfl,sy U,sy U];exact oX (Nat.and_lt_two_pow _ d)
theorem QQ{b:Nat}(d:a<2^63)(u:b<2^63):IntKind.i64.wrap (VY IntKind.i64.bits (a:Int)|||VY IntKind.i64.bits (b:Int)).toNat=((a|||b:Nat):Int):=by rw[BitVec.toNat_or,show IntKind.i64.bits=64 from rfl,sy U,sy U];exact oX (Nat.or_lt_two_pow d u)
theorem Ur{b:Nat}(d:a<2^63)(u:b<2^63):IntKind.i64.wrap (VY IntKind.i64.bits (a:Int)^^^VY IntKind.i64.bits (b:Int)).toNat=((a^^^b:Nat):Int):=by rw[BitVec.toNat_xor,show IntKind.i64.bits=64 from rfl,sy U,sy U];exact oX (Nat.xor_lt_two_pow d u)
section
variable {P : Program} {ah : Env} {A : av} {d : Option Nat} {ty : TypeId} {ps : String} {bl : Array Edge} {g : Option (Nat × Bool)} {t t' : TypeId} {x y : Operand} {a b c n : Nat}
theorem bF.to{o:Oper}{k:IntKind}{u v:Int}(h:bF P ah o A (.int k u))(e:u=v):bF P ah o A (.int k v):=by rwa[e]at h
theorem PR{u v:Int}{N:Array TypeId}(D:bf ah x=aa u)(E:bf ah y=aa v):
    bF P ah ⟨d,.call ⟨.builtin .max,#[x,y],N⟩,ty,ps,bl,g⟩ A (aa (max u v)):=
  λw _=>by
   by_cases h:u<=v;by_cases H:u=v;subst H;simp[execOp,resolve,invoke,builtin,YO,YP,D,E];have C:u<v:=U
   simp[execOp,resolve,invoke,builtin,YO,YP,D,E,C,Int.max_eq_right h];have C:¬u<v:=U
   simp[execOp,resolve,invoke,builtin,YO,YP,D,E,C,Int.max_eq_left (by omega:v<=u)]
theorem rl(D:bf ah x=aa a)(E:bf ah y=aa b)(u:a<2^63)(w:b<2^63)(C:a&&&b=c):
    bF P ah ⟨d,.binOp .and t x y t',ty,ps,bl,g⟩ A (aa c):=by subst C;exact vP D E (J9 u w)
theorem s0(D:bf ah x=aa a)(E:bf ah y=aa b)(u:a<2^63)(w:b<2^63)(C:a|||b=c):
    bF P ah ⟨d,.binOp .or t x y t',ty,ps,bl,g⟩ A (aa c):=by subst C;exact Bb D E (QQ u w)
theorem Uo(E:bf ah x=aa a)(H:bf ah y=aa b)(u:a<2^63)(C:b<2^63)(D:a^^^b=c):
    bF P ah ⟨d,.binOp .xor t x y t',ty,ps,bl,g⟩ A (aa c):=λw _=>by
  have h:=Ur u C
  rw[D]at h
  simp[execOp,E,H,eqGuard,binOp,Op.intBits]
  simpa using h
theorem nD{E:IntKind}(C:bf ah x=aa a)(D:bf ah y=.int E (n:Int))(an:n<=64)(u:a*2^n=c)(w:c<2^63):
    bF P ah ⟨d,.binOp .shl t x y t',ty,ps,bl,g⟩ A (aa c):=
  BG C D U (by
   subst u;rw[show min ((n:Int)).toNat IntKind.i64.bits=n from Xe an];have e:(a:Int)*2^n=((a*2^n:Nat):Int):=cG
   rw[e];exact oX w)
theorem jP{E:IntKind}(C:bf ah x=bn a)(D:bf ah y=.int E (n:Int))(u:a<2^64)(w:a/2^n=c):
    bF P ah ⟨d,.binOp .shr t x y t',ty,ps,bl,g⟩ A (bn c):=by subst w;exact Ss C D u
theorem k2(D:bf ah x=bn a)(E:bf ah y=bn b)(u:a<2^64)(w:b<2^64)(C:a&&&b=c):
    bF P ah ⟨d,.binOp .and t x y t',ty,ps,bl,g⟩ A (bn c):=by subst C;exact CZ D E u w
theorem pQ(D:bf ah x=bn a)(E:bf ah y=bn b)(u:a<2^64)(w:b<2^64)(C:a|||b=c):
    bF P ah ⟨d,.binOp .or t x y t',ty,ps,bl,g⟩ A (bn c):=by subst C;exact QO D E u w
theorem Uq(D:bf ah x=bn a)(E:bf ah y=bn b)(u:a<2^64)(w:b<2^64)(C:a^^^b=c):
    bF P ah ⟨d,.binOp .xor t x y t',ty,ps,bl,g⟩ A (bn c):=by subst C;exact Up D E u w
theorem mQ(w:bf ah x=bn a)(C:bf ah y=bn b)(u:a+b=c)(h:c<2^64):
    bF P ah ⟨d,.binOp .add t x y t',ty,ps,bl,g⟩ A (bn c):=
  add w C (by subst u;rw[show(a:Int)+(b:Int)=((a+b:Nat):Int)by simp];exact p7 h)
theorem Qe(w:bf ah x=bn a)(C:bf ah y=bn b)(u:a*b %2^64=c):
    bF P ah ⟨d,.binOp .mul t x y t',ty,ps,bl,g⟩ A (bn c):=
  mul w C (by subst u;rw[show(a:Int)*(b:Int)=((a*b:Nat):Int)by simp,IntKind.wrap_u64];simp)
theorem u5{D:IntKind}(w:bf ah x=bn a)(C:bf ah y=.int D (n:Int))(an:n<=64)(u:a*2^n %2^64=c):
    bF P ah ⟨d,.binOp .shl t x y t',ty,ps,bl,g⟩ A (bn c):=by subst u;exact Hx w C an
theorem Ql(u:bf ah x=bn a)(w:a≠0)(h:a<2^64):
    bF P ah ⟨d,.unOp .neg t x,ty,ps,bl,g⟩ A (bn ((2^64-a:Nat):Int)):=
  neg u mu
end
end Go.QM
namespace Go.QM
open Go
theorem Py{m:Nat->Nat}(h:oD m)(o:Nat){k:Nat}(D:k<8):kF m o k|||(m (o+k)*2^(8*k) %2^64)=kF m o (k+1):=by have d:=w8 h o k;have u:=h (o+k);have w:m (o+k)*2^(8*k)<2^64:=(by(have e:(2:Nat)^64=2^(64-8*k)*2^(8*k):=by rw[<-Nat.pow_add];congr 1;omega);rw[e];have C:2^8<=2^(64-8*k):=Vk am U;exact Yz (Xo u C) (Xk _));rw[Nat.mod_eq_of_lt w,QP d,kF]
def j2(m:Nat->Nat)(o:Nat)(L:List Nat)(k:Nat):Nat->Nat:=λi=>if o<=i/\i<o+k then L.getD ((i-o)/8) 0/2^(8*((i-o) %8)) %256 else m i
def dB(m:Nat->Nat)(o:Nat)(L:List Nat):Nat->Nat:=j2 m o L (8*L.length)
theorem SY(m:Nat->Nat)(o:Nat)(L:List Nat):j2 m o L 0=m:=funext λi=>by rw[j2,al U]
theorem SX(m:Nat->Nat)(o:Nat)(L:List Nat)(k:Nat):j2 m o L (k+1)=λi=>if i=o+k then L.getD (k/8) 0/2^(8*(k %8)) %256 else j2 m o L k i:=by funext i;rw[j2,j2];grind
theorem SW{m:Nat->Nat}(h:oD m)(o:Nat)(L:List Nat)(k:Nat):oD (j2 m o L k):=λi=>by
  rw[j2];split
  · exact X2 _ am
  · exact h i
theorem HM{m:Nat->Nat}{o d:Nat}{L:List Nat}(h:d+8<=o\/o+8*L.length<=d):cV (dB m o L) d=cV m d:=
  uy λi u w=>by rw[dB,j2,al U]
theorem BM{m:Nat->Nat}{o j v:Nat}{L:List Nat}(d:L[j]? =some v)(hv:v<2^64):cV (dB m o L) (o+8*j)=v:=by have C:=(List.getElem?_eq_some_iff.1 d).1;have e:cV (dB m o L) (o+8*j)=cV (xV m (o+8*j) v) (o+8*j):=uy λi u w=>(by rw[dB,j2,ax U,xV,xU,ax U];grind);grind[Px]
section
variable {r : Option Nat} {P : Program} {N : Nat} {ops : Array Oper} {l : List Oper} {Q : fk} {ah : Env} {aQ : List Deferred} {A : av} {K : Value → av → Prop}
variable {d : Option Tmp} {ty : TypeId} {ps : String} {bl : Array Edge} {g : Option (Nat × Bool)}
variable {t t' : TypeId} {x y z : Operand}
theorem SC(E sz:Nat){u off n cap i j:Nat}(w:hd P t E sz=true)(C:bf ah x=.slice (some ⟨u,off,none⟩) n cap)(D:bf ah y=aa i)(H:bf ah z=aa j)(N:i<=j)(O:j<=cap)(Q:i<cap):
    bF P ah ⟨d,.slice t x (some y) (some z) none,ty,ps,bl,g⟩ A (.slice (some ⟨u,off+i*sz,none⟩) (j-i) (cap-i)):=by have h:=xQ (P:=P) (A:=A) (d:=d) (ty:=ty) (ps:=ps) (bl:=bl) (g:=g) E sz w C D H U U U;have e:dN (some (⟨u,off,none⟩:Addr)) cap (i:Int).toNat sz=some ⟨u,off+i*sz,none⟩:=(by rw[dN,al U];simp[iC]);simp_all
theorem PZ{hs:List av}{E n:Nat}{z:Value}(bytes:Nat)(N:hd P t E 1=true)(O:ru P E 1 bytes=true)(aQ:ly P E=some z)(aW:z.cells=#[z])(W:bf ah x=aa n)(Z:bf ah y=aa n)(au:bytes*n<=281474976710656)(hm:n<=maxLen)
    (k:∀b,K (.slice (cJ b) n n) (ag (aj b E (Vw n z)::hs))):cn r P ah ⟨d,.makeSlice t x y,ty,ps,bl,g⟩ (ag hs) K:=by
 obtain⟨inf,u,H,an,aL,aB,a0⟩:=tZ O;have ar:u=z:=by grind[ly]
 subst ar;have aH:maxLen=9223372036854775807:=rfl;have hw:IntKind.i64.wrap (n:Int)=n:=by grind[nK]
 have D:((Array.range n).map ((if n=0 then #[]else u.cells)[· %(if n=0 then(#[]:Array Value)else u.cells).size]!))=(Vw n u).toArray:=cr;have az:((inf.bytes:Int)*(n:Int))<=281474976710656:=cr;have V:(decide ((n:Int)<0)||decide ((inf.bytes:Int)*(n:Int)>2^48))=false:=b4;refine cn.run rfl λw Q=>⟨.slice (cJ w.heap.size) n n,w.alloc (.cells (Vw n u).toArray E),_,.inl ?_,⟨rfl,rfl,rfl,by simp⟩,oU _ Q,k w.heap.size⟩;have aq:∀w,(zeroValue E).run P w=.ok u w:=λw=>by simp[zeroValue,typeInfo,H,an]
 simp only[execOp,Instr.makeSlice,VA,hX N,Vs,W,Z,asInt,asIntOf,VV,typeInfo,run_program,H,hw,V];rw[al cG];simp only[VA,run_askRoom,hX N,Vs,Int.toNat_natCast,WB];by_cases C:n=0;rw[ax C];simp only[ax C]at D;simp only[VA,Vs,VV,D,newRow,run_newObj];trivial;rw[al C];simp only[al C]at D;simp only[VA,Vs,VV,aq,D,newRow,run_newObj];trivial
end
theorem KO(n:Nat):h2 (λ_=>0) n=Vw n (m7 0):=by rw[h2,List.eq_replicate_iff];simp_all
theorem yA(b E o k:Nat)(l:List Value):cN (aj b E l) E (some ⟨b,o,none⟩) ((l.drop o).take k):=λh d=>by
  by_cases u:o<=l.length
  · refine .inr ⟨⟨b,o,none⟩,l.take o,(l.drop o).drop k,(0,0),rfl,by simp[Xe u],?_⟩
    have e:l.take o++(l.drop o).take k++(l.drop o).drop k=l:=by rw[List.append_assoc,V6,V6]
    rw[d,e];simp
  · left;rw[List.drop_eq_nil_of_le U];simp
end Go.QM
namespace Go.QM
open Go
def dE:List Nat->Nat
  | []=>0
  | a::l=>a+256*dE l
theorem yN{a b c d:Nat}(E:a<256)(H:c<256):(a+256*b)&&&(c+256*d)=(a&&&c)+256*(b&&&d):=by
 have u:(a+256*b)&&&(c+256*d)=((a+256*b)&&&(c+256*d)) %2^8+2^8*(((a+256*b)&&&(c+256*d))/2^8):=U
 rw[u,Nat.and_mod_two_pow,Nat.and_div_two_pow];have w:(a+256*b) %2^8=a:=U
 have C:(c+256*d) %2^8=c:=U
 have D:(a+256*b)/2^8=b:=U
 grind
def nd(x:Nat):Nat->List Nat
  | 0=>[]
  | n+1=>x %256::nd (x/256) n
theorem y4:∀{n x:Nat},x<256^n->dE (nd x n)=x
  | 0,x,h=>by(have:x=0:=by simpa using h);subst this;rfl
  | n+1,x,h=>by
   have:x/256<256^n:=by rw[Yh]at h;exact Nat.div_lt_of_lt_mul U
   rw[nd,dE,y4 this];omega
theorem y2:∀(n x:Nat),(nd x n).length=n
  | 0,_=>rfl
  | n+1,x=>by rw[nd,VC,y2 n]
theorem y3:∀(n x:Nat),∀a∈nd x n,a<256
  | 0,_,_,h=>by cases h
  | n+1,x,a,h=>by rcases Vt.1 h with rfl|h;exact X2 _ am;exact y3 n _ a h
theorem tG{m:Nat}(hm:m<256):∀{l:List Nat},(∀a∈l,a<256)->dE l&&&dE (l.map λ_=>m)=dE (l.map λa=>a&&&m)
  | [],_=>by simp[dE]
  | a::l,h=>by rw[VO,VO,dE,dE,dE,yN (h a cG) hm,tG hm λb d=>h b (by simp[d])]
theorem u6{m s:Nat}(hm:m<256)(hs:s<=8)(C:m<2^(8-s)):∀{l:List Nat},(∀a∈l,a<256)->dE l/2^s&&&dE (l.map λ_=>m)=dE (l.map λa=>a/2^s&&&m)
  | [],_=>by simp[dE]
  | a ::l,h=>by
    have Q:=h a cG
    have W:=u6 hm hs C (l:=l) λb u=>h b (by simp[u])
    rw[VO,VO,dE,dE,dE,<-W]
    have d:2^(8-s)*2^s=256:=by rw[<-Nat.pow_add,Nat.sub_add_cancel hs]
    have D:0<2^s:=Xk s
    generalize dE l=x
    generalize dE (l.map λ_=>m)=y
    have E:(a+256*x)/2^s=a/2^s+2^(8-s)*x:=by
      rw[show a+256*x=a+2^s*(2^(8-s)*x)by rw[<-Nat.mul_assoc,WV (2^s),d],Nat.add_mul_div_left _ _ D]
    have H:(a/2^s+2^(8-s)*x)=(a/2^s+2^(8-s)*(x %2^s))+256*(x/2^s):=by
      have N:=Nat.mod_add_div x (2^s)
      have an:2^(8-s)*x=2^(8-s)*(x %2^s)+256*(x/2^s):=by
        conv=>lhs;rw[<-N]
        rw[Nat.mul_add,<-Nat.mul_assoc,d]
      omega
    have w:a/2^s<2^(8-s):=Nat.div_lt_of_lt_mul (by rw[WV,d];exact Q)
    have aq:x %2^s<2^s:=X2 _ D
    have u:a/2^s+2^(8-s)*(x %2^s)<256:=by
      have:2^(8-s)*(x %2^s)<=2^(8-s)*(2^s-1):=Nat.mul_le_mul_left _ U
      have O:2^(8-s)*(2^s-1)=256-2^(8-s):=by rw[Nat.mul_sub,d,WB]
      have P:2^(8-s)<=2^8:=Vk am U
      rw[O]at this
      generalize 2^(8-s)*(x %2^s)=k at this⊢
      generalize 2^(8-s)=ah at this w P
      generalize a/2^s=Z at w⊢
      omega
    rw[E,H,yN u hm]
    congr 1
    apply Nat.eq_of_testBit_eq
    intro j
    rw[Nat.testBit_and,Nat.testBit_and]
    by_cases V:j<8-s
    · congr 1
      rw[Nat.add_comm,Nat.testBit_two_pow_mul_add _ w,ax V]
    · have:m.testBit j=false:=Nat.testBit_lt_two_pow (Xo C (Vk am U))
      rw[this,Bool.and_false,Bool.and_false]
theorem tE(f g:Nat->Nat):∀l:List Nat,dE (l.map f)+dE (l.map g)=dE (l.map λa=>f a+g a)
  | []=>rfl
  | a::l=>by rw[VO,VO,VO,dE,dE,dE,<-tE f g l];omega
def ga(v:Nat):Nat:=(v/2^1&&&85)+(v&&&85)
def ho(v:Nat):Nat:=(v/2^2&&&51)+(v&&&51)
def rP(v:Nat):Nat:=(v/2^4+v)&&&15
def oc(v:Nat):Nat:=rP (ho (ga v))
def GD(v:Nat):Bool:=decide (ga v<256)&&decide (ho (ga v)<256)&&decide (ho (ga v)/16<=4/\ho (ga v) %16<=4)&&decide (oc v<=8)&&(decide (oc v=0)==decide (v=0))
theorem QW:(VF 256).all GD=true:=by kernel_rfl
theorem Be{v:Nat}(h:v<256):ga v<256/\ho (ga v)<256/\(ho (ga v)/16<=4/\ho (ga v) %16<=4)/\oc v<=8/\(oc v=0↔v=0):=by have d:=W0.1 QW v (Xs.2 h);simp only[GD,VR,decide_eq_true_eq,beq_iff_eq,decide_eq_decide]at d;omega
theorem AX:∀{l:List Nat},(∀a∈l,a<256/\a/16<=4/\a %16<=4)->(dE l/2^4+dE l)&&&dE (l.map λ_=>15)=dE (l.map rP)/\dE l %16<=4
  | [],_=>by simp[dE]
  | a::l,h=>by
   obtain⟨C,D,E⟩:=h a cG;obtain⟨w,u⟩:=AX (l:=l) λb d=>h b (by simp[d]);rw[VO,VO,dE,dE,dE,<-w];generalize dE l=y at u⊢;have e:(a+256*y)/2^4+(a+256*y)=(a/16+a+16*(y %16))+256*(y/2^4+y):=U
   refine⟨?_,by omega⟩;rw[e,yN U am];congr 1;rw[rP,show 15=2^4-1 from rfl,W6,W6];omega
def ki(x:Nat):Nat:=(x/2^1&&&6148914691236517205)+(x&&&6148914691236517205)
def l1(x:Nat):Nat:=(x/2^2&&&3689348814741910323)+(x&&&3689348814741910323)
def m4(x:Nat):Nat:=(x/2^4+x)&&&1085102592571150095
def oQ(x:Nat):Nat:=x+x/2^8
def iF(x:Nat):Nat:=x+x/2^16
def sX(x:Nat):Nat:=x+x/2^32
def fq(x:Nat):Nat:=sX (iF (oQ (m4 (l1 (ki x)))))&&&127
theorem eight{l:List Nat}(h:l.length=8):∃a b c d e f g i,l=[a,b,c,d,e,f,g,i]:=by match l,h with|[a,b,c,d,e,f,g,i],_=>exact⟨a,b,c,d,e,f,g,i,rfl⟩
theorem sR{l:List Nat}(h:l.length=8)(m:Nat):(l.map λ_=>m)=[m,m,m,m,m,m,m,m]:=by obtain⟨a,b,c,d,e,f,g,i,rfl⟩:=eight h;rfl
theorem UY{a:Nat}(y:Nat)(h:a<256):(a+256*y)/256=y:=by omega
theorem KN{s q:Nat}(h:s<=64):(s+256*q)&&&127=s:=by rw[show 127=2^7-1 from rfl,W6];omega
theorem Qt{a b c d e f g i:Nat}(O:a<=8)(P:b<=8)(Q:c<=8)(V:d<=8)(he:e<=8)(aA:f<=8)(W:g<=8)(Z:i<=8){x:Nat}(H:x=a+256*(b+256*(c+256*(d+256*(e+256*(f+256*(g+256*i))))))):
    (x+x/2^8+(x+x/2^8)/2^16+(x+x/2^8+(x+x/2^8)/2^16)/2^32)&&&127=a+b+c+d+e+f+g+i:=by
 have w:x/2^8=b+256*(c+256*(d+256*(e+256*(f+256*(g+256*i))))):=U
 have u:x+x/2^8=(a+b)+256*((b+c)+256*((c+d)+256*((d+e)+256*((e+f)+256*((f+g)+256*((g+i)+256*i)))))):=U
 generalize x+x/2^8=y at u⊢;clear w H;have C:y/2^16=(c+d)+256*((d+e)+256*((e+f)+256*((f+g)+256*((g+i)+256*i)))):=U;have D:y+y/2^16=(a+b+c+d)+256*((b+c+d+e)+256*((c+d+e+f)+256*((d+e+f+g)+256*((e+f+g+i)+256*((f+g+i)+256*((g+i)+256*i)))))):=U
 generalize y+y/2^16=z at D⊢;clear u C;have N:z/2^32=(e+f+g+i)+256*((f+g+i)+256*((g+i)+256*i)):=U;have E:z+z/2^32=(a+b+c+d+e+f+g+i)+256*((b+c+d+e+f+g+i)+256*((c+d+e+f+g+i)+256*((d+e+f+g+i)+256*((e+f+g+i)+256*((f+g+i)+256*((g+i)+256*i)))))):=U
 rw[E];exact KN U
theorem KM{a y n:Nat}(h:a<256)(d:y<256^n):a+256*y<256^(n+1):=by omega
theorem A5:∀{l:List Nat},(∀a∈l,a<256)->dE l<256^l.length
  | [],_=>Nat.one_pos
  | a::l,h=>by rw[dE,VC];exact KM (h a cG) (A5 λb d=>h b (by simp[d]))
theorem Gi:∀{l:List Nat},dE l=0↔∀a∈l,a=0
  | []=>by simp[dE]
  | a::l=>by have d:=Gi (l:=l);simp only[dE,Vt,forall_eq_or_imp,<-d];omega
def oi:List Nat->Nat
  | []=>0
  | a::l=>a+oi l
theorem HP:∀{l:List Nat},(∀a∈l,a<=8)->oi l<=8*l.length
  | [],_=>Vl _
  | a::l,h=>by have u:=h a cG;have w:=HP (l:=l) λb d=>h b (by simp[d]);rw[oi,VC];omega
theorem HQ:∀{l:List Nat},oi l=0↔∀a∈l,a=0
  | []=>by simp[oi]
  | a::l=>by have d:=HQ (l:=l);simp only[oi,Vt,forall_eq_or_imp,<-d];omega
theorem Gd{l:List Nat}(h:l.length=8)(u:∀a∈l,a<=8):sX (iF (oQ (dE l)))&&&127=oi l:=by obtain⟨a,b,c,d,e,f,g,i,rfl⟩:=eight h;simp only[Vt,List.not_mem_nil,or_false,forall_eq_or_imp,forall_eq]at u;obtain⟨w,ba,C,d1,D,f1,g1,i1⟩:=u;have:=Qt w ba C d1 D f1 g1 i1 (x:=dE [a,b,c,d,e,f,g,i]) (by simp only[dE,Nat.mul_zero,Nat.add_zero]);grind[sX,iF,oQ,oi]
theorem Gg(i:Nat):∀l:List Nat,dE (l++[i])=dE l+256^l.length*i
  | []=>by simp[dE]
  | a::l=>by rw[V4,dE,dE,Gg i l,VC,Yh,Nat.mul_add,Nat.add_assoc];congr 2;rw[<-Nat.mul_assoc,WV 256]
theorem Gh{l:List Nat}(an:l.length=8){m:Nat}(hm:∀a∈l,a<m)(h:∀a∈l,a<256):dE l<256^7*m:=by obtain⟨a,b,c,d,e,f,g,i,rfl⟩:=eight an;have w:[a,b,c,d,e,f,g,i]=[a,b,c,d,e,f,g]++[i]:=rfl;rw[w]at hm h⊢;have u:=A5 (l:=[a,b,c,d,e,f,g]) λx C=>h x (List.mem_append_left _ C);have D:=hm i (List.mem_append_right _ cG);rw[Gg];generalize dE [a,b,c,d,e,f,g]=y at u⊢;simp only[VC,List.length_nil]at u⊢;omega
theorem Gf{x:Nat}(ah:x<2^64):fq x<=64/\(fq x=0↔x=0)/\ki x<2^64/\l1 (ki x)<2^63/\m4 (l1 (ki x))<2^60:=by
 have u:=y3 8 x;have an:=y2 8 x;have Q:dE (nd x 8)=x:=by grind[y4]
 generalize nd x 8=l at u an Q;subst Q;have t:=λa (d:a∈l)=>Be (u a d);have w:ki (dE l)=dE (l.map ga):=(by have g1:=u6 (m:=85) (s:=1) am am am u;have g2:=tG (m:=85) am u;rw[sR an]at g1 g2;rw[ki,show 6148914691236517205=dE [85,85,85,85,85,85,85,85]from by decide,g1,g2,tE];rfl);have C:∀a∈l.map ga,a<256:=b4
 have N:(l.map ga).length=8:=b4
 have H:l1 (dE (l.map ga))=dE ((l.map ga).map ho):=(by have g1:=u6 (m:=51) (s:=2) am am am C;have g2:=tG (m:=51) am C;rw[sR N]at g1 g2;rw[l1,show 3689348814741910323=dE [51,51,51,51,51,51,51,51]from by decide,g1,g2,tE];rfl);have D:∀a∈(l.map ga).map ho,a<256/\a/16<=4/\a %16<=4:=λa d=>cr;have O:((l.map ga).map ho).length=8:=b4
 have V:m4 (dE ((l.map ga).map ho))=dE (l.map oc):=(by have g1:=(AX D).1;rw[sR O]at g1;rw[m4,show 1085102592571150095=dE [15,15,15,15,15,15,15,15]from by decide,g1,X3,X3];rfl);have E:∀a∈l.map oc,a<=8:=b4
 have P:(l.map oc).length=8:=b4
 have W:fq (dE l)=oi (l.map oc):=by grind[fq,Gd]
 have ba:=A5 C;have Z:=HP E;rw[N]at ba;rw[P]at Z;refine⟨by rw[W];omega,?_,by rw[w];exact ba,?_,?_⟩;grind[HQ,Gi];rw[w,H];exact Xo (Gh O (m:=80) (λa d=>by have:=D a d;omega) (λa d=>(D a d).1)) am;rw[w,H,V];exact Xo (Gh P (m:=9) (λa d=>Nat.lt_succ_of_le (E a d)) (λa d=>Nat.lt_of_le_of_lt (E a d) am)) am
end Go.QM
namespace Go.QM
open Go
section
variable {P : Program} {b : Frame} {a : Act} {k : List Item} {cs : List Frame} {w : World}
theorem SZ{c:Code}:step P (lone (b.atR a (.code (.scope c)::k)) cs w)=.next (lone (b.atR a (.code c::.inScope c::k)) cs w):=
  step_lone_go (by simp[stepG,stepG.exec,Frame.atR])
theorem HO{c:Code}:step P (lone (b.atR a (.inScope c::k)) cs w)=.next (lone (b.atR a k) cs w):=
  step_lone_go (by simp[stepG,stepG.exec,Frame.atR])
end
def CA(l:Nat)(bP:Act->World->Prop)(Q:Exit->Act->World->Prop):Exit->Act->World->Prop
  | .goto l',a,w=>l'=l/\bP a w
  | e,a,w=>Q e a w
theorem Ub{F:Fence}{n:Nat}{P:Program}{Q:Exit->Act->World->Prop}{a:Act}{w:World}{c rest:Code}(l:Nat)(bP:Nat->Act->World->Prop)(aA:findLabel c l=some rest)
    (first:c.wpIn F n P (CA l (λa' H=>∃m,bP m a' H) Q) a w)
    (pass:∀m a w,bP m a w->rest.wpIn F n P (CA l (λa' H=>∃m',m'<m/\bP m' a' H) Q) a w):(Code.scope c).wpIn F n P Q a w:=by
 intro b k cs aH N O;have aB:gotoIn l (.inScope c::k)=some (.code rest::.inScope c::k):=by grind[gotoIn]
 have key:∀j a w,bP j a w->
     ∃e a' H,Q e a' H/\ArrivesIn (Machine.fenced P F) P (lone (b.atR a (.code rest::.inScope c::k)) cs w) b k cs e a' H:=by
   intro j
   induction j using Nat.strongRecOn with
   | _ j aQ=>
     intro a w gD
     obtain⟨e,u,D,C,d⟩:=pass j a w gD b (.inScope c::k) cs aH N O
     cases e with
     | normal=>exact⟨.normal,u,D,C,StepsIn.trans d (.one (fenced_calm N O rfl) HO)⟩
     | exit id=>exact⟨_,u,D,C,⟨λav ar=>d.1 av (by simp[exitTo,ar]),λZ ah=>d.2 Z (by simp[exitTo,ah])⟩⟩
     | goto aW=>
       obtain⟨rfl,m',aL,an⟩:=C
       obtain⟨W,V,az,au,aq⟩:=aQ m' aL u D an
       exact⟨W,V,az,au,.of_steps (d.1 _ aB) aq⟩
     | ret=>exact⟨_,u,D,C,d⟩
     | panic hA=>exact⟨_,u,D,C,d⟩
     | outgrown=>exact⟨_,u,D,C,d⟩
 have E:StepsIn (Machine.fenced P F) P (lone (b.atR a (.code (.scope c)::k)) cs w) (lone (b.atR a (.code c::.inScope c::k)) cs w):=.one (fenced_calm N O rfl) SZ;obtain⟨e,u,D,C,d⟩:=first b (.inScope c::k) cs aH N O
 cases e with|normal=>exact⟨.normal,u,D,C,.of_steps E (StepsIn.trans d (.one (fenced_calm N O rfl) HO))⟩|exit id=>exact⟨_,u,D,C,.of_steps E ⟨λav ar=>d.1 av (by simp[exitTo,ar]),λZ ah=>d.2 Z (by simp[exitTo,ah])⟩⟩|goto aW=>obtain⟨rfl,m,an⟩:=C;obtain⟨W,V,az,au,aq⟩:=key _ u D an;exact⟨W,V,az,au,.of_steps E (.of_steps (d.1 _ aB) aq)⟩|ret=>exact⟨_,u,D,C,.of_steps E d⟩|panic hA=>exact⟨_,u,D,C,.of_steps E d⟩|outgrown=>exact⟨_,u,D,C,.of_steps E d⟩
def si(l:Nat)(bP:Env->List Deferred->av->Prop)(Q:fk):fk
  | .goto l',ah,aQ,A=>l'=l/\bP ah aQ A
  | e,ah,aQ,A=>Q e ah aQ A
section
variable {r : Option Nat} {P : Program} {N : Nat} {Q : fk} {ah : Env} {aQ : List Deferred} {A : av}
theorem ab.scope{ι:Type}{c rest:Code}(l:Nat)(inv:ι->Prop)(L:ι->List (Nat×Value))(B:ι->av)(V:ι->Nat)(aA:findLabel c l=some (.seq .skip rest))
    (pass:∀i,inv i->∀d,ab r P N rest (si l (λD C u=>C=aQ/\∃j,inv j/\V j<V i/\oK D (L j)/\aE u (B j)) Q) (cx d (L i)) aQ (B i))
    (first:(∀i,inv i->∀d,ab r P N rest (si l (λD C u=>C=aQ/\∃j,inv j/\oK D (L j)/\aE u (B j)) Q) (cx d (L i)) aQ (B i))->
      ab r P N c (si l (λD C u=>C=aQ/\∃j,inv j/\oK D (L j)/\aE u (B j)) Q) ah aQ A):ab r P N (.scope c) Q ah aQ A:=by
 intro a w a9 bc;refine Ub l (λm aq Z=>fv w Z/\∃i d,inv i/\ck N aq (cx d (L i)) aQ/\sat Z (B i)/\V i=m) aA ?_ ?_;refine wpIn_mono (first (λi az d=>(pass i az d).mono λe D C u h=>?_) a w a9 bc) ?_;cases e with|goto aL=>obtain⟨a0,a2,j,a3,_,a4,a5⟩:=h;exact⟨a0,a2,j,a3,a4,a5⟩|_=>exact h
 rintro e aq Z ⟨s,W,ar,an,E,H,O⟩;cases e with|goto aL=>obtain⟨rfl,rfl,j,aB,aH,au⟩:=O;exact⟨rfl,V j,s,j,W,aB,by rw[q3 aH];exact E,H.bk au,rfl⟩|_=>exact⟨s,W,ar,an,E,H,O⟩
 rintro m aW cI ⟨s1,i,d,az,bb,bd,rfl⟩;refine wpIn_seq (wpIn_skip ?_);refine wpIn_mono (pass i az d aW cI bb bd) ?_;rintro e aq Z ⟨s,W,ar,an,E,H,O⟩;cases e with|goto aL=>obtain⟨rfl,rfl,j,aB,a8,aH,au⟩:=O;exact⟨rfl,V j,a8,s1.trans s,j,W,aB,by rw[q3 aH];exact E,H.bk au,rfl⟩|_=>exact⟨s1.trans s,W,ar,an,E,H,O⟩
theorem ab.enter{ι:Type}{c:Code}{inv:ι->Prop}{L:ι->List (Nat×Value)}{B:ι->av}(h:∀i,inv i->∀w,ab r P N c Q (cx w (L i)) aQ (B i))(i0:ι)(d:inv i0)(u:oK ah (L i0))(he:aE A (B i0)):
    ab r P N c Q ah aQ A:=by have:=h i0 d ah;rw[q3 u]at this;exact this.bk he
variable {K : Env → List Deferred → av → Prop} {i j : Nat}
theorem oM(h:Q .normal ah aQ A):si i K Q .normal ah aQ A:=h
theorem Fg(h:Q .ret ah aQ A):si i K Q .ret ah aQ A:=h
theorem OX(h:K ah aQ A):si i K Q (.goto i) ah aQ A:=⟨rfl,h⟩
theorem gt(h:Q (.goto j) ah aQ A):pc K Q (.goto j) ah aQ A:=h
theorem gY(h:Q (.goto j) ah aQ A):o2 i Q (.goto j) ah aQ A:=h
end
theorem t7{α:Type}{f g:α->av}(i j k:Nat){hs ei u w gs:List av}{L M:List α}{A B:av}(a b:α)(C:eU i hs=some (A,ei))(D:eU j ei=some (B,u))(d:eU k u=some (b3 f L,w))(E:A=g a)(aR:B=g b)
    (H:∀x∈L,f x=g x) (N:(a::b::L).Perm M) (O:aE (ag w) (ag gs)):aE (ag hs) (ag (b3 g M::gs)):=by subst E;subst aR;rw[y0 H]at d;refine(fC C).trans ((dR (VZ _) (fC D)).trans ?_);refine(dR (VZ _) (dR (VZ _) (fC d))).trans ?_;refine(dR (VZ _) m6).trans (m6.trans (dR ?_ O));exact vX (f:=g) N
def mX(a:Int×Int):Value:=.agg (ints [a.1,a.2]).toArray
theorem Em{P:Program}{u:TypeId}(h:rv P u 2=true)(a:Int×Int)(w:World):∀(m:List ((Int×Int)×Value)) (es:List MapEntry) (i:Nat),es.map (λe=>(e.key,e.val))=m.map (λt=>(mX t.1,t.2))->
    (Instr.findAsking u (mX a) es i).run P w=.ok (ky a m i) w
  | [],es,i,he=>by cases es with|nil=>rfl|cons e es=>simp at he
  | t ::m,es,i,he=>by
    cases es with
    | nil=>simp at he
    | cons e es=>
      simp only[VO,List.cons.injEq,Prod.mk.injEq]at he
      obtain⟨⟨C,D⟩,E⟩:=he
      have heq:=(D1 h [a.1,a.2] [t.1.1,t.1.2] rfl rfl w).1
      have H:(Op.equal u (mX a) (mX t.1)).run P w=.ok (decide (a=t.1)) w:=by
        refine Eq.trans heq (congrArg (λx=>Result.ok x w) ?_)
        rw[decide_eq_decide]
        obtain⟨N,a2⟩:=a
        obtain⟨⟨ba,bC⟩,v⟩:=t
        simp
      simp only[Instr.findAsking,C,VA,H,Vs,ky]
      by_cases d:a=t.1
      · rw[ax (by simpa using d),ax d,VV,D]
      · rw[al (by simpa using d),al d]
        exact Em h a w m es (i+1) E
theorem Do{P:Program}{n:Nat}(kx:Bool)(xs:List Int)(V:xs.length=n)(w:World):∀(d:List Field) (m:Nat),m<=n->oG P n d m=true->
    (forIn (m:=Sem) d PUnit.unit λf _=>do
        if f.name ≠ "_" then Instr.checkKey kx 9999 f.type (← part f.type (ints xs).toArray f.offset)
        pure (ForInStep.yield PUnit.unit)).run P w=.ok PUnit.unit w
  | [],m,_,_=>by simp
  | f ::d,m,hm,h=>by
    simp only[oG,VR]at h
    obtain⟨⟨⟨N,E⟩,C⟩,H⟩:=h
    have E:=VB E
    have hu:P.underlying f.type=some (.int .i64):=by
      cases hu:P.underlying f.type with
      | none=>rw[hu]at C;cases C
      | some u=>rw[hu]at C;cases u<;>first|(cases C;done)|(rename_i k;cases k<;>first|(cases C;done)|rfl)
    have W:m<n:=by
      rcases Nat.lt_or_ge m n with h|h
      · exact h
      · exfalso
        have Q:∀(d:List Field) (m:Nat),n<m->oG P n d m=true->False:=by
          intro d
          induction d with
          | nil=>intro m hm h;have:=VB h;omega
          | cons f d D=>intro m hm h;simp only[oG,VR]at h;exact D _ U h.2
        exact Q d (m+1) U H
    have ga:(part f.type (ints xs).toArray f.offset).run P w=.ok (aa xs[m]) w:=by
      have O:mv P f.type=true:=by simp[mv,hu]
      simp[part,uq O,E,ints,show m<xs.length by omega]
    have ho:(XV kx 9999 f.type (aa xs[m])).run P w=.ok () w:=by
      rw[show(9999:Nat)=9998+1 from rfl]
      unfold XV
      simp[underlying,hu]
    have an : f.name ≠ "_" := by simpa using N
    have D:=Do kx xs V w d (m+1) U H
    simp only[List.forIn_cons,VA,an,ne_eq,not_false_eq_true,if_true,Vs,ga,ho,VV]at D⊢
    exact D
theorem dS.pair{P:Program}{D:TypeId}(h:rv P D 2=true):dS P D mX where
  nX :=λkx a w=>by
    have C:=h
    unfold rv at C
    cases hu:P.underlying D with
    | none=>rw[hu]at C;cases C
    | some u=>
      rw[hu]at C
      cases u with
      | struct d=>
        simp only[VR,Bool.not_eq_true']at C
        rw[show(10000:Nat)=9999+1 from rfl,XV]
        simp only[VA,underlying,run_program,Vs,hu,mX]
        have:=Do kx [a.1,a.2] rfl w d.toList 0 (Vl _) C.1.1
        rw[Array.forIn_toList]at this
        simpa using this
      | _=>cases C
  find:=λa m es w he=>by
    have H:∃d,P.underlying D=some (.struct d):=by
      unfold rv at h
      cases hu:P.underlying D with
      | none=>rw[hu]at h;cases h
      | some u=>
        rw[hu]at h
        cases u with
        | struct d=>exact⟨d,rfl⟩
        | _=>cases h
    obtain⟨d,hu⟩:=H
    have an:∀(es:List MapEntry),es.map (λe=>(e.key,e.val))=m.map (λt=>(mX t.1,t.2))->XK (.struct d) (mX a) es 0=none\/es=[]:=by
      intro es he
      cases es with
      | nil=>exact .inr rfl
      | cons e es=>left;simp[XK,mX,Instr.sameNow]
    rcases an es he with E|E
    · simp[Instr.findKey,underlying,hu,E,Em h a w m es 0 he]
    · subst E
      have:m=[]:=by cases m with|nil=>rfl|cons t m=>simp at he
      subst this
      simp[Instr.findKey,underlying,hu,XK,ky]
  same:=λa=>by
    rw[show(10000:Nat)=9999+1 from rfl]
    simp[mX,ints,Instr.sameBits]
end Go.QM
namespace Go.QM
open Go
section
variable {r : Option Nat} {P : Program} {N : Nat} {ops : Array Oper} {Q : fk} {ah : Env} {aQ : List Deferred} {A I : av} {T : List Nat} {c : List (Nat × Bool)} {listed : Array Bool} {m : Nat}
def A9(ops:Array Oper)(T:List Nat)(listed:Array Bool)(i:Nat):Bool:=(V7 .any ops listed).contains i&&Region.free .any ops listed i&&T.all (λj=>qq ops 9 j i)
def ev (r:Option Nat) (P:Program) (N:Nat) (ops:Array Oper) (I:av) (T:List Nat) (listed:Array Bool) (m:Nat) (Q:fk) (ah:Env) (aQ:List Deferred) (A:av):Prop:=
  ∀ a w,ck N a ah aQ->sat w A->sat w I->o4 ops listed->XE ops=true->(∀(j:Nat) (o:Oper),ops[j]? =some o->iQ o.op=true)->
    om (mM r) 0 P ops (md (d8 N w Q)) (λw=>sat w I) T m listed a w
theorem ev.of(c:List (Nat×Bool))(aR:ph ops T c listed=true)(hm:c.length=m)(h:b8 r P N ops I T c Q ah aQ A):ev r P N ops I T listed m Q ah aQ A:=by intro a w D E d u H C;subst hm;exact h a w listed D E ⟨w,d⟩ (.inl d) u H C aR
theorem ev.bk{B:av}(e:aE A B)(h:ev r P N ops I T listed m Q ah aQ B):ev r P N ops I T listed m Q ah aQ A:=λa w x y=>h a w x (y.bk e)
theorem ev.quiet{i:Nat}{o:Oper}{v:Value}(E:ops[i]? =some o)(Z:jG N o.dst=true)(H:A9 ops T listed i=true)
    (ar:∀a,ck N a ah aQ->ks P ops (λw=>sat w I) o v a) (h:ev r P N ops I T (listed.setIfInBounds i true) m Q (jS ah o.dst v) aQ A):ev r P N ops I T listed (m+1) Q ah aQ A:=by
 intro a w O aq d u V D;simp only[A9,VR]at H;obtain⟨⟨au,aA⟩,W⟩:=H;have C:i∈V7 .any ops listed:=b4
 have:=h (a.put o.dst v) w (O.put Z v) aq d (u.set C) V D;exact B9 (vA r) E (Region.noSelect_spec V) D (λc a w h=>h.elim) (.inr ⟨rfl,λj an=>W0.1 W j an⟩) m listed a w u (Region.free_spec E aA) C (ar a O) d this
theorem ev.step{i:Nat}{o:Oper}(ar:ops[i]? =some o)(O:o.guard=none)(H:jG N o.dst=true)
    (h:cn r P ah o A (λv a8=>aE a8 I/\ev r P N ops I T (listed.setIfInBounds i true) m Q (jS ah o.dst v) aQ a8)) {a:Act} {w:World} (hr:ck N a ah aQ) (hs:sat w A) (E:o4 ops listed)
    (au:XE ops=true) (aq:∀(j:Nat) (o:Oper),ops[j]? =some o->iQ o.op=true) (W:i∈V7 .any ops listed):
    wpOpIn (mM r) 0 P ops (md (d8 N w Q)) i (λa' d=>(i∉T->sat w I->sat d I)/\om (mM r) 0 P ops (md (d8 N w Q)) (λw=>sat w I) T m (listed.setIfInBounds i true) a' d) a w:=by
 unfold wpOpIn;rw[ar];simp only[];rw[ax (by simp[VN,O])];refine Oper.yd ?_ (h a w hr.eval hs);rintro a' d ⟨v,a8,rfl,s,u,C,Z⟩;have V:=Z _ d (hr.put H v) u (u.bk C) (E.set W) au aq;have an:∀e a D,md (d8 N d Q) e a D->md (d8 N w Q) e a D:=by grind[vE]
 exact⟨λ_ _=>u.bk C,r9 an m _ _ _ V⟩
theorem ev.tY{i:Nat}{o:Oper}(V:ops[i]? =some o)(E:o.guard=none)(D:jG N o.dst=true)(d:(V7 .any ops listed==[i])=true)
    (h:cn r P ah o A (λv a8=>aE a8 I/\ev r P N ops I T (listed.setIfInBounds i true) m Q (jS ah o.dst v) aQ a8)):ev r P N ops I T listed (m+1) Q ah aQ A:=by
 intro a w W Z _ C an O;rw[beq_iff_eq]at d;refine⟨λaq=>(by rw[aq]at d;cases d),λj u=>?_⟩;have H:=u;rw[d]at u;obtain rfl:j=i:=by simpa using u
 exact ev.step V E D h W Z C an O H
theorem ev.fork{i j:Nat}{d u:Oper}(aB:ops[i]? =some d)(aH:ops[j]? =some u)(ar:d.guard=none)(au:u.guard=none)(an:jG N d.dst=true)(aq:jG N u.dst=true)(D:(V7 .any ops listed==[i,j])=true)
    (av:cn r P ah d A (λv a8=>aE a8 I/\ev r P N ops I T (listed.setIfInBounds i true) m Q (jS ah d.dst v) aQ a8))
    (az:cn r P ah u A (λv a8=>aE a8 I/\ev r P N ops I T (listed.setIfInBounds j true) m Q (jS ah u.dst v) aQ a8)):ev r P N ops I T listed (m+1) Q ah aQ A:=by
 intro a w V W _ E Z O;rw[beq_iff_eq]at D;refine⟨λaL=>(by rw[aL]at D;cases D),λk C=>?_⟩;have H:=C;rw[D]at C;have C:k=i\/k=j:=b4
 rcases C with rfl|rfl;exact ev.step aB ar an av V W E Z O H;exact ev.step aH au aq az V W E Z O H
section
variable {op Gz : Op} {ty Ip : TypeId} {ps GQ : String} {bl CQ : Array Edge} {t t' i j : Nat} {v : Value}
theorem dy(C:ops[i]? =some ⟨some t,op,ty,ps,bl,none⟩)(u:iQ op=true)(d:Xc t N=true)(D:A9 ops T listed i=true)(O:bF P ah ⟨some t,op,ty,ps,bl,none⟩ I v)
    (h:ev r P N ops I T (listed.setIfInBounds i true) m Q (hG ah t v) aQ A):ev r P N ops I T listed (m+1) Q ah aQ A:=
  ev.quiet C d D (λa E=>⟨u,.inl ⟨by simp[VN],λw H=>by rw[E.eval];exact O w H⟩⟩) h
theorem k9(D:ops[i]? =some ⟨some t,op,ty,ps,bl,none⟩)(E:ops[j]? =some ⟨some t',Gz,Ip,GQ,CQ,none⟩)(d:Xc t N=true)(u:Xc t' N=true)(H:(V7 .any ops listed==[i,j])=true)
    (w:cn r P ah ⟨some t,op,ty,ps,bl,none⟩ A (λv a8=>aE a8 I/\ev r P N ops I T (listed.setIfInBounds i true) m Q (hG ah t v) aQ a8))
    (C:cn r P ah ⟨some t',Gz,Ip,GQ,CQ,none⟩ A (λv a8=>aE a8 I/\ev r P N ops I T (listed.setIfInBounds j true) m Q (hG ah t' v) aQ a8)):ev r P N ops I T listed (m+1) Q ah aQ A:=
  ev.fork D E rfl rfl d u H w C
end
theorem ab.qu{id:Nat}{l:List Oper}(I:av)(T:List Nat)(m:Nat)(aq:l.toArray.size=m)(hm:P.follows .mixedOrders=true)(aR:(XE l.toArray&&l.toArray.all (λo=>iQ o.op))=true)(O:aE A I)
    (h:ev r P N l.toArray I T (Array.replicate m false) m Q ah aQ A):ab r P N (.region id l.toArray true) Q ah aQ A:=by
 intro a w an D;subst aq;simp only[VR]at aR;obtain⟨E,H⟩:=aR;have V:=h a {w with drawn:=w.drawn+1} an D (sat.bk (w:={w with drawn:=w.drawn+1}) D O) (by intro j o C u;(have W:j<l.toArray.size:=by grind);rw[Array.getD_eq_getD_getElem?,Array.getElem?_replicate,ax W]at u;cases u) E (λj o C=>Array.all_eq_true_iff_forall_mem.1 H o (Array.mem_of_getElem? C))
 have Z:∀e a d,md (d8 N {w with drawn:=w.drawn+1} Q) e a d->d8 N w Q e a d:=λe a d h=>
   CE (vE (w0:=w) (w:={w with drawn:=w.drawn+1}) ⟨rfl,rfl,rfl,Vm _⟩ h)
 exact wpIn_region_any hm (Ca _ _ _ _ (r9 Z _ _ _ _ V))
end
end Go.QM
namespace Go.QM
open Go
section
variable {P : Program} {ah : Env} {A : av} {d : Option Nat} {ty : TypeId} {ps : String} {bl : Array Edge} {g : Option (Nat × Bool)} {t t' : TypeId} {x y : Operand}
end
end Go.QM
