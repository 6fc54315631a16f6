/- Proved here: contracts, each under its own premises. -/
import Derived.Test.YtglgidjhoncphaaGreatDoorHd
set_option linter.all false
set_option maxRecDepth 4000
set_option maxHeartbeats 4000000
open List renaming length_append->mp,getElem?_eq_getElem->Vc,mem_singleton->Vd,mem_append->Ve,mem_of_getElem?->Vg,length_singleton->Vl,getElem?_eq_some_iff->Vm,mem_map->Vs,take_add_one->Vt,nodup_cons->Vw,length_cons->Vy,replicate->VA,flatMap_cons->VD,nodup_append->VI,take_of_length_le->VS,take_length->VY,getElem?_set_self->VZ,length_set->V6,mem_flatMap->Wc,perm_append_singleton->We,getElem?_set_ne->Wm,length_nil->WX,length->WY,find?_eq_none->W4,length_replicate->W8,length_reverse->Xb,flatMap_append->Xc,getElem?_eq_none->Xj,map_map->XZ,dropLast_concat_getLast->Ym,ext_getElem?->Yv,length_eq_zero_iff->YR,mem_cons->Vq,mem_filter->VE,append_assoc->VJ,map_append->V7,append_nil->V9,range->Wo,take_zero->WM,length_take->WN,getElem_of_mem->XM,mem_range->Yl
open Nat renaming le_refl->Vi,zero_le->Vj,pow_le_pow_right->Vk,le_of_ble_eq_true->Vp,le_trans->Wu,le_add_right->Vv,and_le_right->WT,lt_succ_iff_lt_or_eq->YQ
open Go.Value renaming oneCell'->VO,slice->V0,int->V3,bool->Ww
open Int renaming toNat_of_nonneg->Wf,le_refl->W1
open Decidable renaming by_contra->Wi,of_not_not->Vh,byContradiction->WH
open Option.some renaming inj->Ws
open Option renaming map_some->WL
open Ne renaming symm->Xq
open List.Pairwise renaming nil->Yw
open Go.Proofs.Tryz renaming prog->VU
open BitVec renaming ofInt->VX
open Go.QM.ab renaming aA->Vf,loop->VP,bg->WD
open Go.QM.aU renaming known->VL
open Go.QM.aG renaming refl->VW
open Go.QM.dR renaming int->Yh
open Go.QM.b4 renaming i->YE
namespace Go.Proofs.Q.b1
open Go Go.QM
def rz(L:List Fn)(id:Int):Option Fn:=L.find? λt=>decide (t.id=id)
theorem wy{S:List Fn}(h:jW S){t:Fn}(w:t∈S):rz S t.id=some t:=by rw[rz];cases d:S.find? λu=>decide (u.id=t.id)with|none=>rw[W4]at d;exact absurd (c7 rfl) (d t w)|some u=>have C:=List.find?_some d;have D:=List.mem_of_find?_eq_some d;rw[h.inj D w (by simpa using C)]
theorem Ey{S:List Fn}{id:Int}(h:¬fP S id):rz S id=none:=by rw[rz,W4];intro u hu;simp only[decide_eq_true_eq];exact λe=>h ⟨u,hu,e⟩
def pX(L:List Fn)(id:Int):Int×Int×Bool:=match rz L id with
  | some t=>(t.dF,t.cf,true)
  | none=>(0,0,false)
theorem FA{S:List Fn}{last:Int}(h:cM S last){x:Int}(u:last<x):c5 S x=[]:=by rw[c5,List.filter_eq_nil_iff.2];trivial;intro t d;have:=h.rg t d;grind
theorem EM{S:List Fn}{last:Int}(h:cM S last){x:Int}(u:last<x):¬fP S x:=λd=>by have:=z6 h d;omega
variable(b:Nat)
theorem Ng(aC bz:Nat)(F:ay):aG (ah [aj b 223 [.map (some aC),.map (some bz),aa 0],bO mX bz (λ_=>none) 0,bO QM.encI aC (λ_=>none) 0,F]) (ah [hp b [] 0,F]):=by
 have d:iD (λ_=>0) []=λ_=>none:=by trivial
 have u:ke []=λ_=>none:=by trivial
 refine(nb (f:=iu (λ_=>0) (λ_=>none) (λ_=>0) []) _).trans ?_;refine(nb (f:=ir (λ_=>none) (λ_=>0) []) _).trans ?_;refine az (λ_=>0:Int->Nat) trivial ?_;refine az (⟨λ_=>none,λ_=>0,aC,bz⟩:CJ) cM.nil ?_;exact bP 2 rfl (b6 3 rfl (by rw[d];rfl) (b6 2 rfl (by rw[u];rfl) (bU (an (an (aX _))))))
theorem Nh:bH 134 [] ba [] (λb:Nat=>ae b) (λ_=>True) (λb=>[hp b [] 0]):=by apply aF Tryz.func134 Tryz.ntmps134;intro F _;refine J [8,168,25,352] ?_;intro bb;refine e rfl ?_;refine xi mX ?_;intro bD;refine q rfl rfl (eh (cs:=[.map _,.map _,.int _ _]) rfl) ?_;refine e rfl ?_;refine eS (v:=.agg #[_,_,_]) (l:=[.map _,.map _,.int _ _]) rfl rfl ?_;intro cp;apply J [104];exact br cp trivial (Ng cp bb bD F)
theorem pG(aC bz n:Nat)(last:Int)(f:Int->Option Value)(id:Int):bn 118 [ae b,aa id] ba [aj b 223 (z7 aC bz last),bO QM.encI aC f n] ((f id).getD (.pointer none)) [aj b 223 (z7 aC bz last),bO QM.encI aC f n]:=by apply aF Tryz.func118 Tryz.ntmps118;intro F _;apply J [11,24,95,30,114,156,107,114,54,304];refine q rfl rfl (kj 3 216 rfl rfl (Yh rfl) rfl rfl) ?_;apply J [95,224];exact e9 (an (an (an (aX _))))
theorem ww(L:List Fn)(last:Int)(u d:Int):bn 71 [ae b,aa u,aa d] ba [hp b L last] (aa (ho L (u,d))) [hp b L last]:=by apply aF Tryz.func71 Tryz.ntmps71;intro F _;apply J [1];refine ab.open 0 rfl (λA _=>?_);apply J [1];refine ab.open 0 rfl (λC w=>?_);obtain⟨ad,cap,aC,bz⟩:=C;have av:=w;apply J [157];dsimp only at av⊢;apply J [35,41,65,120,527];refine q rfl rfl (kj (a:=(_,_)) 78 3 rfl rfl (dR.pair aV) rfl rfl) ?_;rw[zG];apply J [26];exact I4
theorem Ni(L:List Fn)(last:Int)(id:Int):bn 69 [ae b,aa id] ba [hp b L last] (.tuple #[aa (pX L id).1,aa (pX L id).2.1,.bool (pX L id).2.2]) [hp b L last]:=by
 apply aF Tryz.func69 Tryz.ntmps69;intro F _;apply J [1];refine ab.open 0 rfl (λA _=>?_);apply J [1];refine ab.open 0 rfl (λD C=>?_);obtain⟨ad,cap,aC,bz⟩:=D;have av:=C;apply J [157];dsimp only at av⊢;by_cases u:fP L id;have d:=pF (A:=A) u;obtain⟨t,w,rfl⟩:=u;obtain⟨M,bK⟩:=fA w;have hv:pX L t.id=(t.dF,t.cf,true):=by rw[pX,wy av.bq w]
 rw[hv];apply J [387,24,77,184,32];refine aI (pG b aC bz L.length last (iD A L) t.id) rfl (d6 2 rfl (d6 2 rfl (ev _))) trivial ?_;intro _ _;apply J [18];rw[d];apply J [56,101,121];refine cC [0,1,2,3,4,5,6,7,8,9,10,11,12] (VW _) ?_;apply J [170,328,181,349,349,272,148];exact YE () [_,_,_] ⟨rfl,rfl,rfl,trivial⟩ rfl trivial (az A trivial (az ⟨ad,cap,aC,bz⟩ av (an (an (bv (cY 0 0 t rfl rfl rfl (λ_ _=>rfl) bK.symm (an (an (aX _)))))))));have d:=qz (A:=A) u;have hv:pX L id=(0,0,false):=by grind[pX,Ey]
 rw[hv];apply J [24,77,184,32];refine aI (pG b aC bz L.length last (iD A L) id) rfl (d6 0 rfl (d6 0 rfl (ev _))) trivial ?_;intro _ _;apply J [15];rw[d];apply J [56,101,2,57,77,184,74];exact YE () [_,_,_] ⟨rfl,rfl,rfl,trivial⟩ rfl trivial (az A trivial (az ⟨ad,cap,aC,bz⟩ av (an (an (an (an (an (an (aX _)))))))))
theorem wu(L:List Fn)(last:Int)(par w d:Int)(bo:last<=1000000):bn 139 [ae b,aa par,aa w,aa d] ba [hp b L last] (.tuple #[aa (hi L last par (w,d)).2.2.1,aa (hi L last par (w,d)).2.2.2]) [hp b (hi L last par (w,d)).1 (hi L last par (w,d)).2.1]:=by
 apply aF Tryz.func139 Tryz.ntmps139;intro F _;apply J [1];refine ab.open 0 rfl (λA _=>?_);apply J [1];refine ab.open 0 rfl (λbc a9=>?_);obtain⟨ad,cap,aC,bz⟩:=bc;have av:=a9;apply J [157];dsimp only at av⊢;have bH:=av.len;by_cases E:fP L par;·have ar:=pF (A:=A) E;refine J [215,32,597] ?_;intro _ _;apply J [15];rw[ar];refine J [120,527,0,528] ?_;intro bd;apply J [164,22,477,30,72,101,191,229];refine VL 24 rfl (c:=false) rfl ?_;apply J [48,149,191,7];refine cC [0,1,2,3,4,5,6,7] (VW _) ?_;refine J [133,377,598] ?_;rw[zG];refine bY rfl rfl rfl (uJ rfl rfl) ?_;apply J [272];apply Vf rfl<;>intro V;(have hv:hi L last par (w,d)=(L,last,0,7):=by rw[hi,al (λh=>h.1 E),ax V]);rw[hv];dsimp only;apply J [171];exact Cw;(have hv:hi L last par (w,d)=(L++[⟨last+1,par,w,d⟩],last+1,last+1,0):=by rw[hi,al (λh=>h.1 E),al V]);rw[hv];dsimp only;(have eM:¬kE L (w,d):=by grind[EK]);have aw:=wq eM;have aL:=EM av (x:=last+1) U;have au:=qz (A:=A) aL;have a7:=FA av (x:=last+1) U;(have O:(L++[(⟨last+1,par,w,d⟩:Fn)]).length=L.length+1:=by simp_all);have bt:=z6 av E;have ag:=av.add (t:=⟨last+1,par,w,d⟩) rfl cK eM;obtain⟨t,a8,rfl⟩:=E;obtain⟨M,bK⟩:=fA a8;have a5:=av.bq.perm bK.symm;have bl:=ux L t.id;have bj:=dP (c5 L t.id);(have a3:c5 (L++[⟨last+1,t.id,w,d⟩]) t.id=c5 L t.id++[last+1]:=by grind[uw,Fy]);(have ay:∀x,t.id≠x->c5 (L++[⟨last+1,t.id,w,d⟩]) x=c5 L x:=by grind[uw,Aw]);have a2:∀u∈M,t.id≠u.id/\u.id≠last+1:=λu hu=>⟨λa0=>(Vw.1 a5).1 (Vs.2 ⟨u,hu,a0.symm⟩),λa0=>by have:=av.rg u (bK.mem_iff.2 (by simp[hu]));omega⟩;refine WD (fW 4 rfl bK) ?_;refine WD (fW 6 rfl bK) ?_;refine J [20,100,146,80,288,202,30] ?_;refine cC [0,1,2,3,4,5,6,7,8,9,10,-11,-12] (an (eQ (aX _))) ?_;refine J [49,185,377,16,529,17,478] ?_;intro aP;refine J [10,258] ?_;refine l1 3 216 rfl (Yh rfl) rfl rfl rfl ?_;refine J [110,7] ?_;refine cC [0,1,2,3,4,5,6,7,8,-9] (bv (bP 6 rfl (aX _))) ?_;refine J [133,377,185,258,599,110,7,315,2,12] ?_;refine ab.draw _ [13] [0,1,2,3,4,5,6,7,8,-9,-10,11,12,-13] aV aV (c0 (eE (aX _))) ?_;refine J [78,275,185,17,150] ?_;intro bi;refine J [47] ?_;refine ap 8 rfl rfl rfl rfl rfl (Vp rfl) (show _=ints [last+1]from rfl) rfl U gr ?_;intro W Z;refine J [10,88,432,90,368,73,100,99] ?_;(have P:t.id≠last+1:=by omega);(have N:c5 (L++[(⟨last+1,t.id,w,d⟩:Fn)]) (last+1)=[]:=by simp_all);have H:(t::(⟨last+1,t.id,w,d⟩:Fn)::M).Perm (L++[(⟨last+1,t.id,w,d⟩:Fn)]):=(List.Perm.swap _ _ _).trans ((bK.symm.cons _).trans (We _ _).symm);have aq:∀u∈M,iu A ad cap L u=iu (aO A (last+1) aP) (aO (aO ad t.id W) (last+1) none) (aO (aO cap t.id Z) (last+1) 0) (L++[(⟨last+1,t.id,w,d⟩:Fn)]) u:=λu hu=>(by obtain⟨C,D⟩:=a2 u hu;dsimp only[iu];rw[bM D,bM D,bM D,bM (Xq C),bM (Xq C),ay _ C]);have ao:∀u∈M,ir ad cap L u=ir (aO (aO ad t.id W) (last+1) none) (aO (aO cap t.id Z) (last+1) 0) (L++[(⟨last+1,t.id,w,d⟩:Fn)]) u:=λu hu=>(by obtain⟨C,D⟩:=a2 u hu;dsimp only[ir];rw[bM D,bM D,bM (Xq C),bM (Xq C),ay _ C]);exact hN ((dI 3 1 _).trans (az (aO A (last+1) aP) trivial (az ⟨aO (aO ad t.id W) (last+1) none,aO (aO cap t.id Z) (last+1) 0,aC,bz⟩ ag (bP 7 rfl (b6 5 rfl (by dsimp only;rw[Eg (t:=(⟨last+1,t.id,w,d⟩:Fn)),au,O];rfl) (b6 4 rfl (by dsimp only;rw[Ej (t:=(⟨last+1,t.id,w,d⟩:Fn)) eM,aw,O];rfl) (ua 1 3 4 t (⟨last+1,t.id,w,d⟩:Fn) rfl rfl rfl (by dsimp only[iu];rw[bM P,bM P,bM P,cj,cj,a3,mp];rfl) (by dsimp only[iu];rw[cj,cj,cj,N];rfl) aq H (ua 1 0 1 t (⟨last+1,t.id,w,d⟩:Fn) rfl rfl rfl (by dsimp only[ir];rw[bM P,bM P,cj,cj,a3,mp,Vl,pM]) (by dsimp only[ir];rw[cj,cj,N];rfl) ao H (bv (aX _))))))))))
 have ar:=qz (A:=A) E;refine J [215,32,597] ?_;intro _ _;apply J [15];rw[ar];refine J [120,527,0,528] ?_;intro bh;apply J [164,22,477,30,72,101,191,229];refine VL 24 rfl (c:=true) rfl ?_;apply J [13,240,143];apply Vf rfl<;>intro a4;have hv:hi L last par (w,d)=(L,last,0,6):=ax ⟨E,a4⟩;rw[hv];dsimp only;apply J [171];exact Cw;obtain rfl:par=0:=U
 refine ab.seq ?_;refine cC [0,1,2,3,4,5,6,7] (VW _) ?_;refine J [133,377,598] ?_;rw[zG];refine bY rfl rfl rfl (uJ rfl rfl) ?_;apply J [272];apply Vf rfl<;>intro V;have hv:hi L last 0 (w,d)=(L,last,0,7):=by rw[hi,al (λh=>h.2 rfl),ax V]
 rw[hv];dsimp only;apply J [171];exact Cw;have hv:hi L last 0 (w,d)=(L++[⟨last+1,0,w,d⟩],last+1,last+1,0):=by rw[hi,al (λh=>h.2 rfl),al V]
 rw[hv];dsimp only;have eM:¬kE L (w,d):=by grind[EK]
 have aw:=wq eM;have aL:=EM av (x:=last+1) U;have au:=qz (A:=A) aL;have a7:=FA av (x:=last+1) U;have O:(L++[(⟨last+1,0,w,d⟩:Fn)]).length=L.length+1:=b2
 have ag:=av.add (t:=(⟨last+1,0,w,d⟩:Fn)) rfl cK eM;have ay:∀x,1<=x->c5 (L++[(⟨last+1,0,w,d⟩:Fn)]) x=c5 L x:=by grind[uw,Aw]
 refine J [20,100,146,80,288,202,30] ?_;refine cC [0,1,2,3,4,5,6,7,8,9,10,-11,-12] (an (an (aX _))) ?_;refine J [49,185,377,16,529,17,478] ?_;intro aW;refine J [10,258] ?_;refine l1 3 216 rfl (Yh rfl) rfl rfl rfl ?_;refine J [110,7] ?_;refine cC [0,1,2,3,4,5,6,7,8,-9] (bv (bv (aX _))) ?_;refine J [133,377,185,258,599,110,7,315,107,100,99] ?_;have N:c5 (L++[(⟨last+1,0,w,d⟩:Fn)]) (last+1)=[]:=cm
 have aq:∀u∈L,iu A ad cap L u=iu (aO A (last+1) aW) (aO ad (last+1) none) (aO cap (last+1) 0) (L++[(⟨last+1,0,w,d⟩:Fn)]) u:=λu hu=>(by have C:=av.rg u hu;(have D:u.id≠last+1:=by omega);dsimp only[iu];grind[bM]);have ao:∀u∈L,ir ad cap L u=ir (aO ad (last+1) none) (aO cap (last+1) 0) (L++[(⟨last+1,0,w,d⟩:Fn)]) u:=λu hu=>(by have C:=av.rg u hu;(have D:u.id≠last+1:=by omega);dsimp only[ir];grind[bM]);have H:((⟨last+1,0,w,d⟩:Fn)::L).Perm (L++[(⟨last+1,0,w,d⟩:Fn)]):=(We _ _).symm;exact hN ((dI 3 1 _).trans (az (aO A (last+1) aW) trivial (az ⟨aO ad (last+1) none,aO cap (last+1) 0,aC,bz⟩ ag (eQ (b6 2 rfl (by dsimp only;rw[Eg (t:=(⟨last+1,0,w,d⟩:Fn)),au,O];rfl) (b6 1 rfl (by dsimp only;rw[Ej (t:=(⟨last+1,0,w,d⟩:Fn)) eM,aw,O];rfl) (cY 1 2 (⟨last+1,0,w,d⟩:Fn) rfl rfl (by dsimp only[iu];rw[cj,cj,cj,N];rfl) aq H (cY 0 1 (⟨last+1,0,w,d⟩:Fn) rfl rfl (by dsimp only[ir];rw[cj,cj,N];rfl) ao H (bU (aX _))))))))))
end Go.Proofs.Q.b1
namespace Go.Proofs.Q.b1
open Go Go.QM
theorem zO{α β:Type}{f g:α->List β}:∀{l:List α},(∀a∈l,f a=g a)->l.flatMap f=l.flatMap g
 | [],_=>rfl
 | a::l,h=>by rw[VD,VD,h a cE,zO λb d=>h b (by simp[d])]
def nX:Nat->List Fn->Int->List Int
  | 0,_,_=>[]
  | n+1,L,p=>(c5 L p).flatMap λk=>nX n L k++[k]
def jY(L:List Fn)(last p:Int):List Int:=nX (last-p).toNat L p
def jB(L:List Fn)(last p:Int):List Int:=jY L last p++[p]
def hP(L:List Fn)(last p:Int):List Int:=if fP L p then jY L last p else[]
variable{L:List Fn}{last:Int}
theorem pP(h:cM L last){p k:Int}(d:k∈c5 L p):p<k/\k<=last/\1<=k:=by obtain⟨_,t,u,w,rfl⟩:=pO.1 d;have:=h.rg t u;omega
theorem uy(h:cM L last){p:Int}(u:last<=p):c5 L p=[]:=by rw[List.eq_nil_iff_forall_not_mem];intro k d;have:=pP h d;omega
theorem Dm{L:List Fn}{last:Int}(h:cM L last):∀(n m:Nat) (p:Int),(last-p).toNat<=n->(last-p).toNat<=m->nX n L p=nX m L p
 | 0,0,_,_,_=>rfl
 | 0,m+1,p,d,_=>by rw[nX,nX,uy h U];rfl
 | n+1,0,p,_,u=>by rw[nX,nX,uy h U];rfl
 | n+1,m+1,p,d,u=>by rw[nX,nX];refine zO λk w=>?_;have:=pP h w;rw[Dm h n m k U U]
theorem sB(h:cM L last)(p:Int):jY L last p=(c5 L p).flatMap (jB L last):=by rw[jY];cases ao:(last-p).toNat with|zero=>rw[uy h U];rfl|succ n=>rw[nX];refine zO λk d=>?_;have:=pP h d;rw[jB,jY,Dm h n _ k U (Vi _)]
inductive oz(L:List Fn)(k:Int):Int->Prop
  | refl:oz L k k
  | step {t:Fn}:t∈L->oz L k t.par->oz L k t.id
variable{x:Int}
theorem oz.le(h:cM L last){k:Int}(a:oz L k x):k<=x:=by induction a with|refl=>omega|step d _ u=>have:=h.rg _ d;omega
theorem Ka{L:List Fn}(h:jW L){bN u:Int}(a:oz L bN x)(b:oz L u x):bN=u\/(∃t∈L,t.id=bN/\oz L u t.par)\/∃t∈L,t.id=u/\oz L bN t.par:=by induction a with|refl=>(cases b with|refl=>exact .inl rfl|step d w=>exact .inr (.inl ⟨_,d,rfl,w⟩))|step d E D=>rename_i t;generalize C:t.id=x at b;(cases b with|refl=>exact .inr (.inr ⟨t,d,C,E⟩)|step hu w=>rw[h.inj d hu C]at D;exact D w)
theorem Bv(h:cM L last):∀(n:Nat) (p:Int),(last-p).toNat<=n->∀x,x∈jB L last p->oz L p x:=by intro n;induction n with|zero=>intro p D x d;rw[jB,sB h,uy h U]at d;simp at d;rw[d];exact .refl|succ n H=>intro p D x d;rw[jB,sB h,Ve,Vd]at d;rcases d with d|d;obtain⟨k,u,w⟩:=Wc.1 d;have O:=pP h u;have:=H k U x w;obtain⟨_,t,E,C,rfl⟩:=pO.1 u;clear d w;(induction this with|refl=>exact .step E (by rw[C];exact .refl)|step hu _ N=>exact .step hu N);rw[d];exact .refl
theorem vX(h:cM L last){p:Int}(d:x∈jY L last p):fP L x/\p<x/\x<=last/\1<=x:=by rw[sB h]at d;obtain⟨k,C,d⟩:=Wc.1 d;have H:=pP h C;have w:=Bv h _ k (Vi _) x d;have N:=w.le h;have D:fP L x:=(by cases w with|refl=>obtain⟨_,t,u,_,E⟩:=pO.1 C;exact⟨t,u,E⟩|step u _=>exact⟨_,u,rfl⟩);have:=z6 h D;grind
theorem QY(h:cM L last):∀(n:Nat) (p:Int),(last-p).toNat<=n->(jB L last p).Nodup:=by intro n;induction n with|zero=>intro p W;rw[jB,sB h,uy h U];simp|succ n ar=>intro p W;(have O:∀x∈jY L last p,x≠p:=λx d=>by have:=(vX h d).2.1;omega);rw[jB,VI];refine⟨?_,by simp,λx d y w=>by rw[Vd.1 w];exact O x d⟩;rw[sB h,List.Nodup,List.pairwise_flatMap];refine⟨λk P=>?_,?_⟩;have:=pP h P;exact ar k U;refine(Fw h.bq p).imp_of_mem (λ{bN au} C D V x d y w e=>?_);subst e;have E:=Bv h _ bN (Vi _) x d;have a2:=Bv h _ au (Vi _) x w;obtain⟨_,t1,ao,Z,H⟩:=pO.1 C;obtain⟨_,t2,aq,ag,N⟩:=pO.1 D;have g1:=pP h C;have g2:=pP h D;rcases Ka h.bq E a2 with e|⟨t,u,e,a⟩|⟨t,u,e,a⟩;exact V e;rw[h.bq.inj u ao (e.trans H.symm),Z]at a;have:=a.le h;omega;rw[h.bq.inj u aq (e.trans N.symm),ag]at a;have:=a.le h;omega
theorem Do(h:cM L last)(p:Int):(jY L last p).Nodup:=(VI.1 (QY h _ p (Vi _))).1
theorem qP{l m:List Int}(h:l.Nodup)(hs:∀x∈l,x∈m):l.length<=m.length:=by induction l generalizing m with|nil=>simp|cons a l E=>obtain⟨w,C⟩:=Vw.1 h;obtain⟨s,t,rfl⟩:=List.append_of_mem (hs a cE);have:=E (m:=s++t) C (λx u=>by have d:=hs x (by simp[u]);have D:x≠a:=λe=>w (e▸u);simp at d⊢;rcases d with d|d|d;exact .inl d;exact absurd d D;exact .inr d);simp at this⊢;omega
theorem Dn(h:cM L last)(p:Int):(jY L last p).length<=L.length:=by have:=qP (Do h p) (m:=L.map (·.id)) (λx u=>by obtain⟨t,d,e⟩:=(vX h u).1;exact Vs.2 ⟨t,d,e⟩);simp_all
theorem Kr(h:cM L last)(p:Int):(hP L last p).length<=L.length:=by grind[hP,Dn]
def HN(o:Int×Int):List Value:=ints [o.1,o.2]
theorem HO(o:Int×Int):(HN o).length=2:=rfl
def nJ(S:List (Int×Int)):List Value:=S.flatMap HN
theorem SP(S:List (Int×Int)):(nJ S).length=S.length*2:=kC HO S
theorem SQ(S T:List (Int×Int)):nJ S++nJ T=nJ (S++T):=by simp[nJ]
theorem Ks(h:cM L last){p:Int}(d:x∈hP L last p):fP L x/\p<x/\x<=last/\1<=x:=by rw[hP]at d;split at d;exact vX h d;trivial
variable{id:Int}
theorem Kt(h:¬fP L id):hP L last id=[]:=al h
structure nT(L:List Fn)(last id:Int)(W O:List Int):Prop where
  eq:W.flatMap (jB L last)++O.reverse=jB L last id
  mem:∀x∈W,fP L x
theorem nT.start(h:fP L id):nT L last id [id] []:=⟨by simp,by simpa using h⟩
theorem nT.next(av:cM L last){W O:List Int}(h:nT L last id (W++[x]) O):nT L last id (W++c5 L x) (O++[x]) where
 eq:=by
  have:=h.eq
  rw[Xc,VD,List.flatMap_nil,List.append_nil,jB,sB av]at this
  rw[Xc,List.reverse_append,<-this]
  simp
 mem:=λy w=>by
  rcases Ve.1 w with d|d
  ·exact h.mem y (by simp[d])
  obtain⟨_,t,u,_,e⟩:=pO.1 d;exact⟨t,u,e⟩
theorem nT.len(av:cM L last){W O:List Int}(h:nT L last id W O):W.length+O.length<=L.length+1:=by have d:=congrArg WY h.eq;have u:=Dn av id;have w:W.length<=(W.flatMap (jB L last)).length:=(by clear h d;induction W with|nil=>simp|cons a W C=>rw[VD,mp,Vy,jB,mp,Vl];omega);grind[jB]
theorem nT.done{O:List Int}(h:nT L last id [] O):O.reverse=jB L last id:=by simpa using h.eq
structure nS(xs:List Int)(i:Nat)(o7:List Int):Prop where
  len:o7.length=xs.length
  at_:∀k,k<xs.length->o7[k]? =if k<i\/xs.length-i<=k then xs[xs.length-1-k]? else xs[k]?
theorem nS.start(xs:List Int):nS xs 0 xs:=⟨rfl,λk d=>by rw[al U]⟩
theorem nS.next{xs:List Int}{i:Nat}{d:List Int}(h:nS xs i d){u v:Int}(O:i+i+1<xs.length)(hu:d[i]? =some u)(hv:d[xs.length-1-i]? =some v):nS xs (i+1) ((d.set i v).set (xs.length-1-i) u) where
 len:=by rw[V6,V6];exact h.len
 at_:=λk N=>by have P:=h.len;have E:=h.at_ i U;have H:=h.at_ (xs.length-1-i) U;rw[al U]at E H;by_cases w:k=xs.length-1-i;subst w;rw[VZ AV,ax U,show xs.length-1-(xs.length-1-i)=i by omega,<-E,hu];rw[Wm (λe=>w e.symm)];by_cases C:k=i;subst C;rw[VZ U,ax U,<-H,hv];rw[Wm (λe=>C e.symm),h.at_ k N];by_cases D:k<i\/xs.length-i<=k;rw[ax D,ax U];rw[al D,al U]
theorem nS.done{xs:List Int}{i:Nat}{u:List Int}(h:nS xs i u)(w:xs.length<=i+i+1):u=xs.reverse:=by apply Yv;intro k;by_cases d:k<xs.length;rw[h.at_ k d,List.getElem?_reverse d];grind;rw[Xj (by rw[h.len];omega),Xj (by rw[Xb];omega)]
end Go.Proofs.Q.b1
namespace Go.Proofs.Q.b1
open Go Go.QM
theorem RB(ad:Option Addr)(cap:Nat)(xs:List Int)(H:xs.length<=1000000000):bn 119 [.slice ad xs.length cap] ba [aZ 3 1 ad xs.length cap (ints xs)] (.tuple #[]) [aZ 3 1 ad xs.length cap (ints xs.reverse)]:=by
 apply aF Tryz.func119 Tryz.ntmps119;intro F _;refine J [1,33,305,243,173,72] ?_;refine VP (ι:=Nat×List Int) (λs=>nS xs s.1 s.2/\s.1<=xs.length) (λs=>[(0,.slice ad xs.length cap),(2,aa ((s.1:Nat):Int)),(3,aa ((xs.length:Int)-1-((s.1:Nat):Int)))]) (λs=>ah [aZ 3 1 ad xs.length cap (ints s.2),F]) (λs=>xs.length-s.1) ⟨0,xs⟩ ⟨nS.start xs,Vj _⟩ ⟨rfl,rfl,congrArg (V3 .i64) cK,trivial⟩ (an (an (aX _))) ?_;rintro⟨i,d⟩ ⟨w,C⟩ Z;dsimp only[cy]at w C⊢;apply J [128,3,183];apply Vf rfl<;>intro N;·have W:=w.len;have P:=dP d;obtain⟨u,hu⟩:∃u,d[i]? =some u:=⟨d[i],Vc U⟩;obtain⟨v,hv⟩:∃v,d[xs.length-1-i]? =some v:=⟨d[xs.length-1-i],Vc U⟩;(have E:d[((xs.length:Int)-1-(i:Int)).toNat]? =some v:=by simp_all);(have V:(ints (d.set i v)).length=d.length:=by rw[dP,V6]);(have O:0<(ints d).length:=by omega);refine J [60,600,205,205,205,601] ?_;refine bY rfl rfl rfl (dB rfl rfl (gW E)) ?_;apply J [205];refine bY rfl rfl rfl (ht 3 1 rfl rfl rfl U eA) ?_;refine bY rfl rfl rfl (dB rfl rfl (gW hu)) ?_;refine bY rfl rfl rfl (ht 3 1 rfl rfl rfl U eA) ?_;refine J [90,505,601,90] ?_;refine eg (v:=.int _ _) (vs:=[_]) 1 rfl rfl rfl rfl rfl rfl am U (wM (i:=xs.length-1-i) AV U _) ?_;refine J [293,279,3,243,173] ?_;exact⟨rfl,⟨i+1,(d.set i v).set (xs.length-1-i) u⟩,⟨w.next U hu hv,by dsimp only;omega⟩,cK,⟨rfl,rfl,congrArg (V3 .i64) cK,trivial⟩,(an (an (aX _)))⟩
 have D:=w.done U;subst D;apply J [344];exact yq
theorem Es(b:Nat)(L:List Fn)(last:Int)(id:Int)(bd:L.length<=1000000):bH 75 [ae b,aa id] ba [hp b L last] (λy:Option Addr×Nat=>.slice y.1 (hP L last id).length y.2) (λ_=>True) (λy=>[aZ 3 1 y.1 (hP L last id).length y.2 (ints (hP L last id)),hp b L last]):=by
 apply aF Tryz.func75 Tryz.ntmps75;intro F _;apply J [1,115];refine ab.scope (ι:=(List Int×(Option Addr×Nat))×(List Int×(Option Addr×Nat))) 0 (λs=>nT L last id s.1.1 s.2.1/\fP L id) (λs=>[(0,ae b),(1,aa id),(5,.slice s.2.2.1 s.2.1.length s.2.2.2),(6,.slice s.1.2.1 s.1.1.length s.1.2.2)]) (λs=>ah [aZ 3 1 s.1.2.1 s.1.1.length s.1.2.2 (ints s.1.1),aZ 3 1 s.2.2.1 s.2.1.length s.2.2.2 (ints s.2.1),hp b L last,F]) (λs=>(s.1.1.flatMap (jB L last)).length) kk ?_ ?_;·rintro⟨⟨W,⟨bA,bQ⟩⟩,⟨O,⟨hX,fq⟩⟩⟩ ⟨d,H⟩ bo;dsimp only[cy]at d H⊢;apply J [7,33,305,167,2];apply Vf rfl<;>intro a8;(·obtain⟨V,x,rfl⟩:∃V x,W=V++[x]:=(by(have Z:W≠[]:=by grind);exact⟨W.dropLast,W.getLast Z,(Ym Z).symm⟩);(have a0:(V++[x]).length=V.length+1:=by simp_all);(have a5:(V++[x])[(((V.length+1:Nat):Int)-1).toNat]? =some x:=by simp_all);have bl:=dP (V++[x]);obtain⟨t,ao,a7⟩:=d.mem x cE;subst a7;obtain⟨M,bK⟩:=fA ao;rw[a0];refine ab.nj 0 rfl (λ_ bn a3=>?_);simp only[maxLen]at a3;(have bj:0<(ints (V++[t.id])).length:=by omega);refine J [33,93,305,243,506] ?_;refine q rfl rfl (dB rfl rfl (gW a5)) ?_;apply J [31];have N:aG (aZ 3 1 bA (V.length+1) bQ (ints (V++[t.id]))) (aZ 3 1 bA V.length bQ (ints V)):=(by have:=p1 (E:=3) (sz:=1) (ad:=bA) (n:=V.length+1) (cap:=bQ) (cs:=ints (V++[t.id])) (j:=V.length) U;grind[ur]);refine WD (eI 0 rfl N (an (an (an (aX _))))) ?_;refine ab.open 2 rfl (λA _=>?_);apply J [83];refine ab.open 0 rfl (λD w=>?_);obtain⟨ad,cap,aC,bz⟩:=D;have av:=w;apply J [144];dsimp only at av⊢;have P:=d.len av;have u:=pF (A:=A) ⟨t,ao,rfl⟩;have bc:=ux L t.id;have a9:=dP (c5 L t.id);rw[mp,Vl]at P;apply J [387,530];refine cC [0,1,2,3,4,5,6,7,8,9,10,11,12,13,-14,15] (bv (c0 (c0 (aX _)))) ?_;apply J [367,367];refine bY rfl rfl rfl (len 3 1 rfl rfl) ?_;refine J [438] ?_;refine bY rfl rfl rfl (nG 3 1 (V.length) rfl rfl rfl U U) ?_;apply J [49,16,531];rw[u];refine J [88,333,17,602] ?_;intro ar aw;refine J [10,369,73,33,68] ?_;intro bb;refine J [0,532] ?_;intro au ay;apply J [174];refine ab.goto (gt (OW ?_));exact⟨rfl,⟨⟨V++c5 L t.id,(ar,aw)⟩,⟨O++[t.id],(au,ay)⟩⟩,⟨d.next av,H⟩,(by have aL:=congrArg WY d.eq;have aP:=congrArg WY (d.next av).eq;simp only[mp,Xb,Vl]at aL aP⊢;omega),⟨rfl,rfl,congrArg (λn=>V0 _ n _) sX,congrArg (λn=>V0 _ n _) uD,trivial⟩,(b6 2 rfl (by dsimp only;rw[pM,mp]) (b6 0 rfl (by dsimp only;rw[pM,mp];rfl) (az A trivial (az ⟨ad,cap,aC,bz⟩ av (eE (eE (eE (cY 3 3 t rfl rfl rfl (λ_ _=>rfl) bK.symm (cY 1 1 t rfl rfl rfl (λ_ _=>rfl) bK.symm (bU (aX _)))))))))))⟩);obtain rfl:W=[]:=YR.1 U;have ag:=d.done;have aW:O.length=(jY L last id).length+1:=(by have:=congrArg WY ag;grind[jB]);have a2:hP L last id=jY L last id:=ax H;(have bi:(jB L last id).length=(jY L last id).length+1:=by grind);rw[a2];refine ab.open 2 rfl (λA _=>?_);apply J [83];refine ab.open 0 rfl (λD w=>?_);obtain⟨ad,cap,aC,bz⟩:=D;have av:=w;apply J [144];dsimp only at av⊢;have P:=d.len av;rw[WX]at P;apply J [4,33,0];apply aq (RB hX fq O U);apply J [76];rw[ag,aW];have N:aG (aZ 3 1 hX ((jY L last id).length+1) fq (ints (jB L last id))) (aZ 3 1 hX (jY L last id).length fq (ints (jY L last id))):=(by have:=p1 (E:=3) (sz:=1) (ad:=hX) (n:=(jY L last id).length+1) (cap:=fq) (cs:=ints (jB L last id)) (j:=(jY L last id).length) U;grind[ur,jB]);apply J [30];refine ab.nj 0 rfl (λ_ bh _=>?_);refine J [113,93,305,243] ?_;refine q rfl rfl (nG 3 1 ((jY L last id).length) rfl rfl rfl U U) ?_;apply J [174];refine ab.ret (Fq ?_);exact br ⟨hX,fq⟩ trivial (eI 0 rfl N (az A trivial (az ⟨ad,cap,aC,bz⟩ av (an (an (an (an (an (bU (aX _))))))))))
 intro a4;refine ab.open 0 rfl (λA _=>?_);apply J [1];refine ab.open 0 rfl (λD w=>?_);obtain⟨ad,cap,aC,bz⟩:=D;have av:=w;apply J [157];dsimp only at av⊢;by_cases C:fP L id;have u:=pF (A:=A) C;apply J [7,32];apply aq (pG b aC bz L.length last (iD A L) id);apply J [15];rw[u];refine J [156,107,115,138,150] ?_;intro bD;apply J [182];refine ab.label (hW ?_);exact ab.enter a4 ⟨⟨[id],(some ⟨bD,0,none⟩,1)⟩,⟨[],(none,0)⟩⟩ ⟨nT.start C,C⟩ ⟨rfl,rfl,rfl,rfl,trivial⟩ ((dI 3 1 _).trans (bU (an (az A trivial (az ⟨ad,cap,aC,bz⟩ av (an (an (an (an (an (an (aX _))))))))))));have u:=qz (A:=A) C;rw[Kt C];apply J [7,32];apply aq (pG b aC bz L.length last (iD A L) id);apply J [15];rw[u];apply J [156,2,57,174];refine ab.ret (rt (Fq ?_));exact br ⟨none,0⟩ trivial ((dI 3 1 _).trans (an (az A trivial (az ⟨ad,cap,aC,bz⟩ av (an (an (an (an (an (an (aX _)))))))))))
end Go.Proofs.Q.b1
namespace Go.Proofs.Q
open Go Go.QM
variable [cJ]
theorem Bd(k:IntKind){xs:List Int}{i:Nat}(h:i<xs.length){o:Nat}(d:o=i*1)(v:Int):dM o [.int k v] (cL k xs)=cL k (xs.set i v):=by
 subst d;rw[Nat.mul_one];apply Yv;intro j;have u:(cL k xs).length=xs.length:=by grind[iE]
 rw[dM,cL,cL,List.getElem?_map,List.getElem?_set,List.append_assoc];grind
theorem Gi(k:IntKind)(xs:List Int)(n:Nat):(cL k xs).take (n*1)=cL k (xs.take n):=by simp[cL,List.map_take]
theorem Qe(k:IntKind){xs:List Int}{n:Nat}(h:xs.length=n):(cL k xs).take (n*1)=cL k xs:=VS (by rw[iE];omega)
theorem Gh(k:IntKind)(xs:List Int):(cL k xs).all VO=true:=by simp[cL,List.all_eq_true,VO]
variable{A:bR}
theorem ch.neg(h:ch A)(x:Int)(D:x<0)(k:Int):(b3 A.l x k).2≠0:=λe=>by
 have u:(au.cV A.l x).2=0:=by
  unfold b3 at e
  split at e
  ·dsimp only at e;exact absurd e am
  exact e
 rw[au.cV]at u
 cases d:au.dV A.l x 1 with
 | none=>rw[d]at u;exact absurd u am
 | some y=>
  unfold au.dV at d
  split at d
  ·rename_i p w
   split at d
   ·rename_i C
    have:=(h.ok.cU p (Vg w)).1
    omega
   cases d
  cases d
theorem ch.wW{top:Nat}{S:cN}(h:ch A)(aN:cd top A S):lH (eP A) (jw A):=h.O4 aN.bN λx d=>h.neg x d 1
theorem yb(h:ch A)(u:lH (eP A) (jw A)):∀(n:Nat) (x z:Int),jw A x<=n->z∈hc (eP A) (jw A) x->z=x\/z∈au.dy A.l 1
 | n,x,z,ao,w=>by rcases rX u _ x z (Vi _) w with e|⟨y,d,_⟩;exact .inl e;exact .inr (ob.1 d).2.1
theorem Bw(h:ch A)(C:lH (eP A) (jw A))(x:Int):(hc (eP A) (jw A) x).length<=257:=by have H:=Bx C _ x (Vi _);rw[oY C]at H⊢;obtain⟨O,_,_⟩:=VI.1 H;have P:(((eP A x).flatMap (hc (eP A) (jw A))).map Int.toNat).Nodup:=(by rw[List.Nodup,List.pairwise_map];refine List.Pairwise.imp_of_mem ?_ O;intro a b V W Z e;have bJ:∀c∈(eP A x).flatMap (hc (eP A) (jw A)),0<=c:=λc D=>(by obtain⟨y,E,d⟩:=Wc.1 D;have u:=(ob.1 E).2.1;rcases yb h C _ y c (Vi _) d with e|N;rw[e];exact(nW h.ok u).1;exact(nW h.ok N).1);grind);have d:=vh P (m:=(au.dy A.l 1).map Int.toNat) λw hw=>(by obtain⟨c,D,rfl⟩:=Vs.1 hw;obtain⟨y,E,d⟩:=Wc.1 D;have u:=(ob.1 E).2.1;rcases yb h C _ y c (Vi _) d with e|N;all_goals grind);have u:=au.po A.l 1;rw[h.ok.n]at u;grind
theorem NY(ad:Option Addr)(cap:Nat)(xs:List Int)(H:xs.length<=1000000000):bn 309 [.slice ad xs.length cap] ba [aZ 33 1 ad xs.length cap (cL .u32 xs)] (.tuple #[]) [aZ 33 1 ad xs.length cap (cL .u32 xs.reverse)]:=by
 apply aF Tryz.func309 Tryz.ntmps309;intro F _;refine J [1,33,252,243,173,72] ?_;refine VP (ι:=Nat×List Int) (λs=>b1.nS xs s.1 s.2/\s.1<=xs.length) (λs=>[(0,.slice ad xs.length cap),(2,aa ((s.1:Nat):Int)),(3,aa ((xs.length:Int)-1-((s.1:Nat):Int)))]) (λs=>ah [aZ 33 1 ad xs.length cap (cL .u32 s.2),F]) (λs=>xs.length-s.1) ⟨0,xs⟩ ⟨b1.nS.start xs,Vj _⟩ ⟨rfl,rfl,congrArg (V3 .i64) cK,trivial⟩ (an (an (aX _))) ?_;rintro⟨i,d⟩ ⟨w,C⟩ Z;dsimp only[cy]at w C⊢;apply J [128,3,183];apply Vf rfl<;>intro N;·have W:=w.len;have P:=iE .u32 d;obtain⟨u,hu⟩:∃u,d[i]? =some u:=⟨d[i],Vc U⟩;obtain⟨v,hv⟩:∃v,d[xs.length-1-i]? =some v:=⟨d[xs.length-1-i],Vc U⟩;(have E:d[((xs.length:Int)-1-(i:Int)).toNat]? =some v:=by simp_all);(have V:(cL .u32 (d.set i v)).length=d.length:=by rw[iE,V6]);(have O:0<(cL .u32 d).length:=by omega);refine J [60,600,205,205,205,603] ?_;refine bY rfl rfl rfl (dB rfl rfl (nB E)) ?_;refine J [205,533] ?_;refine bY rfl rfl rfl (dB rfl rfl (nB hu)) ?_;refine J [533,90] ?_;refine QM.eg (v:=.int _ _) (vs:=[_]) 1 rfl rfl rfl rfl rfl rfl am U (Bd .u32 (i:=i) U U _) ?_;refine J [603,90] ?_;refine QM.eg (v:=.int _ _) (vs:=[_]) 1 rfl rfl rfl rfl rfl rfl am U (Bd .u32 (i:=xs.length-1-i) AV U _) ?_;refine J [293,279,3,243,173] ?_;exact⟨rfl,⟨i+1,(d.set i v).set (xs.length-1-i) u⟩,⟨w.next U hu hv,by dsimp only;omega⟩,cK,⟨rfl,rfl,congrArg (V3 .i64) cK,trivial⟩,(an (an (aX _)))⟩
 have D:=w.done U;subst D;apply J [344];exact yq
variable(aH af:Nat)
theorem DS(top:Nat)(A:bR)(h:Int)(a8:0<=h/\h<=4294967295):bH 259 [ae aH,aS h] ba [fZ aH af top A] (λy:Option Addr×Nat=>.slice y.1 (fu A h).length y.2) (λ_=>True) (λy=>[aZ 33 1 y.1 (fu A h).length y.2 (cL .u32 (fu A h)),fZ aH af top A]):=by
 apply aF Tryz.func259 Tryz.ntmps259;intro F _;apply J [1];refine ab.lU 0 rfl (λaw=>?_);obtain⟨_,aN,u⟩:=aw;have d:=u.wW aN;have bh:=Bw u d h;have bi:hc (eP A) (jw A) h=fu A h++[h]:=oY d h;have aP:∀z∈hc (eP A) (jw A) h,0<=z/\z<=4294967295:=λz a2=>(by rcases yb u d _ h z (Vi _) a2 with e|e;omega;exact nW u.ok e);refine J [115,115,138,150] ?_;intro bb;apply J [182,72];refine VP (ι:=(List Int×Option Addr×Nat)×(List Int×Option Addr×Nat)) (λs=>s.1.1.flatMap (hc (eP A) (jw A))++s.2.1.reverse=hc (eP A) (jw A) h) (λs=>[(0,ae aH),(1,aS h),(5,.slice s.2.2.1 s.2.1.length s.2.2.2),(6,.slice s.1.2.1 s.1.1.length s.1.2.2)]) (λs=>ah [aZ 33 1 s.1.2.1 s.1.1.length s.1.2.2 (cL .u32 s.1.1),aZ 33 1 s.2.2.1 s.2.1.length s.2.2.2 (cL .u32 s.2.1),fZ aH af top A,F]) (λs=>(s.1.1.flatMap (hc (eP A) (jw A))).length) (([h],some ⟨bb,0,none⟩,1),([],none,0)) cE bI ((dI 33 1 _).trans (bU (an (an (an (aX _)))))) ?_;rintro⟨⟨W,bA,bQ⟩,⟨O,hX,fq⟩⟩ w bt;dsimp only[cy]at w⊢;apply J [7,33,252,167,2];apply Vf rfl<;>intro a5;obtain⟨V,x,rfl⟩:∃V x,W=V++[x]:=(by(have H:W≠[]:=by grind);exact⟨W.dropLast,W.getLast H,(Ym H).symm⟩);have au:(V++[x]).length=V.length+1:=b2
 have aW:(V++[x])[(((V.length+1:Nat):Int)-1).toNat]? =some x:=b2
 have bl:=iE .u32 (V++[x]);have a0:=aP x (by rw[<-w];exact Ve.2 (.inl (Wc.2 ⟨x,by simp,uW d x⟩)));have hlen:∀L:List Int,L.length<=(L.flatMap (hc (eP A) (jw A))).length:=λL=>(by induction L with|nil=>exact Vj _|cons a L bo=>have:=List.length_pos_of_mem (uW d a);rw[VD,mp,Vy];omega);have D:=congrArg WY w;have a4:=hlen V;have hIn:(V++eP A x).flatMap (hc (eP A) (jw A))++(O++[x]).reverse=hc (eP A) (jw A) h:=(by grind[oY]);have a9:(eP A x).length<=257:=Wu (hlen _) (Wu (by have:=congrArg WY (oY d x);rw[mp]at this;omega) (Bw u d x));rw[mp,Xb,Xc,mp]at D;rw[au];refine ab.nj 0 rfl (λ_ bn ay=>?_);simp only[maxLen]at ay;have bj:0<(cL .u32 (V++[x])).length:=U
 refine J [4,72,33,93,252,243] ?_;refine q rfl rfl (kI 33 1 rfl rfl rfl U U eA) ?_;refine q rfl rfl (dB rfl rfl (nB aW)) ?_;apply J [31];have C:aG (aZ 33 1 bA (V.length+1) bQ (cL .u32 (V++[x]))) (aZ 33 1 bA V.length bQ (cL .u32 V)):=(by have:=p1 (E:=33) (sz:=1) (ad:=bA) (n:=V.length+1) (cap:=bQ) (cs:=cL .u32 (V++[x])) (j:=V.length) U;grind[Gi]);refine WD (eI 0 rfl C (an (an (an (aX _))))) ?_;refine cC [0,1,2,3,4,5,6,-7,-8,9] (aX _) ?_;apply J [367,367];refine bY rfl rfl rfl (len 33 1 rfl rfl) ?_;refine J [438] ?_;refine bY rfl rfl rfl (nG 33 1 (V.length) rfl rfl rfl U U) ?_;apply J [78,264];apply a7 (DH aH af top A x a0);intro z9 _;refine J [282] ?_;have bc:=iE .u32 (eP A x);refine J [17,534] ?_;intro N Z;refine J [10,369,73,113,68] ?_;intro bD;refine J [0,479] ?_;intro P ag;apply J [85,246];exact⟨rfl,((V++eP A x,N,Z),(O++[x],P,ag)),hIn,(by dsimp only;have ao:=congrArg WY hIn;simp only[mp,Xb,Vl,Xc]at ao D⊢;omega),⟨rfl,rfl,congrArg (λn=>V0 _ n _) sX,congrArg (λn=>V0 _ n _) uD,trivial⟩,(b6 2 rfl (by dsimp only;rw[od,mp]) (b6 0 rfl (by dsimp only;rw[od,mp];rfl) (bv (bv (aX _)))))⟩;obtain rfl:W=[]:=YR.1 U;have aL:O.reverse=fu A h++[h]:=b2
 have ar:O.length=(fu A h).length+1:=b2;have a3:O.length<=257:=b2
 apply J [210,0];apply aq (NY hX fq O U);apply J [14];rw[aL,ar];have C:aG (aZ 33 1 hX ((fu A h).length+1) fq (cL .u32 (fu A h++[h]))) (aZ 33 1 hX (fu A h).length fq (cL .u32 (fu A h))):=(by have:=p1 (E:=33) (sz:=1) (ad:=hX) (n:=(fu A h).length+1) (cap:=fq) (cs:=cL .u32 (fu A h++[h])) (j:=(fu A h).length) U;grind[Gi]);apply J [30];refine ab.nj 0 rfl (λ_ bd _=>?_);refine J [113,93,252,243] ?_;refine q rfl rfl (nG 33 1 ((fu A h).length) rfl rfl rfl U U) ?_;apply J [61];exact br (hX,fq) trivial (eI 0 rfl C ai)
def A9(A:bR)(h:Int):Prop:=∀i s (x r:Nat),A.aL i s=dO x r->1<=r->r<=15->x<4294967295->(x:Int)≠h
structure CH(A:bR)(h:Int)(bl:bR):Prop where
  ex:∃(k:Nat) (o:au.e7) (g:Int) (a6:Nat->Nat->Nat),A.l[k]? =some ⟨o,1,g⟩/\h=g*256+k/\k<256/\(∀i,i≠k->a6 i=A.a6 i)/\bl={A with l:=A.l.set k ⟨o,2,g⟩,a6:=a6,q:=A.q++[(h,A.now+A.pd)]}
theorem L9{h:Int}{k:Nat}{p:au.bV}(e:au.dV A.l h 1=some (k,p)):(au.hT A.l h).1=A.l.set k ⟨p.o,2,p.cU⟩:=by rw[au.hT,e]
theorem K1(top:Nat)(A:bR)(h:Int)(w:0<=h/\h<=4294967295)(V:(au.cV A.l h).2=0)(ay:h≠0)(hm:eP A h=[])(ao:A9 A h)(W:∀s,A.aL (h %256).toNat s=0):bH 348 [ae aH,aS h] ba [fZ aH af top A] (λ_:bR=>aa 0) (λC=>CH A h C) (λC=>[fZ aH af top C]):=by apply aF Tryz.func348 Tryz.ntmps348;intro F _;apply J [1,53];apply aq (jZ aH af top A h w 0);apply J [5];rw[iS];refine J [230] ?_;intro bb;apply J [116,236];refine Vf rfl (λN=>absurd N (λh=>h V)) (λN=>?_);apply J [27,175];refine Vf rfl (λO=>absurd O (ay)) (λO=>?_);apply J [32];apply a7 (DH aH af top A h w);intro bj _;apply J [14];rw[hm];apply J [252,167,38];refine Vf rfl (λP=>absurd P (am)) (λP=>?_);apply ab.open 1 rfl;rintro⟨H,bx,S⟩ ⟨aN,d⟩;apply J [245];dsimp only at aN d⊢;apply J [20,65,29];apply aq (au.O9 H A.l h d.ok w);refine J [18,2,100,221,150] ?_;intro bD;obtain⟨k,p,Z,D,E,ag,u,ar,aw⟩:=oO w.1 V;obtain⟨o,s,g⟩:=p;dsimp only at E u aw;subst E;have a9:=d.pd;have bc:=d.bd;have bh:=d.G1;have a8:k≠0:=λe=>(by obtain⟨⟨a,bJ⟩,_⟩:=d.rt;simp_all);rw[L9 Z];rw[ar]at W;refine e rfl ?_;apply ew (gm.vP bx A.pd A.now A.q (cF bD) 1 [h] a9.1 U U (Vp rfl)) ⟨_,bi.rd (ad:=some ⟨bD,0,none⟩)⟩;apply J [76,118];have a3:=d.tZ D a8 (λi s x r aP aW a0 a2=>by rw[<-u];exact ao i s x r aP aW a0 a2) W (λi=>if i=k then λx=>S.m (o.a.toNat+x)else A.a6 i);have a4:=aN.tZ (bl:={A with l:=A.l.set k ⟨o,2,g⟩,a6:=λi=>if i=k then λx=>S.m (o.a.toNat+x)else A.a6 i,q:=A.q++[(g*256+k,A.now+A.pd)]}) ⟨g,D⟩ rfl rfl rfl rfl ⟨rfl,rfl,rfl⟩;exact br {A with l:=A.l.set k ⟨o,2,g⟩,a6:=λi=>if i=k then λx=>S.m (o.a.toNat+x)else A.a6 i,q:=A.q++[(g*256+k,A.now+A.pd)]} ⟨⟨k,o,g,_,D,u,ag,λi a5=>al a5,by rw[u]⟩⟩ (az (⟨H,bx,S⟩:eR) ⟨a4,a3⟩ (c0 (c0 (bv (b6 0 rfl (by dsimp only;rw[u];rfl) ai)))))
theorem RA{n:Int}{l:List (Int×Int)}(hs:l.Pairwise λa b=>a.2<=b.2):∀t∈gm.m4 n l,n<t.2:=by induction l with|nil=>intro t h;cases h|cons a l w=>intro t h;rw[List.pairwise_cons]at hs;rw[gm.m4,List.dropWhile_cons]at h;split at h;exact w hs.2 t h;rename_i u;(have d:n<a.2:=by simpa using u);rcases List.mem_cons.1 h with rfl|h;exact d;have:=hs.1 t h;omega
def qC(D:List Int)(i:Nat)(p:au.bV):au.bV:=if p.st=2/\p.cU*256+(i:Int)∈D then au.i5 p else p
def qf(l l':List au.bV)(D:List Int):Prop:=∀i,l'[i]? =(l[i]?).map (qC D i)
theorem Nj(l:List au.bV):qf l l []:=λi=>by
 cases l[i]? with
 | none=>rfl
 | some p=>rw[WL,qC,al (λh=>absurd h.2 cE)]
theorem zS(p:au.bV):(au.i5 p).st≠2/\(au.i5 p).st≠1:=by grind[au.i5]
theorem Nk{l l':List au.bV}{D:List Int}(h:qf l l' D){k:Nat}{p:au.bV}(H:l'[k]? =some p)(E:p.st=2)(V:k<256)(N:au.dN l):qf l (l'.set k (au.i5 p)) (D++[p.cU*256+(k:Int)]):=λi=>by
 have d:=h i
 by_cases e:i=k
 ·subst e
  rw[H]at d
  cases C:l[i]? with
  | none=>rw[C]at d;cases d
  | some q=>
   rw[C,WL]at d
   have O:p=q:=by
    have:=Ws d
    rw[qC]at this
    split at this
    ·rw[this]at E;exact absurd E (zS q).1
    exact this
   rw[VZ (Vm.1 H).1,WL,qC,<-O,ax ⟨E,by simp⟩]
 rw[Wm λu=>e u.symm,d]
 cases C:l[i]? with
 | none=>rfl
 | some q=>
  rw[WL,WL,qC,qC]
  have P:=N.cU q (Vg C)
  have W:=N.lt C
  have:(p.cU*256+(k:Int)=q.cU*256+(i:Int))->False:=λu=>e U
  have u:(q.cU*256+(i:Int)∈D++[p.cU*256+(k:Int)])↔q.cU*256+(i:Int)∈D:=by
   rw[Ve,Vd]
   exact⟨λh=>h.elim id λh=>(this h.symm).elim,.inl⟩
  by_cases w:q.st=2/\q.cU*256+(i:Int)∈D
  ·rw[ax w,ax ⟨w.1,u.2 w.2⟩]
  rw[al w,al λh=>w ⟨h.1,u.1 h.2⟩]
structure rj(top:Nat)(A:bR)(due rest:List (Int×Int))(j:Nat)(B:bR)(S:cN):Prop where
  NP:j<=due.length
  aN:cd top B S
  U1:ch B
  EP:qf A.l B.l ((due.map (·.1)).take j)
  he:B={A with l:=B.l,Q:=B.Q,q:=due.drop j++rest}
structure tF(A bl:bR):Prop where
  ex:∃(l:List au.bV) (Q:List aw.bS),qf A.l l ((gm.lQ (A.now+1) A.q).map (·.1))/\bl={A with l:=l,Q:=Q,now:=A.now+1,q:=gm.m4 (A.now+1) A.q,np:=A.np+1}
theorem ch.Tk(h:ch A){r:List (Int×Int)}(u:A.q=r)(hr:∀t∈r,A.now+1<t.2)(w:A.np+1<=1000000):ch {A with now:=A.now+1,np:=A.np+1}:=
 ⟨h.ok,h.dQ,h.rt,h.ac,h.c1,h.nl,h.aL,h.hl,h.mD,h.oh,λt d=>⟨hr t (u▸d),by have:=h.oi t d;dsimp only;omega⟩,h.m3,⟨h.pd.1,by have:=h.pd;dsimp only;omega⟩,by have:=h.bd;dsimp only;omega⟩
theorem cd.tick{top:Nat}{S a8:cN}{k c x:Nat}{f g:Int}{P:au.bV}{Q:List aw.bS}{q:List (Int×Int)}(h:cd top A S)(aq:A.l[k]? =some ⟨bz c x f,2,g⟩)(E:ic c)(Z:¬fl P.st){D:cN}(w:D.C=S.C/\D.Fr=S.Fr/\D.m=S.m/\D.bt=S.bt)(p:tC top D f c x a8)(ag:a8.Q=Q):cd top {A with l:=A.l.set k P,Q:=Q,q:=q} a8:=by have W:cd top {A with l:=A.l.set k P} S:=h.free Z rfl rfl rfl rfl ⟨rfl,rfl,rfl⟩;have ao:gf top S D hV hV:=wF h.P w.1 w.2.1 w.2.2.1;have N:∀a,¬fz c x 6 a/\¬fz c x 7 a:=λa=>⟨λh=>by rcases E with E|E<;>have:=h.1<;>omega,λh=>by rcases E with E|E<;>have:=h.1<;>omega⟩;refine W.mY (ao.trans p.g) rfl rfl rfl rfl ⟨ag,by rw[p.q.2,w.2.2.2];exact h.Q.2⟩ (λi s d b V ar H=>?_) (λa=>⟨λh=>h.elim id (N a).1,λh=>h.elim id (N a).2⟩) (by rw[p.u,w.1]) (by have:=p.p;rw[w.1,w.2.1]at this;have:=h.gb;dsimp only;omega);have O:¬fz c x d b:=(by rintro⟨rfl,rfl⟩;rcases H.set with⟨e,H⟩|⟨_,e,_⟩;exact e (h.un i k s 2 d b V f ar (.inr rfl) H ⟨g,aq⟩);simp_all);exact⟨λh=>h.elim id O,λh=>absurd h λh=>h.elim id O⟩
theorem LV(u bx top:Nat)(S:cN)(cO bd ar:Nat)(d:Nat->Nat)(a w:Nat)(k f:Int)(E:2^top<=128)(bJ:a+8<=1024*2^top)(C:a %8=0)(D:cW S.m a=w)(hw:w<2^63):bn 100 [ae aH,.agg (ints (bz k a f).l).toArray] ba [aj aH 135 [ae af,ae u,ae bx],aj af 169 (gI 8 cO bd ar d),fX ar S.m (1024*2^top)] (aa w) [aj aH 135 [ae af,ae u,ae bx],aj af 169 (gI 8 cO bd ar d),fX ar S.m (1024*2^top)]:=by apply aF Tryz.func100 Tryz.ntmps100;intro F _;apply J [83];subst D;refine J [25,259] ?_;intro bb;apply J [31];refine cC [0,1,2,3,5,6,-4,-7,8,9,10,11,12] (an (an (aX _))) ?_;apply J [49,313];apply aq (l9 af cO bd ar d);refine J [298,47] ?_;apply aq (tL ar (1024*2^top) a S.m U bJ C);refine J [282,152,283,274,27] ?_;refine q rfl rfl (conv .u64 .i64 rfl rfl rfl (o4 hw)) ?_;apply J [26];exact dh
theorem LL(top:Nat)(A:bR)(cg:A.np+1<=1000000):bH 160 [ae aH] da [fZ aH af top A] (λy:(Option Addr×Nat)×bR=>.slice y.1.1 ((gm.lQ (A.now+1) A.q).map (·.1)).length y.1.2) (λy=>tF A y.2) (λy=>[aZ 33 1 y.1.1 ((gm.lQ (A.now+1) A.q).map (·.1)).length y.1.2 (cL .u32 ((gm.lQ (A.now+1) A.q).map (·.1))),fZ aH af top y.2]):=by
 apply aF Tryz.func160 Tryz.ntmps160;intro F bZ;apply J [1];haveI:cv F:=⟨bZ⟩;apply ab.open 0 rfl;rintro⟨u,bx,S⟩ ⟨aN,H⟩;apply J [82];dsimp only at aN H⊢;apply J [115,196,101,121,100];have cX:=H.pd;have cQ:=H.bd;have c3:=H.G1;refine e rfl ?_;apply a7 (gm.Cc bx A.pd A.now A.q U U);intro y _;apply J [15,177];have ce:gm.lQ (A.now+1) A.q++gm.m4 (A.now+1) A.q=A.q:=by grind[gm.lQ,gm.m4,List.takeWhile_append_dropWhile]
 have ct:∀t∈gm.m4 (A.now+1) A.q,A.now+1<t.2:=RA H.m3;generalize cf:gm.lQ (A.now+1) A.q=due at*;generalize cr:gm.m4 (A.now+1) A.q=rest at*;have cS:due.length<=256:=cm;have cn:(due.map (·.1)).length=due.length:=b2
 refine VP (ι:=(Nat×bR×cN)×(Option Addr×Nat)) (λs=>rj top A due rest s.1.1 s.1.2.1 s.1.2.2) (λs=>[(0,ae aH),(3,.slice s.2.1 ((due.map (·.1)).take s.1.1).length s.2.2),(15,.slice y.1 (due.map (·.1)).length y.2),(16,aa (due.map (·.1)).length),(17,aa ((s.1.1:Nat):Int))]) (λs=>ah [aZ 33 1 s.2.1 ((due.map (·.1)).take s.1.1).length s.2.2 (cL .u32 ((due.map (·.1)).take s.1.1)),gm.dt bx A.pd (A.now+1) rest,aZ 3 1 y.1 (due.map (·.1)).length y.2 (ints (due.map (·.1))),aj aH 135 [ae af,ae u,ae bx],eT af top s.1.2.2,aZ 264 5 (cF u) 256 256 (au.fh s.1.2.1.l),F]) (λs=>due.length-s.1.1) ((0,A,S),(none,0)) ⟨Vj _,aN,H,Nj _,by rw[List.drop_zero,ce]⟩ bI ((dI 33 1 _).trans ai) ?_;rintro⟨⟨j,B,T⟩,ad,cap⟩ ar de;dsimp only[cy]at ar⊢;apply J [42];apply Vf rfl<;>intro cV;have ch:j<due.length:=U
 obtain⟨⟨x,t⟩,c6⟩:∃z,due[j]? =some z:=⟨due[j],Vc ch⟩;have cB:(due.map (·.1))[j]? =some x:=b2
 have c2:0<(ints (due.map (·.1))).length:=by grind[dP]
 obtain⟨_,d,aQ,kF,E⟩:=ar;have N:B.q=(x,t)::(due.drop (j+1)++rest):=(by grind[List.drop_eq_getElem_cons]);obtain⟨⟨⟨k,p⟩,ck⟩,aL⟩:=(aQ.mD x).2 (by rw[N];simp);obtain⟨D,aP,ci,bl⟩:=au.nw aL ck;obtain⟨o,c9,g⟩:=p;dsimp only at bl aP;subst bl;have cc:=aQ.ok.cU _ (Vg D);dsimp only at cc;obtain⟨c,a9,f,rfl,O,a3⟩:=d.obj k 2 o (.inr rfl) ⟨g,D⟩;have oP:au.pI B.l x=(B.l.set k (au.i5 ⟨bz c a9 f,2,g⟩),bz c a9 f,0):=by grind[au.pI]
 have ao:(due.map (·.1)).take (j+1)=(due.map (·.1)).take j++[x]:=by grind[List.take_succ]
 have bh:¬fl (au.i5 ⟨bz c a9 f,2,g⟩).st:=by grind[fl,zS]
 have c5:((due.map (·.1)).take j).length<=256:=cm
 have cP:=d.P;have ay:=Nk kF D rfl ci H.ok;dsimp only at ay;rw[<-aP,<-ao]at ay;refine J [188] ?_;refine q rfl rfl (dB rfl rfl (gW cB)) ?_;refine J [64,476,28,65,29] ?_;apply aq (au.No u B.l x aQ.ok ⟨aL,by omega⟩);apply J [18];rw[oP];refine J [230] ?_;intro bD;apply J [116,39];refine Vf rfl (λag=>absurd ag (λh=>h rfl)) (λag=>?_);apply J [44,71,212];apply Vf rfl<;>intro ag;obtain rfl:c=1:=by have bJ:((c:Nat):Int)=1:=ag;omega
 have co:=d.mC k 2 a9 f (.inr rfl) ⟨g,D⟩;have cW:=aQ.Bn (.inr rfl) ⟨g,D⟩;have cR:=c8.bd d.P a3;have cM:bj 1=64:=rfl;obtain⟨ef,a8⟩:=aQ.free D O (by rw[<-aP];exact N) (ml:=(aw.iC T.Q (B.own k)).1) (by rw[d.Q.1];rfl);obtain⟨cl,w⟩:∃cl:cN,cl=⟨(aw.iC T.Q (B.own k)).1,T.bt,T.C,T.Fr,T.m⟩:=⟨_,rfl⟩;have bc:dd top cl:=by grind[dd]
 refine ab.open 6 rfl (λcD aL=>?_);obtain⟨cO,bd,aW,a0⟩:=cD;have ba:=aL;apply J [346];dsimp only at ba⊢;have cx:=ba.gd;have cA:2^top<=128:=Vk (n:=2) am cx.2;refine cC [0,1,2,3,4,5,6,7,8,-9,-10] (show aG (ah _) (ah [aj bD 60 (ints (bz ((1:Nat):Int) a9 f).l),aj aH 135 [ae af,ae u,ae bx],aj af 169 (gI 8 cO bd aW a0)])from ai) ?_;apply J [49,88,109,78,300,17];apply aq (LV aH af u bx top T cO bd aW a0 a9 (B.own k) 1 f cA U U co U);refine J [444,47] ?_;apply aq (aw.Q9 cO T.Q T.bt (B.own k:Int));refine J [444,110,267] ?_;refine aU.bg (B:=ah [aj aH 135 [ae af,ae u,ae bx],eT af top cl,aZ 33 1 ad ((due.map (·.1)).take j).length cap (cL .u32 ((due.map (·.1)).take j)),gm.dt bx A.pd (A.now+1) rest,aZ 3 1 y.1 (due.map (·.1)).length y.2 (ints (due.map (·.1))),aZ 264 5 (cF u) 256 256 (au.fh (B.l.set k (au.i5 ⟨bz ((1:Nat):Int) a9 f,2,g⟩))),F]) (by subst w;exact(bU (az (dG.mk cO bd aW a0:dG af) bc ai))) ?_;have W:cl.C=T.C/\cl.Fr=T.Fr/\cl.m=T.m/\cl.bt=T.bt:=by rw[w];exact⟨rfl,rfl,rfl,rfl⟩
 have a2:c8 cl 1 a9:=by rw[c8,W.1,W.2.1];exact a3
 have Z:cl.Q=(aw.iC T.Q (B.own k)).1:=by rw[w]
 refine e rfl ?_;apply a7 (wi aH af u bx top cl 1 a9 f O a2 (by rw[Z];exact ef));intro gM V;refine J [18,2,113,68] ?_;intro cp;refine J [0,479] ?_;intro bn bN;refine J [85,63] ?_;have a4:gM.Q=(aw.ek (aw.iC T.Q (B.own k)).1 f (bj 1:Int)).1:=by rw[V.q.1,Z]
 have a5:=d.tick (q:=due.drop (j+1)++rest) D O bh W V a4;exact⟨rfl,((j+1,_,gM),(bn,bN)),⟨by dsimp only;omega,a5,a8,ay,by rw[E]⟩,cK,⟨rfl,congrArg (λn=>V0 _ n _) (by dsimp only;rw[ao,mp];rfl),rfl,rfl,rfl,trivial⟩,(b6 0 rfl (by dsimp only;rw[ao,od,mp];rfl) ai)⟩;obtain⟨ef,a8⟩:=aQ.free D O (by rw[<-aP];exact N) (ml:=T.Q) (by rw[d.Q.1,al (λh=>ag (by rw[h];rfl))]);obtain⟨cl,w⟩:∃cl:cN,cl=T:=⟨_,rfl⟩;have bc:dd top cl:=w▸d.P;have W:cl.C=T.C/\cl.Fr=T.Fr/\cl.m=T.m/\cl.bt=T.bt:=by rw[w];exact⟨rfl,rfl,rfl,rfl⟩
 have a2:c8 cl c a9:=w▸a3;have Z:cl.Q=T.Q:=by rw[w]
 apply J [4,267];refine aU.bg (B:=ah [aj aH 135 [ae af,ae u,ae bx],eT af top cl,aZ 33 1 ad ((due.map (·.1)).take j).length cap (cL .u32 ((due.map (·.1)).take j)),gm.dt bx A.pd (A.now+1) rest,aZ 3 1 y.1 (due.map (·.1)).length y.2 (ints (due.map (·.1))),aZ 264 5 (cF u) 256 256 (au.fh (B.l.set k (au.i5 ⟨bz c a9 f,2,g⟩))),F]) (by subst w;exact ai) ?_;refine e rfl ?_;apply a7 (wi aH af u bx top cl c a9 f O a2 (by rw[Z];exact ef));intro gM V;refine J [18,2,113,68] ?_;intro cJ;refine J [0,479] ?_;intro bo bS;refine J [85,63] ?_;have a4:gM.Q=(aw.ek T.Q f (bj c:Int)).1:=by rw[V.q.1,Z]
 have a5:=d.tick (q:=due.drop (j+1)++rest) D O bh W V a4;exact⟨rfl,((j+1,_,gM),(bo,bS)),⟨by dsimp only;omega,a5,a8,ay,by rw[E]⟩,cK,⟨rfl,congrArg (λn=>V0 _ n _) (by dsimp only;rw[ao,mp];rfl),rfl,rfl,rfl,trivial⟩,(b6 0 rfl (by dsimp only;rw[ao,od,mp];rfl) ai)⟩;obtain rfl:j=due.length:=by have:=ar.NP;omega
 obtain⟨_,d,aQ,kF,E⟩:=ar;have cw:(due.map (·.1)).take due.length=due.map (·.1):=VS (by rw[cn];exact Vi _);rw[cw]at kF⊢;have N:B.q=rest:=by rw[E,List.drop_length];rfl
 have bV:=aQ.Tk N (λt cu=>by rw[E];exact ct t cu) (by rw[E];exact cg);have bi:B.now=A.now/\B.pd=A.pd:=by rw[E];exact⟨rfl,rfl⟩
 have b0:cd top {B with now:=B.now+1,np:=B.np+1} T:=d.mY (wF d.P rfl rfl rfl) rfl rfl rfl rfl d.Q (λ_ _ _ _ _ _ _=>⟨λh=>h,λh=>h.elim⟩) (λ_=>⟨λh=>h,λh=>h⟩) rfl (Nat.le_succ_of_le d.gb);have b7:tF A {B with now:=B.now+1,np:=B.np+1}:=(by refine⟨⟨B.l,B.Q,by rw[cf];exact kF,?_⟩⟩;rw[cr];(conv=>lhs;rw[E]);rw[List.drop_length];rfl);apply J [210,61];exact br ((ad,cap),{B with now:=B.now+1,np:=B.np+1}) b7 (an (az (⟨u,bx,T⟩:eR) ⟨b0,bV⟩ (bv (bv (bv (b6 0 rfl (by dsimp only;rw[bi.1,bi.2,N]) ai))))))
end Go.Proofs.Q
namespace Go.QM
open Go
theorem Qh{x:Nat}(V:x<2^64):fq x=oq ((nc x 8).map oe):=by
 have d:=y6 8 x;have ao:=y5 8 x;have C:dD (nc x 8)=x:=by grind[y7]
 generalize nc x 8=l at d ao C;subst C;have t:=λa (u:a∈l)=>Bo (d a u);have N:kl (dD l)=dD (l.map ga):=(by have g1:=va (m:=85) (s:=1) am am am d;have g2:=tK (m:=85) am d;rw[sT ao]at g1 g2;rw[kl,show 6148914691236517205=dD [85,85,85,85,85,85,85,85]from by decide,g1,g2,tH];rfl);have w:∀a∈l.map ga,a<256:=b2
 have E:(l.map ga).length=8:=b2
 have O:l5 (dD (l.map ga))=dD ((l.map ga).map hx):=(by have g1:=va (m:=51) (s:=2) am am am w;have g2:=tK (m:=51) am w;rw[sT E]at g1 g2;rw[l5,show 3689348814741910323=dD [51,51,51,51,51,51,51,51]from by decide,g1,g2,tH];rfl);have D:∀a∈(l.map ga).map hx,a<256/\a/16<=4/\a %16<=4:=λa u=>cm;have H:((l.map ga).map hx).length=8:=b2
 have P:m2 (dD ((l.map ga).map hx))=dD (l.map oe):=(by have g1:=(A8 D).1;rw[sT H]at g1;rw[m2,show 1085102592571150095=dD [15,15,15,15,15,15,15,15]from by decide,g1,XZ,XZ];rfl);grind[fq,Gl]
theorem Gm{n:Nat}(d:65536<n)(u:n<131072):fq n≠1:=by grind[Qh,nc,oq,oe,Bo]
end Go.QM
namespace Go.Proofs.Q
open Go Go.QM
def sy(n:Int):Prop:=n<65536\/1073741824<n\/65536<n/\n<131072
theorem Dh(n:Int)(h:sy n):bn 177 [aa n] ba [] (.pointer none) []:=by apply aF Tryz.func177 Tryz.ntmps177;intro F _;apply J [8];rcases h with h|h|⟨h,u⟩;refine J [124,179,474,316,45,134,273] ?_;exact dh;refine J [124,179,390,141,40] ?_;refine VL 9 rfl (c:=true) (c7 U) ?_;apply J [45,134,273];exact dh;obtain⟨k,rfl⟩:∃k:Nat,n=(k:Int):=⟨n.toNat,(Wf U).symm⟩;have w:=Gm (n:=k) U U;refine J [124,179,390,141,40] ?_;refine VL 9 rfl (c:=false) (dn U) ?_;refine J [13,461,94] ?_;apply aq (xu k U);apply J [151,240,103];refine Vf rfl (λd=>?_) (λd=>absurd U d);apply J [168,74];exact dh
theorem Dk(n:Int)(h:sy n):bn 176 [aa n] ba [] (.pointer none) []:=by apply aF Tryz.func176 Tryz.ntmps176;intro F _;apply J [8];rcases h with h|h|⟨h,u⟩;refine J [124,179,460,316,45,134,273] ?_;exact dh;refine J [124,179,465,141,40,516,45,134,273] ?_;exact dh;obtain⟨k,rfl⟩:∃k:Nat,n=(k:Int):=⟨n.toNat,(Wf U).symm⟩;have w:=Gm (n:=k) U U;refine J [124,179,465,141,40,512,13,461,94] ?_;apply aq (xu k U);apply J [151,240,103];refine Vf rfl (λd=>?_) (λd=>absurd U d);apply J [168,74];exact dh
theorem QV(n lim:Int)(h:¬((n=65536\/n=131072)/\0<=lim/\lim<=n))(hs:n<=131072\/1073741824<n):bn 125 [aa n,aa lim] da [] (.pointer none) []:=by
 apply aF Tryz.func125 Tryz.ntmps125;intro F E;apply J [8];haveI:cv F:=⟨E⟩;apply J [168,27];by_cases C:0<=lim/\lim<=1073741824;refine e rfl ?_;apply a7 (aw.G5 lim C);intro t _;apply J [5,3];by_cases ao:n=65536\/n=131072;obtain⟨k,top,rfl,u⟩:∃k top:Nat,n=(k:Int)/\(k=65536/\top=6\/k=131072/\top=7):=cm;refine e rfl ?_;apply a7 (y1 k top u);intro bd _;apply J [6,29];apply a7 (yQ k U);intro D _;refine J [14,480,0,481] ?_;intro bb;apply J [56,100,156,19,136,192,410,40,13,141,103];refine Vf rfl (λw=>?_) (λw=>absurd U w);apply J [168,74];exact dh;have d:sy n:=by grind[sy]
 refine e rfl ?_;apply aq (Dk n d);apply J [5,29];apply aq (Dh n d);refine J [5,480,0,481] ?_;intro bD;apply J [56,100,156,19,213,51,52,134,273];exact dh;refine e rfl ?_;apply aq (aw.Rf lim C);apply J [151,3];by_cases ao:n=65536\/n=131072;obtain⟨k,top,rfl,u⟩:∃k top:Nat,n=(k:Int)/\(k=65536/\top=6\/k=131072/\top=7):=cm;refine e rfl ?_;apply a7 (y1 k top u);intro bd _;apply J [5,29];apply a7 (yQ k U);intro D _;refine J [6,480,0,481] ?_;intro cp;apply J [56,100,156,19,136,192,410,40,52,134,273];exact dh;have d:sy n:=by grind[sy]
 refine e rfl ?_;apply aq (Dk n d);apply J [151,29];apply aq (Dh n d);refine J [151,480,0,481] ?_;intro H;apply J [56,100,156,19,213,51,52,134,273];exact dh
def kg(a:Nat):List au.bV:=(VA 256 au.oy).set 0 ⟨bz 1 a 0,1,0⟩
def ed(a:Nat)(lim pd:Int):bR:=⟨kg a,[⟨0,-1,lim,64⟩],1,λ_ _=>0,λ_=>0,λ_ _=>0,pd,0,[],2⟩
theorem w4(a:Nat){i:Nat}{p:au.bV}(h:(kg a)[i]? =some p):(i=0/\p=⟨bz 1 a 0,1,0⟩)\/(i≠0/\p=au.oy):=by grind[kg]
theorem nv{a i:Nat}{s:Int}{o:au.e7}(hs:fl s)(h:cB (kg a) i s o):i=0/\s=1/\o=bz 1 a 0:=by obtain⟨g,h⟩:=h;rcases w4 a h with⟨e,h⟩|⟨_,h⟩;simp_all;cases h;exact absurd hs am
theorem Az(a:Nat):au.dN (kg a):=⟨by rw[kg,V6,W8],λp u=>by
 obtain⟨i,d⟩:=List.getElem?_of_mem u
 rcases w4 a d with⟨_,h⟩|⟨_,h⟩<;>rw[h]<;>exact⟨W1 0,(by decide:(0:Int)<=1048575)⟩⟩
theorem ed.C5(a:Nat){lim pd:Int}(W:64<=lim/\lim<=1073741824)(D:1<=pd/\pd<=16):ch (ed a lim pd):=by
 have hw:aw.eK [⟨0,-1,lim,64⟩] 1:=(by have h:=aw.eK.start (lim:=lim) ⟨by omega,W.2⟩;have:=h.set (t:=⟨0,-1,lim,0⟩) cE (c:=64) am (by show 64+aw.fb [⟨0,-1,lim,0⟩] 0<=lim;rw[aw.rB,al (show ¬((-1:Int)=0)by decide)];omega);trivial);have P:aw.fC [⟨0,-1,lim,64⟩] 0=64:=by trivial
 have H:cB (kg a) 0 1 (bz 1 a 0):=by grind[cB,kg]
 refine⟨Az a,hw,⟨⟨a,by show(kg a)[0]? =_;rw[kg,VZ (by rw[W8];decide)]⟩,rfl⟩,λi s o C u=>?_,λi s b f C u=>?_,λi j s r b d f g C ag u V _=>?_,λi s h=>absurd rfl h,λx aq=>?_,λh=>⟨λw=>?_,λw=>(by cases w)⟩,List.nodup_nil,λt h=>(by cases h),Yw,⟨D,W1 0⟩,(by decide:(1:Int)<=((2:Nat):Int)/\(0:Int)<=((2:Nat):Int)/\2<=1000000)⟩;obtain⟨_,_,rfl⟩:=nv C u;exact⟨⟨_,Vd.2 rfl,rfl⟩,(by decide:bj (1:Int).toNat≠0)⟩;obtain⟨e,_,_⟩:=nv C u;exact⟨⟨_,Vd.2 rfl,rfl⟩,λh=>absurd e h⟩;rw[(nv C u).1,(nv ag V).1];obtain⟨t,ao,rfl⟩:=aq;obtain rfl:=Vd.1 ao;show aw.fC [⟨0,-1,lim,64⟩] 0=_;rw[P,n0];have w:=p2 (f:=λ_=>0) (g:=hQ (ed a lim pd) 0) (n:=256) (k:=0) am λi u ar=>(by rw[hQ];obtain⟨p,D,_⟩:=(Az a).at u;rw[show(ed a lim pd).l[i]? =some p from D];rcases w4 a D with⟨e,_⟩|⟨_,e⟩;trivial;rw[e];exact al am);haveI:cJ:=⟨λ_=>0,λ_=>0⟩;rw[nI λ_ _=>rfl,show hQ (ed a lim pd) 0 0=64 from nZ (A:=ed a lim pd) H 0]at w;simp_all;obtain⟨⟨⟨i,p⟩,Z⟩,N⟩:=w;obtain⟨O,_,_,E⟩:=au.nw N Z;rcases w4 a O with⟨_,e⟩|⟨_,e⟩;simp_all;rw[e]at E;exact absurd (show(0:Int)=2 from E) am
theorem ed.Rz{top a:Nat}{lim pd:Int}{S:cN}(H:dd top S)(N:S.Q=[⟨0,-1,lim,64⟩]/\S.bt=1)(aQ:c8 S 1 a)(W:cW S.m a=0)(E:gQ (960/cc 6) (S.C 6)=0)(P:(dk S.C S.Fr).length<=2):cd top (ed a lim pd) S:=by refine⟨H,N,λi s o D w=>?_,λi j s r c b f g D V w O=>?_,λi b f w=>?_,λi j b d f g s r w=>?_,λi j b d f g u v w=>?_,?_,λi s b f D w=>?_,λi c b f w=>?_,P⟩;obtain⟨_,_,rfl⟩:=nv D w;exact⟨1,a,0,rfl,by decide,aQ⟩;rw[(nv D w).1,(nv V O).1];exact absurd (jz (nv (.inl rfl) w).2.2).1 am;exact absurd (jz (nv (.inl rfl) w).2.2).1 am;exact absurd (jz (nv (.inl rfl) w).2.2).1 am;rw[E];exact(nI λ_ _=>nI λ_ _=>rfl).symm;rw[(jz (nv D w).2.2).2.1];exact W;exact absurd (nv (.inr rfl) w).2.1 am
theorem JZ{lim:Int}(h:64<=lim/\lim<=1073741824):aw.de (dm lim).Q 0 (cc 1:Int)=([⟨0,-1,lim,64⟩],0):=by
 have hw:=aw.eK.start (lim:=lim) ⟨by omega,h.2⟩;have hm:(⟨0,-1,lim,0⟩:aw.bS)∈(dm lim).Q:=by grind[dm]
 have hu:=aw.hB hw.bq hm;have E:aw.cX (dm lim).Q 0:=by grind[aw.cX]
 have d:aw.kq (dm lim).Q 0=0+aw.fb (dm lim).Q 0:=hu.1;have u:aw.ja (dm lim).Q 0=lim:=hu.2.1;have w:aw.fC (dm lim).Q 0=0:=hu.2.2.1;have C:aw.fb (dm lim).Q 0=0:=(by trivial);have D:((cc 1:Nat):Int)=64:=rfl;rw[aw.de,al (λh=>h E),al U,d,u,w,C,D,al U];trivial
theorem Lm(n lim pd:Int)(h:¬((n=65536\/n=131072)/\64<=lim/\lim<=n/\1<=pd/\pd<=16))(hs:n<=131072\/1073741824<n):bn 84 [aa n,aa lim,aa pd] da [] (.pointer none) []:=by
 apply aF Tryz.func84 Tryz.ntmps84;intro F E;apply J [8];haveI:cv F:=⟨E⟩;apply J [168,195];by_cases u:(n=65536\/n=131072)/\0<=lim/\lim<=n;obtain⟨k,top,rfl,O⟩:∃k top:Nat,n=(k:Int)/\(k=65536/\top=6\/k=131072/\top=7):=cm;refine e rfl ?_;apply a7 (GV k top lim O u.2);intro⟨af,D⟩ _;apply J [5];dsimp only;letI:cJ:=D;refine e rfl ?_;apply a7 au.pT;intro H _;apply J [6,3];by_cases d:1<=pd/\pd<=16;have aP:lim<64:=U
 have N:(aw.de (dm lim).Q 0 (cc 1:Int)).2≠0:=λe=>(by obtain⟨_,_,aL,_⟩:=za e;have hw:=aw.eK.start (lim:=lim) ⟨u.2.1,by omega⟩;(have hm:(⟨0,-1,lim,0⟩:aw.bS)∈(dm lim).Q:=by grind[dm]);have hu:=aw.hB hw.bq hm;have ao:aw.kq (dm lim).Q 0=0+aw.fb (dm lim).Q 0:=hu.1;have ar:aw.ja (dm lim).Q 0=lim:=hu.2.1;have ay:aw.fb (dm lim).Q 0=0:=(by trivial);grind[cc]);refine e rfl ?_;apply a7 (gm.pT pd d.1 d.2);intro bx _;refine J [14,445,0,446] ?_;intro ag;apply J [56,50,156,19,136,225,410,149,107,233];apply a7 (uU af top (dm lim) 0 1 am);intro⟨P,cq⟩ w;apply J [9];cases P with|some y=>exact absurd w.2.1 N|none=>?_
 dsimp only[pn,kf];apply J [129,39];refine Vf rfl (λC=>?_) (λC=>absurd (w.1) C);apply J [168,74];exact dh;refine e rfl ?_;apply aq (gm.s0 pd U);refine J [6,445,0,446] ?_;intro Z;apply J [56,50,156,19,136,225,410,103,57,273];exact dh;refine e rfl ?_;apply aq (QV n lim u hs);apply J [151,0];apply a7 au.pT;intro H _;apply J [5,3];by_cases d:1<=pd/\pd<=16;refine e rfl ?_;apply a7 (gm.pT pd d.1 d.2);intro bx _;refine J [6,445,0,446] ?_;intro V;apply J [56,50,156,19,213,134,273];exact dh;refine e rfl ?_;apply aq (gm.s0 pd U);refine J [5,445,0,446] ?_;intro W;apply J [56,50,156,19,213,134,273];exact dh
theorem Ln(n top:Nat)(lim pd:Int)(h:n=65536/\top=6\/n=131072/\top=7)(H:64<=lim/\lim<=n)(D:1<=pd/\pd<=16):bH 84 [aa n,aa lim,aa pd] da [] (λy:Nat×Nat×Nat×cJ=>ae y.1) (λ_=>True) (λy=>[@fZ y.2.2.2 y.1 y.2.1 top (ed y.2.2.1 lim pd)]):=by
 apply aF Tryz.func84 Tryz.ntmps84;intro F ag;apply J [8];haveI:cv F:=⟨ag⟩;have E:=JZ (lim:=lim) ⟨H.1,by omega⟩;apply J [168,27,29];apply a7 (GV n top lim h ⟨by omega,H.2⟩);intro⟨af,N⟩ _;apply J [5];dsimp only;letI:cJ:=N;refine e rfl ?_;apply a7 au.pT;intro V _;apply J [6,29];apply a7 (gm.pT pd D.1 D.2);intro bx _;refine J [14,445,0,446] ?_;intro hk;apply J [56,50,156,19,136,225,410,149,107,233];apply a7 (uU af top (dm lim) 0 1 am);intro⟨aw,cq⟩ O;apply J [9];have ao:dd top (dm lim):=by grind[dd.zero]
 have gi:dk (dm lim).C (dm lim).Fr=[]:=by trivial
 cases aw with
 | none=>exact absurd O (λh=>by
  rcases h.2 with w|⟨_,w⟩
  ·rw[E]at w;exact h.1 w
  rw[gi]at w
  have:=Nat.pow_pos (n:=top) (show 0<2 by decide)
  simp only[WX]at w;omega)
 | some y=>?_
 obtain⟨rfl,_,cG⟩:=O;have d:=GC (a:=0) ao am am rfl (by rw[E]) cG;have aN:=ed.Rz (lim:=lim) (pd:=pd) d.g.P ⟨by rw[d.q.2.1];exact congrArg (·.1) E,d.q.2.2⟩ d.b (d.z _ (Vi _) (by have:bj 1=64:=rfl;omega)) (by rw[d.u];rfl) (by have:=d.p;rw[gi]at this;simp only[WX]at this;omega);have Z:=ed.C5 (addr 1 y) (lim:=lim) (pd:=pd) ⟨H.1,by omega⟩ D;have ar:au.ma (VA 256 au.oy) (bz 1 (addr 1 y) 0)=(kg (addr 1 y),0,0):=(by trivial);dsimp only[pn];apply J [129,39];refine Vf rfl (λW=>absurd W (λh=>h rfl)) (λW=>?_);apply J [4,65,3,251,0];apply aq (au.og V (VA 256 au.oy) (bz 1 (addr 1 y) 0) ⟨W8,λp D=>by rw[List.eq_of_mem_replicate D];exact⟨W1 0,(by decide:(0:Int)<=1048575)⟩⟩);apply J [9];rw[ar];apply J [2,36,104];exact br (hk,af,addr 1 y,N) trivial (az (⟨V,bx,kf (dm lim) 0 1 (some y)⟩:eR) ⟨aN,Z⟩ ai)
end Go.Proofs.Q
namespace Go.Proofs.Q.b1
open Go Go.QM
variable{Z:List Fn}{u:Fn}
theorem PX{M:List Fn}(ao:jW Z)(d:Z.Perm (u::M))(p:Int):((⟨u.id,p,u.dF,u.cf⟩:Fn)::M).Perm (ha Z u p):=
 ((xv ao d).symm.cons _).trans (We _ _).symm
theorem A2(hu:u∈Z)(p x:Int):fP (ha Z u p) x↔fP Z x:=by
 have:fP (ha Z u p) x↔fP (hb Z u.id) x\/u.id=x:=by simp[ha,fP,or_and_right,exists_or]
 rw[this,uO];constructor;rintro(h|h);simp_all;exact⟨u,hu,h⟩;grind
theorem F7(ao:jW Z)(hu:u∈Z)(p:Int):(ha Z u p).length=Z.length:=by grind[uP,ha]
theorem Mt{S T:List Fn}(E:oD S)(H:oD T)(h:∀o i,(∃t∈S,iv t=o/\t.id=i)↔∃t∈T,iv t=o/\t.id=i):ke S=ke T:=by funext o;by_cases d:kE S o;obtain⟨t,w,rfl⟩:=d;obtain⟨u,hu,C,D⟩:=(h (iv t) t.id).1 ⟨t,w,rfl,rfl⟩;grind[Em];rw[wq d,wq];rintro⟨u,hu,C⟩;obtain⟨t,w,D,_⟩:=(h o u.id).2 ⟨u,hu,C,rfl⟩;exact d ⟨t,w,D⟩
variable{last:Int}
theorem Ek(h:cM Z last)(hu:u∈Z){p:Int}(D:0<=p/\p<u.id):ke (ha Z u p)=ke Z:=by refine Mt (h.move hu D).no h.no λo i=>?_;constructor;rintro⟨t,d,w,C⟩;rcases Ve.1 d with d|d;grind[l6];rw[Vd.1 d]at w C;exact⟨u,hu,w,C⟩;rintro⟨t,d,w,C⟩;by_cases e:t.id=u.id;have:=h.bq.inj d hu e;subst this;exact⟨_,Ve.2 (.inr (Vd.2 rfl)),w,C⟩;exact⟨t,Ve.2 (.inl (l6.2 ⟨d,e⟩)),w,C⟩
theorem Ax(ao:jW Z)(hu:u∈Z){p x:Int}(d:p≠x)(w:u.par≠x):c5 (ha Z u p) x=c5 Z x:=by grind[ha,uw,Aw,sP]
theorem O8(ao:jW Z)(hu:u∈Z){p:Int}(d:p≠0)(w:u.par≠p):c5 (ha Z u p) p=c5 Z p++[u.id]:=by grind[ha,uw,Fy,sP]
def A6(p:Int)(Z:List Fn)(k:Int):List Fn:=match rz Z k with
  | some u=>ha Z u p
  | none=>Z
def ki(L:List Fn)(id:Int):List Fn:=match rz L id with
  | some t=>(c5 L id).foldl (A6 t.par) (hb L id)
  | none=>L
def AI(L:List Fn)(id:Int):Int:=if fP L id then 0 else 6
structure nQ(L:List Fn)(last:Int)(t:Fn)(i:Nat)(Z:List Fn):Prop where
  eq:Z=((c5 L t.id).take i).foldl (A6 t.par) (hb L t.id)
  eo:cM Z last
  no:¬fP Z t.id
  todo:∀j k,i<=j->(c5 L t.id)[j]? =some k->∃u∈Z,u.id=k/\u.par=t.id
  len:Z.length=(hb L t.id).length
theorem nQ.start{L:List Fn}(h:cM L last){t:Fn}(D:t∈L):nQ L last t 0 (hb L t.id) where
 eq:=rfl
 eo:=h.off _
 no:=λd=>(uO.1 d).2 rfl
 todo:=λj k _ C=>by obtain⟨_,u,hu,w,d⟩:=pO.1 (Vg C);have:=h.rg u hu;exact⟨u,l6.2 ⟨hu,by omega⟩,d,w⟩
 len:=rfl
theorem nQ.next{L:List Fn}(h:cM L last){t:Fn}(P:t∈L){i:Nat}(d:nQ L last t i Z)(hu:u∈Z)(C:(c5 L t.id)[i]? =some u.id)(N:0<=t.par/\t.par<u.id):nQ L last t (i+1) (ha Z u t.par) where
 eq:=by rw[Vt,C,Option.toList,List.foldl_append,<-d.eq,List.foldl_cons,List.foldl_nil,A6,wy d.eo.bq hu]
 eo:=d.eo.move hu N
 no:=by rw[A2 hu];exact d.no
 todo:=λj k O D=>by obtain⟨v,hv,w,H⟩:=d.todo j k U D;refine⟨v,Ve.2 (.inl (l6.2 ⟨hv,λe=>?_⟩)),w,H⟩;obtain⟨E,bb⟩:=Vm.1 C;obtain⟨a2,bD⟩:=Vm.1 D;exact(List.pairwise_iff_getElem.1 (Fw h.bq t.id)) i j E a2 U (by rw[bb,bD,<-w,e])
 len:=by rw[F7 d.eo.bq hu];exact d.len
theorem nQ.done{L:List Fn}(h:cM L last){t:Fn}(u:t∈L)(d:nQ L last t (c5 L t.id).length Z):ki L t.id=Z:=by have:=d.eq;rw[VY]at this;rw[ki,wy h.bq u,this]
theorem My(b:Nat)(id x:Int):bn 287 [aa x,ae b] (λF=>Rd F b (.cells #[aa id] 3 (0,0))) [] (.bool (decide (x=id))) []:=by apply aF Tryz.func287 Tryz.ntmps287;intro F d;apply J [8];haveI:fN F b (.cells #[aa id] 3 (0,0)):=⟨d⟩;apply J [222,84,297,70];exact j7
theorem Mz(b:Nat)(A:Int->Nat)(L:List Fn)(last:Int)(t:Fn)(d:t∈L)(aP:L.length<=1000000):bH 225 [ae b,aa t.id] ba [ut b A L last] (λ_:Option Addr×Nat=>.agg (ints [t.dF,t.cf]).toArray) (λ_=>True) (λy=>[ut b A (hb L t.id) last,aj (A t.id) 219 [aa t.dF,aa t.cf,aa t.par,.slice y.1 (c5 L t.id).length y.2],aZ 3 1 y.1 (c5 L t.id).length y.2 (ints (c5 L t.id))]):=by
 apply aF Tryz.func225 Tryz.ntmps225;intro F _;refine J [1,25,447] ?_;intro bb;refine J [0,528] ?_;intro bD;apply J [30];refine ab.open 2 rfl (λay aw=>?_);obtain⟨ad,cap,aC,bz⟩:=ay;have av:=aw;apply J [144];dsimp only at av⊢;have V:=pF (A:=A) ⟨t,d,rfl⟩;have aW:=uP av.bq d;have H:(hb L t.id).length=L.length-1:=U
 have Z:ke L (t.dF,t.cf)=some (aa t.id):=Em av.no d;have a0:=av.rg t d;obtain⟨M,bK⟩:=fA d;have ao:=av.bq.perm bK.symm;apply J [387,530];refine cC [0,1,2,3,4,5,6] (VW _) ?_;refine bY rfl rfl rfl (fR rfl) ?_;apply J [88,109,92,531];refine bY rfl rfl rfl (oG rfl) ?_;apply J [73,7,7];rw[V];apply J [37,176,55,0];apply aq (pG b aC bz L.length last (iD A L) t.par);apply J [145];by_cases N:fP L t.par;obtain⟨u,hu,au⟩:=N;have W:iD A L t.par=some (.pointer (some ⟨A u.id,0,none⟩)):=by rw[<-au];exact pF ⟨u,hu,rfl⟩
 rw[W];have ar:u∈M:=cm;obtain⟨D,E⟩:=fA ar;have aA:=(Vw.1 ((E.map (·.id)).nodup_iff.1 (Vw.1 ao).2)).1;have aL:=ux L u.id;have ag:∀x∈D,t.par≠x.id:=cm
 have P:∀x∈D,iu A ad cap L x=iu A ad cap (hb L t.id) x:=λx w=>(by dsimp only[iu];rw[sP av.bq d (ag x w)]);have O:∀x∈D,ir ad cap L x=ir ad cap (hb L t.id) x:=λx w=>(by dsimp only[ir];rw[sP av.bq d (ag x w)]);have C:(u::D).Perm (hb L t.id):=E.symm.trans (xv av.bq bK).symm;apply J [277,315,2,12];refine WD (fW 5 rfl E) ?_;refine WD (fW 5 rfl E) ?_;apply J [37,176,220,411,0];refine aI (wk (ad u.id) (cap u.id) (c5 L u.id) 287 [ae bb] (λy=>decide (y=t.id)) (λF=>Rd F bb (.cells #[aa t.id] 3 (0,0))) (λy=>My bb t.id y) U (λ_ h=>iK h) (λ_ _ h=>kb (iK h))) rfl (d6 0 rfl (ev _)) fN.rd ?_;intro _ _;apply J [301];rw[O7];apply J [80,385,269,30];refine cC [0,1,2,3,4,-5] (eQ (bP 9 rfl (aX _))) ?_;apply J [49,92,258];refine lP 3 216 rfl (Yh rfl) rfl rfl rfl ?_;refine J [110,7] ?_;refine cC [0,1,2,3,4,5,6,7,-8] (eE (bP 6 rfl (aX _))) ?_;refine J [133,328,377,258,604,110,43] ?_;refine q rfl rfl (fQ (vs:=ints [_,_]) 2 rfl rfl rfl rfl) ?_;apply J [22,477,224];exact YE ⟨ad t.id,cap t.id⟩ [_] ⟨(e5 (n:=2) rfl rfl rfl rfl),trivial⟩ rfl trivial (az ⟨ad,cap,aC,bz⟩ (av.off t.id) (bP 7 rfl (b6 2 rfl (by rw[Ei,V,H];rfl) (b6 1 rfl (by rw[El av.bq av.no d,Z,H];rfl) (cY 1 3 u rfl rfl rfl P C (cY 1 1 u rfl rfl rfl O C (bv (bU (bv (aX _))))))))));have W:=qz (A:=A) N;rw[W];have P:∀x∈M,iu A ad cap L x=iu A ad cap (hb L t.id) x:=λx w=>(by dsimp only[iu];rw[sP av.bq d (λe=>N ⟨x,bK.mem_iff.2 (by simp[w]),e.symm⟩)]);have O:∀x∈M,ir ad cap L x=ir ad cap (hb L t.id) x:=λx w=>(by dsimp only[ir];rw[sP av.bq d (λe=>N ⟨x,bK.mem_iff.2 (by simp[w]),e.symm⟩)]);have C:=(xv av.bq bK).symm;apply J [277,315,121];refine cC [0,1,2,3,4,-5] (an (bP 7 rfl (aX _))) ?_;apply J [49,92,258];refine lP 3 216 rfl (Yh rfl) rfl rfl rfl ?_;refine J [110,7] ?_;refine cC [0,1,2,3,4,5,6,7,-8] (bU (c0 (aX _))) ?_;refine J [133,328,377,258,604,110,43] ?_;refine q rfl rfl (fQ (vs:=ints [_,_]) 2 rfl rfl rfl rfl) ?_;apply J [22,477,224];exact YE ⟨ad t.id,cap t.id⟩ [_] ⟨(e5 (n:=2) rfl rfl rfl rfl),trivial⟩ rfl trivial (az ⟨ad,cap,aC,bz⟩ (av.off t.id) (c0 (b6 2 rfl (by rw[Ei,V,H];rfl) (b6 1 rfl (by rw[El av.bq av.no d,Z,H];rfl) (pD 4 rfl P C (pD 2 rfl O C (bv (bU (bv (aX _))))))))))
theorem EB(b:Nat)(L:List Fn)(last:Int)(id:Int)(cd:L.length<=1000000):bn 167 [ae b,aa id] ba [hp b L last] (aa (AI L id)) [hp b (ki L id) last]:=by
 apply aF Tryz.func167 Tryz.ntmps167;intro F _;apply J [1];refine ab.open 0 rfl (λA _=>?_);apply J [1];refine ab.open 0 rfl (λbd bc=>?_);obtain⟨ad,cap,aC,bz⟩:=bd;have av:=bc;apply J [157];dsimp only at av⊢;by_cases O:fP L id;·have D:=pF (A:=A) O;have a8:AI L id=0:=ax O;rw[a8];obtain⟨t,E,rfl⟩:=O;apply J [53];apply aq (pG b aC bz L.length last (iD A L) t.id);apply J [15];rw[D];apply J [56,72,101,191,101,191,206];refine WD (B:=ah [ut b A L last,F]) (az ⟨ad,cap,aC,bz⟩ av (an (an (an (an (an (an (aX _)))))))) ?_;apply J [178];apply a7 (Mz b A L last t E U);intro y _;apply J [14,30,122,220,177];clear D;have N:=av;clear av;have ci:=N.rg t E;have cg:=uP N.bq E;have b7:=ux L t.id;have b0:=dP (c5 L t.id);refine VP (ι:=Nat×List Fn) (λs=>nQ L last t s.1 s.2/\s.1<=(c5 L t.id).length) (λs=>[(0,ae b),(5,.pointer (some ⟨(A t.id),0,none⟩)),(24,.slice y.1 (c5 L t.id).length y.2),(25,aa (c5 L t.id).length),(26,aa ((s.1:Nat):Int))]) (λs=>ah [ut b A s.2 last,aj (A t.id) 219 [aa t.dF,aa t.cf,aa t.par,.slice y.1 (c5 L t.id).length y.2],aZ 3 1 y.1 (c5 L t.id).length y.2 (ints (c5 L t.id)),F]) (λs=>(c5 L t.id).length-s.1) ⟨0,hb L t.id⟩ ⟨nQ.start N E,Vj _⟩ bI (an (an (an (an (aX _))))) ?_;rintro⟨i,Z⟩ ⟨d,bt⟩ cr;dsimp only[cy]at d bt⊢;apply J [42];apply Vf rfl<;>intro ce;(·obtain⟨k,a2⟩:∃k,(c5 L t.id)[i]? =some k:=⟨_,Vc (show i<(c5 L t.id).length by omega)⟩;(have ch:0<(ints (c5 L t.id)).length:=by omega);obtain⟨u,hu,bH,bN⟩:=d.todo i k (Vi _) a2;subst bH;have ck:=d.eo.rg u hu;(have a5:0<=t.par/\t.par<u.id:=by omega);have hIn:=d.next N E hu a2 a5;obtain⟨M,bK⟩:=fA hu;have bo:=d.eo.bq.perm bK.symm;have D:=pF (A:=A) ⟨u,hu,rfl⟩;have ag:=F7 d.eo.bq hu t.par;have co:=d.len;have bl:∀x∈Z,u.par≠x.id:=λx C e=>d.no ⟨x,C,by rw[<-e,bN]⟩;have aL:=PX d.eo.bq bK t.par;have W:c5 (ha Z u t.par) u.id=c5 Z u.id:=Ax d.eo.bq hu U U;refine J [188] ?_;refine q rfl rfl (dB rfl rfl (gW a2)) ?_;apply J [31];refine ab.open 0 rfl (λbd bc=>?_);obtain⟨ad,cap,aC,bz⟩:=bd;have av:=bc;apply J [144];dsimp only at av⊢;refine J [387,530,605,49,16,531] ?_;rw[D];apply J [185,88,364,90,503,73,36,176,55,0];apply aq (pG b aC bz Z.length last (iD A Z) t.par);apply J [145];by_cases a4:fP Z t.par;obtain⟨w,hw,a9⟩:=a4;(have a0:iD A Z t.par=some (.pointer (some ⟨A w.id,0,none⟩)):=by rw[<-a9];exact pF ⟨w,hw,rfl⟩);rw[a0];have cl:=d.eo.rg w hw;have bS:w∈M:=cm;obtain⟨P,V⟩:=fA bS;have bV:=(Vw.1 ((V.map (·.id)).nodup_iff.1 (Vw.1 bo).2)).1;have cc:=ux Z w.id;have a3:∀x∈P,x.id≠w.id/\c5 (ha Z u t.par) x.id=c5 Z x.id:=λx C=>(by(have cn:x∈M:=by grind);(have ar:x∈Z:=by grind);(have bj:x.id≠w.id:=by simp_all);exact⟨bj,Ax d.eo.bq hu (λe=>bj (by rw[a9,e])) (bl x ar)⟩);(have bi:c5 (ha Z u t.par) w.id=c5 Z w.id++[u.id]:=by rw[a9];exact O8 d.eo.bq hu U U);have bh:(⟨u.id,t.par,u.dF,u.cf⟩::w::P:List Fn).Perm (ha Z u t.par):=(V.symm.cons _).trans aL;(have ao:u.id≠w.id:=by omega);have bZ:=dP (c5 Z w.id);apply J [277,315,2,12];refine WD (fW 5 rfl V) ?_;refine WD (fW 6 rfl V) ?_;refine J [37,176,220,68] ?_;intro cp;refine e rfl ?_;refine ap 8 rfl rfl rfl rfl rfl (Vp rfl) (show _=ints [u.id]from rfl) rfl U gr ?_;intro au aw;refine J [80,385,269,63] ?_;have aW:∀x∈P,iu A ad cap Z x=iu A (aO ad w.id au) (aO cap w.id aw) (ha Z u t.par) x:=λx C=>(by obtain⟨H,ay⟩:=a3 x C;dsimp only[iu];rw[bM H,bM H,ay]);have aP:∀x∈P,ir ad cap Z x=ir (aO ad w.id au) (aO cap w.id aw) (ha Z u t.par) x:=λx C=>(by obtain⟨H,ay⟩:=a3 x C;dsimp only[ir];rw[bM H,bM H,ay]);exact⟨rfl,⟨i+1,ha Z u t.par⟩,⟨hIn,by dsimp only;omega⟩,cK,bI,(az ⟨aO ad w.id au,aO cap w.id aw,aC,bz⟩ hIn.eo (eE (b6 5 rfl (by rw[Eh (A2 hu t.par),ag]) (b6 7 rfl (by rw[Ek d.eo hu a5,ag]) (ua 5 0 3 (⟨u.id,t.par,u.dF,u.cf⟩:Fn) w rfl rfl rfl (by dsimp only[iu];rw[bM ao,bM ao,W];rfl) (by dsimp only[iu];rw[cj,cj,bi,mp];rfl) aW bh (ua 3 0 1 (⟨u.id,t.par,u.dF,u.cf⟩:Fn) w rfl rfl rfl (by dsimp only[ir];rw[bM ao,bM ao,W]) (by dsimp only[ir];rw[cj,cj,bi,mp,Vl,pM]) aP bh (bU (bU (bU (aX _))))))))))⟩;have a0:=qz (A:=A) a4;rw[a0];have a3:∀x∈M,c5 (ha Z u t.par) x.id=c5 Z x.id:=λx C=>(by(have ar:x∈Z:=by grind);exact Ax d.eo.bq hu (λe=>a4 ⟨x,ar,e.symm⟩) (bl x ar));(have aW:∀x∈M,iu A ad cap Z x=iu A ad cap (ha Z u t.par) x:=by grind);(have aP:∀x∈M,ir ad cap Z x=ir ad cap (ha Z u t.par) x:=by grind);refine J [277,315,108,111] ?_;exact⟨rfl,⟨i+1,ha Z u t.par⟩,⟨hIn,by dsimp only;omega⟩,cK,bI,(az ⟨ad,cap,aC,bz⟩ hIn.eo (an (b6 0 rfl (by rw[Eh (A2 hu t.par),ag]) (b6 4 rfl (by rw[Ek d.eo hu a5,ag]) (cY 0 2 (⟨u.id,t.par,u.dF,u.cf⟩:Fn) rfl rfl (by dsimp only[iu];rw[W];rfl) aW aL (cY 0 0 (⟨u.id,t.par,u.dF,u.cf⟩:Fn) rfl rfl (by dsimp only[ir];rw[W]) aP aL (an (an (an (aX _))))))))))⟩);(obtain rfl:i=(c5 L t.id).length:=by omega);rw[d.done N E];apply J [75,201];exact e9 (az A trivial (an (bv (aX _))))
 have D:=qz (A:=A) O;have a8:AI L id=6:=al O;have bR:ki L id=L:=by grind[ki,Ey]
 rw[a8,bR];apply J [53];apply aq (pG b aC bz L.length last (iD A L) id);apply J [15];rw[D];apply J [56,72,101,191,101,38,197];exact I4
end Go.Proofs.Q.b1
namespace Go.Proofs.Q
open Go Go.QM
variable [cJ] [ez]
structure cu where
  A:bR
  L:List b1.Fn
  last:Int
structure bT where
  aH:Nat
  bu:Nat
  U2:aH=ez.aH:=by first|assumption|rfl
def cD(aB af top:Nat)(X:cu):ay:=fg λy:bT=>pure' True (ah [aj aB 148 [ae y.aH,ae y.bu],fZ y.aH af top X.A,b1.hp y.bu X.L X.last])
variable{top:Nat}
theorem hq{aB af:Nat}{X:cu}:∀u,cD aB af top X u->ch X.A/\∃S,cd top X.A S:=by rintro u ⟨y,_,a,b,d,rfl,C,w,c2,d2,rfl,⟨z,D,_⟩,_⟩;grind
def c6(A:bR)(h:Int):Nat:=(b3 A.l h 2).1.a.toNat
def bX(A:bR)(h:Int):Int:=(b3 A.l h 2).1.f
def bF(h:Int):Nat:=(h %256).toNat
variable{A:bR}
theorem p6{S:cN}(aN:cd top A S){h:Int}(P:0<=h)(e:(b3 A.l h 2).2=0):cB A.l (bF h) 1 (bz 2 (c6 A h) (bX A h))/\∃g,h=g*256+(bF h:Int)/\A.l[bF h]? =some ⟨bz 2 (c6 A h) (bX A h),1,g⟩:=by
 obtain⟨i,p,Z,d,w,ag,V,W,C,u⟩:=jc P e;have u:=u.resolve_left am;obtain⟨c,a,f,O,_,_⟩:=aN.obj i 1 p.o (.inl rfl) ⟨p.cU,by rw[<-w];exact d⟩;have E:=uN O u;obtain⟨o,s,g⟩:=p;dsimp only at*;subst w;subst E;have D:bF h=i:=W;have H:c6 A h=a:=by rw[c6,C];rfl
 have N:bX A h=f:=by rw[bX,C];rfl
 rw[D,H,N];exact⟨⟨g,d⟩,g,V,d⟩
def gn(A:bR)(i:Nat)(s:Int):Nat:=if 0<=s/\s<256 then A.aL i s.toNat else 0
theorem la{i s:Nat}(h:s<256):gn A i (s:Int)=A.aL i s:=ax ⟨by omega,by omega⟩
theorem Ml{i:Nat}{s:Int}(h:¬(0<=s/\s<256)):gn A i s=0:=al h
def iY(w:Nat):Nat:=w %4294967296-1
def k8(w:Nat):Nat:=w/4294967296
theorem k9{h r:Nat}(d:h<4294967295):iY (dO h r)=h/\k8 (dO h r)=r:=by rw[iY,k8,dO];omega
theorem QI{h r:Nat}(d:h<4294967295):dO h r&&&4294967295=h+1:=by rw[show(4294967295:Nat)=2^32-1 from rfl,Nat.and_two_pow_sub_one_eq_mod,dO];omega
theorem QH{h r:Nat}(d:h<4294967295):dO h r/2^32=r:=by rw[dO];omega
theorem QJ{h r:Nat}(d:h<4294967295):(h+1)|||(r*4294967296)=dO h r:=by have:=Nat.two_pow_add_eq_or_of_lt (i:=32) (b:=h+1) U r;grind[dO]
theorem Cs(h r:Nat)(d:h<4294967295)(hr:r<=15):bn 166 [.agg #[aS h,aa r]] ba [] (bk (dO h r:Int)) []:=by apply aF Tryz.func166 Tryz.ntmps166;intro F _;refine J [186,242] ?_;intro bb;apply J [28,71];refine q rfl rfl (conv .u32 .u64 rfl rfl rfl (qb U)) ?_;refine q rfl rfl (QM.mS (b:=1) rfl rfl rfl U) ?_;refine J [58,307] ?_;refine q rfl rfl (u9 (n:=32) (c:=r*4294967296) rfl rfl am U) ?_;refine q rfl rfl (pW rfl rfl U U (QJ d)) ?_;apply J [26];exact dh
variable(s:Int)
theorem sg:bn 72 [aa s] ba [] (.bool (decide (0<=s/\s<256))) []:=by apply aF Tryz.func72 Tryz.ntmps72;intro F _;apply J [8,222,270];refine aU.split 5 rfl (λd=>?_) (λd=>?_);have d:=dz d;apply J [203,131];exact sj;have d:=d7 d;apply J [48,98];exact sk
theorem yn:bn 73 [aa s] ba [] (.bool (decide (0<s/\s<=15))) []:=by apply aF Tryz.func73 Tryz.ntmps73;intro F _;apply J [8,222,167,19];refine aU.split 5 rfl (λd=>?_) (λd=>?_);have d:=dz d;apply J [13,263,131];exact sj;have d:=d7 d;apply J [48,98];exact sk
theorem sf:bn 137 [aa s] ba [] (.bool (decide (s<128))) []:=by apply aF Tryz.func137 Tryz.ntmps137;intro F _;apply J [8,127,331,70];exact j7
theorem Uk(k:Int):bn 194 [aa k] ba [] (.bool (decide (k=8\/1<=k/\k<=5))) []:=by apply aF Tryz.func194 Tryz.ntmps194;intro F _;apply J [8];by_cases u:k=8;subst u;refine J [222,193,474,52,162,162,363,131] ?_;exact j7;apply J [222,193];refine VL 5 rfl (c:=false) (dn u) ?_;apply J [13,306,340];refine aU.split 8 rfl (λd=>?_) (λd=>?_);have d:=dz d;apply J [13,263,370,98];exact sj;have d:=d7 d;apply J [48,388,98];exact sk
theorem pz(aH af d bx:Nat):bn 29 [ae aH] ba [aj aH 135 [ae af,ae d,ae bx]] (ae af) [aj aH 135 [ae af,ae d,ae bx]]:=by apply aF Tryz.func29 Tryz.ntmps29;intro F _;apply J [1,124,41,50,104];exact hC
theorem o5(aB af top:Nat)(X:cu)(h:Int)(C:0<=h/\h<=4294967295)(D:(b3 X.A.l h 2).2=0):bH 64 [ae aB,aS h] da [cD aB af top X] (λaR:Nat=>.tuple #[.agg #[ae aR,aS h,aa (bX X.A h)],aa 0]) (λ_=>True) (λaR=>[aj aR 163 [ae af,aa (bX X.A h),aa (c6 X.A h:Int)],cD aB af top X]):=by apply aF Tryz.func64 Tryz.ntmps64;intro F E;apply J [1];haveI:cv F:=⟨E⟩;apply ab.open 0 rfl;rintro⟨aH,bu⟩-;apply J [83];dsimp only;refine J [25,564] ?_;intro bD;apply J [31,41,50,29];apply aq (jZ aH af top X.A h C 2);refine J [9,230] ?_;intro cp;apply J [116,39];refine Vf rfl (λw=>absurd w (λh=>h D)) (λw=>?_);apply ab.open 1 rfl;rintro⟨u,bx,S⟩ ⟨aN,d⟩;apply J [79];dsimp only at aN d⊢;obtain⟨N,O⟩:=p6 aN C.1 D;obtain⟨g9,W,Z⟩:=O;have H:=aN.P;have V:=(aN.hL _ _ _ N).1.tk;have b5:(b3 X.A.l h 2).1=bz 2 (c6 X.A h) (bX X.A h):=(by grind[jc,bF]);rw[b5];apply J [44];refine cC [0,1,2,3,5,6,7,8,10,11,12,-4,-9,13,-14,15] (show aG (ah _) (ah [aj cp 60 (ints (bz 2 (c6 X.A h) (bX X.A h)).l),aj aB 148 [ae aH,ae bu]])from ai) ?_;apply J [49,135,181,16,135,17];apply aq (pz aH af u bx);refine J [253,47] ?_;apply a7 (S8 af top (bX X.A h) (c6 X.A h) S H V);intro aR _;refine J [284] ?_;refine bY rfl rfl rfl (eh (cs:=[.pointer _,.int _ _,.int _ _]) rfl) ?_;refine J [285,97,148] ?_;exact YE aR [_,_] ⟨(e5 (n:=3) rfl rfl rfl rfl),rfl,trivial⟩ rfl trivial (bU (az (bT.mk aH bu:bT) trivial (bP 6 rfl (az (⟨u,bx,S⟩:eR) ⟨aN,d⟩ ai))))
theorem ra(aB af top:Nat)(X:cu)(h:Int)(u:0<=h/\h<=4294967295)(w:(b3 X.A.l h 2).2≠0):bn 64 [ae aB,aS h] ba [cD aB af top X] (.tuple #[.agg #[.pointer none,aS 0,aa 0],aa (b3 X.A.l h 2).2]) [cD aB af top X]:=by apply aF Tryz.func64 Tryz.ntmps64;intro F _;refine J [321] ?_;rintro⟨aH,bu⟩-;apply J [83];dsimp only;refine J [25,564] ?_;intro C;apply J [31,41,50,29];apply aq (jZ aH af top X.A h u 2);refine J [9,230] ?_;intro D;apply J [116,39];refine Vf rfl (λd=>?_) (λd=>absurd (w) d);apply J [24,589,227,123];exact YE () [_,_] ⟨(e5 (n:=3) rfl rfl rfl rfl),rfl,trivial⟩ rfl trivial (az (bT.mk aH bu:bT) trivial ai)
theorem Tp:bn 77 [aa s] ba [] (.bool (decide (0<=s/\s<256))) []:=by apply aF Tryz.func77 Tryz.ntmps77;intro F _;apply J [8,222,270];refine aU.split 5 rfl (λd=>?_) (λd=>?_);have d:=dz d;apply J [203,131];exact sj;have d:=d7 d;apply J [48,98];exact sk
theorem Tg(aR af:Nat)(d:Int)(t:Nat)(s:Int)(hs:¬(0<=s/\s<256)):bn 30 [ae aR,aa s] ba [aj aR 163 [ae af,aa d,aa t]] (.tuple #[bk 0,bk 0]) [aj aR 163 [ae af,aa d,aa t]]:=by apply aF Tryz.func30 Tryz.ntmps30;intro F _;apply J [1,24,218,229,239];apply aq (Tp s);apply J [5];rw[dn hs];apply J [345,40,45,134,326];exact hN ai
theorem ov(aB af top:Nat)(X:cu)(aR:Nat)(h:Int)(Z:0<=h/\h<=4294967295)(ar:(b3 X.A.l h 2).2=0)(s:Int):bn 65 [.agg #[ae aR,aS h,aa (bX X.A h)],aa s] ba [aj aR 163 [ae af,aa (bX X.A h),aa (c6 X.A h:Int)],cD aB af top X] (.tuple #[.agg #[aS (if(gn X.A (bF h) s)=0 then 0 else(iY (gn X.A (bF h) s):Int)),aa (if(gn X.A (bF h) s)=0 then 0 else(k8 (gn X.A (bF h) s):Int))],.bool (decide ((gn X.A (bF h) s)≠0))]) [aj aR 163 [ae af,aa (bX X.A h),aa (c6 X.A h:Int)],cD aB af top X]:=by
 apply aF Tryz.func65 Tryz.ntmps65;intro F _;apply J [11];by_cases D:0<=s/\s<256;obtain⟨en,rfl⟩:∃k:Nat,s=(k:Int):=⟨s.toNat,(Wf D.1).symm⟩;have E:en<256:=U
 rw[la E];apply ab.open 1 rfl;rintro⟨aH,bu⟩-;apply J [82];dsimp only;apply ab.open 1 rfl;rintro⟨H,bx,S⟩ ⟨aN,u⟩;apply J [144];dsimp only at aN u⊢;obtain⟨ag,aP⟩:=p6 aN Z.1 ar;obtain⟨W,C⟩:=aN.hL _ _ _ ag;have C:=(C en E).1;refine J [25,309] ?_;intro ay;refine J [0,257] ?_;intro hk;apply J [38,71,29];apply aq (r6 aR af top (bX X.A h) (c6 X.A h) S aN.P W en E);apply J [145];rw[C];apply J [129,169];apply Vf rfl<;>intro d;have d:X.A.aL (bF h) en=0:=U
 rw[d];apply J [24,147,317,74];exact YE () [_,_] ⟨(e5 (n:=2) rfl rfl rfl rfl),rfl,trivial⟩ rfl trivial (bU (az (bT.mk aH bu:bT) trivial (bP 6 rfl (az (⟨H,bx,S⟩:eR) ⟨aN,u⟩ ai))));have d:X.A.aL (bF h) en≠0:=U
 obtain⟨_,_,x,r,hw,aW,ao,w,_⟩:=u.aL _ _ d;obtain⟨O,V⟩:=k9 (r:=r) w;rw[hw]at d⊢;rw[O,V,al d,al d,c7 d];have N:=jO w ao;apply J [4,27];refine q rfl rfl (k2 (b:=4294967295) rfl rfl N.1 am (QI w)) ?_;refine q rfl rfl (conv .u64 .u32 rfl rfl rfl (q8 U U)) ?_;refine q rfl rfl (bE.to (v:=(x:Int)) (sub rfl rfl (q8 U U)) U) ?_;apply J [3];refine q rfl rfl (jS (n:=32) rfl rfl N.1 (QH w)) ?_;refine J [308,147,102,70] ?_;exact YE () [_,_] ⟨(e5 (n:=2) rfl rfl rfl rfl),rfl,trivial⟩ rfl trivial (bU (az (bT.mk aH bu:bT) trivial (bP 6 rfl (az (⟨H,bx,S⟩:eR) ⟨aN,u⟩ ai))));rw[show gn X.A (bF h) s=0 from Ml D];refine J [25,309] ?_;intro au;refine J [0,257] ?_;intro aw;apply J [38,71,29];apply aq (Tg aR af (bX X.A h) (c6 X.A h) s D);apply J [9,129,169,57,147,317,74];exact ox
theorem Nr{S u w:cN}{c a:Nat}(g:gf top S u hV hV)(k:gf top u w (fz c a) (fz c a))(ao:¬c8 S c a):gf top S w hV hV:=by
 have E:∀d b,c8 S d b->¬fz c a d b:=λd b h=>by rintro⟨rfl,rfl⟩;exact ao h
 exact⟨k.P,λd b h _=>k.p d b (g.p d b h λh=>h) (E d b h),λd b h _ o C D=>(k.m d b (g.p d b h λh=>h) (E d b h) o C D).trans (g.m d b h (λh=>h) o C D),λ_ _ h=>h⟩
theorem BK{i s:Nat}(hs:s<256)(u:A.aL i s=0):mb A i s↔hJ (A.aL i) (s/16)≠0:=by rw[hJ,vd];constructor;rintro⟨r,D,d,_,w⟩;exact⟨r %16,by omega,by rw[show 16*(s/16)+r %16=r by omega];exact w⟩;rintro⟨k,C,d⟩;exact⟨16*(s/16)+k,by omega,by omega,λe=>d (by rw[e];exact u),d⟩
theorem NB{many aD i:Nat}{L L':List cg}(g:lD many L L' aD i):∃(k:Nat) (f:Nat->Bool),L'[k]? =some ⟨aD,f⟩/\f i=true:=by cases g with|old A B f w d u C=>exact⟨A.length,fa f i,by rw[d];simp,by rw[zN,u];rfl⟩|new A B w d u C D E=>exact⟨A.length,λj=>decide (j=0),by rw[d];simp,by rw[u];rfl⟩
def rh(top:Nat)(A:bR)(f:Int):Prop:=(aw.de A.Q f 48).2≠0\/(aw.de (aw.de A.Q f 48).1 f 256).2≠0\/2^top<=A.np+1
def rN(A:bR)(f:Int)(Q:List aw.bS):Prop:=Q=(aw.de A.Q f 48).1\/Q=(aw.de (aw.de A.Q f 48).1 f 256).1
def vD(top:Nat)(A:bR)(i s w:Nat)(f:Int)(y:Int×bR):Prop:=(y.1=0/\∃Q,y.2=A.lay i s w Q/\rN A f Q)\/(y.1≠0/\y.2={A with np:=A.np+2}/\rh top A f)
section
variable {top : Nat} {A : bR} {S cl gM : cN} {i a s w : Nat} {f : Int}
def pv(A:bR)(w:Nat):Prop:=∃h r:Nat,w=dO h r/\1<=r/\r<=15/\h<4294967295/\(au.cV A.l h).2=0
theorem ch.AC(h:ch A)(u:cB A.l i 1 (bz 2 a f))(hs:s<256)(d:A.aL i s=0)(hw:pv A w)(hr:mb A i s)(D:(aw.de A.Q f 48).2=0)(O:A.np+2<=1000000):ch (A.lay i s w (aw.de A.Q f 48).1):=by have E:w≠0:=(by obtain⟨x,r,rfl,_,H,N,_⟩:=hw;grind[jO]);refine h.t8 u hs (jG.hl h.dQ D) ?_ (.inr hw) U;have:=x5 (e:=A.aL i) (e':=fi A.aL i s w i) hs d (by rw[ii];exact E) λr C=>kU C;grind[rp,BK]
theorem ch.AB(h:ch A)(C:cB A.l i 1 (bz 2 a f))(hs:s<256)(d:A.aL i s=0)(hw:pv A w)(hr:¬mb A i s)(E:(aw.de A.Q f 48).2=0)(H:(aw.de (aw.de A.Q f 48).1 f 256).2=0)(V:A.np+2<=1000000):ch (A.lay i s w (aw.de (aw.de A.Q f 48).1 f 256).1):=by have N:w≠0:=(by obtain⟨x,r,rfl,_,O,P,_⟩:=hw;grind[jO]);have u:=jG.hl h.dQ E;refine h.t8 C hs (u.trans (jG.hl u.dQ H)) ?_ (.inr hw) U;have:=x5 (e:=A.aL i) (e':=fi A.aL i s w i) hs d (by rw[ii];exact N) λr D=>kU D;rw[show hJ (A.aL i) (s/16)=0 from Wi λh=>hr ((BK hs d).2 h),vV]at this;omega
theorem ch.yc(h:ch A)(d:A.np+2<=1000000):ch {A with np:=A.np+2}:=⟨h.ok,h.dQ,h.rt,h.ac,h.c1,h.nl,h.aL,h.hl,h.mD,h.oh,h.oi,h.m3,h.pd,by have:=h.bd;dsimp only;omega⟩
theorem cd.yc(h:cd top A S):cd top {A with np:=A.np+2} S:=h.mY (wF h.P rfl rfl rfl) rfl rfl rfl rfl h.Q (λ_ _ _ _ _ _ _=>⟨λh=>h,λh=>h.elim⟩) (λ_=>⟨λh=>h,λh=>h⟩) rfl (Wu h.gb (Nat.le_add_right _ _))
theorem cd.Ph(D:ch A)(h:cd top A S){y:Nat×Nat×List cg}(g:iV top S 6 y)(N:(aw.de S.Q f 48).2=0)(e:cl=kf S f 6 (some y)){L':List cg}(k:jV top cl 6 y.1 y.2.1 L')(E:gM=⟨(aw.ek cl.Q f (cc 6:Int)).1,cl.bt,dK cl.C 6 L',cl.Fr,cl.m⟩):cd top {A with np:=A.np+2} gM:=by
 obtain⟨g1,g2⟩:=wE (a8:=cl) h.P iq g rR rR (λo D=>by rw[e];exact vv D);have ao:¬c8 S 6 (addr 6 y):=λk=>g.uK h.P iq k ⟨rfl,rfl⟩;have g3:gf top cl gM (fz 6 (addr 6 y)) (fz 6 (addr 6 y)):=by grind[gf,addr,wD,iq]
 have H:((cc 6:Nat):Int)=48:=rfl;refine h.mY (Nr g1 g3 ao) rfl rfl rfl rfl ?_ (λ_ _ _ _ _ _ _=>⟨λh=>h,λh=>h.elim⟩) (λ_=>⟨λh=>h,λh=>h⟩) ?_ ?_;have u:cl.Q=(aw.de S.Q f 48).1:=by rw[e];rfl
 have d:cl.bt=S.bt:=by rw[e];rfl
 rw[E];dsimp only;rw[u,d,H,h.Q.1,s9 D.dQ (by rw[<-h.Q.1];exact N)];exact⟨rfl,h.Q.2⟩;have u:=IJ iq g 6;have d:=II g1.P iq k 6;rw[ax rfl]at u d;have w:cl.C=dK S.C 6 y.2.2:=by rw[e];rfl
 simp_all;have u:=g.len;have d:=k.len;have w:cl.C=dK S.C 6 y.2.2/\cl.Fr=S.Fr:=by rw[e];exact⟨rfl,rfl⟩
 rw[E];dsimp only;rw[w.1,w.2]at d⊢;have:=h.gb;omega
end
theorem ym(aB af top:Nat)(X:cu)(aR:Nat)(h:Int)(b7:0<=h/\h<=4294967295)(cf:(b3 X.A.l h 2).2=0)(s:Nat)(hs:s<256)(O:X.A.aL (bF h) s=0)(x r:Nat)(bl:x<4294967295)(hr:1<=r/\r<=15)(cr:(au.cV X.A.l x).2=0)(ar:X.A.np+2<=1000000):bH 138 [ae aB,.agg #[ae aR,aS h,aa (bX X.A h)],aa s,.agg #[aS x,aa r]] da [aj aR 163 [ae af,aa (bX X.A h),aa (c6 X.A h:Int)],cD aB af top X] (λy:Int×bR=>aa y.1) (λy=>vD top X.A (bF h) s (dO x r) (bX X.A h) y) (λy=>[aj aR 163 [ae af,aa (bX X.A h),aa (c6 X.A h:Int)],cD aB af top ⟨y.2,X.L,X.last⟩]):=by
 apply aF Tryz.func138 Tryz.ntmps138;intro F bS;apply J [11];haveI:cv F:=⟨bS⟩;apply ab.open 1 rfl;rintro⟨aH,bu⟩-;apply J [82];dsimp only;apply ab.open 1 rfl;rintro⟨W,bx,S⟩ ⟨aN,d⟩;apply J [144];dsimp only at aN d⊢;obtain⟨N,co⟩:=p6 aN b7.1 cf;have cw:2^top<=128:=Vk (n:=2) am aN.P.gd.2;have ck:cc 6=48:=rfl;have a4:((cc 6:Nat):Int)=48:=rfl;have w:=jO bl hr.2;have bh:pv X.A (dO x r):=by grind[pv]
 refine J [25,309] ?_;intro bb;refine J [0,242] ?_;intro bD;apply J [31];refine cC [0,1,2,3,5,6,-4,-7,8,9,10,11,12] (show aG (ah _) (ah [aj bb 150 [ae aR,aS h,aa (bX X.A h)],aj aB 148 [ae aH,ae bu]])from ai) ?_;apply J [49,135,17];apply aq (pz aH af W bx);refine J [248,47] ?_;apply a7 (uU af top S (bX X.A h) 6 iq);intro⟨ci,cq⟩ ag;refine J [284] ?_;cases ci with|none=>?_|some y=>?_
 dsimp only[pn,kf];have ay:rh top X.A (bX X.A h):=(by have bJ:=ag.2;rw[a4,aN.Q.1]at bJ;rcases bJ with bJ|⟨_,bJ⟩;exact .inl (by rw[<-bJ];exact ag.1);exact .inr (.inr (Wu bJ (Nat.le_succ_of_le aN.gb))));have E:=d.yc ar;have H:=aN.yc;apply J [152,283,274,7,39];refine Vf rfl (λa8=>?_) (λa8=>absurd (ag.1) a8);apply J [125];exact br (cq,{X.A with np:=X.A.np+2}) (.inr ⟨ag.1,rfl,ay⟩) (bP 8 rfl (az (bT.mk aH bu:bT) trivial (bP 6 rfl (az (⟨W,bx,S⟩:eR) ⟨H,E⟩ ai))));obtain⟨rfl,bi,cG⟩:=ag;obtain⟨cl,u⟩:∃cl:cN,cl=kf S (bX X.A h) 6 (some y):=⟨_,rfl⟩;rw[<-u];dsimp only[pn];obtain⟨g1,ch,cx,t1,t2,t3⟩:=aN.node N cG u;have ct:=c8.bd g1.P ch;have aP:cl.Q=(aw.de X.A.Q (bX X.A h) 48).1:=by rw[u,<-aN.Q.1];rfl
 have aW:(aw.de X.A.Q (bX X.A h) 48).2=0:=by rw[<-aN.Q.1];exact bi
 apply J [152,283,274,7,39];refine Vf rfl (λa9=>absurd a9 (λh=>h rfl)) (λa9=>?_);apply J [44,7];refine cC [0,1,2,3,5,6,-4,-7,8] (show aG (ah _) (ah [aj bb 150 [ae aR,aS h,aa (bX X.A h)],aj bD 39 [aS x,aa r]])from ai) ?_;apply J [109,16,250,16];refine bY rfl rfl rfl (conv .i64 .u64 rfl rfl rfl (qb U)) ?_;refine dY rfl rfl ?_;apply aq (Cs x r bl hr.2);refine J [284] ?_;by_cases V:bo cl.m (c6 X.A h) (s/16)=0;have a0:¬mb X.A (bF h) s:=λbJ=>(aN.Hi N hs O).2 bJ (by rw[<-t2 _ U];exact V);have a2:((cc 7:Nat):Int)=256:=rfl;refine dY rfl rfl ?_;apply a7 (Ty aR af top (bX X.A h) (c6 X.A h) cl g1.P t1 s hs (dO x r) (addr 6 y) w.1 U w.2 V);intro⟨z9,cq⟩ ao;refine J [284] ?_;cases z9 with|none=>?_|some z=>?_
 dsimp only[u7];obtain⟨cg,f6,cd,b0⟩:=NB cG.m0;have bN:cl.C 6=y.2.2:=by rw[u];exact jD S.C 6 y.2.2
 have ce:(aw.ek cl.Q (bX X.A h) (cc 6:Int)).2=0:=by rw[aP,a4,s9 d.dQ aW]
 have ay:rh top X.A (bX X.A h):=(by have bJ:=ao.2;rw[a2,aP]at bJ;rcases bJ with bJ|⟨_,bJ⟩;exact .inr (.inl (by rw[<-bJ];exact ao.1));refine .inr (.inr (Wu bJ ?_));have cn:=cG.len;(have a5:cl.C=dK S.C 6 y.2.2/\cl.Fr=S.Fr:=by rw[u];exact⟨rfl,rfl⟩);rw[a5.1,a5.2];have:=aN.gb;omega);apply J [199,39];refine Vf rfl (λbc=>?_) (λbc=>absurd (ao.1) bc);refine cC [0,1,2,3,5,6,7,-4,-8] (show aG (ah _) (ah [aj bb 150 [ae aR,aS h,aa (bX X.A h)],aj aB 148 [ae aH,ae bu]])from ai) ?_;apply J [49,135,264];apply aq (pz aH af W bx);refine J [248,47] ?_;apply a7 (uV af top cl 6 iq cg y.1 y.2.1 f6 (by rw[bN];exact cd) b0 (bX X.A h) ce);intro bn bV;refine J [284] ?_;obtain⟨gM,a3⟩:∃gM:cN,gM=⟨(aw.ek cl.Q (bX X.A h) (cc 6:Int)).1,cl.bt,dK cl.C 6 bn,cl.Fr,cl.m⟩:=⟨_,rfl⟩;rw[<-a3];have H:=aN.Ph d cG bi u bV a3;have E:=d.yc ar;apply J [73,325];exact br (cq,{X.A with np:=X.A.np+2}) (.inr ⟨ao.1,rfl,ay⟩) (bv (az (bT.mk aH bu:bT) trivial (bP 6 rfl (az (⟨W,bx,gM⟩:eR) ⟨H,E⟩ ai))));obtain⟨rfl,bj,bZ⟩:=ao;dsimp only;obtain⟨D,Z⟩:∃D:cN,D=u7 cl (bX X.A h) (c6 X.A h) s (dO x r) (addr 6 y) (some z):=⟨_,rfl⟩;rw[<-Z];rw[aP,a2]at bj;have H:=aN.AB d.ok N hs O w.2 w.1 cG u V bZ Z;have E:=d.AB N hs O bh a0 aW bj ar;apply J [199,39];refine Vf rfl (λba=>absurd ba (λh=>h rfl)) (λba=>?_);apply J [4,325];exact br (0,X.A.lay (bF h) s (dO x r) (aw.de (aw.de X.A.Q (bX X.A h) 48).1 (bX X.A h) 256).1) (.inl ⟨rfl,_,rfl,.inr rfl⟩) (an (az (bT.mk aH bu:bT) trivial (bP 6 rfl (az (⟨W,bx,D⟩:eR) ⟨H,E⟩ ai))));have a0:mb X.A (bF h) s:=(aN.Hi N hs O).1 (by rw[<-t2 _ U];exact V);obtain⟨D,Z⟩:∃D:cN,D=⟨cl.Q,cl.bt,cl.C,cl.Fr,dA cl.m (bo cl.m (c6 X.A h) (s/16)+s %16*16) [dO x r,addr 6 y]⟩:=⟨_,rfl⟩;have H:=aN.AC d.ok N hs O w.2 w.1 cG u V Z;have E:=d.AC N hs O bh a0 aW ar;refine dY rfl rfl ?_;apply aq (Cf aR af top (bX X.A h) (c6 X.A h) cl g1.P t1 s hs (dO x r) (addr 6 y) w.1 U w.2 V);refine J [284] ?_;rw[<-Z];apply J [199,172,325];exact br (0,X.A.lay (bF h) s (dO x r) (aw.de X.A.Q (bX X.A h) 48).1) (.inl ⟨rfl,_,rfl,.inl rfl⟩) (an (az (bT.mk aH bu:bT) trivial (bP 6 rfl (az (⟨W,bx,D⟩:eR) ⟨H,E⟩ ai))))
section
variable {A : bR} {i a s : Nat} {f : Int}
theorem ch.H5(h:ch A)(u:cB A.l i 1 (bz 2 a f)):aw.cX A.Q f/\(iw (A.aL i):Int)<=aw.fC A.Q f:=by have d:=(h.ac i 1 _ (.inl rfl) u).1;refine⟨d,?_⟩;rw[show(bz 2 a f).f=f from rfl]at d;rw[h.hl f d];have w:=vc (f:=hQ A f) (u.lt h.ok);rw[nZ u f,ax (show fl 1/\(bz 2 a f).f=f from⟨.inl rfl,rfl⟩),ax (show(1:Int)=1/\(bz 2 a f).k=2 from⟨rfl,rfl⟩)]at w;grind[n0]
theorem H4(hs:s<256)(d:A.aL i s≠0):iw (A.aL i)=iw (fi A.aL i s 0 i)+48+256*(1-bb (hJ (fi A.aL i s 0 i) (s/16))):=
 x5 (e:=fi A.aL i s 0 i) (e':=A.aL i) hs (ii ..) d λr u=>(kU u).symm
theorem Hm(hs:s<256):mb A i s↔hJ (fi A.aL i s 0 i) (s/16)≠0:=by have u:=BK (A:={A with aL:=fi A.aL i s 0}) (i:=i) hs (ii ..);rw[<-u,mb,mb];constructor;rintro⟨r,a,b,c,d⟩;exact⟨r,a,b,c,by dsimp only;rw[kU c];exact d⟩;grind[kU]
theorem ch.yY(h:ch A)(d:cB A.l i 1 (bz 2 a f))(hs:s<256)(u:A.aL i s≠0)(hr:mb A i s):(aw.ek A.Q f 48).2=0/\ch (A.bare i s (aw.ek A.Q f 48).1):=by obtain⟨w,E⟩:=h.H5 d;have C:=H4 hs u;rw[rp ((Hm hs).1 hr)]at C;obtain⟨bN,D⟩:=jG.r0 h.dQ w (n:=48) am U;exact⟨bN,h.t8 d hs D U (.inl rfl) ⟨Vi _,h.bd.2.2⟩⟩
theorem ch.yX(h:ch A)(C:cB A.l i 1 (bz 2 a f))(hs:s<256)(D:A.aL i s≠0)(hr:¬mb A i s):(aw.ek A.Q f 256).2=0/\(aw.ek (aw.ek A.Q f 256).1 f 48).2=0/\ch (A.bare i s (aw.ek (aw.ek A.Q f 256).1 f 48).1):=by obtain⟨u,O⟩:=h.H5 C;have E:=H4 hs D;rw[show hJ (fi A.aL i s 0 i) (s/16)=0 from Wi λh=>hr ((Hm hs).2 h),vV]at E;obtain⟨bN,d⟩:=jG.r0 h.dQ u (n:=256) am U;have w:=d.fJ _ u;rw[ax rfl]at w;obtain⟨H,N⟩:=jG.r0 d.dQ ((d.has _).2 u) (n:=48) am (by rw[w];omega);exact⟨bN,H,h.t8 C hs (d.trans N) U (.inl rfl) ⟨Vi _,h.bd.2.2⟩⟩
end
theorem Cr(aB af top:Nat)(X:cu)(aR:Nat)(h:Int)(bj:0<=h/\h<=4294967295)(b0:(b3 X.A.l h 2).2=0)(s:Nat)(hs:s<256)(w:X.A.aL (bF h) s≠0):bH 168 [ae aB,.agg #[ae aR,aS h,aa (bX X.A h)],aa s] da [aj aR 163 [ae af,aa (bX X.A h),aa (c6 X.A h:Int)],cD aB af top X] (λ_:bR=>.tuple #[]) (λy=>∃Q,y=X.A.bare (bF h) s Q) (λy=>[aj aR 163 [ae af,aa (bX X.A h),aa (c6 X.A h:Int)],cD aB af top ⟨y,X.L,X.last⟩]):=by
 apply aF Tryz.func168 Tryz.ntmps168;intro F ba;apply J [11];haveI:cv F:=⟨ba⟩;apply ab.open 1 rfl;rintro⟨aH,bu⟩-;apply J [82];dsimp only;apply ab.open 1 rfl;rintro⟨W,bx,S⟩ ⟨aN,N⟩;apply J [144];dsimp only at aN N⊢;obtain⟨D,ck⟩:=p6 aN bj.1 b0;have cl:2^top<=128:=Vk (n:=2) am aN.P.gd.2;have cg:cc 6=48:=rfl;have cf:((cc 6:Nat):Int)=48:=rfl;have a9:((cc 7:Nat):Int)=256:=rfl;obtain⟨V,a3⟩:=aN.hL _ _ _ D;have ch:=(a3 s hs).1;have a2:=(a3 s hs).2 w;have ci:=c8.bd aN.P a2;have a4:eb S.m (c6 X.A h) s≠0:=U
 have aA:=aN.fE D hs w;obtain⟨k,aD,i,f,Z,a5,aQ⟩:=(a2.jQ iq).at;refine J [25,309] ?_;intro bb;apply J [2,71,29];apply aq (r6 aR af top (bX X.A h) (c6 X.A h) S aN.P V s hs);apply J [21];have a0:=aQ;rw[aQ];apply J [278,173,71,3];by_cases E:mb X.A (bF h) s;refine e rfl ?_;apply aq (Tb aR af top (bX X.A h) (c6 X.A h) S aN.P V s hs aA a4 ((aN.row D hs w).1 E));apply J [21];obtain⟨d,u⟩:∃d:cN,d=⟨S.Q,S.bt,S.C,S.Fr,dA S.m (bo S.m (c6 X.A h) (s/16)+s %16*16) [0,0]⟩:=⟨_,rfl⟩;rw[<-u];have au:d.C 6=S.C 6:=by rw[u]
 obtain⟨bV,ar⟩:=N.yY D hs w E;have bh:d.Q=X.A.Q:=by rw[u];exact aN.Q.1
 have bN:d.bt=X.A.bt:=by rw[u];exact aN.Q.2
 have aP:(aw.ek d.Q (bX X.A h) (cc 6:Int)).2=0:=b2
 rw[<-au]at Z;refine J [2,606,49,135,16,535,17] ?_;apply aq (pz aH af W bx);refine J [253,47] ?_;apply a7 (uV af top d 6 iq k aD i f Z a5 (bX X.A h) aP);intro H ay;refine J [253,10] ?_;obtain⟨gM,ag⟩:∃gM:cN,gM=⟨(aw.ek d.Q (bX X.A h) (cc 6:Int)).1,d.bt,dK d.C 6 H,d.Fr,d.m⟩:=⟨_,rfl⟩;rw[<-ag];have O:=aN.yY N.ok D hs w E u ay a0 (aw.ek X.A.Q (bX X.A h) 48).1;have ao:gM=⟨(aw.ek X.A.Q (bX X.A h) 48).1,X.A.bt,dK d.C 6 H,d.Fr,d.m⟩:=b2
 rw[<-ao]at O;refine ca.nil ?_;exact mR (X.A.bare (bF h) s (aw.ek X.A.Q (bX X.A h) 48).1) ⟨_,rfl⟩ (bv (az (bT.mk aH bu:bT) trivial (eE (az (⟨W,bx,gM⟩:eR) ⟨O,ar⟩ ai))));obtain⟨cd,ce,i7,f7,bn,bi,a8⟩:=(V.fE _ U aA).at;obtain⟨bZ,bV,ar⟩:=N.yX D hs w E;have b7:∀j,j<16->j≠s %16->cW S.m (bo S.m (c6 X.A h) (s/16)+j*16)=0:=λj bl bS=>Wi λbJ=>E ((aN.row D hs w).2 ⟨j,bl,bS,bJ⟩);refine e rfl ?_;apply a7 (Ta aR af top (bX X.A h) (c6 X.A h) S aN.P V s hs aA a4 cd ce i7 f7 bn bi a8 b7 (by rw[a9,aN.Q.1];exact bZ));intro aW bc;apply J [21];obtain⟨d,u⟩:∃d:cN,d=⟨(aw.ek S.Q (bX X.A h) (cc 7:Int)).1,S.bt,dK S.C 7 aW,S.Fr,dA (dA S.m (bo S.m (c6 X.A h) (s/16)+s %16*16) [0,0]) (c6 X.A h+s/16*8) [0]⟩:=⟨_,rfl⟩;rw[<-u];have au:d.C 6=S.C 6:=by rw[u];exact jh S.C aW (show(6:Nat)≠7 by decide)
 have bh:d.Q=(aw.ek X.A.Q (bX X.A h) 256).1:=by rw[u,<-aN.Q.1];rfl
 have bN:d.bt=X.A.bt:=by rw[u];exact aN.Q.2
 have aP:(aw.ek d.Q (bX X.A h) (cc 6:Int)).2=0:=b2
 rw[<-au]at Z;refine J [2,606,49,135,16,535,17] ?_;apply aq (pz aH af W bx);refine J [253,47] ?_;apply a7 (uV af top d 6 iq k aD i f Z a5 (bX X.A h) aP);intro H ay;refine J [253,10] ?_;obtain⟨gM,ag⟩:∃gM:cN,gM=⟨(aw.ek d.Q (bX X.A h) (cc 6:Int)).1,d.bt,dK d.C 6 H,d.Fr,d.m⟩:=⟨_,rfl⟩;rw[<-ag];have O:=aN.yX N.ok D hs w E bc a8 u ay a0 (aw.ek (aw.ek X.A.Q (bX X.A h) 256).1 (bX X.A h) 48).1;have ao:gM=⟨(aw.ek (aw.ek X.A.Q (bX X.A h) 256).1 (bX X.A h) 48).1,X.A.bt,dK d.C 6 H,d.Fr,d.m⟩:=b2
 rw[<-ao]at O;refine ca.nil ?_;exact mR (X.A.bare (bF h) s (aw.ek (aw.ek X.A.Q (bX X.A h) 256).1 (bX X.A h) 48).1) ⟨_,rfl⟩ (bv (az (bT.mk aH bu:bT) trivial (eE (az (⟨W,bx,gM⟩:eR) ⟨O,ar⟩ ai))))
end Go.Proofs.Q
namespace Go.Proofs.Q.b1
open Go Go.QM
theorem FL{L:List Fn}{last:Int}(h:cM L last){t:Fn}(V:t∈L):∀i,i<=(c5 L t.id).length->∃Z,nQ L last t i Z/\∀u,u∈Z↔∃v∈L,v.id≠t.id/\u=if v.id∈(c5 L t.id).take i then⟨v.id,t.par,v.dF,v.cf⟩else v
 | 0,_=>⟨hb L t.id,nQ.start h V,λu=>by
  rw[l6]
  constructor
  ·rintro⟨E,H⟩;exact⟨u,E,H,by simp⟩
  rintro⟨v,E,H,C⟩;simp at C;rw[C];exact⟨E,H⟩⟩
 | i +1,aF=>by
  obtain⟨Z,ao,hm⟩:=FL h V i U
  obtain⟨k,P⟩:∃k,(c5 L t.id)[i]? =some k:=⟨_,Vc U⟩
  obtain⟨w,hw,rfl,aW⟩:=ao.todo i k (Vi _) P
  have aA:=ao.eo.rg w hw
  have aP:=h.rg t V
  have aL:=pP h (Vg P)
  have W:(c5 L t.id).take (i+1)=(c5 L t.id).take i++[w.id]:=by rw[Vt,P];rfl
  refine⟨_,ao.next h V hw P U,λu=>?_⟩
  obtain⟨v0,qG,aw,ay⟩:=(hm w).1 hw
  have eB:v0.id=w.id/\v0.dF=w.dF/\v0.cf=w.cf:=by
   rw[ay];split<;>exact⟨rfl,rfl,rfl⟩
  have au:u∈ha Z w t.par↔(u∈Z/\u.id≠w.id)\/u=⟨w.id,t.par,w.dF,w.cf⟩:=by rw[ha,Ve,Vd,l6]
  rw[au]
  constructor
  ·rintro(⟨E,H⟩|rfl)
   ·obtain⟨v,C,ag,N⟩:=(hm u).1 E
    have aq:v.id=u.id:=by rw[N];split<;>rfl
    refine⟨v,C,ag,?_⟩
    rw[N,W]
    have O:v.id∈(c5 L t.id).take i++[w.id]↔v.id∈(c5 L t.id).take i:=by
     rw[Ve,Vd]
     exact⟨λD=>D.elim id λe=>absurd (aq.symm.trans e) H,.inl⟩
    by_cases d:v.id∈(c5 L t.id).take i
    ·rw[ax d,ax (O.2 d)]
    rw[al d,al (λD=>d (O.1 D))]
   refine⟨v0,qG,aw,?_⟩
   rw[ax (by rw[W,eB.1];simp),eB.1,eB.2.1,eB.2.2]
  rintro⟨v,C,ag,N⟩
  by_cases e:v.id=w.id
  ·right
   obtain rfl:=h.bq.inj C qG (e.trans eB.1.symm)
   rw[N,ax (by rw[W,e];simp),eB.1,eB.2.1,eB.2.2]
  left
  have O:v.id∈(c5 L t.id).take i++[w.id]↔v.id∈(c5 L t.id).take i:=by
   rw[Ve,Vd]
   exact⟨λD=>D.elim id λar=>absurd ar e,.inl⟩
  have d:u=if v.id∈(c5 L t.id).take i then⟨v.id,t.par,v.dF,v.cf⟩else v:=by
   rw[N,W]
   by_cases d:v.id∈(c5 L t.id).take i
   ·rw[ax d,ax (O.2 d)]
   rw[al d,al (λD=>d (O.1 D))]
  refine⟨(hm u).2 ⟨v,C,ag,d⟩,?_⟩
  rw[d];split<;>exact e
def kh(t v:Fn):Fn:=⟨v.id,if v.par=t.id then t.par else v.par,v.dF,v.cf⟩
structure JL(L:List Fn)(last:Int)(t:Fn):Prop where
  eo:cM (ki L t.id) last
  len:(ki L t.id).length+1=L.length
  mem:∀u,u∈ki L t.id↔∃v∈L,v.id≠t.id/\u=kh t v
theorem AJ{L:List Fn}{last:Int}(h:cM L last){t:Fn}(d:t∈L):JL L last t:=by obtain⟨Z,C,hm⟩:=FL h d _ (Vi _);have e:=C.done h d;have H:=uP h.bq d;have O:=h.rg t d;refine⟨by rw[e];exact C.eo,by rw[e,C.len];exact H,λu=>?_⟩;rw[e,hm,VY];have hv:∀v∈L,(if v.id∈c5 L t.id then(⟨v.id,t.par,v.dF,v.cf⟩:Fn)else v)=kh t v:=λv hv=>(by have P:v.id∈c5 L t.id↔v.par=t.id:=(by rw[pO];constructor;rintro⟨_,w,hw,D,E⟩;rw[<-h.bq.inj hw hv E];exact D;grind);rw[kh];by_cases N:v.par=t.id;all_goals simp_all);grind
end Go.Proofs.Q.b1
namespace Go.Proofs.Q
open Go Go.QM
variable [cJ] [ez]
def ao(l:List au.bV)(i:Nat):Int:=match l[i]? with
  | some p=>p.cU*256+(i:Int)
  | none=>-1
theorem rE{l:List au.bV}{i:Nat}{p:au.bV}(h:l[i]? =some p):ao l i=p.cU*256+(i:Int):=by rw[ao,h]
theorem sM{l:List au.bV}(d:au.dN l){i j:Nat}(u:i<256)(w:j<256)(e:ao l i=ao l j):i=j:=by obtain⟨p,C,_⟩:=d.at u;obtain⟨q,D,_⟩:=d.at w;grind[rE]
theorem EQ{l:List au.bV}(u:au.dN l){i:Nat}(d:i<256):0<=ao l i/\ao l i<=4294967295/\(ao l i %256).toNat=i:=by obtain⟨p,D,w,C⟩:=u.at d;grind[rE]
structure c9(X:cu)(D:Nat->Nat->Prop):Prop where
  eo:b1.cM X.L X.last
  pU:∀t∈X.L,∃i s:Nat,t.dF=ao X.A.l i/\t.cf=(s:Int)/\X.A.aL i s≠0/\¬D i s
  qQ:∀i s,X.A.aL i s≠0->¬D i s->∃t∈X.L,t.dF=ao X.A.l i/\t.cf=(s:Int)
  kc:∀i s,D i s->X.A.aL i s≠0
  fF:∀t∈X.L,∀u∈X.L,t.par=u.id->∀i s j r:Nat,t.dF=ao X.A.l i->t.cf=(s:Int)->X.A.aL i s≠0->u.dF=ao X.A.l j->u.cf=(r:Int)->X.A.aL j r≠0->iY (X.A.aL i s)=iY (X.A.aL j r)
  dg:X.last<=X.A.np
def ei:Nat->Nat->Prop:=λ_ _=>False
section
variable {X : cu} {D : Nat → Nat → Prop}
variable{i s:Nat}
theorem ch.ni{A:bR}(h:ch A)(e:A.aL i s≠0):i<256/\s<256:=by obtain⟨d,⟨a,f,u⟩,_⟩:=h.aL i s e;exact⟨u.lt h.ok,d⟩
theorem c9.p8(h:c9 X D)(d:ch X.A){t:b1.Fn}(H:t∈X.L)(E:i<256)(u:t.dF=ao X.A.l i)(N:t.cf=(s:Int)):X.A.aL i s≠0/\¬D i s:=by obtain⟨j,r,w,O,C,P⟩:=h.pU t H;have:=sM d.ok E (d.ni C).1 (u.symm.trans w);grind
theorem c9.find(h:c9 X D)(e:X.A.aL i s≠0)(C:¬D i s):∃t∈X.L,b1.ho X.L (ao X.A.l i,(s:Int))=t.id/\t.dF=ao X.A.l i/\t.cf=(s:Int)/\1<=t.id:=by obtain⟨t,d,u,w⟩:=h.qQ i s e C;refine⟨t,d,?_,u,w,(h.eo.rg t d).1⟩;rw[<-u,<-w];exact b1.zK h.eo.no d
theorem c9.Gf(h:c9 X D)(C:ch X.A)(E:i<256)(e:X.A.aL i s=0\/D i s):b1.ho X.L (ao X.A.l i,(s:Int))=0:=by refine b1.zJ ?_;rintro⟨t,H,d⟩;have u:t.dF=ao X.A.l i:=congrArg (·.1) d;have w:t.cf=(s:Int):=congrArg (·.2) d;obtain⟨N,O⟩:=h.p8 C H E u w;simp_all
theorem NJ{L:List b1.Fn}{x y:Int}(h:b1.ho L (x,y)=0)(hr:∀t∈L,1<=t.id):¬b1.kE L (x,y):=by rintro⟨t,d,e⟩;grind[b1.ho]
theorem c9.add(h:c9 X D)(H:ch X.A)(O:D i s){par:Int}(w:par=0\/∃u∈X.L,u.id=par/\∀j r:Nat,u.dF=ao X.A.l j->u.cf=(r:Int)->X.A.aL j r≠0->iY (X.A.aL i s)=iY (X.A.aL j r)){D':Nat->Nat->Prop}(aM:∀j r,D' j r↔D j r/\¬(j=i/\r=s))(aP:X.last+1<=X.A.np):
 (b1.hi X.L X.last par (ao X.A.l i,(s:Int))).2.2.2=0/\c9 ⟨X.A,(b1.hi X.L X.last par (ao X.A.l i,(s:Int))).1,(b1.hi X.L X.last par (ao X.A.l i,(s:Int))).2.1⟩ D':=by
 have aq:i<256:=(H.ni (h.kc i s O)).1;have ag:=h.Gf H aq (.inr O);have aA:¬(¬b1.fP X.L par/\par≠0):=(by rcases w with w|⟨u,hu,w,_⟩;omega;exact λh=>h.1 ⟨u,hu,w⟩);have e:b1.hi X.L X.last par (ao X.A.l i,(s:Int))=(X.L++[⟨X.last+1,par,ao X.A.l i,(s:Int)⟩],X.last+1,X.last+1,0):=(by rw[b1.hi,al aA,al (λh=>h ag)]);have a7:0<=X.last:=by have:=h.eo.len;omega
 have a0:0<=par/\par<=X.last:=(by rcases w with w|⟨u,hu,w,_⟩;omega;have:=h.eo.rg u hu;omega);rw[e];refine⟨rfl,h.eo.add (t:=⟨X.last+1,par,ao X.A.l i,(s:Int)⟩) rfl a0 (NJ ag λt d=>(h.eo.rg t d).1),λt d=>?_,λj r P aW=>?_,λj r P=>h.kc j r ((aM j r).1 P).1,λt d u hu V=>?_,aP⟩;rcases Ve.1 d with d|d;obtain⟨j,r,ay,a3,a4,a5⟩:=h.pU t d;grind;obtain rfl:=Vd.1 d;exact⟨i,s,rfl,rfl,h.kc i s O,λN=>((aM i s).1 N).2 ⟨rfl,rfl⟩⟩;by_cases C:j=i/\r=s;simp_all;obtain⟨t,d,ay⟩:=h.qQ j r P λN=>aW ((aM j r).2 ⟨N,C⟩);grind;dsimp only;intro j r k q C W Z ar au aw;rcases Ve.1 d with d|d<;>rcases Ve.1 hu with E|E;exact h.fF t d u E V j r k q C W Z ar au aw;obtain rfl:=Vd.1 E;have:=h.eo.rg t d;grind;obtain rfl:=Vd.1 d;dsimp only at V C W;have aF:=sM H.ok aq (H.ni Z).1 C;have a2:r=s:=U
 subst aF;subst a2;rcases w with w|⟨v,hv,w,a8⟩;have:=h.eo.rg u E;omega;have:v=u:=h.eo.bq.inj hv E U;grind;grind
theorem c9.lay(h:c9 X D)(P:ch X.A){w np:Nat}{Q:List aw.bS}(aW:i<256)(au:X.A.aL i s=0)(hw:w≠0)(a0:X.A.np<=np){D':Nat->Nat->Prop}(aM:∀j r,D' j r↔D j r\/(j=i/\r=s)):c9 ⟨{X.A with Q:=Q,aL:=fi X.A.aL i s w,np:=np},X.L,X.last⟩ D':=by have V:∀{j r},X.A.aL j r≠0->fi X.A.aL i s w j r=X.A.aL j r:=λ{j r} d=>lx (by by_cases e:j=i;exact .inr λC=>d (by rw[e,C];exact au);exact .inl e);have hold:∀{j r},fi X.A.aL i s w j r≠0->¬(j=i/\r=s)->X.A.aL j r≠0:=λ{j r} O ay=>(by grind[lx]);refine⟨h.eo,λt N=>?_,λj r d aA=>?_,λj r d=>?_,λt N u hu ao=>?_,by have:=h.dg;dsimp only;omega⟩;obtain⟨j,r,O,ay,aF,aP⟩:=h.pU t N;grind;dsimp only at d;by_cases e:j=i/\r=s;simp_all;exact h.qQ j r (hold d e) λE=>aA ((aM j r).2 (.inl E));dsimp only;rcases(aM j r).1 d with H|⟨rfl,rfl⟩;have:=h.kc j r H;rw[V this];exact this;grind[ii];dsimp only;intro j r k q C W aq Z ag ar;have lt:∀{j r},fi X.A.aL i s w j r≠0->j<256:=λ{j r} O=>(by by_cases e:j=i/\r=s;omega;exact(P.ni (hold O e)).1);have E:=(h.p8 P N (lt aq) C W).1;have H:=(h.p8 P hu (lt ar) Z ag).1;rw[V E,V H];exact h.fF t N u hu ao j r k q C W E Z ag H
theorem c9.ID(h:c9 X D)(ay:ch X.A){Q:List aw.bS}(aA:D i s){D':Nat->Nat->Prop}(aM:∀j r,D' j r↔D j r/\¬(j=i/\r=s)):c9 ⟨X.A.bare i s Q,X.L,X.last⟩ D':=by
 have C:∀{j r},¬(j=i/\r=s)->fi X.A.aL i s 0 j r=X.A.aL j r:=λ{j r} w=>lx (by by_cases e:j=i;exact .inr λE=>w ⟨e,E⟩;exact .inl e);have hold:∀{j r},fi X.A.aL i s 0 j r≠0->¬(j=i/\r=s):=by grind[ii]
 refine⟨h.eo,λt V=>?_,λj r w ar=>?_,λj r w=>?_,λt V u hu W=>?_,h.dg⟩;obtain⟨j,r,d,O,au,aq⟩:=h.pU t V;refine⟨j,r,d,O,?_,λP=>aq ((aM j r).1 P).1⟩;dsimp only[bR.bare];grind;dsimp only[bR.bare]at w;have d:=hold w;rw[C d]at w;exact h.qQ j r w λP=>ar ((aM j r).2 ⟨P,d⟩);have d:=(aM j r).1 w;dsimp only[bR.bare];rw[C d.2];exact h.kc j r d.1;dsimp only[bR.bare];intro j r k q E Z H ag ao N;have d:=hold H;have O:=hold N;rw[C d]at H⊢;rw[C O]at N⊢;exact h.fF t V u hu W j r k q E Z H ag ao N
theorem c9.set(h:c9 X D)(C:ch X.A){w:Nat}(aW:X.A.aL i s≠0)(hw:w≠0)(a0:D i s\/iY w=iY (X.A.aL i s)):c9 ⟨X.A.set i s w,X.L,X.last⟩ D:=by have d:∀{j r},fi X.A.aL i s w j r≠0↔X.A.aL j r≠0:=λ{j r}=>(by grind[ii,lx]);have W:∀{j r},¬D j r->iY (fi X.A.aL i s w j r)=iY (X.A.aL j r):=λ{j r} a2=>(by grind[ii,lx]);refine⟨h.eo,λt E=>?_,λj r H aA=>h.qQ j r (d.1 H) aA,λj r H=>d.2 (h.kc j r H),λt E u hu ag=>?_,h.dg⟩;obtain⟨j,r,ar,au,aw,ay⟩:=h.pU t E;exact⟨j,r,ar,au,d.2 aw,ay⟩;dsimp only[bR.set];intro j r k q N O ao P V aq;have bN:=d.1 ao;have Z:=d.1 aq;have aF:=(h.p8 C E (C.ni bN).1 N O).2;have aP:=(h.p8 C hu (C.ni Z).1 P V).2;rw[W aF,W aP];exact h.fF t E u hu ag j r k q N O bN P V Z
theorem c9.lift(h:c9 X D)(W:ch X.A){Q:List aw.bS}(ay:X.A.aL i s≠0){t:b1.Fn}(C:t∈X.L)(O:t.dF=ao X.A.l i)(E:t.cf=(s:Int)):c9 ⟨X.A.bare i s Q,b1.ki X.L t.id,X.last⟩ D:=by
 have N:=b1.AJ h.eo C;have aW:=(W.ni ay).1;have a3:=(h.p8 W C aW O E).2;have Z:∀{j r},¬(j=i/\r=s)->fi X.A.aL i s 0 j r=X.A.aL j r:=λ{j r} d=>lx (by by_cases e:j=i;exact .inr λE=>d ⟨e,E⟩;exact .inl e);have hold:∀{j r},fi X.A.aL i s 0 j r≠0->¬(j=i/\r=s):=by grind[ii]
 have a9:∀v∈X.L,v.dF=t.dF->v.cf=t.cf->v.id=t.id:=λv hv a b=>(by have:=h.eo.no.inj hv C (show b1.iv v=b1.iv t from Prod.ext a b);simp_all);refine⟨N.eo,λu hu=>?_,λj r d a4=>?_,λj r d=>?_,λu hu v hv H=>?_,h.dg⟩;obtain⟨v,w,a0,rfl⟩:=(N.mem u).1 hu;obtain⟨j,r,bN,aA,ba,a5⟩:=h.pU v w;refine⟨j,r,bN,aA,?_,a5⟩;dsimp only[bR.bare];grind;dsimp only[bR.bare]at d;have w:=hold d;rw[Z w]at d;obtain⟨v,hv,bN,aA⟩:=h.qQ j r d a4;refine⟨b1.kh t v,(N.mem _).2 ⟨v,hv,λe=>?_,rfl⟩,bN,aA⟩;have:=h.eo.bq.inj hv C e;subst this;exact w ⟨sM W.ok (W.ni d).1 aW (bN.symm.trans O),by omega⟩;dsimp only[bR.bare];rw[Z (λe=>a3 (by rw[<-e.1,<-e.2];exact d))];exact h.kc j r d;dsimp only[bR.bare];intro j r k q ag aq P ar au V;obtain⟨aF,w,a0,rfl⟩:=(N.mem u).1 hu;obtain⟨v0,aP,a8,rfl⟩:=(N.mem v).1 hv;have g1:=hold P;have g2:=hold V;rw[Z g1]at P⊢;rw[Z g2]at V⊢;dsimp only[b1.kh]at H ag aq ar au;by_cases e:aF.par=t.id;rw[ax e]at H;have a7:=h.fF aF w t C e j r i s ag aq P O E ay;have a2:=h.fF t C v0 aP H i s k q O E ay ar au V;omega;rw[al e]at H;exact h.fF aF w v0 aP H j r k q ag aq P ar au V
theorem c9.obj(h:c9 X D)(aq:ch X.A){bl:bR}(E:bl.aL=X.A.aL)(H:∀i s,X.A.aL i s≠0->ao bl.l i=ao X.A.l i)(ar:ch bl)(au:X.A.np<=bl.np):c9 ⟨bl,X.L,X.last⟩ D:=by refine⟨h.eo,λt N=>?_,λj r d ag=>?_,λj r d=>by dsimp only;rw[E];exact h.kc j r d,λt N u hu V=>?_,by have:=h.dg;dsimp only;omega⟩;obtain⟨j,r,bN,aw,ay,aA⟩:=h.pU t N;grind;dsimp only at d⊢;rw[E]at d;rw[H j r d];exact h.qQ j r d ag;dsimp only;intro j r k q O W w P Z C;rw[E]at w C⊢;rw[H j r w]at O;rw[H k q C]at P;exact h.fF t N u hu V j r k q O W w P Z C
end
def ia(A:bR)(h s:Int):Nat×Nat×Int:=if(b3 A.l h 2).2≠0 then(0,0,(b3 A.l h 2).2)else if ¬(0<=s/\s<256)then(0,0,2)else if gn A (bF h) s=0 then(0,0,6)else(iY (gn A (bF h) s),k8 (gn A (bF h) s),0)
structure fv(A bl:bR)(n:Nat):Prop where
  l:bl.l=A.l
  z:bl.a6=A.a6
  q:bl.q=A.q/\bl.now=A.now/\bl.pd=A.pd
  o:bl.own=A.own
  n:A.np<=bl.np/\bl.np<=A.np+n
theorem fv.refl(A:bR)(n:Nat):fv A A n:=⟨rfl,rfl,⟨rfl,rfl,rfl⟩,rfl,by omega⟩
theorem fv.trans{A B C:bR}{n m:Nat}(h:fv A B n)(k:fv B C m):fv A C (n+m):=⟨k.l.trans h.l,k.z.trans h.z,⟨k.q.1.trans h.q.1,k.q.2.1.trans h.q.2.1,k.q.2.2.trans h.q.2.2⟩,k.o.trans h.o,by have:=h.n;have:=k.n;omega⟩
theorem fv.mono{A B:bR}{n m:Nat}(h:fv A B n)(k:n<=m):fv A B m:=⟨h.l,h.z,h.q,h.o,by have:=h.n;omega⟩
theorem IV(aB af top:Nat)(X:cu)(h s:Int)(C:0<=h/\h<=4294967295):bn 57 [ae aB,aS h,aa s] da [cD aB af top X] (.tuple #[.agg #[aS ((ia X.A h s).1:Int),aa ((ia X.A h s).2.1:Int)],aa (ia X.A h s).2.2]) [cD aB af top X]:=by
 apply aF Tryz.func57 Tryz.ntmps57;intro F E;apply J [1];haveI:cv F:=⟨E⟩;refine J [25,257] ?_;intro bb;apply J [28,34];by_cases d:(b3 X.A.l h 2).2=0;rw[show ia X.A h s=if ¬(0<=s/\s<256)then(0,0,2)else if gn X.A (bF h) s=0 then(0,0,6)else(iY (gn X.A (bF h) s),k8 (gn X.A (bF h) s),0)from al (λbJ=>bJ d)];refine e rfl ?_;apply a7 (o5 aB af top X h C d);intro aR _;refine J [14,216] ?_;intro cp;apply J [116,236,23,138];apply aq (sg s);apply J [9];by_cases u:0<=s/\s<256;rw[c7 u,al (λbJ=>bJ u)];apply J [266,20,130,29];apply aq (ov aB af top X aR h C d s);refine J [9,231] ?_;intro H;apply J [102,105,62,409,2];apply Vf rfl<;>intro N;have w:gn X.A (bF h) s=0:=U
 simp only[ax w];apply J [24,147,102,123];exact ox;have w:gn X.A (bF h) s≠0:=U
 simp only[al w];apply J [4,24,244,102,26];exact ox;rw[dn u,ax u];apply J [89,38,57,147,102,28,161];exact ox;rw[show ia X.A h s=(0,0,(b3 X.A.l h 2).2)from ax d];refine e rfl ?_;apply aq (ra aB af top X h C d);refine J [6,216] ?_;intro bD;apply J [116,236];refine Vf rfl (λD=>?_) (λD=>absurd (d) D);apply J [24,147,3,102,28,161];exact ox
end Go.Proofs.Q
open Go.QM.ab renaming dj->Wr
namespace Go.Proofs.Q
open Go Go.QM
variable [cJ] [ez]
theorem Nt{l:List au.bV}{k:Nat}{p:au.bV}{dv:au.e7}{g0:Int}(w:l[k]? =some ⟨dv,0,g0⟩){h:Int}(d:0<=h)(u:(au.cV l h).2=0):au.cV (l.set k p) h=au.cV l h:=by grind[oO,au.cV,pR]
theorem Gt{l:List au.bV}{k:Nat}{p:au.bV}{dv:au.e7}{g0:Int}(w:l[k]? =some ⟨dv,0,g0⟩){h n:Int}(d:0<=h)(u:(b3 l h n).2=0):b3 (l.set k p) h n=b3 l h n:=by grind[b3,Nt]
theorem NU{l:List au.bV}{k i:Nat}{p:au.bV}(h:i≠k):ao (l.set k p) i=ao l i:=by rw[ao,ao,Wm λe=>h e.symm]
theorem zW{l:List au.bV}(u:au.dN l){k:Nat}{o dv:au.e7}{g:Int}(d:l[k]? =some ⟨dv,0,g⟩):au.cV (l.set k ⟨o,1,g⟩) (g*256+k)=(o,0):=by have w:=rP (l:=l.set k ⟨o,1,g⟩) (p:=⟨o,1,g⟩) (u.lt d) (VZ (Vm.1 d).1);grind[au.cV]
def CP(top:Nat)(X:cu)(h s fH k lim:Int):Prop:=(b3 X.A.l h 2).2≠0\/¬(0<=s/\s<256)\/¬(k=8\/1<=k/\k<=5)\/((s<128)↔k=8)\/gn X.A (bF h) s≠0\/rh top X.A (bX X.A h)\/∃Q,rN X.A (bX X.A h) Q/\qj top (X.A.lay (bF h) s.toNat (dO 0 15) Q) fH k lim
def qk(top:Nat)(X:cu)(h s fH k lim:Int)(y:cu×Int×Int):Prop:=
  (y.2.2≠0/\y.2.1=0/\fv X.A y.1.A 4/\c9 y.1 ei/\CP top X h s fH k lim)\/
  (y.2.2=0/\c9 y.1 ei/\(0<=y.2.1/\y.2.1<=4294967295)/\(0<=s/\s<256)/\∃(c x wV:Nat) (f g:Int) (dv:au.e7),k=c/\ic c/\X.A.l[wV]? =some ⟨dv,0,g⟩/\X.A.l.findIdx? au.isEmpty=some wV/\y.2.1=g*256+wV/\y.1.A.l=X.A.l.set wV ⟨bz c x f,1,g⟩/\y.1.A.a6=X.A.a6/\y.1.A.q=X.A.q/\y.1.A.now=X.A.now/\y.1.A.pd=X.A.pd/\X.A.np<=y.1.A.np/\y.1.A.np<=X.A.np+4/\y.1.A.aL=fi X.A.aL (bF h) s.toNat (dO y.2.1.toNat 15)/\(c≠1->∃Q,rN X.A (bX X.A h) Q/\y.1.A.Q=(aw.de Q (X.A.own (fH %256).toNat:Int) (bj c)).1/\y.1.A.own=X.A.own))
theorem jG.refl{Q:List aw.bS}{d:Int}(h:aw.eK Q d)(f:Int):jG Q Q d f 0:=⟨h,λ_=>Iff.rfl,λx _=>by split<;>omega,λ_=>rfl⟩
variable{A:bR}
theorem ch.set(h:ch A){i a s w:Nat}{f:Int}(u:cB A.l i 1 (bz 2 a f))(hs:s<256)(d:A.aL i s≠0)(hw:pv A w):ch (A.set i s w):=by have E:w≠0:=(by obtain⟨x,r,rfl,_,H,N,_⟩:=hw;grind[jO]);have D:=Td (e:=A.aL i) (e':=fi A.aL i s w i) hs d (by rw[ii];exact E) λr C=>kU C;exact h.t8 u hs (jG.refl h.dQ f) (by rw[D];omega) (.inr hw) ⟨Vi _,h.bd.2.2⟩
variable{top:Nat}
theorem p7{S:cN}(aN:cd top A S){h:Int}(d:0<=h)(e:(b3 A.l h 2).2=0):ao A.l (bF h)=h:=by obtain⟨_,g,u,w⟩:=p6 aN d e;rw[rE w];exact u.symm
def tX(i s:Nat):Nat->Nat->Prop:=λj r=>j=i/\r=s
theorem ch.vo(h:ch A){n:Nat}(d:A.np<=n)(u:n<=1000000):ch {A with np:=n}:=⟨h.ok,h.dQ,h.rt,h.ac,h.c1,h.nl,h.aL,h.hl,h.mD,h.oh,h.oi,h.m3,h.pd,by have:=h.bd;dsimp only;omega⟩
theorem w6{i s w:Nat}{f:Int}{y:Int×bR}(h:vD top A i s w f y)(d:y.1=0):∃Q,y.2=A.lay i s w Q/\rN A f Q:=by rcases h with⟨_,h⟩|⟨h,_⟩;all_goals trivial
theorem w7{i s w:Nat}{f:Int}{y:Int×bR}(h:vD top A i s w f y)(d:y.1≠0):y.2={A with np:=A.np+2}/\rh top A f:=by rcases h with⟨h,_⟩|⟨_,h⟩;all_goals trivial
theorem fv.up(A:bR){n m:Nat}(h:n<=m):fv A {A with np:=A.np+n} m:=⟨rfl,rfl,⟨rfl,rfl,rfl⟩,rfl,by dsimp only;omega⟩
theorem R0(h:ch A):(au.cV A.l ((0:Nat):Int)).2=0:=by obtain⟨⟨a,d⟩,_⟩:=h.rt;have:=rP (i:=0) am d;grind[au.cV]
theorem IW(aB af top:Nat)(X:cu)(h s N k lim:Int)(V:0<=h/\h<=4294967295)(dd:0<=N/\N<=4294967295)(O:c9 X ei)(dK:X.A.np+4<=1000000):bH 141 [ae aB,aS h,aa s,aS N,aa k,aa lim] da [cD aB af top X] (λy:cu×Int×Int=>.tuple #[aS y.2.1,aa y.2.2]) (λy=>qk top X h s N k lim y) (λy=>[cD aB af top y.1]):=by
 apply aF Tryz.func141 Tryz.ntmps141;intro F cA;apply J [1];haveI:cv F:=⟨cA⟩;refine ab.lU 0 rfl (λaP=>?_);obtain⟨⟨dz,dC⟩,_⟩:=aP;apply J [215,34];by_cases Z:(b3 X.A.l h 2).2=0;·refine e rfl ?_;apply a7 (o5 aB af top X h V Z);intro aR _;refine J [6,216] ?_;intro bD;apply J [116,172,130,29];apply aq (ov aB af top X aR h V Z s);refine J [14,231] ?_;intro cp;apply J [102,105,72,138];apply aq (sg s);apply J [9];by_cases a0:0<=s/\s<256;(·rw[c7 a0];apply J [266,138];apply aq (Uk k);apply J [9];by_cases bl:k=8\/1<=k/\k<=5;(·rw[c7 bl];apply J [89,19,239];apply aq (sf s);apply J [9,13,160];refine db rfl rfl rfl (zD rfl rfl rfl) ?_;apply J [207];apply Vf rfl<;>intro cO;apply J [171];exact cT (X,0,1) (.inl ⟨(show(1:Int)≠0 by decide),rfl,fv.refl _ _,O,.inr (.inr (.inr (.inl (by simpa using cO))))⟩) ai;apply J [62,38];apply Vf rfl<;>intro cR;apply J [171];exact cT (X,0,7) (.inl ⟨(show(7:Int)≠0 by decide),rfl,fv.refl _ _,O,.inr (.inr (.inr (.inr (.inl (by simpa using cR)))))⟩) ai;obtain⟨en,rfl⟩:∃n:Nat,s=(n:Int):=⟨s.toNat,(Wf a0.1).symm⟩;(have H:en<256:=by omega);have bZ:X.A.aL (bF h) en=0:=(by grind[la]);apply J [206,267,3,147];refine aU.dj 2 rfl hq (λaP=>?_);obtain⟨W,dm,dE⟩:=aP;refine e rfl ?_;apply a7 (ym aB af top X aR h V Z en H bZ 0 15 am am (R0 W) U);intro⟨cq,dq⟩ cd;apply J [9];dsimp only;apply J [126];apply Vf rfl<;>intro he;obtain⟨bJ,cy⟩:=w7 cd he;dsimp only at bJ;subst bJ;have cB:c9 ⟨{X.A with np:=X.A.np+2},X.L,X.last⟩ ei:=O.obj W rfl (λ_ _ _=>rfl) (W.vo (Vv _ _) U) (Vv _ _);apply J [189];exact cT (⟨{X.A with np:=X.A.np+2},X.L,X.last⟩,0,cq) (.inl ⟨he,rfl,fv.up _ am,cB,.inr (.inr (.inr (.inr (.inr (.inl cy)))))⟩) ai;obtain rfl:cq=0:=Vh he;obtain⟨Q,bJ,ul⟩:=w6 cd rfl;dsimp only at bJ;subst bJ;have cc:c9 ⟨X.A.lay (bF h) en (dO 0 15) Q,X.L,X.last⟩ (tX (bF h) en):=O.lay W (by have:=V;rw[bF];omega) bZ (jO am am).2 (Vv _ _) (λj r=>⟨λh=>.inr h,λh=>h.elim (λh=>h.elim) id⟩);apply ab.open 1 rfl;rintro⟨aH,bu⟩-;apply J [245];dsimp only;refine ab.lU 1 rfl (λaP=>?_);obtain⟨⟨_,_,dy⟩,dF,a3⟩:=aP;apply J [4,50,120,29];apply a7 (DI aH af top (X.A.lay (bF h) en (dO 0 15) Q) N dd k lim (by dsimp only[bR.lay];omega));intro⟨d,aw,cq⟩ bK;apply J [18];dsimp only;apply J [129,39];apply Vf rfl<;>intro cn;(·have bj:aw=0/\Gg (X.A.lay (bF h) en (dO 0 15) Q) d/\qj top (X.A.lay (bF h) en (dO 0 15) Q) N k lim:=(by rcases bK with⟨bJ,_⟩|⟨_,bJ⟩;all_goals simp_all);obtain⟨rfl,cr,a5⟩:=bj;have cx:d.l=X.A.l/\d.aL=fi X.A.aL (bF h) en (dO 0 15)/\d.a6=X.A.a6/\d.own=X.A.own/\(d.q=X.A.q/\d.now=X.A.now/\d.pd=X.A.pd)/\X.A.np+2<=d.np/\d.np<=X.A.np+4:=(by rcases cr with bJ|bJ;all_goals grind[bR.lay]);obtain⟨ct,lp,df,dk,dl,dp,dW⟩:=cx;(have ba:(b3 d.l h 2).2=0:=by simp_all);have b7:ch d:=(by rcases cr with bJ|bJ;simp_all;rw[bJ];exact a3.vo (Vv _ _) (by dsimp only[bR.lay];omega));have bi:c9 ⟨d,X.L,X.last⟩ (tX (bF h) en):=cc.obj a3 (by rw[lp];rfl) (λi s _=>by rw[ct];rfl) b7 dp;(have ay:d.aL (bF h) en≠0:=by rw[lp,ii];exact(jO am am).2);(have a2:bX d h=bX X.A h/\c6 d h=c6 X.A h:=by grind[bX,c6]);refine ab.bg (B:=ah [aj aR 163 [ae af,aa (bX X.A h),aa (c6 X.A h:Int)],cD aB af top ⟨d,X.L,X.last⟩,aj bD 150 [ae aR,aS h,aa (bX X.A h)],F]) (c0 (az (bT.mk aH bu:bT) trivial ai)) ?_;rw[<-a2.1,<-a2.2];apply J [267,29];apply a7 (Cr aB af top ⟨d,X.L,X.last⟩ aR h V ba en H ay);intro ds a4;apply J [14];obtain⟨bS,rfl⟩:=a4;have a8:c9 ⟨d.bare (bF h) en bS,X.L,X.last⟩ ei:=bi.ID (i:=bF h) (s:=en) b7 ⟨rfl,rfl⟩ (λj r=>⟨λh=>h.elim,λh=>h.2 h.1⟩);apply J [2,189];exact cT (⟨d.bare (bF h) en bS,X.L,X.last⟩,0,cq) (.inl ⟨cn,rfl,⟨ct,df,dl,dk,by dsimp only[bR.bare];omega⟩,a8,.inr (.inr (.inr (.inr (.inr (.inr ⟨Q,ul,a5⟩)))))⟩) ai);obtain rfl:cq=0:=Vh cn;have bj:vE (X.A.lay (bF h) en (dO 0 15) Q) N k lim d aw:=(by rcases bK with⟨_,bJ,_⟩|⟨bJ,_⟩;all_goals simp_all);obtain⟨cl,c,x,bc,g,dv,dx,dX,dZ,cX,cM,co,j1,ci,D,ce⟩:=bj;have bn:X.A.l[bc]? =some ⟨dv,0,g⟩:=co;(have bN:d.l=X.A.l.set bc ⟨bz c x (((X.A.lay (bF h) en (dO 0 15) Q).own (N %256).toNat:Nat):Int),1,g⟩:=by rw[D];rfl);(have ay:d.aL=fi X.A.aL (bF h) en (dO 0 15):=by rw[D];rfl);(have dT:b3 d.l h 2=b3 X.A.l h 2:=by grind[Gt]);(have ba:(b3 d.l h 2).2=0:=by simp_all);(have a2:bX d h=bX X.A h/\c6 d h=c6 X.A h:=by grind[bX,c6]);(have dM:au.cV d.l aw=(bz c x (((X.A.lay (bF h) en (dO 0 15) Q).own (N %256).toNat:Nat):Int),0):=by rw[bN,ci];exact zW W.ok bn);obtain⟨u,rfl⟩:∃n:Nat,aw=(n:Int):=⟨aw.toNat,(Wf cl.1).symm⟩;have cW:=W.lt bn;dsimp only at cW;(have ck:u<4294967295:=by omega);(have cP:pv d (dO u 15):=by grind[pv]);have c3:=jO (h:=0) (r:=15) am am;(have ag:d.aL (bF h) en≠0:=by rw[ay,ii];exact c3.2);apply ab.open 0 rfl;rintro⟨cJ,bx,w⟩ ⟨E,ar⟩;apply J [302];dsimp only at E ar⊢;have bi:c9 ⟨d,X.L,X.last⟩ (tX (bF h) en):=cc.obj a3 (by rw[ay];rfl) (λi s bJ=>by obtain⟨_,⟨a,f,cw⟩,_⟩:=a3.aL i s bJ;have c5:i≠bc:=λe=>(by subst e;exact absurd (cw.inj ⟨g,co⟩).1 am);rw[bN];exact NU c5) ar (by rw[D];dsimp only[bR.lay];omega);obtain⟨a9,_⟩:=p6 E V.1 ba;obtain⟨cf,a5⟩:=E.hL _ _ _ a9;have dD:=(a5 en H).1;have dG:=c8.bd E.P ((a5 en H).2 ag);have dV:2^top<=128:=Vk (n:=2) am E.P.gd.2;have c2:=E.fE a9 H ag;have aW:=jO (h:=u) (r:=15) ck am;have cS:=p7 E V.1 ba;rw[<-a2.1,<-a2.2];apply J [4,71,29];apply aq (r6 aR af top (bX d h) (c6 d h) w E.P cf en H);apply J [145,129];refine cC [0,1,2,3,4,6,-5,-7] (show aG (ah _) (ah [aj bD 150 [ae aR,aS h,aa (bX d h)]])from ai) ?_;apply J [109,16,16,442,264];apply aq (Cs u 15 ck am);refine J [248,47] ?_;apply aq (Cf aR af top (bX d h) (c6 d h) w E.P cf en H (dO u 15) (dU w.m (c6 d h) en) aW.1 U aW.2 c2);refine J [284] ?_;obtain⟨bh,bV⟩:∃bh:cN,bh=⟨w.Q,w.bt,w.C,w.Fr,dA w.m (bo w.m (c6 d h) (en/16)+en %16*16) [dO u 15,dU w.m (c6 d h) en]⟩:=⟨_,rfl⟩;rw[<-bV];have cF:=E.tc ar.ok a9 H ag aW.2 aW.1 bV;have a4:=ar.set a9 H ag cP;have a8:=bi.set ar ag aW.2 (.inl ⟨rfl,rfl⟩);have dN:=a8.dg;(have dS:d.np=X.A.np+4:=by rw[D];rfl);have dQ:X.last<=X.A.np:=O.dg;obtain⟨de,rC⟩:=a8.add (i:=bF h) (s:=en) (par:=0) a4 ⟨rfl,rfl⟩ (.inl rfl) (D':=ei) (λj r=>⟨λh=>h.elim,λh=>h.2 h.1⟩) (by show X.last+1<=((d.set (bF h) en (dO u 15)).np:Int);dsimp only[bR.set];omega);have cU:ao (d.set (bF h) en (dO u 15)).l (bF h)=h:=cS;have dH:=W.bd;rw[cU]at de rC;have cQ:(d.set (bF h) en (dO u 15)).aL=fi X.A.aL (bF h) ((en:Int)).toNat (dO ((u:Int)).toNat 15):=(by dsimp only[bR.set];rw[ay];grind[fi]);refine J [73,65,223,29] ?_;apply aq (b1.wu bu X.L X.last 0 h (en:Int) U);apply J [145,2,27,99];exact cT (⟨d.set (bF h) en (dO u 15),(b1.hi X.L X.last 0 (h,(en:Int))).1,(b1.hi X.L X.last 0 (h,(en:Int))).2.1⟩,(u:Int),0) (.inr ⟨rfl,rC,cl,a0,c,x,bc,_,g,dv,cX,cM,bn,j1,ci,bN,by rw[D];rfl,by rw[D];rfl,by rw[D];rfl,by rw[D];rfl,by dsimp only[bR.set];omega,by dsimp only[bR.set];omega,cQ,λb0=>⟨Q,ul,by rw[D];exact(ce b0).1,by rw[D];exact(ce b0).2.2⟩⟩) (az (bT.mk aH bu:bT) trivial (bP 6 rfl (az (⟨cJ,bx,bh⟩:eR) ⟨cF,a4⟩ ai))));rw[dn bl];apply J [89,19,213,143,57,119];exact cT (X,0,1) (.inl ⟨(show(1:Int)≠0 by decide),rfl,fv.refl _ _,O,.inr (.inr (.inl bl))⟩) ai);rw[dn a0];apply J [89,38,57,119];exact cT (X,0,2) (.inl ⟨(show(2:Int)≠0 by decide),rfl,fv.refl _ _,O,.inr (.inl a0)⟩) ai
 refine e rfl ?_;apply aq (ra aB af top X h V Z);refine J [5,216] ?_;intro bb;apply J [116,39];refine Vf rfl (λcg=>?_) (λcg=>absurd (Z) cg);apply J [189];exact cT (X,0,(b3 X.A.l h 2).2) (.inl ⟨Z,rfl,fv.refl _ _,O,.inl Z⟩) ai
end Go.Proofs.Q
namespace Go.QM
open Go
theorem Kw:∀a:Nat,a<16->∀b:Nat,b<16->IntKind.i64.wrap (VX IntKind.i64.bits (a:Int)&&&~~~VX IntKind.i64.bits (b:Int)).toNat=((a-(a&&&b):Nat):Int):=by decide+kernel
section
variable {P : Program} {ag : Env} {A : ay} {d : Option Nat} {ty : TypeId} {ps : String} {bh : Array Edge} {g : Option (Nat × Bool)} {t t' : TypeId} {x y : Operand} {a b c n : Nat}
theorem Kx(D:bc ag x=aa a)(E:bc ag y=aa b)(u:a<16)(C:b<16):
    bE P ag ⟨d,.binOp .andNot t x y t',ty,ps,bh,g⟩ A (aa ((a-(a&&&b):Nat):Int)):=λw _=>by
  have h:=Kw a u b C
  simp[execOp,D,E,eqGuard,binOp,Op.intBits]
  simpa using h
end
end Go.QM
namespace Go.Proofs.Q
open Go Go.QM
variable [cJ] [ez]
variable{A:bR}{i:Nat}
theorem Cg(u:ch A){a:Nat}{f:Int}(C:cB A.l i 1 (bz 2 a f)):(0<=ao A.l i/\ao A.l i<=4294967295)/\(b3 A.l (ao A.l i) 2).2=0/\bF (ao A.l i)=i:=by have D:=C.lt u.ok;obtain⟨E,H,N⟩:=EQ u.ok D;refine⟨⟨E,H⟩,?_,N⟩;obtain⟨g,w⟩:=C;have d:=rP D w;dsimp only at d;rw[rE w,oW (by rw[au.cV,d];rfl),au.cV,d]
def sv(X:cu)(t:b1.Fn)(m:Nat)(y:Bool×cu):Prop:=∃i s h r:Nat,t.dF=ao X.A.l i/\t.cf=(s:Int)/\X.A.aL i s=dO h r/\(1<=r/\r<=15)/\h<4294967295/\i<256/\s<256/\
  ((y.1=true/\r-(r&&&m)=0/\∃Q,y.2=⟨X.A.bare i s Q,b1.ki X.L t.id,X.last⟩)\/(y.1=false/\r-(r&&&m)≠0/\y.2=⟨X.A.set i s (dO h (r-(r&&&m))),X.L,X.last⟩))
variable{X:cu}{t:b1.Fn}{m:Nat}
theorem sv.df{y:Bool×cu}(h:sv X t m y)(u:ch X.A)(w:c9 X ei)(O:t∈X.L):c9 y.2 ei/\fv X.A y.2.A 0/\y.2.A.np=X.A.np:=by
 obtain⟨i,s,x,r,C,D,P,E,H,_,_,h⟩:=h;have W:r<=15:=E.2;have d:X.A.aL i s≠0:=by grind[jO]
 rcases h with⟨_,_,Q,e⟩|⟨_,V,e⟩;rw[e];exact⟨w.lift u d O C D,⟨rfl,rfl,⟨rfl,rfl,rfl⟩,rfl,Vi _,Vi _⟩,rfl⟩;rw[e];have N:r-(r&&&m)<=15:=U
 refine⟨w.set u d (jO H N).2 (.inr ?_),⟨rfl,rfl,⟨rfl,rfl,rfl⟩,rfl,Vi _,Vi _⟩,rfl⟩;grind[k9]
variable(aB:Nat)
theorem Uy(af top:Nat)(X:cu)(H:c9 X ei)(t:b1.Fn)(ba:t∈X.L)(m:Nat)(hm:1<=m/\m<=15):bH 120 [ae aB,aa t.id,aa m] da [cD aB af top X] (λy:Bool×cu=>.bool y.1) (λy=>sv X t m y) (λy=>[cD aB af top y.2]):=by
 apply aF Tryz.func120 Tryz.ntmps120;intro F bh;apply J [1];haveI:cv F:=⟨bh⟩;refine Wr 0 rfl hq (λbn=>?_);obtain⟨E,dm,b7⟩:=bn;obtain⟨i,s,ar,au,D,_⟩:=H.pU t ba;obtain⟨d,⟨a,f,w⟩,x,r,aw,a9,W,u,ce⟩:=E.aL i s D;obtain⟨O,Z,bV⟩:=Cg E w;have a8:=w.lt E.ok;generalize a5:ao X.A.l i=h at*;have bS:b1.pX X.L t.id=(h,(s:Int),true):=by rw[b1.pX,b1.wy H.eo.bq ba];dsimp only;rw[ar,au]
 have bR:X.L.length<=1000000:=by have:=H.eo.len;have:=H.dg;have:=E.bd;omega
 subst bV;apply ab.open 0 rfl;rintro⟨aH,bu⟩-;apply J [83];dsimp only;apply J [127,65,29];apply aq (b1.Ni bu X.L X.last t.id);apply J [14];rw[bS];dsimp only;refine J [278,256,77,184,34,476] ?_;refine aU.bg (B:=ah [cD aB af top X,F]) (az (bT.mk aH bu:bT) trivial ai) ?_;refine e rfl ?_;apply a7 (o5 aB af top X h O Z);intro aR _;refine J [6,216] ?_;intro bb;apply J [116,172,130,29];apply aq (ov aB af top X aR h O Z (s:Int));apply J [14];rw[la d,aw,(k9 (r:=r) u).1,(k9 (r:=r) u).2,al (jO u W).2,al (jO u W).2];refine J [231] ?_;intro bD;apply J [317,265,3];refine q rfl rfl (Kx (a:=r) (b:=m) rfl rfl U U) ?_;apply J [406,202,30,265,87,2];apply Vf rfl<;>intro N;have N:r-(r&&&m)≠0:=U
 have a4:r-(r&&&m)<=15:=U
 have bl:pv X.A (dO x (r-(r&&&m))):=by grind[pv]
 have V:=jO (r:=r-(r&&&m)) u a4;apply ab.open 2 rfl;rintro⟨aH,bu⟩-;apply J [245];dsimp only;apply ab.open 1 rfl;rintro⟨bj,bx,S⟩ ⟨aN,ay⟩;apply J [302];dsimp only at aN ay⊢;obtain⟨w,cd⟩:=p6 aN O.1 Z;obtain⟨a3,a2⟩:=aN.hL _ _ _ w;have b0:=(a2 s d).1;have bc:=(a2 s d).2 D;have cc:=c8.bd aN.P bc;have cf:2^top<=128:=Vk (n:=2) am aN.P.gd.2;have bN:=aN.fE w d D;apply J [71,29];apply aq (r6 aR af top (bX X.A h) (c6 X.A h) S aN.P a3 s d);apply J [145,129];refine cC [0,1,2,3,5,-4,-6] (show aG (ah _) (ah [aj bb 150 [ae aR,aS h,aa (bX X.A h)],aj bD 39 [aS x,aa ((r-(r&&&m):Nat):Int)]])from ai) ?_;apply J [109,16,250,264];apply aq (Cs x (r-(r&&&m)) u a4);refine J [248,47] ?_;apply aq (Cf aR af top (bX X.A h) (c6 X.A h) S aN.P a3 s d (dO x (r-(r&&&m))) (dU S.m (c6 X.A h) s) V.1 U V.2 bN);refine J [284] ?_;obtain⟨ag,a0⟩:∃ag:cN,ag=⟨S.Q,S.bt,S.C,S.Fr,dA S.m (bo S.m (c6 X.A h) (s/16)+s %16*16) [dO x (r-(r&&&m)),dU S.m (c6 X.A h) s]⟩:=⟨_,rfl⟩;rw[<-a0];have bi:=aN.tc ay.ok w d D V.2 V.1 a0;have aP:=ay.set w d D bl;apply J [73,127,74];exact br (false,⟨X.A.set (bF h) s (dO x (r-(r&&&m))),X.L,X.last⟩) ⟨bF h,s,x,r,ar.trans a5.symm,au,aw,⟨a9,W⟩,u,a8,d,.inr ⟨rfl,N,rfl⟩⟩ (az (bT.mk aH bu:bT) trivial (eE (az (⟨bj,bx,ag⟩:eR) ⟨bi,aP⟩ ai)));have N:r-(r&&&m)=0:=U
 apply ab.open 2 rfl;rintro⟨aH,bu⟩-;apply J [245];dsimp only;apply J [4,65,29];apply aq (b1.EB bu X.L X.last t.id bR);apply J [18,2,267,3];refine aU.bg (B:=ah [aj aR 163 [ae af,aa (bX X.A h),aa (c6 X.A h:Int)],cD aB af top ⟨X.A,b1.ki X.L t.id,X.last⟩,F]) (eQ (az (bT.mk aH bu:bT) trivial ai)) ?_;refine e rfl ?_;apply a7 (Cr aB af top ⟨X.A,b1.ki X.L t.id,X.last⟩ aR h O Z s d D);intro bZ aP;apply J [6];obtain⟨aW,rfl⟩:=aP;apply J [226,70];exact br (true,⟨X.A.bare (bF h) s aW,b1.ki X.L t.id,X.last⟩) ⟨bF h,s,x,r,ar.trans a5.symm,au,aw,⟨a9,W⟩,u,a8,d,.inl ⟨rfl,N,aW,rfl⟩⟩ ai
theorem wL(xs d:List Int):ints xs++ints d=ints (xs++d):=by simp[ints]
theorem P8{α β:Type}{f:α->β}(u:∀a b,f a=f b->a=b){l:List α}(h:l.Nodup):(l.map f).Nodup:=List.pairwise_map.2 (h.imp λd e=>d (u _ _ e))
def vr(m w:Nat):Nat:=if k8 w-(k8 w&&&m)=0 then 0 else dO (iY w) (k8 w-(k8 w&&&m))
def n8(X:cu)(l:List Int)(i s:Nat):Prop:=i<256/\∃t∈X.L,t.id∈l/\t.dF=ao X.A.l i/\t.cf=(s:Int)
structure k0(X:cu)(l:List Int)(m n:Nat)(Y:cu):Prop where
  df:c9 Y ei
  cf:fv X.A Y.A 0
  ng:∀i s,¬n8 X l i s->Y.A.aL i s=X.A.aL i s
  sH:∀i s,n8 X l i s->Y.A.aL i s=vr m (X.A.aL i s)
  FF:∀t∈X.L,t.id∉l->∃t'∈Y.L,t'.id=t.id/\t'.dF=t.dF/\t'.cf=t.cf
  lp:∀t'∈Y.L,∃t∈X.L,t'.id=t.id/\t'.dF=t.dF/\t'.cf=t.cf
  gu:n<=l.length/\(m=15->n=l.length)
  dg:Y.last=X.last
theorem fv.Qd{B:bR}(h:fv A B 0):B.np=A.np:=by have:=h.n;omega
theorem k0.nil(h:c9 X ei)(m:Nat):k0 X [] m 0 X:=⟨h,fv.refl _ _,λ_ _ _=>rfl,λi s h=>(by obtain⟨_,t,_,h,_⟩:=h;cases h),λt d _=>⟨t,d,rfl,rfl,rfl⟩,λt d=>⟨t,d,rfl,rfl,rfl⟩,⟨Vi _,λ_=>rfl⟩,rfl⟩
theorem sv.aL{y:Bool×cu}(h:sv X t m y):∃i s h r:Nat,t.dF=ao X.A.l i/\t.cf=(s:Int)/\X.A.aL i s=dO h r/\(1<=r/\r<=15)/\h<4294967295/\i<256/\s<256/\y.2.A.aL=fi X.A.aL i s (vr m (X.A.aL i s))/\y.2.last=X.last/\((y.1=true/\y.2.L=b1.ki X.L t.id)\/(y.1=false/\y.2.L=X.L/\r-(r&&&m)≠0)):=by obtain⟨i,s,x,r,D,E,C,H,u,N,O,h⟩:=h;refine⟨i,s,x,r,D,E,C,H,u,N,O,?_⟩;rw[C,vr,(k9 u).1,(k9 u).2];rcases h with⟨w,d,Q,e⟩|⟨w,d,e⟩;rw[e,ax d];exact⟨rfl,rfl,.inl ⟨w,rfl⟩⟩;rw[e,al d];exact⟨rfl,rfl,.inr ⟨w,rfl,d⟩⟩
variable{s:Nat}
theorem tj{e:Nat->Nat->Nat}{w j r:Nat}(h:¬(j=i/\r=s)):fi e i s w j r=e j r:=lx (by
 by_cases d:j=i
 ·exact .inr λu=>h ⟨d,u⟩
 exact .inl d)
theorem Dd:∀r,r<=15->r&&&15=r:=by decide
variable{n:Nat}{Y Z:cu}
theorem k0.step{l:List Int}{b:Bool}(h:k0 X l m n Y)(ag:c9 X ei)(aF:ch X.A)(aP:ch Y.A){u:b1.Fn}(E:t∈X.L)(a4:t.id∉l)(hu:u∈Y.L)(he:u.id=t.id/\u.dF=t.dF/\u.cf=t.cf)(hw:sv Y u m (b,Z)):k0 X (l++[t.id]) m (if b then n+1 else n) Z:=by
 obtain⟨V,W,aA⟩:=hw.df aP h.df hu;obtain⟨i,s,x,r,bN,N,a7,⟨ef,ba⟩,a8,au,a9,D,aw,C⟩:=hw.aL;dsimp only at V W aA D aw C;rw[he.2.1,h.cf.l]at bN;rw[he.2.2]at N;have p8:∀{j q:Nat},j<256->(∃v∈X.L,v.id=t.id/\v.dF=ao X.A.l j/\v.cf=((q:Nat):Int))->j=i/\q=s:=λ{j q} d ⟨v,hv,a,b,c⟩=>(by have:v=t:=ag.eo.bq.inj hv E a;subst this;exact⟨sM aF.ok d au (b.symm.trans bN),by omega⟩);have aq:∀{j q},n8 X (l++[t.id]) j q↔n8 X l j q\/(j=i/\q=s):=λ{j q}=>(by constructor;rintro⟨d,v,hv,a,b,c⟩;rcases Ve.1 a with a|a;exact .inl ⟨d,v,hv,a,b,c⟩;exact .inr (p8 d ⟨v,hv,Vd.1 a,b,c⟩);rintro(⟨d,v,hv,a,b,c⟩|⟨rfl,rfl⟩);exact⟨d,v,hv,Ve.2 (.inl a),b,c⟩;exact⟨au,t,E,by simp,bN,N⟩);have a0:¬n8 X l i s:=λ⟨d,v,hv,a,b,c⟩=>(by have:v=t:=ag.eo.no.inj hv E (Prod.ext (b.trans bN.symm) (c.trans N.symm));simp_all);refine⟨V,(h.cf.trans W).mono (Vi _),λj q d=>?_,λj q d=>?_,λv hv a5=>?_,λv hv=>?_,?_,aw.trans h.dg⟩;have aW:¬(j=i/\q=s):=b2
 rw[D,tj aW];exact h.ng j q λe=>d (aq.2 (.inl e));by_cases e:j=i/\q=s;obtain⟨rfl,rfl⟩:=e;rw[D,ii,h.ng _ _ a0];rw[D,tj e];exact h.sH j q ((aq.1 d).resolve_right e);have ar:v.id∉l/\v.id≠t.id:=b2
 obtain⟨w,H,O,a2,a3⟩:=h.FF v hv ar.1;rcases C with⟨_,e⟩|⟨_,e,_⟩;exact⟨b1.kh u w,by rw[e];exact((b1.AJ h.df.eo hu).mem _).2 ⟨w,H,λP=>ar.2 (O.symm.trans (P.trans he.1)),rfl⟩,O,a2,a3⟩;grind;rcases C with⟨_,e⟩|⟨_,e,_⟩;rw[e]at hv;obtain⟨w,H,_,rfl⟩:=((b1.AJ h.df.eo hu).mem _).1 hv;exact h.lp w H;rw[e]at hv;exact h.lp v hv;have:=h.gu;rw[mp,Vl];refine⟨by split<;>omega,λe=>?_⟩;have P:=this.2 e;rcases C with⟨ay,_⟩|⟨_,_,ay⟩;grind;grind[Dd]
theorem k0.dc{l:List Int}(h:k0 X l m n Y):n<=l.length:=h.gu.1
theorem yo(af top:Nat)(X:cu)(H:c9 X ei)(m:Nat)(hm:1<=m/\m<=15)(l:List Int)(aw:∀x∈l,∃t∈X.L,t.id=x)(a9:l.Nodup)(a5:l.length<=1000001)(dc:Nat)(D:dc=l.length)(ad:Option Addr)(cap:Nat):bH 76 [ae aB,aa m,.slice ad dc cap] (λF=>da F/\∃E,cQ F E ad (ints l)) [cD aB af top X] (λy:Nat×cu=>aa y.1) (λy=>k0 X l m y.1 y.2) (λy=>[cD aB af top y.2]):=by
 apply aF Tryz.func76 Tryz.ntmps76;intro F ⟨ag,P,ao⟩;apply J [1];subst D;haveI:cv F:=⟨ag⟩;haveI:bi F ad P (ints l):=⟨ao⟩;refine Wr 0 rfl hq (λC=>?_);obtain⟨V,dm,a0⟩:=C;apply J [106,35,33,177];refine VP (ι:=Nat×Nat×cu) (λd=>d.1<=l.length/\k0 X (l.take d.1) m d.2.1 d.2.2) (λd=>[(0,ae aB),(1,aa m),(7,aa ((d.2.1:Nat):Int)),(10,.slice ad l.length cap),(11,aa ((l.length:Nat):Int)),(12,aa ((d.1:Nat):Int))]) (λd=>ah [cD aB af top d.2.2,F]) (λd=>l.length-d.1) (0,0,X) ⟨Vj _,k0.nil H m⟩ bI ai ?_;rintro⟨k,n,Y⟩ ⟨ar,av⟩ bc;dsimp only[cy]at ar av⊢;have D:=av.dc;rw[WN]at D;have a4:n<=k:=U
 apply J [42];apply Vf rfl<;>intro a8;refine Wr 0 rfl hq (λC=>?_);obtain⟨W,aW,a2⟩:=C;have au:k<l.length:=U
 obtain⟨x,aL⟩:∃x,l[k]? =some x:=⟨l[k],Vc au⟩;obtain⟨t,N,rfl⟩:=aw x (Vg aL);have O:t.id∉l.take k:=λbJ=>(by grind[XM,List.getElem_inj]);obtain⟨u,hu,he⟩:=av.FF t N O;have aP:l[k]? =some u.id:=b2
 have ay:l.take (k+1)=l.take k++[t.id]:=by grind[Vt]
 have ba:0<(ints l).length:=by grind[dP]
 have a3:k<(ints l).length:=by grind[dP]
 refine J [188] ?_;refine q rfl rfl (dB rfl rfl (gW aP)) ?_;apply J [28,34,29];apply a7 (Uy aB af top Y av.df u hu m hm);intro⟨hk,Z⟩ aq;apply J [5];have w:=av.step H V W N O hu he aq;rw[<-ay]at w;dsimp only;cases hk;refine J [108,111] ?_;exact⟨rfl,(k+1,n,Z),⟨by dsimp only;omega,w⟩,cK,bI,ai⟩;refine J [2,12,279,77,63] ?_;exact⟨rfl,(k+1,n+1,Z),⟨by dsimp only;omega,w⟩,cK,bI,ai⟩;obtain rfl:k=l.length:=U
 rw[VY]at av;apply J [232];exact br (n,Y) av ai
theorem Um(af top:Nat)(X:cu)(aR:Nat)(h s:Int)(d:0<=h/\h<=4294967295):bn 74 [ae aB,.agg #[ae aR,aS h,aa (bX X.A h)],aa s] ba [cD aB af top X] (aa (b1.ho X.L (h,s))) [cD aB af top X]:=by apply aF Tryz.func74 Tryz.ntmps74;intro F _;refine J [321] ?_;rintro⟨aH,bu⟩-;apply J [83];dsimp only;refine J [25,309] ?_;intro bb;apply J [31];refine cC [0,1,2,3,4,5,6,7,-8,9] (show aG (ah _) (ah [aj bb 150 [ae aR,aS h,aa (bX X.A h)],aj aB 148 [ae aH,ae bu]])from ai) ?_;refine J [133,181,378,264] ?_;apply aq (b1.ww bu X.L X.last h s);refine J [298,97,148] ?_;exact e9 (az (bT.mk aH bu:bT) trivial ai)
def fs(e:Nat->Nat)(n:Nat):List Int:=((Wo n).filter λs=>decide (e s≠0)).map λs:Nat=>(s:Int)
theorem BR{e:Nat->Nat}(h:e n≠0):fs e (n+1)=fs e n++[(n:Int)]:=by grind[fs,List.range_succ]
theorem BQ{e:Nat->Nat}(h:e n=0):fs e (n+1)=fs e n:=by grind[fs,List.range_succ]
theorem HE(e:Nat->Nat)(n:Nat):(fs e n).length<=n:=by grind[fs]
variable{x:Int}
theorem p0{e:Nat->Nat}:x∈fs e n↔∃s:Nat,x=s/\s<n/\e s≠0:=by simp only[fs,Vs,VE,Yl,decide_eq_true_eq];grind
theorem HC{e e':Nat->Nat}(h:∀s,s<n->(e s≠0↔e' s≠0)):fs e n=fs e' n:=by rw[fs,fs];refine congrArg _ (List.filter_congr λs d=>?_);simp_all
theorem Su(e:Nat->Nat)(n:Nat):(fs e n).Nodup:=by rw[fs];exact P8 (λa b h=>Int.ofNat.inj h) (List.nodup_range.filter _)
def fS(A:bR)(h:Int):List Int:=if(b3 A.l h 2).2≠0 then[]else fs (A.aL (bF h)) 256
def kO(A:bR)(h s m:Int):Int:=if(b3 A.l h 2).2≠0 then(b3 A.l h 2).2 else if ¬(0<=s/\s<256)then 2 else if ¬(0<m/\m<=15)then 1 else if gn A (bF h) s=0 then 6 else 0
def q0(b:Bool)(x:Int):List Int:=if b then[x]else[]
def yI(X:cu)(h s m:Int)(self:Bool)(y:Nat×cu):Prop:=(kO X.A h s m≠0/\y=(0,X))\/(kO X.A h s m=0/\∃t∈X.L,t.dF=h/\t.cf=s/\k0 X (b1.hP X.L X.last t.id++q0 self t.id) m.toNat y.1 y.2)
theorem Ku(h:c9 X ei)(d:t∈X.L):b1.hP X.L X.last t.id=b1.jY X.L X.last t.id:=ax ⟨t,d,rfl⟩
theorem Dp{X:cu}(h:c9 X ei){t:b1.Fn}(w:t∈X.L)(b:Bool):(∀x∈b1.hP X.L X.last t.id++q0 b t.id,∃u∈X.L,u.id=x)/\(b1.hP X.L X.last t.id++q0 b t.id).Nodup/\(b1.hP X.L X.last t.id).length<=X.L.length:=by
 refine⟨λx d=>?_,?_,b1.Kr h.eo _⟩;rcases Ve.1 d with d|d;exact(b1.Ks h.eo d).1;cases b with|false=>cases d|true=>exact⟨t,w,(Vd.1 d).symm⟩
 rw[Ku h w,VI];refine⟨b1.Do h.eo _,by cases b<;>simp[q0],λx d y C e=>?_⟩;have:=(b1.vX h.eo d).2.1;cases b with|false=>cases C|true=>rw[Vd.1 C]at e;omega
theorem Iq(aR af top:Nat)(u:Int)(t:Nat)(S:cN)(D:dd top S)(E:gh top S t):bH 32 [ae aR] ba [aj aR 163 [ae af,aa u,aa t],eT af top S] (λy:Option Addr×Nat=>.slice y.1 (fs (eb S.m t) 256).length y.2) (λ_=>True) (λy=>[aZ 3 1 y.1 (fs (eb S.m t) 256).length y.2 (ints (fs (eb S.m t) 256)),aj aR 163 [ae af,aa u,aa t],eT af top S]):=by
 apply aF Tryz.func32 Tryz.ntmps32;intro F _;apply J [11,115,196,27,142];refine VP (ι:=Nat×Option Addr×Nat) (λs=>s.1<=256) (λs=>[(0,ae aR),(3,.slice s.2.1 (fs (eb S.m t) s.1).length s.2.2),(7,aa ((s.1:Nat):Int))]) (λs=>ah [aZ 3 1 s.2.1 (fs (eb S.m t) s.1).length s.2.2 (ints (fs (eb S.m t) s.1)),aj aR 163 [ae af,aa u,aa t],eT af top S,F]) (λs=>256-s.1) (0,none,0) (Vj _) bI ((dI 3 1 _).trans (an (an (an (an (aX _)))))) ?_;rintro⟨n,ad,cap⟩ ao V;dsimp only[cy]at ao⊢;have O:=HE (eb S.m t) n;apply J [42];apply Vf rfl<;>intro P;have H:n<256:=U
 apply J [60,140,32];apply aq (r6 aR af top u t S D E n H);apply J [14,278,173,39];apply Vf rfl<;>intro N;have d:=BR (e:=eb S.m t) (n:=n) U;refine J [113,68] ?_;intro bb;refine e rfl ?_;refine ap 8 rfl rfl rfl rfl rfl (Vp rfl) (show _=ints [(n:Int)]from rfl) rfl U gr ?_;intro w C;refine J [85,63] ?_;exact⟨rfl,(n+1,w,C),cK,cK,⟨rfl,congrArg (λn=>V0 _ n _) (by dsimp only;rw[d,mp];rfl),rfl,trivial⟩,(b6 0 rfl (by dsimp only;rw[d,wL,mp];rfl) ai)⟩;have d:=BQ (e:=eb S.m t) (n:=n) U;refine J [111] ?_;exact⟨rfl,(n+1,ad,cap),cK,cK,⟨rfl,congrArg (λn=>V0 _ n _) (by dsimp only;rw[d]),rfl,trivial⟩,(b6 2 rfl (by dsimp only;rw[d]) (an (an (an (aX _)))))⟩;obtain rfl:n=256:=U
 apply J [210,61];exact br (ad,cap) trivial ai
theorem I2(af top:Nat)(X:cu)(h:Int)(u:0<=h/\h<=4294967295):bH 33 [ae aB,aS h] da [cD aB af top X] (λy:Option Addr×Nat=>.slice y.1 (fS X.A h).length y.2) (λ_=>True) (λy=>[aZ 3 1 y.1 (fS X.A h).length y.2 (ints (fS X.A h)),cD aB af top X]):=by
 apply aF Tryz.func33 Tryz.ntmps33;intro F D;apply J [1];haveI:cv F:=⟨D⟩;apply J [115,34];by_cases d:(b3 X.A.l h 2).2=0;rw[show fS X.A h=fs (X.A.aL (bF h)) 256 from al (λbJ=>bJ d)];refine e rfl ?_;apply a7 (o5 aB af top X h u d);intro aR _;refine J [6,216] ?_;intro cp;apply J [116,172,71];apply aU.open 2 rfl;rintro⟨aH,bu⟩-;apply J [15];dsimp only;apply aU.open 1 rfl;rintro⟨H,bx,S⟩ ⟨aN,w⟩;apply J [21];dsimp only at aN w⊢;obtain⟨N,W⟩:=p6 aN u.1 d;obtain⟨E,V⟩:=aN.hL _ _ _ N;have mq:fs (eb S.m (c6 X.A h)) 256=fs (X.A.aL (bF h)) 256:=by grind[HC]
 refine e rfl ?_;apply a7 (Iq aR af top (bX X.A h) (c6 X.A h) S aN.P E);intro O _;apply J [145];rw[mq];apply J [61];exact br O trivial (an (az (bT.mk aH bu:bT) trivial (eE (az (⟨H,bx,S⟩:eR) ⟨aN,w⟩ ai))));rw[show fS X.A h=[]from ax d];refine e rfl ?_;apply aq (ra aB af top X h u d);refine J [5,216] ?_;intro bD;apply J [116,39];refine Vf rfl (λC=>?_) (λC=>absurd (d) C);apply J [115,74];exact br (none,0) trivial ((dI 3 1 _).trans ai)
theorem Uv(af top:Nat)(X:cu)(h s m:Int)(H:0<=h/\h<=4294967295)(self:Bool)(w:c9 X ei):bH 27 [ae aB,aS h,aa s,aa m,.bool self] da [cD aB af top X] (λy:Nat×cu=>.tuple #[aa y.1,aa (kO X.A h s m)]) (λy=>yI X h s m self y) (λy=>[cD aB af top y.2]):=by
 apply aF Tryz.func27 Tryz.ntmps27;intro F aL;apply J [1];haveI:cv F:=⟨aL⟩;refine Wr 0 rfl hq (λa0=>?_);obtain⟨ay,dm,aW⟩:=a0;apply J [215,34];by_cases d:(b3 X.A.l h 2).2=0;refine e rfl ?_;apply a7 (o5 aB af top X h H d);intro aR _;refine J [6,216] ?_;intro a4;apply J [116,172,130,29];apply aq (ov aB af top X aR h H d s);refine J [14,231] ?_;intro a5;apply J [102,105,72,138];apply aq (sg s);apply J [9];by_cases u:0<=s/\s<256;rw[c7 u];apply J [266,138];apply aq (yn m);apply J [9];by_cases hm:0<m/\m<=15;rw[c7 hm];apply J [266,62,409,38];apply Vf rfl<;>intro ba;have C:gn X.A (bF h) s=0:=U
 have hv:kO X.A h s m=6:=by rw[kO,al (λbJ=>bJ d),al (λbJ=>bJ u),al (λbJ=>bJ hm),ax C]
 have qG:kO X.A h s m≠0:=U
 rw[hv];apply J [171];exact ys;have C:gn X.A (bF h) s≠0:=U
 have hv:kO X.A h s m=0:=by rw[kO,al (λbJ=>bJ d),al (λbJ=>bJ u),al (λbJ=>bJ hm),al C]
 rw[hv];obtain⟨en,rfl⟩:∃k:Nat,s=(k:Int):=⟨s.toNat,(Wf u.1).symm⟩;obtain⟨O,rfl⟩:∃k:Nat,m=(k:Int):=⟨m.toNat,(Wf U).symm⟩;have a2:en<256:=U
 rw[la a2]at C;obtain⟨t,W,ar,Z,aw,bc⟩:=w.find C (λh=>h);rw[p7 aW H.1 d]at ar Z;obtain⟨D,E,a9⟩:=Dp w W self;have aP:X.L.length<=1000000:=by have:=w.eo.len;have:=w.dg;have:=ay.bd;omega
 have au:1<=O/\O<=15:=U
 apply J [20,267,29];apply aq (Um aB af top X aR h (en:Int) H);apply J [9];rw[ar];apply aU.open 0 rfl;rintro⟨aH,bu⟩-;apply J [18];dsimp only;apply J [28,65,29];apply a7 (b1.Es bu X.L X.last t.id aP);intro N _;apply J [76,182,62,2];cases self;rw[show q0 false t.id=[]from rfl]at D E;rw[V9]at D E;apply J [204,34,93];skip;refine aU.bg (B:=ah [cD aB af top X,aZ 3 1 N.1 ((b1.hP X.L X.last t.id).length) N.2 (ints (b1.hP X.L X.last t.id)),F]) (az (bT.mk aH bu:bT) trivial ai) ?_;refine e rfl ?_;apply eL (yo aB af top X w O au (b1.hP X.L X.last t.id) D E U _ rfl N.1 N.2) ⟨cv.aY,_,bi.rd (ad:=N.1)⟩;intro⟨dc,P⟩ av;apply J [6,99];exact cT (dc,P) (.inr ⟨hv,t,W,Z,aw,by rw[show q0 false t.id=[]from rfl,V9];exact av⟩) ai;rw[show q0 true t.id=[t.id]from rfl]at D E;refine J [12,113,68] ?_;intro a8;refine J [0,532] ?_;intro V ag;apply J [174,34,93];have hlen:((b1.hP X.L X.last t.id)++[t.id]).length=(b1.hP X.L X.last t.id).length+1:=b2
 refine aU.bg (B:=ah [cD aB af top X,aZ 3 1 V ((b1.hP X.L X.last t.id).length+1) ag (ints ((b1.hP X.L X.last t.id)++[t.id])),F]) (az (bT.mk aH bu:bT) trivial (c0 (c0 (bv (b6 0 rfl (by rw[wL]) ai))))) ?_;refine e rfl ?_;apply eL (yo aB af top X w O au ((b1.hP X.L X.last t.id)++[t.id]) D E (by rw[hlen];omega) _ hlen.symm V ag) ⟨cv.aY,_,bi.rd (ad:=V)⟩;intro⟨dc,P⟩ av;apply J [6,99];exact cT (dc,P) (.inr ⟨hv,t,W,Z,aw,av⟩) ai;have hv:kO X.A h s m=1:=by rw[kO,al (λbJ=>bJ d),al (λbJ=>bJ u),ax hm]
 have qG:kO X.A h s m≠0:=U
 rw[hv];rw[dn hm];apply J [89,38,57,119];exact ys;have hv:kO X.A h s m=2:=by rw[kO,al (λbJ=>bJ d),ax u]
 have qG:kO X.A h s m≠0:=U
 rw[hv];rw[dn u];apply J [89,38,57,119];exact ys;have hv:kO X.A h s m=(b3 X.A.l h 2).2:=by rw[kO,ax d]
 have qG:kO X.A h s m≠0:=U
 rw[hv];refine e rfl ?_;apply aq (ra aB af top X h H d);refine J [5,216] ?_;intro a3;apply J [116,39];refine Vf rfl (λao=>?_) (λao=>absurd (d) ao);apply J [189];exact ys
def Aa(A:bR)(h t s:Int):Bool:=decide ((iY (gn A (bF t) s):Int)=h)
def jJ(A:bR)(h t:Int)(K:List Int):List (Int×Int):=(K.filter (Aa A h t)).map λs=>(t,s)
def i8(A:bR)(h:Int)(T:List Int):List (Int×Int):=T.flatMap λt=>jJ A h t (fS A t)
def nr(A:bR)(h:Int):List (Int×Int):=i8 A h (au.dy A.l 1)
variable{k:Nat}
theorem NW{h t:Int}{K:List Int}{s:Int}(e:K[k]? =some s):jJ A h t (K.take (k+1))=jJ A h t (K.take k)++if(iY (gn A (bF t) s):Int)=h then[(t,s)]else[]:=by rw[Vt,e,jJ,jJ,List.filter_append,V7];congr 1;grind[Aa]
theorem NX{h t:Int}{T:List Int}(e:T[k]? =some t):i8 A h (T.take (k+1))=i8 A h (T.take k)++jJ A h t (fS A t):=by grind[Vt,i8]
theorem z8{A:bR}(O:ch A){h:Int}{o:Int×Int}:o∈nr A h↔∃t∈au.dy A.l 1,∃s:Nat,o=(t,(s:Int))/\(b3 A.l t 2).2=0/\s<256/\A.aL (bF t) s≠0/\(iY (A.aL (bF t) s):Int)=h:=by rw[nr,i8,Wc];constructor;rintro⟨t,C,u⟩;rw[jJ,Vs]at u;obtain⟨s,w,rfl⟩:=u;obtain⟨d,D⟩:=VE.1 w;rw[fS]at d;split at d;trivial;rename_i E;obtain⟨n,rfl,H,N⟩:=p0.1 d;refine⟨t,C,n,rfl,Vh E,H,N,?_⟩;have:=dz D;grind[la];rintro⟨t,C,s,rfl,u,w,d,D⟩;refine⟨t,C,?_⟩;rw[jJ,Vs];refine⟨(s:Int),VE.2 ⟨?_,?_⟩,rfl⟩;rw[fS,al (λh=>h u)];exact p0.2 ⟨s,rfl,w,d⟩;grind[Aa,la]
theorem NV(A:bR)(h t:Int){K:List Int}(d:K.Nodup):(jJ A h t K).Nodup:=by rw[jJ];grind
theorem SA(A:bR)(h:Int):(fS A h).Nodup:=by grind[fS,Su]
theorem vb(A:bR)(h:Int):(fS A h).length<=256:=by rw[fS];split;trivial;grind[HE]
theorem ES(A:bR)(h:Int):∀{T:List Int},T.Nodup->(i8 A h T).Nodup
 | [],_=>List.nodup_nil
 | t::T,H=>by obtain⟨D,E⟩:=List.nodup_cons.1 H;rw[i8,VD,<-i8,VI];refine⟨NV A h t (SA A t),ES A h E,λa w b d e=>?_⟩;rw[i8,Wc]at d;obtain⟨u,hu,d⟩:=d;rw[jJ,Vs]at w d;obtain⟨s,_,rfl⟩:=w;obtain⟨r,_,rfl⟩:=d;exact D (by have C:t=u:=congrArg Prod.fst e;rw[C];exact hu)
theorem ER(A:bR)(h t:Int)(K:List Int):(jJ A h t K).length<=K.length:=by rw[jJ,List.length_map];exact List.length_filter_le _ _
theorem Ab(A:bR)(h:Int):∀T:List Int,(i8 A h T).length<=256*T.length
 | []=>Vi _
 | t::T=>by rw[i8,VD,<-i8,mp,List.length_cons];have:=Ab A h T;have:=ER A h t (fS A t);have:=vb A t;omega
theorem Ue(af top:Nat)(X:cu)(h:Int)(bN:0<=h/\h<=4294967295):bH 22 [ae aB,aS h] da [cD aB af top X] (λy:Option Addr×Nat=>.slice y.1 (nr X.A h).length y.2) (λ_=>True) (λy=>[aZ 78 2 y.1 (nr X.A h).length y.2 (b1.nJ (nr X.A h)),cD aB af top X]):=by
 apply aF Tryz.func22 Tryz.ntmps22;intro F aP;apply J [1];haveI:cv F:=⟨aP⟩;refine Wr 0 rfl hq (λa5=>?_);obtain⟨V,dm,bo⟩:=a5;apply ab.open 0 rfl;rintro⟨aH,bu⟩-;apply J [83];dsimp only;apply J [115,196,101,121,233];apply a7 (zf aH af top X.A);intro y _;apply J [9];obtain⟨T,a2⟩:∃T,T=(au.dy X.A.l 1):=⟨_,rfl⟩;rw[<-a2];have a8:nr X.A h=i8 X.A h T:=by grind[nr]
 rw[a8];apply J [252,112];refine ab.bg (B:=ah [aZ 33 1 y.1 T.length y.2 (cL .u32 T),cD aB af top X,F]) (an (az (bT.mk aH bu:bT) trivial ai)) ?_;refine VP (ι:=Nat×Option Addr×Nat) (λs=>s.1<=T.length) (λs=>[(0,ae aB),(1,aS h),(20,.slice y.1 T.length y.2),(21,aa ((T.length:Nat):Int)),(5,.slice s.2.1 (i8 X.A h (T.take s.1)).length s.2.2),(22,aa ((s.1:Nat):Int))]) (λs=>ah [aZ 78 2 s.2.1 (i8 X.A h (T.take s.1)).length s.2.2 (b1.nJ (i8 X.A h (T.take s.1))),aZ 33 1 y.1 T.length y.2 (cL .u32 T),cD aB af top X,F]) (λs=>T.length-s.1) (0,none,0) (Vj _) bI ((dI 78 2 _).trans ai) ?_;rintro⟨i,ad,cap⟩ a9 ce;dsimp only[cy]at a9⊢;apply J [42];apply Vf rfl<;>intro bZ;have ba:i<T.length:=U
 have bt:T.length<=256:=(by have:=au.po X.A.l 1;rw[V.ok.n]at this;simp_all);obtain⟨t,ar⟩:∃t,T[i]? =some t:=⟨T[i],Vc ba⟩;have bi:t∈au.dy X.A.l 1:=cm
 have D:=nW V.ok bi;have E:=NX (A:=X.A) (h:=h) ar;have b7:0<(cL .u32 T).length:=by grind[iE]
 have bR:i<(cL .u32 T).length:=by grind[iE]
 refine J [219,356] ?_;refine q rfl rfl (dB rfl rfl (nB ar)) ?_;apply J [31];by_cases d:(b3 X.A.l t 2).2=0;obtain⟨L,W⟩:∃L,L=fs (X.A.aL (bF t)) 256:=⟨_,rfl⟩;have a0:fS X.A t=L:=by rw[fS,al (λbJ=>bJ d),W]
 rw[a0]at E;have bn:L.length<=256:=(by grind[vb]);have aW:∀x∈L,∃n:Nat,x=n/\n<256:=λx cd=>(by grind[p0]);apply J [178];apply a7 (o5 aB af top X t D d);intro aR _;refine J [9,216] ?_;intro bD;apply J [116,172,71];apply aU.open 2 rfl;rintro⟨aH,bu⟩-;apply J [76];dsimp only;apply aU.open 1 rfl;rintro⟨a4,bx,S⟩ ⟨aN,O⟩;apply J [311];dsimp only at aN O⊢;obtain⟨bc,bV⟩:=p6 aN D.1 d;obtain⟨a3,bl⟩:=aN.hL _ _ _ bc;have mq:fs (eb S.m (c6 X.A t)) 256=fs (X.A.aL (bF t)) 256:=by grind[HC]
 refine e rfl ?_;apply a7 (Iq aR af top (bX X.A t) (c6 X.A t) S aN.P a3);intro w _;apply J [301];rw[mq,<-W];apply J [177];refine VP (ι:=Nat×Option Addr×Nat) (λs=>s.1<=L.length) (λs=>[(0,ae aB),(1,aS h),(20,.slice y.1 T.length y.2),(21,aa ((T.length:Nat):Int)),(5,.slice s.2.1 (i8 X.A h (T.take i)++jJ X.A h t (L.take s.1)).length s.2.2),(7,aS t),(8,ae bD),(22,aa ((i:Nat):Int)),(36,.slice w.1 L.length w.2),(37,aa ((L.length:Nat):Int)),(38,aa ((s.1:Nat):Int))]) (λs=>ah [aZ 78 2 s.2.1 (i8 X.A h (T.take i)++jJ X.A h t (L.take s.1)).length s.2.2 (b1.nJ (i8 X.A h (T.take i)++jJ X.A h t (L.take s.1))),aZ 3 1 w.1 L.length w.2 (ints L),aj bD 150 [ae aR,aS t,aa (bX X.A t)],aZ 33 1 y.1 T.length y.2 (cL .u32 T),aj aR 163 [ae af,aa (bX X.A t),aa (c6 X.A t:Int)],cD aB af top X,F]) (λs=>L.length-s.1) (0,ad,cap) (Vj _) ⟨rfl,rfl,rfl,rfl,congrArg (λn=>V0 _ n _) (by dsimp only;rw[WM,show jJ X.A h t []=[]from rfl,V9]),rfl,rfl,rfl,rfl,rfl,rfl,trivial⟩ (b6 9 rfl (by dsimp only;rw[WM,show jJ X.A h t []=[]from rfl,V9];first|done|fail) (an (bP 7 rfl (bP 7 rfl (an (az (bT.mk aH bu:bT) trivial (eQ (az (⟨a4,bx,S⟩:eR) ⟨aN,O⟩ ai)))))))) ?_;rintro⟨j,H,N⟩ bd cf;dsimp only[cy]at bd⊢;apply J [42];apply Vf rfl<;>intro b0;have bh:j<L.length:=U
 have b5:(i8 X.A h (T.take i)++jJ X.A h t (L.take j)).length<=70000:=(by grind[Ab,ER]);obtain⟨s,C⟩:∃s,L[j]? =some s:=⟨L[j],Vc bh⟩;have u:=NW (A:=X.A) (h:=h) (t:=t) C;obtain⟨s,rfl,mq⟩:=aW s (Vg C);have cc:0<(ints L).length:=by grind[dP]
 have bS:j<(ints L).length:=by grind[dP]
 have ag:gn X.A (bF t) (s:Int)≠0:=(by have:=Vg C;grind[p0,la]);refine J [188] ?_;refine q rfl rfl (dB rfl rfl (gW C)) ?_;apply J [28,130,29];apply aq (ov aB af top X aR t D d (s:Int));apply J [18];rw[al ag,al ag];refine J [231] ?_;intro cp;apply J [317,71,3,212];apply Vf rfl<;>intro heq;rw[ax heq]at u;refine J [113,223,3,147,0,294] ?_;intro bj;refine e rfl ?_;refine ap 16 rfl rfl rfl rfl rfl (Vp rfl) (show _=b1.nJ [(t,(s:Int))]from rfl) rfl U gr ?_;intro aw ay;refine J [85,63] ?_;exact⟨rfl,(j+1,aw,ay),cK,cK,⟨rfl,rfl,rfl,rfl,congrArg (λn=>V0 _ n _) (by dsimp only;rw[u,<-VJ,mp (bs:=[(t,(s:Int))])];rfl),rfl,rfl,rfl,rfl,rfl,rfl,trivial⟩,(b6 0 rfl (by dsimp only;rw[u,<-VJ,b1.SQ,mp (bs:=[(t,(s:Int))])];rfl) ai)⟩;rw[al heq,V9]at u;refine J [111] ?_;exact⟨rfl,(j+1,H,N),cK,cK,⟨rfl,rfl,rfl,rfl,congrArg (λn=>V0 _ n _) (by dsimp only;rw[u]),rfl,rfl,rfl,rfl,rfl,rfl,trivial⟩,(b6 3 rfl (by dsimp only;rw[u];first|done|fail) ai)⟩;obtain rfl:j=L.length:=by omega
 rw[VY,<-E];refine ab.exit (lS (lS (qw (jb (hW ?_)))));refine J [324] ?_;exact⟨rfl,(i+1,H,N),cK,cK,bI,ai⟩;have ao:i8 X.A h (T.take (i+1))=i8 X.A h (T.take i):=by rw[E,fS,ax d];simp[jJ]
 apply J [178];apply aq (ra aB af top X t D d);refine J [14,216] ?_;intro bb;apply J [116,39];refine Vf rfl (λZ=>?_) (λZ=>absurd (d) Z);refine J [457,324] ?_;exact⟨rfl,(i+1,ad,cap),cK,cK,⟨rfl,rfl,rfl,rfl,congrArg (λn=>V0 _ n _) (by dsimp only;rw[ao]),rfl,trivial⟩,(b6 2 rfl (by dsimp only;rw[ao];first|done|fail) ai)⟩;obtain rfl:i=T.length:=by omega
 rw[VY];apply J [210,61];exact br (ad,cap) trivial ai
structure ka(X Y:cu):Prop where
  df:c9 Y ei
  cf:fv X.A Y.A 0
  aL:∀i s,Y.A.aL i s=0\/Y.A.aL i s=X.A.aL i s
  dg:Y.last=X.last
theorem ka.refl(h:c9 X ei):ka X X:=⟨h,fv.refl _ _,λ_ _=>.inr rfl,rfl⟩
theorem ka.trans(h:ka X Y)(k:ka Y Z):ka X Z:=⟨k.df,(h.cf.trans k.cf).mono (Vi _),λi s=>by
 rcases k.aL i s with e|e
 ·exact .inl e
 rw[e];exact h.aL i s,k.dg.trans h.dg⟩
theorem ka.zero(h:ka X Y)(e:X.A.aL i s=0):Y.A.aL i s=0:=by rcases h.aL i s with d|d;all_goals omega
theorem T5(h:ch A)(e:A.aL i s≠0):vr 15 (A.aL i s)=0:=by obtain⟨_,_,x,r,d,C,u,w,_⟩:=h.aL i s e;rw[d,vr,(k9 w).2,Dd r u,ax (Nat.sub_self _)]
theorem N5(h:c9 X ei)(C:ch X.A){l:List Int}(D:n8 X l i s):X.A.aL i s≠0:=by obtain⟨d,t,E,_,u,w⟩:=D;exact(h.p8 C E d u w).1
theorem k0.Cu{l:List Int}(h:k0 X l 15 n Y)(w:c9 X ei)(d:ch X.A)(u:n8 X l i s):Y.A.aL i s=0:=by rw[h.sH i s u];exact T5 d (N5 w d u)
theorem k0.less{l:List Int}(h:k0 X l 15 n Y)(w:c9 X ei)(u:ch X.A):ka X Y:=⟨h.df,h.cf,λi s=>by
 by_cases d:n8 X l i s
 ·exact .inl (h.Cu w u d)
 exact .inr (h.ng i s d),h.dg⟩
structure rk(X:cu)(h:Int)(K:List Int)(k n:Nat)(Y:cu):Prop where
  iQ:ka X Y
  z:∀x∈K.take k,Y.A.aL (bF h) x.toNat=0
  n:n<=k*1000001
theorem rk.nil(h:c9 X ei)(t:Int)(K:List Int):rk X t K 0 0 X:=⟨ka.refl h,(λx d=>by rw[WM]at d;cases d),Vi _⟩
theorem rk.next{h:Int}{K:List Int}(u:rk X h K k n Y)(hs:K[k]? =some (s:Int))(w:ka Y Z)(C:Z.A.aL (bF h) s=0)(hm:m<=1000001):rk X h K (k+1) (n+m) Z:=by refine⟨u.iQ.trans w,λx d=>?_,by have:=u.n;omega⟩;rw[Vt,hs]at d;rcases Ve.1 d with d|d;exact w.zero (u.z x d);simp_all
structure pf(X:cu)(H:List (Int×Int))(k n:Nat)(Y:cu):Prop where
  iQ:ka X Y
  z:∀o∈H.take k,Y.A.aL (bF o.1) o.2.toNat=0
  e:∀i s:Nat,(∀o∈H.take k,¬(bF o.1=i/\o.2=(s:Int)))->Y.A.aL i s=X.A.aL i s
  n:n<=k
theorem pf.nil(h:c9 X ei)(H:List (Int×Int)):pf X H 0 0 X:=⟨ka.refl h,(λx d=>by rw[WM]at d;cases d),λ_ _ _=>rfl,Vi _⟩
theorem pf.next{H:List (Int×Int)}(d:pf X H k n Y)(C:ch Y.A){o:Int×Int}(ar:H[k]? =some o)(aF:o.2=(s:Int))(au:t∈Y.L)(E:t.dF=ao Y.A.l (bF o.1))(ay:t.cf=(s:Int))(V:bF o.1<256)(av:k0 Y [t.id] 15 m Z):pf X H (k+1) (n+m) Z:=by
 have W:n8 Y [t.id] (bF o.1) s:=by grind[n8]
 have aL:=av.Cu d.iQ.df C W;have D:=av.less d.iQ.df C;have hm:=av.dc;refine⟨d.iQ.trans D,λx w=>?_,λi r ag=>?_,by have:=d.n;rw[Vl]at hm;omega⟩;rw[Vt,ar]at w;rcases Ve.1 w with w|w;exact D.zero (d.z x w);simp_all;have aq:¬n8 Y [t.id] i r:=λ⟨N,u,hu,O,P,aA⟩=>(by have:u=t:=d.iQ.df.eo.bq.inj hu au (Vd.1 O);subst this;have aw:=sM C.ok V N (E.symm.trans P);grind[Vt]);rw[av.ng i r aq];exact d.e i r λx w=>ag x (by rw[Vt];exact Ve.2 (.inl w))
theorem Pw(h:ch A){o:au.e7}(u:cB A.l i 1 o):ao A.l i∈au.dy A.l 1:=by obtain⟨g,d⟩:=u;exact(tI h.ok).2 ⟨i,_,d,rfl,rE d⟩
theorem pf.done{h:Int}(u:ch X.A)(Z:ch Y.A)(d:pf X (nr X.A h) (nr X.A h).length n Y):A9 Y.A h:=by
 intro i s x r e O C D P;have ag:=(jO (r:=r) D C).2;have N:Y.A.aL i s≠0:=U
 have V:X.A.aL i s=Y.A.aL i s:=(by rcases d.iQ.aL i s with w|w;all_goals omega);have E:X.A.aL i s≠0:=U
 obtain⟨W,⟨a,f,H⟩,_⟩:=u.aL i s E;obtain⟨_,aq,ar⟩:=Cg u H;have hm:(ao X.A.l i,(s:Int))∈nr X.A h:=by grind[z8,Pw,k9]
 have:=d.z _ (by rw[VY];exact hm);simp_all
theorem Uz(af top:Nat)(X:cu)(h:Int)(ay:0<=h/\h<=4294967295)(ba:c9 X ei):bH 346 [ae aB,aS h] da [cD aB af top X] (λy:Nat×cu=>aa y.1) (λy=>ka X y.2/\∀s,(b3 X.A.l h 2).2=0->y.2.A.aL (bF h) s=0) (λy=>[cD aB af top y.2]):=by
 apply aF Tryz.func346 Tryz.ntmps346;intro F a9;apply J [1];haveI:cv F:=⟨a9⟩;refine Wr 0 rfl hq (λD=>?_);obtain⟨a8,dm,b0⟩:=D;apply J [106,35,32];apply a7 (I2 aB af top X h ay);intro w _;apply J [6];obtain⟨K,O⟩:∃K,K=fS X.A h:=⟨_,rfl⟩;rw[<-O];have bZ:K.length<=256:=by grind[vb]
 apply J [177];refine VP (ι:=Nat×Nat×cu) (λd=>d.1<=K.length/\rk X h K d.1 d.2.1 d.2.2) (λd=>[(0,ae aB),(1,aS h),(5,aa ((d.2.1:Nat):Int)),(11,.slice w.1 K.length w.2),(12,aa ((K.length:Nat):Int)),(13,aa ((d.1:Nat):Int))]) (λd=>ah [aZ 3 1 w.1 K.length w.2 (ints K),cD aB af top d.2.2,F]) (λd=>K.length-d.1) (0,0,X) ⟨Vj _,rk.nil ba h K⟩ bI ai ?_;rintro⟨k,n,Y⟩ ⟨bt,av⟩ ck;dsimp only[cy]at bt av⊢;have ce:=av.n;apply J [42];apply Vf rfl<;>intro cd;·refine Wr 1 rfl hq (λD=>?_);obtain⟨C,a5,ag⟩:=D;(have bN:k<K.length:=by omega);obtain⟨x,H⟩:∃x,K[k]? =some x:=⟨K[k],Vc bN⟩;have V:=Vg H;rw[O,fS]at V;(have E:(b3 X.A.l h 2).2=0:=by simp_all);rw[al (λbJ=>bJ E)]at V;obtain⟨s,rfl,a0,_⟩:=p0.1 V;(have bR:(b3 Y.A.l h 2).2=0:=by rw[av.iQ.cf.l];exact E);have aP:=p7 ag ay.1 bR;(have aW:bF h<256:=by grind[bF]);(have bc:Y.L.length<=1000000:=by have:=av.iQ.df.eo.len;have:=av.iQ.df.dg;have:=C.bd;omega);(have cg:0<(ints K).length:=by grind[dP]);(have cc:k<(ints K).length:=by grind[dP]);apply ab.open 1 rfl;rintro⟨aH,bu⟩-;apply J [82];dsimp only;refine J [188] ?_;refine q rfl rfl (dB rfl rfl (gW H)) ?_;refine J [28,65,223,29] ?_;apply aq (b1.ww bu Y.L Y.last h (s:Int));apply J [9];by_cases u:Y.A.aL (bF h) s=0;(·(have bn:b1.ho Y.L (h,(s:Int))=0:=by have:=av.iQ.df.Gf C aW (s:=s) (.inl u);rwa[aP]at this);rw[bn];refine J [28,217,108,111] ?_;exact⟨rfl,(k+1,n,Y),⟨by dsimp only;omega,av.next (m:=0) H (ka.refl av.iQ.df) u am⟩,cK,bI,(c0 (az (bT.mk aH bu:bT) trivial ai))⟩);obtain⟨t,a2,aw,a3,bS,ch⟩:=av.iQ.df.find u (λh=>h);have bV:=a3;rw[aP]at aw bV;rw[aw];obtain⟨ao,ar,b7⟩:=Dp av.iQ.df a2 true;rw[show q0 true t.id=[t.id]from rfl]at ao ar;(have hlen:(b1.hP Y.L Y.last t.id++[t.id]).length=(b1.hP Y.L Y.last t.id).length+1:=by simp_all);apply J [126];refine Vf rfl (λau=>?_) (λau=>absurd (U) au);apply J [200,158,176,58,29];apply a7 (b1.Es bu Y.L Y.last t.id bc);intro ci _;refine J [15,68] ?_;intro bb;refine J [0,532] ?_;intro N W;refine aU.bg (B:=ah [cD aB af top Y,aZ 3 1 N ((b1.hP Y.L Y.last t.id).length+1) W (ints ((b1.hP Y.L Y.last t.id)++[t.id])),aZ 3 1 w.1 K.length w.2 (ints K),F]) (az (bT.mk aH bu:bT) trivial (c0 (c0 (bv (b6 0 rfl (by rw[wL]) ai))))) ?_;refine e rfl ?_;apply eL (yo aB af top Y av.iQ.df 15 am ((b1.hP Y.L Y.last t.id)++[t.id]) ao ar (by rw[hlen];omega) _ hlen.symm N W) ⟨cv.aY,_,bi.rd (ad:=N)⟩;intro⟨dc,Z⟩ P;apply J [14];have bl:=P.dc;rw[hlen]at bl;have bh:=P.Cu av.iQ.df C (i:=bF h) (s:=s) ⟨aW,t,a2,by simp,a3,bS⟩;have bj:=P.less av.iQ.df C;dsimp only;refine J [146,77,63] ?_;exact⟨rfl,(k+1,n+dc,Z),⟨by dsimp only;omega,av.next H bj bh U⟩,cK,bI,ai⟩
 refine Wr 1 rfl hq (λD=>?_);obtain⟨C,a5,ag⟩:=D;obtain rfl:k=K.length:=by omega
 have a4:=av.z;rw[VY]at a4;have bo:∀s,(b3 X.A.l h 2).2=0->Y.A.aL (bF h) s=0:=λs E=>(by by_cases u:X.A.aL (bF h) s=0;exact av.iQ.zero u;have a0:=(a8.ni u).2;have:=a4 (s:Int) (by rw[O,fS,al (λbJ=>bJ E)];exact p0.2 ⟨s,rfl,a0,u⟩);trivial);apply J [232];exact br (n,Y) ⟨av.iQ,bo⟩ ai
theorem Ut(af top:Nat)(X:cu)(h:Int)(bd:0<=h/\h<=4294967295)(a8:c9 X ei):bH 347 [ae aB,aS h] da [cD aB af top X] (λy:Nat×cu=>aa y.1) (λy=>ka X y.2/\A9 y.2.A h) (λy=>[cD aB af top y.2]):=by
 apply aF Tryz.func347 Tryz.ntmps347;intro F a5;apply J [1];haveI:cv F:=⟨a5⟩;refine Wr 0 rfl hq (λE=>?_);obtain⟨C,dm,a9⟩:=E;apply J [106,35,32];apply a7 (Ue aB af top X h bd);intro w _;apply J [6];obtain⟨H,D⟩:∃H,H=nr X.A h:=⟨_,rfl⟩;rw[<-D];have ch:H.length<=65536:=(by have cg:=Ab X.A h (au.dy X.A.l 1);have a4:=au.po X.A.l 1;rw[C.ok.n]at a4;grind[nr]);have ci:H.Nodup:=by rw[D];exact ES _ _ (vQ _ C.ok 1)
 refine q rfl rfl (len 78 2 rfl rfl) ?_;apply J [112];refine VP (ι:=Nat×Nat×cu) (λd=>d.1<=H.length/\pf X H d.1 d.2.1 d.2.2) (λd=>[(0,ae aB),(5,aa ((d.2.1:Nat):Int)),(10,.slice w.1 H.length w.2),(11,aa ((H.length:Nat):Int)),(12,aa ((d.1:Nat):Int))]) (λd=>ah [aZ 78 2 w.1 H.length w.2 (b1.nJ H),cD aB af top d.2.2,F]) (λd=>H.length-d.1) (0,0,X) ⟨Vj _,pf.nil a8 H⟩ bI ai ?_;rintro⟨k,n,Y⟩ ⟨bn,av⟩ cJ;dsimp only[cy]at bn av⊢;have cn:=av.n;have cw:=b1.SP H;apply J [42];apply Vf rfl<;>intro cl;·refine Wr 1 rfl hq (λE=>?_);obtain⟨N,aP,P⟩:=E;(have bo:k<H.length:=by omega);obtain⟨o,O⟩:∃o,H[k]? =some o:=⟨H[k],Vc bo⟩;(have co:0<(b1.nJ H).length:=by omega);have ao:=Vg O;rw[D]at ao;obtain⟨t,bS,s,rfl,bt,cr,ce,_⟩:=(z8 C).1 ao;have bZ:=nW C.ok bS;(have bR:(b3 Y.A.l t 2).2=0:=by rw[av.iQ.cf.l];exact bt);have bh:=p7 P bZ.1 bR;(have bj:bF t<256:=by grind[bF]);have ct:Y.A.aL (bF t) s=X.A.aL (bF t) s:=av.e _ _ λcA ag ⟨aW,a0⟩=>(by obtain⟨j,bl,a2⟩:=XM ag;rw[WN]at bl;rw[List.getElem_take]at a2;have ar:=List.mem_of_mem_take ag;rw[D]at ar;obtain⟨t',bV,cB,rfl,bN,_⟩:=(z8 C).1 ar;dsimp only at aW a0;have cd:=p7 a9 (nW C.ok bV).1 bN;grind[p7,List.getElem_inj]);(have a3:Y.A.aL (bF t) s≠0:=by omega);obtain⟨u,aw,W,ay,b0,cx⟩:=av.iQ.df.find a3 (λh=>h);have b7:=ay;rw[bh]at W b7;apply ab.open 1 rfl;rintro⟨aH,bu⟩-;apply J [82];dsimp only;apply J [219];refine q rfl rfl (ht 78 2 rfl rfl rfl U eA) ?_;refine q rfl rfl (gH (vs:=[_,_]) 2 rfl rfl (kB b1.HO O 0 2 U U (show _=[aa t,aa (s:Int)]from rfl)) rfl am) ?_;refine J [0,257] ?_;intro bD;apply J [102,2];refine ab.draw _ [12,13] [0,1,2,3,4,5,6,7,8,9,-10,-11,-12,-13,14] aV aV (show aG (ah _) (ah [aj aB 148 [ae aH,ae bu],aj bD 78 [aa t,aa s]])from ai) ?_;apply J [16,78,133,109,313];apply aq (b1.ww bu Y.L Y.last t (s:Int));refine J [260,10] ?_;rw[W];refine J [17,150] ?_;intro cp;refine⟨ai,?_⟩;refine ca.bg (B:=ah [cD aB af top Y,aZ 3 1 (cF cp) 1 1 (ints [u.id]),aZ 78 2 w.1 H.length w.2 (b1.nJ H),F]) (az (bT.mk aH bu:bT) trivial ai) ?_;refine dl rfl rfl rfl rfl ?_;apply eL (yo aB af top Y av.iQ.df 15 am [u.id] (λx cc=>⟨u,aw,(Vd.1 cc).symm⟩) cE (Vp rfl) 1 rfl (cF cp) 1) ⟨cv.aY,_,bi.rd (ad:=some ⟨cp,0,none⟩)⟩;intro⟨dc,Z⟩ V;change ca _ _ _ _ _ _ _ _ _ _ (ah [_,_,_,_]);have ba:=V.dc;rw[Vl]at ba;dsimp only;refine dl rfl rfl rfl rfl (ck.q rfl (io rfl rfl U U) ?_);refine J [349,293,324] ?_;exact⟨rfl,(k+1,n+dc,Z),⟨by dsimp only;omega,av.next N O rfl aw ay b0 bj V⟩,cK,bI,ai⟩
 refine Wr 1 rfl hq (λE=>?_);obtain⟨N,aP,P⟩:=E;obtain rfl:k=H.length:=by omega
 rw[D]at av;have bc:=av.done C N;apply J [232];exact br (n,Y) ⟨av.iQ,bc⟩ ai
def jH(l:List au.bV)(K:List Int):List au.bV:=K.foldl (λl x=>(au.hT l x).1) l
theorem L8(l:List au.bV)(K:List Int)(x:Int):jH l (K++[x])=(au.hT (jH l K) x).1:=by rw[jH,List.foldl_append];rfl
theorem pQ{l:List au.bV}{h st:Int}{y:Nat×au.bV}(e:au.dV l h st=some y):l[y.1]? =some y.2/\h=y.2.cU*256+y.1:=by grind[au.dV]
theorem wn{l:List au.bV}{h:Int}{p:au.bV}(e:au.dV l h 1=some (k,p)):(au.hT l h).1=l.set k ⟨p.o,2,p.cU⟩:=by rw[au.hT,e]
theorem w1{l:List au.bV}(e:au.dV l x 1=none):(au.hT l x).1=l:=by rw[au.hT,e]
theorem uh{l:List au.bV}:(au.cV l x).2=0↔∃y,au.dV l x 1=some y:=by grind[au.cV]
theorem wZ{l:List au.bV}(V:au.dN l){z:Int}(H:0<=z):((au.cV (au.hT l x).1 z).2=0↔(au.cV l z).2=0/\z≠x)/\(z≠x->(au.cV l z).2=0->au.cV (au.hT l x).1 z=au.cV l z):=by cases e:au.dV l x 1 with|none=>rw[w1 e];exact⟨⟨λh=>⟨h,λw=>by rw[w,uh,e]at h;obtain⟨y,h⟩:=h;cases h⟩,λh=>h.1⟩,λ_ _=>rfl⟩|some y=>obtain⟨k,p⟩:=y;rw[wn e];by_cases d:(z %256).toNat=k;have C:au.dV (l.set k ⟨p.o,2,p.cU⟩) z 1=none:=(by rw[au.dV,d,VZ (Vm.1 (pQ e).1).1];dsimp only;rw[al λh=>absurd h.2 am]);(have N:¬(au.cV (l.set k ⟨p.o,2,p.cU⟩) z).2=0:=by rw[uh,C];rintro⟨_,h⟩;cases h);have E:(au.cV l z).2=0->z=x:=λh=>(by have W:(au.cV l x).2=0:=uh.2 ⟨_,e⟩;obtain⟨i,q,_,a2,_,_,a5,u,_⟩:=oO H h;obtain⟨bN,P⟩:=pQ e;rw[a5,P];have:i=k:=u.symm.trans d;subst this;rw[a2]at bN;cases bN;rfl);exact⟨⟨λh=>absurd h N,λh=>absurd (E h.1) h.2⟩,λh O=>absurd (E O) h⟩;(have C:au.cV (l.set k ⟨p.o,2,p.cU⟩) z=au.cV l z:=by rw[au.cV,pR d,<-au.cV]);rw[C];refine⟨⟨λh=>⟨h,λw=>?_⟩,λh=>h.1⟩,λ_ _=>rfl⟩;obtain⟨i,q,D,_,_,_,_,u,_⟩:=oO H h;rw[w,e]at D;cases D;exact d u
theorem NT(l:List au.bV)(x:Int)(i:Nat):ao (au.hT l x).1 i=ao l i:=by cases e:au.dV l x 1 with|none=>rw[w1 e]|some y=>obtain⟨k,p⟩:=y;rw[wn e];by_cases h:k=i;subst h;rw[ao,ao,List.getElem?_set_self'];obtain⟨bN,_⟩:=pQ e;rw[bN];rfl;rw[ao,ao,Wm h]
structure iW(X:cu)(K:List Int)(Y:cu):Prop where
  df:c9 Y ei
  l:Y.A.l=jH X.A.l K
  np:Y.A.np=X.A.np
  own:Y.A.own=X.A.own
  aL:∀i s,Y.A.aL i s=0\/Y.A.aL i s=X.A.aL i s
  t:Y.A.now=X.A.now/\Y.A.pd=X.A.pd
  q:Y.A.q=X.A.q++K.map λx=>(x,X.A.now+X.A.pd)
  a6:∀i,(∀x∈K,(x %256).toNat≠i)->Y.A.a6 i=X.A.a6 i
theorem iW.nil(h:c9 X ei):iW X [] X:=⟨h,rfl,rfl,rfl,λ_ _=>.inr rfl,⟨rfl,rfl⟩,(by rw[List.map_nil,V9]),λ_ _=>rfl⟩
theorem iW.less{K:List Int}(h:iW X K Y)(k:ka Y Z):iW X K Z:=⟨k.df,k.cf.l.trans h.l,k.cf.Qd.trans h.np,k.cf.o.trans h.own,λi s=>by
 rcases k.aL i s with e|e
 ·exact .inl e
 rw[e];exact h.aL i s,⟨k.cf.q.2.1.trans h.t.1,k.cf.q.2.2.trans h.t.2⟩,k.cf.q.1.trans h.q,λi d=>by rw[k.cf.z];exact h.a6 i d⟩
theorem iW.tZ{K:List Int}{bl:bR}(h:iW X K Y)(D:ch Y.A)(E:ch bl)(H:CH Y.A x bl):iW X (K++[x]) ⟨bl,Y.L,Y.last⟩:=by
 obtain⟨k,o,g,a6,P,u,V,w,rfl⟩:=H.ex;have W:au.dV Y.A.l x 1=some (k,⟨o,1,g⟩):=by grind[au.dV]
 have N:Y.A.l.set k ⟨o,2,g⟩=(au.hT Y.A.l x).1:=by grind[au.hT]
 refine⟨h.df.obj D rfl (λi s _=>?_) E (Vi _),?_,h.np,h.own,h.aL,h.t,?_,λi d=>?_⟩;grind[NT];dsimp only;rw[L8,<-h.l,N];dsimp only;rw[h.q,h.t.1,h.t.2,V7,VJ];rfl;dsimp only;rw[w i λC=>d x cE (by rw[u,C];omega)];exact h.a6 i λy O=>d y (Ve.2 (.inl O))
theorem wm{l:List au.bV}(d:au.dN l):∀(K:List Int),au.dN (jH l K)/\∀z:Int,0<=z->((au.cV (jH l K) z).2=0↔(au.cV l z).2=0/\z∉K)/\(z∉K->(au.cV l z).2=0->au.cV (jH l K) z=au.cV l z):=by intro K;induction K generalizing l with|nil=>exact⟨d,λz _=>⟨⟨λh=>⟨h,List.not_mem_nil⟩,λh=>h.1⟩,λ_ _=>rfl⟩⟩|cons x K P=>have O:au.dN (au.hT l x).1:=(by cases e:au.dV l x 1 with|none=>rw[w1 e];exact d|some y=>obtain⟨k,p⟩:=y;rw[wn e];obtain⟨bN,_⟩:=pQ e;exact d.set k (d.cU p (Vg bN)));obtain⟨H,N⟩:=P O;refine⟨H,λz D=>?_⟩;obtain⟨E,a2⟩:=N z D;obtain⟨bb,bD⟩:=wZ d (x:=x) D;have e:jH l (x::K)=jH (au.hT l x).1 K:=rfl;rw[e];refine⟨?_,λu w=>?_⟩;rw[E,bb,Vq,not_or,and_assoc];rw[Vq,not_or]at u;have C:=bD u.1 w;rw[a2 u.2 (by rw[C];exact w),C]
def h9(A:bR)(h:Int):Int:=if(au.cV A.l h).2≠0 then(au.cV A.l h).2 else if h=0 then 1 else 0
def sQ(A:bR)(h:Int):List Int:=if h9 A h≠0 then[]else fu A h++[h]
def CN(X:cu)(h:Int)(Y:cu):Prop:=(h9 X.A h≠0/\Y=X)\/(h9 X.A h=0/\iW X (fu X.A h++[h]) Y)
variable{S:cN}
theorem PE{top:Nat}{K R:List Int}{h:Int}(d:ch X.A)(aN:cd top X.A S)(N:iW X K Y)(e:fu X.A h++[h]=K++x::R):eP Y.A x=[]:=by have P:=d.wW aN;rw[List.eq_nil_iff_forall_not_mem];intro z ar;obtain⟨Z,C,u,ag⟩:=ob.1 ar;obtain⟨V,O⟩:=wm d.ok K;rw[N.l]at Z C u;obtain⟨D,ao⟩:=(oF V).1 C;obtain⟨d1,d2⟩:=O z D;obtain⟨E,H⟩:=d1.1 ao;rw[d2 H E,N.own]at u;have aq:0<=x:=WH λbJ=>(by have:=ch.neg ⟨d.ok,d.dQ,d.rt,d.ac,d.c1,d.nl,d.aL,d.hl,d.mD,d.oh,d.oi,d.m3,d.pd,d.bd⟩ x U 1;have w:(au.cV (jH X.A.l K) x).2=0:=(by grind[b3]);obtain⟨y,W⟩:=uh.1 w;have:=(pQ W).2;have:=V.cU y.2 (Vg (pQ W).1);omega);have w:(au.cV (jH X.A.l K) x).2=0:=(by grind[b3]);obtain⟨f1,f2⟩:=O x aq;obtain⟨g1,g2⟩:=f1.1 w;have bJ:(b3 X.A.l x 1).2=0:=(by grind[b3]);have hm:z∈eP X.A x:=ob.2 ⟨bJ,(oF d.ok).2 ⟨D,E⟩,u,ag⟩;exact H (By P _ h (Vi _) K R x z (by rw[oY P];exact e) hm)
theorem IC{top:Nat}{A:bR}{h:Int}(d:ch A)(aN:cd top A S)(H:0<=h)(E:(au.cV A.l h).2=0)(N:h≠0):(fu A h++[h]).Nodup/\(fu A h++[h]).length<=257/\∀x∈fu A h++[h],(0<=x/\x<=4294967295)/\(au.cV A.l x).2=0/\x≠0:=by have u:=d.wW aN;have e:hc (eP A) (jw A) h=fu A h++[h]:=oY u h;rw[<-e];refine⟨Bx u _ h (Vi _),Bw d u h,λx D=>?_⟩;have C:x∈au.dy A.l 1:=(by rcases yb d u _ h x (Vi _) D with w|w;rw[w];exact(oF d.ok).2 ⟨H,E⟩;trivial);refine⟨nW d.ok C,((oF d.ok).1 C).2,?_⟩;rcases rX u _ h x (Vi _) D with w|⟨y,O,_⟩;all_goals grind[ob]
theorem Ug(af top:Nat)(X:cu)(h:Int)(ag:0<=h/\h<=4294967295)(bR:c9 X ei):bH 307 [ae aB,aS h] da [cD aB af top X] (λy:(Option Addr×Nat)×cu=>.tuple #[.slice y.1.1 (sQ X.A h).length y.1.2,aa (h9 X.A h)]) (λy=>CN X h y.2) (λy=>[aZ 33 1 y.1.1 (sQ X.A h).length y.1.2 (cL .u32 (sQ X.A h)),cD aB af top y.2]):=by
 apply aF Tryz.func307 Tryz.ntmps307;intro F bN;apply J [1];haveI:cv F:=⟨bN⟩;refine Wr 0 rfl hq (λE=>?_);obtain⟨ar,dm,bS⟩:=E;apply ab.open 0 rfl;rintro⟨aH,bu⟩-;apply J [83];dsimp only;apply J [24,85,31,41,50,29];apply aq (jZ aH af top X.A h ag 0);apply J [14];rw[iS];refine J [230] ?_;intro bb;apply J [116,236];by_cases u:(au.cV X.A.l h).2=0;refine Vf rfl (λa3=>absurd a3 (λh=>h u)) (λa3=>?_);apply J [27,175];by_cases C:h=0;have hv:h9 X.A h≠0:=by rw[h9,al (λbJ=>bJ u),ax C];decide
 rw[show sQ X.A h=[]from ax hv,show h9 X.A h=1 from by rw[h9,al (λbJ=>bJ u),ax C]];refine Vf rfl (λa4=>?_) (λa4=>absurd (C) a4);apply J [24,194,161];exact I5;have hv:h9 X.A h=0:=by rw[h9,al (λbJ=>bJ u),al C]
 rw[show sQ X.A h=fu X.A h++[h]from al (λbJ=>bJ hv),hv];obtain⟨bV,bZ,aW⟩:=IC ar bS ag.1 u C;obtain⟨L,P⟩:∃L,L=fu X.A h++[h]:=⟨_,rfl⟩;rw[<-P]at bV bZ aW;have hlen:L.length=(fu X.A h).length+1:=b2
 rw[<-P,hlen];refine Vf rfl (λa8=>absurd a8 (C)) (λa8=>?_);apply J [20,50,29];apply a7 (DS aH af top X.A h ag);intro cJ _;refine J [15,68] ?_;intro bD;refine J [0,607] ?_;intro N O;apply J [182,33,252,112];refine VP (ι:=Nat×cu) (λd=>∃bi,L=L.take d.1++bi/\d.1<=L.length/\iW X (L.take d.1) d.2) (λd=>[(0,ae aB),(8,.slice N ((fu X.A h).length+1) O),(38,.slice N ((fu X.A h).length+1) O),(39,aa ((((fu X.A h).length+1:Nat)):Int)),(40,aa ((d.1:Nat):Int))]) (λd=>ah [aZ 33 1 N ((fu X.A h).length+1) O (cL .u32 L),cD aB af top d.2,F]) (λd=>L.length-d.1) (0,X) ⟨L,rfl,Vj _,iW.nil bR⟩ bI (b6 0 rfl (by rw[od,P]) (az (bT.mk aH bu:bT) trivial ai)) ?_;rintro⟨k,Y⟩ ⟨_,_,cc,D⟩ cM;dsimp only[cy]at cc D⊢;apply J [42];apply Vf rfl<;>intro ct;have cd:k<L.length:=U
 obtain⟨x,ba⟩:∃x,L[k]? =some x:=⟨L[k],Vc cd⟩;obtain⟨H,ck,ci⟩:=aW x (Vg ba);have ch:L.take (k+1)=L.take k++[x]:=by grind[Vt]
 have cA:L=L.take k++x::L.drop (k+1):=(by grind[List.drop_eq_getElem_cons]);have qH:x∉L.take k:=λbJ=>cm;have cx:0<(cL .u32 L).length:=by grind[iE]
 have cr:k<(cL .u32 L).length:=by grind[iE]
 refine J [219,356] ?_;refine q rfl rfl (dB rfl rfl (nB ba)) ?_;apply J [28,32];apply a7 (Uz aB af top Y x H D.df);intro⟨cB,bj⟩ ⟨Z,bc⟩;apply J [6];have aw:=D.less Z;dsimp only at Z bc⊢;apply J [2,32];apply a7 (Ut aB af top bj x H aw.df);intro⟨cF,w⟩ ⟨V,bd⟩;apply J [6];have ay:=aw.less V;dsimp only at V bd⊢;refine aU.dj 0 rfl hq (λE=>?_);obtain⟨W,cl,co⟩:=E;have ce:eP w.A x=[]:=by grind[PE]
 obtain⟨cw,b0⟩:=wm ar.ok (L.take k);have a9:(au.cV w.A.l x).2=0:=by rw[ay.l];exact(b0 x H.1).1.2 ⟨ck,qH⟩
 have b7:∀s,w.A.aL (x %256).toNat s=0:=λs=>(by by_cases cg:(b3 Y.A.l x 2).2=0;exact V.zero (bc s cg);refine WH λbJ=>?_;obtain⟨_,⟨a,f,bn⟩,_⟩:=W.aL _ _ bJ;obtain⟨_,bl,_⟩:=Cg W bn;have:ao w.A.l (x %256).toNat=x:=(by obtain⟨i,p,_,a2,_,_,a5,cn,_⟩:=oO H.1 a9;grind[rE]);rw[this,V.cf.l,Z.cf.l]at bl;trivial);apply aU.open 0 rfl;rintro⟨aH,bu⟩-;apply J [9];dsimp only;apply J [2,37,54,29];apply a7 (K1 aH af top w.A x H a9 ci ce bd b7);intro bh bo;apply J [9];refine aU.lU 0 rfl (λE=>?_);obtain⟨_,_,bt⟩:=E;have aP:=ay.tZ W bt bo;rw[<-ch]at aP;refine J [63] ?_;exact⟨rfl,(k+1,⟨bh,w.L,w.last⟩),⟨L.drop (k+1),(List.take_append_drop _ _).symm,by dsimp only;omega,aP⟩,cK,bI,(c0 (az (bT.mk aH bu:bT) trivial ai))⟩;obtain rfl:k=L.length:=U
 rw[VY,P]at D;apply J [210,85,26];exact cT ((N,O),Y) (.inr ⟨hv,D⟩) ai;have hv:h9 X.A h≠0:=by rw[h9,ax u];exact u
 rw[show sQ X.A h=[]from ax hv,show h9 X.A h=(au.cV X.A.l h).2 from ax u];refine Vf rfl (λa0=>?_) (λa0=>absurd (u) a0);apply J [27,194,161];exact I5
theorem QS{top:Nat}(h:dd top S):(dk S.C S.Fr).length<=128:=by have d:=vh h.bq (m:=Wo (2^top)) λx u=>Yl.2 (h.lt x u);rw[List.length_range]at d;have w:2^top<=128:=Vk (n:=2) am h.gd.2;omega
theorem cd.Bc{top:Nat}(h:cd top A S)(ao:128<=n):cd top {A with np:=n} S:=h.mY (wF h.P rfl rfl rfl) rfl rfl rfl rfl h.Q (λ_ _ _ _ _ _ _=>⟨λh=>h,λh=>h.elim⟩) (λ_=>⟨λh=>h,λh=>h⟩) rfl (Nat.le_trans (QS h.P) ao)
theorem ch.Bc(h:ch A)(d:A.bt<=n/\A.now<=n)(u:n<=1000000):ch {A with np:=n}:=⟨h.ok,h.dQ,h.rt,h.ac,h.c1,h.nl,h.aL,h.hl,h.mD,h.oh,h.oi,h.m3,h.pd,by have:=h.bd;dsimp only;omega⟩
theorem OQ{aH af top:Nat}(ao:128<=n)(d:A.bt<=n/\A.now<=n)(u:n<=1000000):aG (fZ aH af top A) (fZ aH af top {A with np:=n}):=λh ⟨y,⟨r,a⟩,w⟩=>⟨h,Ac h,y,⟨r.Bc ao,a.Bc d u⟩,w⟩
theorem OR{aB af top:Nat}(ao:128<=n)(u:X.A.bt<=n/\X.A.now<=n)(w:n<=1000000):aG (cD aB af top X) (cD aB af top ⟨{X.A with np:=n},X.L,X.last⟩):=by intro h ⟨y,H,C⟩;obtain⟨d,E,D⟩:=dT (aG.refl _) (dT (OQ (n:=n) ao u w) (aG.refl _)) h C;exact⟨d,E,y,H,D⟩
theorem Ul(aH af top:Nat)(A:bR)(d:aH=ez.aH):bH 86 [ae aH] ba [fZ aH af top A] (λaB:Nat=>ae aB) (λ_=>True) (λaB=>[cD aB af top ⟨A,[],0⟩]):=by apply aF Tryz.func86 Tryz.ntmps86;intro F _;apply J [1,124,41,69];apply a7 b1.Nh;intro bu _;apply J [6];refine q rfl rfl (eh (cs:=[.pointer _,.pointer _]) rfl) ?_;refine e rfl ?_;refine eS (v:=.agg #[_,_]) (l:=[.pointer _,.pointer _]) rfl rfl ?_;intro bb;apply J [104];exact br bb trivial (az (bT.mk aH bu:bT) trivial ai)
theorem I1(af top:Nat)(X:cu)(h:Int)(d:0<=h/\h<=4294967295)(w:(b3 X.A.l h 2).2=0)(s:Nat)(hs:s<128)(C:X.A.aL (bF h) s=0)(c:Nat)(N:c<4294967295)(ar:(au.cV X.A.l (c:Int)).2=0)(O:(au.cV X.A.l (c:Int)).1.k≠8)(D:c9 X ei)(bn:X.A.np+2<=1000000):bH 89 [ae aB,aS h,aa s,.agg #[aS c,aa 15]] da [cD aB af top X] (λy:Int×cu=>aa y.1) (λy=>(y.1=0/\c9 y.2 ei/\∃Q,rN X.A (bX X.A h) Q/\y.2.A=X.A.lay (bF h) s (dO c 15) Q)\/(y.1≠0/\c9 y.2 ei/\rh top X.A (bX X.A h))) (λy=>[cD aB af top y.2]):=by
 apply aF Tryz.func89 Tryz.ntmps89;intro F ba;apply J [1];haveI:cv F:=⟨ba⟩;have P:s<256:=U
 obtain⟨ib,ay⟩:∃ib,au.cV X.A.l (c:Int)=(ib,0):=⟨_,Prod.ext rfl ar⟩;rw[ay]at O;dsimp only at O;refine Wr 0 rfl hq (λH=>?_);obtain⟨u,dm,a3⟩:=H;refine J [25,242] ?_;intro bD;apply J [28,32];apply a7 (o5 aB af top X h d w);intro aR _;refine J [14,216] ?_;intro cp;refine J [116,217,108,433] ?_;rintro⟨aH,bu⟩-;apply J [245];dsimp only;apply J [44];refine ab.qv _ [] 13 rfl aV aV (show aG (ah _) (ah [aj aB 148 [ae aH,ae bu],aj bD 39 [aS c,aa 15]])from ai) ?_;refine J [394,412,413,443] ?_;refine dw (i:=4) rfl rfl rfl aV (c1 0 rfl rfl) ?_;refine dw (i:=5) rfl rfl rfl aV (gG rfl rfl rfl) ?_;refine lf (i:=6) (j:=10) rfl rfl rfl rfl aV ?_ ?_;apply aq (jZ aH af top X.A (c:Int) U 0);refine J [536,10] ?_;rw[iS,ay];refine J [608,152,322,17,247] ?_;intro a0;refine J [10,285,97,130,3] ?_;refine aU.bg (B:=ah [aj aR 163 [ae af,aa (bX X.A h),aa (c6 X.A h:Int)],cD aB af top X,aj cp 150 [ae aR,aS h,aa (bX X.A h)],aj bD 39 [aS c,aa 15],aj a0 60 (ints ib.l),F]) (eE (az (bT.mk aH bu:bT) trivial ai)) ?_;refine e rfl ?_;apply aq (ov aB af top X aR h d w (s:Int));apply J [15];rw[show gn X.A (bF h) (s:Int)=0 from(la P).trans C];refine J [231] ?_;intro bj;apply J [102,105,72,138];apply aq (sg (s:Int));apply J [18];rw[c7 (show 0<=(s:Int)/\(s:Int)<256 by omega)];apply J [266,332,23,7];refine cC [0,1,-2,3,4,5,7,8,9,-6,10,11,12] (show aG (ah _) (ah [aj bD 39 [aS c,aa 15],aj a0 60 (ints ib.l)])from ai) ?_;apply J [313];apply aq (yn 15);refine J [261,10] ?_;rw[c7 (show(0:Int)<15/\(15:Int)<=15 by decide)];apply J [375,154,291,371,163,537,292];apply aq (sf (s:Int));refine J [261,10] ?_;rw[c7 (show(s:Int)<128 by omega)];refine eH rfl rfl rfl rfl (zD rfl rfl rfl) ?_;apply J [241,272];refine Vf rfl (λa4=>absurd a4 ((λe=>O (dz e.symm)))) (λa4=>?_);apply J [62,191,206,267,3,244,0];apply a7 (ym aB af top X aR h d w s P C c 15 N am ar U);intro⟨cq,a8⟩ E;apply J [18];dsimp only;apply J [126];apply Vf rfl<;>intro he;obtain⟨bJ,W⟩:=w7 E he;dsimp only at bJ;subst bJ;have ag:c9 ⟨{X.A with np:=X.A.np+2},X.L,X.last⟩ ei:=D.obj u rfl (λ_ _ _=>rfl) (u.vo (Vv _ _) U) (Vv _ _);apply J [125];exact br (cq,⟨{X.A with np:=X.A.np+2},X.L,X.last⟩) (.inr ⟨he,ag,W⟩) ai;obtain rfl:cq=0:=Vh he;obtain⟨Q,bJ,ul⟩:=w6 E rfl;dsimp only at bJ;subst bJ;have aP:=jO (r:=15) N am;have Z:c9 ⟨X.A.lay (bF h) s (dO c 15) Q,X.L,X.last⟩ (tX (bF h) s):=D.lay u (by have:=d;rw[bF];omega) C aP.2 (Vv _ _) (λj r=>⟨λh=>.inr h,λh=>h.elim (λh=>h.elim) id⟩);have bi:=D.dg;have bh:=u.bd;refine Wr 1 rfl hq (λH=>?_);obtain⟨V,a9,bc⟩:=H;obtain⟨aW,rC⟩:=Z.add (i:=bF h) (s:=s) (par:=0) V ⟨rfl,rfl⟩ (.inl rfl) (D':=ei) (λj r=>⟨λh=>h.elim,λh=>h.2 h.1⟩) (by show X.last+1<=((X.A.lay (bF h) s (dO c 15) Q).np:Int);dsimp only[bR.lay];omega);have aw:ao (X.A.lay (bF h) s (dO c 15) Q).l (bF h)=h:=p7 a3 d.1 w;rw[aw]at aW rC;apply ab.open 1 rfl;rintro⟨aH,bu⟩-;apply J [79];dsimp only;refine J [4,65,223,29] ?_;apply aq (b1.wu bu X.L X.last 0 h (s:Int) U);apply J [21,118];exact I6;refine J [247] ?_;intro a2;refine J [10,609,17] ?_;apply aq (jZ aH af top X.A (c:Int) U 0);refine J [290,10] ?_;rw[iS,ay];refine J [152,322,285,97,130,3] ?_;refine aU.bg (B:=ah [aj aR 163 [ae af,aa (bX X.A h),aa (c6 X.A h:Int)],cD aB af top X,aj cp 150 [ae aR,aS h,aa (bX X.A h)],aj bD 39 [aS c,aa 15],aj a2 60 (ints ib.l),F]) (eE (az (bT.mk aH bu:bT) trivial ai)) ?_;refine e rfl ?_;apply aq (ov aB af top X aR h d w (s:Int));apply J [15];rw[show gn X.A (bF h) (s:Int)=0 from(la P).trans C];refine J [231] ?_;intro bl;apply J [102,105,72,138];apply aq (sg (s:Int));apply J [18];rw[c7 (show 0<=(s:Int)/\(s:Int)<256 by omega)];apply J [266,332,23,7];refine cC [0,1,-2,3,4,5,7,8,9,-6,10,11,12] (show aG (ah _) (ah [aj bD 39 [aS c,aa 15],aj a2 60 (ints ib.l)])from ai) ?_;apply J [313];apply aq (yn 15);refine J [261,10] ?_;rw[c7 (show(0:Int)<15/\(15:Int)<=15 by decide)];apply J [375,154,291,371,163,537,292];apply aq (sf (s:Int));refine J [261,10] ?_;rw[c7 (show(s:Int)<128 by omega)];refine eH rfl rfl rfl rfl (zD rfl rfl rfl) ?_;apply J [241,272];refine Vf rfl (λa5=>absurd a5 ((λe=>O (dz e.symm)))) (λa5=>?_);apply J [62,191,206,267,3,244,0];apply a7 (ym aB af top X aR h d w s P C c 15 N am ar U);intro⟨cq,a8⟩ E;apply J [18];dsimp only;apply J [126];apply Vf rfl<;>intro he;obtain⟨bJ,W⟩:=w7 E he;dsimp only at bJ;subst bJ;have ag:c9 ⟨{X.A with np:=X.A.np+2},X.L,X.last⟩ ei:=D.obj u rfl (λ_ _ _=>rfl) (u.vo (Vv _ _) U) (Vv _ _);apply J [125];exact br (cq,⟨{X.A with np:=X.A.np+2},X.L,X.last⟩) (.inr ⟨he,ag,W⟩) ai;obtain rfl:cq=0:=Vh he;obtain⟨Q,bJ,ul⟩:=w6 E rfl;dsimp only at bJ;subst bJ;have aP:=jO (r:=15) N am;have Z:c9 ⟨X.A.lay (bF h) s (dO c 15) Q,X.L,X.last⟩ (tX (bF h) s):=D.lay u (by have:=d;rw[bF];omega) C aP.2 (Vv _ _) (λj r=>⟨λh=>.inr h,λh=>h.elim (λh=>h.elim) id⟩);have bi:=D.dg;have bh:=u.bd;refine Wr 1 rfl hq (λH=>?_);obtain⟨V,a9,bc⟩:=H;obtain⟨aW,rC⟩:=Z.add (i:=bF h) (s:=s) (par:=0) V ⟨rfl,rfl⟩ (.inl rfl) (D':=ei) (λj r=>⟨λh=>h.elim,λh=>h.2 h.1⟩) (by show X.last+1<=((X.A.lay (bF h) s (dO c 15) Q).np:Int);dsimp only[bR.lay];omega);have aw:ao (X.A.lay (bF h) s (dO c 15) Q).l (bF h)=h:=p7 a3 d.1 w;rw[aw]at aW rC;apply ab.open 1 rfl;rintro⟨aH,bu⟩-;apply J [79];dsimp only;refine J [4,65,223,29] ?_;apply aq (b1.wu bu X.L X.last 0 h (s:Int) U);apply J [21,118];exact I6
structure e3 where
  f:Nat
  t:Nat
  r:Nat
  g:Bool
def pS(m:e3):List Value:=[.int .i64 m.f,.int .i64 m.t,.int .i64 m.r,.bool m.g]
theorem uF(m:e3):(pS m).length=4:=rfl
def gp(l:List e3):List Value:=l.flatMap pS
variable(l:List e3)
theorem qO:(gp l).length=l.length*4:=kC uF l
theorem Ga(k:List e3):gp l++gp k=gp (l++k):=by simp[gp]
theorem P4:(gp l).take (l.length*4)=gp l:=List.take_of_length_le (by rw[qO];omega)
theorem Gb:∀(l:List e3),(gp l).all Value.oneCell'=true
 | []=>rfl
 | m::l=>by rw[gp,VD,List.all_append,<-gp,Gb l];rfl
def vF(m:e3):Prop:=m.f<256/\m.t<256/\1<=m.r/\m.r<=15
def l0(m a:e3):Bool:=decide ((a.t:Int)=(m.t:Int))||(decide ((a.f:Int)=(m.f:Int))&&(a.g||m.g))
def zT(X:cu)(h k:Int)(l:List e3)(m:e3):Prop:=X.A.aL (bF h) m.f≠0/\k8 (X.A.aL (bF h) m.f)&&&m.r≠0/\X.A.aL (bF k) m.t=0/\∀a∈l,l0 m a=false
theorem MB{l:List e3}{pr:e3->Bool}{t:e3}(d:l[k]? =some t)(u:pr t=true)(eM:∀j t,j<k->l[j]? =some t->pr t=false):l.findIdx? pr=some k:=by grind[List.findIdx?_eq_some_iff_getElem]
theorem MC{l:List e3}{pr:e3->Bool}(eM:∀j t,j<l.length->l[j]? =some t->pr t=false):l.findIdx? pr=none:=by rw[List.findIdx?_eq_none_iff];intro x d;obtain⟨j,u,rfl⟩:=XM d;simp_all
theorem P6(ad:Option Addr)(cap:Nat)(l:List e3)(dc:Nat)(O:dc=l.length)(gU:FuncId)(lb:List Value)(pr:e3->Bool)(E:ay->Prop)(W:l.length<=100000000)(H:∀t,bn gU ([.agg (pS t).toArray]++lb) E [] (.bool (pr t)) []):eF VU 381 [.slice ad dc cap,.func (.func gU) #[] lb.toArray] (λF=>cQ F 427 ad (gp l)/\E (ah [F])) [] (λ_:Unit=>aa (match l.findIdx? pr with|some i=>(i:Int)|none=>-1)) (λ_=>True) (λ_=>[]):=by
 apply aF Tryz.func381 Tryz.ntmps381;intro F w;apply J [8];subst O;haveI:bi F ad 427 (gp l):=⟨w.1⟩;refine J [35,33,414,112,591] ?_;rintro k ⟨hinv,eM⟩ Z;dsimp only[cy]at hinv eM⊢;apply J [42];apply Vf rfl<;>intro D;have D:k<l.length:=U
 obtain⟨t,C⟩:∃t,l[k]? =some t:=⟨l[k],Vc D⟩;have V:0<(gp l).length:=by grind[qO]
 refine J [60,140,24,339,319,415] ?_;refine q rfl rfl (gH (vs:=[_,_,_,_]) 4 rfl rfl (kB uF C 0 4 U U (show _=[aa (t.f:Int),aa t.t,aa t.r,.bool t.g]from rfl)) rfl am) ?_;refine e rfl ?_;refine k5 (H t) rfl rfl (ev _) w.2 ?_;intro _ _;apply J [151,2];cases P:pr t with|true=>?_|false=>?_
 apply J [12,140,166];have d:l.findIdx? pr=some k:=by grind[MB]
 exact YE () [_] ⟨rfl,trivial⟩ (by rw[d];rfl) trivial ai;refine J [23,111] ?_;exact⟨rfl,(k+1),⟨by omega,λj u N hu=>by rcases YQ.1 N with h|h;exact eM j u h hu;subst h;rw[C]at hu;cases hu;exact P⟩,U,bI,(an (aX _))⟩;obtain rfl:k=l.length:=by omega
 have d:l.findIdx? pr=none:=MC eM;apply J [75,201];exact YE () [_] ⟨rfl,trivial⟩ (by rw[d];rfl) trivial (an (aX _))
theorem P5(ad:Option Addr)(cap:Nat)(l:List e3)(dc:Nat)(D:dc=l.length)(gU:FuncId)(lb:List Value)(pr:e3->Bool)(d:ay->Prop)(C:l.length<=100000000)(w:∀t,bn gU ([.agg (pS t).toArray]++lb) d [] (.bool (pr t)) []):eF VU 358 [.slice ad dc cap,.func (.func gU) #[] lb.toArray] (λF=>cQ F 427 ad (gp l)/\d (ah [ah [F]])) [] (λ_:Unit=>.bool (l.any pr)) (λ_=>True) (λ_=>[]):=by apply aF Tryz.func358 Tryz.ntmps358;intro F u;apply J [8];haveI:bi F ad 427 (gp l):=⟨u.1⟩;apply J [127,33,339,0];apply ew (P6 ad cap l dc D gU lb pr d C w) ⟨bi.rd (ad:=ad),u.2⟩;apply J [151];have E:decide ((match l.findIdx? pr with|some i=>(i:Int)|none=>-1)>=0)=l.any pr:=cm;apply J [408,70];exact YE () [_] ⟨rfl,trivial⟩ (congrArg Ww E) trivial (an (aX _))
theorem MG(c:Nat)(m a:e3):bn 359 [.agg (pS a).toArray,ae c] (λF=>Rd F c (.cells (pS m).toArray 427 (0,0))) [] (.bool (l0 m a)) []:=by apply aF Tryz.func359 Tryz.ntmps359;intro F C;apply J [8];haveI:fN F c (.cells (pS m).toArray 427 (0,0)):=⟨C⟩;obtain⟨f1,t1,ef,g1⟩:=a;obtain⟨f2,t2,w,g2⟩:=m;refine J [25,610] ?_;intro bb;apply J [38,265,58,193];by_cases d:(t1:Int)=(t2:Int);refine VL 9 rfl (c:=true) (c7 d) ?_;apply J [45,48,162,162,162,162,162,162,363,131];exact YE () [_] ⟨rfl,trivial⟩ (congrArg Ww (show true=l0 ⟨f2,t2,w,g2⟩ ⟨f1,t1,ef,g1⟩from by rw[l0];dsimp only;rw[c7 d];rfl)) trivial ai;refine VL 9 rfl (c:=false) (dn d) ?_;apply J [192,192,160,340];by_cases u:(f1:Int)=(f2:Int);refine VL 15 rfl (c:=true) (c7 u) ?_;apply J [295,165,340];cases g1;apply J [295,165,388,370,98];exact YE () [_] ⟨rfl,trivial⟩ (congrArg Ww (show g2=l0 ⟨f2,t2,w,g2⟩ ⟨f1,t1,ef,false⟩from by rw[l0];dsimp only;rw[dn d,c7 u];cases g2<;>rfl)) trivial ai;apply J [48,370,370,98];exact YE () [_] ⟨rfl,trivial⟩ (congrArg Ww (show true=l0 ⟨f2,t2,w,g2⟩ ⟨f1,t1,ef,true⟩from by rw[l0];dsimp only;rw[dn d,c7 u];rfl)) trivial ai;refine VL 15 rfl (c:=false) (dn u) ?_;apply J [52,162,162,363,388,98];exact YE () [_] ⟨rfl,trivial⟩ (congrArg Ww (show false=l0 ⟨f2,t2,w,g2⟩ ⟨f1,t1,ef,g1⟩from by rw[l0];dsimp only;rw[dn d,dn u];rfl)) trivial ai
theorem MH(af top:Nat)(X:cu)(aR C:Nat)(h:Int)(Z:0<=h/\h<=4294967295)(aP:(b3 X.A.l h 2).2=0)(k:Int)(a0:0<=k/\k<=4294967295)(a2:(b3 X.A.l k 2).2=0)(m:e3)(hm:vF m)(l:List e3)(ao:l.length<=100000000)(ad:Option Addr)(cap dc:Nat)(ay:dc=l.length):bH 317 [.agg #[ae aR,aS h,aa (bX X.A h)],.agg #[ae C,aS k,aa (bX X.A k)],.agg (pS m).toArray,.slice ad dc cap] (λF=>cQ F 427 ad (gp l)) [aj aR 163 [ae af,aa (bX X.A h),aa (c6 X.A h:Int)],aj C 163 [ae af,aa (bX X.A k),aa (c6 X.A k:Int)],cD aB af top X] (λy:Int=>aa y) (λy=>y=0->zT X h k l m) (λ_=>[aj aR 163 [ae af,aa (bX X.A h),aa (c6 X.A h:Int)],aj C 163 [ae af,aa (bX X.A k),aa (c6 X.A k:Int)],cD aB af top X]):=by
 apply aF Tryz.func317 Tryz.ntmps317;intro F V;apply J [83];haveI:bi F ad 427 (gp l):=⟨V⟩;obtain⟨f1,t1,ef,g1⟩:=m;obtain⟨D,H,ar,au⟩:=hm;dsimp only at D H ar au;refine Wr 2 rfl hq (λW=>?_);obtain⟨P,dm,a5⟩:=W;refine J [25,309] ?_;intro bD;refine J [0,309] ?_;intro cp;refine J [0,610] ?_;intro d;apply J [28,130,209];apply aq (ov aB af top X aR h Z aP (f1:Int));refine J [18,231] ?_;intro a3;apply J [317,130,58,0];apply aq (ov aB af top X C k a0 a2 (t1:Int));refine J [76,231] ?_;intro a4;apply J [317,33,411,0];apply ew (P5 ad cap l dc ay 359 [ae d] (l0 ⟨f1,t1,ef,g1⟩) (λF=>Rd F d (.cells (pS ⟨f1,t1,ef,g1⟩).toArray 427 (0,0))) ao (λt=>MG d ⟨f1,t1,ef,g1⟩ t)) ⟨bi.rd (ad:=ad),iK (iK (fN.rd (b:=d)))⟩;apply J [21,105,72,71,0];apply aq (sg (f1:Int));apply J [21];rw[c7 (show 0<=(f1:Int)/\(f1:Int)<256 by omega)];apply J [89,19,238,94];apply aq (sg (t1:Int));apply J [21];rw[c7 (show 0<=(t1:Int)/\(t1:Int)<256 by omega)];apply J [345,149,191,7];refine cC [0,1,-2,3,4,5,6,8,9,-7,-10,11,12,13] (show aG (ah _) (ah [aj d 427 [aa f1,aa t1,aa ef,.bool g1]])from ai) ?_;apply J [135,17];apply aq (yn (ef:Int));refine J [253,10] ?_;rw[c7 (show 0<(ef:Int)/\(ef:Int)<=15 by omega)];apply J [375,154,371,163,469,163,292];apply aq (sf (f1:Int));refine J [253,10,292] ?_;apply aq (sf (t1:Int));refine J [253,10] ?_;refine eH rfl rfl rfl rfl (xo rfl rfl rfl) ?_;apply J [241,272];refine ab.cond rfl (λag=>?_) (λag=>?_);apply J [67];exact br 1 (λbJ=>absurd bJ am) ai;apply J [62,409,38];apply Vf rfl<;>intro a9;apply J [67];exact br 6 (λbJ=>absurd bJ am) ai;have u:gn X.A (bF h) (f1:Int)≠0:=U
 rw[al u,al u];rw[la D]at u;obtain⟨_,_,bj,hy,bh,bd,bc,aW,_⟩:=P.aL _ _ u;obtain⟨_,c2⟩:=k9 (r:=hy) aW;rw[la D];have a8:k8 (X.A.aL (bF h) f1)<=15:=b2
 apply J [265];refine q rfl rfl (rn (a:=k8 (X.A.aL (bF h) f1)) (b:=4) rfl rfl U am rfl) ?_;apply J [193];by_cases E:((k8 (X.A.aL (bF h) f1)&&&4:Nat):Int)=0;refine VL 64 rfl (c:=true) (c7 E) ?_;apply J [45,48,143,197];exact br 9 (λbJ=>absurd bJ am) ai;refine VL 64 rfl (c:=false) (dn E) ?_;apply J [238,225];refine db rfl rfl rfl (rn (a:=k8 (X.A.aL (bF h) f1)) (b:=ef) rfl rfl U U rfl) ?_;apply J [160,207];apply Vf rfl<;>intro ba;apply J [67];exact br 9 (λbJ=>absurd bJ am) ai;have N:k8 (X.A.aL (bF h) f1)&&&ef≠0:=U
 apply J [62,19];by_cases w:gn X.A (bF k) (t1:Int)=0;refine VL 74 rfl (c:=false) (dn (λh=>h w)) ?_;apply J [340,207];refine ab.cond rfl (λaw=>?_) (λaw=>?_);apply J [67];exact br 7 (λbJ=>absurd bJ am) ai;rw[la H]at w;have O:∀a∈l,l0 ⟨f1,t1,ef,g1⟩ a=false:=λa a7=>b2;apply J [20,201];exact br 0 (λ_=>⟨u,N,w,O⟩) ai;refine VL 74 rfl (c:=true) (c7 w) ?_;apply J [363,143,197];exact br 7 (λbJ=>absurd bJ am) ai
def l2(k:Int)(l:List e3)(p n:Nat):Nat->Nat->Prop:=λa r=>a=bF k/\∃(q:Nat) (m:e3),p<=q/\q<n/\l[q]? =some m/\m.t=r
theorem A5(k:Int)(l:List e3)(n:Nat):l2 k l n n=ei:=by funext a r;exact propext ⟨λ⟨_,q,_,d,u,_⟩=>absurd d U,λh=>h.elim⟩
def kY(X:cu)(h k:Int)(l:List e3):Prop:=∀q m,l[q]? =some m->zT X h k (l.take q) m
section
variable {X Y Z : cu} {h k : Int} {l : List e3} {p n c : Nat}
variable{m:e3}
theorem kY.lt(w:kY X h k l){q r:Nat}{a:e3}(d:q<r)(u:l[q]? =some a)(hm:l[r]? =some m):l0 m a=false:=(w r m hm).2.2.2 a (Vg (i:=q) (by rw[List.getElem?_take_of_lt d];exact u))
theorem A4{a:e3}(e:l0 m a=false):a.t≠m.t/\(a.g=true\/m.g=true->a.f≠m.f):=by grind[l0]
theorem kY.ne(w:kY X h k l){q r:Nat}{a:e3}(C:q≠r)(u:l[q]? =some a)(hm:l[r]? =some m):a.t≠m.t:=by rcases Nat.lt_or_gt_of_ne C with d|d;exact(A4 (w.lt d u hm)).1;exact λe=>(A4 (w.lt d hm u)).1 e.symm
theorem kY.bq(d:kY X h k l){q:Nat}(hm:l[q]? =some m)(p n:Nat):¬l2 k l p n (bF h) m.f:=by rintro⟨u,r,a,_,_,C,w⟩;have:=(d r a C).2.2.1;rw[w,<-u]at this;exact(d q m hm).1 this
structure iz(X:cu)(h k:Int)(l:List e3)(p n c:Nat)(Y:cu):Prop where
  df:c9 Y (l2 k l p n)
  cf:fv X.A Y.A c
  L:Y.L=X.L
  dg:Y.last=X.last
  bt:Y.A.bt=X.A.bt
  np:p=0->X.A.np+2*n<=Y.A.np
  eB:∀a s,¬l2 k l p n a s->Y.A.aL a s=X.A.aL a s
  ng:p=0->∀q m,q<n->l[q]? =some m->iY (Y.A.aL (bF k) m.t)=iY (X.A.aL (bF h) m.f)
theorem iz.nil(d:c9 X ei):iz X h k l 0 0 0 X:=⟨by rw[A5];exact d,fv.refl _ _,rfl,rfl,rfl,λ_=>Vi _,λ_ _ _=>rfl,λ_ q m h=>absurd h U⟩
theorem iz.to(C:iz X h k l 0 n c Y)(d:kY X h k l)(hm:l[n]? =some m):Y.A.aL (bF k) m.t=0:=by rw[C.eB _ _ λ⟨_,q,a,_,D,u,w⟩=>d.ne U u hm w];exact(d n m hm).2.2.1
theorem iz.aW(d:iz X h k l p n c Y)(u:kY X h k l){q:Nat}(hm:l[q]? =some m):Y.A.aL (bF h) m.f=X.A.aL (bF h) m.f:=d.eB _ _ (u.bq hm _ _)
theorem iz.lay(d:iz X h k l 0 n c Y)(O:kY X h k l)(P:ch Y.A)(V:bF k<256)(hm:l[n]? =some m){w:Nat}(hw:w≠0)(W:iY w=iY (X.A.aL (bF h) m.f))(Q:List aw.bS):iz X h k l 0 (n+1) (c+2) ⟨Y.A.lay (bF k) m.t w Q,Y.L,Y.last⟩:=by
 have aM:∀j r,l2 k l 0 (n+1) j r↔l2 k l 0 n j r\/(j=bF k/\r=m.t):=λj r=>(by constructor;rintro⟨C,q,a,D,E,u,N⟩;by_cases e:q=n;simp_all;exact .inl ⟨C,q,a,D,by omega,u,N⟩;rintro(⟨C,q,a,D,E,u,N⟩|⟨C,H⟩);exact⟨C,q,a,D,by omega,u,N⟩;exact⟨C,n,m,Vj _,Nat.lt_succ_self _,hm,H.symm⟩);refine⟨d.df.lay P V (d.to O hm) hw (Vv _ _) aM,d.cf.trans ⟨rfl,rfl,⟨rfl,rfl,rfl⟩,rfl,by dsimp only[bR.lay];omega⟩,d.L,d.dg,d.bt,(λ_=>by have:=d.np rfl;dsimp only[bR.lay];omega),λa s ao=>?_,λ_ q a D E=>?_⟩;have u:¬l2 k l 0 n a s/\¬(a=bF k/\s=m.t):=b2
 dsimp only[bR.lay];rw[tj u.2];exact d.eB a s u.1;dsimp only[bR.lay];by_cases e:q=n;grind[ii];rw[tj λH=>O.ne e E hm H.2];exact d.ng rfl q a U E
theorem iz.up(d:iz X h k l p n c Y)(u:ch Y.A)(w:Y.A.np+2<=1000000):iz X h k l p n (c+2) ⟨{Y.A with np:=Y.A.np+2},Y.L,Y.last⟩:=
 ⟨d.df.obj u rfl (λ_ _ _=>rfl) (u.vo (Vv _ _) w) (Vv _ _),d.cf.trans ⟨rfl,rfl,⟨rfl,rfl,rfl⟩,rfl,by dsimp only;omega⟩,d.L,d.dg,d.bt,(λe=>by have:=d.np e;dsimp only;omega),d.eB,d.ng⟩
theorem iz.un(d:iz X h k l p n c Y)(E:kY X h k l)(O:ch Y.A)(V:p<n)(hm:l[p]? =some m)(Q:List aw.bS):iz X h k l (p+1) n c ⟨Y.A.bare (bF k) m.t Q,Y.L,Y.last⟩:=by have P:l2 k l p n (bF k) m.t:=⟨rfl,p,m,Vi _,V,hm,rfl⟩;have aM:∀j r,l2 k l (p+1) n j r↔l2 k l p n j r/\¬(j=bF k/\r=m.t):=λj r=>(by constructor;rintro⟨C,q,a,N,D,u,w⟩;exact⟨⟨C,q,a,by omega,D,u,w⟩,λe=>E.ne (show q≠p by omega) u hm (w.trans e.2)⟩;rintro⟨⟨C,q,a,N,D,u,w⟩,W⟩;by_cases e:q=p;simp_all;exact⟨C,q,a,by omega,D,u,w⟩);refine⟨d.df.ID O P aM,(d.cf.trans (m:=0) ⟨rfl,rfl,⟨rfl,rfl,rfl⟩,rfl,Vi _,Vi _⟩),d.L,d.dg,d.bt,(λe=>absurd e U),λa s ao=>?_,λe=>absurd e U⟩;dsimp only[bR.bare];by_cases e:a=bF k/\s=m.t;rw[e.1,e.2,ii];exact((E p m hm).2.2.1).symm;rw[tj e];exact d.eB a s λH=>ao ((aM a s).2 ⟨H,e⟩)
theorem iz.aL(d:iz X h k l p n c Y)(C:kY X h k l)(w:ch Y.A)(u:p<n)(hm:l[p]? =some m):Y.A.aL (bF k) m.t≠0:=d.df.kc _ _ ⟨rfl,p,m,Vi _,u,hm,rfl⟩
structure ri(Z:cu)(k:Int)(l:List e3)(n:Nat)(Y:cu):Prop where
  df:c9 Y (l2 k l n l.length)
  A:Y.A=Z.A
  dg:Y.last=Z.last+n
theorem ri.nil(d:c9 Z (l2 k l 0 l.length)):ri Z k l 0 Z:=⟨d,rfl,by omega⟩
theorem ri.next(O:iz X h k l 0 l.length c Z)(D:kY X h k l)(ay:ch Z.A)(V:ao Z.A.l (bF h)=h/\ao Z.A.l (bF k)=k)(d:ri Z k l n Y)(hm:l[n]? =some m)(a4:Z.last+l.length<=Z.A.np):
 (b1.hi Y.L Y.last (b1.ho Y.L (h,(m.f:Int))) (k,(m.t:Int))).2.2.2=0/\ri Z k l (n+1) ⟨Y.A,(b1.hi Y.L Y.last (b1.ho Y.L (h,(m.f:Int))) (k,(m.t:Int))).1,(b1.hi Y.L Y.last (b1.ho Y.L (h,(m.f:Int))) (k,(m.t:Int))).2.1⟩:=by
 have W:=(Vm.1 hm).1;have N:ch Y.A:=by rw[d.A];exact ay
 have aM:∀j r,l2 k l (n+1) l.length j r↔l2 k l n l.length j r/\¬(j=bF k/\r=m.t):=λj r=>(by constructor;rintro⟨u,q,a,C,w,E,H⟩;exact⟨⟨u,q,a,by omega,w,E,H⟩,λe=>D.ne (show q≠n by omega) E hm (H.trans e.2)⟩;rintro⟨⟨u,q,a,C,w,E,H⟩,P⟩;by_cases e:q=n;simp_all;exact⟨u,q,a,by omega,w,E,H⟩);have eB:Y.A.aL (bF h) m.f≠0:=by rw[d.A,O.aW D hm];exact(D n m hm).1
 obtain⟨t,aA,u,ag,aP,a0⟩:=d.df.find eB (D.bq hm _ _);have aq:ao Y.A.l (bF h)=h:=by rw[d.A];exact V.1
 have ar:ao Y.A.l (bF k)=k:=by rw[d.A];exact V.2
 rw[aq]at u;have a3:=d.dg;obtain⟨C,w⟩:=d.df.add N (i:=bF k) (s:=m.t) (par:=t.id) ⟨rfl,n,m,Vi _,W,hm,rfl⟩ (.inr ⟨t,aA,rfl,λj r bN a5 aF=>by have P:=sM N.ok (N.ni eB).1 (N.ni aF).1 (ag.symm.trans bN);(have au:r=m.f:=by omega);rw[<-P,au,d.A,O.ng rfl n m W hm,O.aW D hm]⟩) (D':=l2 k l (n+1) l.length) aM (by rw[d.A];omega);rw[ar]at C w;rw[u];refine⟨C,w,d.A,?_⟩;have a2:(b1.hi Y.L Y.last t.id (k,(m.t:Int))).2.1=Y.last+1:=(by have aw:=C;unfold b1.hi at aw⊢;grind);grind
structure pb(Z:cu)(h:Int)(l:List e3)(n:Nat)(Y:cu):Prop where
  df:c9 Y ei
  cf:fv Z.A Y.A 0
  dg:Y.last=Z.last
  e:∀q m,n<=q->l[q]? =some m->m.g=true->Y.A.aL (bF h) m.f≠0
theorem pb.next(H:kY X h k l)(cG:pb Z h l n Y)(E:ch Y.A)(hm:l[n]? =some m)(u:m.g=true){t:b1.Fn}(N:t∈Y.L)(w:t.dF=ao Y.A.l (bF h))(C:t.cf=(m.f:Int))(Q:List aw.bS):pb Z h l (n+1) ⟨Y.A.bare (bF h) m.f Q,b1.ki Y.L t.id,Y.last⟩:=by refine⟨cG.df.lift E (cG.e n m (Vi _) hm u) N w C,(cG.cf.trans (m:=0) ⟨rfl,rfl,⟨rfl,rfl,rfl⟩,rfl,Vi _,Vi _⟩),cG.dg,λq a O d D=>?_⟩;dsimp only[bR.bare];rw[tj λe=>(A4 (H.lt (show n<q by omega) hm d)).2 (.inl u) e.2.symm];exact cG.e q a U d D
theorem pb.skip(cG:pb Z h l n Y):pb Z h l (n+1) Y:=⟨cG.df,cG.cf,cG.dg,λq a d=>cG.e q a U⟩
end
variable(aB af top:Nat)(X:cu)(aR:Nat)
theorem Uc(h:Int)(w:0<=h/\h<=4294967295)(C:(b3 X.A.l h 2).2=0)(s:Int)(ed:bR)(he:ed.l=X.A.l):bn 65 [.agg #[ae aR,aS h,aa (bX ed h)],aa s] ba [aj aR 163 [ae af,aa (bX ed h),aa (c6 ed h:Int)],cD aB af top X] (.tuple #[.agg #[aS (if(gn X.A (bF h) s)=0 then 0 else(iY (gn X.A (bF h) s):Int)),aa (if(gn X.A (bF h) s)=0 then 0 else(k8 (gn X.A (bF h) s):Int))],.bool (decide ((gn X.A (bF h) s)≠0))]) [aj aR 163 [ae af,aa (bX ed h),aa (c6 ed h:Int)],cD aB af top X]:=by
 have d:bX ed h=bX X.A h:=by grind[bX]
 have u:c6 ed h=c6 X.A h:=by grind[c6]
 grind[ov]
theorem Uj(h:Int)(D:0<=h/\h<=4294967295)(H:(b3 X.A.l h 2).2=0)(s:Nat)(hs:s<256)(w:X.A.aL (bF h) s=0)(x r:Nat)(N:x<4294967295)(hr:1<=r/\r<=15)(E:(au.cV X.A.l x).2=0)(C:X.A.np+2<=1000000)(ed:bR)(he:ed.l=X.A.l):bH 138 [ae aB,.agg #[ae aR,aS h,aa (bX ed h)],aa s,.agg #[aS x,aa r]] da [aj aR 163 [ae af,aa (bX ed h),aa (c6 ed h:Int)],cD aB af top X] (λy:Int×bR=>aa y.1) (λy=>vD top X.A (bF h) s (dO x r) (bX X.A h) y) (λy=>[aj aR 163 [ae af,aa (bX ed h),aa (c6 ed h:Int)],cD aB af top ⟨y.2,X.L,X.last⟩]):=by
 have d:bX ed h=bX X.A h:=by grind[bX]
 have u:c6 ed h=c6 X.A h:=by grind[c6]
 grind[ym]
theorem IT(h:Int)(C:0<=h/\h<=4294967295)(D:(b3 X.A.l h 2).2=0)(s:Nat)(hs:s<256)(w:X.A.aL (bF h) s≠0)(ed:bR)(he:ed.l=X.A.l):bH 168 [ae aB,.agg #[ae aR,aS h,aa (bX ed h)],aa s] da [aj aR 163 [ae af,aa (bX ed h),aa (c6 ed h:Int)],cD aB af top X] (λ_:bR=>.tuple #[]) (λy=>∃Q,y=X.A.bare (bF h) s Q) (λy=>[aj aR 163 [ae af,aa (bX ed h),aa (c6 ed h:Int)],cD aB af top ⟨y,X.L,X.last⟩]):=by
 have d:bX ed h=bX X.A h:=by grind[bX]
 have u:c6 ed h=c6 X.A h:=by grind[c6]
 grind[Cr]
theorem IZ(aH bu aR:Nat)(L:List b1.Fn)(last:Int)(h f s:Int)(d:0<=h/\h<=4294967295):bn 74 [ae aB,.agg #[ae aR,aS h,aa f],aa s] ba [aj aB 148 [ae aH,ae bu],b1.hp bu L last] (aa (b1.ho L (h,s))) [aj aB 148 [ae aH,ae bu],b1.hp bu L last]:=by apply aF Tryz.func74 Tryz.ntmps74;intro F _;refine J [11,25,309] ?_;intro bb;apply J [31];refine cC [0,1,2,3,4,5,6,7,-8,9] (show aG (ah _) (ah [aj bb 150 [ae aR,aS h,aa f],aj aB 148 [ae aH,ae bu]])from ai) ?_;refine J [133,181,378,264] ?_;apply aq (b1.ww bu L last h s);refine J [350,97,148] ?_;exact dh
theorem Uw(Z:cu)(aR u:Nat)(h:Int)(ag:0<=h/\h<=4294967295)(ci:(b3 X.A.l h 2).2=0)(k:Int)(cl:0<=k/\k<=4294967295)(cn:(b3 X.A.l k 2).2=0)(l:List e3)(c:Nat)(w:iz X h k l 0 l.length c Z)(D:kY X h k l)(ch:Z.last+l.length<=Z.A.np)(ad:Option Addr)(cap dc:Nat)(E:dc=l.length):bH 318 [ae aB,.agg #[ae aR,aS h,aa (bX X.A h)],.agg #[ae u,aS k,aa (bX X.A k)],.slice ad dc cap] (λF=>da F/\cQ F 427 ad (gp l)) [aj aR 163 [ae af,aa (bX X.A h),aa (c6 X.A h:Int)],aj u 163 [ae af,aa (bX X.A k),aa (c6 X.A k:Int)],cD aB af top Z] (λ_:cu=>.tuple #[]) (λy=>c9 y ei/\fv X.A y.A c) (λy=>[aj aR 163 [ae af,aa (bX X.A h),aa (c6 X.A h:Int)],aj u 163 [ae af,aa (bX X.A k),aa (c6 X.A k:Int)],cD aB af top y]):=by
 apply aF Tryz.func318 Tryz.ntmps318;intro F aP;apply J [83];subst E;haveI:cv F:=⟨aP.1⟩;haveI:bi F ad 427 (gp l):=⟨aP.2⟩;refine Wr 2 rfl hq (λW=>?_);obtain⟨ay,b0,ce⟩:=W;have cg:=ay.bd;have hlen:l.length<=1000000:=by have:=w.dg;have:=w.df.eo.len;omega
 have el:Z.A.l=X.A.l:=w.cf.l;have bo:ao Z.A.l (bF h)=h/\ao Z.A.l (bF k)=k:=by grind[p7]
 have ck:bF h<256/\bF k<256:=by grind[bF]
 apply ab.open 2 rfl;rintro⟨aH,bu⟩-;apply J [157];dsimp only;refine J [25,309] ?_;intro bD;refine J [0,309] ?_;intro cp;apply J [30,33,414,112];refine VP (ι:=Nat×cu) (λd=>d.1<=l.length/\ri Z k l d.1 d.2) (λd=>[(0,ae aB),(3,.slice ad l.length cap),(5,ae bD),(6,ae cp),(12,.slice ad l.length cap),(13,aa ((l.length:Nat):Int)),(14,aa ((d.1:Nat):Int))]) (λd=>ah [aj bD 150 [ae aR,aS h,aa (bX X.A h)],aj cp 150 [ae u,aS k,aa (bX X.A k)],aj aR 163 [ae af,aa (bX X.A h),aa (c6 X.A h:Int)],aj u 163 [ae af,aa (bX X.A k),aa (c6 X.A k:Int)],aj aB 148 [ae aH,ae bu],fZ aH af top Z.A,b1.hp bu d.2.L d.2.last,F]) (λd=>l.length-d.1) (0,Z) ⟨Vj _,ri.nil w.df⟩ bI ai ?_;rintro⟨n,Y⟩ ⟨E,C⟩ co;dsimp only[cy]at E C⊢;apply J [42];apply Vf rfl<;>intro bN;·(have ar:n<l.length:=by omega);obtain⟨⟨f1,t1,ef,g1⟩,hm⟩:∃m,l[n]? =some m:=⟨l[n],Vc ar⟩;(have bt:0<(gp l).length:=by grind[qO]);have bn:=D n _ hm;have bB:=C.next w D ay bo hm U;dsimp only at bB;(have bl:Y.last<=1000000:=by have:=C.dg;omega);(have a3:Y.L.length<=1000000:=by have:=C.df.eo.len;omega);refine J [219,415,482,0,448] ?_;intro a4;apply J [22,357,2];refine cC [0,1,2,3,4,5,6,7,9,10,11,12,13,-8,-14] (show aG (ah _) (ah [aj aB 148 [ae aH,ae bu],aj bD 150 [ae aR,aS h,aa (bX X.A h)],aj cp 150 [ae u,aS k,aa (bX X.A k)],aj a4 427 [aa f1,aa t1,aa ef,.bool g1]])from ai) ?_;refine J [133,78,300,109,181,378,313] ?_;apply aq (IZ aB aH bu aR Y.L Y.last h (bX X.A h) (f1:Int) ag);refine J [253,47] ?_;apply aq (b1.wu bu Y.L Y.last (b1.ho Y.L (h,(f1:Int))) k (t1:Int) bl);refine J [253,10,293,324] ?_;exact⟨rfl,(n+1,⟨Y.A,(b1.hi Y.L Y.last (b1.ho Y.L (h,(f1:Int))) (k,(t1:Int))).1,(b1.hi Y.L Y.last (b1.ho Y.L (h,(f1:Int))) (k,(t1:Int))).2.1⟩),⟨by dsimp only;omega,bB.2⟩,cK,bI,ai⟩
 obtain rfl:n=l.length:=by omega
 have V:=C.df;rw[A5]at V;have a2:=C.A;obtain⟨b7,H,N⟩:=Y;dsimp only at a2 V⊢;subst a2;have bj:pb ⟨Z.A,H,N⟩ h l 0 ⟨Z.A,H,N⟩:=⟨V,fv.refl _ _,rfl,λq m _ hm _=>by show Z.A.aL _ _≠0;rw[w.aW D hm];exact(D q m hm).1⟩;apply J [210,414,112];refine VP (ι:=Nat×cu) (λd=>d.1<=l.length/\pb ⟨Z.A,H,N⟩ h l d.1 d.2) (λd=>[(0,ae aB),(3,.slice ad l.length cap),(5,ae bD),(6,ae cp),(34,.slice ad l.length cap),(35,aa ((l.length:Nat):Int)),(36,aa ((d.1:Nat):Int))]) (λd=>ah [aj bD 150 [ae aR,aS h,aa (bX X.A h)],aj cp 150 [ae u,aS k,aa (bX X.A k)],aj aR 163 [ae af,aa (bX X.A h),aa (c6 X.A h:Int)],aj u 163 [ae af,aa (bX X.A k),aa (c6 X.A k:Int)],cD aB af top d.2,F]) (λd=>l.length-d.1) (0,⟨Z.A,H,N⟩) ⟨Vj _,bj⟩ bI (an (an (an (an (az (bT.mk aH bu:bT) trivial ai))))) ?_;rintro⟨n,Y⟩ ⟨E,cG⟩ cr;dsimp only[cy]at E cG⊢;apply J [42];apply Vf rfl<;>intro bN;·(have ar:n<l.length:=by omega);obtain⟨⟨f1,t1,ef,g1⟩,hm⟩:∃m,l[n]? =some m:=⟨l[n],Vc ar⟩;(have bt:0<(gp l).length:=by grind[qO]);have bn:=D n _ hm;refine Wr 4 rfl hq (λW=>?_);obtain⟨P,bZ,cd⟩:=W;have ba:X.A.l=Y.A.l:=el.symm.trans cG.cf.l.symm;(have a3:Y.L.length<=1000000:=by have:=cG.df.eo.len;have:=cG.df.dg;have:=P.bd;omega);(have bS:(b3 Y.A.l h 2).2=0:=by simp_all);refine J [219,415,482,0,448] ?_;intro a5;apply J [22,357,226,220,2];cases g1;refine J [23,111] ?_;exact⟨rfl,(n+1,Y),⟨by dsimp only;omega,cG.skip⟩,cK,bI,ai⟩;apply J [12];have O:=cG.e n _ (Vi _) hm rfl;dsimp only at O;obtain⟨t,bR,aw,a8,a9,cc⟩:=cG.df.find O (λh=>h);(have bc:ao Y.A.l (bF h)=h:=by simp_all);rw[bc]at aw;apply ab.open 5 rfl;rintro⟨aH,bu⟩-;apply J [79];dsimp only;refine ab.seq ?_;refine cC [0,1,2,3,4,5,6,7,-8,-9] (show aG (ah _) (ah [aj aB 148 [ae aH,ae bu],aj bD 150 [ae aR,aS h,aa (bX X.A h)],aj a5 427 [aa f1,aa t1,aa ef,.bool true]])from ai) ?_;apply J [133,78,300,109,17];apply aq (IZ aB aH bu aR Y.L Y.last h (bX X.A h) (f1:Int) ag);refine J [253,10] ?_;rw[aw];refine dY rfl rfl ?_;apply aq (b1.EB bu Y.L Y.last t.id a3);refine J [253,110,37,429,96] ?_;refine aU.bg (B:=ah [aj aR 163 [ae af,aa (bX X.A h),aa (c6 X.A h:Int)],cD aB af top ⟨Y.A,b1.ki Y.L t.id,Y.last⟩,aj bD 150 [ae aR,aS h,aa (bX X.A h)],aj cp 150 [ae u,aS k,aa (bX X.A k)],aj u 163 [ae af,aa (bX X.A k),aa (c6 X.A k:Int)],F]) (bP 6 rfl (az (bT.mk aH bu:bT) trivial ai)) ?_;refine e rfl ?_;apply a7 (IT aB af top ⟨Y.A,b1.ki Y.L t.id,Y.last⟩ aR h ag bS f1 (P.ni O).2 O X.A ba);intro bV bh;apply J [15];obtain⟨au,rfl⟩:=bh;have a0:=pb.next D cG P hm rfl bR a8 a9 au;dsimp only at a0⊢;refine J [63] ?_;exact⟨rfl,(n+1,⟨Y.A.bare (bF h) f1 au,b1.ki Y.L t.id,Y.last⟩),⟨by dsimp only;omega,a0⟩,cK,bI,ai⟩
 have mq:=w.cf.trans cG.cf;apply J [344];exact mR Y ⟨cG.df,mq⟩ ai
theorem JV{A:ay}{E:Nat}{ad:Option Addr}{l:List e3}{i:Nat}(x:cQ A E ad (gp l)):cQ A E ad (gp (l.take i)):=by have:=JU x (i*4);rwa[show(gp l).take (i*4)=gp (l.take i)from wA uF l i]at this
def yD(X:cu)(l:List e3)(y:Int×cu):Prop:=c9 y.2 ei/\fv X.A y.2.A (2*l.length+128)/\(y.1≠0->y.2.A.np<=max X.A.np 128)
theorem iz.fail{X Y:cu}{h k:Int}{l:List e3}{n c:Nat}(d:iz X h k l n n c Y)(w:c9 X ei){dc:Nat}(bJ:dc=max X.A.np 128):c9 ⟨{Y.A with np:=dc},Y.L,Y.last⟩ ei/\fv X.A {Y.A with np:=dc} (2*l.length+128):=by have u:=d.df;rw[A5]at u;have C:=w.dg;exact⟨⟨u.eo,u.pU,u.qQ,u.kc,u.fF,by dsimp only;rw[d.dg];omega⟩,⟨d.cf.l,d.cf.z,d.cf.q,d.cf.o,by dsimp only;omega⟩⟩
theorem IX(h:Int)(ao:0<=h/\h<=4294967295)(k:Int)(V:0<=k/\k<=4294967295)(l:List e3)(bh:∀m∈l,vF m)(hlen:l.length<=1000)(a8:c9 X ei)(dF:X.A.np+2*l.length+2<=1000000)(ad:Option Addr)(cap dc:Nat)(P:dc=l.length)(dz:dc<=cap):bH 266 [ae aB,aS h,aS k,.slice ad dc cap] (λF=>da F/\cQ F 427 ad (gp l)) [cD aB af top X] (λy:Int×cu=>aa y.1) (λy=>yD X l y) (λy=>[cD aB af top y.2]):=by
 apply aF Tryz.func266 Tryz.ntmps266;intro F bR;apply J [1];subst P;haveI:cv F:=⟨bR.1⟩;haveI:bi F ad 427 (gp l):=⟨bR.2⟩;have bj:∀e:Int,yD X l (e,X):=by grind[yD,fv.refl]
 refine Wr 0 rfl hq (λC=>?_);obtain⟨bN,dm,dx⟩:=C;apply J [106,34];by_cases ar:(b3 X.A.l h 2).2=0;refine e rfl ?_;apply a7 (o5 aB af top X h ao ar);intro aR _;refine J [6,216] ?_;intro bD;apply J [116,172,34];by_cases ay:(b3 X.A.l k 2).2=0;refine e rfl ?_;apply a7 (o5 aB af top X k V ay);intro u _;refine J [9,216] ?_;intro D;apply J [116,217,121,33,414,112];refine VP (ι:=Nat) (λd=>d<=l.length/\∀q m,q<d->l[q]? =some m->zT X h k (l.take q) m) (λd=>[(0,ae aB),(3,.slice ad l.length cap),(9,ae bD),(11,ae D),(40,.slice ad l.length cap),(41,aa ((l.length:Nat):Int)),(42,aa ((d:Nat):Int))]) (λd=>ah [aj bD 150 [ae aR,aS h,aa (bX X.A h)],aj D 150 [ae u,aS k,aa (bX X.A k)],aj aR 163 [ae af,aa (bX X.A h),aa (c6 X.A h:Int)],aj u 163 [ae af,aa (bX X.A k),aa (c6 X.A k:Int)],cD aB af top X,F]) (λd=>l.length-d) 0 ⟨Vj _,λq m h=>absurd h U⟩ bI ai ?_;rintro n ⟨P,bS⟩ dM;dsimp only[cy]at P bS⊢;apply J [42];apply Vf rfl<;>intro cN;have bc:n<l.length:=U
 obtain⟨⟨f1,t1,ef,g1⟩,hm⟩:∃m,l[n]? =some m:=⟨l[n],Vc bc⟩;have cM:0<(gp l).length:=by grind[qO]
 have a0:=bh _ (Vg hm);refine J [60,27,415,482,0,448] ?_;intro cn;apply J [77,22,357,30];refine cC [0,1,2,3,4,5,-6,7] (show aG (ah _) (ah [aj bD 150 [ae aR,aS h,aa (bX X.A h)],aj D 150 [ae u,aS k,aa (bX X.A k)],aj cn 427 [aa f1,aa t1,aa ef,.bool g1]])from ai) ?_;apply J [300,300];refine bY rfl rfl rfl (fQ (vs:=[_,_,_,_]) 4 rfl rfl rfl rfl) ?_;apply J [205];refine bY rfl rfl rfl (nG 427 4 (n) rfl rfl rfl U U) ?_;refine dY rfl rfl ?_;apply eL (MH aB af top X aR u h ao ar k V ay ⟨f1,t1,ef,g1⟩ a0 (l.take n) xd ad cap n xd) (JV (bi.rd (ad:=ad)));intro cq ct;refine J [261,97,39] ?_;apply Vf rfl<;>intro he;apply J [140,166];exact br (cq,X) (bj _) ai;have cw:=ct (Vh he);refine J [111] ?_;exact⟨rfl,(n+1),⟨by omega,λq m ag E=>by rcases YQ.1 ag with O|O;exact bS q m O E;subst O;rw[hm]at E;cases E;exact cw⟩,U,bI,ai⟩;obtain rfl:n=l.length:=by omega
 have N:kY X h k l:=by grind[kY]
 have c5:bF h<256/\bF k<256:=by grind[bF]
 have dy:=bN.bd;apply J [75,7,33,414,112];refine VP (ι:=Nat×cu) (λd=>d.1<=l.length/\iz X h k l 0 d.1 (2*d.1) d.2) (λd=>[(0,ae aB),(3,.slice ad l.length cap),(9,ae bD),(11,ae D),(58,.slice ad l.length cap),(59,aa ((l.length:Nat):Int)),(60,aa ((d.1:Nat):Int))]) (λd=>ah [aj bD 150 [ae aR,aS h,aa (bX X.A h)],aj D 150 [ae u,aS k,aa (bX X.A k)],aj aR 163 [ae af,aa (bX X.A h),aa (c6 X.A h:Int)],aj u 163 [ae af,aa (bX X.A k),aa (c6 X.A k:Int)],cD aB af top d.2,F]) (λd=>l.length-d.1) (0,X) ⟨Vj _,iz.nil a8⟩ bI ai ?_;rintro⟨n,Y⟩ ⟨cS,w⟩ dN;dsimp only[cy]at cS w⊢;apply J [42];apply Vf rfl<;>intro cN;have bc:n<l.length:=U
 obtain⟨⟨f1,t1,ef,g1⟩,hm⟩:∃m,l[n]? =some m:=⟨l[n],Vc bc⟩;have cM:0<(gp l).length:=by grind[qO]
 have a0:=bh _ (Vg hm);refine Wr 4 rfl hq (λC=>?_);obtain⟨a3,ck,cA⟩:=C;have bo:X.A.l=Y.A.l:=w.cf.l.symm;have c3:(b3 Y.A.l h 2).2=0:=b2
 have dd:(b3 Y.A.l k 2).2=0:=b2
 obtain⟨ag,E,O,_⟩:=N n _ hm;dsimp only at ag E O;obtain⟨_,_,a2,hy,ci,dK,cX,aw,dC⟩:=bN.aL _ _ ag;obtain⟨bn,c2⟩:=k9 (r:=hy) aw;have kF:=w.aW N hm;dsimp only at kF;have c8:gn Y.A (bF h) (f1:Int)=dO a2 hy:=by grind[la]
 have ce:=(jO (r:=hy) aw cX).2;rw[ci,c2]at E;have cg:hy&&&ef<=15:=by grind[Nat.and_le_left]
 have ch:=w.to N hm;dsimp only at ch;have dG:=w.cf.n;have dD:ef<=15:=a0.2.2.2;have cP:(au.cV Y.A.l (a2:Int)).2=0:=b2
 refine J [60,27,415,482,0,448] ?_;intro dp;apply J [77,22,357,2,130,209];apply aq (Uc aB af top Y aR h ao c3 (f1:Int) X.A bo);apply J [18];rw[c8,al ce,al ce,bn,c2];refine J [231] ?_;intro dq;apply J [317,265,55];refine q rfl rfl (rn (a:=hy) (b:=ef) rfl rfl U U rfl) ?_;apply J [406,286,267,58,244,0];apply a7 (Uj aB af top Y u k V dd t1 a0.2.1 ch a2 (hy&&&ef) aw ⟨by omega,cg⟩ cP U X.A bo);intro⟨cq,dk⟩ bZ;apply J [76];dsimp only;apply J [126];apply Vf rfl<;>intro he;obtain⟨bJ,_⟩:=w7 bZ he;dsimp only at bJ;subst bJ;have cF:=w.up a3 U;apply J [7,314];refine q rfl rfl (nG 427 4 (n) rfl rfl rfl U U) ?_;apply J [414,112];refine VP (ι:=Nat×cu) (λd=>d.1<=n/\iz X h k l d.1 n (2*n+2) d.2) (λd=>[(0,ae aB),(3,.slice ad l.length cap),(9,ae bD),(11,ae D),(19,aa cq),(88,.slice ad n cap),(89,aa ((n:Nat):Int)),(90,aa ((d.1:Nat):Int))]) (λd=>ah [aj bD 150 [ae aR,aS h,aa (bX X.A h)],aj D 150 [ae u,aS k,aa (bX X.A k)],aj aR 163 [ae af,aa (bX X.A h),aa (c6 X.A h:Int)],aj u 163 [ae af,aa (bX X.A k),aa (c6 X.A k:Int)],cD aB af top d.2,F]) (λd=>n-d.1) (0,⟨{Y.A with np:=Y.A.np+2},Y.L,Y.last⟩) ⟨Vj _,cF⟩ bI ai ?_;rintro⟨W,Z⟩ ⟨cW,H⟩ dQ;dsimp only[cy]at cW H⊢;apply J [42];apply Vf rfl<;>intro dA;have cO:W<l.length:=U
 have cd:W<n:=U
 obtain⟨⟨f2,t2,df,g2⟩,aP⟩:∃m,l[W]? =some m:=⟨l[W],Vc cO⟩;have cR:=bh _ (Vg aP);refine Wr 4 rfl hq (λC=>?_);obtain⟨a4,cl,cB⟩:=C;have co:X.A.l=Z.A.l:=H.cf.l.symm;have de:(b3 Z.A.l k 2).2=0:=b2
 have cc:=H.aL N a4 cd aP;dsimp only at cc;refine J [219,415] ?_;refine q rfl rfl (gH (vs:=[_,_,_,_]) 4 rfl rfl (kB uF aP 0 4 U U (show _=[aa (f2:Int),aa t2,aa df,.bool g2]from rfl)) rfl am) ?_;refine J [0,448] ?_;intro ds;apply J [22,357,2,37,429,58,0];apply a7 (IT aB af top Z u k V de t2 cR.2.1 cc X.A co);intro dl cr;apply J [18];obtain⟨bl,rfl⟩:=cr;have bV:=H.un N a4 cd aP bl;dsimp only at bV⊢;refine J [63] ?_;exact⟨rfl,(W+1,⟨Z.A.bare (bF k) t2 bl,Z.L,Z.last⟩),⟨by dsimp only;omega,bV⟩,cK,bI,ai⟩;refine Wr 4 rfl hq (λC=>?_);obtain⟨a4,cl,cB⟩:=C;obtain rfl:W=n:=U
 obtain⟨dc,P⟩:∃dc,dc=max X.A.np 128:=⟨_,rfl⟩;obtain⟨a5,a9⟩:=H.fail a8 P;have dH:=H.bt;have dE:=H.cf.q.2.1;have ba:128<=dc/\(Z.A.bt<=dc/\Z.A.now<=dc)/\dc<=1000000:=U
 apply J [75,140,166];exact br (cq,⟨{Z.A with np:=dc},Z.L,Z.last⟩) ⟨a5,a9,λ_=>Nat.le_of_eq P⟩ (eI 4 rfl (OR ba.1 ba.2.1 ba.2.2) ai);obtain rfl:cq=0:=Vh he;obtain⟨Q,bJ,_⟩:=w6 bZ rfl;dsimp only at bJ;subst bJ;have cU:=(jO (r:=hy&&&ef) aw cg).2;have cx:=w.lay N a3 c5.2 hm cU (by rw[ci,bn,(k9 aw).1]) Q;refine J [111] ?_;exact⟨rfl,(n+1,⟨Y.A.lay (bF k) t1 (dO a2 (hy&&&ef)) Q,Y.L,Y.last⟩),⟨by dsimp only;omega,cx⟩,cK,bI,ai⟩;refine Wr 4 rfl hq (λC=>?_);obtain⟨a3,ck,cA⟩:=C;obtain rfl:n=l.length:=U
 have cJ:Y.last+(l.length:Int)<=Y.A.np:=(by have ag:=w.dg;have E:=a8.dg;have O:=w.np rfl;omega);apply J [75,267,429,271];apply eL (Uw aB af top X Y aR u h ao ar k V ay l (2*l.length) w N cJ ad cap l.length rfl) ⟨cv.aY,bi.rd (ad:=ad)⟩;intro Z ⟨a5,a9⟩;apply J [15,118];exact br (0,Z) ⟨a5,a9.mono U,λh=>absurd rfl h⟩ ai;refine e rfl ?_;apply aq (ra aB af top X k V ay);refine J [14,216] ?_;intro cp;apply J [116,39];refine Vf rfl (λb7=>?_) (λb7=>absurd (ay) b7);apply J [125];exact br ((b3 X.A.l k 2).2,X) (bj _) ai;refine e rfl ?_;apply aq (ra aB af top X h ao ar);refine J [5,216] ?_;intro bb;apply J [116,39];refine Vf rfl (λb0=>?_) (λb0=>absurd (ar) b0);apply J [125];exact br ((b3 X.A.l h 2).2,X) (bj _) ai
structure iJ where
  b:Nat
  o:Nat
  r:Nat
  f:Nat
  g:Bool
def Fm(i:iJ):List Value:=[.int .i64 i.b,.int .i64 i.o,.int .i64 i.r,.int .i64 i.f,.bool i.g]
theorem wR(i:iJ):(Fm i).length=5:=rfl
def fm(l:List iJ):List Value:=l.flatMap Fm
theorem uv(l:List iJ):(fm l).length=l.length*5:=kC wR l
theorem OV(l k:List iJ):fm l++fm k=fm (l++k):=by simp[fm]
def qh(i:iJ):Prop:=i.b<256/\i.o<16/\i.r<16/\i.f<256
def nV(b o:Nat):Prop:=o<=7/\b %2^o=0
instance (b o:Nat):Decidable (nV b o):=inferInstanceAs (Decidable (_/\_))
def lG(i:iJ):Prop:=nV i.b i.o/\1<=i.r
instance (i:iJ):Decidable (lG i):=inferInstanceAs (Decidable (_/\_))
def OU:iJ:=⟨0,0,0,0,false⟩
theorem s5{a b:Nat}(d:a<4294967296)(u:b<4294967296):a|||b<4294967296:=Nat.or_lt_two_pow (n:=32) d u
theorem Iy(b o:Nat)(u:b<256)(D:o<1000):bn 302 [aa b,aa o] ba [] (.bool (decide (nV b o))) []:=by
 apply aF Tryz.func302 Tryz.ntmps302;intro F _;refine J [8,222,270,460,203,51,516,13,306,51] ?_;refine VL 15 rfl (c:=true) (c7 U) ?_;apply J [13,263,51];by_cases d:o<=7;refine VL 19 rfl (c:=true) (c7 U) ?_;obtain⟨w,hw⟩:∃w,w=2^o:=⟨_,rfl⟩;have H:w<=128:=by rw[hw];exact Vk (n:=2) am d
 have E:1<=w:=cm
 have hand:b&&&(w-1)=b %w:=b2
 have C:b %w<=b:=Nat.mod_le _ _;apply J [13,13];refine db rfl rfl rfl (nF (a:=1) (n:=o) (c:=w) rfl rfl U (by rw[hw,Nat.one_mul]) U) ?_;refine db rfl rfl rfl (bE.to (v:=((w-1:Nat):Int)) (oo rfl rfl U U) U) ?_;refine db rfl rfl rfl (rn (a:=b) (b:=w-1) (c:=b %w) rfl rfl U U hand) ?_;apply J [160,131];exact YE () [_] ⟨rfl,trivial⟩ (congrArg Ww (decide_eq_decide.2 (by rw[nV,<-hw];omega))) trivial ai;refine VL 19 rfl (c:=false) (dn U) ?_;apply J [45,48,98];exact YE () [_] ⟨rfl,trivial⟩ (congrArg Ww (show false=_ from(dn (λh=>d h.1)).symm)) trivial ai
theorem x9(b o r f:Nat)(g:Bool)(ao:b<256)(aL:o<16)(hr:r<16)(ay:f<256):bH 255 [.agg #[aa b,aa o,aa r,aa f,.bool g]] ba [] (λy:Nat=>.tuple #[bk y,.bool (decide (lG ⟨b,o,r,f,g⟩))]) (λy=>y<4294967296) (λ_=>[]):=by
 apply aF Tryz.func255 Tryz.ntmps255;intro F _;refine J [186,611] ?_;intro bb;apply J [77,105,71,58,0];apply aq (Iy b o ao U);apply J [5];by_cases d:nV b o;rw[c7 d];apply J [89,19,225,386,40];by_cases aP:r=0;refine VL 16 rfl (c:=true) (c7 U) ?_;apply J [52,51,52,51,52,134,184,74];rw[show decide (lG ⟨b,o,r,f,g⟩)=false from dn (λh=>absurd h.2 cK)];exact cT 0 (Vp rfl) ai;refine VL 16 rfl (c:=false) (dn U) ?_;apply J [225,159,40];refine VL 21 rfl (c:=false) (dn U) ?_;apply J [295,165,386,40];refine VL 26 rfl (c:=false) (dn U) ?_;apply J [295,165,306,103];refine Vf rfl (λE=>absurd E (U)) (λE=>?_);obtain⟨v1,bN⟩:=eJ (o*2^8);obtain⟨v2,ar⟩:=eJ (r*2^12);obtain⟨v3,au⟩:=eJ (f*2^24);have D:v1<4294967296/\v2<4294967296/\v3<4294967296:=U
 have V:=s5 (a:=b) (b:=v1) U D.1;obtain⟨w,H⟩:=eJ (b|||v1);rw[H]at V;have W:=s5 (a:=w) (b:=v2) V D.2.1;obtain⟨C,N⟩:=eJ (w|||v2);rw[N]at W;have Z:=s5 (a:=C) (b:=v3) W D.2.2;obtain⟨u,O⟩:=eJ (C|||v3);rw[O]at Z;have aw:=s5 (a:=u) (b:=65536) Z am;obtain⟨ag,P⟩:=eJ (u|||65536);rw[P]at aw;apply J [4,71,58];refine q rfl rfl (nF (a:=o) (n:=8) (c:=v1) rfl rfl am bN U) ?_;refine q rfl rfl (s6 (a:=b) (b:=v1) (c:=w) rfl rfl U U H) ?_;apply J [55];refine q rfl rfl (nF (a:=r) (n:=12) (c:=v2) rfl rfl am ar U) ?_;refine q rfl rfl (s6 (a:=w) (b:=v2) (c:=C) rfl rfl U U N) ?_;apply J [220];refine q rfl rfl (nF (a:=f) (n:=24) (c:=v3) rfl rfl am au U) ?_;refine q rfl rfl (s6 (a:=C) (b:=v3) (c:=u) rfl rfl U U O) ?_;apply J [31,24,214,2];cases g;refine J [204,27,307,77,70] ?_;rw[show decide (lG ⟨b,o,r,f,false⟩)=true from c7 ⟨d,by dsimp only;omega⟩];exact cT u (by assumption) ai;apply J [12,200];refine q rfl rfl (s6 (a:=u) (b:=65536) (c:=ag) rfl rfl U U P) ?_;refine J [64,307,77,70] ?_;rw[show decide (lG ⟨b,o,r,f,true⟩)=true from c7 ⟨d,by dsimp only;omega⟩];exact cT ag (by assumption) ai;rw[dn d];apply J [89,19,52,51,52,51,52,51,52,134,184,74];rw[show decide (lG ⟨b,o,r,f,g⟩)=false from dn (λh=>d h.1)];exact cT 0 (Vp rfl) ai
theorem Cj(b o:Nat)(d:b<256)(u:o<1000):bn 316 [.agg #[aa b,aa o]] ba [] (.bool (decide (nV b o))) []:=by apply aF Tryz.func316 Tryz.ntmps316;intro F _;refine J [186,242] ?_;intro bD;apply J [38,71,58,0];apply aq (Iy b o d u);apply J [5,70];exact dh
theorem Iz(x:Nat)(D:x<2^64):bH 203 [bk x] ba [] (λy:iJ×Bool=>.tuple #[.agg #[aa y.1.b,aa y.1.o,aa y.1.r,aa y.1.f,.bool y.1.g],.bool y.2]) (λy=>qh y.1/\(y.2=true->lG y.1)) (λ_=>[]):=by
 apply aF Tryz.func203 Tryz.ntmps203;intro F _;apply J [8];obtain⟨cI,V⟩:=eJ (x&&&255);obtain⟨E,d2⟩:=eJ (x/256);obtain⟨d,W⟩:=eJ (E&&&15);obtain⟨H,d3⟩:=eJ (x/4096);obtain⟨u,Z⟩:=eJ (H&&&15);obtain⟨N,d4⟩:=eJ (x/65536);obtain⟨C,ag⟩:=eJ (N&&&1);obtain⟨O,d5⟩:=eJ (x/16777216);obtain⟨w,ao⟩:=eJ (O&&&255);have aq:cI<=255:=by grind[WT]
 have ar:d<=15:=by grind[WT]
 have au:u<=15:=by grind[WT]
 have ay:w<=255:=by grind[WT]
 have f2:E<=x:=U
 have f3:H<=x:=U
 have f4:N<=x:=U
 have f5:O<=x:=U
 refine J [25,379] ?_;intro cp;apply J [38,27];refine q rfl rfl (k2 (a:=x) (b:=255) (c:=cI) rfl rfl U am V) ?_;refine J [308,3] ?_;refine q rfl rfl (jS (a:=x) (n:=8) (c:=E) rfl rfl D d2) ?_;refine q rfl rfl (k2 (a:=E) (b:=15) (c:=d) rfl rfl U am W) ?_;refine J [308,3] ?_;refine q rfl rfl (jS (a:=x) (n:=12) (c:=H) rfl rfl D d3) ?_;refine q rfl rfl (k2 (a:=H) (b:=15) (c:=u) rfl rfl U am Z) ?_;refine J [308,3] ?_;refine q rfl rfl (jS (a:=x) (n:=16) (c:=N) rfl rfl D d4) ?_;refine q rfl rfl (k2 (a:=N) (b:=1) (c:=C) rfl rfl U am ag) ?_;apply J [297,3];refine q rfl rfl (jS (a:=x) (n:=24) (c:=O) rfl rfl D d5) ?_;refine q rfl rfl (k2 (a:=O) (b:=255) (c:=w) rfl rfl U am ao) ?_;refine J [308] ?_;refine q rfl rfl (eh (cs:=[aa cI,aa d,aa u,aa w,.bool (decide ((C:Int)=1))]) aV) ?_;refine J [0,379] ?_;intro aw;apply J [22,310,30,24,395,0];apply a7 (x9 cI d u w (decide ((C:Int)=1)) U U U U);intro aW aP;apply J [6];by_cases P:lG ⟨cI,d,u,w,decide ((C:Int)=1)⟩;rw[c7 P];apply J [312,184,62,89,19,13,13,240,103];apply Vf rfl<;>intro aL;apply J [24,612,22,310,38,74];exact I7;apply J [4,24,395,22,310,70];exact YE (⟨cI,d,u,w,decide ((C:Int)=1)⟩,true) [_,_] ⟨(e5 (n:=5) rfl rfl rfl rfl),rfl,trivial⟩ rfl ⟨⟨by dsimp only;omega,by dsimp only;omega,by dsimp only;omega,by dsimp only;omega⟩,λ_=>P⟩ ai;rw[dn P];apply J [312,184,62,89,19,52,134,612,22,310,38,74];exact I7
end Go.Proofs.Q
