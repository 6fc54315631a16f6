/- Proved here: contracts, each under its own premises. -/
import Derived.Test.YtglgidjhoncphaaGreatDoorGd
set_option linter.all false
set_option maxRecDepth 4000
set_option maxHeartbeats 4000000
open List renaming length_append->mp,getElem?_eq_getElem->Ve,mem_singleton->Vf,mem_append->Vg,mem_of_getElem?->Vi,length_singleton->Vn,getElem?_eq_some_iff->Vo,mem_map->Vq,take_add_one->Vv,replicate->Vw,nodup_cons->Vy,length_cons->VC,flatMap_cons->VD,nodup_append->VI,take_of_length_le->VU,take_length->V0,getElem?_set_self->V1,length_set->V8,mem_flatMap->Wc,perm_append_singleton->We,getElem?_set_ne->Wo,length_nil->W3,length->W4,find?_eq_none->W9,length_replicate->Xd,length_reverse->Xg,flatMap_append->Xh,getElem?_eq_none->Xn,ext_getElem?->XM,map_map->X3,dropLast_concat_getLast->Yp,length_eq_zero_iff->YR,mem_cons->Vt,mem_filter->VE,range->VF,append_assoc->VJ,append_nil->Wa,map_append->Wu,length_take->Ww,take_zero->WR,mem_range->Xs,getElem_of_mem->XQ
open Nat renaming pow_le_pow_right->Vk,zero_le->Vl,le_refl->Vm,le_of_ble_eq_true->Vr,le_trans->WC,le_add_right->Vx,and_le_right->WX,lt_succ_iff_lt_or_eq->XF
open Go.Value renaming oneCell'->VP,slice->VX,int->Wl,bool->Wz
open Int renaming toNat_of_nonneg->Wf,le_refl->WH
open Decidable renaming by_contra->Wi,of_not_not->Vj,byContradiction->WN
open Option.some renaming inj->Wn
open Option renaming map_some->WD
open Ne renaming symm->Xw
open List.Pairwise renaming nil->Yx
open Go.Proofs.Tryz renaming prog->VS
open BitVec renaming ofInt->VY
open Go.QM.ab renaming az->Vh,loop->VQ,bk->WI
open Go.QM.aY renaming known->VM
open Go.QM.aE renaming refl->VZ
open Go.QM.dS renaming int->Yl
namespace Go.Proofs.Q.b2
open Go Go.QM
def rx(L:List Fn)(id:Int):Option Fn:=L.find? λt=>decide (t.id=id)
theorem wA{S:List Fn}(h:jU S){t:Fn}(d:t∈S):rx S t.id=some t:=by rw[rx];cases aA:S.find? λu=>decide (u.id=t.id)with|none=>rw[W9]at aA;exact absurd (da rfl) (aA t d)|some u=>have w:=List.find?_some aA;have C:=List.mem_of_find?_eq_some aA;rw[h.inj C d (by simpa using w)]
theorem En{S:List Fn}{id:Int}(h:¬fV S id):rx S id=none:=by rw[rx,W9];intro u hu;simp only[decide_eq_true_eq];exact λe=>h ⟨u,hu,e⟩
def pR(L:List Fn)(id:Int):Int×Int×Bool:=match rx L id with
  | some t=>(t.dH,t.ci,true)
  | none=>(0,0,false)
theorem Fq{S:List Fn}{last:Int}(h:cM S last){x:Int}(u:last<x):c6 S x=[]:=by rw[c6,List.filter_eq_nil_iff.2];trivial;intro t d;have:=h.rg t d;grind
theorem ED{S:List Fn}{last:Int}(h:cM S last){x:Int}(u:last<x):¬fV S x:=λd=>by have:=zT h d;omega
variable(b:Nat)
theorem Ng(aF bv:Nat)(F:av):aE (ag [aj b 223 [.map (some aF),.map (some bv),aa 0],bT mX bv (λ_=>none) 0,bT QM.encI aF (λ_=>none) 0,F]) (ag [hP b [] 0,F]):=by
 have aA:iE (λ_=>0) []=λ_=>none:=by trivial
 have d:ka []=λ_=>none:=by trivial
 refine(mS (f:=ir (λ_=>0) (λ_=>none) (λ_=>0) []) _).trans ?_;refine(mS (f:=iq (λ_=>none) (λ_=>0) []) _).trans ?_;refine ay (λ_=>0:Int->Nat) trivial ?_;refine ay (⟨λ_=>none,λ_=>0,aF,bv⟩:Cx) cM.nil ?_;exact bM 2 rfl (b9 3 rfl (by rw[aA];rfl) (b9 2 rfl (by rw[d];rfl) (bN (ao (ao (a6 _))))))
theorem Nh:bK 134 [] be [] (λb:Nat=>ae b) (λ_=>True) (λb=>[hP b [] 0]):=by apply aH Tryz.func134 Tryz.ntmps134;intro F _;refine J [8,170,26,326] ?_;intro ba;refine e rfl ?_;refine xg mX ?_;intro bC;refine q rfl rfl (ek (cs:=[.map _,.map _,.int _ _]) rfl) ?_;refine e rfl ?_;refine e0 (v:=.agg #[_,_,_]) (l:=[.map _,.map _,.int _ _]) rfl rfl ?_;intro ch;apply J [110];exact bu ch trivial (Ng ch ba bC F)
theorem py(aF bv n:Nat)(last:Int)(f:Int->Option Value)(id:Int):bt 118 [ae b,aa id] be [aj b 223 (zU aF bv last),bT QM.encI aF f n] ((f id).getD (.pointer none)) [aj b 223 (zU aF bv last),bT QM.encI aF f n]:=by apply aH Tryz.func118 Tryz.ntmps118;intro F _;apply J [13,24,153,29,129,156,100,129,53,300];refine q rfl rfl (kh 3 216 rfl rfl (Yl rfl) rfl rfl) ?_;apply J [153,260];exact eZ (ao (ao (ao (a6 _))))
theorem wy(L:List Fn)(last:Int)(u d:Int):bt 71 [ae b,aa u,aa d] be [hP b L last] (aa (hl L (u,d))) [hP b L last]:=by apply aH Tryz.func71 Tryz.ntmps71;intro F _;apply J [1];refine ab.open 0 rfl (λA _=>?_);apply J [1];refine ab.open 0 rfl (λC w=>?_);obtain⟨ad,cap,aF,bv⟩:=C;have aw:=w;apply J [161];dsimp only at aw⊢;apply J [36,42,64,120,538];refine q rfl rfl (kh (a:=(_,_)) 78 3 rfl rfl (dS.pair a1) rfl rfl) ?_;rw[zA];apply J [30];exact I3
theorem Ni(L:List Fn)(last:Int)(id:Int):bt 69 [ae b,aa id] be [hP b L last] (.tuple #[aa (pR L id).1,aa (pR L id).2.1,.bool (pR L id).2.2]) [hP b L last]:=by
 apply aH Tryz.func69 Tryz.ntmps69;intro F _;apply J [1];refine ab.open 0 rfl (λA _=>?_);apply J [1];refine ab.open 0 rfl (λC w=>?_);obtain⟨ad,cap,aF,bv⟩:=C;have aw:=w;apply J [161];dsimp only at aw⊢;by_cases d:fV L id;have aA:=px (A:=A) d;obtain⟨t,u,rfl⟩:=d;obtain⟨M,bO⟩:=fB u;have hv:pR L t.id=(t.dH,t.ci,true):=by rw[pR,wA aw.bA u]
 rw[hv];apply J [385,24,73,184,32];refine aK (py b aF bv L.length last (iE A L) t.id) rfl (ed 2 rfl (ed 2 rfl (eC _))) trivial ?_;intro _ _;apply J [16];rw[aA];apply J [57,101,122,539,172,350,143,365,365,269,147];exact b7.i () [_,_,_] ⟨rfl,rfl,rfl,trivial⟩ rfl trivial (ay A trivial (ay ⟨ad,cap,aF,bv⟩ aw (ao (ao (bw (cX 0 0 t rfl rfl rfl (λ_ _=>rfl) bO.symm (ao (ao (a6 _)))))))));have aA:=qy (A:=A) d;have hv:pR L id=(0,0,false):=by grind[pR,En]
 rw[hv];apply J [24,73,184,32];refine aK (py b aF bv L.length last (iE A L) id) rfl (ed 0 rfl (ed 0 rfl (eC _))) trivial ?_;intro _ _;apply J [14];rw[aA];apply J [57,101,2,58,73,184,76];exact b7.i () [_,_,_] ⟨rfl,rfl,rfl,trivial⟩ rfl trivial (ay A trivial (ay ⟨ad,cap,aF,bv⟩ aw (ao (ao (ao (ao (ao (ao (a6 _)))))))))
theorem ww(L:List Fn)(last:Int)(par w d:Int)(bj:last<=1000000):bt 139 [ae b,aa par,aa w,aa d] be [hP b L last] (.tuple #[aa (gT L last par (w,d)).2.2.1,aa (gT L last par (w,d)).2.2.2]) [hP b (gT L last par (w,d)).1 (gT L last par (w,d)).2.1]:=by
 apply aH Tryz.func139 Tryz.ntmps139;intro F _;apply J [1];refine ab.open 0 rfl (λA _=>?_);apply J [1];refine ab.open 0 rfl (λa9 a8=>?_);obtain⟨ad,cap,aF,bv⟩:=a9;have aw:=a8;apply J [161];dsimp only at aw⊢;have bp:=aw.len;by_cases E:fV L par;·have aA:=px (A:=A) E;refine J [240,32,604] ?_;intro _ _;apply J [14];rw[aA];refine J [120,538,0,540] ?_;intro bb;apply J [166,23,480,29,75,101,191,254];refine VM 24 rfl (c:=false) rfl ?_;apply J [49,151,191,6];refine cD [0,1,2,3,4,5,6,7] (VZ _) ?_;refine J [137,374,605] ?_;rw[zA];apply J [481,269];apply Vh rfl<;>intro Q;(have hv:gT L last par (w,d)=(L,last,0,7):=by rw[gT,al (λh=>h.1 E),ax Q]);rw[hv];dsimp only;apply J [180];exact Ck;(have hv:gT L last par (w,d)=(L++[⟨last+1,par,w,d⟩],last+1,last+1,0):=by rw[gT,al (λh=>h.1 E),al Q]);rw[hv];dsimp only;(have eF:¬kB L (w,d):=by grind[EB]);have ar:=wt eF;have av:=ED aw (x:=last+1) U;have aq:=qy (A:=A) av;have a4:=Fq aw (x:=last+1) U;(have O:(L++[(⟨last+1,par,w,d⟩:Fn)]).length=L.length+1:=by simp_all);have bl:=zT aw E;have Z:=aw.add (t:=⟨last+1,par,w,d⟩) rfl cB eF;obtain⟨t,a5,rfl⟩:=E;obtain⟨M,bO⟩:=fB a5;have a3:=aw.bA.perm bO.symm;have bi:=uv L t.id;have bf:=ec (c6 L t.id);(have a0:c6 (L++[⟨last+1,t.id,w,d⟩]) t.id=c6 L t.id++[last+1]:=by grind[uu,Fo]);(have au:∀x,t.id≠x->c6 (L++[⟨last+1,t.id,w,d⟩]) x=c6 L x:=by grind[uu,Al]);have aW:∀u∈M,t.id≠u.id/\u.id≠last+1:=λu hu=>⟨λaQ=>(Vy.1 a3).1 (Vq.2 ⟨u,hu,aQ.symm⟩),λaQ=>by have:=aw.rg u (bO.mem_iff.2 (by simp[hu]));omega⟩;refine WI (fN 4 rfl bO) ?_;refine WI (fN 6 rfl bO) ?_;refine J [22,97,154,80,291,203,29] ?_;refine cD [0,1,2,3,4,5,6,7,8,9,10,-11,-12] (ao (eK (a6 _))) ?_;refine J [50,185,374,11,541,15,482] ?_;intro aB;refine J [9,230] ?_;refine lX 3 216 rfl (Yl rfl) rfl rfl rfl ?_;refine J [113,6] ?_;refine cD [0,1,2,3,4,5,6,7,8,-9] (bw (bM 6 rfl (a6 _))) ?_;refine J [137,374,185,230,606,113,6,336,2,20] ?_;refine ab.draw _ [13] [0,1,2,3,4,5,6,7,8,-9,-10,11,12,-13] a1 a1 (cO (eG (a6 _))) ?_;refine J [77,272,185,15,152] ?_;intro bd;refine J [45] ?_;refine ap 8 rfl rfl rfl rfl rfl (Vr rfl) (show _=ints [last+1]from rfl) rfl U gq ?_;intro V W;refine J [9,89,433,91,368,74,97,96] ?_;(have P:t.id≠last+1:=by omega);(have N:c6 (L++[(⟨last+1,t.id,w,d⟩:Fn)]) (last+1)=[]:=by simp_all);have H:(t::(⟨last+1,t.id,w,d⟩:Fn)::M).Perm (L++[(⟨last+1,t.id,w,d⟩:Fn)]):=(List.Perm.swap _ _ _).trans ((bO.symm.cons _).trans (We _ _).symm);have an:∀u∈M,ir A ad cap L u=ir (aP A (last+1) aB) (aP (aP ad t.id V) (last+1) none) (aP (aP cap t.id W) (last+1) 0) (L++[(⟨last+1,t.id,w,d⟩:Fn)]) u:=λu hu=>(by obtain⟨C,D⟩:=aW u hu;dsimp only[ir];rw[bQ D,bQ D,bQ D,bQ (Xw C),bQ (Xw C),au _ C]);have ah:∀u∈M,iq ad cap L u=iq (aP (aP ad t.id V) (last+1) none) (aP (aP cap t.id W) (last+1) 0) (L++[(⟨last+1,t.id,w,d⟩:Fn)]) u:=λu hu=>(by obtain⟨C,D⟩:=aW u hu;dsimp only[iq];rw[bQ D,bQ D,bQ (Xw C),bQ (Xw C),au _ C]);exact hI ((dG 3 1 _).trans (ay (aP A (last+1) aB) trivial (ay ⟨aP (aP ad t.id V) (last+1) none,aP (aP cap t.id W) (last+1) 0,aF,bv⟩ Z (bM 7 rfl (b9 5 rfl (by dsimp only;rw[D6 (t:=(⟨last+1,t.id,w,d⟩:Fn)),aq,O];rfl) (b9 4 rfl (by dsimp only;rw[D9 (t:=(⟨last+1,t.id,w,d⟩:Fn)) eF,ar,O];rfl) (t7 1 3 4 t (⟨last+1,t.id,w,d⟩:Fn) rfl rfl rfl (by dsimp only[ir];rw[bQ P,bQ P,bQ P,cm,cm,a0,mp];rfl) (by dsimp only[ir];rw[cm,cm,cm,N];rfl) an H (t7 1 0 1 t (⟨last+1,t.id,w,d⟩:Fn) rfl rfl rfl (by dsimp only[iq];rw[bQ P,bQ P,cm,cm,a0,mp,Vn,pF]) (by dsimp only[iq];rw[cm,cm,N];rfl) ah H (bw (a6 _))))))))))
 have aA:=qy (A:=A) E;refine J [240,32,604] ?_;intro _ _;apply J [14];rw[aA];refine J [120,538,0,540] ?_;intro bc;apply J [166,23,480,29,75,101,191,254];refine VM 24 rfl (c:=true) rfl ?_;apply J [12,218,169];apply Vh rfl<;>intro a2;have hv:gT L last par (w,d)=(L,last,0,6):=ax ⟨E,a2⟩;rw[hv];dsimp only;apply J [180];exact Ck;obtain rfl:par=0:=U
 refine ab.seq ?_;refine cD [0,1,2,3,4,5,6,7] (VZ _) ?_;refine J [137,374,605] ?_;rw[zA];apply J [481,269];apply Vh rfl<;>intro Q;have hv:gT L last 0 (w,d)=(L,last,0,7):=by rw[gT,al (λh=>h.2 rfl),ax Q]
 rw[hv];dsimp only;apply J [180];exact Ck;have hv:gT L last 0 (w,d)=(L++[⟨last+1,0,w,d⟩],last+1,last+1,0):=by rw[gT,al (λh=>h.2 rfl),al Q]
 rw[hv];dsimp only;have eF:¬kB L (w,d):=by grind[EB]
 have ar:=wt eF;have av:=ED aw (x:=last+1) U;have aq:=qy (A:=A) av;have a4:=Fq aw (x:=last+1) U;have O:(L++[(⟨last+1,0,w,d⟩:Fn)]).length=L.length+1:=b4
 have Z:=aw.add (t:=(⟨last+1,0,w,d⟩:Fn)) rfl cB eF;have au:∀x,1<=x->c6 (L++[(⟨last+1,0,w,d⟩:Fn)]) x=c6 L x:=by grind[uu,Al]
 refine J [22,97,154,80,291,203,29] ?_;refine cD [0,1,2,3,4,5,6,7,8,9,10,-11,-12] (ao (ao (a6 _))) ?_;refine J [50,185,374,11,541,15,482] ?_;intro aL;refine J [9,230] ?_;refine lX 3 216 rfl (Yl rfl) rfl rfl rfl ?_;refine J [113,6] ?_;refine cD [0,1,2,3,4,5,6,7,8,-9] (bw (bw (a6 _))) ?_;refine J [137,374,185,230,606,113,6,336,100,97,96] ?_;have N:c6 (L++[(⟨last+1,0,w,d⟩:Fn)]) (last+1)=[]:=cr
 have an:∀u∈L,ir A ad cap L u=ir (aP A (last+1) aL) (aP ad (last+1) none) (aP cap (last+1) 0) (L++[(⟨last+1,0,w,d⟩:Fn)]) u:=λu hu=>(by have C:=aw.rg u hu;(have D:u.id≠last+1:=by omega);dsimp only[ir];grind[bQ]);have ah:∀u∈L,iq ad cap L u=iq (aP ad (last+1) none) (aP cap (last+1) 0) (L++[(⟨last+1,0,w,d⟩:Fn)]) u:=λu hu=>(by have C:=aw.rg u hu;(have D:u.id≠last+1:=by omega);dsimp only[iq];grind[bQ]);have H:((⟨last+1,0,w,d⟩:Fn)::L).Perm (L++[(⟨last+1,0,w,d⟩:Fn)]):=(We _ _).symm;exact hI ((dG 3 1 _).trans (ay (aP A (last+1) aL) trivial (ay ⟨aP ad (last+1) none,aP cap (last+1) 0,aF,bv⟩ Z (eK (b9 2 rfl (by dsimp only;rw[D6 (t:=(⟨last+1,0,w,d⟩:Fn)),aq,O];rfl) (b9 1 rfl (by dsimp only;rw[D9 (t:=(⟨last+1,0,w,d⟩:Fn)) eF,ar,O];rfl) (cX 1 2 (⟨last+1,0,w,d⟩:Fn) rfl rfl (by dsimp only[ir];rw[cm,cm,cm,N];rfl) an H (cX 0 1 (⟨last+1,0,w,d⟩:Fn) rfl rfl (by dsimp only[iq];rw[cm,cm,N];rfl) ah H (bN (a6 _))))))))))
end Go.Proofs.Q.b2
namespace Go.Proofs.Q.b2
open Go Go.QM
theorem zH{α β:Type}{f g:α->List β}:∀{l:List α},(∀a∈l,f a=g a)->l.flatMap f=l.flatMap g
 | [],_=>rfl
 | a::l,h=>by rw[VD,VD,h a cG,zH λb d=>h b (by simp[d])]
def nU:Nat->List Fn->Int->List Int
  | 0,_,_=>[]
  | n+1,L,p=>(c6 L p).flatMap λk=>nU n L k++[k]
def jW(L:List Fn)(last p:Int):List Int:=nU (last-p).toNat L p
def jw(L:List Fn)(last p:Int):List Int:=jW L last p++[p]
def hL(L:List Fn)(last p:Int):List Int:=if fV L p then jW L last p else[]
variable{L:List Fn}{last:Int}
theorem pI(h:cM L last){p k:Int}(d:k∈c6 L p):p<k/\k<=last/\1<=k:=by obtain⟨_,t,u,w,rfl⟩:=pH.1 d;have:=h.rg t u;omega
theorem uw(h:cM L last){p:Int}(u:last<=p):c6 L p=[]:=by rw[List.eq_nil_iff_forall_not_mem];intro k d;have:=pI h d;omega
theorem C7{L:List Fn}{last:Int}(h:cM L last):∀(n m:Nat) (p:Int),(last-p).toNat<=n->(last-p).toNat<=m->nU n L p=nU m L p
 | 0,0,_,_,_=>rfl
 | 0,m+1,p,d,_=>by rw[nU,nU,uw h U];rfl
 | n+1,0,p,_,u=>by rw[nU,nU,uw h U];rfl
 | n+1,m+1,p,d,u=>by rw[nU,nU];refine zH λk w=>?_;have:=pI h w;rw[C7 h n m k U U]
theorem sx(h:cM L last)(p:Int):jW L last p=(c6 L p).flatMap (jw L last):=by rw[jW];cases an:(last-p).toNat with|zero=>rw[uw h U];rfl|succ n=>rw[nU];refine zH λk d=>?_;have:=pI h d;rw[jw,jW,C7 h n _ k U (Vm _)]
inductive ov(L:List Fn)(k:Int):Int->Prop
  | refl:ov L k k
  | step {t:Fn}:t∈L->ov L k t.par->ov L k t.id
variable{x:Int}
theorem ov.le(h:cM L last){k:Int}(a:ov L k x):k<=x:=by induction a with|refl=>omega|step d _ u=>have:=h.rg _ d;omega
theorem J7{L:List Fn}(h:jU L){bS u:Int}(a:ov L bS x)(b:ov L u x):bS=u\/(∃t∈L,t.id=bS/\ov L u t.par)\/∃t∈L,t.id=u/\ov L bS t.par:=by induction a with|refl=>(cases b with|refl=>exact .inl rfl|step d w=>exact .inr (.inl ⟨_,d,rfl,w⟩))|step d E D=>rename_i t;generalize C:t.id=x at b;(cases b with|refl=>exact .inr (.inr ⟨t,d,C,E⟩)|step hu w=>rw[h.inj d hu C]at D;exact D w)
theorem Bl(h:cM L last):∀(n:Nat) (p:Int),(last-p).toNat<=n->∀x,x∈jw L last p->ov L p x:=by intro n;induction n with|zero=>intro p D x d;rw[jw,sx h,uw h U]at d;simp at d;rw[d];exact .refl|succ n H=>intro p D x d;rw[jw,sx h,Vg,Vf]at d;rcases d with d|d;obtain⟨k,u,w⟩:=Wc.1 d;have O:=pI h u;have:=H k U x w;obtain⟨_,t,E,C,rfl⟩:=pH.1 u;clear d w;(induction this with|refl=>exact .step E (by rw[C];exact .refl)|step hu _ N=>exact .step hu N);rw[d];exact .refl
theorem vW(h:cM L last){p:Int}(d:x∈jW L last p):fV L x/\p<x/\x<=last/\1<=x:=by rw[sx h]at d;obtain⟨k,C,d⟩:=Wc.1 d;have H:=pI h C;have w:=Bl h _ k (Vm _) x d;have N:=w.le h;have D:fV L x:=(by cases w with|refl=>obtain⟨_,t,u,_,E⟩:=pH.1 C;exact⟨t,u,E⟩|step u _=>exact⟨_,u,rfl⟩);have:=zT h D;grind
theorem Q9(h:cM L last):∀(n:Nat) (p:Int),(last-p).toNat<=n->(jw L last p).Nodup:=by intro n;induction n with|zero=>intro p V;rw[jw,sx h,uw h U];simp|succ n aq=>intro p V;(have O:∀x∈jW L last p,x≠p:=λx d=>by have:=(vW h d).2.1;omega);rw[jw,VI];refine⟨?_,by simp,λx d y w=>by rw[Vf.1 w];exact O x d⟩;rw[sx h,List.Nodup,List.pairwise_flatMap];refine⟨λk P=>?_,?_⟩;have:=pI h P;exact aq k U;refine(Fl h.bA p).imp_of_mem (λ{bS ar} C D Q x d y w e=>?_);subst e;have E:=Bl h _ bS (Vm _) x d;have a2:=Bl h _ ar (Vm _) x w;obtain⟨_,t1,ah,W,H⟩:=pH.1 C;obtain⟨_,t2,an,Z,N⟩:=pH.1 D;have g1:=pI h C;have g2:=pI h D;rcases J7 h.bA E a2 with e|⟨t,u,e,a⟩|⟨t,u,e,a⟩;exact Q e;rw[h.bA.inj u ah (e.trans H.symm),W]at a;have:=a.le h;omega;rw[h.bA.inj u an (e.trans N.symm),Z]at a;have:=a.le h;omega
theorem C9(h:cM L last)(p:Int):(jW L last p).Nodup:=(VI.1 (Q9 h _ p (Vm _))).1
theorem qO{l m:List Int}(h:l.Nodup)(hs:∀x∈l,x∈m):l.length<=m.length:=by induction l generalizing m with|nil=>simp|cons a l E=>obtain⟨w,C⟩:=Vy.1 h;obtain⟨s,t,rfl⟩:=List.append_of_mem (hs a cG);have:=E (m:=s++t) C (λx u=>by have d:=hs x (by simp[u]);have D:x≠a:=λe=>w (e▸u);simp at d⊢;rcases d with d|d|d;exact .inl d;exact absurd d D;exact .inr d);simp at this⊢;omega
theorem C8(h:cM L last)(p:Int):(jW L last p).length<=L.length:=by have:=qO (C9 h p) (m:=L.map (·.id)) (λx u=>by obtain⟨t,d,e⟩:=(vW h u).1;exact Vq.2 ⟨t,d,e⟩);simp_all
theorem Kq(h:cM L last)(p:Int):(hL L last p).length<=L.length:=by grind[hL,C8]
def HG(o:Int×Int):List Value:=ints [o.1,o.2]
theorem HH(o:Int×Int):(HG o).length=2:=rfl
def nG(S:List (Int×Int)):List Value:=S.flatMap HG
theorem SU(S:List (Int×Int)):(nG S).length=S.length*2:=kc HH S
theorem SV(S T:List (Int×Int)):nG S++nG T=nG (S++T):=by simp[nG]
theorem Kr(h:cM L last){p:Int}(d:x∈hL L last p):fV L x/\p<x/\x<=last/\1<=x:=by rw[hL]at d;split at d;exact vW h d;trivial
variable{id:Int}
theorem Ks(h:¬fV L id):hL L last id=[]:=al h
structure nQ(L:List Fn)(last id:Int)(W O:List Int):Prop where
  eq:W.flatMap (jw L last)++O.reverse=jw L last id
  mem:∀x∈W,fV L x
theorem nQ.start(h:fV L id):nQ L last id [id] []:=⟨by simp,by simpa using h⟩
theorem nQ.next(aw:cM L last){W O:List Int}(h:nQ L last id (W++[x]) O):nQ L last id (W++c6 L x) (O++[x]) where
 eq:=by
  have:=h.eq
  rw[Xh,VD,List.flatMap_nil,List.append_nil,jw,sx aw]at this
  rw[Xh,List.reverse_append,<-this]
  simp
 mem:=λy w=>by
  rcases Vg.1 w with d|d
  ·exact h.mem y (by simp[d])
  obtain⟨_,t,u,_,e⟩:=pH.1 d;exact⟨t,u,e⟩
theorem nQ.len(aw:cM L last){W O:List Int}(h:nQ L last id W O):W.length+O.length<=L.length+1:=by have d:=congrArg W4 h.eq;have u:=C8 aw id;have w:W.length<=(W.flatMap (jw L last)).length:=(by clear h d;induction W with|nil=>simp|cons a W C=>rw[VD,mp,VC,jw,mp,Vn];omega);grind[jw]
theorem nQ.done{O:List Int}(h:nQ L last id [] O):O.reverse=jw L last id:=by simpa using h.eq
structure nP(xs:List Int)(i:Nat)(o0:List Int):Prop where
  len:o0.length=xs.length
  at_:∀k,k<xs.length->o0[k]? =if k<i\/xs.length-i<=k then xs[xs.length-1-k]? else xs[k]?
theorem nP.start(xs:List Int):nP xs 0 xs:=⟨rfl,λk d=>by rw[al U]⟩
theorem nP.next{xs:List Int}{i:Nat}{d:List Int}(h:nP xs i d){u v:Int}(O:i+i+1<xs.length)(hu:d[i]? =some u)(hv:d[xs.length-1-i]? =some v):nP xs (i+1) ((d.set i v).set (xs.length-1-i) u) where
 len:=by rw[V8,V8];exact h.len
 at_:=λk N=>by have P:=h.len;have E:=h.at_ i U;have H:=h.at_ (xs.length-1-i) U;rw[al U]at E H;by_cases w:k=xs.length-1-i;subst w;rw[V1 AI,ax U,show xs.length-1-(xs.length-1-i)=i by omega,<-E,hu];rw[Wo (λe=>w e.symm)];by_cases C:k=i;subst C;rw[V1 U,ax U,<-H,hv];rw[Wo (λe=>C e.symm),h.at_ k N];by_cases D:k<i\/xs.length-i<=k;rw[ax D,ax U];rw[al D,al U]
theorem nP.done{xs:List Int}{i:Nat}{u:List Int}(h:nP xs i u)(w:xs.length<=i+i+1):u=xs.reverse:=by apply XM;intro k;by_cases d:k<xs.length;rw[h.at_ k d,List.getElem?_reverse d];grind;rw[Xn (by rw[h.len];omega),Xn (by rw[Xg];omega)]
end Go.Proofs.Q.b2
namespace Go.Proofs.Q.b2
open Go Go.QM
theorem RE(ad:Option Addr)(cap:Nat)(xs:List Int)(H:xs.length<=1000000000):bt 119 [.slice ad xs.length cap] be [aX 3 1 ad xs.length cap (ints xs)] (.tuple #[]) [aX 3 1 ad xs.length cap (ints xs.reverse)]:=by
 apply aH Tryz.func119 Tryz.ntmps119;intro F _;refine J [1,33,323,219,173,75] ?_;refine VQ (ι:=Nat×List Int) (λs=>nP xs s.1 s.2/\s.1<=xs.length) (λs=>[(0,.slice ad xs.length cap),(2,aa ((s.1:Nat):Int)),(3,aa ((xs.length:Int)-1-((s.1:Nat):Int)))]) (λs=>ag [aX 3 1 ad xs.length cap (ints s.2),F]) (λs=>xs.length-s.1) ⟨0,xs⟩ ⟨nP.start xs,Vl _⟩ ⟨rfl,rfl,congrArg (Wl .i64) cB,trivial⟩ (ao (ao (a6 _))) ?_;rintro⟨i,d⟩ ⟨w,C⟩ W;dsimp only[cx]at w C⊢;apply J [130,3,182];apply Vh rfl<;>intro N;·have V:=w.len;have P:=ec d;obtain⟨u,hu⟩:∃u,d[i]? =some u:=⟨d[i],Ve U⟩;obtain⟨v,hv⟩:∃v,d[xs.length-1-i]? =some v:=⟨d[xs.length-1-i],Ve U⟩;(have E:d[((xs.length:Int)-1-(i:Int)).toNat]? =some v:=by simp_all);(have Q:(ints (d.set i v)).length=d.length:=by rw[ec,V8]);(have O:0<(ints d).length:=by omega);refine J [56,607,194,194,194,608] ?_;refine bI rfl rfl rfl (dk rfl rfl (hO E)) ?_;apply J [194];refine bI rfl rfl rfl (gN 3 1 rfl rfl rfl U dQ) ?_;refine bI rfl rfl rfl (dk rfl rfl (hO hu)) ?_;refine bI rfl rfl rfl (gN 3 1 rfl rfl rfl U dQ) ?_;refine J [91,514,608,91] ?_;refine ej (v:=.int _ _) (vs:=[_]) 1 rfl rfl rfl rfl rfl rfl am U (wN (i:=xs.length-1-i) AI U _) ?_;refine J [231,345,3,219,173] ?_;exact⟨rfl,⟨i+1,(d.set i v).set (xs.length-1-i) u⟩,⟨w.next U hu hv,by dsimp only;omega⟩,cB,⟨rfl,rfl,congrArg (Wl .i64) cB,trivial⟩,(ao (ao (a6 _)))⟩
 have D:=w.done U;subst D;apply J [332];exact yk
theorem Eh(b:Nat)(L:List Fn)(last:Int)(id:Int)(bb:L.length<=1000000):bK 75 [ae b,aa id] be [hP b L last] (λy:Option Addr×Nat=>.slice y.1 (hL L last id).length y.2) (λ_=>True) (λy=>[aX 3 1 y.1 (hL L last id).length y.2 (ints (hL L last id)),hP b L last]):=by
 apply aH Tryz.func75 Tryz.ntmps75;intro F _;apply J [1,121];refine ab.scope (ι:=(List Int×(Option Addr×Nat))×(List Int×(Option Addr×Nat))) 0 (λs=>nQ L last id s.1.1 s.2.1/\fV L id) (λs=>[(0,ae b),(1,aa id),(5,.slice s.2.2.1 s.2.1.length s.2.2.2),(6,.slice s.1.2.1 s.1.1.length s.1.2.2)]) (λs=>ag [aX 3 1 s.1.2.1 s.1.1.length s.1.2.2 (ints s.1.1),aX 3 1 s.2.2.1 s.2.1.length s.2.2.2 (ints s.2.1),hP b L last,F]) (λs=>(s.1.1.flatMap (jw L last)).length) kG ?_ ?_;·rintro⟨⟨W,⟨bB,bU⟩⟩,⟨O,⟨hU,fq⟩⟩⟩ ⟨d,D⟩ bl;dsimp only[cx]at d D⊢;apply J [6,33,323,216,2];apply Vh rfl<;>intro a5;(·obtain⟨V,x,rfl⟩:∃V x,W=V++[x]:=(by(have P:W≠[]:=by grind);exact⟨W.dropLast,W.getLast P,(Yp P).symm⟩);(have aQ:(V++[x]).length=V.length+1:=by simp_all);(have a3:(V++[x])[(((V.length+1:Nat):Int)-1).toNat]? =some x:=by simp_all);have bi:=ec (V++[x]);obtain⟨t,Z,a4⟩:=d.mem x cG;subst a4;obtain⟨M,bO⟩:=fB Z;rw[aQ];refine ab.nk 0 rfl (λ_ bj a0=>?_);simp only[maxLen]at a0;(have bf:0<(ints (V++[t.id])).length:=by omega);refine J [33,86,323,219,515] ?_;refine q rfl rfl (dk rfl rfl (hO a3)) ?_;apply J [31];have H:aE (aX 3 1 bB (V.length+1) bU (ints (V++[t.id]))) (aX 3 1 bB V.length bU (ints V)):=(by have:=pV (E:=3) (sz:=1) (ad:=bB) (n:=V.length+1) (cap:=bU) (cs:=ints (V++[t.id])) (j:=V.length) U;grind[uo]);refine WI (eN 0 rfl H (ao (ao (ao (a6 _))))) ?_;refine ab.open 2 rfl (λA _=>?_);apply J [87];refine ab.open 0 rfl (λC u=>?_);obtain⟨ad,cap,aF,bv⟩:=C;have aw:=u;apply J [145];dsimp only at aw⊢;have N:=d.len aw;have aA:=px (A:=A) ⟨t,Z,rfl⟩;have a9:=uv L t.id;have a8:=ec (c6 L t.id);rw[mp,Vn]at N;apply J [385,542];refine cD [0,1,2,3,4,5,6,7,8,9,10,11,12,13,-14,15] (bw (cO (cO (a6 _)))) ?_;apply J [324,324];refine bI rfl rfl rfl (len 3 1 rfl rfl) ?_;refine J [411] ?_;refine bI rfl rfl rfl (nE 3 1 (V.length) rfl rfl rfl U U) ?_;apply J [50,11,543];rw[aA];refine J [89,353,15,609] ?_;intro ah aq;refine J [9,327,74,33,68] ?_;intro ba;refine J [0,544] ?_;intro an ar;apply J [202];refine ab.goto (gt (OX ?_));exact⟨rfl,⟨⟨V++c6 L t.id,(ah,aq)⟩,⟨O++[t.id],(an,ar)⟩⟩,⟨d.next aw,D⟩,(by have av:=congrArg W4 d.eq;have aB:=congrArg W4 (d.next aw).eq;simp only[mp,Xg,Vn]at av aB⊢;omega),⟨rfl,rfl,congrArg (λn=>VX _ n _) sU,congrArg (λn=>VX _ n _) uC,trivial⟩,(b9 2 rfl (by dsimp only;rw[pF,mp]) (b9 0 rfl (by dsimp only;rw[pF,mp];rfl) (ay A trivial (ay ⟨ad,cap,aF,bv⟩ aw (eG (eG (eG (cX 3 3 t rfl rfl rfl (λ_ _=>rfl) bO.symm (cX 1 1 t rfl rfl rfl (λ_ _=>rfl) bO.symm (bN (a6 _)))))))))))⟩);obtain rfl:W=[]:=YR.1 U;have Q:=d.done;have aL:O.length=(jW L last id).length+1:=(by have:=congrArg W4 Q;grind[jw]);have aW:hL L last id=jW L last id:=ax D;(have bd:(jw L last id).length=(jW L last id).length+1:=by grind);rw[aW];refine ab.open 2 rfl (λA _=>?_);apply J [87];refine ab.open 0 rfl (λC u=>?_);obtain⟨ad,cap,aF,bv⟩:=C;have aw:=u;apply J [145];dsimp only at aw⊢;have N:=d.len aw;rw[W3]at N;apply J [4,33,0];apply au (RE hU fq O U);apply J [78];rw[Q,aL];have H:aE (aX 3 1 hU ((jW L last id).length+1) fq (ints (jw L last id))) (aX 3 1 hU (jW L last id).length fq (ints (jW L last id))):=(by have:=pV (E:=3) (sz:=1) (ad:=hU) (n:=(jW L last id).length+1) (cap:=fq) (cs:=ints (jw L last id)) (j:=(jW L last id).length) U;grind[uo,jw]);apply J [29];refine ab.nk 0 rfl (λ_ bc _=>?_);refine J [108,86,323,219] ?_;refine q rfl rfl (nE 3 1 ((jW L last id).length) rfl rfl rfl U U) ?_;apply J [202];refine ab.ret (Fg ?_);exact bu ⟨hU,fq⟩ trivial (eN 0 rfl H (ay A trivial (ay ⟨ad,cap,aF,bv⟩ aw (ao (ao (ao (ao (ao (bN (a6 _))))))))))
 intro a2;refine ab.open 0 rfl (λA _=>?_);apply J [1];refine ab.open 0 rfl (λC u=>?_);obtain⟨ad,cap,aF,bv⟩:=C;have aw:=u;apply J [161];dsimp only at aw⊢;by_cases w:fV L id;have aA:=px (A:=A) w;apply J [6,32];apply au (py b aF bv L.length last (iE A L) id);apply J [14];rw[aA];refine J [156,100,121,142,152] ?_;intro bC;apply J [190];refine ab.label (ib ?_);exact ab.enter a2 ⟨⟨[id],(some ⟨bC,0,none⟩,1)⟩,⟨[],(none,0)⟩⟩ ⟨nQ.start w,w⟩ ⟨rfl,rfl,rfl,rfl,trivial⟩ ((dG 3 1 _).trans (bN (ao (ay A trivial (ay ⟨ad,cap,aF,bv⟩ aw (ao (ao (ao (ao (ao (ao (a6 _))))))))))));have aA:=qy (A:=A) w;rw[Ks w];apply J [6,32];apply au (py b aF bv L.length last (iE A L) id);apply J [14];rw[aA];apply J [156,2,58,202];refine ab.ret (rt (Fg ?_));exact bu ⟨none,0⟩ trivial ((dG 3 1 _).trans (ao (ay A trivial (ay ⟨ad,cap,aF,bv⟩ aw (ao (ao (ao (ao (ao (ao (a6 _)))))))))))
end Go.Proofs.Q.b2
namespace Go.Proofs.Q
open Go Go.QM
variable [cZ]
theorem A3(k:IntKind){xs:List Int}{i:Nat}(h:i<xs.length){o:Nat}(d:o=i*1)(v:Int):dC o [.int k v] (cf k xs)=cf k (xs.set i v):=by
 subst d;rw[Nat.mul_one];apply XM;intro j;have u:(cf k xs).length=xs.length:=by grind[hT]
 rw[dC,cf,cf,List.getElem?_map,List.getElem?_set,List.append_assoc];grind
theorem Ga(k:IntKind)(xs:List Int)(n:Nat):(cf k xs).take (n*1)=cf k (xs.take n):=by simp[cf,List.map_take]
theorem Qp(k:IntKind){xs:List Int}{n:Nat}(h:xs.length=n):(cf k xs).take (n*1)=cf k xs:=VU (by rw[hT];omega)
theorem F9(k:IntKind)(xs:List Int):(cf k xs).all VP=true:=by simp[cf,List.all_eq_true,VP]
variable{A:bR}
theorem cc.neg(h:cc A)(x:Int)(D:x<0)(k:Int):(b5 A.l x k).2≠0:=λe=>by
 have u:(aq.cW A.l x).2=0:=by
  unfold b5 at e
  split at e
  ·dsimp only at e;exact absurd e am
  exact e
 rw[aq.cW]at u
 cases d:aq.dV A.l x 1 with
 | none=>rw[d]at u;exact absurd u am
 | some y=>
  unfold aq.dV at d
  split at d
  ·rename_i p w
   split at d
   ·rename_i C
    have:=(h.ok.c3 p (Vi w)).1
    omega
   cases d
  cases d
theorem cc.wW{top:Nat}{S:cT}(h:cc A)(aO:ck top A S):lE (eT A) (jr A):=h.O8 aO.bS λx d=>h.neg x d 1
theorem x5(h:cc A)(u:lE (eT A) (jr A)):∀(n:Nat) (x z:Int),jr A x<=n->z∈hc (eT A) (jr A) x->z=x\/z∈aq.dd A.l 1
 | n,x,z,an,w=>by rcases rS u _ x z (Vm _) w with e|⟨y,d,_⟩;exact .inl e;exact .inr (oa.1 d).2.1
theorem Bm(h:cc A)(C:lE (eT A) (jr A))(x:Int):(hc (eT A) (jr A) x).length<=257:=by have H:=Bn C _ x (Vm _);rw[oS C]at H⊢;obtain⟨O,_,_⟩:=VI.1 H;have P:(((eT A x).flatMap (hc (eT A) (jr A))).map Int.toNat).Nodup:=(by rw[List.Nodup,List.pairwise_map];refine List.Pairwise.imp_of_mem ?_ O;intro a b Q V W e;have bL:∀c∈(eT A x).flatMap (hc (eT A) (jr A)),0<=c:=λc D=>(by obtain⟨y,E,d⟩:=Wc.1 D;have u:=(oa.1 E).2.1;rcases x5 h C _ y c (Vm _) d with e|N;rw[e];exact(nT h.ok u).1;exact(nT h.ok N).1);grind);have d:=vc P (m:=(aq.dd A.l 1).map Int.toNat) λw hw=>(by obtain⟨c,D,rfl⟩:=Vq.1 hw;obtain⟨y,E,d⟩:=Wc.1 D;have u:=(oa.1 E).2.1;rcases x5 h C _ y c (Vm _) d with e|N;all_goals grind);have u:=aq.pg A.l 1;rw[h.ok.n]at u;grind
theorem NZ(ad:Option Addr)(cap:Nat)(xs:List Int)(H:xs.length<=1000000000):bt 309 [.slice ad xs.length cap] be [aX 33 1 ad xs.length cap (cf .u32 xs)] (.tuple #[]) [aX 33 1 ad xs.length cap (cf .u32 xs.reverse)]:=by
 apply aH Tryz.func309 Tryz.ntmps309;intro F _;refine J [1,33,224,219,173,75] ?_;refine VQ (ι:=Nat×List Int) (λs=>b2.nP xs s.1 s.2/\s.1<=xs.length) (λs=>[(0,.slice ad xs.length cap),(2,aa ((s.1:Nat):Int)),(3,aa ((xs.length:Int)-1-((s.1:Nat):Int)))]) (λs=>ag [aX 33 1 ad xs.length cap (cf .u32 s.2),F]) (λs=>xs.length-s.1) ⟨0,xs⟩ ⟨b2.nP.start xs,Vl _⟩ ⟨rfl,rfl,congrArg (Wl .i64) cB,trivial⟩ (ao (ao (a6 _))) ?_;rintro⟨i,d⟩ ⟨w,C⟩ W;dsimp only[cx]at w C⊢;apply J [130,3,182];apply Vh rfl<;>intro N;·have V:=w.len;have P:=hT .u32 d;obtain⟨u,hu⟩:∃u,d[i]? =some u:=⟨d[i],Ve U⟩;obtain⟨v,hv⟩:∃v,d[xs.length-1-i]? =some v:=⟨d[xs.length-1-i],Ve U⟩;(have E:d[((xs.length:Int)-1-(i:Int)).toNat]? =some v:=by simp_all);(have Q:(cf .u32 (d.set i v)).length=d.length:=by rw[hT,V8]);(have O:0<(cf .u32 d).length:=by omega);refine J [56,607,194,194,194,610] ?_;refine bI rfl rfl rfl (dk rfl rfl (j0 E)) ?_;refine J [194,545] ?_;refine bI rfl rfl rfl (dk rfl rfl (j0 hu)) ?_;refine J [545,91] ?_;refine QM.ej (v:=.int _ _) (vs:=[_]) 1 rfl rfl rfl rfl rfl rfl am U (A3 .u32 (i:=i) U U _) ?_;refine J [610,91] ?_;refine QM.ej (v:=.int _ _) (vs:=[_]) 1 rfl rfl rfl rfl rfl rfl am U (A3 .u32 (i:=xs.length-1-i) AI U _) ?_;refine J [231,345,3,219,173] ?_;exact⟨rfl,⟨i+1,(d.set i v).set (xs.length-1-i) u⟩,⟨w.next U hu hv,by dsimp only;omega⟩,cB,⟨rfl,rfl,congrArg (Wl .i64) cB,trivial⟩,(ao (ao (a6 _)))⟩
 have D:=w.done U;subst D;apply J [332];exact yk
variable(aI af:Nat)
theorem DI(top:Nat)(A:bR)(h:Int)(a5:0<=h/\h<=4294967295):bK 259 [ae aI,aT h] be [fP aI af top A] (λy:Option Addr×Nat=>.slice y.1 (ft A h).length y.2) (λ_=>True) (λy=>[aX 33 1 y.1 (ft A h).length y.2 (cf .u32 (ft A h)),fP aI af top A]):=by
 apply aH Tryz.func259 Tryz.ntmps259;intro F _;apply J [1];refine ab.lR 0 rfl (λar=>?_);obtain⟨_,aO,u⟩:=ar;have d:=u.wW aO;have bd:=Bm u d h;have bf:hc (eT A) (jr A) h=ft A h++[h]:=oS d h;have aL:∀z∈hc (eT A) (jr A) h,0<=z/\z<=4294967295:=λz a0=>(by rcases x5 u d _ h z (Vm _) a0 with e|e;omega;exact nT u.ok e);refine J [121,121,142,152] ?_;intro ba;apply J [190,75];refine VQ (ι:=(List Int×Option Addr×Nat)×(List Int×Option Addr×Nat)) (λs=>s.1.1.flatMap (hc (eT A) (jr A))++s.2.1.reverse=hc (eT A) (jr A) h) (λs=>[(0,ae aI),(1,aT h),(5,.slice s.2.2.1 s.2.1.length s.2.2.2),(6,.slice s.1.2.1 s.1.1.length s.1.2.2)]) (λs=>ag [aX 33 1 s.1.2.1 s.1.1.length s.1.2.2 (cf .u32 s.1.1),aX 33 1 s.2.2.1 s.2.1.length s.2.2.2 (cf .u32 s.2.1),fP aI af top A,F]) (λs=>(s.1.1.flatMap (hc (eT A) (jr A))).length) (([h],some ⟨ba,0,none⟩,1),([],none,0)) cG bG ((dG 33 1 _).trans (bN (ao (ao (ao (a6 _)))))) ?_;rintro⟨⟨W,bB,bU⟩,⟨O,hU,fq⟩⟩ w bt;dsimp only[cx]at w⊢;apply J [6,33,224,216,2];apply Vh rfl<;>intro a4;obtain⟨V,x,rfl⟩:∃V x,W=V++[x]:=(by(have H:W≠[]:=by grind);exact⟨W.dropLast,W.getLast H,(Yp H).symm⟩);have aq:(V++[x]).length=V.length+1:=b4
 have aQ:(V++[x])[(((V.length+1:Nat):Int)-1).toNat]? =some x:=b4
 have bj:=hT .u32 (V++[x]);have aW:=aL x (by rw[<-w];exact Vg.2 (.inl (Wc.2 ⟨x,by simp,uS d x⟩)));have hlen:∀L:List Int,L.length<=(L.flatMap (hc (eT A) (jr A))).length:=λL=>(by induction L with|nil=>exact Vl _|cons a L bp=>have:=List.length_pos_of_mem (uS d a);rw[VD,mp,VC];omega);have D:=congrArg W4 w;have a3:=hlen V;have hIn:(V++eT A x).flatMap (hc (eT A) (jr A))++(O++[x]).reverse=hc (eT A) (jr A) h:=(by grind[oS]);have a8:(eT A x).length<=257:=WC (hlen _) (WC (by have:=congrArg W4 (oS d x);rw[mp]at this;omega) (Bm u d x));rw[mp,Xg,Xh,mp]at D;rw[aq];refine ab.nk 0 rfl (λ_ bl av=>?_);simp only[maxLen]at av;have bi:0<(cf .u32 (V++[x])).length:=U
 refine J [4,75,33,86,224,219] ?_;refine q rfl rfl (jZ 33 1 rfl rfl rfl U U dQ) ?_;refine q rfl rfl (dk rfl rfl (j0 aQ)) ?_;apply J [31];have C:aE (aX 33 1 bB (V.length+1) bU (cf .u32 (V++[x]))) (aX 33 1 bB V.length bU (cf .u32 V)):=(by have:=pV (E:=33) (sz:=1) (ad:=bB) (n:=V.length+1) (cap:=bU) (cs:=cf .u32 (V++[x])) (j:=V.length) U;grind[Ga]);refine WI (eN 0 rfl C (ao (ao (ao (a6 _))))) ?_;refine cD [0,1,2,3,4,5,6,-7,-8,9] (a6 _) ?_;apply J [324,324];refine bI rfl rfl rfl (len 33 1 rfl rfl) ?_;refine J [411] ?_;refine bI rfl rfl rfl (nE 33 1 (V.length) rfl rfl rfl U U) ?_;apply J [77,263];apply bb (Dv aI af top A x aW);intro z9 _;refine J [278] ?_;have a9:=hT .u32 (eT A x);refine J [15,611] ?_;intro N Q;refine J [9,327,74,108,68] ?_;intro bC;refine J [0,483] ?_;intro P Z;apply J [83,155];exact⟨rfl,((V++eT A x,N,Q),(O++[x],P,Z)),hIn,(by dsimp only;have ah:=congrArg W4 hIn;simp only[mp,Xg,Vn,Xh]at ah D⊢;omega),⟨rfl,rfl,congrArg (λn=>VX _ n _) sU,congrArg (λn=>VX _ n _) uC,trivial⟩,(b9 2 rfl (by dsimp only;rw[oP,mp]) (b9 0 rfl (by dsimp only;rw[oP,mp];rfl) (bw (bw (a6 _)))))⟩;obtain rfl:W=[]:=YR.1 U;have aB:O.reverse=ft A h++[h]:=b4
 have an:O.length=(ft A h).length+1:=b4;have a2:O.length<=257:=b4
 apply J [209,0];apply au (NZ hU fq O U);apply J [17];rw[aB,an];have C:aE (aX 33 1 hU ((ft A h).length+1) fq (cf .u32 (ft A h++[h]))) (aX 33 1 hU (ft A h).length fq (cf .u32 (ft A h))):=(by have:=pV (E:=33) (sz:=1) (ad:=hU) (n:=(ft A h).length+1) (cap:=fq) (cs:=cf .u32 (ft A h++[h])) (j:=(ft A h).length) U;grind[Ga]);apply J [29];refine ab.nk 0 rfl (λ_ bc _=>?_);refine J [108,86,224,219] ?_;refine q rfl rfl (nE 33 1 ((ft A h).length) rfl rfl rfl U U) ?_;apply J [69];exact bu (hU,fq) trivial (eN 0 rfl C ai)
def AY(A:bR)(h:Int):Prop:=∀i s (x r:Nat),A.aL i s=dM x r->1<=r->r<=15->x<4294967295->(x:Int)≠h
structure Cv(A:bR)(h:Int)(a8:bR):Prop where
  ex:∃(k:Nat) (o:aq.fc) (g:Int) (aZ:Nat->Nat->Nat),A.l[k]? =some ⟨o,1,g⟩/\h=g*256+k/\k<256/\(∀i,i≠k->aZ i=A.aZ i)/\a8={A with l:=A.l.set k ⟨o,2,g⟩,aZ:=aZ,q:=A.q++[(h,A.now+A.pd)]}
theorem L6{h:Int}{k:Nat}{p:aq.bW}(e:aq.dV A.l h 1=some (k,p)):(aq.hQ A.l h).1=A.l.set k ⟨p.o,2,p.c3⟩:=by rw[aq.hQ,e]
theorem K2(top:Nat)(A:bR)(h:Int)(w:0<=h/\h<=4294967295)(Q:(aq.cW A.l h).2=0)(av:h≠0)(hm:eT A h=[])(an:AY A h)(V:∀s,A.aL (h %256).toNat s=0):bK 348 [ae aI,aT h] be [fP aI af top A] (λ_:bR=>aa 0) (λC=>Cv A h C) (λC=>[fP aI af top C]):=by apply aH Tryz.func348 Tryz.ntmps348;intro F _;apply J [1,98];apply au (jX aI af top A h w 0);apply J [5];rw[iR];refine J [255] ?_;intro ba;apply J [116,259];refine Vh rfl (λN=>absurd N (λh=>h Q)) (λN=>?_);apply J [25,174];refine Vh rfl (λO=>absurd O (av)) (λO=>?_);apply J [32];apply bb (Dv aI af top A h w);intro bi _;apply J [17];rw[hm];apply J [224,216,38];refine Vh rfl (λP=>absurd P (am)) (λP=>?_);apply ab.open 1 rfl;rintro⟨H,bx,S⟩ ⟨aO,d⟩;apply J [223];dsimp only at aO d⊢;apply J [22,64,28];apply au (aq.Pd H A.l h d.ok w);refine J [16,2,97,215,152] ?_;intro bC;obtain⟨k,p,W,D,E,Z,u,ah,ar⟩:=n4 w.1 Q;obtain⟨o,s,g⟩:=p;dsimp only at E u ar;subst E;have a9:=d.pd;have bc:=d.bd;have bf:=d.Bp;have a5:k≠0:=λe=>(by obtain⟨⟨a,bL⟩,_⟩:=d.rt;simp_all);rw[L6 W];rw[ah]at V;refine e rfl ?_;apply ew (eX.vM bx A.pd A.now A.q (cJ bC) 1 [h] a9.1 U U (Vr rfl)) ⟨_,bj.rd (ad:=some ⟨bC,0,none⟩)⟩;apply J [78,119];have a2:=d.tX D a5 (λi s x r aB aQ aW a0=>by rw[<-u];exact an i s x r aB aQ aW a0) V (λi=>if i=k then λx=>S.m (o.a.toNat+x)else A.aZ i);have a3:=aO.tX (a8:={A with l:=A.l.set k ⟨o,2,g⟩,aZ:=λi=>if i=k then λx=>S.m (o.a.toNat+x)else A.aZ i,q:=A.q++[(g*256+k,A.now+A.pd)]}) ⟨g,D⟩ rfl rfl rfl rfl ⟨rfl,rfl,rfl⟩;exact bu {A with l:=A.l.set k ⟨o,2,g⟩,aZ:=λi=>if i=k then λx=>S.m (o.a.toNat+x)else A.aZ i,q:=A.q++[(g*256+k,A.now+A.pd)]} ⟨⟨k,o,g,_,D,u,Z,λi a4=>al a4,by rw[u]⟩⟩ (ay (⟨H,bx,S⟩:eY) ⟨a3,a2⟩ (cO (cO (bw (b9 0 rfl (by dsimp only;rw[u];rfl) ai)))))
theorem RC{n:Int}{l:List (Int×Int)}(hs:l.Pairwise λa b=>a.2<=b.2):∀t∈eX.kK n l,n<t.2:=by induction l with|nil=>intro t h;cases h|cons a l w=>intro t h;rw[List.pairwise_cons]at hs;rw[eX.kK,List.dropWhile_cons]at h;split at h;exact w hs.2 t h;rename_i u;(have d:n<a.2:=by simpa using u);rcases List.mem_cons.1 h with rfl|h;exact d;have:=hs.1 t h;omega
def pA(D:List Int)(i:Nat)(p:aq.bW):aq.bW:=if p.st=2/\p.c3*256+(i:Int)∈D then aq.iZ p else p
def qd(l l':List aq.bW)(D:List Int):Prop:=∀i,l'[i]? =(l[i]?).map (pA D i)
theorem Nj(l:List aq.bW):qd l l []:=λi=>by
 cases l[i]? with
 | none=>rfl
 | some p=>rw[WD,pA,al (λh=>absurd h.2 cG)]
theorem ue(p:aq.bW):(aq.iZ p).st≠2/\(aq.iZ p).st≠1:=by grind[aq.iZ]
theorem Nk{l l':List aq.bW}{D:List Int}(h:qd l l' D){k:Nat}{p:aq.bW}(H:l'[k]? =some p)(E:p.st=2)(Q:k<256)(N:aq.dO l):qd l (l'.set k (aq.iZ p)) (D++[p.c3*256+(k:Int)]):=λi=>by
 have d:=h i
 by_cases e:i=k
 ·subst e
  rw[H]at d
  cases C:l[i]? with
  | none=>rw[C]at d;cases d
  | some q=>
   rw[C,WD]at d
   have O:p=q:=by
    have:=Wn d
    rw[pA]at this
    split at this
    ·rw[this]at E;exact absurd E (ue q).1
    exact this
   rw[V1 (Vo.1 H).1,WD,pA,<-O,ax ⟨E,by simp⟩]
 rw[Wo λu=>e u.symm,d]
 cases C:l[i]? with
 | none=>rfl
 | some q=>
  rw[WD,WD,pA,pA]
  have P:=N.c3 q (Vi C)
  have V:=N.lt C
  have:(p.c3*256+(k:Int)=q.c3*256+(i:Int))->False:=λu=>e U
  have u:(q.c3*256+(i:Int)∈D++[p.c3*256+(k:Int)])↔q.c3*256+(i:Int)∈D:=by
   rw[Vg,Vf]
   exact⟨λh=>h.elim id λh=>(this h.symm).elim,.inl⟩
  by_cases w:q.st=2/\q.c3*256+(i:Int)∈D
  ·rw[ax w,ax ⟨w.1,u.2 w.2⟩]
  rw[al w,al λh=>w ⟨h.1,u.1 h.2⟩]
structure rh(top:Nat)(A:bR)(due rest:List (Int×Int))(j:Nat)(B:bR)(S:cT):Prop where
  NQ:j<=due.length
  aO:ck top B S
  U4:cc B
  aA:qd A.l B.l ((due.map (·.1)).take j)
  he:B={A with l:=B.l,Q:=B.Q,q:=due.drop j++rest}
structure nc(A a8:bR):Prop where
  ex:∃(l:List aq.bW) (Q:List aB.bY),qd A.l l ((eX.j8 (A.now+1) A.q).map (·.1))/\a8={A with l:=l,Q:=Q,now:=A.now+1,q:=eX.kK (A.now+1) A.q,np:=A.np+1}
theorem cc.Tl(h:cc A){r:List (Int×Int)}(u:A.q=r)(hr:∀t∈r,A.now+1<t.2)(aA:A.np+1<=1000000):cc {A with now:=A.now+1,np:=A.np+1}:=
 ⟨h.ok,h.d8,h.rt,h.ac,h.cY,h.nl,h.aL,h.hA,h.kI,h.mA,λt d=>⟨hr t (u▸d),by have:=h.mB t d;dsimp only;omega⟩,h.m5,⟨h.pd.1,by have:=h.pd;dsimp only;omega⟩,by have:=h.bd;dsimp only;omega⟩
theorem ck.tick{top:Nat}{S bc:cT}{k c x:Nat}{f g:Int}{P:aq.bW}{Q:List aB.bY}{q:List (Int×Int)}(h:ck top A S)(an:A.l[k]? =some ⟨bv c x f,2,g⟩)(E:iF c)(Z:¬fo P.st){D:cT}(w:D.C=S.C/\D.Fr=S.Fr/\D.m=S.m/\D.bE=S.bE)(p:tA top D f c x bc)(ah:bc.Q=Q):ck top {A with l:=A.l.set k P,Q:=Q,q:=q} bc:=by have W:ck top {A with l:=A.l.set k P} S:=h.free Z rfl rfl rfl rfl ⟨rfl,rfl,rfl⟩;have aA:gd top S D hS hS:=wG h.P w.1 w.2.1 w.2.2.1;have N:∀a,¬fy c x 6 a/\¬fy c x 7 a:=λa=>⟨λh=>by rcases E with E|E<;>have:=h.1<;>omega,λh=>by rcases E with E|E<;>have:=h.1<;>omega⟩;refine W.mZ (aA.trans p.g) rfl rfl rfl rfl ⟨ah,by rw[p.q.2,w.2.2.2];exact h.Q.2⟩ (λi s d b V ar H=>?_) (λa=>⟨λh=>h.elim id (N a).1,λh=>h.elim id (N a).2⟩) (by rw[p.u,w.1]) (by have:=p.p;rw[w.1,w.2.1]at this;have:=h.gb;dsimp only;omega);have O:¬fy c x d b:=(by rintro⟨rfl,rfl⟩;rcases H.set with⟨e,H⟩|⟨_,e,_⟩;exact e (h.un i k s 2 d b V f ar (.inr rfl) H ⟨g,an⟩);simp_all);exact⟨λh=>h.elim id O,λh=>absurd h λh=>h.elim id O⟩
theorem LR(u bx top:Nat)(S:cT)(cP bd ar:Nat)(d:Nat->Nat)(a w:Nat)(k f:Int)(E:2^top<=128)(bL:a+8<=1024*2^top)(C:a %8=0)(D:cV S.m a=w)(hw:w<2^63):bt 100 [ae aI,.agg (ints (bv k a f).l).toArray] be [aj aI 135 [ae af,ae u,ae bx],aj af 169 (hb 8 cP bd ar d),fA ar S.m (1024*2^top)] (aa w) [aj aI 135 [ae af,ae u,ae bx],aj af 169 (hb 8 cP bd ar d),fA ar S.m (1024*2^top)]:=by apply aH Tryz.func100 Tryz.ntmps100;intro F _;apply J [87];subst D;refine J [26,292] ?_;intro ba;apply J [31];refine cD [0,1,2,3,5,6,-4,-7,8,9,10,11,12] (ao (ao (a6 _))) ?_;apply J [50,287];apply au (ll af cP bd ar d);refine J [297,45] ?_;apply au (tH ar (1024*2^top) a S.m U bL C);refine J [278,149,281,271,25] ?_;refine q rfl rfl (conv .u64 .i64 rfl rfl rfl (oX hw)) ?_;apply J [30];exact dn
theorem LI(top:Nat)(A:bR)(aA:A.np+1<=1000000):bK 160 [ae aI] c5 [fP aI af top A] (λy:(Option Addr×Nat)×bR=>.slice y.1.1 ((eX.j8 (A.now+1) A.q).map (·.1)).length y.1.2) (λy=>nc A y.2) (λy=>[aX 33 1 y.1.1 ((eX.j8 (A.now+1) A.q).map (·.1)).length y.1.2 (cf .u32 ((eX.j8 (A.now+1) A.q).map (·.1))),fP aI af top y.2]):=by
 apply aH Tryz.func160 Tryz.ntmps160;intro F bY;apply J [1];haveI:cw F:=⟨bY⟩;apply ab.open 0 rfl;rintro⟨u,bx,S⟩ ⟨aO,H⟩;apply J [82];dsimp only at aO H⊢;apply J [121,200,101,122,97];have cV:=H.pd;have cM:=H.bd;have cZ:=H.Bp;refine e rfl ?_;apply bb (eX.BY bx A.pd A.now A.q U U);intro y _;apply J [14,177];have b6:eX.j8 (A.now+1) A.q++eX.kK (A.now+1) A.q=A.q:=by grind[eX.j8,eX.kK,List.takeWhile_append_dropWhile]
 have co:∀t∈eX.kK (A.now+1) A.q,A.now+1<t.2:=RC H.m5;generalize cc:eX.j8 (A.now+1) A.q=due at*;generalize cn:eX.kK (A.now+1) A.q=rest at*;have cR:due.length<=256:=cr;have cj:(due.map (·.1)).length=due.length:=b4
 refine VQ (ι:=(Nat×bR×cT)×(Option Addr×Nat)) (λs=>rh top A due rest s.1.1 s.1.2.1 s.1.2.2) (λs=>[(0,ae aI),(3,.slice s.2.1 ((due.map (·.1)).take s.1.1).length s.2.2),(15,.slice y.1 (due.map (·.1)).length y.2),(16,aa (due.map (·.1)).length),(17,aa ((s.1.1:Nat):Int))]) (λs=>ag [aX 33 1 s.2.1 ((due.map (·.1)).take s.1.1).length s.2.2 (cf .u32 ((due.map (·.1)).take s.1.1)),eX.ez bx A.pd (A.now+1) rest,aX 3 1 y.1 (due.map (·.1)).length y.2 (ints (due.map (·.1))),aj aI 135 [ae af,ae u,ae bx],e3 af top s.1.2.2,aX 264 5 (cJ u) 256 256 (aq.fs s.1.2.1.l),F]) (λs=>due.length-s.1.1) ((0,A,S),(none,0)) ⟨Vl _,aO,H,Nj _,by rw[List.drop_zero,b6]⟩ bG ((dG 33 1 _).trans ai) ?_;rintro⟨⟨j,B,T⟩,ad,cap⟩ ar c7;dsimp only[cx]at ar⊢;apply J [43];apply Vh rfl<;>intro cS;have ce:j<due.length:=U
 obtain⟨⟨x,t⟩,c2⟩:∃z,due[j]? =some z:=⟨due[j],Ve ce⟩;have cz:(due.map (·.1))[j]? =some x:=b4
 have cW:0<(ints (due.map (·.1))).length:=by grind[ec]
 obtain⟨_,d,aR,kC,E⟩:=ar;have N:B.q=(x,t)::(due.drop (j+1)++rest):=(by grind[List.drop_eq_getElem_cons]);obtain⟨⟨⟨k,p⟩,ci⟩,aL⟩:=(aR.kI x).2 (by rw[N];simp);obtain⟨D,aQ,cg,bj⟩:=aq.m2 aL ci;obtain⟨o,c6,g⟩:=p;dsimp only at bj aQ;subst bj;have b2:=aR.ok.c3 _ (Vi D);dsimp only at b2;obtain⟨c,a9,f,rfl,O,a3⟩:=d.obj k 2 o (.inr rfl) ⟨g,D⟩;have oJ:aq.pB B.l x=(B.l.set k (aq.iZ ⟨bv c a9 f,2,g⟩),bv c a9 f,0):=by grind[aq.pB]
 have an:(due.map (·.1)).take (j+1)=(due.map (·.1)).take j++[x]:=by grind[List.take_succ]
 have bf:¬fo (aq.iZ ⟨bv c a9 f,2,g⟩).st:=by grind[fo,ue]
 have c1:((due.map (·.1)).take j).length<=256:=cr
 have cL:=d.P;have av:=Nk kC D rfl cg H.ok;dsimp only at av;rw[<-aQ,<-an]at av;refine J [187] ?_;refine q rfl rfl (dk rfl rfl (hO cz)) ?_;refine J [63,478,27,64,28] ?_;apply au (aq.No u B.l x aR.ok ⟨aL,by omega⟩);apply J [16];rw[oJ];refine J [255] ?_;intro bC;apply J [116,34];refine Vh rfl (λah=>absurd ah (λh=>h rfl)) (λah=>?_);apply J [44,111,244];apply Vh rfl<;>intro ah;obtain rfl:c=1:=by have bL:((c:Nat):Int)=1:=ah;omega
 have cl:=d.my k 2 a9 f (.inr rfl) ⟨g,D⟩;have cU:=aR.Bd (.inr rfl) ⟨g,D⟩;have cN:=c8.bd d.P a3;have cF:bD 1=64:=rfl;obtain⟨ei,a8⟩:=aR.free D O (by rw[<-aQ];exact N) (me:=(aB.iD T.Q (B.own k)).1) (by rw[d.Q.1];rfl);obtain⟨cp,w⟩:∃cp:cT,cp=⟨(aB.iD T.Q (B.own k)).1,T.bE,T.C,T.Fr,T.m⟩:=⟨_,rfl⟩;have be:dg top cp:=by grind[dg]
 refine ab.open 6 rfl (λcA aL=>?_);obtain⟨cP,bd,aW,a0⟩:=cA;have bc:=aL;apply J [333];dsimp only at bc⊢;have cv:=bc.fX;have cy:2^top<=128:=Vk (n:=2) am cv.2;refine cD [0,1,2,3,4,5,6,7,8,-9,-10] (show aE (ag _) (ag [aj bC 60 (ints (bv ((1:Nat):Int) a9 f).l),aj aI 135 [ae af,ae u,ae bx],aj af 169 (hb 8 cP bd aW a0)])from ai) ?_;apply J [50,89,102,77,310,15];apply au (LR aI af u bx top T cP bd aW a0 a9 (B.own k) 1 f cy U U cl U);refine J [444,45] ?_;apply au (aB.Rj cP T.Q T.bE (B.own k:Int));refine J [444,113,252] ?_;refine aY.bk (B:=ag [aj aI 135 [ae af,ae u,ae bx],e3 af top cp,aX 33 1 ad ((due.map (·.1)).take j).length cap (cf .u32 ((due.map (·.1)).take j)),eX.ez bx A.pd (A.now+1) rest,aX 3 1 y.1 (due.map (·.1)).length y.2 (ints (due.map (·.1))),aX 264 5 (cJ u) 256 256 (aq.fs (B.l.set k (aq.iZ ⟨bv ((1:Nat):Int) a9 f,2,g⟩))),F]) (by subst w;exact(bN (ay (dP.mk cP bd aW a0:dP af) be ai))) ?_;have W:cp.C=T.C/\cp.Fr=T.Fr/\cp.m=T.m/\cp.bE=T.bE:=by rw[w];exact⟨rfl,rfl,rfl,rfl⟩
 have a2:c8 cp 1 a9:=by rw[c8,W.1,W.2.1];exact a3
 have Z:cp.Q=(aB.iD T.Q (B.own k)).1:=by rw[w]
 refine e rfl ?_;apply bb (wj aI af u bx top cp 1 a9 f O a2 (by rw[Z];exact ei));intro gJ V;refine J [16,2,108,68] ?_;intro ch;refine J [0,483] ?_;intro bl bt;refine J [83,62] ?_;have a4:gJ.Q=(aB.ep (aB.iD T.Q (B.own k)).1 f (bD 1:Int)).1:=by rw[V.q.1,Z]
 have a5:=d.tick (q:=due.drop (j+1)++rest) D O bf W V a4;exact⟨rfl,((j+1,_,gJ),(bl,bt)),⟨by dsimp only;omega,a5,a8,av,by rw[E]⟩,cB,⟨rfl,congrArg (λn=>VX _ n _) (by dsimp only;rw[an,mp];rfl),rfl,rfl,rfl,trivial⟩,(b9 0 rfl (by dsimp only;rw[an,oP,mp];rfl) ai)⟩;obtain⟨ei,a8⟩:=aR.free D O (by rw[<-aQ];exact N) (me:=T.Q) (by rw[d.Q.1,al (λh=>ah (by rw[h];rfl))]);obtain⟨cp,w⟩:∃cp:cT,cp=T:=⟨_,rfl⟩;have be:dg top cp:=w▸d.P;have W:cp.C=T.C/\cp.Fr=T.Fr/\cp.m=T.m/\cp.bE=T.bE:=by rw[w];exact⟨rfl,rfl,rfl,rfl⟩
 have a2:c8 cp c a9:=w▸a3;have Z:cp.Q=T.Q:=by rw[w]
 apply J [4,252];refine aY.bk (B:=ag [aj aI 135 [ae af,ae u,ae bx],e3 af top cp,aX 33 1 ad ((due.map (·.1)).take j).length cap (cf .u32 ((due.map (·.1)).take j)),eX.ez bx A.pd (A.now+1) rest,aX 3 1 y.1 (due.map (·.1)).length y.2 (ints (due.map (·.1))),aX 264 5 (cJ u) 256 256 (aq.fs (B.l.set k (aq.iZ ⟨bv c a9 f,2,g⟩))),F]) (by subst w;exact ai) ?_;refine e rfl ?_;apply bb (wj aI af u bx top cp c a9 f O a2 (by rw[Z];exact ei));intro gJ V;refine J [16,2,108,68] ?_;intro cC;refine J [0,483] ?_;intro bp bS;refine J [83,62] ?_;have a4:gJ.Q=(aB.ep T.Q f (bD c:Int)).1:=by rw[V.q.1,Z]
 have a5:=d.tick (q:=due.drop (j+1)++rest) D O bf W V a4;exact⟨rfl,((j+1,_,gJ),(bp,bS)),⟨by dsimp only;omega,a5,a8,av,by rw[E]⟩,cB,⟨rfl,congrArg (λn=>VX _ n _) (by dsimp only;rw[an,mp];rfl),rfl,rfl,rfl,trivial⟩,(b9 0 rfl (by dsimp only;rw[an,oP,mp];rfl) ai)⟩;obtain rfl:j=due.length:=by have:=ar.NQ;omega
 obtain⟨_,d,aR,kC,E⟩:=ar;have cu:(due.map (·.1)).take due.length=due.map (·.1):=VU (by rw[cj];exact Vm _);rw[cu]at kC⊢;have N:B.q=rest:=by rw[E,List.drop_length];rfl
 have bW:=aR.Tl N (λt cq=>by rw[E];exact co t cq) (by rw[E];exact aA);have bi:B.now=A.now/\B.pd=A.pd:=by rw[E];exact⟨rfl,rfl⟩
 have b0:ck top {B with now:=B.now+1,np:=B.np+1} T:=d.mZ (wG d.P rfl rfl rfl) rfl rfl rfl rfl d.Q (λ_ _ _ _ _ _ _=>⟨λh=>h,λh=>h.elim⟩) (λ_=>⟨λh=>h,λh=>h⟩) rfl (Nat.le_succ_of_le d.gb);have b1:nc A {B with now:=B.now+1,np:=B.np+1}:=(by refine⟨⟨B.l,B.Q,by rw[cc];exact kC,?_⟩⟩;rw[cn];(conv=>lhs;rw[E]);rw[List.drop_length];rfl);apply J [209,69];exact bu ((ad,cap),{B with now:=B.now+1,np:=B.np+1}) b1 (ao (ay (⟨u,bx,T⟩:eY) ⟨b0,bW⟩ (bw (bw (bw (b9 0 rfl (by dsimp only;rw[bi.1,bi.2,N]) ai))))))
end Go.Proofs.Q
namespace Go.QM
open Go
theorem Qs{x:Nat}(Q:x<2^64):fq x=oi ((nd x 8).map oc):=by
 have d:=y3 8 x;have an:=y2 8 x;have C:dE (nd x 8)=x:=by grind[y4]
 generalize nd x 8=l at d an C;subst C;have t:=λa (u:a∈l)=>Be (d a u);have N:ki (dE l)=dE (l.map ga):=(by have g1:=u6 (m:=85) (s:=1) am am am d;have g2:=tG (m:=85) am d;rw[sR an]at g1 g2;rw[ki,show 6148914691236517205=dE [85,85,85,85,85,85,85,85]from by decide,g1,g2,tE];rfl);have w:∀a∈l.map ga,a<256:=b4
 have E:(l.map ga).length=8:=b4
 have O:l1 (dE (l.map ga))=dE ((l.map ga).map ho):=(by have g1:=u6 (m:=51) (s:=2) am am am w;have g2:=tG (m:=51) am w;rw[sR E]at g1 g2;rw[l1,show 3689348814741910323=dE [51,51,51,51,51,51,51,51]from by decide,g1,g2,tE];rfl);have D:∀a∈(l.map ga).map ho,a<256/\a/16<=4/\a %16<=4:=λa u=>cr;have H:((l.map ga).map ho).length=8:=b4
 have P:m4 (dE ((l.map ga).map ho))=dE (l.map oc):=(by have g1:=(AX D).1;rw[sR H]at g1;rw[m4,show 1085102592571150095=dE [15,15,15,15,15,15,15,15]from by decide,g1,X3,X3];rfl);grind[fq,Gd]
theorem Ge{n:Nat}(d:65536<n)(u:n<131072):fq n≠1:=by grind[Qs,nd,oi,oc,Be]
end Go.QM
namespace Go.Proofs.Q
open Go Go.QM
def sv(n:Int):Prop:=n<65536\/1073741824<n\/65536<n/\n<131072
theorem C2(n:Int)(h:sv n):bt 177 [aa n] be [] (.pointer none) []:=by apply aH Tryz.func177 Tryz.ntmps177;intro F _;apply J [8];rcases h with h|h|⟨h,u⟩;refine J [131,179,476,337,47,139,270] ?_;exact dn;refine J [131,179,389,168,41] ?_;refine VM 9 rfl (c:=true) (da U) ?_;apply J [47,139,270];exact dn;obtain⟨k,rfl⟩:∃k:Nat,n=(k:Int):=⟨n.toNat,(Wf U).symm⟩;have w:=Ge (n:=k) U U;refine J [131,179,389,168,41] ?_;refine VM 9 rfl (c:=false) (du U) ?_;refine J [12,464,95] ?_;apply au (xn k U);apply J [148,218,109];refine Vh rfl (λd=>?_) (λd=>absurd U d);apply J [170,76];exact dn
theorem C5(n:Int)(h:sv n):bt 176 [aa n] be [] (.pointer none) []:=by apply aH Tryz.func176 Tryz.ntmps176;intro F _;apply J [8];rcases h with h|h|⟨h,u⟩;refine J [131,179,463,337,47,139,270] ?_;exact dn;refine J [131,179,467,168,41,525,47,139,270] ?_;exact dn;obtain⟨k,rfl⟩:∃k:Nat,n=(k:Int):=⟨n.toNat,(Wf U).symm⟩;have w:=Ge (n:=k) U U;refine J [131,179,467,168,41,521,12,464,95] ?_;apply au (xn k U);apply J [148,218,109];refine Vh rfl (λd=>?_) (λd=>absurd U d);apply J [170,76];exact dn
theorem Q7(n lim:Int)(h:¬((n=65536\/n=131072)/\0<=lim/\lim<=n))(hs:n<=131072\/1073741824<n):bt 125 [aa n,aa lim] c5 [] (.pointer none) []:=by
 apply aH Tryz.func125 Tryz.ntmps125;intro F E;apply J [8];haveI:cw F:=⟨E⟩;apply J [170,25];by_cases C:0<=lim/\lim<=1073741824;refine e rfl ?_;apply bb (aB.GZ lim C);intro t _;apply J [5,3];by_cases an:n=65536\/n=131072;obtain⟨k,top,rfl,u⟩:∃k top:Nat,n=(k:Int)/\(k=65536/\top=6\/k=131072/\top=7):=cr;refine e rfl ?_;apply bb (yY k top u);intro bd _;apply J [7,28];apply bb (yO k U);intro D _;refine J [17,484,0,485] ?_;intro ba;apply J [57,97,156,18,140,192,412,41,12,168,109];refine Vh rfl (λw=>?_) (λw=>absurd U w);apply J [170,76];exact dn;have d:sv n:=by grind[sv]
 refine e rfl ?_;apply au (C5 n d);apply J [5,28];apply au (C2 n d);refine J [5,484,0,485] ?_;intro bC;apply J [57,97,156,18,213,51,52,139,270];exact dn;refine e rfl ?_;apply au (aB.Rm lim C);apply J [148,3];by_cases an:n=65536\/n=131072;obtain⟨k,top,rfl,u⟩:∃k top:Nat,n=(k:Int)/\(k=65536/\top=6\/k=131072/\top=7):=cr;refine e rfl ?_;apply bb (yY k top u);intro bd _;apply J [5,28];apply bb (yO k U);intro D _;refine J [7,484,0,485] ?_;intro ch;apply J [57,97,156,18,140,192,412,41,52,139,270];exact dn;have d:sv n:=by grind[sv]
 refine e rfl ?_;apply au (C5 n d);apply J [148,28];apply au (C2 n d);refine J [148,484,0,485] ?_;intro H;apply J [57,97,156,18,213,51,52,139,270];exact dn
def kf(a:Nat):List aq.bW:=(Vw 256 aq.ou).set 0 ⟨bv 1 a 0,1,0⟩
def ee(a:Nat)(lim pd:Int):bR:=⟨kf a,[⟨0,-1,lim,64⟩],1,λ_ _=>0,λ_=>0,λ_ _=>0,pd,0,[],2⟩
theorem w4(a:Nat){i:Nat}{p:aq.bW}(h:(kf a)[i]? =some p):(i=0/\p=⟨bv 1 a 0,1,0⟩)\/(i≠0/\p=aq.ou):=by grind[kf]
theorem nv{a i:Nat}{s:Int}{o:aq.fc}(hs:fo s)(h:cA (kf a) i s o):i=0/\s=1/\o=bv 1 a 0:=by obtain⟨g,h⟩:=h;rcases w4 a h with⟨e,h⟩|⟨_,h⟩;simp_all;cases h;exact absurd hs am
theorem Ao(a:Nat):aq.dO (kf a):=⟨by rw[kf,V8,Xd],λp u=>by
 obtain⟨i,d⟩:=List.getElem?_of_mem u
 rcases w4 a d with⟨_,h⟩|⟨_,h⟩<;>rw[h]<;>exact⟨WH 0,(by decide:(0:Int)<=1048575)⟩⟩
theorem ee.CS(a:Nat){lim pd:Int}(V:64<=lim/\lim<=1073741824)(D:1<=pd/\pd<=16):cc (ee a lim pd):=by
 have hw:aB.eV [⟨0,-1,lim,64⟩] 1:=(by have h:=aB.eV.start (lim:=lim) ⟨by omega,V.2⟩;have:=h.set (t:=⟨0,-1,lim,0⟩) cG (c:=64) am (by show 64+aB.fp [⟨0,-1,lim,0⟩] 0<=lim;rw[aB.rz,al (show ¬((-1:Int)=0)by decide)];omega);trivial);have P:aB.gh [⟨0,-1,lim,64⟩] 0=64:=by trivial
 have H:cA (kf a) 0 1 (bv 1 a 0):=by grind[cA,kf]
 refine⟨Ao a,hw,⟨⟨a,by show(kf a)[0]? =_;rw[kf,V1 (by rw[Xd];decide)]⟩,rfl⟩,λi s o C u=>?_,λi s b f C u=>?_,λi j s r b d f g C Z u Q _=>?_,λi s h=>absurd rfl h,λx an=>?_,λh=>⟨λw=>?_,λw=>(by cases w)⟩,List.nodup_nil,λt h=>(by cases h),Yx,⟨D,WH 0⟩,(by decide:(1:Int)<=((2:Nat):Int)/\(0:Int)<=((2:Nat):Int)/\2<=1000000)⟩;obtain⟨_,_,rfl⟩:=nv C u;exact⟨⟨_,Vf.2 rfl,rfl⟩,(by decide:bD (1:Int).toNat≠0)⟩;obtain⟨e,_,_⟩:=nv C u;exact⟨⟨_,Vf.2 rfl,rfl⟩,λh=>absurd e h⟩;rw[(nv C u).1,(nv Z Q).1];obtain⟨t,ah,rfl⟩:=an;obtain rfl:=Vf.1 ah;show aB.gh [⟨0,-1,lim,64⟩] 0=_;rw[P,pj];have w:=pW (f:=λ_=>0) (g:=h4 (ee a lim pd) 0) (n:=256) (k:=0) am λi u ar=>(by rw[h4];obtain⟨p,D,_⟩:=(Ao a).at u;rw[show(ee a lim pd).l[i]? =some p from D];rcases w4 a D with⟨e,_⟩|⟨_,e⟩;trivial;rw[e];exact al am);haveI:cZ:=⟨λ_=>0,λ_=>0⟩;rw[pX λ_ _=>rfl,show h4 (ee a lim pd) 0 0=64 from nW (A:=ee a lim pd) H 0]at w;simp_all;obtain⟨⟨⟨i,p⟩,W⟩,N⟩:=w;obtain⟨O,_,_,E⟩:=aq.m2 N W;rcases w4 a O with⟨_,e⟩|⟨_,e⟩;simp_all;rw[e]at E;exact absurd (show(0:Int)=2 from E) am
theorem ee.RB{top a:Nat}{lim pd:Int}{S:cT}(H:dg top S)(N:S.Q=[⟨0,-1,lim,64⟩]/\S.bE=1)(aR:c8 S 1 a)(W:cV S.m a=0)(E:gQ (960/cg 6) (S.C 6)=0)(P:(dp S.C S.Fr).length<=2):ck top (ee a lim pd) S:=by refine⟨H,N,λi s o D w=>?_,λi j s r c b f g D V w O=>?_,λi b f w=>?_,λi j b d f g s r w=>?_,λi j b d f g u v w=>?_,?_,λi s b f D w=>?_,λi c b f w=>?_,P⟩;obtain⟨_,_,rfl⟩:=nv D w;exact⟨1,a,0,rfl,by decide,aR⟩;rw[(nv D w).1,(nv V O).1];exact absurd (i6 (nv (.inl rfl) w).2.2).1 am;exact absurd (i6 (nv (.inl rfl) w).2.2).1 am;exact absurd (i6 (nv (.inl rfl) w).2.2).1 am;rw[E];exact(pX λ_ _=>pX λ_ _=>rfl).symm;rw[(i6 (nv D w).2.2).2.1];exact W;exact absurd (nv (.inr rfl) w).2.1 am
theorem JX{lim:Int}(h:64<=lim/\lim<=1073741824):aB.df (dt lim).Q 0 (cg 1:Int)=([⟨0,-1,lim,64⟩],0):=by
 have hw:=aB.eV.start (lim:=lim) ⟨by omega,h.2⟩;have hm:(⟨0,-1,lim,0⟩:aB.bY)∈(dt lim).Q:=by grind[dt]
 have hu:=aB.iw hw.bA hm;have E:aB.dj (dt lim).Q 0:=by grind[aB.dj]
 have d:aB.m8 (dt lim).Q 0=0+aB.fp (dt lim).Q 0:=hu.1;have u:aB.nw (dt lim).Q 0=lim:=hu.2.1;have w:aB.gh (dt lim).Q 0=0:=hu.2.2.1;have C:aB.fp (dt lim).Q 0=0:=(by trivial);have D:((cg 1:Nat):Int)=64:=rfl;rw[aB.df,al (λh=>h E),al U,d,u,w,C,D,al U];trivial
theorem Ll(n lim pd:Int)(h:¬((n=65536\/n=131072)/\64<=lim/\lim<=n/\1<=pd/\pd<=16))(hs:n<=131072\/1073741824<n):bt 84 [aa n,aa lim,aa pd] c5 [] (.pointer none) []:=by
 apply aH Tryz.func84 Tryz.ntmps84;intro F E;apply J [8];haveI:cw F:=⟨E⟩;apply J [170,198];by_cases u:(n=65536\/n=131072)/\0<=lim/\lim<=n;obtain⟨k,top,rfl,O⟩:∃k top:Nat,n=(k:Int)/\(k=65536/\top=6\/k=131072/\top=7):=cr;refine e rfl ?_;apply bb (GO k top lim O u.2);intro⟨af,D⟩ _;apply J [5];dsimp only;letI:cZ:=D;refine e rfl ?_;apply bb aq.pM;intro H _;apply J [7,3];by_cases d:1<=pd/\pd<=16;have aQ:lim<64:=U
 have N:(aB.df (dt lim).Q 0 (cg 1:Int)).2≠0:=λe=>(by obtain⟨_,_,aL,_⟩:=y7 e;have hw:=aB.eV.start (lim:=lim) ⟨u.2.1,by omega⟩;(have hm:(⟨0,-1,lim,0⟩:aB.bY)∈(dt lim).Q:=by grind[dt]);have hu:=aB.iw hw.bA hm;have an:aB.m8 (dt lim).Q 0=0+aB.fp (dt lim).Q 0:=hu.1;have ar:aB.nw (dt lim).Q 0=lim:=hu.2.1;have av:aB.fp (dt lim).Q 0=0:=(by trivial);grind[cg]);refine e rfl ?_;apply bb (eX.pM pd d.1 d.2);intro bx _;refine J [17,445,0,446] ?_;intro ah;apply J [57,40,156,18,140,250,412,151,100,40,0];apply bb (uQ af top (dt lim) 0 1 am);intro⟨P,ct⟩ w;apply J [10];cases P with|some y=>exact absurd w.2.1 N|none=>?_
 dsimp only[pf,kd];apply J [134,34];refine Vh rfl (λC=>?_) (λC=>absurd (w.1) C);apply J [170,76];exact dn;refine e rfl ?_;apply au (eX.sW pd U);refine J [7,445,0,446] ?_;intro Z;apply J [57,40,156,18,140,250,412,109,58,270];exact dn;refine e rfl ?_;apply au (Q7 n lim u hs);apply J [148,0];apply bb aq.pM;intro H _;apply J [5,3];by_cases d:1<=pd/\pd<=16;refine e rfl ?_;apply bb (eX.pM pd d.1 d.2);intro bx _;refine J [7,445,0,446] ?_;intro V;apply J [57,40,156,18,213,139,270];exact dn;refine e rfl ?_;apply au (eX.sW pd U);refine J [5,445,0,446] ?_;intro W;apply J [57,40,156,18,213,139,270];exact dn
theorem Lm(n top:Nat)(lim pd:Int)(h:n=65536/\top=6\/n=131072/\top=7)(H:64<=lim/\lim<=n)(D:1<=pd/\pd<=16):bK 84 [aa n,aa lim,aa pd] c5 [] (λy:Nat×Nat×Nat×cZ=>ae y.1) (λ_=>True) (λy=>[@fP y.2.2.2 y.1 y.2.1 top (ee y.2.2.1 lim pd)]):=by
 apply aH Tryz.func84 Tryz.ntmps84;intro F Z;apply J [8];haveI:cw F:=⟨Z⟩;have E:=JX (lim:=lim) ⟨H.1,by omega⟩;apply J [170,25,28];apply bb (GO n top lim h ⟨by omega,H.2⟩);intro⟨af,N⟩ _;apply J [5];dsimp only;letI:cZ:=N;refine e rfl ?_;apply bb aq.pM;intro Q _;apply J [7,28];apply bb (eX.pM pd D.1 D.2);intro bx _;refine J [17,445,0,446] ?_;intro hj;apply J [57,40,156,18,140,250,412,151,100,40,0];apply bb (uQ af top (dt lim) 0 1 am);intro⟨ar,ct⟩ O;apply J [10];have ah:dg top (dt lim):=by grind[dg.zero]
 have gi:dp (dt lim).C (dt lim).Fr=[]:=by trivial
 cases ar with
 | none=>exact absurd O (λh=>by
  rcases h.2 with w|⟨_,w⟩
  ·rw[E]at w;exact h.1 w
  rw[gi]at w
  have:=Nat.pow_pos (n:=top) (show 0<2 by decide)
  simp only[W3]at w;omega)
 | some y=>?_
 obtain⟨rfl,_,cH⟩:=O;have d:=Gw (a:=0) ah am am rfl (by rw[E]) cH;have aO:=ee.RB (lim:=lim) (pd:=pd) d.g.P ⟨by rw[d.q.2.1];exact congrArg (·.1) E,d.q.2.2⟩ d.b (d.z _ (Vm _) (by have:bD 1=64:=rfl;omega)) (by rw[d.u];rfl) (by have:=d.p;rw[gi]at this;simp only[W3]at this;omega);have W:=ee.CS (addr 1 y) (lim:=lim) (pd:=pd) ⟨H.1,by omega⟩ D;have an:aq.l5 (Vw 256 aq.ou) (bv 1 (addr 1 y) 0)=(kf (addr 1 y),0,0):=(by trivial);dsimp only[pf];apply J [134,34];refine Vh rfl (λV=>absurd V (λh=>h rfl)) (λV=>?_);apply J [4,64,3,229,0];apply au (aq.od Q (Vw 256 aq.ou) (bv 1 (addr 1 y) 0) ⟨Xd,λp D=>by rw[List.eq_of_mem_replicate D];exact⟨WH 0,(by decide:(0:Int)<=1048575)⟩⟩);apply J [10];rw[an];apply J [2,37,110];exact bu (hj,af,addr 1 y,N) trivial (ay (⟨Q,bx,kd (dt lim) 0 1 (some y)⟩:eY) ⟨aO,W⟩ ai)
end Go.Proofs.Q
namespace Go.Proofs.Q.b2
open Go Go.QM
variable{Z:List Fn}{u:Fn}
theorem P8{M:List Fn}(an:jU Z)(d:Z.Perm (u::M))(p:Int):((⟨u.id,p,u.dH,u.ci⟩:Fn)::M).Perm (g8 Z u p):=
 ((xo an d).symm.cons _).trans (We _ _).symm
theorem AP(hu:u∈Z)(p x:Int):fV (g8 Z u p) x↔fV Z x:=by
 have:fV (g8 Z u p) x↔fV (ha Z u.id) x\/u.id=x:=by simp[g8,fV,or_and_right,exists_or]
 rw[this,uM];constructor;rintro(h|h);simp_all;exact⟨u,hu,h⟩;grind
theorem FW(an:jU Z)(hu:u∈Z)(p:Int):(g8 Z u p).length=Z.length:=by grind[uN,g8]
theorem Ms{S T:List Fn}(E:oz S)(H:oz T)(h:∀o i,(∃t∈S,iv t=o/\t.id=i)↔∃t∈T,iv t=o/\t.id=i):ka S=ka T:=by funext o;by_cases d:kB S o;obtain⟨t,w,rfl⟩:=d;obtain⟨u,hu,C,D⟩:=(h (iv t) t.id).1 ⟨t,w,rfl,rfl⟩;grind[Ec];rw[wt d,wt];rintro⟨u,hu,C⟩;obtain⟨t,w,D,_⟩:=(h o u.id).2 ⟨u,hu,C,rfl⟩;exact d ⟨t,w,D⟩
variable{last:Int}
theorem Ea(h:cM Z last)(hu:u∈Z){p:Int}(D:0<=p/\p<u.id):ka (g8 Z u p)=ka Z:=by refine Ms (h.move hu D).no h.no λo i=>?_;constructor;rintro⟨t,d,w,C⟩;rcases Vg.1 d with d|d;grind[l2];rw[Vf.1 d]at w C;exact⟨u,hu,w,C⟩;rintro⟨t,d,w,C⟩;by_cases e:t.id=u.id;have:=h.bA.inj d hu e;subst this;exact⟨_,Vg.2 (.inr (Vf.2 rfl)),w,C⟩;exact⟨t,Vg.2 (.inl (l2.2 ⟨d,e⟩)),w,C⟩
theorem Am(an:jU Z)(hu:u∈Z){p x:Int}(d:p≠x)(w:u.par≠x):c6 (g8 Z u p) x=c6 Z x:=by grind[g8,uu,Al,sK]
theorem Pc(an:jU Z)(hu:u∈Z){p:Int}(d:p≠0)(w:u.par≠p):c6 (g8 Z u p) p=c6 Z p++[u.id]:=by grind[g8,uu,Fo,sK]
def AT(p:Int)(Z:List Fn)(k:Int):List Fn:=match rx Z k with
  | some u=>g8 Z u p
  | none=>Z
def kg(L:List Fn)(id:Int):List Fn:=match rx L id with
  | some t=>(c6 L id).foldl (AT t.par) (ha L id)
  | none=>L
def Ax(L:List Fn)(id:Int):Int:=if fV L id then 0 else 6
structure nN(L:List Fn)(last:Int)(t:Fn)(i:Nat)(Z:List Fn):Prop where
  eq:Z=((c6 L t.id).take i).foldl (AT t.par) (ha L t.id)
  et:cM Z last
  no:¬fV Z t.id
  todo:∀j k,i<=j->(c6 L t.id)[j]? =some k->∃u∈Z,u.id=k/\u.par=t.id
  len:Z.length=(ha L t.id).length
theorem nN.start{L:List Fn}(h:cM L last){t:Fn}(D:t∈L):nN L last t 0 (ha L t.id) where
 eq:=rfl
 et:=h.off _
 no:=λd=>(uM.1 d).2 rfl
 todo:=λj k _ C=>by obtain⟨_,u,hu,w,d⟩:=pH.1 (Vi C);have:=h.rg u hu;exact⟨u,l2.2 ⟨hu,by omega⟩,d,w⟩
 len:=rfl
theorem nN.next{L:List Fn}(h:cM L last){t:Fn}(P:t∈L){i:Nat}(d:nN L last t i Z)(hu:u∈Z)(C:(c6 L t.id)[i]? =some u.id)(N:0<=t.par/\t.par<u.id):nN L last t (i+1) (g8 Z u t.par) where
 eq:=by rw[Vv,C,Option.toList,List.foldl_append,<-d.eq,List.foldl_cons,List.foldl_nil,AT,wA d.et.bA hu]
 et:=d.et.move hu N
 no:=by rw[AP hu];exact d.no
 todo:=λj k O D=>by obtain⟨v,hv,w,H⟩:=d.todo j k U D;refine⟨v,Vg.2 (.inl (l2.2 ⟨hv,λe=>?_⟩)),w,H⟩;obtain⟨E,ba⟩:=Vo.1 C;obtain⟨a2,bC⟩:=Vo.1 D;exact(List.pairwise_iff_getElem.1 (Fl h.bA t.id)) i j E a2 U (by rw[ba,bC,<-w,e])
 len:=by rw[FW d.et.bA hu];exact d.len
theorem nN.done{L:List Fn}(h:cM L last){t:Fn}(u:t∈L)(d:nN L last t (c6 L t.id).length Z):kg L t.id=Z:=by have:=d.eq;rw[V0]at this;rw[kg,wA h.bA u,this]
theorem Mx(b:Nat)(id x:Int):bt 287 [aa x,ae b] (λF=>Rd F b (.cells #[aa id] 3 (0,0))) [] (.bool (decide (x=id))) []:=by apply aH Tryz.func287 Tryz.ntmps287;intro F d;apply J [8];haveI:fL F b (.cells #[aa id] 3 (0,0)):=⟨d⟩;apply J [246,85,290,66];exact j4
theorem My(b:Nat)(A:Int->Nat)(L:List Fn)(last:Int)(t:Fn)(d:t∈L)(aB:L.length<=1000000):bK 225 [ae b,aa t.id] be [ur b A L last] (λ_:Option Addr×Nat=>.agg (ints [t.dH,t.ci]).toArray) (λ_=>True) (λy=>[ur b A (ha L t.id) last,aj (A t.id) 219 [aa t.dH,aa t.ci,aa t.par,.slice y.1 (c6 L t.id).length y.2],aX 3 1 y.1 (c6 L t.id).length y.2 (ints (c6 L t.id))]):=by
 apply aH Tryz.func225 Tryz.ntmps225;intro F _;refine J [1,26,414] ?_;intro ba;refine J [0,540] ?_;intro bC;apply J [29];refine ab.open 2 rfl (λar aq=>?_);obtain⟨ad,cap,aF,bv⟩:=ar;have aw:=aq;apply J [145];dsimp only at aw⊢;have aA:=px (A:=A) ⟨t,d,rfl⟩;have aL:=uN aw.bA d;have H:(ha L t.id).length=L.length-1:=U
 have V:ka L (t.dH,t.ci)=some (aa t.id):=Ec aw.no d;have aQ:=aw.rg t d;obtain⟨M,bO⟩:=fB d;have Z:=aw.bA.perm bO.symm;apply J [385,542];refine cD [0,1,2,3,4,5,6] (VZ _) ?_;refine bI rfl rfl rfl (fW rfl) ?_;apply J [89,102,94,543];refine bI rfl rfl rfl (oC rfl) ?_;apply J [74,6,6];rw[aA];apply J [39,175,55,0];apply au (py b aF bv L.length last (iE A L) t.par);apply J [146];by_cases N:fV L t.par;obtain⟨u,hu,an⟩:=N;have Q:iE A L t.par=some (.pointer (some ⟨A u.id,0,none⟩)):=by rw[<-an];exact px ⟨u,hu,rfl⟩
 rw[Q];have ah:u∈M:=cr;obtain⟨D,E⟩:=fB ah;have av:=(Vy.1 ((E.map (·.id)).nodup_iff.1 (Vy.1 Z).2)).1;have az:=uv L u.id;have W:∀x∈D,t.par≠x.id:=cr
 have P:∀x∈D,ir A ad cap L x=ir A ad cap (ha L t.id) x:=λx w=>(by dsimp only[ir];rw[sK aw.bA d (W x w)]);have O:∀x∈D,iq ad cap L x=iq ad cap (ha L t.id) x:=λx w=>(by dsimp only[iq];rw[sK aw.bA d (W x w)]);have C:(u::D).Perm (ha L t.id):=E.symm.trans (xo aw.bA bO).symm;apply J [274,336,2,20];refine WI (fN 5 rfl E) ?_;refine WI (fN 5 rfl E) ?_;apply J [39,175,248,413,0];refine aK (wm (ad u.id) (cap u.id) (c6 L u.id) 287 [ae ba] (λy=>decide (y=t.id)) (λF=>Rd F ba (.cells #[aa t.id] 3 (0,0))) (λy=>Mx ba t.id y) U (λ_ h=>iW h) (λ_ _ h=>lG (iW h))) rfl (ed 0 rfl (eC _)) fL.rd ?_;intro _ _;apply J [299];rw[Pb];apply J [80,383,279,29];refine cD [0,1,2,3,4,-5] (eK (bM 9 rfl (a6 _))) ?_;apply J [50,94,230];refine lM 3 216 rfl (Yl rfl) rfl rfl rfl ?_;refine J [113,6] ?_;refine cD [0,1,2,3,4,5,6,7,-8] (eG (bM 6 rfl (a6 _))) ?_;refine J [137,350,374,230,612,113,46] ?_;refine q rfl rfl (fQ (vs:=ints [_,_]) 2 rfl rfl rfl rfl) ?_;apply J [23,480,260];exact b7.i ⟨ad t.id,cap t.id⟩ [_] ⟨(fa (n:=2) rfl rfl rfl rfl),trivial⟩ rfl trivial (ay ⟨ad,cap,aF,bv⟩ (aw.off t.id) (bM 7 rfl (b9 2 rfl (by rw[D8,aA,H];rfl) (b9 1 rfl (by rw[Eb aw.bA aw.no d,V,H];rfl) (cX 1 3 u rfl rfl rfl P C (cX 1 1 u rfl rfl rfl O C (bw (bN (bw (a6 _))))))))));have Q:=qy (A:=A) N;rw[Q];have P:∀x∈M,ir A ad cap L x=ir A ad cap (ha L t.id) x:=λx w=>(by dsimp only[ir];rw[sK aw.bA d (λe=>N ⟨x,bO.mem_iff.2 (by simp[w]),e.symm⟩)]);have O:∀x∈M,iq ad cap L x=iq ad cap (ha L t.id) x:=λx w=>(by dsimp only[iq];rw[sK aw.bA d (λe=>N ⟨x,bO.mem_iff.2 (by simp[w]),e.symm⟩)]);have C:=(xo aw.bA bO).symm;apply J [274,336,122];refine cD [0,1,2,3,4,-5] (ao (bM 7 rfl (a6 _))) ?_;apply J [50,94,230];refine lM 3 216 rfl (Yl rfl) rfl rfl rfl ?_;refine J [113,6] ?_;refine cD [0,1,2,3,4,5,6,7,-8] (bN (cO (a6 _))) ?_;refine J [137,350,374,230,612,113,46] ?_;refine q rfl rfl (fQ (vs:=ints [_,_]) 2 rfl rfl rfl rfl) ?_;apply J [23,480,260];exact b7.i ⟨ad t.id,cap t.id⟩ [_] ⟨(fa (n:=2) rfl rfl rfl rfl),trivial⟩ rfl trivial (ay ⟨ad,cap,aF,bv⟩ (aw.off t.id) (cO (b9 2 rfl (by rw[D8,aA,H];rfl) (b9 1 rfl (by rw[Eb aw.bA aw.no d,V,H];rfl) (pv 4 rfl P C (pv 2 rfl O C (bw (bN (bw (a6 _))))))))))
theorem Es(b:Nat)(L:List Fn)(last:Int)(id:Int)(b1:L.length<=1000000):bt 167 [ae b,aa id] be [hP b L last] (aa (Ax L id)) [hP b (kg L id) last]:=by
 apply aH Tryz.func167 Tryz.ntmps167;intro F _;apply J [1];refine ab.open 0 rfl (λA _=>?_);apply J [1];refine ab.open 0 rfl (λa9 a8=>?_);obtain⟨ad,cap,aF,bv⟩:=a9;have aw:=a8;apply J [161];dsimp only at aw⊢;by_cases N:fV L id;·have aA:=px (A:=A) N;have a4:Ax L id=0:=ax N;rw[a4];obtain⟨t,D,rfl⟩:=N;apply J [98];apply au (py b aF bv L.length last (iE A L) t.id);apply J [14];rw[aA];apply J [57,75,101,191,101,191,206];refine WI (B:=ag [ur b A L last,F]) (ay ⟨ad,cap,aF,bv⟩ aw (ao (ao (ao (ao (ao (ao (a6 _)))))))) ?_;apply J [178];apply bb (My b A L last t D U);intro y _;apply J [17,29,127,248,177];clear aA;have H:=aw;clear aw;have ce:=H.rg t D;have b6:=uN H.bA D;have bY:=uv L t.id;have bW:=ec (c6 L t.id);refine VQ (ι:=Nat×List Fn) (λs=>nN L last t s.1 s.2/\s.1<=(c6 L t.id).length) (λs=>[(0,ae b),(5,.pointer (some ⟨(A t.id),0,none⟩)),(24,.slice y.1 (c6 L t.id).length y.2),(25,aa (c6 L t.id).length),(26,aa ((s.1:Nat):Int))]) (λs=>ag [ur b A s.2 last,aj (A t.id) 219 [aa t.dH,aa t.ci,aa t.par,.slice y.1 (c6 L t.id).length y.2],aX 3 1 y.1 (c6 L t.id).length y.2 (ints (c6 L t.id)),F]) (λs=>(c6 L t.id).length-s.1) ⟨0,ha L t.id⟩ ⟨nN.start H D,Vl _⟩ bG (ao (ao (ao (ao (a6 _))))) ?_;rintro⟨i,Z⟩ ⟨d,bl⟩ cn;dsimp only[cx]at d bl⊢;apply J [43];apply Vh rfl<;>intro b2;(·obtain⟨k,aW⟩:∃k,(c6 L t.id)[i]? =some k:=⟨_,Ve (show i<(c6 L t.id).length by omega)⟩;(have cc:0<(ints (c6 L t.id)).length:=by omega);obtain⟨u,hu,bp,bD⟩:=d.todo i k (Vm _) aW;subst bp;have cg:=d.et.rg u hu;(have a3:0<=t.par/\t.par<u.id:=by omega);have hIn:=d.next H D hu aW a3;obtain⟨M,bO⟩:=fB hu;have bj:=d.et.bA.perm bO.symm;have aA:=px (A:=A) ⟨u,hu,rfl⟩;have V:=FW d.et.bA hu t.par;have cl:=d.len;have bi:∀x∈Z,u.par≠x.id:=λx C e=>d.no ⟨x,C,by rw[<-e,bD]⟩;have av:=P8 d.et.bA bO t.par;have Q:c6 (g8 Z u t.par) u.id=c6 Z u.id:=Am d.et.bA hu U U;refine J [187] ?_;refine q rfl rfl (dk rfl rfl (hO aW)) ?_;apply J [31];refine ab.open 0 rfl (λa9 a8=>?_);obtain⟨ad,cap,aF,bv⟩:=a9;have aw:=a8;apply J [145];dsimp only at aw⊢;refine J [385,542,613,50,11,543] ?_;rw[aA];apply J [185,89,366,91,512,74,37,175,55,0];apply au (py b aF bv Z.length last (iE A Z) t.par);apply J [146];by_cases a2:fV Z t.par;obtain⟨w,hw,a5⟩:=a2;(have aQ:iE A Z t.par=some (.pointer (some ⟨A w.id,0,none⟩)):=by rw[<-a5];exact px ⟨w,hw,rfl⟩);rw[aQ];have cj:=d.et.rg w hw;have bK:w∈M:=cr;obtain⟨O,P⟩:=fB bK;have bR:=(Vy.1 ((P.map (·.id)).nodup_iff.1 (Vy.1 bj).2)).1;have b0:=uv Z w.id;have a0:∀x∈O,x.id≠w.id/\c6 (g8 Z u t.par) x.id=c6 Z x.id:=λx C=>(by(have ck:x∈M:=by grind);(have ah:x∈Z:=by grind);(have bf:x.id≠w.id:=by simp_all);exact⟨bf,Am d.et.bA hu (λe=>bf (by rw[a5,e])) (bi x ah)⟩);(have bd:c6 (g8 Z u t.par) w.id=c6 Z w.id++[u.id]:=by rw[a5];exact Pc d.et.bA hu U U);have bc:(⟨u.id,t.par,u.dH,u.ci⟩::w::O:List Fn).Perm (g8 Z u t.par):=(P.symm.cons _).trans av;(have W:u.id≠w.id:=by omega);have bS:=ec (c6 Z w.id);apply J [274,336,2,20];refine WI (fN 5 rfl P) ?_;refine WI (fN 6 rfl P) ?_;refine J [39,175,248,68] ?_;intro ch;refine e rfl ?_;refine ap 8 rfl rfl rfl rfl rfl (Vr rfl) (show _=ints [u.id]from rfl) rfl U gq ?_;intro an aq;refine J [80,383,279,62] ?_;have aL:∀x∈O,ir A ad cap Z x=ir A (aP ad w.id an) (aP cap w.id aq) (g8 Z u t.par) x:=λx C=>(by obtain⟨E,ar⟩:=a0 x C;dsimp only[ir];rw[bQ E,bQ E,ar]);have aB:∀x∈O,iq ad cap Z x=iq (aP ad w.id an) (aP cap w.id aq) (g8 Z u t.par) x:=λx C=>(by obtain⟨E,ar⟩:=a0 x C;dsimp only[iq];rw[bQ E,bQ E,ar]);exact⟨rfl,⟨i+1,g8 Z u t.par⟩,⟨hIn,by dsimp only;omega⟩,cB,bG,(ay ⟨aP ad w.id an,aP cap w.id aq,aF,bv⟩ hIn.et (eG (b9 5 rfl (by rw[D7 (AP hu t.par),V]) (b9 7 rfl (by rw[Ea d.et hu a3,V]) (t7 5 0 3 (⟨u.id,t.par,u.dH,u.ci⟩:Fn) w rfl rfl rfl (by dsimp only[ir];rw[bQ W,bQ W,Q];rfl) (by dsimp only[ir];rw[cm,cm,bd,mp];rfl) aL bc (t7 3 0 1 (⟨u.id,t.par,u.dH,u.ci⟩:Fn) w rfl rfl rfl (by dsimp only[iq];rw[bQ W,bQ W,Q]) (by dsimp only[iq];rw[cm,cm,bd,mp,Vn,pF]) aB bc (bN (bN (bN (a6 _))))))))))⟩;have aQ:=qy (A:=A) a2;rw[aQ];have a0:∀x∈M,c6 (g8 Z u t.par) x.id=c6 Z x.id:=λx C=>(by(have ah:x∈Z:=by grind);exact Am d.et.bA hu (λe=>a2 ⟨x,ah,e.symm⟩) (bi x ah));(have aL:∀x∈M,ir A ad cap Z x=ir A ad cap (g8 Z u t.par) x:=by grind);(have aB:∀x∈M,iq ad cap Z x=iq ad cap (g8 Z u t.par) x:=by grind);refine J [274,336,115,114] ?_;exact⟨rfl,⟨i+1,g8 Z u t.par⟩,⟨hIn,by dsimp only;omega⟩,cB,bG,(ay ⟨ad,cap,aF,bv⟩ hIn.et (ao (b9 0 rfl (by rw[D7 (AP hu t.par),V]) (b9 4 rfl (by rw[Ea d.et hu a3,V]) (cX 0 2 (⟨u.id,t.par,u.dH,u.ci⟩:Fn) rfl rfl (by dsimp only[ir];rw[Q];rfl) aL av (cX 0 0 (⟨u.id,t.par,u.dH,u.ci⟩:Fn) rfl rfl (by dsimp only[iq];rw[Q]) aB av (ao (ao (ao (a6 _))))))))))⟩);(obtain rfl:i=(c6 L t.id).length:=by omega);rw[d.done H D];apply J [19,199];exact eZ (ay A trivial (ao (bw (a6 _))))
 have aA:=qy (A:=A) N;have a4:Ax L id=6:=al N;have bE:kg L id=L:=by grind[kg,En]
 rw[a4,bE];apply J [98];apply au (py b aF bv L.length last (iE A L) id);apply J [14];rw[aA];apply J [57,75,101,191,101,38,201];exact I3
end Go.Proofs.Q.b2
namespace Go.Proofs.Q
open Go Go.QM
variable [cZ] [eL]
structure cC where
  A:bR
  L:List b2.Fn
  last:Int
structure bV where
  aI:Nat
  bz:Nat
  U5:aI=eL.aI:=by first|assumption|rfl
def cU(aC af top:Nat)(X:cC):av:=e7 λy:bV=>pure' True (ag [aj aC 148 [ae y.aI,ae y.bz],fP y.aI af top X.A,b2.hP y.bz X.L X.last])
variable{top:Nat}
theorem hn{aC af:Nat}{X:cC}:∀u,cU aC af top X u->cc X.A/\∃S,ck top X.A S:=by rintro u ⟨y,_,a,b,d,rfl,C,w,c2,d2,rfl,⟨z,D,_⟩,_⟩;grind
def c7(A:bR)(h:Int):Nat:=(b5 A.l h 2).1.a.toNat
def bX(A:bR)(h:Int):Int:=(b5 A.l h 2).1.f
def bi(h:Int):Nat:=(h %256).toNat
variable{A:bR}
theorem p2{S:cT}(aO:ck top A S){h:Int}(P:0<=h)(e:(b5 A.l h 2).2=0):cA A.l (bi h) 1 (bv 2 (c7 A h) (bX A h))/\∃g,h=g*256+(bi h:Int)/\A.l[bi h]? =some ⟨bv 2 (c7 A h) (bX A h),1,g⟩:=by
 obtain⟨i,p,W,d,w,Z,Q,V,C,u⟩:=jv P e;have u:=u.resolve_left am;obtain⟨c,a,f,O,_,_⟩:=aO.obj i 1 p.o (.inl rfl) ⟨p.c3,by rw[<-w];exact d⟩;have E:=uL O u;obtain⟨o,s,g⟩:=p;dsimp only at*;subst w;subst E;have D:bi h=i:=V;have H:c7 A h=a:=by rw[c7,C];rfl
 have N:bX A h=f:=by rw[bX,C];rfl
 rw[D,H,N];exact⟨⟨g,d⟩,g,Q,d⟩
def gn(A:bR)(i:Nat)(s:Int):Nat:=if 0<=s/\s<256 then A.aL i s.toNat else 0
theorem k8{i s:Nat}(h:s<256):gn A i (s:Int)=A.aL i s:=ax ⟨by omega,by omega⟩
theorem Mj{i:Nat}{s:Int}(h:¬(0<=s/\s<256)):gn A i s=0:=al h
def iX(w:Nat):Nat:=w %4294967296-1
def k6(w:Nat):Nat:=w/4294967296
theorem k7{h r:Nat}(d:h<4294967295):iX (dM h r)=h/\k6 (dM h r)=r:=by rw[iX,k6,dM];omega
theorem QU{h r:Nat}(d:h<4294967295):dM h r&&&4294967295=h+1:=by rw[show(4294967295:Nat)=2^32-1 from rfl,Nat.and_two_pow_sub_one_eq_mod,dM];omega
theorem QT{h r:Nat}(d:h<4294967295):dM h r/2^32=r:=by rw[dM];omega
theorem QV{h r:Nat}(d:h<4294967295):(h+1)|||(r*4294967296)=dM h r:=by have:=Nat.two_pow_add_eq_or_of_lt (i:=32) (b:=h+1) U r;grind[dM]
theorem Ce(h r:Nat)(d:h<4294967295)(hr:r<=15):bt 166 [.agg #[aT h,aa r]] be [] (bn (dM h r:Int)) []:=by apply aH Tryz.func166 Tryz.ntmps166;intro F _;refine J [196,384] ?_;intro ba;apply J [27,111];refine q rfl rfl (conv .u32 .u64 rfl rfl rfl (p7 U)) ?_;refine q rfl rfl (QM.mQ (b:=1) rfl rfl rfl U) ?_;refine J [61,306] ?_;refine q rfl rfl (u5 (n:=32) (c:=r*4294967296) rfl rfl am U) ?_;refine q rfl rfl (pQ rfl rfl U U (QV d)) ?_;apply J [30];exact dn
variable(s:Int)
theorem sb:bt 72 [aa s] be [] (.bool (decide (0<=s/\s<256))) []:=by apply aH Tryz.func72 Tryz.ntmps72;intro F _;apply J [8,246,268];refine aY.split 5 rfl (λd=>?_) (λd=>?_);have d:=dz d;apply J [204,132];exact sd;have d:=d6 d;apply J [49,71];exact se
theorem yi:bt 73 [aa s] be [] (.bool (decide (0<s/\s<=15))) []:=by apply aH Tryz.func73 Tryz.ntmps73;intro F _;apply J [8,246,216,18];refine aY.split 5 rfl (λd=>?_) (λd=>?_);have d:=dz d;apply J [12,288,132];exact sd;have d:=d6 d;apply J [49,71];exact se
theorem sa:bt 137 [aa s] be [] (.bool (decide (s<128))) []:=by apply aH Tryz.func137 Tryz.ntmps137;intro F _;apply J [8,128,347,66];exact j4
theorem Uk(k:Int):bt 194 [aa k] be [] (.bool (decide (k=8\/1<=k/\k<=5))) []:=by apply aH Tryz.func194 Tryz.ntmps194;intro F _;apply J [8];by_cases u:k=8;subst u;refine J [246,193,476,52,162,162,363,132] ?_;exact j4;apply J [246,193];refine VM 5 rfl (c:=false) (du u) ?_;apply J [12,303,317];refine aY.split 8 rfl (λd=>?_) (λd=>?_);have d:=dz d;apply J [12,288,369,71];exact sd;have d:=d6 d;apply J [49,386,71];exact se
theorem po(aI af d bx:Nat):bt 29 [ae aI] be [aj aI 135 [ae af,ae d,ae bx]] (ae af) [aj aI 135 [ae af,ae d,ae bx]]:=by apply aH Tryz.func29 Tryz.ntmps29;intro F _;apply J [1,131,42,40,110];exact hH
theorem oY(aC af top:Nat)(X:cC)(h:Int)(C:0<=h/\h<=4294967295)(D:(b5 X.A.l h 2).2=0):bK 64 [ae aC,aT h] c5 [cU aC af top X] (λaS:Nat=>.tuple #[.agg #[ae aS,aT h,aa (bX X.A h)],aa 0]) (λ_=>True) (λaS=>[aj aS 163 [ae af,aa (bX X.A h),aa (c7 X.A h:Int)],cU aC af top X]):=by apply aH Tryz.func64 Tryz.ntmps64;intro F E;apply J [1];haveI:cw F:=⟨E⟩;apply ab.open 0 rfl;rintro⟨aI,bz⟩-;apply J [87];dsimp only;refine J [26,571] ?_;intro bC;apply J [31,42,40,28];apply au (jX aI af top X.A h C 2);refine J [10,255] ?_;intro ch;apply J [116,34];refine Vh rfl (λw=>absurd w (λh=>h D)) (λw=>?_);apply ab.open 1 rfl;rintro⟨u,bx,S⟩ ⟨aO,d⟩;apply J [79];dsimp only at aO d⊢;obtain⟨N,O⟩:=p2 aO C.1 D;obtain⟨g9,V,W⟩:=O;have H:=aO.P;have Q:=(aO.hF _ _ _ N).1.tk;have cb:(b5 X.A.l h 2).1=bv 2 (c7 X.A h) (bX X.A h):=(by grind[jv,bi]);rw[cb];apply J [44];refine cD [0,1,2,3,5,6,7,8,10,11,12,-4,-9,13,-14,15] (show aE (ag _) (ag [aj ch 60 (ints (bv 2 (c7 X.A h) (bX X.A h)).l),aj aC 148 [ae aI,ae bz]])from ai) ?_;apply J [50,136,143,11,136,15];apply au (po aI af u bx);refine J [232,45] ?_;apply bb (S9 af top (bX X.A h) (c7 X.A h) S H Q);intro aS _;refine J [282] ?_;refine bI rfl rfl rfl (ek (cs:=[.pointer _,.int _ _,.int _ _]) rfl) ?_;refine J [283,70,147] ?_;exact b7.i aS [_,_] ⟨(fa (n:=3) rfl rfl rfl rfl),rfl,trivial⟩ rfl trivial (bN (ay (bV.mk aI bz:bV) trivial (bM 6 rfl (ay (⟨u,bx,S⟩:eY) ⟨aO,d⟩ ai))))
theorem q7(aC af top:Nat)(X:cC)(h:Int)(u:0<=h/\h<=4294967295)(w:(b5 X.A.l h 2).2≠0):bt 64 [ae aC,aT h] be [cU aC af top X] (.tuple #[.agg #[.pointer none,aT 0,aa 0],aa (b5 X.A.l h 2).2]) [cU aC af top X]:=by apply aH Tryz.func64 Tryz.ntmps64;intro F _;refine J [341] ?_;rintro⟨aI,bz⟩-;apply J [87];dsimp only;refine J [26,571] ?_;intro C;apply J [31,42,40,28];apply au (jX aI af top X.A h u 2);refine J [10,255] ?_;intro D;apply J [116,34];refine Vh rfl (λd=>?_) (λd=>absurd (w) d);apply J [24,595,251,123];exact b7.i () [_,_] ⟨(fa (n:=3) rfl rfl rfl rfl),rfl,trivial⟩ rfl trivial (ay (bV.mk aI bz:bV) trivial ai)
theorem Tq:bt 77 [aa s] be [] (.bool (decide (0<=s/\s<256))) []:=by apply aH Tryz.func77 Tryz.ntmps77;intro F _;apply J [8,246,268];refine aY.split 5 rfl (λd=>?_) (λd=>?_);have d:=dz d;apply J [204,132];exact sd;have d:=d6 d;apply J [49,71];exact se
theorem Th(aS af:Nat)(d:Int)(t:Nat)(s:Int)(hs:¬(0<=s/\s<256)):bt 30 [ae aS,aa s] be [aj aS 163 [ae af,aa d,aa t]] (.tuple #[bn 0,bn 0]) [aj aS 163 [ae af,aa d,aa t]]:=by apply aH Tryz.func30 Tryz.ntmps30;intro F _;apply J [1,24,243,254,280];apply au (Tq s);apply J [5];rw[du hs];apply J [319,41,47,139,348];exact hI ai
theorem oq(aC af top:Nat)(X:cC)(aS:Nat)(h:Int)(W:0<=h/\h<=4294967295)(an:(b5 X.A.l h 2).2=0)(s:Int):bt 65 [.agg #[ae aS,aT h,aa (bX X.A h)],aa s] be [aj aS 163 [ae af,aa (bX X.A h),aa (c7 X.A h:Int)],cU aC af top X] (.tuple #[.agg #[aT (if(gn X.A (bi h) s)=0 then 0 else(iX (gn X.A (bi h) s):Int)),aa (if(gn X.A (bi h) s)=0 then 0 else(k6 (gn X.A (bi h) s):Int))],.bool (decide ((gn X.A (bi h) s)≠0))]) [aj aS 163 [ae af,aa (bX X.A h),aa (c7 X.A h:Int)],cU aC af top X]:=by
 apply aH Tryz.func65 Tryz.ntmps65;intro F _;apply J [13];by_cases D:0<=s/\s<256;obtain⟨er,rfl⟩:∃k:Nat,s=(k:Int):=⟨s.toNat,(Wf D.1).symm⟩;have E:er<256:=U
 rw[k8 E];apply ab.open 1 rfl;rintro⟨aI,bz⟩-;apply J [82];dsimp only;apply ab.open 1 rfl;rintro⟨H,bx,S⟩ ⟨aO,u⟩;apply J [145];dsimp only at aO u⊢;obtain⟨Z,aB⟩:=p2 aO W.1 an;obtain⟨V,C⟩:=aO.hF _ _ _ Z;have C:=(C er E).1;refine J [26,308] ?_;intro av;refine J [0,235] ?_;intro hj;apply J [38,111,28];apply au (r1 aS af top (bX X.A h) (c7 X.A h) S aO.P V er E);apply J [146];rw[C];apply J [134,171];apply Vh rfl<;>intro d;have d:X.A.aL (bi h) er=0:=U
 rw[d];apply J [24,150,339,76];exact b7.i () [_,_] ⟨(fa (n:=2) rfl rfl rfl rfl),rfl,trivial⟩ rfl trivial (bN (ay (bV.mk aI bz:bV) trivial (bM 6 rfl (ay (⟨H,bx,S⟩:eY) ⟨aO,u⟩ ai))));have d:X.A.aL (bi h) er≠0:=U
 obtain⟨_,_,x,r,hw,aQ,ah,w,_⟩:=u.aL _ _ d;obtain⟨O,Q⟩:=k7 (r:=r) w;rw[hw]at d⊢;rw[O,Q,al d,al d,da d];have N:=jL w ah;apply J [4,25];refine q rfl rfl (k2 (b:=4294967295) rfl rfl N.1 am (QU w)) ?_;refine q rfl rfl (conv .u64 .u32 rfl rfl rfl (q5 U U)) ?_;refine q rfl rfl (bF.to (v:=(x:Int)) (sub rfl rfl (q5 U U)) U) ?_;apply J [3];refine q rfl rfl (jP (n:=32) rfl rfl N.1 (QT w)) ?_;refine J [307,150,103,66] ?_;exact b7.i () [_,_] ⟨(fa (n:=2) rfl rfl rfl rfl),rfl,trivial⟩ rfl trivial (bN (ay (bV.mk aI bz:bV) trivial (bM 6 rfl (ay (⟨H,bx,S⟩:eY) ⟨aO,u⟩ ai))));rw[show gn X.A (bi h) s=0 from Mj D];refine J [26,308] ?_;intro aq;refine J [0,235] ?_;intro ar;apply J [38,111,28];apply au (Th aS af (bX X.A h) (c7 X.A h) s D);apply J [10,134,171,58,150,339,76];exact ot
theorem Nr{S u w:cT}{c a:Nat}(g:gd top S u hS hS)(k:gd top u w (fy c a) (fy c a))(an:¬c8 S c a):gd top S w hS hS:=by
 have E:∀d b,c8 S d b->¬fy c a d b:=λd b h=>by rintro⟨rfl,rfl⟩;exact an h
 exact⟨k.P,λd b h _=>k.p d b (g.p d b h λh=>h) (E d b h),λd b h _ o C D=>(k.m d b (g.p d b h λh=>h) (E d b h) o C D).trans (g.m d b h (λh=>h) o C D),λ_ _ h=>h⟩
theorem BB{i s:Nat}(hs:s<256)(u:A.aL i s=0):l6 A i s↔j1 (A.aL i) (s/16)≠0:=by rw[j1,BK];constructor;rintro⟨r,D,d,_,w⟩;exact⟨r %16,by omega,by rw[show 16*(s/16)+r %16=r by omega];exact w⟩;rintro⟨k,C,d⟩;exact⟨16*(s/16)+k,by omega,by omega,λe=>d (by rw[e];exact u),d⟩
theorem Nz{many aD i:Nat}{L L':List cj}(g:lA many L L' aD i):∃(k:Nat) (f:Nat->Bool),L'[k]? =some ⟨aD,f⟩/\f i=true:=by cases g with|old A B f w d u C=>exact⟨A.length,ff f i,by rw[d];simp,by rw[zG,u];rfl⟩|new A B w d u C D E=>exact⟨A.length,λj=>decide (j=0),by rw[d];simp,by rw[u];rfl⟩
def re(top:Nat)(A:bR)(f:Int):Prop:=(aB.df A.Q f 48).2≠0\/(aB.df (aB.df A.Q f 48).1 f 256).2≠0\/2^top<=A.np+1
def rJ(A:bR)(f:Int)(Q:List aB.bY):Prop:=Q=(aB.df A.Q f 48).1\/Q=(aB.df (aB.df A.Q f 48).1 f 256).1
def vB(top:Nat)(A:bR)(i s w:Nat)(f:Int)(y:Int×bR):Prop:=(y.1=0/\∃Q,y.2=A.lay i s w Q/\rJ A f Q)\/(y.1≠0/\y.2={A with np:=A.np+2}/\re top A f)
section
variable {top : Nat} {A : bR} {S cp gJ : cT} {i a s w : Nat} {f : Int}
def pi(A:bR)(w:Nat):Prop:=∃h r:Nat,w=dM h r/\1<=r/\r<=15/\h<4294967295/\(aq.cW A.l h).2=0
theorem cc.Ar(h:cc A)(u:cA A.l i 1 (bv 2 a f))(hs:s<256)(d:A.aL i s=0)(hw:pi A w)(hr:l6 A i s)(D:(aB.df A.Q f 48).2=0)(aA:A.np+2<=1000000):cc (A.lay i s w (aB.df A.Q f 48).1):=by have E:w≠0:=(by obtain⟨x,r,rfl,_,H,N,_⟩:=hw;grind[jL]);refine h.t6 u hs (jA.hA h.d8 D) ?_ (.inr hw) U;have:=BS (e:=A.aL i) (e':=fi A.aL i s w i) hs d (by rw[ij];exact E) λr C=>kS C;grind[su,BB]
theorem cc.Aq(h:cc A)(C:cA A.l i 1 (bv 2 a f))(hs:s<256)(d:A.aL i s=0)(hw:pi A w)(hr:¬l6 A i s)(E:(aB.df A.Q f 48).2=0)(H:(aB.df (aB.df A.Q f 48).1 f 256).2=0)(aA:A.np+2<=1000000):cc (A.lay i s w (aB.df (aB.df A.Q f 48).1 f 256).1):=by have N:w≠0:=(by obtain⟨x,r,rfl,_,O,P,_⟩:=hw;grind[jL]);have u:=jA.hA h.d8 E;refine h.t6 C hs (u.trans (jA.hA u.d8 H)) ?_ (.inr hw) U;have:=BS (e:=A.aL i) (e':=fi A.aL i s w i) hs d (by rw[ij];exact N) λr D=>kS D;rw[show j1 (A.aL i) (s/16)=0 from Wi λh=>hr ((BB hs d).2 h),yT]at this;omega
theorem cc.x6(h:cc A)(aA:A.np+2<=1000000):cc {A with np:=A.np+2}:=⟨h.ok,h.d8,h.rt,h.ac,h.cY,h.nl,h.aL,h.hA,h.kI,h.mA,h.mB,h.m5,h.pd,by have:=h.bd;dsimp only;omega⟩
theorem ck.x6(h:ck top A S):ck top {A with np:=A.np+2} S:=h.mZ (wG h.P rfl rfl rfl) rfl rfl rfl rfl h.Q (λ_ _ _ _ _ _ _=>⟨λh=>h,λh=>h.elim⟩) (λ_=>⟨λh=>h,λh=>h⟩) rfl (WC h.gb (Nat.le_add_right _ _))
theorem ck.Pn(D:cc A)(h:ck top A S){y:Nat×Nat×List cj}(g:iU top S 6 y)(N:(aB.df S.Q f 48).2=0)(e:cp=kd S f 6 (some y)){L':List cj}(k:jT top cp 6 y.1 y.2.1 L')(E:gJ=⟨(aB.ep cp.Q f (cg 6:Int)).1,cp.bE,dK cp.C 6 L',cp.Fr,cp.m⟩):ck top {A with np:=A.np+2} gJ:=by
 obtain⟨g1,g2⟩:=wF (bc:=cp) h.P ip g rM rM (λo D=>by rw[e];exact vq D);have an:¬c8 S 6 (addr 6 y):=λk=>g.uJ h.P ip k ⟨rfl,rfl⟩;have g3:gd top cp gJ (fy 6 (addr 6 y)) (fy 6 (addr 6 y)):=by grind[gd,addr,wE,ip]
 have H:((cg 6:Nat):Int)=48:=rfl;refine h.mZ (Nr g1 g3 an) rfl rfl rfl rfl ?_ (λ_ _ _ _ _ _ _=>⟨λh=>h,λh=>h.elim⟩) (λ_=>⟨λh=>h,λh=>h⟩) ?_ ?_;have u:cp.Q=(aB.df S.Q f 48).1:=by rw[e];rfl
 have d:cp.bE=S.bE:=by rw[e];rfl
 rw[E];dsimp only;rw[u,d,H,h.Q.1,s6 D.d8 (by rw[<-h.Q.1];exact N)];exact⟨rfl,h.Q.2⟩;have u:=ID ip g 6;have d:=IC g1.P ip k 6;rw[ax rfl]at u d;have w:cp.C=dK S.C 6 y.2.2:=by rw[e];rfl
 simp_all;have u:=g.len;have d:=k.len;have w:cp.C=dK S.C 6 y.2.2/\cp.Fr=S.Fr:=by rw[e];exact⟨rfl,rfl⟩
 rw[E];dsimp only;rw[w.1,w.2]at d⊢;have:=h.gb;omega
end
theorem yh(aC af top:Nat)(X:cC)(aS:Nat)(h:Int)(b1:0<=h/\h<=4294967295)(cc:(b5 X.A.l h 2).2=0)(s:Nat)(hs:s<256)(O:X.A.aL (bi h) s=0)(x r:Nat)(bl:x<4294967295)(hr:1<=r/\r<=15)(co:(aq.cW X.A.l x).2=0)(aA:X.A.np+2<=1000000):bK 138 [ae aC,.agg #[ae aS,aT h,aa (bX X.A h)],aa s,.agg #[aT x,aa r]] c5 [aj aS 163 [ae af,aa (bX X.A h),aa (c7 X.A h:Int)],cU aC af top X] (λy:Int×bR=>aa y.1) (λy=>vB top X.A (bi h) s (dM x r) (bX X.A h) y) (λy=>[aj aS 163 [ae af,aa (bX X.A h),aa (c7 X.A h:Int)],cU aC af top ⟨y.2,X.L,X.last⟩]):=by
 apply aH Tryz.func138 Tryz.ntmps138;intro F bS;apply J [13];haveI:cw F:=⟨bS⟩;apply ab.open 1 rfl;rintro⟨aI,bz⟩-;apply J [82];dsimp only;apply ab.open 1 rfl;rintro⟨W,bx,S⟩ ⟨aO,d⟩;apply J [145];dsimp only at aO d⊢;obtain⟨N,cn⟩:=p2 aO b1.1 cc;have cu:2^top<=128:=Vk (n:=2) am aO.P.fX.2;have ck:cg 6=48:=rfl;have a3:((cg 6:Nat):Int)=48:=rfl;have w:=jL bl hr.2;have be:pi X.A (dM x r):=by grind[pi]
 refine J [26,308] ?_;intro ba;refine J [0,384] ?_;intro bC;apply J [31];refine cD [0,1,2,3,5,6,-4,-7,8,9,10,11,12] (show aE (ag _) (ag [aj ba 150 [ae aS,aT h,aa (bX X.A h)],aj aC 148 [ae aI,ae bz]])from ai) ?_;apply J [50,136,15];apply au (po aI af W bx);refine J [225,45] ?_;apply bb (uQ af top S (bX X.A h) 6 ip);intro⟨cj,ct⟩ ah;refine J [282] ?_;cases cj with|none=>?_|some y=>?_
 dsimp only[pf,kd];have ar:re top X.A (bX X.A h):=(by have bL:=ah.2;rw[a3,aO.Q.1]at bL;rcases bL with bL|⟨_,bL⟩;exact .inl (by rw[<-bL];exact ah.1);exact .inr (.inr (WC bL (Nat.le_succ_of_le aO.gb))));have E:=d.x6 aA;have H:=aO.x6;apply J [149,281,271,6,34];refine Vh rfl (λa5=>?_) (λa5=>absurd (ah.1) a5);apply J [125];exact bu (ct,{X.A with np:=X.A.np+2}) (.inr ⟨ah.1,rfl,ar⟩) (bM 8 rfl (ay (bV.mk aI bz:bV) trivial (bM 6 rfl (ay (⟨W,bx,S⟩:eY) ⟨H,E⟩ ai))));obtain⟨rfl,bf,cH⟩:=ah;obtain⟨cp,u⟩:∃cp:cT,cp=kd S (bX X.A h) 6 (some y):=⟨_,rfl⟩;rw[<-u];dsimp only[pf];obtain⟨g1,ci,cv,t1,t2,t3⟩:=aO.node N cH u;have cq:=c8.bd g1.P ci;have av:cp.Q=(aB.df X.A.Q (bX X.A h) 48).1:=by rw[u,<-aO.Q.1];rfl
 have aQ:(aB.df X.A.Q (bX X.A h) 48).2=0:=by rw[<-aO.Q.1];exact bf
 apply J [149,281,271,6,34];refine Vh rfl (λa8=>absurd a8 (λh=>h rfl)) (λa8=>?_);apply J [44,6];refine cD [0,1,2,3,5,6,-4,-7,8] (show aE (ag _) (ag [aj ba 150 [ae aS,aT h,aa (bX X.A h)],aj bC 39 [aT x,aa r]])from ai) ?_;apply J [102,11,228,11];refine bI rfl rfl rfl (conv .i64 .u64 rfl rfl rfl (p7 U)) ?_;refine dY rfl rfl ?_;apply au (Ce x r bl hr.2);refine J [282] ?_;by_cases V:bp cp.m (c7 X.A h) (s/16)=0;have aW:¬l6 X.A (bi h) s:=λbL=>(aO.Hf N hs O).2 bL (by rw[<-t2 _ U];exact V);have a0:((cg 7:Nat):Int)=256:=rfl;refine dY rfl rfl ?_;apply bb (Tz aS af top (bX X.A h) (c7 X.A h) cp g1.P t1 s hs (dM x r) (addr 6 y) w.1 U w.2 V);intro⟨z9,ct⟩ an;refine J [282] ?_;cases z9 with|none=>?_|some z=>?_
 dsimp only[u4];obtain⟨ce,f6,b2,b0⟩:=Nz cH.m1;have bD:cp.C 6=y.2.2:=by rw[u];exact jy S.C 6 y.2.2
 have b6:(aB.ep cp.Q (bX X.A h) (cg 6:Int)).2=0:=by rw[av,a3,s6 d.d8 aQ]
 have ar:re top X.A (bX X.A h):=(by have bL:=an.2;rw[a0,av]at bL;rcases bL with bL|⟨_,bL⟩;exact .inr (.inl (by rw[<-bL];exact an.1));refine .inr (.inr (WC bL ?_));have cl:=cH.len;(have a4:cp.C=dK S.C 6 y.2.2/\cp.Fr=S.Fr:=by rw[u];exact⟨rfl,rfl⟩);rw[a4.1,a4.2];have:=aO.gb;omega);apply J [181,34];refine Vh rfl (λbc=>?_) (λbc=>absurd (an.1) bc);refine cD [0,1,2,3,5,6,7,-4,-8] (show aE (ag _) (ag [aj ba 150 [ae aS,aT h,aa (bX X.A h)],aj aC 148 [ae aI,ae bz]])from ai) ?_;apply J [50,136,263];apply au (po aI af W bx);refine J [225,45] ?_;apply bb (uR af top cp 6 ip ce y.1 y.2.1 f6 (by rw[bD];exact b2) b0 (bX X.A h) b6);intro bt bW;refine J [282] ?_;obtain⟨gJ,a2⟩:∃gJ:cT,gJ=⟨(aB.ep cp.Q (bX X.A h) (cg 6:Int)).1,cp.bE,dK cp.C 6 bt,cp.Fr,cp.m⟩:=⟨_,rfl⟩;rw[<-a2];have H:=aO.Pn d cH bf u bW a2;have E:=d.x6 aA;apply J [74,133];exact bu (ct,{X.A with np:=X.A.np+2}) (.inr ⟨an.1,rfl,ar⟩) (bw (ay (bV.mk aI bz:bV) trivial (bM 6 rfl (ay (⟨W,bx,gJ⟩:eY) ⟨H,E⟩ ai))));obtain⟨rfl,bj,bY⟩:=an;dsimp only;obtain⟨D,Z⟩:∃D:cT,D=u4 cp (bX X.A h) (c7 X.A h) s (dM x r) (addr 6 y) (some z):=⟨_,rfl⟩;rw[<-Z];rw[av,a0]at bj;have H:=aO.Aq d.ok N hs O w.2 w.1 cH u V bY Z;have E:=d.Aq N hs O be aW aQ bj aA;apply J [181,34];refine Vh rfl (λa9=>absurd a9 (λh=>h rfl)) (λa9=>?_);apply J [4,133];exact bu (0,X.A.lay (bi h) s (dM x r) (aB.df (aB.df X.A.Q (bX X.A h) 48).1 (bX X.A h) 256).1) (.inl ⟨rfl,_,rfl,.inr rfl⟩) (ao (ay (bV.mk aI bz:bV) trivial (bM 6 rfl (ay (⟨W,bx,D⟩:eY) ⟨H,E⟩ ai))));have aW:l6 X.A (bi h) s:=(aO.Hf N hs O).1 (by rw[<-t2 _ U];exact V);obtain⟨D,Z⟩:∃D:cT,D=⟨cp.Q,cp.bE,cp.C,cp.Fr,dB cp.m (bp cp.m (c7 X.A h) (s/16)+s %16*16) [dM x r,addr 6 y]⟩:=⟨_,rfl⟩;have H:=aO.Ar d.ok N hs O w.2 w.1 cH u V Z;have E:=d.Ar N hs O be aW aQ aA;refine dY rfl rfl ?_;apply au (B1 aS af top (bX X.A h) (c7 X.A h) cp g1.P t1 s hs (dM x r) (addr 6 y) w.1 U w.2 V);refine J [282] ?_;rw[<-Z];apply J [181,211,133];exact bu (0,X.A.lay (bi h) s (dM x r) (aB.df X.A.Q (bX X.A h) 48).1) (.inl ⟨rfl,_,rfl,.inl rfl⟩) (ao (ay (bV.mk aI bz:bV) trivial (bM 6 rfl (ay (⟨W,bx,D⟩:eY) ⟨H,E⟩ ai))))
section
variable {A : bR} {i a s : Nat} {f : Int}
theorem cc.HY(h:cc A)(d:cA A.l i 1 (bv 2 a f)):aB.dj A.Q f/\(kP (A.aL i):Int)<=aB.gh A.Q f:=by have aA:=(h.ac i 1 _ (.inl rfl) d).1;refine⟨aA,?_⟩;rw[show(bv 2 a f).f=f from rfl]at aA;rw[h.hA f aA];have u:=u7 (f:=h4 A f) (d.lt h.ok);rw[nW d f,ax (show fo 1/\(bv 2 a f).f=f from⟨.inl rfl,rfl⟩),ax (show(1:Int)=1/\(bv 2 a f).k=2 from⟨rfl,rfl⟩)]at u;grind[pj]
theorem HX(hs:s<256)(d:A.aL i s≠0):kP (A.aL i)=kP (fi A.aL i s 0 i)+48+256*(1-ba (j1 (fi A.aL i s 0 i) (s/16))):=
 BS (e:=fi A.aL i s 0 i) (e':=A.aL i) hs (ij ..) d λr u=>(kS u).symm
theorem Hj(hs:s<256):l6 A i s↔j1 (fi A.aL i s 0 i) (s/16)≠0:=by have u:=BB (A:={A with aL:=fi A.aL i s 0}) (i:=i) hs (ij ..);rw[<-u,l6,l6];constructor;rintro⟨r,a,b,c,d⟩;exact⟨r,a,b,c,by dsimp only;rw[kS c];exact d⟩;grind[kS]
theorem cc.yV(h:cc A)(d:cA A.l i 1 (bv 2 a f))(hs:s<256)(u:A.aL i s≠0)(hr:l6 A i s):(aB.ep A.Q f 48).2=0/\cc (A.bare i s (aB.ep A.Q f 48).1):=by obtain⟨w,E⟩:=h.HY d;have C:=HX hs u;rw[su ((Hj hs).1 hr)]at C;obtain⟨bS,D⟩:=jA.rV h.d8 w (n:=48) am U;exact⟨bS,h.t6 d hs D U (.inl rfl) ⟨Vm _,h.bd.2.2⟩⟩
theorem cc.yU(h:cc A)(C:cA A.l i 1 (bv 2 a f))(hs:s<256)(D:A.aL i s≠0)(hr:¬l6 A i s):(aB.ep A.Q f 256).2=0/\(aB.ep (aB.ep A.Q f 256).1 f 48).2=0/\cc (A.bare i s (aB.ep (aB.ep A.Q f 256).1 f 48).1):=by obtain⟨u,O⟩:=h.HY C;have E:=HX hs D;rw[show j1 (fi A.aL i s 0 i) (s/16)=0 from Wi λh=>hr ((Hj hs).2 h),yT]at E;obtain⟨bS,d⟩:=jA.rV h.d8 u (n:=256) am U;have w:=d.fU _ u;rw[ax rfl]at w;obtain⟨H,N⟩:=jA.rV d.d8 ((d.has _).2 u) (n:=48) am (by rw[w];omega);exact⟨bS,H,h.t6 C hs (d.trans N) U (.inl rfl) ⟨Vm _,h.bd.2.2⟩⟩
end
theorem Cd(aC af top:Nat)(X:cC)(aS:Nat)(h:Int)(bj:0<=h/\h<=4294967295)(b0:(b5 X.A.l h 2).2=0)(s:Nat)(hs:s<256)(w:X.A.aL (bi h) s≠0):bK 168 [ae aC,.agg #[ae aS,aT h,aa (bX X.A h)],aa s] c5 [aj aS 163 [ae af,aa (bX X.A h),aa (c7 X.A h:Int)],cU aC af top X] (λ_:bR=>.tuple #[]) (λy=>∃Q,y=X.A.bare (bi h) s Q) (λy=>[aj aS 163 [ae af,aa (bX X.A h),aa (c7 X.A h:Int)],cU aC af top ⟨y,X.L,X.last⟩]):=by
 apply aH Tryz.func168 Tryz.ntmps168;intro F a9;apply J [13];haveI:cw F:=⟨a9⟩;apply ab.open 1 rfl;rintro⟨aI,bz⟩-;apply J [82];dsimp only;apply ab.open 1 rfl;rintro⟨W,bx,S⟩ ⟨aO,N⟩;apply J [145];dsimp only at aO N⊢;obtain⟨D,ck⟩:=p2 aO bj.1 b0;have cl:2^top<=128:=Vk (n:=2) am aO.P.fX.2;have ce:cg 6=48:=rfl;have cc:((cg 6:Nat):Int)=48:=rfl;have a8:((cg 7:Nat):Int)=256:=rfl;obtain⟨V,a3⟩:=aO.hF _ _ _ D;have ci:=(a3 s hs).1;have a2:=(a3 s hs).2 w;have cj:=c8.bd aO.P a2;have a4:d7 S.m (c7 X.A h) s≠0:=U
 have az:=aO.fG D hs w;obtain⟨k,aD,i,f,Z,aA,aR⟩:=(a2.jN ip).at;refine J [26,308] ?_;intro ba;apply J [99,65,28];apply au (r1 aS af top (bX X.A h) (c7 X.A h) S aO.P V s hs);apply J [21];have a0:=aR;rw[aR];apply J [275,173,111,3];by_cases E:l6 X.A (bi h) s;refine e rfl ?_;apply au (Tc aS af top (bX X.A h) (c7 X.A h) S aO.P V s hs az a4 ((aO.row D hs w).1 E));apply J [21];obtain⟨d,u⟩:∃d:cT,d=⟨S.Q,S.bE,S.C,S.Fr,dB S.m (bp S.m (c7 X.A h) (s/16)+s %16*16) [0,0]⟩:=⟨_,rfl⟩;rw[<-u];have ar:d.C 6=S.C 6:=by rw[u]
 obtain⟨bW,aq⟩:=N.yV D hs w E;have be:d.Q=X.A.Q:=by rw[u];exact aO.Q.1
 have bD:d.bE=X.A.bE:=by rw[u];exact aO.Q.2
 have aQ:(aB.ep d.Q (bX X.A h) (cg 6:Int)).2=0:=b4
 rw[<-ar]at Z;refine J [2,614,50,136,11,546,15] ?_;apply au (po aI af W bx);refine J [232,45] ?_;apply bb (uR af top d 6 ip k aD i f Z aA (bX X.A h) aQ);intro H av;refine J [232,9] ?_;obtain⟨gJ,ah⟩:∃gJ:cT,gJ=⟨(aB.ep d.Q (bX X.A h) (cg 6:Int)).1,d.bE,dK d.C 6 H,d.Fr,d.m⟩:=⟨_,rfl⟩;rw[<-ah];have O:=aO.yV N.ok D hs w E u av a0 (aB.ep X.A.Q (bX X.A h) 48).1;have an:gJ=⟨(aB.ep X.A.Q (bX X.A h) 48).1,X.A.bE,dK d.C 6 H,d.Fr,d.m⟩:=b4
 rw[<-an]at O;refine b8.nil ?_;exact mO (X.A.bare (bi h) s (aB.ep X.A.Q (bX X.A h) 48).1) ⟨_,rfl⟩ (bw (ay (bV.mk aI bz:bV) trivial (eG (ay (⟨W,bx,gJ⟩:eY) ⟨O,aq⟩ ai))));obtain⟨b2,b6,i7,f7,bt,bf,a5⟩:=(V.fG _ U az).at;obtain⟨bY,bW,aq⟩:=N.yU D hs w E;have b1:∀j,j<16->j≠s %16->cV S.m (bp S.m (c7 X.A h) (s/16)+j*16)=0:=λj bl bS=>Wi λbL=>E ((aO.row D hs w).2 ⟨j,bl,bS,bL⟩);refine e rfl ?_;apply bb (Tb aS af top (bX X.A h) (c7 X.A h) S aO.P V s hs az a4 b2 b6 i7 f7 bt bf a5 b1 (by rw[a8,aO.Q.1];exact bY));intro aW bc;apply J [21];obtain⟨d,u⟩:∃d:cT,d=⟨(aB.ep S.Q (bX X.A h) (cg 7:Int)).1,S.bE,dK S.C 7 aW,S.Fr,dB (dB S.m (bp S.m (c7 X.A h) (s/16)+s %16*16) [0,0]) (c7 X.A h+s/16*8) [0]⟩:=⟨_,rfl⟩;rw[<-u];have ar:d.C 6=S.C 6:=by rw[u];exact jb S.C aW (show(6:Nat)≠7 by decide)
 have be:d.Q=(aB.ep X.A.Q (bX X.A h) 256).1:=by rw[u,<-aO.Q.1];rfl
 have bD:d.bE=X.A.bE:=by rw[u];exact aO.Q.2
 have aQ:(aB.ep d.Q (bX X.A h) (cg 6:Int)).2=0:=b4
 rw[<-ar]at Z;refine J [2,614,50,136,11,546,15] ?_;apply au (po aI af W bx);refine J [232,45] ?_;apply bb (uR af top d 6 ip k aD i f Z aA (bX X.A h) aQ);intro H av;refine J [232,9] ?_;obtain⟨gJ,ah⟩:∃gJ:cT,gJ=⟨(aB.ep d.Q (bX X.A h) (cg 6:Int)).1,d.bE,dK d.C 6 H,d.Fr,d.m⟩:=⟨_,rfl⟩;rw[<-ah];have O:=aO.yU N.ok D hs w E bc a5 u av a0 (aB.ep (aB.ep X.A.Q (bX X.A h) 256).1 (bX X.A h) 48).1;have an:gJ=⟨(aB.ep (aB.ep X.A.Q (bX X.A h) 256).1 (bX X.A h) 48).1,X.A.bE,dK d.C 6 H,d.Fr,d.m⟩:=b4
 rw[<-an]at O;refine b8.nil ?_;exact mO (X.A.bare (bi h) s (aB.ep (aB.ep X.A.Q (bX X.A h) 256).1 (bX X.A h) 48).1) ⟨_,rfl⟩ (bw (ay (bV.mk aI bz:bV) trivial (eG (ay (⟨W,bx,gJ⟩:eY) ⟨O,aq⟩ ai))))
end Go.Proofs.Q
namespace Go.Proofs.Q.b2
open Go Go.QM
theorem FA{L:List Fn}{last:Int}(h:cM L last){t:Fn}(Q:t∈L):∀i,i<=(c6 L t.id).length->∃Z,nN L last t i Z/\∀u,u∈Z↔∃v∈L,v.id≠t.id/\u=if v.id∈(c6 L t.id).take i then⟨v.id,t.par,v.dH,v.ci⟩else v
 | 0,_=>⟨ha L t.id,nN.start h Q,λu=>by
  rw[l2]
  constructor
  ·rintro⟨E,H⟩;exact⟨u,E,H,by simp⟩
  rintro⟨v,E,H,C⟩;simp at C;rw[C];exact⟨E,H⟩⟩
 | i +1,aB=>by
  obtain⟨Z,ah,hm⟩:=FA h Q i U
  obtain⟨k,P⟩:∃k,(c6 L t.id)[i]? =some k:=⟨_,Ve U⟩
  obtain⟨w,hw,rfl,aQ⟩:=ah.todo i k (Vm _) P
  have az:=ah.et.rg w hw
  have aL:=h.rg t Q
  have aH:=pI h (Vi P)
  have V:(c6 L t.id).take (i+1)=(c6 L t.id).take i++[w.id]:=by rw[Vv,P];rfl
  refine⟨_,ah.next h Q hw P U,λu=>?_⟩
  obtain⟨v0,qF,au,av⟩:=(hm w).1 hw
  have eB:v0.id=w.id/\v0.dH=w.dH/\v0.ci=w.ci:=by
   rw[av];split<;>exact⟨rfl,rfl,rfl⟩
  have ar:u∈g8 Z w t.par↔(u∈Z/\u.id≠w.id)\/u=⟨w.id,t.par,w.dH,w.ci⟩:=by rw[g8,Vg,Vf,l2]
  rw[ar]
  constructor
  ·rintro(⟨E,H⟩|rfl)
   ·obtain⟨v,C,W,N⟩:=(hm u).1 E
    have an:v.id=u.id:=by rw[N];split<;>rfl
    refine⟨v,C,W,?_⟩
    rw[N,V]
    have O:v.id∈(c6 L t.id).take i++[w.id]↔v.id∈(c6 L t.id).take i:=by
     rw[Vg,Vf]
     exact⟨λD=>D.elim id λe=>absurd (an.symm.trans e) H,.inl⟩
    by_cases d:v.id∈(c6 L t.id).take i
    ·rw[ax d,ax (O.2 d)]
    rw[al d,al (λD=>d (O.1 D))]
   refine⟨v0,qF,au,?_⟩
   rw[ax (by rw[V,eB.1];simp),eB.1,eB.2.1,eB.2.2]
  rintro⟨v,C,W,N⟩
  by_cases e:v.id=w.id
  ·right
   obtain rfl:=h.bA.inj C qF (e.trans eB.1.symm)
   rw[N,ax (by rw[V,e];simp),eB.1,eB.2.1,eB.2.2]
  left
  have O:v.id∈(c6 L t.id).take i++[w.id]↔v.id∈(c6 L t.id).take i:=by
   rw[Vg,Vf]
   exact⟨λD=>D.elim id λaq=>absurd aq e,.inl⟩
  have d:u=if v.id∈(c6 L t.id).take i then⟨v.id,t.par,v.dH,v.ci⟩else v:=by
   rw[N,V]
   by_cases d:v.id∈(c6 L t.id).take i
   ·rw[ax d,ax (O.2 d)]
   rw[al d,al (λD=>d (O.1 D))]
  refine⟨(hm u).2 ⟨v,C,W,d⟩,?_⟩
  rw[d];split<;>exact e
def sP(t v:Fn):Fn:=⟨v.id,if v.par=t.id then t.par else v.par,v.dH,v.ci⟩
structure JJ(L:List Fn)(last:Int)(t:Fn):Prop where
  et:cM (kg L t.id) last
  len:(kg L t.id).length+1=L.length
  mem:∀u,u∈kg L t.id↔∃v∈L,v.id≠t.id/\u=sP t v
theorem Ay{L:List Fn}{last:Int}(h:cM L last){t:Fn}(d:t∈L):JJ L last t:=by obtain⟨Z,C,hm⟩:=FA h d _ (Vm _);have e:=C.done h d;have H:=uN h.bA d;have O:=h.rg t d;refine⟨by rw[e];exact C.et,by rw[e,C.len];exact H,λu=>?_⟩;rw[e,hm,V0];have hv:∀v∈L,(if v.id∈c6 L t.id then(⟨v.id,t.par,v.dH,v.ci⟩:Fn)else v)=sP t v:=λv hv=>(by have P:v.id∈c6 L t.id↔v.par=t.id:=(by rw[pH];constructor;rintro⟨_,w,hw,D,E⟩;rw[<-h.bA.inj hw hv E];exact D;grind);rw[sP];by_cases N:v.par=t.id;all_goals simp_all);grind
end Go.Proofs.Q.b2
namespace Go.Proofs.Q
open Go Go.QM
variable [cZ] [eL]
def an(l:List aq.bW)(i:Nat):Int:=match l[i]? with
  | some p=>p.c3*256+(i:Int)
  | none=>-1
theorem rB{l:List aq.bW}{i:Nat}{p:aq.bW}(h:l[i]? =some p):an l i=p.c3*256+(i:Int):=by rw[an,h]
theorem sH{l:List aq.bW}(d:aq.dO l){i j:Nat}(u:i<256)(w:j<256)(e:an l i=an l j):i=j:=by obtain⟨p,C,_⟩:=d.at u;obtain⟨q,D,_⟩:=d.at w;grind[rB]
theorem EG{l:List aq.bW}(u:aq.dO l){i:Nat}(d:i<256):0<=an l i/\an l i<=4294967295/\(an l i %256).toNat=i:=by obtain⟨p,D,w,C⟩:=u.at d;grind[rB]
structure c9(X:cC)(D:Nat->Nat->Prop):Prop where
  et:b2.cM X.L X.last
  pN:∀t∈X.L,∃i s:Nat,t.dH=an X.A.l i/\t.ci=(s:Int)/\X.A.aL i s≠0/\¬D i s
  qP:∀i s,X.A.aL i s≠0->¬D i s->∃t∈X.L,t.dH=an X.A.l i/\t.ci=(s:Int)
  j7:∀i s,D i s->X.A.aL i s≠0
  fI:∀t∈X.L,∀u∈X.L,t.par=u.id->∀i s j r:Nat,t.dH=an X.A.l i->t.ci=(s:Int)->X.A.aL i s≠0->u.dH=an X.A.l j->u.ci=(r:Int)->X.A.aL j r≠0->iX (X.A.aL i s)=iX (X.A.aL j r)
  de:X.last<=X.A.np
def en:Nat->Nat->Prop:=λ_ _=>False
section
variable {X : cC} {D : Nat → Nat → Prop}
variable{i s:Nat}
theorem cc.nj{A:bR}(h:cc A)(e:A.aL i s≠0):i<256/\s<256:=by obtain⟨d,⟨a,f,u⟩,_⟩:=h.aL i s e;exact⟨u.lt h.ok,d⟩
theorem c9.p4(h:c9 X D)(d:cc X.A){t:b2.Fn}(H:t∈X.L)(E:i<256)(u:t.dH=an X.A.l i)(N:t.ci=(s:Int)):X.A.aL i s≠0/\¬D i s:=by obtain⟨j,r,w,O,C,P⟩:=h.pN t H;have:=sH d.ok E (d.nj C).1 (u.symm.trans w);grind
theorem c9.find(h:c9 X D)(e:X.A.aL i s≠0)(C:¬D i s):∃t∈X.L,b2.hl X.L (an X.A.l i,(s:Int))=t.id/\t.dH=an X.A.l i/\t.ci=(s:Int)/\1<=t.id:=by obtain⟨t,d,u,w⟩:=h.qP i s e C;refine⟨t,d,?_,u,w,(h.et.rg t d).1⟩;rw[<-u,<-w];exact b2.zD h.et.no d
theorem c9.F7(h:c9 X D)(C:cc X.A)(E:i<256)(e:X.A.aL i s=0\/D i s):b2.hl X.L (an X.A.l i,(s:Int))=0:=by refine b2.zC ?_;rintro⟨t,H,d⟩;have u:t.dH=an X.A.l i:=congrArg (·.1) d;have w:t.ci=(s:Int):=congrArg (·.2) d;obtain⟨N,O⟩:=h.p4 C H E u w;simp_all
theorem NL{L:List b2.Fn}{x y:Int}(h:b2.hl L (x,y)=0)(hr:∀t∈L,1<=t.id):¬b2.kB L (x,y):=by rintro⟨t,d,e⟩;grind[b2.hl]
theorem c9.add(h:c9 X D)(H:cc X.A)(O:D i s){par:Int}(w:par=0\/∃u∈X.L,u.id=par/\∀j r:Nat,u.dH=an X.A.l j->u.ci=(r:Int)->X.A.aL j r≠0->iX (X.A.aL i s)=iX (X.A.aL j r)){D':Nat->Nat->Prop}(aM:∀j r,D' j r↔D j r/\¬(j=i/\r=s))(aB:X.last+1<=X.A.np):
 (b2.gT X.L X.last par (an X.A.l i,(s:Int))).2.2.2=0/\c9 ⟨X.A,(b2.gT X.L X.last par (an X.A.l i,(s:Int))).1,(b2.gT X.L X.last par (an X.A.l i,(s:Int))).2.1⟩ D':=by
 have Z:i<256:=(H.nj (h.j7 i s O)).1;have aA:=h.F7 H Z (.inr O);have av:¬(¬b2.fV X.L par/\par≠0):=(by rcases w with w|⟨u,hu,w,_⟩;omega;exact λh=>h.1 ⟨u,hu,w⟩);have e:b2.gT X.L X.last par (an X.A.l i,(s:Int))=(X.L++[⟨X.last+1,par,an X.A.l i,(s:Int)⟩],X.last+1,X.last+1,0):=(by rw[b2.gT,al av,al (λh=>h aA)]);have a4:0<=X.last:=by have:=h.et.len;omega
 have aQ:0<=par/\par<=X.last:=(by rcases w with w|⟨u,hu,w,_⟩;omega;have:=h.et.rg u hu;omega);rw[e];refine⟨rfl,h.et.add (t:=⟨X.last+1,par,an X.A.l i,(s:Int)⟩) rfl aQ (NL aA λt d=>(h.et.rg t d).1),λt d=>?_,λj r P aH=>?_,λj r P=>h.j7 j r ((aM j r).1 P).1,λt d u hu Q=>?_,aB⟩;rcases Vg.1 d with d|d;obtain⟨j,r,au,a0,a2,a3⟩:=h.pN t d;grind;obtain rfl:=Vf.1 d;exact⟨i,s,rfl,rfl,h.j7 i s O,λN=>((aM i s).1 N).2 ⟨rfl,rfl⟩⟩;by_cases C:j=i/\r=s;simp_all;obtain⟨t,d,au⟩:=h.qP j r P λN=>aH ((aM j r).2 ⟨N,C⟩);grind;dsimp only;intro j r k q C V W ah aq ar;rcases Vg.1 d with d|d<;>rcases Vg.1 hu with E|E;exact h.fI t d u E Q j r k q C V W ah aq ar;obtain rfl:=Vf.1 E;have:=h.et.rg t d;grind;obtain rfl:=Vf.1 d;dsimp only at Q C V;have az:=sH H.ok Z (H.nj W).1 C;have aW:r=s:=U
 subst az;subst aW;rcases w with w|⟨v,hv,w,a5⟩;have:=h.et.rg u E;omega;have:v=u:=h.et.bA.inj hv E U;grind;grind
theorem c9.lay(h:c9 X D)(P:cc X.A){w np:Nat}{Q:List aB.bY}(aW:i<256)(au:X.A.aL i s=0)(hw:w≠0)(a0:X.A.np<=np){D':Nat->Nat->Prop}(aM:∀j r,D' j r↔D j r\/(j=i/\r=s)):c9 ⟨{X.A with Q:=Q,aL:=fi X.A.aL i s w,np:=np},X.L,X.last⟩ D':=by have V:∀{j r},X.A.aL j r≠0->fi X.A.aL i s w j r=X.A.aL j r:=λ{j r} d=>ls (by by_cases e:j=i;exact .inr λC=>d (by rw[e,C];exact au);exact .inl e);have hold:∀{j r},fi X.A.aL i s w j r≠0->¬(j=i/\r=s)->X.A.aL j r≠0:=λ{j r} O av=>(by grind[ls]);refine⟨h.et,λt N=>?_,λj r d az=>?_,λj r d=>?_,λt N u hu an=>?_,by have:=h.de;dsimp only;omega⟩;obtain⟨j,r,O,av,aH,aQ⟩:=h.pN t N;grind;dsimp only at d;by_cases e:j=i/\r=s;simp_all;exact h.qP j r (hold d e) λE=>az ((aM j r).2 (.inl E));dsimp only;rcases(aM j r).1 d with H|⟨rfl,rfl⟩;have:=h.j7 j r H;rw[V this];exact this;grind[ij];dsimp only;intro j r k q C W aq Z ah ar;have lt:∀{j r},fi X.A.aL i s w j r≠0->j<256:=λ{j r} O=>(by by_cases e:j=i/\r=s;omega;exact(P.nj (hold O e)).1);have E:=(h.p4 P N (lt aq) C W).1;have H:=(h.p4 P hu (lt ar) Z ah).1;rw[V E,V H];exact h.fI t N u hu an j r k q C W E Z ah H
theorem c9.Ix(h:c9 X D)(av:cc X.A){Q:List aB.bY}(az:D i s){D':Nat->Nat->Prop}(aM:∀j r,D' j r↔D j r/\¬(j=i/\r=s)):c9 ⟨X.A.bare i s Q,X.L,X.last⟩ D':=by
 have C:∀{j r},¬(j=i/\r=s)->fi X.A.aL i s 0 j r=X.A.aL j r:=λ{j r} w=>ls (by by_cases e:j=i;exact .inr λE=>w ⟨e,E⟩;exact .inl e);have hold:∀{j r},fi X.A.aL i s 0 j r≠0->¬(j=i/\r=s):=by grind[ij]
 refine⟨h.et,λt V=>?_,λj r w ar=>?_,λj r w=>?_,λt V u hu W=>?_,h.de⟩;obtain⟨j,r,d,O,au,aq⟩:=h.pN t V;refine⟨j,r,d,O,?_,λP=>aq ((aM j r).1 P).1⟩;dsimp only[bR.bare];grind;dsimp only[bR.bare]at w;have d:=hold w;rw[C d]at w;exact h.qP j r w λP=>ar ((aM j r).2 ⟨P,d⟩);have d:=(aM j r).1 w;dsimp only[bR.bare];rw[C d.2];exact h.j7 j r d.1;dsimp only[bR.bare];intro j r k q E Z H ah an N;have d:=hold H;have O:=hold N;rw[C d]at H⊢;rw[C O]at N⊢;exact h.fI t V u hu W j r k q E Z H ah an N
theorem c9.set(h:c9 X D)(C:cc X.A){w:Nat}(aQ:X.A.aL i s≠0)(hw:w≠0)(aW:D i s\/iX w=iX (X.A.aL i s)):c9 ⟨X.A.set i s w,X.L,X.last⟩ D:=by have d:∀{j r},fi X.A.aL i s w j r≠0↔X.A.aL j r≠0:=λ{j r}=>(by grind[ij,ls]);have V:∀{j r},¬D j r->iX (fi X.A.aL i s w j r)=iX (X.A.aL j r):=λ{j r} a0=>(by grind[ij,ls]);refine⟨h.et,λt E=>?_,λj r H az=>h.qP j r (d.1 H) az,λj r H=>d.2 (h.j7 j r H),λt E u hu Z=>?_,h.de⟩;obtain⟨j,r,aq,ar,au,av⟩:=h.pN t E;exact⟨j,r,aq,ar,d.2 au,av⟩;dsimp only[bR.set];intro j r k q N O ah P Q an;have bS:=d.1 ah;have W:=d.1 an;have aB:=(h.p4 C E (C.nj bS).1 N O).2;have aH:=(h.p4 C hu (C.nj W).1 P Q).2;rw[V aB,V aH];exact h.fI t E u hu Z j r k q N O bS P Q W
theorem c9.lift(h:c9 X D)(W:cc X.A){Q:List aB.bY}(av:X.A.aL i s≠0){t:b2.Fn}(C:t∈X.L)(O:t.dH=an X.A.l i)(E:t.ci=(s:Int)):c9 ⟨X.A.bare i s Q,b2.kg X.L t.id,X.last⟩ D:=by
 have N:=b2.Ay h.et C;have aW:=(W.nj av).1;have a3:=(h.p4 W C aW O E).2;have Z:∀{j r},¬(j=i/\r=s)->fi X.A.aL i s 0 j r=X.A.aL j r:=λ{j r} d=>ls (by by_cases e:j=i;exact .inr λE=>d ⟨e,E⟩;exact .inl e);have hold:∀{j r},fi X.A.aL i s 0 j r≠0->¬(j=i/\r=s):=by grind[ij]
 have bb:∀v∈X.L,v.dH=t.dH->v.ci=t.ci->v.id=t.id:=λv hv a b=>(by have:=h.et.no.inj hv C (show b2.iv v=b2.iv t from Prod.ext a b);simp_all);refine⟨N.et,λu hu=>?_,λj r d a4=>?_,λj r d=>?_,λu hu v hv H=>?_,h.de⟩;obtain⟨v,w,a0,rfl⟩:=(N.mem u).1 hu;obtain⟨j,r,bS,az,bc,a5⟩:=h.pN v w;refine⟨j,r,bS,az,?_,a5⟩;dsimp only[bR.bare];grind;dsimp only[bR.bare]at d;have w:=hold d;rw[Z w]at d;obtain⟨v,hv,bS,az⟩:=h.qP j r d a4;refine⟨b2.sP t v,(N.mem _).2 ⟨v,hv,λe=>?_,rfl⟩,bS,az⟩;have:=h.et.bA.inj hv C e;subst this;exact w ⟨sH W.ok (W.nj d).1 aW (bS.symm.trans O),by omega⟩;dsimp only[bR.bare];rw[Z (λe=>a3 (by rw[<-e.1,<-e.2];exact d))];exact h.j7 j r d;dsimp only[bR.bare];intro j r k q ah aq P ar au V;obtain⟨aH,w,a0,rfl⟩:=(N.mem u).1 hu;obtain⟨v0,aQ,a9,rfl⟩:=(N.mem v).1 hv;have g1:=hold P;have g2:=hold V;rw[Z g1]at P⊢;rw[Z g2]at V⊢;dsimp only[b2.sP]at H ah aq ar au;by_cases e:aH.par=t.id;rw[ax e]at H;have a8:=h.fI aH w t C e j r i s ah aq P O E av;have a2:=h.fI t C v0 aQ H i s k q O E av ar au V;omega;rw[al e]at H;exact h.fI aH w v0 aQ H j r k q ah aq P ar au V
theorem c9.obj(h:c9 X D)(ah:cc X.A){a8:bR}(E:a8.aL=X.A.aL)(H:∀i s,X.A.aL i s≠0->an a8.l i=an X.A.l i)(aq:cc a8)(ar:X.A.np<=a8.np):c9 ⟨a8,X.L,X.last⟩ D:=by refine⟨h.et,λt N=>?_,λj r d Z=>?_,λj r d=>by dsimp only;rw[E];exact h.j7 j r d,λt N u hu Q=>?_,by have:=h.de;dsimp only;omega⟩;obtain⟨j,r,bS,au,av,az⟩:=h.pN t N;grind;dsimp only at d⊢;rw[E]at d;rw[H j r d];exact h.qP j r d Z;dsimp only;intro j r k q O V w P W C;rw[E]at w C⊢;rw[H j r w]at O;rw[H k q C]at P;exact h.fI t N u hu Q j r k q O V w P W C
end
def ia(A:bR)(h s:Int):Nat×Nat×Int:=if(b5 A.l h 2).2≠0 then(0,0,(b5 A.l h 2).2)else if ¬(0<=s/\s<256)then(0,0,2)else if gn A (bi h) s=0 then(0,0,6)else(iX (gn A (bi h) s),k6 (gn A (bi h) s),0)
structure fu(A a8:bR)(n:Nat):Prop where
  l:a8.l=A.l
  z:a8.aZ=A.aZ
  q:a8.q=A.q/\a8.now=A.now/\a8.pd=A.pd
  o:a8.own=A.own
  n:A.np<=a8.np/\a8.np<=A.np+n
theorem fu.refl(A:bR)(n:Nat):fu A A n:=⟨rfl,rfl,⟨rfl,rfl,rfl⟩,rfl,by omega⟩
theorem fu.trans{A B C:bR}{n m:Nat}(h:fu A B n)(k:fu B C m):fu A C (n+m):=⟨k.l.trans h.l,k.z.trans h.z,⟨k.q.1.trans h.q.1,k.q.2.1.trans h.q.2.1,k.q.2.2.trans h.q.2.2⟩,k.o.trans h.o,by have:=h.n;have:=k.n;omega⟩
theorem fu.mono{A B:bR}{n m:Nat}(h:fu A B n)(k:n<=m):fu A B m:=⟨h.l,h.z,h.q,h.o,by have:=h.n;omega⟩
theorem IR(aC af top:Nat)(X:cC)(h s:Int)(C:0<=h/\h<=4294967295):bt 57 [ae aC,aT h,aa s] c5 [cU aC af top X] (.tuple #[.agg #[aT ((ia X.A h s).1:Int),aa ((ia X.A h s).2.1:Int)],aa (ia X.A h s).2.2]) [cU aC af top X]:=by
 apply aH Tryz.func57 Tryz.ntmps57;intro F E;apply J [1];haveI:cw F:=⟨E⟩;refine J [26,235] ?_;intro ba;apply J [27,35];by_cases d:(b5 X.A.l h 2).2=0;rw[show ia X.A h s=if ¬(0<=s/\s<256)then(0,0,2)else if gn X.A (bi h) s=0 then(0,0,6)else(iX (gn X.A (bi h) s),k6 (gn X.A (bi h) s),0)from al (λbL=>bL d)];refine e rfl ?_;apply bb (oY aC af top X h C d);intro aS _;refine J [17,241] ?_;intro ch;apply J [116,259,72,142];apply au (sb s);apply J [10];by_cases u:0<=s/\s<256;rw[da u,al (λbL=>bL u)];apply J [266,22,124,28];apply au (oq aC af top X aS h C d s);refine J [10,256] ?_;intro H;apply J [103,104,59,392,2];apply Vh rfl<;>intro N;have w:gn X.A (bi h) s=0:=U
 simp only[ax w];apply J [24,150,103,123];exact ot;have w:gn X.A (bi h) s≠0:=U
 simp only[al w];apply J [4,24,220,103,30];exact ot;rw[du u,ax u];apply J [90,38,58,150,103,27,84];exact ot;rw[show ia X.A h s=(0,0,(b5 X.A.l h 2).2)from ax d];refine e rfl ?_;apply au (q7 aC af top X h C d);refine J [7,241] ?_;intro bC;apply J [116,259];refine Vh rfl (λD=>?_) (λD=>absurd (d) D);apply J [24,150,3,103,27,84];exact ot
end Go.Proofs.Q
open Go.QM.ab renaming dh->Wv
namespace Go.Proofs.Q
open Go Go.QM
variable [cZ] [eL]
theorem Nt{l:List aq.bW}{k:Nat}{p:aq.bW}{dx:aq.fc}{g0:Int}(w:l[k]? =some ⟨dx,0,g0⟩){h:Int}(d:0<=h)(u:(aq.cW l h).2=0):aq.cW (l.set k p) h=aq.cW l h:=by grind[n4,aq.cW,pK]
theorem Gm{l:List aq.bW}{k:Nat}{p:aq.bW}{dx:aq.fc}{g0:Int}(w:l[k]? =some ⟨dx,0,g0⟩){h n:Int}(d:0<=h)(u:(b5 l h n).2=0):b5 (l.set k p) h n=b5 l h n:=by grind[b5,Nt]
theorem NV{l:List aq.bW}{k i:Nat}{p:aq.bW}(h:i≠k):an (l.set k p) i=an l i:=by rw[an,an,Wo λe=>h e.symm]
theorem zO{l:List aq.bW}(u:aq.dO l){k:Nat}{o dx:aq.fc}{g:Int}(d:l[k]? =some ⟨dx,0,g⟩):aq.cW (l.set k ⟨o,1,g⟩) (g*256+k)=(o,0):=by have w:=uA (l:=l.set k ⟨o,1,g⟩) (p:=⟨o,1,g⟩) (u.lt d) (V1 (Vo.1 d).1);grind[aq.cW]
def CD(top:Nat)(X:cC)(h s fK k lim:Int):Prop:=(b5 X.A.l h 2).2≠0\/¬(0<=s/\s<256)\/¬(k=8\/1<=k/\k<=5)\/((s<128)↔k=8)\/gn X.A (bi h) s≠0\/re top X.A (bX X.A h)\/∃Q,rJ X.A (bX X.A h) Q/\qi top (X.A.lay (bi h) s.toNat (dM 0 15) Q) fK k lim
def qj(top:Nat)(X:cC)(h s fK k lim:Int)(y:cC×Int×Int):Prop:=
  (y.2.2≠0/\y.2.1=0/\fu X.A y.1.A 4/\c9 y.1 en/\CD top X h s fK k lim)\/
  (y.2.2=0/\c9 y.1 en/\(0<=y.2.1/\y.2.1<=4294967295)/\(0<=s/\s<256)/\∃(c x wV:Nat) (f g:Int) (dx:aq.fc),k=c/\iF c/\X.A.l[wV]? =some ⟨dx,0,g⟩/\X.A.l.findIdx? aq.isEmpty=some wV/\y.2.1=g*256+wV/\y.1.A.l=X.A.l.set wV ⟨bv c x f,1,g⟩/\y.1.A.aZ=X.A.aZ/\y.1.A.q=X.A.q/\y.1.A.now=X.A.now/\y.1.A.pd=X.A.pd/\X.A.np<=y.1.A.np/\y.1.A.np<=X.A.np+4/\y.1.A.aL=fi X.A.aL (bi h) s.toNat (dM y.2.1.toNat 15)/\(c≠1->∃Q,rJ X.A (bX X.A h) Q/\y.1.A.Q=(aB.df Q (X.A.own (fK %256).toNat:Int) (bD c)).1/\y.1.A.own=X.A.own))
theorem jA.refl{Q:List aB.bY}{d:Int}(h:aB.eV Q d)(f:Int):jA Q Q d f 0:=⟨h,λ_=>Iff.rfl,λx _=>by split<;>omega,λ_=>rfl⟩
variable{A:bR}
theorem cc.set(h:cc A){i a s w:Nat}{f:Int}(u:cA A.l i 1 (bv 2 a f))(hs:s<256)(d:A.aL i s≠0)(hw:pi A w):cc (A.set i s w):=by have E:w≠0:=(by obtain⟨x,r,rfl,_,H,N,_⟩:=hw;grind[jL]);have D:=Te (e:=A.aL i) (e':=fi A.aL i s w i) hs d (by rw[ij];exact E) λr C=>kS C;exact h.t6 u hs (jA.refl h.d8 f) (by rw[D];omega) (.inr hw) ⟨Vm _,h.bd.2.2⟩
variable{top:Nat}
theorem p3{S:cT}(aO:ck top A S){h:Int}(d:0<=h)(e:(b5 A.l h 2).2=0):an A.l (bi h)=h:=by obtain⟨_,g,u,w⟩:=p2 aO d e;rw[rB w];exact u.symm
def tV(i s:Nat):Nat->Nat->Prop:=λj r=>j=i/\r=s
theorem cc.vk(h:cc A){n:Nat}(d:A.np<=n)(u:n<=1000000):cc {A with np:=n}:=⟨h.ok,h.d8,h.rt,h.ac,h.cY,h.nl,h.aL,h.hA,h.kI,h.mA,h.mB,h.m5,h.pd,by have:=h.bd;dsimp only;omega⟩
theorem w6{i s w:Nat}{f:Int}{y:Int×bR}(h:vB top A i s w f y)(d:y.1=0):∃Q,y.2=A.lay i s w Q/\rJ A f Q:=by rcases h with⟨_,h⟩|⟨h,_⟩;all_goals trivial
theorem w7{i s w:Nat}{f:Int}{y:Int×bR}(h:vB top A i s w f y)(d:y.1≠0):y.2={A with np:=A.np+2}/\re top A f:=by rcases h with⟨h,_⟩|⟨_,h⟩;all_goals trivial
theorem fu.up(A:bR){n m:Nat}(h:n<=m):fu A {A with np:=A.np+n} m:=⟨rfl,rfl,⟨rfl,rfl,rfl⟩,rfl,by dsimp only;omega⟩
theorem R3(h:cc A):(aq.cW A.l ((0:Nat):Int)).2=0:=by obtain⟨⟨a,d⟩,_⟩:=h.rt;have:=uA (i:=0) am d;grind[aq.cW]
theorem IS(aC af top:Nat)(X:cC)(h s N k lim:Int)(V:0<=h/\h<=4294967295)(dg:0<=N/\N<=4294967295)(O:c9 X en)(aA:X.A.np+4<=1000000):bK 141 [ae aC,aT h,aa s,aT N,aa k,aa lim] c5 [cU aC af top X] (λy:cC×Int×Int=>.tuple #[aT y.2.1,aa y.2.2]) (λy=>qj top X h s N k lim y) (λy=>[cU aC af top y.1]):=by
 apply aH Tryz.func141 Tryz.ntmps141;intro F cJ;apply J [1];haveI:cw F:=⟨cJ⟩;refine ab.lR 0 rfl (λaQ=>?_);obtain⟨⟨dC,dD⟩,_⟩:=aQ;apply J [240,35];by_cases Z:(b5 X.A.l h 2).2=0;·refine e rfl ?_;apply bb (oY aC af top X h V Z);intro aS _;refine J [7,241] ?_;intro bC;apply J [116,211,124,28];apply au (oq aC af top X aS h V Z s);refine J [17,256] ?_;intro ch;apply J [103,104,75,142];apply au (sb s);apply J [10];by_cases a0:0<=s/\s<256;(·rw[da a0];apply J [266,142];apply au (Uk k);apply J [10];by_cases bt:k=8\/1<=k/\k<=5;(·rw[da bt];apply J [90,18,280];apply au (sa s);apply J [10,12,158];refine dc rfl rfl rfl (zx rfl rfl rfl) ?_;apply J [207];apply Vh rfl<;>intro cR;apply J [180];exact cQ (X,0,1) (.inl ⟨(show(1:Int)≠0 by decide),rfl,fu.refl _ _,O,.inr (.inr (.inr (.inl (by simpa using cR))))⟩) ai;apply J [59,38];apply Vh rfl<;>intro cZ;apply J [180];exact cQ (X,0,7) (.inl ⟨(show(7:Int)≠0 by decide),rfl,fu.refl _ _,O,.inr (.inr (.inr (.inr (.inl (by simpa using cZ)))))⟩) ai;obtain⟨er,rfl⟩:∃n:Nat,s=(n:Int):=⟨s.toNat,(Wf a0.1).symm⟩;(have H:er<256:=by omega);have b0:X.A.aL (bi h) er=0:=(by grind[k8]);apply J [206,252,3,150];refine aY.dh 2 rfl hn (λaQ=>?_);obtain⟨W,dt,dF⟩:=aQ;refine e rfl ?_;apply bb (yh aC af top X aS h V Z er H b0 0 15 am am (R3 W) U);intro⟨ct,ds⟩ ci;apply J [10];dsimp only;apply J [126];apply Vh rfl<;>intro he;obtain⟨bL,cF⟩:=w7 ci he;dsimp only at bL;subst bL;have cL:c9 ⟨{X.A with np:=X.A.np+2},X.L,X.last⟩ en:=O.obj W rfl (λ_ _ _=>rfl) (W.vk (Vx _ _) U) (Vx _ _);apply J [188];exact cQ (⟨{X.A with np:=X.A.np+2},X.L,X.last⟩,0,ct) (.inl ⟨he,rfl,fu.up _ am,cL,.inr (.inr (.inr (.inr (.inr (.inl cF)))))⟩) ai;obtain rfl:ct=0:=Vj he;obtain⟨Q,bL,cj⟩:=w6 ci rfl;dsimp only at bL;subst bL;have ce:c9 ⟨X.A.lay (bi h) er (dM 0 15) Q,X.L,X.last⟩ (tV (bi h) er):=O.lay W (by have:=V;rw[bi];omega) b0 (jL am am).2 (Vx _ _) (λj r=>⟨λh=>.inr h,λh=>h.elim (λh=>h.elim) id⟩);apply ab.open 1 rfl;rintro⟨aI,bz⟩-;apply J [223];dsimp only;refine ab.lR 1 rfl (λaQ=>?_);obtain⟨⟨_,_,dA⟩,dH,a3⟩:=aQ;apply J [4,40,120,28];apply bb (Dw aI af top (X.A.lay (bi h) er (dM 0 15) Q) N dg k lim (by dsimp only[bR.lay];omega));intro⟨d,av,ct⟩ bO;apply J [16];dsimp only;apply J [134,34];apply Vh rfl<;>intro cu;(·have bl:av=0/\F8 (X.A.lay (bi h) er (dM 0 15) Q) d/\qi top (X.A.lay (bi h) er (dM 0 15) Q) N k lim:=(by rcases bO with⟨bL,_⟩|⟨_,bL⟩;all_goals simp_all);obtain⟨rfl,cx,a5⟩:=bl;have cA:d.l=X.A.l/\d.aL=fi X.A.aL (bi h) er (dM 0 15)/\d.aZ=X.A.aZ/\d.own=X.A.own/\(d.q=X.A.q/\d.now=X.A.now/\d.pd=X.A.pd)/\X.A.np+2<=d.np/\d.np<=X.A.np+4:=(by rcases cx with bL|bL;all_goals grind[bR.lay]);obtain⟨cy,lj,dj,dl,dp,dr,dX⟩:=cA;(have bc:(b5 d.l h 2).2=0:=by simp_all);have b6:cc d:=(by rcases cx with bL|bL;simp_all;rw[bL];exact a3.vk (Vx _ _) (by dsimp only[bR.lay];omega));have bj:c9 ⟨d,X.L,X.last⟩ (tV (bi h) er):=ce.obj a3 (by rw[lj];rfl) (λi s _=>by rw[cy];rfl) b6 dr;(have aB:d.aL (bi h) er≠0:=by rw[lj,ij];exact(jL am am).2);(have a2:bX d h=bX X.A h/\c7 d h=c7 X.A h:=by grind[bX,c7]);refine ab.bk (B:=ag [aj aS 163 [ae af,aa (bX X.A h),aa (c7 X.A h:Int)],cU aC af top ⟨d,X.L,X.last⟩,aj bC 150 [ae aS,aT h,aa (bX X.A h)],F]) (cO (ay (bV.mk aI bz:bV) trivial ai)) ?_;rw[<-a2.1,<-a2.2];apply J [252,28];apply bb (Cd aC af top ⟨d,X.L,X.last⟩ aS h V bc er H aB);intro dw a4;apply J [17];obtain⟨bW,rfl⟩:=a4;have a8:c9 ⟨d.bare (bi h) er bW,X.L,X.last⟩ en:=bj.Ix (i:=bi h) (s:=er) b6 ⟨rfl,rfl⟩ (λj r=>⟨λh=>h.elim,λh=>h.2 h.1⟩);apply J [2,188];exact cQ (⟨d.bare (bi h) er bW,X.L,X.last⟩,0,ct) (.inl ⟨cu,rfl,⟨cy,dj,dp,dl,by dsimp only[bR.bare];omega⟩,a8,.inr (.inr (.inr (.inr (.inr (.inr ⟨Q,cj,a5⟩)))))⟩) ai);obtain rfl:ct=0:=Vj cu;have bl:vC (X.A.lay (bi h) er (dM 0 15) Q) N k lim d av:=(by rcases bO with⟨_,bL,_⟩|⟨bL,_⟩;all_goals simp_all);obtain⟨cq,c,x,be,g,dx,dz,dZ,d0,c6,cP,cv,jD,co,D,ck⟩:=bl;have bD:X.A.l[be]? =some ⟨dx,0,g⟩:=cv;(have bS:d.l=X.A.l.set be ⟨bv c x (((X.A.lay (bi h) er (dM 0 15) Q).own (N %256).toNat:Nat):Int),1,g⟩:=by rw[D];rfl);(have aB:d.aL=fi X.A.aL (bi h) er (dM 0 15):=by rw[D];rfl);(have dV:b5 d.l h 2=b5 X.A.l h 2:=by grind[Gm]);(have bc:(b5 d.l h 2).2=0:=by simp_all);(have a2:bX d h=bX X.A h/\c7 d h=c7 X.A h:=by grind[bX,c7]);(have dO:aq.cW d.l av=(bv c x (((X.A.lay (bi h) er (dM 0 15) Q).own (N %256).toNat:Nat):Int),0):=by rw[bS,co];exact zO W.ok bD);obtain⟨u,rfl⟩:∃n:Nat,av=(n:Int):=⟨av.toNat,(Wf cq.1).symm⟩;have c3:=W.lt bD;dsimp only at c3;(have cp:u<4294967295:=by omega);(have cS:pi d (dM u 15):=by grind[pi]);have dd:=jL (h:=0) (r:=15) am am;(have ah:d.aL (bi h) er≠0:=by rw[aB,ij];exact dd.2);apply ab.open 0 rfl;rintro⟨cN,bx,w⟩ ⟨E,ar⟩;apply J [312];dsimp only at E ar⊢;have bj:c9 ⟨d,X.L,X.last⟩ (tV (bi h) er):=ce.obj a3 (by rw[aB];rfl) (λi s bL=>by obtain⟨_,⟨a,f,cz⟩,_⟩:=a3.aL i s bL;have df:i≠be:=λe=>(by subst e;exact absurd (cz.inj ⟨g,cv⟩).1 am);rw[bS];exact NV df) ar (by rw[D];dsimp only[bR.lay];omega);obtain⟨a9,_⟩:=p2 E V.1 bc;obtain⟨cl,a5⟩:=E.hF _ _ _ a9;have dE:=(a5 er H).1;have dI:=c8.bd E.P ((a5 er H).2 ah);have dW:2^top<=128:=Vk (n:=2) am E.P.fX.2;have db:=E.fG a9 H ah;have aW:=jL (h:=u) (r:=15) cp am;have c1:=p3 E V.1 bc;rw[<-a2.1,<-a2.2];apply J [4,111,28];apply au (r1 aS af top (bX d h) (c7 d h) w E.P cl er H);apply J [146,134];refine cD [0,1,2,3,4,6,-5,-7] (show aE (ag _) (ag [aj bC 150 [ae aS,aT h,aa (bX d h)]])from ai) ?_;apply J [102,11,11,442,263];apply au (Ce u 15 cp am);refine J [225,45] ?_;apply au (B1 aS af top (bX d h) (c7 d h) w E.P cl er H (dM u 15) (dU w.m (c7 d h) er) aW.1 U aW.2 db);refine J [282] ?_;obtain⟨bf,bY⟩:∃bf:cT,bf=⟨w.Q,w.bE,w.C,w.Fr,dB w.m (bp w.m (c7 d h) (er/16)+er %16*16) [dM u 15,dU w.m (c7 d h) er]⟩:=⟨_,rfl⟩;rw[<-bY];have cM:=E.s9 ar.ok a9 H ah aW.2 aW.1 bY;have a4:=ar.set a9 H ah cS;have a8:=bj.set ar ah aW.2 (.inl ⟨rfl,rfl⟩);have dP:=a8.de;(have dT:d.np=X.A.np+4:=by rw[D];rfl);have dR:X.last<=X.A.np:=O.de;obtain⟨di,cg⟩:=a8.add (i:=bi h) (s:=er) (par:=0) a4 ⟨rfl,rfl⟩ (.inl rfl) (D':=en) (λj r=>⟨λh=>h.elim,λh=>h.2 h.1⟩) (by show X.last+1<=((d.set (bi h) er (dM u 15)).np:Int);dsimp only[bR.set];omega);have c2:an (d.set (bi h) er (dM u 15)).l (bi h)=h:=c1;have dK:=W.bd;rw[c2]at di cg;have cV:(d.set (bi h) er (dM u 15)).aL=fi X.A.aL (bi h) ((er:Int)).toNat (dM ((u:Int)).toNat 15):=(by dsimp only[bR.set];rw[aB];grind[fi]);refine J [74,64,247,28] ?_;apply au (b2.ww bz X.L X.last 0 h (er:Int) U);apply J [146,2,25,96];exact cQ (⟨d.set (bi h) er (dM u 15),(b2.gT X.L X.last 0 (h,(er:Int))).1,(b2.gT X.L X.last 0 (h,(er:Int))).2.1⟩,(u:Int),0) (.inr ⟨rfl,cg,cq,a0,c,x,be,_,g,dx,c6,cP,bD,jD,co,bS,by rw[D];rfl,by rw[D];rfl,by rw[D];rfl,by rw[D];rfl,by dsimp only[bR.set];omega,by dsimp only[bR.set];omega,cV,λb1=>⟨Q,cj,by rw[D];exact(ck b1).1,by rw[D];exact(ck b1).2.2⟩⟩) (ay (bV.mk aI bz:bV) trivial (bM 6 rfl (ay (⟨cN,bx,bf⟩:eY) ⟨cM,a4⟩ ai))));rw[du bt];apply J [90,18,213,169,58,117];exact cQ (X,0,1) (.inl ⟨(show(1:Int)≠0 by decide),rfl,fu.refl _ _,O,.inr (.inr (.inl bt))⟩) ai);rw[du a0];apply J [90,38,58,117];exact cQ (X,0,2) (.inl ⟨(show(2:Int)≠0 by decide),rfl,fu.refl _ _,O,.inr (.inl a0)⟩) ai
 refine e rfl ?_;apply au (q7 aC af top X h V Z);refine J [5,241] ?_;intro ba;apply J [116,34];refine Vh rfl (λcn=>?_) (λcn=>absurd (Z) cn);apply J [188];exact cQ (X,0,(b5 X.A.l h 2).2) (.inl ⟨Z,rfl,fu.refl _ _,O,.inl Z⟩) ai
end Go.Proofs.Q
namespace Go.QM
open Go
theorem Kv:∀a:Nat,a<16->∀b:Nat,b<16->IntKind.i64.wrap (VY IntKind.i64.bits (a:Int)&&&~~~VY IntKind.i64.bits (b:Int)).toNat=((a-(a&&&b):Nat):Int):=by decide+kernel
section
variable {P : Program} {ah : Env} {A : av} {d : Option Nat} {ty : TypeId} {ps : String} {bl : Array Edge} {g : Option (Nat × Bool)} {t t' : TypeId} {x y : Operand} {a b c n : Nat}
theorem Kw(D:bf ah x=aa a)(E:bf ah y=aa b)(u:a<16)(C:b<16):
    bF P ah ⟨d,.binOp .andNot t x y t',ty,ps,bl,g⟩ A (aa ((a-(a&&&b):Nat):Int)):=λw _=>by
  have h:=Kv a u b C
  simp[execOp,D,E,eqGuard,binOp,Op.intBits]
  simpa using h
end
end Go.QM
namespace Go.Proofs.Q
open Go Go.QM
variable [cZ] [eL]
variable{A:bR}{i:Nat}
theorem B2(u:cc A){a:Nat}{f:Int}(C:cA A.l i 1 (bv 2 a f)):(0<=an A.l i/\an A.l i<=4294967295)/\(b5 A.l (an A.l i) 2).2=0/\bi (an A.l i)=i:=by have D:=C.lt u.ok;obtain⟨E,H,N⟩:=EG u.ok D;refine⟨⟨E,H⟩,?_,N⟩;obtain⟨g,w⟩:=C;have d:=uA D w;dsimp only at d;rw[rB w,pO (by rw[aq.cW,d];rfl),aq.cW,d]
def sq(X:cC)(t:b2.Fn)(m:Nat)(y:Bool×cC):Prop:=∃i s h r:Nat,t.dH=an X.A.l i/\t.ci=(s:Int)/\X.A.aL i s=dM h r/\(1<=r/\r<=15)/\h<4294967295/\i<256/\s<256/\
  ((y.1=true/\r-(r&&&m)=0/\∃Q,y.2=⟨X.A.bare i s Q,b2.kg X.L t.id,X.last⟩)\/(y.1=false/\r-(r&&&m)≠0/\y.2=⟨X.A.set i s (dM h (r-(r&&&m))),X.L,X.last⟩))
variable{X:cC}{t:b2.Fn}{m:Nat}
theorem sq.di{y:Bool×cC}(h:sq X t m y)(u:cc X.A)(w:c9 X en)(O:t∈X.L):c9 y.2 en/\fu X.A y.2.A 0/\y.2.A.np=X.A.np:=by
 obtain⟨i,s,x,r,C,D,P,E,H,_,_,h⟩:=h;have W:r<=15:=E.2;have d:X.A.aL i s≠0:=by grind[jL]
 rcases h with⟨_,_,Q,e⟩|⟨_,V,e⟩;rw[e];exact⟨w.lift u d O C D,⟨rfl,rfl,⟨rfl,rfl,rfl⟩,rfl,Vm _,Vm _⟩,rfl⟩;rw[e];have N:r-(r&&&m)<=15:=U
 refine⟨w.set u d (jL H N).2 (.inr ?_),⟨rfl,rfl,⟨rfl,rfl,rfl⟩,rfl,Vm _,Vm _⟩,rfl⟩;grind[k7]
variable(aC:Nat)
theorem Uw(af top:Nat)(X:cC)(H:c9 X en)(t:b2.Fn)(bc:t∈X.L)(m:Nat)(hm:1<=m/\m<=15):bK 120 [ae aC,aa t.id,aa m] c5 [cU aC af top X] (λy:Bool×cC=>.bool y.1) (λy=>sq X t m y) (λy=>[cU aC af top y.2]):=by
 apply aH Tryz.func120 Tryz.ntmps120;intro F bf;apply J [1];haveI:cw F:=⟨bf⟩;refine Wv 0 rfl hn (λbD=>?_);obtain⟨E,dt,b6⟩:=bD;obtain⟨i,s,aq,ar,D,_⟩:=H.pN t bc;obtain⟨d,⟨a,f,w⟩,x,r,av,a9,W,u,cg⟩:=E.aL i s D;obtain⟨O,Z,bY⟩:=B2 E w;have a8:=w.lt E.ok;generalize a5:an X.A.l i=h at*;have bW:b2.pR X.L t.id=(h,(s:Int),true):=by rw[b2.pR,b2.wA H.et.bA bc];dsimp only;rw[aq,ar]
 have bS:X.L.length<=1000000:=by have:=H.et.len;have:=H.de;have:=E.bd;omega
 subst bY;apply ab.open 0 rfl;rintro⟨aI,bz⟩-;apply J [87];dsimp only;apply J [128,64,28];apply au (b2.Ni bz X.L X.last t.id);apply J [17];rw[bW];dsimp only;refine J [275,296,73,184,35,478] ?_;refine aY.bk (B:=ag [cU aC af top X,F]) (ay (bV.mk aI bz:bV) trivial ai) ?_;refine e rfl ?_;apply bb (oY aC af top X h O Z);intro aS _;refine J [7,241] ?_;intro ba;apply J [116,211,124,28];apply au (oq aC af top X aS h O Z (s:Int));apply J [17];rw[k8 d,av,(k7 (r:=r) u).1,(k7 (r:=r) u).2,al (jL u W).2,al (jL u W).2];refine J [256] ?_;intro bC;apply J [339,265,3];refine q rfl rfl (Kw (a:=r) (b:=m) rfl rfl U U) ?_;apply J [406,203,29,265,93,2];apply Vh rfl<;>intro N;have N:r-(r&&&m)≠0:=U
 have a4:r-(r&&&m)<=15:=U
 have bt:pi X.A (dM x (r-(r&&&m))):=by grind[pi]
 have V:=jL (r:=r-(r&&&m)) u a4;apply ab.open 2 rfl;rintro⟨aI,bz⟩-;apply J [223];dsimp only;apply ab.open 1 rfl;rintro⟨bl,bx,S⟩ ⟨aO,aB⟩;apply J [312];dsimp only at aO aB⊢;obtain⟨w,ce⟩:=p2 aO O.1 Z;obtain⟨a3,a2⟩:=aO.hF _ _ _ w;have b1:=(a2 s d).1;have be:=(a2 s d).2 D;have cc:=c8.bd aO.P be;have ci:2^top<=128:=Vk (n:=2) am aO.P.fX.2;have bR:=aO.fG w d D;apply J [111,28];apply au (r1 aS af top (bX X.A h) (c7 X.A h) S aO.P a3 s d);apply J [146,134];refine cD [0,1,2,3,5,-4,-6] (show aE (ag _) (ag [aj ba 150 [ae aS,aT h,aa (bX X.A h)],aj bC 39 [aT x,aa ((r-(r&&&m):Nat):Int)]])from ai) ?_;apply J [102,11,228,263];apply au (Ce x (r-(r&&&m)) u a4);refine J [225,45] ?_;apply au (B1 aS af top (bX X.A h) (c7 X.A h) S aO.P a3 s d (dM x (r-(r&&&m))) (dU S.m (c7 X.A h) s) V.1 U V.2 bR);refine J [282] ?_;obtain⟨ah,a0⟩:∃ah:cT,ah=⟨S.Q,S.bE,S.C,S.Fr,dB S.m (bp S.m (c7 X.A h) (s/16)+s %16*16) [dM x (r-(r&&&m)),dU S.m (c7 X.A h) s]⟩:=⟨_,rfl⟩;rw[<-a0];have bj:=aO.s9 aB.ok w d D V.2 V.1 a0;have aQ:=aB.set w d D bt;apply J [74,128,76];exact bu (false,⟨X.A.set (bi h) s (dM x (r-(r&&&m))),X.L,X.last⟩) ⟨bi h,s,x,r,aq.trans a5.symm,ar,av,⟨a9,W⟩,u,a8,d,.inr ⟨rfl,N,rfl⟩⟩ (ay (bV.mk aI bz:bV) trivial (eG (ay (⟨bl,bx,ah⟩:eY) ⟨bj,aQ⟩ ai)));have N:r-(r&&&m)=0:=U
 apply ab.open 2 rfl;rintro⟨aI,bz⟩-;apply J [223];dsimp only;apply J [4,64,28];apply au (b2.Es bz X.L X.last t.id bS);apply J [16,2,252,3];refine aY.bk (B:=ag [aj aS 163 [ae af,aa (bX X.A h),aa (c7 X.A h:Int)],cU aC af top ⟨X.A,b2.kg X.L t.id,X.last⟩,F]) (eK (ay (bV.mk aI bz:bV) trivial ai)) ?_;refine e rfl ?_;apply bb (Cd aC af top ⟨X.A,b2.kg X.L t.id,X.last⟩ aS h O Z s d D);intro b0 aQ;apply J [7];obtain⟨aW,rfl⟩:=aQ;apply J [99,66];exact bu (true,⟨X.A.bare (bi h) s aW,b2.kg X.L t.id,X.last⟩) ⟨bi h,s,x,r,aq.trans a5.symm,ar,av,⟨a9,W⟩,u,a8,d,.inl ⟨rfl,N,aW,rfl⟩⟩ ai
theorem wM(xs d:List Int):ints xs++ints d=ints (xs++d):=by simp[ints]
theorem Qj{α β:Type}{f:α->β}(aA:∀a b,f a=f b->a=b){l:List α}(h:l.Nodup):(l.map f).Nodup:=List.pairwise_map.2 (h.imp λd e=>d (aA _ _ e))
def vn(m w:Nat):Nat:=if k6 w-(k6 w&&&m)=0 then 0 else dM (iX w) (k6 w-(k6 w&&&m))
def n5(X:cC)(l:List Int)(i s:Nat):Prop:=i<256/\∃t∈X.L,t.id∈l/\t.dH=an X.A.l i/\t.ci=(s:Int)
structure k0(X:cC)(l:List Int)(m n:Nat)(Y:cC):Prop where
  di:c9 Y en
  ci:fu X.A Y.A 0
  nh:∀i s,¬n5 X l i s->Y.A.aL i s=X.A.aL i s
  sB:∀i s,n5 X l i s->Y.A.aL i s=vn m (X.A.aL i s)
  Fv:∀t∈X.L,t.id∉l->∃t'∈Y.L,t'.id=t.id/\t'.dH=t.dH/\t'.ci=t.ci
  lj:∀t'∈Y.L,∃t∈X.L,t'.id=t.id/\t'.dH=t.dH/\t'.ci=t.ci
  gk:n<=l.length/\(m=15->n=l.length)
  de:Y.last=X.last
theorem fu.Qo{B:bR}(h:fu A B 0):B.np=A.np:=by have:=h.n;omega
theorem k0.nil(h:c9 X en)(m:Nat):k0 X [] m 0 X:=⟨h,fu.refl _ _,λ_ _ _=>rfl,λi s h=>(by obtain⟨_,t,_,h,_⟩:=h;cases h),λt d _=>⟨t,d,rfl,rfl,rfl⟩,λt d=>⟨t,d,rfl,rfl,rfl⟩,⟨Vm _,λ_=>rfl⟩,rfl⟩
theorem sq.aL{y:Bool×cC}(h:sq X t m y):∃i s h r:Nat,t.dH=an X.A.l i/\t.ci=(s:Int)/\X.A.aL i s=dM h r/\(1<=r/\r<=15)/\h<4294967295/\i<256/\s<256/\y.2.A.aL=fi X.A.aL i s (vn m (X.A.aL i s))/\y.2.last=X.last/\((y.1=true/\y.2.L=b2.kg X.L t.id)\/(y.1=false/\y.2.L=X.L/\r-(r&&&m)≠0)):=by obtain⟨i,s,x,r,D,E,C,H,u,N,O,h⟩:=h;refine⟨i,s,x,r,D,E,C,H,u,N,O,?_⟩;rw[C,vn,(k7 u).1,(k7 u).2];rcases h with⟨w,d,Q,e⟩|⟨w,d,e⟩;rw[e,ax d];exact⟨rfl,rfl,.inl ⟨w,rfl⟩⟩;rw[e,al d];exact⟨rfl,rfl,.inr ⟨w,rfl,d⟩⟩
variable{s:Nat}
theorem th{e:Nat->Nat->Nat}{w j r:Nat}(h:¬(j=i/\r=s)):fi e i s w j r=e j r:=ls (by
 by_cases d:j=i
 ·exact .inr λu=>h ⟨d,u⟩
 exact .inl d)
theorem CX:∀r,r<=15->r&&&15=r:=by decide
variable{n:Nat}{Y Z:cC}
theorem k0.step{l:List Int}{b:Bool}(h:k0 X l m n Y)(W:c9 X en)(aB:cc X.A)(aH:cc Y.A){u:b2.Fn}(E:t∈X.L)(a0:t.id∉l)(hu:u∈Y.L)(he:u.id=t.id/\u.dH=t.dH/\u.ci=t.ci)(hw:sq Y u m (b,Z)):k0 X (l++[t.id]) m (if b then n+1 else n) Z:=by
 obtain⟨Q,V,az⟩:=hw.di aH h.di hu;obtain⟨i,s,x,r,bS,N,a5,⟨ei,bb⟩,a8,ar,a9,D,au,C⟩:=hw.aL;dsimp only at Q V az D au C;rw[he.2.1,h.ci.l]at bS;rw[he.2.2]at N;have p4:∀{j q:Nat},j<256->(∃v∈X.L,v.id=t.id/\v.dH=an X.A.l j/\v.ci=((q:Nat):Int))->j=i/\q=s:=λ{j q} d ⟨v,hv,a,b,c⟩=>(by have:v=t:=W.et.bA.inj hv E a;subst this;exact⟨sH aB.ok d ar (b.symm.trans bS),by omega⟩);have ah:∀{j q},n5 X (l++[t.id]) j q↔n5 X l j q\/(j=i/\q=s):=λ{j q}=>(by constructor;rintro⟨d,v,hv,a,b,c⟩;rcases Vg.1 a with a|a;exact .inl ⟨d,v,hv,a,b,c⟩;exact .inr (p4 d ⟨v,hv,Vf.1 a,b,c⟩);rintro(⟨d,v,hv,a,b,c⟩|⟨rfl,rfl⟩);exact⟨d,v,hv,Vg.2 (.inl a),b,c⟩;exact⟨ar,t,E,by simp,bS,N⟩);have aW:¬n5 X l i s:=λ⟨d,v,hv,a,b,c⟩=>(by have:v=t:=W.et.no.inj hv E (Prod.ext (b.trans bS.symm) (c.trans N.symm));simp_all);refine⟨Q,(h.ci.trans V).mono (Vm _),λj q d=>?_,λj q d=>?_,λv hv a4=>?_,λv hv=>?_,?_,au.trans h.de⟩;have aQ:¬(j=i/\q=s):=b4
 rw[D,th aQ];exact h.nh j q λe=>d (ah.2 (.inl e));by_cases e:j=i/\q=s;obtain⟨rfl,rfl⟩:=e;rw[D,ij,h.nh _ _ aW];rw[D,th e];exact h.sB j q ((ah.1 d).resolve_right e);have aq:v.id∉l/\v.id≠t.id:=b4
 obtain⟨w,H,O,a2,a3⟩:=h.Fv v hv aq.1;rcases C with⟨_,e⟩|⟨_,e,_⟩;exact⟨b2.sP u w,by rw[e];exact((b2.Ay h.di.et hu).mem _).2 ⟨w,H,λP=>aq.2 (O.symm.trans (P.trans he.1)),rfl⟩,O,a2,a3⟩;grind;rcases C with⟨_,e⟩|⟨_,e,_⟩;rw[e]at hv;obtain⟨w,H,_,rfl⟩:=((b2.Ay h.di.et hu).mem _).1 hv;exact h.lj w H;rw[e]at hv;exact h.lj v hv;have:=h.gk;rw[mp,Vn];refine⟨by split<;>omega,λe=>?_⟩;have P:=this.2 e;rcases C with⟨av,_⟩|⟨_,_,av⟩;grind;grind[CX]
theorem k0.db{l:List Int}(h:k0 X l m n Y):n<=l.length:=h.gk.1
theorem yj(af top:Nat)(X:cC)(H:c9 X en)(m:Nat)(hm:1<=m/\m<=15)(l:List Int)(au:∀x∈l,∃t∈X.L,t.id=x)(a8:l.Nodup)(a4:l.length<=1000001)(db:Nat)(D:db=l.length)(ad:Option Addr)(cap:Nat):bK 76 [ae aC,aa m,.slice ad db cap] (λF=>c5 F/\∃E,cN F E ad (ints l)) [cU aC af top X] (λy:Nat×cC=>aa y.1) (λy=>k0 X l m y.1 y.2) (λy=>[cU aC af top y.2]):=by
 apply aH Tryz.func76 Tryz.ntmps76;intro F ⟨W,P,ah⟩;apply J [1];subst D;haveI:cw F:=⟨W⟩;haveI:bj F ad P (ints l):=⟨ah⟩;refine Wv 0 rfl hn (λC=>?_);obtain⟨Q,dt,aW⟩:=C;apply J [106,36,33,177];refine VQ (ι:=Nat×Nat×cC) (λd=>d.1<=l.length/\k0 X (l.take d.1) m d.2.1 d.2.2) (λd=>[(0,ae aC),(1,aa m),(7,aa ((d.2.1:Nat):Int)),(10,.slice ad l.length cap),(11,aa ((l.length:Nat):Int)),(12,aa ((d.1:Nat):Int))]) (λd=>ag [cU aC af top d.2.2,F]) (λd=>l.length-d.1) (0,0,X) ⟨Vl _,k0.nil H m⟩ bG ai ?_;rintro⟨k,n,Y⟩ ⟨aq,aw⟩ bc;dsimp only[cx]at aq aw⊢;have D:=aw.db;rw[Ww]at D;have a3:n<=k:=U
 apply J [43];apply Vh rfl<;>intro a5;refine Wv 0 rfl hn (λC=>?_);obtain⟨V,aQ,a0⟩:=C;have ar:k<l.length:=U
 obtain⟨x,aB⟩:∃x,l[k]? =some x:=⟨l[k],Ve ar⟩;obtain⟨t,N,rfl⟩:=au x (Vi aB);have O:t.id∉l.take k:=λbL=>(by grind[XQ,List.getElem_inj]);obtain⟨u,hu,he⟩:=aw.Fv t N O;have aL:l[k]? =some u.id:=b4
 have av:l.take (k+1)=l.take k++[t.id]:=by grind[Vv]
 have a9:0<(ints l).length:=by grind[ec]
 have a2:k<(ints l).length:=by grind[ec]
 refine J [187] ?_;refine q rfl rfl (dk rfl rfl (hO aL)) ?_;apply J [27,35,28];apply bb (Uw aC af top Y aw.di u hu m hm);intro⟨hj,Z⟩ an;apply J [5];have w:=aw.step H Q V N O hu he an;rw[<-av]at w;dsimp only;cases hj;refine J [115,114] ?_;exact⟨rfl,(k+1,n,Z),⟨by dsimp only;omega,w⟩,cB,bG,ai⟩;refine J [2,20,345,73,62] ?_;exact⟨rfl,(k+1,n+1,Z),⟨by dsimp only;omega,w⟩,cB,bG,ai⟩;obtain rfl:k=l.length:=U
 rw[V0]at aw;apply J [19,133];exact bu (n,Y) aw ai
theorem Um(af top:Nat)(X:cC)(aS:Nat)(h s:Int)(d:0<=h/\h<=4294967295):bt 74 [ae aC,.agg #[ae aS,aT h,aa (bX X.A h)],aa s] be [cU aC af top X] (aa (b2.hl X.L (h,s))) [cU aC af top X]:=by apply aH Tryz.func74 Tryz.ntmps74;intro F _;refine J [341] ?_;rintro⟨aI,bz⟩-;apply J [87];dsimp only;refine J [26,308] ?_;intro ba;apply J [31];refine cD [0,1,2,3,4,5,6,7,-8,9] (show aE (ag _) (ag [aj ba 150 [ae aS,aT h,aa (bX X.A h)],aj aC 148 [ae aI,ae bz]])from ai) ?_;refine J [137,143,375,263] ?_;apply au (b2.wy bz X.L X.last h s);refine J [297,70,147] ?_;exact eZ (ay (bV.mk aI bz:bV) trivial ai)
def ht(e:Nat->Nat)(n:Nat):List Int:=((VF n).filter λs=>decide (e s≠0)).map λs:Nat=>(s:Int)
theorem Sz{e:Nat->Nat}(h:e n≠0):ht e (n+1)=ht e n++[(n:Int)]:=by grind[ht,List.range_succ]
theorem Sy{e:Nat->Nat}(h:e n=0):ht e (n+1)=ht e n:=by grind[ht,List.range_succ]
theorem HA(e:Nat->Nat)(n:Nat):(ht e n).length<=n:=by grind[ht]
variable{x:Int}
theorem tb{e:Nat->Nat}:x∈ht e n↔∃s:Nat,x=s/\s<n/\e s≠0:=by simp only[ht,Vq,VE,Xs,decide_eq_true_eq];grind
theorem Hz{e e':Nat->Nat}(h:∀s,s<n->(e s≠0↔e' s≠0)):ht e n=ht e' n:=by rw[ht,ht];refine congrArg _ (List.filter_congr λs d=>?_);simp_all
theorem Sx(e:Nat->Nat)(n:Nat):(ht e n).Nodup:=by rw[ht];exact Qj (λa b h=>Int.ofNat.inj h) (List.nodup_range.filter _)
def jQ(A:bR)(h:Int):List Int:=if(b5 A.l h 2).2≠0 then[]else ht (A.aL (bi h)) 256
def kL(A:bR)(h s m:Int):Int:=if(b5 A.l h 2).2≠0 then(b5 A.l h 2).2 else if ¬(0<=s/\s<256)then 2 else if ¬(0<m/\m<=15)then 1 else if gn A (bi h) s=0 then 6 else 0
def qY(b:Bool)(x:Int):List Int:=if b then[x]else[]
def yF(X:cC)(h s m:Int)(self:Bool)(y:Nat×cC):Prop:=(kL X.A h s m≠0/\y=(0,X))\/(kL X.A h s m=0/\∃t∈X.L,t.dH=h/\t.ci=s/\k0 X (b2.hL X.L X.last t.id++qY self t.id) m.toNat y.1 y.2)
theorem Kt(h:c9 X en)(d:t∈X.L):b2.hL X.L X.last t.id=b2.jW X.L X.last t.id:=ax ⟨t,d,rfl⟩
theorem Da{X:cC}(h:c9 X en){t:b2.Fn}(w:t∈X.L)(b:Bool):(∀x∈b2.hL X.L X.last t.id++qY b t.id,∃u∈X.L,u.id=x)/\(b2.hL X.L X.last t.id++qY b t.id).Nodup/\(b2.hL X.L X.last t.id).length<=X.L.length:=by
 refine⟨λx d=>?_,?_,b2.Kq h.et _⟩;rcases Vg.1 d with d|d;exact(b2.Kr h.et d).1;cases b with|false=>cases d|true=>exact⟨t,w,(Vf.1 d).symm⟩
 rw[Kt h w,VI];refine⟨b2.C9 h.et _,by cases b<;>simp[qY],λx d y C e=>?_⟩;have:=(b2.vW h.et d).2.1;cases b with|false=>cases C|true=>rw[Vf.1 C]at e;omega
theorem Ij(aS af top:Nat)(u:Int)(t:Nat)(S:cT)(D:dg top S)(E:gg top S t):bK 32 [ae aS] be [aj aS 163 [ae af,aa u,aa t],e3 af top S] (λy:Option Addr×Nat=>.slice y.1 (ht (d7 S.m t) 256).length y.2) (λ_=>True) (λy=>[aX 3 1 y.1 (ht (d7 S.m t) 256).length y.2 (ints (ht (d7 S.m t) 256)),aj aS 163 [ae af,aa u,aa t],e3 af top S]):=by
 apply aH Tryz.func32 Tryz.ntmps32;intro F _;apply J [13,121,200,25,183];refine VQ (ι:=Nat×Option Addr×Nat) (λs=>s.1<=256) (λs=>[(0,ae aS),(3,.slice s.2.1 (ht (d7 S.m t) s.1).length s.2.2),(7,aa ((s.1:Nat):Int))]) (λs=>ag [aX 3 1 s.2.1 (ht (d7 S.m t) s.1).length s.2.2 (ints (ht (d7 S.m t) s.1)),aj aS 163 [ae af,aa u,aa t],e3 af top S,F]) (λs=>256-s.1) (0,none,0) (Vl _) bG ((dG 3 1 _).trans (ao (ao (ao (ao (a6 _)))))) ?_;rintro⟨n,ad,cap⟩ an Q;dsimp only[cx]at an⊢;have O:=HA (d7 S.m t) n;apply J [43];apply Vh rfl<;>intro P;have H:n<256:=U
 apply J [56,135,32];apply au (r1 aS af top u t S D E n H);apply J [17,275,173,34];apply Vh rfl<;>intro N;have d:=Sz (e:=d7 S.m t) (n:=n) U;refine J [108,68] ?_;intro ba;refine e rfl ?_;refine ap 8 rfl rfl rfl rfl rfl (Vr rfl) (show _=ints [(n:Int)]from rfl) rfl U gq ?_;intro w C;refine J [83,62] ?_;exact⟨rfl,(n+1,w,C),cB,cB,⟨rfl,congrArg (λn=>VX _ n _) (by dsimp only;rw[d,mp];rfl),rfl,trivial⟩,(b9 0 rfl (by dsimp only;rw[d,wM,mp];rfl) ai)⟩;have d:=Sy (e:=d7 S.m t) (n:=n) U;refine J [114] ?_;exact⟨rfl,(n+1,ad,cap),cB,cB,⟨rfl,congrArg (λn=>VX _ n _) (by dsimp only;rw[d]),rfl,trivial⟩,(b9 2 rfl (by dsimp only;rw[d]) (ao (ao (ao (a6 _)))))⟩;obtain rfl:n=256:=U
 apply J [209,69];exact bu (ad,cap) trivial ai
theorem Uv(af top:Nat)(X:cC)(h:Int)(u:0<=h/\h<=4294967295):bK 33 [ae aC,aT h] c5 [cU aC af top X] (λy:Option Addr×Nat=>.slice y.1 (jQ X.A h).length y.2) (λ_=>True) (λy=>[aX 3 1 y.1 (jQ X.A h).length y.2 (ints (jQ X.A h)),cU aC af top X]):=by
 apply aH Tryz.func33 Tryz.ntmps33;intro F D;apply J [1];haveI:cw F:=⟨D⟩;apply J [121,35];by_cases d:(b5 X.A.l h 2).2=0;rw[show jQ X.A h=ht (X.A.aL (bi h)) 256 from al (λbL=>bL d)];refine e rfl ?_;apply bb (oY aC af top X h u d);intro aS _;refine J [7,241] ?_;intro ch;apply J [116,211,111];apply aY.open 2 rfl;rintro⟨aI,bz⟩-;apply J [14];dsimp only;apply aY.open 1 rfl;rintro⟨H,bx,S⟩ ⟨aO,w⟩;apply J [21];dsimp only at aO w⊢;obtain⟨N,V⟩:=p2 aO u.1 d;obtain⟨E,Q⟩:=aO.hF _ _ _ N;have mj:ht (d7 S.m (c7 X.A h)) 256=ht (X.A.aL (bi h)) 256:=by grind[Hz]
 refine e rfl ?_;apply bb (Ij aS af top (bX X.A h) (c7 X.A h) S aO.P E);intro O _;apply J [146];rw[mj];apply J [69];exact bu O trivial (ao (ay (bV.mk aI bz:bV) trivial (eG (ay (⟨H,bx,S⟩:eY) ⟨aO,w⟩ ai))));rw[show jQ X.A h=[]from ax d];refine e rfl ?_;apply au (q7 aC af top X h u d);refine J [5,241] ?_;intro bC;apply J [116,34];refine Vh rfl (λC=>?_) (λC=>absurd (d) C);apply J [121,76];exact bu (none,0) trivial ((dG 3 1 _).trans ai)
theorem Ut(af top:Nat)(X:cC)(h s m:Int)(H:0<=h/\h<=4294967295)(self:Bool)(w:c9 X en):bK 27 [ae aC,aT h,aa s,aa m,.bool self] c5 [cU aC af top X] (λy:Nat×cC=>.tuple #[aa y.1,aa (kL X.A h s m)]) (λy=>yF X h s m self y) (λy=>[cU aC af top y.2]):=by
 apply aH Tryz.func27 Tryz.ntmps27;intro F aB;apply J [1];haveI:cw F:=⟨aB⟩;refine Wv 0 rfl hn (λaW=>?_);obtain⟨av,dt,aQ⟩:=aW;apply J [240,35];by_cases d:(b5 X.A.l h 2).2=0;refine e rfl ?_;apply bb (oY aC af top X h H d);intro aS _;refine J [7,241] ?_;intro a3;apply J [116,211,124,28];apply au (oq aC af top X aS h H d s);refine J [17,256] ?_;intro a4;apply J [103,104,75,142];apply au (sb s);apply J [10];by_cases u:0<=s/\s<256;rw[da u];apply J [266,142];apply au (yi m);apply J [10];by_cases hm:0<m/\m<=15;rw[da hm];apply J [266,59,392,38];apply Vh rfl<;>intro a9;have C:gn X.A (bi h) s=0:=U
 have hv:kL X.A h s m=6:=by rw[kL,al (λbL=>bL d),al (λbL=>bL u),al (λbL=>bL hm),ax C]
 have qF:kL X.A h s m≠0:=U
 rw[hv];apply J [180];exact ym;have C:gn X.A (bi h) s≠0:=U
 have hv:kL X.A h s m=0:=by rw[kL,al (λbL=>bL d),al (λbL=>bL u),al (λbL=>bL hm),al C]
 rw[hv];obtain⟨er,rfl⟩:∃k:Nat,s=(k:Int):=⟨s.toNat,(Wf u.1).symm⟩;obtain⟨O,rfl⟩:∃k:Nat,m=(k:Int):=⟨m.toNat,(Wf U).symm⟩;have a0:er<256:=U
 rw[k8 a0]at C;obtain⟨t,V,an,W,ar,bc⟩:=w.find C (λh=>h);rw[p3 aQ H.1 d]at an W;obtain⟨D,E,a8⟩:=Da w V self;have aL:X.L.length<=1000000:=by have:=w.et.len;have:=w.de;have:=av.bd;omega
 have aq:1<=O/\O<=15:=U
 apply J [22,252,28];apply au (Um aC af top X aS h (er:Int) H);apply J [10];rw[an];apply aY.open 0 rfl;rintro⟨aI,bz⟩-;apply J [16];dsimp only;apply J [27,64,28];apply bb (b2.Eh bz X.L X.last t.id aL);intro N _;apply J [78,190,59,2];cases self;rw[show qY false t.id=[]from rfl]at D E;rw[Wa]at D E;apply J [205,35,86];skip;refine aY.bk (B:=ag [cU aC af top X,aX 3 1 N.1 ((b2.hL X.L X.last t.id).length) N.2 (ints (b2.hL X.L X.last t.id)),F]) (ay (bV.mk aI bz:bV) trivial ai) ?_;refine e rfl ?_;apply eM (yj aC af top X w O aq (b2.hL X.L X.last t.id) D E U _ rfl N.1 N.2) ⟨cw.aV,_,bj.rd (ad:=N.1)⟩;intro⟨db,P⟩ aw;apply J [7,96];exact cQ (db,P) (.inr ⟨hv,t,V,W,ar,by rw[show qY false t.id=[]from rfl,Wa];exact aw⟩) ai;rw[show qY true t.id=[t.id]from rfl]at D E;refine J [20,108,68] ?_;intro a5;refine J [0,544] ?_;intro Q Z;apply J [202,35,86];have hlen:((b2.hL X.L X.last t.id)++[t.id]).length=(b2.hL X.L X.last t.id).length+1:=b4
 refine aY.bk (B:=ag [cU aC af top X,aX 3 1 Q ((b2.hL X.L X.last t.id).length+1) Z (ints ((b2.hL X.L X.last t.id)++[t.id])),F]) (ay (bV.mk aI bz:bV) trivial (cO (cO (bw (b9 0 rfl (by rw[wM]) ai))))) ?_;refine e rfl ?_;apply eM (yj aC af top X w O aq ((b2.hL X.L X.last t.id)++[t.id]) D E (by rw[hlen];omega) _ hlen.symm Q Z) ⟨cw.aV,_,bj.rd (ad:=Q)⟩;intro⟨db,P⟩ aw;apply J [7,96];exact cQ (db,P) (.inr ⟨hv,t,V,W,ar,aw⟩) ai;have hv:kL X.A h s m=1:=by rw[kL,al (λbL=>bL d),al (λbL=>bL u),ax hm]
 have qF:kL X.A h s m≠0:=U
 rw[hv];rw[du hm];apply J [90,38,58,117];exact ym;have hv:kL X.A h s m=2:=by rw[kL,al (λbL=>bL d),ax u]
 have qF:kL X.A h s m≠0:=U
 rw[hv];rw[du u];apply J [90,38,58,117];exact ym;have hv:kL X.A h s m=(b5 X.A.l h 2).2:=by rw[kL,ax d]
 have qF:kL X.A h s m≠0:=U
 rw[hv];refine e rfl ?_;apply au (q7 aC af top X h H d);refine J [5,241] ?_;intro a2;apply J [116,34];refine Vh rfl (λah=>?_) (λah=>absurd (d) ah);apply J [188];exact ym
def zW(A:bR)(h t s:Int):Bool:=decide ((iX (gn A (bi t) s):Int)=h)
def jE(A:bR)(h t:Int)(K:List Int):List (Int×Int):=(K.filter (zW A h t)).map λs=>(t,s)
def i5(A:bR)(h:Int)(T:List Int):List (Int×Int):=T.flatMap λt=>jE A h t (jQ A t)
def ns(A:bR)(h:Int):List (Int×Int):=i5 A h (aq.dd A.l 1)
variable{k:Nat}
theorem NX{h t:Int}{K:List Int}{s:Int}(e:K[k]? =some s):jE A h t (K.take (k+1))=jE A h t (K.take k)++if(iX (gn A (bi t) s):Int)=h then[(t,s)]else[]:=by rw[Vv,e,jE,jE,List.filter_append,Wu];congr 1;grind[zW]
theorem NY{h t:Int}{T:List Int}(e:T[k]? =some t):i5 A h (T.take (k+1))=i5 A h (T.take k)++jE A h t (jQ A t):=by grind[Vv,i5]
theorem zV{A:bR}(O:cc A){h:Int}{o:Int×Int}:o∈ns A h↔∃t∈aq.dd A.l 1,∃s:Nat,o=(t,(s:Int))/\(b5 A.l t 2).2=0/\s<256/\A.aL (bi t) s≠0/\(iX (A.aL (bi t) s):Int)=h:=by rw[ns,i5,Wc];constructor;rintro⟨t,C,u⟩;rw[jE,Vq]at u;obtain⟨s,w,rfl⟩:=u;obtain⟨d,D⟩:=VE.1 w;rw[jQ]at d;split at d;trivial;rename_i E;obtain⟨n,rfl,H,N⟩:=tb.1 d;refine⟨t,C,n,rfl,Vj E,H,N,?_⟩;have:=dz D;grind[k8];rintro⟨t,C,s,rfl,u,w,d,D⟩;refine⟨t,C,?_⟩;rw[jE,Vq];refine⟨(s:Int),VE.2 ⟨?_,?_⟩,rfl⟩;rw[jQ,al (λh=>h u)];exact tb.2 ⟨s,rfl,w,d⟩;grind[zW,k8]
theorem NW(A:bR)(h t:Int){K:List Int}(d:K.Nodup):(jE A h t K).Nodup:=by rw[jE];grind
theorem SD(A:bR)(h:Int):(jQ A h).Nodup:=by grind[jQ,Sx]
theorem BH(A:bR)(h:Int):(jQ A h).length<=256:=by rw[jQ];split;trivial;grind[HA]
theorem EI(A:bR)(h:Int):∀{T:List Int},T.Nodup->(i5 A h T).Nodup
 | [],_=>List.nodup_nil
 | t::T,H=>by obtain⟨D,E⟩:=List.nodup_cons.1 H;rw[i5,VD,<-i5,VI];refine⟨NW A h t (SD A t),EI A h E,λa w b d e=>?_⟩;rw[i5,Wc]at d;obtain⟨u,hu,d⟩:=d;rw[jE,Vq]at w d;obtain⟨s,_,rfl⟩:=w;obtain⟨r,_,rfl⟩:=d;exact D (by have C:t=u:=congrArg Prod.fst e;rw[C];exact hu)
theorem EH(A:bR)(h t:Int)(K:List Int):(jE A h t K).length<=K.length:=by rw[jE,List.length_map];exact List.length_filter_le _ _
theorem zX(A:bR)(h:Int):∀T:List Int,(i5 A h T).length<=256*T.length
 | []=>Vm _
 | t::T=>by rw[i5,VD,<-i5,mp,List.length_cons];have:=zX A h T;have:=EH A h t (jQ A t);have:=BH A t;omega
theorem Uf(af top:Nat)(X:cC)(h:Int)(bE:0<=h/\h<=4294967295):bK 22 [ae aC,aT h] c5 [cU aC af top X] (λy:Option Addr×Nat=>.slice y.1 (ns X.A h).length y.2) (λ_=>True) (λy=>[aX 78 2 y.1 (ns X.A h).length y.2 (b2.nG (ns X.A h)),cU aC af top X]):=by
 apply aH Tryz.func22 Tryz.ntmps22;intro F aB;apply J [1];haveI:cw F:=⟨aB⟩;refine Wv 0 rfl hn (λa4=>?_);obtain⟨Q,dt,bt⟩:=a4;apply ab.open 0 rfl;rintro⟨aI,bz⟩-;apply J [87];dsimp only;apply J [121,200,101,122,40,0];apply bb (Dr aI af top X.A);intro y _;apply J [10];obtain⟨T,a0⟩:∃T,T=(aq.dd X.A.l 1):=⟨_,rfl⟩;rw[<-a0];have a5:ns X.A h=i5 X.A h T:=by grind[ns]
 rw[a5];apply J [224,112];refine ab.bk (B:=ag [aX 33 1 y.1 T.length y.2 (cf .u32 T),cU aC af top X,F]) (ao (ay (bV.mk aI bz:bV) trivial ai)) ?_;refine VQ (ι:=Nat×Option Addr×Nat) (λs=>s.1<=T.length) (λs=>[(0,ae aC),(1,aT h),(20,.slice y.1 T.length y.2),(21,aa ((T.length:Nat):Int)),(5,.slice s.2.1 (i5 X.A h (T.take s.1)).length s.2.2),(22,aa ((s.1:Nat):Int))]) (λs=>ag [aX 78 2 s.2.1 (i5 X.A h (T.take s.1)).length s.2.2 (b2.nG (i5 X.A h (T.take s.1))),aX 33 1 y.1 T.length y.2 (cf .u32 T),cU aC af top X,F]) (λs=>T.length-s.1) (0,none,0) (Vl _) bG ((dG 78 2 _).trans ai) ?_;rintro⟨i,ad,cap⟩ a8 ce;dsimp only[cx]at a8⊢;apply J [43];apply Vh rfl<;>intro bY;have a9:i<T.length:=U
 have bD:T.length<=256:=(by have:=aq.pg X.A.l 1;rw[Q.ok.n]at this;simp_all);obtain⟨t,an⟩:∃t,T[i]? =some t:=⟨T[i],Ve a9⟩;have bf:t∈aq.dd X.A.l 1:=cr
 have D:=nT Q.ok bf;have E:=NY (A:=X.A) (h:=h) an;have b1:0<(cf .u32 T).length:=by grind[hT]
 have bR:i<(cf .u32 T).length:=by grind[hT]
 refine J [245,311] ?_;refine q rfl rfl (dk rfl rfl (j0 an)) ?_;apply J [31];by_cases d:(b5 X.A.l t 2).2=0;obtain⟨L,V⟩:∃L,L=ht (X.A.aL (bi t)) 256:=⟨_,rfl⟩;have aW:jQ X.A t=L:=by rw[jQ,al (λbL=>bL d),V]
 rw[aW]at E;have bp:L.length<=256:=(by grind[BH]);have aQ:∀x∈L,∃n:Nat,x=n/\n<256:=λx cc=>(by grind[tb]);apply J [178];apply bb (oY aC af top X t D d);intro aS _;refine J [10,241] ?_;intro bC;apply J [116,211,111];apply aY.open 2 rfl;rintro⟨aI,bz⟩-;apply J [78];dsimp only;apply aY.open 1 rfl;rintro⟨a3,bx,S⟩ ⟨aO,O⟩;apply J [313];dsimp only at aO O⊢;obtain⟨bc,bW⟩:=p2 aO D.1 d;obtain⟨a2,bl⟩:=aO.hF _ _ _ bc;have mj:ht (d7 S.m (c7 X.A t)) 256=ht (X.A.aL (bi t)) 256:=by grind[Hz]
 refine e rfl ?_;apply bb (Ij aS af top (bX X.A t) (c7 X.A t) S aO.P a2);intro w _;apply J [299];rw[mj,<-V];apply J [177];refine VQ (ι:=Nat×Option Addr×Nat) (λs=>s.1<=L.length) (λs=>[(0,ae aC),(1,aT h),(20,.slice y.1 T.length y.2),(21,aa ((T.length:Nat):Int)),(5,.slice s.2.1 (i5 X.A h (T.take i)++jE X.A h t (L.take s.1)).length s.2.2),(7,aT t),(8,ae bC),(22,aa ((i:Nat):Int)),(36,.slice w.1 L.length w.2),(37,aa ((L.length:Nat):Int)),(38,aa ((s.1:Nat):Int))]) (λs=>ag [aX 78 2 s.2.1 (i5 X.A h (T.take i)++jE X.A h t (L.take s.1)).length s.2.2 (b2.nG (i5 X.A h (T.take i)++jE X.A h t (L.take s.1))),aX 3 1 w.1 L.length w.2 (ints L),aj bC 150 [ae aS,aT t,aa (bX X.A t)],aX 33 1 y.1 T.length y.2 (cf .u32 T),aj aS 163 [ae af,aa (bX X.A t),aa (c7 X.A t:Int)],cU aC af top X,F]) (λs=>L.length-s.1) (0,ad,cap) (Vl _) ⟨rfl,rfl,rfl,rfl,congrArg (λn=>VX _ n _) (by dsimp only;rw[WR,show jE X.A h t []=[]from rfl,Wa]),rfl,rfl,rfl,rfl,rfl,rfl,trivial⟩ (b9 9 rfl (by dsimp only;rw[WR,show jE X.A h t []=[]from rfl,Wa];first|done|fail) (ao (bM 7 rfl (bM 7 rfl (ao (ay (bV.mk aI bz:bV) trivial (eK (ay (⟨a3,bx,S⟩:eY) ⟨aO,O⟩ ai)))))))) ?_;rintro⟨j,H,N⟩ bd cg;dsimp only[cx]at bd⊢;apply J [43];apply Vh rfl<;>intro b0;have be:j<L.length:=U
 have cb:(i5 X.A h (T.take i)++jE X.A h t (L.take j)).length<=70000:=(by grind[zX,EH]);obtain⟨s,C⟩:∃s,L[j]? =some s:=⟨L[j],Ve be⟩;have u:=NX (A:=X.A) (h:=h) (t:=t) C;obtain⟨s,rfl,mj⟩:=aQ s (Vi C);have b6:0<(ints L).length:=by grind[ec]
 have bS:j<(ints L).length:=by grind[ec]
 have Z:gn X.A (bi t) (s:Int)≠0:=(by have:=Vi C;grind[tb,k8]);refine J [187] ?_;refine q rfl rfl (dk rfl rfl (hO C)) ?_;apply J [27,124,28];apply au (oq aC af top X aS t D d (s:Int));apply J [16];rw[al Z,al Z];refine J [256] ?_;intro ch;apply J [339,111,3,244];apply Vh rfl<;>intro heq;rw[ax heq]at u;refine J [108,247,3,150,0,294] ?_;intro bj;refine e rfl ?_;refine ap 16 rfl rfl rfl rfl rfl (Vr rfl) (show _=b2.nG [(t,(s:Int))]from rfl) rfl U gq ?_;intro ar av;refine J [83,62] ?_;exact⟨rfl,(j+1,ar,av),cB,cB,⟨rfl,rfl,rfl,rfl,congrArg (λn=>VX _ n _) (by dsimp only;rw[u,<-VJ,mp (bs:=[(t,(s:Int))])];rfl),rfl,rfl,rfl,rfl,rfl,rfl,trivial⟩,(b9 0 rfl (by dsimp only;rw[u,<-VJ,b2.SV,mp (bs:=[(t,(s:Int))])];rfl) ai)⟩;rw[al heq,Wa]at u;refine J [114] ?_;exact⟨rfl,(j+1,H,N),cB,cB,⟨rfl,rfl,rfl,rfl,congrArg (λn=>VX _ n _) (by dsimp only;rw[u]),rfl,rfl,rfl,rfl,rfl,rfl,trivial⟩,(b9 3 rfl (by dsimp only;rw[u];first|done|fail) ai)⟩;obtain rfl:j=L.length:=by omega
 rw[V0,<-E];refine ab.exit (lP (lP (qv (jK (ib ?_)))));refine J [344] ?_;exact⟨rfl,(i+1,H,N),cB,cB,bG,ai⟩;have ah:i5 X.A h (T.take (i+1))=i5 X.A h (T.take i):=by rw[E,jQ,ax d];simp[jE]
 apply J [178];apply au (q7 aC af top X t D d);refine J [17,241] ?_;intro ba;apply J [116,34];refine Vh rfl (λW=>?_) (λW=>absurd (d) W);refine J [460,344] ?_;exact⟨rfl,(i+1,ad,cap),cB,cB,⟨rfl,rfl,rfl,rfl,congrArg (λn=>VX _ n _) (by dsimp only;rw[ah]),rfl,trivial⟩,(b9 2 rfl (by dsimp only;rw[ah];first|done|fail) ai)⟩;obtain rfl:i=T.length:=by omega
 rw[V0];apply J [209,69];exact bu (ad,cap) trivial ai
structure j6(X Y:cC):Prop where
  di:c9 Y en
  ci:fu X.A Y.A 0
  aL:∀i s,Y.A.aL i s=0\/Y.A.aL i s=X.A.aL i s
  de:Y.last=X.last
theorem j6.refl(h:c9 X en):j6 X X:=⟨h,fu.refl _ _,λ_ _=>.inr rfl,rfl⟩
theorem j6.trans(h:j6 X Y)(k:j6 Y Z):j6 X Z:=⟨k.di,(h.ci.trans k.ci).mono (Vm _),λi s=>by
 rcases k.aL i s with e|e
 ·exact .inl e
 rw[e];exact h.aL i s,k.de.trans h.de⟩
theorem j6.zero(h:j6 X Y)(e:X.A.aL i s=0):Y.A.aL i s=0:=by rcases h.aL i s with d|d;all_goals omega
theorem T7(h:cc A)(e:A.aL i s≠0):vn 15 (A.aL i s)=0:=by obtain⟨_,_,x,r,d,C,u,w,_⟩:=h.aL i s e;rw[d,vn,(k7 w).2,CX r u,ax (Nat.sub_self _)]
theorem N7(h:c9 X en)(C:cc X.A){l:List Int}(D:n5 X l i s):X.A.aL i s≠0:=by obtain⟨d,t,E,_,u,w⟩:=D;exact(h.p4 C E d u w).1
theorem k0.Ch{l:List Int}(h:k0 X l 15 n Y)(w:c9 X en)(d:cc X.A)(u:n5 X l i s):Y.A.aL i s=0:=by rw[h.sB i s u];exact T7 d (N7 w d u)
theorem k0.less{l:List Int}(h:k0 X l 15 n Y)(w:c9 X en)(u:cc X.A):j6 X Y:=⟨h.di,h.ci,λi s=>by
 by_cases d:n5 X l i s
 ·exact .inl (h.Ch w u d)
 exact .inr (h.nh i s d),h.de⟩
structure ri(X:cC)(h:Int)(K:List Int)(k n:Nat)(Y:cC):Prop where
  iP:j6 X Y
  z:∀x∈K.take k,Y.A.aL (bi h) x.toNat=0
  n:n<=k*1000001
theorem ri.nil(h:c9 X en)(t:Int)(K:List Int):ri X t K 0 0 X:=⟨j6.refl h,(λx d=>by rw[WR]at d;cases d),Vm _⟩
theorem ri.next{h:Int}{K:List Int}(u:ri X h K k n Y)(hs:K[k]? =some (s:Int))(w:j6 Y Z)(C:Z.A.aL (bi h) s=0)(hm:m<=1000001):ri X h K (k+1) (n+m) Z:=by refine⟨u.iP.trans w,λx d=>?_,by have:=u.n;omega⟩;rw[Vv,hs]at d;rcases Vg.1 d with d|d;exact w.zero (u.z x d);simp_all
structure o7(X:cC)(H:List (Int×Int))(k n:Nat)(Y:cC):Prop where
  iP:j6 X Y
  z:∀o∈H.take k,Y.A.aL (bi o.1) o.2.toNat=0
  e:∀i s:Nat,(∀o∈H.take k,¬(bi o.1=i/\o.2=(s:Int)))->Y.A.aL i s=X.A.aL i s
  n:n<=k
theorem o7.nil(h:c9 X en)(H:List (Int×Int)):o7 X H 0 0 X:=⟨j6.refl h,(λx d=>by rw[WR]at d;cases d),λ_ _ _=>rfl,Vm _⟩
theorem o7.next{H:List (Int×Int)}(d:o7 X H k n Y)(C:cc Y.A){o:Int×Int}(aq:H[k]? =some o)(aB:o.2=(s:Int))(ar:t∈Y.L)(E:t.dH=an Y.A.l (bi o.1))(av:t.ci=(s:Int))(Q:bi o.1<256)(aw:k0 Y [t.id] 15 m Z):o7 X H (k+1) (n+m) Z:=by
 have V:n5 Y [t.id] (bi o.1) s:=by grind[n5]
 have aH:=aw.Ch d.iP.di C V;have D:=aw.less d.iP.di C;have hm:=aw.db;refine⟨d.iP.trans D,λx w=>?_,λi r W=>?_,by have:=d.n;rw[Vn]at hm;omega⟩;rw[Vv,aq]at w;rcases Vg.1 w with w|w;exact D.zero (d.z x w);simp_all;have ah:¬n5 Y [t.id] i r:=λ⟨N,u,hu,O,P,az⟩=>(by have:u=t:=d.iP.di.et.bA.inj hu ar (Vf.1 O);subst this;have au:=sH C.ok Q N (E.symm.trans P);grind[Vv]);rw[aw.nh i r ah];exact d.e i r λx w=>W x (by rw[Vv];exact Vg.2 (.inl w))
theorem PE(h:cc A){o:aq.fc}(u:cA A.l i 1 o):an A.l i∈aq.dd A.l 1:=by obtain⟨g,d⟩:=u;exact(tF h.ok).2 ⟨i,_,d,rfl,rB d⟩
theorem o7.done{h:Int}(u:cc X.A)(W:cc Y.A)(d:o7 X (ns X.A h) (ns X.A h).length n Y):AY Y.A h:=by
 intro i s x r e O C D P;have Z:=(jL (r:=r) D C).2;have N:Y.A.aL i s≠0:=U
 have Q:X.A.aL i s=Y.A.aL i s:=(by rcases d.iP.aL i s with w|w;all_goals omega);have E:X.A.aL i s≠0:=U
 obtain⟨V,⟨a,f,H⟩,_⟩:=u.aL i s E;obtain⟨_,ah,aq⟩:=B2 u H;have hm:(an X.A.l i,(s:Int))∈ns X.A h:=by grind[zV,PE,k7]
 have:=d.z _ (by rw[V0];exact hm);simp_all
theorem Ux(af top:Nat)(X:cC)(h:Int)(av:0<=h/\h<=4294967295)(a9:c9 X en):bK 346 [ae aC,aT h] c5 [cU aC af top X] (λy:Nat×cC=>aa y.1) (λy=>j6 X y.2/\∀s,(b5 X.A.l h 2).2=0->y.2.A.aL (bi h) s=0) (λy=>[cU aC af top y.2]):=by
 apply aH Tryz.func346 Tryz.ntmps346;intro F a8;apply J [1];haveI:cw F:=⟨a8⟩;refine Wv 0 rfl hn (λD=>?_);obtain⟨a5,dt,b0⟩:=D;apply J [106,36,32];apply bb (Uv aC af top X h av);intro w _;apply J [7];obtain⟨K,O⟩:∃K,K=jQ X.A h:=⟨_,rfl⟩;rw[<-O];have bY:K.length<=256:=by grind[BH]
 apply J [177];refine VQ (ι:=Nat×Nat×cC) (λd=>d.1<=K.length/\ri X h K d.1 d.2.1 d.2.2) (λd=>[(0,ae aC),(1,aT h),(5,aa ((d.2.1:Nat):Int)),(11,.slice w.1 K.length w.2),(12,aa ((K.length:Nat):Int)),(13,aa ((d.1:Nat):Int))]) (λd=>ag [aX 3 1 w.1 K.length w.2 (ints K),cU aC af top d.2.2,F]) (λd=>K.length-d.1) (0,0,X) ⟨Vl _,ri.nil a9 h K⟩ bG ai ?_;rintro⟨k,n,Y⟩ ⟨bD,aw⟩ cl;dsimp only[cx]at bD aw⊢;have ce:=aw.n;apply J [43];apply Vh rfl<;>intro cc;·refine Wv 1 rfl hn (λD=>?_);obtain⟨C,a4,W⟩:=D;(have bE:k<K.length:=by omega);obtain⟨x,H⟩:∃x,K[k]? =some x:=⟨K[k],Ve bE⟩;have Q:=Vi H;rw[O,jQ]at Q;(have E:(b5 X.A.l h 2).2=0:=by simp_all);rw[al (λbL=>bL E)]at Q;obtain⟨s,rfl,aW,_⟩:=tb.1 Q;(have bR:(b5 Y.A.l h 2).2=0:=by rw[aw.iP.ci.l];exact E);have aB:=p3 W av.1 bR;(have aQ:bi h<256:=by grind[bi]);(have bc:Y.L.length<=1000000:=by have:=aw.iP.di.et.len;have:=aw.iP.di.de;have:=C.bd;omega);(have cg:0<(ints K).length:=by grind[ec]);(have b6:k<(ints K).length:=by grind[ec]);apply ab.open 1 rfl;rintro⟨aI,bz⟩-;apply J [82];dsimp only;refine J [187] ?_;refine q rfl rfl (dk rfl rfl (hO H)) ?_;refine J [27,64,247,28] ?_;apply au (b2.wy bz Y.L Y.last h (s:Int));apply J [10];by_cases u:Y.A.aL (bi h) s=0;(·(have bp:b2.hl Y.L (h,(s:Int))=0:=by have:=aw.iP.di.F7 C aQ (s:=s) (.inl u);rwa[aB]at this);rw[bp];refine J [27,242,115,114] ?_;exact⟨rfl,(k+1,n,Y),⟨by dsimp only;omega,aw.next (m:=0) H (j6.refl aw.iP.di) u am⟩,cB,bG,(cO (ay (bV.mk aI bz:bV) trivial ai))⟩);obtain⟨t,a0,ar,a2,bS,cj⟩:=aw.iP.di.find u (λh=>h);have bW:=a2;rw[aB]at ar bW;rw[ar];obtain⟨ah,an,b1⟩:=Da aw.iP.di a0 true;rw[show qY true t.id=[t.id]from rfl]at ah an;(have hlen:(b2.hL Y.L Y.last t.id++[t.id]).length=(b2.hL Y.L Y.last t.id).length+1:=by simp_all);apply J [126];refine Vh rfl (λaq=>?_) (λaq=>absurd (U) aq);apply J [212,164,175,61,28];apply bb (b2.Eh bz Y.L Y.last t.id bc);intro ck _;refine J [14,68] ?_;intro ba;refine J [0,544] ?_;intro N V;refine aY.bk (B:=ag [cU aC af top Y,aX 3 1 N ((b2.hL Y.L Y.last t.id).length+1) V (ints ((b2.hL Y.L Y.last t.id)++[t.id])),aX 3 1 w.1 K.length w.2 (ints K),F]) (ay (bV.mk aI bz:bV) trivial (cO (cO (bw (b9 0 rfl (by rw[wM]) ai))))) ?_;refine e rfl ?_;apply eM (yj aC af top Y aw.iP.di 15 am ((b2.hL Y.L Y.last t.id)++[t.id]) ah an (by rw[hlen];omega) _ hlen.symm N V) ⟨cw.aV,_,bj.rd (ad:=N)⟩;intro⟨db,Z⟩ P;apply J [17];have bl:=P.db;rw[hlen]at bl;have be:=P.Ch aw.iP.di C (i:=bi h) (s:=s) ⟨aQ,t,a0,by simp,a2,bS⟩;have bf:=P.less aw.iP.di C;dsimp only;refine J [154,73,62] ?_;exact⟨rfl,(k+1,n+db,Z),⟨by dsimp only;omega,aw.next H bf be U⟩,cB,bG,ai⟩
 refine Wv 1 rfl hn (λD=>?_);obtain⟨C,a4,W⟩:=D;obtain rfl:k=K.length:=by omega
 have a3:=aw.z;rw[V0]at a3;have bt:∀s,(b5 X.A.l h 2).2=0->Y.A.aL (bi h) s=0:=λs E=>(by by_cases u:X.A.aL (bi h) s=0;exact aw.iP.zero u;have aW:=(a5.nj u).2;have:=a3 (s:Int) (by rw[O,jQ,al (λbL=>bL E)];exact tb.2 ⟨s,rfl,aW,u⟩);trivial);apply J [19,133];exact bu (n,Y) ⟨aw.iP,bt⟩ ai
theorem Us(af top:Nat)(X:cC)(h:Int)(bd:0<=h/\h<=4294967295)(a5:c9 X en):bK 347 [ae aC,aT h] c5 [cU aC af top X] (λy:Nat×cC=>aa y.1) (λy=>j6 X y.2/\AY y.2.A h) (λy=>[cU aC af top y.2]):=by
 apply aH Tryz.func347 Tryz.ntmps347;intro F a4;apply J [1];haveI:cw F:=⟨a4⟩;refine Wv 0 rfl hn (λE=>?_);obtain⟨C,dt,a8⟩:=E;apply J [106,36,32];apply bb (Uf aC af top X h bd);intro w _;apply J [7];obtain⟨H,D⟩:∃H,H=ns X.A h:=⟨_,rfl⟩;rw[<-D];have cj:H.length<=65536:=(by have cg:=zX X.A h (aq.dd X.A.l 1);have a3:=aq.pg X.A.l 1;rw[C.ok.n]at a3;grind[ns]);have ck:H.Nodup:=by rw[D];exact EI _ _ (vN _ C.ok 1)
 refine q rfl rfl (len 78 2 rfl rfl) ?_;apply J [112];refine VQ (ι:=Nat×Nat×cC) (λd=>d.1<=H.length/\o7 X H d.1 d.2.1 d.2.2) (λd=>[(0,ae aC),(5,aa ((d.2.1:Nat):Int)),(10,.slice w.1 H.length w.2),(11,aa ((H.length:Nat):Int)),(12,aa ((d.1:Nat):Int))]) (λd=>ag [aX 78 2 w.1 H.length w.2 (b2.nG H),cU aC af top d.2.2,F]) (λd=>H.length-d.1) (0,0,X) ⟨Vl _,o7.nil a5 H⟩ bG ai ?_;rintro⟨k,n,Y⟩ ⟨bp,aw⟩ cF;dsimp only[cx]at bp aw⊢;have co:=aw.n;have cv:=b2.SU H;apply J [43];apply Vh rfl<;>intro cl;·refine Wv 1 rfl hn (λE=>?_);obtain⟨N,aB,P⟩:=E;(have bt:k<H.length:=by omega);obtain⟨o,O⟩:∃o,H[k]? =some o:=⟨H[k],Ve bt⟩;(have cp:0<(b2.nG H).length:=by omega);have ah:=Vi O;rw[D]at ah;obtain⟨t,bS,s,rfl,bD,cq,ce,_⟩:=(zV C).1 ah;have bY:=nT C.ok bS;(have bR:(b5 Y.A.l t 2).2=0:=by rw[aw.iP.ci.l];exact bD);have be:=p3 P bY.1 bR;(have bf:bi t<256:=by grind[bi]);have cu:Y.A.aL (bi t) s=X.A.aL (bi t) s:=aw.e _ _ λcz W ⟨aQ,aW⟩=>(by obtain⟨j,bl,a0⟩:=XQ W;rw[Ww]at bl;rw[List.getElem_take]at a0;have an:=List.mem_of_mem_take W;rw[D]at an;obtain⟨t',bW,cA,rfl,bE,_⟩:=(zV C).1 an;dsimp only at aQ aW;have cc:=p3 a8 (nT C.ok bW).1 bE;grind[p3,List.getElem_inj]);(have a2:Y.A.aL (bi t) s≠0:=by omega);obtain⟨u,ar,V,av,b0,cy⟩:=aw.iP.di.find a2 (λh=>h);have b1:=av;rw[be]at V b1;apply ab.open 1 rfl;rintro⟨aI,bz⟩-;apply J [82];dsimp only;apply J [245];refine q rfl rfl (gN 78 2 rfl rfl rfl U dQ) ?_;refine q rfl rfl (gp (vs:=[_,_]) 2 rfl rfl (kz b2.HH O 0 2 U U (show _=[aa t,aa (s:Int)]from rfl)) rfl am) ?_;refine J [0,235] ?_;intro bC;apply J [103,2];refine ab.draw _ [12,13] [0,1,2,3,4,5,6,7,8,9,-10,-11,-12,-13,14] a1 a1 (show aE (ag _) (ag [aj aC 148 [ae aI,ae bz],aj bC 78 [aa t,aa s]])from ai) ?_;apply J [11,77,137,102,287];apply au (b2.wy bz Y.L Y.last t (s:Int));refine J [237,9] ?_;rw[V];refine J [15,152] ?_;intro ch;refine⟨ai,?_⟩;refine b8.bk (B:=ag [cU aC af top Y,aX 3 1 (cJ ch) 1 1 (ints [u.id]),aX 78 2 w.1 H.length w.2 (b2.nG H),F]) (ay (bV.mk aI bz:bV) trivial ai) ?_;refine dl rfl rfl rfl rfl ?_;apply eM (yj aC af top Y aw.iP.di 15 am [u.id] (λx b6=>⟨u,ar,(Vf.1 b6).symm⟩) cG (Vr rfl) 1 rfl (cJ ch) 1) ⟨cw.aV,_,bj.rd (ad:=some ⟨ch,0,none⟩)⟩;intro⟨db,Z⟩ Q;change b8 _ _ _ _ _ _ _ _ _ _ (ag [_,_,_,_]);have a9:=Q.db;rw[Vn]at a9;dsimp only;refine dl rfl rfl rfl rfl (cn.q rfl (hJ rfl rfl U U) ?_);refine J [365,231,344] ?_;exact⟨rfl,(k+1,n+db,Z),⟨by dsimp only;omega,aw.next N O rfl ar av b0 bf Q⟩,cB,bG,ai⟩
 refine Wv 1 rfl hn (λE=>?_);obtain⟨N,aB,P⟩:=E;obtain rfl:k=H.length:=by omega
 rw[D]at aw;have bc:=aw.done C N;apply J [19,133];exact bu (n,Y) ⟨aw.iP,bc⟩ ai
def jB(l:List aq.bW)(K:List Int):List aq.bW:=K.foldl (λl x=>(aq.hQ l x).1) l
theorem L5(l:List aq.bW)(K:List Int)(x:Int):jB l (K++[x])=(aq.hQ (jB l K) x).1:=by rw[jB,List.foldl_append];rfl
theorem pJ{l:List aq.bW}{h st:Int}{y:Nat×aq.bW}(e:aq.dV l h st=some y):l[y.1]? =some y.2/\h=y.2.c3*256+y.1:=by grind[aq.dV]
theorem wo{l:List aq.bW}{h:Int}{p:aq.bW}(e:aq.dV l h 1=some (k,p)):(aq.hQ l h).1=l.set k ⟨p.o,2,p.c3⟩:=by rw[aq.hQ,e]
theorem w1{l:List aq.bW}(e:aq.dV l x 1=none):(aq.hQ l x).1=l:=by rw[aq.hQ,e]
theorem uf{l:List aq.bW}:(aq.cW l x).2=0↔∃y,aq.dV l x 1=some y:=by grind[aq.cW]
theorem wZ{l:List aq.bW}(Q:aq.dO l){z:Int}(H:0<=z):((aq.cW (aq.hQ l x).1 z).2=0↔(aq.cW l z).2=0/\z≠x)/\(z≠x->(aq.cW l z).2=0->aq.cW (aq.hQ l x).1 z=aq.cW l z):=by cases e:aq.dV l x 1 with|none=>rw[w1 e];exact⟨⟨λh=>⟨h,λw=>by rw[w,uf,e]at h;obtain⟨y,h⟩:=h;cases h⟩,λh=>h.1⟩,λ_ _=>rfl⟩|some y=>obtain⟨k,p⟩:=y;rw[wo e];by_cases d:(z %256).toNat=k;have C:aq.dV (l.set k ⟨p.o,2,p.c3⟩) z 1=none:=(by rw[aq.dV,d,V1 (Vo.1 (pJ e).1).1];dsimp only;rw[al λh=>absurd h.2 am]);(have N:¬(aq.cW (l.set k ⟨p.o,2,p.c3⟩) z).2=0:=by rw[uf,C];rintro⟨_,h⟩;cases h);have E:(aq.cW l z).2=0->z=x:=λh=>(by have V:(aq.cW l x).2=0:=uf.2 ⟨_,e⟩;obtain⟨i,q,_,a2,_,_,a5,u,_⟩:=n4 H h;obtain⟨bS,P⟩:=pJ e;rw[a5,P];have:i=k:=u.symm.trans d;subst this;rw[a2]at bS;cases bS;rfl);exact⟨⟨λh=>absurd h N,λh=>absurd (E h.1) h.2⟩,λh O=>absurd (E O) h⟩;(have C:aq.cW (l.set k ⟨p.o,2,p.c3⟩) z=aq.cW l z:=by rw[aq.cW,pK d,<-aq.cW]);rw[C];refine⟨⟨λh=>⟨h,λw=>?_⟩,λh=>h.1⟩,λ_ _=>rfl⟩;obtain⟨i,q,D,_,_,_,_,u,_⟩:=n4 H h;rw[w,e]at D;cases D;exact d u
theorem NU(l:List aq.bW)(x:Int)(i:Nat):an (aq.hQ l x).1 i=an l i:=by cases e:aq.dV l x 1 with|none=>rw[w1 e]|some y=>obtain⟨k,p⟩:=y;rw[wo e];by_cases h:k=i;subst h;rw[an,an,List.getElem?_set_self'];obtain⟨bS,_⟩:=pJ e;rw[bS];rfl;rw[an,an,Wo h]
structure iV(X:cC)(K:List Int)(Y:cC):Prop where
  di:c9 Y en
  l:Y.A.l=jB X.A.l K
  np:Y.A.np=X.A.np
  own:Y.A.own=X.A.own
  aL:∀i s,Y.A.aL i s=0\/Y.A.aL i s=X.A.aL i s
  t:Y.A.now=X.A.now/\Y.A.pd=X.A.pd
  q:Y.A.q=X.A.q++K.map λx=>(x,X.A.now+X.A.pd)
  aZ:∀i,(∀x∈K,(x %256).toNat≠i)->Y.A.aZ i=X.A.aZ i
theorem iV.nil(h:c9 X en):iV X [] X:=⟨h,rfl,rfl,rfl,λ_ _=>.inr rfl,⟨rfl,rfl⟩,(by rw[List.map_nil,Wa]),λ_ _=>rfl⟩
theorem iV.less{K:List Int}(h:iV X K Y)(k:j6 Y Z):iV X K Z:=⟨k.di,k.ci.l.trans h.l,k.ci.Qo.trans h.np,k.ci.o.trans h.own,λi s=>by
 rcases k.aL i s with e|e
 ·exact .inl e
 rw[e];exact h.aL i s,⟨k.ci.q.2.1.trans h.t.1,k.ci.q.2.2.trans h.t.2⟩,k.ci.q.1.trans h.q,λi d=>by rw[k.ci.z];exact h.aZ i d⟩
theorem iV.tX{K:List Int}{a8:bR}(h:iV X K Y)(D:cc Y.A)(E:cc a8)(H:Cv Y.A x a8):iV X (K++[x]) ⟨a8,Y.L,Y.last⟩:=by
 obtain⟨k,o,g,aZ,P,u,Q,w,rfl⟩:=H.ex;have V:aq.dV Y.A.l x 1=some (k,⟨o,1,g⟩):=by grind[aq.dV]
 have N:Y.A.l.set k ⟨o,2,g⟩=(aq.hQ Y.A.l x).1:=by grind[aq.hQ]
 refine⟨h.di.obj D rfl (λi s _=>?_) E (Vm _),?_,h.np,h.own,h.aL,h.t,?_,λi d=>?_⟩;grind[NU];dsimp only;rw[L5,<-h.l,N];dsimp only;rw[h.q,h.t.1,h.t.2,Wu,VJ];rfl;dsimp only;rw[w i λC=>d x cG (by rw[u,C];omega)];exact h.aZ i λy O=>d y (Vg.2 (.inl O))
theorem wn{l:List aq.bW}(d:aq.dO l):∀(K:List Int),aq.dO (jB l K)/\∀z:Int,0<=z->((aq.cW (jB l K) z).2=0↔(aq.cW l z).2=0/\z∉K)/\(z∉K->(aq.cW l z).2=0->aq.cW (jB l K) z=aq.cW l z):=by intro K;induction K generalizing l with|nil=>exact⟨d,λz _=>⟨⟨λh=>⟨h,List.not_mem_nil⟩,λh=>h.1⟩,λ_ _=>rfl⟩⟩|cons x K P=>have O:aq.dO (aq.hQ l x).1:=(by cases e:aq.dV l x 1 with|none=>rw[w1 e];exact d|some y=>obtain⟨k,p⟩:=y;rw[wo e];obtain⟨bS,_⟩:=pJ e;exact d.set k (d.c3 p (Vi bS)));obtain⟨H,N⟩:=P O;refine⟨H,λz D=>?_⟩;obtain⟨E,a2⟩:=N z D;obtain⟨ba,bC⟩:=wZ d (x:=x) D;have e:jB l (x::K)=jB (aq.hQ l x).1 K:=rfl;rw[e];refine⟨?_,λu w=>?_⟩;rw[E,ba,Vt,not_or,and_assoc];rw[Vt,not_or]at u;have C:=bC u.1 w;rw[a2 u.2 (by rw[C];exact w),C]
def h9(A:bR)(h:Int):Int:=if(aq.cW A.l h).2≠0 then(aq.cW A.l h).2 else if h=0 then 1 else 0
def sL(A:bR)(h:Int):List Int:=if h9 A h≠0 then[]else ft A h++[h]
def CB(X:cC)(h:Int)(Y:cC):Prop:=(h9 X.A h≠0/\Y=X)\/(h9 X.A h=0/\iV X (ft X.A h++[h]) Y)
variable{S:cT}
theorem PN{top:Nat}{K R:List Int}{h:Int}(d:cc X.A)(aO:ck top X.A S)(N:iV X K Y)(e:ft X.A h++[h]=K++x::R):eT Y.A x=[]:=by have P:=d.wW aO;rw[List.eq_nil_iff_forall_not_mem];intro z ar;obtain⟨W,C,u,Z⟩:=oa.1 ar;obtain⟨Q,O⟩:=wn d.ok K;rw[N.l]at W C u;obtain⟨D,ah⟩:=(oB Q).1 C;obtain⟨d1,d2⟩:=O z D;obtain⟨E,H⟩:=d1.1 ah;rw[d2 H E,N.own]at u;have an:0<=x:=WN λbL=>(by have:=cc.neg ⟨d.ok,d.d8,d.rt,d.ac,d.cY,d.nl,d.aL,d.hA,d.kI,d.mA,d.mB,d.m5,d.pd,d.bd⟩ x U 1;have w:(aq.cW (jB X.A.l K) x).2=0:=(by grind[b5]);obtain⟨y,V⟩:=uf.1 w;have:=(pJ V).2;have:=Q.c3 y.2 (Vi (pJ V).1);omega);have w:(aq.cW (jB X.A.l K) x).2=0:=(by grind[b5]);obtain⟨f1,f2⟩:=O x an;obtain⟨g1,g2⟩:=f1.1 w;have bL:(b5 X.A.l x 1).2=0:=(by grind[b5]);have hm:z∈eT X.A x:=oa.2 ⟨bL,(oB d.ok).2 ⟨D,E⟩,u,Z⟩;exact H (Bo P _ h (Vm _) K R x z (by rw[oS P];exact e) hm)
theorem Iw{top:Nat}{A:bR}{h:Int}(d:cc A)(aO:ck top A S)(H:0<=h)(E:(aq.cW A.l h).2=0)(N:h≠0):(ft A h++[h]).Nodup/\(ft A h++[h]).length<=257/\∀x∈ft A h++[h],(0<=x/\x<=4294967295)/\(aq.cW A.l x).2=0/\x≠0:=by have u:=d.wW aO;have e:hc (eT A) (jr A) h=ft A h++[h]:=oS u h;rw[<-e];refine⟨Bn u _ h (Vm _),Bm d u h,λx D=>?_⟩;have C:x∈aq.dd A.l 1:=(by rcases x5 d u _ h x (Vm _) D with w|w;rw[w];exact(oB d.ok).2 ⟨H,E⟩;trivial);refine⟨nT d.ok C,((oB d.ok).1 C).2,?_⟩;rcases rS u _ h x (Vm _) D with w|⟨y,O,_⟩;all_goals grind[oa]
theorem Ug(af top:Nat)(X:cC)(h:Int)(Z:0<=h/\h<=4294967295)(bE:c9 X en):bK 307 [ae aC,aT h] c5 [cU aC af top X] (λy:(Option Addr×Nat)×cC=>.tuple #[.slice y.1.1 (sL X.A h).length y.1.2,aa (h9 X.A h)]) (λy=>CB X h y.2) (λy=>[aX 33 1 y.1.1 (sL X.A h).length y.1.2 (cf .u32 (sL X.A h)),cU aC af top y.2]):=by
 apply aH Tryz.func307 Tryz.ntmps307;intro F bD;apply J [1];haveI:cw F:=⟨bD⟩;refine Wv 0 rfl hn (λE=>?_);obtain⟨ah,dt,bR⟩:=E;apply ab.open 0 rfl;rintro⟨aI,bz⟩-;apply J [87];dsimp only;apply J [24,83,31,42,40,28];apply au (jX aI af top X.A h Z 0);apply J [17];rw[iR];refine J [255] ?_;intro ba;apply J [116,259];by_cases u:(aq.cW X.A.l h).2=0;refine Vh rfl (λa0=>absurd a0 (λh=>h u)) (λa0=>?_);apply J [25,174];by_cases C:h=0;have hv:h9 X.A h≠0:=by rw[h9,al (λbL=>bL u),ax C];decide
 rw[show sL X.A h=[]from ax hv,show h9 X.A h=1 from by rw[h9,al (λbL=>bL u),ax C]];refine Vh rfl (λa3=>?_) (λa3=>absurd (C) a3);apply J [24,176,84];exact I4;have hv:h9 X.A h=0:=by rw[h9,al (λbL=>bL u),al C]
 rw[show sL X.A h=ft X.A h++[h]from al (λbL=>bL hv),hv];obtain⟨bS,bW,aQ⟩:=Iw ah bR Z.1 u C;obtain⟨L,P⟩:∃L,L=ft X.A h++[h]:=⟨_,rfl⟩;rw[<-P]at bS bW aQ;have hlen:L.length=(ft X.A h).length+1:=b4
 rw[<-P,hlen];refine Vh rfl (λa4=>absurd a4 (C)) (λa4=>?_);apply J [22,40,28];apply bb (DI aI af top X.A h Z);intro cA _;refine J [14,68] ?_;intro bC;refine J [0,615] ?_;intro N O;apply J [190,33,224,112];refine VQ (ι:=Nat×cC) (λd=>∃bf,L=L.take d.1++bf/\d.1<=L.length/\iV X (L.take d.1) d.2) (λd=>[(0,ae aC),(8,.slice N ((ft X.A h).length+1) O),(38,.slice N ((ft X.A h).length+1) O),(39,aa ((((ft X.A h).length+1:Nat)):Int)),(40,aa ((d.1:Nat):Int))]) (λd=>ag [aX 33 1 N ((ft X.A h).length+1) O (cf .u32 L),cU aC af top d.2,F]) (λd=>L.length-d.1) (0,X) ⟨L,rfl,Vl _,iV.nil bE⟩ bG (b9 0 rfl (by rw[oP,P]) (ay (bV.mk aI bz:bV) trivial ai)) ?_;rintro⟨k,Y⟩ ⟨_,_,b1,D⟩ cF;dsimp only[cx]at b1 D⊢;apply J [43];apply Vh rfl<;>intro cp;have b2:k<L.length:=U
 obtain⟨x,a9⟩:∃x,L[k]? =some x:=⟨L[k],Ve b2⟩;obtain⟨H,cj,cg⟩:=aQ x (Vi a9);have ce:L.take (k+1)=L.take k++[x]:=by grind[Vv]
 have cv:L=L.take k++x::L.drop (k+1):=(by grind[List.drop_eq_getElem_cons]);have qG:x∉L.take k:=λbL=>cr;have cu:0<(cf .u32 L).length:=by grind[hT]
 have co:k<(cf .u32 L).length:=by grind[hT]
 refine J [245,311] ?_;refine q rfl rfl (dk rfl rfl (j0 a9)) ?_;apply J [27,32];apply bb (Ux aC af top Y x H D.di);intro⟨cy,bi⟩ ⟨W,bc⟩;apply J [7];have ar:=D.less W;dsimp only at W bc⊢;apply J [2,32];apply bb (Us aC af top bi x H ar.di);intro⟨cz,w⟩ ⟨Q,bd⟩;apply J [7];have av:=ar.less Q;dsimp only at Q bd⊢;refine aY.dh 0 rfl hn (λE=>?_);obtain⟨V,ck,cn⟩:=E;have b6:eT w.A x=[]:=by grind[PN]
 obtain⟨cq,bY⟩:=wn ah.ok (L.take k);have a8:(aq.cW w.A.l x).2=0:=by rw[av.l];exact(bY x H.1).1.2 ⟨cj,qG⟩
 have b0:∀s,w.A.aL (x %256).toNat s=0:=λs=>(by by_cases cc:(b5 Y.A.l x 2).2=0;exact Q.zero (bc s cc);refine WN λbL=>?_;obtain⟨_,⟨a,f,bl⟩,_⟩:=V.aL _ _ bL;obtain⟨_,bj,_⟩:=B2 V bl;have:an w.A.l (x %256).toNat=x:=(by obtain⟨i,p,_,a2,_,_,a5,cl,_⟩:=n4 H.1 a8;grind[rB]);rw[this,Q.ci.l,W.ci.l]at bj;trivial);apply aY.open 0 rfl;rintro⟨aI,bz⟩-;apply J [10];dsimp only;apply J [2,39,53,28];apply bb (K2 aI af top w.A x H a8 cg b6 bd b0);intro be bp;apply J [10];refine aY.lR 0 rfl (λE=>?_);obtain⟨_,_,bt⟩:=E;have aB:=av.tX V bt bp;rw[<-ce]at aB;refine J [62] ?_;exact⟨rfl,(k+1,⟨be,w.L,w.last⟩),⟨L.drop (k+1),(List.take_append_drop _ _).symm,by dsimp only;omega,aB⟩,cB,bG,(cO (ay (bV.mk aI bz:bV) trivial ai))⟩;obtain rfl:k=L.length:=U
 rw[V0,P]at D;apply J [209,83,30];exact cQ ((N,O),Y) (.inr ⟨hv,D⟩) ai;have hv:h9 X.A h≠0:=by rw[h9,ax u];exact u
 rw[show sL X.A h=[]from ax hv,show h9 X.A h=(aq.cW X.A.l h).2 from ax u];refine Vh rfl (λaW=>?_) (λaW=>absurd (u) aW);apply J [25,176,84];exact I4
theorem Q4{top:Nat}(h:dg top S):(dp S.C S.Fr).length<=128:=by have d:=vc h.bA (m:=VF (2^top)) λx u=>Xs.2 (h.lt x u);rw[List.length_range]at d;have w:2^top<=128:=Vk (n:=2) am h.fX.2;omega
theorem ck.A2{top:Nat}(h:ck top A S)(an:128<=n):ck top {A with np:=n} S:=h.mZ (wG h.P rfl rfl rfl) rfl rfl rfl rfl h.Q (λ_ _ _ _ _ _ _=>⟨λh=>h,λh=>h.elim⟩) (λ_=>⟨λh=>h,λh=>h⟩) rfl (Nat.le_trans (Q4 h.P) an)
theorem cc.A2(h:cc A)(d:A.bE<=n/\A.now<=n)(u:n<=1000000):cc {A with np:=n}:=⟨h.ok,h.d8,h.rt,h.ac,h.cY,h.nl,h.aL,h.hA,h.kI,h.mA,h.mB,h.m5,h.pd,by have:=h.bd;dsimp only;omega⟩
theorem OR{aI af top:Nat}(an:128<=n)(d:A.bE<=n/\A.now<=n)(u:n<=1000000):aE (fP aI af top A) (fP aI af top {A with np:=n}):=λh ⟨y,⟨r,a⟩,w⟩=>⟨h,zY h,y,⟨r.A2 an,a.A2 d u⟩,w⟩
theorem OS{aC af top:Nat}(an:128<=n)(u:X.A.bE<=n/\X.A.now<=n)(w:n<=1000000):aE (cU aC af top X) (cU aC af top ⟨{X.A with np:=n},X.L,X.last⟩):=by intro h ⟨y,H,C⟩;obtain⟨d,E,D⟩:=dR (aE.refl _) (dR (OR (n:=n) an u w) (aE.refl _)) h C;exact⟨d,E,y,H,D⟩
theorem Ul(aI af top:Nat)(A:bR)(d:aI=eL.aI):bK 86 [ae aI] be [fP aI af top A] (λaC:Nat=>ae aC) (λ_=>True) (λaC=>[cU aC af top ⟨A,[],0⟩]):=by apply aH Tryz.func86 Tryz.ntmps86;intro F _;apply J [1,131,42,105];apply bb b2.Nh;intro bz _;apply J [7];refine q rfl rfl (ek (cs:=[.pointer _,.pointer _]) rfl) ?_;refine e rfl ?_;refine e0 (v:=.agg #[_,_]) (l:=[.pointer _,.pointer _]) rfl rfl ?_;intro ba;apply J [110];exact bu ba trivial (ay (bV.mk aI bz:bV) trivial ai)
theorem IY(af top:Nat)(X:cC)(h:Int)(d:0<=h/\h<=4294967295)(w:(b5 X.A.l h 2).2=0)(s:Nat)(hs:s<128)(C:X.A.aL (bi h) s=0)(c:Nat)(O:c<4294967295)(aB:(aq.cW X.A.l (c:Int)).2=0)(P:(aq.cW X.A.l (c:Int)).1.k≠8)(D:c9 X en)(aA:X.A.np+2<=1000000):bK 89 [ae aC,aT h,aa s,.agg #[aT c,aa 15]] c5 [cU aC af top X] (λy:Int×cC=>aa y.1) (λy=>(y.1=0/\c9 y.2 en/\∃Q,rJ X.A (bX X.A h) Q/\y.2.A=X.A.lay (bi h) s (dM c 15) Q)\/(y.1≠0/\c9 y.2 en/\re top X.A (bX X.A h))) (λy=>[cU aC af top y.2]):=by
 apply aH Tryz.func89 Tryz.ntmps89;intro F bf;apply J [1];haveI:cw F:=⟨bf⟩;have V:s<256:=U
 obtain⟨ic,aW⟩:∃ic,aq.cW X.A.l (c:Int)=(ic,0):=⟨_,Prod.ext rfl aB⟩;rw[aW]at P;dsimp only at P;refine Wv 0 rfl hn (λN=>?_);obtain⟨u,dt,a5⟩:=N;refine J [338] ?_;intro bC;apply J [27,32];apply bb (oY aC af top X h d w);intro aS _;refine J [17,241] ?_;intro ch;refine J [116,242,115,458] ?_;rintro⟨aI,bz⟩-;apply J [223];dsimp only;apply J [44];refine ab.qu _ [] 13 rfl a1 a1 (show aE (ag _) (ag [aj aC 148 [ae aI,ae bz],aj bC 39 [aT c,aa 15]])from ai) ?_;refine J [394,415,416,443] ?_;refine dy (i:=4) rfl rfl rfl a1 (cY 0 rfl rfl) ?_;refine dy (i:=5) rfl rfl rfl a1 (fF rfl rfl rfl) ?_;refine k9 (i:=6) (j:=10) rfl rfl rfl rfl a1 ?_ ?_;apply au (jX aI af top X.A (c:Int) U 0);refine J [547,9] ?_;rw[iR,aW];refine J [616,149,342,15,222] ?_;intro a3;refine J [9,283,70,124,3] ?_;refine aY.bk (B:=ag [aj aS 163 [ae af,aa (bX X.A h),aa (c7 X.A h:Int)],cU aC af top X,aj ch 150 [ae aS,aT h,aa (bX X.A h)],aj bC 39 [aT c,aa 15],aj a3 60 (ints ic.l),F]) (eG (ay (bV.mk aI bz:bV) trivial ai)) ?_;refine e rfl ?_;apply au (oq aC af top X aS h d w (s:Int));apply J [14];rw[show gn X.A (bi h) (s:Int)=0 from(k8 V).trans C];refine J [256] ?_;intro bt;apply J [103,104,75,142];apply au (sb (s:Int));apply J [16];rw[da (show 0<=(s:Int)/\(s:Int)<256 by omega)];apply J [266,352,72,6];refine cD [0,1,-2,3,4,5,7,8,9,-6,10,11,12] (show aE (ag _) (ag [aj bC 39 [aT c,aa 15],aj a3 60 (ints ic.l)])from ai) ?_;apply J [287];apply au (yi 15);refine J [238,9] ?_;rw[da (show(0:Int)<15/\(15:Int)<=15 by decide)];apply J [372,144,226,370,163,486,236];apply au (sa (s:Int));refine J [238,9] ?_;rw[da (show(s:Int)<128 by omega)];refine eH rfl rfl rfl rfl (zx rfl rfl rfl) ?_;apply J [217,269];refine Vh rfl (λa8=>absurd a8 ((λe=>P (dz e.symm)))) (λa8=>?_);apply J [59,191,206,252,3,220,0];apply bb (yh aC af top X aS h d w s V C c 15 O am aB U);intro⟨ct,bc⟩ H;apply J [16];dsimp only;apply J [126];apply Vh rfl<;>intro he;obtain⟨bL,Z⟩:=w7 H he;dsimp only at bL;subst bL;have ar:c9 ⟨{X.A with np:=X.A.np+2},X.L,X.last⟩ en:=D.obj u rfl (λ_ _ _=>rfl) (u.vk (Vx _ _) U) (Vx _ _);apply J [125];exact bu (ct,⟨{X.A with np:=X.A.np+2},X.L,X.last⟩) (.inr ⟨he,ar,Z⟩) ai;obtain rfl:ct=0:=Vj he;obtain⟨Q,bL,av⟩:=w6 H rfl;dsimp only at bL;subst bL;have a0:=jL (r:=15) O am;have ah:c9 ⟨X.A.lay (bi h) s (dM c 15) Q,X.L,X.last⟩ (tV (bi h) s):=D.lay u (by have:=d;rw[bi];omega) C a0.2 (Vx _ _) (λj r=>⟨λh=>.inr h,λh=>h.elim (λh=>h.elim) id⟩);have bp:=D.de;have bl:=u.bd;refine Wv 1 rfl hn (λN=>?_);obtain⟨W,be,bj⟩:=N;obtain⟨a2,E⟩:=ah.add (i:=bi h) (s:=s) (par:=0) W ⟨rfl,rfl⟩ (.inl rfl) (D':=en) (λj r=>⟨λh=>h.elim,λh=>h.2 h.1⟩) (by show X.last+1<=((X.A.lay (bi h) s (dM c 15) Q).np:Int);dsimp only[bR.lay];omega);have aQ:an (X.A.lay (bi h) s (dM c 15) Q).l (bi h)=h:=p3 a5 d.1 w;rw[aQ]at a2 E;apply ab.open 1 rfl;rintro⟨aI,bz⟩-;apply J [79];dsimp only;refine J [4,64,247,28] ?_;apply au (b2.ww bz X.L X.last 0 h (s:Int) U);apply J [21,119];exact bu (0,⟨X.A.lay (bi h) s (dM c 15) Q,(b2.gT X.L X.last 0 (h,(s:Int))).1,(b2.gT X.L X.last 0 (h,(s:Int))).2.1⟩) (.inl ⟨rfl,E,Q,av,rfl⟩) (ay (bV.mk aI bz:bV) trivial ai);refine J [222] ?_;intro a4;refine J [9,617,15] ?_;apply au (jX aI af top X.A (c:Int) U 0);refine J [293,9] ?_;rw[iR,aW];refine J [149,342,283,70,124,3] ?_;refine aY.bk (B:=ag [aj aS 163 [ae af,aa (bX X.A h),aa (c7 X.A h:Int)],cU aC af top X,aj ch 150 [ae aS,aT h,aa (bX X.A h)],aj bC 39 [aT c,aa 15],aj a4 60 (ints ic.l),F]) (eG (ay (bV.mk aI bz:bV) trivial ai)) ?_;refine e rfl ?_;apply au (oq aC af top X aS h d w (s:Int));apply J [14];rw[show gn X.A (bi h) (s:Int)=0 from(k8 V).trans C];refine J [256] ?_;intro bD;apply J [103,104,75,142];apply au (sb (s:Int));apply J [16];rw[da (show 0<=(s:Int)/\(s:Int)<256 by omega)];apply J [266,352,72,6];refine cD [0,1,-2,3,4,5,7,8,9,-6,10,11,12] (show aE (ag _) (ag [aj bC 39 [aT c,aa 15],aj a4 60 (ints ic.l)])from ai) ?_;apply J [287];apply au (yi 15);refine J [238,9] ?_;rw[da (show(0:Int)<15/\(15:Int)<=15 by decide)];apply J [372,144,226,370,163,486,236];apply au (sa (s:Int));refine J [238,9] ?_;rw[da (show(s:Int)<128 by omega)];refine eH rfl rfl rfl rfl (zx rfl rfl rfl) ?_;apply J [217,269];refine Vh rfl (λa9=>absurd a9 ((λe=>P (dz e.symm)))) (λa9=>?_);apply J [59,191,206,252,3,220,0];apply bb (yh aC af top X aS h d w s V C c 15 O am aB U);intro⟨ct,bc⟩ H;apply J [16];dsimp only;apply J [126];apply Vh rfl<;>intro he;obtain⟨bL,Z⟩:=w7 H he;dsimp only at bL;subst bL;have ar:c9 ⟨{X.A with np:=X.A.np+2},X.L,X.last⟩ en:=D.obj u rfl (λ_ _ _=>rfl) (u.vk (Vx _ _) U) (Vx _ _);apply J [125];exact bu (ct,⟨{X.A with np:=X.A.np+2},X.L,X.last⟩) (.inr ⟨he,ar,Z⟩) ai;obtain rfl:ct=0:=Vj he;obtain⟨Q,bL,av⟩:=w6 H rfl;dsimp only at bL;subst bL;have a0:=jL (r:=15) O am;have ah:c9 ⟨X.A.lay (bi h) s (dM c 15) Q,X.L,X.last⟩ (tV (bi h) s):=D.lay u (by have:=d;rw[bi];omega) C a0.2 (Vx _ _) (λj r=>⟨λh=>.inr h,λh=>h.elim (λh=>h.elim) id⟩);have bp:=D.de;have bl:=u.bd;refine Wv 1 rfl hn (λN=>?_);obtain⟨W,be,bj⟩:=N;obtain⟨a2,E⟩:=ah.add (i:=bi h) (s:=s) (par:=0) W ⟨rfl,rfl⟩ (.inl rfl) (D':=en) (λj r=>⟨λh=>h.elim,λh=>h.2 h.1⟩) (by show X.last+1<=((X.A.lay (bi h) s (dM c 15) Q).np:Int);dsimp only[bR.lay];omega);have aQ:an (X.A.lay (bi h) s (dM c 15) Q).l (bi h)=h:=p3 a5 d.1 w;rw[aQ]at a2 E;apply ab.open 1 rfl;rintro⟨aI,bz⟩-;apply J [79];dsimp only;refine J [4,64,247,28] ?_;apply au (b2.ww bz X.L X.last 0 h (s:Int) U);apply J [21,119];exact bu (0,⟨X.A.lay (bi h) s (dM c 15) Q,(b2.gT X.L X.last 0 (h,(s:Int))).1,(b2.gT X.L X.last 0 (h,(s:Int))).2.1⟩) (.inl ⟨rfl,E,Q,av,rfl⟩) (ay (bV.mk aI bz:bV) trivial ai)
structure e8 where
  f:Nat
  t:Nat
  r:Nat
  g:Bool
def pL(m:e8):List Value:=[.int .i64 m.f,.int .i64 m.t,.int .i64 m.r,.bool m.g]
theorem uE(m:e8):(pL m).length=4:=rfl
def gr(l:List e8):List Value:=l.flatMap pL
variable(l:List e8)
theorem qN:(gr l).length=l.length*4:=kc uE l
theorem FZ(k:List e8):gr l++gr k=gr (l++k):=by simp[gr]
theorem Qf:(gr l).take (l.length*4)=gr l:=List.take_of_length_le (by rw[qN];omega)
theorem F0:∀(l:List e8),(gr l).all Value.oneCell'=true
 | []=>rfl
 | m::l=>by rw[gr,VD,List.all_append,<-gr,F0 l];rfl
def vD(m:e8):Prop:=m.f<256/\m.t<256/\1<=m.r/\m.r<=15
def lW(m a:e8):Bool:=decide ((a.t:Int)=(m.t:Int))||(decide ((a.f:Int)=(m.f:Int))&&(a.g||m.g))
def zL(X:cC)(h k:Int)(l:List e8)(m:e8):Prop:=X.A.aL (bi h) m.f≠0/\k6 (X.A.aL (bi h) m.f)&&&m.r≠0/\X.A.aL (bi k) m.t=0/\∀a∈l,lW m a=false
theorem MA{l:List e8}{pr:e8->Bool}{t:e8}(d:l[k]? =some t)(u:pr t=true)(eF:∀j t,j<k->l[j]? =some t->pr t=false):l.findIdx? pr=some k:=by grind[List.findIdx?_eq_some_iff_getElem]
theorem MB{l:List e8}{pr:e8->Bool}(eF:∀j t,j<l.length->l[j]? =some t->pr t=false):l.findIdx? pr=none:=by rw[List.findIdx?_eq_none_iff];intro x d;obtain⟨j,u,rfl⟩:=XQ d;simp_all
theorem Qh(ad:Option Addr)(cap:Nat)(l:List e8)(db:Nat)(N:db=l.length)(gv:FuncId)(lb:List Value)(pr:e8->Bool)(D:av->Prop)(Q:l.length<=100000000)(E:∀t,bt gv ([.agg (pL t).toArray]++lb) D [] (.bool (pr t)) []):eQ VS 381 [.slice ad db cap,.func (.func gv) #[] lb.toArray] (λF=>cN F 427 ad (gr l)/\D (ag [F])) [] (λ_:Unit=>aa (match l.findIdx? pr with|some i=>(i:Int)|none=>-1)) (λ_=>True) (λ_=>[]):=by
 apply aH Tryz.func381 Tryz.ntmps381;intro F d;apply J [8];subst N;haveI:bj F ad 427 (gr l):=⟨d.1⟩;refine J [36,33,417,112,532] ?_;rintro k ⟨hinv,eF⟩ V;dsimp only[cx]at hinv eF⊢;apply J [43];apply Vh rfl<;>intro C;have C:k<l.length:=U
 obtain⟨t,w⟩:∃t,l[k]? =some t:=⟨l[k],Ve C⟩;have P:0<(gr l).length:=by grind[qN]
 refine J [56,135,24,302,86,3,418] ?_;refine q rfl rfl (gp (vs:=[_,_,_,_]) 4 rfl rfl (kz uE w 0 4 U U (show _=[aa (t.f:Int),aa t.t,aa t.r,.bool t.g]from rfl)) rfl am) ?_;refine e rfl ?_;refine kw (E t) rfl rfl (eC _) d.2 ?_;intro _ _;apply J [148,2];cases O:pr t with|true=>?_|false=>?_
 apply J [210,165];have aA:l.findIdx? pr=some k:=by grind[MA]
 exact vr;refine J [72,114] ?_;exact⟨rfl,(k+1),⟨by omega,λj u H hu=>by rcases XF.1 H with h|h;exact eF j u h hu;subst h;rw[w]at hu;cases hu;exact O⟩,U,bG,(ao (a6 _))⟩;obtain rfl:k=l.length:=by omega
 have aA:l.findIdx? pr=none:=MB eF;apply J [19,199];exact vt
theorem Qg(ad:Option Addr)(cap:Nat)(l:List e8)(db:Nat)(D:db=l.length)(gv:FuncId)(lb:List Value)(pr:e8->Bool)(d:av->Prop)(C:l.length<=100000000)(w:∀t,bt gv ([.agg (pL t).toArray]++lb) d [] (.bool (pr t)) []):eQ VS 358 [.slice ad db cap,.func (.func gv) #[] lb.toArray] (λF=>cN F 427 ad (gr l)/\d (ag [ag [F]])) [] (λ_:Unit=>.bool (l.any pr)) (λ_=>True) (λ_=>[]):=by apply aH Tryz.func358 Tryz.ntmps358;intro F u;apply J [8];haveI:bj F ad 427 (gr l):=⟨u.1⟩;apply J [128,33,302,0];apply ew (Qh ad cap l db D gv lb pr d C w) ⟨bj.rd (ad:=ad),u.2⟩;apply J [148];have E:decide ((match l.findIdx? pr with|some i=>(i:Int)|none=>-1)>=0)=l.any pr:=cr;apply J [410,66];exact b7.i () [_] ⟨rfl,trivial⟩ (congrArg Wz E) trivial (ao (a6 _))
theorem MG(c:Nat)(m a:e8):bt 359 [.agg (pL a).toArray,ae c] (λF=>Rd F c (.cells (pL m).toArray 427 (0,0))) [] (.bool (lW m a)) []:=by apply aH Tryz.func359 Tryz.ntmps359;intro F C;apply J [8];haveI:fL F c (.cells (pL m).toArray 427 (0,0)):=⟨C⟩;obtain⟨f1,t1,ei,g1⟩:=a;obtain⟨f2,t2,w,g2⟩:=m;refine J [26,618] ?_;intro ba;apply J [38,265,61,193];by_cases d:(t1:Int)=(t2:Int);refine VM 9 rfl (c:=true) (da d) ?_;apply J [47,49,162,162,162,162,162,162,363,132];exact b7.i () [_] ⟨rfl,trivial⟩ (congrArg Wz (show true=lW ⟨f2,t2,w,g2⟩ ⟨f1,t1,ei,g1⟩from by rw[lW];dsimp only;rw[da d];rfl)) trivial ai;refine VM 9 rfl (c:=false) (du d) ?_;apply J [192,192,158,317];by_cases u:(f1:Int)=(f2:Int);refine VM 15 rfl (c:=true) (da u) ?_;apply J [295,167,317];cases g1;apply J [295,167,386,369,71];exact b7.i () [_] ⟨rfl,trivial⟩ (congrArg Wz (show g2=lW ⟨f2,t2,w,g2⟩ ⟨f1,t1,ei,false⟩from by rw[lW];dsimp only;rw[du d,da u];cases g2<;>rfl)) trivial ai;apply J [49,369,369,71];exact b7.i () [_] ⟨rfl,trivial⟩ (congrArg Wz (show true=lW ⟨f2,t2,w,g2⟩ ⟨f1,t1,ei,true⟩from by rw[lW];dsimp only;rw[du d,da u];rfl)) trivial ai;refine VM 15 rfl (c:=false) (du u) ?_;apply J [52,162,162,363,386,71];exact b7.i () [_] ⟨rfl,trivial⟩ (congrArg Wz (show false=lW ⟨f2,t2,w,g2⟩ ⟨f1,t1,ei,g1⟩from by rw[lW];dsimp only;rw[du d,du u];rfl)) trivial ai
theorem MH(af top:Nat)(X:cC)(aS C:Nat)(h:Int)(W:0<=h/\h<=4294967295)(aB:(b5 X.A.l h 2).2=0)(k:Int)(aW:0<=k/\k<=4294967295)(a0:(b5 X.A.l k 2).2=0)(m:e8)(hm:vD m)(l:List e8)(ah:l.length<=100000000)(ad:Option Addr)(cap db:Nat)(av:db=l.length):bK 317 [.agg #[ae aS,aT h,aa (bX X.A h)],.agg #[ae C,aT k,aa (bX X.A k)],.agg (pL m).toArray,.slice ad db cap] (λF=>cN F 427 ad (gr l)) [aj aS 163 [ae af,aa (bX X.A h),aa (c7 X.A h:Int)],aj C 163 [ae af,aa (bX X.A k),aa (c7 X.A k:Int)],cU aC af top X] (λy:Int=>aa y) (λy=>y=0->zL X h k l m) (λ_=>[aj aS 163 [ae af,aa (bX X.A h),aa (c7 X.A h:Int)],aj C 163 [ae af,aa (bX X.A k),aa (c7 X.A k:Int)],cU aC af top X]):=by
 apply aH Tryz.func317 Tryz.ntmps317;intro F Q;apply J [87];haveI:bj F ad 427 (gr l):=⟨Q⟩;obtain⟨f1,t1,ei,g1⟩:=m;obtain⟨D,H,an,aq⟩:=hm;dsimp only at D H an aq;refine Wv 2 rfl hn (λV=>?_);obtain⟨P,dt,a4⟩:=V;refine J [26,308] ?_;intro bC;refine J [0,308] ?_;intro ch;refine J [0,618] ?_;intro d;apply J [27,124,195];apply au (oq aC af top X aS h W aB (f1:Int));refine J [16,256] ?_;intro a2;apply J [339,124,61,0];apply au (oq aC af top X C k aW a0 (t1:Int));refine J [78,256] ?_;intro a3;apply J [339,33,413,0];apply ew (Qg ad cap l db av 359 [ae d] (lW ⟨f1,t1,ei,g1⟩) (λF=>Rd F d (.cells (pL ⟨f1,t1,ei,g1⟩).toArray 427 (0,0))) ah (λt=>MG d ⟨f1,t1,ei,g1⟩ t)) ⟨bj.rd (ad:=ad),iW (iW (fL.rd (b:=d)))⟩;apply J [21,104,75,111,0];apply au (sb (f1:Int));apply J [21];rw[da (show 0<=(f1:Int)/\(f1:Int)<256 by omega)];apply J [90,18,261,95];apply au (sb (t1:Int));apply J [21];rw[da (show 0<=(t1:Int)/\(t1:Int)<256 by omega)];apply J [319,151,191,6];refine cD [0,1,-2,3,4,5,6,8,9,-7,-10,11,12,13] (show aE (ag _) (ag [aj d 427 [aa f1,aa t1,aa ei,.bool g1]])from ai) ?_;apply J [136,15];apply au (yi (ei:Int));refine J [232,9] ?_;rw[da (show 0<(ei:Int)/\(ei:Int)<=15 by omega)];apply J [372,144,370,163,471,163,236];apply au (sa (f1:Int));refine J [232,9,236] ?_;apply au (sa (t1:Int));refine J [232,9] ?_;refine eH rfl rfl rfl rfl (uI rfl rfl rfl) ?_;apply J [217,269];refine ab.cond rfl (λZ=>?_) (λZ=>?_);apply J [67];exact bu 1 (λbL=>absurd bL am) ai;apply J [59,392,38];apply Vh rfl<;>intro a9;apply J [67];exact bu 6 (λbL=>absurd bL am) ai;have u:gn X.A (bi h) (f1:Int)≠0:=U
 rw[al u,al u];rw[k8 D]at u;obtain⟨_,_,bf,hp,be,bd,bc,aQ,_⟩:=P.aL _ _ u;obtain⟨_,c2⟩:=k7 (r:=hp) aQ;rw[k8 D];have a8:k6 (X.A.aL (bi h) f1)<=15:=b4
 apply J [265];refine q rfl rfl (rl (a:=k6 (X.A.aL (bi h) f1)) (b:=4) rfl rfl U am rfl) ?_;apply J [193];by_cases E:((k6 (X.A.aL (bi h) f1)&&&4:Nat):Int)=0;refine VM 64 rfl (c:=true) (da E) ?_;apply J [47,49,169,201];exact bu 9 (λbL=>absurd bL am) ai;refine VM 64 rfl (c:=false) (du E) ?_;apply J [261,250];refine dc rfl rfl rfl (rl (a:=k6 (X.A.aL (bi h) f1)) (b:=ei) rfl rfl U U rfl) ?_;apply J [158,207];apply Vh rfl<;>intro bb;apply J [67];exact bu 9 (λbL=>absurd bL am) ai;have N:k6 (X.A.aL (bi h) f1)&&&ei≠0:=U
 apply J [59,18];by_cases w:gn X.A (bi k) (t1:Int)=0;refine VM 74 rfl (c:=false) (du (λh=>h w)) ?_;apply J [317,207];refine ab.cond rfl (λar=>?_) (λar=>?_);apply J [67];exact bu 7 (λbL=>absurd bL am) ai;rw[k8 H]at w;have O:∀a∈l,lW ⟨f1,t1,ei,g1⟩ a=false:=λa a5=>b4;apply J [22,199];exact bu 0 (λ_=>⟨u,N,w,O⟩) ai;refine VM 74 rfl (c:=true) (da w) ?_;apply J [363,169,201];exact bu 7 (λbL=>absurd bL am) ai
def lY(k:Int)(l:List e8)(p n:Nat):Nat->Nat->Prop:=λa r=>a=bi k/\∃(q:Nat) (m:e8),p<=q/\q<n/\l[q]? =some m/\m.t=r
theorem AS(k:Int)(l:List e8)(n:Nat):lY k l n n=en:=by funext a r;exact propext ⟨λ⟨_,q,_,d,u,_⟩=>absurd d U,λh=>h.elim⟩
def kY(X:cC)(h k:Int)(l:List e8):Prop:=∀q m,l[q]? =some m->zL X h k (l.take q) m
section
variable {X Y Z : cC} {h k : Int} {l : List e8} {p n c : Nat}
variable{m:e8}
theorem kY.lt(aA:kY X h k l){q r:Nat}{a:e8}(d:q<r)(u:l[q]? =some a)(hm:l[r]? =some m):lW m a=false:=(aA r m hm).2.2.2 a (Vi (i:=q) (by rw[List.getElem?_take_of_lt d];exact u))
theorem AR{a:e8}(e:lW m a=false):a.t≠m.t/\(a.g=true\/m.g=true->a.f≠m.f):=by grind[lW]
theorem kY.ne(aA:kY X h k l){q r:Nat}{a:e8}(w:q≠r)(u:l[q]? =some a)(hm:l[r]? =some m):a.t≠m.t:=by rcases Nat.lt_or_gt_of_ne w with d|d;exact(AR (aA.lt d u hm)).1;exact λe=>(AR (aA.lt d hm u)).1 e.symm
theorem kY.bA(aA:kY X h k l){q:Nat}(hm:l[q]? =some m)(p n:Nat):¬lY k l p n (bi h) m.f:=by rintro⟨d,r,a,_,_,w,u⟩;have:=(aA r a w).2.2.1;rw[u,<-d]at this;exact(aA q m hm).1 this
structure iz(X:cC)(h k:Int)(l:List e8)(p n c:Nat)(Y:cC):Prop where
  di:c9 Y (lY k l p n)
  ci:fu X.A Y.A c
  L:Y.L=X.L
  de:Y.last=X.last
  bE:Y.A.bE=X.A.bE
  np:p=0->X.A.np+2*n<=Y.A.np
  eB:∀a s,¬lY k l p n a s->Y.A.aL a s=X.A.aL a s
  nh:p=0->∀q m,q<n->l[q]? =some m->iX (Y.A.aL (bi k) m.t)=iX (X.A.aL (bi h) m.f)
theorem iz.nil(d:c9 X en):iz X h k l 0 0 0 X:=⟨by rw[AS];exact d,fu.refl _ _,rfl,rfl,rfl,λ_=>Vm _,λ_ _ _=>rfl,λ_ q m h=>absurd h U⟩
theorem iz.to(w:iz X h k l 0 n c Y)(aA:kY X h k l)(hm:l[n]? =some m):Y.A.aL (bi k) m.t=0:=by rw[w.eB _ _ λ⟨_,q,a,_,C,d,u⟩=>aA.ne U d hm u];exact(aA n m hm).2.2.1
theorem iz.aW(d:iz X h k l p n c Y)(aA:kY X h k l){q:Nat}(hm:l[q]? =some m):Y.A.aL (bi h) m.f=X.A.aL (bi h) m.f:=d.eB _ _ (aA.bA hm _ _)
theorem iz.lay(d:iz X h k l 0 n c Y)(aA:kY X h k l)(O:cc Y.A)(P:bi k<256)(hm:l[n]? =some m){w:Nat}(hw:w≠0)(V:iX w=iX (X.A.aL (bi h) m.f))(Q:List aB.bY):iz X h k l 0 (n+1) (c+2) ⟨Y.A.lay (bi k) m.t w Q,Y.L,Y.last⟩:=by
 have aM:∀j r,lY k l 0 (n+1) j r↔lY k l 0 n j r\/(j=bi k/\r=m.t):=λj r=>(by constructor;rintro⟨C,q,a,D,E,u,N⟩;by_cases e:q=n;simp_all;exact .inl ⟨C,q,a,D,by omega,u,N⟩;rintro(⟨C,q,a,D,E,u,N⟩|⟨C,H⟩);exact⟨C,q,a,D,by omega,u,N⟩;exact⟨C,n,m,Vl _,Nat.lt_succ_self _,hm,H.symm⟩);refine⟨d.di.lay O P (d.to aA hm) hw (Vx _ _) aM,d.ci.trans ⟨rfl,rfl,⟨rfl,rfl,rfl⟩,rfl,by dsimp only[bR.lay];omega⟩,d.L,d.de,d.bE,(λ_=>by have:=d.np rfl;dsimp only[bR.lay];omega),λa s an=>?_,λ_ q a D E=>?_⟩;have u:¬lY k l 0 n a s/\¬(a=bi k/\s=m.t):=b4
 dsimp only[bR.lay];rw[th u.2];exact d.eB a s u.1;dsimp only[bR.lay];by_cases e:q=n;grind[ij];rw[th λH=>aA.ne e E hm H.2];exact d.nh rfl q a U E
theorem iz.up(d:iz X h k l p n c Y)(u:cc Y.A)(w:Y.A.np+2<=1000000):iz X h k l p n (c+2) ⟨{Y.A with np:=Y.A.np+2},Y.L,Y.last⟩:=
 ⟨d.di.obj u rfl (λ_ _ _=>rfl) (u.vk (Vx _ _) w) (Vx _ _),d.ci.trans ⟨rfl,rfl,⟨rfl,rfl,rfl⟩,rfl,by dsimp only;omega⟩,d.L,d.de,d.bE,(λe=>by have:=d.np e;dsimp only;omega),d.eB,d.nh⟩
theorem iz.un(d:iz X h k l p n c Y)(aA:kY X h k l)(N:cc Y.A)(P:p<n)(hm:l[p]? =some m)(Q:List aB.bY):iz X h k l (p+1) n c ⟨Y.A.bare (bi k) m.t Q,Y.L,Y.last⟩:=by have O:lY k l p n (bi k) m.t:=⟨rfl,p,m,Vm _,P,hm,rfl⟩;have aM:∀j r,lY k l (p+1) n j r↔lY k l p n j r/\¬(j=bi k/\r=m.t):=λj r=>(by constructor;rintro⟨C,q,a,H,D,u,w⟩;exact⟨⟨C,q,a,by omega,D,u,w⟩,λe=>aA.ne (show q≠p by omega) u hm (w.trans e.2)⟩;rintro⟨⟨C,q,a,H,D,u,w⟩,V⟩;by_cases e:q=p;simp_all;exact⟨C,q,a,by omega,D,u,w⟩);refine⟨d.di.Ix N O aM,(d.ci.trans (m:=0) ⟨rfl,rfl,⟨rfl,rfl,rfl⟩,rfl,Vm _,Vm _⟩),d.L,d.de,d.bE,(λe=>absurd e U),λa s an=>?_,λe=>absurd e U⟩;dsimp only[bR.bare];by_cases e:a=bi k/\s=m.t;rw[e.1,e.2,ij];exact((aA p m hm).2.2.1).symm;rw[th e];exact d.eB a s λE=>an ((aM a s).2 ⟨E,e⟩)
theorem iz.aL(d:iz X h k l p n c Y)(aA:kY X h k l)(w:cc Y.A)(u:p<n)(hm:l[p]? =some m):Y.A.aL (bi k) m.t≠0:=d.di.j7 _ _ ⟨rfl,p,m,Vm _,u,hm,rfl⟩
structure rf(Z:cC)(k:Int)(l:List e8)(n:Nat)(Y:cC):Prop where
  di:c9 Y (lY k l n l.length)
  A:Y.A=Z.A
  de:Y.last=Z.last+n
theorem rf.nil(d:c9 Z (lY k l 0 l.length)):rf Z k l 0 Z:=⟨d,rfl,by omega⟩
theorem rf.next(N:iz X h k l 0 l.length c Z)(aA:kY X h k l)(au:cc Z.A)(P:an Z.A.l (bi h)=h/\an Z.A.l (bi k)=k)(d:rf Z k l n Y)(hm:l[n]? =some m)(a2:Z.last+l.length<=Z.A.np):
 (b2.gT Y.L Y.last (b2.hl Y.L (h,(m.f:Int))) (k,(m.t:Int))).2.2.2=0/\rf Z k l (n+1) ⟨Y.A,(b2.gT Y.L Y.last (b2.hl Y.L (h,(m.f:Int))) (k,(m.t:Int))).1,(b2.gT Y.L Y.last (b2.hl Y.L (h,(m.f:Int))) (k,(m.t:Int))).2.1⟩:=by
 have Q:=(Vo.1 hm).1;have H:cc Y.A:=by rw[d.A];exact au
 have aM:∀j r,lY k l (n+1) l.length j r↔lY k l n l.length j r/\¬(j=bi k/\r=m.t):=λj r=>(by constructor;rintro⟨u,q,a,C,w,D,E⟩;exact⟨⟨u,q,a,by omega,w,D,E⟩,λe=>aA.ne (show q≠n by omega) D hm (E.trans e.2)⟩;rintro⟨⟨u,q,a,C,w,D,E⟩,O⟩;by_cases e:q=n;simp_all;exact⟨u,q,a,by omega,w,D,E⟩);have eB:Y.A.aL (bi h) m.f≠0:=by rw[d.A,N.aW aA hm];exact(aA n m hm).1
 obtain⟨t,av,u,V,aB,aH⟩:=d.di.find eB (aA.bA hm _ _);have W:an Y.A.l (bi h)=h:=by rw[d.A];exact P.1
 have ah:an Y.A.l (bi k)=k:=by rw[d.A];exact P.2
 rw[W]at u;have a0:=d.de;obtain⟨C,w⟩:=d.di.add H (i:=bi k) (s:=m.t) (par:=t.id) ⟨rfl,n,m,Vm _,Q,hm,rfl⟩ (.inr ⟨t,av,rfl,λj r bS a3 az=>by have O:=sH H.ok (H.nj eB).1 (H.nj az).1 (V.symm.trans bS);(have aq:r=m.f:=by omega);rw[<-O,aq,d.A,N.nh rfl n m Q hm,N.aW aA hm]⟩) (D':=lY k l (n+1) l.length) aM (by rw[d.A];omega);rw[ah]at C w;rw[u];refine⟨C,w,d.A,?_⟩;have aQ:(b2.gT Y.L Y.last t.id (k,(m.t:Int))).2.1=Y.last+1:=(by have ar:=C;unfold b2.gT at ar⊢;grind);grind
structure o5(Z:cC)(h:Int)(l:List e8)(n:Nat)(Y:cC):Prop where
  di:c9 Y en
  ci:fu Z.A Y.A 0
  de:Y.last=Z.last
  e:∀q m,n<=q->l[q]? =some m->m.g=true->Y.A.aL (bi h) m.f≠0
theorem o5.next(aA:kY X h k l)(cH:o5 Z h l n Y)(E:cc Y.A)(hm:l[n]? =some m)(u:m.g=true){t:b2.Fn}(H:t∈Y.L)(w:t.dH=an Y.A.l (bi h))(C:t.ci=(m.f:Int))(Q:List aB.bY):o5 Z h l (n+1) ⟨Y.A.bare (bi h) m.f Q,b2.kg Y.L t.id,Y.last⟩:=by refine⟨cH.di.lift E (cH.e n m (Vm _) hm u) H w C,(cH.ci.trans (m:=0) ⟨rfl,rfl,⟨rfl,rfl,rfl⟩,rfl,Vm _,Vm _⟩),cH.de,λq a N d D=>?_⟩;dsimp only[bR.bare];rw[th λe=>(AR (aA.lt (show n<q by omega) hm d)).2 (.inl u) e.2.symm];exact cH.e q a U d D
theorem o5.skip(cH:o5 Z h l n Y):o5 Z h l (n+1) Y:=⟨cH.di,cH.ci,cH.de,λq a d=>cH.e q a U⟩
end
variable(aC af top:Nat)(X:cC)(aS:Nat)
theorem Ue(h:Int)(w:0<=h/\h<=4294967295)(C:(b5 X.A.l h 2).2=0)(s:Int)(ee:bR)(he:ee.l=X.A.l):bt 65 [.agg #[ae aS,aT h,aa (bX ee h)],aa s] be [aj aS 163 [ae af,aa (bX ee h),aa (c7 ee h:Int)],cU aC af top X] (.tuple #[.agg #[aT (if(gn X.A (bi h) s)=0 then 0 else(iX (gn X.A (bi h) s):Int)),aa (if(gn X.A (bi h) s)=0 then 0 else(k6 (gn X.A (bi h) s):Int))],.bool (decide ((gn X.A (bi h) s)≠0))]) [aj aS 163 [ae af,aa (bX ee h),aa (c7 ee h:Int)],cU aC af top X]:=by
 have d:bX ee h=bX X.A h:=by grind[bX]
 have u:c7 ee h=c7 X.A h:=by grind[c7]
 grind[oq]
theorem Uj(h:Int)(C:0<=h/\h<=4294967295)(E:(b5 X.A.l h 2).2=0)(s:Nat)(hs:s<256)(w:X.A.aL (bi h) s=0)(x r:Nat)(H:x<4294967295)(hr:1<=r/\r<=15)(D:(aq.cW X.A.l x).2=0)(aA:X.A.np+2<=1000000)(ee:bR)(he:ee.l=X.A.l):bK 138 [ae aC,.agg #[ae aS,aT h,aa (bX ee h)],aa s,.agg #[aT x,aa r]] c5 [aj aS 163 [ae af,aa (bX ee h),aa (c7 ee h:Int)],cU aC af top X] (λy:Int×bR=>aa y.1) (λy=>vB top X.A (bi h) s (dM x r) (bX X.A h) y) (λy=>[aj aS 163 [ae af,aa (bX ee h),aa (c7 ee h:Int)],cU aC af top ⟨y.2,X.L,X.last⟩]):=by
 have d:bX ee h=bX X.A h:=by grind[bX]
 have u:c7 ee h=c7 X.A h:=by grind[c7]
 grind[yh]
theorem IQ(h:Int)(C:0<=h/\h<=4294967295)(D:(b5 X.A.l h 2).2=0)(s:Nat)(hs:s<256)(w:X.A.aL (bi h) s≠0)(ee:bR)(he:ee.l=X.A.l):bK 168 [ae aC,.agg #[ae aS,aT h,aa (bX ee h)],aa s] c5 [aj aS 163 [ae af,aa (bX ee h),aa (c7 ee h:Int)],cU aC af top X] (λ_:bR=>.tuple #[]) (λy=>∃Q,y=X.A.bare (bi h) s Q) (λy=>[aj aS 163 [ae af,aa (bX ee h),aa (c7 ee h:Int)],cU aC af top ⟨y,X.L,X.last⟩]):=by
 have d:bX ee h=bX X.A h:=by grind[bX]
 have u:c7 ee h=c7 X.A h:=by grind[c7]
 grind[Cd]
theorem IV(aI bz aS:Nat)(L:List b2.Fn)(last:Int)(h f s:Int)(d:0<=h/\h<=4294967295):bt 74 [ae aC,.agg #[ae aS,aT h,aa f],aa s] be [aj aC 148 [ae aI,ae bz],b2.hP bz L last] (aa (b2.hl L (h,s))) [aj aC 148 [ae aI,ae bz],b2.hP bz L last]:=by apply aH Tryz.func74 Tryz.ntmps74;intro F _;refine J [13,26,308] ?_;intro ba;apply J [31];refine cD [0,1,2,3,4,5,6,7,-8,9] (show aE (ag _) (ag [aj ba 150 [ae aS,aT h,aa f],aj aC 148 [ae aI,ae bz]])from ai) ?_;refine J [137,143,375,263] ?_;apply au (b2.wy bz L last h s);refine J [322,70,147] ?_;exact dn
theorem Uu(Z:cC)(aS u:Nat)(h:Int)(V:0<=h/\h<=4294967295)(cj:(b5 X.A.l h 2).2=0)(k:Int)(cl:0<=k/\k<=4294967295)(cn:(b5 X.A.l k 2).2=0)(l:List e8)(c:Nat)(w:iz X h k l 0 l.length c Z)(aA:kY X h k l)(cg:Z.last+l.length<=Z.A.np)(ad:Option Addr)(cap db:Nat)(D:db=l.length):bK 318 [ae aC,.agg #[ae aS,aT h,aa (bX X.A h)],.agg #[ae u,aT k,aa (bX X.A k)],.slice ad db cap] (λF=>c5 F/\cN F 427 ad (gr l)) [aj aS 163 [ae af,aa (bX X.A h),aa (c7 X.A h:Int)],aj u 163 [ae af,aa (bX X.A k),aa (c7 X.A k:Int)],cU aC af top Z] (λ_:cC=>.tuple #[]) (λy=>c9 y en/\fu X.A y.A c) (λy=>[aj aS 163 [ae af,aa (bX X.A h),aa (c7 X.A h:Int)],aj u 163 [ae af,aa (bX X.A k),aa (c7 X.A k:Int)],cU aC af top y]):=by
 apply aH Tryz.func318 Tryz.ntmps318;intro F av;apply J [87];subst D;haveI:cw F:=⟨av.1⟩;haveI:bj F ad 427 (gr l):=⟨av.2⟩;refine Wv 2 rfl hn (λQ=>?_);obtain⟨ar,bY,cc⟩:=Q;have ce:=ar.bd;have hlen:l.length<=1000000:=by have:=w.de;have:=w.di.et.len;omega
 have el:Z.A.l=X.A.l:=w.ci.l;have bp:an Z.A.l (bi h)=h/\an Z.A.l (bi k)=k:=by grind[p3]
 have ck:bi h<256/\bi k<256:=by grind[bi]
 apply ab.open 2 rfl;rintro⟨aI,bz⟩-;apply J [161];dsimp only;refine J [26,308] ?_;intro bC;refine J [0,308] ?_;intro ch;apply J [29,33,417,112];refine VQ (ι:=Nat×cC) (λd=>d.1<=l.length/\rf Z k l d.1 d.2) (λd=>[(0,ae aC),(3,.slice ad l.length cap),(5,ae bC),(6,ae ch),(12,.slice ad l.length cap),(13,aa ((l.length:Nat):Int)),(14,aa ((d.1:Nat):Int))]) (λd=>ag [aj bC 150 [ae aS,aT h,aa (bX X.A h)],aj ch 150 [ae u,aT k,aa (bX X.A k)],aj aS 163 [ae af,aa (bX X.A h),aa (c7 X.A h:Int)],aj u 163 [ae af,aa (bX X.A k),aa (c7 X.A k:Int)],aj aC 148 [ae aI,ae bz],fP aI af top Z.A,b2.hP bz d.2.L d.2.last,F]) (λd=>l.length-d.1) (0,Z) ⟨Vl _,rf.nil w.di⟩ bG ai ?_;rintro⟨n,Y⟩ ⟨D,C⟩ co;dsimp only[cx]at D C⊢;apply J [43];apply Vh rfl<;>intro bD;·(have W:n<l.length:=by omega);obtain⟨⟨f1,t1,ei,g1⟩,hm⟩:∃m,l[n]? =some m:=⟨l[n],Ve W⟩;(have bt:0<(gr l).length:=by grind[qN]);have bl:=aA n _ hm;have br:=C.next w aA ar bp hm U;dsimp only at br;(have bf:Y.last<=1000000:=by have:=C.de;omega);(have a0:Y.L.length<=1000000:=by have:=C.di.et.len;omega);refine J [245,418,487,0,447] ?_;intro a2;apply J [23,334,2];refine cD [0,1,2,3,4,5,6,7,9,10,11,12,13,-8,-14] (show aE (ag _) (ag [aj aC 148 [ae aI,ae bz],aj bC 150 [ae aS,aT h,aa (bX X.A h)],aj ch 150 [ae u,aT k,aa (bX X.A k)],aj a2 427 [aa f1,aa t1,aa ei,.bool g1]])from ai) ?_;refine J [137,77,310,102,143,375,287] ?_;apply au (IV aC aI bz aS Y.L Y.last h (bX X.A h) (f1:Int) V);refine J [232,45] ?_;apply au (b2.ww bz Y.L Y.last (b2.hl Y.L (h,(f1:Int))) k (t1:Int) bf);refine J [232,9,231,344] ?_;exact⟨rfl,(n+1,⟨Y.A,(b2.gT Y.L Y.last (b2.hl Y.L (h,(f1:Int))) (k,(t1:Int))).1,(b2.gT Y.L Y.last (b2.hl Y.L (h,(f1:Int))) (k,(t1:Int))).2.1⟩),⟨by dsimp only;omega,br.2⟩,cB,bG,ai⟩
 obtain rfl:n=l.length:=by omega
 have P:=C.di;rw[AS]at P;have aQ:=C.A;obtain⟨b0,E,H⟩:=Y;dsimp only at aQ P⊢;subst aQ;have be:o5 ⟨Z.A,E,H⟩ h l 0 ⟨Z.A,E,H⟩:=⟨P,fu.refl _ _,rfl,λq m _ hm _=>by show Z.A.aL _ _≠0;rw[w.aW aA hm];exact(aA q m hm).1⟩;apply J [209,417,112];refine VQ (ι:=Nat×cC) (λd=>d.1<=l.length/\o5 ⟨Z.A,E,H⟩ h l d.1 d.2) (λd=>[(0,ae aC),(3,.slice ad l.length cap),(5,ae bC),(6,ae ch),(34,.slice ad l.length cap),(35,aa ((l.length:Nat):Int)),(36,aa ((d.1:Nat):Int))]) (λd=>ag [aj bC 150 [ae aS,aT h,aa (bX X.A h)],aj ch 150 [ae u,aT k,aa (bX X.A k)],aj aS 163 [ae af,aa (bX X.A h),aa (c7 X.A h:Int)],aj u 163 [ae af,aa (bX X.A k),aa (c7 X.A k:Int)],cU aC af top d.2,F]) (λd=>l.length-d.1) (0,⟨Z.A,E,H⟩) ⟨Vl _,be⟩ bG (ao (ao (ao (ao (ay (bV.mk aI bz:bV) trivial ai))))) ?_;rintro⟨n,Y⟩ ⟨D,cH⟩ cp;dsimp only[cx]at D cH⊢;apply J [43];apply Vh rfl<;>intro bD;·(have W:n<l.length:=by omega);obtain⟨⟨f1,t1,ei,g1⟩,hm⟩:∃m,l[n]? =some m:=⟨l[n],Ve W⟩;(have bt:0<(gr l).length:=by grind[qN]);have bl:=aA n _ hm;refine Wv 4 rfl hn (λQ=>?_);obtain⟨O,bW,b6⟩:=Q;have a8:X.A.l=Y.A.l:=el.symm.trans cH.ci.l.symm;(have a0:Y.L.length<=1000000:=by have:=cH.di.et.len;have:=cH.di.de;have:=O.bd;omega);(have bR:(b5 Y.A.l h 2).2=0:=by simp_all);refine J [245,418,487,0,447] ?_;intro a3;apply J [23,334,99,248,2];cases g1;refine J [72,114] ?_;exact⟨rfl,(n+1,Y),⟨by dsimp only;omega,cH.skip⟩,cB,bG,ai⟩;apply J [20];have N:=cH.e n _ (Vm _) hm rfl;dsimp only at N;obtain⟨t,bE,aq,a4,a5,b1⟩:=cH.di.find N (λh=>h);(have a9:an Y.A.l (bi h)=h:=by simp_all);rw[a9]at aq;apply ab.open 5 rfl;rintro⟨aI,bz⟩-;apply J [79];dsimp only;refine ab.seq ?_;refine cD [0,1,2,3,4,5,6,7,-8,-9] (show aE (ag _) (ag [aj aC 148 [ae aI,ae bz],aj bC 150 [ae aS,aT h,aa (bX X.A h)],aj a3 427 [aa f1,aa t1,aa ei,.bool true]])from ai) ?_;apply J [137,77,310,102,15];apply au (IV aC aI bz aS Y.L Y.last h (bX X.A h) (f1:Int) V);refine J [232,9] ?_;rw[aq];refine dY rfl rfl ?_;apply au (b2.Es bz Y.L Y.last t.id a0);refine J [232,113,39,221,65] ?_;refine aY.bk (B:=ag [aj aS 163 [ae af,aa (bX X.A h),aa (c7 X.A h:Int)],cU aC af top ⟨Y.A,b2.kg Y.L t.id,Y.last⟩,aj bC 150 [ae aS,aT h,aa (bX X.A h)],aj ch 150 [ae u,aT k,aa (bX X.A k)],aj u 163 [ae af,aa (bX X.A k),aa (c7 X.A k:Int)],F]) (bM 6 rfl (ay (bV.mk aI bz:bV) trivial ai)) ?_;refine e rfl ?_;apply bb (IQ aC af top ⟨Y.A,b2.kg Y.L t.id,Y.last⟩ aS h V bR f1 (O.nj N).2 N X.A a8);intro bS bc;apply J [14];obtain⟨ah,rfl⟩:=bc;have aB:=o5.next aA cH O hm rfl bE a4 a5 ah;dsimp only at aB⊢;refine J [62] ?_;exact⟨rfl,(n+1,⟨Y.A.bare (bi h) f1 ah,b2.kg Y.L t.id,Y.last⟩),⟨by dsimp only;omega,aB⟩,cB,bG,ai⟩
 have mj:=w.ci.trans cH.ci;apply J [332];exact mO Y ⟨cH.di,mj⟩ ai
theorem JT{A:av}{E:Nat}{ad:Option Addr}{l:List e8}{i:Nat}(x:cN A E ad (gr l)):cN A E ad (gr (l.take i)):=by have:=JS x (i*4);rwa[show(gr l).take (i*4)=gr (l.take i)from wB uE l i]at this
def yy(X:cC)(l:List e8)(y:Int×cC):Prop:=c9 y.2 en/\fu X.A y.2.A (2*l.length+128)/\(y.1≠0->y.2.A.np<=max X.A.np 128)
theorem iz.fail{X Y:cC}{h k:Int}{l:List e8}{n c:Nat}(d:iz X h k l n n c Y)(u:c9 X en){db:Nat}(bL:db=max X.A.np 128):c9 ⟨{Y.A with np:=db},Y.L,Y.last⟩ en/\fu X.A {Y.A with np:=db} (2*l.length+128):=by have aA:=d.di;rw[AS]at aA;have w:=u.de;exact⟨⟨aA.et,aA.pN,aA.qP,aA.j7,aA.fI,by dsimp only;rw[d.de];omega⟩,⟨d.ci.l,d.ci.z,d.ci.q,d.ci.o,by dsimp only;omega⟩⟩
theorem IT(h:Int)(ah:0<=h/\h<=4294967295)(k:Int)(P:0<=k/\k<=4294967295)(l:List e8)(be:∀m∈l,vD m)(hlen:l.length<=1000)(a5:c9 X en)(dD:X.A.np+2*l.length+2<=1000000)(ad:Option Addr)(cap db:Nat)(O:db=l.length)(dw:db<=cap):bK 266 [ae aC,aT h,aT k,.slice ad db cap] (λF=>c5 F/\cN F 427 ad (gr l)) [cU aC af top X] (λy:Int×cC=>aa y.1) (λy=>yy X l y) (λy=>[cU aC af top y.2]):=by
 apply aH Tryz.func266 Tryz.ntmps266;intro F bR;apply J [1];subst O;haveI:cw F:=⟨bR.1⟩;haveI:bj F ad 427 (gr l):=⟨bR.2⟩;have bf:∀e:Int,yy X l (e,X):=by grind[yy,fu.refl]
 refine Wv 0 rfl hn (λC=>?_);obtain⟨bD,dt,dr⟩:=C;apply J [106,35];by_cases an:(b5 X.A.l h 2).2=0;refine e rfl ?_;apply bb (oY aC af top X h ah an);intro aS _;refine J [7,241] ?_;intro bC;apply J [116,211,35];by_cases av:(b5 X.A.l k 2).2=0;refine e rfl ?_;apply bb (oY aC af top X k P av);intro u _;refine J [10,241] ?_;intro D;apply J [116,242,122,33,417,112];refine VQ (ι:=Nat) (λd=>d<=l.length/\∀q m,q<d->l[q]? =some m->zL X h k (l.take q) m) (λd=>[(0,ae aC),(3,.slice ad l.length cap),(9,ae bC),(11,ae D),(40,.slice ad l.length cap),(41,aa ((l.length:Nat):Int)),(42,aa ((d:Nat):Int))]) (λd=>ag [aj bC 150 [ae aS,aT h,aa (bX X.A h)],aj D 150 [ae u,aT k,aa (bX X.A k)],aj aS 163 [ae af,aa (bX X.A h),aa (c7 X.A h:Int)],aj u 163 [ae af,aa (bX X.A k),aa (c7 X.A k:Int)],cU aC af top X,F]) (λd=>l.length-d) 0 ⟨Vl _,λq m h=>absurd h U⟩ bG ai ?_;rintro n ⟨O,bS⟩ dI;dsimp only[cx]at O bS⊢;apply J [43];apply Vh rfl<;>intro cL;have bc:n<l.length:=U
 obtain⟨⟨f1,t1,ei,g1⟩,hm⟩:∃m,l[n]? =some m:=⟨l[n],Ve bc⟩;have cJ:0<(gr l).length:=by grind[qN]
 have aQ:=be _ (Vi hm);refine J [56,25,418,487,0,447] ?_;intro cn;apply J [73,23,334,29];refine cD [0,1,2,3,4,5,-6,7] (show aE (ag _) (ag [aj bC 150 [ae aS,aT h,aa (bX X.A h)],aj D 150 [ae u,aT k,aa (bX X.A k)],aj cn 427 [aa f1,aa t1,aa ei,.bool g1]])from ai) ?_;apply J [310,310];refine bI rfl rfl rfl (fQ (vs:=[_,_,_,_]) 4 rfl rfl rfl rfl) ?_;apply J [194];refine bI rfl rfl rfl (nE 427 4 (n) rfl rfl rfl U U) ?_;refine dY rfl rfl ?_;apply eM (MH aC af top X aS u h ah an k P av ⟨f1,t1,ei,g1⟩ aQ (l.take n) (by rw[Ww];omega) ad cap n (by rw[Ww];omega)) (JT (bj.rd (ad:=ad)));intro ct cq;refine J [238,70,34] ?_;apply Vh rfl<;>intro he;apply J [135,165];exact bu (ct,X) (bf _) ai;have cu:=cq (Vj he);refine J [114] ?_;exact⟨rfl,(n+1),⟨by omega,λq m W E=>by rcases XF.1 W with N|N;exact bS q m N E;subst N;rw[hm]at E;cases E;exact cu⟩,U,bG,ai⟩;obtain rfl:n=l.length:=by omega
 have aA:kY X h k l:=by grind[kY]
 have c3:bi h<256/\bi k<256:=by grind[bi]
 have ds:=bD.bd;apply J [19,6,33,417,112];refine VQ (ι:=Nat×cC) (λd=>d.1<=l.length/\iz X h k l 0 d.1 (2*d.1) d.2) (λd=>[(0,ae aC),(3,.slice ad l.length cap),(9,ae bC),(11,ae D),(58,.slice ad l.length cap),(59,aa ((l.length:Nat):Int)),(60,aa ((d.1:Nat):Int))]) (λd=>ag [aj bC 150 [ae aS,aT h,aa (bX X.A h)],aj D 150 [ae u,aT k,aa (bX X.A k)],aj aS 163 [ae af,aa (bX X.A h),aa (c7 X.A h:Int)],aj u 163 [ae af,aa (bX X.A k),aa (c7 X.A k:Int)],cU aC af top d.2,F]) (λd=>l.length-d.1) (0,X) ⟨Vl _,iz.nil a5⟩ bG ai ?_;rintro⟨n,Y⟩ ⟨cS,w⟩ dK;dsimp only[cx]at cS w⊢;apply J [43];apply Vh rfl<;>intro cL;have bc:n<l.length:=U
 obtain⟨⟨f1,t1,ei,g1⟩,hm⟩:∃m,l[n]? =some m:=⟨l[n],Ve bc⟩;have cJ:0<(gr l).length:=by grind[qN]
 have aQ:=be _ (Vi hm);refine Wv 4 rfl hn (λC=>?_);obtain⟨a2,ck,cy⟩:=C;have bt:X.A.l=Y.A.l:=w.ci.l.symm;have c1:(b5 Y.A.l h 2).2=0:=b4
 have c8:(b5 Y.A.l k 2).2=0:=b4
 obtain⟨W,E,N,_⟩:=aA n _ hm;dsimp only at W E N;obtain⟨_,_,a0,hp,cj,dH,cZ,ar,dA⟩:=bD.aL _ _ W;obtain⟨bp,c2⟩:=k7 (r:=hp) ar;have kC:=w.aW aA hm;dsimp only at kC;have c6:gn Y.A (bi h) (f1:Int)=dM a0 hp:=by grind[k8]
 have cc:=(jL (r:=hp) ar cZ).2;rw[cj,c2]at E;have ce:hp&&&ei<=15:=by grind[Nat.and_le_left]
 have cg:=w.to aA hm;dsimp only at cg;have dE:=w.ci.n;have dB:ei<=15:=aQ.2.2.2;have cP:(aq.cW Y.A.l (a0:Int)).2=0:=b4
 refine J [56,25,418,487,0,447] ?_;intro dj;apply J [73,23,334,99,221,195];apply au (Ue aC af top Y aS h ah c1 (f1:Int) X.A bt);apply J [16];rw[c6,al cc,al cc,bp,c2];refine J [256] ?_;intro dl;apply J [339,265,55];refine q rfl rfl (rl (a:=hp) (b:=ei) rfl rfl U U rfl) ?_;apply J [406,284,252,61,220,0];apply bb (Uj aC af top Y u k P c8 t1 aQ.2.1 cg a0 (hp&&&ei) ar ⟨by omega,ce⟩ cP U X.A bt);intro⟨ct,dg⟩ bY;apply J [78];dsimp only;apply J [126];apply Vh rfl<;>intro he;obtain⟨bL,_⟩:=w7 bY he;dsimp only at bL;subst bL;have cA:=w.up a2 U;apply J [6,264];refine q rfl rfl (nE 427 4 (n) rfl rfl rfl U U) ?_;apply J [417,112];refine VQ (ι:=Nat×cC) (λd=>d.1<=n/\iz X h k l d.1 n (2*n+2) d.2) (λd=>[(0,ae aC),(3,.slice ad l.length cap),(9,ae bC),(11,ae D),(19,aa ct),(88,.slice ad n cap),(89,aa ((n:Nat):Int)),(90,aa ((d.1:Nat):Int))]) (λd=>ag [aj bC 150 [ae aS,aT h,aa (bX X.A h)],aj D 150 [ae u,aT k,aa (bX X.A k)],aj aS 163 [ae af,aa (bX X.A h),aa (c7 X.A h:Int)],aj u 163 [ae af,aa (bX X.A k),aa (c7 X.A k:Int)],cU aC af top d.2,F]) (λd=>n-d.1) (0,⟨{Y.A with np:=Y.A.np+2},Y.L,Y.last⟩) ⟨Vl _,cA⟩ bG ai ?_;rintro⟨V,Z⟩ ⟨cV,H⟩ dO;dsimp only[cx]at cV H⊢;apply J [43];apply Vh rfl<;>intro dz;have cM:V<l.length:=U
 have b6:V<n:=U
 obtain⟨⟨f2,t2,df,g2⟩,aB⟩:∃m,l[V]? =some m:=⟨l[V],Ve cM⟩;have cR:=be _ (Vi aB);refine Wv 4 rfl hn (λC=>?_);obtain⟨a3,cl,cz⟩:=C;have co:X.A.l=Z.A.l:=H.ci.l.symm;have dd:(b5 Z.A.l k 2).2=0:=b4
 have b2:=H.aL aA a3 b6 aB;dsimp only at b2;refine J [245,418] ?_;refine q rfl rfl (gp (vs:=[_,_,_,_]) 4 rfl rfl (kz uE aB 0 4 U U (show _=[aa (f2:Int),aa t2,aa df,.bool g2]from rfl)) rfl am) ?_;refine J [0,447] ?_;intro dp;apply J [23,334,2,39,221,61,0];apply bb (IQ aC af top Z u k P dd t2 cR.2.1 b2 X.A co);intro di cp;apply J [16];obtain⟨bl,rfl⟩:=cp;have bW:=H.un aA a3 b6 aB bl;dsimp only at bW⊢;refine J [62] ?_;exact⟨rfl,(V+1,⟨Z.A.bare (bi k) t2 bl,Z.L,Z.last⟩),⟨by dsimp only;omega,bW⟩,cB,bG,ai⟩;refine Wv 4 rfl hn (λC=>?_);obtain⟨a3,cl,cz⟩:=C;obtain rfl:V=n:=U
 obtain⟨db,O⟩:∃db,db=max X.A.np 128:=⟨_,rfl⟩;obtain⟨a4,a8⟩:=H.fail a5 O;have dF:=H.bE;have dC:=H.ci.q.2.1;have a9:128<=db/\(Z.A.bE<=db/\Z.A.now<=db)/\db<=1000000:=U
 apply J [19,135,165];exact bu (ct,⟨{Z.A with np:=db},Z.L,Z.last⟩) ⟨a4,a8,λ_=>Nat.le_of_eq O⟩ (eN 4 rfl (OS a9.1 a9.2.1 a9.2.2) ai);obtain rfl:ct=0:=Vj he;obtain⟨Q,bL,_⟩:=w6 bY rfl;dsimp only at bL;subst bL;have cT:=(jL (r:=hp&&&ei) ar ce).2;have cv:=w.lay aA a2 c3.2 hm cT (by rw[cj,bp,(k7 ar).1]) Q;refine J [114] ?_;exact⟨rfl,(n+1,⟨Y.A.lay (bi k) t1 (dM a0 (hp&&&ei)) Q,Y.L,Y.last⟩),⟨by dsimp only;omega,cv⟩,cB,bG,ai⟩;refine Wv 4 rfl hn (λC=>?_);obtain⟨a2,ck,cy⟩:=C;obtain rfl:n=l.length:=U
 have cF:Y.last+(l.length:Int)<=Y.A.np:=(by have W:=w.de;have E:=a5.de;have N:=w.np rfl;omega);apply J [19,252,221,262];apply eM (Uu aC af top X Y aS u h ah an k P av l (2*l.length) w aA cF ad cap l.length rfl) ⟨cw.aV,bj.rd (ad:=ad)⟩;intro Z ⟨a4,a8⟩;apply J [14,119];exact bu (0,Z) ⟨a4,a8.mono U,λh=>absurd rfl h⟩ ai;refine e rfl ?_;apply au (q7 aC af top X k P av);refine J [17,241] ?_;intro ch;apply J [116,34];refine Vh rfl (λb1=>?_) (λb1=>absurd (av) b1);apply J [125];exact bu ((b5 X.A.l k 2).2,X) (bf _) ai;refine e rfl ?_;apply au (q7 aC af top X h ah an);refine J [5,241] ?_;intro ba;apply J [116,34];refine Vh rfl (λb0=>?_) (λb0=>absurd (an) b0);apply J [125];exact bu ((b5 X.A.l h 2).2,X) (bf _) ai
structure iJ where
  b:Nat
  o:Nat
  r:Nat
  f:Nat
  g:Bool
def Fc(i:iJ):List Value:=[.int .i64 i.b,.int .i64 i.o,.int .i64 i.r,.int .i64 i.f,.bool i.g]
theorem wR(i:iJ):(Fc i).length=5:=rfl
def fl(l:List iJ):List Value:=l.flatMap Fc
theorem us(l:List iJ):(fl l).length=l.length*5:=kc wR l
theorem OW(l k:List iJ):fl l++fl k=fl (l++k):=by simp[fl]
def qg(i:iJ):Prop:=i.b<256/\i.o<16/\i.r<16/\i.f<256
def nS(b o:Nat):Prop:=o<=7/\b %2^o=0
instance (b o:Nat):Decidable (nS b o):=inferInstanceAs (Decidable (_/\_))
def lD(i:iJ):Prop:=nS i.b i.o/\1<=i.r
instance (i:iJ):Decidable (lD i):=inferInstanceAs (Decidable (_/\_))
def OV:iJ:=⟨0,0,0,0,false⟩
theorem sZ{a b:Nat}(d:a<4294967296)(u:b<4294967296):a|||b<4294967296:=Nat.or_lt_two_pow (n:=32) d u
theorem Is(b o:Nat)(u:b<256)(D:o<1000):bt 302 [aa b,aa o] be [] (.bool (decide (nS b o))) []:=by
 apply aH Tryz.func302 Tryz.ntmps302;intro F _;refine J [8,246,268,463,204,51,525,12,303,51] ?_;refine VM 15 rfl (c:=true) (da U) ?_;apply J [12,288,51];by_cases d:o<=7;refine VM 19 rfl (c:=true) (da U) ?_;obtain⟨w,hw⟩:∃w,w=2^o:=⟨_,rfl⟩;have H:w<=128:=by rw[hw];exact Vk (n:=2) am d
 have E:1<=w:=cr
 have hand:b&&&(w-1)=b %w:=b4
 have C:b %w<=b:=Nat.mod_le _ _;apply J [12,12];refine dc rfl rfl rfl (nD (a:=1) (n:=o) (c:=w) rfl rfl U (by rw[hw,Nat.one_mul]) U) ?_;refine dc rfl rfl rfl (bF.to (v:=((w-1:Nat):Int)) (nH rfl rfl U U) U) ?_;refine dc rfl rfl rfl (rl (a:=b) (b:=w-1) (c:=b %w) rfl rfl U U hand) ?_;apply J [158,132];exact b7.i () [_] ⟨rfl,trivial⟩ (congrArg Wz (decide_eq_decide.2 (by rw[nS,<-hw];omega))) trivial ai;refine VM 19 rfl (c:=false) (du U) ?_;apply J [47,49,71];exact b7.i () [_] ⟨rfl,trivial⟩ (congrArg Wz (show false=_ from(du (λh=>d h.1)).symm)) trivial ai
theorem x3(b o r f:Nat)(g:Bool)(ah:b<256)(av:o<16)(hr:r<16)(aA:f<256):bK 255 [.agg #[aa b,aa o,aa r,aa f,.bool g]] be [] (λy:Nat=>.tuple #[bn y,.bool (decide (lD ⟨b,o,r,f,g⟩))]) (λy=>y<4294967296) (λ_=>[]):=by
 apply aH Tryz.func255 Tryz.ntmps255;intro F _;refine J [196,619] ?_;intro ba;apply J [73,104,111,61,0];apply au (Is b o ah U);apply J [5];by_cases d:nS b o;rw[da d];apply J [90,18,250,408,41];by_cases aB:r=0;refine VM 16 rfl (c:=true) (da U) ?_;apply J [52,51,52,51,52,139,184,76];rw[show decide (lD ⟨b,o,r,f,g⟩)=false from du (λh=>absurd h.2 cB)];exact cQ 0 (Vr rfl) ai;refine VM 16 rfl (c:=false) (du U) ?_;apply J [250,160,41];refine VM 21 rfl (c:=false) (du U) ?_;apply J [295,167,408,41];refine VM 26 rfl (c:=false) (du U) ?_;apply J [295,167,303,109];refine Vh rfl (λE=>absurd E (U)) (λE=>?_);obtain⟨v1,bS⟩:=eO (o*2^8);obtain⟨v2,an⟩:=eO (r*2^12);obtain⟨v3,aq⟩:=eO (f*2^24);have D:v1<4294967296/\v2<4294967296/\v3<4294967296:=U
 have Q:=sZ (a:=b) (b:=v1) U D.1;obtain⟨w,H⟩:=eO (b|||v1);rw[H]at Q;have V:=sZ (a:=w) (b:=v2) Q D.2.1;obtain⟨C,N⟩:=eO (w|||v2);rw[N]at V;have W:=sZ (a:=C) (b:=v3) V D.2.2;obtain⟨u,O⟩:=eO (C|||v3);rw[O]at W;have ar:=sZ (a:=u) (b:=65536) W am;obtain⟨Z,P⟩:=eO (u|||65536);rw[P]at ar;apply J [4,111,61];refine q rfl rfl (nD (a:=o) (n:=8) (c:=v1) rfl rfl am bS U) ?_;refine q rfl rfl (s0 (a:=b) (b:=v1) (c:=w) rfl rfl U U H) ?_;apply J [55];refine q rfl rfl (nD (a:=r) (n:=12) (c:=v2) rfl rfl am an U) ?_;refine q rfl rfl (s0 (a:=w) (b:=v2) (c:=C) rfl rfl U U N) ?_;apply J [248];refine q rfl rfl (nD (a:=f) (n:=24) (c:=v3) rfl rfl am aq U) ?_;refine q rfl rfl (s0 (a:=C) (b:=v3) (c:=u) rfl rfl U U O) ?_;apply J [31,24,214,2];cases g;refine J [205,25,306,73,66] ?_;rw[show decide (lD ⟨b,o,r,f,false⟩)=true from da ⟨d,by dsimp only;omega⟩];exact cQ u (by assumption) ai;apply J [20,212];refine q rfl rfl (s0 (a:=u) (b:=65536) (c:=Z) rfl rfl U U P) ?_;refine J [63,306,73,66] ?_;rw[show decide (lD ⟨b,o,r,f,true⟩)=true from da ⟨d,by dsimp only;omega⟩];exact cQ Z (by assumption) ai;rw[du d];apply J [90,18,52,51,52,51,52,51,52,139,184,76];rw[show decide (lD ⟨b,o,r,f,g⟩)=false from du (λh=>d h.1)];exact cQ 0 (Vr rfl) ai
theorem B5(b o:Nat)(d:b<256)(u:o<1000):bt 316 [.agg #[aa b,aa o]] be [] (.bool (decide (nS b o))) []:=by apply aH Tryz.func316 Tryz.ntmps316;intro F _;refine J [196,384] ?_;intro bC;apply J [38,111,61,0];apply au (Is b o d u);apply J [5,66];exact dn
theorem It(x:Nat)(D:x<2^64):bK 203 [bn x] be [] (λy:iJ×Bool=>.tuple #[.agg #[aa y.1.b,aa y.1.o,aa y.1.r,aa y.1.f,.bool y.1.g],.bool y.2]) (λy=>qg y.1/\(y.2=true->lD y.1)) (λ_=>[]):=by
 apply aH Tryz.func203 Tryz.ntmps203;intro F _;apply J [8];obtain⟨cI,Q⟩:=eO (x&&&255);obtain⟨E,d2⟩:=eO (x/256);obtain⟨d,V⟩:=eO (E&&&15);obtain⟨H,d3⟩:=eO (x/4096);obtain⟨u,W⟩:=eO (H&&&15);obtain⟨N,d4⟩:=eO (x/65536);obtain⟨C,Z⟩:=eO (N&&&1);obtain⟨O,d5⟩:=eO (x/16777216);obtain⟨w,ah⟩:=eO (O&&&255);have an:cI<=255:=by grind[WX]
 have aq:d<=15:=by grind[WX]
 have ar:u<=15:=by grind[WX]
 have av:w<=255:=by grind[WX]
 have f2:E<=x:=U
 have f3:H<=x:=U
 have f4:N<=x:=U
 have f5:O<=x:=U
 refine J [26,376] ?_;intro ch;apply J [38,25];refine q rfl rfl (k2 (a:=x) (b:=255) (c:=cI) rfl rfl U am Q) ?_;refine J [307,3] ?_;refine q rfl rfl (jP (a:=x) (n:=8) (c:=E) rfl rfl D d2) ?_;refine q rfl rfl (k2 (a:=E) (b:=15) (c:=d) rfl rfl U am V) ?_;refine J [307,3] ?_;refine q rfl rfl (jP (a:=x) (n:=12) (c:=H) rfl rfl D d3) ?_;refine q rfl rfl (k2 (a:=H) (b:=15) (c:=u) rfl rfl U am W) ?_;refine J [307,3] ?_;refine q rfl rfl (jP (a:=x) (n:=16) (c:=N) rfl rfl D d4) ?_;refine q rfl rfl (k2 (a:=N) (b:=1) (c:=C) rfl rfl U am Z) ?_;apply J [290,3];refine q rfl rfl (jP (a:=x) (n:=24) (c:=O) rfl rfl D d5) ?_;refine q rfl rfl (k2 (a:=O) (b:=255) (c:=w) rfl rfl U am ah) ?_;refine J [307] ?_;refine q rfl rfl (ek (cs:=[aa cI,aa d,aa u,aa w,.bool (decide ((C:Int)=1))]) a1) ?_;refine J [0,376] ?_;intro au;apply J [23,309,29,24,395,0];apply bb (x3 cI d u w (decide ((C:Int)=1)) U U U U);intro aQ aL;apply J [7];by_cases P:lD ⟨cI,d,u,w,decide ((C:Int)=1)⟩;rw[da P];apply J [286,184,59,90,18,12,12,218,109];apply Vh rfl<;>intro aB;apply J [24,620,23,309,38,76];exact I5;apply J [4,24,395,23,309,66];exact b7.i (⟨cI,d,u,w,decide ((C:Int)=1)⟩,true) [_,_] ⟨(fa (n:=5) rfl rfl rfl rfl),rfl,trivial⟩ rfl ⟨⟨by dsimp only;omega,by dsimp only;omega,by dsimp only;omega,by dsimp only;omega⟩,λ_=>P⟩ ai;rw[du P];apply J [286,184,59,90,18,52,139,620,23,309,38,76];exact I5
end Go.Proofs.Q
