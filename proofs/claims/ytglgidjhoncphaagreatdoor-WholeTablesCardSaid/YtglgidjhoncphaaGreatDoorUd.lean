/- Proved here: contracts, each under its own premises. -/
import Derived.Shelf.Sort.Plain
import Derived.Shelf.Slices.In.SortNone
import Derived.Test.YtglgidjhoncphaaGreatDoorUc
set_option linter.all false
set_option maxRecDepth 4000
set_option maxHeartbeats 4000000
open List renaming getElem?_eq_getElem->Vb,mem_append->Vd,mem_of_getElem?->Vg,getElem?_eq_some_iff->Vl,not_mem_nil->Vm,mem_map->Vn,mem_cons->Vp,take_add_one->Vs,nodup_cons->Vu,flatMap_cons->Vw,replicate->Vx,toArray->Vy,append_assoc->VC,nodup_append->VH,mem_flatMap->V5,getElem?_of_mem->V9,getElem?_set_ne->Wj,perm_append_singleton->Wk,map_congr_left->Wm,pairwise_iff_getElem->Wy,getElem?_append_left->Wz,eq_nil_of_length_eq_zero->Xg,getElem?_eq_none->Xm,range'->Yn,length_append->mp,mem_singleton->Vc,length_singleton->Vk,mem_filter->Vv,length_cons->VB,nil_append->VE,filter_eq_self->VI,map_cons->VM,cons_append->VU,getElem?_set_self->VX,nodup_nil->VZ,append_nil->V4,map_append->We,length_map->Wf,length_take->Wo,filter_cons_of_neg->Ws,filter_sublist->WD,find?_eq_none->WL,drop_drop->WP,length_nil->WY,filter_filter->W0,filter_append->W6,map_nil->W7,filter_eq_nil_iff->Xc,pairwise_map->Xe,find?_cons->XQ,mem_zipIdx_iff_getElem?->Yj,mem_of_find?_eq_some->YB,append_eq_append_iff->YC,Nodup->YO
open Decidable renaming of_not_not->Vf,not_not->Vr,by_contra->Wd
open Nat renaming zero_le->Vh,pow_le_pow_right->Vi,le_refl->Vj,le_of_ble_eq_true->Vq,mul_le_mul_right->VQ,add_mul->V7,zero_add->WA,le_trans->WB
open Go.Value renaming slice->VO,int->Wn,pointer->Yh
open Go.Proofs.Tryz renaming prog->VT
open List.Pairwise renaming nil->Xq
open List.Perm renaming refl->Xz
open Int renaming toNat_of_nonneg->V6
open List.cons renaming inj->Xk
open Ne renaming symm->Xu
open Go.QM.ab renaming aB->Ve,loop->VK,bf->WE
open Go.QM.aW renaming known->VD
open Go.QM.aG renaming refl->VJ
open Go.QM.bG renaming to->Wp
namespace Go.QM
open Go Go.Sort Go.Shelf Go.Proofs
def fM(xs:List Int):List Int:=xs.mergeSort λx y=>decide (x<=y)
variable(xs:List Int)
theorem tj:(fM xs).Perm xs:=List.mergeSort_perm _ _
theorem r5:(fM xs).length=xs.length:=(tj xs).length_eq
theorem HL:(fM xs).Pairwise λx y=>x<=y:=by have:=List.pairwise_mergeSort (le:=λx y:Int=>decide (x<=y)) (λa b c d u=>by simp at d u⊢;omega) (λa b=>by simp;omega) xs;exact this.imp λh=>by simpa using h
theorem Se{w:World}{A:aw}(h:sat w A)(os:Array Obj):sat (grow w os) A:=by
 obtain⟨x,C,d⟩:=h;refine⟨x,λi o u=>?_,d⟩;have:=C i o u;have D:i<w.heap.size:=cv
 show(w.heap++os)[i]? =some o;grind
theorem Ra(pre u:List Value)(xs d:List Int)(h:d.length=xs.length):putCells (Wn .i64) pre.length d.toArray (pre++ints xs++u).toArray=(pre++ints d++u).toArray:=by have w:=d7 xs;have C:=d7 d;apply Array.ext;all_goals grind[putCells,ints]
theorem SV{P:Program}{D:Ren}(H:Lays.n189 P D)(he:lR P (D.f 189)=true)(E:Nat)(ad:Option Addr)(cap:Nat)(xs:List Int)(bk:xs.length<=1000000):
    eD P (D.f 189) [.slice ad xs.length cap] bg [a6 E 1 ad xs.length cap (ints xs)] (λ_:Unit=>.tuple #[]) (λ_=>True) (λ_=>[a6 E 1 ad xs.length cap (ints (fM xs))]):=by refine⟨he,λF _ w C=>?_⟩;by_cases Q:xs=[];subst Q;refine(callsIn_wide.2 (Any.slices_Sort_int_none H ad cap w)).mono ?_;rintro e V ⟨rfl,rfl⟩;exact⟨(),rfl,trivial,fp.refl V,by have Z:fM []=[]:=Xg (r5 []);dsimp only;rw[Z];exact C⟩;cases ad with|none=>exfalso;obtain⟨h,_,a,b,_,rfl,aI,_⟩:=C;obtain⟨c,d,_,rfl,aJ,_⟩:=aI;have:=aJ.1.1;exact Q (Xg this)|some p=>obtain⟨bh,bd,bl,a4,d1,rfl,ah,aq⟩:=C;obtain⟨a3,a5,d2,rfl,ar,av⟩:=ah;obtain⟨⟨pre,u⟩,⟨g1,g2,g3,g4,g5⟩,aw⟩:=ar;have a9:sat w (sep (sep (aj p.block E (pre++ints xs++u)) kD) F):=⟨_,bd,_,a4,d1,rfl,⟨a3,a5,d2,rfl,aw,av⟩,aq⟩;have O:sat w (sep (obj p.block (.cells (pre++ints xs++u).toArray E (0,0))) (sep kD F)):=a9.bf oq;have am:w.heap[p.block]? =some (.cells (pre++ints xs++u).toArray E (0,0)):=(hA (iq _ _)).sat O;have a1:p.block<w.heap.size:=(Array.getElem?_eq_some_iff.1 am).1;have bi:=d7 xs;have aD:Holds (Wn .i64) w p.block pre.length xs.toArray:=λj N=>(by(have a0:j<xs.length:=by simpa using N);refine⟨?_,by simp[World.frozen?,am]⟩;have aB:(pre++ints xs++u)[pre.length+j]? =some (aa xs[j]):=(by rw[VC,List.getElem?_append_right U,Nat.add_sub_cancel_left,Wz U,ints,List.getElem?_map,Vb a0];rfl);rw[getElem!_pos xs.toArray j N,List.getElem_toArray];simp[World.cell?,am];simpa using aB);have W:(some p:Option Addr)=some ⟨p.block,pre.length,none⟩:=congrArg some g1;rw[W];refine(callsIn_wide.2 (Any.slices_Sort_int H p.block pre.length cap xs w aD a1 U)).mono ?_;rintro e V ⟨rfl,n,os,rfl⟩;refine⟨(),rfl,trivial,⟨rfl,rfl,rfl,?_⟩,Se ?_ os⟩;simp[grow];have au:(putRow (Wn .i64) (Go.Sort.ahead w n) p.block pre.length (fM xs).toArray).heap[p.block]? =some (.cells (pre++ints (fM xs)++u).toArray E (0,0)):=(by show(w.heap.modify p.block (onCells _))[p.block]? =_;rw[Array.getElem?_modify,az rfl,am];simp only[Option.map_some,onCells];rw[Ra pre u xs (fM xs) (r5 xs)]);have ba:=u5 O au (λi aT=>by show(w.heap.modify p.block (onCells _))[i]? =_;rw[Array.getElem?_modify,al (Ne.symm aT)]);have bb:sat _ (sep (sep (aj p.block E (pre++ints (fM xs)++u)) kD) F):=ba.bf mH;refine bb.bf (dv (dv ?_ (VJ _)) (VJ _));exact ia λh a2=>⟨(pre,u),⟨rfl,by rw[d7,r5];omega,g3,g4,by rw[d7,r5];omega⟩,a2⟩
end Go.QM
namespace Go.Proofs.Q.aD
open Go Go.QM
theorem Rj(b aH jA:Nat)(lim:Int)(h:0<=lim/\lim<=1073741824)(F:aw):aG (ag [aj b 187 [.map (some aH),aa 1],bP QM.encI aH (fo (λ_=>none) 0 (ae jA)) 1,aj jA 194 [aa lim,aa 0,aa 0,aa (-1),aa 0],F]) (ag [eC b [⟨0,-1,lim,0⟩] 1,F]):=by have d:kk (aR (λ_=>0) 0 jA) [⟨0,-1,lim,0⟩]=fo (λ_=>none) 0 (ae jA):=(by have:=Ef (λ_=>0) [] ⟨0,-1,lim,0⟩ jA;trivial);have u:kS (aR (λ_=>0) 0 jA) [⟨0,-1,lim,0⟩] ⟨0,-1,lim,0⟩=aj jA 194 [aa lim,aa 0,aa 0,aa (-1),aa 0]:=(by trivial);refine(ni (f:=kS (aR (λ_=>0) 0 jA) [⟨0,-1,lim,0⟩]) _).trans ?_;refine aA (⟨aR (λ_=>0) 0 jA,aH⟩:oG) (eU.start h) ?_;exact bU 1 rfl (b9 1 rfl (by dsimp only;rw[d];rfl) (cX 1 0 ⟨0,-1,lim,0⟩ rfl rfl u.symm (λ_ _=>rfl) (Xz _) (ao (a7 _))))
theorem G8(lim:Int)(h:0<=lim/\lim<=1073741824):bK 175 [aa lim] bg [] (λb:Nat=>ae b) (λ_=>True) (λb=>[eC b [⟨0,-1,lim,0⟩] 1]):=by apply aI Tryz.func175 Tryz.ntmps175;intro F _;refine J [10,130,180,392,168,97] ?_;refine Ve rfl (λd=>absurd d U) (λd=>?_);refine J [4,25,328] ?_;intro be;refine J [2,248,478,0,526] ?_;intro bA;refine et ?_;refine N3 3 185 rfl (dP.int rfl) rfl rfl rfl ?_;refine q rfl rfl (fC (v:=.map _) rfl) ?_;refine q rfl rfl (ei (cs:=[.map _,.int _ _]) rfl) ?_;refine e rfl ?_;refine fe (v:=.agg #[_,_]) (l:=[.map _,.int _ _]) rfl rfl ?_;intro cj;apply J [109];exact bv cj trivial (Rj cj be bA lim h F)
theorem Rk(lim:Int)(h:¬(0<=lim/\lim<=1073741824)):bz 175 [aa lim] bg [] (.pointer none) []:=by apply aI Tryz.func175 Tryz.ntmps175;intro F _;apply J [10,130,180];refine aW.split 5 rfl (λd=>?_) (λd=>?_);have d:=dp d;apply J [102,136,276];exact dy;have d:=eb d;apply J [168,97];refine Ve rfl (λu=>?_) (λu=>absurd U u);apply J [170,50];exact dy
theorem Rf(b:Nat)(L:List b1)(d:Int)(pr lim:Int)(a4:d<=1000000):bz 187 [ae b,aa pr,aa lim] bg [eC b L d] (.tuple #[aa (fT L d pr lim).2.2.1,aa (fT L d pr lim).2.2.2]) [eC b (fT L d pr lim).1 (fT L d pr lim).2.1]:=by
 apply aI Tryz.func187 Tryz.ntmps187;intro F _;apply J [1];refine ab.open 0 rfl (λaT aJ=>?_);obtain⟨A,aH⟩:=aT;have ax:=aJ;apply J [61];dsimp only at ax⊢;by_cases h:df L pr;·obtain⟨t,D,rfl⟩:=h;(have h:df L t.id:=by grind[df]);obtain⟨Z,ah,a0,a1⟩:=iB ax.bC D;have am:=ax.tQ D;have a5:=ax.rg t D;obtain⟨M,bN⟩:=fE D;haveI:=xY (A:=A) D;apply J [220,33];apply aq (xD b aH L.length d A L t.id h);apply J [18,82,49,26,408,36];apply Ve rfl<;>intro E;(have hv:fT L d t.id lim=(L,d,0,1):=by rw[fT,al (λw=>w h),az E]);rw[hv];dsimp only;apply J [182];exact Cm;apply J [45,27];apply eJ (G7 (A t.id) t.lim t.fU (ft L t.id) t.par (gT L t.id) U U lim U) gb.rd;apply J [18,394,36];apply Ve rfl<;>intro C;(have hv:fT L d t.id lim=(L,d,0,5):=by rw[fT,al (λw=>w h),al E,az (by rw[Z,ah];exact C)]);rw[hv];dsimp only;apply J [182];exact Cm;(have w:lim<=t.lim-(t.fU+ft L t.id):=by omega);(have C:¬¬lim<=nD L t.id-nc L t.id:=by omega);apply J [41];refine q rfl rfl (Py 3 185 rfl rfl) ?_;apply J [205];apply Ve rfl<;>intro a2;(have hv:fT L d t.id lim=(L,d,0,11):=by rw[fT,al (λw=>w h),al E,al C,az U]);rw[hv];dsimp only;apply J [182];exact Cm;(have Q:L.length≠32:=by omega);(have hv:fT L d t.id lim=(L++[(⟨d,t.id,lim,0⟩:b1)],d+1,d,0):=by rw[fT,al (λw=>w h),al E,al C,al Q]);rw[hv];dsimp only;have au:eU (L++[(⟨d,t.id,lim,0⟩:b1)]) (d+1):=ax.add h U (Vr.1 C) Q;(have eP:¬df L d:=λ⟨u,hu,e⟩=>by have:=ax.rg u hu;omega);have aw:=Eg (A:=A) eP;(have aD:(L++[(⟨d,t.id,lim,0⟩:b1)]).length=L.length+1:=by simp_all);(have H:∀x,ft (L++[(⟨d,t.id,lim,0⟩:b1)]) x=ft L x+(if t.id=x then lim else 0):=λx=>by rw[uk,rH]);(have N:∀x,gT (L++[(⟨d,t.id,lim,0⟩:b1)]) x=gT L x+(if t.id=x then 1 else 0):=λx=>by rw[wV,wW]);have W:=Ew (L:=L) (x:=d) (λu hu=>by have:=ax.GN hu;omega);(have O:t.id≠d:=by omega);refine J [331,23,87,28,87,149,269,287,41,125,248,2,478,0,526] ?_;intro P;refine et ?_;refine lY 3 185 rfl (dP.int rfl) rfl rfl rfl ?_;refine J [3,45,75,2,149,55,59,290,287,128,218,149,55,410,287,26,95] ?_;have ar:(t::(⟨d,t.id,lim,0⟩:b1)::M).Perm (L++[(⟨d,t.id,lim,0⟩:b1)]):=(List.Perm.swap _ _ _).trans ((bN.symm.cons _).trans (Wk _ _).symm);have av:∀u∈M,kS A L u=kS (aR A d P) (L++[(⟨d,t.id,lim,0⟩:b1)]) u:=λu hu=>(by have a3:=ax.rg u (bN.mem_iff.2 (by simp[hu]));have V:t.id≠u.id:=λe=>(Vu.1 (ax.bC.perm bN.symm)).1 (Vn.2 ⟨u,hu,e.symm⟩);dsimp only[kS];rw[bS U,H,N,al V,al V,Int.add_zero,Int.add_zero]);exact hU (aA (⟨aR A d P,aH⟩:oG) au (cZ (b9 1 rfl (by dsimp only;rw[Ef (t:=(⟨d,t.id,lim,0⟩:b1)),aw,aD];rfl) (ud 0 0 0 t (⟨d,t.id,lim,0⟩:b1) rfl rfl rfl (by dsimp only[kS];rw[bS O,H,N,az rfl,az rfl];rfl) (by dsimp only[kS];rw[cp,H,N,al O,al O,W.1,W.2];rfl) av ar (ao (a7 _))))))
 have hv:fT L d pr lim=(L,d,0,6):=az h;rw[hv];dsimp only;apply J [220,33];apply aq (xC b aH L.length d A L pr h);apply J [18,82,14,26,119];exact hU (aA ⟨A,aH⟩ ax (ao (ao (ao (ao (a7 _))))))
theorem Rg(b:Nat)(L:List b1)(E:Int)(id:Int):bz 222 [ae b,aa id] bg [eC b L E] (aa (iH L id).2) [eC b (iH L id).1 E]:=by
 apply aI Tryz.func222 Tryz.ntmps222;intro F _;apply J [1];refine ab.open 0 rfl (λa3 a2=>?_);obtain⟨A,aH⟩:=a3;have ax:=a2;apply J [61];dsimp only at ax⊢;by_cases h:df L id;obtain⟨t,w,rfl⟩:=h;have h:df L t.id:=by grind[df]
 obtain⟨V,H,a4,a5⟩:=iB ax.bC w;have am:=ax.tQ w;have bk:=ax.rg t w;haveI:=xY (A:=A) w;apply J [96];apply aq (xD b aH L.length E A L t.id h);apply J [18,82,49,26,205];apply Ve rfl<;>intro C;have hv:iH L t.id=(L,1):=by rw[iH,al (λd=>d h),az C]
 rw[hv];dsimp only;apply J [108];exact si;apply J [45,0];apply eJ (G9 (A t.id) t.lim t.fU (ft L t.id) t.par (gT L t.id) U U) gb.rd;apply J [18,161,20];refine aW.split 27 rfl (λD=>?_) (λD=>?_);have D:=dp D;apply J [105,169,14];have hv:iH L t.id=(L,12):=by rw[iH,al (λd=>d h),al C,az (.inl (by rw[V];exact D))]
 rw[hv];dsimp only;apply J [108];exact si;have D:=eb D;apply J [138,479,165,159,211];apply Ve rfl<;>intro d;have hv:iH L t.id=(L,12):=by rw[iH,al (λd=>d h),al C,az (.inr d)]
 rw[hv];dsimp only;apply J [108];exact si;have ar:t.fU+ft L t.id=0:=U
 have hv:iH L t.id=(kM L t.id,0):=by rw[iH,al (λd=>d h),al C,al (λau=>au.elim (λO=>O (by rw[V];exact ar)) (λO=>d O))]
 rw[hv];dsimp only;have P:eU (kM L t.id) E:=ax.off w C d;obtain⟨⟨pp,a1,N⟩,bh⟩:=ax.par t w C;have bi:df L t.par:=by grind[df]
 have bb:=ax.tQ a1;obtain⟨Q,W⟩:=fE w;have ef:pp∈Q:=cv;obtain⟨M,bN⟩:=fE ef;have aw:(kM L t.id).Perm Q:=xn ax.bC W;have Z:pp::M|>.Perm (kM L t.id):=(aw.trans bN).symm;have a0:=Qv ax.bC w;have ah:=λx=>Gy ax.bC w x;have bd:t.lim<=ft L pp.id/\1<=gT L pp.id:=(by have ba:=wH P pp.id;have bO:=(Fm (kM L t.id) pp.id).1;simp_all);have aT:kk A L t.par=some (.pointer (some ⟨A pp.id,0,none⟩)):=by grind[zC]
 have aJ:=zC (A:=A) h;apply J [210,518,72,279];refine bZ rfl rfl rfl (ko 3 185 rfl rfl (dP.int rfl) rfl rfl) ?_;rw[aT];apply J [480,52,7];refine WE (fV 2 rfl W) ?_;apply J [527];refine ab.draw _ [14] [0,1,2,3,4,5,6,7,8,9,10,11,12,13,-14] aV aV (VJ _) ?_;refine J [349,131,172,440,66,63,364,67,513,52,128,218,245,55,410,287,41,2,19] ?_;refine lO 3 185 rfl (dP.int rfl) rfl rfl rfl ?_;apply J [123];have aD:∀u∈M,kS A L u=kS A (kM L t.id) u:=λu hu=>(by have a9:t.par≠u.id:=λH=>(by rw[<-N]at H;have av:=P.bC.perm Z;exact(Vu.1 av).1 (Vn.2 ⟨u,hu,H.symm⟩));grind);exact fc (aA (⟨A,aH⟩:oG) P (eT (b9 0 rfl (by dsimp only;rw[Ms,aJ,<-a0];rfl) (cX 0 0 pp rfl rfl (by dsimp only[kS];rw[(ah pp.id).1,(ah pp.id).2,az N.symm,az N.symm];rfl) aD Z (bX (a7 _))))));have hv:iH L id=(L,6):=az h;rw[hv];dsimp only;apply J [96];apply aq (xC b aH L.length E A L id h);apply J [18,82,14,215];exact Cl
end Go.Proofs.Q.aD
namespace Go.Proofs.Q
open Go Go.QM
def cf(c:Nat):Nat:=[0,64,128,256,32,32,48,256].getD c 0
def cls:List Nat:=Yn 1 7
variable{c:Nat}
theorem wb:c∈cls↔1<=c/\c<=7:=by rw[cls,List.mem_range'_1];omega
theorem nk(h:c∈cls):c<8:=by have:=wb.1 h;omega
theorem tW(h:c∈cls):c=1\/c=2\/c=3\/c=4\/c=5\/c=6\/c=7:=by rw[wb]at h;omega
theorem oM(h:c∈cls):((16<=cf c/\cf c<=512)/\cf c %16=0)/\cf c≠0:=by rcases tW h with rfl|rfl|rfl|rfl|rfl|rfl|rfl<;>decide
theorem Dx(h:c∈cls):3<=960/cf c:=by rcases tW h with rfl|rfl|rfl|rfl|rfl|rfl|rfl<;>decide
theorem DE(h:c<8):qA[0+((c:Nat):Int).toNat*1]? =some (aa (cf c:Int)):=by
 have:c=0\/c=1\/c=2\/c=3\/c=4\/c=5\/c=6\/c=7:=U
 rcases this with rfl|rfl|rfl|rfl|rfl|rfl|rfl|rfl<;>rfl
theorem Ly(h:c<8):qA[((c:Nat):Int).toNat*1]? =some (aa (cf c:Int)):=by have:=DE h;rwa[WA]at this
structure cD where
  Q:List aD.b1
  bF:Int
  C:Nat->List cc
  Fr:List Nat
  m:Nat->Nat
def addr(c:Nat)(y:Nat×Nat×List cc):Nat:=y.1*1024+64+y.2.1*cf c
def dK{α:Type}(f:Nat->α)(c:Nat)(v:α):Nat->α:=λx=>if x=c then v else f x
theorem jI{α:Type}(f:Nat->α)(c:Nat)(v:α):dK f c v c=v:=az rfl
theorem jj{α:Type}(f:Nat->α){x:Nat}(v:α)(h:x≠c):dK f c v x=f x:=al h
def hP(C:Nat->List cc)(c:Nat):List Nat:=(C c).map (·.aC)
def dr(C:Nat->List cc)(Fr:List Nat):List Nat:=cls.flatMap (hP C)++Fr
theorem zH{C:Nat->List cc}{c:Nat}{L':List cc}{add:List Nat}(h:(L'.map (·.aC)).Perm (add++hP C c)):∀{l:List Nat},l.Nodup->c∈l->(l.flatMap (hP (dK C c L'))).Perm (add++l.flatMap (hP C))
 | [],_,d=>by cases d
 | x::l,au,d=>by
  obtain⟨u,w⟩:=Vu.1 au
  rw[Vw,Vw]
  by_cases e:x=c
  ·subst e
   have D:l.flatMap (hP (dK C x L'))=l.flatMap (hP C):=by
    have:∀y∈l,hP (dK C x L') y=hP C y:=λy E=>by rw[hP,hP,jj _ _ (λe:y=x=>u (e▸E))]
    rw[List.flatMap_def,List.flatMap_def,Wm this]
   rw[D,hP,jI,<-VC]
   exact h.append_right _
  have hm:c∈l:=by
   rcases Vp.1 d with d|d
   ·exact absurd d.symm e
   exact d
  rw[show hP (dK C c L') x=hP C x by rw[hP,hP,jj _ _ e]]
  refine(List.Perm.append_left _ (zH h w hm)).trans ?_
  rw[<-VC,<-VC]
  exact List.Perm.append_right _ List.perm_append_comm
theorem wc:cls.Nodup:=by decide
theorem GU{C:Nat->List cc}{Fr:List Nat}{aC:Nat}{L':List cc}(d:c∈cls)(h:(L'.map (·.aC)).Perm (aC::hP C c)):(dr (dK C c L') Fr).Perm (aC::dr C Fr):=by have:=zH (add:=[aC]) h wc d;exact this.append_right Fr
theorem GW{C:Nat->List cc}{Fr:List Nat}{L':List cc}(d:c∈cls)(h:L'.map (·.aC)=hP C c):(dr (dK C c L') Fr).Perm (dr C Fr):=by have:=zH (C:=C) (add:=[]) (L':=L') (by rw[h];exact Xz _) wc d;exact this.append_right Fr
theorem xw{C:Nat->List cc}{Fr:List Nat}{p:Nat}:p∈dr C Fr↔(∃c∈cls,∃q∈C c,q.aC=p)\/p∈Fr:=by grind[dr,hP]
structure dh(top:Nat)(S:cD):Prop where
  fZ:6<=top/\top<=7
  ok:∀c∈cls,md (cf c) (S.C c)
  bC:(dr S.C S.Fr).Nodup
  lt:∀p∈dr S.C S.Fr,p<2^top
def iz(j t bd ar:Nat)(v6:Nat->Nat):List Value:=[ae t,ae bd,ae ar]++(List.range 8).map (λc=>if 1<=c/\c<j then .pointer (some ⟨(v6 c),0,none⟩)else .pointer none)
theorem ta(j t bd ar:Nat)(d:Nat->Nat):(iz j t bd ar d).length=11:=by simp[iz]
theorem xx{t bd ar:Nat}(d:Nat->Nat)(h:c∈cls):(iz 8 t bd ar d)[0+3+((c:Nat):Int).toNat*1]? =some (.pointer (some ⟨(d c),0,none⟩)):=by rcases tW h with rfl|rfl|rfl|rfl|rfl|rfl|rfl<;>rfl
theorem GX{j t bd ar i:Nat}(d:Nat->Nat)(h:i<8):(iz j t bd ar d)[3+i]? =some (if 1<=i/\i<j then .pointer (some ⟨(d i),0,none⟩)else .pointer none):=by grind[iz]
theorem Q1{j t bd ar x:Nat}(d:Nat->Nat)(h:j<8)(D:1<=j):dN (0+3+((j:Nat):Int).toNat*1) [ae x] (iz j t bd ar d)=iz (j+1) t bd ar (dK d j x):=by have e:dN (0+3+((j:Nat):Int).toNat*1) [ae x] (iz j t bd ar d)=(iz j t bd ar d).set (3+j) (ae x):=(by rw[List.set_eq_take_append_cons_drop,az (by rw[ta];omega),Int.toNat_natCast,Nat.mul_one,WA];grind[dN]);rw[e];apply List.ext_getElem?;intro i;rw[List.getElem?_set,ta];by_cases w:i<3;rw[al U,iz,iz,Wz (by simpa using w),Wz (by simpa using w)];obtain⟨i,rfl⟩:∃k,i=3+k:=⟨i-3,by omega⟩;by_cases C:i<8;rw[GX _ C,GX _ C];by_cases u:i=j;subst u;rw[az rfl,az U,az U,jI];rw[al U,jj _ _ u];grind;rw[al U,Xm (by rw[ta];omega),Xm (by rw[ta];omega)]
class dL where
  f:Nat->Nat
  t:Nat->Nat
class fa where
  aK:Nat
structure dR[dL](b:Nat) where
  t:Nat
  bd:Nat
  ar:{a:Nat//a=dL.f b}
  v6:Nat->Nat
  U6:t=dL.t b:=by first|assumption|rfl
def dU[dL](b top:Nat)(S:cD):aw:=eQ λy:dR b=>pure' (dh top S) (ag [aj b 169 (iz 8 y.t y.bd y.ar y.v6),aD.eC y.t S.Q S.bF,lj y.bd top (dr S.C S.Fr),gB y.ar S.m (1024*2^top),b8 (λc=>j7 (y.v6 c) y.bd (cf c) (S.C c)) cls])
theorem wd(h:c∈cls):∃L,cls.Perm (c::L)/\∀x∈L,x≠c:=by obtain⟨L,d⟩:=fE h;grind[wc]
def dq(lim:Int):cD:=⟨[⟨0,-1,lim,0⟩],1,λ_=>[],[],λ_=>0⟩
theorem GV(C:Nat->List cc)(h:∀c,C c=[]):dr C []=[]:=by
 have:hP C=λ_=>[]:=by grind[hP]
 rw[dr,this];rfl
variable{top:Nat}
theorem dh.zero(lim:Int)(h:6<=top/\top<=7):dh top (dq lim):=
 ⟨h,λc d=>⟨(oM d).1.1,⟨Xq,λ_ h=>(by cases h)⟩,λ_ h=>(by cases h)⟩,by rw[dq,GV _ λ_=>rfl];exact List.nodup_nil,by rw[dq,GV _ λ_=>rfl];exact λ_ h=>(by cases h)⟩
structure i5(top:Nat)(S:cD)(c:Nat)(y:Nat×Nat×List cc):Prop where
  m2:lB (960/cf c) (S.C c) y.2.2 y.1 y.2.1
  i:y.2.1<960/cf c
  lt:y.1<2^top
  inv:∀Q bF m,dh top ⟨Q,bF,dK S.C c y.2.2,S.Fr,m⟩
  new:(∀q∈S.C c,q.aC≠y.1)->y.1∉dr S.C S.Fr
  len:(dr (dK S.C c y.2.2) S.Fr).length<=(dr S.C S.Fr).length+1
theorem dh.m2{S:cD}(h:dh top S)(w:c∈cls){y:Nat×Nat×List cc×Bool}(D:yI (cf c) top (dr S.C S.Fr) (S.C c) y):i5 top S c (y.1,y.2.1,y.2.2.1)/\(dr (dK S.C c y.2.2.1) S.Fr).Perm (if y.2.2.2=true then y.1::dr S.C S.Fr else dr S.C S.Fr):=by
 have N:=h.ok c w;have Z:0<960/cf c:=by have:=Dx w;omega
 have ah:2^top<=128:=Vi (n:=2) an h.fZ.2;have key:(dr (dK S.C c y.2.2.1) S.Fr).Perm (if y.2.2.2=true then y.1::dr S.C S.Fr else dr S.C S.Fr)/\y.1<2^top/\(y.2.2.2=true->y.1∉dr S.C S.Fr)/\(y.2.2.2≠true->y.1∈hP S.C c):=(by have u:=D.aC;by_cases e:y.2.2.2=true;rw[az e]at u⊢;exact⟨GU w u.1,u.2.2,λ_=>u.2.1,λh=>absurd e h⟩;rw[al e]at u⊢;refine⟨GW w u.1,?_,λh=>absurd h e,λ_=>u.2⟩;obtain⟨q,H,E⟩:=Vn.1 u.2;exact h.lt _ (xw.2 (.inl ⟨c,w,q,H,E⟩)));obtain⟨bM,P,V,W⟩:=key;refine⟨⟨D.m2,D.i,P,λQ aq m=>?_,λau hm=>?_,by rw[bM.length_eq];split<;>simp⟩,bM⟩;refine⟨h.fZ,λd O=>?_,bM.nodup_iff.2 ?_,λp u=>?_⟩;dsimp only;by_cases e:d=c;subst e;rw[jI];exact N.m2 D.m2 U;rw[jj _ _ e];exact h.ok d O;split;rename_i e;exact Vu.2 ⟨V e,h.bC⟩;exact h.bC;have:=bM.mem_iff.1 u;split at this;rcases Vp.1 this with rfl|this;trivial;exact h.lt _ this;exact h.lt _ this;by_cases e:y.2.2.2=true;simp_all;obtain⟨q,H,E⟩:=Vn.1 (W e);simp_all
structure jY(top:Nat)(S:cD)(c aC i:Nat)(L':List cc):Prop where
  nv:mQ (960/cf c) (S.C c) L' aC i
  inv:∀Q bF m,dh top ⟨Q,bF,dK S.C c L',S.Fr,m⟩
  len:(dr (dK S.C c L') S.Fr).length<=(dr S.C S.Fr).length
theorem dh.nv{S:cD}(h:dh top S){aC i:Nat}(w:c∈cls){y:List cc×Bool}(D:CD (cf c) (S.C c) aC i y)(hm:aC∈dr S.C S.Fr):jY top S c aC i y.1/\(dr (dK S.C c y.1) S.Fr).Perm (if y.2=true then(dr S.C S.Fr).erase aC else dr S.C S.Fr):=by have E:=h.ok c w;have key:(dr (dK S.C c y.1) S.Fr).Perm (if y.2=true then(dr S.C S.Fr).erase aC else dr S.C S.Fr):=(by have u:=D.aC;by_cases e:y.2=true;rw[az e]at u⊢;have N:(dK (dK S.C c y.1) c (S.C c))=S.C:=funext λx=>(by grind[jI,jj]);have:=GU (C:=dK S.C c y.1) (Fr:=S.Fr) (L':=S.C c) w (by rw[hP,jI];exact u);grind;rw[al e]at u⊢;exact GW w u);have hlen:(dr (dK S.C c y.1) S.Fr).length<=(dr S.C S.Fr).length:=(by rw[key.length_eq];grind);refine⟨⟨D.nv,λQ O m=>⟨h.fZ,λd H=>?_,key.nodup_iff.2 ?_,λp u=>?_⟩,hlen⟩,key⟩;dsimp only;by_cases e:d=c;subst e;rw[jI];exact E.nv D.nv;rw[jj _ _ e];exact h.ok d H;split;exact h.bC.erase _;exact h.bC;have:=key.mem_iff.1 u;split at this;exact h.lt _ (List.mem_of_mem_erase this);exact h.lt _ this
theorem So(L:List aD.b1)(x c d:Int):aD.fR (aD.fR L x c) x d=aD.fR L x d:=by grind[aD.fR,Wm]
variable{x:Int}
theorem Sn{L:List aD.b1}(h:aD.iF L):aD.fR L x (aD.gp L x)=L:=by
 rw[aD.fR];conv=>rhs;rw[<-List.map_id L]
 apply Wm;intro t d;by_cases e:t.id=x;rw[az e,<-e,(aD.iB h d).2.2.1];rfl;simp_all
theorem BG{L:List aD.b1}(h:aD.iF L)(x c:Int):aD.iF (aD.fR L x c):=by rw[aD.iF,aD.xN];exact h
theorem y8{L:List aD.b1}(h:aD.iF L){y c:Int}(u:aD.df L y):aD.gp (aD.fR L x c) y=if y=x then c else aD.gp L y:=by obtain⟨t,d,rfl⟩:=u;have w:=(aD.iB h d).2.2.1;by_cases e:t.id=x;have hm:(⟨t.id,t.par,t.lim,c⟩:aD.b1)∈aD.fR L x c:=aD.tg.2 ⟨t,d,by rw[az e]⟩;have:=(aD.iB (BG h x c) hm).2.2.1;simp_all;have hm:t∈aD.fR L x c:=aD.tg.2 ⟨t,d,by rw[al e]⟩;have:=(aD.iB (BG h x c) hm).2.2.1;omega
theorem y7{L:List aD.b1}{n:Int}(h:(aD.dd L x n).2=0):aD.df L x/\0<=n/\n<=aD.nD L x-aD.nc L x/\(aD.dd L x n).1=aD.fR L x (aD.gp L x+n):=by unfold aD.dd at h⊢;grind
theorem Hd{L:List aD.b1}{n:Int}(d:aD.df L x)(u:0<=n)(w:n<=aD.gp L x):aD.eo L x n=(aD.fR L x (aD.gp L x-n),0):=by unfold aD.eo;simp_all
theorem tc{L:List aD.b1}{H:Int}(ax:aD.eU L H){n:Int}(E:(aD.dd L x n).2=0):aD.eo (aD.dd L x n).1 x n=(L,0):=by
 obtain⟨d,w,O,C⟩:=y7 E;have N:0<=aD.gp L x:=(by obtain⟨t,u,rfl⟩:=d;rw[(aD.iB ax.bC u).2.2.1];exact(ax.rg t u).2.2.2.2.1);have D:aD.gp (aD.fR L x (aD.gp L x+n)) x=aD.gp L x+n:=by rw[y8 ax.bC d,az rfl]
 rw[C,Hd (aD.q3.2 d) w U,D,So,Int.add_sub_cancel,Sn ax.bC]
theorem Dq{Q:List aD.b1}{a n:Int}(h:(aD.dd Q a n).2≠0):(aD.dd Q a n).1=Q:=by unfold aD.dd at h⊢;grind
def pA(c:Nat):Option (Nat×Nat×List cc)->Int
  | some y=>(addr c y:Int)
  | none=>0
def CC(top:Nat)(S:cD)(a:Int)(c:Nat):Option (Nat×Nat×List cc)×Int->Prop
  | (some y,e)=>e=0/\(aD.dd S.Q a (cf c:Int)).2=0/\i5 top S c y
  | (none,e)=>e≠0/\(e=(aD.dd S.Q a (cf c:Int)).2\/e=4/\2^top<=(dr S.C S.Fr).length)
def kl(S:cD)(a:Int)(c:Nat):Option (Nat×Nat×List cc)->cD
  | some y=>⟨(aD.dd S.Q a (cf c:Int)).1,S.bF,dK S.C c y.2.2,S.Fr,hx S.m (addr c y) (cf c)⟩
  | none=>S
variable [dL]
theorem qY(c:Nat)(h:c<8):bz 81 [aa c] cW [] (aa (cf c:Int)) []:=by apply aI Tryz.func81 Tryz.ntmps81;intro F w;apply J [10];obtain⟨E,u,C⟩:=w.co;haveI:gb F 0 (.cells qA.toArray E u):=⟨C⟩;refine J [39,180,392,17,310,97] ?_;refine Ve rfl (λd=>absurd d U) (λd=>?_);apply J [4,26];refine q rfl rfl (lW 8 3 1 rfl rfl rfl U U) ?_;refine q rfl rfl (gL rfl rfl (DE h)) ?_;apply J [30];exact kc
theorem l5(b t bd ar:Nat)(d:Nat->Nat):bz 40 [ae b] bg [aj b 169 (iz 8 t bd ar d)] (ae ar) [aj b 169 (iz 8 t bd ar d)]:=by apply aI Tryz.func40 Tryz.ntmps40;intro F _;apply J [1,130,42,101,109];exact hT
theorem uV(b top:Nat)(S:cD)(a:Int)(c:Nat)(d:c∈cls):bK 128 [ae b,aa a,aa c] cW [dU b top S] (λy:Option (Nat×Nat×List cc)×Int=>.tuple #[aa (pA c y.1),aa y.2]) (λy=>CC top S a c y) (λy=>[dU b top (kl S a c y.1)]):=by
 apply aI Tryz.func128 Tryz.ntmps128;intro F ah;apply J [1];haveI:cl F:=⟨ah⟩;obtain⟨bk,bi⟩:=oM d;have bl:((cf c:Nat):Int)≠0:=U
 have bg:=nk d;refine ab.open 0 rfl (λO H=>?_);obtain⟨t,bd,w,u⟩:=O;have D:=H;apply J [152];dsimp only at D⊢;refine ab.open 1 rfl (λO H=>?_);obtain⟨a4,a5⟩:=O;have ax:=H;apply J [145];refine WE (B:=ag [aj b 169 (iz 8 t bd w u),aD.eC t S.Q S.bF,lj bd top (dr S.C S.Fr),gB w S.m (1024*2^top),b8 (λc=>j7 (u c) bd (cf c) (S.C c)) cls,F]) (cZ (aA (⟨a4,a5⟩:aD.oG) ax ai)) ?_;apply J [24,223,228,272];apply aq (qY c (nk d));apply J [12,155,97];refine Ve rfl (λP=>absurd P U) (λP=>?_);apply J [44,7];refine cJ [0,1,2,3,4,5,-6,-7,8] (ao (a7 _)) ?_;apply J [72,16,239];apply aq (qY c (nk d));refine J [260,47] ?_;apply aq (aD.G6 t S.Q S.bF a (cf c:Int));refine J [260,143,32] ?_;apply Ve rfl<;>intro E;apply J [190];have aJ:=Dq E;exact cT (none,(aD.dd S.Q a (cf c:Int)).2) ⟨E,.inl rfl⟩ (aA (dR.mk t bd w u:dR b) D (by rw[aJ];exact ai));have E:=Vf E;refine J [4,35,55,365,528] ?_;refine q rfl rfl (gL rfl rfl (xx u d)) ?_;obtain⟨bb,fX,av⟩:=wd d;have a0:=D.fZ;have bh:2^top<=128:=Vi (n:=2) an a0.2;apply J [481,0];apply ba (SO (u c) bd top (cf c) (S.C c) (dr S.C S.Fr) U (λa3 Z=>xw.2 (.inl ⟨c,d,a3,Z,rfl⟩)));intro a9 N;apply J [15];cases a9 with|none=>?_|some y=>?_
 have ar:2^top<=(dr S.C S.Fr).length:=N;dsimp only[Bn,qC,tS,tP];have aT:=tc ax E;apply J [124,32,14,7];refine cJ [0,1,2,3,4,5,-6,-7] (eT (a7 _)) ?_;apply J [72,16,239];apply aq (qY c (nk d));refine J [262,47] ?_;apply aq (aD.xE t (aD.dd S.Q a (cf c:Int)).1 S.bF a (cf c:Int));refine J [262,6] ?_;rw[aT];apply J [52,190];exact cT (none,4) ⟨by decide,.inr ⟨rfl,ar⟩⟩ (aA (dR.mk t bd w u:dR b) D (eT (ao (bX (bw (cX 0 0 c rfl rfl rfl (λ_ _=>rfl) fX.symm ai))))));have V:yI (cf c) top (dr S.C S.Fr) (S.C c) y:=N;dsimp only[Bn,qC,tS,tP];obtain⟨cK,ef⟩:=D.m2 d V;obtain⟨aC,i,W,a1⟩:=y;dsimp only at cK ef⊢;have aw:=(D.ok c d).place cK.i;have au:=cK.lt;dsimp only at aw au;clear V N;apply J [124,216,122];refine cJ [0,1,2,3,4,5,-6,-7] (eT (a7 _)) ?_;apply J [186,16,239];apply aq (qY c (nk d));refine J [262,47] ?_;apply aq (C7 w (1024*2^top) (aC*1024+64+i*cf c) (cf c) S.m U U U);refine J [262,113,26,95] ?_;exact cT (some (aC,i,W),0) ⟨rfl,E,cK⟩ (aA (dR.mk t bd w u:dR b) (cK.inv _ _ _) (eI (eT (eO 2 rfl (vT _ _ ef.symm) (ao (cX 0 0 c rfl rfl (by dsimp only[kl];rw[jI]) (λx a2=>by dsimp only[kl];rw[jj _ _ (av x a2)]) fX.symm ai))))))
theorem xz(b top:Nat)(S:cD)(c:Nat)(d:c∈cls)(k aC i:Nat)(f:Nat->Bool)(N:(S.C c)[k]? =some ⟨aC,f⟩)(H:f i=true):bz 34 [ae b,aa c,aa ((aC*1024+64+i*cf c:Nat):Int)] cW [dU b top S] (.bool true) [dU b top S]:=by apply aI Tryz.func34 Tryz.ntmps34;intro F E;apply J [1];haveI:cl F:=⟨E⟩;obtain⟨ah,Z⟩:=oM d;have V:=nk d;refine ab.open 0 rfl (λP O=>?_);obtain⟨t,bd,D,u⟩:=P;have w:=O;apply J [152];dsimp only at w⊢;apply J [132,340,20,272];apply aq (qY c (nk d));apply J [12,159,73];refine VD 14 rfl (c:=true) (c1 U) ?_;apply J [301,17,514,294];refine c9 rfl rfl rfl (lW 8 165 1 rfl rfl rfl U U) ?_;refine c9 rfl rfl rfl (gL rfl rfl (xx u d)) ?_;apply J [17];obtain⟨Q,fX,W⟩:=wd d;apply J [481,144];apply aq (SI (u c) bd (cf c) (S.C c) k aC i f N H);apply J [15,133];exact fc (aA (dR.mk t bd D u:dR b) w (bw (bw (bw (bw (cX 0 0 c rfl rfl rfl (λ_ _=>rfl) fX.symm ai))))))
theorem uW(b top:Nat)(S:cD)(c:Nat)(d:c∈cls)(k aC i:Nat)(f:Nat->Bool)(w:(S.C c)[k]? =some ⟨aC,f⟩)(N:f i=true)(a:Int)(aJ:(aD.eo S.Q a (cf c:Int)).2=0):bK 189 [ae b,aa a,aa c,aa ((aC*1024+64+i*cf c:Nat):Int)] cW [dU b top S] (λ_:List cc=>aa 0) (λL'=>jY top S c aC i L') (λL'=>[dU b top ⟨(aD.eo S.Q a (cf c:Int)).1,S.bF,dK S.C c L',S.Fr,S.m⟩]):=by apply aI Tryz.func189 Tryz.ntmps189;intro F V;apply J [1];haveI:cl F:=⟨V⟩;obtain⟨a0,aT⟩:=oM d;have aw:=nk d;have O:aC∈dr S.C S.Fr:=xw.2 (.inl ⟨c,d,_,Vg w,rfl⟩);apply J [39,51,228,272];apply aq (qY c (nk d));apply J [5,155,211];refine Ve rfl (λE=>absurd E U) (λE=>?_);apply J [35,27];apply aq (xz b top S c d k aC i f w N);apply J [5,234];refine ab.open 0 rfl (λau ah=>?_);obtain⟨t,bd,P,u⟩:=au;have D:=ah;apply J [152];dsimp only at D⊢;apply J [210,7];refine cJ [0,1,2,3,4,5,-6,-7,8] (ao (a7 _)) ?_;apply J [72,16,239];apply aq (qY c (nk d));refine J [260,47] ?_;apply aq (aD.xE t S.Q S.bF a (cf c:Int));refine J [260,143,32] ?_;refine Ve rfl (λH=>absurd H U) (λH=>?_);refine J [4,35,55,365,528] ?_;refine q rfl rfl (gL rfl rfl (xx u d)) ?_;apply J [2];obtain⟨av,fX,W⟩:=wd d;apply J [481,0];apply ba (SH (u c) bd (cf c) (S.C c) k aC i f w N top (dr S.C S.Fr) O);intro y ar;apply J [15];obtain⟨cK,ef⟩:=D.nv d ar O;apply J [30];exact bv y.1 cK (aA (dR.mk t bd P u:dR b) (cK.inv _ _ _) (eT (cZ (eO 1 rfl (vT _ _ ef.symm) (bw (cX 0 0 c rfl rfl (by dsimp only;rw[jI]) (λx Z=>by dsimp only;rw[jj _ _ (W x Z)]) fX.symm ai))))))
end Go.Proofs.Q
namespace Go.Proofs.Q
open Go Go.QM
theorem Q2(t bd ar:Nat)(d:Nat->Nat):dN (0+3+((0:Nat):Int).toNat*1) [Yh none] (iz 0 t bd ar d)=iz 1 t bd ar d:=rfl
theorem RN(j:Nat)(h:1<=j):Yn 1 (j+1-1)=Yn 1 (j-1)++[j]:=by obtain⟨k,rfl⟩:∃k,j=k+1:=⟨j-1,by omega⟩;rw[Nat.add_sub_cancel,Nat.add_sub_cancel];rw[List.range'_concat,Nat.one_mul,Nat.add_comm 1 k]
theorem GZ(n top:Nat)(lim:Int)(h:n=65536/\top=6\/n=131072/\top=7)(a1:0<=lim/\lim<=n):bK 125 [aa n,aa lim] cW [] (λy:Nat×dL=>ae y.1) (λ_=>True) (λy=>[@dU y.2 y.1 top (dq lim)]):=by
 apply aI Tryz.func125 Tryz.ntmps125;intro F C;apply J [10];haveI:cl F:=⟨C⟩;have aw:n=1024*2^top:=cv
 have au:n=65536\/n=131072:=U
 have aT:6<=top/\top<=7:=U
 have a3:n<=131072:=U
 obtain⟨E,P,V⟩:=C.co;haveI:gb F 0 (.cells qA.toArray E P):=⟨V⟩;apply J [170,140];apply ba (aD.G8 lim U);intro t _;apply J [5,27];apply ba (yZ n top h);intro bd _;apply J [8,27];apply ba (yN n au);intro d _;apply J [18];refine q rfl rfl (ei (cs:=iz 0 t bd d (λ_=>0)) rfl) ?_;refine e rfl ?_;refine fe (v:=.agg (Vy (iz 0 t bd d (λ_=>0)))) (l:=iz 0 t bd d (λ_=>0)) rfl rfl ?_;intro b;apply J [81,101,297,20,138,184,411,40,17,168,97];refine Ve rfl (λD=>absurd D U) (λD=>?_);apply J [44,24];refine q rfl rfl (fY (vs:=qA) 8 rfl rfl rfl rfl) ?_;apply J [111];refine VK (ι:=Nat×(Nat->Nat)) (λx=>x.1<=8) (λx=>[(5,ae b),(33,.agg (Vy qA)),(34,aa ((x.1:Nat):Int))]) (λx=>ag [aj b 169 (iz x.1 t bd d x.2),b8 (λc=>j7 (x.2 c) bd (cf c) []) (Yn 1 (x.1-1)),aD.eC t [⟨0,-1,lim,0⟩] 1,lj bd top [],gB d (λ_=>0) n,F]) (λx=>8-x.1) (0,λ_=>0) an bH ((ni (f:=λc=>j7 0 bd (cf c) []) _).trans (bX (ao (bw (bX (ao (ao (a7 _)))))))) ?_;rintro⟨j,u⟩ av a4;dsimp only[cx]at av⊢;apply J [43];apply Ve rfl<;>intro a2;have H:j<8:=U
 have Z:=Ly H;apply J [89,26];refine q rfl rfl (NY 8 3 1 rfl rfl rfl rfl U U Z) ?_;apply J [173];by_cases Q:j=0;subst Q;have N:=Q2 t bd d u;have ah:=ta 0 t bd d u;refine J [590,56,16,135,16,66,433,13] ?_;apply aq (SK bd);refine J [260,6,591,67] ?_;refine st (v:=.pointer _) (vs:=[_]) 1 rfl rfl rfl rfl rfl rfl (Vq rfl) rfl ?_;refine J [308,343] ?_;exact⟨rfl,(1,u),cy,cy,bH,ai⟩;have w:1<=j:=U
 have W:j∈cls:=by grind[wb]
 refine J [590,56,16,135,16,66,433,13] ?_;apply ba (SL bd (cf j) (oM W).1);intro O _;refine J [262,6] ?_;have N:=Q1 (t:=t) (bd:=bd) (ar:=d) (x:=O) u H w;have ah:=ta j t bd d u;refine J [591,67] ?_;refine st (v:=.pointer _) (vs:=[_]) 1 rfl rfl rfl rfl rfl rfl U N ?_;refine J [308,343] ?_;exact⟨rfl,(j+1,dK u j O),cy,cy,bH,(ao (cX 0 0 j rfl rfl (by dsimp only;rw[jI]) (λx a0=>by dsimp only;rw[jj _ _ (by have:=List.mem_range'_1.1 a0;omega)]) (by dsimp only;rw[RN j w];exact(Wk _ _).symm) ai))⟩;obtain rfl:j=8:=U
 have aJ:dr (λ_=>([]:List cc)) []=[]:=by trivial
 letI:dL:=⟨λ_=>d,λ_=>t⟩;apply J [21,38,109];exact bv (b,(⟨λ_=>d,λ_=>t⟩:dL)) trivial (aA (dR.mk t bd ⟨d,rfl⟩ u:dR b) (dh.zero lim aT) (by dsimp only[dq];rw[aJ,<-aw];exact ai))
variable [dL]
theorem vj(s:Nat)(h:s<256):bz 77 [aa s] bg [] (.bool true) []:=by apply aI Tryz.func77 Tryz.ntmps77;intro F _;refine J [10,221,271,482,209,133] ?_;exact ca.i () [_] ⟨rfl,trivial⟩ (congrArg Value.bool (c1 U)) trivial (ao (a7 _))
theorem tn(l s:Nat)(h:s<256)(d:l<=1073741824):bz 79 [aa l,aa s] bg [] (aa ((l+s %16*16:Nat):Int)) []:=by apply aI Tryz.func79 Tryz.ntmps79;intro F _;apply J [10,107,199];refine q rfl rfl (Wp (v:=((s %16:Nat):Int)) (p3 rfl rfl U U) U) ?_;refine q rfl rfl (Wp (v:=((s %16*16:Nat):Int)) (oe rfl rfl U U) U) ?_;refine q rfl rfl (Wp (v:=((l+s %16*16:Nat):Int)) (ir rfl rfl U U) U) ?_;apply J [30];exact kc
theorem B5(aP af:Nat)(d:Int)(t s:Nat)(h:s<256)(u:t<=1073741824):bz 121 [ae aP,aa s] bg [aj aP 163 [ae af,aa d,aa t]] (aa ((t+s/16*8:Nat):Int)) [aj aP 163 [ae af,aa d,aa t]]:=by apply aI Tryz.func121 Tryz.ntmps121;intro F _;apply J [1,107,101,2];refine q rfl rfl (Wp (v:=((s/16:Nat):Int)) (ln rfl rfl U U U) U) ?_;refine q rfl rfl (Wp (v:=((s/16*8:Nat):Int)) (oe rfl rfl U U) U) ?_;refine q rfl rfl (Wp (v:=((t+s/16*8:Nat):Int)) (ir rfl rfl U U) U) ?_;apply J [30];exact hT
theorem x5(aP af top:Nat)(C:Int)(t:Nat)(S:cD)(o:Nat)(h:o+8<=1024*2^top)(D:o %8=0):bz 80 [ae aP,aa o] bg [aj aP 163 [ae af,aa C,aa t],dU af top S] (bm (cU S.m o:Int)) [aj aP 163 [ae af,aa C,aa t],dU af top S]:=by apply aI Tryz.func80 Tryz.ntmps80;intro F _;apply J [11];refine ab.open 1 rfl (λN H=>?_);obtain⟨cP,bd,d,w⟩:=N;have u:=H;apply J [247];dsimp only at u⊢;have E:=u.fZ;have O:2^top<=128:=Vi (n:=2) an E.2;apply J [107,41,0];apply aq (l5 af cP bd d w);apply J [15,27];apply aq (tM d (1024*2^top) o S.m U h D);apply J [15,282,173,134];exact fc (eI (aA (dR.mk cP bd d w:dR af) u ai))
theorem tm(aP af top:Nat)(d:Int)(t:Nat)(S:cD)(s:Nat)(hs:s<256)(u:t+128<=1024*2^top/\t %8=0/\top<=7)(w:cU S.m (t+s/16*8)<1073741824):bz 78 [ae aP,aa s] bg [aj aP 163 [ae af,aa d,aa t],dU af top S] (aa (cU S.m (t+s/16*8):Int)) [aj aP 163 [ae af,aa d,aa t],dU af top S]:=by apply aI Tryz.func78 Tryz.ntmps78;intro F _;apply J [11];have C:2^top<=128:=Vi (n:=2) an u.2.2;apply J [107,38,158,27];apply aq (B5 aP af d t s hs U);apply J [8,0];apply aq (x5 aP af top d t S (t+s/16*8) U U);refine J [8,261,30] ?_;exact dy
end Go.Proofs.Q
namespace Go.Proofs.Q
open Go Go.QM
theorem DH{C:Nat->List cc}:∀{l:List Nat},(l.flatMap (hP C)).Nodup->l.Nodup->∀{c d p:Nat},c∈l->d∈l->p∈hP C c->p∈hP C d->c=d
 | [],_,_,_,_,_,h,_,_,_=>by cases h
 | x::l,au,V,c,d,p,P,Q,u,w=>by rw[Vw]at au;obtain⟨ah,W,O⟩:=VH.1 au;obtain⟨Z,lk⟩:=Vu.1 V;rcases Vp.1 P with D|H<;>rcases Vp.1 Q with E|N;rw[D,E];subst D;exact absurd rfl (O p u p (V5.2 ⟨d,N,w⟩));subst E;exact absurd rfl (O p w p (V5.2 ⟨c,H,u⟩));exact DH W lk H N u w
variable{top:Nat}{S:cD}{c d:Nat}
theorem dh.LZ(h:dh top S)(u:c∈cls)(w:d∈cls){p q:cc}(D:p∈S.C c)(E:q∈S.C d)(e:p.aC=q.aC):c=d:=
 DH (VH.1 h.bC).1 wc u w (Vn.2 ⟨p,D,rfl⟩) (Vn.2 ⟨q,E,e.symm⟩)
theorem Dt{many:Nat}{L:List cc}(h:oC many L){p q:cc}(N:p∈L)(O:q∈L)(e:p.aC=q.aC):p=q:=by obtain⟨i,E⟩:=V9 N;obtain⟨j,H⟩:=V9 O;obtain⟨u,w⟩:=Vl.1 E;obtain⟨C,D⟩:=Vl.1 H;have key:i=j:=(by rcases Nat.lt_trichotomy i j with d|d|d;have:=(Wy.1 h.kr) i j u C d;rw[w,D]at this;omega;trivial;have:=(Wy.1 h.kr) j i C u d;rw[w,D]at this;omega);simp_all
variable{a:Nat}
theorem fb.bd(u:dh top S)(d:c∈cls)(h:fb (cf c) (S.C c) a):a %16=0/\64<=a/\a+cf c<=1024*2^top:=by
 obtain⟨p,D,i,E,rfl⟩:=h;have w:=u.ok c d;have H:=w.place (w.inv.bd p D i E);have N:=u.lt p.aC (xw.2 (.inl ⟨c,d,p,D,rfl⟩));obtain⟨O,P⟩:=oM d;obtain⟨q,V⟩:∃q,cf c=16*q:=⟨cf c/16,by omega⟩;have Q:i*cf c=16*(i*q):=cv
 omega
variable{b:Nat}
theorem fb.apart(u:dh top S)(D:c∈cls)(E:d∈cls)(h:fb (cf c) (S.C c) a)(k:fb (cf d) (S.C d) b)(ah:c≠d\/a≠b):a+cf c<=b\/b+cf d<=a:=by obtain⟨p,H,i,Q,rfl⟩:=h;obtain⟨q,N,j,V,rfl⟩:=k;have W:=(u.ok c D).place ((u.ok c D).inv.bd p H i Q);have Z:=(u.ok d E).place ((u.ok d E).inv.bd q N j V);by_cases e:p.aC=q.aC;have O:=u.LZ D E H N e;subst O;have P:=Dt (u.ok c D).inv H N e;subst P;rcases Nat.lt_trichotomy i j with w|w|w;have:=VQ (cf c) (show i+1<=j from w);rw[V7]at this;omega;simp_all;have:=VQ (cf c) (show j+1<=i from w);rw[V7]at this;omega;omega
theorem fb.frame(u:dh top S){p:Nat}(d:c∈cls)(h:fb (cf c) (S.C c) a)(E:p∉cls.flatMap (hP S.C)):a+cf c<=p*1024\/p*1024+1024<=a:=by obtain⟨q,w,i,D,rfl⟩:=h;have H:=(u.ok c d).place ((u.ok c d).inv.bd q w i D);have:q.aC≠p:=λe=>E (V5.2 ⟨c,d,Vn.2 ⟨q,w,e⟩⟩);omega
theorem Nx{many aC i sz:Nat}{L L':List cc}(g:lB many L L' aC i)(h:oC many L)(hs:0<sz)(hm:many*sz<=960)(Q:i<many):¬fb sz L (aC*1024+64+i*sz):=by
 rintro⟨q,d,j,u,e⟩;have be:i*sz+sz<=960:=by have:=VQ sz (show i+1<=many from Q);rw[V7]at this;omega
 have bA:j*sz+sz<=960:=by have:=VQ sz (show j+1<=many from h.bd q d j u);rw[V7]at this;omega
 have D:q.aC=aC:=U
 have E:i=j:=by grind[Nat.eq_of_mul_eq_mul_right]
 cases g with|old A B f w H C N=>(have V:(⟨aC,f⟩:cc)∈L:=by rw[w];simp);have:=Dt h d V D;subst this;subst E;dsimp only at u;rw[C]at u;cases u|new A B w H C N O P=>rw[w]at d;rcases Vd.1 d with d|d;have:=O q d;omega;have:=P q d;omega
theorem i5.fresh{y:Nat×Nat×List cc}(u:dh top S)(d:c∈cls)(g:i5 top S c y):¬fb (cf c) (S.C c) (addr c y):=
 Nx g.m2 (u.ok c d).inv (by have:=oM d;omega) (u.ok c d).many.2.2 g.i
theorem i5.jF{y:Nat×Nat×List cc}(u:c∈cls)(g:i5 top S c y):fb (cf d) (dK S.C c y.2.2 d) a↔fb (cf d) (S.C d) a\/(d=c/\a=addr c y):=by by_cases e:d=c;subst e;rw[jI,g.m2.jF (by have:=oM u;omega)];constructor;rintro(h|h);simp_all;exact .inr ⟨rfl,h⟩;rintro(h|⟨_,h⟩);simp_all;exact .inr h;grind[jj]
theorem i5.apart{y:Nat×Nat×List cc}(D:dh top S)(u:c∈cls)(g:i5 top S c y)(E:d∈cls)(h:fb (cf d) (S.C d) a):a+cf d<=addr c y\/addr c y+cf c<=a:=
 fb.apart (g.inv S.Q S.bF S.m) E u ((g.jF u).2 (.inl h)) ((g.jF u).2 (.inr ⟨rfl,rfl⟩)) (by by_cases e:d=c;subst e;exact .inr λw=>g.fresh D u (w▸h);exact .inl e)
theorem jY.jF{aC i:Nat}{L':List cc}(w:dh top S)(u:c∈cls)(g:jY top S c aC i L')(h:fb (cf d) (S.C d) a)(D:d≠c\/a≠aC*1024+64+i*cf c):fb (cf d) (dK S.C c L' d) a:=by by_cases e:d=c;subst e;rw[jI];exact g.nv.jF (w.ok d u).inv (by have:=oM u;omega) h (D.resolve_left λh=>h rfl);grind[jj]
def br(m:Nat->Nat)(t j:Nat):Nat:=cU m (t+j*8)
def dZ(m:Nat->Nat)(t s:Nat):Nat:=if br m t (s/16)=0 then 0 else cU m (br m t (s/16)+s %16*16)
def dF(m:Nat->Nat)(t s:Nat):Nat:=if br m t (s/16)=0 then 0 else cU m (br m t (s/16)+s %16*16+8)
structure gn(top:Nat)(S:cD)(t:Nat):Prop where
  tk:fb 128 (S.C 2) t
  fJ:∀j,j<16->br S.m t j≠0->fb 256 (S.C 7) (br S.m t j)
  bC:∀j k,j<16->k<16->j≠k->br S.m t j≠0->br S.m t j≠br S.m t k
  ne:∀j,j<16->br S.m t j≠0->∃i,i<16/\cU S.m (br S.m t j+i*16)≠0
  J:∀j,j<16->br S.m t j≠0->∀i,i<16->cU S.m (br S.m t j+i*16)=0->cU S.m (br S.m t j+i*16+8)=0
def J3(m:Nat->Nat)(t o:Nat):Prop:=(t<=o/\o+8<=t+128)\/∃j,j<16/\br m t j≠0/\br m t j<=o/\o+8<=br m t j+256
variable{t:Nat}
theorem gn.j1(h:gn top S t){s:Nat}(hs:s<256)(e:dZ S.m t s=0):dF S.m t s=0:=by rw[dZ]at e;rw[dF];by_cases d:br S.m t (s/16)=0;rw[az d];rw[al d]at e⊢;exact h.J _ U d _ U e
theorem c2:(2:Nat)∈cls:=by decide
theorem fQ:(7:Nat)∈cls:=by decide
theorem gn.bd(d:dh top S)(h:gn top S t):t %16=0/\64<=t/\t+128<=1024*2^top:=fb.bd d c2 h.tk
theorem gn.rT(u:dh top S)(h:gn top S t){j:Nat}(w:j<16)(d:br S.m t j≠0):br S.m t j %16=0/\64<=br S.m t j/\br S.m t j+256<=1024*2^top:=fb.bd u fQ (h.fJ j w d)
theorem gn.nB{bb:cD}(h:gn top S t)(Q:fb 128 (bb.C 2) t)(W:∀j,j<16->br S.m t j≠0->fb 256 (bb.C 7) (br S.m t j))(hm:∀o,J3 S.m t o->cU bb.m o=cU S.m o):
 gn top bb t/\(∀j,j<16->br bb.m t j=br S.m t j)/\∀s,s<256->dZ bb.m t s=dZ S.m t s/\dF bb.m t s=dF S.m t s:=by
 have w:∀j,j<16->br bb.m t j=br S.m t j:=λj u=>hm _ (.inl ⟨by omega,by omega⟩);refine⟨⟨Q,λj u d=>?_,λj k u N V d=>?_,λj u d=>?_,λj u d i E D=>?_⟩,w,λs Z=>?_⟩;simp_all;rw[w j u]at d⊢;rw[w k N];exact h.bC j k u N V d;rw[w j u]at d⊢;obtain⟨i,E,D⟩:=h.ne j u d;exact⟨i,E,by rw[hm _ (.inr ⟨j,u,d,by omega,by omega⟩)];exact D⟩;rw[w j u]at d D⊢;have O:=hm (br S.m t j+i*16) (.inr ⟨j,u,d,by omega,by omega⟩);have P:=hm (br S.m t j+i*16+8) (.inr ⟨j,u,d,by omega,by omega⟩);rw[O]at D;rw[P];exact h.J j u d i E D;have H:s/16<16:=U
 rw[dZ,dZ,dF,dF,w _ H];by_cases d:br S.m t (s/16)=0;simp_all;rw[al d,al d,al d,al d];exact⟨hm _ (.inr ⟨_,H,d,by omega,by omega⟩),hm _ (.inr ⟨_,H,d,by omega,by omega⟩)⟩
variable{o:Nat}
theorem mK{m:Nat->Nat}{d:Nat}(h:d+8<=o\/o+16<=d):cU (dx m o [a,b]) d=cU m d:=HS (L:=[a,b]) h
theorem ts{m:Nat->Nat}(h:a<2^64):cU (dx m o [a,b]) o=a:=BP (L:=[a,b]) (j:=0) rfl h
theorem Cc{m:Nat->Nat}(h:b<2^64):cU (dx m o [a,b]) (o+8)=b:=BP (L:=[a,b]) (j:=1) rfl h
theorem rb{m:Nat->Nat}{d:Nat}(h:d+8<=o\/o+8<=d):cU (dx m o [a]) d=cU m d:=HS (L:=[a]) h
theorem Cb{m:Nat->Nat}(h:a<2^64):cU (dx m o [a]) o=a:=BP (L:=[a]) (j:=0) rfl h
theorem gn.tf(P:dh top S)(h:gn top S t){s:Nat}(hs:s<256)(O:br S.m t (s/16)≠0)(Q:a<2^64)(am:b<2^64)(au:a=0->b=0)
 (W:a≠0\/∃i,i<16/\i≠s %16/\cU S.m (br S.m t (s/16)+i*16)≠0) {bb:cD} (Z:bb.C=S.C) (hm:bb.m=dx S.m (br S.m t (s/16)+s %16*16) [a,b]):
 gn top bb t/\(∀j,j<16->br bb.m t j=br S.m t j)/\dZ bb.m t s=a/\dF bb.m t s=b/\∀r,r<256->r≠s->dZ bb.m t r=dZ S.m t r/\dF bb.m t r=dF S.m t r:=by
 have H:s/16<16:=U
 have av:=h.bd P;have w:∀j,j<16->br bb.m t j=br S.m t j:=λj d=>(by have:=fb.apart P c2 fQ h.tk (h.fJ _ H O) (.inl an);have e:cf 2=128:=rfl;have ar:cf 7=256:=rfl;grind[br,mK]);have hw:∀j i,j<16->i<16->br S.m t j≠0->(j≠s/16\/i≠s %16)->cU bb.m (br S.m t j+i*16)=cU S.m (br S.m t j+i*16)/\cU bb.m (br S.m t j+i*16+8)=cU S.m (br S.m t j+i*16+8):=λj i d E u V=>(by rw[hm];by_cases e:j=s/16;grind[mK];have:=fb.apart P fQ fQ (h.fJ j d u) (h.fJ _ H O) (.inr (h.bC j _ d H e u));have ar:cf 7=256:=rfl;grind[mK]);refine⟨⟨by rw[Z];exact h.tk,λj d u=>?_,λj k d ah V u=>?_,λj d u=>?_,λj d u i E D=>?_⟩,w,?_,?_,λr aw aB=>?_⟩;rw[w j d]at u⊢;rw[Z];exact h.fJ j d u;rw[w j d]at u⊢;rw[w k ah];exact h.bC j k d ah V u;rw[w j d]at u⊢;by_cases e:j=s/16;subst e;rcases W with W|⟨i,E,V,bO⟩;exact⟨s %16,by omega,by rw[hm,ts Q];exact W⟩;grind;obtain⟨i,E,bO⟩:=h.ne j d u;grind;rw[w j d]at u D⊢;by_cases e:j=s/16/\i=s %16;obtain⟨rfl,rfl⟩:=e;rw[hm,ts Q]at D;rw[hm,Cc am];exact au D;have:=hw j i d E u U;rw[this.1]at D;rw[this.2];exact h.J j d u i E D;rw[dZ,w _ H,al O,hm,ts Q];rw[dF,w _ H,al O,hm,Cc am];have aq:r/16<16:=U
 rw[dZ,dZ,dF,dF,w _ aq];by_cases N:br S.m t (r/16)=0;simp_all;rw[al N,al N,al N,al N];exact hw _ _ aq U N U
theorem gn.Sm(P:dh top S)(h:gn top S t){s:Nat}(hs:s<256)(aw:br S.m t (s/16)=0)(aT:a<2^64)(am:b<2^64)(aD:a≠0){y:Nat×Nat×List cc}(g:i5 top S 7 y)
 {bb:cD} (aB:bb.C=dK S.C 7 y.2.2) (hm:bb.m=dx (dx (hx S.m (addr 7 y) 256) (t+s/16*8) [addr 7 y]) (addr 7 y+s %16*16) [a,b]):
 gn top bb t/\br bb.m t (s/16)=addr 7 y/\(∀j,j<16->j≠s/16->br bb.m t j=br S.m t j)/\dZ bb.m t s=a/\dF bb.m t s=b/\(∀r,r<256->r≠s->dZ bb.m t r=dZ S.m t r/\dF bb.m t r=dF S.m t r)/\
  ∀i,i<16->i≠s %16->cU bb.m (addr 7 y+i*16)=0:=by
 have a4:s/16<16:=U
 have a3:=h.bd P;have V:cf 2=128:=rfl;have av:cf 7=256:=rfl;have a0:=g.apart P fQ c2 h.tk;have aI:fb 256 (dK S.C 7 y.2.2 7) (addr 7 y):=(g.jF fQ).2 (.inr ⟨rfl,rfl⟩);have a1:=fb.bd (g.inv S.Q S.bF S.m) fQ aI;have a9:2^top<=128:=Vi (n:=2) an P.fZ.2;generalize aE:addr 7 y=A at*;rw[V,av]at a0;rw[av]at a1;have H:∀j,j<16->j≠s/16->br bb.m t j=br S.m t j:=λj d N=>(by rw[br,hm,mK U,rb U,Aw U];rfl);have E:br bb.m t (s/16)=A:=by rw[br,hm,mK U,Cb U]
 have ar:∀j,j<16->br S.m t j≠0->br S.m t j+256<=A\/A+256<=br S.m t j:=λj d u=>(by have:=g.apart P fQ fQ (h.fJ j d u);rw[aE]at this;exact this);have a2:∀j,j<16->br S.m t j≠0->t+128<=br S.m t j\/br S.m t j+256<=t:=λj d u=>fb.apart P c2 fQ h.tk (h.fJ j d u) (.inl an);have hw:∀j i,j<16->i<16->br S.m t j≠0->cU bb.m (br S.m t j+i*16)=cU S.m (br S.m t j+i*16)/\cU bb.m (br S.m t j+i*16+8)=cU S.m (br S.m t j+i*16+8):=λj i d w u=>(by have g1:=ar j d u;have g2:=a2 j d u;rw[hm];exact⟨by rw[mK U,rb U,Aw U],by rw[mK U,rb U,Aw U]⟩);have au:∀i,i<16->i≠s %16->cU bb.m (A+i*16)=0/\cU bb.m (A+i*16+8)=0:=λi w N=>(by rw[hm];exact⟨by rw[mK U,rb U,w7 U U],by rw[mK U,rb U,w7 U U]⟩);have Z:cU bb.m (A+s %16*16)=a/\cU bb.m (A+s %16*16+8)=b:=by rw[hm];exact⟨ts aT,Cc am⟩
 have W:A≠0:=U
 refine⟨⟨by rw[aB];exact(g.jF fQ).2 (.inl h.tk),λj d u=>?_,λj k d ah N u=>?_,λj d u=>?_,λj d u i w O=>?_⟩,E,H,?_,?_,λr a5 N=>?_,λi w N=>(au i w N).1⟩;rw[aB];by_cases e:j=s/16;subst e;rw[E];exact aI;rw[H j d e]at u⊢;exact(g.jF fQ).2 (.inl (h.fJ j d u));by_cases e:j=s/16;subst e;rw[E,H k ah (λe=>N e.symm)];intro aq;have:=ar k ah U;omega;rw[H j d e]at u⊢;by_cases aq:k=s/16;subst aq;rw[E];have:=ar j d u;omega;rw[H k ah aq];exact h.bC j k d ah N u;by_cases e:j=s/16;subst e;rw[E];exact⟨s %16,by omega,by rw[Z.1];exact aD⟩;rw[H j d e]at u⊢;obtain⟨i,w,bO⟩:=h.ne j d u;exact⟨i,w,by rw[(hw j i d w u).1];exact bO⟩;by_cases e:j=s/16;subst e;rw[E]at O⊢;by_cases V:i=s %16;subst V;rw[Z.1]at O;exact absurd O aD;exact(au i w V).2;rw[H j d e]at u O⊢;rw[(hw j i d w u).1]at O;rw[(hw j i d w u).2];exact h.J j d u i w O;rw[dZ,E,al W];exact Z.1;rw[dF,E,al W];exact Z.2;have aJ:r/16<16:=U
 rw[dZ,dZ,dF,dF];by_cases e:r/16=s/16;rw[e,E,al W,al W,az aw,az aw];exact au _ U U;rw[H _ aJ e];by_cases D:br S.m t (r/16)=0;rw[az D,az D,az D,az D];exact⟨rfl,rfl⟩;rw[al D,al D,al D,al D];exact hw _ _ aJ U D
theorem gn.K9(P:dh top S)(h:gn top S t){s aC i0:Nat}{L':List cc}(hs:s<256)(V:br S.m t (s/16)≠0)(aw:∀i,i<16->i≠s %16->cU S.m (br S.m t (s/16)+i*16)=0)
 (au:br S.m t (s/16)=aC*1024+64+i0*256) (g:jY top S 7 aC i0 L') {bb:cD} (ah:bb.C=dK S.C 7 L') (hm:bb.m=dx (dx S.m (br S.m t (s/16)+s %16*16) [0,0]) (t+s/16*8) [0]):
 gn top bb t/\br bb.m t (s/16)=0/\(∀j,j<16->j≠s/16->br bb.m t j=br S.m t j)/\dZ bb.m t s=0/\∀r,r<256->r≠s->dZ bb.m t r=dZ S.m t r/\(dZ S.m t r≠0->dF bb.m t r=dF S.m t r):=by
 have Q:s/16<16:=U
 have ar:∀j,j<16->br S.m t j≠0->t+128<=br S.m t j\/br S.m t j+256<=t:=λj u d=>fb.apart P c2 fQ h.tk (h.fJ j u d) (.inl an);have av:∀j,j<16->j≠s/16->br S.m t j≠0->br S.m t j+256<=br S.m t (s/16)\/br S.m t (s/16)+256<=br S.m t j:=λj u H d=>fb.apart P fQ fQ (h.fJ j u d) (h.fJ _ Q V) (.inr (h.bC j _ u Q H d));have aD:=ar _ Q V;have N:∀j,j<16->j≠s/16->br bb.m t j=br S.m t j:=λj u H=>(by rw[br,hm,rb U,mK U];rfl);have D:br bb.m t (s/16)=0:=by rw[br,hm,Cb U]
 have hw:∀j i,j<16->j≠s/16->i<16->br S.m t j≠0->cU bb.m (br S.m t j+i*16)=cU S.m (br S.m t j+i*16)/\cU bb.m (br S.m t j+i*16+8)=cU S.m (br S.m t j+i*16+8):=λj i u H E d=>(by have g1:=av j u H d;have g2:=ar j u d;rw[hm];exact⟨by rw[rb U,mK U],by rw[rb U,mK U]⟩);refine⟨⟨by rw[ah];exact g.jF P fQ h.tk (.inl an),λj u d=>?_,λj k u aq H d=>?_,λj u d=>?_,λj u d i E W=>?_⟩,D,N,by rw[dZ,az D],λr aI H=>?_⟩;have e:j≠s/16:=λe=>by subst e;exact d D
 rw[N j u e]at d⊢;rw[ah];exact g.jF P fQ (h.fJ j u d) (.inr λO=>h.bC j _ u Q e d (by rw[au];exact O));have e:j≠s/16:=λe=>by subst e;exact d D
 rw[N j u e]at d⊢;by_cases O:k=s/16;subst O;rw[D];exact d;rw[N k aq O];exact h.bC j k u aq H d;have e:j≠s/16:=λe=>by subst e;exact d D
 rw[N j u e]at d⊢;obtain⟨i,E,bO⟩:=h.ne j u d;exact⟨i,E,by rw[(hw j i u e E d).1];exact bO⟩;have e:j≠s/16:=λe=>by subst e;exact d D
 rw[N j u e]at d W⊢;rw[(hw j i u e E d).1]at W;rw[(hw j i u e E d).2];exact h.J j u d i E W;have Z:r/16<16:=U
 rw[dZ,dZ,dF,dF];by_cases e:r/16=s/16;have aB:=aw (r %16) U U;rw[e,az D,al V,aB];exact⟨rfl,λh=>absurd rfl h⟩;rw[N _ Z e];by_cases w:br S.m t (r/16)=0;rw[az w,az w,az w,az w];exact⟨rfl,λ_=>rfl⟩;rw[al w,al w,al w,al w];exact⟨(hw _ _ Z e U w).1,λ_=>(hw _ _ Z e U w).2⟩
end Go.Proofs.Q
namespace Go.Proofs.Q
open Go Go.QM
variable [dL]
theorem Mi{m:Nat->Nat}{t s:Nat}(h:br m t (s/16)≠0):dZ m t s=cU m (br m t (s/16)+s %16*16)/\dF m t s=cU m (br m t (s/16)+s %16*16+8):=⟨al h,al h⟩
theorem Mh{m:Nat->Nat}{t s:Nat}(h:br m t (s/16)=0):dZ m t s=0/\dF m t s=0:=⟨az h,az h⟩
theorem jY.r3{top:Nat}{S bb:cD}{c aC i:Nat}{L':List cc}(g:jY top S c aC i L')(zV:S.C=bb.C:=by rfl)(EB:S.Fr=bb.Fr:=by rfl):jY top bb c aC i L':=⟨by rw[<-zV];exact g.nv,λQ bF m=>by rw[<-zV,<-EB];exact g.inv Q bF m,by rw[<-zV,<-EB];exact g.len⟩
theorem BV(af top:Nat)(d:Int)(t:Nat)(S:cD)(H:dh top S)(E:fb 128 (S.C 2) t):bK 28 [ae af,aa d,aa t] cW [dU af top S] (λaP:Nat=>ae aP) (λ_=>True) (λaP=>[aj aP 163 [ae af,aa d,aa t],dU af top S]):=by apply aI Tryz.func28 Tryz.ntmps28;intro F u;apply J [1];haveI:cl F:=⟨u⟩;obtain⟨k,aC,i,f,D,w,rfl⟩:=E.at;apply J [130,33];apply aq (xz af top S 2 c2 k aC i f D w);refine J [5,64,141,35,2,529,0,295] ?_;intro be;apply J [109];exact bv be trivial ai
theorem qa(aP af top:Nat)(d:Int)(t:Nat)(S:cD)(w:dh top S)(E:gn top S t)(s:Nat)(hs:s<256):bz 30 [ae aP,aa s] bg [aj aP 163 [ae af,aa d,aa t],dU af top S] (.tuple #[bm (dZ S.m t s:Int),bm (dF S.m t s:Int)]) [aj aP 163 [ae af,aa d,aa t],dU af top S]:=by
 apply aI Tryz.func30 Tryz.ntmps30;intro F _;apply J [11];have P:=E.bd w;have N:=w.fZ;have V:2^top<=128:=Vi (n:=2) an N.2;have O:s/16<16:=U
 have H:cU S.m (t+s/16*8)<1073741824:=(by by_cases u:br S.m t (s/16)=0;rw[show cU S.m (t+s/16*8)=0 from u];decide;have:=E.rT w O u;rw[show cU S.m (t+s/16*8)=br S.m t (s/16)from rfl];omega);apply J [24,223,228,272];apply aq (vj s hs);apply J [8,311,40,301,272];apply aq (tm aP af top d t S s hs ⟨P.2.2,by omega,N.2⟩ H);apply J [8];rw[show cU S.m (t+s/16*8)=br S.m t (s/16)from rfl]at H⊢;apply J [155,97];apply Ve rfl<;>intro u;obtain⟨C,D⟩:=Mh (m:=S.m) (t:=t) (s:=s) U;rw[C,D];apply J [24,347];exact hU ai;have u:br S.m t (s/16)≠0:=U
 obtain⟨C,D⟩:=Mi (m:=S.m) u;have Q:=E.rT w O u;rw[C,D];apply J [4,33];apply aq (tm aP af top d t S s hs ⟨P.2.2,by omega,N.2⟩ H);apply J [8];rw[show cU S.m (t+s/16*8)=br S.m t (s/16)from rfl];apply J [27];apply aq (tn (br S.m t (s/16)) s hs U);apply J [8,28,33];apply aq (x5 aP af top d t S (br S.m t (s/16)+s %16*16) U U);apply J [8,158,2];refine q rfl rfl (Wp (v:=((br S.m t (s/16)+s %16*16+8:Nat):Int)) (ir rfl rfl U U) U) ?_;refine e rfl ?_;apply aq (x5 aP af top d t S (br S.m t (s/16)+s %16*16+8) U U);apply J [8,95];exact hU ai
theorem B6(aP af top:Nat)(w:Int)(t:Nat)(S:cD)(d:dh top S)(E:gn top S t)(s:Nat)(hs:s<256)(a b:Nat)(aw:a<2^64)(am:b<2^64)(aD:a≠0)(V:br S.m t (s/16)≠0):bz 165 [ae aP,aa s,bm a,bm b] bg [aj aP 163 [ae af,aa w,aa t],dU af top S] (aa 0) [aj aP 163 [ae af,aa w,aa t],dU af top ⟨S.Q,S.bF,S.C,S.Fr,dx S.m (br S.m t (s/16)+s %16*16) [a,b]⟩]:=by
 apply aI Tryz.func165 Tryz.ntmps165;intro F _;apply J [11];have ar:=E.bd d;have O:=d.fZ;have aT:2^top<=128:=Vi (n:=2) an O.2;have ah:s/16<16:=U
 have aJ:=E.rT d ah V;have Z:cU S.m (t+s/16*8)<1073741824:=by grind[br]
 apply J [39,51,103,191,140];apply aq (vj s hs);apply J [8,234,26,205];refine Ve rfl (λH=>absurd H U) (λH=>?_);apply J [23,33];apply aq (tm aP af top w t S s hs ⟨ar.2.2,by omega,O.2⟩ Z);apply J [8];rw[show cU S.m (t+s/16*8)=br S.m t (s/16)from rfl];apply J [31,171];refine Ve rfl (λN=>absurd N U) (λN=>?_);refine ab.open 1 rfl (λav au=>?_);obtain⟨cP,bd,u,D⟩:=av;have d:=au;apply J [247];dsimp only at d⊢;apply J [4,41,0];apply aq (l5 af cP bd u D);apply J [15,196];apply aq (tn (br S.m t (s/16)) s hs U);refine J [15,196,293] ?_;intro bA;refine e rfl ?_;apply eJ (lJ u (1024*2^top) (br S.m t (s/16)+s %16*16) S.m [a,b] (cM bA) 2 U cE jy U (by intro x P;simp only[Vp,Vm,or_false]at P;rcases P with rfl|rfl<;>assumption)) ⟨_,bn.rd (ad:=some ⟨bA,0,none⟩)⟩;apply J [54,30];have W:dh top ⟨S.Q,S.bF,S.C,S.Fr,dx S.m (br S.m t (s/16)+s %16*16) [a,b]⟩:=by grind[dh]
 exact fc (bU 6 rfl (aA (dR.mk cP bd u D:dR af) W ai))
def u9(S:cD)(Mv:Int)(t s a b:Nat):Option (Nat×Nat×List cc)->cD
  | some y=>⟨(aD.dd S.Q Mv (cf 7:Int)).1,S.bF,dK S.C 7 y.2.2,S.Fr,dx (dx (hx S.m (addr 7 y) 256) (t+s/16*8) [addr 7 y]) (addr 7 y+s %16*16) [a,b]⟩
  | none=>S
theorem TC(aP af top:Nat)(d:Int)(t:Nat)(S:cD)(V:dh top S)(aw:gn top S t)(s:Nat)(hs:s<256)(a b:Nat)(bg:a<2^64)(am:b<2^64)(bh:a≠0)(P:br S.m t (s/16)=0):bK 165 [ae aP,aa s,bm a,bm b] cW [aj aP 163 [ae af,aa d,aa t],dU af top S] (λy:Option (Nat×Nat×List cc)×Int=>aa y.2) (λy=>CC top S d 7 y) (λy=>[aj aP 163 [ae af,aa d,aa t],dU af top (u9 S d t s a b y.1)]):=by
 apply aI Tryz.func165 Tryz.ntmps165;intro F ar;apply J [11];haveI:cl F:=⟨ar⟩;have a2:=aw.bd V;have ah:=V.fZ;have bk:2^top<=128:=Vi (n:=2) an ah.2;have bi:s/16<16:=U
 have aT:cU S.m (t+s/16*8)<1073741824:=by rw[show cU S.m (t+s/16*8)=0 from P];decide
 apply J [39,51,103,191,140];apply aq (vj s hs);apply J [8,234,26,205];refine Ve rfl (λW=>absurd W U) (λW=>?_);apply J [23,33];apply aq (tm aP af top d t S s hs ⟨a2.2.2,by omega,ah.2⟩ aT);apply J [8];rw[show cU S.m (t+s/16*8)=0 from P];apply J [31,171,14,7];refine cJ [0,1,2,3,4,5,6,7,-8,9,10,11,12,13] (ao (a7 _)) ?_;apply J [72,135,13];apply ba (uV af top S d 7 fQ);intro⟨a9,cu⟩ H;refine J [263,6] ?_;cases a9 with|none=>?_|some y=>?_
 dsimp only[pA,kl];apply J [254,285,277,7,32];refine Ve rfl (λZ=>?_) (λZ=>absurd (H.1) Z);apply J [142];refine ab.ret (rt (rt ?_));exact bv (none,cu) H ai;obtain⟨rfl,a1,cK⟩:=H;dsimp only[pA,kl];have a0:fb 256 (dK S.C 7 y.2.2 7) (addr 7 y):=(cK.jF fQ).2 (.inr ⟨rfl,rfl⟩);have aJ:=fb.bd (cK.inv (aD.dd S.Q d (cf 7:Int)).1 S.bF (hx S.m (addr 7 y) 256)) fQ a0;have O:cf 7=256:=rfl;rw[O]at aJ;rw[O];have bb:=cK.inv (aD.dd S.Q d (cf 7:Int)).1 S.bF (hx S.m (addr 7 y) 256);have au:=λa4=>cK.inv (aD.dd S.Q d (cf 7:Int)).1 S.bF a4;generalize aE:addr 7 y=u at*;apply J [254,285,277,7,202,142,37,78];refine aW.open 0 rfl (λa5 a3=>?_);obtain⟨cP,bd,w,E⟩:=a5;have av:=a3;apply J [15];dsimp only at av⊢;refine e rfl ?_;apply aq (l5 af cP bd w E);apply J [15,158,27];apply aq (B5 aP af d t s hs U);refine J [15,2,307,0,148] ?_;intro cj;refine e rfl ?_;apply eJ (lJ w (1024*2^top) (t+s/16*8) (hx S.m u 256) [u] (cM cj) 1 U cE jy U (by intro x D;simp only[Vp,Vm,or_false]at D;subst D;omega)) ⟨_,bn.rd (ad:=some ⟨cj,0,none⟩)⟩;apply J [54,3,41,0];apply aq (l5 af cP bd w E);apply J [54,196];apply aq (tn u s hs U);refine J [54,196,293] ?_;intro N;refine e rfl ?_;apply eJ (lJ w (1024*2^top) (u+s %16*16) (dx (hx S.m u 256) (t+s/16*8) [u]) [a,b] (cM N) 2 U cE jy U (by intro x D;simp only[Vp,Vm,or_false]at D;rcases D with rfl|rfl<;>assumption)) ⟨_,bn.rd (ad:=some ⟨N,0,none⟩)⟩;apply J [22,30];exact bv (some y,0) (by subst aE;exact⟨rfl,a1,cK⟩) (by subst aE;exact(eT (aA (dR.mk cP bd w E:dR af) (au _) ai)))
theorem H7(aP af top:Nat)(d:Int)(t:Nat)(S:cD)(l:Nat)(P:l+256<=1024*2^top)(Q:l %8=0)(H:top<=7)(em:Bool)(he:em=true↔∀i,i<16->cU S.m (l+i*16)=0):bz 288 [ae aP,aa l] bg [aj aP 163 [ae af,aa d,aa t],dU af top S] (.bool em) [aj aP 163 [ae af,aa d,aa t],dU af top S]:=by
 apply aI Tryz.func288 Tryz.ntmps288;intro F _;apply J [11];have W:2^top<=128:=Vi (n:=2) an H;apply J [132,118,225];refine VK (ι:=Nat) (λi=>i<=16/\∀j,j<i->cU S.m (l+j*16)=0) (λi=>[(0,ae aP),(1,aa l),(6,aa ((i:Nat):Int))]) (λi=>ag [aj aP 163 [ae af,aa d,aa t],dU af top S,F]) (λi=>16-i) 0 ⟨by omega,λj h=>by omega⟩ bH (ao (ao (ao (a7 _)))) ?_;rintro i ⟨E,u⟩ Z;dsimp only[cx]at E u⊢;apply J [43];apply Ve rfl<;>intro V;have N:i<16:=U
 have C:i %16=i:=U
 apply J [89,142,35,27];apply aq (tn l i U U);apply J [8];rw[C];refine e rfl ?_;apply aq (x5 aP af top d t S (l+i*16) U U);apply J [8,344];apply Ve rfl<;>intro w;have hv:em=false:=cv;rw[hv];apply J [132,166];exact dy;have w:cU S.m (l+i*16)=0:=U
 refine J [114] ?_;exact⟨rfl,(i+1),⟨by omega,λj O=>by by_cases D:j=i;subst D;exact w;exact u j U⟩,U,⟨rfl,rfl,rfl,trivial⟩,ai⟩;obtain rfl:i=16:=by omega
 rw[he.2 u];apply J [21,24,88];exact dy
theorem Tg(aP af top:Nat)(d:Int)(t:Nat)(S:cD)(u:dh top S)(D:gn top S t)(s:Nat)(hs:s<256)(W:br S.m t (s/16)≠0)(a2:dZ S.m t s≠0)(aT:∃i,i<16/\i≠s %16/\cU S.m (br S.m t (s/16)+i*16)≠0):bz 226 [ae aP,aa s] cW [aj aP 163 [ae af,aa d,aa t],dU af top S] (aa 0) [aj aP 163 [ae af,aa d,aa t],dU af top ⟨S.Q,S.bF,S.C,S.Fr,(dx S.m (br S.m t (s/16)+s %16*16) [0,0])⟩]:=by
 apply aI Tryz.func226 Tryz.ntmps226;intro F Z;apply J [11];haveI:cl F:=⟨Z⟩;have aD:=D.bd u;have E:=u.fZ;have a3:2^top<=128:=Vi (n:=2) an E.2;have aw:s/16<16:=U
 have ar:=D.rT u aw W;have au:cU S.m (t+s/16*8)<1073741824:=by grind[br]
 have ah:∀a0,dh top ⟨S.Q,S.bF,S.C,S.Fr,a0⟩:=by grind[dh]
 apply J [39,33];apply aq (qa aP af top d t S u D s hs);apply J [8,282,173,51,103,191,140];apply aq (vj s hs);apply J [8,234,26,205];refine Ve rfl (λO=>absurd O U) (λO=>?_);apply J [23,33];apply aq (tm aP af top d t S s hs ⟨aD.2.2,by omega,E.2⟩ au);apply J [8];rw[show cU S.m (t+s/16*8)=br S.m t (s/16)from rfl];refine aW.open 1 rfl (λa1 aJ=>?_);obtain⟨cP,bd,w,N⟩:=a1;have u:=aJ;apply J [15];dsimp only at u⊢;apply J [28,41,0];apply aq (l5 af cP bd w N);apply J [15,196];apply aq (tn (br S.m t (s/16)) s hs U);refine J [15,0,293] ?_;intro H;refine e rfl ?_;apply eJ (lJ w (1024*2^top) (br S.m t (s/16)+s %16*16) S.m [0,0] (cM H) 2 U cE jy U (by intro x V;simp only[Vp,Vm,or_false]at V;rcases V with rfl|rfl<;>decide)) ⟨_,bn.rd (ad:=some ⟨H,0,none⟩)⟩;apply J [54,29,35];refine aW.bf (B:=ag [aj aP 163 [ae af,aa d,aa t],dU af top ⟨S.Q,S.bF,S.C,S.Fr,(dx S.m (br S.m t (s/16)+s %16*16) [0,0])⟩,F]) (bU 6 rfl (aA (dR.mk cP bd w N:dR af) (ah _) ai)) ?_;have hw:∀i,i<16->i≠s %16->cU (dx S.m (br S.m t (s/16)+s %16*16) [0,0]) (br S.m t (s/16)+i*16)=cU S.m (br S.m t (s/16)+i*16):=by grind[mK]
 have a4:cU (dx S.m (br S.m t (s/16)+s %16*16) [0,0]) (br S.m t (s/16)+s %16*16)=0:=by grind[ts]
 have he:false=true↔∀i,i<16->cU (dx S.m (br S.m t (s/16)+s %16*16) [0,0]) (br S.m t (s/16)+i*16)=0:=⟨λh=>(by cases h),λh=>by obtain⟨i,P,av,bO⟩:=aT;exact absurd (by rw[<-hw i P av];exact h i P) bO⟩;refine e rfl ?_;apply aq (H7 aP af top d t ⟨S.Q,S.bF,S.C,S.Fr,(dx S.m (br S.m t (s/16)+s %16*16) [0,0])⟩ (br S.m t (s/16)) ar.2.2 U E.2 false he);apply J [8,141,212];exact dy
theorem Tf(aP af top:Nat)(d:Int)(t:Nat)(S:cD)(w:dh top S)(H:gn top S t)(s:Nat)(hs:s<256)(au:br S.m t (s/16)≠0)(bh:dZ S.m t s≠0)(k aC i0:Nat)(f:Nat->Bool)(aT:(S.C 7)[k]? =some ⟨aC,f⟩)(aJ:f i0=true)(a0:br S.m t (s/16)=aC*1024+64+i0*256)(ba:∀i,i<16->i≠s %16->cU S.m (br S.m t (s/16)+i*16)=0)(a4:(aD.eo S.Q d (cf 7:Int)).2=0):bK 226 [ae aP,aa s] cW [aj aP 163 [ae af,aa d,aa t],dU af top S] (λ_:List cc=>aa 0) (λL'=>jY top S 7 aC i0 L') (λL'=>[aj aP 163 [ae af,aa d,aa t],dU af top ⟨(aD.eo S.Q d (cf 7:Int)).1,S.bF,dK S.C 7 L',S.Fr,(dx (dx S.m (br S.m t (s/16)+s %16*16) [0,0]) (t+s/16*8) [0])⟩]):=by
 apply aI Tryz.func226 Tryz.ntmps226;intro F av;apply J [11];haveI:cl F:=⟨av⟩;have a5:=H.bd w;have N:=w.fZ;have bi:2^top<=128:=Vi (n:=2) an N.2;have a3:s/16<16:=U
 have a1:=H.rT w a3 au;have a2:cU S.m (t+s/16*8)<1073741824:=by grind[br]
 have Z:∀bb,dh top ⟨S.Q,S.bF,S.C,S.Fr,bb⟩:=by grind[dh]
 apply J [39,33];apply aq (qa aP af top d t S w H s hs);apply J [8,282,173,51,103,191,140];apply aq (vj s hs);apply J [8,234,26,205];refine Ve rfl (λah=>absurd ah U) (λah=>?_);apply J [23,33];apply aq (tm aP af top d t S s hs ⟨a5.2.2,by omega,N.2⟩ a2);apply J [8];rw[show cU S.m (t+s/16*8)=br S.m t (s/16)from rfl];refine aW.open 1 rfl (λP O=>?_);obtain⟨cP,bd,u,D⟩:=P;have w:=O;apply J [15];dsimp only at w⊢;apply J [28,41,0];apply aq (l5 af cP bd u D);apply J [15,196];apply aq (tn (br S.m t (s/16)) s hs U);refine J [15,0,293] ?_;intro V;refine e rfl ?_;apply eJ (lJ u (1024*2^top) (br S.m t (s/16)+s %16*16) S.m [0,0] (cM V) 2 U cE jy U (by intro x E;simp only[Vp,Vm,or_false]at E;rcases E with rfl|rfl<;>decide)) ⟨_,bn.rd (ad:=some ⟨V,0,none⟩)⟩;apply J [54,29,35];refine aW.bf (B:=ag [aj aP 163 [ae af,aa d,aa t],dU af top ⟨S.Q,S.bF,S.C,S.Fr,(dx S.m (br S.m t (s/16)+s %16*16) [0,0])⟩,F]) (bU 6 rfl (aA (dR.mk cP bd u D:dR af) (Z _) ai)) ?_;have hw:∀i,i<16->i≠s %16->cU (dx S.m (br S.m t (s/16)+s %16*16) [0,0]) (br S.m t (s/16)+i*16)=cU S.m (br S.m t (s/16)+i*16):=by grind[mK]
 have a9:cU (dx S.m (br S.m t (s/16)+s %16*16) [0,0]) (br S.m t (s/16)+s %16*16)=0:=by grind[ts]
 have he:true=true↔∀i,i<16->cU (dx S.m (br S.m t (s/16)+s %16*16) [0,0]) (br S.m t (s/16)+i*16)=0:=⟨λ_ i ar=>by by_cases e:i=s %16;rw[e];exact a9;rw[hw i ar e];exact ba i ar e,λ_=>rfl⟩;refine e rfl ?_;apply aq (H7 aP af top d t ⟨S.Q,S.bF,S.C,S.Fr,(dx S.m (br S.m t (s/16)+s %16*16) [0,0])⟩ (br S.m t (s/16)) a1.2.2 U N.2 true he);apply J [8,3,14];refine ab.open 1 rfl (λP O=>?_);obtain⟨cP,bd,u,D⟩:=P;have aw:=O;apply J [247];dsimp only at aw⊢;apply J [41,0];apply aq (l5 af cP bd u D);apply J [15,158,27];apply aq (B5 aP af d t s hs U);refine J [15,0,148] ?_;intro W;refine e rfl ?_;apply eJ (lJ u (1024*2^top) (t+s/16*8) (dx S.m (br S.m t (s/16)+s %16*16) [0,0]) [0] (cM W) 1 U cE jy U (by intro x E;simp only[Vp,Vm,or_false]at E;subst E;decide)) ⟨_,bn.rd (ad:=some ⟨W,0,none⟩)⟩;apply J [54,3];refine WE (B:=ag [aj aP 163 [ae af,aa d,aa t],dU af top ⟨S.Q,S.bF,S.C,S.Fr,(dx (dx S.m (br S.m t (s/16)+s %16*16) [0,0]) (t+s/16*8) [0])⟩,F]) (bw (aA (dR.mk cP bd u D:dR af) (Z _) ai)) ?_;refine cJ [0,1,2,3,4,5,6,7,8,-9] (ao (a7 _)) ?_;apply J [72,135,16];have bg:cf 7=256:=rfl;refine dO rfl rfl ?_;refine aO (uW af top ⟨S.Q,S.bF,S.C,S.Fr,(dx (dx S.m (br S.m t (s/16)+s %16*16) [0,0]) (t+s/16*8) [0])⟩ 7 fQ k aC i0 f aT aJ d a4) (congrArg (λz:Nat=>[Yh (some ⟨af,0,none⟩),.int .i64 d,.int .i64 7,.int .i64 ((z:Nat):Int)]) a0) eF.p cl.aY ?_;intro L' cK;refine J [263,113,212] ?_;exact bv L' cK.r3 ai
end Go.Proofs.Q
namespace Go.Proofs.Q.av
open Go Go.QM
structure fi where
  k:Int
  a:Int
  f:Int
def fi.l(o:fi):List Int:=[o.k,o.a,o.f]
structure b3 where
  o:fi
  st:Int
  c5:Int
def oA:b3:=⟨⟨0,0,0⟩,0,0⟩
def xy(p:b3):List Value:=ints p.o.l++[.int .i64 p.st,.int .u32 p.c5]
theorem kN(p:b3):(xy p).length=5:=rfl
def fN(l:List b3):List Value:=l.flatMap xy
theorem HZ(l:List b3):(fN l).length=l.length*5:=kF kN l
theorem S9{l:List b3}{i:Nat}{p:b3}(h:l[i]? =some p):0<(fN l).length:=by grind[HZ]
structure dQ(l:List b3):Prop where
  n:l.length=256
  c5:∀p∈l,0<=p.c5/\p.c5<=1048575
theorem dQ.at{l:List b3}(h:dQ l){i:Nat}(u:i<256):∃p,l[i]? =some p/\0<=p.c5/\p.c5<=1048575:=by
 have d:i<l.length:=by rw[h.n];exact u
 exact⟨l[i],Vb d,h.c5 _ (List.getElem_mem d)⟩
theorem pY:bK 126 [] bg [] (λb:Nat=>ae b) (λ_=>True) (λb=>[a6 264 5 (cM b) 256 256 (fN (Vx 256 oA))]):=by apply aI Tryz.func126 Tryz.ntmps126;intro F _;apply J [10,170,24];refine q rfl rfl (ei (cs:=fN (Vx 256 oA)) aV) ?_;refine e rfl ?_;refine fe (v:=.agg (Vy (fN (Vx 256 oA)))) (l:=fN (Vx 256 oA)) rfl aV ?_;intro be;apply J [109];exact bv be trivial (eO 0 rfl (SF aV an) (ao (a7 _)))
theorem xh(b:Nat)(l:List b3)(i:Nat)(p:b3)(u:l[i]? =some p)(C:i<256)(w:0<=p.c5/\p.c5<=16777215):bz 151 [ae b,aa i] (λF=>∃E,cQ F E (cM b) (fN l)) [] (aS (p.c5*256+i)) []:=by apply aI Tryz.func151 Tryz.ntmps151;intro F ⟨E,d⟩;apply J [10];haveI:bn F (cM b) E (fN l):=⟨d⟩;refine J [107,35,483,412,592] ?_;refine q rfl rfl (n7 4 rfl rfl) ?_;refine q rfl rfl (dG rfl rfl (pM kN u 4 U rfl)) ?_;refine q rfl rfl (BH rfl rfl U (Sr U U)) ?_;refine J [2,484] ?_;refine q rfl rfl (Bh rfl rfl (QN U U U U)) ?_;apply J [30];exact kc
theorem Q8(p:b3):bz 184 [.agg (xy p).toArray] bg [] (.bool (decide (p.st=0))) []:=by apply aI Tryz.func184 Tryz.ntmps184;intro F _;refine J [187,526] ?_;intro bA;apply J [36,24,231,298,88];exact fc (bX (a7 _))
end Go.Proofs.Q.av
namespace Go.Proofs.Q.av
open Go Go.QM
theorem N2(ad:Option Addr)(cap:Nat)(l:List b3)(hb:FuncId)(lb:List Value)(pr:b3->Bool)(D:aw->Prop)(W:l.length<=100000000)(O:∀t,bz hb ([.agg (xy t).toArray]++lb) D [] (.bool (pr t)) []):eD VT 183 [.slice ad l.length cap,.func (.func hb) #[] lb.toArray] (λF=>(∃E,cQ F E ad (fN l))/\D (ag [F])) [] (λ_:Unit=>aa (match l.findIdx? pr with|some i=>(i:Int)|none=>-1)) (λ_=>True) (λ_=>[]):=by
 apply aI Tryz.func183 Tryz.ntmps183;intro F ⟨⟨E,H⟩,N⟩;apply J [10];haveI:bn F ad E (fN l):=⟨H⟩;apply J [39,34];refine q rfl rfl (len 210 5 rfl rfl) ?_;refine J [111,593] ?_;rintro k ⟨hinv,eP⟩ Z;dsimp only[cx]at hinv eP⊢;apply J [43];apply Ve rfl<;>intro C;have C:k<l.length:=U
 obtain⟨t,w⟩:∃t,l[k]? =some t:=⟨l[k],Vb C⟩;have V:=S9 w;apply J [89,142,24,318,62,2];refine q rfl rfl (hH 210 5 rfl rfl rfl U eB) ?_;refine q rfl rfl (gM (vs:=[_,_,_,_,_]) 5 rfl rfl (nt kN w) rfl an) ?_;refine e rfl ?_;refine k7 (O t) rfl rfl (ez _) N ?_;intro _ _;apply J [151,3];cases Q:pr t with|true=>?_|false=>?_
 apply J [14,142,166];have d:l.findIdx? pr=some k:=by grind[wx]
 exact ca.i () [_] ⟨rfl,trivial⟩ (by rw[d];rfl) trivial ai;refine J [49,114] ?_;exact⟨rfl,(k+1),⟨by omega,λj u P hu=>by rcases Nat.lt_succ_iff_lt_or_eq.1 P with h|h;exact eP j u h hu;subst h;rw[w]at hu;cases hu;exact Q⟩,U,bH,(ao (a7 _))⟩;obtain rfl:k=l.length:=by omega
 have d:l.findIdx? pr=none:=by grind[zD]
 apply J [21,212];exact ca.i () [_] ⟨rfl,trivial⟩ (by rw[d];rfl) trivial (ao (a7 _))
def ej(l:List b3)(h st:Int):Option (Nat×b3):=match l[(h %256).toNat]? with
  | some p=>if p.c5*256+h %256=h/\p.st=st then some ((h %256).toNat,p)else none
  | none=>none
theorem oc{l:List b3}{h st:Int}{i:Nat}{p:b3}(d:0<=h)(e:ej l h st=some (i,p)):l[i]? =some p/\h=p.c5*256+i/\i<256/\p.st=st:=by grind[ej]
theorem PA{l:List b3}{h st:Int}{p:b3}(e:ej l h st=none)(d:l[(h %256).toNat]? =some p):¬(p.c5*256+h %256=h/\p.st=st):=by grind[ej]
theorem yT(b:Nat)(l:List b3)(i:Nat)(p:b3)(h st:Int)(N:dQ l)(w:0<=h)(D:ej l h st=some (i,p)):bz 113 [ae b,aS h,aa st] (λF=>∃E,cQ F E (cM b) (fN l)) [] (.tuple #[gi (cM b) (i*5),aa 0]) []:=by apply aI Tryz.func113 Tryz.ntmps113;intro F ⟨E,C⟩;apply J [10];haveI:bn F (cM b) E (fN l):=⟨C⟩;obtain⟨d,rfl,H,rfl⟩:=oc w D;have O:=N.c5 p (Vg d);apply J [24,164,31,42,26];refine q rfl rfl (vQ rfl rfl (C5 U U)) ?_;refine J [432,31,7] ?_;rw[show(p.c5*256+(i:Int)) %256=(i:Int)from by omega];apply J [178];apply eJ (xh b l i p d H U) ⟨_,bn.rd⟩;apply J [151,2,161,20];refine VD 19 rfl (c:=false) (db U) ?_;apply J [301,17];refine c9 rfl rfl rfl (uJ rfl) ?_;refine c9 rfl rfl rfl (n7 0 rfl rfl) ?_;refine J [594] ?_;refine c9 rfl rfl rfl (n7 3 rfl rfl) ?_;refine c9 rfl rfl rfl (dG rfl rfl (pM kN d 3 U rfl)) ?_;apply J [274,97];refine Ve rfl (λu=>absurd u U) (λu=>?_);refine J [4,35,483,412,592,164,30] ?_;exact ca.i () [_,_] ⟨rfl,rfl,trivial⟩ (congrArg (λo=>Value.tuple #[gi (some ⟨b,0,none⟩) o,.int .i64 0]) U) trivial (ao (a7 _))
theorem yS(b:Nat)(l:List b3)(h st:Int)(N:dQ l)(O:0<=h/\h<=4294967295)(H:ej l h st=none):bz 113 [ae b,aS h,aa st] (λF=>∃E,cQ F E (cM b) (fN l)) [] (.tuple #[.pointer none,aa 8]) []:=by
 apply aI Tryz.func113 Tryz.ntmps113;intro F ⟨E,D⟩;apply J [10];haveI:bn F (cM b) E (fN l):=⟨D⟩;obtain⟨i,w⟩:∃i:Nat,h %256=i:=⟨(h %256).toNat,by omega⟩;have C:i<256:=U
 obtain⟨p,d,P⟩:=N.at C;have eP:=PA H (show l[(h %256).toNat]? =some p from by rw[w];exact d);apply J [24,164,31,42,26];refine q rfl rfl (vQ rfl rfl (C5 U U)) ?_;refine J [432,31,7] ?_;rw[w];apply J [178];apply eJ (xh b l i p d C U) ⟨_,bn.rd⟩;apply J [151,2,161,20];refine aW.split 19 rfl (λau=>?_) (λau=>?_);have au:=dp au;apply J [46,105,136,164,120];exact hU (ao (a7 _));have au:=eb au;apply J [301,17];refine c9 rfl rfl rfl (uJ rfl) ?_;refine c9 rfl rfl rfl (n7 0 rfl rfl) ?_;refine J [594] ?_;refine c9 rfl rfl rfl (n7 3 rfl rfl) ?_;refine c9 rfl rfl rfl (dG rfl rfl (pM kN d 3 U rfl)) ?_;apply J [274,97];refine Ve rfl (λu=>?_) (λu=>absurd U u);apply J [24,164,120];exact hU (ao (a7 _))
def mL:fi:=⟨0,0,0⟩
def cV(l:List b3)(h:Int):fi×Int:=match ej l h 1 with
  | some (_,p)=>(p.o,0)
  | none=>(mL,8)
theorem zS(b:Nat)(l:List b3)(h:Int)(D:dQ l)(d:0<=h/\h<=4294967295):bz 63 [ae b,aS h] (λF=>∃E,cQ F E (cM b) (fN l)) [] (.tuple #[.agg (ints (cV l h).1.l).toArray,aa (cV l h).2]) []:=by
 apply aI Tryz.func63 Tryz.ntmps63;intro F ⟨E,H⟩;apply J [10];haveI:bn F (cM b) E (fN l):=⟨H⟩;refine J [25,372] ?_;intro be;apply J [28,35];cases u:ej l h 1 with|none=>?_|some t=>?_
 have aQ:cV l h=(mL,8):=by grind[cV]
 refine e rfl ?_;apply eJ (yS b l h 1 D d u) ⟨_,bn.rd⟩;apply J [5,115,32];refine Ve rfl (λw=>?_) (λw=>absurd an w);apply J [24];refine q rfl rfl (ei (cs:=ints [_,_,_]) rfl) ?_;apply J [2,19,303,120];exact I5;obtain⟨i,p⟩:=t;obtain⟨N,O,P,Q⟩:=oc d.1 u;have aQ:cV l h=(p.o,0):=by grind[cV]
 refine e rfl ?_;apply eJ (yT b l i p h 1 D d.1 u) ⟨_,bn.rd⟩;apply J [5,115,32];refine Ve rfl (λC=>absurd C an) (λC=>?_);apply J [4,38,395,412];refine q rfl rfl (gM (vs:=ints [_,_,_]) 3 rfl rfl (k9 kN N 0 3 U U rfl) rfl an) ?_;apply J [19,303,30];exact I5
end Go.Proofs.Q.av
namespace Go.Proofs.Q.av
open Go Go.QM
def isEmpty(p:b3):Bool:=decide (p.st=0)
def l6 (l:List b3) (o:fi):List b3×Int×Int:=match l.findIdx? isEmpty with
  | some i=>match l[i]? with
    | some p=>(l.set i ⟨o,1,p.c5⟩,p.c5*256+i,0)
    | none=>(l,0,11)
  | none=>(l,0,11)
theorem Er{l:List b3}{i:Nat}(h:l.findIdx? isEmpty=some i):∃p,l[i]? =some p/\p.st=0:=by grind[List.findIdx?_eq_some_iff_getElem,isEmpty]
theorem dQ.set{l:List b3}(h:dQ l)(i:Nat){p:b3}(u:0<=p.c5/\p.c5<=1048575):dQ (l.set i p) where
 n:=by simp[h.n]
 c5:=λq d=>by rcases List.mem_or_eq_of_mem_set d with d|rfl;exact h.c5 q d;exact u
theorem xO{l:List b3}{i:Nat}{p q:b3}(h:l[i]? =some p):(l.set i q)[i]? =some q:=List.getElem?_set_self (Vl.1 h).1
theorem dQ.lt{l:List b3}(h:dQ l){i:Nat}{p:b3}(d:l[i]? =some p):i<256:=by rw[<-h.n];exact(Vl.1 d).1
theorem oi(b:Nat)(l:List b3)(o:fi)(u:dQ l):bz 129 [ae b,.agg (ints o.l).toArray] bg [a6 264 5 (cM b) 256 256 (fN l)] (.tuple #[aS (l6 l o).2.1,aa (l6 l o).2.2]) [a6 264 5 (cM b) 256 256 (fN (l6 l o).1)]:=by
 apply aI Tryz.func129 Tryz.ntmps129;intro F _;apply J [1];have N:=u.n;refine J [25,580] ?_;intro be;apply J [223,42,38,483,412];refine q rfl rfl (xP 256 210 5 rfl rfl j8) ?_;refine e rfl ?_;refine aO (N2 (cM b) 256 l 184 [] isEmpty bg U (λt=>Q8 t)) (by rw[N];rfl) (ez _) ⟨⟨_,bn.rd⟩,trivial⟩ ?_;intro _ _;apply J [8];cases D:l.findIdx? isEmpty with|none=>?_|some i=>?_
 have aQ:l6 l o=(l,0,11):=by grind[l6]
 rw[aQ];dsimp only;apply J [31,26,137];refine Ve rfl (λw=>?_) (λw=>absurd an w);apply J [24,347];exact hU (bX (bX (a7 _)));obtain⟨p,d,Q⟩:=Er D;have O:=u.lt d;have P:=u.c5 p (Vg d);have aQ:l6 l o=(l.set i ⟨o,1,p.c5⟩,p.c5*256+i,0):=by grind[l6]
 rw[aQ];dsimp only;have E:=xO (q:=⟨o,p.st,p.c5⟩) d;have H:=xO (q:=⟨o,1,p.c5⟩) d;apply J [31,26,137];refine Ve rfl (λC=>absurd C U) (λC=>?_);apply J [44];refine cJ [0,1,2,3,4,5,6,7,8,10,11,-9,12,13,-14] (ao (bX (a7 _))) ?_;apply J [56,16,56,16,581];refine bZ rfl rfl rfl (uJ rfl) ?_;refine J [530,595,530] ?_;refine bZ rfl rfl rfl (uJ rfl) ?_;apply J [530,259];refine eh (v:=.agg (Vy (ints [_,_,_]))) (vs:=ints [_,_,_]) 3 rfl rfl rfl rfl rfl rfl an AK (sL (a':=⟨o,p.st,p.c5⟩) kN d 0 U (Vq rfl) rfl) ?_;refine J [6,595] ?_;refine bZ rfl rfl rfl (n7 3 rfl rfl) ?_;refine DM rfl ?_;refine eh (v:=.int _ _) (vs:=[_]) 1 rfl rfl rfl rfl rfl rfl an FT (sL (a':=⟨o,1,p.c5⟩) kN E 3 U (Vq rfl) rfl) ?_;refine J [113,33] ?_;refine aO (xh b (l.set i ⟨o,1,p.c5⟩) i ⟨o,1,p.c5⟩ H O cy) rfl (ez _) (by rw[List.set_set];exact⟨_,bn.rd⟩) ?_;intro _ _;apply J [8,95];exact hU (b9 0 rfl (by rw[List.set_set];rfl) (bX (a7 _)))
def hY(l:List b3)(h:Int):List b3×Int:=match ej l h 1 with
  | some (i,p)=>(l.set i ⟨p.o,2,p.c5⟩,0)
  | none=>(l,8)
theorem O9(b:Nat)(l:List b3)(h:Int)(d:dQ l)(u:0<=h/\h<=4294967295):bz 372 [ae b,aS h] bg [a6 264 5 (cM b) 256 256 (fN l)] (aa (hY l h).2) [a6 264 5 (cM b) 256 256 (fN (hY l h).1)]:=by
 apply aI Tryz.func372 Tryz.ntmps372;intro F _;apply J [1,107,35];cases w:ej l h 1 with|none=>?_|some t=>?_
 have aQ:hY l h=(l,8):=by grind[hY]
 refine e rfl ?_;apply eJ (yS b l h 1 d u w) ⟨_,bn.rd⟩;apply J [5];rw[aQ];dsimp only;apply J [115,171];refine Ve rfl (λC=>absurd C an) (λC=>?_);apply J [4,134];exact hT;obtain⟨i,p⟩:=t;obtain⟨E,N,P,Q⟩:=oc u.1 w;have aQ:hY l h=(l.set i ⟨p.o,2,p.c5⟩,0):=by grind[hY]
 have H:=d.c5 p (Vg E);have O:=d.n;refine e rfl ?_;apply eJ (yT b l i p h 1 d u.1 w) ⟨_,bn.rd⟩;apply J [5];rw[aQ];dsimp only;apply J [115,171];refine Ve rfl (λD=>?_) (λD=>absurd an D);apply J [37,395];refine q rfl rfl (n7 3 rfl rfl) ?_;refine et ?_;refine eh (v:=.int _ _) (vs:=[_]) 1 rfl rfl rfl rfl rfl rfl an AK (sL (a':=⟨p.o,2,p.c5⟩) kN E 3 U (Vq rfl) rfl) ?_;apply J [3,134];exact hT
def jb(p:b3):b3:=if 1048575<p.c5+1 then⟨mL,3,1048575⟩else⟨mL,0,p.c5+1⟩
def pN(l:List b3)(h:Int):List b3×fi×Int:=match ej l h 2 with
  | some (i,p)=>(l.set i (jb p),p.o,0)
  | none=>(l,mL,8)
theorem Nn(b:Nat)(l:List b3)(h:Int)(u:dQ l)(w:0<=h/\h<=4294967295):bz 221 [ae b,aS h] bg [a6 264 5 (cM b) 256 256 (fN l)] (.tuple #[.agg (ints (pN l h).2.1.l).toArray,aa (pN l h).2.2]) [a6 264 5 (cM b) 256 256 (fN (pN l h).1)]:=by
 apply aI Tryz.func221 Tryz.ntmps221;intro F _;refine J [1,25,372] ?_;intro cj;apply J [28,35];cases D:ej l h 2 with|none=>?_|some t=>?_
 have aQ:pN l h=(l,mL,8):=by grind[pN]
 refine e rfl ?_;apply eJ (yS b l h 2 u w D) ⟨_,bn.rd⟩;apply J [8];rw[aQ];dsimp only;apply J [115,32];refine Ve rfl (λE=>?_) (λE=>absurd an E);apply J [24];refine q rfl rfl (ei (cs:=ints [_,_,_]) rfl) ?_;apply J [2,19,303,120];exact ca.i () [_,_] ⟨(fl (n:=3) rfl rfl rfl rfl),rfl,trivial⟩ rfl trivial (bX (bX (a7 _)));obtain⟨i,p⟩:=t;obtain⟨d,V,ah,aq⟩:=oc w.1 D;have aQ:pN l h=(l.set i (jb p),p.o,0):=by grind[pN]
 have P:=u.c5 p (Vg d);have Z:=u.n;refine e rfl ?_;apply eJ (yT b l i p h 2 u w.1 D) ⟨_,bn.rd⟩;apply J [8];rw[aQ];dsimp only;apply J [115,32];refine Ve rfl (λH=>absurd H an) (λH=>?_);have N:=xO (q:=⟨mL,0,p.c5+1⟩) d;have W:=xO (q:=⟨mL,3,1048575⟩) d;apply J [4,38,395,412];refine q rfl rfl (gM (vs:=ints [_,_,_]) 3 rfl rfl (k9 kN d 0 3 U U rfl) rfl an) ?_;refine J [0,372] ?_;intro O;apply J [19,303,3,38,158,395];refine q rfl rfl (n7 4 rfl rfl) ?_;refine q rfl rfl (dG rfl rfl (pM kN d 4 U rfl)) ?_;refine q rfl rfl (add rfl rfl (re U U)) ?_;apply J [478,395,19];refine eh (v:=.agg #[_,_,_,_,_]) (vs:=[_,_,_,_,_]) 5 rfl rfl rfl rfl rfl rfl an AK (sL (a':=⟨mL,0,p.c5+1⟩) kN d 0 U (Vq rfl) rfl) ?_;apply J [29,38,395];refine q rfl rfl (n7 4 rfl rfl) ?_;refine q rfl rfl (dG rfl rfl (pM kN N 4 U rfl)) ?_;apply J [241,3];apply Ve rfl<;>intro Q;have C:jb p=⟨mL,3,1048575⟩:=by rw[jb,az U]
 rw[C];apply J [37,478,395,19];refine eh (v:=.agg #[_,_,_,_,_]) (vs:=[_,_,_,_,_]) 5 rfl rfl rfl rfl rfl rfl an FT (sL (a':=⟨mL,3,1048575⟩) kN N 0 U (Vq rfl) rfl) ?_;apply J [93,330,19,303,30];exact ca.i () [_,_] ⟨(fl (n:=3) rfl rfl rfl rfl),rfl,trivial⟩ rfl trivial (b9 1 rfl (by rw[List.set_set];rfl) (bw (a7 _)));have C:jb p=⟨mL,0,p.c5+1⟩:=by rw[jb,al U]
 rw[C];apply J [4,24,330,19,303,30];exact ca.i () [_,_] ⟨(fl (n:=3) rfl rfl rfl rfl),rfl,trivial⟩ rfl trivial (b9 1 rfl rfl (bw (a7 _)))
end Go.Proofs.Q.av
namespace Go.Proofs.Q.av
open Go Go.QM
def mS(s:Int)(z:List (b3×Nat)):List Int:=(z.filter λt=>decide (t.1.st=s)).map λt=>t.1.c5*256+(t.2:Int)
def dY(l:List b3)(s:Int):List Int:=mS s l.zipIdx
theorem vP(s:Int)(z:List (b3×Nat))(t:b3×Nat):mS s (z++[t])=if t.1.st=s then mS s z++[t.1.c5*256+(t.2:Int)]else mS s z:=by grind[mS]
theorem UT{l:List b3}{k:Nat}{p:b3}(h:l[k]? =some p):l.zipIdx.take (k+1)=l.zipIdx.take k++[(p,k)]:=by grind[Vs]
theorem C1(s:Int)(z:List (b3×Nat)):(mS s z).length<=z.length:=by rw[mS,List.length_map];exact List.length_filter_le _ _
theorem qw(l:List b3)(s:Int):(dY l s).length<=l.length:=by have:=C1 s l.zipIdx;rw[List.length_zipIdx]at this;exact this
theorem C2(b:Nat)(l:List b3)(s:Int)(H:dQ l):bK 106 [ae b,aa s] (λF=>∃E,cQ F E (cM b) (fN l)) [] (λy:Option Addr×Nat=>.slice y.1 (dY l s).length y.2) (λ_=>True) (λy=>[a6 33 1 y.1 (dY l s).length y.2 (cO .u32 (dY l s))]):=by
 apply aI Tryz.func106 Tryz.ntmps106;intro F ⟨E,P⟩;apply J [10];haveI:bn F (cM b) E (fN l):=⟨P⟩;have V:=H.n;have D:(fN l).length=1280:=by grind[HZ]
 apply J [117,188,103,122,38,483,412];refine q rfl rfl (gM (vs:=_) 1280 rfl rfl (by rw[List.drop_zero,<-D];exact List.take_length) D an) ?_;apply J [111];refine VK (ι:=Nat×Option Addr×Nat) (λi=>i.1<=256) (λi=>[(0,ae b),(1,aa s),(5,.slice i.2.1 (mS s (l.zipIdx.take i.1)).length i.2.2),(13,.agg (fN l).toArray),(14,aa ((i.1:Nat):Int))]) (λi=>ag [a6 33 1 i.2.1 (mS s (l.zipIdx.take i.1)).length i.2.2 (cO .u32 (mS s (l.zipIdx.take i.1))),F]) (λi=>256-i.1) ⟨0,none,0⟩ (Vh _) bH ((dE 33 1 _).trans (b9 0 rfl j8 (ao (a7 _)))) ?_;rintro⟨k,ad,cap⟩ hinv W;dsimp only[cx]at hinv⊢;apply J [43];apply Ve rfl<;>intro C;have C:k<256:=U
 obtain⟨p,w,Q⟩:=H.at C;have u:=UT w;have hle:=C1 s (l.zipIdx.take k);rw[List.length_take]at hle;apply J [89,26];refine q rfl rfl (NX 256 210 5 rfl rfl rfl rfl U U (k9 kN w 0 5 U U rfl)) ?_;refine e rfl ?_;refine gA (l:=[.int _ _,.int _ _,.int _ _,.int _ _,.int _ _]) rfl rfl ?_;intro be;apply J [48,19,312,93,336,224];apply Ve rfl<;>intro d;apply J [112,158,27];apply eJ (xh b l k p w C U) ⟨_,bn.rd⟩;refine J [8,0,148] ?_;intro bA;refine e rfl ?_;refine ap 4 rfl rfl rfl rfl rfl (Vq rfl) rfl rfl U gv ?_;intro N O;refine J [60,84] ?_;exact⟨rfl,⟨k+1,N,O⟩,cy,cy,⟨rfl,rfl,congrArg (λn=>VO _ n _) (by rw[u,vP,az d];simp),rfl,rfl,trivial⟩,(b9 0 rfl (by rw[u,vP,az d];simp[cO]) (bw (a7 _)))⟩;refine J [114] ?_;exact⟨rfl,⟨k+1,ad,cap⟩,cy,cy,⟨rfl,rfl,congrArg (λn=>VO _ n _) (by rw[u,vP,al d]),rfl,rfl,trivial⟩,(b9 1 rfl (by rw[u,vP,al d]) (bX (a7 _)))⟩;obtain rfl:k=256:=U
 rw[List.take_of_length_le (by rw[List.length_zipIdx];omega)];apply J [198,91];exact bv ⟨ad,cap⟩ trivial (ao (ao (a7 _)))
theorem AC(b:Nat)(l:List b3)(u:dQ l):bK 59 [ae b] (λF=>∃E,cQ F E (cM b) (fN l)) [] (λy:Option Addr×Nat=>.slice y.1 (dY l 1).length y.2) (λ_=>True) (λy=>[a6 33 1 y.1 (dY l 1).length y.2 (cO .u32 (dY l 1))]):=by apply aI Tryz.func59 Tryz.ntmps59;intro F d;apply J [10,117,98];refine aO (C2 b l 1 u) rfl (ez _) (d.imp λ_ h=>qs h) ?_;intro y _;apply J [5,91];exact bv y trivial (ao (ao (a7 _)))
theorem RP(b:Nat)(l:List b3)(u:dQ l):bz 186 [ae b] (λF=>∃E,cQ F E (cM b) (fN l)) [] (aa (dY l 0).length) []:=by apply aI Tryz.func186 Tryz.ntmps186;intro F d;apply J [10,107,98];refine aO (C2 b l 0 u) rfl (ez _) (d.imp λ_ h=>qs h) ?_;intro y _;apply J [5,255,30];exact fc (bX (a7 _))
end Go.Proofs.Q.av
namespace Go.Proofs.Q.gy
open Go Go.QM
def B1(t:Int×Int):List Value:=[.int .i64 t.1,.int .i64 t.2]
def tl(l:List (Int×Int)):List Value:=l.flatMap B1
def eC(b:Nat)(p n:Int)(l:List (Int×Int)):aw:=eQ λx:Option Addr×Nat=>pure' True (ag [aj b 255 [.int .i64 p,.int .i64 n,.slice x.1 l.length x.2],a6 253 2 x.1 l.length x.2 (tl l)])
theorem pY(p:Int)(u:1<=p)(w:p<=16):bK 127 [aa p] bg [] (λb:Nat=>ae b) (λ_=>True) (λb=>[eC b p 0 []]):=by apply aI Tryz.func127 Tryz.ntmps127;intro F _;refine J [10,130,180,392,168,97] ?_;refine Ve rfl (λd=>absurd d U) (λd=>?_);apply J [4,26,531,0];refine fe (v:=.agg #[_,_,_]) (l:=[.int _ _,.int _ _,.slice _ _ _]) rfl rfl ?_;intro be;apply J [109];exact bv be trivial ((dE 253 2 _).trans (aA ⟨none,0⟩ trivial (bX (ao (ao (a7 _))))))
theorem s4(p:Int)(h:p<1\/16<p):bz 127 [aa p] bg [] (.pointer none) []:=by apply aI Tryz.func127 Tryz.ntmps127;intro F _;apply J [10,130,180];refine aW.split 5 rfl (λd=>?_) (λd=>?_);have d:=dp d;apply J [102,136,276];exact dy;have d:=eb d;apply J [168,97];refine Ve rfl (λu=>?_) (λu=>absurd U u);apply J [170,50];exact dy
theorem vN(b:Nat)(p n:Int)(l:List (Int×Int))(ad:Option Addr)(cap:Nat)(xs:List Int)(P:1<=p/\p<=16)(au:0<=n/\n<=1000000000)(O:l.length<=1000000)(Q:xs.length<=1000000):bz 373 [ae b,.slice ad xs.length cap] (λF=>∃E,cQ F E ad (ints xs)) [eC b p n l] (aa ((l.length+xs.length:Nat):Int)) [eC b p n (l++xs.map (λx=>(x,n+p)))]:=by
 apply aI Tryz.func373 Tryz.ntmps373;intro F ⟨E,H⟩;apply J [1];haveI:bn F ad E (ints xs):=⟨H⟩;apply ab.open 0 rfl;rintro⟨C,D⟩-;apply J [11,39,103,122,34,177];refine VK (ι:=Nat×Option Addr×Nat) (λi=>i.1<=xs.length) (λi=>[(0,ae b),(9,.slice ad xs.length cap),(10,aa xs.length),(11,aa i.1)]) (λi=>ag [aj b 255 [aa p,aa n,.slice i.2.1 (l.length+i.1) i.2.2],a6 253 2 i.2.1 (l.length+i.1) i.2.2 (tl (l++(xs.take i.1).map (λx=>(x,n+p)))),F]) (λi=>xs.length-i.1) ⟨0,C,D⟩ (Vh _) bH (ao (b9 0 rfl cE (ao (a7 _)))) ?_;rintro⟨k,d,u⟩ hinv V;dsimp only[cx]at hinv⊢;apply J [43];apply Ve rfl<;>intro w;have w:k<xs.length:=U
 obtain⟨x,qN⟩:∃x,xs[k]? =some x:=⟨xs[k],Vb w⟩;have N:0<(ints xs).length:=by grind[d7]
 refine J [189,519,28] ?_;refine ab.draw _ [20] [0,1,2,3,4,5,6,7,8,9,10,11,12,13,14,15,-16,-17,18,19,-20] aV aV (ao (a7 _)) ?_;refine J [56,186,16,135,72,391,445,13,293] ?_;intro bA;refine J [47] ?_;refine ap 16 rfl rfl rfl rfl rfl (Vq rfl) rfl rfl U gv ?_;intro d u;refine J [6,66,364,67,368,308,343] ?_;exact⟨rfl,⟨k+1,d,u⟩,cy,cy,bH,(ao (b9 0 rfl (by simp[tl,B1,Vs,qN,Nat.add_assoc]) (bX (a7 _))))⟩;obtain rfl:k=xs.length:=by omega
 apply J [21,101];refine q rfl rfl (len 253 2 rfl rfl) ?_;apply J [30];exact fc (aA ⟨d,u⟩ trivial (b9 0 rfl cE (b9 0 rfl cE (ao (a7 _)))))
theorem Me(d:Option Addr):bK 284 [.pointer d] bg [] (λc:Nat=>.func (.func 338) #[] #[ae c]) (λ_=>True) (λc=>[aj c 133 [.pointer d]]):=by apply aI Tryz.func284 Tryz.ntmps284;intro F _;refine J [187,532] ?_;intro cj;apply J [146,93,396,146,232];exact bv cj trivial (ao (ao (a7 _)))
def lP(n:Int)(l:List (Int×Int)):List (Int×Int):=l.takeWhile λt=>t.2<=n
def m8(n:Int)(l:List (Int×Int)):List (Int×Int):=l.dropWhile λt=>t.2<=n
theorem Md(c b:Nat)(p n:Int)(l:List (Int×Int))(ah:l.length<=100000000):rm VT 338 [ae c] (λx:Int=>[aa x]) (λN _=>N.length<l.length) [aj c 133 [ae b],eC b p n l] (λ_:Unit=>(lP n l).map (·.1)) (λ_=>True) (λ_=>[aj c 133 [ae b],eC b p n (m8 n l)]):=by
 refine rm.intro aV Tryz.func338 rfl Tryz.ntmps338 j8 rfl ?_;intro V bu P;refine J [11,434] ?_;rintro⟨H,O⟩-;apply J [61,51];refine VK (ι:=List (Int×Int)×List (Int×Int)×Option Addr×Nat) (λi=>l=i.1++i.2.1/\(∀t∈i.1,t.2<=n)) (λi=>[(0,.func (.yield V) #[] #[]),(1,ae c)]) (λi=>ag [bu (i.1.map (·.1)),aj c 133 [ae b],aj b 255 [aa p,aa n,.slice i.2.2.1 i.2.1.length i.2.2.2],a6 253 2 i.2.2.1 i.2.1.length i.2.2.2 (tl i.2.1)]) (λi=>i.2.1.length) ⟨[],l,H,O⟩ ⟨rfl,by simp⟩ bH (bw (bw (ao (ao (a7 _))))) ?_;rintro⟨u,d,ad,cap⟩ ⟨E,D⟩ ar;dsimp only[cx]at E D⊢;cases d with|nil=>?_|cons t d=>?_
 apply J [7,7,596,69,66,131];refine bZ rfl rfl rfl (len 253 2 rfl rfl) ?_;apply J [439,153];refine cd.known 10 rfl (b':=false) (db cE) ?_;apply J [219,219,219,243,52,49,321];exact⟨rfl,(),trivial,(by(have w:lP n l=u:=by grind[lP,Ir]);(have C:m8 n l=[]:=by grind[m8,DS]);rw[w,C];exact(ao (ao (aA ⟨ad,cap⟩ trivial (ao (ao (a7 _)))))))⟩;have aq:u.length+d.length+1=l.length:=cv
 have Z:0<(tl (t::d)).length:=by grind[tl,B1]
 simp only[List.length_cons];apply J [7,7,596,69,66,131];refine bZ rfl rfl rfl (len 253 2 rfl rfl) ?_;apply J [439,153];refine cd.known 10 rfl (b':=true) (c1 U) ?_;apply J [163,305,374,163];refine eV rfl rfl rfl rfl (kK 253 2 rfl rfl rfl U U eB) ?_;refine eV rfl rfl rfl rfl (oR 1 rfl rfl eB) ?_;refine eV rfl rfl rfl rfl (dG rfl rfl rfl) ?_;apply J [163,305,476,163];refine eV rfl rfl rfl rfl (leq rfl rfl) ?_;apply J [329,52];apply Ve rfl<;>intro hle;apply J [4,51,24,53,55,75];refine q rfl rfl (kK 253 2 rfl rfl rfl U U eB) ?_;refine q rfl rfl (oR 0 rfl rfl eB) ?_;refine J [533,31,583,69,69,66,131] ?_;refine bZ rfl rfl rfl (HF 253 2 rfl rfl rfl U U) ?_;apply J [66,364,67,368,52,129,27];refine ym 1 (P (u.map (·.1)) t.1 _ rV) rfl rfl rfl ?_;rintro W bl ⟨rfl,rfl⟩;apply J [18,64,106,23];exact⟨rfl,⟨u++[t],d,_,_⟩,⟨by simp[E],by intro s Q;rcases Vd.1 Q with h|h;exact D s h;rw[List.mem_singleton.1 h];exact hle⟩,cE,bH,(b9 0 rfl cE (bX (ao (eO 0 rfl (BK (j:=1) U) (a7 _)))))⟩;apply J [321];exact⟨rfl,(),trivial,(by have w:lP n l=u:=(by grind[lP,Is,List.takeWhile_cons_of_neg]);have C:m8 n l=t::d:=(by grind[m8,DT,List.dropWhile_cons_of_neg]);rw[w,C];exact(ao (ao (aA ⟨ad,cap⟩ trivial (ao (ao (a7 _)))))))⟩
def Fb(c:Nat)(xs:List Int):aw:=eQ λx:Option Addr×Nat=>pure' True (ag [aj c 90 [.slice x.1 xs.length x.2],a6 3 1 x.1 xs.length x.2 (ints xs)])
theorem B3(b:Nat)(p n:Int)(l:List (Int×Int))(au:0<=n/\n<=1000000000)(E:l.length<=100000000):bK 220 [ae b] bg [eC b p n l] (λy:Option Addr×Nat=>.slice y.1 ((lP (n+1) l).map (·.1)).length y.2) (λ_=>True) (λy=>[eC b p (n+1) (m8 (n+1) l),a6 3 1 y.1 ((lP (n+1) l).map (·.1)).length y.2 (ints ((lP (n+1) l).map (·.1)))]):=by refine eD.Aa (rs:=[.tmp 2]) aV Tryz.func220 rfl Tryz.ntmps220 j8 rfl ?_;intro F _;refine J [286] ?_;rintro⟨ad,cap⟩-;apply J [11,117,25];refine gA (l:=[.slice _ _ _]) rfl rfl ?_;intro w;refine J [29,42,87,149,269,208,29,98] ?_;refine aO (Me _) rfl (ez _) trivial ?_;intro c2 _;apply J [9,225];refine WE (B:=ag [aj c2 133 [ae b],eC b p (n+1) l,Fb w [],F]) ((dE 3 1 _).trans (bX (aA ⟨ad,cap⟩ trivial (bX (bw (aA ⟨none,0⟩ trivial (bX (ao (ao (a7 _)))))))))) ?_;refine ab.Ha (λC=>[Fb w C]) (Md c2 b p (n+1) l E) rfl (d8 0 rfl (d8 0 rfl (ez _))) (d8 0 rfl (ez _)) (λ_=>rfl) rfl ?_ ?_;rintro Z C x H V;apply J [1,157,28];refine⟨rfl,(VJ _),λN=>?_⟩;refine J [286] ?_;rintro⟨O,Q⟩-;refine J [11,51,157,53,90] ?_;intro P;refine J [0,534] ?_;intro d u;apply J [270];refine aW.nil (jA ?_);refine⟨rfl,rfl,?_⟩;change aG (ag [_,_,_,_]) (ag [_,_]);exact(aA ⟨d,u⟩ trivial (b9 0 rfl (by simp[dN,Value.cells]) (b9 0 rfl (by simp[ints]) (bX (a7 _)))));intro D y W;refine(jA (iL ?_));refine J [57,434] ?_;rintro⟨d,u⟩-;apply J [152,24,53,91];exact .inl ⟨⟨d,u⟩,[_],D,rfl,rfl,⟨rfl,trivial⟩,rfl,trivial,(eT (cZ (bX (bw (a7 _)))))⟩
end Go.Proofs.Q.gy
namespace Go.Proofs.Q
open Go Go.QM
def bL(c:Nat):Nat:=[0,64,128,256,32,32,48,256,1024].getD c 0
def c7(S:cD)(c a:Nat):Prop:=(c∈cls/\fb (cf c) (S.C c) a)\/(c=8/\∃p∈S.Fr,a=p*1024)
variable{c:Nat}
theorem qQ(h:c∈cls):bL c=cf c:=by rcases tW h with rfl|rfl|rfl|rfl|rfl|rfl|rfl<;>rfl
variable{top:Nat}{S:cD}
theorem zM(u:dh top S){p:Nat}(h:p∈S.Fr):p∉cls.flatMap (hP S.C):=λd=>(VH.1 u.bC).2.2 p d p h rfl
variable{a:Nat}
theorem c7.bd(u:dh top S)(h:c7 S c a):a %16=0/\a+bL c<=1024*2^top/\32<=bL c/\bL c<=1024:=by rcases h with⟨d,h⟩|⟨rfl,p,w,rfl⟩;have:=fb.bd u d h;rw[qQ d];refine⟨this.1,this.2.2,?_⟩;rcases tW d with rfl|rfl|rfl|rfl|rfl|rfl|rfl<;>decide;have:=u.lt p (Vd.2 (.inr w));have e:bL 8=1024:=rfl;omega
theorem c7.apart(u:dh top S){d b:Nat}(h:c7 S c a)(k:c7 S d b)(D:c≠d\/a≠b):a+bL c<=b\/b+bL d<=a:=by have e:bL 8=1024:=rfl;rcases h with⟨w,h⟩|⟨rfl,p,E,rfl⟩<;>rcases k with⟨C,k⟩|⟨rfl,q,H,rfl⟩;rw[qQ w,qQ C];exact fb.apart u w C h k D;have:=fb.frame u w h (zM u H);rw[qQ w];omega;have:=fb.frame u C k (zM u E);rw[qQ C];omega;omega
structure gk(top:Nat)(S bb:cD)(Y X:Nat->Nat->Prop):Prop where
  P:dh top bb
  p:∀c a,c7 S c a->¬Y c a->c7 bb c a
  m:∀c a,c7 S c a->¬X c a->∀o,a<=o->o<a+bL c->bb.m o=S.m o
  qf:∀c a,Y c a->X c a
theorem gk.trans{T V:cD}{Y X u d:Nat->Nat->Prop}(g:gk top S T Y X)(k:gk top T V u d):gk top S V (λc a=>Y c a\/u c a) (λc a=>X c a\/d c a):=
 ⟨k.P,λc a h au=>k.p c a (g.p c a h λh=>au (.inl h)) λh=>au (.inr h),λc a h au o w C=>(k.m c a (g.p c a h λh=>au (.inl (g.qf c a h))) (λh=>au (.inr h)) o w C).trans (g.m c a h (λh=>au (.inl h)) o w C),
  λc a h=>h.imp (g.qf c a) (k.qf c a)⟩
variable{bb:cD}
theorem gk.w{Y X:Nat->Nat->Prop}(g:gk top S bb Y X){o:Nat}(h:c7 S c a)(d:¬X c a)(u:a<=o)(C:o+8<=a+bL c):cU bb.m o=cU S.m o:=
 uD λi D E=>g.m c a h d i U U
def h0:Nat->Nat->Prop:=λ_ _=>False
def fA(c a:Nat):Nat->Nat->Prop:=λd b=>d=c/\b=a
theorem dh.mem(h:dh top S)(d:bb.C=S.C)(u:bb.Fr=S.Fr):dh top bb:=by obtain⟨Q,N,C,Fr,m⟩:=S;obtain⟨E,O,w,D,H⟩:=bb;dsimp only at d u;subst d;subst u;exact⟨h.fZ,h.ok,h.bC,h.lt⟩
theorem oS(u:dh top S)(h:c7 S c a)(D:bb.C=S.C)(E:bb.Fr=S.Fr)(hm:∀o,o<a\/a+bL c<=o->bb.m o=S.m o):gk top S bb h0 (fA c a):=by refine⟨u.mem D E,λd b k _=>?_,λd b k au o H N=>hm o ?_,λ_ _ h=>h.elim⟩;grind[c7];have:=c7.apart u h k (by by_cases e:c=d;exact .inr λw=>au ⟨e.symm,w.symm⟩;exact .inl e);omega
theorem wF(D:dh top S)(u:bb.C=S.C)(w:bb.Fr=S.Fr)(hm:bb.m=S.m):gk top S bb h0 h0:=
 ⟨D.mem u w,λd b k _=>by rw[c7,u,w];exact k,λd b k _ o _ _=>by rw[hm],λ_ _ h=>h⟩
theorem i5.inv2{y:Nat×Nat×List cc}(g:i5 top S c y)(d:bb.C=dK S.C c y.2.2)(u:bb.Fr=S.Fr):dh top bb:=by obtain⟨E,N,w,D,H⟩:=bb;dsimp only at d u;subst d;subst u;exact g.inv _ _ _
variable{i:Nat}
theorem jY.inv2{aC:Nat}{L':List cc}(g:jY top S c aC i L')(d:bb.C=dK S.C c L')(u:bb.Fr=S.Fr):dh top bb:=by obtain⟨E,N,w,D,H⟩:=bb;dsimp only at d u;subst d;subst u;exact g.inv _ _ _
theorem i5.uM{y:Nat×Nat×List cc}(u:dh top S)(w:c∈cls)(g:i5 top S c y){d b:Nat}(h:c7 S d b):¬fA c (addr c y) d b:=by rintro⟨rfl,rfl⟩;rcases h with⟨_,h⟩|⟨rfl,_⟩;exact g.fresh u w h;trivial
theorem wE{y:Nat×Nat×List cc}(N:dh top S)(u:c∈cls)(g:i5 top S c y)(w:bb.C=dK S.C c y.2.2)(D:bb.Fr=S.Fr)(hm:∀o,o<addr c y\/addr c y+cf c<=o->bb.m o=S.m o):gk top S bb h0 h0/\c7 bb c (addr c y):=by have E:=g.inv2 w D;have am:∀d b,c7 S d b->c7 bb d b:=λd b k=>(by rcases k with⟨O,k⟩|⟨rfl,p,P,rfl⟩;exact .inl ⟨O,by rw[w];exact(g.jF u).2 (.inl k)⟩;exact .inr ⟨rfl,p,by rw[D];exact P,rfl⟩);have au:c7 bb c (addr c y):=.inl ⟨u,by rw[w];exact(g.jF u).2 (.inr ⟨rfl,rfl⟩)⟩;refine⟨⟨E,λd b k _=>am d b k,λd b k _ o Q V=>hm o ?_,λ_ _ h=>h⟩,au⟩;have:=c7.apart E (am d b k) au (by have:=g.uM N u k;by_cases e:d=c;exact .inr λH=>this ⟨e,H⟩;exact .inl e);grind[qQ]
theorem wD{aC:Nat}{L':List cc}(E:dh top S)(N:c∈cls)(g:jY top S c aC i L')(H:a=aC*1024+64+i*cf c)(u:bb.C=dK S.C c L')(w:bb.Fr=S.Fr)(hm:bb.m=S.m):gk top S bb (fA c a) (fA c a):=by refine⟨g.inv2 u w,λd b k au=>?_,λd b k _ o _ _=>by rw[hm],λ_ _ h=>h⟩;rcases k with⟨O,k⟩|⟨rfl,p,P,rfl⟩;refine .inl ⟨O,?_⟩;rw[u];refine g.jF E N k ?_;by_cases e:d=c;exact .inr λD=>au ⟨e,by rw[H];exact D⟩;omega;exact .inr ⟨rfl,p,by rw[w];exact P,rfl⟩
theorem Np{p:Nat}(V:dh top S)(u:dh top bb)(N:bb.C=S.C)(O:bb.Fr=p::S.Fr)(hm:∀o,o<p*1024\/p*1024+1024<=o->bb.m o=S.m o):gk top S bb h0 h0/\c7 bb 8 (p*1024)/\¬c7 S 8 (p*1024):=by
 have am:∀d b,c7 S d b->c7 bb d b:=λd b k=>(by rcases k with⟨P,k⟩|⟨rfl,q,D,rfl⟩;exact .inl ⟨P,by rw[N];exact k⟩;exact .inr ⟨rfl,q,by rw[O];exact List.mem_cons_of_mem _ D,rfl⟩);have au:c7 bb 8 (p*1024):=by grind[c7]
 have w:¬c7 S 8 (p*1024):=(by rintro(⟨h,_⟩|⟨_,q,D,e⟩);trivial;(obtain rfl:p=q:=by omega);have H:bb.Fr.Nodup:=(VH.1 u.bC).2.1;simp_all);refine⟨⟨u,λd b k _=>am d b k,λd b k _ o H Q=>hm o ?_,λ_ _ h=>h⟩,au,w⟩;have:=c7.apart u (am d b k) au (by by_cases e:d=8;subst e;exact .inr λE=>w (E▸k);exact .inl e);have e:bL 8=1024:=rfl;omega
theorem dh.Iz(h:dh top S){p:Nat}(u:bb.C=S.C)(w:bb.Fr=S.Fr.erase p):dh top bb:=by
 obtain⟨Q,P,C,Fr,m⟩:=S;obtain⟨N,V,d,H,O⟩:=bb;dsimp only at u w;subst u;subst w;have D:(dr d (Fr.erase p)).Sublist (dr d Fr):=by grind[dr,List.erase_sublist]
 exact⟨h.fZ,h.ok,h.bC.sublist D,λq E=>h.lt q (D.subset E)⟩
theorem Nr{p:Nat}(D:dh top S)(u:bb.C=S.C)(w:bb.Fr=S.Fr.erase p)(hm:bb.m=S.m):gk top S bb (fA 8 (p*1024)) (fA 8 (p*1024)):=by refine⟨D.Iz u w,λd b k au=>?_,λd b k _ o _ _=>by rw[hm],λ_ _ h=>h⟩;rcases k with⟨E,k⟩|⟨rfl,q,H,rfl⟩;exact .inl ⟨E,by rw[u];exact k⟩;exact .inr ⟨rfl,q,by rw[w];exact(List.mem_erase_of_ne λe=>au ⟨rfl,by rw[e]⟩).2 H,rfl⟩
theorem gn.m0{t:Nat}{Y X:Nat->Nat->Prop}(h:gn top S t)(g:gk top S bb Y X)(N:¬X 2 t)(O:∀j,j<16->br S.m t j≠0->¬X 7 (br S.m t j)):
 gn top bb t/\(∀j,j<16->br bb.m t j=br S.m t j)/\∀s,s<256->dZ bb.m t s=dZ S.m t s/\dF bb.m t s=dF S.m t s:=by have bA:c7 S 2 t:=.inl ⟨c2,h.tk⟩;have H:∀j,j<16->br S.m t j≠0->c7 S 7 (br S.m t j):=λj u d=>.inl ⟨fQ,h.fJ j u d⟩;have un:∀{c a},c∈cls->c7 bb c a->fb (cf c) (bb.C c) a:=λ{c a} Q k=>(by rcases k with⟨_,k⟩|⟨rfl,_⟩;all_goals trivial);refine h.nB (un c2 (g.p 2 t bA λk=>N (g.qf _ _ k))) (λj u d=>un fQ (g.p 7 _ (H j u d) λk=>O j u d (g.qf _ _ k))) λo P=>?_;rcases P with⟨D,E⟩|⟨j,u,d,D,E⟩;exact g.w bA N D E;exact g.w (H j u d) (O j u d) D E
def hg:Nat->(Nat->Nat)->Nat
  | 0,_=>0
  | n+1,f=>hg n f+f n
theorem q5{f g:Nat->Nat}:∀{n:Nat},(∀i,i<n->f i=g i)->hg n f=hg n g
 | 0,_=>rfl
 | n+1,h=>by rw[hg,hg,q5 (n:=n) λi d=>h i U,h n U]
theorem p7{f g:Nat->Nat}{k:Nat}:∀{n:Nat},k<n->(∀i,i<n->i≠k->g i=f i)->hg n g+f k=hg n f+g k
 | n+1,C,h=>by rw[hg,hg];by_cases e:k=n;subst e;rw[q5 (n:=k) λi u=>h i U U];omega;have:=p7 (n:=n) U λi u w=>h i U w;rw[h n U λd=>e d.symm];omega
theorem p8{f:Nat->Nat}:∀{n:Nat},(∀i,i<n->f i=0)->hg n f=0
 | 0,_=>rfl
 | n+1,h=>by rw[hg,p8 (n:=n) λi d=>h i U,h n U]
theorem vb{f:Nat->Nat}{k:Nat}:∀{n:Nat},k<n->f k<=hg n f
 | n+1,d=>by rw[hg];by_cases e:k=n;subst e;omega;have:=vb (f:=f) (n:=n) (k:=k) U;omega
def be(x:Nat):Nat:=if x=0 then 0 else 1
def nm(aJ:Nat->Nat->Nat):Nat:=hg 256 λi=>hg 256 λs=>be (aJ i s)
theorem zk{aJ nr:Nat->Nat->Nat}{s:Nat}(u:i<256)(hs:s<256)(h:∀j r,(j≠i\/r≠s)->nr j r=aJ j r):nm nr+be (aJ i s)=nm aJ+be (nr i s):=by
 have w:nm nr+hg 256 (λs=>be (aJ i s))=nm aJ+hg 256 (λs=>be (nr i s)):=
  p7 (f:=λi=>hg 256 λs=>be (aJ i s)) (g:=λi=>hg 256 λs=>be (nr i s)) u λj _ d=>q5 λr _=>by rw[h j r (.inl d)]
 have C:hg 256 (λs=>be (nr i s))+be (aJ i s)=hg 256 (λs=>be (aJ i s))+be (nr i s):=
  p7 (f:=λs=>be (aJ i s)) (g:=λs=>be (nr i s)) hs λr _ d=>by rw[h i r (.inr d)]
 omega
structure bV where
  l:List av.b3
  Q:List aD.b1
  bF:Int
  aJ:Nat->Nat->Nat
  own:Nat->Nat
  a8:Nat->Nat->Nat
  pd:Int
  now:Int
  q:List (Int×Int)
  np:Nat
def bD(k:Int)(a:Nat)(f:Int):av.fi:=⟨k,a,f⟩
def cH(l:List av.b3)(i:Nat)(s:Int)(o:av.fi):Prop:=∃g,l[i]? =some ⟨o,s,g⟩
def fs(s:Int):Prop:=s=1\/s=2
theorem cH.inj{l:List av.b3}{s r:Int}{o d:av.fi}(h:cH l i s o)(k:cH l i r d):s=r/\o=d:=by obtain⟨g,h⟩:=h;obtain⟨u,k⟩:=k;simp_all
variable{k:Nat}
theorem cH.set{l:List av.b3}{p:av.b3}{s:Int}{o:av.fi}(h:cH (l.set k p) i s o):(i≠k/\cH l i s o)\/(i=k/\p.st=s/\p.o=o):=by obtain⟨g,h⟩:=h;by_cases e:k=i;grind;rw[Wj e]at h;exact .inl ⟨λd=>e d.symm,g,h⟩
theorem cH.put{l:List av.b3}(p:av.b3){s:Int}{o:av.fi}(h:cH l i s o)(d:i≠k):cH (l.set k p) i s o:=by obtain⟨g,h⟩:=h;exact⟨g,by rw[Wj λe=>d e.symm];exact h⟩
theorem jD{c d:Int}{b:Nat}{f g:Int}(h:bD c a f=bD d b g):c=d/\a=b/\f=g:=by have u:=congrArg av.fi.k h;have w:=congrArg av.fi.a h;have C:=congrArg av.fi.f h;grind[bD]
structure cg(top:Nat)(A:bV)(S:cD):Prop where
  P:dh top S
  Q:S.Q=A.Q/\S.bF=A.bF
  obj:∀i s o,fs s->cH A.l i s o->∃(c a:Nat) (f:Int),o=bD c a f/\(1<=c/\c<=5\/c=8)/\c7 S c a
  un:∀i j s r (c a:Nat) (f g:Int),fs s->fs r->cH A.l i s (bD c a f)->cH A.l j r (bD c a g)->i=j
  gV:∀i a f,cH A.l i 1 (bD 2 a f)->gn top S a/\∀s,s<256->dZ S.m a s=A.aJ i s/\(A.aJ i s≠0->c7 S 6 (dF S.m a s))
  m4:∀i j a b f g s r,cH A.l i 1 (bD 2 a f)->cH A.l j 1 (bD 2 b g)->s<256->r<256->A.aJ i s≠0->A.aJ j r≠0->dF S.m a s=dF S.m b r->i=j/\s=r
  rh:∀i j a b f g u v,cH A.l i 1 (bD 2 a f)->cH A.l j 1 (bD 2 b g)->u<16->v<16->br S.m a u≠0->br S.m a u=br S.m b v->i=j
  qU:fF (960/cf 6) (S.C 6)=nm A.aJ
  mB:∀i s a f,fs s->cH A.l i s (bD 1 a f)->cU S.m a=A.own i
  a8:∀i (c a:Nat) f,cH A.l i 2 (bD c a f)->∀o,o<bL c->S.m (a+o)=A.a8 i o
  gj:(dr S.C S.Fr).length<=A.np
variable{A:bV}
theorem cg.leaf(h:cg top A S){f:Int}(u:cH A.l i 1 (bD 2 a f)){j:Nat}(w:j<16)(d:br S.m a j≠0):c7 S 7 (br S.m a j):=.inl ⟨fQ,(h.gV i a f u).1.fJ j w d⟩
variable{bl:bV}
theorem cg.m0{Y X:Nat->Nat->Prop}(h:cg top A S)(g:gk top S bb Y X)(el:bl.l=A.l)(ah:bl.aJ=A.aJ)(a0:bl.own=A.own)(a1:bl.a8=A.a8)(a2:bb.Q=bl.Q/\bb.bF=bl.bF)
 (W:∀i s (c a:Nat) f,fs s->cH A.l i s (bD c a f)->¬Y c a/\(X c a->s=1/\c≠1/\c≠2)) (av:∀a,¬X 6 a/\¬X 7 a) (au:fF (960/cf 6) (bb.C 6)=fF (960/cf 6) (S.C 6)) (a4:(dr bb.C bb.Fr).length<=bl.np):cg top bl bb:=by
 have N:∀i a f,cH A.l i 1 (bD 2 a f)->_:=λi a f d=>(h.gV i a f d).1.m0 g (λk=>((W i 1 2 a f (.inl rfl) d).2 k).2.2 rfl) λj _ _=>(av _).2;refine⟨g.P,a2,λi s o D d=>?_,?_,λi a f d=>?_,λi j a b f E s r d H D aw aq ar e=>?_,λi j a b f E u v d H hu hv V e=>?_,by rw[au,h.qU,ah],λi s a f D d=>?_,λi c a f d o a5=>?_,a4⟩;rw[el]at d;obtain⟨c,a,f,rfl,a3,am⟩:=h.obj i s o D d;exact⟨c,a,f,rfl,a3,g.p c a am (W i s c a f D d).1⟩;rw[el];exact h.un;rw[el]at d;obtain⟨bM,a9,aB⟩:=N i a f d;obtain⟨_,aD⟩:=h.gV i a f d;refine⟨bM,λs D=>?_⟩;rw[(aB s D).1,(aB s D).2,ah];exact⟨(aD s D).1,λV=>g.p 6 _ ((aD s D).2 V) λk=>(av _).1 (g.qf _ _ k)⟩;rw[el]at d H;rw[ah]at aq ar;rw[((N i a f d).2.2 s D).2,((N j b E H).2.2 r aw).2]at e;exact h.m4 i j a b f E s r d H D aw aq ar e;rw[el]at d H;rw[(N i a f d).2.1 u hu]at V e;rw[(N j b E H).2.1 v hv]at e;exact h.rh i j a b f E u v d H hu hv V e;rw[el]at d;rw[a0];obtain⟨c,aI,E,e,_,am⟩:=h.obj i s _ D d;obtain⟨aT,rfl,rfl⟩:=jD e;have Z:c=1:=U
 subst Z;rw[g.w am (λk=>((W i s 1 a f D d).2 k).2.1 rfl) (Vj a) (by have:bL 1=64:=rfl;omega)];exact h.mB i s a f D d;rw[el]at d;rw[a1];obtain⟨O,aI,E,e,_,am⟩:=h.obj i 2 _ (.inr rfl) d;obtain⟨aT,rfl,rfl⟩:=jD e;have Z:O=c:=U
 subst Z;rw[g.m O a am (λk=>absurd ((W i 2 O a f (.inr rfl) d).2 k).1 an) _ U U];exact h.a8 i O a f d o a5
theorem cg.free(h:cg top A S){p:av.b3}(V:¬fs p.st)(el:bl.l=A.l.set k p)(E:bl.aJ=A.aJ)(N:bl.own=A.own)(O:bl.a8=A.a8)(eq:bl.Q=A.Q/\bl.bF=A.bF/\bl.np=A.np):cg top bl S:=by
 have back:∀{i s o},fs s->cH bl.l i s o->cH A.l i s o:=λ{i s o} w d=>(by rw[el]at d;rcases d.set with⟨_,h⟩|⟨_,h,_⟩;all_goals simp_all);have D:fs 1:=.inl rfl
 refine⟨h.P,by rw[eq.1,eq.2.1];exact h.Q,λi s o w d=>h.obj i s o w (back w d),λi j s r c a f g w H d C=>h.un i j s r c a f g w H (back w d) (back H C),λi a f d=>by rw[E];exact h.gV i a f (back D d),
  λi j a b f g s r d C=>by rw[E];exact h.m4 i j a b f g s r (back D d) (back D C),λi j a b f g u v d C=>h.rh i j a b f g u v (back D d) (back D C),by rw[E];exact h.qU,λi s a f w d=>by rw[N];exact h.mB i s a f w (back w d),λi c a f d=>by rw[O];exact h.a8 i c a f (back (.inr rfl) d),by rw[eq.2.2];exact h.gj⟩
theorem cg.t7(h:cg top A S){o:av.fi}{g:Int}(a1:cH A.l k 1 o)(el:bl.l=A.l.set k ⟨o,2,g⟩)(O:bl.aJ=A.aJ)(Z:bl.own=A.own)(ah:bl.a8=λi=>if i=k then λx=>S.m (o.a.toNat+x)else A.a8 i)(eq:bl.Q=A.Q/\bl.bF=A.bF/\bl.np=A.np):cg top bl S:=by
 have back:∀{i s w},cH bl.l i s w->(i≠k/\cH A.l i s w)\/(i=k/\s=2/\w=o/\cH A.l i 1 w):=λ{i s w} d=>(by rw[el]at d;rcases d.set with h|⟨rfl,W,a0⟩;all_goals simp_all);have N:∀{i s w},fs s->cH bl.l i s w->∃r,fs r/\cH A.l i r w:=λ{i s w} C d=>(by rcases back d with⟨_,h⟩|⟨_,_,_,h⟩;grind;exact⟨1,.inl rfl,h⟩);have D:∀{i w},cH bl.l i 1 w->cH A.l i 1 w:=λ{i w} d=>cv
 refine⟨h.P,by rw[eq.1,eq.2.1];exact h.Q,λi s o C d=>?_,λi j s r c a f g C H d E=>?_,λi a f d=>by rw[O];exact h.gV i a f (D d),
  λi j a b f g s r d E=>by rw[O];exact h.m4 i j a b f g s r (D d) (D E),λi j a b f g u v d E=>h.rh i j a b f g u v (D d) (D E),by rw[O];exact h.qU,λi s a f C d=>?_,λi c a f d w aw=>?_,by rw[eq.2.2];exact h.gj⟩
 obtain⟨r,H,V⟩:=N C d;exact h.obj i r o H V;obtain⟨aT,aD,aq⟩:=N C d;obtain⟨aI,aB,ar⟩:=N H E;exact h.un i j aT aI c a f g aD aB aq ar;rw[Z];obtain⟨r,H,V⟩:=N C d;exact h.mB i r a f H V;rw[ah];dsimp only;rcases back d with⟨au,W⟩|⟨rfl,_,rfl,_⟩;rw[al au];exact h.a8 i c a f W w aw;rw[az rfl];rfl
theorem cg.put(h:cg top A S){f g:Int}(a9:∀s o,cH A.l k s o->¬fs s)(a4:1<=c/\c<=5\/c=8)(am:c7 S c a)(a5:∀i s (g:Int),fs s->¬cH A.l i s (bD c a g))(el:bl.l=A.l.set k ⟨bD c a f,1,g⟩)(au:bl.aJ=A.aJ)(aI:∀i,i≠k->bl.own i=A.own i)(a3:c=1->cU S.m a=bl.own k)(aT:bl.a8=A.a8)(eq:bl.Q=A.Q/\bl.bF=A.bF/\bl.np=A.np)
 (aw:c=2->(∀o,a<=o->o+8<=a+128->cU S.m o=0)/\∀s,A.aJ k s=0):cg top bl S:=by
 have back:∀{i s V},cH bl.l i s V->(i≠k/\cH A.l i s V)\/(i=k/\s=1/\V=bD c a f):=λ{i s V} w=>(by rw[el]at w;rcases w.set with h|⟨rfl,N,aq⟩;all_goals simp_all);have z0:∀{d},bD 2 d f=bD c a f->c=2/\d=a:=λ{d} e=>(by grind[jD]);refine⟨h.P,by rw[eq.1,eq.2.1];exact h.Q,λi s o O w=>?_,λi j s r ar d E W O av w D=>?_,λi d E w=>?_,λi j d b E W s r w D O av=>?_,λi j d b E W u v w D hu hv H e=>?_,by rw[au];exact h.qU,λi s d E O w=>?_,λi ar d E w V a1=>?_,by rw[eq.2.2];exact h.gj⟩;rcases back w with⟨_,N⟩|⟨_,_,rfl⟩;exact h.obj i s o O N;grind;·rcases back w with⟨_,N⟩|⟨rfl,_,e⟩<;>rcases back D with⟨_,aq⟩|⟨rfl,_,ah⟩;exact h.un i j s r ar d E W O av N aq;all_goals grind[jD]
 ·rw[au];rcases back w with⟨_,N⟩|⟨rfl,_,e⟩;exact h.gV i d E N;obtain⟨Z,rfl,rfl⟩:=jD e;(obtain rfl:c=2:=by omega);obtain⟨ba,aD⟩:=aw rfl;(have H:∀j,j<16->br S.m d j=0:=by grind[br]);have a2:fb 128 (S.C 2) d:=(by rcases am with⟨_,k⟩|⟨k,_⟩;all_goals trivial);exact⟨⟨a2,λj D k=>absurd (H j D) k,λj _ D _ _ k=>absurd (H j D) k,λj D k=>absurd (H j D) k,λj D k=>absurd (H j D) k⟩,λs O=>⟨by rw[dZ,az (H _ U),aD],λk=>absurd (aD s) k⟩⟩
 ·rw[au];intro N aq e;rcases back w with⟨_,bM⟩|⟨rfl,_,Z⟩<;>rcases back D with⟨_,aB⟩|⟨rfl,_,ah⟩;exact h.m4 i j d b E W s r bM aB O av N aq e;all_goals grind[jD]
 rcases back w with⟨_,bM⟩|⟨rfl,_,Z⟩<;>rcases back D with⟨_,aB⟩|⟨rfl,_,ah⟩;exact h.rh i j d b E W u v bM aB hu hv H e;obtain⟨Z,rfl,_⟩:=jD ah;exact absurd (e.trans ((aw U).1 _ U U)) H;obtain⟨ah,rfl,_⟩:=jD Z;exact absurd ((aw U).1 _ U U) H;trivial;rcases back w with⟨a0,bM⟩|⟨rfl,_,e⟩;rw[aI i a0];exact h.mB i s d E O bM;grind[jD];rw[aT];rcases back w with⟨_,bM⟩|⟨_,e,_⟩;exact h.a8 i ar d E bM V a1;trivial
theorem cg.BT{Y X:Nat->Nat->Prop}(h:cg top A S)(g:gk top S bb Y X){f:Int}(a2:cH A.l k 1 (bD 2 a f))(el:bl.l=A.l)(bo:bl.own=A.own)(bz:bl.a8=A.a8)(bK:bb.Q=bl.Q/\bb.bF=bl.bF)(aI:∀i,i≠k->bl.aJ i=A.aJ i)
 (aT:∀c b,X c b->(c=2/\b=a)\/(c=7/\∃j,j<16/\br S.m a j≠0/\br S.m a j=b)\/(c=6/\∃s,s<256/\A.aJ k s≠0/\dF S.m a s=b)) (b3:∀c b,Y c b->c≠2)
 (b1:gn top bb a) (a9:∀s,s<256->dZ bb.m a s=bl.aJ k s/\(bl.aJ k s≠0->c7 bb 6 (dF bb.m a s)/\((A.aJ k s≠0/\dF bb.m a s=dF S.m a s)\/¬c7 S 6 (dF bb.m a s))))
 (bB:∀s r,s<256->r<256->bl.aJ k s≠0->bl.aJ k r≠0->dF bb.m a s=dF bb.m a r->s=r) (ba:∀j,j<16->br bb.m a j≠0->(br S.m a j≠0/\br bb.m a j=br S.m a j)\/¬c7 S 7 (br bb.m a j)) (au:fF (960/cf 6) (bb.C 6)=nm bl.aJ) (bV:(dr bb.C bb.Fr).length<=bl.np):cg top bl bb:=by
 have bh:fs 1:=.inl rfl;have bi:∀{i s} {c b:Nat} {E},i≠k->fs s->cH A.l i s (bD c b E)->(c<=5\/c=8)->¬X c b:=λ{i s c b E} aD H D a1 a0=>(by rcases aT c b a0 with⟨rfl,rfl⟩|⟨rfl,_⟩|⟨rfl,_⟩;exact aD (h.un i k s 1 2 b E f H bh D a2);all_goals trivial);have av:∀{i b E},i≠k->cH A.l i 1 (bD 2 b E)->_:=λ{i b E} aD D=>(h.gV i b E D).1.m0 g (bi (c:=2) aD bh D U) λj N V a0=>(by rcases aT 7 _ a0 with⟨e,_⟩|⟨_,u,hu,ah,aq⟩|⟨e,_⟩;trivial;exact aD (h.rh k i a b f E u j a2 D hu N ah aq).symm;trivial);have a3:∀{b E},cH A.l k 1 (bD 2 b E)->b=a:=by grind[cH,jD]
 refine⟨g.P,bK,λi s o H D=>?_,by rw[el];exact h.un,λi b E D=>?_,λi j b d E aw s r D N H ar ah aq e=>?_,λi j b d E aw u v D N hu hv V e=>?_,au,λi s b E H D=>?_,λi c b E D o b0=>?_,bV⟩;·rw[el]at D;obtain⟨c,b,E,rfl,a1,am⟩:=h.obj i s o H D;refine⟨c,b,E,rfl,a1,?_⟩;refine g.p c b am λa5=>?_;rcases aT c b (g.qf c b a5)with⟨rfl,rfl⟩|⟨rfl,_⟩|⟨rfl,_⟩;all_goals grind
 rw[el]at D;by_cases e:i=k;grind;obtain⟨bM,b4,bd⟩:=av e D;obtain⟨_,bg⟩:=h.gV i b E D;refine⟨bM,λs H=>?_⟩;rw[(bd s H).1,(bd s H).2,aI i e];refine⟨(bg s H).1,λV=>g.p 6 _ ((bg s H).2 V) λa5=>?_⟩;rcases aT 6 _ (g.qf _ _ a5)with⟨bn,_⟩|⟨bn,_⟩|⟨_,r,ar,ah,aq⟩;trivial;trivial;exact e (h.m4 k i a b f E r s a2 D ar H ah V aq).1.symm;rw[el]at D N;by_cases W:i=k<;>by_cases Z:j=k;grind;subst W;obtain rfl:=a3 D;rw[aI j Z]at aq;rw[((av Z N).2.2 r ar).2]at e;rcases((a9 s H).2 ah).2 with⟨O,aB⟩|O;rw[aB]at e;exact absurd (h.m4 i j b d E aw s r D N H ar O aq e).1.symm Z;rw[e]at O;exact absurd (((h.gV j d aw N).2 r ar).2 aq) O;subst Z;obtain rfl:=a3 N;rw[aI i W]at ah;rw[((av W D).2.2 s H).2]at e;rcases((a9 r ar).2 aq).2 with⟨O,aB⟩|O;rw[aB]at e;exact absurd (h.m4 i j b d E aw s r D N H ar ah O e).1 W;rw[<-e]at O;exact absurd (((h.gV i b E D).2 s H).2 ah) O;rw[aI i W]at ah;rw[aI j Z]at aq;rw[((av W D).2.2 s H).2,((av Z N).2.2 r ar).2]at e;exact h.m4 i j b d E aw s r D N H ar ah aq e;rw[el]at D N;by_cases W:i=k<;>by_cases Z:j=k;omega;subst W;obtain rfl:=a3 D;rw[(av Z N).2.1 v hv]at e;rcases ba u hu V with⟨O,aB⟩|O;rw[aB]at e;exact h.rh i j b d E aw u v D N hu hv O e;rw[e]at O V;exact absurd (h.leaf N hv V) O;subst Z;obtain rfl:=a3 N;rw[(av W D).2.1 u hu]at e V;rcases ba v hv (e▸V)with⟨O,aB⟩|O;rw[aB]at e;exact h.rh i j b d E aw u v D N hu hv V e;rw[<-e]at O;exact absurd (h.leaf D hu V) O;rw[(av W D).2.1 u hu]at e V;rw[(av Z N).2.1 v hv]at e;exact h.rh i j b d E aw u v D N hu hv V e;rw[el]at D;rw[bo];obtain⟨c,bk,f9,e,a1,am⟩:=h.obj i s _ H D;obtain⟨W,rfl,rfl⟩:=jD e;obtain rfl:c=1:=by omega
 rw[g.w am (λa0=>by rcases aT 1 b a0 with⟨e,_⟩|⟨e,_⟩|⟨e,_⟩<;>omega) (Vj b) (by have:bL 1=64:=rfl;omega)];exact h.mB i s b E H D;rw[el]at D;rw[bz];obtain⟨a4,bk,f9,e,a1,am⟩:=h.obj i 2 _ (.inr rfl) D;obtain⟨W,rfl,rfl⟩:=jD e;obtain rfl:a4=c:=U
 have aD:i≠k:=λe=>absurd ((e▸D).inj a2).1 an;rw[g.m a4 b am (bi aD (.inr rfl) D U) _ U U];exact h.a8 i a4 b E D o b0
end Go.Proofs.Q
namespace Go.Proofs.Q
open Go Go.QM
def fm(aJ:Nat->Nat->Nat)(i s v:Nat):Nat->Nat->Nat:=λj r=>if j=i/\r=s then v else aJ j r
theorem il(aJ:Nat->Nat->Nat)(i s v:Nat):fm aJ i s v i s=v:=az ⟨rfl,rfl⟩
variable{i:Nat}
theorem ls{aJ:Nat->Nat->Nat}{s v j r:Nat}(h:j≠i\/r≠s):fm aJ i s v j r=aJ j r:=al λk=>h.elim (λh=>h k.1) λh=>h k.2
theorem kW{aJ:Nat->Nat->Nat}{s v r:Nat}(h:r≠s):fm aJ i s v i r=aJ i r:=ls (.inr h)
theorem II{top:Nat}{S:cD}{c:Nat}{y:Nat×Nat×List cc}(u:c∈cls)(g:i5 top S c y)(d:Nat):fF (960/cf d) (dK S.C c y.2.2 d)=fF (960/cf d) (S.C d)+if d=c then 1 else 0:=by by_cases e:d=c;subst e;rw[az rfl,jI];exact g.m2.used (by have:=Dx u;omega);rw[al e,jj _ _ e,Nat.add_zero]
theorem IH{top:Nat}{S:cD}(u:dh top S){c aC:Nat}{L':List cc}(w:c∈cls)(g:jY top S c aC i L')(d:Nat):fF (960/cf d) (dK S.C c L' d)+(if d=c then 1 else 0)=fF (960/cf d) (S.C d):=by by_cases e:d=c;subst e;rw[az rfl,jI];exact g.nv.used (u.ok d w).inv;rw[al e,jj _ _ e,Nat.add_zero]
theorem hM:(6:Nat)∈cls:=by decide
theorem c7.jF{S:cD}{c a:Nat}(d:c∈cls)(h:c7 S c a):fb (cf c) (S.C c) a:=by rcases h with⟨_,k⟩|⟨rfl,_⟩;all_goals trivial
theorem kR{m:Nat->Nat}{o x:Nat}{L:List Nat}(h:x<o\/o+8*L.length<=x):dx m o L x=m x:=by rw[dx,ka,al U]
theorem vv{m:Nat->Nat}{o n x:Nat}(h:x<o\/o+n<=x):hx m o n x=m x:=by rw[hx,al U]
def bV.lay(A:bV)(i s w:Nat)(Q:List aD.b1):bV:={A with Q:=Q,aJ:=fm A.aJ i s w,np:=A.np+2}
theorem Lr{A:bV}{s w:Nat}(d:i<256)(hs:s<256)(C:A.aJ i s=0)(hw:w≠0):nm (fm A.aJ i s w)=nm A.aJ+1:=by
 have:=zk (aJ:=A.aJ) (nr:=fm A.aJ i s w) d hs λj r h=>ls h;have u:be (fm A.aJ i s w i s)=1:=by rw[il];exact al hw
 grind[be]
theorem Lq{A:bV}{s:Nat}(u:i<256)(hs:s<256)(d:A.aJ i s≠0):nm (fm A.aJ i s 0)+1=nm A.aJ:=by
 have:=zk (aJ:=A.aJ) (nr:=fm A.aJ i s 0) u hs λj r h=>ls h;have w:be (fm A.aJ i s 0 i s)=0:=by grind[be,il]
 have et:be (A.aJ i s)=1:=al d;omega
theorem cH.lt{l:List av.b3}(d:av.dQ l){s:Int}{o:av.fi}(h:cH l i s o):i<256:=by obtain⟨g,h⟩:=h;exact d.lt h
section
variable {top : Nat} {A : bV} {S cr dI bb : cD} {i a s w : Nat} {f : Int}
theorem cg.node(h:cg top A S)(w:cH A.l i 1 (bD 2 a f)){y:Nat×Nat×List cc}(g:i5 top S 6 y)(e:cr=kl S f 6 (some y)):
 gk top S cr h0 h0/\c7 cr 6 (addr 6 y)/\¬c7 S 6 (addr 6 y)/\gn top cr a/\(∀j,j<16->br cr.m a j=br S.m a j)/\∀r,r<256->dZ cr.m a r=A.aJ i r/\dF cr.m a r=dF S.m a r:=by obtain⟨g1,g2⟩:=wE (bb:=cr) h.P hM g rW rW (λo C=>by rw[e];exact vv C);obtain⟨t1,t2⟩:=h.gV i a f w;obtain⟨bM,D,u⟩:=t1.m0 g1 (λh=>h) λ_ _ _ h=>h;exact⟨g1,g2,λk=>g.uM h.P hM k ⟨rfl,rfl⟩,bM,D,λr d=>⟨(u r d).1.trans (t2 r d).1,(u r d).2⟩⟩
theorem cg.lay(a0:av.dQ A.l)(h:cg top A S)(N:cH A.l i 1 (bD 2 a f))(hs:s<256)(aq:A.aJ i s=0)(hw:w≠0){y:Nat×Nat×List cc}(g:i5 top S 6 y)(e:cr=kl S f 6 (some y)){Y X:Nat->Nat->Prop}(g2:gk top cr bb Y X)(ar:bb.C 6=cr.C 6)
 (W:gn top bb a) (aE:dZ bb.m a s=w) (aU:dF bb.m a s=addr 6 y) (aB:∀r,r<256->r≠s->dZ bb.m a r=dZ cr.m a r/\dF bb.m a r=dF cr.m a r) (aT:(dr bb.C bb.Fr).length<=(dr cr.C cr.Fr).length+1)
 (aD:∀c b,X c b->(c=2/\b=a)\/(c=7/\∃j,j<16/\br S.m a j≠0/\br S.m a j=b)) (ah:∀c b,¬Y c b) (aw:∀j,j<16->br bb.m a j≠0->(br S.m a j≠0/\br bb.m a j=br S.m a j)\/¬c7 S 7 (br bb.m a j)):cg top (A.lay i s w bb.Q) ⟨bb.Q,A.bF,bb.C,bb.Fr,bb.m⟩:=by
 obtain⟨g1,be,bA,t1,t2,t3⟩:=h.node N g e;have au:c7 bb 6 (addr 6 y):=by grind[c7]
 have a1:(dr bb.C bb.Fr).length<=A.np+2:=(by have E:=g.len;(have d:cr.C=dK S.C 6 y.2.2/\cr.Fr=S.Fr:=by rw[e];exact⟨rfl,rfl⟩);rw[d.1,d.2]at aT;have:=h.gj;omega);have V:∀r,r<256->r≠s->dF bb.m a r=dF S.m a r:=b6
 refine h.BT (Y:=Y) (X:=X) ⟨g2.P.mem rfl rfl,λc b k au=>g2.p c b (g1.p c b k λh=>h) au,λc b k au o E d=>(g2.m c b (g1.p c b k λh=>h) au o E d).trans (g1.m c b k (λh=>h) o E d),g2.qf⟩ N rfl rfl rfl ⟨rfl,rfl⟩ (λj aI=>funext λr=>ls (.inl aI)) (λc b a2=>(aD c b a2).imp_right .inl) (λc b a3=>absurd a3 (ah c b)) ⟨W.tk,W.fJ,W.bC,W.ne,W.J⟩ (λr H=>?_) (λr u H hu E d he=>?_) aw ?_ a1;by_cases D:r=s;subst D;dsimp only[bV.lay];rw[il];exact⟨aE,λ_=>⟨by rw[aU];exact au,.inr (by rw[aU];exact bA)⟩⟩;dsimp only[bV.lay];rw[kW D];refine⟨(aB r H D).1.trans (t3 r H).1,λZ=>?_⟩;rw[V r H D];exact⟨g2.p _ _ (g1.p _ _ (((h.gV i a f N).2 r H).2 Z) λh=>h) (ah _ _),.inl ⟨Z,rfl⟩⟩;dsimp only[bV.lay]at E d he;by_cases O:r=s<;>by_cases D:u=s;omega;subst O;rw[kW D]at d;rw[aU,V u hu D]at he;exact absurd (((h.gV i a f N).2 u hu).2 d) (by rw[<-he];exact bA);subst D;rw[kW O]at E;rw[aU,V r H O]at he;exact absurd (((h.gV i a f N).2 r H).2 E) (by rw[he];exact bA);rw[kW O]at E;rw[kW D]at d;rw[V r H O,V u hu D]at he;exact(h.m4 i i a a f f r u N N H hu E d he).2;dsimp only[bV.lay];rw[Lr (N.lt a0) hs aq hw,<-h.qU,ar,e];exact II hM g 6
theorem cg.Au(W:av.dQ A.l)(h:cg top A S)(E:cH A.l i 1 (bD 2 a f))(hs:s<256)(O:A.aJ i s=0)(hw:w≠0)(Z:w<2^64){y:Nat×Nat×List cc}(g:i5 top S 6 y)(e:cr=kl S f 6 (some y))(hr:br cr.m a (s/16)≠0)
 (d:bb=⟨cr.Q,cr.bF,cr.C,cr.Fr,dx cr.m (br cr.m a (s/16)+s %16*16) [w,addr 6 y]⟩):cg top (A.lay i s w (aD.dd A.Q f 48).1) bb:=by
 obtain⟨g1,be,bA,t1,t2,t3⟩:=h.node E g e;have u:s/16<16:=U
 have aT:=t1.rT g1.P u hr;have a1:2^top<=128:=Vi (n:=2) an h.P.fZ.2;have a0:=c7.bd g1.P be;have aw:cf 7=256:=rfl;obtain⟨bM,ah,aq,ar,au⟩:=t1.tf g1.P hs hr Z (b:=addr 6 y) U (λk=>absurd k hw) (.inl hw) (bb:=bb) (by rw[d]) (by rw[d]);have V:c7 cr 7 (br cr.m a (s/16)):=.inl ⟨fQ,t1.fJ _ u hr⟩;have g2:gk top cr bb h0 (fA 7 (br cr.m a (s/16))):=oS g1.P V (by rw[d]) (by rw[d]) λo D=>(by rw[d];exact kR (by(have aB:bL 7=256:=rfl);simp only[VB,WY];omega));have aQ:=h.lay W E hs O hw g e g2 (by rw[d]) bM aq ar au (by rw[d];exact Nat.le_succ _) (λc b N=>.inr ⟨N.1,s/16,u,by rw[<-t2 _ u];exact hr,by rw[N.2,t2 _ u]⟩) (λ_ _ h=>h) λj H D=>.inl (by rw[ah j H,t2 j H]at D⊢;exact⟨D,rfl⟩);have aI:bb.Q=(aD.dd A.Q f 48).1/\bb.bF=A.bF:=(by rw[d,e];exact⟨by rw[<-h.Q.1];rfl,h.Q.2⟩);simp_all
theorem cg.At(aq:av.dQ A.l)(h:cg top A S)(V:cH A.l i 1 (bD 2 a f))(hs:s<256)(Z:A.aJ i s=0)(hw:w≠0)(ar:w<2^64){y z:Nat×Nat×List cc}(g:i5 top S 6 y)(e:cr=kl S f 6 (some y))(hr:br cr.m a (s/16)=0)(E:i5 top cr 7 z)
 (d:bb=u9 cr f a s w (addr 6 y) (some z)):cg top (A.lay i s w (aD.dd (aD.dd A.Q f 48).1 f 256).1) bb:=by
 obtain⟨g1,be,bA,t1,t2,t3⟩:=h.node V g e;have a9:s/16<16:=U
 have ba:2^top<=128:=Vi (n:=2) an h.P.fZ.2;have a5:=c7.bd g1.P be;have a0:cf 7=256:=rfl;obtain⟨bM,au,bg,aw,aB,aI,bh⟩:=t1.Sm g1.P hs hr ar (b:=addr 6 y) U hw E (bb:=bb) (by rw[d];rfl) (by rw[d];rfl);obtain⟨u,hi⟩:=wE (bb:=⟨bb.Q,bb.bF,bb.C,bb.Fr,dx (hx cr.m (addr 7 z) 256) (addr 7 z+s %16*16) [w,addr 6 y]⟩) g1.P fQ E (by rw[d];rfl) (by rw[d];rfl) λo O=>(by grind[kR,vv]);have H:c7 cr 2 a:=.inl ⟨c2,t1.tk⟩;have a3:=c7.apart u.P (u.p _ _ H λh=>h) hi (.inl (show(2:Nat)≠7 by decide));have a1:bL 2=128:=rfl;have aT:bL 7=256:=rfl;have g2:gk top cr bb (λc b=>h0 c b\/h0 c b) (λc b=>h0 c b\/fA 2 a c b):=u.trans (oS u.P (u.p _ _ H λh=>h) rfl rfl λo O=>by rw[d];dsimp only[u9];by_cases a2:addr 7 z+s %16*16<=o/\o<addr 7 z+s %16*16+16;rw[dx,ka,az jy,dx,ka,az jy];rw[kR jy,kR jy,kR jy]);have ah:bb.C 6=cr.C 6:=by rw[d];exact jj cr.C z.2.2 (show(6:Nat)≠7 by decide)
 have aQ:=h.lay aq V hs Z hw g e g2 ah bM aw aB aI (by rw[d];exact E.len) (λc b D=>.inl (by rcases D with D|D;exact D.elim;exact D)) (λ_ _ h=>h.elim id id) λj a4 O=>(by by_cases W:j=s/16;subst W;rw[au];exact .inr λk=>E.uM g1.P fQ (g1.p _ _ k λh=>h) ⟨rfl,rfl⟩;simp_all);have N:bb.Q=(aD.dd (aD.dd A.Q f 48).1 f 256).1/\bb.bF=A.bF:=(by rw[d,e];exact⟨by rw[<-h.Q.1];rfl,h.Q.2⟩);rw[<-N.1];have:bb=⟨bb.Q,A.bF,bb.C,bb.Fr,bb.m⟩:=by rw[<-N.2]
 grind
end
end Go.Proofs.Q
namespace Go.Proofs.Q
open Go Go.QM
variable [dL]
def bV.bare(A:bV)(i s:Nat)(Q:List aD.b1):bV:={A with Q:=Q,aJ:=fm A.aJ i s 0}
def bV.set(A:bV)(i s w:Nat):bV:={A with aJ:=fm A.aJ i s w}
section
variable {top : Nat} {A : bV} {S dI bb : cD} {i a s w : Nat} {f : Int}
theorem cg.bare(a1:av.dQ A.l)(h:cg top A S)(E:cH A.l i 1 (bD 2 a f))(hs:s<256)(Z:A.aJ i s≠0){Y X:Nat->Nat->Prop}(g:gk top S dI Y X)(a3:∀c b,X c b->(c=2/\b=a)\/(c=7/\∃j,j<16/\br S.m a j≠0/\br S.m a j=b))(a0:∀c b,Y c b->c=7)
 (aT:gn top dI a) (aE:dZ dI.m a s=0) (ah:∀r,r<256->r≠s->dZ dI.m a r=dZ S.m a r/\(dZ S.m a r≠0->dF dI.m a r=dF S.m a r)) (aI:dI.C 6=S.C 6) (a4:(dr dI.C dI.Fr).length<=(dr S.C S.Fr).length) (a2:∀j,j<16->br dI.m a j≠0->br dI.m a j=br S.m a j)
 {aC i0:Nat} {L':List cc} (aY:jY top dI 6 aC i0 L') (am:dF S.m a s=aC*1024+64+i0*48) (Q:List aD.b1):cg top (A.bare i s Q) ⟨Q,A.bF,dK dI.C 6 L',dI.Fr,dI.m⟩:=by
 obtain⟨t1,t2⟩:=h.gV i a f E;have g2:gk top dI ⟨Q,A.bF,dK dI.C 6 L',dI.Fr,dI.m⟩ (fA 6 (dF S.m a s)) (fA 6 (dF S.m a s)):=wD g.P hM aY am rfl rfl rfl;obtain⟨bM,a5,a9⟩:=aT.m0 g2 (λh=>absurd h.1 an) λ_ _ _ h=>absurd h.1 an;have W:∀r,r<256->r≠s->A.aJ i r≠0->dF dI.m a r=dF S.m a r/\c7 S 6 (dF S.m a r)/\dF S.m a r≠dF S.m a s:=λr d ar D=>(by refine⟨(ah r d ar).2 (by rw[(t2 r d).1];exact D),(t2 r d).2 D,λe=>ar (h.m4 i i a a f f r s E E d hs D Z e).2⟩);refine h.BT (g.trans g2) E rfl rfl rfl ⟨rfl,rfl⟩ (λj aq=>funext λr=>ls (.inl aq)) (λc b au=>?_) (λc b w=>?_) bM (λr d=>?_) (λr u d hu O V he=>?_) (λj aq D=>?_) ?_ ?_;·rcases au with au|⟨rfl,rfl⟩;all_goals grind
 rcases w with w|w;grind;have:=w.1;omega;dsimp only[bV.bare];by_cases e:r=s;grind[il];rw[kW e];refine⟨(ah r d e).1.trans (t2 r d).1,λD=>?_⟩;obtain⟨H,N,aw⟩:=W r d e D;rw[H];exact⟨g2.p _ _ (g.p _ _ N λw=>absurd (a0 _ _ w) an) λw=>aw w.2,.inl ⟨D,rfl⟩⟩;dsimp only[bV.bare]at O V he;have H:r≠s:=by grind[il]
 have N:u≠s:=by grind[il]
 rw[kW H]at O;rw[kW N]at V;rw[(W r d H O).1,(W u hu N V).1]at he;exact(h.m4 i i a a f f r u E E d hu O V he).2;grind;dsimp only[bV.bare];have aB:=IH g.P hM aY 6;rw[az rfl,aI,h.qU,<-Lq (E.lt a1) hs Z]at aB;omega;dsimp only[bV.bare];have:=aY.len;have:=h.gj;omega
theorem cg.fJ(h:cg top A S)(u:cH A.l i 1 (bD 2 a f))(hs:s<256)(d:A.aJ i s≠0):br S.m a (s/16)≠0:=λe=>d (by rw[<-((h.gV i a f u).2 s hs).1,dZ,az e])
def l7(A:bV)(i s:Nat):Prop:=∃r,r<256/\r/16=s/16/\r≠s/\A.aJ i r≠0
theorem cg.row(h:cg top A S)(w:cH A.l i 1 (bD 2 a f))(hs:s<256)(D:A.aJ i s≠0):l7 A i s↔∃j,j<16/\j≠s %16/\cU S.m (br S.m a (s/16)+j*16)≠0:=by have C:=h.fJ w hs D;obtain⟨_,t2⟩:=h.gV i a f w;constructor;rintro⟨r,H,d,E,u⟩;refine⟨r %16,by omega,by omega,?_⟩;rw[<-(t2 r H).1,dZ,d,al C]at u;exact u;rintro⟨j,N,d,E⟩;refine⟨s/16*16+j,by omega,by omega,by omega,?_⟩;rw[<-(t2 _ U).1,dZ,show(s/16*16+j)/16=s/16 by omega,al C,show(s/16*16+j) %16=j by omega];trivial
theorem cg.Hl(h:cg top A S)(E:cH A.l i 1 (bD 2 a f))(hs:s<256)(C:A.aJ i s=0):br S.m a (s/16)≠0↔l7 A i s:=by
 obtain⟨t1,t2⟩:=h.gV i a f E;constructor;intro w;obtain⟨j,N,d⟩:=t1.ne _ U w;have e:dZ S.m a (s/16*16+j)≠0:=by rw[dZ,show(s/16*16+j)/16=s/16 by omega,al w,show(s/16*16+j) %16=j by omega];exact d
 rw[(t2 _ U).1]at e;exact⟨_,by omega,by omega,λu=>e (by rw[u];exact C),e⟩;rintro⟨r,H,d,u,D⟩ e;rw[<-(t2 r H).1,dZ,d,az e]at D;trivial
theorem cg.tf(aB:av.dQ A.l)(h:cg top A S)(D:cH A.l i 1 (bD 2 a f))(hs:s<256)(V:A.aJ i s≠0)(hw:w≠0)(aD:w<2^64)(d:bb=⟨S.Q,S.bF,S.C,S.Fr,dx S.m (br S.m a (s/16)+s %16*16) [w,dF S.m a s]⟩):cg top (A.set i s w) bb:=by
 obtain⟨t1,t2⟩:=h.gV i a f D;have N:=h.fJ D hs V;have W:s/16<16:=U
 have a0:=t1.rT h.P W N;have a2:2^top<=128:=Vi (n:=2) an h.P.fZ.2;have a1:=c7.bd h.P ((t2 s hs).2 V);obtain⟨bM,a3,a4,a5,a9⟩:=t1.tf h.P hs N aD (b:=dF S.m a s) U (λk=>absurd k hw) (.inl hw) (bb:=bb) (by rw[d]) (by rw[d]);have aw:c7 S 7 (br S.m a (s/16)):=.inl ⟨fQ,t1.fJ _ W N⟩;have g2:gk top S bb h0 (fA 7 (br S.m a (s/16))):=oS h.P aw (by rw[d]) (by rw[d]) λo H=>(by rw[d];exact kR (by(have aT:bL 7=256:=rfl);simp only[VB,WY];omega));have aU:∀r,r<256->dF bb.m a r=dF S.m a r:=λr E=>cv;have O:∀r,A.aJ i r≠0↔(A.set i s w).aJ i r≠0:=λr=>(by dsimp only[bV.set];grind[il,kW]);refine h.BT g2 D rfl rfl rfl (by rw[d];exact h.Q) (λj ah=>funext λr=>ls (.inl ah)) (λc b aq=>.inr (.inl ⟨aq.1,s/16,W,N,aq.2.symm⟩)) (λc b aI=>aI.elim) bM (λr E=>⟨?_,λH=>?_⟩) (λr u E hu ar au he=>?_) (λj ah H=>.inl ?_) ?_ (by rw[d];exact h.gj);dsimp only[bV.set];grind[il,kW];rw[aU r E];exact⟨g2.p _ _ ((t2 r E).2 ((O r).2 H)) λh=>h,.inl ⟨(O r).2 H,rfl⟩⟩;rw[aU r E,aU u hu]at he;exact(h.m4 i i a a f f r u D D E hu ((O r).2 ar) ((O u).2 au) he).2;simp_all;have Z:=zk (aJ:=A.aJ) (nr:=(A.set i s w).aJ) (D.lt aB) hs λj r h=>ls h;dsimp only[bV.set]at Z⊢;rw[il,be,be,al V,al hw]at Z;rw[d];exact h.qU.trans U
theorem cg.yW(V:av.dQ A.l)(h:cg top A S)(d:cH A.l i 1 (bD 2 a f))(hs:s<256)(u:A.aJ i s≠0)(hr:l7 A i s)(e:dI=⟨S.Q,S.bF,S.C,S.Fr,dx S.m (br S.m a (s/16)+s %16*16) [0,0]⟩){aC i0:Nat}{L':List cc}(aY:jY top dI 6 aC i0 L')(am:dF S.m a s=aC*1024+64+i0*48)(Q:List aD.b1):
 cg top (A.bare i s Q) ⟨Q,A.bF,dK dI.C 6 L',dI.Fr,dI.m⟩:=by
 obtain⟨t1,t2⟩:=h.gV i a f d;have w:=h.fJ d hs u;have E:s/16<16:=U
 obtain⟨bM,Z,ah,au,N⟩:=t1.tf h.P hs w (a:=0) (b:=0) an an (λ_=>rfl) (.inr ((h.row d hs u).1 hr)) (bb:=dI) jT jT;have g:gk top S dI h0 (fA 7 (br S.m a (s/16))):=oS h.P (h.leaf d E w) jT jT λo ar=>(by rw[e];exact kR (by(have aq:bL 7=256:=rfl);simp only[VB,WY];omega));exact h.bare V d hs u g (λc b H=>.inr ⟨H.1,s/16,E,w,H.2.symm⟩) (λc b W=>W.elim) bM ah (λr hr D=>⟨(N r hr D).1,λ_=>(N r hr D).2⟩) jT (by rw[e];exact Vj _) (λj O _=>Z j O) aY am Q
theorem cg.yV(au:av.dQ A.l)(h:cg top A S)(w:cH A.l i 1 (bD 2 a f))(hs:s<256)(H:A.aJ i s≠0)(hr:¬l7 A i s){Z i7:Nat}{E:List cc}(g7:jY top S 7 Z i7 E)(W:br S.m a (s/16)=Z*1024+64+i7*256){ah:List aD.b1}
 (e:dI=⟨ah,S.bF,dK S.C 7 E,S.Fr,dx (dx S.m (br S.m a (s/16)+s %16*16) [0,0]) (a+s/16*8) [0]⟩) {aC i0:Nat} {L':List cc} (aY:jY top dI 6 aC i0 L') (am:dF S.m a s=aC*1024+64+i0*48) (Q:List aD.b1):
 cg top (A.bare i s Q) ⟨Q,A.bF,dK dI.C 6 L',dI.Fr,dI.m⟩:=by
 obtain⟨t1,t2⟩:=h.gV i a f w;have D:=h.fJ w hs H;have V:s/16<16:=U
 have aw:∀j,j<16->j≠s %16->cU S.m (br S.m a (s/16)+j*16)=0:=λj O ar=>Wd λbO=>hr ((h.row w hs H).2 ⟨j,O,ar,bO⟩);obtain⟨bM,aB,aI,aT,a0⟩:=t1.K9 h.P hs D aw W g7 (bb:=dI) jT jT;have aq:c7 S 2 a:=.inl ⟨c2,t1.tk⟩;have a2:bL 7=256:=rfl;have a1:bL 2=128:=rfl;have bp:gk top S ⟨S.Q,S.bF,S.C,S.Fr,dx S.m (br S.m a (s/16)+s %16*16) [0,0]⟩ h0 (fA 7 (br S.m a (s/16))):=oS h.P (h.leaf w V D) rfl rfl λo N=>kR jy;have hi:gk top _ ⟨S.Q,S.bF,S.C,S.Fr,dI.m⟩ h0 (fA 2 a):=oS (bb:=⟨S.Q,S.bF,S.C,S.Fr,dI.m⟩) bp.P (bp.p 2 a aq λh=>h) rfl rfl λo N=>(by rw[e];exact kR jy);have gc:gk top _ dI (fA 7 (br S.m a (s/16))) (fA 7 (br S.m a (s/16))):=wD hi.P fQ (g7.r3 rfl rfl) W jT jT rfl;refine h.bare au w hs H ((bp.trans hi).trans gc) (λc b d=>?_) (λc b u=>?_) bM aT a0 (by rw[e];exact jj S.C E (show(6:Nat)≠7 by decide)) (by rw[e];exact g7.len) (λj O N=>aI j O λe=>N (by rw[e];exact aB)) aY am Q;rcases d with(d|d)|d;exact .inr ⟨d.1,s/16,V,D,d.2.symm⟩;exact .inl d;exact .inr ⟨d.1,s/16,V,D,d.2.symm⟩;rcases u with(u|u)|u;exact u.elim;exact u.elim;exact u.1
end
def dC(h r:Nat):Nat:=h+1+r*4294967296
theorem jg{h r:Nat}(d:h<4294967295)(hr:r<=15):dC h r<2^64/\dC h r≠0:=by rw[dC];omega
structure jK(Q vH:List aD.b1)(bF f d:Int):Prop where
  ee:aD.eU vH bF
  has:∀x,aD.df vH x↔aD.df Q x
  fU:∀x,aD.df Q x->aD.gp vH x=aD.gp Q x+if x=f then d else 0
  par:∀x,aD.ll vH x=aD.ll Q x
theorem GM{Q:List aD.b1}(h:aD.iF Q)(f c x:Int):aD.ll (aD.fR Q f c) x=aD.ll Q x:=by
 by_cases d:aD.df Q x;obtain⟨t,u,rfl⟩:=d;rw[(aD.iB h u).2.2.2];have hm:(if t.id=f then⟨t.id,t.par,t.lim,c⟩else t:aD.b1)∈aD.fR Q f c:=by grind[aD.tg]
 have:=(aD.iB (BG h f c) hm).2.2.2;grind;rw[(aD.IJ d).2.2.2,(aD.IJ λh=>d (aD.q3.1 h)).2.2.2]
variable{f bF:Int}
theorem jK.hN{Q:List aD.b1}{n:Int}(h:aD.eU Q bF)(u:(aD.dd Q f n).2=0):jK Q (aD.dd Q f n).1 bF f n:=by obtain⟨C,D,E,d⟩:=y7 u;refine⟨h.K4 f n,λx=>by rw[d];exact aD.q3,λx w=>?_,λx=>by rw[d];exact GM h.bC _ _ _⟩;rw[d,y8 h.bC w];grind
theorem jK.r3{Q:List aD.b1}{n:Int}(h:aD.eU Q bF)(u:aD.df Q f)(w:0<=n)(C:n<=aD.gp Q f):(aD.eo Q f n).2=0/\jK Q (aD.eo Q f n).1 bF f (-n):=by have d:=Hd u w C;refine⟨by rw[d],h.Rw f n,λx=>by rw[d];exact aD.q3,λx D=>?_,λx=>by rw[d];exact GM h.bC _ _ _⟩;rw[d];dsimp only;rw[y8 h.bC D];grind
theorem jK.trans{Q u w:List aD.b1}{d e:Int}(h:jK Q u bF f d)(k:jK u w bF f e):jK Q w bF f (d+e):=
 ⟨k.ee,λx=>(k.has x).trans (h.has x),λx C=>by rw[k.fU x ((h.has x).2 C),h.fU x C];split<;>omega,λx=>(k.par x).trans (h.par x)⟩
def j9(e:Nat->Nat)(j:Nat):Nat:=hg 16 λr=>e (16*j+r)
def kT(e:Nat->Nat):Nat:=hg 256 (λs=>48*be (e s))+hg 16 λj=>256*be (j9 e j)
theorem rx{x:Nat}(h:x≠0):be x=1:=al h
theorem vS:be 0=0:=rfl
theorem BN{f:Nat->Nat}{n:Nat}:hg n f≠0↔∃k,k<n/\f k≠0:=by constructor;intro h;refine Wd λau=>h (p8 λi u=>Wd λd=>au ⟨i,u,d⟩);grind[vb]
theorem Ti{e e':Nat->Nat}{s:Nat}(hs:s<256)(d:e s≠0)(hw:e' s≠0)(he:∀r,r≠s->e' r=e r):kT e'=kT e:=by have am:∀r,be (e' r)=be (e r):=λr=>(by grind[rx]);rw[kT,kT,q5 λr _=>by rw[am r],q5 (f:=λj=>256*be (j9 e' j)) (g:=λj=>256*be (j9 e j)) λj _=>?_];have:j9 e' j≠0↔j9 e j≠0:=(by grind[j9,BN]);by_cases h:j9 e j=0;simp_all;grind[rx]
theorem BW{e e':Nat->Nat}{s:Nat}(hs:s<256)(u:e s=0)(hw:e' s≠0)(he:∀r,r≠s->e' r=e r):kT e'=kT e+48+256*(1-be (j9 e (s/16))):=by
 have w:=p7 (f:=λr=>48*be (e r)) (g:=λr=>48*be (e' r)) hs λr _ d=>by rw[he r d]
 have C:=p7 (f:=λj=>256*be (j9 e j)) (g:=λj=>256*be (j9 e' j)) (n:=16) (k:=s/16) U λj _ d=>(by grind[j9,q5]);rw[u,vS,rx hw]at w;rw[rx (show j9 e' (s/16)≠0 from BN.2 ⟨s %16,by omega,by rw[show 16*(s/16)+s %16=s by omega];exact hw⟩)]at C;grind[be,kT]
def h9(A:bV)(x:Int)(i:Nat):Nat:=match A.l[i]? with
  | some p=>if(p.st=1\/p.st=2)/\p.o.f=x then bL p.o.k.toNat+(if p.st=1/\p.o.k=2 then kT (A.aJ i)else 0)else 0
  | none=>0
instance (s:Int):Decidable (fs s):=inferInstanceAs (Decidable (s=1\/s=2))
def pE(A:bV)(x:Int):Nat:=hg 256 (h9 A x)
variable{A:bV}
theorem n1{i:Nat}{s:Int}{o:av.fi}(h:cH A.l i s o)(x:Int):h9 A x i=if fs s/\o.f=x then bL o.k.toNat+(if s=1/\o.k=2 then kT (A.aJ i)else 0)else 0:=by obtain⟨g,h⟩:=h;rw[h9,h];rfl
structure cm(A:bV):Prop where
  ok:av.dQ A.l
  ee:aD.eU A.Q A.bF
  rt:(∃a,A.l[0]? =some ⟨bD 1 a 0,1,0⟩)/\A.own 0=0
  ac:∀i s o,fs s->cH A.l i s o->aD.df A.Q o.f/\bL o.k.toNat≠0
  c3:∀i s a f,fs s->cH A.l i s (bD 1 a f)->aD.df A.Q (A.own i)/\(i≠0->A.own i≠0/\aD.ll A.Q (A.own i)=f)
  nu:∀i j s r a b f g,fs s->fs r->cH A.l i s (bD 1 a f)->cH A.l j r (bD 1 b g)->A.own i=A.own j->i=j
  aJ:∀i s,A.aJ i s≠0->s<256/\(∃a f,cH A.l i 1 (bD 2 a f))/\∃h r:Nat,A.aJ i s=dC h r/\1<=r/\r<=15/\h<4294967295/\(av.cV A.l h).2=0
  hN:∀x,aD.df A.Q x->aD.gp A.Q x=pE A x
  mD:∀h:Int,(∃p,av.ej A.l h 2=some p)/\0<=h↔h∈A.q.map (·.1)
  oj:(A.q.map (·.1)).Nodup
  ol:∀t∈A.q,A.now<t.2/\t.2<=A.now+A.pd
  m6:A.q.Pairwise λa b=>a.2<=b.2
  pd:(1<=A.pd/\A.pd<=16)/\0<=A.now
  bd:A.bF<=A.np/\A.now<=A.np/\A.np<=1000000
variable{k:Nat}
theorem pW{l:List av.b3}{p:av.b3}{h st:Int}(d:(h %256).toNat≠k):av.ej (l.set k p) h st=av.ej l h st:=by grind[av.ej]
theorem oU{l:List av.b3}{h:Int}(d:0<=h)(u:(av.cV l h).2=0):∃i p,av.ej l h 1=some (i,p)/\l[i]? =some p/\p.st=1/\i<256/\h=p.c5*256+i/\(h %256).toNat=i/\av.cV l h=(p.o,0):=by grind[av.cV,av.oc]
theorem w9{l:List av.b3}{i:Nat}{p:av.b3}(d:i<256)(h:l[i]? =some p):av.ej l (p.c5*256+i) p.st=some (i,p):=by
 have e:((p.c5*256+(i:Int)) %256).toNat=i:=U
 rw[av.ej,e,h];grind
theorem cm.ub(h:cm A){i a s w np:Nat}{d:Int}(u:cH A.l i 1 (bD 2 a f))(hs:s<256){Q:List aD.b1}(C:jK A.Q Q A.bF f d)(aq:(kT (fm A.aJ i s w i):Int)=kT (A.aJ i)+d)(hw:w=0\/∃h r:Nat,w=dC h r/\1<=r/\r<=15/\h<4294967295/\(av.cV A.l h).2=0)(ar:A.np<=np/\np<=1000000):cm {A with Q:=Q,aJ:=fm A.aJ i s w,np:=np}:=by have V:=u.lt h.ok;refine⟨h.ok,C.ee,h.rt,λi s o hs u=>⟨(C.has _).2 (h.ac i s o hs u).1,(h.ac i s o hs u).2⟩,λi s a f hs u=>?_,h.nu,λj r H=>?_,λx Z=>?_,h.mD,h.oj,h.ol,h.m6,h.pd,?_⟩;obtain⟨D,E⟩:=h.c3 i s a f hs u;dsimp only;exact⟨(C.has _).2 D,λO=>⟨(E O).1,by rw[C.par];exact(E O).2⟩⟩;dsimp only at H⊢;by_cases e:j=i/\r=s;grind[il];have N:j≠i\/r≠s:=U;rw[ls N]at H⊢;exact h.aJ j r H;have P:=(C.has x).1 Z;have D:=p7 (f:=h9 A x) (g:=h9 {A with Q:=Q,aJ:=fm A.aJ i s w,np:=np} x) V λj _ W=>(by rw[h9,h9];dsimp only;rw[show fm A.aJ i s w j=A.aJ j from funext λr=>ls (.inl W)]);rw[n1 (A:=A) u x,n1 (A:={A with Q:=Q,aJ:=fm A.aJ i s w,np:=np}) u x]at D;have E:=h.hN x P;have ah:=C.fU x P;rw[pE]at E⊢;dsimp only at D⊢;have hu:fs 1:=.inl rfl;have N:((bD 2 a f).f=x)=(f=x):=rfl;by_cases e:f=x;have bM:fs 1/\(bD 2 a f).f=x:=⟨hu,e⟩;have au:(1:Int)=1/\(bD 2 a f).k=2:=⟨rfl,rfl⟩;grind;grind;have:=h.bd;grind
theorem H5{e:Nat->Nat}(h:∀s,e s=0):kT e=0:=by rw[kT,p8 λs _=>by rw[h s];rfl,p8 λj _=>by rw[j9,p8 λr _=>h _];rfl]
theorem cm.zu(h:cm A){s:Int}{o:av.fi}(D:cH A.l k s o)(hs:s≠1\/o.k≠2)(r:Nat):A.aJ k r=0:=Wd λw=>by
 obtain⟨_,⟨a,f,C⟩,_⟩:=h.aJ k r w
 obtain⟨d,u⟩:=D.inj C
 rcases hs with hs|hs
 ·exact hs d
 exact hs (by rw[u];rfl)
theorem cm.lt(h:cm A){i:Nat}{p:av.b3}(d:A.l[i]? =some p):i<256/\0<=p.c5/\p.c5<=1048575:=⟨h.ok.lt d,h.ok.c5 p (Vg d)⟩
theorem cm.put(h:cm A){c a np:Nat}{g:Int}{dz:av.fi}{Q:List aD.b1}{own:Nat->Nat}(ah:A.l[k]? =some ⟨dz,0,g⟩)(ba:bL c≠0)(a4:aD.df A.Q f)(ax:aD.eU Q bF)
 (aq:∀x,aD.df A.Q x->aD.df Q x/\aD.gp Q x=aD.gp A.Q x+(if x=f then(bL c:Int)else 0)/\aD.ll Q x=aD.ll A.Q x)
 (bk:∀x,aD.df Q x->¬aD.df A.Q x->aD.gp Q x=0) (aI:c=1->aD.df Q (own k)/\¬aD.df A.Q (own k)/\own k≠0/\aD.ll Q (own k)=f)
 (N:∀i,i≠k->own i=A.own i) (bl:A.np<=np/\np<=1000000) (bb:bF<=np):cm {A with l:=A.l.set k ⟨bD c a f,1,g⟩,Q:=Q,bF:=bF,own:=own,np:=np}:=by
 obtain⟨aw,a5⟩:=h.lt ah;have bn:∀r,A.aJ k r=0:=λr=>h.zu (k:=k) (s:=0) ⟨g,ah⟩ (.inl an) r;have a9:k≠0:=λe=>(by obtain⟨⟨b,u⟩,_⟩:=h.rt;simp_all);have back:∀{i s o},cH (A.l.set k ⟨bD c a f,1,g⟩) i s o->(i≠k/\cH A.l i s o)\/(i=k/\s=1/\o=bD c a f):=λ{i s o} C=>(by rcases C.set with h|⟨e,O,P⟩;all_goals simp_all);have key:∀{b:Nat} {w:Int},bD c a f=bD 1 b w->c=1/\f=w:=λ{b w} e=>(by grind[jD]);refine⟨h.ok.set k a5,ax,⟨?_,?_⟩,λi s o hs C=>?_,λi s b w hs C=>?_,λi j s r b d w aB hs a1 C au e=>?_,λi s C=>?_,λx bg=>?_,λE=>?_,h.oj,h.ol,h.m6,h.pd,⟨bb,by have:=h.bd;dsimp only;omega⟩⟩;obtain⟨⟨b,u⟩,_⟩:=h.rt;grind;dsimp only;rw[N 0 (λe=>a9 e.symm)];exact h.rt.2;rcases back C with⟨_,u⟩|⟨_,_,rfl⟩;exact⟨(aq _ (h.ac i s o hs u).1).1,(h.ac i s o hs u).2⟩;exact⟨(aq _ a4).1,ba⟩;dsimp only;rcases back C with⟨H,u⟩|⟨rfl,_,e⟩;obtain⟨D,W⟩:=h.c3 i s b w hs u;simp_all;grind;dsimp only at e;rcases back C with⟨H,u⟩|⟨rfl,_,O⟩<;>rcases back au with⟨aT,D⟩|⟨rfl,_,P⟩;rw[N i H,N j aT]at e;exact h.nu i j s r b d w aB hs a1 u D e;obtain⟨V,_⟩:=key P.symm;rw[N i H]at e;exact absurd (by rw[<-e];exact(h.c3 i s b w hs u).1) (aI V).2.1;obtain⟨V,_⟩:=key O.symm;rw[N j aT]at e;exact absurd (by rw[e];exact(h.c3 j r d aB a1 D).1) (aI V).2.1;trivial;dsimp only at C⊢;obtain⟨u,⟨b,w,D⟩,a2,r,W,ar,Z,bO,a3⟩:=h.aJ i s C;have H:i≠k:=cv
 refine⟨u,⟨b,w,D.put _ H⟩,a2,r,W,ar,Z,bO,?_⟩;obtain⟨i2,p,O,P,V,_,_,bi,_⟩:=oU U a3;grind[av.cV,pW];dsimp only at bg;have W:h9 {A with l:=A.l.set k ⟨bD c a f,1,g⟩,Q:=Q,bF:=bF,own:=own,np:=np} x k=if f=x then bL c else 0:=(by rw[n1 (s:=1) (o:=bD c a f) ⟨g,by dsimp only;rw[VX (by rw[h.ok.n];exact aw)]⟩ x];by_cases e:f=x;(have bM:fs 1/\(bD c a f).f=x:=by trivial);have bh:(if(1:Int)=1/\(bD c a f).k=2 then kT (A.aJ k)else 0)=0:=(by grind[H5]);rw[az bM,az e];exact congrArg (bL c+·) bh;rw[al (show ¬(fs 1/\(bD c a f).f=x)from λh=>e h.2),al e]);have ar:h9 A x k=0:=(by rw[n1 (s:=0) ⟨g,ah⟩ x,al (show ¬(fs 0/\dz.f=x)from λh=>by rcases h.1 with h|h<;>exact absurd h an)]);have D:=p7 (f:=h9 A x) (g:=h9 {A with l:=A.l.set k ⟨bD c a f,1,g⟩,Q:=Q,bF:=bF,own:=own,np:=np} x) aw λj _ H=>(by grind[h9]);rw[W,ar]at D;rw[pE];by_cases aE:aD.df A.Q x;have Z:=h.hN x aE;have bO:=(aq x aE).2.1;rw[pE]at Z;grind;have Z:hg 256 (h9 A x)=0:=p8 λj au=>(by obtain⟨p,a0,_⟩:=h.ok.at au;rw[n1 (o:=p.o) (s:=p.st) ⟨p.c5,a0⟩ x,al (show ¬(fs p.st/\p.o.f=x)from λu=>aE (u.2▸(h.ac j p.st p.o u.1 ⟨p.c5,a0⟩).1))]);grind;dsimp only;rw[<-h.mD E];have:(∃p,av.ej (A.l.set k ⟨bD c a f,1,g⟩) E 2=some p)↔∃p,av.ej A.l E 2=some p:=(by by_cases e:(E %256).toNat=k;have O:av.ej A.l E 2=none:=(by rw[av.ej,e,ah];dsimp only;rw[al λh=>absurd h.2 an]);have P:av.ej (A.l.set k ⟨bD c a f,1,g⟩) E 2=none:=(by rw[av.ej,e,VX (by rw[h.ok.n];exact aw)];dsimp only;rw[al λh=>absurd h.2 an]);simp_all;grind[pW]);simp_all
theorem cm.t7(h:cm A){o:av.fi}{g:Int}(H:A.l[k]? =some ⟨o,1,g⟩)(bo:k≠0)(au:∀i s (x r:Nat),A.aJ i s=dC x r->1<=r->r<=15->x<4294967295->(x:Int)≠g*256+k)(ba:∀s,A.aJ k s=0)(a8:Nat->Nat->Nat):
 cm {A with l:=A.l.set k ⟨o,2,g⟩,a8:=a8,q:=A.q++[(g*256+k,A.now+A.pd)]}:=by
 obtain⟨a2,aq⟩:=h.lt H;dsimp only at aq;have back:∀{i s w},cH (A.l.set k ⟨o,2,g⟩) i s w->(i≠k/\cH A.l i s w)\/(i=k/\s=2/\w=o/\cH A.l i 1 w):=λ{i s w} u=>(by rcases u.set with h|⟨rfl,V,W⟩;simp_all;dsimp only at V W;subst W;exact .inr ⟨rfl,V.symm,rfl,g,H⟩);have Q:∀{i s w},fs s->cH (A.l.set k ⟨o,2,g⟩) i s w->∃r,fs r/\cH A.l i r w:=λ{i s w} hs u=>(by rcases back u with⟨_,h⟩|⟨_,_,_,h⟩;grind;exact⟨1,.inl rfl,h⟩);have bz:av.ej (A.l.set k ⟨o,2,g⟩) (g*256+k) 2=some (k,⟨o,2,g⟩):=by grind[av.ej]
 have br:av.ej A.l (g*256+k) 2=none:=(by rw[av.ej,show((g*256+(k:Int)) %256).toNat=k by omega,H];dsimp only;rw[al λh=>absurd h.2 an]);refine⟨h.ok.set k aq,h.ee,⟨?_,h.rt.2⟩,λi s w hs u=>?_,λi s b E hs u=>?_,λi j s r b d E aw hs N u a1 e=>?_,λi s u=>?_,λx D=>?_,λah=>?_,?_,λt O=>?_,?_,h.pd,h.bd⟩;obtain⟨⟨b,C⟩,_⟩:=h.rt;grind;obtain⟨r,N,C⟩:=Q hs u;exact h.ac i r w N C;obtain⟨r,N,C⟩:=Q hs u;exact h.c3 i r b E N C;obtain⟨bh,a9,C⟩:=Q hs u;obtain⟨bg,a5,Z⟩:=Q N a1;exact h.nu i j bh bg b d E aw a9 a5 C Z e;obtain⟨C,⟨b,E,Z⟩,x,r,aI,aT,a0,bO,aD⟩:=h.aJ i s u;have a3:i≠k:=cv
 refine⟨C,⟨b,E,Z.put _ a3⟩,x,r,aI,aT,a0,bO,?_⟩;obtain⟨i2,p,bi,ar,bk,_,bn,bl,_⟩:=oU U aD;grind[av.cV,pW];dsimp only at D⊢;rw[h.hN x D];refine congrArg (λn:Nat=>(n:Int)) (q5 λj _=>?_);rw[h9,h9];dsimp only;by_cases e:j=k;subst e;rw[VX (by rw[h.ok.n];exact a2),H];dsimp only;by_cases ar:o.f=x;have bM:((1:Int)=1\/(1:Int)=2)/\o.f=x:=by trivial
 have bb:((2:Int)=1\/(2:Int)=2)/\o.f=x:=by trivial
 rw[az bM,az bb,H5 ba];simp;simp_all;grind;dsimp only;rw[We,Vd,<-h.mD ah];by_cases e:(ah %256).toNat=k;have:av.ej A.l ah 2=none:=(by rw[av.ej,e,H];dsimp only;rw[al λh=>absurd h.2 an]);rw[this];constructor;rintro⟨⟨⟨i,p⟩,a4⟩,aB⟩;obtain⟨V,W,_,_⟩:=av.oc aB a4;grind;grind;grind[pW];dsimp only;rw[We,VH];refine⟨h.oj,by simp,λx D y P e=>?_⟩;rw[List.map_singleton,Vc]at P;rw[e,P,<-h.mD]at D;simp_all;rcases Vd.1 O with O|O;exact h.ol t O;rw[Vc]at O;have:=h.pd;grind;dsimp only;rw[List.pairwise_append];refine⟨h.m6,by simp,λx D y P=>?_⟩;rw[Vc]at P;rw[P];exact(h.ol x D).2
theorem GA{L:List aD.b1}{y x:Int}:aD.df (aD.kM L y) x↔aD.df L x/\x≠y:=by constructor;rintro⟨t,d,rfl⟩;have:=aD.nJ.1 d;exact⟨⟨t,this.1,rfl⟩,this.2⟩;rintro⟨⟨t,d,rfl⟩,u⟩;exact⟨t,aD.nJ.2 ⟨d,u⟩,rfl⟩
theorem Le{L:List aD.b1}(ax:aD.eU L bF)(y:Int):aD.eU (aD.iH L y).1 bF/\(∀x,aD.df (aD.iH L y).1 x->aD.df L x/\aD.gp (aD.iH L y).1 x=aD.gp L x/\aD.ll (aD.iH L y).1 x=aD.ll L x)/\∀x,aD.df L x->aD.df (aD.iH L y).1 x\/(x=y/\aD.gp L x=0):=by refine⟨ax.close y,?_⟩;unfold aD.iH;split;simp_all;split;simp_all;split;simp_all;rename_i w H N;have E:=Vf w;refine⟨λx h=>?_,λx h=>?_⟩;dsimp only at h⊢;have O:=GA.1 h;obtain⟨t,d,rfl⟩:=h;have C:=aD.nJ.1 d;have au:aD.iF (aD.kM L y):=(by obtain⟨u,hu,rfl⟩:=E;obtain⟨M,bN⟩:=fE hu;exact(aD.iF.perm (ax.bC.perm bN.symm) (Xz _)|>λh=>(Vu.1 h).2)|>λh=>aD.iF.perm h (aD.xn ax.bC bN));have P:=aD.iB au d;have D:=aD.iB ax.bC C.1;simp_all;by_cases e:x=y;subst e;obtain⟨t,d,rfl⟩:=h;have D:=aD.iB ax.bC d;have Q:=(ax.rg t d).2.2.2.2;have bO:=aD.wH ax t.id;omega;grind[GA]
theorem cm.free(h:cm A){c a:Nat}{g t:Int}{aI:List (Int×Int)}(bg:A.l[k]? =some ⟨bD c a f,2,g⟩)(cf:1<=c/\c<=5\/c=8)(a2:A.q=(g*256+k,t)::aI){mg:List aD.b1}(a5:mg=if c=1 then(aD.iH A.Q (A.own k)).1 else A.Q):
 (aD.eo mg f (bL c)).2=0/\cm {A with l:=A.l.set k (av.jb ⟨bD c a f,2,g⟩),Q:=(aD.eo mg f (bL c)).1,q:=aI}:=by
 obtain⟨aB,bK⟩:=h.lt bg;dsimp only at bK;have Z:cH A.l k 2 (bD c a f):=⟨g,bg⟩;have bV:k≠0:=λe=>(by obtain⟨⟨b,D⟩,_⟩:=h.rt;simp_all);have ba:=h.ac k 2 _ (.inr rfl) Z;have co:∀r,A.aJ k r=0:=h.zu Z (.inl an);have aw:¬fs (av.jb ⟨bD c a f,2,g⟩).st/\0<=(av.jb ⟨bD c a f,2,g⟩).c5/\(av.jb ⟨bD c a f,2,g⟩).c5<=1048575:=(by grind[av.jb,fs]);generalize ce:av.jb ⟨bD c a f,2,g⟩=P at aw;have br:aD.eU mg A.bF/\(∀x,aD.df mg x->aD.df A.Q x/\aD.gp mg x=aD.gp A.Q x/\aD.ll mg x=aD.ll A.Q x)/\∀x,aD.df A.Q x->aD.df mg x\/(c=1/\x=A.own k/\aD.gp A.Q x=0):=(by rw[a5];split;rename_i cg;obtain⟨N,aT,a9⟩:=Le h.ee (A.own k);simp_all;exact⟨h.ee,λx O=>⟨O,rfl,rfl⟩,λx O=>.inl O⟩);obtain⟨cG,a3,a4⟩:=br;have bl:∀x,aD.df A.Q x->aD.gp A.Q x=0->∀i s o,fs s->cH A.l i s o->o.f≠x:=λx O W i s o hs w e=>(by have C:=vb (f:=h9 A x) (w.lt h.ok);have E:=h.hN x O;rw[n1 w x,az ⟨hs,e⟩]at C;rw[W,pE]at E;(have H:bL o.k.toNat=0:=by omega);exact absurd H (h.ac i s o hs w).2);have bz:c=1->f<A.own k:=λe=>(by obtain⟨N,aT⟩:=h.c3 k 2 a f (.inr rfl) (by subst e;exact Z);obtain⟨a9,D⟩:=aT bV;obtain⟨u,hu,w⟩:=N;rw[<-w,(aD.iB h.ee.bC hu).2.2.2]at D;have:=(h.ee.par u hu U).2;omega);have bb:aD.df mg f:=(a4 f ba.1).elim id λN=>absurd (bz N.1) U;have ch:bL c<=pE A f:=(by have C:=vb (f:=h9 A f) aB;rw[n1 Z f,az ⟨.inr rfl,rfl⟩]at C;trivial);obtain⟨dT,ah⟩:=jK.r3 (f:=f) (n:=(bL c:Int)) cG bb U (by rw[(a3 f bb).2.1,h.hN f ba.1];omega);have back:∀{i s o},fs s->cH (A.l.set k P) i s o->i≠k/\cH A.l i s o:=λ{i s o} hs w=>(by rcases w.set with h|⟨_,N,_⟩;all_goals simp_all);have bh:=h.oj;rw[a2]at bh;obtain⟨ck,b0⟩:=Vu.1 bh;refine⟨dT,h.ok.set k aw.2,ah.ee,⟨?_,h.rt.2⟩,λi s o hs w=>?_,λi s b V hs w=>?_,λi j s r b d V bn hs bi w bM e=>?_,λi s w=>?_,λx O=>?_,λa0=>?_,b0,λu hu=>h.ol u (by rw[a2];exact List.mem_cons_of_mem _ hu),?_,h.pd,h.bd⟩;obtain⟨⟨b,D⟩,_⟩:=h.rt;grind;obtain⟨au,D⟩:=back hs w;obtain⟨C,E⟩:=h.ac i s o hs D;exact⟨(ah.has _).2 ((a4 _ C).elim id λH=>absurd rfl (bl _ C H.2.2 i s o hs D)),E⟩;dsimp only;obtain⟨au,D⟩:=back hs w;obtain⟨C,E⟩:=h.c3 i s b V hs D;have H:aD.df mg (A.own i):=(a4 _ C).elim id λar=>absurd (h.nu i k s 2 b a V f hs (.inr rfl) D (by have:=ar.1;subst this;exact Z) U) au;exact⟨(ah.has _).2 H,λW=>⟨(E W).1,by rw[ah.par,(a3 _ H).2.2];exact(E W).2⟩⟩;exact h.nu i j s r b d V bn hs bi (back hs w).2 (back bi bM).2 e;obtain⟨D,⟨b,V,C⟩,x,r,E,H,ar,bO,bo⟩:=h.aJ i s w;have au:i≠k:=cv
 refine⟨D,⟨b,V,C.put _ au⟩,x,r,E,H,ar,bO,?_⟩;obtain⟨i2,p,a5,aq,b4,_,cc,cb,_⟩:=oU U bo;grind[av.cV,pW];dsimp only at O⊢;have bk:=(ah.has x).1 O;obtain⟨b3,cn,_⟩:=a3 x bk;have E:h9 {A with l:=A.l.set k P,Q:=(aD.eo mg f (bL c)).1,q:=aI} x k=0:=(by rw[n1 (s:=P.st) (o:=P.o) ⟨P.c5,by dsimp only;rw[VX (by rw[h.ok.n];exact aB)]⟩ x,al λh=>aw.1 h.1]);have H:h9 A x k=if f=x then bL c else 0:=(by rw[n1 Z x];(have e:(bD c a f).k.toNat=c:=by trivial);by_cases aq:f=x;rw[az ⟨.inr rfl,aq⟩,az aq,e,al (λh=>absurd h.1 an)];rfl;rw[al (λh=>aq h.2),al aq]);have C:=p7 (f:=h9 A x) (g:=h9 {A with l:=A.l.set k P,Q:=(aD.eo mg f (bL c)).1,q:=aI} x) aB λj _ au=>(by grind[h9]);rw[E,H]at C;have ar:=h.hN x b3;have bO:=ah.fU x bk;rw[pE]at ar⊢;grind;dsimp only;have am:=h.mD a0;rw[a2,VM,Vp]at am;dsimp only at am;by_cases e:(a0 %256).toNat=k;have:av.ej (A.l.set k P) a0 2=none:=(by rw[av.ej,e,VX (by rw[h.ok.n];exact aB)];dsimp only;rw[al λh=>aw.1 (.inr h.2)]);rw[this];refine⟨λN=>(by obtain⟨⟨p,a1⟩,_⟩:=N;cases a1),λN=>?_⟩;obtain⟨⟨⟨i,p⟩,a1⟩,W⟩:=am.2 (.inr N);obtain⟨aT,a9,_,_⟩:=av.oc W a1;grind;grind[pW];have:=h.m6;simp_all
end Go.Proofs.Q
namespace Go.Proofs.Q.gy
open Go Go.QM
end Go.Proofs.Q.gy
namespace Go.Proofs.Q
open Go Go.QM
variable [dL]
structure eE where
  am:Nat
  bx:Nat
  S:cD
def iv(aK af top:Nat)(A:bV):aw:=eQ λy:eE=>pure' (cg top A y.S/\cm A) (ag [aj aK 135 [ae af,ae y.am,ae y.bx],dU af top y.S,a6 264 5 (cM y.am) 256 256 (av.fN A.l),gy.eC y.bx A.pd A.now A.q])
def bW(l:List av.b3)(h k:Int):av.fi×Int:=if(av.cV l h).2=0/\k≠0/\(av.cV l h).1.k≠k then(av.mL,10)else av.cV l h
variable{h:Int}
theorem Bc{l:List av.b3}{k:Int}(e:(av.cV l h).2≠0):bW l h k=av.cV l h:=al λx=>e x.1
theorem iy{l:List av.b3}:bW l h 0=av.cV l h:=al λx=>x.2.1 rfl
theorem o5{l:List av.b3}{k:Int}(e:(av.cV l h).1.k=k):bW l h k=av.cV l h:=al λx=>x.2.2 e
theorem Bb{l:List av.b3}{k:Int}(e:(av.cV l h).2=0)(d:k≠0)(u:(av.cV l h).1.k≠k):bW l h k=(av.mL,10):=az ⟨e,d,u⟩
def mC(A:bV)(h:Int):Int×Int:=if(bW A.l h 1).2=0 then((A.own (h %256).toNat:Int),0)else(0,(bW A.l h 1).2)
theorem iX{l:List av.b3}{k:Int}(d:0<=h)(e:(bW l h k).2=0):∃i p,av.ej l h 1=some (i,p)/\l[i]? =some p/\p.st=1/\i<256/\h=p.c5*256+i/\(h %256).toNat=i/\bW l h k=(p.o,0)/\(k=0\/p.o.k=k):=by have u:(av.cV l h).2=0/\(k=0\/(av.cV l h).1.k=k):=(by unfold bW at e;grind);grind[oU,iy,o5]
variable(aK af:Nat)
theorem j3(top:Nat)(A:bV)(h:Int)(u:0<=h/\h<=4294967295)(k:Int):bz 19 [ae aK,aS h,aa k] bg [iv aK af top A] (.tuple #[.agg (ints (bW A.l h k).1.l).toArray,aa (bW A.l h k).2]) [iv aK af top A]:=by apply aI Tryz.func19 Tryz.ntmps19;intro F _;refine J [286] ?_;rintro⟨am,bx,S⟩ ⟨aQ,aE⟩;apply J [57];dsimp only at aQ aE⊢;refine J [25,162] ?_;intro be;apply J [31,42,87,27];apply eJ (av.zS am A.l h aE.ok u) ⟨_,bn.rd (ad:=some ⟨am,0,none⟩)⟩;apply J [12];by_cases g0:(av.cV A.l h).2=0;refine J [214] ?_;intro cj;apply J [86,26,176];refine VD 24 rfl (c:=true) (c1 g0) ?_;by_cases g1:k=0;subst g1;rw[iy];apply J [274,73];refine VD 28 rfl (c:=false) (db U) ?_;apply J [46,71,141,116,197,30];exact yo;apply J [274,73];refine VD 28 rfl (c:=true) (c1 g1) ?_;apply J [184,274,183];apply Ve rfl<;>intro d;rw[Bb g0 g1 d];apply J [24,248,92,120];exact yo;rw[o5 (Vf d)];apply J [4,116,197,30];exact yo;rw[Bc g0];refine J [214] ?_;intro bA;apply J [86,26,176];refine VD 24 rfl (c:=false) (db g0) ?_;apply J [280,46,71,141,116,197,30];exact yo
theorem Du(top:Nat)(A:bV):bK 16 [ae aK] bg [iv aK af top A] (λy:Option Addr×Nat=>.slice y.1 (av.dY A.l 1).length y.2) (λ_=>True) (λy=>[a6 33 1 y.1 (av.dY A.l 1).length y.2 (cO .u32 (av.dY A.l 1)),iv aK af top A]):=by apply aI Tryz.func16 Tryz.ntmps16;intro F _;refine J [286] ?_;rintro⟨am,bx,S⟩ ⟨aQ,aE⟩;apply J [57];dsimp only at aQ aE⊢;apply J [188,42,87,0];apply eN (av.AC am A.l aE.ok) ⟨_,bn.rd (ad:=some ⟨am,0,none⟩)⟩;intro y _;apply J [12,91];exact bv y trivial (ao (aA (⟨am,bx,S⟩:eE) ⟨aQ,aE⟩ ai))
theorem cm.G5{A:bV}(h:cm A):A.q.length<=256:=by have d:((A.q.map (·.1)).map λx:Int=>(x %256).toNat).Nodup:=(by rw[YO,Xe];refine List.Pairwise.imp_of_mem ?_ h.oj;intro a b w am V e;obtain⟨⟨⟨i,p⟩,C⟩,u⟩:=(h.mD a).2 w;obtain⟨⟨⟨j,r⟩,D⟩,d⟩:=(h.mD b).2 am;obtain⟨E,H,N,_⟩:=av.oc u C;obtain⟨O,P,Q,_⟩:=av.oc d D;grind);have:=vf d (m:=List.range 256) λx W=>cv;simp_all
def s7:Option Nat->Int
  | some x=>(x:Int)
  | none=>0
structure qp(top:Nat)(S:cD)(a:Int)(c x:Nat)(bb:cD):Prop where
  q:(aD.dd S.Q a (bL c:Int)).2=0/\bb.Q=(aD.dd S.Q a (bL c:Int)).1/\bb.bF=S.bF
  g:gk top S bb h0 h0
  b:c7 bb c x
  n:¬c7 S c x
  z:∀o,x<=o->o+8<=x+bL c->cU bb.m o=0
  u:fF (960/cf 6) (bb.C 6)=fF (960/cf 6) (S.C 6)
  p:(dr bb.C bb.Fr).length<=(dr S.C S.Fr).length+1
def JQ(top:Nat)(S:cD)(a:Int)(c:Nat):Option Nat×cD×Int->Prop
  | (some x,bb,e)=>e=0/\qp top S a c x bb
  | (none,bb,e)=>e≠0/\bb=S/\(e=(aD.dd S.Q a (bL c:Int)).2\/e=4/\2^top<=(dr S.C S.Fr).length)
def jE(c:Nat):Prop:=1<=c/\c<=5\/c=8
theorem Gl{c:Nat}(h:jE c)(d:c≠8):c∈cls/\bL c=cf c/\c≠6:=by have:c∈cls:=wb.2 (by rcases h with h|h<;>omega);exact⟨this,qQ this,by rcases h with h|h<;>omega⟩
theorem xv(C:Nat->List cc)(Fr:List Nat)(p:Nat):(p::dr C Fr).Perm (dr C (p::Fr)):=by grind[dr]
variable{top:Nat}{S bb:cD}
theorem dh.No(h:dh top S){p:Nat}(O:p<2^top)(D:p∉dr S.C S.Fr)(u:bb.C=S.C)(w:bb.Fr=p::S.Fr):dh top bb:=by obtain⟨N,Q,E,H,P⟩:=bb;dsimp only at u w;subst u;subst w;exact⟨h.fZ,h.ok,(xv _ _ _).nodup_iff.1 (Vu.2 ⟨D,h.bC⟩),λq d=>by rcases Vp.1 ((xv _ _ _).mem_iff.2 d)with rfl|d;trivial;exact h.lt q d⟩
theorem GF(d:dh top S){a:Int}{c:Nat}(u:c∈cls)(E:c≠6)(e:bL c=cf c){y:Nat×Nat×List cc}(N:(aD.dd S.Q a (cf c:Int)).2=0)(g:i5 top S c y):qp top S a c (addr c y) (kl S a c (some y)):=by obtain⟨g1,g2⟩:=wE (bb:=kl S a c (some y)) d u g rfl rfl λo H=>vv H;refine⟨by rw[e];exact⟨N,rfl,rfl⟩,g1,g2,λk=>g.uM d u k ⟨rfl,rfl⟩,λo w D=>w7 w (by rw[<-e];exact D),?_,g.len⟩;exact congrArg (fF (960/cf 6)) (jj S.C y.2.2 λh=>E h.symm)
theorem QA{p:Nat}(w:dh top S){a:Int}(H:(aD.dd S.Q a 1024).2=0)(d:p<2^top)(u:p∉dr S.C S.Fr)(e:bb=⟨(aD.dd S.Q a 1024).1,S.bF,S.C,p::S.Fr,hx S.m (p*1024) 1024⟩):qp top S a 8 (p*1024) bb/\dh top bb:=by
 have D:dh top bb:=w.No d u jT jT;obtain⟨g1,g2,g3⟩:=Np w D jT jT λo E=>by rw[e];exact vv E
 refine⟨⟨by rw[e];exact⟨H,rfl,rfl⟩,g1,g2,g3,λo d u=>by rw[e];exact w7 d u,by rw[e],?_⟩,D⟩;have:=(xv S.C S.Fr p).length_eq;simp_all
structure tF(top:Nat)(S:cD)(a:Int)(c x:Nat)(bb:cD):Prop where
  q:bb.Q=(aD.eo S.Q a (bL c:Int)).1/\bb.bF=S.bF
  g:gk top S bb (fA c x) (fA c x)
  u:fF (960/cf 6) (bb.C 6)=fF (960/cf 6) (S.C 6)
  p:(dr bb.C bb.Fr).length<=(dr S.C S.Fr).length
theorem QH(w:dh top S){a:Int}{c x aC i:Nat}{L':List cc}(d:c∈cls)(u:c≠6)(D:x=aC*1024+64+i*cf c)(g:jY top S c aC i L')(e:bb=⟨(aD.eo S.Q a (cf c:Int)).1,S.bF,dK S.C c L',S.Fr,S.m⟩):tF top S a c x bb:=
 ⟨by rw[e,qQ d];exact⟨rfl,rfl⟩,wD w d g D jT jT jT,by rw[e];exact congrArg (fF (960/cf 6)) (jj S.C L' λh=>u h.symm),by rw[e];exact g.len⟩
theorem QI{p:Nat}(d:dh top S){a:Int}(e:bb=⟨(aD.eo S.Q a 1024).1,S.bF,S.C,S.Fr.erase p,S.m⟩):tF top S a 8 (p*1024) bb:=
 ⟨by rw[e];exact⟨rfl,rfl⟩,Nr d jT jT jT,by rw[e],by rw[e];dsimp only;rw[dr,dr,mp,mp];have:=List.length_erase_le (a:=p) (l:=S.Fr);omega⟩
theorem QZ{C:Nat->List cc}{Fr:List Nat}{p:Nat}(au:p∉cls.flatMap (hP C))(d:p∈Fr):(dr C (Fr.erase p)).Perm ((dr C Fr).erase p):=by grind[dr]
theorem Dp(am bx top:Nat)(S:cD)(a:Int)(c:Nat)(a0:jE c):bK 131 [ae aK,aa a,aa c] cW [aj aK 135 [ae af,ae am,ae bx],dU af top S] (λy:Option Nat×cD×Int=>.tuple #[aa (s7 y.1),aa y.2.2]) (λy=>JQ top S a c y) (λy=>[aj aK 135 [ae af,ae am,ae bx],dU af top y.2.1]):=by
 apply aI Tryz.func131 Tryz.ntmps131;intro F aJ;apply J [11];haveI:cl F:=⟨aJ⟩;refine ab.open 1 rfl (λO N=>?_);obtain⟨cP,bd,d,w⟩:=O;have D:=N;apply J [247];dsimp only at D⊢;have a4:=D.fZ;have bh:2^top<=128:=Vi (n:=2) an a4.2;refine ab.open 1 rfl (λO N=>?_);obtain⟨a5,a9⟩:=O;have ax:=N;apply J [58];refine WE (B:=ag [aj af 169 (iz 8 cP bd d w),aD.eC cP S.Q S.bF,lj bd top (dr S.C S.Fr),gB d S.m (1024*2^top),b8 (λc=>j7 (w c) bd (cf c) (S.C c)) cls,aj aK 135 [ae af,ae am,ae bx],F]) (cZ (aA (⟨a5,a9⟩:aD.oG) ax ai)) ?_;by_cases W:c=8;subst W;apply J [24,223,32];refine Ve rfl (λah=>absurd ah U) (λah=>?_);apply J [44,41,78,27];apply aq (aD.G6 cP S.Q S.bF a 1024);apply J [15,127];apply Ve rfl<;>intro u;apply J [190];have a2:=Dq u;exact cT (none,S,(aD.dd S.Q a 1024).2) ⟨u,rfl,.inl rfl⟩ (by rw[a2];exact(eI (aA (dR.mk cP bd d w:dR af) D ai)));have u:=Vf u;apply J [4,41,55,80,0];apply ba (Dc bd top (dr S.C S.Fr));intro P av;apply J [15];cases P with|none=>?_|some aC=>?_
 have a1:2^top<=(dr S.C S.Fr).length:=av;dsimp only[vi,qC,lI];have a3:=tc ax u;apply J [124,32,14,41,78,27];apply aq (aD.xE cP (aD.dd S.Q a 1024).1 S.bF a 1024);apply J [15];rw[a3];apply J [3,190];exact cT (none,S,4) ⟨by decide,rfl,.inr ⟨rfl,a1⟩⟩ (eI (aA (dR.mk cP bd d w:dR af) D ai));have H:aC<2^top/\aC∉dr S.C S.Fr:=av;dsimp only[vi,qC,lI];obtain⟨bb,V⟩:∃bb:cD,bb=⟨(aD.dd S.Q a 1024).1,S.bF,S.C,aC::S.Fr,hx S.m (aC*1024) 1024⟩:=⟨_,rfl⟩;obtain⟨cK,aT⟩:=QA D u H.1 H.2 V;have bg:=H.1;apply J [124,202,41,0];apply aq (l5 af cP bd d w);apply J [15,27];refine aO (C7 d (1024*2^top) (aC*1024) 1024 S.m U U U) (congrArg (λz:Int=>[Yh (some ⟨d,0,none⟩),.int .i64 z,.int .i64 1024,.int .u8 0]) cE) eF.p trivial ?_;intro _ _;apply J [15,3,26,95];exact ca.i (some (aC*1024),bb,0) [aa ((aC:Int)*1024),aa 0] ⟨rfl,rfl,trivial⟩ (by dsimp only[s7];rw[show((aC*1024:Nat):Int)=(aC:Int)*1024 by simp];rfl) ⟨rfl,cK⟩ (by subst V;exact(eI (aA (dR.mk cP bd d w:dR af) aT (bX (bw (eO 1 rfl (vT _ _ (xv _ _ _)) ai))))));obtain⟨ar,au,aw⟩:=Gl a0 W;refine WE (B:=ag [aj aK 135 [ae af,ae am,ae bx],dU af top S,F]) (eI (aA (dR.mk cP bd d w:dR af) D ai)) ?_;apply J [24,223,32];refine Ve rfl (λZ=>?_) (λZ=>absurd U Z);apply J [41,196];apply ba (uV af top S a c ar);intro⟨P,cu⟩ E;apply J [8];cases P with|none=>?_|some y=>?_
 dsimp only[pA,kl];apply J [70,70,347];exact cT (none,S,cu) ⟨E.1,rfl,by rw[au];exact E.2⟩ ai;obtain⟨rfl,u,cK⟩:=E;dsimp only[pA];apply J [70,70,347];exact cT (some (addr c y),kl S a c (some y),0) ⟨rfl,GF D ar aw au u cK⟩ ai
theorem wi(am bx top:Nat)(S:cD)(c x:Nat)(f:Int)(av:jE c)(aU:c7 S c x)(W:(aD.eo S.Q f (bL c:Int)).2=0):bK 133 [ae aK,.agg (ints (bD (c:Int) x f).l).toArray] cW [aj aK 135 [ae af,ae am,ae bx],dU af top S] (λ_:cD=>.tuple #[]) (λbb=>tF top S f c x bb) (λbb=>[aj aK 135 [ae af,ae am,ae bx],dU af top bb]):=by
 apply aI Tryz.func133 Tryz.ntmps133;intro F ar;apply J [11];haveI:cl F:=⟨ar⟩;refine ab.open 1 rfl (λa2 a1=>?_);obtain⟨cP,bd,H,N⟩:=a2;have d:=a1;apply J [247];dsimp only at d⊢;have a0:=d.fZ;have a4:2^top<=128:=Vi (n:=2) an a0.2;by_cases D:c=8;·subst D;obtain⟨u,fX,rfl⟩:∃p∈S.Fr,x=p*1024:=(by rcases aU with⟨h,_⟩|⟨_,h⟩;all_goals trivial);refine J [25,291] ?_;intro bA;apply J [29,99,344];refine Ve rfl (λP=>absurd P (λh=>h rfl)) (λP=>?_);have eP:=zM d fX;(have V:u∈dr S.C S.Fr:=by grind[dr]);have a3:=d.lt u V;obtain⟨bb,w⟩:∃bb:cD,bb=⟨(aD.eo S.Q f 1024).1,S.bF,S.C,S.Fr.erase u,S.m⟩:=⟨_,rfl⟩;have au:dh top bb:=d.Iz (by rw[w]) (by rw[w]);apply J [44];refine cJ [0,1,2,3,4,5,6,7,8,-9] (ao (ao (eT (a7 _)))) ?_;apply J [72,66,110,131,13];apply aq (aD.xE cP S.Q S.bF f 1024);refine J [292,113] ?_;refine cJ [0,1,2,3,4,5,6,7,8,-9] (bX (bX (eT (a7 _)))) ?_;apply J [72,66,174,338];refine aO (Da bd top (dr S.C S.Fr) u V) (congrArg (λz:Int=>[Yh (some ⟨bd,0,none⟩),.int .i64 z]) (show((u*1024:Nat):Int)=(u:Int)*1024 by simp)) eF.p trivial ?_;intro _ _;refine J [292,6] ?_;refine cd.nil ?_;exact mR bb (QI d w) (by subst w;exact(bU 6 rfl (aA (dR.mk cP bd H N:dR af) au (cZ (bX (eO 0 rfl (vT _ _ (QZ eP fX).symm) ai))))))
 refine WE (B:=ag [aj aK 135 [ae af,ae am,ae bx],dU af top S,F]) (eI (aA (dR.mk cP bd H N:dR af) d ai)) ?_;obtain⟨E,aT,ah⟩:=Gl av D;rw[aT]at W;obtain⟨k,aC,i,f2,aJ,aw,rfl⟩:=(aU.jF E).at;refine J [25,291] ?_;intro be;apply J [29,99,344];refine Ve rfl (λO=>?_) (λO=>absurd (λh=>D (by have bO:(c:Int)=8:=h;omega)) O);refine ab.seq ?_;refine cJ [0,1,2,3,4,5,6,7,8,9,-10] (ao (ao (a7 _))) ?_;apply J [72,131,110,338];apply ba (uW af top S c E k aC i f2 aJ aw f W);intro Z cK;refine J [326,113,50] ?_;exact CQ ⟨(aD.eo S.Q f (cf c:Int)).1,S.bF,dK S.C c Z,S.Fr,S.m⟩ (QH d E ah rfl cK rfl) ai
end Go.Proofs.Q
namespace Go.QM
open Go
section
variable {r : Option Nat} {P : Program} {N : Nat} {ops : Array Oper} {l : List Oper} {Q : fj} {ah : Env} {aT : List Deferred} {I : aw} {c : Code} {T : List Nat} {co : List (Nat × Bool)}
variable(n:Nat){hs te:List aw}
theorem ab.lT{α:Type}{p:α->Prop}{B:α->List aw}(h:eX n hs=some (eQ (λx=>pure' (p x) (ag (B x))),te))(k:(∃x,p x)->ab r P N c Q ah aT (ag hs)):ab r P N c Q ah aT (ag hs):=
  λa w u hs=>let⟨x,d,_⟩:=sK n h hs;k ⟨x,d⟩ a w u hs
theorem aW.lT{α:Type}{p:α->Prop}{B:α->List aw}(h:eX n hs=some (eQ (λx=>pure' (p x) (ag (B x))),te))(k:(∃x,p x)->aW r P N ops l Q ah aT (ag hs)):aW r P N ops l Q ah aT (ag hs):=
  λa w u hs=>let⟨x,d,_⟩:=sK n h hs;k ⟨x,d⟩ a w u hs
theorem cd.lT{α:Type}{p:α->Prop}{B:α->List aw}(h:eX n hs=some (eQ (λx=>pure' (p x) (ag (B x))),te))(k:(∃x,p x)->cd r P N ops I T co Q ah aT (ag hs)):cd r P N ops I T co Q ah aT (ag hs):=
  λa w listed u hs=>let⟨x,d,_⟩:=sK n h hs;k ⟨x,d⟩ a w listed u hs
theorem ab.dk{A:aw}{p:Prop}(h:eX n hs=some (A,te))(u:∀d,A d->p)(k:p->ab r P N c Q ah aT (ag hs)):ab r P N c Q ah aT (ag hs):=
  λa w D hs=>by obtain⟨d,V,E,W,H,rfl,C,O⟩:=hs.bf (fO h);exact k (u E C) a w D hs
theorem aW.dk{A:aw}{p:Prop}(h:eX n hs=some (A,te))(u:∀d,A d->p)(k:p->aW r P N ops l Q ah aT (ag hs)):aW r P N ops l Q ah aT (ag hs):=
  λa w D hs=>by obtain⟨d,V,E,W,H,rfl,C,O⟩:=hs.bf (fO h);exact k (u E C) a w D hs
theorem cd.dk{A:aw}{p:Prop}(h:eX n hs=some (A,te))(u:∀d,A d->p)(k:p->cd r P N ops I T co Q ah aT (ag hs)):cd r P N ops I T co Q ah aT (ag hs):=
  λa w listed D hs=>by obtain⟨d,V,E,W,H,rfl,C,O⟩:=hs.bf (fO h);exact k (u E C) a w listed D hs
end
end Go.QM
namespace Go.Proofs.Q
open Go Go.QM
variable [dL]
theorem K0{L:List aD.b1}{d f lim:Int}(h:(aD.fT L d f lim).2.2.2≠0):(aD.fT L d f lim).1=L/\(aD.fT L d f lim).2.1=d/\(aD.fT L d f lim).2.2.1=0:=by unfold aD.fT at h⊢;grind
theorem KZ{L:List aD.b1}{d f lim:Int}(h:(aD.fT L d f lim).2.2.2=0):aD.df L f/\aD.fT L d f lim=(L++[⟨d,f,lim,0⟩],d+1,d,0):=by unfold aD.fT at h⊢;grind
theorem K1{L:List aD.b1}{d f lim:Int}(h:0<=d):0<=(aD.fT L d f lim).2.2.1/\(aD.fT L d f lim).2.2.1<=d:=by grind[aD.fT]
def n3(S:cD)(x:Nat)(f lim:Int):cD:=⟨(aD.fT S.Q S.bF f lim).1,(aD.fT S.Q S.bF f lim).2.1,S.C,S.Fr,dx S.m x [(aD.fT S.Q S.bF f lim).2.2.1.toNat]⟩
def rl(S:cD)(l:List av.b3)(c x:Nat)(f lim:Int)(y:cD×Int):Prop:=
  (y=(S,11)/\(av.dY l 0).length=0)\/(y=(S,0)/\(av.dY l 0).length≠0/\c≠1)\/(y=(n3 S x f lim,(aD.fT S.Q S.bF f lim).2.2.2)/\(av.dY l 0).length≠0/\c=1)
theorem LS{top:Nat}{S:cD}(d:dh top S){x:Nat}(aU:c7 S 1 x)(f lim:Int):gk top S (n3 S x f lim) h0 (fA 1 x):=
 oS d aU rfl rfl λo h=>kR (by(have e:bL 1=64:=rfl);simp only[VB,WY];omega)
section
variable {top : Nat} {A : bV} {S cr dI gm : cD} {c x : Nat} {f lim e : Int}
theorem AR(aQ:cg top A S)(g:qp top S f c x cr){i:Nat}{s:Int}{d b:Nat}{w:Int}(hs:fs s)(C:cH A.l i s (bD d b w)):¬fA c x d b:=by
 rintro⟨rfl,rfl⟩;obtain⟨u,D,f9,e,_,am⟩:=aQ.obj i s _ hs C;obtain⟨E,rfl,_⟩:=jD e;obtain rfl:u=d:=by omega
 exact g.n am
theorem wv(d:jE c)(aQ:cg top A S)(g:qp top S f c x cr){l:List av.b3}(h:rl cr l c x f lim (dI,e)):gk top cr dI h0 (fA c x)/\dI.C=cr.C/\dI.Fr=cr.Fr:=by rcases h with⟨h,_⟩|⟨h,_⟩|⟨h,_,rfl⟩;cases h;exact⟨oS g.g.P g.b rfl rfl λ_ _=>rfl,rfl,rfl⟩;cases h;exact⟨oS g.g.P g.b rfl rfl λ_ _=>rfl,rfl,rfl⟩;cases h;exact⟨LS g.g.P g.b f lim,rfl,rfl⟩
theorem Ek{l:List av.b3}(h:rl cr l c x f lim (dI,e))(he:e≠0):dI.Q=cr.Q/\dI.bF=cr.bF:=by rcases h with⟨h,_⟩|⟨h,_⟩|⟨h,_,_⟩;simp_all;simp_all;cases h;have:=K0 he;exact⟨this.1,this.2.1⟩
theorem F0(aE:cm A)(P:A.np+2<=1000000)(w:jE c)(aQ:cg top A S)(g:qp top S f c x cr){l:List av.b3}(h:rl cr l c x f lim (dI,e))(he:e≠0)(k:tF top dI f c x gm):cg top {A with np:=A.np+2} gm/\cm {A with np:=A.np+2}:=by obtain⟨g1,g2,g3⟩:=wv w aQ g h;obtain⟨H,N⟩:=Ek h he;have E:gm.Q=A.Q/\gm.bF=A.bF:=(by rw[k.q.1,k.q.2,H,N,g.q.2.1,g.q.2.2,aQ.Q.1];have:=g.q.1;rw[aQ.Q.1]at this;rw[tc aE.ee this];exact⟨rfl,aQ.Q.2⟩);have C:∀a,¬fA c x 6 a/\¬fA c x 7 a:=λa=>⟨λh=>by rcases w with w|w<;>have:=h.1<;>omega,λh=>by rcases w with w|w<;>have:=h.1<;>omega⟩;refine⟨aQ.m0 ((g.g.trans g1).trans k.g) rfl rfl rfl rfl E (λi s d b O hs D=>?_) (λa=>?_) ?_ ?_,⟨aE.ok,aE.ee,aE.rt,aE.ac,aE.c3,aE.nu,aE.aJ,aE.hN,aE.mD,aE.oj,aE.ol,aE.m6,aE.pd,by have:=aE.bd;dsimp only;omega⟩⟩;have:=AR aQ g hs D;exact⟨λh=>by rcases h with(h|h)|h;exact h;exact h;exact this h,λh=>by rcases h with(h|h)|h;exact h.elim;exact absurd h this;exact absurd h this⟩;exact⟨λh=>by rcases h with(h|h)|h;exact h;exact(C a).1 h;exact(C a).1 h,λh=>by rcases h with(h|h)|h;exact h;exact(C a).2 h;exact(C a).2 h⟩;rw[k.u,g2,g.u];have:=k.p;rw[g2,g3]at this;have:=g.p;have:=aQ.gj;grind
structure vD(A:bV)(h kind lim:Int)(bl:bV)(nw:Int):Prop where
  au:0<=nw/\nw<=4294967295
  ex:∃(c x k:Nat) (g:Int) (dz:av.fi) (Q:List aD.b1) (bF:Int) (own:Nat->Nat),kind=c/\jE c/\A.l[k]? =some ⟨dz,0,g⟩/\A.l.findIdx? av.isEmpty=some k/\nw=g*256+k/\
    bl={A with l:=A.l.set k ⟨bD c x (A.own (h %256).toNat),1,g⟩,Q:=Q,bF:=bF,own:=own,np:=A.np+2}/\(c≠1->Q=(aD.dd A.Q (A.own (h %256).toNat) (bL c)).1/\bF=A.bF/\own=A.own)
theorem RO{l:List av.b3}(C:av.dQ l)(h:(av.dY l 0).length≠0):∃k o g,l.findIdx? av.isEmpty=some k/\l[k]? =some ⟨o,0,g⟩/\0<=g/\g<=1048575/\k<256:=by cases u:l.findIdx? av.isEmpty with|none=>rw[List.findIdx?_eq_none_iff]at u;exfalso;apply h;rw[av.dY,av.mS,Wf,List.length_eq_zero_iff,Xc];rintro⟨p,i⟩ d w;have hm:=Vg (Yj.1 d);have:=u p hm;dsimp only at w;rw[av.isEmpty]at this;rw[this]at w;cases w|some k=>obtain⟨p,d,hs⟩:=av.Er u;obtain⟨o,s,g⟩:=p;dsimp only at hs;subst hs;have:=C.c5 _ (Vg d);exact⟨k,o,g,rfl,d,this.1,this.2,C.lt d⟩
theorem Q9{l:List av.b3}{k:Nat}{dz o:av.fi}{g:Int}(h:l.findIdx? av.isEmpty=some k)(d:l[k]? =some ⟨dz,0,g⟩):av.l6 l o=(l.set k ⟨o,1,g⟩,g*256+k,0):=by grind[av.l6]
theorem F1(aE:cm A)(ce:A.np+2<=1000000){h:Int}(a4:aD.df A.Q (A.own (h %256).toNat))(C:jE c)(aQ:cg top A S)(g:qp top S (A.own (h %256).toNat) c x cr)(w:rl cr A.l c x (A.own (h %256).toNat) lim (dI,0)):
 ∃bl,cg top bl dI/\cm bl/\vD A h c lim bl (av.l6 A.l (bD c x (A.own (h %256).toNat))).2.1/\bl.l=(av.l6 A.l (bD c x (A.own (h %256).toNat))).1/\(av.l6 A.l (bD c x (A.own (h %256).toNat))).2.2=0/\bl.q=A.q/\bl.now=A.now/\bl.pd=A.pd:=by
 have bK:(av.dY A.l 0).length≠0:=(by rcases w with⟨w,_⟩|⟨_,w,_⟩|⟨_,w,_⟩;all_goals simp_all);obtain⟨k,dz,g0,aq,N,b3,b4,cb⟩:=RO aE.ok bK;rw[Q9 aq N];obtain⟨g1,g2,g3⟩:=wv C aQ g w;have a9:bL c≠0:=by have:=(c7.bd g.g.P g.b).2.2.1;omega
 obtain⟨bb,bg,bh⟩:=g.q;rw[aQ.Q.1]at bb bg;rw[aQ.Q.2]at bh;have E:=jK.hN aE.ee bb;have bz:=g.g.trans g1;have a5:∀s o,cH A.l k s o->¬fs s:=λs o W=>(by have:=(W.inj ⟨g0,N⟩).1;subst this;decide);have ba:∀i s (a0:Int),fs s->¬cH A.l i s (bD c x a0):=λi s a0 hs W=>AR aQ g hs W ⟨rfl,rfl⟩;have a1:∀a,¬fA c x 6 a/\¬fA c x 7 a:=λa=>⟨λh=>by rcases C with C|C<;>have:=h.1<;>omega,λh=>by rcases C with C|C<;>have:=h.1<;>omega⟩;have bV:∀s,A.aJ k s=0:=aE.zu ⟨g0,N⟩ (.inl an);have a3:∀(Q:List aD.b1) (bF:Int),dI.Q=Q->dI.bF=bF->cg top {A with Q:=Q,bF:=bF,np:=A.np+2} dI:=λQ bF br Z=>(by refine aQ.m0 bz rfl rfl rfl rfl ⟨br,Z⟩ (λi s d b cc hs W=>?_) (λa=>?_) (by rw[g2];exact g.u) ?_;have:=AR aQ g hs W;exact⟨λh=>h.elim id id,λh=>h.elim (λh=>h.elim) λh=>absurd h this⟩;exact⟨λh=>h.elim id (a1 a).1,λh=>h.elim id (a1 a).2⟩;rw[g2,g3];have:=g.p;have:=aQ.gj;grind);have a2:c7 dI c x:=g1.p c x g.b λh=>h;by_cases ar:c=1;subst ar;rcases w with⟨w,_⟩|⟨_,_,w⟩|⟨w,_,_⟩;trivial;trivial;obtain⟨aI,aT⟩:=Prod.mk.inj w;rw[bg,bh]at aT;obtain⟨b0,bk⟩:=KZ aT.symm;have Z:0<=A.bF/\¬aD.df A.Q A.bF:=(by refine⟨?_,λ⟨t,D,he⟩=>by have:=(aE.ee.rg t D).2.1;omega⟩;obtain⟨t,D,_⟩:=aE.ee.root;have:=(aE.ee.rg t D);omega);have cf:A.bF≠0:=λe=>Z.2 (by rw[e];exact aE.ee.root);have O:dI.Q=(aD.dd A.Q (A.own (h %256).toNat) (bL 1)).1++[⟨A.bF,A.own (h %256).toNat,lim,0⟩]/\dI.bF=A.bF+1/\dI.m=dx cr.m x [A.bF.toNat]:=(by grind[n3]);have V:=E.ee.KY (A.own (h %256).toNat) lim;rw[bk]at V;dsimp only at V;have aB:=(a3 _ _ O.1 O.2.1).put (bl:={A with l:=A.l.set k ⟨bD (1:Nat) x (A.own (h %256).toNat),1,g0⟩,Q:=(aD.dd A.Q (A.own (h %256).toNat) (bL 1)).1++[⟨A.bF,A.own (h %256).toNat,lim,0⟩],bF:=A.bF+1,own:=λi=>if i=k then A.bF.toNat else A.own i,np:=A.np+2}) a5 C a2 ba rfl rfl (λi aw=>al aw) (λ_=>by dsimp only;rw[az rfl,O.2.2];have:=aE.bd;exact Cb U) rfl ⟨rfl,rfl,rfl⟩ (λh=>absurd h an);refine⟨_,aB,aE.put N a9 a4 V (λy H=>?_) (λy H au=>?_) (λ_=>?_) (λi aw=>al aw) U (by have:=aE.bd;omega),⟨by dsimp only;omega,1,x,k,g0,dz,_,_,_,rfl,C,N,aq,rfl,rfl,λh=>absurd rfl h⟩,rfl,rfl,rfl,rfl,rfl⟩;have bM:=(E.has y).2 H;obtain⟨t,D,rfl⟩:=bM;have hm:t∈(aD.dd A.Q (A.own (h %256).toNat) (bL 1)).1++[(⟨A.bF,A.own (h %256).toNat,lim,0⟩:aD.b1)]:=cv
 have ah:=aD.iB V.bC hm;have bi:=aD.iB E.ee.bC D;exact⟨⟨t,hm,rfl⟩,by rw[ah.2.2.1,<-bi.2.2.1];exact E.fU _ H,by rw[ah.2.2.2,<-bi.2.2.2];exact E.par _⟩;obtain⟨t,D,rfl⟩:=H;have ah:=aD.iB V.bC D;rcases Vd.1 D with D|D;exact absurd ((E.has _).1 ⟨t,D,rfl⟩) au;grind;rw[az rfl,V6 Z.1];have hm:(⟨A.bF,A.own (h %256).toNat,lim,0⟩:aD.b1)∈(aD.dd A.Q (A.own (h %256).toNat) (bL 1)).1++[(⟨A.bF,A.own (h %256).toNat,lim,0⟩:aD.b1)]:=cv
 have ah:=aD.iB V.bC hm;exact⟨⟨_,hm,rfl⟩,Z.2,by omega,ah.2.2.2⟩;have aI:dI=cr:=(by rcases w with⟨w,_⟩|⟨w,_⟩|⟨_,_,w⟩;all_goals simp_all);have O:dI.Q=(aD.dd A.Q (A.own (h %256).toNat) (bL c)).1/\dI.bF=A.bF:=b6
 have aB:=(a3 _ _ O.1 O.2).put (bl:={A with l:=A.l.set k ⟨bD c x (A.own (h %256).toNat),1,g0⟩,Q:=(aD.dd A.Q (A.own (h %256).toNat) (bL c)).1,np:=A.np+2}) a5 C a2 ba rfl rfl (λ_ _=>rfl) (λh=>absurd h ar) rfl ⟨rfl,rfl,rfl⟩ (λh=>⟨λo bn bo=>by rw[aI];exact g.z o bn (by subst h;exact bo),bV⟩);exact⟨_,aB,aE.put N a9 a4 E.ee (λy H=>⟨(E.has y).2 H,E.fU y H,E.par y⟩) (λy H au=>absurd ((E.has y).1 H) au) (λh=>absurd h ar) (λ_ _=>rfl) U (by have:=aE.bd;omega),⟨by dsimp only;omega,c,x,k,g0,dz,_,_,_,rfl,C,N,aq,rfl,rfl,λ_=>⟨rfl,rfl,rfl⟩⟩,rfl,rfl,rfl,rfl,rfl⟩
end
theorem cm.Bj{A:bV}(h:cm A){i a:Nat}{s f:Int}(hs:fs s)(d:cH A.l i s (bD 1 a f)):A.own i<=1000000:=by obtain⟨⟨t,u,he⟩,_⟩:=h.c3 i s a f hs d;have:=(h.ee.rg t u).2.1;have:=h.bd;omega
theorem uO{o:av.fi}{c a:Nat}{f:Int}(h:o=bD c a f){k:Int}(d:o.k=k):o=bD k a f:=by rw[h]at d⊢;rw[<-d];rfl
variable(aK af top:Nat)
theorem LV(A:bV)(i a:Nat)(s f:Int)(hs:fs s)(w:cH A.l i s (bD 1 a f)):bz 100 [ae aK,.agg (ints (bD 1 a f).l).toArray] bg [iv aK af top A] (aa (A.own i:Int)) [iv aK af top A]:=by
 apply aI Tryz.func100 Tryz.ntmps100;intro F _;refine J [286] ?_;rintro⟨am,bx,S⟩ ⟨aQ,aE⟩;apply J [57];dsimp only at aQ aE⊢;refine ab.open 1 rfl (λO N=>?_);obtain⟨cP,bd,u,C⟩:=O;have d:=N;apply J [58];dsimp only at d⊢;have H:=d.fZ;have Z:2^top<=128:=Vi (n:=2) an H.2;have E:=aQ.mB i s a f hs w;have W:=aE.Bj hs w;obtain⟨bJ,a9,f9,D,_,aU⟩:=aQ.obj i s _ hs w;obtain⟨P,rfl,rfl⟩:=jD D;obtain rfl:bJ=1:=U
 have V:=c7.bd d aU;have Q:bL 1=64:=rfl;have hw:cU S.m a<2^63:=U
 refine J [25,291] ?_;intro be;apply J [31];refine cJ [0,1,2,3,5,6,-4,-7,8,9,10,11,12] (ao (eI (a7 _))) ?_;apply J [72,338];apply aq (l5 af cP bd u C);refine J [249,47] ?_;apply aq (tM u (1024*2^top) a S.m U U U);refine J [275,254,285,277,26] ?_;refine q rfl rfl (conv .u64 .i64 rfl rfl rfl (ow hw)) ?_;apply J [30];exact ca.i () [aa (cU S.m a:Int)] ⟨rfl,trivial⟩ (by rw[<-E];rfl) trivial (aA (⟨am,bx,S⟩:eE) ⟨aQ,aE⟩ (bU 6 rfl (aA (dR.mk cP bd u C:dR af) d ai)))
theorem DG(A:bV)(h:Int)(w:0<=h/\h<=4294967295):bz 46 [ae aK,aS h] bg [iv aK af top A] (.tuple #[aa (mC A h).1,aa (mC A h).2]) [iv aK af top A]:=by apply aI Tryz.func46 Tryz.ntmps46;intro F _;apply J [1];refine ab.lT 0 rfl (λQ=>?_);obtain⟨⟨_,_,_⟩,aQ,aE⟩:=Q;apply J [220,33];apply aq (j3 aK af top A h w 1);refine J [5,214] ?_;intro bA;apply J [86,32];apply Ve rfl<;>intro g0;rw[show mC A h=(0,(bW A.l h 1).2)from al g0];apply J [190];exact hU ai;have g0:=Vf g0;obtain⟨i,C,V,E,H,W,Z,N,O,d⟩:=iX w.1 g0;have d:=d.resolve_left an;have u:cH A.l i 1 C.o:=⟨C.c5,by rw[<-H];exact E⟩;obtain⟨bJ,a9,f9,P,_,_⟩:=aQ.obj i 1 _ (.inl rfl) u;have D:=uO P d;rw[show mC A h=((A.own i:Int),0)by rw[mC,az g0,N]];rw[O];dsimp only;rw[D]at u⊢;apply J [4,265,0];apply aq (LV aK af top A i a9 1 f9 (.inl rfl) u);apply J [8,95];exact hU ai
theorem Do(am bx top:Nat)(S:cD)(l:List av.b3)(au:av.dQ l)(c x:Nat)(f lim:Int)(P:dh top S)(aU:c7 S c x)(W:0<=S.bF/\S.bF<=1000000):bK 132 [ae aK,.agg (ints (bD (c:Int) x f).l).toArray,aa lim] bg [aj aK 135 [ae af,ae am,ae bx],a6 264 5 (cM am) 256 256 (av.fN l),dU af top S] (λy:cD×Int=>aa y.2) (λy=>rl S l c x f lim y) (λy=>[aj aK 135 [ae af,ae am,ae bx],a6 264 5 (cM am) 256 256 (av.fN l),dU af top y.1]):=by
 apply aI Tryz.func132 Tryz.ntmps132;intro F _;refine J [61,25,291] ?_;intro cj;apply J [31,87,0];apply eJ (av.RP am l au) ⟨_,bn.rd (ad:=some ⟨am,0,none⟩)⟩;apply J [9,224];apply Ve rfl<;>intro g0;apply J [213];exact bv (S,11) (.inl ⟨rfl,by omega⟩) ai;apply J [44,99,344];apply Ve rfl<;>intro g1;apply J [213];exact bv (S,0) (.inr (.inl ⟨rfl,by omega,λh=>g1 (by subst h;rfl)⟩)) ai;obtain rfl:c=1:=by have bO:((c:Nat):Int)=1:=Vf g1;omega
 refine ab.open 3 rfl (λaT aJ=>?_);obtain⟨cP,bd,d,E⟩:=aT;have ar:=aJ;apply J [58];dsimp only at ar⊢;have aw:=P.fZ;have a4:2^top<=128:=Vi (n:=2) an aw.2;have a2:=c7.bd P aU;have a1:bL 1=64:=rfl;have V:dh top (n3 S x f lim):=by grind[dh,n3]
 obtain⟨ah,a0⟩:=K1 (L:=S.Q) (f:=f) (lim:=lim) W.1;apply J [44];skip;refine cJ [0,1,2,3,4,5,6,7,8,9,-10,11,12,13,14,15] (ao (eT (eT (a7 _)))) ?_;apply J [72,66,110,131,239];apply aq (aD.Rf cP S.Q S.bF f lim W.2);refine J [252,6] ?_;generalize a3:(aD.fT S.Q S.bF f lim).2.2.1=Z at*;obtain⟨H,rfl⟩:∃n:Nat,Z=(n:Int):=⟨Z.toNat,(V6 ah).symm⟩;apply J [254,285,277,7];refine ab.oO _ [] 11 rfl aV aV (eI (eI (a7 _))) ?_;refine J [332,413,397,414] ?_;refine dm (i:=5) rfl rfl rfl aV (c3 1 rfl rfl) ?_;refine J [535] ?_;refine dm (i:=7) rfl rfl rfl aV (fC (v:=.int _ _) rfl) ?_;refine dm (i:=8) rfl rfl rfl aV (conv .i64 .u64 rfl rfl rfl (pg U)) ?_;refine jM (i:=4) (j:=9) rfl rfl rfl rfl aV ?_ ?_;apply aq (l5 af cP bd d E);change aG _ _/\ea _ _ _ _ _ _ _ _ _ _ _ (ag [_,_,_,_,_,_,_,_,_]);refine⟨ai,?_⟩;refine ea.of [(9,true),(10,true)] aV rfl ?_;refine J [13,148] ?_;intro N;refine J [47] ?_;apply eJ (lJ d (1024*2^top) x S.m [H] (cM N) 1 U cE jy U (by intro x D;simp only[Vp,Vm,or_false]at D;subst D;omega)) ⟨_,bn.rd (ad:=some ⟨N,0,none⟩)⟩;refine J [249,113,134] ?_;have u:n3 S x f lim=⟨(aD.fT S.Q S.bF f lim).1,(aD.fT S.Q S.bF f lim).2.1,S.C,S.Fr,dx S.m x [H]⟩:=by grind[n3]
 have w:=V;rw[u]at w;exact bv (n3 S x f lim,(aD.fT S.Q S.bF f lim).2.2.2) (.inr (.inr ⟨rfl,by omega,rfl⟩)) (by rw[u];exact(bU 7 rfl (bU 7 rfl (aA (dR.mk cP bd d E:dR af) w ai))));refine J [148] ?_;intro O;refine⟨ai,?_⟩;refine ea.of [(4,true),(10,true)] aV rfl ?_;refine dO rfl rfl ?_;apply aq (l5 af cP bd d E);refine J [249,47] ?_;apply eJ (lJ d (1024*2^top) x S.m [H] (cM O) 1 U cE jy U (by intro x D;simp only[Vp,Vm,or_false]at D;subst D;omega)) ⟨_,bn.rd (ad:=some ⟨O,0,none⟩)⟩;refine J [249,113,134] ?_;have u:n3 S x f lim=⟨(aD.fT S.Q S.bF f lim).1,(aD.fT S.Q S.bF f lim).2.1,S.C,S.Fr,dx S.m x [H]⟩:=by grind[n3]
 have w:=V;rw[u]at w;exact bv (n3 S x f lim,(aD.fT S.Q S.bF f lim).2.2.2) (.inr (.inr ⟨rfl,by omega,rfl⟩)) (by rw[u];exact(bU 7 rfl (bU 7 rfl (aA (dR.mk cP bd d E:dR af) w ai))))
def xa(k lim:Int):Prop:=(k=8\/1<=k/\k<=5)/\¬(k=1/\lim<0)
def Gi(A bl:bV):Prop:=bl=A\/bl={A with np:=A.np+2}
def qm(top:Nat)(A:bV)(h k lim:Int):Prop:=(bW A.l h 1).2≠0\/¬xa k lim\/k=1\/(∃c:Nat,k=c/\(aD.dd A.Q (A.own (h %256).toNat) (bL c)).2≠0)\/2^top<=A.np\/(av.dY A.l 0).length=0
def JO(top:Nat)(A:bV)(h k lim:Int)(y:bV×Int×Int):Prop:=
  (y.2.2=0/\vD A h k lim y.1 y.2.1/\(bW A.l h 1).2=0)\/(y.2.2≠0/\y.2.1=0/\Gi A y.1/\qm top A h k lim)
variable{lim:Int}
theorem Fu{k:Int}(h:xa k lim):∃c:Nat,k=c/\jE c:=by refine⟨k.toNat,?_,?_⟩;rcases h.1 with h|h<;>omega;rcases h.1 with h|h;exact .inr U;exact .inl U
theorem El{d:cD}{l:List av.b3}{c x:Nat}{f:Int}{y:cD×Int}(h:rl d l c x f lim y)(he:y.2≠0):c=1\/(av.dY l 0).length=0:=by rcases h with⟨_,h⟩|⟨h,_⟩|⟨_,_,h⟩;all_goals simp_all
theorem He{top:Nat}{A:bV}{S d:cD}{c x:Nat}{f:Int}{y:cD×Int}(aE:cm A)(aQ:cg top A S)(g:qp top S f c x d){l:List av.b3}(h:rl d l c x f lim y)(he:y.2≠0):(aD.eo y.1.Q f (bL c)).2=0:=by have u:=(Ek (dI:=y.1) (e:=y.2) h he).1;have:=g.q.1;rw[aQ.Q.1]at this;rw[u,g.q.2.1,aQ.Q.1,tc aE.ee this]
theorem Li(k:Int):bz 130 [aa k] bg [] (.bool (decide (k=8\/1<=k/\k<=5))) []:=by apply aI Tryz.func130 Tryz.ntmps130;intro F _;apply J [10];by_cases u:k=8;subst u;refine J [221,176,482,74,160,160,362,133] ?_;exact kc;apply J [221,176];refine VD 5 rfl (c:=false) (db u) ?_;apply J [17,310,319];refine aW.split 8 rfl (λd=>?_) (λd=>?_);have d:=dp d;apply J [17,288,371,94];exact sg;have d:=eb d;apply J [102,389,94];exact sh
theorem Dz(A:bV)(h:Int)(a1:0<=h/\h<=4294967295)(k lim:Int)(W:A.np+2<=1000000):bK 85 [ae aK,aS h,aa k,aa lim] cW [iv aK af top A] (λy:bV×Int×Int=>.tuple #[aS y.2.1,aa y.2.2]) (λy=>JO top A h k lim y) (λy=>[iv aK af top y.1]):=by
 apply aI Tryz.func85 Tryz.ntmps85;intro F b0;apply J [1];haveI:cl F:=⟨b0⟩;apply J [220,33];apply aq (DG aK af top A h a1);apply J [5,124,222];apply Ve rfl<;>intro g0;have g1:(bW A.l h 1).2≠0:=λe=>g0 (by rw[mC,az e]);rw[show mC A h=(0,(bW A.l h 1).2)from al g1];apply J [26,119];exact cT (A,0,(bW A.l h 1).2) (.inr ⟨g1,rfl,.inl rfl,.inl g1⟩) ai;have g1:(bW A.l h 1).2=0:=Wd λe=>g0 (show(mC A h).2≠0 by rw[mC,al e];exact e);rw[show mC A h=((A.own (h %256).toNat:Int),0)from az g1];dsimp only;apply J [140];apply aq (Li k);apply J [5];by_cases g2:k=8\/1<=k/\k<=5;rw[c1 g2];apply J [64,20,17,155,319];refine aW.split 32 rfl (λg3=>?_) (λg3=>?_);have g3:=dp g3;apply J [209,371,211];apply Ve rfl<;>intro g4;apply J [182];exact cT (A,0,1) (.inr ⟨(show(1:Int)≠0 by decide),rfl,.inl rfl,.inr (.inl λh=>h.2 ⟨g3,g4⟩)⟩) ai;have g5:xa k lim:=⟨g2,λh=>by omega⟩;obtain⟨c,rfl,u⟩:=Fu g5;have b1:∀z:Prop,z=z:=λ_=>rfl;refine J [23,35,2,435] ?_;rintro⟨am,bx,S⟩ ⟨aQ,aE⟩;apply J [9];dsimp only at aQ aE⊢;obtain⟨i,V,bo,ar,au,br,bz,aw,bL,w⟩:=iX a1.1 g1;have w:=w.resolve_left an;have D:cH A.l i 1 V.o:=⟨V.c5,by rw[<-au];exact ar⟩;obtain⟨bJ,a9,f9,aJ,_,_⟩:=aQ.obj i 1 _ (.inl rfl) D;have ah:=uO aJ w;have a0:aD.df A.Q (A.own (h %256).toNat):=(by rw[ah]at D;rw[aw];exact(aE.c3 i 1 a9 f9 (.inl rfl) D).1);have a2:0<=A.bF/\A.bF<=1000000:=(by obtain⟨t,a3,_⟩:=aE.ee.root;have:=aE.ee.rg t a3;have:=aE.bd;omega);refine e rfl ?_;apply ba (Dp aK af am bx top S (A.own (h %256).toNat) c u);intro⟨bk,cr,cu⟩ N;apply J [9];cases bk with|none=>?_|some x=>?_
 obtain⟨he,rfl,O⟩:=N;dsimp only[s7];have C:qm top A h c lim:=(by rw[aQ.Q.1]at O;rcases O with hw|⟨_,hw⟩;exact .inr (.inr (.inr (.inl ⟨c,rfl,by rw[<-hw];exact he⟩)));exact .inr (.inr (.inr (.inr (.inl (WB hw aQ.gj))))));apply J [124,32];refine Ve rfl (λbl=>?_) (λbl=>absurd (he) bl);apply J [190];exact cT (A,0,cu) (.inr ⟨he,rfl,.inl rfl,C⟩) (aA (⟨am,bx,cr⟩:eE) ⟨aQ,aE⟩ ai);obtain⟨rfl,cK⟩:=N;dsimp only[s7];refine J [124,202,26,125,248,0,162] ?_;intro be;apply J [92,29,265,27];apply ba (Do aK af am bx top cr A.l aE.ok c x (A.own (h %256).toNat) lim cK.g.P cK.b (by rw[cK.q.2.2,aQ.Q.2];exact a2));intro⟨dI,cu⟩ d;apply J [12,127];apply Ve rfl<;>intro g6;obtain⟨bM,b3,b4⟩:=wv u aQ cK d;apply J [265,0];apply ba (wi aK af am bx top dI c x (A.own (h %256).toNat) u (bM.p c x cK.b λh=>h) (He (y:=(dI,cu)) aE aQ cK d g6));intro gm aT;apply J [12];obtain⟨E,H⟩:=F0 aE W u aQ cK d g6 aT;have C:qm top A h c lim:=(by rcases El (y:=(dI,cu)) d g6 with hw|hw;exact .inr (.inr (.inl (by subst hw;rfl)));exact .inr (.inr (.inr (.inr (.inr hw)))));apply J [3,190];exact cT ({A with np:=A.np+2},0,cu) (.inr ⟨g6,rfl,.inr rfl,C⟩) (aA (⟨am,bx,gm⟩:eE) ⟨E,H⟩ ai);obtain rfl:cu=0:=Vf g6;obtain⟨Z,E,H,a4,a5,bb,bg,bh,bi⟩:=F1 aE W a0 u aQ cK d;apply J [44];refine cJ [0,1,2,3,4,-5,6,7,8,9] (show aG (ag _) (ag [aj be 60 (ints (bD (c:Int) x (A.own (h %256).toNat)).l),aj aK 135 [ae af,ae am,ae bx]])from ai) ?_;apply J [135,313,13];apply aq (av.oi am A.l (bD (c:Int) x (A.own (h %256).toNat)) aE.ok);refine J [260,6] ?_;rw[bb];apply J [285,277,147];exact cT (Z,(av.l6 A.l (bD (c:Int) x (A.own (h %256).toNat))).2.1,0) (.inl ⟨rfl,a4,g1⟩) (by rw[<-a5,<-bg,<-bh,<-bi];exact(aA (⟨am,bx,dI⟩:eE) ⟨E,H⟩ ai));have g3:=eb g3;have g5:xa k lim:=⟨g2,λh=>g3 h.1⟩;apply J [102,389,71,191];obtain⟨c,rfl,u⟩:=Fu g5;have b1:∀z:Prop,z=z:=λ_=>rfl;refine J [23,35,2,435] ?_;rintro⟨am,bx,S⟩ ⟨aQ,aE⟩;apply J [9];dsimp only at aQ aE⊢;obtain⟨i,V,bo,ar,au,br,bz,aw,bL,w⟩:=iX a1.1 g1;have w:=w.resolve_left an;have D:cH A.l i 1 V.o:=⟨V.c5,by rw[<-au];exact ar⟩;obtain⟨bJ,a9,f9,aJ,_,_⟩:=aQ.obj i 1 _ (.inl rfl) D;have ah:=uO aJ w;have a0:aD.df A.Q (A.own (h %256).toNat):=(by rw[ah]at D;rw[aw];exact(aE.c3 i 1 a9 f9 (.inl rfl) D).1);have a2:0<=A.bF/\A.bF<=1000000:=(by obtain⟨t,a3,_⟩:=aE.ee.root;have:=aE.ee.rg t a3;have:=aE.bd;omega);refine e rfl ?_;apply ba (Dp aK af am bx top S (A.own (h %256).toNat) c u);intro⟨bk,cr,cu⟩ N;apply J [9];cases bk with|none=>?_|some x=>?_
 obtain⟨he,rfl,O⟩:=N;dsimp only[s7];have C:qm top A h c lim:=(by rw[aQ.Q.1]at O;rcases O with hw|⟨_,hw⟩;exact .inr (.inr (.inr (.inl ⟨c,rfl,by rw[<-hw];exact he⟩)));exact .inr (.inr (.inr (.inr (.inl (WB hw aQ.gj))))));apply J [124,32];refine Ve rfl (λbn=>?_) (λbn=>absurd (he) bn);apply J [190];exact cT (A,0,cu) (.inr ⟨he,rfl,.inl rfl,C⟩) (aA (⟨am,bx,cr⟩:eE) ⟨aQ,aE⟩ ai);obtain⟨rfl,cK⟩:=N;dsimp only[s7];refine J [124,202,26,125,248,0,162] ?_;intro bA;apply J [92,29,265,27];apply ba (Do aK af am bx top cr A.l aE.ok c x (A.own (h %256).toNat) lim cK.g.P cK.b (by rw[cK.q.2.2,aQ.Q.2];exact a2));intro⟨dI,cu⟩ d;apply J [12,127];apply Ve rfl<;>intro g6;obtain⟨bM,b3,b4⟩:=wv u aQ cK d;apply J [265,0];apply ba (wi aK af am bx top dI c x (A.own (h %256).toNat) u (bM.p c x cK.b λh=>h) (He (y:=(dI,cu)) aE aQ cK d g6));intro gm aT;apply J [12];obtain⟨E,H⟩:=F0 aE W u aQ cK d g6 aT;have C:qm top A h c lim:=(by rcases El (y:=(dI,cu)) d g6 with hw|hw;exact .inr (.inr (.inl (by subst hw;rfl)));exact .inr (.inr (.inr (.inr (.inr hw)))));apply J [3,190];exact cT ({A with np:=A.np+2},0,cu) (.inr ⟨g6,rfl,.inr rfl,C⟩) (aA (⟨am,bx,gm⟩:eE) ⟨E,H⟩ ai);obtain rfl:cu=0:=Vf g6;obtain⟨Z,E,H,a4,a5,bb,bg,bh,bi⟩:=F1 aE W a0 u aQ cK d;apply J [44];refine cJ [0,1,2,3,4,-5,6,7,8,9] (show aG (ag _) (ag [aj bA 60 (ints (bD (c:Int) x (A.own (h %256).toNat)).l),aj aK 135 [ae af,ae am,ae bx]])from ai) ?_;apply J [135,313,13];apply aq (av.oi am A.l (bD (c:Int) x (A.own (h %256).toNat)) aE.ok);refine J [260,6] ?_;rw[bb];apply J [285,277,147];exact cT (Z,(av.l6 A.l (bD (c:Int) x (A.own (h %256).toNat))).2.1,0) (.inl ⟨rfl,a4,g1⟩) (by rw[<-a5,<-bg,<-bh,<-bi];exact(aA (⟨am,bx,dI⟩:eE) ⟨E,H⟩ ai));rw[db g2];apply J [64,20,74,160,160,362,169,76,119];exact cT (A,0,1) (.inr ⟨(show(1:Int)≠0 by decide),rfl,.inl rfl,.inr (.inl λh=>g2 h.1)⟩) ai
section
variable (K : Int → List Int) (fr : Int → Nat)
def n4:Nat->Int->List Int
  | 0,x=>[x]
  | n+1,x=>(K x).flatMap (n4 n)++[x]
def ho(x:Int):List Int:=n4 K (fr x) x
end
structure lF(K:Int->List Int)(fr:Int->Nat):Prop where
  lt:∀x,∀z∈K x,fr z<fr x
  bC:∀x,(K x).Nodup
  un:∀x y z,z∈K x->z∈K y->x=y
section
variable {K : Int → List Int} {fr : Int → Nat}
theorem zL{α β:Type}{f g:α->List β}:∀{l:List α},(∀a∈l,f a=g a)->l.flatMap f=l.flatMap g
 | [],_=>rfl
 | a::l,h=>by rw[Vw,Vw,h a cE,zL λb am=>h b o2]
theorem Eu{f:Int->List Int}:∀{l:List Int},l.Nodup->(∀a∈l,(f a).Nodup)->(∀a∈l,∀b∈l,a≠b->∀z,z∈f a->z∈f b->False)->(l.flatMap f).Nodup
 | [],_,_,_=>by rw[List.flatMap_nil];exact VZ
 | a::l,au,d,u=>by obtain⟨N,O⟩:=Vu.1 au;rw[Vw,VH];refine⟨d a cE,Eu O (λb am=>d b o2) λb am c E=>u b o2 c (by simp[E]),λz H w hw e=>?_⟩;obtain⟨b,am,D⟩:=V5.1 hw;exact u a cE b o2 (λC=>N (C▸am)) z H (e▸D)
theorem zK{f:Int->List Int}{y:Int}:∀{l L R:List Int},l.flatMap f=L++y::R->∃a∈l,∃L' u,f a=L'++y::u/\∀z∈L',z∈L
 | [],L,R,h=>by rw[List.flatMap_nil]at h;cases L<;>cases h
 | a::l,L,R,h=>by rw[Vw]at h;rcases YC.1 h with⟨N,D,d⟩|⟨C,D,d⟩;obtain⟨b,am,L',u,E,H⟩:=zK d;exact⟨b,by simp[am],L',u,E,λz w=>by rw[D];exact Vd.2 (.inr (H z w))⟩;cases C with|nil=>rw[VE]at d;obtain⟨b,am,L',u,E,H⟩:=zK (L:=[]) (y:=y) (R:=R) (l:=l) (f:=f) (by rw[VE];exact d.symm);exact⟨b,by simp[am],L',u,E,λz w=>absurd (H z w) cE⟩|cons c C=>rw[VU]at d;obtain⟨rfl,O⟩:=Xk d;exact⟨a,by simp,L,C,D,λz w=>w⟩
theorem lF.nil(h:lF K fr){x:Int}(e:fr x=0):K x=[]:=by rw[List.eq_nil_iff_forall_not_mem];intro z d;have:=h.lt x z d;omega
theorem DN(h:lF K fr):∀(n m:Nat) (x:Int),fr x<=n->fr x<=m->n4 K n x=n4 K m x
 | 0,0,_,_,_=>rfl
 | 0,m+1,x,d,_=>by rw[n4,n4,h.nil U];rfl
 | n+1,0,x,_,u=>by rw[n4,n4,h.nil U];rfl
 | n+1,m+1,x,d,u=>by rw[n4,n4];congr 1;refine zL λz w=>?_;have:=h.lt x z w;exact DN h n m z U U
theorem o7(h:lF K fr)(x:Int):ho K fr x=(K x).flatMap (ho K fr)++[x]:=by rw[ho];cases au:fr x with|zero=>rw[h.nil au];rfl|succ n=>rw[n4];congr 1;refine zL λz d=>?_;have:=h.lt x z d;exact DN h _ _ z U (Vj _)
theorem xB(h:lF K fr){x z:Int}:z∈ho K fr x↔z=x\/∃y∈K x,z∈ho K fr y:=by rw[o7 h,Vd,V5,Vc];grind
theorem uX(h:lF K fr)(x:Int):x∈ho K fr x:=(xB h).2 (.inl rfl)
theorem xA(h:lF K fr):∀(n:Nat) (x z:Int),fr x<=n->z∈ho K fr x->fr z<=fr x
 | n,x,z,au,w=>by rcases(xB h).1 w with rfl|⟨y,u,d⟩;exact Vj _;have C:=h.lt x y u;cases n with|zero=>omega|succ n=>have:=xA h n y z U d;omega
theorem r0(h:lF K fr):∀(n:Nat) (x z:Int),fr x<=n->z∈ho K fr x->z=x\/∃y,z∈K y/\y∈ho K fr x
 | n,x,z,au,E=>by rcases(xB h).1 E with rfl|⟨y,d,u⟩;exact .inl rfl;have H:=h.lt x y d;cases n with|zero=>omega|succ n=>rcases r0 h n y z U u with rfl|⟨w,C,D⟩;exact .inr ⟨x,d,uX h x⟩;exact .inr ⟨w,C,(xB h).2 (.inr ⟨y,d,D⟩)⟩
theorem G2(h:lF K fr)(a b:Int):∀(n:Nat) (z:Int),fr a+fr b<=n+fr z->z∈ho K fr a->z∈ho K fr b->a∈ho K fr b\/b∈ho K fr a
 | n,z,au,D,am=>by rcases r0 h _ a z (Vj _) D with rfl|⟨y,d,u⟩;exact .inl am;rcases r0 h _ b z (Vj _) am with rfl|⟨w,E,C⟩;exact .inr D;have:=h.un y w z d E;subst this;have H:=h.lt y z d;have N:=xA h _ a y (Vj _) u;have O:=xA h _ b y (Vj _) C;cases n with|zero=>omega|succ n=>exact G2 h a b n y U u C
theorem Bq(h:lF K fr):∀(n:Nat) (x:Int),fr x<=n->(ho K fr x).Nodup
 | n,x,au=>by
  rw[o7 h,VH];have H:∀y∈K x,x∉ho K fr y:=λy u P=>(by have:=xA h _ y x (Vj _) P;have:=h.lt x y u;omega);refine⟨?_,by simp,λa C b am e=>?_⟩;refine Eu (h.bC x) (λy u=>?_) λa C b am N z w O=>?_;have w:=h.lt x y u;cases n with|zero=>omega|succ n=>exact Bq h n y U
  rcases G2 h a b _ z (Nat.le_add_right _ _) w O with D|D;rcases r0 h _ b a (Vj _) D with d|⟨y,d,E⟩;exact N d;have:=h.un x y a C d;subst this;exact H b am E;rcases r0 h _ a b (Vj _) D with d|⟨y,d,E⟩;exact N d.symm;have:=h.un x y b am d;subst this;exact H a C E;rw[Vc]at am;obtain⟨y,u,w⟩:=V5.1 C;exact H y u (by rw[<-am,<-e];exact w)
theorem Br(h:lF K fr):∀(n:Nat) (x:Int),fr x<=n->∀(L R:List Int) (y z:Int),ho K fr x=L++y::R->z∈K y->z∈L
 | n,x,au,L,R,y,z,e,w=>by
  rw[o7 h]at e;rcases YC.1 e with⟨C,u,d⟩|⟨D,u,d⟩;cases C with|nil=>rw[VE]at d;obtain⟨rfl,_⟩:=Xk d;rw[u,V4];exact V5.2 ⟨z,w,uX h z⟩|cons a C=>have:=congrArg List.length d;simp at this
  cases D with|nil=>rw[VE]at d;obtain⟨rfl,_⟩:=Xk d;rw[V4]at u;rw[<-u];exact V5.2 ⟨z,w,uX h z⟩|cons c D=>rw[VU]at d;obtain⟨rfl,_⟩:=Xk d;obtain⟨a,P,E,H,N,O⟩:=zK u;have Q:=h.lt x a P;(cases n with|zero=>omega|succ n=>exact O z (Br h n a U E H y z N w))
end
theorem o3(k:IntKind)(xs d:List Int):cO k xs++cO k d=cO k (xs++d):=by simp[cO]
def eS(A:bV)(h:Int):List Int:=if(bW A.l h 1).2=0 then(av.dY A.l 1).filter λx=>decide ((av.cV A.l x).1.f=(A.own (h %256).toNat:Int)/\x≠0)else[]
def jz(A:bV)(h:Int):Nat:=if(bW A.l h 1).2=0 then 2000000-A.own (h %256).toNat else 0
theorem vO{l:List av.b3}(w:av.dQ l){h s:Int}:h∈av.dY l s↔∃(i:Nat) (p:av.b3),l[i]? =some p/\p.st=s/\h=p.c5*256+i:=by rw[av.dY,av.mS,Vn];constructor;grind;rintro⟨i,p,d,u,rfl⟩;exact⟨(p,i),Vv.2 ⟨Yj.2 d,c1 u⟩,rfl⟩
theorem oJ{l:List av.b3}(d:av.dQ l){h:Int}:h∈av.dY l 1↔0<=h/\(av.cV l h).2=0:=by rw[vO d];constructor;rintro⟨i,p,u,w,rfl⟩;have C:=d.lt u;have:=d.c5 p (Vg u);grind[av.cV,w9];grind[oU]
theorem sA(l:List av.b3)(w:av.dQ l)(s:Int):(av.dY l s).Nodup:=by rw[av.dY,av.mS,YO,Xe];refine List.Pairwise.filter _ ?_;rw[List.pairwise_iff_getElem];intro i j d u C e;rw[List.getElem_zipIdx,List.getElem_zipIdx]at e;dsimp only at e;rw[List.length_zipIdx,w.n]at d u;omega
theorem mi{l:List av.b3}(d:av.dQ l){h s:Int}(hm:h∈av.dY l s):0<=h/\h<=4294967295:=by obtain⟨i,p,u,_,rfl⟩:=(vO d).1 hm;have w:=d.lt u;have:=d.c5 p (Vg u);omega
variable{A:bV}
theorem od{h z:Int}:z∈eS A h↔(bW A.l h 1).2=0/\z∈av.dY A.l 1/\(av.cV A.l z).1.f=(A.own (h %256).toNat:Int)/\z≠0:=by rw[eS];simp_all
theorem cm.xr(h:cm A){x:Int}(C:0<=x)(e:(bW A.l x 1).2=0)(O:∀i o,cH A.l i 1 o->o.k=1->∃a f,o=bD 1 a f):∃i a f,cH A.l i 1 (bD 1 a f)/\(x %256).toNat=i/\A.own i<=1000000/\(av.cV A.l x).1.f=f/\∃g:Int,x=g*256+i/\A.l[i]? =some ⟨bD 1 a f,1,g⟩:=by obtain⟨i,p,D,d,E,P,H,N,w,u⟩:=iX C e;have u:=u.resolve_left an;obtain⟨o,s,g⟩:=p;dsimp only at*;subst E;obtain⟨a,f,rfl⟩:=O i o ⟨g,d⟩ u;refine⟨i,a,f,⟨g,d⟩,N,h.Bj (.inl rfl) ⟨g,d⟩,?_,g,H,d⟩;rw[o5 (by rw[av.cV,D];exact u)]at w;rw[w];rfl
theorem cm.O4(h:cm A)(D:∀i o,cH A.l i 1 o->o.k=1->∃a f,o=bD 1 a f)(a3:∀x:Int,x<0->(bW A.l x 1).2≠0):lF (eS A) (jz A):=by
 have u:∀x,(bW A.l x 1).2=0->0<=x:=cv
 refine⟨λx z aw=>?_,λx=>?_,λx y z au av=>?_⟩;obtain⟨d,ah,w,a1⟩:=od.1 aw;obtain⟨i,a,f,H,C,aq,_,_⟩:=h.xr (u x d) d D;rw[jz,jz,az d,C];rw[C]at w;split;rename_i e;obtain⟨j,b,E,bM,aI,O,aJ,g,P,Q⟩:=h.xr (u z e) e D;rw[aI];rw[aJ]at w;have ar:j≠0:=λZ=>(by subst Z;obtain⟨⟨a0,bO⟩,_⟩:=h.rt;simp_all);obtain⟨V,W⟩:=h.c3 j 1 b E (.inl rfl) bM;obtain⟨a4,aB⟩:=W ar;obtain⟨t,N,he⟩:=V;rw[<-he,(aD.iB h.ee.bC N).2.2.2]at aB;have:=(h.ee.par t N U).2;omega;omega;rw[eS];split;exact(sA A.l h.ok 1).sublist WD;trivial;obtain⟨d,ah,w,_⟩:=od.1 au;obtain⟨bM,_,O,_⟩:=od.1 av;obtain⟨i,a,f,H,C,_,_,g,aq,a2⟩:=h.xr (u x d) d D;obtain⟨j,b,E,P,Q,_,_,aT,V,W⟩:=h.xr (u y bM) bM D;rw[C]at w;rw[Q]at O;have:=h.nu i j 1 1 a b f E (.inl rfl) (.inl rfl) H P U;simp_all
def fw(A:bV)(h:Int):List Int:=(eS A h).flatMap (ho (eS A) (jz A))
theorem cg.bM{top:Nat}{S:cD}(h:cg top A S):∀i o,cH A.l i 1 o->o.k=1->∃a f,o=bD 1 a f:=λi o d u=>by
 obtain⟨c,a,f,e,_⟩:=h.obj i 1 o (.inl rfl) d
 exact⟨a,f,uO e u⟩
theorem Dy(aK af top:Nat)(A:bV)(h:Int)(O:0<=h/\h<=4294967295):bK 308 [ae aK,aS h] bg [iv aK af top A] (λy:Option Addr×Nat=>.slice y.1 (eS A h).length y.2) (λ_=>True) (λy=>[a6 33 1 y.1 (eS A h).length y.2 (cO .u32 (eS A h)),iv aK af top A]):=by
 apply aI Tryz.func308 Tryz.ntmps308;intro F _;apply J [1,117,117,33];apply aq (DG aK af top A h O);apply J [5,124,32];apply Ve rfl<;>intro g0;have g1:(bW A.l h 1).2≠0:=λe=>g0 (by rw[mC,az e]);rw[show eS A h=[]from al g1];apply J [117,50];exact bv (none,0) trivial ((dE 33 1 _).trans ai);have g1:(bW A.l h 1).2=0:=Wd λe=>g0 (show(mC A h).2≠0 by rw[mC,al e];exact e);rw[show mC A h=((A.own (h %256).toNat:Int),0)from az g1];dsimp only;rw[show eS A h=(av.dY A.l 1).filter (λx=>decide ((av.cV A.l x).1.f=(A.own (h %256).toNat:Int)/\x≠0))from az g1];generalize aD:(λx=>decide ((av.cV A.l x).1.f=(A.own (h %256).toNat:Int)/\x≠0))=pr;apply ab.open 0 rfl;rintro⟨am,bx,S⟩ ⟨aQ,aE⟩;apply J [57];dsimp only at aQ aE⊢;apply J [44,87,0];apply eN (av.AC am A.l aE.ok) ⟨_,bn.rd (ad:=some ⟨am,0,none⟩)⟩;intro y _;apply J [12];have N:∀z∈av.dY A.l 1,0<=z/\z<=4294967295:=λz=>mi aE.ok;have hle:=av.qw A.l 1;rw[aE.ok.n]at hle;generalize Z:av.dY A.l 1=d at*;apply J [255,111];refine ab.loop (ι:=Nat×Option Addr×Nat) (λs=>s.1<=d.length) (λs=>[(0,ae aK),(1,aS h),(5,.slice s.2.1 ((d.take s.1).filter pr).length s.2.2),(6,aa (A.own (h %256).toNat:Int)),(24,.slice y.1 d.length y.2),(25,aa d.length),(26,aa ((s.1:Nat):Int))]) (λs=>ag [a6 33 1 s.2.1 ((d.take s.1).filter pr).length s.2.2 (cO .u32 ((d.take s.1).filter pr)),a6 33 1 y.1 d.length y.2 (cO .u32 d),aj aK 135 [ae af,ae am,ae bx],dU af top S,a6 264 5 (cM am) 256 256 (av.fN A.l),gy.eC bx A.pd A.now A.q,F]) (λs=>d.length-s.1) (0,none,0) (Nat.zero_le _) bH ((dE 33 1 _).trans ai) ?_;rintro⟨k,ad,cap⟩ P aT;dsimp only[cx]at P⊢;apply J [43];apply Ve rfl<;>intro au;have Q:k<d.length:=U
 obtain⟨z,D⟩:∃z,d[k]? =some z:=⟨d[k],Vb Q⟩;have aw:0<(cO .u32 d).length:=by grind[je]
 have ar:k<(cO .u32 d).length:=by grind[je]
 have V:=N z (Vg D);have aJ:(d.take (k+1)).filter pr=(d.take k).filter pr++if pr z=true then[z]else[]:=(by grind[List.take_succ]);have ah:((d.take k).filter pr).length<=256:=cv;refine J [207,378] ?_;refine q rfl rfl (dG rfl rfl (nI D)) ?_;apply J [28,87,27];apply eJ (av.zS am A.l z aE.ok V) ⟨_,bn.rd (ad:=some ⟨am,0,none⟩)⟩;refine J [15,214] ?_;intro be;apply J [92,28,24,75,2,176];refine aW.split 43 rfl (λw=>?_) (λw=>?_);have w:=dp w;apply J [274,183];apply Ve rfl<;>intro W;have C:pr z=true:=cv
 have u:(d.take (k+1)).filter pr=(d.take k).filter pr++[z]:=b6
 refine J [112,90] ?_;intro bA;refine J [0] ?_;refine ap 4 rfl rfl rfl rfl rfl (Nat.le_of_ble_eq_true rfl) (show _=cO .u32 [z]from rfl) rfl U gv ?_;intro E H;refine J [60,84] ?_;exact⟨rfl,(k+1,E,H),cy,cy,⟨rfl,rfl,congrArg (λn=>VO _ n _) (by dsimp only;rw[u,mp];rfl),rfl,rfl,rfl,rfl,trivial⟩,(b9 0 rfl (by dsimp only;rw[u,o3,mp];rfl) (bw (bw (bw (bw (bw (bw (a7 _))))))))⟩;have C:¬pr z=true:=cv
 have u:(d.take (k+1)).filter pr=(d.take k).filter pr:=b6
 refine J [114] ?_;exact⟨rfl,(k+1,ad,cap),cy,cy,⟨rfl,rfl,congrArg (λn=>VO _ n _) (by dsimp only;rw[u]),rfl,rfl,rfl,rfl,trivial⟩,(b9 1 rfl (by dsimp only;rw[u]) (bX (bX (bX (bX (bX (bX (a7 _))))))))⟩;have w:=eb w;have C:¬pr z=true:=cv
 have u:(d.take (k+1)).filter pr=(d.take k).filter pr:=b6
 refine J [102,71,106,114] ?_;exact⟨rfl,(k+1,ad,cap),cy,cy,⟨rfl,rfl,congrArg (λn=>VO _ n _) (by dsimp only;rw[u]),rfl,rfl,rfl,rfl,trivial⟩,(b9 1 rfl (by dsimp only;rw[u]) (bX (bX (bX (bX (bX (bX (a7 _))))))))⟩;obtain rfl:k=d.length:=by omega
 have u:d.take d.length=d:=b6
 rw[u];apply J [198,91];exact bv (ad,cap) trivial (ao (aA (⟨am,bx,S⟩:eE) ⟨aQ,aE⟩ ai))
end Go.Proofs.Q
namespace Go.Proofs.Q.b0
open Go Go.QM
theorem us(xs:List Int)(k:Nat):(ints xs).take (k*1)=ints (xs.take k):=by simp[ints,List.map_take]
theorem rM:∀(xs:List Int),(ints xs).all Value.oneCell'=true
 | []=>rfl
 | x::xs=>by have:=rM xs;rw[ints]at this⊢;rw[VM,List.all_cons,this];rfl
variable{xs:List Int}{i:Nat}
theorem wL(h:i<xs.length){o:Nat}(d:o=i*1)(v:Int):dN o [aa v] (ints xs)=ints (xs.set i v):=by rw[d,Nat.mul_one,List.set_eq_take_append_cons_drop,az h];simp[dN,ints]
theorem ES{n:Nat}(h:xs.length=n):(ints xs).take (n*1)=ints xs:=List.take_of_length_le (by rw[d7];omega)
theorem pR(xs d:List Int):ints xs++ints d=ints (xs++d):=by simp[ints]
def gU(pr:Int->Bool):Int->Bool:=λx=>!pr x
structure hK(xs:List Int)(pr:Int->Bool)(i j:Nat)(pj:List Int):Prop where
  len:pj.length=xs.length
  kJ:i<j
  oZ:j<=xs.length
  tk:pj.take i=(xs.take j).filter (gU pr)
  n5:pj.drop j=xs.drop j
variable{pr:Int->Bool}
theorem hK.start{k:Nat}(h:xs.findIdx? pr=some k):hK xs pr k (k+1) xs:=by rw[List.findIdx?_eq_some_iff_getElem]at h;obtain⟨d,u,au⟩:=h;refine⟨rfl,by omega,d,?_,rfl⟩;grind[Vs,gU,VI,List.getElem_of_mem,Wo]
variable{x:Int}
theorem hK.nB{j:Nat}{d:List Int}(h:hK xs pr i j d)(w:j<xs.length)(D:xs[j]? =some x)(C:pr x=false):hK xs pr (i+1) (j+1) (d.set i x) where
 len:=by rw[List.length_set];exact h.len
 kJ:=by have:=h.kJ;omega
 oZ:=w
 tk:=by
  have E:=h.len;have u:=h.kJ
  rw[Vs,VX U,Vs,D,W6,<-h.tk]
  rw[List.take_set_of_le (Vj i)]
  simp[gU,C]
 n5:=by
  have u:=h.kJ
  rw[List.drop_set_of_lt U]
  rw[<-WP,h.n5,WP]
theorem hK.skip{j:Nat}{d:List Int}(h:hK xs pr i j d)(u:j<xs.length)(C:xs[j]? =some x)(w:pr x=true):hK xs pr i (j+1) d where
 len:=h.len
 kJ:=by have:=h.kJ;omega
 oZ:=u
 tk:=by rw[Vs,C,W6,h.tk];simp[gU,w]
 n5:=by rw[<-WP,h.n5,WP]
theorem hK.get{j:Nat}{d:List Int}(h:hK xs pr i j d)(w:xs[j]? =some x):d[j]? =some x:=by
 have u:(d.drop j)[0]? =(xs.drop j)[0]? :=by rw[h.n5]
 simp_all
theorem hK.done{u:List Int}(h:hK xs pr i xs.length u):u.take i=xs.filter (gU pr)/\(xs.filter (gU pr)).length=i:=by have d:=h.tk;rw[List.take_length]at d;refine⟨d,?_⟩;rw[<-d,Wo];have:=h.len;have:=h.kJ;omega
theorem zo(h:xs.findIdx? pr=none):xs.filter (gU pr)=xs:=by grind[VI,gU]
theorem z8(ad:Option Addr)(cap:Nat)(xs:List Int)(hb:FuncId)(lb:List Value)(pr:Int->Bool)(D:aw->Prop)(O:∀x,bz hb ([aa x]++lb) D [] (.bool (pr x)) [])(W:xs.length<=1000000000):eD VT 340 [.slice ad xs.length cap,.func (.func hb) #[] lb.toArray] (λF=>(∃E,cQ F E ad (ints xs))/\D (ag [F])) [] (λ_:Unit=>aa (match xs.findIdx? pr with|some i=>(i:Int)|none=>-1)) (λ_=>True) (λ_=>[]):=by
 apply aI Tryz.func340 Tryz.ntmps340;intro F ⟨⟨E,H⟩,N⟩;apply J [10];haveI:bn F ad E (ints xs):=⟨H⟩;refine J [39,34,177,572] ?_;rintro k ⟨hinv,eP⟩ Z;dsimp only[cx]at hinv eP⊢;apply J [43];apply Ve rfl<;>intro C;have C:k<xs.length:=U
 obtain⟨t,w⟩:∃t,xs[k]? =some t:=⟨xs[k],Vb C⟩;have V:0<(ints xs).length:=by grind[d7]
 refine J [89,142,24,318,62,2,387] ?_;refine q rfl rfl (dG rfl rfl (hj w)) ?_;refine e rfl ?_;refine k7 (O t) rfl rfl (ez _) N ?_;intro _ _;apply J [151,3];cases Q:pr t with|true=>?_|false=>?_
 apply J [14,142,166];have d:xs.findIdx? pr=some k:=by grind[wx]
 exact ca.i () [_] ⟨rfl,trivial⟩ (by rw[d];rfl) trivial ai;refine J [49,114] ?_;exact⟨rfl,(k+1),⟨by omega,λj u P hu=>by rcases Nat.lt_succ_iff_lt_or_eq.1 P with h|h;exact eP j u h hu;subst h;rw[w]at hu;cases hu;exact Q⟩,U,bH,(ao (a7 _))⟩;obtain rfl:k=xs.length:=by omega
 have d:xs.findIdx? pr=none:=by grind[zD]
 apply J [21,212];exact ca.i () [_] ⟨rfl,trivial⟩ (by rw[d];rfl) trivial (ao (a7 _))
theorem wk(ad:Option Addr)(cap:Nat)(xs:List Int)(hb:FuncId)(lb:List Value)(pr:Int->Bool)(u:aw->Prop)(Q:∀x,bz hb ([aa x]++lb) u [] (.bool (pr x)) [])(aq:xs.length<=1000000000)(ar:∀F,u F->u (ag [F]))(W:∀B F,u F->u (ag [B,F])):eD VT 286 [.slice ad xs.length cap,.func (.func hb) #[] lb.toArray] u [a6 3 1 ad xs.length cap (ints xs)] (λ_:Unit=>.slice ad (xs.filter (gU pr)).length cap) (λ_=>True) (λ_=>[a6 3 1 ad (xs.filter (gU pr)).length cap (ints (xs.filter (gU pr)))]):=by
 apply aI Tryz.func286 Tryz.ntmps286;intro F P;apply J [1];refine ab.ns 0 rfl (λ_ av _=>?_);have a2:=d7 xs;apply J [117,34,318,0];apply eJ (z8 ad cap xs hb lb pr u Q aq) ⟨⟨_,bn.rd⟩,ar _ (W _ _ P)⟩;apply J [5];cases V:xs.findIdx? pr with|none=>?_|some k=>?_
 dsimp only;rw[zo V];apply J [31,171];refine Ve rfl (λC=>?_) (λC=>absurd (rfl) C);apply J [34,203,50];exact hT;dsimp only;have aN:=hK.start V;have aT:k<xs.length:=by have:=aN.oZ;omega
 apply J [31,171];refine Ve rfl (λD=>absurd D U) (λD=>?_);refine J [44,26,149,28,51,573] ?_;rintro⟨i,j,w⟩ d a5;dsimp only[cx]at d⊢;have aJ:=d.oZ;have aD:=d.kJ;have a4:=d.len;have a3:=d7 w;apply J [118,62,253,137];apply Ve rfl<;>intro a0;have H:j<xs.length:=U
 obtain⟨x,N⟩:∃x,xs[j]? =some x:=⟨xs[j],Vb H⟩;have au:=d.get N;have a1:0<(ints w).length:=U
 refine J [89,278,387] ?_;refine q rfl rfl (dG rfl rfl (hj au)) ?_;apply J [28,24,318,27];refine k7 (Q x) rfl rfl (ez _) (W _ _ P) ?_;intro _ _;apply J [5,236];cases Z:pr x with|true=>?_|false=>?_
 refine J [49,23,179] ?_;exact⟨rfl,⟨i,j+1,w⟩,(d.skip H N Z),cy,bH,(ao (ao (a7 _)))⟩;refine J [14,34,125,387,19,515,3,346,48,150,179] ?_;exact⟨rfl,⟨i+1,j+1,w.set i x⟩,(d.nB H N Z),cy,bH,(ao (ao (a7 _)))⟩;obtain rfl:j=xs.length:=by omega
 obtain⟨d1,d2⟩:=d.done;apply J [198,2];refine q rfl rfl (ot 3 1 (i) rfl rfl rfl U U) ?_;refine et ?_;refine zd (sz:=1) (z:=aa 0) i rfl rfl rfl rfl an rfl rfl U ?_;intro O C D;have ah:O.take (i*1)=ints (xs.filter (gU pr)):=by grind[us]
 apply J [3,278];refine q rfl rfl (nM 3 1 (i) rfl rfl rfl U U) ?_;apply J [91];exact ca.i () [_] ⟨rfl,trivial⟩ (by rw[d2];rfl) trivial (eO 0 rfl (by have:=p6 (E:=3) (sz:=1) (ad:=ad) (n:=xs.length) (cap:=cap) (cs:=O) (j:=i) U;rw[ah]at this;rw[d2];exact this) (ao (a7 _)))
structure Fn where
  id:Int
  par:Int
  dH:Int
  ck:Int
def iA(t:Fn):Int×Int:=(t.dH,t.ck)
def c6(L:List Fn)(p:Int):List Int:=(L.filter λt=>decide (t.par=p/\p≠0)).map (·.id)
def fW(L:List Fn)(id:Int):Prop:=∃t∈L,t.id=id
instance (L:List Fn)(id:Int):Decidable (fW L id):=inferInstanceAs (Decidable (∃t∈L,t.id=id))
def iJ(A:Int->Nat)(L:List Fn):Int->Option Value:=λid=>if fW L id then some (.pointer (some ⟨A id,0,none⟩))else none
def kH(L:List Fn)(o:Int×Int):Prop:=∃t∈L,iA t=o
instance (L:List Fn)(o:Int×Int):Decidable (kH L o):=inferInstanceAs (Decidable (∃t∈L,iA t=o))
def hE(L:List Fn)(o:Int×Int):Int:=match L.find? λt=>decide (iA t=o)with
  | some t=>t.id
  | none=>0
def kj(L:List Fn):Int×Int->Option Value:=λo=>if kH L o then some (.int .i64 (hE L o))else none
def jZ(L:List Fn):Prop:=(L.map (·.id)).Nodup
def oF(L:List Fn):Prop:=(L.map iA).Nodup
structure cL(L:List Fn)(last:Int):Prop where
  bC:jZ L
  no:oF L
  rg:∀t∈L,1<=t.id/\t.id<=last/\0<=t.par/\t.par<t.id
  len:(L.length:Int)<=last
structure CA where
  ad:Int->Option Addr
  cap:Int->Nat
  aH:Nat
  bD:Nat
abbrev ix(A:Int->Nat)(ad:Int->Option Addr)(cap:Int->Nat)(L:List Fn)(t:Fn):aw:=aj (A t.id) 219 [.int .i64 t.dH,.int .i64 t.ck,.int .i64 t.par,.slice (ad t.id) (c6 L t.id).length (cap t.id)]
abbrev iw(ad:Int->Option Addr)(cap:Int->Nat)(L:List Fn)(t:Fn):aw:=a6 3 1 (ad t.id) (c6 L t.id).length (cap t.id) (ints (c6 L t.id))
abbrev zX(aH bD:Nat)(last:Int):List Value:=[.map (some aH),.map (some bD),.int .i64 last]
def uu(b:Nat)(A:Int->Nat)(L:List Fn)(last:Int):aw:=eQ λy:CA=>pure' (cL L last) (ag [aj b 223 (zX y.aH y.bD last),bP QM.encI y.aH (iJ A L) L.length,bP mX y.bD (kj L) L.length,b8 (ix A y.ad y.cap L) L,b8 (iw y.ad y.cap L) L])
def hF(b:Nat)(L:List Fn)(last:Int):aw:=eQ λA:Int->Nat=>pure' True (ag [uu b A L last])
variable{S:List Fn}
theorem jZ.perm{T:List Fn}(h:jZ S)(p:T.Perm S):jZ T:=(p.map _).nodup_iff.2 h
variable{t:Fn}
theorem jZ.inj(h:jZ S){u:Fn}(C:t∈S)(hu:u∈S)(e:t.id=u.id):t=u:=by obtain⟨L,w⟩:=fE C;rcases Vp.1 (w.mem_iff.1 hu)with d|d;simp_all;exact absurd (Vn.2 ⟨u,d,e.symm⟩) (Vu.1 (h.perm w.symm)).1
theorem oF.inj(h:oF S){u:Fn}(C:t∈S)(hu:u∈S)(e:iA t=iA u):t=u:=by obtain⟨L,w⟩:=fE C;rcases Vp.1 (w.mem_iff.1 hu)with d|d;simp_all;exact absurd (Vn.2 ⟨u,d,e.symm⟩) (Vu.1 ((w.symm.map _).nodup_iff.2 h)).1
def hn(S:List Fn)(id:Int):List Fn:=S.filter λt=>decide (t.id≠id)
theorem xm{L:List Fn}(h:jZ S)(w:S.Perm (t::L)):(hn S t.id).Perm L:=by have d:=w.filter λu=>decide (u.id≠t.id);rw[Ws cE]at d;have C:L.filter (λu=>decide (u.id≠t.id))=L:=VI.2 λu hu=>(by have:=(Vu.1 (h.perm w.symm)).1;simp_all);rw[C]at d;exact d
theorem l2:t∈hn S x↔t∈S/\t.id≠x:=by simp[hn]
theorem uP{y:Int}:fW (hn S x) y↔fW S y/\y≠x:=by constructor;rintro⟨t,d,rfl⟩;exact⟨⟨t,(l2.1 d).1,rfl⟩,(l2.1 d).2⟩;rintro⟨⟨t,d,rfl⟩,h⟩;exact⟨t,l2.2 ⟨d,h⟩,rfl⟩
theorem uQ(au:jZ S)(u:t∈S):(hn S t.id).length+1=S.length:=by obtain⟨L,d⟩:=fE u;rw[(xm au d).length_eq,d.length_eq];rfl
theorem pK{A:Int->Nat}{id:Int}(h:fW S id):iJ A S id=some (.pointer (some ⟨A id,0,none⟩)):=az h
theorem qE{A:Int->Nat}{id:Int}(h:¬fW S id):iJ A S id=none:=al h
theorem D9{A:Int->Nat}{T:List Fn}(h:∀x,fW T x↔fW S x):iJ A T=iJ A S:=by grind[iJ]
theorem D8{A:Int->Nat}(b:Nat):iJ (aR A t.id b) (S++[t])=fo (iJ A S) t.id (ae b):=by
 funext x;simp only[iJ,fo];have d:fW (S++[t]) x↔fW S x\/t.id=x:=by simp[fW,or_and_right,exists_or]
 by_cases e:x=t.id;rw[az (d.2 (.inr e.symm)),az e,e,cp];rw[al e,bS e];grind
theorem Ea{A:Int->Nat}(x:Int):iJ A (hn S x)=gd (iJ A S) x:=by funext y;simp only[iJ,gd];by_cases e:y=x;rw[az e,al (λh=>(uP.1 h).2 e)];rw[al e];by_cases h:fW S y;rw[az h,az (uP.2 ⟨h,e⟩)];rw[al h,al (λd=>h (uP.1 d).1)]
theorem zF(h:oF S)(w:t∈S):hE S (iA t)=t.id:=by rw[hE];cases d:S.find? λu=>decide (iA u=iA t)with|none=>rw[WL]at d;exact absurd (c1 rfl) (d t w)|some u=>have C:=List.find?_some d;have D:=YB d;rw[h.inj D w (by simpa using C)]
theorem zE{o:Int×Int}(h:¬kH S o):hE S o=0:=by have:S.find? (λu=>decide (iA u=o))=none:=(by rw[WL];intro u hu;simp only[decide_eq_true_eq];exact λe=>h ⟨u,hu,e⟩);grind[hE]
theorem zB(S:List Fn)(o:Int×Int):(kj S o).getD (aa 0)=aa (hE S o):=by grind[kj,zE]
theorem wq{o:Int×Int}(h:¬kH S o):kj S o=none:=al h
theorem Ee(au:oF S)(d:t∈S):kj S (iA t)=some (aa t.id):=by rw[kj,az ⟨t,d,rfl⟩,zF au d]
theorem Es{α:Type}{p r:α->Bool}:∀{l:List α},(∀u∈l,p u=true->r u=true)->(l.filter r).find? p=l.find? p
 | [],_=>rfl
 | a::l,h=>by
  have C:=Es (p:=p) (r:=r) (l:=l) λu hu=>h u (by simp[hu])
  by_cases w:r a=true
  ·rw[List.filter_cons_of_pos w,XQ,XQ,C]
  have d:p a=false:=by
   cases d:p a with
   | false=>rfl
   | true=>exact absurd (h a cE d) w
  rw[Ws w,XQ,d,C]
theorem Ed(au:jZ S)(D:oF S)(C:t∈S):kj (hn S t.id)=gd (kj S) (iA t):=by funext o;simp only[kj,gd];by_cases e:o=iA t;rw[az e,al];rintro⟨u,hu,d⟩;have w:=l2.1 hu;exact w.2 (by rw[D.inj w.1 C (d.trans e)]);rw[al e];have H:kH (hn S t.id) o↔kH S o:=(by constructor;rintro⟨u,hu,d⟩;exact⟨u,(l2.1 hu).1,d⟩;rintro⟨u,hu,d⟩;refine⟨u,l2.2 ⟨hu,λw=>e ?_⟩,d⟩;rw[<-d,au.inj hu C w]);have E:hE (hn S t.id) o=hE S o:=(by rw[hE,hE,hn,Es];intro u hu d;simp only[decide_eq_true_eq]at d⊢;intro w;exact e (by rw[<-d,au.inj hu C w]));simp_all
theorem Eb(h:¬kH S (iA t)):kj (S++[t])=fo (kj S) (iA t) (aa t.id):=by
 funext o;simp only[kj,fo];have w:kH (S++[t]) o↔kH S o\/iA t=o:=by simp[kH,or_and_right,exists_or]
 by_cases e:o=iA t;subst e;rw[az (w.2 (.inr rfl)),az rfl,hE,List.find?_append];have:S.find? (λu=>decide (iA u=iA t))=none:=(by rw[WL];intro u hu;simp only[decide_eq_true_eq];exact λe=>h ⟨u,hu,e⟩);grind;rw[al e];by_cases d:kH S o;rw[az (w.2 (.inl d)),az d,hE,hE,List.find?_append];grind;grind
variable{p:Int}
theorem pT{S:List Fn}:x∈c6 S p↔p≠0/\∃t∈S,t.par=p/\t.id=x:=by simp only[c6,Vn,Vv,decide_eq_true_eq];grind
theorem uy(S T:List Fn)(p:Int):c6 (S++T) p=c6 S p++c6 T p:=by simp[c6]
theorem Fq(h:t.par=p)(d:p≠0):c6 [t] p=[t.id]:=by simp[c6,h,d]
theorem Ap(h:t.par≠p):c6 [t] p=[]:=by simp[c6,h]
theorem uz(S:List Fn)(p:Int):(c6 S p).length<=S.length:=by rw[c6,Wf];exact List.length_filter_le _ _
theorem Fp(S:List Fn)(p x:Int):c6 (hn S x) p=(c6 S p).filter λy=>decide (y≠x):=by rw[c6,c6,List.filter_map,hn,W0,W0];grind
theorem sS(au:jZ S)(C:t∈S)(w:t.par≠p):c6 (hn S t.id) p=c6 S p:=by rw[Fp];refine VI.2 λy D=>?_;obtain⟨_,u,hu,d,rfl⟩:=pT.1 D;simp only[decide_eq_true_eq];intro e;rw[au.inj hu C e]at d;exact w d
theorem O7:(c6 S p).filter (gU λy=>decide (y=x))=c6 (hn S x) p:=by grind[Fp,List.filter_congr,gU]
theorem Fo(h:jZ S)(p:Int):(c6 S p).Nodup:=h.sublist (List.filter_sublist.map _)
theorem cL.nil:cL [] 0:=⟨VZ,VZ,(λt h=>by cases h),Int.le_refl _⟩
variable{last:Int}
theorem cL.sub{T:List Fn}(h:cL S last)(hs:T.Sublist S):cL T last:=
 ⟨h.bC.sublist (hs.map _),h.no.sublist (hs.map _),λt d=>h.rg t (hs.subset d),by have:=h.len;have:=hs.length_le;omega⟩
theorem cL.off(h:cL S last)(x:Int):cL (hn S x) last:=h.sub WD
theorem cL.add(h:cL S last)(O:t.id=last+1)(N:0<=t.par/\t.par<=last)(E:¬kH S (iA t)):cL (S++[t]) (last+1) where
 bC:=by
  rw[jZ,We,VH]
  refine⟨h.bC,by simp,λx C y d=>?_⟩
  obtain⟨a,w,rfl⟩:=Vn.1 C
  simp only[VM,W7,Vc]at d
  have:=h.rg a w
  omega
 no:=by
  rw[oF,We,VH]
  refine⟨h.no,by simp,λx C y d=>?_⟩
  obtain⟨a,w,rfl⟩:=Vn.1 C
  simp only[VM,W7,Vc]at d
  rw[d];exact λD=>E ⟨a,w,D⟩
 rg:=λu hu=>by
  have H:=h.len
  rcases Vd.1 hu with hu|hu
  ·have:=h.rg u hu;omega
  rw[Vc.1 hu];omega
 len:=by have:=h.len;rw[mp,Vk];omega
def gZ(S:List Fn)(last par:Int)(o:Int×Int):List Fn×Int×Int×Int:=if ¬fW S par/\par≠0 then(S,last,0,6)else if hE S o≠0 then(S,last,0,7)else(S++[⟨last+1,par,o.1,o.2⟩],last+1,last+1,0)
def hk(S:List Fn)(u:Fn)(p:Int):List Fn:=hn S u.id++[⟨u.id,p,u.dH,u.ck⟩]
theorem cL.move(h:cL S last){u:Fn}(hu:u∈S)(H:0<=p/\p<u.id):cL (hk S u p) last where
 bC:=by
  rw[jZ,hk,We,VH]
  refine⟨(h.off _).bC,by simp,λx C y d=>?_⟩
  obtain⟨a,w,rfl⟩:=Vn.1 C
  simp only[VM,W7,Vc]at d
  rw[d];exact(l2.1 w).2
 no:=by
  rw[oF,hk,We,VH]
  refine⟨(h.off _).no,by simp,λx C y d=>?_⟩
  obtain⟨a,w,rfl⟩:=Vn.1 C
  simp only[VM,W7,Vc]at d
  rw[d];intro E
  have D:=l2.1 w
  exact D.2 (by rw[h.no.inj D.1 hu E])
 rg:=λv hv=>by
  rcases Vd.1 hv with hv|hv
  ·exact h.rg v (l2.1 hv).1
  rw[Vc.1 hv];have:=h.rg u hu;dsimp only;omega
 len:=by have:=h.len;have:=uQ h.bC hu;rw[hk,mp,Vk];omega
theorem EC(h:cL S last)(o:Int×Int):kH S o↔hE S o≠0:=by constructor;rintro⟨t,d,rfl⟩;rw[zF h.no d];have:=h.rg t d;omega;grind[zE]
theorem zW(h:cL S last)(u:fW S x):1<=x/\x<=last:=by obtain⟨t,d,rfl⟩:=u;have:=h.rg t d;omega
end Go.Proofs.Q.b0
namespace Go.Proofs.Q.b0
open Go Go.QM
def rF(L:List Fn)(id:Int):Option Fn:=L.find? λt=>decide (t.id=id)
theorem wy{S:List Fn}(h:jZ S){t:Fn}(w:t∈S):rF S t.id=some t:=by rw[rF];cases d:S.find? λu=>decide (u.id=t.id)with|none=>rw[WL]at d;exact absurd (c1 rfl) (d t w)|some u=>have C:=List.find?_some d;have D:=YB d;rw[h.inj D w (by simpa using C)]
theorem Ep{S:List Fn}{id:Int}(h:¬fW S id):rF S id=none:=by rw[rF,WL];intro u hu;simp only[decide_eq_true_eq];exact λe=>h ⟨u,hu,e⟩
def p2(L:List Fn)(id:Int):Int×Int×Bool:=match rF L id with
  | some t=>(t.dH,t.ck,true)
  | none=>(0,0,false)
theorem Ft{S:List Fn}{last:Int}(h:cL S last){x:Int}(u:last<x):c6 S x=[]:=by rw[c6,Xc.2];trivial;intro t d;have:=h.rg t d;grind
theorem EE{S:List Fn}{last:Int}(h:cL S last){x:Int}(u:last<x):¬fW S x:=λd=>by have:=zW h d;omega
variable(b:Nat)
theorem Nf(aH bD:Nat)(F:aw):aG (ag [aj b 223 [.map (some aH),.map (some bD),aa 0],bP mX bD (λ_=>none) 0,bP QM.encI aH (λ_=>none) 0,F]) (ag [hF b [] 0,F]):=by
 have d:iJ (λ_=>0) []=λ_=>none:=by trivial
 have u:kj []=λ_=>none:=by trivial
 refine(ni (f:=ix (λ_=>0) (λ_=>none) (λ_=>0) []) _).trans ?_;refine(ni (f:=iw (λ_=>none) (λ_=>0) []) _).trans ?_;refine aA (λ_=>0:Int->Nat) trivial ?_;refine aA (⟨λ_=>none,λ_=>0,aH,bD⟩:CA) cL.nil ?_;exact bU 2 rfl (b9 3 rfl (by rw[d];rfl) (b9 2 rfl (by rw[u];rfl) (bX (ao (ao (a7 _))))))
theorem Ng:bK 134 [] bg [] (λb:Nat=>ae b) (λ_=>True) (λb=>[hF b [] 0]):=by apply aI Tryz.func134 Tryz.ntmps134;intro F _;refine J [10,170,25,328] ?_;intro be;refine e rfl ?_;refine xf mX ?_;intro bA;refine q rfl rfl (ei (cs:=[.map _,.map _,.int _ _]) rfl) ?_;refine e rfl ?_;refine fe (v:=.agg #[_,_,_]) (l:=[.map _,.map _,.int _ _]) rfl rfl ?_;intro cj;apply J [109];exact bv cj trivial (Nf cj be bA F)
theorem pL(aH bD n:Nat)(last:Int)(f:Int->Option Value)(id:Int):bz 118 [ae b,aa id] bg [aj b 223 (zX aH bD last),bP QM.encI aH f n] ((f id).getD (.pointer none)) [aj b 223 (zX aH bD last),bP QM.encI aH f n]:=by apply aI Tryz.func118 Tryz.ntmps118;intro F _;apply J [11,24,146,29,129,339,129,78,300];refine q rfl rfl (ko 3 216 rfl rfl (dP.int rfl) rfl rfl) ?_;apply J [146,232];exact fc (ao (ao (ao (a7 _))))
theorem ww(L:List Fn)(last:Int)(u d:Int):bz 71 [ae b,aa u,aa d] bg [hF b L last] (aa (hE L (u,d))) [hF b L last]:=by apply aI Tryz.func71 Tryz.ntmps71;intro F _;apply J [1];refine ab.open 0 rfl (λA _=>?_);apply J [1];refine ab.open 0 rfl (λC w=>?_);obtain⟨ad,cap,aH,bD⟩:=C;have ax:=w;apply J [152];dsimp only at ax⊢;apply J [39,42,87,125,536];refine q rfl rfl (ko (a:=(_,_)) 78 3 rfl rfl (dP.pair aV) rfl rfl) ?_;rw[zB];apply J [30];exact I6
theorem Nh(L:List Fn)(last:Int)(id:Int):bz 69 [ae b,aa id] bg [hF b L last] (.tuple #[aa (p2 L id).1,aa (p2 L id).2.1,.bool (p2 L id).2.2]) [hF b L last]:=by
 apply aI Tryz.func69 Tryz.ntmps69;intro F _;apply J [1];refine ab.open 0 rfl (λA _=>?_);apply J [1];refine ab.open 0 rfl (λD C=>?_);obtain⟨ad,cap,aH,bD⟩:=D;have ax:=C;apply J [152];dsimp only at ax⊢;by_cases u:fW L id;have d:=pK (A:=A) u;obtain⟨t,w,rfl⟩:=u;obtain⟨M,bN⟩:=fE w;have hv:p2 L t.id=(t.dH,t.ck,true):=by rw[p2,wy ax.bC w]
 rw[hv];apply J [388,24,48,185,33];refine aO (pL b aH bD L.length last (iJ A L) t.id) rfl (d8 2 rfl (d8 2 rfl (ez _))) trivial ?_;intro _ _;apply J [15];rw[d];apply J [81,103,122];refine cJ [0,1,2,3,4,5,6,7,8,9,10,11,12] (VJ _) ?_;apply J [172,349,174,363,363,273,147];exact ca.i () [_,_,_] ⟨rfl,rfl,rfl,trivial⟩ rfl trivial (aA A trivial (aA ⟨ad,cap,aH,bD⟩ ax (ao (ao (bw (cX 0 0 t rfl rfl rfl (λ_ _=>rfl) bN.symm (ao (ao (a7 _)))))))));have d:=qE (A:=A) u;have hv:p2 L id=(0,0,false):=by grind[p2,Ep]
 rw[hv];apply J [24,48,185,33];refine aO (pL b aH bD L.length last (iJ A L) id) rfl (d8 0 rfl (d8 0 rfl (ez _))) trivial ?_;intro _ _;apply J [12];rw[d];apply J [81,103,3,76,48,185,50];exact ca.i () [_,_,_] ⟨rfl,rfl,rfl,trivial⟩ rfl trivial (aA A trivial (aA ⟨ad,cap,aH,bD⟩ ax (ao (ao (ao (ao (ao (ao (a7 _)))))))))
theorem wu(L:List Fn)(last:Int)(par w d:Int)(bn:last<=1000000):bz 139 [ae b,aa par,aa w,aa d] bg [hF b L last] (.tuple #[aa (gZ L last par (w,d)).2.2.1,aa (gZ L last par (w,d)).2.2.2]) [hF b (gZ L last par (w,d)).1 (gZ L last par (w,d)).2.1]:=by
 apply aI Tryz.func139 Tryz.ntmps139;intro F _;apply J [1];refine ab.open 0 rfl (λA _=>?_);apply J [1];refine ab.open 0 rfl (λbb ba=>?_);obtain⟨ad,cap,aH,bD⟩:=bb;have ax:=ba;apply J [152];dsimp only at ax⊢;have br:=ax.len;by_cases E:fW L par;·have ar:=pK (A:=A) E;refine J [220,33,598] ?_;intro _ _;apply J [12];rw[ar];refine J [125,536,0,537] ?_;intro bd;apply J [164,19,485,29,51,103,191,228];refine VD 24 rfl (c:=false) rfl ?_;apply J [102,71,191,7];refine cJ [0,1,2,3,4,5,6,7] (VJ _) ?_;refine J [135,379,599] ?_;rw[zB];apply J [538,273];apply Ve rfl<;>intro Q;(have hv:gZ L last par (w,d)=(L,last,0,7):=by rw[gZ,al (λh=>h.1 E),az Q]);rw[hv];dsimp only;apply J [182];exact Cn;(have hv:gZ L last par (w,d)=(L++[⟨last+1,par,w,d⟩],last+1,last+1,0):=by rw[gZ,al (λh=>h.1 E),al Q]);rw[hv];dsimp only;(have eP:¬kH L (w,d):=by grind[EC]);have av:=wq eP;have aD:=EE ax (x:=last+1) U;have au:=qE (A:=A) aD;have a5:=Ft ax (x:=last+1) U;(have O:(L++[(⟨last+1,par,w,d⟩:Fn)]).length=L.length+1:=by simp_all);have bo:=zW ax E;have Z:=ax.add (t:=⟨last+1,par,w,d⟩) rfl cy eP;obtain⟨t,a9,rfl⟩:=E;obtain⟨M,bN⟩:=fE a9;have a4:=ax.bC.perm bN.symm;have bl:=uz L t.id;have bk:=d7 (c6 L t.id);(have a2:c6 (L++[⟨last+1,t.id,w,d⟩]) t.id=c6 L t.id++[last+1]:=by grind[uy,Fq]);(have aw:∀x,t.id≠x->c6 (L++[⟨last+1,t.id,w,d⟩]) x=c6 L x:=by grind[uy,Ap]);have a1:∀u∈M,t.id≠u.id/\u.id≠last+1:=λu hu=>⟨λa0=>(Vu.1 a4).1 (Vn.2 ⟨u,hu,a0.symm⟩),λa0=>by have:=ax.rg u (bN.mem_iff.2 (by simp[hu]));omega⟩;refine WE (fV 4 rfl bN) ?_;refine WE (fV 6 rfl bN) ?_;refine J [23,101,149,55,290,208,29] ?_;refine cJ [0,1,2,3,4,5,6,7,8,9,10,-11,-12] (ao (eT (a7 _))) ?_;refine J [72,186,379,16,539,13,486] ?_;intro aJ;refine J [6,259] ?_;refine lY 3 216 rfl (dP.int rfl) rfl rfl rfl ?_;refine J [113,7] ?_;refine cJ [0,1,2,3,4,5,6,7,8,-9] (bw (bU 6 rfl (a7 _))) ?_;refine J [135,379,186,259,600,113,7,340,3,14] ?_;refine ab.draw _ [13] [0,1,2,3,4,5,6,7,8,-9,-10,11,12,-13] aV aV (cZ (eI (a7 _))) ?_;refine J [56,279,186,13,148] ?_;intro bi;refine J [47] ?_;refine ap 8 rfl rfl rfl rfl rfl (Nat.le_of_ble_eq_true rfl) (show _=ints [last+1]from rfl) rfl U gv ?_;intro V W;refine J [6,66,433,67,368,52,101,95] ?_;(have P:t.id≠last+1:=by omega);(have N:c6 (L++[(⟨last+1,t.id,w,d⟩:Fn)]) (last+1)=[]:=by simp_all);have H:(t::(⟨last+1,t.id,w,d⟩:Fn)::M).Perm (L++[(⟨last+1,t.id,w,d⟩:Fn)]):=(List.Perm.swap _ _ _).trans ((bN.symm.cons _).trans (Wk _ _).symm);have aq:∀u∈M,ix A ad cap L u=ix (aR A (last+1) aJ) (aR (aR ad t.id V) (last+1) none) (aR (aR cap t.id W) (last+1) 0) (L++[(⟨last+1,t.id,w,d⟩:Fn)]) u:=λu hu=>(by obtain⟨C,D⟩:=a1 u hu;dsimp only[ix];rw[bS D,bS D,bS D,bS (Xu C),bS (Xu C),aw _ C]);have ah:∀u∈M,iw ad cap L u=iw (aR (aR ad t.id V) (last+1) none) (aR (aR cap t.id W) (last+1) 0) (L++[(⟨last+1,t.id,w,d⟩:Fn)]) u:=λu hu=>(by obtain⟨C,D⟩:=a1 u hu;dsimp only[iw];rw[bS D,bS D,bS (Xu C),bS (Xu C),aw _ C]);exact hU ((dE 3 1 _).trans (aA (aR A (last+1) aJ) trivial (aA ⟨aR (aR ad t.id V) (last+1) none,aR (aR cap t.id W) (last+1) 0,aH,bD⟩ Z (bU 7 rfl (b9 5 rfl (by dsimp only;rw[D8 (t:=(⟨last+1,t.id,w,d⟩:Fn)),au,O];rfl) (b9 4 rfl (by dsimp only;rw[Eb (t:=(⟨last+1,t.id,w,d⟩:Fn)) eP,av,O];rfl) (ud 1 3 4 t (⟨last+1,t.id,w,d⟩:Fn) rfl rfl rfl (by dsimp only[ix];rw[bS P,bS P,bS P,cp,cp,a2,mp];rfl) (by dsimp only[ix];rw[cp,cp,cp,N];rfl) aq H (ud 1 0 1 t (⟨last+1,t.id,w,d⟩:Fn) rfl rfl rfl (by dsimp only[iw];rw[bS P,bS P,cp,cp,a2,mp,Vk,pR]) (by dsimp only[iw];rw[cp,cp,N];rfl) ah H (bw (a7 _))))))))))
 have ar:=qE (A:=A) E;refine J [220,33,598] ?_;intro _ _;apply J [12];rw[ar];refine J [125,536,0,537] ?_;intro bh;apply J [164,19,485,29,51,103,191,228];refine VD 24 rfl (c:=true) rfl ?_;apply J [274,169];apply Ve rfl<;>intro a3;have hv:gZ L last par (w,d)=(L,last,0,6):=az ⟨E,a3⟩;rw[hv];dsimp only;apply J [182];exact Cn;obtain rfl:par=0:=U
 refine ab.seq ?_;refine cJ [0,1,2,3,4,5,6,7] (VJ _) ?_;refine J [135,379,599] ?_;rw[zB];apply J [538,273];apply Ve rfl<;>intro Q;have hv:gZ L last 0 (w,d)=(L,last,0,7):=by rw[gZ,al (λh=>h.2 rfl),az Q]
 rw[hv];dsimp only;apply J [182];exact Cn;have hv:gZ L last 0 (w,d)=(L++[⟨last+1,0,w,d⟩],last+1,last+1,0):=by rw[gZ,al (λh=>h.2 rfl),al Q]
 rw[hv];dsimp only;have eP:¬kH L (w,d):=by grind[EC]
 have av:=wq eP;have aD:=EE ax (x:=last+1) U;have au:=qE (A:=A) aD;have a5:=Ft ax (x:=last+1) U;have O:(L++[(⟨last+1,0,w,d⟩:Fn)]).length=L.length+1:=b6
 have Z:=ax.add (t:=(⟨last+1,0,w,d⟩:Fn)) rfl cy eP;have aw:∀x,1<=x->c6 (L++[(⟨last+1,0,w,d⟩:Fn)]) x=c6 L x:=by grind[uy,Ap]
 refine J [23,101,149,55,290,208,29] ?_;refine cJ [0,1,2,3,4,5,6,7,8,9,10,-11,-12] (ao (ao (a7 _))) ?_;refine J [72,186,379,16,539,13,486] ?_;intro aT;refine J [6,259] ?_;refine lY 3 216 rfl (dP.int rfl) rfl rfl rfl ?_;refine J [113,7] ?_;refine cJ [0,1,2,3,4,5,6,7,8,-9] (bw (bw (a7 _))) ?_;refine J [135,379,186,259,600,113,7,340,141,101,95] ?_;have N:c6 (L++[(⟨last+1,0,w,d⟩:Fn)]) (last+1)=[]:=cv
 have aq:∀u∈L,ix A ad cap L u=ix (aR A (last+1) aT) (aR ad (last+1) none) (aR cap (last+1) 0) (L++[(⟨last+1,0,w,d⟩:Fn)]) u:=λu hu=>(by have C:=ax.rg u hu;(have D:u.id≠last+1:=by omega);dsimp only[ix];grind[bS]);have ah:∀u∈L,iw ad cap L u=iw (aR ad (last+1) none) (aR cap (last+1) 0) (L++[(⟨last+1,0,w,d⟩:Fn)]) u:=λu hu=>(by have C:=ax.rg u hu;(have D:u.id≠last+1:=by omega);dsimp only[iw];grind[bS]);have H:((⟨last+1,0,w,d⟩:Fn)::L).Perm (L++[(⟨last+1,0,w,d⟩:Fn)]):=(Wk _ _).symm;exact hU ((dE 3 1 _).trans (aA (aR A (last+1) aT) trivial (aA ⟨aR ad (last+1) none,aR cap (last+1) 0,aH,bD⟩ Z (eT (b9 2 rfl (by dsimp only;rw[D8 (t:=(⟨last+1,0,w,d⟩:Fn)),au,O];rfl) (b9 1 rfl (by dsimp only;rw[Eb (t:=(⟨last+1,0,w,d⟩:Fn)) eP,av,O];rfl) (cX 1 2 (⟨last+1,0,w,d⟩:Fn) rfl rfl (by dsimp only[ix];rw[cp,cp,cp,N];rfl) aq H (cX 0 1 (⟨last+1,0,w,d⟩:Fn) rfl rfl (by dsimp only[iw];rw[cp,cp,N];rfl) ah H (bX (a7 _))))))))))
end Go.Proofs.Q.b0
