/- Proved here: contracts, each under its own premises. -/
import Derived.Shelf.Sort.Plain
import Derived.Shelf.Slices.In.SortNone
import Derived.Test.YtglgidjhoncphaaGreatDoorGc
set_option linter.all false
set_option maxRecDepth 4000
set_option maxHeartbeats 4000000
open List renaming getElem?_eq_getElem->Ve,mem_append->Vg,mem_of_getElem?->Vi,getElem?_eq_some_iff->Vo,not_mem_nil->Vp,mem_map->Vq,mem_cons->Vt,take_add_one->Vv,replicate->Vw,nodup_cons->Vy,toArray->Vz,flatMap_cons->VD,nodup_append->VI,append_assoc->VJ,getElem?_of_mem->Wb,mem_flatMap->Wc,perm_append_singleton->We,getElem?_set_ne->Wo,map_congr_left->Wr,pairwise_iff_getElem->WF,getElem?_append_left->WG,eq_nil_of_length_eq_zero->Xi,getElem?_eq_none->Xn,range'->Yu,length_append->mp,mem_singleton->Vf,length_singleton->Vn,length_cons->VC,mem_filter->VE,nil_append->VK,filter_eq_self->VL,map_cons->VO,getElem?_set_self->V1,nodup_nil->V2,cons_append->V4,length_map->V5,append_nil->Wa,map_append->Wu,length_take->Ww,filter_cons_of_neg->Wx,filter_sublist->WK,drop_drop->WT,length_nil->W3,filter_filter->W5,find?_eq_none->W9,map_nil->Xa,find?_cons->XR,filter_append->Yi,mem_zipIdx_iff_getElem?->Yo,pairwise_map->Yv,append_eq_append_iff->YJ
open Decidable renaming of_not_not->Vj,not_not->Vu,by_contra->Wi
open Nat renaming pow_le_pow_right->Vk,zero_le->Vl,le_refl->Vm,le_of_ble_eq_true->Vr,mul_le_mul_right->VT,add_mul->V9,zero_add->Ws,le_trans->WC,lt_succ_iff_lt_or_eq->XF
open Go.Proofs.Tryz renaming prog->VS
open Go.Value renaming slice->VX,int->Wl,pointer->Ym
open List.Perm renaming refl->XA
open List.Pairwise renaming nil->Yx
open Int renaming toNat_of_nonneg->Wf
open List.cons renaming inj->Xl
open Go.QM.ab renaming az->Vh,loop->VQ,bk->WI
open Go.QM.aY renaming known->VM
open Go.QM.aE renaming refl->VZ
open Go.QM.bF renaming to->Wp
open Go.QM.dS renaming int->Yl
namespace Go.QM
open Go Go.Sort Go.Shelf Go.Proofs
def fJ(xs:List Int):List Int:=xs.mergeSort λx y=>decide (x<=y)
variable(xs:List Int)
theorem tc:(fJ xs).Perm xs:=List.mergeSort_perm _ _
theorem rZ:(fJ xs).length=xs.length:=(tc xs).length_eq
theorem HF:(fJ xs).Pairwise λx y=>x<=y:=by have:=List.pairwise_mergeSort (le:=λx y:Int=>decide (x<=y)) (λa b c d u=>by simp at d u⊢;omega) (λa b=>by simp;omega) xs;exact this.imp λh=>by simpa using h
theorem Se{w:World}{A:av}(h:sat w A)(os:Array Obj):sat (grow w os) A:=by
 obtain⟨x,C,d⟩:=h;refine⟨x,λi o u=>?_,d⟩;have:=C i o u;have D:i<w.heap.size:=cr
 show(w.heap++os)[i]? =some o;grind
theorem Re(pre u:List Value)(xs d:List Int)(h:d.length=xs.length):putCells (Wl .i64) pre.length d.toArray (pre++ints xs++u).toArray=(pre++ints d++u).toArray:=by have w:=ec xs;have C:=ec d;apply Array.ext;all_goals grind[putCells,ints]
theorem SQ{P:Program}{H:Ren}(N:Lays.n189 P H)(he:lO P (H.f 189)=true)(E:Nat)(ad:Option Addr)(cap:Nat)(xs:List Int)(bj:xs.length<=1000000):
    eQ P (H.f 189) [.slice ad xs.length cap] be [aX E 1 ad xs.length cap (ints xs)] (λ_:Unit=>.tuple #[]) (λ_=>True) (λ_=>[aX E 1 ad xs.length cap (ints (fJ xs))]):=by refine⟨he,λF _ w D=>?_⟩;by_cases V:xs=[];subst V;refine(callsIn_wide.2 (Any.slices_Sort_int_none N ad cap w)).mono ?_;rintro e W ⟨rfl,rfl⟩;exact⟨(),rfl,trivial,fv.refl W,by have ah:fJ []=[]:=Xi (rZ []);dsimp only;rw[ah];exact D⟩;cases ad with|none=>exfalso;obtain⟨h,_,a,b,_,rfl,aL,_⟩:=D;obtain⟨c,d,_,rfl,aQ,_⟩:=aL;have:=aQ.1.1;exact V (Xi this)|some p=>obtain⟨bf,bd,bl,a5,d1,rfl,aq,ar⟩:=D;obtain⟨a4,a8,d2,rfl,au,av⟩:=aq;obtain⟨⟨pre,u⟩,⟨g1,g2,g3,g4,g5⟩,az⟩:=au;have a9:sat w (sep (sep (aj p.block E (pre++ints xs++u)) kx) F):=⟨_,bd,_,a5,d1,rfl,⟨a4,a8,d2,rfl,az,av⟩,ar⟩;have Q:sat w (sep (obj p.block (.cells (pre++ints xs++u).toArray E (0,0))) (sep kx F)):=a9.bk pT;have C:w.heap[p.block]? =some (.cells (pre++ints xs++u).toArray E (0,0)):=(iB (jf _ _)).sat Q;have a2:p.block<w.heap.size:=(Array.getElem?_eq_some_iff.1 C).1;have bi:=ec xs;have aH:Holds (Wl .i64) w p.block pre.length xs.toArray:=λj O=>(by(have a0:j<xs.length:=by simpa using O);refine⟨?_,by simp[World.frozen?,C]⟩;have aB:(pre++ints xs++u)[pre.length+j]? =some (aa xs[j]):=(by rw[VJ,List.getElem?_append_right U,Nat.add_sub_cancel_left,WG U,ints,List.getElem?_map,Ve a0];rfl);rw[getElem!_pos xs.toArray j O,List.getElem_toArray];simp[World.cell?,C];simpa using aB);have Z:(some p:Option Addr)=some ⟨p.block,pre.length,none⟩:=congrArg some g1;rw[Z];refine(callsIn_wide.2 (Any.slices_Sort_int N p.block pre.length cap xs w aH a2 U)).mono ?_;rintro e W ⟨rfl,n,os,rfl⟩;refine⟨(),rfl,trivial,⟨rfl,rfl,rfl,?_⟩,Se ?_ os⟩;simp[grow];have an:(putRow (Wl .i64) (Go.Sort.ahead w n) p.block pre.length (fJ xs).toArray).heap[p.block]? =some (.cells (pre++ints (fJ xs)++u).toArray E (0,0)):=(by show(w.heap.modify p.block (onCells _))[p.block]? =_;rw[Array.getElem?_modify,ax rfl,C];simp only[Option.map_some,onCells];rw[Re pre u xs (fJ xs) (rZ xs)]);have bb:=u0 Q an (λi aW=>by show(w.heap.modify p.block (onCells _))[i]? =_;rw[Array.getElem?_modify,al (Ne.symm aW)]);have bc:sat _ (sep (sep (aj p.block E (pre++ints (fJ xs)++u)) kx) F):=bb.bk m6;refine bc.bk (dR (dR ?_ (VZ _)) (VZ _));exact hM λh a3=>⟨(pre,u),⟨rfl,by rw[ec,rZ];omega,g3,g4,by rw[ec,rZ];omega⟩,a3⟩
end Go.QM
namespace Go.Proofs.Q.aB
open Go Go.QM
theorem Rl(b aF jK:Nat)(lim:Int)(h:0<=lim/\lim<=1073741824)(F:av):aE (ag [aj b 187 [.map (some aF),aa 1],bT QM.encI aF (fj (λ_=>none) 0 (ae jK)) 1,aj jK 194 [aa lim,aa 0,aa 0,aa (-1),aa 0],F]) (ag [ez b [⟨0,-1,lim,0⟩] 1,F]):=by have aA:kb (aP (λ_=>0) 0 jK) [⟨0,-1,lim,0⟩]=fj (λ_=>none) 0 (ae jK):=(by have:=Ed (λ_=>0) [] ⟨0,-1,lim,0⟩ jK;trivial);have d:kO (aP (λ_=>0) 0 jK) [⟨0,-1,lim,0⟩] ⟨0,-1,lim,0⟩=aj jK 194 [aa lim,aa 0,aa 0,aa (-1),aa 0]:=(by trivial);refine(mS (f:=kO (aP (λ_=>0) 0 jK) [⟨0,-1,lim,0⟩]) _).trans ?_;refine ay (⟨aP (λ_=>0) 0 jK,aF⟩:oA) (eV.start h) ?_;exact bM 1 rfl (b9 1 rfl (by dsimp only;rw[aA];rfl) (cX 1 0 ⟨0,-1,lim,0⟩ rfl rfl d.symm (λ_ _=>rfl) (XA _) (ao (a6 _))))
theorem GZ(lim:Int)(h:0<=lim/\lim<=1073741824):bK 175 [aa lim] be [] (λb:Nat=>ae b) (λ_=>True) (λb=>[ez b [⟨0,-1,lim,0⟩] 1]):=by apply aH Tryz.func175 Tryz.ntmps175;intro F _;refine J [8,131,179,389,168,109] ?_;refine Vh rfl (λd=>absurd d U) (λd=>?_);refine J [4,26,326] ?_;intro ba;refine J [3,229,473,0,529] ?_;intro bC;refine eB ?_;refine N8 3 185 rfl (Yl rfl) rfl rfl rfl ?_;refine q rfl rfl (fW (v:=.map _) rfl) ?_;refine q rfl rfl (ek (cs:=[.map _,.int _ _]) rfl) ?_;refine e rfl ?_;refine e0 (v:=.agg #[_,_]) (l:=[.map _,.int _ _]) rfl rfl ?_;intro ch;apply J [110];exact bu ch trivial (Rl ch ba bC lim h F)
theorem Rm(lim:Int)(h:¬(0<=lim/\lim<=1073741824)):bt 175 [aa lim] be [] (.pointer none) []:=by apply aH Tryz.func175 Tryz.ntmps175;intro F _;apply J [8,131,179];refine aY.split 5 rfl (λd=>?_) (λd=>?_);have d:=dz d;apply J [49,139,270];exact dn;have d:=d6 d;apply J [168,109];refine Vh rfl (λu=>?_) (λu=>absurd U u);apply J [170,76];exact dn
theorem Ri(b:Nat)(L:List bY)(d:Int)(pr lim:Int)(a5:d<=1000000):bt 187 [ae b,aa pr,aa lim] be [ez b L d] (.tuple #[aa (fT L d pr lim).2.2.1,aa (fT L d pr lim).2.2.2]) [ez b (fT L d pr lim).1 (fT L d pr lim).2.1]:=by
 apply aH Tryz.func187 Tryz.ntmps187;intro F _;apply J [1];refine ab.open 0 rfl (λaQ aL=>?_);obtain⟨A,aF⟩:=aQ;have aw:=aL;apply J [87];dsimp only at aw⊢;by_cases h:dj L pr;·obtain⟨t,D,rfl⟩:=h;(have h:dj L t.id:=by grind[dj]);obtain⟨Z,ah,aW,a0⟩:=iw aw.bA D;have a4:=aw.tL D;have a8:=aw.rg t D;obtain⟨M,bO⟩:=fB D;haveI:=xX (A:=A) D;apply J [240,32];apply au (xE b aF L.length d A L t.id h);apply J [17,60,72,347,38];apply Vh rfl<;>intro E;(have hv:fT L d t.id lim=(L,d,0,1):=by rw[fT,al (λw=>w h),ax E]);rw[hv];dsimp only;apply J [180];exact Cj;apply J [46,28];apply ew (GX (A t.id) t.lim t.fU (fp L t.id) t.par (gO L t.id) U U lim U) fL.rd;apply J [17,392,38];apply Vh rfl<;>intro C;(have hv:fT L d t.id lim=(L,d,0,5):=by rw[fT,al (λw=>w h),al E,ax (by rw[Z,ah];exact C)]);rw[hv];dsimp only;apply J [180];exact Cj;(have w:lim<=t.lim-(t.fU+fp L t.id):=by omega);(have C:¬¬lim<=nw L t.id-m8 L t.id:=by omega);apply J [40];refine q rfl rfl (PG 3 185 rfl rfl) ?_;apply J [174];apply Vh rfl<;>intro a2;(have hv:fT L d t.id lim=(L,d,0,11):=by rw[fT,al (λw=>w h),al E,al C,ax U]);rw[hv];dsimp only;apply J [180];exact Cj;(have Q:L.length≠32:=by omega);(have hv:fT L d t.id lim=(L++[(⟨d,t.id,lim,0⟩:bY)],d+1,d,0):=by rw[fT,al (λw=>w h),al E,al C,al Q]);rw[hv];dsimp only;have aq:eV (L++[(⟨d,t.id,lim,0⟩:bY)]) (d+1):=aw.add h U (Vu.1 C) Q;(have eF:¬dj L d:=λ⟨u,hu,e⟩=>by have:=aw.rg u hu;omega);have av:=Ee (A:=A) eF;(have aB:(L++[(⟨d,t.id,lim,0⟩:bY)]).length=L.length+1:=by simp_all);(have H:∀x,fp (L++[(⟨d,t.id,lim,0⟩:bY)]) x=fp L x+(if t.id=x then lim else 0):=λx=>by rw[uh,rz]);(have N:∀x,gO (L++[(⟨d,t.id,lim,0⟩:bY)]) x=gO L x+(if t.id=x then 1 else 0):=λx=>by rw[wX,wY]);have W:=Ev (L:=L) (x:=d) (λu hu=>by have:=aw.GC hu;omega);(have O:t.id≠d:=by omega);refine J [331,22,64,27,64,154,267,284,40,120,229,3,473,0,529] ?_;intro P;refine eB ?_;refine lX 3 185 rfl (Yl rfl) rfl rfl rfl ?_;refine J [2,46,55,3,154,80,81,291,284,127,214,154,80,409,284,25,96] ?_;have an:(t::(⟨d,t.id,lim,0⟩:bY)::M).Perm (L++[(⟨d,t.id,lim,0⟩:bY)]):=(List.Perm.swap _ _ _).trans ((bO.symm.cons _).trans (We _ _).symm);have ar:∀u∈M,kO A L u=kO (aP A d P) (L++[(⟨d,t.id,lim,0⟩:bY)]) u:=λu hu=>(by have a3:=aw.rg u (bO.mem_iff.2 (by simp[hu]));have V:t.id≠u.id:=λe=>(Vy.1 (aw.bA.perm bO.symm)).1 (Vq.2 ⟨u,hu,e.symm⟩);dsimp only[kO];rw[bQ U,H,N,al V,al V,Int.add_zero,Int.add_zero]);exact hI (ay (⟨aP A d P,aF⟩:oA) aq (cO (b9 1 rfl (by dsimp only;rw[Ed (t:=(⟨d,t.id,lim,0⟩:bY)),av,aB];rfl) (t7 0 0 0 t (⟨d,t.id,lim,0⟩:bY) rfl rfl rfl (by dsimp only[kO];rw[bQ O,H,N,ax rfl,ax rfl];rfl) (by dsimp only[kO];rw[cm,H,N,al O,al O,W.1,W.2];rfl) ar an (ao (a6 _))))))
 have hv:fT L d pr lim=(L,d,0,6):=ax h;rw[hv];dsimp only;apply J [240,32];apply au (xD b aF L.length d A L pr h);apply J [17,60,20,25,117];exact hI (ay ⟨A,aF⟩ aw (ao (ao (ao (ao (a6 _))))))
theorem Rj(b:Nat)(L:List bY)(E:Int)(id:Int):bt 222 [ae b,aa id] be [ez b L E] (aa (iD L id).2) [ez b (iD L id).1 E]:=by
 apply aH Tryz.func222 Tryz.ntmps222;intro F _;apply J [1];refine ab.open 0 rfl (λa3 a2=>?_);obtain⟨A,aF⟩:=a3;have aw:=a2;apply J [87];dsimp only at aw⊢;by_cases h:dj L id;obtain⟨t,w,rfl⟩:=h;have h:dj L t.id:=by grind[dj]
 obtain⟨V,H,a4,a5⟩:=iw aw.bA w;have bb:=aw.tL w;have bj:=aw.rg t w;haveI:=xX (A:=A) w;apply J [98];apply au (xE b aF L.length E A L t.id h);apply J [17,60,72,25,174];apply Vh rfl<;>intro C;have hv:iD L t.id=(L,1):=by rw[iD,al (λd=>d h),ax C]
 rw[hv];dsimp only;apply J [67];exact sf;apply J [46,0];apply ew (G0 (A t.id) t.lim t.fU (fp L t.id) t.par (gO L t.id) U U) fL.rd;apply J [17,93,18];refine aY.split 27 rfl (λD=>?_) (λD=>?_);have D:=dz D;apply J [213,169,20];have hv:iD L t.id=(L,12):=by rw[iD,al (λd=>d h),al C,ax (.inl (by rw[V];exact D))]
 rw[hv];dsimp only;apply J [67];exact sf;have D:=d6 D;apply J [140,474,167,160,207];apply Vh rfl<;>intro d;have hv:iD L t.id=(L,12):=by rw[iD,al (λd=>d h),al C,ax (.inr d)]
 rw[hv];dsimp only;apply J [67];exact sf;have an:t.fU+fp L t.id=0:=U
 have hv:iD L t.id=(kH L t.id,0):=by rw[iD,al (λd=>d h),al C,al (λaq=>aq.elim (λO=>O (by rw[V];exact an)) (λO=>d O))]
 rw[hv];dsimp only;have P:eV (kH L t.id) E:=aw.off w C d;obtain⟨⟨pp,a0,N⟩,bf⟩:=aw.par t w C;have bi:dj L t.par:=by grind[dj]
 have bc:=aw.tL a0;obtain⟨Q,W⟩:=fB w;have eb:pp∈Q:=cr;obtain⟨M,bO⟩:=fB eb;have av:(kH L t.id).Perm Q:=xp aw.bA W;have Z:pp::M|>.Perm (kH L t.id):=(av.trans bO).symm;have aW:=Qu aw.bA w;have ah:=λx=>Gq aw.bA w x;have bd:t.lim<=fp L pp.id/\1<=gO L pp.id:=(by have a9:=wI P pp.id;have bL:=(Fk (kH L t.id) pp.id).1;simp_all);have aQ:kb A L t.par=some (.pointer (some ⟨A pp.id,0,none⟩)):=by grind[zB]
 have aL:=zB (A:=A) h;apply J [206,459,50,272];refine bI rfl rfl rfl (kh 3 185 rfl rfl (Yl rfl) rfl rfl) ?_;rw[aQ];apply J [475,74,6];refine WI (fN 2 rfl W) ?_;apply J [530];refine ab.draw _ [14] [0,1,2,3,4,5,6,7,8,9,10,11,12,13,-14] a1 a1 (VZ _) ?_;refine J [350,136,172,411,89,88,366,91,512,74,127,214,219,80,409,284,40,3,23] ?_;refine lM 3 185 rfl (Yl rfl) rfl rfl rfl ?_;apply J [119];have aB:∀u∈M,kO A L u=kO A (kH L t.id) u:=λu hu=>(by have a8:t.par≠u.id:=λH=>(by rw[<-N]at H;have ar:=P.bA.perm Z;exact(Vy.1 ar).1 (Vq.2 ⟨u,hu,H.symm⟩));grind);exact eZ (ay (⟨A,aF⟩:oA) P (eK (b9 0 rfl (by dsimp only;rw[Mt,aL,<-aW];rfl) (cX 0 0 pp rfl rfl (by dsimp only[kO];rw[(ah pp.id).1,(ah pp.id).2,ax N.symm,ax N.symm];rfl) aB Z (bN (a6 _))))));have hv:iD L id=(L,6):=ax h;rw[hv];dsimp only;apply J [98];apply au (xD b aF L.length E A L id h);apply J [17,60,210,84];exact Ci
end Go.Proofs.Q.aB
namespace Go.Proofs.Q
open Go Go.QM
def cg(c:Nat):Nat:=[0,64,128,256,32,32,48,256].getD c 0
def cls:List Nat:=Yu 1 7
variable{c:Nat}
theorem we:c∈cls↔1<=c/\c<=7:=by rw[cls,List.mem_range'_1];omega
theorem oE(h:c∈cls):c<8:=by have:=we.1 h;omega
theorem tR(h:c∈cls):c=1\/c=2\/c=3\/c=4\/c=5\/c=6\/c=7:=by rw[we]at h;omega
theorem pn(h:c∈cls):((16<=cg c/\cg c<=512)/\cg c %16=0)/\cg c≠0:=by rcases tR h with rfl|rfl|rfl|rfl|rfl|rfl|rfl<;>decide
theorem Du(h:c∈cls):3<=960/cg c:=by rcases tR h with rfl|rfl|rfl|rfl|rfl|rfl|rfl<;>decide
theorem DC(h:c<8):qt[0+((c:Nat):Int).toNat*1]? =some (aa (cg c:Int)):=by
 have:c=0\/c=1\/c=2\/c=3\/c=4\/c=5\/c=6\/c=7:=U
 rcases this with rfl|rfl|rfl|rfl|rfl|rfl|rfl|rfl<;>rfl
theorem Lw(h:c<8):qt[((c:Nat):Int).toNat*1]? =some (aa (cg c:Int)):=by have:=DC h;rwa[Ws]at this
structure cT where
  Q:List aB.bY
  bE:Int
  C:Nat->List cj
  Fr:List Nat
  m:Nat->Nat
def addr(c:Nat)(y:Nat×Nat×List cj):Nat:=y.1*1024+64+y.2.1*cg c
def dK{α:Type}(f:Nat->α)(c:Nat)(v:α):Nat->α:=λx=>if x=c then v else f x
theorem jy{α:Type}(f:Nat->α)(c:Nat)(v:α):dK f c v c=v:=ax rfl
theorem jb{α:Type}(f:Nat->α){x:Nat}(v:α)(h:x≠c):dK f c v x=f x:=al h
def hC(C:Nat->List cj)(c:Nat):List Nat:=(C c).map (·.aD)
def dp(C:Nat->List cj)(Fr:List Nat):List Nat:=cls.flatMap (hC C)++Fr
theorem zF{C:Nat->List cj}{c:Nat}{L':List cj}{add:List Nat}(h:(L'.map (·.aD)).Perm (add++hC C c)):∀{l:List Nat},l.Nodup->c∈l->(l.flatMap (hC (dK C c L'))).Perm (add++l.flatMap (hC C))
 | [],_,d=>by cases d
 | x::l,an,d=>by
  obtain⟨u,w⟩:=Vy.1 an
  rw[VD,VD]
  by_cases e:x=c
  ·subst e
   have D:l.flatMap (hC (dK C x L'))=l.flatMap (hC C):=by
    have:∀y∈l,hC (dK C x L') y=hC C y:=λy E=>by rw[hC,hC,jb _ _ (λe:y=x=>u (e▸E))]
    rw[List.flatMap_def,List.flatMap_def,Wr this]
   rw[D,hC,jy,<-VJ]
   exact h.append_right _
  have hm:c∈l:=by
   rcases Vt.1 d with d|d
   ·exact absurd d.symm e
   exact d
  rw[show hC (dK C c L') x=hC C x by rw[hC,hC,jb _ _ e]]
  refine(List.Perm.append_left _ (zF h w hm)).trans ?_
  rw[<-VJ,<-VJ]
  exact List.Perm.append_right _ List.perm_append_comm
theorem wg:cls.Nodup:=by decide
theorem GJ{C:Nat->List cj}{Fr:List Nat}{aD:Nat}{L':List cj}(d:c∈cls)(h:(L'.map (·.aD)).Perm (aD::hC C c)):(dp (dK C c L') Fr).Perm (aD::dp C Fr):=by have:=zF (add:=[aD]) h wg d;exact this.append_right Fr
theorem GL{C:Nat->List cj}{Fr:List Nat}{L':List cj}(d:c∈cls)(h:L'.map (·.aD)=hC C c):(dp (dK C c L') Fr).Perm (dp C Fr):=by have:=zF (C:=C) (add:=[]) (L':=L') (by rw[h];exact XA _) wg d;exact this.append_right Fr
theorem xz{C:Nat->List cj}{Fr:List Nat}{p:Nat}:p∈dp C Fr↔(∃c∈cls,∃q∈C c,q.aD=p)\/p∈Fr:=by grind[dp,hC]
structure dg(top:Nat)(S:cT):Prop where
  fX:6<=top/\top<=7
  ok:∀c∈cls,mb (cg c) (S.C c)
  bA:(dp S.C S.Fr).Nodup
  lt:∀p∈dp S.C S.Fr,p<2^top
def hb(j t bd ar:Nat)(wa:Nat->Nat):List Value:=[ae t,ae bd,ae ar]++(List.range 8).map (λc=>if 1<=c/\c<j then .pointer (some ⟨(wa c),0,none⟩)else .pointer none)
theorem s5(j t bd ar:Nat)(d:Nat->Nat):(hb j t bd ar d).length=11:=by simp[hb]
theorem Bj{t bd ar:Nat}(d:Nat->Nat)(h:c∈cls):(hb 8 t bd ar d)[0+3+((c:Nat):Int).toNat*1]? =some (.pointer (some ⟨(d c),0,none⟩)):=by rcases tR h with rfl|rfl|rfl|rfl|rfl|rfl|rfl<;>rfl
theorem GM{j t bd ar i:Nat}(d:Nat->Nat)(h:i<8):(hb j t bd ar d)[3+i]? =some (if 1<=i/\i<j then .pointer (some ⟨(d i),0,none⟩)else .pointer none):=by grind[hb]
theorem Q5{j t bd ar x:Nat}(d:Nat->Nat)(h:j<8)(D:1<=j):dC (0+3+((j:Nat):Int).toNat*1) [ae x] (hb j t bd ar d)=hb (j+1) t bd ar (dK d j x):=by have e:dC (0+3+((j:Nat):Int).toNat*1) [ae x] (hb j t bd ar d)=(hb j t bd ar d).set (3+j) (ae x):=(by rw[List.set_eq_take_append_cons_drop,ax (by rw[s5];omega),Int.toNat_natCast,Nat.mul_one,Ws];grind[dC]);rw[e];apply List.ext_getElem?;intro i;rw[List.getElem?_set,s5];by_cases w:i<3;rw[al U,hb,hb,WG (by simpa using w),WG (by simpa using w)];obtain⟨i,rfl⟩:∃k,i=3+k:=⟨i-3,by omega⟩;by_cases C:i<8;rw[GM _ C,GM _ C];by_cases u:i=j;subst u;rw[ax rfl,ax U,ax U,jy];rw[al U,jb _ _ u];grind;rw[al U,Xn (by rw[s5];omega),Xn (by rw[s5];omega)]
class cZ where
  f:Nat->Nat
  t:Nat->Nat
class eL where
  aI:Nat
structure dP[cZ](b:Nat) where
  t:Nat
  bd:Nat
  ar:{a:Nat//a=cZ.f b}
  wa:Nat->Nat
  N2:t=cZ.t b:=by first|assumption|rfl
def e3[cZ](b top:Nat)(S:cT):av:=e7 λy:dP b=>pure' (dg top S) (ag [aj b 169 (hb 8 y.t y.bd y.ar y.wa),aB.ez y.t S.Q S.bE,ke y.bd top (dp S.C S.Fr),fA y.ar S.m (1024*2^top),b3 (λc=>lh (y.wa c) y.bd (cg c) (S.C c)) cls])
theorem zh(h:c∈cls):∃L,cls.Perm (c::L)/\∀x∈L,x≠c:=by obtain⟨L,d⟩:=fB h;grind[wg]
def dt(lim:Int):cT:=⟨[⟨0,-1,lim,0⟩],1,λ_=>[],[],λ_=>0⟩
theorem GK(C:Nat->List cj)(h:∀c,C c=[]):dp C []=[]:=by
 have:hC C=λ_=>[]:=by grind[hC]
 rw[dp,this];rfl
variable{top:Nat}
theorem dg.zero(lim:Int)(h:6<=top/\top<=7):dg top (dt lim):=
 ⟨h,λc d=>⟨(pn d).1.1,⟨Yx,λ_ h=>(by cases h)⟩,λ_ h=>(by cases h)⟩,by rw[dt,GK _ λ_=>rfl];exact List.nodup_nil,by rw[dt,GK _ λ_=>rfl];exact λ_ h=>(by cases h)⟩
structure iU(top:Nat)(S:cT)(c:Nat)(y:Nat×Nat×List cj):Prop where
  m1:lA (960/cg c) (S.C c) y.2.2 y.1 y.2.1
  i:y.2.1<960/cg c
  lt:y.1<2^top
  inv:∀Q bE m,dg top ⟨Q,bE,dK S.C c y.2.2,S.Fr,m⟩
  new:(∀q∈S.C c,q.aD≠y.1)->y.1∉dp S.C S.Fr
  len:(dp (dK S.C c y.2.2) S.Fr).length<=(dp S.C S.Fr).length+1
theorem dg.m1{S:cT}(h:dg top S)(w:c∈cls){y:Nat×Nat×List cj×Bool}(D:yH (cg c) top (dp S.C S.Fr) (S.C c) y):iU top S c (y.1,y.2.1,y.2.2.1)/\(dp (dK S.C c y.2.2.1) S.Fr).Perm (if y.2.2.2=true then y.1::dp S.C S.Fr else dp S.C S.Fr):=by
 have N:=h.ok c w;have Z:0<960/cg c:=by have:=Du w;omega
 have ah:2^top<=128:=Vk (n:=2) am h.fX.2;have key:(dp (dK S.C c y.2.2.1) S.Fr).Perm (if y.2.2.2=true then y.1::dp S.C S.Fr else dp S.C S.Fr)/\y.1<2^top/\(y.2.2.2=true->y.1∉dp S.C S.Fr)/\(y.2.2.2≠true->y.1∈hC S.C c):=(by have u:=D.aD;by_cases e:y.2.2.2=true;rw[ax e]at u⊢;exact⟨GJ w u.1,u.2.2,λ_=>u.2.1,λh=>absurd e h⟩;rw[al e]at u⊢;refine⟨GL w u.1,?_,λh=>absurd h e,λ_=>u.2⟩;obtain⟨q,H,E⟩:=Vq.1 u.2;exact h.lt _ (xz.2 (.inl ⟨c,w,q,H,E⟩)));obtain⟨bS,P,V,W⟩:=key;refine⟨⟨D.m1,D.i,P,λQ aq m=>?_,λan hm=>?_,by rw[bS.length_eq];split<;>simp⟩,bS⟩;refine⟨h.fX,λd O=>?_,bS.nodup_iff.2 ?_,λp u=>?_⟩;dsimp only;by_cases e:d=c;subst e;rw[jy];exact N.m1 D.m1 U;rw[jb _ _ e];exact h.ok d O;split;rename_i e;exact Vy.2 ⟨V e,h.bA⟩;exact h.bA;have:=bS.mem_iff.1 u;split at this;rcases Vt.1 this with rfl|this;trivial;exact h.lt _ this;exact h.lt _ this;by_cases e:y.2.2.2=true;simp_all;obtain⟨q,H,E⟩:=Vq.1 (W e);simp_all
structure jT(top:Nat)(S:cT)(c aD i:Nat)(L':List cj):Prop where
  nm:mN (960/cg c) (S.C c) L' aD i
  inv:∀Q bE m,dg top ⟨Q,bE,dK S.C c L',S.Fr,m⟩
  len:(dp (dK S.C c L') S.Fr).length<=(dp S.C S.Fr).length
theorem dg.nm{S:cT}(h:dg top S){aD i:Nat}(w:c∈cls){y:List cj×Bool}(D:Cz (cg c) (S.C c) aD i y)(hm:aD∈dp S.C S.Fr):jT top S c aD i y.1/\(dp (dK S.C c y.1) S.Fr).Perm (if y.2=true then(dp S.C S.Fr).erase aD else dp S.C S.Fr):=by have E:=h.ok c w;have key:(dp (dK S.C c y.1) S.Fr).Perm (if y.2=true then(dp S.C S.Fr).erase aD else dp S.C S.Fr):=(by have u:=D.aD;by_cases e:y.2=true;rw[ax e]at u⊢;have N:(dK (dK S.C c y.1) c (S.C c))=S.C:=funext λx=>(by grind[jy,jb]);have:=GJ (C:=dK S.C c y.1) (Fr:=S.Fr) (L':=S.C c) w (by rw[hC,jy];exact u);grind;rw[al e]at u⊢;exact GL w u);have hlen:(dp (dK S.C c y.1) S.Fr).length<=(dp S.C S.Fr).length:=(by rw[key.length_eq];grind);refine⟨⟨D.nm,λQ O m=>⟨h.fX,λd H=>?_,key.nodup_iff.2 ?_,λp u=>?_⟩,hlen⟩,key⟩;dsimp only;by_cases e:d=c;subst e;rw[jy];exact E.nm D.nm;rw[jb _ _ e];exact h.ok d H;split;exact h.bA.erase _;exact h.bA;have:=key.mem_iff.1 u;split at this;exact h.lt _ (List.mem_of_mem_erase this);exact h.lt _ this
theorem So(L:List aB.bY)(x c d:Int):aB.fR (aB.fR L x c) x d=aB.fR L x d:=by grind[aB.fR,Wr]
variable{x:Int}
theorem Sn{L:List aB.bY}(h:aB.iA L):aB.fR L x (aB.gh L x)=L:=by
 rw[aB.fR];conv=>rhs;rw[<-List.map_id L]
 apply Wr;intro t d;by_cases e:t.id=x;rw[ax e,<-e,(aB.iw h d).2.2.1];rfl;simp_all
theorem BF{L:List aB.bY}(h:aB.iA L)(x c:Int):aB.iA (aB.fR L x c):=by rw[aB.iA,aB.xN];exact h
theorem y8{L:List aB.bY}(h:aB.iA L){y c:Int}(u:aB.dj L y):aB.gh (aB.fR L x c) y=if y=x then c else aB.gh L y:=by obtain⟨t,d,rfl⟩:=u;have w:=(aB.iw h d).2.2.1;by_cases e:t.id=x;have hm:(⟨t.id,t.par,t.lim,c⟩:aB.bY)∈aB.fR L x c:=aB.ta.2 ⟨t,d,by rw[ax e]⟩;have:=(aB.iw (BF h x c) hm).2.2.1;simp_all;have hm:t∈aB.fR L x c:=aB.ta.2 ⟨t,d,by rw[al e]⟩;have:=(aB.iw (BF h x c) hm).2.2.1;omega
theorem y7{L:List aB.bY}{n:Int}(h:(aB.df L x n).2=0):aB.dj L x/\0<=n/\n<=aB.nw L x-aB.m8 L x/\(aB.df L x n).1=aB.fR L x (aB.gh L x+n):=by unfold aB.df at h⊢;grind
theorem G5{L:List aB.bY}{n:Int}(d:aB.dj L x)(u:0<=n)(w:n<=aB.gh L x):aB.ep L x n=(aB.fR L x (aB.gh L x-n),0):=by unfold aB.ep;simp_all
theorem s6{L:List aB.bY}{H:Int}(aw:aB.eV L H){n:Int}(E:(aB.df L x n).2=0):aB.ep (aB.df L x n).1 x n=(L,0):=by
 obtain⟨d,w,O,C⟩:=y7 E;have N:0<=aB.gh L x:=(by obtain⟨t,u,rfl⟩:=d;rw[(aB.iw aw.bA u).2.2.1];exact(aw.rg t u).2.2.2.2.1);have D:aB.gh (aB.fR L x (aB.gh L x+n)) x=aB.gh L x+n:=by rw[y8 aw.bA d,ax rfl]
 rw[C,G5 (aB.qX.2 d) w U,D,So,Int.add_sub_cancel,Sn aw.bA]
theorem Dn{Q:List aB.bY}{a n:Int}(h:(aB.df Q a n).2≠0):(aB.df Q a n).1=Q:=by unfold aB.df at h⊢;grind
def pf(c:Nat):Option (Nat×Nat×List cj)->Int
  | some y=>(addr c y:Int)
  | none=>0
def Cy(top:Nat)(S:cT)(a:Int)(c:Nat):Option (Nat×Nat×List cj)×Int->Prop
  | (some y,e)=>e=0/\(aB.df S.Q a (cg c:Int)).2=0/\iU top S c y
  | (none,e)=>e≠0/\(e=(aB.df S.Q a (cg c:Int)).2\/e=4/\2^top<=(dp S.C S.Fr).length)
def kd(S:cT)(a:Int)(c:Nat):Option (Nat×Nat×List cj)->cT
  | some y=>⟨(aB.df S.Q a (cg c:Int)).1,S.bE,dK S.C c y.2.2,S.Fr,hf S.m (addr c y) (cg c)⟩
  | none=>S
variable [cZ]
theorem rR(c:Nat)(h:c<8):bt 81 [aa c] c5 [] (aa (cg c:Int)) []:=by apply aH Tryz.func81 Tryz.ntmps81;intro F w;apply J [8];obtain⟨E,u,C⟩:=w.co;haveI:fL F 0 (.cells qt.toArray E u):=⟨C⟩;refine J [36,179,389,12,303,109] ?_;refine Vh rfl (λd=>absurd d U) (λd=>?_);apply J [4,25];refine q rfl rfl (jI 8 3 1 rfl rfl rfl U U) ?_;refine q rfl rfl (fF rfl rfl (DC h)) ?_;apply J [30];exact j4
theorem ll(b t bd ar:Nat)(d:Nat->Nat):bt 40 [ae b] be [aj b 169 (hb 8 t bd ar d)] (ae ar) [aj b 169 (hb 8 t bd ar d)]:=by apply aH Tryz.func40 Tryz.ntmps40;intro F _;apply J [1,131,42,97,110];exact hH
theorem uQ(b top:Nat)(S:cT)(a:Int)(c:Nat)(d:c∈cls):bK 128 [ae b,aa a,aa c] c5 [e3 b top S] (λy:Option (Nat×Nat×List cj)×Int=>.tuple #[aa (pf c y.1),aa y.2]) (λy=>Cy top S a c y) (λy=>[e3 b top (kd S a c y.1)]):=by
 apply aH Tryz.func128 Tryz.ntmps128;intro F ah;apply J [1];haveI:cw F:=⟨ah⟩;obtain⟨bi,bf⟩:=pn d;have bj:((cg c:Nat):Int)≠0:=U
 have bc:=oE d;refine ab.open 0 rfl (λO H=>?_);obtain⟨t,bd,w,u⟩:=O;have D:=H;apply J [161];dsimp only at D⊢;refine ab.open 1 rfl (λO H=>?_);obtain⟨a4,a5⟩:=O;have aw:=H;apply J [145];refine WI (B:=ag [aj b 169 (hb 8 t bd w u),aB.ez t S.Q S.bE,ke bd top (dp S.C S.Fr),fA w S.m (1024*2^top),b3 (λc=>lh (u c) bd (cg c) (S.C c)) cls,F]) (cO (ay (⟨a4,a5⟩:aB.oA) aw ai)) ?_;apply J [24,243,254,280];apply au (rR c (oE d));apply J [14,158,109];refine Vh rfl (λP=>absurd P U) (λP=>?_);apply J [44,6];refine cD [0,1,2,3,4,5,-6,-7,8] (ao (a6 _)) ?_;apply J [50,11,263];apply au (rR c (oE d));refine J [237,45] ?_;apply au (aB.GW t S.Q S.bE a (cg c:Int));refine J [237,70,34] ?_;apply Vh rfl<;>intro E;apply J [188];have aL:=Dn E;exact cQ (none,(aB.df S.Q a (cg c:Int)).2) ⟨E,.inl rfl⟩ (ay (dP.mk t bd w u:dP b) D (by rw[aL];exact ai));have E:=Vj E;apply J [4,35,80,383];refine q rfl rfl (jI 8 165 1 rfl rfl rfl U U) ?_;refine q rfl rfl (fF rfl rfl (Bj u d)) ?_;obtain⟨a9,gi,ar⟩:=zh d;have a0:=D.fX;have be:2^top<=128:=Vk (n:=2) am a0.2;apply J [531,0];apply bb (SM (u c) bd top (cg c) (S.C c) (dp S.C S.Fr) U (λa3 Z=>xz.2 (.inl ⟨c,d,a3,Z,rfl⟩)));intro a8 N;apply J [16];cases a8 with|none=>?_|some y=>?_
 have an:2^top<=(dp S.C S.Fr).length:=N;dsimp only[Bi,qw,tN,tK];have aQ:=s6 aw E;apply J [134,34,20,6];refine cD [0,1,2,3,4,5,-6,-7] (eK (a6 _)) ?_;apply J [50,11,263];apply au (rR c (oE d));refine J [238,45] ?_;apply au (aB.xF t (aB.df S.Q a (cg c:Int)).1 S.bE a (cg c:Int));refine J [238,9] ?_;rw[aQ];apply J [74,188];exact cQ (none,4) ⟨by decide,.inr ⟨rfl,an⟩⟩ (ay (dP.mk t bd w u:dP b) D (eK (ao (bN (bw (cX 0 0 c rfl rfl rfl (λ_ _=>rfl) gi.symm ai))))));have V:yH (cg c) top (dp S.C S.Fr) (S.C c) y:=N;dsimp only[Bi,qw,tN,tK];obtain⟨cH,eb⟩:=D.m1 d V;obtain⟨aD,i,W,aW⟩:=y;dsimp only at cH eb⊢;have av:=(D.ok c d).place cH.i;have aq:=cH.lt;dsimp only at av aq;clear V N;apply J [134,242,122];refine cD [0,1,2,3,4,5,-6,-7] (eK (a6 _)) ?_;apply J [185,11,263];apply au (rR c (oE d));refine J [238,45] ?_;apply au (C1 w (1024*2^top) (aD*1024+64+i*cg c) (cg c) S.m U U U);refine J [238,113,25,96] ?_;exact cQ (some (aD,i,W),0) ⟨rfl,E,cH⟩ (ay (dP.mk t bd w u:dP b) (cH.inv _ _ _) (eG (eK (eN 2 rfl (vV _ _ eb.symm) (ao (cX 0 0 c rfl rfl (by dsimp only[kd];rw[jy]) (λx a2=>by dsimp only[kd];rw[jb _ _ (ar x a2)]) gi.symm ai))))))
theorem Bk(b top:Nat)(S:cT)(c:Nat)(d:c∈cls)(k aD i:Nat)(f:Nat->Bool)(N:(S.C c)[k]? =some ⟨aD,f⟩)(H:f i=true):bt 34 [ae b,aa c,aa ((aD*1024+64+i*cg c:Nat):Int)] c5 [e3 b top S] (.bool true) [e3 b top S]:=by apply aH Tryz.func34 Tryz.ntmps34;intro F E;apply J [1];haveI:cw F:=⟨E⟩;obtain⟨ah,Z⟩:=pn d;have V:=oE d;refine ab.open 0 rfl (λP O=>?_);obtain⟨t,bd,D,u⟩:=P;have w:=O;apply J [161];dsimp only at w⊢;apply J [128,336,18,280];apply au (rR c (oE d));apply J [14,160,51];refine VM 14 rfl (c:=true) (da U) ?_;apply J [301,12,513,295];refine dc rfl rfl rfl (jI 8 165 1 rfl rfl rfl U U) ?_;refine dc rfl rfl rfl (fF rfl rfl (Bj u d)) ?_;apply J [12];obtain⟨Q,gi,W⟩:=zh d;apply J [531,95];apply au (SI (u c) bd (cg c) (S.C c) k aD i f N H);apply J [16,132];exact eZ (ay (dP.mk t bd D u:dP b) w (bw (bw (bw (bw (cX 0 0 c rfl rfl rfl (λ_ _=>rfl) gi.symm ai))))))
theorem uR(b top:Nat)(S:cT)(c:Nat)(d:c∈cls)(k aD i:Nat)(f:Nat->Bool)(w:(S.C c)[k]? =some ⟨aD,f⟩)(N:f i=true)(a:Int)(aL:(aB.ep S.Q a (cg c:Int)).2=0):bK 189 [ae b,aa a,aa c,aa ((aD*1024+64+i*cg c:Nat):Int)] c5 [e3 b top S] (λ_:List cj=>aa 0) (λL'=>jT top S c aD i L') (λL'=>[e3 b top ⟨(aB.ep S.Q a (cg c:Int)).1,S.bE,dK S.C c L',S.Fr,S.m⟩]):=by apply aH Tryz.func189 Tryz.ntmps189;intro F V;apply J [1];haveI:cw F:=⟨V⟩;obtain⟨aW,aQ⟩:=pn d;have av:=oE d;have O:aD∈dp S.C S.Fr:=xz.2 (.inl ⟨c,d,_,Vi w,rfl⟩);apply J [36,75,254,280];apply au (rR c (oE d));apply J [5,158,207];refine Vh rfl (λE=>absurd E U) (λE=>?_);apply J [35,28];apply au (Bk b top S c d k aD i f w N);apply J [5,266];refine ab.open 0 rfl (λaq ah=>?_);obtain⟨t,bd,P,u⟩:=aq;have D:=ah;apply J [161];dsimp only at D⊢;apply J [206,6];refine cD [0,1,2,3,4,5,-6,-7,8] (ao (a6 _)) ?_;apply J [50,11,263];apply au (rR c (oE d));refine J [237,45] ?_;apply au (aB.xF t S.Q S.bE a (cg c:Int));refine J [237,70,34] ?_;refine Vh rfl (λH=>absurd H U) (λH=>?_);apply J [4,35,80,383];refine q rfl rfl (jI 8 165 1 rfl rfl rfl U U) ?_;refine q rfl rfl (fF rfl rfl (Bj u d)) ?_;apply J [3];obtain⟨ar,gi,W⟩:=zh d;apply J [531,0];apply bb (SH (u c) bd (cg c) (S.C c) k aD i f w N top (dp S.C S.Fr) O);intro y an;apply J [16];obtain⟨cH,eb⟩:=D.nm d an O;apply J [30];exact bu y.1 cH (ay (dP.mk t bd P u:dP b) (cH.inv _ _ _) (eK (cO (eN 1 rfl (vV _ _ eb.symm) (bw (cX 0 0 c rfl rfl (by dsimp only;rw[jy]) (λx Z=>by dsimp only;rw[jb _ _ (W x Z)]) gi.symm ai))))))
end Go.Proofs.Q
namespace Go.Proofs.Q
open Go Go.QM
theorem Q6(t bd ar:Nat)(d:Nat->Nat):dC (0+3+((0:Nat):Int).toNat*1) [Ym none] (hb 0 t bd ar d)=hb 1 t bd ar d:=rfl
theorem RN(j:Nat)(h:1<=j):Yu 1 (j+1-1)=Yu 1 (j-1)++[j]:=by obtain⟨k,rfl⟩:∃k,j=k+1:=⟨j-1,by omega⟩;rw[Nat.add_sub_cancel,Nat.add_sub_cancel];rw[List.range'_concat,Nat.one_mul,Nat.add_comm 1 k]
theorem GO(n top:Nat)(lim:Int)(h:n=65536/\top=6\/n=131072/\top=7)(a0:0<=lim/\lim<=n):bK 125 [aa n,aa lim] c5 [] (λy:Nat×cZ=>ae y.1) (λ_=>True) (λy=>[@e3 y.2 y.1 top (dt lim)]):=by
 apply aH Tryz.func125 Tryz.ntmps125;intro F C;apply J [8];haveI:cw F:=⟨C⟩;have av:n=1024*2^top:=cr
 have an:n=65536\/n=131072:=U
 have aQ:6<=top/\top<=7:=U
 have a3:n<=131072:=U
 obtain⟨E,P,V⟩:=C.co;haveI:fL F 0 (.cells qt.toArray E P):=⟨V⟩;apply J [170,142];apply bb (aB.GZ lim U);intro t _;apply J [5,28];apply bb (yY n top h);intro bd _;apply J [7,28];apply bb (yO n an);intro d _;apply J [17];refine q rfl rfl (ek (cs:=hb 0 t bd d (λ_=>0)) rfl) ?_;refine e rfl ?_;refine e0 (v:=.agg (Vz (hb 0 t bd d (λ_=>0)))) (l:=hb 0 t bd d (λ_=>0)) rfl rfl ?_;intro b;apply J [57,97,156,18,140,192,412,41,12,168,109];refine Vh rfl (λD=>absurd D U) (λD=>?_);apply J [44,24];refine q rfl rfl (fQ (vs:=qt) 8 rfl rfl rfl rfl) ?_;apply J [112];refine VQ (ι:=Nat×(Nat->Nat)) (λx=>x.1<=8) (λx=>[(5,ae b),(33,.agg (Vz qt)),(34,aa ((x.1:Nat):Int))]) (λx=>ag [aj b 169 (hb x.1 t bd d x.2),b3 (λc=>lh (x.2 c) bd (cg c) []) (Yu 1 (x.1-1)),aB.ez t [⟨0,-1,lim,0⟩] 1,ke bd top [],fA d (λ_=>0) n,F]) (λx=>8-x.1) (0,λ_=>0) am bG ((mS (f:=λc=>lh 0 bd (cg c) []) _).trans (bN (ao (bw (bN (ao (ao (a6 _)))))))) ?_;rintro⟨j,u⟩ aq a4;dsimp only[cx]at aq⊢;apply J [43];apply Vh rfl<;>intro a2;have H:j<8:=U
 have Z:=Lw H;apply J [56,25];refine q rfl rfl (N4 8 3 1 rfl rfl rfl rfl U U Z) ?_;apply J [173];by_cases Q:j=0;subst Q;have N:=Q6 t bd d u;have ah:=s5 0 t bd d u;refine J [593,77,11,137,11,89,433,15] ?_;apply au (SK bd);refine J [237,9,594,91] ?_;refine st (v:=.pointer _) (vs:=[_]) 1 rfl rfl rfl rfl rfl rfl (Vr rfl) rfl ?_;refine J [231,344] ?_;exact⟨rfl,(1,u),cB,cB,bG,ai⟩;have w:1<=j:=U
 have W:j∈cls:=by grind[we]
 refine J [593,77,11,137,11,89,433,15] ?_;apply bb (SL bd (cg j) (pn W).1);intro O _;refine J [238,9] ?_;have N:=Q5 (t:=t) (bd:=bd) (ar:=d) (x:=O) u H w;have ah:=s5 j t bd d u;refine J [594,91] ?_;refine st (v:=.pointer _) (vs:=[_]) 1 rfl rfl rfl rfl rfl rfl U N ?_;refine J [231,344] ?_;exact⟨rfl,(j+1,dK u j O),cB,cB,bG,(ao (cX 0 0 j rfl rfl (by dsimp only;rw[jy]) (λx aW=>by dsimp only;rw[jb _ _ (by have:=List.mem_range'_1.1 aW;omega)]) (by dsimp only;rw[RN j w];exact(We _ _).symm) ai))⟩;obtain rfl:j=8:=U
 have aL:dp (λ_=>([]:List cj)) []=[]:=by trivial
 letI:cZ:=⟨λ_=>d,λ_=>t⟩;apply J [19,37,110];exact bu (b,(⟨λ_=>d,λ_=>t⟩:cZ)) trivial (ay (dP.mk t bd ⟨d,rfl⟩ u:dP b) (dg.zero lim aQ) (by dsimp only[dt];rw[aL,<-av];exact ai))
variable [cZ]
theorem vh(s:Nat)(h:s<256):bt 77 [aa s] be [] (.bool true) []:=by apply aH Tryz.func77 Tryz.ntmps77;intro F _;refine J [8,246,268,476,204,132] ?_;exact b7.i () [_] ⟨rfl,trivial⟩ (congrArg Value.bool (da U)) trivial (ao (a6 _))
theorem te(l s:Nat)(h:s<256)(d:l<=1073741824):bt 79 [aa l,aa s] be [] (aa ((l+s %16*16:Nat):Int)) []:=by apply aH Tryz.func79 Tryz.ntmps79;intro F _;apply J [8,106,198];refine q rfl rfl (Wp (v:=((s %16:Nat):Int)) (pS rfl rfl U U) U) ?_;refine q rfl rfl (Wp (v:=((s %16*16:Nat):Int)) (ob rfl rfl U U) U) ?_;refine q rfl rfl (Wp (v:=((l+s %16*16:Nat):Int)) (hJ rfl rfl U U) U) ?_;apply J [30];exact j4
theorem B0(aS af:Nat)(d:Int)(t s:Nat)(h:s<256)(u:t<=1073741824):bt 121 [ae aS,aa s] be [aj aS 163 [ae af,aa d,aa t]] (aa ((t+s/16*8:Nat):Int)) [aj aS 163 [ae af,aa d,aa t]]:=by apply aH Tryz.func121 Tryz.ntmps121;intro F _;apply J [1,106,97,3];refine q rfl rfl (Wp (v:=((s/16:Nat):Int)) (ln rfl rfl U U U) U) ?_;refine q rfl rfl (Wp (v:=((s/16*8:Nat):Int)) (ob rfl rfl U U) U) ?_;refine q rfl rfl (Wp (v:=((t+s/16*8:Nat):Int)) (hJ rfl rfl U U) U) ?_;apply J [30];exact hH
theorem x2(aS af top:Nat)(C:Int)(t:Nat)(S:cT)(o:Nat)(h:o+8<=1024*2^top)(D:o %8=0):bt 80 [ae aS,aa o] be [aj aS 163 [ae af,aa C,aa t],e3 af top S] (bn (cV S.m o:Int)) [aj aS 163 [ae af,aa C,aa t],e3 af top S]:=by apply aH Tryz.func80 Tryz.ntmps80;intro F _;apply J [13];refine ab.open 1 rfl (λN H=>?_);obtain⟨cP,bd,d,w⟩:=N;have u:=H;apply J [223];dsimp only at u⊢;have E:=u.fX;have O:2^top<=128:=Vk (n:=2) am E.2;apply J [106,40,0];apply au (ll af cP bd d w);apply J [16,28];apply au (tH d (1024*2^top) o S.m U h D);apply J [16,275,173,133];exact eZ (eG (ay (dP.mk cP bd d w:dP af) u ai))
theorem td(aS af top:Nat)(d:Int)(t:Nat)(S:cT)(s:Nat)(hs:s<256)(u:t+128<=1024*2^top/\t %8=0/\top<=7)(w:cV S.m (t+s/16*8)<1073741824):bt 78 [ae aS,aa s] be [aj aS 163 [ae af,aa d,aa t],e3 af top S] (aa (cV S.m (t+s/16*8):Int)) [aj aS 163 [ae af,aa d,aa t],e3 af top S]:=by apply aH Tryz.func78 Tryz.ntmps78;intro F _;apply J [13];have C:2^top<=128:=Vk (n:=2) am u.2.2;apply J [106,37,164,28];apply au (B0 aS af d t s hs U);apply J [7,0];apply au (x2 aS af top d t S (t+s/16*8) U U);refine J [7,307,30] ?_;exact dn
end Go.Proofs.Q
namespace Go.Proofs.Q
open Go Go.QM
theorem DF{C:Nat->List cj}:∀{l:List Nat},(l.flatMap (hC C)).Nodup->l.Nodup->∀{c d p:Nat},c∈l->d∈l->p∈hC C c->p∈hC C d->c=d
 | [],_,_,_,_,_,h,_,_,_=>by cases h
 | x::l,an,V,c,d,p,P,Q,u,w=>by rw[VD]at an;obtain⟨ah,W,O⟩:=VI.1 an;obtain⟨Z,lj⟩:=Vy.1 V;rcases Vt.1 P with D|H<;>rcases Vt.1 Q with E|N;rw[D,E];subst D;exact absurd rfl (O p u p (Wc.2 ⟨d,N,w⟩));subst E;exact absurd rfl (O p w p (Wc.2 ⟨c,H,u⟩));exact DF W lj H N u w
variable{top:Nat}{S:cT}{c d:Nat}
theorem dg.LY(h:dg top S)(u:c∈cls)(w:d∈cls){p q:cj}(D:p∈S.C c)(E:q∈S.C d)(e:p.aD=q.aD):c=d:=
 DF (VI.1 h.bA).1 wg u w (Vq.2 ⟨p,D,rfl⟩) (Vq.2 ⟨q,E,e.symm⟩)
theorem Dq{many:Nat}{L:List cj}(h:ow many L){p q:cj}(N:p∈L)(O:q∈L)(e:p.aD=q.aD):p=q:=by obtain⟨i,E⟩:=Wb N;obtain⟨j,H⟩:=Wb O;obtain⟨u,w⟩:=Vo.1 E;obtain⟨C,D⟩:=Vo.1 H;have key:i=j:=(by rcases Nat.lt_trichotomy i j with d|d|d;have:=(WF.1 h.kl) i j u C d;rw[w,D]at this;omega;trivial;have:=(WF.1 h.kl) j i C u d;rw[w,D]at this;omega);simp_all
variable{a:Nat}
theorem fe.bd(u:dg top S)(d:c∈cls)(h:fe (cg c) (S.C c) a):a %16=0/\64<=a/\a+cg c<=1024*2^top:=by
 obtain⟨p,D,i,E,rfl⟩:=h;have w:=u.ok c d;have H:=w.place (w.inv.bd p D i E);have N:=u.lt p.aD (xz.2 (.inl ⟨c,d,p,D,rfl⟩));obtain⟨O,P⟩:=pn d;obtain⟨q,V⟩:∃q,cg c=16*q:=⟨cg c/16,by omega⟩;have Q:i*cg c=16*(i*q):=cr
 omega
variable{b:Nat}
theorem fe.apart(u:dg top S)(D:c∈cls)(E:d∈cls)(h:fe (cg c) (S.C c) a)(k:fe (cg d) (S.C d) b)(ah:c≠d\/a≠b):a+cg c<=b\/b+cg d<=a:=by obtain⟨p,H,i,Q,rfl⟩:=h;obtain⟨q,N,j,V,rfl⟩:=k;have W:=(u.ok c D).place ((u.ok c D).inv.bd p H i Q);have Z:=(u.ok d E).place ((u.ok d E).inv.bd q N j V);by_cases e:p.aD=q.aD;have O:=u.LY D E H N e;subst O;have P:=Dq (u.ok c D).inv H N e;subst P;rcases Nat.lt_trichotomy i j with w|w|w;have:=VT (cg c) (show i+1<=j from w);rw[V9]at this;omega;simp_all;have:=VT (cg c) (show j+1<=i from w);rw[V9]at this;omega;omega
theorem fe.frame(u:dg top S){p:Nat}(d:c∈cls)(h:fe (cg c) (S.C c) a)(E:p∉cls.flatMap (hC S.C)):a+cg c<=p*1024\/p*1024+1024<=a:=by obtain⟨q,w,i,D,rfl⟩:=h;have H:=(u.ok c d).place ((u.ok c d).inv.bd q w i D);have:q.aD≠p:=λe=>E (Wc.2 ⟨c,d,Vq.2 ⟨q,w,e⟩⟩);omega
theorem Ny{many aD i sz:Nat}{L L':List cj}(g:lA many L L' aD i)(h:ow many L)(hs:0<sz)(hm:many*sz<=960)(Q:i<many):¬fe sz L (aD*1024+64+i*sz):=by
 rintro⟨q,d,j,u,e⟩;have ba:i*sz+sz<=960:=by have:=VT sz (show i+1<=many from Q);rw[V9]at this;omega
 have bC:j*sz+sz<=960:=by have:=VT sz (show j+1<=many from h.bd q d j u);rw[V9]at this;omega
 have D:q.aD=aD:=U
 have E:i=j:=by grind[Nat.eq_of_mul_eq_mul_right]
 cases g with|old A B f w H C N=>(have V:(⟨aD,f⟩:cj)∈L:=by rw[w];simp);have:=Dq h d V D;subst this;subst E;dsimp only at u;rw[C]at u;cases u|new A B w H C N O P=>rw[w]at d;rcases Vg.1 d with d|d;have:=O q d;omega;have:=P q d;omega
theorem iU.fresh{y:Nat×Nat×List cj}(u:dg top S)(d:c∈cls)(g:iU top S c y):¬fe (cg c) (S.C c) (addr c y):=
 Ny g.m1 (u.ok c d).inv (by have:=pn d;omega) (u.ok c d).many.2.2 g.i
theorem iU.jN{y:Nat×Nat×List cj}(u:c∈cls)(g:iU top S c y):fe (cg d) (dK S.C c y.2.2 d) a↔fe (cg d) (S.C d) a\/(d=c/\a=addr c y):=by by_cases e:d=c;subst e;rw[jy,g.m1.jN (by have:=pn u;omega)];constructor;rintro(h|h);simp_all;exact .inr ⟨rfl,h⟩;rintro(h|⟨_,h⟩);simp_all;exact .inr h;grind[jb]
theorem iU.apart{y:Nat×Nat×List cj}(D:dg top S)(u:c∈cls)(g:iU top S c y)(E:d∈cls)(h:fe (cg d) (S.C d) a):a+cg d<=addr c y\/addr c y+cg c<=a:=
 fe.apart (g.inv S.Q S.bE S.m) E u ((g.jN u).2 (.inl h)) ((g.jN u).2 (.inr ⟨rfl,rfl⟩)) (by by_cases e:d=c;subst e;exact .inr λw=>g.fresh D u (w▸h);exact .inl e)
theorem jT.jN{aD i:Nat}{L':List cj}(w:dg top S)(u:c∈cls)(g:jT top S c aD i L')(h:fe (cg d) (S.C d) a)(D:d≠c\/a≠aD*1024+64+i*cg c):fe (cg d) (dK S.C c L' d) a:=by by_cases e:d=c;subst e;rw[jy];exact g.nm.jN (w.ok d u).inv (by have:=pn u;omega) h (D.resolve_left λh=>h rfl);grind[jb]
def bp(m:Nat->Nat)(t j:Nat):Nat:=cV m (t+j*8)
def d7(m:Nat->Nat)(t s:Nat):Nat:=if bp m t (s/16)=0 then 0 else cV m (bp m t (s/16)+s %16*16)
def dU(m:Nat->Nat)(t s:Nat):Nat:=if bp m t (s/16)=0 then 0 else cV m (bp m t (s/16)+s %16*16+8)
structure gg(top:Nat)(S:cT)(t:Nat):Prop where
  tk:fe 128 (S.C 2) t
  fG:∀j,j<16->bp S.m t j≠0->fe 256 (S.C 7) (bp S.m t j)
  bA:∀j k,j<16->k<16->j≠k->bp S.m t j≠0->bp S.m t j≠bp S.m t k
  ne:∀j,j<16->bp S.m t j≠0->∃i,i<16/\cV S.m (bp S.m t j+i*16)≠0
  J:∀j,j<16->bp S.m t j≠0->∀i,i<16->cV S.m (bp S.m t j+i*16)=0->cV S.m (bp S.m t j+i*16+8)=0
def J0(m:Nat->Nat)(t o:Nat):Prop:=(t<=o/\o+8<=t+128)\/∃j,j<16/\bp m t j≠0/\bp m t j<=o/\o+8<=bp m t j+256
variable{t:Nat}
theorem gg.b0(h:gg top S t){s:Nat}(hs:s<256)(e:d7 S.m t s=0):dU S.m t s=0:=by rw[d7]at e;rw[dU];by_cases d:bp S.m t (s/16)=0;rw[ax d];rw[al d]at e⊢;exact h.J _ U d _ U e
theorem c2:(2:Nat)∈cls:=by decide
theorem fM:(7:Nat)∈cls:=by decide
theorem gg.bd(d:dg top S)(h:gg top S t):t %16=0/\64<=t/\t+128<=1024*2^top:=fe.bd d c2 h.tk
theorem gg.rK(u:dg top S)(h:gg top S t){j:Nat}(w:j<16)(d:bp S.m t j≠0):bp S.m t j %16=0/\64<=bp S.m t j/\bp S.m t j+256<=1024*2^top:=fe.bd u fM (h.fG j w d)
theorem gg.nu{bc:cT}(h:gg top S t)(Q:fe 128 (bc.C 2) t)(W:∀j,j<16->bp S.m t j≠0->fe 256 (bc.C 7) (bp S.m t j))(hm:∀o,J0 S.m t o->cV bc.m o=cV S.m o):
 gg top bc t/\(∀j,j<16->bp bc.m t j=bp S.m t j)/\∀s,s<256->d7 bc.m t s=d7 S.m t s/\dU bc.m t s=dU S.m t s:=by
 have w:∀j,j<16->bp bc.m t j=bp S.m t j:=λj u=>hm _ (.inl ⟨by omega,by omega⟩);refine⟨⟨Q,λj u d=>?_,λj k u N V d=>?_,λj u d=>?_,λj u d i E D=>?_⟩,w,λs Z=>?_⟩;simp_all;rw[w j u]at d⊢;rw[w k N];exact h.bA j k u N V d;rw[w j u]at d⊢;obtain⟨i,E,D⟩:=h.ne j u d;exact⟨i,E,by rw[hm _ (.inr ⟨j,u,d,by omega,by omega⟩)];exact D⟩;rw[w j u]at d D⊢;have O:=hm (bp S.m t j+i*16) (.inr ⟨j,u,d,by omega,by omega⟩);have P:=hm (bp S.m t j+i*16+8) (.inr ⟨j,u,d,by omega,by omega⟩);rw[O]at D;rw[P];exact h.J j u d i E D;have H:s/16<16:=U
 rw[d7,d7,dU,dU,w _ H];by_cases d:bp S.m t (s/16)=0;simp_all;rw[al d,al d,al d,al d];exact⟨hm _ (.inr ⟨_,H,d,by omega,by omega⟩),hm _ (.inr ⟨_,H,d,by omega,by omega⟩)⟩
variable{o:Nat}
theorem mH{m:Nat->Nat}{d:Nat}(h:d+8<=o\/o+16<=d):cV (dB m o [a,b]) d=cV m d:=HM (L:=[a,b]) h
theorem tl{m:Nat->Nat}(h:a<2^64):cV (dB m o [a,b]) o=a:=BM (L:=[a,b]) (j:=0) rfl h
theorem B8{m:Nat->Nat}(h:b<2^64):cV (dB m o [a,b]) (o+8)=b:=BM (L:=[a,b]) (j:=1) rfl h
theorem q4{m:Nat->Nat}{d:Nat}(h:d+8<=o\/o+8<=d):cV (dB m o [a]) d=cV m d:=HM (L:=[a]) h
theorem B7{m:Nat->Nat}(h:a<2^64):cV (dB m o [a]) o=a:=BM (L:=[a]) (j:=0) rfl h
theorem gg.s9(P:dg top S)(h:gg top S t){s:Nat}(hs:s<256)(O:bp S.m t (s/16)≠0)(Q:a<2^64)(ah:b<2^64)(au:a=0->b=0)
 (W:a≠0\/∃i,i<16/\i≠s %16/\cV S.m (bp S.m t (s/16)+i*16)≠0) {bc:cT} (Z:bc.C=S.C) (hm:bc.m=dB S.m (bp S.m t (s/16)+s %16*16) [a,b]):
 gg top bc t/\(∀j,j<16->bp bc.m t j=bp S.m t j)/\d7 bc.m t s=a/\dU bc.m t s=b/\∀r,r<256->r≠s->d7 bc.m t r=d7 S.m t r/\dU bc.m t r=dU S.m t r:=by
 have H:s/16<16:=U
 have av:=h.bd P;have w:∀j,j<16->bp bc.m t j=bp S.m t j:=λj d=>(by have:=fe.apart P c2 fM h.tk (h.fG _ H O) (.inl am);have e:cg 2=128:=rfl;have ar:cg 7=256:=rfl;grind[bp,mH]);have hw:∀j i,j<16->i<16->bp S.m t j≠0->(j≠s/16\/i≠s %16)->cV bc.m (bp S.m t j+i*16)=cV S.m (bp S.m t j+i*16)/\cV bc.m (bp S.m t j+i*16+8)=cV S.m (bp S.m t j+i*16+8):=λj i d E u V=>(by rw[hm];by_cases e:j=s/16;grind[mH];have:=fe.apart P fM fM (h.fG j d u) (h.fG _ H O) (.inr (h.bA j _ d H e u));have ar:cg 7=256:=rfl;grind[mH]);refine⟨⟨by rw[Z];exact h.tk,λj d u=>?_,λj k d an V u=>?_,λj d u=>?_,λj d u i E D=>?_⟩,w,?_,?_,λr az aB=>?_⟩;rw[w j d]at u⊢;rw[Z];exact h.fG j d u;rw[w j d]at u⊢;rw[w k an];exact h.bA j k d an V u;rw[w j d]at u⊢;by_cases e:j=s/16;subst e;rcases W with W|⟨i,E,V,bL⟩;exact⟨s %16,by omega,by rw[hm,tl Q];exact W⟩;grind;obtain⟨i,E,bL⟩:=h.ne j d u;grind;rw[w j d]at u D⊢;by_cases e:j=s/16/\i=s %16;obtain⟨rfl,rfl⟩:=e;rw[hm,tl Q]at D;rw[hm,B8 ah];exact au D;have:=hw j i d E u U;rw[this.1]at D;rw[this.2];exact h.J j d u i E D;rw[d7,w _ H,al O,hm,tl Q];rw[dU,w _ H,al O,hm,B8 ah];have aq:r/16<16:=U
 rw[d7,d7,dU,dU,w _ aq];by_cases N:bp S.m t (r/16)=0;simp_all;rw[al N,al N,al N,al N];exact hw _ _ aq U N U
theorem gg.Sm(P:dg top S)(h:gg top S t){s:Nat}(hs:s<256)(av:bp S.m t (s/16)=0)(aW:a<2^64)(a2:b<2^64)(aB:a≠0){y:Nat×Nat×List cj}(g:iU top S 7 y)
 {bc:cT} (az:bc.C=dK S.C 7 y.2.2) (hm:bc.m=dB (dB (hf S.m (addr 7 y) 256) (t+s/16*8) [addr 7 y]) (addr 7 y+s %16*16) [a,b]):
 gg top bc t/\bp bc.m t (s/16)=addr 7 y/\(∀j,j<16->j≠s/16->bp bc.m t j=bp S.m t j)/\d7 bc.m t s=a/\dU bc.m t s=b/\(∀r,r<256->r≠s->d7 bc.m t r=d7 S.m t r/\dU bc.m t r=dU S.m t r)/\
  ∀i,i<16->i≠s %16->cV bc.m (addr 7 y+i*16)=0:=by
 have a8:s/16<16:=U
 have a5:=h.bd P;have V:cg 2=128:=rfl;have au:cg 7=256:=rfl;have a0:=g.apart P fM c2 h.tk;have aH:fe 256 (dK S.C 7 y.2.2 7) (addr 7 y):=(g.jN fM).2 (.inr ⟨rfl,rfl⟩);have a3:=fe.bd (g.inv S.Q S.bE S.m) fM aH;have bb:2^top<=128:=Vk (n:=2) am P.fX.2;generalize aQ:addr 7 y=A at*;rw[V,au]at a0;rw[au]at a3;have H:∀j,j<16->j≠s/16->bp bc.m t j=bp S.m t j:=λj d N=>(by rw[bp,hm,mH U,q4 U,At U];rfl);have E:bp bc.m t (s/16)=A:=by rw[bp,hm,mH U,B7 U]
 have aq:∀j,j<16->bp S.m t j≠0->bp S.m t j+256<=A\/A+256<=bp S.m t j:=λj d u=>(by have:=g.apart P fM fM (h.fG j d u);rw[aQ]at this;exact this);have a4:∀j,j<16->bp S.m t j≠0->t+128<=bp S.m t j\/bp S.m t j+256<=t:=λj d u=>fe.apart P c2 fM h.tk (h.fG j d u) (.inl am);have hw:∀j i,j<16->i<16->bp S.m t j≠0->cV bc.m (bp S.m t j+i*16)=cV S.m (bp S.m t j+i*16)/\cV bc.m (bp S.m t j+i*16+8)=cV S.m (bp S.m t j+i*16+8):=λj i d w u=>(by have g1:=aq j d u;have g2:=a4 j d u;rw[hm];exact⟨by rw[mH U,q4 U,At U],by rw[mH U,q4 U,At U]⟩);have ar:∀i,i<16->i≠s %16->cV bc.m (A+i*16)=0/\cV bc.m (A+i*16+8)=0:=λi w N=>(by rw[hm];exact⟨by rw[mH U,q4 U,w9 U U],by rw[mH U,q4 U,w9 U U]⟩);have Z:cV bc.m (A+s %16*16)=a/\cV bc.m (A+s %16*16+8)=b:=by rw[hm];exact⟨tl aW,B8 a2⟩
 have W:A≠0:=U
 refine⟨⟨by rw[az];exact(g.jN fM).2 (.inl h.tk),λj d u=>?_,λj k d ah N u=>?_,λj d u=>?_,λj d u i w O=>?_⟩,E,H,?_,?_,λr a9 N=>?_,λi w N=>(ar i w N).1⟩;rw[az];by_cases e:j=s/16;subst e;rw[E];exact aH;rw[H j d e]at u⊢;exact(g.jN fM).2 (.inl (h.fG j d u));by_cases e:j=s/16;subst e;rw[E,H k ah (λe=>N e.symm)];intro an;have:=aq k ah U;omega;rw[H j d e]at u⊢;by_cases an:k=s/16;subst an;rw[E];have:=aq j d u;omega;rw[H k ah an];exact h.bA j k d ah N u;by_cases e:j=s/16;subst e;rw[E];exact⟨s %16,by omega,by rw[Z.1];exact aB⟩;rw[H j d e]at u⊢;obtain⟨i,w,bL⟩:=h.ne j d u;exact⟨i,w,by rw[(hw j i d w u).1];exact bL⟩;by_cases e:j=s/16;subst e;rw[E]at O⊢;by_cases V:i=s %16;subst V;rw[Z.1]at O;exact absurd O aB;exact(ar i w V).2;rw[H j d e]at u O⊢;rw[(hw j i d w u).1]at O;rw[(hw j i d w u).2];exact h.J j d u i w O;rw[d7,E,al W];exact Z.1;rw[dU,E,al W];exact Z.2;have aL:r/16<16:=U
 rw[d7,d7,dU,dU];by_cases e:r/16=s/16;rw[e,E,al W,al W,ax av,ax av];exact ar _ U U;rw[H _ aL e];by_cases D:bp S.m t (r/16)=0;rw[ax D,ax D,ax D,ax D];exact⟨rfl,rfl⟩;rw[al D,al D,al D,al D];exact hw _ _ aL U D
theorem gg.K9(P:dg top S)(h:gg top S t){s aD i0:Nat}{L':List cj}(hs:s<256)(V:bp S.m t (s/16)≠0)(av:∀i,i<16->i≠s %16->cV S.m (bp S.m t (s/16)+i*16)=0)
 (ar:bp S.m t (s/16)=aD*1024+64+i0*256) (g:jT top S 7 aD i0 L') {bc:cT} (ah:bc.C=dK S.C 7 L') (hm:bc.m=dB (dB S.m (bp S.m t (s/16)+s %16*16) [0,0]) (t+s/16*8) [0]):
 gg top bc t/\bp bc.m t (s/16)=0/\(∀j,j<16->j≠s/16->bp bc.m t j=bp S.m t j)/\d7 bc.m t s=0/\∀r,r<256->r≠s->d7 bc.m t r=d7 S.m t r/\(d7 S.m t r≠0->dU bc.m t r=dU S.m t r):=by
 have Q:s/16<16:=U
 have aq:∀j,j<16->bp S.m t j≠0->t+128<=bp S.m t j\/bp S.m t j+256<=t:=λj u d=>fe.apart P c2 fM h.tk (h.fG j u d) (.inl am);have au:∀j,j<16->j≠s/16->bp S.m t j≠0->bp S.m t j+256<=bp S.m t (s/16)\/bp S.m t (s/16)+256<=bp S.m t j:=λj u H d=>fe.apart P fM fM (h.fG j u d) (h.fG _ Q V) (.inr (h.bA j _ u Q H d));have aB:=aq _ Q V;have N:∀j,j<16->j≠s/16->bp bc.m t j=bp S.m t j:=λj u H=>(by rw[bp,hm,q4 U,mH U];rfl);have D:bp bc.m t (s/16)=0:=by rw[bp,hm,B7 U]
 have hw:∀j i,j<16->j≠s/16->i<16->bp S.m t j≠0->cV bc.m (bp S.m t j+i*16)=cV S.m (bp S.m t j+i*16)/\cV bc.m (bp S.m t j+i*16+8)=cV S.m (bp S.m t j+i*16+8):=λj i u H E d=>(by have g1:=au j u H d;have g2:=aq j u d;rw[hm];exact⟨by rw[q4 U,mH U],by rw[q4 U,mH U]⟩);refine⟨⟨by rw[ah];exact g.jN P fM h.tk (.inl am),λj u d=>?_,λj k u an H d=>?_,λj u d=>?_,λj u d i E W=>?_⟩,D,N,by rw[d7,ax D],λr aH H=>?_⟩;have e:j≠s/16:=λe=>by subst e;exact d D
 rw[N j u e]at d⊢;rw[ah];exact g.jN P fM (h.fG j u d) (.inr λO=>h.bA j _ u Q e d (by rw[ar];exact O));have e:j≠s/16:=λe=>by subst e;exact d D
 rw[N j u e]at d⊢;by_cases O:k=s/16;subst O;rw[D];exact d;rw[N k an O];exact h.bA j k u an H d;have e:j≠s/16:=λe=>by subst e;exact d D
 rw[N j u e]at d⊢;obtain⟨i,E,bL⟩:=h.ne j u d;exact⟨i,E,by rw[(hw j i u e E d).1];exact bL⟩;have e:j≠s/16:=λe=>by subst e;exact d D
 rw[N j u e]at d W⊢;rw[(hw j i u e E d).1]at W;rw[(hw j i u e E d).2];exact h.J j u d i E W;have Z:r/16<16:=U
 rw[d7,d7,dU,dU];by_cases e:r/16=s/16;have az:=av (r %16) U U;rw[e,ax D,al V,az];exact⟨rfl,λh=>absurd rfl h⟩;rw[N _ Z e];by_cases w:bp S.m t (r/16)=0;rw[ax w,ax w,ax w,ax w];exact⟨rfl,λ_=>rfl⟩;rw[al w,al w,al w,al w];exact⟨(hw _ _ Z e U w).1,λ_=>(hw _ _ Z e U w).2⟩
end Go.Proofs.Q
namespace Go.Proofs.Q
open Go Go.QM
variable [cZ]
theorem Mi{m:Nat->Nat}{t s:Nat}(h:bp m t (s/16)≠0):d7 m t s=cV m (bp m t (s/16)+s %16*16)/\dU m t s=cV m (bp m t (s/16)+s %16*16+8):=⟨al h,al h⟩
theorem Mh{m:Nat->Nat}{t s:Nat}(h:bp m t (s/16)=0):d7 m t s=0/\dU m t s=0:=⟨ax h,ax h⟩
theorem jT.rV{top:Nat}{S bc:cT}{c aD i:Nat}{L':List cj}(g:jT top S c aD i L')(zS:S.C=bc.C:=by rfl)(EA:S.Fr=bc.Fr:=by rfl):jT top bc c aD i L':=⟨by rw[<-zS];exact g.nm,λQ bE m=>by rw[<-zS,<-EA];exact g.inv Q bE m,by rw[<-zS,<-EA];exact g.len⟩
theorem S9(af top:Nat)(d:Int)(t:Nat)(S:cT)(H:dg top S)(E:fe 128 (S.C 2) t):bK 28 [ae af,aa d,aa t] c5 [e3 af top S] (λaS:Nat=>ae aS) (λ_=>True) (λaS=>[aj aS 163 [ae af,aa d,aa t],e3 af top S]):=by apply aH Tryz.func28 Tryz.ntmps28;intro F u;apply J [1];haveI:cw F:=⟨u⟩;obtain⟨k,aD,i,f,D,w,rfl⟩:=E.at;apply J [131,32];apply au (Bk af top S 2 c2 k aD i f D w);refine J [5,90,100,35,3,595,0,308] ?_;intro ba;apply J [110];exact bu ba trivial ai
theorem r1(aS af top:Nat)(d:Int)(t:Nat)(S:cT)(w:dg top S)(E:gg top S t)(s:Nat)(hs:s<256):bt 30 [ae aS,aa s] be [aj aS 163 [ae af,aa d,aa t],e3 af top S] (.tuple #[bn (d7 S.m t s:Int),bn (dU S.m t s:Int)]) [aj aS 163 [ae af,aa d,aa t],e3 af top S]:=by
 apply aH Tryz.func30 Tryz.ntmps30;intro F _;apply J [13];have P:=E.bd w;have N:=w.fX;have V:2^top<=128:=Vk (n:=2) am N.2;have O:s/16<16:=U
 have H:cV S.m (t+s/16*8)<1073741824:=(by by_cases u:bp S.m t (s/16)=0;rw[show cV S.m (t+s/16*8)=0 from u];decide;have:=E.rK w O u;rw[show cV S.m (t+s/16*8)=bp S.m t (s/16)from rfl];omega);apply J [24,243,254,280];apply au (vh s hs);apply J [7,319,41,301,280];apply au (td aS af top d t S s hs ⟨P.2.2,by omega,N.2⟩ H);apply J [7];rw[show cV S.m (t+s/16*8)=bp S.m t (s/16)from rfl]at H⊢;apply J [158,109];apply Vh rfl<;>intro u;obtain⟨C,D⟩:=Mh (m:=S.m) (t:=t) (s:=s) U;rw[C,D];apply J [24,348];exact hI ai;have u:bp S.m t (s/16)≠0:=U
 obtain⟨C,D⟩:=Mi (m:=S.m) u;have Q:=E.rK w O u;rw[C,D];apply J [4,32];apply au (td aS af top d t S s hs ⟨P.2.2,by omega,N.2⟩ H);apply J [7];rw[show cV S.m (t+s/16*8)=bp S.m t (s/16)from rfl];apply J [28];apply au (te (bp S.m t (s/16)) s hs U);apply J [7,27,32];apply au (x2 aS af top d t S (bp S.m t (s/16)+s %16*16) U U);apply J [7,164,3];refine q rfl rfl (Wp (v:=((bp S.m t (s/16)+s %16*16+8:Nat):Int)) (hJ rfl rfl U U) U) ?_;refine e rfl ?_;apply au (x2 aS af top d t S (bp S.m t (s/16)+s %16*16+8) U U);apply J [7,96];exact hI ai
theorem B1(aS af top:Nat)(w:Int)(t:Nat)(S:cT)(d:dg top S)(E:gg top S t)(s:Nat)(hs:s<256)(a b:Nat)(av:a<2^64)(aL:b<2^64)(aB:a≠0)(V:bp S.m t (s/16)≠0):bt 165 [ae aS,aa s,bn a,bn b] be [aj aS 163 [ae af,aa w,aa t],e3 af top S] (aa 0) [aj aS 163 [ae af,aa w,aa t],e3 af top ⟨S.Q,S.bE,S.C,S.Fr,dB S.m (bp S.m t (s/16)+s %16*16) [a,b]⟩]:=by
 apply aH Tryz.func165 Tryz.ntmps165;intro F _;apply J [13];have an:=E.bd d;have O:=d.fX;have aW:2^top<=128:=Vk (n:=2) am O.2;have ah:s/16<16:=U
 have aQ:=E.rK d ah V;have Z:cV S.m (t+s/16*8)<1073741824:=by grind[bp]
 apply J [36,75,101,191,142];apply au (vh s hs);apply J [7,266,25,174];refine Vh rfl (λH=>absurd H U) (λH=>?_);apply J [22,32];apply au (td aS af top w t S s hs ⟨an.2.2,by omega,O.2⟩ Z);apply J [7];rw[show cV S.m (t+s/16*8)=bp S.m t (s/16)from rfl];apply J [31,171];refine Vh rfl (λN=>absurd N U) (λN=>?_);refine ab.open 1 rfl (λar aq=>?_);obtain⟨cP,bd,u,D⟩:=ar;have d:=aq;apply J [223];dsimp only at d⊢;apply J [4,40,0];apply au (ll af cP bd u D);apply J [16,208];apply au (te (bp S.m t (s/16)) s hs U);refine J [16,208,294] ?_;intro bC;refine e rfl ?_;apply ew (lH u (1024*2^top) (bp S.m t (s/16)+s %16*16) S.m [a,b] (cJ bC) 2 U cG jq U (by intro x P;simp only[Vt,Vp,or_false]at P;rcases P with rfl|rfl<;>assumption)) ⟨_,bj.rd (ad:=some ⟨bC,0,none⟩)⟩;apply J [78,30];have W:dg top ⟨S.Q,S.bE,S.C,S.Fr,dB S.m (bp S.m t (s/16)+s %16*16) [a,b]⟩:=by grind[dg]
 exact eZ (bM 6 rfl (ay (dP.mk cP bd u D:dP af) W ai))
def u4(S:cT)(Mw:Int)(t s a b:Nat):Option (Nat×Nat×List cj)->cT
  | some y=>⟨(aB.df S.Q Mw (cg 7:Int)).1,S.bE,dK S.C 7 y.2.2,S.Fr,dB (dB (hf S.m (addr 7 y) 256) (t+s/16*8) [addr 7 y]) (addr 7 y+s %16*16) [a,b]⟩
  | none=>S
theorem Tz(aS af top:Nat)(d:Int)(t:Nat)(S:cT)(W:dg top S)(aL:gg top S t)(s:Nat)(hs:s<256)(a b:Nat)(be:a<2^64)(bi:b<2^64)(bf:a≠0)(P:bp S.m t (s/16)=0):bK 165 [ae aS,aa s,bn a,bn b] c5 [aj aS 163 [ae af,aa d,aa t],e3 af top S] (λy:Option (Nat×Nat×List cj)×Int=>aa y.2) (λy=>Cy top S d 7 y) (λy=>[aj aS 163 [ae af,aa d,aa t],e3 af top (u4 S d t s a b y.1)]):=by
 apply aH Tryz.func165 Tryz.ntmps165;intro F aq;apply J [13];haveI:cw F:=⟨aq⟩;have a3:=aL.bd W;have an:=W.fX;have bt:2^top<=128:=Vk (n:=2) am an.2;have bl:s/16<16:=U
 have aW:cV S.m (t+s/16*8)<1073741824:=by rw[show cV S.m (t+s/16*8)=0 from P];decide
 apply J [36,75,101,191,142];apply au (vh s hs);apply J [7,266,25,174];refine Vh rfl (λZ=>absurd Z U) (λZ=>?_);apply J [22,32];apply au (td aS af top d t S s hs ⟨a3.2.2,by omega,an.2⟩ aW);apply J [7];rw[show cV S.m (t+s/16*8)=0 from P];apply J [31,171,20,6];refine cD [0,1,2,3,4,5,6,7,-8,9,10,11,12,13] (ao (a6 _)) ?_;apply J [50,137,15];apply bb (uQ af top S d 7 fM);intro⟨a9,ct⟩ H;refine J [239,9] ?_;cases a9 with|none=>?_|some y=>?_
 dsimp only[pf,kd];apply J [149,281,271,6,34];refine Vh rfl (λah=>?_) (λah=>absurd (H.1) ah);apply J [135];refine ab.ret (rt (rt ?_));exact bu (none,ct) H ai;obtain⟨rfl,a2,cH⟩:=H;dsimp only[pf,kd];have a0:fe 256 (dK S.C 7 y.2.2 7) (addr 7 y):=(cH.jN fM).2 (.inr ⟨rfl,rfl⟩);have aQ:=fe.bd (cH.inv (aB.df S.Q d (cg 7:Int)).1 S.bE (hf S.m (addr 7 y) 256)) fM a0;have O:cg 7=256:=rfl;rw[O]at aQ;rw[O];have bc:=cH.inv (aB.df S.Q d (cg 7:Int)).1 S.bE (hf S.m (addr 7 y) 256);have ar:=λa5=>cH.inv (aB.df S.Q d (cg 7:Int)).1 S.bE a5;generalize V:addr 7 y=u at*;apply J [149,281,271,6,211,135,39,53];refine aY.open 0 rfl (λa8 a4=>?_);obtain⟨cP,bd,w,E⟩:=a8;have av:=a4;apply J [16];dsimp only at av⊢;refine e rfl ?_;apply au (ll af cP bd w E);apply J [16,164,28];apply au (B0 aS af d t s hs U);refine J [16,3,306,0,152] ?_;intro ch;refine e rfl ?_;apply ew (lH w (1024*2^top) (t+s/16*8) (hf S.m u 256) [u] (cJ ch) 1 U cG jq U (by intro x D;simp only[Vt,Vp,or_false]at D;subst D;omega)) ⟨_,bj.rd (ad:=some ⟨ch,0,none⟩)⟩;apply J [78,2,40,0];apply au (ll af cP bd w E);apply J [78,208];apply au (te u s hs U);refine J [78,208,294] ?_;intro N;refine e rfl ?_;apply ew (lH w (1024*2^top) (u+s %16*16) (dB (hf S.m u 256) (t+s/16*8) [u]) [a,b] (cJ N) 2 U cG jq U (by intro x D;simp only[Vt,Vp,or_false]at D;rcases D with rfl|rfl<;>assumption)) ⟨_,bj.rd (ad:=some ⟨N,0,none⟩)⟩;apply J [21,30];exact bu (some y,0) (by subst V;exact⟨rfl,a2,cH⟩) (by subst V;exact(eK (ay (dP.mk cP bd w E:dP af) (ar _) ai)))
theorem H1(aS af top:Nat)(d:Int)(t:Nat)(S:cT)(l:Nat)(P:l+256<=1024*2^top)(Q:l %8=0)(H:top<=7)(em:Bool)(he:em=true↔∀i,i<16->cV S.m (l+i*16)=0):bt 288 [ae aS,aa l] be [aj aS 163 [ae af,aa d,aa t],e3 af top S] (.bool em) [aj aS 163 [ae af,aa d,aa t],e3 af top S]:=by
 apply aH Tryz.func288 Tryz.ntmps288;intro F _;apply J [13];have W:2^top<=128:=Vk (n:=2) am H;apply J [128,130,183];refine VQ (ι:=Nat) (λi=>i<=16/\∀j,j<i->cV S.m (l+j*16)=0) (λi=>[(0,ae aS),(1,aa l),(6,aa ((i:Nat):Int))]) (λi=>ag [aj aS 163 [ae af,aa d,aa t],e3 af top S,F]) (λi=>16-i) 0 ⟨by omega,λj h=>by omega⟩ bG (ao (ao (ao (a6 _)))) ?_;rintro i ⟨E,u⟩ Z;dsimp only[cx]at E u⊢;apply J [43];apply Vh rfl<;>intro V;have N:i<16:=U
 have C:i %16=i:=U
 apply J [56,135,35,28];apply au (te l i U U);apply J [7];rw[C];refine e rfl ?_;apply au (x2 aS af top d t S (l+i*16) U U);apply J [7,93,2];apply Vh rfl<;>intro w;have hv:em=false:=cr;rw[hv];apply J [128,165];exact dn;have w:cV S.m (l+i*16)=0:=U
 refine J [114] ?_;exact⟨rfl,(i+1),⟨by omega,λj O=>by by_cases D:j=i;subst D;exact w;exact u j U⟩,U,⟨rfl,rfl,rfl,trivial⟩,ai⟩;obtain rfl:i=16:=by omega
 rw[he.2 u];apply J [19,24,66];exact dn
theorem Tc(aS af top:Nat)(d:Int)(t:Nat)(S:cT)(u:dg top S)(D:gg top S t)(s:Nat)(hs:s<256)(W:bp S.m t (s/16)≠0)(a2:d7 S.m t s≠0)(aQ:∃i,i<16/\i≠s %16/\cV S.m (bp S.m t (s/16)+i*16)≠0):bt 226 [ae aS,aa s] c5 [aj aS 163 [ae af,aa d,aa t],e3 af top S] (aa 0) [aj aS 163 [ae af,aa d,aa t],e3 af top ⟨S.Q,S.bE,S.C,S.Fr,(dB S.m (bp S.m t (s/16)+s %16*16) [0,0])⟩]:=by
 apply aH Tryz.func226 Tryz.ntmps226;intro F Z;apply J [13];haveI:cw F:=⟨Z⟩;have aB:=D.bd u;have E:=u.fX;have a3:2^top<=128:=Vk (n:=2) am E.2;have av:s/16<16:=U
 have an:=D.rK u av W;have aq:cV S.m (t+s/16*8)<1073741824:=by grind[bp]
 have ah:∀aW,dg top ⟨S.Q,S.bE,S.C,S.Fr,aW⟩:=by grind[dg]
 apply J [36,32];apply au (r1 aS af top d t S u D s hs);apply J [7,275,173,75,101,191,142];apply au (vh s hs);apply J [7,266,25,174];refine Vh rfl (λO=>absurd O U) (λO=>?_);apply J [22,32];apply au (td aS af top d t S s hs ⟨aB.2.2,by omega,E.2⟩ aq);apply J [7];rw[show cV S.m (t+s/16*8)=bp S.m t (s/16)from rfl];refine aY.open 1 rfl (λa0 aL=>?_);obtain⟨cP,bd,w,N⟩:=a0;have u:=aL;apply J [16];dsimp only at u⊢;apply J [27,40,0];apply au (ll af cP bd w N);apply J [16,208];apply au (te (bp S.m t (s/16)) s hs U);refine J [16,0,294] ?_;intro H;refine e rfl ?_;apply ew (lH w (1024*2^top) (bp S.m t (s/16)+s %16*16) S.m [0,0] (cJ H) 2 U cG jq U (by intro x V;simp only[Vt,Vp,or_false]at V;rcases V with rfl|rfl<;>decide)) ⟨_,bj.rd (ad:=some ⟨H,0,none⟩)⟩;apply J [78,29,35];refine aY.bk (B:=ag [aj aS 163 [ae af,aa d,aa t],e3 af top ⟨S.Q,S.bE,S.C,S.Fr,(dB S.m (bp S.m t (s/16)+s %16*16) [0,0])⟩,F]) (bM 6 rfl (ay (dP.mk cP bd w N:dP af) (ah _) ai)) ?_;have hw:∀i,i<16->i≠s %16->cV (dB S.m (bp S.m t (s/16)+s %16*16) [0,0]) (bp S.m t (s/16)+i*16)=cV S.m (bp S.m t (s/16)+i*16):=by grind[mH]
 have a4:cV (dB S.m (bp S.m t (s/16)+s %16*16) [0,0]) (bp S.m t (s/16)+s %16*16)=0:=by grind[tl]
 have he:false=true↔∀i,i<16->cV (dB S.m (bp S.m t (s/16)+s %16*16) [0,0]) (bp S.m t (s/16)+i*16)=0:=⟨λh=>(by cases h),λh=>by obtain⟨i,P,ar,bL⟩:=aQ;exact absurd (by rw[<-hw i P ar];exact h i P) bL⟩;refine e rfl ?_;apply au (H1 aS af top d t ⟨S.Q,S.bE,S.C,S.Fr,(dB S.m (bp S.m t (s/16)+s %16*16) [0,0])⟩ (bp S.m t (s/16)) an.2.2 U E.2 false he);apply J [7,100,199];exact dn
theorem Tb(aS af top:Nat)(d:Int)(t:Nat)(S:cT)(w:dg top S)(H:gg top S t)(s:Nat)(hs:s<256)(aq:bp S.m t (s/16)≠0)(be:d7 S.m t s≠0)(k aD i0:Nat)(f:Nat->Bool)(aQ:(S.C 7)[k]? =some ⟨aD,f⟩)(aL:f i0=true)(aW:bp S.m t (s/16)=aD*1024+64+i0*256)(a9:∀i,i<16->i≠s %16->cV S.m (bp S.m t (s/16)+i*16)=0)(a4:(aB.ep S.Q d (cg 7:Int)).2=0):bK 226 [ae aS,aa s] c5 [aj aS 163 [ae af,aa d,aa t],e3 af top S] (λ_:List cj=>aa 0) (λL'=>jT top S 7 aD i0 L') (λL'=>[aj aS 163 [ae af,aa d,aa t],e3 af top ⟨(aB.ep S.Q d (cg 7:Int)).1,S.bE,dK S.C 7 L',S.Fr,(dB (dB S.m (bp S.m t (s/16)+s %16*16) [0,0]) (t+s/16*8) [0])⟩]):=by
 apply aH Tryz.func226 Tryz.ntmps226;intro F ar;apply J [13];haveI:cw F:=⟨ar⟩;have a5:=H.bd w;have N:=w.fX;have bf:2^top<=128:=Vk (n:=2) am N.2;have a3:s/16<16:=U
 have a0:=H.rK w a3 aq;have a2:cV S.m (t+s/16*8)<1073741824:=by grind[bp]
 have Z:∀bb,dg top ⟨S.Q,S.bE,S.C,S.Fr,bb⟩:=by grind[dg]
 apply J [36,32];apply au (r1 aS af top d t S w H s hs);apply J [7,275,173,75,101,191,142];apply au (vh s hs);apply J [7,266,25,174];refine Vh rfl (λah=>absurd ah U) (λah=>?_);apply J [22,32];apply au (td aS af top d t S s hs ⟨a5.2.2,by omega,N.2⟩ a2);apply J [7];rw[show cV S.m (t+s/16*8)=bp S.m t (s/16)from rfl];refine aY.open 1 rfl (λP O=>?_);obtain⟨cP,bd,u,D⟩:=P;have w:=O;apply J [16];dsimp only at w⊢;apply J [27,40,0];apply au (ll af cP bd u D);apply J [16,208];apply au (te (bp S.m t (s/16)) s hs U);refine J [16,0,294] ?_;intro V;refine e rfl ?_;apply ew (lH u (1024*2^top) (bp S.m t (s/16)+s %16*16) S.m [0,0] (cJ V) 2 U cG jq U (by intro x E;simp only[Vt,Vp,or_false]at E;rcases E with rfl|rfl<;>decide)) ⟨_,bj.rd (ad:=some ⟨V,0,none⟩)⟩;apply J [78,29,35];refine aY.bk (B:=ag [aj aS 163 [ae af,aa d,aa t],e3 af top ⟨S.Q,S.bE,S.C,S.Fr,(dB S.m (bp S.m t (s/16)+s %16*16) [0,0])⟩,F]) (bM 6 rfl (ay (dP.mk cP bd u D:dP af) (Z _) ai)) ?_;have hw:∀i,i<16->i≠s %16->cV (dB S.m (bp S.m t (s/16)+s %16*16) [0,0]) (bp S.m t (s/16)+i*16)=cV S.m (bp S.m t (s/16)+i*16):=by grind[mH]
 have a8:cV (dB S.m (bp S.m t (s/16)+s %16*16) [0,0]) (bp S.m t (s/16)+s %16*16)=0:=by grind[tl]
 have he:true=true↔∀i,i<16->cV (dB S.m (bp S.m t (s/16)+s %16*16) [0,0]) (bp S.m t (s/16)+i*16)=0:=⟨λ_ i an=>by by_cases e:i=s %16;rw[e];exact a8;rw[hw i an e];exact a9 i an e,λ_=>rfl⟩;refine e rfl ?_;apply au (H1 aS af top d t ⟨S.Q,S.bE,S.C,S.Fr,(dB S.m (bp S.m t (s/16)+s %16*16) [0,0])⟩ (bp S.m t (s/16)) a0.2.2 U N.2 true he);apply J [7,2,20];refine ab.open 1 rfl (λP O=>?_);obtain⟨cP,bd,u,D⟩:=P;have av:=O;apply J [223];dsimp only at av⊢;apply J [40,0];apply au (ll af cP bd u D);apply J [16,164,28];apply au (B0 aS af d t s hs U);refine J [16,0,152] ?_;intro W;refine e rfl ?_;apply ew (lH u (1024*2^top) (t+s/16*8) (dB S.m (bp S.m t (s/16)+s %16*16) [0,0]) [0] (cJ W) 1 U cG jq U (by intro x E;simp only[Vt,Vp,or_false]at E;subst E;decide)) ⟨_,bj.rd (ad:=some ⟨W,0,none⟩)⟩;apply J [78,2];refine WI (B:=ag [aj aS 163 [ae af,aa d,aa t],e3 af top ⟨S.Q,S.bE,S.C,S.Fr,(dB (dB S.m (bp S.m t (s/16)+s %16*16) [0,0]) (t+s/16*8) [0])⟩,F]) (bw (ay (dP.mk cP bd u D:dP af) (Z _) ai)) ?_;refine cD [0,1,2,3,4,5,6,7,8,-9] (ao (a6 _)) ?_;apply J [50,137,11];have bc:cg 7=256:=rfl;refine dY rfl rfl ?_;refine aK (uR af top ⟨S.Q,S.bE,S.C,S.Fr,(dB (dB S.m (bp S.m t (s/16)+s %16*16) [0,0]) (t+s/16*8) [0])⟩ 7 fM k aD i0 f aQ aL d a4) (congrArg (λz:Nat=>[Ym (some ⟨af,0,none⟩),.int .i64 d,.int .i64 7,.int .i64 ((z:Nat):Int)]) aW) eD.p cw.aV ?_;intro L' cH;refine J [239,113,199] ?_;exact bu L' cH.rV ai
end Go.Proofs.Q
namespace Go.Proofs.Q.aq
open Go Go.QM
structure fc where
  k:Int
  a:Int
  f:Int
def fc.l(o:fc):List Int:=[o.k,o.a,o.f]
structure bW where
  o:fc
  st:Int
  c3:Int
def ou:bW:=⟨⟨0,0,0⟩,0,0⟩
def xA(p:bW):List Value:=ints p.o.l++[.int .i64 p.st,.int .u32 p.c3]
theorem kj(p:bW):(xA p).length=5:=rfl
def fs(l:List bW):List Value:=l.flatMap xA
theorem HT(l:List bW):(fs l).length=l.length*5:=kc kj l
theorem S5{l:List bW}{i:Nat}{p:bW}(h:l[i]? =some p):0<(fs l).length:=by grind[HT]
structure dO(l:List bW):Prop where
  n:l.length=256
  c3:∀p∈l,0<=p.c3/\p.c3<=1048575
theorem dO.at{l:List bW}(h:dO l){i:Nat}(u:i<256):∃p,l[i]? =some p/\0<=p.c3/\p.c3<=1048575:=by
 have d:i<l.length:=by rw[h.n];exact u
 exact⟨l[i],Ve d,h.c3 _ (List.getElem_mem d)⟩
theorem pM:bK 126 [] be [] (λb:Nat=>ae b) (λ_=>True) (λb=>[aX 264 5 (cJ b) 256 256 (fs (Vw 256 ou))]):=by apply aH Tryz.func126 Tryz.ntmps126;intro F _;apply J [8,170,24];refine q rfl rfl (ek (cs:=fs (Vw 256 ou)) a1) ?_;refine e rfl ?_;refine e0 (v:=.agg (Vz (fs (Vw 256 ou)))) (l:=fs (Vw 256 ou)) rfl a1 ?_;intro ba;apply J [110];exact bu ba trivial (eN 0 rfl (SF a1 am) (ao (a6 _)))
theorem xi(b:Nat)(l:List bW)(i:Nat)(p:bW)(u:l[i]? =some p)(C:i<256)(w:0<=p.c3/\p.c3<=16777215):bt 151 [ae b,aa i] (λF=>∃E,cN F E (cJ b) (fs l)) [] (aT (p.c3*256+i)) []:=by apply aH Tryz.func151 Tryz.ntmps151;intro F ⟨E,d⟩;apply J [8];haveI:bj F (cJ b) E (fs l):=⟨d⟩;refine J [106,35,477,393,596] ?_;refine q rfl rfl (n3 4 rfl rfl) ?_;refine q rfl rfl (dk rfl rfl (pz kj u 4 U rfl)) ?_;refine q rfl rfl (BG rfl rfl U (Sr U U)) ?_;refine J [3,478] ?_;refine q rfl rfl (Bb rfl rfl (QN U U U U)) ?_;apply J [30];exact j4
theorem Rb(p:bW):bt 184 [.agg (xA p).toArray] be [] (.bool (decide (p.st=0))) []:=by apply aH Tryz.func184 Tryz.ntmps184;intro F _;refine J [196,529] ?_;intro bC;apply J [38,24,248,290,66];exact eZ (bN (a6 _))
end Go.Proofs.Q.aq
namespace Go.Proofs.Q.aq
open Go Go.QM
theorem z1(ad:Option Addr)(cap:Nat)(l:List bW)(gv:FuncId)(lb:List Value)(pr:bW->Bool)(C:av->Prop)(V:l.length<=100000000)(N:∀t,bt gv ([.agg (xA t).toArray]++lb) C [] (.bool (pr t)) []):eQ VS 183 [.slice ad l.length cap,.func (.func gv) #[] lb.toArray] (λF=>(∃E,cN F E ad (fs l))/\C (ag [F])) [] (λ_:Unit=>aa (match l.findIdx? pr with|some i=>(i:Int)|none=>-1)) (λ_=>True) (λ_=>[]):=by
 apply aH Tryz.func183 Tryz.ntmps183;intro F ⟨⟨E,D⟩,H⟩;apply J [8];haveI:bj F ad E (fs l):=⟨D⟩;apply J [36,33];refine q rfl rfl (len 210 5 rfl rfl) ?_;refine J [112,532] ?_;rintro k ⟨hinv,eF⟩ W;dsimp only[cx]at hinv eF⊢;apply J [43];apply Vh rfl<;>intro w;have w:k<l.length:=U
 obtain⟨t,d⟩:∃t,l[k]? =some t:=⟨l[k],Ve w⟩;have Q:=S5 d;apply J [56,135,24,302,86,3];refine q rfl rfl (gN 210 5 rfl rfl rfl U dQ) ?_;refine q rfl rfl (gp (vs:=[_,_,_,_,_]) 5 rfl rfl (mY kj d) rfl am) ?_;refine e rfl ?_;refine kw (N t) rfl rfl (eC _) H ?_;intro _ _;apply J [148,2];cases P:pr t with|true=>?_|false=>?_
 apply J [210,165];have aA:l.findIdx? pr=some k:=by grind[ub]
 exact vr;refine J [72,114] ?_;exact⟨rfl,(k+1),⟨by omega,λj u O hu=>by rcases Nat.lt_succ_iff_lt_or_eq.1 O with h|h;exact eF j u h hu;subst h;rw[d]at hu;cases hu;exact P⟩,U,bG,(ao (a6 _))⟩;obtain rfl:k=l.length:=by omega
 have aA:l.findIdx? pr=none:=by grind[wz]
 apply J [19,199];exact vt
def dV(l:List bW)(h st:Int):Option (Nat×bW):=match l[(h %256).toNat]? with
  | some p=>if p.c3*256+h %256=h/\p.st=st then some ((h %256).toNat,p)else none
  | none=>none
theorem m2{l:List bW}{h st:Int}{i:Nat}{p:bW}(d:0<=h)(e:dV l h st=some (i,p)):l[i]? =some p/\h=p.c3*256+i/\i<256/\p.st=st:=by grind[dV]
theorem PI{l:List bW}{h st:Int}{p:bW}(e:dV l h st=none)(d:l[(h %256).toNat]? =some p):¬(p.c3*256+h %256=h/\p.st=st):=by grind[dV]
theorem vU(b:Nat)(l:List bW)(i:Nat)(p:bW)(h st:Int)(N:dO l)(w:0<=h)(D:dV l h st=some (i,p)):bt 113 [ae b,aT h,aa st] (λF=>∃E,cN F E (cJ b) (fs l)) [] (.tuple #[fI (cJ b) (i*5),aa 0]) []:=by apply aH Tryz.func113 Tryz.ntmps113;intro F ⟨E,C⟩;apply J [8];haveI:bj F (cJ b) E (fs l):=⟨C⟩;obtain⟨d,rfl,H,rfl⟩:=m2 w D;have O:=N.c3 p (Vi d);refine J [24,166,31,42,25,479,432,31,6] ?_;rw[show(p.c3*256+(i:Int)) %256=(i:Int)from by omega];apply J [178];apply ew (xi b l i p d H U) ⟨_,bj.rd⟩;apply J [148,3,93,18];refine VM 19 rfl (c:=false) (du U) ?_;apply J [301,12];refine dc rfl rfl rfl (uG rfl) ?_;refine dc rfl rfl rfl (n3 0 rfl rfl) ?_;refine J [597] ?_;refine dc rfl rfl rfl (n3 3 rfl rfl) ?_;refine dc rfl rfl rfl (dk rfl rfl (pz kj d 3 U rfl)) ?_;apply J [12,218,109];refine Vh rfl (λu=>absurd u U) (λu=>?_);refine J [4,35,477,393,596,166,30] ?_;exact b7.i () [_,_] ⟨rfl,rfl,trivial⟩ (congrArg (λo=>Value.tuple #[fI (some ⟨b,0,none⟩) o,.int .i64 0]) U) trivial (ao (a6 _))
theorem vT(b:Nat)(l:List bW)(h st:Int)(N:dO l)(O:0<=h/\h<=4294967295)(H:dV l h st=none):bt 113 [ae b,aT h,aa st] (λF=>∃E,cN F E (cJ b) (fs l)) [] (.tuple #[.pointer none,aa 8]) []:=by
 apply aH Tryz.func113 Tryz.ntmps113;intro F ⟨E,D⟩;apply J [8];haveI:bj F (cJ b) E (fs l):=⟨D⟩;obtain⟨i,w⟩:∃i:Nat,h %256=i:=⟨(h %256).toNat,by omega⟩;have C:i<256:=U
 obtain⟨p,d,P⟩:=N.at C;have eF:=PI H (show l[(h %256).toNat]? =some p from by rw[w];exact d);refine J [24,166,31,42,25,479,432,31,6] ?_;rw[w];apply J [178];apply ew (xi b l i p d C U) ⟨_,bj.rd⟩;apply J [148,3,93,18];refine aY.split 19 rfl (λan=>?_) (λan=>?_);have an:=dz an;apply J [47,213,139,166,123];exact hI (ao (a6 _));have an:=d6 an;apply J [301,12];refine dc rfl rfl rfl (uG rfl) ?_;refine dc rfl rfl rfl (n3 0 rfl rfl) ?_;refine J [597] ?_;refine dc rfl rfl rfl (n3 3 rfl rfl) ?_;refine dc rfl rfl rfl (dk rfl rfl (pz kj d 3 U rfl)) ?_;apply J [12,218,109];refine Vh rfl (λu=>?_) (λu=>absurd U u);apply J [24,166,123];exact hI (ao (a6 _))
def mI:fc:=⟨0,0,0⟩
def cW(l:List bW)(h:Int):fc×Int:=match dV l h 1 with
  | some (_,p)=>(p.o,0)
  | none=>(mI,8)
theorem zP(b:Nat)(l:List bW)(h:Int)(D:dO l)(d:0<=h/\h<=4294967295):bt 63 [ae b,aT h] (λF=>∃E,cN F E (cJ b) (fs l)) [] (.tuple #[.agg (ints (cW l h).1.l).toArray,aa (cW l h).2]) []:=by
 apply aH Tryz.func63 Tryz.ntmps63;intro F ⟨E,H⟩;apply J [8];haveI:bj F (cJ b) E (fs l):=⟨H⟩;refine J [26,328] ?_;intro ba;apply J [27,35];cases u:dV l h 1 with|none=>?_|some t=>?_
 have aO:cW l h=(mI,8):=by grind[cW]
 refine e rfl ?_;apply ew (vT b l h 1 D d u) ⟨_,bj.rd⟩;apply J [5,107,34];refine Vh rfl (λw=>?_) (λw=>absurd am w);apply J [24];refine q rfl rfl (ek (cs:=ints [_,_,_]) rfl) ?_;apply J [3,277,123];exact yl;obtain⟨i,p⟩:=t;obtain⟨N,O,P,Q⟩:=m2 d.1 u;have aO:cW l h=(p.o,0):=by grind[cW]
 refine e rfl ?_;apply ew (vU b l i p h 1 D d.1 u) ⟨_,bj.rd⟩;apply J [5,107,34];refine Vh rfl (λC=>absurd C am) (λC=>?_);apply J [4,37,373,393];refine q rfl rfl (gp (vs:=ints [_,_,_]) 3 rfl rfl (kz kj N 0 3 U U rfl) rfl am) ?_;apply J [277,30];exact yl
end Go.Proofs.Q.aq
namespace Go.Proofs.Q.aq
open Go Go.QM
def isEmpty(p:bW):Bool:=decide (p.st=0)
def l5 (l:List bW) (o:fc):List bW×Int×Int:=match l.findIdx? isEmpty with
  | some i=>match l[i]? with
    | some p=>(l.set i ⟨o,1,p.c3⟩,p.c3*256+i,0)
    | none=>(l,0,11)
  | none=>(l,0,11)
theorem Eo{l:List bW}{i:Nat}(h:l.findIdx? isEmpty=some i):∃p,l[i]? =some p/\p.st=0:=by grind[List.findIdx?_eq_some_iff_getElem,isEmpty]
theorem dO.set{l:List bW}(h:dO l)(i:Nat){p:bW}(u:0<=p.c3/\p.c3<=1048575):dO (l.set i p) where
 n:=by simp[h.n]
 c3:=λq d=>by rcases List.mem_or_eq_of_mem_set d with d|rfl;exact h.c3 q d;exact u
theorem xO{l:List bW}{i:Nat}{p q:bW}(h:l[i]? =some p):(l.set i q)[i]? =some q:=List.getElem?_set_self (Vo.1 h).1
theorem dO.lt{l:List bW}(h:dO l){i:Nat}{p:bW}(d:l[i]? =some p):i<256:=by rw[<-h.n];exact(Vo.1 d).1
theorem od(b:Nat)(l:List bW)(o:fc)(u:dO l):bt 129 [ae b,.agg (ints o.l).toArray] be [aX 264 5 (cJ b) 256 256 (fs l)] (.tuple #[aT (l5 l o).2.1,aa (l5 l o).2.2]) [aX 264 5 (cJ b) 256 256 (fs (l5 l o).1)]:=by
 apply aH Tryz.func129 Tryz.ntmps129;intro F _;apply J [1];have H:=u.n;refine J [26,583] ?_;intro ba;apply J [243,42,37,477,393];refine q rfl rfl (xP 256 210 5 rfl rfl kG) ?_;refine e rfl ?_;refine aK (z1 (cJ b) 256 l 184 [] isEmpty be U (λt=>Rb t)) (by rw[H];rfl) (eC _) ⟨⟨_,bj.rd⟩,trivial⟩ ?_;intro _ _;apply J [7];cases aA:l.findIdx? isEmpty with|none=>?_|some i=>?_
 have aO:l5 l o=(l,0,11):=by grind[l5]
 rw[aO];dsimp only;apply J [31,347,2];refine Vh rfl (λw=>?_) (λw=>absurd am w);apply J [24,348];exact hI (bN (bN (a6 _)));obtain⟨p,d,P⟩:=Eo aA;have N:=u.lt d;have O:=u.c3 p (Vi d);have aO:l5 l o=(l.set i ⟨o,1,p.c3⟩,p.c3*256+i,0):=by grind[l5]
 rw[aO];dsimp only;have D:=xO (q:=⟨o,p.st,p.c3⟩) d;have E:=xO (q:=⟨o,1,p.c3⟩) d;apply J [31,347,2];refine Vh rfl (λC=>absurd C U) (λC=>?_);apply J [44];refine cD [0,1,2,3,4,5,6,7,8,10,11,-9,12,13,-14] (ao (bN (a6 _))) ?_;apply J [77,11,77,11,584];refine bI rfl rfl rfl (uG rfl) ?_;refine J [533,598,533] ?_;refine bI rfl rfl rfl (uG rfl) ?_;apply J [533,230];refine ej (v:=.agg (Vz (ints [_,_,_]))) (vs:=ints [_,_,_]) 3 rfl rfl rfl rfl rfl rfl am AG (sE (a':=⟨o,p.st,p.c3⟩) kj d 0 U (Vr rfl) rfl) ?_;refine J [9,598] ?_;refine bI rfl rfl rfl (n3 3 rfl rfl) ?_;refine DK rfl ?_;refine ej (v:=.int _ _) (vs:=[_]) 1 rfl rfl rfl rfl rfl rfl am FN (sE (a':=⟨o,1,p.c3⟩) kj D 3 U (Vr rfl) rfl) ?_;refine J [113,32] ?_;refine aK (xi b (l.set i ⟨o,1,p.c3⟩) i ⟨o,1,p.c3⟩ E N cB) rfl (eC _) (by rw[List.set_set];exact⟨_,bj.rd⟩) ?_;intro _ _;apply J [7,96];exact hI (b9 0 rfl (by rw[List.set_set];rfl) (bN (a6 _)))
def hQ(l:List bW)(h:Int):List bW×Int:=match dV l h 1 with
  | some (i,p)=>(l.set i ⟨p.o,2,p.c3⟩,0)
  | none=>(l,8)
theorem Pd(b:Nat)(l:List bW)(h:Int)(d:dO l)(u:0<=h/\h<=4294967295):bt 372 [ae b,aT h] be [aX 264 5 (cJ b) 256 256 (fs l)] (aa (hQ l h).2) [aX 264 5 (cJ b) 256 256 (fs (hQ l h).1)]:=by
 apply aH Tryz.func372 Tryz.ntmps372;intro F _;apply J [1,106,35];cases w:dV l h 1 with|none=>?_|some t=>?_
 have aO:hQ l h=(l,8):=by grind[hQ]
 refine e rfl ?_;apply ew (vT b l h 1 d u w) ⟨_,bj.rd⟩;apply J [5];rw[aO];dsimp only;apply J [107,171];refine Vh rfl (λC=>absurd C am) (λC=>?_);apply J [4,133];exact hH;obtain⟨i,p⟩:=t;obtain⟨E,N,P,Q⟩:=m2 u.1 w;have aO:hQ l h=(l.set i ⟨p.o,2,p.c3⟩,0):=by grind[hQ]
 have H:=d.c3 p (Vi E);have O:=d.n;refine e rfl ?_;apply ew (vU b l i p h 1 d u.1 w) ⟨_,bj.rd⟩;apply J [5];rw[aO];dsimp only;apply J [107,171];refine Vh rfl (λD=>?_) (λD=>absurd am D);apply J [39,373];refine q rfl rfl (n3 3 rfl rfl) ?_;refine eB ?_;refine ej (v:=.int _ _) (vs:=[_]) 1 rfl rfl rfl rfl rfl rfl am AG (sE (a':=⟨p.o,2,p.c3⟩) kj E 3 U (Vr rfl) rfl) ?_;apply J [2,133];exact hH
def iZ(p:bW):bW:=if 1048575<p.c3+1 then⟨mI,3,1048575⟩else⟨mI,0,p.c3+1⟩
def pB(l:List bW)(h:Int):List bW×fc×Int:=match dV l h 2 with
  | some (i,p)=>(l.set i (iZ p),p.o,0)
  | none=>(l,mI,8)
theorem No(b:Nat)(l:List bW)(h:Int)(u:dO l)(w:0<=h/\h<=4294967295):bt 221 [ae b,aT h] be [aX 264 5 (cJ b) 256 256 (fs l)] (.tuple #[.agg (ints (pB l h).2.1.l).toArray,aa (pB l h).2.2]) [aX 264 5 (cJ b) 256 256 (fs (pB l h).1)]:=by
 apply aH Tryz.func221 Tryz.ntmps221;intro F _;refine J [1,26,328] ?_;intro ch;apply J [27,35];cases D:dV l h 2 with|none=>?_|some t=>?_
 have aO:pB l h=(l,mI,8):=by grind[pB]
 refine e rfl ?_;apply ew (vT b l h 2 u w D) ⟨_,bj.rd⟩;apply J [7];rw[aO];dsimp only;apply J [107,34];refine Vh rfl (λE=>?_) (λE=>absurd am E);apply J [24];refine q rfl rfl (ek (cs:=ints [_,_,_]) rfl) ?_;apply J [3,277,123];exact b7.i () [_,_] ⟨(fa (n:=3) rfl rfl rfl rfl),rfl,trivial⟩ rfl trivial (bN (bN (a6 _)));obtain⟨i,p⟩:=t;obtain⟨d,V,ah,an⟩:=m2 w.1 D;have aO:pB l h=(l.set i (iZ p),p.o,0):=by grind[pB]
 have P:=u.c3 p (Vi d);have Z:=u.n;refine e rfl ?_;apply ew (vU b l i p h 2 u w.1 D) ⟨_,bj.rd⟩;apply J [7];rw[aO];dsimp only;apply J [107,34];refine Vh rfl (λH=>absurd H am) (λH=>?_);have N:=xO (q:=⟨mI,0,p.c3+1⟩) d;have W:=xO (q:=⟨mI,3,1048575⟩) d;apply J [4,37,373,393];refine q rfl rfl (gp (vs:=ints [_,_,_]) 3 rfl rfl (kz kj d 0 3 U U rfl) rfl am) ?_;refine J [0,328] ?_;intro O;apply J [277,2,37,164,373];refine q rfl rfl (n3 4 rfl rfl) ?_;refine q rfl rfl (dk rfl rfl (pz kj d 4 U rfl)) ?_;refine q rfl rfl (add rfl rfl (q5 U U)) ?_;apply J [473,373,23];refine ej (v:=.agg #[_,_,_,_,_]) (vs:=[_,_,_,_,_]) 5 rfl rfl rfl rfl rfl rfl am AG (sE (a':=⟨mI,0,p.c3+1⟩) kj d 0 U (Vr rfl) rfl) ?_;apply J [29,37,373];refine q rfl rfl (n3 4 rfl rfl) ?_;refine q rfl rfl (dk rfl rfl (pz kj N 4 U rfl)) ?_;apply J [216,2];apply Vh rfl<;>intro Q;have C:iZ p=⟨mI,3,1048575⟩:=by rw[iZ,ax U]
 rw[C];apply J [39,473,373,23];refine ej (v:=.agg #[_,_,_,_,_]) (vs:=[_,_,_,_,_]) 5 rfl rfl rfl rfl rfl rfl am FN (sE (a':=⟨mI,3,1048575⟩) kj N 0 U (Vr rfl) rfl) ?_;apply J [99,330,277,30];exact b7.i () [_,_] ⟨(fa (n:=3) rfl rfl rfl rfl),rfl,trivial⟩ rfl trivial (b9 1 rfl (by rw[List.set_set];rfl) (bw (a6 _)));have C:iZ p=⟨mI,0,p.c3+1⟩:=by rw[iZ,al U]
 rw[C];apply J [4,24,330,277,30];exact b7.i () [_,_] ⟨(fa (n:=3) rfl rfl rfl rfl),rfl,trivial⟩ rfl trivial (b9 1 rfl rfl (bw (a6 _)))
end Go.Proofs.Q.aq
namespace Go.Proofs.Q.aq
open Go Go.QM
def mR(s:Int)(z:List (bW×Nat)):List Int:=(z.filter λt=>decide (t.1.st=s)).map λt=>t.1.c3*256+(t.2:Int)
def dd(l:List bW)(s:Int):List Int:=mR s l.zipIdx
theorem vO(s:Int)(z:List (bW×Nat))(t:bW×Nat):mR s (z++[t])=if t.1.st=s then mR s z++[t.1.c3*256+(t.2:Int)]else mR s z:=by grind[mR]
theorem UQ{l:List bW}{k:Nat}{p:bW}(h:l[k]? =some p):l.zipIdx.take (k+1)=l.zipIdx.take k++[(p,k)]:=by grind[Vv]
theorem CV(s:Int)(z:List (bW×Nat)):(mR s z).length<=z.length:=by rw[mR,List.length_map];exact List.length_filter_le _ _
theorem pg(l:List bW)(s:Int):(dd l s).length<=l.length:=by have:=CV s l.zipIdx;rw[List.length_zipIdx]at this;exact this
variable(b:Nat)
theorem yM(l:List bW)(s:Int)(H:dO l):bK 106 [ae b,aa s] (λF=>∃E,cN F E (cJ b) (fs l)) [] (λy:Option Addr×Nat=>.slice y.1 (dd l s).length y.2) (λ_=>True) (λy=>[aX 33 1 y.1 (dd l s).length y.2 (cf .u32 (dd l s))]):=by
 apply aH Tryz.func106 Tryz.ntmps106;intro F ⟨E,P⟩;apply J [8];haveI:bj F (cJ b) E (fs l):=⟨P⟩;have V:=H.n;have D:(fs l).length=1280:=by grind[HT]
 apply J [121,200,101,122,37,477,393];refine q rfl rfl (gp (vs:=_) 1280 rfl rfl (by rw[List.drop_zero,<-D];exact List.take_length) D am) ?_;apply J [112];refine VQ (ι:=Nat×Option Addr×Nat) (λi=>i.1<=256) (λi=>[(0,ae b),(1,aa s),(5,.slice i.2.1 (mR s (l.zipIdx.take i.1)).length i.2.2),(13,.agg (fs l).toArray),(14,aa ((i.1:Nat):Int))]) (λi=>ag [aX 33 1 i.2.1 (mR s (l.zipIdx.take i.1)).length i.2.2 (cf .u32 (mR s (l.zipIdx.take i.1))),F]) (λi=>256-i.1) ⟨0,none,0⟩ (Vl _) bG ((dG 33 1 _).trans (b9 0 rfl kG (ao (a6 _)))) ?_;rintro⟨k,ad,cap⟩ hinv W;dsimp only[cx]at hinv⊢;apply J [43];apply Vh rfl<;>intro C;have C:k<256:=U
 obtain⟨p,w,Q⟩:=H.at C;have u:=UQ w;have hle:=CV s (l.zipIdx.take k);rw[List.length_take]at hle;apply J [56,25];refine q rfl rfl (N3 256 210 5 rfl rfl rfl rfl U U (kz kj w 0 5 U U rfl)) ?_;refine e rfl ?_;refine gm (l:=[.int _ _,.int _ _,.int _ _,.int _ _,.int _ _]) rfl rfl ?_;intro ba;apply J [73,23,309,99,285,244];apply Vh rfl<;>intro d;apply J [108,164,28];apply ew (xi b l k p w C U) ⟨_,bj.rd⟩;refine J [7,0,152] ?_;intro bC;refine e rfl ?_;refine ap 4 rfl rfl rfl rfl rfl (Vr rfl) rfl rfl U gq ?_;intro N O;refine J [83,62] ?_;exact⟨rfl,⟨k+1,N,O⟩,cB,cB,⟨rfl,rfl,congrArg (λn=>VX _ n _) (by rw[u,vO,ax d];simp),rfl,rfl,trivial⟩,(b9 0 rfl (by rw[u,vO,ax d];simp[cf]) (bw (a6 _)))⟩;refine J [114] ?_;exact⟨rfl,⟨k+1,ad,cap⟩,cB,cB,⟨rfl,rfl,congrArg (λn=>VX _ n _) (by rw[u,vO,al d]),rfl,rfl,trivial⟩,(b9 1 rfl (by rw[u,vO,al d]) (bN (a6 _)))⟩;obtain rfl:k=256:=U
 rw[List.take_of_length_le (by rw[List.length_zipIdx];omega)];apply J [209,69];exact bu ⟨ad,cap⟩ trivial (ao (ao (a6 _)))
theorem FB(l:List bW)(u:dO l):bK 59 [ae b] (λF=>∃E,cN F E (cJ b) (fs l)) [] (λy:Option Addr×Nat=>.slice y.1 (dd l 1).length y.2) (λ_=>True) (λy=>[aX 33 1 y.1 (dd l 1).length y.2 (cf .u32 (dd l 1))]):=by apply aH Tryz.func59 Tryz.ntmps59;intro F d;apply J [8,121,105];refine aK (yM b l 1 u) rfl (eC _) (d.imp λ_ h=>o9 h) ?_;intro y _;apply J [5,69];exact bu y trivial (ao (ao (a6 _)))
theorem UR(l:List bW)(u:dO l):bK 92 [ae b] (λF=>∃E,cN F E (cJ b) (fs l)) [] (λy:Option Addr×Nat=>.slice y.1 (dd l 2).length y.2) (λ_=>True) (λy=>[aX 33 1 y.1 (dd l 2).length y.2 (cf .u32 (dd l 2))]):=by apply aH Tryz.func92 Tryz.ntmps92;intro F d;apply J [8,121,105];refine aK (yM b l 2 u) rfl (eC _) (d.imp λ_ h=>o9 h) ?_;intro y _;apply J [5,69];exact bu y trivial (ao (ao (a6 _)))
theorem RP(l:List bW)(u:dO l):bt 186 [ae b] (λF=>∃E,cN F E (cJ b) (fs l)) [] (aa (dd l 0).length) []:=by apply aH Tryz.func186 Tryz.ntmps186;intro F d;apply J [8,106,105];refine aK (yM b l 0 u) rfl (eC _) (d.imp λ_ h=>o9 h) ?_;intro y _;apply J [5,224,30];exact eZ (bN (a6 _))
def iu(l:List bW)(h:Int):fc×Int:=match dV l h 2 with
  | some (_,p)=>(p.o,0)
  | none=>cW l h
theorem QY(l:List bW)(h:Int)(w:dO l)(d:0<=h/\h<=4294967295):bt 93 [ae b,aT h] (λF=>∃E,cN F E (cJ b) (fs l)) [] (.tuple #[.agg (ints (iu l h).1.l).toArray,aa (iu l h).2]) []:=by
 apply aH Tryz.func93 Tryz.ntmps93;intro F ⟨E,H⟩;apply J [8];haveI:bj F (cJ b) E (fs l):=⟨H⟩;refine J [26,328] ?_;intro ch;apply J [27,35];cases u:dV l h 2 with|none=>?_|some t=>?_
 have aO:iu l h=cW l h:=by grind[iu]
 refine e rfl ?_;apply ew (vT b l h 2 w d u) ⟨_,bj.rd⟩;apply J [5,107,34];refine Vh rfl (λC=>?_) (λC=>absurd am C);apply J [32];apply ew (zP b l h w d) ⟨_,bj.rd⟩;apply J [5];refine q rfl rfl (pu (v:=.agg (Vz (ints [_,_,_]))) (λ_=>rfl)) ?_;apply J [92,277,123];exact yl;obtain⟨i,p⟩:=t;obtain⟨N,O,P,Q⟩:=m2 d.1 u;have aO:iu l h=(p.o,0):=by grind[iu]
 refine e rfl ?_;apply ew (vU b l i p h 2 w d.1 u) ⟨_,bj.rd⟩;apply J [5,107,34];refine Vh rfl (λD=>absurd D am) (λD=>?_);apply J [4,37,373,393];refine q rfl rfl (gp (vs:=ints [_,_,_]) 3 rfl rfl (kz kj N 0 3 U U rfl) rfl am) ?_;apply J [277,30];exact yl
end Go.Proofs.Q.aq
namespace Go.Proofs.Q.eX
open Go Go.QM
def p0(t:Int×Int):List Value:=[.int .i64 t.1,.int .i64 t.2]
def oj(l:List (Int×Int)):List Value:=l.flatMap p0
theorem vf(t:Int×Int):(p0 t).length=2:=rfl
theorem H3(l:List (Int×Int)):(oj l).length=l.length*2:=kc vf l
def ez(b:Nat)(p n:Int)(l:List (Int×Int)):av:=e7 λx:Option Addr×Nat=>pure' True (ag [aj b 255 [.int .i64 p,.int .i64 n,.slice x.1 l.length x.2],aX 253 2 x.1 l.length x.2 (oj l)])
theorem pM(p:Int)(u:1<=p)(w:p<=16):bK 127 [aa p] be [] (λb:Nat=>ae b) (λ_=>True) (λb=>[ez b p 0 []]):=by apply aH Tryz.func127 Tryz.ntmps127;intro F _;refine J [8,131,179,389,168,109] ?_;refine Vh rfl (λd=>absurd d U) (λd=>?_);apply J [4,25,534,0];refine e0 (v:=.agg #[_,_,_]) (l:=[.int _ _,.int _ _,.slice _ _ _]) rfl rfl ?_;intro ba;apply J [110];exact bu ba trivial ((dG 253 2 _).trans (ay ⟨none,0⟩ trivial (bN (ao (ao (a6 _))))))
theorem sW(p:Int)(h:p<1\/16<p):bt 127 [aa p] be [] (.pointer none) []:=by apply aH Tryz.func127 Tryz.ntmps127;intro F _;apply J [8,131,179];refine aY.split 5 rfl (λd=>?_) (λd=>?_);have d:=dz d;apply J [49,139,270];exact dn;have d:=d6 d;apply J [168,109];refine Vh rfl (λu=>?_) (λu=>absurd U u);apply J [170,76];exact dn
theorem vM(b:Nat)(p n:Int)(l:List (Int×Int))(ad:Option Addr)(cap:Nat)(xs:List Int)(P:1<=p/\p<=16)(an:0<=n/\n<=1000000000)(O:l.length<=1000000)(Q:xs.length<=1000000):bt 373 [ae b,.slice ad xs.length cap] (λF=>∃E,cN F E ad (ints xs)) [ez b p n l] (aa ((l.length+xs.length:Nat):Int)) [ez b p n (l++xs.map (λx=>(x,n+p)))]:=by
 apply aH Tryz.func373 Tryz.ntmps373;intro F ⟨E,H⟩;apply J [1];haveI:bj F ad E (ints xs):=⟨H⟩;apply ab.open 0 rfl;rintro⟨C,D⟩-;apply J [13,36,101,122,33,177];refine VQ (ι:=Nat×Option Addr×Nat) (λi=>i.1<=xs.length) (λi=>[(0,ae b),(9,.slice ad xs.length cap),(10,aa xs.length),(11,aa i.1)]) (λi=>ag [aj b 255 [aa p,aa n,.slice i.2.1 (l.length+i.1) i.2.2],aX 253 2 i.2.1 (l.length+i.1) i.2.2 (oj (l++(xs.take i.1).map (λx=>(x,n+p)))),F]) (λi=>xs.length-i.1) ⟨0,C,D⟩ (Vl _) bG (ao (b9 0 rfl cG (ao (a6 _)))) ?_;rintro⟨k,d,u⟩ hinv V;dsimp only[cx]at hinv⊢;apply J [43];apply Vh rfl<;>intro w;have w:k<xs.length:=U
 obtain⟨x,qG⟩:∃x,xs[k]? =some x:=⟨xs[k],Ve w⟩;have N:0<(ints xs).length:=by grind[ec]
 refine J [187,517,27] ?_;refine ab.draw _ [20] [0,1,2,3,4,5,6,7,8,9,10,11,12,13,14,15,-16,-17,18,19,-20] a1 a1 (ao (a6 _)) ?_;refine J [77,185,11,137,50,388,442,15,294] ?_;intro bC;refine J [45] ?_;refine ap 16 rfl rfl rfl rfl rfl (Vr rfl) rfl rfl U gq ?_;intro d u;refine J [9,89,366,91,368,231,344] ?_;exact⟨rfl,⟨k+1,d,u⟩,cB,cB,bG,(ao (b9 0 rfl (by simp[oj,p0,Vv,qG,Nat.add_assoc]) (bN (a6 _))))⟩;obtain rfl:k=xs.length:=by omega
 apply J [19,97];refine q rfl rfl (len 253 2 rfl rfl) ?_;apply J [30];exact eZ (ay ⟨d,u⟩ trivial (b9 0 rfl cG (b9 0 rfl cG (ao (a6 _)))))
theorem Me(d:Option Addr):bK 284 [.pointer d] be [] (λc:Nat=>.func (.func 338) #[] #[ae c]) (λ_=>True) (λc=>[aj c 133 [.pointer d]]):=by apply aH Tryz.func284 Tryz.ntmps284;intro F _;apply J [196];refine e0 (v:=.pointer _) (l:=[.pointer _]) rfl rfl ?_;intro ch;apply J [153,99,413,153,260];exact bu ch trivial (ao (ao (a6 _)))
def j8(n:Int)(l:List (Int×Int)):List (Int×Int):=l.takeWhile λt=>t.2<=n
def kK(n:Int)(l:List (Int×Int)):List (Int×Int):=l.dropWhile λt=>t.2<=n
theorem Mc(c b:Nat)(p n:Int)(l:List (Int×Int))(ah:l.length<=100000000):ra VS 338 [ae c] (λx:Int=>[aa x]) (λN _=>N.length<l.length) [aj c 133 [ae b],ez b p n l] (λ_:Unit=>(j8 n l).map (·.1)) (λ_=>True) (λ_=>[aj c 133 [ae b],ez b p n (kK n l)]):=by
 refine ra.intro a1 Tryz.func338 rfl Tryz.ntmps338 kG rfl ?_;intro V bP P;refine J [13,458] ?_;rintro⟨H,O⟩-;apply J [87,75];refine VQ (ι:=List (Int×Int)×List (Int×Int)×Option Addr×Nat) (λi=>l=i.1++i.2.1/\(∀t∈i.1,t.2<=n)) (λi=>[(0,.func (.yield V) #[] #[]),(1,ae c)]) (λi=>ag [bP (i.1.map (·.1)),aj c 133 [ae b],aj b 255 [aa p,aa n,.slice i.2.2.1 i.2.1.length i.2.2.2],aX 253 2 i.2.2.1 i.2.1.length i.2.2.2 (oj i.2.1)]) (λi=>i.2.1.length) ⟨[],l,H,O⟩ ⟨rfl,by simp⟩ bG (bw (bw (ao (ao (a6 _))))) ?_;rintro⟨u,d,ad,cap⟩ ⟨E,D⟩ aq;dsimp only[cx]at E D⊢;cases d with|nil=>?_|cons t d=>?_
 apply J [6,6,599,94,89,136];refine bI rfl rfl rfl (len 253 2 rfl rfl) ?_;apply J [437,144];refine b8.known 10 rfl (b':=false) (du cG) ?_;apply J [197,197,197,217,74,72,332];exact⟨rfl,(),trivial,(by(have w:j8 n l=u:=by grind[j8,Il]);(have C:kK n l=[]:=by grind[kK,DQ]);rw[w,C];exact(ao (ao (ay ⟨ad,cap⟩ trivial (ao (ao (a6 _)))))))⟩;have an:u.length+d.length+1=l.length:=cr
 have Z:0<(oj (t::d)).length:=by grind[oj,p0]
 simp only[List.length_cons];apply J [6,6,599,94,89,136];refine bI rfl rfl rfl (len 253 2 rfl rfl) ?_;apply J [437,144];refine b8.known 10 rfl (b':=true) (da U) ?_;apply J [163,298,329,163];refine eH rfl rfl rfl rfl (jZ 253 2 rfl rfl rfl U U dQ) ?_;refine eH rfl rfl rfl rfl (mi 1 rfl rfl dQ) ?_;refine eH rfl rfl rfl rfl (dk rfl rfl rfl) ?_;apply J [163,298,471,163];refine eH rfl rfl rfl rfl (leq rfl rfl) ?_;apply J [318,74];apply Vh rfl<;>intro hle;apply J [4,75,24,85,80,55];refine q rfl rfl (jZ 253 2 rfl rfl rfl U U dQ) ?_;refine q rfl rfl (mi 0 rfl rfl dQ) ?_;refine J [535,31,586,94,94,89,136] ?_;refine bI rfl rfl rfl (HB 253 2 rfl rfl rfl U U) ?_;apply J [89,366,91,368,74,129,28];refine Cf 1 (P (u.map (·.1)) t.1 _ rL) rfl rfl rfl ?_;rintro W a8 ⟨rfl,rfl⟩;apply J [17,90,115,22];exact⟨rfl,⟨u++[t],d,_,_⟩,⟨by simp[E],by intro s Q;rcases Vg.1 Q with h|h;exact D s h;rw[List.mem_singleton.1 h];exact hle⟩,cG,bG,(b9 0 rfl cG (bN (ao (eN 0 rfl (BI (j:=1) U) (a6 _)))))⟩;apply J [332];exact⟨rfl,(),trivial,(by have w:j8 n l=u:=(by grind[j8,Im,List.takeWhile_cons_of_neg]);have C:kK n l=t::d:=(by grind[kK,DR,List.dropWhile_cons_of_neg]);rw[w,C];exact(ao (ao (ay ⟨ad,cap⟩ trivial (ao (ao (a6 _)))))))⟩
def E9(c:Nat)(xs:List Int):av:=e7 λx:Option Addr×Nat=>pure' True (ag [aj c 90 [.slice x.1 xs.length x.2],aX 3 1 x.1 xs.length x.2 (ints xs)])
theorem BY(b:Nat)(p n:Int)(l:List (Int×Int))(an:0<=n/\n<=1000000000)(E:l.length<=100000000):bK 220 [ae b] be [ez b p n l] (λy:Option Addr×Nat=>.slice y.1 ((j8 (n+1) l).map (·.1)).length y.2) (λ_=>True) (λy=>[ez b p (n+1) (kK (n+1) l),aX 3 1 y.1 ((j8 (n+1) l).map (·.1)).length y.2 (ints ((j8 (n+1) l).map (·.1)))]):=by refine eQ.EQ (rs:=[.tmp 2]) a1 Tryz.func220 rfl Tryz.ntmps220 kG rfl ?_;intro F _;refine J [341] ?_;rintro⟨ad,cap⟩-;apply J [13,121,26];refine gm (l:=[.slice _ _ _]) rfl rfl ?_;intro w;refine J [29,42,64,154,267,203,29,105] ?_;refine aK (Me _) rfl (eC _) trivial ?_;intro c2 _;apply J [10,183];refine WI (B:=ag [aj c2 133 [ae b],ez b p (n+1) l,E9 w [],F]) ((dG 3 1 _).trans (bN (ay ⟨ad,cap⟩ trivial (bN (bw (ay ⟨none,0⟩ trivial (bN (ao (ao (a6 _)))))))))) ?_;refine ab.G2 (λC=>[E9 w C]) (Mc c2 b p (n+1) l E) rfl (ed 0 rfl (ed 0 rfl (eC _))) (ed 0 rfl (eC _)) (λ_=>rfl) rfl ?_ ?_;rintro Z C x H V;apply J [1,157,27];refine⟨rfl,(VZ _),λN=>?_⟩;refine J [341] ?_;rintro⟨O,Q⟩-;refine J [13,75,157,85,68] ?_;intro P;refine J [0,600] ?_;intro d u;apply J [279];refine aY.nil (jK ?_);refine⟨rfl,rfl,?_⟩;change aE (ag [_,_,_,_]) (ag [_,_]);exact(ay ⟨d,u⟩ trivial (b9 0 rfl (by simp[dC,Value.cells]) (b9 0 rfl (by simp[ints]) (bN (a6 _)))));intro D y W;refine(jK (ib ?_));refine J [82,458] ?_;rintro⟨d,u⟩-;apply J [161,24,85,69];exact .inl ⟨⟨d,u⟩,[_],D,rfl,rfl,⟨rfl,trivial⟩,rfl,trivial,(eK (cO (bN (bw (a6 _)))))⟩
end Go.Proofs.Q.eX
namespace Go.Proofs.Q
open Go Go.QM
def bD(c:Nat):Nat:=[0,64,128,256,32,32,48,256,1024].getD c 0
def c8(S:cT)(c a:Nat):Prop:=(c∈cls/\fe (cg c) (S.C c) a)\/(c=8/\∃p∈S.Fr,a=p*1024)
variable{c:Nat}
theorem qK(h:c∈cls):bD c=cg c:=by rcases tR h with rfl|rfl|rfl|rfl|rfl|rfl|rfl<;>rfl
variable{top:Nat}{S:cT}
theorem zK(u:dg top S){p:Nat}(h:p∈S.Fr):p∉cls.flatMap (hC S.C):=λd=>(VI.1 u.bA).2.2 p d p h rfl
variable{a:Nat}
theorem c8.bd(u:dg top S)(h:c8 S c a):a %16=0/\a+bD c<=1024*2^top/\32<=bD c/\bD c<=1024:=by rcases h with⟨d,h⟩|⟨rfl,p,w,rfl⟩;have:=fe.bd u d h;rw[qK d];refine⟨this.1,this.2.2,?_⟩;rcases tR d with rfl|rfl|rfl|rfl|rfl|rfl|rfl<;>decide;have:=u.lt p (Vg.2 (.inr w));have e:bD 8=1024:=rfl;omega
theorem c8.apart(u:dg top S){d b:Nat}(h:c8 S c a)(k:c8 S d b)(D:c≠d\/a≠b):a+bD c<=b\/b+bD d<=a:=by have e:bD 8=1024:=rfl;rcases h with⟨w,h⟩|⟨rfl,p,E,rfl⟩<;>rcases k with⟨C,k⟩|⟨rfl,q,H,rfl⟩;rw[qK w,qK C];exact fe.apart u w C h k D;have:=fe.frame u w h (zK u H);rw[qK w];omega;have:=fe.frame u C k (zK u E);rw[qK C];omega;omega
structure gd(top:Nat)(S bc:cT)(Y X:Nat->Nat->Prop):Prop where
  P:dg top bc
  p:∀c a,c8 S c a->¬Y c a->c8 bc c a
  m:∀c a,c8 S c a->¬X c a->∀o,a<=o->o<a+bD c->bc.m o=S.m o
  p8:∀c a,Y c a->X c a
theorem gd.trans{T V:cT}{Y X u d:Nat->Nat->Prop}(g:gd top S T Y X)(k:gd top T V u d):gd top S V (λc a=>Y c a\/u c a) (λc a=>X c a\/d c a):=
 ⟨k.P,λc a h an=>k.p c a (g.p c a h λh=>an (.inl h)) λh=>an (.inr h),λc a h an o w C=>(k.m c a (g.p c a h λh=>an (.inl (g.p8 c a h))) (λh=>an (.inr h)) o w C).trans (g.m c a h (λh=>an (.inl h)) o w C),
  λc a h=>h.imp (g.p8 c a) (k.p8 c a)⟩
variable{bc:cT}
theorem gd.w{Y X:Nat->Nat->Prop}(g:gd top S bc Y X){o:Nat}(h:c8 S c a)(d:¬X c a)(u:a<=o)(C:o+8<=a+bD c):cV bc.m o=cV S.m o:=
 uy λi D E=>g.m c a h d i U U
def hS:Nat->Nat->Prop:=λ_ _=>False
def fy(c a:Nat):Nat->Nat->Prop:=λd b=>d=c/\b=a
theorem dg.mem(h:dg top S)(d:bc.C=S.C)(u:bc.Fr=S.Fr):dg top bc:=by obtain⟨Q,N,C,Fr,m⟩:=S;obtain⟨E,O,w,D,H⟩:=bc;dsimp only at d u;subst d;subst u;exact⟨h.fX,h.ok,h.bA,h.lt⟩
theorem oH(u:dg top S)(h:c8 S c a)(D:bc.C=S.C)(E:bc.Fr=S.Fr)(hm:∀o,o<a\/a+bD c<=o->bc.m o=S.m o):gd top S bc hS (fy c a):=by refine⟨u.mem D E,λd b k _=>?_,λd b k an o H N=>hm o ?_,λ_ _ h=>h.elim⟩;grind[c8];have:=c8.apart u h k (by by_cases e:c=d;exact .inr λw=>an ⟨e.symm,w.symm⟩;exact .inl e);omega
theorem wG(D:dg top S)(u:bc.C=S.C)(w:bc.Fr=S.Fr)(hm:bc.m=S.m):gd top S bc hS hS:=
 ⟨D.mem u w,λd b k _=>by rw[c8,u,w];exact k,λd b k _ o _ _=>by rw[hm],λ_ _ h=>h⟩
theorem iU.inv2{y:Nat×Nat×List cj}(g:iU top S c y)(d:bc.C=dK S.C c y.2.2)(u:bc.Fr=S.Fr):dg top bc:=by obtain⟨E,N,w,D,H⟩:=bc;dsimp only at d u;subst d;subst u;exact g.inv _ _ _
variable{i:Nat}
theorem jT.inv2{aD:Nat}{L':List cj}(g:jT top S c aD i L')(d:bc.C=dK S.C c L')(u:bc.Fr=S.Fr):dg top bc:=by obtain⟨E,N,w,D,H⟩:=bc;dsimp only at d u;subst d;subst u;exact g.inv _ _ _
theorem iU.uJ{y:Nat×Nat×List cj}(u:dg top S)(w:c∈cls)(g:iU top S c y){d b:Nat}(h:c8 S d b):¬fy c (addr c y) d b:=by rintro⟨rfl,rfl⟩;rcases h with⟨_,h⟩|⟨rfl,_⟩;exact g.fresh u w h;trivial
theorem wF{y:Nat×Nat×List cj}(O:dg top S)(u:c∈cls)(g:iU top S c y)(w:bc.C=dK S.C c y.2.2)(D:bc.Fr=S.Fr)(hm:∀o,o<addr c y\/addr c y+cg c<=o->bc.m o=S.m o):gd top S bc hS hS/\c8 bc c (addr c y):=by have E:=g.inv2 w D;have H:∀d b,c8 S d b->c8 bc d b:=λd b k=>(by rcases k with⟨P,k⟩|⟨rfl,p,Q,rfl⟩;exact .inl ⟨P,by rw[w];exact(g.jN u).2 (.inl k)⟩;exact .inr ⟨rfl,p,by rw[D];exact Q,rfl⟩);have an:c8 bc c (addr c y):=.inl ⟨u,by rw[w];exact(g.jN u).2 (.inr ⟨rfl,rfl⟩)⟩;refine⟨⟨E,λd b k _=>H d b k,λd b k _ o V W=>hm o ?_,λ_ _ h=>h⟩,an⟩;have:=c8.apart E (H d b k) an (by have:=g.uJ O u k;by_cases e:d=c;exact .inr λN=>this ⟨e,N⟩;exact .inl e);grind[qK]
theorem wE{aD:Nat}{L':List cj}(E:dg top S)(N:c∈cls)(g:jT top S c aD i L')(H:a=aD*1024+64+i*cg c)(u:bc.C=dK S.C c L')(w:bc.Fr=S.Fr)(hm:bc.m=S.m):gd top S bc (fy c a) (fy c a):=by refine⟨g.inv2 u w,λd b k an=>?_,λd b k _ o _ _=>by rw[hm],λ_ _ h=>h⟩;rcases k with⟨O,k⟩|⟨rfl,p,P,rfl⟩;refine .inl ⟨O,?_⟩;rw[u];refine g.jN E N k ?_;by_cases e:d=c;exact .inr λD=>an ⟨e,by rw[H];exact D⟩;omega;exact .inr ⟨rfl,p,by rw[w];exact P,rfl⟩
theorem Nq{p:Nat}(V:dg top S)(u:dg top bc)(N:bc.C=S.C)(O:bc.Fr=p::S.Fr)(hm:∀o,o<p*1024\/p*1024+1024<=o->bc.m o=S.m o):gd top S bc hS hS/\c8 bc 8 (p*1024)/\¬c8 S 8 (p*1024):=by
 have w:∀d b,c8 S d b->c8 bc d b:=λd b k=>(by rcases k with⟨P,k⟩|⟨rfl,q,D,rfl⟩;exact .inl ⟨P,by rw[N];exact k⟩;exact .inr ⟨rfl,q,by rw[O];exact List.mem_cons_of_mem _ D,rfl⟩);have an:c8 bc 8 (p*1024):=by grind[c8]
 have aA:¬c8 S 8 (p*1024):=(by rintro(⟨h,_⟩|⟨_,q,D,e⟩);trivial;(obtain rfl:p=q:=by omega);have H:bc.Fr.Nodup:=(VI.1 u.bA).2.1;simp_all);refine⟨⟨u,λd b k _=>w d b k,λd b k _ o H Q=>hm o ?_,λ_ _ h=>h⟩,an,aA⟩;have:=c8.apart u (w d b k) an (by by_cases e:d=8;subst e;exact .inr λE=>aA (E▸k);exact .inl e);have e:bD 8=1024:=rfl;omega
theorem dg.Iu(h:dg top S){p:Nat}(u:bc.C=S.C)(w:bc.Fr=S.Fr.erase p):dg top bc:=by
 obtain⟨Q,P,C,Fr,m⟩:=S;obtain⟨N,V,d,H,O⟩:=bc;dsimp only at u w;subst u;subst w;have D:(dp d (Fr.erase p)).Sublist (dp d Fr):=by grind[dp,List.erase_sublist]
 exact⟨h.fX,h.ok,h.bA.sublist D,λq E=>h.lt q (D.subset E)⟩
theorem Ns{p:Nat}(D:dg top S)(u:bc.C=S.C)(w:bc.Fr=S.Fr.erase p)(hm:bc.m=S.m):gd top S bc (fy 8 (p*1024)) (fy 8 (p*1024)):=by refine⟨D.Iu u w,λd b k an=>?_,λd b k _ o _ _=>by rw[hm],λ_ _ h=>h⟩;rcases k with⟨E,k⟩|⟨rfl,q,H,rfl⟩;exact .inl ⟨E,by rw[u];exact k⟩;exact .inr ⟨rfl,q,by rw[w];exact(List.mem_erase_of_ne λe=>an ⟨rfl,by rw[e]⟩).2 H,rfl⟩
theorem gg.mZ{t:Nat}{Y X:Nat->Nat->Prop}(h:gg top S t)(g:gd top S bc Y X)(N:¬X 2 t)(O:∀j,j<16->bp S.m t j≠0->¬X 7 (bp S.m t j)):
 gg top bc t/\(∀j,j<16->bp bc.m t j=bp S.m t j)/\∀s,s<256->d7 bc.m t s=d7 S.m t s/\dU bc.m t s=dU S.m t s:=by have bC:c8 S 2 t:=.inl ⟨c2,h.tk⟩;have H:∀j,j<16->bp S.m t j≠0->c8 S 7 (bp S.m t j):=λj u d=>.inl ⟨fM,h.fG j u d⟩;have un:∀{c a},c∈cls->c8 bc c a->fe (cg c) (bc.C c) a:=λ{c a} Q k=>(by rcases k with⟨_,k⟩|⟨rfl,_⟩;all_goals trivial);refine h.nu (un c2 (g.p 2 t bC λk=>N (g.p8 _ _ k))) (λj u d=>un fM (g.p 7 _ (H j u d) λk=>O j u d (g.p8 _ _ k))) λo P=>?_;rcases P with⟨D,E⟩|⟨j,u,d,D,E⟩;exact g.w bC N D E;exact g.w (H j u d) (O j u d) D E
def hY:Nat->(Nat->Nat)->Nat
  | 0,_=>0
  | n+1,f=>hY n f+f n
theorem rY{f g:Nat->Nat}:∀{n:Nat},(∀i,i<n->f i=g i)->hY n f=hY n g
 | 0,_=>rfl
 | n+1,h=>by rw[hY,hY,rY (n:=n) λi d=>h i U,h n U]
theorem pW{f g:Nat->Nat}{k:Nat}:∀{n:Nat},k<n->(∀i,i<n->i≠k->g i=f i)->hY n g+f k=hY n f+g k
 | n+1,C,h=>by rw[hY,hY];by_cases e:k=n;subst e;rw[rY (n:=k) λi u=>h i U U];omega;have:=pW (n:=n) U λi u w=>h i U w;rw[h n U λd=>e d.symm];omega
theorem pX{f:Nat->Nat}:∀{n:Nat},(∀i,i<n->f i=0)->hY n f=0
 | 0,_=>rfl
 | n+1,h=>by rw[hY,pX (n:=n) λi d=>h i U,h n U]
theorem u7{f:Nat->Nat}{k:Nat}:∀{n:Nat},k<n->f k<=hY n f
 | n+1,d=>by rw[hY];by_cases e:k=n;subst e;omega;have:=u7 (f:=f) (n:=n) (k:=k) U;omega
def ba(x:Nat):Nat:=if x=0 then 0 else 1
def oF(aL:Nat->Nat->Nat):Nat:=hY 256 λi=>hY 256 λs=>ba (aL i s)
theorem zk{aL ni:Nat->Nat->Nat}{s:Nat}(u:i<256)(hs:s<256)(h:∀j r,(j≠i\/r≠s)->ni j r=aL j r):oF ni+ba (aL i s)=oF aL+ba (ni i s):=by
 have w:oF ni+hY 256 (λs=>ba (aL i s))=oF aL+hY 256 (λs=>ba (ni i s)):=
  pW (f:=λi=>hY 256 λs=>ba (aL i s)) (g:=λi=>hY 256 λs=>ba (ni i s)) u λj _ d=>rY λr _=>by rw[h j r (.inl d)]
 have C:hY 256 (λs=>ba (ni i s))+ba (aL i s)=hY 256 (λs=>ba (aL i s))+ba (ni i s):=
  pW (f:=λs=>ba (aL i s)) (g:=λs=>ba (ni i s)) hs λr _ d=>by rw[h i r (.inr d)]
 omega
structure bR where
  l:List aq.bW
  Q:List aB.bY
  bE:Int
  aL:Nat->Nat->Nat
  own:Nat->Nat
  aZ:Nat->Nat->Nat
  pd:Int
  now:Int
  q:List (Int×Int)
  np:Nat
def bv(k:Int)(a:Nat)(f:Int):aq.fc:=⟨k,a,f⟩
def cA(l:List aq.bW)(i:Nat)(s:Int)(o:aq.fc):Prop:=∃g,l[i]? =some ⟨o,s,g⟩
def fo(s:Int):Prop:=s=1\/s=2
theorem cA.inj{l:List aq.bW}{s r:Int}{o d:aq.fc}(h:cA l i s o)(k:cA l i r d):s=r/\o=d:=by obtain⟨g,h⟩:=h;obtain⟨u,k⟩:=k;simp_all
variable{k:Nat}
theorem cA.set{l:List aq.bW}{p:aq.bW}{s:Int}{o:aq.fc}(h:cA (l.set k p) i s o):(i≠k/\cA l i s o)\/(i=k/\p.st=s/\p.o=o):=by obtain⟨g,h⟩:=h;by_cases e:k=i;grind;rw[Wo e]at h;exact .inl ⟨λd=>e d.symm,g,h⟩
theorem cA.put{l:List aq.bW}(p:aq.bW){s:Int}{o:aq.fc}(h:cA l i s o)(d:i≠k):cA (l.set k p) i s o:=by obtain⟨g,h⟩:=h;exact⟨g,by rw[Wo λe=>d e.symm];exact h⟩
theorem i6{c d:Int}{b:Nat}{f g:Int}(h:bv c a f=bv d b g):c=d/\a=b/\f=g:=by have u:=congrArg aq.fc.k h;have w:=congrArg aq.fc.a h;have C:=congrArg aq.fc.f h;grind[bv]
structure ck(top:Nat)(A:bR)(S:cT):Prop where
  P:dg top S
  Q:S.Q=A.Q/\S.bE=A.bE
  obj:∀i s o,fo s->cA A.l i s o->∃(c a:Nat) (f:Int),o=bv c a f/\(1<=c/\c<=5\/c=8)/\c8 S c a
  un:∀i j s r (c a:Nat) (f g:Int),fo s->fo r->cA A.l i s (bv c a f)->cA A.l j r (bv c a g)->i=j
  hF:∀i a f,cA A.l i 1 (bv 2 a f)->gg top S a/\∀s,s<256->d7 S.m a s=A.aL i s/\(A.aL i s≠0->c8 S 6 (dU S.m a s))
  nA:∀i j a b f g s r,cA A.l i 1 (bv 2 a f)->cA A.l j 1 (bv 2 b g)->s<256->r<256->A.aL i s≠0->A.aL j r≠0->dU S.m a s=dU S.m b r->i=j/\s=r
  q6:∀i j a b f g u v,cA A.l i 1 (bv 2 a f)->cA A.l j 1 (bv 2 b g)->u<16->v<16->bp S.m a u≠0->bp S.m a u=bp S.m b v->i=j
  rN:gQ (960/cg 6) (S.C 6)=oF A.aL
  my:∀i s a f,fo s->cA A.l i s (bv 1 a f)->cV S.m a=A.own i
  aZ:∀i (c a:Nat) f,cA A.l i 2 (bv c a f)->∀o,o<bD c->S.m (a+o)=A.aZ i o
  gb:(dp S.C S.Fr).length<=A.np
variable{A:bR}
theorem ck.leaf(h:ck top A S){f:Int}(u:cA A.l i 1 (bv 2 a f)){j:Nat}(w:j<16)(d:bp S.m a j≠0):c8 S 7 (bp S.m a j):=.inl ⟨fM,(h.hF i a f u).1.fG j w d⟩
variable{a8:bR}
theorem ck.mZ{Y X:Nat->Nat->Prop}(h:ck top A S)(g:gd top S bc Y X)(el:a8.l=A.l)(aq:a8.aL=A.aL)(a0:a8.own=A.own)(a2:a8.aZ=A.aZ)(a3:bc.Q=a8.Q/\bc.bE=a8.bE)
 (Z:∀i s (c a:Nat) f,fo s->cA A.l i s (bv c a f)->¬Y c a/\(X c a->s=1/\c≠1/\c≠2)) (av:∀a,¬X 6 a/\¬X 7 a) (an:gQ (960/cg 6) (bc.C 6)=gQ (960/cg 6) (S.C 6)) (a5:(dp bc.C bc.Fr).length<=a8.np):ck top a8 bc:=by
 have O:∀i a f,cA A.l i 1 (bv 2 a f)->_:=λi a f d=>(h.hF i a f d).1.mZ g (λk=>((Z i 1 2 a f (.inl rfl) d).2 k).2.2 rfl) λj _ _=>(av _).2;refine⟨g.P,a3,λi s o D d=>?_,?_,λi a f d=>?_,λi j a b f E s r d H D az ar au e=>?_,λi j a b f E u v d H hu hv W e=>?_,by rw[an,h.rN,aq],λi s a f D d=>?_,λi c a f d o a9=>?_,a5⟩;rw[el]at d;obtain⟨c,a,f,rfl,a4,N⟩:=h.obj i s o D d;exact⟨c,a,f,rfl,a4,g.p c a N (Z i s c a f D d).1⟩;rw[el];exact h.un;rw[el]at d;obtain⟨bS,bb,aB⟩:=O i a f d;obtain⟨_,aH⟩:=h.hF i a f d;refine⟨bS,λs D=>?_⟩;rw[(aB s D).1,(aB s D).2,aq];exact⟨(aH s D).1,λW=>g.p 6 _ ((aH s D).2 W) λk=>(av _).1 (g.p8 _ _ k)⟩;rw[el]at d H;rw[aq]at ar au;rw[((O i a f d).2.2 s D).2,((O j b E H).2.2 r az).2]at e;exact h.nA i j a b f E s r d H D az ar au e;rw[el]at d H;rw[(O i a f d).2.1 u hu]at W e;rw[(O j b E H).2.1 v hv]at e;exact h.q6 i j a b f E u v d H hu hv W e;rw[el]at d;rw[a0];obtain⟨c,aQ,E,e,_,N⟩:=h.obj i s _ D d;obtain⟨aW,rfl,rfl⟩:=i6 e;have ah:c=1:=U
 subst ah;rw[g.w N (λk=>((Z i s 1 a f D d).2 k).2.1 rfl) (Vm a) (by have:bD 1=64:=rfl;omega)];exact h.my i s a f D d;rw[el]at d;rw[a2];obtain⟨V,aQ,E,e,_,N⟩:=h.obj i 2 _ (.inr rfl) d;obtain⟨aW,rfl,rfl⟩:=i6 e;have ah:V=c:=U
 subst ah;rw[g.m V a N (λk=>absurd ((Z i 2 V a f (.inr rfl) d).2 k).1 am) _ U U];exact h.aZ i V a f d o a9
theorem ck.free(h:ck top A S){p:aq.bW}(V:¬fo p.st)(el:a8.l=A.l.set k p)(E:a8.aL=A.aL)(N:a8.own=A.own)(O:a8.aZ=A.aZ)(eq:a8.Q=A.Q/\a8.bE=A.bE/\a8.np=A.np):ck top a8 S:=by
 have back:∀{i s o},fo s->cA a8.l i s o->cA A.l i s o:=λ{i s o} w d=>(by rw[el]at d;rcases d.set with⟨_,h⟩|⟨_,h,_⟩;all_goals simp_all);have D:fo 1:=.inl rfl
 refine⟨h.P,by rw[eq.1,eq.2.1];exact h.Q,λi s o w d=>h.obj i s o w (back w d),λi j s r c a f g w H d C=>h.un i j s r c a f g w H (back w d) (back H C),λi a f d=>by rw[E];exact h.hF i a f (back D d),
  λi j a b f g s r d C=>by rw[E];exact h.nA i j a b f g s r (back D d) (back D C),λi j a b f g u v d C=>h.q6 i j a b f g u v (back D d) (back D C),by rw[E];exact h.rN,λi s a f w d=>by rw[N];exact h.my i s a f w (back w d),λi c a f d=>by rw[O];exact h.aZ i c a f (back (.inr rfl) d),by rw[eq.2.2];exact h.gb⟩
theorem ck.tX(h:ck top A S){o:aq.fc}{g:Int}(a0:cA A.l k 1 o)(el:a8.l=A.l.set k ⟨o,2,g⟩)(O:a8.aL=A.aL)(Z:a8.own=A.own)(ah:a8.aZ=λi=>if i=k then λx=>S.m (o.a.toNat+x)else A.aZ i)(eq:a8.Q=A.Q/\a8.bE=A.bE/\a8.np=A.np):ck top a8 S:=by
 have back:∀{i s w},cA a8.l i s w->(i≠k/\cA A.l i s w)\/(i=k/\s=2/\w=o/\cA A.l i 1 w):=λ{i s w} d=>(by rw[el]at d;rcases d.set with h|⟨rfl,W,aW⟩;all_goals simp_all);have N:∀{i s w},fo s->cA a8.l i s w->∃r,fo r/\cA A.l i r w:=λ{i s w} C d=>(by rcases back d with⟨_,h⟩|⟨_,_,_,h⟩;grind;exact⟨1,.inl rfl,h⟩);have D:∀{i w},cA a8.l i 1 w->cA A.l i 1 w:=λ{i w} d=>cr
 refine⟨h.P,by rw[eq.1,eq.2.1];exact h.Q,λi s o C d=>?_,λi j s r c a f g C H d E=>?_,λi a f d=>by rw[O];exact h.hF i a f (D d),
  λi j a b f g s r d E=>by rw[O];exact h.nA i j a b f g s r (D d) (D E),λi j a b f g u v d E=>h.q6 i j a b f g u v (D d) (D E),by rw[O];exact h.rN,λi s a f C d=>?_,λi c a f d w av=>?_,by rw[eq.2.2];exact h.gb⟩
 obtain⟨r,H,V⟩:=N C d;exact h.obj i r o H V;obtain⟨aQ,aB,an⟩:=N C d;obtain⟨aH,az,ar⟩:=N H E;exact h.un i j aQ aH c a f g aB az an ar;rw[Z];obtain⟨r,H,V⟩:=N C d;exact h.my i r a f H V;rw[ah];dsimp only;rcases back d with⟨au,W⟩|⟨rfl,_,rfl,_⟩;rw[al au];exact h.aZ i c a f W w av;rw[ax rfl];rfl
theorem ck.put(h:ck top A S){f g:Int}(a9:∀s o,cA A.l k s o->¬fo s)(a5:1<=c/\c<=5\/c=8)(aW:c8 S c a)(aA:∀i s (g:Int),fo s->¬cA A.l i s (bv c a g))(el:a8.l=A.l.set k ⟨bv c a f,1,g⟩)(ar:a8.aL=A.aL)(aH:∀i,i≠k->a8.own i=A.own i)(a4:c=1->cV S.m a=a8.own k)(aQ:a8.aZ=A.aZ)(eq:a8.Q=A.Q/\a8.bE=A.bE/\a8.np=A.np)
 (av:c=2->(∀o,a<=o->o+8<=a+128->cV S.m o=0)/\∀s,A.aL k s=0):ck top a8 S:=by
 have back:∀{i s V},cA a8.l i s V->(i≠k/\cA A.l i s V)\/(i=k/\s=1/\V=bv c a f):=λ{i s V} w=>(by rw[el]at w;rcases w.set with h|⟨rfl,N,an⟩;all_goals simp_all);have z0:∀{d},bv 2 d f=bv c a f->c=2/\d=a:=λ{d} e=>(by grind[i6]);refine⟨h.P,by rw[eq.1,eq.2.1];exact h.Q,λi s o O w=>?_,λi j s r aq d E W O au w D=>?_,λi d E w=>?_,λi j d b E W s r w D O au=>?_,λi j d b E W u v w D hu hv H e=>?_,by rw[ar];exact h.rN,λi s d E O w=>?_,λi aq d E w V a2=>?_,by rw[eq.2.2];exact h.gb⟩;rcases back w with⟨_,N⟩|⟨_,_,rfl⟩;exact h.obj i s o O N;grind;·rcases back w with⟨_,N⟩|⟨rfl,_,e⟩<;>rcases back D with⟨_,an⟩|⟨rfl,_,ah⟩;exact h.un i j s r aq d E W O au N an;all_goals grind[i6]
 ·rw[ar];rcases back w with⟨_,N⟩|⟨rfl,_,e⟩;exact h.hF i d E N;obtain⟨Z,rfl,rfl⟩:=i6 e;(obtain rfl:c=2:=by omega);obtain⟨bb,aB⟩:=av rfl;(have H:∀j,j<16->bp S.m d j=0:=by grind[bp]);have a3:fe 128 (S.C 2) d:=(by rcases aW with⟨_,k⟩|⟨k,_⟩;all_goals trivial);exact⟨⟨a3,λj D k=>absurd (H j D) k,λj _ D _ _ k=>absurd (H j D) k,λj D k=>absurd (H j D) k,λj D k=>absurd (H j D) k⟩,λs O=>⟨by rw[d7,ax (H _ U),aB],λk=>absurd (aB s) k⟩⟩
 ·rw[ar];intro N an e;rcases back w with⟨_,bS⟩|⟨rfl,_,Z⟩<;>rcases back D with⟨_,az⟩|⟨rfl,_,ah⟩;exact h.nA i j d b E W s r bS az O au N an e;all_goals grind[i6]
 rcases back w with⟨_,bS⟩|⟨rfl,_,Z⟩<;>rcases back D with⟨_,az⟩|⟨rfl,_,ah⟩;exact h.q6 i j d b E W u v bS az hu hv H e;obtain⟨Z,rfl,_⟩:=i6 ah;exact absurd (e.trans ((av U).1 _ U U)) H;obtain⟨ah,rfl,_⟩:=i6 Z;exact absurd ((av U).1 _ U U) H;trivial;rcases back w with⟨a0,bS⟩|⟨rfl,_,e⟩;rw[aH i a0];exact h.my i s d E O bS;grind[i6];rw[aQ];rcases back w with⟨_,bS⟩|⟨_,e,_⟩;exact h.aZ i aq d E bS V a2;trivial
theorem ck.BQ{Y X:Nat->Nat->Prop}(h:ck top A S)(g:gd top S bc Y X){f:Int}(a3:cA A.l k 1 (bv 2 a f))(el:a8.l=A.l)(bK:a8.own=A.own)(bR:a8.aZ=A.aZ)(bW:bc.Q=a8.Q/\bc.bE=a8.bE)(aH:∀i,i≠k->a8.aL i=A.aL i)
 (aQ:∀c b,X c b->(c=2/\b=a)\/(c=7/\∃j,j<16/\bp S.m a j≠0/\bp S.m a j=b)\/(c=6/\∃s,s<256/\A.aL k s≠0/\dU S.m a s=b)) (b2:∀c b,Y c b->c≠2)
 (b1:gg top bc a) (bb:∀s,s<256->d7 bc.m a s=a8.aL k s/\(a8.aL k s≠0->c8 bc 6 (dU bc.m a s)/\((A.aL k s≠0/\dU bc.m a s=dU S.m a s)\/¬c8 S 6 (dU bc.m a s))))
 (br:∀s r,s<256->r<256->a8.aL k s≠0->a8.aL k r≠0->dU bc.m a s=dU bc.m a r->s=r) (bd:∀j,j<16->bp bc.m a j≠0->(bp S.m a j≠0/\bp bc.m a j=bp S.m a j)\/¬c8 S 7 (bp bc.m a j)) (an:gQ (960/cg 6) (bc.C 6)=oF a8.aL) (bY:(dp bc.C bc.Fr).length<=a8.np):ck top a8 bc:=by
 have bi:fo 1:=.inl rfl;have bj:∀{i s} {c b:Nat} {E},i≠k->fo s->cA A.l i s (bv c b E)->(c<=5\/c=8)->¬X c b:=λ{i s c b E} aB H D a2 a0=>(by rcases aQ c b a0 with⟨rfl,rfl⟩|⟨rfl,_⟩|⟨rfl,_⟩;exact aB (h.un i k s 1 2 b E f H bi D a3);all_goals trivial);have au:∀{i b E},i≠k->cA A.l i 1 (bv 2 b E)->_:=λ{i b E} aB D=>(h.hF i b E D).1.mZ g (bj (c:=2) aB bi D U) λj N V a0=>(by rcases aQ 7 _ a0 with⟨e,_⟩|⟨_,u,hu,ah,aq⟩|⟨e,_⟩;trivial;exact aB (h.q6 k i a b f E u j a3 D hu N ah aq).symm;trivial);have a4:∀{b E},cA A.l k 1 (bv 2 b E)->b=a:=by grind[cA,i6]
 refine⟨g.P,bW,λi s o H D=>?_,by rw[el];exact h.un,λi b E D=>?_,λi j b d E av s r D N H ar ah aq e=>?_,λi j b d E av u v D N hu hv V e=>?_,an,λi s b E H D=>?_,λi c b E D o b0=>?_,bY⟩;·rw[el]at D;obtain⟨c,b,E,rfl,a2,aW⟩:=h.obj i s o H D;refine⟨c,b,E,rfl,a2,?_⟩;refine g.p c b aW λa9=>?_;rcases aQ c b (g.p8 c b a9)with⟨rfl,rfl⟩|⟨rfl,_⟩|⟨rfl,_⟩;all_goals grind
 rw[el]at D;by_cases e:i=k;grind;obtain⟨bS,b6,be⟩:=au e D;obtain⟨_,bf⟩:=h.hF i b E D;refine⟨bS,λs H=>?_⟩;rw[(be s H).1,(be s H).2,aH i e];refine⟨(bf s H).1,λV=>g.p 6 _ ((bf s H).2 V) λa9=>?_⟩;rcases aQ 6 _ (g.p8 _ _ a9)with⟨bt,_⟩|⟨bt,_⟩|⟨_,r,ar,ah,aq⟩;trivial;trivial;exact e (h.nA k i a b f E r s a3 D ar H ah V aq).1.symm;rw[el]at D N;by_cases W:i=k<;>by_cases Z:j=k;grind;subst W;obtain rfl:=a4 D;rw[aH j Z]at aq;rw[((au Z N).2.2 r ar).2]at e;rcases((bb s H).2 ah).2 with⟨O,az⟩|O;rw[az]at e;exact absurd (h.nA i j b d E av s r D N H ar O aq e).1.symm Z;rw[e]at O;exact absurd (((h.hF j d av N).2 r ar).2 aq) O;subst Z;obtain rfl:=a4 N;rw[aH i W]at ah;rw[((au W D).2.2 s H).2]at e;rcases((bb r ar).2 aq).2 with⟨O,az⟩|O;rw[az]at e;exact absurd (h.nA i j b d E av s r D N H ar ah O e).1 W;rw[<-e]at O;exact absurd (((h.hF i b E D).2 s H).2 ah) O;rw[aH i W]at ah;rw[aH j Z]at aq;rw[((au W D).2.2 s H).2,((au Z N).2.2 r ar).2]at e;exact h.nA i j b d E av s r D N H ar ah aq e;rw[el]at D N;by_cases W:i=k<;>by_cases Z:j=k;omega;subst W;obtain rfl:=a4 D;rw[(au Z N).2.1 v hv]at e;rcases bd u hu V with⟨O,az⟩|O;rw[az]at e;exact h.q6 i j b d E av u v D N hu hv O e;rw[e]at O V;exact absurd (h.leaf N hv V) O;subst Z;obtain rfl:=a4 N;rw[(au W D).2.1 u hu]at e V;rcases bd v hv (e▸V)with⟨O,az⟩|O;rw[az]at e;exact h.q6 i j b d E av u v D N hu hv V e;rw[<-e]at O;exact absurd (h.leaf D hu V) O;rw[(au W D).2.1 u hu]at e V;rw[(au Z N).2.1 v hv]at e;exact h.q6 i j b d E av u v D N hu hv V e;rw[el]at D;rw[bK];obtain⟨c,bl,f9,e,a2,aW⟩:=h.obj i s _ H D;obtain⟨W,rfl,rfl⟩:=i6 e;obtain rfl:c=1:=by omega
 rw[g.w aW (λa0=>by rcases aQ 1 b a0 with⟨e,_⟩|⟨e,_⟩|⟨e,_⟩<;>omega) (Vm b) (by have:bD 1=64:=rfl;omega)];exact h.my i s b E H D;rw[el]at D;rw[bR];obtain⟨a5,bl,f9,e,a2,aW⟩:=h.obj i 2 _ (.inr rfl) D;obtain⟨W,rfl,rfl⟩:=i6 e;obtain rfl:a5=c:=U
 have aB:i≠k:=λe=>absurd ((e▸D).inj a3).1 am;rw[g.m a5 b aW (bj aB (.inr rfl) D U) _ U U];exact h.aZ i a5 b E D o b0
end Go.Proofs.Q
namespace Go.Proofs.Q
open Go Go.QM
def fi(aL:Nat->Nat->Nat)(i s v:Nat):Nat->Nat->Nat:=λj r=>if j=i/\r=s then v else aL j r
theorem ij(aL:Nat->Nat->Nat)(i s v:Nat):fi aL i s v i s=v:=ax ⟨rfl,rfl⟩
variable{i:Nat}
theorem ls{aL:Nat->Nat->Nat}{s v j r:Nat}(h:j≠i\/r≠s):fi aL i s v j r=aL j r:=al λk=>h.elim (λh=>h k.1) λh=>h k.2
theorem kS{aL:Nat->Nat->Nat}{s v r:Nat}(h:r≠s):fi aL i s v i r=aL i r:=ls (.inr h)
theorem ID{top:Nat}{S:cT}{c:Nat}{y:Nat×Nat×List cj}(u:c∈cls)(g:iU top S c y)(d:Nat):gQ (960/cg d) (dK S.C c y.2.2 d)=gQ (960/cg d) (S.C d)+if d=c then 1 else 0:=by by_cases e:d=c;subst e;rw[ax rfl,jy];exact g.m1.used (by have:=Du u;omega);rw[al e,jb _ _ e,Nat.add_zero]
theorem IC{top:Nat}{S:cT}(u:dg top S){c aD:Nat}{L':List cj}(w:c∈cls)(g:jT top S c aD i L')(d:Nat):gQ (960/cg d) (dK S.C c L' d)+(if d=c then 1 else 0)=gQ (960/cg d) (S.C d):=by by_cases e:d=c;subst e;rw[ax rfl,jy];exact g.nm.used (u.ok d w).inv;rw[al e,jb _ _ e,Nat.add_zero]
theorem ip:(6:Nat)∈cls:=by decide
theorem c8.jN{S:cT}{c a:Nat}(d:c∈cls)(h:c8 S c a):fe (cg c) (S.C c) a:=by rcases h with⟨_,k⟩|⟨rfl,_⟩;all_goals trivial
theorem kN{m:Nat->Nat}{o x:Nat}{L:List Nat}(h:x<o\/o+8*L.length<=x):dB m o L x=m x:=by rw[dB,j2,al U]
theorem vq{m:Nat->Nat}{o n x:Nat}(h:x<o\/o+n<=x):hf m o n x=m x:=by rw[hf,al U]
def bR.lay(A:bR)(i s w:Nat)(Q:List aB.bY):bR:={A with Q:=Q,aL:=fi A.aL i s w,np:=A.np+2}
theorem Lq{A:bR}{s w:Nat}(d:i<256)(hs:s<256)(C:A.aL i s=0)(hw:w≠0):oF (fi A.aL i s w)=oF A.aL+1:=by
 have:=zk (aL:=A.aL) (ni:=fi A.aL i s w) d hs λj r h=>ls h;have u:ba (fi A.aL i s w i s)=1:=by rw[ij];exact al hw
 grind[ba]
theorem Lp{A:bR}{s:Nat}(u:i<256)(hs:s<256)(d:A.aL i s≠0):oF (fi A.aL i s 0)+1=oF A.aL:=by
 have:=zk (aL:=A.aL) (ni:=fi A.aL i s 0) u hs λj r h=>ls h;have w:ba (fi A.aL i s 0 i s)=0:=by grind[ba,ij]
 have eB:ba (A.aL i s)=1:=al d;omega
theorem cA.lt{l:List aq.bW}(d:aq.dO l){s:Int}{o:aq.fc}(h:cA l i s o):i<256:=by obtain⟨g,h⟩:=h;exact d.lt h
section
variable {top : Nat} {A : bR} {S cp dI bc : cT} {i a s w : Nat} {f : Int}
theorem ck.node(h:ck top A S)(w:cA A.l i 1 (bv 2 a f)){y:Nat×Nat×List cj}(g:iU top S 6 y)(e:cp=kd S f 6 (some y)):
 gd top S cp hS hS/\c8 cp 6 (addr 6 y)/\¬c8 S 6 (addr 6 y)/\gg top cp a/\(∀j,j<16->bp cp.m a j=bp S.m a j)/\∀r,r<256->d7 cp.m a r=A.aL i r/\dU cp.m a r=dU S.m a r:=by obtain⟨g1,g2⟩:=wF (bc:=cp) h.P ip g rM rM (λo C=>by rw[e];exact vq C);obtain⟨t1,t2⟩:=h.hF i a f w;obtain⟨bS,D,u⟩:=t1.mZ g1 (λh=>h) λ_ _ _ h=>h;exact⟨g1,g2,λk=>g.uJ h.P ip k ⟨rfl,rfl⟩,bS,D,λr d=>⟨(u r d).1.trans (t2 r d).1,(u r d).2⟩⟩
theorem ck.lay(a0:aq.dO A.l)(h:ck top A S)(N:cA A.l i 1 (bv 2 a f))(hs:s<256)(ar:A.aL i s=0)(hw:w≠0){y:Nat×Nat×List cj}(g:iU top S 6 y)(e:cp=kd S f 6 (some y)){Y X:Nat->Nat->Prop}(g2:gd top cp bc Y X)(av:bc.C 6=cp.C 6)
 (W:gg top bc a) (au:d7 bc.m a s=w) (aR:dU bc.m a s=addr 6 y) (aB:∀r,r<256->r≠s->d7 bc.m a r=d7 cp.m a r/\dU bc.m a r=dU cp.m a r) (aW:(dp bc.C bc.Fr).length<=(dp cp.C cp.Fr).length+1)
 (aH:∀c b,X c b->(c=2/\b=a)\/(c=7/\∃j,j<16/\bp S.m a j≠0/\bp S.m a j=b)) (ah:∀c b,¬Y c b) (az:∀j,j<16->bp bc.m a j≠0->(bp S.m a j≠0/\bp bc.m a j=bp S.m a j)\/¬c8 S 7 (bp bc.m a j)):ck top (A.lay i s w bc.Q) ⟨bc.Q,A.bE,bc.C,bc.Fr,bc.m⟩:=by
 obtain⟨g1,ba,bC,t1,t2,t3⟩:=h.node N g e;have an:c8 bc 6 (addr 6 y):=by grind[c8]
 have a2:(dp bc.C bc.Fr).length<=A.np+2:=(by have E:=g.len;(have d:cp.C=dK S.C 6 y.2.2/\cp.Fr=S.Fr:=by rw[e];exact⟨rfl,rfl⟩);rw[d.1,d.2]at aW;have:=h.gb;omega);have V:∀r,r<256->r≠s->dU bc.m a r=dU S.m a r:=b4
 refine h.BQ (Y:=Y) (X:=X) ⟨g2.P.mem rfl rfl,λc b k an=>g2.p c b (g1.p c b k λh=>h) an,λc b k an o E d=>(g2.m c b (g1.p c b k λh=>h) an o E d).trans (g1.m c b k (λh=>h) o E d),g2.p8⟩ N rfl rfl rfl ⟨rfl,rfl⟩ (λj aQ=>funext λr=>ls (.inl aQ)) (λc b a3=>(aH c b a3).imp_right .inl) (λc b a4=>absurd a4 (ah c b)) ⟨W.tk,W.fG,W.bA,W.ne,W.J⟩ (λr H=>?_) (λr u H hu E d he=>?_) az ?_ a2;by_cases D:r=s;subst D;dsimp only[bR.lay];rw[ij];exact⟨au,λ_=>⟨by rw[aR];exact an,.inr (by rw[aR];exact bC)⟩⟩;dsimp only[bR.lay];rw[kS D];refine⟨(aB r H D).1.trans (t3 r H).1,λZ=>?_⟩;rw[V r H D];exact⟨g2.p _ _ (g1.p _ _ (((h.hF i a f N).2 r H).2 Z) λh=>h) (ah _ _),.inl ⟨Z,rfl⟩⟩;dsimp only[bR.lay]at E d he;by_cases O:r=s<;>by_cases D:u=s;omega;subst O;rw[kS D]at d;rw[aR,V u hu D]at he;exact absurd (((h.hF i a f N).2 u hu).2 d) (by rw[<-he];exact bC);subst D;rw[kS O]at E;rw[aR,V r H O]at he;exact absurd (((h.hF i a f N).2 r H).2 E) (by rw[he];exact bC);rw[kS O]at E;rw[kS D]at d;rw[V r H O,V u hu D]at he;exact(h.nA i i a a f f r u N N H hu E d he).2;dsimp only[bR.lay];rw[Lq (N.lt a0) hs ar hw,<-h.rN,av,e];exact ID ip g 6
theorem ck.Ar(W:aq.dO A.l)(h:ck top A S)(E:cA A.l i 1 (bv 2 a f))(hs:s<256)(O:A.aL i s=0)(hw:w≠0)(Z:w<2^64){y:Nat×Nat×List cj}(g:iU top S 6 y)(e:cp=kd S f 6 (some y))(hr:bp cp.m a (s/16)≠0)
 (d:bc=⟨cp.Q,cp.bE,cp.C,cp.Fr,dB cp.m (bp cp.m a (s/16)+s %16*16) [w,addr 6 y]⟩):ck top (A.lay i s w (aB.df A.Q f 48).1) bc:=by
 obtain⟨g1,ba,bC,t1,t2,t3⟩:=h.node E g e;have u:s/16<16:=U
 have aQ:=t1.rK g1.P u hr;have a0:2^top<=128:=Vk (n:=2) am h.P.fX.2;have aW:=c8.bd g1.P ba;have av:cg 7=256:=rfl;obtain⟨bS,ah,an,ar,au⟩:=t1.s9 g1.P hs hr Z (b:=addr 6 y) U (λk=>absurd k hw) (.inl hw) (bc:=bc) (by rw[d]) (by rw[d]);have V:c8 cp 7 (bp cp.m a (s/16)):=.inl ⟨fM,t1.fG _ u hr⟩;have g2:gd top cp bc hS (fy 7 (bp cp.m a (s/16))):=oH g1.P V (by rw[d]) (by rw[d]) λo D=>(by rw[d];exact kN (by(have az:bD 7=256:=rfl);simp only[VC,W3];omega));have aO:=h.lay W E hs O hw g e g2 (by rw[d]) bS an ar au (by rw[d];exact Nat.le_succ _) (λc b N=>.inr ⟨N.1,s/16,u,by rw[<-t2 _ u];exact hr,by rw[N.2,t2 _ u]⟩) (λ_ _ h=>h) λj H D=>.inl (by rw[ah j H,t2 j H]at D⊢;exact⟨D,rfl⟩);have aH:bc.Q=(aB.df A.Q f 48).1/\bc.bE=A.bE:=(by rw[d,e];exact⟨by rw[<-h.Q.1];rfl,h.Q.2⟩);simp_all
theorem ck.Aq(an:aq.dO A.l)(h:ck top A S)(V:cA A.l i 1 (bv 2 a f))(hs:s<256)(Z:A.aL i s=0)(hw:w≠0)(ar:w<2^64){y z:Nat×Nat×List cj}(g:iU top S 6 y)(e:cp=kd S f 6 (some y))(hr:bp cp.m a (s/16)=0)(E:iU top cp 7 z)
 (d:bc=u4 cp f a s w (addr 6 y) (some z)):ck top (A.lay i s w (aB.df (aB.df A.Q f 48).1 f 256).1) bc:=by
 obtain⟨g1,ba,bC,t1,t2,t3⟩:=h.node V g e;have a8:s/16<16:=U
 have a9:2^top<=128:=Vk (n:=2) am h.P.fX.2;have a5:=c8.bd g1.P ba;have aW:cg 7=256:=rfl;obtain⟨bS,au,bb,av,az,aH,be⟩:=t1.Sm g1.P hs hr ar (b:=addr 6 y) U hw E (bc:=bc) (by rw[d];rfl) (by rw[d];rfl);obtain⟨u,gY⟩:=wF (bc:=⟨bc.Q,bc.bE,bc.C,bc.Fr,dB (hf cp.m (addr 7 z) 256) (addr 7 z+s %16*16) [w,addr 6 y]⟩) g1.P fM E (by rw[d];rfl) (by rw[d];rfl) λo O=>(by grind[kN,vq]);have H:c8 cp 2 a:=.inl ⟨c2,t1.tk⟩;have a3:=c8.apart u.P (u.p _ _ H λh=>h) gY (.inl (show(2:Nat)≠7 by decide));have a0:bD 2=128:=rfl;have aQ:bD 7=256:=rfl;have g2:gd top cp bc (λc b=>hS c b\/hS c b) (λc b=>hS c b\/fy 2 a c b):=u.trans (oH u.P (u.p _ _ H λh=>h) rfl rfl λo O=>by rw[d];dsimp only[u4];by_cases a2:addr 7 z+s %16*16<=o/\o<addr 7 z+s %16*16+16;rw[dB,j2,ax jq,dB,j2,ax jq];rw[kN jq,kN jq,kN jq]);have ah:bc.C 6=cp.C 6:=by rw[d];exact jb cp.C z.2.2 (show(6:Nat)≠7 by decide)
 have aO:=h.lay an V hs Z hw g e g2 ah bS av az aH (by rw[d];exact E.len) (λc b D=>.inl (by rcases D with D|D;exact D.elim;exact D)) (λ_ _ h=>h.elim id id) λj a4 O=>(by by_cases W:j=s/16;subst W;rw[au];exact .inr λk=>E.uJ g1.P fM (g1.p _ _ k λh=>h) ⟨rfl,rfl⟩;simp_all);have N:bc.Q=(aB.df (aB.df A.Q f 48).1 f 256).1/\bc.bE=A.bE:=(by rw[d,e];exact⟨by rw[<-h.Q.1];rfl,h.Q.2⟩);rw[<-N.1];have:bc=⟨bc.Q,A.bE,bc.C,bc.Fr,bc.m⟩:=by rw[<-N.2]
 grind
end
end Go.Proofs.Q
namespace Go.Proofs.Q
open Go Go.QM
variable [cZ]
def bR.bare(A:bR)(i s:Nat)(Q:List aB.bY):bR:={A with Q:=Q,aL:=fi A.aL i s 0}
def bR.set(A:bR)(i s w:Nat):bR:={A with aL:=fi A.aL i s w}
section
variable {top : Nat} {A : bR} {S dI bc : cT} {i a s w : Nat} {f : Int}
theorem ck.bare(a2:aq.dO A.l)(h:ck top A S)(E:cA A.l i 1 (bv 2 a f))(hs:s<256)(Z:A.aL i s≠0){Y X:Nat->Nat->Prop}(g:gd top S dI Y X)(a5:∀c b,X c b->(c=2/\b=a)\/(c=7/\∃j,j<16/\bp S.m a j≠0/\bp S.m a j=b))(aW:∀c b,Y c b->c=7)
 (aQ:gg top dI a) (a3:d7 dI.m a s=0) (ah:∀r,r<256->r≠s->d7 dI.m a r=d7 S.m a r/\(d7 S.m a r≠0->dU dI.m a r=dU S.m a r)) (aH:dI.C 6=S.C 6) (a8:(dp dI.C dI.Fr).length<=(dp S.C S.Fr).length) (a4:∀j,j<16->bp dI.m a j≠0->bp dI.m a j=bp S.m a j)
 {aD i0:Nat} {L':List cj} (aV:jT top dI 6 aD i0 L') (a0:dU S.m a s=aD*1024+64+i0*48) (Q:List aB.bY):ck top (A.bare i s Q) ⟨Q,A.bE,dK dI.C 6 L',dI.Fr,dI.m⟩:=by
 obtain⟨t1,t2⟩:=h.hF i a f E;have g2:gd top dI ⟨Q,A.bE,dK dI.C 6 L',dI.Fr,dI.m⟩ (fy 6 (dU S.m a s)) (fy 6 (dU S.m a s)):=wE g.P ip aV a0 rfl rfl rfl;obtain⟨bS,a9,bb⟩:=aQ.mZ g2 (λh=>absurd h.1 am) λ_ _ _ h=>absurd h.1 am;have W:∀r,r<256->r≠s->A.aL i r≠0->dU dI.m a r=dU S.m a r/\c8 S 6 (dU S.m a r)/\dU S.m a r≠dU S.m a s:=λr d ar D=>(by refine⟨(ah r d ar).2 (by rw[(t2 r d).1];exact D),(t2 r d).2 D,λe=>ar (h.nA i i a a f f r s E E d hs D Z e).2⟩);refine h.BQ (g.trans g2) E rfl rfl rfl ⟨rfl,rfl⟩ (λj an=>funext λr=>ls (.inl an)) (λc b au=>?_) (λc b w=>?_) bS (λr d=>?_) (λr u d hu O V he=>?_) (λj an D=>?_) ?_ ?_;·rcases au with au|⟨rfl,rfl⟩;all_goals grind
 rcases w with w|w;grind;have:=w.1;omega;dsimp only[bR.bare];by_cases e:r=s;grind[ij];rw[kS e];refine⟨(ah r d e).1.trans (t2 r d).1,λD=>?_⟩;obtain⟨H,N,av⟩:=W r d e D;rw[H];exact⟨g2.p _ _ (g.p _ _ N λw=>absurd (aW _ _ w) am) λw=>av w.2,.inl ⟨D,rfl⟩⟩;dsimp only[bR.bare]at O V he;have H:r≠s:=by grind[ij]
 have N:u≠s:=by grind[ij]
 rw[kS H]at O;rw[kS N]at V;rw[(W r d H O).1,(W u hu N V).1]at he;exact(h.nA i i a a f f r u E E d hu O V he).2;grind;dsimp only[bR.bare];have az:=IC g.P ip aV 6;rw[ax rfl,aH,h.rN,<-Lp (E.lt a2) hs Z]at az;omega;dsimp only[bR.bare];have:=aV.len;have:=h.gb;omega
theorem ck.fG(h:ck top A S)(u:cA A.l i 1 (bv 2 a f))(hs:s<256)(d:A.aL i s≠0):bp S.m a (s/16)≠0:=λe=>d (by rw[<-((h.hF i a f u).2 s hs).1,d7,ax e])
def l6(A:bR)(i s:Nat):Prop:=∃r,r<256/\r/16=s/16/\r≠s/\A.aL i r≠0
theorem ck.row(h:ck top A S)(w:cA A.l i 1 (bv 2 a f))(hs:s<256)(D:A.aL i s≠0):l6 A i s↔∃j,j<16/\j≠s %16/\cV S.m (bp S.m a (s/16)+j*16)≠0:=by have C:=h.fG w hs D;obtain⟨_,t2⟩:=h.hF i a f w;constructor;rintro⟨r,H,d,E,u⟩;refine⟨r %16,by omega,by omega,?_⟩;rw[<-(t2 r H).1,d7,d,al C]at u;exact u;rintro⟨j,N,d,E⟩;refine⟨s/16*16+j,by omega,by omega,by omega,?_⟩;rw[<-(t2 _ U).1,d7,show(s/16*16+j)/16=s/16 by omega,al C,show(s/16*16+j) %16=j by omega];trivial
theorem ck.Hf(h:ck top A S)(E:cA A.l i 1 (bv 2 a f))(hs:s<256)(C:A.aL i s=0):bp S.m a (s/16)≠0↔l6 A i s:=by
 obtain⟨t1,t2⟩:=h.hF i a f E;constructor;intro w;obtain⟨j,N,d⟩:=t1.ne _ U w;have e:d7 S.m a (s/16*16+j)≠0:=by rw[d7,show(s/16*16+j)/16=s/16 by omega,al w,show(s/16*16+j) %16=j by omega];exact d
 rw[(t2 _ U).1]at e;exact⟨_,by omega,by omega,λu=>e (by rw[u];exact C),e⟩;rintro⟨r,H,d,u,D⟩ e;rw[<-(t2 r H).1,d7,d,ax e]at D;trivial
theorem ck.s9(az:aq.dO A.l)(h:ck top A S)(D:cA A.l i 1 (bv 2 a f))(hs:s<256)(V:A.aL i s≠0)(hw:w≠0)(aB:w<2^64)(d:bc=⟨S.Q,S.bE,S.C,S.Fr,dB S.m (bp S.m a (s/16)+s %16*16) [w,dU S.m a s]⟩):ck top (A.set i s w) bc:=by
 obtain⟨t1,t2⟩:=h.hF i a f D;have N:=h.fG D hs V;have W:s/16<16:=U
 have aW:=t1.rK h.P W N;have a2:2^top<=128:=Vk (n:=2) am h.P.fX.2;have a0:=c8.bd h.P ((t2 s hs).2 V);obtain⟨bS,a3,a4,a5,a8⟩:=t1.s9 h.P hs N aB (b:=dU S.m a s) U (λk=>absurd k hw) (.inl hw) (bc:=bc) (by rw[d]) (by rw[d]);have av:c8 S 7 (bp S.m a (s/16)):=.inl ⟨fM,t1.fG _ W N⟩;have g2:gd top S bc hS (fy 7 (bp S.m a (s/16))):=oH h.P av (by rw[d]) (by rw[d]) λo H=>(by rw[d];exact kN (by(have aQ:bD 7=256:=rfl);simp only[VC,W3];omega));have aR:∀r,r<256->dU bc.m a r=dU S.m a r:=λr E=>cr;have O:∀r,A.aL i r≠0↔(A.set i s w).aL i r≠0:=λr=>(by dsimp only[bR.set];grind[ij,kS]);refine h.BQ g2 D rfl rfl rfl (by rw[d];exact h.Q) (λj ah=>funext λr=>ls (.inl ah)) (λc b an=>.inr (.inl ⟨an.1,s/16,W,N,an.2.symm⟩)) (λc b aH=>aH.elim) bS (λr E=>⟨?_,λH=>?_⟩) (λr u E hu ar au he=>?_) (λj ah H=>.inl ?_) ?_ (by rw[d];exact h.gb);dsimp only[bR.set];grind[ij,kS];rw[aR r E];exact⟨g2.p _ _ ((t2 r E).2 ((O r).2 H)) λh=>h,.inl ⟨(O r).2 H,rfl⟩⟩;rw[aR r E,aR u hu]at he;exact(h.nA i i a a f f r u D D E hu ((O r).2 ar) ((O u).2 au) he).2;simp_all;have Z:=zk (aL:=A.aL) (ni:=(A.set i s w).aL) (D.lt az) hs λj r h=>ls h;dsimp only[bR.set]at Z⊢;rw[ij,ba,ba,al V,al hw]at Z;rw[d];exact h.rN.trans U
theorem ck.yV(W:aq.dO A.l)(h:ck top A S)(d:cA A.l i 1 (bv 2 a f))(hs:s<256)(u:A.aL i s≠0)(hr:l6 A i s)(e:dI=⟨S.Q,S.bE,S.C,S.Fr,dB S.m (bp S.m a (s/16)+s %16*16) [0,0]⟩){aD i0:Nat}{L':List cj}(aV:jT top dI 6 aD i0 L')(O:dU S.m a s=aD*1024+64+i0*48)(Q:List aB.bY):
 ck top (A.bare i s Q) ⟨Q,A.bE,dK dI.C 6 L',dI.Fr,dI.m⟩:=by
 obtain⟨t1,t2⟩:=h.hF i a f d;have w:=h.fG d hs u;have E:s/16<16:=U
 obtain⟨bS,ah,an,av,N⟩:=t1.s9 h.P hs w (a:=0) (b:=0) am am (λ_=>rfl) (.inr ((h.row d hs u).1 hr)) (bc:=dI) jJ jJ;have g:gd top S dI hS (fy 7 (bp S.m a (s/16))):=oH h.P (h.leaf d E w) jJ jJ λo au=>(by rw[e];exact kN (by(have ar:bD 7=256:=rfl);simp only[VC,W3];omega));exact h.bare W d hs u g (λc b H=>.inr ⟨H.1,s/16,E,w,H.2.symm⟩) (λc b Z=>Z.elim) bS an (λr hr D=>⟨(N r hr D).1,λ_=>(N r hr D).2⟩) jJ (by rw[e];exact Vm _) (λj V _=>ah j V) aV O Q
theorem ck.yU(av:aq.dO A.l)(h:ck top A S)(w:cA A.l i 1 (bv 2 a f))(hs:s<256)(H:A.aL i s≠0)(hr:¬l6 A i s){Z i7:Nat}{E:List cj}(g7:jT top S 7 Z i7 E)(W:bp S.m a (s/16)=Z*1024+64+i7*256){ah:List aB.bY}
 (e:dI=⟨ah,S.bE,dK S.C 7 E,S.Fr,dB (dB S.m (bp S.m a (s/16)+s %16*16) [0,0]) (a+s/16*8) [0]⟩) {aD i0:Nat} {L':List cj} (aV:jT top dI 6 aD i0 L') (ar:dU S.m a s=aD*1024+64+i0*48) (Q:List aB.bY):
 ck top (A.bare i s Q) ⟨Q,A.bE,dK dI.C 6 L',dI.Fr,dI.m⟩:=by
 obtain⟨t1,t2⟩:=h.hF i a f w;have D:=h.fG w hs H;have V:s/16<16:=U
 have az:∀j,j<16->j≠s %16->cV S.m (bp S.m a (s/16)+j*16)=0:=λj O au=>Wi λbL=>hr ((h.row w hs H).2 ⟨j,O,au,bL⟩);obtain⟨bS,aH,aQ,aW,a0⟩:=t1.K9 h.P hs D az W g7 (bc:=dI) jJ jJ;have an:c8 S 2 a:=.inl ⟨c2,t1.tk⟩;have a3:bD 7=256:=rfl;have a2:bD 2=128:=rfl;have bo:gd top S ⟨S.Q,S.bE,S.C,S.Fr,dB S.m (bp S.m a (s/16)+s %16*16) [0,0]⟩ hS (fy 7 (bp S.m a (s/16))):=oH h.P (h.leaf w V D) rfl rfl λo N=>kN jq;have gY:gd top _ ⟨S.Q,S.bE,S.C,S.Fr,dI.m⟩ hS (fy 2 a):=oH (bc:=⟨S.Q,S.bE,S.C,S.Fr,dI.m⟩) bo.P (bo.p 2 a an λh=>h) rfl rfl λo N=>(by rw[e];exact kN jq);have gc:gd top _ dI (fy 7 (bp S.m a (s/16))) (fy 7 (bp S.m a (s/16))):=wE gY.P fM (g7.rV rfl rfl) W jJ jJ rfl;refine h.bare av w hs H ((bo.trans gY).trans gc) (λc b d=>?_) (λc b u=>?_) bS aW a0 (by rw[e];exact jb S.C E (show(6:Nat)≠7 by decide)) (by rw[e];exact g7.len) (λj O N=>aQ j O λe=>N (by rw[e];exact aH)) aV ar Q;rcases d with(d|d)|d;exact .inr ⟨d.1,s/16,V,D,d.2.symm⟩;exact .inl d;exact .inr ⟨d.1,s/16,V,D,d.2.symm⟩;rcases u with(u|u)|u;exact u.elim;exact u.elim;exact u.1
end
def dM(h r:Nat):Nat:=h+1+r*4294967296
theorem jL{h r:Nat}(d:h<4294967295)(hr:r<=15):dM h r<2^64/\dM h r≠0:=by rw[dM];omega
structure jA(Q vG:List aB.bY)(bE f d:Int):Prop where
  d8:aB.eV vG bE
  has:∀x,aB.dj vG x↔aB.dj Q x
  fU:∀x,aB.dj Q x->aB.gh vG x=aB.gh Q x+if x=f then d else 0
  par:∀x,aB.lk vG x=aB.lk Q x
theorem GB{Q:List aB.bY}(h:aB.iA Q)(f c x:Int):aB.lk (aB.fR Q f c) x=aB.lk Q x:=by
 by_cases d:aB.dj Q x;obtain⟨t,u,rfl⟩:=d;rw[(aB.iw h u).2.2.2];have hm:(if t.id=f then⟨t.id,t.par,t.lim,c⟩else t:aB.bY)∈aB.fR Q f c:=by grind[aB.ta]
 have:=(aB.iw (BF h f c) hm).2.2.2;grind;rw[(aB.IE d).2.2.2,(aB.IE λh=>d (aB.qX.1 h)).2.2.2]
variable{f bE:Int}
theorem jA.hA{Q:List aB.bY}{n:Int}(h:aB.eV Q bE)(u:(aB.df Q f n).2=0):jA Q (aB.df Q f n).1 bE f n:=by obtain⟨C,D,E,d⟩:=y7 u;refine⟨h.K4 f n,λx=>by rw[d];exact aB.qX,λx w=>?_,λx=>by rw[d];exact GB h.bA _ _ _⟩;rw[d,y8 h.bA w];grind
theorem jA.rV{Q:List aB.bY}{n:Int}(h:aB.eV Q bE)(u:aB.dj Q f)(w:0<=n)(C:n<=aB.gh Q f):(aB.ep Q f n).2=0/\jA Q (aB.ep Q f n).1 bE f (-n):=by have d:=G5 u w C;refine⟨by rw[d],h.Rx f n,λx=>by rw[d];exact aB.qX,λx D=>?_,λx=>by rw[d];exact GB h.bA _ _ _⟩;rw[d];dsimp only;rw[y8 h.bA D];grind
theorem jA.trans{Q u w:List aB.bY}{d e:Int}(h:jA Q u bE f d)(k:jA u w bE f e):jA Q w bE f (d+e):=
 ⟨k.d8,λx=>(k.has x).trans (h.has x),λx C=>by rw[k.fU x ((h.has x).2 C),h.fU x C];split<;>omega,λx=>(k.par x).trans (h.par x)⟩
def j1(e:Nat->Nat)(j:Nat):Nat:=hY 16 λr=>e (16*j+r)
def kP(e:Nat->Nat):Nat:=hY 256 (λs=>48*ba (e s))+hY 16 λj=>256*ba (j1 e j)
theorem su{x:Nat}(h:x≠0):ba x=1:=al h
theorem yT:ba 0=0:=rfl
theorem BK{f:Nat->Nat}{n:Nat}:hY n f≠0↔∃k,k<n/\f k≠0:=by constructor;intro h;refine Wi λan=>h (pX λi u=>Wi λd=>an ⟨i,u,d⟩);grind[u7]
theorem Te{e e':Nat->Nat}{s:Nat}(hs:s<256)(u:e s≠0)(hw:e' s≠0)(he:∀r,r≠s->e' r=e r):kP e'=kP e:=by have d:∀r,ba (e' r)=ba (e r):=λr=>(by grind[su]);rw[kP,kP,rY λr _=>by rw[d r],rY (f:=λj=>256*ba (j1 e' j)) (g:=λj=>256*ba (j1 e j)) λj _=>?_];have:j1 e' j≠0↔j1 e j≠0:=(by grind[j1,BK]);by_cases h:j1 e j=0;simp_all;grind[su]
theorem BS{e e':Nat->Nat}{s:Nat}(hs:s<256)(u:e s=0)(hw:e' s≠0)(he:∀r,r≠s->e' r=e r):kP e'=kP e+48+256*(1-ba (j1 e (s/16))):=by
 have w:=pW (f:=λr=>48*ba (e r)) (g:=λr=>48*ba (e' r)) hs λr _ d=>by rw[he r d]
 have C:=pW (f:=λj=>256*ba (j1 e j)) (g:=λj=>256*ba (j1 e' j)) (n:=16) (k:=s/16) U λj _ d=>(by grind[j1,rY]);rw[u,yT,su hw]at w;rw[su (show j1 e' (s/16)≠0 from BK.2 ⟨s %16,by omega,by rw[show 16*(s/16)+s %16=s by omega];exact hw⟩)]at C;grind[ba,kP]
def h4(A:bR)(x:Int)(i:Nat):Nat:=match A.l[i]? with
  | some p=>if(p.st=1\/p.st=2)/\p.o.f=x then bD p.o.k.toNat+(if p.st=1/\p.o.k=2 then kP (A.aL i)else 0)else 0
  | none=>0
instance (s:Int):Decidable (fo s):=inferInstanceAs (Decidable (s=1\/s=2))
def pj(A:bR)(x:Int):Nat:=hY 256 (h4 A x)
variable{A:bR}
theorem nW{i:Nat}{s:Int}{o:aq.fc}(h:cA A.l i s o)(x:Int):h4 A x i=if fo s/\o.f=x then bD o.k.toNat+(if s=1/\o.k=2 then kP (A.aL i)else 0)else 0:=by obtain⟨g,h⟩:=h;rw[h4,h];rfl
structure cc(A:bR):Prop where
  ok:aq.dO A.l
  d8:aB.eV A.Q A.bE
  rt:(∃a,A.l[0]? =some ⟨bv 1 a 0,1,0⟩)/\A.own 0=0
  ac:∀i s o,fo s->cA A.l i s o->aB.dj A.Q o.f/\bD o.k.toNat≠0
  cY:∀i s a f,fo s->cA A.l i s (bv 1 a f)->aB.dj A.Q (A.own i)/\(i≠0->A.own i≠0/\aB.lk A.Q (A.own i)=f)
  nl:∀i j s r a b f g,fo s->fo r->cA A.l i s (bv 1 a f)->cA A.l j r (bv 1 b g)->A.own i=A.own j->i=j
  aL:∀i s,A.aL i s≠0->s<256/\(∃a f,cA A.l i 1 (bv 2 a f))/\∃h r:Nat,A.aL i s=dM h r/\1<=r/\r<=15/\h<4294967295/\(aq.cW A.l h).2=0
  hA:∀x,aB.dj A.Q x->aB.gh A.Q x=pj A x
  kI:∀h:Int,(∃p,aq.dV A.l h 2=some p)/\0<=h↔h∈A.q.map (·.1)
  mA:(A.q.map (·.1)).Nodup
  mB:∀t∈A.q,A.now<t.2/\t.2<=A.now+A.pd
  m5:A.q.Pairwise λa b=>a.2<=b.2
  pd:(1<=A.pd/\A.pd<=16)/\0<=A.now
  bd:A.bE<=A.np/\A.now<=A.np/\A.np<=1000000
variable{k:Nat}
theorem pK{l:List aq.bW}{p:aq.bW}{h st:Int}(d:(h %256).toNat≠k):aq.dV (l.set k p) h st=aq.dV l h st:=by grind[aq.dV]
theorem n4{l:List aq.bW}{h:Int}(d:0<=h)(u:(aq.cW l h).2=0):∃i p,aq.dV l h 1=some (i,p)/\l[i]? =some p/\p.st=1/\i<256/\h=p.c3*256+i/\(h %256).toNat=i/\aq.cW l h=(p.o,0):=by grind[aq.cW,aq.m2]
theorem uA{l:List aq.bW}{i:Nat}{p:aq.bW}(d:i<256)(h:l[i]? =some p):aq.dV l (p.c3*256+i) p.st=some (i,p):=by
 have e:((p.c3*256+(i:Int)) %256).toNat=i:=U
 rw[aq.dV,e,h];grind
theorem cc.t6(h:cc A){i a s w np:Nat}{d:Int}(u:cA A.l i 1 (bv 2 a f))(hs:s<256){Q:List aB.bY}(C:jA A.Q Q A.bE f d)(an:(kP (fi A.aL i s w i):Int)=kP (A.aL i)+d)(hw:w=0\/∃h r:Nat,w=dM h r/\1<=r/\r<=15/\h<4294967295/\(aq.cW A.l h).2=0)(ar:A.np<=np/\np<=1000000):cc {A with Q:=Q,aL:=fi A.aL i s w,np:=np}:=by have V:=u.lt h.ok;refine⟨h.ok,C.d8,h.rt,λi s o hs u=>⟨(C.has _).2 (h.ac i s o hs u).1,(h.ac i s o hs u).2⟩,λi s a f hs u=>?_,h.nl,λj r H=>?_,λx Z=>?_,h.kI,h.mA,h.mB,h.m5,h.pd,?_⟩;obtain⟨D,E⟩:=h.cY i s a f hs u;dsimp only;exact⟨(C.has _).2 D,λO=>⟨(E O).1,by rw[C.par];exact(E O).2⟩⟩;dsimp only at H⊢;by_cases e:j=i/\r=s;grind[ij];have N:j≠i\/r≠s:=U;rw[ls N]at H⊢;exact h.aL j r H;have P:=(C.has x).1 Z;have D:=pW (f:=h4 A x) (g:=h4 {A with Q:=Q,aL:=fi A.aL i s w,np:=np} x) V λj _ W=>(by rw[h4,h4];dsimp only;rw[show fi A.aL i s w j=A.aL j from funext λr=>ls (.inl W)]);rw[nW (A:=A) u x,nW (A:={A with Q:=Q,aL:=fi A.aL i s w,np:=np}) u x]at D;have E:=h.hA x P;have ah:=C.fU x P;rw[pj]at E⊢;dsimp only at D⊢;have hu:fo 1:=.inl rfl;have N:((bv 2 a f).f=x)=(f=x):=rfl;by_cases e:f=x;have bS:fo 1/\(bv 2 a f).f=x:=⟨hu,e⟩;have au:(1:Int)=1/\(bv 2 a f).k=2:=⟨rfl,rfl⟩;grind;grind;have:=h.bd;grind
theorem HZ{e:Nat->Nat}(h:∀s,e s=0):kP e=0:=by rw[kP,pX λs _=>by rw[h s];rfl,pX λj _=>by rw[j1,pX λr _=>h _];rfl]
theorem cc.zt(h:cc A){s:Int}{o:aq.fc}(D:cA A.l k s o)(hs:s≠1\/o.k≠2)(r:Nat):A.aL k r=0:=Wi λw=>by
 obtain⟨_,⟨a,f,C⟩,_⟩:=h.aL k r w
 obtain⟨d,u⟩:=D.inj C
 rcases hs with hs|hs
 ·exact hs d
 exact hs (by rw[u];rfl)
theorem cc.lt(h:cc A){i:Nat}{p:aq.bW}(d:A.l[i]? =some p):i<256/\0<=p.c3/\p.c3<=1048575:=⟨h.ok.lt d,h.ok.c3 p (Vi d)⟩
theorem cc.put(h:cc A){c a np:Nat}{g:Int}{dx:aq.fc}{Q:List aB.bY}{own:Nat->Nat}(ah:A.l[k]? =some ⟨dx,0,g⟩)(a9:bD c≠0)(aA:aB.dj A.Q f)(aw:aB.eV Q bE)
 (an:∀x,aB.dj A.Q x->aB.dj Q x/\aB.gh Q x=aB.gh A.Q x+(if x=f then(bD c:Int)else 0)/\aB.lk Q x=aB.lk A.Q x)
 (bi:∀x,aB.dj Q x->¬aB.dj A.Q x->aB.gh Q x=0) (aQ:c=1->aB.dj Q (own k)/\¬aB.dj A.Q (own k)/\own k≠0/\aB.lk Q (own k)=f)
 (N:∀i,i≠k->own i=A.own i) (bj:A.np<=np/\np<=1000000) (bb:bE<=np):cc {A with l:=A.l.set k ⟨bv c a f,1,g⟩,Q:=Q,bE:=bE,own:=own,np:=np}:=by
 obtain⟨az,a5⟩:=h.lt ah;have bl:∀r,A.aL k r=0:=λr=>h.zt (k:=k) (s:=0) ⟨g,ah⟩ (.inl am) r;have a8:k≠0:=λe=>(by obtain⟨⟨b,u⟩,_⟩:=h.rt;simp_all);have back:∀{i s o},cA (A.l.set k ⟨bv c a f,1,g⟩) i s o->(i≠k/\cA A.l i s o)\/(i=k/\s=1/\o=bv c a f):=λ{i s o} C=>(by rcases C.set with h|⟨e,O,P⟩;all_goals simp_all);have key:∀{b:Nat} {w:Int},bv c a f=bv 1 b w->c=1/\f=w:=λ{b w} e=>(by grind[i6]);refine⟨h.ok.set k a5,aw,⟨?_,?_⟩,λi s o hs C=>?_,λi s b w hs C=>?_,λi j s r b d w aH hs a2 C av e=>?_,λi s C=>?_,λx bc=>?_,λE=>?_,h.mA,h.mB,h.m5,h.pd,⟨bb,by have:=h.bd;dsimp only;omega⟩⟩;obtain⟨⟨b,u⟩,_⟩:=h.rt;grind;dsimp only;rw[N 0 (λe=>a8 e.symm)];exact h.rt.2;rcases back C with⟨_,u⟩|⟨_,_,rfl⟩;exact⟨(an _ (h.ac i s o hs u).1).1,(h.ac i s o hs u).2⟩;exact⟨(an _ aA).1,a9⟩;dsimp only;rcases back C with⟨H,u⟩|⟨rfl,_,e⟩;obtain⟨D,W⟩:=h.cY i s b w hs u;simp_all;grind;dsimp only at e;rcases back C with⟨H,u⟩|⟨rfl,_,O⟩<;>rcases back av with⟨aW,D⟩|⟨rfl,_,P⟩;rw[N i H,N j aW]at e;exact h.nl i j s r b d w aH hs a2 u D e;obtain⟨V,_⟩:=key P.symm;rw[N i H]at e;exact absurd (by rw[<-e];exact(h.cY i s b w hs u).1) (aQ V).2.1;obtain⟨V,_⟩:=key O.symm;rw[N j aW]at e;exact absurd (by rw[e];exact(h.cY j r d aH a2 D).1) (aQ V).2.1;trivial;dsimp only at C⊢;obtain⟨u,⟨b,w,D⟩,a3,r,W,ar,Z,bL,a4⟩:=h.aL i s C;have H:i≠k:=cr
 refine⟨u,⟨b,w,D.put _ H⟩,a3,r,W,ar,Z,bL,?_⟩;obtain⟨i2,p,O,P,V,_,_,bf,_⟩:=n4 U a4;grind[aq.cW,pK];dsimp only at bc;have W:h4 {A with l:=A.l.set k ⟨bv c a f,1,g⟩,Q:=Q,bE:=bE,own:=own,np:=np} x k=if f=x then bD c else 0:=(by rw[nW (s:=1) (o:=bv c a f) ⟨g,by dsimp only;rw[V1 (by rw[h.ok.n];exact az)]⟩ x];by_cases e:f=x;(have bS:fo 1/\(bv c a f).f=x:=by trivial);have be:(if(1:Int)=1/\(bv c a f).k=2 then kP (A.aL k)else 0)=0:=(by grind[HZ]);rw[ax bS,ax e];exact congrArg (bD c+·) be;rw[al (show ¬(fo 1/\(bv c a f).f=x)from λh=>e h.2),al e]);have ar:h4 A x k=0:=(by rw[nW (s:=0) ⟨g,ah⟩ x,al (show ¬(fo 0/\dx.f=x)from λh=>by rcases h.1 with h|h<;>exact absurd h am)]);have D:=pW (f:=h4 A x) (g:=h4 {A with l:=A.l.set k ⟨bv c a f,1,g⟩,Q:=Q,bE:=bE,own:=own,np:=np} x) az λj _ H=>(by grind[h4]);rw[W,ar]at D;rw[pj];by_cases au:aB.dj A.Q x;have Z:=h.hA x au;have bL:=(an x au).2.1;rw[pj]at Z;grind;have Z:hY 256 (h4 A x)=0:=pX λj av=>(by obtain⟨p,a0,_⟩:=h.ok.at av;rw[nW (o:=p.o) (s:=p.st) ⟨p.c3,a0⟩ x,al (show ¬(fo p.st/\p.o.f=x)from λu=>au (u.2▸(h.ac j p.st p.o u.1 ⟨p.c3,a0⟩).1))]);grind;dsimp only;rw[<-h.kI E];have:(∃p,aq.dV (A.l.set k ⟨bv c a f,1,g⟩) E 2=some p)↔∃p,aq.dV A.l E 2=some p:=(by by_cases e:(E %256).toNat=k;have O:aq.dV A.l E 2=none:=(by rw[aq.dV,e,ah];dsimp only;rw[al λh=>absurd h.2 am]);have P:aq.dV (A.l.set k ⟨bv c a f,1,g⟩) E 2=none:=(by rw[aq.dV,e,V1 (by rw[h.ok.n];exact az)];dsimp only;rw[al λh=>absurd h.2 am]);simp_all;grind[pK]);simp_all
theorem cc.tX(h:cc A){o:aq.fc}{g:Int}(H:A.l[k]? =some ⟨o,1,g⟩)(bp:k≠0)(an:∀i s (x r:Nat),A.aL i s=dM x r->1<=r->r<=15->x<4294967295->(x:Int)≠g*256+k)(a9:∀s,A.aL k s=0)(aZ:Nat->Nat->Nat):
 cc {A with l:=A.l.set k ⟨o,2,g⟩,aZ:=aZ,q:=A.q++[(g*256+k,A.now+A.pd)]}:=by
 obtain⟨a2,ar⟩:=h.lt H;dsimp only at ar;have back:∀{i s w},cA (A.l.set k ⟨o,2,g⟩) i s w->(i≠k/\cA A.l i s w)\/(i=k/\s=2/\w=o/\cA A.l i 1 w):=λ{i s w} u=>(by rcases u.set with h|⟨rfl,V,W⟩;simp_all;dsimp only at V W;subst W;exact .inr ⟨rfl,V.symm,rfl,g,H⟩);have Q:∀{i s w},fo s->cA (A.l.set k ⟨o,2,g⟩) i s w->∃r,fo r/\cA A.l i r w:=λ{i s w} hs u=>(by rcases back u with⟨_,h⟩|⟨_,_,_,h⟩;grind;exact⟨1,.inl rfl,h⟩);have bD:aq.dV (A.l.set k ⟨o,2,g⟩) (g*256+k) 2=some (k,⟨o,2,g⟩):=by grind[aq.dV]
 have bt:aq.dV A.l (g*256+k) 2=none:=(by rw[aq.dV,show((g*256+(k:Int)) %256).toNat=k by omega,H];dsimp only;rw[al λh=>absurd h.2 am]);refine⟨h.ok.set k ar,h.d8,⟨?_,h.rt.2⟩,λi s w hs u=>?_,λi s b E hs u=>?_,λi j s r b d E av hs N u a0 e=>?_,λi s u=>?_,λx D=>?_,λah=>?_,?_,λt O=>?_,?_,h.pd,h.bd⟩;obtain⟨⟨b,C⟩,_⟩:=h.rt;grind;obtain⟨r,N,C⟩:=Q hs u;exact h.ac i r w N C;obtain⟨r,N,C⟩:=Q hs u;exact h.cY i r b E N C;obtain⟨be,a8,C⟩:=Q hs u;obtain⟨bc,a5,Z⟩:=Q N a0;exact h.nl i j be bc b d E av a8 a5 C Z e;obtain⟨C,⟨b,E,Z⟩,x,r,aH,aQ,aW,bL,aB⟩:=h.aL i s u;have a3:i≠k:=cr
 refine⟨C,⟨b,E,Z.put _ a3⟩,x,r,aH,aQ,aW,bL,?_⟩;obtain⟨i2,p,bf,au,bi,_,bl,bj,_⟩:=n4 U aB;grind[aq.cW,pK];dsimp only at D⊢;rw[h.hA x D];refine congrArg (λn:Nat=>(n:Int)) (rY λj _=>?_);rw[h4,h4];dsimp only;by_cases e:j=k;subst e;rw[V1 (by rw[h.ok.n];exact a2),H];dsimp only;by_cases au:o.f=x;have bS:((1:Int)=1\/(1:Int)=2)/\o.f=x:=by trivial
 have bb:((2:Int)=1\/(2:Int)=2)/\o.f=x:=by trivial
 rw[ax bS,ax bb,HZ a9];simp;simp_all;grind;dsimp only;rw[Wu,Vg,<-h.kI ah];by_cases e:(ah %256).toNat=k;have:aq.dV A.l ah 2=none:=(by rw[aq.dV,e,H];dsimp only;rw[al λh=>absurd h.2 am]);rw[this];constructor;rintro⟨⟨⟨i,p⟩,a4⟩,az⟩;obtain⟨V,W,_,_⟩:=aq.m2 az a4;grind;grind;grind[pK];dsimp only;rw[Wu,VI];refine⟨h.mA,by simp,λx D y P e=>?_⟩;rw[List.map_singleton,Vf]at P;rw[e,P,<-h.kI]at D;simp_all;rcases Vg.1 O with O|O;exact h.mB t O;rw[Vf]at O;have:=h.pd;grind;dsimp only;rw[List.pairwise_append];refine⟨h.m5,by simp,λx D y P=>?_⟩;rw[Vf]at P;rw[P];exact(h.mB x D).2
theorem Gs{L:List aB.bY}{y x:Int}:aB.dj (aB.kH L y) x↔aB.dj L x/\x≠y:=by constructor;rintro⟨t,d,rfl⟩;have:=aB.nB.1 d;exact⟨⟨t,this.1,rfl⟩,this.2⟩;rintro⟨⟨t,d,rfl⟩,u⟩;exact⟨t,aB.nB.2 ⟨d,u⟩,rfl⟩
theorem Le{L:List aB.bY}(aw:aB.eV L bE)(y:Int):aB.eV (aB.iD L y).1 bE/\(∀x,aB.dj (aB.iD L y).1 x->aB.dj L x/\aB.gh (aB.iD L y).1 x=aB.gh L x/\aB.lk (aB.iD L y).1 x=aB.lk L x)/\∀x,aB.dj L x->aB.dj (aB.iD L y).1 x\/(x=y/\aB.gh L x=0):=by refine⟨aw.close y,?_⟩;unfold aB.iD;split;simp_all;split;simp_all;split;simp_all;rename_i w H N;have E:=Vj w;refine⟨λx h=>?_,λx h=>?_⟩;dsimp only at h⊢;have O:=Gs.1 h;obtain⟨t,d,rfl⟩:=h;have C:=aB.nB.1 d;have an:aB.iA (aB.kH L y):=(by obtain⟨u,hu,rfl⟩:=E;obtain⟨M,bO⟩:=fB hu;exact(aB.iA.perm (aw.bA.perm bO.symm) (XA _)|>λh=>(Vy.1 h).2)|>λh=>aB.iA.perm h (aB.xp aw.bA bO));have P:=aB.iw an d;have D:=aB.iw aw.bA C.1;simp_all;by_cases e:x=y;subst e;obtain⟨t,d,rfl⟩:=h;have D:=aB.iw aw.bA d;have Q:=(aw.rg t d).2.2.2.2;have bL:=aB.wI aw t.id;omega;grind[Gs]
theorem cc.free(h:cc A){c a:Nat}{g t:Int}{aH:List (Int×Int)}(bc:A.l[k]? =some ⟨bv c a f,2,g⟩)(ci:1<=c/\c<=5\/c=8)(a3:A.q=(g*256+k,t)::aH){me:List aB.bY}(a8:me=if c=1 then(aB.iD A.Q (A.own k)).1 else A.Q):
 (aB.ep me f (bD c)).2=0/\cc {A with l:=A.l.set k (aq.iZ ⟨bv c a f,2,g⟩),Q:=(aB.ep me f (bD c)).1,q:=aH}:=by
 obtain⟨az,bR⟩:=h.lt bc;dsimp only at bR;have Z:cA A.l k 2 (bv c a f):=⟨g,bc⟩;have bW:k≠0:=λe=>(by obtain⟨⟨b,D⟩,_⟩:=h.rt;simp_all);have aA:=h.ac k 2 _ (.inr rfl) Z;have co:∀r,A.aL k r=0:=h.zt Z (.inl am);have av:¬fo (aq.iZ ⟨bv c a f,2,g⟩).st/\0<=(aq.iZ ⟨bv c a f,2,g⟩).c3/\(aq.iZ ⟨bv c a f,2,g⟩).c3<=1048575:=(by grind[aq.iZ,fo]);generalize cg:aq.iZ ⟨bv c a f,2,g⟩=P at av;have bt:aB.eV me A.bE/\(∀x,aB.dj me x->aB.dj A.Q x/\aB.gh me x=aB.gh A.Q x/\aB.lk me x=aB.lk A.Q x)/\∀x,aB.dj A.Q x->aB.dj me x\/(c=1/\x=A.own k/\aB.gh A.Q x=0):=(by rw[a8];split;rename_i cj;obtain⟨N,aQ,a9⟩:=Le h.d8 (A.own k);simp_all;exact⟨h.d8,λx O=>⟨O,rfl,rfl⟩,λx O=>.inl O⟩);obtain⟨cI,a4,a5⟩:=bt;have bj:∀x,aB.dj A.Q x->aB.gh A.Q x=0->∀i s o,fo s->cA A.l i s o->o.f≠x:=λx O W i s o hs w e=>(by have C:=u7 (f:=h4 A x) (w.lt h.ok);have E:=h.hA x O;rw[nW w x,ax ⟨hs,e⟩]at C;rw[W,pj]at E;(have H:bD o.k.toNat=0:=by omega);exact absurd H (h.ac i s o hs w).2);have bK:c=1->f<A.own k:=λe=>(by obtain⟨N,aQ⟩:=h.cY k 2 a f (.inr rfl) (by subst e;exact Z);obtain⟨a9,D⟩:=aQ bW;obtain⟨u,hu,w⟩:=N;rw[<-w,(aB.iw h.d8.bA hu).2.2.2]at D;have:=(h.d8.par u hu U).2;omega);have bb:aB.dj me f:=(a5 f aA.1).elim id λN=>absurd (bK N.1) U;have ck:bD c<=pj A f:=(by have C:=u7 (f:=h4 A f) az;rw[nW Z f,ax ⟨.inr rfl,rfl⟩]at C;trivial);obtain⟨ei,ah⟩:=jA.rV (f:=f) (n:=(bD c:Int)) cI bb U (by rw[(a4 f bb).2.1,h.hA f aA.1];omega);have back:∀{i s o},fo s->cA (A.l.set k P) i s o->i≠k/\cA A.l i s o:=λ{i s o} hs w=>(by rcases w.set with h|⟨_,N,_⟩;all_goals simp_all);have be:=h.mA;rw[a3]at be;obtain⟨cl,b0⟩:=Vy.1 be;refine⟨ei,h.ok.set k av.2,ah.d8,⟨?_,h.rt.2⟩,λi s o hs w=>?_,λi s b V hs w=>?_,λi j s r b d V bl hs bf w bS e=>?_,λi s w=>?_,λx O=>?_,λa0=>?_,b0,λu hu=>h.mB u (by rw[a3];exact List.mem_cons_of_mem _ hu),?_,h.pd,h.bd⟩;obtain⟨⟨b,D⟩,_⟩:=h.rt;grind;obtain⟨au,D⟩:=back hs w;obtain⟨C,E⟩:=h.ac i s o hs D;exact⟨(ah.has _).2 ((a5 _ C).elim id λH=>absurd rfl (bj _ C H.2.2 i s o hs D)),E⟩;dsimp only;obtain⟨au,D⟩:=back hs w;obtain⟨C,E⟩:=h.cY i s b V hs D;have H:aB.dj me (A.own i):=(a5 _ C).elim id λar=>absurd (h.nl i k s 2 b a V f hs (.inr rfl) D (by have:=ar.1;subst this;exact Z) U) au;exact⟨(ah.has _).2 H,λW=>⟨(E W).1,by rw[ah.par,(a4 _ H).2.2];exact(E W).2⟩⟩;exact h.nl i j s r b d V bl hs bf (back hs w).2 (back bf bS).2 e;obtain⟨D,⟨b,V,C⟩,x,r,E,H,ar,bL,bp⟩:=h.aL i s w;have au:i≠k:=cr
 refine⟨D,⟨b,V,C.put _ au⟩,x,r,E,H,ar,bL,?_⟩;obtain⟨i2,p,a8,an,b2,_,ce,b6,_⟩:=n4 U bp;grind[aq.cW,pK];dsimp only at O⊢;have bi:=(ah.has x).1 O;obtain⟨b1,cn,_⟩:=a4 x bi;have E:h4 {A with l:=A.l.set k P,Q:=(aB.ep me f (bD c)).1,q:=aH} x k=0:=(by rw[nW (s:=P.st) (o:=P.o) ⟨P.c3,by dsimp only;rw[V1 (by rw[h.ok.n];exact az)]⟩ x,al λh=>av.1 h.1]);have H:h4 A x k=if f=x then bD c else 0:=(by rw[nW Z x];(have e:(bv c a f).k.toNat=c:=by trivial);by_cases an:f=x;rw[ax ⟨.inr rfl,an⟩,ax an,e,al (λh=>absurd h.1 am)];rfl;rw[al (λh=>an h.2),al an]);have C:=pW (f:=h4 A x) (g:=h4 {A with l:=A.l.set k P,Q:=(aB.ep me f (bD c)).1,q:=aH} x) az λj _ au=>(by grind[h4]);rw[E,H]at C;have ar:=h.hA x b1;have bL:=ah.fU x bi;rw[pj]at ar⊢;grind;dsimp only;have aW:=h.kI a0;rw[a3,VO,Vt]at aW;dsimp only at aW;by_cases e:(a0 %256).toNat=k;have:aq.dV (A.l.set k P) a0 2=none:=(by rw[aq.dV,e,V1 (by rw[h.ok.n];exact az)];dsimp only;rw[al λh=>av.1 (.inr h.2)]);rw[this];refine⟨λN=>(by obtain⟨⟨p,a2⟩,_⟩:=N;cases a2),λN=>?_⟩;obtain⟨⟨⟨i,p⟩,a2⟩,W⟩:=aW.2 (.inr N);obtain⟨aQ,a9,_,_⟩:=aq.m2 W a2;grind;grind[pK];have:=h.m5;simp_all
end Go.Proofs.Q
namespace Go.Proofs.Q.eX
open Go Go.QM
theorem z1(ad:Option Addr)(cap:Nat)(l:List (Int×Int))(gv:FuncId)(lb:List Value)(pr:Int×Int->Bool)(D:av->Prop)(P:l.length<=100000000)(E:∀t,bt gv ([.agg (p0 t).toArray]++lb) D [] (.bool (pr t)) []):eQ VS 145 [.slice ad l.length cap,.func (.func gv) #[] lb.toArray] (λF=>cN F 253 ad (oj l)/\D (ag [F])) [] (λ_:Unit=>aa (match l.findIdx? pr with|some i=>(i:Int)|none=>-1)) (λ_=>True) (λ_=>[]):=by
 apply aH Tryz.func145 Tryz.ntmps145;intro F w;apply J [8];haveI:bj F ad 253 (oj l):=⟨w.1⟩;apply J [36,33];refine q rfl rfl (len 253 2 rfl rfl) ?_;refine J [112,532] ?_;rintro k ⟨hinv,eF⟩ Q;dsimp only[cx]at hinv eF⊢;apply J [43];first|refine Vh rfl (λd=>?_) (λd=>?_)|refine ab.cond rfl (λd=>?_) (λd=>?_)
 have d:k<l.length:=U
 obtain⟨t,C⟩:∃t,l[k]? =some t:=⟨l[k],Ve d⟩;have O:0<(oj l).length:=by grind[H3]
 apply J [56,135,24,302,86,3];first|refine q rfl rfl (gN 253 2 rfl rfl rfl U dQ) ?_|refine q rfl rfl (jZ 253 2 rfl rfl rfl U U dQ) ?_|refine q rfl rfl (ut 253 2 rfl rfl rfl U U rfl) ?_
 first|refine q rfl rfl (fQ (vs:=[_,_]) 2 rfl rfl rfl rfl) ?_|refine q rfl rfl (gp (vs:=[_,_]) 2 rfl rfl (mY vf C) rfl am) ?_|refine q rfl rfl (gp (vs:=[_,_]) 2 rfl rfl rfl rfl am) ?_
 refine e rfl ?_;refine kw (E t) rfl rfl (eC _) w.2 ?_;intro _ _;apply J [148,2];cases N:pr t with|true=>?_|false=>?_
 apply J [210,165];have aA:l.findIdx? pr=some k:=by grind[ub]
 exact vr;apply J [72,22,157];first|refine q rfl rfl (hJ rfl rfl U U) ?_|refine q rfl rfl (add rfl rfl rfl) ?_
 apply J [357];exact⟨rfl,(k+1),⟨by omega,λj u H hu=>by rcases XF.1 H with h|h;exact eF j u h hu;subst h;rw[C]at hu;cases hu;exact N⟩,U,bG,(ao (a6 _))⟩;obtain rfl:k=l.length:=by omega
 have aA:l.findIdx? pr=none:=by grind[wz]
 apply J [19,199];exact vt
theorem PC(c:Nat)(x:Int)(t:Int×Int):bt 146 [.agg (p0 t).toArray,ae c] (λF=>Rd F c (.cells #[aa x] 3 (0,0))) [] (.bool (decide (t.1=x))) []:=by
 apply aH Tryz.func146 Tryz.ntmps146;intro F d;apply J [8];haveI:fL F c (.cells [aa x].toArray 3 (0,0)):=⟨d⟩;refine J [338] ?_;intro bC;apply J [38,24];first|refine q rfl rfl (cY 0 rfl rfl) ?_|refine q rfl rfl (mi 0 rfl rfl dQ) ?_
 apply J [536,536,290,66];exact eZ (bN (a6 _))
def n9(n x:Int)(l:List (Int×Int)):Int:=match l.find? (λt=>decide (t.1=x))with|some t=>t.2-n|none=>0
instance(F B:av)(b:Nat)(o:Obj)[h:fL B b o]:fL (Bt F B) b o:=⟨yD (λ_ ⟨_,u,s,c⟩=>⟨u,s,c⟩) h.rd⟩
instance(F B:av)(ad:Option Addr)(E:Nat)(cs:List Value)[h:bj B ad E cs]:bj (Bt F B) ad E cs:=⟨sm (λ_ ⟨_,u,s,c⟩=>⟨u,s,c⟩) h.rd⟩
theorem PD(b:Nat)(p n:Int)(l:List (Int×Int))(x:Int)(an:0<=n/\n<=1000000000)(H:l.length<=100000000)(E:∀t∈l,0<=t.2/\t.2<=2000000000):bt 97 [ae b,aa x] (λF=>aE F (ez b p n l)) [] (aa (n9 n x l)) []:=by
 apply aH Tryz.func97 Tryz.ntmps97;intro F D;apply J [8];refine ab.QI D (λO N=>?_);obtain⟨ad,cap⟩:=O;clear N;refine J [26,414] ?_;intro ch;apply J [31,42,37];first|refine q rfl rfl (js rfl) ?_|refine q rfl rfl (F4 rfl) ?_|refine q rfl rfl (F5 rfl dQ) ?_
 first|refine q rfl rfl (cY 2 rfl rfl) ?_|refine q rfl rfl (mi 2 rfl rfl dQ) ?_
 apply J [536];first|refine q rfl rfl (uD (tj:=[]) (ti:=[.pointer _]) rfl rfl) ?_|refine q rfl rfl (uD rfl rfl) ?_
 refine e rfl ?_;apply ew (z1 ad cap l 146 [ae ch] (λt=>decide (t.1=x)) (λF=>Rd F ch (.cells #[aa x] 3 (0,0))) H (λt=>PC ch x t)) ⟨bj.rd (ad:=ad),iW (fL.rd (b:=ch))⟩;apply J [5];cases aA:l.findIdx? (λt=>decide (t.1=x))with|none=>?_|some k=>?_
 dsimp only;apply J [31,347,2];refine Vh rfl (λw=>?_) (λw=>absurd am w);apply J [186];have u:n9 n x l=0:=by grind[n9]
 exact b7.i () [_] ⟨rfl,trivial⟩ (by rw[u];rfl) trivial (DW 1 rfl (a6 _));obtain⟨t,d,jD⟩:=Er aA;have V:k<l.length:=cr
 have Q:0<(oj l).length:=by grind[H3]
 have P:=E t (Vi d);dsimp only;apply J [31,347,2];refine Vh rfl (λC=>absurd C U) (λC=>?_);apply J [44];refine cD [0,1,2,3,4,5,6,7,8,9,10,11,12,13] (aE.refl _) ?_;refine J [77,601] ?_;first|refine bI rfl rfl rfl (cY 2 rfl rfl) ?_|refine bI rfl rfl rfl (mi 2 rfl rfl dQ) ?_
 first|refine bI rfl rfl rfl (fF rfl rfl rfl) ?_|refine bI rfl rfl rfl (dk rfl rfl (qB vf d (show(p0 t)[1]? =some (aa t.2)from rfl))) ?_|refine bI rfl rfl rfl (dk rfl rfl rfl) ?_
 apply J [11];first|refine bI rfl rfl rfl (gN 253 2 rfl rfl rfl U dQ) ?_|refine bI rfl rfl rfl (jZ 253 2 rfl rfl rfl U U dQ) ?_|refine bI rfl rfl rfl (ut 253 2 rfl rfl rfl U U rfl) ?_
 refine J [602] ?_;first|refine bI rfl rfl rfl (fF rfl rfl rfl) ?_|refine bI rfl rfl rfl (dk rfl rfl (qB vf d (show(p0 t)[1]? =some (aa t.2)from rfl))) ?_|refine bI rfl rfl rfl (dk rfl rfl rfl) ?_
 refine J [77,601,602] ?_;first|refine bI rfl rfl rfl (fF rfl rfl rfl) ?_|refine bI rfl rfl rfl (dk rfl rfl (qB vf d (show(p0 t)[1]? =some (aa t.2)from rfl))) ?_|refine bI rfl rfl rfl (dk rfl rfl rfl) ?_
 first|refine bI rfl rfl rfl (nH rfl rfl U U) ?_|refine bI rfl rfl rfl (sub rfl rfl rfl) ?_
 apply J [181,147];have u:n9 n x l=t.2-n:=by grind[n9]
 exact b7.i () [_] ⟨rfl,trivial⟩ (by rw[u];rfl) trivial (DW 1 rfl (a6 _))
end Go.Proofs.Q.eX
namespace Go.Proofs.Q
open Go Go.QM
variable [cZ]
structure eY where
  nn:Nat
  bx:Nat
  S:cT
def fP(aI af top:Nat)(A:bR):av:=e7 λy:eY=>pure' (ck top A y.S/\cc A) (ag [aj aI 135 [ae af,ae y.nn,ae y.bx],e3 af top y.S,aX 264 5 (cJ y.nn) 256 256 (aq.fs A.l),eX.ez y.bx A.pd A.now A.q])
def b5(l:List aq.bW)(h k:Int):aq.fc×Int:=if(aq.cW l h).2=0/\k≠0/\(aq.cW l h).1.k≠k then(aq.mI,10)else aq.cW l h
variable{h:Int}
theorem Gl{l:List aq.bW}{k:Int}(e:(aq.cW l h).2≠0):b5 l h k=aq.cW l h:=al λx=>e x.1
theorem iR{l:List aq.bW}:b5 l h 0=aq.cW l h:=al λx=>x.2.1 rfl
theorem pO{l:List aq.bW}{k:Int}(e:(aq.cW l h).1.k=k):b5 l h k=aq.cW l h:=al λx=>x.2.2 e
theorem Gk{l:List aq.bW}{k:Int}(e:(aq.cW l h).2=0)(d:k≠0)(u:(aq.cW l h).1.k≠k):b5 l h k=(aq.mI,10):=ax ⟨e,d,u⟩
def mz(A:bR)(h:Int):Int×Int:=if(b5 A.l h 1).2=0 then((A.own (h %256).toNat:Int),0)else(0,(b5 A.l h 1).2)
theorem jv{l:List aq.bW}{k:Int}(d:0<=h)(e:(b5 l h k).2=0):∃i p,aq.dV l h 1=some (i,p)/\l[i]? =some p/\p.st=1/\i<256/\h=p.c3*256+i/\(h %256).toNat=i/\b5 l h k=(p.o,0)/\(k=0\/p.o.k=k):=by have u:(aq.cW l h).2=0/\(k=0\/(aq.cW l h).1.k=k):=(by unfold b5 at e;grind);grind[n4,iR,pO]
variable(aI af top:Nat)(A:bR)
theorem Lj:bt 29 [ae aI] be [fP aI af top A] (ae af) [fP aI af top A]:=by apply aH Tryz.func29 Tryz.ntmps29;intro F _;refine J [341] ?_;rintro⟨u,bx,S⟩ ⟨aO,d⟩;apply J [82];dsimp only at aO d⊢;apply J [131,42,40,110];exact eZ (ay (⟨u,bx,S⟩:eY) ⟨aO,d⟩ ai)
theorem jX(h:Int)(C:0<=h/\h<=4294967295)(k:Int):bt 19 [ae aI,aT h,aa k] be [fP aI af top A] (.tuple #[.agg (ints (b5 A.l h k).1.l).toArray,aa (b5 A.l h k).2]) [fP aI af top A]:=by apply aH Tryz.func19 Tryz.ntmps19;intro F _;refine J [341] ?_;rintro⟨u,bx,S⟩ ⟨aO,d⟩;apply J [82];dsimp only at aO d⊢;refine J [26,222] ?_;intro ba;apply J [31,42,64,28];apply ew (aq.zP u A.l h d.ok C) ⟨_,bj.rd (ad:=some ⟨u,0,none⟩)⟩;apply J [14];by_cases g0:(aq.cW A.l h).2=0;refine J [255] ?_;intro ch;apply J [116,25,193];refine VM 24 rfl (c:=true) (da g0) ?_;by_cases g1:k=0;subst g1;rw[iR];apply J [12,218,51];refine VM 28 rfl (c:=false) (du U) ?_;apply J [47,151,100,124,251,30];exact b7.i () [_,_] ⟨(fa (n:=3) rfl rfl rfl rfl),rfl,trivial⟩ rfl trivial (ay (⟨u,bx,S⟩:eY) ⟨aO,d⟩ ai);apply J [12,218,51];refine VM 28 rfl (c:=true) (da g1) ?_;apply J [192,12,218,189];apply Vh rfl<;>intro w;rw[Gk g0 g1 w];apply J [24,229,54,123];exact b7.i () [_,_] ⟨(fa (n:=3) rfl rfl rfl rfl),rfl,trivial⟩ rfl trivial (ay (⟨u,bx,S⟩:eY) ⟨aO,d⟩ ai);rw[pO (Vj w)];apply J [4,124,251,30];exact b7.i () [_,_] ⟨(fa (n:=3) rfl rfl rfl rfl),rfl,trivial⟩ rfl trivial (ay (⟨u,bx,S⟩:eY) ⟨aO,d⟩ ai);rw[Gl g0];refine J [255] ?_;intro bC;apply J [116,25,193];refine VM 24 rfl (c:=false) (du g0) ?_;apply J [49,41,47,151,100,124,251,30];exact b7.i () [_,_] ⟨(fa (n:=3) rfl rfl rfl rfl),rfl,trivial⟩ rfl trivial (ay (⟨u,bx,S⟩:eY) ⟨aO,d⟩ ai)
theorem KR(h:Int)(w:0<=h/\h<=4294967295):bt 39 [ae aI,aT h] be [fP aI af top A] (.tuple #[.agg (ints (aq.iu A.l h).1.l).toArray,.bool (decide ((aq.iu A.l h).2=0))]) [fP aI af top A]:=by apply aH Tryz.func39 Tryz.ntmps39;intro F _;refine J [341] ?_;rintro⟨u,bx,S⟩ ⟨aO,d⟩;apply J [82];dsimp only at aO d⊢;refine J [26,222] ?_;intro C;apply J [104,42,64,28];apply ew (aq.QY u A.l h d.ok w) ⟨_,bj.rd (ad:=some ⟨u,0,none⟩)⟩;refine J [14,255] ?_;intro D;apply J [54,27,124,3,290,54,66];exact b7.i () [_,_] ⟨(fa (n:=3) rfl rfl rfl rfl),rfl,trivial⟩ rfl trivial (ay (⟨u,bx,S⟩:eY) ⟨aO,d⟩ ai)
theorem Dr:bK 16 [ae aI] be [fP aI af top A] (λy:Option Addr×Nat=>.slice y.1 (aq.dd A.l 1).length y.2) (λ_=>True) (λy=>[aX 33 1 y.1 (aq.dd A.l 1).length y.2 (cf .u32 (aq.dd A.l 1)),fP aI af top A]):=by apply aH Tryz.func16 Tryz.ntmps16;intro F _;refine J [341] ?_;rintro⟨u,bx,S⟩ ⟨aO,d⟩;apply J [82];dsimp only at aO d⊢;apply J [200,42,64,0];apply eM (aq.FB u A.l d.ok) ⟨_,bj.rd (ad:=some ⟨u,0,none⟩)⟩;intro y _;apply J [14,69];exact bu y trivial (ao (ay (⟨u,bx,S⟩:eY) ⟨aO,d⟩ ai))
theorem LU:bK 38 [ae aI] be [fP aI af top A] (λy:Option Addr×Nat=>.slice y.1 (aq.dd A.l 2).length y.2) (λ_=>True) (λy=>[aX 33 1 y.1 (aq.dd A.l 2).length y.2 (cf .u32 (aq.dd A.l 2)),fP aI af top A]):=by apply aH Tryz.func38 Tryz.ntmps38;intro F _;refine J [341] ?_;rintro⟨u,bx,S⟩ ⟨aO,d⟩;apply J [82];dsimp only at aO d⊢;apply J [200,42,64,0];apply eM (aq.UR u A.l d.ok) ⟨_,bj.rd (ad:=some ⟨u,0,none⟩)⟩;intro y _;apply J [14,69];exact bu y trivial (ao (ay (⟨u,bx,S⟩:eY) ⟨aO,d⟩ ai))
theorem cc.Bp{A:bR}(h:cc A):A.q.length<=256:=by have d:((A.q.map (·.1)).map λx:Int=>(x %256).toNat).Nodup:=(by rw[List.Nodup,Yv];refine List.Pairwise.imp_of_mem ?_ h.mA;intro a b w C W e;obtain⟨⟨⟨i,p⟩,D⟩,u⟩:=(h.kI a).2 w;obtain⟨⟨⟨j,r⟩,E⟩,d⟩:=(h.kI b).2 C;obtain⟨H,N,O,_⟩:=aq.m2 u D;obtain⟨P,Q,V,_⟩:=aq.m2 d E;grind);have:=vc d (m:=List.range 256) λx Z=>cr;simp_all
theorem La(h:Int)(H:0<=h/\h<=4294967295):bt 43 [ae aI,aT h] be [fP aI af top A] (aa (eX.n9 A.now h A.q)) [fP aI af top A]:=by apply aH Tryz.func43 Tryz.ntmps43;intro F _;refine J [341] ?_;rintro⟨u,bx,S⟩ ⟨aO,d⟩;apply J [82];dsimp only at aO d⊢;have C:=d.Bp;have D:=d.bd;have E:=d.pd;refine J [36,42,97,215] ?_;apply ew (eX.PD bx A.pd A.now A.q h U U (λt w=>by have:=d.mB t w;omega)) (wp 3 rfl);apply J [10,30];exact eZ (ay (⟨u,bx,S⟩:eY) ⟨aO,d⟩ ai)
def sY:Option Nat->Int
  | some x=>(x:Int)
  | none=>0
structure ql(top:Nat)(S:cT)(a:Int)(c x:Nat)(bc:cT):Prop where
  q:(aB.df S.Q a (bD c:Int)).2=0/\bc.Q=(aB.df S.Q a (bD c:Int)).1/\bc.bE=S.bE
  g:gd top S bc hS hS
  b:c8 bc c x
  n:¬c8 S c x
  z:∀o,x<=o->o+8<=x+bD c->cV bc.m o=0
  u:gQ (960/cg 6) (bc.C 6)=gQ (960/cg 6) (S.C 6)
  p:(dp bc.C bc.Fr).length<=(dp S.C S.Fr).length+1
def JM(top:Nat)(S:cT)(a:Int)(c:Nat):Option Nat×cT×Int->Prop
  | (some x,bc,e)=>e=0/\ql top S a c x bc
  | (none,bc,e)=>e≠0/\bc=S/\(e=(aB.df S.Q a (bD c:Int)).2\/e=4/\2^top<=(dp S.C S.Fr).length)
def iF(c:Nat):Prop:=1<=c/\c<=5\/c=8
theorem Gb{c:Nat}(h:iF c)(d:c≠8):c∈cls/\bD c=cg c/\c≠6:=by have:c∈cls:=we.2 (by rcases h with h|h<;>omega);exact⟨this,qK this,by rcases h with h|h<;>omega⟩
theorem xy(C:Nat->List cj)(Fr:List Nat)(p:Nat):(p::dp C Fr).Perm (dp C (p::Fr)):=by grind[dp]
variable{S bc:cT}
theorem dg.Np{top:Nat}(h:dg top S){p:Nat}(O:p<2^top)(D:p∉dp S.C S.Fr)(u:bc.C=S.C)(w:bc.Fr=p::S.Fr):dg top bc:=by obtain⟨N,Q,E,H,P⟩:=bc;dsimp only at u w;subst u;subst w;exact⟨h.fX,h.ok,(xy _ _ _).nodup_iff.1 (Vy.2 ⟨D,h.bA⟩),λq d=>by rcases Vt.1 ((xy _ _ _).mem_iff.2 d)with rfl|d;trivial;exact h.lt q d⟩
theorem Gw{top:Nat}(d:dg top S){a:Int}{c:Nat}(u:c∈cls)(E:c≠6)(e:bD c=cg c){y:Nat×Nat×List cj}(N:(aB.df S.Q a (cg c:Int)).2=0)(g:iU top S c y):ql top S a c (addr c y) (kd S a c (some y)):=by obtain⟨g1,g2⟩:=wF (bc:=kd S a c (some y)) d u g rfl rfl λo H=>vq H;refine⟨by rw[e];exact⟨N,rfl,rfl⟩,g1,g2,λk=>g.uJ d u k ⟨rfl,rfl⟩,λo w D=>w9 w (by rw[<-e];exact D),?_,g.len⟩;exact congrArg (gQ (960/cg 6)) (jb S.C y.2.2 λh=>E h.symm)
theorem Qz{top p:Nat}(w:dg top S){a:Int}(H:(aB.df S.Q a 1024).2=0)(d:p<2^top)(u:p∉dp S.C S.Fr)(e:bc=⟨(aB.df S.Q a 1024).1,S.bE,S.C,p::S.Fr,hf S.m (p*1024) 1024⟩):ql top S a 8 (p*1024) bc/\dg top bc:=by
 have D:dg top bc:=w.Np d u jJ jJ;obtain⟨g1,g2,g3⟩:=Nq w D jJ jJ λo E=>by rw[e];exact vq E
 refine⟨⟨by rw[e];exact⟨H,rfl,rfl⟩,g1,g2,g3,λo d u=>by rw[e];exact w9 d u,by rw[e],?_⟩,D⟩;have:=(xy S.C S.Fr p).length_eq;simp_all
structure tA(top:Nat)(S:cT)(a:Int)(c x:Nat)(bc:cT):Prop where
  q:bc.Q=(aB.ep S.Q a (bD c:Int)).1/\bc.bE=S.bE
  g:gd top S bc (fy c x) (fy c x)
  u:gQ (960/cg 6) (bc.C 6)=gQ (960/cg 6) (S.C 6)
  p:(dp bc.C bc.Fr).length<=(dp S.C S.Fr).length
theorem QG{top:Nat}(w:dg top S){a:Int}{c x aD i:Nat}{L':List cj}(d:c∈cls)(u:c≠6)(D:x=aD*1024+64+i*cg c)(g:jT top S c aD i L')(e:bc=⟨(aB.ep S.Q a (cg c:Int)).1,S.bE,dK S.C c L',S.Fr,S.m⟩):tA top S a c x bc:=
 ⟨by rw[e,qK d];exact⟨rfl,rfl⟩,wE w d g D jJ jJ jJ,by rw[e];exact congrArg (gQ (960/cg 6)) (jb S.C L' λh=>u h.symm),by rw[e];exact g.len⟩
theorem QH{top p:Nat}(d:dg top S){a:Int}(e:bc=⟨(aB.ep S.Q a 1024).1,S.bE,S.C,S.Fr.erase p,S.m⟩):tA top S a 8 (p*1024) bc:=
 ⟨by rw[e];exact⟨rfl,rfl⟩,Ns d jJ jJ jJ,by rw[e],by rw[e];dsimp only;rw[dp,dp,mp,mp];have:=List.length_erase_le (a:=p) (l:=S.Fr);omega⟩
theorem Q3{C:Nat->List cj}{Fr:List Nat}{p:Nat}(an:p∉cls.flatMap (hC C))(d:p∈Fr):(dp C (Fr.erase p)).Perm ((dp C Fr).erase p):=by grind[dp]
theorem Dm(E bx top:Nat)(S:cT)(a:Int)(c:Nat)(a0:iF c):bK 131 [ae aI,aa a,aa c] c5 [aj aI 135 [ae af,ae E,ae bx],e3 af top S] (λy:Option Nat×cT×Int=>.tuple #[aa (sY y.1),aa y.2.2]) (λy=>JM top S a c y) (λy=>[aj aI 135 [ae af,ae E,ae bx],e3 af top y.2.1]):=by
 apply aH Tryz.func131 Tryz.ntmps131;intro F aQ;apply J [13];haveI:cw F:=⟨aQ⟩;refine ab.open 1 rfl (λP O=>?_);obtain⟨cP,bd,d,w⟩:=P;have D:=O;apply J [223];dsimp only at D⊢;have a5:=D.fX;have bf:2^top<=128:=Vk (n:=2) am a5.2;refine ab.open 1 rfl (λP O=>?_);obtain⟨a8,a9⟩:=P;have aw:=O;apply J [79];refine WI (B:=ag [aj af 169 (hb 8 cP bd d w),aB.ez cP S.Q S.bE,ke bd top (dp S.C S.Fr),fA d S.m (1024*2^top),b3 (λc=>lh (w c) bd (cg c) (S.C c)) cls,aj aI 135 [ae af,ae E,ae bx],F]) (cO (ay (⟨a8,a9⟩:aB.oA) aw ai)) ?_;by_cases Z:c=8;subst Z;apply J [24,243,34];refine Vh rfl (λan=>absurd an U) (λan=>?_);apply J [44,40,53,28];apply au (aB.GW cP S.Q S.bE a 1024);apply J [16,126];apply Vh rfl<;>intro u;apply J [188];have a3:=Dn u;exact cQ (none,S,(aB.df S.Q a 1024).2) ⟨u,rfl,.inl rfl⟩ (by rw[a3];exact(eG (ay (dP.mk cP bd d w:dP af) D ai)));have u:=Vj u;apply J [4,40,80,61,0];apply bb (C6 bd top (dp S.C S.Fr));intro V av;apply J [16];cases V with|none=>?_|some aD=>?_
 have a2:2^top<=(dp S.C S.Fr).length:=av;dsimp only[vg,qw,mQ];have a4:=s6 aw u;apply J [134,34,20,40,53,28];apply au (aB.xF cP (aB.df S.Q a 1024).1 S.bE a 1024);apply J [16];rw[a4];apply J [2,188];exact cQ (none,S,4) ⟨by decide,rfl,.inr ⟨rfl,a2⟩⟩ (eG (ay (dP.mk cP bd d w:dP af) D ai));have N:aD<2^top/\aD∉dp S.C S.Fr:=av;dsimp only[vg,qw,mQ];obtain⟨bc,W⟩:∃bc:cT,bc=⟨(aB.df S.Q a 1024).1,S.bE,S.C,aD::S.Fr,hf S.m (aD*1024) 1024⟩:=⟨_,rfl⟩;obtain⟨cH,aW⟩:=Qz D u N.1 N.2 W;have be:=N.1;apply J [134,211,40,0];apply au (ll af cP bd d w);apply J [16,28];refine aK (C1 d (1024*2^top) (aD*1024) 1024 S.m U U U) (congrArg (λz:Int=>[Ym (some ⟨d,0,none⟩),.int .i64 z,.int .i64 1024,.int .u8 0]) cG) eD.p trivial ?_;intro _ _;apply J [16,2,25,96];exact b7.i (some (aD*1024),bc,0) [aa ((aD:Int)*1024),aa 0] ⟨rfl,rfl,trivial⟩ (by dsimp only[sY];rw[show((aD*1024:Nat):Int)=(aD:Int)*1024 by simp];rfl) ⟨rfl,cH⟩ (by subst W;exact(eG (ay (dP.mk cP bd d w:dP af) aW (bN (bw (eN 1 rfl (vV _ _ (xy _ _ _)) ai))))));obtain⟨aq,ar,aL⟩:=Gb a0 Z;refine WI (B:=ag [aj aI 135 [ae af,ae E,ae bx],e3 af top S,F]) (eG (ay (dP.mk cP bd d w:dP af) D ai)) ?_;apply J [24,243,34];refine Vh rfl (λah=>?_) (λah=>absurd U ah);apply J [40,208];apply bb (uQ af top S a c aq);intro⟨V,ct⟩ H;apply J [7];cases V with|none=>?_|some y=>?_
 dsimp only[pf,kd];apply J [92,92,348];exact cQ (none,S,ct) ⟨H.1,rfl,by rw[ar];exact H.2⟩ ai;obtain⟨rfl,u,cH⟩:=H;dsimp only[pf];apply J [92,92,348];exact cQ (some (addr c y),kd S a c (some y),0) ⟨rfl,Gw D aq aL ar u cH⟩ ai
theorem wj(E bx top:Nat)(S:cT)(c x:Nat)(f:Int)(av:iF c)(aR:c8 S c x)(Z:(aB.ep S.Q f (bD c:Int)).2=0):bK 133 [ae aI,.agg (ints (bv (c:Int) x f).l).toArray] c5 [aj aI 135 [ae af,ae E,ae bx],e3 af top S] (λ_:cT=>.tuple #[]) (λbc=>tA top S f c x bc) (λbc=>[aj aI 135 [ae af,ae E,ae bx],e3 af top bc]):=by
 apply aH Tryz.func133 Tryz.ntmps133;intro F aq;apply J [13];haveI:cw F:=⟨aq⟩;refine ab.open 1 rfl (λa3 a2=>?_);obtain⟨cP,bd,N,O⟩:=a3;have d:=a2;apply J [223];dsimp only at d⊢;have a0:=d.fX;have a5:2^top<=128:=Vk (n:=2) am a0.2;by_cases D:c=8;·subst D;obtain⟨u,gi,rfl⟩:∃p∈S.Fr,x=p*1024:=(by rcases aR with⟨h,_⟩|⟨_,h⟩;all_goals trivial);refine J [26,292] ?_;intro bC;apply J [29,111,93,2];refine Vh rfl (λV=>absurd V (λh=>h rfl)) (λV=>?_);have eF:=zK d gi;(have W:u∈dp S.C S.Fr:=by grind[dp]);have a4:=d.lt u W;obtain⟨bc,w⟩:∃bc:cT,bc=⟨(aB.ep S.Q f 1024).1,S.bE,S.C,S.Fr.erase u,S.m⟩:=⟨_,rfl⟩;have ar:dg top bc:=d.Iu (by rw[w]) (by rw[w]);apply J [44];refine cD [0,1,2,3,4,5,6,7,8,-9] (ao (ao (eK (a6 _)))) ?_;apply J [50,89,102,136,15];apply au (aB.xF cP S.Q S.bE f 1024);refine J [293,113] ?_;refine cD [0,1,2,3,4,5,6,7,8,-9] (bN (bN (eK (a6 _)))) ?_;apply J [50,89,143,287];refine aK (C4 bd top (dp S.C S.Fr) u W) (congrArg (λz:Int=>[Ym (some ⟨bd,0,none⟩),.int .i64 z]) (show((u*1024:Nat):Int)=(u:Int)*1024 by simp)) eD.p trivial ?_;intro _ _;refine J [293,9] ?_;refine b8.nil ?_;exact mO bc (QH d w) (by subst w;exact(bM 6 rfl (ay (dP.mk cP bd N O:dP af) ar (cO (bN (eN 0 rfl (vV _ _ (Q3 eF gi).symm) ai))))))
 refine WI (B:=ag [aj aI 135 [ae af,ae E,ae bx],e3 af top S,F]) (eG (ay (dP.mk cP bd N O:dP af) d ai)) ?_;obtain⟨H,aW,an⟩:=Gb av D;rw[aW]at Z;obtain⟨k,aD,i,f2,aQ,aL,rfl⟩:=(aR.jN H).at;refine J [26,292] ?_;intro ba;apply J [29,111,93,2];refine Vh rfl (λP=>?_) (λP=>absurd (λh=>D (by have bL:(c:Int)=8:=h;omega)) P);refine ab.seq ?_;refine cD [0,1,2,3,4,5,6,7,8,9,-10] (ao (ao (a6 _))) ?_;apply J [50,136,102,287];apply bb (uR af top S c H k aD i f2 aQ aL f Z);intro ah cH;refine J [322,113,76] ?_;exact CK ⟨(aB.ep S.Q f (cg c:Int)).1,S.bE,dK S.C c ah,S.Fr,S.m⟩ (QG d H an rfl cH rfl) ai
end Go.Proofs.Q
namespace Go.QM
open Go
section
variable {r : Option Nat} {P : Program} {N : Nat} {ops : Array Oper} {l : List Oper} {Q : fk} {ah : Env} {aQ : List Deferred} {I : av} {c : Code} {T : List Nat} {co : List (Nat × Bool)}
variable(n:Nat){hs s8:List av}
theorem ab.lR{α:Type}{p:α->Prop}{B:α->List av}(h:eU n hs=some (e7 (λx=>pure' (p x) (ag (B x))),s8))(k:(∃x,p x)->ab r P N c Q ah aQ (ag hs)):ab r P N c Q ah aQ (ag hs):=
  λa w u hs=>let⟨x,d,_⟩:=sD n h hs;k ⟨x,d⟩ a w u hs
theorem aY.lR{α:Type}{p:α->Prop}{B:α->List av}(h:eU n hs=some (e7 (λx=>pure' (p x) (ag (B x))),s8))(k:(∃x,p x)->aY r P N ops l Q ah aQ (ag hs)):aY r P N ops l Q ah aQ (ag hs):=
  λa w u hs=>let⟨x,d,_⟩:=sD n h hs;k ⟨x,d⟩ a w u hs
theorem b8.lR{α:Type}{p:α->Prop}{B:α->List av}(h:eU n hs=some (e7 (λx=>pure' (p x) (ag (B x))),s8))(k:(∃x,p x)->b8 r P N ops I T co Q ah aQ (ag hs)):b8 r P N ops I T co Q ah aQ (ag hs):=
  λa w listed u hs=>let⟨x,d,_⟩:=sD n h hs;k ⟨x,d⟩ a w listed u hs
theorem ab.dh{A:av}{p:Prop}(h:eU n hs=some (A,s8))(u:∀d,A d->p)(k:p->ab r P N c Q ah aQ (ag hs)):ab r P N c Q ah aQ (ag hs):=
  λa w D hs=>by obtain⟨d,V,E,W,H,rfl,C,O⟩:=hs.bk (fC h);exact k (u E C) a w D hs
theorem aY.dh{A:av}{p:Prop}(h:eU n hs=some (A,s8))(u:∀d,A d->p)(k:p->aY r P N ops l Q ah aQ (ag hs)):aY r P N ops l Q ah aQ (ag hs):=
  λa w D hs=>by obtain⟨d,V,E,W,H,rfl,C,O⟩:=hs.bk (fC h);exact k (u E C) a w D hs
theorem b8.dh{A:av}{p:Prop}(h:eU n hs=some (A,s8))(u:∀d,A d->p)(k:p->b8 r P N ops I T co Q ah aQ (ag hs)):b8 r P N ops I T co Q ah aQ (ag hs):=
  λa w listed D hs=>by obtain⟨d,V,E,W,H,rfl,C,O⟩:=hs.bk (fC h);exact k (u E C) a w listed D hs
end
end Go.QM
namespace Go.Proofs.Q
open Go Go.QM
variable [cZ]
theorem K0{L:List aB.bY}{d f lim:Int}(h:(aB.fT L d f lim).2.2.2≠0):(aB.fT L d f lim).1=L/\(aB.fT L d f lim).2.1=d/\(aB.fT L d f lim).2.2.1=0:=by unfold aB.fT at h⊢;grind
theorem KZ{L:List aB.bY}{d f lim:Int}(h:(aB.fT L d f lim).2.2.2=0):aB.dj L f/\aB.fT L d f lim=(L++[⟨d,f,lim,0⟩],d+1,d,0):=by unfold aB.fT at h⊢;grind
theorem K1{L:List aB.bY}{d f lim:Int}(h:0<=d):0<=(aB.fT L d f lim).2.2.1/\(aB.fT L d f lim).2.2.1<=d:=by grind[aB.fT]
def nY(S:cT)(x:Nat)(f lim:Int):cT:=⟨(aB.fT S.Q S.bE f lim).1,(aB.fT S.Q S.bE f lim).2.1,S.C,S.Fr,dB S.m x [(aB.fT S.Q S.bE f lim).2.2.1.toNat]⟩
def q9(S:cT)(l:List aq.bW)(c x:Nat)(f lim:Int)(y:cT×Int):Prop:=
  (y=(S,11)/\(aq.dd l 0).length=0)\/(y=(S,0)/\(aq.dd l 0).length≠0/\c≠1)\/(y=(nY S x f lim,(aB.fT S.Q S.bE f lim).2.2.2)/\(aq.dd l 0).length≠0/\c=1)
theorem LQ{top:Nat}{S:cT}(d:dg top S){x:Nat}(aR:c8 S 1 x)(f lim:Int):gd top S (nY S x f lim) hS (fy 1 x):=
 oH d aR rfl rfl λo h=>kN (by(have e:bD 1=64:=rfl);simp only[VC,W3];omega)
section
variable {top : Nat} {A : bR} {S cp dI gJ : cT} {c x : Nat} {f lim e : Int}
theorem AN(aO:ck top A S)(g:ql top S f c x cp){i:Nat}{s:Int}{d b:Nat}{w:Int}(hs:fo s)(D:cA A.l i s (bv d b w)):¬fy c x d b:=by
 rintro⟨rfl,rfl⟩;obtain⟨u,E,f9,e,_,C⟩:=aO.obj i s _ hs D;obtain⟨H,rfl,_⟩:=i6 e;obtain rfl:u=d:=by omega
 exact g.n C
theorem wx(d:iF c)(aO:ck top A S)(g:ql top S f c x cp){l:List aq.bW}(h:q9 cp l c x f lim (dI,e)):gd top cp dI hS (fy c x)/\dI.C=cp.C/\dI.Fr=cp.Fr:=by rcases h with⟨h,_⟩|⟨h,_⟩|⟨h,_,rfl⟩;cases h;exact⟨oH g.g.P g.b rfl rfl λ_ _=>rfl,rfl,rfl⟩;cases h;exact⟨oH g.g.P g.b rfl rfl λ_ _=>rfl,rfl,rfl⟩;cases h;exact⟨LQ g.g.P g.b f lim,rfl,rfl⟩
theorem Ei{l:List aq.bW}(h:q9 cp l c x f lim (dI,e))(he:e≠0):dI.Q=cp.Q/\dI.bE=cp.bE:=by rcases h with⟨h,_⟩|⟨h,_⟩|⟨h,_,_⟩;simp_all;simp_all;cases h;have:=K0 he;exact⟨this.1,this.2.1⟩
theorem FU(w:cc A)(aA:A.np+2<=1000000)(C:iF c)(aO:ck top A S)(g:ql top S f c x cp){l:List aq.bW}(h:q9 cp l c x f lim (dI,e))(he:e≠0)(k:tA top dI f c x gJ):ck top {A with np:=A.np+2} gJ/\cc {A with np:=A.np+2}:=by obtain⟨g1,g2,g3⟩:=wx C aO g h;obtain⟨N,O⟩:=Ei h he;have H:gJ.Q=A.Q/\gJ.bE=A.bE:=(by rw[k.q.1,k.q.2,N,O,g.q.2.1,g.q.2.2,aO.Q.1];have:=g.q.1;rw[aO.Q.1]at this;rw[s6 w.d8 this];exact⟨rfl,aO.Q.2⟩);have D:∀a,¬fy c x 6 a/\¬fy c x 7 a:=λa=>⟨λh=>by rcases C with C|C<;>have:=h.1<;>omega,λh=>by rcases C with C|C<;>have:=h.1<;>omega⟩;refine⟨aO.mZ ((g.g.trans g1).trans k.g) rfl rfl rfl rfl H (λi s d b P hs E=>?_) (λa=>?_) ?_ ?_,⟨w.ok,w.d8,w.rt,w.ac,w.cY,w.nl,w.aL,w.hA,w.kI,w.mA,w.mB,w.m5,w.pd,by have:=w.bd;dsimp only;omega⟩⟩;have:=AN aO g hs E;exact⟨λh=>by rcases h with(h|h)|h;exact h;exact h;exact this h,λh=>by rcases h with(h|h)|h;exact h.elim;exact absurd h this;exact absurd h this⟩;exact⟨λh=>by rcases h with(h|h)|h;exact h;exact(D a).1 h;exact(D a).1 h,λh=>by rcases h with(h|h)|h;exact h;exact(D a).2 h;exact(D a).2 h⟩;rw[k.u,g2,g.u];have:=k.p;rw[g2,g3]at this;have:=g.p;have:=aO.gb;grind
structure vC(A:bR)(h kind lim:Int)(a8:bR)(nq:Int):Prop where
  an:0<=nq/\nq<=4294967295
  ex:∃(c x k:Nat) (g:Int) (dx:aq.fc) (Q:List aB.bY) (bE:Int) (own:Nat->Nat),kind=c/\iF c/\A.l[k]? =some ⟨dx,0,g⟩/\A.l.findIdx? aq.isEmpty=some k/\nq=g*256+k/\
    a8={A with l:=A.l.set k ⟨bv c x (A.own (h %256).toNat),1,g⟩,Q:=Q,bE:=bE,own:=own,np:=A.np+2}/\(c≠1->Q=(aB.df A.Q (A.own (h %256).toNat) (bD c)).1/\bE=A.bE/\own=A.own)
theorem RO{l:List aq.bW}(w:aq.dO l)(h:(aq.dd l 0).length≠0):∃k o g,l.findIdx? aq.isEmpty=some k/\l[k]? =some ⟨o,0,g⟩/\0<=g/\g<=1048575/\k<256:=by cases aA:l.findIdx? aq.isEmpty with|none=>rw[List.findIdx?_eq_none_iff]at aA;exfalso;apply h;rw[aq.dd,aq.mR,V5,List.length_eq_zero_iff,List.filter_eq_nil_iff];rintro⟨p,i⟩ d u;have hm:=Vi (Yo.1 d);have:=aA p hm;dsimp only at u;rw[aq.isEmpty]at this;rw[this]at u;cases u|some k=>obtain⟨p,d,hs⟩:=aq.Eo aA;obtain⟨o,s,g⟩:=p;dsimp only at hs;subst hs;have:=w.c3 _ (Vi d);exact⟨k,o,g,rfl,d,this.1,this.2,w.lt d⟩
theorem Rc{l:List aq.bW}{k:Nat}{dx o:aq.fc}{g:Int}(h:l.findIdx? aq.isEmpty=some k)(d:l[k]? =some ⟨dx,0,g⟩):aq.l5 l o=(l.set k ⟨o,1,g⟩,g*256+k,0):=by grind[aq.l5]
theorem FV(C:cc A)(aA:A.np+2<=1000000){h:Int}(a5:aB.dj A.Q (A.own (h %256).toNat))(D:iF c)(aO:ck top A S)(g:ql top S (A.own (h %256).toNat) c x cp)(w:q9 cp A.l c x (A.own (h %256).toNat) lim (dI,0)):
 ∃a8,ck top a8 dI/\cc a8/\vC A h c lim a8 (aq.l5 A.l (bv c x (A.own (h %256).toNat))).2.1/\a8.l=(aq.l5 A.l (bv c x (A.own (h %256).toNat))).1/\(aq.l5 A.l (bv c x (A.own (h %256).toNat))).2.2=0/\a8.q=A.q/\a8.now=A.now/\a8.pd=A.pd:=by
 have bS:(aq.dd A.l 0).length≠0:=(by rcases w with⟨w,_⟩|⟨_,w,_⟩|⟨_,w,_⟩;all_goals simp_all);obtain⟨k,dx,g0,au,O,b2,b6,ce⟩:=RO C.ok bS;rw[Rc au O];obtain⟨g1,g2,g3⟩:=wx D aO g w;have bb:bD c≠0:=by have:=(c8.bd g.g.P g.b).2.2.1;omega
 obtain⟨be,bf,bi⟩:=g.q;rw[aO.Q.1]at be bf;rw[aO.Q.2]at bi;have H:=jA.hA C.d8 be;have bR:=g.g.trans g1;have a9:∀s o,cA A.l k s o->¬fo s:=λs o Z=>(by have:=(Z.inj ⟨g0,O⟩).1;subst this;decide);have bc:∀i s (a0:Int),fo s->¬cA A.l i s (bv c x a0):=λi s a0 hs Z=>AN aO g hs Z ⟨rfl,rfl⟩;have a2:∀a,¬fy c x 6 a/\¬fy c x 7 a:=λa=>⟨λh=>by rcases D with D|D<;>have:=h.1<;>omega,λh=>by rcases D with D|D<;>have:=h.1<;>omega⟩;have b0:∀s,A.aL k s=0:=C.zt ⟨g0,O⟩ (.inl am);have a4:∀(Q:List aB.bY) (bE:Int),dI.Q=Q->dI.bE=bE->ck top {A with Q:=Q,bE:=bE,np:=A.np+2} dI:=λQ bE bK ah=>(by refine aO.mZ bR rfl rfl rfl rfl ⟨bK,ah⟩ (λi s d b cg hs Z=>?_) (λa=>?_) (by rw[g2];exact g.u) ?_;have:=AN aO g hs Z;exact⟨λh=>h.elim id id,λh=>h.elim (λh=>h.elim) λh=>absurd h this⟩;exact⟨λh=>h.elim id (a2 a).1,λh=>h.elim id (a2 a).2⟩;rw[g2,g3];have:=g.p;have:=aO.gb;grind);have a3:c8 dI c x:=g1.p c x g.b λh=>h;by_cases av:c=1;subst av;rcases w with⟨w,_⟩|⟨_,_,w⟩|⟨w,_,_⟩;trivial;trivial;obtain⟨aQ,aW⟩:=Prod.mk.inj w;rw[bf,bi]at aW;obtain⟨b1,bl⟩:=KZ aW.symm;have ah:0<=A.bE/\¬aB.dj A.Q A.bE:=(by refine⟨?_,λ⟨t,E,he⟩=>by have:=(C.d8.rg t E).2.1;omega⟩;obtain⟨t,E,_⟩:=C.d8.root;have:=(C.d8.rg t E);omega);have ci:A.bE≠0:=λe=>ah.2 (by rw[e];exact C.d8.root);have V:dI.Q=(aB.df A.Q (A.own (h %256).toNat) (bD 1)).1++[⟨A.bE,A.own (h %256).toNat,lim,0⟩]/\dI.bE=A.bE+1/\dI.m=dB cp.m x [A.bE.toNat]:=(by grind[nY]);have W:=H.d8.KY (A.own (h %256).toNat) lim;rw[bl]at W;dsimp only at W;have aH:=(a4 _ _ V.1 V.2.1).put (a8:={A with l:=A.l.set k ⟨bv (1:Nat) x (A.own (h %256).toNat),1,g0⟩,Q:=(aB.df A.Q (A.own (h %256).toNat) (bD 1)).1++[⟨A.bE,A.own (h %256).toNat,lim,0⟩],bE:=A.bE+1,own:=λi=>if i=k then A.bE.toNat else A.own i,np:=A.np+2}) a9 D a3 bc rfl rfl (λi az=>al az) (λ_=>by dsimp only;rw[ax rfl,V.2.2];have:=C.bd;exact B7 U) rfl ⟨rfl,rfl,rfl⟩ (λh=>absurd h am);refine⟨_,aH,C.put O bb a5 W (λy N=>?_) (λy N an=>?_) (λ_=>?_) (λi az=>al az) U (by have:=C.bd;omega),⟨by dsimp only;omega,1,x,k,g0,dx,_,_,_,rfl,D,O,au,rfl,rfl,λh=>absurd rfl h⟩,rfl,rfl,rfl,rfl,rfl⟩;have bW:=(H.has y).2 N;obtain⟨t,E,rfl⟩:=bW;have hm:t∈(aB.df A.Q (A.own (h %256).toNat) (bD 1)).1++[(⟨A.bE,A.own (h %256).toNat,lim,0⟩:aB.bY)]:=cr
 have ar:=aB.iw W.bA hm;have bj:=aB.iw H.d8.bA E;exact⟨⟨t,hm,rfl⟩,by rw[ar.2.2.1,<-bj.2.2.1];exact H.fU _ N,by rw[ar.2.2.2,<-bj.2.2.2];exact H.par _⟩;obtain⟨t,E,rfl⟩:=N;have ar:=aB.iw W.bA E;rcases Vg.1 E with E|E;exact absurd ((H.has _).1 ⟨t,E,rfl⟩) an;grind;rw[ax rfl,Wf ah.1];have hm:(⟨A.bE,A.own (h %256).toNat,lim,0⟩:aB.bY)∈(aB.df A.Q (A.own (h %256).toNat) (bD 1)).1++[(⟨A.bE,A.own (h %256).toNat,lim,0⟩:aB.bY)]:=cr
 have ar:=aB.iw W.bA hm;exact⟨⟨_,hm,rfl⟩,ah.2,by omega,ar.2.2.2⟩;have aQ:dI=cp:=(by rcases w with⟨w,_⟩|⟨w,_⟩|⟨_,_,w⟩;all_goals simp_all);have V:dI.Q=(aB.df A.Q (A.own (h %256).toNat) (bD c)).1/\dI.bE=A.bE:=b4
 have aH:=(a4 _ _ V.1 V.2).put (a8:={A with l:=A.l.set k ⟨bv c x (A.own (h %256).toNat),1,g0⟩,Q:=(aB.df A.Q (A.own (h %256).toNat) (bD c)).1,np:=A.np+2}) a9 D a3 bc rfl rfl (λ_ _=>rfl) (λh=>absurd h av) rfl ⟨rfl,rfl,rfl⟩ (λh=>⟨λo bp bt=>by rw[aQ];exact g.z o bp (by subst h;exact bt),b0⟩);exact⟨_,aH,C.put O bb a5 H.d8 (λy N=>⟨(H.has y).2 N,H.fU y N,H.par y⟩) (λy N an=>absurd ((H.has y).1 N) an) (λh=>absurd h av) (λ_ _=>rfl) U (by have:=C.bd;omega),⟨by dsimp only;omega,c,x,k,g0,dx,_,_,_,rfl,D,O,au,rfl,rfl,λ_=>⟨rfl,rfl,rfl⟩⟩,rfl,rfl,rfl,rfl,rfl⟩
end
theorem cc.Bd{A:bR}(h:cc A){i a:Nat}{s f:Int}(hs:fo s)(d:cA A.l i s (bv 1 a f)):A.own i<=1000000:=by obtain⟨⟨t,u,he⟩,_⟩:=h.cY i s a f hs d;have:=(h.d8.rg t u).2.1;have:=h.bd;omega
theorem uL{o:aq.fc}{c a:Nat}{f:Int}(h:o=bv c a f){k:Int}(d:o.k=k):o=bv k a f:=by rw[h]at d⊢;rw[<-d];rfl
variable(aI af top:Nat)
theorem LS(A:bR)(i a:Nat)(s f:Int)(hs:fo s)(C:cA A.l i s (bv 1 a f)):bt 100 [ae aI,.agg (ints (bv 1 a f).l).toArray] be [fP aI af top A] (aa (A.own i:Int)) [fP aI af top A]:=by
 apply aH Tryz.func100 Tryz.ntmps100;intro F _;refine J [341] ?_;rintro⟨H,bx,S⟩ ⟨aO,w⟩;apply J [82];dsimp only at aO w⊢;refine ab.open 1 rfl (λQ P=>?_);obtain⟨cP,bd,u,D⟩:=Q;have d:=P;apply J [79];dsimp only at d⊢;have O:=d.fX;have an:2^top<=128:=Vk (n:=2) am O.2;have N:=aO.my i s a f hs C;have ah:=w.Bd hs C;obtain⟨bJ,a9,f9,E,_,aR⟩:=aO.obj i s _ hs C;obtain⟨V,rfl,rfl⟩:=i6 E;obtain rfl:bJ=1:=U
 have Z:=c8.bd d aR;have W:bD 1=64:=rfl;have hw:cV S.m a<2^63:=U
 refine J [26,292] ?_;intro ba;apply J [31];refine cD [0,1,2,3,5,6,-4,-7,8,9,10,11,12] (ao (eG (a6 _))) ?_;apply J [50,287];apply au (ll af cP bd u D);refine J [225,45] ?_;apply au (tH u (1024*2^top) a S.m U U U);refine J [282,149,281,271,25] ?_;refine q rfl rfl (conv .u64 .i64 rfl rfl rfl (oX hw)) ?_;apply J [30];exact b7.i () [aa (cV S.m a:Int)] ⟨rfl,trivial⟩ (by rw[<-N];rfl) trivial (ay (⟨H,bx,S⟩:eY) ⟨aO,w⟩ (bM 6 rfl (ay (dP.mk cP bd u D:dP af) d ai)))
theorem DE(A:bR)(h:Int)(w:0<=h/\h<=4294967295):bt 46 [ae aI,aT h] be [fP aI af top A] (.tuple #[aa (mz A h).1,aa (mz A h).2]) [fP aI af top A]:=by apply aH Tryz.func46 Tryz.ntmps46;intro F _;apply J [1];refine ab.lR 0 rfl (λQ=>?_);obtain⟨⟨_,_,_⟩,aO,ah⟩:=Q;apply J [240,32];apply au (jX aI af top A h w 1);refine J [5,255] ?_;intro bC;apply J [116,34];apply Vh rfl<;>intro g0;rw[show mz A h=(0,(b5 A.l h 1).2)from al g0];apply J [188];exact hI ai;have g0:=Vj g0;obtain⟨i,C,V,E,H,W,Z,N,O,d⟩:=jv w.1 g0;have d:=d.resolve_left am;have u:cA A.l i 1 C.o:=⟨C.c3,by rw[<-H];exact E⟩;obtain⟨bJ,a9,f9,P,_,_⟩:=aO.obj i 1 _ (.inl rfl) u;have D:=uL P d;rw[show mz A h=((A.own i:Int),0)by rw[mz,ax g0,N]];rw[O];dsimp only;rw[D]at u⊢;apply J [4,252,0];apply au (LS aI af top A i a9 1 f9 (.inl rfl) u);apply J [7,96];exact hI ai
theorem Dl(u bx top:Nat)(S:cT)(l:List aq.bW)(av:aq.dO l)(c x:Nat)(f lim:Int)(V:dg top S)(aR:c8 S c x)(Z:0<=S.bE/\S.bE<=1000000):bK 132 [ae aI,.agg (ints (bv (c:Int) x f).l).toArray,aa lim] be [aj aI 135 [ae af,ae u,ae bx],aX 264 5 (cJ u) 256 256 (aq.fs l),e3 af top S] (λy:cT×Int=>aa y.2) (λy=>q9 S l c x f lim y) (λy=>[aj aI 135 [ae af,ae u,ae bx],aX 264 5 (cJ u) 256 256 (aq.fs l),e3 af top y.1]):=by
 apply aH Tryz.func132 Tryz.ntmps132;intro F _;refine J [87,26,292] ?_;intro ch;apply J [31,64,0];apply ew (aq.RP u l av) ⟨_,bj.rd (ad:=some ⟨u,0,none⟩)⟩;apply J [10,244];apply Vh rfl<;>intro g0;apply J [186];exact bu (S,11) (.inl ⟨rfl,by omega⟩) ai;apply J [44,111,93,2];apply Vh rfl<;>intro g1;apply J [186];exact bu (S,0) (.inr (.inl ⟨rfl,by omega,λh=>g1 (by subst h;rfl)⟩)) ai;obtain rfl:c=1:=by have bL:((c:Nat):Int)=1:=Vj g1;omega
 refine ab.open 3 rfl (λaW aQ=>?_);obtain⟨cP,bd,d,H⟩:=aW;have ar:=aQ;apply J [79];dsimp only at ar⊢;have aL:=V.fX;have a5:2^top<=128:=Vk (n:=2) am aL.2;have a3:=c8.bd V aR;have a2:bD 1=64:=rfl;have W:dg top (nY S x f lim):=by grind[dg,nY]
 obtain⟨an,a0⟩:=K1 (L:=S.Q) (f:=f) (lim:=lim) Z.1;apply J [44];skip;refine cD [0,1,2,3,4,5,6,7,8,9,-10,11,12,13,14,15] (ao (eK (eK (a6 _)))) ?_;apply J [50,89,102,136,263];apply au (aB.Ri cP S.Q S.bE f lim Z.2);refine J [232,9] ?_;generalize a4:(aB.fT S.Q S.bE f lim).2.2.1=ah at*;obtain⟨N,rfl⟩:∃n:Nat,ah=(n:Int):=⟨ah.toNat,(Wf an).symm⟩;apply J [149,281,271,6];refine ab.qu _ [] 11 rfl a1 a1 (eG (eG (a6 _))) ?_;refine J [394,415,416,443] ?_;refine dy (i:=5) rfl rfl rfl a1 (cY 1 rfl rfl) ?_;refine J [537] ?_;refine dy (i:=7) rfl rfl rfl a1 (fW (v:=.int _ _) rfl) ?_;refine dy (i:=8) rfl rfl rfl a1 (conv .i64 .u64 rfl rfl rfl (p7 U)) ?_;refine k9 (i:=4) (j:=9) rfl rfl rfl rfl a1 ?_ ?_;apply au (ll af cP bd d H);change aE _ _/\ev _ _ _ _ _ _ _ _ _ _ _ (ag [_,_,_,_,_,_,_,_,_]);refine⟨ai,?_⟩;refine ev.of [(9,true),(10,true)] a1 rfl ?_;refine J [15,152] ?_;intro O;refine J [45] ?_;apply ew (lH d (1024*2^top) x S.m [N] (cJ O) 1 U cG jq U (by intro x E;simp only[Vt,Vp,or_false]at E;subst E;omega)) ⟨_,bj.rd (ad:=some ⟨O,0,none⟩)⟩;refine J [225,113,133] ?_;have w:nY S x f lim=⟨(aB.fT S.Q S.bE f lim).1,(aB.fT S.Q S.bE f lim).2.1,S.C,S.Fr,dB S.m x [N]⟩:=by grind[nY]
 have D:=W;rw[w]at D;exact bu (nY S x f lim,(aB.fT S.Q S.bE f lim).2.2.2) (.inr (.inr ⟨rfl,by omega,rfl⟩)) (by rw[w];exact(bM 7 rfl (bM 7 rfl (ay (dP.mk cP bd d H:dP af) D ai))));refine J [152] ?_;intro P;refine⟨ai,?_⟩;refine ev.of [(4,true),(10,true)] a1 rfl ?_;refine dY rfl rfl ?_;apply au (ll af cP bd d H);refine J [225,45] ?_;apply ew (lH d (1024*2^top) x S.m [N] (cJ P) 1 U cG jq U (by intro x E;simp only[Vt,Vp,or_false]at E;subst E;omega)) ⟨_,bj.rd (ad:=some ⟨P,0,none⟩)⟩;refine J [225,113,133] ?_;have w:nY S x f lim=⟨(aB.fT S.Q S.bE f lim).1,(aB.fT S.Q S.bE f lim).2.1,S.C,S.Fr,dB S.m x [N]⟩:=by grind[nY]
 have D:=W;rw[w]at D;exact bu (nY S x f lim,(aB.fT S.Q S.bE f lim).2.2.2) (.inr (.inr ⟨rfl,by omega,rfl⟩)) (by rw[w];exact(bM 7 rfl (bM 7 rfl (ay (dP.mk cP bd d H:dP af) D ai))))
def xb(k lim:Int):Prop:=(k=8\/1<=k/\k<=5)/\¬(k=1/\lim<0)
def F8(A a8:bR):Prop:=a8=A\/a8={A with np:=A.np+2}
def qi(top:Nat)(A:bR)(h k lim:Int):Prop:=(b5 A.l h 1).2≠0\/¬xb k lim\/k=1\/(∃c:Nat,k=c/\(aB.df A.Q (A.own (h %256).toNat) (bD c)).2≠0)\/2^top<=A.np\/(aq.dd A.l 0).length=0
def JK(top:Nat)(A:bR)(h k lim:Int)(y:bR×Int×Int):Prop:=
  (y.2.2=0/\vC A h k lim y.1 y.2.1/\(b5 A.l h 1).2=0)\/(y.2.2≠0/\y.2.1=0/\F8 A y.1/\qi top A h k lim)
variable{lim:Int}
theorem Fs{k:Int}(h:xb k lim):∃c:Nat,k=c/\iF c:=by refine⟨k.toNat,?_,?_⟩;rcases h.1 with h|h<;>omega;rcases h.1 with h|h;exact .inr U;exact .inl U
theorem Ej{d:cT}{l:List aq.bW}{c x:Nat}{f:Int}{y:cT×Int}(h:q9 d l c x f lim y)(he:y.2≠0):c=1\/(aq.dd l 0).length=0:=by rcases h with⟨_,h⟩|⟨h,_⟩|⟨_,_,h⟩;all_goals simp_all
theorem G6{top:Nat}{A:bR}{S d:cT}{c x:Nat}{f:Int}{y:cT×Int}(u:cc A)(aO:ck top A S)(g:ql top S f c x d){l:List aq.bW}(h:q9 d l c x f lim y)(he:y.2≠0):(aB.ep y.1.Q f (bD c)).2=0:=by have w:=(Ei (dI:=y.1) (e:=y.2) h he).1;have:=g.q.1;rw[aO.Q.1]at this;rw[w,g.q.2.1,aO.Q.1,s6 u.d8 this]
theorem Li(k:Int):bt 130 [aa k] be [] (.bool (decide (k=8\/1<=k/\k<=5))) []:=by apply aH Tryz.func130 Tryz.ntmps130;intro F _;apply J [8];by_cases u:k=8;subst u;refine J [246,193,476,52,162,162,363,132] ?_;exact j4;apply J [246,193];refine VM 5 rfl (c:=false) (du u) ?_;apply J [12,303,317];refine aY.split 8 rfl (λd=>?_) (λd=>?_);have d:=dz d;apply J [12,288,369,71];exact sd;have d:=d6 d;apply J [49,386,71];exact se
theorem Dw(A:bR)(h:Int)(a2:0<=h/\h<=4294967295)(k lim:Int)(aA:A.np+2<=1000000):bK 85 [ae aI,aT h,aa k,aa lim] c5 [fP aI af top A] (λy:bR×Int×Int=>.tuple #[aT y.2.1,aa y.2.2]) (λy=>JK top A h k lim y) (λy=>[fP aI af top y.1]):=by
 apply aH Tryz.func85 Tryz.ntmps85;intro F b0;apply J [1];haveI:cw F:=⟨b0⟩;apply J [240,32];apply au (DE aI af top A h a2);apply J [5,134,259];apply Vh rfl<;>intro g0;have g1:(b5 A.l h 1).2≠0:=λe=>g0 (by rw[mz,ax e]);rw[show mz A h=(0,(b5 A.l h 1).2)from al g1];apply J [25,117];exact cQ (A,0,(b5 A.l h 1).2) (.inr ⟨g1,rfl,.inl rfl,.inl g1⟩) ai;have g1:(b5 A.l h 1).2=0:=Wi λe=>g0 (show(mz A h).2≠0 by rw[mz,al e];exact e);rw[show mz A h=((A.own (h %256).toNat:Int),0)from ax g1];dsimp only;apply J [142];apply au (Li k);apply J [5];by_cases g2:k=8\/1<=k/\k<=5;rw[da g2];apply J [90,18,12,158,317];refine aY.split 32 rfl (λg3=>?_) (λg3=>?_);have g3:=dz g3;apply J [204,369,207];apply Vh rfl<;>intro g4;apply J [180];exact cQ (A,0,1) (.inr ⟨(show(1:Int)≠0 by decide),rfl,.inl rfl,.inr (.inl λh=>h.2 ⟨g3,g4⟩)⟩) ai;have g5:xb k lim:=⟨g2,λh=>by omega⟩;obtain⟨c,rfl,C⟩:=Fs g5;have b1:∀z:Prop,z=z:=λ_=>rfl;refine J [22,35,3,434] ?_;rintro⟨u,bx,S⟩ ⟨aO,d⟩;apply J [10];dsimp only at aO d⊢;obtain⟨i,Z,bt,ar,av,bD,bW,aL,bY,D⟩:=jv a2.1 g1;have D:=D.resolve_left am;have H:cA A.l i 1 Z.o:=⟨Z.c3,by rw[<-av];exact ar⟩;obtain⟨bJ,a9,f9,aQ,_,_⟩:=aO.obj i 1 _ (.inl rfl) H;have an:=uL aQ D;have a0:aB.dj A.Q (A.own (h %256).toNat):=(by rw[an]at H;rw[aL];exact(d.cY i 1 a9 f9 (.inl rfl) H).1);have a3:0<=A.bE/\A.bE<=1000000:=(by obtain⟨t,a4,_⟩:=d.d8.root;have:=d.d8.rg t a4;have:=d.bd;omega);refine e rfl ?_;apply bb (Dm aI af u bx top S (A.own (h %256).toNat) c C);intro⟨bj,cp,ct⟩ V;apply J [10];cases bj with|none=>?_|some x=>?_
 obtain⟨he,rfl,W⟩:=V;dsimp only[sY];have E:qi top A h c lim:=(by rw[aO.Q.1]at W;rcases W with hw|⟨_,hw⟩;exact .inr (.inr (.inr (.inl ⟨c,rfl,by rw[<-hw];exact he⟩)));exact .inr (.inr (.inr (.inr (.inl (WC hw aO.gb))))));apply J [134,34];refine Vh rfl (λbl=>?_) (λbl=>absurd (he) bl);apply J [188];exact cQ (A,0,ct) (.inr ⟨he,rfl,.inl rfl,E⟩) (ay (⟨u,bx,cp⟩:eY) ⟨aO,d⟩ ai);obtain⟨rfl,cH⟩:=V;dsimp only[sY];refine J [134,211,25,120,229,0,222] ?_;intro ba;apply J [54,29,252,28];apply bb (Dl aI af u bx top cp A.l d.ok c x (A.own (h %256).toNat) lim cH.g.P cH.b (by rw[cH.q.2.2,aO.Q.2];exact a3));intro⟨dI,ct⟩ w;apply J [14,126];apply Vh rfl<;>intro g6;obtain⟨bS,b2,b6⟩:=wx C aO cH w;apply J [252,0];apply bb (wj aI af u bx top dI c x (A.own (h %256).toNat) C (bS.p c x cH.b λh=>h) (G6 (y:=(dI,ct)) d aO cH w g6));intro gJ aW;apply J [14];obtain⟨N,O⟩:=FU d aA C aO cH w g6 aW;have E:qi top A h c lim:=(by rcases Ej (y:=(dI,ct)) w g6 with hw|hw;exact .inr (.inr (.inl (by subst hw;rfl)));exact .inr (.inr (.inr (.inr (.inr hw)))));apply J [2,188];exact cQ ({A with np:=A.np+2},0,ct) (.inr ⟨g6,rfl,.inr rfl,E⟩) (ay (⟨u,bx,gJ⟩:eY) ⟨N,O⟩ ai);obtain rfl:ct=0:=Vj g6;obtain⟨ah,N,O,a5,a8,bc,be,bf,bi⟩:=FV d aA a0 C aO cH w;apply J [44];refine cD [0,1,2,3,4,-5,6,7,8,9] (show aE (ag _) (ag [aj ba 60 (ints (bv (c:Int) x (A.own (h %256).toNat)).l),aj aI 135 [ae af,ae u,ae bx]])from ai) ?_;apply J [137,310,15];apply au (aq.od u A.l (bv (c:Int) x (A.own (h %256).toNat)) d.ok);refine J [237,9] ?_;rw[bc];apply J [281,271,147];exact cQ (ah,(aq.l5 A.l (bv (c:Int) x (A.own (h %256).toNat))).2.1,0) (.inl ⟨rfl,a5,g1⟩) (by rw[<-a8,<-be,<-bf,<-bi];exact(ay (⟨u,bx,dI⟩:eY) ⟨N,O⟩ ai));have g3:=d6 g3;have g5:xb k lim:=⟨g2,λh=>g3 h.1⟩;apply J [49,386,151,191];obtain⟨c,rfl,C⟩:=Fs g5;have b1:∀z:Prop,z=z:=λ_=>rfl;refine J [22,35,3,434] ?_;rintro⟨u,bx,S⟩ ⟨aO,d⟩;apply J [10];dsimp only at aO d⊢;obtain⟨i,Z,bt,ar,av,bD,bW,aL,bY,D⟩:=jv a2.1 g1;have D:=D.resolve_left am;have H:cA A.l i 1 Z.o:=⟨Z.c3,by rw[<-av];exact ar⟩;obtain⟨bJ,a9,f9,aQ,_,_⟩:=aO.obj i 1 _ (.inl rfl) H;have an:=uL aQ D;have a0:aB.dj A.Q (A.own (h %256).toNat):=(by rw[an]at H;rw[aL];exact(d.cY i 1 a9 f9 (.inl rfl) H).1);have a3:0<=A.bE/\A.bE<=1000000:=(by obtain⟨t,a4,_⟩:=d.d8.root;have:=d.d8.rg t a4;have:=d.bd;omega);refine e rfl ?_;apply bb (Dm aI af u bx top S (A.own (h %256).toNat) c C);intro⟨bj,cp,ct⟩ V;apply J [10];cases bj with|none=>?_|some x=>?_
 obtain⟨he,rfl,W⟩:=V;dsimp only[sY];have E:qi top A h c lim:=(by rw[aO.Q.1]at W;rcases W with hw|⟨_,hw⟩;exact .inr (.inr (.inr (.inl ⟨c,rfl,by rw[<-hw];exact he⟩)));exact .inr (.inr (.inr (.inr (.inl (WC hw aO.gb))))));apply J [134,34];refine Vh rfl (λbp=>?_) (λbp=>absurd (he) bp);apply J [188];exact cQ (A,0,ct) (.inr ⟨he,rfl,.inl rfl,E⟩) (ay (⟨u,bx,cp⟩:eY) ⟨aO,d⟩ ai);obtain⟨rfl,cH⟩:=V;dsimp only[sY];refine J [134,211,25,120,229,0,222] ?_;intro bC;apply J [54,29,252,28];apply bb (Dl aI af u bx top cp A.l d.ok c x (A.own (h %256).toNat) lim cH.g.P cH.b (by rw[cH.q.2.2,aO.Q.2];exact a3));intro⟨dI,ct⟩ w;apply J [14,126];apply Vh rfl<;>intro g6;obtain⟨bS,b2,b6⟩:=wx C aO cH w;apply J [252,0];apply bb (wj aI af u bx top dI c x (A.own (h %256).toNat) C (bS.p c x cH.b λh=>h) (G6 (y:=(dI,ct)) d aO cH w g6));intro gJ aW;apply J [14];obtain⟨N,O⟩:=FU d aA C aO cH w g6 aW;have E:qi top A h c lim:=(by rcases Ej (y:=(dI,ct)) w g6 with hw|hw;exact .inr (.inr (.inl (by subst hw;rfl)));exact .inr (.inr (.inr (.inr (.inr hw)))));apply J [2,188];exact cQ ({A with np:=A.np+2},0,ct) (.inr ⟨g6,rfl,.inr rfl,E⟩) (ay (⟨u,bx,gJ⟩:eY) ⟨N,O⟩ ai);obtain rfl:ct=0:=Vj g6;obtain⟨ah,N,O,a5,a8,bc,be,bf,bi⟩:=FV d aA a0 C aO cH w;apply J [44];refine cD [0,1,2,3,4,-5,6,7,8,9] (show aE (ag _) (ag [aj bC 60 (ints (bv (c:Int) x (A.own (h %256).toNat)).l),aj aI 135 [ae af,ae u,ae bx]])from ai) ?_;apply J [137,310,15];apply au (aq.od u A.l (bv (c:Int) x (A.own (h %256).toNat)) d.ok);refine J [237,9] ?_;rw[bc];apply J [281,271,147];exact cQ (ah,(aq.l5 A.l (bv (c:Int) x (A.own (h %256).toNat))).2.1,0) (.inl ⟨rfl,a5,g1⟩) (by rw[<-a8,<-be,<-bf,<-bi];exact(ay (⟨u,bx,dI⟩:eY) ⟨N,O⟩ ai));rw[du g2];apply J [90,18,52,162,162,363,169,58,117];exact cQ (A,0,1) (.inr ⟨(show(1:Int)≠0 by decide),rfl,.inl rfl,.inr (.inl λh=>g2 h.1)⟩) ai
section
variable (K : Int → List Int) (fm : Int → Nat)
def nZ:Nat->Int->List Int
  | 0,x=>[x]
  | n+1,x=>(K x).flatMap (nZ n)++[x]
def hc(x:Int):List Int:=nZ K (fm x) x
end
structure lE(K:Int->List Int)(fm:Int->Nat):Prop where
  lt:∀x,∀z∈K x,fm z<fm x
  bA:∀x,(K x).Nodup
  un:∀x y z,z∈K x->z∈K y->x=y
section
variable {K : Int → List Int} {fm : Int → Nat}
theorem zJ{α β:Type}{f g:α->List β}:∀{l:List α},(∀a∈l,f a=g a)->l.flatMap f=l.flatMap g
 | [],_=>rfl
 | a::l,h=>by rw[VD,VD,h a cG,zJ λb d=>h b (by simp[d])]
theorem Et{f:Int->List Int}:∀{l:List Int},l.Nodup->(∀a∈l,(f a).Nodup)->(∀a∈l,∀b∈l,a≠b->∀z,z∈f a->z∈f b->False)->(l.flatMap f).Nodup
 | [],_,_,_=>by rw[List.flatMap_nil];exact V2
 | a::l,an,u,C=>by obtain⟨O,P⟩:=Vy.1 an;rw[VD,VI];refine⟨u a cG,Et P (λb d=>u b (by simp[d])) λb d c H=>C b (by simp[d]) c (by simp[H]),λz N w hw e=>?_⟩;obtain⟨b,d,E⟩:=Wc.1 hw;exact C a cG b (by simp[d]) (λD=>O (D▸d)) z N (e▸E)
theorem zI{f:Int->List Int}{y:Int}:∀{l L R:List Int},l.flatMap f=L++y::R->∃a∈l,∃L' u,f a=L'++y::u/\∀z∈L',z∈L
 | [],L,R,h=>by rw[List.flatMap_nil]at h;cases L<;>cases h
 | a::l,L,R,h=>by rw[VD]at h;rcases YJ.1 h with⟨O,D,d⟩|⟨C,D,d⟩;obtain⟨b,N,L',u,E,H⟩:=zI d;exact⟨b,by simp[N],L',u,E,λz w=>by rw[D];exact Vg.2 (.inr (H z w))⟩;cases C with|nil=>rw[VK]at d;obtain⟨b,N,L',u,E,H⟩:=zI (L:=[]) (y:=y) (R:=R) (l:=l) (f:=f) (by rw[VK];exact d.symm);exact⟨b,by simp[N],L',u,E,λz w=>absurd (H z w) cG⟩|cons c C=>rw[V4]at d;obtain⟨rfl,P⟩:=Xl d;exact⟨a,by simp,L,C,D,λz w=>w⟩
theorem lE.nil(h:lE K fm){x:Int}(e:fm x=0):K x=[]:=by rw[List.eq_nil_iff_forall_not_mem];intro z d;have:=h.lt x z d;omega
theorem DL(h:lE K fm):∀(n m:Nat) (x:Int),fm x<=n->fm x<=m->nZ K n x=nZ K m x
 | 0,0,_,_,_=>rfl
 | 0,m+1,x,d,_=>by rw[nZ,nZ,h.nil U];rfl
 | n+1,0,x,_,u=>by rw[nZ,nZ,h.nil U];rfl
 | n+1,m+1,x,d,u=>by rw[nZ,nZ];congr 1;refine zJ λz w=>?_;have:=h.lt x z w;exact DL h n m z U U
theorem oS(h:lE K fm)(x:Int):hc K fm x=(K x).flatMap (hc K fm)++[x]:=by rw[hc];cases an:fm x with|zero=>rw[h.nil an];rfl|succ n=>rw[nZ];congr 1;refine zJ λz d=>?_;have:=h.lt x z d;exact DL h _ _ z U (Vm _)
theorem xC(h:lE K fm){x z:Int}:z∈hc K fm x↔z=x\/∃y∈K x,z∈hc K fm y:=by rw[oS h,Vg,Wc,Vf];grind
theorem uS(h:lE K fm)(x:Int):x∈hc K fm x:=(xC h).2 (.inl rfl)
theorem xB(h:lE K fm):∀(n:Nat) (x z:Int),fm x<=n->z∈hc K fm x->fm z<=fm x
 | n,x,z,an,w=>by rcases(xC h).1 w with rfl|⟨y,u,d⟩;exact Vm _;have C:=h.lt x y u;cases n with|zero=>omega|succ n=>have:=xB h n y z U d;omega
theorem rS(h:lE K fm):∀(n:Nat) (x z:Int),fm x<=n->z∈hc K fm x->z=x\/∃y,z∈K y/\y∈hc K fm x
 | n,x,z,an,E=>by rcases(xC h).1 E with rfl|⟨y,d,u⟩;exact .inl rfl;have H:=h.lt x y d;cases n with|zero=>omega|succ n=>rcases rS h n y z U u with rfl|⟨w,C,D⟩;exact .inr ⟨x,d,uS h x⟩;exact .inr ⟨w,C,(xC h).2 (.inr ⟨y,d,D⟩)⟩
theorem GR(h:lE K fm)(a b:Int):∀(n:Nat) (z:Int),fm a+fm b<=n+fm z->z∈hc K fm a->z∈hc K fm b->a∈hc K fm b\/b∈hc K fm a
 | n,z,an,D,E=>by rcases rS h _ a z (Vm _) D with rfl|⟨y,d,u⟩;exact .inl E;rcases rS h _ b z (Vm _) E with rfl|⟨w,H,C⟩;exact .inr D;have:=h.un y w z d H;subst this;have N:=h.lt y z d;have O:=xB h _ a y (Vm _) u;have P:=xB h _ b y (Vm _) C;cases n with|zero=>omega|succ n=>exact GR h a b n y U u C
theorem Bn(h:lE K fm):∀(n:Nat) (x:Int),fm x<=n->(hc K fm x).Nodup
 | n,x,an=>by
  rw[oS h,VI];have N:∀y∈K x,x∉hc K fm y:=λy w Q=>(by have:=xB h _ y x (Vm _) Q;have:=h.lt x y w;omega);refine⟨?_,by simp,λa D b u e=>?_⟩;refine Et (h.bA x) (λy w=>?_) λa D b u O z C P=>?_;have C:=h.lt x y w;cases n with|zero=>omega|succ n=>exact Bn h n y U
  rcases GR h a b _ z (Nat.le_add_right _ _) C P with E|E;rcases rS h _ b a (Vm _) E with d|⟨y,d,H⟩;exact O d;have:=h.un x y a D d;subst this;exact N b u H;rcases rS h _ a b (Vm _) E with d|⟨y,d,H⟩;exact O d.symm;have:=h.un x y b u d;subst this;exact N a D H;rw[Vf]at u;obtain⟨y,w,C⟩:=Wc.1 D;exact N y w (by rw[<-u,<-e];exact C)
theorem Bo(h:lE K fm):∀(n:Nat) (x:Int),fm x<=n->∀(L R:List Int) (y z:Int),hc K fm x=L++y::R->z∈K y->z∈L
 | n,x,an,L,R,y,z,e,w=>by
  rw[oS h]at e;rcases YJ.1 e with⟨C,u,d⟩|⟨D,u,d⟩;cases C with|nil=>rw[VK]at d;obtain⟨rfl,_⟩:=Xl d;rw[u,Wa];exact Wc.2 ⟨z,w,uS h z⟩|cons a C=>have:=congrArg List.length d;simp at this
  cases D with|nil=>rw[VK]at d;obtain⟨rfl,_⟩:=Xl d;rw[Wa]at u;rw[<-u];exact Wc.2 ⟨z,w,uS h z⟩|cons c D=>rw[V4]at d;obtain⟨rfl,_⟩:=Xl d;obtain⟨a,P,E,H,N,O⟩:=zI u;have Q:=h.lt x a P;(cases n with|zero=>omega|succ n=>exact O z (Bo h n a U E H y z N w))
end
theorem oP(k:IntKind)(xs d:List Int):cf k xs++cf k d=cf k (xs++d):=by simp[cf]
def eT(A:bR)(h:Int):List Int:=if(b5 A.l h 1).2=0 then(aq.dd A.l 1).filter λx=>decide ((aq.cW A.l x).1.f=(A.own (h %256).toNat:Int)/\x≠0)else[]
def jr(A:bR)(h:Int):Nat:=if(b5 A.l h 1).2=0 then 2000000-A.own (h %256).toNat else 0
theorem tF{l:List aq.bW}(w:aq.dO l){h s:Int}:h∈aq.dd l s↔∃(i:Nat) (p:aq.bW),l[i]? =some p/\p.st=s/\h=p.c3*256+i:=by rw[aq.dd,aq.mR,Vq];constructor;grind;rintro⟨i,p,d,u,rfl⟩;exact⟨(p,i),VE.2 ⟨Yo.2 d,da u⟩,rfl⟩
theorem oB{l:List aq.bW}(d:aq.dO l){h:Int}:h∈aq.dd l 1↔0<=h/\(aq.cW l h).2=0:=by rw[tF d];constructor;rintro⟨i,p,u,w,rfl⟩;have C:=d.lt u;have:=d.c3 p (Vi u);grind[aq.cW,uA];grind[n4]
theorem vN(l:List aq.bW)(w:aq.dO l)(s:Int):(aq.dd l s).Nodup:=by rw[aq.dd,aq.mR,List.Nodup,Yv];refine List.Pairwise.filter _ ?_;rw[List.pairwise_iff_getElem];intro i j d u C e;rw[List.getElem_zipIdx,List.getElem_zipIdx]at e;dsimp only at e;rw[List.length_zipIdx,w.n]at d u;omega
theorem nT{l:List aq.bW}(d:aq.dO l){h s:Int}(hm:h∈aq.dd l s):0<=h/\h<=4294967295:=by obtain⟨i,p,u,_,rfl⟩:=(tF d).1 hm;have w:=d.lt u;have:=d.c3 p (Vi u);omega
variable{A:bR}
theorem oa{h z:Int}:z∈eT A h↔(b5 A.l h 1).2=0/\z∈aq.dd A.l 1/\(aq.cW A.l z).1.f=(A.own (h %256).toNat:Int)/\z≠0:=by rw[eT];simp_all
theorem cc.xu(h:cc A){x:Int}(C:0<=x)(e:(b5 A.l x 1).2=0)(O:∀i o,cA A.l i 1 o->o.k=1->∃a f,o=bv 1 a f):∃i a f,cA A.l i 1 (bv 1 a f)/\(x %256).toNat=i/\A.own i<=1000000/\(aq.cW A.l x).1.f=f/\∃g:Int,x=g*256+i/\A.l[i]? =some ⟨bv 1 a f,1,g⟩:=by obtain⟨i,p,D,d,E,P,H,N,w,u⟩:=jv C e;have u:=u.resolve_left am;obtain⟨o,s,g⟩:=p;dsimp only at*;subst E;obtain⟨a,f,rfl⟩:=O i o ⟨g,d⟩ u;refine⟨i,a,f,⟨g,d⟩,N,h.Bd (.inl rfl) ⟨g,d⟩,?_,g,H,d⟩;rw[pO (by rw[aq.cW,D];exact u)]at w;rw[w];rfl
theorem cc.O8(h:cc A)(D:∀i o,cA A.l i 1 o->o.k=1->∃a f,o=bv 1 a f)(a3:∀x:Int,x<0->(b5 A.l x 1).2≠0):lE (eT A) (jr A):=by
 have u:∀x,(b5 A.l x 1).2=0->0<=x:=cr
 refine⟨λx z av=>?_,λx=>?_,λx y z ar au=>?_⟩;obtain⟨d,ah,w,aW⟩:=oa.1 av;obtain⟨i,a,f,H,C,an,_,_⟩:=h.xu (u x d) d D;rw[jr,jr,ax d,C];rw[C]at w;split;rename_i e;obtain⟨j,b,E,bS,aH,O,aL,g,P,Q⟩:=h.xu (u z e) e D;rw[aH];rw[aL]at w;have aq:j≠0:=λZ=>(by subst Z;obtain⟨⟨a0,bL⟩,_⟩:=h.rt;simp_all);obtain⟨V,W⟩:=h.cY j 1 b E (.inl rfl) bS;obtain⟨a4,az⟩:=W aq;obtain⟨t,N,he⟩:=V;rw[<-he,(aB.iw h.d8.bA N).2.2.2]at az;have:=(h.d8.par t N U).2;omega;omega;rw[eT];split;exact(vN A.l h.ok 1).sublist WK;trivial;obtain⟨d,ah,w,_⟩:=oa.1 ar;obtain⟨bS,_,O,_⟩:=oa.1 au;obtain⟨i,a,f,H,C,_,_,g,an,a2⟩:=h.xu (u x d) d D;obtain⟨j,b,E,P,Q,_,_,aQ,V,W⟩:=h.xu (u y bS) bS D;rw[C]at w;rw[Q]at O;have:=h.nl i j 1 1 a b f E (.inl rfl) (.inl rfl) H P U;simp_all
def ft(A:bR)(h:Int):List Int:=(eT A h).flatMap (hc (eT A) (jr A))
theorem ck.bS{top:Nat}{S:cT}(h:ck top A S):∀i o,cA A.l i 1 o->o.k=1->∃a f,o=bv 1 a f:=λi o d u=>by
 obtain⟨c,a,f,e,_⟩:=h.obj i 1 o (.inl rfl) d
 exact⟨a,f,uL e u⟩
theorem Dv(aI af top:Nat)(A:bR)(h:Int)(Q:0<=h/\h<=4294967295):bK 308 [ae aI,aT h] be [fP aI af top A] (λy:Option Addr×Nat=>.slice y.1 (eT A h).length y.2) (λ_=>True) (λy=>[aX 33 1 y.1 (eT A h).length y.2 (cf .u32 (eT A h)),fP aI af top A]):=by
 apply aH Tryz.func308 Tryz.ntmps308;intro F _;apply J [1,121,121,32];apply au (DE aI af top A h Q);apply J [5,134,34];apply Vh rfl<;>intro g0;have g1:(b5 A.l h 1).2≠0:=λe=>g0 (by rw[mz,ax e]);rw[show eT A h=[]from al g1];apply J [121,76];exact bu (none,0) trivial ((dG 33 1 _).trans ai);have g1:(b5 A.l h 1).2=0:=Wi λe=>g0 (show(mz A h).2≠0 by rw[mz,al e];exact e);rw[show mz A h=((A.own (h %256).toNat:Int),0)from ax g1];dsimp only;rw[show eT A h=(aq.dd A.l 1).filter (λx=>decide ((aq.cW A.l x).1.f=(A.own (h %256).toNat:Int)/\x≠0))from ax g1];generalize aQ:(λx=>decide ((aq.cW A.l x).1.f=(A.own (h %256).toNat:Int)/\x≠0))=pr;apply ab.open 0 rfl;rintro⟨w,bx,S⟩ ⟨aO,C⟩;apply J [82];dsimp only at aO C⊢;apply J [44,64,0];apply eM (aq.FB w A.l C.ok) ⟨_,bj.rd (ad:=some ⟨w,0,none⟩)⟩;intro y _;apply J [14];have P:∀z∈aq.dd A.l 1,0<=z/\z<=4294967295:=λz=>nT C.ok;have hle:=aq.pg A.l 1;rw[C.ok.n]at hle;generalize an:aq.dd A.l 1=d at*;apply J [224,112];refine ab.loop (ι:=Nat×Option Addr×Nat) (λs=>s.1<=d.length) (λs=>[(0,ae aI),(1,aT h),(5,.slice s.2.1 ((d.take s.1).filter pr).length s.2.2),(6,aa (A.own (h %256).toNat:Int)),(24,.slice y.1 d.length y.2),(25,aa d.length),(26,aa ((s.1:Nat):Int))]) (λs=>ag [aX 33 1 s.2.1 ((d.take s.1).filter pr).length s.2.2 (cf .u32 ((d.take s.1).filter pr)),aX 33 1 y.1 d.length y.2 (cf .u32 d),aj aI 135 [ae af,ae w,ae bx],e3 af top S,aX 264 5 (cJ w) 256 256 (aq.fs A.l),eX.ez bx A.pd A.now A.q,F]) (λs=>d.length-s.1) (0,none,0) (Nat.zero_le _) bG ((dG 33 1 _).trans ai) ?_;rintro⟨k,ad,cap⟩ V a0;dsimp only[cx]at V⊢;apply J [43];apply Vh rfl<;>intro aB;have W:k<d.length:=U
 obtain⟨z,H⟩:∃z,d[k]? =some z:=⟨d[k],Ve W⟩;have aL:0<(cf .u32 d).length:=by grind[hT]
 have av:k<(cf .u32 d).length:=by grind[hT]
 have Z:=P z (Vi H);have aW:(d.take (k+1)).filter pr=(d.take k).filter pr++if pr z=true then[z]else[]:=(by grind[List.take_succ]);have ar:((d.take k).filter pr).length<=256:=cr;refine J [245,311] ?_;refine q rfl rfl (dk rfl rfl (j0 H)) ?_;apply J [27,64,28];apply ew (aq.zP w A.l z C.ok Z) ⟨_,bj.rd (ad:=some ⟨w,0,none⟩)⟩;refine J [16,255] ?_;intro ba;apply J [54,27,24,55,3,193];refine aY.split 43 rfl (λD=>?_) (λD=>?_);have D:=dz D;apply J [12,218,189];apply Vh rfl<;>intro ah;have E:pr z=true:=cr
 have u:(d.take (k+1)).filter pr=(d.take k).filter pr++[z]:=b4
 refine J [108,68] ?_;intro bC;refine J [0] ?_;refine ap 4 rfl rfl rfl rfl rfl (Nat.le_of_ble_eq_true rfl) (show _=cf .u32 [z]from rfl) rfl U gq ?_;intro N O;refine J [83,62] ?_;exact⟨rfl,(k+1,N,O),cB,cB,⟨rfl,rfl,congrArg (λn=>VX _ n _) (by dsimp only;rw[u,mp];rfl),rfl,rfl,rfl,rfl,trivial⟩,(b9 0 rfl (by dsimp only;rw[u,oP,mp];rfl) (bw (bw (bw (bw (bw (bw (a6 _))))))))⟩;have E:¬pr z=true:=cr
 have u:(d.take (k+1)).filter pr=(d.take k).filter pr:=b4
 refine J [114] ?_;exact⟨rfl,(k+1,ad,cap),cB,cB,⟨rfl,rfl,congrArg (λn=>VX _ n _) (by dsimp only;rw[u]),rfl,rfl,rfl,rfl,trivial⟩,(b9 1 rfl (by dsimp only;rw[u]) (bN (bN (bN (bN (bN (bN (a6 _))))))))⟩;have D:=d6 D;have E:¬pr z=true:=cr
 have u:(d.take (k+1)).filter pr=(d.take k).filter pr:=b4
 refine J [49,151,115,114] ?_;exact⟨rfl,(k+1,ad,cap),cB,cB,⟨rfl,rfl,congrArg (λn=>VX _ n _) (by dsimp only;rw[u]),rfl,rfl,rfl,rfl,trivial⟩,(b9 1 rfl (by dsimp only;rw[u]) (bN (bN (bN (bN (bN (bN (a6 _))))))))⟩;obtain rfl:k=d.length:=by omega
 have u:d.take d.length=d:=b4
 rw[u];apply J [209,69];exact bu (ad,cap) trivial (ao (ay (⟨w,bx,S⟩:eY) ⟨aO,C⟩ ai))
end Go.Proofs.Q
namespace Go.Proofs.Q.b2
open Go Go.QM
theorem uo(xs:List Int)(k:Nat):(ints xs).take (k*1)=ints (xs.take k):=by simp[ints,List.map_take]
theorem rD:∀(xs:List Int),(ints xs).all Value.oneCell'=true
 | []=>rfl
 | x::xs=>by have:=rD xs;rw[ints]at this⊢;rw[VO,List.all_cons,this];rfl
variable{xs:List Int}{i:Nat}
theorem wN(h:i<xs.length){o:Nat}(d:o=i*1)(v:Int):dC o [aa v] (ints xs)=ints (xs.set i v):=by rw[d,Nat.mul_one,List.set_eq_take_append_cons_drop,ax h];simp[dC,ints]
theorem ER{n:Nat}(h:xs.length=n):(ints xs).take (n*1)=ints xs:=List.take_of_length_le (by rw[ec];omega)
theorem pF(xs d:List Int):ints xs++ints d=ints (xs++d):=by simp[ints]
def gP(pr:Int->Bool):Int->Bool:=λx=>!pr x
structure hy(xs:List Int)(pr:Int->Bool)(i j:Nat)(o0:List Int):Prop where
  len:o0.length=xs.length
  kE:i<j
  oM:j<=xs.length
  tk:o0.take i=(xs.take j).filter (gP pr)
  n0:o0.drop j=xs.drop j
variable{pr:Int->Bool}
theorem hy.start{k:Nat}(h:xs.findIdx? pr=some k):hy xs pr k (k+1) xs:=by rw[List.findIdx?_eq_some_iff_getElem]at h;obtain⟨d,u,an⟩:=h;refine⟨rfl,by omega,d,?_,rfl⟩;grind[Vv,gP,VL,List.getElem_of_mem,Ww]
variable{x:Int}
theorem hy.nu{j:Nat}{d:List Int}(h:hy xs pr i j d)(w:j<xs.length)(D:xs[j]? =some x)(C:pr x=false):hy xs pr (i+1) (j+1) (d.set i x) where
 len:=by rw[List.length_set];exact h.len
 kE:=by have:=h.kE;omega
 oM:=w
 tk:=by
  have E:=h.len;have u:=h.kE
  rw[Vv,V1 U,Vv,D,Yi,<-h.tk]
  rw[List.take_set_of_le (Vm i)]
  simp[gP,C]
 n0:=by
  have u:=h.kE
  rw[List.drop_set_of_lt U]
  rw[<-WT,h.n0,WT]
theorem hy.skip{j:Nat}{d:List Int}(h:hy xs pr i j d)(u:j<xs.length)(C:xs[j]? =some x)(w:pr x=true):hy xs pr i (j+1) d where
 len:=h.len
 kE:=by have:=h.kE;omega
 oM:=u
 tk:=by rw[Vv,C,Yi,h.tk];simp[gP,w]
 n0:=by rw[<-WT,h.n0,WT]
theorem hy.get{j:Nat}{d:List Int}(h:hy xs pr i j d)(w:xs[j]? =some x):d[j]? =some x:=by
 have u:(d.drop j)[0]? =(xs.drop j)[0]? :=by rw[h.n0]
 simp_all
theorem hy.done{u:List Int}(h:hy xs pr i xs.length u):u.take i=xs.filter (gP pr)/\(xs.filter (gP pr)).length=i:=by have d:=h.tk;rw[List.take_length]at d;refine⟨d,?_⟩;rw[<-d,Ww];have:=h.len;have:=h.kE;omega
theorem zn(h:xs.findIdx? pr=none):xs.filter (gP pr)=xs:=by grind[VL,gP]
theorem z6(ad:Option Addr)(cap:Nat)(xs:List Int)(gv:FuncId)(lb:List Value)(pr:Int->Bool)(C:av->Prop)(N:∀x,bt gv ([aa x]++lb) C [] (.bool (pr x)) [])(V:xs.length<=1000000000):eQ VS 340 [.slice ad xs.length cap,.func (.func gv) #[] lb.toArray] (λF=>(∃E,cN F E ad (ints xs))/\C (ag [F])) [] (λ_:Unit=>aa (match xs.findIdx? pr with|some i=>(i:Int)|none=>-1)) (λ_=>True) (λ_=>[]):=by
 apply aH Tryz.func340 Tryz.ntmps340;intro F ⟨⟨E,D⟩,H⟩;apply J [8];haveI:bj F ad E (ints xs):=⟨D⟩;refine J [36,33,177,575] ?_;rintro k ⟨hinv,eF⟩ W;dsimp only[cx]at hinv eF⊢;apply J [43];apply Vh rfl<;>intro w;have w:k<xs.length:=U
 obtain⟨t,d⟩:∃t,xs[k]? =some t:=⟨xs[k],Ve w⟩;have Q:0<(ints xs).length:=by grind[ec]
 refine J [56,135,24,302,86,3,407] ?_;refine q rfl rfl (dk rfl rfl (hO d)) ?_;refine e rfl ?_;refine kw (N t) rfl rfl (eC _) H ?_;intro _ _;apply J [148,2];cases P:pr t with|true=>?_|false=>?_
 apply J [210,165];have aA:xs.findIdx? pr=some k:=by grind[ub]
 exact vr;refine J [72,114] ?_;exact⟨rfl,(k+1),⟨by omega,λj u O hu=>by rcases XF.1 O with h|h;exact eF j u h hu;subst h;rw[d]at hu;cases hu;exact P⟩,U,bG,(ao (a6 _))⟩;obtain rfl:k=xs.length:=by omega
 have aA:xs.findIdx? pr=none:=by grind[wz]
 apply J [19,199];exact vt
theorem wm(ad:Option Addr)(cap:Nat)(xs:List Int)(gv:FuncId)(lb:List Value)(pr:Int->Bool)(u:av->Prop)(Q:∀x,bt gv ([aa x]++lb) u [] (.bool (pr x)) [])(ah:xs.length<=1000000000)(an:∀F,u F->u (ag [F]))(V:∀B F,u F->u (ag [B,F])):eQ VS 286 [.slice ad xs.length cap,.func (.func gv) #[] lb.toArray] u [aX 3 1 ad xs.length cap (ints xs)] (λ_:Unit=>.slice ad (xs.filter (gP pr)).length cap) (λ_=>True) (λ_=>[aX 3 1 ad (xs.filter (gP pr)).length cap (ints (xs.filter (gP pr)))]):=by
 apply aH Tryz.func286 Tryz.ntmps286;intro F P;apply J [1];refine ab.nk 0 rfl (λ_ ar _=>?_);have a0:=ec xs;apply J [121,33,302,0];apply ew (z6 ad cap xs gv lb pr u Q ah) ⟨⟨_,bj.rd⟩,an _ (V _ _ P)⟩;apply J [5];cases aA:xs.findIdx? pr with|none=>?_|some k=>?_
 dsimp only;rw[zn aA];apply J [31,171];refine Vh rfl (λC=>?_) (λC=>absurd (rfl) C);apply J [33,202,76];exact hH;dsimp only;have aM:=hy.start aA;have aL:k<xs.length:=by have:=aM.oM;omega
 apply J [31,171];refine Vh rfl (λD=>absurd D U) (λD=>?_);refine J [44,25,154,27,75,576] ?_;rintro⟨i,j,w⟩ d a4;dsimp only[cx]at d⊢;have aB:=d.oM;have au:=d.kE;have a3:=d.len;have a2:=ec w;apply J [130,86,323,182];apply Vh rfl<;>intro aQ;have H:j<xs.length:=U
 obtain⟨x,N⟩:∃x,xs[j]? =some x:=⟨xs[j],Ve H⟩;have aq:=d.get N;have aW:0<(ints w).length:=U
 refine J [56,264,407] ?_;refine q rfl rfl (dk rfl rfl (hO aq)) ?_;apply J [27,24,302,28];refine kw (Q x) rfl rfl (eC _) (V _ _ P) ?_;intro _ _;apply J [5,249];cases W:pr x with|true=>?_|false=>?_
 refine J [72,22,138] ?_;exact⟨rfl,⟨i,j+1,w⟩,(d.skip H N W),cB,bG,(ao (ao (a6 _)))⟩;refine J [20,33,120,407,23,514,2,345,73,155,138] ?_;exact⟨rfl,⟨i+1,j+1,w.set i x⟩,(d.nu H N W),cB,bG,(ao (ao (a6 _)))⟩;obtain rfl:j=xs.length:=by omega
 obtain⟨d1,d2⟩:=d.done;apply J [209,3];refine q rfl rfl (oh 3 1 (i) rfl rfl rfl U U) ?_;refine eB ?_;refine zd (sz:=1) (z:=aa 0) i rfl rfl rfl rfl am rfl rfl U ?_;intro O C D;have Z:O.take (i*1)=ints (xs.filter (gP pr)):=by grind[uo]
 apply J [2,264];refine q rfl rfl (nE 3 1 (i) rfl rfl rfl U U) ?_;apply J [69];exact b7.i () [_] ⟨rfl,trivial⟩ (by rw[d2];rfl) trivial (eN 0 rfl (by have:=pV (E:=3) (sz:=1) (ad:=ad) (n:=xs.length) (cap:=cap) (cs:=O) (j:=i) U;rw[Z]at this;rw[d2];exact this) (ao (a6 _)))
structure Fn where
  id:Int
  par:Int
  dH:Int
  ci:Int
def iv(t:Fn):Int×Int:=(t.dH,t.ci)
def c6(L:List Fn)(p:Int):List Int:=(L.filter λt=>decide (t.par=p/\p≠0)).map (·.id)
def fV(L:List Fn)(id:Int):Prop:=∃t∈L,t.id=id
instance (L:List Fn)(id:Int):Decidable (fV L id):=inferInstanceAs (Decidable (∃t∈L,t.id=id))
def iE(A:Int->Nat)(L:List Fn):Int->Option Value:=λid=>if fV L id then some (.pointer (some ⟨A id,0,none⟩))else none
def kB(L:List Fn)(o:Int×Int):Prop:=∃t∈L,iv t=o
instance (L:List Fn)(o:Int×Int):Decidable (kB L o):=inferInstanceAs (Decidable (∃t∈L,iv t=o))
def hl(L:List Fn)(o:Int×Int):Int:=match L.find? λt=>decide (iv t=o)with
  | some t=>t.id
  | none=>0
def ka(L:List Fn):Int×Int->Option Value:=λo=>if kB L o then some (.int .i64 (hl L o))else none
def jU(L:List Fn):Prop:=(L.map (·.id)).Nodup
def oz(L:List Fn):Prop:=(L.map iv).Nodup
structure cM(L:List Fn)(last:Int):Prop where
  bA:jU L
  no:oz L
  rg:∀t∈L,1<=t.id/\t.id<=last/\0<=t.par/\t.par<t.id
  len:(L.length:Int)<=last
structure Cx where
  ad:Int->Option Addr
  cap:Int->Nat
  aF:Nat
  bv:Nat
abbrev ir(A:Int->Nat)(ad:Int->Option Addr)(cap:Int->Nat)(L:List Fn)(t:Fn):av:=aj (A t.id) 219 [.int .i64 t.dH,.int .i64 t.ci,.int .i64 t.par,.slice (ad t.id) (c6 L t.id).length (cap t.id)]
abbrev iq(ad:Int->Option Addr)(cap:Int->Nat)(L:List Fn)(t:Fn):av:=aX 3 1 (ad t.id) (c6 L t.id).length (cap t.id) (ints (c6 L t.id))
abbrev zU(aF bv:Nat)(last:Int):List Value:=[.map (some aF),.map (some bv),.int .i64 last]
def ur(b:Nat)(A:Int->Nat)(L:List Fn)(last:Int):av:=e7 λy:Cx=>pure' (cM L last) (ag [aj b 223 (zU y.aF y.bv last),bT QM.encI y.aF (iE A L) L.length,bT mX y.bv (ka L) L.length,b3 (ir A y.ad y.cap L) L,b3 (iq y.ad y.cap L) L])
def hP(b:Nat)(L:List Fn)(last:Int):av:=e7 λA:Int->Nat=>pure' True (ag [ur b A L last])
variable{S:List Fn}
theorem jU.perm{T:List Fn}(h:jU S)(p:T.Perm S):jU T:=(p.map _).nodup_iff.2 h
variable{t:Fn}
theorem jU.inj(h:jU S){u:Fn}(C:t∈S)(hu:u∈S)(e:t.id=u.id):t=u:=by obtain⟨L,w⟩:=fB C;rcases Vt.1 (w.mem_iff.1 hu)with d|d;simp_all;exact absurd (Vq.2 ⟨u,d,e.symm⟩) (Vy.1 (h.perm w.symm)).1
theorem oz.inj(h:oz S){u:Fn}(C:t∈S)(hu:u∈S)(e:iv t=iv u):t=u:=by obtain⟨L,w⟩:=fB C;rcases Vt.1 (w.mem_iff.1 hu)with d|d;simp_all;exact absurd (Vq.2 ⟨u,d,e.symm⟩) (Vy.1 ((w.symm.map _).nodup_iff.2 h)).1
def ha(S:List Fn)(id:Int):List Fn:=S.filter λt=>decide (t.id≠id)
theorem xo{L:List Fn}(h:jU S)(w:S.Perm (t::L)):(ha S t.id).Perm L:=by have d:=w.filter λu=>decide (u.id≠t.id);rw[Wx cG]at d;have C:L.filter (λu=>decide (u.id≠t.id))=L:=VL.2 λu hu=>(by have:=(Vy.1 (h.perm w.symm)).1;simp_all);rw[C]at d;exact d
theorem l2:t∈ha S x↔t∈S/\t.id≠x:=by simp[ha]
theorem uM{y:Int}:fV (ha S x) y↔fV S y/\y≠x:=by constructor;rintro⟨t,d,rfl⟩;exact⟨⟨t,(l2.1 d).1,rfl⟩,(l2.1 d).2⟩;rintro⟨⟨t,d,rfl⟩,h⟩;exact⟨t,l2.2 ⟨d,h⟩,rfl⟩
theorem uN(an:jU S)(u:t∈S):(ha S t.id).length+1=S.length:=by obtain⟨L,d⟩:=fB u;rw[(xo an d).length_eq,d.length_eq];rfl
theorem px{A:Int->Nat}{id:Int}(h:fV S id):iE A S id=some (.pointer (some ⟨A id,0,none⟩)):=ax h
theorem qy{A:Int->Nat}{id:Int}(h:¬fV S id):iE A S id=none:=al h
theorem D7{A:Int->Nat}{T:List Fn}(h:∀x,fV T x↔fV S x):iE A T=iE A S:=by grind[iE]
theorem D6{A:Int->Nat}(b:Nat):iE (aP A t.id b) (S++[t])=fj (iE A S) t.id (ae b):=by
 funext x;simp only[iE,fj];have d:fV (S++[t]) x↔fV S x\/t.id=x:=by simp[fV,or_and_right,exists_or]
 by_cases e:x=t.id;rw[ax (d.2 (.inr e.symm)),ax e,e,cm];rw[al e,bQ e];grind
theorem D8{A:Int->Nat}(x:Int):iE A (ha S x)=fZ (iE A S) x:=by funext y;simp only[iE,fZ];by_cases e:y=x;rw[ax e,al (λh=>(uM.1 h).2 e)];rw[al e];by_cases h:fV S y;rw[ax h,ax (uM.2 ⟨h,e⟩)];rw[al h,al (λd=>h (uM.1 d).1)]
theorem zD(h:oz S)(d:t∈S):hl S (iv t)=t.id:=by rw[hl];cases aA:S.find? λu=>decide (iv u=iv t)with|none=>rw[W9]at aA;exact absurd (da rfl) (aA t d)|some u=>have w:=List.find?_some aA;have C:=List.mem_of_find?_eq_some aA;rw[h.inj C d (by simpa using w)]
theorem zC{o:Int×Int}(h:¬kB S o):hl S o=0:=by have:S.find? (λu=>decide (iv u=o))=none:=(by rw[W9];intro u hu;simp only[decide_eq_true_eq];exact λe=>h ⟨u,hu,e⟩);grind[hl]
theorem zA(S:List Fn)(o:Int×Int):(ka S o).getD (aa 0)=aa (hl S o):=by grind[ka,zC]
theorem wt{o:Int×Int}(h:¬kB S o):ka S o=none:=al h
theorem Ec(an:oz S)(d:t∈S):ka S (iv t)=some (aa t.id):=by rw[ka,ax ⟨t,d,rfl⟩,zD an d]
theorem Ep{α:Type}{p r:α->Bool}:∀{l:List α},(∀u∈l,p u=true->r u=true)->(l.filter r).find? p=l.find? p
 | [],_=>rfl
 | a::l,h=>by
  have C:=Ep (p:=p) (r:=r) (l:=l) λu hu=>h u (by simp[hu])
  by_cases w:r a=true
  ·rw[List.filter_cons_of_pos w,XR,XR,C]
  have d:p a=false:=by
   cases d:p a with
   | false=>rfl
   | true=>exact absurd (h a cG d) w
  rw[Wx w,XR,d,C]
theorem Eb(an:jU S)(D:oz S)(C:t∈S):ka (ha S t.id)=fZ (ka S) (iv t):=by funext o;simp only[ka,fZ];by_cases e:o=iv t;rw[ax e,al];rintro⟨u,hu,d⟩;have w:=l2.1 hu;exact w.2 (by rw[D.inj w.1 C (d.trans e)]);rw[al e];have E:kB (ha S t.id) o↔kB S o:=(by constructor;rintro⟨u,hu,d⟩;exact⟨u,(l2.1 hu).1,d⟩;rintro⟨u,hu,d⟩;refine⟨u,l2.2 ⟨hu,λw=>e ?_⟩,d⟩;rw[<-d,an.inj hu C w]);have aA:hl (ha S t.id) o=hl S o:=(by rw[hl,hl,ha,Ep];intro u hu d;simp only[decide_eq_true_eq]at d⊢;intro w;exact e (by rw[<-d,an.inj hu C w]));simp_all
theorem D9(h:¬kB S (iv t)):ka (S++[t])=fj (ka S) (iv t) (aa t.id):=by
 funext o;simp only[ka,fj];have w:kB (S++[t]) o↔kB S o\/iv t=o:=by simp[kB,or_and_right,exists_or]
 by_cases e:o=iv t;subst e;rw[ax (w.2 (.inr rfl)),ax rfl,hl,List.find?_append];have:S.find? (λu=>decide (iv u=iv t))=none:=(by rw[W9];intro u hu;simp only[decide_eq_true_eq];exact λe=>h ⟨u,hu,e⟩);grind;rw[al e];by_cases d:kB S o;rw[ax (w.2 (.inl d)),ax d,hl,hl,List.find?_append];grind;grind
variable{p:Int}
theorem pH{S:List Fn}:x∈c6 S p↔p≠0/\∃t∈S,t.par=p/\t.id=x:=by simp only[c6,Vq,VE,decide_eq_true_eq];grind
theorem uu(S T:List Fn)(p:Int):c6 (S++T) p=c6 S p++c6 T p:=by simp[c6]
theorem Fo(h:t.par=p)(d:p≠0):c6 [t] p=[t.id]:=by simp[c6,h,d]
theorem Al(h:t.par≠p):c6 [t] p=[]:=by simp[c6,h]
theorem uv(S:List Fn)(p:Int):(c6 S p).length<=S.length:=by rw[c6,V5];exact List.length_filter_le _ _
theorem Fm(S:List Fn)(p x:Int):c6 (ha S x) p=(c6 S p).filter λy=>decide (y≠x):=by rw[c6,c6,List.filter_map,ha,W5,W5];grind
theorem sK(an:jU S)(C:t∈S)(w:t.par≠p):c6 (ha S t.id) p=c6 S p:=by rw[Fm];refine VL.2 λy D=>?_;obtain⟨_,u,hu,d,rfl⟩:=pH.1 D;simp only[decide_eq_true_eq];intro e;rw[an.inj hu C e]at d;exact w d
theorem Pb:(c6 S p).filter (gP λy=>decide (y=x))=c6 (ha S x) p:=by grind[Fm,List.filter_congr,gP]
theorem Fl(h:jU S)(p:Int):(c6 S p).Nodup:=h.sublist (List.filter_sublist.map _)
theorem cM.nil:cM [] 0:=⟨V2,V2,(λt h=>by cases h),Int.le_refl _⟩
variable{last:Int}
theorem cM.sub{T:List Fn}(h:cM S last)(hs:T.Sublist S):cM T last:=
 ⟨h.bA.sublist (hs.map _),h.no.sublist (hs.map _),λt d=>h.rg t (hs.subset d),by have:=h.len;have:=hs.length_le;omega⟩
theorem cM.off(h:cM S last)(x:Int):cM (ha S x) last:=h.sub WK
theorem cM.add(h:cM S last)(O:t.id=last+1)(N:0<=t.par/\t.par<=last)(E:¬kB S (iv t)):cM (S++[t]) (last+1) where
 bA:=by
  rw[jU,Wu,VI]
  refine⟨h.bA,by simp,λx C y d=>?_⟩
  obtain⟨a,w,rfl⟩:=Vq.1 C
  simp only[VO,Xa,Vf]at d
  have:=h.rg a w
  omega
 no:=by
  rw[oz,Wu,VI]
  refine⟨h.no,by simp,λx C y d=>?_⟩
  obtain⟨a,w,rfl⟩:=Vq.1 C
  simp only[VO,Xa,Vf]at d
  rw[d];exact λD=>E ⟨a,w,D⟩
 rg:=λu hu=>by
  have H:=h.len
  rcases Vg.1 hu with hu|hu
  ·have:=h.rg u hu;omega
  rw[Vf.1 hu];omega
 len:=by have:=h.len;rw[mp,Vn];omega
def gT(S:List Fn)(last par:Int)(o:Int×Int):List Fn×Int×Int×Int:=if ¬fV S par/\par≠0 then(S,last,0,6)else if hl S o≠0 then(S,last,0,7)else(S++[⟨last+1,par,o.1,o.2⟩],last+1,last+1,0)
def g8(S:List Fn)(u:Fn)(p:Int):List Fn:=ha S u.id++[⟨u.id,p,u.dH,u.ci⟩]
theorem cM.move(h:cM S last){u:Fn}(hu:u∈S)(H:0<=p/\p<u.id):cM (g8 S u p) last where
 bA:=by
  rw[jU,g8,Wu,VI]
  refine⟨(h.off _).bA,by simp,λx C y d=>?_⟩
  obtain⟨a,w,rfl⟩:=Vq.1 C
  simp only[VO,Xa,Vf]at d
  rw[d];exact(l2.1 w).2
 no:=by
  rw[oz,g8,Wu,VI]
  refine⟨(h.off _).no,by simp,λx C y d=>?_⟩
  obtain⟨a,w,rfl⟩:=Vq.1 C
  simp only[VO,Xa,Vf]at d
  rw[d];intro E
  have D:=l2.1 w
  exact D.2 (by rw[h.no.inj D.1 hu E])
 rg:=λv hv=>by
  rcases Vg.1 hv with hv|hv
  ·exact h.rg v (l2.1 hv).1
  rw[Vf.1 hv];have:=h.rg u hu;dsimp only;omega
 len:=by have:=h.len;have:=uN h.bA hu;rw[g8,mp,Vn];omega
theorem EB(h:cM S last)(o:Int×Int):kB S o↔hl S o≠0:=by constructor;rintro⟨t,d,rfl⟩;rw[zD h.no d];have:=h.rg t d;omega;grind[zC]
theorem zT(h:cM S last)(u:fV S x):1<=x/\x<=last:=by obtain⟨t,d,rfl⟩:=u;have:=h.rg t d;omega
end Go.Proofs.Q.b2
