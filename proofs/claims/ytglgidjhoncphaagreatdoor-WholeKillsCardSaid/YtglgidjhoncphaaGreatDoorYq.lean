/- Proved here: contracts of functions of this program, under the premises that each theorem names. -/
import Derived.Shelf.Sort.Plain
import Derived.Shelf.Slices.In.SortNone
import Derived.Test.YtglgidjhoncphaaGreatDoorYp
set_option linter.all false
set_option maxRecDepth 4000
set_option maxHeartbeats 4000000
open List renaming getElem?_eq_getElem->Uo,mem_append->Uq,mem_of_getElem?->Us,not_mem_nil->Uy,getElem?_eq_some_iff->Uz,mem_cons->UB,mem_map->UE,take_add_one->UF,nodup_cons->UI,toArray->UJ,replicate->UK,flatMap_cons->UN,nodup_append->US,append_assoc->UT,mem_flatMap->Vh,getElem?_of_mem->Vo,getElem?_set_ne->Vs,perm_append_singleton->Vt,map_congr_left->Vw,pairwise_iff_getElem->VJ,getElem?_append_left->VK,eq_nil_of_length_eq_zero->Wq,getElem?_eq_none->Ww,range'->Xz
open Go.QM.ab renaming aA->Ur,loop->UZ,bf->VM
open Decidable renaming of_not_not->Ut,not_not->UD
open Nat renaming pow_le_pow_right->Uu,zero_le->Uv,le_refl->Uw,le_of_ble_eq_true->UC,mul_le_mul_right->U0,add_mul->Vf,zero_add->VL
open Go.QM.aO renaming known->UG
open Go.Proofs.Tryz renaming prog->U3
open Go.QM.aF renaming refl->U5
open Go.Value renaming slice->U8,int->VA,pointer->Xr
open Go.QM.bz renaming to->Vx
open List.Perm renaming refl->V2
open Go.QM.b8 renaming i->Xq
open List.Pairwise renaming nil->XD
namespace Go.QM
open Go Go.Sort Go.Shelf Go.Proofs
def fB(xs:List Int):List Int:=xs.mergeSort λx y=>decide (x<=y)
variable(xs:List Int)
theorem sZ:(fB xs).Perm xs:=List.mergeSort_perm _ _
theorem rL:(fB xs).length=xs.length:=(sZ xs).length_eq
theorem Hf:(fB xs).Pairwise λx y=>x<=y:=by have:=List.pairwise_mergeSort (le:=λx y:Int=>decide (x<=y)) (λa b c d u=>by simp at d u⊢;omega) (λa b=>by simp;omega) xs;exact this.imp λh=>by simpa using h
theorem Rw{w:World}{A:ax}(h:sat w A)(os:Array Obj):sat (grow w os) A:=by
 obtain⟨x,C,d⟩:=h;refine⟨x,λi o u=>?_,d⟩;have:=C i o u;have D:i<w.heap.size:=cr
 show(w.heap++os)[i]? =some o;grind
theorem Qw(pre u:List Value)(xs d:List Int)(h:d.length=xs.length):putCells (VA .i64) pre.length d.toArray (pre++ints xs++u).toArray=(pre++ints d++u).toArray:=by have w:=eb xs;have C:=eb d;apply Array.ext;all_goals grind[putCells,ints]
theorem R9{P:Program}{H:Ren}(N:Lays.n189 P H)(he:mJ P (H.f 189)=true)(E:Nat)(ad:Option Addr)(cap:Nat)(xs:List Int)(bl:xs.length<=1000000):
    fw P (H.f 189) [.slice ad xs.length cap] be [aT E 1 ad xs.length cap (ints xs)] (λ_:Unit=>.tuple #[]) (λ_=>True) (λ_=>[aT E 1 ad xs.length cap (ints (fB xs))]):=by refine⟨he,λF _ w D=>?_⟩;by_cases V:xs=[];subst V;refine(callsIn_wide.2 (Any.slices_Sort_int_none N ad cap w)).mono ?_;rintro e W ⟨rfl,rfl⟩;exact⟨(),rfl,trivial,fr.refl W,by have ag:fB []=[]:=Wq (rL []);dsimp only;rw[ag];exact D⟩;cases ad with|none=>exfalso;obtain⟨h,_,a,b,_,rfl,aK,_⟩:=D;obtain⟨c,d,_,rfl,aQ,_⟩:=aK;have:=aQ.1.1;exact V (Wq this)|some p=>obtain⟨bh,bd,bm,a5,d1,rfl,an,ao⟩:=D;obtain⟨a4,a7,d2,rfl,ar,ax⟩:=an;obtain⟨⟨pre,u⟩,⟨g1,g2,g3,g4,g5⟩,aA⟩:=ar;have a8:sat w (sep (sep (aj p.block E (pre++ints xs++u)) km) F):=⟨_,bd,_,a5,d1,rfl,⟨a4,a7,d2,rfl,aA,ax⟩,ao⟩;have Q:sat w (sep (obj p.block (.cells (pre++ints xs++u).toArray E (0,0))) (sep km F)):=a8.bf pK;have C:w.heap[p.block]? =some (.cells (pre++ints xs++u).toArray E (0,0)):=(iw (jc _ _)).sat Q;have a2:p.block<w.heap.size:=(Array.getElem?_eq_some_iff.1 C).1;have bk:=eb xs;have aH:Holds (VA .i64) w p.block pre.length xs.toArray:=λj O=>(by(have a0:j<xs.length:=by simpa using O);refine⟨?_,by simp[World.frozen?,C]⟩;have aC:(pre++ints xs++u)[pre.length+j]? =some (aa xs[j]):=(by rw[UT,List.getElem?_append_right U,Nat.add_sub_cancel_left,VK U,ints,List.getElem?_map,Uo a0];rfl);rw[getElem!_pos xs.toArray j O,List.getElem_toArray];simp[World.cell?,C];simpa using aC);have Z:(some p:Option Addr)=some ⟨p.block,pre.length,none⟩:=congrArg some g1;rw[Z];refine(callsIn_wide.2 (Any.slices_Sort_int N p.block pre.length cap xs w aH a2 U)).mono ?_;rintro e W ⟨rfl,n,os,rfl⟩;refine⟨(),rfl,trivial,⟨rfl,rfl,rfl,?_⟩,Rw ?_ os⟩;simp[grow];have au:(putRow (VA .i64) (Go.Sort.ahead w n) p.block pre.length (fB xs).toArray).heap[p.block]? =some (.cells (pre++ints (fB xs)++u).toArray E (0,0)):=(by show(w.heap.modify p.block (onCells _))[p.block]? =_;rw[Array.getElem?_modify,aw rfl,C];simp only[Option.map_some,onCells];rw[Qw pre u xs (fB xs) (rL xs)]);have a9:=uE Q au (λi aX=>by show(w.heap.modify p.block (onCells _))[i]? =_;rw[Array.getElem?_modify,al (Ne.symm aX)]);have bb:sat _ (sep (sep (aj p.block E (pre++ints (fB xs)++u)) km) F):=a9.bf ns;refine bb.bf (dP (dP ?_ (U5 _)) (U5 _));exact h1 λh a3=>⟨(pre,u),⟨rfl,by rw[eb,rL];omega,g3,g4,by rw[eb,rL];omega⟩,a3⟩
end Go.QM
namespace Go.Proofs.YtglgidjhoncphaaGreatDoor.aC
open Go Go.QM
theorem QC(b aE jF:Nat)(lim:Int)(h:0<=lim/\lim<=1073741824)(F:ax):aF (ah [aj b 187 [.map (some aE),aa 1],bC QM.encI aE (fe (λ_=>none) 0 (ae jF)) 1,aj jF 194 [aa lim,aa 0,aa 0,aa (-1),aa 0],F]) (ah [eI b [⟨0,-1,lim,0⟩] 1,F]):=by have d:j4 (aP (λ_=>0) 0 jF) [⟨0,-1,lim,0⟩]=fe (λ_=>none) 0 (ae jF):=(by have:=DO (λ_=>0) [] ⟨0,-1,lim,0⟩ jF;trivial);have u:kE (aP (λ_=>0) 0 jF) [⟨0,-1,lim,0⟩] ⟨0,-1,lim,0⟩=aj jF 194 [aa lim,aa 0,aa 0,aa (-1),aa 0]:=(by trivial);refine(mZ (f:=kE (aP (λ_=>0) 0 jF) [⟨0,-1,lim,0⟩]) _).trans ?_;refine ay (⟨aP (λ_=>0) 0 jF,aE⟩:oj) (eP.start h) ?_;exact bN 1 rfl (ca 1 rfl (by dsimp only;rw[d];rfl) (cU 1 0 ⟨0,-1,lim,0⟩ rfl rfl u.symm (λ_ _=>rfl) (V2 _) (aq (a6 _))))
theorem GA(lim:Int)(h:0<=lim/\lim<=1073741824):bI 175 [aa lim] be [] (λb:Nat=>ae b) (λ_=>True) (λb=>[eI b [⟨0,-1,lim,0⟩] 1]):=by apply aH Tryz.func175 Tryz.ntmps175;intro F _;refine J [9,131,176,392,169,103] ?_;refine Ur rfl (λd=>absurd d U) (λd=>?_);refine J [4,26,333] ?_;intro ba;refine J [2,250,477,0,531] ?_;intro bw;refine ey ?_;refine Nu 3 185 rfl (dM.int rfl) rfl rfl rfl ?_;refine q rfl rfl (fu (v:=.map _) rfl) ?_;refine q rfl rfl (eh (cs:=[.map _,.int _ _]) rfl) ?_;refine e rfl ?_;refine eV (v:=.agg #[_,_]) (l:=[.map _,.int _ _]) rfl rfl ?_;intro b4;apply J [109];exact bn b4 trivial (QC b4 ba bw lim h F)
theorem QD(lim:Int)(h:¬(0<=lim/\lim<=1073741824)):br 175 [aa lim] be [] (.pointer none) []:=by apply aH Tryz.func175 Tryz.ntmps175;intro F _;apply J [9,131,176];refine aO.split 5 rfl (λd=>?_) (λd=>?_);have d:=ds d;apply J [49,104,177];exact dp;have d:=dV d;apply J [169,103];refine Ur rfl (λu=>?_) (λu=>absurd U u);apply J [177];exact dp
theorem QA(b:Nat)(L:List bY)(d:Int)(pr lim:Int)(a5:d<=1000000):br 187 [ae b,aa pr,aa lim] be [eI b L d] (.tuple #[aa (fI L d pr lim).2.2.1,aa (fI L d pr lim).2.2.2]) [eI b (fI L d pr lim).1 (fI L d pr lim).2.1]:=by
 apply aH Tryz.func187 Tryz.ntmps187;intro F _;apply J [1];refine ab.open 0 rfl (λaQ aK=>?_);obtain⟨A,aE⟩:=aQ;have av:=aK;apply J [85];dsimp only at av⊢;by_cases h:df L pr;·obtain⟨t,D,rfl⟩:=h;(have h:df L t.id:=by grind[df]);obtain⟨Z,ag,aX,a0⟩:=ip av.bo D;have a4:=av.tv D;have a7:=av.rg t D;obtain⟨M,bG⟩:=fv D;haveI:=xD (A:=A) D;apply J [134,32];apply ao (xh b aE L.length d A L t.id h);apply J [19,58,74,353,47];apply Ur rfl<;>intro E;(have hv:fI L d t.id lim=(L,d,0,1):=by rw[fI,al (λw=>w h),aw E]);rw[hv];dsimp only;apply J [119];exact BV;apply J [46,28];apply eG (Gy (A t.id) t.lim t.fJ (fm L t.id) t.par (gI L t.id) U U lim U) fP.rd;apply J [19,413,47];apply Ur rfl<;>intro C;(have hv:fI L d t.id lim=(L,d,0,5):=by rw[fI,al (λw=>w h),al E,aw (by rw[Z,ag];exact C)]);rw[hv];dsimp only;apply J [119];exact BV;(have w:lim<=t.lim-(t.fJ+fm L t.id):=by omega);(have C:¬¬lim<=nj L t.id-mU L t.id:=by omega);apply J [39];refine q rfl rfl (O3 3 185 rfl rfl) ?_;apply J [199];apply Ur rfl<;>intro a2;(have hv:fI L d t.id lim=(L,d,0,11):=by rw[fI,al (λw=>w h),al E,al C,aw U]);rw[hv];dsimp only;apply J [119];exact BV;(have Q:L.length≠32:=by omega);(have hv:fI L d t.id lim=(L++[(⟨d,t.id,lim,0⟩:bY)],d+1,d,0):=by rw[fI,al (λw=>w h),al E,al C,al Q]);rw[hv];dsimp only;have ar:eP (L++[(⟨d,t.id,lim,0⟩:bY)]) (d+1):=av.add h U (UD.1 C) Q;(have eJ:¬df L d:=λ⟨u,hu,e⟩=>by have:=av.rg u hu;omega);have ax:=DP (A:=A) eJ;(have aC:(L++[(⟨d,t.id,lim,0⟩:bY)]).length=L.length+1:=by simp_all);(have H:∀x,fm (L++[(⟨d,t.id,lim,0⟩:bY)]) x=fm L x+(if t.id=x then lim else 0):=λx=>by rw[tT,ri]);(have N:∀x,gI (L++[(⟨d,t.id,lim,0⟩:bY)]) x=gI L x+(if t.id=x then 1 else 0):=λx=>by rw[wy,wz]);have W:=D5 (L:=L) (x:=d) (λu hu=>by have:=av.Ge hu;omega);(have O:t.id≠d:=by omega);refine J [362,23,64,27,64,150,267,343,39,120,250,2,477,0,531] ?_;intro P;refine ey ?_;refine lK 3 185 rfl (dM.int rfl) rfl rfl rfl ?_;refine J [3,46,54,2,150,80,81,263,343,126,215,150,80,410,343,29,71] ?_;have an:(t::(⟨d,t.id,lim,0⟩:bY)::M).Perm (L++[(⟨d,t.id,lim,0⟩:bY)]):=(List.Perm.swap _ _ _).trans ((bG.symm.cons _).trans (Vt _ _).symm);have au:∀u∈M,kE A L u=kE (aP A d P) (L++[(⟨d,t.id,lim,0⟩:bY)]) u:=λu hu=>(by have a3:=av.rg u (bG.mem_iff.2 (by simp[hu]));have V:t.id≠u.id:=λe=>(UI.1 (av.bo.perm bG.symm)).1 (UE.2 ⟨u,hu,e.symm⟩);dsimp only[kE];rw[bM U,H,N,al V,al V,Int.add_zero,Int.add_zero]);exact hJ (ay (⟨aP A d P,aE⟩:oj) ar (cY (ca 1 rfl (by dsimp only;rw[DO (t:=(⟨d,t.id,lim,0⟩:bY)),ax,aC];rfl) (tL 0 0 0 t (⟨d,t.id,lim,0⟩:bY) rfl rfl rfl (by dsimp only[kE];rw[bM O,H,N,aw rfl,aw rfl];rfl) (by dsimp only[kE];rw[ci,H,N,al O,al O,W.1,W.2];rfl) au an (aq (a6 _))))))
 have hv:fI L d pr lim=(L,d,0,6):=aw h;rw[hv];dsimp only;apply J [134,32];apply ao (xg b aE L.length d A L pr h);apply J [19,58,15,349,252];exact hJ (ay ⟨A,aE⟩ av (aq (aq (aq (aq (a6 _))))))
theorem QB(b:Nat)(L:List bY)(E:Int)(id:Int):br 222 [ae b,aa id] be [eI b L E] (aa (iy L id).2) [eI b (iy L id).1 E]:=by
 apply aH Tryz.func222 Tryz.ntmps222;intro F _;apply J [1];refine ab.open 0 rfl (λa3 a2=>?_);obtain⟨A,aE⟩:=a3;have av:=a2;apply J [85];dsimp only at av⊢;by_cases h:df L id;obtain⟨t,w,rfl⟩:=h;have h:df L t.id:=by grind[df]
 obtain⟨V,H,a4,a5⟩:=ip av.bo w;have a9:=av.tv w;have bl:=av.rg t w;haveI:=xD (A:=A) w;apply J [96];apply ao (xh b aE L.length E A L t.id h);apply J [19,58,74,29,199];apply Ur rfl<;>intro C;have hv:iy L t.id=(L,1):=by rw[iy,al (λd=>d h),aw C]
 rw[hv];dsimp only;apply J [45];exact r1;apply J [46,0];apply eG (GB (A t.id) t.lim t.fJ (fm L t.id) t.par (gI L t.id) U U) fP.rd;apply J [19,161,18];refine aO.split 27 rfl (λD=>?_) (λD=>?_);have D:=ds D;apply J [214,196];have hv:iy L t.id=(L,12):=by rw[iy,al (λd=>d h),al C,aw (.inl (by rw[V];exact D))]
 rw[hv];dsimp only;apply J [45];exact r1;have D:=dV D;apply J [138,478,162,158,182];apply Ur rfl<;>intro d;have hv:iy L t.id=(L,12):=by rw[iy,al (λd=>d h),al C,aw (.inr d)]
 rw[hv];dsimp only;apply J [45];exact r1;have an:t.fJ+fm L t.id=0:=U
 have hv:iy L t.id=(ky L t.id,0):=by rw[iy,al (λd=>d h),al C,al (λar=>ar.elim (λO=>O (by rw[V];exact an)) (λO=>d O))]
 rw[hv];dsimp only;have P:eP (ky L t.id) E:=av.off w C d;obtain⟨⟨pp,a0,N⟩,bh⟩:=av.par t w C;have bk:df L t.par:=by grind[df]
 have bb:=av.tv a0;obtain⟨Q,W⟩:=fv w;have ea:pp∈Q:=cr;obtain⟨M,bG⟩:=fv ea;have ax:(ky L t.id).Perm Q:=w2 av.bo W;have Z:pp::M|>.Perm (ky L t.id):=(ax.trans bG).symm;have aX:=PR av.bo w;have ag:=λx=>F2 av.bo w x;have bd:t.lim<=fm L pp.id/\1<=gI L pp.id:=(by have a8:=wc P pp.id;have bK:=(EW (ky L t.id) pp.id).1;simp_all);have aQ:j4 A L t.par=some (.pointer (some ⟨A pp.id,0,none⟩)):=by grind[zb]
 have aK:=zb (A:=A) h;apply J [203,521,51,273];refine bU rfl rfl rfl (j8 3 185 rfl rfl (dM.int rfl) rfl rfl) ?_;rw[aQ];apply J [479,75,7];refine VM (fR 2 rfl W) ?_;apply J [532];refine ab.draw _ [14] [0,1,2,3,4,5,6,7,8,9,10,11,12,13,-14] aR aR (U5 _) ?_;refine J [351,137,171,441,88,87,370,91,514,75,126,215,241,80,410,343,39,2,20] ?_;refine lB 3 185 rfl (dM.int rfl) rfl rfl rfl ?_;apply J [118];have aC:∀u∈M,kE A L u=kE A (ky L t.id) u:=λu hu=>(by have a7:t.par≠u.id:=λH=>(by rw[<-N]at H;have au:=P.bo.perm Z;exact(UI.1 au).1 (UE.2 ⟨u,hu,H.symm⟩));grind);exact fa (ay (⟨A,aE⟩:oj) P (eU (ca 0 rfl (by dsimp only;rw[LS,aK,<-aX];rfl) (cU 0 0 pp rfl rfl (by dsimp only[kE];rw[(ag pp.id).1,(ag pp.id).2,aw N.symm,aw N.symm];rfl) aC Z (bW (a6 _))))));have hv:iy L id=(L,6):=aw h;rw[hv];dsimp only;apply J [96];apply ao (xg b aE L.length E A L id h);apply J [19,58,15,210];exact BU
end Go.Proofs.YtglgidjhoncphaaGreatDoor.aC
namespace Go.Proofs.YtglgidjhoncphaaGreatDoor
open Go Go.QM
def cc(c:Nat):Nat:=[0,64,128,256,32,32,48,256].getD c 0
def cls:List Nat:=Xz 1 7
variable{c:Nat}
theorem vG:c∈cls↔1<=c/\c<=7:=by rw[cls,List.mem_range'_1];omega
theorem ot(h:c∈cls):c<8:=by have:=vG.1 h;omega
theorem tC(h:c∈cls):c=1\/c=2\/c=3\/c=4\/c=5\/c=6\/c=7:=by rw[vG]at h;omega
theorem pg(h:c∈cls):((16<=cc c/\cc c<=512)/\cc c %16=0)/\cc c≠0:=by rcases tC h with rfl|rfl|rfl|rfl|rfl|rfl|rfl<;>decide
theorem C4(h:c∈cls):3<=960/cc c:=by rcases tC h with rfl|rfl|rfl|rfl|rfl|rfl|rfl<;>decide
theorem Db(h:c<8):qj[0+((c:Nat):Int).toNat*1]? =some (aa (cc c:Int)):=by
 have:c=0\/c=1\/c=2\/c=3\/c=4\/c=5\/c=6\/c=7:=U
 rcases this with rfl|rfl|rfl|rfl|rfl|rfl|rfl|rfl<;>rfl
theorem KX(h:c<8):qj[((c:Nat):Int).toNat*1]? =some (aa (cc c:Int)):=by have:=Db h;rwa[VL]at this
structure cQ where
  Q:List aC.bY
  bx:Int
  C:Nat->List cf
  Fr:List Nat
  m:Nat->Nat
def addr(c:Nat)(y:Nat×Nat×List cf):Nat:=y.1*1024+64+y.2.1*cc c
def dF{α:Type}(f:Nat->α)(c:Nat)(v:α):Nat->α:=λx=>if x=c then v else f x
theorem jv{α:Type}(f:Nat->α)(c:Nat)(v:α):dF f c v c=v:=aw rfl
theorem i6{α:Type}(f:Nat->α){x:Nat}(v:α)(h:x≠c):dF f c v x=f x:=al h
def hB(C:Nat->List cf)(c:Nat):List Nat:=(C c).map (·.aD)
def dk(C:Nat->List cf)(Fr:List Nat):List Nat:=cls.flatMap (hB C)++Fr
theorem zg{C:Nat->List cf}{c:Nat}{L':List cf}{add:List Nat}(h:(L'.map (·.aD)).Perm (add++hB C c)):∀{l:List Nat},l.Nodup->c∈l->(l.flatMap (hB (dF C c L'))).Perm (add++l.flatMap (hB C))
 | [],_,d=>by cases d
 | x::l,au,d=>by
  obtain⟨u,w⟩:=UI.1 au
  rw[UN,UN]
  by_cases e:x=c
  ·subst e
   have D:l.flatMap (hB (dF C x L'))=l.flatMap (hB C):=by
    have:∀y∈l,hB (dF C x L') y=hB C y:=λy E=>by rw[hB,hB,i6 _ _ (λe:y=x=>u (e▸E))]
    rw[List.flatMap_def,List.flatMap_def,Vw this]
   rw[D,hB,jv,<-UT]
   exact h.append_right _
  have hm:c∈l:=by
   rcases UB.1 d with d|d
   ·exact absurd d.symm e
   exact d
  rw[show hB (dF C c L') x=hB C x by rw[hB,hB,i6 _ _ e]]
  refine(List.Perm.append_left _ (zg h w hm)).trans ?_
  rw[<-UT,<-UT]
  exact List.Perm.append_right _ List.perm_append_comm
theorem vH:cls.Nodup:=by decide
theorem Gk{C:Nat->List cf}{Fr:List Nat}{aD:Nat}{L':List cf}(d:c∈cls)(h:(L'.map (·.aD)).Perm (aD::hB C c)):(dk (dF C c L') Fr).Perm (aD::dk C Fr):=by have:=zg (add:=[aD]) h vH d;exact this.append_right Fr
theorem Gm{C:Nat->List cf}{Fr:List Nat}{L':List cf}(d:c∈cls)(h:L'.map (·.aD)=hB C c):(dk (dF C c L') Fr).Perm (dk C Fr):=by have:=zg (C:=C) (add:=[]) (L':=L') (by rw[h];exact V2 _) vH d;exact this.append_right Fr
theorem xb{C:Nat->List cf}{Fr:List Nat}{p:Nat}:p∈dk C Fr↔(∃c∈cls,∃q∈C c,q.aD=p)\/p∈Fr:=by grind[dk,hB]
structure dg(top:Nat)(S:cQ):Prop where
  fW:6<=top/\top<=7
  ok:∀c∈cls,lY (cc c) (S.C c)
  bo:(dk S.C S.Fr).Nodup
  lt:∀p∈dk S.C S.Fr,p<2^top
def im(j t bd ar:Nat)(vC:Nat->Nat):List Value:=[ae t,ae bd,ae ar]++(List.range 8).map (λc=>if 1<=c/\c<j then .pointer (some ⟨(vC c),0,none⟩)else .pointer none)
theorem sS(j t bd ar:Nat)(d:Nat->Nat):(im j t bd ar d).length=11:=by simp[im]
theorem AV{t bd ar:Nat}(d:Nat->Nat)(h:c∈cls):(im 8 t bd ar d)[0+3+((c:Nat):Int).toNat*1]? =some (.pointer (some ⟨(d c),0,none⟩)):=by rcases tC h with rfl|rfl|rfl|rfl|rfl|rfl|rfl<;>rfl
theorem Gn{j t bd ar i:Nat}(d:Nat->Nat)(h:i<8):(im j t bd ar d)[3+i]? =some (if 1<=i/\i<j then .pointer (some ⟨(d i),0,none⟩)else .pointer none):=by grind[im]
theorem Qo{j t bd ar x:Nat}(d:Nat->Nat)(h:j<8)(D:1<=j):dJ (0+3+((j:Nat):Int).toNat*1) [ae x] (im j t bd ar d)=im (j+1) t bd ar (dF d j x):=by have e:dJ (0+3+((j:Nat):Int).toNat*1) [ae x] (im j t bd ar d)=(im j t bd ar d).set (3+j) (ae x):=(by rw[List.set_eq_take_append_cons_drop,aw (by rw[sS];omega),Int.toNat_natCast,Nat.mul_one,VL];grind[dJ]);rw[e];apply List.ext_getElem?;intro i;rw[List.getElem?_set,sS];by_cases w:i<3;rw[al U,im,im,VK (by simpa using w),VK (by simpa using w)];obtain⟨i,rfl⟩:∃k,i=3+k:=⟨i-3,by omega⟩;by_cases C:i<8;rw[Gn _ C,Gn _ C];by_cases u:i=j;subst u;rw[aw rfl,aw U,aw U,jv];rw[al U,i6 _ _ u];grind;rw[al U,Ww (by rw[sS];omega),Ww (by rw[sS];omega)]
class dL where
  f:Nat->Nat
  t:Nat->Nat
class fN where
  aV:Nat
structure dR[dL](b:Nat) where
  t:Nat
  bd:Nat
  ar:{a:Nat//a=dL.f b}
  vC:Nat->Nat
  Uj:t=dL.t b:=by first|assumption|rfl
def e7[dL](b top:Nat)(S:cQ):ax:=fj λy:dR b=>pure' (dg top S) (ah [aj b 169 (im 8 y.t y.bd y.ar y.vC),aC.eI y.t S.Q S.bx,k0 y.bd top (dk S.C S.Fr),gn y.ar S.m (1024*2^top),b7 (λc=>l7 (y.vC c) y.bd (cc c) (S.C c)) cls])
theorem yS(h:c∈cls):∃L,cls.Perm (c::L)/\∀x∈L,x≠c:=by obtain⟨L,d⟩:=fv h;grind[vH]
def dj(lim:Int):cQ:=⟨[⟨0,-1,lim,0⟩],1,λ_=>[],[],λ_=>0⟩
theorem Gl(C:Nat->List cf)(h:∀c,C c=[]):dk C []=[]:=by
 have:hB C=λ_=>[]:=by grind[hB]
 rw[dk,this];rfl
variable{top:Nat}
theorem dg.zero(lim:Int)(h:6<=top/\top<=7):dg top (dj lim):=
 ⟨h,λc d=>⟨(pg d).1.1,⟨XD,λ_ h=>(by cases h)⟩,λ_ h=>(by cases h)⟩,by rw[dj,Gl _ λ_=>rfl];exact List.nodup_nil,by rw[dj,Gl _ λ_=>rfl];exact λ_ h=>(by cases h)⟩
structure iO(top:Nat)(S:cQ)(c:Nat)(y:Nat×Nat×List cf):Prop where
  mN:lk (960/cc c) (S.C c) y.2.2 y.1 y.2.1
  i:y.2.1<960/cc c
  lt:y.1<2^top
  inv:∀Q bx m,dg top ⟨Q,bx,dF S.C c y.2.2,S.Fr,m⟩
  new:(∀q∈S.C c,q.aD≠y.1)->y.1∉dk S.C S.Fr
  len:(dk (dF S.C c y.2.2) S.Fr).length<=(dk S.C S.Fr).length+1
theorem dg.mN{S:cQ}(h:dg top S)(w:c∈cls){y:Nat×Nat×List cf×Bool}(D:yh (cc c) top (dk S.C S.Fr) (S.C c) y):iO top S c (y.1,y.2.1,y.2.2.1)/\(dk (dF S.C c y.2.2.1) S.Fr).Perm (if y.2.2.2=true then y.1::dk S.C S.Fr else dk S.C S.Fr):=by
 have N:=h.ok c w;have Z:0<960/cc c:=by have:=C4 w;omega
 have ag:2^top<=128:=Uu (n:=2) am h.fW.2;have key:(dk (dF S.C c y.2.2.1) S.Fr).Perm (if y.2.2.2=true then y.1::dk S.C S.Fr else dk S.C S.Fr)/\y.1<2^top/\(y.2.2.2=true->y.1∉dk S.C S.Fr)/\(y.2.2.2≠true->y.1∈hB S.C c):=(by have u:=D.aD;by_cases e:y.2.2.2=true;rw[aw e]at u⊢;exact⟨Gk w u.1,u.2.2,λ_=>u.2.1,λh=>absurd e h⟩;rw[al e]at u⊢;refine⟨Gm w u.1,?_,λh=>absurd h e,λ_=>u.2⟩;obtain⟨q,H,E⟩:=UE.1 u.2;exact h.lt _ (xb.2 (.inl ⟨c,w,q,H,E⟩)));obtain⟨bO,P,V,W⟩:=key;refine⟨⟨D.mN,D.i,P,λQ an m=>?_,λau hm=>?_,by rw[bO.length_eq];split<;>simp⟩,bO⟩;refine⟨h.fW,λd O=>?_,bO.nodup_iff.2 ?_,λp u=>?_⟩;dsimp only;by_cases e:d=c;subst e;rw[jv];exact N.mN D.mN U;rw[i6 _ _ e];exact h.ok d O;split;rename_i e;exact UI.2 ⟨V e,h.bo⟩;exact h.bo;have:=bO.mem_iff.1 u;split at this;rcases UB.1 this with rfl|this;trivial;exact h.lt _ this;exact h.lt _ this;by_cases e:y.2.2.2=true;simp_all;obtain⟨q,H,E⟩:=UE.1 (W e);simp_all
structure jN(top:Nat)(S:cQ)(c aD i:Nat)(L':List cf):Prop where
  na:mB (960/cc c) (S.C c) L' aD i
  inv:∀Q bx m,dg top ⟨Q,bx,dF S.C c L',S.Fr,m⟩
  len:(dk (dF S.C c L') S.Fr).length<=(dk S.C S.Fr).length
theorem dg.na{S:cQ}(h:dg top S){aD i:Nat}(w:c∈cls){y:List cf×Bool}(D:Cb (cc c) (S.C c) aD i y)(hm:aD∈dk S.C S.Fr):jN top S c aD i y.1/\(dk (dF S.C c y.1) S.Fr).Perm (if y.2=true then(dk S.C S.Fr).erase aD else dk S.C S.Fr):=by have E:=h.ok c w;have key:(dk (dF S.C c y.1) S.Fr).Perm (if y.2=true then(dk S.C S.Fr).erase aD else dk S.C S.Fr):=(by have u:=D.aD;by_cases e:y.2=true;rw[aw e]at u⊢;have N:(dF (dF S.C c y.1) c (S.C c))=S.C:=funext λx=>(by grind[jv,i6]);have:=Gk (C:=dF S.C c y.1) (Fr:=S.Fr) (L':=S.C c) w (by rw[hB,jv];exact u);grind;rw[al e]at u⊢;exact Gm w u);have hlen:(dk (dF S.C c y.1) S.Fr).length<=(dk S.C S.Fr).length:=(by rw[key.length_eq];grind);refine⟨⟨D.na,λQ O m=>⟨h.fW,λd H=>?_,key.nodup_iff.2 ?_,λp u=>?_⟩,hlen⟩,key⟩;dsimp only;by_cases e:d=c;subst e;rw[jv];exact E.na D.na;rw[i6 _ _ e];exact h.ok d H;split;exact h.bo.erase _;exact h.bo;have:=key.mem_iff.1 u;split at this;exact h.lt _ (List.mem_of_mem_erase this);exact h.lt _ this
theorem RF(L:List aC.bY)(x c d:Int):aC.fG (aC.fG L x c) x d=aC.fG L x d:=by grind[aC.fG,Vw]
variable{x:Int}
theorem RE{L:List aC.bY}(h:aC.iv L):aC.fG L x (aC.f8 L x)=L:=by
 rw[aC.fG];conv=>rhs;rw[<-List.map_id L]
 apply Vw;intro t d;by_cases e:t.id=x;rw[aw e,<-e,(aC.ip h d).2.2.1];rfl;simp_all
theorem Bf{L:List aC.bY}(h:aC.iv L)(x c:Int):aC.iv (aC.fG L x c):=by rw[aC.iv,aC.xt];exact h
theorem yI{L:List aC.bY}(h:aC.iv L){y c:Int}(u:aC.df L y):aC.f8 (aC.fG L x c) y=if y=x then c else aC.f8 L y:=by obtain⟨t,d,rfl⟩:=u;have w:=(aC.ip h d).2.2.1;by_cases e:t.id=x;have hm:(⟨t.id,t.par,t.lim,c⟩:aC.bY)∈aC.fG L x c:=aC.sX.2 ⟨t,d,by rw[aw e]⟩;have:=(aC.ip (Bf h x c) hm).2.2.1;simp_all;have hm:t∈aC.fG L x c:=aC.sX.2 ⟨t,d,by rw[al e]⟩;have:=(aC.ip (Bf h x c) hm).2.2.1;omega
theorem yH{L:List aC.bY}{n:Int}(h:(aC.db L x n).2=0):aC.df L x/\0<=n/\n<=aC.nj L x-aC.mU L x/\(aC.db L x n).1=aC.fG L x (aC.f8 L x+n):=by unfold aC.db at h⊢;grind
theorem GG{L:List aC.bY}{n:Int}(d:aC.df L x)(u:0<=n)(w:n<=aC.f8 L x):aC.ek L x n=(aC.fG L x (aC.f8 L x-n),0):=by unfold aC.ek;simp_all
theorem sT{L:List aC.bY}{H:Int}(av:aC.eP L H){n:Int}(E:(aC.db L x n).2=0):aC.ek (aC.db L x n).1 x n=(L,0):=by
 obtain⟨d,w,O,C⟩:=yH E;have N:0<=aC.f8 L x:=(by obtain⟨t,u,rfl⟩:=d;rw[(aC.ip av.bo u).2.2.1];exact(av.rg t u).2.2.2.2.1);have D:aC.f8 (aC.fG L x (aC.f8 L x+n)) x=aC.f8 L x+n:=by rw[yI av.bo d,aw rfl]
 rw[C,GG (aC.qL.2 d) w U,D,RF,Int.add_sub_cancel,RE av.bo]
theorem CY{Q:List aC.bY}{a n:Int}(h:(aC.db Q a n).2≠0):(aC.db Q a n).1=Q:=by unfold aC.db at h⊢;grind
def pa(c:Nat):Option (Nat×Nat×List cf)->Int
  | some y=>(addr c y:Int)
  | none=>0
def Ca(top:Nat)(S:cQ)(a:Int)(c:Nat):Option (Nat×Nat×List cf)×Int->Prop
  | (some y,e)=>e=0/\(aC.db S.Q a (cc c:Int)).2=0/\iO top S c y
  | (none,e)=>e≠0/\(e=(aC.db S.Q a (cc c:Int)).2\/e=4/\2^top<=(dk S.C S.Fr).length)
def j5(S:cQ)(a:Int)(c:Nat):Option (Nat×Nat×List cf)->cQ
  | some y=>⟨(aC.db S.Q a (cc c:Int)).1,S.bx,dF S.C c y.2.2,S.Fr,hf S.m (addr c y) (cc c)⟩
  | none=>S
variable [dL]
theorem rD(c:Nat)(h:c<8):br 81 [aa c] c8 [] (aa (cc c:Int)) []:=by apply aH Tryz.func81 Tryz.ntmps81;intro F w;apply J [9];obtain⟨E,u,C⟩:=w.co;haveI:fP F 0 (.cells qj.toArray E u):=⟨C⟩;refine J [38,176,392,16,310,103] ?_;refine Ur rfl (λd=>absurd d U) (λd=>?_);apply J [4,29];refine q rfl rfl (k1 8 3 1 rfl rfl rfl U U) ?_;refine q rfl rfl (gJ rfl rfl (Db h)) ?_;apply J [30];exact jY
theorem lR(b t bd ar:Nat)(d:Nat->Nat):br 40 [ae b] be [aj b 169 (im 8 t bd ar d)] (ae ar) [aj b 169 (im 8 t bd ar d)]:=by apply aH Tryz.func40 Tryz.ntmps40;intro F _;apply J [1,131,41,99,109];exact hI
theorem uu(b top:Nat)(S:cQ)(a:Int)(c:Nat)(d:c∈cls):bI 128 [ae b,aa a,aa c] c8 [e7 b top S] (λy:Option (Nat×Nat×List cf)×Int=>.tuple #[aa (pa c y.1),aa y.2]) (λy=>Ca top S a c y) (λy=>[e7 b top (j5 S a c y.1)]):=by
 apply aH Tryz.func128 Tryz.ntmps128;intro F ag;apply J [1];haveI:cw F:=⟨ag⟩;obtain⟨bk,bh⟩:=pg d;have bl:((cc c:Nat):Int)≠0:=U
 have bb:=ot d;refine ab.open 0 rfl (λO H=>?_);obtain⟨t,bd,w,u⟩:=O;have D:=H;apply J [156];dsimp only at D⊢;refine ab.open 1 rfl (λO H=>?_);obtain⟨a4,a5⟩:=O;have av:=H;apply J [144];refine VM (B:=ah [aj b 169 (im 8 t bd w u),aC.eI t S.Q S.bx,k0 bd top (dk S.C S.Fr),gn w S.m (1024*2^top),b7 (λc=>l7 (u c) bd (cc c) (S.C c)) cls,F]) (cY (ay (⟨a4,a5⟩:aC.oj) av ai)) ?_;apply J [24,219,217,282];apply ao (rD c (ot d));apply J [13,92,103];refine Ur rfl (λP=>absurd P U) (λP=>?_);apply J [42,7];refine cx [0,1,2,3,4,5,-6,-7,8] (aq (a6 _)) ?_;apply J [51,14,237];apply ao (rD c (ot d));refine J [258,43] ?_;apply ao (aC.Gx t S.Q S.bx a (cc c:Int));refine J [258,143,33] ?_;apply Ur rfl<;>intro E;apply J [188];have aK:=CY E;exact cN (none,(aC.db S.Q a (cc c:Int)).2) ⟨E,.inl rfl⟩ (ay (dR.mk t bd w u:dR b) D (by rw[aK];exact ai));have E:=Ut E;apply J [4,34,80,387];refine q rfl rfl (k1 8 165 1 rfl rfl rfl U U) ?_;refine q rfl rfl (gJ rfl rfl (AV u d)) ?_;obtain⟨a9,gd,au⟩:=yS d;have a0:=D.fW;have be:2^top<=128:=Uu (n:=2) am a0.2;apply J [533,0];apply a7 (R4 (u c) bd top (cc c) (S.C c) (dk S.C S.Fr) U (λa3 Z=>xb.2 (.inl ⟨c,d,a3,Z,rfl⟩)));intro a8 N;apply J [17];cases a8 with|none=>?_|some y=>?_
 have an:2^top<=(dk S.C S.Fr).length:=N;dsimp only[AU,qk,tx,tu];have aQ:=sT av E;apply J [133,33,15,7];refine cx [0,1,2,3,4,5,-6,-7] (eU (a6 _)) ?_;apply J [51,14,237];apply ao (rD c (ot d));refine J [259,43] ?_;apply ao (aC.xi t (aC.db S.Q a (cc c:Int)).1 S.bx a (cc c:Int));refine J [259,5] ?_;rw[aQ];apply J [75,188];exact cN (none,4) ⟨by decide,.inr ⟨rfl,an⟩⟩ (ay (dR.mk t bd w u:dR b) D (eU (aq (bW (bp (cU 0 0 c rfl rfl rfl (λ_ _=>rfl) gd.symm ai))))));have V:yh (cc c) top (dk S.C S.Fr) (S.C c) y:=N;dsimp only[AU,qk,tx,tu];obtain⟨cE,ea⟩:=D.mN d V;obtain⟨aD,i,W,aX⟩:=y;dsimp only at cE ea⊢;have ax:=(D.ok c d).place cE.i;have ar:=cE.lt;dsimp only at ax ar;clear V N;apply J [133,172,121];refine cx [0,1,2,3,4,5,-6,-7] (eU (a6 _)) ?_;apply J [185,14,237];apply ao (rD c (ot d));refine J [259,43] ?_;apply ao (CE w (1024*2^top) (aD*1024+64+i*cc c) (cc c) S.m U U U);refine J [259,108,29,71] ?_;exact cN (some (aD,i,W),0) ⟨rfl,E,cE⟩ (ay (dR.mk t bd w u:dR b) (cE.inv _ _ _) (eE (eU (eM 2 rfl (vw _ _ ea.symm) (aq (cU 0 0 c rfl rfl (by dsimp only[j5];rw[jv]) (λx a2=>by dsimp only[j5];rw[i6 _ _ (au x a2)]) gd.symm ai))))))
theorem AW(b top:Nat)(S:cQ)(c:Nat)(d:c∈cls)(k aD i:Nat)(f:Nat->Bool)(N:(S.C c)[k]? =some ⟨aD,f⟩)(H:f i=true):br 34 [ae b,aa c,aa ((aD*1024+64+i*cc c:Nat):Int)] c8 [e7 b top S] (.bool true) [e7 b top S]:=by apply aH Tryz.func34 Tryz.ntmps34;intro F E;apply J [1];haveI:cw F:=⟨E⟩;obtain⟨ag,Z⟩:=pg d;have V:=ot d;refine ab.open 0 rfl (λP O=>?_);obtain⟨t,bd,D,u⟩:=P;have w:=O;apply J [156];dsimp only at w⊢;apply J [67,37,254,18,282];apply ao (rD c (ot d));apply J [13,158,52];refine UG 14 rfl (c:=true) (cR U) ?_;apply J [299,16,515,294];refine c5 rfl rfl rfl (k1 8 165 1 rfl rfl rfl U U) ?_;refine c5 rfl rfl rfl (gJ rfl rfl (AV u d)) ?_;apply J [16];obtain⟨Q,gd,W⟩:=yS d;apply J [533,90];apply ao (R0 (u c) bd (cc c) (S.C c) k aD i f N H);apply J [17,130];exact fa (ay (dR.mk t bd D u:dR b) w (bp (bp (bp (bp (cU 0 0 c rfl rfl rfl (λ_ _=>rfl) gd.symm ai))))))
theorem uv(b top:Nat)(S:cQ)(c:Nat)(d:c∈cls)(k aD i:Nat)(f:Nat->Bool)(w:(S.C c)[k]? =some ⟨aD,f⟩)(N:f i=true)(a:Int)(aK:(aC.ek S.Q a (cc c:Int)).2=0):bI 189 [ae b,aa a,aa c,aa ((aD*1024+64+i*cc c:Nat):Int)] c8 [e7 b top S] (λ_:List cf=>aa 0) (λL'=>jN top S c aD i L') (λL'=>[e7 b top ⟨(aC.ek S.Q a (cc c:Int)).1,S.bx,dF S.C c L',S.Fr,S.m⟩]):=by apply aH Tryz.func189 Tryz.ntmps189;intro F V;apply J [1];haveI:cw F:=⟨V⟩;obtain⟨aX,aQ⟩:=pg d;have ax:=ot d;have O:aD∈dk S.C S.Fr:=xb.2 (.inl ⟨c,d,_,Us w,rfl⟩);apply J [38,76,217,282];apply ao (rD c (ot d));apply J [6,92,182];refine Ur rfl (λE=>absurd E U) (λE=>?_);apply J [34,28];apply ao (AW b top S c d k aD i f w N);apply J [6,265];refine ab.open 0 rfl (λar ag=>?_);obtain⟨t,bd,P,u⟩:=ar;have D:=ag;apply J [156];dsimp only at D⊢;apply J [203,7];refine cx [0,1,2,3,4,5,-6,-7,8] (aq (a6 _)) ?_;apply J [51,14,237];apply ao (rD c (ot d));refine J [258,43] ?_;apply ao (aC.xi t S.Q S.bx a (cc c:Int));refine J [258,143,33] ?_;refine Ur rfl (λH=>absurd H U) (λH=>?_);apply J [4,34,80,387];refine q rfl rfl (k1 8 165 1 rfl rfl rfl U U) ?_;refine q rfl rfl (gJ rfl rfl (AV u d)) ?_;apply J [2];obtain⟨au,gd,W⟩:=yS d;apply J [533,0];apply a7 (RZ (u c) bd (cc c) (S.C c) k aD i f w N top (dk S.C S.Fr) O);intro y an;apply J [17];obtain⟨cE,ea⟩:=D.na d an O;apply J [30];exact bn y.1 cE (ay (dR.mk t bd P u:dR b) (cE.inv _ _ _) (eU (cY (eM 1 rfl (vw _ _ ea.symm) (bp (cU 0 0 c rfl rfl (by dsimp only;rw[jv]) (λx Z=>by dsimp only;rw[i6 _ _ (W x Z)]) gd.symm ai))))))
end Go.Proofs.YtglgidjhoncphaaGreatDoor
namespace Go.Proofs.YtglgidjhoncphaaGreatDoor
open Go Go.QM
theorem Qp(t bd ar:Nat)(d:Nat->Nat):dJ (0+3+((0:Nat):Int).toNat*1) [Xr none] (im 0 t bd ar d)=im 1 t bd ar d:=rfl
theorem Q4(j:Nat)(h:1<=j):Xz 1 (j+1-1)=Xz 1 (j-1)++[j]:=by obtain⟨k,rfl⟩:∃k,j=k+1:=⟨j-1,by omega⟩;rw[Nat.add_sub_cancel,Nat.add_sub_cancel];rw[List.range'_concat,Nat.one_mul,Nat.add_comm 1 k]
theorem Gq(n top:Nat)(lim:Int)(h:n=65536/\top=6\/n=131072/\top=7)(a0:0<=lim/\lim<=n):bI 125 [aa n,aa lim] c8 [] (λy:Nat×dL=>ae y.1) (λ_=>True) (λy=>[@e7 y.2 y.1 top (dj lim)]):=by
 apply aH Tryz.func125 Tryz.ntmps125;intro F C;apply J [9];haveI:cw F:=⟨C⟩;have ax:n=1024*2^top:=cr
 have au:n=65536\/n=131072:=U
 have aQ:6<=top/\top<=7:=U
 have a3:n<=131072:=U
 obtain⟨E,P,V⟩:=C.co;haveI:fP F 0 (.cells qj.toArray E P):=⟨V⟩;apply J [272,170];apply a7 (aC.GA lim U);intro t _;apply J [6,28];apply a7 (yy n top h);intro bd _;apply J [8,28];apply a7 (ym n au);intro d _;apply J [19];refine q rfl rfl (eh (cs:=im 0 t bd d (λ_=>0)) rfl) ?_;refine e rfl ?_;refine eV (v:=.agg (UJ (im 0 t bd d (λ_=>0)))) (l:=im 0 t bd d (λ_=>0)) rfl rfl ?_;intro b;apply J [55,99,154,18,138,139,414,50,16,169,103];refine Ur rfl (λD=>absurd D U) (λD=>?_);apply J [42,24];refine q rfl rfl (fM (vs:=qj) 8 rfl rfl rfl rfl) ?_;apply J [113];refine UZ (ι:=Nat×(Nat->Nat)) (λx=>x.1<=8) (λx=>[(5,ae b),(33,.agg (UJ qj)),(34,aa ((x.1:Nat):Int))]) (λx=>ah [aj b 169 (im x.1 t bd d x.2),b7 (λc=>l7 (x.2 c) bd (cc c) []) (Xz 1 (x.1-1)),aC.eI t [⟨0,-1,lim,0⟩] 1,k0 bd top [],gn d (λ_=>0) n,F]) (λx=>8-x.1) (0,λ_=>0) am bu ((mZ (f:=λc=>l7 0 bd (cc c) []) _).trans (bW (aq (bp (bW (aq (aq (a6 _)))))))) ?_;rintro⟨j,u⟩ an a4;dsimp only[ct]at an⊢;apply J [40];apply Ur rfl<;>intro a2;have H:j<8:=U
 have Z:=KX H;apply J [62,29];refine q rfl rfl (Np 8 3 1 rfl rfl rfl rfl U U Z) ?_;apply J [141];by_cases Q:j=0;subst Q;have N:=Qp t bd d u;have ag:=sS 0 t bd d u;refine J [589,77,14,136,14,88,436,11] ?_;apply ao (R2 bd);refine J [258,5,590,91] ?_;refine st (v:=.pointer _) (vs:=[_]) 1 rfl rfl rfl rfl rfl rfl (UC rfl) rfl ?_;refine J [306,346] ?_;exact⟨rfl,(1,u),cH,cH,bu,ai⟩;have w:1<=j:=U
 have W:j∈cls:=by grind[vG]
 refine J [589,77,14,136,14,88,436,11] ?_;apply a7 (R3 bd (cc j) (pg W).1);intro O _;refine J [259,5] ?_;have N:=Qo (t:=t) (bd:=bd) (ar:=d) (x:=O) u H w;have ag:=sS j t bd d u;refine J [590,91] ?_;refine st (v:=.pointer _) (vs:=[_]) 1 rfl rfl rfl rfl rfl rfl U N ?_;refine J [306,346] ?_;exact⟨rfl,(j+1,dF u j O),cH,cH,bu,(aq (cU 0 0 j rfl rfl (by dsimp only;rw[jv]) (λx aX=>by dsimp only;rw[i6 _ _ (by have:=List.mem_range'_1.1 aX;omega)]) (by dsimp only;rw[Q4 j w];exact(Vt _ _).symm) ai))⟩;obtain rfl:j=8:=U
 have aK:dk (λ_=>([]:List cf)) []=[]:=by trivial
 letI:dL:=⟨λ_=>d,λ_=>t⟩;apply J [22,37,109];exact bn (b,(⟨λ_=>d,λ_=>t⟩:dL)) trivial (ay (dR.mk t bd ⟨d,rfl⟩ u:dR b) (dg.zero lim aQ) (by dsimp only[dj];rw[aK,<-ax];exact ai))
variable [dL]
theorem uS(s:Nat)(h:s<256):br 77 [aa s] be [] (.bool true) []:=by apply aH Tryz.func77 Tryz.ntmps77;intro F _;refine J [9,223,235,480,200,130] ?_;exact Xq () [_] ⟨rfl,trivial⟩ (congrArg Value.bool (cR U)) trivial (aq (a6 _))
theorem s4(l s:Nat)(h:s<256)(d:l<=1073741824):br 79 [aa l,aa s] be [] (aa ((l+s %16*16:Nat):Int)) []:=by apply aH Tryz.func79 Tryz.ntmps79;intro F _;apply J [9,102,198];refine q rfl rfl (Vx (v:=((s %16:Nat):Int)) (pJ rfl rfl U U) U) ?_;refine q rfl rfl (Vx (v:=((s %16*16:Nat):Int)) (nZ rfl rfl U U) U) ?_;refine q rfl rfl (Vx (v:=((l+s %16*16:Nat):Int)) (ig rfl rfl U U) U) ?_;apply J [30];exact jY
theorem BB(aU af:Nat)(d:Int)(t s:Nat)(h:s<256)(u:t<=1073741824):br 121 [ae aU,aa s] be [aj aU 163 [ae af,aa d,aa t]] (aa ((t+s/16*8:Nat):Int)) [aj aU 163 [ae af,aa d,aa t]]:=by apply aH Tryz.func121 Tryz.ntmps121;intro F _;apply J [1,102,99,2];refine q rfl rfl (Vx (v:=((s/16:Nat):Int)) (k4 rfl rfl U U U) U) ?_;refine q rfl rfl (Vx (v:=((s/16*8:Nat):Int)) (nZ rfl rfl U U) U) ?_;refine q rfl rfl (Vx (v:=((t+s/16*8:Nat):Int)) (ig rfl rfl U U) U) ?_;apply J [30];exact hI
theorem xJ(aU af top:Nat)(C:Int)(t:Nat)(S:cQ)(o:Nat)(h:o+8<=1024*2^top)(D:o %8=0):br 80 [ae aU,aa o] be [aj aU 163 [ae af,aa C,aa t],e7 af top S] (bg (cS S.m o:Int)) [aj aU 163 [ae af,aa C,aa t],e7 af top S]:=by apply aH Tryz.func80 Tryz.ntmps80;intro F _;apply J [12];refine ab.open 1 rfl (λN H=>?_);obtain⟨cJ,bd,d,w⟩:=N;have u:=H;apply J [243];dsimp only at u⊢;have E:=u.fW;have O:2^top<=128:=Uu (n:=2) am E.2;apply J [102,39,0];apply ao (lR af cJ bd d w);apply J [17,28];apply ao (tr d (1024*2^top) o S.m U h D);apply J [17,278,141,132];exact fa (eE (ay (dR.mk cJ bd d w:dR af) u ai))
theorem s3(aU af top:Nat)(d:Int)(t:Nat)(S:cQ)(s:Nat)(hs:s<256)(u:t+128<=1024*2^top/\t %8=0/\top<=7)(w:cS S.m (t+s/16*8)<1073741824):br 78 [ae aU,aa s] be [aj aU 163 [ae af,aa d,aa t],e7 af top S] (aa (cS S.m (t+s/16*8):Int)) [aj aU 163 [ae af,aa d,aa t],e7 af top S]:=by apply aH Tryz.func78 Tryz.ntmps78;intro F _;apply J [12];have C:2^top<=128:=Uu (n:=2) am u.2.2;apply J [102,37,157,28];apply ao (BB aU af d t s hs U);apply J [8,0];apply ao (xJ aU af top d t S (t+s/16*8) U U);refine J [8,312,30] ?_;exact dp
end Go.Proofs.YtglgidjhoncphaaGreatDoor
namespace Go.Proofs.YtglgidjhoncphaaGreatDoor
open Go Go.QM
theorem De{C:Nat->List cf}:∀{l:List Nat},(l.flatMap (hB C)).Nodup->l.Nodup->∀{c d p:Nat},c∈l->d∈l->p∈hB C c->p∈hB C d->c=d
 | [],_,_,_,_,_,h,_,_,_=>by cases h
 | x::l,au,V,c,d,p,P,Q,u,w=>by rw[UN]at au;obtain⟨ag,W,O⟩:=US.1 au;obtain⟨Z,k2⟩:=UI.1 V;rcases UB.1 P with D|H<;>rcases UB.1 Q with E|N;rw[D,E];subst D;exact absurd rfl (O p u p (Vh.2 ⟨d,N,w⟩));subst E;exact absurd rfl (O p w p (Vh.2 ⟨c,H,u⟩));exact De W k2 H N u w
variable{top:Nat}{S:cQ}{c d:Nat}
theorem dg.Lm(h:dg top S)(u:c∈cls)(w:d∈cls){p q:cf}(D:p∈S.C c)(E:q∈S.C d)(e:p.aD=q.aD):c=d:=
 De (US.1 h.bo).1 vH u w (UE.2 ⟨p,D,rfl⟩) (UE.2 ⟨q,E,e.symm⟩)
theorem C1{many:Nat}{L:List cf}(h:oe many L){p q:cf}(N:p∈L)(O:q∈L)(e:p.aD=q.aD):p=q:=by obtain⟨i,E⟩:=Vo N;obtain⟨j,H⟩:=Vo O;obtain⟨u,w⟩:=Uz.1 E;obtain⟨C,D⟩:=Uz.1 H;have key:i=j:=(by rcases Nat.lt_trichotomy i j with d|d|d;have:=(VJ.1 h.kb) i j u C d;rw[w,D]at this;omega;trivial;have:=(VJ.1 h.kb) j i C u d;rw[w,D]at this;omega);simp_all
variable{a:Nat}
theorem e4.bd(u:dg top S)(d:c∈cls)(h:e4 (cc c) (S.C c) a):a %16=0/\64<=a/\a+cc c<=1024*2^top:=by
 obtain⟨p,D,i,E,rfl⟩:=h;have w:=u.ok c d;have H:=w.place (w.inv.bd p D i E);have N:=u.lt p.aD (xb.2 (.inl ⟨c,d,p,D,rfl⟩));obtain⟨O,P⟩:=pg d;obtain⟨q,V⟩:∃q,cc c=16*q:=⟨cc c/16,by omega⟩;have Q:i*cc c=16*(i*q):=cr
 omega
variable{b:Nat}
theorem e4.apart(u:dg top S)(D:c∈cls)(E:d∈cls)(h:e4 (cc c) (S.C c) a)(k:e4 (cc d) (S.C d) b)(ag:c≠d\/a≠b):a+cc c<=b\/b+cc d<=a:=by obtain⟨p,H,i,Q,rfl⟩:=h;obtain⟨q,N,j,V,rfl⟩:=k;have W:=(u.ok c D).place ((u.ok c D).inv.bd p H i Q);have Z:=(u.ok d E).place ((u.ok d E).inv.bd q N j V);by_cases e:p.aD=q.aD;have O:=u.Lm D E H N e;subst O;have P:=C1 (u.ok c D).inv H N e;subst P;rcases Nat.lt_trichotomy i j with w|w|w;have:=U0 (cc c) (show i+1<=j from w);rw[Vf]at this;omega;simp_all;have:=U0 (cc c) (show j+1<=i from w);rw[Vf]at this;omega;omega
theorem e4.frame(u:dg top S){p:Nat}(d:c∈cls)(h:e4 (cc c) (S.C c) a)(E:p∉cls.flatMap (hB S.C)):a+cc c<=p*1024\/p*1024+1024<=a:=by obtain⟨q,w,i,D,rfl⟩:=h;have H:=(u.ok c d).place ((u.ok c d).inv.bd q w i D);have:q.aD≠p:=λe=>E (Vh.2 ⟨c,d,UE.2 ⟨q,w,e⟩⟩);omega
theorem MX{many aD i sz:Nat}{L L':List cf}(g:lk many L L' aD i)(h:oe many L)(hs:0<sz)(hm:many*sz<=960)(Q:i<many):¬e4 sz L (aD*1024+64+i*sz):=by
 rintro⟨q,d,j,u,e⟩;have ba:i*sz+sz<=960:=by have:=U0 sz (show i+1<=many from Q);rw[Vf]at this;omega
 have bw:j*sz+sz<=960:=by have:=U0 sz (show j+1<=many from h.bd q d j u);rw[Vf]at this;omega
 have D:q.aD=aD:=U
 have E:i=j:=by grind[Nat.eq_of_mul_eq_mul_right]
 cases g with|old A B f w H C N=>(have V:(⟨aD,f⟩:cf)∈L:=by rw[w];simp);have:=C1 h d V D;subst this;subst E;dsimp only at u;rw[C]at u;cases u|new A B w H C N O P=>rw[w]at d;rcases Uq.1 d with d|d;have:=O q d;omega;have:=P q d;omega
theorem iO.fresh{y:Nat×Nat×List cf}(u:dg top S)(d:c∈cls)(g:iO top S c y):¬e4 (cc c) (S.C c) (addr c y):=
 MX g.mN (u.ok c d).inv (by have:=pg d;omega) (u.ok c d).many.2.2 g.i
theorem iO.jI{y:Nat×Nat×List cf}(u:c∈cls)(g:iO top S c y):e4 (cc d) (dF S.C c y.2.2 d) a↔e4 (cc d) (S.C d) a\/(d=c/\a=addr c y):=by by_cases e:d=c;subst e;rw[jv,g.mN.jI (by have:=pg u;omega)];constructor;rintro(h|h);simp_all;exact .inr ⟨rfl,h⟩;rintro(h|⟨_,h⟩);simp_all;exact .inr h;grind[i6]
theorem iO.apart{y:Nat×Nat×List cf}(D:dg top S)(u:c∈cls)(g:iO top S c y)(E:d∈cls)(h:e4 (cc d) (S.C d) a):a+cc d<=addr c y\/addr c y+cc c<=a:=
 e4.apart (g.inv S.Q S.bx S.m) E u ((g.jI u).2 (.inl h)) ((g.jI u).2 (.inr ⟨rfl,rfl⟩)) (by by_cases e:d=c;subst e;exact .inr λw=>g.fresh D u (w▸h);exact .inl e)
theorem jN.jI{aD i:Nat}{L':List cf}(w:dg top S)(u:c∈cls)(g:jN top S c aD i L')(h:e4 (cc d) (S.C d) a)(D:d≠c\/a≠aD*1024+64+i*cc c):e4 (cc d) (dF S.C c L' d) a:=by by_cases e:d=c;subst e;rw[jv];exact g.na.jI (w.ok d u).inv (by have:=pg u;omega) h (D.resolve_left λh=>h rfl);grind[i6]
def bm(m:Nat->Nat)(t j:Nat):Nat:=cS m (t+j*8)
def ec(m:Nat->Nat)(t s:Nat):Nat:=if bm m t (s/16)=0 then 0 else cS m (bm m t (s/16)+s %16*16)
def dX(m:Nat->Nat)(t s:Nat):Nat:=if bm m t (s/16)=0 then 0 else cS m (bm m t (s/16)+s %16*16+8)
structure gm(top:Nat)(S:cQ)(t:Nat):Prop where
  tk:e4 128 (S.C 2) t
  fz:∀j,j<16->bm S.m t j≠0->e4 256 (S.C 7) (bm S.m t j)
  bo:∀j k,j<16->k<16->j≠k->bm S.m t j≠0->bm S.m t j≠bm S.m t k
  ne:∀j,j<16->bm S.m t j≠0->∃i,i<16/\cS S.m (bm S.m t j+i*16)≠0
def Jt(m:Nat->Nat)(t o:Nat):Prop:=(t<=o/\o+8<=t+128)\/∃j,j<16/\bm m t j≠0/\bm m t j<=o/\o+8<=bm m t j+256
theorem c2:(2:Nat)∈cls:=by decide
theorem fF:(7:Nat)∈cls:=by decide
variable{t:Nat}
theorem gm.bd(d:dg top S)(h:gm top S t):t %16=0/\64<=t/\t+128<=1024*2^top:=e4.bd d c2 h.tk
theorem gm.rv(u:dg top S)(h:gm top S t){j:Nat}(w:j<16)(d:bm S.m t j≠0):bm S.m t j %16=0/\64<=bm S.m t j/\bm S.m t j+256<=1024*2^top:=e4.bd u fF (h.fz j w d)
theorem gm.nh{a8:cQ}(h:gm top S t)(N:e4 128 (a8.C 2) t)(Q:∀j,j<16->bm S.m t j≠0->e4 256 (a8.C 7) (bm S.m t j))(hm:∀o,Jt S.m t o->cS a8.m o=cS S.m o):
 gm top a8 t/\(∀j,j<16->bm a8.m t j=bm S.m t j)/\∀s,s<256->ec a8.m t s=ec S.m t s/\dX a8.m t s=dX S.m t s:=by
 have w:∀j,j<16->bm a8.m t j=bm S.m t j:=λj u=>hm _ (.inl ⟨by omega,by omega⟩);refine⟨⟨N,λj u d=>?_,λj k u E P d=>?_,λj u d=>?_⟩,w,λs V=>?_⟩;simp_all;rw[w j u]at d⊢;rw[w k E];exact h.bo j k u E P d;rw[w j u]at d⊢;obtain⟨i,O,H⟩:=h.ne j u d;exact⟨i,O,by rw[hm _ (.inr ⟨j,u,d,by omega,by omega⟩)];exact H⟩;have D:s/16<16:=U
 rw[ec,ec,dX,dX,w _ D];by_cases d:bm S.m t (s/16)=0;simp_all;rw[al d,al d,al d,al d];exact⟨hm _ (.inr ⟨_,D,d,by omega,by omega⟩),hm _ (.inr ⟨_,D,d,by omega,by omega⟩)⟩
variable{o:Nat}
theorem mr{m:Nat->Nat}{d:Nat}(h:d+8<=o\/o+16<=d):cS (du m o [a,b]) d=cS m d:=Hm (L:=[a,b]) h
theorem uY{m:Nat->Nat}(h:a<2^64):cS (du m o [a,b]) o=a:=Bn (L:=[a,b]) (j:=0) rfl h
theorem Ie{m:Nat->Nat}(h:b<2^64):cS (du m o [a,b]) (o+8)=b:=Bn (L:=[a,b]) (j:=1) rfl h
theorem qT{m:Nat->Nat}{d:Nat}(h:d+8<=o\/o+8<=d):cS (du m o [a]) d=cS m d:=Hm (L:=[a]) h
theorem BI{m:Nat->Nat}(h:a<2^64):cS (du m o [a]) o=a:=Bn (L:=[a]) (j:=0) rfl h
theorem gm.sW(N:dg top S)(h:gm top S t){s:Nat}(hs:s<256)(H:bm S.m t (s/16)≠0)(V:a<2^64)(ao:b<2^64)
 (P:a≠0\/∃i,i<16/\i≠s %16/\cS S.m (bm S.m t (s/16)+i*16)≠0) {a8:cQ} (Q:a8.C=S.C) (hm:a8.m=du S.m (bm S.m t (s/16)+s %16*16) [a,b]):
 gm top a8 t/\(∀j,j<16->bm a8.m t j=bm S.m t j)/\ec a8.m t s=a/\dX a8.m t s=b/\∀r,r<256->r≠s->ec a8.m t r=ec S.m t r/\dX a8.m t r=dX S.m t r:=by
 have D:s/16<16:=U
 have ar:=h.bd N;have w:∀j,j<16->bm a8.m t j=bm S.m t j:=λj d=>(by have:=e4.apart N c2 fF h.tk (h.fz _ D H) (.inl am);have e:cc 2=128:=rfl;have an:cc 7=256:=rfl;grind[bm,mr]);have hw:∀j i,j<16->i<16->bm S.m t j≠0->(j≠s/16\/i≠s %16)->cS a8.m (bm S.m t j+i*16)=cS S.m (bm S.m t j+i*16)/\cS a8.m (bm S.m t j+i*16+8)=cS S.m (bm S.m t j+i*16+8):=λj i d W u O=>(by rw[hm];by_cases e:j=s/16;grind[mr];have:=e4.apart N fF fF (h.fz j d u) (h.fz _ D H) (.inr (h.bo j _ d D e u));have an:cc 7=256:=rfl;grind[mr]);refine⟨⟨by rw[Q];exact h.tk,λj d u=>?_,λj k d Z O u=>?_,λj d u=>?_⟩,w,?_,?_,λr au ax=>?_⟩;rw[w j d]at u⊢;rw[Q];exact h.fz j d u;rw[w j d]at u⊢;rw[w k Z];exact h.bo j k d Z O u;rw[w j d]at u⊢;by_cases e:j=s/16;subst e;rcases P with P|⟨i,W,O,bK⟩;exact⟨s %16,by omega,by rw[hm,uY V];exact P⟩;grind;obtain⟨i,W,bK⟩:=h.ne j d u;grind;rw[ec,w _ D,al H,hm,uY V];rw[dX,w _ D,al H,hm,Ie ao];have ag:r/16<16:=U
 rw[ec,ec,dX,dX,w _ ag];by_cases E:bm S.m t (r/16)=0;simp_all;rw[al E,al E,al E,al E];exact hw _ _ ag U E U
theorem gm.RD(O:dg top S)(h:gm top S t){s:Nat}(hs:s<256)(ao:bm S.m t (s/16)=0)(aK:a<2^64)(a0:b<2^64)(aQ:a≠0){y:Nat×Nat×List cf}(g:iO top S 7 y)
 {a8:cQ} (ar:a8.C=dF S.C 7 y.2.2) (hm:a8.m=du (du (hf S.m (addr 7 y) 256) (t+s/16*8) [addr 7 y]) (addr 7 y+s %16*16) [a,b]):
 gm top a8 t/\bm a8.m t (s/16)=addr 7 y/\(∀j,j<16->j≠s/16->bm a8.m t j=bm S.m t j)/\ec a8.m t s=a/\dX a8.m t s=b/\(∀r,r<256->r≠s->ec a8.m t r=ec S.m t r/\dX a8.m t r=dX S.m t r)/\
  ∀i,i<16->i≠s %16->cS a8.m (addr 7 y+i*16)=0:=by
 have a5:s/16<16:=U
 have a4:=h.bd O;have aC:cc 2=128:=rfl;have an:cc 7=256:=rfl;have aX:=g.apart O fF c2 h.tk;have au:e4 256 (dF S.C 7 y.2.2 7) (addr 7 y):=(g.jI fF).2 (.inr ⟨rfl,rfl⟩);have a2:=e4.bd (g.inv S.Q S.bx S.m) fF au;have a9:2^top<=128:=Uu (n:=2) am O.fW.2;generalize aH:addr 7 y=A at*;rw[aC,an]at aX;rw[an]at a2;have H:∀j,j<16->j≠s/16->bm a8.m t j=bm S.m t j:=λj d E=>(by rw[bm,hm,mr U,qT U,zX U];rfl);have D:bm a8.m t (s/16)=A:=by rw[bm,hm,mr U,BI U]
 have ag:∀j,j<16->bm S.m t j≠0->bm S.m t j+256<=A\/A+256<=bm S.m t j:=λj d u=>(by have:=g.apart O fF fF (h.fz j d u);rw[aH]at this;exact this);have a3:∀j,j<16->bm S.m t j≠0->t+128<=bm S.m t j\/bm S.m t j+256<=t:=λj d u=>e4.apart O c2 fF h.tk (h.fz j d u) (.inl am);have hw:∀j i,j<16->i<16->bm S.m t j≠0->cS a8.m (bm S.m t j+i*16)=cS S.m (bm S.m t j+i*16)/\cS a8.m (bm S.m t j+i*16+8)=cS S.m (bm S.m t j+i*16+8):=λj i d N u=>(by have g1:=ag j d u;have g2:=a3 j d u;rw[hm];exact⟨by rw[mr U,qT U,zX U],by rw[mr U,qT U,zX U]⟩);have aA:∀i,i<16->i≠s %16->cS a8.m (A+i*16)=0/\cS a8.m (A+i*16+8)=0:=λi N E=>(by rw[hm];exact⟨by rw[mr U,qT U,wJ U U],by rw[mr U,qT U,wJ U U]⟩);have Z:cS a8.m (A+s %16*16)=a/\cS a8.m (A+s %16*16+8)=b:=by rw[hm];exact⟨uY aK,Ie a0⟩
 have P:A≠0:=U
 refine⟨⟨by rw[ar];exact(g.jI fF).2 (.inl h.tk),λj d u=>?_,λj k d V E u=>?_,λj d u=>?_⟩,D,H,?_,?_,λr a7 E=>?_,λi N E=>(aA i N E).1⟩;rw[ar];by_cases e:j=s/16;subst e;rw[D];exact au;rw[H j d e]at u⊢;exact(g.jI fF).2 (.inl (h.fz j d u));by_cases e:j=s/16;subst e;rw[D,H k V (λe=>E e.symm)];intro W;have:=ag k V U;omega;rw[H j d e]at u⊢;by_cases W:k=s/16;subst W;rw[D];have:=ag j d u;omega;rw[H k V W];exact h.bo j k d V E u;by_cases e:j=s/16;subst e;rw[D];exact⟨s %16,by omega,by rw[Z.1];exact aQ⟩;rw[H j d e]at u⊢;obtain⟨i,N,bK⟩:=h.ne j d u;exact⟨i,N,by rw[(hw j i d N u).1];exact bK⟩;rw[ec,D,al P];exact Z.1;rw[dX,D,al P];exact Z.2;have ax:r/16<16:=U
 rw[ec,ec,dX,dX];by_cases e:r/16=s/16;rw[e,D,al P,al P,aw ao,aw ao];exact aA _ U U;rw[H _ ax e];by_cases w:bm S.m t (r/16)=0;rw[aw w,aw w,aw w,aw w];exact⟨rfl,rfl⟩;rw[al w,al w,al w,al w];exact hw _ _ ax U w
theorem gm.KB(O:dg top S)(h:gm top S t){s aD i0:Nat}{L':List cf}(hs:s<256)(Q:bm S.m t (s/16)≠0)(au:∀i,i<16->i≠s %16->cS S.m (bm S.m t (s/16)+i*16)=0)
 (ao:bm S.m t (s/16)=aD*1024+64+i0*256) (g:jN top S 7 aD i0 L') {a8:cQ} (Z:a8.C=dF S.C 7 L') (hm:a8.m=du (du S.m (bm S.m t (s/16)+s %16*16) [0,0]) (t+s/16*8) [0]):
 gm top a8 t/\bm a8.m t (s/16)=0/\(∀j,j<16->j≠s/16->bm a8.m t j=bm S.m t j)/\ec a8.m t s=0/\∀r,r<256->r≠s->ec a8.m t r=ec S.m t r/\(ec S.m t r≠0->dX a8.m t r=dX S.m t r):=by
 have P:s/16<16:=U
 have an:∀j,j<16->bm S.m t j≠0->t+128<=bm S.m t j\/bm S.m t j+256<=t:=λj u d=>e4.apart O c2 fF h.tk (h.fz j u d) (.inl am);have ar:∀j,j<16->j≠s/16->bm S.m t j≠0->bm S.m t j+256<=bm S.m t (s/16)\/bm S.m t (s/16)+256<=bm S.m t j:=λj u D d=>e4.apart O fF fF (h.fz j u d) (h.fz _ P Q) (.inr (h.bo j _ u P D d));have aA:=an _ P Q;have H:∀j,j<16->j≠s/16->bm a8.m t j=bm S.m t j:=λj u D=>(by rw[bm,hm,qT U,mr U];rfl);have E:bm a8.m t (s/16)=0:=by rw[bm,hm,BI U]
 have hw:∀j i,j<16->j≠s/16->i<16->bm S.m t j≠0->cS a8.m (bm S.m t j+i*16)=cS S.m (bm S.m t j+i*16)/\cS a8.m (bm S.m t j+i*16+8)=cS S.m (bm S.m t j+i*16+8):=λj i u D V d=>(by have g1:=ar j u D d;have g2:=an j u d;rw[hm];exact⟨by rw[qT U,mr U],by rw[qT U,mr U]⟩);refine⟨⟨by rw[Z];exact g.jI O fF h.tk (.inl am),λj u d=>?_,λj k u ag D d=>?_,λj u d=>?_⟩,E,H,by rw[ec,aw E],λr aC D=>?_⟩;have e:j≠s/16:=λe=>by subst e;exact d E
 rw[H j u e]at d⊢;rw[Z];exact g.jI O fF (h.fz j u d) (.inr λN=>h.bo j _ u P e d (by rw[ao];exact N));have e:j≠s/16:=λe=>by subst e;exact d E
 rw[H j u e]at d⊢;by_cases N:k=s/16;subst N;rw[E];exact d;rw[H k ag N];exact h.bo j k u ag D d;have e:j≠s/16:=λe=>by subst e;exact d E
 rw[H j u e]at d⊢;obtain⟨i,V,bK⟩:=h.ne j u d;exact⟨i,V,by rw[(hw j i u e V d).1];exact bK⟩;have W:r/16<16:=U
 rw[ec,ec,dX,dX];by_cases e:r/16=s/16;have ax:=au (r %16) U U;rw[e,aw E,al Q,ax];exact⟨rfl,λh=>absurd rfl h⟩;rw[H _ W e];by_cases w:bm S.m t (r/16)=0;rw[aw w,aw w,aw w,aw w];exact⟨rfl,λ_=>rfl⟩;rw[al w,al w,al w,al w];exact⟨(hw _ _ W e U w).1,λ_=>(hw _ _ W e U w).2⟩
end Go.Proofs.YtglgidjhoncphaaGreatDoor
namespace Go.Proofs.YtglgidjhoncphaaGreatDoor
open Go Go.QM
variable [dL]
theorem LI{m:Nat->Nat}{t s:Nat}(h:bm m t (s/16)≠0):ec m t s=cS m (bm m t (s/16)+s %16*16)/\dX m t s=cS m (bm m t (s/16)+s %16*16+8):=⟨al h,al h⟩
theorem LH{m:Nat->Nat}{t s:Nat}(h:bm m t (s/16)=0):ec m t s=0/\dX m t s=0:=⟨aw h,aw h⟩
theorem jN.rG{top:Nat}{S a8:cQ}{c aD i:Nat}{L':List cf}(g:jN top S c aD i L')(zu:S.C=a8.C:=by rfl)(Ea:S.Fr=a8.Fr:=by rfl):jN top a8 c aD i L':=⟨by rw[<-zu];exact g.na,λQ bx m=>by rw[<-zu,<-Ea];exact g.inv Q bx m,by rw[<-zu,<-Ea];exact g.len⟩
theorem Sr(af top:Nat)(d:Int)(t:Nat)(S:cQ)(H:dg top S)(E:e4 128 (S.C 2) t):bI 28 [ae af,aa d,aa t] c8 [e7 af top S] (λaU:Nat=>ae aU) (λ_=>True) (λaU=>[aj aU 163 [ae af,aa d,aa t],e7 af top S]):=by apply aH Tryz.func28 Tryz.ntmps28;intro F u;apply J [1];haveI:cw F:=⟨u⟩;obtain⟨k,aD,i,f,D,w,rfl⟩:=E.at;apply J [131,32];apply ao (AW af top S 2 c2 k aD i f D w);refine J [6,89,100,34,2,591,0,313] ?_;intro ba;apply J [109];exact bn ba trivial ai
theorem rN(aU af top:Nat)(d:Int)(t:Nat)(S:cQ)(w:dg top S)(E:gm top S t)(s:Nat)(hs:s<256):br 30 [ae aU,aa s] be [aj aU 163 [ae af,aa d,aa t],e7 af top S] (.tuple #[bg (ec S.m t s:Int),bg (dX S.m t s:Int)]) [aj aU 163 [ae af,aa d,aa t],e7 af top S]:=by
 apply aH Tryz.func30 Tryz.ntmps30;intro F _;apply J [12];have P:=E.bd w;have N:=w.fW;have V:2^top<=128:=Uu (n:=2) am N.2;have O:s/16<16:=U
 have H:cS S.m (t+s/16*8)<1073741824:=(by by_cases u:bm S.m t (s/16)=0;rw[show cS S.m (t+s/16*8)=0 from u];decide;have:=E.rv w O u;rw[show cS S.m (t+s/16*8)=bm S.m t (s/16)from rfl];omega);apply J [24,219,217,282];apply ao (uS s hs);apply J [8,324,50,299,282];apply ao (s3 aU af top d t S s hs ⟨P.2.2,by omega,N.2⟩ H);apply J [8];rw[show cS S.m (t+s/16*8)=bm S.m t (s/16)from rfl]at H⊢;apply J [92,103];apply Ur rfl<;>intro u;obtain⟨C,D⟩:=LH (m:=S.m) (t:=t) (s:=s) U;rw[C,D];apply J [134,83];exact hJ ai;have u:bm S.m t (s/16)≠0:=U
 obtain⟨C,D⟩:=LI (m:=S.m) u;have Q:=E.rv w O u;rw[C,D];apply J [4,32];apply ao (s3 aU af top d t S s hs ⟨P.2.2,by omega,N.2⟩ H);apply J [8];rw[show cS S.m (t+s/16*8)=bm S.m t (s/16)from rfl];apply J [28];apply ao (s4 (bm S.m t (s/16)) s hs U);apply J [8,27,32];apply ao (xJ aU af top d t S (bm S.m t (s/16)+s %16*16) U U);apply J [8,157,2];refine q rfl rfl (Vx (v:=((bm S.m t (s/16)+s %16*16+8:Nat):Int)) (ig rfl rfl U U) U) ?_;refine e rfl ?_;apply ao (xJ aU af top d t S (bm S.m t (s/16)+s %16*16+8) U U);apply J [8,71];exact hJ ai
theorem BC(aU af top:Nat)(w:Int)(t:Nat)(S:cQ)(d:dg top S)(E:gm top S t)(s:Nat)(hs:s<256)(a b:Nat)(ax:a<2^64)(aK:b<2^64)(aC:a≠0)(V:bm S.m t (s/16)≠0):br 165 [ae aU,aa s,bg a,bg b] be [aj aU 163 [ae af,aa w,aa t],e7 af top S] (aa 0) [aj aU 163 [ae af,aa w,aa t],e7 af top ⟨S.Q,S.bx,S.C,S.Fr,du S.m (bm S.m t (s/16)+s %16*16) [a,b]⟩]:=by
 apply aH Tryz.func165 Tryz.ntmps165;intro F _;apply J [12];have an:=E.bd d;have O:=d.fW;have aX:2^top<=128:=Uu (n:=2) am O.2;have ag:s/16<16:=U
 have aQ:=E.rv d ag V;have Z:cS S.m (t+s/16*8)<1073741824:=by grind[bm]
 apply J [38,76,106,189,170];apply ao (uS s hs);apply J [8,265,29,199];refine Ur rfl (λH=>absurd H U) (λH=>?_);apply J [23,32];apply ao (s3 aU af top w t S s hs ⟨an.2.2,by omega,O.2⟩ Z);apply J [8];rw[show cS S.m (t+s/16*8)=bm S.m t (s/16)from rfl];apply J [31,208];refine Ur rfl (λN=>absurd N U) (λN=>?_);refine ab.open 1 rfl (λau ar=>?_);obtain⟨cJ,bd,u,D⟩:=au;have d:=ar;apply J [243];dsimp only at d⊢;apply J [4,39,0];apply ao (lR af cJ bd u D);apply J [17,195];apply ao (s4 (bm S.m t (s/16)) s hs U);refine J [17,195,293] ?_;intro bw;refine e rfl ?_;apply eG (lu u (1024*2^top) (bm S.m t (s/16)+s %16*16) S.m [a,b] (cL bw) 2 U cF jn U (by intro x P;simp only[UB,Uy,or_false]at P;rcases P with rfl|rfl<;>assumption)) ⟨_,bl.rd (ad:=some ⟨bw,0,none⟩)⟩;apply J [78,30];have W:dg top ⟨S.Q,S.bx,S.C,S.Fr,du S.m (bm S.m t (s/16)+s %16*16) [a,b]⟩:=by grind[dg]
 exact fa (bN 6 rfl (ay (dR.mk cJ bd u D:dR af) W ai))
def uH(S:cQ)(LW:Int)(t s a b:Nat):Option (Nat×Nat×List cf)->cQ
  | some y=>⟨(aC.db S.Q LW (cc 7:Int)).1,S.bx,dF S.C 7 y.2.2,S.Fr,du (du (hf S.m (addr 7 y) 256) (t+s/16*8) [addr 7 y]) (addr 7 y+s %16*16) [a,b]⟩
  | none=>S
theorem SQ(aU af top:Nat)(d:Int)(t:Nat)(S:cQ)(W:dg top S)(aK:gm top S t)(s:Nat)(hs:s<256)(a b:Nat)(be:a<2^64)(bk:b<2^64)(bh:a≠0)(P:bm S.m t (s/16)=0):bI 165 [ae aU,aa s,bg a,bg b] c8 [aj aU 163 [ae af,aa d,aa t],e7 af top S] (λy:Option (Nat×Nat×List cf)×Int=>aa y.2) (λy=>Ca top S d 7 y) (λy=>[aj aU 163 [ae af,aa d,aa t],e7 af top (uH S d t s a b y.1)]):=by
 apply aH Tryz.func165 Tryz.ntmps165;intro F ar;apply J [12];haveI:cw F:=⟨ar⟩;have a3:=aK.bd W;have an:=W.fW;have br:2^top<=128:=Uu (n:=2) am an.2;have bo:s/16<16:=U
 have aX:cS S.m (t+s/16*8)<1073741824:=by rw[show cS S.m (t+s/16*8)=0 from P];decide
 apply J [38,76,106,189,170];apply ao (uS s hs);apply J [8,265,29,199];refine Ur rfl (λZ=>absurd Z U) (λZ=>?_);apply J [23,32];apply ao (s3 aU af top d t S s hs ⟨a3.2.2,by omega,an.2⟩ aX);apply J [8];rw[show cS S.m (t+s/16*8)=0 from P];apply J [31,29,262,122,7];refine cx [0,1,2,3,4,5,6,7,-8,9,10,11,12,13] (aq (a6 _)) ?_;apply J [51,136,11];apply a7 (uu af top S d 7 fF);intro⟨a9,cp⟩ H;refine J [260,5] ?_;cases a9 with|none=>?_|some y=>?_
 dsimp only[pa,j5];apply J [253,283,271,7,33];refine Ur rfl (λag=>?_) (λag=>absurd (H.1) ag);apply J [142];refine ab.ret (rt (rt ?_));exact bn (none,cp) H ai;obtain⟨rfl,a2,cE⟩:=H;dsimp only[pa,j5];have a0:e4 256 (dF S.C 7 y.2.2 7) (addr 7 y):=(cE.jI fF).2 (.inr ⟨rfl,rfl⟩);have aQ:=e4.bd (cE.inv (aC.db S.Q d (cc 7:Int)).1 S.bx (hf S.m (addr 7 y) 256)) fF a0;have O:cc 7=256:=rfl;rw[O]at aQ;rw[O];have bb:=cE.inv (aC.db S.Q d (cc 7:Int)).1 S.bx (hf S.m (addr 7 y) 256);have au:=λa5=>cE.inv (aC.db S.Q d (cc 7:Int)).1 S.bx a5;generalize V:addr 7 y=u at*;apply J [253,283,271,7,211,142,36,53];refine aO.open 0 rfl (λa8 a4=>?_);obtain⟨cJ,bd,w,E⟩:=a8;have ax:=a4;apply J [17];dsimp only at ax⊢;refine e rfl ?_;apply ao (lR af cJ bd w E);apply J [17,157,28];apply ao (BB aU af d t s hs U);refine J [17,2,311,0,148] ?_;intro b4;refine e rfl ?_;apply eG (lu w (1024*2^top) (t+s/16*8) (hf S.m u 256) [u] (cL b4) 1 U cF jn U (by intro x D;simp only[UB,Uy,or_false]at D;subst D;omega)) ⟨_,bl.rd (ad:=some ⟨b4,0,none⟩)⟩;apply J [78,3,39,0];apply ao (lR af cJ bd w E);apply J [78,195];apply ao (s4 u s hs U);refine J [78,195,293] ?_;intro N;refine e rfl ?_;apply eG (lu w (1024*2^top) (u+s %16*16) (du (hf S.m u 256) (t+s/16*8) [u]) [a,b] (cL N) 2 U cF jn U (by intro x D;simp only[UB,Uy,or_false]at D;rcases D with rfl|rfl<;>assumption)) ⟨_,bl.rd (ad:=some ⟨N,0,none⟩)⟩;apply J [72,30];exact bn (some y,0) (by subst V;exact⟨rfl,a2,cE⟩) (by subst V;exact(eU (ay (dR.mk cJ bd w E:dR af) (au _) ai)))
theorem HB(aU af top:Nat)(d:Int)(t:Nat)(S:cQ)(l:Nat)(P:l+256<=1024*2^top)(Q:l %8=0)(H:top<=7)(em:Bool)(he:em=true↔∀i,i<16->cS S.m (l+i*16)=0):br 288 [ae aU,aa l] be [aj aU 163 [ae af,aa d,aa t],e7 af top S] (.bool em) [aj aU 163 [ae af,aa d,aa t],e7 af top S]:=by
 apply aH Tryz.func288 Tryz.ntmps288;intro F _;apply J [12];have W:2^top<=128:=Uu (n:=2) am H;apply J [67,129,227];refine UZ (ι:=Nat) (λi=>i<=16/\∀j,j<i->cS S.m (l+j*16)=0) (λi=>[(0,ae aU),(1,aa l),(6,aa ((i:Nat):Int))]) (λi=>ah [aj aU 163 [ae af,aa d,aa t],e7 af top S,F]) (λi=>16-i) 0 ⟨by omega,λj h=>by omega⟩ bu (aq (aq (aq (a6 _)))) ?_;rintro i ⟨E,u⟩ Z;dsimp only[ct]at E u⊢;apply J [40];apply Ur rfl<;>intro V;have N:i<16:=U
 have C:i %16=i:=U
 apply J [62,142,34,28];apply ao (s4 l i U U);apply J [8];rw[C];refine e rfl ?_;apply ao (xJ aU af top d t S (l+i*16) U U);apply J [8,284];apply Ur rfl<;>intro w;have hv:em=false:=cr;rw[hv];apply J [67,163];exact dp;have w:cS S.m (l+i*16)=0:=U
 refine J [111] ?_;exact⟨rfl,(i+1),⟨by omega,λj O=>by by_cases D:j=i;subst D;exact w;exact u j U⟩,U,⟨rfl,rfl,rfl,trivial⟩,ai⟩;obtain rfl:i=16:=by omega
 rw[he.2 u];apply J [22,24,65];exact dp
theorem Su(aU af top:Nat)(d:Int)(t:Nat)(S:cQ)(u:dg top S)(D:gm top S t)(s:Nat)(hs:s<256)(W:bm S.m t (s/16)≠0)(a2:ec S.m t s≠0)(aQ:∃i,i<16/\i≠s %16/\cS S.m (bm S.m t (s/16)+i*16)≠0):br 226 [ae aU,aa s] c8 [aj aU 163 [ae af,aa d,aa t],e7 af top S] (aa 0) [aj aU 163 [ae af,aa d,aa t],e7 af top ⟨S.Q,S.bx,S.C,S.Fr,(du S.m (bm S.m t (s/16)+s %16*16) [0,0])⟩]:=by
 apply aH Tryz.func226 Tryz.ntmps226;intro F Z;apply J [12];haveI:cw F:=⟨Z⟩;have aC:=D.bd u;have E:=u.fW;have a3:2^top<=128:=Uu (n:=2) am E.2;have ax:s/16<16:=U
 have an:=D.rv u ax W;have ar:cS S.m (t+s/16*8)<1073741824:=by grind[bm]
 have ag:∀aX,dg top ⟨S.Q,S.bx,S.C,S.Fr,aX⟩:=by grind[dg]
 apply J [38,32];apply ao (rN aU af top d t S u D s hs);apply J [8,278,141,76,106,189,170];apply ao (uS s hs);apply J [8,265,29,199];refine Ur rfl (λO=>absurd O U) (λO=>?_);apply J [23,32];apply ao (s3 aU af top d t S s hs ⟨aC.2.2,by omega,E.2⟩ ar);apply J [8];rw[show cS S.m (t+s/16*8)=bm S.m t (s/16)from rfl];refine aO.open 1 rfl (λa0 aK=>?_);obtain⟨cJ,bd,w,N⟩:=a0;have u:=aK;apply J [17];dsimp only at u⊢;apply J [27,39,0];apply ao (lR af cJ bd w N);apply J [17,195];apply ao (s4 (bm S.m t (s/16)) s hs U);refine J [17,0,293] ?_;intro H;refine e rfl ?_;apply eG (lu w (1024*2^top) (bm S.m t (s/16)+s %16*16) S.m [0,0] (cL H) 2 U cF jn U (by intro x V;simp only[UB,Uy,or_false]at V;rcases V with rfl|rfl<;>decide)) ⟨_,bl.rd (ad:=some ⟨H,0,none⟩)⟩;apply J [78,25,34];refine aO.bf (B:=ah [aj aU 163 [ae af,aa d,aa t],e7 af top ⟨S.Q,S.bx,S.C,S.Fr,(du S.m (bm S.m t (s/16)+s %16*16) [0,0])⟩,F]) (bN 6 rfl (ay (dR.mk cJ bd w N:dR af) (ag _) ai)) ?_;have hw:∀i,i<16->i≠s %16->cS (du S.m (bm S.m t (s/16)+s %16*16) [0,0]) (bm S.m t (s/16)+i*16)=cS S.m (bm S.m t (s/16)+i*16):=by grind[mr]
 have a4:cS (du S.m (bm S.m t (s/16)+s %16*16) [0,0]) (bm S.m t (s/16)+s %16*16)=0:=by grind[uY]
 have he:false=true↔∀i,i<16->cS (du S.m (bm S.m t (s/16)+s %16*16) [0,0]) (bm S.m t (s/16)+i*16)=0:=⟨λh=>(by cases h),λh=>by obtain⟨i,P,au,bK⟩:=aQ;exact absurd (by rw[<-hw i P au];exact h i P) bK⟩;refine e rfl ?_;apply ao (HB aU af top d t ⟨S.Q,S.bx,S.C,S.Fr,(du S.m (bm S.m t (s/16)+s %16*16) [0,0])⟩ (bm S.m t (s/16)) an.2.2 U E.2 false he);apply J [8,100,207];exact dp
theorem St(aU af top:Nat)(d:Int)(t:Nat)(S:cQ)(w:dg top S)(H:gm top S t)(s:Nat)(hs:s<256)(ar:bm S.m t (s/16)≠0)(be:ec S.m t s≠0)(k aD i0:Nat)(f:Nat->Bool)(aQ:(S.C 7)[k]? =some ⟨aD,f⟩)(aK:f i0=true)(aX:bm S.m t (s/16)=aD*1024+64+i0*256)(a8:∀i,i<16->i≠s %16->cS S.m (bm S.m t (s/16)+i*16)=0)(a4:(aC.ek S.Q d (cc 7:Int)).2=0):bI 226 [ae aU,aa s] c8 [aj aU 163 [ae af,aa d,aa t],e7 af top S] (λ_:List cf=>aa 0) (λL'=>jN top S 7 aD i0 L') (λL'=>[aj aU 163 [ae af,aa d,aa t],e7 af top ⟨(aC.ek S.Q d (cc 7:Int)).1,S.bx,dF S.C 7 L',S.Fr,(du (du S.m (bm S.m t (s/16)+s %16*16) [0,0]) (t+s/16*8) [0])⟩]):=by
 apply aH Tryz.func226 Tryz.ntmps226;intro F au;apply J [12];haveI:cw F:=⟨au⟩;have a5:=H.bd w;have N:=w.fW;have bh:2^top<=128:=Uu (n:=2) am N.2;have a3:s/16<16:=U
 have a0:=H.rv w a3 ar;have a2:cS S.m (t+s/16*8)<1073741824:=by grind[bm]
 have Z:∀a9,dg top ⟨S.Q,S.bx,S.C,S.Fr,a9⟩:=by grind[dg]
 apply J [38,32];apply ao (rN aU af top d t S w H s hs);apply J [8,278,141,76,106,189,170];apply ao (uS s hs);apply J [8,265,29,199];refine Ur rfl (λag=>absurd ag U) (λag=>?_);apply J [23,32];apply ao (s3 aU af top d t S s hs ⟨a5.2.2,by omega,N.2⟩ a2);apply J [8];rw[show cS S.m (t+s/16*8)=bm S.m t (s/16)from rfl];refine aO.open 1 rfl (λP O=>?_);obtain⟨cJ,bd,u,D⟩:=P;have w:=O;apply J [17];dsimp only at w⊢;apply J [27,39,0];apply ao (lR af cJ bd u D);apply J [17,195];apply ao (s4 (bm S.m t (s/16)) s hs U);refine J [17,0,293] ?_;intro V;refine e rfl ?_;apply eG (lu u (1024*2^top) (bm S.m t (s/16)+s %16*16) S.m [0,0] (cL V) 2 U cF jn U (by intro x E;simp only[UB,Uy,or_false]at E;rcases E with rfl|rfl<;>decide)) ⟨_,bl.rd (ad:=some ⟨V,0,none⟩)⟩;apply J [78,25,34];refine aO.bf (B:=ah [aj aU 163 [ae af,aa d,aa t],e7 af top ⟨S.Q,S.bx,S.C,S.Fr,(du S.m (bm S.m t (s/16)+s %16*16) [0,0])⟩,F]) (bN 6 rfl (ay (dR.mk cJ bd u D:dR af) (Z _) ai)) ?_;have hw:∀i,i<16->i≠s %16->cS (du S.m (bm S.m t (s/16)+s %16*16) [0,0]) (bm S.m t (s/16)+i*16)=cS S.m (bm S.m t (s/16)+i*16):=by grind[mr]
 have a7:cS (du S.m (bm S.m t (s/16)+s %16*16) [0,0]) (bm S.m t (s/16)+s %16*16)=0:=by grind[uY]
 have he:true=true↔∀i,i<16->cS (du S.m (bm S.m t (s/16)+s %16*16) [0,0]) (bm S.m t (s/16)+i*16)=0:=⟨λ_ i an=>by by_cases e:i=s %16;rw[e];exact a7;rw[hw i an e];exact a8 i an e,λ_=>rfl⟩;refine e rfl ?_;apply ao (HB aU af top d t ⟨S.Q,S.bx,S.C,S.Fr,(du S.m (bm S.m t (s/16)+s %16*16) [0,0])⟩ (bm S.m t (s/16)) a0.2.2 U N.2 true he);apply J [8,122];refine ab.open 1 rfl (λP O=>?_);obtain⟨cJ,bd,u,D⟩:=P;have ax:=O;apply J [243];dsimp only at ax⊢;apply J [39,0];apply ao (lR af cJ bd u D);apply J [17,157,28];apply ao (BB aU af d t s hs U);refine J [17,0,148] ?_;intro W;refine e rfl ?_;apply eG (lu u (1024*2^top) (t+s/16*8) (du S.m (bm S.m t (s/16)+s %16*16) [0,0]) [0] (cL W) 1 U cF jn U (by intro x E;simp only[UB,Uy,or_false]at E;subst E;decide)) ⟨_,bl.rd (ad:=some ⟨W,0,none⟩)⟩;apply J [78,3];refine VM (B:=ah [aj aU 163 [ae af,aa d,aa t],e7 af top ⟨S.Q,S.bx,S.C,S.Fr,(du (du S.m (bm S.m t (s/16)+s %16*16) [0,0]) (t+s/16*8) [0])⟩,F]) (bp (ay (dR.mk cJ bd u D:dR af) (Z _) ai)) ?_;refine cx [0,1,2,3,4,5,6,7,8,-9] (aq (a6 _)) ?_;apply J [51,136,14];have bb:cc 7=256:=rfl;refine dA rfl rfl ?_;refine aL (uv af top ⟨S.Q,S.bx,S.C,S.Fr,(du (du S.m (bm S.m t (s/16)+s %16*16) [0,0]) (t+s/16*8) [0])⟩ 7 fF k aD i0 f aQ aK d a4) (congrArg (λz:Nat=>[Xr (some ⟨af,0,none⟩),.int .i64 d,.int .i64 7,.int .i64 ((z:Nat):Int)]) aX) eB.p cw.aW ?_;intro L' cE;refine J [260,108,207] ?_;exact bn L' cE.rG ai
end Go.Proofs.YtglgidjhoncphaaGreatDoor
namespace Go.Proofs.YtglgidjhoncphaaGreatDoor.an
open Go Go.QM
structure e9 where
  k:Int
  a:Int
  f:Int
def e9.l(o:e9):List Int:=[o.k,o.a,o.f]
structure bX where
  o:e9
  st:Int
  c0:Int
def oc:bX:=⟨⟨0,0,0⟩,0,0⟩
def xd(p:bX):List Value:=ints p.o.l++[.int .i64 p.st,.int .u32 p.c0]
theorem kz(p:bX):(xd p).length=5:=rfl
def gk(l:List bX):List Value:=l.flatMap xd
theorem Ht(l:List bX):(gk l).length=l.length*5:=kp kz l
theorem Sn{l:List bX}{i:Nat}{p:bX}(h:l[i]? =some p):0<(gk l).length:=by grind[Ht]
structure dN(l:List bX):Prop where
  n:l.length=256
  c0:∀p∈l,0<=p.c0/\p.c0<=1048575
theorem dN.at{l:List bX}(h:dN l){i:Nat}(u:i<256):∃p,l[i]? =some p/\0<=p.c0/\p.c0<=1048575:=by
 have d:i<l.length:=by rw[h.n];exact u
 exact⟨l[i],Uo d,h.c0 _ (List.getElem_mem d)⟩
theorem pC:bI 126 [] be [] (λb:Nat=>ae b) (λ_=>True) (λb=>[aT 264 5 (cL b) 256 256 (gk (UK 256 oc))]):=by apply aH Tryz.func126 Tryz.ntmps126;intro F _;apply J [9,340,59];refine q rfl rfl (eh (cs:=gk (UK 256 oc)) aR) ?_;refine e rfl ?_;refine eV (v:=.agg (UJ (gk (UK 256 oc)))) (l:=gk (UK 256 oc)) rfl aR ?_;intro ba;apply J [109];exact bn ba trivial (eM 0 rfl (RX aR am) (aq (a6 _)))
theorem wT(b:Nat)(l:List bX)(i:Nat)(p:bX)(u:l[i]? =some p)(C:i<256)(w:0<=p.c0/\p.c0<=16777215):br 151 [ae b,aa i] (λF=>∃E,cM F E (cL b) (gk l)) [] (aS (p.c0*256+i)) []:=by apply aH Tryz.func151 Tryz.ntmps151;intro F ⟨E,d⟩;apply J [9];haveI:bl F (cL b) E (gk l):=⟨d⟩;refine J [102,34,481,415,592] ?_;refine q rfl rfl (nT 4 rfl rfl) ?_;refine q rfl rfl (dv rfl rfl (m8 kz u 4 U rfl)) ?_;refine q rfl rfl (Bg rfl rfl U (RI U U)) ?_;refine J [2,416] ?_;refine q rfl rfl (AO rfl rfl (P8 U U U U)) ?_;apply J [30];exact jY
theorem Qu(p:bX):br 184 [.agg (xd p).toArray] be [] (.bool (decide (p.st=0))) []:=by apply aH Tryz.func184 Tryz.ntmps184;intro F _;refine J [197,531] ?_;intro bw;apply J [47,24,220,262,65];exact fa (bW (a6 _))
end Go.Proofs.YtglgidjhoncphaaGreatDoor.an
namespace Go.Proofs.YtglgidjhoncphaaGreatDoor.an
open Go Go.QM
theorem Nt(ad:Option Addr)(cap:Nat)(l:List bX)(gS:FuncId)(lb:List Value)(pr:bX->Bool)(D:ax->Prop)(W:l.length<=100000000)(O:∀t,br gS ([.agg (xd t).toArray]++lb) D [] (.bool (pr t)) []):fw U3 183 [.slice ad l.length cap,.func (.func gS) #[] lb.toArray] (λF=>(∃E,cM F E ad (gk l))/\D (ah [F])) [] (λ_:Unit=>aa (match l.findIdx? pr with|some i=>(i:Int)|none=>-1)) (λ_=>True) (λ_=>[]):=by
 apply aH Tryz.func183 Tryz.ntmps183;intro F ⟨⟨E,H⟩,N⟩;apply J [9];haveI:bl F ad E (gk l):=⟨H⟩;apply J [38,35];refine q rfl rfl (len 210 5 rfl rfl) ?_;refine J [113,593] ?_;rintro k ⟨hinv,eJ⟩ Z;dsimp only[ct]at hinv eJ⊢;apply J [40];apply Ur rfl<;>intro C;have C:k<l.length:=U
 obtain⟨t,w⟩:∃t,l[k]? =some t:=⟨l[k],Uo C⟩;have V:=Sn w;apply J [62,142,24,321,86,2];refine q rfl rfl (gD 210 5 rfl rfl rfl U dW) ?_;refine q rfl rfl (gK (vs:=[_,_,_,_,_]) 5 rfl rfl (m7 kz w) rfl am) ?_;refine e rfl ?_;refine kR (O t) rfl rfl (eA _) N ?_;intro _ _;apply J [151,3];cases Q:pr t with|true=>?_|false=>?_
 apply J [15,142,163];have d:l.findIdx? pr=some k:=by grind[vW]
 exact Xq () [_] ⟨rfl,trivial⟩ (by rw[d];rfl) trivial ai;refine J [74,111] ?_;exact⟨rfl,(k+1),⟨by omega,λj u P hu=>by rcases Nat.lt_succ_iff_lt_or_eq.1 P with h|h;exact eJ j u h hu;subst h;rw[w]at hu;cases hu;exact Q⟩,U,bu,(aq (a6 _))⟩;obtain rfl:k=l.length:=by omega
 have d:l.findIdx? pr=none:=by grind[zc]
 apply J [22,207];exact Xq () [_] ⟨rfl,trivial⟩ (by rw[d];rfl) trivial (aq (a6 _))
def ei(l:List bX)(h st:Int):Option (Nat×bX):=match l[(h %256).toNat]? with
  | some p=>if p.c0*256+h %256=h/\p.st=st then some ((h %256).toNat,p)else none
  | none=>none
theorem nX{l:List bX}{h st:Int}{i:Nat}{p:bX}(d:0<=h)(e:ei l h st=some (i,p)):l[i]? =some p/\h=p.c0*256+i/\i<256/\p.st=st:=by grind[ei]
theorem O5{l:List bX}{h st:Int}{p:bX}(e:ei l h st=none)(d:l[(h %256).toNat]? =some p):¬(p.c0*256+h %256=h/\p.st=st):=by grind[ei]
theorem yr(b:Nat)(l:List bX)(i:Nat)(p:bX)(h st:Int)(N:dN l)(w:0<=h)(D:ei l h st=some (i,p)):br 113 [ae b,aS h,aa st] (λF=>∃E,cM F E (cL b) (gk l)) [] (.tuple #[fU (cL b) (i*5),aa 0]) []:=by apply aH Tryz.func113 Tryz.ntmps113;intro F ⟨E,C⟩;apply J [9];haveI:bl F (cL b) E (gk l):=⟨C⟩;obtain⟨d,rfl,H,rfl⟩:=nX w D;have O:=N.c0 p (Us d);apply J [340,31,41,29];refine q rfl rfl (vt rfl rfl (CC U U)) ?_;refine J [435,31,7] ?_;rw[show(p.c0*256+(i:Int)) %256=(i:Int)from by omega];apply J [175];apply eG (wT b l i p d H U) ⟨_,bl.rd⟩;apply J [151,2,161,18];refine UG 19 rfl (c:=false) (c4 U) ?_;apply J [299,16];refine c5 rfl rfl rfl (uj rfl) ?_;refine c5 rfl rfl rfl (nT 0 rfl rfl) ?_;refine J [594] ?_;refine c5 rfl rfl rfl (nT 3 rfl rfl) ?_;refine c5 rfl rfl rfl (dv rfl rfl (m8 kz d 3 U rfl)) ?_;apply J [341,103];refine Ur rfl (λu=>absurd u U) (λu=>?_);refine J [4,34,481,415,592,159,30] ?_;exact Xq () [_,_] ⟨rfl,rfl,trivial⟩ (congrArg (λo=>Value.tuple #[fU (some ⟨b,0,none⟩) o,.int .i64 0]) U) trivial (aq (a6 _))
theorem yq(b:Nat)(l:List bX)(h st:Int)(N:dN l)(O:0<=h/\h<=4294967295)(H:ei l h st=none):br 113 [ae b,aS h,aa st] (λF=>∃E,cM F E (cL b) (gk l)) [] (.tuple #[.pointer none,aa 8]) []:=by
 apply aH Tryz.func113 Tryz.ntmps113;intro F ⟨E,D⟩;apply J [9];haveI:bl F (cL b) E (gk l):=⟨D⟩;obtain⟨i,w⟩:∃i:Nat,h %256=i:=⟨(h %256).toNat,by omega⟩;have C:i<256:=U
 obtain⟨p,d,P⟩:=N.at C;have eJ:=O5 H (show l[(h %256).toNat]? =some p from by rw[w];exact d);apply J [340,31,41,29];refine q rfl rfl (vt rfl rfl (CC U U)) ?_;refine J [435,31,7] ?_;rw[w];apply J [175];apply eG (wT b l i p d C U) ⟨_,bl.rd⟩;apply J [151,2,161,18];refine aO.split 19 rfl (λau=>?_) (λau=>?_);have au:=ds au;apply J [48,214,104,340,127];exact hJ (aq (a6 _));have au:=dV au;apply J [299,16];refine c5 rfl rfl rfl (uj rfl) ?_;refine c5 rfl rfl rfl (nT 0 rfl rfl) ?_;refine J [594] ?_;refine c5 rfl rfl rfl (nT 3 rfl rfl) ?_;refine c5 rfl rfl rfl (dv rfl rfl (m8 kz d 3 U rfl)) ?_;apply J [341,103];refine Ur rfl (λu=>?_) (λu=>absurd U u);apply J [340,127];exact hJ (aq (a6 _))
def mv:e9:=⟨0,0,0⟩
def cP(l:List bX)(h:Int):e9×Int:=match ei l h 1 with
  | some (_,p)=>(p.o,0)
  | none=>(mv,8)
theorem D4(b:Nat)(l:List bX)(h:Int)(H:dN l)(d:0<=h/\h<=4294967295):br 63 [ae b,aS h] (λF=>∃E,cM F E (cL b) (gk l)) [] (.tuple #[.agg (ints (cP l h).1.l).toArray,aa (cP l h).2]) []:=by
 apply aH Tryz.func63 Tryz.ntmps63;intro F ⟨E,N⟩;apply J [9];haveI:bl F (cL b) E (gk l):=⟨N⟩;refine J [26,374] ?_;intro ba;apply J [27,34];cases w:ei l h 1 with|none=>?_|some t=>?_
 have u:cP l h=(mv,8):=by grind[cP]
 refine e rfl ?_;apply eG (yq b l h 1 H d w) ⟨_,bl.rd⟩;apply J [6,112,33];refine Ur rfl (λC=>?_) (λC=>absurd am C);apply J [24];refine q rfl rfl (eh (cs:=ints [_,_,_]) rfl) ?_;apply J [2,20,302,127];exact Xq () [_,_] ⟨(e3 (n:=3) rfl rfl rfl rfl),rfl,trivial⟩ (by rw[u];rfl) trivial (bW (a6 _));obtain⟨i,p⟩:=t;obtain⟨O,P,Q,V⟩:=nX d.1 w;have u:cP l h=(p.o,0):=by grind[cP]
 refine e rfl ?_;apply eG (yr b l i p h 1 H d.1 w) ⟨_,bl.rd⟩;apply J [6,112,33];refine Ur rfl (λD=>absurd D am) (λD=>?_);apply J [4,37,394,415];refine q rfl rfl (gK (vs:=ints [_,_,_]) 3 rfl rfl (kW kz O 0 3 U U rfl) rfl am) ?_;apply J [20,302,30];exact Xq () [_,_] ⟨(e3 (n:=3) rfl rfl rfl rfl),rfl,trivial⟩ (by rw[u];rfl) trivial (bW (a6 _))
end Go.Proofs.YtglgidjhoncphaaGreatDoor.an
namespace Go.Proofs.YtglgidjhoncphaaGreatDoor.an
open Go Go.QM
def isEmpty(p:bX):Bool:=decide (p.st=0)
def lS (l:List bX) (o:e9):List bX×Int×Int:=match l.findIdx? isEmpty with
  | some i=>match l[i]? with
    | some p=>(l.set i ⟨o,1,p.c0⟩,p.c0*256+i,0)
    | none=>(l,0,11)
  | none=>(l,0,11)
theorem DZ{l:List bX}{i:Nat}(h:l.findIdx? isEmpty=some i):∃p,l[i]? =some p/\p.st=0:=by grind[List.findIdx?_eq_some_iff_getElem,isEmpty]
theorem dN.set{l:List bX}(h:dN l)(i:Nat){p:bX}(u:0<=p.c0/\p.c0<=1048575):dN (l.set i p) where
 n:=by simp[h.n]
 c0:=λq d=>by rcases List.mem_or_eq_of_mem_set d with d|rfl;exact h.c0 q d;exact u
theorem xu{l:List bX}{i:Nat}{p q:bX}(h:l[i]? =some p):(l.set i q)[i]? =some q:=List.getElem?_set_self (Uz.1 h).1
theorem dN.lt{l:List bX}(h:dN l){i:Nat}{p:bX}(d:l[i]? =some p):i<256:=by rw[<-h.n];exact(Uz.1 d).1
theorem n1(b:Nat)(l:List bX)(o:e9)(w:dN l):br 129 [ae b,.agg (ints o.l).toArray] be [aT 264 5 (cL b) 256 256 (gk l)] (.tuple #[aS (lS l o).2.1,aa (lS l o).2.2]) [aT 264 5 (cL b) 256 256 (gk (lS l o).1)]:=by
 apply aH Tryz.func129 Tryz.ntmps129;intro F _;apply J [1];have O:=w.n;refine J [26,579] ?_;intro ba;apply J [219,41,37,481,415];refine q rfl rfl (xv 256 210 5 rfl rfl kx) ?_;refine e rfl ?_;refine aL (Nt (cL b) 256 l 184 [] isEmpty be U (λt=>Qu t)) (by rw[O];rfl) (eA _) ⟨⟨_,bl.rd⟩,trivial⟩ ?_;intro _ _;apply J [8];cases E:l.findIdx? isEmpty with|none=>?_|some i=>?_
 have u:lS l o=(l,0,11):=by grind[lS]
 rw[u];dsimp only;apply J [31,353,3];refine Ur rfl (λC=>?_) (λC=>absurd am C);apply J [134,83];exact hJ (bW (bW (a6 _)));obtain⟨p,d,V⟩:=DZ E;have P:=w.lt d;have Q:=w.c0 p (Us d);have u:lS l o=(l.set i ⟨o,1,p.c0⟩,p.c0*256+i,0):=by grind[lS]
 rw[u];dsimp only;have H:=xu (q:=⟨o,p.st,p.c0⟩) d;have N:=xu (q:=⟨o,1,p.c0⟩) d;apply J [31,353,3];refine Ur rfl (λD=>absurd D U) (λD=>?_);apply J [42];refine cx [0,1,2,3,4,5,6,7,8,10,11,-9,12,13,-14] (aq (bW (a6 _))) ?_;apply J [77,14,77,14,580];refine bU rfl rfl rfl (uj rfl) ?_;refine J [534,595,534] ?_;refine bU rfl rfl rfl (uj rfl) ?_;apply J [534,257];refine ef (v:=.agg (UJ (ints [_,_,_]))) (vs:=ints [_,_,_]) 3 rfl rfl rfl rfl rfl rfl am Ah (sr (a':=⟨o,p.st,p.c0⟩) kz d 0 U (UC rfl) rfl) ?_;refine J [5,595] ?_;refine bU rfl rfl rfl (nT 3 rfl rfl) ?_;refine Dj rfl ?_;refine ef (v:=.int _ _) (vs:=[_]) 1 rfl rfl rfl rfl rfl rfl am Ft (sr (a':=⟨o,1,p.c0⟩) kz H 3 U (UC rfl) rfl) ?_;refine J [108,32] ?_;refine aL (wT b (l.set i ⟨o,1,p.c0⟩) i ⟨o,1,p.c0⟩ N P cH) rfl (eA _) (by rw[List.set_set];exact⟨_,bl.rd⟩) ?_;intro _ _;apply J [8,71];exact hJ (ca 0 rfl (by rw[List.set_set];rfl) (bW (a6 _)))
def hP(l:List bX)(h:Int):List bX×Int:=match ei l h 1 with
  | some (i,p)=>(l.set i ⟨p.o,2,p.c0⟩,0)
  | none=>(l,8)
theorem Oy(b:Nat)(l:List bX)(h:Int)(d:dN l)(u:0<=h/\h<=4294967295):br 372 [ae b,aS h] be [aT 264 5 (cL b) 256 256 (gk l)] (aa (hP l h).2) [aT 264 5 (cL b) 256 256 (gk (hP l h).1)]:=by
 apply aH Tryz.func372 Tryz.ntmps372;intro F _;apply J [1,102,34];cases C:ei l h 1 with|none=>?_|some t=>?_
 have w:hP l h=(l,8):=by grind[hP]
 refine e rfl ?_;apply eG (yq b l h 1 d u C) ⟨_,bl.rd⟩;apply J [6];rw[w];dsimp only;apply J [112,208];refine Ur rfl (λD=>absurd D am) (λD=>?_);apply J [4,132];exact hI;obtain⟨i,p⟩:=t;obtain⟨H,O,Q,V⟩:=nX u.1 C;have w:hP l h=(l.set i ⟨p.o,2,p.c0⟩,0):=by grind[hP]
 have N:=d.c0 p (Us H);have P:=d.n;refine e rfl ?_;apply eG (yr b l i p h 1 d u.1 C) ⟨_,bl.rd⟩;apply J [6];rw[w];dsimp only;apply J [112,208];refine Ur rfl (λE=>?_) (λE=>absurd am E);apply J [36,394];refine q rfl rfl (nT 3 rfl rfl) ?_;refine ey ?_;refine ef (v:=.int _ _) (vs:=[_]) 1 rfl rfl rfl rfl rfl rfl am Ah (sr (a':=⟨p.o,2,p.c0⟩) kz H 3 U (UC rfl) rfl) ?_;apply J [3,132];exact hI
def iU(p:bX):bX:=if 1048575<p.c0+1 then⟨mv,3,1048575⟩else⟨mv,0,p.c0+1⟩
def po(l:List bX)(h:Int):List bX×e9×Int:=match ei l h 2 with
  | some (i,p)=>(l.set i (iU p),p.o,0)
  | none=>(l,mv,8)
theorem MN(b:Nat)(l:List bX)(h:Int)(u:dN l)(w:0<=h/\h<=4294967295):br 221 [ae b,aS h] be [aT 264 5 (cL b) 256 256 (gk l)] (.tuple #[.agg (ints (po l h).2.1.l).toArray,aa (po l h).2.2]) [aT 264 5 (cL b) 256 256 (gk (po l h).1)]:=by
 apply aH Tryz.func221 Tryz.ntmps221;intro F _;refine J [1,26,374] ?_;intro b4;apply J [27,34];cases E:ei l h 2 with|none=>?_|some t=>?_
 have C:po l h=(l,mv,8):=by grind[po]
 refine e rfl ?_;apply eG (yq b l h 2 u w E) ⟨_,bl.rd⟩;apply J [8];rw[C];dsimp only;apply J [112,33];refine Ur rfl (λH=>?_) (λH=>absurd am H);apply J [24];refine q rfl rfl (eh (cs:=ints [_,_,_]) rfl) ?_;apply J [2,20,302,127];exact Xq () [_,_] ⟨(e3 (n:=3) rfl rfl rfl rfl),rfl,trivial⟩ rfl trivial (bW (bW (a6 _)));obtain⟨i,p⟩:=t;obtain⟨d,W,an,ao⟩:=nX w.1 E;have C:po l h=(l.set i (iU p),p.o,0):=by grind[po]
 have Q:=u.c0 p (Us d);have ag:=u.n;refine e rfl ?_;apply eG (yr b l i p h 2 u w.1 E) ⟨_,bl.rd⟩;apply J [8];rw[C];dsimp only;apply J [112,33];refine Ur rfl (λN=>absurd N am) (λN=>?_);have O:=xu (q:=⟨mv,0,p.c0+1⟩) d;have Z:=xu (q:=⟨mv,3,1048575⟩) d;apply J [4,37,394,415];refine q rfl rfl (gK (vs:=ints [_,_,_]) 3 rfl rfl (kW kz d 0 3 U U rfl) rfl am) ?_;refine J [0,374] ?_;intro P;apply J [20,302,205,157,394];refine q rfl rfl (nT 4 rfl rfl) ?_;refine q rfl rfl (dv rfl rfl (m8 kz d 4 U rfl)) ?_;refine q rfl rfl (add rfl rfl (pX U U)) ?_;apply J [477,394,20];refine ef (v:=.agg #[_,_,_,_,_]) (vs:=[_,_,_,_,_]) 5 rfl rfl rfl rfl rfl rfl am Ah (sr (a':=⟨mv,0,p.c0+1⟩) kz d 0 U (UC rfl) rfl) ?_;apply J [25,37,394];refine q rfl rfl (nT 4 rfl rfl) ?_;refine q rfl rfl (dv rfl rfl (m8 kz O 4 U rfl)) ?_;apply J [165,3];apply Ur rfl<;>intro V;have D:iU p=⟨mv,3,1048575⟩:=by rw[iU,aw U]
 rw[D];apply J [36,477,394,20];refine ef (v:=.agg #[_,_,_,_,_]) (vs:=[_,_,_,_,_]) 5 rfl rfl rfl rfl rfl rfl am Ft (sr (a':=⟨mv,3,1048575⟩) kz O 0 U (UC rfl) rfl) ?_;apply J [59,360,20,302,30];exact Xq () [_,_] ⟨(e3 (n:=3) rfl rfl rfl rfl),rfl,trivial⟩ rfl trivial (ca 1 rfl (by rw[List.set_set];rfl) (bp (a6 _)));have D:iU p=⟨mv,0,p.c0+1⟩:=by rw[iU,al U]
 rw[D];apply J [4,24,360,20,302,30];exact Xq () [_,_] ⟨(e3 (n:=3) rfl rfl rfl rfl),rfl,trivial⟩ rfl trivial (ca 1 rfl rfl (bp (a6 _)))
end Go.Proofs.YtglgidjhoncphaaGreatDoor.an
namespace Go.Proofs.YtglgidjhoncphaaGreatDoor.an
open Go Go.QM
def mE(s:Int)(z:List (bX×Nat)):List Int:=(z.filter λt=>decide (t.1.st=s)).map λt=>t.1.c0*256+(t.2:Int)
def b6(l:List bX)(s:Int):List Int:=mE s l.zipIdx
theorem vr(s:Int)(z:List (bX×Nat))(t:bX×Nat):mE s (z++[t])=if t.1.st=s then mE s z++[t.1.c0*256+(t.2:Int)]else mE s z:=by grind[mE]
theorem T3{l:List bX}{k:Nat}{p:bX}(h:l[k]? =some p):l.zipIdx.take (k+1)=l.zipIdx.take k++[(p,k)]:=by grind[UF]
theorem Cy(s:Int)(z:List (bX×Nat)):(mE s z).length<=z.length:=by rw[mE,List.length_map];exact List.length_filter_le _ _
theorem pb(l:List bX)(s:Int):(b6 l s).length<=l.length:=by have:=Cy s l.zipIdx;rw[List.length_zipIdx]at this;exact this
theorem Cz(b:Nat)(l:List bX)(s:Int)(H:dN l):bI 106 [ae b,aa s] (λF=>∃E,cM F E (cL b) (gk l)) [] (λy:Option Addr×Nat=>.slice y.1 (b6 l s).length y.2) (λ_=>True) (λy=>[aT 33 1 y.1 (b6 l s).length y.2 (ch .u32 (b6 l s))]):=by
 apply aH Tryz.func106 Tryz.ntmps106;intro F ⟨E,P⟩;apply J [9];haveI:bl F (cL b) E (gk l):=⟨P⟩;have V:=H.n;have D:(gk l).length=1280:=by grind[Ht]
 apply J [44,59,123,106,121,37,481,415];refine q rfl rfl (gK (vs:=_) 1280 rfl rfl (by rw[List.drop_zero,<-D];exact List.take_length) D am) ?_;apply J [113];refine UZ (ι:=Nat×Option Addr×Nat) (λi=>i.1<=256) (λi=>[(0,ae b),(1,aa s),(5,.slice i.2.1 (mE s (l.zipIdx.take i.1)).length i.2.2),(13,.agg (gk l).toArray),(14,aa ((i.1:Nat):Int))]) (λi=>ah [aT 33 1 i.2.1 (mE s (l.zipIdx.take i.1)).length i.2.2 (ch .u32 (mE s (l.zipIdx.take i.1))),F]) (λi=>256-i.1) ⟨0,none,0⟩ (Uv _) bu ((dH 33 1 _).trans (ca 0 rfl kx (aq (a6 _)))) ?_;rintro⟨k,ad,cap⟩ hinv W;dsimp only[ct]at hinv⊢;apply J [40];apply Ur rfl<;>intro C;have C:k<256:=U
 obtain⟨p,w,Q⟩:=H.at C;have u:=T3 w;have hle:=Cy s (l.zipIdx.take k);rw[List.length_take]at hle;apply J [62,29];refine q rfl rfl (No 256 210 5 rfl rfl rfl rfl U U (kW kz w 0 5 U U rfl)) ?_;refine e rfl ?_;refine gv (l:=[.int _ _,.int _ _,.int _ _,.int _ _,.int _ _]) rfl rfl ?_;intro ba;apply J [73,20,314,59,270,225];apply Ur rfl<;>intro d;apply J [114,157,28];apply eG (wT b l k p w C U) ⟨_,bl.rd⟩;refine J [8,0,148] ?_;intro bw;refine e rfl ?_;refine ap 4 rfl rfl rfl rfl rfl (UC rfl) rfl rfl U gp ?_;intro N O;refine J [21,60] ?_;exact⟨rfl,⟨k+1,N,O⟩,cH,cH,⟨rfl,rfl,congrArg (λn=>U8 _ n _) (by rw[u,vr,aw d];simp),rfl,rfl,trivial⟩,(ca 0 rfl (by rw[u,vr,aw d];simp[ch]) (bp (a6 _)))⟩;refine J [111] ?_;exact⟨rfl,⟨k+1,ad,cap⟩,cH,cH,⟨rfl,rfl,congrArg (λn=>U8 _ n _) (by rw[u,vr,al d]),rfl,rfl,trivial⟩,(ca 1 rfl (by rw[u,vr,al d]) (bW (a6 _)))⟩;obtain rfl:k=256:=U
 rw[List.take_of_length_le (by rw[List.length_zipIdx];omega)];apply J [204,101];exact bn ⟨ad,cap⟩ trivial (aq (aq (a6 _)))
theorem Fe(b:Nat)(l:List bX)(u:dN l):bI 59 [ae b] (λF=>∃E,cM F E (cL b) (gk l)) [] (λy:Option Addr×Nat=>.slice y.1 (b6 l 1).length y.2) (λ_=>True) (λy=>[aT 33 1 y.1 (b6 l 1).length y.2 (ch .u32 (b6 l 1))]):=by apply aH Tryz.func59 Tryz.ntmps59;intro F d;apply J [9,44,3,69];refine aL (Cz b l 1 u) rfl (eA _) (d.imp λ_ h=>qc h) ?_;intro y _;apply J [6,101];exact bn y trivial (aq (aq (a6 _)))
theorem Q6(b:Nat)(l:List bX)(u:dN l):br 186 [ae b] (λF=>∃E,cM F E (cL b) (gk l)) [] (aa (b6 l 0).length) []:=by apply aH Tryz.func186 Tryz.ntmps186;intro F d;apply J [9,102,69];refine aL (Cz b l 0 u) rfl (eA _) (d.imp λ_ h=>qc h) ?_;intro y _;apply J [6,251,30];exact fa (bW (a6 _))
end Go.Proofs.YtglgidjhoncphaaGreatDoor.an
namespace Go.Proofs.YtglgidjhoncphaaGreatDoor.hh
open Go Go.QM
def Bx(t:Int×Int):List Value:=[.int .i64 t.1,.int .i64 t.2]
def s0(l:List (Int×Int)):List Value:=l.flatMap Bx
def eI(b:Nat)(p n:Int)(l:List (Int×Int)):ax:=fj λx:Option Addr×Nat=>pure' True (ah [aj b 255 [.int .i64 p,.int .i64 n,.slice x.1 l.length x.2],aT 253 2 x.1 l.length x.2 (s0 l)])
theorem pC(p:Int)(u:1<=p)(w:p<=16):bI 127 [aa p] be [] (λb:Nat=>ae b) (λ_=>True) (λb=>[eI b p 0 []]):=by apply aH Tryz.func127 Tryz.ntmps127;intro F _;refine J [9,131,176,392,169,103] ?_;refine Ur rfl (λd=>absurd d U) (λd=>?_);apply J [4,29,535,0];refine eV (v:=.agg #[_,_,_]) (l:=[.int _ _,.int _ _,.slice _ _ _]) rfl rfl ?_;intro ba;apply J [109];exact bn ba trivial ((dH 253 2 _).trans (ay ⟨none,0⟩ trivial (bW (aq (aq (a6 _))))))
theorem sM(p:Int)(h:p<1\/16<p):br 127 [aa p] be [] (.pointer none) []:=by apply aH Tryz.func127 Tryz.ntmps127;intro F _;apply J [9,131,176];refine aO.split 5 rfl (λd=>?_) (λd=>?_);have d:=ds d;apply J [49,104,177];exact dp;have d:=dV d;apply J [169,103];refine Ur rfl (λu=>?_) (λu=>absurd U u);apply J [177];exact dp
theorem vo(b:Nat)(p n:Int)(l:List (Int×Int))(ad:Option Addr)(cap:Nat)(xs:List Int)(P:1<=p/\p<=16)(au:0<=n/\n<=1000000000)(O:l.length<=1000000)(Q:xs.length<=1000000):br 373 [ae b,.slice ad xs.length cap] (λF=>∃E,cM F E ad (ints xs)) [eI b p n l] (aa ((l.length+xs.length:Nat):Int)) [eI b p n (l++xs.map (λx=>(x,n+p)))]:=by
 apply aH Tryz.func373 Tryz.ntmps373;intro F ⟨E,H⟩;apply J [1];haveI:bl F ad E (ints xs):=⟨H⟩;apply ab.open 0 rfl;rintro⟨C,D⟩-;apply J [12,38,106,121,35,174];refine UZ (ι:=Nat×Option Addr×Nat) (λi=>i.1<=xs.length) (λi=>[(0,ae b),(9,.slice ad xs.length cap),(10,aa xs.length),(11,aa i.1)]) (λi=>ah [aj b 255 [aa p,aa n,.slice i.2.1 (l.length+i.1) i.2.2],aT 253 2 i.2.1 (l.length+i.1) i.2.2 (s0 (l++(xs.take i.1).map (λx=>(x,n+p)))),F]) (λi=>xs.length-i.1) ⟨0,C,D⟩ (Uv _) bu (aq (ca 0 rfl cF (aq (a6 _)))) ?_;rintro⟨k,d,u⟩ hinv V;dsimp only[ct]at hinv⊢;apply J [40];apply Ur rfl<;>intro w;have w:k<xs.length:=U
 obtain⟨x,qu⟩:∃x,xs[k]? =some x:=⟨xs[k],Uo w⟩;have N:0<(ints xs).length:=by grind[eb]
 refine J [187,522,27] ?_;refine ab.draw _ [20] [0,1,2,3,4,5,6,7,8,9,10,11,12,13,14,15,-16,-17,18,19,-20] aR aR (aq (a6 _)) ?_;refine J [77,185,14,136,51,391,444,11,293] ?_;intro bw;refine J [43] ?_;refine ap 16 rfl rfl rfl rfl rfl (UC rfl) rfl rfl U gp ?_;intro d u;refine J [5,88,370,91,373,306,346] ?_;exact⟨rfl,⟨k+1,d,u⟩,cH,cH,bu,(aq (ca 0 rfl (by simp[s0,Bx,UF,qu,Nat.add_assoc]) (bW (a6 _))))⟩;obtain rfl:k=xs.length:=by omega
 apply J [22,99];refine q rfl rfl (len 253 2 rfl rfl) ?_;apply J [30];exact fa (ay ⟨d,u⟩ trivial (ca 0 rfl cF (ca 0 rfl cF (aq (a6 _)))))
theorem LD(d:Option Addr):bI 284 [.pointer d] be [] (λc:Nat=>.func (.func 338) #[] #[ae c]) (λ_=>True) (λc=>[aj c 133 [.pointer d]]):=by apply aH Tryz.func284 Tryz.ntmps284;intro F _;apply J [197];refine eV (v:=.pointer _) (l:=[.pointer _]) rfl rfl ?_;intro b4;apply J [149,59,417,149,233];exact bn b4 trivial (aq (aq (a6 _)))
def lC(n:Int)(l:List (Int×Int)):List (Int×Int):=l.takeWhile λt=>t.2<=n
def mT(n:Int)(l:List (Int×Int)):List (Int×Int):=l.dropWhile λt=>t.2<=n
theorem LC(c b:Nat)(p n:Int)(l:List (Int×Int))(ag:l.length<=100000000):qZ U3 338 [ae c] (λx:Int=>[aa x]) (λN _=>N.length<l.length) [aj c 133 [ae b],eI b p n l] (λ_:Unit=>(lC n l).map (·.1)) (λ_=>True) (λ_=>[aj c 133 [ae b],eI b p n (mT n l)]):=by
 refine qZ.intro aR Tryz.func338 rfl Tryz.ntmps338 kx rfl ?_;intro V bJ P;refine J [12,462] ?_;rintro⟨H,O⟩-;apply J [85,76];refine UZ (ι:=List (Int×Int)×List (Int×Int)×Option Addr×Nat) (λi=>l=i.1++i.2.1/\(∀t∈i.1,t.2<=n)) (λi=>[(0,.func (.yield V) #[] #[]),(1,ae c)]) (λi=>ah [bJ (i.1.map (·.1)),aj c 133 [ae b],aj b 255 [aa p,aa n,.slice i.2.2.1 i.2.1.length i.2.2.2],aT 253 2 i.2.2.1 i.2.1.length i.2.2.2 (s0 i.2.1)]) (λi=>i.2.1.length) ⟨[],l,H,O⟩ ⟨rfl,by simp⟩ bu (bp (bp (aq (aq (a6 _))))) ?_;rintro⟨u,d,ad,cap⟩ ⟨E,D⟩ ao;dsimp only[ct]at E D⊢;cases d with|nil=>?_|cons t d=>?_
 apply J [7,7,596,94,88,137];refine bU rfl rfl rfl (len 253 2 rfl rfl) ?_;apply J [440,152];refine b3.known 10 rfl (b':=false) (c4 cF) ?_;apply J [206,206,206,167,75,74,363];exact⟨rfl,(),trivial,(by(have w:lC n l=u:=by grind[lC,HU]);(have C:mT n l=[]:=by grind[mT,Dq]);rw[w,C];exact(aq (aq (ay ⟨ad,cap⟩ trivial (aq (aq (a6 _)))))))⟩;have an:u.length+d.length+1=l.length:=cr
 have Z:0<(s0 (t::d)).length:=by grind[s0,Bx]
 simp only[List.length_cons];apply J [7,7,596,94,88,137];refine bU rfl rfl rfl (len 253 2 rfl rfl) ?_;apply J [440,152];refine b3.known 10 rfl (b':=true) (cR U) ?_;apply J [160,304,376,160];refine eH rfl rfl rfl rfl (kv 253 2 rfl rfl rfl U U dW) ?_;refine eH rfl rfl rfl rfl (mK 1 rfl rfl dW) ?_;refine eH rfl rfl rfl rfl (dv rfl rfl rfl) ?_;apply J [160,304,474,160];refine eH rfl rfl rfl rfl (leq rfl rfl) ?_;apply J [322,75];apply Ur rfl<;>intro hle;apply J [4,76,24,82,80,54];refine q rfl rfl (kv 253 2 rfl rfl rfl U U dW) ?_;refine q rfl rfl (mK 0 rfl rfl dW) ?_;refine J [536,31,582,94,94,88,137] ?_;refine bU rfl rfl rfl (Hb 253 2 rfl rfl rfl U U) ?_;apply J [88,370,91,373,75,135,28];refine BR 1 (P (u.map (·.1)) t.1 _ rx) rfl rfl rfl ?_;rintro W bk ⟨rfl,rfl⟩;apply J [19,89,116,23];exact⟨rfl,⟨u++[t],d,_,_⟩,⟨by simp[E],by intro s Q;rcases Uq.1 Q with h|h;exact D s h;rw[List.mem_singleton.1 h];exact hle⟩,cF,bu,(ca 0 rfl cF (bW (aq (eM 0 rfl (Bj (j:=1) U) (a6 _)))))⟩;apply J [363];exact⟨rfl,(),trivial,(by have w:lC n l=u:=(by grind[lC,HV,List.takeWhile_cons_of_neg]);have C:mT n l=t::d:=(by grind[mT,Dr,List.dropWhile_cons_of_neg]);rw[w,C];exact(aq (aq (ay ⟨ad,cap⟩ trivial (aq (aq (a6 _)))))))⟩
def EM(c:Nat)(xs:List Int):ax:=fj λx:Option Addr×Nat=>pure' True (ah [aj c 90 [.slice x.1 xs.length x.2],aT 3 1 x.1 xs.length x.2 (ints xs)])
theorem Bz(b:Nat)(p n:Int)(l:List (Int×Int))(au:0<=n/\n<=1000000000)(E:l.length<=100000000):bI 220 [ae b] be [eI b p n l] (λy:Option Addr×Nat=>.slice y.1 ((lC (n+1) l).map (·.1)).length y.2) (λ_=>True) (λy=>[eI b p (n+1) (mT (n+1) l),aT 3 1 y.1 ((lC (n+1) l).map (·.1)).length y.2 (ints ((lC (n+1) l).map (·.1)))]):=by refine fw.Es (rs:=[.tmp 2]) aR Tryz.func220 rfl Tryz.ntmps220 kx rfl ?_;intro F _;refine J [1,297] ?_;rintro⟨ad,cap⟩-;apply J [12,44,3,26];refine gv (l:=[.slice _ _ _]) rfl rfl ?_;intro w;refine J [25,41,64,150,267,190,25,69] ?_;refine aL (LD _) rfl (eA _) trivial ?_;intro c2 _;apply J [10,227];refine VM (B:=ah [aj c2 133 [ae b],eI b p (n+1) l,EM w [],F]) ((dH 3 1 _).trans (bW (ay ⟨ad,cap⟩ trivial (bW (bp (ay ⟨none,0⟩ trivial (bW (aq (aq (a6 _)))))))))) ?_;refine ab.GC (λC=>[EM w C]) (LC c2 b p (n+1) l E) rfl (dY 0 rfl (dY 0 rfl (eA _))) (dY 0 rfl (eA _)) (λ_=>rfl) rfl ?_ ?_;rintro Z C x H V;apply J [1,164,27];refine⟨rfl,(U5 _),λN=>?_⟩;refine J [1,297] ?_;rintro⟨O,Q⟩-;refine J [12,76,164,82,63] ?_;intro P;refine J [0,597] ?_;intro d u;apply J [281];refine aO.nil (jF ?_);refine⟨rfl,rfl,?_⟩;change aF (ah [_,_,_,_]) (ah [_,_]);exact(ay ⟨d,u⟩ trivial (ca 0 rfl (by simp[dJ,Value.cells]) (ca 0 rfl (by simp[ints]) (bW (a6 _)))));intro D y W;refine(jF (h5 ?_));refine J [84,462] ?_;rintro⟨d,u⟩-;apply J [156,24,82,101];exact .inl ⟨⟨d,u⟩,[_],D,rfl,rfl,⟨rfl,trivial⟩,rfl,trivial,(eU (cY (bW (bp (a6 _)))))⟩
end Go.Proofs.YtglgidjhoncphaaGreatDoor.hh
namespace Go.Proofs.YtglgidjhoncphaaGreatDoor
open Go Go.QM
def bE(c:Nat):Nat:=[0,64,128,256,32,32,48,256,1024].getD c 0
def c6(S:cQ)(c a:Nat):Prop:=(c∈cls/\e4 (cc c) (S.C c) a)\/(c=8/\∃p∈S.Fr,a=p*1024)
variable{c:Nat}
theorem qy(h:c∈cls):bE c=cc c:=by rcases tC h with rfl|rfl|rfl|rfl|rfl|rfl|rfl<;>rfl
variable{top:Nat}{S:cQ}
theorem zl(u:dg top S){p:Nat}(h:p∈S.Fr):p∉cls.flatMap (hB S.C):=λd=>(US.1 u.bo).2.2 p d p h rfl
variable{a:Nat}
theorem c6.bd(u:dg top S)(h:c6 S c a):a %16=0/\a+bE c<=1024*2^top/\32<=bE c/\bE c<=1024:=by rcases h with⟨d,h⟩|⟨rfl,p,w,rfl⟩;have:=e4.bd u d h;rw[qy d];refine⟨this.1,this.2.2,?_⟩;rcases tC d with rfl|rfl|rfl|rfl|rfl|rfl|rfl<;>decide;have:=u.lt p (Uq.2 (.inr w));have e:bE 8=1024:=rfl;omega
theorem c6.apart(u:dg top S){d b:Nat}(h:c6 S c a)(k:c6 S d b)(D:c≠d\/a≠b):a+bE c<=b\/b+bE d<=a:=by have e:bE 8=1024:=rfl;rcases h with⟨w,h⟩|⟨rfl,p,E,rfl⟩<;>rcases k with⟨C,k⟩|⟨rfl,q,H,rfl⟩;rw[qy w,qy C];exact e4.apart u w C h k D;have:=e4.frame u w h (zl u H);rw[qy w];omega;have:=e4.frame u C k (zl u E);rw[qy C];omega;omega
structure fX(top:Nat)(S a8:cQ)(Y X:Nat->Nat->Prop):Prop where
  P:dg top a8
  p:∀c a,c6 S c a->¬Y c a->c6 a8 c a
  m:∀c a,c6 S c a->¬X c a->∀o,a<=o->o<a+bE c->a8.m o=S.m o
  pY:∀c a,Y c a->X c a
theorem fX.trans{T V:cQ}{Y X u d:Nat->Nat->Prop}(g:fX top S T Y X)(k:fX top T V u d):fX top S V (λc a=>Y c a\/u c a) (λc a=>X c a\/d c a):=
 ⟨k.P,λc a h au=>k.p c a (g.p c a h λh=>au (.inl h)) λh=>au (.inr h),λc a h au o w C=>(k.m c a (g.p c a h λh=>au (.inl (g.pY c a h))) (λh=>au (.inr h)) o w C).trans (g.m c a h (λh=>au (.inl h)) o w C),
  λc a h=>h.imp (g.pY c a) (k.pY c a)⟩
variable{a8:cQ}
theorem fX.w{Y X:Nat->Nat->Prop}(g:fX top S a8 Y X){o:Nat}(h:c6 S c a)(d:¬X c a)(u:a<=o)(C:o+8<=a+bE c):cS a8.m o=cS S.m o:=
 ud λi D E=>g.m c a h d i U U
def hR:Nat->Nat->Prop:=λ_ _=>False
def ft(c a:Nat):Nat->Nat->Prop:=λd b=>d=c/\b=a
theorem dg.mem(h:dg top S)(d:a8.C=S.C)(u:a8.Fr=S.Fr):dg top a8:=by obtain⟨Q,N,C,Fr,m⟩:=S;obtain⟨E,O,w,D,H⟩:=a8;dsimp only at d u;subst d;subst u;exact⟨h.fW,h.ok,h.bo,h.lt⟩
theorem oy(u:dg top S)(h:c6 S c a)(D:a8.C=S.C)(E:a8.Fr=S.Fr)(hm:∀o,o<a\/a+bE c<=o->a8.m o=S.m o):fX top S a8 hR (ft c a):=by refine⟨u.mem D E,λd b k _=>?_,λd b k au o H N=>hm o ?_,λ_ _ h=>h.elim⟩;grind[c6];have:=c6.apart u h k (by by_cases e:c=d;exact .inr λw=>au ⟨e.symm,w.symm⟩;exact .inl e);omega
theorem wa(D:dg top S)(u:a8.C=S.C)(w:a8.Fr=S.Fr)(hm:a8.m=S.m):fX top S a8 hR hR:=
 ⟨D.mem u w,λd b k _=>by rw[c6,u,w];exact k,λd b k _ o _ _=>by rw[hm],λ_ _ h=>h⟩
theorem iO.inv2{y:Nat×Nat×List cf}(g:iO top S c y)(d:a8.C=dF S.C c y.2.2)(u:a8.Fr=S.Fr):dg top a8:=by obtain⟨E,N,w,D,H⟩:=a8;dsimp only at d u;subst d;subst u;exact g.inv _ _ _
variable{i:Nat}
theorem jN.inv2{aD:Nat}{L':List cf}(g:jN top S c aD i L')(d:a8.C=dF S.C c L')(u:a8.Fr=S.Fr):dg top a8:=by obtain⟨E,N,w,D,H⟩:=a8;dsimp only at d u;subst d;subst u;exact g.inv _ _ _
theorem iO.ul{y:Nat×Nat×List cf}(u:dg top S)(w:c∈cls)(g:iO top S c y){d b:Nat}(h:c6 S d b):¬ft c (addr c y) d b:=by rintro⟨rfl,rfl⟩;rcases h with⟨_,h⟩|⟨rfl,_⟩;exact g.fresh u w h;trivial
theorem v8{y:Nat×Nat×List cf}(O:dg top S)(u:c∈cls)(g:iO top S c y)(w:a8.C=dF S.C c y.2.2)(D:a8.Fr=S.Fr)(hm:∀o,o<addr c y\/addr c y+cc c<=o->a8.m o=S.m o):fX top S a8 hR hR/\c6 a8 c (addr c y):=by have E:=g.inv2 w D;have H:∀d b,c6 S d b->c6 a8 d b:=λd b k=>(by rcases k with⟨P,k⟩|⟨rfl,p,Q,rfl⟩;exact .inl ⟨P,by rw[w];exact(g.jI u).2 (.inl k)⟩;exact .inr ⟨rfl,p,by rw[D];exact Q,rfl⟩);have au:c6 a8 c (addr c y):=.inl ⟨u,by rw[w];exact(g.jI u).2 (.inr ⟨rfl,rfl⟩)⟩;refine⟨⟨E,λd b k _=>H d b k,λd b k _ o V W=>hm o ?_,λ_ _ h=>h⟩,au⟩;have:=c6.apart E (H d b k) au (by have:=g.ul O u k;by_cases e:d=c;exact .inr λN=>this ⟨e,N⟩;exact .inl e);grind[qy]
theorem v7{aD:Nat}{L':List cf}(E:dg top S)(N:c∈cls)(g:jN top S c aD i L')(H:a=aD*1024+64+i*cc c)(u:a8.C=dF S.C c L')(w:a8.Fr=S.Fr)(hm:a8.m=S.m):fX top S a8 (ft c a) (ft c a):=by refine⟨g.inv2 u w,λd b k au=>?_,λd b k _ o _ _=>by rw[hm],λ_ _ h=>h⟩;rcases k with⟨O,k⟩|⟨rfl,p,P,rfl⟩;refine .inl ⟨O,?_⟩;rw[u];refine g.jI E N k ?_;by_cases e:d=c;exact .inr λD=>au ⟨e,by rw[H];exact D⟩;omega;exact .inr ⟨rfl,p,by rw[w];exact P,rfl⟩
theorem MP{p:Nat}(W:dg top S)(u:dg top a8)(O:a8.C=S.C)(P:a8.Fr=p::S.Fr)(hm:∀o,o<p*1024\/p*1024+1024<=o->a8.m o=S.m o):fX top S a8 hR hR/\c6 a8 8 (p*1024)/\¬c6 S 8 (p*1024):=by
 have w:∀d b,c6 S d b->c6 a8 d b:=λd b k=>(by rcases k with⟨Q,k⟩|⟨rfl,q,E,rfl⟩;exact .inl ⟨Q,by rw[O];exact k⟩;exact .inr ⟨rfl,q,by rw[P];exact List.mem_cons_of_mem _ E,rfl⟩);have au:c6 a8 8 (p*1024):=by grind[c6]
 have D:¬c6 S 8 (p*1024):=(by rintro(⟨h,_⟩|⟨_,q,E,e⟩);trivial;(obtain rfl:p=q:=by omega);have N:a8.Fr.Nodup:=(US.1 u.bo).2.1;simp_all);refine⟨⟨u,λd b k _=>w d b k,λd b k _ o N V=>hm o ?_,λ_ _ h=>h⟩,au,D⟩;have:=c6.apart u (w d b k) au (by by_cases e:d=8;subst e;exact .inr λH=>D (H▸k);exact .inl e);have e:bE 8=1024:=rfl;omega
theorem dg.H2(h:dg top S){p:Nat}(u:a8.C=S.C)(w:a8.Fr=S.Fr.erase p):dg top a8:=by
 obtain⟨Q,P,C,Fr,m⟩:=S;obtain⟨N,V,d,H,O⟩:=a8;dsimp only at u w;subst u;subst w;have D:(dk d (Fr.erase p)).Sublist (dk d Fr):=by grind[dk,List.erase_sublist]
 exact⟨h.fW,h.ok,h.bo.sublist D,λq E=>h.lt q (D.subset E)⟩
theorem MR{p:Nat}(D:dg top S)(u:a8.C=S.C)(w:a8.Fr=S.Fr.erase p)(hm:a8.m=S.m):fX top S a8 (ft 8 (p*1024)) (ft 8 (p*1024)):=by refine⟨D.H2 u w,λd b k au=>?_,λd b k _ o _ _=>by rw[hm],λ_ _ h=>h⟩;rcases k with⟨E,k⟩|⟨rfl,q,H,rfl⟩;exact .inl ⟨E,by rw[u];exact k⟩;exact .inr ⟨rfl,q,by rw[w];exact(List.mem_erase_of_ne λe=>au ⟨rfl,by rw[e]⟩).2 H,rfl⟩
theorem gm.mL{t:Nat}{Y X:Nat->Nat->Prop}(h:gm top S t)(g:fX top S a8 Y X)(N:¬X 2 t)(O:∀j,j<16->bm S.m t j≠0->¬X 7 (bm S.m t j)):
 gm top a8 t/\(∀j,j<16->bm a8.m t j=bm S.m t j)/\∀s,s<256->ec a8.m t s=ec S.m t s/\dX a8.m t s=dX S.m t s:=by have bw:c6 S 2 t:=.inl ⟨c2,h.tk⟩;have H:∀j,j<16->bm S.m t j≠0->c6 S 7 (bm S.m t j):=λj u d=>.inl ⟨fF,h.fz j u d⟩;have un:∀{c a},c∈cls->c6 a8 c a->e4 (cc c) (a8.C c) a:=λ{c a} Q k=>(by rcases k with⟨_,k⟩|⟨rfl,_⟩;all_goals trivial);refine h.nh (un c2 (g.p 2 t bw λk=>N (g.pY _ _ k))) (λj u d=>un fF (g.p 7 _ (H j u d) λk=>O j u d (g.pY _ _ k))) λo P=>?_;rcases P with⟨D,E⟩|⟨j,u,d,D,E⟩;exact g.w bw N D E;exact g.w (H j u d) (O j u d) D E
def hW:Nat->(Nat->Nat)->Nat
  | 0,_=>0
  | n+1,f=>hW n f+f n
theorem rK{f g:Nat->Nat}:∀{n:Nat},(∀i,i<n->f i=g i)->hW n f=hW n g
 | 0,_=>rfl
 | n+1,h=>by rw[hW,hW,rK (n:=n) λi d=>h i U,h n U]
theorem pN{f g:Nat->Nat}{k:Nat}:∀{n:Nat},k<n->(∀i,i<n->i≠k->g i=f i)->hW n g+f k=hW n f+g k
 | n+1,C,h=>by rw[hW,hW];by_cases e:k=n;subst e;rw[rK (n:=k) λi u=>h i U U];omega;have:=pN (n:=n) U λi u w=>h i U w;rw[h n U λd=>e d.symm];omega
theorem pO{f:Nat->Nat}:∀{n:Nat},(∀i,i<n->f i=0)->hW n f=0
 | 0,_=>rfl
 | n+1,h=>by rw[hW,pO (n:=n) λi d=>h i U,h n U]
theorem uK{f:Nat->Nat}{k:Nat}:∀{n:Nat},k<n->f k<=hW n f
 | n+1,d=>by rw[hW];by_cases e:k=n;subst e;omega;have:=uK (f:=f) (n:=n) (k:=k) U;omega
def ba(x:Nat):Nat:=if x=0 then 0 else 1
def ou(aK:Nat->Nat->Nat):Nat:=hW 256 λi=>hW 256 λs=>ba (aK i s)
theorem yV{aK m4:Nat->Nat->Nat}{s:Nat}(u:i<256)(hs:s<256)(h:∀j r,(j≠i\/r≠s)->m4 j r=aK j r):ou m4+ba (aK i s)=ou aK+ba (m4 i s):=by
 have w:ou m4+hW 256 (λs=>ba (aK i s))=ou aK+hW 256 (λs=>ba (m4 i s)):=
  pN (f:=λi=>hW 256 λs=>ba (aK i s)) (g:=λi=>hW 256 λs=>ba (m4 i s)) u λj _ d=>rK λr _=>by rw[h j r (.inl d)]
 have C:hW 256 (λs=>ba (m4 i s))+ba (aK i s)=hW 256 (λs=>ba (aK i s))+ba (m4 i s):=
  pN (f:=λs=>ba (aK i s)) (g:=λs=>ba (m4 i s)) hs λr _ d=>by rw[h i r (.inr d)]
 omega
structure bP where
  l:List an.bX
  Q:List aC.bY
  bx:Int
  aK:Nat->Nat->Nat
  own:Nat->Nat
  a1:Nat->Nat->Nat
  pd:Int
  now:Int
  q:List (Int×Int)
  np:Nat
def bt(k:Int)(a:Nat)(f:Int):an.e9:=⟨k,a,f⟩
def cB(l:List an.bX)(i:Nat)(s:Int)(o:an.e9):Prop:=∃g,l[i]? =some ⟨o,s,g⟩
def fl(s:Int):Prop:=s=1\/s=2
theorem cB.inj{l:List an.bX}{s r:Int}{o d:an.e9}(h:cB l i s o)(k:cB l i r d):s=r/\o=d:=by obtain⟨g,h⟩:=h;obtain⟨u,k⟩:=k;simp_all
variable{k:Nat}
theorem cB.set{l:List an.bX}{p:an.bX}{s:Int}{o:an.e9}(h:cB (l.set k p) i s o):(i≠k/\cB l i s o)\/(i=k/\p.st=s/\p.o=o):=by obtain⟨g,h⟩:=h;by_cases e:k=i;grind;rw[Vs e]at h;exact .inl ⟨λd=>e d.symm,g,h⟩
theorem cB.put{l:List an.bX}(p:an.bX){s:Int}{o:an.e9}(h:cB l i s o)(d:i≠k):cB (l.set k p) i s o:=by obtain⟨g,h⟩:=h;exact⟨g,by rw[Vs λe=>d e.symm];exact h⟩
theorem jr{c d:Int}{b:Nat}{f g:Int}(h:bt c a f=bt d b g):c=d/\a=b/\f=g:=by have u:=congrArg an.e9.k h;have w:=congrArg an.e9.a h;have C:=congrArg an.e9.f h;grind[bt]
structure cn(top:Nat)(A:bP)(S:cQ):Prop where
  P:dg top S
  Q:S.Q=A.Q/\S.bx=A.bx
  obj:∀i s o,fl s->cB A.l i s o->∃(c a:Nat) (f:Int),o=bt c a f/\(1<=c/\c<=5\/c=8)/\c6 S c a
  un:∀i j s r (c a:Nat) (f g:Int),fl s->fl r->cB A.l i s (bt c a f)->cB A.l j r (bt c a g)->i=j
  hH:∀i a f,cB A.l i 1 (bt 2 a f)->gm top S a/\∀s,s<256->ec S.m a s=A.aK i s/\(A.aK i s≠0->c6 S 6 (dX S.m a s))
  nq:∀i j a b f g s r,cB A.l i 1 (bt 2 a f)->cB A.l j 1 (bt 2 b g)->s<256->r<256->A.aK i s≠0->A.aK j r≠0->dX S.m a s=dX S.m b r->i=j/\s=r
  qU:∀i j a b f g u v,cB A.l i 1 (bt 2 a f)->cB A.l j 1 (bt 2 b g)->u<16->v<16->bm S.m a u≠0->bm S.m a u=bm S.m b v->i=j
  rz:gM (960/cc 6) (S.C 6)=ou A.aK
  mh:∀i s a f,fl s->cB A.l i s (bt 1 a f)->cS S.m a=A.own i
  a1:∀i (c a:Nat) f,cB A.l i 2 (bt c a f)->∀o,o<bE c->S.m (a+o)=A.a1 i o
  fV:(dk S.C S.Fr).length<=A.np
variable{A:bP}
theorem cn.leaf(h:cn top A S){f:Int}(u:cB A.l i 1 (bt 2 a f)){j:Nat}(w:j<16)(d:bm S.m a j≠0):c6 S 7 (bm S.m a j):=.inl ⟨fF,(h.hH i a f u).1.fz j w d⟩
variable{bk:bP}
theorem cn.mL{Y X:Nat->Nat->Prop}(h:cn top A S)(g:fX top S a8 Y X)(el:bk.l=A.l)(an:bk.aK=A.aK)(a0:bk.own=A.own)(a2:bk.a1=A.a1)(a3:a8.Q=bk.Q/\a8.bx=bk.bx)
 (Z:∀i s (c a:Nat) f,fl s->cB A.l i s (bt c a f)->¬Y c a/\(X c a->s=1/\c≠1/\c≠2)) (ax:∀a,¬X 6 a/\¬X 7 a) (au:gM (960/cc 6) (a8.C 6)=gM (960/cc 6) (S.C 6)) (a5:(dk a8.C a8.Fr).length<=bk.np):cn top bk a8:=by
 have O:∀i a f,cB A.l i 1 (bt 2 a f)->_:=λi a f d=>(h.hH i a f d).1.mL g (λk=>((Z i 1 2 a f (.inl rfl) d).2 k).2.2 rfl) λj _ _=>(ax _).2;refine⟨g.P,a3,λi s o D d=>?_,?_,λi a f d=>?_,λi j a b f E s r d H D aA ao ar e=>?_,λi j a b f E u v d H hu hv W e=>?_,by rw[au,h.rz,an],λi s a f D d=>?_,λi c a f d o a7=>?_,a5⟩;rw[el]at d;obtain⟨c,a,f,rfl,a4,N⟩:=h.obj i s o D d;exact⟨c,a,f,rfl,a4,g.p c a N (Z i s c a f D d).1⟩;rw[el];exact h.un;rw[el]at d;obtain⟨bO,a9,aC⟩:=O i a f d;obtain⟨_,aH⟩:=h.hH i a f d;refine⟨bO,λs D=>?_⟩;rw[(aC s D).1,(aC s D).2,an];exact⟨(aH s D).1,λW=>g.p 6 _ ((aH s D).2 W) λk=>(ax _).1 (g.pY _ _ k)⟩;rw[el]at d H;rw[an]at ao ar;rw[((O i a f d).2.2 s D).2,((O j b E H).2.2 r aA).2]at e;exact h.nq i j a b f E s r d H D aA ao ar e;rw[el]at d H;rw[(O i a f d).2.1 u hu]at W e;rw[(O j b E H).2.1 v hv]at e;exact h.qU i j a b f E u v d H hu hv W e;rw[el]at d;rw[a0];obtain⟨c,aQ,E,e,_,N⟩:=h.obj i s _ D d;obtain⟨aX,rfl,rfl⟩:=jr e;have ag:c=1:=U
 subst ag;rw[g.w N (λk=>((Z i s 1 a f D d).2 k).2.1 rfl) (Uw a) (by have:bE 1=64:=rfl;omega)];exact h.mh i s a f D d;rw[el]at d;rw[a2];obtain⟨V,aQ,E,e,_,N⟩:=h.obj i 2 _ (.inr rfl) d;obtain⟨aX,rfl,rfl⟩:=jr e;have ag:V=c:=U
 subst ag;rw[g.m V a N (λk=>absurd ((Z i 2 V a f (.inr rfl) d).2 k).1 am) _ U U];exact h.a1 i V a f d o a7
theorem cn.free(h:cn top A S){p:an.bX}(V:¬fl p.st)(el:bk.l=A.l.set k p)(E:bk.aK=A.aK)(N:bk.own=A.own)(O:bk.a1=A.a1)(eq:bk.Q=A.Q/\bk.bx=A.bx/\bk.np=A.np):cn top bk S:=by
 have back:∀{i s o},fl s->cB bk.l i s o->cB A.l i s o:=λ{i s o} w d=>(by rw[el]at d;rcases d.set with⟨_,h⟩|⟨_,h,_⟩;all_goals simp_all);have D:fl 1:=.inl rfl
 refine⟨h.P,by rw[eq.1,eq.2.1];exact h.Q,λi s o w d=>h.obj i s o w (back w d),λi j s r c a f g w H d C=>h.un i j s r c a f g w H (back w d) (back H C),λi a f d=>by rw[E];exact h.hH i a f (back D d),
  λi j a b f g s r d C=>by rw[E];exact h.nq i j a b f g s r (back D d) (back D C),λi j a b f g u v d C=>h.qU i j a b f g u v (back D d) (back D C),by rw[E];exact h.rz,λi s a f w d=>by rw[N];exact h.mh i s a f w (back w d),λi c a f d=>by rw[O];exact h.a1 i c a f (back (.inr rfl) d),by rw[eq.2.2];exact h.fV⟩
theorem cn.tH(h:cn top A S){o:an.e9}{g:Int}(a0:cB A.l k 1 o)(el:bk.l=A.l.set k ⟨o,2,g⟩)(O:bk.aK=A.aK)(Z:bk.own=A.own)(ag:bk.a1=λi=>if i=k then λx=>S.m (o.a.toNat+x)else A.a1 i)(eq:bk.Q=A.Q/\bk.bx=A.bx/\bk.np=A.np):cn top bk S:=by
 have back:∀{i s w},cB bk.l i s w->(i≠k/\cB A.l i s w)\/(i=k/\s=2/\w=o/\cB A.l i 1 w):=λ{i s w} d=>(by rw[el]at d;rcases d.set with h|⟨rfl,W,aX⟩;all_goals simp_all);have N:∀{i s w},fl s->cB bk.l i s w->∃r,fl r/\cB A.l i r w:=λ{i s w} C d=>(by rcases back d with⟨_,h⟩|⟨_,_,_,h⟩;grind;exact⟨1,.inl rfl,h⟩);have D:∀{i w},cB bk.l i 1 w->cB A.l i 1 w:=λ{i w} d=>cr
 refine⟨h.P,by rw[eq.1,eq.2.1];exact h.Q,λi s o C d=>?_,λi j s r c a f g C H d E=>?_,λi a f d=>by rw[O];exact h.hH i a f (D d),
  λi j a b f g s r d E=>by rw[O];exact h.nq i j a b f g s r (D d) (D E),λi j a b f g u v d E=>h.qU i j a b f g u v (D d) (D E),by rw[O];exact h.rz,λi s a f C d=>?_,λi c a f d w ax=>?_,by rw[eq.2.2];exact h.fV⟩
 obtain⟨r,H,V⟩:=N C d;exact h.obj i r o H V;obtain⟨aQ,aC,ao⟩:=N C d;obtain⟨aH,aA,ar⟩:=N H E;exact h.un i j aQ aH c a f g aC aA ao ar;rw[Z];obtain⟨r,H,V⟩:=N C d;exact h.mh i r a f H V;rw[ag];dsimp only;rcases back d with⟨au,W⟩|⟨rfl,_,rfl,_⟩;rw[al au];exact h.a1 i c a f W w ax;rw[aw rfl];rfl
theorem cn.put(h:cn top A S){f g:Int}(a8:∀s o,cB A.l k s o->¬fl s)(a5:1<=c/\c<=5\/c=8)(aX:c6 S c a)(a7:∀i s (g:Int),fl s->¬cB A.l i s (bt c a g))(el:bk.l=A.l.set k ⟨bt c a f,1,g⟩)(ar:bk.aK=A.aK)(aH:∀i,i≠k->bk.own i=A.own i)(a4:c=1->cS S.m a=bk.own k)(aQ:bk.a1=A.a1)(eq:bk.Q=A.Q/\bk.bx=A.bx/\bk.np=A.np)
 (ax:c=2->(∀o,a<=o->o+8<=a+128->cS S.m o=0)/\∀s,A.aK k s=0):cn top bk S:=by
 have back:∀{i s V},cB bk.l i s V->(i≠k/\cB A.l i s V)\/(i=k/\s=1/\V=bt c a f):=λ{i s V} w=>(by rw[el]at w;rcases w.set with h|⟨rfl,N,an⟩;all_goals simp_all);have z0:∀{d},bt 2 d f=bt c a f->c=2/\d=a:=λ{d} e=>(by grind[jr]);refine⟨h.P,by rw[eq.1,eq.2.1];exact h.Q,λi s o O w=>?_,λi j s r ao d D W O au w E=>?_,λi d D w=>?_,λi j d b D W s r w E O au=>?_,λi j d b D W u v w E hu hv H e=>?_,by rw[ar];exact h.rz,λi s d D O w=>?_,λi ao d D w V a2=>?_,by rw[eq.2.2];exact h.fV⟩;rcases back w with⟨_,N⟩|⟨_,_,rfl⟩;exact h.obj i s o O N;grind;·rcases back w with⟨_,N⟩|⟨rfl,_,e⟩<;>rcases back E with⟨_,an⟩|⟨rfl,_,ag⟩;exact h.un i j s r ao d D W O au N an;all_goals grind[jr]
 ·rw[ar];rcases back w with⟨_,N⟩|⟨rfl,_,e⟩;exact h.hH i d D N;obtain⟨Z,rfl,rfl⟩:=jr e;(obtain rfl:c=2:=by omega);obtain⟨a9,aC⟩:=ax rfl;(have H:∀j,j<16->bm S.m d j=0:=by grind[bm]);have a3:e4 128 (S.C 2) d:=(by rcases aX with⟨_,k⟩|⟨k,_⟩;all_goals trivial);exact⟨⟨a3,λj E k=>absurd (H j E) k,λj _ E _ _ k=>absurd (H j E) k,λj E k=>absurd (H j E) k⟩,λs O=>⟨by rw[ec,aw (H _ U),aC],λk=>absurd (aC s) k⟩⟩
 ·rw[ar];intro N an e;rcases back w with⟨_,bO⟩|⟨rfl,_,Z⟩<;>rcases back E with⟨_,aA⟩|⟨rfl,_,ag⟩;exact h.nq i j d b D W s r bO aA O au N an e;all_goals grind[jr]
 rcases back w with⟨_,bO⟩|⟨rfl,_,Z⟩<;>rcases back E with⟨_,aA⟩|⟨rfl,_,ag⟩;exact h.qU i j d b D W u v bO aA hu hv H e;obtain⟨Z,rfl,_⟩:=jr ag;exact absurd (e.trans ((ax U).1 _ U U)) H;obtain⟨ag,rfl,_⟩:=jr Z;exact absurd ((ax U).1 _ U U) H;trivial;rcases back w with⟨a0,bO⟩|⟨rfl,_,e⟩;rw[aH i a0];exact h.mh i s d D O bO;grind[jr];rw[aQ];rcases back w with⟨_,bO⟩|⟨_,e,_⟩;exact h.a1 i ao d D bO V a2;trivial
theorem cn.Br{Y X:Nat->Nat->Prop}(h:cn top A S)(g:fX top S a8 Y X){f:Int}(a3:cB A.l k 1 (bt 2 a f))(el:bk.l=A.l)(bD:bk.own=A.own)(bI:bk.a1=A.a1)(bP:a8.Q=bk.Q/\a8.bx=bk.bx)(aH:∀i,i≠k->bk.aK i=A.aK i)
 (aQ:∀c b,X c b->(c=2/\b=a)\/(c=7/\∃j,j<16/\bm S.m a j≠0/\bm S.m a j=b)\/(c=6/\∃s,s<256/\A.aK k s≠0/\dX S.m a s=b)) (b5:∀c b,Y c b->c≠2)
 (bZ:gm top a8 a) (a9:∀s,s<256->ec a8.m a s=bk.aK k s/\(bk.aK k s≠0->c6 a8 6 (dX a8.m a s)/\((A.aK k s≠0/\dX a8.m a s=dX S.m a s)\/¬c6 S 6 (dX a8.m a s))))
 (bq:∀s r,s<256->r<256->bk.aK k s≠0->bk.aK k r≠0->dX a8.m a s=dX a8.m a r->s=r) (bb:∀j,j<16->bm a8.m a j≠0->(bm S.m a j≠0/\bm a8.m a j=bm S.m a j)\/¬c6 S 7 (bm a8.m a j)) (au:gM (960/cc 6) (a8.C 6)=ou bk.aK) (bX:(dk a8.C a8.Fr).length<=bk.np):cn top bk a8:=by
 have bh:fl 1:=.inl rfl;have bl:∀{i s} {c b:Nat} {E},i≠k->fl s->cB A.l i s (bt c b E)->(c<=5\/c=8)->¬X c b:=λ{i s c b E} aC H D a2 a0=>(by rcases aQ c b a0 with⟨rfl,rfl⟩|⟨rfl,_⟩|⟨rfl,_⟩;exact aC (h.un i k s 1 2 b E f H bh D a3);all_goals trivial);have ar:∀{i b E},i≠k->cB A.l i 1 (bt 2 b E)->_:=λ{i b E} aC D=>(h.hH i b E D).1.mL g (bl (c:=2) aC bh D U) λj N V a0=>(by rcases aQ 7 _ a0 with⟨e,_⟩|⟨_,u,hu,ag,an⟩|⟨e,_⟩;trivial;exact aC (h.qU k i a b f E u j a3 D hu N ag an).symm;trivial);have a4:∀{b E},cB A.l k 1 (bt 2 b E)->b=a:=by grind[cB,jr]
 refine⟨g.P,bP,λi s o H D=>?_,by rw[el];exact h.un,λi b E D=>?_,λi j b d E ax s r D N H ao ag an e=>?_,λi j b d E ax u v D N hu hv V e=>?_,au,λi s b E H D=>?_,λi c b E D o bY=>?_,bX⟩;·rw[el]at D;obtain⟨c,b,E,rfl,a2,aX⟩:=h.obj i s o H D;refine⟨c,b,E,rfl,a2,?_⟩;refine g.p c b aX λa7=>?_;rcases aQ c b (g.pY c b a7)with⟨rfl,rfl⟩|⟨rfl,_⟩|⟨rfl,_⟩;all_goals grind
 rw[el]at D;by_cases e:i=k;grind;obtain⟨bO,b6,bd⟩:=ar e D;obtain⟨_,be⟩:=h.hH i b E D;refine⟨bO,λs H=>?_⟩;rw[(bd s H).1,(bd s H).2,aH i e];refine⟨(be s H).1,λV=>g.p 6 _ ((be s H).2 V) λa7=>?_⟩;rcases aQ 6 _ (g.pY _ _ a7)with⟨br,_⟩|⟨br,_⟩|⟨_,r,ao,ag,an⟩;trivial;trivial;exact e (h.nq k i a b f E r s a3 D ao H ag V an).1.symm;rw[el]at D N;by_cases W:i=k<;>by_cases Z:j=k;grind;subst W;obtain rfl:=a4 D;rw[aH j Z]at an;rw[((ar Z N).2.2 r ao).2]at e;rcases((a9 s H).2 ag).2 with⟨O,aA⟩|O;rw[aA]at e;exact absurd (h.nq i j b d E ax s r D N H ao O an e).1.symm Z;rw[e]at O;exact absurd (((h.hH j d ax N).2 r ao).2 an) O;subst Z;obtain rfl:=a4 N;rw[aH i W]at ag;rw[((ar W D).2.2 s H).2]at e;rcases((a9 r ao).2 an).2 with⟨O,aA⟩|O;rw[aA]at e;exact absurd (h.nq i j b d E ax s r D N H ao ag O e).1 W;rw[<-e]at O;exact absurd (((h.hH i b E D).2 s H).2 ag) O;rw[aH i W]at ag;rw[aH j Z]at an;rw[((ar W D).2.2 s H).2,((ar Z N).2.2 r ao).2]at e;exact h.nq i j b d E ax s r D N H ao ag an e;rw[el]at D N;by_cases W:i=k<;>by_cases Z:j=k;omega;subst W;obtain rfl:=a4 D;rw[(ar Z N).2.1 v hv]at e;rcases bb u hu V with⟨O,aA⟩|O;rw[aA]at e;exact h.qU i j b d E ax u v D N hu hv O e;rw[e]at O V;exact absurd (h.leaf N hv V) O;subst Z;obtain rfl:=a4 N;rw[(ar W D).2.1 u hu]at e V;rcases bb v hv (e▸V)with⟨O,aA⟩|O;rw[aA]at e;exact h.qU i j b d E ax u v D N hu hv V e;rw[<-e]at O;exact absurd (h.leaf D hu V) O;rw[(ar W D).2.1 u hu]at e V;rw[(ar Z N).2.1 v hv]at e;exact h.qU i j b d E ax u v D N hu hv V e;rw[el]at D;rw[bD];obtain⟨c,bo,f9,e,a2,aX⟩:=h.obj i s _ H D;obtain⟨W,rfl,rfl⟩:=jr e;obtain rfl:c=1:=by omega
 rw[g.w aX (λa0=>by rcases aQ 1 b a0 with⟨e,_⟩|⟨e,_⟩|⟨e,_⟩<;>omega) (Uw b) (by have:bE 1=64:=rfl;omega)];exact h.mh i s b E H D;rw[el]at D;rw[bI];obtain⟨a5,bo,f9,e,a2,aX⟩:=h.obj i 2 _ (.inr rfl) D;obtain⟨W,rfl,rfl⟩:=jr e;obtain rfl:a5=c:=U
 have aC:i≠k:=λe=>absurd ((e▸D).inj a3).1 am;rw[g.m a5 b aX (bl aC (.inr rfl) D U) _ U U];exact h.a1 i a5 b E D o bY
end Go.Proofs.YtglgidjhoncphaaGreatDoor
