/- Proved here: contracts of functions of this program, under the premises that each theorem names. -/
import Derived.Shelf.Sort.Plain
import Derived.Shelf.Slices.In.SortNone
import Derived.Test.YtglgidjhoncphaaGreatDoorVp
set_option linter.all false
set_option maxRecDepth 4000
set_option maxHeartbeats 4000000
open List renaming getElem?_eq_getElem->UO,mem_append->UQ,mem_of_getElem?->US,getElem?_eq_some_iff->UU,not_mem_nil->UZ,mem_cons->U0,mem_map->U3,take_add_one->U5,nodup_cons->U6,replicate->Va,toArray->Vb,flatMap_cons->Vf,nodup_append->Vg,append_assoc->Vj,getElem?_append_left->Vn,mem_flatMap->VA,getElem?_of_mem->VS,getElem?_set_ne->VW,perm_append_singleton->VX,map_congr_left->VZ,pairwise_iff_getElem->Wb,eq_nil_of_length_eq_zero->WR,getElem?_eq_none->WX,range'->X2
open Go.QM.ab renaming aA->UR,loop->Vp,bg->Wd
open Decidable renaming of_not_not->UT,not_not->U4
open Nat renaming pow_le_pow_right->UV,le_refl->UW,zero_le->UX,le_of_ble_eq_true->U2,mul_le_mul_right->Vr,add_mul->VJ,zero_add->Wc
open Go.QM.aT renaming known->Ve
open Go.Value renaming slice->Vt,int->V4,pointer->XV
open Go.Proofs.Tryz renaming prog->Vv
open Go.QM.aF renaming refl->Vx
open Go.QM.bA renaming to->V0
open List.Perm renaming refl->Ws
open Go.QM.b4 renaming i->XT
open List.Pairwise renaming nil->X5
namespace Go.QM
open Go Go.Sort Go.Shelf Go.Proofs
def fH(xs:List Int):List Int:=xs.mergeSort λx y=>decide (x<=y)
variable(xs:List Int)
theorem s7:(fH xs).Perm xs:=List.mergeSort_perm _ _
theorem rY:(fH xs).length=xs.length:=(s7 xs).length_eq
theorem HH:(fH xs).Pairwise λx y=>x<=y:=by have:=List.pairwise_mergeSort (le:=λx y:Int=>decide (x<=y)) (λa b c d u=>by simp at d u⊢;omega) (λa b=>by simp;omega) xs;exact this.imp λh=>by simpa using h
theorem RY{w:World}{A:ax}(h:sat w A)(os:Array Obj):sat (grow w os) A:=by
 obtain⟨x,C,d⟩:=h;refine⟨x,λi o u=>?_,d⟩;have:=C i o u;have D:i<w.heap.size:=cp
 show(w.heap++os)[i]? =some o;grind
theorem QY(pre d:List Value)(xs ys:List Int)(h:ys.length=xs.length):putCells (V4 .i64) pre.length ys.toArray (pre++ints xs++d).toArray=(pre++ints ys++d).toArray:=by have u:=eb xs;have w:=eb ys;apply Array.ext;all_goals grind[putCells,ints]
theorem SB{P:Program}{H:Ren}(N:Lays.n189 P H)(he:mX P (H.f 189)=true)(E:Nat)(ad:Option Addr)(cap:Nat)(xs:List Int)(bi:xs.length<=1000000):
    fA P (H.f 189) [.slice ad xs.length cap] be [a1 E 1 ad xs.length cap (ints xs)] (λ_:Unit=>.tuple #[]) (λ_=>True) (λ_=>[a1 E 1 ad xs.length cap (ints (fH xs))]):=by refine⟨he,λF _ w D=>?_⟩;by_cases V:xs=[];subst V;refine(callsIn_wide.2 (Any.slices_Sort_int_none N ad cap w)).mono ?_;rintro e W ⟨rfl,rfl⟩;exact⟨(),rfl,trivial,ft.refl W,by have ag:fH []=[]:=WR (rY []);dsimp only;rw[ag];exact D⟩;cases ad with|none=>exfalso;obtain⟨h,_,a,b,_,rfl,aI,_⟩:=D;obtain⟨c,d,_,rfl,aS,_⟩:=aI;have:=aS.1.1;exact V (WR this)|some p=>obtain⟨bd,bc,bl,a4,d1,rfl,aq,ar⟩:=D;obtain⟨a3,a5,d2,rfl,av,ax⟩:=aq;obtain⟨⟨pre,u⟩,⟨g1,g2,g3,g4,g5⟩,aA⟩:=av;have a7:sat w (sep (sep (aj p.block E (pre++ints xs++u)) kB) F):=⟨_,bc,_,a4,d1,rfl,⟨a3,a5,d2,rfl,aA,ax⟩,ar⟩;have Q:sat w (sep (obj p.block (.cells (pre++ints xs++u).toArray E (0,0))) (sep kB F)):=a7.bg pY;have C:w.heap[p.block]? =some (.cells (pre++ints xs++u).toArray E (0,0)):=(iC (ji _ _)).sat Q;have a0:p.block<w.heap.size:=(Array.getElem?_eq_some_iff.1 C).1;have bh:=eb xs;have aG:Holds (V4 .i64) w p.block pre.length xs.toArray:=λj O=>(by(have aY:j<xs.length:=by simpa using O);refine⟨?_,by simp[World.frozen?,C]⟩;have aB:(pre++ints xs++u)[pre.length+j]? =some (aa xs[j]):=(by rw[Vj,List.getElem?_append_right U,Nat.add_sub_cancel_left,Vn U,ints,List.getElem?_map,UO aY];rfl);rw[getElem!_pos xs.toArray j O,List.getElem_toArray];simp[World.cell?,C];simpa using aB);have Z:(some p:Option Addr)=some ⟨p.block,pre.length,none⟩:=congrArg some g1;rw[Z];refine(callsIn_wide.2 (Any.slices_Sort_int N p.block pre.length cap xs w aG a0 U)).mono ?_;rintro e W ⟨rfl,n,os,rfl⟩;refine⟨(),rfl,trivial,⟨rfl,rfl,rfl,?_⟩,RY ?_ os⟩;simp[grow];have an:(putRow (V4 .i64) (Go.Sort.ahead w n) p.block pre.length (fH xs).toArray).heap[p.block]? =some (.cells (pre++ints (fH xs)++u).toArray E (0,0)):=(by show(w.heap.modify p.block (onCells _))[p.block]? =_;rw[Array.getElem?_modify,aw rfl,C];simp only[Option.map_some,onCells];rw[QY pre u xs (fH xs) (rY xs)]);have a8:=uU Q an (λi aV=>by show(w.heap.modify p.block (onCells _))[i]? =_;rw[Array.getElem?_modify,al (Ne.symm aV)]);have a9:sat _ (sep (sep (aj p.block E (pre++ints (fH xs)++u)) kB) F):=a8.bg nE;refine a9.bg (dO (dO ?_ (Vx _)) (Vx _));exact h8 λh a2=>⟨(pre,u),⟨rfl,by rw[eb,rY];omega,g3,g4,by rw[eb,rY];omega⟩,a2⟩
end Go.QM
namespace Go.Proofs.YtglgidjhoncphaaGreatDoor.aB
open Go Go.QM
theorem Q5(b aE jQ:Nat)(lim:Int)(h:0<=lim/\lim<=1073741824)(F:ax):aF (ah [aj b 187 [.map (some aE),aa 1],bJ QM.encI aE (fe (λ_=>none) 0 (ae jQ)) 1,aj jQ 194 [aa lim,aa 0,aa 0,aa (-1),aa 0],F]) (ah [eF b [⟨0,-1,lim,0⟩] 1,F]):=by have d:kg (aP (λ_=>0) 0 jQ) [⟨0,-1,lim,0⟩]=fe (λ_=>none) 0 (ae jQ):=(by have:=Ee (λ_=>0) [] ⟨0,-1,lim,0⟩ jQ;trivial);have u:kQ (aP (λ_=>0) 0 jQ) [⟨0,-1,lim,0⟩] ⟨0,-1,lim,0⟩=aj jQ 194 [aa lim,aa 0,aa 0,aa (-1),aa 0]:=(by trivial);refine(nf (f:=kQ (aP (λ_=>0) 0 jQ) [⟨0,-1,lim,0⟩]) _).trans ?_;refine ay (⟨aP (λ_=>0) 0 jQ,aE⟩:oz) (eM.start h) ?_;exact bI 1 rfl (b8 1 rfl (by dsimp only;rw[d];rfl) (cQ 1 0 ⟨0,-1,lim,0⟩ rfl rfl u.symm (λ_ _=>rfl) (Ws _) (ao (aZ _))))
theorem G3(lim:Int)(h:0<=lim/\lim<=1073741824):bL 175 [aa lim] be [] (λb:Nat=>ae b) (λ_=>True) (λb=>[eF b [⟨0,-1,lim,0⟩] 1]):=by apply aG Tryz.func175 Tryz.ntmps175;intro F _;refine J [9,131,178,389,143,97] ?_;refine UR rfl (λd=>absurd d U) (λd=>?_);refine J [4,25,328] ?_;intro bb;refine J [2,230,474,0,524] ?_;intro bo;refine dh ?_;refine N1 3 185 rfl (dL.int rfl) rfl rfl rfl ?_;refine q rfl rfl (e8 (v:=.map _) rfl) ?_;refine q rfl rfl (eh (cs:=[.map _,.int _ _]) rfl) ?_;refine e rfl ?_;refine e0 (v:=.agg #[_,_]) (l:=[.map _,.int _ _]) rfl rfl ?_;intro cl;apply J [106];exact br cl trivial (Q5 cl bb bo lim h F)
theorem Q6(lim:Int)(h:¬(0<=lim/\lim<=1073741824)):bu 175 [aa lim] be [] (.pointer none) []:=by apply aG Tryz.func175 Tryz.ntmps175;intro F _;apply J [9,131,178];refine aT.split 5 rfl (λd=>?_) (λd=>?_);have d:=dt d;apply J [47,137,273];exact dw;have d:=dX d;apply J [143,97];refine UR rfl (λu=>?_) (λu=>absurd U u);apply J [168,75];exact dw
theorem Q2(b:Nat)(L:List bW)(d:Int)(pr lim:Int)(a4:d<=1000000):bu 187 [ae b,aa pr,aa lim] be [eF b L d] (.tuple #[aa (fP L d pr lim).2.2.1,aa (fP L d pr lim).2.2.2]) [eF b (fP L d pr lim).1 (fP L d pr lim).2.1]:=by
 apply aG Tryz.func187 Tryz.ntmps187;intro F _;apply J [1];refine ab.open 0 rfl (λaS aI=>?_);obtain⟨A,aE⟩:=aS;have au:=aI;apply J [86];dsimp only at au⊢;by_cases h:db L pr;·obtain⟨t,D,rfl⟩:=h;(have h:db L t.id:=by grind[db]);obtain⟨Z,ag,aV,aY⟩:=ix au.bi D;have a3:=au.tE D;have a5:=au.rg t D;obtain⟨M,bH⟩:=fp D;haveI:=xS (A:=A) D;apply J [215,32];apply aq (xw b aE L.length d A L t.id h);apply J [18,57,73,26,405,37];apply UR rfl<;>intro E;(have hv:fP L d t.id lim=(L,d,0,1):=by rw[fP,al (λw=>w h),aw E]);rw[hv];dsimp only;apply J [179];exact Cj;apply J [46,28];apply eE (G2 (A t.id) t.lim t.fQ (fm L t.id) t.par (gR L t.id) U U lim U) fT.rd;apply J [18,411,37];apply UR rfl<;>intro C;(have hv:fP L d t.id lim=(L,d,0,5):=by rw[fP,al (λw=>w h),al E,aw (by rw[Z,ag];exact C)]);rw[hv];dsimp only;apply J [179];exact Cj;(have w:lim<=t.lim-(t.fQ+fm L t.id):=by omega);(have C:¬¬lim<=nw L t.id-m7 L t.id:=by omega);apply J [40];refine q rfl rfl (Pu 3 185 rfl rfl) ?_;apply J [201];apply UR rfl<;>intro a0;(have hv:fP L d t.id lim=(L,d,0,11):=by rw[fP,al (λw=>w h),al E,al C,aw U]);rw[hv];dsimp only;apply J [179];exact Cj;(have Q:L.length≠32:=by omega);(have hv:fP L d t.id lim=(L++[(⟨d,t.id,lim,0⟩:bW)],d+1,d,0):=by rw[fP,al (λw=>w h),al E,al C,al Q]);rw[hv];dsimp only;have ar:eM (L++[(⟨d,t.id,lim,0⟩:bW)]) (d+1):=au.add h U (U4.1 C) Q;(have eI:¬db L d:=λ⟨u,hu,e⟩=>by have:=au.rg u hu;omega);have ax:=Ef (A:=A) eI;(have aB:(L++[(⟨d,t.id,lim,0⟩:bW)]).length=L.length+1:=by simp_all);(have H:∀x,fm (L++[(⟨d,t.id,lim,0⟩:bW)]) x=fm L x+(if t.id=x then lim else 0):=λx=>by rw[ub,rA]);(have N:∀x,gR (L++[(⟨d,t.id,lim,0⟩:bW)]) x=gR L x+(if t.id=x then 1 else 0):=λx=>by rw[wM,wN]);have W:=Ew (L:=L) (x:=d) (λu hu=>by have:=au.GG hu;omega);(have O:t.id≠d:=by omega);refine J [330,23,67,27,67,151,269,284,40,120,230,2,474,0,524] ?_;intro P;refine dh ?_;refine lZ 3 185 rfl (dL.int rfl) rfl rfl rfl ?_;refine J [3,46,54,2,151,80,81,290,284,127,214,151,80,409,284,26,69] ?_;have an:(t::(⟨d,t.id,lim,0⟩:bW)::M).Perm (L++[(⟨d,t.id,lim,0⟩:bW)]):=(List.Perm.swap _ _ _).trans ((bH.symm.cons _).trans (VX _ _).symm);have av:∀u∈M,kQ A L u=kQ (aP A d P) (L++[(⟨d,t.id,lim,0⟩:bW)]) u:=λu hu=>(by have a2:=au.rg u (bH.mem_iff.2 (by simp[hu]));have V:t.id≠u.id:=λe=>(U6.1 (au.bi.perm bH.symm)).1 (U3.2 ⟨u,hu,e.symm⟩);dsimp only[kQ];rw[bP U,H,N,al V,al V,Int.add_zero,Int.add_zero]);exact hR (ay (⟨aP A d P,aE⟩:oz) ar (c0 (b8 1 rfl (by dsimp only;rw[Ee (t:=(⟨d,t.id,lim,0⟩:bW)),ax,aB];rfl) (tT 0 0 0 t (⟨d,t.id,lim,0⟩:bW) rfl rfl rfl (by dsimp only[kQ];rw[bP O,H,N,aw rfl,aw rfl];rfl) (by dsimp only[kQ];rw[cf,H,N,al O,al O,W.1,W.2];rfl) av an (ao (aZ _))))))
 have hv:fP L d pr lim=(L,d,0,6):=aw h;rw[hv];dsimp only;apply J [215,32];apply aq (xv b aE L.length d A L pr h);apply J [18,57,17,26,116];exact hR (ay ⟨A,aE⟩ au (ao (ao (ao (ao (aZ _))))))
theorem Q3(b:Nat)(L:List bW)(E:Int)(id:Int):bu 222 [ae b,aa id] be [eF b L E] (aa (iD L id).2) [eF b (iD L id).1 E]:=by
 apply aG Tryz.func222 Tryz.ntmps222;intro F _;apply J [1];refine ab.open 0 rfl (λa2 a0=>?_);obtain⟨A,aE⟩:=a2;have au:=a0;apply J [86];dsimp only at au⊢;by_cases h:db L id;obtain⟨t,w,rfl⟩:=h;have h:db L t.id:=by grind[db]
 obtain⟨V,H,a3,a4⟩:=ix au.bi w;have a8:=au.tE w;have bl:=au.rg t w;haveI:=xS (A:=A) w;apply J [62];apply aq (xw b aE L.length E A L t.id h);apply J [18,57,73,26,201];apply UR rfl<;>intro C;have hv:iD L t.id=(L,1):=by rw[iD,al (λd=>d h),aw C]
 rw[hv];dsimp only;apply J [103];exact q9;apply J [46,0];apply eE (G4 (A t.id) t.lim t.fQ (fm L t.id) t.par (gR L t.id) U U) fT.rd;apply J [18,91,20];refine aT.split 27 rfl (λD=>?_) (λD=>?_);have D:=dt D;apply J [212,140,17];have hv:iD L t.id=(L,12):=by rw[iD,al (λd=>d h),al C,aw (.inl (by rw[V];exact D))]
 rw[hv];dsimp only;apply J [103];exact q9;have D:=dX D;apply J [138,475,166,160,206];apply UR rfl<;>intro d;have hv:iD L t.id=(L,12):=by rw[iD,al (λd=>d h),al C,aw (.inr d)]
 rw[hv];dsimp only;apply J [103];exact q9;have an:t.fQ+fm L t.id=0:=U
 have hv:iD L t.id=(kK L t.id,0):=by rw[iD,al (λd=>d h),al C,al (λar=>ar.elim (λO=>O (by rw[V];exact an)) (λO=>d O))]
 rw[hv];dsimp only;have P:eM (kK L t.id) E:=au.off w C d;obtain⟨⟨pp,aY,N⟩,bd⟩:=au.par t w C;have bh:db L t.par:=by grind[db]
 have a9:=au.tE aY;obtain⟨Q,W⟩:=fp w;have ea:pp∈Q:=cp;obtain⟨M,bH⟩:=fp ea;have ax:(kK L t.id).Perm Q:=xg au.bi W;have Z:pp::M|>.Perm (kK L t.id):=(ax.trans bH).symm;have aV:=Qj au.bi w;have ag:=λx=>Gt au.bi w x;have bc:t.lim<=fm L pp.id/\1<=gR L pp.id:=(by have a7:=wv P pp.id;have bK:=(Fk (kK L t.id) pp.id).1;simp_all);have aS:kg A L t.par=some (.pointer (some ⟨A pp.id,0,none⟩)):=by grind[zt]
 have aI:=zt (A:=A) h;apply J [205,514,49,277];refine bU rfl rfl rfl (ko 3 185 rfl rfl (dL.int rfl) rfl rfl) ?_;rw[aS];apply J [441,74,8];refine Wd (fV 2 rfl W) ?_;apply J [525];refine ab.draw _ [14] [0,1,2,3,4,5,6,7,8,9,10,11,12,13,-14] aM aM (Vx _) ?_;refine J [370,134,170,437,88,87,341,90,508,74,127,214,218,80,409,284,40,2,19] ?_;refine lP 3 185 rfl (dL.int rfl) rfl rfl rfl ?_;apply J [119];have aB:∀u∈M,kQ A L u=kQ A (kK L t.id) u:=λu hu=>(by have a5:t.par≠u.id:=λH=>(by rw[<-N]at H;have av:=P.bi.perm Z;exact(U6.1 av).1 (U3.2 ⟨u,hu,H.symm⟩));grind);exact eZ (ay (⟨A,aE⟩:oz) P (eL (b8 0 rfl (by dsimp only;rw[Mp,aI,<-aV];rfl) (cQ 0 0 pp rfl rfl (by dsimp only[kQ];rw[(ag pp.id).1,(ag pp.id).2,aw N.symm,aw N.symm];rfl) aB Z (bV (aZ _))))));have hv:iD L id=(L,6):=aw h;rw[hv];dsimp only;apply J [62];apply aq (xv b aE L.length E A L id h);apply J [18,57,17,211];exact Ci
end Go.Proofs.YtglgidjhoncphaaGreatDoor.aB
namespace Go.Proofs.YtglgidjhoncphaaGreatDoor
open Go Go.QM
def cb(c:Nat):Nat:=[0,64,128,256,32,32,48,256].getD c 0
def cls:List Nat:=X2 1 7
variable{c:Nat}
theorem vW:c∈cls↔1<=c/\c<=7:=by rw[cls,List.mem_range'_1];omega
theorem oE(h:c∈cls):c<8:=by have:=vW.1 h;omega
theorem tK(h:c∈cls):c=1\/c=2\/c=3\/c=4\/c=5\/c=6\/c=7:=by rw[vW]at h;omega
theorem pC(h:c∈cls):((16<=cb c/\cb c<=512)/\cb c %16=0)/\cb c≠0:=by rcases tK h with rfl|rfl|rfl|rfl|rfl|rfl|rfl<;>decide
theorem Dv(h:c∈cls):3<=960/cb c:=by rcases tK h with rfl|rfl|rfl|rfl|rfl|rfl|rfl<;>decide
theorem DD(h:c<8):qt[0+((c:Nat):Int).toNat*1]? =some (aa (cb c:Int)):=by
 have:c=0\/c=1\/c=2\/c=3\/c=4\/c=5\/c=6\/c=7:=U
 rcases this with rfl|rfl|rfl|rfl|rfl|rfl|rfl|rfl<;>rfl
theorem Lu(h:c<8):qt[((c:Nat):Int).toNat*1]? =some (aa (cb c:Int)):=by have:=DD h;rwa[Wc]at this
structure cL where
  Q:List aB.bW
  bz:Int
  C:Nat->List cc
  Fr:List Nat
  m:Nat->Nat
def addr(c:Nat)(y:Nat×Nat×List cc):Nat:=y.1*1024+64+y.2.1*cb c
def dF{α:Type}(f:Nat->α)(c:Nat)(v:α):Nat->α:=λx=>if x=c then v else f x
theorem jD{α:Type}(f:Nat->α)(c:Nat)(v:α):dF f c v c=v:=aw rfl
theorem jc{α:Type}(f:Nat->α){x:Nat}(v:α)(h:x≠c):dF f c v x=f x:=al h
def hz(C:Nat->List cc)(c:Nat):List Nat:=(C c).map (·.aD)
def df(C:Nat->List cc)(Fr:List Nat):List Nat:=cls.flatMap (hz C)++Fr
theorem zw{C:Nat->List cc}{c:Nat}{L':List cc}{add:List Nat}(h:(L'.map (·.aD)).Perm (add++hz C c)):∀{l:List Nat},l.Nodup->c∈l->(l.flatMap (hz (dF C c L'))).Perm (add++l.flatMap (hz C))
 | [],_,d=>by cases d
 | x::l,an,d=>by
  obtain⟨u,w⟩:=U6.1 an
  rw[Vf,Vf]
  by_cases e:x=c
  ·subst e
   have D:l.flatMap (hz (dF C x L'))=l.flatMap (hz C):=by
    have:∀y∈l,hz (dF C x L') y=hz C y:=λy E=>by rw[hz,hz,jc _ _ (λe:y=x=>u (e▸E))]
    rw[List.flatMap_def,List.flatMap_def,VZ this]
   rw[D,hz,jD,<-Vj]
   exact h.append_right _
  have hm:c∈l:=by
   rcases U0.1 d with d|d
   ·exact absurd d.symm e
   exact d
  rw[show hz (dF C c L') x=hz C x by rw[hz,hz,jc _ _ e]]
  refine(List.Perm.append_left _ (zw h w hm)).trans ?_
  rw[<-Vj,<-Vj]
  exact List.Perm.append_right _ List.perm_append_comm
theorem vX:cls.Nodup:=by decide
theorem GM{C:Nat->List cc}{Fr:List Nat}{aD:Nat}{L':List cc}(d:c∈cls)(h:(L'.map (·.aD)).Perm (aD::hz C c)):(df (dF C c L') Fr).Perm (aD::df C Fr):=by have:=zw (add:=[aD]) h vX d;exact this.append_right Fr
theorem GP{C:Nat->List cc}{Fr:List Nat}{L':List cc}(d:c∈cls)(h:L'.map (·.aD)=hz C c):(df (dF C c L') Fr).Perm (df C Fr):=by have:=zw (C:=C) (add:=[]) (L':=L') (by rw[h];exact Ws _) vX d;exact this.append_right Fr
theorem xp{C:Nat->List cc}{Fr:List Nat}{p:Nat}:p∈df C Fr↔(∃c∈cls,∃q∈C c,q.aD=p)\/p∈Fr:=by grind[df,hz]
structure dd(top:Nat)(S:cL):Prop where
  f8:6<=top/\top<=7
  ok:∀c∈cls,md (cb c) (S.C c)
  bi:(df S.C S.Fr).Nodup
  lt:∀p∈df S.C S.Fr,p<2^top
def iw(j t bd ar:Nat)(vS:Nat->Nat):List Value:=[ae t,ae bd,ae ar]++(List.range 8).map (λc=>if 1<=c/\c<j then .pointer (some ⟨(vS c),0,none⟩)else .pointer none)
theorem sY(j t bd ar:Nat)(d:Nat->Nat):(iw j t bd ar d).length=11:=by simp[iw]
theorem Be{t bd ar:Nat}(d:Nat->Nat)(h:c∈cls):(iw 8 t bd ar d)[0+3+((c:Nat):Int).toNat*1]? =some (.pointer (some ⟨(d c),0,none⟩)):=by rcases tK h with rfl|rfl|rfl|rfl|rfl|rfl|rfl<;>rfl
theorem GQ{j t bd ar i:Nat}(d:Nat->Nat)(h:i<8):(iw j t bd ar d)[3+i]? =some (if 1<=i/\i<j then .pointer (some ⟨(d i),0,none⟩)else .pointer none):=by grind[iw]
theorem QQ{j t bd ar x:Nat}(d:Nat->Nat)(h:j<8)(D:1<=j):dI (0+3+((j:Nat):Int).toNat*1) [ae x] (iw j t bd ar d)=iw (j+1) t bd ar (dF d j x):=by have e:dI (0+3+((j:Nat):Int).toNat*1) [ae x] (iw j t bd ar d)=(iw j t bd ar d).set (3+j) (ae x):=(by rw[List.set_eq_take_append_cons_drop,aw (by rw[sY];omega),Int.toNat_natCast,Nat.mul_one,Wc];grind[dI]);rw[e];apply List.ext_getElem?;intro i;rw[List.getElem?_set,sY];by_cases w:i<3;rw[al U,iw,iw,Vn (by simpa using w),Vn (by simpa using w)];obtain⟨i,rfl⟩:∃k,i=3+k:=⟨i-3,by omega⟩;by_cases C:i<8;rw[GQ _ C,GQ _ C];by_cases u:i=j;subst u;rw[aw rfl,aw U,aw U,jD];rw[al U,jc _ _ u];grind;rw[al U,WX (by rw[sY];omega),WX (by rw[sY];omega)]
class dK where
  f:Nat->Nat
  t:Nat->Nat
class fR where
  aO:Nat
structure dR[dK](b:Nat) where
  t:Nat
  bd:Nat
  ar:{a:Nat//a=dK.f b}
  vS:Nat->Nat
  UJ:t=dK.t b:=by first|assumption|rfl
def e6[dK](b top:Nat)(S:cL):ax:=fj λy:dR b=>pure' (dd top S) (ah [aj b 169 (iw 8 y.t y.bd y.ar y.vS),aB.eF y.t S.Q S.bz,lg y.bd top (df S.C S.Fr),gr y.ar S.m (1024*2^top),b5 (λc=>mo (y.vS c) y.bd (cb c) (S.C c)) cls])
theorem y8(h:c∈cls):∃L,cls.Perm (c::L)/\∀x∈L,x≠c:=by obtain⟨L,d⟩:=fp h;grind[vX]
def dj(lim:Int):cL:=⟨[⟨0,-1,lim,0⟩],1,λ_=>[],[],λ_=>0⟩
theorem GO(C:Nat->List cc)(h:∀c,C c=[]):df C []=[]:=by
 have:hz C=λ_=>[]:=by grind[hz]
 rw[df,this];rfl
variable{top:Nat}
theorem dd.zero(lim:Int)(h:6<=top/\top<=7):dd top (dj lim):=
 ⟨h,λc d=>⟨(pC d).1.1,⟨X5,λ_ h=>(by cases h)⟩,λ_ h=>(by cases h)⟩,by rw[dj,GO _ λ_=>rfl];exact List.nodup_nil,by rw[dj,GO _ λ_=>rfl];exact λ_ h=>(by cases h)⟩
structure iW(top:Nat)(S:cL)(c:Nat)(y:Nat×Nat×List cc):Prop where
  m0:lC (960/cb c) (S.C c) y.2.2 y.1 y.2.1
  i:y.2.1<960/cb c
  lt:y.1<2^top
  inv:∀Q bz m,dd top ⟨Q,bz,dF S.C c y.2.2,S.Fr,m⟩
  new:(∀q∈S.C c,q.aD≠y.1)->y.1∉df S.C S.Fr
  len:(df (dF S.C c y.2.2) S.Fr).length<=(df S.C S.Fr).length+1
theorem dd.m0{S:cL}(h:dd top S)(w:c∈cls){y:Nat×Nat×List cc×Bool}(D:yy (cb c) top (df S.C S.Fr) (S.C c) y):iW top S c (y.1,y.2.1,y.2.2.1)/\(df (dF S.C c y.2.2.1) S.Fr).Perm (if y.2.2.2=true then y.1::df S.C S.Fr else df S.C S.Fr):=by
 have N:=h.ok c w;have Z:0<960/cb c:=by have:=Dv w;omega
 have ag:2^top<=128:=UV (n:=2) am h.f8.2;have key:(df (dF S.C c y.2.2.1) S.Fr).Perm (if y.2.2.2=true then y.1::df S.C S.Fr else df S.C S.Fr)/\y.1<2^top/\(y.2.2.2=true->y.1∉df S.C S.Fr)/\(y.2.2.2≠true->y.1∈hz S.C c):=(by have u:=D.aD;by_cases e:y.2.2.2=true;rw[aw e]at u⊢;exact⟨GM w u.1,u.2.2,λ_=>u.2.1,λh=>absurd e h⟩;rw[al e]at u⊢;refine⟨GP w u.1,?_,λh=>absurd h e,λ_=>u.2⟩;obtain⟨q,H,E⟩:=U3.1 u.2;exact h.lt _ (xp.2 (.inl ⟨c,w,q,H,E⟩)));obtain⟨bN,P,V,W⟩:=key;refine⟨⟨D.m0,D.i,P,λQ aq m=>?_,λan hm=>?_,by rw[bN.length_eq];split<;>simp⟩,bN⟩;refine⟨h.f8,λd O=>?_,bN.nodup_iff.2 ?_,λp u=>?_⟩;dsimp only;by_cases e:d=c;subst e;rw[jD];exact N.m0 D.m0 U;rw[jc _ _ e];exact h.ok d O;split;rename_i e;exact U6.2 ⟨V e,h.bi⟩;exact h.bi;have:=bN.mem_iff.1 u;split at this;rcases U0.1 this with rfl|this;trivial;exact h.lt _ this;exact h.lt _ this;by_cases e:y.2.2.2=true;simp_all;obtain⟨q,H,E⟩:=U3.1 (W e);simp_all
structure j1(top:Nat)(S:cL)(c aD i:Nat)(L':List cc):Prop where
  nq:mP (960/cb c) (S.C c) L' aD i
  inv:∀Q bz m,dd top ⟨Q,bz,dF S.C c L',S.Fr,m⟩
  len:(df (dF S.C c L') S.Fr).length<=(df S.C S.Fr).length
theorem dd.nq{S:cL}(h:dd top S){aD i:Nat}(w:c∈cls){y:List cc×Bool}(D:CA (cb c) (S.C c) aD i y)(hm:aD∈df S.C S.Fr):j1 top S c aD i y.1/\(df (dF S.C c y.1) S.Fr).Perm (if y.2=true then(df S.C S.Fr).erase aD else df S.C S.Fr):=by have E:=h.ok c w;have key:(df (dF S.C c y.1) S.Fr).Perm (if y.2=true then(df S.C S.Fr).erase aD else df S.C S.Fr):=(by have u:=D.aD;by_cases e:y.2=true;rw[aw e]at u⊢;have N:(dF (dF S.C c y.1) c (S.C c))=S.C:=funext λx=>(by grind[jD,jc]);have:=GM (C:=dF S.C c y.1) (Fr:=S.Fr) (L':=S.C c) w (by rw[hz,jD];exact u);grind;rw[al e]at u⊢;exact GP w u);have hlen:(df (dF S.C c y.1) S.Fr).length<=(df S.C S.Fr).length:=(by rw[key.length_eq];grind);refine⟨⟨D.nq,λQ O m=>⟨h.f8,λd H=>?_,key.nodup_iff.2 ?_,λp u=>?_⟩,hlen⟩,key⟩;dsimp only;by_cases e:d=c;subst e;rw[jD];exact E.nq D.nq;rw[jc _ _ e];exact h.ok d H;split;exact h.bi.erase _;exact h.bi;have:=key.mem_iff.1 u;split at this;exact h.lt _ (List.mem_of_mem_erase this);exact h.lt _ this
theorem R7(L:List aB.bW)(x c d:Int):aB.fN (aB.fN L x c) x d=aB.fN L x d:=by grind[aB.fN,VZ]
variable{x:Int}
theorem R6{L:List aB.bW}(h:aB.iB L):aB.fN L x (aB.gg L x)=L:=by
 rw[aB.fN];conv=>rhs;rw[<-List.map_id L]
 apply VZ;intro t d;by_cases e:t.id=x;rw[aw e,<-e,(aB.ix h d).2.2.1];rfl;simp_all
theorem Bz{L:List aB.bW}(h:aB.iB L)(x c:Int):aB.iB (aB.fN L x c):=by rw[aB.iB,aB.xH];exact h
theorem yZ{L:List aB.bW}(h:aB.iB L){y c:Int}(u:aB.db L y):aB.gg (aB.fN L x c) y=if y=x then c else aB.gg L y:=by obtain⟨t,d,rfl⟩:=u;have w:=(aB.ix h d).2.2.1;by_cases e:t.id=x;have hm:(⟨t.id,t.par,t.lim,c⟩:aB.bW)∈aB.fN L x c:=aB.s5.2 ⟨t,d,by rw[aw e]⟩;have:=(aB.ix (Bz h x c) hm).2.2.1;simp_all;have hm:t∈aB.fN L x c:=aB.s5.2 ⟨t,d,by rw[al e]⟩;have:=(aB.ix (Bz h x c) hm).2.2.1;omega
theorem yY{L:List aB.bW}{n:Int}(h:(aB.c9 L x n).2=0):aB.db L x/\0<=n/\n<=aB.nw L x-aB.m7 L x/\(aB.c9 L x n).1=aB.fN L x (aB.gg L x+n):=by unfold aB.c9 at h⊢;grind
theorem G8{L:List aB.bW}{n:Int}(d:aB.db L x)(u:0<=n)(w:n<=aB.gg L x):aB.ek L x n=(aB.fN L x (aB.gg L x-n),0):=by unfold aB.ek;simp_all
theorem sZ{L:List aB.bW}{H:Int}(au:aB.eM L H){n:Int}(E:(aB.c9 L x n).2=0):aB.ek (aB.c9 L x n).1 x n=(L,0):=by
 obtain⟨d,w,O,C⟩:=yY E;have N:0<=aB.gg L x:=(by obtain⟨t,u,rfl⟩:=d;rw[(aB.ix au.bi u).2.2.1];exact(au.rg t u).2.2.2.2.1);have D:aB.gg (aB.fN L x (aB.gg L x+n)) x=aB.gg L x+n:=by rw[yZ au.bi d,aw rfl]
 rw[C,G8 (aB.qX.2 d) w U,D,R7,Int.add_sub_cancel,R6 au.bi]
theorem Do{Q:List aB.bW}{a n:Int}(h:(aB.c9 Q a n).2≠0):(aB.c9 Q a n).1=Q:=by unfold aB.c9 at h⊢;grind
def pv(c:Nat):Option (Nat×Nat×List cc)->Int
  | some y=>(addr c y:Int)
  | none=>0
def Cz(top:Nat)(S:cL)(a:Int)(c:Nat):Option (Nat×Nat×List cc)×Int->Prop
  | (some y,e)=>e=0/\(aB.c9 S.Q a (cb c:Int)).2=0/\iW top S c y
  | (none,e)=>e≠0/\(e=(aB.c9 S.Q a (cb c:Int)).2\/e=4/\2^top<=(df S.C S.Fr).length)
def kj(S:cL)(a:Int)(c:Nat):Option (Nat×Nat×List cc)->cL
  | some y=>⟨(aB.c9 S.Q a (cb c:Int)).1,S.bz,dF S.C c y.2.2,S.Fr,ho S.m (addr c y) (cb c)⟩
  | none=>S
variable [dK]
theorem rR(c:Nat)(h:c<8):bu 81 [aa c] c7 [] (aa (cb c:Int)) []:=by apply aG Tryz.func81 Tryz.ntmps81;intro F w;apply J [9];obtain⟨E,u,C⟩:=w.co;haveI:fT F 0 (.cells qt.toArray E u):=⟨C⟩;refine J [39,178,389,11,306,97] ?_;refine UR rfl (λd=>absurd d U) (λd=>?_);apply J [4,26];refine q rfl rfl (lh 8 3 1 rfl rfl rfl U U) ?_;refine q rfl rfl (gS rfl rfl (DD h)) ?_;apply J [30];exact j8
theorem l6(b t bd ar:Nat)(d:Nat->Nat):bu 40 [ae b] be [aj b 169 (iw 8 t bd ar d)] (ae ar) [aj b 169 (iw 8 t bd ar d)]:=by apply aG Tryz.func40 Tryz.ntmps40;intro F _;apply J [1,131,42,70,106];exact hQ
theorem uK(b top:Nat)(S:cL)(a:Int)(c:Nat)(d:c∈cls):bL 128 [ae b,aa a,aa c] c7 [e6 b top S] (λy:Option (Nat×Nat×List cc)×Int=>.tuple #[aa (pv c y.1),aa y.2]) (λy=>Cz top S a c y) (λy=>[e6 b top (kj S a c y.1)]):=by
 apply aG Tryz.func128 Tryz.ntmps128;intro F ag;apply J [1];haveI:cz F:=⟨ag⟩;obtain⟨bh,be⟩:=pC d;have bi:((cb c:Nat):Int)≠0:=U
 have a9:=oE d;refine ab.open 0 rfl (λO H=>?_);obtain⟨t,bd,w,u⟩:=O;have D:=H;apply J [155];dsimp only at D⊢;refine ab.open 1 rfl (λO H=>?_);obtain⟨a3,a4⟩:=O;have au:=H;apply J [145];refine Wd (B:=ah [aj b 169 (iw 8 t bd w u),aB.eF t S.Q S.bz,lg bd top (df S.C S.Fr),gr w S.m (1024*2^top),b5 (λc=>mo (u c) bd (cb c) (S.C c)) cls,F]) (c0 (ay (⟨a3,a4⟩:aB.oz) au ai)) ?_;apply J [24,242,253,282];apply aq (rR c (oE d));apply J [14,156,97];refine UR rfl (λP=>absurd P U) (λP=>?_);apply J [44,8];refine cC [0,1,2,3,4,5,-6,-7,8] (ao (aZ _)) ?_;apply J [49,15,249];apply aq (rR c (oE d));refine J [237,45] ?_;apply aq (aB.G1 t S.Q S.bz a (cb c:Int));refine J [237,136,34] ?_;apply UR rfl<;>intro E;apply J [187];have aI:=Do E;exact cN (none,(aB.c9 S.Q a (cb c:Int)).2) ⟨E,.inl rfl⟩ (ay (dR.mk t bd w u:dR b) D (by rw[aI];exact ai));have E:=UT E;apply J [4,35,80,385];refine q rfl rfl (lh 8 165 1 rfl rfl rfl U U) ?_;refine q rfl rfl (gS rfl rfl (Be u d)) ?_;obtain⟨a8,gi,av⟩:=y8 d;have aV:=D.f8;have bc:2^top<=128:=UV (n:=2) am aV.2;apply J [526,0];apply a7 (Sw (u c) bd top (cb c) (S.C c) (df S.C S.Fr) U (λa2 Z=>xp.2 (.inl ⟨c,d,a2,Z,rfl⟩)));intro a5 N;apply J [16];cases a5 with|none=>?_|some y=>?_
 have an:2^top<=(df S.C S.Fr).length:=N;dsimp only[Bd,qv,tG,tD];have aS:=sZ au E;apply J [125,34,17,8];refine cC [0,1,2,3,4,5,-6,-7] (eL (aZ _)) ?_;apply J [49,15,249];apply aq (rR c (oE d));refine J [238,45] ?_;apply aq (aB.xx t (aB.c9 S.Q a (cb c:Int)).1 S.bz a (cb c:Int));refine J [238,6] ?_;rw[aS];apply J [74,187];exact cN (none,4) ⟨by decide,.inr ⟨rfl,an⟩⟩ (ay (dR.mk t bd w u:dR b) D (eL (ao (bV (bv (cQ 0 0 c rfl rfl rfl (λ_ _=>rfl) gi.symm ai))))));have V:yy (cb c) top (df S.C S.Fr) (S.C c) y:=N;dsimp only[Bd,qv,tG,tD];obtain⟨cn,ea⟩:=D.m0 d V;obtain⟨aD,i,W,aY⟩:=y;dsimp only at cn ea⊢;have ax:=(D.ok c d).place cn.i;have ar:=cn.lt;dsimp only at ax ar;clear V N;apply J [125,199,118];refine cC [0,1,2,3,4,5,-6,-7] (eL (aZ _)) ?_;apply J [185,15,249];apply aq (rR c (oE d));refine J [238,45] ?_;apply aq (C3 w (1024*2^top) (aD*1024+64+i*cb c) (cb c) S.m U U U);refine J [238,110,26,69] ?_;exact cN (some (aD,i,W),0) ⟨rfl,E,cn⟩ (ay (dR.mk t bd w u:dR b) (cn.inv _ _ _) (ey (eL (eH 2 rfl (vN _ _ ea.symm) (ao (cQ 0 0 c rfl rfl (by dsimp only[kj];rw[jD]) (λx a0=>by dsimp only[kj];rw[jc _ _ (av x a0)]) gi.symm ai))))))
theorem Bf(b top:Nat)(S:cL)(c:Nat)(d:c∈cls)(k aD i:Nat)(f:Nat->Bool)(N:(S.C c)[k]? =some ⟨aD,f⟩)(H:f i=true):bu 34 [ae b,aa c,aa ((aD*1024+64+i*cb c:Nat):Int)] c7 [e6 b top S] (.bool true) [e6 b top S]:=by apply aG Tryz.func34 Tryz.ntmps34;intro F E;apply J [1];haveI:cz F:=⟨E⟩;obtain⟨ag,Z⟩:=pC d;have V:=oE d;refine ab.open 0 rfl (λP O=>?_);obtain⟨t,bd,D,u⟩:=P;have w:=O;apply J [155];dsimp only at w⊢;apply J [135,360,20,282];apply aq (rR c (oE d));apply J [14,160,50];refine Ve 14 rfl (c:=true) (c1 U) ?_;apply J [305,11,509,294];refine c8 rfl rfl rfl (lh 8 165 1 rfl rfl rfl U U) ?_;refine c8 rfl rfl rfl (gS rfl rfl (Be u d)) ?_;apply J [11];obtain⟨Q,gi,W⟩:=y8 d;apply J [526,94];apply aq (Ss (u c) bd (cb c) (S.C c) k aD i f N H);apply J [16,132];exact eZ (ay (dR.mk t bd D u:dR b) w (bv (bv (bv (bv (cQ 0 0 c rfl rfl rfl (λ_ _=>rfl) gi.symm ai))))))
theorem uL(b top:Nat)(S:cL)(c:Nat)(d:c∈cls)(k aD i:Nat)(f:Nat->Bool)(w:(S.C c)[k]? =some ⟨aD,f⟩)(N:f i=true)(a:Int)(aI:(aB.ek S.Q a (cb c:Int)).2=0):bL 189 [ae b,aa a,aa c,aa ((aD*1024+64+i*cb c:Nat):Int)] c7 [e6 b top S] (λ_:List cc=>aa 0) (λL'=>j1 top S c aD i L') (λL'=>[e6 b top ⟨(aB.ek S.Q a (cb c:Int)).1,S.bz,dF S.C c L',S.Fr,S.m⟩]):=by apply aG Tryz.func189 Tryz.ntmps189;intro F V;apply J [1];haveI:cz F:=⟨V⟩;obtain⟨aV,aS⟩:=pC d;have ax:=oE d;have O:aD∈df S.C S.Fr:=xp.2 (.inl ⟨c,d,_,US w,rfl⟩);apply J [39,76,253,282];apply aq (rR c (oE d));apply J [5,156,206];refine UR rfl (λE=>absurd E U) (λE=>?_);apply J [35,28];apply aq (Bf b top S c d k aD i f w N);apply J [5,264];refine ab.open 0 rfl (λar ag=>?_);obtain⟨t,bd,P,u⟩:=ar;have D:=ag;apply J [155];dsimp only at D⊢;apply J [205,8];refine cC [0,1,2,3,4,5,-6,-7,8] (ao (aZ _)) ?_;apply J [49,15,249];apply aq (rR c (oE d));refine J [237,45] ?_;apply aq (aB.xx t S.Q S.bz a (cb c:Int));refine J [237,136,34] ?_;refine UR rfl (λH=>absurd H U) (λH=>?_);apply J [4,35,80,385];refine q rfl rfl (lh 8 165 1 rfl rfl rfl U U) ?_;refine q rfl rfl (gS rfl rfl (Be u d)) ?_;apply J [2];obtain⟨av,gi,W⟩:=y8 d;apply J [526,0];apply a7 (Sr (u c) bd (cb c) (S.C c) k aD i f w N top (df S.C S.Fr) O);intro y an;apply J [16];obtain⟨cn,ea⟩:=D.nq d an O;apply J [30];exact br y.1 cn (ay (dR.mk t bd P u:dR b) (cn.inv _ _ _) (eL (c0 (eH 1 rfl (vN _ _ ea.symm) (bv (cQ 0 0 c rfl rfl (by dsimp only;rw[jD]) (λx Z=>by dsimp only;rw[jc _ _ (W x Z)]) gi.symm ai))))))
end Go.Proofs.YtglgidjhoncphaaGreatDoor
namespace Go.Proofs.YtglgidjhoncphaaGreatDoor
open Go Go.QM
theorem QR(t bd ar:Nat)(d:Nat->Nat):dI (0+3+((0:Nat):Int).toNat*1) [XV none] (iw 0 t bd ar d)=iw 1 t bd ar d:=rfl
theorem Rx(j:Nat)(h:1<=j):X2 1 (j+1-1)=X2 1 (j-1)++[j]:=by obtain⟨k,rfl⟩:∃k,j=k+1:=⟨j-1,by omega⟩;rw[Nat.add_sub_cancel,Nat.add_sub_cancel];rw[List.range'_concat,Nat.one_mul,Nat.add_comm 1 k]
theorem GS(n top:Nat)(lim:Int)(h:n=65536/\top=6\/n=131072/\top=7)(aY:0<=lim/\lim<=n):bL 125 [aa n,aa lim] c7 [] (λy:Nat×dK=>ae y.1) (λ_=>True) (λy=>[@e6 y.2 y.1 top (dj lim)]):=by
 apply aG Tryz.func125 Tryz.ntmps125;intro F C;apply J [9];haveI:cz F:=⟨C⟩;have ax:n=1024*2^top:=cp
 have an:n=65536\/n=131072:=U
 have aS:6<=top/\top<=7:=U
 have a2:n<=131072:=U
 obtain⟨E,P,V⟩:=C.co;haveI:fT F 0 (.cells qt.toArray E P):=⟨V⟩;apply J [168,169];apply a7 (aB.G3 lim U);intro t _;apply J [5,28];apply a7 (yP n top h);intro bd _;apply J [7,28];apply a7 (yD n an);intro d _;apply J [18];refine q rfl rfl (eh (cs:=iw 0 t bd d (λ_=>0)) rfl) ?_;refine e rfl ?_;refine e0 (v:=.agg (Vb (iw 0 t bd d (λ_=>0)))) (l:=iw 0 t bd d (λ_=>0)) rfl rfl ?_;intro b;apply J [52,70,154,20,138,191,412,41,11,143,97];refine UR rfl (λD=>absurd D U) (λD=>?_);apply J [44,24];refine q rfl rfl (fM (vs:=qt) 8 rfl rfl rfl rfl) ?_;apply J [114];refine Vp (ι:=Nat×(Nat->Nat)) (λx=>x.1<=8) (λx=>[(5,ae b),(33,.agg (Vb qt)),(34,aa ((x.1:Nat):Int))]) (λx=>ah [aj b 169 (iw x.1 t bd d x.2),b5 (λc=>mo (x.2 c) bd (cb c) []) (X2 1 (x.1-1)),aB.eF t [⟨0,-1,lim,0⟩] 1,lg bd top [],gr d (λ_=>0) n,F]) (λx=>8-x.1) (0,λ_=>0) am bC ((nf (f:=λc=>mo 0 bd (cb c) []) _).trans (bV (ao (bv (bV (ao (ao (aZ _)))))))) ?_;rintro⟨j,u⟩ av a3;dsimp only[cr]at av⊢;apply J [43];apply UR rfl<;>intro a0;have H:j<8:=U
 have Z:=Lu H;apply J [64,26];refine q rfl rfl (NW 8 3 1 rfl rfl rfl rfl U U Z) ?_;apply J [141];by_cases Q:j=0;subst Q;have N:=QR t bd d u;have ag:=sY 0 t bd d u;refine J [583,77,15,123,15,88,432,12] ?_;apply aq (Su bd);refine J [237,6,584,90] ?_;refine st (v:=.pointer _) (vs:=[_]) 1 rfl rfl rfl rfl rfl rfl (U2 rfl) rfl ?_;refine J [301,366] ?_;exact⟨rfl,(1,u),cD,cD,bC,ai⟩;have w:1<=j:=U
 have W:j∈cls:=by grind[vW]
 refine J [583,77,15,123,15,88,432,12] ?_;apply a7 (Sv bd (cb j) (pC W).1);intro O _;refine J [238,6] ?_;have N:=QQ (t:=t) (bd:=bd) (ar:=d) (x:=O) u H w;have ag:=sY j t bd d u;refine J [584,90] ?_;refine st (v:=.pointer _) (vs:=[_]) 1 rfl rfl rfl rfl rfl rfl U N ?_;refine J [301,366] ?_;exact⟨rfl,(j+1,dF u j O),cD,cD,bC,(ao (cQ 0 0 j rfl rfl (by dsimp only;rw[jD]) (λx aV=>by dsimp only;rw[jc _ _ (by have:=List.mem_range'_1.1 aV;omega)]) (by dsimp only;rw[Rx j w];exact(VX _ _).symm) ai))⟩;obtain rfl:j=8:=U
 have aI:df (λ_=>([]:List cc)) []=[]:=by trivial
 letI:dK:=⟨λ_=>d,λ_=>t⟩;apply J [21,36,106];exact br (b,(⟨λ_=>d,λ_=>t⟩:dK)) trivial (ay (dR.mk t bd ⟨d,rfl⟩ u:dR b) (dd.zero lim aS) (by dsimp only[dj];rw[aI,<-ax];exact ai))
variable [dK]
theorem va(s:Nat)(h:s<256):bu 77 [aa s] be [] (.bool true) []:=by apply aG Tryz.func77 Tryz.ntmps77;intro F _;refine J [9,241,271,476,190,132] ?_;exact XT () [_] ⟨rfl,trivial⟩ (congrArg Value.bool (c1 U)) trivial (ao (aZ _))
theorem ta(l s:Nat)(h:s<256)(d:l<=1073741824):bu 79 [aa l,aa s] be [] (aa ((l+s %16*16:Nat):Int)) []:=by apply aG Tryz.func79 Tryz.ntmps79;intro F _;apply J [9,102,176];refine q rfl rfl (V0 (v:=((s %16:Nat):Int)) (pX rfl rfl U U) U) ?_;refine q rfl rfl (V0 (v:=((s %16*16:Nat):Int)) (oa rfl rfl U U) U) ?_;refine q rfl rfl (V0 (v:=((l+s %16*16:Nat):Int)) (io rfl rfl U U) U) ?_;apply J [30];exact j8
theorem BX(aQ af:Nat)(d:Int)(t s:Nat)(h:s<256)(u:t<=1073741824):bu 121 [ae aQ,aa s] be [aj aQ 163 [ae af,aa d,aa t]] (aa ((t+s/16*8:Nat):Int)) [aj aQ 163 [ae af,aa d,aa t]]:=by apply aG Tryz.func121 Tryz.ntmps121;intro F _;apply J [1,102,70,2];refine q rfl rfl (V0 (v:=((s/16:Nat):Int)) (ll rfl rfl U U U) U) ?_;refine q rfl rfl (V0 (v:=((s/16*8:Nat):Int)) (oa rfl rfl U U) U) ?_;refine q rfl rfl (V0 (v:=((t+s/16*8:Nat):Int)) (io rfl rfl U U) U) ?_;apply J [30];exact hQ
theorem xY(aQ af top:Nat)(C:Int)(t:Nat)(S:cL)(o:Nat)(h:o+8<=1024*2^top)(D:o %8=0):bu 80 [ae aQ,aa o] be [aj aQ 163 [ae af,aa C,aa t],e6 af top S] (bj (cO S.m o:Int)) [aj aQ 163 [ae af,aa C,aa t],e6 af top S]:=by apply aG Tryz.func80 Tryz.ntmps80;intro F _;apply J [13];refine ab.open 1 rfl (λN H=>?_);obtain⟨cH,bd,d,w⟩:=N;have u:=H;apply J [226];dsimp only at u⊢;have E:=u.f8;have O:2^top<=128:=UV (n:=2) am E.2;apply J [102,40,0];apply aq (l6 af cH bd d w);apply J [16,28];apply aq (tA d (1024*2^top) o S.m U h D);apply J [16,268,141,133];exact eZ (ey (ay (dR.mk cH bd d w:dR af) u ai))
theorem s9(aQ af top:Nat)(d:Int)(t:Nat)(S:cL)(s:Nat)(hs:s<256)(u:t+128<=1024*2^top/\t %8=0/\top<=7)(w:cO S.m (t+s/16*8)<1073741824):bu 78 [ae aQ,aa s] be [aj aQ 163 [ae af,aa d,aa t],e6 af top S] (aa (cO S.m (t+s/16*8):Int)) [aj aQ 163 [ae af,aa d,aa t],e6 af top S]:=by apply aG Tryz.func78 Tryz.ntmps78;intro F _;apply J [13];have C:2^top<=128:=UV (n:=2) am u.2.2;apply J [102,36,162,28];apply aq (BX aQ af d t s hs U);apply J [7,0];apply aq (xY aQ af top d t S (t+s/16*8) U U);refine J [7,308,30] ?_;exact dw
end Go.Proofs.YtglgidjhoncphaaGreatDoor
namespace Go.Proofs.YtglgidjhoncphaaGreatDoor
open Go Go.QM
theorem DG{C:Nat->List cc}:∀{l:List Nat},(l.flatMap (hz C)).Nodup->l.Nodup->∀{c d p:Nat},c∈l->d∈l->p∈hz C c->p∈hz C d->c=d
 | [],_,_,_,_,_,h,_,_,_=>by cases h
 | x::l,an,V,c,d,p,P,Q,u,w=>by rw[Vf]at an;obtain⟨ag,W,O⟩:=Vg.1 an;obtain⟨Z,lj⟩:=U6.1 V;rcases U0.1 P with D|H<;>rcases U0.1 Q with E|N;rw[D,E];subst D;exact absurd rfl (O p u p (VA.2 ⟨d,N,w⟩));subst E;exact absurd rfl (O p w p (VA.2 ⟨c,H,u⟩));exact DG W lj H N u w
variable{top:Nat}{S:cL}{c d:Nat}
theorem dd.LV(h:dd top S)(u:c∈cls)(w:d∈cls){p q:cc}(D:p∈S.C c)(E:q∈S.C d)(e:p.aD=q.aD):c=d:=
 DG (Vg.1 h.bi).1 vX u w (U3.2 ⟨p,D,rfl⟩) (U3.2 ⟨q,E,e.symm⟩)
theorem Dr{many:Nat}{L:List cc}(h:ov many L){p q:cc}(N:p∈L)(O:q∈L)(e:p.aD=q.aD):p=q:=by obtain⟨i,E⟩:=VS N;obtain⟨j,H⟩:=VS O;obtain⟨u,w⟩:=UU.1 E;obtain⟨C,D⟩:=UU.1 H;have key:i=j:=(by rcases Nat.lt_trichotomy i j with d|d|d;have:=(Wb.1 h.kr) i j u C d;rw[w,D]at this;omega;trivial;have:=(Wb.1 h.kr) j i C u d;rw[w,D]at this;omega);simp_all
variable{a:Nat}
theorem e3.bd(u:dd top S)(d:c∈cls)(h:e3 (cb c) (S.C c) a):a %16=0/\64<=a/\a+cb c<=1024*2^top:=by
 obtain⟨p,D,i,E,rfl⟩:=h;have w:=u.ok c d;have H:=w.place (w.inv.bd p D i E);have N:=u.lt p.aD (xp.2 (.inl ⟨c,d,p,D,rfl⟩));obtain⟨O,P⟩:=pC d;obtain⟨q,V⟩:∃q,cb c=16*q:=⟨cb c/16,by omega⟩;have Q:i*cb c=16*(i*q):=cp
 omega
variable{b:Nat}
theorem e3.apart(u:dd top S)(D:c∈cls)(E:d∈cls)(h:e3 (cb c) (S.C c) a)(k:e3 (cb d) (S.C d) b)(ag:c≠d\/a≠b):a+cb c<=b\/b+cb d<=a:=by obtain⟨p,H,i,Q,rfl⟩:=h;obtain⟨q,N,j,V,rfl⟩:=k;have W:=(u.ok c D).place ((u.ok c D).inv.bd p H i Q);have Z:=(u.ok d E).place ((u.ok d E).inv.bd q N j V);by_cases e:p.aD=q.aD;have O:=u.LV D E H N e;subst O;have P:=Dr (u.ok c D).inv H N e;subst P;rcases Nat.lt_trichotomy i j with w|w|w;have:=Vr (cb c) (show i+1<=j from w);rw[VJ]at this;omega;simp_all;have:=Vr (cb c) (show j+1<=i from w);rw[VJ]at this;omega;omega
theorem e3.frame(u:dd top S){p:Nat}(d:c∈cls)(h:e3 (cb c) (S.C c) a)(E:p∉cls.flatMap (hz S.C)):a+cb c<=p*1024\/p*1024+1024<=a:=by obtain⟨q,w,i,D,rfl⟩:=h;have H:=(u.ok c d).place ((u.ok c d).inv.bd q w i D);have:q.aD≠p:=λe=>E (VA.2 ⟨c,d,U3.2 ⟨q,w,e⟩⟩);omega
theorem Nw{many aD i sz:Nat}{L L':List cc}(g:lC many L L' aD i)(h:ov many L)(hs:0<sz)(hm:many*sz<=960)(Q:i<many):¬e3 sz L (aD*1024+64+i*sz):=by
 rintro⟨q,d,j,u,e⟩;have bb:i*sz+sz<=960:=by have:=Vr sz (show i+1<=many from Q);rw[VJ]at this;omega
 have bo:j*sz+sz<=960:=by have:=Vr sz (show j+1<=many from h.bd q d j u);rw[VJ]at this;omega
 have D:q.aD=aD:=U
 have E:i=j:=by grind[Nat.eq_of_mul_eq_mul_right]
 cases g with|old A B f w H C N=>(have V:(⟨aD,f⟩:cc)∈L:=by rw[w];simp);have:=Dr h d V D;subst this;subst E;dsimp only at u;rw[C]at u;cases u|new A B w H C N O P=>rw[w]at d;rcases UQ.1 d with d|d;have:=O q d;omega;have:=P q d;omega
theorem iW.fresh{y:Nat×Nat×List cc}(u:dd top S)(d:c∈cls)(g:iW top S c y):¬e3 (cb c) (S.C c) (addr c y):=
 Nw g.m0 (u.ok c d).inv (by have:=pC d;omega) (u.ok c d).many.2.2 g.i
theorem iW.jU{y:Nat×Nat×List cc}(u:c∈cls)(g:iW top S c y):e3 (cb d) (dF S.C c y.2.2 d) a↔e3 (cb d) (S.C d) a\/(d=c/\a=addr c y):=by by_cases e:d=c;subst e;rw[jD,g.m0.jU (by have:=pC u;omega)];constructor;rintro(h|h);simp_all;exact .inr ⟨rfl,h⟩;rintro(h|⟨_,h⟩);simp_all;exact .inr h;grind[jc]
theorem iW.apart{y:Nat×Nat×List cc}(D:dd top S)(u:c∈cls)(g:iW top S c y)(E:d∈cls)(h:e3 (cb d) (S.C d) a):a+cb d<=addr c y\/addr c y+cb c<=a:=
 e3.apart (g.inv S.Q S.bz S.m) E u ((g.jU u).2 (.inl h)) ((g.jU u).2 (.inr ⟨rfl,rfl⟩)) (by by_cases e:d=c;subst e;exact .inr λw=>g.fresh D u (w▸h);exact .inl e)
theorem j1.jU{aD i:Nat}{L':List cc}(w:dd top S)(u:c∈cls)(g:j1 top S c aD i L')(h:e3 (cb d) (S.C d) a)(D:d≠c\/a≠aD*1024+64+i*cb c):e3 (cb d) (dF S.C c L' d) a:=by by_cases e:d=c;subst e;rw[jD];exact g.nq.jU (w.ok d u).inv (by have:=pC u;omega) h (D.resolve_left λh=>h rfl);grind[jc]
def bp(m:Nat->Nat)(t j:Nat):Nat:=cO m (t+j*8)
def d6(m:Nat->Nat)(t s:Nat):Nat:=if bp m t (s/16)=0 then 0 else cO m (bp m t (s/16)+s %16*16)
def dP(m:Nat->Nat)(t s:Nat):Nat:=if bp m t (s/16)=0 then 0 else cO m (bp m t (s/16)+s %16*16+8)
structure gf(top:Nat)(S:cL)(t:Nat):Prop where
  tk:e3 128 (S.C 2) t
  fF:∀j,j<16->bp S.m t j≠0->e3 256 (S.C 7) (bp S.m t j)
  bi:∀j k,j<16->k<16->j≠k->bp S.m t j≠0->bp S.m t j≠bp S.m t k
  ne:∀j,j<16->bp S.m t j≠0->∃i,i<16/\cO S.m (bp S.m t j+i*16)≠0
  J:∀j,j<16->bp S.m t j≠0->∀i,i<16->cO S.m (bp S.m t j+i*16)=0->cO S.m (bp S.m t j+i*16+8)=0
def JW(m:Nat->Nat)(t o:Nat):Prop:=(t<=o/\o+8<=t+128)\/∃j,j<16/\bp m t j≠0/\bp m t j<=o/\o+8<=bp m t j+256
variable{t:Nat}
theorem gf.oC(h:gf top S t){s:Nat}(hs:s<256)(e:d6 S.m t s=0):dP S.m t s=0:=by rw[d6]at e;rw[dP];by_cases d:bp S.m t (s/16)=0;rw[aw d];rw[al d]at e⊢;exact h.J _ U d _ U e
theorem c2:(2:Nat)∈cls:=by decide
theorem fL:(7:Nat)∈cls:=by decide
theorem gf.bd(d:dd top S)(h:gf top S t):t %16=0/\64<=t/\t+128<=1024*2^top:=e3.bd d c2 h.tk
theorem gf.rM(u:dd top S)(h:gf top S t){j:Nat}(w:j<16)(d:bp S.m t j≠0):bp S.m t j %16=0/\64<=bp S.m t j/\bp S.m t j+256<=1024*2^top:=e3.bd u fL (h.fF j w d)
theorem gf.nu{a8:cL}(h:gf top S t)(Q:e3 128 (a8.C 2) t)(W:∀j,j<16->bp S.m t j≠0->e3 256 (a8.C 7) (bp S.m t j))(hm:∀o,JW S.m t o->cO a8.m o=cO S.m o):
 gf top a8 t/\(∀j,j<16->bp a8.m t j=bp S.m t j)/\∀s,s<256->d6 a8.m t s=d6 S.m t s/\dP a8.m t s=dP S.m t s:=by
 have w:∀j,j<16->bp a8.m t j=bp S.m t j:=λj u=>hm _ (.inl ⟨by omega,by omega⟩);refine⟨⟨Q,λj u d=>?_,λj k u N V d=>?_,λj u d=>?_,λj u d i E D=>?_⟩,w,λs Z=>?_⟩;simp_all;rw[w j u]at d⊢;rw[w k N];exact h.bi j k u N V d;rw[w j u]at d⊢;obtain⟨i,E,D⟩:=h.ne j u d;exact⟨i,E,by rw[hm _ (.inr ⟨j,u,d,by omega,by omega⟩)];exact D⟩;rw[w j u]at d D⊢;have O:=hm (bp S.m t j+i*16) (.inr ⟨j,u,d,by omega,by omega⟩);have P:=hm (bp S.m t j+i*16+8) (.inr ⟨j,u,d,by omega,by omega⟩);rw[O]at D;rw[P];exact h.J j u d i E D;have H:s/16<16:=U
 rw[d6,d6,dP,dP,w _ H];by_cases d:bp S.m t (s/16)=0;simp_all;rw[al d,al d,al d,al d];exact⟨hm _ (.inr ⟨_,H,d,by omega,by omega⟩),hm _ (.inr ⟨_,H,d,by omega,by omega⟩)⟩
variable{o:Nat}
theorem mJ{m:Nat->Nat}{d:Nat}(h:d+8<=o\/o+16<=d):cO (dv m o [a,b]) d=cO m d:=HO (L:=[a,b]) h
theorem te{m:Nat->Nat}(h:a<2^64):cO (dv m o [a,b]) o=a:=BI (L:=[a,b]) (j:=0) rfl h
theorem B5{m:Nat->Nat}(h:b<2^64):cO (dv m o [a,b]) (o+8)=b:=BI (L:=[a,b]) (j:=1) rfl h
theorem q5{m:Nat->Nat}{d:Nat}(h:d+8<=o\/o+8<=d):cO (dv m o [a]) d=cO m d:=HO (L:=[a]) h
theorem B4{m:Nat->Nat}(h:a<2^64):cO (dv m o [a]) o=a:=BI (L:=[a]) (j:=0) rfl h
theorem gf.s4(P:dd top S)(h:gf top S t){s:Nat}(hs:s<256)(O:bp S.m t (s/16)≠0)(Q:a<2^64)(ag:b<2^64)(av:a=0->b=0)
 (W:a≠0\/∃i,i<16/\i≠s %16/\cO S.m (bp S.m t (s/16)+i*16)≠0) {a8:cL} (Z:a8.C=S.C) (hm:a8.m=dv S.m (bp S.m t (s/16)+s %16*16) [a,b]):
 gf top a8 t/\(∀j,j<16->bp a8.m t j=bp S.m t j)/\d6 a8.m t s=a/\dP a8.m t s=b/\∀r,r<256->r≠s->d6 a8.m t r=d6 S.m t r/\dP a8.m t r=dP S.m t r:=by
 have H:s/16<16:=U
 have ax:=h.bd P;have w:∀j,j<16->bp a8.m t j=bp S.m t j:=λj d=>(by have:=e3.apart P c2 fL h.tk (h.fF _ H O) (.inl am);have e:cb 2=128:=rfl;have ar:cb 7=256:=rfl;grind[bp,mJ]);have hw:∀j i,j<16->i<16->bp S.m t j≠0->(j≠s/16\/i≠s %16)->cO a8.m (bp S.m t j+i*16)=cO S.m (bp S.m t j+i*16)/\cO a8.m (bp S.m t j+i*16+8)=cO S.m (bp S.m t j+i*16+8):=λj i d E u V=>(by rw[hm];by_cases e:j=s/16;grind[mJ];have:=e3.apart P fL fL (h.fF j d u) (h.fF _ H O) (.inr (h.bi j _ d H e u));have ar:cb 7=256:=rfl;grind[mJ]);refine⟨⟨by rw[Z];exact h.tk,λj d u=>?_,λj k d an V u=>?_,λj d u=>?_,λj d u i E D=>?_⟩,w,?_,?_,λr aA aB=>?_⟩;rw[w j d]at u⊢;rw[Z];exact h.fF j d u;rw[w j d]at u⊢;rw[w k an];exact h.bi j k d an V u;rw[w j d]at u⊢;by_cases e:j=s/16;subst e;rcases W with W|⟨i,E,V,bK⟩;exact⟨s %16,by omega,by rw[hm,te Q];exact W⟩;grind;obtain⟨i,E,bK⟩:=h.ne j d u;grind;rw[w j d]at u D⊢;by_cases e:j=s/16/\i=s %16;obtain⟨rfl,rfl⟩:=e;rw[hm,te Q]at D;rw[hm,B5 ag];exact av D;have:=hw j i d E u U;rw[this.1]at D;rw[this.2];exact h.J j d u i E D;rw[d6,w _ H,al O,hm,te Q];rw[dP,w _ H,al O,hm,B5 ag];have aq:r/16<16:=U
 rw[d6,d6,dP,dP,w _ aq];by_cases N:bp S.m t (r/16)=0;simp_all;rw[al N,al N,al N,al N];exact hw _ _ aq U N U
theorem gf.R5(P:dd top S)(h:gf top S t){s:Nat}(hs:s<256)(ax:bp S.m t (s/16)=0)(aV:a<2^64)(a0:b<2^64)(aB:a≠0){y:Nat×Nat×List cc}(g:iW top S 7 y)
 {a8:cL} (aA:a8.C=dF S.C 7 y.2.2) (hm:a8.m=dv (dv (ho S.m (addr 7 y) 256) (t+s/16*8) [addr 7 y]) (addr 7 y+s %16*16) [a,b]):
 gf top a8 t/\bp a8.m t (s/16)=addr 7 y/\(∀j,j<16->j≠s/16->bp a8.m t j=bp S.m t j)/\d6 a8.m t s=a/\dP a8.m t s=b/\(∀r,r<256->r≠s->d6 a8.m t r=d6 S.m t r/\dP a8.m t r=dP S.m t r)/\
  ∀i,i<16->i≠s %16->cO a8.m (addr 7 y+i*16)=0:=by
 have a5:s/16<16:=U
 have a4:=h.bd P;have V:cb 2=128:=rfl;have av:cb 7=256:=rfl;have aY:=g.apart P fL c2 h.tk;have aG:e3 256 (dF S.C 7 y.2.2 7) (addr 7 y):=(g.jU fL).2 (.inr ⟨rfl,rfl⟩);have a2:=e3.bd (g.inv S.Q S.bz S.m) fL aG;have a9:2^top<=128:=UV (n:=2) am P.f8.2;generalize aS:addr 7 y=A at*;rw[V,av]at aY;rw[av]at a2;have H:∀j,j<16->j≠s/16->bp a8.m t j=bp S.m t j:=λj d N=>(by rw[bp,hm,mJ U,q5 U,Ai U];rfl);have E:bp a8.m t (s/16)=A:=by rw[bp,hm,mJ U,B4 U]
 have aq:∀j,j<16->bp S.m t j≠0->bp S.m t j+256<=A\/A+256<=bp S.m t j:=λj d u=>(by have:=g.apart P fL fL (h.fF j d u);rw[aS]at this;exact this);have a3:∀j,j<16->bp S.m t j≠0->t+128<=bp S.m t j\/bp S.m t j+256<=t:=λj d u=>e3.apart P c2 fL h.tk (h.fF j d u) (.inl am);have hw:∀j i,j<16->i<16->bp S.m t j≠0->cO a8.m (bp S.m t j+i*16)=cO S.m (bp S.m t j+i*16)/\cO a8.m (bp S.m t j+i*16+8)=cO S.m (bp S.m t j+i*16+8):=λj i d w u=>(by have g1:=aq j d u;have g2:=a3 j d u;rw[hm];exact⟨by rw[mJ U,q5 U,Ai U],by rw[mJ U,q5 U,Ai U]⟩);have ar:∀i,i<16->i≠s %16->cO a8.m (A+i*16)=0/\cO a8.m (A+i*16+8)=0:=λi w N=>(by rw[hm];exact⟨by rw[mJ U,q5 U,wX U U],by rw[mJ U,q5 U,wX U U]⟩);have Z:cO a8.m (A+s %16*16)=a/\cO a8.m (A+s %16*16+8)=b:=by rw[hm];exact⟨te aV,B5 a0⟩
 have W:A≠0:=U
 refine⟨⟨by rw[aA];exact(g.jU fL).2 (.inl h.tk),λj d u=>?_,λj k d ag N u=>?_,λj d u=>?_,λj d u i w O=>?_⟩,E,H,?_,?_,λr a7 N=>?_,λi w N=>(ar i w N).1⟩;rw[aA];by_cases e:j=s/16;subst e;rw[E];exact aG;rw[H j d e]at u⊢;exact(g.jU fL).2 (.inl (h.fF j d u));by_cases e:j=s/16;subst e;rw[E,H k ag (λe=>N e.symm)];intro an;have:=aq k ag U;omega;rw[H j d e]at u⊢;by_cases an:k=s/16;subst an;rw[E];have:=aq j d u;omega;rw[H k ag an];exact h.bi j k d ag N u;by_cases e:j=s/16;subst e;rw[E];exact⟨s %16,by omega,by rw[Z.1];exact aB⟩;rw[H j d e]at u⊢;obtain⟨i,w,bK⟩:=h.ne j d u;exact⟨i,w,by rw[(hw j i d w u).1];exact bK⟩;by_cases e:j=s/16;subst e;rw[E]at O⊢;by_cases V:i=s %16;subst V;rw[Z.1]at O;exact absurd O aB;exact(ar i w V).2;rw[H j d e]at u O⊢;rw[(hw j i d w u).1]at O;rw[(hw j i d w u).2];exact h.J j d u i w O;rw[d6,E,al W];exact Z.1;rw[dP,E,al W];exact Z.2;have aI:r/16<16:=U
 rw[d6,d6,dP,dP];by_cases e:r/16=s/16;rw[e,E,al W,al W,aw ax,aw ax];exact ar _ U U;rw[H _ aI e];by_cases D:bp S.m t (r/16)=0;rw[aw D,aw D,aw D,aw D];exact⟨rfl,rfl⟩;rw[al D,al D,al D,al D];exact hw _ _ aI U D
theorem gf.K7(P:dd top S)(h:gf top S t){s aD i0:Nat}{L':List cc}(hs:s<256)(V:bp S.m t (s/16)≠0)(ax:∀i,i<16->i≠s %16->cO S.m (bp S.m t (s/16)+i*16)=0)
 (ar:bp S.m t (s/16)=aD*1024+64+i0*256) (g:j1 top S 7 aD i0 L') {a8:cL} (ag:a8.C=dF S.C 7 L') (hm:a8.m=dv (dv S.m (bp S.m t (s/16)+s %16*16) [0,0]) (t+s/16*8) [0]):
 gf top a8 t/\bp a8.m t (s/16)=0/\(∀j,j<16->j≠s/16->bp a8.m t j=bp S.m t j)/\d6 a8.m t s=0/\∀r,r<256->r≠s->d6 a8.m t r=d6 S.m t r/\(d6 S.m t r≠0->dP a8.m t r=dP S.m t r):=by
 have Q:s/16<16:=U
 have aq:∀j,j<16->bp S.m t j≠0->t+128<=bp S.m t j\/bp S.m t j+256<=t:=λj u d=>e3.apart P c2 fL h.tk (h.fF j u d) (.inl am);have av:∀j,j<16->j≠s/16->bp S.m t j≠0->bp S.m t j+256<=bp S.m t (s/16)\/bp S.m t (s/16)+256<=bp S.m t j:=λj u H d=>e3.apart P fL fL (h.fF j u d) (h.fF _ Q V) (.inr (h.bi j _ u Q H d));have aB:=aq _ Q V;have N:∀j,j<16->j≠s/16->bp a8.m t j=bp S.m t j:=λj u H=>(by rw[bp,hm,q5 U,mJ U];rfl);have D:bp a8.m t (s/16)=0:=by rw[bp,hm,B4 U]
 have hw:∀j i,j<16->j≠s/16->i<16->bp S.m t j≠0->cO a8.m (bp S.m t j+i*16)=cO S.m (bp S.m t j+i*16)/\cO a8.m (bp S.m t j+i*16+8)=cO S.m (bp S.m t j+i*16+8):=λj i u H E d=>(by have g1:=av j u H d;have g2:=aq j u d;rw[hm];exact⟨by rw[q5 U,mJ U],by rw[q5 U,mJ U]⟩);refine⟨⟨by rw[ag];exact g.jU P fL h.tk (.inl am),λj u d=>?_,λj k u an H d=>?_,λj u d=>?_,λj u d i E W=>?_⟩,D,N,by rw[d6,aw D],λr aG H=>?_⟩;have e:j≠s/16:=λe=>by subst e;exact d D
 rw[N j u e]at d⊢;rw[ag];exact g.jU P fL (h.fF j u d) (.inr λO=>h.bi j _ u Q e d (by rw[ar];exact O));have e:j≠s/16:=λe=>by subst e;exact d D
 rw[N j u e]at d⊢;by_cases O:k=s/16;subst O;rw[D];exact d;rw[N k an O];exact h.bi j k u an H d;have e:j≠s/16:=λe=>by subst e;exact d D
 rw[N j u e]at d⊢;obtain⟨i,E,bK⟩:=h.ne j u d;exact⟨i,E,by rw[(hw j i u e E d).1];exact bK⟩;have e:j≠s/16:=λe=>by subst e;exact d D
 rw[N j u e]at d W⊢;rw[(hw j i u e E d).1]at W;rw[(hw j i u e E d).2];exact h.J j u d i E W;have Z:r/16<16:=U
 rw[d6,d6,dP,dP];by_cases e:r/16=s/16;have aA:=ax (r %16) U U;rw[e,aw D,al V,aA];exact⟨rfl,λh=>absurd rfl h⟩;rw[N _ Z e];by_cases w:bp S.m t (r/16)=0;rw[aw w,aw w,aw w,aw w];exact⟨rfl,λ_=>rfl⟩;rw[al w,al w,al w,al w];exact⟨(hw _ _ Z e U w).1,λ_=>(hw _ _ Z e U w).2⟩
end Go.Proofs.YtglgidjhoncphaaGreatDoor
namespace Go.Proofs.YtglgidjhoncphaaGreatDoor
open Go Go.QM
variable [dK]
theorem Me{m:Nat->Nat}{t s:Nat}(h:bp m t (s/16)≠0):d6 m t s=cO m (bp m t (s/16)+s %16*16)/\dP m t s=cO m (bp m t (s/16)+s %16*16+8):=⟨al h,al h⟩
theorem Md{m:Nat->Nat}{t s:Nat}(h:bp m t (s/16)=0):d6 m t s=0/\dP m t s=0:=⟨aw h,aw h⟩
theorem j1.rU{top:Nat}{S a8:cL}{c aD i:Nat}{L':List cc}(g:j1 top S c aD i L')(zJ:S.C=a8.C:=by rfl)(EB:S.Fr=a8.Fr:=by rfl):j1 top a8 c aD i L':=⟨by rw[<-zJ];exact g.nq,λQ bz m=>by rw[<-zJ,<-EB];exact g.inv Q bz m,by rw[<-zJ,<-EB];exact g.len⟩
theorem HY(af top:Nat)(d:Int)(t:Nat)(S:cL)(H:dd top S)(E:e3 128 (S.C 2) t):bL 28 [ae af,aa d,aa t] c7 [e6 af top S] (λaQ:Nat=>ae aQ) (λ_=>True) (λaQ=>[aj aQ 163 [ae af,aa d,aa t],e6 af top S]):=by apply aG Tryz.func28 Tryz.ntmps28;intro F u;apply J [1];haveI:cz F:=⟨u⟩;obtain⟨k,aD,i,f,D,w,rfl⟩:=E.at;apply J [131,32];apply aq (Bf af top S 2 c2 k aD i f D w);refine J [5,89,99,35,2,585,0,309] ?_;intro bb;apply J [106];exact br bb trivial ai
theorem q3(aQ af top:Nat)(d:Int)(t:Nat)(S:cL)(w:dd top S)(E:gf top S t)(s:Nat)(hs:s<256):bu 30 [ae aQ,aa s] be [aj aQ 163 [ae af,aa d,aa t],e6 af top S] (.tuple #[bj (d6 S.m t s:Int),bj (dP S.m t s:Int)]) [aj aQ 163 [ae af,aa d,aa t],e6 af top S]:=by
 apply aG Tryz.func30 Tryz.ntmps30;intro F _;apply J [13];have P:=E.bd w;have N:=w.f8;have V:2^top<=128:=UV (n:=2) am N.2;have O:s/16<16:=U
 have H:cO S.m (t+s/16*8)<1073741824:=(by by_cases u:bp S.m t (s/16)=0;rw[show cO S.m (t+s/16*8)=0 from u];decide;have:=E.rM w O u;rw[show cO S.m (t+s/16*8)=bp S.m t (s/16)from rfl];omega);apply J [24,242,253,282];apply aq (va s hs);apply J [7,321,41,305,282];apply aq (s9 aQ af top d t S s hs ⟨P.2.2,by omega,N.2⟩ H);apply J [7];rw[show cO S.m (t+s/16*8)=bp S.m t (s/16)from rfl]at H⊢;apply J [156,97];apply UR rfl<;>intro u;obtain⟨C,D⟩:=Md (m:=S.m) (t:=t) (s:=s) U;rw[C,D];apply J [24,368];exact hR ai;have u:bp S.m t (s/16)≠0:=U
 obtain⟨C,D⟩:=Me (m:=S.m) u;have Q:=E.rM w O u;rw[C,D];apply J [4,32];apply aq (s9 aQ af top d t S s hs ⟨P.2.2,by omega,N.2⟩ H);apply J [7];rw[show cO S.m (t+s/16*8)=bp S.m t (s/16)from rfl];apply J [28];apply aq (ta (bp S.m t (s/16)) s hs U);apply J [7,27,32];apply aq (xY aQ af top d t S (bp S.m t (s/16)+s %16*16) U U);apply J [7,162,2];refine q rfl rfl (V0 (v:=((bp S.m t (s/16)+s %16*16+8:Nat):Int)) (io rfl rfl U U) U) ?_;refine e rfl ?_;apply aq (xY aQ af top d t S (bp S.m t (s/16)+s %16*16+8) U U);apply J [7,69];exact hR ai
theorem BY(aQ af top:Nat)(w:Int)(t:Nat)(S:cL)(d:dd top S)(E:gf top S t)(s:Nat)(hs:s<256)(a b:Nat)(ax:a<2^64)(aI:b<2^64)(aB:a≠0)(V:bp S.m t (s/16)≠0):bu 165 [ae aQ,aa s,bj a,bj b] be [aj aQ 163 [ae af,aa w,aa t],e6 af top S] (aa 0) [aj aQ 163 [ae af,aa w,aa t],e6 af top ⟨S.Q,S.bz,S.C,S.Fr,dv S.m (bp S.m t (s/16)+s %16*16) [a,b]⟩]:=by
 apply aG Tryz.func165 Tryz.ntmps165;intro F _;apply J [13];have an:=E.bd d;have O:=d.f8;have aV:2^top<=128:=UV (n:=2) am O.2;have ag:s/16<16:=U
 have aS:=E.rM d ag V;have Z:cO S.m (t+s/16*8)<1073741824:=by grind[bp]
 apply J [39,76,71,189,169];apply aq (va s hs);apply J [7,264,26,201];refine UR rfl (λH=>absurd H U) (λH=>?_);apply J [23,32];apply aq (s9 aQ af top w t S s hs ⟨an.2.2,by omega,O.2⟩ Z);apply J [7];rw[show cO S.m (t+s/16*8)=bp S.m t (s/16)from rfl];apply J [31,177];refine UR rfl (λN=>absurd N U) (λN=>?_);refine ab.open 1 rfl (λav ar=>?_);obtain⟨cH,bd,u,D⟩:=av;have d:=ar;apply J [226];dsimp only at d⊢;apply J [4,40,0];apply aq (l6 af cH bd u D);apply J [16,193];apply aq (ta (bp S.m t (s/16)) s hs U);refine J [16,193,231] ?_;intro bo;refine e rfl ?_;apply eE (lK u (1024*2^top) (bp S.m t (s/16)+s %16*16) S.m [a,b] (cK bo) 2 U cE jv U (by intro x P;simp only[U0,UZ,or_false]at P;rcases P with rfl|rfl<;>assumption)) ⟨_,bn.rd (ad:=some ⟨bo,0,none⟩)⟩;apply J [78,30];have W:dd top ⟨S.Q,S.bz,S.C,S.Fr,dv S.m (bp S.m t (s/16)+s %16*16) [a,b]⟩:=by grind[dd]
 exact eZ (bI 6 rfl (ay (dR.mk cH bd u D:dR af) W ai))
def uX(S:cL)(Ms:Int)(t s a b:Nat):Option (Nat×Nat×List cc)->cL
  | some y=>⟨(aB.c9 S.Q Ms (cb 7:Int)).1,S.bz,dF S.C 7 y.2.2,S.Fr,dv (dv (ho S.m (addr 7 y) 256) (t+s/16*8) [addr 7 y]) (addr 7 y+s %16*16) [a,b]⟩
  | none=>S
theorem Th(aQ af top:Nat)(d:Int)(t:Nat)(S:cL)(W:dd top S)(aI:gf top S t)(s:Nat)(hs:s<256)(a b:Nat)(bc:a<2^64)(bh:b<2^64)(be:a≠0)(P:bp S.m t (s/16)=0):bL 165 [ae aQ,aa s,bj a,bj b] c7 [aj aQ 163 [ae af,aa d,aa t],e6 af top S] (λy:Option (Nat×Nat×List cc)×Int=>aa y.2) (λy=>Cz top S d 7 y) (λy=>[aj aQ 163 [ae af,aa d,aa t],e6 af top (uX S d t s a b y.1)]):=by
 apply aG Tryz.func165 Tryz.ntmps165;intro F ar;apply J [13];haveI:cz F:=⟨ar⟩;have a2:=aI.bd W;have an:=W.f8;have bl:2^top<=128:=UV (n:=2) am an.2;have bi:s/16<16:=U
 have aV:cO S.m (t+s/16*8)<1073741824:=by rw[show cO S.m (t+s/16*8)=0 from P];decide
 apply J [39,76,71,189,169];apply aq (va s hs);apply J [7,264,26,201];refine UR rfl (λZ=>absurd Z U) (λZ=>?_);apply J [23,32];apply aq (s9 aQ af top d t S s hs ⟨a2.2.2,by omega,an.2⟩ aV);apply J [7];rw[show cO S.m (t+s/16*8)=0 from P];apply J [31,177,17,8];refine cC [0,1,2,3,4,5,6,7,-8,9,10,11,12,13] (ao (aZ _)) ?_;apply J [49,123,12];apply a7 (uK af top S d 7 fL);intro⟨a8,cm⟩ H;refine J [239,6] ?_;cases a8 with|none=>?_|some y=>?_
 dsimp only[pv,kj];apply J [167,272,275,8,34];refine UR rfl (λag=>?_) (λag=>absurd (H.1) ag);apply J [142];refine ab.ret (rt (rt ?_));exact br (none,cm) H ai;obtain⟨rfl,a0,cn⟩:=H;dsimp only[pv,kj];have aY:e3 256 (dF S.C 7 y.2.2 7) (addr 7 y):=(cn.jU fL).2 (.inr ⟨rfl,rfl⟩);have aS:=e3.bd (cn.inv (aB.c9 S.Q d (cb 7:Int)).1 S.bz (ho S.m (addr 7 y) 256)) fL aY;have O:cb 7=256:=rfl;rw[O]at aS;rw[O];have a9:=cn.inv (aB.c9 S.Q d (cb 7:Int)).1 S.bz (ho S.m (addr 7 y) 256);have av:=λa4=>cn.inv (aB.c9 S.Q d (cb 7:Int)).1 S.bz a4;generalize V:addr 7 y=u at*;apply J [167,272,275,8,198,142,38,53];refine aT.open 0 rfl (λa5 a3=>?_);obtain⟨cH,bd,w,E⟩:=a5;have ax:=a3;apply J [16];dsimp only at ax⊢;refine e rfl ?_;apply aq (l6 af cH bd w E);apply J [16,162,28];apply aq (BX aQ af d t s hs U);refine J [16,2,307,0,149] ?_;intro cl;refine e rfl ?_;apply eE (lK w (1024*2^top) (t+s/16*8) (ho S.m u 256) [u] (cK cl) 1 U cE jv U (by intro x D;simp only[U0,UZ,or_false]at D;subst D;omega)) ⟨_,bn.rd (ad:=some ⟨cl,0,none⟩)⟩;apply J [78,3,40,0];apply aq (l6 af cH bd w E);apply J [78,193];apply aq (ta u s hs U);refine J [78,193,231] ?_;intro N;refine e rfl ?_;apply eE (lK w (1024*2^top) (u+s %16*16) (dv (ho S.m u 256) (t+s/16*8) [u]) [a,b] (cK N) 2 U cE jv U (by intro x D;simp only[U0,UZ,or_false]at D;rcases D with rfl|rfl<;>assumption)) ⟨_,bn.rd (ad:=some ⟨N,0,none⟩)⟩;apply J [22,30];exact br (some y,0) (by subst V;exact⟨rfl,a0,cn⟩) (by subst V;exact(eL (ay (dR.mk cH bd w E:dR af) (av _) ai)))
theorem H4(aQ af top:Nat)(d:Int)(t:Nat)(S:cL)(l:Nat)(P:l+256<=1024*2^top)(Q:l %8=0)(H:top<=7)(em:Bool)(he:em=true↔∀i,i<16->cO S.m (l+i*16)=0):bu 288 [ae aQ,aa l] be [aj aQ 163 [ae af,aa d,aa t],e6 af top S] (.bool em) [aj aQ 163 [ae af,aa d,aa t],e6 af top S]:=by
 apply aG Tryz.func288 Tryz.ntmps288;intro F _;apply J [13];have W:2^top<=128:=UV (n:=2) am H;apply J [135,122,250];refine Vp (ι:=Nat) (λi=>i<=16/\∀j,j<i->cO S.m (l+j*16)=0) (λi=>[(0,ae aQ),(1,aa l),(6,aa ((i:Nat):Int))]) (λi=>ah [aj aQ 163 [ae af,aa d,aa t],e6 af top S,F]) (λi=>16-i) 0 ⟨by omega,λj h=>by omega⟩ bC (ao (ao (ao (aZ _)))) ?_;rintro i ⟨E,u⟩ Z;dsimp only[cr]at E u⊢;apply J [43];apply UR rfl<;>intro V;have N:i<16:=U
 have C:i %16=i:=U
 apply J [64,142,35,28];apply aq (ta l i U U);apply J [7];rw[C];refine e rfl ?_;apply aq (xY aQ af top d t S (l+i*16) U U);apply J [7,91,3];apply UR rfl<;>intro w;have hv:em=false:=cp;rw[hv];apply J [135,216];exact dw;have w:cO S.m (l+i*16)=0:=U
 refine J [112] ?_;exact⟨rfl,(i+1),⟨by omega,λj O=>by by_cases D:j=i;subst D;exact w;exact u j U⟩,U,⟨rfl,rfl,rfl,trivial⟩,ai⟩;obtain rfl:i=16:=by omega
 rw[he.2 u];apply J [21,24,63];exact dw
theorem SU(aQ af top:Nat)(d:Int)(t:Nat)(S:cL)(u:dd top S)(D:gf top S t)(s:Nat)(hs:s<256)(W:bp S.m t (s/16)≠0)(a0:d6 S.m t s≠0)(aS:∃i,i<16/\i≠s %16/\cO S.m (bp S.m t (s/16)+i*16)≠0):bu 226 [ae aQ,aa s] c7 [aj aQ 163 [ae af,aa d,aa t],e6 af top S] (aa 0) [aj aQ 163 [ae af,aa d,aa t],e6 af top ⟨S.Q,S.bz,S.C,S.Fr,(dv S.m (bp S.m t (s/16)+s %16*16) [0,0])⟩]:=by
 apply aG Tryz.func226 Tryz.ntmps226;intro F Z;apply J [13];haveI:cz F:=⟨Z⟩;have aB:=D.bd u;have E:=u.f8;have a2:2^top<=128:=UV (n:=2) am E.2;have ax:s/16<16:=U
 have an:=D.rM u ax W;have ar:cO S.m (t+s/16*8)<1073741824:=by grind[bp]
 have ag:∀aV,dd top ⟨S.Q,S.bz,S.C,S.Fr,aV⟩:=by grind[dd]
 apply J [39,32];apply aq (q3 aQ af top d t S u D s hs);apply J [7,268,141,76,71,189,169];apply aq (va s hs);apply J [7,264,26,201];refine UR rfl (λO=>absurd O U) (λO=>?_);apply J [23,32];apply aq (s9 aQ af top d t S s hs ⟨aB.2.2,by omega,E.2⟩ ar);apply J [7];rw[show cO S.m (t+s/16*8)=bp S.m t (s/16)from rfl];refine aT.open 1 rfl (λaY aI=>?_);obtain⟨cH,bd,w,N⟩:=aY;have u:=aI;apply J [16];dsimp only at u⊢;apply J [27,40,0];apply aq (l6 af cH bd w N);apply J [16,193];apply aq (ta (bp S.m t (s/16)) s hs U);refine J [16,0,231] ?_;intro H;refine e rfl ?_;apply eE (lK w (1024*2^top) (bp S.m t (s/16)+s %16*16) S.m [0,0] (cK H) 2 U cE jv U (by intro x V;simp only[U0,UZ,or_false]at V;rcases V with rfl|rfl<;>decide)) ⟨_,bn.rd (ad:=some ⟨H,0,none⟩)⟩;apply J [78,29,35];refine aT.bg (B:=ah [aj aQ 163 [ae af,aa d,aa t],e6 af top ⟨S.Q,S.bz,S.C,S.Fr,(dv S.m (bp S.m t (s/16)+s %16*16) [0,0])⟩,F]) (bI 6 rfl (ay (dR.mk cH bd w N:dR af) (ag _) ai)) ?_;have hw:∀i,i<16->i≠s %16->cO (dv S.m (bp S.m t (s/16)+s %16*16) [0,0]) (bp S.m t (s/16)+i*16)=cO S.m (bp S.m t (s/16)+i*16):=by grind[mJ]
 have a3:cO (dv S.m (bp S.m t (s/16)+s %16*16) [0,0]) (bp S.m t (s/16)+s %16*16)=0:=by grind[te]
 have he:false=true↔∀i,i<16->cO (dv S.m (bp S.m t (s/16)+s %16*16) [0,0]) (bp S.m t (s/16)+i*16)=0:=⟨λh=>(by cases h),λh=>by obtain⟨i,P,av,bK⟩:=aS;exact absurd (by rw[<-hw i P av];exact h i P) bK⟩;refine e rfl ?_;apply aq (H4 aQ af top d t ⟨S.Q,S.bz,S.C,S.Fr,(dv S.m (bp S.m t (s/16)+s %16*16) [0,0])⟩ (bp S.m t (s/16)) an.2.2 U E.2 false he);apply J [7,99,209];exact dw
theorem SS(aQ af top:Nat)(d:Int)(t:Nat)(S:cL)(w:dd top S)(H:gf top S t)(s:Nat)(hs:s<256)(ar:bp S.m t (s/16)≠0)(bc:d6 S.m t s≠0)(k aD i0:Nat)(f:Nat->Bool)(aS:(S.C 7)[k]? =some ⟨aD,f⟩)(aI:f i0=true)(aV:bp S.m t (s/16)=aD*1024+64+i0*256)(a7:∀i,i<16->i≠s %16->cO S.m (bp S.m t (s/16)+i*16)=0)(a3:(aB.ek S.Q d (cb 7:Int)).2=0):bL 226 [ae aQ,aa s] c7 [aj aQ 163 [ae af,aa d,aa t],e6 af top S] (λ_:List cc=>aa 0) (λL'=>j1 top S 7 aD i0 L') (λL'=>[aj aQ 163 [ae af,aa d,aa t],e6 af top ⟨(aB.ek S.Q d (cb 7:Int)).1,S.bz,dF S.C 7 L',S.Fr,(dv (dv S.m (bp S.m t (s/16)+s %16*16) [0,0]) (t+s/16*8) [0])⟩]):=by
 apply aG Tryz.func226 Tryz.ntmps226;intro F av;apply J [13];haveI:cz F:=⟨av⟩;have a4:=H.bd w;have N:=w.f8;have be:2^top<=128:=UV (n:=2) am N.2;have a2:s/16<16:=U
 have aY:=H.rM w a2 ar;have a0:cO S.m (t+s/16*8)<1073741824:=by grind[bp]
 have Z:∀a8,dd top ⟨S.Q,S.bz,S.C,S.Fr,a8⟩:=by grind[dd]
 apply J [39,32];apply aq (q3 aQ af top d t S w H s hs);apply J [7,268,141,76,71,189,169];apply aq (va s hs);apply J [7,264,26,201];refine UR rfl (λag=>absurd ag U) (λag=>?_);apply J [23,32];apply aq (s9 aQ af top d t S s hs ⟨a4.2.2,by omega,N.2⟩ a0);apply J [7];rw[show cO S.m (t+s/16*8)=bp S.m t (s/16)from rfl];refine aT.open 1 rfl (λP O=>?_);obtain⟨cH,bd,u,D⟩:=P;have w:=O;apply J [16];dsimp only at w⊢;apply J [27,40,0];apply aq (l6 af cH bd u D);apply J [16,193];apply aq (ta (bp S.m t (s/16)) s hs U);refine J [16,0,231] ?_;intro V;refine e rfl ?_;apply eE (lK u (1024*2^top) (bp S.m t (s/16)+s %16*16) S.m [0,0] (cK V) 2 U cE jv U (by intro x E;simp only[U0,UZ,or_false]at E;rcases E with rfl|rfl<;>decide)) ⟨_,bn.rd (ad:=some ⟨V,0,none⟩)⟩;apply J [78,29,35];refine aT.bg (B:=ah [aj aQ 163 [ae af,aa d,aa t],e6 af top ⟨S.Q,S.bz,S.C,S.Fr,(dv S.m (bp S.m t (s/16)+s %16*16) [0,0])⟩,F]) (bI 6 rfl (ay (dR.mk cH bd u D:dR af) (Z _) ai)) ?_;have hw:∀i,i<16->i≠s %16->cO (dv S.m (bp S.m t (s/16)+s %16*16) [0,0]) (bp S.m t (s/16)+i*16)=cO S.m (bp S.m t (s/16)+i*16):=by grind[mJ]
 have a5:cO (dv S.m (bp S.m t (s/16)+s %16*16) [0,0]) (bp S.m t (s/16)+s %16*16)=0:=by grind[te]
 have he:true=true↔∀i,i<16->cO (dv S.m (bp S.m t (s/16)+s %16*16) [0,0]) (bp S.m t (s/16)+i*16)=0:=⟨λ_ i an=>by by_cases e:i=s %16;rw[e];exact a5;rw[hw i an e];exact a7 i an e,λ_=>rfl⟩;refine e rfl ?_;apply aq (H4 aQ af top d t ⟨S.Q,S.bz,S.C,S.Fr,(dv S.m (bp S.m t (s/16)+s %16*16) [0,0])⟩ (bp S.m t (s/16)) aY.2.2 U N.2 true he);apply J [7,364];refine ab.open 1 rfl (λP O=>?_);obtain⟨cH,bd,u,D⟩:=P;have ax:=O;apply J [226];dsimp only at ax⊢;apply J [40,0];apply aq (l6 af cH bd u D);apply J [16,162,28];apply aq (BX aQ af d t s hs U);refine J [16,0,149] ?_;intro W;refine e rfl ?_;apply eE (lK u (1024*2^top) (t+s/16*8) (dv S.m (bp S.m t (s/16)+s %16*16) [0,0]) [0] (cK W) 1 U cE jv U (by intro x E;simp only[U0,UZ,or_false]at E;subst E;decide)) ⟨_,bn.rd (ad:=some ⟨W,0,none⟩)⟩;apply J [78,3];refine Wd (B:=ah [aj aQ 163 [ae af,aa d,aa t],e6 af top ⟨S.Q,S.bz,S.C,S.Fr,(dv (dv S.m (bp S.m t (s/16)+s %16*16) [0,0]) (t+s/16*8) [0])⟩,F]) (bv (ay (dR.mk cH bd u D:dR af) (Z _) ai)) ?_;refine cC [0,1,2,3,4,5,6,7,8,-9] (ao (aZ _)) ?_;apply J [49,123,15];have a9:cb 7=256:=rfl;refine dJ rfl rfl ?_;refine aL (uL af top ⟨S.Q,S.bz,S.C,S.Fr,(dv (dv S.m (bp S.m t (s/16)+s %16*16) [0,0]) (t+s/16*8) [0])⟩ 7 fL k aD i0 f aS aI d a3) (congrArg (λz:Nat=>[XV (some ⟨af,0,none⟩),.int .i64 d,.int .i64 7,.int .i64 ((z:Nat):Int)]) aV) ev.p cz.aW ?_;intro L' cn;refine J [239,110,209] ?_;exact br L' cn.rU ai
end Go.Proofs.YtglgidjhoncphaaGreatDoor
namespace Go.Proofs.YtglgidjhoncphaaGreatDoor.av
open Go Go.QM
structure fa where
  k:Int
  a:Int
  f:Int
def fa.l(o:fa):List Int:=[o.k,o.a,o.f]
structure bY where
  o:fa
  st:Int
  c4:Int
def ou:bY:=⟨⟨0,0,0⟩,0,0⟩
def xq(p:bY):List Value:=ints p.o.l++[.int .i64 p.st,.int .u32 p.c4]
theorem kM(p:bY):(xq p).length=5:=rfl
def gn(l:List bY):List Value:=l.flatMap xq
theorem HV(l:List bY):(gn l).length=l.length*5:=kE kM l
theorem SN{l:List bY}{i:Nat}{p:bY}(h:l[i]? =some p):0<(gn l).length:=by grind[HV]
structure dM(l:List bY):Prop where
  n:l.length=256
  c4:∀p∈l,0<=p.c4/\p.c4<=1048575
theorem dM.at{l:List bY}(h:dM l){i:Nat}(u:i<256):∃p,l[i]? =some p/\0<=p.c4/\p.c4<=1048575:=by
 have d:i<l.length:=by rw[h.n];exact u
 exact⟨l[i],UO d,h.c4 _ (List.getElem_mem d)⟩
theorem pS:bL 126 [] be [] (λb:Nat=>ae b) (λ_=>True) (λb=>[a1 264 5 (cK b) 256 256 (gn (Va 256 ou))]):=by apply aG Tryz.func126 Tryz.ntmps126;intro F _;apply J [9,168,24];refine q rfl rfl (eh (cs:=gn (Va 256 ou)) aM) ?_;refine e rfl ?_;refine e0 (v:=.agg (Vb (gn (Va 256 ou)))) (l:=gn (Va 256 ou)) rfl aM ?_;intro bb;apply J [106];exact br bb trivial (eH 0 rfl (Sp aM am) (ao (aZ _)))
theorem w9(b:Nat)(l:List bY)(i:Nat)(p:bY)(u:l[i]? =some p)(C:i<256)(w:0<=p.c4/\p.c4<=16777215):bu 151 [ae b,aa i] (λF=>∃E,cM F E (cK b) (gn l)) [] (aR (p.c4*256+i)) []:=by apply aG Tryz.func151 Tryz.ntmps151;intro F ⟨E,d⟩;apply J [9];haveI:bn F (cK b) E (gn l):=⟨d⟩;refine J [102,35,477,413,586] ?_;refine q rfl rfl (n4 4 rfl rfl) ?_;refine q rfl rfl (dC rfl rfl (lV kM u 4 U rfl)) ?_;refine q rfl rfl (BA rfl rfl U (Sa U U)) ?_;refine J [2,478] ?_;refine q rfl rfl (A6 rfl rfl (QA U U U U)) ?_;apply J [30];exact j8
theorem QW(p:bY):bu 184 [.agg (xq p).toArray] be [] (.bool (decide (p.st=0))) []:=by apply aG Tryz.func184 Tryz.ntmps184;intro F _;refine J [194,524] ?_;intro bo;apply J [37,24,248,296,63];exact eZ (bV (aZ _))
end Go.Proofs.YtglgidjhoncphaaGreatDoor.av
namespace Go.Proofs.YtglgidjhoncphaaGreatDoor.av
open Go Go.QM
theorem N0(ad:Option Addr)(cap:Nat)(l:List bY)(gY:FuncId)(lb:List Value)(pr:bY->Bool)(D:ax->Prop)(W:l.length<=100000000)(O:∀t,bu gY ([.agg (xq t).toArray]++lb) D [] (.bool (pr t)) []):fA Vv 183 [.slice ad l.length cap,.func (.func gY) #[] lb.toArray] (λF=>(∃E,cM F E ad (gn l))/\D (ah [F])) [] (λ_:Unit=>aa (match l.findIdx? pr with|some i=>(i:Int)|none=>-1)) (λ_=>True) (λ_=>[]):=by
 apply aG Tryz.func183 Tryz.ntmps183;intro F ⟨⟨E,H⟩,N⟩;apply J [9];haveI:bn F ad E (gn l):=⟨H⟩;apply J [39,33];refine q rfl rfl (len 210 5 rfl rfl) ?_;refine J [114,587] ?_;rintro k ⟨hinv,eI⟩ Z;dsimp only[cr]at hinv eI⊢;apply J [43];apply UR rfl<;>intro C;have C:k<l.length:=U
 obtain⟨t,w⟩:∃t,l[k]? =some t:=⟨l[k],UO C⟩;have V:=SN w;apply J [64,142,24,316,84,2];refine q rfl rfl (gP 210 5 rfl rfl rfl U dW) ?_;refine q rfl rfl (gv (vs:=[_,_,_,_,_]) 5 rfl rfl (nm kM w) rfl am) ?_;refine e rfl ?_;refine k4 (O t) rfl rfl (eu _) N ?_;intro _ _;apply J [153,3];cases Q:pr t with|true=>?_|false=>?_
 apply J [17,142,216];have d:l.findIdx? pr=some k:=by grind[wj]
 exact XT () [_] ⟨rfl,trivial⟩ (by rw[d];rfl) trivial ai;refine J [73,112] ?_;exact⟨rfl,(k+1),⟨by omega,λj u P hu=>by rcases Nat.lt_succ_iff_lt_or_eq.1 P with h|h;exact eI j u h hu;subst h;rw[w]at hu;cases hu;exact Q⟩,U,bC,(ao (aZ _))⟩;obtain rfl:k=l.length:=by omega
 have d:l.findIdx? pr=none:=by grind[zu]
 apply J [21,209];exact XT () [_] ⟨rfl,trivial⟩ (by rw[d];rfl) trivial (ao (aZ _))
def ej(l:List bY)(h st:Int):Option (Nat×bY):=match l[(h %256).toNat]? with
  | some p=>if p.c4*256+h %256=h/\p.st=st then some ((h %256).toNat,p)else none
  | none=>none
theorem n8{l:List bY}{h st:Int}{i:Nat}{p:bY}(d:0<=h)(e:ej l h st=some (i,p)):l[i]? =some p/\h=p.c4*256+i/\i<256/\p.st=st:=by grind[ej]
theorem Pw{l:List bY}{h st:Int}{p:bY}(e:ej l h st=none)(d:l[(h %256).toNat]? =some p):¬(p.c4*256+h %256=h/\p.st=st):=by grind[ej]
theorem yJ(b:Nat)(l:List bY)(i:Nat)(p:bY)(h st:Int)(N:dM l)(w:0<=h)(D:ej l h st=some (i,p)):bu 113 [ae b,aR h,aa st] (λF=>∃E,cM F E (cK b) (gn l)) [] (.tuple #[fy (cK b) (i*5),aa 0]) []:=by apply aG Tryz.func113 Tryz.ntmps113;intro F ⟨E,C⟩;apply J [9];haveI:bn F (cK b) E (gn l):=⟨C⟩;obtain⟨d,rfl,H,rfl⟩:=n8 w D;have O:=N.c4 p (US d);apply J [24,165,31,42,26];refine q rfl rfl (vK rfl rfl (C1 U U)) ?_;refine J [431,31,8] ?_;rw[show(p.c4*256+(i:Int)) %256=(i:Int)from by omega];apply J [175];apply eE (w9 b l i p d H U) ⟨_,bn.rd⟩;apply J [153,2,91,20];refine Ve 19 rfl (c:=false) (dk U) ?_;apply J [305,11];refine c8 rfl rfl rfl (uB rfl) ?_;refine c8 rfl rfl rfl (n4 0 rfl rfl) ?_;refine J [588] ?_;refine c8 rfl rfl rfl (n4 3 rfl rfl) ?_;refine c8 rfl rfl rfl (dC rfl rfl (lV kM d 3 U rfl)) ?_;apply J [11,158,97];refine UR rfl (λu=>absurd u U) (λu=>?_);refine J [4,35,477,413,586,165,30] ?_;exact XT () [_,_] ⟨rfl,rfl,trivial⟩ (congrArg (λo=>Value.tuple #[fy (some ⟨b,0,none⟩) o,.int .i64 0]) U) trivial (ao (aZ _))
theorem yI(b:Nat)(l:List bY)(h st:Int)(N:dM l)(O:0<=h/\h<=4294967295)(H:ej l h st=none):bu 113 [ae b,aR h,aa st] (λF=>∃E,cM F E (cK b) (gn l)) [] (.tuple #[.pointer none,aa 8]) []:=by
 apply aG Tryz.func113 Tryz.ntmps113;intro F ⟨E,D⟩;apply J [9];haveI:bn F (cK b) E (gn l):=⟨D⟩;obtain⟨i,w⟩:∃i:Nat,h %256=i:=⟨(h %256).toNat,by omega⟩;have C:i<256:=U
 obtain⟨p,d,P⟩:=N.at C;have eI:=Pw H (show l[(h %256).toNat]? =some p from by rw[w];exact d);apply J [24,165,31,42,26];refine q rfl rfl (vK rfl rfl (C1 U U)) ?_;refine J [431,31,8] ?_;rw[w];apply J [175];apply eE (w9 b l i p d C U) ⟨_,bn.rd⟩;apply J [153,2,91,20];refine aT.split 19 rfl (λan=>?_) (λan=>?_);have an:=dt an;apply J [48,212,137,165,129];exact hR (ao (aZ _));have an:=dX an;apply J [305,11];refine c8 rfl rfl rfl (uB rfl) ?_;refine c8 rfl rfl rfl (n4 0 rfl rfl) ?_;refine J [588] ?_;refine c8 rfl rfl rfl (n4 3 rfl rfl) ?_;refine c8 rfl rfl rfl (dC rfl rfl (lV kM d 3 U rfl)) ?_;apply J [11,158,97];refine UR rfl (λu=>?_) (λu=>absurd U u);apply J [24,165,129];exact hR (ao (aZ _))
def mK:fa:=⟨0,0,0⟩
def cR(l:List bY)(h:Int):fa×Int:=match ej l h 1 with
  | some (_,p)=>(p.o,0)
  | none=>(mK,8)
theorem Ev(b:Nat)(l:List bY)(h:Int)(H:dM l)(d:0<=h/\h<=4294967295):bu 63 [ae b,aR h] (λF=>∃E,cM F E (cK b) (gn l)) [] (.tuple #[.agg (ints (cR l h).1.l).toArray,aa (cR l h).2]) []:=by
 apply aG Tryz.func63 Tryz.ntmps63;intro F ⟨E,N⟩;apply J [9];haveI:bn F (cK b) E (gn l):=⟨N⟩;refine J [25,349] ?_;intro bb;apply J [27,35];cases w:ej l h 1 with|none=>?_|some t=>?_
 have u:cR l h=(mK,8):=by grind[cR]
 refine e rfl ?_;apply eE (yI b l h 1 H d w) ⟨_,bn.rd⟩;apply J [5,113,34];refine UR rfl (λC=>?_) (λC=>absurd am C);apply J [24];refine q rfl rfl (eh (cs:=ints [_,_,_]) rfl) ?_;apply J [2,19,298,129];exact XT () [_,_] ⟨(eV (n:=3) rfl rfl rfl rfl),rfl,trivial⟩ (by rw[u];rfl) trivial (bV (aZ _));obtain⟨i,p⟩:=t;obtain⟨O,P,Q,V⟩:=n8 d.1 w;have u:cR l h=(p.o,0):=by grind[cR]
 refine e rfl ?_;apply eE (yJ b l i p h 1 H d.1 w) ⟨_,bn.rd⟩;apply J [5,113,34];refine UR rfl (λD=>absurd D am) (λD=>?_);apply J [4,36,391,413];refine q rfl rfl (gv (vs:=ints [_,_,_]) 3 rfl rfl (kh kM O 0 3 U U rfl) rfl am) ?_;apply J [19,298,30];exact XT () [_,_] ⟨(eV (n:=3) rfl rfl rfl rfl),rfl,trivial⟩ (by rw[u];rfl) trivial (bV (aZ _))
end Go.Proofs.YtglgidjhoncphaaGreatDoor.av
namespace Go.Proofs.YtglgidjhoncphaaGreatDoor.av
open Go Go.QM
def isEmpty(p:bY):Bool:=decide (p.st=0)
def l7 (l:List bY) (o:fa):List bY×Int×Int:=match l.findIdx? isEmpty with
  | some i=>match l[i]? with
    | some p=>(l.set i ⟨o,1,p.c4⟩,p.c4*256+i,0)
    | none=>(l,0,11)
  | none=>(l,0,11)
theorem Eo{l:List bY}{i:Nat}(h:l.findIdx? isEmpty=some i):∃p,l[i]? =some p/\p.st=0:=by grind[List.findIdx?_eq_some_iff_getElem,isEmpty]
theorem dM.set{l:List bY}(h:dM l)(i:Nat){p:bY}(u:0<=p.c4/\p.c4<=1048575):dM (l.set i p) where
 n:=by simp[h.n]
 c4:=λq d=>by rcases List.mem_or_eq_of_mem_set d with d|rfl;exact h.c4 q d;exact u
theorem xI{l:List bY}{i:Nat}{p q:bY}(h:l[i]? =some p):(l.set i q)[i]? =some q:=List.getElem?_set_self (UU.1 h).1
theorem dM.lt{l:List bY}(h:dM l){i:Nat}{p:bY}(d:l[i]? =some p):i<256:=by rw[<-h.n];exact(UU.1 d).1
theorem od(b:Nat)(l:List bY)(o:fa)(w:dM l):bu 129 [ae b,.agg (ints o.l).toArray] be [a1 264 5 (cK b) 256 256 (gn l)] (.tuple #[aR (l7 l o).2.1,aa (l7 l o).2.2]) [a1 264 5 (cK b) 256 256 (gn (l7 l o).1)]:=by
 apply aG Tryz.func129 Tryz.ntmps129;intro F _;apply J [1];have O:=w.n;refine J [25,573] ?_;intro bb;apply J [242,42,36,477,413];refine q rfl rfl (xJ 256 210 5 rfl rfl kJ) ?_;refine e rfl ?_;refine aL (N0 (cK b) 256 l 184 [] isEmpty be U (λt=>QW t)) (by rw[O];rfl) (eu _) ⟨⟨_,bn.rd⟩,trivial⟩ ?_;intro _ _;apply J [7];cases E:l.findIdx? isEmpty with|none=>?_|some i=>?_
 have u:l7 l o=(l,0,11):=by grind[l7]
 rw[u];dsimp only;apply J [31,26,171];refine UR rfl (λC=>?_) (λC=>absurd am C);apply J [24,368];exact hR (bV (bV (aZ _)));obtain⟨p,d,V⟩:=Eo E;have P:=w.lt d;have Q:=w.c4 p (US d);have u:l7 l o=(l.set i ⟨o,1,p.c4⟩,p.c4*256+i,0):=by grind[l7]
 rw[u];dsimp only;have H:=xI (q:=⟨o,p.st,p.c4⟩) d;have N:=xI (q:=⟨o,1,p.c4⟩) d;apply J [31,26,171];refine UR rfl (λD=>absurd D U) (λD=>?_);apply J [44];refine cC [0,1,2,3,4,5,6,7,8,10,11,-9,12,13,-14] (ao (bV (aZ _))) ?_;apply J [77,15,77,15,574];refine bU rfl rfl rfl (uB rfl) ?_;refine J [527,589,527] ?_;refine bU rfl rfl rfl (uB rfl) ?_;apply J [527,222];refine eg (v:=.agg (Vb (ints [_,_,_]))) (vs:=ints [_,_,_]) 3 rfl rfl rfl rfl rfl rfl am Aw (sB (a':=⟨o,p.st,p.c4⟩) kM d 0 U (U2 rfl) rfl) ?_;refine J [6,589] ?_;refine bU rfl rfl rfl (n4 3 rfl rfl) ?_;refine DL rfl ?_;refine eg (v:=.int _ _) (vs:=[_]) 1 rfl rfl rfl rfl rfl rfl am FR (sB (a':=⟨o,1,p.c4⟩) kM H 3 U (U2 rfl) rfl) ?_;refine J [110,32] ?_;refine aL (w9 b (l.set i ⟨o,1,p.c4⟩) i ⟨o,1,p.c4⟩ N P cD) rfl (eu _) (by rw[List.set_set];exact⟨_,bn.rd⟩) ?_;intro _ _;apply J [7,69];exact hR (b8 0 rfl (by rw[List.set_set];rfl) (bV (aZ _)))
def hV(l:List bY)(h:Int):List bY×Int:=match ej l h 1 with
  | some (i,p)=>(l.set i ⟨p.o,2,p.c4⟩,0)
  | none=>(l,8)
theorem O5(b:Nat)(l:List bY)(h:Int)(d:dM l)(u:0<=h/\h<=4294967295):bu 372 [ae b,aR h] be [a1 264 5 (cK b) 256 256 (gn l)] (aa (hV l h).2) [a1 264 5 (cK b) 256 256 (gn (hV l h).1)]:=by
 apply aG Tryz.func372 Tryz.ntmps372;intro F _;apply J [1,102,35];cases C:ej l h 1 with|none=>?_|some t=>?_
 have w:hV l h=(l,8):=by grind[hV]
 refine e rfl ?_;apply eE (yI b l h 1 d u C) ⟨_,bn.rd⟩;apply J [5];rw[w];dsimp only;apply J [113,177];refine UR rfl (λD=>absurd D am) (λD=>?_);apply J [4,133];exact hQ;obtain⟨i,p⟩:=t;obtain⟨H,O,Q,V⟩:=n8 u.1 C;have w:hV l h=(l.set i ⟨p.o,2,p.c4⟩,0):=by grind[hV]
 have N:=d.c4 p (US H);have P:=d.n;refine e rfl ?_;apply eE (yJ b l i p h 1 d u.1 C) ⟨_,bn.rd⟩;apply J [5];rw[w];dsimp only;apply J [113,177];refine UR rfl (λE=>?_) (λE=>absurd am E);apply J [38,391];refine q rfl rfl (n4 3 rfl rfl) ?_;refine dh ?_;refine eg (v:=.int _ _) (vs:=[_]) 1 rfl rfl rfl rfl rfl rfl am Aw (sB (a':=⟨p.o,2,p.c4⟩) kM H 3 U (U2 rfl) rfl) ?_;apply J [3,133];exact hQ
def iZ(p:bY):bY:=if 1048575<p.c4+1 then⟨mK,3,1048575⟩else⟨mK,0,p.c4+1⟩
def pJ(l:List bY)(h:Int):List bY×fa×Int:=match ej l h 2 with
  | some (i,p)=>(l.set i (iZ p),p.o,0)
  | none=>(l,mK,8)
theorem Nm(b:Nat)(l:List bY)(h:Int)(u:dM l)(w:0<=h/\h<=4294967295):bu 221 [ae b,aR h] be [a1 264 5 (cK b) 256 256 (gn l)] (.tuple #[.agg (ints (pJ l h).2.1.l).toArray,aa (pJ l h).2.2]) [a1 264 5 (cK b) 256 256 (gn (pJ l h).1)]:=by
 apply aG Tryz.func221 Tryz.ntmps221;intro F _;refine J [1,25,349] ?_;intro cl;apply J [27,35];cases E:ej l h 2 with|none=>?_|some t=>?_
 have C:pJ l h=(l,mK,8):=by grind[pJ]
 refine e rfl ?_;apply eE (yI b l h 2 u w E) ⟨_,bn.rd⟩;apply J [7];rw[C];dsimp only;apply J [113,34];refine UR rfl (λH=>?_) (λH=>absurd am H);apply J [24];refine q rfl rfl (eh (cs:=ints [_,_,_]) rfl) ?_;apply J [2,19,298,129];exact XT () [_,_] ⟨(eV (n:=3) rfl rfl rfl rfl),rfl,trivial⟩ rfl trivial (bV (bV (aZ _)));obtain⟨i,p⟩:=t;obtain⟨d,W,an,aq⟩:=n8 w.1 E;have C:pJ l h=(l.set i (iZ p),p.o,0):=by grind[pJ]
 have Q:=u.c4 p (US d);have ag:=u.n;refine e rfl ?_;apply eE (yJ b l i p h 2 u w.1 E) ⟨_,bn.rd⟩;apply J [7];rw[C];dsimp only;apply J [113,34];refine UR rfl (λN=>absurd N am) (λN=>?_);have O:=xI (q:=⟨mK,0,p.c4+1⟩) d;have Z:=xI (q:=⟨mK,3,1048575⟩) d;apply J [4,36,391,413];refine q rfl rfl (gv (vs:=ints [_,_,_]) 3 rfl rfl (kh kM d 0 3 U U rfl) rfl am) ?_;refine J [0,349] ?_;intro P;apply J [19,298,3,36,162,391];refine q rfl rfl (n4 4 rfl rfl) ?_;refine q rfl rfl (dC rfl rfl (lV kM d 4 U rfl)) ?_;refine q rfl rfl (add rfl rfl (pa U U)) ?_;apply J [474,391,19];refine eg (v:=.agg #[_,_,_,_,_]) (vs:=[_,_,_,_,_]) 5 rfl rfl rfl rfl rfl rfl am Aw (sB (a':=⟨mK,0,p.c4+1⟩) kM d 0 U (U2 rfl) rfl) ?_;apply J [29,36,391];refine q rfl rfl (n4 4 rfl rfl) ?_;refine q rfl rfl (dC rfl rfl (lV kM O 4 U rfl)) ?_;apply J [219,3];apply UR rfl<;>intro V;have D:iZ p=⟨mK,3,1048575⟩:=by rw[iZ,aw U]
 rw[D];apply J [38,474,391,19];refine eg (v:=.agg #[_,_,_,_,_]) (vs:=[_,_,_,_,_]) 5 rfl rfl rfl rfl rfl rfl am FR (sB (a':=⟨mK,3,1048575⟩) kM O 0 U (U2 rfl) rfl) ?_;apply J [100,329,19,298,30];exact XT () [_,_] ⟨(eV (n:=3) rfl rfl rfl rfl),rfl,trivial⟩ rfl trivial (b8 1 rfl (by rw[List.set_set];rfl) (bv (aZ _)));have D:iZ p=⟨mK,0,p.c4+1⟩:=by rw[iZ,al U]
 rw[D];apply J [4,24,329,19,298,30];exact XT () [_,_] ⟨(eV (n:=3) rfl rfl rfl rfl),rfl,trivial⟩ rfl trivial (b8 1 rfl rfl (bv (aZ _)))
end Go.Proofs.YtglgidjhoncphaaGreatDoor.av
namespace Go.Proofs.YtglgidjhoncphaaGreatDoor.av
open Go Go.QM
def mS(s:Int)(z:List (bY×Nat)):List Int:=(z.filter λt=>decide (t.1.st=s)).map λt=>t.1.c4*256+(t.2:Int)
def eA(l:List bY)(s:Int):List Int:=mS s l.zipIdx
theorem vI(s:Int)(z:List (bY×Nat))(t:bY×Nat):mS s (z++[t])=if t.1.st=s then mS s z++[t.1.c4*256+(t.2:Int)]else mS s z:=by grind[mS]
theorem Ut{l:List bY}{k:Nat}{p:bY}(h:l[k]? =some p):l.zipIdx.take (k+1)=l.zipIdx.take k++[(p,k)]:=by grind[U5]
theorem CX(s:Int)(z:List (bY×Nat)):(mS s z).length<=z.length:=by rw[mS,List.length_map];exact List.length_filter_le _ _
theorem qp(l:List bY)(s:Int):(eA l s).length<=l.length:=by have:=CX s l.zipIdx;rw[List.length_zipIdx]at this;exact this
theorem CY(b:Nat)(l:List bY)(s:Int)(H:dM l):bL 106 [ae b,aa s] (λF=>∃E,cM F E (cK b) (gn l)) [] (λy:Option Addr×Nat=>.slice y.1 (eA l s).length y.2) (λ_=>True) (λy=>[a1 33 1 y.1 (eA l s).length y.2 (cT .u32 (eA l s))]):=by
 apply aG Tryz.func106 Tryz.ntmps106;intro F ⟨E,P⟩;apply J [9];haveI:bn F (cK b) E (gn l):=⟨P⟩;have V:=H.n;have D:(gn l).length=1280:=by grind[HV]
 apply J [121,210,71,118,36,477,413];refine q rfl rfl (gv (vs:=_) 1280 rfl rfl (by rw[List.drop_zero,<-D];exact List.take_length) D am) ?_;apply J [114];refine Vp (ι:=Nat×Option Addr×Nat) (λi=>i.1<=256) (λi=>[(0,ae b),(1,aa s),(5,.slice i.2.1 (mS s (l.zipIdx.take i.1)).length i.2.2),(13,.agg (gn l).toArray),(14,aa ((i.1:Nat):Int))]) (λi=>ah [a1 33 1 i.2.1 (mS s (l.zipIdx.take i.1)).length i.2.2 (cT .u32 (mS s (l.zipIdx.take i.1))),F]) (λi=>256-i.1) ⟨0,none,0⟩ (UX _) bC ((dH 33 1 _).trans (b8 0 rfl kJ (ao (aZ _)))) ?_;rintro⟨k,ad,cap⟩ hinv W;dsimp only[cr]at hinv⊢;apply J [43];apply UR rfl<;>intro C;have C:k<256:=U
 obtain⟨p,w,Q⟩:=H.at C;have u:=Ut w;have hle:=CX s (l.zipIdx.take k);rw[List.length_take]at hle;apply J [64,26];refine q rfl rfl (NV 256 210 5 rfl rfl rfl rfl U U (kh kM w 0 5 U U rfl)) ?_;refine e rfl ?_;refine gA (l:=[.int _ _,.int _ _,.int _ _,.int _ _,.int _ _]) rfl rfl ?_;intro bb;apply J [72,19,310,100,285,246];apply UR rfl<;>intro d;apply J [104,162,28];apply eE (w9 b l k p w C U) ⟨_,bn.rd⟩;refine J [7,0,149] ?_;intro bo;refine e rfl ?_;refine ap 4 rfl rfl rfl rfl rfl (U2 rfl) rfl rfl U gl ?_;intro N O;refine J [83,59] ?_;exact⟨rfl,⟨k+1,N,O⟩,cD,cD,⟨rfl,rfl,congrArg (λn=>Vt _ n _) (by rw[u,vI,aw d];simp),rfl,rfl,trivial⟩,(b8 0 rfl (by rw[u,vI,aw d];simp[cT]) (bv (aZ _)))⟩;refine J [112] ?_;exact⟨rfl,⟨k+1,ad,cap⟩,cD,cD,⟨rfl,rfl,congrArg (λn=>Vt _ n _) (by rw[u,vI,al d]),rfl,rfl,trivial⟩,(b8 1 rfl (by rw[u,vI,al d]) (bV (aZ _)))⟩;obtain rfl:k=256:=U
 rw[List.take_of_length_le (by rw[List.length_zipIdx];omega)];apply J [207,105];exact br ⟨ad,cap⟩ trivial (ao (ao (aZ _)))
theorem FF(b:Nat)(l:List bY)(u:dM l):bL 59 [ae b] (λF=>∃E,cM F E (cK b) (gn l)) [] (λy:Option Addr×Nat=>.slice y.1 (eA l 1).length y.2) (λ_=>True) (λy=>[a1 33 1 y.1 (eA l 1).length y.2 (cT .u32 (eA l 1))]):=by apply aG Tryz.func59 Tryz.ntmps59;intro F d;apply J [9,121,107];refine aL (CY b l 1 u) rfl (eu _) (d.imp λ_ h=>qm h) ?_;intro y _;apply J [5,105];exact br y trivial (ao (ao (aZ _)))
theorem Rz(b:Nat)(l:List bY)(u:dM l):bu 186 [ae b] (λF=>∃E,cM F E (cK b) (gn l)) [] (aa (eA l 0).length) []:=by apply aG Tryz.func186 Tryz.ntmps186;intro F d;apply J [9,102,107];refine aL (CY b l 0 u) rfl (eu _) (d.imp λ_ h=>qm h) ?_;intro y _;apply J [5,288,30];exact eZ (bV (aZ _))
end Go.Proofs.YtglgidjhoncphaaGreatDoor.av
namespace Go.Proofs.YtglgidjhoncphaaGreatDoor.hq
open Go Go.QM
def BT(t:Int×Int):List Value:=[.int .i64 t.1,.int .i64 t.2]
def s8(l:List (Int×Int)):List Value:=l.flatMap BT
def eF(b:Nat)(p n:Int)(l:List (Int×Int)):ax:=fj λx:Option Addr×Nat=>pure' True (ah [aj b 255 [.int .i64 p,.int .i64 n,.slice x.1 l.length x.2],a1 253 2 x.1 l.length x.2 (s8 l)])
theorem pS(p:Int)(u:1<=p)(w:p<=16):bL 127 [aa p] be [] (λb:Nat=>ae b) (λ_=>True) (λb=>[eF b p 0 []]):=by apply aG Tryz.func127 Tryz.ntmps127;intro F _;refine J [9,131,178,389,143,97] ?_;refine UR rfl (λd=>absurd d U) (λd=>?_);apply J [4,26,528,0];refine e0 (v:=.agg #[_,_,_]) (l:=[.int _ _,.int _ _,.slice _ _ _]) rfl rfl ?_;intro bb;apply J [106];exact br bb trivial ((dH 253 2 _).trans (ay ⟨none,0⟩ trivial (bV (ao (ao (aZ _))))))
theorem sS(p:Int)(h:p<1\/16<p):bu 127 [aa p] be [] (.pointer none) []:=by apply aG Tryz.func127 Tryz.ntmps127;intro F _;apply J [9,131,178];refine aT.split 5 rfl (λd=>?_) (λd=>?_);have d:=dt d;apply J [47,137,273];exact dw;have d:=dX d;apply J [143,97];refine UR rfl (λu=>?_) (λu=>absurd U u);apply J [168,75];exact dw
theorem vG(b:Nat)(p n:Int)(l:List (Int×Int))(ad:Option Addr)(cap:Nat)(xs:List Int)(P:1<=p/\p<=16)(an:0<=n/\n<=1000000000)(O:l.length<=1000000)(Q:xs.length<=1000000):bu 373 [ae b,.slice ad xs.length cap] (λF=>∃E,cM F E ad (ints xs)) [eF b p n l] (aa ((l.length+xs.length:Nat):Int)) [eF b p n (l++xs.map (λx=>(x,n+p)))]:=by
 apply aG Tryz.func373 Tryz.ntmps373;intro F ⟨E,H⟩;apply J [1];haveI:bn F ad E (ints xs):=⟨H⟩;apply ab.open 0 rfl;rintro⟨C,D⟩-;apply J [13,39,71,118,33,174];refine Vp (ι:=Nat×Option Addr×Nat) (λi=>i.1<=xs.length) (λi=>[(0,ae b),(9,.slice ad xs.length cap),(10,aa xs.length),(11,aa i.1)]) (λi=>ah [aj b 255 [aa p,aa n,.slice i.2.1 (l.length+i.1) i.2.2],a1 253 2 i.2.1 (l.length+i.1) i.2.2 (s8 (l++(xs.take i.1).map (λx=>(x,n+p)))),F]) (λi=>xs.length-i.1) ⟨0,C,D⟩ (UX _) bC (ao (b8 0 rfl cE (ao (aZ _)))) ?_;rintro⟨k,d,u⟩ hinv V;dsimp only[cr]at hinv⊢;apply J [43];apply UR rfl<;>intro w;have w:k<xs.length:=U
 obtain⟨x,qF⟩:∃x,xs[k]? =some x:=⟨xs[k],UO w⟩;have N:0<(ints xs).length:=by grind[eb]
 refine J [186,515,27] ?_;refine ab.draw _ [20] [0,1,2,3,4,5,6,7,8,9,10,11,12,13,14,15,-16,-17,18,19,-20] aM aM (ao (aZ _)) ?_;refine J [77,185,15,123,49,388,442,12,231] ?_;intro bo;refine J [45] ?_;refine ap 16 rfl rfl rfl rfl rfl (U2 rfl) rfl rfl U gl ?_;intro d u;refine J [6,88,341,90,345,301,366] ?_;exact⟨rfl,⟨k+1,d,u⟩,cD,cD,bC,(ao (b8 0 rfl (by simp[s8,BT,U5,qF,Nat.add_assoc]) (bV (aZ _))))⟩;obtain rfl:k=xs.length:=by omega
 apply J [21,70];refine q rfl rfl (len 253 2 rfl rfl) ?_;apply J [30];exact eZ (ay ⟨d,u⟩ trivial (b8 0 rfl cE (b8 0 rfl cE (ao (aZ _)))))
theorem Ma(d:Option Addr):bL 284 [.pointer d] be [] (λc:Nat=>.func (.func 338) #[] #[ae c]) (λ_=>True) (λc=>[aj c 133 [.pointer d]]):=by apply aG Tryz.func284 Tryz.ntmps284;intro F _;apply J [194];refine e0 (v:=.pointer _) (l:=[.pointer _]) rfl rfl ?_;intro cl;apply J [150,100,414,150,260];exact br cl trivial (ao (ao (aZ _)))
def lQ(n:Int)(l:List (Int×Int)):List (Int×Int):=l.takeWhile λt=>t.2<=n
def m5(n:Int)(l:List (Int×Int)):List (Int×Int):=l.dropWhile λt=>t.2<=n
theorem L9(c b:Nat)(p n:Int)(l:List (Int×Int))(ag:l.length<=100000000):re Vv 338 [ae c] (λx:Int=>[aa x]) (λN _=>N.length<l.length) [aj c 133 [ae b],eF b p n l] (λ_:Unit=>(lQ n l).map (·.1)) (λ_=>True) (λ_=>[aj c 133 [ae b],eF b p n (m5 n l)]):=by
 refine re.intro aM Tryz.func338 rfl Tryz.ntmps338 kJ rfl ?_;intro V bM P;refine J [13,460] ?_;rintro⟨H,O⟩-;apply J [86,76];refine Vp (ι:=List (Int×Int)×List (Int×Int)×Option Addr×Nat) (λi=>l=i.1++i.2.1/\(∀t∈i.1,t.2<=n)) (λi=>[(0,.func (.yield V) #[] #[]),(1,ae c)]) (λi=>ah [bM (i.1.map (·.1)),aj c 133 [ae b],aj b 255 [aa p,aa n,.slice i.2.2.1 i.2.1.length i.2.2.2],a1 253 2 i.2.2.1 i.2.1.length i.2.2.2 (s8 i.2.1)]) (λi=>i.2.1.length) ⟨[],l,H,O⟩ ⟨rfl,by simp⟩ bC (bv (bv (ao (ao (aZ _))))) ?_;rintro⟨u,d,ad,cap⟩ ⟨E,D⟩ aq;dsimp only[cr]at E D⊢;cases d with|nil=>?_|cons t d=>?_
 apply J [8,8,590,92,88,134];refine bU rfl rfl rfl (len 253 2 rfl rfl) ?_;apply J [436,147];refine b6.known 10 rfl (b':=false) (dk cE) ?_;apply J [208,208,208,220,74,73,331];exact⟨rfl,(),trivial,(by(have w:lQ n l=u:=by grind[lQ,Io]);(have C:m5 n l=[]:=by grind[m5,DR]);rw[w,C];exact(ao (ao (ay ⟨ad,cap⟩ trivial (ao (ao (aZ _)))))))⟩;have an:u.length+d.length+1=l.length:=cp
 have Z:0<(s8 (t::d)).length:=by grind[s8,BT]
 simp only[List.length_cons];apply J [8,8,590,92,88,134];refine bU rfl rfl rfl (len 253 2 rfl rfl) ?_;apply J [436,147];refine b6.known 10 rfl (b':=true) (c1 U) ?_;apply J [164,299,351,164];refine eG rfl rfl rfl rfl (kH 253 2 rfl rfl rfl U U dW) ?_;refine eG rfl rfl rfl rfl (mj 1 rfl rfl dW) ?_;refine eG rfl rfl rfl rfl (dC rfl rfl rfl) ?_;apply J [164,299,472,164];refine eG rfl rfl rfl rfl (leq rfl rfl) ?_;apply J [319,74];apply UR rfl<;>intro hle;apply J [4,76,24,82,80,54];refine q rfl rfl (kH 253 2 rfl rfl rfl U U dW) ?_;refine q rfl rfl (mj 0 rfl rfl dW) ?_;refine J [529,31,576,92,92,88,134] ?_;refine bU rfl rfl rfl (BB 253 2 rfl rfl rfl U U) ?_;apply J [88,341,90,345,74,128,28];refine Cf 1 (P (u.map (·.1)) t.1 _ rN) rfl rfl rfl ?_;rintro W bl ⟨rfl,rfl⟩;apply J [18,89,108,23];exact⟨rfl,⟨u++[t],d,_,_⟩,⟨by simp[E],by intro s Q;rcases UQ.1 Q with h|h;exact D s h;rw[List.mem_singleton.1 h];exact hle⟩,cE,bC,(b8 0 rfl cE (bV (ao (eH 0 rfl (BD (j:=1) U) (aZ _)))))⟩;apply J [331];exact⟨rfl,(),trivial,(by have w:lQ n l=u:=(by grind[lQ,Ip,List.takeWhile_cons_of_neg]);have C:m5 n l=t::d:=(by grind[m5,DS,List.dropWhile_cons_of_neg]);rw[w,C];exact(ao (ao (ay ⟨ad,cap⟩ trivial (ao (ao (aZ _)))))))⟩
def E9(c:Nat)(xs:List Int):ax:=fj λx:Option Addr×Nat=>pure' True (ah [aj c 90 [.slice x.1 xs.length x.2],a1 3 1 x.1 xs.length x.2 (ints xs)])
theorem BV(b:Nat)(p n:Int)(l:List (Int×Int))(an:0<=n/\n<=1000000000)(E:l.length<=100000000):bL 220 [ae b] be [eF b p n l] (λy:Option Addr×Nat=>.slice y.1 ((lQ (n+1) l).map (·.1)).length y.2) (λ_=>True) (λy=>[eF b p (n+1) (m5 (n+1) l),a1 3 1 y.1 ((lQ (n+1) l).map (·.1)).length y.2 (ints ((lQ (n+1) l).map (·.1)))]):=by refine fA.EQ (rs:=[.tmp 2]) aM Tryz.func220 rfl Tryz.ntmps220 kJ rfl ?_;intro F _;refine J [1,235] ?_;rintro⟨ad,cap⟩-;apply J [13,121,25];refine gA (l:=[.slice _ _ _]) rfl rfl ?_;intro w;refine J [29,42,67,151,269,203,29,107] ?_;refine aL (Ma _) rfl (eu _) trivial ?_;intro c2 _;apply J [10,250];refine Wd (B:=ah [aj c2 133 [ae b],eF b p (n+1) l,E9 w [],F]) ((dH 3 1 _).trans (bV (ay ⟨ad,cap⟩ trivial (bV (bv (ay ⟨none,0⟩ trivial (bV (ao (ao (aZ _)))))))))) ?_;refine ab.G5 (λC=>[E9 w C]) (L9 c2 b p (n+1) l E) rfl (dY 0 rfl (dY 0 rfl (eu _))) (dY 0 rfl (eu _)) (λ_=>rfl) rfl ?_ ?_;rintro Z C x H V;apply J [1,217,27];refine⟨rfl,(Vx _),λN=>?_⟩;refine J [1,235] ?_;rintro⟨O,Q⟩-;refine J [13,76,217,82,66] ?_;intro P;refine J [0,591] ?_;intro d u;apply J [281];refine aT.nil (jQ ?_);refine⟨rfl,rfl,?_⟩;change aF (ah [_,_,_,_]) (ah [_,_]);exact(ay ⟨d,u⟩ trivial (b8 0 rfl (by simp[dI,Value.cells]) (b8 0 rfl (by simp[ints]) (bV (aZ _)))));intro D y W;refine(jQ (ie ?_));refine J [85,460] ?_;rintro⟨d,u⟩-;apply J [155,24,82,105];exact .inl ⟨⟨d,u⟩,[_],D,rfl,rfl,⟨rfl,trivial⟩,rfl,trivial,(eL (c0 (bV (bv (aZ _)))))⟩
end Go.Proofs.YtglgidjhoncphaaGreatDoor.hq
namespace Go.Proofs.YtglgidjhoncphaaGreatDoor
open Go Go.QM
def bG(c:Nat):Nat:=[0,64,128,256,32,32,48,256,1024].getD c 0
def c6(S:cL)(c a:Nat):Prop:=(c∈cls/\e3 (cb c) (S.C c) a)\/(c=8/\∃p∈S.Fr,a=p*1024)
variable{c:Nat}
theorem qI(h:c∈cls):bG c=cb c:=by rcases tK h with rfl|rfl|rfl|rfl|rfl|rfl|rfl<;>rfl
variable{top:Nat}{S:cL}
theorem zB(u:dd top S){p:Nat}(h:p∈S.Fr):p∉cls.flatMap (hz S.C):=λd=>(Vg.1 u.bi).2.2 p d p h rfl
variable{a:Nat}
theorem c6.bd(u:dd top S)(h:c6 S c a):a %16=0/\a+bG c<=1024*2^top/\32<=bG c/\bG c<=1024:=by rcases h with⟨d,h⟩|⟨rfl,p,w,rfl⟩;have:=e3.bd u d h;rw[qI d];refine⟨this.1,this.2.2,?_⟩;rcases tK d with rfl|rfl|rfl|rfl|rfl|rfl|rfl<;>decide;have:=u.lt p (UQ.2 (.inr w));have e:bG 8=1024:=rfl;omega
theorem c6.apart(u:dd top S){d b:Nat}(h:c6 S c a)(k:c6 S d b)(D:c≠d\/a≠b):a+bG c<=b\/b+bG d<=a:=by have e:bG 8=1024:=rfl;rcases h with⟨w,h⟩|⟨rfl,p,E,rfl⟩<;>rcases k with⟨C,k⟩|⟨rfl,q,H,rfl⟩;rw[qI w,qI C];exact e3.apart u w C h k D;have:=e3.frame u w h (zB u H);rw[qI w];omega;have:=e3.frame u C k (zB u E);rw[qI C];omega;omega
structure ga(top:Nat)(S a8:cL)(Y X:Nat->Nat->Prop):Prop where
  P:dd top a8
  p:∀c a,c6 S c a->¬Y c a->c6 a8 c a
  m:∀c a,c6 S c a->¬X c a->∀o,a<=o->o<a+bG c->a8.m o=S.m o
  p8:∀c a,Y c a->X c a
theorem ga.trans{T V:cL}{Y X u d:Nat->Nat->Prop}(g:ga top S T Y X)(k:ga top T V u d):ga top S V (λc a=>Y c a\/u c a) (λc a=>X c a\/d c a):=
 ⟨k.P,λc a h an=>k.p c a (g.p c a h λh=>an (.inl h)) λh=>an (.inr h),λc a h an o w C=>(k.m c a (g.p c a h λh=>an (.inl (g.p8 c a h))) (λh=>an (.inr h)) o w C).trans (g.m c a h (λh=>an (.inl h)) o w C),
  λc a h=>h.imp (g.p8 c a) (k.p8 c a)⟩
variable{a8:cL}
theorem ga.w{Y X:Nat->Nat->Prop}(g:ga top S a8 Y X){o:Nat}(h:c6 S c a)(d:¬X c a)(u:a<=o)(C:o+8<=a+bG c):cO a8.m o=cO S.m o:=
 uu λi D E=>g.m c a h d i U U
def hX:Nat->Nat->Prop:=λ_ _=>False
def fw(c a:Nat):Nat->Nat->Prop:=λd b=>d=c/\b=a
theorem dd.mem(h:dd top S)(d:a8.C=S.C)(u:a8.Fr=S.Fr):dd top a8:=by obtain⟨Q,N,C,Fr,m⟩:=S;obtain⟨E,O,w,D,H⟩:=a8;dsimp only at d u;subst d;subst u;exact⟨h.f8,h.ok,h.bi,h.lt⟩
theorem oK(u:dd top S)(h:c6 S c a)(D:a8.C=S.C)(E:a8.Fr=S.Fr)(hm:∀o,o<a\/a+bG c<=o->a8.m o=S.m o):ga top S a8 hX (fw c a):=by refine⟨u.mem D E,λd b k _=>?_,λd b k an o H N=>hm o ?_,λ_ _ h=>h.elim⟩;grind[c6];have:=c6.apart u h k (by by_cases e:c=d;exact .inr λw=>an ⟨e.symm,w.symm⟩;exact .inl e);omega
theorem wt(D:dd top S)(u:a8.C=S.C)(w:a8.Fr=S.Fr)(hm:a8.m=S.m):ga top S a8 hX hX:=
 ⟨D.mem u w,λd b k _=>by rw[c6,u,w];exact k,λd b k _ o _ _=>by rw[hm],λ_ _ h=>h⟩
theorem iW.inv2{y:Nat×Nat×List cc}(g:iW top S c y)(d:a8.C=dF S.C c y.2.2)(u:a8.Fr=S.Fr):dd top a8:=by obtain⟨E,N,w,D,H⟩:=a8;dsimp only at d u;subst d;subst u;exact g.inv _ _ _
variable{i:Nat}
theorem j1.inv2{aD:Nat}{L':List cc}(g:j1 top S c aD i L')(d:a8.C=dF S.C c L')(u:a8.Fr=S.Fr):dd top a8:=by obtain⟨E,N,w,D,H⟩:=a8;dsimp only at d u;subst d;subst u;exact g.inv _ _ _
theorem iW.uD{y:Nat×Nat×List cc}(u:dd top S)(w:c∈cls)(g:iW top S c y){d b:Nat}(h:c6 S d b):¬fw c (addr c y) d b:=by rintro⟨rfl,rfl⟩;rcases h with⟨_,h⟩|⟨rfl,_⟩;exact g.fresh u w h;trivial
theorem wr{y:Nat×Nat×List cc}(O:dd top S)(u:c∈cls)(g:iW top S c y)(w:a8.C=dF S.C c y.2.2)(D:a8.Fr=S.Fr)(hm:∀o,o<addr c y\/addr c y+cb c<=o->a8.m o=S.m o):ga top S a8 hX hX/\c6 a8 c (addr c y):=by have E:=g.inv2 w D;have H:∀d b,c6 S d b->c6 a8 d b:=λd b k=>(by rcases k with⟨P,k⟩|⟨rfl,p,Q,rfl⟩;exact .inl ⟨P,by rw[w];exact(g.jU u).2 (.inl k)⟩;exact .inr ⟨rfl,p,by rw[D];exact Q,rfl⟩);have an:c6 a8 c (addr c y):=.inl ⟨u,by rw[w];exact(g.jU u).2 (.inr ⟨rfl,rfl⟩)⟩;refine⟨⟨E,λd b k _=>H d b k,λd b k _ o V W=>hm o ?_,λ_ _ h=>h⟩,an⟩;have:=c6.apart E (H d b k) an (by have:=g.uD O u k;by_cases e:d=c;exact .inr λN=>this ⟨e,N⟩;exact .inl e);grind[qI]
theorem wq{aD:Nat}{L':List cc}(E:dd top S)(N:c∈cls)(g:j1 top S c aD i L')(H:a=aD*1024+64+i*cb c)(u:a8.C=dF S.C c L')(w:a8.Fr=S.Fr)(hm:a8.m=S.m):ga top S a8 (fw c a) (fw c a):=by refine⟨g.inv2 u w,λd b k an=>?_,λd b k _ o _ _=>by rw[hm],λ_ _ h=>h⟩;rcases k with⟨O,k⟩|⟨rfl,p,P,rfl⟩;refine .inl ⟨O,?_⟩;rw[u];refine g.jU E N k ?_;by_cases e:d=c;exact .inr λD=>an ⟨e,by rw[H];exact D⟩;omega;exact .inr ⟨rfl,p,by rw[w];exact P,rfl⟩
theorem No{p:Nat}(W:dd top S)(u:dd top a8)(O:a8.C=S.C)(P:a8.Fr=p::S.Fr)(hm:∀o,o<p*1024\/p*1024+1024<=o->a8.m o=S.m o):ga top S a8 hX hX/\c6 a8 8 (p*1024)/\¬c6 S 8 (p*1024):=by
 have w:∀d b,c6 S d b->c6 a8 d b:=λd b k=>(by rcases k with⟨Q,k⟩|⟨rfl,q,E,rfl⟩;exact .inl ⟨Q,by rw[O];exact k⟩;exact .inr ⟨rfl,q,by rw[P];exact List.mem_cons_of_mem _ E,rfl⟩);have an:c6 a8 8 (p*1024):=by grind[c6]
 have D:¬c6 S 8 (p*1024):=(by rintro(⟨h,_⟩|⟨_,q,E,e⟩);trivial;(obtain rfl:p=q:=by omega);have N:a8.Fr.Nodup:=(Vg.1 u.bi).2.1;simp_all);refine⟨⟨u,λd b k _=>w d b k,λd b k _ o N V=>hm o ?_,λ_ _ h=>h⟩,an,D⟩;have:=c6.apart u (w d b k) an (by by_cases e:d=8;subst e;exact .inr λH=>D (H▸k);exact .inl e);have e:bG 8=1024:=rfl;omega
theorem dd.Iw(h:dd top S){p:Nat}(u:a8.C=S.C)(w:a8.Fr=S.Fr.erase p):dd top a8:=by
 obtain⟨Q,P,C,Fr,m⟩:=S;obtain⟨N,V,d,H,O⟩:=a8;dsimp only at u w;subst u;subst w;have D:(df d (Fr.erase p)).Sublist (df d Fr):=by grind[df,List.erase_sublist]
 exact⟨h.f8,h.ok,h.bi.sublist D,λq E=>h.lt q (D.subset E)⟩
theorem Nq{p:Nat}(D:dd top S)(u:a8.C=S.C)(w:a8.Fr=S.Fr.erase p)(hm:a8.m=S.m):ga top S a8 (fw 8 (p*1024)) (fw 8 (p*1024)):=by refine⟨D.Iw u w,λd b k an=>?_,λd b k _ o _ _=>by rw[hm],λ_ _ h=>h⟩;rcases k with⟨E,k⟩|⟨rfl,q,H,rfl⟩;exact .inl ⟨E,by rw[u];exact k⟩;exact .inr ⟨rfl,q,by rw[w];exact(List.mem_erase_of_ne λe=>an ⟨rfl,by rw[e]⟩).2 H,rfl⟩
theorem gf.mY{t:Nat}{Y X:Nat->Nat->Prop}(h:gf top S t)(g:ga top S a8 Y X)(N:¬X 2 t)(O:∀j,j<16->bp S.m t j≠0->¬X 7 (bp S.m t j)):
 gf top a8 t/\(∀j,j<16->bp a8.m t j=bp S.m t j)/\∀s,s<256->d6 a8.m t s=d6 S.m t s/\dP a8.m t s=dP S.m t s:=by have bo:c6 S 2 t:=.inl ⟨c2,h.tk⟩;have H:∀j,j<16->bp S.m t j≠0->c6 S 7 (bp S.m t j):=λj u d=>.inl ⟨fL,h.fF j u d⟩;have un:∀{c a},c∈cls->c6 a8 c a->e3 (cb c) (a8.C c) a:=λ{c a} Q k=>(by rcases k with⟨_,k⟩|⟨rfl,_⟩;all_goals trivial);refine h.nu (un c2 (g.p 2 t bo λk=>N (g.p8 _ _ k))) (λj u d=>un fL (g.p 7 _ (H j u d) λk=>O j u d (g.p8 _ _ k))) λo P=>?_;rcases P with⟨D,E⟩|⟨j,u,d,D,E⟩;exact g.w bo N D E;exact g.w (H j u d) (O j u d) D E
def hc:Nat->(Nat->Nat)->Nat
  | 0,_=>0
  | n+1,f=>hc n f+f n
theorem qY{f g:Nat->Nat}:∀{n:Nat},(∀i,i<n->f i=g i)->hc n f=hc n g
 | 0,_=>rfl
 | n+1,h=>by rw[hc,hc,qY (n:=n) λi d=>h i U,h n U]
theorem p1{f g:Nat->Nat}{k:Nat}:∀{n:Nat},k<n->(∀i,i<n->i≠k->g i=f i)->hc n g+f k=hc n f+g k
 | n+1,C,h=>by rw[hc,hc];by_cases e:k=n;subst e;rw[qY (n:=k) λi u=>h i U U];omega;have:=p1 (n:=n) U λi u w=>h i U w;rw[h n U λd=>e d.symm];omega
theorem p2{f:Nat->Nat}:∀{n:Nat},(∀i,i<n->f i=0)->hc n f=0
 | 0,_=>rfl
 | n+1,h=>by rw[hc,p2 (n:=n) λi d=>h i U,h n U]
theorem u0{f:Nat->Nat}{k:Nat}:∀{n:Nat},k<n->f k<=hc n f
 | n+1,d=>by rw[hc];by_cases e:k=n;subst e;omega;have:=u0 (f:=f) (n:=n) (k:=k) U;omega
def bb(x:Nat):Nat:=if x=0 then 0 else 1
def ni(aI:Nat->Nat->Nat):Nat:=hc 256 λi=>hc 256 λs=>bb (aI i s)
theorem zb{aI nk:Nat->Nat->Nat}{s:Nat}(u:i<256)(hs:s<256)(h:∀j r,(j≠i\/r≠s)->nk j r=aI j r):ni nk+bb (aI i s)=ni aI+bb (nk i s):=by
 have w:ni nk+hc 256 (λs=>bb (aI i s))=ni aI+hc 256 (λs=>bb (nk i s)):=
  p1 (f:=λi=>hc 256 λs=>bb (aI i s)) (g:=λi=>hc 256 λs=>bb (nk i s)) u λj _ d=>qY λr _=>by rw[h j r (.inl d)]
 have C:hc 256 (λs=>bb (nk i s))+bb (aI i s)=hc 256 (λs=>bb (aI i s))+bb (nk i s):=
  p1 (f:=λs=>bb (aI i s)) (g:=λs=>bb (nk i s)) hs λr _ d=>by rw[h i r (.inr d)]
 omega
structure bQ where
  l:List av.bY
  Q:List aB.bW
  bz:Int
  aI:Nat->Nat->Nat
  own:Nat->Nat
  a6:Nat->Nat->Nat
  pd:Int
  now:Int
  q:List (Int×Int)
  np:Nat
def bt(k:Int)(a:Nat)(f:Int):av.fa:=⟨k,a,f⟩
def cB(l:List av.bY)(i:Nat)(s:Int)(o:av.fa):Prop:=∃g,l[i]? =some ⟨o,s,g⟩
def fl(s:Int):Prop:=s=1\/s=2
theorem cB.inj{l:List av.bY}{s r:Int}{o d:av.fa}(h:cB l i s o)(k:cB l i r d):s=r/\o=d:=by obtain⟨g,h⟩:=h;obtain⟨u,k⟩:=k;simp_all
variable{k:Nat}
theorem cB.set{l:List av.bY}{p:av.bY}{s:Int}{o:av.fa}(h:cB (l.set k p) i s o):(i≠k/\cB l i s o)\/(i=k/\p.st=s/\p.o=o):=by obtain⟨g,h⟩:=h;by_cases e:k=i;grind;rw[VW e]at h;exact .inl ⟨λd=>e d.symm,g,h⟩
theorem cB.put{l:List av.bY}(p:av.bY){s:Int}{o:av.fa}(h:cB l i s o)(d:i≠k):cB (l.set k p) i s o:=by obtain⟨g,h⟩:=h;exact⟨g,by rw[VW λe=>d e.symm];exact h⟩
theorem jz{c d:Int}{b:Nat}{f g:Int}(h:bt c a f=bt d b g):c=d/\a=b/\f=g:=by have u:=congrArg av.fa.k h;have w:=congrArg av.fa.a h;have C:=congrArg av.fa.f h;grind[bt]
structure ch(top:Nat)(A:bQ)(S:cL):Prop where
  P:dd top S
  Q:S.Q=A.Q/\S.bz=A.bz
  obj:∀i s o,fl s->cB A.l i s o->∃(c a:Nat) (f:Int),o=bt c a f/\(1<=c/\c<=5\/c=8)/\c6 S c a
  un:∀i j s r (c a:Nat) (f g:Int),fl s->fl r->cB A.l i s (bt c a f)->cB A.l j r (bt c a g)->i=j
  hn:∀i a f,cB A.l i 1 (bt 2 a f)->gf top S a/\∀s,s<256->d6 S.m a s=A.aI i s/\(A.aI i s≠0->c6 S 6 (dP S.m a s))
  nB:∀i j a b f g s r,cB A.l i 1 (bt 2 a f)->cB A.l j 1 (bt 2 b g)->s<256->r<256->A.aI i s≠0->A.aI j r≠0->dP S.m a s=dP S.m b r->i=j/\s=r
  q6:∀i j a b f g u v,cB A.l i 1 (bt 2 a f)->cB A.l j 1 (bt 2 b g)->u<16->v<16->bp S.m a u≠0->bp S.m a u=bp S.m b v->i=j
  qM:gy (960/cb 6) (S.C 6)=ni A.aI
  mC:∀i s a f,fl s->cB A.l i s (bt 1 a f)->cO S.m a=A.own i
  a6:∀i (c a:Nat) f,cB A.l i 2 (bt c a f)->∀o,o<bG c->S.m (a+o)=A.a6 i o
  fY:(df S.C S.Fr).length<=A.np
variable{A:bQ}
theorem ch.leaf(h:ch top A S){f:Int}(u:cB A.l i 1 (bt 2 a f)){j:Nat}(w:j<16)(d:bp S.m a j≠0):c6 S 7 (bp S.m a j):=.inl ⟨fL,(h.hn i a f u).1.fF j w d⟩
variable{bl:bQ}
theorem ch.mY{Y X:Nat->Nat->Prop}(h:ch top A S)(g:ga top S a8 Y X)(el:bl.l=A.l)(aq:bl.aI=A.aI)(aY:bl.own=A.own)(a0:bl.a6=A.a6)(a2:a8.Q=bl.Q/\a8.bz=bl.bz)
 (Z:∀i s (c a:Nat) f,fl s->cB A.l i s (bt c a f)->¬Y c a/\(X c a->s=1/\c≠1/\c≠2)) (ax:∀a,¬X 6 a/\¬X 7 a) (an:gy (960/cb 6) (a8.C 6)=gy (960/cb 6) (S.C 6)) (a4:(df a8.C a8.Fr).length<=bl.np):ch top bl a8:=by
 have O:∀i a f,cB A.l i 1 (bt 2 a f)->_:=λi a f d=>(h.hn i a f d).1.mY g (λk=>((Z i 1 2 a f (.inl rfl) d).2 k).2.2 rfl) λj _ _=>(ax _).2;refine⟨g.P,a2,λi s o D d=>?_,?_,λi a f d=>?_,λi j a b f E s r d H D aA ar av e=>?_,λi j a b f E u v d H hu hv W e=>?_,by rw[an,h.qM,aq],λi s a f D d=>?_,λi c a f d o a5=>?_,a4⟩;rw[el]at d;obtain⟨c,a,f,rfl,a3,N⟩:=h.obj i s o D d;exact⟨c,a,f,rfl,a3,g.p c a N (Z i s c a f D d).1⟩;rw[el];exact h.un;rw[el]at d;obtain⟨bN,a7,aB⟩:=O i a f d;obtain⟨_,aG⟩:=h.hn i a f d;refine⟨bN,λs D=>?_⟩;rw[(aB s D).1,(aB s D).2,aq];exact⟨(aG s D).1,λW=>g.p 6 _ ((aG s D).2 W) λk=>(ax _).1 (g.p8 _ _ k)⟩;rw[el]at d H;rw[aq]at ar av;rw[((O i a f d).2.2 s D).2,((O j b E H).2.2 r aA).2]at e;exact h.nB i j a b f E s r d H D aA ar av e;rw[el]at d H;rw[(O i a f d).2.1 u hu]at W e;rw[(O j b E H).2.1 v hv]at e;exact h.q6 i j a b f E u v d H hu hv W e;rw[el]at d;rw[aY];obtain⟨c,aS,E,e,_,N⟩:=h.obj i s _ D d;obtain⟨aV,rfl,rfl⟩:=jz e;have ag:c=1:=U
 subst ag;rw[g.w N (λk=>((Z i s 1 a f D d).2 k).2.1 rfl) (UW a) (by have:bG 1=64:=rfl;omega)];exact h.mC i s a f D d;rw[el]at d;rw[a0];obtain⟨V,aS,E,e,_,N⟩:=h.obj i 2 _ (.inr rfl) d;obtain⟨aV,rfl,rfl⟩:=jz e;have ag:V=c:=U
 subst ag;rw[g.m V a N (λk=>absurd ((Z i 2 V a f (.inr rfl) d).2 k).1 am) _ U U];exact h.a6 i V a f d o a5
theorem ch.free(h:ch top A S){p:av.bY}(V:¬fl p.st)(el:bl.l=A.l.set k p)(E:bl.aI=A.aI)(N:bl.own=A.own)(O:bl.a6=A.a6)(eq:bl.Q=A.Q/\bl.bz=A.bz/\bl.np=A.np):ch top bl S:=by
 have back:∀{i s o},fl s->cB bl.l i s o->cB A.l i s o:=λ{i s o} w d=>(by rw[el]at d;rcases d.set with⟨_,h⟩|⟨_,h,_⟩;all_goals simp_all);have D:fl 1:=.inl rfl
 refine⟨h.P,by rw[eq.1,eq.2.1];exact h.Q,λi s o w d=>h.obj i s o w (back w d),λi j s r c a f g w H d C=>h.un i j s r c a f g w H (back w d) (back H C),λi a f d=>by rw[E];exact h.hn i a f (back D d),
  λi j a b f g s r d C=>by rw[E];exact h.nB i j a b f g s r (back D d) (back D C),λi j a b f g u v d C=>h.q6 i j a b f g u v (back D d) (back D C),by rw[E];exact h.qM,λi s a f w d=>by rw[N];exact h.mC i s a f w (back w d),λi c a f d=>by rw[O];exact h.a6 i c a f (back (.inr rfl) d),by rw[eq.2.2];exact h.fY⟩
theorem ch.tP(h:ch top A S){o:av.fa}{g:Int}(aY:cB A.l k 1 o)(el:bl.l=A.l.set k ⟨o,2,g⟩)(O:bl.aI=A.aI)(Z:bl.own=A.own)(ag:bl.a6=λi=>if i=k then λx=>S.m (o.a.toNat+x)else A.a6 i)(eq:bl.Q=A.Q/\bl.bz=A.bz/\bl.np=A.np):ch top bl S:=by
 have back:∀{i s w},cB bl.l i s w->(i≠k/\cB A.l i s w)\/(i=k/\s=2/\w=o/\cB A.l i 1 w):=λ{i s w} d=>(by rw[el]at d;rcases d.set with h|⟨rfl,W,aV⟩;all_goals simp_all);have N:∀{i s w},fl s->cB bl.l i s w->∃r,fl r/\cB A.l i r w:=λ{i s w} C d=>(by rcases back d with⟨_,h⟩|⟨_,_,_,h⟩;grind;exact⟨1,.inl rfl,h⟩);have D:∀{i w},cB bl.l i 1 w->cB A.l i 1 w:=λ{i w} d=>cp
 refine⟨h.P,by rw[eq.1,eq.2.1];exact h.Q,λi s o C d=>?_,λi j s r c a f g C H d E=>?_,λi a f d=>by rw[O];exact h.hn i a f (D d),
  λi j a b f g s r d E=>by rw[O];exact h.nB i j a b f g s r (D d) (D E),λi j a b f g u v d E=>h.q6 i j a b f g u v (D d) (D E),by rw[O];exact h.qM,λi s a f C d=>?_,λi c a f d w ax=>?_,by rw[eq.2.2];exact h.fY⟩
 obtain⟨r,H,V⟩:=N C d;exact h.obj i r o H V;obtain⟨aS,aB,an⟩:=N C d;obtain⟨aG,aA,aq⟩:=N H E;exact h.un i j aS aG c a f g aB aA an aq;rw[Z];obtain⟨r,H,V⟩:=N C d;exact h.mC i r a f H V;rw[ag];dsimp only;rcases back d with⟨ar,W⟩|⟨rfl,_,rfl,_⟩;rw[al ar];exact h.a6 i c a f W w ax;rw[aw rfl];rfl
theorem ch.put(h:ch top A S){f g:Int}(a7:∀s o,cB A.l k s o->¬fl s)(a4:1<=c/\c<=5\/c=8)(aV:c6 S c a)(a5:∀i s (g:Int),fl s->¬cB A.l i s (bt c a g))(el:bl.l=A.l.set k ⟨bt c a f,1,g⟩)(ar:bl.aI=A.aI)(aG:∀i,i≠k->bl.own i=A.own i)(a3:c=1->cO S.m a=bl.own k)(aS:bl.a6=A.a6)(eq:bl.Q=A.Q/\bl.bz=A.bz/\bl.np=A.np)
 (ax:c=2->(∀o,a<=o->o+8<=a+128->cO S.m o=0)/\∀s,A.aI k s=0):ch top bl S:=by
 have back:∀{i s V},cB bl.l i s V->(i≠k/\cB A.l i s V)\/(i=k/\s=1/\V=bt c a f):=λ{i s V} w=>(by rw[el]at w;rcases w.set with h|⟨rfl,N,an⟩;all_goals simp_all);have z0:∀{d},bt 2 d f=bt c a f->c=2/\d=a:=λ{d} e=>(by grind[jz]);refine⟨h.P,by rw[eq.1,eq.2.1];exact h.Q,λi s o O w=>?_,λi j s r aq d E W O av w D=>?_,λi d E w=>?_,λi j d b E W s r w D O av=>?_,λi j d b E W u v w D hu hv H e=>?_,by rw[ar];exact h.qM,λi s d E O w=>?_,λi aq d E w V a0=>?_,by rw[eq.2.2];exact h.fY⟩;rcases back w with⟨_,N⟩|⟨_,_,rfl⟩;exact h.obj i s o O N;grind;·rcases back w with⟨_,N⟩|⟨rfl,_,e⟩<;>rcases back D with⟨_,an⟩|⟨rfl,_,ag⟩;exact h.un i j s r aq d E W O av N an;all_goals grind[jz]
 ·rw[ar];rcases back w with⟨_,N⟩|⟨rfl,_,e⟩;exact h.hn i d E N;obtain⟨Z,rfl,rfl⟩:=jz e;(obtain rfl:c=2:=by omega);obtain⟨a8,aB⟩:=ax rfl;(have H:∀j,j<16->bp S.m d j=0:=by grind[bp]);have a2:e3 128 (S.C 2) d:=(by rcases aV with⟨_,k⟩|⟨k,_⟩;all_goals trivial);exact⟨⟨a2,λj D k=>absurd (H j D) k,λj _ D _ _ k=>absurd (H j D) k,λj D k=>absurd (H j D) k,λj D k=>absurd (H j D) k⟩,λs O=>⟨by rw[d6,aw (H _ U),aB],λk=>absurd (aB s) k⟩⟩
 ·rw[ar];intro N an e;rcases back w with⟨_,bN⟩|⟨rfl,_,Z⟩<;>rcases back D with⟨_,aA⟩|⟨rfl,_,ag⟩;exact h.nB i j d b E W s r bN aA O av N an e;all_goals grind[jz]
 rcases back w with⟨_,bN⟩|⟨rfl,_,Z⟩<;>rcases back D with⟨_,aA⟩|⟨rfl,_,ag⟩;exact h.q6 i j d b E W u v bN aA hu hv H e;obtain⟨Z,rfl,_⟩:=jz ag;exact absurd (e.trans ((ax U).1 _ U U)) H;obtain⟨ag,rfl,_⟩:=jz Z;exact absurd ((ax U).1 _ U U) H;trivial;rcases back w with⟨aY,bN⟩|⟨rfl,_,e⟩;rw[aG i aY];exact h.mC i s d E O bN;grind[jz];rw[aS];rcases back w with⟨_,bN⟩|⟨_,e,_⟩;exact h.a6 i aq d E bN V a0;trivial
theorem ch.BM{Y X:Nat->Nat->Prop}(h:ch top A S)(g:ga top S a8 Y X){f:Int}(a2:cB A.l k 1 (bt 2 a f))(el:bl.l=A.l)(bq:bl.own=A.own)(bu:bl.a6=A.a6)(bL:a8.Q=bl.Q/\a8.bz=bl.bz)(aG:∀i,i≠k->bl.aI i=A.aI i)
 (aS:∀c b,X c b->(c=2/\b=a)\/(c=7/\∃j,j<16/\bp S.m a j≠0/\bp S.m a j=b)\/(c=6/\∃s,s<256/\A.aI k s≠0/\dP S.m a s=b)) (b0:∀c b,Y c b->c≠2)
 (bY:gf top a8 a) (a7:∀s,s<256->d6 a8.m a s=bl.aI k s/\(bl.aI k s≠0->c6 a8 6 (dP a8.m a s)/\((A.aI k s≠0/\dP a8.m a s=dP S.m a s)\/¬c6 S 6 (dP a8.m a s))))
 (bw:∀s r,s<256->r<256->bl.aI k s≠0->bl.aI k r≠0->dP a8.m a s=dP a8.m a r->s=r) (a9:∀j,j<16->bp a8.m a j≠0->(bp S.m a j≠0/\bp a8.m a j=bp S.m a j)\/¬c6 S 7 (bp a8.m a j)) (an:gy (960/cb 6) (a8.C 6)=ni bl.aI) (bQ:(df a8.C a8.Fr).length<=bl.np):ch top bl a8:=by
 have be:fl 1:=.inl rfl;have bh:∀{i s} {c b:Nat} {E},i≠k->fl s->cB A.l i s (bt c b E)->(c<=5\/c=8)->¬X c b:=λ{i s c b E} aB H D a0 aY=>(by rcases aS c b aY with⟨rfl,rfl⟩|⟨rfl,_⟩|⟨rfl,_⟩;exact aB (h.un i k s 1 2 b E f H be D a2);all_goals trivial);have av:∀{i b E},i≠k->cB A.l i 1 (bt 2 b E)->_:=λ{i b E} aB D=>(h.hn i b E D).1.mY g (bh (c:=2) aB be D U) λj N V aY=>(by rcases aS 7 _ aY with⟨e,_⟩|⟨_,u,hu,ag,aq⟩|⟨e,_⟩;trivial;exact aB (h.q6 k i a b f E u j a2 D hu N ag aq).symm;trivial);have a3:∀{b E},cB A.l k 1 (bt 2 b E)->b=a:=by grind[cB,jz]
 refine⟨g.P,bL,λi s o H D=>?_,by rw[el];exact h.un,λi b E D=>?_,λi j b d E ax s r D N H ar ag aq e=>?_,λi j b d E ax u v D N hu hv V e=>?_,an,λi s b E H D=>?_,λi c b E D o bW=>?_,bQ⟩;·rw[el]at D;obtain⟨c,b,E,rfl,a0,aV⟩:=h.obj i s o H D;refine⟨c,b,E,rfl,a0,?_⟩;refine g.p c b aV λa5=>?_;rcases aS c b (g.p8 c b a5)with⟨rfl,rfl⟩|⟨rfl,_⟩|⟨rfl,_⟩;all_goals grind
 rw[el]at D;by_cases e:i=k;grind;obtain⟨bN,b7,bc⟩:=av e D;obtain⟨_,bd⟩:=h.hn i b E D;refine⟨bN,λs H=>?_⟩;rw[(bc s H).1,(bc s H).2,aG i e];refine⟨(bd s H).1,λV=>g.p 6 _ ((bd s H).2 V) λa5=>?_⟩;rcases aS 6 _ (g.p8 _ _ a5)with⟨bn,_⟩|⟨bn,_⟩|⟨_,r,ar,ag,aq⟩;trivial;trivial;exact e (h.nB k i a b f E r s a2 D ar H ag V aq).1.symm;rw[el]at D N;by_cases W:i=k<;>by_cases Z:j=k;grind;subst W;obtain rfl:=a3 D;rw[aG j Z]at aq;rw[((av Z N).2.2 r ar).2]at e;rcases((a7 s H).2 ag).2 with⟨O,aA⟩|O;rw[aA]at e;exact absurd (h.nB i j b d E ax s r D N H ar O aq e).1.symm Z;rw[e]at O;exact absurd (((h.hn j d ax N).2 r ar).2 aq) O;subst Z;obtain rfl:=a3 N;rw[aG i W]at ag;rw[((av W D).2.2 s H).2]at e;rcases((a7 r ar).2 aq).2 with⟨O,aA⟩|O;rw[aA]at e;exact absurd (h.nB i j b d E ax s r D N H ar ag O e).1 W;rw[<-e]at O;exact absurd (((h.hn i b E D).2 s H).2 ag) O;rw[aG i W]at ag;rw[aG j Z]at aq;rw[((av W D).2.2 s H).2,((av Z N).2.2 r ar).2]at e;exact h.nB i j b d E ax s r D N H ar ag aq e;rw[el]at D N;by_cases W:i=k<;>by_cases Z:j=k;omega;subst W;obtain rfl:=a3 D;rw[(av Z N).2.1 v hv]at e;rcases a9 u hu V with⟨O,aA⟩|O;rw[aA]at e;exact h.q6 i j b d E ax u v D N hu hv O e;rw[e]at O V;exact absurd (h.leaf N hv V) O;subst Z;obtain rfl:=a3 N;rw[(av W D).2.1 u hu]at e V;rcases a9 v hv (e▸V)with⟨O,aA⟩|O;rw[aA]at e;exact h.q6 i j b d E ax u v D N hu hv V e;rw[<-e]at O;exact absurd (h.leaf D hu V) O;rw[(av W D).2.1 u hu]at e V;rw[(av Z N).2.1 v hv]at e;exact h.q6 i j b d E ax u v D N hu hv V e;rw[el]at D;rw[bq];obtain⟨c,bi,f9,e,a0,aV⟩:=h.obj i s _ H D;obtain⟨W,rfl,rfl⟩:=jz e;obtain rfl:c=1:=by omega
 rw[g.w aV (λaY=>by rcases aS 1 b aY with⟨e,_⟩|⟨e,_⟩|⟨e,_⟩<;>omega) (UW b) (by have:bG 1=64:=rfl;omega)];exact h.mC i s b E H D;rw[el]at D;rw[bu];obtain⟨a4,bi,f9,e,a0,aV⟩:=h.obj i 2 _ (.inr rfl) D;obtain⟨W,rfl,rfl⟩:=jz e;obtain rfl:a4=c:=U
 have aB:i≠k:=λe=>absurd ((e▸D).inj a2).1 am;rw[g.m a4 b aV (bh aB (.inr rfl) D U) _ U U];exact h.a6 i a4 b E D o bW
end Go.Proofs.YtglgidjhoncphaaGreatDoor
