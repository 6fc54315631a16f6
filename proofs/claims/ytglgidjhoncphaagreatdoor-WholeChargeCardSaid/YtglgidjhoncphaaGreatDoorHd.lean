/- Proved here: contracts, each under its own premises. -/
import Derived.Shelf.Sort.Plain
import Derived.Shelf.Slices.In.SortNone
import Derived.Test.YtglgidjhoncphaaGreatDoorHc
set_option linter.all false
set_option maxRecDepth 4000
set_option maxHeartbeats 4000000
open List renaming getElem?_eq_getElem->Vc,mem_append->Ve,mem_of_getElem?->Vg,getElem?_eq_some_iff->Vm,not_mem_nil->Vn,mem_cons->Vq,mem_map->Vs,take_add_one->Vt,nodup_cons->Vw,toArray->Vz,replicate->VA,flatMap_cons->VD,nodup_append->VI,append_assoc->VJ,getElem?_of_mem->Wa,mem_flatMap->Wc,perm_append_singleton->We,getElem?_append_left->Wh,map_congr_left->Wq,pairwise_iff_getElem->WB,eq_nil_of_length_eq_zero->Xd,getElem?_eq_none->Xj,range'->Ys,length_append->mp,mem_singleton->Vd,length_singleton->Vl,nil_append->Vx,length_cons->Vy,mem_filter->VE,map_cons->VF,filter_eq_self->VK,cons_append->VM,getElem?_set_self->VZ,nodup_nil->V1,map_append->V7,append_nil->V9,length_map->Wb,getElem?_set_ne->Wm,filter_cons_of_neg->Wt,filter_sublist->WE,length_take->WN,drop_drop->WP,length_nil->WX,filter_filter->WZ,find?_eq_none->W4,map_nil->W5,find?_cons->XN,filter_append->Ye,mem_zipIdx_iff_getElem?->Yk,pairwise_map->Yt,append_eq_append_iff->YI
open Decidable renaming of_not_not->Vh,not_not->Vr,by_contra->Wi
open Nat renaming zero_le->Vj,pow_le_pow_right->Vk,le_of_ble_eq_true->Vp,mul_le_mul_right->VR,add_mul->V8,zero_add->WC,le_refl->Vi,le_trans->Wu
open Go.Proofs.Tryz renaming prog->VU
open Go.Value renaming slice->V0,int->V3,pointer->Yi
open List.Perm renaming refl->Xv
open List.Pairwise renaming nil->Yw
open Int renaming toNat_of_nonneg->Wf
open List.cons renaming inj->Xh
open Go.QM.ab renaming aA->Vf,loop->VP,bg->WD
open Go.QM.aU renaming known->VL
open Go.QM.aG renaming refl->VW
open Go.QM.bE renaming to->Wn
open Go.QM.dR renaming int->Yh
open Go.QM.b4 renaming i->YE
namespace Go.QM
open Go Go.Sort Go.Shelf Go.Proofs
def ff(xs:List Int):List Int:=xs.mergeSort λx y=>decide (x<=y)
variable(xs:List Int)
theorem r5:(ff xs).Perm xs:=List.mergeSort_perm _ _
theorem p3:(ff xs).length=xs.length:=(r5 xs).length_eq
theorem BW:(ff xs).Pairwise λx y=>x<=y:=by have:=List.pairwise_mergeSort (le:=λx y:Int=>decide (x<=y)) (λa b c d u=>by simp at d u⊢;omega) (λa b=>by simp;omega) xs;exact this.imp λh=>by simpa using h
theorem Sb{w:World}{A:ay}(h:sat w A)(os:Array Obj):sat (grow w os) A:=by
 obtain⟨x,C,d⟩:=h;refine⟨x,λi o u=>?_,d⟩;have:=C i o u;have D:i<w.heap.size:=cm
 show(w.heap++os)[i]? =some o;grind
theorem Q2(pre u:List Value)(xs d:List Int)(h:d.length=xs.length):putCells (V3 .i64) pre.length d.toArray (pre++ints xs++u).toArray=(pre++ints d++u).toArray:=by have w:=dP xs;have C:=dP d;apply Array.ext;all_goals grind[putCells,ints]
theorem HM{P:Program}{H:Ren}(N:Lays.n189 P H)(he:ld P (H.f 189)=true)(E:Nat)(ad:Option Addr)(cap:Nat)(xs:List Int)(bl:xs.length<=1000000):
    eF P (H.f 189) [.slice ad xs.length cap] ba [aZ E 1 ad xs.length cap (ints xs)] (λ_:Unit=>.tuple #[]) (λ_=>True) (λ_=>[aZ E 1 ad xs.length cap (ints (ff xs))]):=by refine⟨he,λF _ w D=>?_⟩;by_cases W:xs=[];subst W;refine(callsIn_wide.2 (Any.slices_Sort_int_none N ad cap w)).mono ?_;rintro e Z ⟨rfl,rfl⟩;exact⟨(),rfl,trivial,fw.refl Z,by have aq:ff []=[]:=Xd (p3 []);dsimp only;rw[aq];exact D⟩;cases ad with|none=>exfalso;obtain⟨h,_,a,b,_,rfl,aP,_⟩:=D;obtain⟨c,d,_,rfl,aW,_⟩:=aP;have:=aW.1.1;exact W (Xd this)|some p=>obtain⟨bi,bh,bn,a7,d1,rfl,ar,au⟩:=D;obtain⟨a5,a8,d2,rfl,aw,ay⟩:=ar;obtain⟨⟨pre,u⟩,⟨g1,g2,g3,g4,g5⟩,aA⟩:=aw;have a9:sat w (sep (sep (aj p.block E (pre++ints xs++u)) kz) F):=⟨_,bh,_,a7,d1,rfl,⟨a5,a8,d2,rfl,aA,ay⟩,au⟩;have V:sat w (sep (obj p.block (.cells (pre++ints xs++u).toArray E (0,0))) (sep kz F)):=a9.bg pZ;have C:w.heap[p.block]? =some (.cells (pre++ints xs++u).toArray E (0,0)):=(iA (iL _ _)).sat V;have a3:p.block<w.heap.size:=(Array.getElem?_eq_some_iff.1 C).1;have bj:=dP xs;have aL:Holds (V3 .i64) w p.block pre.length xs.toArray:=λj O=>(by(have a2:j<xs.length:=by simpa using O);refine⟨?_,by simp[World.frozen?,C]⟩;have aF:(pre++ints xs++u)[pre.length+j]? =some (aa xs[j]):=(by rw[VJ,List.getElem?_append_right U,Nat.add_sub_cancel_left,Wh U,ints,List.getElem?_map,Vc a2];rfl);rw[getElem!_pos xs.toArray j O,List.getElem_toArray];simp[World.cell?,C];simpa using aF);have ag:(some p:Option Addr)=some ⟨p.block,pre.length,none⟩:=congrArg some g1;rw[ag];refine(callsIn_wide.2 (Any.slices_Sort_int N p.block pre.length cap xs w aL a3 U)).mono ?_;rintro e Z ⟨rfl,n,os,rfl⟩;refine⟨(),rfl,trivial,⟨rfl,rfl,rfl,?_⟩,Sb ?_ os⟩;simp[grow];have ao:(putRow (V3 .i64) (Go.Sort.ahead w n) p.block pre.length (ff xs).toArray).heap[p.block]? =some (.cells (pre++ints (ff xs)++u).toArray E (0,0)):=(by show(w.heap.modify p.block (onCells _))[p.block]? =_;rw[Array.getElem?_modify,ax rfl,C];simp only[Option.map_some,onCells];rw[Q2 pre u xs (ff xs) (p3 xs)]);have bc:=u4 V ao (λi a0=>by show(w.heap.modify p.block (onCells _))[i]? =_;rw[Array.getElem?_modify,al (Ne.symm a0)]);have bd:sat _ (sep (sep (aj p.block E (pre++ints (ff xs)++u)) kz) F):=bc.bg nD;refine bd.bg (dT (dT ?_ (VW _)) (VW _));exact hR λh a4=>⟨(pre,u),⟨rfl,by rw[dP,p3];omega,g3,g4,by rw[dP,p3];omega⟩,a4⟩
end Go.QM
namespace Go.Proofs.Q.aw
open Go Go.QM
theorem Re(b aC jb:Nat)(lim:Int)(h:0<=lim/\lim<=1073741824)(F:ay):aG (ah [aj b 187 [.map (some aC),aa 1],bO QM.encI aC (fj (λ_=>none) 0 (ae jb)) 1,aj jb 194 [aa lim,aa 0,aa 0,aa (-1),aa 0],F]) (ah [dt b [⟨0,-1,lim,0⟩] 1,F]):=by have d:jq (aO (λ_=>0) 0 jb) [⟨0,-1,lim,0⟩]=fj (λ_=>none) 0 (ae jb):=(by have:=En (λ_=>0) [] ⟨0,-1,lim,0⟩ jb;trivial);have u:kR (aO (λ_=>0) 0 jb) [⟨0,-1,lim,0⟩] ⟨0,-1,lim,0⟩=aj jb 194 [aa lim,aa 0,aa 0,aa (-1),aa 0]:=(by trivial);refine(nb (f:=kR (aO (λ_=>0) 0 jb) [⟨0,-1,lim,0⟩]) _).trans ?_;refine az (⟨aO (λ_=>0) 0 jb,aC⟩:oE) (eK.start h) ?_;exact bP 1 rfl (b6 1 rfl (by dsimp only;rw[d];rfl) (cY 1 0 ⟨0,-1,lim,0⟩ rfl rfl u.symm (λ_ _=>rfl) (Xv _) (an (aX _))))
theorem O2{A:Int->Nat}{L:List bS}{u:Int}{y:List Int}(av:eK L u)(h:mQ (jq A L) L.length y):ff y=L.map (·.id):=by have d:y.Perm (L.map (·.id)):=(List.perm_ext_iff_of_nodup h.1 av.bq).2 λx=>(by rw[h.2.2,jq,<-NK];simp_all);refine List.Perm.eq_of_pairwise (le:=λa c=>a<=c) (λa c _ _ w C=>by omega) (BW y) (av.j4.imp λh=>by omega) ((r5 y).trans d)
theorem Ri(ad:Option Addr)(cap:Nat)(xs:List Int)(d:xs.length<=1000000):bn 148 [.slice ad xs.length cap] ba [aZ 3 1 ad xs.length cap (ints xs)] (.tuple #[]) [aZ 3 1 ad xs.length cap (ints (ff xs))]:=
 HM FG aV 3 ad cap xs d
theorem BX(d aC n:Nat)(f:Int->Option Value)(ao:n<=1000000):bH 98 [.func (.func 149) #[] #[ae d]] ba [aj d 184 [.map (some aC)],bO QM.encI aC f n] (λy:(Option Addr×Nat)×List Int=>.slice y.1.1 (ff y.2).length y.1.2) (λy=>mQ f n y.2) (λy=>[aZ 3 1 y.1.1 (ff y.2).length y.1.2 (ints (ff y.2)),bO QM.encI aC f n]):=by apply aF Tryz.func98 Tryz.ntmps98;intro F _;apply J [11,115,114,0];apply a7 (zp d aC n f ao);intro y u;apply J [6,174,33];have w:=u.2.1;refine e rfl ?_;apply aq (Ri y.1.1 y.1.2 y.2 U);apply J [6,2,33,61];exact YE y [_] ⟨rfl,trivial⟩ (by rw[p3];rfl) u (b6 0 rfl (by rw[p3]) ai)
theorem Ra(b:Nat)(L:List bS)(d:Int):bH 45 [ae b] ba [dt b L d] (λy:Option Addr×Nat=>.slice y.1 (L.map (·.id)).length y.2) (λ_=>True) (λy=>[aZ 3 1 y.1 (L.map (·.id)).length y.2 (ints (L.map (·.id))),dt b L d]):=by apply aF Tryz.func45 Tryz.ntmps45;intro F _;apply J [1];refine ab.open 0 rfl (λD w=>?_);obtain⟨A,aC⟩:=D;have av:=w;apply J [83];dsimp only at av⊢;have E:=av.len;apply J [196,41,233];apply a7 (Av aC);intro u _;apply J [9,0];apply a7 (BX u aC L.length (jq A L) U);intro y C;apply J [9];rw[O2 av C];apply J [61];exact br y.1 trivial (an (az ⟨A,aC⟩ av (bU (an (an (an (aX _)))))))
theorem G5(lim:Int)(h:0<=lim/\lim<=1073741824):bH 175 [aa lim] ba [] (λb:Nat=>ae b) (λ_=>True) (λb=>[dt b [⟨0,-1,lim,0⟩] 1]):=by apply aF Tryz.func175 Tryz.ntmps175;intro F _;refine J [8,124,179,390,141,103] ?_;refine Vf rfl (λd=>absurd d U) (λd=>?_);refine J [4,25,352] ?_;intro bb;refine J [3,251,471,0,520] ?_;intro bD;refine eB ?_;refine N7 3 185 rfl (Yh rfl) rfl rfl rfl ?_;refine q rfl rfl (fR (v:=.map _) rfl) ?_;refine q rfl rfl (eh (cs:=[.map _,.int _ _]) rfl) ?_;refine e rfl ?_;refine eS (v:=.agg #[_,_]) (l:=[.map _,.int _ _]) rfl rfl ?_;intro cp;apply J [104];exact br cp trivial (Re cp bb bD lim h F)
theorem Rf(lim:Int)(h:¬(0<=lim/\lim<=1073741824)):bn 175 [aa lim] ba [] (.pointer none) []:=by apply aF Tryz.func175 Tryz.ntmps175;intro F _;apply J [8,124,179];refine aU.split 5 rfl (λd=>?_) (λd=>?_);have d:=dz d;apply J [48,134,273];exact dh;have d:=d7 d;apply J [141,103];refine Vf rfl (λu=>?_) (λu=>absurd U u);apply J [168,74];exact dh
theorem Q7(b:Nat)(L:List bS)(d:Int)(pr lim:Int)(a7:d<=1000000):bn 187 [ae b,aa pr,aa lim] ba [dt b L d] (.tuple #[aa (fO L d pr lim).2.2.1,aa (fO L d pr lim).2.2.2]) [dt b (fO L d pr lim).1 (fO L d pr lim).2.1]:=by
 apply aF Tryz.func187 Tryz.ntmps187;intro F _;apply J [1];refine ab.open 0 rfl (λaW aP=>?_);obtain⟨A,aC⟩:=aW;have av:=aP;apply J [83];dsimp only at av⊢;by_cases h:cX L pr;·obtain⟨t,D,rfl⟩:=h;(have h:cX L t.id:=by grind[cX]);obtain⟨ag,ao,a0,a2⟩:=hB av.bq D;have a5:=av.pq D;have a8:=av.rg t D;obtain⟨M,bK⟩:=fA D;haveI:=q3 (A:=A) D;apply J [215,32];apply aq (qT b aC L.length d A L t.id h);apply J [14,59,23,331,38];apply Vf rfl<;>intro E;(have hv:fO L d t.id lim=(L,d,0,1):=by rw[fO,al (λw=>w h),ax E]);rw[hv];dsimp only;apply J [171];exact Cv;apply J [43,29];apply ew (G3 (A t.id) t.lim t.fJ (fb L t.id) t.par (gF L t.id) U U lim U) fN.rd;apply J [14,409,38];apply Vf rfl<;>intro C;(have hv:fO L d t.id lim=(L,d,0,5):=by rw[fO,al (λw=>w h),al E,ax (by rw[ag,ao];exact C)]);rw[hv];dsimp only;apply J [171];exact Cv;(have w:lim<=t.lim-(t.fJ+fb L t.id):=by omega);(have C:¬¬lim<=ja L t.id-kq L t.id:=by omega);apply J [50];refine q rfl rfl (Px 3 185 rfl rfl) ?_;apply J [175];apply Vf rfl<;>intro a3;(have hv:fO L d t.id lim=(L,d,0,11):=by rw[fO,al (λw=>w h),al E,al C,ax U]);rw[hv];dsimp only;apply J [171];exact Cv;(have V:L.length≠32:=by omega);(have hv:fO L d t.id lim=(L++[(⟨d,t.id,lim,0⟩:bS)],d+1,d,0):=by rw[fO,al (λw=>w h),al E,al C,al V]);rw[hv];dsimp only;have au:eK (L++[(⟨d,t.id,lim,0⟩:bS)]) (d+1):=av.add h U (Vr.1 C) V;(have eM:¬cX L d:=λ⟨u,hu,e⟩=>by have:=av.rg u hu;omega);have ay:=Eo (A:=A) eM;(have aL:(L++[(⟨d,t.id,lim,0⟩:bS)]).length=L.length+1:=by simp_all);(have H:∀x,fb (L++[(⟨d,t.id,lim,0⟩:bS)]) x=fb L x+(if t.id=x then lim else 0):=λx=>by rw[uj,rB]);(have N:∀x,gF (L++[(⟨d,t.id,lim,0⟩:bS)]) x=gF L x+(if t.id=x then 1 else 0):=λx=>by rw[wX,wY]);have Z:=EE (L:=L) (x:=d) (λu hu=>by have:=av.GJ hu;omega);(have O:t.id≠d:=by omega);refine J [355,20,65,28,65,146,268,286,50,120,251,3,471,0,520] ?_;intro P;refine eB ?_;refine l1 3 185 rfl (Yh rfl) rfl rfl rfl ?_;refine J [2,43,55,3,146,80,81,288,286,122,214,146,80,407,286,27,99] ?_;have ar:(t::(⟨d,t.id,lim,0⟩:bS)::M).Perm (L++[(⟨d,t.id,lim,0⟩:bS)]):=(List.Perm.swap _ _ _).trans ((bK.symm.cons _).trans (We _ _).symm);have aw:∀u∈M,kR A L u=kR (aO A d P) (L++[(⟨d,t.id,lim,0⟩:bS)]) u:=λu hu=>(by have a4:=av.rg u (bK.mem_iff.2 (by simp[hu]));have W:t.id≠u.id:=λe=>(Vw.1 (av.bq.perm bK.symm)).1 (Vs.2 ⟨u,hu,e.symm⟩);dsimp only[kR];rw[bM U,H,N,al W,al W,Int.add_zero,Int.add_zero]);exact hN (az (⟨aO A d P,aC⟩:oE) au (c0 (b6 1 rfl (by dsimp only;rw[En (t:=(⟨d,t.id,lim,0⟩:bS)),ay,aL];rfl) (ua 0 0 0 t (⟨d,t.id,lim,0⟩:bS) rfl rfl rfl (by dsimp only[kR];rw[bM O,H,N,ax rfl,ax rfl];rfl) (by dsimp only[kR];rw[cj,H,N,al O,al O,Z.1,Z.2];rfl) aw ar (an (aX _))))))
 have hv:fO L d pr lim=(L,d,0,6):=ax h;rw[hv];dsimp only;apply J [215,32];apply aq (qS b aC L.length d A L pr h);apply J [14,59,12,27,119];exact hN (az ⟨A,aC⟩ av (an (an (an (an (aX _))))))
theorem Q9(b:Nat)(L:List bS)(E:Int)(id:Int):bn 222 [ae b,aa id] ba [dt b L E] (aa (iC L id).2) [dt b (iC L id).1 E]:=by
 apply aF Tryz.func222 Tryz.ntmps222;intro F _;apply J [1];refine ab.open 0 rfl (λa4 a3=>?_);obtain⟨A,aC⟩:=a4;have av:=a3;apply J [83];dsimp only at av⊢;by_cases h:cX L id;obtain⟨t,w,rfl⟩:=h;have h:cX L t.id:=by grind[cX]
 obtain⟨W,H,a5,a7⟩:=hB av.bq w;have bc:=av.pq w;have bl:=av.rg t w;haveI:=q3 (A:=A) w;apply J [53];apply aq (qT b aC L.length E A L t.id h);apply J [14,59,23,27,175];apply Vf rfl<;>intro C;have hv:iC L t.id=(L,1):=by rw[iC,al (λd=>d h),ax C]
 rw[hv];dsimp only;apply J [67];exact si;apply J [43,0];apply ew (Bz (A t.id) t.lim t.fJ (fb L t.id) t.par (gF L t.id) U U) fN.rd;apply J [14,87,19];refine aU.split 27 rfl (λD=>?_) (λD=>?_);have D:=dz D;apply J [213,143,12];have hv:iC L t.id=(L,12):=by rw[iC,al (λd=>d h),al C,ax (.inl (by rw[W];exact D))]
 rw[hv];dsimp only;apply J [67];exact si;have D:=d7 D;apply J [136,472,165,159,207];apply Vf rfl<;>intro d;have hv:iC L t.id=(L,12):=by rw[iC,al (λd=>d h),al C,ax (.inr d)]
 rw[hv];dsimp only;apply J [67];exact si;have ar:t.fJ+fb L t.id=0:=U
 have hv:iC L t.id=(kM L t.id,0):=by rw[iC,al (λd=>d h),al C,al (λau=>au.elim (λO=>O (by rw[W];exact ar)) (λO=>d O))]
 rw[hv];dsimp only;have P:eK (kM L t.id) E:=av.off w C d;obtain⟨⟨pp,a2,N⟩,bi⟩:=av.par t w C;have bj:cX L t.par:=by grind[cX]
 have bd:=av.pq a2;obtain⟨V,Z⟩:=fA w;have ec:pp∈V:=cm;obtain⟨M,bK⟩:=fA ec;have ay:(kM L t.id).Perm V:=xw av.bq Z;have ag:pp::M|>.Perm (kM L t.id):=(ay.trans bK).symm;have a0:=Qj av.bq w;have ao:=λx=>Gw av.bq w x;have bh:t.lim<=fb L pp.id/\1<=gF L pp.id:=(by have a9:=wH P pp.id;have bJ:=(Fv (kM L t.id) pp.id).1;simp_all);have aW:jq A L t.par=some (.pointer (some ⟨A pp.id,0,none⟩)):=by grind[zH]
 have aP:=zH (A:=A) h;apply J [206,508,49,275];refine bY rfl rfl rfl (kj 3 185 rfl rfl (Yh rfl) rfl rfl) ?_;rw[aW];apply J [473,73,7];refine WD (fW 2 rfl Z) ?_;apply J [521];refine ab.draw _ [14] [0,1,2,3,4,5,6,7,8,9,10,11,12,13,-14] aV aV (VW _) ?_;refine J [328,135,170,438,88,86,364,90,503,73,122,214,243,80,407,286,50,3,22] ?_;refine lP 3 185 rfl (Yh rfl) rfl rfl rfl ?_;apply J [118];have aL:∀u∈M,kR A L u=kR A (kM L t.id) u:=λu hu=>(by have a8:t.par≠u.id:=λH=>(by rw[<-N]at H;have aw:=P.bq.perm ag;exact(Vw.1 aw).1 (Vs.2 ⟨u,hu,H.symm⟩));grind);exact e9 (az (⟨A,aC⟩:oE) P (eQ (b6 0 rfl (by dsimp only;rw[Mu,aP,<-a0];rfl) (cY 0 0 pp rfl rfl (by dsimp only[kR];rw[(ao pp.id).1,(ao pp.id).2,ax N.symm,ax N.symm];rfl) aL ag (bU (aX _))))));have hv:iC L id=(L,6):=ax h;rw[hv];dsimp only;apply J [53];apply aq (qS b aC L.length E A L id h);apply J [14,59,12,211];exact ow
end Go.Proofs.Q.aw
namespace Go.Proofs.Q
open Go Go.QM
def cc(c:Nat):Nat:=[0,64,128,256,32,32,48,256].getD c 0
def cls:List Nat:=Ys 1 7
variable{c:Nat}
theorem wd:c∈cls↔1<=c/\c<=7:=by rw[cls,List.mem_range'_1];omega
theorem oI(h:c∈cls):c<8:=by have:=wd.1 h;omega
theorem tU(h:c∈cls):c=1\/c=2\/c=3\/c=4\/c=5\/c=6\/c=7:=by rw[wd]at h;omega
theorem py(h:c∈cls):((16<=cc c/\cc c<=512)/\cc c %16=0)/\cc c≠0:=by rcases tU h with rfl|rfl|rfl|rfl|rfl|rfl|rfl<;>decide
theorem DG(h:c∈cls):3<=960/cc c:=by rcases tU h with rfl|rfl|rfl|rfl|rfl|rfl|rfl<;>decide
theorem DN(h:c<8):qu[0+((c:Nat):Int).toNat*1]? =some (aa (cc c:Int)):=by
 have:c=0\/c=1\/c=2\/c=3\/c=4\/c=5\/c=6\/c=7:=U
 rcases this with rfl|rfl|rfl|rfl|rfl|rfl|rfl|rfl<;>rfl
theorem Ly(h:c<8):qu[((c:Nat):Int).toNat*1]? =some (aa (cc c:Int)):=by have:=DN h;rwa[WC]at this
structure cN where
  Q:List aw.bS
  bt:Int
  C:Nat->List cg
  Fr:List Nat
  m:Nat->Nat
def addr(c:Nat)(y:Nat×Nat×List cg):Nat:=y.1*1024+64+y.2.1*cc c
def dK{α:Type}(f:Nat->α)(c:Nat)(v:α):Nat->α:=λx=>if x=c then v else f x
theorem jD{α:Type}(f:Nat->α)(c:Nat)(v:α):dK f c v c=v:=ax rfl
theorem jh{α:Type}(f:Nat->α){x:Nat}(v:α)(h:x≠c):dK f c v x=f x:=al h
def hG(C:Nat->List cg)(c:Nat):List Nat:=(C c).map (·.aD)
def dk(C:Nat->List cg)(Fr:List Nat):List Nat:=cls.flatMap (hG C)++Fr
theorem zM{C:Nat->List cg}{c:Nat}{L':List cg}{add:List Nat}(h:(L'.map (·.aD)).Perm (add++hG C c)):∀{l:List Nat},l.Nodup->c∈l->(l.flatMap (hG (dK C c L'))).Perm (add++l.flatMap (hG C))
 | [],_,d=>by cases d
 | x::l,ao,d=>by
  obtain⟨u,w⟩:=Vw.1 ao
  rw[VD,VD]
  by_cases e:x=c
  ·subst e
   have D:l.flatMap (hG (dK C x L'))=l.flatMap (hG C):=by
    have:∀y∈l,hG (dK C x L') y=hG C y:=λy E=>by rw[hG,hG,jh _ _ (λe:y=x=>u (e▸E))]
    rw[List.flatMap_def,List.flatMap_def,Wq this]
   rw[D,hG,jD,<-VJ]
   exact h.append_right _
  have hm:c∈l:=by
   rcases Vq.1 d with d|d
   ·exact absurd d.symm e
   exact d
  rw[show hG (dK C c L') x=hG C x by rw[hG,hG,jh _ _ e]]
  refine(List.Perm.append_left _ (zM h w hm)).trans ?_
  rw[<-VJ,<-VJ]
  exact List.Perm.append_right _ List.perm_append_comm
theorem we:cls.Nodup:=by decide
theorem GP{C:Nat->List cg}{Fr:List Nat}{aD:Nat}{L':List cg}(d:c∈cls)(h:(L'.map (·.aD)).Perm (aD::hG C c)):(dk (dK C c L') Fr).Perm (aD::dk C Fr):=by have:=zM (add:=[aD]) h we d;exact this.append_right Fr
theorem GR{C:Nat->List cg}{Fr:List Nat}{L':List cg}(d:c∈cls)(h:L'.map (·.aD)=hG C c):(dk (dK C c L') Fr).Perm (dk C Fr):=by have:=zM (C:=C) (add:=[]) (L':=L') (by rw[h];exact Xv _) we d;exact this.append_right Fr
theorem xF{C:Nat->List cg}{Fr:List Nat}{p:Nat}:p∈dk C Fr↔(∃c∈cls,∃q∈C c,q.aD=p)\/p∈Fr:=by grind[dk,hG]
structure dd(top:Nat)(S:cN):Prop where
  gd:6<=top/\top<=7
  ok:∀c∈cls,mh (cc c) (S.C c)
  bq:(dk S.C S.Fr).Nodup
  lt:∀p∈dk S.C S.Fr,p<2^top
def gI(j t bd ar:Nat)(v8:Nat->Nat):List Value:=[ae t,ae bd,ae ar]++(List.range 8).map (λc=>if 1<=c/\c<j then .pointer (some ⟨(v8 c),0,none⟩)else .pointer none)
theorem s8(j t bd ar:Nat)(d:Nat->Nat):(gI j t bd ar d).length=11:=by simp[gI]
theorem Bt{t bd ar:Nat}(d:Nat->Nat)(h:c∈cls):(gI 8 t bd ar d)[0+3+((c:Nat):Int).toNat*1]? =some (.pointer (some ⟨(d c),0,none⟩)):=by rcases tU h with rfl|rfl|rfl|rfl|rfl|rfl|rfl<;>rfl
theorem GS{j t bd ar i:Nat}(d:Nat->Nat)(h:i<8):(gI j t bd ar d)[3+i]? =some (if 1<=i/\i<j then .pointer (some ⟨(d i),0,none⟩)else .pointer none):=by grind[gI]
theorem QT{j t bd ar x:Nat}(d:Nat->Nat)(h:j<8)(D:1<=j):dM (0+3+((j:Nat):Int).toNat*1) [ae x] (gI j t bd ar d)=gI (j+1) t bd ar (dK d j x):=by have e:dM (0+3+((j:Nat):Int).toNat*1) [ae x] (gI j t bd ar d)=(gI j t bd ar d).set (3+j) (ae x):=(by rw[List.set_eq_take_append_cons_drop,ax (by rw[s8];omega),Int.toNat_natCast,Nat.mul_one,WC];grind[dM]);rw[e];apply List.ext_getElem?;intro i;rw[List.getElem?_set,s8];by_cases w:i<3;rw[al U,gI,gI,Wh (by simpa using w),Wh (by simpa using w)];obtain⟨i,rfl⟩:∃k,i=3+k:=⟨i-3,by omega⟩;by_cases C:i<8;rw[GS _ C,GS _ C];by_cases u:i=j;subst u;rw[ax rfl,ax U,ax U,jD];rw[al U,jh _ _ u];grind;rw[al U,Xj (by rw[s8];omega),Xj (by rw[s8];omega)]
class cJ where
  f:Nat->Nat
  t:Nat->Nat
class ez where
  aH:Nat
structure dG[cJ](b:Nat) where
  t:Nat
  bd:Nat
  ar:{a:Nat//a=cJ.f b}
  v8:Nat->Nat
  U5:t=cJ.t b:=by first|assumption|rfl
def eT[cJ](b top:Nat)(S:cN):ay:=fg λy:dG b=>pure' (dd top S) (ah [aj b 169 (gI 8 y.t y.bd y.ar y.v8),aw.dt y.t S.Q S.bt,j2 y.bd top (dk S.C S.Fr),fX y.ar S.m (1024*2^top),b8 (λc=>kH (y.v8 c) y.bd (cc c) (S.C c)) cls])
theorem zl(h:c∈cls):∃L,cls.Perm (c::L)/\∀x∈L,x≠c:=by obtain⟨L,d⟩:=fA h;grind[we]
def dm(lim:Int):cN:=⟨[⟨0,-1,lim,0⟩],1,λ_=>[],[],λ_=>0⟩
theorem GQ(C:Nat->List cg)(h:∀c,C c=[]):dk C []=[]:=by
 have:hG C=λ_=>[]:=by grind[hG]
 rw[dk,this];rfl
variable{top:Nat}
theorem dd.zero(lim:Int)(h:6<=top/\top<=7):dd top (dm lim):=
 ⟨h,λc d=>⟨(py d).1.1,⟨Yw,λ_ h=>(by cases h)⟩,λ_ h=>(by cases h)⟩,by rw[dm,GQ _ λ_=>rfl];exact List.nodup_nil,by rw[dm,GQ _ λ_=>rfl];exact λ_ h=>(by cases h)⟩
structure iV(top:Nat)(S:cN)(c:Nat)(y:Nat×Nat×List cg):Prop where
  m0:lD (960/cc c) (S.C c) y.2.2 y.1 y.2.1
  i:y.2.1<960/cc c
  lt:y.1<2^top
  inv:∀Q bt m,dd top ⟨Q,bt,dK S.C c y.2.2,S.Fr,m⟩
  new:(∀q∈S.C c,q.aD≠y.1)->y.1∉dk S.C S.Fr
  len:(dk (dK S.C c y.2.2) S.Fr).length<=(dk S.C S.Fr).length+1
theorem dd.m0{S:cN}(h:dd top S)(w:c∈cls){y:Nat×Nat×List cg×Bool}(D:yK (cc c) top (dk S.C S.Fr) (S.C c) y):iV top S c (y.1,y.2.1,y.2.2.1)/\(dk (dK S.C c y.2.2.1) S.Fr).Perm (if y.2.2.2=true then y.1::dk S.C S.Fr else dk S.C S.Fr):=by
 have N:=h.ok c w;have Z:0<960/cc c:=by have:=DG w;omega
 have ag:2^top<=128:=Vk (n:=2) am h.gd.2;have key:(dk (dK S.C c y.2.2.1) S.Fr).Perm (if y.2.2.2=true then y.1::dk S.C S.Fr else dk S.C S.Fr)/\y.1<2^top/\(y.2.2.2=true->y.1∉dk S.C S.Fr)/\(y.2.2.2≠true->y.1∈hG S.C c):=(by have u:=D.aD;by_cases e:y.2.2.2=true;rw[ax e]at u⊢;exact⟨GP w u.1,u.2.2,λ_=>u.2.1,λh=>absurd e h⟩;rw[al e]at u⊢;refine⟨GR w u.1,?_,λh=>absurd h e,λ_=>u.2⟩;obtain⟨q,H,E⟩:=Vs.1 u.2;exact h.lt _ (xF.2 (.inl ⟨c,w,q,H,E⟩)));obtain⟨bN,P,V,W⟩:=key;refine⟨⟨D.m0,D.i,P,λQ aq m=>?_,λao hm=>?_,by rw[bN.length_eq];split<;>simp⟩,bN⟩;refine⟨h.gd,λd O=>?_,bN.nodup_iff.2 ?_,λp u=>?_⟩;dsimp only;by_cases e:d=c;subst e;rw[jD];exact N.m0 D.m0 U;rw[jh _ _ e];exact h.ok d O;split;rename_i e;exact Vw.2 ⟨V e,h.bq⟩;exact h.bq;have:=bN.mem_iff.1 u;split at this;rcases Vq.1 this with rfl|this;trivial;exact h.lt _ this;exact h.lt _ this;by_cases e:y.2.2.2=true;simp_all;obtain⟨q,H,E⟩:=Vs.1 (W e);simp_all
structure jV(top:Nat)(S:cN)(c aD i:Nat)(L':List cg):Prop where
  nm:mP (960/cc c) (S.C c) L' aD i
  inv:∀Q bt m,dd top ⟨Q,bt,dK S.C c L',S.Fr,m⟩
  len:(dk (dK S.C c L') S.Fr).length<=(dk S.C S.Fr).length
theorem dd.nm{S:cN}(h:dd top S){aD i:Nat}(w:c∈cls){y:List cg×Bool}(D:CL (cc c) (S.C c) aD i y)(hm:aD∈dk S.C S.Fr):jV top S c aD i y.1/\(dk (dK S.C c y.1) S.Fr).Perm (if y.2=true then(dk S.C S.Fr).erase aD else dk S.C S.Fr):=by have E:=h.ok c w;have key:(dk (dK S.C c y.1) S.Fr).Perm (if y.2=true then(dk S.C S.Fr).erase aD else dk S.C S.Fr):=(by have u:=D.aD;by_cases e:y.2=true;rw[ax e]at u⊢;have N:(dK (dK S.C c y.1) c (S.C c))=S.C:=funext λx=>(by grind[jD,jh]);have:=GP (C:=dK S.C c y.1) (Fr:=S.Fr) (L':=S.C c) w (by rw[hG,jD];exact u);grind;rw[al e]at u⊢;exact GR w u);have hlen:(dk (dK S.C c y.1) S.Fr).length<=(dk S.C S.Fr).length:=(by rw[key.length_eq];grind);refine⟨⟨D.nm,λQ O m=>⟨h.gd,λd H=>?_,key.nodup_iff.2 ?_,λp u=>?_⟩,hlen⟩,key⟩;dsimp only;by_cases e:d=c;subst e;rw[jD];exact E.nm D.nm;rw[jh _ _ e];exact h.ok d H;split;exact h.bq.erase _;exact h.bq;have:=key.mem_iff.1 u;split at this;exact h.lt _ (List.mem_of_mem_erase this);exact h.lt _ this
theorem Sl(L:List aw.bS)(x c d:Int):aw.fL (aw.fL L x c) x d=aw.fL L x d:=by grind[aw.fL,Wq]
variable{x:Int}
theorem Sk{L:List aw.bS}(h:aw.im L):aw.fL L x (aw.fC L x)=L:=by
 rw[aw.fL];conv=>rhs;rw[<-List.map_id L]
 apply Wq;intro t d;by_cases e:t.id=x;rw[ax e,<-e,(aw.hB h d).2.2.1];rfl;simp_all
theorem BO{L:List aw.bS}(h:aw.im L)(x c:Int):aw.im (aw.fL L x c):=by rw[aw.im,aw.xT];exact h
theorem zb{L:List aw.bS}(h:aw.im L){y c:Int}(u:aw.cX L y):aw.fC (aw.fL L x c) y=if y=x then c else aw.fC L y:=by obtain⟨t,d,rfl⟩:=u;have w:=(aw.hB h d).2.2.1;by_cases e:t.id=x;have hm:(⟨t.id,t.par,t.lim,c⟩:aw.bS)∈aw.fL L x c:=aw.td.2 ⟨t,d,by rw[ax e]⟩;have:=(aw.hB (BO h x c) hm).2.2.1;simp_all;have hm:t∈aw.fL L x c:=aw.td.2 ⟨t,d,by rw[al e]⟩;have:=(aw.hB (BO h x c) hm).2.2.1;omega
theorem za{L:List aw.bS}{n:Int}(h:(aw.de L x n).2=0):aw.cX L x/\0<=n/\n<=aw.ja L x-aw.kq L x/\(aw.de L x n).1=aw.fL L x (aw.fC L x+n):=by unfold aw.de at h⊢;grind
theorem G8{L:List aw.bS}{n:Int}(d:aw.cX L x)(u:0<=n)(w:n<=aw.fC L x):aw.ek L x n=(aw.fL L x (aw.fC L x-n),0):=by unfold aw.ek;simp_all
theorem s9{L:List aw.bS}{H:Int}(av:aw.eK L H){n:Int}(E:(aw.de L x n).2=0):aw.ek (aw.de L x n).1 x n=(L,0):=by
 obtain⟨d,w,O,C⟩:=za E;have N:0<=aw.fC L x:=(by obtain⟨t,u,rfl⟩:=d;rw[(aw.hB av.bq u).2.2.1];exact(av.rg t u).2.2.2.2.1);have D:aw.fC (aw.fL L x (aw.fC L x+n)) x=aw.fC L x+n:=by rw[zb av.bq d,ax rfl]
 rw[C,G8 (aw.qZ.2 d) w U,D,Sl,Int.add_sub_cancel,Sk av.bq]
theorem DA{Q:List aw.bS}{a n:Int}(h:(aw.de Q a n).2≠0):(aw.de Q a n).1=Q:=by unfold aw.de at h⊢;grind
def pn(c:Nat):Option (Nat×Nat×List cg)->Int
  | some y=>(addr c y:Int)
  | none=>0
def CK(top:Nat)(S:cN)(a:Int)(c:Nat):Option (Nat×Nat×List cg)×Int->Prop
  | (some y,e)=>e=0/\(aw.de S.Q a (cc c:Int)).2=0/\iV top S c y
  | (none,e)=>e≠0/\(e=(aw.de S.Q a (cc c:Int)).2\/e=4/\2^top<=(dk S.C S.Fr).length)
def kf(S:cN)(a:Int)(c:Nat):Option (Nat×Nat×List cg)->cN
  | some y=>⟨(aw.de S.Q a (cc c:Int)).1,S.bt,dK S.C c y.2.2,S.Fr,hf S.m (addr c y) (cc c)⟩
  | none=>S
variable [cJ]
theorem rW(c:Nat)(h:c<8):bn 81 [aa c] da [] (aa (cc c:Int)) []:=by apply aF Tryz.func81 Tryz.ntmps81;intro F w;apply J [8];obtain⟨E,u,C⟩:=w.co;haveI:fN F 0 (.cells qu.toArray E u):=⟨C⟩;refine J [35,179,390,13,306,103] ?_;refine Vf rfl (λd=>absurd d U) (λd=>?_);apply J [4,27];refine q rfl rfl (lo 8 3 1 rfl rfl rfl U U) ?_;refine q rfl rfl (gG rfl rfl (DN h)) ?_;apply J [26];exact j7
variable(b:Nat)
theorem l9(t bd ar:Nat)(d:Nat->Nat):bn 40 [ae b] ba [aj b 169 (gI 8 t bd ar d)] (ae ar) [aj b 169 (gI 8 t bd ar d)]:=by apply aF Tryz.func40 Tryz.ntmps40;intro F _;apply J [1,124,41,100,104];exact hC
theorem QW(t bd ar:Nat)(d:Nat->Nat):bn 44 [ae b] ba [aj b 169 (gI 8 t bd ar d)] (ae t) [aj b 169 (gI 8 t bd ar d)]:=by apply aF Tryz.func44 Tryz.ntmps44;intro F _;apply J [1,124,41,50,104];exact hC
variable(top:Nat)
theorem uU(S:cN)(a:Int)(c:Nat)(d:c∈cls):bH 128 [ae b,aa a,aa c] da [eT b top S] (λy:Option (Nat×Nat×List cg)×Int=>.tuple #[aa (pn c y.1),aa y.2]) (λy=>CK top S a c y) (λy=>[eT b top (kf S a c y.1)]):=by
 apply aF Tryz.func128 Tryz.ntmps128;intro F ag;apply J [1];haveI:cv F:=⟨ag⟩;obtain⟨bi,bh⟩:=py d;have bj:((cc c:Nat):Int)≠0:=U
 have ba:=oI d;refine ab.open 0 rfl (λO H=>?_);obtain⟨t,bd,w,u⟩:=O;have D:=H;apply J [157];dsimp only at D⊢;refine ab.open 1 rfl (λO H=>?_);obtain⟨a4,a5⟩:=O;have av:=H;apply J [144];refine WD (B:=ah [aj b 169 (gI 8 t bd w u),aw.dt t S.Q S.bt,j2 bd top (dk S.C S.Fr),fX w S.m (1024*2^top),b8 (λc=>kH (u c) bd (cc c) (S.C c)) cls,F]) (c0 (az (⟨a4,a5⟩:aw.oE) av ai)) ?_;apply J [24,218,229,239];apply aq (rW c (oI d));apply J [15,160,103];refine Vf rfl (λP=>absurd P U) (λP=>?_);apply J [44,7];refine cC [0,1,2,3,4,5,-6,-7,8] (an (aX _)) ?_;apply J [49,16,264];apply aq (rW c (oI d));refine J [260,47] ?_;apply aq (aw.G2 t S.Q S.bt a (cc c:Int));refine J [260,97,39] ?_;apply Vf rfl<;>intro E;apply J [189];have aL:=DA E;exact cT (none,(aw.de S.Q a (cc c:Int)).2) ⟨E,.inl rfl⟩ (az (dG.mk t bd w u:dG b) D (by rw[aL];exact ai));have E:=Vh E;apply J [4,34,80,385];refine q rfl rfl (lo 8 165 1 rfl rfl rfl U U) ?_;refine q rfl rfl (gG rfl rfl (Bt u d)) ?_;obtain⟨a9,gi,au⟩:=zl d;have a0:=D.gd;have bc:2^top<=128:=Vk (n:=2) am a0.2;apply J [522,0];apply a7 (SJ (u c) bd top (cc c) (S.C c) (dk S.C S.Fr) U (λa3 Z=>xF.2 (.inl ⟨c,d,a3,Z,rfl⟩)));intro a8 N;apply J [18];cases a8 with|none=>?_|some y=>?_
 have ao:2^top<=(dk S.C S.Fr).length:=N;dsimp only[Bs,qx,tQ,tO];have aP:=s9 av E;apply J [129,39,12,7];refine cC [0,1,2,3,4,5,-6,-7] (eQ (aX _)) ?_;apply J [49,16,264];apply aq (rW c (oI d));refine J [261,47] ?_;apply aq (aw.xJ t (aw.de S.Q a (cc c:Int)).1 S.bt a (cc c:Int));refine J [261,10] ?_;rw[aP];apply J [73,189];exact cT (none,4) ⟨by decide,.inr ⟨rfl,ao⟩⟩ (az (dG.mk t bd w u:dG b) D (eQ (an (bU (bv (cY 0 0 c rfl rfl rfl (λ_ _=>rfl) gi.symm ai))))));have V:yK (cc c) top (dk S.C S.Fr) (S.C c) y:=N;dsimp only[Bs,qx,tQ,tO];obtain⟨cG,ec⟩:=D.m0 d V;obtain⟨aD,i,W,aW⟩:=y;dsimp only at cG ec⊢;have ay:=(D.ok c d).place cG.i;have ar:=cG.lt;dsimp only at ay ar;clear V N;apply J [129,217,121];refine cC [0,1,2,3,4,5,-6,-7] (eQ (aX _)) ?_;apply J [185,16,264];apply aq (rW c (oI d));refine J [261,47] ?_;apply aq (Dg w (1024*2^top) (aD*1024+64+i*cc c) (cc c) S.m U U U);refine J [261,110,27,99] ?_;exact cT (some (aD,i,W),0) ⟨rfl,E,cG⟩ (az (dG.mk t bd w u:dG b) (cG.inv _ _ _) (eE (eQ (eI 2 rfl (vW _ _ ec.symm) (an (cY 0 0 c rfl rfl (by dsimp only[kf];rw[jD]) (λx a2=>by dsimp only[kf];rw[jh _ _ (au x a2)]) gi.symm ai))))))
theorem Bu(S:cN)(c:Nat)(d:c∈cls)(k aD i:Nat)(f:Nat->Bool)(N:(S.C c)[k]? =some ⟨aD,f⟩)(H:f i=true):bn 34 [ae b,aa c,aa ((aD*1024+64+i*cc c:Nat):Int)] da [eT b top S] (.bool true) [eT b top S]:=by apply aF Tryz.func34 Tryz.ntmps34;intro F E;apply J [1];haveI:cv F:=⟨E⟩;obtain⟨ao,ag⟩:=py d;have W:=oI d;refine ab.open 0 rfl (λP O=>?_);obtain⟨t,bd,D,u⟩:=P;have w:=O;apply J [157];dsimp only at w⊢;apply J [127,315,19,239];apply aq (rW c (oI d));apply J [15,159,51];refine VL 14 rfl (c:=true) (c7 U) ?_;apply J [289,13,504,295];refine db rfl rfl rfl (lo 8 165 1 rfl rfl rfl U U) ?_;refine db rfl rfl rfl (gG rfl rfl (Bt u d)) ?_;apply J [13];obtain⟨V,gi,Z⟩:=zl d;apply J [522,94];apply aq (SF (u c) bd (cc c) (S.C c) k aD i f N H);apply J [18,131];exact e9 (az (dG.mk t bd D u:dG b) w (bv (bv (bv (bv (cY 0 0 c rfl rfl rfl (λ_ _=>rfl) gi.symm ai))))))
theorem uV(S:cN)(c:Nat)(d:c∈cls)(k aD i:Nat)(f:Nat->Bool)(w:(S.C c)[k]? =some ⟨aD,f⟩)(N:f i=true)(a:Int)(aL:(aw.ek S.Q a (cc c:Int)).2=0):bH 189 [ae b,aa a,aa c,aa ((aD*1024+64+i*cc c:Nat):Int)] da [eT b top S] (λ_:List cg=>aa 0) (λL'=>jV top S c aD i L') (λL'=>[eT b top ⟨(aw.ek S.Q a (cc c:Int)).1,S.bt,dK S.C c L',S.Fr,S.m⟩]):=by apply aF Tryz.func189 Tryz.ntmps189;intro F V;apply J [1];haveI:cv F:=⟨V⟩;obtain⟨aW,aP⟩:=py d;have ay:=oI d;have O:aD∈dk S.C S.Fr:=xF.2 (.inl ⟨c,d,_,Vg w,rfl⟩);apply J [35,72,229,239];apply aq (rW c (oI d));apply J [5,160,207];refine Vf rfl (λE=>absurd E U) (λE=>?_);apply J [34,29];apply aq (Bu b top S c d k aD i f w N);apply J [5,266];refine ab.open 0 rfl (λar ag=>?_);obtain⟨t,bd,P,u⟩:=ar;have D:=ag;apply J [157];dsimp only at D⊢;apply J [206,7];refine cC [0,1,2,3,4,5,-6,-7,8] (an (aX _)) ?_;apply J [49,16,264];apply aq (rW c (oI d));refine J [260,47] ?_;apply aq (aw.xJ t S.Q S.bt a (cc c:Int));refine J [260,97,39] ?_;refine Vf rfl (λH=>absurd H U) (λH=>?_);apply J [4,34,80,385];refine q rfl rfl (lo 8 165 1 rfl rfl rfl U U) ?_;refine q rfl rfl (gG rfl rfl (Bt u d)) ?_;apply J [3];obtain⟨au,gi,W⟩:=zl d;apply J [522,0];apply a7 (SE (u c) bd (cc c) (S.C c) k aD i f w N top (dk S.C S.Fr) O);intro y ao;apply J [18];obtain⟨cG,ec⟩:=D.nm d ao O;apply J [26];exact br y.1 cG (az (dG.mk t bd P u:dG b) (cG.inv _ _ _) (eQ (c0 (eI 1 rfl (vW _ _ ec.symm) (bv (cY 0 0 c rfl rfl (by dsimp only;rw[jD]) (λx Z=>by dsimp only;rw[jh _ _ (W x Z)]) gi.symm ai))))))
end Go.Proofs.Q
namespace Go.Proofs.Q
open Go Go.QM
theorem QU(t bd ar:Nat)(d:Nat->Nat):dM (0+3+((0:Nat):Int).toNat*1) [Yi none] (gI 0 t bd ar d)=gI 1 t bd ar d:=rfl
theorem RK(j:Nat)(h:1<=j):Ys 1 (j+1-1)=Ys 1 (j-1)++[j]:=by obtain⟨k,rfl⟩:∃k,j=k+1:=⟨j-1,by omega⟩;rw[Nat.add_sub_cancel,Nat.add_sub_cancel];rw[List.range'_concat,Nat.one_mul,Nat.add_comm 1 k]
theorem GV(n top:Nat)(lim:Int)(h:n=65536/\top=6\/n=131072/\top=7)(a2:0<=lim/\lim<=n):bH 125 [aa n,aa lim] da [] (λy:Nat×cJ=>ae y.1) (λ_=>True) (λy=>[@eT y.2 y.1 top (dm lim)]):=by
 apply aF Tryz.func125 Tryz.ntmps125;intro F C;apply J [8];haveI:cv F:=⟨C⟩;have aL:n=1024*2^top:=cm
 have ao:n=65536\/n=131072:=U
 have aW:6<=top/\top<=7:=U
 have a4:n<=131072:=U
 obtain⟨E,P,W⟩:=C.co;haveI:fN F 0 (.cells qu.toArray E P):=⟨W⟩;apply J [168,138];apply a7 (aw.G5 lim U);intro t _;apply J [5,29];apply a7 (y1 n top h);intro bd _;apply J [6,29];apply a7 (yQ n ao);intro d _;apply J [14];refine q rfl rfl (eh (cs:=gI 0 t bd d (λ_=>0)) rfl) ?_;refine e rfl ?_;refine eS (v:=.agg (Vz (gI 0 t bd d (λ_=>0)))) (l:=gI 0 t bd d (λ_=>0)) rfl rfl ?_;intro b;apply J [56,100,156,19,136,192,410,40,13,141,103];refine Vf rfl (λD=>absurd D U) (λD=>?_);apply J [44,24];refine q rfl rfl (fQ (vs:=qu) 8 rfl rfl rfl rfl) ?_;apply J [112];refine VP (ι:=Nat×(Nat->Nat)) (λx=>x.1<=8) (λx=>[(5,ae b),(33,.agg (Vz qu)),(34,aa ((x.1:Nat):Int))]) (λx=>ah [aj b 169 (gI x.1 t bd d x.2),b8 (λc=>kH (x.2 c) bd (cc c) []) (Ys 1 (x.1-1)),aw.dt t [⟨0,-1,lim,0⟩] 1,j2 bd top [],fX d (λ_=>0) n,F]) (λx=>8-x.1) (0,λ_=>0) am bI ((nb (f:=λc=>kH 0 bd (cc c) []) _).trans (bU (an (bv (bU (an (an (aX _)))))))) ?_;rintro⟨j,u⟩ ay a5;dsimp only[cy]at ay⊢;apply J [42];apply Vf rfl<;>intro a3;have H:j<8:=U
 have ag:=Ly H;apply J [60,27];refine q rfl rfl (N2 8 3 1 rfl rfl rfl rfl U U ag) ?_;apply J [173];by_cases V:j=0;subst V;have N:=QU t bd d u;have au:=s8 0 t bd d u;refine J [587,78,16,133,16,88,432,17] ?_;apply aq (SH bd);refine J [260,10,588,90] ?_;refine st (v:=.pointer _) (vs:=[_]) 1 rfl rfl rfl rfl rfl rfl (Vp rfl) rfl ?_;refine J [293,324] ?_;exact⟨rfl,(1,u),cK,cK,bI,ai⟩;have w:1<=j:=U
 have Z:j∈cls:=by grind[wd]
 refine J [587,78,16,133,16,88,432,17] ?_;apply a7 (SI bd (cc j) (py Z).1);intro O _;refine J [261,10] ?_;have N:=QT (t:=t) (bd:=bd) (ar:=d) (x:=O) u H w;have au:=s8 j t bd d u;refine J [588,90] ?_;refine st (v:=.pointer _) (vs:=[_]) 1 rfl rfl rfl rfl rfl rfl U N ?_;refine J [293,324] ?_;exact⟨rfl,(j+1,dK u j O),cK,cK,bI,(an (cY 0 0 j rfl rfl (by dsimp only;rw[jD]) (λx a0=>by dsimp only;rw[jh _ _ (by have:=List.mem_range'_1.1 a0;omega)]) (by dsimp only;rw[RK j w];exact(We _ _).symm) ai))⟩;obtain rfl:j=8:=U
 have aP:dk (λ_=>([]:List cg)) []=[]:=by trivial
 letI:cJ:=⟨λ_=>d,λ_=>t⟩;apply J [75,36,104];exact br (b,(⟨λ_=>d,λ_=>t⟩:cJ)) trivial (az (dG.mk t bd ⟨d,rfl⟩ u:dG b) (dd.zero lim aW) (by dsimp only[dm];rw[aP,<-aL];exact ai))
variable [cJ]
theorem vl(s:Nat)(h:s<256):bn 77 [aa s] ba [] (.bool true) []:=by apply aF Tryz.func77 Tryz.ntmps77;intro F _;refine J [8,222,270,474,203,131] ?_;exact YE () [_] ⟨rfl,trivial⟩ (congrArg Value.bool (c7 U)) trivial (an (aX _))
theorem tg(l s:Nat)(h:s<256)(d:l<=1073741824):bn 79 [aa l,aa s] ba [] (aa ((l+s %16*16:Nat):Int)) []:=by apply aF Tryz.func79 Tryz.ntmps79;intro F _;apply J [8,106,195];refine q rfl rfl (Wn (v:=((s %16:Nat):Int)) (pY rfl rfl U U) U) ?_;refine q rfl rfl (Wn (v:=((s %16*16:Nat):Int)) (oc rfl rfl U U) U) ?_;refine q rfl rfl (Wn (v:=((l+s %16*16:Nat):Int)) (io rfl rfl U U) U) ?_;apply J [26];exact j7
theorem Ce(aR af:Nat)(d:Int)(t s:Nat)(h:s<256)(u:t<=1073741824):bn 121 [ae aR,aa s] ba [aj aR 163 [ae af,aa d,aa t]] (aa ((t+s/16*8:Nat):Int)) [aj aR 163 [ae af,aa d,aa t]]:=by apply aF Tryz.func121 Tryz.ntmps121;intro F _;apply J [1,106,100,3];refine q rfl rfl (Wn (v:=((s/16:Nat):Int)) (kn rfl rfl U U U) U) ?_;refine q rfl rfl (Wn (v:=((s/16*8:Nat):Int)) (oc rfl rfl U U) U) ?_;refine q rfl rfl (Wn (v:=((t+s/16*8:Nat):Int)) (io rfl rfl U U) U) ?_;apply J [26];exact hC
theorem x8(aR af top:Nat)(C:Int)(t:Nat)(S:cN)(o:Nat)(h:o+8<=1024*2^top)(D:o %8=0):bn 80 [ae aR,aa o] ba [aj aR 163 [ae af,aa C,aa t],eT af top S] (bk (cW S.m o:Int)) [aj aR 163 [ae af,aa C,aa t],eT af top S]:=by apply aF Tryz.func80 Tryz.ntmps80;intro F _;apply J [11];refine ab.open 1 rfl (λN H=>?_);obtain⟨cO,bd,d,w⟩:=N;have u:=H;apply J [245];dsimp only at u⊢;have E:=u.gd;have O:2^top<=128:=Vk (n:=2) am E.2;apply J [106,233];apply aq (l9 af cO bd d w);apply J [18,29];apply aq (tL d (1024*2^top) o S.m U h D);apply J [18,278,173,325];exact e9 (eE (az (dG.mk cO bd d w:dG af) u ai))
theorem tf(aR af top:Nat)(d:Int)(t:Nat)(S:cN)(s:Nat)(hs:s<256)(u:t+128<=1024*2^top/\t %8=0/\top<=7)(w:cW S.m (t+s/16*8)<1073741824):bn 78 [ae aR,aa s] ba [aj aR 163 [ae af,aa d,aa t],eT af top S] (aa (cW S.m (t+s/16*8):Int)) [aj aR 163 [ae af,aa d,aa t],eT af top S]:=by apply aF Tryz.func78 Tryz.ntmps78;intro F _;apply J [11];have C:2^top<=128:=Vk (n:=2) am u.2.2;apply J [106,36,158,29];apply aq (Ce aR af d t s hs U);apply J [6,0];apply aq (x8 aR af top d t S (t+s/16*8) U U);refine J [6,308,26] ?_;exact dh
end Go.Proofs.Q
namespace Go.Proofs.Q
open Go Go.QM
theorem DP{C:Nat->List cg}:∀{l:List Nat},(l.flatMap (hG C)).Nodup->l.Nodup->∀{c d p:Nat},c∈l->d∈l->p∈hG C c->p∈hG C d->c=d
 | [],_,_,_,_,_,h,_,_,_=>by cases h
 | x::l,ao,W,c,d,p,P,V,u,w=>by rw[VD]at ao;obtain⟨aq,Z,O⟩:=VI.1 ao;obtain⟨ag,lp⟩:=Vw.1 W;rcases Vq.1 P with D|H<;>rcases Vq.1 V with E|N;rw[D,E];subst D;exact absurd rfl (O p u p (Wc.2 ⟨d,N,w⟩));subst E;exact absurd rfl (O p w p (Wc.2 ⟨c,H,u⟩));exact DP Z lp H N u w
variable{top:Nat}{S:cN}{c d:Nat}
theorem dd.L1(h:dd top S)(u:c∈cls)(w:d∈cls){p q:cg}(D:p∈S.C c)(E:q∈S.C d)(e:p.aD=q.aD):c=d:=
 DP (VI.1 h.bq).1 we u w (Vs.2 ⟨p,D,rfl⟩) (Vs.2 ⟨q,E,e.symm⟩)
theorem DD{many:Nat}{L:List cg}(h:oA many L){p q:cg}(N:p∈L)(O:q∈L)(e:p.aD=q.aD):p=q:=by obtain⟨i,E⟩:=Wa N;obtain⟨j,H⟩:=Wa O;obtain⟨u,w⟩:=Vm.1 E;obtain⟨C,D⟩:=Vm.1 H;have key:i=j:=(by rcases Nat.lt_trichotomy i j with d|d|d;have:=(WB.1 h.j4) i j u C d;rw[w,D]at this;omega;trivial;have:=(WB.1 h.j4) j i C u d;rw[w,D]at this;omega);simp_all
variable{a:Nat}
theorem e8.bd(u:dd top S)(d:c∈cls)(h:e8 (cc c) (S.C c) a):a %16=0/\64<=a/\a+cc c<=1024*2^top:=by
 obtain⟨p,D,i,E,rfl⟩:=h;have w:=u.ok c d;have H:=w.place (w.inv.bd p D i E);have N:=u.lt p.aD (xF.2 (.inl ⟨c,d,p,D,rfl⟩));obtain⟨O,P⟩:=py d;obtain⟨q,W⟩:∃q,cc c=16*q:=⟨cc c/16,by omega⟩;have V:i*cc c=16*(i*q):=cm
 omega
variable{b:Nat}
theorem e8.apart(u:dd top S)(D:c∈cls)(E:d∈cls)(h:e8 (cc c) (S.C c) a)(k:e8 (cc d) (S.C d) b)(ao:c≠d\/a≠b):a+cc c<=b\/b+cc d<=a:=by obtain⟨p,H,i,V,rfl⟩:=h;obtain⟨q,N,j,W,rfl⟩:=k;have Z:=(u.ok c D).place ((u.ok c D).inv.bd p H i V);have ag:=(u.ok d E).place ((u.ok d E).inv.bd q N j W);by_cases e:p.aD=q.aD;have O:=u.L1 D E H N e;subst O;have P:=DD (u.ok c D).inv H N e;subst P;rcases Nat.lt_trichotomy i j with w|w|w;have:=VR (cc c) (show i+1<=j from w);rw[V8]at this;omega;simp_all;have:=VR (cc c) (show j+1<=i from w);rw[V8]at this;omega;omega
theorem e8.frame(u:dd top S){p:Nat}(d:c∈cls)(h:e8 (cc c) (S.C c) a)(E:p∉cls.flatMap (hG S.C)):a+cc c<=p*1024\/p*1024+1024<=a:=by obtain⟨q,w,i,D,rfl⟩:=h;have H:=(u.ok c d).place ((u.ok c d).inv.bd q w i D);have:q.aD≠p:=λe=>E (Wc.2 ⟨c,d,Vs.2 ⟨q,w,e⟩⟩);omega
theorem NA{many aD i sz:Nat}{L L':List cg}(g:lD many L L' aD i)(h:oA many L)(hs:0<sz)(hm:many*sz<=960)(V:i<many):¬e8 sz L (aD*1024+64+i*sz):=by
 rintro⟨q,d,j,u,e⟩;have bb:i*sz+sz<=960:=by have:=VR sz (show i+1<=many from V);rw[V8]at this;omega
 have bD:j*sz+sz<=960:=by have:=VR sz (show j+1<=many from h.bd q d j u);rw[V8]at this;omega
 have D:q.aD=aD:=U
 have E:i=j:=by grind[Nat.eq_of_mul_eq_mul_right]
 cases g with|old A B f w H C N=>(have W:(⟨aD,f⟩:cg)∈L:=by rw[w];simp);have:=DD h d W D;subst this;subst E;dsimp only at u;rw[C]at u;cases u|new A B w H C N O P=>rw[w]at d;rcases Ve.1 d with d|d;have:=O q d;omega;have:=P q d;omega
theorem iV.fresh{y:Nat×Nat×List cg}(u:dd top S)(d:c∈cls)(g:iV top S c y):¬e8 (cc c) (S.C c) (addr c y):=
 NA g.m0 (u.ok c d).inv (by have:=py d;omega) (u.ok c d).many.2.2 g.i
theorem iV.jQ{y:Nat×Nat×List cg}(u:c∈cls)(g:iV top S c y):e8 (cc d) (dK S.C c y.2.2 d) a↔e8 (cc d) (S.C d) a\/(d=c/\a=addr c y):=by by_cases e:d=c;subst e;rw[jD,g.m0.jQ (by have:=py u;omega)];constructor;rintro(h|h);simp_all;exact .inr ⟨rfl,h⟩;rintro(h|⟨_,h⟩);simp_all;exact .inr h;grind[jh]
theorem iV.apart{y:Nat×Nat×List cg}(D:dd top S)(u:c∈cls)(g:iV top S c y)(E:d∈cls)(h:e8 (cc d) (S.C d) a):a+cc d<=addr c y\/addr c y+cc c<=a:=
 e8.apart (g.inv S.Q S.bt S.m) E u ((g.jQ u).2 (.inl h)) ((g.jQ u).2 (.inr ⟨rfl,rfl⟩)) (by by_cases e:d=c;subst e;exact .inr λw=>g.fresh D u (w▸h);exact .inl e)
theorem jV.jQ{aD i:Nat}{L':List cg}(w:dd top S)(u:c∈cls)(g:jV top S c aD i L')(h:e8 (cc d) (S.C d) a)(D:d≠c\/a≠aD*1024+64+i*cc c):e8 (cc d) (dK S.C c L' d) a:=by by_cases e:d=c;subst e;rw[jD];exact g.nm.jQ (w.ok d u).inv (by have:=py u;omega) h (D.resolve_left λh=>h rfl);grind[jh]
def bo(m:Nat->Nat)(t j:Nat):Nat:=cW m (t+j*8)
def eb(m:Nat->Nat)(t s:Nat):Nat:=if bo m t (s/16)=0 then 0 else cW m (bo m t (s/16)+s %16*16)
def dU(m:Nat->Nat)(t s:Nat):Nat:=if bo m t (s/16)=0 then 0 else cW m (bo m t (s/16)+s %16*16+8)
structure gh(top:Nat)(S:cN)(t:Nat):Prop where
  tk:e8 128 (S.C 2) t
  fE:∀j,j<16->bo S.m t j≠0->e8 256 (S.C 7) (bo S.m t j)
  bq:∀j k,j<16->k<16->j≠k->bo S.m t j≠0->bo S.m t j≠bo S.m t k
  ne:∀j,j<16->bo S.m t j≠0->∃i,i<16/\cW S.m (bo S.m t j+i*16)≠0
  J:∀j,j<16->bo S.m t j≠0->∀i,i<16->cW S.m (bo S.m t j+i*16)=0->cW S.m (bo S.m t j+i*16+8)=0
def J2(m:Nat->Nat)(t o:Nat):Prop:=(t<=o/\o+8<=t+128)\/∃j,j<16/\bo m t j≠0/\bo m t j<=o/\o+8<=bo m t j+256
variable{t:Nat}
theorem gh.b0(h:gh top S t){s:Nat}(hs:s<256)(e:eb S.m t s=0):dU S.m t s=0:=by rw[eb]at e;rw[dU];by_cases d:bo S.m t (s/16)=0;rw[ax d];rw[al d]at e⊢;exact h.J _ U d _ U e
theorem c2:(2:Nat)∈cls:=by decide
theorem fI:(7:Nat)∈cls:=by decide
theorem gh.bd(d:dd top S)(h:gh top S t):t %16=0/\64<=t/\t+128<=1024*2^top:=e8.bd d c2 h.tk
theorem gh.rO(u:dd top S)(h:gh top S t){j:Nat}(w:j<16)(d:bo S.m t j≠0):bo S.m t j %16=0/\64<=bo S.m t j/\bo S.m t j+256<=1024*2^top:=e8.bd u fI (h.fE j w d)
theorem gh.nu{a8:cN}(h:gh top S t)(V:e8 128 (a8.C 2) t)(Z:∀j,j<16->bo S.m t j≠0->e8 256 (a8.C 7) (bo S.m t j))(hm:∀o,J2 S.m t o->cW a8.m o=cW S.m o):
 gh top a8 t/\(∀j,j<16->bo a8.m t j=bo S.m t j)/\∀s,s<256->eb a8.m t s=eb S.m t s/\dU a8.m t s=dU S.m t s:=by
 have w:∀j,j<16->bo a8.m t j=bo S.m t j:=λj u=>hm _ (.inl ⟨by omega,by omega⟩);refine⟨⟨V,λj u d=>?_,λj k u N W d=>?_,λj u d=>?_,λj u d i E D=>?_⟩,w,λs ag=>?_⟩;simp_all;rw[w j u]at d⊢;rw[w k N];exact h.bq j k u N W d;rw[w j u]at d⊢;obtain⟨i,E,D⟩:=h.ne j u d;exact⟨i,E,by rw[hm _ (.inr ⟨j,u,d,by omega,by omega⟩)];exact D⟩;rw[w j u]at d D⊢;have O:=hm (bo S.m t j+i*16) (.inr ⟨j,u,d,by omega,by omega⟩);have P:=hm (bo S.m t j+i*16+8) (.inr ⟨j,u,d,by omega,by omega⟩);rw[O]at D;rw[P];exact h.J j u d i E D;have H:s/16<16:=U
 rw[eb,eb,dU,dU,w _ H];by_cases d:bo S.m t (s/16)=0;simp_all;rw[al d,al d,al d,al d];exact⟨hm _ (.inr ⟨_,H,d,by omega,by omega⟩),hm _ (.inr ⟨_,H,d,by omega,by omega⟩)⟩
variable{o:Nat}
theorem mK{m:Nat->Nat}{d:Nat}(h:d+8<=o\/o+16<=d):cW (dA m o [a,b]) d=cW m d:=HT (L:=[a,b]) h
theorem tn{m:Nat->Nat}(h:a<2^64):cW (dA m o [a,b]) o=a:=BY (L:=[a,b]) (j:=0) rfl h
theorem Cm{m:Nat->Nat}(h:b<2^64):cW (dA m o [a,b]) (o+8)=b:=BY (L:=[a,b]) (j:=1) rfl h
theorem q7{m:Nat->Nat}{d:Nat}(h:d+8<=o\/o+8<=d):cW (dA m o [a]) d=cW m d:=HT (L:=[a]) h
theorem Cl{m:Nat->Nat}(h:a<2^64):cW (dA m o [a]) o=a:=BY (L:=[a]) (j:=0) rfl h
theorem gh.tc(P:dd top S)(h:gh top S t){s:Nat}(hs:s<256)(O:bo S.m t (s/16)≠0)(V:a<2^64)(ao:b<2^64)(aw:a=0->b=0)
 (Z:a≠0\/∃i,i<16/\i≠s %16/\cW S.m (bo S.m t (s/16)+i*16)≠0) {a8:cN} (ag:a8.C=S.C) (hm:a8.m=dA S.m (bo S.m t (s/16)+s %16*16) [a,b]):
 gh top a8 t/\(∀j,j<16->bo a8.m t j=bo S.m t j)/\eb a8.m t s=a/\dU a8.m t s=b/\∀r,r<256->r≠s->eb a8.m t r=eb S.m t r/\dU a8.m t r=dU S.m t r:=by
 have H:s/16<16:=U
 have ay:=h.bd P;have w:∀j,j<16->bo a8.m t j=bo S.m t j:=λj d=>(by have:=e8.apart P c2 fI h.tk (h.fE _ H O) (.inl am);have e:cc 2=128:=rfl;have au:cc 7=256:=rfl;grind[bo,mK]);have hw:∀j i,j<16->i<16->bo S.m t j≠0->(j≠s/16\/i≠s %16)->cW a8.m (bo S.m t j+i*16)=cW S.m (bo S.m t j+i*16)/\cW a8.m (bo S.m t j+i*16+8)=cW S.m (bo S.m t j+i*16+8):=λj i d E u W=>(by rw[hm];by_cases e:j=s/16;grind[mK];have:=e8.apart P fI fI (h.fE j d u) (h.fE _ H O) (.inr (h.bq j _ d H e u));have au:cc 7=256:=rfl;grind[mK]);refine⟨⟨by rw[ag];exact h.tk,λj d u=>?_,λj k d aq W u=>?_,λj d u=>?_,λj d u i E D=>?_⟩,w,?_,?_,λr aA aF=>?_⟩;rw[w j d]at u⊢;rw[ag];exact h.fE j d u;rw[w j d]at u⊢;rw[w k aq];exact h.bq j k d aq W u;rw[w j d]at u⊢;by_cases e:j=s/16;subst e;rcases Z with Z|⟨i,E,W,bJ⟩;exact⟨s %16,by omega,by rw[hm,tn V];exact Z⟩;grind;obtain⟨i,E,bJ⟩:=h.ne j d u;grind;rw[w j d]at u D⊢;by_cases e:j=s/16/\i=s %16;obtain⟨rfl,rfl⟩:=e;rw[hm,tn V]at D;rw[hm,Cm ao];exact aw D;have:=hw j i d E u U;rw[this.1]at D;rw[this.2];exact h.J j d u i E D;rw[eb,w _ H,al O,hm,tn V];rw[dU,w _ H,al O,hm,Cm ao];have ar:r/16<16:=U
 rw[eb,eb,dU,dU,w _ ar];by_cases N:bo S.m t (r/16)=0;simp_all;rw[al N,al N,al N,al N];exact hw _ _ ar U N U
theorem gh.Sj(P:dd top S)(h:gh top S t){s:Nat}(hs:s<256)(aw:bo S.m t (s/16)=0)(aW:a<2^64)(a2:b<2^64)(aA:a≠0){y:Nat×Nat×List cg}(g:iV top S 7 y)
 {a8:cN} (ay:a8.C=dK S.C 7 y.2.2) (hm:a8.m=dA (dA (hf S.m (addr 7 y) 256) (t+s/16*8) [addr 7 y]) (addr 7 y+s %16*16) [a,b]):
 gh top a8 t/\bo a8.m t (s/16)=addr 7 y/\(∀j,j<16->j≠s/16->bo a8.m t j=bo S.m t j)/\eb a8.m t s=a/\dU a8.m t s=b/\(∀r,r<256->r≠s->eb a8.m t r=eb S.m t r/\dU a8.m t r=dU S.m t r)/\
  ∀i,i<16->i≠s %16->cW a8.m (addr 7 y+i*16)=0:=by
 have a7:s/16<16:=U
 have a5:=h.bd P;have V:cc 2=128:=rfl;have au:cc 7=256:=rfl;have a0:=g.apart P fI c2 h.tk;have aF:e8 256 (dK S.C 7 y.2.2 7) (addr 7 y):=(g.jQ fI).2 (.inr ⟨rfl,rfl⟩);have a3:=e8.bd (g.inv S.Q S.bt S.m) fI aF;have ba:2^top<=128:=Vk (n:=2) am P.gd.2;generalize aP:addr 7 y=A at*;rw[V,au]at a0;rw[au]at a3;have H:∀j,j<16->j≠s/16->bo a8.m t j=bo S.m t j:=λj d N=>(by rw[bo,hm,mK U,q7 U,AE U];rfl);have E:bo a8.m t (s/16)=A:=by rw[bo,hm,mK U,Cl U]
 have aq:∀j,j<16->bo S.m t j≠0->bo S.m t j+256<=A\/A+256<=bo S.m t j:=λj d u=>(by have:=g.apart P fI fI (h.fE j d u);rw[aP]at this;exact this);have a4:∀j,j<16->bo S.m t j≠0->t+128<=bo S.m t j\/bo S.m t j+256<=t:=λj d u=>e8.apart P c2 fI h.tk (h.fE j d u) (.inl am);have hw:∀j i,j<16->i<16->bo S.m t j≠0->cW a8.m (bo S.m t j+i*16)=cW S.m (bo S.m t j+i*16)/\cW a8.m (bo S.m t j+i*16+8)=cW S.m (bo S.m t j+i*16+8):=λj i d w u=>(by have g1:=aq j d u;have g2:=a4 j d u;rw[hm];exact⟨by rw[mK U,q7 U,AE U],by rw[mK U,q7 U,AE U]⟩);have ar:∀i,i<16->i≠s %16->cW a8.m (A+i*16)=0/\cW a8.m (A+i*16+8)=0:=λi w N=>(by rw[hm];exact⟨by rw[mK U,q7 U,w9 U U],by rw[mK U,q7 U,w9 U U]⟩);have Z:cW a8.m (A+s %16*16)=a/\cW a8.m (A+s %16*16+8)=b:=by rw[hm];exact⟨tn aW,Cm a2⟩
 have W:A≠0:=U
 refine⟨⟨by rw[ay];exact(g.jQ fI).2 (.inl h.tk),λj d u=>?_,λj k d ag N u=>?_,λj d u=>?_,λj d u i w O=>?_⟩,E,H,?_,?_,λr a9 N=>?_,λi w N=>(ar i w N).1⟩;rw[ay];by_cases e:j=s/16;subst e;rw[E];exact aF;rw[H j d e]at u⊢;exact(g.jQ fI).2 (.inl (h.fE j d u));by_cases e:j=s/16;subst e;rw[E,H k ag (λe=>N e.symm)];intro ao;have:=aq k ag U;omega;rw[H j d e]at u⊢;by_cases ao:k=s/16;subst ao;rw[E];have:=aq j d u;omega;rw[H k ag ao];exact h.bq j k d ag N u;by_cases e:j=s/16;subst e;rw[E];exact⟨s %16,by omega,by rw[Z.1];exact aA⟩;rw[H j d e]at u⊢;obtain⟨i,w,bJ⟩:=h.ne j d u;exact⟨i,w,by rw[(hw j i d w u).1];exact bJ⟩;by_cases e:j=s/16;subst e;rw[E]at O⊢;by_cases V:i=s %16;subst V;rw[Z.1]at O;exact absurd O aA;exact(ar i w V).2;rw[H j d e]at u O⊢;rw[(hw j i d w u).1]at O;rw[(hw j i d w u).2];exact h.J j d u i w O;rw[eb,E,al W];exact Z.1;rw[dU,E,al W];exact Z.2;have aL:r/16<16:=U
 rw[eb,eb,dU,dU];by_cases e:r/16=s/16;rw[e,E,al W,al W,ax aw,ax aw];exact ar _ U U;rw[H _ aL e];by_cases D:bo S.m t (r/16)=0;rw[ax D,ax D,ax D,ax D];exact⟨rfl,rfl⟩;rw[al D,al D,al D,al D];exact hw _ _ aL U D
theorem gh.Lb(P:dd top S)(h:gh top S t){s aD i0:Nat}{L':List cg}(hs:s<256)(W:bo S.m t (s/16)≠0)(ay:∀i,i<16->i≠s %16->cW S.m (bo S.m t (s/16)+i*16)=0)
 (au:bo S.m t (s/16)=aD*1024+64+i0*256) (g:jV top S 7 aD i0 L') {a8:cN} (ao:a8.C=dK S.C 7 L') (hm:a8.m=dA (dA S.m (bo S.m t (s/16)+s %16*16) [0,0]) (t+s/16*8) [0]):
 gh top a8 t/\bo a8.m t (s/16)=0/\(∀j,j<16->j≠s/16->bo a8.m t j=bo S.m t j)/\eb a8.m t s=0/\∀r,r<256->r≠s->eb a8.m t r=eb S.m t r/\(eb S.m t r≠0->dU a8.m t r=dU S.m t r):=by
 have V:s/16<16:=U
 have ar:∀j,j<16->bo S.m t j≠0->t+128<=bo S.m t j\/bo S.m t j+256<=t:=λj u d=>e8.apart P c2 fI h.tk (h.fE j u d) (.inl am);have aw:∀j,j<16->j≠s/16->bo S.m t j≠0->bo S.m t j+256<=bo S.m t (s/16)\/bo S.m t (s/16)+256<=bo S.m t j:=λj u H d=>e8.apart P fI fI (h.fE j u d) (h.fE _ V W) (.inr (h.bq j _ u V H d));have aF:=ar _ V W;have N:∀j,j<16->j≠s/16->bo a8.m t j=bo S.m t j:=λj u H=>(by rw[bo,hm,q7 U,mK U];rfl);have D:bo a8.m t (s/16)=0:=by rw[bo,hm,Cl U]
 have hw:∀j i,j<16->j≠s/16->i<16->bo S.m t j≠0->cW a8.m (bo S.m t j+i*16)=cW S.m (bo S.m t j+i*16)/\cW a8.m (bo S.m t j+i*16+8)=cW S.m (bo S.m t j+i*16+8):=λj i u H E d=>(by have g1:=aw j u H d;have g2:=ar j u d;rw[hm];exact⟨by rw[q7 U,mK U],by rw[q7 U,mK U]⟩);refine⟨⟨by rw[ao];exact g.jQ P fI h.tk (.inl am),λj u d=>?_,λj k u aq H d=>?_,λj u d=>?_,λj u d i E Z=>?_⟩,D,N,by rw[eb,ax D],λr aL H=>?_⟩;have e:j≠s/16:=λe=>by subst e;exact d D
 rw[N j u e]at d⊢;rw[ao];exact g.jQ P fI (h.fE j u d) (.inr λO=>h.bq j _ u V e d (by rw[au];exact O));have e:j≠s/16:=λe=>by subst e;exact d D
 rw[N j u e]at d⊢;by_cases O:k=s/16;subst O;rw[D];exact d;rw[N k aq O];exact h.bq j k u aq H d;have e:j≠s/16:=λe=>by subst e;exact d D
 rw[N j u e]at d⊢;obtain⟨i,E,bJ⟩:=h.ne j u d;exact⟨i,E,by rw[(hw j i u e E d).1];exact bJ⟩;have e:j≠s/16:=λe=>by subst e;exact d D
 rw[N j u e]at d Z⊢;rw[(hw j i u e E d).1]at Z;rw[(hw j i u e E d).2];exact h.J j u d i E Z;have ag:r/16<16:=U
 rw[eb,eb,dU,dU];by_cases e:r/16=s/16;have aA:=ay (r %16) U U;rw[e,ax D,al W,aA];exact⟨rfl,λh=>absurd rfl h⟩;rw[N _ ag e];by_cases w:bo S.m t (r/16)=0;rw[ax w,ax w,ax w,ax w];exact⟨rfl,λ_=>rfl⟩;rw[al w,al w,al w,al w];exact⟨(hw _ _ ag e U w).1,λ_=>(hw _ _ ag e U w).2⟩
end Go.Proofs.Q
namespace Go.Proofs.Q
open Go Go.QM
variable [cJ]
theorem Mk{m:Nat->Nat}{t s:Nat}(h:bo m t (s/16)≠0):eb m t s=cW m (bo m t (s/16)+s %16*16)/\dU m t s=cW m (bo m t (s/16)+s %16*16+8):=⟨al h,al h⟩
theorem Mj{m:Nat->Nat}{t s:Nat}(h:bo m t (s/16)=0):eb m t s=0/\dU m t s=0:=⟨ax h,ax h⟩
theorem jV.r0{top:Nat}{S a8:cN}{c aD i:Nat}{L':List cg}(g:jV top S c aD i L')(z1:S.C=a8.C:=by rfl)(EJ:S.Fr=a8.Fr:=by rfl):jV top a8 c aD i L':=⟨by rw[<-z1];exact g.nm,λQ bt m=>by rw[<-z1,<-EJ];exact g.inv Q bt m,by rw[<-z1,<-EJ];exact g.len⟩
theorem S8(af top:Nat)(d:Int)(t:Nat)(S:cN)(H:dd top S)(E:e8 128 (S.C 2) t):bH 28 [ae af,aa d,aa t] da [eT af top S] (λaR:Nat=>ae aR) (λ_=>True) (λaR=>[aj aR 163 [ae af,aa d,aa t],eT af top S]):=by apply aF Tryz.func28 Tryz.ntmps28;intro F u;apply J [1];haveI:cv F:=⟨u⟩;obtain⟨k,aD,i,f,D,w,rfl⟩:=E.at;apply J [124,32];apply aq (Bu af top S 2 c2 k aD i f D w);refine J [5,89,107,34,3,589,0,309] ?_;intro bb;apply J [104];exact br bb trivial ai
theorem r6(aR af top:Nat)(d:Int)(t:Nat)(S:cN)(w:dd top S)(E:gh top S t)(s:Nat)(hs:s<256):bn 30 [ae aR,aa s] ba [aj aR 163 [ae af,aa d,aa t],eT af top S] (.tuple #[bk (eb S.m t s:Int),bk (dU S.m t s:Int)]) [aj aR 163 [ae af,aa d,aa t],eT af top S]:=by
 apply aF Tryz.func30 Tryz.ntmps30;intro F _;apply J [11];have P:=E.bd w;have N:=w.gd;have W:2^top<=128:=Vk (n:=2) am N.2;have O:s/16<16:=U
 have H:cW S.m (t+s/16*8)<1073741824:=(by by_cases u:bo S.m t (s/16)=0;rw[show cW S.m (t+s/16*8)=0 from u];decide;have:=E.rO w O u;rw[show cW S.m (t+s/16*8)=bo S.m t (s/16)from rfl];omega);apply J [24,218,229,239];apply aq (vl s hs);apply J [6,345,40,289,239];apply aq (tf aR af top d t S s hs ⟨P.2.2,by omega,N.2⟩ H);apply J [6];rw[show cW S.m (t+s/16*8)=bo S.m t (s/16)from rfl]at H⊢;apply J [160,103];apply Vf rfl<;>intro u;obtain⟨C,D⟩:=Mj (m:=S.m) (t:=t) (s:=s) U;rw[C,D];apply J [24,326];exact hN ai;have u:bo S.m t (s/16)≠0:=U
 obtain⟨C,D⟩:=Mk (m:=S.m) u;have V:=E.rO w O u;rw[C,D];apply J [4,32];apply aq (tf aR af top d t S s hs ⟨P.2.2,by omega,N.2⟩ H);apply J [6];rw[show cW S.m (t+s/16*8)=bo S.m t (s/16)from rfl];apply J [29];apply aq (tg (bo S.m t (s/16)) s hs U);apply J [6,28,32];apply aq (x8 aR af top d t S (bo S.m t (s/16)+s %16*16) U U);apply J [6,158,3];refine q rfl rfl (Wn (v:=((bo S.m t (s/16)+s %16*16+8:Nat):Int)) (io rfl rfl U U) U) ?_;refine e rfl ?_;apply aq (x8 aR af top d t S (bo S.m t (s/16)+s %16*16+8) U U);apply J [6,99];exact hN ai
theorem Cf(aR af top:Nat)(w:Int)(t:Nat)(S:cN)(d:dd top S)(E:gh top S t)(s:Nat)(hs:s<256)(a b:Nat)(aw:a<2^64)(aL:b<2^64)(ay:a≠0)(V:bo S.m t (s/16)≠0):bn 165 [ae aR,aa s,bk a,bk b] ba [aj aR 163 [ae af,aa w,aa t],eT af top S] (aa 0) [aj aR 163 [ae af,aa w,aa t],eT af top ⟨S.Q,S.bt,S.C,S.Fr,dA S.m (bo S.m t (s/16)+s %16*16) [a,b]⟩]:=by
 apply aF Tryz.func165 Tryz.ntmps165;intro F _;apply J [11];have ao:=E.bd d;have O:=d.gd;have aW:2^top<=128:=Vk (n:=2) am O.2;have ag:s/16<16:=U
 have aP:=E.rO d ag V;have Z:cW S.m (t+s/16*8)<1073741824:=by grind[bo]
 apply J [35,72,101,191,138];apply aq (vl s hs);apply J [6,266,27,175];refine Vf rfl (λH=>absurd H U) (λH=>?_);apply J [20,32];apply aq (tf aR af top w t S s hs ⟨ao.2.2,by omega,O.2⟩ Z);apply J [6];rw[show cW S.m (t+s/16*8)=bo S.m t (s/16)from rfl];apply J [31,169];refine Vf rfl (λN=>absurd N U) (λN=>?_);refine ab.open 1 rfl (λau ar=>?_);obtain⟨cO,bd,u,D⟩:=au;have d:=ar;apply J [245];dsimp only at d⊢;apply J [4,233];apply aq (l9 af cO bd u D);apply J [18,208];apply aq (tg (bo S.m t (s/16)) s hs U);refine J [18,208,294] ?_;intro bD;refine e rfl ?_;apply ew (lK u (1024*2^top) (bo S.m t (s/16)+s %16*16) S.m [a,b] (cF bD) 2 U cE jv U (by intro x P;simp only[Vq,Vn,or_false]at P;rcases P with rfl|rfl<;>assumption)) ⟨_,bi.rd (ad:=some ⟨bD,0,none⟩)⟩;apply J [76,26];have W:dd top ⟨S.Q,S.bt,S.C,S.Fr,dA S.m (bo S.m t (s/16)+s %16*16) [a,b]⟩:=by grind[dd]
 exact e9 (bP 6 rfl (az (dG.mk cO bd u D:dG af) W ai))
def u7(S:cN)(Mx:Int)(t s a b:Nat):Option (Nat×Nat×List cg)->cN
  | some y=>⟨(aw.de S.Q Mx (cc 7:Int)).1,S.bt,dK S.C 7 y.2.2,S.Fr,dA (dA (hf S.m (addr 7 y) 256) (t+s/16*8) [addr 7 y]) (addr 7 y+s %16*16) [a,b]⟩
  | none=>S
theorem Ty(aR af top:Nat)(d:Int)(t:Nat)(S:cN)(W:dd top S)(aL:gh top S t)(s:Nat)(hs:s<256)(a b:Nat)(bc:a<2^64)(bj:b<2^64)(bh:a≠0)(P:bo S.m t (s/16)=0):bH 165 [ae aR,aa s,bk a,bk b] da [aj aR 163 [ae af,aa d,aa t],eT af top S] (λy:Option (Nat×Nat×List cg)×Int=>aa y.2) (λy=>CK top S d 7 y) (λy=>[aj aR 163 [ae af,aa d,aa t],eT af top (u7 S d t s a b y.1)]):=by
 apply aF Tryz.func165 Tryz.ntmps165;intro F ar;apply J [11];haveI:cv F:=⟨ar⟩;have a3:=aL.bd W;have ao:=W.gd;have bn:2^top<=128:=Vk (n:=2) am ao.2;have bl:s/16<16:=U
 have aW:cW S.m (t+s/16*8)<1073741824:=by rw[show cW S.m (t+s/16*8)=0 from P];decide
 apply J [35,72,101,191,138];apply aq (vl s hs);apply J [6,266,27,175];refine Vf rfl (λZ=>absurd Z U) (λZ=>?_);apply J [20,32];apply aq (tf aR af top d t S s hs ⟨a3.2.2,by omega,ao.2⟩ aW);apply J [6];rw[show cW S.m (t+s/16*8)=0 from P];apply J [31,169,12,7];refine cC [0,1,2,3,4,5,6,7,-8,9,10,11,12,13] (an (aX _)) ?_;apply J [49,133,17];apply a7 (uU af top S d 7 fI);intro⟨a9,cq⟩ H;refine J [262,10] ?_;cases a9 with|none=>?_|some y=>?_
 dsimp only[pn,kf];apply J [152,283,274,7,39];refine Vf rfl (λag=>?_) (λag=>absurd (H.1) ag);apply J [140];refine ab.ret (rt (rt ?_));exact br (none,cq) H ai;obtain⟨rfl,a2,cG⟩:=H;dsimp only[pn,kf];have a0:e8 256 (dK S.C 7 y.2.2 7) (addr 7 y):=(cG.jQ fI).2 (.inr ⟨rfl,rfl⟩);have aP:=e8.bd (cG.inv (aw.de S.Q d (cc 7:Int)).1 S.bt (hf S.m (addr 7 y) 256)) fI a0;have O:cc 7=256:=rfl;rw[O]at aP;rw[O];have ba:=cG.inv (aw.de S.Q d (cc 7:Int)).1 S.bt (hf S.m (addr 7 y) 256);have au:=λa5=>cG.inv (aw.de S.Q d (cc 7:Int)).1 S.bt a5;generalize V:addr 7 y=u at*;apply J [152,283,274,7,172,140,37,54];refine aU.open 0 rfl (λa8 a4=>?_);obtain⟨cO,bd,w,E⟩:=a8;have ay:=a4;apply J [18];dsimp only at ay⊢;refine e rfl ?_;apply aq (l9 af cO bd w E);apply J [18,158,29];apply aq (Ce aR af d t s hs U);refine J [18,3,307,0,150] ?_;intro cp;refine e rfl ?_;apply ew (lK w (1024*2^top) (t+s/16*8) (hf S.m u 256) [u] (cF cp) 1 U cE jv U (by intro x D;simp only[Vq,Vn,or_false]at D;subst D;omega)) ⟨_,bi.rd (ad:=some ⟨cp,0,none⟩)⟩;apply J [76,2,233];apply aq (l9 af cO bd w E);apply J [76,208];apply aq (tg u s hs U);refine J [76,208,294] ?_;intro N;refine e rfl ?_;apply ew (lK w (1024*2^top) (u+s %16*16) (dA (hf S.m u 256) (t+s/16*8) [u]) [a,b] (cF N) 2 U cE jv U (by intro x D;simp only[Vq,Vn,or_false]at D;rcases D with rfl|rfl<;>assumption)) ⟨_,bi.rd (ad:=some ⟨N,0,none⟩)⟩;apply J [21,26];exact br (some y,0) (by subst V;exact⟨rfl,a2,cG⟩) (by subst V;exact(eQ (az (dG.mk cO bd w E:dG af) (au _) ai)))
theorem H8(aR af top:Nat)(d:Int)(t:Nat)(S:cN)(l:Nat)(P:l+256<=1024*2^top)(V:l %8=0)(H:top<=7)(em:Bool)(he:em=true↔∀i,i<16->cW S.m (l+i*16)=0):bn 288 [ae aR,aa l] ba [aj aR 163 [ae af,aa d,aa t],eT af top S] (.bool em) [aj aR 163 [ae af,aa d,aa t],eT af top S]:=by
 apply aF Tryz.func288 Tryz.ntmps288;intro F _;apply J [11];have Z:2^top<=128:=Vk (n:=2) am H;apply J [127,128,142];refine VP (ι:=Nat) (λi=>i<=16/\∀j,j<i->cW S.m (l+j*16)=0) (λi=>[(0,ae aR),(1,aa l),(6,aa ((i:Nat):Int))]) (λi=>ah [aj aR 163 [ae af,aa d,aa t],eT af top S,F]) (λi=>16-i) 0 ⟨by omega,λj h=>by omega⟩ bI (an (an (an (aX _)))) ?_;rintro i ⟨E,u⟩ ag;dsimp only[cy]at E u⊢;apply J [42];apply Vf rfl<;>intro W;have N:i<16:=U
 have C:i %16=i:=U
 apply J [60,140,34,29];apply aq (tg l i U U);apply J [6];rw[C];refine e rfl ?_;apply aq (x8 aR af top d t S (l+i*16) U U);apply J [6,87,2];apply Vf rfl<;>intro w;have hv:em=false:=cm;rw[hv];apply J [127,166];exact dh;have w:cW S.m (l+i*16)=0:=U
 refine J [111] ?_;exact⟨rfl,(i+1),⟨by omega,λj O=>by by_cases D:j=i;subst D;exact w;exact u j U⟩,U,⟨rfl,rfl,rfl,trivial⟩,ai⟩;obtain rfl:i=16:=by omega
 rw[he.2 u];apply J [75,24,70];exact dh
theorem Tb(aR af top:Nat)(d:Int)(t:Nat)(S:cN)(u:dd top S)(D:gh top S t)(s:Nat)(hs:s<256)(W:bo S.m t (s/16)≠0)(a2:eb S.m t s≠0)(aP:∃i,i<16/\i≠s %16/\cW S.m (bo S.m t (s/16)+i*16)≠0):bn 226 [ae aR,aa s] da [aj aR 163 [ae af,aa d,aa t],eT af top S] (aa 0) [aj aR 163 [ae af,aa d,aa t],eT af top ⟨S.Q,S.bt,S.C,S.Fr,(dA S.m (bo S.m t (s/16)+s %16*16) [0,0])⟩]:=by
 apply aF Tryz.func226 Tryz.ntmps226;intro F Z;apply J [11];haveI:cv F:=⟨Z⟩;have ay:=D.bd u;have E:=u.gd;have a3:2^top<=128:=Vk (n:=2) am E.2;have aw:s/16<16:=U
 have ao:=D.rO u aw W;have ar:cW S.m (t+s/16*8)<1073741824:=by grind[bo]
 have ag:∀aW,dd top ⟨S.Q,S.bt,S.C,S.Fr,aW⟩:=by grind[dd]
 apply J [35,32];apply aq (r6 aR af top d t S u D s hs);apply J [6,278,173,72,101,191,138];apply aq (vl s hs);apply J [6,266,27,175];refine Vf rfl (λO=>absurd O U) (λO=>?_);apply J [20,32];apply aq (tf aR af top d t S s hs ⟨ay.2.2,by omega,E.2⟩ ar);apply J [6];rw[show cW S.m (t+s/16*8)=bo S.m t (s/16)from rfl];refine aU.open 1 rfl (λa0 aL=>?_);obtain⟨cO,bd,w,N⟩:=a0;have u:=aL;apply J [18];dsimp only at u⊢;apply J [28,233];apply aq (l9 af cO bd w N);apply J [18,208];apply aq (tg (bo S.m t (s/16)) s hs U);refine J [18,0,294] ?_;intro H;refine e rfl ?_;apply ew (lK w (1024*2^top) (bo S.m t (s/16)+s %16*16) S.m [0,0] (cF H) 2 U cE jv U (by intro x V;simp only[Vq,Vn,or_false]at V;rcases V with rfl|rfl<;>decide)) ⟨_,bi.rd (ad:=some ⟨H,0,none⟩)⟩;apply J [76,30,34];refine aU.bg (B:=ah [aj aR 163 [ae af,aa d,aa t],eT af top ⟨S.Q,S.bt,S.C,S.Fr,(dA S.m (bo S.m t (s/16)+s %16*16) [0,0])⟩,F]) (bP 6 rfl (az (dG.mk cO bd w N:dG af) (ag _) ai)) ?_;have hw:∀i,i<16->i≠s %16->cW (dA S.m (bo S.m t (s/16)+s %16*16) [0,0]) (bo S.m t (s/16)+i*16)=cW S.m (bo S.m t (s/16)+i*16):=by grind[mK]
 have a4:cW (dA S.m (bo S.m t (s/16)+s %16*16) [0,0]) (bo S.m t (s/16)+s %16*16)=0:=by grind[tn]
 have he:false=true↔∀i,i<16->cW (dA S.m (bo S.m t (s/16)+s %16*16) [0,0]) (bo S.m t (s/16)+i*16)=0:=⟨λh=>(by cases h),λh=>by obtain⟨i,P,au,bJ⟩:=aP;exact absurd (by rw[<-hw i P au];exact h i P) bJ⟩;refine e rfl ?_;apply aq (H8 aR af top d t ⟨S.Q,S.bt,S.C,S.Fr,(dA S.m (bo S.m t (s/16)+s %16*16) [0,0])⟩ (bo S.m t (s/16)) ao.2.2 U E.2 false he);apply J [6,107,201];exact dh
theorem Ta(aR af top:Nat)(d:Int)(t:Nat)(S:cN)(w:dd top S)(H:gh top S t)(s:Nat)(hs:s<256)(ar:bo S.m t (s/16)≠0)(bc:eb S.m t s≠0)(k aD i0:Nat)(f:Nat->Bool)(aP:(S.C 7)[k]? =some ⟨aD,f⟩)(aL:f i0=true)(aW:bo S.m t (s/16)=aD*1024+64+i0*256)(a8:∀i,i<16->i≠s %16->cW S.m (bo S.m t (s/16)+i*16)=0)(a4:(aw.ek S.Q d (cc 7:Int)).2=0):bH 226 [ae aR,aa s] da [aj aR 163 [ae af,aa d,aa t],eT af top S] (λ_:List cg=>aa 0) (λL'=>jV top S 7 aD i0 L') (λL'=>[aj aR 163 [ae af,aa d,aa t],eT af top ⟨(aw.ek S.Q d (cc 7:Int)).1,S.bt,dK S.C 7 L',S.Fr,(dA (dA S.m (bo S.m t (s/16)+s %16*16) [0,0]) (t+s/16*8) [0])⟩]):=by
 apply aF Tryz.func226 Tryz.ntmps226;intro F au;apply J [11];haveI:cv F:=⟨au⟩;have a5:=H.bd w;have N:=w.gd;have bh:2^top<=128:=Vk (n:=2) am N.2;have a3:s/16<16:=U
 have a0:=H.rO w a3 ar;have a2:cW S.m (t+s/16*8)<1073741824:=by grind[bo]
 have Z:∀a9,dd top ⟨S.Q,S.bt,S.C,S.Fr,a9⟩:=by grind[dd]
 apply J [35,32];apply aq (r6 aR af top d t S w H s hs);apply J [6,278,173,72,101,191,138];apply aq (vl s hs);apply J [6,266,27,175];refine Vf rfl (λag=>absurd ag U) (λag=>?_);apply J [20,32];apply aq (tf aR af top d t S s hs ⟨a5.2.2,by omega,N.2⟩ a2);apply J [6];rw[show cW S.m (t+s/16*8)=bo S.m t (s/16)from rfl];refine aU.open 1 rfl (λP O=>?_);obtain⟨cO,bd,u,D⟩:=P;have w:=O;apply J [18];dsimp only at w⊢;apply J [28,233];apply aq (l9 af cO bd u D);apply J [18,208];apply aq (tg (bo S.m t (s/16)) s hs U);refine J [18,0,294] ?_;intro V;refine e rfl ?_;apply ew (lK u (1024*2^top) (bo S.m t (s/16)+s %16*16) S.m [0,0] (cF V) 2 U cE jv U (by intro x E;simp only[Vq,Vn,or_false]at E;rcases E with rfl|rfl<;>decide)) ⟨_,bi.rd (ad:=some ⟨V,0,none⟩)⟩;apply J [76,30,34];refine aU.bg (B:=ah [aj aR 163 [ae af,aa d,aa t],eT af top ⟨S.Q,S.bt,S.C,S.Fr,(dA S.m (bo S.m t (s/16)+s %16*16) [0,0])⟩,F]) (bP 6 rfl (az (dG.mk cO bd u D:dG af) (Z _) ai)) ?_;have hw:∀i,i<16->i≠s %16->cW (dA S.m (bo S.m t (s/16)+s %16*16) [0,0]) (bo S.m t (s/16)+i*16)=cW S.m (bo S.m t (s/16)+i*16):=by grind[mK]
 have a7:cW (dA S.m (bo S.m t (s/16)+s %16*16) [0,0]) (bo S.m t (s/16)+s %16*16)=0:=by grind[tn]
 have he:true=true↔∀i,i<16->cW (dA S.m (bo S.m t (s/16)+s %16*16) [0,0]) (bo S.m t (s/16)+i*16)=0:=⟨λ_ i ao=>by by_cases e:i=s %16;rw[e];exact a7;rw[hw i ao e];exact a8 i ao e,λ_=>rfl⟩;refine e rfl ?_;apply aq (H8 aR af top d t ⟨S.Q,S.bt,S.C,S.Fr,(dA S.m (bo S.m t (s/16)+s %16*16) [0,0])⟩ (bo S.m t (s/16)) a0.2.2 U N.2 true he);apply J [6,2,12];refine ab.open 1 rfl (λP O=>?_);obtain⟨cO,bd,u,D⟩:=P;have ay:=O;apply J [245];dsimp only at ay⊢;apply J [233];apply aq (l9 af cO bd u D);apply J [18,158,29];apply aq (Ce aR af d t s hs U);refine J [18,0,150] ?_;intro W;refine e rfl ?_;apply ew (lK u (1024*2^top) (t+s/16*8) (dA S.m (bo S.m t (s/16)+s %16*16) [0,0]) [0] (cF W) 1 U cE jv U (by intro x E;simp only[Vq,Vn,or_false]at E;subst E;decide)) ⟨_,bi.rd (ad:=some ⟨W,0,none⟩)⟩;apply J [76,2];refine WD (B:=ah [aj aR 163 [ae af,aa d,aa t],eT af top ⟨S.Q,S.bt,S.C,S.Fr,(dA (dA S.m (bo S.m t (s/16)+s %16*16) [0,0]) (t+s/16*8) [0])⟩,F]) (bv (az (dG.mk cO bd u D:dG af) (Z _) ai)) ?_;refine cC [0,1,2,3,4,5,6,7,8,-9] (an (aX _)) ?_;apply J [49,133,16];have ba:cc 7=256:=rfl;refine dY rfl rfl ?_;refine aI (uV af top ⟨S.Q,S.bt,S.C,S.Fr,(dA (dA S.m (bo S.m t (s/16)+s %16*16) [0,0]) (t+s/16*8) [0])⟩ 7 fI k aD i0 f aP aL d a4) (congrArg (λz:Nat=>[Yi (some ⟨af,0,none⟩),.int .i64 d,.int .i64 7,.int .i64 ((z:Nat):Int)]) aW) eC.p cv.aY ?_;intro L' cG;refine J [262,110,201] ?_;exact br L' cG.r0 ai
end Go.Proofs.Q
namespace Go.Proofs.Q.au
open Go Go.QM
structure e7 where
  k:Int
  a:Int
  f:Int
def e7.l(o:e7):List Int:=[o.k,o.a,o.f]
structure bV where
  o:e7
  st:Int
  cU:Int
def oy:bV:=⟨⟨0,0,0⟩,0,0⟩
def xG(p:bV):List Value:=ints p.o.l++[.int .i64 p.st,.int .u32 p.cU]
theorem km(p:bV):(xG p).length=5:=rfl
def fh(l:List bV):List Value:=l.flatMap xG
theorem H0(l:List bV):(fh l).length=l.length*5:=kC km l
theorem S4{l:List bV}{i:Nat}{p:bV}(h:l[i]? =some p):0<(fh l).length:=by grind[H0]
structure dN(l:List bV):Prop where
  n:l.length=256
  cU:∀p∈l,0<=p.cU/\p.cU<=1048575
theorem dN.at{l:List bV}(h:dN l){i:Nat}(u:i<256):∃p,l[i]? =some p/\0<=p.cU/\p.cU<=1048575:=by
 have d:i<l.length:=by rw[h.n];exact u
 exact⟨l[i],Vc d,h.cU _ (List.getElem_mem d)⟩
theorem pT:bH 126 [] ba [] (λb:Nat=>ae b) (λ_=>True) (λb=>[aZ 264 5 (cF b) 256 256 (fh (VA 256 oy))]):=by apply aF Tryz.func126 Tryz.ntmps126;intro F _;apply J [8,168,24];refine q rfl rfl (eh (cs:=fh (VA 256 oy)) aV) ?_;refine e rfl ?_;refine eS (v:=.agg (Vz (fh (VA 256 oy)))) (l:=fh (VA 256 oy)) rfl aV ?_;intro bb;apply J [104];exact br bb trivial (eI 0 rfl (SC aV am) (an (aX _)))
theorem xk(b:Nat)(l:List bV)(i:Nat)(p:bV)(u:l[i]? =some p)(C:i<256)(w:0<=p.cU/\p.cU<=16777215):bn 151 [ae b,aa i] (λF=>∃E,cQ F E (cF b) (fh l)) [] (aS (p.cU*256+i)) []:=by apply aF Tryz.func151 Tryz.ntmps151;intro F ⟨E,d⟩;apply J [8];haveI:bi F (cF b) E (fh l):=⟨d⟩;refine J [106,34,475,393,590] ?_;refine q rfl rfl (n7 4 rfl rfl) ?_;refine q rfl rfl (dB rfl rfl (pH km u 4 U rfl)) ?_;refine q rfl rfl (BP rfl rfl U (So U U)) ?_;refine J [3,476] ?_;refine q rfl rfl (Bm rfl rfl (QA U U U U)) ?_;apply J [26];exact j7
theorem Q0(p:bV):bn 184 [.agg (xG p).toArray] ba [] (.bool (decide (p.st=0))) []:=by apply aF Tryz.func184 Tryz.ntmps184;intro F _;refine J [186,520] ?_;intro bD;apply J [38,24,220,297,70];exact e9 (bU (aX _))
end Go.Proofs.Q.au
namespace Go.Proofs.Q.au
open Go Go.QM
theorem N6(ad:Option Addr)(cap:Nat)(l:List bV)(gU:FuncId)(lb:List Value)(pr:bV->Bool)(D:ay->Prop)(Z:l.length<=100000000)(O:∀t,bn gU ([.agg (xG t).toArray]++lb) D [] (.bool (pr t)) []):eF VU 183 [.slice ad l.length cap,.func (.func gU) #[] lb.toArray] (λF=>(∃E,cQ F E ad (fh l))/\D (ah [F])) [] (λ_:Unit=>aa (match l.findIdx? pr with|some i=>(i:Int)|none=>-1)) (λ_=>True) (λ_=>[]):=by
 apply aF Tryz.func183 Tryz.ntmps183;intro F ⟨⟨E,H⟩,N⟩;apply J [8];haveI:bi F ad E (fh l):=⟨H⟩;apply J [35,33];refine q rfl rfl (len 210 5 rfl rfl) ?_;refine J [112,591] ?_;rintro k ⟨hinv,eM⟩ ag;dsimp only[cy]at hinv eM⊢;apply J [42];apply Vf rfl<;>intro C;have C:k<l.length:=U
 obtain⟨t,w⟩:∃t,l[k]? =some t:=⟨l[k],Vc C⟩;have W:=S4 w;apply J [60,140,24,339,319];refine q rfl rfl (ht 210 5 rfl rfl rfl U eA) ?_;refine q rfl rfl (gH (vs:=[_,_,_,_,_]) 5 rfl rfl (nk km w) rfl am) ?_;refine e rfl ?_;refine k5 (O t) rfl rfl (ev _) N ?_;intro _ _;apply J [151,2];cases V:pr t with|true=>?_|false=>?_
 apply J [12,140,166];have d:l.findIdx? pr=some k:=by grind[wx]
 exact YE () [_] ⟨rfl,trivial⟩ (by rw[d];rfl) trivial ai;refine J [23,111] ?_;exact⟨rfl,(k+1),⟨by omega,λj u P hu=>by rcases Nat.lt_succ_iff_lt_or_eq.1 P with h|h;exact eM j u h hu;subst h;rw[w]at hu;cases hu;exact V⟩,U,bI,(an (aX _))⟩;obtain rfl:k=l.length:=by omega
 have d:l.findIdx? pr=none:=by grind[zI]
 apply J [75,201];exact YE () [_] ⟨rfl,trivial⟩ (by rw[d];rfl) trivial (an (aX _))
def dV(l:List bV)(h st:Int):Option (Nat×bV):=match l[(h %256).toNat]? with
  | some p=>if p.cU*256+h %256=h/\p.st=st then some ((h %256).toNat,p)else none
  | none=>none
theorem nw{l:List bV}{h st:Int}{i:Nat}{p:bV}(d:0<=h)(e:dV l h st=some (i,p)):l[i]? =some p/\h=p.cU*256+i/\i<256/\p.st=st:=by grind[dV]
theorem Pz{l:List bV}{h st:Int}{p:bV}(e:dV l h st=none)(d:l[(h %256).toNat]? =some p):¬(p.cU*256+h %256=h/\p.st=st):=by grind[dV]
theorem vU(b:Nat)(l:List bV)(i:Nat)(p:bV)(h st:Int)(N:dN l)(w:0<=h)(D:dV l h st=some (i,p)):bn 113 [ae b,aS h,aa st] (λF=>∃E,cQ F E (cF b) (fh l)) [] (.tuple #[fF (cF b) (i*5),aa 0]) []:=by apply aF Tryz.func113 Tryz.ntmps113;intro F ⟨E,C⟩;apply J [8];haveI:bi F (cF b) E (fh l):=⟨C⟩;obtain⟨d,rfl,H,rfl⟩:=nw w D;have O:=N.cU p (Vg d);apply J [24,164,31,41,27];refine q rfl rfl (vR rfl rfl (De U U)) ?_;refine J [431,31,7] ?_;rw[show(p.cU*256+(i:Int)) %256=(i:Int)from by omega];apply J [178];apply ew (xk b l i p d H U) ⟨_,bi.rd⟩;apply J [151,3,87,19];refine VL 19 rfl (c:=false) (dn U) ?_;apply J [289,13];refine db rfl rfl rfl (uH rfl) ?_;refine db rfl rfl rfl (n7 0 rfl rfl) ?_;refine J [592] ?_;refine db rfl rfl rfl (n7 3 rfl rfl) ?_;refine db rfl rfl rfl (dB rfl rfl (pH km d 3 U rfl)) ?_;apply J [13,240,103];refine Vf rfl (λu=>absurd u U) (λu=>?_);refine J [4,34,475,393,590,164,26] ?_;exact YE () [_,_] ⟨rfl,rfl,trivial⟩ (congrArg (λo=>Value.tuple #[fF (some ⟨b,0,none⟩) o,.int .i64 0]) U) trivial (an (aX _))
theorem vT(b:Nat)(l:List bV)(h st:Int)(N:dN l)(O:0<=h/\h<=4294967295)(H:dV l h st=none):bn 113 [ae b,aS h,aa st] (λF=>∃E,cQ F E (cF b) (fh l)) [] (.tuple #[.pointer none,aa 8]) []:=by
 apply aF Tryz.func113 Tryz.ntmps113;intro F ⟨E,D⟩;apply J [8];haveI:bi F (cF b) E (fh l):=⟨D⟩;obtain⟨i,w⟩:∃i:Nat,h %256=i:=⟨(h %256).toNat,by omega⟩;have C:i<256:=U
 obtain⟨p,d,P⟩:=N.at C;have eM:=Pz H (show l[(h %256).toNat]? =some p from by rw[w];exact d);apply J [24,164,31,41,27];refine q rfl rfl (vR rfl rfl (De U U)) ?_;refine J [431,31,7] ?_;rw[w];apply J [178];apply ew (xk b l i p d C U) ⟨_,bi.rd⟩;apply J [151,3,87,19];refine aU.split 19 rfl (λao=>?_) (λao=>?_);have ao:=dz ao;apply J [45,213,134,164,123];exact hN (an (aX _));have ao:=d7 ao;apply J [289,13];refine db rfl rfl rfl (uH rfl) ?_;refine db rfl rfl rfl (n7 0 rfl rfl) ?_;refine J [592] ?_;refine db rfl rfl rfl (n7 3 rfl rfl) ?_;refine db rfl rfl rfl (dB rfl rfl (pH km d 3 U rfl)) ?_;apply J [13,240,103];refine Vf rfl (λu=>?_) (λu=>absurd U u);apply J [24,164,123];exact hN (an (aX _))
def mf:e7:=⟨0,0,0⟩
def cV(l:List bV)(h:Int):e7×Int:=match dV l h 1 with
  | some (_,p)=>(p.o,0)
  | none=>(mf,8)
theorem zX(b:Nat)(l:List bV)(h:Int)(D:dN l)(d:0<=h/\h<=4294967295):bn 63 [ae b,aS h] (λF=>∃E,cQ F E (cF b) (fh l)) [] (.tuple #[.agg (ints (cV l h).1.l).toArray,aa (cV l h).2]) []:=by
 apply aF Tryz.func63 Tryz.ntmps63;intro F ⟨E,H⟩;apply J [8];haveI:bi F (cF b) E (fh l):=⟨H⟩;refine J [25,353] ?_;intro bb;apply J [28,34];cases u:dV l h 1 with|none=>?_|some t=>?_
 have aN:cV l h=(mf,8):=by grind[cV]
 refine e rfl ?_;apply ew (vT b l h 1 D d u) ⟨_,bi.rd⟩;apply J [5,180];refine Vf rfl (λw=>?_) (λw=>absurd am w);apply J [24];refine q rfl rfl (eh (cs:=ints [_,_,_]) rfl) ?_;apply J [3,281,123];exact yr;obtain⟨i,p⟩:=t;obtain⟨N,O,P,V⟩:=nw d.1 u;have aN:cV l h=(p.o,0):=by grind[cV]
 refine e rfl ?_;apply ew (vU b l i p h 1 D d.1 u) ⟨_,bi.rd⟩;apply J [5,180];refine Vf rfl (λC=>absurd C am) (λC=>?_);apply J [4,36,376,393];refine q rfl rfl (gH (vs:=ints [_,_,_]) 3 rfl rfl (kB km N 0 3 U U rfl) rfl am) ?_;apply J [281,26];exact yr
end Go.Proofs.Q.au
namespace Go.Proofs.Q.au
open Go Go.QM
def isEmpty(p:bV):Bool:=decide (p.st=0)
def ma (l:List bV) (o:e7):List bV×Int×Int:=match l.findIdx? isEmpty with
  | some i=>match l[i]? with
    | some p=>(l.set i ⟨o,1,p.cU⟩,p.cU*256+i,0)
    | none=>(l,0,11)
  | none=>(l,0,11)
theorem Ez{l:List bV}{i:Nat}(h:l.findIdx? isEmpty=some i):∃p,l[i]? =some p/\p.st=0:=by grind[List.findIdx?_eq_some_iff_getElem,isEmpty]
theorem dN.set{l:List bV}(h:dN l)(i:Nat){p:bV}(u:0<=p.cU/\p.cU<=1048575):dN (l.set i p) where
 n:=by simp[h.n]
 cU:=λq d=>by rcases List.mem_or_eq_of_mem_set d with d|rfl;exact h.cU q d;exact u
theorem xU{l:List bV}{i:Nat}{p q:bV}(h:l[i]? =some p):(l.set i q)[i]? =some q:=List.getElem?_set_self (Vm.1 h).1
theorem dN.lt{l:List bV}(h:dN l){i:Nat}{p:bV}(d:l[i]? =some p):i<256:=by rw[<-h.n];exact(Vm.1 d).1
theorem og(b:Nat)(l:List bV)(o:e7)(u:dN l):bn 129 [ae b,.agg (ints o.l).toArray] ba [aZ 264 5 (cF b) 256 256 (fh l)] (.tuple #[aS (ma l o).2.1,aa (ma l o).2.2]) [aZ 264 5 (cF b) 256 256 (fh (ma l o).1)]:=by
 apply aF Tryz.func129 Tryz.ntmps129;intro F _;apply J [1];have N:=u.n;refine J [25,575] ?_;intro bb;apply J [218,41,36,475,393];refine q rfl rfl (xV 256 210 5 rfl rfl kk) ?_;refine e rfl ?_;refine aI (N6 (cF b) 256 l 184 [] isEmpty ba U (λt=>Q0 t)) (by rw[N];rfl) (ev _) ⟨⟨_,bi.rd⟩,trivial⟩ ?_;intro _ _;apply J [6];cases D:l.findIdx? isEmpty with|none=>?_|some i=>?_
 have aN:ma l o=(l,0,11):=by grind[ma]
 rw[aN];dsimp only;apply J [31,331,2];refine Vf rfl (λw=>?_) (λw=>absurd am w);apply J [24,326];exact hN (bU (bU (aX _)));obtain⟨p,d,V⟩:=Ez D;have O:=u.lt d;have P:=u.cU p (Vg d);have aN:ma l o=(l.set i ⟨o,1,p.cU⟩,p.cU*256+i,0):=by grind[ma]
 rw[aN];dsimp only;have E:=xU (q:=⟨o,p.st,p.cU⟩) d;have H:=xU (q:=⟨o,1,p.cU⟩) d;apply J [31,331,2];refine Vf rfl (λC=>absurd C U) (λC=>?_);apply J [44];refine cC [0,1,2,3,4,5,6,7,8,10,11,-9,12,13,-14] (an (bU (aX _))) ?_;apply J [78,16,78,16,576];refine bY rfl rfl rfl (uH rfl) ?_;refine J [523,593,523] ?_;refine bY rfl rfl rfl (uH rfl) ?_;apply J [523,258];refine eg (v:=.agg (Vz (ints [_,_,_]))) (vs:=ints [_,_,_]) 3 rfl rfl rfl rfl rfl rfl am AT (sJ (a':=⟨o,p.st,p.cU⟩) km d 0 U (Vp rfl) rfl) ?_;refine J [10,593] ?_;refine bY rfl rfl rfl (n7 3 rfl rfl) ?_;refine DU rfl ?_;refine eg (v:=.int _ _) (vs:=[_]) 1 rfl rfl rfl rfl rfl rfl am FY (sJ (a':=⟨o,1,p.cU⟩) km E 3 U (Vp rfl) rfl) ?_;refine J [110,32] ?_;refine aI (xk b (l.set i ⟨o,1,p.cU⟩) i ⟨o,1,p.cU⟩ H O cK) rfl (ev _) (by rw[List.set_set];exact⟨_,bi.rd⟩) ?_;intro _ _;apply J [6,99];exact hN (b6 0 rfl (by rw[List.set_set];rfl) (bU (aX _)))
def hT(l:List bV)(h:Int):List bV×Int:=match dV l h 1 with
  | some (i,p)=>(l.set i ⟨p.o,2,p.cU⟩,0)
  | none=>(l,8)
theorem O9(b:Nat)(l:List bV)(h:Int)(d:dN l)(u:0<=h/\h<=4294967295):bn 372 [ae b,aS h] ba [aZ 264 5 (cF b) 256 256 (fh l)] (aa (hT l h).2) [aZ 264 5 (cF b) 256 256 (fh (hT l h).1)]:=by
 apply aF Tryz.func372 Tryz.ntmps372;intro F _;apply J [1,106,34];cases w:dV l h 1 with|none=>?_|some t=>?_
 have aN:hT l h=(l,8):=by grind[hT]
 refine e rfl ?_;apply ew (vT b l h 1 d u w) ⟨_,bi.rd⟩;apply J [5];rw[aN];dsimp only;apply J [198,169];refine Vf rfl (λC=>absurd C am) (λC=>?_);apply J [4,325];exact hC;obtain⟨i,p⟩:=t;obtain⟨E,N,P,V⟩:=nw u.1 w;have aN:hT l h=(l.set i ⟨p.o,2,p.cU⟩,0):=by grind[hT]
 have H:=d.cU p (Vg E);have O:=d.n;refine e rfl ?_;apply ew (vU b l i p h 1 d u.1 w) ⟨_,bi.rd⟩;apply J [5];rw[aN];dsimp only;apply J [198,169];refine Vf rfl (λD=>?_) (λD=>absurd am D);apply J [37,376];refine q rfl rfl (n7 3 rfl rfl) ?_;refine eB ?_;refine eg (v:=.int _ _) (vs:=[_]) 1 rfl rfl rfl rfl rfl rfl am AT (sJ (a':=⟨p.o,2,p.cU⟩) km E 3 U (Vp rfl) rfl) ?_;apply J [2,325];exact hC
def i5(p:bV):bV:=if 1048575<p.cU+1 then⟨mf,3,1048575⟩else⟨mf,0,p.cU+1⟩
def pI(l:List bV)(h:Int):List bV×e7×Int:=match dV l h 2 with
  | some (i,p)=>(l.set i (i5 p),p.o,0)
  | none=>(l,mf,8)
theorem No(b:Nat)(l:List bV)(h:Int)(u:dN l)(w:0<=h/\h<=4294967295):bn 221 [ae b,aS h] ba [aZ 264 5 (cF b) 256 256 (fh l)] (.tuple #[.agg (ints (pI l h).2.1.l).toArray,aa (pI l h).2.2]) [aZ 264 5 (cF b) 256 256 (fh (pI l h).1)]:=by
 apply aF Tryz.func221 Tryz.ntmps221;intro F _;refine J [1,25,353] ?_;intro cp;apply J [28,34];cases D:dV l h 2 with|none=>?_|some t=>?_
 have aN:pI l h=(l,mf,8):=by grind[pI]
 refine e rfl ?_;apply ew (vT b l h 2 u w D) ⟨_,bi.rd⟩;apply J [6];rw[aN];dsimp only;apply J [180];refine Vf rfl (λE=>?_) (λE=>absurd am E);apply J [24];refine q rfl rfl (eh (cs:=ints [_,_,_]) rfl) ?_;apply J [3,281,123];exact YE () [_,_] ⟨(e5 (n:=3) rfl rfl rfl rfl),rfl,trivial⟩ rfl trivial (bU (bU (aX _)));obtain⟨i,p⟩:=t;obtain⟨d,W,ao,aq⟩:=nw w.1 D;have aN:pI l h=(l.set i (i5 p),p.o,0):=by grind[pI]
 have P:=u.cU p (Vg d);have ag:=u.n;refine e rfl ?_;apply ew (vU b l i p h 2 u w.1 D) ⟨_,bi.rd⟩;apply J [6];rw[aN];dsimp only;apply J [180];refine Vf rfl (λH=>absurd H am) (λH=>?_);have N:=xU (q:=⟨mf,0,p.cU+1⟩) d;have Z:=xU (q:=⟨mf,3,1048575⟩) d;apply J [4,36,376,393];refine q rfl rfl (gH (vs:=ints [_,_,_]) 3 rfl rfl (kB km d 0 3 U U rfl) rfl am) ?_;refine J [0,353] ?_;intro O;apply J [281,2,36,158,376];refine q rfl rfl (n7 4 rfl rfl) ?_;refine q rfl rfl (dB rfl rfl (pH km d 4 U rfl)) ?_;refine q rfl rfl (add rfl rfl (q8 U U)) ?_;apply J [471,376,22];refine eg (v:=.agg #[_,_,_,_,_]) (vs:=[_,_,_,_,_]) 5 rfl rfl rfl rfl rfl rfl am AT (sJ (a':=⟨mf,0,p.cU+1⟩) km d 0 U (Vp rfl) rfl) ?_;apply J [30,36,376];refine q rfl rfl (n7 4 rfl rfl) ?_;refine q rfl rfl (dB rfl rfl (pH km N 4 U rfl)) ?_;apply J [167,2];apply Vf rfl<;>intro V;have C:i5 p=⟨mf,3,1048575⟩:=by rw[i5,ax U]
 rw[C];apply J [37,471,376,22];refine eg (v:=.agg #[_,_,_,_,_]) (vs:=[_,_,_,_,_]) 5 rfl rfl rfl rfl rfl rfl am FY (sJ (a':=⟨mf,3,1048575⟩) km N 0 U (Vp rfl) rfl) ?_;apply J [226,354,281,26];exact YE () [_,_] ⟨(e5 (n:=3) rfl rfl rfl rfl),rfl,trivial⟩ rfl trivial (b6 1 rfl (by rw[List.set_set];rfl) (bv (aX _)));have C:i5 p=⟨mf,0,p.cU+1⟩:=by rw[i5,al U]
 rw[C];apply J [4,24,354,281,26];exact YE () [_,_] ⟨(e5 (n:=3) rfl rfl rfl rfl),rfl,trivial⟩ rfl trivial (b6 1 rfl rfl (bv (aX _)))
end Go.Proofs.Q.au
namespace Go.Proofs.Q.au
open Go Go.QM
def mn(s:Int)(z:List (bV×Nat)):List Int:=(z.filter λt=>decide (t.1.st=s)).map λt=>t.1.cU*256+(t.2:Int)
def dy(l:List bV)(s:Int):List Int:=mn s l.zipIdx
theorem tJ(s:Int)(z:List (bV×Nat))(t:bV×Nat):mn s (z++[t])=if t.1.st=s then mn s z++[t.1.cU*256+(t.2:Int)]else mn s z:=by grind[mn]
theorem JE{l:List bV}{k:Nat}{p:bV}(h:l[k]? =some p):l.zipIdx.take (k+1)=l.zipIdx.take k++[(p,k)]:=by grind[Vt]
theorem C8(s:Int)(z:List (bV×Nat)):(mn s z).length<=z.length:=by rw[mn,List.length_map];exact List.length_filter_le _ _
theorem po(l:List bV)(s:Int):(dy l s).length<=l.length:=by have:=C8 s l.zipIdx;rw[List.length_zipIdx]at this;exact this
variable(b:Nat)
theorem yO(l:List bV)(s:Int)(H:dN l):bH 106 [ae b,aa s] (λF=>∃E,cQ F E (cF b) (fh l)) [] (λy:Option Addr×Nat=>.slice y.1 (dy l s).length y.2) (λ_=>True) (λy=>[aZ 33 1 y.1 (dy l s).length y.2 (cL .u32 (dy l s))]):=by
 apply aF Tryz.func106 Tryz.ntmps106;intro F ⟨E,P⟩;apply J [8];haveI:bi F (cF b) E (fh l):=⟨P⟩;have W:=H.n;have D:(fh l).length=1280:=by grind[H0]
 apply J [115,196,101,121,36,475,393];refine q rfl rfl (gH (vs:=_) 1280 rfl rfl (by rw[List.drop_zero,<-D];exact List.take_length) D am) ?_;apply J [112];refine VP (ι:=Nat×Option Addr×Nat) (λi=>i.1<=256) (λi=>[(0,ae b),(1,aa s),(5,.slice i.2.1 (mn s (l.zipIdx.take i.1)).length i.2.2),(13,.agg (fh l).toArray),(14,aa ((i.1:Nat):Int))]) (λi=>ah [aZ 33 1 i.2.1 (mn s (l.zipIdx.take i.1)).length i.2.2 (cL .u32 (mn s (l.zipIdx.take i.1))),F]) (λi=>256-i.1) ⟨0,none,0⟩ (Vj _) bI ((dI 33 1 _).trans (b6 0 rfl kk (an (aX _)))) ?_;rintro⟨k,ad,cap⟩ hinv Z;dsimp only[cy]at hinv⊢;apply J [42];apply Vf rfl<;>intro C;have C:k<256:=U
 obtain⟨p,w,V⟩:=H.at C;have u:=JE w;have hle:=C8 s (l.zipIdx.take k);rw[List.length_take]at hle;apply J [60,27];refine q rfl rfl (N1 256 210 5 rfl rfl rfl rfl U U (kB km w 0 5 U U rfl)) ?_;refine e rfl ?_;refine gx (l:=[.int _ _,.int _ _,.int _ _,.int _ _,.int _ _]) rfl rfl ?_;intro bb;apply J [77,22,310,226,287,212];apply Vf rfl<;>intro d;apply J [113,158,29];apply ew (xk b l k p w C U) ⟨_,bi.rd⟩;refine J [6,0,150] ?_;intro bD;refine e rfl ?_;refine ap 4 rfl rfl rfl rfl rfl (Vp rfl) rfl rfl U gr ?_;intro N O;refine J [85,63] ?_;exact⟨rfl,⟨k+1,N,O⟩,cK,cK,⟨rfl,rfl,congrArg (λn=>V0 _ n _) (by rw[u,tJ,ax d];simp),rfl,rfl,trivial⟩,(b6 0 rfl (by rw[u,tJ,ax d];simp[cL]) (bv (aX _)))⟩;refine J [111] ?_;exact⟨rfl,⟨k+1,ad,cap⟩,cK,cK,⟨rfl,rfl,congrArg (λn=>V0 _ n _) (by rw[u,tJ,al d]),rfl,rfl,trivial⟩,(b6 1 rfl (by rw[u,tJ,al d]) (bU (aX _)))⟩;obtain rfl:k=256:=U
 rw[List.take_of_length_le (by rw[List.length_zipIdx];omega)];apply J [210,61];exact br ⟨ad,cap⟩ trivial (an (an (aX _)))
theorem FM(l:List bV)(u:dN l):bH 59 [ae b] (λF=>∃E,cQ F E (cF b) (fh l)) [] (λy:Option Addr×Nat=>.slice y.1 (dy l 1).length y.2) (λ_=>True) (λy=>[aZ 33 1 y.1 (dy l 1).length y.2 (cL .u32 (dy l 1))]):=by apply aF Tryz.func59 Tryz.ntmps59;intro F d;apply J [8,115,69];refine aI (yO b l 1 u) rfl (ev _) (d.imp λ_ h=>ph h) ?_;intro y _;apply J [5,61];exact br y trivial (an (an (aX _)))
theorem UQ(l:List bV)(u:dN l):bH 92 [ae b] (λF=>∃E,cQ F E (cF b) (fh l)) [] (λy:Option Addr×Nat=>.slice y.1 (dy l 2).length y.2) (λ_=>True) (λy=>[aZ 33 1 y.1 (dy l 2).length y.2 (cL .u32 (dy l 2))]):=by apply aF Tryz.func92 Tryz.ntmps92;intro F d;apply J [8,115,69];refine aI (yO b l 2 u) rfl (ev _) (d.imp λ_ h=>ph h) ?_;intro y _;apply J [5,61];exact br y trivial (an (an (aX _)))
theorem RM(l:List bV)(u:dN l):bn 186 [ae b] (λF=>∃E,cQ F E (cF b) (fh l)) [] (aa (dy l 0).length) []:=by apply aF Tryz.func186 Tryz.ntmps186;intro F d;apply J [8,106,69];refine aI (yO b l 0 u) rfl (ev _) (d.imp λ_ h=>ph h) ?_;intro y _;apply J [5,252,26];exact e9 (bU (aX _))
def jA(l:List bV)(h:Int):e7×Int:=match dV l h 2 with
  | some (_,p)=>(p.o,0)
  | none=>cV l h
theorem QL(l:List bV)(h:Int)(w:dN l)(d:0<=h/\h<=4294967295):bn 93 [ae b,aS h] (λF=>∃E,cQ F E (cF b) (fh l)) [] (.tuple #[.agg (ints (jA l h).1.l).toArray,aa (jA l h).2]) []:=by
 apply aF Tryz.func93 Tryz.ntmps93;intro F ⟨E,H⟩;apply J [8];haveI:bi F (cF b) E (fh l):=⟨H⟩;refine J [25,353] ?_;intro cp;apply J [28,34];cases u:dV l h 2 with|none=>?_|some t=>?_
 have aN:jA l h=cV l h:=by grind[jA]
 refine e rfl ?_;apply ew (vT b l h 2 w d u) ⟨_,bi.rd⟩;apply J [5,180];refine Vf rfl (λC=>?_) (λC=>absurd am C);apply J [32];apply ew (zX b l h w d) ⟨_,bi.rd⟩;apply J [5];refine q rfl rfl (pu (v:=.agg (Vz (ints [_,_,_]))) (λ_=>rfl)) ?_;apply J [91,281,123];exact yr;obtain⟨i,p⟩:=t;obtain⟨N,O,P,V⟩:=nw d.1 u;have aN:jA l h=(p.o,0):=by grind[jA]
 refine e rfl ?_;apply ew (vU b l i p h 2 w d.1 u) ⟨_,bi.rd⟩;apply J [5,180];refine Vf rfl (λD=>absurd D am) (λD=>?_);apply J [4,36,376,393];refine q rfl rfl (gH (vs:=ints [_,_,_]) 3 rfl rfl (kB km N 0 3 U U rfl) rfl am) ?_;apply J [281,26];exact yr
end Go.Proofs.Q.au
namespace Go.Proofs.Q.gm
open Go Go.QM
def Ca(t:Int×Int):List Value:=[.int .i64 t.1,.int .i64 t.2]
def te(l:List (Int×Int)):List Value:=l.flatMap Ca
def dt(b:Nat)(p n:Int)(l:List (Int×Int)):ay:=fg λx:Option Addr×Nat=>pure' True (ah [aj b 255 [.int .i64 p,.int .i64 n,.slice x.1 l.length x.2],aZ 253 2 x.1 l.length x.2 (te l)])
theorem pT(p:Int)(u:1<=p)(w:p<=16):bH 127 [aa p] ba [] (λb:Nat=>ae b) (λ_=>True) (λb=>[dt b p 0 []]):=by apply aF Tryz.func127 Tryz.ntmps127;intro F _;refine J [8,124,179,390,141,103] ?_;refine Vf rfl (λd=>absurd d U) (λd=>?_);apply J [4,27,524,0];refine eS (v:=.agg #[_,_,_]) (l:=[.int _ _,.int _ _,.slice _ _ _]) rfl rfl ?_;intro bb;apply J [104];exact br bb trivial ((dI 253 2 _).trans (az ⟨none,0⟩ trivial (bU (an (an (aX _))))))
theorem s0(p:Int)(h:p<1\/16<p):bn 127 [aa p] ba [] (.pointer none) []:=by apply aF Tryz.func127 Tryz.ntmps127;intro F _;apply J [8,124,179];refine aU.split 5 rfl (λd=>?_) (λd=>?_);have d:=dz d;apply J [48,134,273];exact dh;have d:=d7 d;apply J [141,103];refine Vf rfl (λu=>?_) (λu=>absurd U u);apply J [168,74];exact dh
theorem vP(b:Nat)(p n:Int)(l:List (Int×Int))(ad:Option Addr)(cap:Nat)(xs:List Int)(P:1<=p/\p<=16)(ao:0<=n/\n<=1000000000)(O:l.length<=1000000)(V:xs.length<=1000000):bn 373 [ae b,.slice ad xs.length cap] (λF=>∃E,cQ F E ad (ints xs)) [dt b p n l] (aa ((l.length+xs.length:Nat):Int)) [dt b p n (l++xs.map (λx=>(x,n+p)))]:=by
 apply aF Tryz.func373 Tryz.ntmps373;intro F ⟨E,H⟩;apply J [1];haveI:bi F ad E (ints xs):=⟨H⟩;apply ab.open 0 rfl;rintro⟨C,D⟩-;apply J [11,35,101,121,33,177];refine VP (ι:=Nat×Option Addr×Nat) (λi=>i.1<=xs.length) (λi=>[(0,ae b),(9,.slice ad xs.length cap),(10,aa xs.length),(11,aa i.1)]) (λi=>ah [aj b 255 [aa p,aa n,.slice i.2.1 (l.length+i.1) i.2.2],aZ 253 2 i.2.1 (l.length+i.1) i.2.2 (te (l++(xs.take i.1).map (λx=>(x,n+p)))),F]) (λi=>xs.length-i.1) ⟨0,C,D⟩ (Vj _) bI (an (b6 0 rfl cE (an (aX _)))) ?_;rintro⟨k,d,u⟩ hinv W;dsimp only[cy]at hinv⊢;apply J [42];apply Vf rfl<;>intro w;have w:k<xs.length:=U
 obtain⟨x,qH⟩:∃x,xs[k]? =some x:=⟨xs[k],Vc w⟩;have N:0<(ints xs).length:=by grind[dP]
 refine J [188,509,28] ?_;refine ab.draw _ [20] [0,1,2,3,4,5,6,7,8,9,10,11,12,13,14,15,-16,-17,18,19,-20] aV aV (an (aX _)) ?_;refine J [78,185,16,133,49,374,442,17,294] ?_;intro bD;refine J [47] ?_;refine ap 16 rfl rfl rfl rfl rfl (Vp rfl) rfl rfl U gr ?_;intro d u;refine J [10,88,364,90,368,293,324] ?_;exact⟨rfl,⟨k+1,d,u⟩,cK,cK,bI,(an (b6 0 rfl (by simp[te,Ca,Vt,qH,Nat.add_assoc]) (bU (aX _))))⟩;obtain rfl:k=xs.length:=by omega
 apply J [75,100];refine q rfl rfl (len 253 2 rfl rfl) ?_;apply J [26];exact e9 (az ⟨d,u⟩ trivial (b6 0 rfl cE (b6 0 rfl cE (an (aX _)))))
theorem Mg(d:Option Addr):bH 284 [.pointer d] ba [] (λc:Nat=>.func (.func 338) #[] #[ae c]) (λ_=>True) (λc=>[aj c 133 [.pointer d]]):=by apply aF Tryz.func284 Tryz.ntmps284;intro F _;apply J [186];refine eS (v:=.pointer _) (l:=[.pointer _]) rfl rfl ?_;intro cp;apply J [95,226,411,95,224];exact br cp trivial (an (an (aX _)))
def lQ(n:Int)(l:List (Int×Int)):List (Int×Int):=l.takeWhile λt=>t.2<=n
def m4(n:Int)(l:List (Int×Int)):List (Int×Int):=l.dropWhile λt=>t.2<=n
theorem Mf(c b:Nat)(p n:Int)(l:List (Int×Int))(ao:l.length<=100000000):pc VU 338 [ae c] (λx:Int=>[aa x]) (λH _=>H.length<l.length) [aj c 133 [ae b],dt b p n l] (λ_:Unit=>(lQ n l).map (·.1)) (λ_=>True) (λ_=>[aj c 133 [ae b],dt b p n (m4 n l)]):=by
 refine pc.intro aV Tryz.func338 rfl Tryz.ntmps338 kk rfl ?_;intro V bL O;refine J [11,433] ?_;rintro⟨E,N⟩-;apply J [83,72];refine VP (ι:=List (Int×Int)×List (Int×Int)×Option Addr×Nat) (λi=>l=i.1++i.2.1/\(∀t∈i.1,t.2<=n)) (λi=>[(0,.func (.yield V) #[] #[]),(1,ae c)]) (λi=>ah [bL (i.1.map (·.1)),aj c 133 [ae b],aj b 255 [aa p,aa n,.slice i.2.2.1 i.2.1.length i.2.2.2],aZ 253 2 i.2.2.1 i.2.1.length i.2.2.2 (te i.2.1)]) (λi=>i.2.1.length) ⟨[],l,E,N⟩ ⟨rfl,by simp⟩ bI (bv (bv (an (an (aX _))))) ?_;rintro⟨d,rs,ad,cap⟩ ⟨D,C⟩ ar;dsimp only[cy]at D C⊢;cases rs with|nil=>?_|cons t rs=>?_
 apply J [7,7,594,92,88,135];refine bY rfl rfl rfl (len 253 2 rfl rfl) ?_;apply J [437,154];refine ca.known 10 rfl (b':=false) (dn cE) ?_;apply J [187,187,187,241,73,23,344];exact⟨rfl,(),trivial,(by(have u:lQ n l=d:=by grind[lQ,Is]);(have w:m4 n l=[]:=by grind[m4,D0]);rw[u,w];exact(an (an (az ⟨ad,cap⟩ trivial (an (an (aX _)))))))⟩;have aq:d.length+rs.length+1=l.length:=cm
 have ag:0<(te (t::rs)).length:=by grind[te,Ca]
 simp only[List.length_cons];apply J [7,7,594,92,88,135];refine bY rfl rfl rfl (len 253 2 rfl rfl) ?_;apply J [437,154];refine ca.known 10 rfl (b':=true) (c7 U) ?_;apply J [163,299,372,163];refine eH rfl rfl rfl rfl (kI 253 2 rfl rfl rfl U U eA) ?_;refine eH rfl rfl rfl rfl (oL 1 rfl rfl eA) ?_;refine eH rfl rfl rfl rfl (dB rfl rfl rfl) ?_;apply J [163,299,469,163];refine eH rfl rfl rfl rfl (leq rfl rfl) ?_;apply J [342,73];apply Vf rfl<;>intro hle;apply J [4,72,24,84,80,55];refine q rfl rfl (kI 253 2 rfl rfl rfl U U eA) ?_;refine q rfl rfl (oL 0 rfl rfl eA) ?_;refine J [525,31,578,92,92,88,135] ?_;refine bY rfl rfl rfl (HF 253 2 rfl rfl rfl U U) ?_;apply J [88,364,90,368,73,114,29];refine yp 1 (O (d.map (·.1)) t.1 _ rQ) rfl rfl rfl ?_;rintro Z W ⟨rfl,rfl⟩;apply J [14,89,108,20];exact⟨rfl,⟨d++[t],rs,_,_⟩,⟨by simp[D],by intro s P;rcases Ve.1 P with h|h;exact C s h;rw[List.mem_singleton.1 h];exact hle⟩,cE,bI,(b6 0 rfl cE (bU (an (eI 0 rfl (BT (j:=1) U) (aX _)))))⟩;apply J [344];exact⟨rfl,(),trivial,(by have u:lQ n l=d:=(by grind[lQ,It,List.takeWhile_cons_of_neg]);have w:m4 n l=t::rs:=(by grind[m4,D1,List.dropWhile_cons_of_neg]);rw[u,w];exact(an (an (az ⟨ad,cap⟩ trivial (an (an (aX _)))))))⟩
def Fj(c:Nat)(xs:List Int):ay:=fg λx:Option Addr×Nat=>pure' True (ah [aj c 90 [.slice x.1 xs.length x.2],aZ 3 1 x.1 xs.length x.2 (ints xs)])
theorem Cc(b:Nat)(p n:Int)(l:List (Int×Int))(ao:0<=n/\n<=1000000000)(E:l.length<=100000000):bH 220 [ae b] ba [dt b p n l] (λy:Option Addr×Nat=>.slice y.1 ((lQ (n+1) l).map (·.1)).length y.2) (λ_=>True) (λy=>[dt b p (n+1) (m4 (n+1) l),aZ 3 1 y.1 ((lQ (n+1) l).map (·.1)).length y.2 (ints ((lQ (n+1) l).map (·.1)))]):=by refine eF.E0 (rs:=[.tmp 2]) aV Tryz.func220 rfl Tryz.ntmps220 kk rfl ?_;intro F _;refine J [321] ?_;rintro⟨ad,cap⟩-;apply J [11,115,25];refine gx (l:=[.slice _ _ _]) rfl rfl ?_;intro w;refine J [30,41,65,146,268,202,30,69] ?_;refine aI (Mg _) rfl (ev _) trivial ?_;intro c2 _;apply J [9,142];refine WD (B:=ah [aj c2 133 [ae b],dt b p (n+1) l,Fj w [],F]) ((dI 3 1 _).trans (bU (az ⟨ad,cap⟩ trivial (bU (bv (az ⟨none,0⟩ trivial (bU (an (an (aX _)))))))))) ?_;refine ab.BB (λC=>[Fj w C]) (Mf c2 b p (n+1) l E) rfl (d6 0 rfl (d6 0 rfl (ev _))) (d6 0 rfl (ev _)) (λ_=>rfl) rfl ?_ ?_;rintro ag C x H W;apply J [1,155,28];refine⟨rfl,(VW _),λN=>?_⟩;refine J [321] ?_;rintro⟨O,V⟩-;refine J [11,72,155,84,68] ?_;intro P;refine J [0,595] ?_;intro d u;apply J [269];refine aU.nil (jb ?_);refine⟨rfl,rfl,?_⟩;change aG (ah [_,_,_,_]) (ah [_,_]);exact(az ⟨d,u⟩ trivial (b6 0 rfl (by simp[dM,Value.cells]) (b6 0 rfl (by simp[ints]) (bU (aX _)))));intro D y Z;refine(jb (hW ?_));refine J [82,433] ?_;rintro⟨d,u⟩-;apply J [157,24,84,61];exact .inl ⟨⟨d,u⟩,[_],D,rfl,rfl,⟨rfl,trivial⟩,rfl,trivial,(eQ (c0 (bU (bv (aX _)))))⟩
end Go.Proofs.Q.gm
namespace Go.Proofs.Q
open Go Go.QM
def bj(c:Nat):Nat:=[0,64,128,256,32,32,48,256,1024].getD c 0
def c8(S:cN)(c a:Nat):Prop:=(c∈cls/\e8 (cc c) (S.C c) a)\/(c=8/\∃p∈S.Fr,a=p*1024)
variable{c:Nat}
theorem qK(h:c∈cls):bj c=cc c:=by rcases tU h with rfl|rfl|rfl|rfl|rfl|rfl|rfl<;>rfl
variable{top:Nat}{S:cN}
theorem zR(u:dd top S){p:Nat}(h:p∈S.Fr):p∉cls.flatMap (hG S.C):=λd=>(VI.1 u.bq).2.2 p d p h rfl
variable{a:Nat}
theorem c8.bd(u:dd top S)(h:c8 S c a):a %16=0/\a+bj c<=1024*2^top/\32<=bj c/\bj c<=1024:=by rcases h with⟨d,h⟩|⟨rfl,p,w,rfl⟩;have:=e8.bd u d h;rw[qK d];refine⟨this.1,this.2.2,?_⟩;rcases tU d with rfl|rfl|rfl|rfl|rfl|rfl|rfl<;>decide;have:=u.lt p (Ve.2 (.inr w));have e:bj 8=1024:=rfl;omega
theorem c8.apart(u:dd top S){d b:Nat}(h:c8 S c a)(k:c8 S d b)(D:c≠d\/a≠b):a+bj c<=b\/b+bj d<=a:=by have e:bj 8=1024:=rfl;rcases h with⟨w,h⟩|⟨rfl,p,E,rfl⟩<;>rcases k with⟨C,k⟩|⟨rfl,q,H,rfl⟩;rw[qK w,qK C];exact e8.apart u w C h k D;have:=e8.frame u w h (zR u H);rw[qK w];omega;have:=e8.frame u C k (zR u E);rw[qK C];omega;omega
structure gf(top:Nat)(S a8:cN)(Y X:Nat->Nat->Prop):Prop where
  P:dd top a8
  p:∀c a,c8 S c a->¬Y c a->c8 a8 c a
  m:∀c a,c8 S c a->¬X c a->∀o,a<=o->o<a+bj c->a8.m o=S.m o
  qc:∀c a,Y c a->X c a
theorem gf.trans{T V:cN}{Y X u d:Nat->Nat->Prop}(g:gf top S T Y X)(k:gf top T V u d):gf top S V (λc a=>Y c a\/u c a) (λc a=>X c a\/d c a):=
 ⟨k.P,λc a h ao=>k.p c a (g.p c a h λh=>ao (.inl h)) λh=>ao (.inr h),λc a h ao o w C=>(k.m c a (g.p c a h λh=>ao (.inl (g.qc c a h))) (λh=>ao (.inr h)) o w C).trans (g.m c a h (λh=>ao (.inl h)) o w C),
  λc a h=>h.imp (g.qc c a) (k.qc c a)⟩
variable{a8:cN}
theorem gf.w{Y X:Nat->Nat->Prop}(g:gf top S a8 Y X){o:Nat}(h:c8 S c a)(d:¬X c a)(u:a<=o)(C:o+8<=a+bj c):cW a8.m o=cW S.m o:=
 uA λi D E=>g.m c a h d i U U
def hV:Nat->Nat->Prop:=λ_ _=>False
def fz(c a:Nat):Nat->Nat->Prop:=λd b=>d=c/\b=a
theorem dd.mem(h:dd top S)(d:a8.C=S.C)(u:a8.Fr=S.Fr):dd top a8:=by obtain⟨Q,N,C,Fr,m⟩:=S;obtain⟨E,O,w,D,H⟩:=a8;dsimp only at d u;subst d;subst u;exact⟨h.gd,h.ok,h.bq,h.lt⟩
theorem oM(u:dd top S)(h:c8 S c a)(D:a8.C=S.C)(E:a8.Fr=S.Fr)(hm:∀o,o<a\/a+bj c<=o->a8.m o=S.m o):gf top S a8 hV (fz c a):=by refine⟨u.mem D E,λd b k _=>?_,λd b k ao o H N=>hm o ?_,λ_ _ h=>h.elim⟩;grind[c8];have:=c8.apart u h k (by by_cases e:c=d;exact .inr λw=>ao ⟨e.symm,w.symm⟩;exact .inl e);omega
theorem wF(D:dd top S)(u:a8.C=S.C)(w:a8.Fr=S.Fr)(hm:a8.m=S.m):gf top S a8 hV hV:=
 ⟨D.mem u w,λd b k _=>by rw[c8,u,w];exact k,λd b k _ o _ _=>by rw[hm],λ_ _ h=>h⟩
theorem iV.inv2{y:Nat×Nat×List cg}(g:iV top S c y)(d:a8.C=dK S.C c y.2.2)(u:a8.Fr=S.Fr):dd top a8:=by obtain⟨E,N,w,D,H⟩:=a8;dsimp only at d u;subst d;subst u;exact g.inv _ _ _
theorem jV.inv2{aD i:Nat}{L':List cg}(g:jV top S c aD i L')(d:a8.C=dK S.C c L')(u:a8.Fr=S.Fr):dd top a8:=by obtain⟨E,N,w,D,H⟩:=a8;dsimp only at d u;subst d;subst u;exact g.inv _ _ _
theorem iV.uK{y:Nat×Nat×List cg}(u:dd top S)(w:c∈cls)(g:iV top S c y){d b:Nat}(h:c8 S d b):¬fz c (addr c y) d b:=by rintro⟨rfl,rfl⟩;rcases h with⟨_,h⟩|⟨rfl,_⟩;exact g.fresh u w h;trivial
theorem wE{y:Nat×Nat×List cg}(O:dd top S)(u:c∈cls)(g:iV top S c y)(w:a8.C=dK S.C c y.2.2)(D:a8.Fr=S.Fr)(hm:∀o,o<addr c y\/addr c y+cc c<=o->a8.m o=S.m o):gf top S a8 hV hV/\c8 a8 c (addr c y):=by have E:=g.inv2 w D;have H:∀d b,c8 S d b->c8 a8 d b:=λd b k=>(by rcases k with⟨P,k⟩|⟨rfl,p,V,rfl⟩;exact .inl ⟨P,by rw[w];exact(g.jQ u).2 (.inl k)⟩;exact .inr ⟨rfl,p,by rw[D];exact V,rfl⟩);have ao:c8 a8 c (addr c y):=.inl ⟨u,by rw[w];exact(g.jQ u).2 (.inr ⟨rfl,rfl⟩)⟩;refine⟨⟨E,λd b k _=>H d b k,λd b k _ o W Z=>hm o ?_,λ_ _ h=>h⟩,ao⟩;have:=c8.apart E (H d b k) ao (by have:=g.uK O u k;by_cases e:d=c;exact .inr λN=>this ⟨e,N⟩;exact .inl e);grind[qK]
theorem wD{aD i:Nat}{L':List cg}(E:dd top S)(N:c∈cls)(g:jV top S c aD i L')(H:a=aD*1024+64+i*cc c)(u:a8.C=dK S.C c L')(w:a8.Fr=S.Fr)(hm:a8.m=S.m):gf top S a8 (fz c a) (fz c a):=by refine⟨g.inv2 u w,λd b k ao=>?_,λd b k _ o _ _=>by rw[hm],λ_ _ h=>h⟩;rcases k with⟨O,k⟩|⟨rfl,p,P,rfl⟩;refine .inl ⟨O,?_⟩;rw[u];refine g.jQ E N k ?_;by_cases e:d=c;exact .inr λD=>ao ⟨e,by rw[H];exact D⟩;omega;exact .inr ⟨rfl,p,by rw[w];exact P,rfl⟩
theorem Nq{p:Nat}(Z:dd top S)(u:dd top a8)(O:a8.C=S.C)(P:a8.Fr=p::S.Fr)(hm:∀o,o<p*1024\/p*1024+1024<=o->a8.m o=S.m o):gf top S a8 hV hV/\c8 a8 8 (p*1024)/\¬c8 S 8 (p*1024):=by
 have w:∀d b,c8 S d b->c8 a8 d b:=λd b k=>(by rcases k with⟨V,k⟩|⟨rfl,q,E,rfl⟩;exact .inl ⟨V,by rw[O];exact k⟩;exact .inr ⟨rfl,q,by rw[P];exact List.mem_cons_of_mem _ E,rfl⟩);have ao:c8 a8 8 (p*1024):=by grind[c8]
 have D:¬c8 S 8 (p*1024):=(by rintro(⟨h,_⟩|⟨_,q,E,e⟩);trivial;(obtain rfl:p=q:=by omega);have N:a8.Fr.Nodup:=(VI.1 u.bq).2.1;simp_all);refine⟨⟨u,λd b k _=>w d b k,λd b k _ o N W=>hm o ?_,λ_ _ h=>h⟩,ao,D⟩;have:=c8.apart u (w d b k) ao (by by_cases e:d=8;subst e;exact .inr λH=>D (H▸k);exact .inl e);have e:bj 8=1024:=rfl;omega
theorem dd.IA(h:dd top S){p:Nat}(u:a8.C=S.C)(w:a8.Fr=S.Fr.erase p):dd top a8:=by
 obtain⟨Q,P,C,Fr,m⟩:=S;obtain⟨N,V,d,H,O⟩:=a8;dsimp only at u w;subst u;subst w;have D:(dk d (Fr.erase p)).Sublist (dk d Fr):=by grind[dk,List.erase_sublist]
 exact⟨h.gd,h.ok,h.bq.sublist D,λq E=>h.lt q (D.subset E)⟩
theorem Ns{p:Nat}(D:dd top S)(u:a8.C=S.C)(w:a8.Fr=S.Fr.erase p)(hm:a8.m=S.m):gf top S a8 (fz 8 (p*1024)) (fz 8 (p*1024)):=by refine⟨D.IA u w,λd b k ao=>?_,λd b k _ o _ _=>by rw[hm],λ_ _ h=>h⟩;rcases k with⟨E,k⟩|⟨rfl,q,H,rfl⟩;exact .inl ⟨E,by rw[u];exact k⟩;exact .inr ⟨rfl,q,by rw[w];exact(List.mem_erase_of_ne λe=>ao ⟨rfl,by rw[e]⟩).2 H,rfl⟩
theorem gh.mY{t:Nat}{Y X:Nat->Nat->Prop}(h:gh top S t)(g:gf top S a8 Y X)(N:¬X 2 t)(O:∀j,j<16->bo S.m t j≠0->¬X 7 (bo S.m t j)):
 gh top a8 t/\(∀j,j<16->bo a8.m t j=bo S.m t j)/\∀s,s<256->eb a8.m t s=eb S.m t s/\dU a8.m t s=dU S.m t s:=by have bD:c8 S 2 t:=.inl ⟨c2,h.tk⟩;have H:∀j,j<16->bo S.m t j≠0->c8 S 7 (bo S.m t j):=λj u d=>.inl ⟨fI,h.fE j u d⟩;have un:∀{c a},c∈cls->c8 a8 c a->e8 (cc c) (a8.C c) a:=λ{c a} V k=>(by rcases k with⟨_,k⟩|⟨rfl,_⟩;all_goals trivial);refine h.nu (un c2 (g.p 2 t bD λk=>N (g.qc _ _ k))) (λj u d=>un fI (g.p 7 _ (H j u d) λk=>O j u d (g.qc _ _ k))) λo P=>?_;rcases P with⟨D,E⟩|⟨j,u,d,D,E⟩;exact g.w bD N D E;exact g.w (H j u d) (O j u d) D E
def fT:Nat->(Nat->Nat)->Nat
  | 0,_=>0
  | n+1,f=>fT n f+f n
theorem nH{f g:Nat->Nat}:∀{n:Nat},(∀i,i<n->f i=g i)->fT n f=fT n g
 | 0,_=>rfl
 | n+1,h=>by rw[fT,fT,nH (n:=n) λi d=>h i U,h n U]
theorem p2{f g:Nat->Nat}{k:Nat}:∀{n:Nat},k<n->(∀i,i<n->i≠k->g i=f i)->fT n g+f k=fT n f+g k
 | n+1,C,h=>by rw[fT,fT];by_cases e:k=n;subst e;rw[nH (n:=k) λi u=>h i U U];omega;have:=p2 (n:=n) U λi u w=>h i U w;rw[h n U λd=>e d.symm];omega
theorem nI{f:Nat->Nat}:∀{n:Nat},(∀i,i<n->f i=0)->fT n f=0
 | 0,_=>rfl
 | n+1,h=>by rw[fT,nI (n:=n) λi d=>h i U,h n U]
theorem vc{f:Nat->Nat}{k:Nat}:∀{n:Nat},k<n->f k<=fT n f
 | n+1,d=>by rw[fT];by_cases e:k=n;subst e;omega;have:=vc (f:=f) (n:=n) (k:=k) U;omega
def bb(x:Nat):Nat:=if x=0 then 0 else 1
def oJ(aL:Nat->Nat->Nat):Nat:=fT 256 λi=>fT 256 λs=>bb (aL i s)
theorem zo{aL nh:Nat->Nat->Nat}{i s:Nat}(u:i<256)(hs:s<256)(h:∀j r,(j≠i\/r≠s)->nh j r=aL j r):oJ nh+bb (aL i s)=oJ aL+bb (nh i s):=by
 have w:oJ nh+fT 256 (λs=>bb (aL i s))=oJ aL+fT 256 (λs=>bb (nh i s)):=
  p2 (f:=λi=>fT 256 λs=>bb (aL i s)) (g:=λi=>fT 256 λs=>bb (nh i s)) u λj _ d=>nH λr _=>by rw[h j r (.inl d)]
 have C:fT 256 (λs=>bb (nh i s))+bb (aL i s)=fT 256 (λs=>bb (aL i s))+bb (nh i s):=
  p2 (f:=λs=>bb (aL i s)) (g:=λs=>bb (nh i s)) hs λr _ d=>by rw[h i r (.inr d)]
 omega
end Go.Proofs.Q
namespace Go.Proofs.Q
open Go Go.QM
structure bR where
  l:List au.bV
  Q:List aw.bS
  bt:Int
  aL:Nat->Nat->Nat
  own:Nat->Nat
  a6:Nat->Nat->Nat
  pd:Int
  now:Int
  q:List (Int×Int)
  np:Nat
def bz(k:Int)(a:Nat)(f:Int):au.e7:=⟨k,a,f⟩
def cB(l:List au.bV)(i:Nat)(s:Int)(o:au.e7):Prop:=∃g,l[i]? =some ⟨o,s,g⟩
def fl(s:Int):Prop:=s=1\/s=2
theorem cB.inj{l:List au.bV}{i:Nat}{s r:Int}{o d:au.e7}(h:cB l i s o)(k:cB l i r d):s=r/\o=d:=by obtain⟨g,h⟩:=h;obtain⟨u,k⟩:=k;simp_all
variable{k:Nat}
theorem cB.set{l:List au.bV}{i:Nat}{p:au.bV}{s:Int}{o:au.e7}(h:cB (l.set k p) i s o):(i≠k/\cB l i s o)\/(i=k/\p.st=s/\p.o=o):=by obtain⟨g,h⟩:=h;by_cases e:k=i;grind;rw[Wm e]at h;exact .inl ⟨λd=>e d.symm,g,h⟩
theorem cB.put{l:List au.bV}{i:Nat}(p:au.bV){s:Int}{o:au.e7}(h:cB l i s o)(d:i≠k):cB (l.set k p) i s o:=by obtain⟨g,h⟩:=h;exact⟨g,by rw[Wm λe=>d e.symm];exact h⟩
theorem jz{c d:Int}{a b:Nat}{f g:Int}(h:bz c a f=bz d b g):c=d/\a=b/\f=g:=by have u:=congrArg au.e7.k h;have w:=congrArg au.e7.a h;have C:=congrArg au.e7.f h;grind[bz]
structure cd(top:Nat)(A:bR)(S:cN):Prop where
  P:dd top S
  Q:S.Q=A.Q/\S.bt=A.bt
  obj:∀i s o,fl s->cB A.l i s o->∃(c a:Nat) (f:Int),o=bz c a f/\(1<=c/\c<=5\/c=8)/\c8 S c a
  un:∀i j s r (c a:Nat) (f g:Int),fl s->fl r->cB A.l i s (bz c a f)->cB A.l j r (bz c a g)->i=j
  hL:∀i a f,cB A.l i 1 (bz 2 a f)->gh top S a/\∀s,s<256->eb S.m a s=A.aL i s/\(A.aL i s≠0->c8 S 6 (dU S.m a s))
  nA:∀i j a b f g s r,cB A.l i 1 (bz 2 a f)->cB A.l j 1 (bz 2 b g)->s<256->r<256->A.aL i s≠0->A.aL j r≠0->dU S.m a s=dU S.m b r->i=j/\s=r
  q9:∀i j a b f g u v,cB A.l i 1 (bz 2 a f)->cB A.l j 1 (bz 2 b g)->u<16->v<16->bo S.m a u≠0->bo S.m a u=bo S.m b v->i=j
  rS:gQ (960/cc 6) (S.C 6)=oJ A.aL
  mC:∀i s a f,fl s->cB A.l i s (bz 1 a f)->cW S.m a=A.own i
  a6:∀i (c a:Nat) f,cB A.l i 2 (bz c a f)->∀o,o<bj c->S.m (a+o)=A.a6 i o
  gb:(dk S.C S.Fr).length<=A.np
variable{top:Nat}{A:bR}{S:cN}
theorem cd.leaf(h:cd top A S){i a:Nat}{f:Int}(u:cB A.l i 1 (bz 2 a f)){j:Nat}(w:j<16)(d:bo S.m a j≠0):c8 S 7 (bo S.m a j):=.inl ⟨fI,(h.hL i a f u).1.fE j w d⟩
variable{bl:bR}
theorem cd.mY{a8:cN}{Y X:Nat->Nat->Prop}(h:cd top A S)(g:gf top S a8 Y X)(el:bl.l=A.l)(ag:bl.aL=A.aL)(aW:bl.own=A.own)(a0:bl.a6=A.a6)(a2:a8.Q=bl.Q/\a8.bt=bl.bt)
 (W:∀i s (c a:Nat) f,fl s->cB A.l i s (bz c a f)->¬Y c a/\(X c a->s=1/\c≠1/\c≠2)) (au:∀a,¬X 6 a/\¬X 7 a) (ao:gQ (960/cc 6) (a8.C 6)=gQ (960/cc 6) (S.C 6)) (a4:(dk a8.C a8.Fr).length<=bl.np):cd top bl a8:=by
 have N:∀i a f,cB A.l i 1 (bz 2 a f)->_:=λi a f d=>(h.hL i a f d).1.mY g (λk=>((W i 1 2 a f (.inl rfl) d).2 k).2.2 rfl) λj _ _=>(au _).2;refine⟨g.P,a2,λi s o hs d=>?_,?_,λi a f d=>?_,λi j a b f D s r d E hs aw aq ar e=>?_,λi j a b f D u v d E hu hv V e=>?_,by rw[ao,h.rS,ag],λi s a f hs d=>?_,λi c a f d o a5=>?_,a4⟩;rw[el]at d;obtain⟨c,a,f,rfl,a3,H⟩:=h.obj i s o hs d;exact⟨c,a,f,rfl,a3,g.p c a H (W i s c a f hs d).1⟩;rw[el];exact h.un;rw[el]at d;obtain⟨bN,a7,ay⟩:=N i a f d;obtain⟨_,aA⟩:=h.hL i a f d;refine⟨bN,λs hs=>?_⟩;rw[(ay s hs).1,(ay s hs).2,ag];exact⟨(aA s hs).1,λV=>g.p 6 _ ((aA s hs).2 V) λk=>(au _).1 (g.qc _ _ k)⟩;rw[el]at d E;rw[ag]at aq ar;rw[((N i a f d).2.2 s hs).2,((N j b D E).2.2 r aw).2]at e;exact h.nA i j a b f D s r d E hs aw aq ar e;rw[el]at d E;rw[(N i a f d).2.1 u hu]at V e;rw[(N j b D E).2.1 v hv]at e;exact h.q9 i j a b f D u v d E hu hv V e;rw[el]at d;rw[aW];obtain⟨c,aF,D,e,_,H⟩:=h.obj i s _ hs d;obtain⟨aP,rfl,rfl⟩:=jz e;have Z:c=1:=U
 subst Z;rw[g.w H (λk=>((W i s 1 a f hs d).2 k).2.1 rfl) (Vi a) (by have:bj 1=64:=rfl;omega)];exact h.mC i s a f hs d;rw[el]at d;rw[a0];obtain⟨O,aF,D,e,_,H⟩:=h.obj i 2 _ (.inr rfl) d;obtain⟨aP,rfl,rfl⟩:=jz e;have Z:O=c:=U
 subst Z;rw[g.m O a H (λk=>absurd ((W i 2 O a f (.inr rfl) d).2 k).1 am) _ U U];exact h.a6 i O a f d o a5
theorem cd.free(h:cd top A S){p:au.bV}(O:¬fl p.st)(el:bl.l=A.l.set k p)(D:bl.aL=A.aL)(H:bl.own=A.own)(N:bl.a6=A.a6)(eq:bl.Q=A.Q/\bl.bt=A.bt/\bl.np=A.np):cd top bl S:=by
 have back:∀{i s o},fl s->cB bl.l i s o->cB A.l i s o:=λ{i s o} hs d=>(by rw[el]at d;rcases d.set with⟨_,h⟩|⟨_,h,_⟩;all_goals simp_all);have C:fl 1:=.inl rfl
 refine⟨h.P,by rw[eq.1,eq.2.1];exact h.Q,λi s o hs d=>h.obj i s o hs (back hs d),λi j s r c a f g hs E d w=>h.un i j s r c a f g hs E (back hs d) (back E w),λi a f d=>by rw[D];exact h.hL i a f (back C d),
  λi j a b f g s r d w=>by rw[D];exact h.nA i j a b f g s r (back C d) (back C w),λi j a b f g u v d w=>h.q9 i j a b f g u v (back C d) (back C w),by rw[D];exact h.rS,λi s a f hs d=>by rw[H];exact h.mC i s a f hs (back hs d),λi c a f d=>by rw[N];exact h.a6 i c a f (back (.inr rfl) d),by rw[eq.2.2];exact h.gb⟩
theorem cd.tZ(h:cd top A S){o:au.e7}{g:Int}(aW:cB A.l k 1 o)(el:bl.l=A.l.set k ⟨o,2,g⟩)(N:bl.aL=A.aL)(W:bl.own=A.own)(Z:bl.a6=λi=>if i=k then λx=>S.m (o.a.toNat+x)else A.a6 i)(eq:bl.Q=A.Q/\bl.bt=A.bt/\bl.np=A.np):cd top bl S:=by
 have back:∀{i s w},cB bl.l i s w->(i≠k/\cB A.l i s w)\/(i=k/\s=2/\w=o/\cB A.l i 1 w):=λ{i s w} d=>(by rw[el]at d;rcases d.set with h|⟨rfl,V,aP⟩;all_goals simp_all);have H:∀{i s w},fl s->cB bl.l i s w->∃r,fl r/\cB A.l i r w:=λ{i s w} hs d=>(by rcases back d with⟨_,h⟩|⟨_,_,_,h⟩;grind;exact⟨1,.inl rfl,h⟩);have C:∀{i w},cB bl.l i 1 w->cB A.l i 1 w:=λ{i w} d=>cm
 refine⟨h.P,by rw[eq.1,eq.2.1];exact h.Q,λi s o hs d=>?_,λi j s r c a f g hs E d D=>?_,λi a f d=>by rw[N];exact h.hL i a f (C d),
  λi j a b f g s r d D=>by rw[N];exact h.nA i j a b f g s r (C d) (C D),λi j a b f g u v d D=>h.q9 i j a b f g u v (C d) (C D),by rw[N];exact h.rS,λi s a f hs d=>?_,λi c a f d w ar=>?_,by rw[eq.2.2];exact h.gb⟩
 obtain⟨r,E,O⟩:=H hs d;exact h.obj i r o E O;obtain⟨aF,ay,ag⟩:=H hs d;obtain⟨aA,aw,ao⟩:=H E D;exact h.un i j aF aA c a f g ay aw ag ao;rw[W];obtain⟨r,E,O⟩:=H hs d;exact h.mC i r a f E O;rw[Z];dsimp only;rcases back d with⟨aq,V⟩|⟨rfl,_,rfl,_⟩;rw[al aq];exact h.a6 i c a f V w ar;rw[ax rfl];rfl
theorem cd.put(h:cd top A S){c a:Nat}{f g:Int}(a7:∀s o,cB A.l k s o->¬fl s)(a4:1<=c/\c<=5\/c=8)(aP:c8 S c a)(a5:∀i s (g:Int),fl s->¬cB A.l i s (bz c a g))(el:bl.l=A.l.set k ⟨bz c a f,1,g⟩)(aq:bl.aL=A.aL)(aA:∀i,i≠k->bl.own i=A.own i)(a3:c=1->cW S.m a=bl.own k)(aF:bl.a6=A.a6)(eq:bl.Q=A.Q/\bl.bt=A.bt/\bl.np=A.np)
 (au:c=2->(∀o,a<=o->o+8<=a+128->cW S.m o=0)/\∀s,A.aL k s=0):cd top bl S:=by
 have back:∀{i s O},cB bl.l i s O->(i≠k/\cB A.l i s O)\/(i=k/\s=1/\O=bz c a f):=λ{i s O} w=>(by rw[el]at w;rcases w.set with h|⟨rfl,N,ag⟩;all_goals simp_all);have z0:∀{d},bz 2 d f=bz c a f->c=2/\d=a:=λ{d} e=>(by grind[jz]);refine⟨h.P,by rw[eq.1,eq.2.1];exact h.Q,λi s o hs w=>?_,λi j s r ao d E V hs ar w D=>?_,λi d E w=>?_,λi j d b E V s r w D hs ar=>?_,λi j d b E V u v w D hu hv H e=>?_,by rw[aq];exact h.rS,λi s d E hs w=>?_,λi ao d E w O a0=>?_,by rw[eq.2.2];exact h.gb⟩;rcases back w with⟨_,N⟩|⟨_,_,rfl⟩;exact h.obj i s o hs N;grind;·rcases back w with⟨_,N⟩|⟨rfl,_,e⟩<;>rcases back D with⟨_,ag⟩|⟨rfl,_,Z⟩;exact h.un i j s r ao d E V hs ar N ag;all_goals grind[jz]
 ·rw[aq];rcases back w with⟨_,N⟩|⟨rfl,_,e⟩;exact h.hL i d E N;obtain⟨W,rfl,rfl⟩:=jz e;(obtain rfl:c=2:=by omega);obtain⟨a8,ay⟩:=au rfl;(have H:∀j,j<16->bo S.m d j=0:=by grind[bo]);have a2:e8 128 (S.C 2) d:=(by rcases aP with⟨_,k⟩|⟨k,_⟩;all_goals trivial);exact⟨⟨a2,λj D k=>absurd (H j D) k,λj _ D _ _ k=>absurd (H j D) k,λj D k=>absurd (H j D) k,λj D k=>absurd (H j D) k⟩,λs hs=>⟨by rw[eb,ax (H _ U),ay],λk=>absurd (ay s) k⟩⟩
 ·rw[aq];intro N ag e;rcases back w with⟨_,bN⟩|⟨rfl,_,W⟩<;>rcases back D with⟨_,aw⟩|⟨rfl,_,Z⟩;exact h.nA i j d b E V s r bN aw hs ar N ag e;all_goals grind[jz]
 rcases back w with⟨_,bN⟩|⟨rfl,_,W⟩<;>rcases back D with⟨_,aw⟩|⟨rfl,_,Z⟩;exact h.q9 i j d b E V u v bN aw hu hv H e;obtain⟨W,rfl,_⟩:=jz Z;exact absurd (e.trans ((au U).1 _ U U)) H;obtain⟨Z,rfl,_⟩:=jz W;exact absurd ((au U).1 _ U U) H;trivial;rcases back w with⟨aW,bN⟩|⟨rfl,_,e⟩;rw[aA i aW];exact h.mC i s d E hs bN;grind[jz];rw[aF];rcases back w with⟨_,bN⟩|⟨_,e,_⟩;exact h.a6 i ao d E bN O a0;trivial
theorem cd.B3{a8:cN}{Y X:Nat->Nat->Prop}(h:cd top A S)(g:gf top S a8 Y X){a:Nat}{f:Int}(a2:cB A.l k 1 (bz 2 a f))(el:bl.l=A.l)(bH:bl.own=A.own)(bR:bl.a6=A.a6)(bS:a8.Q=bl.Q/\a8.bt=bl.bt)(aA:∀i,i≠k->bl.aL i=A.aL i)
 (aF:∀c b,X c b->(c=2/\b=a)\/(c=7/\∃j,j<16/\bo S.m a j≠0/\bo S.m a j=b)\/(c=6/\∃s,s<256/\A.aL k s≠0/\dU S.m a s=b)) (b7:∀c b,Y c b->c≠2)
 (b0:gh top a8 a) (a7:∀s,s<256->eb a8.m a s=bl.aL k s/\(bl.aL k s≠0->c8 a8 6 (dU a8.m a s)/\((A.aL k s≠0/\dU a8.m a s=dU S.m a s)\/¬c8 S 6 (dU a8.m a s))))
 (bB:∀s r,s<256->r<256->bl.aL k s≠0->bl.aL k r≠0->dU a8.m a s=dU a8.m a r->s=r) (a9:∀j,j<16->bo a8.m a j≠0->(bo S.m a j≠0/\bo a8.m a j=bo S.m a j)\/¬c8 S 7 (bo a8.m a j)) (ao:gQ (960/cc 6) (a8.C 6)=oJ bl.aL) (bV:(dk a8.C a8.Fr).length<=bl.np):cd top bl a8:=by
 have bd:fl 1:=.inl rfl;have bh:∀{i s} {c b:Nat} {E},i≠k->fl s->cB A.l i s (bz c b E)->(c<=5\/c=8)->¬X c b:=λ{i s c b E} ay hs D a0 aW=>(by rcases aF c b aW with⟨rfl,rfl⟩|⟨rfl,_⟩|⟨rfl,_⟩;exact ay (h.un i k s 1 2 b E f hs bd D a2);all_goals trivial);have ar:∀{i b E},i≠k->cB A.l i 1 (bz 2 b E)->_:=λ{i b E} ay D=>(h.hL i b E D).1.mY g (bh (c:=2) ay bd D U) λj H O aW=>(by rcases aF 7 _ aW with⟨e,_⟩|⟨_,u,hu,Z,ag⟩|⟨e,_⟩;trivial;exact ay (h.q9 k i a b f E u j a2 D hu H Z ag).symm;trivial);have a3:∀{b E},cB A.l k 1 (bz 2 b E)->b=a:=by grind[cB,jz]
 refine⟨g.P,bS,λi s o hs D=>?_,by rw[el];exact h.un,λi b E D=>?_,λi j b d E au s r D H hs aq Z ag e=>?_,λi j b d E au u v D H hu hv O e=>?_,ao,λi s b E hs D=>?_,λi c b E D o bZ=>?_,bV⟩;·rw[el]at D;obtain⟨c,b,E,rfl,a0,aP⟩:=h.obj i s o hs D;refine⟨c,b,E,rfl,a0,?_⟩;refine g.p c b aP λa5=>?_;rcases aF c b (g.qc c b a5)with⟨rfl,rfl⟩|⟨rfl,_⟩|⟨rfl,_⟩;all_goals grind
 rw[el]at D;by_cases e:i=k;grind;obtain⟨bN,ce,ba⟩:=ar e D;obtain⟨_,bc⟩:=h.hL i b E D;refine⟨bN,λs hs=>?_⟩;rw[(ba s hs).1,(ba s hs).2,aA i e];refine⟨(bc s hs).1,λO=>g.p 6 _ ((bc s hs).2 O) λa5=>?_⟩;rcases aF 6 _ (g.qc _ _ a5)with⟨bn,_⟩|⟨bn,_⟩|⟨_,r,aq,Z,ag⟩;trivial;trivial;exact e (h.nA k i a b f E r s a2 D aq hs Z O ag).1.symm;rw[el]at D H;by_cases V:i=k<;>by_cases W:j=k;grind;subst V;obtain rfl:=a3 D;rw[aA j W]at ag;rw[((ar W H).2.2 r aq).2]at e;rcases((a7 s hs).2 Z).2 with⟨N,aw⟩|N;rw[aw]at e;exact absurd (h.nA i j b d E au s r D H hs aq N ag e).1.symm W;rw[e]at N;exact absurd (((h.hL j d au H).2 r aq).2 ag) N;subst W;obtain rfl:=a3 H;rw[aA i V]at Z;rw[((ar V D).2.2 s hs).2]at e;rcases((a7 r aq).2 ag).2 with⟨N,aw⟩|N;rw[aw]at e;exact absurd (h.nA i j b d E au s r D H hs aq Z N e).1 V;rw[<-e]at N;exact absurd (((h.hL i b E D).2 s hs).2 Z) N;rw[aA i V]at Z;rw[aA j W]at ag;rw[((ar V D).2.2 s hs).2,((ar W H).2.2 r aq).2]at e;exact h.nA i j b d E au s r D H hs aq Z ag e;rw[el]at D H;by_cases V:i=k<;>by_cases W:j=k;omega;subst V;obtain rfl:=a3 D;rw[(ar W H).2.1 v hv]at e;rcases a9 u hu O with⟨N,aw⟩|N;rw[aw]at e;exact h.q9 i j b d E au u v D H hu hv N e;rw[e]at N O;exact absurd (h.leaf H hv O) N;subst W;obtain rfl:=a3 H;rw[(ar V D).2.1 u hu]at e O;rcases a9 v hv (e▸O)with⟨N,aw⟩|N;rw[aw]at e;exact h.q9 i j b d E au u v D H hu hv O e;rw[<-e]at N;exact absurd (h.leaf D hu O) N;rw[(ar V D).2.1 u hu]at e O;rw[(ar W H).2.1 v hv]at e;exact h.q9 i j b d E au u v D H hu hv O e;rw[el]at D;rw[bH];obtain⟨c,bi,f9,e,a0,aP⟩:=h.obj i s _ hs D;obtain⟨V,rfl,rfl⟩:=jz e;obtain rfl:c=1:=by omega
 rw[g.w aP (λaW=>by rcases aF 1 b aW with⟨e,_⟩|⟨e,_⟩|⟨e,_⟩<;>omega) (Vi b) (by have:bj 1=64:=rfl;omega)];exact h.mC i s b E hs D;rw[el]at D;rw[bR];obtain⟨a4,bi,f9,e,a0,aP⟩:=h.obj i 2 _ (.inr rfl) D;obtain⟨V,rfl,rfl⟩:=jz e;obtain rfl:a4=c:=U
 have ay:i≠k:=λe=>absurd ((e▸D).inj a2).1 am;rw[g.m a4 b aP (bh ay (.inr rfl) D U) _ U U];exact h.a6 i a4 b E D o bZ
end Go.Proofs.Q
namespace Go.Proofs.Q
open Go Go.QM
def fi(aL:Nat->Nat->Nat)(i s v:Nat):Nat->Nat->Nat:=λj r=>if j=i/\r=s then v else aL j r
theorem ii(aL:Nat->Nat->Nat)(i s v:Nat):fi aL i s v i s=v:=ax ⟨rfl,rfl⟩
variable{i:Nat}
theorem lx{aL:Nat->Nat->Nat}{s v j r:Nat}(h:j≠i\/r≠s):fi aL i s v j r=aL j r:=al λk=>h.elim (λh=>h k.1) λh=>h k.2
theorem kU{aL:Nat->Nat->Nat}{s v r:Nat}(h:r≠s):fi aL i s v i r=aL i r:=lx (.inr h)
theorem IJ{top:Nat}{S:cN}{c:Nat}{y:Nat×Nat×List cg}(u:c∈cls)(g:iV top S c y)(d:Nat):gQ (960/cc d) (dK S.C c y.2.2 d)=gQ (960/cc d) (S.C d)+if d=c then 1 else 0:=by by_cases e:d=c;subst e;rw[ax rfl,jD];exact g.m0.used (by have:=DG u;omega);rw[al e,jh _ _ e,Nat.add_zero]
theorem II{top:Nat}{S:cN}(u:dd top S){c aD:Nat}{L':List cg}(w:c∈cls)(g:jV top S c aD i L')(d:Nat):gQ (960/cc d) (dK S.C c L' d)+(if d=c then 1 else 0)=gQ (960/cc d) (S.C d):=by by_cases e:d=c;subst e;rw[ax rfl,jD];exact g.nm.used (u.ok d w).inv;rw[al e,jh _ _ e,Nat.add_zero]
theorem iq:(6:Nat)∈cls:=by decide
theorem c8.jQ{S:cN}{c a:Nat}(d:c∈cls)(h:c8 S c a):e8 (cc c) (S.C c) a:=by rcases h with⟨_,k⟩|⟨rfl,_⟩;all_goals trivial
theorem kQ{m:Nat->Nat}{o x:Nat}{L:List Nat}(h:x<o\/o+8*L.length<=x):dA m o L x=m x:=by rw[dA,j5,al U]
theorem vv{m:Nat->Nat}{o n x:Nat}(h:x<o\/o+n<=x):hf m o n x=m x:=by rw[hf,al U]
def bR.lay(A:bR)(i s w:Nat)(Q:List aw.bS):bR:={A with Q:=Q,aL:=fi A.aL i s w,np:=A.np+2}
theorem Lr{A:bR}{s w:Nat}(d:i<256)(hs:s<256)(C:A.aL i s=0)(hw:w≠0):oJ (fi A.aL i s w)=oJ A.aL+1:=by
 have:=zo (aL:=A.aL) (nh:=fi A.aL i s w) d hs λj r h=>lx h;have u:bb (fi A.aL i s w i s)=1:=by rw[ii];exact al hw
 grind[bb]
theorem Lq{A:bR}{s:Nat}(u:i<256)(hs:s<256)(d:A.aL i s≠0):oJ (fi A.aL i s 0)+1=oJ A.aL:=by
 have:=zo (aL:=A.aL) (nh:=fi A.aL i s 0) u hs λj r h=>lx h;have w:bb (fi A.aL i s 0 i s)=0:=by grind[bb,ii]
 have eB:bb (A.aL i s)=1:=al d;omega
theorem cB.lt{l:List au.bV}(d:au.dN l){s:Int}{o:au.e7}(h:cB l i s o):i<256:=by obtain⟨g,h⟩:=h;exact d.lt h
section
variable {top : Nat} {A : bR} {S cl dH a8 : cN} {i a s w : Nat} {f : Int}
theorem cd.node(h:cd top A S)(w:cB A.l i 1 (bz 2 a f)){y:Nat×Nat×List cg}(g:iV top S 6 y)(e:cl=kf S f 6 (some y)):
 gf top S cl hV hV/\c8 cl 6 (addr 6 y)/\¬c8 S 6 (addr 6 y)/\gh top cl a/\(∀j,j<16->bo cl.m a j=bo S.m a j)/\∀r,r<256->eb cl.m a r=A.aL i r/\dU cl.m a r=dU S.m a r:=by obtain⟨g1,g2⟩:=wE (a8:=cl) h.P iq g rR rR (λo C=>by rw[e];exact vv C);obtain⟨t1,t2⟩:=h.hL i a f w;obtain⟨bN,D,u⟩:=t1.mY g1 (λh=>h) λ_ _ _ h=>h;exact⟨g1,g2,λk=>g.uK h.P iq k ⟨rfl,rfl⟩,bN,D,λr d=>⟨(u r d).1.trans (t2 r d).1,(u r d).2⟩⟩
theorem cd.lay(a0:au.dN A.l)(h:cd top A S)(N:cB A.l i 1 (bz 2 a f))(hs:s<256)(aq:A.aL i s=0)(hw:w≠0){y:Nat×Nat×List cg}(g:iV top S 6 y)(e:cl=kf S f 6 (some y)){Y X:Nat->Nat->Prop}(g2:gf top cl a8 Y X)(aw:a8.C 6=cl.C 6)
 (W:gh top a8 a) (ar:eb a8.m a s=w) (aQ:dU a8.m a s=addr 6 y) (aA:∀r,r<256->r≠s->eb a8.m a r=eb cl.m a r/\dU a8.m a r=dU cl.m a r) (aW:(dk a8.C a8.Fr).length<=(dk cl.C cl.Fr).length+1)
 (aF:∀c b,X c b->(c=2/\b=a)\/(c=7/\∃j,j<16/\bo S.m a j≠0/\bo S.m a j=b)) (ag:∀c b,¬Y c b) (ay:∀j,j<16->bo a8.m a j≠0->(bo S.m a j≠0/\bo a8.m a j=bo S.m a j)\/¬c8 S 7 (bo a8.m a j)):cd top (A.lay i s w a8.Q) ⟨a8.Q,A.bt,a8.C,a8.Fr,a8.m⟩:=by
 obtain⟨g1,bb,bD,t1,t2,t3⟩:=h.node N g e;have ao:c8 a8 6 (addr 6 y):=by grind[c8]
 have a2:(dk a8.C a8.Fr).length<=A.np+2:=(by have E:=g.len;(have d:cl.C=dK S.C 6 y.2.2/\cl.Fr=S.Fr:=by rw[e];exact⟨rfl,rfl⟩);rw[d.1,d.2]at aW;have:=h.gb;omega);have V:∀r,r<256->r≠s->dU a8.m a r=dU S.m a r:=b2
 refine h.B3 (Y:=Y) (X:=X) ⟨g2.P.mem rfl rfl,λc b k ao=>g2.p c b (g1.p c b k λh=>h) ao,λc b k ao o E d=>(g2.m c b (g1.p c b k λh=>h) ao o E d).trans (g1.m c b k (λh=>h) o E d),g2.qc⟩ N rfl rfl rfl ⟨rfl,rfl⟩ (λj aP=>funext λr=>lx (.inl aP)) (λc b a3=>(aF c b a3).imp_right .inl) (λc b a4=>absurd a4 (ag c b)) ⟨W.tk,W.fE,W.bq,W.ne,W.J⟩ (λr H=>?_) (λr u H hu E d he=>?_) ay ?_ a2;by_cases D:r=s;subst D;dsimp only[bR.lay];rw[ii];exact⟨ar,λ_=>⟨by rw[aQ];exact ao,.inr (by rw[aQ];exact bD)⟩⟩;dsimp only[bR.lay];rw[kU D];refine⟨(aA r H D).1.trans (t3 r H).1,λZ=>?_⟩;rw[V r H D];exact⟨g2.p _ _ (g1.p _ _ (((h.hL i a f N).2 r H).2 Z) λh=>h) (ag _ _),.inl ⟨Z,rfl⟩⟩;dsimp only[bR.lay]at E d he;by_cases O:r=s<;>by_cases D:u=s;omega;subst O;rw[kU D]at d;rw[aQ,V u hu D]at he;exact absurd (((h.hL i a f N).2 u hu).2 d) (by rw[<-he];exact bD);subst D;rw[kU O]at E;rw[aQ,V r H O]at he;exact absurd (((h.hL i a f N).2 r H).2 E) (by rw[he];exact bD);rw[kU O]at E;rw[kU D]at d;rw[V r H O,V u hu D]at he;exact(h.nA i i a a f f r u N N H hu E d he).2;dsimp only[bR.lay];rw[Lr (N.lt a0) hs aq hw,<-h.rS,aw,e];exact IJ iq g 6
theorem cd.AC(W:au.dN A.l)(h:cd top A S)(E:cB A.l i 1 (bz 2 a f))(hs:s<256)(O:A.aL i s=0)(hw:w≠0)(Z:w<2^64){y:Nat×Nat×List cg}(g:iV top S 6 y)(e:cl=kf S f 6 (some y))(hr:bo cl.m a (s/16)≠0)
 (d:a8=⟨cl.Q,cl.bt,cl.C,cl.Fr,dA cl.m (bo cl.m a (s/16)+s %16*16) [w,addr 6 y]⟩):cd top (A.lay i s w (aw.de A.Q f 48).1) a8:=by
 obtain⟨g1,bb,bD,t1,t2,t3⟩:=h.node E g e;have u:s/16<16:=U
 have aP:=t1.rO g1.P u hr;have a0:2^top<=128:=Vk (n:=2) am h.P.gd.2;have aW:=c8.bd g1.P bb;have ay:cc 7=256:=rfl;obtain⟨bN,ag,ao,aq,ar⟩:=t1.tc g1.P hs hr Z (b:=addr 6 y) U (λk=>absurd k hw) (.inl hw) (a8:=a8) (by rw[d]) (by rw[d]);have V:c8 cl 7 (bo cl.m a (s/16)):=.inl ⟨fI,t1.fE _ u hr⟩;have g2:gf top cl a8 hV (fz 7 (bo cl.m a (s/16))):=oM g1.P V (by rw[d]) (by rw[d]) λo D=>(by rw[d];exact kQ (by(have aA:bj 7=256:=rfl);simp only[Vy,WX];omega));have aN:=h.lay W E hs O hw g e g2 (by rw[d]) bN ao aq ar (by rw[d];exact Nat.le_succ _) (λc b N=>.inr ⟨N.1,s/16,u,by rw[<-t2 _ u];exact hr,by rw[N.2,t2 _ u]⟩) (λ_ _ h=>h) λj H D=>.inl (by rw[ag j H,t2 j H]at D⊢;exact⟨D,rfl⟩);have aF:a8.Q=(aw.de A.Q f 48).1/\a8.bt=A.bt:=(by rw[d,e];exact⟨by rw[<-h.Q.1];rfl,h.Q.2⟩);simp_all
theorem cd.AB(ao:au.dN A.l)(h:cd top A S)(V:cB A.l i 1 (bz 2 a f))(hs:s<256)(Z:A.aL i s=0)(hw:w≠0)(aq:w<2^64){y z:Nat×Nat×List cg}(g:iV top S 6 y)(e:cl=kf S f 6 (some y))(hr:bo cl.m a (s/16)=0)(E:iV top cl 7 z)
 (d:a8=u7 cl f a s w (addr 6 y) (some z)):cd top (A.lay i s w (aw.de (aw.de A.Q f 48).1 f 256).1) a8:=by
 obtain⟨g1,bb,bD,t1,t2,t3⟩:=h.node V g e;have a7:s/16<16:=U
 have a9:2^top<=128:=Vk (n:=2) am h.P.gd.2;have a5:=c8.bd g1.P bb;have aW:cc 7=256:=rfl;obtain⟨bN,ar,ba,ay,aA,aF,bc⟩:=t1.Sj g1.P hs hr aq (b:=addr 6 y) U hw E (a8:=a8) (by rw[d];rfl) (by rw[d];rfl);obtain⟨u,gZ⟩:=wE (a8:=⟨a8.Q,a8.bt,a8.C,a8.Fr,dA (hf cl.m (addr 7 z) 256) (addr 7 z+s %16*16) [w,addr 6 y]⟩) g1.P fI E (by rw[d];rfl) (by rw[d];rfl) λo O=>(by grind[kQ,vv]);have H:c8 cl 2 a:=.inl ⟨c2,t1.tk⟩;have a3:=c8.apart u.P (u.p _ _ H λh=>h) gZ (.inl (show(2:Nat)≠7 by decide));have a0:bj 2=128:=rfl;have aP:bj 7=256:=rfl;have g2:gf top cl a8 (λc b=>hV c b\/hV c b) (λc b=>hV c b\/fz 2 a c b):=u.trans (oM u.P (u.p _ _ H λh=>h) rfl rfl λo O=>by rw[d];dsimp only[u7];by_cases a2:addr 7 z+s %16*16<=o/\o<addr 7 z+s %16*16+16;rw[dA,j5,ax jv,dA,j5,ax jv];rw[kQ jv,kQ jv,kQ jv]);have ag:a8.C 6=cl.C 6:=by rw[d];exact jh cl.C z.2.2 (show(6:Nat)≠7 by decide)
 have aN:=h.lay ao V hs Z hw g e g2 ag bN ay aA aF (by rw[d];exact E.len) (λc b D=>.inl (by rcases D with D|D;exact D.elim;exact D)) (λ_ _ h=>h.elim id id) λj a4 O=>(by by_cases W:j=s/16;subst W;rw[ar];exact .inr λk=>E.uK g1.P fI (g1.p _ _ k λh=>h) ⟨rfl,rfl⟩;simp_all);have N:a8.Q=(aw.de (aw.de A.Q f 48).1 f 256).1/\a8.bt=A.bt:=(by rw[d,e];exact⟨by rw[<-h.Q.1];rfl,h.Q.2⟩);rw[<-N.1];have:a8=⟨a8.Q,A.bt,a8.C,a8.Fr,a8.m⟩:=by rw[<-N.2]
 grind
end
end Go.Proofs.Q
namespace Go.Proofs.Q
open Go Go.QM
variable [cJ]
def bR.bare(A:bR)(i s:Nat)(Q:List aw.bS):bR:={A with Q:=Q,aL:=fi A.aL i s 0}
def bR.set(A:bR)(i s w:Nat):bR:={A with aL:=fi A.aL i s w}
section
variable {top : Nat} {A : bR} {S dH a8 : cN} {i a s w : Nat} {f : Int}
theorem cd.bare(a2:au.dN A.l)(h:cd top A S)(E:cB A.l i 1 (bz 2 a f))(hs:s<256)(Z:A.aL i s≠0){Y X:Nat->Nat->Prop}(g:gf top S dH Y X)(a5:∀c b,X c b->(c=2/\b=a)\/(c=7/\∃j,j<16/\bo S.m a j≠0/\bo S.m a j=b))(aW:∀c b,Y c b->c=7)
 (aP:gh top dH a) (a3:eb dH.m a s=0) (ag:∀r,r<256->r≠s->eb dH.m a r=eb S.m a r/\(eb S.m a r≠0->dU dH.m a r=dU S.m a r)) (aF:dH.C 6=S.C 6) (a7:(dk dH.C dH.Fr).length<=(dk S.C S.Fr).length) (a4:∀j,j<16->bo dH.m a j≠0->bo dH.m a j=bo S.m a j)
 {aD i0:Nat} {L':List cg} (aY:jV top dH 6 aD i0 L') (a0:dU S.m a s=aD*1024+64+i0*48) (Q:List aw.bS):cd top (A.bare i s Q) ⟨Q,A.bt,dK dH.C 6 L',dH.Fr,dH.m⟩:=by
 obtain⟨t1,t2⟩:=h.hL i a f E;have g2:gf top dH ⟨Q,A.bt,dK dH.C 6 L',dH.Fr,dH.m⟩ (fz 6 (dU S.m a s)) (fz 6 (dU S.m a s)):=wD g.P iq aY a0 rfl rfl rfl;obtain⟨bN,a8,a9⟩:=aP.mY g2 (λh=>absurd h.1 am) λ_ _ _ h=>absurd h.1 am;have W:∀r,r<256->r≠s->A.aL i r≠0->dU dH.m a r=dU S.m a r/\c8 S 6 (dU S.m a r)/\dU S.m a r≠dU S.m a s:=λr d aq D=>(by refine⟨(ag r d aq).2 (by rw[(t2 r d).1];exact D),(t2 r d).2 D,λe=>aq (h.nA i i a a f f r s E E d hs D Z e).2⟩);refine h.B3 (g.trans g2) E rfl rfl rfl ⟨rfl,rfl⟩ (λj ao=>funext λr=>lx (.inl ao)) (λc b ar=>?_) (λc b w=>?_) bN (λr d=>?_) (λr u d hu O V he=>?_) (λj ao D=>?_) ?_ ?_;·rcases ar with ar|⟨rfl,rfl⟩;all_goals grind
 rcases w with w|w;grind;have:=w.1;omega;dsimp only[bR.bare];by_cases e:r=s;grind[ii];rw[kU e];refine⟨(ag r d e).1.trans (t2 r d).1,λD=>?_⟩;obtain⟨H,N,ay⟩:=W r d e D;rw[H];exact⟨g2.p _ _ (g.p _ _ N λw=>absurd (aW _ _ w) am) λw=>ay w.2,.inl ⟨D,rfl⟩⟩;dsimp only[bR.bare]at O V he;have H:r≠s:=by grind[ii]
 have N:u≠s:=by grind[ii]
 rw[kU H]at O;rw[kU N]at V;rw[(W r d H O).1,(W u hu N V).1]at he;exact(h.nA i i a a f f r u E E d hu O V he).2;grind;dsimp only[bR.bare];have aA:=II g.P iq aY 6;rw[ax rfl,aF,h.rS,<-Lq (E.lt a2) hs Z]at aA;omega;dsimp only[bR.bare];have:=aY.len;have:=h.gb;omega
theorem cd.fE(h:cd top A S)(u:cB A.l i 1 (bz 2 a f))(hs:s<256)(d:A.aL i s≠0):bo S.m a (s/16)≠0:=λe=>d (by rw[<-((h.hL i a f u).2 s hs).1,eb,ax e])
def mb(A:bR)(i s:Nat):Prop:=∃r,r<256/\r/16=s/16/\r≠s/\A.aL i r≠0
theorem cd.row(h:cd top A S)(w:cB A.l i 1 (bz 2 a f))(hs:s<256)(D:A.aL i s≠0):mb A i s↔∃j,j<16/\j≠s %16/\cW S.m (bo S.m a (s/16)+j*16)≠0:=by have C:=h.fE w hs D;obtain⟨_,t2⟩:=h.hL i a f w;constructor;rintro⟨r,H,d,E,u⟩;refine⟨r %16,by omega,by omega,?_⟩;rw[<-(t2 r H).1,eb,d,al C]at u;exact u;rintro⟨j,N,d,E⟩;refine⟨s/16*16+j,by omega,by omega,by omega,?_⟩;rw[<-(t2 _ U).1,eb,show(s/16*16+j)/16=s/16 by omega,al C,show(s/16*16+j) %16=j by omega];trivial
theorem cd.Hi(h:cd top A S)(E:cB A.l i 1 (bz 2 a f))(hs:s<256)(C:A.aL i s=0):bo S.m a (s/16)≠0↔mb A i s:=by
 obtain⟨t1,t2⟩:=h.hL i a f E;constructor;intro w;obtain⟨j,N,d⟩:=t1.ne _ U w;have e:eb S.m a (s/16*16+j)≠0:=by rw[eb,show(s/16*16+j)/16=s/16 by omega,al w,show(s/16*16+j) %16=j by omega];exact d
 rw[(t2 _ U).1]at e;exact⟨_,by omega,by omega,λu=>e (by rw[u];exact C),e⟩;rintro⟨r,H,d,u,D⟩ e;rw[<-(t2 r H).1,eb,d,ax e]at D;trivial
theorem cd.tc(ay:au.dN A.l)(h:cd top A S)(D:cB A.l i 1 (bz 2 a f))(hs:s<256)(V:A.aL i s≠0)(hw:w≠0)(aA:w<2^64)(d:a8=⟨S.Q,S.bt,S.C,S.Fr,dA S.m (bo S.m a (s/16)+s %16*16) [w,dU S.m a s]⟩):cd top (A.set i s w) a8:=by
 obtain⟨t1,t2⟩:=h.hL i a f D;have N:=h.fE D hs V;have W:s/16<16:=U
 have aW:=t1.rO h.P W N;have a2:2^top<=128:=Vk (n:=2) am h.P.gd.2;have a0:=c8.bd h.P ((t2 s hs).2 V);obtain⟨bN,a3,a4,a5,a7⟩:=t1.tc h.P hs N aA (b:=dU S.m a s) U (λk=>absurd k hw) (.inl hw) (a8:=a8) (by rw[d]) (by rw[d]);have aw:c8 S 7 (bo S.m a (s/16)):=.inl ⟨fI,t1.fE _ W N⟩;have g2:gf top S a8 hV (fz 7 (bo S.m a (s/16))):=oM h.P aw (by rw[d]) (by rw[d]) λo H=>(by rw[d];exact kQ (by(have aP:bj 7=256:=rfl);simp only[Vy,WX];omega));have aQ:∀r,r<256->dU a8.m a r=dU S.m a r:=λr E=>cm;have O:∀r,A.aL i r≠0↔(A.set i s w).aL i r≠0:=λr=>(by dsimp only[bR.set];grind[ii,kU]);refine h.B3 g2 D rfl rfl rfl (by rw[d];exact h.Q) (λj ag=>funext λr=>lx (.inl ag)) (λc b ao=>.inr (.inl ⟨ao.1,s/16,W,N,ao.2.symm⟩)) (λc b aF=>aF.elim) bN (λr E=>⟨?_,λH=>?_⟩) (λr u E hu aq ar he=>?_) (λj ag H=>.inl ?_) ?_ (by rw[d];exact h.gb);dsimp only[bR.set];grind[ii,kU];rw[aQ r E];exact⟨g2.p _ _ ((t2 r E).2 ((O r).2 H)) λh=>h,.inl ⟨(O r).2 H,rfl⟩⟩;rw[aQ r E,aQ u hu]at he;exact(h.nA i i a a f f r u D D E hu ((O r).2 aq) ((O u).2 ar) he).2;simp_all;have Z:=zo (aL:=A.aL) (nh:=(A.set i s w).aL) (D.lt ay) hs λj r h=>lx h;dsimp only[bR.set]at Z⊢;rw[ii,bb,bb,al V,al hw]at Z;rw[d];exact h.rS.trans U
theorem cd.yY(W:au.dN A.l)(h:cd top A S)(d:cB A.l i 1 (bz 2 a f))(hs:s<256)(u:A.aL i s≠0)(hr:mb A i s)(e:dH=⟨S.Q,S.bt,S.C,S.Fr,dA S.m (bo S.m a (s/16)+s %16*16) [0,0]⟩){aD i0:Nat}{L':List cg}(aY:jV top dH 6 aD i0 L')(O:dU S.m a s=aD*1024+64+i0*48)(Q:List aw.bS):
 cd top (A.bare i s Q) ⟨Q,A.bt,dK dH.C 6 L',dH.Fr,dH.m⟩:=by
 obtain⟨t1,t2⟩:=h.hL i a f d;have w:=h.fE d hs u;have E:s/16<16:=U
 obtain⟨bN,ag,ao,ay,N⟩:=t1.tc h.P hs w (a:=0) (b:=0) am am (λ_=>rfl) (.inr ((h.row d hs u).1 hr)) (a8:=dH) jN jN;have g:gf top S dH hV (fz 7 (bo S.m a (s/16))):=oM h.P (h.leaf d E w) jN jN λo ar=>(by rw[e];exact kQ (by(have aq:bj 7=256:=rfl);simp only[Vy,WX];omega));exact h.bare W d hs u g (λc b H=>.inr ⟨H.1,s/16,E,w,H.2.symm⟩) (λc b Z=>Z.elim) bN ao (λr hr D=>⟨(N r hr D).1,λ_=>(N r hr D).2⟩) jN (by rw[e];exact Vi _) (λj V _=>ag j V) aY O Q
theorem cd.yX(ay:au.dN A.l)(h:cd top A S)(w:cB A.l i 1 (bz 2 a f))(hs:s<256)(H:A.aL i s≠0)(hr:¬mb A i s){Z i7:Nat}{E:List cg}(g7:jV top S 7 Z i7 E)(W:bo S.m a (s/16)=Z*1024+64+i7*256){ag:List aw.bS}
 (e:dH=⟨ag,S.bt,dK S.C 7 E,S.Fr,dA (dA S.m (bo S.m a (s/16)+s %16*16) [0,0]) (a+s/16*8) [0]⟩) {aD i0:Nat} {L':List cg} (aY:jV top dH 6 aD i0 L') (aq:dU S.m a s=aD*1024+64+i0*48) (Q:List aw.bS):
 cd top (A.bare i s Q) ⟨Q,A.bt,dK dH.C 6 L',dH.Fr,dH.m⟩:=by
 obtain⟨t1,t2⟩:=h.hL i a f w;have D:=h.fE w hs H;have V:s/16<16:=U
 have aA:∀j,j<16->j≠s %16->cW S.m (bo S.m a (s/16)+j*16)=0:=λj O ar=>Wi λbJ=>hr ((h.row w hs H).2 ⟨j,O,ar,bJ⟩);obtain⟨bN,aF,aP,aW,a0⟩:=t1.Lb h.P hs D aA W g7 (a8:=dH) jN jN;have ao:c8 S 2 a:=.inl ⟨c2,t1.tk⟩;have a3:bj 7=256:=rfl;have a2:bj 2=128:=rfl;have bp:gf top S ⟨S.Q,S.bt,S.C,S.Fr,dA S.m (bo S.m a (s/16)+s %16*16) [0,0]⟩ hV (fz 7 (bo S.m a (s/16))):=oM h.P (h.leaf w V D) rfl rfl λo N=>kQ jv;have gZ:gf top _ ⟨S.Q,S.bt,S.C,S.Fr,dH.m⟩ hV (fz 2 a):=oM (a8:=⟨S.Q,S.bt,S.C,S.Fr,dH.m⟩) bp.P (bp.p 2 a ao λh=>h) rfl rfl λo N=>(by rw[e];exact kQ jv);have gc:gf top _ dH (fz 7 (bo S.m a (s/16))) (fz 7 (bo S.m a (s/16))):=wD gZ.P fI (g7.r0 rfl rfl) W jN jN rfl;refine h.bare ay w hs H ((bp.trans gZ).trans gc) (λc b d=>?_) (λc b u=>?_) bN aW a0 (by rw[e];exact jh S.C E (show(6:Nat)≠7 by decide)) (by rw[e];exact g7.len) (λj O N=>aP j O λe=>N (by rw[e];exact aF)) aY aq Q;rcases d with(d|d)|d;exact .inr ⟨d.1,s/16,V,D,d.2.symm⟩;exact .inl d;exact .inr ⟨d.1,s/16,V,D,d.2.symm⟩;rcases u with(u|u)|u;exact u.elim;exact u.elim;exact u.1
end
def dO(h r:Nat):Nat:=h+1+r*4294967296
theorem jO{h r:Nat}(d:h<4294967295)(hr:r<=15):dO h r<2^64/\dO h r≠0:=by rw[dO];omega
structure jG(Q vI:List aw.bS)(bt f d:Int):Prop where
  dQ:aw.eK vI bt
  has:∀x,aw.cX vI x↔aw.cX Q x
  fJ:∀x,aw.cX Q x->aw.fC vI x=aw.fC Q x+if x=f then d else 0
  par:∀x,aw.je vI x=aw.je Q x
theorem GI{Q:List aw.bS}(h:aw.im Q)(f c x:Int):aw.je (aw.fL Q f c) x=aw.je Q x:=by
 by_cases d:aw.cX Q x;obtain⟨t,u,rfl⟩:=d;rw[(aw.hB h u).2.2.2];have hm:(if t.id=f then⟨t.id,t.par,t.lim,c⟩else t:aw.bS)∈aw.fL Q f c:=by grind[aw.td]
 have:=(aw.hB (BO h f c) hm).2.2.2;grind;rw[(aw.tl d).2.2.2,(aw.tl λh=>d (aw.qZ.1 h)).2.2.2]
variable{f bt:Int}
theorem jG.hl{Q:List aw.bS}{n:Int}(h:aw.eK Q bt)(u:(aw.de Q f n).2=0):jG Q (aw.de Q f n).1 bt f n:=by obtain⟨C,D,E,d⟩:=za u;refine⟨h.K5 f n,λx=>by rw[d];exact aw.qZ,λx w=>?_,λx=>by rw[d];exact GI h.bq _ _ _⟩;rw[d,zb h.bq w];grind
theorem jG.r0{Q:List aw.bS}{n:Int}(h:aw.eK Q bt)(u:aw.cX Q f)(w:0<=n)(C:n<=aw.fC Q f):(aw.ek Q f n).2=0/\jG Q (aw.ek Q f n).1 bt f (-n):=by have d:=G8 u w C;refine⟨by rw[d],h.Rv f n,λx=>by rw[d];exact aw.qZ,λx D=>?_,λx=>by rw[d];exact GI h.bq _ _ _⟩;rw[d];dsimp only;rw[zb h.bq D];grind
theorem jG.trans{Q u w:List aw.bS}{d e:Int}(h:jG Q u bt f d)(k:jG u w bt f e):jG Q w bt f (d+e):=
 ⟨k.dQ,λx=>(k.has x).trans (h.has x),λx C=>by rw[k.fJ x ((h.has x).2 C),h.fJ x C];split<;>omega,λx=>(k.par x).trans (h.par x)⟩
def hJ(e:Nat->Nat)(j:Nat):Nat:=fT 16 λr=>e (16*j+r)
def iw(e:Nat->Nat):Nat:=fT 256 (λs=>48*bb (e s))+fT 16 λj=>256*bb (hJ e j)
theorem rp{x:Nat}(h:x≠0):bb x=1:=al h
theorem vV:bb 0=0:=rfl
theorem vd{f:Nat->Nat}{n:Nat}:fT n f≠0↔∃k,k<n/\f k≠0:=by constructor;intro h;refine Wi λao=>h (nI λi u=>Wi λd=>ao ⟨i,u,d⟩);grind[vc]
theorem Td{e e':Nat->Nat}{s:Nat}(hs:s<256)(u:e s≠0)(hw:e' s≠0)(he:∀r,r≠s->e' r=e r):iw e'=iw e:=by have d:∀r,bb (e' r)=bb (e r):=λr=>(by grind[rp]);rw[iw,iw,nH λr _=>by rw[d r],nH (f:=λj=>256*bb (hJ e' j)) (g:=λj=>256*bb (hJ e j)) λj _=>?_];have:hJ e' j≠0↔hJ e j≠0:=(by grind[hJ,vd]);by_cases h:hJ e j=0;simp_all;grind[rp]
theorem x5{e e':Nat->Nat}{s:Nat}(hs:s<256)(u:e s=0)(hw:e' s≠0)(he:∀r,r≠s->e' r=e r):iw e'=iw e+48+256*(1-bb (hJ e (s/16))):=by
 have w:=p2 (f:=λr=>48*bb (e r)) (g:=λr=>48*bb (e' r)) hs λr _ d=>by rw[he r d]
 have C:=p2 (f:=λj=>256*bb (hJ e j)) (g:=λj=>256*bb (hJ e' j)) (n:=16) (k:=s/16) U λj _ d=>(by grind[hJ,nH]);rw[u,vV,rp hw]at w;rw[rp (show hJ e' (s/16)≠0 from vd.2 ⟨s %16,by omega,by rw[show 16*(s/16)+s %16=s by omega];exact hw⟩)]at C;grind[bb,iw]
def hQ(A:bR)(x:Int)(i:Nat):Nat:=match A.l[i]? with
  | some p=>if(p.st=1\/p.st=2)/\p.o.f=x then bj p.o.k.toNat+(if p.st=1/\p.o.k=2 then iw (A.aL i)else 0)else 0
  | none=>0
instance (s:Int):Decidable (fl s):=inferInstanceAs (Decidable (s=1\/s=2))
def n0(A:bR)(x:Int):Nat:=fT 256 (hQ A x)
variable{A:bR}
theorem nZ{i:Nat}{s:Int}{o:au.e7}(h:cB A.l i s o)(x:Int):hQ A x i=if fl s/\o.f=x then bj o.k.toNat+(if s=1/\o.k=2 then iw (A.aL i)else 0)else 0:=by obtain⟨g,h⟩:=h;rw[hQ,h];rfl
structure ch(A:bR):Prop where
  ok:au.dN A.l
  dQ:aw.eK A.Q A.bt
  rt:(∃a,A.l[0]? =some ⟨bz 1 a 0,1,0⟩)/\A.own 0=0
  ac:∀i s o,fl s->cB A.l i s o->aw.cX A.Q o.f/\bj o.k.toNat≠0
  c1:∀i s a f,fl s->cB A.l i s (bz 1 a f)->aw.cX A.Q (A.own i)/\(i≠0->A.own i≠0/\aw.je A.Q (A.own i)=f)
  nl:∀i j s r a b f g,fl s->fl r->cB A.l i s (bz 1 a f)->cB A.l j r (bz 1 b g)->A.own i=A.own j->i=j
  aL:∀i s,A.aL i s≠0->s<256/\(∃a f,cB A.l i 1 (bz 2 a f))/\∃h r:Nat,A.aL i s=dO h r/\1<=r/\r<=15/\h<4294967295/\(au.cV A.l h).2=0
  hl:∀x,aw.cX A.Q x->aw.fC A.Q x=n0 A x
  mD:∀h:Int,(∃p,au.dV A.l h 2=some p)/\0<=h↔h∈A.q.map (·.1)
  oh:(A.q.map (·.1)).Nodup
  oi:∀t∈A.q,A.now<t.2/\t.2<=A.now+A.pd
  m3:A.q.Pairwise λa b=>a.2<=b.2
  pd:(1<=A.pd/\A.pd<=16)/\0<=A.now
  bd:A.bt<=A.np/\A.now<=A.np/\A.np<=1000000
variable{k:Nat}
theorem pR{l:List au.bV}{p:au.bV}{h st:Int}(d:(h %256).toNat≠k):au.dV (l.set k p) h st=au.dV l h st:=by grind[au.dV]
theorem oO{l:List au.bV}{h:Int}(d:0<=h)(u:(au.cV l h).2=0):∃i p,au.dV l h 1=some (i,p)/\l[i]? =some p/\p.st=1/\i<256/\h=p.cU*256+i/\(h %256).toNat=i/\au.cV l h=(p.o,0):=by grind[au.cV,au.nw]
theorem rP{l:List au.bV}{i:Nat}{p:au.bV}(d:i<256)(h:l[i]? =some p):au.dV l (p.cU*256+i) p.st=some (i,p):=by
 have e:((p.cU*256+(i:Int)) %256).toNat=i:=U
 rw[au.dV,e,h];grind
theorem ch.t8(h:ch A){i a s w np:Nat}{d:Int}(u:cB A.l i 1 (bz 2 a f))(hs:s<256){Q:List aw.bS}(C:jG A.Q Q A.bt f d)(ao:(iw (fi A.aL i s w i):Int)=iw (A.aL i)+d)(hw:w=0\/∃h r:Nat,w=dO h r/\1<=r/\r<=15/\h<4294967295/\(au.cV A.l h).2=0)(aq:A.np<=np/\np<=1000000):ch {A with Q:=Q,aL:=fi A.aL i s w,np:=np}:=by have V:=u.lt h.ok;refine⟨h.ok,C.dQ,h.rt,λi s o hs u=>⟨(C.has _).2 (h.ac i s o hs u).1,(h.ac i s o hs u).2⟩,λi s a f hs u=>?_,h.nl,λj r H=>?_,λx Z=>?_,h.mD,h.oh,h.oi,h.m3,h.pd,?_⟩;obtain⟨D,E⟩:=h.c1 i s a f hs u;dsimp only;exact⟨(C.has _).2 D,λO=>⟨(E O).1,by rw[C.par];exact(E O).2⟩⟩;dsimp only at H⊢;by_cases e:j=i/\r=s;grind[ii];have N:j≠i\/r≠s:=U;rw[lx N]at H⊢;exact h.aL j r H;have P:=(C.has x).1 Z;have D:=p2 (f:=hQ A x) (g:=hQ {A with Q:=Q,aL:=fi A.aL i s w,np:=np} x) V λj _ W=>(by rw[hQ,hQ];dsimp only;rw[show fi A.aL i s w j=A.aL j from funext λr=>lx (.inl W)]);rw[nZ (A:=A) u x,nZ (A:={A with Q:=Q,aL:=fi A.aL i s w,np:=np}) u x]at D;have E:=h.hl x P;have ag:=C.fJ x P;rw[n0]at E⊢;dsimp only at D⊢;have hu:fl 1:=.inl rfl;have N:((bz 2 a f).f=x)=(f=x):=rfl;by_cases e:f=x;have bN:fl 1/\(bz 2 a f).f=x:=⟨hu,e⟩;have ar:(1:Int)=1/\(bz 2 a f).k=2:=⟨rfl,rfl⟩;grind;grind;have:=h.bd;grind
theorem H6{e:Nat->Nat}(h:∀s,e s=0):iw e=0:=by rw[iw,nI λs _=>by rw[h s];rfl,nI λj _=>by rw[hJ,nI λr _=>h _];rfl]
theorem ch.zz(h:ch A){s:Int}{o:au.e7}(D:cB A.l k s o)(hs:s≠1\/o.k≠2)(r:Nat):A.aL k r=0:=Wi λw=>by
 obtain⟨_,⟨a,f,C⟩,_⟩:=h.aL k r w
 obtain⟨d,u⟩:=D.inj C
 rcases hs with hs|hs
 ·exact hs d
 exact hs (by rw[u];rfl)
theorem ch.lt(h:ch A){i:Nat}{p:au.bV}(d:A.l[i]? =some p):i<256/\0<=p.cU/\p.cU<=1048575:=⟨h.ok.lt d,h.ok.cU p (Vg d)⟩
theorem ch.put(h:ch A){c a np:Nat}{g:Int}{dv:au.e7}{Q:List aw.bS}{own:Nat->Nat}(ag:A.l[k]? =some ⟨dv,0,g⟩)(a9:bj c≠0)(a5:aw.cX A.Q f)(av:aw.eK Q bt)
 (ao:∀x,aw.cX A.Q x->aw.cX Q x/\aw.fC Q x=aw.fC A.Q x+(if x=f then(bj c:Int)else 0)/\aw.je Q x=aw.je A.Q x)
 (bl:∀x,aw.cX Q x->¬aw.cX A.Q x->aw.fC Q x=0) (aP:c=1->aw.cX Q (own k)/\¬aw.cX A.Q (own k)/\own k≠0/\aw.je Q (own k)=f)
 (N:∀i,i≠k->own i=A.own i) (bn:A.np<=np/\np<=1000000) (ba:bt<=np):ch {A with l:=A.l.set k ⟨bz c a f,1,g⟩,Q:=Q,bt:=bt,own:=own,np:=np}:=by
 obtain⟨aA,a7⟩:=h.lt ag;have bo:∀r,A.aL k r=0:=λr=>h.zz (k:=k) (s:=0) ⟨g,ag⟩ (.inl am) r;have a8:k≠0:=λe=>(by obtain⟨⟨b,u⟩,_⟩:=h.rt;simp_all);have back:∀{i s o},cB (A.l.set k ⟨bz c a f,1,g⟩) i s o->(i≠k/\cB A.l i s o)\/(i=k/\s=1/\o=bz c a f):=λ{i s o} C=>(by rcases C.set with h|⟨e,O,P⟩;all_goals simp_all);have key:∀{b:Nat} {w:Int},bz c a f=bz 1 b w->c=1/\f=w:=λ{b w} e=>(by grind[jz]);refine⟨h.ok.set k a7,av,⟨?_,?_⟩,λi s o hs C=>?_,λi s b w hs C=>?_,λi j s r b d w aF hs a2 C ay e=>?_,λi s C=>?_,λx bc=>?_,λE=>?_,h.oh,h.oi,h.m3,h.pd,⟨ba,by have:=h.bd;dsimp only;omega⟩⟩;obtain⟨⟨b,u⟩,_⟩:=h.rt;grind;dsimp only;rw[N 0 (λe=>a8 e.symm)];exact h.rt.2;rcases back C with⟨_,u⟩|⟨_,_,rfl⟩;exact⟨(ao _ (h.ac i s o hs u).1).1,(h.ac i s o hs u).2⟩;exact⟨(ao _ a5).1,a9⟩;dsimp only;rcases back C with⟨H,u⟩|⟨rfl,_,e⟩;obtain⟨D,W⟩:=h.c1 i s b w hs u;simp_all;grind;dsimp only at e;rcases back C with⟨H,u⟩|⟨rfl,_,O⟩<;>rcases back ay with⟨aW,D⟩|⟨rfl,_,P⟩;rw[N i H,N j aW]at e;exact h.nl i j s r b d w aF hs a2 u D e;obtain⟨V,_⟩:=key P.symm;rw[N i H]at e;exact absurd (by rw[<-e];exact(h.c1 i s b w hs u).1) (aP V).2.1;obtain⟨V,_⟩:=key O.symm;rw[N j aW]at e;exact absurd (by rw[e];exact(h.c1 j r d aF a2 D).1) (aP V).2.1;trivial;dsimp only at C⊢;obtain⟨u,⟨b,w,D⟩,a3,r,W,aq,Z,bJ,a4⟩:=h.aL i s C;have H:i≠k:=cm
 refine⟨u,⟨b,w,D.put _ H⟩,a3,r,W,aq,Z,bJ,?_⟩;obtain⟨i2,p,O,P,V,_,_,bi,_⟩:=oO U a4;grind[au.cV,pR];dsimp only at bc;have W:hQ {A with l:=A.l.set k ⟨bz c a f,1,g⟩,Q:=Q,bt:=bt,own:=own,np:=np} x k=if f=x then bj c else 0:=(by rw[nZ (s:=1) (o:=bz c a f) ⟨g,by dsimp only;rw[VZ (by rw[h.ok.n];exact aA)]⟩ x];by_cases e:f=x;(have bN:fl 1/\(bz c a f).f=x:=by trivial);have bh:(if(1:Int)=1/\(bz c a f).k=2 then iw (A.aL k)else 0)=0:=(by grind[H6]);rw[ax bN,ax e];exact congrArg (bj c+·) bh;rw[al (show ¬(fl 1/\(bz c a f).f=x)from λh=>e h.2),al e]);have aq:hQ A x k=0:=(by rw[nZ (s:=0) ⟨g,ag⟩ x,al (show ¬(fl 0/\dv.f=x)from λh=>by rcases h.1 with h|h<;>exact absurd h am)]);have D:=p2 (f:=hQ A x) (g:=hQ {A with l:=A.l.set k ⟨bz c a f,1,g⟩,Q:=Q,bt:=bt,own:=own,np:=np} x) aA λj _ H=>(by grind[hQ]);rw[W,aq]at D;rw[n0];by_cases ar:aw.cX A.Q x;have Z:=h.hl x ar;have bJ:=(ao x ar).2.1;rw[n0]at Z;grind;have Z:fT 256 (hQ A x)=0:=nI λj ay=>(by obtain⟨p,a0,_⟩:=h.ok.at ay;rw[nZ (o:=p.o) (s:=p.st) ⟨p.cU,a0⟩ x,al (show ¬(fl p.st/\p.o.f=x)from λu=>ar (u.2▸(h.ac j p.st p.o u.1 ⟨p.cU,a0⟩).1))]);grind;dsimp only;rw[<-h.mD E];have:(∃p,au.dV (A.l.set k ⟨bz c a f,1,g⟩) E 2=some p)↔∃p,au.dV A.l E 2=some p:=(by by_cases e:(E %256).toNat=k;have O:au.dV A.l E 2=none:=(by rw[au.dV,e,ag];dsimp only;rw[al λh=>absurd h.2 am]);have P:au.dV (A.l.set k ⟨bz c a f,1,g⟩) E 2=none:=(by rw[au.dV,e,VZ (by rw[h.ok.n];exact aA)];dsimp only;rw[al λh=>absurd h.2 am]);simp_all;grind[pR]);simp_all
theorem ch.tZ(h:ch A){o:au.e7}{g:Int}(H:A.l[k]? =some ⟨o,1,g⟩)(bo:k≠0)(ao:∀i s (x r:Nat),A.aL i s=dO x r->1<=r->r<=15->x<4294967295->(x:Int)≠g*256+k)(a9:∀s,A.aL k s=0)(a6:Nat->Nat->Nat):
 ch {A with l:=A.l.set k ⟨o,2,g⟩,a6:=a6,q:=A.q++[(g*256+k,A.now+A.pd)]}:=by
 obtain⟨a3,ar⟩:=h.lt H;dsimp only at ar;have back:∀{i s w},cB (A.l.set k ⟨o,2,g⟩) i s w->(i≠k/\cB A.l i s w)\/(i=k/\s=2/\w=o/\cB A.l i 1 w):=λ{i s w} u=>(by rcases u.set with h|⟨rfl,W,Z⟩;simp_all;dsimp only at W Z;subst Z;exact .inr ⟨rfl,W.symm,rfl,g,H⟩);have V:∀{i s w},fl s->cB (A.l.set k ⟨o,2,g⟩) i s w->∃r,fl r/\cB A.l i r w:=λ{i s w} hs u=>(by rcases back u with⟨_,h⟩|⟨_,_,_,h⟩;grind;exact⟨1,.inl rfl,h⟩);have bH:au.dV (A.l.set k ⟨o,2,g⟩) (g*256+k) 2=some (k,⟨o,2,g⟩):=by grind[au.dV]
 have bt:au.dV A.l (g*256+k) 2=none:=(by rw[au.dV,show((g*256+(k:Int)) %256).toNat=k by omega,H];dsimp only;rw[al λh=>absurd h.2 am]);refine⟨h.ok.set k ar,h.dQ,⟨?_,h.rt.2⟩,λi s w hs u=>?_,λi s b E hs u=>?_,λi j s r b d E ay hs N u a2 e=>?_,λi s u=>?_,λx D=>?_,λaq=>?_,?_,λt O=>?_,?_,h.pd,h.bd⟩;obtain⟨⟨b,C⟩,_⟩:=h.rt;grind;obtain⟨r,N,C⟩:=V hs u;exact h.ac i r w N C;obtain⟨r,N,C⟩:=V hs u;exact h.c1 i r b E N C;obtain⟨bh,a8,C⟩:=V hs u;obtain⟨bc,a7,ag⟩:=V N a2;exact h.nl i j bh bc b d E ay a8 a7 C ag e;obtain⟨C,⟨b,E,ag⟩,x,r,aP,aW,a0,bJ,aF⟩:=h.aL i s u;have a4:i≠k:=cm
 refine⟨C,⟨b,E,ag.put _ a4⟩,x,r,aP,aW,a0,bJ,?_⟩;obtain⟨i2,p,bi,aw,bj,_,bn,bl,_⟩:=oO U aF;grind[au.cV,pR];dsimp only at D⊢;rw[h.hl x D];refine congrArg (λn:Nat=>(n:Int)) (nH λj _=>?_);rw[hQ,hQ];dsimp only;by_cases e:j=k;subst e;rw[VZ (by rw[h.ok.n];exact a3),H];dsimp only;by_cases aw:o.f=x;have bN:((1:Int)=1\/(1:Int)=2)/\o.f=x:=by trivial
 have ba:((2:Int)=1\/(2:Int)=2)/\o.f=x:=by trivial
 rw[ax bN,ax ba,H6 a9];simp;simp_all;grind;dsimp only;rw[V7,Ve,<-h.mD aq];by_cases e:(aq %256).toNat=k;have:au.dV A.l aq 2=none:=(by rw[au.dV,e,H];dsimp only;rw[al λh=>absurd h.2 am]);rw[this];constructor;rintro⟨⟨⟨i,p⟩,a5⟩,aA⟩;obtain⟨W,Z,_,_⟩:=au.nw aA a5;grind;grind;grind[pR];dsimp only;rw[V7,VI];refine⟨h.oh,by simp,λx D y P e=>?_⟩;rw[List.map_singleton,Vd]at P;rw[e,P,<-h.mD]at D;simp_all;rcases Ve.1 O with O|O;exact h.oi t O;rw[Vd]at O;have:=h.pd;grind;dsimp only;rw[List.pairwise_append];refine⟨h.m3,by simp,λx D y P=>?_⟩;rw[Vd]at P;rw[P];exact(h.oi x D).2
theorem Gy{L:List aw.bS}{y x:Int}:aw.cX (aw.kM L y) x↔aw.cX L x/\x≠y:=by constructor;rintro⟨t,d,rfl⟩;have:=aw.nC.1 d;exact⟨⟨t,this.1,rfl⟩,this.2⟩;rintro⟨⟨t,d,rfl⟩,u⟩;exact⟨t,aw.nC.2 ⟨d,u⟩,rfl⟩
theorem Lf{L:List aw.bS}(av:aw.eK L bt)(y:Int):aw.eK (aw.iC L y).1 bt/\(∀x,aw.cX (aw.iC L y).1 x->aw.cX L x/\aw.fC (aw.iC L y).1 x=aw.fC L x/\aw.je (aw.iC L y).1 x=aw.je L x)/\∀x,aw.cX L x->aw.cX (aw.iC L y).1 x\/(x=y/\aw.fC L x=0):=by refine⟨av.close y,?_⟩;unfold aw.iC;split;simp_all;split;simp_all;split;simp_all;rename_i w H N;have E:=Vh w;refine⟨λx h=>?_,λx h=>?_⟩;dsimp only at h⊢;have O:=Gy.1 h;obtain⟨t,d,rfl⟩:=h;have C:=aw.nC.1 d;have ao:aw.im (aw.kM L y):=(by obtain⟨u,hu,rfl⟩:=E;obtain⟨M,bK⟩:=fA hu;exact(aw.im.perm (av.bq.perm bK.symm) (Xv _)|>λh=>(Vw.1 h).2)|>λh=>aw.im.perm h (aw.xw av.bq bK));have P:=aw.hB ao d;have D:=aw.hB av.bq C.1;simp_all;by_cases e:x=y;subst e;obtain⟨t,d,rfl⟩:=h;have D:=aw.hB av.bq d;have V:=(av.rg t d).2.2.2.2;have bJ:=aw.wH av t.id;omega;grind[Gy]
theorem ch.free(h:ch A){c a:Nat}{g t:Int}{aF:List (Int×Int)}(bc:A.l[k]? =some ⟨bz c a f,2,g⟩)(ci:1<=c/\c<=5\/c=8)(a3:A.q=(g*256+k,t)::aF){ml:List aw.bS}(a7:ml=if c=1 then(aw.iC A.Q (A.own k)).1 else A.Q):
 (aw.ek ml f (bj c)).2=0/\ch {A with l:=A.l.set k (au.i5 ⟨bz c a f,2,g⟩),Q:=(aw.ek ml f (bj c)).1,q:=aF}:=by
 obtain⟨aA,bV⟩:=h.lt bc;dsimp only at bV;have Z:cB A.l k 2 (bz c a f):=⟨g,bc⟩;have b0:k≠0:=λe=>(by obtain⟨⟨b,D⟩,_⟩:=h.rt;simp_all);have a9:=h.ac k 2 _ (.inr rfl) Z;have cr:∀r,A.aL k r=0:=h.zz Z (.inl am);have ay:¬fl (au.i5 ⟨bz c a f,2,g⟩).st/\0<=(au.i5 ⟨bz c a f,2,g⟩).cU/\(au.i5 ⟨bz c a f,2,g⟩).cU<=1048575:=(by grind[au.i5,fl]);generalize cg:au.i5 ⟨bz c a f,2,g⟩=P at ay;have bN:aw.eK ml A.bt/\(∀x,aw.cX ml x->aw.cX A.Q x/\aw.fC ml x=aw.fC A.Q x/\aw.je ml x=aw.je A.Q x)/\∀x,aw.cX A.Q x->aw.cX ml x\/(c=1/\x=A.own k/\aw.fC A.Q x=0):=(by rw[a7];split;rename_i ck;obtain⟨N,aP,a8⟩:=Lf h.dQ (A.own k);simp_all;exact⟨h.dQ,λx O=>⟨O,rfl,rfl⟩,λx O=>.inl O⟩);obtain⟨cI,a4,a5⟩:=bN;have bn:∀x,aw.cX A.Q x->aw.fC A.Q x=0->∀i s o,fl s->cB A.l i s o->o.f≠x:=λx O W i s o hs w e=>(by have C:=vc (f:=hQ A x) (w.lt h.ok);have E:=h.hl x O;rw[nZ w x,ax ⟨hs,e⟩]at C;rw[W,n0]at E;(have H:bj o.k.toNat=0:=by omega);exact absurd H (h.ac i s o hs w).2);have bR:c=1->f<A.own k:=λe=>(by obtain⟨N,aP⟩:=h.c1 k 2 a f (.inr rfl) (by subst e;exact Z);obtain⟨a8,D⟩:=aP b0;obtain⟨u,hu,w⟩:=N;rw[<-w,(aw.hB h.dQ.bq hu).2.2.2]at D;have:=(h.dQ.par u hu U).2;omega);have ba:aw.cX ml f:=(a5 f a9.1).elim id λN=>absurd (bR N.1) U;have cl:bj c<=n0 A f:=(by have C:=vc (f:=hQ A f) aA;rw[nZ Z f,ax ⟨.inr rfl,rfl⟩]at C;trivial);obtain⟨ef,ag⟩:=jG.r0 (f:=f) (n:=(bj c:Int)) cI ba U (by rw[(a4 f ba).2.1,h.hl f a9.1];omega);have back:∀{i s o},fl s->cB (A.l.set k P) i s o->i≠k/\cB A.l i s o:=λ{i s o} hs w=>(by rcases w.set with h|⟨_,N,_⟩;all_goals simp_all);have bh:=h.oh;rw[a3]at bh;obtain⟨cn,b7⟩:=Vw.1 bh;refine⟨ef,h.ok.set k ay.2,ag.dQ,⟨?_,h.rt.2⟩,λi s o hs w=>?_,λi s b V hs w=>?_,λi j s r b d V bo hs bi w bZ e=>?_,λi s w=>?_,λx O=>?_,λa0=>?_,b7,λu hu=>h.oi u (by rw[a3];exact List.mem_cons_of_mem _ hu),?_,h.pd,h.bd⟩;obtain⟨⟨b,D⟩,_⟩:=h.rt;grind;obtain⟨ar,D⟩:=back hs w;obtain⟨C,E⟩:=h.ac i s o hs D;exact⟨(ag.has _).2 ((a5 _ C).elim id λH=>absurd rfl (bn _ C H.2.2 i s o hs D)),E⟩;dsimp only;obtain⟨ar,D⟩:=back hs w;obtain⟨C,E⟩:=h.c1 i s b V hs D;have H:aw.cX ml (A.own i):=(a5 _ C).elim id λaq=>absurd (h.nl i k s 2 b a V f hs (.inr rfl) D (by have:=aq.1;subst this;exact Z) U) ar;exact⟨(ag.has _).2 H,λW=>⟨(E W).1,by rw[ag.par,(a4 _ H).2.2];exact(E W).2⟩⟩;exact h.nl i j s r b d V bo hs bi (back hs w).2 (back bi bZ).2 e;obtain⟨D,⟨b,V,C⟩,x,r,E,H,aq,bJ,bH⟩:=h.aL i s w;have ar:i≠k:=cm
 refine⟨D,⟨b,V,C.put _ ar⟩,x,r,E,H,aq,bJ,?_⟩;obtain⟨i2,p,a7,ao,cd,_,cf,ce,_⟩:=oO U bH;grind[au.cV,pR];dsimp only at O⊢;have bl:=(ag.has x).1 O;obtain⟨cc,co,_⟩:=a4 x bl;have E:hQ {A with l:=A.l.set k P,Q:=(aw.ek ml f (bj c)).1,q:=aF} x k=0:=(by rw[nZ (s:=P.st) (o:=P.o) ⟨P.cU,by dsimp only;rw[VZ (by rw[h.ok.n];exact aA)]⟩ x,al λh=>ay.1 h.1]);have H:hQ A x k=if f=x then bj c else 0:=(by rw[nZ Z x];(have e:(bz c a f).k.toNat=c:=by trivial);by_cases ao:f=x;rw[ax ⟨.inr rfl,ao⟩,ax ao,e,al (λh=>absurd h.1 am)];rfl;rw[al (λh=>ao h.2),al ao]);have C:=p2 (f:=hQ A x) (g:=hQ {A with l:=A.l.set k P,Q:=(aw.ek ml f (bj c)).1,q:=aF} x) aA λj _ ar=>(by grind[hQ]);rw[E,H]at C;have aq:=h.hl x cc;have bJ:=ag.fJ x bl;rw[n0]at aq⊢;grind;dsimp only;have aW:=h.mD a0;rw[a3,VF,Vq]at aW;dsimp only at aW;by_cases e:(a0 %256).toNat=k;have:au.dV (A.l.set k P) a0 2=none:=(by rw[au.dV,e,VZ (by rw[h.ok.n];exact aA)];dsimp only;rw[al λh=>ay.1 (.inr h.2)]);rw[this];refine⟨λN=>(by obtain⟨⟨p,a2⟩,_⟩:=N;cases a2),λN=>?_⟩;obtain⟨⟨⟨i,p⟩,a2⟩,W⟩:=aW.2 (.inr N);obtain⟨aP,a8,_,_⟩:=au.nw W a2;grind;grind[pR];have:=h.m3;simp_all
end Go.Proofs.Q
namespace Go.Proofs.Q.gm
open Go Go.QM
end Go.Proofs.Q.gm
namespace Go.Proofs.Q
open Go Go.QM
variable [cJ]
structure eR where
  lj:Nat
  bx:Nat
  S:cN
def fZ(aH af top:Nat)(A:bR):ay:=fg λy:eR=>pure' (cd top A y.S/\ch A) (ah [aj aH 135 [ae af,ae y.lj,ae y.bx],eT af top y.S,aZ 264 5 (cF y.lj) 256 256 (au.fh A.l),gm.dt y.bx A.pd A.now A.q])
def b3(l:List au.bV)(h k:Int):au.e7×Int:=if(au.cV l h).2=0/\k≠0/\(au.cV l h).1.k≠k then(au.mf,10)else au.cV l h
variable{h:Int}
theorem Bh{l:List au.bV}{k:Int}(e:(au.cV l h).2≠0):b3 l h k=au.cV l h:=al λx=>e x.1
theorem iS{l:List au.bV}:b3 l h 0=au.cV l h:=al λx=>x.2.1 rfl
theorem oW{l:List au.bV}{k:Int}(e:(au.cV l h).1.k=k):b3 l h k=au.cV l h:=al λx=>x.2.2 e
theorem Bg{l:List au.bV}{k:Int}(e:(au.cV l h).2=0)(d:k≠0)(u:(au.cV l h).1.k≠k):b3 l h k=(au.mf,10):=ax ⟨e,d,u⟩
def j3(A:bR)(h:Int):Int×Int:=if(b3 A.l h 1).2=0 then((A.own (h %256).toNat:Int),0)else(0,(b3 A.l h 1).2)
theorem jc{l:List au.bV}{k:Int}(d:0<=h)(e:(b3 l h k).2=0):∃i p,au.dV l h 1=some (i,p)/\l[i]? =some p/\p.st=1/\i<256/\h=p.cU*256+i/\(h %256).toNat=i/\b3 l h k=(p.o,0)/\(k=0\/p.o.k=k):=by have u:(au.cV l h).2=0/\(k=0\/(au.cV l h).1.k=k):=(by unfold b3 at e;grind);grind[oO,iS,oW]
variable(aH af top:Nat)(A:bR)
theorem Lk:bn 29 [ae aH] ba [fZ aH af top A] (ae af) [fZ aH af top A]:=by apply aF Tryz.func29 Tryz.ntmps29;intro F _;refine J [321] ?_;rintro⟨u,bx,S⟩ ⟨aN,d⟩;apply J [82];dsimp only at aN d⊢;apply J [124,41,50,104];exact e9 (az (⟨u,bx,S⟩:eR) ⟨aN,d⟩ ai)
theorem jZ(h:Int)(C:0<=h/\h<=4294967295)(k:Int):bn 19 [ae aH,aS h,aa k] ba [fZ aH af top A] (.tuple #[.agg (ints (b3 A.l h k).1.l).toArray,aa (b3 A.l h k).2]) [fZ aH af top A]:=by apply aF Tryz.func19 Tryz.ntmps19;intro F _;refine J [321] ?_;rintro⟨u,bx,S⟩ ⟨aN,d⟩;apply J [82];dsimp only at aN d⊢;refine J [25,247] ?_;intro bb;apply J [31,41,65,29];apply ew (au.zX u A.l h d.ok C) ⟨_,bi.rd (ad:=some ⟨u,0,none⟩)⟩;apply J [15];by_cases g0:(au.cV A.l h).2=0;refine J [230] ?_;intro cp;apply J [116,27,193];refine VL 24 rfl (c:=true) (c7 g0) ?_;by_cases g1:k=0;subst g1;rw[iS];apply J [13,240,51];refine VL 28 rfl (c:=false) (dn U) ?_;apply J [45,149,107,130,227,26];exact YE () [_,_] ⟨(e5 (n:=3) rfl rfl rfl rfl),rfl,trivial⟩ rfl trivial (az (⟨u,bx,S⟩:eR) ⟨aN,d⟩ ai);apply J [13,240,51];refine VL 28 rfl (c:=true) (c7 g1) ?_;apply J [192,13,240,190];apply Vf rfl<;>intro w;rw[Bg g0 g1 w];apply J [24,251,66,123];exact YE () [_,_] ⟨(e5 (n:=3) rfl rfl rfl rfl),rfl,trivial⟩ rfl trivial (az (⟨u,bx,S⟩:eR) ⟨aN,d⟩ ai);rw[oW (Vh w)];apply J [4,130,227,26];exact YE () [_,_] ⟨(e5 (n:=3) rfl rfl rfl rfl),rfl,trivial⟩ rfl trivial (az (⟨u,bx,S⟩:eR) ⟨aN,d⟩ ai);rw[Bh g0];refine J [230] ?_;intro bD;apply J [116,27,193];refine VL 24 rfl (c:=false) (dn g0) ?_;apply J [48,40,45,149,107,130,227,26];exact YE () [_,_] ⟨(e5 (n:=3) rfl rfl rfl rfl),rfl,trivial⟩ rfl trivial (az (⟨u,bx,S⟩:eR) ⟨aN,d⟩ ai)
theorem KQ(h:Int)(w:0<=h/\h<=4294967295):bn 39 [ae aH,aS h] ba [fZ aH af top A] (.tuple #[.agg (ints (au.jA A.l h).1.l).toArray,.bool (decide ((au.jA A.l h).2=0))]) [fZ aH af top A]:=by apply aF Tryz.func39 Tryz.ntmps39;intro F _;refine J [321] ?_;rintro⟨u,bx,S⟩ ⟨aN,d⟩;apply J [82];dsimp only at aN d⊢;refine J [25,247] ?_;intro C;apply J [105,41,65,29];apply ew (au.QL u A.l h d.ok w) ⟨_,bi.rd (ad:=some ⟨u,0,none⟩)⟩;refine J [15,230] ?_;intro D;apply J [66,28,130,3,297,66,70];exact YE () [_,_] ⟨(e5 (n:=3) rfl rfl rfl rfl),rfl,trivial⟩ rfl trivial (az (⟨u,bx,S⟩:eR) ⟨aN,d⟩ ai)
theorem zf:bH 16 [ae aH] ba [fZ aH af top A] (λy:Option Addr×Nat=>.slice y.1 (au.dy A.l 1).length y.2) (λ_=>True) (λy=>[aZ 33 1 y.1 (au.dy A.l 1).length y.2 (cL .u32 (au.dy A.l 1)),fZ aH af top A]):=by apply aF Tryz.func16 Tryz.ntmps16;intro F _;refine J [321] ?_;rintro⟨u,bx,S⟩ ⟨aN,d⟩;apply J [82];dsimp only at aN d⊢;apply J [196,41,65,0];apply eL (au.FM u A.l d.ok) ⟨_,bi.rd (ad:=some ⟨u,0,none⟩)⟩;intro y _;apply J [15,61];exact br y trivial (an (az (⟨u,bx,S⟩:eR) ⟨aN,d⟩ ai))
theorem LX:bH 38 [ae aH] ba [fZ aH af top A] (λy:Option Addr×Nat=>.slice y.1 (au.dy A.l 2).length y.2) (λ_=>True) (λy=>[aZ 33 1 y.1 (au.dy A.l 2).length y.2 (cL .u32 (au.dy A.l 2)),fZ aH af top A]):=by apply aF Tryz.func38 Tryz.ntmps38;intro F _;refine J [321] ?_;rintro⟨u,bx,S⟩ ⟨aN,d⟩;apply J [82];dsimp only at aN d⊢;apply J [196,41,65,0];apply eL (au.UQ u A.l d.ok) ⟨_,bi.rd (ad:=some ⟨u,0,none⟩)⟩;intro y _;apply J [15,61];exact br y trivial (an (az (⟨u,bx,S⟩:eR) ⟨aN,d⟩ ai))
theorem ch.G1{A:bR}(h:ch A):A.q.length<=256:=by have d:((A.q.map (·.1)).map λx:Int=>(x %256).toNat).Nodup:=(by rw[List.Nodup,Yt];refine List.Pairwise.imp_of_mem ?_ h.oh;intro a b w C Z e;obtain⟨⟨⟨i,p⟩,D⟩,u⟩:=(h.mD a).2 w;obtain⟨⟨⟨j,r⟩,E⟩,d⟩:=(h.mD b).2 C;obtain⟨H,N,O,_⟩:=au.nw u D;obtain⟨P,V,W,_⟩:=au.nw d E;grind);have:=vh d (m:=List.range 256) λx ag=>cm;simp_all
def s4:Option Nat->Int
  | some x=>(x:Int)
  | none=>0
structure qm(top:Nat)(S:cN)(a:Int)(c x:Nat)(a8:cN):Prop where
  q:(aw.de S.Q a (bj c:Int)).2=0/\a8.Q=(aw.de S.Q a (bj c:Int)).1/\a8.bt=S.bt
  g:gf top S a8 hV hV
  b:c8 a8 c x
  n:¬c8 S c x
  z:∀o,x<=o->o+8<=x+bj c->cW a8.m o=0
  u:gQ (960/cc 6) (a8.C 6)=gQ (960/cc 6) (S.C 6)
  p:(dk a8.C a8.Fr).length<=(dk S.C S.Fr).length+1
def JO(top:Nat)(S:cN)(a:Int)(c:Nat):Option Nat×cN×Int->Prop
  | (some x,a8,e)=>e=0/\qm top S a c x a8
  | (none,a8,e)=>e≠0/\a8=S/\(e=(aw.de S.Q a (bj c:Int)).2\/e=4/\2^top<=(dk S.C S.Fr).length)
def ic(c:Nat):Prop:=1<=c/\c<=5\/c=8
theorem Gj{c:Nat}(h:ic c)(d:c≠8):c∈cls/\bj c=cc c/\c≠6:=by have:c∈cls:=wd.2 (by rcases h with h|h<;>omega);exact⟨this,qK this,by rcases h with h|h<;>omega⟩
theorem xE(C:Nat->List cg)(Fr:List Nat)(p:Nat):(p::dk C Fr).Perm (dk C (p::Fr)):=by grind[dk]
variable{S a8:cN}
theorem dd.Np{top:Nat}(h:dd top S){p:Nat}(O:p<2^top)(D:p∉dk S.C S.Fr)(u:a8.C=S.C)(w:a8.Fr=p::S.Fr):dd top a8:=by obtain⟨N,V,E,H,P⟩:=a8;dsimp only at u w;subst u;subst w;exact⟨h.gd,h.ok,(xE _ _ _).nodup_iff.1 (Vw.2 ⟨D,h.bq⟩),λq d=>by rcases Vq.1 ((xE _ _ _).mem_iff.2 d)with rfl|d;trivial;exact h.lt q d⟩
theorem GC{top:Nat}(d:dd top S){a:Int}{c:Nat}(u:c∈cls)(E:c≠6)(e:bj c=cc c){y:Nat×Nat×List cg}(N:(aw.de S.Q a (cc c:Int)).2=0)(g:iV top S c y):qm top S a c (addr c y) (kf S a c (some y)):=by obtain⟨g1,g2⟩:=wE (a8:=kf S a c (some y)) d u g rfl rfl λo H=>vv H;refine⟨by rw[e];exact⟨N,rfl,rfl⟩,g1,g2,λk=>g.uK d u k ⟨rfl,rfl⟩,λo w D=>w9 w (by rw[<-e];exact D),?_,g.len⟩;exact congrArg (gQ (960/cc 6)) (jh S.C y.2.2 λh=>E h.symm)
theorem Qo{top p:Nat}(w:dd top S){a:Int}(H:(aw.de S.Q a 1024).2=0)(d:p<2^top)(u:p∉dk S.C S.Fr)(e:a8=⟨(aw.de S.Q a 1024).1,S.bt,S.C,p::S.Fr,hf S.m (p*1024) 1024⟩):qm top S a 8 (p*1024) a8/\dd top a8:=by
 have D:dd top a8:=w.Np d u jN jN;obtain⟨g1,g2,g3⟩:=Nq w D jN jN λo E=>by rw[e];exact vv E
 refine⟨⟨by rw[e];exact⟨H,rfl,rfl⟩,g1,g2,g3,λo d u=>by rw[e];exact w9 d u,by rw[e],?_⟩,D⟩;have:=(xE S.C S.Fr p).length_eq;simp_all
structure tC(top:Nat)(S:cN)(a:Int)(c x:Nat)(a8:cN):Prop where
  q:a8.Q=(aw.ek S.Q a (bj c:Int)).1/\a8.bt=S.bt
  g:gf top S a8 (fz c x) (fz c x)
  u:gQ (960/cc 6) (a8.C 6)=gQ (960/cc 6) (S.C 6)
  p:(dk a8.C a8.Fr).length<=(dk S.C S.Fr).length
theorem Qv{top:Nat}(w:dd top S){a:Int}{c x aD i:Nat}{L':List cg}(d:c∈cls)(u:c≠6)(D:x=aD*1024+64+i*cc c)(g:jV top S c aD i L')(e:a8=⟨(aw.ek S.Q a (cc c:Int)).1,S.bt,dK S.C c L',S.Fr,S.m⟩):tC top S a c x a8:=
 ⟨by rw[e,qK d];exact⟨rfl,rfl⟩,wD w d g D jN jN jN,by rw[e];exact congrArg (gQ (960/cc 6)) (jh S.C L' λh=>u h.symm),by rw[e];exact g.len⟩
theorem Qw{top p:Nat}(d:dd top S){a:Int}(e:a8=⟨(aw.ek S.Q a 1024).1,S.bt,S.C,S.Fr.erase p,S.m⟩):tC top S a 8 (p*1024) a8:=
 ⟨by rw[e];exact⟨rfl,rfl⟩,Ns d jN jN jN,by rw[e],by rw[e];dsimp only;rw[dk,dk,mp,mp];have:=List.length_erase_le (a:=p) (l:=S.Fr);omega⟩
theorem QR{C:Nat->List cg}{Fr:List Nat}{p:Nat}(ao:p∉cls.flatMap (hG C))(d:p∈Fr):(dk C (Fr.erase p)).Perm ((dk C Fr).erase p):=by grind[dk]
theorem Dz(E bx top:Nat)(S:cN)(a:Int)(c:Nat)(a0:ic c):bH 131 [ae aH,aa a,aa c] da [aj aH 135 [ae af,ae E,ae bx],eT af top S] (λy:Option Nat×cN×Int=>.tuple #[aa (s4 y.1),aa y.2.2]) (λy=>JO top S a c y) (λy=>[aj aH 135 [ae af,ae E,ae bx],eT af top y.2.1]):=by
 apply aF Tryz.func131 Tryz.ntmps131;intro F aP;apply J [11];haveI:cv F:=⟨aP⟩;refine ab.open 1 rfl (λP O=>?_);obtain⟨cO,bd,d,w⟩:=P;have D:=O;apply J [245];dsimp only at D⊢;have a5:=D.gd;have bh:2^top<=128:=Vk (n:=2) am a5.2;refine ab.open 1 rfl (λP O=>?_);obtain⟨a9,ba⟩:=P;have av:=O;apply J [79];refine WD (B:=ah [aj af 169 (gI 8 cO bd d w),aw.dt cO S.Q S.bt,j2 bd top (dk S.C S.Fr),fX d S.m (1024*2^top),b8 (λc=>kH (w c) bd (cc c) (S.C c)) cls,aj aH 135 [ae af,ae E,ae bx],F]) (c0 (az (⟨a9,ba⟩:aw.oE) av ai)) ?_;by_cases Z:c=8;subst Z;apply J [24,218,39];refine Vf rfl (λao=>absurd ao U) (λao=>?_);apply J [44,50,54,29];apply aq (aw.G2 cO S.Q S.bt a 1024);apply J [18,126];apply Vf rfl<;>intro u;apply J [189];have a3:=DA u;exact cT (none,S,(aw.de S.Q a 1024).2) ⟨u,rfl,.inl rfl⟩ (by rw[a3];exact(eE (az (dG.mk cO bd d w:dG af) D ai)));have u:=Vh u;apply J [4,50,80,58,0];apply a7 (Dl bd top (dk S.C S.Fr));intro V ay;apply J [18];cases V with|none=>?_|some aD=>?_
 have a2:2^top<=(dk S.C S.Fr).length:=ay;dsimp only[vk,qx,mS];have a4:=s9 av u;apply J [129,39,12,50,54,29];apply aq (aw.xJ cO (aw.de S.Q a 1024).1 S.bt a 1024);apply J [18];rw[a4];apply J [2,189];exact cT (none,S,4) ⟨by decide,rfl,.inr ⟨rfl,a2⟩⟩ (eE (az (dG.mk cO bd d w:dG af) D ai));have N:aD<2^top/\aD∉dk S.C S.Fr:=ay;dsimp only[vk,qx,mS];obtain⟨a8,W⟩:∃a8:cN,a8=⟨(aw.de S.Q a 1024).1,S.bt,S.C,aD::S.Fr,hf S.m (aD*1024) 1024⟩:=⟨_,rfl⟩;obtain⟨cG,aW⟩:=Qo D u N.1 N.2 W;have bc:=N.1;apply J [129,172,233];apply aq (l9 af cO bd d w);apply J [18,29];refine aI (Dg d (1024*2^top) (aD*1024) 1024 S.m U U U) (congrArg (λz:Int=>[Yi (some ⟨d,0,none⟩),.int .i64 z,.int .i64 1024,.int .u8 0]) cE) eC.p trivial ?_;intro _ _;apply J [18,2,27,99];exact YE (some (aD*1024),a8,0) [aa ((aD:Int)*1024),aa 0] ⟨rfl,rfl,trivial⟩ (by dsimp only[s4];rw[show((aD*1024:Nat):Int)=(aD:Int)*1024 by simp];rfl) ⟨rfl,cG⟩ (by subst W;exact(eE (az (dG.mk cO bd d w:dG af) aW (bU (bv (eI 1 rfl (vW _ _ (xE _ _ _)) ai))))));obtain⟨ar,au,aL⟩:=Gj a0 Z;refine WD (B:=ah [aj aH 135 [ae af,ae E,ae bx],eT af top S,F]) (eE (az (dG.mk cO bd d w:dG af) D ai)) ?_;apply J [24,218,39];refine Vf rfl (λag=>?_) (λag=>absurd U ag);apply J [50,208];apply a7 (uU af top S a c ar);intro⟨V,cq⟩ H;apply J [6];cases V with|none=>?_|some y=>?_
 dsimp only[pn,kf];apply J [91,91,326];exact cT (none,S,cq) ⟨H.1,rfl,by rw[au];exact H.2⟩ ai;obtain⟨rfl,u,cG⟩:=H;dsimp only[pn];apply J [91,91,326];exact cT (some (addr c y),kf S a c (some y),0) ⟨rfl,GC D ar aL au u cG⟩ ai
theorem wi(E bx top:Nat)(S:cN)(c x:Nat)(f:Int)(ay:ic c)(aQ:c8 S c x)(Z:(aw.ek S.Q f (bj c:Int)).2=0):bH 133 [ae aH,.agg (ints (bz (c:Int) x f).l).toArray] da [aj aH 135 [ae af,ae E,ae bx],eT af top S] (λ_:cN=>.tuple #[]) (λa8=>tC top S f c x a8) (λa8=>[aj aH 135 [ae af,ae E,ae bx],eT af top a8]):=by
 apply aF Tryz.func133 Tryz.ntmps133;intro F ar;apply J [11];haveI:cv F:=⟨ar⟩;refine ab.open 1 rfl (λa3 a2=>?_);obtain⟨cO,bd,N,O⟩:=a3;have d:=a2;apply J [245];dsimp only at d⊢;have a0:=d.gd;have a5:2^top<=128:=Vk (n:=2) am a0.2;by_cases D:c=8;·subst D;obtain⟨u,gi,rfl⟩:∃p∈S.Fr,x=p*1024:=(by rcases aQ with⟨h,_⟩|⟨_,h⟩;all_goals trivial);refine J [25,259] ?_;intro bD;apply J [30,71,87,2];refine Vf rfl (λV=>absurd V (λh=>h rfl)) (λV=>?_);have eM:=zR d gi;(have W:u∈dk S.C S.Fr:=by grind[dk]);have a4:=d.lt u W;obtain⟨a8,w⟩:∃a8:cN,a8=⟨(aw.ek S.Q f 1024).1,S.bt,S.C,S.Fr.erase u,S.m⟩:=⟨_,rfl⟩;have au:dd top a8:=d.IA (by rw[w]) (by rw[w]);apply J [44];refine cC [0,1,2,3,4,5,6,7,8,-9] (an (an (eQ (aX _)))) ?_;apply J [49,88,109,135,17];apply aq (aw.xJ cO S.Q S.bt f 1024);refine J [290,110] ?_;refine cC [0,1,2,3,4,5,6,7,8,-9] (bU (bU (eQ (aX _)))) ?_;apply J [49,88,181,313];refine aI (Dj bd top (dk S.C S.Fr) u W) (congrArg (λz:Int=>[Yi (some ⟨bd,0,none⟩),.int .i64 z]) (show((u*1024:Nat):Int)=(u:Int)*1024 by simp)) eC.p trivial ?_;intro _ _;refine J [290,10] ?_;refine ca.nil ?_;exact mR a8 (Qw d w) (by subst w;exact(bP 6 rfl (az (dG.mk cO bd N O:dG af) au (c0 (bU (eI 0 rfl (vW _ _ (QR eM gi).symm) ai))))))
 refine WD (B:=ah [aj aH 135 [ae af,ae E,ae bx],eT af top S,F]) (eE (az (dG.mk cO bd N O:dG af) d ai)) ?_;obtain⟨H,aW,ao⟩:=Gj ay D;rw[aW]at Z;obtain⟨k,aD,i,f2,aP,aL,rfl⟩:=(aQ.jQ H).at;refine J [25,259] ?_;intro bb;apply J [30,71,87,2];refine Vf rfl (λP=>?_) (λP=>absurd (λh=>D (by have bJ:(c:Int)=8:=h;omega)) P);refine ab.seq ?_;refine cC [0,1,2,3,4,5,6,7,8,9,-10] (an (an (aX _))) ?_;apply J [49,135,109,313];apply a7 (uV af top S c H k aD i f2 aP aL f Z);intro ag cG;refine J [350,110,74] ?_;exact CX ⟨(aw.ek S.Q f (cc c:Int)).1,S.bt,dK S.C c ag,S.Fr,S.m⟩ (Qv d H ao rfl cG rfl) ai
end Go.Proofs.Q
namespace Go.QM
open Go
section
variable {r : Option Nat} {P : Program} {N : Nat} {ops : Array Oper} {l : List Oper} {Q : fk} {ag : Env} {aP : List Deferred} {I : ay} {c : Code} {T : List Nat} {co : List (Nat × Bool)}
variable(n:Nat){hs tb:List ay}
theorem ab.lU{α:Type}{p:α->Prop}{B:α->List ay}(h:eV n hs=some (fg (λx=>pure' (p x) (ah (B x))),tb))(k:(∃x,p x)->ab r P N c Q ag aP (ah hs)):ab r P N c Q ag aP (ah hs):=
  λa w u hs=>let⟨x,d,_⟩:=sI n h hs;k ⟨x,d⟩ a w u hs
theorem aU.lU{α:Type}{p:α->Prop}{B:α->List ay}(h:eV n hs=some (fg (λx=>pure' (p x) (ah (B x))),tb))(k:(∃x,p x)->aU r P N ops l Q ag aP (ah hs)):aU r P N ops l Q ag aP (ah hs):=
  λa w u hs=>let⟨x,d,_⟩:=sI n h hs;k ⟨x,d⟩ a w u hs
theorem ca.lU{α:Type}{p:α->Prop}{B:α->List ay}(h:eV n hs=some (fg (λx=>pure' (p x) (ah (B x))),tb))(k:(∃x,p x)->ca r P N ops I T co Q ag aP (ah hs)):ca r P N ops I T co Q ag aP (ah hs):=
  λa w listed u hs=>let⟨x,d,_⟩:=sI n h hs;k ⟨x,d⟩ a w listed u hs
theorem ab.dj{A:ay}{p:Prop}(h:eV n hs=some (A,tb))(u:∀d,A d->p)(k:p->ab r P N c Q ag aP (ah hs)):ab r P N c Q ag aP (ah hs):=
  λa w D hs=>by obtain⟨d,V,E,W,H,rfl,C,O⟩:=hs.bg (fG h);exact k (u E C) a w D hs
theorem aU.dj{A:ay}{p:Prop}(h:eV n hs=some (A,tb))(u:∀d,A d->p)(k:p->aU r P N ops l Q ag aP (ah hs)):aU r P N ops l Q ag aP (ah hs):=
  λa w D hs=>by obtain⟨d,V,E,W,H,rfl,C,O⟩:=hs.bg (fG h);exact k (u E C) a w D hs
theorem ca.dj{A:ay}{p:Prop}(h:eV n hs=some (A,tb))(u:∀d,A d->p)(k:p->ca r P N ops I T co Q ag aP (ah hs)):ca r P N ops I T co Q ag aP (ah hs):=
  λa w listed D hs=>by obtain⟨d,V,E,W,H,rfl,C,O⟩:=hs.bg (fG h);exact k (u E C) a w listed D hs
end
end Go.QM
namespace Go.Proofs.Q
open Go Go.QM
variable [cJ]
theorem KZ{L:List aw.bS}{d f lim:Int}(h:(aw.fO L d f lim).2.2.2≠0):(aw.fO L d f lim).1=L/\(aw.fO L d f lim).2.1=d/\(aw.fO L d f lim).2.2.1=0:=by unfold aw.fO at h⊢;grind
theorem KY{L:List aw.bS}{d f lim:Int}(h:(aw.fO L d f lim).2.2.2=0):aw.cX L f/\aw.fO L d f lim=(L++[⟨d,f,lim,0⟩],d+1,d,0):=by unfold aw.fO at h⊢;grind
theorem K0{L:List aw.bS}{d f lim:Int}(h:0<=d):0<=(aw.fO L d f lim).2.2.1/\(aw.fO L d f lim).2.2.1<=d:=by grind[aw.fO]
def n2(S:cN)(x:Nat)(f lim:Int):cN:=⟨(aw.fO S.Q S.bt f lim).1,(aw.fO S.Q S.bt f lim).2.1,S.C,S.Fr,dA S.m x [(aw.fO S.Q S.bt f lim).2.2.1.toNat]⟩
def rf(S:cN)(l:List au.bV)(c x:Nat)(f lim:Int)(y:cN×Int):Prop:=
  (y=(S,11)/\(au.dy l 0).length=0)\/(y=(S,0)/\(au.dy l 0).length≠0/\c≠1)\/(y=(n2 S x f lim,(aw.fO S.Q S.bt f lim).2.2.2)/\(au.dy l 0).length≠0/\c=1)
theorem LU{top:Nat}{S:cN}(d:dd top S){x:Nat}(aQ:c8 S 1 x)(f lim:Int):gf top S (n2 S x f lim) hV (fz 1 x):=
 oM d aQ rfl rfl λo h=>kQ (by(have e:bj 1=64:=rfl);simp only[Vy,WX];omega)
section
variable {top : Nat} {A : bR} {S cl dH gM : cN} {c x : Nat} {f lim e : Int}
theorem A0(aN:cd top A S)(g:qm top S f c x cl){i:Nat}{s:Int}{d b:Nat}{w:Int}(hs:fl s)(D:cB A.l i s (bz d b w)):¬fz c x d b:=by
 rintro⟨rfl,rfl⟩;obtain⟨u,E,f9,e,_,C⟩:=aN.obj i s _ hs D;obtain⟨H,rfl,_⟩:=jz e;obtain rfl:u=d:=by omega
 exact g.n C
theorem wv(d:ic c)(aN:cd top A S)(g:qm top S f c x cl){l:List au.bV}(h:rf cl l c x f lim (dH,e)):gf top cl dH hV (fz c x)/\dH.C=cl.C/\dH.Fr=cl.Fr:=by rcases h with⟨h,_⟩|⟨h,_⟩|⟨h,_,rfl⟩;cases h;exact⟨oM g.g.P g.b rfl rfl λ_ _=>rfl,rfl,rfl⟩;cases h;exact⟨oM g.g.P g.b rfl rfl λ_ _=>rfl,rfl,rfl⟩;cases h;exact⟨LU g.g.P g.b f lim,rfl,rfl⟩
theorem Et{l:List au.bV}(h:rf cl l c x f lim (dH,e))(he:e≠0):dH.Q=cl.Q/\dH.bt=cl.bt:=by rcases h with⟨h,_⟩|⟨h,_⟩|⟨h,_,_⟩;simp_all;simp_all;cases h;have:=KZ he;exact⟨this.1,this.2.1⟩
theorem F5(w:ch A)(V:A.np+2<=1000000)(C:ic c)(aN:cd top A S)(g:qm top S f c x cl){l:List au.bV}(h:rf cl l c x f lim (dH,e))(he:e≠0)(k:tC top dH f c x gM):cd top {A with np:=A.np+2} gM/\ch {A with np:=A.np+2}:=by obtain⟨g1,g2,g3⟩:=wv C aN g h;obtain⟨N,O⟩:=Et h he;have H:gM.Q=A.Q/\gM.bt=A.bt:=(by rw[k.q.1,k.q.2,N,O,g.q.2.1,g.q.2.2,aN.Q.1];have:=g.q.1;rw[aN.Q.1]at this;rw[s9 w.dQ this];exact⟨rfl,aN.Q.2⟩);have D:∀a,¬fz c x 6 a/\¬fz c x 7 a:=λa=>⟨λh=>by rcases C with C|C<;>have:=h.1<;>omega,λh=>by rcases C with C|C<;>have:=h.1<;>omega⟩;refine⟨aN.mY ((g.g.trans g1).trans k.g) rfl rfl rfl rfl H (λi s d b P hs E=>?_) (λa=>?_) ?_ ?_,⟨w.ok,w.dQ,w.rt,w.ac,w.c1,w.nl,w.aL,w.hl,w.mD,w.oh,w.oi,w.m3,w.pd,by have:=w.bd;dsimp only;omega⟩⟩;have:=A0 aN g hs E;exact⟨λh=>by rcases h with(h|h)|h;exact h;exact h;exact this h,λh=>by rcases h with(h|h)|h;exact h.elim;exact absurd h this;exact absurd h this⟩;exact⟨λh=>by rcases h with(h|h)|h;exact h;exact(D a).1 h;exact(D a).1 h,λh=>by rcases h with(h|h)|h;exact h;exact(D a).2 h;exact(D a).2 h⟩;rw[k.u,g2,g.u];have:=k.p;rw[g2,g3]at this;have:=g.p;have:=aN.gb;grind
structure vE(A:bR)(h kind lim:Int)(bl:bR)(nn:Int):Prop where
  ao:0<=nn/\nn<=4294967295
  ex:∃(c x k:Nat) (g:Int) (dv:au.e7) (Q:List aw.bS) (bt:Int) (own:Nat->Nat),kind=c/\ic c/\A.l[k]? =some ⟨dv,0,g⟩/\A.l.findIdx? au.isEmpty=some k/\nn=g*256+k/\
    bl={A with l:=A.l.set k ⟨bz c x (A.own (h %256).toNat),1,g⟩,Q:=Q,bt:=bt,own:=own,np:=A.np+2}/\(c≠1->Q=(aw.de A.Q (A.own (h %256).toNat) (bj c)).1/\bt=A.bt/\own=A.own)
theorem RL{l:List au.bV}(C:au.dN l)(h:(au.dy l 0).length≠0):∃k o g,l.findIdx? au.isEmpty=some k/\l[k]? =some ⟨o,0,g⟩/\0<=g/\g<=1048575/\k<256:=by cases u:l.findIdx? au.isEmpty with|none=>rw[List.findIdx?_eq_none_iff]at u;exfalso;apply h;rw[au.dy,au.mn,Wb,List.length_eq_zero_iff,List.filter_eq_nil_iff];rintro⟨p,i⟩ d w;have hm:=Vg (Yk.1 d);have:=u p hm;dsimp only at w;rw[au.isEmpty]at this;rw[this]at w;cases w|some k=>obtain⟨p,d,hs⟩:=au.Ez u;obtain⟨o,s,g⟩:=p;dsimp only at hs;subst hs;have:=C.cU _ (Vg d);exact⟨k,o,g,rfl,d,this.1,this.2,C.lt d⟩
theorem Q1{l:List au.bV}{k:Nat}{dv o:au.e7}{g:Int}(h:l.findIdx? au.isEmpty=some k)(d:l[k]? =some ⟨dv,0,g⟩):au.ma l o=(l.set k ⟨o,1,g⟩,g*256+k,0):=by grind[au.ma]
theorem F6(C:ch A)(ci:A.np+2<=1000000){h:Int}(a5:aw.cX A.Q (A.own (h %256).toNat))(D:ic c)(aN:cd top A S)(g:qm top S (A.own (h %256).toNat) c x cl)(w:rf cl A.l c x (A.own (h %256).toNat) lim (dH,0)):
 ∃bl,cd top bl dH/\ch bl/\vE A h c lim bl (au.ma A.l (bz c x (A.own (h %256).toNat))).2.1/\bl.l=(au.ma A.l (bz c x (A.own (h %256).toNat))).1/\(au.ma A.l (bz c x (A.own (h %256).toNat))).2.2=0/\bl.q=A.q/\bl.now=A.now/\bl.pd=A.pd:=by
 have bV:(au.dy A.l 0).length≠0:=(by rcases w with⟨w,_⟩|⟨_,w,_⟩|⟨_,w,_⟩;all_goals simp_all);obtain⟨k,dv,g0,ar,O,cc,ce,cf⟩:=RL C.ok bV;rw[Q1 ar O];obtain⟨g1,g2,g3⟩:=wv D aN g w;have a8:bj c≠0:=by have:=(c8.bd g.g.P g.b).2.2.1;omega
 obtain⟨ba,bc,bh⟩:=g.q;rw[aN.Q.1]at ba bc;rw[aN.Q.2]at bh;have H:=jG.hl C.dQ ba;have bR:=g.g.trans g1;have a7:∀s o,cB A.l k s o->¬fl s:=λs o Z=>(by have:=(Z.inj ⟨g0,O⟩).1;subst this;decide);have a9:∀i s (a0:Int),fl s->¬cB A.l i s (bz c x a0):=λi s a0 hs Z=>A0 aN g hs Z ⟨rfl,rfl⟩;have a2:∀a,¬fz c x 6 a/\¬fz c x 7 a:=λa=>⟨λh=>by rcases D with D|D<;>have:=h.1<;>omega,λh=>by rcases D with D|D<;>have:=h.1<;>omega⟩;have b0:∀s,A.aL k s=0:=C.zz ⟨g0,O⟩ (.inl am);have a4:∀(Q:List aw.bS) (bt:Int),dH.Q=Q->dH.bt=bt->cd top {A with Q:=Q,bt:=bt,np:=A.np+2} dH:=λQ bt bN ag=>(by refine aN.mY bR rfl rfl rfl rfl ⟨bN,ag⟩ (λi s d b cg hs Z=>?_) (λa=>?_) (by rw[g2];exact g.u) ?_;have:=A0 aN g hs Z;exact⟨λh=>h.elim id id,λh=>h.elim (λh=>h.elim) λh=>absurd h this⟩;exact⟨λh=>h.elim id (a2 a).1,λh=>h.elim id (a2 a).2⟩;rw[g2,g3];have:=g.p;have:=aN.gb;grind);have a3:c8 dH c x:=g1.p c x g.b λh=>h;by_cases ay:c=1;subst ay;rcases w with⟨w,_⟩|⟨_,_,w⟩|⟨w,_,_⟩;trivial;trivial;obtain⟨aP,aW⟩:=Prod.mk.inj w;rw[bc,bh]at aW;obtain⟨b7,bn⟩:=KY aW.symm;have ag:0<=A.bt/\¬aw.cX A.Q A.bt:=(by refine⟨?_,λ⟨t,E,he⟩=>by have:=(C.dQ.rg t E).2.1;omega⟩;obtain⟨t,E,_⟩:=C.dQ.root;have:=(C.dQ.rg t E);omega);have ck:A.bt≠0:=λe=>ag.2 (by rw[e];exact C.dQ.root);have V:dH.Q=(aw.de A.Q (A.own (h %256).toNat) (bj 1)).1++[⟨A.bt,A.own (h %256).toNat,lim,0⟩]/\dH.bt=A.bt+1/\dH.m=dA cl.m x [A.bt.toNat]:=(by grind[n2]);have W:=H.dQ.KX (A.own (h %256).toNat) lim;rw[bn]at W;dsimp only at W;have aF:=(a4 _ _ V.1 V.2.1).put (bl:={A with l:=A.l.set k ⟨bz (1:Nat) x (A.own (h %256).toNat),1,g0⟩,Q:=(aw.de A.Q (A.own (h %256).toNat) (bj 1)).1++[⟨A.bt,A.own (h %256).toNat,lim,0⟩],bt:=A.bt+1,own:=λi=>if i=k then A.bt.toNat else A.own i,np:=A.np+2}) a7 D a3 a9 rfl rfl (λi aA=>al aA) (λ_=>by dsimp only;rw[ax rfl,V.2.2];have:=C.bd;exact Cl U) rfl ⟨rfl,rfl,rfl⟩ (λh=>absurd h am);refine⟨_,aF,C.put O a8 a5 W (λy N=>?_) (λy N ao=>?_) (λ_=>?_) (λi aA=>al aA) U (by have:=C.bd;omega),⟨by dsimp only;omega,1,x,k,g0,dv,_,_,_,rfl,D,O,ar,rfl,rfl,λh=>absurd rfl h⟩,rfl,rfl,rfl,rfl,rfl⟩;have bZ:=(H.has y).2 N;obtain⟨t,E,rfl⟩:=bZ;have hm:t∈(aw.de A.Q (A.own (h %256).toNat) (bj 1)).1++[(⟨A.bt,A.own (h %256).toNat,lim,0⟩:aw.bS)]:=cm
 have aq:=aw.hB W.bq hm;have bi:=aw.hB H.dQ.bq E;exact⟨⟨t,hm,rfl⟩,by rw[aq.2.2.1,<-bi.2.2.1];exact H.fJ _ N,by rw[aq.2.2.2,<-bi.2.2.2];exact H.par _⟩;obtain⟨t,E,rfl⟩:=N;have aq:=aw.hB W.bq E;rcases Ve.1 E with E|E;exact absurd ((H.has _).1 ⟨t,E,rfl⟩) ao;grind;rw[ax rfl,Wf ag.1];have hm:(⟨A.bt,A.own (h %256).toNat,lim,0⟩:aw.bS)∈(aw.de A.Q (A.own (h %256).toNat) (bj 1)).1++[(⟨A.bt,A.own (h %256).toNat,lim,0⟩:aw.bS)]:=cm
 have aq:=aw.hB W.bq hm;exact⟨⟨_,hm,rfl⟩,ag.2,by omega,aq.2.2.2⟩;have aP:dH=cl:=(by rcases w with⟨w,_⟩|⟨w,_⟩|⟨_,_,w⟩;all_goals simp_all);have V:dH.Q=(aw.de A.Q (A.own (h %256).toNat) (bj c)).1/\dH.bt=A.bt:=b2
 have aF:=(a4 _ _ V.1 V.2).put (bl:={A with l:=A.l.set k ⟨bz c x (A.own (h %256).toNat),1,g0⟩,Q:=(aw.de A.Q (A.own (h %256).toNat) (bj c)).1,np:=A.np+2}) a7 D a3 a9 rfl rfl (λ_ _=>rfl) (λh=>absurd h ay) rfl ⟨rfl,rfl,rfl⟩ (λh=>⟨λo bo bH=>by rw[aP];exact g.z o bo (by subst h;exact bH),b0⟩);exact⟨_,aF,C.put O a8 a5 H.dQ (λy N=>⟨(H.has y).2 N,H.fJ y N,H.par y⟩) (λy N ao=>absurd ((H.has y).1 N) ao) (λh=>absurd h ay) (λ_ _=>rfl) U (by have:=C.bd;omega),⟨by dsimp only;omega,c,x,k,g0,dv,_,_,_,rfl,D,O,ar,rfl,rfl,λ_=>⟨rfl,rfl,rfl⟩⟩,rfl,rfl,rfl,rfl,rfl⟩
end
theorem ch.Bn{A:bR}(h:ch A){i a:Nat}{s f:Int}(hs:fl s)(d:cB A.l i s (bz 1 a f)):A.own i<=1000000:=by obtain⟨⟨t,u,he⟩,_⟩:=h.c1 i s a f hs d;have:=(h.dQ.rg t u).2.1;have:=h.bd;omega
theorem uN{o:au.e7}{c a:Nat}{f:Int}(h:o=bz c a f){k:Int}(d:o.k=k):o=bz k a f:=by rw[h]at d⊢;rw[<-d];rfl
variable(aH af top:Nat)
theorem LW(A:bR)(i a:Nat)(s f:Int)(hs:fl s)(C:cB A.l i s (bz 1 a f)):bn 100 [ae aH,.agg (ints (bz 1 a f).l).toArray] ba [fZ aH af top A] (aa (A.own i:Int)) [fZ aH af top A]:=by
 apply aF Tryz.func100 Tryz.ntmps100;intro F _;refine J [321] ?_;rintro⟨H,bx,S⟩ ⟨aN,w⟩;apply J [82];dsimp only at aN w⊢;refine ab.open 1 rfl (λV P=>?_);obtain⟨cO,bd,u,D⟩:=V;have d:=P;apply J [79];dsimp only at d⊢;have O:=d.gd;have ar:2^top<=128:=Vk (n:=2) am O.2;have N:=aN.mC i s a f hs C;have ao:=w.Bn hs C;obtain⟨bG,a9,f9,E,_,aQ⟩:=aN.obj i s _ hs C;obtain⟨W,rfl,rfl⟩:=jz E;obtain rfl:bG=1:=U
 have ag:=c8.bd d aQ;have Z:bj 1=64:=rfl;have hw:cW S.m a<2^63:=U
 refine J [25,259] ?_;intro bb;apply J [31];refine cC [0,1,2,3,5,6,-4,-7,8,9,10,11,12] (an (eE (aX _))) ?_;apply J [49,313];apply aq (l9 af cO bd u D);refine J [248,47] ?_;apply aq (tL u (1024*2^top) a S.m U U U);refine J [284,152,283,274,27] ?_;refine q rfl rfl (conv .u64 .i64 rfl rfl rfl (o4 hw)) ?_;apply J [26];exact YE () [aa (cW S.m a:Int)] ⟨rfl,trivial⟩ (by rw[<-N];rfl) trivial (az (⟨H,bx,S⟩:eR) ⟨aN,w⟩ (bP 6 rfl (az (dG.mk cO bd u D:dG af) d ai)))
theorem zr(A:bR)(h:Int)(w:0<=h/\h<=4294967295):bn 46 [ae aH,aS h] ba [fZ aH af top A] (.tuple #[aa (j3 A h).1,aa (j3 A h).2]) [fZ aH af top A]:=by apply aF Tryz.func46 Tryz.ntmps46;intro F _;apply J [1];refine ab.lU 0 rfl (λV=>?_);obtain⟨⟨_,_,_⟩,aN,ao⟩:=V;apply J [215,32];apply aq (jZ aH af top A h w 1);refine J [5,230] ?_;intro bD;apply J [116,39];apply Vf rfl<;>intro g0;rw[show j3 A h=(0,(b3 A.l h 1).2)from al g0];apply J [189];exact hN ai;have g0:=Vh g0;obtain⟨i,C,W,E,H,Z,ag,N,O,d⟩:=jc w.1 g0;have d:=d.resolve_left am;have u:cB A.l i 1 C.o:=⟨C.cU,by rw[<-H];exact E⟩;obtain⟨bG,a9,f9,P,_,_⟩:=aN.obj i 1 _ (.inl rfl) u;have D:=uN P d;rw[show j3 A h=((A.own i:Int),0)by rw[j3,ax g0,N]];rw[O];dsimp only;rw[D]at u⊢;apply J [4,267,0];apply aq (LW aH af top A i a9 1 f9 (.inl rfl) u);apply J [6,99];exact hN ai
theorem Dy(u bx top:Nat)(S:cN)(l:List au.bV)(ay:au.dN l)(c x:Nat)(f lim:Int)(V:dd top S)(aQ:c8 S c x)(Z:0<=S.bt/\S.bt<=1000000):bH 132 [ae aH,.agg (ints (bz (c:Int) x f).l).toArray,aa lim] ba [aj aH 135 [ae af,ae u,ae bx],aZ 264 5 (cF u) 256 256 (au.fh l),eT af top S] (λy:cN×Int=>aa y.2) (λy=>rf S l c x f lim y) (λy=>[aj aH 135 [ae af,ae u,ae bx],aZ 264 5 (cF u) 256 256 (au.fh l),eT af top y.1]):=by
 apply aF Tryz.func132 Tryz.ntmps132;intro F _;refine J [83,25,259] ?_;intro cp;apply J [31,65,0];apply ew (au.RM u l ay) ⟨_,bi.rd (ad:=some ⟨u,0,none⟩)⟩;apply J [9,212];apply Vf rfl<;>intro g0;apply J [139];exact br (S,11) (.inl ⟨rfl,by omega⟩) ai;apply J [44,71,87,2];apply Vf rfl<;>intro g1;apply J [139];exact br (S,0) (.inr (.inl ⟨rfl,by omega,λh=>g1 (by subst h;rfl)⟩)) ai;obtain rfl:c=1:=by have bJ:((c:Nat):Int)=1:=Vh g1;omega
 refine ab.open 3 rfl (λaW aP=>?_);obtain⟨cO,bd,d,H⟩:=aW;have ar:=aP;apply J [79];dsimp only at ar⊢;have aL:=V.gd;have a5:2^top<=128:=Vk (n:=2) am aL.2;have a3:=c8.bd V aQ;have a2:bj 1=64:=rfl;have W:dd top (n2 S x f lim):=by grind[dd,n2]
 obtain⟨ao,a0⟩:=K0 (L:=S.Q) (f:=f) (lim:=lim) Z.1;apply J [44];skip;refine cC [0,1,2,3,4,5,6,7,8,9,-10,11,12,13,14,15] (an (eQ (eQ (aX _)))) ?_;apply J [49,88,109,135,264];apply aq (aw.Q7 cO S.Q S.bt f lim Z.2);refine J [253,10] ?_;generalize a4:(aw.fO S.Q S.bt f lim).2.2.1=ag at*;obtain⟨N,rfl⟩:∃n:Nat,ag=(n:Int):=⟨ag.toNat,(Wf ao).symm⟩;apply J [152,283,274,7];refine ab.qv _ [] 11 rfl aV aV (eE (eE (aX _))) ?_;refine J [394,412,413,443] ?_;refine dw (i:=5) rfl rfl rfl aV (c1 1 rfl rfl) ?_;refine J [526] ?_;refine dw (i:=7) rfl rfl rfl aV (fR (v:=.int _ _) rfl) ?_;refine dw (i:=8) rfl rfl rfl aV (conv .i64 .u64 rfl rfl rfl (qb U)) ?_;refine lf (i:=4) (j:=9) rfl rfl rfl rfl aV ?_ ?_;apply aq (l9 af cO bd d H);change aG _ _/\er _ _ _ _ _ _ _ _ _ _ _ (ah [_,_,_,_,_,_,_,_,_]);refine⟨ai,?_⟩;refine er.of [(9,true),(10,true)] aV rfl ?_;refine J [17,150] ?_;intro O;refine J [47] ?_;apply ew (lK d (1024*2^top) x S.m [N] (cF O) 1 U cE jv U (by intro x E;simp only[Vq,Vn,or_false]at E;subst E;omega)) ⟨_,bi.rd (ad:=some ⟨O,0,none⟩)⟩;refine J [248,110,325] ?_;have w:n2 S x f lim=⟨(aw.fO S.Q S.bt f lim).1,(aw.fO S.Q S.bt f lim).2.1,S.C,S.Fr,dA S.m x [N]⟩:=by grind[n2]
 have D:=W;rw[w]at D;exact br (n2 S x f lim,(aw.fO S.Q S.bt f lim).2.2.2) (.inr (.inr ⟨rfl,by omega,rfl⟩)) (by rw[w];exact(bP 7 rfl (bP 7 rfl (az (dG.mk cO bd d H:dG af) D ai))));refine J [150] ?_;intro P;refine⟨ai,?_⟩;refine er.of [(4,true),(10,true)] aV rfl ?_;refine dY rfl rfl ?_;apply aq (l9 af cO bd d H);refine J [248,47] ?_;apply ew (lK d (1024*2^top) x S.m [N] (cF P) 1 U cE jv U (by intro x E;simp only[Vq,Vn,or_false]at E;subst E;omega)) ⟨_,bi.rd (ad:=some ⟨P,0,none⟩)⟩;refine J [248,110,325] ?_;have w:n2 S x f lim=⟨(aw.fO S.Q S.bt f lim).1,(aw.fO S.Q S.bt f lim).2.1,S.C,S.Fr,dA S.m x [N]⟩:=by grind[n2]
 have D:=W;rw[w]at D;exact br (n2 S x f lim,(aw.fO S.Q S.bt f lim).2.2.2) (.inr (.inr ⟨rfl,by omega,rfl⟩)) (by rw[w];exact(bP 7 rfl (bP 7 rfl (az (dG.mk cO bd d H:dG af) D ai))))
def xc(k lim:Int):Prop:=(k=8\/1<=k/\k<=5)/\¬(k=1/\lim<0)
def Gg(A bl:bR):Prop:=bl=A\/bl={A with np:=A.np+2}
def qj(top:Nat)(A:bR)(h k lim:Int):Prop:=(b3 A.l h 1).2≠0\/¬xc k lim\/k=1\/(∃c:Nat,k=c/\(aw.de A.Q (A.own (h %256).toNat) (bj c)).2≠0)\/2^top<=A.np\/(au.dy A.l 0).length=0
def JM(top:Nat)(A:bR)(h k lim:Int)(y:bR×Int×Int):Prop:=
  (y.2.2=0/\vE A h k lim y.1 y.2.1/\(b3 A.l h 1).2=0)\/(y.2.2≠0/\y.2.1=0/\Gg A y.1/\qj top A h k lim)
variable{lim:Int}
theorem FB{k:Int}(h:xc k lim):∃c:Nat,k=c/\ic c:=by refine⟨k.toNat,?_,?_⟩;rcases h.1 with h|h<;>omega;rcases h.1 with h|h;exact .inr U;exact .inl U
theorem Eu{d:cN}{l:List au.bV}{c x:Nat}{f:Int}{y:cN×Int}(h:rf d l c x f lim y)(he:y.2≠0):c=1\/(au.dy l 0).length=0:=by rcases h with⟨_,h⟩|⟨h,_⟩|⟨_,_,h⟩;all_goals simp_all
theorem G9{top:Nat}{A:bR}{S d:cN}{c x:Nat}{f:Int}{y:cN×Int}(u:ch A)(aN:cd top A S)(g:qm top S f c x d){l:List au.bV}(h:rf d l c x f lim y)(he:y.2≠0):(aw.ek y.1.Q f (bj c)).2=0:=by have w:=(Et (dH:=y.1) (e:=y.2) h he).1;have:=g.q.1;rw[aN.Q.1]at this;rw[w,g.q.2.1,aN.Q.1,s9 u.dQ this]
theorem Lj(k:Int):bn 130 [aa k] ba [] (.bool (decide (k=8\/1<=k/\k<=5))) []:=by apply aF Tryz.func130 Tryz.ntmps130;intro F _;apply J [8];by_cases u:k=8;subst u;refine J [222,193,474,52,162,162,363,131] ?_;exact j7;apply J [222,193];refine VL 5 rfl (c:=false) (dn u) ?_;apply J [13,306,340];refine aU.split 8 rfl (λd=>?_) (λd=>?_);have d:=dz d;apply J [13,263,370,98];exact sj;have d:=d7 d;apply J [48,388,98];exact sk
theorem DI(A:bR)(h:Int)(a3:0<=h/\h<=4294967295)(k lim:Int)(ag:A.np+2<=1000000):bH 85 [ae aH,aS h,aa k,aa lim] da [fZ aH af top A] (λy:bR×Int×Int=>.tuple #[aS y.2.1,aa y.2.2]) (λy=>JM top A h k lim y) (λy=>[fZ aH af top y.1]):=by
 apply aF Tryz.func85 Tryz.ntmps85;intro F b7;apply J [1];haveI:cv F:=⟨b7⟩;apply J [215,32];apply aq (zr aH af top A h a3);apply J [5,129,236];apply Vf rfl<;>intro g0;have g1:(b3 A.l h 1).2≠0:=λe=>g0 (by rw[j3,ax e]);rw[show j3 A h=(0,(b3 A.l h 1).2)from al g1];apply J [27,119];exact cT (A,0,(b3 A.l h 1).2) (.inr ⟨g1,rfl,.inl rfl,.inl g1⟩) ai;have g1:(b3 A.l h 1).2=0:=Wi λe=>g0 (show(j3 A h).2≠0 by rw[j3,al e];exact e);rw[show j3 A h=((A.own (h %256).toNat:Int),0)from ax g1];dsimp only;apply J [138];apply aq (Lj k);apply J [5];by_cases g2:k=8\/1<=k/\k<=5;rw[c7 g2];apply J [89,19,13,160,340];refine aU.split 32 rfl (λg3=>?_) (λg3=>?_);have g3:=dz g3;apply J [203,370,207];apply Vf rfl<;>intro g4;apply J [171];exact cT (A,0,1) (.inr ⟨(show(1:Int)≠0 by decide),rfl,.inl rfl,.inr (.inl λh=>h.2 ⟨g3,g4⟩)⟩) ai;have g5:xc k lim:=⟨g2,λh=>by omega⟩;obtain⟨c,rfl,C⟩:=FB g5;have cc:∀z:Prop,z=z:=λ_=>rfl;refine J [20,34,3,434] ?_;rintro⟨u,bx,S⟩ ⟨aN,d⟩;apply J [9];dsimp only at aN d⊢;obtain⟨i,Z,bS,ay,aL,bV,bZ,aP,b0,D⟩:=jc a3.1 g1;have D:=D.resolve_left am;have H:cB A.l i 1 Z.o:=⟨Z.cU,by rw[<-aL];exact ay⟩;obtain⟨bG,a9,f9,aW,_,_⟩:=aN.obj i 1 _ (.inl rfl) H;have ar:=uN aW D;have a2:aw.cX A.Q (A.own (h %256).toNat):=(by rw[ar]at H;rw[aP];exact(d.c1 i 1 a9 f9 (.inl rfl) H).1);have a4:0<=A.bt/\A.bt<=1000000:=(by obtain⟨t,a5,_⟩:=d.dQ.root;have:=d.dQ.rg t a5;have:=d.bd;omega);refine e rfl ?_;apply a7 (Dz aH af u bx top S (A.own (h %256).toNat) c C);intro⟨bl,cl,cq⟩ V;apply J [9];cases bl with|none=>?_|some x=>?_
 obtain⟨he,rfl,W⟩:=V;dsimp only[s4];have E:qj top A h c lim:=(by rw[aN.Q.1]at W;rcases W with hw|⟨_,hw⟩;exact .inr (.inr (.inr (.inl ⟨c,rfl,by rw[<-hw];exact he⟩)));exact .inr (.inr (.inr (.inr (.inl (Wu hw aN.gb))))));apply J [129,39];refine Vf rfl (λbn=>?_) (λbn=>absurd (he) bn);apply J [189];exact cT (A,0,cq) (.inr ⟨he,rfl,.inl rfl,E⟩) (az (⟨u,bx,cl⟩:eR) ⟨aN,d⟩ ai);obtain⟨rfl,cG⟩:=V;dsimp only[s4];refine J [129,172,27,120,251,0,247] ?_;intro bb;apply J [66,30,267,29];apply a7 (Dy aH af u bx top cl A.l d.ok c x (A.own (h %256).toNat) lim cG.g.P cG.b (by rw[cG.q.2.2,aN.Q.2];exact a4));intro⟨dH,cq⟩ w;apply J [15,126];apply Vf rfl<;>intro g6;obtain⟨bN,cd,ce⟩:=wv C aN cG w;apply J [267,0];apply a7 (wi aH af u bx top dH c x (A.own (h %256).toNat) C (bN.p c x cG.b λh=>h) (G9 (y:=(dH,cq)) d aN cG w g6));intro gM a0;apply J [15];obtain⟨N,O⟩:=F5 d ag C aN cG w g6 a0;have E:qj top A h c lim:=(by rcases Eu (y:=(dH,cq)) w g6 with hw|hw;exact .inr (.inr (.inl (by subst hw;rfl)));exact .inr (.inr (.inr (.inr (.inr hw)))));apply J [2,189];exact cT ({A with np:=A.np+2},0,cq) (.inr ⟨g6,rfl,.inr rfl,E⟩) (az (⟨u,bx,gM⟩:eR) ⟨N,O⟩ ai);obtain rfl:cq=0:=Vh g6;obtain⟨ao,N,O,a8,ba,bc,bh,bi,bj⟩:=F6 d ag a2 C aN cG w;apply J [44];refine cC [0,1,2,3,4,-5,6,7,8,9] (show aG (ah _) (ah [aj bb 60 (ints (bz (c:Int) x (A.own (h %256).toNat)).l),aj aH 135 [ae af,ae u,ae bx]])from ai) ?_;apply J [133,300,17];apply aq (au.og u A.l (bz (c:Int) x (A.own (h %256).toNat)) d.ok);refine J [260,10] ?_;rw[bc];apply J [283,274,148];exact cT (ao,(au.ma A.l (bz (c:Int) x (A.own (h %256).toNat))).2.1,0) (.inl ⟨rfl,a8,g1⟩) (by rw[<-ba,<-bh,<-bi,<-bj];exact(az (⟨u,bx,dH⟩:eR) ⟨N,O⟩ ai));have g3:=d7 g3;have g5:xc k lim:=⟨g2,λh=>g3 h.1⟩;apply J [48,388,149,191];obtain⟨c,rfl,C⟩:=FB g5;have cc:∀z:Prop,z=z:=λ_=>rfl;refine J [20,34,3,434] ?_;rintro⟨u,bx,S⟩ ⟨aN,d⟩;apply J [9];dsimp only at aN d⊢;obtain⟨i,Z,bS,ay,aL,bV,bZ,aP,b0,D⟩:=jc a3.1 g1;have D:=D.resolve_left am;have H:cB A.l i 1 Z.o:=⟨Z.cU,by rw[<-aL];exact ay⟩;obtain⟨bG,a9,f9,aW,_,_⟩:=aN.obj i 1 _ (.inl rfl) H;have ar:=uN aW D;have a2:aw.cX A.Q (A.own (h %256).toNat):=(by rw[ar]at H;rw[aP];exact(d.c1 i 1 a9 f9 (.inl rfl) H).1);have a4:0<=A.bt/\A.bt<=1000000:=(by obtain⟨t,a5,_⟩:=d.dQ.root;have:=d.dQ.rg t a5;have:=d.bd;omega);refine e rfl ?_;apply a7 (Dz aH af u bx top S (A.own (h %256).toNat) c C);intro⟨bl,cl,cq⟩ V;apply J [9];cases bl with|none=>?_|some x=>?_
 obtain⟨he,rfl,W⟩:=V;dsimp only[s4];have E:qj top A h c lim:=(by rw[aN.Q.1]at W;rcases W with hw|⟨_,hw⟩;exact .inr (.inr (.inr (.inl ⟨c,rfl,by rw[<-hw];exact he⟩)));exact .inr (.inr (.inr (.inr (.inl (Wu hw aN.gb))))));apply J [129,39];refine Vf rfl (λbo=>?_) (λbo=>absurd (he) bo);apply J [189];exact cT (A,0,cq) (.inr ⟨he,rfl,.inl rfl,E⟩) (az (⟨u,bx,cl⟩:eR) ⟨aN,d⟩ ai);obtain⟨rfl,cG⟩:=V;dsimp only[s4];refine J [129,172,27,120,251,0,247] ?_;intro bD;apply J [66,30,267,29];apply a7 (Dy aH af u bx top cl A.l d.ok c x (A.own (h %256).toNat) lim cG.g.P cG.b (by rw[cG.q.2.2,aN.Q.2];exact a4));intro⟨dH,cq⟩ w;apply J [15,126];apply Vf rfl<;>intro g6;obtain⟨bN,cd,ce⟩:=wv C aN cG w;apply J [267,0];apply a7 (wi aH af u bx top dH c x (A.own (h %256).toNat) C (bN.p c x cG.b λh=>h) (G9 (y:=(dH,cq)) d aN cG w g6));intro gM a0;apply J [15];obtain⟨N,O⟩:=F5 d ag C aN cG w g6 a0;have E:qj top A h c lim:=(by rcases Eu (y:=(dH,cq)) w g6 with hw|hw;exact .inr (.inr (.inl (by subst hw;rfl)));exact .inr (.inr (.inr (.inr (.inr hw)))));apply J [2,189];exact cT ({A with np:=A.np+2},0,cq) (.inr ⟨g6,rfl,.inr rfl,E⟩) (az (⟨u,bx,gM⟩:eR) ⟨N,O⟩ ai);obtain rfl:cq=0:=Vh g6;obtain⟨ao,N,O,a8,ba,bc,bh,bi,bj⟩:=F6 d ag a2 C aN cG w;apply J [44];refine cC [0,1,2,3,4,-5,6,7,8,9] (show aG (ah _) (ah [aj bD 60 (ints (bz (c:Int) x (A.own (h %256).toNat)).l),aj aH 135 [ae af,ae u,ae bx]])from ai) ?_;apply J [133,300,17];apply aq (au.og u A.l (bz (c:Int) x (A.own (h %256).toNat)) d.ok);refine J [260,10] ?_;rw[bc];apply J [283,274,148];exact cT (ao,(au.ma A.l (bz (c:Int) x (A.own (h %256).toNat))).2.1,0) (.inl ⟨rfl,a8,g1⟩) (by rw[<-ba,<-bh,<-bi,<-bj];exact(az (⟨u,bx,dH⟩:eR) ⟨N,O⟩ ai));rw[dn g2];apply J [89,19,52,162,162,363,143,57,119];exact cT (A,0,1) (.inr ⟨(show(1:Int)≠0 by decide),rfl,.inl rfl,.inr (.inl λh=>g2 h.1)⟩) ai
section
variable (K : Int → List Int) (fo : Int → Nat)
def n3:Nat->Int->List Int
  | 0,x=>[x]
  | n+1,x=>(K x).flatMap (n3 n)++[x]
def hc(x:Int):List Int:=n3 K (fo x) x
end
structure lH(K:Int->List Int)(fo:Int->Nat):Prop where
  lt:∀x,∀z∈K x,fo z<fo x
  bq:∀x,(K x).Nodup
  un:∀x y z,z∈K x->z∈K y->x=y
section
variable {K : Int → List Int} {fo : Int → Nat}
theorem zQ{α β:Type}{f g:α->List β}:∀{l:List α},(∀a∈l,f a=g a)->l.flatMap f=l.flatMap g
 | [],_=>rfl
 | a::l,h=>by rw[VD,VD,h a cE,zQ λb d=>h b (by simp[d])]
theorem EC{f:Int->List Int}:∀{l:List Int},l.Nodup->(∀a∈l,(f a).Nodup)->(∀a∈l,∀b∈l,a≠b->∀z,z∈f a->z∈f b->False)->(l.flatMap f).Nodup
 | [],_,_,_=>by rw[List.flatMap_nil];exact V1
 | a::l,ao,u,C=>by obtain⟨O,P⟩:=Vw.1 ao;rw[VD,VI];refine⟨u a cE,EC P (λb d=>u b (by simp[d])) λb d c H=>C b (by simp[d]) c (by simp[H]),λz N w hw e=>?_⟩;obtain⟨b,d,E⟩:=Wc.1 hw;exact C a cE b (by simp[d]) (λD=>O (D▸d)) z N (e▸E)
theorem zP{f:Int->List Int}{y:Int}:∀{l L R:List Int},l.flatMap f=L++y::R->∃a∈l,∃L' u,f a=L'++y::u/\∀z∈L',z∈L
 | [],L,R,h=>by rw[List.flatMap_nil]at h;cases L<;>cases h
 | a::l,L,R,h=>by rw[VD]at h;rcases YI.1 h with⟨O,D,d⟩|⟨C,D,d⟩;obtain⟨b,N,L',u,E,H⟩:=zP d;exact⟨b,by simp[N],L',u,E,λz w=>by rw[D];exact Ve.2 (.inr (H z w))⟩;cases C with|nil=>rw[Vx]at d;obtain⟨b,N,L',u,E,H⟩:=zP (L:=[]) (y:=y) (R:=R) (l:=l) (f:=f) (by rw[Vx];exact d.symm);exact⟨b,by simp[N],L',u,E,λz w=>absurd (H z w) cE⟩|cons c C=>rw[VM]at d;obtain⟨rfl,P⟩:=Xh d;exact⟨a,by simp,L,C,D,λz w=>w⟩
theorem lH.nil(h:lH K fo){x:Int}(e:fo x=0):K x=[]:=by rw[List.eq_nil_iff_forall_not_mem];intro z d;have:=h.lt x z d;omega
theorem DV(h:lH K fo):∀(n m:Nat) (x:Int),fo x<=n->fo x<=m->n3 K n x=n3 K m x
 | 0,0,_,_,_=>rfl
 | 0,m+1,x,d,_=>by rw[n3,n3,h.nil U];rfl
 | n+1,0,x,_,u=>by rw[n3,n3,h.nil U];rfl
 | n+1,m+1,x,d,u=>by rw[n3,n3];congr 1;refine zQ λz w=>?_;have:=h.lt x z w;exact DV h n m z U U
theorem oY(h:lH K fo)(x:Int):hc K fo x=(K x).flatMap (hc K fo)++[x]:=by rw[hc];cases ao:fo x with|zero=>rw[h.nil ao];rfl|succ n=>rw[n3];congr 1;refine zQ λz d=>?_;have:=h.lt x z d;exact DV h _ _ z U (Vi _)
theorem xI(h:lH K fo){x z:Int}:z∈hc K fo x↔z=x\/∃y∈K x,z∈hc K fo y:=by rw[oY h,Ve,Wc,Vd];grind
theorem uW(h:lH K fo)(x:Int):x∈hc K fo x:=(xI h).2 (.inl rfl)
theorem xH(h:lH K fo):∀(n:Nat) (x z:Int),fo x<=n->z∈hc K fo x->fo z<=fo x
 | n,x,z,ao,w=>by rcases(xI h).1 w with rfl|⟨y,u,d⟩;exact Vi _;have C:=h.lt x y u;cases n with|zero=>omega|succ n=>have:=xH h n y z U d;omega
theorem rX(h:lH K fo):∀(n:Nat) (x z:Int),fo x<=n->z∈hc K fo x->z=x\/∃y,z∈K y/\y∈hc K fo x
 | n,x,z,ao,E=>by rcases(xI h).1 E with rfl|⟨y,d,u⟩;exact .inl rfl;have H:=h.lt x y d;cases n with|zero=>omega|succ n=>rcases rX h n y z U u with rfl|⟨w,C,D⟩;exact .inr ⟨x,d,uW h x⟩;exact .inr ⟨w,C,(xI h).2 (.inr ⟨y,d,D⟩)⟩
theorem GY(h:lH K fo)(a b:Int):∀(n:Nat) (z:Int),fo a+fo b<=n+fo z->z∈hc K fo a->z∈hc K fo b->a∈hc K fo b\/b∈hc K fo a
 | n,z,ao,D,E=>by rcases rX h _ a z (Vi _) D with rfl|⟨y,d,u⟩;exact .inl E;rcases rX h _ b z (Vi _) E with rfl|⟨w,H,C⟩;exact .inr D;have:=h.un y w z d H;subst this;have N:=h.lt y z d;have O:=xH h _ a y (Vi _) u;have P:=xH h _ b y (Vi _) C;cases n with|zero=>omega|succ n=>exact GY h a b n y U u C
theorem Bx(h:lH K fo):∀(n:Nat) (x:Int),fo x<=n->(hc K fo x).Nodup
 | n,x,ao=>by
  rw[oY h,VI];have N:∀y∈K x,x∉hc K fo y:=λy w V=>(by have:=xH h _ y x (Vi _) V;have:=h.lt x y w;omega);refine⟨?_,by simp,λa D b u e=>?_⟩;refine EC (h.bq x) (λy w=>?_) λa D b u O z C P=>?_;have C:=h.lt x y w;cases n with|zero=>omega|succ n=>exact Bx h n y U
  rcases GY h a b _ z (Nat.le_add_right _ _) C P with E|E;rcases rX h _ b a (Vi _) E with d|⟨y,d,H⟩;exact O d;have:=h.un x y a D d;subst this;exact N b u H;rcases rX h _ a b (Vi _) E with d|⟨y,d,H⟩;exact O d.symm;have:=h.un x y b u d;subst this;exact N a D H;rw[Vd]at u;obtain⟨y,w,C⟩:=Wc.1 D;exact N y w (by rw[<-u,<-e];exact C)
theorem By(h:lH K fo):∀(n:Nat) (x:Int),fo x<=n->∀(L R:List Int) (y z:Int),hc K fo x=L++y::R->z∈K y->z∈L
 | n,x,ao,L,R,y,z,e,w=>by
  rw[oY h]at e;rcases YI.1 e with⟨C,u,d⟩|⟨D,u,d⟩;cases C with|nil=>rw[Vx]at d;obtain⟨rfl,_⟩:=Xh d;rw[u,V9];exact Wc.2 ⟨z,w,uW h z⟩|cons a C=>have:=congrArg List.length d;simp at this
  cases D with|nil=>rw[Vx]at d;obtain⟨rfl,_⟩:=Xh d;rw[V9]at u;rw[<-u];exact Wc.2 ⟨z,w,uW h z⟩|cons c D=>rw[VM]at d;obtain⟨rfl,_⟩:=Xh d;obtain⟨a,P,E,H,N,O⟩:=zP u;have V:=h.lt x a P;(cases n with|zero=>omega|succ n=>exact O z (By h n a U E H y z N w))
end
theorem od(k:IntKind)(xs d:List Int):cL k xs++cL k d=cL k (xs++d):=by simp[cL]
def eP(A:bR)(h:Int):List Int:=if(b3 A.l h 1).2=0 then(au.dy A.l 1).filter λx=>decide ((au.cV A.l x).1.f=(A.own (h %256).toNat:Int)/\x≠0)else[]
def jw(A:bR)(h:Int):Nat:=if(b3 A.l h 1).2=0 then 2000000-A.own (h %256).toNat else 0
theorem tI{l:List au.bV}(w:au.dN l){h s:Int}:h∈au.dy l s↔∃(i:Nat) (p:au.bV),l[i]? =some p/\p.st=s/\h=p.cU*256+i:=by rw[au.dy,au.mn,Vs];constructor;grind;rintro⟨i,p,d,u,rfl⟩;exact⟨(p,i),VE.2 ⟨Yk.2 d,c7 u⟩,rfl⟩
theorem oF{l:List au.bV}(d:au.dN l){h:Int}:h∈au.dy l 1↔0<=h/\(au.cV l h).2=0:=by rw[tI d];constructor;rintro⟨i,p,u,w,rfl⟩;have C:=d.lt u;have:=d.cU p (Vg u);grind[au.cV,rP];grind[oO]
theorem vQ(l:List au.bV)(w:au.dN l)(s:Int):(au.dy l s).Nodup:=by rw[au.dy,au.mn,List.Nodup,Yt];refine List.Pairwise.filter _ ?_;rw[List.pairwise_iff_getElem];intro i j d u C e;rw[List.getElem_zipIdx,List.getElem_zipIdx]at e;dsimp only at e;rw[List.length_zipIdx,w.n]at d u;omega
theorem nW{l:List au.bV}(d:au.dN l){h s:Int}(hm:h∈au.dy l s):0<=h/\h<=4294967295:=by obtain⟨i,p,u,_,rfl⟩:=(tI d).1 hm;have w:=d.lt u;have:=d.cU p (Vg u);omega
variable{A:bR}
theorem ob{h z:Int}:z∈eP A h↔(b3 A.l h 1).2=0/\z∈au.dy A.l 1/\(au.cV A.l z).1.f=(A.own (h %256).toNat:Int)/\z≠0:=by rw[eP];simp_all
theorem ch.xA(h:ch A){x:Int}(C:0<=x)(e:(b3 A.l x 1).2=0)(O:∀i o,cB A.l i 1 o->o.k=1->∃a f,o=bz 1 a f):∃i a f,cB A.l i 1 (bz 1 a f)/\(x %256).toNat=i/\A.own i<=1000000/\(au.cV A.l x).1.f=f/\∃g:Int,x=g*256+i/\A.l[i]? =some ⟨bz 1 a f,1,g⟩:=by obtain⟨i,p,D,d,E,P,H,N,w,u⟩:=jc C e;have u:=u.resolve_left am;obtain⟨o,s,g⟩:=p;dsimp only at*;subst E;obtain⟨a,f,rfl⟩:=O i o ⟨g,d⟩ u;refine⟨i,a,f,⟨g,d⟩,N,h.Bn (.inl rfl) ⟨g,d⟩,?_,g,H,d⟩;rw[oW (by rw[au.cV,D];exact u)]at w;rw[w];rfl
theorem ch.O4(h:ch A)(D:∀i o,cB A.l i 1 o->o.k=1->∃a f,o=bz 1 a f)(a4:∀x:Int,x<0->(b3 A.l x 1).2≠0):lH (eP A) (jw A):=by
 have u:∀x,(b3 A.l x 1).2=0->0<=x:=cm
 refine⟨λx z aA=>?_,λx=>?_,λx y z au ay=>?_⟩;obtain⟨d,ao,w,a2⟩:=ob.1 aA;obtain⟨i,a,f,H,C,aq,_,_⟩:=h.xA (u x d) d D;rw[jw,jw,ax d,C];rw[C]at w;split;rename_i e;obtain⟨j,b,E,bN,aL,O,aP,g,P,V⟩:=h.xA (u z e) e D;rw[aL];rw[aP]at w;have ar:j≠0:=λag=>(by subst ag;obtain⟨⟨a0,bJ⟩,_⟩:=h.rt;simp_all);obtain⟨W,Z⟩:=h.c1 j 1 b E (.inl rfl) bN;obtain⟨a5,aF⟩:=Z ar;obtain⟨t,N,he⟩:=W;rw[<-he,(aw.hB h.dQ.bq N).2.2.2]at aF;have:=(h.dQ.par t N U).2;omega;omega;rw[eP];split;exact(vQ A.l h.ok 1).sublist WE;trivial;obtain⟨d,ao,w,_⟩:=ob.1 au;obtain⟨bN,_,O,_⟩:=ob.1 ay;obtain⟨i,a,f,H,C,_,_,g,aq,a3⟩:=h.xA (u x d) d D;obtain⟨j,b,E,P,V,_,_,aW,W,Z⟩:=h.xA (u y bN) bN D;rw[C]at w;rw[V]at O;have:=h.nl i j 1 1 a b f E (.inl rfl) (.inl rfl) H P U;simp_all
def fu(A:bR)(h:Int):List Int:=(eP A h).flatMap (hc (eP A) (jw A))
theorem cd.bN{top:Nat}{S:cN}(h:cd top A S):∀i o,cB A.l i 1 o->o.k=1->∃a f,o=bz 1 a f:=λi o d u=>by
 obtain⟨c,a,f,e,_⟩:=h.obj i 1 o (.inl rfl) d
 exact⟨a,f,uN e u⟩
theorem DH(aH af top:Nat)(A:bR)(h:Int)(V:0<=h/\h<=4294967295):bH 308 [ae aH,aS h] ba [fZ aH af top A] (λy:Option Addr×Nat=>.slice y.1 (eP A h).length y.2) (λ_=>True) (λy=>[aZ 33 1 y.1 (eP A h).length y.2 (cL .u32 (eP A h)),fZ aH af top A]):=by
 apply aF Tryz.func308 Tryz.ntmps308;intro F _;apply J [1,115,115,32];apply aq (zr aH af top A h V);apply J [5,129,39];apply Vf rfl<;>intro g0;have g1:(b3 A.l h 1).2≠0:=λe=>g0 (by rw[j3,ax e]);rw[show eP A h=[]from al g1];apply J [115,74];exact br (none,0) trivial ((dI 33 1 _).trans ai);have g1:(b3 A.l h 1).2=0:=Wi λe=>g0 (show(j3 A h).2≠0 by rw[j3,al e];exact e);rw[show j3 A h=((A.own (h %256).toNat:Int),0)from ax g1];dsimp only;rw[show eP A h=(au.dy A.l 1).filter (λx=>decide ((au.cV A.l x).1.f=(A.own (h %256).toNat:Int)/\x≠0))from ax g1];generalize aW:(λx=>decide ((au.cV A.l x).1.f=(A.own (h %256).toNat:Int)/\x≠0))=pr;apply ab.open 0 rfl;rintro⟨w,bx,S⟩ ⟨aN,C⟩;apply J [82];dsimp only at aN C⊢;apply J [44,65,0];apply eL (au.FM w A.l C.ok) ⟨_,bi.rd (ad:=some ⟨w,0,none⟩)⟩;intro y _;apply J [15];have P:∀z∈au.dy A.l 1,0<=z/\z<=4294967295:=λz=>nW C.ok;have hle:=au.po A.l 1;rw[C.ok.n]at hle;generalize ar:au.dy A.l 1=d at*;apply J [252,112];refine ab.loop (ι:=Nat×Option Addr×Nat) (λs=>s.1<=d.length) (λs=>[(0,ae aH),(1,aS h),(5,.slice s.2.1 ((d.take s.1).filter pr).length s.2.2),(6,aa (A.own (h %256).toNat:Int)),(24,.slice y.1 d.length y.2),(25,aa d.length),(26,aa ((s.1:Nat):Int))]) (λs=>ah [aZ 33 1 s.2.1 ((d.take s.1).filter pr).length s.2.2 (cL .u32 ((d.take s.1).filter pr)),aZ 33 1 y.1 d.length y.2 (cL .u32 d),aj aH 135 [ae af,ae w,ae bx],eT af top S,aZ 264 5 (cF w) 256 256 (au.fh A.l),gm.dt bx A.pd A.now A.q,F]) (λs=>d.length-s.1) (0,none,0) (Nat.zero_le _) bI ((dI 33 1 _).trans ai) ?_;rintro⟨k,ad,cap⟩ W a2;dsimp only[cy]at W⊢;apply J [42];apply Vf rfl<;>intro aL;have Z:k<d.length:=U
 obtain⟨z,H⟩:∃z,d[k]? =some z:=⟨d[k],Vc Z⟩;have aP:0<(cL .u32 d).length:=by grind[iE]
 have ay:k<(cL .u32 d).length:=by grind[iE]
 have ag:=P z (Vg H);have a0:(d.take (k+1)).filter pr=(d.take k).filter pr++if pr z=true then[z]else[]:=(by grind[List.take_succ]);have aw:((d.take k).filter pr).length<=256:=cm;refine J [219,356] ?_;refine q rfl rfl (dB rfl rfl (nB H)) ?_;apply J [28,65,29];apply ew (au.zX w A.l z C.ok ag) ⟨_,bi.rd (ad:=some ⟨w,0,none⟩)⟩;refine J [18,230] ?_;intro bb;apply J [66,28,24,55,3,193];refine aU.split 43 rfl (λD=>?_) (λD=>?_);have D:=dz D;apply J [13,240,190];apply Vf rfl<;>intro ao;have E:pr z=true:=cm
 have u:(d.take (k+1)).filter pr=(d.take k).filter pr++[z]:=b2
 refine J [113,68] ?_;intro bD;refine J [0] ?_;refine ap 4 rfl rfl rfl rfl rfl (Nat.le_of_ble_eq_true rfl) (show _=cL .u32 [z]from rfl) rfl U gr ?_;intro N O;refine J [85,63] ?_;exact⟨rfl,(k+1,N,O),cK,cK,⟨rfl,rfl,congrArg (λn=>V0 _ n _) (by dsimp only;rw[u,mp];rfl),rfl,rfl,rfl,rfl,trivial⟩,(b6 0 rfl (by dsimp only;rw[u,od,mp];rfl) (bv (bv (bv (bv (bv (bv (aX _))))))))⟩;have E:¬pr z=true:=cm
 have u:(d.take (k+1)).filter pr=(d.take k).filter pr:=b2
 refine J [111] ?_;exact⟨rfl,(k+1,ad,cap),cK,cK,⟨rfl,rfl,congrArg (λn=>V0 _ n _) (by dsimp only;rw[u]),rfl,rfl,rfl,rfl,trivial⟩,(b6 1 rfl (by dsimp only;rw[u]) (bU (bU (bU (bU (bU (bU (aX _))))))))⟩;have D:=d7 D;have E:¬pr z=true:=cm
 have u:(d.take (k+1)).filter pr=(d.take k).filter pr:=b2
 refine J [48,149,108,111] ?_;exact⟨rfl,(k+1,ad,cap),cK,cK,⟨rfl,rfl,congrArg (λn=>V0 _ n _) (by dsimp only;rw[u]),rfl,rfl,rfl,rfl,trivial⟩,(b6 1 rfl (by dsimp only;rw[u]) (bU (bU (bU (bU (bU (bU (aX _))))))))⟩;obtain rfl:k=d.length:=by omega
 have u:d.take d.length=d:=b2
 rw[u];apply J [210,61];exact br (ad,cap) trivial (an (az (⟨w,bx,S⟩:eR) ⟨aN,C⟩ ai))
end Go.Proofs.Q
namespace Go.Proofs.Q.b1
open Go Go.QM
theorem ur(xs:List Int)(k:Nat):(ints xs).take (k*1)=ints (xs.take k):=by simp[ints,List.map_take]
theorem rG:∀(xs:List Int),(ints xs).all Value.oneCell'=true
 | []=>rfl
 | x::xs=>by have:=rG xs;rw[ints]at this⊢;rw[VF,List.all_cons,this];rfl
variable{xs:List Int}{i:Nat}
theorem wM(h:i<xs.length){o:Nat}(d:o=i*1)(v:Int):dM o [aa v] (ints xs)=ints (xs.set i v):=by rw[d,Nat.mul_one,List.set_eq_take_append_cons_drop,ax h];simp[dM,ints]
theorem E1{n:Nat}(h:xs.length=n):(ints xs).take (n*1)=ints xs:=List.take_of_length_le (by rw[dP];omega)
theorem pM(xs d:List Int):ints xs++ints d=ints (xs++d):=by simp[ints]
def gP(pr:Int->Bool):Int->Bool:=λx=>!pr x
structure hD(xs:List Int)(pr:Int->Bool)(i j:Nat)(o7:List Int):Prop where
  len:o7.length=xs.length
  kG:i<j
  oT:j<=xs.length
  tk:o7.take i=(xs.take j).filter (gP pr)
  n4:o7.drop j=xs.drop j
variable{pr:Int->Bool}
theorem hD.start{k:Nat}(h:xs.findIdx? pr=some k):hD xs pr k (k+1) xs:=by rw[List.findIdx?_eq_some_iff_getElem]at h;obtain⟨d,u,ao⟩:=h;refine⟨rfl,by omega,d,?_,rfl⟩;grind[Vt,gP,VK,List.getElem_of_mem,WN]
variable{x:Int}
theorem hD.nu{j:Nat}{d:List Int}(h:hD xs pr i j d)(w:j<xs.length)(D:xs[j]? =some x)(C:pr x=false):hD xs pr (i+1) (j+1) (d.set i x) where
 len:=by rw[List.length_set];exact h.len
 kG:=by have:=h.kG;omega
 oT:=w
 tk:=by
  have E:=h.len;have u:=h.kG
  rw[Vt,VZ U,Vt,D,Ye,<-h.tk]
  rw[List.take_set_of_le (Vi i)]
  simp[gP,C]
 n4:=by
  have u:=h.kG
  rw[List.drop_set_of_lt U]
  rw[<-WP,h.n4,WP]
theorem hD.skip{j:Nat}{d:List Int}(h:hD xs pr i j d)(u:j<xs.length)(C:xs[j]? =some x)(w:pr x=true):hD xs pr i (j+1) d where
 len:=h.len
 kG:=by have:=h.kG;omega
 oT:=u
 tk:=by rw[Vt,C,Ye,h.tk];simp[gP,w]
 n4:=by rw[<-WP,h.n4,WP]
theorem hD.get{j:Nat}{d:List Int}(h:hD xs pr i j d)(w:xs[j]? =some x):d[j]? =some x:=by
 have u:(d.drop j)[0]? =(xs.drop j)[0]? :=by rw[h.n4]
 simp_all
theorem hD.done{u:List Int}(h:hD xs pr i xs.length u):u.take i=xs.filter (gP pr)/\(xs.filter (gP pr)).length=i:=by have d:=h.tk;rw[List.take_length]at d;refine⟨d,?_⟩;rw[<-d,WN];have:=h.len;have:=h.kG;omega
theorem zu(h:xs.findIdx? pr=none):xs.filter (gP pr)=xs:=by grind[VK,gP]
theorem Ae(ad:Option Addr)(cap:Nat)(xs:List Int)(gU:FuncId)(lb:List Value)(pr:Int->Bool)(D:ay->Prop)(O:∀x,bn gU ([aa x]++lb) D [] (.bool (pr x)) [])(Z:xs.length<=1000000000):eF VU 340 [.slice ad xs.length cap,.func (.func gU) #[] lb.toArray] (λF=>(∃E,cQ F E ad (ints xs))/\D (ah [F])) [] (λ_:Unit=>aa (match xs.findIdx? pr with|some i=>(i:Int)|none=>-1)) (λ_=>True) (λ_=>[]):=by
 apply aF Tryz.func340 Tryz.ntmps340;intro F ⟨⟨E,H⟩,N⟩;apply J [8];haveI:bi F ad E (ints xs):=⟨H⟩;refine J [35,33,177,567] ?_;rintro k ⟨hinv,eM⟩ ag;dsimp only[cy]at hinv eM⊢;apply J [42];apply Vf rfl<;>intro C;have C:k<xs.length:=U
 obtain⟨t,w⟩:∃t,xs[k]? =some t:=⟨xs[k],Vc C⟩;have W:0<(ints xs).length:=by grind[dP]
 refine J [60,140,24,339,319,365] ?_;refine q rfl rfl (dB rfl rfl (gW w)) ?_;refine e rfl ?_;refine k5 (O t) rfl rfl (ev _) N ?_;intro _ _;apply J [151,2];cases V:pr t with|true=>?_|false=>?_
 apply J [12,140,166];have d:xs.findIdx? pr=some k:=by grind[wx]
 exact YE () [_] ⟨rfl,trivial⟩ (by rw[d];rfl) trivial ai;refine J [23,111] ?_;exact⟨rfl,(k+1),⟨by omega,λj u P hu=>by rcases Nat.lt_succ_iff_lt_or_eq.1 P with h|h;exact eM j u h hu;subst h;rw[w]at hu;cases hu;exact V⟩,U,bI,(an (aX _))⟩;obtain rfl:k=xs.length:=by omega
 have d:xs.findIdx? pr=none:=by grind[zI]
 apply J [75,201];exact YE () [_] ⟨rfl,trivial⟩ (by rw[d];rfl) trivial (an (aX _))
theorem wk(ad:Option Addr)(cap:Nat)(xs:List Int)(gU:FuncId)(lb:List Value)(pr:Int->Bool)(u:ay->Prop)(V:∀x,bn gU ([aa x]++lb) u [] (.bool (pr x)) [])(aq:xs.length<=1000000000)(ar:∀F,u F->u (ah [F]))(Z:∀B F,u F->u (ah [B,F])):eF VU 286 [.slice ad xs.length cap,.func (.func gU) #[] lb.toArray] u [aZ 3 1 ad xs.length cap (ints xs)] (λ_:Unit=>.slice ad (xs.filter (gP pr)).length cap) (λ_=>True) (λ_=>[aZ 3 1 ad (xs.filter (gP pr)).length cap (ints (xs.filter (gP pr)))]):=by
 apply aF Tryz.func286 Tryz.ntmps286;intro F P;apply J [1];refine ab.nj 0 rfl (λ_ aw _=>?_);have a3:=dP xs;apply J [115,33,339,0];apply ew (Ae ad cap xs gU lb pr u V aq) ⟨⟨_,bi.rd⟩,ar _ (Z _ _ P)⟩;apply J [5];cases W:xs.findIdx? pr with|none=>?_|some k=>?_
 dsimp only;rw[zu W];apply J [31,169];refine Vf rfl (λC=>?_) (λC=>absurd (rfl) C);apply J [33,174,74];exact hC;dsimp only;have aM:=hD.start W;have aW:k<xs.length:=by have:=aM.oT;omega
 apply J [31,169];refine Vf rfl (λD=>absurd D U) (λD=>?_);refine J [44,27,146,28,72,568] ?_;rintro⟨i,j,w⟩ d a7;dsimp only[cy]at d⊢;have aP:=d.oT;have aL:=d.kG;have a5:=d.len;have a4:=dP w;apply J [128,93,305,183];apply Vf rfl<;>intro a0;have H:j<xs.length:=U
 obtain⟨x,N⟩:∃x,xs[j]? =some x:=⟨xs[j],Vc H⟩;have au:=d.get N;have a2:0<(ints w).length:=U
 refine J [60,314,365] ?_;refine q rfl rfl (dB rfl rfl (gW au)) ?_;apply J [28,24,339,29];refine k5 (V x) rfl rfl (ev _) (Z _ _ P) ?_;intro _ _;apply J [5,237];cases ag:pr x with|true=>?_|false=>?_
 refine J [23,20,132] ?_;exact⟨rfl,⟨i,j+1,w⟩,(d.skip H N ag),cK,bI,(an (an (aX _)))⟩;refine J [12,33,120,365,22,505,2,279,320,132] ?_;exact⟨rfl,⟨i+1,j+1,w.set i x⟩,(d.nu H N ag),cK,bI,(an (an (aX _)))⟩;obtain rfl:j=xs.length:=by omega
 obtain⟨d1,d2⟩:=d.done;apply J [210,3];refine q rfl rfl (om 3 1 (i) rfl rfl rfl U U) ?_;refine eB ?_;refine zh (sz:=1) (z:=aa 0) i rfl rfl rfl rfl am rfl rfl U ?_;intro O C D;have ao:O.take (i*1)=ints (xs.filter (gP pr)):=by grind[ur]
 apply J [2,314];refine q rfl rfl (nG 3 1 (i) rfl rfl rfl U U) ?_;apply J [61];exact YE () [_] ⟨rfl,trivial⟩ (by rw[d2];rfl) trivial (eI 0 rfl (by have:=p1 (E:=3) (sz:=1) (ad:=ad) (n:=xs.length) (cap:=cap) (cs:=O) (j:=i) U;rw[ao]at this;rw[d2];exact this) (an (aX _)))
structure Fn where
  id:Int
  par:Int
  dF:Int
  cf:Int
def iv(t:Fn):Int×Int:=(t.dF,t.cf)
def c5(L:List Fn)(p:Int):List Int:=(L.filter λt=>decide (t.par=p/\p≠0)).map (·.id)
def fP(L:List Fn)(id:Int):Prop:=∃t∈L,t.id=id
instance (L:List Fn)(id:Int):Decidable (fP L id):=inferInstanceAs (Decidable (∃t∈L,t.id=id))
def iD(A:Int->Nat)(L:List Fn):Int->Option Value:=λid=>if fP L id then some (.pointer (some ⟨A id,0,none⟩))else none
def kE(L:List Fn)(o:Int×Int):Prop:=∃t∈L,iv t=o
instance (L:List Fn)(o:Int×Int):Decidable (kE L o):=inferInstanceAs (Decidable (∃t∈L,iv t=o))
def ho(L:List Fn)(o:Int×Int):Int:=match L.find? λt=>decide (iv t=o)with
  | some t=>t.id
  | none=>0
def ke(L:List Fn):Int×Int->Option Value:=λo=>if kE L o then some (.int .i64 (ho L o))else none
def jW(L:List Fn):Prop:=(L.map (·.id)).Nodup
def oD(L:List Fn):Prop:=(L.map iv).Nodup
structure cM(L:List Fn)(last:Int):Prop where
  bq:jW L
  no:oD L
  rg:∀t∈L,1<=t.id/\t.id<=last/\0<=t.par/\t.par<t.id
  len:(L.length:Int)<=last
structure CJ where
  ad:Int->Option Addr
  cap:Int->Nat
  aC:Nat
  bz:Nat
abbrev iu(A:Int->Nat)(ad:Int->Option Addr)(cap:Int->Nat)(L:List Fn)(t:Fn):ay:=aj (A t.id) 219 [.int .i64 t.dF,.int .i64 t.cf,.int .i64 t.par,.slice (ad t.id) (c5 L t.id).length (cap t.id)]
abbrev ir(ad:Int->Option Addr)(cap:Int->Nat)(L:List Fn)(t:Fn):ay:=aZ 3 1 (ad t.id) (c5 L t.id).length (cap t.id) (ints (c5 L t.id))
abbrev z7(aC bz:Nat)(last:Int):List Value:=[.map (some aC),.map (some bz),.int .i64 last]
def ut(b:Nat)(A:Int->Nat)(L:List Fn)(last:Int):ay:=fg λy:CJ=>pure' (cM L last) (ah [aj b 223 (z7 y.aC y.bz last),bO QM.encI y.aC (iD A L) L.length,bO mX y.bz (ke L) L.length,b8 (iu A y.ad y.cap L) L,b8 (ir y.ad y.cap L) L])
def hp(b:Nat)(L:List Fn)(last:Int):ay:=fg λA:Int->Nat=>pure' True (ah [ut b A L last])
variable{S:List Fn}
theorem jW.perm{T:List Fn}(h:jW S)(p:T.Perm S):jW T:=(p.map _).nodup_iff.2 h
variable{t:Fn}
theorem jW.inj(h:jW S){u:Fn}(C:t∈S)(hu:u∈S)(e:t.id=u.id):t=u:=by obtain⟨L,w⟩:=fA C;rcases Vq.1 (w.mem_iff.1 hu)with d|d;simp_all;exact absurd (Vs.2 ⟨u,d,e.symm⟩) (Vw.1 (h.perm w.symm)).1
theorem oD.inj(h:oD S){u:Fn}(C:t∈S)(hu:u∈S)(e:iv t=iv u):t=u:=by obtain⟨L,w⟩:=fA C;rcases Vq.1 (w.mem_iff.1 hu)with d|d;simp_all;exact absurd (Vs.2 ⟨u,d,e.symm⟩) (Vw.1 ((w.symm.map _).nodup_iff.2 h)).1
def hb(S:List Fn)(id:Int):List Fn:=S.filter λt=>decide (t.id≠id)
theorem xv{L:List Fn}(h:jW S)(w:S.Perm (t::L)):(hb S t.id).Perm L:=by have d:=w.filter λu=>decide (u.id≠t.id);rw[Wt cE]at d;have C:L.filter (λu=>decide (u.id≠t.id))=L:=VK.2 λu hu=>(by have:=(Vw.1 (h.perm w.symm)).1;simp_all);rw[C]at d;exact d
theorem l6:t∈hb S x↔t∈S/\t.id≠x:=by simp[hb]
theorem uO{y:Int}:fP (hb S x) y↔fP S y/\y≠x:=by constructor;rintro⟨t,d,rfl⟩;exact⟨⟨t,(l6.1 d).1,rfl⟩,(l6.1 d).2⟩;rintro⟨⟨t,d,rfl⟩,h⟩;exact⟨t,l6.2 ⟨d,h⟩,rfl⟩
theorem uP(ao:jW S)(u:t∈S):(hb S t.id).length+1=S.length:=by obtain⟨L,d⟩:=fA u;rw[(xv ao d).length_eq,d.length_eq];rfl
theorem pF{A:Int->Nat}{id:Int}(h:fP S id):iD A S id=some (.pointer (some ⟨A id,0,none⟩)):=ax h
theorem qz{A:Int->Nat}{id:Int}(h:¬fP S id):iD A S id=none:=al h
theorem Eh{A:Int->Nat}{T:List Fn}(h:∀x,fP T x↔fP S x):iD A T=iD A S:=by grind[iD]
theorem Eg{A:Int->Nat}(b:Nat):iD (aO A t.id b) (S++[t])=fj (iD A S) t.id (ae b):=by
 funext x;simp only[iD,fj];have d:fP (S++[t]) x↔fP S x\/t.id=x:=by simp[fP,or_and_right,exists_or]
 by_cases e:x=t.id;rw[ax (d.2 (.inr e.symm)),ax e,e,cj];rw[al e,bM e];grind
theorem Ei{A:Int->Nat}(x:Int):iD A (hb S x)=fV (iD A S) x:=by funext y;simp only[iD,fV];by_cases e:y=x;rw[ax e,al (λh=>(uO.1 h).2 e)];rw[al e];by_cases h:fP S y;rw[ax h,ax (uO.2 ⟨h,e⟩)];rw[al h,al (λd=>h (uO.1 d).1)]
theorem zK(h:oD S)(w:t∈S):ho S (iv t)=t.id:=by rw[ho];cases d:S.find? λu=>decide (iv u=iv t)with|none=>rw[W4]at d;exact absurd (c7 rfl) (d t w)|some u=>have C:=List.find?_some d;have D:=List.mem_of_find?_eq_some d;rw[h.inj D w (by simpa using C)]
theorem zJ{o:Int×Int}(h:¬kE S o):ho S o=0:=by have:S.find? (λu=>decide (iv u=o))=none:=(by rw[W4];intro u hu;simp only[decide_eq_true_eq];exact λe=>h ⟨u,hu,e⟩);grind[ho]
theorem zG(S:List Fn)(o:Int×Int):(ke S o).getD (aa 0)=aa (ho S o):=by grind[ke,zJ]
theorem wq{o:Int×Int}(h:¬kE S o):ke S o=none:=al h
theorem Em(ao:oD S)(d:t∈S):ke S (iv t)=some (aa t.id):=by rw[ke,ax ⟨t,d,rfl⟩,zK ao d]
theorem EA{α:Type}{p r:α->Bool}:∀{l:List α},(∀u∈l,p u=true->r u=true)->(l.filter r).find? p=l.find? p
 | [],_=>rfl
 | a::l,h=>by
  have C:=EA (p:=p) (r:=r) (l:=l) λu hu=>h u (by simp[hu])
  by_cases w:r a=true
  ·rw[List.filter_cons_of_pos w,XN,XN,C]
  have d:p a=false:=by
   cases d:p a with
   | false=>rfl
   | true=>exact absurd (h a cE d) w
  rw[Wt w,XN,d,C]
theorem El(ao:jW S)(D:oD S)(C:t∈S):ke (hb S t.id)=fV (ke S) (iv t):=by funext o;simp only[ke,fV];by_cases e:o=iv t;rw[ax e,al];rintro⟨u,hu,d⟩;have w:=l6.1 hu;exact w.2 (by rw[D.inj w.1 C (d.trans e)]);rw[al e];have H:kE (hb S t.id) o↔kE S o:=(by constructor;rintro⟨u,hu,d⟩;exact⟨u,(l6.1 hu).1,d⟩;rintro⟨u,hu,d⟩;refine⟨u,l6.2 ⟨hu,λw=>e ?_⟩,d⟩;rw[<-d,ao.inj hu C w]);have E:ho (hb S t.id) o=ho S o:=(by rw[ho,ho,hb,EA];intro u hu d;simp only[decide_eq_true_eq]at d⊢;intro w;exact e (by rw[<-d,ao.inj hu C w]));simp_all
theorem Ej(h:¬kE S (iv t)):ke (S++[t])=fj (ke S) (iv t) (aa t.id):=by
 funext o;simp only[ke,fj];have w:kE (S++[t]) o↔kE S o\/iv t=o:=by simp[kE,or_and_right,exists_or]
 by_cases e:o=iv t;subst e;rw[ax (w.2 (.inr rfl)),ax rfl,ho,List.find?_append];have:S.find? (λu=>decide (iv u=iv t))=none:=(by rw[W4];intro u hu;simp only[decide_eq_true_eq];exact λe=>h ⟨u,hu,e⟩);grind;rw[al e];by_cases d:kE S o;rw[ax (w.2 (.inl d)),ax d,ho,ho,List.find?_append];grind;grind
variable{p:Int}
theorem pO{S:List Fn}:x∈c5 S p↔p≠0/\∃t∈S,t.par=p/\t.id=x:=by simp only[c5,Vs,VE,decide_eq_true_eq];grind
theorem uw(S T:List Fn)(p:Int):c5 (S++T) p=c5 S p++c5 T p:=by simp[c5]
theorem Fy(h:t.par=p)(d:p≠0):c5 [t] p=[t.id]:=by simp[c5,h,d]
theorem Aw(h:t.par≠p):c5 [t] p=[]:=by simp[c5,h]
theorem ux(S:List Fn)(p:Int):(c5 S p).length<=S.length:=by rw[c5,Wb];exact List.length_filter_le _ _
theorem Fx(S:List Fn)(p x:Int):c5 (hb S x) p=(c5 S p).filter λy=>decide (y≠x):=by rw[c5,c5,List.filter_map,hb,WZ,WZ];grind
theorem sP(ao:jW S)(C:t∈S)(w:t.par≠p):c5 (hb S t.id) p=c5 S p:=by rw[Fx];refine VK.2 λy D=>?_;obtain⟨_,u,hu,d,rfl⟩:=pO.1 D;simp only[decide_eq_true_eq];intro e;rw[ao.inj hu C e]at d;exact w d
theorem O7:(c5 S p).filter (gP λy=>decide (y=x))=c5 (hb S x) p:=by grind[Fx,List.filter_congr,gP]
theorem Fw(h:jW S)(p:Int):(c5 S p).Nodup:=h.sublist (List.filter_sublist.map _)
theorem cM.nil:cM [] 0:=⟨V1,V1,(λt h=>by cases h),Int.le_refl _⟩
variable{last:Int}
theorem cM.sub{T:List Fn}(h:cM S last)(hs:T.Sublist S):cM T last:=
 ⟨h.bq.sublist (hs.map _),h.no.sublist (hs.map _),λt d=>h.rg t (hs.subset d),by have:=h.len;have:=hs.length_le;omega⟩
theorem cM.off(h:cM S last)(x:Int):cM (hb S x) last:=h.sub WE
theorem cM.add(h:cM S last)(O:t.id=last+1)(N:0<=t.par/\t.par<=last)(E:¬kE S (iv t)):cM (S++[t]) (last+1) where
 bq:=by
  rw[jW,V7,VI]
  refine⟨h.bq,by simp,λx C y d=>?_⟩
  obtain⟨a,w,rfl⟩:=Vs.1 C
  simp only[VF,W5,Vd]at d
  have:=h.rg a w
  omega
 no:=by
  rw[oD,V7,VI]
  refine⟨h.no,by simp,λx C y d=>?_⟩
  obtain⟨a,w,rfl⟩:=Vs.1 C
  simp only[VF,W5,Vd]at d
  rw[d];exact λD=>E ⟨a,w,D⟩
 rg:=λu hu=>by
  have H:=h.len
  rcases Ve.1 hu with hu|hu
  ·have:=h.rg u hu;omega
  rw[Vd.1 hu];omega
 len:=by have:=h.len;rw[mp,Vl];omega
def hi(S:List Fn)(last par:Int)(o:Int×Int):List Fn×Int×Int×Int:=if ¬fP S par/\par≠0 then(S,last,0,6)else if ho S o≠0 then(S,last,0,7)else(S++[⟨last+1,par,o.1,o.2⟩],last+1,last+1,0)
def ha(S:List Fn)(u:Fn)(p:Int):List Fn:=hb S u.id++[⟨u.id,p,u.dF,u.cf⟩]
theorem cM.move(h:cM S last){u:Fn}(hu:u∈S)(H:0<=p/\p<u.id):cM (ha S u p) last where
 bq:=by
  rw[jW,ha,V7,VI]
  refine⟨(h.off _).bq,by simp,λx C y d=>?_⟩
  obtain⟨a,w,rfl⟩:=Vs.1 C
  simp only[VF,W5,Vd]at d
  rw[d];exact(l6.1 w).2
 no:=by
  rw[oD,ha,V7,VI]
  refine⟨(h.off _).no,by simp,λx C y d=>?_⟩
  obtain⟨a,w,rfl⟩:=Vs.1 C
  simp only[VF,W5,Vd]at d
  rw[d];intro E
  have D:=l6.1 w
  exact D.2 (by rw[h.no.inj D.1 hu E])
 rg:=λv hv=>by
  rcases Ve.1 hv with hv|hv
  ·exact h.rg v (l6.1 hv).1
  rw[Vd.1 hv];have:=h.rg u hu;dsimp only;omega
 len:=by have:=h.len;have:=uP h.bq hu;rw[ha,mp,Vl];omega
theorem EK(h:cM S last)(o:Int×Int):kE S o↔ho S o≠0:=by constructor;rintro⟨t,d,rfl⟩;rw[zK h.no d];have:=h.rg t d;omega;grind[zJ]
theorem z6(h:cM S last)(u:fP S x):1<=x/\x<=last:=by obtain⟨t,d,rfl⟩:=u;have:=h.rg t d;omega
end Go.Proofs.Q.b1
