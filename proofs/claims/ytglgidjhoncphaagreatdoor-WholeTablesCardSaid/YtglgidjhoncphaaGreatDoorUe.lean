/- Proved here: contracts, each under its own premises. -/
import Derived.Test.YtglgidjhoncphaaGreatDoorUd
set_option linter.all false
set_option maxRecDepth 4000
set_option maxHeartbeats 4000000
open List renaming length_append->mp,getElem?_eq_getElem->Vb,mem_singleton->Vc,mem_append->Vd,mem_of_getElem?->Vg,length_singleton->Vk,getElem?_eq_some_iff->Vl,mem_map->Vn,take_add_one->Vs,nodup_cons->Vu,flatMap_cons->Vw,replicate->Vx,length_cons->VB,nodup_append->VH,take_of_length_le->VR,getElem?_set_self->VX,take_length->VY,length_set->V3,mem_flatMap->V5,getElem?_set_ne->Wj,flatMap_append->WT,length_nil->WY,length->WZ,length_replicate->Xa,length_reverse->Xf,getElem?_eq_none->Xm,map_map->X1,dropLast_concat_getLast->Yk,ext_getElem?->Yp,length_eq_zero_iff->YL,Nodup->YO,mem_cons->Vp,mem_filter->Vv,append_assoc->VC,append_nil->V4,range->V8,map_append->We,length_map->Wf,length_take->Wo,take_zero->WN,mem_range->W1,getElem_of_mem->XP,range_succ->X7
open Decidable renaming of_not_not->Vf,by_contra->Wd,byContradiction->WH
open Nat renaming zero_le->Vh,pow_le_pow_right->Vi,le_refl->Vj,le_of_ble_eq_true->Vq,le_add_right->Vt,le_trans->WB,mul_le_mul_right->VQ,and_le_right->WC,lt_succ_iff_lt_or_eq->YK
open Go.Value renaming oneCell'->VN,slice->VO,int->Wn,bool->Wu
open BitVec renaming ofInt->VW
open Int renaming toNat_of_nonneg->V6,le_refl->W3
open Option.some renaming inj->Wr
open Option renaming map_some->WM
open List.Pairwise renaming nil->Xq
open Go.Builtin renaming firstCells->VF
open Go.Proofs.Tryz renaming prog->VT
open Go.QM.ab renaming aB->Ve,loop->VK,bf->WE
open Go.QM.aW renaming known->VD
namespace Go.Proofs.Q.b0
open Go Go.QM
theorem zJ{α β:Type}{f g:α->List β}:∀{l:List α},(∀a∈l,f a=g a)->l.flatMap f=l.flatMap g
 | [],_=>rfl
 | a::l,h=>by rw[Vw,Vw,h a cE,zJ λb am=>h b o2]
def nZ:Nat->List Fn->Int->List Int
  | 0,_,_=>[]
  | n+1,L,p=>(c6 L p).flatMap λk=>nZ n L k++[k]
def j2(L:List Fn)(last p:Int):List Int:=nZ (last-p).toNat L p
def jG(L:List Fn)(last p:Int):List Int:=j2 L last p++[p]
def hW(L:List Fn)(last p:Int):List Int:=if fW L p then j2 L last p else[]
variable{L:List Fn}{last:Int}
theorem pU(h:cL L last){p k:Int}(d:k∈c6 L p):p<k/\k<=last/\1<=k:=by obtain⟨_,t,u,w,rfl⟩:=pT.1 d;have:=h.rg t u;omega
theorem uA(h:cL L last){p:Int}(u:last<=p):c6 L p=[]:=by rw[List.eq_nil_iff_forall_not_mem];intro k d;have:=pU h d;omega
theorem Dd{L:List Fn}{last:Int}(h:cL L last):∀(n m:Nat) (p:Int),(last-p).toNat<=n->(last-p).toNat<=m->nZ n L p=nZ m L p
 | 0,0,_,_,_=>rfl
 | 0,m+1,p,d,_=>by rw[nZ,nZ,uA h U];rfl
 | n+1,0,p,_,u=>by rw[nZ,nZ,uA h U];rfl
 | n+1,m+1,p,d,u=>by rw[nZ,nZ];refine zJ λk w=>?_;have:=pU h w;rw[Dd h n m k U U]
theorem sE(h:cL L last)(p:Int):j2 L last p=(c6 L p).flatMap (jG L last):=by rw[j2];cases au:(last-p).toNat with|zero=>rw[uA h U];rfl|succ n=>rw[nZ];refine zJ λk d=>?_;have:=pU h d;rw[jG,j2,Dd h n _ k U (Vj _)]
inductive oB(L:List Fn)(k:Int):Int->Prop
  | refl:oB L k k
  | step {t:Fn}:t∈L->oB L k t.par->oB L k t.id
variable{x:Int}
theorem oB.le(h:cL L last){k:Int}(a:oB L k x):k<=x:=by induction a with|refl=>omega|step d _ u=>have:=h.rg _ d;omega
theorem Ka{L:List Fn}(h:jZ L){bM u:Int}(a:oB L bM x)(b:oB L u x):bM=u\/(∃t∈L,t.id=bM/\oB L u t.par)\/∃t∈L,t.id=u/\oB L bM t.par:=by induction a with|refl=>(cases b with|refl=>exact .inl rfl|step d am=>exact .inr (.inl ⟨_,d,rfl,am⟩))|step d D C=>rename_i t;generalize w:t.id=x at b;(cases b with|refl=>exact .inr (.inr ⟨t,d,w,D⟩)|step hu am=>rw[h.inj d hu w]at C;exact C am)
theorem Bo(h:cL L last):∀(n:Nat) (p:Int),(last-p).toNat<=n->∀x,x∈jG L last p->oB L p x:=by intro n;induction n with|zero=>intro p D x d;rw[jG,sE h,uA h U]at d;simp at d;rw[d];exact .refl|succ n H=>intro p D x d;rw[jG,sE h,Vd,Vc]at d;rcases d with d|d;obtain⟨k,u,w⟩:=V5.1 d;have O:=pU h u;have:=H k U x w;obtain⟨_,t,E,C,rfl⟩:=pT.1 u;clear d w;(induction this with|refl=>exact .step E (by rw[C];exact .refl)|step hu _ N=>exact .step hu N);rw[d];exact .refl
theorem vU(h:cL L last){p:Int}(d:x∈j2 L last p):fW L x/\p<x/\x<=last/\1<=x:=by rw[sE h]at d;obtain⟨k,C,d⟩:=V5.1 d;have H:=pU h C;have w:=Bo h _ k (Vj _) x d;have N:=w.le h;have D:fW L x:=(by cases w with|refl=>obtain⟨_,t,u,_,E⟩:=pT.1 C;exact⟨t,u,E⟩|step u _=>exact⟨_,u,rfl⟩);have:=zW h D;grind
theorem Q6(h:cL L last):∀(n:Nat) (p:Int),(last-p).toNat<=n->(jG L last p).Nodup:=by intro n;induction n with|zero=>intro p V;rw[jG,sE h,uA h U];simp|succ n ar=>intro p V;(have O:∀x∈j2 L last p,x≠p:=λx d=>by have:=(vU h d).2.1;omega);rw[jG,VH];refine⟨?_,by simp,λx d y w=>by rw[Vc.1 w];exact O x d⟩;rw[sE h,YO,List.pairwise_flatMap];refine⟨λk P=>?_,?_⟩;have:=pU h P;exact ar k U;refine(Fo h.bC p).imp_of_mem (λ{bM au} C D Q x d y w e=>?_);subst e;have E:=Bo h _ bM (Vj _) x d;have a2:=Bo h _ au (Vj _) x w;obtain⟨_,t1,ah,W,H⟩:=pT.1 C;obtain⟨_,t2,aq,Z,N⟩:=pT.1 D;have g1:=pU h C;have g2:=pU h D;rcases Ka h.bC E a2 with e|⟨t,u,e,a⟩|⟨t,u,e,a⟩;exact Q e;rw[h.bC.inj u ah (e.trans H.symm),W]at a;have:=a.le h;omega;rw[h.bC.inj u aq (e.trans N.symm),Z]at a;have:=a.le h;omega
theorem Df(h:cL L last)(p:Int):(j2 L last p).Nodup:=(VH.1 (Q6 h _ p (Vj _))).1
theorem qV{l m:List Int}(h:l.Nodup)(hs:∀x∈l,x∈m):l.length<=m.length:=by induction l generalizing m with|nil=>simp|cons a l E=>obtain⟨w,C⟩:=Vu.1 h;obtain⟨s,t,rfl⟩:=List.append_of_mem (hs a cE);have:=E (m:=s++t) C (λx u=>by have d:=hs x (by simp[u]);have D:x≠a:=λe=>w (e▸u);simp at d⊢;rcases d with d|d|d;exact .inl d;exact absurd d D;exact .inr d);simp at this⊢;omega
theorem De(h:cL L last)(p:Int):(j2 L last p).length<=L.length:=by have:=qV (Df h p) (m:=L.map (·.id)) (λx u=>by obtain⟨t,d,e⟩:=(vU h u).1;exact Vn.2 ⟨t,d,e⟩);simp_all
theorem Kt(h:cL L last)(p:Int):(hW L last p).length<=L.length:=by grind[hW,De]
def HM(o:Int×Int):List Value:=ints [o.1,o.2]
theorem HN(o:Int×Int):(HM o).length=2:=rfl
def nN(S:List (Int×Int)):List Value:=S.flatMap HM
theorem SY(S:List (Int×Int)):(nN S).length=S.length*2:=kF HN S
theorem SZ(S T:List (Int×Int)):nN S++nN T=nN (S++T):=by simp[nN]
theorem Ku(h:cL L last){p:Int}(d:x∈hW L last p):fW L x/\p<x/\x<=last/\1<=x:=by rw[hW]at d;split at d;exact vU h d;trivial
variable{id:Int}
theorem Kv(h:¬fW L id):hW L last id=[]:=al h
structure nW(L:List Fn)(last id:Int)(W O:List Int):Prop where
  eq:W.flatMap (jG L last)++O.reverse=jG L last id
  mem:∀x∈W,fW L x
theorem nW.start(h:fW L id):nW L last id [id] []:=⟨by simp,by simpa using h⟩
theorem nW.next(ax:cL L last){W O:List Int}(h:nW L last id (W++[x]) O):nW L last id (W++c6 L x) (O++[x]) where
 eq:=by
  have:=h.eq
  rw[WT,Vw,List.flatMap_nil,List.append_nil,jG,sE ax]at this
  rw[WT,List.reverse_append,<-this]
  simp
 mem:=λy w=>by
  rcases Vd.1 w with d|d
  ·exact h.mem y (by simp[d])
  obtain⟨_,t,u,_,e⟩:=pT.1 d;exact⟨t,u,e⟩
theorem nW.len(ax:cL L last){W O:List Int}(h:nW L last id W O):W.length+O.length<=L.length+1:=by have d:=congrArg WZ h.eq;have u:=De ax id;have w:W.length<=(W.flatMap (jG L last)).length:=(by clear h d;induction W with|nil=>simp|cons a W C=>rw[Vw,mp,VB,jG,mp,Vk];omega);grind[jG]
theorem nW.done{O:List Int}(h:nW L last id [] O):O.reverse=jG L last id:=by simpa using h.eq
structure nV(xs:List Int)(i:Nat)(pj:List Int):Prop where
  len:pj.length=xs.length
  at_:∀k,k<xs.length->pj[k]? =if k<i\/xs.length-i<=k then xs[xs.length-1-k]? else xs[k]?
theorem nV.start(xs:List Int):nV xs 0 xs:=⟨rfl,λk d=>by rw[al U]⟩
theorem nV.next{xs:List Int}{i:Nat}{d:List Int}(h:nV xs i d){u v:Int}(O:i+i+1<xs.length)(hu:d[i]? =some u)(hv:d[xs.length-1-i]? =some v):nV xs (i+1) ((d.set i v).set (xs.length-1-i) u) where
 len:=by rw[V3,V3];exact h.len
 at_:=λk N=>by have P:=h.len;have E:=h.at_ i U;have H:=h.at_ (xs.length-1-i) U;rw[al U]at E H;by_cases w:k=xs.length-1-i;subst w;rw[VX AM,az U,show xs.length-1-(xs.length-1-i)=i by omega,<-E,hu];rw[Wj (λe=>w e.symm)];by_cases C:k=i;subst C;rw[VX U,az U,<-H,hv];rw[Wj (λe=>C e.symm),h.at_ k N];by_cases D:k<i\/xs.length-i<=k;rw[az D,az U];rw[al D,al U]
theorem nV.done{xs:List Int}{i:Nat}{u:List Int}(h:nV xs i u)(w:xs.length<=i+i+1):u=xs.reverse:=by apply Yp;intro k;by_cases d:k<xs.length;rw[h.at_ k d,List.getElem?_reverse d];grind;rw[Xm (by rw[h.len];omega),Xm (by rw[Xf];omega)]
end Go.Proofs.Q.b0
namespace Go.Proofs.Q.b0
open Go Go.QM
theorem RE(ad:Option Addr)(cap:Nat)(xs:List Int)(H:xs.length<=1000000000):bz 119 [.slice ad xs.length cap] bg [a6 3 1 ad xs.length cap (ints xs)] (.tuple #[]) [a6 3 1 ad xs.length cap (ints xs.reverse)]:=by
 apply aI Tryz.func119 Tryz.ntmps119;intro F _;refine J [1,34,253,245,173,51] ?_;refine VK (ι:=Nat×List Int) (λs=>nV xs s.1 s.2/\s.1<=xs.length) (λs=>[(0,.slice ad xs.length cap),(2,aa ((s.1:Nat):Int)),(3,aa ((xs.length:Int)-1-((s.1:Nat):Int)))]) (λs=>ag [a6 3 1 ad xs.length cap (ints s.2),F]) (λs=>xs.length-s.1) ⟨0,xs⟩ ⟨nV.start xs,Vh _⟩ ⟨rfl,rfl,congrArg (Wn .i64) cy,trivial⟩ (ao (ao (a7 _))) ?_;rintro⟨i,d⟩ ⟨w,C⟩ W;dsimp only[cx]at w C⊢;apply J [118,2,137];apply Ve rfl<;>intro N;·have V:=w.len;have P:=d7 d;obtain⟨u,hu⟩:∃u,d[i]? =some u:=⟨d[i],Vb U⟩;obtain⟨v,hv⟩:∃v,d[xs.length-1-i]? =some v:=⟨d[xs.length-1-i],Vb U⟩;(have E:d[((xs.length:Int)-1-(i:Int)).toNat]? =some v:=by simp_all);(have Q:(ints (d.set i v)).length=d.length:=by rw[d7,V3]);(have O:0<(ints d).length:=by omega);refine J [89,601,193,193,193,602] ?_;refine bZ rfl rfl rfl (dG rfl rfl (hj E)) ?_;refine J [193,487] ?_;refine bZ rfl rfl rfl (dG rfl rfl (hj hu)) ?_;refine J [487,67,515,602,67] ?_;refine eh (v:=.int _ _) (vs:=[_]) 1 rfl rfl rfl rfl rfl rfl an U (wL (i:=xs.length-1-i) AM U _) ?_;refine J [308,346,2,245,173] ?_;exact⟨rfl,⟨i+1,(d.set i v).set (xs.length-1-i) u⟩,⟨w.next U hu hv,by dsimp only;omega⟩,cy,⟨rfl,rfl,congrArg (Wn .i64) cy,trivial⟩,(ao (ao (a7 _)))⟩
 have D:=w.done U;subst D;apply J [321];exact yn
theorem Ej(b:Nat)(L:List Fn)(last:Int)(id:Int)(bd:L.length<=1000000):bK 75 [ae b,aa id] bg [hF b L last] (λy:Option Addr×Nat=>.slice y.1 (hW L last id).length y.2) (λ_=>True) (λy=>[a6 3 1 y.1 (hW L last id).length y.2 (ints (hW L last id)),hF b L last]):=by
 apply aI Tryz.func75 Tryz.ntmps75;intro F _;apply J [1,117];refine ab.scope (ι:=(List Int×(Option Addr×Nat))×(List Int×(Option Addr×Nat))) 0 (λs=>nW L last id s.1.1 s.2.1/\fW L id) (λs=>[(0,ae b),(1,aa id),(5,.slice s.2.2.1 s.2.1.length s.2.2.2),(6,.slice s.1.2.1 s.1.1.length s.1.2.2)]) (λs=>ag [a6 3 1 s.1.2.1 s.1.1.length s.1.2.2 (ints s.1.1),a6 3 1 s.2.2.1 s.2.1.length s.2.2.2 (ints s.2.1),hF b L last,F]) (λs=>(s.1.1.flatMap (jG L last)).length) j8 ?_ ?_;·rintro⟨⟨W,⟨bE,bY⟩⟩,⟨O,⟨h1,fv⟩⟩⟩ ⟨d,H⟩ bo;dsimp only[cx]at d H⊢;apply J [7,34,253,241,3];apply Ve rfl<;>intro a9;(·obtain⟨V,x,rfl⟩:∃V x,W=V++[x]:=(by(have Q:W≠[]:=by grind);exact⟨W.dropLast,W.getLast Q,(Yk Q).symm⟩);(have a0:(V++[x]).length=V.length+1:=by simp_all);(have a4:(V++[x])[(((V.length+1:Nat):Int)-1).toNat]? =some x:=by simp_all);have bl:=d7 (V++[x]);obtain⟨t,ah,a5⟩:=d.mem x cE;subst a5;obtain⟨M,bN⟩:=fE ah;rw[a0];refine ab.ns 0 rfl (λ_ bn a2=>?_);simp only[maxLen]at a2;(have bk:0<(ints (V++[t.id])).length:=by omega);refine J [34,62,253,245,516] ?_;refine q rfl rfl (dG rfl rfl (hj a4)) ?_;apply J [31];have N:aG (a6 3 1 bE (V.length+1) bY (ints (V++[t.id]))) (a6 3 1 bE V.length bY (ints V)):=(by have:=p6 (E:=3) (sz:=1) (ad:=bE) (n:=V.length+1) (cap:=bY) (cs:=ints (V++[t.id])) (j:=V.length) U;grind[us]);refine WE (eO 0 rfl N (ao (ao (ao (a7 _))))) ?_;refine ab.open 2 rfl (λA _=>?_);apply J [61];refine ab.open 0 rfl (λD w=>?_);obtain⟨ad,cap,aH,bD⟩:=D;have ax:=w;apply J [145];dsimp only at ax⊢;have P:=d.len ax;have u:=pK (A:=A) ⟨t,ah,rfl⟩;have bb:=uz L t.id;have ba:=d7 (c6 L t.id);rw[mp,Vk]at P;apply J [388,540];refine cJ [0,1,2,3,4,5,6,7,8,9,10,11,12,13,-14,15] (bw (cZ (cZ (a7 _)))) ?_;apply J [367,367];refine bZ rfl rfl rfl (len 3 1 rfl rfl) ?_;refine J [440] ?_;refine bZ rfl rfl rfl (nM 3 1 (V.length) rfl rfl rfl U U) ?_;apply J [72,16,541];rw[u];refine J [66,353,13,603] ?_;intro ar av;refine J [6,370,52,34,90] ?_;intro be;refine J [0,542] ?_;intro au aw;apply J [203];refine ab.goto (gt (OT ?_));exact⟨rfl,⟨⟨V++c6 L t.id,(ar,av)⟩,⟨O++[t.id],(au,aw)⟩⟩,⟨d.next ax,H⟩,(by have aD:=congrArg WZ d.eq;have aJ:=congrArg WZ (d.next ax).eq;simp only[mp,Xf,Vk]at aD aJ⊢;omega),⟨rfl,rfl,congrArg (λn=>VO _ n _) sZ,congrArg (λn=>VO _ n _) uF,trivial⟩,(b9 2 rfl (by dsimp only;rw[pR,mp]) (b9 0 rfl (by dsimp only;rw[pR,mp];rfl) (aA A trivial (aA ⟨ad,cap,aH,bD⟩ ax (eI (eI (eI (cX 3 3 t rfl rfl rfl (λ_ _=>rfl) bN.symm (cX 1 1 t rfl rfl rfl (λ_ _=>rfl) bN.symm (bX (a7 _)))))))))))⟩);obtain rfl:W=[]:=YL.1 U;have Z:=d.done;have aT:O.length=(j2 L last id).length+1:=(by have:=congrArg WZ Z;grind[jG]);have a1:hW L last id=j2 L last id:=az H;(have bi:(jG L last id).length=(j2 L last id).length+1:=by grind);rw[a1];refine ab.open 2 rfl (λA _=>?_);apply J [61];refine ab.open 0 rfl (λD w=>?_);obtain⟨ad,cap,aH,bD⟩:=D;have ax:=w;apply J [145];dsimp only at ax⊢;have P:=d.len ax;rw[WY]at P;apply J [4,34,0];apply aq (RE h1 fv O U);apply J [54];rw[Z,aT];have N:aG (a6 3 1 h1 ((j2 L last id).length+1) fv (ints (jG L last id))) (a6 3 1 h1 (j2 L last id).length fv (ints (j2 L last id))):=(by have:=p6 (E:=3) (sz:=1) (ad:=h1) (n:=(j2 L last id).length+1) (cap:=fv) (cs:=ints (jG L last id)) (j:=(j2 L last id).length) U;grind[us,jG]);apply J [29];refine ab.ns 0 rfl (λ_ bh _=>?_);refine J [112,62,253,245] ?_;refine q rfl rfl (nM 3 1 ((j2 L last id).length) rfl rfl rfl U U) ?_;apply J [203];refine ab.ret (Fi ?_);exact bv ⟨h1,fv⟩ trivial (eO 0 rfl N (aA A trivial (aA ⟨ad,cap,aH,bD⟩ ax (ao (ao (ao (ao (ao (bX (a7 _))))))))))
 intro a3;refine ab.open 0 rfl (λA _=>?_);apply J [1];refine ab.open 0 rfl (λD w=>?_);obtain⟨ad,cap,aH,bD⟩:=D;have ax:=w;apply J [152];dsimp only at ax⊢;by_cases C:fW L id;have u:=pK (A:=A) C;apply J [7,33];apply aq (pL b aH bD L.length last (iJ A L) id);apply J [12];rw[u];refine J [339,117,140,148] ?_;intro bA;apply J [206];refine ab.label (iL ?_);exact ab.enter a3 ⟨⟨[id],(some ⟨bA,0,none⟩,1)⟩,⟨[],(none,0)⟩⟩ ⟨nW.start C,C⟩ ⟨rfl,rfl,rfl,rfl,trivial⟩ ((dE 3 1 _).trans (bX (ao (aA A trivial (aA ⟨ad,cap,aH,bD⟩ ax (ao (ao (ao (ao (ao (ao (a7 _))))))))))));have u:=qE (A:=A) C;rw[Kv C];apply J [7,33];apply aq (pL b aH bD L.length last (iJ A L) id);apply J [12];rw[u];apply J [297,3,76,203];refine ab.ret (rt (Fi ?_));exact bv ⟨none,0⟩ trivial ((dE 3 1 _).trans (ao (aA A trivial (aA ⟨ad,cap,aH,bD⟩ ax (ao (ao (ao (ao (ao (ao (a7 _)))))))))))
end Go.Proofs.Q.b0
namespace Go.Proofs.Q
open Go Go.QM
variable [dL]
theorem A7(k:IntKind){xs:List Int}{i:Nat}(h:i<xs.length){o:Nat}(d:o=i*1)(v:Int):dN o [.int k v] (cO k xs)=cO k (xs.set i v):=by
 subst d;rw[Nat.mul_one];apply Yp;intro j;have u:(cO k xs).length=xs.length:=by grind[je]
 rw[dN,cO,cO,List.getElem?_map,List.getElem?_set,List.append_assoc];grind
theorem Gk(k:IntKind)(xs:List Int)(n:Nat):(cO k xs).take (n*1)=cO k (xs.take n):=by simp[cO,List.map_take]
theorem Qr(k:IntKind){xs:List Int}{n:Nat}(h:xs.length=n):(cO k xs).take (n*1)=cO k xs:=VR (by rw[je];omega)
theorem Gj(k:IntKind)(xs:List Int):(cO k xs).all VN=true:=by simp[cO,List.all_eq_true,VN]
variable{A:bV}
theorem cm.neg(h:cm A)(x:Int)(D:x<0)(k:Int):(bW A.l x k).2≠0:=λe=>by
 have u:(av.cV A.l x).2=0:=by
  unfold bW at e
  split at e
  ·dsimp only at e;exact absurd e an
  exact e
 rw[av.cV]at u
 cases d:av.ej A.l x 1 with
 | none=>rw[d]at u;exact absurd u an
 | some y=>
  unfold av.ej at d
  split at d
  ·rename_i p w
   split at d
   ·rename_i C
    have:=(h.ok.c5 p (Vg w)).1
    omega
   cases d
  cases d
theorem cm.wU{top:Nat}{S:cD}(h:cm A)(aQ:cg top A S):lF (eS A) (jz A):=h.O4 aQ.bM λx d=>h.neg x d 1
theorem x8(h:cm A)(u:lF (eS A) (jz A)):∀(n:Nat) (x z:Int),jz A x<=n->z∈ho (eS A) (jz A) x->z=x\/z∈av.dY A.l 1
 | n,x,z,au,w=>by rcases r0 u _ x z (Vj _) w with e|⟨y,d,_⟩;exact .inl e;exact .inr (od.1 d).2.1
theorem Bp(h:cm A)(C:lF (eS A) (jz A))(x:Int):(ho (eS A) (jz A) x).length<=257:=by have H:=Bq C _ x (Vj _);rw[o7 C]at H⊢;obtain⟨O,_,_⟩:=VH.1 H;have P:(((eS A x).flatMap (ho (eS A) (jz A))).map Int.toNat).Nodup:=(by rw[YO,List.pairwise_map];refine List.Pairwise.imp_of_mem ?_ O;intro a b Q am V e;have bO:∀c∈(eS A x).flatMap (ho (eS A) (jz A)),0<=c:=λc D=>(by obtain⟨y,E,d⟩:=V5.1 D;have u:=(od.1 E).2.1;rcases x8 h C _ y c (Vj _) d with e|N;rw[e];exact(mi h.ok u).1;exact(mi h.ok N).1);grind);have d:=vf P (m:=(av.dY A.l 1).map Int.toNat) λw hw=>(by obtain⟨c,D,rfl⟩:=Vn.1 hw;obtain⟨y,E,d⟩:=V5.1 D;have u:=(od.1 E).2.1;rcases x8 h C _ y c (Vj _) d with e|N;all_goals grind);have u:=av.qw A.l 1;rw[h.ok.n]at u;grind
theorem NU(ad:Option Addr)(cap:Nat)(xs:List Int)(H:xs.length<=1000000000):bz 309 [.slice ad xs.length cap] bg [a6 33 1 ad xs.length cap (cO .u32 xs)] (.tuple #[]) [a6 33 1 ad xs.length cap (cO .u32 xs.reverse)]:=by
 apply aI Tryz.func309 Tryz.ntmps309;intro F _;refine J [1,34,255,245,173,51] ?_;refine VK (ι:=Nat×List Int) (λs=>b0.nV xs s.1 s.2/\s.1<=xs.length) (λs=>[(0,.slice ad xs.length cap),(2,aa ((s.1:Nat):Int)),(3,aa ((xs.length:Int)-1-((s.1:Nat):Int)))]) (λs=>ag [a6 33 1 ad xs.length cap (cO .u32 s.2),F]) (λs=>xs.length-s.1) ⟨0,xs⟩ ⟨b0.nV.start xs,Vh _⟩ ⟨rfl,rfl,congrArg (Wn .i64) cy,trivial⟩ (ao (ao (a7 _))) ?_;rintro⟨i,d⟩ ⟨w,C⟩ W;dsimp only[cx]at w C⊢;apply J [118,2,137];apply Ve rfl<;>intro N;·have V:=w.len;have P:=je .u32 d;obtain⟨u,hu⟩:∃u,d[i]? =some u:=⟨d[i],Vb U⟩;obtain⟨v,hv⟩:∃v,d[xs.length-1-i]? =some v:=⟨d[xs.length-1-i],Vb U⟩;(have E:d[((xs.length:Int)-1-(i:Int)).toNat]? =some v:=by simp_all);(have Q:(cO .u32 (d.set i v)).length=d.length:=by rw[je,V3]);(have O:0<(cO .u32 d).length:=by omega);refine J [89,601,193,193,193,604] ?_;refine bZ rfl rfl rfl (dG rfl rfl (nI E)) ?_;apply J [193];refine bZ rfl rfl rfl (hH 33 1 rfl rfl rfl U eB) ?_;refine bZ rfl rfl rfl (dG rfl rfl (nI hu)) ?_;refine bZ rfl rfl rfl (hH 33 1 rfl rfl rfl U eB) ?_;apply J [67];refine QM.eh (v:=.int _ _) (vs:=[_]) 1 rfl rfl rfl rfl rfl rfl an U (A7 .u32 (i:=i) U U _) ?_;refine J [604,67] ?_;refine QM.eh (v:=.int _ _) (vs:=[_]) 1 rfl rfl rfl rfl rfl rfl an U (A7 .u32 (i:=xs.length-1-i) AM U _) ?_;refine J [308,346,2,245,173] ?_;exact⟨rfl,⟨i+1,(d.set i v).set (xs.length-1-i) u⟩,⟨w.next U hu hv,by dsimp only;omega⟩,cy,⟨rfl,rfl,congrArg (Wn .i64) cy,trivial⟩,(ao (ao (a7 _)))⟩
 have D:=w.done U;subst D;apply J [321];exact yn
variable(aK af:Nat)
theorem DK(top:Nat)(A:bV)(h:Int)(a4:0<=h/\h<=4294967295):bK 259 [ae aK,aS h] bg [iv aK af top A] (λy:Option Addr×Nat=>.slice y.1 (fw A h).length y.2) (λ_=>True) (λy=>[a6 33 1 y.1 (fw A h).length y.2 (cO .u32 (fw A h)),iv aK af top A]):=by
 apply aI Tryz.func259 Tryz.ntmps259;intro F _;apply J [1];refine ab.lT 0 rfl (λau=>?_);obtain⟨_,aQ,aE⟩:=au;have d:=aE.wU aQ;have bd:=Bp aE d h;have bh:ho (eS A) (jz A) h=fw A h++[h]:=o7 d h;have aD:∀z∈ho (eS A) (jz A) h,0<=z/\z<=4294967295:=λz a0=>(by rcases x8 aE d _ h z (Vj _) a0 with e|e;omega;exact mi aE.ok e);refine J [117,117,140,148] ?_;intro be;apply J [206,51];refine VK (ι:=(List Int×Option Addr×Nat)×(List Int×Option Addr×Nat)) (λs=>s.1.1.flatMap (ho (eS A) (jz A))++s.2.1.reverse=ho (eS A) (jz A) h) (λs=>[(0,ae aK),(1,aS h),(5,.slice s.2.2.1 s.2.1.length s.2.2.2),(6,.slice s.1.2.1 s.1.1.length s.1.2.2)]) (λs=>ag [a6 33 1 s.1.2.1 s.1.1.length s.1.2.2 (cO .u32 s.1.1),a6 33 1 s.2.2.1 s.2.1.length s.2.2.2 (cO .u32 s.2.1),iv aK af top A,F]) (λs=>(s.1.1.flatMap (ho (eS A) (jz A))).length) (([h],some ⟨be,0,none⟩,1),([],none,0)) cE bH ((dE 33 1 _).trans (bX (ao (ao (ao (a7 _)))))) ?_;rintro⟨⟨W,bE,bY⟩,⟨O,h1,fv⟩⟩ u bo;dsimp only[cx]at u⊢;apply J [7,34,255,241,3];apply Ve rfl<;>intro a3;obtain⟨V,x,rfl⟩:∃V x,W=V++[x]:=(by(have D:W≠[]:=by grind);exact⟨W.dropLast,W.getLast D,(Yk D).symm⟩);have ar:(V++[x]).length=V.length+1:=b6
 have aJ:(V++[x])[(((V.length+1:Nat):Int)-1).toNat]? =some x:=b6
 have bk:=je .u32 (V++[x]);have aT:=aD x (by rw[<-u];exact Vd.2 (.inl (V5.2 ⟨x,by simp,uX d x⟩)));have hlen:∀L:List Int,L.length<=(L.flatMap (ho (eS A) (jz A))).length:=λL=>(by induction L with|nil=>exact Vh _|cons a L bn=>have:=List.length_pos_of_mem (uX d a);rw[Vw,mp,VB];omega);have C:=congrArg WZ u;have a2:=hlen V;have hIn:(V++eS A x).flatMap (ho (eS A) (jz A))++(O++[x]).reverse=ho (eS A) (jz A) h:=(by grind[o7]);have a5:(eS A x).length<=257:=WB (hlen _) (WB (by have:=congrArg WZ (o7 d x);rw[mp]at this;omega) (Bp aE d x));rw[mp,Xf,WT,mp]at C;rw[ar];refine ab.ns 0 rfl (λ_ bl av=>?_);simp only[maxLen]at av;have bi:0<(cO .u32 (V++[x])).length:=U
 refine J [4,51,34,62,255,245] ?_;refine q rfl rfl (kK 33 1 rfl rfl rfl U U eB) ?_;refine q rfl rfl (dG rfl rfl (nI aJ)) ?_;apply J [31];have w:aG (a6 33 1 bE (V.length+1) bY (cO .u32 (V++[x]))) (a6 33 1 bE V.length bY (cO .u32 V)):=(by have:=p6 (E:=33) (sz:=1) (ad:=bE) (n:=V.length+1) (cap:=bY) (cs:=cO .u32 (V++[x])) (j:=V.length) U;grind[Gk]);refine WE (eO 0 rfl w (ao (ao (ao (a7 _))))) ?_;refine cJ [0,1,2,3,4,5,6,-7,-8,9] (a7 _) ?_;apply J [367,367];refine bZ rfl rfl rfl (len 33 1 rfl rfl) ?_;refine J [440] ?_;refine bZ rfl rfl rfl (nM 33 1 (V.length) rfl rfl rfl U U) ?_;apply J [56,239];apply ba (Dy aK af top A x aT);intro z9 _;refine J [284] ?_;have a9:=je .u32 (eS A x);refine J [13,605] ?_;intro H P;refine J [6,370,52,112,90] ?_;intro bA;refine J [0,488] ?_;intro N Q;apply J [60,150];exact⟨rfl,((V++eS A x,H,P),(O++[x],N,Q)),hIn,(by dsimp only;have Z:=congrArg WZ hIn;simp only[mp,Xf,Vk,WT]at Z C⊢;omega),⟨rfl,rfl,congrArg (λn=>VO _ n _) sZ,congrArg (λn=>VO _ n _) uF,trivial⟩,(b9 2 rfl (by dsimp only;rw[o3,mp]) (b9 0 rfl (by dsimp only;rw[o3,mp];rfl) (bw (bw (a7 _)))))⟩;obtain rfl:W=[]:=YL.1 U;have aw:O.reverse=fw A h++[h]:=b6
 have ah:O.length=(fw A h).length+1:=b6;have a1:O.length<=257:=b6
 apply J [198,0];apply aq (NU h1 fv O U);apply J [18];rw[aw,ah];have w:aG (a6 33 1 h1 ((fw A h).length+1) fv (cO .u32 (fw A h++[h]))) (a6 33 1 h1 (fw A h).length fv (cO .u32 (fw A h))):=(by have:=p6 (E:=33) (sz:=1) (ad:=h1) (n:=(fw A h).length+1) (cap:=fv) (cs:=cO .u32 (fw A h++[h])) (j:=(fw A h).length) U;grind[Gk]);apply J [29];refine ab.ns 0 rfl (λ_ bb _=>?_);refine J [112,62,255,245] ?_;refine q rfl rfl (nM 33 1 ((fw A h).length) rfl rfl rfl U U) ?_;apply J [91];exact bv (h1,fv) trivial (eO 0 rfl w ai)
def A1(A:bV)(h:Int):Prop:=∀i s (x r:Nat),A.aJ i s=dC x r->1<=r->r<=15->x<4294967295->(x:Int)≠h
structure Cy(A:bV)(h:Int)(bl:bV):Prop where
  ex:∃(k:Nat) (o:av.fi) (g:Int) (a8:Nat->Nat->Nat),A.l[k]? =some ⟨o,1,g⟩/\h=g*256+k/\k<256/\(∀i,i≠k->a8 i=A.a8 i)/\bl={A with l:=A.l.set k ⟨o,2,g⟩,a8:=a8,q:=A.q++[(h,A.now+A.pd)]}
theorem L7{h:Int}{k:Nat}{p:av.b3}(e:av.ej A.l h 1=some (k,p)):(av.hY A.l h).1=A.l.set k ⟨p.o,2,p.c5⟩:=by rw[av.hY,e]
theorem K2(top:Nat)(A:bV)(h:Int)(u:0<=h/\h<=4294967295)(O:(av.cV A.l h).2=0)(ah:h≠0)(hm:eS A h=[])(au:A1 A h)(P:∀s,A.aJ (h %256).toNat s=0):bK 348 [ae aK,aS h] bg [iv aK af top A] (λ_:bV=>aa 0) (λw=>Cy A h w) (λw=>[iv aK af top w]):=by apply aI Tryz.func348 Tryz.ntmps348;intro F _;apply J [1,96];apply aq (j3 aK af top A h u 0);apply J [5];rw[iy];refine J [214] ?_;intro be;apply J [86,222];refine Ve rfl (λE=>absurd E (λh=>h O)) (λE=>?_);apply J [26,205];refine Ve rfl (λH=>absurd H (ah)) (λH=>?_);apply J [33];apply ba (Dy aK af top A h u);intro bb _;apply J [18];rw[hm];apply J [255,241,36];refine Ve rfl (λN=>absurd N (an)) (λN=>?_);apply ab.open 1 rfl;rintro⟨am,bx,S⟩ ⟨aQ,aE⟩;apply J [247];dsimp only at aQ aE⊢;apply J [23,87,27];apply aq (av.O9 am A.l h aE.ok u);refine J [15,3,101,226,148] ?_;intro bA;obtain⟨k,p,Q,C,D,V,d,W,Z⟩:=oU u.1 O;obtain⟨o,s,g⟩:=p;dsimp only at D d Z;subst D;have a4:=aE.pd;have a5:=aE.bd;have a9:=aE.G5;have a3:k≠0:=λe=>(by obtain⟨⟨a,bO⟩,_⟩:=aE.rt;simp_all);rw[L7 Q];rw[W]at P;refine e rfl ?_;apply eJ (gy.vN bx A.pd A.now A.q (cM bA) 1 [h] a4.1 U U (Vq rfl)) ⟨_,bn.rd (ad:=some ⟨bA,0,none⟩)⟩;apply J [54,123];have a0:=aE.t7 C a3 (λi s x r ar aw aD aT=>by rw[<-d];exact au i s x r ar aw aD aT) P (λi=>if i=k then λx=>S.m (o.a.toNat+x)else A.a8 i);have a1:=aQ.t7 (bl:={A with l:=A.l.set k ⟨o,2,g⟩,a8:=λi=>if i=k then λx=>S.m (o.a.toNat+x)else A.a8 i,q:=A.q++[(g*256+k,A.now+A.pd)]}) ⟨g,C⟩ rfl rfl rfl rfl ⟨rfl,rfl,rfl⟩;exact bv {A with l:=A.l.set k ⟨o,2,g⟩,a8:=λi=>if i=k then λx=>S.m (o.a.toNat+x)else A.a8 i,q:=A.q++[(g*256+k,A.now+A.pd)]} ⟨⟨k,o,g,_,C,d,V,λi a2=>al a2,by rw[d]⟩⟩ (aA (⟨am,bx,S⟩:eE) ⟨a1,a0⟩ (cZ (cZ (bw (b9 0 rfl (by dsimp only;rw[d];rfl) ai)))))
theorem RD{n:Int}{l:List (Int×Int)}(hs:l.Pairwise λa b=>a.2<=b.2):∀t∈gy.m8 n l,n<t.2:=by induction l with|nil=>intro t h;cases h|cons a l w=>intro t h;rw[List.pairwise_cons]at hs;rw[gy.m8,List.dropWhile_cons]at h;split at h;exact w hs.2 t h;rename_i u;(have d:n<a.2:=by simpa using u);rcases List.mem_cons.1 h with rfl|h;exact d;have:=hs.1 t h;omega
def qH(D:List Int)(i:Nat)(p:av.b3):av.b3:=if p.st=2/\p.c5*256+(i:Int)∈D then av.jb p else p
def qi(l l':List av.b3)(D:List Int):Prop:=∀i,l'[i]? =(l[i]?).map (qH D i)
theorem Ni(l:List av.b3):qi l l []:=λi=>by
 cases l[i]? with
 | none=>rfl
 | some p=>rw[WM,qH,al (λh=>absurd h.2 cE)]
theorem zN(p:av.b3):(av.jb p).st≠2/\(av.jb p).st≠1:=by grind[av.jb]
theorem Nj{l l':List av.b3}{D:List Int}(h:qi l l' D){k:Nat}{p:av.b3}(H:l'[k]? =some p)(E:p.st=2)(Q:k<256)(N:av.dQ l):qi l (l'.set k (av.jb p)) (D++[p.c5*256+(k:Int)]):=λi=>by
 have d:=h i
 by_cases e:i=k
 ·subst e
  rw[H]at d
  cases C:l[i]? with
  | none=>rw[C]at d;cases d
  | some q=>
   rw[C,WM]at d
   have O:p=q:=by
    have:=Wr d
    rw[qH]at this
    split at this
    ·rw[this]at E;exact absurd E (zN q).1
    exact this
   rw[VX (Vl.1 H).1,WM,qH,<-O,az ⟨E,by simp⟩]
 rw[Wj λu=>e u.symm,d]
 cases C:l[i]? with
 | none=>rfl
 | some q=>
  rw[WM,WM,qH,qH]
  have P:=N.c5 q (Vg C)
  have V:=N.lt C
  have:(p.c5*256+(k:Int)=q.c5*256+(i:Int))->False:=λu=>e U
  have u:(q.c5*256+(i:Int)∈D++[p.c5*256+(k:Int)])↔q.c5*256+(i:Int)∈D:=by
   rw[Vd,Vc]
   exact⟨λh=>h.elim id λh=>(this h.symm).elim,.inl⟩
  by_cases w:q.st=2/\q.c5*256+(i:Int)∈D
  ·rw[az w,az ⟨w.1,u.2 w.2⟩]
  rw[al w,al λh=>w ⟨h.1,u.1 h.2⟩]
structure rq(top:Nat)(A:bV)(due rest:List (Int×Int))(j:Nat)(B:bV)(S:cD):Prop where
  NL:j<=due.length
  aQ:cg top B S
  aE:cm B
  EH:qi A.l B.l ((due.map (·.1)).take j)
  he:B={A with l:=B.l,Q:=B.Q,q:=due.drop j++rest}
structure tI(A bl:bV):Prop where
  ex:∃(l:List av.b3) (Q:List aD.b1),qi A.l l ((gy.lP (A.now+1) A.q).map (·.1))/\bl={A with l:=l,Q:=Q,now:=A.now+1,q:=gy.m8 (A.now+1) A.q,np:=A.np+1}
theorem cm.To(h:cm A){r:List (Int×Int)}(u:A.q=r)(hr:∀t∈r,A.now+1<t.2)(w:A.np+1<=1000000):cm {A with now:=A.now+1,np:=A.np+1}:=
 ⟨h.ok,h.ee,h.rt,h.ac,h.c3,h.nu,h.aJ,h.hN,h.mD,h.oj,λt d=>⟨hr t (u▸d),by have:=h.ol t d;dsimp only;omega⟩,h.m6,⟨h.pd.1,by have:=h.pd;dsimp only;omega⟩,by have:=h.bd;dsimp only;omega⟩
theorem cg.tick{top:Nat}{S bb:cD}{k c x:Nat}{f g:Int}{P:av.b3}{Q:List aD.b1}{q:List (Int×Int)}(h:cg top A S)(ar:A.l[k]? =some ⟨bD c x f,2,g⟩)(E:jE c)(Z:¬fs P.st){D:cD}(w:D.C=S.C/\D.Fr=S.Fr/\D.m=S.m/\D.bF=S.bF)(p:tF top D f c x bb)(ah:bb.Q=Q):cg top {A with l:=A.l.set k P,Q:=Q,q:=q} bb:=by have W:cg top {A with l:=A.l.set k P} S:=h.free Z rfl rfl rfl rfl ⟨rfl,rfl,rfl⟩;have aq:gk top S D h0 h0:=wF h.P w.1 w.2.1 w.2.2.1;have N:∀a,¬fA c x 6 a/\¬fA c x 7 a:=λa=>⟨λh=>by rcases E with E|E<;>have:=h.1<;>omega,λh=>by rcases E with E|E<;>have:=h.1<;>omega⟩;refine W.m0 (aq.trans p.g) rfl rfl rfl rfl ⟨ah,by rw[p.q.2,w.2.2.2];exact h.Q.2⟩ (λi s d b V au H=>?_) (λa=>⟨λh=>h.elim id (N a).1,λh=>h.elim id (N a).2⟩) (by rw[p.u,w.1]) (by have:=p.p;rw[w.1,w.2.1]at this;have:=h.gj;dsimp only;omega);have O:¬fA c x d b:=(by rintro⟨rfl,rfl⟩;rcases H.set with⟨e,H⟩|⟨_,e,_⟩;exact e (h.un i k s 2 d b V f au (.inr rfl) H ⟨g,ar⟩);simp_all);exact⟨λh=>h.elim id O,λh=>absurd h λh=>h.elim id O⟩
theorem LU(am bx top:Nat)(S:cD)(cP bd ar:Nat)(d:Nat->Nat)(a w:Nat)(k f:Int)(D:2^top<=128)(bO:a+8<=1024*2^top)(u:a %8=0)(C:cU S.m a=w)(hw:w<2^63):bz 100 [ae aK,.agg (ints (bD k a f).l).toArray] bg [aj aK 135 [ae af,ae am,ae bx],aj af 169 (iz 8 cP bd ar d),gB ar S.m (1024*2^top)] (aa w) [aj aK 135 [ae af,ae am,ae bx],aj af 169 (iz 8 cP bd ar d),gB ar S.m (1024*2^top)]:=by apply aI Tryz.func100 Tryz.ntmps100;intro F _;apply J [61];subst C;refine J [25,291] ?_;intro be;apply J [31];refine cJ [0,1,2,3,5,6,-4,-7,8,9,10,11,12] (ao (ao (a7 _))) ?_;apply J [72,338];apply aq (l5 af cP bd ar d);refine J [302,47] ?_;apply aq (tM ar (1024*2^top) a S.m U bO u);refine J [284,254,285,277,26] ?_;refine q rfl rfl (conv .u64 .i64 rfl rfl rfl (ow hw)) ?_;apply J [30];exact dy
theorem LK(top:Nat)(A:bV)(cb:A.np+1<=1000000):bK 160 [ae aK] cW [iv aK af top A] (λy:(Option Addr×Nat)×bV=>.slice y.1.1 ((gy.lP (A.now+1) A.q).map (·.1)).length y.1.2) (λy=>tI A y.2) (λy=>[a6 33 1 y.1.1 ((gy.lP (A.now+1) A.q).map (·.1)).length y.1.2 (cO .u32 ((gy.lP (A.now+1) A.q).map (·.1))),iv aK af top y.2]):=by
 apply aI Tryz.func160 Tryz.ntmps160;intro F bz;apply J [1];haveI:cl F:=⟨bz⟩;apply ab.open 0 rfl;rintro⟨am,bx,S⟩ ⟨aQ,aE⟩;apply J [57];dsimp only at aQ aE⊢;apply J [117,188,103,122,101];have cU:=aE.pd;have cL:=aE.bd;have c0:=aE.G5;refine e rfl ?_;apply ba (gy.B3 bx A.pd A.now A.q U U);intro y _;apply J [12,177];have b3:gy.lP (A.now+1) A.q++gy.m8 (A.now+1) A.q=A.q:=by grind[gy.lP,gy.m8,List.takeWhile_append_dropWhile]
 have cn:∀t∈gy.m8 (A.now+1) A.q,A.now+1<t.2:=RD aE.m6;generalize b4:gy.lP (A.now+1) A.q=due at*;generalize cm:gy.m8 (A.now+1) A.q=rest at*;have cQ:due.length<=256:=cv;have ch:(due.map (·.1)).length=due.length:=b6
 refine VK (ι:=(Nat×bV×cD)×(Option Addr×Nat)) (λs=>rq top A due rest s.1.1 s.1.2.1 s.1.2.2) (λs=>[(0,ae aK),(3,.slice s.2.1 ((due.map (·.1)).take s.1.1).length s.2.2),(15,.slice y.1 (due.map (·.1)).length y.2),(16,aa (due.map (·.1)).length),(17,aa ((s.1.1:Nat):Int))]) (λs=>ag [a6 33 1 s.2.1 ((due.map (·.1)).take s.1.1).length s.2.2 (cO .u32 ((due.map (·.1)).take s.1.1)),gy.eC bx A.pd (A.now+1) rest,a6 3 1 y.1 (due.map (·.1)).length y.2 (ints (due.map (·.1))),aj aK 135 [ae af,ae am,ae bx],dU af top s.1.2.2,a6 264 5 (cM am) 256 256 (av.fN s.1.2.1.l),F]) (λs=>due.length-s.1.1) ((0,A,S),(none,0)) ⟨Vh _,aQ,aE,Ni _,by rw[List.drop_zero,b3]⟩ bH ((dE 33 1 _).trans ai) ?_;rintro⟨⟨j,B,T⟩,ad,cap⟩ ah dd;dsimp only[cx]at ah⊢;apply J [43];apply Ve rfl<;>intro cR;have cc:j<due.length:=U
 obtain⟨⟨x,t⟩,c6⟩:∃z,due[j]? =some z:=⟨due[j],Vb cc⟩;have cz:(due.map (·.1))[j]? =some x:=b6
 have cV:0<(ints (due.map (·.1))).length:=by grind[d7]
 obtain⟨_,d,aU,kI,D⟩:=ah;have E:B.q=(x,t)::(due.drop (j+1)++rest):=(by grind[List.drop_eq_getElem_cons]);obtain⟨⟨⟨k,p⟩,cf⟩,au⟩:=(aU.mD x).2 (by rw[E];simp);obtain⟨w,aw,ce,bi⟩:=av.oc au cf;obtain⟨o,c8,g⟩:=p;dsimp only at bi aw;subst bi;have b1:=aU.ok.c5 _ (Vg w);dsimp only at b1;obtain⟨c,a9,f,rfl,H,a1⟩:=d.obj k 2 o (.inr rfl) ⟨g,w⟩;have oV:av.pN B.l x=(B.l.set k (av.jb ⟨bD c a9 f,2,g⟩),bD c a9 f,0):=by grind[av.pN]
 have Z:(due.map (·.1)).take (j+1)=(due.map (·.1)).take j++[x]:=by grind[List.take_succ]
 have bg:¬fs (av.jb ⟨bD c a9 f,2,g⟩).st:=by grind[fs,zN]
 have c2:((due.map (·.1)).take j).length<=256:=cv
 have cH:=d.P;have ar:=Nj kI w rfl ce aE.ok;dsimp only at ar;rw[<-aw,<-Z]at ar;refine J [189] ?_;refine q rfl rfl (dG rfl rfl (hj cz)) ?_;refine J [85,484,28,87,27] ?_;apply aq (av.Nn am B.l x aU.ok ⟨au,by omega⟩);apply J [15];rw[oV];refine J [214] ?_;intro bA;apply J [86,32];refine Ve rfl (λW=>absurd W (λh=>h rfl)) (λW=>?_);apply J [44,99,224];apply Ve rfl<;>intro W;obtain rfl:c=1:=by have bO:((c:Nat):Int)=1:=W;omega
 have ck:=d.mB k 2 a9 f (.inr rfl) ⟨g,w⟩;have cS:=aU.Bj (.inr rfl) ⟨g,w⟩;have cN:=c7.bd d.P a1;have cF:bL 1=64:=rfl;obtain⟨dT,a4⟩:=aU.free w H (by rw[<-aw];exact E) (mg:=(aD.iH T.Q (B.own k)).1) (by rw[d.Q.1];rfl);obtain⟨cr,u⟩:∃cr:cD,cr=⟨(aD.iH T.Q (B.own k)).1,T.bF,T.C,T.Fr,T.m⟩:=⟨_,rfl⟩;have bb:dh top cr:=by grind[dh]
 refine ab.open 6 rfl (λcA au=>?_);obtain⟨cP,bd,aJ,aT⟩:=cA;have a5:=au;apply J [322];dsimp only at a5⊢;have ct:=a5.fZ;have cw:2^top<=128:=Vi (n:=2) an ct.2;refine cJ [0,1,2,3,4,5,6,7,8,-9,-10] (show aG (ag _) (ag [aj bA 60 (ints (bD ((1:Nat):Int) a9 f).l),aj aK 135 [ae af,ae am,ae bx],aj af 169 (iz 8 cP bd aJ aT)])from ai) ?_;apply J [72,66,110,56,313,13];apply aq (LU aK af am bx top T cP bd aJ aT a9 (B.own k) 1 f cw U U ck U);refine J [446,47] ?_;apply aq (aD.Rg cP T.Q T.bF (B.own k:Int));refine J [446,113,265] ?_;refine aW.bf (B:=ag [aj aK 135 [ae af,ae am,ae bx],dU af top cr,a6 33 1 ad ((due.map (·.1)).take j).length cap (cO .u32 ((due.map (·.1)).take j)),gy.eC bx A.pd (A.now+1) rest,a6 3 1 y.1 (due.map (·.1)).length y.2 (ints (due.map (·.1))),a6 264 5 (cM am) 256 256 (av.fN (B.l.set k (av.jb ⟨bD ((1:Nat):Int) a9 f,2,g⟩))),F]) (by subst u;exact(bX (aA (dR.mk cP bd aJ aT:dR af) bb ai))) ?_;have O:cr.C=T.C/\cr.Fr=T.Fr/\cr.m=T.m/\cr.bF=T.bF:=by rw[u];exact⟨rfl,rfl,rfl,rfl⟩
 have a0:c7 cr 1 a9:=by rw[c7,O.1,O.2.1];exact a1
 have V:cr.Q=(aD.iH T.Q (B.own k)).1:=by rw[u]
 refine e rfl ?_;apply ba (wi aK af am bx top cr 1 a9 f H a0 (by rw[V];exact dT));intro gm N;refine J [15,3,112,90] ?_;intro cj;refine J [0,488] ?_;intro bk bn;refine J [60,84] ?_;have a2:gm.Q=(aD.eo (aD.iH T.Q (B.own k)).1 f (bL 1:Int)).1:=by rw[N.q.1,V]
 have a3:=d.tick (q:=due.drop (j+1)++rest) w H bg O N a2;exact⟨rfl,((j+1,_,gm),(bk,bn)),⟨by dsimp only;omega,a3,a4,ar,by rw[D]⟩,cy,⟨rfl,congrArg (λn=>VO _ n _) (by dsimp only;rw[Z,mp];rfl),rfl,rfl,rfl,trivial⟩,(b9 0 rfl (by dsimp only;rw[Z,o3,mp];rfl) ai)⟩;obtain⟨dT,a4⟩:=aU.free w H (by rw[<-aw];exact E) (mg:=T.Q) (by rw[d.Q.1,al (λh=>W (by rw[h];rfl))]);obtain⟨cr,u⟩:∃cr:cD,cr=T:=⟨_,rfl⟩;have bb:dh top cr:=u▸d.P;have O:cr.C=T.C/\cr.Fr=T.Fr/\cr.m=T.m/\cr.bF=T.bF:=by rw[u];exact⟨rfl,rfl,rfl,rfl⟩
 have a0:c7 cr c a9:=u▸a1;have V:cr.Q=T.Q:=by rw[u]
 apply J [4,265];refine aW.bf (B:=ag [aj aK 135 [ae af,ae am,ae bx],dU af top cr,a6 33 1 ad ((due.map (·.1)).take j).length cap (cO .u32 ((due.map (·.1)).take j)),gy.eC bx A.pd (A.now+1) rest,a6 3 1 y.1 (due.map (·.1)).length y.2 (ints (due.map (·.1))),a6 264 5 (cM am) 256 256 (av.fN (B.l.set k (av.jb ⟨bD c a9 f,2,g⟩))),F]) (by subst u;exact ai) ?_;refine e rfl ?_;apply ba (wi aK af am bx top cr c a9 f H a0 (by rw[V];exact dT));intro gm N;refine J [15,3,112,90] ?_;intro cC;refine J [0,488] ?_;intro bl bo;refine J [60,84] ?_;have a2:gm.Q=(aD.eo T.Q f (bL c:Int)).1:=by rw[N.q.1,V]
 have a3:=d.tick (q:=due.drop (j+1)++rest) w H bg O N a2;exact⟨rfl,((j+1,_,gm),(bl,bo)),⟨by dsimp only;omega,a3,a4,ar,by rw[D]⟩,cy,⟨rfl,congrArg (λn=>VO _ n _) (by dsimp only;rw[Z,mp];rfl),rfl,rfl,rfl,trivial⟩,(b9 0 rfl (by dsimp only;rw[Z,o3,mp];rfl) ai)⟩;obtain rfl:j=due.length:=by have:=ah.NL;omega
 obtain⟨_,d,aU,kI,D⟩:=ah;have cq:(due.map (·.1)).take due.length=due.map (·.1):=VR (by rw[ch];exact Vj _);rw[cq]at kI⊢;have E:B.q=rest:=by rw[D,List.drop_length];rfl
 have br:=aU.To E (λt co=>by rw[D];exact cn t co) (by rw[D];exact cb);have bh:B.now=A.now/\B.pd=A.pd:=by rw[D];exact⟨rfl,rfl⟩
 have bM:cg top {B with now:=B.now+1,np:=B.np+1} T:=d.m0 (wF d.P rfl rfl rfl) rfl rfl rfl rfl d.Q (λ_ _ _ _ _ _ _=>⟨λh=>h,λh=>h.elim⟩) (λ_=>⟨λh=>h,λh=>h⟩) rfl (Nat.le_succ_of_le d.gj);have b0:tI A {B with now:=B.now+1,np:=B.np+1}:=(by refine⟨⟨B.l,B.Q,by rw[b4];exact kI,?_⟩⟩;rw[cm];(conv=>lhs;rw[D]);rw[List.drop_length];rfl);apply J [198,91];exact bv ((ad,cap),{B with now:=B.now+1,np:=B.np+1}) b0 (ao (aA (⟨am,bx,T⟩:eE) ⟨bM,br⟩ (bw (bw (bw (b9 0 rfl (by dsimp only;rw[bh.1,bh.2,E]) ai))))))
end Go.Proofs.Q
namespace Go.QM
open Go
theorem Qt{x:Nat}(Q:x<2^64):fv x=ov ((nj x 8).map oh):=by
 have d:=y3 8 x;have au:=y2 8 x;have C:dB (nj x 8)=x:=by grind[y4]
 generalize nj x 8=l at d au C;subst C;have t:=λa (u:a∈l)=>Bk (d a u);have N:kp (dB l)=dB (l.map gh):=(by have g1:=va (m:=85) (s:=1) an an an d;have g2:=tL (m:=85) an d;rw[sW au]at g1 g2;rw[kp,show 6148914691236517205=dB [85,85,85,85,85,85,85,85]from by decide,g1,g2,tK];rfl);have w:∀a∈l.map gh,a<256:=b6
 have E:(l.map gh).length=8:=b6
 have O:l1 (dB (l.map gh))=dB ((l.map gh).map hf):=(by have g1:=va (m:=51) (s:=2) an an an w;have g2:=tL (m:=51) an w;rw[sW E]at g1 g2;rw[l1,show 3689348814741910323=dB [51,51,51,51,51,51,51,51]from by decide,g1,g2,tK];rfl);have D:∀a∈(l.map gh).map hf,a<256/\a/16<=4/\a %16<=4:=λa u=>cv;have H:((l.map gh).map hf).length=8:=b6
 have P:m5 (dB ((l.map gh).map hf))=dB (l.map oh):=(by have g1:=(A0 D).1;rw[sW H]at g1;rw[m5,show 1085102592571150095=dB [15,15,15,15,15,15,15,15]from by decide,g1,X1,X1];rfl);grind[fv,Gn]
theorem Gp{n:Nat}(d:65536<n)(u:n<131072):fv n≠1:=by grind[Qt,nj,ov,oh,Bk]
end Go.QM
namespace Go.Proofs.Q
open Go Go.QM
def sC(n:Int):Prop:=n<65536\/1073741824<n\/65536<n/\n<131072
theorem C8(n:Int)(h:sC n):bz 177 [aa n] bg [] (.pointer none) []:=by apply aI Tryz.func177 Tryz.ntmps177;intro F _;apply J [10];rcases h with h|h|⟨h,u⟩;refine J [130,180,482,341,46,136,276] ?_;exact dy;refine J [130,180,392,168,40] ?_;refine VD 9 rfl (c:=true) (c1 U) ?_;apply J [46,136,276];exact dy;obtain⟨k,rfl⟩:∃k:Nat,n=(k:Int):=⟨n.toNat,(V6 U).symm⟩;have w:=Gp (n:=k) U U;refine J [130,180,392,168,40] ?_;refine VD 9 rfl (c:=false) (db U) ?_;refine J [17,467,144] ?_;apply aq (xl k U);apply J [151,309,97];refine Ve rfl (λd=>?_) (λd=>absurd U d);apply J [170,50];exact dy
theorem Db(n:Int)(h:sC n):bz 176 [aa n] bg [] (.pointer none) []:=by apply aI Tryz.func176 Tryz.ntmps176;intro F _;apply J [10];rcases h with h|h|⟨h,u⟩;refine J [130,180,466,341,46,136,276] ?_;exact dy;refine J [130,180,471,168,40,525,46,136,276] ?_;exact dy;obtain⟨k,rfl⟩:∃k:Nat,n=(k:Int):=⟨n.toNat,(V6 U).symm⟩;have w:=Gp (n:=k) U U;refine J [130,180,471,168,40,522,17,467,144] ?_;apply aq (xl k U);apply J [151,309,97];refine Ve rfl (λd=>?_) (λd=>absurd U d);apply J [170,50];exact dy
theorem Q3(n lim:Int)(h:¬((n=65536\/n=131072)/\0<=lim/\lim<=n))(hs:n<=131072\/1073741824<n):bz 125 [aa n,aa lim] cW [] (.pointer none) []:=by
 apply aI Tryz.func125 Tryz.ntmps125;intro F D;apply J [10];haveI:cl F:=⟨D⟩;apply J [170,26];by_cases w:0<=lim/\lim<=1073741824;refine e rfl ?_;apply ba (aD.G8 lim w);intro t _;apply J [5,2];by_cases au:n=65536\/n=131072;obtain⟨k,top,rfl,d⟩:∃k top:Nat,n=(k:Int)/\(k=65536/\top=6\/k=131072/\top=7):=cv;refine e rfl ?_;apply ba (yZ k top d);intro bd _;apply J [8,27];apply ba (yN k U);intro C _;refine J [18,489,0,490] ?_;intro be;apply J [81,101,297,20,138,184,411,40,17,168,97];refine Ve rfl (λu=>?_) (λu=>absurd U u);apply J [170,50];exact dy;have am:sC n:=by grind[sC]
 refine e rfl ?_;apply aq (Db n am);apply J [5,27];apply aq (C8 n am);refine J [5,489,0,490] ?_;intro bA;apply J [81,101,297,20,105,73,74,136,276];exact dy;refine e rfl ?_;apply aq (aD.Rk lim w);apply J [151,2];by_cases au:n=65536\/n=131072;obtain⟨k,top,rfl,d⟩:∃k top:Nat,n=(k:Int)/\(k=65536/\top=6\/k=131072/\top=7):=cv;refine e rfl ?_;apply ba (yZ k top d);intro bd _;apply J [5,27];apply ba (yN k U);intro C _;refine J [8,489,0,490] ?_;intro cj;apply J [81,101,297,20,138,184,411,40,74,136,276];exact dy;have am:sC n:=by grind[sC]
 refine e rfl ?_;apply aq (Db n am);apply J [151,27];apply aq (C8 n am);refine J [151,489,0,490] ?_;intro E;apply J [81,101,297,20,105,73,74,136,276];exact dy
def km(a:Nat):List av.b3:=(Vx 256 av.oA).set 0 ⟨bD 1 a 0,1,0⟩
def eA(a:Nat)(lim pd:Int):bV:=⟨km a,[⟨0,-1,lim,64⟩],1,λ_ _=>0,λ_=>0,λ_ _=>0,pd,0,[],2⟩
theorem w2(a:Nat){i:Nat}{p:av.b3}(h:(km a)[i]? =some p):(i=0/\p=⟨bD 1 a 0,1,0⟩)\/(i≠0/\p=av.oA):=by grind[km]
theorem nC{a i:Nat}{s:Int}{o:av.fi}(hs:fs s)(h:cH (km a) i s o):i=0/\s=1/\o=bD 1 a 0:=by obtain⟨g,h⟩:=h;rcases w2 a h with⟨e,h⟩|⟨_,h⟩;simp_all;cases h;exact absurd hs an
theorem Ar(a:Nat):av.dQ (km a):=⟨by rw[km,V3,Xa],λp u=>by
 obtain⟨i,d⟩:=List.getElem?_of_mem u
 rcases w2 a d with⟨_,h⟩|⟨_,h⟩<;>rw[h]<;>exact⟨W3 0,(by decide:(0:Int)<=1048575)⟩⟩
theorem eA.CY(a:Nat){lim pd:Int}(V:64<=lim/\lim<=1073741824)(D:1<=pd/\pd<=16):cm (eA a lim pd):=by
 have hw:aD.eU [⟨0,-1,lim,64⟩] 1:=(by have h:=aD.eU.start (lim:=lim) ⟨by omega,V.2⟩;have:=h.set (t:=⟨0,-1,lim,0⟩) cE (c:=64) an (by show 64+aD.ft [⟨0,-1,lim,0⟩] 0<=lim;rw[aD.rH,al (show ¬((-1:Int)=0)by decide)];omega);trivial);have P:aD.gp [⟨0,-1,lim,64⟩] 0=64:=by trivial
 have H:cH (km a) 0 1 (bD 1 a 0):=by grind[cH,km]
 refine⟨Ar a,hw,⟨⟨a,by show(km a)[0]? =_;rw[km,VX (by rw[Xa];decide)]⟩,rfl⟩,λi s o C u=>?_,λi s b f C u=>?_,λi j s r b d f g C Z u Q _=>?_,λi s h=>absurd rfl h,λx aq=>?_,λh=>⟨λw=>?_,λw=>(by cases w)⟩,List.nodup_nil,λt h=>(by cases h),Xq,⟨D,W3 0⟩,(by decide:(1:Int)<=((2:Nat):Int)/\(0:Int)<=((2:Nat):Int)/\2<=1000000)⟩;obtain⟨_,_,rfl⟩:=nC C u;exact⟨⟨_,Vc.2 rfl,rfl⟩,(by decide:bL (1:Int).toNat≠0)⟩;obtain⟨e,_,_⟩:=nC C u;exact⟨⟨_,Vc.2 rfl,rfl⟩,λh=>absurd e h⟩;rw[(nC C u).1,(nC Z Q).1];obtain⟨t,ah,rfl⟩:=aq;obtain rfl:=Vc.1 ah;show aD.gp [⟨0,-1,lim,64⟩] 0=_;rw[P,pE];have w:=p7 (f:=λ_=>0) (g:=h9 (eA a lim pd) 0) (n:=256) (k:=0) an λi u ar=>(by rw[h9];obtain⟨p,D,_⟩:=(Ar a).at u;rw[show(eA a lim pd).l[i]? =some p from D];rcases w2 a D with⟨e,_⟩|⟨_,e⟩;trivial;rw[e];exact al an);haveI:dL:=⟨λ_=>0,λ_=>0⟩;rw[p8 λ_ _=>rfl,show h9 (eA a lim pd) 0 0=64 from n1 (A:=eA a lim pd) H 0]at w;simp_all;obtain⟨⟨⟨i,p⟩,W⟩,N⟩:=w;obtain⟨O,_,_,E⟩:=av.oc N W;rcases w2 a O with⟨_,e⟩|⟨_,e⟩;simp_all;rw[e]at E;exact absurd (show(0:Int)=2 from E) an
theorem eA.RC{top a:Nat}{lim pd:Int}{S:cD}(H:dh top S)(N:S.Q=[⟨0,-1,lim,64⟩]/\S.bF=1)(aU:c7 S 1 a)(W:cU S.m a=0)(E:fF (960/cf 6) (S.C 6)=0)(P:(dr S.C S.Fr).length<=2):cg top (eA a lim pd) S:=by refine⟨H,N,λi s o D w=>?_,λi j s r c b f g D V w O=>?_,λi b f w=>?_,λi j b d f g s r w=>?_,λi j b d f g u v w=>?_,?_,λi s b f D w=>?_,λi c b f w=>?_,P⟩;obtain⟨_,_,rfl⟩:=nC D w;exact⟨1,a,0,rfl,by decide,aU⟩;rw[(nC D w).1,(nC V O).1];exact absurd (jD (nC (.inl rfl) w).2.2).1 an;exact absurd (jD (nC (.inl rfl) w).2.2).1 an;exact absurd (jD (nC (.inl rfl) w).2.2).1 an;rw[E];exact(p8 λ_ _=>p8 λ_ _=>rfl).symm;rw[(jD (nC D w).2.2).2.1];exact W;exact absurd (nC (.inr rfl) w).2.1 an
theorem J0{lim:Int}(h:64<=lim/\lim<=1073741824):aD.dd (dq lim).Q 0 (cf 1:Int)=([⟨0,-1,lim,64⟩],0):=by
 have hw:=aD.eU.start (lim:=lim) ⟨by omega,h.2⟩;have hm:(⟨0,-1,lim,0⟩:aD.b1)∈(dq lim).Q:=by grind[dq]
 have hu:=aD.iB hw.bC hm;have E:aD.df (dq lim).Q 0:=by grind[aD.df]
 have d:aD.nc (dq lim).Q 0=0+aD.ft (dq lim).Q 0:=hu.1;have u:aD.nD (dq lim).Q 0=lim:=hu.2.1;have w:aD.gp (dq lim).Q 0=0:=hu.2.2.1;have C:aD.ft (dq lim).Q 0=0:=(by trivial);have D:((cf 1:Nat):Int)=64:=rfl;rw[aD.dd,al (λh=>h E),al U,d,u,w,C,D,al U];trivial
theorem Ll(n lim pd:Int)(h:¬((n=65536\/n=131072)/\64<=lim/\lim<=n/\1<=pd/\pd<=16))(hs:n<=131072\/1073741824<n):bz 84 [aa n,aa lim,aa pd] cW [] (.pointer none) []:=by
 apply aI Tryz.func84 Tryz.ntmps84;intro F E;apply J [10];haveI:cl F:=⟨E⟩;apply J [170,199];by_cases u:(n=65536\/n=131072)/\0<=lim/\lim<=n;obtain⟨k,top,rfl,N⟩:∃k top:Nat,n=(k:Int)/\(k=65536/\top=6\/k=131072/\top=7):=cv;refine e rfl ?_;apply ba (GZ k top lim N u.2);intro⟨af,D⟩ _;apply J [5];dsimp only;letI:dL:=D;refine e rfl ?_;apply ba av.pY;intro am _;apply J [8,2];by_cases d:1<=pd/\pd<=16;have aJ:lim<64:=U
 have H:(aD.dd (dq lim).Q 0 (cf 1:Int)).2≠0:=λe=>(by obtain⟨_,_,aw,_⟩:=y7 e;have hw:=aD.eU.start (lim:=lim) ⟨u.2.1,by omega⟩;(have hm:(⟨0,-1,lim,0⟩:aD.b1)∈(dq lim).Q:=by grind[dq]);have hu:=aD.iB hw.bC hm;have ah:aD.nc (dq lim).Q 0=0+aD.ft (dq lim).Q 0:=hu.1;have ar:aD.nD (dq lim).Q 0=lim:=hu.2.1;have au:aD.ft (dq lim).Q 0=0:=(by trivial);grind[cf]);refine e rfl ?_;apply ba (gy.pY pd d.1 d.2);intro bx _;refine J [18,447,0,448] ?_;intro Z;apply J [81,41,297,20,138,233,411,71,141,41,0];apply ba (uV af top (dq lim) 0 1 an);intro⟨O,cu⟩ w;apply J [9];cases O with|some y=>exact absurd w.2.1 H|none=>?_
 dsimp only[pA,kl];apply J [124,32];refine Ve rfl (λC=>?_) (λC=>absurd (w.1) C);apply J [170,50];exact dy;refine e rfl ?_;apply aq (gy.s4 pd U);refine J [8,447,0,448] ?_;intro W;apply J [81,41,297,20,138,233,411,97,76,276];exact dy;refine e rfl ?_;apply aq (Q3 n lim u hs);apply J [151,0];apply ba av.pY;intro am _;apply J [5,2];by_cases d:1<=pd/\pd<=16;refine e rfl ?_;apply ba (gy.pY pd d.1 d.2);intro bx _;refine J [8,447,0,448] ?_;intro P;apply J [81,41,297,20,105,136,276];exact dy;refine e rfl ?_;apply aq (gy.s4 pd U);refine J [5,447,0,448] ?_;intro V;apply J [81,41,297,20,105,136,276];exact dy
theorem Lm(n top:Nat)(lim pd:Int)(h:n=65536/\top=6\/n=131072/\top=7)(H:64<=lim/\lim<=n)(D:1<=pd/\pd<=16):bK 84 [aa n,aa lim,aa pd] cW [] (λy:Nat×Nat×Nat×dL=>ae y.1) (λ_=>True) (λy=>[@iv y.2.2.2 y.1 y.2.1 top (eA y.2.2.1 lim pd)]):=by
 apply aI Tryz.func84 Tryz.ntmps84;intro F V;apply J [10];haveI:cl F:=⟨V⟩;have E:=J0 (lim:=lim) ⟨H.1,by omega⟩;apply J [170,26,27];apply ba (GZ n top lim h ⟨by omega,H.2⟩);intro⟨af,N⟩ _;apply J [5];dsimp only;letI:dL:=N;refine e rfl ?_;apply ba av.pY;intro am _;apply J [8,27];apply ba (gy.pY pd D.1 D.2);intro bx _;refine J [18,447,0,448] ?_;intro ha;apply J [81,41,297,20,138,233,411,71,141,41,0];apply ba (uV af top (dq lim) 0 1 an);intro⟨ah,cu⟩ O;apply J [9];have W:dh top (dq lim):=by grind[dh.zero]
 have fX:dr (dq lim).C (dq lim).Fr=[]:=by trivial
 cases ah with
 | none=>exact absurd O (λh=>by
  rcases h.2 with w|⟨_,w⟩
  ·rw[E]at w;exact h.1 w
  rw[fX]at w
  have:=Nat.pow_pos (n:=top) (show 0<2 by decide)
  simp only[WY]at w;omega)
 | some y=>?_
 obtain⟨rfl,_,cK⟩:=O;have d:=GF (a:=0) W an an rfl (by rw[E]) cK;have aQ:=eA.RC (lim:=lim) (pd:=pd) d.g.P ⟨by rw[d.q.2.1];exact congrArg (·.1) E,d.q.2.2⟩ d.b (d.z _ (Vj _) (by have:bL 1=64:=rfl;omega)) (by rw[d.u];rfl) (by have:=d.p;rw[fX]at this;simp only[WY]at this;omega);have aE:=eA.CY (addr 1 y) (lim:=lim) (pd:=pd) ⟨H.1,by omega⟩ D;have Z:av.l6 (Vx 256 av.oA) (bD 1 (addr 1 y) 0)=(km (addr 1 y),0,0):=(by trivial);dsimp only[pA];apply J [124,32];refine Ve rfl (λQ=>absurd Q (λh=>h rfl)) (λQ=>?_);apply J [4,87,2,248,0];apply aq (av.oi am (Vx 256 av.oA) (bD 1 (addr 1 y) 0) ⟨Xa,λp D=>by rw[List.eq_of_mem_replicate D];exact⟨W3 0,(by decide:(0:Int)<=1048575)⟩⟩);apply J [9];rw[Z];apply J [3,38,109];exact bv (ha,af,addr 1 y,N) trivial (aA (⟨am,bx,kl (dq lim) 0 1 (some y)⟩:eE) ⟨aQ,aE⟩ ai)
end Go.Proofs.Q
namespace Go.Proofs.Q.b0
open Go Go.QM
variable{Z:List Fn}{u:Fn}
theorem P3{M:List Fn}(au:jZ Z)(d:Z.Perm (u::M))(p:Int):((⟨u.id,p,u.dH,u.ck⟩:Fn)::M).Perm (hk Z u p):=
 ((xm au d).symm.cons _).trans (List.perm_append_singleton _ _).symm
theorem AU(hu:u∈Z)(p x:Int):fW (hk Z u p) x↔fW Z x:=by
 have:fW (hk Z u p) x↔fW (hn Z u.id) x\/u.id=x:=by simp[hk,fW,or_and_right,exists_or]
 rw[this,uP];constructor;rintro(h|h);simp_all;exact⟨u,hu,h⟩;grind
theorem F2(au:jZ Z)(hu:u∈Z)(p:Int):(hk Z u p).length=Z.length:=by grind[uQ,hk]
theorem Mr{S T:List Fn}(E:oF S)(H:oF T)(h:∀o i,(∃t∈S,iA t=o/\t.id=i)↔∃t∈T,iA t=o/\t.id=i):kj S=kj T:=by funext o;by_cases d:kH S o;obtain⟨t,w,rfl⟩:=d;obtain⟨u,hu,C,D⟩:=(h (iA t) t.id).1 ⟨t,w,rfl,rfl⟩;grind[Ee];rw[wq d,wq];rintro⟨u,hu,C⟩;obtain⟨t,w,D,_⟩:=(h o u.id).2 ⟨u,hu,C,rfl⟩;exact d ⟨t,w,D⟩
variable{last:Int}
theorem Ec(h:cL Z last)(hu:u∈Z){p:Int}(D:0<=p/\p<u.id):kj (hk Z u p)=kj Z:=by refine Mr (h.move hu D).no h.no λo i=>?_;constructor;rintro⟨t,d,w,C⟩;rcases Vd.1 d with d|d;grind[l2];rw[Vc.1 d]at w C;exact⟨u,hu,w,C⟩;rintro⟨t,d,w,C⟩;by_cases e:t.id=u.id;have:=h.bC.inj d hu e;subst this;exact⟨_,Vd.2 (.inr (Vc.2 rfl)),w,C⟩;exact⟨t,Vd.2 (.inl (l2.2 ⟨d,e⟩)),w,C⟩
theorem Aq(au:jZ Z)(hu:u∈Z){p x:Int}(d:p≠x)(w:u.par≠x):c6 (hk Z u p) x=c6 Z x:=by grind[hk,uy,Ap,sS]
theorem O8(au:jZ Z)(hu:u∈Z){p:Int}(d:p≠0)(w:u.par≠p):c6 (hk Z u p) p=c6 Z p++[u.id]:=by grind[hk,uy,Fq,sS]
def AY(p:Int)(Z:List Fn)(k:Int):List Fn:=match rF Z k with
  | some u=>hk Z u p
  | none=>Z
def kn(L:List Fn)(id:Int):List Fn:=match rF L id with
  | some t=>(c6 L id).foldl (AY t.par) (hn L id)
  | none=>L
def AA(L:List Fn)(id:Int):Int:=if fW L id then 0 else 6
structure nT(L:List Fn)(last:Int)(t:Fn)(i:Nat)(Z:List Fn):Prop where
  eq:Z=((c6 L t.id).take i).foldl (AY t.par) (hn L t.id)
  ep:cL Z last
  no:¬fW Z t.id
  todo:∀j k,i<=j->(c6 L t.id)[j]? =some k->∃u∈Z,u.id=k/\u.par=t.id
  len:Z.length=(hn L t.id).length
theorem nT.start{L:List Fn}(h:cL L last){t:Fn}(D:t∈L):nT L last t 0 (hn L t.id) where
 eq:=rfl
 ep:=h.off _
 no:=λd=>(uP.1 d).2 rfl
 todo:=λj k _ C=>by obtain⟨_,u,hu,w,d⟩:=pT.1 (Vg C);have:=h.rg u hu;exact⟨u,l2.2 ⟨hu,by omega⟩,d,w⟩
 len:=rfl
theorem nT.next{L:List Fn}(h:cL L last){t:Fn}(P:t∈L){i:Nat}(d:nT L last t i Z)(hu:u∈Z)(C:(c6 L t.id)[i]? =some u.id)(N:0<=t.par/\t.par<u.id):nT L last t (i+1) (hk Z u t.par) where
 eq:=by rw[Vs,C,Option.toList,List.foldl_append,<-d.eq,List.foldl_cons,List.foldl_nil,AY,wy d.ep.bC hu]
 ep:=d.ep.move hu N
 no:=by rw[AU hu];exact d.no
 todo:=λj k O D=>by obtain⟨v,hv,w,H⟩:=d.todo j k U D;refine⟨v,Vd.2 (.inl (l2.2 ⟨hv,λe=>?_⟩)),w,H⟩;obtain⟨E,be⟩:=Vl.1 C;obtain⟨a2,bA⟩:=Vl.1 D;exact(List.pairwise_iff_getElem.1 (Fo h.bC t.id)) i j E a2 U (by rw[be,bA,<-w,e])
 len:=by rw[F2 d.ep.bC hu];exact d.len
theorem nT.done{L:List Fn}(h:cL L last){t:Fn}(u:t∈L)(d:nT L last t (c6 L t.id).length Z):kn L t.id=Z:=by have:=d.eq;rw[VY]at this;rw[kn,wy h.bC u,this]
theorem Mw(b:Nat)(id x:Int):bz 287 [aa x,ae b] (λF=>Rd F b (.cells #[aa id] 3 (0,0))) [] (.bool (decide (x=id))) []:=by apply aI Tryz.func287 Tryz.ntmps287;intro F d;apply J [10];haveI:gb F b (.cells #[aa id] 3 (0,0)):=⟨d⟩;apply J [221,53,298,88];exact kc
theorem Mx(b:Nat)(A:Int->Nat)(L:List Fn)(last:Int)(t:Fn)(d:t∈L)(aJ:L.length<=1000000):bK 225 [ae b,aa t.id] bg [uu b A L last] (λ_:Option Addr×Nat=>.agg (ints [t.dH,t.ck]).toArray) (λ_=>True) (λy=>[uu b A (hn L t.id) last,aj (A t.id) 219 [aa t.dH,aa t.ck,aa t.par,.slice y.1 (c6 L t.id).length y.2],a6 3 1 y.1 (c6 L t.id).length y.2 (ints (c6 L t.id))]):=by
 apply aI Tryz.func225 Tryz.ntmps225;intro F _;refine J [1,25,449] ?_;intro be;refine J [0,537] ?_;intro bA;apply J [29];refine ab.open 2 rfl (λaw av=>?_);obtain⟨ad,cap,aH,bD⟩:=aw;have ax:=av;apply J [145];dsimp only at ax⊢;have Q:=pK (A:=A) ⟨t,d,rfl⟩;have aT:=uQ ax.bC d;have H:(hn L t.id).length=L.length-1:=U
 have W:kj L (t.dH,t.ck)=some (aa t.id):=Ee ax.no d;have a0:=ax.rg t d;obtain⟨M,bN⟩:=fE d;have ah:=ax.bC.perm bN.symm;apply J [388,540];refine cJ [0,1,2,3,4,5,6] (aG.refl _) ?_;refine bZ rfl rfl rfl (fC rfl) ?_;apply J [66,110,69,541];refine bZ rfl rfl rfl (oK rfl) ?_;apply J [52,7,7];rw[Q];apply J [37,175,75,0];apply aq (pL b aH bD L.length last (iJ A L) t.par);apply J [68];by_cases N:fW L t.par;obtain⟨u,hu,au⟩:=N;have V:iJ A L t.par=some (.pointer (some ⟨A u.id,0,none⟩)):=by rw[<-au];exact pK ⟨u,hu,rfl⟩
 rw[V];have ar:u∈M:=cv;obtain⟨D,E⟩:=fE ar;have aB:=(Vu.1 ((E.map (·.id)).nodup_iff.1 (Vu.1 ah).2)).1;have aD:=uz L u.id;have Z:∀x∈D,t.par≠x.id:=cv
 have P:∀x∈D,ix A ad cap L x=ix A ad cap (hn L t.id) x:=λx w=>(by dsimp only[ix];rw[sS ax.bC d (Z x w)]);have O:∀x∈D,iw ad cap L x=iw ad cap (hn L t.id) x:=λx w=>(by dsimp only[iw];rw[sS ax.bC d (Z x w)]);have C:(u::D).Perm (hn L t.id):=E.symm.trans (xm ax.bC bN).symm;apply J [268,340,3,14];refine WE (fV 5 rfl E) ?_;refine WE (fV 5 rfl E) ?_;apply J [37,175,231,396,0];refine aO (wk (ad u.id) (cap u.id) (c6 L u.id) 287 [ae be] (λy=>decide (y=t.id)) (λF=>Rd F be (.cells #[aa t.id] 3 (0,0))) (λy=>Mw be t.id y) U (λ_ h=>jn h) (λ_ _ h=>lG (jn h))) rfl (d8 0 rfl (ez _)) gb.rd ?_;intro _ _;apply J [256];rw[O7];apply J [55,365,270,29];refine cJ [0,1,2,3,4,-5] (eT (bU 9 rfl (a7 _))) ?_;apply J [72,69,259];refine lO 3 216 rfl (dP.int rfl) rfl rfl rfl ?_;refine J [113,7] ?_;refine cJ [0,1,2,3,4,5,6,7,-8] (eI (bU 6 rfl (a7 _))) ?_;refine J [135,349,379,259,606,113,45] ?_;refine q rfl rfl (fY (vs:=ints [_,_]) 2 rfl rfl rfl rfl) ?_;apply J [19,485,232];exact ca.i ⟨ad t.id,cap t.id⟩ [_] ⟨(fl (n:=2) rfl rfl rfl rfl),trivial⟩ rfl trivial (aA ⟨ad,cap,aH,bD⟩ (ax.off t.id) (bU 7 rfl (b9 2 rfl (by rw[Ea,Q,H];rfl) (b9 1 rfl (by rw[Ed ax.bC ax.no d,W,H];rfl) (cX 1 3 u rfl rfl rfl P C (cX 1 1 u rfl rfl rfl O C (bw (bX (bw (a7 _))))))))));have V:=qE (A:=A) N;rw[V];have P:∀x∈M,ix A ad cap L x=ix A ad cap (hn L t.id) x:=λx w=>(by dsimp only[ix];rw[sS ax.bC d (λe=>N ⟨x,bN.mem_iff.2 (by simp[w]),e.symm⟩)]);have O:∀x∈M,iw ad cap L x=iw ad cap (hn L t.id) x:=λx w=>(by dsimp only[iw];rw[sS ax.bC d (λe=>N ⟨x,bN.mem_iff.2 (by simp[w]),e.symm⟩)]);have C:=(xm ax.bC bN).symm;apply J [268,340,122];refine cJ [0,1,2,3,4,-5] (ao (bU 7 rfl (a7 _))) ?_;apply J [72,69,259];refine lO 3 216 rfl (dP.int rfl) rfl rfl rfl ?_;refine J [113,7] ?_;refine cJ [0,1,2,3,4,5,6,7,-8] (bX (cZ (a7 _))) ?_;refine J [135,349,379,259,606,113,45] ?_;refine q rfl rfl (fY (vs:=ints [_,_]) 2 rfl rfl rfl rfl) ?_;apply J [19,485,232];exact ca.i ⟨ad t.id,cap t.id⟩ [_] ⟨(fl (n:=2) rfl rfl rfl rfl),trivial⟩ rfl trivial (aA ⟨ad,cap,aH,bD⟩ (ax.off t.id) (cZ (b9 2 rfl (by rw[Ea,Q,H];rfl) (b9 1 rfl (by rw[Ed ax.bC ax.no d,W,H];rfl) (pI 4 rfl P C (pI 2 rfl O C (bw (bX (bw (a7 _))))))))))
theorem Et(b:Nat)(L:List Fn)(last:Int)(id:Int)(b4:L.length<=1000000):bz 167 [ae b,aa id] bg [hF b L last] (aa (AA L id)) [hF b (kn L id) last]:=by
 apply aI Tryz.func167 Tryz.ntmps167;intro F _;apply J [1];refine ab.open 0 rfl (λA _=>?_);apply J [1];refine ab.open 0 rfl (λbd bb=>?_);obtain⟨ad,cap,aH,bD⟩:=bd;have ax:=bb;apply J [152];dsimp only at ax⊢;by_cases O:fW L id;·have D:=pK (A:=A) O;have a5:AA L id=0:=az O;rw[a5];obtain⟨t,E,rfl⟩:=O;apply J [96];apply aq (pL b aH bD L.length last (iJ A L) t.id);apply J [12];rw[D];apply J [81,51,103,191,103,191,210];refine WE (B:=ag [uu b A L last,F]) (aA ⟨ad,cap,aH,bD⟩ ax (ao (ao (ao (ao (ao (ao (a7 _)))))))) ?_;apply J [178];apply ba (Mx b A L last t E U);intro y _;apply J [18,29,128,231,177];clear D;have N:=ax;clear ax;have cf:=N.rg t E;have cc:=uQ N.bC E;have b1:=uz L t.id;have b0:=d7 (c6 L t.id);refine VK (ι:=Nat×List Fn) (λs=>nT L last t s.1 s.2/\s.1<=(c6 L t.id).length) (λs=>[(0,ae b),(5,.pointer (some ⟨(A t.id),0,none⟩)),(24,.slice y.1 (c6 L t.id).length y.2),(25,aa (c6 L t.id).length),(26,aa ((s.1:Nat):Int))]) (λs=>ag [uu b A s.2 last,aj (A t.id) 219 [aa t.dH,aa t.ck,aa t.par,.slice y.1 (c6 L t.id).length y.2],a6 3 1 y.1 (c6 L t.id).length y.2 (ints (c6 L t.id)),F]) (λs=>(c6 L t.id).length-s.1) ⟨0,hn L t.id⟩ ⟨nT.start N E,Vh _⟩ bH (ao (ao (ao (ao (a7 _))))) ?_;rintro⟨i,Z⟩ ⟨d,bo⟩ co;dsimp only[cx]at d bo⊢;apply J [43];apply Ve rfl<;>intro cb;(·obtain⟨k,a1⟩:∃k,(c6 L t.id)[i]? =some k:=⟨_,Vb (show i<(c6 L t.id).length by omega)⟩;(have ce:0<(ints (c6 L t.id)).length:=by omega);obtain⟨u,hu,br,bF⟩:=d.todo i k (Vj _) a1;subst br;have cg:=d.ep.rg u hu;(have a4:0<=t.par/\t.par<u.id:=by omega);have hIn:=d.next N E hu a1 a4;obtain⟨M,bN⟩:=fE hu;have bn:=d.ep.bC.perm bN.symm;have D:=pK (A:=A) ⟨u,hu,rfl⟩;have W:=F2 d.ep.bC hu t.par;have cn:=d.len;have bl:∀x∈Z,u.par≠x.id:=λx C e=>d.no ⟨x,C,by rw[<-e,bF]⟩;have aD:=P3 d.ep.bC bN t.par;have V:c6 (hk Z u t.par) u.id=c6 Z u.id:=Aq d.ep.bC hu U U;refine J [189] ?_;refine q rfl rfl (dG rfl rfl (hj a1)) ?_;apply J [31];refine ab.open 0 rfl (λbd bb=>?_);obtain⟨ad,cap,aH,bD⟩:=bd;have ax:=bb;apply J [145];dsimp only at ax⊢;refine J [388,540,607,72,16,541] ?_;rw[D];apply J [186,66,364,67,513,52,38,175,75,0];apply aq (pL b aH bD Z.length last (iJ A Z) t.par);apply J [68];by_cases a3:fW Z t.par;obtain⟨w,hw,a9⟩:=a3;(have a0:iJ A Z t.par=some (.pointer (some ⟨A w.id,0,none⟩)):=by rw[<-a9];exact pK ⟨w,hw,rfl⟩);rw[a0];have ch:=d.ep.rg w hw;have bL:w∈M:=cv;obtain⟨P,Q⟩:=fE bL;have bM:=(Vu.1 ((Q.map (·.id)).nodup_iff.1 (Vu.1 bn).2)).1;have b3:=uz Z w.id;have a2:∀x∈P,x.id≠w.id/\c6 (hk Z u t.par) x.id=c6 Z x.id:=λx C=>(by(have cm:x∈M:=by grind);(have ar:x∈Z:=by grind);(have bk:x.id≠w.id:=by simp_all);exact⟨bk,Aq d.ep.bC hu (λe=>bk (by rw[a9,e])) (bl x ar)⟩);(have bi:c6 (hk Z u t.par) w.id=c6 Z w.id++[u.id]:=by rw[a9];exact O8 d.ep.bC hu U U);have bh:(⟨u.id,t.par,u.dH,u.ck⟩::w::P:List Fn).Perm (hk Z u t.par):=(Q.symm.cons _).trans aD;(have ah:u.id≠w.id:=by omega);have bV:=d7 (c6 Z w.id);apply J [268,340,3,14];refine WE (fV 5 rfl Q) ?_;refine WE (fV 6 rfl Q) ?_;refine J [37,175,231,90] ?_;intro cj;refine e rfl ?_;refine ap 8 rfl rfl rfl rfl rfl (Vq rfl) (show _=ints [u.id]from rfl) rfl U gv ?_;intro au av;refine J [55,365,270,84] ?_;have aT:∀x∈P,ix A ad cap Z x=ix A (aR ad w.id au) (aR cap w.id av) (hk Z u t.par) x:=λx C=>(by obtain⟨H,aw⟩:=a2 x C;dsimp only[ix];rw[bS H,bS H,aw]);have aJ:∀x∈P,iw ad cap Z x=iw (aR ad w.id au) (aR cap w.id av) (hk Z u t.par) x:=λx C=>(by obtain⟨H,aw⟩:=a2 x C;dsimp only[iw];rw[bS H,bS H,aw]);exact⟨rfl,⟨i+1,hk Z u t.par⟩,⟨hIn,by dsimp only;omega⟩,cy,bH,(aA ⟨aR ad w.id au,aR cap w.id av,aH,bD⟩ hIn.ep (eI (b9 5 rfl (by rw[D9 (AU hu t.par),W]) (b9 7 rfl (by rw[Ec d.ep hu a4,W]) (ud 5 0 3 (⟨u.id,t.par,u.dH,u.ck⟩:Fn) w rfl rfl rfl (by dsimp only[ix];rw[bS ah,bS ah,V];rfl) (by dsimp only[ix];rw[cp,cp,bi,mp];rfl) aT bh (ud 3 0 1 (⟨u.id,t.par,u.dH,u.ck⟩:Fn) w rfl rfl rfl (by dsimp only[iw];rw[bS ah,bS ah,V]) (by dsimp only[iw];rw[cp,cp,bi,mp,Vk,pR]) aJ bh (bX (bX (bX (a7 _))))))))))⟩;have a0:=qE (A:=A) a3;rw[a0];have a2:∀x∈M,c6 (hk Z u t.par) x.id=c6 Z x.id:=λx C=>(by(have ar:x∈Z:=by grind);exact Aq d.ep.bC hu (λe=>a3 ⟨x,ar,e.symm⟩) (bl x ar));(have aT:∀x∈M,ix A ad cap Z x=ix A ad cap (hk Z u t.par) x:=by grind);(have aJ:∀x∈M,iw ad cap Z x=iw ad cap (hk Z u t.par) x:=by grind);refine J [268,340,106,114] ?_;exact⟨rfl,⟨i+1,hk Z u t.par⟩,⟨hIn,by dsimp only;omega⟩,cy,bH,(aA ⟨ad,cap,aH,bD⟩ hIn.ep (ao (b9 0 rfl (by rw[D9 (AU hu t.par),W]) (b9 4 rfl (by rw[Ec d.ep hu a4,W]) (cX 0 2 (⟨u.id,t.par,u.dH,u.ck⟩:Fn) rfl rfl (by dsimp only[ix];rw[V];rfl) aT aD (cX 0 0 (⟨u.id,t.par,u.dH,u.ck⟩:Fn) rfl rfl (by dsimp only[iw];rw[V]) aJ aD (ao (ao (ao (a7 _))))))))))⟩);(obtain rfl:i=(c6 L t.id).length:=by omega);rw[d.done N E];apply J [21,212];exact fc (aA A trivial (ao (bw (a7 _))))
 have D:=qE (A:=A) O;have a5:AA L id=6:=al O;have bK:kn L id=L:=by grind[kn,Ep]
 rw[a5,bK];apply J [96];apply aq (pL b aH bD L.length last (iJ A L) id);apply J [12];rw[D];apply J [81,51,103,191,103,36,201];exact I6
end Go.Proofs.Q.b0
namespace Go.Proofs.Q
open Go Go.QM
variable [dL] [fa]
structure ch where
  A:bV
  L:List b0.Fn
  last:Int
structure bT where
  aK:Nat
  bt:Nat
  U3:aK=fa.aK:=by first|assumption|rfl
def di(ay af top:Nat)(X:ch):aw:=eQ λy:bT=>pure' True (ag [aj ay 148 [ae y.aK,ae y.bt],iv y.aK af top X.A,b0.hF y.bt X.L X.last])
variable{top:Nat}
theorem hG{ay af:Nat}{X:ch}:∀u,di ay af top X u->cm X.A/\∃S,cg top X.A S:=by rintro u ⟨y,_,a,b,d,rfl,C,w,c2,d2,rfl,⟨z,D,_⟩,_⟩;grind
def cI(A:bV)(h:Int):Nat:=(bW A.l h 2).1.a.toNat
def bQ(A:bV)(h:Int):Int:=(bW A.l h 2).1.f
def bo(h:Int):Nat:=(h %256).toNat
variable{A:bV}
theorem ma{S:cD}(aQ:cg top A S){h:Int}(P:0<=h)(e:(bW A.l h 2).2=0):cH A.l (bo h) 1 (bD 2 (cI A h) (bQ A h))/\∃g,h=g*256+(bo h:Int)/\A.l[bo h]? =some ⟨bD 2 (cI A h) (bQ A h),1,g⟩:=by
 obtain⟨i,p,W,d,w,Z,Q,V,C,u⟩:=iX P e;have u:=u.resolve_left an;obtain⟨c,a,f,O,_,_⟩:=aQ.obj i 1 p.o (.inl rfl) ⟨p.c5,by rw[<-w];exact d⟩;have E:=uO O u;obtain⟨o,s,g⟩:=p;dsimp only at*;subst w;subst E;have D:bo h=i:=V;have H:cI A h=a:=by rw[cI,C];rfl
 have N:bQ A h=f:=by rw[bQ,C];rfl
 rw[D,H,N];exact⟨⟨g,d⟩,g,Q,d⟩
def e5(A:bV)(i:Nat)(s:Int):Nat:=if 0<=s/\s<256 then A.aJ i s.toNat else 0
theorem j4{i s:Nat}(h:s<256):e5 A i (s:Int)=A.aJ i s:=az ⟨by omega,by omega⟩
theorem DV{i:Nat}{s:Int}(h:¬(0<=s/\s<256)):e5 A i s=0:=al h
def iI(w:Nat):Nat:=w %4294967296-1
def kf(w:Nat):Nat:=w/4294967296
theorem kg{h r:Nat}(d:h<4294967295):iI (dC h r)=h/\kf (dC h r)=r:=by rw[iI,kf,dC];omega
theorem GL{h r:Nat}(d:h<4294967295):dC h r&&&4294967295=h+1:=by rw[show(4294967295:Nat)=2^32-1 from rfl,Nat.and_two_pow_sub_one_eq_mod,dC];omega
theorem GK{h r:Nat}(d:h<4294967295):dC h r/2^32=r:=by rw[dC];omega
theorem QT{h r:Nat}(d:h<4294967295):(h+1)|||(r*4294967296)=dC h r:=by have:=Nat.two_pow_add_eq_or_of_lt (i:=32) (b:=h+1) U r;grind[dC]
theorem Ci(h r:Nat)(d:h<4294967295)(hr:r<=15):bz 166 [.agg #[aS h,aa r]] bg [] (bm (dC h r:Int)) []:=by apply aI Tryz.func166 Tryz.ntmps166;intro F _;refine J [187,244] ?_;intro be;apply J [28,99];refine q rfl rfl (conv .u32 .u64 rfl rfl rfl (pg U)) ?_;refine q rfl rfl (QM.lI (b:=1) rfl rfl rfl U) ?_;refine J [80,307] ?_;refine q rfl rfl (th (n:=32) (c:=r*4294967296) rfl rfl an U) ?_;refine q rfl rfl (p1 rfl rfl U U (QT d)) ?_;apply J [30];exact dy
variable(s:Int)
theorem rf:bz 72 [aa s] bg [] (.bool (decide (0<=s/\s<256))) []:=by apply aI Tryz.func72 Tryz.ntmps72;intro F _;apply J [10,221,271];refine aW.split 5 rfl (λd=>?_) (λd=>?_);have d:=dp d;apply J [209,133];exact sg;have d:=eb d;apply J [102,94];exact sh
theorem yk:bz 73 [aa s] bg [] (.bool (decide (0<s/\s<=15))) []:=by apply aI Tryz.func73 Tryz.ntmps73;intro F _;apply J [10,221,241,20];refine aW.split 5 rfl (λd=>?_) (λd=>?_);have d:=dp d;apply J [17,288,133];exact sg;have d:=eb d;apply J [102,94];exact sh
theorem se:bz 137 [aa s] bg [] (.bool (decide (s<128))) []:=by apply aI Tryz.func137 Tryz.ntmps137;intro F _;apply J [10,221,408,88];exact kc
theorem Uo(k:Int):bz 194 [aa k] bg [] (.bool (decide (k=8\/1<=k/\k<=5))) []:=by apply aI Tryz.func194 Tryz.ntmps194;intro F _;apply J [10];by_cases u:k=8;subst u;refine J [221,176,482,74,160,160,362,133] ?_;exact kc;apply J [221,176];refine VD 5 rfl (c:=false) (db u) ?_;apply J [17,310,319];refine aW.split 8 rfl (λd=>?_) (λd=>?_);have d:=dp d;apply J [17,288,371,94];exact sg;have d:=eb d;apply J [102,389,94];exact sh
theorem oN(aK af am bx:Nat):bz 29 [ae aK] bg [aj aK 135 [ae af,ae am,ae bx]] (ae af) [aj aK 135 [ae af,ae am,ae bx]]:=by apply aI Tryz.func29 Tryz.ntmps29;intro F _;apply J [1,130,42,41,109];exact hT
theorem ph(ay af top:Nat)(X:ch)(h:Int)(u:0<=h/\h<=4294967295)(w:(bW X.A.l h 2).2=0):bK 64 [ae ay,aS h] cW [di ay af top X] (λaP:Nat=>.tuple #[.agg #[ae aP,aS h,aa (bQ X.A h)],aa 0]) (λ_=>True) (λaP=>[aj aP 163 [ae af,aa (bQ X.A h),aa (cI X.A h:Int)],di ay af top X]):=by apply aI Tryz.func64 Tryz.ntmps64;intro F C;apply J [1];haveI:cl F:=⟨C⟩;apply ab.open 0 rfl;rintro⟨aK,bt⟩-;apply J [61];dsimp only;refine J [25,463] ?_;intro bA;apply J [31,42,41,27];apply aq (j3 aK af top X.A h u 2);refine J [9,214] ?_;intro cj;apply J [86,32];refine Ve rfl (λd=>absurd d (λh=>h w)) (λd=>?_);apply ab.open 1 rfl;rintro⟨am,bx,S⟩ ⟨aQ,aE⟩;apply J [58];dsimp only at aQ aE⊢;obtain⟨E,H⟩:=ma aQ u.1 w;obtain⟨g9,O,Q⟩:=H;have D:=aQ.P;have N:=(aQ.gV _ _ _ E).1.tk;have b2:(bW X.A.l h 2).1=bD 2 (cI X.A h) (bQ X.A h):=(by grind[iX,bo]);rw[b2];refine J [44,608,72,131,174,16,131,13] ?_;apply aq (oN aK af am bx);refine J [252,47] ?_;apply ba (BV af top (bQ X.A h) (cI X.A h) S D N);intro aP _;refine J [275,609,200,147] ?_;exact ca.i aP [_,_] ⟨(fl (n:=3) rfl rfl rfl rfl),rfl,trivial⟩ rfl trivial (bX (aA (bT.mk aK bt:bT) trivial (bU 6 rfl (aA (⟨am,bx,S⟩:eE) ⟨aQ,aE⟩ ai))))
theorem ri(ay af top:Nat)(X:ch)(h:Int)(u:0<=h/\h<=4294967295)(w:(bW X.A.l h 2).2≠0):bz 64 [ae ay,aS h] bg [di ay af top X] (.tuple #[.agg #[.pointer none,aS 0,aa 0],aa (bW X.A.l h 2).2]) [di ay af top X]:=by apply aI Tryz.func64 Tryz.ntmps64;intro F _;refine J [286] ?_;rintro⟨aK,bt⟩-;apply J [61];dsimp only;refine J [25,463] ?_;intro C;apply J [31,42,41,27];apply aq (j3 aK af top X.A h u 2);refine J [9,214] ?_;intro D;apply J [86,32];refine Ve rfl (λd=>?_) (λd=>absurd (w) d);apply J [24,529,197,120];exact I7
theorem Tt:bz 77 [aa s] bg [] (.bool (decide (0<=s/\s<256))) []:=by apply aI Tryz.func77 Tryz.ntmps77;intro F _;apply J [10,221,271];refine aW.split 5 rfl (λd=>?_) (λd=>?_);have d:=dp d;apply J [209,133];exact sg;have d:=eb d;apply J [102,94];exact sh
theorem H9(aP af:Nat)(d:Int)(t:Nat)(s:Int)(hs:¬(0<=s/\s<256)):bz 30 [ae aP,aa s] bg [aj aP 163 [ae af,aa d,aa t]] (.tuple #[bm 0,bm 0]) [aj aP 163 [ae af,aa d,aa t]]:=by apply aI Tryz.func30 Tryz.ntmps30;intro F _;apply J [1,24,223,228,272];apply aq (Tt s);apply J [5];rw[db hs];apply J [311,40,46,136,347];exact hU ai
theorem oz(ay af top:Nat)(X:ch)(aP:Nat)(h:Int)(Q:0<=h/\h<=4294967295)(Z:(bW X.A.l h 2).2=0)(s:Int):bz 65 [.agg #[ae aP,aS h,aa (bQ X.A h)],aa s] bg [aj aP 163 [ae af,aa (bQ X.A h),aa (cI X.A h:Int)],di ay af top X] (.tuple #[.agg #[aS (if(e5 X.A (bo h) s)=0 then 0 else(iI (e5 X.A (bo h) s):Int)),aa (if(e5 X.A (bo h) s)=0 then 0 else(kf (e5 X.A (bo h) s):Int))],.bool (decide ((e5 X.A (bo h) s)≠0))]) [aj aP 163 [ae af,aa (bQ X.A h),aa (cI X.A h:Int)],di ay af top X]:=by
 apply aI Tryz.func65 Tryz.ntmps65;intro F _;apply J [11];by_cases C:0<=s/\s<256;obtain⟨dV,rfl⟩:∃k:Nat,s=(k:Int):=⟨s.toNat,(V6 C.1).symm⟩;have D:dV<256:=U
 rw[j4 D];apply ab.open 1 rfl;rintro⟨aK,bt⟩-;apply J [57];dsimp only;apply ab.open 1 rfl;rintro⟨am,bx,S⟩ ⟨aQ,aE⟩;apply J [145];dsimp only at aQ aE⊢;obtain⟨V,av⟩:=ma aQ Q.1 Z;obtain⟨O,w⟩:=aQ.gV _ _ _ V;have w:=(w dV D).1;refine J [25,295] ?_;intro au;refine J [0,240] ?_;intro ha;apply J [36,99,27];apply aq (qa aP af top (bQ X.A h) (cI X.A h) S aQ.P O dV D);apply J [68];rw[w];apply J [124,171];apply Ve rfl<;>intro d;have d:X.A.aJ (bo h) dV=0:=U
 rw[d];apply J [24,65,266,50];exact I8;have d:X.A.aJ (bo h) dV≠0:=U
 obtain⟨_,_,x,r,hw,aw,W,u,_⟩:=aE.aJ _ _ d;obtain⟨H,N⟩:=kg (r:=r) u;rw[hw]at d⊢;rw[H,N,al d,al d,c1 d];have E:=jg u W;apply J [4,26];refine q rfl rfl (kB (b:=4294967295) rfl rfl E.1 an (GL u)) ?_;refine J [610,611,2] ?_;refine q rfl rfl (jH (n:=32) rfl rfl E.1 (GK u)) ?_;refine J [261,65,77,88] ?_;exact I8;rw[show e5 X.A (bo h) s=0 from DV C];refine J [25,295] ?_;intro ah;refine J [0,240] ?_;intro ar;apply J [36,99,27];apply aq (H9 aP af (bQ X.A h) (cI X.A h) s C);apply J [9,124,171,76,65,266,50];exact kX
theorem Nq{S u w:cD}{c a:Nat}(g:gk top S u h0 h0)(k:gk top u w (fA c a) (fA c a))(au:¬c7 S c a):gk top S w h0 h0:=by
 have E:∀d b,c7 S d b->¬fA c a d b:=λd b h=>by rintro⟨rfl,rfl⟩;exact au h
 exact⟨k.P,λd b h _=>k.p d b (g.p d b h λh=>h) (E d b h),λd b h _ o C D=>(k.m d b (g.p d b h λh=>h) (E d b h) o C D).trans (g.m d b h (λh=>h) o C D),λ_ _ h=>h⟩
theorem BC{i s:Nat}(hs:s<256)(u:A.aJ i s=0):l7 A i s↔j9 (A.aJ i) (s/16)≠0:=by rw[j9,BN];constructor;rintro⟨r,D,d,_,w⟩;exact⟨r %16,by omega,by rw[show 16*(s/16)+r %16=r by omega];exact w⟩;rintro⟨k,C,d⟩;exact⟨16*(s/16)+k,by omega,by omega,λe=>d (by rw[e];exact u),d⟩
theorem Ny{many aC i:Nat}{L L':List cc}(g:lB many L L' aC i):∃(k:Nat) (f:Nat->Bool),L'[k]? =some ⟨aC,f⟩/\f i=true:=by cases g with|old A B f w d u C=>exact⟨A.length,ff f i,by rw[d];simp,by rw[zI,u];rfl⟩|new A B w d u C D E=>exact⟨A.length,λj=>decide (j=0),by rw[d];simp,by rw[u];rfl⟩
def ro(top:Nat)(A:bV)(f:Int):Prop:=(aD.dd A.Q f 48).2≠0\/(aD.dd (aD.dd A.Q f 48).1 f 256).2≠0\/2^top<=A.np+1
def rS(A:bV)(f:Int)(Q:List aD.b1):Prop:=Q=(aD.dd A.Q f 48).1\/Q=(aD.dd (aD.dd A.Q f 48).1 f 256).1
def vC(top:Nat)(A:bV)(i s w:Nat)(f:Int)(y:Int×bV):Prop:=(y.1=0/\∃Q,y.2=A.lay i s w Q/\rS A f Q)\/(y.1≠0/\y.2={A with np:=A.np+2}/\ro top A f)
section
variable {top : Nat} {A : bV} {S cr gm : cD} {i a s w : Nat} {f : Int}
def pD(A:bV)(w:Nat):Prop:=∃h r:Nat,w=dC h r/\1<=r/\r<=15/\h<4294967295/\(av.cV A.l h).2=0
theorem cm.Au(h:cm A)(u:cH A.l i 1 (bD 2 a f))(hs:s<256)(d:A.aJ i s=0)(hw:pD A w)(hr:l7 A i s)(D:(aD.dd A.Q f 48).2=0)(O:A.np+2<=1000000):cm (A.lay i s w (aD.dd A.Q f 48).1):=by have E:w≠0:=(by obtain⟨x,r,rfl,_,H,N,_⟩:=hw;grind[jg]);refine h.ub u hs (jK.hN h.ee D) ?_ (.inr hw) U;have:=BW (e:=A.aJ i) (e':=fm A.aJ i s w i) hs d (by rw[il];exact E) λr C=>kW C;grind[rx,BC]
theorem cm.At(h:cm A)(C:cH A.l i 1 (bD 2 a f))(hs:s<256)(d:A.aJ i s=0)(hw:pD A w)(hr:¬l7 A i s)(E:(aD.dd A.Q f 48).2=0)(H:(aD.dd (aD.dd A.Q f 48).1 f 256).2=0)(V:A.np+2<=1000000):cm (A.lay i s w (aD.dd (aD.dd A.Q f 48).1 f 256).1):=by have N:w≠0:=(by obtain⟨x,r,rfl,_,O,P,_⟩:=hw;grind[jg]);have u:=jK.hN h.ee E;refine h.ub C hs (u.trans (jK.hN u.ee H)) ?_ (.inr hw) U;have:=BW (e:=A.aJ i) (e':=fm A.aJ i s w i) hs d (by rw[il];exact N) λr D=>kW D;rw[show j9 (A.aJ i) (s/16)=0 from Wd λh=>hr ((BC hs d).2 h),vS]at this;omega
theorem cm.x9(h:cm A)(d:A.np+2<=1000000):cm {A with np:=A.np+2}:=⟨h.ok,h.ee,h.rt,h.ac,h.c3,h.nu,h.aJ,h.hN,h.mD,h.oj,h.ol,h.m6,h.pd,by have:=h.bd;dsimp only;omega⟩
theorem cg.x9(h:cg top A S):cg top {A with np:=A.np+2} S:=h.m0 (wF h.P rfl rfl rfl) rfl rfl rfl rfl h.Q (λ_ _ _ _ _ _ _=>⟨λh=>h,λh=>h.elim⟩) (λ_=>⟨λh=>h,λh=>h⟩) rfl (WB h.gj (Vt _ _))
theorem cg.Ph(D:cm A)(h:cg top A S){y:Nat×Nat×List cc}(g:i5 top S 6 y)(N:(aD.dd S.Q f 48).2=0)(e:cr=kl S f 6 (some y)){L':List cc}(k:jY top cr 6 y.1 y.2.1 L')(E:gm=⟨(aD.eo cr.Q f (cf 6:Int)).1,cr.bF,dK cr.C 6 L',cr.Fr,cr.m⟩):cg top {A with np:=A.np+2} gm:=by
 obtain⟨g1,g2⟩:=wE (bb:=cr) h.P hM g rW rW (λo D=>by rw[e];exact vv D);have au:¬c7 S 6 (addr 6 y):=λk=>g.uM h.P hM k ⟨rfl,rfl⟩;have g3:gk top cr gm (fA 6 (addr 6 y)) (fA 6 (addr 6 y)):=by grind[gk,addr,wD,hM]
 have H:((cf 6:Nat):Int)=48:=rfl;refine h.m0 (Nq g1 g3 au) rfl rfl rfl rfl ?_ (λ_ _ _ _ _ _ _=>⟨λh=>h,λh=>h.elim⟩) (λ_=>⟨λh=>h,λh=>h⟩) ?_ ?_;have u:cr.Q=(aD.dd S.Q f 48).1:=by rw[e];rfl
 have d:cr.bF=S.bF:=by rw[e];rfl
 rw[E];dsimp only;rw[u,d,H,h.Q.1,tc D.ee (by rw[<-h.Q.1];exact N)];exact⟨rfl,h.Q.2⟩;have u:=II hM g 6;have d:=IH g1.P hM k 6;rw[az rfl]at u d;have w:cr.C=dK S.C 6 y.2.2:=by rw[e];rfl
 simp_all;have u:=g.len;have d:=k.len;have w:cr.C=dK S.C 6 y.2.2/\cr.Fr=S.Fr:=by rw[e];exact⟨rfl,rfl⟩
 rw[E];dsimp only;rw[w.1,w.2]at d⊢;have:=h.gj;omega
end
theorem yj(ay af top:Nat)(X:ch)(aP:Nat)(h:Int)(b1:0<=h/\h<=4294967295)(cb:(bW X.A.l h 2).2=0)(s:Nat)(hs:s<256)(N:X.A.aJ (bo h) s=0)(x r:Nat)(bk:x<4294967295)(hr:1<=r/\r<=15)(co:(av.cV X.A.l x).2=0)(ah:X.A.np+2<=1000000):bK 138 [ae ay,.agg #[ae aP,aS h,aa (bQ X.A h)],aa s,.agg #[aS x,aa r]] cW [aj aP 163 [ae af,aa (bQ X.A h),aa (cI X.A h:Int)],di ay af top X] (λy:Int×bV=>aa y.1) (λy=>vC top X.A (bo h) s (dC x r) (bQ X.A h) y) (λy=>[aj aP 163 [ae af,aa (bQ X.A h),aa (cI X.A h:Int)],di ay af top ⟨y.2,X.L,X.last⟩]):=by
 apply aI Tryz.func138 Tryz.ntmps138;intro F bz;apply J [11];haveI:cl F:=⟨bz⟩;apply ab.open 1 rfl;rintro⟨aK,bt⟩-;apply J [57];dsimp only;apply ab.open 1 rfl;rintro⟨am,bx,S⟩ ⟨aQ,aE⟩;apply J [145];dsimp only at aQ aE⊢;obtain⟨H,cn⟩:=ma aQ b1.1 cb;have ct:2^top<=128:=Vi (n:=2) an aQ.P.fZ.2;have ck:cf 6=48:=rfl;have a2:((cf 6:Nat):Int)=48:=rfl;have u:=jg bk hr.2;have bg:pD X.A (dC x r):=by grind[pD]
 refine J [25,295] ?_;intro be;refine J [0,244] ?_;intro bA;apply J [31];refine cJ [0,1,2,3,5,6,-4,-7,8,9,10,11,12] (show aG (ag _) (ag [aj be 150 [ae aP,aS h,aa (bQ X.A h)],aj ay 148 [ae aK,ae bt]])from ai) ?_;apply J [72,131,13];apply aq (oN aK af am bx);refine J [249,47] ?_;apply ba (uV af top S (bQ X.A h) 6 hM);intro⟨cg,cu⟩ W;refine J [275] ?_;cases cg with|none=>?_|some y=>?_
 dsimp only[pA,kl];have ar:ro top X.A (bQ X.A h):=(by have bO:=W.2;rw[a2,aQ.Q.1]at bO;rcases bO with bO|⟨_,bO⟩;exact .inl (by rw[<-bO];exact W.1);exact .inr (.inr (WB bO (Nat.le_succ_of_le aQ.gj))));have D:=aE.x9 ah;have E:=aQ.x9;apply J [254,285,277,7,32];refine Ve rfl (λa4=>?_) (λa4=>absurd (W.1) a4);apply J [126];exact bv (cu,{X.A with np:=X.A.np+2}) (.inr ⟨W.1,rfl,ar⟩) (bU 8 rfl (aA (bT.mk aK bt:bT) trivial (bU 6 rfl (aA (⟨am,bx,S⟩:eE) ⟨E,D⟩ ai))));obtain⟨rfl,bh,cK⟩:=W;obtain⟨cr,d⟩:∃cr:cD,cr=kl S (bQ X.A h) 6 (some y):=⟨_,rfl⟩;rw[<-d];dsimp only[pA];obtain⟨g1,ce,cw,t1,t2,t3⟩:=aQ.node H cK d;have cq:=c7.bd g1.P ce;have au:cr.Q=(aD.dd X.A.Q (bQ X.A h) 48).1:=by rw[d,<-aQ.Q.1];rfl
 have aw:(aD.dd X.A.Q (bQ X.A h) 48).2=0:=by rw[<-aQ.Q.1];exact bh
 apply J [254,285,277,7,32];refine Ve rfl (λa5=>absurd a5 (λh=>h rfl)) (λa5=>?_);apply J [44,7];refine cJ [0,1,2,3,5,6,-4,-7,8] (show aG (ag _) (ag [aj be 150 [ae aP,aS h,aa (bQ X.A h)],aj bA 39 [aS x,aa r]])from ai) ?_;apply J [110,16,251,16];refine bZ rfl rfl rfl (conv .i64 .u64 rfl rfl rfl (pg U)) ?_;refine dO rfl rfl ?_;apply aq (Ci x r bk hr.2);refine J [275] ?_;by_cases O:br cr.m (cI X.A h) (s/16)=0;have aT:¬l7 X.A (bo h) s:=λbO=>(aQ.Hl H hs N).2 bO (by rw[<-t2 _ U];exact O);have a0:((cf 7:Nat):Int)=256:=rfl;refine dO rfl rfl ?_;apply ba (TC aP af top (bQ X.A h) (cI X.A h) cr g1.P t1 s hs (dC x r) (addr 6 y) u.1 U u.2 O);intro⟨z9,cu⟩ Z;refine J [275] ?_;cases z9 with|none=>?_|some z=>?_
 dsimp only[u9];obtain⟨cc,f6,b3,b0⟩:=Ny cK.m2;have bn:cr.C 6=y.2.2:=by rw[d];exact jI S.C 6 y.2.2
 have b4:(aD.eo cr.Q (bQ X.A h) (cf 6:Int)).2=0:=by rw[au,a2,tc aE.ee aw]
 have ar:ro top X.A (bQ X.A h):=(by have bO:=Z.2;rw[a0,au]at bO;rcases bO with bO|⟨_,bO⟩;exact .inr (.inl (by rw[<-bO];exact Z.1));refine .inr (.inr (WB bO ?_));have cm:=cK.len;(have a3:cr.C=dK S.C 6 y.2.2/\cr.Fr=S.Fr:=by rw[d];exact⟨rfl,rfl⟩);rw[a3.1,a3.2];have:=aQ.gj;omega);apply J [204,32];refine Ve rfl (λbb=>?_) (λbb=>absurd (Z.1) bb);refine cJ [0,1,2,3,5,6,7,-4,-8] (show aG (ag _) (ag [aj be 150 [ae aP,aS h,aa (bQ X.A h)],aj ay 148 [ae aK,ae bt]])from ai) ?_;apply J [72,131,239];apply aq (oN aK af am bx);refine J [249,47] ?_;apply ba (uW af top cr 6 hM cc y.1 y.2.1 f6 (by rw[bn];exact b3) b0 (bQ X.A h) b4);intro bl bL;refine J [275] ?_;obtain⟨gm,a1⟩:∃gm:cD,gm=⟨(aD.eo cr.Q (bQ X.A h) (cf 6:Int)).1,cr.bF,dK cr.C 6 bl,cr.Fr,cr.m⟩:=⟨_,rfl⟩;rw[<-a1];have E:=aQ.Ph aE cK bh d bL a1;have D:=aE.x9 ah;apply J [52,134];exact bv (cu,{X.A with np:=X.A.np+2}) (.inr ⟨Z.1,rfl,ar⟩) (bw (aA (bT.mk aK bt:bT) trivial (bU 6 rfl (aA (⟨am,bx,gm⟩:eE) ⟨E,D⟩ ai))));obtain⟨rfl,bi,bM⟩:=Z;dsimp only;obtain⟨w,V⟩:∃w:cD,w=u9 cr (bQ X.A h) (cI X.A h) s (dC x r) (addr 6 y) (some z):=⟨_,rfl⟩;rw[<-V];rw[au,a0]at bi;have E:=aQ.At aE.ok H hs N u.2 u.1 cK d O bM V;have D:=aE.At H hs N bg aT aw bi ah;apply J [204,32];refine Ve rfl (λa9=>absurd a9 (λh=>h rfl)) (λa9=>?_);apply J [4,134];exact bv (0,X.A.lay (bo h) s (dC x r) (aD.dd (aD.dd X.A.Q (bQ X.A h) 48).1 (bQ X.A h) 256).1) (.inl ⟨rfl,_,rfl,.inr rfl⟩) (ao (aA (bT.mk aK bt:bT) trivial (bU 6 rfl (aA (⟨am,bx,w⟩:eE) ⟨E,D⟩ ai))));have aT:l7 X.A (bo h) s:=(aQ.Hl H hs N).1 (by rw[<-t2 _ U];exact O);obtain⟨w,V⟩:∃w:cD,w=⟨cr.Q,cr.bF,cr.C,cr.Fr,dx cr.m (br cr.m (cI X.A h) (s/16)+s %16*16) [dC x r,addr 6 y]⟩:=⟨_,rfl⟩;have E:=aQ.Au aE.ok H hs N u.2 u.1 cK d O V;have D:=aE.Au H hs N bg aT aw ah;refine dO rfl rfl ?_;apply aq (B6 aP af top (bQ X.A h) (cI X.A h) cr g1.P t1 s hs (dC x r) (addr 6 y) u.1 U u.2 O);refine J [275] ?_;rw[<-V];apply J [204,202,134];exact bv (0,X.A.lay (bo h) s (dC x r) (aD.dd X.A.Q (bQ X.A h) 48).1) (.inl ⟨rfl,_,rfl,.inl rfl⟩) (ao (aA (bT.mk aK bt:bT) trivial (bU 6 rfl (aA (⟨am,bx,w⟩:eE) ⟨E,D⟩ ai))))
section
variable {A : bV} {i a s : Nat} {f : Int}
theorem cm.H4(h:cm A)(u:cH A.l i 1 (bD 2 a f)):aD.df A.Q f/\(kT (A.aJ i):Int)<=aD.gp A.Q f:=by have d:=(h.ac i 1 _ (.inl rfl) u).1;refine⟨d,?_⟩;rw[show(bD 2 a f).f=f from rfl]at d;rw[h.hN f d];have w:=vb (f:=h9 A f) (u.lt h.ok);rw[n1 u f,az (show fs 1/\(bD 2 a f).f=f from⟨.inl rfl,rfl⟩),az (show(1:Int)=1/\(bD 2 a f).k=2 from⟨rfl,rfl⟩)]at w;grind[pE]
theorem H3(hs:s<256)(d:A.aJ i s≠0):kT (A.aJ i)=kT (fm A.aJ i s 0 i)+48+256*(1-be (j9 (fm A.aJ i s 0 i) (s/16))):=
 BW (e:=fm A.aJ i s 0 i) (e':=A.aJ i) hs (il ..) d λr u=>(kW u).symm
theorem Hp(hs:s<256):l7 A i s↔j9 (fm A.aJ i s 0 i) (s/16)≠0:=by have u:=BC (A:={A with aJ:=fm A.aJ i s 0}) (i:=i) hs (il ..);rw[<-u,l7,l7];constructor;rintro⟨r,a,b,c,d⟩;exact⟨r,a,b,c,by dsimp only;rw[kW c];exact d⟩;grind[kW]
theorem cm.yW(h:cm A)(d:cH A.l i 1 (bD 2 a f))(hs:s<256)(u:A.aJ i s≠0)(hr:l7 A i s):(aD.eo A.Q f 48).2=0/\cm (A.bare i s (aD.eo A.Q f 48).1):=by obtain⟨w,E⟩:=h.H4 d;have C:=H3 hs u;rw[rx ((Hp hs).1 hr)]at C;obtain⟨bM,D⟩:=jK.r3 h.ee w (n:=48) an U;exact⟨bM,h.ub d hs D U (.inl rfl) ⟨Vj _,h.bd.2.2⟩⟩
theorem cm.yV(h:cm A)(C:cH A.l i 1 (bD 2 a f))(hs:s<256)(D:A.aJ i s≠0)(hr:¬l7 A i s):(aD.eo A.Q f 256).2=0/\(aD.eo (aD.eo A.Q f 256).1 f 48).2=0/\cm (A.bare i s (aD.eo (aD.eo A.Q f 256).1 f 48).1):=by obtain⟨u,O⟩:=h.H4 C;have E:=H3 hs D;rw[show j9 (fm A.aJ i s 0 i) (s/16)=0 from Wd λh=>hr ((Hp hs).2 h),vS]at E;obtain⟨bM,d⟩:=jK.r3 h.ee u (n:=256) an U;have w:=d.fU _ u;rw[az rfl]at w;obtain⟨H,N⟩:=jK.r3 d.ee ((d.has _).2 u) (n:=48) an (by rw[w];omega);exact⟨bM,H,h.ub C hs (d.trans N) U (.inl rfl) ⟨Vj _,h.bd.2.2⟩⟩
end
theorem Ch(ay af top:Nat)(X:ch)(aP:Nat)(h:Int)(bi:0<=h/\h<=4294967295)(b0:(bW X.A.l h 2).2=0)(s:Nat)(hs:s<256)(w:X.A.aJ (bo h) s≠0):bK 168 [ae ay,.agg #[ae aP,aS h,aa (bQ X.A h)],aa s] cW [aj aP 163 [ae af,aa (bQ X.A h),aa (cI X.A h:Int)],di ay af top X] (λ_:bV=>.tuple #[]) (λy=>∃Q,y=X.A.bare (bo h) s Q) (λy=>[aj aP 163 [ae af,aa (bQ X.A h),aa (cI X.A h:Int)],di ay af top ⟨y,X.L,X.last⟩]):=by
 apply aI Tryz.func168 Tryz.ntmps168;intro F a9;apply J [11];haveI:cl F:=⟨a9⟩;apply ab.open 1 rfl;rintro⟨aK,bt⟩-;apply J [57];dsimp only;apply ab.open 1 rfl;rintro⟨am,bx,S⟩ ⟨aQ,aE⟩;apply J [145];dsimp only at aQ aE⊢;obtain⟨D,ck⟩:=ma aQ bi.1 b0;have cm:2^top<=128:=Vi (n:=2) an aQ.P.fZ.2;have cc:cf 6=48:=rfl;have cb:((cf 6:Nat):Int)=48:=rfl;have a5:((cf 7:Nat):Int)=256:=rfl;obtain⟨O,a1⟩:=aQ.gV _ _ _ D;have ce:=(a1 s hs).1;have a0:=(a1 s hs).2 w;have cg:=c7.bd aQ.P a0;have a2:dZ S.m (cI X.A h) s≠0:=U
 have av:=aQ.fJ D hs w;obtain⟨k,aC,i,f,V,a3,aU⟩:=(a0.jF hM).at;refine J [25,295] ?_;intro be;apply J [93,79,27];apply aq (qa aP af top (bQ X.A h) (cI X.A h) S aQ.P O s hs);apply J [22];have aT:=aU;rw[aU];apply J [282,173,99,2];by_cases E:l7 X.A (bo h) s;refine e rfl ?_;apply aq (Tg aP af top (bQ X.A h) (cI X.A h) S aQ.P O s hs av a2 ((aQ.row D hs w).1 E));apply J [22];obtain⟨d,u⟩:∃d:cD,d=⟨S.Q,S.bF,S.C,S.Fr,dx S.m (br S.m (cI X.A h) (s/16)+s %16*16) [0,0]⟩:=⟨_,rfl⟩;rw[<-u];have ar:d.C 6=S.C 6:=by rw[u]
 obtain⟨bL,ah⟩:=aE.yW D hs w E;have bg:d.Q=X.A.Q:=by rw[u];exact aQ.Q.1
 have bn:d.bF=X.A.bF:=by rw[u];exact aQ.Q.2
 have aw:(aD.eo d.Q (bQ X.A h) (cf 6:Int)).2=0:=b6
 rw[<-ar]at V;refine J [3,612,72,131,16,543,13] ?_;apply aq (oN aK af am bx);refine J [252,47] ?_;apply ba (uW af top d 6 hM k aC i f V a3 (bQ X.A h) aw);intro H au;refine J [252,6] ?_;obtain⟨gm,W⟩:∃gm:cD,gm=⟨(aD.eo d.Q (bQ X.A h) (cf 6:Int)).1,d.bF,dK d.C 6 H,d.Fr,d.m⟩:=⟨_,rfl⟩;rw[<-W];have N:=aQ.yW aE.ok D hs w E u au aT (aD.eo X.A.Q (bQ X.A h) 48).1;have Z:gm=⟨(aD.eo X.A.Q (bQ X.A h) 48).1,X.A.bF,dK d.C 6 H,d.Fr,d.m⟩:=b6
 rw[<-Z]at N;refine cd.nil ?_;exact mR (X.A.bare (bo h) s (aD.eo X.A.Q (bQ X.A h) 48).1) ⟨_,rfl⟩ (bw (aA (bT.mk aK bt:bT) trivial (eI (aA (⟨am,bx,gm⟩:eE) ⟨N,ah⟩ ai))));obtain⟨b3,b4,i7,f7,bl,bh,a4⟩:=(O.fJ _ U av).at;obtain⟨bM,bL,ah⟩:=aE.yV D hs w E;have b1:∀j,j<16->j≠s %16->cU S.m (br S.m (cI X.A h) (s/16)+j*16)=0:=λj bk bz=>Wd λbO=>E ((aQ.row D hs w).2 ⟨j,bk,bz,bO⟩);refine e rfl ?_;apply ba (Tf aP af top (bQ X.A h) (cI X.A h) S aQ.P O s hs av a2 b3 b4 i7 f7 bl bh a4 b1 (by rw[a5,aQ.Q.1];exact bM));intro aB bb;apply J [22];obtain⟨d,u⟩:∃d:cD,d=⟨(aD.eo S.Q (bQ X.A h) (cf 7:Int)).1,S.bF,dK S.C 7 aB,S.Fr,dx (dx S.m (br S.m (cI X.A h) (s/16)+s %16*16) [0,0]) (cI X.A h+s/16*8) [0]⟩:=⟨_,rfl⟩;rw[<-u];have ar:d.C 6=S.C 6:=by rw[u];exact jj S.C aB (show(6:Nat)≠7 by decide)
 have bg:d.Q=(aD.eo X.A.Q (bQ X.A h) 256).1:=by rw[u,<-aQ.Q.1];rfl
 have bn:d.bF=X.A.bF:=by rw[u];exact aQ.Q.2
 have aw:(aD.eo d.Q (bQ X.A h) (cf 6:Int)).2=0:=b6
 rw[<-ar]at V;refine J [3,612,72,131,16,543,13] ?_;apply aq (oN aK af am bx);refine J [252,47] ?_;apply ba (uW af top d 6 hM k aC i f V a3 (bQ X.A h) aw);intro H au;refine J [252,6] ?_;obtain⟨gm,W⟩:∃gm:cD,gm=⟨(aD.eo d.Q (bQ X.A h) (cf 6:Int)).1,d.bF,dK d.C 6 H,d.Fr,d.m⟩:=⟨_,rfl⟩;rw[<-W];have N:=aQ.yV aE.ok D hs w E bb a4 u au aT (aD.eo (aD.eo X.A.Q (bQ X.A h) 256).1 (bQ X.A h) 48).1;have Z:gm=⟨(aD.eo (aD.eo X.A.Q (bQ X.A h) 256).1 (bQ X.A h) 48).1,X.A.bF,dK d.C 6 H,d.Fr,d.m⟩:=b6
 rw[<-Z]at N;refine cd.nil ?_;exact mR (X.A.bare (bo h) s (aD.eo (aD.eo X.A.Q (bQ X.A h) 256).1 (bQ X.A h) 48).1) ⟨_,rfl⟩ (bw (aA (bT.mk aK bt:bT) trivial (eI (aA (⟨am,bx,gm⟩:eE) ⟨N,ah⟩ ai))))
end Go.Proofs.Q
namespace Go.Proofs.Q.b0
open Go Go.QM
theorem FE{L:List Fn}{last:Int}(h:cL L last){t:Fn}(Q:t∈L):∀i,i<=(c6 L t.id).length->∃Z,nT L last t i Z/\∀u,u∈Z↔∃v∈L,v.id≠t.id/\u=if v.id∈(c6 L t.id).take i then⟨v.id,t.par,v.dH,v.ck⟩else v
 | 0,_=>⟨hn L t.id,nT.start h Q,λu=>by
  rw[l2]
  constructor
  ·rintro⟨E,H⟩;exact⟨u,E,H,by simp⟩
  rintro⟨v,E,H,C⟩;simp at C;rw[C];exact⟨E,H⟩⟩
 | i +1,aD=>by
  obtain⟨Z,ah,hm⟩:=FE h Q i U
  obtain⟨k,P⟩:∃k,(c6 L t.id)[i]? =some k:=⟨_,Vb U⟩
  obtain⟨w,hw,rfl,aT⟩:=ah.todo i k (Vj _) P
  have aB:=ah.ep.rg w hw
  have aJ:=h.rg t Q
  have aI:=pU h (Vg P)
  have V:(c6 L t.id).take (i+1)=(c6 L t.id).take i++[w.id]:=by rw[Vs,P];rfl
  refine⟨_,ah.next h Q hw P U,λu=>?_⟩
  obtain⟨v0,qM,av,aw⟩:=(hm w).1 hw
  have et:v0.id=w.id/\v0.dH=w.dH/\v0.ck=w.ck:=by
   rw[aw];split<;>exact⟨rfl,rfl,rfl⟩
  have au:u∈hk Z w t.par↔(u∈Z/\u.id≠w.id)\/u=⟨w.id,t.par,w.dH,w.ck⟩:=by rw[hk,Vd,Vc,l2]
  rw[au]
  constructor
  ·rintro(⟨E,H⟩|rfl)
   ·obtain⟨v,C,W,N⟩:=(hm u).1 E
    have aq:v.id=u.id:=by rw[N];split<;>rfl
    refine⟨v,C,W,?_⟩
    rw[N,V]
    have O:v.id∈(c6 L t.id).take i++[w.id]↔v.id∈(c6 L t.id).take i:=by
     rw[Vd,Vc]
     exact⟨λD=>D.elim id λe=>absurd (aq.symm.trans e) H,.inl⟩
    by_cases d:v.id∈(c6 L t.id).take i
    ·rw[az d,az (O.2 d)]
    rw[al d,al (λD=>d (O.1 D))]
   refine⟨v0,qM,av,?_⟩
   rw[az (by rw[V,et.1];simp),et.1,et.2.1,et.2.2]
  rintro⟨v,C,W,N⟩
  by_cases e:v.id=w.id
  ·right
   obtain rfl:=h.bC.inj C qM (e.trans et.1.symm)
   rw[N,az (by rw[V,e];simp),et.1,et.2.1,et.2.2]
  left
  have O:v.id∈(c6 L t.id).take i++[w.id]↔v.id∈(c6 L t.id).take i:=by
   rw[Vd,Vc]
   exact⟨λD=>D.elim id λar=>absurd ar e,.inl⟩
  have d:u=if v.id∈(c6 L t.id).take i then⟨v.id,t.par,v.dH,v.ck⟩else v:=by
   rw[N,V]
   by_cases d:v.id∈(c6 L t.id).take i
   ·rw[az d,az (O.2 d)]
   rw[al d,al (λD=>d (O.1 D))]
  refine⟨(hm u).2 ⟨v,C,W,d⟩,?_⟩
  rw[d];split<;>exact e
def sV(t v:Fn):Fn:=⟨v.id,if v.par=t.id then t.par else v.par,v.dH,v.ck⟩
structure JN(L:List Fn)(last:Int)(t:Fn):Prop where
  ep:cL (kn L t.id) last
  len:(kn L t.id).length+1=L.length
  mem:∀u,u∈kn L t.id↔∃v∈L,v.id≠t.id/\u=sV t v
theorem AB{L:List Fn}{last:Int}(h:cL L last){t:Fn}(d:t∈L):JN L last t:=by obtain⟨Z,C,hm⟩:=FE h d _ (Vj _);have e:=C.done h d;have H:=uQ h.bC d;have O:=h.rg t d;refine⟨by rw[e];exact C.ep,by rw[e,C.len];exact H,λu=>?_⟩;rw[e,hm,VY];have hv:∀v∈L,(if v.id∈c6 L t.id then(⟨v.id,t.par,v.dH,v.ck⟩:Fn)else v)=sV t v:=λv hv=>(by have P:v.id∈c6 L t.id↔v.par=t.id:=(by rw[pT];constructor;rintro⟨_,w,hw,D,E⟩;rw[<-h.bC.inj hw hv E];exact D;grind);rw[sV];by_cases N:v.par=t.id;all_goals simp_all);grind
end Go.Proofs.Q.b0
namespace Go.Proofs.Q
open Go Go.QM
variable [dL] [fa]
def au(l:List av.b3)(i:Nat):Int:=match l[i]? with
  | some p=>p.c5*256+(i:Int)
  | none=>-1
theorem rJ{l:List av.b3}{i:Nat}{p:av.b3}(h:l[i]? =some p):au l i=p.c5*256+(i:Int):=by rw[au,h]
theorem sP{l:List av.b3}(d:av.dQ l){i j:Nat}(u:i<256)(w:j<256)(e:au l i=au l j):i=j:=by obtain⟨p,C,_⟩:=d.at u;obtain⟨q,D,_⟩:=d.at w;grind[rJ]
theorem EI{l:List av.b3}(u:av.dQ l){i:Nat}(d:i<256):0<=au l i/\au l i<=4294967295/\(au l i %256).toNat=i:=by obtain⟨p,D,w,C⟩:=u.at d;grind[rJ]
structure c8(X:ch)(D:Nat->Nat->Prop):Prop where
  ep:b0.cL X.L X.last
  pZ:∀t∈X.L,∃i s:Nat,t.dH=au X.A.l i/\t.ck=(s:Int)/\X.A.aJ i s≠0/\¬D i s
  qW:∀i s,X.A.aJ i s≠0->¬D i s->∃t∈X.L,t.dH=au X.A.l i/\t.ck=(s:Int)
  kh:∀i s,D i s->X.A.aJ i s≠0
  gi:∀t∈X.L,∀u∈X.L,t.par=u.id->∀i s j r:Nat,t.dH=au X.A.l i->t.ck=(s:Int)->X.A.aJ i s≠0->u.dH=au X.A.l j->u.ck=(r:Int)->X.A.aJ j r≠0->iI (X.A.aJ i s)=iI (X.A.aJ j r)
  dn:X.last<=X.A.np
def ek:Nat->Nat->Prop:=λ_ _=>False
section
variable {X : ch} {D : Nat → Nat → Prop}
variable{i s:Nat}
theorem cm.mW{A:bV}(h:cm A)(e:A.aJ i s≠0):i<256/\s<256:=by obtain⟨d,⟨a,f,u⟩,_⟩:=h.aJ i s e;exact⟨u.lt h.ok,d⟩
theorem c8.qc(h:c8 X D)(aE:cm X.A){t:b0.Fn}(E:t∈X.L)(C:i<256)(d:t.dH=au X.A.l i)(H:t.ck=(s:Int)):X.A.aJ i s≠0/\¬D i s:=by obtain⟨j,r,u,N,w,O⟩:=h.pZ t E;have:=sP aE.ok C (aE.mW w).1 (d.symm.trans u);grind
theorem c8.find(h:c8 X D)(e:X.A.aJ i s≠0)(C:¬D i s):∃t∈X.L,b0.hE X.L (au X.A.l i,(s:Int))=t.id/\t.dH=au X.A.l i/\t.ck=(s:Int)/\1<=t.id:=by obtain⟨t,d,u,w⟩:=h.qW i s e C;refine⟨t,d,?_,u,w,(h.ep.rg t d).1⟩;rw[<-u,<-w];exact b0.zF h.ep.no d
theorem c8.Gh(h:c8 X D)(aE:cm X.A)(C:i<256)(e:X.A.aJ i s=0\/D i s):b0.hE X.L (au X.A.l i,(s:Int))=0:=by refine b0.zE ?_;rintro⟨t,E,d⟩;have u:t.dH=au X.A.l i:=congrArg (·.1) d;have w:t.ck=(s:Int):=congrArg (·.2) d;obtain⟨H,N⟩:=h.qc aE E C u w;simp_all
theorem NG{L:List b0.Fn}{x y:Int}(h:b0.hE L (x,y)=0)(hr:∀t∈L,1<=t.id):¬b0.kH L (x,y):=by rintro⟨t,d,e⟩;grind[b0.hE]
theorem c8.add(h:c8 X D)(aE:cm X.A)(N:D i s){par:Int}(w:par=0\/∃u∈X.L,u.id=par/\∀j r:Nat,u.dH=au X.A.l j->u.ck=(r:Int)->X.A.aJ j r≠0->iI (X.A.aJ i s)=iI (X.A.aJ j r)){D':Nat->Nat->Prop}(aN:∀j r,D' j r↔D j r/\¬(j=i/\r=s))(aD:X.last+1<=X.A.np):
 (b0.gZ X.L X.last par (au X.A.l i,(s:Int))).2.2.2=0/\c8 ⟨X.A,(b0.gZ X.L X.last par (au X.A.l i,(s:Int))).1,(b0.gZ X.L X.last par (au X.A.l i,(s:Int))).2.1⟩ D':=by
 have Z:i<256:=(aE.mW (h.kh i s N)).1;have W:=h.Gh aE Z (.inr N);have aw:¬(¬b0.fW X.L par/\par≠0):=(by rcases w with w|⟨u,hu,w,_⟩;omega;exact λh=>h.1 ⟨u,hu,w⟩);have e:b0.gZ X.L X.last par (au X.A.l i,(s:Int))=(X.L++[⟨X.last+1,par,au X.A.l i,(s:Int)⟩],X.last+1,X.last+1,0):=(by rw[b0.gZ,al aw,al (λh=>h W)]);have a4:0<=X.last:=by have:=h.ep.len;omega
 have aT:0<=par/\par<=X.last:=(by rcases w with w|⟨u,hu,w,_⟩;omega;have:=h.ep.rg u hu;omega);rw[e];refine⟨rfl,h.ep.add (t:=⟨X.last+1,par,au X.A.l i,(s:Int)⟩) rfl aT (NG W λt d=>(h.ep.rg t d).1),λt d=>?_,λj r O aI=>?_,λj r O=>h.kh j r ((aN j r).1 O).1,λt d u hu P=>?_,aD⟩;rcases Vd.1 d with d|d;obtain⟨j,r,av,a1,a2,a3⟩:=h.pZ t d;grind;obtain rfl:=Vc.1 d;exact⟨i,s,rfl,rfl,h.kh i s N,λH=>((aN i s).1 H).2 ⟨rfl,rfl⟩⟩;by_cases C:j=i/\r=s;simp_all;obtain⟨t,d,av⟩:=h.qW j r O λH=>aI ((aN j r).2 ⟨H,C⟩);grind;dsimp only;intro j r k q C Q V ah aq ar;rcases Vd.1 d with d|d<;>rcases Vd.1 hu with E|E;exact h.gi t d u E P j r k q C Q V ah aq ar;obtain rfl:=Vc.1 E;have:=h.ep.rg t d;grind;obtain rfl:=Vc.1 d;dsimp only at P C Q;have aB:=sP aE.ok Z (aE.mW V).1 C;have a0:r=s:=U
 subst aB;subst a0;rcases w with w|⟨v,hv,w,a5⟩;have:=h.ep.rg u E;omega;have:v=u:=h.ep.bC.inj hv E U;grind;grind
theorem c8.lay(h:c8 X D)(aE:cm X.A){w np:Nat}{Q:List aD.b1}(aT:i<256)(au:X.A.aJ i s=0)(hw:w≠0)(a0:X.A.np<=np){D':Nat->Nat->Prop}(aN:∀j r,D' j r↔D j r\/(j=i/\r=s)):c8 ⟨{X.A with Q:=Q,aJ:=fm X.A.aJ i s w,np:=np},X.L,X.last⟩ D':=by have P:∀{j r},X.A.aJ j r≠0->fm X.A.aJ i s w j r=X.A.aJ j r:=λ{j r} d=>ls (by by_cases e:j=i;exact .inr λC=>d (by rw[e,C];exact au);exact .inl e);have hold:∀{j r},fm X.A.aJ i s w j r≠0->¬(j=i/\r=s)->X.A.aJ j r≠0:=λ{j r} O av=>(by grind[ls]);refine⟨h.ep,λt N=>?_,λj r d aw=>?_,λj r d=>?_,λt N u hu ah=>?_,by have:=h.dn;dsimp only;omega⟩;obtain⟨j,r,O,av,aB,aI⟩:=h.pZ t N;grind;dsimp only at d;by_cases e:j=i/\r=s;simp_all;exact h.qW j r (hold d e) λE=>aw ((aN j r).2 (.inl E));dsimp only;rcases(aN j r).1 d with H|⟨rfl,rfl⟩;have:=h.kh j r H;rw[P this];exact this;grind[il];dsimp only;intro j r k q C V aq W Z ar;have lt:∀{j r},fm X.A.aJ i s w j r≠0->j<256:=λ{j r} O=>(by by_cases e:j=i/\r=s;omega;exact(aE.mW (hold O e)).1);have E:=(h.qc aE N (lt aq) C V).1;have H:=(h.qc aE hu (lt ar) W Z).1;rw[P E,P H];exact h.gi t N u hu ah j r k q C V E W Z H
theorem c8.IC(h:c8 X D)(aE:cm X.A){Q:List aD.b1}(aw:D i s){D':Nat->Nat->Prop}(aN:∀j r,D' j r↔D j r/\¬(j=i/\r=s)):c8 ⟨X.A.bare i s Q,X.L,X.last⟩ D':=by
 have C:∀{j r},¬(j=i/\r=s)->fm X.A.aJ i s 0 j r=X.A.aJ j r:=λ{j r} w=>ls (by by_cases e:j=i;exact .inr λE=>w ⟨e,E⟩;exact .inl e);have hold:∀{j r},fm X.A.aJ i s 0 j r≠0->¬(j=i/\r=s):=by grind[il]
 refine⟨h.ep,λt V=>?_,λj r w au=>?_,λj r w=>?_,λt V u hu W=>?_,h.dn⟩;obtain⟨j,r,d,O,av,ar⟩:=h.pZ t V;refine⟨j,r,d,O,?_,λP=>ar ((aN j r).1 P).1⟩;dsimp only[bV.bare];grind;dsimp only[bV.bare]at w;have d:=hold w;rw[C d]at w;exact h.qW j r w λP=>au ((aN j r).2 ⟨P,d⟩);have d:=(aN j r).1 w;dsimp only[bV.bare];rw[C d.2];exact h.kh j r d.1;dsimp only[bV.bare];intro j r k q E Z H ah aq N;have d:=hold H;have O:=hold N;rw[C d]at H⊢;rw[C O]at N⊢;exact h.gi t V u hu W j r k q E Z H ah aq N
theorem c8.set(h:c8 X D)(aE:cm X.A){w:Nat}(aI:X.A.aJ i s≠0)(hw:w≠0)(aT:D i s\/iI w=iI (X.A.aJ i s)):c8 ⟨X.A.set i s w,X.L,X.last⟩ D:=by have d:∀{j r},fm X.A.aJ i s w j r≠0↔X.A.aJ j r≠0:=λ{j r}=>(by grind[il,ls]);have Q:∀{j r},¬D j r->iI (fm X.A.aJ i s w j r)=iI (X.A.aJ j r):=λ{j r} a0=>(by grind[il,ls]);refine⟨h.ep,λt C=>?_,λj r E aw=>h.qW j r (d.1 E) aw,λj r E=>d.2 (h.kh j r E),λt C u hu W=>?_,h.dn⟩;obtain⟨j,r,aq,ar,au,av⟩:=h.pZ t C;exact⟨j,r,aq,ar,d.2 au,av⟩;dsimp only[bV.set];intro j r k q H N Z O P ah;have bM:=d.1 Z;have V:=d.1 ah;have aB:=(h.qc aE C (aE.mW bM).1 H N).2;have aD:=(h.qc aE hu (aE.mW V).1 O P).2;rw[Q aB,Q aD];exact h.gi t C u hu W j r k q H N bM O P V
theorem c8.lift(h:c8 X D)(aE:cm X.A){Q:List aD.b1}(av:X.A.aJ i s≠0){t:b0.Fn}(C:t∈X.L)(O:t.dH=au X.A.l i)(E:t.ck=(s:Int)):c8 ⟨X.A.bare i s Q,b0.kn X.L t.id,X.last⟩ D:=by
 have N:=b0.AB h.ep C;have aT:=(aE.mW av).1;have a1:=(h.qc aE C aT O E).2;have W:∀{j r},¬(j=i/\r=s)->fm X.A.aJ i s 0 j r=X.A.aJ j r:=λ{j r} d=>ls (by by_cases e:j=i;exact .inr λE=>d ⟨e,E⟩;exact .inl e);have hold:∀{j r},fm X.A.aJ i s 0 j r≠0->¬(j=i/\r=s):=by grind[il]
 have ba:∀v∈X.L,v.dH=t.dH->v.ck=t.ck->v.id=t.id:=λv hv a b=>(by have:=h.ep.no.inj hv C (show b0.iA v=b0.iA t from Prod.ext a b);simp_all);refine⟨N.ep,λu hu=>?_,λj r d a3=>?_,λj r d=>?_,λu hu v hv H=>?_,h.dn⟩;obtain⟨v,w,a0,rfl⟩:=(N.mem u).1 hu;obtain⟨j,r,bM,aw,bb,a4⟩:=h.pZ v w;refine⟨j,r,bM,aw,?_,a4⟩;dsimp only[bV.bare];grind;dsimp only[bV.bare]at d;have w:=hold d;rw[W w]at d;obtain⟨v,hv,bM,aw⟩:=h.qW j r d a3;refine⟨b0.sV t v,(N.mem _).2 ⟨v,hv,λe=>?_,rfl⟩,bM,aw⟩;have:=h.ep.bC.inj hv C e;subst this;exact w ⟨sP aE.ok (aE.mW d).1 aT (bM.symm.trans O),by omega⟩;dsimp only[bV.bare];rw[W (λe=>a1 (by rw[<-e.1,<-e.2];exact d))];exact h.kh j r d;dsimp only[bV.bare];intro j r k q Z ah P aq ar V;obtain⟨aB,w,a0,rfl⟩:=(N.mem u).1 hu;obtain⟨v0,aI,a9,rfl⟩:=(N.mem v).1 hv;have g1:=hold P;have g2:=hold V;rw[W g1]at P⊢;rw[W g2]at V⊢;dsimp only[b0.sV]at H Z ah aq ar;by_cases e:aB.par=t.id;rw[az e]at H;have a5:=h.gi aB w t C e j r i s Z ah P O E av;have a2:=h.gi t C v0 aI H i s k q O E av aq ar V;omega;rw[al e]at H;exact h.gi aB w v0 aI H j r k q Z ah P aq ar V
theorem c8.obj(h:c8 X D)(aE:cm X.A){bl:bV}(E:bl.aJ=X.A.aJ)(H:∀i s,X.A.aJ i s≠0->au bl.l i=au X.A.l i)(ah:cm bl)(aq:X.A.np<=bl.np):c8 ⟨bl,X.L,X.last⟩ D:=by refine⟨h.ep,λt N=>?_,λj r d Z=>?_,λj r d=>by dsimp only;rw[E];exact h.kh j r d,λt N u hu Q=>?_,by have:=h.dn;dsimp only;omega⟩;obtain⟨j,r,bM,ar,av,aw⟩:=h.pZ t N;grind;dsimp only at d⊢;rw[E]at d;rw[H j r d];exact h.qW j r d Z;dsimp only;intro j r k q O V w P W C;rw[E]at w C⊢;rw[H j r w]at O;rw[H k q C]at P;exact h.gi t N u hu Q j r k q O V w P W C
end
def fB(A:bV)(h s:Int):Nat×Nat×Int:=if(bW A.l h 2).2≠0 then(0,0,(bW A.l h 2).2)else if ¬(0<=s/\s<256)then(0,0,2)else if e5 A (bo h) s=0 then(0,0,6)else(iI (e5 A (bo h) s),kf (e5 A (bo h) s),0)
structure fx(A bl:bV)(n:Nat):Prop where
  l:bl.l=A.l
  z:bl.a8=A.a8
  q:bl.q=A.q/\bl.now=A.now/\bl.pd=A.pd
  o:bl.own=A.own
  n:A.np<=bl.np/\bl.np<=A.np+n
theorem fx.refl(A:bV)(n:Nat):fx A A n:=⟨rfl,rfl,⟨rfl,rfl,rfl⟩,rfl,by omega⟩
variable{A:bV}
theorem fx.trans{B C:bV}{n m:Nat}(h:fx A B n)(k:fx B C m):fx A C (n+m):=⟨k.l.trans h.l,k.z.trans h.z,⟨k.q.1.trans h.q.1,k.q.2.1.trans h.q.2.1,k.q.2.2.trans h.q.2.2⟩,k.o.trans h.o,by have:=h.n;have:=k.n;omega⟩
theorem fx.mono{B:bV}{n m:Nat}(h:fx A B n)(k:n<=m):fx A B m:=⟨h.l,h.z,h.q,h.o,by have:=h.n;omega⟩
theorem IV(ay af top:Nat)(X:ch)(h s:Int)(C:0<=h/\h<=4294967295):bz 57 [ae ay,aS h,aa s] cW [di ay af top X] (.tuple #[.agg #[aS ((fB X.A h s).1:Int),aa ((fB X.A h s).2.1:Int)],aa (fB X.A h s).2.2]) [di ay af top X]:=by
 apply aI Tryz.func57 Tryz.ntmps57;intro F E;apply J [1];haveI:cl F:=⟨E⟩;refine J [25,240] ?_;intro be;apply J [28,35];by_cases d:(bW X.A.l h 2).2=0;rw[show fB X.A h s=if ¬(0<=s/\s<256)then(0,0,2)else if e5 X.A (bo h) s=0 then(0,0,6)else(iI (e5 X.A (bo h) s),kf (e5 X.A (bo h) s),0)from al (λbO=>bO d)];refine e rfl ?_;apply ba (ph ay af top X h C d);intro aP _;refine J [18,181] ?_;intro cj;apply J [86,222,49,140];apply aq (rf s);apply J [9];by_cases u:0<=s/\s<256;rw[c1 u,al (λbO=>bO u)];apply J [234,23,116,27];apply aq (oz ay af top X aP h C d s);refine J [9,229] ?_;intro H;apply J [77,104,83,394,3];apply Ve rfl<;>intro N;have w:e5 X.A (bo h) s=0:=U
 simp only[az w];apply J [24,65,77,120];exact kX;have w:e5 X.A (bo h) s≠0:=U
 simp only[al w];apply J [4,24,167,77,30];exact kX;rw[db u,az u];apply J [64,36,76,65,77,28,154];exact kX;rw[show fB X.A h s=(0,0,(bW X.A.l h 2).2)from az d];refine e rfl ?_;apply aq (ri ay af top X h C d);refine J [8,181] ?_;intro bA;apply J [86,222];refine Ve rfl (λD=>?_) (λD=>absurd (d) D);apply J [24,65,2,77,28,154];exact kX
theorem Ns{l:List av.b3}{k:Nat}{p:av.b3}{dz:av.fi}{g0:Int}(w:l[k]? =some ⟨dz,0,g0⟩){h:Int}(d:0<=h)(u:(av.cV l h).2=0):av.cV (l.set k p) h=av.cV l h:=by grind[oU,av.cV,pW]
theorem Gv{l:List av.b3}{k:Nat}{p:av.b3}{dz:av.fi}{g0:Int}(w:l[k]? =some ⟨dz,0,g0⟩){h n:Int}(d:0<=h)(u:(bW l h n).2=0):bW (l.set k p) h n=bW l h n:=by grind[bW,Ns]
theorem NQ{l:List av.b3}{k i:Nat}{p:av.b3}(h:i≠k):au (l.set k p) i=au l i:=by rw[au,au,Wj λe=>h e.symm]
theorem zR{l:List av.b3}(u:av.dQ l){k:Nat}{o dz:av.fi}{g:Int}(d:l[k]? =some ⟨dz,0,g⟩):av.cV (l.set k ⟨o,1,g⟩) (g*256+k)=(o,0):=by have w:=w9 (l:=l.set k ⟨o,1,g⟩) (p:=⟨o,1,g⟩) (u.lt d) (VX (Vl.1 d).1);grind[av.cV]
def CH(top:Nat)(X:ch)(h s fP k lim:Int):Prop:=(bW X.A.l h 2).2≠0\/¬(0<=s/\s<256)\/¬(k=8\/1<=k/\k<=5)\/((s<128)↔k=8)\/e5 X.A (bo h) s≠0\/ro top X.A (bQ X.A h)\/∃Q,rS X.A (bQ X.A h) Q/\qm top (X.A.lay (bo h) s.toNat (dC 0 15) Q) fP k lim
def qn(top:Nat)(X:ch)(h s fP k lim:Int)(y:ch×Int×Int):Prop:=
  (y.2.2≠0/\y.2.1=0/\fx X.A y.1.A 4/\c8 y.1 ek/\CH top X h s fP k lim)\/
  (y.2.2=0/\c8 y.1 ek/\(0<=y.2.1/\y.2.1<=4294967295)/\(0<=s/\s<256)/\∃(c x wT:Nat) (f g:Int) (dz:av.fi),k=c/\jE c/\X.A.l[wT]? =some ⟨dz,0,g⟩/\X.A.l.findIdx? av.isEmpty=some wT/\y.2.1=g*256+wT/\y.1.A.l=X.A.l.set wT ⟨bD c x f,1,g⟩/\y.1.A.a8=X.A.a8/\y.1.A.q=X.A.q/\y.1.A.now=X.A.now/\y.1.A.pd=X.A.pd/\X.A.np<=y.1.A.np/\y.1.A.np<=X.A.np+4/\y.1.A.aJ=fm X.A.aJ (bo h) s.toNat (dC y.2.1.toNat 15)/\(c≠1->∃Q,rS X.A (bQ X.A h) Q/\y.1.A.Q=(aD.dd Q (X.A.own (fP %256).toNat:Int) (bL c)).1/\y.1.A.own=X.A.own))
theorem jK.refl{Q:List aD.b1}{d:Int}(h:aD.eU Q d)(f:Int):jK Q Q d f 0:=⟨h,λ_=>Iff.rfl,λx _=>by split<;>omega,λ_=>rfl⟩
theorem cm.set(h:cm A){i a s w:Nat}{f:Int}(u:cH A.l i 1 (bD 2 a f))(hs:s<256)(d:A.aJ i s≠0)(hw:pD A w):cm (A.set i s w):=by have E:w≠0:=(by obtain⟨x,r,rfl,_,H,N,_⟩:=hw;grind[jg]);have D:=Ti (e:=A.aJ i) (e':=fm A.aJ i s w i) hs d (by rw[il];exact E) λr C=>kW C;exact h.ub u hs (jK.refl h.ee f) (by rw[D];omega) (.inr hw) ⟨Vj _,h.bd.2.2⟩
variable{top:Nat}
theorem na{S:cD}(aQ:cg top A S){h:Int}(d:0<=h)(e:(bW A.l h 2).2=0):au A.l (bo h)=h:=by obtain⟨_,g,u,w⟩:=ma aQ d e;rw[rJ w];exact u.symm
def tZ(i s:Nat):Nat->Nat->Prop:=λj r=>j=i/\r=s
theorem cm.vm(h:cm A){n:Nat}(d:A.np<=n)(u:n<=1000000):cm {A with np:=n}:=⟨h.ok,h.ee,h.rt,h.ac,h.c3,h.nu,h.aJ,h.hN,h.mD,h.oj,h.ol,h.m6,h.pd,by have:=h.bd;dsimp only;omega⟩
theorem w4{i s w:Nat}{f:Int}{y:Int×bV}(h:vC top A i s w f y)(d:y.1=0):∃Q,y.2=A.lay i s w Q/\rS A f Q:=by rcases h with⟨_,h⟩|⟨h,_⟩;all_goals trivial
theorem w5{i s w:Nat}{f:Int}{y:Int×bV}(h:vC top A i s w f y)(d:y.1≠0):y.2={A with np:=A.np+2}/\ro top A f:=by rcases h with⟨h,_⟩|⟨_,h⟩;all_goals trivial
theorem fx.up(A:bV){n m:Nat}(h:n<=m):fx A {A with np:=A.np+n} m:=⟨rfl,rfl,⟨rfl,rfl,rfl⟩,rfl,by dsimp only;omega⟩
theorem R3(h:cm A):(av.cV A.l ((0:Nat):Int)).2=0:=by obtain⟨⟨a,d⟩,_⟩:=h.rt;have:=w9 (i:=0) an d;grind[av.cV]
theorem IW(ay af top:Nat)(X:ch)(h s N k lim:Int)(V:0<=h/\h<=4294967295)(dh:0<=N/\N<=4294967295)(O:c8 X ek)(dN:X.A.np+4<=1000000):bK 141 [ae ay,aS h,aa s,aS N,aa k,aa lim] cW [di ay af top X] (λy:ch×Int×Int=>.tuple #[aS y.2.1,aa y.2.2]) (λy=>qn top X h s N k lim y) (λy=>[di ay af top y.1]):=by
 apply aI Tryz.func141 Tryz.ntmps141;intro F cL;apply J [1];haveI:cl F:=⟨cL⟩;refine ab.lT 0 rfl (λaT=>?_);obtain⟨⟨dA,dB⟩,_⟩:=aT;apply J [220,35];by_cases Z:(bW X.A.l h 2).2=0;·refine e rfl ?_;apply ba (ph ay af top X h V Z);intro aP _;refine J [8,181] ?_;intro bA;apply J [86,202,116,27];apply aq (oz ay af top X aP h V Z s);refine J [18,229] ?_;intro cj;apply J [77,104,51,140];apply aq (rf s);apply J [9];by_cases a1:0<=s/\s<256;(·rw[c1 a1];apply J [234,140];apply aq (Uo k);apply J [9];by_cases bl:k=8\/1<=k/\k<=5;(·rw[c1 bl];apply J [64,20,272];apply aq (se s);apply J [9,17,155];refine c9 rfl rfl rfl (zx rfl rfl rfl) ?_;apply J [211];apply Ve rfl<;>intro cQ;apply J [182];exact cT (X,0,1) (.inl ⟨(show(1:Int)≠0 by decide),rfl,fx.refl _ _,O,.inr (.inr (.inr (.inl (by simpa using cQ))))⟩) ai;apply J [83,36];apply Ve rfl<;>intro cU;apply J [182];exact cT (X,0,7) (.inl ⟨(show(7:Int)≠0 by decide),rfl,fx.refl _ _,O,.inr (.inr (.inr (.inr (.inl (by simpa using cU)))))⟩) ai;obtain⟨dV,rfl⟩:∃n:Nat,s=(n:Int):=⟨s.toNat,(V6 a1.1).symm⟩;(have H:dV<256:=by omega);have b1:X.A.aJ (bo h) dV=0:=(by grind[j4]);apply J [210,265,2,65];refine aW.dk 2 rfl hG (λaT=>?_);obtain⟨W,dq,dH⟩:=aT;refine e rfl ?_;apply ba (yj ay af top X aP h V Z dV H b1 0 15 an an (R3 W) U);intro⟨cu,du⟩ ce;apply J [9];dsimp only;apply J [127];apply Ve rfl<;>intro he;obtain⟨bO,cH⟩:=w5 ce he;dsimp only at bO;subst bO;have cM:c8 ⟨{X.A with np:=X.A.np+2},X.L,X.last⟩ ek:=O.obj W rfl (λ_ _ _=>rfl) (W.vm (Vt _ _) U) (Vt _ _);apply J [190];exact cT (⟨{X.A with np:=X.A.np+2},X.L,X.last⟩,0,cu) (.inl ⟨he,rfl,fx.up _ an,cM,.inr (.inr (.inr (.inr (.inr (.inl cH)))))⟩) ai;obtain rfl:cu=0:=Vf he;obtain⟨Q,bO,cf⟩:=w4 ce rfl;dsimp only at bO;subst bO;have cb:c8 ⟨X.A.lay (bo h) dV (dC 0 15) Q,X.L,X.last⟩ (tZ (bo h) dV):=O.lay W (by have:=V;rw[bo];omega) b1 (jg an an).2 (Vt _ _) (λj r=>⟨λh=>.inr h,λh=>h.elim (λh=>h.elim) id⟩);apply ab.open 1 rfl;rintro⟨aK,bt⟩-;apply J [247];dsimp only;refine ab.lT 1 rfl (λaT=>?_);obtain⟨⟨_,_,cr⟩,dI,a3⟩:=aT;apply J [4,41,125,27];apply ba (Dz aK af top (X.A.lay (bo h) dV (dC 0 15) Q) N dh k lim (by dsimp only[bV.lay];omega));intro⟨d,aw,cu⟩ bN;apply J [15];dsimp only;apply J [124,32];apply Ve rfl<;>intro cw;(·have bk:aw=0/\Gi (X.A.lay (bo h) dV (dC 0 15) Q) d/\qm top (X.A.lay (bo h) dV (dC 0 15) Q) N k lim:=(by rcases bN with⟨bO,_⟩|⟨_,bO⟩;all_goals simp_all);obtain⟨rfl,cz,a5⟩:=bk;have cF:d.l=X.A.l/\d.aJ=fm X.A.aJ (bo h) dV (dC 0 15)/\d.a8=X.A.a8/\d.own=X.A.own/\(d.q=X.A.q/\d.now=X.A.now/\d.pd=X.A.pd)/\X.A.np+2<=d.np/\d.np<=X.A.np+4:=(by rcases cz with bO|bO;all_goals grind[bV.lay]);obtain⟨cA,lk,dp,dr,ds,dt,dY⟩:=cF;(have bg:(bW d.l h 2).2=0:=by simp_all);have b4:cm d:=(by rcases cz with bO|bO;simp_all;rw[bO];exact a3.vm (Vt _ _) (by dsimp only[bV.lay];omega));have bi:c8 ⟨d,X.L,X.last⟩ (tZ (bo h) dV):=cb.obj a3 (by rw[lk];rfl) (λi s _=>by rw[cA];rfl) b4 dt;(have aD:d.aJ (bo h) dV≠0:=by rw[lk,il];exact(jg an an).2);(have a2:bQ d h=bQ X.A h/\cI d h=cI X.A h:=by grind[bQ,cI]);refine WE (B:=ag [aj aP 163 [ae af,aa (bQ X.A h),aa (cI X.A h:Int)],di ay af top ⟨d,X.L,X.last⟩,aj bA 150 [ae aP,aS h,aa (bQ X.A h)],F]) (cZ (aA (bT.mk aK bt:bT) trivial ai)) ?_;rw[<-a2.1,<-a2.2];apply J [265,27];apply ba (Ch ay af top ⟨d,X.L,X.last⟩ aP h V bg dV H aD);intro dv a4;apply J [18];obtain⟨bL,rfl⟩:=a4;have a9:c8 ⟨d.bare (bo h) dV bL,X.L,X.last⟩ ek:=bi.IC (i:=bo h) (s:=dV) b4 ⟨rfl,rfl⟩ (λj r=>⟨λh=>h.elim,λh=>h.2 h.1⟩);apply J [3,190];exact cT (⟨d.bare (bo h) dV bL,X.L,X.last⟩,0,cu) (.inl ⟨cw,rfl,⟨cA,dp,ds,dr,by dsimp only[bV.bare];omega⟩,a9,.inr (.inr (.inr (.inr (.inr (.inr ⟨Q,cf,a5⟩)))))⟩) ai);obtain rfl:cu=0:=Vf cw;have bk:vD (X.A.lay (bo h) dV (dC 0 15) Q) N k lim d aw:=(by rcases bN with⟨_,bO,_⟩|⟨bO,_⟩;all_goals simp_all);obtain⟨ct,c,x,bh,g,dz,dw,dZ,d0,c6,cP,cx,jO,co,D,cg⟩:=bk;have bn:X.A.l[bh]? =some ⟨dz,0,g⟩:=cx;(have bz:d.l=X.A.l.set bh ⟨bD c x (((X.A.lay (bo h) dV (dC 0 15) Q).own (N %256).toNat:Nat):Int),1,g⟩:=by rw[D];rfl);(have aD:d.aJ=fm X.A.aJ (bo h) dV (dC 0 15):=by rw[D];rfl);(have dW:bW d.l h 2=bW X.A.l h 2:=by grind[Gv]);(have bg:(bW d.l h 2).2=0:=by simp_all);(have a2:bQ d h=bQ X.A h/\cI d h=cI X.A h:=by grind[bQ,cI]);(have dQ:av.cV d.l aw=(bD c x (((X.A.lay (bo h) dV (dC 0 15) Q).own (N %256).toNat:Nat):Int),0):=by rw[bz,co];exact zR W.ok bn);obtain⟨u,rfl⟩:∃n:Nat,aw=(n:Int):=⟨aw.toNat,(V6 ct.1).symm⟩;have c5:=W.lt bn;dsimp only at c5;(have cq:u<4294967295:=by omega);(have cR:pD d (dC u 15):=by grind[pD]);have de:=jg (h:=0) (r:=15) an an;(have ah:d.aJ (bo h) dV≠0:=by rw[aD,il];exact de.2);apply ab.open 0 rfl;rintro⟨am,bx,w⟩ ⟨E,ar⟩;apply J [314];dsimp only at E ar⊢;have bi:c8 ⟨d,X.L,X.last⟩ (tZ (bo h) dV):=cb.obj a3 (by rw[aD];rfl) (λi s bO=>by obtain⟨_,⟨a,f,cC⟩,_⟩:=a3.aJ i s bO;have df:i≠bh:=λe=>(by subst e;exact absurd (cC.inj ⟨g,cx⟩).1 an);rw[bz];exact NQ df) ar (by rw[D];dsimp only[bV.lay];omega);obtain⟨bb,_⟩:=ma E V.1 bg;obtain⟨ck,a5⟩:=E.gV _ _ _ bb;have dD:=(a5 dV H).1;have dK:=c7.bd E.P ((a5 dV H).2 ah);have dX:2^top<=128:=Vi (n:=2) an E.P.fZ.2;have dd:=E.fJ bb H ah;have a0:=jg (h:=u) (r:=15) cq an;have c0:=na E V.1 bg;rw[<-a2.1,<-a2.2];apply J [4,99,27];apply aq (qa aP af top (bQ d h) (cI d h) w E.P ck dV H);apply J [68,124];refine cJ [0,1,2,3,4,6,-5,-7] (show aG (ag _) (ag [aj bA 150 [ae aP,aS h,aa (bQ d h)]])from ai) ?_;apply J [110,16,16,445,239];apply aq (Ci u 15 cq an);refine J [249,47] ?_;apply aq (B6 aP af top (bQ d h) (cI d h) w E.P ck dV H (dC u 15) (dF w.m (cI d h) dV) a0.1 U a0.2 dd);refine J [275] ?_;obtain⟨gm,bM⟩:∃gm:cD,gm=⟨w.Q,w.bF,w.C,w.Fr,dx w.m (br w.m (cI d h) (dV/16)+dV %16*16) [dC u 15,dF w.m (cI d h) dV]⟩:=⟨_,rfl⟩;rw[<-bM];have cN:=E.tf ar.ok bb H ah a0.2 a0.1 bM;have a4:=ar.set bb H ah cR;have a9:=bi.set ar ah a0.2 (.inl ⟨rfl,rfl⟩);have dR:=a9.dn;(have dU:d.np=X.A.np+4:=by rw[D];rfl);have dS:X.last<=X.A.np:=O.dn;obtain⟨dl,cc⟩:=a9.add (i:=bo h) (s:=dV) (par:=0) a4 ⟨rfl,rfl⟩ (.inl rfl) (D':=ek) (λj r=>⟨λh=>h.elim,λh=>h.2 h.1⟩) (by show X.last+1<=((d.set (bo h) dV (dC u 15)).np:Int);dsimp only[bV.set];omega);have c2:au (d.set (bo h) dV (dC u 15)).l (bo h)=h:=c0;have dL:=W.bd;rw[c2]at dl cc;have cS:(d.set (bo h) dV (dC u 15)).aJ=fm X.A.aJ (bo h) ((dV:Int)).toNat (dC ((u:Int)).toNat 15):=(by dsimp only[bV.set];rw[aD];grind[fm]);refine J [52,87,230,27] ?_;apply aq (b0.wu bt X.L X.last 0 h (dV:Int) U);apply J [68,3,26,95];exact cT (⟨d.set (bo h) dV (dC u 15),(b0.gZ X.L X.last 0 (h,(dV:Int))).1,(b0.gZ X.L X.last 0 (h,(dV:Int))).2.1⟩,(u:Int),0) (.inr ⟨rfl,cc,ct,a1,c,x,bh,_,g,dz,c6,cP,bn,jO,co,bz,by rw[D];rfl,by rw[D];rfl,by rw[D];rfl,by rw[D];rfl,by dsimp only[bV.set];omega,by dsimp only[bV.set];omega,cS,λb3=>⟨Q,cf,by rw[D];exact(cg b3).1,by rw[D];exact(cg b3).2.2⟩⟩) (aA (bT.mk aK bt:bT) trivial (bU 6 rfl (aA (⟨am,bx,gm⟩:eE) ⟨cN,a4⟩ ai))));rw[db bl];apply J [64,20,105,169,76,119];exact cT (X,0,1) (.inl ⟨(show(1:Int)≠0 by decide),rfl,fx.refl _ _,O,.inr (.inr (.inl bl))⟩) ai);rw[db a1];apply J [64,36,76,119];exact cT (X,0,2) (.inl ⟨(show(2:Int)≠0 by decide),rfl,fx.refl _ _,O,.inr (.inl a1)⟩) ai
 refine e rfl ?_;apply aq (ri ay af top X h V Z);refine J [5,181] ?_;intro be;apply J [86,32];refine Ve rfl (λcn=>?_) (λcn=>absurd (Z) cn);apply J [190];exact cT (X,0,(bW X.A.l h 2).2) (.inl ⟨Z,rfl,fx.refl _ _,O,.inl Z⟩) ai
end Go.Proofs.Q
namespace Go.QM
open Go
theorem Ky:∀a:Nat,a<16->∀b:Nat,b<16->IntKind.i64.wrap (VW IntKind.i64.bits (a:Int)&&&~~~VW IntKind.i64.bits (b:Int)).toNat=((a-(a&&&b):Nat):Int):=by decide+kernel
section
variable {P : Program} {ah : Env} {A : aw} {d : Option Nat} {ty : TypeId} {ps : String} {bk : Array Edge} {g : Option (Nat × Bool)} {t t' : TypeId} {x y : Operand} {a b c n : Nat}
theorem Kz(C:bh ah x=aa a)(D:bh ah y=aa b)(u:a<16)(am:b<16):
    bG P ah ⟨d,.binOp .andNot t x y t',ty,ps,bk,g⟩ A (aa ((a-(a&&&b):Nat):Int)):=λw _=>by
  have h:=Ky a u b am
  simp[execOp,C,D,eqGuard,binOp,Op.intBits]
  simpa using h
end
end Go.QM
open Go.QM.ab renaming dk->Wq
open Go.QM.bG renaming to->Wp
namespace Go.Proofs.Q
open Go Go.QM
variable [dL] [fa]
theorem x3{A:bV}(aE:cm A){i a:Nat}{f:Int}(w:cH A.l i 1 (bD 2 a f)):(0<=au A.l i/\au A.l i<=4294967295)/\(bW A.l (au A.l i) 2).2=0/\bo (au A.l i)=i:=by have C:=w.lt aE.ok;obtain⟨D,E,H⟩:=EI aE.ok C;refine⟨⟨D,E⟩,?_,H⟩;obtain⟨g,u⟩:=w;have d:=w9 C u;dsimp only at d;rw[rJ u,o5 (by rw[av.cV,d];rfl),av.cV,d]
def sx(X:ch)(t:b0.Fn)(m:Nat)(y:Bool×ch):Prop:=∃i s h r:Nat,t.dH=au X.A.l i/\t.ck=(s:Int)/\X.A.aJ i s=dC h r/\(1<=r/\r<=15)/\h<4294967295/\i<256/\s<256/\
  ((y.1=true/\r-(r&&&m)=0/\∃Q,y.2=⟨X.A.bare i s Q,b0.kn X.L t.id,X.last⟩)\/(y.1=false/\r-(r&&&m)≠0/\y.2=⟨X.A.set i s (dC h (r-(r&&&m))),X.L,X.last⟩))
theorem sx.de{X:ch}{t:b0.Fn}{m:Nat}{y:Bool×ch}(h:sx X t m y)(aE:cm X.A)(u:c8 X ek)(N:t∈X.L):c8 y.2 ek/\fx X.A y.2.A 0/\y.2.A.np=X.A.np:=by
 obtain⟨i,s,x,r,w,C,O,D,E,_,_,h⟩:=h;have V:r<=15:=D.2;have d:X.A.aJ i s≠0:=by grind[jg]
 rcases h with⟨_,_,Q,e⟩|⟨_,P,e⟩;rw[e];exact⟨u.lift aE d N w C,⟨rfl,rfl,⟨rfl,rfl,rfl⟩,rfl,Vj _,Vj _⟩,rfl⟩;rw[e];have H:r-(r&&&m)<=15:=U
 refine⟨u.set aE d (jg E H).2 (.inr ?_),⟨rfl,rfl,⟨rfl,rfl,rfl⟩,rfl,Vj _,Vj _⟩,rfl⟩;grind[kg]
theorem UB(ay af top:Nat)(X:ch)(H:c8 X ek)(t:b0.Fn)(bb:t∈X.L)(m:Nat)(hm:1<=m/\m<=15):bK 120 [ae ay,aa t.id,aa m] cW [di ay af top X] (λy:Bool×ch=>.bool y.1) (λy=>sx X t m y) (λy=>[di ay af top y.2]):=by
 apply aI Tryz.func120 Tryz.ntmps120;intro F bh;apply J [1];haveI:cl F:=⟨bh⟩;refine Wq 0 rfl hG (λbl=>?_);obtain⟨E,dq,b3⟩:=bl;obtain⟨i,s,ar,av,D,_⟩:=H.pZ t bb;obtain⟨d,⟨a,f,w⟩,x,r,aw,a9,W,u,cc⟩:=E.aJ i s D;obtain⟨O,Z,bM⟩:=x3 E w;have a5:=w.lt E.ok;generalize a4:au X.A.l i=h at*;have bL:b0.p2 X.L t.id=(h,(s:Int),true):=by rw[b0.p2,b0.wy H.ep.bC bb];dsimp only;rw[ar,av]
 have bz:X.L.length<=1000000:=by have:=H.ep.len;have:=H.dn;have:=E.bd;omega
 subst bM;apply ab.open 0 rfl;rintro⟨aK,bt⟩-;apply J [61];dsimp only;apply J [132,87,27];apply aq (b0.Nh bt X.L X.last t.id);apply J [18];rw[bL];dsimp only;refine J [282,299,48,185,35,484] ?_;refine aW.bf (B:=ag [di ay af top X,F]) (aA (bT.mk aK bt:bT) trivial ai) ?_;refine e rfl ?_;apply ba (ph ay af top X h O Z);intro aP _;refine J [8,181] ?_;intro be;apply J [86,202,116,27];apply aq (oz ay af top X aP h O Z (s:Int));apply J [18];rw[j4 d,aw,(kg (r:=r) u).1,(kg (r:=r) u).2,al (jg u W).2,al (jg u W).2];refine J [229] ?_;intro bA;apply J [266,264,2];refine q rfl rfl (Kz (a:=r) (b:=m) rfl rfl U U) ?_;apply J [407,208,29,264,344];apply Ve rfl<;>intro N;have N:r-(r&&&m)≠0:=U
 have a3:r-(r&&&m)<=15:=U
 have bk:pD X.A (dC x (r-(r&&&m))):=by grind[pD]
 have V:=jg (r:=r-(r&&&m)) u a3;apply ab.open 2 rfl;rintro⟨aK,bt⟩-;apply J [247];dsimp only;apply ab.open 1 rfl;rintro⟨am,bx,S⟩ ⟨aQ,aE⟩;apply J [314];dsimp only at aQ aE⊢;obtain⟨w,cb⟩:=ma aQ O.1 Z;obtain⟨a2,a1⟩:=aQ.gV _ _ _ w;have b1:=(a1 s d).1;have bg:=(a1 s d).2 D;have b4:=c7.bd aQ.P bg;have ce:2^top<=128:=Vi (n:=2) an aQ.P.fZ.2;have bn:=aQ.fJ w d D;apply J [99,27];apply aq (qa aP af top (bQ X.A h) (cI X.A h) S aQ.P a2 s d);apply J [68,124];refine cJ [0,1,2,3,5,-4,-6] (show aG (ag _) (ag [aj be 150 [ae aP,aS h,aa (bQ X.A h)],aj bA 39 [aS x,aa ((r-(r&&&m):Nat):Int)]])from ai) ?_;apply J [110,16,251,239];apply aq (Ci x (r-(r&&&m)) u a3);refine J [249,47] ?_;apply aq (B6 aP af top (bQ X.A h) (cI X.A h) S aQ.P a2 s d (dC x (r-(r&&&m))) (dF S.m (cI X.A h) s) V.1 U V.2 bn);refine J [275] ?_;obtain⟨ah,a0⟩:∃ah:cD,ah=⟨S.Q,S.bF,S.C,S.Fr,dx S.m (br S.m (cI X.A h) (s/16)+s %16*16) [dC x (r-(r&&&m)),dF S.m (cI X.A h) s]⟩:=⟨_,rfl⟩;rw[<-a0];have bi:=aQ.tf aE.ok w d D V.2 V.1 a0;have aD:=aE.set w d D bk;apply J [52,132,50];exact bv (false,⟨X.A.set (bo h) s (dC x (r-(r&&&m))),X.L,X.last⟩) ⟨bo h,s,x,r,ar.trans a4.symm,av,aw,⟨a9,W⟩,u,a5,d,.inr ⟨rfl,N,rfl⟩⟩ (aA (bT.mk aK bt:bT) trivial (eI (aA (⟨am,bx,ah⟩:eE) ⟨bi,aD⟩ ai)));have N:r-(r&&&m)=0:=U
 apply ab.open 2 rfl;rintro⟨aK,bt⟩-;apply J [247];dsimp only;apply J [4,87,27];apply aq (b0.Et bt X.L X.last t.id bz);apply J [15,3,265,2];refine aW.bf (B:=ag [aj aP 163 [ae af,aa (bQ X.A h),aa (cI X.A h:Int)],di ay af top ⟨X.A,b0.kn X.L t.id,X.last⟩,F]) (eT (aA (bT.mk aK bt:bT) trivial ai)) ?_;refine e rfl ?_;apply ba (Ch ay af top ⟨X.A,b0.kn X.L t.id,X.last⟩ aP h O Z s d D);intro bV aD;apply J [8];obtain⟨aT,rfl⟩:=aD;apply J [93,88];exact bv (true,⟨X.A.bare (bo h) s aT,b0.kn X.L t.id,X.last⟩) ⟨bo h,s,x,r,ar.trans a4.symm,av,aw,⟨a9,W⟩,u,a5,d,.inl ⟨rfl,N,aT,rfl⟩⟩ ai
end Go.Proofs.Q
namespace Go.Proofs.Q
open Go Go.QM
variable [dL] [fa]
theorem ur(xs d:List Int):ints xs++ints d=ints (xs++d):=by simp[ints]
theorem Qk{α β:Type}{f:α->β}(u:∀a b,f a=f b->a=b){l:List α}(h:l.Nodup):(l.map f).Nodup:=List.pairwise_map.2 (h.imp λd e=>d (u _ _ e))
def vr(m w:Nat):Nat:=if kf w-(kf w&&&m)=0 then 0 else dC (iI w) (kf w-(kf w&&&m))
def n9(X:ch)(l:List Int)(i s:Nat):Prop:=i<256/\∃t∈X.L,t.id∈l/\t.dH=au X.A.l i/\t.ck=(s:Int)
structure k4(X:ch)(l:List Int)(m n:Nat)(Y:ch):Prop where
  de:c8 Y ek
  ck:fx X.A Y.A 0
  nq:∀i s,¬n9 X l i s->Y.A.aJ i s=X.A.aJ i s
  sJ:∀i s,n9 X l i s->Y.A.aJ i s=vr m (X.A.aJ i s)
  Fz:∀t∈X.L,t.id∉l->∃t'∈Y.L,t'.id=t.id/\t'.dH=t.dH/\t'.ck=t.ck
  lk:∀t'∈Y.L,∃t∈X.L,t'.id=t.id/\t'.dH=t.dH/\t'.ck=t.ck
  hl:n<=l.length/\(m=15->n=l.length)
  dn:Y.last=X.last
variable{A:bV}
theorem fx.Qq{B:bV}(h:fx A B 0):B.np=A.np:=by have:=h.n;omega
variable{X:ch}
theorem k4.nil(h:c8 X ek)(m:Nat):k4 X [] m 0 X:=⟨h,fx.refl _ _,λ_ _ _=>rfl,λi s h=>(by obtain⟨_,t,_,h,_⟩:=h;cases h),λt d _=>⟨t,d,rfl,rfl,rfl⟩,λt d=>⟨t,d,rfl,rfl,rfl⟩,⟨Vj _,λ_=>rfl⟩,rfl⟩
variable{m:Nat}
theorem sx.aJ{t:b0.Fn}{y:Bool×ch}(h:sx X t m y):∃i s h r:Nat,t.dH=au X.A.l i/\t.ck=(s:Int)/\X.A.aJ i s=dC h r/\(1<=r/\r<=15)/\h<4294967295/\i<256/\s<256/\y.2.A.aJ=fm X.A.aJ i s (vr m (X.A.aJ i s))/\y.2.last=X.last/\((y.1=true/\y.2.L=b0.kn X.L t.id)\/(y.1=false/\y.2.L=X.L/\r-(r&&&m)≠0)):=by obtain⟨i,s,x,r,D,E,C,H,u,N,O,h⟩:=h;refine⟨i,s,x,r,D,E,C,H,u,N,O,?_⟩;rw[C,vr,(kg u).1,(kg u).2];rcases h with⟨w,d,Q,e⟩|⟨w,d,e⟩;rw[e,az d];exact⟨rfl,rfl,.inl ⟨w,rfl⟩⟩;rw[e,al d];exact⟨rfl,rfl,.inr ⟨w,rfl,d⟩⟩
variable{s i:Nat}
theorem tr{e:Nat->Nat->Nat}{w j r:Nat}(h:¬(j=i/\r=s)):fm e i s w j r=e j r:=ls (by
 by_cases d:j=i
 ·exact .inr λu=>h ⟨d,u⟩
 exact .inl d)
theorem C4:∀r,r<=15->r&&&15=r:=by decide
variable{n:Nat}{Y Z:ch}
theorem k4.step{l:List Int}{b:Bool}(h:k4 X l m n Y)(W:c8 X ek)(aE:cm X.A)(aD:cm Y.A){t u:b0.Fn}(E:t∈X.L)(a0:t.id∉l)(hu:u∈Y.L)(he:u.id=t.id/\u.dH=t.dH/\u.ck=t.ck)(hw:sx Y u m (b,Z)):k4 X (l++[t.id]) m (if b then n+1 else n) Z:=by
 obtain⟨Q,V,aB⟩:=hw.de aD h.de hu;obtain⟨i,s,x,r,bM,N,a4,⟨dT,ba⟩,a5,ar,a9,D,av,C⟩:=hw.aJ;dsimp only at Q V aB D av C;rw[he.2.1,h.ck.l]at bM;rw[he.2.2]at N;have qc:∀{j q:Nat},j<256->(∃v∈X.L,v.id=t.id/\v.dH=au X.A.l j/\v.ck=((q:Nat):Int))->j=i/\q=s:=λ{j q} d ⟨v,hv,a,b,c⟩=>(by have:v=t:=W.ep.bC.inj hv E a;subst this;exact⟨sP aE.ok d ar (b.symm.trans bM),by omega⟩);have ah:∀{j q},n9 X (l++[t.id]) j q↔n9 X l j q\/(j=i/\q=s):=λ{j q}=>(by constructor;rintro⟨d,v,hv,a,b,c⟩;rcases Vd.1 a with a|a;exact .inl ⟨d,v,hv,a,b,c⟩;exact .inr (qc d ⟨v,hv,Vc.1 a,b,c⟩);rintro(⟨d,v,hv,a,b,c⟩|⟨rfl,rfl⟩);exact⟨d,v,hv,Vd.2 (.inl a),b,c⟩;exact⟨ar,t,E,by simp,bM,N⟩);have aT:¬n9 X l i s:=λ⟨d,v,hv,a,b,c⟩=>(by have:v=t:=W.ep.no.inj hv E (Prod.ext (b.trans bM.symm) (c.trans N.symm));simp_all);refine⟨Q,(h.ck.trans V).mono (Vj _),λj q d=>?_,λj q d=>?_,λv hv a1=>?_,λv hv=>?_,?_,av.trans h.dn⟩;have aI:¬(j=i/\q=s):=b6
 rw[D,tr aI];exact h.nq j q λe=>d (ah.2 (.inl e));by_cases e:j=i/\q=s;obtain⟨rfl,rfl⟩:=e;rw[D,il,h.nq _ _ aT];rw[D,tr e];exact h.sJ j q ((ah.1 d).resolve_right e);have aq:v.id∉l/\v.id≠t.id:=b6
 obtain⟨w,H,O,a2,a3⟩:=h.Fz v hv aq.1;rcases C with⟨_,e⟩|⟨_,e,_⟩;exact⟨b0.sV u w,by rw[e];exact((b0.AB h.de.ep hu).mem _).2 ⟨w,H,λP=>aq.2 (O.symm.trans (P.trans he.1)),rfl⟩,O,a2,a3⟩;grind;rcases C with⟨_,e⟩|⟨_,e,_⟩;rw[e]at hv;obtain⟨w,H,_,rfl⟩:=((b0.AB h.de.ep hu).mem _).1 hv;exact h.lk w H;rw[e]at hv;exact h.lk v hv;have:=h.hl;rw[mp,Vk];refine⟨by split<;>omega,λe=>?_⟩;have P:=this.2 e;rcases C with⟨aw,_⟩|⟨_,_,aw⟩;grind;grind[C4]
theorem k4.dc{l:List Int}(h:k4 X l m n Y):n<=l.length:=h.hl.1
variable(ay:Nat)
theorem yl(af top:Nat)(X:ch)(H:c8 X ek)(m:Nat)(hm:1<=m/\m<=15)(l:List Int)(av:∀x∈l,∃t∈X.L,t.id=x)(a9:l.Nodup)(a4:l.length<=1000001)(dc:Nat)(D:dc=l.length)(ad:Option Addr)(cap:Nat):bK 76 [ae ay,aa m,.slice ad dc cap] (λF=>cW F/\∃E,cQ F E ad (ints l)) [di ay af top X] (λy:Nat×ch=>aa y.1) (λy=>k4 X l m y.1 y.2) (λy=>[di ay af top y.2]):=by
 apply aI Tryz.func76 Tryz.ntmps76;intro F ⟨W,P,ah⟩;apply J [1];subst D;haveI:cl F:=⟨W⟩;haveI:bn F ad P (ints l):=⟨ah⟩;refine Wq 0 rfl hG (λC=>?_);obtain⟨Q,dq,a0⟩:=C;apply J [107,39,34,177];refine VK (ι:=Nat×Nat×ch) (λd=>d.1<=l.length/\k4 X (l.take d.1) m d.2.1 d.2.2) (λd=>[(0,ae ay),(1,aa m),(7,aa ((d.2.1:Nat):Int)),(10,.slice ad l.length cap),(11,aa ((l.length:Nat):Int)),(12,aa ((d.1:Nat):Int))]) (λd=>ag [di ay af top d.2.2,F]) (λd=>l.length-d.1) (0,0,X) ⟨Vh _,k4.nil H m⟩ bH ai ?_;rintro⟨k,n,Y⟩ ⟨ar,ax⟩ bd;dsimp only[cx]at ar ax⊢;have D:=ax.dc;rw[Wo]at D;have a3:n<=k:=U
 apply J [43];apply Ve rfl<;>intro a5;refine Wq 0 rfl hG (λC=>?_);obtain⟨V,aT,a1⟩:=C;have au:k<l.length:=U
 obtain⟨x,aD⟩:∃x,l[k]? =some x:=⟨l[k],Vb au⟩;obtain⟨t,N,rfl⟩:=av x (Vg aD);have O:t.id∉l.take k:=λbO=>(by grind[XP,List.getElem_inj]);obtain⟨u,hu,he⟩:=ax.Fz t N O;have aJ:l[k]? =some u.id:=b6
 have aw:l.take (k+1)=l.take k++[t.id]:=by grind[Vs]
 have bb:0<(ints l).length:=by grind[d7]
 have a2:k<(ints l).length:=by grind[d7]
 refine J [189] ?_;refine q rfl rfl (dG rfl rfl (hj aJ)) ?_;apply J [28,35,27];apply ba (UB ay af top Y ax.de u hu m hm);intro⟨ha,Z⟩ aq;apply J [5];have w:=ax.step H Q V N O hu he aq;rw[<-aw]at w;dsimp only;cases ha;refine J [106,114] ?_;exact⟨rfl,(k+1,n,Z),⟨by dsimp only;omega,w⟩,cy,bH,ai⟩;refine J [3,14,346,48,84] ?_;exact⟨rfl,(k+1,n+1,Z),⟨by dsimp only;omega,w⟩,cy,bH,ai⟩;obtain rfl:k=l.length:=U
 rw[VY]at ax;apply J [21,134];exact bv (n,Y) ax ai
theorem Uq(af top:Nat)(X:ch)(aP:Nat)(h s:Int)(d:0<=h/\h<=4294967295):bz 74 [ae ay,.agg #[ae aP,aS h,aa (bQ X.A h)],aa s] bg [di ay af top X] (aa (b0.hE X.L (h,s))) [di ay af top X]:=by apply aI Tryz.func74 Tryz.ntmps74;intro F _;refine J [286] ?_;rintro⟨aK,bt⟩-;apply J [61];dsimp only;refine J [25,295] ?_;intro be;apply J [31];refine cJ [0,1,2,3,4,5,6,7,-8,9] (show aG (ag _) (ag [aj be 150 [ae aP,aS h,aa (bQ X.A h)],aj ay 148 [ae aK,ae bt]])from ai) ?_;refine J [135,174,380,239] ?_;apply aq (b0.ww bt X.L X.last h s);refine J [302,143,147] ?_;exact fc (aA (bT.mk aK bt:bT) trivial ai)
def gx(e:Nat->Nat)(n:Nat):List Int:=((V8 n).filter λs=>decide (e s≠0)).map λs:Nat=>(s:Int)
theorem Sz{e:Nat->Nat}(h:e n≠0):gx e (n+1)=gx e n++[(n:Int)]:=by grind[gx,X7]
theorem Sy{e:Nat->Nat}(h:e n=0):gx e (n+1)=gx e n:=by grind[gx,X7]
theorem BI(e:Nat->Nat)(n:Nat):(gx e n).length<=n:=by grind[gx]
variable{x:Int}
theorem ti{e:Nat->Nat}:x∈gx e n↔∃s:Nat,x=s/\s<n/\e s≠0:=by simp only[gx,Vn,Vv,W1,decide_eq_true_eq];grind
theorem xQ{e e':Nat->Nat}(h:∀s,s<n->(e s≠0↔e' s≠0)):gx e n=gx e' n:=by rw[gx,gx];refine congrArg _ (List.filter_congr λs d=>?_);simp_all
theorem Sx(e:Nat->Nat)(n:Nat):(gx e n).Nodup:=by rw[gx];exact Qk (λa b h=>Int.ofNat.inj h) (List.nodup_range.filter _)
def h4(A:bV)(h:Int):List Int:=if(bW A.l h 2).2≠0 then[]else gx (A.aJ (bo h)) 256
def kP(A:bV)(h s m:Int):Int:=if(bW A.l h 2).2≠0 then(bW A.l h 2).2 else if ¬(0<=s/\s<256)then 2 else if ¬(0<m/\m<=15)then 1 else if e5 A (bo h) s=0 then 6 else 0
def q4(b:Bool)(x:Int):List Int:=if b then[x]else[]
def yG(X:ch)(h s m:Int)(self:Bool)(y:Nat×ch):Prop:=(kP X.A h s m≠0/\y=(0,X))\/(kP X.A h s m=0/\∃t∈X.L,t.dH=h/\t.ck=s/\k4 X (b0.hW X.L X.last t.id++q4 self t.id) m.toNat y.1 y.2)
theorem Kw(h:c8 X ek){t:b0.Fn}(d:t∈X.L):b0.hW X.L X.last t.id=b0.j2 X.L X.last t.id:=az ⟨t,d,rfl⟩
theorem Dg{X:ch}(h:c8 X ek){t:b0.Fn}(w:t∈X.L)(b:Bool):(∀x∈b0.hW X.L X.last t.id++q4 b t.id,∃u∈X.L,u.id=x)/\(b0.hW X.L X.last t.id++q4 b t.id).Nodup/\(b0.hW X.L X.last t.id).length<=X.L.length:=by
 refine⟨λx d=>?_,?_,b0.Kt h.ep _⟩;rcases Vd.1 d with d|d;exact(b0.Ku h.ep d).1;cases b with|false=>cases d|true=>exact⟨t,w,(Vc.1 d).symm⟩
 rw[Kw h w,VH];refine⟨b0.Df h.ep _,by cases b<;>simp[q4],λx d y C e=>?_⟩;have:=(b0.vU h.ep d).2.1;cases b with|false=>cases C|true=>rw[Vc.1 C]at e;omega
theorem x4(aP af top:Nat)(u:Int)(t:Nat)(S:cD)(D:dh top S)(E:gn top S t):bK 32 [ae aP] bg [aj aP 163 [ae af,aa u,aa t],dU af top S] (λy:Option Addr×Nat=>.slice y.1 (gx (dZ S.m t) 256).length y.2) (λ_=>True) (λy=>[a6 3 1 y.1 (gx (dZ S.m t) 256).length y.2 (ints (gx (dZ S.m t) 256)),aj aP 163 [ae af,aa u,aa t],dU af top S]):=by
 apply aI Tryz.func32 Tryz.ntmps32;intro F _;apply J [11,117,188,26,225];refine VK (ι:=Nat×Option Addr×Nat) (λs=>s.1<=256) (λs=>[(0,ae aP),(3,.slice s.2.1 (gx (dZ S.m t) s.1).length s.2.2),(7,aa ((s.1:Nat):Int))]) (λs=>ag [a6 3 1 s.2.1 (gx (dZ S.m t) s.1).length s.2.2 (ints (gx (dZ S.m t) s.1)),aj aP 163 [ae af,aa u,aa t],dU af top S,F]) (λs=>256-s.1) (0,none,0) (Vh _) bH ((dE 3 1 _).trans (ao (ao (ao (ao (a7 _)))))) ?_;rintro⟨n,ad,cap⟩ au Q;dsimp only[cx]at au⊢;have O:=BI (dZ S.m t) n;apply J [43];apply Ve rfl<;>intro P;have H:n<256:=U
 apply J [89,142,33];apply aq (qa aP af top u t S D E n H);apply J [18,282,173,32];apply Ve rfl<;>intro N;have d:=Sz (e:=dZ S.m t) (n:=n) U;refine J [112,90] ?_;intro be;refine e rfl ?_;refine ap 8 rfl rfl rfl rfl rfl (Vq rfl) (show _=ints [(n:Int)]from rfl) rfl U gv ?_;intro w C;refine J [60,84] ?_;exact⟨rfl,(n+1,w,C),cy,cy,⟨rfl,congrArg (λn=>VO _ n _) (by dsimp only;rw[d,mp];rfl),rfl,trivial⟩,(b9 0 rfl (by dsimp only;rw[d,ur,mp];rfl) ai)⟩;have d:=Sy (e:=dZ S.m t) (n:=n) U;refine J [114] ?_;exact⟨rfl,(n+1,ad,cap),cy,cy,⟨rfl,congrArg (λn=>VO _ n _) (by dsimp only;rw[d]),rfl,trivial⟩,(b9 2 rfl (by dsimp only;rw[d]) (ao (ao (ao (a7 _)))))⟩;obtain rfl:n=256:=U
 apply J [198,91];exact bv (ad,cap) trivial ai
theorem Uz(af top:Nat)(X:ch)(h:Int)(u:0<=h/\h<=4294967295):bK 33 [ae ay,aS h] cW [di ay af top X] (λy:Option Addr×Nat=>.slice y.1 (h4 X.A h).length y.2) (λ_=>True) (λy=>[a6 3 1 y.1 (h4 X.A h).length y.2 (ints (h4 X.A h)),di ay af top X]):=by
 apply aI Tryz.func33 Tryz.ntmps33;intro F C;apply J [1];haveI:cl F:=⟨C⟩;apply J [117,35];by_cases d:(bW X.A.l h 2).2=0;rw[show h4 X.A h=gx (X.A.aJ (bo h)) 256 from al (λbO=>bO d)];refine e rfl ?_;apply ba (ph ay af top X h u d);intro aP _;refine J [8,181] ?_;intro cj;apply J [86,202,99];apply aW.open 2 rfl;rintro⟨aK,bt⟩-;apply J [12];dsimp only;apply aW.open 1 rfl;rintro⟨am,bx,S⟩ ⟨aQ,aE⟩;apply J [22];dsimp only at aQ aE⊢;obtain⟨E,O⟩:=ma aQ u.1 d;obtain⟨D,N⟩:=aQ.gV _ _ _ E;have j6:gx (dZ S.m (cI X.A h)) 256=gx (X.A.aJ (bo h)) 256:=by grind[xQ]
 refine e rfl ?_;apply ba (x4 aP af top (bQ X.A h) (cI X.A h) S aQ.P D);intro H _;apply J [68];rw[j6];apply J [91];exact bv H trivial (ao (aA (bT.mk aK bt:bT) trivial (eI (aA (⟨am,bx,S⟩:eE) ⟨aQ,aE⟩ ai))));rw[show h4 X.A h=[]from az d];refine e rfl ?_;apply aq (ri ay af top X h u d);refine J [5,181] ?_;intro bA;apply J [86,32];refine Ve rfl (λw=>?_) (λw=>absurd (d) w);apply J [117,50];exact bv (none,0) trivial ((dE 3 1 _).trans ai)
theorem Ux(af top:Nat)(X:ch)(h s m:Int)(H:0<=h/\h<=4294967295)(self:Bool)(w:c8 X ek):bK 27 [ae ay,aS h,aa s,aa m,.bool self] cW [di ay af top X] (λy:Nat×ch=>.tuple #[aa y.1,aa (kP X.A h s m)]) (λy=>yG X h s m self y) (λy=>[di ay af top y.2]):=by
 apply aI Tryz.func27 Tryz.ntmps27;intro F aD;apply J [1];haveI:cl F:=⟨aD⟩;refine Wq 0 rfl hG (λa0=>?_);obtain⟨aw,dq,aT⟩:=a0;apply J [220,35];by_cases d:(bW X.A.l h 2).2=0;refine e rfl ?_;apply ba (ph ay af top X h H d);intro aP _;refine J [8,181] ?_;intro a3;apply J [86,202,116,27];apply aq (oz ay af top X aP h H d s);refine J [18,229] ?_;intro a4;apply J [77,104,51,140];apply aq (rf s);apply J [9];by_cases u:0<=s/\s<256;rw[c1 u];apply J [234,140];apply aq (yk m);apply J [9];by_cases hm:0<m/\m<=15;rw[c1 hm];apply J [234,83,394,36];apply Ve rfl<;>intro bb;have C:e5 X.A (bo h) s=0:=U
 have hv:kP X.A h s m=6:=by rw[kP,al (λbO=>bO d),al (λbO=>bO u),al (λbO=>bO hm),az C]
 have qM:kP X.A h s m≠0:=U
 rw[hv];apply J [182];exact yp;have C:e5 X.A (bo h) s≠0:=U
 have hv:kP X.A h s m=0:=by rw[kP,al (λbO=>bO d),al (λbO=>bO u),al (λbO=>bO hm),al C]
 rw[hv];obtain⟨dV,rfl⟩:∃k:Nat,s=(k:Int):=⟨s.toNat,(V6 u.1).symm⟩;obtain⟨O,rfl⟩:∃k:Nat,m=(k:Int):=⟨m.toNat,(V6 U).symm⟩;have a1:dV<256:=U
 rw[j4 a1]at C;obtain⟨t,V,ar,W,av,bg⟩:=w.find C (λh=>h);rw[na aT H.1 d]at ar W;obtain⟨D,E,a9⟩:=Dg w V self;have aJ:X.L.length<=1000000:=by have:=w.ep.len;have:=w.dn;have:=aw.bd;omega
 have au:1<=O/\O<=15:=U
 apply J [23,265,27];apply aq (Uq ay af top X aP h (dV:Int) H);apply J [9];rw[ar];apply aW.open 0 rfl;rintro⟨aK,bt⟩-;apply J [15];dsimp only;apply J [28,87,27];apply ba (b0.Ej bt X.L X.last t.id aJ);intro N _;apply J [54,206,83,3];cases self;rw[show q4 false t.id=[]from rfl]at D E;rw[V4]at D E;apply J [192,35,62];skip;refine aW.bf (B:=ag [di ay af top X,a6 3 1 N.1 ((b0.hW X.L X.last t.id).length) N.2 (ints (b0.hW X.L X.last t.id)),F]) (aA (bT.mk aK bt:bT) trivial ai) ?_;refine e rfl ?_;apply eN (yl ay af top X w O au (b0.hW X.L X.last t.id) D E U _ rfl N.1 N.2) ⟨cl.aY,_,bn.rd (ad:=N.1)⟩;intro⟨dc,P⟩ ax;apply J [8,95];exact cT (dc,P) (.inr ⟨hv,t,V,W,av,by rw[show q4 false t.id=[]from rfl,V4];exact ax⟩) ai;rw[show q4 true t.id=[t.id]from rfl]at D E;refine J [14,112,90] ?_;intro a5;refine J [0,542] ?_;intro Q Z;apply J [203,35,62];have hlen:((b0.hW X.L X.last t.id)++[t.id]).length=(b0.hW X.L X.last t.id).length+1:=b6
 refine aW.bf (B:=ag [di ay af top X,a6 3 1 Q ((b0.hW X.L X.last t.id).length+1) Z (ints ((b0.hW X.L X.last t.id)++[t.id])),F]) (aA (bT.mk aK bt:bT) trivial (cZ (cZ (bw (b9 0 rfl (by rw[ur]) ai))))) ?_;refine e rfl ?_;apply eN (yl ay af top X w O au ((b0.hW X.L X.last t.id)++[t.id]) D E (by rw[hlen];omega) _ hlen.symm Q Z) ⟨cl.aY,_,bn.rd (ad:=Q)⟩;intro⟨dc,P⟩ ax;apply J [8,95];exact cT (dc,P) (.inr ⟨hv,t,V,W,av,ax⟩) ai;have hv:kP X.A h s m=1:=by rw[kP,al (λbO=>bO d),al (λbO=>bO u),az hm]
 have qM:kP X.A h s m≠0:=U
 rw[hv];rw[db hm];apply J [64,36,76,119];exact yp;have hv:kP X.A h s m=2:=by rw[kP,al (λbO=>bO d),az u]
 have qM:kP X.A h s m≠0:=U
 rw[hv];rw[db u];apply J [64,36,76,119];exact yp;have hv:kP X.A h s m=(bW X.A.l h 2).2:=by rw[kP,az d]
 have qM:kP X.A h s m≠0:=U
 rw[hv];refine e rfl ?_;apply aq (ri ay af top X h H d);refine J [5,181] ?_;intro a2;apply J [86,32];refine Ve rfl (λah=>?_) (λah=>absurd (d) ah);apply J [190];exact yp
def zZ(A:bV)(h t s:Int):Bool:=decide ((iI (e5 A (bo t) s):Int)=h)
def jP(A:bV)(h t:Int)(K:List Int):List (Int×Int):=(K.filter (zZ A h t)).map λs=>(t,s)
def jd(A:bV)(h:Int)(T:List Int):List (Int×Int):=T.flatMap λt=>jP A h t (h4 A t)
def ny(A:bV)(h:Int):List (Int×Int):=jd A h (av.dY A.l 1)
variable{k:Nat}
theorem NS{h t:Int}{K:List Int}{s:Int}(e:K[k]? =some s):jP A h t (K.take (k+1))=jP A h t (K.take k)++if(iI (e5 A (bo t) s):Int)=h then[(t,s)]else[]:=by rw[Vs,e,jP,jP,List.filter_append,We];congr 1;grind[zZ]
theorem NT{h t:Int}{T:List Int}(e:T[k]? =some t):jd A h (T.take (k+1))=jd A h (T.take k)++jP A h t (h4 A t):=by grind[Vs,jd]
theorem zY{A:bV}(aE:cm A){h:Int}{o:Int×Int}:o∈ny A h↔∃t∈av.dY A.l 1,∃s:Nat,o=(t,(s:Int))/\(bW A.l t 2).2=0/\s<256/\A.aJ (bo t) s≠0/\(iI (A.aJ (bo t) s):Int)=h:=by rw[ny,jd,V5];constructor;rintro⟨t,C,u⟩;rw[jP,Vn]at u;obtain⟨s,w,rfl⟩:=u;obtain⟨d,D⟩:=Vv.1 w;rw[h4]at d;split at d;trivial;rename_i E;obtain⟨n,rfl,H,N⟩:=ti.1 d;refine⟨t,C,n,rfl,Vf E,H,N,?_⟩;have:=dp D;grind[j4];rintro⟨t,C,s,rfl,u,w,d,D⟩;refine⟨t,C,?_⟩;rw[jP,Vn];refine⟨(s:Int),Vv.2 ⟨?_,?_⟩,rfl⟩;rw[h4,al (λh=>h u)];exact ti.2 ⟨s,rfl,w,d⟩;grind[zZ,j4]
theorem NR(A:bV)(h t:Int){K:List Int}(d:K.Nodup):(jP A h t K).Nodup:=by rw[jP];grind
theorem SD(A:bV)(h:Int):(h4 A h).Nodup:=by grind[h4,Sx]
theorem BJ(A:bV)(h:Int):(h4 A h).length<=256:=by rw[h4];split;trivial;grind[BI]
theorem EK(A:bV)(h:Int):∀{T:List Int},T.Nodup->(jd A h T).Nodup
 | [],_=>List.nodup_nil
 | t::T,E=>by obtain⟨C,D⟩:=List.nodup_cons.1 E;rw[jd,Vw,<-jd,VH];refine⟨NR A h t (SD A t),EK A h D,λa d b am e=>?_⟩;rw[jd,V5]at am;obtain⟨u,hu,am⟩:=am;rw[jP,Vn]at d am;obtain⟨s,_,rfl⟩:=d;obtain⟨r,_,rfl⟩:=am;exact C (by have w:t=u:=congrArg Prod.fst e;rw[w];exact hu)
theorem EJ(A:bV)(h t:Int)(K:List Int):(jP A h t K).length<=K.length:=by rw[jP,Wf];exact List.length_filter_le _ _
theorem z1(A:bV)(h:Int):∀T:List Int,(jd A h T).length<=256*T.length
 | []=>Vj _
 | t::T=>by rw[jd,Vw,<-jd,mp,List.length_cons];have:=z1 A h T;have:=EJ A h t (h4 A t);have:=BJ A t;omega
theorem Uk(af top:Nat)(X:ch)(h:Int)(br:0<=h/\h<=4294967295):bK 22 [ae ay,aS h] cW [di ay af top X] (λy:Option Addr×Nat=>.slice y.1 (ny X.A h).length y.2) (λ_=>True) (λy=>[a6 78 2 y.1 (ny X.A h).length y.2 (b0.nN (ny X.A h)),di ay af top X]):=by
 apply aI Tryz.func22 Tryz.ntmps22;intro F aw;apply J [1];haveI:cl F:=⟨aw⟩;refine Wq 0 rfl hG (λa2=>?_);obtain⟨O,dq,bl⟩:=a2;apply ab.open 0 rfl;rintro⟨aK,bt⟩-;apply J [61];dsimp only;apply J [117,188,103,122,41,0];apply ba (Du aK af top X.A);intro y _;apply J [9];obtain⟨T,a0⟩:∃T,T=(av.dY X.A.l 1):=⟨_,rfl⟩;rw[<-a0];have a3:ny X.A h=jd X.A h T:=by grind[ny]
 rw[a3];apply J [255,111];refine ab.bf (B:=ag [a6 33 1 y.1 T.length y.2 (cO .u32 T),di ay af top X,F]) (ao (aA (bT.mk aK bt:bT) trivial ai)) ?_;refine VK (ι:=Nat×Option Addr×Nat) (λs=>s.1<=T.length) (λs=>[(0,ae ay),(1,aS h),(20,.slice y.1 T.length y.2),(21,aa ((T.length:Nat):Int)),(5,.slice s.2.1 (jd X.A h (T.take s.1)).length s.2.2),(22,aa ((s.1:Nat):Int))]) (λs=>ag [a6 78 2 s.2.1 (jd X.A h (T.take s.1)).length s.2.2 (b0.nN (jd X.A h (T.take s.1))),a6 33 1 y.1 T.length y.2 (cO .u32 T),di ay af top X,F]) (λs=>T.length-s.1) (0,none,0) (Vh _) bH ((dE 78 2 _).trans ai) ?_;rintro⟨i,ad,cap⟩ a4 cb;dsimp only[cx]at a4⊢;apply J [43];apply Ve rfl<;>intro bM;have a5:i<T.length:=U
 have bn:T.length<=256:=(by have:=av.qw X.A.l 1;rw[O.ok.n]at this;simp_all);obtain⟨t,ah⟩:∃t,T[i]? =some t:=⟨T[i],Vb a5⟩;have bg:t∈av.dY X.A.l 1:=cv
 have D:=mi O.ok bg;have E:=NT (A:=X.A) (h:=h) ah;have b1:0<(cO .u32 T).length:=by grind[je]
 have bz:i<(cO .u32 T).length:=by grind[je]
 refine J [207,378] ?_;refine q rfl rfl (dG rfl rfl (nI ah)) ?_;apply J [31];by_cases d:(bW X.A.l t 2).2=0;obtain⟨L,Q⟩:∃L,L=gx (X.A.aJ (bo t)) 256:=⟨_,rfl⟩;have aT:h4 X.A t=L:=by rw[h4,al (λbO=>bO d),Q]
 rw[aT]at E;have bk:L.length<=256:=(by grind[BJ]);have aD:∀x∈L,∃n:Nat,x=n/\n<256:=λx b4=>(by grind[ti]);apply J [178];apply ba (ph ay af top X t D d);intro aP _;refine J [9,181] ?_;intro bA;apply J [86,202,99];apply aW.open 2 rfl;rintro⟨aK,bt⟩-;apply J [54];dsimp only;apply aW.open 1 rfl;rintro⟨am,bx,S⟩ ⟨aQ,aE⟩;apply J [315];dsimp only at aQ aE⊢;obtain⟨a9,bL⟩:=ma aQ D.1 d;obtain⟨a1,bi⟩:=aQ.gV _ _ _ a9;have j6:gx (dZ S.m (cI X.A t)) 256=gx (X.A.aJ (bo t)) 256:=by grind[xQ]
 refine e rfl ?_;apply ba (x4 aP af top (bQ X.A t) (cI X.A t) S aQ.P a1);intro w _;apply J [256];rw[j6,<-Q];apply J [177];refine VK (ι:=Nat×Option Addr×Nat) (λs=>s.1<=L.length) (λs=>[(0,ae ay),(1,aS h),(20,.slice y.1 T.length y.2),(21,aa ((T.length:Nat):Int)),(5,.slice s.2.1 (jd X.A h (T.take i)++jP X.A h t (L.take s.1)).length s.2.2),(7,aS t),(8,ae bA),(22,aa ((i:Nat):Int)),(36,.slice w.1 L.length w.2),(37,aa ((L.length:Nat):Int)),(38,aa ((s.1:Nat):Int))]) (λs=>ag [a6 78 2 s.2.1 (jd X.A h (T.take i)++jP X.A h t (L.take s.1)).length s.2.2 (b0.nN (jd X.A h (T.take i)++jP X.A h t (L.take s.1))),a6 3 1 w.1 L.length w.2 (ints L),aj bA 150 [ae aP,aS t,aa (bQ X.A t)],a6 33 1 y.1 T.length y.2 (cO .u32 T),aj aP 163 [ae af,aa (bQ X.A t),aa (cI X.A t:Int)],di ay af top X,F]) (λs=>L.length-s.1) (0,ad,cap) (Vh _) ⟨rfl,rfl,rfl,rfl,congrArg (λn=>VO _ n _) (by dsimp only;rw[WN,show jP X.A h t []=[]from rfl,V4]),rfl,rfl,rfl,rfl,rfl,rfl,trivial⟩ (b9 9 rfl (by dsimp only;rw[WN,show jP X.A h t []=[]from rfl,V4];first|done|fail) (ao (bU 7 rfl (bU 7 rfl (ao (aA (bT.mk aK bt:bT) trivial (eT (aA (⟨am,bx,S⟩:eE) ⟨aQ,aE⟩ ai)))))))) ?_;rintro⟨j,H,N⟩ bb cc;dsimp only[cx]at bb⊢;apply J [43];apply Ve rfl<;>intro bV;have bd:j<L.length:=U
 have b2:(jd X.A h (T.take i)++jP X.A h t (L.take j)).length<=70000:=(by grind[z1,EJ]);obtain⟨s,C⟩:∃s,L[j]? =some s:=⟨L[j],Vb bd⟩;have u:=NS (A:=X.A) (h:=h) (t:=t) C;obtain⟨s,rfl,j6⟩:=aD s (Vg C);have b3:0<(ints L).length:=by grind[d7]
 have bF:j<(ints L).length:=by grind[d7]
 have W:e5 X.A (bo t) (s:Int)≠0:=(by have:=Vg C;grind[ti,j4]);refine J [189] ?_;refine q rfl rfl (dG rfl rfl (hj C)) ?_;apply J [28,116,27];apply aq (oz ay af top X aP t D d (s:Int));apply J [15];rw[al W,al W];refine J [229] ?_;intro cj;apply J [266,99,2,224];apply Ve rfl<;>intro heq;rw[az heq]at u;refine J [112,230,2,65,0,293] ?_;intro bh;refine e rfl ?_;refine ap 16 rfl rfl rfl rfl rfl (Vq rfl) (show _=b0.nN [(t,(s:Int))]from rfl) rfl U gv ?_;intro ar au;refine J [60,84] ?_;exact⟨rfl,(j+1,ar,au),cy,cy,⟨rfl,rfl,rfl,rfl,congrArg (λn=>VO _ n _) (by dsimp only;rw[u,<-VC,mp (bs:=[(t,(s:Int))])];rfl),rfl,rfl,rfl,rfl,rfl,rfl,trivial⟩,(b9 0 rfl (by dsimp only;rw[u,<-VC,b0.SZ,mp (bs:=[(t,(s:Int))])];rfl) ai)⟩;rw[al heq,V4]at u;refine J [114] ?_;exact⟨rfl,(j+1,H,N),cy,cy,⟨rfl,rfl,rfl,rfl,congrArg (λn=>VO _ n _) (by dsimp only;rw[u]),rfl,rfl,rfl,rfl,rfl,rfl,trivial⟩,(b9 3 rfl (by dsimp only;rw[u];first|done|fail) ai)⟩;obtain rfl:j=L.length:=by omega
 rw[VY,<-E];refine J [544,343] ?_;exact⟨rfl,(i+1,H,N),cy,cy,bH,ai⟩;have Z:jd X.A h (T.take (i+1))=jd X.A h (T.take i):=by rw[E,h4,az d];simp[jP]
 apply J [178];apply aq (ri ay af top X t D d);refine J [18,181] ?_;intro be;apply J [86,32];refine Ve rfl (λV=>?_) (λV=>absurd (d) V);refine J [437,343] ?_;exact⟨rfl,(i+1,ad,cap),cy,cy,⟨rfl,rfl,rfl,rfl,congrArg (λn=>VO _ n _) (by dsimp only;rw[Z]),rfl,trivial⟩,(b9 2 rfl (by dsimp only;rw[Z];first|done|fail) ai)⟩;obtain rfl:i=T.length:=by omega
 rw[VY];apply J [198,91];exact bv (ad,cap) trivial ai
structure ke(X Y:ch):Prop where
  de:c8 Y ek
  ck:fx X.A Y.A 0
  aJ:∀i s,Y.A.aJ i s=0\/Y.A.aJ i s=X.A.aJ i s
  dn:Y.last=X.last
theorem ke.refl(h:c8 X ek):ke X X:=⟨h,fx.refl _ _,λ_ _=>.inr rfl,rfl⟩
theorem ke.trans(h:ke X Y)(k:ke Y Z):ke X Z:=⟨k.de,(h.ck.trans k.ck).mono (Vj _),λi s=>by
 rcases k.aJ i s with e|e
 ·exact .inl e
 rw[e];exact h.aJ i s,k.dn.trans h.dn⟩
theorem ke.zero(h:ke X Y)(e:X.A.aJ i s=0):Y.A.aJ i s=0:=by rcases h.aJ i s with d|d;all_goals omega
theorem Ub(h:cm A)(e:A.aJ i s≠0):vr 15 (A.aJ i s)=0:=by obtain⟨_,_,x,r,d,C,u,w,_⟩:=h.aJ i s e;rw[d,vr,(kg w).2,C4 r u,az (Nat.sub_self _)]
theorem N1(h:c8 X ek)(aE:cm X.A){l:List Int}(C:n9 X l i s):X.A.aJ i s≠0:=by obtain⟨d,t,D,_,u,w⟩:=C;exact(h.qc aE D d u w).1
theorem k4.Ck{l:List Int}(h:k4 X l 15 n Y)(u:c8 X ek)(aE:cm X.A)(d:n9 X l i s):Y.A.aJ i s=0:=by rw[h.sJ i s d];exact Ub aE (N1 u aE d)
theorem k4.less{l:List Int}(h:k4 X l 15 n Y)(u:c8 X ek)(aE:cm X.A):ke X Y:=⟨h.de,h.ck,λi s=>by
 by_cases d:n9 X l i s
 ·exact .inl (h.Ck u aE d)
 exact .inr (h.nq i s d),h.dn⟩
structure rr(X:ch)(h:Int)(K:List Int)(k n:Nat)(Y:ch):Prop where
  iU:ke X Y
  z:∀x∈K.take k,Y.A.aJ (bo h) x.toNat=0
  n:n<=k*1000001
theorem rr.nil(h:c8 X ek)(t:Int)(K:List Int):rr X t K 0 0 X:=⟨ke.refl h,(λx d=>by rw[WN]at d;cases d),Vj _⟩
theorem rr.next{h:Int}{K:List Int}(u:rr X h K k n Y)(hs:K[k]? =some (s:Int))(w:ke Y Z)(C:Z.A.aJ (bo h) s=0)(hm:m<=1000001):rr X h K (k+1) (n+m) Z:=by refine⟨u.iU.trans w,λx d=>?_,by have:=u.n;omega⟩;rw[Vs,hs]at d;rcases Vd.1 d with d|d;exact w.zero (u.z x d);simp_all
structure pv(X:ch)(H:List (Int×Int))(k n:Nat)(Y:ch):Prop where
  iU:ke X Y
  z:∀o∈H.take k,Y.A.aJ (bo o.1) o.2.toNat=0
  e:∀i s:Nat,(∀o∈H.take k,¬(bo o.1=i/\o.2=(s:Int)))->Y.A.aJ i s=X.A.aJ i s
  n:n<=k
theorem pv.nil(h:c8 X ek)(H:List (Int×Int)):pv X H 0 0 X:=⟨ke.refl h,(λx d=>by rw[WN]at d;cases d),λ_ _ _=>rfl,Vj _⟩
theorem pv.next{H:List (Int×Int)}(d:pv X H k n Y)(aE:cm Y.A){o:Int×Int}(ah:H[k]? =some o)(aB:o.2=(s:Int)){t:b0.Fn}(aq:t∈Y.L)(D:t.dH=au Y.A.l (bo o.1))(av:t.ck=(s:Int))(P:bo o.1<256)(ax:k4 Y [t.id] 15 m Z):pv X H (k+1) (n+m) Z:=by
 have Q:n9 Y [t.id] (bo o.1) s:=by grind[n9]
 have aD:=ax.Ck d.iU.de aE Q;have C:=ax.less d.iU.de aE;have hm:=ax.dc;refine⟨d.iU.trans C,λx w=>?_,λi r V=>?_,by have:=d.n;rw[Vk]at hm;omega⟩;rw[Vs,ah]at w;rcases Vd.1 w with w|w;exact C.zero (d.z x w);simp_all;have W:¬n9 Y [t.id] i r:=λ⟨E,u,hu,N,O,aw⟩=>(by have:u=t:=d.iU.de.ep.bC.inj hu aq (Vc.1 N);subst this;have ar:=sP aE.ok P E (D.symm.trans O);grind[Vs]);rw[ax.nq i r W];exact d.e i r λx w=>V x (by rw[Vs];exact Vd.2 (.inl w))
theorem FF(h:cm A){o:av.fi}(u:cH A.l i 1 o):au A.l i∈av.dY A.l 1:=by obtain⟨g,d⟩:=u;exact(vO h.ok).2 ⟨i,_,d,rfl,rJ d⟩
theorem pv.done{h:Int}(u:cm X.A)(aE:cm Y.A)(d:pv X (ny X.A h) (ny X.A h).length n Y):A1 Y.A h:=by
 intro i s x r e O C D P;have W:=(jg (r:=r) D C).2;have N:Y.A.aJ i s≠0:=U
 have Q:X.A.aJ i s=Y.A.aJ i s:=(by rcases d.iU.aJ i s with w|w;all_goals omega);have E:X.A.aJ i s≠0:=U
 obtain⟨V,⟨a,f,H⟩,_⟩:=u.aJ i s E;obtain⟨_,Z,ah⟩:=x3 u H;have hm:(au X.A.l i,(s:Int))∈ny X.A h:=by grind[zY,FF,kg]
 have:=d.z _ (by rw[VY];exact hm);simp_all
theorem UC(af top:Nat)(X:ch)(h:Int)(aw:0<=h/\h<=4294967295)(bb:c8 X ek):bK 346 [ae ay,aS h] cW [di ay af top X] (λy:Nat×ch=>aa y.1) (λy=>ke X y.2/\∀s,(bW X.A.l h 2).2=0->y.2.A.aJ (bo h) s=0) (λy=>[di ay af top y.2]):=by
 apply aI Tryz.func346 Tryz.ntmps346;intro F a9;apply J [1];haveI:cl F:=⟨a9⟩;refine Wq 0 rfl hG (λD=>?_);obtain⟨a5,dq,b3⟩:=D;apply J [107,39,33];apply ba (Uz ay af top X h aw);intro w _;apply J [8];obtain⟨K,O⟩:∃K,K=h4 X.A h:=⟨_,rfl⟩;rw[<-O];have b1:K.length<=256:=by grind[BJ]
 apply J [177];refine VK (ι:=Nat×Nat×ch) (λd=>d.1<=K.length/\rr X h K d.1 d.2.1 d.2.2) (λd=>[(0,ae ay),(1,aS h),(5,aa ((d.2.1:Nat):Int)),(11,.slice w.1 K.length w.2),(12,aa ((K.length:Nat):Int)),(13,aa ((d.1:Nat):Int))]) (λd=>ag [a6 3 1 w.1 K.length w.2 (ints K),di ay af top d.2.2,F]) (λd=>K.length-d.1) (0,0,X) ⟨Vh _,rr.nil bb h K⟩ bH ai ?_;rintro⟨k,n,Y⟩ ⟨bz,ax⟩ cn;dsimp only[cx]at bz ax⊢;have ce:=ax.n;apply J [43];apply Ve rfl<;>intro cc;·refine Wq 1 rfl hG (λD=>?_);obtain⟨C,a4,W⟩:=D;(have bF:k<K.length:=by omega);obtain⟨x,H⟩:∃x,K[k]? =some x:=⟨K[k],Vb bF⟩;have Q:=Vg H;rw[O,h4]at Q;(have E:(bW X.A.l h 2).2=0:=by simp_all);rw[al (λbO=>bO E)]at Q;obtain⟨s,rfl,a0,_⟩:=ti.1 Q;(have bL:(bW Y.A.l h 2).2=0:=by rw[ax.iU.ck.l];exact E);have aD:=na W aw.1 bL;(have aT:bo h<256:=by grind[bo]);(have bg:Y.L.length<=1000000:=by have:=ax.iU.de.ep.len;have:=ax.iU.de.dn;have:=C.bd;omega);(have cf:0<(ints K).length:=by grind[d7]);(have cb:k<(ints K).length:=by grind[d7]);apply ab.open 1 rfl;rintro⟨aK,bt⟩-;apply J [57];dsimp only;refine J [189] ?_;refine q rfl rfl (dG rfl rfl (hj H)) ?_;refine J [28,87,230,27] ?_;apply aq (b0.ww bt Y.L Y.last h (s:Int));apply J [9];by_cases u:Y.A.aJ (bo h) s=0;(·(have bl:b0.hE Y.L (h,(s:Int))=0:=by have:=ax.iU.de.Gh C aT (s:=s) (.inl u);rwa[aD]at this);rw[bl];refine J [28,216,106,114] ?_;exact⟨rfl,(k+1,n,Y),⟨by dsimp only;omega,ax.next (m:=0) H (ke.refl ax.iU.de) u an⟩,cy,bH,(cZ (aA (bT.mk aK bt:bT) trivial ai))⟩);obtain⟨t,a1,av,a2,bM,cg⟩:=ax.iU.de.find u (λh=>h);have bV:=a2;rw[aD]at av bV;rw[av];obtain⟨ah,ar,b4⟩:=Dg ax.iU.de a1 true;rw[show q4 true t.id=[t.id]from rfl]at ah ar;(have hlen:(b0.hW Y.L Y.last t.id++[t.id]).length=(b0.hW Y.L Y.last t.id).length+1:=by simp_all);apply J [127];refine Ve rfl (λau=>?_) (λau=>absurd (U) au);apply J [217,158,175,80,27];apply ba (b0.Ej bt Y.L Y.last t.id bg);intro cm _;refine J [12,90] ?_;intro be;refine J [0,542] ?_;intro N V;refine aW.bf (B:=ag [di ay af top Y,a6 3 1 N ((b0.hW Y.L Y.last t.id).length+1) V (ints ((b0.hW Y.L Y.last t.id)++[t.id])),a6 3 1 w.1 K.length w.2 (ints K),F]) (aA (bT.mk aK bt:bT) trivial (cZ (cZ (bw (b9 0 rfl (by rw[ur]) ai))))) ?_;refine e rfl ?_;apply eN (yl ay af top Y ax.iU.de 15 an ((b0.hW Y.L Y.last t.id)++[t.id]) ah ar (by rw[hlen];omega) _ hlen.symm N V) ⟨cl.aY,_,bn.rd (ad:=N)⟩;intro⟨dc,Z⟩ P;apply J [18];have bk:=P.dc;rw[hlen]at bk;have bh:=P.Ck ax.iU.de C (i:=bo h) (s:=s) ⟨aT,t,a1,by simp,a2,bM⟩;have bi:=P.less ax.iU.de C;dsimp only;refine J [149,48,84] ?_;exact⟨rfl,(k+1,n+dc,Z),⟨by dsimp only;omega,ax.next H bi bh U⟩,cy,bH,ai⟩
 refine Wq 1 rfl hG (λD=>?_);obtain⟨C,a4,W⟩:=D;obtain rfl:k=K.length:=by omega
 have a3:=ax.z;rw[VY]at a3;have br:∀s,(bW X.A.l h 2).2=0->Y.A.aJ (bo h) s=0:=λs E=>(by by_cases u:X.A.aJ (bo h) s=0;exact ax.iU.zero u;have a0:=(a5.mW u).2;have:=a3 (s:Int) (by rw[O,h4,al (λbO=>bO E)];exact ti.2 ⟨s,rfl,a0,u⟩);trivial);apply J [21,134];exact bv (n,Y) ⟨ax.iU,br⟩ ai
theorem Uw(af top:Nat)(X:ch)(h:Int)(bg:0<=h/\h<=4294967295)(a5:c8 X ek):bK 347 [ae ay,aS h] cW [di ay af top X] (λy:Nat×ch=>aa y.1) (λy=>ke X y.2/\A1 y.2.A h) (λy=>[di ay af top y.2]):=by
 apply aI Tryz.func347 Tryz.ntmps347;intro F a4;apply J [1];haveI:cl F:=⟨a4⟩;refine Wq 0 rfl hG (λE=>?_);obtain⟨C,dq,a9⟩:=E;apply J [107,39,33];apply ba (Uk ay af top X h bg);intro w _;apply J [8];obtain⟨H,D⟩:∃H,H=ny X.A h:=⟨_,rfl⟩;rw[<-D];have cg:H.length<=65536:=(by have cf:=z1 X.A h (av.dY X.A.l 1);have a3:=av.qw X.A.l 1;rw[C.ok.n]at a3;grind[ny]);have cm:H.Nodup:=by rw[D];exact EK _ _ (sA _ C.ok 1)
 refine q rfl rfl (len 78 2 rfl rfl) ?_;apply J [111];refine VK (ι:=Nat×Nat×ch) (λd=>d.1<=H.length/\pv X H d.1 d.2.1 d.2.2) (λd=>[(0,ae ay),(5,aa ((d.2.1:Nat):Int)),(10,.slice w.1 H.length w.2),(11,aa ((H.length:Nat):Int)),(12,aa ((d.1:Nat):Int))]) (λd=>ag [a6 78 2 w.1 H.length w.2 (b0.nN H),di ay af top d.2.2,F]) (λd=>H.length-d.1) (0,0,X) ⟨Vh _,pv.nil a5 H⟩ bH ai ?_;rintro⟨k,n,Y⟩ ⟨bl,ax⟩ cF;dsimp only[cx]at bl ax⊢;have co:=ax.n;have cz:=b0.SY H;apply J [43];apply Ve rfl<;>intro cn;·refine Wq 1 rfl hG (λE=>?_);obtain⟨N,aD,P⟩:=E;(have br:k<H.length:=by omega);obtain⟨o,O⟩:∃o,H[k]? =some o:=⟨H[k],Vb br⟩;(have cr:0<(b0.nN H).length:=by omega);have ah:=Vg O;rw[D]at ah;obtain⟨t,bM,s,rfl,bz,ct,ce,_⟩:=(zY C).1 ah;have b1:=mi C.ok bM;(have bL:(bW Y.A.l t 2).2=0:=by rw[ax.iU.ck.l];exact bz);have bh:=na P b1.1 bL;(have bi:bo t<256:=by grind[bo]);have cw:Y.A.aJ (bo t) s=X.A.aJ (bo t) s:=ax.e _ _ λcC W ⟨aT,a0⟩=>(by obtain⟨j,bk,a1⟩:=XP W;rw[Wo]at bk;rw[List.getElem_take]at a1;have ar:=List.mem_of_mem_take W;rw[D]at ar;obtain⟨t',bV,cD,rfl,bF,_⟩:=(zY C).1 ar;dsimp only at aT a0;have cc:=na a9 (mi C.ok bV).1 bF;grind[na,List.getElem_inj]);(have a2:Y.A.aJ (bo t) s≠0:=by omega);obtain⟨u,au,V,aw,b3,cA⟩:=ax.iU.de.find a2 (λh=>h);have b4:=aw;rw[bh]at V b4;apply ab.open 1 rfl;rintro⟨aK,bt⟩-;apply J [57];dsimp only;apply J [207];refine q rfl rfl (hH 78 2 rfl rfl rfl U eB) ?_;refine q rfl rfl (gM (vs:=[_,_]) 2 rfl rfl (k9 b0.HN O 0 2 U U (show _=[aa t,aa (s:Int)]from rfl)) rfl an) ?_;refine J [0,240] ?_;intro bA;apply J [77,3];refine ab.draw _ [12,13] [0,1,2,3,4,5,6,7,8,9,-10,-11,-12,-13,14] aV aV (show aG (ag _) (ag [aj ay 148 [ae aK,ae bt],aj bA 78 [aa t,aa s]])from ai) ?_;apply J [16,56,135,110,338];apply aq (b0.ww bt Y.L Y.last t (s:Int));refine J [260,6] ?_;rw[V];refine J [13,148] ?_;intro cj;refine⟨ai,?_⟩;refine cd.bf (B:=ag [di ay af top Y,a6 3 1 (cM cj) 1 1 (ints [u.id]),a6 78 2 w.1 H.length w.2 (b0.nN H),F]) (aA (bT.mk aK bt:bT) trivial ai) ?_;refine dl rfl rfl rfl rfl ?_;apply eN (yl ay af top Y ax.iU.de 15 an [u.id] (λx cb=>⟨u,au,(Vc.1 cb).symm⟩) cE (Vq rfl) 1 rfl (cM cj) 1) ⟨cl.aY,_,bn.rd (ad:=some ⟨cj,0,none⟩)⟩;intro⟨dc,Z⟩ Q;change cd _ _ _ _ _ _ _ _ _ _ (ag [_,_,_,_]);have bb:=Q.dc;rw[Vk]at bb;dsimp only;refine dl rfl rfl rfl rfl (cq.q rfl (ir rfl rfl U U) ?_);refine J [363,308,343] ?_;exact⟨rfl,(k+1,n+dc,Z),⟨by dsimp only;omega,ax.next N O rfl au aw b3 bi Q⟩,cy,bH,ai⟩
 refine Wq 1 rfl hG (λE=>?_);obtain⟨N,aD,P⟩:=E;obtain rfl:k=H.length:=by omega
 rw[D]at ax;have bd:=ax.done C N;apply J [21,134];exact bv (n,Y) ⟨ax.iU,bd⟩ ai
def jL(l:List av.b3)(K:List Int):List av.b3:=K.foldl (λl x=>(av.hY l x).1) l
theorem L6(l:List av.b3)(K:List Int)(x:Int):jL l (K++[x])=(av.hY (jL l K) x).1:=by rw[jL,List.foldl_append];rfl
theorem pV{l:List av.b3}{h st:Int}{y:Nat×av.b3}(e:av.ej l h st=some y):l[y.1]? =some y.2/\h=y.2.c5*256+y.1:=by grind[av.ej]
theorem wn{l:List av.b3}{h:Int}{p:av.b3}(e:av.ej l h 1=some (k,p)):(av.hY l h).1=l.set k ⟨p.o,2,p.c5⟩:=by rw[av.hY,e]
theorem wY{l:List av.b3}(e:av.ej l x 1=none):(av.hY l x).1=l:=by rw[av.hY,e]
theorem uj{l:List av.b3}:(av.cV l x).2=0↔∃y,av.ej l x 1=some y:=by grind[av.cV]
theorem wX{l:List av.b3}(Q:av.dQ l){z:Int}(H:0<=z):((av.cV (av.hY l x).1 z).2=0↔(av.cV l z).2=0/\z≠x)/\(z≠x->(av.cV l z).2=0->av.cV (av.hY l x).1 z=av.cV l z):=by cases e:av.ej l x 1 with|none=>rw[wY e];exact⟨⟨λh=>⟨h,λw=>by rw[w,uj,e]at h;obtain⟨y,h⟩:=h;cases h⟩,λh=>h.1⟩,λ_ _=>rfl⟩|some y=>obtain⟨k,p⟩:=y;rw[wn e];by_cases d:(z %256).toNat=k;have C:av.ej (l.set k ⟨p.o,2,p.c5⟩) z 1=none:=(by rw[av.ej,d,List.getElem?_set_self (Vl.1 (pV e).1).1];dsimp only;rw[al λh=>absurd h.2 an]);(have N:¬(av.cV (l.set k ⟨p.o,2,p.c5⟩) z).2=0:=by rw[uj,C];rintro⟨_,h⟩;cases h);have E:(av.cV l z).2=0->z=x:=λh=>(by have V:(av.cV l x).2=0:=uj.2 ⟨_,e⟩;obtain⟨i,q,_,a2,_,_,a5,u,_⟩:=oU H h;obtain⟨bM,P⟩:=pV e;rw[a5,P];have:i=k:=u.symm.trans d;subst this;rw[a2]at bM;cases bM;rfl);exact⟨⟨λh=>absurd h N,λh=>absurd (E h.1) h.2⟩,λh O=>absurd (E O) h⟩;(have C:av.cV (l.set k ⟨p.o,2,p.c5⟩) z=av.cV l z:=by rw[av.cV,pW d,<-av.cV]);rw[C];refine⟨⟨λh=>⟨h,λw=>?_⟩,λh=>h.1⟩,λ_ _=>rfl⟩;obtain⟨i,q,D,_,_,_,_,u,_⟩:=oU H h;rw[w,e]at D;cases D;exact d u
theorem NP(l:List av.b3)(x:Int)(i:Nat):au (av.hY l x).1 i=au l i:=by cases e:av.ej l x 1 with|none=>rw[wY e]|some y=>obtain⟨k,p⟩:=y;rw[wn e];by_cases h:k=i;subst h;rw[au,au,List.getElem?_set_self'];obtain⟨bM,_⟩:=pV e;rw[bM];rfl;rw[au,au,List.getElem?_set_ne h]
structure i8(X:ch)(K:List Int)(Y:ch):Prop where
  de:c8 Y ek
  l:Y.A.l=jL X.A.l K
  np:Y.A.np=X.A.np
  own:Y.A.own=X.A.own
  aJ:∀i s,Y.A.aJ i s=0\/Y.A.aJ i s=X.A.aJ i s
  t:Y.A.now=X.A.now/\Y.A.pd=X.A.pd
  q:Y.A.q=X.A.q++K.map λx=>(x,X.A.now+X.A.pd)
  a8:∀i,(∀x∈K,(x %256).toNat≠i)->Y.A.a8 i=X.A.a8 i
theorem i8.nil(h:c8 X ek):i8 X [] X:=⟨h,rfl,rfl,rfl,λ_ _=>.inr rfl,⟨rfl,rfl⟩,(by rw[List.map_nil,V4]),λ_ _=>rfl⟩
theorem i8.less{K:List Int}(h:i8 X K Y)(k:ke Y Z):i8 X K Z:=⟨k.de,k.ck.l.trans h.l,k.ck.Qq.trans h.np,k.ck.o.trans h.own,λi s=>by
 rcases k.aJ i s with e|e
 ·exact .inl e
 rw[e];exact h.aJ i s,⟨k.ck.q.2.1.trans h.t.1,k.ck.q.2.2.trans h.t.2⟩,k.ck.q.1.trans h.q,λi d=>by rw[k.ck.z];exact h.a8 i d⟩
theorem i8.t7{K:List Int}{bl:bV}(h:i8 X K Y)(aE:cm Y.A)(D:cm bl)(E:Cy Y.A x bl):i8 X (K++[x]) ⟨bl,Y.L,Y.last⟩:=by
 obtain⟨k,o,g,a8,O,u,P,w,rfl⟩:=E.ex;have Q:av.ej Y.A.l x 1=some (k,⟨o,1,g⟩):=by grind[av.ej]
 have H:Y.A.l.set k ⟨o,2,g⟩=(av.hY Y.A.l x).1:=by grind[av.hY]
 refine⟨h.de.obj aE rfl (λi s _=>?_) D (Vj _),?_,h.np,h.own,h.aJ,h.t,?_,λi d=>?_⟩;grind[NP];dsimp only;rw[L6,<-h.l,H];dsimp only;rw[h.q,h.t.1,h.t.2,We,VC];rfl;dsimp only;rw[w i λC=>d x cE (by rw[u,C];omega)];exact h.a8 i λy N=>d y (Vd.2 (.inl N))
theorem wm{l:List av.b3}(d:av.dQ l):∀(K:List Int),av.dQ (jL l K)/\∀z:Int,0<=z->((av.cV (jL l K) z).2=0↔(av.cV l z).2=0/\z∉K)/\(z∉K->(av.cV l z).2=0->av.cV (jL l K) z=av.cV l z):=by intro K;induction K generalizing l with|nil=>exact⟨d,λz _=>⟨⟨λh=>⟨h,List.not_mem_nil⟩,λh=>h.1⟩,λ_ _=>rfl⟩⟩|cons x K P=>have O:av.dQ (av.hY l x).1:=(by cases e:av.ej l x 1 with|none=>rw[wY e];exact d|some y=>obtain⟨k,p⟩:=y;rw[wn e];obtain⟨bM,_⟩:=pV e;exact d.set k (d.c5 p (Vg bM)));obtain⟨H,N⟩:=P O;refine⟨H,λz D=>?_⟩;obtain⟨E,a2⟩:=N z D;obtain⟨be,bA⟩:=wX d (x:=x) D;have e:jL l (x::K)=jL (av.hY l x).1 K:=rfl;rw[e];refine⟨?_,λu w=>?_⟩;rw[E,be,Vp,not_or,and_assoc];rw[Vp,not_or]at u;have C:=bA u.1 w;rw[a2 u.2 (by rw[C];exact w),C]
def ig(A:bV)(h:Int):Int:=if(av.cV A.l h).2≠0 then(av.cV A.l h).2 else if h=0 then 1 else 0
def sT(A:bV)(h:Int):List Int:=if ig A h≠0 then[]else fw A h++[h]
def CF(X:ch)(h:Int)(Y:ch):Prop:=(ig X.A h≠0/\Y=X)\/(ig X.A h=0/\i8 X (fw X.A h++[h]) Y)
variable{S:cD}
theorem PI{top:Nat}{K R:List Int}{h:Int}(aE:cm X.A)(aQ:cg top X.A S)(H:i8 X K Y)(e:fw X.A h++[h]=K++x::R):eS Y.A x=[]:=by have O:=aE.wU aQ;rw[List.eq_nil_iff_forall_not_mem];intro z aq;obtain⟨V,w,d,W⟩:=od.1 aq;obtain⟨P,N⟩:=wm aE.ok K;rw[H.l]at V w d;obtain⟨C,Z⟩:=(oJ P).1 w;obtain⟨d1,d2⟩:=N z C;obtain⟨D,E⟩:=d1.1 Z;rw[d2 E D,H.own]at d;have ah:0<=x:=WH λbO=>(by have:=cm.neg ⟨aE.ok,aE.ee,aE.rt,aE.ac,aE.c3,aE.nu,aE.aJ,aE.hN,aE.mD,aE.oj,aE.ol,aE.m6,aE.pd,aE.bd⟩ x U 1;have u:(av.cV (jL X.A.l K) x).2=0:=(by grind[bW]);obtain⟨y,Q⟩:=uj.1 u;have:=(pV Q).2;have:=P.c5 y.2 (Vg (pV Q).1);omega);have u:(av.cV (jL X.A.l K) x).2=0:=(by grind[bW]);obtain⟨f1,f2⟩:=N x ah;obtain⟨g1,g2⟩:=f1.1 u;have bO:(bW X.A.l x 1).2=0:=(by grind[bW]);have hm:z∈eS X.A x:=od.2 ⟨bO,(oJ aE.ok).2 ⟨C,D⟩,d,W⟩;exact E (Br O _ h (Vj _) K R x z (by rw[o7 O];exact e) hm)
theorem IB{top:Nat}{A:bV}{h:Int}(aE:cm A)(aQ:cg top A S)(E:0<=h)(D:(av.cV A.l h).2=0)(H:h≠0):(fw A h++[h]).Nodup/\(fw A h++[h]).length<=257/\∀x∈fw A h++[h],(0<=x/\x<=4294967295)/\(av.cV A.l x).2=0/\x≠0:=by have d:=aE.wU aQ;have e:ho (eS A) (jz A) h=fw A h++[h]:=o7 d h;rw[<-e];refine⟨Bq d _ h (Vj _),Bp aE d h,λx C=>?_⟩;have w:x∈av.dY A.l 1:=(by rcases x8 aE d _ h x (Vj _) C with u|u;rw[u];exact(oJ aE.ok).2 ⟨E,D⟩;trivial);refine⟨mi aE.ok w,((oJ aE.ok).1 w).2,?_⟩;rcases r0 d _ h x (Vj _) C with u|⟨y,N,_⟩;all_goals grind[od]
theorem Ul(af top:Nat)(X:ch)(h:Int)(Z:0<=h/\h<=4294967295)(bF:c8 X ek):bK 307 [ae ay,aS h] cW [di ay af top X] (λy:(Option Addr×Nat)×ch=>.tuple #[.slice y.1.1 (sT X.A h).length y.1.2,aa (ig X.A h)]) (λy=>CF X h y.2) (λy=>[a6 33 1 y.1.1 (sT X.A h).length y.1.2 (cO .u32 (sT X.A h)),di ay af top y.2]):=by
 apply aI Tryz.func307 Tryz.ntmps307;intro F bz;apply J [1];haveI:cl F:=⟨bz⟩;refine Wq 0 rfl hG (λE=>?_);obtain⟨ah,dq,bL⟩:=E;apply ab.open 0 rfl;rintro⟨aK,bt⟩-;apply J [61];dsimp only;apply J [24,60,31,42,41,27];apply aq (j3 aK af top X.A h Z 0);apply J [18];rw[iy];refine J [214] ?_;intro be;apply J [86,222];by_cases u:(av.cV X.A.l h).2=0;refine Ve rfl (λa1=>absurd a1 (λh=>h u)) (λa1=>?_);apply J [26,205];by_cases C:h=0;have hv:ig X.A h≠0:=by rw[ig,al (λbO=>bO u),az C];decide
 rw[show sT X.A h=[]from az hv,show ig X.A h=1 from by rw[ig,al (λbO=>bO u),az C]];refine Ve rfl (λa3=>?_) (λa3=>absurd (C) a3);apply J [24,194,154];exact I9;have hv:ig X.A h=0:=by rw[ig,al (λbO=>bO u),al C]
 rw[show sT X.A h=fw X.A h++[h]from al (λbO=>bO hv),hv];obtain⟨bM,bV,aT⟩:=IB ah bL Z.1 u C;obtain⟨L,P⟩:∃L,L=fw X.A h++[h]:=⟨_,rfl⟩;rw[<-P]at bM bV aT;have hlen:L.length=(fw X.A h).length+1:=b6
 rw[<-P,hlen];refine Ve rfl (λa4=>absurd a4 (C)) (λa4=>?_);apply J [23,41,27];apply ba (DK aK af top X.A h Z);intro cD _;refine J [12,90] ?_;intro bA;refine J [0,613] ?_;intro N O;apply J [206,34,255,111];refine VK (ι:=Nat×ch) (λd=>∃bi,L=L.take d.1++bi/\d.1<=L.length/\i8 X (L.take d.1) d.2) (λd=>[(0,ae ay),(8,.slice N ((fw X.A h).length+1) O),(38,.slice N ((fw X.A h).length+1) O),(39,aa ((((fw X.A h).length+1:Nat)):Int)),(40,aa ((d.1:Nat):Int))]) (λd=>ag [a6 33 1 N ((fw X.A h).length+1) O (cO .u32 L),di ay af top d.2,F]) (λd=>L.length-d.1) (0,X) ⟨L,rfl,Vh _,i8.nil bF⟩ bH (b9 0 rfl (by rw[o3,P]) (aA (bT.mk aK bt:bT) trivial ai)) ?_;rintro⟨k,Y⟩ ⟨_,_,b3,D⟩ cF;dsimp only[cx]at b3 D⊢;apply J [43];apply Ve rfl<;>intro cr;have b4:k<L.length:=U
 obtain⟨x,bb⟩:∃x,L[k]? =some x:=⟨L[k],Vb b4⟩;obtain⟨H,cg,cf⟩:=aT x (Vg bb);have ce:L.take (k+1)=L.take k++[x]:=by grind[Vs]
 have cz:L=L.take k++x::L.drop (k+1):=(by grind[List.drop_eq_getElem_cons]);have qN:x∉L.take k:=λbO=>cv;have cw:0<(cO .u32 L).length:=by grind[je]
 have cq:k<(cO .u32 L).length:=by grind[je]
 refine J [207,378] ?_;refine q rfl rfl (dG rfl rfl (nI bb)) ?_;apply J [28,33];apply ba (UC ay af top Y x H D.de);intro⟨cA,bk⟩ ⟨W,bd⟩;apply J [8];have ar:=D.less W;dsimp only at W bd⊢;apply J [3,33];apply ba (Uw ay af top bk x H ar.de);intro⟨cC,w⟩ ⟨Q,bg⟩;apply J [8];have aw:=ar.less Q;dsimp only at Q bg⊢;refine aW.dk 0 rfl hG (λE=>?_);obtain⟨V,cm,co⟩:=E;have cb:eS w.A x=[]:=by grind[PI]
 obtain⟨ct,b0⟩:=wm ah.ok (L.take k);have a9:(av.cV w.A.l x).2=0:=by rw[aw.l];exact(b0 x H.1).1.2 ⟨cg,qN⟩
 have b1:∀s,w.A.aJ (x %256).toNat s=0:=λs=>(by by_cases cc:(bW Y.A.l x 2).2=0;exact Q.zero (bd s cc);refine WH λbO=>?_;obtain⟨_,⟨a,f,bn⟩,_⟩:=V.aJ _ _ bO;obtain⟨_,bl,_⟩:=x3 V bn;have:au w.A.l (x %256).toNat=x:=(by obtain⟨i,p,_,a2,_,_,a5,cn,_⟩:=oU H.1 a9;grind[rJ]);rw[this,Q.ck.l,W.ck.l]at bl;trivial);apply aW.open 0 rfl;rintro⟨aK,bt⟩-;apply J [9];dsimp only;apply J [3,37,78,27];apply ba (K2 aK af top w.A x H a9 cf cb bg b1);intro bh bo;apply J [9];refine aW.lT 0 rfl (λE=>?_);obtain⟨_,_,br⟩:=E;have aD:=aw.t7 V br bo;rw[<-ce]at aD;refine J [84] ?_;exact⟨rfl,(k+1,⟨bh,w.L,w.last⟩),⟨L.drop (k+1),(List.take_append_drop _ _).symm,by dsimp only;omega,aD⟩,cy,bH,(cZ (aA (bT.mk aK bt:bT) trivial ai))⟩;obtain rfl:k=L.length:=U
 rw[VY,P]at D;apply J [198,60,30];exact cT ((N,O),Y) (.inr ⟨hv,D⟩) ai;have hv:ig X.A h≠0:=by rw[ig,az u];exact u
 rw[show sT X.A h=[]from az hv,show ig X.A h=(av.cV X.A.l h).2 from az u];refine Ve rfl (λa0=>?_) (λa0=>absurd (u) a0);apply J [26,194,154];exact I9
theorem Q0{top:Nat}(h:dh top S):(dr S.C S.Fr).length<=128:=by have d:=vf h.bC (m:=V8 (2^top)) λx u=>W1.2 (h.lt x u);rw[List.length_range]at d;have w:2^top<=128:=Vi (n:=2) an h.fZ.2;omega
theorem cg.A6{top:Nat}(h:cg top A S)(au:128<=n):cg top {A with np:=n} S:=h.m0 (wF h.P rfl rfl rfl) rfl rfl rfl rfl h.Q (λ_ _ _ _ _ _ _=>⟨λh=>h,λh=>h.elim⟩) (λ_=>⟨λh=>h,λh=>h⟩) rfl (WB (Q0 h.P) au)
theorem cm.A6(h:cm A)(d:A.bF<=n/\A.now<=n)(u:n<=1000000):cm {A with np:=n}:=⟨h.ok,h.ee,h.rt,h.ac,h.c3,h.nu,h.aJ,h.hN,h.mD,h.oj,h.ol,h.m6,h.pd,by have:=h.bd;dsimp only;omega⟩
theorem OM{aK af top:Nat}(au:128<=n)(d:A.bF<=n/\A.now<=n)(u:n<=1000000):aG (iv aK af top A) (iv aK af top {A with np:=n}):=λh ⟨y,⟨r,a⟩,am⟩=>⟨h,z6 h,y,⟨r.A6 au,a.A6 d u⟩,am⟩
theorem ON{ay af top:Nat}(au:128<=n)(u:X.A.bF<=n/\X.A.now<=n)(w:n<=1000000):aG (di ay af top X) (di ay af top ⟨{X.A with np:=n},X.L,X.last⟩):=by intro h ⟨y,E,am⟩;obtain⟨d,D,C⟩:=dv (aG.refl _) (dv (OM (n:=n) au u w) (aG.refl _)) h am;exact⟨d,D,y,E,C⟩
theorem Up(aK af top:Nat)(A:bV)(d:aK=fa.aK):bK 86 [ae aK] bg [iv aK af top A] (λay:Nat=>ae ay) (λ_=>True) (λay=>[di ay af top ⟨A,[],0⟩]):=by apply aI Tryz.func86 Tryz.ntmps86;intro F _;apply J [1,130,42,98];apply ba b0.Ng;intro bt _;apply J [8];refine q rfl rfl (ei (cs:=[.pointer _,.pointer _]) rfl) ?_;refine e rfl ?_;refine fe (v:=.agg #[_,_]) (l:=[.pointer _,.pointer _]) rfl rfl ?_;intro be;apply J [109];exact bv be trivial (aA (bT.mk aK bt:bT) trivial ai)
theorem I1(af top:Nat)(X:ch)(h:Int)(d:0<=h/\h<=4294967295)(w:(bW X.A.l h 2).2=0)(s:Nat)(hs:s<128)(C:X.A.aJ (bo h) s=0)(c:Nat)(O:c<4294967295)(aD:(av.cV X.A.l (c:Int)).2=0)(P:(av.cV X.A.l (c:Int)).1.k≠8)(D:c8 X ek)(bF:X.A.np+2<=1000000):bK 89 [ae ay,aS h,aa s,.agg #[aS c,aa 15]] cW [di ay af top X] (λy:Int×ch=>aa y.1) (λy=>(y.1=0/\c8 y.2 ek/\∃Q,rS X.A (bQ X.A h) Q/\y.2.A=X.A.lay (bo h) s (dC c 15) Q)\/(y.1≠0/\c8 y.2 ek/\ro top X.A (bQ X.A h))) (λy=>[di ay af top y.2]):=by
 apply aI Tryz.func89 Tryz.ntmps89;intro F bi;apply J [1];haveI:cl F:=⟨bi⟩;have V:s<256:=U
 obtain⟨iW,a0⟩:∃iW,av.cV X.A.l (c:Int)=(iW,0):=⟨_,Prod.ext rfl aD⟩;rw[a0]at P;dsimp only at P;refine Wq 0 rfl hG (λN=>?_);obtain⟨u,dq,a5⟩:=N;refine J [25,244] ?_;intro bA;apply J [28,33];apply ba (ph ay af top X h d w);intro aP _;refine J [18,181] ?_;intro cj;refine J [86,216,106,434] ?_;rintro⟨aK,bt⟩-;apply J [247];dsimp only;apply J [44];refine ab.oO _ [] 13 rfl aV aV (show aG (ag _) (ag [aj ay 148 [ae aK,ae bt],aj bA 39 [aS c,aa 15]])from ai) ?_;refine J [332,413,397,414] ?_;refine dm (i:=4) rfl rfl rfl aV (c3 0 rfl rfl) ?_;refine dm (i:=5) rfl rfl rfl aV (gL rfl rfl rfl) ?_;refine jM (i:=6) (j:=10) rfl rfl rfl rfl aV ?_ ?_;apply aq (j3 aK af top X.A (c:Int) U 0);refine J [545,6] ?_;rw[iy,a0];refine J [546,227,13,162] ?_;intro a3;refine J [6,200,116,2] ?_;refine aW.bf (B:=ag [aj aP 163 [ae af,aa (bQ X.A h),aa (cI X.A h:Int)],di ay af top X,aj cj 150 [ae aP,aS h,aa (bQ X.A h)],aj bA 39 [aS c,aa 15],aj a3 60 (ints iW.l),F]) (eI (aA (bT.mk aK bt:bT) trivial ai)) ?_;refine e rfl ?_;apply aq (oz ay af top X aP h d w (s:Int));apply J [12];rw[show e5 X.A (bo h) (s:Int)=0 from(j4 V).trans C];refine J [229] ?_;intro br;apply J [77,104,51,140];apply aq (rf (s:Int));apply J [15];rw[c1 (show 0<=(s:Int)/\(s:Int)<256 by omega)];apply J [234,352,49,7];refine cJ [0,1,-2,3,4,5,7,8,9,-6,10,11,12] (show aG (ag _) (ag [aj bA 39 [aS c,aa 15],aj a3 60 (ints iW.l)])from ai) ?_;apply J [338];apply aq (yk 15);refine J [262,6] ?_;rw[c1 (show(0:Int)<15/\(15:Int)<=15 by decide)];apply J [377,153,306,373,163,547,242];apply aq (se (s:Int));refine J [262,6] ?_;rw[c1 (show(s:Int)<128 by omega)];refine eV rfl rfl rfl rfl (zx rfl rfl rfl) ?_;apply J [243,273];refine Ve rfl (λa9=>absurd a9 ((λe=>P (dp e.symm)))) (λa9=>?_);apply J [83,191,210,265,2,167,0];apply ba (yj ay af top X aP h d w s V C c 15 O an aD U);intro⟨cu,bg⟩ H;apply J [15];dsimp only;apply J [127];apply Ve rfl<;>intro he;obtain⟨bO,Z⟩:=w5 H he;dsimp only at bO;subst bO;have ar:c8 ⟨{X.A with np:=X.A.np+2},X.L,X.last⟩ ek:=D.obj u rfl (λ_ _ _=>rfl) (u.vm (Vt _ _) U) (Vt _ _);apply J [126];exact bv (cu,⟨{X.A with np:=X.A.np+2},X.L,X.last⟩) (.inr ⟨he,ar,Z⟩) ai;obtain rfl:cu=0:=Vf he;obtain⟨Q,bO,aw⟩:=w4 H rfl;dsimp only at bO;subst bO;have a1:=jg (r:=15) O an;have ah:c8 ⟨X.A.lay (bo h) s (dC c 15) Q,X.L,X.last⟩ (tZ (bo h) s):=D.lay u (by have:=d;rw[bo];omega) C a1.2 (Vt _ _) (λj r=>⟨λh=>.inr h,λh=>h.elim (λh=>h.elim) id⟩);have bn:=D.dn;have bl:=u.bd;refine Wq 1 rfl hG (λN=>?_);obtain⟨W,bh,bk⟩:=N;obtain⟨a2,E⟩:=ah.add (i:=bo h) (s:=s) (par:=0) W ⟨rfl,rfl⟩ (.inl rfl) (D':=ek) (λj r=>⟨λh=>h.elim,λh=>h.2 h.1⟩) (by show X.last+1<=((X.A.lay (bo h) s (dC c 15) Q).np:Int);dsimp only[bV.lay];omega);have aT:au (X.A.lay (bo h) s (dC c 15) Q).l (bo h)=h:=na a5 d.1 w;rw[aT]at a2 E;apply ab.open 1 rfl;rintro⟨aK,bt⟩-;apply J [58];dsimp only;refine J [4,87,230,27] ?_;apply aq (b0.wu bt X.L X.last 0 h (s:Int) U);apply J [22,123];exact bv (0,⟨X.A.lay (bo h) s (dC c 15) Q,(b0.gZ X.L X.last 0 (h,(s:Int))).1,(b0.gZ X.L X.last 0 (h,(s:Int))).2.1⟩) (.inl ⟨rfl,E,Q,aw,rfl⟩) (aA (bT.mk aK bt:bT) trivial ai);refine J [162] ?_;intro a4;refine J [6,548,13] ?_;apply aq (j3 aK af top X.A (c:Int) U 0);refine J [292,6] ?_;rw[iy,a0];refine J [227,200,116,2] ?_;refine aW.bf (B:=ag [aj aP 163 [ae af,aa (bQ X.A h),aa (cI X.A h:Int)],di ay af top X,aj cj 150 [ae aP,aS h,aa (bQ X.A h)],aj bA 39 [aS c,aa 15],aj a4 60 (ints iW.l),F]) (eI (aA (bT.mk aK bt:bT) trivial ai)) ?_;refine e rfl ?_;apply aq (oz ay af top X aP h d w (s:Int));apply J [12];rw[show e5 X.A (bo h) (s:Int)=0 from(j4 V).trans C];refine J [229] ?_;intro bz;apply J [77,104,51,140];apply aq (rf (s:Int));apply J [15];rw[c1 (show 0<=(s:Int)/\(s:Int)<256 by omega)];apply J [234,352,49,7];refine cJ [0,1,-2,3,4,5,7,8,9,-6,10,11,12] (show aG (ag _) (ag [aj bA 39 [aS c,aa 15],aj a4 60 (ints iW.l)])from ai) ?_;apply J [338];apply aq (yk 15);refine J [262,6] ?_;rw[c1 (show(0:Int)<15/\(15:Int)<=15 by decide)];apply J [377,153,306,373,163,547,242];apply aq (se (s:Int));refine J [262,6] ?_;rw[c1 (show(s:Int)<128 by omega)];refine eV rfl rfl rfl rfl (zx rfl rfl rfl) ?_;apply J [243,273];refine Ve rfl (λbb=>absurd bb ((λe=>P (dp e.symm)))) (λbb=>?_);apply J [83,191,210,265,2,167,0];apply ba (yj ay af top X aP h d w s V C c 15 O an aD U);intro⟨cu,bg⟩ H;apply J [15];dsimp only;apply J [127];apply Ve rfl<;>intro he;obtain⟨bO,Z⟩:=w5 H he;dsimp only at bO;subst bO;have ar:c8 ⟨{X.A with np:=X.A.np+2},X.L,X.last⟩ ek:=D.obj u rfl (λ_ _ _=>rfl) (u.vm (Vt _ _) U) (Vt _ _);apply J [126];exact bv (cu,⟨{X.A with np:=X.A.np+2},X.L,X.last⟩) (.inr ⟨he,ar,Z⟩) ai;obtain rfl:cu=0:=Vf he;obtain⟨Q,bO,aw⟩:=w4 H rfl;dsimp only at bO;subst bO;have a1:=jg (r:=15) O an;have ah:c8 ⟨X.A.lay (bo h) s (dC c 15) Q,X.L,X.last⟩ (tZ (bo h) s):=D.lay u (by have:=d;rw[bo];omega) C a1.2 (Vt _ _) (λj r=>⟨λh=>.inr h,λh=>h.elim (λh=>h.elim) id⟩);have bn:=D.dn;have bl:=u.bd;refine Wq 1 rfl hG (λN=>?_);obtain⟨W,bh,bk⟩:=N;obtain⟨a2,E⟩:=ah.add (i:=bo h) (s:=s) (par:=0) W ⟨rfl,rfl⟩ (.inl rfl) (D':=ek) (λj r=>⟨λh=>h.elim,λh=>h.2 h.1⟩) (by show X.last+1<=((X.A.lay (bo h) s (dC c 15) Q).np:Int);dsimp only[bV.lay];omega);have aT:au (X.A.lay (bo h) s (dC c 15) Q).l (bo h)=h:=na a5 d.1 w;rw[aT]at a2 E;apply ab.open 1 rfl;rintro⟨aK,bt⟩-;apply J [58];dsimp only;refine J [4,87,230,27] ?_;apply aq (b0.wu bt X.L X.last 0 h (s:Int) U);apply J [22,123];exact bv (0,⟨X.A.lay (bo h) s (dC c 15) Q,(b0.gZ X.L X.last 0 (h,(s:Int))).1,(b0.gZ X.L X.last 0 (h,(s:Int))).2.1⟩) (.inl ⟨rfl,E,Q,aw,rfl⟩) (aA (bT.mk aK bt:bT) trivial ai)
structure e4 where
  f:Nat
  t:Nat
  r:Nat
  g:Bool
def pX(m:e4):List Value:=[.int .i64 m.f,.int .i64 m.t,.int .i64 m.r,.bool m.g]
theorem uH(m:e4):(pX m).length=4:=rfl
def gw(l:List e4):List Value:=l.flatMap pX
variable(l:List e4)
theorem qT:(gw l).length=l.length*4:=kF uH l
theorem F5(k:List e4):gw l++gw k=gw (l++k):=by simp[gw]
theorem Qa:(gw l).take (l.length*4)=gw l:=List.take_of_length_le (by rw[qT];omega)
theorem F6:∀(l:List e4),(gw l).all VN=true
 | []=>rfl
 | m::l=>by rw[gw,Vw,List.all_append,<-gw,F6 l];rfl
def vE(m:e4):Prop:=m.f<256/\m.t<256/\1<=m.r/\m.r<=15
def lX(m a:e4):Bool:=decide ((a.t:Int)=(m.t:Int))||(decide ((a.f:Int)=(m.f:Int))&&(a.g||m.g))
def zO(X:ch)(h k:Int)(l:List e4)(m:e4):Prop:=X.A.aJ (bo h) m.f≠0/\kf (X.A.aJ (bo h) m.f)&&&m.r≠0/\X.A.aJ (bo k) m.t=0/\∀a∈l,lX m a=false
theorem Mz{l:List e4}{pr:e4->Bool}{t:e4}(d:l[k]? =some t)(u:pr t=true)(eP:∀j t,j<k->l[j]? =some t->pr t=false):l.findIdx? pr=some k:=by grind[List.findIdx?_eq_some_iff_getElem]
theorem MA{l:List e4}{pr:e4->Bool}(eP:∀j t,j<l.length->l[j]? =some t->pr t=false):l.findIdx? pr=none:=by rw[List.findIdx?_eq_none_iff];intro x d;obtain⟨j,u,rfl⟩:=XP d;simp_all
theorem Qc(ad:Option Addr)(cap:Nat)(l:List e4)(dc:Nat)(O:dc=l.length)(hb:FuncId)(lb:List Value)(pr:e4->Bool)(E:aw->Prop)(V:l.length<=100000000)(H:∀t,bz hb ([.agg (pX t).toArray]++lb) E [] (.bool (pr t)) []):eD VT 381 [.slice ad dc cap,.func (.func hb) #[] lb.toArray] (λF=>cQ F 427 ad (gw l)/\E (ag [F])) [] (λ_:Unit=>aa (match l.findIdx? pr with|some i=>(i:Int)|none=>-1)) (λ_=>True) (λ_=>[]):=by
 apply aI Tryz.func381 Tryz.ntmps381;intro F w;apply J [10];subst O;haveI:bn F ad 427 (gw l):=⟨w.1⟩;refine J [39,34,415,111,593] ?_;rintro k ⟨hinv,eP⟩ W;dsimp only[cx]at hinv eP⊢;apply J [43];apply Ve rfl<;>intro D;have D:k<l.length:=U
 obtain⟨t,C⟩:∃t,l[k]? =some t:=⟨l[k],Vb D⟩;have Q:0<(gw l).length:=by grind[qT]
 refine J [89,142,24,318,62,2,416] ?_;refine q rfl rfl (gM (vs:=[_,_,_,_]) 4 rfl rfl (k9 uH C 0 4 U U (show _=[aa (t.f:Int),aa t.t,aa t.r,.bool t.g]from rfl)) rfl an) ?_;refine e rfl ?_;refine k7 (H t) rfl rfl (ez _) w.2 ?_;intro _ _;apply J [151,3];cases P:pr t with|true=>?_|false=>?_
 apply J [14,142,166];have d:l.findIdx? pr=some k:=by grind[Mz]
 exact ca.i () [_] ⟨rfl,trivial⟩ (by rw[d];rfl) trivial ai;refine J [49,114] ?_;exact⟨rfl,(k+1),⟨by omega,λj u N hu=>by rcases YK.1 N with h|h;exact eP j u h hu;subst h;rw[C]at hu;cases hu;exact P⟩,U,bH,(ao (a7 _))⟩;obtain rfl:k=l.length:=by omega
 have d:l.findIdx? pr=none:=MA eP;apply J [21,212];exact ca.i () [_] ⟨rfl,trivial⟩ (by rw[d];rfl) trivial (ao (a7 _))
theorem Qb(ad:Option Addr)(cap:Nat)(l:List e4)(dc:Nat)(D:dc=l.length)(hb:FuncId)(lb:List Value)(pr:e4->Bool)(d:aw->Prop)(C:l.length<=100000000)(w:∀t,bz hb ([.agg (pX t).toArray]++lb) d [] (.bool (pr t)) []):eD VT 358 [.slice ad dc cap,.func (.func hb) #[] lb.toArray] (λF=>cQ F 427 ad (gw l)/\d (ag [ag [F]])) [] (λ_:Unit=>.bool (l.any pr)) (λ_=>True) (λ_=>[]):=by apply aI Tryz.func358 Tryz.ntmps358;intro F u;apply J [10];haveI:bn F ad 427 (gw l):=⟨u.1⟩;apply J [132,34,318,0];apply eJ (Qc ad cap l dc D hb lb pr d C w) ⟨bn.rd (ad:=ad),u.2⟩;apply J [151];have E:decide ((match l.findIdx? pr with|some i=>(i:Int)|none=>-1)>=0)=l.any pr:=cv;apply J [369,88];exact ca.i () [_] ⟨rfl,trivial⟩ (congrArg Wu E) trivial (ao (a7 _))
theorem MF(c:Nat)(m a:e4):bz 359 [.agg (pX a).toArray,ae c] (λF=>Rd F c (.cells (pX m).toArray 427 (0,0))) [] (.bool (lX m a)) []:=by apply aI Tryz.func359 Tryz.ntmps359;intro F C;apply J [10];haveI:gb F c (.cells (pX m).toArray 427 (0,0)):=⟨C⟩;obtain⟨f1,t1,dT,g1⟩:=a;obtain⟨f2,t2,w,g2⟩:=m;refine J [25,614] ?_;intro be;apply J [36,264,80,176];by_cases d:(t1:Int)=(t2:Int);refine VD 9 rfl (c:=true) (c1 d) ?_;apply J [46,102,160,160,160,160,160,160,362,133];exact ca.i () [_] ⟨rfl,trivial⟩ (congrArg Wu (show true=lX ⟨f2,t2,w,g2⟩ ⟨f1,t1,dT,g1⟩from by rw[lX];dsimp only;rw[c1 d];rfl)) trivial ai;refine VD 9 rfl (c:=false) (db d) ?_;apply J [184,184,155,319];by_cases u:(f1:Int)=(f2:Int);refine VD 15 rfl (c:=true) (c1 u) ?_;apply J [294,165,319];cases g1;apply J [294,165,389,371,94];exact ca.i () [_] ⟨rfl,trivial⟩ (congrArg Wu (show g2=lX ⟨f2,t2,w,g2⟩ ⟨f1,t1,dT,false⟩from by rw[lX];dsimp only;rw[db d,c1 u];cases g2<;>rfl)) trivial ai;apply J [102,371,371,94];exact ca.i () [_] ⟨rfl,trivial⟩ (congrArg Wu (show true=lX ⟨f2,t2,w,g2⟩ ⟨f1,t1,dT,true⟩from by rw[lX];dsimp only;rw[db d,c1 u];rfl)) trivial ai;refine VD 15 rfl (c:=false) (db u) ?_;apply J [74,160,160,362,389,94];exact ca.i () [_] ⟨rfl,trivial⟩ (congrArg Wu (show false=lX ⟨f2,t2,w,g2⟩ ⟨f1,t1,dT,g1⟩from by rw[lX];dsimp only;rw[db d,db u];rfl)) trivial ai
theorem MG(af top:Nat)(X:ch)(aP C:Nat)(h:Int)(W:0<=h/\h<=4294967295)(aD:(bW X.A.l h 2).2=0)(k:Int)(a0:0<=k/\k<=4294967295)(a1:(bW X.A.l k 2).2=0)(m:e4)(hm:vE m)(l:List e4)(ah:l.length<=100000000)(ad:Option Addr)(cap dc:Nat)(aw:dc=l.length):bK 317 [.agg #[ae aP,aS h,aa (bQ X.A h)],.agg #[ae C,aS k,aa (bQ X.A k)],.agg (pX m).toArray,.slice ad dc cap] (λF=>cQ F 427 ad (gw l)) [aj aP 163 [ae af,aa (bQ X.A h),aa (cI X.A h:Int)],aj C 163 [ae af,aa (bQ X.A k),aa (cI X.A k:Int)],di ay af top X] (λy:Int=>aa y) (λy=>y=0->zO X h k l m) (λ_=>[aj aP 163 [ae af,aa (bQ X.A h),aa (cI X.A h:Int)],aj C 163 [ae af,aa (bQ X.A k),aa (cI X.A k:Int)],di ay af top X]):=by
 apply aI Tryz.func317 Tryz.ntmps317;intro F Q;apply J [61];haveI:bn F ad 427 (gw l):=⟨Q⟩;obtain⟨f1,t1,dT,g1⟩:=m;obtain⟨D,H,ar,au⟩:=hm;dsimp only at D H ar au;refine Wq 2 rfl hG (λV=>?_);obtain⟨P,dq,a4⟩:=V;refine J [25,295] ?_;intro bA;refine J [0,295] ?_;intro cj;refine J [0,614] ?_;intro d;apply J [28,116,195];apply aq (oz ay af top X aP h W aD (f1:Int));refine J [15,229] ?_;intro a2;apply J [266,116,80,0];apply aq (oz ay af top X C k a0 a1 (t1:Int));refine J [54,229] ?_;intro a3;apply J [266,34,396,0];apply eJ (Qb ad cap l dc aw 359 [ae d] (lX ⟨f1,t1,dT,g1⟩) (λF=>Rd F d (.cells (pX ⟨f1,t1,dT,g1⟩).toArray 427 (0,0))) ah (λt=>MF d ⟨f1,t1,dT,g1⟩ t)) ⟨bn.rd (ad:=ad),jn (jn (gb.rd (b:=d)))⟩;apply J [22,104,51,99,0];apply aq (rf (f1:Int));apply J [22];rw[c1 (show 0<=(f1:Int)/\(f1:Int)<256 by omega)];apply J [64,20,237,144];apply aq (rf (t1:Int));apply J [22];rw[c1 (show 0<=(t1:Int)/\(t1:Int)<256 by omega)];apply J [311,71,191,7];refine cJ [0,1,-2,3,4,5,6,8,9,-7,-10,11,12,13] (show aG (ag _) (ag [aj d 427 [aa f1,aa t1,aa dT,.bool g1]])from ai) ?_;apply J [131,13];apply aq (yk (dT:Int));refine J [252,6] ?_;rw[c1 (show 0<(dT:Int)/\(dT:Int)<=15 by omega)];apply J [377,153,373,163,476,163,242];apply aq (se (f1:Int));refine J [252,6,242] ?_;apply aq (se (t1:Int));refine J [252,6] ?_;refine eV rfl rfl rfl rfl (xj rfl rfl rfl) ?_;apply J [243,273];refine ab.cond rfl (λZ=>?_) (λZ=>?_);apply J [108];exact bv 1 (λbO=>absurd bO an) ai;apply J [83,394,36];apply Ve rfl<;>intro ba;apply J [108];exact bv 6 (λbO=>absurd bO an) ai;have u:e5 X.A (bo h) (f1:Int)≠0:=U
 rw[al u,al u];rw[j4 D]at u;obtain⟨_,_,bi,fL,bh,bg,bd,aT,_⟩:=P.aJ _ _ u;obtain⟨_,c2⟩:=kg (r:=fL) aT;rw[j4 D];have a9:kf (X.A.aJ (bo h) f1)<=15:=b6
 apply J [264];refine q rfl rfl (ru (a:=kf (X.A.aJ (bo h) f1)) (b:=4) rfl rfl U an rfl) ?_;apply J [176];by_cases E:((kf (X.A.aJ (bo h) f1)&&&4:Nat):Int)=0;refine VD 64 rfl (c:=true) (c1 E) ?_;apply J [46,102,169,201];exact bv 9 (λbO=>absurd bO an) ai;refine VD 64 rfl (c:=false) (db E) ?_;apply J [237,233];refine c9 rfl rfl rfl (ru (a:=kf (X.A.aJ (bo h) f1)) (b:=dT) rfl rfl U U rfl) ?_;apply J [155,211];apply Ve rfl<;>intro bb;apply J [108];exact bv 9 (λbO=>absurd bO an) ai;have N:kf (X.A.aJ (bo h) f1)&&&dT≠0:=U
 apply J [83,20];by_cases w:e5 X.A (bo k) (t1:Int)=0;refine VD 74 rfl (c:=false) (db (λh=>h w)) ?_;apply J [319,211];refine ab.cond rfl (λav=>?_) (λav=>?_);apply J [108];exact bv 7 (λbO=>absurd bO an) ai;rw[j4 H]at w;have O:∀a∈l,lX ⟨f1,t1,dT,g1⟩ a=false:=λa a5=>b6;apply J [23,212];exact bv 0 (λ_=>⟨u,N,w,O⟩) ai;refine VD 74 rfl (c:=true) (c1 w) ?_;apply J [362,169,201];exact bv 7 (λbO=>absurd bO an) ai
def lZ(k:Int)(l:List e4)(p n:Nat):Nat->Nat->Prop:=λa r=>a=bo k/\∃(q:Nat) (m:e4),p<=q/\q<n/\l[q]? =some m/\m.t=r
theorem AX(k:Int)(l:List e4)(n:Nat):lZ k l n n=ek:=by funext a r;exact propext ⟨λ⟨_,q,_,d,u,_⟩=>absurd d U,λh=>h.elim⟩
def k2(X:ch)(h k:Int)(l:List e4):Prop:=∀q m,l[q]? =some m->zO X h k (l.take q) m
section
variable {X Y Z : ch} {h k : Int} {l : List e4} {p n c : Nat}
variable{m:e4}
theorem k2.lt(w:k2 X h k l){q r:Nat}{a:e4}(d:q<r)(u:l[q]? =some a)(hm:l[r]? =some m):lX m a=false:=(w r m hm).2.2.2 a (Vg (i:=q) (by rw[List.getElem?_take_of_lt d];exact u))
theorem AW{a:e4}(e:lX m a=false):a.t≠m.t/\(a.g=true\/m.g=true->a.f≠m.f):=by grind[lX]
theorem k2.ne(w:k2 X h k l){q r:Nat}{a:e4}(C:q≠r)(u:l[q]? =some a)(hm:l[r]? =some m):a.t≠m.t:=by rcases Nat.lt_or_gt_of_ne C with d|d;exact(AW (w.lt d u hm)).1;exact λe=>(AW (w.lt d hm u)).1 e.symm
theorem k2.bC(d:k2 X h k l){q:Nat}(hm:l[q]? =some m)(p n:Nat):¬lZ k l p n (bo h) m.f:=by rintro⟨u,r,a,_,_,C,w⟩;have:=(d r a C).2.2.1;rw[w,<-u]at this;exact(d q m hm).1 this
structure iE(X:ch)(h k:Int)(l:List e4)(p n c:Nat)(Y:ch):Prop where
  de:c8 Y (lZ k l p n)
  ck:fx X.A Y.A c
  L:Y.L=X.L
  dn:Y.last=X.last
  bF:Y.A.bF=X.A.bF
  np:p=0->X.A.np+2*n<=Y.A.np
  et:∀a s,¬lZ k l p n a s->Y.A.aJ a s=X.A.aJ a s
  nq:p=0->∀q m,q<n->l[q]? =some m->iI (Y.A.aJ (bo k) m.t)=iI (X.A.aJ (bo h) m.f)
theorem iE.nil(d:c8 X ek):iE X h k l 0 0 0 X:=⟨by rw[AX];exact d,fx.refl _ _,rfl,rfl,rfl,λ_=>Vj _,λ_ _ _=>rfl,λ_ q m h=>absurd h U⟩
theorem iE.to(C:iE X h k l 0 n c Y)(d:k2 X h k l)(hm:l[n]? =some m):Y.A.aJ (bo k) m.t=0:=by rw[C.et _ _ λ⟨_,q,a,_,D,u,w⟩=>d.ne U u hm w];exact(d n m hm).2.2.1
theorem iE.a1(d:iE X h k l p n c Y)(u:k2 X h k l){q:Nat}(hm:l[q]? =some m):Y.A.aJ (bo h) m.f=X.A.aJ (bo h) m.f:=d.et _ _ (u.bC hm _ _)
theorem iE.lay(d:iE X h k l 0 n c Y)(O:k2 X h k l)(aE:cm Y.A)(P:bo k<256)(hm:l[n]? =some m){w:Nat}(hw:w≠0)(V:iI w=iI (X.A.aJ (bo h) m.f))(Q:List aD.b1):iE X h k l 0 (n+1) (c+2) ⟨Y.A.lay (bo k) m.t w Q,Y.L,Y.last⟩:=by
 have aN:∀j r,lZ k l 0 (n+1) j r↔lZ k l 0 n j r\/(j=bo k/\r=m.t):=λj r=>(by constructor;rintro⟨C,q,a,D,E,u,N⟩;by_cases e:q=n;simp_all;exact .inl ⟨C,q,a,D,by omega,u,N⟩;rintro(⟨C,q,a,D,E,u,N⟩|⟨C,H⟩);exact⟨C,q,a,D,by omega,u,N⟩;exact⟨C,n,m,Vh _,Nat.lt_succ_self _,hm,H.symm⟩);refine⟨d.de.lay aE P (d.to O hm) hw (Vt _ _) aN,d.ck.trans ⟨rfl,rfl,⟨rfl,rfl,rfl⟩,rfl,by dsimp only[bV.lay];omega⟩,d.L,d.dn,d.bF,(λ_=>by have:=d.np rfl;dsimp only[bV.lay];omega),λa s au=>?_,λ_ q a D E=>?_⟩;have u:¬lZ k l 0 n a s/\¬(a=bo k/\s=m.t):=b6
 dsimp only[bV.lay];rw[tr u.2];exact d.et a s u.1;dsimp only[bV.lay];by_cases e:q=n;grind[il];rw[tr λH=>O.ne e E hm H.2];exact d.nq rfl q a U E
theorem iE.up(d:iE X h k l p n c Y)(aE:cm Y.A)(u:Y.A.np+2<=1000000):iE X h k l p n (c+2) ⟨{Y.A with np:=Y.A.np+2},Y.L,Y.last⟩:=
 ⟨d.de.obj aE rfl (λ_ _ _=>rfl) (aE.vm (Vt _ _) u) (Vt _ _),d.ck.trans ⟨rfl,rfl,⟨rfl,rfl,rfl⟩,rfl,by dsimp only;omega⟩,d.L,d.dn,d.bF,(λe=>by have:=d.np e;dsimp only;omega),d.et,d.nq⟩
theorem iE.un(d:iE X h k l p n c Y)(E:k2 X h k l)(aE:cm Y.A)(P:p<n)(hm:l[p]? =some m)(Q:List aD.b1):iE X h k l (p+1) n c ⟨Y.A.bare (bo k) m.t Q,Y.L,Y.last⟩:=by have O:lZ k l p n (bo k) m.t:=⟨rfl,p,m,Vj _,P,hm,rfl⟩;have aN:∀j r,lZ k l (p+1) n j r↔lZ k l p n j r/\¬(j=bo k/\r=m.t):=λj r=>(by constructor;rintro⟨C,q,a,N,D,u,w⟩;exact⟨⟨C,q,a,by omega,D,u,w⟩,λe=>E.ne (show q≠p by omega) u hm (w.trans e.2)⟩;rintro⟨⟨C,q,a,N,D,u,w⟩,V⟩;by_cases e:q=p;simp_all;exact⟨C,q,a,by omega,D,u,w⟩);refine⟨d.de.IC aE O aN,(d.ck.trans (m:=0) ⟨rfl,rfl,⟨rfl,rfl,rfl⟩,rfl,Vj _,Vj _⟩),d.L,d.dn,d.bF,(λe=>absurd e U),λa s au=>?_,λe=>absurd e U⟩;dsimp only[bV.bare];by_cases e:a=bo k/\s=m.t;rw[e.1,e.2,il];exact((E p m hm).2.2.1).symm;rw[tr e];exact d.et a s λH=>au ((aN a s).2 ⟨H,e⟩)
theorem iE.aJ(d:iE X h k l p n c Y)(w:k2 X h k l)(aE:cm Y.A)(u:p<n)(hm:l[p]? =some m):Y.A.aJ (bo k) m.t≠0:=d.de.kh _ _ ⟨rfl,p,m,Vj _,u,hm,rfl⟩
structure rp(Z:ch)(k:Int)(l:List e4)(n:Nat)(Y:ch):Prop where
  de:c8 Y (lZ k l n l.length)
  A:Y.A=Z.A
  dn:Y.last=Z.last+n
theorem rp.nil(d:c8 Z (lZ k l 0 l.length)):rp Z k l 0 Z:=⟨d,rfl,by omega⟩
theorem rp.next(N:iE X h k l 0 l.length c Z)(D:k2 X h k l)(av:cm Z.A)(P:au Z.A.l (bo h)=h/\au Z.A.l (bo k)=k)(d:rp Z k l n Y)(hm:l[n]? =some m)(a2:Z.last+l.length<=Z.A.np):
 (b0.gZ Y.L Y.last (b0.hE Y.L (h,(m.f:Int))) (k,(m.t:Int))).2.2.2=0/\rp Z k l (n+1) ⟨Y.A,(b0.gZ Y.L Y.last (b0.hE Y.L (h,(m.f:Int))) (k,(m.t:Int))).1,(b0.gZ Y.L Y.last (b0.hE Y.L (h,(m.f:Int))) (k,(m.t:Int))).2.1⟩:=by
 have Q:=(Vl.1 hm).1;have aE:cm Y.A:=by rw[d.A];exact av
 have aN:∀j r,lZ k l (n+1) l.length j r↔lZ k l n l.length j r/\¬(j=bo k/\r=m.t):=λj r=>(by constructor;rintro⟨u,q,a,C,w,E,H⟩;exact⟨⟨u,q,a,by omega,w,E,H⟩,λe=>D.ne (show q≠n by omega) E hm (H.trans e.2)⟩;rintro⟨⟨u,q,a,C,w,E,H⟩,O⟩;by_cases e:q=n;simp_all;exact⟨u,q,a,by omega,w,E,H⟩);have et:Y.A.aJ (bo h) m.f≠0:=by rw[d.A,N.a1 D hm];exact(D n m hm).1
 obtain⟨t,aw,u,V,aD,aI⟩:=d.de.find et (D.bC hm _ _);have W:au Y.A.l (bo h)=h:=by rw[d.A];exact P.1
 have ah:au Y.A.l (bo k)=k:=by rw[d.A];exact P.2
 rw[W]at u;have a0:=d.dn;obtain⟨C,w⟩:=d.de.add aE (i:=bo k) (s:=m.t) (par:=t.id) ⟨rfl,n,m,Vj _,Q,hm,rfl⟩ (.inr ⟨t,aw,rfl,λj r bM a3 aB=>by have O:=sP aE.ok (aE.mW et).1 (aE.mW aB).1 (V.symm.trans bM);(have aq:r=m.f:=by omega);rw[<-O,aq,d.A,N.nq rfl n m Q hm,N.a1 D hm]⟩) (D':=lZ k l (n+1) l.length) aN (by rw[d.A];omega);rw[ah]at C w;rw[u];refine⟨C,w,d.A,?_⟩;have aT:(b0.gZ Y.L Y.last t.id (k,(m.t:Int))).2.1=Y.last+1:=(by have ar:=C;unfold b0.gZ at ar⊢;grind);grind
structure pq(Z:ch)(h:Int)(l:List e4)(n:Nat)(Y:ch):Prop where
  de:c8 Y ek
  ck:fx Z.A Y.A 0
  dn:Y.last=Z.last
  e:∀q m,n<=q->l[q]? =some m->m.g=true->Y.A.aJ (bo h) m.f≠0
theorem pq.next(E:k2 X h k l)(cK:pq Z h l n Y)(aE:cm Y.A)(hm:l[n]? =some m)(u:m.g=true){t:b0.Fn}(H:t∈Y.L)(w:t.dH=au Y.A.l (bo h))(C:t.ck=(m.f:Int))(Q:List aD.b1):pq Z h l (n+1) ⟨Y.A.bare (bo h) m.f Q,b0.kn Y.L t.id,Y.last⟩:=by refine⟨cK.de.lift aE (cK.e n m (Vj _) hm u) H w C,(cK.ck.trans (m:=0) ⟨rfl,rfl,⟨rfl,rfl,rfl⟩,rfl,Vj _,Vj _⟩),cK.dn,λq a N d D=>?_⟩;dsimp only[bV.bare];rw[tr λe=>(AW (E.lt (show n<q by omega) hm d)).2 (.inl u) e.2.symm];exact cK.e q a U d D
theorem pq.skip(cK:pq Z h l n Y):pq Z h l (n+1) Y:=⟨cK.de,cK.ck,cK.dn,λq a d=>cK.e q a U⟩
end
variable(ay af top:Nat)(X:ch)(aP:Nat)
theorem Ui(h:Int)(w:0<=h/\h<=4294967295)(C:(bW X.A.l h 2).2=0)(s:Int)(eA:bV)(he:eA.l=X.A.l):bz 65 [.agg #[ae aP,aS h,aa (bQ eA h)],aa s] bg [aj aP 163 [ae af,aa (bQ eA h),aa (cI eA h:Int)],di ay af top X] (.tuple #[.agg #[aS (if(e5 X.A (bo h) s)=0 then 0 else(iI (e5 X.A (bo h) s):Int)),aa (if(e5 X.A (bo h) s)=0 then 0 else(kf (e5 X.A (bo h) s):Int))],.bool (decide ((e5 X.A (bo h) s)≠0))]) [aj aP 163 [ae af,aa (bQ eA h),aa (cI eA h:Int)],di ay af top X]:=by
 have d:bQ eA h=bQ X.A h:=by grind[bQ]
 have u:cI eA h=cI X.A h:=by grind[cI]
 grind[oz]
theorem Um(h:Int)(D:0<=h/\h<=4294967295)(H:(bW X.A.l h 2).2=0)(s:Nat)(hs:s<256)(w:X.A.aJ (bo h) s=0)(x r:Nat)(N:x<4294967295)(hr:1<=r/\r<=15)(E:(av.cV X.A.l x).2=0)(C:X.A.np+2<=1000000)(eA:bV)(he:eA.l=X.A.l):bK 138 [ae ay,.agg #[ae aP,aS h,aa (bQ eA h)],aa s,.agg #[aS x,aa r]] cW [aj aP 163 [ae af,aa (bQ eA h),aa (cI eA h:Int)],di ay af top X] (λy:Int×bV=>aa y.1) (λy=>vC top X.A (bo h) s (dC x r) (bQ X.A h) y) (λy=>[aj aP 163 [ae af,aa (bQ eA h),aa (cI eA h:Int)],di ay af top ⟨y.2,X.L,X.last⟩]):=by
 have d:bQ eA h=bQ X.A h:=by grind[bQ]
 have u:cI eA h=cI X.A h:=by grind[cI]
 grind[yj]
theorem IU(h:Int)(C:0<=h/\h<=4294967295)(D:(bW X.A.l h 2).2=0)(s:Nat)(hs:s<256)(w:X.A.aJ (bo h) s≠0)(eA:bV)(he:eA.l=X.A.l):bK 168 [ae ay,.agg #[ae aP,aS h,aa (bQ eA h)],aa s] cW [aj aP 163 [ae af,aa (bQ eA h),aa (cI eA h:Int)],di ay af top X] (λ_:bV=>.tuple #[]) (λy=>∃Q,y=X.A.bare (bo h) s Q) (λy=>[aj aP 163 [ae af,aa (bQ eA h),aa (cI eA h:Int)],di ay af top ⟨y,X.L,X.last⟩]):=by
 have d:bQ eA h=bQ X.A h:=by grind[bQ]
 have u:cI eA h=cI X.A h:=by grind[cI]
 grind[Ch]
theorem IZ(aK bt aP:Nat)(L:List b0.Fn)(last:Int)(h f s:Int)(d:0<=h/\h<=4294967295):bz 74 [ae ay,.agg #[ae aP,aS h,aa f],aa s] bg [aj ay 148 [ae aK,ae bt],b0.hF bt L last] (aa (b0.hE L (h,s))) [aj ay 148 [ae aK,ae bt],b0.hF bt L last]:=by apply aI Tryz.func74 Tryz.ntmps74;intro F _;refine J [11,25,295] ?_;intro be;apply J [31];refine cJ [0,1,2,3,4,5,6,7,-8,9] (show aG (ag _) (ag [aj be 150 [ae aP,aS h,aa f],aj ay 148 [ae aK,ae bt]])from ai) ?_;refine J [135,174,380,239] ?_;apply aq (b0.ww bt L last h s);refine J [326,143,147] ?_;exact dy
theorem Uy(Z:ch)(aP u:Nat)(h:Int)(W:0<=h/\h<=4294967295)(cm:(bW X.A.l h 2).2=0)(k:Int)(co:0<=k/\k<=4294967295)(cq:(bW X.A.l k 2).2=0)(l:List e4)(c:Nat)(w:iE X h k l 0 l.length c Z)(D:k2 X h k l)(cg:Z.last+l.length<=Z.A.np)(ad:Option Addr)(cap dc:Nat)(E:dc=l.length):bK 318 [ae ay,.agg #[ae aP,aS h,aa (bQ X.A h)],.agg #[ae u,aS k,aa (bQ X.A k)],.slice ad dc cap] (λF=>cW F/\cQ F 427 ad (gw l)) [aj aP 163 [ae af,aa (bQ X.A h),aa (cI X.A h:Int)],aj u 163 [ae af,aa (bQ X.A k),aa (cI X.A k:Int)],di ay af top Z] (λ_:ch=>.tuple #[]) (λy=>c8 y ek/\fx X.A y.A c) (λy=>[aj aP 163 [ae af,aa (bQ X.A h),aa (cI X.A h:Int)],aj u 163 [ae af,aa (bQ X.A k),aa (cI X.A k:Int)],di ay af top y]):=by
 apply aI Tryz.func318 Tryz.ntmps318;intro F aD;apply J [61];subst E;haveI:cl F:=⟨aD.1⟩;haveI:bn F ad 427 (gw l):=⟨aD.2⟩;refine Wq 2 rfl hG (λV=>?_);obtain⟨aw,b3,ce⟩:=V;have cf:=aw.bd;have hlen:l.length<=1000000:=by have:=w.dn;have:=w.de.ep.len;omega
 have el:Z.A.l=X.A.l:=w.ck.l;have br:au Z.A.l (bo h)=h/\au Z.A.l (bo k)=k:=by grind[na]
 have cn:bo h<256/\bo k<256:=by grind[bo]
 apply ab.open 2 rfl;rintro⟨aK,bt⟩-;apply J [152];dsimp only;refine J [25,295] ?_;intro bA;refine J [0,295] ?_;intro cj;apply J [29,34,415,111];refine VK (ι:=Nat×ch) (λd=>d.1<=l.length/\rp Z k l d.1 d.2) (λd=>[(0,ae ay),(3,.slice ad l.length cap),(5,ae bA),(6,ae cj),(12,.slice ad l.length cap),(13,aa ((l.length:Nat):Int)),(14,aa ((d.1:Nat):Int))]) (λd=>ag [aj bA 150 [ae aP,aS h,aa (bQ X.A h)],aj cj 150 [ae u,aS k,aa (bQ X.A k)],aj aP 163 [ae af,aa (bQ X.A h),aa (cI X.A h:Int)],aj u 163 [ae af,aa (bQ X.A k),aa (cI X.A k:Int)],aj ay 148 [ae aK,ae bt],iv aK af top Z.A,b0.hF bt d.2.L d.2.last,F]) (λd=>l.length-d.1) (0,Z) ⟨Vh _,rp.nil w.de⟩ bH ai ?_;rintro⟨n,Y⟩ ⟨E,C⟩ cr;dsimp only[cx]at E C⊢;apply J [43];apply Ve rfl<;>intro bF;·(have ah:n<l.length:=by omega);obtain⟨⟨f1,t1,dT,g1⟩,hm⟩:∃m,l[n]? =some m:=⟨l[n],Vb ah⟩;(have bz:0<(gw l).length:=by grind[qT]);have bl:=D n _ hm;have bB:=C.next w D aw br hm U;dsimp only at bB;(have bk:Y.last<=1000000:=by have:=C.dn;omega);(have a2:Y.L.length<=1000000:=by have:=C.de.ep.len;omega);refine J [207,416,491,0,450] ?_;intro a3;apply J [19,333,3];refine cJ [0,1,2,3,4,5,6,7,9,10,11,12,13,-8,-14] (show aG (ag _) (ag [aj ay 148 [ae aK,ae bt],aj bA 150 [ae aP,aS h,aa (bQ X.A h)],aj cj 150 [ae u,aS k,aa (bQ X.A k)],aj a3 427 [aa f1,aa t1,aa dT,.bool g1]])from ai) ?_;refine J [135,56,313,110,174,380,338] ?_;apply aq (IZ ay aK bt aP Y.L Y.last h (bQ X.A h) (f1:Int) W);refine J [252,47] ?_;apply aq (b0.wu bt Y.L Y.last (b0.hE Y.L (h,(f1:Int))) k (t1:Int) bk);refine J [252,6,308,343] ?_;exact⟨rfl,(n+1,⟨Y.A,(b0.gZ Y.L Y.last (b0.hE Y.L (h,(f1:Int))) (k,(t1:Int))).1,(b0.gZ Y.L Y.last (b0.hE Y.L (h,(f1:Int))) (k,(t1:Int))).2.1⟩),⟨by dsimp only;omega,bB.2⟩,cy,bH,ai⟩
 obtain rfl:n=l.length:=by omega
 have Q:=C.de;rw[AX]at Q;have a0:=C.A;obtain⟨b4,H,N⟩:=Y;dsimp only at a0 Q⊢;subst a0;have bi:pq ⟨Z.A,H,N⟩ h l 0 ⟨Z.A,H,N⟩:=⟨Q,fx.refl _ _,rfl,λq m _ hm _=>by show Z.A.aJ _ _≠0;rw[w.a1 D hm];exact(D q m hm).1⟩;apply J [198,415,111];refine VK (ι:=Nat×ch) (λd=>d.1<=l.length/\pq ⟨Z.A,H,N⟩ h l d.1 d.2) (λd=>[(0,ae ay),(3,.slice ad l.length cap),(5,ae bA),(6,ae cj),(34,.slice ad l.length cap),(35,aa ((l.length:Nat):Int)),(36,aa ((d.1:Nat):Int))]) (λd=>ag [aj bA 150 [ae aP,aS h,aa (bQ X.A h)],aj cj 150 [ae u,aS k,aa (bQ X.A k)],aj aP 163 [ae af,aa (bQ X.A h),aa (cI X.A h:Int)],aj u 163 [ae af,aa (bQ X.A k),aa (cI X.A k:Int)],di ay af top d.2,F]) (λd=>l.length-d.1) (0,⟨Z.A,H,N⟩) ⟨Vh _,bi⟩ bH (ao (ao (ao (ao (aA (bT.mk aK bt:bT) trivial ai))))) ?_;rintro⟨n,Y⟩ ⟨E,cK⟩ ct;dsimp only[cx]at E cK⊢;apply J [43];apply Ve rfl<;>intro bF;·(have ah:n<l.length:=by omega);obtain⟨⟨f1,t1,dT,g1⟩,hm⟩:∃m,l[n]? =some m:=⟨l[n],Vb ah⟩;(have bz:0<(gw l).length:=by grind[qT]);have bl:=D n _ hm;refine Wq 4 rfl hG (λV=>?_);obtain⟨P,b1,cc⟩:=V;have bb:X.A.l=Y.A.l:=el.symm.trans cK.ck.l.symm;(have a2:Y.L.length<=1000000:=by have:=cK.de.ep.len;have:=cK.de.dn;have:=P.bd;omega);(have bM:(bW Y.A.l h 2).2=0:=by simp_all);refine J [207,416,491,0,450] ?_;intro a4;apply J [19,333,93,231,3];cases g1;refine J [49,114] ?_;exact⟨rfl,(n+1,Y),⟨by dsimp only;omega,cK.skip⟩,cy,bH,ai⟩;apply J [14];have O:=cK.e n _ (Vj _) hm rfl;dsimp only at O;obtain⟨t,bL,av,a5,a9,cb⟩:=cK.de.find O (λh=>h);(have bg:au Y.A.l (bo h)=h:=by simp_all);rw[bg]at av;apply ab.open 5 rfl;rintro⟨aK,bt⟩-;apply J [58];dsimp only;refine ab.seq ?_;refine cJ [0,1,2,3,4,5,6,7,-8,-9] (show aG (ag _) (ag [aj ay 148 [ae aK,ae bt],aj bA 150 [ae aP,aS h,aa (bQ X.A h)],aj a4 427 [aa f1,aa t1,aa dT,.bool true]])from ai) ?_;apply J [135,56,313,110,13];apply aq (IZ ay aK bt aP Y.L Y.last h (bQ X.A h) (f1:Int) W);refine J [252,6] ?_;rw[av];refine dO rfl rfl ?_;apply aq (b0.Et bt Y.L Y.last t.id a2);refine J [252,113,37,246,79] ?_;refine aW.bf (B:=ag [aj aP 163 [ae af,aa (bQ X.A h),aa (cI X.A h:Int)],di ay af top ⟨Y.A,b0.kn Y.L t.id,Y.last⟩,aj bA 150 [ae aP,aS h,aa (bQ X.A h)],aj cj 150 [ae u,aS k,aa (bQ X.A k)],aj u 163 [ae af,aa (bQ X.A k),aa (cI X.A k:Int)],F]) (bU 6 rfl (aA (bT.mk aK bt:bT) trivial ai)) ?_;refine e rfl ?_;apply ba (IU ay af top ⟨Y.A,b0.kn Y.L t.id,Y.last⟩ aP h W bM f1 (P.mW O).2 O X.A bb);intro bV bh;apply J [12];obtain⟨ar,rfl⟩:=bh;have aT:=pq.next D cK P hm rfl bL a5 a9 ar;dsimp only at aT⊢;refine J [84] ?_;exact⟨rfl,(n+1,⟨Y.A.bare (bo h) f1 ar,b0.kn Y.L t.id,Y.last⟩),⟨by dsimp only;omega,aT⟩,cy,bH,ai⟩
 have j6:=w.ck.trans cK.ck;apply J [321];exact mR Y ⟨cK.de,j6⟩ ai
theorem JX{A:aw}{E:Nat}{ad:Option Addr}{l:List e4}{i:Nat}(x:cQ A E ad (gw l)):cQ A E ad (gw (l.take i)):=by have:=JW x (i*4);rwa[show(gw l).take (i*4)=gw (l.take i)from wz uH l i]at this
def yB(X:ch)(l:List e4)(y:Int×ch):Prop:=c8 y.2 ek/\fx X.A y.2.A (2*l.length+128)/\(y.1≠0->y.2.A.np<=max X.A.np 128)
theorem iE.fail{X Y:ch}{h k:Int}{l:List e4}{n c:Nat}(d:iE X h k l n n c Y)(w:c8 X ek){dc:Nat}(bO:dc=max X.A.np 128):c8 ⟨{Y.A with np:=dc},Y.L,Y.last⟩ ek/\fx X.A {Y.A with np:=dc} (2*l.length+128):=by have u:=d.de;rw[AX]at u;have C:=w.dn;exact⟨⟨u.ep,u.pZ,u.qW,u.kh,u.gi,by dsimp only;rw[d.dn];omega⟩,⟨d.ck.l,d.ck.z,d.ck.q,d.ck.o,by dsimp only;omega⟩⟩
theorem IX(h:Int)(ar:0<=h/\h<=4294967295)(k:Int)(V:0<=k/\k<=4294967295)(l:List e4)(bi:∀m∈l,vE m)(hlen:l.length<=1000)(a9:c8 X ek)(dF:X.A.np+2*l.length+2<=1000000)(ad:Option Addr)(cap dc:Nat)(P:dc=l.length)(dw:dc<=cap):bK 266 [ae ay,aS h,aS k,.slice ad dc cap] (λF=>cW F/\cQ F 427 ad (gw l)) [di ay af top X] (λy:Int×ch=>aa y.1) (λy=>yB X l y) (λy=>[di ay af top y.2]):=by
 apply aI Tryz.func266 Tryz.ntmps266;intro F bM;apply J [1];subst P;haveI:cl F:=⟨bM.1⟩;haveI:bn F ad 427 (gw l):=⟨bM.2⟩;have bk:∀e:Int,yB X l (e,X):=by grind[yB,fx.refl]
 refine Wq 0 rfl hG (λC=>?_);obtain⟨bL,dq,du⟩:=C;apply J [107,35];by_cases au:(bW X.A.l h 2).2=0;refine e rfl ?_;apply ba (ph ay af top X h ar au);intro aP _;refine J [8,181] ?_;intro bA;apply J [86,202,35];by_cases aD:(bW X.A.l k 2).2=0;refine e rfl ?_;apply ba (ph ay af top X k V aD);intro u _;refine J [9,181] ?_;intro D;apply J [86,216,122,34,415,111];refine VK (ι:=Nat) (λd=>d<=l.length/\∀q m,q<d->l[q]? =some m->zO X h k (l.take q) m) (λd=>[(0,ae ay),(3,.slice ad l.length cap),(9,ae bA),(11,ae D),(40,.slice ad l.length cap),(41,aa ((l.length:Nat):Int)),(42,aa ((d:Nat):Int))]) (λd=>ag [aj bA 150 [ae aP,aS h,aa (bQ X.A h)],aj D 150 [ae u,aS k,aa (bQ X.A k)],aj aP 163 [ae af,aa (bQ X.A h),aa (cI X.A h:Int)],aj u 163 [ae af,aa (bQ X.A k),aa (cI X.A k:Int)],di ay af top X,F]) (λd=>l.length-d) 0 ⟨Vh _,λq m h=>absurd h U⟩ bH ai ?_;rintro n ⟨P,bV⟩ dL;dsimp only[cx]at P bV⊢;apply J [43];apply Ve rfl<;>intro cM;have bh:n<l.length:=U
 obtain⟨⟨f1,t1,dT,g1⟩,hm⟩:∃m,l[n]? =some m:=⟨l[n],Vb bh⟩;have cL:0<(gw l).length:=by grind[qT]
 have a0:=bi _ (Vg hm);refine J [89,26,416,491,0,450] ?_;intro cq;apply J [48,19,333,29];refine cJ [0,1,2,3,4,5,-6,7] (show aG (ag _) (ag [aj bA 150 [ae aP,aS h,aa (bQ X.A h)],aj D 150 [ae u,aS k,aa (bQ X.A k)],aj cq 427 [aa f1,aa t1,aa dT,.bool g1]])from ai) ?_;apply J [313,313];refine bZ rfl rfl rfl (fY (vs:=[_,_,_,_]) 4 rfl rfl rfl rfl) ?_;apply J [193];refine bZ rfl rfl rfl (nM 427 4 (n) rfl rfl rfl U U) ?_;refine dO rfl rfl ?_;apply eN (MG ay af top X aP u h ar au k V aD ⟨f1,t1,dT,g1⟩ a0 (l.take n) (by rw[Wo];omega) ad cap n (by rw[Wo];omega)) (JX (bn.rd (ad:=ad)));intro cu cw;refine J [262,143,32] ?_;apply Ve rfl<;>intro he;apply J [142,166];exact bv (cu,X) (bk _) ai;have cz:=cw (Vf he);refine J [114] ?_;exact⟨rfl,(n+1),⟨by omega,λq m ah E=>by rcases YK.1 ah with O|O;exact bV q m O E;subst O;rw[hm]at E;cases E;exact cz⟩,U,bH,ai⟩;obtain rfl:n=l.length:=by omega
 have N:k2 X h k l:=by grind[k2]
 have c7:bo h<256/\bo k<256:=by grind[bo]
 have dv:=bL.bd;apply J [21,7,34,415,111];refine VK (ι:=Nat×ch) (λd=>d.1<=l.length/\iE X h k l 0 d.1 (2*d.1) d.2) (λd=>[(0,ae ay),(3,.slice ad l.length cap),(9,ae bA),(11,ae D),(58,.slice ad l.length cap),(59,aa ((l.length:Nat):Int)),(60,aa ((d.1:Nat):Int))]) (λd=>ag [aj bA 150 [ae aP,aS h,aa (bQ X.A h)],aj D 150 [ae u,aS k,aa (bQ X.A k)],aj aP 163 [ae af,aa (bQ X.A h),aa (cI X.A h:Int)],aj u 163 [ae af,aa (bQ X.A k),aa (cI X.A k:Int)],di ay af top d.2,F]) (λd=>l.length-d.1) (0,X) ⟨Vh _,iE.nil a9⟩ bH ai ?_;rintro⟨n,Y⟩ ⟨cS,w⟩ dN;dsimp only[cx]at cS w⊢;apply J [43];apply Ve rfl<;>intro cM;have bh:n<l.length:=U
 obtain⟨⟨f1,t1,dT,g1⟩,hm⟩:∃m,l[n]? =some m:=⟨l[n],Vb bh⟩;have cL:0<(gw l).length:=by grind[qT]
 have a0:=bi _ (Vg hm);refine Wq 4 rfl hG (λC=>?_);obtain⟨a3,cn,cC⟩:=C;have bz:X.A.l=Y.A.l:=w.ck.l.symm;have c6:(bW Y.A.l h 2).2=0:=b6
 have de:(bW Y.A.l k 2).2=0:=b6
 obtain⟨ah,E,O,_⟩:=N n _ hm;dsimp only at ah E O;obtain⟨_,_,a2,fL,cm,dK,c5,aw,dA⟩:=bL.aJ _ _ ah;obtain⟨br,c2⟩:=kg (r:=fL) aw;have kI:=w.a1 N hm;dsimp only at kI;have dd:e5 Y.A (bo h) (f1:Int)=dC a2 fL:=by grind[j4]
 have ce:=(jg (r:=fL) aw c5).2;rw[cm,c2]at E;have cf:fL&&&dT<=15:=by grind[Nat.and_le_left]
 have cg:=w.to N hm;dsimp only at cg;have dH:=w.ck.n;have dB:dT<=15:=a0.2.2.2;have cP:(av.cV Y.A.l (a2:Int)).2=0:=b6
 refine J [89,26,416,491,0,450] ?_;intro dr;apply J [48,19,333,93,246,195];apply aq (Ui ay af top Y aP h ar c6 (f1:Int) X.A bz);apply J [15];rw[dd,al ce,al ce,br,c2];refine J [229] ?_;intro ds;apply J [266,264,75];refine q rfl rfl (ru (a:=fL) (b:=dT) rfl rfl U U rfl) ?_;apply J [407,287,265,80,167,0];apply ba (Um ay af top Y u k V de t1 a0.2.1 cg a2 (fL&&&dT) aw ⟨by omega,cf⟩ cP U X.A bz);intro⟨cu,dl⟩ b1;apply J [54];dsimp only;apply J [127];apply Ve rfl<;>intro he;obtain⟨bO,_⟩:=w5 b1 he;dsimp only at bO;subst bO;have cF:=w.up a3 U;apply J [7,278];refine q rfl rfl (nM 427 4 (n) rfl rfl rfl U U) ?_;apply J [415,111];refine VK (ι:=Nat×ch) (λd=>d.1<=n/\iE X h k l d.1 n (2*n+2) d.2) (λd=>[(0,ae ay),(3,.slice ad l.length cap),(9,ae bA),(11,ae D),(19,aa cu),(88,.slice ad n cap),(89,aa ((n:Nat):Int)),(90,aa ((d.1:Nat):Int))]) (λd=>ag [aj bA 150 [ae aP,aS h,aa (bQ X.A h)],aj D 150 [ae u,aS k,aa (bQ X.A k)],aj aP 163 [ae af,aa (bQ X.A h),aa (cI X.A h:Int)],aj u 163 [ae af,aa (bQ X.A k),aa (cI X.A k:Int)],di ay af top d.2,F]) (λd=>n-d.1) (0,⟨{Y.A with np:=Y.A.np+2},Y.L,Y.last⟩) ⟨Vh _,cF⟩ bH ai ?_;rintro⟨W,Z⟩ ⟨c0,H⟩ dQ;dsimp only[cx]at c0 H⊢;apply J [43];apply Ve rfl<;>intro dx;have cN:W<l.length:=U
 have cc:W<n:=U
 obtain⟨⟨f2,t2,dh,g2⟩,aT⟩:∃m,l[W]? =some m:=⟨l[W],Vb cN⟩;have cR:=bi _ (Vg aT);refine Wq 4 rfl hG (λC=>?_);obtain⟨a4,co,cD⟩:=C;have cr:X.A.l=Z.A.l:=H.ck.l.symm;have df:(bW Z.A.l k 2).2=0:=b6
 have cb:=H.aJ N a4 cc aT;dsimp only at cb;refine J [207,416] ?_;refine q rfl rfl (gM (vs:=[_,_,_,_]) 4 rfl rfl (k9 uH aT 0 4 U U (show _=[aa (f2:Int),aa t2,aa dh,.bool g2]from rfl)) rfl an) ?_;refine J [0,450] ?_;intro dt;apply J [19,333,3,37,246,80,0];apply ba (IU ay af top Z u k V df t2 cR.2.1 cb X.A cr);intro dp ct;apply J [15];obtain⟨bl,rfl⟩:=ct;have b0:=H.un N a4 cc aT bl;dsimp only at b0⊢;refine J [84] ?_;exact⟨rfl,(W+1,⟨Z.A.bare (bo k) t2 bl,Z.L,Z.last⟩),⟨by dsimp only;omega,b0⟩,cy,bH,ai⟩;refine Wq 4 rfl hG (λC=>?_);obtain⟨a4,co,cD⟩:=C;obtain rfl:W=n:=U
 obtain⟨dc,P⟩:∃dc,dc=max X.A.np 128:=⟨_,rfl⟩;obtain⟨a5,bb⟩:=H.fail a9 P;have dI:=H.bF;have dD:=H.ck.q.2.1;have bg:128<=dc/\(Z.A.bF<=dc/\Z.A.now<=dc)/\dc<=1000000:=U
 apply J [21,142,166];exact bv (cu,⟨{Z.A with np:=dc},Z.L,Z.last⟩) ⟨a5,bb,λ_=>Nat.le_of_eq P⟩ (eO 4 rfl (ON bg.1 bg.2.1 bg.2.2) ai);obtain rfl:cu=0:=Vf he;obtain⟨Q,bO,_⟩:=w4 b1 rfl;dsimp only at bO;subst bO;have cU:=(jg (r:=fL&&&dT) aw cf).2;have cA:=w.lay N a3 c7.2 hm cU (by rw[cm,br,(kg aw).1]) Q;refine J [114] ?_;exact⟨rfl,(n+1,⟨Y.A.lay (bo k) t1 (dC a2 (fL&&&dT)) Q,Y.L,Y.last⟩),⟨by dsimp only;omega,cA⟩,cy,bH,ai⟩;refine Wq 4 rfl hG (λC=>?_);obtain⟨a3,cn,cC⟩:=C;obtain rfl:n=l.length:=U
 have cH:Y.last+(l.length:Int)<=Y.A.np:=(by have ah:=w.dn;have E:=a9.dn;have O:=w.np rfl;omega);apply J [21,265,246,238];apply eN (Uy ay af top X Y aP u h ar au k V aD l (2*l.length) w N cH ad cap l.length rfl) ⟨cl.aY,bn.rd (ad:=ad)⟩;intro Z ⟨a5,bb⟩;apply J [12,123];exact bv (0,Z) ⟨a5,bb.mono U,λh=>absurd rfl h⟩ ai;refine e rfl ?_;apply aq (ri ay af top X k V aD);refine J [18,181] ?_;intro cj;apply J [86,32];refine Ve rfl (λb4=>?_) (λb4=>absurd (aD) b4);apply J [126];exact bv ((bW X.A.l k 2).2,X) (bk _) ai;refine e rfl ?_;apply aq (ri ay af top X h ar au);refine J [5,181] ?_;intro be;apply J [86,32];refine Ve rfl (λb3=>?_) (λb3=>absurd (au) b3);apply J [126];exact bv ((bW X.A.l h 2).2,X) (bk _) ai
structure iP where
  b:Nat
  o:Nat
  r:Nat
  f:Nat
  g:Bool
def Ff(i:iP):List Value:=[.int .i64 i.b,.int .i64 i.o,.int .i64 i.r,.int .i64 i.f,.bool i.g]
theorem wP(i:iP):(Ff i).length=5:=rfl
def fq(l:List iP):List Value:=l.flatMap Ff
theorem ux(l:List iP):(fq l).length=l.length*5:=kF wP l
theorem OS(l k:List iP):fq l++fq k=fq (l++k):=by simp[fq]
def qk(i:iP):Prop:=i.b<256/\i.o<16/\i.r<16/\i.f<256
def nY(b o:Nat):Prop:=o<=7/\b %2^o=0
instance (b o:Nat):Decidable (nY b o):=inferInstanceAs (Decidable (_/\_))
def lE(i:iP):Prop:=nY i.b i.o/\1<=i.r
instance (i:iP):Decidable (lE i):=inferInstanceAs (Decidable (_/\_))
def OR:iP:=⟨0,0,0,0,false⟩
theorem s8{a b:Nat}(d:a<4294967296)(am:b<4294967296):a|||b<4294967296:=Nat.or_lt_two_pow (n:=32) d am
theorem Ix(b o:Nat)(am:b<256)(C:o<1000):bz 302 [aa b,aa o] bg [] (.bool (decide (nY b o))) []:=by
 apply aI Tryz.func302 Tryz.ntmps302;intro F _;refine J [10,221,271,466,209,73,525,17,310,73] ?_;refine VD 15 rfl (c:=true) (c1 U) ?_;apply J [17,288,73];by_cases d:o<=7;refine VD 19 rfl (c:=true) (c1 U) ?_;obtain⟨w,hw⟩:∃w,w=2^o:=⟨_,rfl⟩;have E:w<=128:=by rw[hw];exact Vi (n:=2) an d
 have D:1<=w:=cv
 have hand:b&&&(w-1)=b %w:=b6
 have u:b %w<=b:=Nat.mod_le _ _;apply J [17,17];refine c9 rfl rfl rfl (nL (a:=1) (n:=o) (c:=w) rfl rfl U (by rw[hw,Nat.one_mul]) U) ?_;refine c9 rfl rfl rfl (Wp (v:=((w-1:Nat):Int)) (pa rfl rfl U U) U) ?_;refine c9 rfl rfl rfl (ru (a:=b) (b:=w-1) (c:=b %w) rfl rfl U U hand) ?_;apply J [155,133];exact ca.i () [_] ⟨rfl,trivial⟩ (congrArg Wu (decide_eq_decide.2 (by rw[nY,<-hw];omega))) trivial ai;refine VD 19 rfl (c:=false) (db U) ?_;apply J [46,102,94];exact ca.i () [_] ⟨rfl,trivial⟩ (congrArg Wu (show false=_ from(db (λh=>d h.1)).symm)) trivial ai
theorem x6(b o r f:Nat)(g:Bool)(am:b<256)(aw:o<16)(hr:r<16)(av:f<256):bK 255 [.agg #[aa b,aa o,aa r,aa f,.bool g]] bg [] (λy:Nat=>.tuple #[bm y,.bool (decide (lE ⟨b,o,r,f,g⟩))]) (λy=>y<4294967296) (λ_=>[]):=by
 apply aI Tryz.func255 Tryz.ntmps255;intro F _;refine J [187,615] ?_;intro be;apply J [48,104,99,80,0];apply aq (Ix b o am U);apply J [5];by_cases d:nY b o;rw[c1 d];apply J [64,20,233,409,40];by_cases aD:r=0;refine VD 16 rfl (c:=true) (c1 U) ?_;apply J [74,73,74,73,74,136,185,50];rw[show decide (lE ⟨b,o,r,f,g⟩)=false from db (λh=>absurd h.2 cy)];exact cT 0 (Vq rfl) ai;refine VD 16 rfl (c:=false) (db U) ?_;apply J [233,159,40];refine VD 21 rfl (c:=false) (db U) ?_;apply J [294,165,409,40];refine VD 26 rfl (c:=false) (db U) ?_;apply J [294,165,310,97];refine Ve rfl (λE=>absurd E (U)) (λE=>?_);obtain⟨v1,bM⟩:=eH (o*2^8);obtain⟨v2,ah⟩:=eH (r*2^12);obtain⟨v3,ar⟩:=eH (f*2^24);have D:v1<4294967296/\v2<4294967296/\v3<4294967296:=U
 have Q:=s8 (a:=b) (b:=v1) U D.1;obtain⟨w,H⟩:=eH (b|||v1);rw[H]at Q;have V:=s8 (a:=w) (b:=v2) Q D.2.1;obtain⟨C,N⟩:=eH (w|||v2);rw[N]at V;have W:=s8 (a:=C) (b:=v3) V D.2.2;obtain⟨u,O⟩:=eH (C|||v3);rw[O]at W;have au:=s8 (a:=u) (b:=65536) W an;obtain⟨Z,P⟩:=eH (u|||65536);rw[P]at au;apply J [4,99,80];refine q rfl rfl (nL (a:=o) (n:=8) (c:=v1) rfl rfl an bM U) ?_;refine q rfl rfl (s9 (a:=b) (b:=v1) (c:=w) rfl rfl U U H) ?_;apply J [75];refine q rfl rfl (nL (a:=r) (n:=12) (c:=v2) rfl rfl an ah U) ?_;refine q rfl rfl (s9 (a:=w) (b:=v2) (c:=C) rfl rfl U U N) ?_;apply J [231];refine q rfl rfl (nL (a:=f) (n:=24) (c:=v3) rfl rfl an ar U) ?_;refine q rfl rfl (s9 (a:=C) (b:=v3) (c:=u) rfl rfl U U O) ?_;apply J [31,24,218,3];cases g;refine J [192,26,307,48,88] ?_;rw[show decide (lE ⟨b,o,r,f,false⟩)=true from c1 ⟨d,by dsimp only;omega⟩];exact cT u (by assumption) ai;apply J [14,217];refine q rfl rfl (s9 (a:=u) (b:=65536) (c:=Z) rfl rfl U U P) ?_;refine J [85,307,48,88] ?_;rw[show decide (lE ⟨b,o,r,f,true⟩)=true from c1 ⟨d,by dsimp only;omega⟩];exact cT Z (by assumption) ai;rw[db d];apply J [64,20,74,73,74,73,74,73,74,136,185,50];rw[show decide (lE ⟨b,o,r,f,g⟩)=false from db (λh=>d h.1)];exact cT 0 (Vq rfl) ai
theorem B9(b o:Nat)(am:b<256)(d:o<1000):bz 316 [.agg #[aa b,aa o]] bg [] (.bool (decide (nY b o))) []:=by apply aI Tryz.func316 Tryz.ntmps316;intro F _;refine J [187,244] ?_;intro bA;apply J [36,99,80,0];apply aq (Ix b o am d);apply J [5,88];exact dy
theorem Iy(x:Nat)(D:x<2^64):bK 203 [bm x] bg [] (λy:iP×Bool=>.tuple #[.agg #[aa y.1.b,aa y.1.o,aa y.1.r,aa y.1.f,.bool y.1.g],.bool y.2]) (λy=>qk y.1/\(y.2=true->lE y.1)) (λ_=>[]):=by
 apply aI Tryz.func203 Tryz.ntmps203;intro F _;apply J [10];obtain⟨cG,Q⟩:=eH (x&&&255);obtain⟨E,d2⟩:=eH (x/256);obtain⟨d,V⟩:=eH (E&&&15);obtain⟨H,d3⟩:=eH (x/4096);obtain⟨u,W⟩:=eH (H&&&15);obtain⟨N,d4⟩:=eH (x/65536);obtain⟨C,Z⟩:=eH (N&&&1);obtain⟨O,d5⟩:=eH (x/16777216);obtain⟨w,ah⟩:=eH (O&&&255);have aq:cG<=255:=by grind[WC]
 have ar:d<=15:=by grind[WC]
 have au:u<=15:=by grind[WC]
 have aw:w<=255:=by grind[WC]
 have f2:E<=x:=U
 have f3:H<=x:=U
 have f4:N<=x:=U
 have f5:O<=x:=U
 refine J [25,381] ?_;intro cj;apply J [36,26];refine q rfl rfl (kB (a:=x) (b:=255) (c:=cG) rfl rfl U an Q) ?_;refine J [261,2] ?_;refine q rfl rfl (jH (a:=x) (n:=8) (c:=E) rfl rfl D d2) ?_;refine q rfl rfl (kB (a:=E) (b:=15) (c:=d) rfl rfl U an V) ?_;refine J [261,2] ?_;refine q rfl rfl (jH (a:=x) (n:=12) (c:=H) rfl rfl D d3) ?_;refine q rfl rfl (kB (a:=H) (b:=15) (c:=u) rfl rfl U an W) ?_;refine J [261,2] ?_;refine q rfl rfl (jH (a:=x) (n:=16) (c:=N) rfl rfl D d4) ?_;refine q rfl rfl (kB (a:=N) (b:=1) (c:=C) rfl rfl U an Z) ?_;apply J [298,2];refine q rfl rfl (jH (a:=x) (n:=24) (c:=O) rfl rfl D d5) ?_;refine q rfl rfl (kB (a:=O) (b:=255) (c:=w) rfl rfl U an ah) ?_;refine J [261] ?_;refine q rfl rfl (ei (cs:=[aa cG,aa d,aa u,aa w,.bool (decide ((C:Int)=1))]) aV) ?_;refine J [0,381] ?_;intro av;apply J [19,312,29,24,398,0];apply ba (x6 cG d u w (decide ((C:Int)=1)) U U U U);intro aT aJ;apply J [8];by_cases P:lE ⟨cG,d,u,w,decide ((C:Int)=1)⟩;rw[c1 P];apply J [337,185,83,64,20,17,274,97];apply Ve rfl<;>intro aD;apply J [24,616,19,312,36,50];exact Ja;apply J [4,24,398,19,312,88];exact ca.i (⟨cG,d,u,w,decide ((C:Int)=1)⟩,true) [_,_] ⟨(fl (n:=5) rfl rfl rfl rfl),rfl,trivial⟩ rfl ⟨⟨by dsimp only;omega,by dsimp only;omega,by dsimp only;omega,by dsimp only;omega⟩,λ_=>P⟩ ai;rw[db P];apply J [337,185,83,64,20,74,136,616,19,312,36,50];exact Ja
variable(gD:Nat)
theorem sb(ar at9 i:Nat)(d:at9<=1000000)(u:i<=100):bz 367 [ae gD,aa i] bg [aj gD 459 [ae ar,aa at9]] (aa ((at9+i*8:Nat):Int)) [aj gD 459 [ae ar,aa at9]]:=by apply aI Tryz.func367 Tryz.ntmps367;intro F _;apply J [1,107,87,2];refine q rfl rfl (Wp (v:=((i*8:Nat):Int)) (mul rfl rfl (nQ U U)) U) ?_;refine q rfl rfl (Wp (v:=((at9+i*8:Nat):Int)) (ir rfl rfl U U) U) ?_;apply J [30];exact dy
theorem tq(ar at9 i n:Nat)(m:Nat->Nat)(au:n<=131072)(u:at9+256<=n)(d:at9 %8=0)(w:i<32):bz 374 [ae gD,aa i] bg [aj gD 459 [ae ar,aa at9],gB ar m n] (bm (cU m (at9+i*8):Int)) [aj gD 459 [ae ar,aa at9],gB ar m n]:=by apply aI Tryz.func374 Tryz.ntmps374;intro F _;apply J [11,39];refine cJ [0,1,2,3,4,5,-6,-7,8,9,10,11,12] (ao (a7 _)) ?_;apply J [72,56,239];apply aq (sb gD ar at9 i U U);refine J [263,47] ?_;apply aq (tM ar n (at9+i*8) m au U U);refine J [263,6,254,285,277,134] ?_;exact dy
variable(ar at9 n:Nat)
theorem TR(m:Nat->Nat)(au:n<=131072)(u:at9+256<=n)(w:at9 %8=0):bK 366 [ae ar,aa at9] bg [gB ar m n] (λgD:Nat=>ae gD) (λ_=>True) (λgD=>[aj gD 459 [ae ar,aa at9],gB ar m n]):=by apply aI Tryz.func366 Tryz.ntmps366;intro F _;apply J [1,130,33];apply ba (Kg ar n at9 256 m au an u);intro y _;refine J [5,296,320,70,194,216,20,17,469,309,97] ?_;refine Ve rfl (λd=>absurd d (U)) (λd=>?_);apply J [4,35];refine q rfl rfl (ei (cs:=[.pointer _,.int _ _]) rfl) ?_;refine J [0,523] ?_;intro be;apply J [109];exact bv be trivial ai
theorem TZ(ar at9 n:Nat)(m:Nat->Nat)(au:n<=131072)(P:at9+256<=n)(O:at9 %8=0):bK 386 [ae gD] bg [aj gD 459 [ae ar,aa at9],gB ar m n] (λy:Nat×Nat=>.agg #[aa y.1,aa y.2]) (λy=>y.1<256/\nY y.1 y.2) (λ_=>[aj gD 459 [ae ar,aa at9],gB ar m n]):=by
 apply aI Tryz.func386 Tryz.ntmps386;intro F _;apply J [11];refine ab.lT 1 rfl (λQ=>?_);obtain⟨_,ah⟩:=Q;refine J [25,240] ?_;intro bA;apply J [29,42,98];apply aq (tq gD ar at9 2 n m au P O an);apply J [18];obtain⟨x,V⟩:=eH (cU m (at9+2*8));have D:x<2^64:=by grind[sU]
 rw[V];obtain⟨cG,H⟩:=eH (x&&&255);obtain⟨u,d2⟩:=eH (x/2^8);obtain⟨d,N⟩:=eH (u&&&15);obtain⟨E,d3⟩:=eH (x/2^12);have W:cG<=255:=by grind[WC]
 have Z:d<=15:=by grind[WC]
 have f2:u<=x:=U
 apply J [85];refine q rfl rfl (kB (a:=x) (b:=255) (c:=cG) rfl rfl U an H) ?_;refine J [261,2] ?_;refine q rfl rfl (jH (a:=x) (n:=8) (c:=u) rfl rfl D d2) ?_;refine q rfl rfl (kB (a:=u) (b:=15) (c:=d) rfl rfl U an N) ?_;refine J [261] ?_;refine q rfl rfl (ei (cs:=[aa cG,aa d]) aV) ?_;refine J [0,240] ?_;intro cj;apply J [77,29,26];refine q rfl rfl (jH (a:=x) (n:=12) (c:=E) rfl rfl D d3) ?_;apply J [161,20];by_cases C:(E:Int)≠0;refine VD 21 rfl (c:=true) (c1 C) ?_;apply J [74,136,65,77,3,50];exact Jb;refine VD 21 rfl (c:=false) (db C) ?_;refine c9 rfl rfl rfl (fY (vs:=[_,_]) 2 rfl rfl rfl rfl) ?_;refine oP rfl rfl ?_;apply aq (B9 cG d U U);apply J [9];by_cases w:nY cG d;rw[c1 w];apply J [311,71,141,24,167,77,232];exact ca.i (cG,d) [_] ⟨(fl (n:=2) rfl rfl rfl rfl),trivial⟩ rfl ⟨by dsimp only;omega,w⟩ ai;rw[db w];apply J [311,97,76,65,77,3,50];exact Jb
theorem TU(ar at9 n:Nat)(m:Nat->Nat)(au:n<=131072)(Q:at9+256<=n)(P:at9 %8=0)(b o:Nat)(am:b<256)(V:o<256):bK 362 [ae gD,.agg #[aa b,aa o]] bg [aj gD 459 [ae ar,aa at9],gB ar m n] (λy:Int×(Nat->Nat)=>aa y.1) (λy=>∀i,i<at9\/at9+256<=i->y.2 i=m i) (λy=>[aj gD 459 [ae ar,aa at9],gB ar y.2 n]):=by apply aI Tryz.func362 Tryz.ntmps362;intro F _;refine J [11,25,244] ?_;intro H;apply J [31,228];refine c9 rfl rfl rfl (fY (vs:=[_,_]) 2 rfl rfl rfl rfl) ?_;refine oP rfl rfl ?_;apply aq (B9 b o am U);apply J [18];by_cases u:nY b o;rw[c1 u];have W:=u.1;obtain⟨v1,bM⟩:=eH (o*2^8);obtain⟨d,E⟩:=eH (b|||v1);have O:=s8 (a:=b) (b:=v1) U U;rw[E]at O;apply J [311,71,122];refine ab.oO _ [] 16 rfl aV aV (show aG (ag _) (ag [aj gD 459 [ae ar,aa at9],aj H 395 [aa b,aa o]])from ai) ?_;refine J [332,413,397,414,617] ?_;refine dm (i:=6) rfl rfl rfl aV (c3 0 rfl rfl) ?_;refine dm (i:=7) rfl rfl rfl aV (gL rfl rfl rfl) ?_;refine dm (i:=8) rfl rfl rfl aV (c3 1 rfl rfl) ?_;refine dm (i:=9) rfl rfl rfl aV (gL rfl rfl rfl) ?_;refine dm (i:=10) rfl rfl rfl aV (nL (a:=o) (n:=8) (c:=v1) rfl rfl an bM U) ?_;refine dm (i:=11) rfl rfl rfl aV (s9 (a:=b) (b:=v1) (c:=d) rfl rfl U U E) ?_;refine J [618] ?_;refine jM (i:=5) (j:=13) rfl rfl rfl rfl aV ?_ ?_;apply aq (sb gD ar at9 2 U U);change aG _ _/\ea _ _ _ _ _ _ _ _ _ _ _ (ag [_,_,_,_]);refine⟨ai,?_⟩;refine ea.of [(13,true),(14,true),(15,false)] aV rfl ?_;refine J [13,148] ?_;intro C;refine J [47] ?_;apply eJ (lJ ar n (at9+2*8) m [d] (cM C) 1 au Nat.one_pos jy U (by intro x w;rw[Vc.1 w];omega)) ⟨_,bn.rd (ad:=some ⟨C,0,none⟩)⟩;refine J [302,143,147] ?_;exact bv (0,dx m (at9+2*8) [d]) (λi N=>kR (by rw[Vk];omega)) ai;refine J [148] ?_;intro D;refine⟨ai,?_⟩;refine ea.of [(5,true),(14,true),(15,false)] aV rfl ?_;refine dO rfl rfl ?_;apply aq (sb gD ar at9 2 U U);refine J [302,47] ?_;apply eJ (lJ ar n (at9+2*8) m [d] (cM D) 1 au Nat.one_pos jy U (by intro x w;rw[Vc.1 w];omega)) ⟨_,bn.rd (ad:=some ⟨D,0,none⟩)⟩;refine J [302,143,147] ?_;exact bv (0,dx m (at9+2*8) [d]) (λi N=>kR (by rw[Vk];omega)) ai;rw[db u];apply J [311,97,14,213];exact bv (1,m) (λ_ _=>rfl) ai
structure pt where
  w3:Nat
  ws:List Nat
  aZ:List iP
def nU(m:pt):Prop:=m.w3<2^64/\m.ws.length<=8/\(∀w∈m.ws,w<2^64)/\m.aZ.length<=2/\∀i∈m.aZ,qk i/\lE i
structure nf where
  bE:Option Addr
  bY:Nat
  bI:Option Addr
  b5:Nat
def cR(l:List Nat):List Value:=cO .u64 (l.map λx:Nat=>(x:Int))
theorem vq(l:List Nat):(cR l).length=l.length:=by rw[cR,je,Wf]
theorem IN(l k:List Nat):cR l++cR k=cR (l++k):=by simp[cR,cO]
def nF(m:pt)(a:nf):Value:=.agg #[.int .u64 m.w3,.slice a.bE m.ws.length a.bY,.slice a.bI m.aZ.length a.b5]
def AV:pt:=⟨0,[],[]⟩
def qS:nf:=⟨none,0,none,0⟩
theorem nU.zero:nU AV:=⟨by decide,by decide,λw h=>(by cases h),by decide,λi h=>(by cases h)⟩
theorem B8(ar at9 n:Nat)(m:Nat->Nat)(au:n<=131072)(E:at9+256<=n)(D:at9 %8=0):bK 349 [ae gD] bg [aj gD 459 [ae ar,aa at9],gB ar m n] (λy:pt×nf=>nF y.1 y.2) (λy=>nU y.1) (λy=>[a6 47 1 y.2.bE y.1.ws.length y.2.bY (cR y.1.ws),a6 277 5 y.2.bI y.1.aZ.length y.2.b5 (fq y.1.aZ),aj gD 459 [ae ar,aa at9],gB ar m n]):=by
 apply aI Tryz.func349 Tryz.ntmps349;intro F _;apply J [11];refine ab.lT 1 rfl (λaD=>?_);obtain⟨_,bd⟩:=aD;refine J [25,399] ?_;intro be;apply J [29,42,98];apply aq (tq gD ar at9 0 n m au E D an);apply J [18];obtain⟨x,V⟩:=eH (cU m (at9+0*8));have Q:x<2^64:=by grind[sU]
 rw[V];obtain⟨cG,aw⟩:=eH (x&&&15);obtain⟨d,d2⟩:=eH (x/2^4);have a4:cG<=15:=by grind[WC]
 refine q rfl rfl (kB (a:=x) (b:=15) (c:=cG) rfl rfl Q an aw) ?_;apply J [158,0];apply aq (tq gD ar at9 0 n m au E D an);apply J [18];rw[V];refine q rfl rfl (jH (a:=x) (n:=4) (c:=d) rfl rfl Q d2) ?_;apply J [223,26,241,20];by_cases O:(cG:Int)>8;refine VD 21 rfl (c:=true) (c1 O) ?_;apply J [102,136,492,92,3,50];exact Co;refine VD 21 rfl (c:=false) (db O) ?_;apply J [168,97];apply Ve rfl<;>intro bb;apply J [24,492,92,3,50];exact Co;apply J [4,98];apply aq (tq gD ar at9 1 n m au E D an);apply J [18];obtain⟨u,aJ⟩:=eH (cU m (at9+1*8));have aT:u<2^64:=by grind[sU]
 rw[aJ];have g1:cG<=8:=U
 have g2:d<=2:=U
 refine q rfl rfl (ei (cs:=[bm u,.slice none 0 0,.slice none 0 0]) aV) ?_;refine J [0,399] ?_;intro bA;refine J [92,29,26,261,111] ?_;refine VK (ι:=List Nat×Option Addr×Nat) (λs=>s.1.length<=cG/\∀w∈s.1,w<2^64) (λs=>[(0,ae gD),(2,ae be),(4,bm d),(5,ae bA),(30,aa cG),(31,aa ((s.1.length:Nat):Int))]) (λs=>ag [a6 47 1 s.2.1 s.1.length s.2.2 (cR s.1),aj bA 387 [bm u,.slice s.2.1 s.1.length s.2.2,.slice none 0 0],aj be 387 [bm 0,.slice none 0 0,.slice none 0 0],aj gD 459 [ae ar,aa at9],gB ar m n,F]) (λs=>cG-s.1.length) ([],none,0) ⟨Vh _,λw h=>(by cases h)⟩ bH ((dE 47 1 _).trans ai) ?_;rintro⟨ws,bE,bY⟩ ⟨a1,hw⟩ bk;dsimp only[cx]at a1 hw⊢;apply J [43];apply Ve rfl<;>intro bh;have a0:ws.length<cG:=U
 apply J [89,142];refine ab.draw _ [9] [0,1,2,3,4,-5,-6,-7,8,-9] aV aV (show aG (ag _) (ag [aj gD 459 [ae ar,aa at9],aj bA 387 [bm u,.slice bE ws.length bY,.slice none 0 0]])from ai) ?_;apply J [174,56,16];refine bZ rfl rfl rfl (Wp (v:=((3+ws.length:Nat):Int)) (ir rfl rfl U U) U) ?_;refine dO rfl rfl ?_;apply aq (tq gD ar at9 (3+ws.length) n m au E D U);refine J [260,6] ?_;obtain⟨v,N⟩:=eH (cU m (at9+(3+ws.length)*8));have hv:v<2^64:=by grind[sU]
 rw[N];refine J [13,148] ?_;intro cj;refine J [47] ?_;refine ap 8 rfl rfl rfl rfl rfl (Vq rfl) (show _=cR [v]from rfl) rfl U gv ?_;intro W ah;refine J [6,430,67,368,308,343] ?_;exact⟨rfl,(ws++[v],W,ah),⟨by dsimp only;rw[mp,Vk];omega,λw h=>by rcases Vd.1 h with h|h;exact hw w h;rw[Vc.1 h];exact hv⟩,AJ,⟨rfl,rfl,rfl,rfl,rfl,congrArg (Wn .i64) xc,trivial⟩,(b9 1 rfl (by dsimp only;rw[IN,mp,Vk];first|done|fail) (b9 0 rfl xc ai))⟩;have a3:ws.length<=8:=U
 refine J [21,118,261,111] ?_;refine VK (ι:=List iP×Option Addr×Nat) (λs=>s.1.length<=d/\∀i∈s.1,qk i/\lE i) (λs=>[(0,ae gD),(2,ae be),(5,ae bA),(45,aa d),(46,aa ((s.1.length:Nat):Int))]) (λs=>ag [a6 277 5 s.2.1 s.1.length s.2.2 (fq s.1),a6 47 1 bE ws.length bY (cR ws),aj bA 387 [bm u,.slice bE ws.length bY,.slice s.2.1 s.1.length s.2.2],aj be 387 [bm 0,.slice none 0 0,.slice none 0 0],aj gD 459 [ae ar,aa at9],gB ar m n,F]) (λs=>d-s.1.length) ([],none,0) ⟨Vh _,λw h=>(by cases h)⟩ bH ((dE 277 5 _).trans ai) ?_;rintro⟨C,bI,b5⟩ ⟨a2,H⟩ bl;dsimp only[cx]at a2 H⊢;apply J [43];apply Ve rfl<;>intro a0;have bi:C.length<d:=U
 apply J [89,142,35];refine q rfl rfl (Wp (v:=((11+C.length:Nat):Int)) (ir rfl rfl U U) U) ?_;refine e rfl ?_;apply aq (tq gD ar at9 (11+C.length) n m au E D U);apply J [15];obtain⟨v,N⟩:=eH (cU m (at9+(11+C.length)*8));have hv:v<2^64:=by grind[sU]
 rw[N];refine e rfl ?_;apply ba (Iy v hv);intro⟨⟨ha,iW,fL,f9,g9⟩,ok⟩ ⟨aU,P⟩;apply J [15];dsimp only at aU P⊢;apply J [296];refine q rfl rfl (pu (v:=.agg #[_,_,_,_,_]) (λ_=>rfl)) ?_;refine J [351,381] ?_;intro a5;apply J [19,312,104,83,236];cases ok;apply J [76,492,92,3,493];exact Co;refine J [192,157,75,398,0,619] ?_;intro a9;refine e rfl ?_;refine ap 40 rfl rfl rfl rfl rfl (Vq rfl) (show _=fq [⟨ha,iW,fL,f9,g9⟩]from rfl) rfl U gv ?_;intro Z av;refine J [290,270,84] ?_;exact⟨rfl,(C++[⟨ha,iW,fL,f9,g9⟩],Z,av),⟨by dsimp only;rw[mp,Vk];omega,λw h=>by rcases Vd.1 h with h|h;exact H w h;rw[Vc.1 h];exact⟨aU,P rfl⟩⟩,AJ,⟨rfl,rfl,rfl,rfl,congrArg (Wn .i64) xc,trivial⟩,(b9 1 rfl (by dsimp only;rw[OS,mp,Vk];first|done|fail) (eI (b9 0 rfl xc ai)))⟩;apply J [21,116,92,232];exact ca.i (⟨u,ws,C⟩,⟨bE,bY,bI,b5⟩) [_] ⟨(fl (n:=3) rfl rfl rfl rfl),trivial⟩ rfl ⟨aT,a3,hw,by dsimp only;omega,H⟩ ai
end Go.Proofs.Q
namespace Go.QM
open Go
section
variable {r : Option Nat} {P : Program} {ah : Env} {K : Value → aw → Prop} {d : Option Tmp} {ty : TypeId} {ps : String} {bk : Array Edge} {g : Option (Nat × Bool)} {t t' : TypeId} {x y : Operand}
theorem LB{hs rest:List aw}{E sz T n cap W m D b:Nat}{C:Option Addr}{cs u H:List Value}(k:Nat)(a1:hq P t E sz=true)(a2:bh ah x=.slice (cM b) n cap)(a3:bh ah y=.slice C m D)
    [N:rq hs b T cs rest] [hr:bn (ag hs) C W u] (hm:m*sz<=u.length) (aD:Nat.min m n=k) (au:n*sz<=cs.length) (Z:(u.take (k*sz)).all VN=true) (a0:dN 0 (u.take (k*sz)) cs=H)
    (a4:K (aa k) (ag (aj b T H::rest))):cq r P ah ⟨d,.call ⟨.builtin .copy,#[x,y],#[t,t']⟩,ty,ps,bk,g⟩ (ag hs) K:=by
 refine cq.run rfl λw Q=>?_;obtain⟨i,N⟩:=N.tk;have O:=Q.bf (fO N);have am:w.heap[b]? =some (.cells cs.toArray T (0,0)):=(hA (ng b T _)).sat O;have aI:k<=m:=cv
 have aJ:k<=n:=cv
 have aT:k*sz<=u.length:=WB (VQ _ aI) hm;have aq:(u.take (k*sz)).length=k*sz:=b6
 have aB:0+(u.take (k*sz)).length<=cs.length:=by rw[aq];have:=VQ sz aJ;omega
 have V:=ve (P:=P) (off:=0) am aB Z;rw[a0]at V;have av:VF sz k (.slice C m D)=VF sz k (.slice C k D):=by cases C<;>rfl
 have ar:(VF sz k (.slice C m D)).run P w=.ok (u.take (k*sz)).toArray w:=by rw[av];exact qG (hr.rd.sat Q) aT
 refine⟨aa k,w.setRow b H.toArray,_,.inl ?_,⟨rfl,rfl,rfl,by simp⟩,xK O,a4⟩;simp[execOp,resolve,invoke,builtin,Builtin.copy_,a2,a3,h5 a1,Builtin.lenOf,aD,ar,V,goInt]
end
end Go.QM
