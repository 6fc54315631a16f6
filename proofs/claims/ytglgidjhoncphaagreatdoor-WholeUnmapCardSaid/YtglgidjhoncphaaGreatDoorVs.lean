/- Proved here: contracts of functions of this program, under the premises that each theorem names. -/
import Derived.Test.YtglgidjhoncphaaGreatDoorVr
set_option linter.all false
set_option maxRecDepth 4000
set_option maxHeartbeats 4000000
open List renaming length_append->mp,getElem?_eq_getElem->UO,mem_singleton->UP,mem_append->UQ,mem_of_getElem?->US,getElem?_eq_some_iff->UU,length_singleton->UY,mem_map->U3,take_add_one->U5,nodup_cons->U6,length_cons->U9,replicate->Va,flatMap_cons->Vf,nodup_append->Vg,take_of_length_le->Vs,getElem?_set_self->Vz,mem_flatMap->VA,take_length->VC,length_set->VH,getElem?_set_ne->VW,length_nil->WA,length->WB,length_replicate->WK,length_reverse->WP,flatMap_append->WQ,getElem?_eq_none->WX,map_map->XC,dropLast_concat_getLast->XY,ext_getElem?->X4,length_eq_zero_iff->Yq
open Go.QM.ab renaming aA->UR,loop->Vp,bg->Wd
open Decidable renaming of_not_not->UT,by_contra->VB
open Nat renaming pow_le_pow_right->UV,le_refl->UW,zero_le->UX,le_of_ble_eq_true->U2,le_add_right->U7,le_trans->We
open Go.QM.aT renaming known->Ve
open Go.Value renaming oneCell'->Vo,slice->Vt,int->V4
open BitVec renaming ofInt->Vy
open Int renaming toNat_of_nonneg->VM,le_refl->WE
open Option.some renaming inj->VQ
open Option renaming map_some->Wo
open Go.QM.b4 renaming i->XT
open List.Pairwise renaming nil->X5
namespace Go.Proofs.YtglgidjhoncphaaGreatDoor.aV
open Go Go.QM
theorem zy{α β:Type}{f g:α->List β}:∀{l:List α},(∀a∈l,f a=g a)->l.flatMap f=l.flatMap g
 | [],_=>rfl
 | a::l,h=>by rw[Vf,Vf,h a cE,zy λb d=>h b (by simp[d])]
def nU:Nat->List Fn->Int->List Int
  | 0,_,_=>[]
  | n+1,L,p=>(c5 L p).flatMap λk=>nU n L k++[k]
def hH(L:List Fn)(last p:Int):List Int:=nU (last-p).toNat L p
def gJ(L:List Fn)(last p:Int):List Int:=hH L last p++[p]
def hI(L:List Fn)(last p:Int):List Int:=if fx L p then hH L last p else[]
variable{L:List Fn}{last p:Int}
theorem oU(h:ct L last){k:Int}(d:k∈c5 L p):p<k/\k<=last/\1<=k:=by obtain⟨_,t,u,w,rfl⟩:=oT.1 d;have:=h.rg t u;omega
theorem sH(h:ct L last)(u:last<=p):c5 L p=[]:=by rw[List.eq_nil_iff_forall_not_mem];intro k d;have:=oU h d;omega
theorem C9{L:List Fn}{last:Int}(h:ct L last):∀(n m:Nat) (p:Int),(last-p).toNat<=n->(last-p).toNat<=m->nU n L p=nU m L p
 | 0,0,_,_,_=>rfl
 | 0,m+1,p,d,_=>by rw[nU,nU,sH h U];rfl
 | n+1,0,p,_,u=>by rw[nU,nU,sH h U];rfl
 | n+1,m+1,p,d,u=>by rw[nU,nU];refine zy λk w=>?_;have:=oU h w;rw[C9 h n m k U U]
theorem pw(h:ct L last)(p:Int):hH L last p=(c5 L p).flatMap (gJ L last):=by rw[hH];cases an:(last-p).toNat with|zero=>rw[sH h U];rfl|succ n=>rw[nU];refine zy λk d=>?_;have:=oU h d;rw[gJ,hH,C9 h n _ k U (UW _)]
inductive je(L:List Fn)(k:Int):Int->Prop
  | refl:je L k k
  | step {t:Fn}:t∈L->je L k t.par->je L k t.id
variable{x:Int}
theorem je.le(h:ct L last){k:Int}(a:je L k x):k<=x:=by induction a with|refl=>omega|step d _ u=>have:=h.rg _ d;omega
theorem J5{L:List Fn}(h:j2 L){bN u:Int}(a:je L bN x)(b:je L u x):bN=u\/(∃t∈L,t.id=bN/\je L u t.par)\/∃t∈L,t.id=u/\je L bN t.par:=by induction a with|refl=>(cases b with|refl=>exact .inl rfl|step d w=>exact .inr (.inl ⟨_,d,rfl,w⟩))|step d E D=>rename_i t;generalize C:t.id=x at b;(cases b with|refl=>exact .inr (.inr ⟨t,d,C,E⟩)|step hu w=>rw[h.inj d hu C]at D;exact D w)
theorem xr(h:ct L last):∀(n:Nat) (p:Int),(last-p).toNat<=n->∀x,x∈gJ L last p->je L p x:=by intro n;induction n with|zero=>intro p D x d;rw[gJ,pw h,sH h U]at d;simp at d;rw[d];exact .refl|succ n H=>intro p D x d;rw[gJ,pw h,UQ,UP]at d;rcases d with d|d;obtain⟨k,u,w⟩:=VA.1 d;have O:=oU h u;have:=H k U x w;obtain⟨_,t,E,C,rfl⟩:=oT.1 u;clear d w;(induction this with|refl=>exact .step E (by rw[C];exact .refl)|step hu _ N=>exact .step hu N);rw[d];exact .refl
theorem QU(h:ct L last){t:Fn}(C:t∈L):∀(n:Nat) (p:Int),(last-p).toNat<=n->p≠0->t.par∈gJ L last p->t.id∈gJ L last p:=by intro n;induction n with|zero=>intro p D u d;rw[gJ,pw h,sH h U]at d;simp at d;have:=h.rg t C;omega|succ n E=>intro p D u d;rw[gJ,pw h,UQ,UP]at d;rw[gJ,pw h,UQ];rcases d with d|d;obtain⟨k,w,d⟩:=VA.1 d;have H:=oU h w;exact .inl (VA.2 ⟨k,w,E k U U d⟩);exact .inl (VA.2 ⟨t.id,oT.2 ⟨u,t,C,d,rfl⟩,by rw[gJ];simp⟩)
theorem J6(h:ct L last)(d:p≠0)(a:je L p x):x∈gJ L last p:=by induction a with|refl=>rw[gJ];simp|step u _ w=>exact QU h u _ p (UW _) d w
theorem uy(h:ct L last)(d:p≠0):x∈gJ L last p↔je L p x:=⟨xr h _ p (UW _) x,J6 h d⟩
theorem su(h:ct L last)(d:x∈hH L last p):fx L x/\p<x/\x<=last/\1<=x:=by rw[pw h]at d;obtain⟨k,C,d⟩:=VA.1 d;have H:=oU h C;have w:=xr h _ k (UW _) x d;have N:=w.le h;have D:fx L x:=(by cases w with|refl=>obtain⟨_,t,u,_,E⟩:=oT.1 C;exact⟨t,u,E⟩|step u _=>exact⟨_,u,rfl⟩);have:=zK h D;grind
theorem AC(h:ct L last)(u:p≠0):x∈hH L last p↔je L p x/\x≠p:=by rw[<-uy h u,gJ,UQ,UP];constructor;intro d;have:=(su h d).2.1;exact⟨.inl d,by omega⟩;grind
theorem GV(h:ct L last):∀(n:Nat) (p:Int),(last-p).toNat<=n->(gJ L last p).Nodup:=by intro n;induction n with|zero=>intro p V;rw[gJ,pw h,sH h U];simp|succ n aq=>intro p V;(have O:∀x∈hH L last p,x≠p:=λx d=>by have:=(su h d).2.1;omega);rw[gJ,Vg];refine⟨?_,by simp,λx d y w=>by rw[UP.1 w];exact O x d⟩;rw[pw h,List.Nodup,List.pairwise_flatMap];refine⟨λk P=>?_,?_⟩;have:=oU h P;exact aq k U;refine(Fl h.bi p).imp_of_mem (λ{bN ar} C D Q x d y w e=>?_);subst e;have E:=xr h _ bN (UW _) x d;have a2:=xr h _ ar (UW _) x w;obtain⟨_,t1,ag,W,H⟩:=oT.1 C;obtain⟨_,t2,an,Z,N⟩:=oT.1 D;have g1:=oU h C;have g2:=oU h D;rcases J5 h.bi E a2 with e|⟨t,u,e,a⟩|⟨t,u,e,a⟩;exact Q e;rw[h.bi.inj u ag (e.trans H.symm),W]at a;have:=a.le h;omega;rw[h.bi.inj u an (e.trans N.symm),Z]at a;have:=a.le h;omega
theorem Dc(h:ct L last)(p:Int):(hH L last p).Nodup:=(Vg.1 (GV h _ p (UW _))).1
theorem qN{l m:List Int}(h:l.Nodup)(hs:∀x∈l,x∈m):l.length<=m.length:=by induction l generalizing m with|nil=>simp|cons a l E=>obtain⟨w,C⟩:=U6.1 h;obtain⟨s,t,rfl⟩:=List.append_of_mem (hs a cE);have:=E (m:=s++t) C (λx u=>by have d:=hs x (by simp[u]);have D:x≠a:=λe=>w (e▸u);simp at d⊢;rcases d with d|d|d;exact .inl d;exact absurd d D;exact .inr d);simp at this⊢;omega
theorem Db(h:ct L last)(p:Int):(hH L last p).length<=L.length:=by have:=qN (Dc h p) (m:=L.map (·.id)) (λx u=>by obtain⟨t,d,e⟩:=(su h u).1;exact U3.2 ⟨t,d,e⟩);simp_all
theorem Kp(h:ct L last)(p:Int):(hI L last p).length<=L.length:=by grind[hI,Db]
def HI(o:Int×Int):List Value:=ints [o.1,o.2]
theorem o4(o:Int×Int):(HI o).length=2:=rfl
def fZ(S:List (Int×Int)):List Value:=S.flatMap HI
theorem u2(S:List (Int×Int)):(fZ S).length=S.length*2:=kE o4 S
theorem HM(S T:List (Int×Int)):fZ S++fZ T=fZ (S++T):=by simp[fZ]
theorem Kq(h:ct L last)(d:x∈hI L last p):fx L x/\p<x/\x<=last/\1<=x:=by rw[hI]at d;split at d;exact su h d;trivial
variable{id:Int}
theorem Kr(h:¬fx L id):hI L last id=[]:=al h
structure nR(L:List Fn)(last id:Int)(W O:List Int):Prop where
  eq:W.flatMap (gJ L last)++O.reverse=gJ L last id
  mem:∀x∈W,fx L x
theorem nR.start(h:fx L id):nR L last id [id] []:=⟨by simp,by simpa using h⟩
theorem nR.next(au:ct L last){W O:List Int}(h:nR L last id (W++[x]) O):nR L last id (W++c5 L x) (O++[x]) where
 eq:=by
  have:=h.eq
  rw[WQ,Vf,List.flatMap_nil,List.append_nil,gJ,pw au]at this
  rw[WQ,List.reverse_append,<-this]
  simp
 mem:=λy w=>by
  rcases UQ.1 w with d|d
  ·exact h.mem y (by simp[d])
  obtain⟨_,t,u,_,e⟩:=oT.1 d;exact⟨t,u,e⟩
theorem nR.len(au:ct L last){W O:List Int}(h:nR L last id W O):W.length+O.length<=L.length+1:=by have d:=congrArg WB h.eq;have u:=Db au id;have w:W.length<=(W.flatMap (gJ L last)).length:=(by clear h d;induction W with|nil=>simp|cons a W C=>rw[Vf,mp,U9,gJ,mp,UY];omega);grind[gJ]
theorem nR.done{O:List Int}(h:nR L last id [] O):O.reverse=gJ L last id:=by simpa using h.eq
structure nQ(xs:List Int)(i:Nat)(ys:List Int):Prop where
  len:ys.length=xs.length
  at_:∀k,k<xs.length->ys[k]? =if k<i\/xs.length-i<=k then xs[xs.length-1-k]? else xs[k]?
theorem nQ.start(xs:List Int):nQ xs 0 xs:=⟨rfl,λk d=>by rw[al U]⟩
theorem nQ.next{xs:List Int}{i:Nat}{ys:List Int}(h:nQ xs i ys){u v:Int}(N:i+i+1<xs.length)(hu:ys[i]? =some u)(hv:ys[xs.length-1-i]? =some v):nQ xs (i+1) ((ys.set i v).set (xs.length-1-i) u) where
 len:=by rw[VH,VH];exact h.len
 at_:=λk H=>by have O:=h.len;have D:=h.at_ i U;have E:=h.at_ (xs.length-1-i) U;rw[al U]at D E;by_cases d:k=xs.length-1-i;subst d;rw[Vz Az,aw U,show xs.length-1-(xs.length-1-i)=i by omega,<-D,hu];rw[VW (λe=>d e.symm)];by_cases w:k=i;subst w;rw[Vz U,aw U,<-E,hv];rw[VW (λe=>w e.symm),h.at_ k H];by_cases C:k<i\/xs.length-i<=k;rw[aw C,aw U];rw[al C,al U]
theorem nQ.done{xs:List Int}{i:Nat}{ys:List Int}(h:nQ xs i ys)(u:xs.length<=i+i+1):ys=xs.reverse:=by apply X4;intro k;by_cases d:k<xs.length;rw[h.at_ k d,List.getElem?_reverse d];grind;rw[WX (by rw[h.len];omega),WX (by rw[WP];omega)]
end Go.Proofs.YtglgidjhoncphaaGreatDoor.aV
namespace Go.Proofs.YtglgidjhoncphaaGreatDoor.aV
open Go Go.QM
theorem Ro(ad:Option Addr)(cap:Nat)(xs:List Int)(H:xs.length<=1000000000):bu 119 [.slice ad xs.length cap] be [a1 3 1 ad xs.length cap (ints xs)] (.tuple #[]) [a1 3 1 ad xs.length cap (ints xs.reverse)]:=by
 apply aG Tryz.func119 Tryz.ntmps119;intro F _;refine J [1,33,326,218,141,76] ?_;refine Vp (ι:=Nat×List Int) (λs=>nQ xs s.1 s.2/\s.1<=xs.length) (λs=>[(0,.slice ad xs.length cap),(2,aa ((s.1:Nat):Int)),(3,aa ((xs.length:Int)-1-((s.1:Nat):Int)))]) (λs=>ah [a1 3 1 ad xs.length cap (ints s.2),F]) (λs=>xs.length-s.1) ⟨0,xs⟩ ⟨nQ.start xs,UX _⟩ ⟨rfl,rfl,congrArg (V4 .i64) cD,trivial⟩ (ao (ao (aZ _))) ?_;rintro⟨i,d⟩ ⟨w,C⟩ W;dsimp only[cr]at w C⊢;apply J [122,2,171];apply UR rfl<;>intro N;·have V:=w.len;have P:=eb d;obtain⟨u,hu⟩:∃u,d[i]? =some u:=⟨d[i],UO U⟩;obtain⟨v,hv⟩:∃v,d[xs.length-1-i]? =some v:=⟨d[xs.length-1-i],UO U⟩;(have E:d[((xs.length:Int)-1-(i:Int)).toNat]? =some v:=by simp_all);(have Q:(ints (d.set i v)).length=d.length:=by rw[eb,VH]);(have O:0<(ints d).length:=by omega);refine J [64,598,213,213,213,599] ?_;refine bU rfl rfl rfl (dC rfl rfl (hU E)) ?_;apply J [213];refine bU rfl rfl rfl (gP 3 1 rfl rfl rfl U dW) ?_;refine bU rfl rfl rfl (dC rfl rfl (hU hu)) ?_;refine bU rfl rfl rfl (gP 3 1 rfl rfl rfl U dW) ?_;refine J [90,511,599,90] ?_;refine eg (v:=.int _ _) (vs:=[_]) 1 rfl rfl rfl rfl rfl rfl am U (wC (i:=xs.length-1-i) Az U _) ?_;refine J [301,367,2,218,141] ?_;exact⟨rfl,⟨i+1,(d.set i v).set (xs.length-1-i) u⟩,⟨w.next U hu hv,by dsimp only;omega⟩,cD,⟨rfl,rfl,congrArg (V4 .i64) cD,trivial⟩,(ao (ao (aZ _)))⟩
 have D:=w.done U;subst D;apply J [331];exact ye
theorem Ei(b:Nat)(L:List Fn)(last:Int)(id:Int)(a9:L.length<=1000000):bL 75 [ae b,aa id] be [js b L last] (λy:Option Addr×Nat=>.slice y.1 (hI L last id).length y.2) (λ_=>True) (λy=>[a1 3 1 y.1 (hI L last id).length y.2 (ints (hI L last id)),js b L last]):=by
 apply aG Tryz.func75 Tryz.ntmps75;intro F _;apply J [1,121];refine ab.scope (ι:=(List Int×(Option Addr×Nat))×(List Int×(Option Addr×Nat))) 0 (λs=>nR L last id s.1.1 s.2.1/\fx L id) (λs=>[(0,ae b),(1,aa id),(5,.slice s.2.2.1 s.2.1.length s.2.2.2),(6,.slice s.1.2.1 s.1.1.length s.1.2.2)]) (λs=>ah [a1 3 1 s.1.2.1 s.1.1.length s.1.2.2 (ints s.1.1),a1 3 1 s.2.2.1 s.2.1.length s.2.2.2 (ints s.2.1),js b L last,F]) (λs=>(s.1.1.flatMap (gJ L last)).length) kJ ?_ ?_;·rintro⟨⟨W,⟨bx,bS⟩⟩,⟨O,⟨hY,fo⟩⟩⟩ ⟨d,H⟩ bn;dsimp only[cr]at d H⊢;apply J [8,33,326,219,3];apply UR rfl<;>intro a5;(·obtain⟨V,x,rfl⟩:∃V x,W=V++[x]:=(by(have Q:W≠[]:=by grind);exact⟨W.dropLast,W.getLast Q,(XY Q).symm⟩);(have aV:(V++[x]).length=V.length+1:=by simp_all);(have a3:(V++[x])[(((V.length+1:Nat):Int)-1).toNat]? =some x:=by simp_all);have bi:=eb (V++[x]);obtain⟨t,ag,a4⟩:=d.mem x cE;subst a4;obtain⟨M,bH⟩:=fp ag;rw[aV];refine ab.nl 0 rfl (λ_ bl a0=>?_);simp only[maxLen]at a0;(have bh:0<(ints (V++[t.id])).length:=by omega);refine J [33,84,326,218,512] ?_;refine q rfl rfl (dC rfl rfl (hU a3)) ?_;apply J [31];have N:aF (a1 3 1 bx (V.length+1) bS (ints (V++[t.id]))) (a1 3 1 bx V.length bS (ints V)):=(by have:=p0 (E:=3) (sz:=1) (ad:=bx) (n:=V.length+1) (cap:=bS) (cs:=ints (V++[t.id])) (j:=V.length) U;grind[ui]);refine Wd (eH 0 rfl N (ao (ao (ao (aZ _))))) ?_;refine ab.open 2 rfl (λA _=>?_);apply J [86];refine ab.open 0 rfl (λD w=>?_);obtain⟨ad,cap,aE,bt⟩:=D;have au:=w;apply J [145];dsimp only at au⊢;have P:=d.len au;have u:=oI (A:=A) ⟨t,ag,rfl⟩;have a8:=ur L t.id;have a7:=eb (c5 L t.id);rw[mp,UY]at P;apply J [346,534];refine cC [0,1,2,3,4,5,6,7,8,9,10,11,12,13,-14,15] (bv (c0 (c0 (aZ _)))) ?_;apply J [344,344];refine bU rfl rfl rfl (len 3 1 rfl rfl) ?_;refine J [437] ?_;refine bU rfl rfl rfl (nH 3 1 (V.length) rfl rfl rfl U U) ?_;apply J [49,15,535];rw[u];refine J [88,375,12,600] ?_;intro an av;refine J [6,347,74,33,66] ?_;intro bb;refine J [0,536] ?_;intro ar ax;apply J [180];refine ab.goto (gt (OQ ?_));exact⟨rfl,⟨⟨V++c5 L t.id,(an,av)⟩,⟨O++[t.id],(ar,ax)⟩⟩,⟨d.next au,H⟩,(by have aB:=congrArg WB d.eq;have aI:=congrArg WB (d.next au).eq;simp only[mp,WP,UY]at aB aI⊢;omega),⟨rfl,rfl,congrArg (λn=>Vt _ n _) sM,congrArg (λn=>Vt _ n _) uw,trivial⟩,(b8 2 rfl (by dsimp only;rw[pN,mp]) (b8 0 rfl (by dsimp only;rw[pN,mp];rfl) (ay A trivial (ay ⟨ad,cap,aE,bt⟩ au (ey (ey (ey (cQ 3 3 t rfl rfl rfl (λ_ _=>rfl) bH.symm (cQ 1 1 t rfl rfl rfl (λ_ _=>rfl) bH.symm (bV (aZ _)))))))))))⟩);obtain rfl:W=[]:=Yq.1 U;have Z:=d.done;have aS:O.length=(hH L last id).length+1:=(by have:=congrArg WB Z;grind[gJ]);have aY:hI L last id=hH L last id:=aw H;(have bd:(gJ L last id).length=(hH L last id).length+1:=by grind);rw[aY];refine ab.open 2 rfl (λA _=>?_);apply J [86];refine ab.open 0 rfl (λD w=>?_);obtain⟨ad,cap,aE,bt⟩:=D;have au:=w;apply J [145];dsimp only at au⊢;have P:=d.len au;rw[WA]at P;apply J [4,33,0];apply aq (Ro hY fo O U);apply J [78];rw[Z,aS];have N:aF (a1 3 1 hY ((hH L last id).length+1) fo (ints (gJ L last id))) (a1 3 1 hY (hH L last id).length fo (ints (hH L last id))):=(by have:=p0 (E:=3) (sz:=1) (ad:=hY) (n:=(hH L last id).length+1) (cap:=fo) (cs:=ints (gJ L last id)) (j:=(hH L last id).length) U;grind[ui,gJ]);apply J [29];refine ab.nl 0 rfl (λ_ bc _=>?_);refine J [104,84,326,218] ?_;refine q rfl rfl (nH 3 1 ((hH L last id).length) rfl rfl rfl U U) ?_;apply J [180];refine ab.ret (Fg ?_);exact br ⟨hY,fo⟩ trivial (eH 0 rfl N (ay A trivial (ay ⟨ad,cap,aE,bt⟩ au (ao (ao (ao (ao (ao (bV (aZ _))))))))))
 intro a2;refine ab.open 0 rfl (λA _=>?_);apply J [1];refine ab.open 0 rfl (λD w=>?_);obtain⟨ad,cap,aE,bt⟩:=D;have au:=w;apply J [155];dsimp only at au⊢;by_cases C:fx L id;have u:=oI (A:=A) C;apply J [8,32];apply aq (pI b aE bt L.length last (iE A L) id);apply J [14];rw[u];refine J [154,99,121,169,149] ?_;intro bo;apply J [188];refine ab.label (ie ?_);exact ab.enter a2 ⟨⟨[id],(some ⟨bo,0,none⟩,1)⟩,⟨[],(none,0)⟩⟩ ⟨nR.start C,C⟩ ⟨rfl,rfl,rfl,rfl,trivial⟩ ((dH 3 1 _).trans (bV (ao (ay A trivial (ay ⟨ad,cap,aE,bt⟩ au (ao (ao (ao (ao (ao (ao (aZ _))))))))))));have u:=pH (A:=A) C;rw[Kr C];apply J [8,32];apply aq (pI b aE bt L.length last (iE A L) id);apply J [14];rw[u];apply J [154,3,55,180];refine ab.ret (rt (Fg ?_));exact br ⟨none,0⟩ trivial ((dH 3 1 _).trans (ao (ay A trivial (ay ⟨ad,cap,aE,bt⟩ au (ao (ao (ao (ao (ao (ao (aZ _)))))))))))
end Go.Proofs.YtglgidjhoncphaaGreatDoor.aV
namespace Go.Proofs.YtglgidjhoncphaaGreatDoor
open Go Go.QM
variable [dK]
theorem AX(k:IntKind){xs:List Int}{i:Nat}(h:i<xs.length){o:Nat}(d:o=i*1)(v:Int):dI o [.int k v] (cT k xs)=cT k (xs.set i v):=by
 subst d;rw[Nat.mul_one];apply X4;intro j;have u:(cT k xs).length=xs.length:=by grind[jR]
 rw[dI,cT,cT,List.getElem?_map,List.getElem?_set,List.append_assoc];grind
theorem Gd(k:IntKind)(xs:List Int)(n:Nat):(cT k xs).take (n*1)=cT k (xs.take n):=by simp[cT,List.map_take]
theorem Qf(k:IntKind){xs:List Int}{n:Nat}(h:xs.length=n):(cT k xs).take (n*1)=cT k xs:=Vs (by rw[jR];omega)
theorem Gc(k:IntKind)(xs:List Int):(cT k xs).all Vo=true:=by simp[cT,List.all_eq_true,Vo]
variable{A:bQ}
theorem ck.neg(h:ck A)(x:Int)(D:x<0)(k:Int):(bT A.l x k).2≠0:=λe=>by
 have u:(av.cR A.l x).2=0:=by
  unfold bT at e
  split at e
  ·dsimp only at e;exact absurd e am
  exact e
 rw[av.cR]at u
 cases d:av.ej A.l x 1 with
 | none=>rw[d]at u;exact absurd u am
 | some y=>
  unfold av.ej at d
  split at d
  ·rename_i p w
   split at d
   ·rename_i C
    have:=(h.ok.c4 p (US w)).1
    omega
   cases d
  cases d
theorem ck.wL{top:Nat}{S:cL}(h:ck A)(d:ch top A S):lG (eK A) (jw A):=h.O0 d.bN λx u=>h.neg x u 1
theorem x1(h:ck A)(u:lG (eK A) (jw A)):∀(n:Nat) (x z:Int),jw A x<=n->z∈hk (eK A) (jw A) x->z=x\/z∈av.eA A.l 1
 | n,x,z,an,w=>by rcases rS u _ x z (UW _) w with e|⟨y,d,_⟩;exact .inl e;exact .inr (n9.1 d).2.1
theorem Bg(h:ck A)(C:lG (eK A) (jw A))(x:Int):(hk (eK A) (jw A) x).length<=257:=by have H:=Bh C _ x (UW _);rw[o0 C]at H⊢;obtain⟨O,_,_⟩:=Vg.1 H;have P:(((eK A x).flatMap (hk (eK A) (jw A))).map Int.toNat).Nodup:=(by rw[List.Nodup,List.pairwise_map];refine List.Pairwise.imp_of_mem ?_ O;intro a b Q V W e;have bK:∀c∈(eK A x).flatMap (hk (eK A) (jw A)),0<=c:=λc D=>(by obtain⟨y,E,d⟩:=VA.1 D;have u:=(n9.1 E).2.1;rcases x1 h C _ y c (UW _) d with e|N;rw[e];exact(nd h.ok u).1;exact(nd h.ok N).1);grind);have d:=u5 P (m:=(av.eA A.l 1).map Int.toNat) λw hw=>(by obtain⟨c,D,rfl⟩:=U3.1 hw;obtain⟨y,E,d⟩:=VA.1 D;have u:=(n9.1 E).2.1;rcases x1 h C _ y c (UW _) d with e|N;all_goals grind);have u:=av.qp A.l 1;rw[h.ok.n]at u;grind
theorem NS(ad:Option Addr)(cap:Nat)(xs:List Int)(H:xs.length<=1000000000):bu 309 [.slice ad xs.length cap] be [a1 33 1 ad xs.length cap (cT .u32 xs)] (.tuple #[]) [a1 33 1 ad xs.length cap (cT .u32 xs.reverse)]:=by
 apply aG Tryz.func309 Tryz.ntmps309;intro F _;refine J [1,33,288,218,141,76] ?_;refine Vp (ι:=Nat×List Int) (λs=>aV.nQ xs s.1 s.2/\s.1<=xs.length) (λs=>[(0,.slice ad xs.length cap),(2,aa ((s.1:Nat):Int)),(3,aa ((xs.length:Int)-1-((s.1:Nat):Int)))]) (λs=>ah [a1 33 1 ad xs.length cap (cT .u32 s.2),F]) (λs=>xs.length-s.1) ⟨0,xs⟩ ⟨aV.nQ.start xs,UX _⟩ ⟨rfl,rfl,congrArg (V4 .i64) cD,trivial⟩ (ao (ao (aZ _))) ?_;rintro⟨i,d⟩ ⟨w,C⟩ W;dsimp only[cr]at w C⊢;apply J [122,2,171];apply UR rfl<;>intro N;·have V:=w.len;have P:=jR .u32 d;obtain⟨u,hu⟩:∃u,d[i]? =some u:=⟨d[i],UO U⟩;obtain⟨v,hv⟩:∃v,d[xs.length-1-i]? =some v:=⟨d[xs.length-1-i],UO U⟩;(have E:d[((xs.length:Int)-1-(i:Int)).toNat]? =some v:=by simp_all);(have Q:(cT .u32 (d.set i v)).length=d.length:=by rw[jR,VH]);(have O:0<(cT .u32 d).length:=by omega);refine J [64,598,213,213,213,601] ?_;refine bU rfl rfl rfl (dC rfl rfl (pT E)) ?_;apply J [213];refine bU rfl rfl rfl (gP 33 1 rfl rfl rfl U dW) ?_;refine bU rfl rfl rfl (dC rfl rfl (pT hu)) ?_;refine bU rfl rfl rfl (gP 33 1 rfl rfl rfl U dW) ?_;apply J [90];refine QM.eg (v:=.int _ _) (vs:=[_]) 1 rfl rfl rfl rfl rfl rfl am U (AX .u32 (i:=i) U U _) ?_;refine J [601,90] ?_;refine QM.eg (v:=.int _ _) (vs:=[_]) 1 rfl rfl rfl rfl rfl rfl am U (AX .u32 (i:=xs.length-1-i) Az U _) ?_;refine J [301,367,2,218,141] ?_;exact⟨rfl,⟨i+1,(d.set i v).set (xs.length-1-i) u⟩,⟨w.next U hu hv,by dsimp only;omega⟩,cD,⟨rfl,rfl,congrArg (V4 .i64) cD,trivial⟩,(ao (ao (aZ _)))⟩
 have D:=w.done U;subst D;apply J [331];exact ye
variable(aO af:Nat)
theorem DJ(top:Nat)(A:bQ)(h:Int)(a5:0<=h/\h<=4294967295):bL 259 [ae aO,aR h] be [hA aO af top A] (λy:Option Addr×Nat=>.slice y.1 (fr A h).length y.2) (λ_=>True) (λy=>[a1 33 1 y.1 (fr A h).length y.2 (cT .u32 (fr A h)),hA aO af top A]):=by
 apply aG Tryz.func259 Tryz.ntmps259;intro F _;apply J [1];refine ab.lU 0 rfl (λax=>?_);obtain⟨_,ar,u⟩:=ax;have d:=u.wL ar;have bd:=Bg u d h;have bh:hk (eK A) (jw A) h=fr A h++[h]:=o0 d h;have aS:∀z∈hk (eK A) (jw A) h,0<=z/\z<=4294967295:=λz a0=>(by rcases x1 u d _ h z (UW _) a0 with e|e;omega;exact nd u.ok e);refine J [121,121,169,149] ?_;intro bb;apply J [188,76];refine Vp (ι:=(List Int×Option Addr×Nat)×(List Int×Option Addr×Nat)) (λs=>s.1.1.flatMap (hk (eK A) (jw A))++s.2.1.reverse=hk (eK A) (jw A) h) (λs=>[(0,ae aO),(1,aR h),(5,.slice s.2.2.1 s.2.1.length s.2.2.2),(6,.slice s.1.2.1 s.1.1.length s.1.2.2)]) (λs=>ah [a1 33 1 s.1.2.1 s.1.1.length s.1.2.2 (cT .u32 s.1.1),a1 33 1 s.2.2.1 s.2.1.length s.2.2.2 (cT .u32 s.2.1),hA aO af top A,F]) (λs=>(s.1.1.flatMap (hk (eK A) (jw A))).length) (([h],some ⟨bb,0,none⟩,1),([],none,0)) cE bC ((dH 33 1 _).trans (bV (ao (ao (ao (aZ _)))))) ?_;rintro⟨⟨W,bx,bS⟩,⟨O,hY,fo⟩⟩ w bq;dsimp only[cr]at w⊢;apply J [8,33,288,219,3];apply UR rfl<;>intro a4;obtain⟨V,x,rfl⟩:∃V x,W=V++[x]:=(by(have H:W≠[]:=by grind);exact⟨W.dropLast,W.getLast H,(XY H).symm⟩);have av:(V++[x]).length=V.length+1:=b2
 have aV:(V++[x])[(((V.length+1:Nat):Int)-1).toNat]? =some x:=b2
 have bl:=jR .u32 (V++[x]);have aY:=aS x (by rw[<-w];exact UQ.2 (.inl (VA.2 ⟨x,by simp,uM d x⟩)));have hlen:∀L:List Int,L.length<=(L.flatMap (hk (eK A) (jw A))).length:=λL=>(by induction L with|nil=>exact UX _|cons a L bp=>have:=List.length_pos_of_mem (uM d a);rw[Vf,mp,U9];omega);have D:=congrArg WB w;have a3:=hlen V;have hIn:(V++eK A x).flatMap (hk (eK A) (jw A))++(O++[x]).reverse=hk (eK A) (jw A) h:=(by grind[o0]);have a8:(eK A x).length<=257:=We (hlen _) (We (by have:=congrArg WB (o0 d x);rw[mp]at this;omega) (Bg u d x));rw[mp,WP,WQ,mp]at D;rw[av];refine ab.nl 0 rfl (λ_ bn aB=>?_);simp only[maxLen]at aB;have bi:0<(cT .u32 (V++[x])).length:=U
 refine J [4,76,33,84,288,218] ?_;refine q rfl rfl (kH 33 1 rfl rfl rfl U U dW) ?_;refine q rfl rfl (dC rfl rfl (pT aV)) ?_;apply J [31];have C:aF (a1 33 1 bx (V.length+1) bS (cT .u32 (V++[x]))) (a1 33 1 bx V.length bS (cT .u32 V)):=(by have:=p0 (E:=33) (sz:=1) (ad:=bx) (n:=V.length+1) (cap:=bS) (cs:=cT .u32 (V++[x])) (j:=V.length) U;grind[Gd]);refine Wd (eH 0 rfl C (ao (ao (ao (aZ _))))) ?_;refine cC [0,1,2,3,4,5,6,-7,-8,9] (aZ _) ?_;apply J [344,344];refine bU rfl rfl rfl (len 33 1 rfl rfl) ?_;refine J [437] ?_;refine bU rfl rfl rfl (nH 33 1 (V.length) rfl rfl rfl U U) ?_;apply J [77,249];apply a7 (Dw aO af top A x aY);intro z9 _;refine J [270] ?_;have a9:=jR .u32 (eK A x);refine J [12,602] ?_;intro N Q;refine J [6,347,74,104,66] ?_;intro bo;refine J [0,481] ?_;intro P Z;apply J [83,152];exact⟨rfl,((V++eK A x,N,Q),(O++[x],P,Z)),hIn,(by dsimp only;have ag:=congrArg WB hIn;simp only[mp,WP,UY,WQ]at ag D⊢;omega),⟨rfl,rfl,congrArg (λn=>Vt _ n _) sM,congrArg (λn=>Vt _ n _) uw,trivial⟩,(b8 2 rfl (by dsimp only;rw[oX,mp]) (b8 0 rfl (by dsimp only;rw[oX,mp];rfl) (bv (bv (aZ _)))))⟩;obtain rfl:W=[]:=Yq.1 U;have aI:O.reverse=fr A h++[h]:=b2
 have an:O.length=(fr A h).length+1:=b2;have a2:O.length<=257:=b2
 apply J [207,0];apply aq (NS hY fo O U);apply J [18];rw[aI,an];have C:aF (a1 33 1 hY ((fr A h).length+1) fo (cT .u32 (fr A h++[h]))) (a1 33 1 hY (fr A h).length fo (cT .u32 (fr A h))):=(by have:=p0 (E:=33) (sz:=1) (ad:=hY) (n:=(fr A h).length+1) (cap:=fo) (cs:=cT .u32 (fr A h++[h])) (j:=(fr A h).length) U;grind[Gd]);apply J [29];refine ab.nl 0 rfl (λ_ bc _=>?_);refine J [104,84,288,218] ?_;refine q rfl rfl (nH 33 1 ((fr A h).length) rfl rfl rfl U U) ?_;apply J [105];exact br (hY,fo) trivial (eH 0 rfl C ai)
def AQ(A:bQ)(h:Int):Prop:=∀i s (x r:Nat),A.aI i s=dG x r->1<=r->r<=15->x<4294967295->(x:Int)≠h
structure Cw(A:bQ)(h:Int)(bl:bQ):Prop where
  ex:∃(k:Nat) (o:av.fa) (g:Int) (a6:Nat->Nat->Nat),A.l[k]? =some ⟨o,1,g⟩/\h=g*256+k/\k<256/\(∀i,i≠k->a6 i=A.a6 i)/\bl={A with l:=A.l.set k ⟨o,2,g⟩,a6:=a6,q:=A.q++[(h,A.now+A.pd)]}
theorem L3{h:Int}{k:Nat}{p:av.bY}(e:av.ej A.l h 1=some (k,p)):(av.hV A.l h).1=A.l.set k ⟨p.o,2,p.c4⟩:=by rw[av.hV,e]
theorem K0(top:Nat)(A:bQ)(h:Int)(w:0<=h/\h<=4294967295)(V:(av.cR A.l h).2=0)(aB:h≠0)(hm:eK A h=[])(an:AQ A h)(W:∀s,A.aI (h %256).toNat s=0):bL 348 [ae aO,aR h] be [hA aO af top A] (λ_:bQ=>aa 0) (λC=>Cw A h C) (λC=>[hA aO af top C]):=by apply aG Tryz.func348 Tryz.ntmps348;intro F _;apply J [1,62];apply aq (jG aO af top A h w 0);apply J [5];rw[iU];refine J [267] ?_;intro bb;apply J [115,258];refine UR rfl (λO=>absurd O (λh=>h V)) (λO=>?_);apply J [26,201];refine UR rfl (λP=>absurd P (aB)) (λP=>?_);apply J [32];apply a7 (Dw aO af top A h w);intro bh _;apply J [18];rw[hm];apply J [288,219,37];refine UR rfl (λQ=>absurd Q (am)) (λQ=>?_);apply ab.open 1 rfl;rintro⟨N,bF,S⟩ ⟨H,d⟩;apply J [226];dsimp only at H d⊢;apply J [23,67,28];apply aq (av.O5 N A.l h d.ok w);refine J [16,3,70,245,149] ?_;intro bo;obtain⟨k,p,Z,D,E,ag,u,ar,ax⟩:=oM w.1 V;obtain⟨o,s,g⟩:=p;dsimp only at E u ax;subst E;have a8:=d.pd;have a9:=d.bd;have bc:=d.G0;have a5:k≠0:=λe=>(by obtain⟨⟨a,bK⟩,_⟩:=d.rt;simp_all);rw[L3 Z];rw[ar]at W;refine e rfl ?_;apply eE (hq.vG bF A.pd A.now A.q (cK bo) 1 [h] a8.1 U U (U2 rfl)) ⟨_,bn.rd (ad:=some ⟨bo,0,none⟩)⟩;apply J [78,119];have a2:=d.tP D a5 (λi s x r aS aV aY a0=>by rw[<-u];exact an i s x r aS aV aY a0) W (λi=>if i=k then λx=>S.m (o.a.toNat+x)else A.a6 i);have a3:=H.tP (bl:={A with l:=A.l.set k ⟨o,2,g⟩,a6:=λi=>if i=k then λx=>S.m (o.a.toNat+x)else A.a6 i,q:=A.q++[(g*256+k,A.now+A.pd)]}) ⟨g,D⟩ rfl rfl rfl rfl ⟨rfl,rfl,rfl⟩;exact br {A with l:=A.l.set k ⟨o,2,g⟩,a6:=λi=>if i=k then λx=>S.m (o.a.toNat+x)else A.a6 i,q:=A.q++[(g*256+k,A.now+A.pd)]} ⟨⟨k,o,g,_,D,u,ag,λi a4=>al a4,by rw[u]⟩⟩ (ay (⟨N,bF,S⟩:fk) ⟨a3,a2⟩ (c0 (c0 (bv (b8 0 rfl (by dsimp only;rw[u];rfl) ai)))))
theorem Rn{n:Int}{l:List (Int×Int)}(hs:l.Pairwise λa b=>a.2<=b.2):∀t∈hq.m5 n l,n<t.2:=by induction l with|nil=>intro t h;cases h|cons a l w=>intro t h;rw[List.pairwise_cons]at hs;rw[hq.m5,List.dropWhile_cons]at h;split at h;exact w hs.2 t h;rename_i u;(have d:n<a.2:=by simpa using u);rcases List.mem_cons.1 h with rfl|h;exact d;have:=hs.1 t h;omega
def qA(D:List Int)(i:Nat)(p:av.bY):av.bY:=if p.st=2/\p.c4*256+(i:Int)∈D then av.iZ p else p
def qc(l l':List av.bY)(D:List Int):Prop:=∀i,l'[i]? =(l[i]?).map (qA D i)
theorem Nh(l:List av.bY):qc l l []:=λi=>by
 cases l[i]? with
 | none=>rfl
 | some p=>rw[Wo,qA,al (λh=>absurd h.2 cE)]
theorem zC(p:av.bY):(av.iZ p).st≠2/\(av.iZ p).st≠1:=by grind[av.iZ]
theorem Ni{l l':List av.bY}{D:List Int}(h:qc l l' D){k:Nat}{p:av.bY}(H:l'[k]? =some p)(E:p.st=2)(Q:k<256)(N:av.dM l):qc l (l'.set k (av.iZ p)) (D++[p.c4*256+(k:Int)]):=λi=>by
 have d:=h i
 by_cases e:i=k
 ·subst e
  rw[H]at d
  cases C:l[i]? with
  | none=>rw[C]at d;cases d
  | some q=>
   rw[C,Wo]at d
   have O:p=q:=by
    have:=VQ d
    rw[qA]at this
    split at this
    ·rw[this]at E;exact absurd E (zC q).1
    exact this
   rw[Vz (UU.1 H).1,Wo,qA,<-O,aw ⟨E,by simp⟩]
 rw[VW λu=>e u.symm,d]
 cases C:l[i]? with
 | none=>rfl
 | some q=>
  rw[Wo,Wo,qA,qA]
  have P:=N.c4 q (US C)
  have V:=N.lt C
  have:(p.c4*256+(k:Int)=q.c4*256+(i:Int))->False:=λu=>e U
  have u:(q.c4*256+(i:Int)∈D++[p.c4*256+(k:Int)])↔q.c4*256+(i:Int)∈D:=by
   rw[UQ,UP]
   exact⟨λh=>h.elim id λh=>(this h.symm).elim,.inl⟩
  by_cases w:q.st=2/\q.c4*256+(i:Int)∈D
  ·rw[aw w,aw ⟨w.1,u.2 w.2⟩]
  rw[al w,al λh=>w ⟨h.1,u.1 h.2⟩]
structure rj(top:Nat)(A:bQ)(due rest:List (Int×Int))(j:Nat)(B:bQ)(S:cL):Prop where
  NJ:j<=due.length
  UF:ch top B S
  UE:ck B
  EG:qc A.l B.l ((due.map (·.1)).take j)
  he:B={A with l:=B.l,Q:=B.Q,q:=due.drop j++rest}
structure tu(A bl:bQ):Prop where
  ex:∃(l:List av.bY) (Q:List aB.bW),qc A.l l ((hq.lQ (A.now+1) A.q).map (·.1))/\bl={A with l:=l,Q:=Q,now:=A.now+1,q:=hq.m5 (A.now+1) A.q,np:=A.np+1}
theorem ck.S3(h:ck A){r:List (Int×Int)}(u:A.q=r)(hr:∀t∈r,A.now+1<t.2)(w:A.np+1<=1000000):ck {A with now:=A.now+1,np:=A.np+1}:=
 ⟨h.ok,h.d8,h.rt,h.ac,h.cY,h.nn,h.aI,h.hJ,h.mE,h.oe,λt d=>⟨hr t (u▸d),by have:=h.og t d;dsimp only;omega⟩,h.m3,⟨h.pd.1,by have:=h.pd;dsimp only;omega⟩,by have:=h.bd;dsimp only;omega⟩
theorem ch.tick{top:Nat}{S a8:cL}{k c x:Nat}{f g:Int}{P:av.bY}{Q:List aB.bW}{q:List (Int×Int)}(h:ch top A S)(aq:A.l[k]? =some ⟨bt c x f,2,g⟩)(E:jA c)(Z:¬fl P.st){D:cL}(w:D.C=S.C/\D.Fr=S.Fr/\D.m=S.m/\D.bz=S.bz)(p:tr top D f c x a8)(ag:a8.Q=Q):ch top {A with l:=A.l.set k P,Q:=Q,q:=q} a8:=by have W:ch top {A with l:=A.l.set k P} S:=h.free Z rfl rfl rfl rfl ⟨rfl,rfl,rfl⟩;have an:ga top S D hX hX:=wt h.P w.1 w.2.1 w.2.2.1;have N:∀a,¬fw c x 6 a/\¬fw c x 7 a:=λa=>⟨λh=>by rcases E with E|E<;>have:=h.1<;>omega,λh=>by rcases E with E|E<;>have:=h.1<;>omega⟩;refine W.mY (an.trans p.g) rfl rfl rfl rfl ⟨ag,by rw[p.q.2,w.2.2.2];exact h.Q.2⟩ (λi s d b V ar H=>?_) (λa=>⟨λh=>h.elim id (N a).1,λh=>h.elim id (N a).2⟩) (by rw[p.u,w.1]) (by have:=p.p;rw[w.1,w.2.1]at this;have:=h.fY;dsimp only;omega);have O:¬fw c x d b:=(by rintro⟨rfl,rfl⟩;rcases H.set with⟨e,H⟩|⟨_,e,_⟩;exact e (h.un i k s 2 d b V f ar (.inr rfl) H ⟨g,aq⟩);simp_all);exact⟨λh=>h.elim id O,λh=>absurd h λh=>h.elim id O⟩
theorem LP(u bF top:Nat)(S:cL)(cH bd ar:Nat)(d:Nat->Nat)(a w:Nat)(k f:Int)(E:2^top<=128)(bK:a+8<=1024*2^top)(C:a %8=0)(D:cO S.m a=w)(hw:w<2^63):bu 100 [ae aO,.agg (ints (bt k a f).l).toArray] be [aj aO 135 [ae af,ae u,ae bF],aj af 169 (iw 8 cH bd ar d),gr ar S.m (1024*2^top)] (aa w) [aj aO 135 [ae af,ae u,ae bF],aj af 169 (iw 8 cH bd ar d),gr ar S.m (1024*2^top)]:=by apply aG Tryz.func100 Tryz.ntmps100;intro F _;apply J [86];subst D;refine J [25,291] ?_;intro bb;apply J [31];refine cC [0,1,2,3,5,6,-4,-7,8,9,10,11,12] (ao (ao (aZ _))) ?_;apply J [49,274];apply aq (l6 af cH bd ar d);refine J [236,45] ?_;apply aq (tA ar (1024*2^top) a S.m U bK C);refine J [270,167,272,275,26] ?_;refine q rfl rfl (conv .u64 .i64 rfl rfl rfl (o9 hw)) ?_;apply J [30];exact dw
theorem LG(top:Nat)(A:bQ)(cc:A.np+1<=1000000):bL 160 [ae aO] c7 [hA aO af top A] (λy:(Option Addr×Nat)×bQ=>.slice y.1.1 ((hq.lQ (A.now+1) A.q).map (·.1)).length y.1.2) (λy=>tu A y.2) (λy=>[a1 33 1 y.1.1 ((hq.lQ (A.now+1) A.q).map (·.1)).length y.1.2 (cT .u32 ((hq.lQ (A.now+1) A.q).map (·.1))),hA aO af top y.2]):=by
 apply aG Tryz.func160 Tryz.ntmps160;intro F bW;apply J [1];haveI:cz F:=⟨bW⟩;apply ab.open 0 rfl;rintro⟨u,bF,S⟩ ⟨be,H⟩;apply J [85];dsimp only at be H⊢;apply J [121,210,71,118,70];have cS:=H.pd;have cJ:=H.bd;have cX:=H.G0;refine e rfl ?_;apply a7 (hq.BV bF A.pd A.now A.q U U);intro y _;apply J [14,174];have b9:hq.lQ (A.now+1) A.q++hq.m5 (A.now+1) A.q=A.q:=by grind[hq.lQ,hq.m5,List.takeWhile_append_dropWhile]
 have cq:∀t∈hq.m5 (A.now+1) A.q,A.now+1<t.2:=Rn H.m3;generalize cb:hq.lQ (A.now+1) A.q=due at*;generalize co:hq.m5 (A.now+1) A.q=rest at*;have cO:due.length<=256:=cp;have cj:(due.map (·.1)).length=due.length:=b2
 refine Vp (ι:=(Nat×bQ×cL)×(Option Addr×Nat)) (λs=>rj top A due rest s.1.1 s.1.2.1 s.1.2.2) (λs=>[(0,ae aO),(3,.slice s.2.1 ((due.map (·.1)).take s.1.1).length s.2.2),(15,.slice y.1 (due.map (·.1)).length y.2),(16,aa (due.map (·.1)).length),(17,aa ((s.1.1:Nat):Int))]) (λs=>ah [a1 33 1 s.2.1 ((due.map (·.1)).take s.1.1).length s.2.2 (cT .u32 ((due.map (·.1)).take s.1.1)),hq.eF bF A.pd (A.now+1) rest,a1 3 1 y.1 (due.map (·.1)).length y.2 (ints (due.map (·.1))),aj aO 135 [ae af,ae u,ae bF],e6 af top s.1.2.2,a1 264 5 (cK u) 256 256 (av.gn s.1.2.1.l),F]) (λs=>due.length-s.1.1) ((0,A,S),(none,0)) ⟨UX _,be,H,Nh _,by rw[List.drop_zero,b9]⟩ bC ((dH 33 1 _).trans ai) ?_;rintro⟨⟨j,B,T⟩,ad,cap⟩ ar da;dsimp only[cr]at ar⊢;apply J [43];apply UR rfl<;>intro cP;have cd:j<due.length:=U
 obtain⟨⟨x,t⟩,c5⟩:∃z,due[j]? =some z:=⟨due[j],UO cd⟩;have cy:(due.map (·.1))[j]? =some x:=b2
 have cV:0<(ints (due.map (·.1))).length:=by grind[eb]
 obtain⟨_,d,aN,iP,E⟩:=ar;have N:B.q=(x,t)::(due.drop (j+1)++rest):=(by grind[List.drop_eq_getElem_cons]);obtain⟨⟨⟨k,p⟩,cg⟩,aI⟩:=(aN.mE x).2 (by rw[N];simp);obtain⟨D,aS,ce,bl⟩:=av.n8 aI cg;obtain⟨o,c9,g⟩:=p;dsimp only at bl aS;subst bl;have b7:=aN.ok.c4 _ (US D);dsimp only at b7;obtain⟨c,a9,f,rfl,O,a2⟩:=d.obj k 2 o (.inr rfl) ⟨g,D⟩;have oN:av.pJ B.l x=(B.l.set k (av.iZ ⟨bt c a9 f,2,g⟩),bt c a9 f,0):=by grind[av.pJ]
 have an:(due.map (·.1)).take (j+1)=(due.map (·.1)).take j++[x]:=by grind[List.take_succ]
 have bh:¬fl (av.iZ ⟨bt c a9 f,2,g⟩).st:=by grind[fl,zC]
 have c2:((due.map (·.1)).take j).length<=256:=cp
 have cI:=d.P;have ax:=Ni iP D rfl ce H.ok;dsimp only at ax;rw[<-aS,<-an]at ax;refine J [186] ?_;refine q rfl rfl (dC rfl rfl (hU cy)) ?_;refine J [60,478,27,67,28] ?_;apply aq (av.Nm u B.l x aN.ok ⟨aI,by omega⟩);apply J [16];rw[oN];refine J [267] ?_;intro bo;apply J [115,34];refine UR rfl (λag=>absurd ag (λh=>h rfl)) (λag=>?_);apply J [44,111,246];apply UR rfl<;>intro ag;obtain rfl:c=1:=by have bK:((c:Nat):Int)=1:=ag;omega
 have ck:=d.mC k 2 a9 f (.inr rfl) ⟨g,D⟩;have cR:=aN.A8 (.inr rfl) ⟨g,D⟩;have cM:=c6.bd d.P a2;have cG:bG 1=64:=rfl;obtain⟨ef,a5⟩:=aN.free D O (by rw[<-aS];exact N) (mg:=(aB.iD T.Q (B.own k)).1) (by rw[d.Q.1];rfl);obtain⟨ci,w⟩:∃ci:cL,ci=⟨(aB.iD T.Q (B.own k)).1,T.bz,T.C,T.Fr,T.m⟩:=⟨_,rfl⟩;have bc:dd top ci:=by grind[dd]
 refine ab.open 6 rfl (λcA aI=>?_);obtain⟨cH,bd,aV,aY⟩:=cA;have a8:=aI;apply J [332];dsimp only at a8⊢;have cw:=a8.f8;have cx:2^top<=128:=UV (n:=2) am cw.2;refine cC [0,1,2,3,4,5,6,7,8,-9,-10] (show aF (ah _) (ah [aj bo 60 (ints (bt ((1:Nat):Int) a9 f).l),aj aO 135 [ae af,ae u,ae bF],aj af 169 (iw 8 cH bd aV aY)])from ai) ?_;apply J [49,88,109,77,311,12];apply aq (LP aO af u bF top T cH bd aV aY a9 (B.own k) 1 f cx U U ck U);refine J [444,45] ?_;apply aq (aB.Q3 cH T.Q T.bz (B.own k:Int));refine J [444,110,265] ?_;refine aT.bg (B:=ah [aj aO 135 [ae af,ae u,ae bF],e6 af top ci,a1 33 1 ad ((due.map (·.1)).take j).length cap (cT .u32 ((due.map (·.1)).take j)),hq.eF bF A.pd (A.now+1) rest,a1 3 1 y.1 (due.map (·.1)).length y.2 (ints (due.map (·.1))),a1 264 5 (cK u) 256 256 (av.gn (B.l.set k (av.iZ ⟨bt ((1:Nat):Int) a9 f,2,g⟩))),F]) (by subst w;exact(bV (ay (dR.mk cH bd aV aY:dR af) bc ai))) ?_;have W:ci.C=T.C/\ci.Fr=T.Fr/\ci.m=T.m/\ci.bz=T.bz:=by rw[w];exact⟨rfl,rfl,rfl,rfl⟩
 have a0:c6 ci 1 a9:=by rw[c6,W.1,W.2.1];exact a2
 have Z:ci.Q=(aB.iD T.Q (B.own k)).1:=by rw[w]
 refine e rfl ?_;apply a7 (v6 aO af u bF top ci 1 a9 f O a0 (by rw[Z];exact ef));intro gd V;refine J [16,3,104,66] ?_;intro cl;refine J [0,481] ?_;intro bn bq;refine J [83,59] ?_;have a3:gd.Q=(aB.ek (aB.iD T.Q (B.own k)).1 f (bG 1:Int)).1:=by rw[V.q.1,Z]
 have a4:=d.tick (q:=due.drop (j+1)++rest) D O bh W V a3;exact⟨rfl,((j+1,_,gd),(bn,bq)),⟨by dsimp only;omega,a4,a5,ax,by rw[E]⟩,cD,⟨rfl,congrArg (λn=>Vt _ n _) (by dsimp only;rw[an,mp];rfl),rfl,rfl,rfl,trivial⟩,(b8 0 rfl (by dsimp only;rw[an,oX,mp];rfl) ai)⟩;obtain⟨ef,a5⟩:=aN.free D O (by rw[<-aS];exact N) (mg:=T.Q) (by rw[d.Q.1,al (λh=>ag (by rw[h];rfl))]);obtain⟨ci,w⟩:∃ci:cL,ci=T:=⟨_,rfl⟩;have bc:dd top ci:=w▸d.P;have W:ci.C=T.C/\ci.Fr=T.Fr/\ci.m=T.m/\ci.bz=T.bz:=by rw[w];exact⟨rfl,rfl,rfl,rfl⟩
 have a0:c6 ci c a9:=w▸a2;have Z:ci.Q=T.Q:=by rw[w]
 apply J [4,265];refine aT.bg (B:=ah [aj aO 135 [ae af,ae u,ae bF],e6 af top ci,a1 33 1 ad ((due.map (·.1)).take j).length cap (cT .u32 ((due.map (·.1)).take j)),hq.eF bF A.pd (A.now+1) rest,a1 3 1 y.1 (due.map (·.1)).length y.2 (ints (due.map (·.1))),a1 264 5 (cK u) 256 256 (av.gn (B.l.set k (av.iZ ⟨bt c a9 f,2,g⟩))),F]) (by subst w;exact ai) ?_;refine e rfl ?_;apply a7 (v6 aO af u bF top ci c a9 f O a0 (by rw[Z];exact ef));intro gd V;refine J [16,3,104,66] ?_;intro cB;refine J [0,481] ?_;intro bp bu;refine J [83,59] ?_;have a3:gd.Q=(aB.ek T.Q f (bG c:Int)).1:=by rw[V.q.1,Z]
 have a4:=d.tick (q:=due.drop (j+1)++rest) D O bh W V a3;exact⟨rfl,((j+1,_,gd),(bp,bu)),⟨by dsimp only;omega,a4,a5,ax,by rw[E]⟩,cD,⟨rfl,congrArg (λn=>Vt _ n _) (by dsimp only;rw[an,mp];rfl),rfl,rfl,rfl,trivial⟩,(b8 0 rfl (by dsimp only;rw[an,oX,mp];rfl) ai)⟩;obtain rfl:j=due.length:=by have:=ar.NJ;omega
 obtain⟨_,d,aN,iP,E⟩:=ar;have cu:(due.map (·.1)).take due.length=due.map (·.1):=Vs (by rw[cj];exact UW _);rw[cu]at iP⊢;have N:B.q=rest:=by rw[E,List.drop_length];rfl
 have bN:=aN.S3 N (λt ct=>by rw[E];exact cq t ct) (by rw[E];exact cc);have bi:B.now=A.now/\B.pd=A.pd:=by rw[E];exact⟨rfl,rfl⟩
 have bY:ch top {B with now:=B.now+1,np:=B.np+1} T:=d.mY (wt d.P rfl rfl rfl) rfl rfl rfl rfl d.Q (λ_ _ _ _ _ _ _=>⟨λh=>h,λh=>h.elim⟩) (λ_=>⟨λh=>h,λh=>h⟩) rfl (Nat.le_succ_of_le d.fY);have b0:tu A {B with now:=B.now+1,np:=B.np+1}:=(by refine⟨⟨B.l,B.Q,by rw[cb];exact iP,?_⟩⟩;rw[co];(conv=>lhs;rw[E]);rw[List.drop_length];rfl);apply J [207,105];exact br ((ad,cap),{B with now:=B.now+1,np:=B.np+1}) b0 (ao (ay (⟨u,bF,T⟩:fk) ⟨bY,bN⟩ (bv (bv (bv (b8 0 rfl (by dsimp only;rw[bi.1,bi.2,N]) ai))))))
end Go.Proofs.YtglgidjhoncphaaGreatDoor
namespace Go.QM
open Go
theorem Qh{x:Nat}(Q:x<2^64):fo x=ol ((ng x 8).map oc):=by
 have d:=yU 8 x;have an:=yT 8 x;have C:dz (ng x 8)=x:=by grind[yV]
 generalize ng x 8=l at d an C;subst C;have t:=λa (u:a∈l)=>A9 (d a u);have N:kp (dz l)=dz (l.map fX):=(by have g1:=uZ (m:=85) (s:=1) am am am d;have g2:=tz (m:=85) am d;rw[sL an]at g1 g2;rw[kp,show 6148914691236517205=dz [85,85,85,85,85,85,85,85]from by decide,g1,g2,tw];rfl);have w:∀a∈l.map fX,a<256:=b2
 have E:(l.map fX).length=8:=b2
 have O:l2 (dz (l.map fX))=dz ((l.map fX).map hj):=(by have g1:=uZ (m:=51) (s:=2) am am am w;have g2:=tz (m:=51) am w;rw[sL E]at g1 g2;rw[l2,show 3689348814741910323=dz [51,51,51,51,51,51,51,51]from by decide,g1,g2,tw];rfl);have D:∀a∈(l.map fX).map hj,a<256/\a/16<=4/\a %16<=4:=λa u=>cp;have H:((l.map fX).map hj).length=8:=b2
 have P:m2 (dz ((l.map fX).map hj))=dz (l.map oc):=(by have g1:=(AP D).1;rw[sL H]at g1;rw[m2,show 1085102592571150095=dz [15,15,15,15,15,15,15,15]from by decide,g1,XC,XC];rfl);grind[fo,Gg]
theorem Gh{n:Nat}(d:65536<n)(u:n<131072):fo n≠1:=by grind[Qh,ng,ol,oc,A9]
end Go.QM
namespace Go.Proofs.YtglgidjhoncphaaGreatDoor
open Go Go.QM
def sr(n:Int):Prop:=n<65536\/1073741824<n\/65536<n/\n<131072
theorem C4(n:Int)(h:sr n):bu 177 [aa n] be [] (.pointer none) []:=by apply aG Tryz.func177 Tryz.ntmps177;intro F _;apply J [9];rcases h with h|h|⟨h,u⟩;refine J [131,178,476,361,48,137,273] ?_;exact dw;refine J [131,178,389,143,41] ?_;refine Ve 9 rfl (c:=true) (c1 U) ?_;apply J [48,137,273];exact dw;obtain⟨k,rfl⟩:∃k:Nat,n=(k:Int):=⟨n.toNat,(VM U).symm⟩;have w:=Gh (n:=k) U U;refine J [131,178,389,143,41] ?_;refine Ve 9 rfl (c:=false) (dk U) ?_;refine J [11,464,94] ?_;apply aq (xe k U);apply J [153,158,97];refine UR rfl (λd=>?_) (λd=>absurd U d);apply J [168,75];exact dw
theorem C7(n:Int)(h:sr n):bu 176 [aa n] be [] (.pointer none) []:=by apply aG Tryz.func176 Tryz.ntmps176;intro F _;apply J [9];rcases h with h|h|⟨h,u⟩;refine J [131,178,463,361,48,137,273] ?_;exact dw;refine J [131,178,468,143,41,522,48,137,273] ?_;exact dw;obtain⟨k,rfl⟩:∃k:Nat,n=(k:Int):=⟨n.toNat,(VM U).symm⟩;have w:=Gh (n:=k) U U;refine J [131,178,468,143,41,518,11,464,94] ?_;apply aq (xe k U);apply J [153,158,97];refine UR rfl (λd=>?_) (λd=>absurd U d);apply J [168,75];exact dw
theorem QS(n lim:Int)(h:¬((n=65536\/n=131072)/\0<=lim/\lim<=n))(hs:n<=131072\/1073741824<n):bu 125 [aa n,aa lim] c7 [] (.pointer none) []:=by
 apply aG Tryz.func125 Tryz.ntmps125;intro F E;apply J [9];haveI:cz F:=⟨E⟩;apply J [168,26];by_cases C:0<=lim/\lim<=1073741824;refine e rfl ?_;apply a7 (aB.G3 lim C);intro t _;apply J [5,2];by_cases an:n=65536\/n=131072;obtain⟨k,top,rfl,u⟩:∃k top:Nat,n=(k:Int)/\(k=65536/\top=6\/k=131072/\top=7):=cp;refine e rfl ?_;apply a7 (yP k top u);intro bd _;apply J [7,28];apply a7 (yD k U);intro D _;refine J [18,482,0,483] ?_;intro bb;apply J [52,70,154,20,138,191,412,41,11,143,97];refine UR rfl (λw=>?_) (λw=>absurd U w);apply J [168,75];exact dw;have d:sr n:=by grind[sr]
 refine e rfl ?_;apply aq (C7 n d);apply J [5,28];apply aq (C4 n d);refine J [5,482,0,483] ?_;intro bo;apply J [52,70,154,20,212,50,51,137,273];exact dw;refine e rfl ?_;apply aq (aB.Q6 lim C);apply J [153,2];by_cases an:n=65536\/n=131072;obtain⟨k,top,rfl,u⟩:∃k top:Nat,n=(k:Int)/\(k=65536/\top=6\/k=131072/\top=7):=cp;refine e rfl ?_;apply a7 (yP k top u);intro bd _;apply J [5,28];apply a7 (yD k U);intro D _;refine J [7,482,0,483] ?_;intro cl;apply J [52,70,154,20,138,191,412,41,51,137,273];exact dw;have d:sr n:=by grind[sr]
 refine e rfl ?_;apply aq (C7 n d);apply J [153,28];apply aq (C4 n d);refine J [153,482,0,483] ?_;intro H;apply J [52,70,154,20,212,50,51,137,273];exact dw
def km(a:Nat):List av.bY:=(Va 256 av.ou).set 0 ⟨bt 1 a 0,1,0⟩
def et(a:Nat)(lim pd:Int):bQ:=⟨km a,[⟨0,-1,lim,64⟩],1,λ_ _=>0,λ_=>0,λ_ _=>0,pd,0,[],2⟩
theorem wS(a:Nat){i:Nat}{p:av.bY}(h:(km a)[i]? =some p):(i=0/\p=⟨bt 1 a 0,1,0⟩)\/(i≠0/\p=av.ou):=by grind[km]
theorem nv{a i:Nat}{s:Int}{o:av.fa}(hs:fl s)(h:cB (km a) i s o):i=0/\s=1/\o=bt 1 a 0:=by obtain⟨g,h⟩:=h;rcases wS a h with⟨e,h⟩|⟨_,h⟩;simp_all;cases h;exact absurd hs am
theorem Ad(a:Nat):av.dM (km a):=⟨by rw[km,VH,WK],λp u=>by
 obtain⟨i,d⟩:=List.getElem?_of_mem u
 rcases wS a d with⟨_,h⟩|⟨_,h⟩<;>rw[h]<;>exact⟨WE 0,(by decide:(0:Int)<=1048575)⟩⟩
theorem et.CU(a:Nat){lim pd:Int}(V:64<=lim/\lim<=1073741824)(D:1<=pd/\pd<=16):ck (et a lim pd):=by
 have hw:aB.eM [⟨0,-1,lim,64⟩] 1:=(by have h:=aB.eM.start (lim:=lim) ⟨by omega,V.2⟩;have:=h.set (t:=⟨0,-1,lim,0⟩) cE (c:=64) am (by show 64+aB.fm [⟨0,-1,lim,0⟩] 0<=lim;rw[aB.rA,al (show ¬((-1:Int)=0)by decide)];omega);trivial);have P:aB.gg [⟨0,-1,lim,64⟩] 0=64:=by trivial
 have H:cB (km a) 0 1 (bt 1 a 0):=by grind[cB,km]
 refine⟨Ad a,hw,⟨⟨a,by show(km a)[0]? =_;rw[km,Vz (by rw[WK];decide)]⟩,rfl⟩,λi s o C u=>?_,λi s b f C u=>?_,λi j s r b d f g C Z u Q _=>?_,λi s h=>absurd rfl h,λx an=>?_,λh=>⟨λw=>?_,λw=>(by cases w)⟩,List.nodup_nil,λt h=>(by cases h),X5,⟨D,WE 0⟩,(by decide:(1:Int)<=((2:Nat):Int)/\(0:Int)<=((2:Nat):Int)/\2<=1000000)⟩;obtain⟨_,_,rfl⟩:=nv C u;exact⟨⟨_,UP.2 rfl,rfl⟩,(by decide:bG (1:Int).toNat≠0)⟩;obtain⟨e,_,_⟩:=nv C u;exact⟨⟨_,UP.2 rfl,rfl⟩,λh=>absurd e h⟩;rw[(nv C u).1,(nv Z Q).1];obtain⟨t,ag,rfl⟩:=an;obtain rfl:=UP.1 ag;show aB.gg [⟨0,-1,lim,64⟩] 0=_;rw[P,pz];have w:=p1 (f:=λ_=>0) (g:=h7 (et a lim pd) 0) (n:=256) (k:=0) am λi u aq=>(by rw[h7];obtain⟨p,D,_⟩:=(Ad a).at u;rw[show(et a lim pd).l[i]? =some p from D];rcases wS a D with⟨e,_⟩|⟨_,e⟩;trivial;rw[e];exact al am);haveI:dK:=⟨λ_=>0,λ_=>0⟩;rw[p2 λ_ _=>rfl,show h7 (et a lim pd) 0 0=64 from nW (A:=et a lim pd) H 0]at w;simp_all;obtain⟨⟨⟨i,p⟩,W⟩,N⟩:=w;obtain⟨O,_,_,E⟩:=av.n8 N W;rcases wS a O with⟨_,e⟩|⟨_,e⟩;simp_all;rw[e]at E;exact absurd (show(0:Int)=2 from E) am
theorem et.Rm{top a:Nat}{lim pd:Int}{S:cL}(H:dd top S)(N:S.Q=[⟨0,-1,lim,64⟩]/\S.bz=1)(aN:c6 S 1 a)(W:cO S.m a=0)(E:gy (960/cb 6) (S.C 6)=0)(P:(df S.C S.Fr).length<=2):ch top (et a lim pd) S:=by refine⟨H,N,λi s o D w=>?_,λi j s r c b f g D V w O=>?_,λi b f w=>?_,λi j b d f g s r w=>?_,λi j b d f g u v w=>?_,?_,λi s b f D w=>?_,λi c b f w=>?_,P⟩;obtain⟨_,_,rfl⟩:=nv D w;exact⟨1,a,0,rfl,by decide,aN⟩;rw[(nv D w).1,(nv V O).1];exact absurd (jz (nv (.inl rfl) w).2.2).1 am;exact absurd (jz (nv (.inl rfl) w).2.2).1 am;exact absurd (jz (nv (.inl rfl) w).2.2).1 am;rw[E];exact(p2 λ_ _=>p2 λ_ _=>rfl).symm;rw[(jz (nv D w).2.2).2.1];exact W;exact absurd (nv (.inr rfl) w).2.1 am
theorem JT{lim:Int}(h:64<=lim/\lim<=1073741824):aB.c9 (dj lim).Q 0 (cb 1:Int)=([⟨0,-1,lim,64⟩],0):=by
 have hw:=aB.eM.start (lim:=lim) ⟨by omega,h.2⟩;have hm:(⟨0,-1,lim,0⟩:aB.bW)∈(dj lim).Q:=by grind[dj]
 have hu:=aB.ix hw.bi hm;have E:aB.db (dj lim).Q 0:=by grind[aB.db]
 have d:aB.m7 (dj lim).Q 0=0+aB.fm (dj lim).Q 0:=hu.1;have u:aB.nw (dj lim).Q 0=lim:=hu.2.1;have w:aB.gg (dj lim).Q 0=0:=hu.2.2.1;have C:aB.fm (dj lim).Q 0=0:=(by trivial);have D:((cb 1:Nat):Int)=64:=rfl;rw[aB.c9,al (λh=>h E),al U,d,u,w,C,D,al U];trivial
theorem Li(n lim pd:Int)(h:¬((n=65536\/n=131072)/\64<=lim/\lim<=n/\1<=pd/\pd<=16))(hs:n<=131072\/1073741824<n):bu 84 [aa n,aa lim,aa pd] c7 [] (.pointer none) []:=by
 apply aG Tryz.func84 Tryz.ntmps84;intro F E;apply J [9];haveI:cz F:=⟨E⟩;apply J [168,176];by_cases u:(n=65536\/n=131072)/\0<=lim/\lim<=n;obtain⟨k,top,rfl,O⟩:∃k top:Nat,n=(k:Int)/\(k=65536/\top=6\/k=131072/\top=7):=cp;refine e rfl ?_;apply a7 (GS k top lim O u.2);intro⟨af,D⟩ _;apply J [5];dsimp only;letI:dK:=D;refine e rfl ?_;apply a7 av.pS;intro H _;apply J [7,2];by_cases d:1<=pd/\pd<=16;have aS:lim<64:=U
 have N:(aB.c9 (dj lim).Q 0 (cb 1:Int)).2≠0:=λe=>(by obtain⟨_,_,aI,_⟩:=yY e;have hw:=aB.eM.start (lim:=lim) ⟨u.2.1,by omega⟩;(have hm:(⟨0,-1,lim,0⟩:aB.bW)∈(dj lim).Q:=by grind[dj]);have hu:=aB.ix hw.bi hm;have an:aB.m7 (dj lim).Q 0=0+aB.fm (dj lim).Q 0:=hu.1;have ar:aB.nw (dj lim).Q 0=lim:=hu.2.1;have ax:aB.fm (dj lim).Q 0=0:=(by trivial);grind[cb]);refine e rfl ?_;apply a7 (hq.pS pd d.1 d.2);intro bF _;refine J [18,445,0,446] ?_;intro ag;apply J [52,40,154,20,138,251,412,144,99,40,0];apply a7 (uK af top (dj lim) 0 1 am);intro⟨P,cm⟩ w;apply J [10];cases P with|some y=>exact absurd w.2.1 N|none=>?_
 dsimp only[pv,kj];apply J [125,34];refine UR rfl (λC=>?_) (λC=>absurd (w.1) C);apply J [168,75];exact dw;refine e rfl ?_;apply aq (hq.sS pd U);refine J [7,445,0,446] ?_;intro Z;apply J [52,40,154,20,138,251,412,97,55,273];exact dw;refine e rfl ?_;apply aq (QS n lim u hs);apply J [153,0];apply a7 av.pS;intro H _;apply J [5,2];by_cases d:1<=pd/\pd<=16;refine e rfl ?_;apply a7 (hq.pS pd d.1 d.2);intro bF _;refine J [7,445,0,446] ?_;intro V;apply J [52,40,154,20,212,137,273];exact dw;refine e rfl ?_;apply aq (hq.sS pd U);refine J [5,445,0,446] ?_;intro W;apply J [52,40,154,20,212,137,273];exact dw
theorem Lj(n top:Nat)(lim pd:Int)(h:n=65536/\top=6\/n=131072/\top=7)(H:64<=lim/\lim<=n)(D:1<=pd/\pd<=16):bL 84 [aa n,aa lim,aa pd] c7 [] (λy:Nat×Nat×Nat×dK=>ae y.1) (λ_=>True) (λy=>[@hA y.2.2.2 y.1 y.2.1 top (et y.2.2.1 lim pd)]):=by
 apply aG Tryz.func84 Tryz.ntmps84;intro F Z;apply J [9];haveI:cz F:=⟨Z⟩;have E:=JT (lim:=lim) ⟨H.1,by omega⟩;apply J [168,26,28];apply a7 (GS n top lim h ⟨by omega,H.2⟩);intro⟨af,N⟩ _;apply J [5];dsimp only;letI:dK:=N;refine e rfl ?_;apply a7 av.pS;intro Q _;apply J [7,28];apply a7 (hq.pS pd D.1 D.2);intro bF _;refine J [18,445,0,446] ?_;intro gB;apply J [52,40,154,20,138,251,412,144,99,40,0];apply a7 (uK af top (dj lim) 0 1 am);intro⟨ax,cm⟩ O;apply J [10];have ag:dd top (dj lim):=by grind[dd.zero]
 have gi:df (dj lim).C (dj lim).Fr=[]:=by trivial
 cases ax with
 | none=>exact absurd O (λh=>by
  rcases h.2 with w|⟨_,w⟩
  ·rw[E]at w;exact h.1 w
  rw[gi]at w
  have:=Nat.pow_pos (n:=top) (show 0<2 by decide)
  simp only[WA]at w;omega)
 | some y=>?_
 obtain⟨rfl,_,cn⟩:=O;have d:=Gz (a:=0) ag am am rfl (by rw[E]) cn;have an:=et.Rm (lim:=lim) (pd:=pd) d.g.P ⟨by rw[d.q.2.1];exact congrArg (·.1) E,d.q.2.2⟩ d.b (d.z _ (UW _) (by have:bG 1=64:=rfl;omega)) (by rw[d.u];rfl) (by have:=d.p;rw[gi]at this;simp only[WA]at this;omega);have W:=et.CU (addr 1 y) (lim:=lim) (pd:=pd) ⟨H.1,by omega⟩ D;have ar:av.l7 (Va 256 av.ou) (bt 1 (addr 1 y) 0)=(km (addr 1 y),0,0):=(by trivial);dsimp only[pv];apply J [125,34];refine UR rfl (λV=>absurd V (λh=>h rfl)) (λV=>?_);apply J [4,67,2,230,0];apply aq (av.od Q (Va 256 av.ou) (bt 1 (addr 1 y) 0) ⟨WK,λp D=>by rw[List.eq_of_mem_replicate D];exact⟨WE 0,(by decide:(0:Int)<=1048575)⟩⟩);apply J [10];rw[ar];apply J [3,36,106];exact br (gB,af,addr 1 y,N) trivial (ay (⟨Q,bF,kj (dj lim) 0 1 (some y)⟩:fk) ⟨an,W⟩ ai)
end Go.Proofs.YtglgidjhoncphaaGreatDoor
namespace Go.Proofs.YtglgidjhoncphaaGreatDoor.aV
open Go Go.QM
variable{Z:List Fn}{u:Fn}
theorem PW{M:List Fn}(an:j2 Z)(d:Z.Perm (u::M))(p:Int):((⟨u.id,p,u.ds,u.b9⟩:Fn)::M).Perm (hh Z u p):=
 ((xf an d).symm.cons _).trans (List.perm_append_singleton _ _).symm
theorem AI(hu:u∈Z)(p x:Int):fx (hh Z u p) x↔fx Z x:=by
 have:fx (hh Z u p) x↔fx (hi Z u.id) x\/u.id=x:=by simp[hh,fx,or_and_right,exists_or]
 rw[this,uG];constructor;rintro(h|h);simp_all;exact⟨u,hu,h⟩;grind
theorem F0(an:j2 Z)(hu:u∈Z)(p:Int):(hh Z u p).length=Z.length:=by grind[uH,hh]
theorem Mo{S T:List Fn}(E:oy S)(H:oy T)(h:∀o i,(∃t∈S,eW t=o/\t.id=i)↔∃t∈T,eW t=o/\t.id=i):kf S=kf T:=by funext o;by_cases d:kk S o;obtain⟨t,w,rfl⟩:=d;obtain⟨u,hu,C,D⟩:=(h (eW t) t.id).1 ⟨t,w,rfl,rfl⟩;grind[Ed];rw[wd d,wd];rintro⟨u,hu,C⟩;obtain⟨t,w,D,_⟩:=(h o u.id).2 ⟨u,hu,C,rfl⟩;exact d ⟨t,w,D⟩
variable{last:Int}
theorem Eb(h:ct Z last)(hu:u∈Z){p:Int}(D:0<=p/\p<u.id):kf (hh Z u p)=kf Z:=by refine Mo (h.move hu D).no h.no λo i=>?_;constructor;rintro⟨t,d,w,C⟩;rcases UQ.1 d with d|d;grind[l3];rw[UP.1 d]at w C;exact⟨u,hu,w,C⟩;rintro⟨t,d,w,C⟩;by_cases e:t.id=u.id;have:=h.bi.inj d hu e;subst this;exact⟨_,UQ.2 (.inr (UP.2 rfl)),w,C⟩;exact⟨t,UQ.2 (.inl (l3.2 ⟨d,e⟩)),w,C⟩
theorem Ac(an:j2 Z)(hu:u∈Z){p x:Int}(d:p≠x)(w:u.par≠x):c5 (hh Z u p) x=c5 Z x:=by grind[hh,uq,Ab,sG]
theorem O4(an:j2 Z)(hu:u∈Z){p:Int}(d:p≠0)(w:u.par≠p):c5 (hh Z u p) p=c5 Z p++[u.id]:=by grind[hh,uq,Fo,sG]
def AM(p:Int)(Z:List Fn)(k:Int):List Fn:=match qx Z k with
  | some u=>hh Z u p
  | none=>Z
def kn(L:List Fn)(id:Int):List Fn:=match qx L id with
  | some t=>(c5 L id).foldl (AM t.par) (hi L id)
  | none=>L
def Am(L:List Fn)(id:Int):Int:=if fx L id then 0 else 6
structure nO(L:List Fn)(last:Int)(t:Fn)(i:Nat)(Z:List Fn):Prop where
  eq:Z=((c5 L t.id).take i).foldl (AM t.par) (hi L t.id)
  dB:ct Z last
  no:¬fx Z t.id
  todo:∀j k,i<=j->(c5 L t.id)[j]? =some k->∃u∈Z,u.id=k/\u.par=t.id
  len:Z.length=(hi L t.id).length
theorem nO.start{L:List Fn}(h:ct L last){t:Fn}(D:t∈L):nO L last t 0 (hi L t.id) where
 eq:=rfl
 dB:=h.off _
 no:=λd=>(uG.1 d).2 rfl
 todo:=λj k _ C=>by obtain⟨_,u,hu,w,d⟩:=oT.1 (US C);have:=h.rg u hu;exact⟨u,l3.2 ⟨hu,by omega⟩,d,w⟩
 len:=rfl
theorem nO.next{L:List Fn}(h:ct L last){t:Fn}(P:t∈L){i:Nat}(d:nO L last t i Z)(hu:u∈Z)(C:(c5 L t.id)[i]? =some u.id)(N:0<=t.par/\t.par<u.id):nO L last t (i+1) (hh Z u t.par) where
 eq:=by rw[U5,C,Option.toList,List.foldl_append,<-d.eq,List.foldl_cons,List.foldl_nil,AM,oJ d.dB.bi hu]
 dB:=d.dB.move hu N
 no:=by rw[AI hu];exact d.no
 todo:=λj k O D=>by obtain⟨v,hv,w,H⟩:=d.todo j k U D;refine⟨v,UQ.2 (.inl (l3.2 ⟨hv,λe=>?_⟩)),w,H⟩;obtain⟨E,bb⟩:=UU.1 C;obtain⟨a2,bo⟩:=UU.1 D;exact(List.pairwise_iff_getElem.1 (Fl h.bi t.id)) i j E a2 U (by rw[bb,bo,<-w,e])
 len:=by rw[F0 d.dB.bi hu];exact d.len
theorem nO.done{L:List Fn}(h:ct L last){t:Fn}(u:t∈L)(d:nO L last t (c5 L t.id).length Z):kn L t.id=Z:=by have:=d.eq;rw[VC]at this;rw[kn,oJ h.bi u,this]
theorem Mt(b:Nat)(id x:Int):bu 287 [aa x,ae b] (λF=>Rd F b (.cells #[aa id] 3 (0,0))) [] (.bool (decide (x=id))) []:=by apply aG Tryz.func287 Tryz.ntmps287;intro F d;apply J [9];haveI:fT F b (.cells #[aa id] 3 (0,0)):=⟨d⟩;apply J [241,82,296,63];exact j8
theorem Mu(b:Nat)(A:Int->Nat)(L:List Fn)(last:Int)(t:Fn)(d:t∈L)(aI:L.length<=1000000):bL 225 [ae b,aa t.id] be [uk b A L last] (λ_:Option Addr×Nat=>.agg (ints [t.ds,t.b9]).toArray) (λ_=>True) (λy=>[uk b A (hi L t.id) last,aj (A t.id) 219 [aa t.ds,aa t.b9,aa t.par,.slice y.1 (c5 L t.id).length y.2],a1 3 1 y.1 (c5 L t.id).length y.2 (ints (c5 L t.id))]):=by
 apply aG Tryz.func225 Tryz.ntmps225;intro F _;refine J [1,25,447] ?_;intro bb;refine J [0,532] ?_;intro bo;apply J [29];refine ab.open 2 rfl (λax av=>?_);obtain⟨ad,cap,aE,bt⟩:=ax;have au:=av;apply J [145];dsimp only at au⊢;have Q:=oI (A:=A) ⟨t,d,rfl⟩;have aS:=uH au.bi d;have H:(hi L t.id).length=L.length-1:=U
 have W:kf L (t.ds,t.b9)=some (aa t.id):=Ed au.no d;have aV:=au.rg t d;obtain⟨M,bH⟩:=fp d;have ag:=au.bi.perm bH.symm;apply J [346,534];refine cC [0,1,2,3,4,5,6] (aF.refl _) ?_;refine bU rfl rfl rfl (e8 rfl) ?_;apply J [88,109,92,535];refine bU rfl rfl rfl (oB rfl) ?_;apply J [74,8,8];rw[Q];apply J [38,172,54,0];apply aq (pI b aE bt L.length last (iE A L) t.par);apply J [146];by_cases N:fx L t.par;obtain⟨u,hu,ar⟩:=N;have V:iE A L t.par=some (.pointer (some ⟨A u.id,0,none⟩)):=by rw[<-ar];exact oI ⟨u,hu,rfl⟩
 rw[V];have an:u∈M:=cp;obtain⟨D,E⟩:=fp an;have aA:=(U6.1 ((E.map (·.id)).nodup_iff.1 (U6.1 ag).2)).1;have aB:=ur L u.id;have Z:∀x∈D,t.par≠x.id:=cp
 have P:∀x∈D,iv A ad cap L x=iv A ad cap (hi L t.id) x:=λx w=>(by dsimp only[iv];rw[sG au.bi d (Z x w)]);have O:∀x∈D,iu ad cap L x=iu ad cap (hi L t.id) x:=λx w=>(by dsimp only[iu];rw[sG au.bi d (Z x w)]);have C:(u::D).Perm (hi L t.id):=E.symm.trans (xf au.bi bH).symm;apply J [279,360,364];refine Wd (fV 5 rfl E) ?_;refine Wd (fV 5 rfl E) ?_;apply J [38,172,248,414,0];refine aL (v8 (ad u.id) (cap u.id) (c5 L u.id) 287 [ae bb] (λy=>decide (y=t.id)) (λF=>Rd F bb (.cells #[aa t.id] 3 (0,0))) (λy=>Mt bb t.id y) U (λ_ h=>jh h) (λ_ _ h=>lI (jh h))) rfl (dY 0 rfl (eu _)) fT.rd ?_;intro _ _;apply J [302];rw[O3];apply J [80,385,281,29];refine cC [0,1,2,3,4,-5] (eL (bI 9 rfl (aZ _))) ?_;apply J [49,92,222];refine lP 3 216 rfl (dL.int rfl) rfl rfl rfl ?_;refine J [110,8] ?_;refine cC [0,1,2,3,4,5,6,7,-8] (ey (bI 6 rfl (aZ _))) ?_;refine J [123,370,355,222,603,110,46] ?_;refine q rfl rfl (fM (vs:=ints [_,_]) 2 rfl rfl rfl rfl) ?_;apply J [19,479,260];exact XT ⟨ad t.id,cap t.id⟩ [_] ⟨(eV (n:=2) rfl rfl rfl rfl),trivial⟩ rfl trivial (ay ⟨ad,cap,aE,bt⟩ (au.off t.id) (bI 7 rfl (b8 2 rfl (by rw[D9,Q,H];rfl) (b8 1 rfl (by rw[Ec au.bi au.no d,W,H];rfl) (cQ 1 3 u rfl rfl rfl P C (cQ 1 1 u rfl rfl rfl O C (bv (bV (bv (aZ _))))))))));have V:=pH (A:=A) N;rw[V];have P:∀x∈M,iv A ad cap L x=iv A ad cap (hi L t.id) x:=λx w=>(by dsimp only[iv];rw[sG au.bi d (λe=>N ⟨x,bH.mem_iff.2 (by simp[w]),e.symm⟩)]);have O:∀x∈M,iu ad cap L x=iu ad cap (hi L t.id) x:=λx w=>(by dsimp only[iu];rw[sG au.bi d (λe=>N ⟨x,bH.mem_iff.2 (by simp[w]),e.symm⟩)]);have C:=(xf au.bi bH).symm;apply J [279,360,118];refine cC [0,1,2,3,4,-5] (ao (bI 7 rfl (aZ _))) ?_;apply J [49,92,222];refine lP 3 216 rfl (dL.int rfl) rfl rfl rfl ?_;refine J [110,8] ?_;refine cC [0,1,2,3,4,5,6,7,-8] (bV (c0 (aZ _))) ?_;refine J [123,370,355,222,603,110,46] ?_;refine q rfl rfl (fM (vs:=ints [_,_]) 2 rfl rfl rfl rfl) ?_;apply J [19,479,260];exact XT ⟨ad t.id,cap t.id⟩ [_] ⟨(eV (n:=2) rfl rfl rfl rfl),trivial⟩ rfl trivial (ay ⟨ad,cap,aE,bt⟩ (au.off t.id) (c0 (b8 2 rfl (by rw[D9,Q,H];rfl) (b8 1 rfl (by rw[Ec au.bi au.no d,W,H];rfl) (oG 4 rfl P C (oG 2 rfl O C (bv (bV (bv (aZ _))))))))))
theorem Er(b:Nat)(L:List Fn)(last:Int)(id:Int)(b7:L.length<=1000000):bu 167 [ae b,aa id] be [js b L last] (aa (Am L id)) [js b (kn L id) last]:=by
 apply aG Tryz.func167 Tryz.ntmps167;intro F _;apply J [1];refine ab.open 0 rfl (λA _=>?_);apply J [1];refine ab.open 0 rfl (λa9 a8=>?_);obtain⟨ad,cap,aE,bt⟩:=a9;have au:=a8;apply J [155];dsimp only at au⊢;by_cases O:fx L id;·have D:=oI (A:=A) O;have a4:Am L id=0:=aw O;rw[a4];obtain⟨t,E,rfl⟩:=O;apply J [62];apply aq (pI b aE bt L.length last (iE A L) t.id);apply J [14];rw[D];apply J [52,76,71,189,71,189,205];refine Wd (B:=ah [uk b A L last,F]) (ay ⟨ad,cap,aE,bt⟩ au (ao (ao (ao (ao (ao (ao (aZ _)))))))) ?_;apply J [175];apply a7 (Mu b A L last t E U);intro y _;apply J [18,29,127,248,174];clear D;have N:=au;clear au;have ce:=N.rg t E;have cc:=uH N.bi E;have bY:=ur L t.id;have bW:=eb (c5 L t.id);refine Vp (ι:=Nat×List Fn) (λs=>nO L last t s.1 s.2/\s.1<=(c5 L t.id).length) (λs=>[(0,ae b),(5,.pointer (some ⟨(A t.id),0,none⟩)),(24,.slice y.1 (c5 L t.id).length y.2),(25,aa (c5 L t.id).length),(26,aa ((s.1:Nat):Int))]) (λs=>ah [uk b A s.2 last,aj (A t.id) 219 [aa t.ds,aa t.b9,aa t.par,.slice y.1 (c5 L t.id).length y.2],a1 3 1 y.1 (c5 L t.id).length y.2 (ints (c5 L t.id)),F]) (λs=>(c5 L t.id).length-s.1) ⟨0,hi L t.id⟩ ⟨nO.start N E,UX _⟩ bC (ao (ao (ao (ao (aZ _))))) ?_;rintro⟨i,Z⟩ ⟨d,bp⟩ ck;dsimp only[cr]at d bp⊢;apply J [43];apply UR rfl<;>intro cb;(·obtain⟨k,aY⟩:∃k,(c5 L t.id)[i]? =some k:=⟨_,UO (show i<(c5 L t.id).length by omega)⟩;(have cd:0<(ints (c5 L t.id)).length:=by omega);obtain⟨u,hu,bq,bz⟩:=d.todo i k (UW _) aY;subst bq;have cg:=d.dB.rg u hu;(have a3:0<=t.par/\t.par<u.id:=by omega);have hIn:=d.next N E hu aY a3;obtain⟨M,bH⟩:=fp hu;have bn:=d.dB.bi.perm bH.symm;have D:=oI (A:=A) ⟨u,hu,rfl⟩;have W:=F0 d.dB.bi hu t.par;have cj:=d.len;have bl:∀x∈Z,u.par≠x.id:=λx C e=>d.no ⟨x,C,by rw[<-e,bz]⟩;have aB:=PW d.dB.bi bH t.par;have V:c5 (hh Z u t.par) u.id=c5 Z u.id:=Ac d.dB.bi hu U U;refine J [186] ?_;refine q rfl rfl (dC rfl rfl (hU aY)) ?_;apply J [31];refine ab.open 0 rfl (λa9 a8=>?_);obtain⟨ad,cap,aE,bt⟩:=a9;have au:=a8;apply J [145];dsimp only at au⊢;refine J [346,534,604,49,15,535] ?_;rw[D];apply J [185,88,341,90,508,74,36,172,54,0];apply aq (pI b aE bt Z.length last (iE A Z) t.par);apply J [146];by_cases a2:fx Z t.par;obtain⟨w,hw,a5⟩:=a2;(have aV:iE A Z t.par=some (.pointer (some ⟨A w.id,0,none⟩)):=by rw[<-a5];exact oI ⟨w,hw,rfl⟩);rw[aV];have ch:=d.dB.rg w hw;have bL:w∈M:=cp;obtain⟨P,Q⟩:=fp bL;have bN:=(U6.1 ((Q.map (·.id)).nodup_iff.1 (U6.1 bn).2)).1;have b0:=ur Z w.id;have a0:∀x∈P,x.id≠w.id/\c5 (hh Z u t.par) x.id=c5 Z x.id:=λx C=>(by(have ci:x∈M:=by grind);(have an:x∈Z:=by grind);(have bh:x.id≠w.id:=by simp_all);exact⟨bh,Ac d.dB.bi hu (λe=>bh (by rw[a5,e])) (bl x an)⟩);(have bd:c5 (hh Z u t.par) w.id=c5 Z w.id++[u.id]:=by rw[a5];exact O4 d.dB.bi hu U U);have bc:(⟨u.id,t.par,u.ds,u.b9⟩::w::P:List Fn).Perm (hh Z u t.par):=(Q.symm.cons _).trans aB;(have ag:u.id≠w.id:=by omega);have bQ:=eb (c5 Z w.id);apply J [279,360,364];refine Wd (fV 5 rfl Q) ?_;refine Wd (fV 6 rfl Q) ?_;refine J [38,172,248,66] ?_;intro cl;refine e rfl ?_;refine ap 8 rfl rfl rfl rfl rfl (U2 rfl) (show _=ints [u.id]from rfl) rfl U gl ?_;intro ar av;refine J [80,385,281,59] ?_;have aS:∀x∈P,iv A ad cap Z x=iv A (aP ad w.id ar) (aP cap w.id av) (hh Z u t.par) x:=λx C=>(by obtain⟨H,ax⟩:=a0 x C;dsimp only[iv];rw[bP H,bP H,ax]);have aI:∀x∈P,iu ad cap Z x=iu (aP ad w.id ar) (aP cap w.id av) (hh Z u t.par) x:=λx C=>(by obtain⟨H,ax⟩:=a0 x C;dsimp only[iu];rw[bP H,bP H,ax]);exact⟨rfl,⟨i+1,hh Z u t.par⟩,⟨hIn,by dsimp only;omega⟩,cD,bC,(ay ⟨aP ad w.id ar,aP cap w.id av,aE,bt⟩ hIn.dB (ey (b8 5 rfl (by rw[D8 (AI hu t.par),W]) (b8 7 rfl (by rw[Eb d.dB hu a3,W]) (tT 5 0 3 (⟨u.id,t.par,u.ds,u.b9⟩:Fn) w rfl rfl rfl (by dsimp only[iv];rw[bP ag,bP ag,V];rfl) (by dsimp only[iv];rw[cf,cf,bd,mp];rfl) aS bc (tT 3 0 1 (⟨u.id,t.par,u.ds,u.b9⟩:Fn) w rfl rfl rfl (by dsimp only[iu];rw[bP ag,bP ag,V]) (by dsimp only[iu];rw[cf,cf,bd,mp,UY,pN]) aI bc (bV (bV (bV (aZ _))))))))))⟩;have aV:=pH (A:=A) a2;rw[aV];have a0:∀x∈M,c5 (hh Z u t.par) x.id=c5 Z x.id:=λx C=>(by(have an:x∈Z:=by grind);exact Ac d.dB.bi hu (λe=>a2 ⟨x,an,e.symm⟩) (bl x an));(have aS:∀x∈M,iv A ad cap Z x=iv A ad cap (hh Z u t.par) x:=by grind);(have aI:∀x∈M,iu ad cap Z x=iu ad cap (hh Z u t.par) x:=by grind);refine J [279,360,108,112] ?_;exact⟨rfl,⟨i+1,hh Z u t.par⟩,⟨hIn,by dsimp only;omega⟩,cD,bC,(ay ⟨ad,cap,aE,bt⟩ hIn.dB (ao (b8 0 rfl (by rw[D8 (AI hu t.par),W]) (b8 4 rfl (by rw[Eb d.dB hu a3,W]) (cQ 0 2 (⟨u.id,t.par,u.ds,u.b9⟩:Fn) rfl rfl (by dsimp only[iv];rw[V];rfl) aS aB (cQ 0 0 (⟨u.id,t.par,u.ds,u.b9⟩:Fn) rfl rfl (by dsimp only[iu];rw[V]) aI aB (ao (ao (ao (aZ _))))))))))⟩);(obtain rfl:i=(c5 L t.id).length:=by omega);rw[d.done N E];apply J [21,209];exact eZ (ay A trivial (ao (bv (aZ _))))
 have D:=pH (A:=A) O;have a4:Am L id=6:=al O;have bG:kn L id=L:=by grind[kn,tZ]
 rw[a4,bG];apply J [62];apply aq (pI b aE bt L.length last (iE A L) id);apply J [14];rw[D];apply J [52,76,71,189,71,37,197];exact Ck
end Go.Proofs.YtglgidjhoncphaaGreatDoor.aV
namespace Go.Proofs.YtglgidjhoncphaaGreatDoor
open Go Go.QM
variable [dK] [fR]
structure cu where
  A:bQ
  L:List aV.Fn
  last:Int
structure bX where
  aO:Nat
  bE:Nat
  UG:aO=fR.aO:=by first|assumption|rfl
def cP(az af top:Nat)(X:cu):ax:=fj λy:bX=>pure' True (ah [aj az 148 [ae y.aO,ae y.bE],hA y.aO af top X.A,aV.js y.bE X.L X.last])
variable{top:Nat}
theorem hg{az af:Nat}{X:cu}:∀u,cP az af top X u->ck X.A/\∃S,ch top X.A S:=by rintro u ⟨y,_,a,b,d,rfl,C,w,c2,d2,rfl,⟨z,D,_⟩,_⟩;grind
def cS(A:bQ)(h:Int):Nat:=(bT A.l h 2).1.a.toNat
def bR(A:bQ)(h:Int):Int:=(bT A.l h 2).1.f
def bq(h:Int):Nat:=(h %256).toNat
variable{A:bQ}
theorem nK{S:cL}(W:ch top A S){h:Int}(P:0<=h)(e:(bT A.l h 2).2=0):cB A.l (bq h) 1 (bt 2 (cS A h) (bR A h))/\∃g,h=g*256+(bq h:Int)/\A.l[bq h]? =some ⟨bt 2 (cS A h) (bR A h),1,g⟩:=by
 obtain⟨i,p,Z,d,w,ag,Q,V,C,u⟩:=i8 P e;have u:=u.resolve_left am;obtain⟨c,a,f,O,_,_⟩:=W.obj i 1 p.o (.inl rfl) ⟨p.c4,by rw[<-w];exact d⟩;have E:=uF O u;obtain⟨o,s,g⟩:=p;dsimp only at*;subst w;subst E;have D:bq h=i:=V;have H:cS A h=a:=by rw[cS,C];rfl
 have N:bR A h=f:=by rw[bR,C];rfl
 rw[D,H,N];exact⟨⟨g,d⟩,g,Q,d⟩
def fC(A:bQ)(i:Nat)(s:Int):Nat:=if 0<=s/\s<256 then A.aI i s.toNat else 0
theorem jI{i s:Nat}(h:s<256):fC A i (s:Int)=A.aI i s:=aw ⟨by omega,by omega⟩
theorem Mf{i:Nat}{s:Int}(h:¬(0<=s/\s<256)):fC A i s=0:=al h
def hL(w:Nat):Nat:=w %4294967296-1
def k6(w:Nat):Nat:=w/4294967296
theorem k7{h r:Nat}(d:h<4294967295):hL (dG h r)=h/\k6 (dG h r)=r:=by rw[hL,k6,dG];omega
theorem QH{h r:Nat}(d:h<4294967295):dG h r&&&4294967295=h+1:=by rw[show(4294967295:Nat)=2^32-1 from rfl,Nat.and_two_pow_sub_one_eq_mod,dG];omega
theorem QG{h r:Nat}(d:h<4294967295):dG h r/2^32=r:=by rw[dG];omega
theorem QI{h r:Nat}(d:h<4294967295):(h+1)|||(r*4294967296)=dG h r:=by have:=Nat.two_pow_add_eq_or_of_lt (i:=32) (b:=h+1) U r;grind[dG]
theorem Cd(h r:Nat)(d:h<4294967295)(hr:r<=15):bu 166 [.agg #[aR h,aa r]] be [] (bj (dG h r:Int)) []:=by apply aG Tryz.func166 Tryz.ntmps166;intro F _;refine J [194,221] ?_;intro bb;apply J [27,111];refine q rfl rfl (conv .u32 .u64 rfl rfl rfl (p7 U)) ?_;refine q rfl rfl (QM.mR (b:=1) rfl rfl rfl U) ?_;refine J [58,307] ?_;refine q rfl rfl (uY (n:=32) (c:=r*4294967296) rfl rfl am U) ?_;refine q rfl rfl (pW rfl rfl U U (QI d)) ?_;apply J [30];exact dw
variable(s:Int)
theorem r9:bu 72 [aa s] be [] (.bool (decide (0<=s/\s<256))) []:=by apply aG Tryz.func72 Tryz.ntmps72;intro F _;apply J [9,241,271];refine aT.split 5 rfl (λd=>?_) (λd=>?_);have d:=dt d;apply J [190,132];exact sb;have d:=dX d;apply J [47,68];exact sc
theorem yc:bu 73 [aa s] be [] (.bool (decide (0<s/\s<=15))) []:=by apply aG Tryz.func73 Tryz.ntmps73;intro F _;apply J [9,241,219,20];refine aT.split 5 rfl (λd=>?_) (λd=>?_);have d:=dt d;apply J [11,289,132];exact sb;have d:=dX d;apply J [47,68];exact sc
theorem r8:bu 137 [aa s] be [] (.bool (decide (s<128))) []:=by apply aG Tryz.func137 Tryz.ntmps137;intro F _;apply J [9,241,405,63];exact j8
theorem T1(k:Int):bu 194 [aa k] be [] (.bool (decide (k=8\/1<=k/\k<=5))) []:=by apply aG Tryz.func194 Tryz.ntmps194;intro F _;apply J [9];by_cases u:k=8;subst u;refine J [241,183,476,51,161,161,340,132] ?_;exact j8;apply J [241,183];refine Ve 5 rfl (c:=false) (dk u) ?_;apply J [11,306,317];refine aT.split 8 rfl (λd=>?_) (λd=>?_);have d:=dt d;apply J [11,289,348,68];exact sb;have d:=dX d;apply J [47,386,68];exact sc
theorem pD(aO af d bF:Nat):bu 29 [ae aO] be [aj aO 135 [ae af,ae d,ae bF]] (ae af) [aj aO 135 [ae af,ae d,ae bF]]:=by apply aG Tryz.func29 Tryz.ntmps29;intro F _;apply J [1,131,42,40,106];exact hQ
theorem pb(az af top:Nat)(X:cu)(h:Int)(D:0<=h/\h<=4294967295)(E:(bT X.A.l h 2).2=0):bL 64 [ae az,aR h] c7 [cP az af top X] (λaQ:Nat=>.tuple #[.agg #[ae aQ,aR h,aa (bR X.A h)],aa 0]) (λ_=>True) (λaQ=>[aj aQ 163 [ae af,aa (bR X.A h),aa (cS X.A h:Int)],cP az af top X]):=by apply aG Tryz.func64 Tryz.ntmps64;intro F H;apply J [1];haveI:cz F:=⟨H⟩;apply ab.open 0 rfl;rintro⟨aO,bE⟩-;apply J [86];dsimp only;refine J [25,564] ?_;intro bo;apply J [31,42,40,28];apply aq (jG aO af top X.A h D 2);refine J [10,267] ?_;intro cl;apply J [115,34];refine UR rfl (λC=>absurd C (λh=>h E)) (λC=>?_);apply ab.open 1 rfl;rintro⟨w,bF,S⟩ ⟨d,u⟩;apply J [79];dsimp only at d u⊢;obtain⟨O,Q⟩:=nK d D.1 E;obtain⟨g9,W,Z⟩:=Q;have N:=d.P;have V:=(d.hn _ _ _ O).1.tk;have bZ:(bT X.A.l h 2).1=bt 2 (cS X.A h) (bR X.A h):=(by grind[i8,bq]);rw[bZ];apply J [44];refine cC [0,1,2,3,5,6,7,8,10,11,12,-4,-9,13,-14,15] (show aF (ah _) (ah [aj cl 60 (ints (bt 2 (cS X.A h) (bR X.A h)).l),aj az 148 [ae aO,ae bE]])from ai) ?_;apply J [49,134,181,15,134,12];apply aq (pD aO af w bF);refine J [232,45] ?_;apply a7 (HY af top (bR X.A h) (cS X.A h) S N V);intro aQ _;refine J [283] ?_;refine bU rfl rfl rfl (eh (cs:=[.pointer _,.int _ _,.int _ _]) rfl) ?_;refine J [254,148] ?_;exact XT aQ [_,_] ⟨(eV (n:=3) rfl rfl rfl rfl),rfl,trivial⟩ rfl trivial (bV (ay (bX.mk aO bE:bX) trivial (bI 6 rfl (ay (⟨w,bF,S⟩:fk) ⟨d,u⟩ ai))))
theorem q7(az af top:Nat)(X:cu)(h:Int)(u:0<=h/\h<=4294967295)(w:(bT X.A.l h 2).2≠0):bu 64 [ae az,aR h] be [cP az af top X] (.tuple #[.agg #[.pointer none,aR 0,aa 0],aa (bT X.A.l h 2).2]) [cP az af top X]:=by apply aG Tryz.func64 Tryz.ntmps64;intro F _;refine J [1,235] ?_;rintro⟨aO,bE⟩-;apply J [86];dsimp only;refine J [25,564] ?_;intro C;apply J [31,42,40,28];apply aq (jG aO af top X.A h u 2);refine J [10,267] ?_;intro D;apply J [115,34];refine UR rfl (λd=>?_) (λd=>absurd (w) d);apply J [24,585,252,129];exact XT () [_,_] ⟨(eV (n:=3) rfl rfl rfl rfl),rfl,trivial⟩ rfl trivial (ay (bX.mk aO bE:bX) trivial ai)
theorem S8:bu 77 [aa s] be [] (.bool (decide (0<=s/\s<256))) []:=by apply aG Tryz.func77 Tryz.ntmps77;intro F _;apply J [9,241,271];refine aT.split 5 rfl (λd=>?_) (λd=>?_);have d:=dt d;apply J [190,132];exact sb;have d:=dX d;apply J [47,68];exact sc
theorem SZ(aQ af:Nat)(d:Int)(t:Nat)(s:Int)(hs:¬(0<=s/\s<256)):bu 30 [ae aQ,aa s] be [aj aQ 163 [ae af,aa d,aa t]] (.tuple #[bj 0,bj 0]) [aj aQ 163 [ae af,aa d,aa t]]:=by apply aG Tryz.func30 Tryz.ntmps30;intro F _;apply J [1,24,242,253,282];apply aq (S8 s);apply J [5];rw[dk hs];apply J [321,41,48,137,368];exact hR ai
theorem ot(az af top:Nat)(X:cu)(aQ:Nat)(h:Int)(Z:0<=h/\h<=4294967295)(ar:(bT X.A.l h 2).2=0)(s:Int):bu 65 [.agg #[ae aQ,aR h,aa (bR X.A h)],aa s] be [aj aQ 163 [ae af,aa (bR X.A h),aa (cS X.A h:Int)],cP az af top X] (.tuple #[.agg #[aR (if(fC X.A (bq h) s)=0 then 0 else(hL (fC X.A (bq h) s):Int)),aa (if(fC X.A (bq h) s)=0 then 0 else(k6 (fC X.A (bq h) s):Int))],.bool (decide ((fC X.A (bq h) s)≠0))]) [aj aQ 163 [ae af,aa (bR X.A h),aa (cS X.A h:Int)],cP az af top X]:=by
 apply aG Tryz.func65 Tryz.ntmps65;intro F _;apply J [13];by_cases E:0<=s/\s<256;obtain⟨en,rfl⟩:∃k:Nat,s=(k:Int):=⟨s.toNat,(VM E.1).symm⟩;have H:en<256:=U
 rw[jI H];apply ab.open 1 rfl;rintro⟨aO,bE⟩-;apply J [85];dsimp only;apply ab.open 1 rfl;rintro⟨N,bF,S⟩ ⟨u,w⟩;apply J [145];dsimp only at u w⊢;obtain⟨ag,aS⟩:=nK u Z.1 ar;obtain⟨W,D⟩:=u.hn _ _ _ ag;have D:=(D en H).1;refine J [25,309] ?_;intro aB;refine J [0,163] ?_;intro gB;apply J [37,111,28];apply aq (q3 aQ af top (bR X.A h) (cS X.A h) S u.P W en H);apply J [146];rw[D];apply J [125,177];apply UR rfl<;>intro d;have d:X.A.aI (bq h) en=0:=U
 rw[d];apply J [24,95,362,75];exact XT () [_,_] ⟨(eV (n:=2) rfl rfl rfl rfl),rfl,trivial⟩ rfl trivial (bV (ay (bX.mk aO bE:bX) trivial (bI 6 rfl (ay (⟨N,bF,S⟩:fk) ⟨u,w⟩ ai))));have d:X.A.aI (bq h) en≠0:=U
 obtain⟨_,_,x,r,hw,aV,an,C,_⟩:=w.aI _ _ d;obtain⟨Q,V⟩:=k7 (r:=r) C;rw[hw]at d⊢;rw[Q,V,al d,al d,c1 d];have O:=jS C an;apply J [4,26];refine q rfl rfl (k1 (b:=4294967295) rfl rfl O.1 am (QH C)) ?_;refine q rfl rfl (conv .u64 .u32 rfl rfl rfl (pa U U)) ?_;refine q rfl rfl (bA.to (v:=(x:Int)) (sub rfl rfl (pa U U)) U) ?_;apply J [2];refine q rfl rfl (jX (n:=32) rfl rfl O.1 (QG C)) ?_;refine J [308,95,65,63] ?_;exact XT () [_,_] ⟨(eV (n:=2) rfl rfl rfl rfl),rfl,trivial⟩ rfl trivial (bV (ay (bX.mk aO bE:bX) trivial (bI 6 rfl (ay (⟨N,bF,S⟩:fk) ⟨u,w⟩ ai))));rw[show fC X.A (bq h) s=0 from Mf E];refine J [25,309] ?_;intro av;refine J [0,163] ?_;intro ax;apply J [37,111,28];apply aq (SZ aQ af (bR X.A h) (cS X.A h) s E);apply J [10,125,177,55,95,362,75];exact nL
theorem Np{S u w:cL}{c a:Nat}(g:ga top S u hX hX)(k:ga top u w (fw c a) (fw c a))(an:¬c6 S c a):ga top S w hX hX:=by
 have E:∀d b,c6 S d b->¬fw c a d b:=λd b h=>by rintro⟨rfl,rfl⟩;exact an h
 exact⟨k.P,λd b h _=>k.p d b (g.p d b h λh=>h) (E d b h),λd b h _ o C D=>(k.m d b (g.p d b h λh=>h) (E d b h) o C D).trans (g.m d b h (λh=>h) o C D),λ_ _ h=>h⟩
theorem Bu{i s:Nat}(hs:s<256)(u:A.aI i s=0):l8 A i s↔j5 (A.aI i) (s/16)≠0:=by rw[j5,BF];constructor;rintro⟨r,D,d,_,w⟩;exact⟨r %16,by omega,by rw[show 16*(s/16)+r %16=r by omega];exact w⟩;rintro⟨k,C,d⟩;exact⟨16*(s/16)+k,by omega,by omega,λe=>d (by rw[e];exact u),d⟩
theorem Nx{many aD i:Nat}{L L':List cc}(g:lC many L L' aD i):∃(k:Nat) (f:Nat->Bool),L'[k]? =some ⟨aD,f⟩/\f i=true:=by cases g with|old A B f w d u C=>exact⟨A.length,e4 f i,by rw[d];simp,by rw[zx,u];rfl⟩|new A B w d u C D E=>exact⟨A.length,λj=>decide (j=0),by rw[d];simp,by rw[u];rfl⟩
def rh(top:Nat)(A:bQ)(f:Int):Prop:=(aB.c9 A.Q f 48).2≠0\/(aB.c9 (aB.c9 A.Q f 48).1 f 256).2≠0\/2^top<=A.np+1
def rL(A:bQ)(f:Int)(Q:List aB.bW):Prop:=Q=(aB.c9 A.Q f 48).1\/Q=(aB.c9 (aB.c9 A.Q f 48).1 f 256).1
def vt(top:Nat)(A:bQ)(i s w:Nat)(f:Int)(y:Int×bQ):Prop:=(y.1=0/\∃Q,y.2=A.lay i s w Q/\rL A f Q)\/(y.1≠0/\y.2={A with np:=A.np+2}/\rh top A f)
section
variable {top : Nat} {A : bQ} {S ci gd : cL} {i a s w : Nat} {f : Int}
def py(A:bQ)(w:Nat):Prop:=∃h r:Nat,w=dG h r/\1<=r/\r<=15/\h<4294967295/\(av.cR A.l h).2=0
theorem ck.Ag(h:ck A)(u:cB A.l i 1 (bt 2 a f))(hs:s<256)(d:A.aI i s=0)(hw:py A w)(hr:l8 A i s)(D:(aB.c9 A.Q f 48).2=0)(O:A.np+2<=1000000):ck (A.lay i s w (aB.c9 A.Q f 48).1):=by have E:w≠0:=(by obtain⟨x,r,rfl,_,H,N,_⟩:=hw;grind[jS]);refine h.tS u hs (jF.hJ h.d8 D) ?_ (.inr hw) U;have:=BO (e:=A.aI i) (e':=fc A.aI i s w i) hs d (by rw[ij];exact E) λr C=>kU C;grind[rp,Bu]
theorem ck.Af(h:ck A)(C:cB A.l i 1 (bt 2 a f))(hs:s<256)(d:A.aI i s=0)(hw:py A w)(hr:¬l8 A i s)(E:(aB.c9 A.Q f 48).2=0)(H:(aB.c9 (aB.c9 A.Q f 48).1 f 256).2=0)(V:A.np+2<=1000000):ck (A.lay i s w (aB.c9 (aB.c9 A.Q f 48).1 f 256).1):=by have N:w≠0:=(by obtain⟨x,r,rfl,_,O,P,_⟩:=hw;grind[jS]);have u:=jF.hJ h.d8 E;refine h.tS C hs (u.trans (jF.hJ u.d8 H)) ?_ (.inr hw) U;have:=BO (e:=A.aI i) (e':=fc A.aI i s w i) hs d (by rw[ij];exact N) λr D=>kU D;rw[show j5 (A.aI i) (s/16)=0 from VB λh=>hr ((Bu hs d).2 h),vM]at this;omega
theorem ck.x2(h:ck A)(d:A.np+2<=1000000):ck {A with np:=A.np+2}:=⟨h.ok,h.d8,h.rt,h.ac,h.cY,h.nn,h.aI,h.hJ,h.mE,h.oe,h.og,h.m3,h.pd,by have:=h.bd;dsimp only;omega⟩
theorem ch.x2(h:ch top A S):ch top {A with np:=A.np+2} S:=h.mY (wt h.P rfl rfl rfl) rfl rfl rfl rfl h.Q (λ_ _ _ _ _ _ _=>⟨λh=>h,λh=>h.elim⟩) (λ_=>⟨λh=>h,λh=>h⟩) rfl (We h.fY (U7 _ _))
theorem ch.Pd(D:ck A)(h:ch top A S){y:Nat×Nat×List cc}(g:iW top S 6 y)(N:(aB.c9 S.Q f 48).2=0)(e:ci=kj S f 6 (some y)){L':List cc}(k:j1 top ci 6 y.1 y.2.1 L')(E:gd=⟨(aB.ek ci.Q f (cb 6:Int)).1,ci.bz,dF ci.C 6 L',ci.Fr,ci.m⟩):ch top {A with np:=A.np+2} gd:=by
 obtain⟨g1,g2⟩:=wr (a8:=ci) h.P ir g rO rO (λo D=>by rw[e];exact vl D);have an:¬c6 S 6 (addr 6 y):=λk=>g.uD h.P ir k ⟨rfl,rfl⟩;have g3:ga top ci gd (fw 6 (addr 6 y)) (fw 6 (addr 6 y)):=by grind[ga,addr,wq,ir]
 have H:((cb 6:Nat):Int)=48:=rfl;refine h.mY (Np g1 g3 an) rfl rfl rfl rfl ?_ (λ_ _ _ _ _ _ _=>⟨λh=>h,λh=>h.elim⟩) (λ_=>⟨λh=>h,λh=>h⟩) ?_ ?_;have u:ci.Q=(aB.c9 S.Q f 48).1:=by rw[e];rfl
 have d:ci.bz=S.bz:=by rw[e];rfl
 rw[E];dsimp only;rw[u,d,H,h.Q.1,sZ D.d8 (by rw[<-h.Q.1];exact N)];exact⟨rfl,h.Q.2⟩;have u:=IF ir g 6;have d:=IE g1.P ir k 6;rw[aw rfl]at u d;have w:ci.C=dF S.C 6 y.2.2:=by rw[e];rfl
 simp_all;have u:=g.len;have d:=k.len;have w:ci.C=dF S.C 6 y.2.2/\ci.Fr=S.Fr:=by rw[e];exact⟨rfl,rfl⟩
 rw[E];dsimp only;rw[w.1,w.2]at d⊢;have:=h.fY;omega
end
theorem yb(az af top:Nat)(X:cu)(aQ:Nat)(h:Int)(b7:0<=h/\h<=4294967295)(cc:(bT X.A.l h 2).2=0)(s:Nat)(hs:s<256)(V:X.A.aI (bq h) s=0)(x r:Nat)(bn:x<4294967295)(hr:1<=r/\r<=15)(co:(av.cR X.A.l x).2=0)(ax:X.A.np+2<=1000000):bL 138 [ae az,.agg #[ae aQ,aR h,aa (bR X.A h)],aa s,.agg #[aR x,aa r]] c7 [aj aQ 163 [ae af,aa (bR X.A h),aa (cS X.A h:Int)],cP az af top X] (λy:Int×bQ=>aa y.1) (λy=>vt top X.A (bq h) s (dG x r) (bR X.A h) y) (λy=>[aj aQ 163 [ae af,aa (bR X.A h),aa (cS X.A h:Int)],cP az af top ⟨y.2,X.L,X.last⟩]):=by
 apply aG Tryz.func138 Tryz.ntmps138;intro F bN;apply J [13];haveI:cz F:=⟨bN⟩;apply ab.open 1 rfl;rintro⟨aO,bE⟩-;apply J [85];dsimp only;apply ab.open 1 rfl;rintro⟨Z,bF,S⟩ ⟨d,u⟩;apply J [145];dsimp only at d u⊢;obtain⟨O,ck⟩:=nK d b7.1 cc;have cr:2^top<=128:=UV (n:=2) am d.P.f8.2;have ch:cb 6=48:=rfl;have a4:((cb 6:Nat):Int)=48:=rfl;have D:=jS bn hr.2;have bh:py X.A (dG x r):=by grind[py]
 refine J [25,309] ?_;intro bb;refine J [0,221] ?_;intro bo;apply J [31];refine cC [0,1,2,3,5,6,-4,-7,8,9,10,11,12] (show aF (ah _) (ah [aj bb 150 [ae aQ,aR h,aa (bR X.A h)],aj az 148 [ae aO,ae bE]])from ai) ?_;apply J [49,134,12];apply aq (pD aO af Z bF);refine J [227,45] ?_;apply a7 (uK af top S (bR X.A h) 6 ir);intro⟨cg,cm⟩ an;refine J [283] ?_;cases cg with|none=>?_|some y=>?_
 dsimp only[pv,kj];have aS:rh top X.A (bR X.A h):=(by have bK:=an.2;rw[a4,d.Q.1]at bK;rcases bK with bK|⟨_,bK⟩;exact .inl (by rw[<-bK];exact an.1);exact .inr (.inr (We bK (Nat.le_succ_of_le d.fY))));have H:=u.x2 ax;have N:=d.x2;apply J [167,272,275,8,34];refine UR rfl (λa8=>?_) (λa8=>absurd (an.1) a8);apply J [124];exact br (cm,{X.A with np:=X.A.np+2}) (.inr ⟨an.1,rfl,aS⟩) (bI 8 rfl (ay (bX.mk aO bE:bX) trivial (bI 6 rfl (ay (⟨Z,bF,S⟩:fk) ⟨N,H⟩ ai))));obtain⟨rfl,bi,cn⟩:=an;obtain⟨ci,w⟩:∃ci:cL,ci=kj S (bR X.A h) 6 (some y):=⟨_,rfl⟩;rw[<-w];dsimp only[pv];obtain⟨g1,ce,ct,t1,t2,t3⟩:=d.node O cn w;have cq:=c6.bd g1.P ce;have aV:ci.Q=(aB.c9 X.A.Q (bR X.A h) 48).1:=by rw[w,<-d.Q.1];rfl
 have aY:(aB.c9 X.A.Q (bR X.A h) 48).2=0:=by rw[<-d.Q.1];exact bi
 apply J [167,272,275,8,34];refine UR rfl (λa9=>absurd a9 (λh=>h rfl)) (λa9=>?_);apply J [44,8];refine cC [0,1,2,3,5,6,-4,-7,8] (show aF (ah _) (ah [aj bb 150 [ae aQ,aR h,aa (bR X.A h)],aj bo 39 [aR x,aa r]])from ai) ?_;apply J [109,15,229,15];refine bU rfl rfl rfl (conv .i64 .u64 rfl rfl rfl (p7 U)) ?_;refine dJ rfl rfl ?_;apply aq (Cd x r bn hr.2);refine J [283] ?_;by_cases W:bp ci.m (cS X.A h) (s/16)=0;have a0:¬l8 X.A (bq h) s:=λbK=>(d.Hg O hs V).2 bK (by rw[<-t2 _ U];exact W);have a2:((cb 7:Nat):Int)=256:=rfl;refine dJ rfl rfl ?_;apply a7 (Th aQ af top (bR X.A h) (cS X.A h) ci g1.P t1 s hs (dG x r) (addr 6 y) D.1 U D.2 W);intro⟨z9,cm⟩ ar;refine J [283] ?_;cases z9 with|none=>?_|some z=>?_
 dsimp only[uX];obtain⟨cd,f6,b8,b0⟩:=Nx cn.m0;have bG:ci.C 6=y.2.2:=by rw[w];exact jD S.C 6 y.2.2
 have b9:(aB.ek ci.Q (bR X.A h) (cb 6:Int)).2=0:=by rw[aV,a4,sZ u.d8 aY]
 have aS:rh top X.A (bR X.A h):=(by have bK:=ar.2;rw[a2,aV]at bK;rcases bK with bK|⟨_,bK⟩;exact .inr (.inl (by rw[<-bK];exact ar.1));refine .inr (.inr (We bK ?_));have cj:=cn.len;(have a5:ci.C=dF S.C 6 y.2.2/\ci.Fr=S.Fr:=by rw[w];exact⟨rfl,rfl⟩);rw[a5.1,a5.2];have:=d.fY;omega);apply J [200,34];refine UR rfl (λbe=>?_) (λbe=>absurd (ar.1) be);refine cC [0,1,2,3,5,6,7,-4,-8] (show aF (ah _) (ah [aj bb 150 [ae aQ,aR h,aa (bR X.A h)],aj az 148 [ae aO,ae bE]])from ai) ?_;apply J [49,134,249];apply aq (pD aO af Z bF);refine J [227,45] ?_;apply a7 (uL af top ci 6 ir cd y.1 y.2.1 f6 (by rw[bG];exact b8) b0 (bR X.A h) b9);intro bu bW;refine J [283] ?_;obtain⟨gd,a3⟩:∃gd:cL,gd=⟨(aB.ek ci.Q (bR X.A h) (cb 6:Int)).1,ci.bz,dF ci.C 6 bu,ci.Fr,ci.m⟩:=⟨_,rfl⟩;rw[<-a3];have N:=d.Pd u cn bi w bW a3;have H:=u.x2 ax;apply J [74,133];exact br (cm,{X.A with np:=X.A.np+2}) (.inr ⟨ar.1,rfl,aS⟩) (bv (ay (bX.mk aO bE:bX) trivial (bI 6 rfl (ay (⟨Z,bF,gd⟩:fk) ⟨N,H⟩ ai))));obtain⟨rfl,bl,bY⟩:=ar;dsimp only;obtain⟨E,ag⟩:∃E:cL,E=uX ci (bR X.A h) (cS X.A h) s (dG x r) (addr 6 y) (some z):=⟨_,rfl⟩;rw[<-ag];rw[aV,a2]at bl;have N:=d.Af u.ok O hs V D.2 D.1 cn w W bY ag;have H:=u.Af O hs V bh a0 aY bl ax;apply J [200,34];refine UR rfl (λbc=>absurd bc (λh=>h rfl)) (λbc=>?_);apply J [4,133];exact br (0,X.A.lay (bq h) s (dG x r) (aB.c9 (aB.c9 X.A.Q (bR X.A h) 48).1 (bR X.A h) 256).1) (.inl ⟨rfl,_,rfl,.inr rfl⟩) (ao (ay (bX.mk aO bE:bX) trivial (bI 6 rfl (ay (⟨Z,bF,E⟩:fk) ⟨N,H⟩ ai))));have a0:l8 X.A (bq h) s:=(d.Hg O hs V).1 (by rw[<-t2 _ U];exact W);obtain⟨E,ag⟩:∃E:cL,E=⟨ci.Q,ci.bz,ci.C,ci.Fr,dv ci.m (bp ci.m (cS X.A h) (s/16)+s %16*16) [dG x r,addr 6 y]⟩:=⟨_,rfl⟩;have N:=d.Ag u.ok O hs V D.2 D.1 cn w W ag;have H:=u.Ag O hs V bh a0 aY ax;refine dJ rfl rfl ?_;apply aq (BY aQ af top (bR X.A h) (cS X.A h) ci g1.P t1 s hs (dG x r) (addr 6 y) D.1 U D.2 W);refine J [283] ?_;rw[<-ag];apply J [200,198,133];exact br (0,X.A.lay (bq h) s (dG x r) (aB.c9 X.A.Q (bR X.A h) 48).1) (.inl ⟨rfl,_,rfl,.inl rfl⟩) (ao (ay (bX.mk aO bE:bX) trivial (bI 6 rfl (ay (⟨Z,bF,E⟩:fk) ⟨N,H⟩ ai))))
section
variable {A : bQ} {i a s : Nat} {f : Int}
theorem ck.H1(h:ck A)(u:cB A.l i 1 (bt 2 a f)):aB.db A.Q f/\(kR (A.aI i):Int)<=aB.gg A.Q f:=by have d:=(h.ac i 1 _ (.inl rfl) u).1;refine⟨d,?_⟩;rw[show(bt 2 a f).f=f from rfl]at d;rw[h.hJ f d];have w:=u0 (f:=h7 A f) (u.lt h.ok);rw[nW u f,aw (show fl 1/\(bt 2 a f).f=f from⟨.inl rfl,rfl⟩),aw (show(1:Int)=1/\(bt 2 a f).k=2 from⟨rfl,rfl⟩)]at w;grind[pz]
theorem H0(hs:s<256)(d:A.aI i s≠0):kR (A.aI i)=kR (fc A.aI i s 0 i)+48+256*(1-bb (j5 (fc A.aI i s 0 i) (s/16))):=
 BO (e:=fc A.aI i s 0 i) (e':=A.aI i) hs (ij ..) d λr u=>(kU u).symm
theorem Hk(hs:s<256):l8 A i s↔j5 (fc A.aI i s 0 i) (s/16)≠0:=by have u:=Bu (A:={A with aI:=fc A.aI i s 0}) (i:=i) hs (ij ..);rw[<-u,l8,l8];constructor;rintro⟨r,a,b,c,d⟩;exact⟨r,a,b,c,by dsimp only;rw[kU c];exact d⟩;grind[kU]
theorem ck.yM(h:ck A)(d:cB A.l i 1 (bt 2 a f))(hs:s<256)(u:A.aI i s≠0)(hr:l8 A i s):(aB.ek A.Q f 48).2=0/\ck (A.bare i s (aB.ek A.Q f 48).1):=by obtain⟨w,E⟩:=h.H1 d;have C:=H0 hs u;rw[rp ((Hk hs).1 hr)]at C;obtain⟨bN,D⟩:=jF.rU h.d8 w (n:=48) am U;exact⟨bN,h.tS d hs D U (.inl rfl) ⟨UW _,h.bd.2.2⟩⟩
theorem ck.yL(h:ck A)(C:cB A.l i 1 (bt 2 a f))(hs:s<256)(D:A.aI i s≠0)(hr:¬l8 A i s):(aB.ek A.Q f 256).2=0/\(aB.ek (aB.ek A.Q f 256).1 f 48).2=0/\ck (A.bare i s (aB.ek (aB.ek A.Q f 256).1 f 48).1):=by obtain⟨u,O⟩:=h.H1 C;have E:=H0 hs D;rw[show j5 (fc A.aI i s 0 i) (s/16)=0 from VB λh=>hr ((Hk hs).2 h),vM]at E;obtain⟨bN,d⟩:=jF.rU h.d8 u (n:=256) am U;have w:=d.fQ _ u;rw[aw rfl]at w;obtain⟨H,N⟩:=jF.rU d.d8 ((d.has _).2 u) (n:=48) am (by rw[w];omega);exact⟨bN,H,h.tS C hs (d.trans N) U (.inl rfl) ⟨UW _,h.bd.2.2⟩⟩
end
theorem Ca(az af top:Nat)(X:cu)(aQ:Nat)(h:Int)(bl:0<=h/\h<=4294967295)(b0:(bT X.A.l h 2).2=0)(s:Nat)(hs:s<256)(D:X.A.aI (bq h) s≠0):bL 168 [ae az,.agg #[ae aQ,aR h,aa (bR X.A h)],aa s] c7 [aj aQ 163 [ae af,aa (bR X.A h),aa (cS X.A h:Int)],cP az af top X] (λ_:bQ=>.tuple #[]) (λy=>∃Q,y=X.A.bare (bq h) s Q) (λy=>[aj aQ 163 [ae af,aa (bR X.A h),aa (cS X.A h:Int)],cP az af top ⟨y,X.L,X.last⟩]):=by
 apply aG Tryz.func168 Tryz.ntmps168;intro F bc;apply J [13];haveI:cz F:=⟨bc⟩;apply ab.open 1 rfl;rintro⟨aO,bE⟩-;apply J [85];dsimp only;apply ab.open 1 rfl;rintro⟨Z,bF,S⟩ ⟨u,O⟩;apply J [145];dsimp only at u O⊢;obtain⟨E,ch⟩:=nK u bl.1 b0;have ci:2^top<=128:=UV (n:=2) am u.P.f8.2;have cd:cb 6=48:=rfl;have cc:((cb 6:Nat):Int)=48:=rfl;have a9:((cb 7:Nat):Int)=256:=rfl;obtain⟨W,a3⟩:=u.hn _ _ _ E;have ce:=(a3 s hs).1;have a2:=(a3 s hs).2 D;have cg:=c6.bd u.P a2;have a4:d6 S.m (cS X.A h) s≠0:=U
 have aS:=u.fF E hs D;obtain⟨k,aD,i,f,ag,a5,aN⟩:=(a2.jU ir).at;refine J [25,309] ?_;intro bb;apply J [100,61,28];apply aq (q3 aQ af top (bR X.A h) (cS X.A h) S u.P W s hs);apply J [22];have a0:=aN;rw[aN];apply J [268,141,111,2];by_cases H:l8 X.A (bq h) s;refine e rfl ?_;apply aq (SU aQ af top (bR X.A h) (cS X.A h) S u.P W s hs aS a4 ((u.row E hs D).1 H));apply J [22];obtain⟨d,w⟩:∃d:cL,d=⟨S.Q,S.bz,S.C,S.Fr,dv S.m (bp S.m (cS X.A h) (s/16)+s %16*16) [0,0]⟩:=⟨_,rfl⟩;rw[<-w];have ax:d.C 6=S.C 6:=by rw[w]
 obtain⟨bW,av⟩:=O.yM E hs D H;have bh:d.Q=X.A.Q:=by rw[w];exact u.Q.1
 have bG:d.bz=X.A.bz:=by rw[w];exact u.Q.2
 have aV:(aB.ek d.Q (bR X.A h) (cb 6:Int)).2=0:=b2
 rw[<-ax]at ag;refine J [3,605,49,134,15,537,12] ?_;apply aq (pD aO af Z bF);refine J [232,45] ?_;apply a7 (uL af top d 6 ir k aD i f ag a5 (bR X.A h) aV);intro N aA;refine J [232,6] ?_;obtain⟨gd,an⟩:∃gd:cL,gd=⟨(aB.ek d.Q (bR X.A h) (cb 6:Int)).1,d.bz,dF d.C 6 N,d.Fr,d.m⟩:=⟨_,rfl⟩;rw[<-an];have V:=u.yM O.ok E hs D H w aA a0 (aB.ek X.A.Q (bR X.A h) 48).1;have ar:gd=⟨(aB.ek X.A.Q (bR X.A h) 48).1,X.A.bz,dF d.C 6 N,d.Fr,d.m⟩:=b2
 rw[<-ar]at V;refine b6.nil ?_;exact mQ (X.A.bare (bq h) s (aB.ek X.A.Q (bR X.A h) 48).1) ⟨_,rfl⟩ (bv (ay (bX.mk aO bE:bX) trivial (ey (ay (⟨Z,bF,gd⟩:fk) ⟨V,av⟩ ai))));obtain⟨b8,b9,i7,f7,bu,bi,a8⟩:=(W.fF _ U aS).at;obtain⟨bY,bW,av⟩:=O.yL E hs D H;have b7:∀j,j<16->j≠s %16->cO S.m (bp S.m (cS X.A h) (s/16)+j*16)=0:=λj bn bN=>VB λbK=>H ((u.row E hs D).2 ⟨j,bn,bN,bK⟩);refine e rfl ?_;apply a7 (SS aQ af top (bR X.A h) (cS X.A h) S u.P W s hs aS a4 b8 b9 i7 f7 bu bi a8 b7 (by rw[a9,u.Q.1];exact bY));intro aY be;apply J [22];obtain⟨d,w⟩:∃d:cL,d=⟨(aB.ek S.Q (bR X.A h) (cb 7:Int)).1,S.bz,dF S.C 7 aY,S.Fr,dv (dv S.m (bp S.m (cS X.A h) (s/16)+s %16*16) [0,0]) (cS X.A h+s/16*8) [0]⟩:=⟨_,rfl⟩;rw[<-w];have ax:d.C 6=S.C 6:=by rw[w];exact jc S.C aY (show(6:Nat)≠7 by decide)
 have bh:d.Q=(aB.ek X.A.Q (bR X.A h) 256).1:=by rw[w,<-u.Q.1];rfl
 have bG:d.bz=X.A.bz:=by rw[w];exact u.Q.2
 have aV:(aB.ek d.Q (bR X.A h) (cb 6:Int)).2=0:=b2
 rw[<-ax]at ag;refine J [3,605,49,134,15,537,12] ?_;apply aq (pD aO af Z bF);refine J [232,45] ?_;apply a7 (uL af top d 6 ir k aD i f ag a5 (bR X.A h) aV);intro N aA;refine J [232,6] ?_;obtain⟨gd,an⟩:∃gd:cL,gd=⟨(aB.ek d.Q (bR X.A h) (cb 6:Int)).1,d.bz,dF d.C 6 N,d.Fr,d.m⟩:=⟨_,rfl⟩;rw[<-an];have V:=u.yL O.ok E hs D H be a8 w aA a0 (aB.ek (aB.ek X.A.Q (bR X.A h) 256).1 (bR X.A h) 48).1;have ar:gd=⟨(aB.ek (aB.ek X.A.Q (bR X.A h) 256).1 (bR X.A h) 48).1,X.A.bz,dF d.C 6 N,d.Fr,d.m⟩:=b2
 rw[<-ar]at V;refine b6.nil ?_;exact mQ (X.A.bare (bq h) s (aB.ek (aB.ek X.A.Q (bR X.A h) 256).1 (bR X.A h) 48).1) ⟨_,rfl⟩ (bv (ay (bX.mk aO bE:bX) trivial (ey (ay (⟨Z,bF,gd⟩:fk) ⟨V,av⟩ ai))))
end Go.Proofs.YtglgidjhoncphaaGreatDoor
namespace Go.Proofs.YtglgidjhoncphaaGreatDoor.aV
open Go Go.QM
theorem FC{L:List Fn}{last:Int}(h:ct L last){t:Fn}(Q:t∈L):∀i,i<=(c5 L t.id).length->∃Z,nO L last t i Z/\∀u,u∈Z↔∃v∈L,v.id≠t.id/\u=if v.id∈(c5 L t.id).take i then⟨v.id,t.par,v.ds,v.b9⟩else v
 | 0,_=>⟨hi L t.id,nO.start h Q,λu=>by
  rw[l3]
  constructor
  ·rintro⟨E,H⟩;exact⟨u,E,H,by simp⟩
  rintro⟨v,E,H,C⟩;simp at C;rw[C];exact⟨E,H⟩⟩
 | i +1,aB=>by
  obtain⟨Z,ag,hm⟩:=FC h Q i U
  obtain⟨k,P⟩:∃k,(c5 L t.id)[i]? =some k:=⟨_,UO U⟩
  obtain⟨w,hw,rfl,aS⟩:=ag.todo i k (UW _) P
  have aA:=ag.dB.rg w hw
  have aI:=h.rg t Q
  have aG:=oU h (US P)
  have V:(c5 L t.id).take (i+1)=(c5 L t.id).take i++[w.id]:=by rw[U5,P];rfl
  refine⟨_,ag.next h Q hw P U,λu=>?_⟩
  obtain⟨v0,qE,av,ax⟩:=(hm w).1 hw
  have dh:v0.id=w.id/\v0.ds=w.ds/\v0.b9=w.b9:=by
   rw[ax];split<;>exact⟨rfl,rfl,rfl⟩
  have ar:u∈hh Z w t.par↔(u∈Z/\u.id≠w.id)\/u=⟨w.id,t.par,w.ds,w.b9⟩:=by rw[hh,UQ,UP,l3]
  rw[ar]
  constructor
  ·rintro(⟨E,H⟩|rfl)
   ·obtain⟨v,C,W,N⟩:=(hm u).1 E
    have an:v.id=u.id:=by rw[N];split<;>rfl
    refine⟨v,C,W,?_⟩
    rw[N,V]
    have O:v.id∈(c5 L t.id).take i++[w.id]↔v.id∈(c5 L t.id).take i:=by
     rw[UQ,UP]
     exact⟨λD=>D.elim id λe=>absurd (an.symm.trans e) H,.inl⟩
    by_cases d:v.id∈(c5 L t.id).take i
    ·rw[aw d,aw (O.2 d)]
    rw[al d,al (λD=>d (O.1 D))]
   refine⟨v0,qE,av,?_⟩
   rw[aw (by rw[V,dh.1];simp),dh.1,dh.2.1,dh.2.2]
  rintro⟨v,C,W,N⟩
  by_cases e:v.id=w.id
  ·right
   obtain rfl:=h.bi.inj C qE (e.trans dh.1.symm)
   rw[N,aw (by rw[V,e];simp),dh.1,dh.2.1,dh.2.2]
  left
  have O:v.id∈(c5 L t.id).take i++[w.id]↔v.id∈(c5 L t.id).take i:=by
   rw[UQ,UP]
   exact⟨λD=>D.elim id λaq=>absurd aq e,.inl⟩
  have d:u=if v.id∈(c5 L t.id).take i then⟨v.id,t.par,v.ds,v.b9⟩else v:=by
   rw[N,V]
   by_cases d:v.id∈(c5 L t.id).take i
   ·rw[aw d,aw (O.2 d)]
   rw[al d,al (λD=>d (O.1 D))]
  refine⟨(hm u).2 ⟨v,C,W,d⟩,?_⟩
  rw[d];split<;>exact e
def sK(t v:Fn):Fn:=⟨v.id,if v.par=t.id then t.par else v.par,v.ds,v.b9⟩
structure JF(L:List Fn)(last:Int)(t:Fn):Prop where
  dB:ct (kn L t.id) last
  len:(kn L t.id).length+1=L.length
  mem:∀u,u∈kn L t.id↔∃v∈L,v.id≠t.id/\u=sK t v
theorem An{L:List Fn}{last:Int}(h:ct L last){t:Fn}(d:t∈L):JF L last t:=by obtain⟨Z,C,hm⟩:=FC h d _ (UW _);have e:=C.done h d;have H:=uH h.bi d;have O:=h.rg t d;refine⟨by rw[e];exact C.dB,by rw[e,C.len];exact H,λu=>?_⟩;rw[e,hm,VC];have hv:∀v∈L,(if v.id∈c5 L t.id then(⟨v.id,t.par,v.ds,v.b9⟩:Fn)else v)=sK t v:=λv hv=>(by have P:v.id∈c5 L t.id↔v.par=t.id:=(by rw[oT];constructor;rintro⟨_,w,hw,D,E⟩;rw[<-h.bi.inj hw hv E];exact D;grind);rw[sK];by_cases N:v.par=t.id;all_goals simp_all);grind
end Go.Proofs.YtglgidjhoncphaaGreatDoor.aV
namespace Go.Proofs.YtglgidjhoncphaaGreatDoor
open Go Go.QM
variable [dK] [fR]
def an(l:List av.bY)(i:Nat):Int:=match l[i]? with
  | some p=>p.c4*256+(i:Int)
  | none=>-1
theorem rC{l:List av.bY}{i:Nat}{p:av.bY}(h:l[i]? =some p):an l i=p.c4*256+(i:Int):=by rw[an,h]
theorem rD{l:List av.bY}(d:av.dM l){i j:Nat}(u:i<256)(w:j<256)(e:an l i=an l j):i=j:=by obtain⟨p,C,_⟩:=d.at u;obtain⟨q,D,_⟩:=d.at w;grind[rC]
theorem EH{l:List av.bY}(u:av.dM l){i:Nat}(d:i<256):0<=an l i/\an l i<=4294967295/\(an l i %256).toNat=i:=by obtain⟨p,D,w,C⟩:=u.at d;grind[rC]
structure cV(X:cu)(D:Nat->Nat->Prop):Prop where
  dB:aV.ct X.L X.last
  ob:∀t∈X.L,∃i s:Nat,t.ds=an X.A.l i/\t.b9=(s:Int)/\X.A.aI i s≠0/\¬D i s
  qO:∀i s,X.A.aI i s≠0->¬D i s->∃t∈X.L,t.ds=an X.A.l i/\t.b9=(s:Int)
  kc:∀i s,D i s->X.A.aI i s≠0
  fy:∀t∈X.L,∀u∈X.L,t.par=u.id->∀i s j r:Nat,t.ds=an X.A.l i->t.b9=(s:Int)->X.A.aI i s≠0->u.ds=an X.A.l j->u.b9=(r:Int)->X.A.aI j r≠0->hL (X.A.aI i s)=hL (X.A.aI j r)
  di:X.last<=X.A.np
def dV:Nat->Nat->Prop:=λ_ _=>False
section
variable {X : cu} {D : Nat → Nat → Prop}
variable{i s:Nat}
theorem ck.kd{A:bQ}(h:ck A)(e:A.aI i s≠0):i<256/\s<256:=by obtain⟨d,⟨a,f,u⟩,_⟩:=h.aI i s e;exact⟨u.lt h.ok,d⟩
theorem cV.om(h:cV X D)(d:ck X.A){t:aV.Fn}(H:t∈X.L)(E:i<256)(u:t.ds=an X.A.l i)(N:t.b9=(s:Int)):X.A.aI i s≠0/\¬D i s:=by obtain⟨j,r,w,O,C,P⟩:=h.ob t H;have:=rD d.ok E (d.kd C).1 (u.symm.trans w);grind
theorem cV.find(h:cV X D)(e:X.A.aI i s≠0)(C:¬D i s):∃t∈X.L,aV.gk X.L (an X.A.l i,(s:Int))=t.id/\t.ds=an X.A.l i/\t.b9=(s:Int)/\1<=t.id:=by obtain⟨t,d,u,w⟩:=h.qO i s e C;refine⟨t,d,?_,u,w,(h.dB.rg t d).1⟩;rw[<-u,<-w];exact aV.t6 h.dB.no d
theorem cV.Ga(h:cV X D)(C:ck X.A)(E:i<256)(e:X.A.aI i s=0\/D i s):aV.gk X.L (an X.A.l i,(s:Int))=0:=by refine aV.wk ?_;rintro⟨t,H,d⟩;have u:t.ds=an X.A.l i:=congrArg (·.1) d;have w:t.b9=(s:Int):=congrArg (·.2) d;obtain⟨N,O⟩:=h.om C H E u w;simp_all
theorem NE{L:List aV.Fn}{x y:Int}(h:aV.gk L (x,y)=0)(hr:∀t∈L,1<=t.id):¬aV.kk L (x,y):=by rintro⟨t,d,e⟩;grind[aV.gk]
theorem cV.add(h:cV X D)(H:ck X.A)(O:D i s){par:Int}(w:par=0\/∃u∈X.L,u.id=par/\∀j r:Nat,u.ds=an X.A.l j->u.b9=(r:Int)->X.A.aI j r≠0->hL (X.A.aI i s)=hL (X.A.aI j r)){D':Nat->Nat->Prop}(aK:∀j r,D' j r↔D j r/\¬(j=i/\r=s))(aG:X.last+1<=X.A.np):
 (aV.gW X.L X.last par (an X.A.l i,(s:Int))).2.2.2=0/\cV ⟨X.A,(aV.gW X.L X.last par (an X.A.l i,(s:Int))).1,(aV.gW X.L X.last par (an X.A.l i,(s:Int))).2.1⟩ D':=by
 have ag:i<256:=(H.kd (h.kc i s O)).1;have Z:=h.Ga H ag (.inr O);have aA:¬(¬aV.fx X.L par/\par≠0):=(by rcases w with w|⟨u,hu,w,_⟩;omega;exact λh=>h.1 ⟨u,hu,w⟩);have e:aV.gW X.L X.last par (an X.A.l i,(s:Int))=(X.L++[⟨X.last+1,par,an X.A.l i,(s:Int)⟩],X.last+1,X.last+1,0):=(by rw[aV.gW,al aA,al (λh=>h Z)]);have a5:0<=X.last:=by have:=h.dB.len;omega
 have aY:0<=par/\par<=X.last:=(by rcases w with w|⟨u,hu,w,_⟩;omega;have:=h.dB.rg u hu;omega);rw[e];refine⟨rfl,h.dB.add (t:=⟨X.last+1,par,an X.A.l i,(s:Int)⟩) rfl aY (NE Z λt d=>(h.dB.rg t d).1),λt d=>?_,λj r P aS=>?_,λj r P=>h.kc j r ((aK j r).1 P).1,λt d u hu Q=>?_,aG⟩;rcases UQ.1 d with d|d;obtain⟨j,r,ax,a2,a3,a4⟩:=h.ob t d;grind;obtain rfl:=UP.1 d;exact⟨i,s,rfl,rfl,h.kc i s O,λN=>((aK i s).1 N).2 ⟨rfl,rfl⟩⟩;by_cases C:j=i/\r=s;simp_all;obtain⟨t,d,ax⟩:=h.qO j r P λN=>aS ((aK j r).2 ⟨N,C⟩);grind;dsimp only;intro j r k q C V W aq ar av;rcases UQ.1 d with d|d<;>rcases UQ.1 hu with E|E;exact h.fy t d u E Q j r k q C V W aq ar av;obtain rfl:=UP.1 E;have:=h.dB.rg t d;grind;obtain rfl:=UP.1 d;dsimp only at Q C V;have aB:=rD H.ok ag (H.kd W).1 C;have a0:r=s:=U
 subst aB;subst a0;rcases w with w|⟨v,hv,w,a7⟩;have:=h.dB.rg u E;omega;have:v=u:=h.dB.bi.inj hv E U;grind;grind
theorem cV.lay(h:cV X D)(P:ck X.A){w np:Nat}{Q:List aB.bW}(aV:i<256)(av:X.A.aI i s=0)(hw:w≠0)(aY:X.A.np<=np){D':Nat->Nat->Prop}(aK:∀j r,D' j r↔D j r\/(j=i/\r=s)):cV ⟨{X.A with Q:=Q,aI:=fc X.A.aI i s w,np:=np},X.L,X.last⟩ D':=by have V:∀{j r},X.A.aI j r≠0->fc X.A.aI i s w j r=X.A.aI j r:=λ{j r} d=>ls (by by_cases e:j=i;exact .inr λC=>d (by rw[e,C];exact av);exact .inl e);have hold:∀{j r},fc X.A.aI i s w j r≠0->¬(j=i/\r=s)->X.A.aI j r≠0:=λ{j r} O ax=>(by grind[ls]);refine⟨h.dB,λt N=>?_,λj r d aA=>?_,λj r d=>?_,λt N u hu an=>?_,by have:=h.di;dsimp only;omega⟩;obtain⟨j,r,O,ax,aG,aS⟩:=h.ob t N;grind;dsimp only at d;by_cases e:j=i/\r=s;simp_all;exact h.qO j r (hold d e) λE=>aA ((aK j r).2 (.inl E));dsimp only;rcases(aK j r).1 d with H|⟨rfl,rfl⟩;have:=h.kc j r H;rw[V this];exact this;grind[ij];dsimp only;intro j r k q C W aq Z ag ar;have lt:∀{j r},fc X.A.aI i s w j r≠0->j<256:=λ{j r} O=>(by by_cases e:j=i/\r=s;omega;exact(P.kd (hold O e)).1);have E:=(h.om P N (lt aq) C W).1;have H:=(h.om P hu (lt ar) Z ag).1;rw[V E,V H];exact h.fy t N u hu an j r k q C W E Z ag H
theorem cV.Iz(h:cV X D)(ax:ck X.A){Q:List aB.bW}(aA:D i s){D':Nat->Nat->Prop}(aK:∀j r,D' j r↔D j r/\¬(j=i/\r=s)):cV ⟨X.A.bare i s Q,X.L,X.last⟩ D':=by
 have C:∀{j r},¬(j=i/\r=s)->fc X.A.aI i s 0 j r=X.A.aI j r:=λ{j r} w=>ls (by by_cases e:j=i;exact .inr λE=>w ⟨e,E⟩;exact .inl e);have hold:∀{j r},fc X.A.aI i s 0 j r≠0->¬(j=i/\r=s):=by grind[ij]
 refine⟨h.dB,λt V=>?_,λj r w ar=>?_,λj r w=>?_,λt V u hu W=>?_,h.di⟩;obtain⟨j,r,d,O,av,aq⟩:=h.ob t V;refine⟨j,r,d,O,?_,λP=>aq ((aK j r).1 P).1⟩;dsimp only[bQ.bare];grind;dsimp only[bQ.bare]at w;have d:=hold w;rw[C d]at w;exact h.qO j r w λP=>ar ((aK j r).2 ⟨P,d⟩);have d:=(aK j r).1 w;dsimp only[bQ.bare];rw[C d.2];exact h.kc j r d.1;dsimp only[bQ.bare];intro j r k q E Z H ag an N;have d:=hold H;have O:=hold N;rw[C d]at H⊢;rw[C O]at N⊢;exact h.fy t V u hu W j r k q E Z H ag an N
theorem cV.set(h:cV X D)(C:ck X.A){w:Nat}(aS:X.A.aI i s≠0)(hw:w≠0)(aV:D i s\/hL w=hL (X.A.aI i s)):cV ⟨X.A.set i s w,X.L,X.last⟩ D:=by have d:∀{j r},fc X.A.aI i s w j r≠0↔X.A.aI j r≠0:=λ{j r}=>(by grind[ij,ls]);have V:∀{j r},¬D j r->hL (fc X.A.aI i s w j r)=hL (X.A.aI j r):=λ{j r} aY=>(by grind[ij,ls]);refine⟨h.dB,λt E=>?_,λj r H aA=>h.qO j r (d.1 H) aA,λj r H=>d.2 (h.kc j r H),λt E u hu Z=>?_,h.di⟩;obtain⟨j,r,aq,ar,av,ax⟩:=h.ob t E;exact⟨j,r,aq,ar,d.2 av,ax⟩;dsimp only[bQ.set];intro j r k q N O ag P Q an;have bN:=d.1 ag;have W:=d.1 an;have aB:=(h.om C E (C.kd bN).1 N O).2;have aG:=(h.om C hu (C.kd W).1 P Q).2;rw[V aB,V aG];exact h.fy t E u hu Z j r k q N O bN P Q W
theorem cV.lift(h:cV X D)(W:ck X.A){Q:List aB.bW}(ax:X.A.aI i s≠0){t:aV.Fn}(C:t∈X.L)(O:t.ds=an X.A.l i)(E:t.b9=(s:Int)):cV ⟨X.A.bare i s Q,aV.kn X.L t.id,X.last⟩ D:=by
 have N:=aV.An h.dB C;have aY:=(W.kd ax).1;have a3:=(h.om W C aY O E).2;have Z:∀{j r},¬(j=i/\r=s)->fc X.A.aI i s 0 j r=X.A.aI j r:=λ{j r} d=>ls (by by_cases e:j=i;exact .inr λE=>d ⟨e,E⟩;exact .inl e);have hold:∀{j r},fc X.A.aI i s 0 j r≠0->¬(j=i/\r=s):=by grind[ij]
 have a9:∀v∈X.L,v.ds=t.ds->v.b9=t.b9->v.id=t.id:=λv hv a b=>(by have:=h.dB.no.inj hv C (show aV.eW v=aV.eW t from Prod.ext a b);simp_all);refine⟨N.dB,λu hu=>?_,λj r d a4=>?_,λj r d=>?_,λu hu v hv H=>?_,h.di⟩;obtain⟨v,w,a0,rfl⟩:=(N.mem u).1 hu;obtain⟨j,r,bN,aA,bc,a5⟩:=h.ob v w;refine⟨j,r,bN,aA,?_,a5⟩;dsimp only[bQ.bare];grind;dsimp only[bQ.bare]at d;have w:=hold d;rw[Z w]at d;obtain⟨v,hv,bN,aA⟩:=h.qO j r d a4;refine⟨aV.sK t v,(N.mem _).2 ⟨v,hv,λe=>?_,rfl⟩,bN,aA⟩;have:=h.dB.bi.inj hv C e;subst this;exact w ⟨rD W.ok (W.kd d).1 aY (bN.symm.trans O),by omega⟩;dsimp only[bQ.bare];rw[Z (λe=>a3 (by rw[<-e.1,<-e.2];exact d))];exact h.kc j r d;dsimp only[bQ.bare];intro j r k q ag aq P ar av V;obtain⟨aG,w,a0,rfl⟩:=(N.mem u).1 hu;obtain⟨v0,aS,a8,rfl⟩:=(N.mem v).1 hv;have g1:=hold P;have g2:=hold V;rw[Z g1]at P⊢;rw[Z g2]at V⊢;dsimp only[aV.sK]at H ag aq ar av;by_cases e:aG.par=t.id;rw[aw e]at H;have a7:=h.fy aG w t C e j r i s ag aq P O E ax;have a2:=h.fy t C v0 aS H i s k q O E ax ar av V;omega;rw[al e]at H;exact h.fy aG w v0 aS H j r k q ag aq P ar av V
theorem cV.obj(h:cV X D)(ag:ck X.A){bl:bQ}(E:bl.aI=X.A.aI)(H:∀i s,X.A.aI i s≠0->an bl.l i=an X.A.l i)(aq:ck bl)(ar:X.A.np<=bl.np):cV ⟨bl,X.L,X.last⟩ D:=by refine⟨h.dB,λt N=>?_,λj r d Z=>?_,λj r d=>by dsimp only;rw[E];exact h.kc j r d,λt N u hu Q=>?_,by have:=h.di;dsimp only;omega⟩;obtain⟨j,r,bN,av,ax,aA⟩:=h.ob t N;grind;dsimp only at d⊢;rw[E]at d;rw[H j r d];exact h.qO j r d Z;dsimp only;intro j r k q O V w P W C;rw[E]at w C⊢;rw[H j r w]at O;rw[H k q C]at P;exact h.fy t N u hu Q j r k q O V w P W C
end
def fb(A:bQ)(h s:Int):Nat×Nat×Int:=if(bT A.l h 2).2≠0 then(0,0,(bT A.l h 2).2)else if ¬(0<=s/\s<256)then(0,0,2)else if fC A (bq h) s=0 then(0,0,6)else(hL (fC A (bq h) s),k6 (fC A (bq h) s),0)
structure fs(A bl:bQ)(n:Nat):Prop where
  l:bl.l=A.l
  z:bl.a6=A.a6
  q:bl.q=A.q/\bl.now=A.now/\bl.pd=A.pd
  o:bl.own=A.own
  n:A.np<=bl.np/\bl.np<=A.np+n
theorem fs.refl(A:bQ)(n:Nat):fs A A n:=⟨rfl,rfl,⟨rfl,rfl,rfl⟩,rfl,by omega⟩
variable{A:bQ}
theorem fs.trans{B C:bQ}{n m:Nat}(h:fs A B n)(k:fs B C m):fs A C (n+m):=⟨k.l.trans h.l,k.z.trans h.z,⟨k.q.1.trans h.q.1,k.q.2.1.trans h.q.2.1,k.q.2.2.trans h.q.2.2⟩,k.o.trans h.o,by have:=h.n;have:=k.n;omega⟩
theorem fs.mono{B:bQ}{n m:Nat}(h:fs A B n)(k:n<=m):fs A B m:=⟨h.l,h.z,h.q,h.o,by have:=h.n;omega⟩
theorem Cc(az af top:Nat)(X:cu)(h s:Int)(C:0<=h/\h<=4294967295):bu 57 [ae az,aR h,aa s] c7 [cP az af top X] (.tuple #[.agg #[aR ((fb X.A h s).1:Int),aa ((fb X.A h s).2.1:Int)],aa (fb X.A h s).2.2]) [cP az af top X]:=by
 apply aG Tryz.func57 Tryz.ntmps57;intro F E;apply J [1];haveI:cz F:=⟨E⟩;refine J [25,163] ?_;intro bb;apply J [27,35];by_cases d:(bT X.A.l h 2).2=0;rw[show fb X.A h s=if ¬(0<=s/\s<256)then(0,0,2)else if fC X.A (bq h) s=0 then(0,0,6)else(hL (fC X.A (bq h) s),k6 (fC X.A (bq h) s),0)from al (λbK=>bK d)];refine e rfl ?_;apply a7 (pb az af top X h C d);intro aQ _;refine J [18,240] ?_;intro cl;apply J [115,258,73,169];apply aq (r9 s);apply J [10];by_cases u:0<=s/\s<256;rw[c1 u,al (λbK=>bK u)];apply J [264,23,130,28];apply aq (ot az af top X aQ h C d s);refine J [10,255] ?_;intro H;apply J [65,101,56,411,3];apply UR rfl<;>intro N;have w:fC X.A (bq h) s=0:=U
 simp only[aw w];apply J [24,95,65,129];exact nL;have w:fC X.A (bq h) s≠0:=U
 simp only[al w];apply J [4,24,223,65,30];exact nL;rw[dk u,aw u];apply J [89,37,55,95,65,27,159];exact nL;rw[show fb X.A h s=(0,0,(bT X.A.l h 2).2)from aw d];refine e rfl ?_;apply aq (q7 az af top X h C d);refine J [7,240] ?_;intro bo;apply J [115,258];refine UR rfl (λD=>?_) (λD=>absurd (d) D);apply J [24,95,2,65,27,159];exact nL
theorem Nr{l:List av.bY}{k:Nat}{p:av.bY}{dx:av.fa}{g0:Int}(w:l[k]? =some ⟨dx,0,g0⟩){h:Int}(d:0<=h)(u:(av.cR l h).2=0):av.cR (l.set k p) h=av.cR l h:=by grind[oM,av.cR,pQ]
theorem Gq{l:List av.bY}{k:Nat}{p:av.bY}{dx:av.fa}{g0:Int}(w:l[k]? =some ⟨dx,0,g0⟩){h n:Int}(d:0<=h)(u:(bT l h n).2=0):bT (l.set k p) h n=bT l h n:=by grind[bT,Nr]
theorem NO{l:List av.bY}{k i:Nat}{p:av.bY}(h:i≠k):an (l.set k p) i=an l i:=by rw[an,an,VW λe=>h e.symm]
theorem zG{l:List av.bY}(u:av.dM l){k:Nat}{o dx:av.fa}{g:Int}(d:l[k]? =some ⟨dx,0,g⟩):av.cR (l.set k ⟨o,1,g⟩) (g*256+k)=(o,0):=by have w:=wZ (l:=l.set k ⟨o,1,g⟩) (p:=⟨o,1,g⟩) (u.lt d) (Vz (UU.1 d).1);grind[av.cR]
def CE(top:Nat)(X:cu)(h s fJ k lim:Int):Prop:=(bT X.A.l h 2).2≠0\/¬(0<=s/\s<256)\/¬(k=8\/1<=k/\k<=5)\/((s<128)↔k=8)\/fC X.A (bq h) s≠0\/rh top X.A (bR X.A h)\/∃Q,rL X.A (bR X.A h) Q/\qg top (X.A.lay (bq h) s.toNat (dG 0 15) Q) fJ k lim
def qh(top:Nat)(X:cu)(h s fJ k lim:Int)(y:cu×Int×Int):Prop:=
  (y.2.2≠0/\y.2.1=0/\fs X.A y.1.A 4/\cV y.1 dV/\CE top X h s fJ k lim)\/
  (y.2.2=0/\cV y.1 dV/\(0<=y.2.1/\y.2.1<=4294967295)/\(0<=s/\s<256)/\∃(c x wK:Nat) (f g:Int) (dx:av.fa),k=c/\jA c/\X.A.l[wK]? =some ⟨dx,0,g⟩/\X.A.l.findIdx? av.isEmpty=some wK/\y.2.1=g*256+wK/\y.1.A.l=X.A.l.set wK ⟨bt c x f,1,g⟩/\y.1.A.a6=X.A.a6/\y.1.A.q=X.A.q/\y.1.A.now=X.A.now/\y.1.A.pd=X.A.pd/\X.A.np<=y.1.A.np/\y.1.A.np<=X.A.np+4/\y.1.A.aI=fc X.A.aI (bq h) s.toNat (dG y.2.1.toNat 15)/\(c≠1->∃Q,rL X.A (bR X.A h) Q/\y.1.A.Q=(aB.c9 Q (X.A.own (fJ %256).toNat:Int) (bG c)).1/\y.1.A.own=X.A.own))
theorem jF.refl{Q:List aB.bW}{d:Int}(h:aB.eM Q d)(f:Int):jF Q Q d f 0:=⟨h,λ_=>Iff.rfl,λx _=>by split<;>omega,λ_=>rfl⟩
theorem ck.set(h:ck A){i a s w:Nat}{f:Int}(u:cB A.l i 1 (bt 2 a f))(hs:s<256)(d:A.aI i s≠0)(hw:py A w):ck (A.set i s w):=by have E:w≠0:=(by obtain⟨x,r,rfl,_,H,N,_⟩:=hw;grind[jS]);have D:=SW (e:=A.aI i) (e':=fc A.aI i s w i) hs d (by rw[ij];exact E) λr C=>kU C;exact h.tS u hs (jF.refl h.d8 f) (by rw[D];omega) (.inr hw) ⟨UW _,h.bd.2.2⟩
variable{top:Nat}
theorem m6{S:cL}(C:ch top A S){h:Int}(d:0<=h)(e:(bT A.l h 2).2=0):an A.l (bq h)=h:=by obtain⟨_,g,u,w⟩:=nK C d e;rw[rC w];exact u.symm
def tN(i s:Nat):Nat->Nat->Prop:=λj r=>j=i/\r=s
theorem ck.vd(h:ck A){n:Nat}(d:A.np<=n)(u:n<=1000000):ck {A with np:=n}:=⟨h.ok,h.d8,h.rt,h.ac,h.cY,h.nn,h.aI,h.hJ,h.mE,h.oe,h.og,h.m3,h.pd,by have:=h.bd;dsimp only;omega⟩
theorem wU{i s w:Nat}{f:Int}{y:Int×bQ}(h:vt top A i s w f y)(d:y.1=0):∃Q,y.2=A.lay i s w Q/\rL A f Q:=by rcases h with⟨_,h⟩|⟨h,_⟩;all_goals trivial
theorem wV{i s w:Nat}{f:Int}{y:Int×bQ}(h:vt top A i s w f y)(d:y.1≠0):y.2={A with np:=A.np+2}/\rh top A f:=by rcases h with⟨h,_⟩|⟨_,h⟩;all_goals trivial
theorem fs.up(A:bQ){n m:Nat}(h:n<=m):fs A {A with np:=A.np+n} m:=⟨rfl,rfl,⟨rfl,rfl,rfl⟩,rfl,by dsimp only;omega⟩
theorem RN(h:ck A):(av.cR A.l ((0:Nat):Int)).2=0:=by obtain⟨⟨a,d⟩,_⟩:=h.rt;have:=wZ (i:=0) am d;grind[av.cR]
theorem IU(az af top:Nat)(X:cu)(h s N k lim:Int)(V:0<=h/\h<=4294967295)(dd:0<=N/\N<=4294967295)(O:cV X dV)(dK:X.A.np+4<=1000000):bL 141 [ae az,aR h,aa s,aR N,aa k,aa lim] c7 [cP az af top X] (λy:cu×Int×Int=>.tuple #[aR y.2.1,aa y.2.2]) (λy=>qh top X h s N k lim y) (λy=>[cP az af top y.1]):=by
 apply aG Tryz.func141 Tryz.ntmps141;intro F cA;apply J [1];haveI:cz F:=⟨cA⟩;refine ab.lU 0 rfl (λaS=>?_);obtain⟨⟨dy,dz⟩,_⟩:=aS;apply J [215,35];by_cases Z:(bT X.A.l h 2).2=0;·refine e rfl ?_;apply a7 (pb az af top X h V Z);intro aQ _;refine J [7,240] ?_;intro bo;apply J [115,198,130,28];apply aq (ot az af top X aQ h V Z s);refine J [18,255] ?_;intro cl;apply J [65,101,76,169];apply aq (r9 s);apply J [10];by_cases a0:0<=s/\s<256;(·rw[c1 a0];apply J [264,169];apply aq (T1 k);apply J [10];by_cases bl:k=8\/1<=k/\k<=5;(·rw[c1 bl];apply J [89,20,282];apply aq (r8 s);apply J [10,11,156];refine c8 rfl rfl rfl (zn rfl rfl rfl) ?_;apply J [206];apply UR rfl<;>intro cJ;apply J [179];exact cN (X,0,1) (.inl ⟨(show(1:Int)≠0 by decide),rfl,fs.refl _ _,O,.inr (.inr (.inr (.inl (by simpa using cJ))))⟩) ai;apply J [56,37];apply UR rfl<;>intro cO;apply J [179];exact cN (X,0,7) (.inl ⟨(show(7:Int)≠0 by decide),rfl,fs.refl _ _,O,.inr (.inr (.inr (.inr (.inl (by simpa using cO)))))⟩) ai;obtain⟨en,rfl⟩:∃n:Nat,s=(n:Int):=⟨s.toNat,(VM a0.1).symm⟩;(have H:en<256:=by omega);have bW:X.A.aI (bq h) en=0:=(by grind[jI]);apply J [205,265,2,95];refine aT.de 2 rfl hg (λaS=>?_);obtain⟨W,dj,dB⟩:=aS;refine e rfl ?_;apply a7 (yb az af top X aQ h V Z en H bW 0 15 am am (RN W) U);intro⟨cm,dr⟩ b9;apply J [10];dsimp only;apply J [126];apply UR rfl<;>intro he;obtain⟨bK,cy⟩:=wV b9 he;dsimp only at bK;subst bK;have cB:cV ⟨{X.A with np:=X.A.np+2},X.L,X.last⟩ dV:=O.obj W rfl (λ_ _ _=>rfl) (W.vd (U7 _ _) U) (U7 _ _);apply J [187];exact cN (⟨{X.A with np:=X.A.np+2},X.L,X.last⟩,0,cm) (.inl ⟨he,rfl,fs.up _ am,cB,.inr (.inr (.inr (.inr (.inr (.inl cy)))))⟩) ai;obtain rfl:cm=0:=UT he;obtain⟨Q,bK,cb⟩:=wU b9 rfl;dsimp only at bK;subst bK;have b7:cV ⟨X.A.lay (bq h) en (dG 0 15) Q,X.L,X.last⟩ (tN (bq h) en):=O.lay W (by have:=V;rw[bq];omega) bW (jS am am).2 (U7 _ _) (λj r=>⟨λh=>.inr h,λh=>h.elim (λh=>h.elim) id⟩);apply ab.open 1 rfl;rintro⟨aO,bE⟩-;apply J [226];dsimp only;refine ab.lU 1 rfl (λaS=>?_);obtain⟨⟨_,_,ci⟩,dD,a3⟩:=aS;apply J [4,40,120,28];apply a7 (Dx aO af top (X.A.lay (bq h) en (dG 0 15) Q) N dd k lim (by dsimp only[bQ.lay];omega));intro⟨d,ax,cm⟩ bH;apply J [16];dsimp only;apply J [125,34];apply UR rfl<;>intro co;(·have bi:ax=0/\Gb (X.A.lay (bq h) en (dG 0 15) Q) d/\qg top (X.A.lay (bq h) en (dG 0 15) Q) N k lim:=(by rcases bH with⟨bK,_⟩|⟨_,bK⟩;all_goals simp_all);obtain⟨rfl,cr,a5⟩:=bi;have cx:d.l=X.A.l/\d.aI=fc X.A.aI (bq h) en (dG 0 15)/\d.a6=X.A.a6/\d.own=X.A.own/\(d.q=X.A.q/\d.now=X.A.now/\d.pd=X.A.pd)/\X.A.np+2<=d.np/\d.np<=X.A.np+4:=(by rcases cr with bK|bK;all_goals grind[bQ.lay]);obtain⟨ct,lj,dl,dm,dn,dq,dU⟩:=cx;(have bc:(bT d.l h 2).2=0:=by simp_all);have b0:ck d:=(by rcases cr with bK|bK;simp_all;rw[bK];exact a3.vd (U7 _ _) (by dsimp only[bQ.lay];omega));have bh:cV ⟨d,X.L,X.last⟩ (tN (bq h) en):=b7.obj a3 (by rw[lj];rfl) (λi s _=>by rw[ct];rfl) b0 dq;(have aB:d.aI (bq h) en≠0:=by rw[lj,ij];exact(jS am am).2);(have a2:bR d h=bR X.A h/\cS d h=cS X.A h:=by grind[bR,cS]);refine Wd (B:=ah [aj aQ 163 [ae af,aa (bR X.A h),aa (cS X.A h:Int)],cP az af top ⟨d,X.L,X.last⟩,aj bo 150 [ae aQ,aR h,aa (bR X.A h)],F]) (c0 (ay (bX.mk aO bE:bX) trivial ai)) ?_;rw[<-a2.1,<-a2.2];apply J [265,28];apply a7 (Ca az af top ⟨d,X.L,X.last⟩ aQ h V bc en H aB);intro ds a4;apply J [18];obtain⟨bG,rfl⟩:=a4;have a8:cV ⟨d.bare (bq h) en bG,X.L,X.last⟩ dV:=bh.Iz (i:=bq h) (s:=en) b0 ⟨rfl,rfl⟩ (λj r=>⟨λh=>h.elim,λh=>h.2 h.1⟩);apply J [3,187];exact cN (⟨d.bare (bq h) en bG,X.L,X.last⟩,0,cm) (.inl ⟨co,rfl,⟨ct,dl,dn,dm,by dsimp only[bQ.bare];omega⟩,a8,.inr (.inr (.inr (.inr (.inr (.inr ⟨Q,cb,a5⟩)))))⟩) ai);obtain rfl:cm=0:=UT co;have bi:vu (X.A.lay (bq h) en (dG 0 15) Q) N k lim d ax:=(by rcases bH with⟨_,bK,_⟩|⟨bK,_⟩;all_goals simp_all);obtain⟨cj,c,x,be,g,dx,dt,dX,d0,c5,cI,cq,hM,cg,D,cc⟩:=bi;have bn:X.A.l[be]? =some ⟨dx,0,g⟩:=cq;(have bu:d.l=X.A.l.set be ⟨bt c x (((X.A.lay (bq h) en (dG 0 15) Q).own (N %256).toNat:Nat):Int),1,g⟩:=by rw[D];rfl);(have aB:d.aI=fc X.A.aI (bq h) en (dG 0 15):=by rw[D];rfl);(have dR:bT d.l h 2=bT X.A.l h 2:=by grind[Gq]);(have bc:(bT d.l h 2).2=0:=by simp_all);(have a2:bR d h=bR X.A h/\cS d h=cS X.A h:=by grind[bR,cS]);(have dM:av.cR d.l ax=(bt c x (((X.A.lay (bq h) en (dG 0 15) Q).own (N %256).toNat:Nat):Int),0):=by rw[bu,cg];exact zG W.ok bn);obtain⟨u,rfl⟩:∃n:Nat,ax=(n:Int):=⟨ax.toNat,(VM cj.1).symm⟩;have c4:=W.lt bn;dsimp only at c4;(have ch:u<4294967295:=by omega);(have cK:py d (dG u 15):=by grind[py]);have da:=jS (h:=0) (r:=15) am am;(have ag:d.aI (bq h) en≠0:=by rw[aB,ij];exact da.2);apply ab.open 0 rfl;rintro⟨cH,bF,w⟩ ⟨E,ar⟩;apply J [312];dsimp only at E ar⊢;have bh:cV ⟨d,X.L,X.last⟩ (tN (bq h) en):=b7.obj a3 (by rw[aB];rfl) (λi s bK=>by obtain⟨_,⟨a,f,cw⟩,_⟩:=a3.aI i s bK;have db:i≠be:=λe=>(by subst e;exact absurd (cw.inj ⟨g,cq⟩).1 am);rw[bu];exact NO db) ar (by rw[D];dsimp only[bQ.lay];omega);obtain⟨a9,_⟩:=nK E V.1 bc;obtain⟨cd,a5⟩:=E.hn _ _ _ a9;have dA:=(a5 en H).1;have dF:=c6.bd E.P ((a5 en H).2 ag);have dT:2^top<=128:=UV (n:=2) am E.P.f8.2;have c9:=E.fF a9 H ag;have aY:=jS (h:=u) (r:=15) ch am;have cX:=m6 E V.1 bc;rw[<-a2.1,<-a2.2];apply J [4,111,28];apply aq (q3 aQ af top (bR d h) (cS d h) w E.P cd en H);apply J [146,125];refine cC [0,1,2,3,4,6,-5,-7] (show aF (ah _) (ah [aj bo 150 [ae aQ,aR h,aa (bR d h)]])from ai) ?_;apply J [109,15,15,442,249];apply aq (Cd u 15 ch am);refine J [227,45] ?_;apply aq (BY aQ af top (bR d h) (cS d h) w E.P cd en H (dG u 15) (dP w.m (cS d h) en) aY.1 U aY.2 c9);refine J [283] ?_;obtain⟨gd,bN⟩:∃gd:cL,gd=⟨w.Q,w.bz,w.C,w.Fr,dv w.m (bp w.m (cS d h) (en/16)+en %16*16) [dG u 15,dP w.m (cS d h) en]⟩:=⟨_,rfl⟩;rw[<-bN];have cG:=E.s4 ar.ok a9 H ag aY.2 aY.1 bN;have a4:=ar.set a9 H ag cK;have a8:=bh.set ar ag aY.2 (.inl ⟨rfl,rfl⟩);have dN:=a8.di;(have dQ:d.np=X.A.np+4:=by rw[D];rfl);have dO:X.last<=X.A.np:=O.di;obtain⟨df,b8⟩:=a8.add (i:=bq h) (s:=en) (par:=0) a4 ⟨rfl,rfl⟩ (.inl rfl) (D':=dV) (λj r=>⟨λh=>h.elim,λh=>h.2 h.1⟩) (by show X.last+1<=((d.set (bq h) en (dG u 15)).np:Int);dsimp only[bQ.set];omega);have c2:an (d.set (bq h) en (dG u 15)).l (bq h)=h:=cX;have dI:=W.bd;rw[c2]at df b8;have cM:(d.set (bq h) en (dG u 15)).aI=fc X.A.aI (bq h) ((en:Int)).toNat (dG ((u:Int)).toNat 15):=(by dsimp only[bQ.set];rw[aB];grind[fc]);refine J [74,67,247,28] ?_;apply aq (aV.wh bE X.L X.last 0 h (en:Int) U);apply J [146,3,26,69];exact cN (⟨d.set (bq h) en (dG u 15),(aV.gW X.L X.last 0 (h,(en:Int))).1,(aV.gW X.L X.last 0 (h,(en:Int))).2.1⟩,(u:Int),0) (.inr ⟨rfl,b8,cj,a0,c,x,be,_,g,dx,c5,cI,bn,hM,cg,bu,by rw[D];rfl,by rw[D];rfl,by rw[D];rfl,by rw[D];rfl,by dsimp only[bQ.set];omega,by dsimp only[bQ.set];omega,cM,λbY=>⟨Q,cb,by rw[D];exact(cc bY).1,by rw[D];exact(cc bY).2.2⟩⟩) (ay (bX.mk aO bE:bX) trivial (bI 6 rfl (ay (⟨cH,bF,gd⟩:fk) ⟨cG,a4⟩ ai))));rw[dk bl];apply J [89,20,212,140,55,116];exact cN (X,0,1) (.inl ⟨(show(1:Int)≠0 by decide),rfl,fs.refl _ _,O,.inr (.inr (.inl bl))⟩) ai);rw[dk a0];apply J [89,37,55,116];exact cN (X,0,2) (.inl ⟨(show(2:Int)≠0 by decide),rfl,fs.refl _ _,O,.inr (.inl a0)⟩) ai
 refine e rfl ?_;apply aq (q7 az af top X h V Z);refine J [5,240] ?_;intro bb;apply J [115,34];refine UR rfl (λce=>?_) (λce=>absurd (Z) ce);apply J [187];exact cN (X,0,(bT X.A.l h 2).2) (.inl ⟨Z,rfl,fs.refl _ _,O,.inl Z⟩) ai
end Go.Proofs.YtglgidjhoncphaaGreatDoor
namespace Go.QM
open Go
theorem Kw:∀a:Nat,a<16->∀b:Nat,b<16->IntKind.i64.wrap (Vy IntKind.i64.bits (a:Int)&&&~~~Vy IntKind.i64.bits (b:Int)).toNat=((a-(a&&&b):Nat):Int):=by decide+kernel
section
variable {P : Program} {ag : Env} {A : ax} {d : Option Nat} {ty : TypeId} {ps : String} {bh : Array Edge} {g : Option (Nat × Bool)} {t t' : TypeId} {x y : Operand} {a b c n : Nat}
theorem Kx(D:bc ag x=aa a)(E:bc ag y=aa b)(u:a<16)(C:b<16):
    bA P ag ⟨d,.binOp .andNot t x y t',ty,ps,bh,g⟩ A (aa ((a-(a&&&b):Nat):Int)):=λw _=>by
  have h:=Kw a u b C
  simp[execOp,D,E,eqGuard,binOp,Op.intBits]
  simpa using h
end
end Go.QM
