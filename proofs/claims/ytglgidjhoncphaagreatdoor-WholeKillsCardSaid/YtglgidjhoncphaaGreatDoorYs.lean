/- Proved here: contracts of functions of this program, under the premises that each theorem names. -/
import Derived.Test.YtglgidjhoncphaaGreatDoorYr
set_option linter.all false
set_option maxRecDepth 4000
set_option maxHeartbeats 4000000
open List renaming length_append->mp,getElem?_eq_getElem->Uo,mem_singleton->Up,mem_append->Uq,mem_of_getElem?->Us,length_singleton->Ux,getElem?_eq_some_iff->Uz,mem_map->UE,take_add_one->UF,nodup_cons->UI,replicate->UK,flatMap_cons->UN,length_cons->UP,nodup_append->US,take_of_length_le->U1,getElem?_set_self->U7,take_length->U9,length_set->Ve,mem_flatMap->Vh,getElem?_set_ne->Vs,length_nil->Wb,length->Wc,length_replicate->Wk,length_reverse->Wo,flatMap_append->Wp,getElem?_eq_none->Ww,map_map->W7,dropLast_concat_getLast->Xv,ext_getElem?->XC,length_eq_zero_iff->XX
open Go.QM.ab renaming aA->Ur,loop->UZ,bf->VM
open Decidable renaming of_not_not->Ut,by_contra->Vm
open Nat renaming pow_le_pow_right->Uu,zero_le->Uv,le_refl->Uw,le_of_ble_eq_true->UC,le_add_right->UH,le_trans->VN
open Go.QM.aO renaming known->UG
open Go.Value renaming oneCell'->UY,slice->U8,int->VA
open BitVec renaming ofInt->U6
open Int renaming toNat_of_nonneg->Vj,le_refl->Wf
open Option.some renaming inj->VB
open Option renaming map_some->VY
open Go.QM.b8 renaming i->Xq
open List.Pairwise renaming nil->XD
namespace Go.Proofs.YtglgidjhoncphaaGreatDoor.b5
open Go Go.QM
theorem zi{α β:Type}{f g:α->List β}:∀{l:List α},(∀a∈l,f a=g a)->l.flatMap f=l.flatMap g
 | [],_=>rfl
 | a::l,h=>by rw[UN,UN,h a cF,zi λb d=>h b (by simp[d])]
def nJ:Nat->List Fn->Int->List Int
  | 0,_,_=>[]
  | n+1,L,p=>(c1 L p).flatMap λk=>nJ n L k++[k]
def jQ(L:List Fn)(last p:Int):List Int:=nJ (last-p).toNat L p
def jt(L:List Fn)(last p:Int):List Int:=jQ L last p++[p]
def hL(L:List Fn)(last p:Int):List Int:=if fL L p then jQ L last p else[]
variable{L:List Fn}{last:Int}
theorem py(h:cC L last){p k:Int}(d:k∈c1 L p):p<k/\k<=last/\1<=k:=by obtain⟨_,t,u,w,rfl⟩:=px.1 d;have:=h.rg t u;omega
theorem ub(h:cC L last){p:Int}(u:last<=p):c1 L p=[]:=by rw[List.eq_nil_iff_forall_not_mem];intro k d;have:=py h d;omega
theorem CK{L:List Fn}{last:Int}(h:cC L last):∀(n m:Nat) (p:Int),(last-p).toNat<=n->(last-p).toNat<=m->nJ n L p=nJ m L p
 | 0,0,_,_,_=>rfl
 | 0,m+1,p,d,_=>by rw[nJ,nJ,ub h U];rfl
 | n+1,0,p,_,u=>by rw[nJ,nJ,ub h U];rfl
 | n+1,m+1,p,d,u=>by rw[nJ,nJ];refine zi λk w=>?_;have:=py h w;rw[CK h n m k U U]
theorem sk(h:cC L last)(p:Int):jQ L last p=(c1 L p).flatMap (jt L last):=by rw[jQ];cases au:(last-p).toNat with|zero=>rw[ub h U];rfl|succ n=>rw[nJ];refine zi λk d=>?_;have:=py h d;rw[jt,jQ,CK h n _ k U (Uw _)]
inductive od(L:List Fn)(k:Int):Int->Prop
  | refl:od L k k
  | step {t:Fn}:t∈L->od L k t.par->od L k t.id
variable{x:Int}
theorem od.le(h:cC L last){k:Int}(a:od L k x):k<=x:=by induction a with|refl=>omega|step d _ u=>have:=h.rg _ d;omega
theorem JA(h:jO L){bO u:Int}(a:od L bO x)(b:od L u x):bO=u\/(∃t∈L,t.id=bO/\od L u t.par)\/∃t∈L,t.id=u/\od L bO t.par:=by induction a with|refl=>(cases b with|refl=>exact .inl rfl|step d w=>exact .inr (.inl ⟨_,d,rfl,w⟩))|step d E D=>rename_i t;generalize C:t.id=x at b;(cases b with|refl=>exact .inr (.inr ⟨t,d,C,E⟩)|step hu w=>rw[h.inj d hu C]at D;exact D w)
theorem AX(h:cC L last):∀(n:Nat) (p:Int),(last-p).toNat<=n->∀x,x∈jt L last p->od L p x:=by intro n;induction n with|zero=>intro p D x d;rw[jt,sk h,ub h U]at d;simp at d;rw[d];exact .refl|succ n H=>intro p D x d;rw[jt,sk h,Uq,Up]at d;rcases d with d|d;obtain⟨k,u,w⟩:=Vh.1 d;have O:=py h u;have:=H k U x w;obtain⟨_,t,E,C,rfl⟩:=px.1 u;clear d w;(induction this with|refl=>exact .step E (by rw[C];exact .refl)|step hu _ N=>exact .step hu N);rw[d];exact .refl
theorem vx(h:cC L last){p:Int}(d:x∈jQ L last p):fL L x/\p<x/\x<=last/\1<=x:=by rw[sk h]at d;obtain⟨k,C,d⟩:=Vh.1 d;have H:=py h C;have w:=AX h _ k (Uw _) x d;have N:=w.le h;have D:fL L x:=(by cases w with|refl=>obtain⟨_,t,u,_,E⟩:=px.1 C;exact⟨t,u,E⟩|step u _=>exact⟨_,u,rfl⟩);have:=zv h D;grind
theorem Qs(h:cC L last):∀(n:Nat) (p:Int),(last-p).toNat<=n->(jt L last p).Nodup:=by intro n;induction n with|zero=>intro p V;rw[jt,sk h,ub h U];simp|succ n ao=>intro p V;(have O:∀x∈jQ L last p,x≠p:=λx d=>by have:=(vx h d).2.1;omega);rw[jt,US];refine⟨?_,by simp,λx d y w=>by rw[Up.1 w];exact O x d⟩;rw[sk h,List.Nodup,List.pairwise_flatMap];refine⟨λk P=>?_,?_⟩;have:=py h P;exact ao k U;refine(EX h.bo p).imp_of_mem (λ{bO ar} C D Q x d y w e=>?_);subst e;have E:=AX h _ bO (Uw _) x d;have a2:=AX h _ ar (Uw _) x w;obtain⟨_,t1,ag,W,H⟩:=px.1 C;obtain⟨_,t2,an,Z,N⟩:=px.1 D;have g1:=py h C;have g2:=py h D;rcases JA h.bo E a2 with e|⟨t,u,e,a⟩|⟨t,u,e,a⟩;exact Q e;rw[h.bo.inj u ag (e.trans H.symm),W]at a;have:=a.le h;omega;rw[h.bo.inj u an (e.trans N.symm),Z]at a;have:=a.le h;omega
theorem CM(h:cC L last)(p:Int):(jQ L last p).Nodup:=(US.1 (Qs h _ p (Uw _))).1
theorem qC{l m:List Int}(h:l.Nodup)(hs:∀x∈l,x∈m):l.length<=m.length:=by induction l generalizing m with|nil=>simp|cons a l E=>obtain⟨w,C⟩:=UI.1 h;obtain⟨s,t,rfl⟩:=List.append_of_mem (hs a cF);have:=E (m:=s++t) C (λx u=>by have d:=hs x (by simp[u]);have D:x≠a:=λe=>w (e▸u);simp at d⊢;rcases d with d|d|d;exact .inl d;exact absurd d D;exact .inr d);simp at this⊢;omega
theorem CL(h:cC L last)(p:Int):(jQ L last p).length<=L.length:=by have:=qC (CM h p) (m:=L.map (·.id)) (λx u=>by obtain⟨t,d,e⟩:=(vx h u).1;exact UE.2 ⟨t,d,e⟩);simp_all
theorem JT(h:cC L last)(p:Int):(hL L last p).length<=L.length:=by grind[hL,CL]
def Hg(o:Int×Int):List Value:=ints [o.1,o.2]
theorem Hh(o:Int×Int):(Hg o).length=2:=rfl
def nw(S:List (Int×Int)):List Value:=S.flatMap Hg
theorem Sc(S:List (Int×Int)):(nw S).length=S.length*2:=kp Hh S
theorem Sd(S T:List (Int×Int)):nw S++nw T=nw (S++T):=by simp[nw]
theorem JU(h:cC L last){p:Int}(d:x∈hL L last p):fL L x/\p<x/\x<=last/\1<=x:=by rw[hL]at d;split at d;exact vx h d;trivial
variable{id:Int}
theorem JV(h:¬fL L id):hL L last id=[]:=al h
structure nF(L:List Fn)(last id:Int)(W O:List Int):Prop where
  eq:W.flatMap (jt L last)++O.reverse=jt L last id
  mem:∀x∈W,fL L x
theorem nF.start(h:fL L id):nF L last id [id] []:=⟨by simp,by simpa using h⟩
theorem nF.next(av:cC L last){W O:List Int}(h:nF L last id (W++[x]) O):nF L last id (W++c1 L x) (O++[x]) where
 eq:=by
  have:=h.eq
  rw[Wp,UN,List.flatMap_nil,List.append_nil,jt,sk av]at this
  rw[Wp,List.reverse_append,<-this]
  simp
 mem:=λy w=>by
  rcases Uq.1 w with d|d
  ·exact h.mem y (by simp[d])
  obtain⟨_,t,u,_,e⟩:=px.1 d;exact⟨t,u,e⟩
theorem nF.len(av:cC L last){W O:List Int}(h:nF L last id W O):W.length+O.length<=L.length+1:=by have d:=congrArg Wc h.eq;have u:=CL av id;have w:W.length<=(W.flatMap (jt L last)).length:=(by clear h d;induction W with|nil=>simp|cons a W C=>rw[UN,mp,UP,jt,mp,Ux];omega);grind[jt]
theorem nF.done{O:List Int}(h:nF L last id [] O):O.reverse=jt L last id:=by simpa using h.eq
structure nE(xs:List Int)(i:Nat)(oX:List Int):Prop where
  len:oX.length=xs.length
  at_:∀k,k<xs.length->oX[k]? =if k<i\/xs.length-i<=k then xs[xs.length-1-k]? else xs[k]?
theorem nE.start(xs:List Int):nE xs 0 xs:=⟨rfl,λk d=>by rw[al U]⟩
theorem nE.next{xs:List Int}{i:Nat}{d:List Int}(h:nE xs i d){u v:Int}(O:i+i+1<xs.length)(hu:d[i]? =some u)(hv:d[xs.length-1-i]? =some v):nE xs (i+1) ((d.set i v).set (xs.length-1-i) u) where
 len:=by rw[Ve,Ve];exact h.len
 at_:=λk N=>by have P:=h.len;have E:=h.at_ i U;have H:=h.at_ (xs.length-1-i) U;rw[al U]at E H;by_cases w:k=xs.length-1-i;subst w;rw[U7 Aj,aw U,show xs.length-1-(xs.length-1-i)=i by omega,<-E,hu];rw[Vs (λe=>w e.symm)];by_cases C:k=i;subst C;rw[U7 U,aw U,<-H,hv];rw[Vs (λe=>C e.symm),h.at_ k N];by_cases D:k<i\/xs.length-i<=k;rw[aw D,aw U];rw[al D,al U]
theorem nE.done{xs:List Int}{i:Nat}{u:List Int}(h:nE xs i u)(w:xs.length<=i+i+1):u=xs.reverse:=by apply XC;intro k;by_cases d:k<xs.length;rw[h.at_ k d,List.getElem?_reverse d];grind;rw[Ww (by rw[h.len];omega),Ww (by rw[Wo];omega)]
end Go.Proofs.YtglgidjhoncphaaGreatDoor.b5
namespace Go.Proofs.YtglgidjhoncphaaGreatDoor.b5
open Go Go.QM
theorem QV(ad:Option Addr)(cap:Nat)(xs:List Int)(H:xs.length<=1000000000):br 119 [.slice ad xs.length cap] be [aT 3 1 ad xs.length cap (ints xs)] (.tuple #[]) [aT 3 1 ad xs.length cap (ints xs.reverse)]:=by
 apply aH Tryz.func119 Tryz.ntmps119;intro F _;refine J [1,35,331,241,141,76] ?_;refine UZ (ι:=Nat×List Int) (λs=>nE xs s.1 s.2/\s.1<=xs.length) (λs=>[(0,.slice ad xs.length cap),(2,aa ((s.1:Nat):Int)),(3,aa ((xs.length:Int)-1-((s.1:Nat):Int)))]) (λs=>ah [aT 3 1 ad xs.length cap (ints s.2),F]) (λs=>xs.length-s.1) ⟨0,xs⟩ ⟨nE.start xs,Uv _⟩ ⟨rfl,rfl,congrArg (VA .i64) cH,trivial⟩ (aq (aq (a6 _))) ?_;rintro⟨i,d⟩ ⟨w,C⟩ W;dsimp only[ct]at w C⊢;apply J [129,2,191];apply Ur rfl<;>intro N;·have V:=w.len;have P:=eb d;obtain⟨u,hu⟩:∃u,d[i]? =some u:=⟨d[i],Uo U⟩;obtain⟨v,hv⟩:∃v,d[xs.length-1-i]? =some v:=⟨d[xs.length-1-i],Uo U⟩;(have E:d[((xs.length:Int)-1-(i:Int)).toNat]? =some v:=by simp_all);(have Q:(ints (d.set i v)).length=d.length:=by rw[eb,Ve]);(have O:0<(ints d).length:=by omega);refine J [62,602,181,181,181,603] ?_;refine bU rfl rfl rfl (dv rfl rfl (hN E)) ?_;apply J [181];refine bU rfl rfl rfl (gD 3 1 rfl rfl rfl U dW) ?_;refine bU rfl rfl rfl (dv rfl rfl (hN hu)) ?_;refine bU rfl rfl rfl (gD 3 1 rfl rfl rfl U dW) ?_;refine J [91,518,603,91] ?_;refine ef (v:=.int _ _) (vs:=[_]) 1 rfl rfl rfl rfl rfl rfl am U (wk (i:=xs.length-1-i) Aj U _) ?_;refine J [306,347,2,241,141] ?_;exact⟨rfl,⟨i+1,(d.set i v).set (xs.length-1-i) u⟩,⟨w.next U hu hv,by dsimp only;omega⟩,cH,⟨rfl,rfl,congrArg (VA .i64) cH,trivial⟩,(aq (aq (a6 _)))⟩
 have D:=w.done U;subst D;apply J [363];exact xY
theorem DS(b:Nat)(L:List Fn)(last:Int)(id:Int)(bb:L.length<=1000000):bI 75 [ae b,aa id] be [jU b L last] (λy:Option Addr×Nat=>.slice y.1 (hL L last id).length y.2) (λ_=>True) (λy=>[aT 3 1 y.1 (hL L last id).length y.2 (ints (hL L last id)),jU b L last]):=by
 apply aH Tryz.func75 Tryz.ntmps75;intro F _;apply J [1,44,3];refine ab.scope (ι:=(List Int×(Option Addr×Nat))×(List Int×(Option Addr×Nat))) 0 (λs=>nF L last id s.1.1 s.2.1/\fL L id) (λs=>[(0,ae b),(1,aa id),(5,.slice s.2.2.1 s.2.1.length s.2.2.2),(6,.slice s.1.2.1 s.1.1.length s.1.2.2)]) (λs=>ah [aT 3 1 s.1.2.1 s.1.1.length s.1.2.2 (ints s.1.1),aT 3 1 s.2.2.1 s.2.1.length s.2.2.2 (ints s.2.1),jU b L last,F]) (λs=>(s.1.1.flatMap (jt L last)).length) kx ?_ ?_;·rintro⟨⟨W,⟨bv,bT⟩⟩,⟨O,⟨hS,fo⟩⟩⟩ ⟨d,H⟩ bo;dsimp only[ct]at d H⊢;apply J [7,35,331,165,3];apply Ur rfl<;>intro a7;(·obtain⟨V,x,rfl⟩:∃V x,W=V++[x]:=(by(have Q:W≠[]:=by grind);exact⟨W.dropLast,W.getLast Q,(Xv Q).symm⟩);(have aX:(V++[x]).length=V.length+1:=by simp_all);(have a4:(V++[x])[(((V.length+1:Nat):Int)-1).toNat]? =some x:=by simp_all);have bl:=eb (V++[x]);obtain⟨t,ag,a5⟩:=d.mem x cF;subst a5;obtain⟨M,bG⟩:=fv ag;rw[aX];refine ab.m6 0 rfl (λ_ bm a2=>?_);simp only[maxLen]at a2;(have bk:0<(ints (V++[t.id])).length:=by omega);refine J [35,86,331,241,519] ?_;refine q rfl rfl (dv rfl rfl (hN a4)) ?_;apply J [31];have N:aF (aT 3 1 bv (V.length+1) bT (ints (V++[t.id]))) (aT 3 1 bv V.length bT (ints V)):=(by have:=pM (E:=3) (sz:=1) (ad:=bv) (n:=V.length+1) (cap:=bT) (cs:=ints (V++[t.id])) (j:=V.length) U;grind[tY]);refine VM (eM 0 rfl N (aq (aq (aq (a6 _))))) ?_;refine ab.open 2 rfl (λA _=>?_);apply J [85];refine ab.open 0 rfl (λD w=>?_);obtain⟨ad,cap,aE,bt⟩:=D;have av:=w;apply J [144];dsimp only at av⊢;have P:=d.len av;have u:=pl (A:=A) ⟨t,ag,rfl⟩;have a9:=ua L t.id;have a8:=eb (c1 L t.id);rw[mp,Ux]at P;apply J [389,541];refine cx [0,1,2,3,4,5,6,7,8,9,10,11,12,13,-14,15] (bp (cY (cY (a6 _)))) ?_;apply J [372,372];refine bU rfl rfl rfl (len 3 1 rfl rfl) ?_;refine J [441] ?_;refine bU rfl rfl rfl (nv 3 1 (V.length) rfl rfl rfl U U) ?_;apply J [51,14,542];rw[u];refine J [88,356,11,604] ?_;intro an au;refine J [5,334,75,35,63] ?_;intro ba;refine J [0,543] ?_;intro ar ax;apply J [21,3];refine ab.goto (gt (Of ?_));exact⟨rfl,⟨⟨V++c1 L t.id,(an,au)⟩,⟨O++[t.id],(ar,ax)⟩⟩,⟨d.next av,H⟩,(by have aC:=congrArg Wc d.eq;have aK:=congrArg Wc (d.next av).eq;simp only[mp,Wo,Ux]at aC aK⊢;omega),⟨rfl,rfl,congrArg (λn=>U8 _ n _) sH,congrArg (λn=>U8 _ n _) uf,trivial⟩,(ca 2 rfl (by dsimp only;rw[pv,mp]) (ca 0 rfl (by dsimp only;rw[pv,mp];rfl) (ay A trivial (ay ⟨ad,cap,aE,bt⟩ av (eE (eE (eE (cU 3 3 t rfl rfl rfl (λ_ _=>rfl) bG.symm (cU 1 1 t rfl rfl rfl (λ_ _=>rfl) bG.symm (bW (a6 _)))))))))))⟩);obtain rfl:W=[]:=XX.1 U;have Z:=d.done;have aQ:O.length=(jQ L last id).length+1:=(by have:=congrArg Wc Z;grind[jt]);have a0:hL L last id=jQ L last id:=aw H;(have bh:(jt L last id).length=(jQ L last id).length+1:=by grind);rw[a0];refine ab.open 2 rfl (λA _=>?_);apply J [85];refine ab.open 0 rfl (λD w=>?_);obtain⟨ad,cap,aE,bt⟩:=D;have av:=w;apply J [144];dsimp only at av⊢;have P:=d.len av;rw[Wb]at P;apply J [4,35,0];apply ao (QV hS fo O U);apply J [78];rw[Z,aQ];have N:aF (aT 3 1 hS ((jQ L last id).length+1) fo (ints (jt L last id))) (aT 3 1 hS (jQ L last id).length fo (ints (jQ L last id))):=(by have:=pM (E:=3) (sz:=1) (ad:=hS) (n:=(jQ L last id).length+1) (cap:=fo) (cs:=ints (jt L last id)) (j:=(jQ L last id).length) U;grind[tY,jt]);apply J [25];refine ab.m6 0 rfl (λ_ bd _=>?_);refine J [114,86,331,241] ?_;refine q rfl rfl (nv 3 1 ((jQ L last id).length) rfl rfl rfl U U) ?_;apply J [21,3];refine ab.ret (ES ?_);exact bn ⟨hS,fo⟩ trivial (eM 0 rfl N (ay A trivial (ay ⟨ad,cap,aE,bt⟩ av (aq (aq (aq (aq (aq (bW (a6 _))))))))))
 intro a3;refine ab.open 0 rfl (λA _=>?_);apply J [1];refine ab.open 0 rfl (λD w=>?_);obtain⟨ad,cap,aE,bt⟩:=D;have av:=w;apply J [156];dsimp only at av⊢;by_cases C:fL L id;have u:=pl (A:=A) C;apply J [7,32];apply ao (pn b aE bt L.length last (iz A L) id);apply J [13];rw[u];refine J [154,100,44,3,170,148] ?_;intro bw;apply J [123];refine ab.label (h5 ?_);exact ab.enter a3 ⟨⟨[id],(some ⟨bw,0,none⟩,1)⟩,⟨[],(none,0)⟩⟩ ⟨nF.start C,C⟩ ⟨rfl,rfl,rfl,rfl,trivial⟩ ((dH 3 1 _).trans (bW (aq (ay A trivial (ay ⟨ad,cap,aE,bt⟩ av (aq (aq (aq (aq (aq (aq (a6 _))))))))))));have u:=qm (A:=A) C;rw[JV C];apply J [7,32];apply ao (pn b aE bt L.length last (iz A L) id);apply J [13];rw[u];apply J [154,122,44,3];refine ab.ret (rt (ES ?_));exact bn ⟨none,0⟩ trivial ((dH 3 1 _).trans (aq (ay A trivial (ay ⟨ad,cap,aE,bt⟩ av (aq (aq (aq (aq (aq (aq (a6 _)))))))))))
end Go.Proofs.YtglgidjhoncphaaGreatDoor.b5
namespace Go.Proofs.YtglgidjhoncphaaGreatDoor
open Go Go.QM
variable [dL]
theorem AG(k:IntKind){xs:List Int}{i:Nat}(h:i<xs.length){o:Nat}(d:o=i*1)(v:Int):dJ o [.int k v] (ch k xs)=ch k (xs.set i v):=by
 subst d;rw[Nat.mul_one];apply XC;intro j;have u:(ch k xs).length=xs.length:=by grind[iX]
 rw[dJ,ch,ch,List.getElem?_map,List.getElem?_set,List.append_assoc];grind
theorem FO(k:IntKind)(xs:List Int)(n:Nat):(ch k xs).take (n*1)=ch k (xs.take n):=by simp[ch,List.map_take]
theorem PN(k:IntKind){xs:List Int}{n:Nat}(h:xs.length=n):(ch k xs).take (n*1)=ch k xs:=U1 (by rw[iX];omega)
theorem FN(k:IntKind)(xs:List Int):(ch k xs).all UY=true:=by simp[ch,List.all_eq_true,UY]
variable{A:bP}
theorem cq.neg(h:cq A)(x:Int)(D:x<0)(k:Int):(bS A.l x k).2≠0:=λe=>by
 have u:(an.cP A.l x).2=0:=by
  unfold bS at e
  split at e
  ·dsimp only at e;exact absurd e am
  exact e
 rw[an.cP]at u
 cases d:an.ei A.l x 1 with
 | none=>rw[d]at u;exact absurd u am
 | some y=>
  unfold an.ei at d
  split at d
  ·rename_i p w
   split at d
   ·rename_i C
    have:=(h.ok.c0 p (Us w)).1
    omega
   cases d
  cases d
theorem cq.wx{top:Nat}{S:cQ}(h:cq A)(d:cn top A S):lp (eN A) (jo A):=h.Ot d.bO λx u=>h.neg x u 1
theorem xM(h:cq A)(u:lp (eN A) (jo A)):∀(n:Nat) (x z:Int),jo A x<=n->z∈hb (eN A) (jo A) x->z=x\/z∈an.b6 A.l 1
 | n,x,z,au,w=>by rcases rE u _ x z (Uw _) w with e|⟨y,d,_⟩;exact .inl e;exact .inr (nY.1 d).2.1
theorem AY(h:cq A)(C:lp (eN A) (jo A))(x:Int):(hb (eN A) (jo A) x).length<=257:=by have H:=AZ C _ x (Uw _);rw[oN C]at H⊢;obtain⟨O,_,_⟩:=US.1 H;have P:(((eN A x).flatMap (hb (eN A) (jo A))).map Int.toNat).Nodup:=(by rw[List.Nodup,List.pairwise_map];refine List.Pairwise.imp_of_mem ?_ O;intro a b Q V W e;have bK:∀c∈(eN A x).flatMap (hb (eN A) (jo A)),0<=c:=λc D=>(by obtain⟨y,E,d⟩:=Vh.1 D;have u:=(nY.1 E).2.1;rcases xM h C _ y c (Uw _) d with e|N;rw[e];exact(nI h.ok u).1;exact(nI h.ok N).1);grind);have d:=uO P (m:=(an.b6 A.l 1).map Int.toNat) λw hw=>(by obtain⟨c,D,rfl⟩:=UE.1 hw;obtain⟨y,E,d⟩:=Vh.1 D;have u:=(nY.1 E).2.1;rcases xM h C _ y c (Uw _) d with e|N;all_goals grind);have u:=an.pb A.l 1;rw[h.ok.n]at u;grind
theorem Nl(ad:Option Addr)(cap:Nat)(xs:List Int)(H:xs.length<=1000000000):br 309 [.slice ad xs.length cap] be [aT 33 1 ad xs.length cap (ch .u32 xs)] (.tuple #[]) [aT 33 1 ad xs.length cap (ch .u32 xs.reverse)]:=by
 apply aH Tryz.func309 Tryz.ntmps309;intro F _;refine J [1,35,251,241,141,76] ?_;refine UZ (ι:=Nat×List Int) (λs=>b5.nE xs s.1 s.2/\s.1<=xs.length) (λs=>[(0,.slice ad xs.length cap),(2,aa ((s.1:Nat):Int)),(3,aa ((xs.length:Int)-1-((s.1:Nat):Int)))]) (λs=>ah [aT 33 1 ad xs.length cap (ch .u32 s.2),F]) (λs=>xs.length-s.1) ⟨0,xs⟩ ⟨b5.nE.start xs,Uv _⟩ ⟨rfl,rfl,congrArg (VA .i64) cH,trivial⟩ (aq (aq (a6 _))) ?_;rintro⟨i,d⟩ ⟨w,C⟩ W;dsimp only[ct]at w C⊢;apply J [129,2,191];apply Ur rfl<;>intro N;·have V:=w.len;have P:=iX .u32 d;obtain⟨u,hu⟩:∃u,d[i]? =some u:=⟨d[i],Uo U⟩;obtain⟨v,hv⟩:∃v,d[xs.length-1-i]? =some v:=⟨d[xs.length-1-i],Uo U⟩;(have E:d[((xs.length:Int)-1-(i:Int)).toNat]? =some v:=by simp_all);(have Q:(ch .u32 (d.set i v)).length=d.length:=by rw[iX,Ve]);(have O:0<(ch .u32 d).length:=by omega);refine J [62,602,181,181,181,605] ?_;refine bU rfl rfl rfl (dv rfl rfl (me E)) ?_;refine J [181,485] ?_;refine bU rfl rfl rfl (dv rfl rfl (me hu)) ?_;refine J [485,91] ?_;refine QM.ef (v:=.int _ _) (vs:=[_]) 1 rfl rfl rfl rfl rfl rfl am U (AG .u32 (i:=i) U U _) ?_;refine J [605,91] ?_;refine QM.ef (v:=.int _ _) (vs:=[_]) 1 rfl rfl rfl rfl rfl rfl am U (AG .u32 (i:=xs.length-1-i) Aj U _) ?_;refine J [306,347,2,241,141] ?_;exact⟨rfl,⟨i+1,(d.set i v).set (xs.length-1-i) u⟩,⟨w.next U hu hv,by dsimp only;omega⟩,cH,⟨rfl,rfl,congrArg (VA .i64) cH,trivial⟩,(aq (aq (a6 _)))⟩
 have D:=w.done U;subst D;apply J [363];exact xY
variable(aV af:Nat)
theorem Dh(top:Nat)(A:bP)(h:Int)(a8:0<=h/\h<=4294967295):bI 259 [ae aV,aS h] be [hO aV af top A] (λy:Option Addr×Nat=>.slice y.1 (fh A h).length y.2) (λ_=>True) (λy=>[aT 33 1 y.1 (fh A h).length y.2 (ch .u32 (fh A h)),hO aV af top A]):=by
 apply aH Tryz.func259 Tryz.ntmps259;intro F _;apply J [1];refine ab.lF 0 rfl (λax=>?_);obtain⟨_,ar,u⟩:=ax;have d:=u.wx ar;have bh:=AY u d h;have bk:hb (eN A) (jo A) h=fh A h++[h]:=oN d h;have aQ:∀z∈hb (eN A) (jo A) h,0<=z/\z<=4294967295:=λz a2=>(by rcases xM u d _ h z (Uw _) a2 with e|e;omega;exact nI u.ok e);refine J [44,59,21,3,170,148] ?_;intro ba;apply J [123,76];refine UZ (ι:=(List Int×Option Addr×Nat)×(List Int×Option Addr×Nat)) (λs=>s.1.1.flatMap (hb (eN A) (jo A))++s.2.1.reverse=hb (eN A) (jo A) h) (λs=>[(0,ae aV),(1,aS h),(5,.slice s.2.2.1 s.2.1.length s.2.2.2),(6,.slice s.1.2.1 s.1.1.length s.1.2.2)]) (λs=>ah [aT 33 1 s.1.2.1 s.1.1.length s.1.2.2 (ch .u32 s.1.1),aT 33 1 s.2.2.1 s.2.1.length s.2.2.2 (ch .u32 s.2.1),hO aV af top A,F]) (λs=>(s.1.1.flatMap (hb (eN A) (jo A))).length) (([h],some ⟨ba,0,none⟩,1),([],none,0)) cF bu ((dH 33 1 _).trans (bW (aq (aq (aq (a6 _)))))) ?_;rintro⟨⟨W,bv,bT⟩,⟨O,hS,fo⟩⟩ w bx;dsimp only[ct]at w⊢;apply J [7,35,251,165,3];apply Ur rfl<;>intro a5;obtain⟨V,x,rfl⟩:∃V x,W=V++[x]:=(by(have H:W≠[]:=by grind);exact⟨W.dropLast,W.getLast H,(Xv H).symm⟩);have au:(V++[x]).length=V.length+1:=b2
 have aX:(V++[x])[(((V.length+1:Nat):Int)-1).toNat]? =some x:=b2
 have bm:=iX .u32 (V++[x]);have a0:=aQ x (by rw[<-w];exact Uq.2 (.inl (Vh.2 ⟨x,by simp,uw d x⟩)));have hlen:∀L:List Int,L.length<=(L.flatMap (hb (eN A) (jo A))).length:=λL=>(by induction L with|nil=>exact Uv _|cons a L br=>have:=List.length_pos_of_mem (uw d a);rw[UN,mp,UP];omega);have D:=congrArg Wc w;have a4:=hlen V;have hIn:(V++eN A x).flatMap (hb (eN A) (jo A))++(O++[x]).reverse=hb (eN A) (jo A) h:=(by grind[oN]);have a9:(eN A x).length<=257:=VN (hlen _) (VN (by have:=congrArg Wc (oN d x);rw[mp]at this;omega) (AY u d x));rw[mp,Wo,Wp,mp]at D;rw[au];refine ab.m6 0 rfl (λ_ bo aC=>?_);simp only[maxLen]at aC;have bl:0<(ch .u32 (V++[x])).length:=U
 refine J [4,76,35,86,251,241] ?_;refine q rfl rfl (kv 33 1 rfl rfl rfl U U dW) ?_;refine q rfl rfl (dv rfl rfl (me aX)) ?_;apply J [31];have C:aF (aT 33 1 bv (V.length+1) bT (ch .u32 (V++[x]))) (aT 33 1 bv V.length bT (ch .u32 V)):=(by have:=pM (E:=33) (sz:=1) (ad:=bv) (n:=V.length+1) (cap:=bT) (cs:=ch .u32 (V++[x])) (j:=V.length) U;grind[FO]);refine VM (eM 0 rfl C (aq (aq (aq (a6 _))))) ?_;refine cx [0,1,2,3,4,5,6,-7,-8,9] (a6 _) ?_;apply J [372,372];refine bU rfl rfl rfl (len 33 1 rfl rfl) ?_;refine J [441] ?_;refine bU rfl rfl rfl (nv 33 1 (V.length) rfl rfl rfl U U) ?_;apply J [77,237];apply a7 (C5 aV af top A x a0);intro z9 _;refine J [280] ?_;have bb:=iX .u32 (eN A x);refine J [11,606] ?_;intro N Q;refine J [5,334,75,114,63] ?_;intro bw;refine J [0,486] ?_;intro P Z;apply J [21,153];exact⟨rfl,((V++eN A x,N,Q),(O++[x],P,Z)),hIn,(by dsimp only;have ag:=congrArg Wc hIn;simp only[mp,Wo,Ux,Wp]at ag D⊢;omega),⟨rfl,rfl,congrArg (λn=>U8 _ n _) sH,congrArg (λn=>U8 _ n _) uf,trivial⟩,(ca 2 rfl (by dsimp only;rw[oJ,mp]) (ca 0 rfl (by dsimp only;rw[oJ,mp];rfl) (bp (bp (a6 _)))))⟩;obtain rfl:W=[]:=XX.1 U;have aK:O.reverse=fh A h++[h]:=b2
 have an:O.length=(fh A h).length+1:=b2;have a3:O.length<=257:=b2
 apply J [204,0];apply ao (Nl hS fo O U);apply J [19];rw[aK,an];have C:aF (aT 33 1 hS ((fh A h).length+1) fo (ch .u32 (fh A h++[h]))) (aT 33 1 hS (fh A h).length fo (ch .u32 (fh A h))):=(by have:=pM (E:=33) (sz:=1) (ad:=hS) (n:=(fh A h).length+1) (cap:=fo) (cs:=ch .u32 (fh A h++[h])) (j:=(fh A h).length) U;grind[FO]);apply J [25];refine ab.m6 0 rfl (λ_ bd _=>?_);refine J [114,86,251,241] ?_;refine q rfl rfl (nv 33 1 ((fh A h).length) rfl rfl rfl U U) ?_;apply J [101];exact bn (hS,fo) trivial (eM 0 rfl C ai)
def AA(A:bP)(h:Int):Prop:=∀i s (x r:Nat),A.aK i s=dG x r->1<=r->r<=15->x<4294967295->(x:Int)≠h
structure B7(A:bP)(h:Int)(bk:bP):Prop where
  ex:∃(k:Nat) (o:an.e9) (g:Int) (a1:Nat->Nat->Nat),A.l[k]? =some ⟨o,1,g⟩/\h=g*256+k/\k<256/\(∀i,i≠k->a1 i=A.a1 i)/\bk={A with l:=A.l.set k ⟨o,2,g⟩,a1:=a1,q:=A.q++[(h,A.now+A.pd)]}
theorem Lv{h:Int}{k:Nat}{p:an.bX}(e:an.ei A.l h 1=some (k,p)):(an.hP A.l h).1=A.l.set k ⟨p.o,2,p.c0⟩:=by rw[an.hP,e]
theorem Ku(top:Nat)(A:bP)(h:Int)(w:0<=h/\h<=4294967295)(V:(an.cP A.l h).2=0)(aC:h≠0)(hm:eN A h=[])(au:AA A h)(W:∀s,A.aK (h %256).toNat s=0):bI 348 [ae aV,aS h] be [hO aV af top A] (λ_:bP=>aa 0) (λC=>B7 A h C) (λC=>[hO aV af top C]):=by apply aH Tryz.func348 Tryz.ntmps348;intro F _;apply J [1,96];apply ao (jz aV af top A h w 0);apply J [6];rw[hF];refine J [230] ?_;intro ba;apply J [115,234];refine Ur rfl (λO=>absurd O (λh=>h V)) (λO=>?_);apply J [29,199];refine Ur rfl (λP=>absurd P (aC)) (λP=>?_);apply J [32];apply a7 (C5 aV af top A h w);intro bm _;apply J [19];rw[hm];apply J [251,165,47];refine Ur rfl (λQ=>absurd Q (am)) (λQ=>?_);apply ab.open 1 rfl;rintro⟨N,bF,S⟩ ⟨H,d⟩;apply J [243];dsimp only at H d⊢;apply J [23,64,28];apply ao (an.Oy N A.l h d.ok w);refine J [17,3,99,216,148] ?_;intro bw;obtain⟨k,p,Z,D,E,ag,u,ar,ax⟩:=oA w.1 V;obtain⟨o,s,g⟩:=p;dsimp only at E u ax;subst E;have a9:=d.pd;have bb:=d.bd;have bh:=d.Gw;have a8:k≠0:=λe=>(by obtain⟨⟨a,bK⟩,_⟩:=d.rt;simp_all);rw[Lv Z];rw[ar]at W;refine e rfl ?_;apply eG (hh.vo bF A.pd A.now A.q (cL bw) 1 [h] a9.1 U U (UC rfl)) ⟨_,bl.rd (ad:=some ⟨bw,0,none⟩)⟩;apply J [78,118];have a3:=d.tH D a8 (λi s x r aQ aX a0 a2=>by rw[<-u];exact au i s x r aQ aX a0 a2) W (λi=>if i=k then λx=>S.m (o.a.toNat+x)else A.a1 i);have a4:=H.tH (bk:={A with l:=A.l.set k ⟨o,2,g⟩,a1:=λi=>if i=k then λx=>S.m (o.a.toNat+x)else A.a1 i,q:=A.q++[(g*256+k,A.now+A.pd)]}) ⟨g,D⟩ rfl rfl rfl rfl ⟨rfl,rfl,rfl⟩;exact bn {A with l:=A.l.set k ⟨o,2,g⟩,a1:=λi=>if i=k then λx=>S.m (o.a.toNat+x)else A.a1 i,q:=A.q++[(g*256+k,A.now+A.pd)]} ⟨⟨k,o,g,_,D,u,ag,λi a5=>al a5,by rw[u]⟩⟩ (ay (⟨N,bF,S⟩:fE) ⟨a4,a3⟩ (cY (cY (bp (ca 0 rfl (by dsimp only;rw[u];rfl) ai)))))
theorem QU{n:Int}{l:List (Int×Int)}(hs:l.Pairwise λa b=>a.2<=b.2):∀t∈hh.mT n l,n<t.2:=by induction l with|nil=>intro t h;cases h|cons a l w=>intro t h;rw[List.pairwise_cons]at hs;rw[hh.mT,List.dropWhile_cons]at h;split at h;exact w hs.2 t h;rename_i u;(have d:n<a.2:=by simpa using u);rcases List.mem_cons.1 h with rfl|h;exact d;have:=hs.1 t h;omega
def qp(D:List Int)(i:Nat)(p:an.bX):an.bX:=if p.st=2/\p.c0*256+(i:Int)∈D then an.iU p else p
def p2(l l':List an.bX)(D:List Int):Prop:=∀i,l'[i]? =(l[i]?).map (qp D i)
theorem MI(l:List an.bX):p2 l l []:=λi=>by
 cases l[i]? with
 | none=>rfl
 | some p=>rw[VY,qp,al (λh=>absurd h.2 cF)]
theorem zm(p:an.bX):(an.iU p).st≠2/\(an.iU p).st≠1:=by grind[an.iU]
theorem MJ{l l':List an.bX}{D:List Int}(h:p2 l l' D){k:Nat}{p:an.bX}(H:l'[k]? =some p)(E:p.st=2)(Q:k<256)(N:an.dN l):p2 l (l'.set k (an.iU p)) (D++[p.c0*256+(k:Int)]):=λi=>by
 have d:=h i
 by_cases e:i=k
 ·subst e
  rw[H]at d
  cases C:l[i]? with
  | none=>rw[C]at d;cases d
  | some q=>
   rw[C,VY]at d
   have O:p=q:=by
    have:=VB d
    rw[qp]at this
    split at this
    ·rw[this]at E;exact absurd E (zm q).1
    exact this
   rw[U7 (Uz.1 H).1,VY,qp,<-O,aw ⟨E,by simp⟩]
 rw[Vs λu=>e u.symm,d]
 cases C:l[i]? with
 | none=>rfl
 | some q=>
  rw[VY,VY,qp,qp]
  have P:=N.c0 q (Us C)
  have V:=N.lt C
  have:(p.c0*256+(k:Int)=q.c0*256+(i:Int))->False:=λu=>e U
  have u:(q.c0*256+(i:Int)∈D++[p.c0*256+(k:Int)])↔q.c0*256+(i:Int)∈D:=by
   rw[Uq,Up]
   exact⟨λh=>h.elim id λh=>(this h.symm).elim,.inl⟩
  by_cases w:q.st=2/\q.c0*256+(i:Int)∈D
  ·rw[aw w,aw ⟨w.1,u.2 w.2⟩]
  rw[al w,al λh=>w ⟨h.1,u.1 h.2⟩]
structure q3(top:Nat)(A:bP)(due rest:List (Int×Int))(j:Nat)(B:bP)(S:cQ):Prop where
  Nb:j<=due.length
  Uf:cn top B S
  Ue:cq B
  Ef:p2 A.l B.l ((due.map (·.1)).take j)
  he:B={A with l:=B.l,Q:=B.Q,q:=due.drop j++rest}
structure tm(A bk:bP):Prop where
  ex:∃(l:List an.bX) (Q:List aC.bY),p2 A.l l ((hh.lC (A.now+1) A.q).map (·.1))/\bk={A with l:=l,Q:=Q,now:=A.now+1,q:=hh.mT (A.now+1) A.q,np:=A.np+1}
theorem cq.SD(h:cq A){r:List (Int×Int)}(u:A.q=r)(hr:∀t∈r,A.now+1<t.2)(w:A.np+1<=1000000):cq {A with now:=A.now+1,np:=A.np+1}:=
 ⟨h.ok,h.d8,h.rt,h.ac,h.cW,h.m9,h.aK,h.hz,h.mj,h.n2,λt d=>⟨hr t (u▸d),by have:=h.n4 t d;dsimp only;omega⟩,h.mR,⟨h.pd.1,by have:=h.pd;dsimp only;omega⟩,by have:=h.bd;dsimp only;omega⟩
theorem cn.tick{top:Nat}{S a8:cQ}{k c x:Nat}{f g:Int}{P:an.bX}{Q:List aC.bY}{q:List (Int×Int)}(h:cn top A S)(ar:A.l[k]? =some ⟨bt c x f,2,g⟩)(E:js c)(Z:¬fl P.st){D:cQ}(w:D.C=S.C/\D.Fr=S.Fr/\D.m=S.m/\D.bx=S.bx)(p:ti top D f c x a8)(ag:a8.Q=Q):cn top {A with l:=A.l.set k P,Q:=Q,q:=q} a8:=by have W:cn top {A with l:=A.l.set k P} S:=h.free Z rfl rfl rfl rfl ⟨rfl,rfl,rfl⟩;have ao:fX top S D hR hR:=wa h.P w.1 w.2.1 w.2.2.1;have N:∀a,¬ft c x 6 a/\¬ft c x 7 a:=λa=>⟨λh=>by rcases E with E|E<;>have:=h.1<;>omega,λh=>by rcases E with E|E<;>have:=h.1<;>omega⟩;refine W.mL (ao.trans p.g) rfl rfl rfl rfl ⟨ag,by rw[p.q.2,w.2.2.2];exact h.Q.2⟩ (λi s d b V au H=>?_) (λa=>⟨λh=>h.elim id (N a).1,λh=>h.elim id (N a).2⟩) (by rw[p.u,w.1]) (by have:=p.p;rw[w.1,w.2.1]at this;have:=h.fV;dsimp only;omega);have O:¬ft c x d b:=(by rintro⟨rfl,rfl⟩;rcases H.set with⟨e,H⟩|⟨_,e,_⟩;exact e (h.un i k s 2 d b V f au (.inr rfl) H ⟨g,ar⟩);simp_all);exact⟨λh=>h.elim id O,λh=>absurd h λh=>h.elim id O⟩
theorem Lh(u bF top:Nat)(S:cQ)(cJ bd ar:Nat)(d:Nat->Nat)(a w:Nat)(k f:Int)(E:2^top<=128)(bK:a+8<=1024*2^top)(C:a %8=0)(D:cS S.m a=w)(hw:w<2^63):br 100 [ae aV,.agg (ints (bt k a f).l).toArray] be [aj aV 135 [ae af,ae u,ae bF],aj af 169 (im 8 cJ bd ar d),gn ar S.m (1024*2^top)] (aa w) [aj aV 135 [ae af,ae u,ae bF],aj af 169 (im 8 cJ bd ar d),gn ar S.m (1024*2^top)]:=by apply aH Tryz.func100 Tryz.ntmps100;intro F _;apply J [85];subst D;refine J [26,289] ?_;intro ba;apply J [31];refine cx [0,1,2,3,5,6,-4,-7,8,9,10,11,12] (aq (aq (a6 _))) ?_;apply J [51,287];apply ao (lR af cJ bd ar d);refine J [300,43] ?_;apply ao (tr ar (1024*2^top) a S.m U bK C);refine J [280,253,283,271,29] ?_;refine q rfl rfl (conv .u64 .i64 rfl rfl rfl (oU hw)) ?_;apply J [30];exact dp
theorem K8(top:Nat)(A:bP)(cd:A.np+1<=1000000):bI 160 [ae aV] c8 [hO aV af top A] (λy:(Option Addr×Nat)×bP=>.slice y.1.1 ((hh.lC (A.now+1) A.q).map (·.1)).length y.1.2) (λy=>tm A y.2) (λy=>[aT 33 1 y.1.1 ((hh.lC (A.now+1) A.q).map (·.1)).length y.1.2 (ch .u32 ((hh.lC (A.now+1) A.q).map (·.1))),hO aV af top y.2]):=by
 apply aH Tryz.func160 Tryz.ntmps160;intro F bY;apply J [1];haveI:cw F:=⟨bY⟩;apply ab.open 0 rfl;rintro⟨u,bF,S⟩ ⟨bh,H⟩;apply J [84];dsimp only at bh H⊢;apply J [44,59,123,106,121,99];have cT:=H.pd;have cK:=H.bd;have c1:=H.Gw;refine e rfl ?_;apply a7 (hh.Bz bF A.pd A.now A.q U U);intro y _;apply J [13,174];have b9:hh.lC (A.now+1) A.q++hh.mT (A.now+1) A.q=A.q:=by grind[hh.lC,hh.mT,List.takeWhile_append_dropWhile]
 have co:∀t∈hh.mT (A.now+1) A.q,A.now+1<t.2:=QU H.mR;generalize cc:hh.lC (A.now+1) A.q=due at*;generalize cm:hh.mT (A.now+1) A.q=rest at*;have cO:due.length<=256:=cr;have cj:(due.map (·.1)).length=due.length:=b2
 refine UZ (ι:=(Nat×bP×cQ)×(Option Addr×Nat)) (λs=>q3 top A due rest s.1.1 s.1.2.1 s.1.2.2) (λs=>[(0,ae aV),(3,.slice s.2.1 ((due.map (·.1)).take s.1.1).length s.2.2),(15,.slice y.1 (due.map (·.1)).length y.2),(16,aa (due.map (·.1)).length),(17,aa ((s.1.1:Nat):Int))]) (λs=>ah [aT 33 1 s.2.1 ((due.map (·.1)).take s.1.1).length s.2.2 (ch .u32 ((due.map (·.1)).take s.1.1)),hh.eI bF A.pd (A.now+1) rest,aT 3 1 y.1 (due.map (·.1)).length y.2 (ints (due.map (·.1))),aj aV 135 [ae af,ae u,ae bF],e7 af top s.1.2.2,aT 264 5 (cL u) 256 256 (an.gk s.1.2.1.l),F]) (λs=>due.length-s.1.1) ((0,A,S),(none,0)) ⟨Uv _,bh,H,MI _,by rw[List.drop_zero,b9]⟩ bu ((dH 33 1 _).trans ai) ?_;rintro⟨⟨j,B,T⟩,ad,cap⟩ au da;dsimp only[ct]at au⊢;apply J [40];apply Ur rfl<;>intro cP;have ce:j<due.length:=U
 obtain⟨⟨x,t⟩,c3⟩:∃z,due[j]? =some z:=⟨due[j],Uo ce⟩;have cA:(due.map (·.1))[j]? =some x:=b2
 have cZ:0<(ints (due.map (·.1))).length:=by grind[eb]
 obtain⟨_,d,aN,kt,E⟩:=au;have N:B.q=(x,t)::(due.drop (j+1)++rest):=(by grind[List.drop_eq_getElem_cons]);obtain⟨⟨⟨k,p⟩,cg⟩,aK⟩:=(aN.mj x).2 (by rw[N];simp);obtain⟨D,aQ,cf,bm⟩:=an.nX aK cg;obtain⟨o,c7,g⟩:=p;dsimp only at bm aQ;subst bm;have b6:=aN.ok.c0 _ (Us D);dsimp only at b6;obtain⟨c,a9,f,rfl,O,a3⟩:=d.obj k 2 o (.inr rfl) ⟨g,D⟩;have oB:an.po B.l x=(B.l.set k (an.iU ⟨bt c a9 f,2,g⟩),bt c a9 f,0):=by grind[an.po]
 have ar:(due.map (·.1)).take (j+1)=(due.map (·.1)).take j++[x]:=by grind[List.take_succ]
 have bk:¬fl (an.iU ⟨bt c a9 f,2,g⟩).st:=by grind[fl,zm]
 have c2:((due.map (·.1)).take j).length<=256:=cr
 have cI:=d.P;have ax:=MJ kt D rfl cf H.ok;dsimp only at ax;rw[<-aQ,<-ar]at ax;refine J [187] ?_;refine q rfl rfl (dv rfl rfl (hN cA)) ?_;refine J [61,416,27,64,28] ?_;apply ao (an.MN u B.l x aN.ok ⟨aK,by omega⟩);apply J [17];rw[oB];refine J [230] ?_;intro bw;apply J [115,33];refine Ur rfl (λag=>absurd ag (λh=>h rfl)) (λag=>?_);apply J [42,110,225];apply Ur rfl<;>intro ag;obtain rfl:c=1:=by have bK:((c:Nat):Int)=1:=ag;omega
 have cl:=d.mh k 2 a9 f (.inr rfl) ⟨g,D⟩;have cS:=aN.AQ (.inr rfl) ⟨g,D⟩;have cM:=c6.bd d.P a3;have cD:bE 1=64:=rfl;obtain⟨ee,a8⟩:=aN.free D O (by rw[<-aQ];exact N) (l1:=(aC.iy T.Q (B.own k)).1) (by rw[d.Q.1];rfl);obtain⟨ck,w⟩:∃ck:cQ,ck=⟨(aC.iy T.Q (B.own k)).1,T.bx,T.C,T.Fr,T.m⟩:=⟨_,rfl⟩;have be:dg top ck:=by grind[dg]
 refine ab.open 6 rfl (λcB aK=>?_);obtain⟨cJ,bd,aX,a0⟩:=cB;have bb:=aK;apply J [364];dsimp only at bb⊢;have cy:=bb.fW;have cz:2^top<=128:=Uu (n:=2) am cy.2;refine cx [0,1,2,3,4,5,6,7,8,-9,-10] (show aF (ah _) (ah [aj bw 60 (ints (bt ((1:Nat):Int) a9 f).l),aj aV 135 [ae af,ae u,ae bF],aj af 169 (im 8 cJ bd aX a0)])from ai) ?_;apply J [51,88,107,77,315,11];apply ao (Lh aV af u bF top T cJ bd aX a0 a9 (B.own k) 1 f cz U U cl U);refine J [445,43] ?_;apply ao (aC.QB cJ T.Q T.bx (B.own k:Int));refine J [445,108,337] ?_;refine aO.bf (B:=ah [aj aV 135 [ae af,ae u,ae bF],e7 af top ck,aT 33 1 ad ((due.map (·.1)).take j).length cap (ch .u32 ((due.map (·.1)).take j)),hh.eI bF A.pd (A.now+1) rest,aT 3 1 y.1 (due.map (·.1)).length y.2 (ints (due.map (·.1))),aT 264 5 (cL u) 256 256 (an.gk (B.l.set k (an.iU ⟨bt ((1:Nat):Int) a9 f,2,g⟩))),F]) (by subst w;exact(bW (ay (dR.mk cJ bd aX a0:dR af) be ai))) ?_;have W:ck.C=T.C/\ck.Fr=T.Fr/\ck.m=T.m/\ck.bx=T.bx:=by rw[w];exact⟨rfl,rfl,rfl,rfl⟩
 have a2:c6 ck 1 a9:=by rw[c6,W.1,W.2.1];exact a3
 have Z:ck.Q=(aC.iy T.Q (B.own k)).1:=by rw[w]
 refine e rfl ?_;apply a7 (vK aV af u bF top ck 1 a9 f O a2 (by rw[Z];exact ee));intro fZ V;refine J [17,3,114,63] ?_;intro b4;refine J [0,486] ?_;intro bo bD;refine J [21,60] ?_;have a4:fZ.Q=(aC.ek (aC.iy T.Q (B.own k)).1 f (bE 1:Int)).1:=by rw[V.q.1,Z]
 have a5:=d.tick (q:=due.drop (j+1)++rest) D O bk W V a4;exact⟨rfl,((j+1,_,fZ),(bo,bD)),⟨by dsimp only;omega,a5,a8,ax,by rw[E]⟩,cH,⟨rfl,congrArg (λn=>U8 _ n _) (by dsimp only;rw[ar,mp];rfl),rfl,rfl,rfl,trivial⟩,(ca 0 rfl (by dsimp only;rw[ar,oJ,mp];rfl) ai)⟩;obtain⟨ee,a8⟩:=aN.free D O (by rw[<-aQ];exact N) (l1:=T.Q) (by rw[d.Q.1,al (λh=>ag (by rw[h];rfl))]);obtain⟨ck,w⟩:∃ck:cQ,ck=T:=⟨_,rfl⟩;have be:dg top ck:=w▸d.P;have W:ck.C=T.C/\ck.Fr=T.Fr/\ck.m=T.m/\ck.bx=T.bx:=by rw[w];exact⟨rfl,rfl,rfl,rfl⟩
 have a2:c6 ck c a9:=w▸a3;have Z:ck.Q=T.Q:=by rw[w]
 apply J [4,337];refine aO.bf (B:=ah [aj aV 135 [ae af,ae u,ae bF],e7 af top ck,aT 33 1 ad ((due.map (·.1)).take j).length cap (ch .u32 ((due.map (·.1)).take j)),hh.eI bF A.pd (A.now+1) rest,aT 3 1 y.1 (due.map (·.1)).length y.2 (ints (due.map (·.1))),aT 264 5 (cL u) 256 256 (an.gk (B.l.set k (an.iU ⟨bt c a9 f,2,g⟩))),F]) (by subst w;exact ai) ?_;refine e rfl ?_;apply a7 (vK aV af u bF top ck c a9 f O a2 (by rw[Z];exact ee));intro fZ V;refine J [17,3,114,63] ?_;intro cC;refine J [0,486] ?_;intro br bO;refine J [21,60] ?_;have a4:fZ.Q=(aC.ek T.Q f (bE c:Int)).1:=by rw[V.q.1,Z]
 have a5:=d.tick (q:=due.drop (j+1)++rest) D O bk W V a4;exact⟨rfl,((j+1,_,fZ),(br,bO)),⟨by dsimp only;omega,a5,a8,ax,by rw[E]⟩,cH,⟨rfl,congrArg (λn=>U8 _ n _) (by dsimp only;rw[ar,mp];rfl),rfl,rfl,rfl,trivial⟩,(ca 0 rfl (by dsimp only;rw[ar,oJ,mp];rfl) ai)⟩;obtain rfl:j=due.length:=by have:=au.Nb;omega
 obtain⟨_,d,aN,kt,E⟩:=au;have cu:(due.map (·.1)).take due.length=due.map (·.1):=U1 (by rw[cj];exact Uw _);rw[cu]at kt⊢;have N:B.q=rest:=by rw[E,List.drop_length];rfl
 have bX:=aN.SD N (λt cq=>by rw[E];exact co t cq) (by rw[E];exact cd);have bl:B.now=A.now/\B.pd=A.pd:=by rw[E];exact⟨rfl,rfl⟩
 have bZ:cn top {B with now:=B.now+1,np:=B.np+1} T:=d.mL (wa d.P rfl rfl rfl) rfl rfl rfl rfl d.Q (λ_ _ _ _ _ _ _=>⟨λh=>h,λh=>h.elim⟩) (λ_=>⟨λh=>h,λh=>h⟩) rfl (Nat.le_succ_of_le d.fV);have b5:tm A {B with now:=B.now+1,np:=B.np+1}:=(by refine⟨⟨B.l,B.Q,by rw[cc];exact kt,?_⟩⟩;rw[cm];(conv=>lhs;rw[E]);rw[List.drop_length];rfl);apply J [204,101];exact bn ((ad,cap),{B with now:=B.now+1,np:=B.np+1}) b5 (aq (ay (⟨u,bF,T⟩:fE) ⟨bZ,bX⟩ (bp (bp (bp (ca 0 rfl (by dsimp only;rw[bl.1,bl.2,N]) ai))))))
end Go.Proofs.YtglgidjhoncphaaGreatDoor
namespace Go.QM
open Go
theorem PP{x:Nat}(Q:x<2^64):fo x=n7 ((m0 x 8).map n0):=by
 have d:=yD 8 x;have au:=yC 8 x;have C:dy (m0 x 8)=x:=by grind[yE]
 generalize m0 x 8=l at d au C;subst C;have t:=λa (u:a∈l)=>AR (d a u);have N:j9 (dy l)=dy (l.map fT):=(by have g1:=uJ (m:=85) (s:=1) am am am d;have g2:=tq (m:=85) am d;rw[sG au]at g1 g2;rw[j9,show 6148914691236517205=dy [85,85,85,85,85,85,85,85]from by decide,g1,g2,tp];rfl);have w:∀a∈l.map fT,a<256:=b2
 have E:(l.map fT).length=8:=b2
 have O:lN (dy (l.map fT))=dy ((l.map fT).map ha):=(by have g1:=uJ (m:=51) (s:=2) am am am w;have g2:=tq (m:=51) am w;rw[sG E]at g1 g2;rw[lN,show 3689348814741910323=dy [51,51,51,51,51,51,51,51]from by decide,g1,g2,tp];rfl);have D:∀a∈(l.map fT).map ha,a<256/\a/16<=4/\a %16<=4:=λa u=>cr;have H:((l.map fT).map ha).length=8:=b2
 have P:mQ (dy ((l.map fT).map ha))=dy (l.map n0):=(by have g1:=(Az D).1;rw[sG H]at g1;rw[mQ,show 1085102592571150095=dy [15,15,15,15,15,15,15,15]from by decide,g1,W7,W7];rfl);grind[fo,FR]
theorem FSa{n:Nat}(d:65536<n)(u:n<131072):fo n≠1:=by grind[PP,m0,n7,n0,AR]
end Go.QM
namespace Go.Proofs.YtglgidjhoncphaaGreatDoor
open Go Go.QM
def si(n:Int):Prop:=n<65536\/1073741824<n\/65536<n/\n<131072
theorem CF(n:Int)(h:si n):br 177 [aa n] be [] (.pointer none) []:=by apply aH Tryz.func177 Tryz.ntmps177;intro F _;apply J [9];rcases h with h|h|⟨h,u⟩;refine J [131,176,480,336,48,104,177] ?_;exact dp;refine J [131,176,392,169,50] ?_;refine UG 9 rfl (c:=true) (cR U) ?_;apply J [48,104,177];exact dp;obtain⟨k,rfl⟩:∃k:Nat,n=(k:Int):=⟨n.toNat,(Vj U).symm⟩;have w:=FSa (n:=k) U U;refine J [131,176,392,169,50] ?_;refine UG 9 rfl (c:=false) (c4 U) ?_;refine J [16,466,90] ?_;apply ao (wY k U);apply J [151,301,103];refine Ur rfl (λd=>?_) (λd=>absurd U d);apply J [177];exact dp
theorem CI(n:Int)(h:si n):br 176 [aa n] be [] (.pointer none) []:=by apply aH Tryz.func176 Tryz.ntmps176;intro F _;apply J [9];rcases h with h|h|⟨h,u⟩;refine J [131,176,465,336,48,104,177] ?_;exact dp;refine J [131,176,470,169,50,529,48,104,177] ?_;exact dp;obtain⟨k,rfl⟩:∃k:Nat,n=(k:Int):=⟨n.toNat,(Vj U).symm⟩;have w:=FSa (n:=k) U U;refine J [131,176,470,169,50,525,16,466,90] ?_;apply ao (wY k U);apply J [151,301,103];refine Ur rfl (λd=>?_) (λd=>absurd U d);apply J [177];exact dp
theorem Qq(n lim:Int)(h:¬((n=65536\/n=131072)/\0<=lim/\lim<=n))(hs:n<=131072\/1073741824<n):br 125 [aa n,aa lim] c8 [] (.pointer none) []:=by
 apply aH Tryz.func125 Tryz.ntmps125;intro F E;apply J [9];haveI:cw F:=⟨E⟩;apply J [272,29];by_cases C:0<=lim/\lim<=1073741824;refine e rfl ?_;apply a7 (aC.GA lim C);intro t _;apply J [6,2];by_cases au:n=65536\/n=131072;obtain⟨k,top,rfl,u⟩:∃k top:Nat,n=(k:Int)/\(k=65536/\top=6\/k=131072/\top=7):=cr;refine e rfl ?_;apply a7 (yy k top u);intro bd _;apply J [8,28];apply a7 (ym k U);intro D _;refine J [19,487,0,488] ?_;intro ba;apply J [55,99,154,18,138,139,414,50,16,169,103];refine Ur rfl (λw=>?_) (λw=>absurd U w);apply J [177];exact dp;have d:si n:=by grind[si]
 refine e rfl ?_;apply ao (CI n d);apply J [6,28];apply ao (CF n d);refine J [6,487,0,488] ?_;intro bw;apply J [55,99,154,18,214,52,97,104,177];exact dp;refine e rfl ?_;apply ao (aC.QD lim C);apply J [151,2];by_cases au:n=65536\/n=131072;obtain⟨k,top,rfl,u⟩:∃k top:Nat,n=(k:Int)/\(k=65536/\top=6\/k=131072/\top=7):=cr;refine e rfl ?_;apply a7 (yy k top u);intro bd _;apply J [6,28];apply a7 (ym k U);intro D _;refine J [8,487,0,488] ?_;intro b4;apply J [55,99,154,18,138,139,414,50,97,104,177];exact dp;have d:si n:=by grind[si]
 refine e rfl ?_;apply ao (CI n d);apply J [151,28];apply ao (CF n d);refine J [151,487,0,488] ?_;intro H;apply J [55,99,154,18,214,52,97,104,177];exact dp
def j6(a:Nat):List an.bX:=(UK 256 an.oc).set 0 ⟨bt 1 a 0,1,0⟩
def ew(a:Nat)(lim pd:Int):bP:=⟨j6 a,[⟨0,-1,lim,64⟩],1,λ_ _=>0,λ_=>0,λ_ _=>0,pd,0,[],2⟩
theorem wE(a:Nat){i:Nat}{p:an.bX}(h:(j6 a)[i]? =some p):(i=0/\p=⟨bt 1 a 0,1,0⟩)\/(i≠0/\p=an.oc):=by grind[j6]
theorem ni{a i:Nat}{s:Int}{o:an.e9}(hs:fl s)(h:cB (j6 a) i s o):i=0/\s=1/\o=bt 1 a 0:=by obtain⟨g,h⟩:=h;rcases wE a h with⟨e,h⟩|⟨_,h⟩;simp_all;cases h;exact absurd hs am
theorem zS(a:Nat):an.dN (j6 a):=⟨by rw[j6,Ve,Wk],λp u=>by
 obtain⟨i,d⟩:=List.getElem?_of_mem u
 rcases wE a d with⟨_,h⟩|⟨_,h⟩<;>rw[h]<;>exact⟨Wf 0,(by decide:(0:Int)<=1048575)⟩⟩
theorem ew.Cv(a:Nat){lim pd:Int}(V:64<=lim/\lim<=1073741824)(D:1<=pd/\pd<=16):cq (ew a lim pd):=by
 have hw:aC.eP [⟨0,-1,lim,64⟩] 1:=(by have h:=aC.eP.start (lim:=lim) ⟨by omega,V.2⟩;have:=h.set (t:=⟨0,-1,lim,0⟩) cF (c:=64) am (by show 64+aC.fm [⟨0,-1,lim,0⟩] 0<=lim;rw[aC.ri,al (show ¬((-1:Int)=0)by decide)];omega);trivial);have P:aC.f8 [⟨0,-1,lim,64⟩] 0=64:=by trivial
 have H:cB (j6 a) 0 1 (bt 1 a 0):=by grind[cB,j6]
 refine⟨zS a,hw,⟨⟨a,by show(j6 a)[0]? =_;rw[j6,U7 (by rw[Wk];decide)]⟩,rfl⟩,λi s o C u=>?_,λi s b f C u=>?_,λi j s r b d f g C Z u Q _=>?_,λi s h=>absurd rfl h,λx ao=>?_,λh=>⟨λw=>?_,λw=>(by cases w)⟩,List.nodup_nil,λt h=>(by cases h),XD,⟨D,Wf 0⟩,(by decide:(1:Int)<=((2:Nat):Int)/\(0:Int)<=((2:Nat):Int)/\2<=1000000)⟩;obtain⟨_,_,rfl⟩:=ni C u;exact⟨⟨_,Up.2 rfl,rfl⟩,(by decide:bE (1:Int).toNat≠0)⟩;obtain⟨e,_,_⟩:=ni C u;exact⟨⟨_,Up.2 rfl,rfl⟩,λh=>absurd e h⟩;rw[(ni C u).1,(ni Z Q).1];obtain⟨t,ag,rfl⟩:=ao;obtain rfl:=Up.1 ag;show aC.f8 [⟨0,-1,lim,64⟩] 0=_;rw[P,pe];have w:=pN (f:=λ_=>0) (g:=h0 (ew a lim pd) 0) (n:=256) (k:=0) am λi u ar=>(by rw[h0];obtain⟨p,D,_⟩:=(zS a).at u;rw[show(ew a lim pd).l[i]? =some p from D];rcases wE a D with⟨e,_⟩|⟨_,e⟩;trivial;rw[e];exact al am);haveI:dL:=⟨λ_=>0,λ_=>0⟩;rw[pO λ_ _=>rfl,show h0 (ew a lim pd) 0 0=64 from nL (A:=ew a lim pd) H 0]at w;simp_all;obtain⟨⟨⟨i,p⟩,W⟩,N⟩:=w;obtain⟨O,_,_,E⟩:=an.nX N W;rcases wE a O with⟨_,e⟩|⟨_,e⟩;simp_all;rw[e]at E;exact absurd (show(0:Int)=2 from E) am
theorem ew.QT{top a:Nat}{lim pd:Int}{S:cQ}(H:dg top S)(N:S.Q=[⟨0,-1,lim,64⟩]/\S.bx=1)(aN:c6 S 1 a)(W:cS S.m a=0)(E:gM (960/cc 6) (S.C 6)=0)(P:(dk S.C S.Fr).length<=2):cn top (ew a lim pd) S:=by refine⟨H,N,λi s o D w=>?_,λi j s r c b f g D V w O=>?_,λi b f w=>?_,λi j b d f g s r w=>?_,λi j b d f g u v w=>?_,?_,λi s b f D w=>?_,λi c b f w=>?_,P⟩;obtain⟨_,_,rfl⟩:=ni D w;exact⟨1,a,0,rfl,by decide,aN⟩;rw[(ni D w).1,(ni V O).1];exact absurd (jr (ni (.inl rfl) w).2.2).1 am;exact absurd (jr (ni (.inl rfl) w).2.2).1 am;exact absurd (jr (ni (.inl rfl) w).2.2).1 am;rw[E];exact(pO λ_ _=>pO λ_ _=>rfl).symm;rw[(jr (ni D w).2.2).2.1];exact W;exact absurd (ni (.inr rfl) w).2.1 am
theorem Jq{lim:Int}(h:64<=lim/\lim<=1073741824):aC.db (dj lim).Q 0 (cc 1:Int)=([⟨0,-1,lim,64⟩],0):=by
 have hw:=aC.eP.start (lim:=lim) ⟨by omega,h.2⟩;have hm:(⟨0,-1,lim,0⟩:aC.bY)∈(dj lim).Q:=by grind[dj]
 have hu:=aC.ip hw.bo hm;have E:aC.df (dj lim).Q 0:=by grind[aC.df]
 have d:aC.mU (dj lim).Q 0=0+aC.fm (dj lim).Q 0:=hu.1;have u:aC.nj (dj lim).Q 0=lim:=hu.2.1;have w:aC.f8 (dj lim).Q 0=0:=hu.2.2.1;have C:aC.fm (dj lim).Q 0=0:=(by trivial);have D:((cc 1:Nat):Int)=64:=rfl;rw[aC.db,al (λh=>h E),al U,d,u,w,C,D,al U];trivial
theorem KL(n lim pd:Int)(h:¬((n=65536\/n=131072)/\64<=lim/\lim<=n/\1<=pd/\pd<=16))(hs:n<=131072\/1073741824<n):br 84 [aa n,aa lim,aa pd] c8 [] (.pointer none) []:=by
 apply aH Tryz.func84 Tryz.ntmps84;intro F E;apply J [9];haveI:cw F:=⟨E⟩;apply J [272,198];by_cases u:(n=65536\/n=131072)/\0<=lim/\lim<=n;obtain⟨k,top,rfl,O⟩:∃k top:Nat,n=(k:Int)/\(k=65536/\top=6\/k=131072/\top=7):=cr;refine e rfl ?_;apply a7 (Gq k top lim O u.2);intro⟨af,D⟩ _;apply J [6];dsimp only;letI:dL:=D;refine e rfl ?_;apply a7 an.pC;intro H _;apply J [8,2];by_cases d:1<=pd/\pd<=16;have aQ:lim<64:=U
 have N:(aC.db (dj lim).Q 0 (cc 1:Int)).2≠0:=λe=>(by obtain⟨_,_,aK,_⟩:=yH e;have hw:=aC.eP.start (lim:=lim) ⟨u.2.1,by omega⟩;(have hm:(⟨0,-1,lim,0⟩:aC.bY)∈(dj lim).Q:=by grind[dj]);have hu:=aC.ip hw.bo hm;have ar:aC.mU (dj lim).Q 0=0+aC.fm (dj lim).Q 0:=hu.1;have au:aC.nj (dj lim).Q 0=lim:=hu.2.1;have ax:aC.fm (dj lim).Q 0=0:=(by trivial);grind[cc]);refine e rfl ?_;apply a7 (hh.pC pd d.1 d.2);intro bF _;refine J [19,446,0,447] ?_;intro ag;apply J [55,39,154,18,138,228,414,93,100,39,0];apply a7 (uu af top (dj lim) 0 1 am);intro⟨P,cp⟩ w;apply J [10];cases P with|some y=>exact absurd w.2.1 N|none=>?_
 dsimp only[pa,j5];apply J [133,33];refine Ur rfl (λC=>?_) (λC=>absurd (w.1) C);apply J [177];exact dp;refine e rfl ?_;apply ao (hh.sM pd U);refine J [8,446,0,447] ?_;intro Z;apply J [55,39,154,18,138,228,414,93,122,177];exact dp;refine e rfl ?_;apply ao (Qq n lim u hs);apply J [151,0];apply a7 an.pC;intro H _;apply J [6,2];by_cases d:1<=pd/\pd<=16;refine e rfl ?_;apply a7 (hh.pC pd d.1 d.2);intro bF _;refine J [8,446,0,447] ?_;intro V;apply J [55,39,154,18,214,104,177];exact dp;refine e rfl ?_;apply ao (hh.sM pd U);refine J [6,446,0,447] ?_;intro W;apply J [55,39,154,18,214,104,177];exact dp
theorem KM(n top:Nat)(lim pd:Int)(h:n=65536/\top=6\/n=131072/\top=7)(H:64<=lim/\lim<=n)(D:1<=pd/\pd<=16):bI 84 [aa n,aa lim,aa pd] c8 [] (λy:Nat×Nat×Nat×dL=>ae y.1) (λ_=>True) (λy=>[@hO y.2.2.2 y.1 y.2.1 top (ew y.2.2.1 lim pd)]):=by
 apply aH Tryz.func84 Tryz.ntmps84;intro F Z;apply J [9];haveI:cw F:=⟨Z⟩;have E:=Jq (lim:=lim) ⟨H.1,by omega⟩;apply J [272,29,28];apply a7 (Gq n top lim h ⟨by omega,H.2⟩);intro⟨af,N⟩ _;apply J [6];dsimp only;letI:dL:=N;refine e rfl ?_;apply a7 an.pC;intro Q _;apply J [8,28];apply a7 (hh.pC pd D.1 D.2);intro bF _;refine J [19,446,0,447] ?_;intro gV;apply J [55,39,154,18,138,228,414,93,100,39,0];apply a7 (uu af top (dj lim) 0 1 am);intro⟨ax,cp⟩ O;apply J [10];have ag:dg top (dj lim):=by grind[dg.zero]
 have gd:dk (dj lim).C (dj lim).Fr=[]:=by trivial
 cases ax with
 | none=>exact absurd O (λh=>by
  rcases h.2 with w|⟨_,w⟩
  ·rw[E]at w;exact h.1 w
  rw[gd]at w
  have:=Nat.pow_pos (n:=top) (show 0<2 by decide)
  simp only[Wb]at w;omega)
 | some y=>?_
 obtain⟨rfl,_,cE⟩:=O;have d:=F8 (a:=0) ag am am rfl (by rw[E]) cE;have ar:=ew.QT (lim:=lim) (pd:=pd) d.g.P ⟨by rw[d.q.2.1];exact congrArg (·.1) E,d.q.2.2⟩ d.b (d.z _ (Uw _) (by have:bE 1=64:=rfl;omega)) (by rw[d.u];rfl) (by have:=d.p;rw[gd]at this;simp only[Wb]at this;omega);have W:=ew.Cv (addr 1 y) (lim:=lim) (pd:=pd) ⟨H.1,by omega⟩ D;have au:an.lS (UK 256 an.oc) (bt 1 (addr 1 y) 0)=(j6 (addr 1 y),0,0):=(by trivial);dsimp only[pa];apply J [133,33];refine Ur rfl (λV=>absurd V (λh=>h rfl)) (λV=>?_);apply J [4,64,2,250,0];apply ao (an.n1 Q (UK 256 an.oc) (bt 1 (addr 1 y) 0) ⟨Wk,λp D=>by rw[List.eq_of_mem_replicate D];exact⟨Wf 0,(by decide:(0:Int)<=1048575)⟩⟩);apply J [10];rw[au];apply J [205,109];exact bn (gV,af,addr 1 y,N) trivial (ay (⟨Q,bF,j5 (dj lim) 0 1 (some y)⟩:fE) ⟨ar,W⟩ ai)
end Go.Proofs.YtglgidjhoncphaaGreatDoor
namespace Go.Proofs.YtglgidjhoncphaaGreatDoor.b5
open Go Go.QM
variable{Z:List Fn}{u:Fn}
theorem Pv{M:List Fn}(au:jO Z)(d:Z.Perm (u::M))(p:Int):((⟨u.id,p,u.dC,u.cd⟩:Fn)::M).Perm (gY Z u p):=
 ((w1 au d).symm.cons _).trans (List.perm_append_singleton _ _).symm
theorem As(hu:u∈Z)(p x:Int):fL (gY Z u p) x↔fL Z x:=by
 have:fL (gY Z u p) x↔fL (gZ Z u.id) x\/u.id=x:=by simp[gY,fL,or_and_right,exists_or]
 rw[this,uq];constructor;rintro(h|h);simp_all;exact⟨u,hu,h⟩;grind
theorem FC(au:jO Z)(hu:u∈Z)(p:Int):(gY Z u p).length=Z.length:=by grind[ur,gY]
theorem LR{S T:List Fn}(E:oi S)(H:oi T)(h:∀o i,(∃t∈S,io t=o/\t.id=i)↔∃t∈T,io t=o/\t.id=i):j3 S=j3 T:=by funext o;by_cases d:ks S o;obtain⟨t,w,rfl⟩:=d;obtain⟨u,hu,C,D⟩:=(h (io t) t.id).1 ⟨t,w,rfl,rfl⟩;grind[DN];rw[vQ d,vQ];rintro⟨u,hu,C⟩;obtain⟨t,w,D,_⟩:=(h o u.id).2 ⟨u,hu,C,rfl⟩;exact d ⟨t,w,D⟩
variable{last:Int}
theorem DL(h:cC Z last)(hu:u∈Z){p:Int}(D:0<=p/\p<u.id):j3 (gY Z u p)=j3 Z:=by refine LR (h.move hu D).no h.no λo i=>?_;constructor;rintro⟨t,d,w,C⟩;rcases Uq.1 d with d|d;grind[lO];rw[Up.1 d]at w C;exact⟨u,hu,w,C⟩;rintro⟨t,d,w,C⟩;by_cases e:t.id=u.id;have:=h.bo.inj d hu e;subst this;exact⟨_,Uq.2 (.inr (Up.2 rfl)),w,C⟩;exact⟨t,Uq.2 (.inl (lO.2 ⟨d,e⟩)),w,C⟩
theorem zR(au:jO Z)(hu:u∈Z){p x:Int}(d:p≠x)(w:u.par≠x):c1 (gY Z u p) x=c1 Z x:=by grind[gY,t8,zQ,sB]
theorem Ox(au:jO Z)(hu:u∈Z){p:Int}(d:p≠0)(w:u.par≠p):c1 (gY Z u p) p=c1 Z p++[u.id]:=by grind[gY,t8,EZ,sB]
def Aw(p:Int)(Z:List Fn)(k:Int):List Fn:=match rf Z k with
  | some u=>gY Z u p
  | none=>Z
def j7(L:List Fn)(id:Int):List Fn:=match rf L id with
  | some t=>(c1 L id).foldl (Aw t.par) (gZ L id)
  | none=>L
def z6(L:List Fn)(id:Int):Int:=if fL L id then 0 else 6
structure nC(L:List Fn)(last:Int)(t:Fn)(i:Nat)(Z:List Fn):Prop where
  eq:Z=((c1 L t.id).take i).foldl (Aw t.par) (gZ L t.id)
  eo:cC Z last
  no:¬fL Z t.id
  todo:∀j k,i<=j->(c1 L t.id)[j]? =some k->∃u∈Z,u.id=k/\u.par=t.id
  len:Z.length=(gZ L t.id).length
theorem nC.start{L:List Fn}(h:cC L last){t:Fn}(D:t∈L):nC L last t 0 (gZ L t.id) where
 eq:=rfl
 eo:=h.off _
 no:=λd=>(uq.1 d).2 rfl
 todo:=λj k _ C=>by obtain⟨_,u,hu,w,d⟩:=px.1 (Us C);have:=h.rg u hu;exact⟨u,lO.2 ⟨hu,by omega⟩,d,w⟩
 len:=rfl
theorem nC.next{L:List Fn}(h:cC L last){t:Fn}(P:t∈L){i:Nat}(d:nC L last t i Z)(hu:u∈Z)(C:(c1 L t.id)[i]? =some u.id)(N:0<=t.par/\t.par<u.id):nC L last t (i+1) (gY Z u t.par) where
 eq:=by rw[UF,C,Option.toList,List.foldl_append,<-d.eq,List.foldl_cons,List.foldl_nil,Aw,vX d.eo.bo hu]
 eo:=d.eo.move hu N
 no:=by rw[As hu];exact d.no
 todo:=λj k O D=>by obtain⟨v,hv,w,H⟩:=d.todo j k U D;refine⟨v,Uq.2 (.inl (lO.2 ⟨hv,λe=>?_⟩)),w,H⟩;obtain⟨E,ba⟩:=Uz.1 C;obtain⟨a2,bw⟩:=Uz.1 D;exact(List.pairwise_iff_getElem.1 (EX h.bo t.id)) i j E a2 U (by rw[ba,bw,<-w,e])
 len:=by rw[FC d.eo.bo hu];exact d.len
theorem nC.done{L:List Fn}(h:cC L last){t:Fn}(u:t∈L)(d:nC L last t (c1 L t.id).length Z):j7 L t.id=Z:=by have:=d.eq;rw[U9]at this;rw[j7,vX h.bo u,this]
theorem LX(b:Nat)(id x:Int):br 287 [aa x,ae b] (λF=>Rd F b (.cells #[aa id] 3 (0,0))) [] (.bool (decide (x=id))) []:=by apply aH Tryz.func287 Tryz.ntmps287;intro F d;apply J [9];haveI:fP F b (.cells #[aa id] 3 (0,0)):=⟨d⟩;apply J [223,82,262,65];exact jY
theorem LY(b:Nat)(A:Int->Nat)(L:List Fn)(last:Int)(t:Fn)(d:t∈L)(aK:L.length<=1000000):bI 225 [ae b,aa t.id] be [t6 b A L last] (λ_:Option Addr×Nat=>.agg (ints [t.dC,t.cd]).toArray) (λ_=>True) (λy=>[t6 b A (gZ L t.id) last,aj (A t.id) 219 [aa t.dC,aa t.cd,aa t.par,.slice y.1 (c1 L t.id).length y.2],aT 3 1 y.1 (c1 L t.id).length y.2 (ints (c1 L t.id))]):=by
 apply aH Tryz.func225 Tryz.ntmps225;intro F _;refine J [1,26,448] ?_;intro ba;refine J [0,539] ?_;intro bw;apply J [25];refine ab.open 2 rfl (λax au=>?_);obtain⟨ad,cap,aE,bt⟩:=ax;have av:=au;apply J [144];dsimp only at av⊢;have Q:=pl (A:=A) ⟨t,d,rfl⟩;have aQ:=ur av.bo d;have H:(gZ L t.id).length=L.length-1:=U
 have W:j3 L (t.dC,t.cd)=some (aa t.id):=DN av.no d;have aX:=av.rg t d;obtain⟨M,bG⟩:=fv d;have ag:=av.bo.perm bG.symm;apply J [389,541];refine cx [0,1,2,3,4,5,6] (aF.refl _) ?_;refine bU rfl rfl rfl (fu rfl) ?_;apply J [88,107,94,542];refine bU rfl rfl rfl (om rfl) ?_;apply J [75,7,7];rw[Q];apply J [36,173,54,0];apply ao (pn b aE bt L.length last (iz A L) t.par);apply J [145];by_cases N:fL L t.par;obtain⟨u,hu,ar⟩:=N;have V:iz A L t.par=some (.pointer (some ⟨A u.id,0,none⟩)):=by rw[<-ar];exact pl ⟨u,hu,rfl⟩
 rw[V];have an:u∈M:=cr;obtain⟨D,E⟩:=fv an;have aA:=(UI.1 ((E.map (·.id)).nodup_iff.1 (UI.1 ag).2)).1;have aC:=ua L u.id;have Z:∀x∈D,t.par≠x.id:=cr
 have P:∀x∈D,il A ad cap L x=il A ad cap (gZ L t.id) x:=λx w=>(by dsimp only[il];rw[sB av.bo d (Z x w)]);have O:∀x∈D,ik ad cap L x=ik ad cap (gZ L t.id) x:=λx w=>(by dsimp only[ik];rw[sB av.bo d (Z x w)]);have C:(u::D).Perm (gZ L t.id):=E.symm.trans (w1 av.bo bG).symm;apply J [159,205,254,122];refine VM (fR 5 rfl E) ?_;refine VM (fR 5 rfl E) ?_;apply J [36,173,220,417,0];refine aL (vM (ad u.id) (cap u.id) (c1 L u.id) 287 [ae ba] (λy=>decide (y=t.id)) (λF=>Rd F ba (.cells #[aa t.id] 3 (0,0))) (λy=>LX ba t.id y) U (λ_ h=>jb h) (λ_ _ h=>lr (jb h))) rfl (dY 0 rfl (eA _)) fP.rd ?_;intro _ _;apply J [307];rw[Ow];apply J [80,387,281,25];refine cx [0,1,2,3,4,-5] (eU (bN 9 rfl (a6 _))) ?_;apply J [51,94,257];refine lB 3 216 rfl (dM.int rfl) rfl rfl rfl ?_;refine J [108,7] ?_;refine cx [0,1,2,3,4,5,6,7,-8] (eE (bN 6 rfl (a6 _))) ?_;refine J [136,351,378,257,607,108,46] ?_;refine q rfl rfl (fM (vs:=ints [_,_]) 2 rfl rfl rfl rfl) ?_;apply J [20,482,233];exact Xq ⟨ad t.id,cap t.id⟩ [_] ⟨(e3 (n:=2) rfl rfl rfl rfl),trivial⟩ rfl trivial (ay ⟨ad,cap,aE,bt⟩ (av.off t.id) (bN 7 rfl (ca 2 rfl (by rw[DJ,Q,H];rfl) (ca 1 rfl (by rw[DM av.bo av.no d,W,H];rfl) (cU 1 3 u rfl rfl rfl P C (cU 1 1 u rfl rfl rfl O C (bp (bW (bp (a6 _))))))))));have V:=qm (A:=A) N;rw[V];have P:∀x∈M,il A ad cap L x=il A ad cap (gZ L t.id) x:=λx w=>(by dsimp only[il];rw[sB av.bo d (λe=>N ⟨x,bG.mem_iff.2 (by simp[w]),e.symm⟩)]);have O:∀x∈M,ik ad cap L x=ik ad cap (gZ L t.id) x:=λx w=>(by dsimp only[ik];rw[sB av.bo d (λe=>N ⟨x,bG.mem_iff.2 (by simp[w]),e.symm⟩)]);have C:=(w1 av.bo bG).symm;apply J [159,205,254,121];refine cx [0,1,2,3,4,-5] (aq (bN 7 rfl (a6 _))) ?_;apply J [51,94,257];refine lB 3 216 rfl (dM.int rfl) rfl rfl rfl ?_;refine J [108,7] ?_;refine cx [0,1,2,3,4,5,6,7,-8] (bW (cY (a6 _))) ?_;refine J [136,351,378,257,607,108,46] ?_;refine q rfl rfl (fM (vs:=ints [_,_]) 2 rfl rfl rfl rfl) ?_;apply J [20,482,233];exact Xq ⟨ad t.id,cap t.id⟩ [_] ⟨(e3 (n:=2) rfl rfl rfl rfl),trivial⟩ rfl trivial (ay ⟨ad,cap,aE,bt⟩ (av.off t.id) (cY (ca 2 rfl (by rw[DJ,Q,H];rfl) (ca 1 rfl (by rw[DM av.bo av.no d,W,H];rfl) (ow 4 rfl P C (ow 2 rfl O C (bp (bW (bp (a6 _))))))))))
theorem D1(b:Nat)(L:List Fn)(last:Int)(id:Int)(b6:L.length<=1000000):br 167 [ae b,aa id] be [jU b L last] (aa (z6 L id)) [jU b (j7 L id) last]:=by
 apply aH Tryz.func167 Tryz.ntmps167;intro F _;apply J [1];refine ab.open 0 rfl (λA _=>?_);apply J [1];refine ab.open 0 rfl (λbb a9=>?_);obtain⟨ad,cap,aE,bt⟩:=bb;have av:=a9;apply J [156];dsimp only at av⊢;by_cases O:fL L id;·have D:=pl (A:=A) O;have a5:z6 L id=0:=aw O;rw[a5];obtain⟨t,E,rfl⟩:=O;apply J [96];apply ao (pn b aE bt L.length last (iz A L) t.id);apply J [13];rw[D];apply J [55,76,106,189,106,189,203];refine VM (B:=ah [t6 b A L last,F]) (ay ⟨ad,cap,aE,bt⟩ av (aq (aq (aq (aq (aq (aq (a6 _)))))))) ?_;apply J [175];apply a7 (LY b A L last t E U);intro y _;apply J [19,25,126,220,174];clear D;have N:=av;clear av;have cf:=N.rg t E;have cc:=ur N.bo E;have bZ:=ua L t.id;have bY:=eb (c1 L t.id);refine UZ (ι:=Nat×List Fn) (λs=>nC L last t s.1 s.2/\s.1<=(c1 L t.id).length) (λs=>[(0,ae b),(5,.pointer (some ⟨(A t.id),0,none⟩)),(24,.slice y.1 (c1 L t.id).length y.2),(25,aa (c1 L t.id).length),(26,aa ((s.1:Nat):Int))]) (λs=>ah [t6 b A s.2 last,aj (A t.id) 219 [aa t.dC,aa t.cd,aa t.par,.slice y.1 (c1 L t.id).length y.2],aT 3 1 y.1 (c1 L t.id).length y.2 (ints (c1 L t.id)),F]) (λs=>(c1 L t.id).length-s.1) ⟨0,gZ L t.id⟩ ⟨nC.start N E,Uv _⟩ bu (aq (aq (aq (aq (a6 _))))) ?_;rintro⟨i,Z⟩ ⟨d,bx⟩ cm;dsimp only[ct]at d bx⊢;apply J [40];apply Ur rfl<;>intro b9;(·obtain⟨k,a0⟩:∃k,(c1 L t.id)[i]? =some k:=⟨_,Uo (show i<(c1 L t.id).length by omega)⟩;(have ce:0<(ints (c1 L t.id)).length:=by omega);obtain⟨u,hu,bD,bE⟩:=d.todo i k (Uw _) a0;subst bD;have cg:=d.eo.rg u hu;(have a4:0<=t.par/\t.par<u.id:=by omega);have hIn:=d.next N E hu a0 a4;obtain⟨M,bG⟩:=fv hu;have bm:=d.eo.bo.perm bG.symm;have D:=pl (A:=A) ⟨u,hu,rfl⟩;have W:=FC d.eo.bo hu t.par;have cl:=d.len;have bl:∀x∈Z,u.par≠x.id:=λx C e=>d.no ⟨x,C,by rw[<-e,bE]⟩;have aC:=Pv d.eo.bo bG t.par;have V:c1 (gY Z u t.par) u.id=c1 Z u.id:=zR d.eo.bo hu U U;refine J [187] ?_;refine q rfl rfl (dv rfl rfl (hN a0)) ?_;apply J [31];refine ab.open 0 rfl (λbb a9=>?_);obtain⟨ad,cap,aE,bt⟩:=bb;have av:=a9;apply J [144];dsimp only at av⊢;refine J [389,541,608,51,14,542] ?_;rw[D];apply J [185,88,370,91,514,75,37,173,54,0];apply ao (pn b aE bt Z.length last (iz A Z) t.par);apply J [145];by_cases a3:fL Z t.par;obtain⟨w,hw,a8⟩:=a3;(have aX:iz A Z t.par=some (.pointer (some ⟨A w.id,0,none⟩)):=by rw[<-a8];exact pl ⟨w,hw,rfl⟩);rw[aX];have cj:=d.eo.rg w hw;have bO:w∈M:=cr;obtain⟨P,Q⟩:=fv bO;have bP:=(UI.1 ((Q.map (·.id)).nodup_iff.1 (UI.1 bm).2)).1;have b5:=ua Z w.id;have a2:∀x∈P,x.id≠w.id/\c1 (gY Z u t.par) x.id=c1 Z x.id:=λx C=>(by(have ck:x∈M:=by grind);(have an:x∈Z:=by grind);(have bk:x.id≠w.id:=by simp_all);exact⟨bk,zR d.eo.bo hu (λe=>bk (by rw[a8,e])) (bl x an)⟩);(have bh:c1 (gY Z u t.par) w.id=c1 Z w.id++[u.id]:=by rw[a8];exact Ox d.eo.bo hu U U);have bd:(⟨u.id,t.par,u.dC,u.cd⟩::w::P:List Fn).Perm (gY Z u t.par):=(Q.symm.cons _).trans aC;(have ag:u.id≠w.id:=by omega);have bX:=eb (c1 Z w.id);apply J [159,205,254,122];refine VM (fR 5 rfl Q) ?_;refine VM (fR 6 rfl Q) ?_;refine J [36,173,220,63] ?_;intro b4;refine e rfl ?_;refine ap 8 rfl rfl rfl rfl rfl (UC rfl) (show _=ints [u.id]from rfl) rfl U gp ?_;intro ar au;refine J [80,387,281,60] ?_;have aQ:∀x∈P,il A ad cap Z x=il A (aP ad w.id ar) (aP cap w.id au) (gY Z u t.par) x:=λx C=>(by obtain⟨H,ax⟩:=a2 x C;dsimp only[il];rw[bM H,bM H,ax]);have aK:∀x∈P,ik ad cap Z x=ik (aP ad w.id ar) (aP cap w.id au) (gY Z u t.par) x:=λx C=>(by obtain⟨H,ax⟩:=a2 x C;dsimp only[ik];rw[bM H,bM H,ax]);exact⟨rfl,⟨i+1,gY Z u t.par⟩,⟨hIn,by dsimp only;omega⟩,cH,bu,(ay ⟨aP ad w.id ar,aP cap w.id au,aE,bt⟩ hIn.eo (eE (ca 5 rfl (by rw[DI (As hu t.par),W]) (ca 7 rfl (by rw[DL d.eo hu a4,W]) (tL 5 0 3 (⟨u.id,t.par,u.dC,u.cd⟩:Fn) w rfl rfl rfl (by dsimp only[il];rw[bM ag,bM ag,V];rfl) (by dsimp only[il];rw[ci,ci,bh,mp];rfl) aQ bd (tL 3 0 1 (⟨u.id,t.par,u.dC,u.cd⟩:Fn) w rfl rfl rfl (by dsimp only[ik];rw[bM ag,bM ag,V]) (by dsimp only[ik];rw[ci,ci,bh,mp,Ux,pv]) aK bd (bW (bW (bW (a6 _))))))))))⟩;have aX:=qm (A:=A) a3;rw[aX];have a2:∀x∈M,c1 (gY Z u t.par) x.id=c1 Z x.id:=λx C=>(by(have an:x∈Z:=by grind);exact zR d.eo.bo hu (λe=>a3 ⟨x,an,e.symm⟩) (bl x an));(have aQ:∀x∈M,il A ad cap Z x=il A ad cap (gY Z u t.par) x:=by grind);(have aK:∀x∈M,ik ad cap Z x=ik ad cap (gY Z u t.par) x:=by grind);refine J [159,205,254,116,111] ?_;exact⟨rfl,⟨i+1,gY Z u t.par⟩,⟨hIn,by dsimp only;omega⟩,cH,bu,(ay ⟨ad,cap,aE,bt⟩ hIn.eo (aq (ca 0 rfl (by rw[DI (As hu t.par),W]) (ca 4 rfl (by rw[DL d.eo hu a4,W]) (cU 0 2 (⟨u.id,t.par,u.dC,u.cd⟩:Fn) rfl rfl (by dsimp only[il];rw[V];rfl) aQ aC (cU 0 0 (⟨u.id,t.par,u.dC,u.cd⟩:Fn) rfl rfl (by dsimp only[ik];rw[V]) aK aC (aq (aq (aq (a6 _))))))))))⟩);(obtain rfl:i=(c1 L t.id).length:=by omega);rw[d.done N E];apply J [22,207];exact fa (ay A trivial (aq (bp (a6 _))))
 have D:=qm (A:=A) O;have a5:z6 L id=6:=al O;have bI:j7 L id=L:=by grind[j7,DY]
 rw[a5,bI];apply J [96];apply ao (pn b aE bt L.length last (iz A L) id);apply J [13];rw[D];apply J [55,76,106,189,106,348,45];exact Iw
end Go.Proofs.YtglgidjhoncphaaGreatDoor.b5
namespace Go.Proofs.YtglgidjhoncphaaGreatDoor
open Go Go.QM
variable [dL] [fN]
structure cD where
  A:bP
  L:List b5.Fn
  last:Int
structure b1 where
  aV:Nat
  bH:Nat
  Ug:aV=fN.aV:=by first|assumption|rfl
def cT(aB af top:Nat)(X:cD):ax:=fj λy:b1=>pure' True (ah [aj aB 148 [ae y.aV,ae y.bH],hO y.aV af top X.A,b5.jU y.bH X.L X.last])
variable{top:Nat}
theorem hl{aB af:Nat}{X:cD}:∀u,cT aB af top X u->cq X.A/\∃S,cn top X.A S:=by rintro u ⟨y,_,a,b,d,rfl,C,w,c2,d2,rfl,⟨z,D,_⟩,_⟩;grind
def c3(A:bP)(h:Int):Nat:=(bS A.l h 2).1.a.toNat
def bV(A:bP)(h:Int):Int:=(bS A.l h 2).1.f
def bD(h:Int):Nat:=(h %256).toNat
variable{A:bP}
theorem pR{S:cQ}(W:cn top A S){h:Int}(P:0<=h)(e:(bS A.l h 2).2=0):cB A.l (bD h) 1 (bt 2 (c3 A h) (bV A h))/\∃g,h=g*256+(bD h:Int)/\A.l[bD h]? =some ⟨bt 2 (c3 A h) (bV A h),1,g⟩:=by
 obtain⟨i,p,Z,d,w,ag,Q,V,C,u⟩:=iY P e;have u:=u.resolve_left am;obtain⟨c,a,f,O,_,_⟩:=W.obj i 1 p.o (.inl rfl) ⟨p.c0,by rw[<-w];exact d⟩;have E:=uo O u;obtain⟨o,s,g⟩:=p;dsimp only at*;subst w;subst E;have D:bD h=i:=V;have H:c3 A h=a:=by rw[c3,C];rfl
 have N:bV A h=f:=by rw[bV,C];rfl
 rw[D,H,N];exact⟨⟨g,d⟩,g,Q,d⟩
def ga(A:bP)(i:Nat)(s:Int):Nat:=if 0<=s/\s<256 then A.aK i s.toNat else 0
theorem kV{i s:Nat}(h:s<256):ga A i (s:Int)=A.aK i s:=aw ⟨by omega,by omega⟩
theorem LJ{i:Nat}{s:Int}(h:¬(0<=s/\s<256)):ga A i s=0:=al h
def iS(w:Nat):Nat:=w %4294967296-1
def kU(w:Nat):Nat:=w/4294967296
theorem j1{h r:Nat}(d:h<4294967295):iS (dG h r)=h/\kU (dG h r)=r:=by rw[iS,kU,dG];omega
theorem Qf{h r:Nat}(d:h<4294967295):dG h r&&&4294967295=h+1:=by rw[show(4294967295:Nat)=2^32-1 from rfl,Nat.and_two_pow_sub_one_eq_mod,dG];omega
theorem Qe{h r:Nat}(d:h<4294967295):dG h r/2^32=r:=by rw[dG];omega
theorem Qg{h r:Nat}(d:h<4294967295):(h+1)|||(r*4294967296)=dG h r:=by have:=Nat.two_pow_add_eq_or_of_lt (i:=32) (b:=h+1) U r;grind[dG]
theorem BP(h r:Nat)(d:h<4294967295)(hr:r<=15):br 166 [.agg #[aS h,aa r]] be [] (bg (dG h r:Int)) []:=by apply aH Tryz.func166 Tryz.ntmps166;intro F _;refine J [197,240] ?_;intro ba;apply J [27,110];refine q rfl rfl (conv .u32 .u64 rfl rfl rfl (pW U)) ?_;refine q rfl rfl (QM.mD (b:=1) rfl rfl rfl U) ?_;refine J [57,311] ?_;refine q rfl rfl (uI (n:=32) (c:=r*4294967296) rfl rfl am U) ?_;refine q rfl rfl (pH rfl rfl U U (Qg d)) ?_;apply J [30];exact dp
variable(s:Int)
theorem rX:br 72 [aa s] be [] (.bool (decide (0<=s/\s<256))) []:=by apply aH Tryz.func72 Tryz.ntmps72;intro F _;apply J [9,223,235];refine aO.split 5 rfl (λd=>?_) (λd=>?_);have d:=ds d;apply J [200,130];exact rZ;have d:=dV d;apply J [49,70];exact r0
theorem xW:br 73 [aa s] be [] (.bool (decide (0<s/\s<=15))) []:=by apply aH Tryz.func73 Tryz.ntmps73;intro F _;apply J [9,223,165,18];refine aO.split 5 rfl (λd=>?_) (λd=>?_);have d:=ds d;apply J [16,261,130];exact rZ;have d:=dV d;apply J [49,70];exact r0
theorem rW:br 137 [aa s] be [] (.bool (decide (s<128))) []:=by apply aH Tryz.func137 Tryz.ntmps137;intro F _;apply J [9,67,353,65];exact jY
theorem Tz(k:Int):br 194 [aa k] be [] (.bool (decide (k=8\/1<=k/\k<=5))) []:=by apply aH Tryz.func194 Tryz.ntmps194;intro F _;apply J [9];by_cases u:k=8;subst u;refine J [223,193,480,97,192,319,130] ?_;exact jY;apply J [223,193];refine UG 5 rfl (c:=false) (c4 u) ?_;apply J [16,310,244];refine aO.split 8 rfl (λd=>?_) (λd=>?_);have d:=ds d;apply J [16,261,291,70];exact rZ;have d:=dV d;apply J [49,335,70];exact r0
theorem ph(aV af d bF:Nat):br 29 [ae aV] be [aj aV 135 [ae af,ae d,ae bF]] (ae af) [aj aV 135 [ae af,ae d,ae bF]]:=by apply aH Tryz.func29 Tryz.ntmps29;intro F _;apply J [1,131,41,39,109];exact hI
theorem oV(aB af top:Nat)(X:cD)(h:Int)(D:0<=h/\h<=4294967295)(E:(bS X.A.l h 2).2=0):bI 64 [ae aB,aS h] c8 [cT aB af top X] (λaU:Nat=>.tuple #[.agg #[ae aU,aS h,aa (bV X.A h)],aa 0]) (λ_=>True) (λaU=>[aj aU 163 [ae af,aa (bV X.A h),aa (c3 X.A h:Int)],cT aB af top X]):=by apply aH Tryz.func64 Tryz.ntmps64;intro F H;apply J [1];haveI:cw F:=⟨H⟩;apply ab.open 0 rfl;rintro⟨aV,bH⟩-;apply J [85];dsimp only;refine J [26,572] ?_;intro bw;apply J [31,41,39,28];apply ao (jz aV af top X.A h D 2);refine J [10,230] ?_;intro b4;apply J [115,33];refine Ur rfl (λC=>absurd C (λh=>h E)) (λC=>?_);apply ab.open 1 rfl;rintro⟨w,bF,S⟩ ⟨d,u⟩;apply J [79];dsimp only at d u⊢;obtain⟨O,Q⟩:=pR d D.1 E;obtain⟨g9,W,Z⟩:=Q;have N:=d.P;have V:=(d.hH _ _ _ O).1.tk;have bQ:(bS X.A.l h 2).1=bt 2 (c3 X.A h) (bV X.A h):=(by grind[iY,bD]);rw[bQ];apply J [42];refine cx [0,1,2,3,5,6,7,8,10,11,12,-4,-9,13,-14,15] (show aF (ah _) (ah [aj b4 60 (ints (bt 2 (c3 X.A h) (bV X.A h)).l),aj aB 148 [ae aV,ae bH]])from ai) ?_;apply J [51,137,180,14,137,11];apply ao (ph aV af w bF);refine J [255,43] ?_;apply a7 (Sr af top (bV X.A h) (c3 X.A h) S N V);intro aU _;refine J [285] ?_;refine bU rfl rfl rfl (eh (cs:=[.pointer _,.int _ _,.int _ _]) rfl) ?_;refine J [178,147] ?_;exact Xq aU [_,_] ⟨(e3 (n:=3) rfl rfl rfl rfl),rfl,trivial⟩ rfl trivial (bW (ay (b1.mk aV bH:b1) trivial (bN 6 rfl (ay (⟨w,bF,S⟩:fE) ⟨d,u⟩ ai))))
theorem qV(aB af top:Nat)(X:cD)(h:Int)(u:0<=h/\h<=4294967295)(w:(bS X.A.l h 2).2≠0):br 64 [ae aB,aS h] be [cT aB af top X] (.tuple #[.agg #[.pointer none,aS 0,aa 0],aa (bS X.A.l h 2).2]) [cT aB af top X]:=by apply aH Tryz.func64 Tryz.ntmps64;intro F _;refine J [1,297] ?_;rintro⟨aV,bH⟩-;apply J [85];dsimp only;refine J [26,572] ?_;intro C;apply J [31,41,39,28];apply ao (jz aV af top X.A h u 2);refine J [10,230] ?_;intro D;apply J [115,33];refine Ur rfl (λd=>?_) (λd=>absurd (w) d);apply J [24,591,229,127];exact Xq () [_,_] ⟨(e3 (n:=3) rfl rfl rfl rfl),rfl,trivial⟩ rfl trivial (ay (b1.mk aV bH:b1) trivial ai)
theorem SI:br 77 [aa s] be [] (.bool (decide (0<=s/\s<256))) []:=by apply aH Tryz.func77 Tryz.ntmps77;intro F _;apply J [9,223,235];refine aO.split 5 rfl (λd=>?_) (λd=>?_);have d:=ds d;apply J [200,130];exact rZ;have d:=dV d;apply J [49,70];exact r0
theorem Sz(aU af:Nat)(d:Int)(t:Nat)(s:Int)(hs:¬(0<=s/\s<256)):br 30 [ae aU,aa s] be [aj aU 163 [ae af,aa d,aa t]] (.tuple #[bg 0,bg 0]) [aj aU 163 [ae af,aa d,aa t]]:=by apply aH Tryz.func30 Tryz.ntmps30;intro F _;apply J [1,24,219,217,282];apply ao (SI s);apply J [6];rw[c4 hs];apply J [324,50,48,104,134,83];exact hJ ai
theorem ob(aB af top:Nat)(X:cD)(aU:Nat)(h:Int)(Z:0<=h/\h<=4294967295)(ar:(bS X.A.l h 2).2=0)(s:Int):br 65 [.agg #[ae aU,aS h,aa (bV X.A h)],aa s] be [aj aU 163 [ae af,aa (bV X.A h),aa (c3 X.A h:Int)],cT aB af top X] (.tuple #[.agg #[aS (if(ga X.A (bD h) s)=0 then 0 else(iS (ga X.A (bD h) s):Int)),aa (if(ga X.A (bD h) s)=0 then 0 else(kU (ga X.A (bD h) s):Int))],.bool (decide ((ga X.A (bD h) s)≠0))]) [aj aU 163 [ae af,aa (bV X.A h),aa (c3 X.A h:Int)],cT aB af top X]:=by
 apply aH Tryz.func65 Tryz.ntmps65;intro F _;apply J [12];by_cases E:0<=s/\s<256;obtain⟨en,rfl⟩:∃k:Nat,s=(k:Int):=⟨s.toNat,(Vj E.1).symm⟩;have H:en<256:=U
 rw[kV H];apply ab.open 1 rfl;rintro⟨aV,bH⟩-;apply J [84];dsimp only;apply ab.open 1 rfl;rintro⟨N,bF,S⟩ ⟨u,w⟩;apply J [144];dsimp only at u w⊢;obtain⟨ag,aQ⟩:=pR u Z.1 ar;obtain⟨W,D⟩:=u.hH _ _ _ ag;have D:=(D en H).1;refine J [26,313] ?_;intro aC;refine J [0,245] ?_;intro gV;apply J [47,110,28];apply ao (rN aU af top (bV X.A h) (c3 X.A h) S u.P W en H);apply J [145];rw[D];apply J [133,208];apply Ur rfl<;>intro d;have d:X.A.aK (bD h) en=0:=U
 rw[d];apply J [344,274,83];exact Xq () [_,_] ⟨(e3 (n:=2) rfl rfl rfl rfl),rfl,trivial⟩ rfl trivial (bW (ay (b1.mk aV bH:b1) trivial (bN 6 rfl (ay (⟨N,bF,S⟩:fE) ⟨u,w⟩ ai))));have d:X.A.aK (bD h) en≠0:=U
 obtain⟨_,_,x,r,hw,aX,an,C,_⟩:=w.aK _ _ d;obtain⟨Q,V⟩:=j1 (r:=r) C;rw[hw]at d⊢;rw[Q,V,al d,al d,cR d];have O:=jG C an;apply J [4,29];refine q rfl rfl (kO (b:=4294967295) rfl rfl O.1 am (Qf C)) ?_;refine q rfl rfl (conv .u64 .u32 rfl rfl rfl (pX U U)) ?_;refine q rfl rfl (bz.to (v:=(x:Int)) (sub rfl rfl (pX U U)) U) ?_;apply J [2];refine q rfl rfl (jK (n:=32) rfl rfl O.1 (Qe C)) ?_;refine J [312,247,68,65] ?_;exact Xq () [_,_] ⟨(e3 (n:=2) rfl rfl rfl rfl),rfl,trivial⟩ rfl trivial (bW (ay (b1.mk aV bH:b1) trivial (bN 6 rfl (ay (⟨N,bF,S⟩:fE) ⟨u,w⟩ ai))));rw[show ga X.A (bD h) s=0 from LJ E];refine J [26,313] ?_;intro au;refine J [0,245] ?_;intro ax;apply J [47,110,28];apply ao (Sz aU af (bV X.A h) (c3 X.A h) s E);apply J [10,133,29,262,122,344,274,83];exact nz
theorem MQ{S u w:cQ}{c a:Nat}(g:fX top S u hR hR)(k:fX top u w (ft c a) (ft c a))(au:¬c6 S c a):fX top S w hR hR:=by
 have E:∀d b,c6 S d b->¬ft c a d b:=λd b h=>by rintro⟨rfl,rfl⟩;exact au h
 exact⟨k.P,λd b h _=>k.p d b (g.p d b h λh=>h) (E d b h),λd b h _ o C D=>(k.m d b (g.p d b h λh=>h) (E d b h) o C D).trans (g.m d b h (λh=>h) o C D),λ_ _ h=>h⟩
theorem Bb{i s:Nat}(hs:s<256)(u:A.aK i s=0):lT A i s↔jV (A.aK i) (s/16)≠0:=by rw[jV,Bl];constructor;rintro⟨r,D,d,_,w⟩;exact⟨r %16,by omega,by rw[show 16*(s/16)+r %16=r by omega];exact w⟩;rintro⟨k,C,d⟩;exact⟨16*(s/16)+k,by omega,by omega,λe=>d (by rw[e];exact u),d⟩
theorem MY{many aD i:Nat}{L L':List cf}(g:lk many L L' aD i):∃(k:Nat) (f:Nat->Bool),L'[k]? =some ⟨aD,f⟩/\f i=true:=by cases g with|old A B f w d u C=>exact⟨A.length,e5 f i,by rw[d];simp,by rw[zh,u];rfl⟩|new A B w d u C D E=>exact⟨A.length,λj=>decide (j=0),by rw[d];simp,by rw[u];rfl⟩
def q1(top:Nat)(A:bP)(f:Int):Prop:=(aC.db A.Q f 48).2≠0\/(aC.db (aC.db A.Q f 48).1 f 256).2≠0\/2^top<=A.np+1
def ru(A:bP)(f:Int)(Q:List aC.bY):Prop:=Q=(aC.db A.Q f 48).1\/Q=(aC.db (aC.db A.Q f 48).1 f 256).1
def vc(top:Nat)(A:bP)(i s w:Nat)(f:Int)(y:Int×bP):Prop:=(y.1=0/\∃Q,y.2=A.lay i s w Q/\ru A f Q)\/(y.1≠0/\y.2={A with np:=A.np+2}/\q1 top A f)
section
variable {top : Nat} {A : bP} {S ck fZ : cQ} {i a s w : Nat} {f : Int}
def pc(A:bP)(w:Nat):Prop:=∃h r:Nat,w=dG h r/\1<=r/\r<=15/\h<4294967295/\(an.cP A.l h).2=0
theorem cq.zV(h:cq A)(u:cB A.l i 1 (bt 2 a f))(hs:s<256)(d:A.aK i s=0)(hw:pc A w)(hr:lT A i s)(D:(aC.db A.Q f 48).2=0)(O:A.np+2<=1000000):cq (A.lay i s w (aC.db A.Q f 48).1):=by have E:w≠0:=(by obtain⟨x,r,rfl,_,H,N,_⟩:=hw;grind[jG]);refine h.tK u hs (jy.hz h.d8 D) ?_ (.inr hw) U;have:=Bt (e:=A.aK i) (e':=fc A.aK i s w i) hs d (by rw[ia];exact E) λr C=>kH C;grind[sh,Bb]
theorem cq.zU(h:cq A)(C:cB A.l i 1 (bt 2 a f))(hs:s<256)(d:A.aK i s=0)(hw:pc A w)(hr:¬lT A i s)(E:(aC.db A.Q f 48).2=0)(H:(aC.db (aC.db A.Q f 48).1 f 256).2=0)(V:A.np+2<=1000000):cq (A.lay i s w (aC.db (aC.db A.Q f 48).1 f 256).1):=by have N:w≠0:=(by obtain⟨x,r,rfl,_,O,P,_⟩:=hw;grind[jG]);have u:=jy.hz h.d8 E;refine h.tK C hs (u.trans (jy.hz u.d8 H)) ?_ (.inr hw) U;have:=Bt (e:=A.aK i) (e':=fc A.aK i s w i) hs d (by rw[ia];exact N) λr D=>kH D;rw[show jV (A.aK i) (s/16)=0 from Vm λh=>hr ((Bb hs d).2 h),yt]at this;omega
theorem cq.xN(h:cq A)(d:A.np+2<=1000000):cq {A with np:=A.np+2}:=⟨h.ok,h.d8,h.rt,h.ac,h.cW,h.m9,h.aK,h.hz,h.mj,h.n2,h.n4,h.mR,h.pd,by have:=h.bd;dsimp only;omega⟩
theorem cn.xN(h:cn top A S):cn top {A with np:=A.np+2} S:=h.mL (wa h.P rfl rfl rfl) rfl rfl rfl rfl h.Q (λ_ _ _ _ _ _ _=>⟨λh=>h,λh=>h.elim⟩) (λ_=>⟨λh=>h,λh=>h⟩) rfl (VN h.fV (UH _ _))
theorem cn.OL(D:cq A)(h:cn top A S){y:Nat×Nat×List cf}(g:iO top S 6 y)(N:(aC.db S.Q f 48).2=0)(e:ck=j5 S f 6 (some y)){L':List cf}(k:jN top ck 6 y.1 y.2.1 L')(E:fZ=⟨(aC.ek ck.Q f (cc 6:Int)).1,ck.bx,dF ck.C 6 L',ck.Fr,ck.m⟩):cn top {A with np:=A.np+2} fZ:=by
 obtain⟨g1,g2⟩:=v8 (a8:=ck) h.P ii g ry ry (λo D=>by rw[e];exact u4 D);have au:¬c6 S 6 (addr 6 y):=λk=>g.ul h.P ii k ⟨rfl,rfl⟩;have g3:fX top ck fZ (ft 6 (addr 6 y)) (ft 6 (addr 6 y)):=by grind[fX,addr,v7,ii]
 have H:((cc 6:Nat):Int)=48:=rfl;refine h.mL (MQ g1 g3 au) rfl rfl rfl rfl ?_ (λ_ _ _ _ _ _ _=>⟨λh=>h,λh=>h.elim⟩) (λ_=>⟨λh=>h,λh=>h⟩) ?_ ?_;have u:ck.Q=(aC.db S.Q f 48).1:=by rw[e];rfl
 have d:ck.bx=S.bx:=by rw[e];rfl
 rw[E];dsimp only;rw[u,d,H,h.Q.1,sT D.d8 (by rw[<-h.Q.1];exact N)];exact⟨rfl,h.Q.2⟩;have u:=Ib ii g 6;have d:=Ia g1.P ii k 6;rw[aw rfl]at u d;have w:ck.C=dF S.C 6 y.2.2:=by rw[e];rfl
 simp_all;have u:=g.len;have d:=k.len;have w:ck.C=dF S.C 6 y.2.2/\ck.Fr=S.Fr:=by rw[e];exact⟨rfl,rfl⟩
 rw[E];dsimp only;rw[w.1,w.2]at d⊢;have:=h.fV;omega
end
theorem xV(aB af top:Nat)(X:cD)(aU:Nat)(h:Int)(b6:0<=h/\h<=4294967295)(cd:(bS X.A.l h 2).2=0)(s:Nat)(hs:s<256)(V:X.A.aK (bD h) s=0)(x r:Nat)(br:x<4294967295)(hr:1<=r/\r<=15)(cn:(an.cP X.A.l x).2=0)(ax:X.A.np+2<=1000000):bI 138 [ae aB,.agg #[ae aU,aS h,aa (bV X.A h)],aa s,.agg #[aS x,aa r]] c8 [aj aU 163 [ae af,aa (bV X.A h),aa (c3 X.A h:Int)],cT aB af top X] (λy:Int×bP=>aa y.1) (λy=>vc top X.A (bD h) s (dG x r) (bV X.A h) y) (λy=>[aj aU 163 [ae af,aa (bV X.A h),aa (c3 X.A h:Int)],cT aB af top ⟨y.2,X.L,X.last⟩]):=by
 apply aH Tryz.func138 Tryz.ntmps138;intro F bX;apply J [12];haveI:cw F:=⟨bX⟩;apply ab.open 1 rfl;rintro⟨aV,bH⟩-;apply J [84];dsimp only;apply ab.open 1 rfl;rintro⟨Z,bF,S⟩ ⟨d,u⟩;apply J [144];dsimp only at d u⊢;obtain⟨O,cm⟩:=pR d b6.1 cd;have cq:2^top<=128:=Uu (n:=2) am d.P.fW.2;have cj:cc 6=48:=rfl;have a5:((cc 6:Nat):Int)=48:=rfl;have D:=jG br hr.2;have bk:pc X.A (dG x r):=by grind[pc]
 refine J [26,313] ?_;intro ba;refine J [0,240] ?_;intro bw;apply J [31];refine cx [0,1,2,3,5,6,-4,-7,8,9,10,11,12] (show aF (ah _) (ah [aj ba 150 [ae aU,aS h,aa (bV X.A h)],aj aB 148 [ae aV,ae bH]])from ai) ?_;apply J [51,137,11];apply ao (ph aV af Z bF);refine J [246,43] ?_;apply a7 (uu af top S (bV X.A h) 6 ii);intro⟨cg,cp⟩ ar;refine J [285] ?_;cases cg with|none=>?_|some y=>?_
 dsimp only[pa,j5];have aQ:q1 top X.A (bV X.A h):=(by have bK:=ar.2;rw[a5,d.Q.1]at bK;rcases bK with bK|⟨_,bK⟩;exact .inl (by rw[<-bK];exact ar.1);exact .inr (.inr (VN bK (Nat.le_succ_of_le d.fV))));have H:=u.xN ax;have N:=d.xN;apply J [253,283,271,7,33];refine Ur rfl (λa9=>?_) (λa9=>absurd (ar.1) a9);apply J [124];exact bn (cp,{X.A with np:=X.A.np+2}) (.inr ⟨ar.1,rfl,aQ⟩) (bN 8 rfl (ay (b1.mk aV bH:b1) trivial (bN 6 rfl (ay (⟨Z,bF,S⟩:fE) ⟨N,H⟩ ai))));obtain⟨rfl,bl,cE⟩:=ar;obtain⟨ck,w⟩:∃ck:cQ,ck=j5 S (bV X.A h) 6 (some y):=⟨_,rfl⟩;rw[<-w];dsimp only[pa];obtain⟨g1,cf,ct,t1,t2,t3⟩:=d.node O cE w;have co:=c6.bd g1.P cf;have aX:ck.Q=(aC.db X.A.Q (bV X.A h) 48).1:=by rw[w,<-d.Q.1];rfl
 have a0:(aC.db X.A.Q (bV X.A h) 48).2=0:=by rw[<-d.Q.1];exact bl
 apply J [253,283,271,7,33];refine Ur rfl (λbb=>absurd bb (λh=>h rfl)) (λbb=>?_);apply J [42,7];refine cx [0,1,2,3,5,6,-4,-7,8] (show aF (ah _) (ah [aj ba 150 [ae aU,aS h,aa (bV X.A h)],aj bw 39 [aS x,aa r]])from ai) ?_;apply J [107,14,249,14];refine bU rfl rfl rfl (conv .i64 .u64 rfl rfl rfl (pW U)) ?_;refine dA rfl rfl ?_;apply ao (BP x r br hr.2);refine J [285] ?_;by_cases W:bm ck.m (c3 X.A h) (s/16)=0;have a2:¬lT X.A (bD h) s:=λbK=>(d.GO O hs V).2 bK (by rw[<-t2 _ U];exact W);have a3:((cc 7:Nat):Int)=256:=rfl;refine dA rfl rfl ?_;apply a7 (SQ aU af top (bV X.A h) (c3 X.A h) ck g1.P t1 s hs (dG x r) (addr 6 y) D.1 U D.2 W);intro⟨z9,cp⟩ au;refine J [285] ?_;cases z9 with|none=>?_|some z=>?_
 dsimp only[uH];obtain⟨ce,f6,b9,b5⟩:=MY cE.mN;have bO:ck.C 6=y.2.2:=by rw[w];exact jv S.C 6 y.2.2
 have ca:(aC.ek ck.Q (bV X.A h) (cc 6:Int)).2=0:=by rw[aX,a5,sT u.d8 a0]
 have aQ:q1 top X.A (bV X.A h):=(by have bK:=au.2;rw[a3,aX]at bK;rcases bK with bK|⟨_,bK⟩;exact .inr (.inl (by rw[<-bK];exact au.1));refine .inr (.inr (VN bK ?_));have cl:=cE.len;(have a8:ck.C=dF S.C 6 y.2.2/\ck.Fr=S.Fr:=by rw[w];exact⟨rfl,rfl⟩);rw[a8.1,a8.2];have:=d.fV;omega);apply J [179,33];refine Ur rfl (λbh=>?_) (λbh=>absurd (au.1) bh);refine cx [0,1,2,3,5,6,7,-4,-8] (show aF (ah _) (ah [aj ba 150 [ae aU,aS h,aa (bV X.A h)],aj aB 148 [ae aV,ae bH]])from ai) ?_;apply J [51,137,237];apply ao (ph aV af Z bF);refine J [246,43] ?_;apply a7 (uv af top ck 6 ii ce y.1 y.2.1 f6 (by rw[bO];exact b9) b5 (bV X.A h) ca);intro bE bY;refine J [285] ?_;obtain⟨fZ,a4⟩:∃fZ:cQ,fZ=⟨(aC.ek ck.Q (bV X.A h) (cc 6:Int)).1,ck.bx,dF ck.C 6 bE,ck.Fr,ck.m⟩:=⟨_,rfl⟩;rw[<-a4];have N:=d.OL u cE bl w bY a4;have H:=u.xN ax;apply J [75,132];exact bn (cp,{X.A with np:=X.A.np+2}) (.inr ⟨au.1,rfl,aQ⟩) (bp (ay (b1.mk aV bH:b1) trivial (bN 6 rfl (ay (⟨Z,bF,fZ⟩:fE) ⟨N,H⟩ ai))));obtain⟨rfl,bo,bZ⟩:=au;dsimp only;obtain⟨E,ag⟩:∃E:cQ,E=uH ck (bV X.A h) (c3 X.A h) s (dG x r) (addr 6 y) (some z):=⟨_,rfl⟩;rw[<-ag];rw[aX,a3]at bo;have N:=d.zU u.ok O hs V D.2 D.1 cE w W bZ ag;have H:=u.zU O hs V bk a2 a0 bo ax;apply J [179,33];refine Ur rfl (λbe=>absurd be (λh=>h rfl)) (λbe=>?_);apply J [4,132];exact bn (0,X.A.lay (bD h) s (dG x r) (aC.db (aC.db X.A.Q (bV X.A h) 48).1 (bV X.A h) 256).1) (.inl ⟨rfl,_,rfl,.inr rfl⟩) (aq (ay (b1.mk aV bH:b1) trivial (bN 6 rfl (ay (⟨Z,bF,E⟩:fE) ⟨N,H⟩ ai))));have a2:lT X.A (bD h) s:=(d.GO O hs V).1 (by rw[<-t2 _ U];exact W);obtain⟨E,ag⟩:∃E:cQ,E=⟨ck.Q,ck.bx,ck.C,ck.Fr,du ck.m (bm ck.m (c3 X.A h) (s/16)+s %16*16) [dG x r,addr 6 y]⟩:=⟨_,rfl⟩;have N:=d.zV u.ok O hs V D.2 D.1 cE w W ag;have H:=u.zV O hs V bk a2 a0 ax;refine dA rfl rfl ?_;apply ao (BC aU af top (bV X.A h) (c3 X.A h) ck g1.P t1 s hs (dG x r) (addr 6 y) D.1 U D.2 W);refine J [285] ?_;rw[<-ag];apply J [179,211,132];exact bn (0,X.A.lay (bD h) s (dG x r) (aC.db X.A.Q (bV X.A h) 48).1) (.inl ⟨rfl,_,rfl,.inl rfl⟩) (aq (ay (b1.mk aV bH:b1) trivial (bN 6 rfl (ay (⟨Z,bF,E⟩:fE) ⟨N,H⟩ ai))))
section
variable {A : bP} {i a s : Nat} {f : Int}
theorem cq.Hy(h:cq A)(u:cB A.l i 1 (bt 2 a f)):aC.df A.Q f/\(kF (A.aK i):Int)<=aC.f8 A.Q f:=by have d:=(h.ac i 1 _ (.inl rfl) u).1;refine⟨d,?_⟩;rw[show(bt 2 a f).f=f from rfl]at d;rw[h.hz f d];have w:=uK (f:=h0 A f) (u.lt h.ok);rw[nL u f,aw (show fl 1/\(bt 2 a f).f=f from⟨.inl rfl,rfl⟩),aw (show(1:Int)=1/\(bt 2 a f).k=2 from⟨rfl,rfl⟩)]at w;grind[pe]
theorem Hx(hs:s<256)(d:A.aK i s≠0):kF (A.aK i)=kF (fc A.aK i s 0 i)+48+256*(1-ba (jV (fc A.aK i s 0 i) (s/16))):=
 Bt (e:=fc A.aK i s 0 i) (e':=A.aK i) hs (ia ..) d λr u=>(kH u).symm
theorem GS(hs:s<256):lT A i s↔jV (fc A.aK i s 0 i) (s/16)≠0:=by have u:=Bb (A:={A with aK:=fc A.aK i s 0}) (i:=i) hs (ia ..);rw[<-u,lT,lT];constructor;rintro⟨r,a,b,c,d⟩;exact⟨r,a,b,c,by dsimp only;rw[kH c];exact d⟩;grind[kH]
theorem cq.yv(h:cq A)(d:cB A.l i 1 (bt 2 a f))(hs:s<256)(u:A.aK i s≠0)(hr:lT A i s):(aC.ek A.Q f 48).2=0/\cq (A.bare i s (aC.ek A.Q f 48).1):=by obtain⟨w,E⟩:=h.Hy d;have C:=Hx hs u;rw[sh ((GS hs).1 hr)]at C;obtain⟨bO,D⟩:=jy.rG h.d8 w (n:=48) am U;exact⟨bO,h.tK d hs D U (.inl rfl) ⟨Uw _,h.bd.2.2⟩⟩
theorem cq.yu(h:cq A)(C:cB A.l i 1 (bt 2 a f))(hs:s<256)(D:A.aK i s≠0)(hr:¬lT A i s):(aC.ek A.Q f 256).2=0/\(aC.ek (aC.ek A.Q f 256).1 f 48).2=0/\cq (A.bare i s (aC.ek (aC.ek A.Q f 256).1 f 48).1):=by obtain⟨u,O⟩:=h.Hy C;have E:=Hx hs D;rw[show jV (fc A.aK i s 0 i) (s/16)=0 from Vm λh=>hr ((GS hs).2 h),yt]at E;obtain⟨bO,d⟩:=jy.rG h.d8 u (n:=256) am U;have w:=d.fJ _ u;rw[aw rfl]at w;obtain⟨H,N⟩:=jy.rG d.d8 ((d.has _).2 u) (n:=48) am (by rw[w];omega);exact⟨bO,H,h.tK C hs (d.trans N) U (.inl rfl) ⟨Uw _,h.bd.2.2⟩⟩
end
theorem BN(aB af top:Nat)(X:cD)(aU:Nat)(h:Int)(bo:0<=h/\h<=4294967295)(b5:(bS X.A.l h 2).2=0)(s:Nat)(hs:s<256)(D:X.A.aK (bD h) s≠0):bI 168 [ae aB,.agg #[ae aU,aS h,aa (bV X.A h)],aa s] c8 [aj aU 163 [ae af,aa (bV X.A h),aa (c3 X.A h:Int)],cT aB af top X] (λ_:bP=>.tuple #[]) (λy=>∃Q,y=X.A.bare (bD h) s Q) (λy=>[aj aU 163 [ae af,aa (bV X.A h),aa (c3 X.A h:Int)],cT aB af top ⟨y,X.L,X.last⟩]):=by
 apply aH Tryz.func168 Tryz.ntmps168;intro F be;apply J [12];haveI:cw F:=⟨be⟩;apply ab.open 1 rfl;rintro⟨aV,bH⟩-;apply J [84];dsimp only;apply ab.open 1 rfl;rintro⟨Z,bF,S⟩ ⟨u,O⟩;apply J [144];dsimp only at u O⊢;obtain⟨E,cj⟩:=pR u bo.1 b5;have ck:2^top<=128:=Uu (n:=2) am u.P.fW.2;have ce:cc 6=48:=rfl;have cd:((cc 6:Nat):Int)=48:=rfl;have bb:((cc 7:Nat):Int)=256:=rfl;obtain⟨W,a4⟩:=u.hH _ _ _ E;have cf:=(a4 s hs).1;have a3:=(a4 s hs).2 D;have cg:=c6.bd u.P a3;have a5:ec S.m (c3 X.A h) s≠0:=U
 have aQ:=u.fz E hs D;obtain⟨k,aD,i,f,ag,a8,aN⟩:=(a3.jI ii).at;refine J [26,313] ?_;intro ba;apply J [59,56,28];apply ao (rN aU af top (bV X.A h) (c3 X.A h) S u.P W s hs);apply J [72];have a2:=aN;rw[aN];apply J [278,141,110,2];by_cases H:lT X.A (bD h) s;refine e rfl ?_;apply ao (Su aU af top (bV X.A h) (c3 X.A h) S u.P W s hs aQ a5 ((u.row E hs D).1 H));apply J [72];obtain⟨d,w⟩:∃d:cQ,d=⟨S.Q,S.bx,S.C,S.Fr,du S.m (bm S.m (c3 X.A h) (s/16)+s %16*16) [0,0]⟩:=⟨_,rfl⟩;rw[<-w];have ax:d.C 6=S.C 6:=by rw[w]
 obtain⟨bY,au⟩:=O.yv E hs D H;have bk:d.Q=X.A.Q:=by rw[w];exact u.Q.1
 have bO:d.bx=X.A.bx:=by rw[w];exact u.Q.2
 have aX:(aC.ek d.Q (bV X.A h) (cc 6:Int)).2=0:=b2
 rw[<-ax]at ag;refine J [3,609,51,137,14,544,11] ?_;apply ao (ph aV af Z bF);refine J [255,43] ?_;apply a7 (uv af top d 6 ii k aD i f ag a8 (bV X.A h) aX);intro N aA;refine J [255,5] ?_;obtain⟨fZ,an⟩:∃fZ:cQ,fZ=⟨(aC.ek d.Q (bV X.A h) (cc 6:Int)).1,d.bx,dF d.C 6 N,d.Fr,d.m⟩:=⟨_,rfl⟩;rw[<-an];have V:=u.yv O.ok E hs D H w aA a2 (aC.ek X.A.Q (bV X.A h) 48).1;have ar:fZ=⟨(aC.ek X.A.Q (bV X.A h) 48).1,X.A.bx,dF d.C 6 N,d.Fr,d.m⟩:=b2
 rw[<-ar]at V;refine b3.nil ?_;exact mC (X.A.bare (bD h) s (aC.ek X.A.Q (bV X.A h) 48).1) ⟨_,rfl⟩ (bp (ay (b1.mk aV bH:b1) trivial (eE (ay (⟨Z,bF,fZ⟩:fE) ⟨V,au⟩ ai))));obtain⟨b9,ca,i7,f7,bE,bl,a9⟩:=(W.fz _ U aQ).at;obtain⟨bZ,bY,au⟩:=O.yu E hs D H;have b6:∀j,j<16->j≠s %16->cS S.m (bm S.m (c3 X.A h) (s/16)+j*16)=0:=λj br bX=>Vm λbK=>H ((u.row E hs D).2 ⟨j,br,bX,bK⟩);refine e rfl ?_;apply a7 (St aU af top (bV X.A h) (c3 X.A h) S u.P W s hs aQ a5 b9 ca i7 f7 bE bl a9 b6 (by rw[bb,u.Q.1];exact bZ));intro a0 bh;apply J [72];obtain⟨d,w⟩:∃d:cQ,d=⟨(aC.ek S.Q (bV X.A h) (cc 7:Int)).1,S.bx,dF S.C 7 a0,S.Fr,du (du S.m (bm S.m (c3 X.A h) (s/16)+s %16*16) [0,0]) (c3 X.A h+s/16*8) [0]⟩:=⟨_,rfl⟩;rw[<-w];have ax:d.C 6=S.C 6:=by rw[w];exact i6 S.C a0 (show(6:Nat)≠7 by decide)
 have bk:d.Q=(aC.ek X.A.Q (bV X.A h) 256).1:=by rw[w,<-u.Q.1];rfl
 have bO:d.bx=X.A.bx:=by rw[w];exact u.Q.2
 have aX:(aC.ek d.Q (bV X.A h) (cc 6:Int)).2=0:=b2
 rw[<-ax]at ag;refine J [3,609,51,137,14,544,11] ?_;apply ao (ph aV af Z bF);refine J [255,43] ?_;apply a7 (uv af top d 6 ii k aD i f ag a8 (bV X.A h) aX);intro N aA;refine J [255,5] ?_;obtain⟨fZ,an⟩:∃fZ:cQ,fZ=⟨(aC.ek d.Q (bV X.A h) (cc 6:Int)).1,d.bx,dF d.C 6 N,d.Fr,d.m⟩:=⟨_,rfl⟩;rw[<-an];have V:=u.yu O.ok E hs D H bh a9 w aA a2 (aC.ek (aC.ek X.A.Q (bV X.A h) 256).1 (bV X.A h) 48).1;have ar:fZ=⟨(aC.ek (aC.ek X.A.Q (bV X.A h) 256).1 (bV X.A h) 48).1,X.A.bx,dF d.C 6 N,d.Fr,d.m⟩:=b2
 rw[<-ar]at V;refine b3.nil ?_;exact mC (X.A.bare (bD h) s (aC.ek (aC.ek X.A.Q (bV X.A h) 256).1 (bV X.A h) 48).1) ⟨_,rfl⟩ (bp (ay (b1.mk aV bH:b1) trivial (eE (ay (⟨Z,bF,fZ⟩:fE) ⟨V,au⟩ ai))))
end Go.Proofs.YtglgidjhoncphaaGreatDoor
namespace Go.Proofs.YtglgidjhoncphaaGreatDoor.b5
open Go Go.QM
theorem Fb{L:List Fn}{last:Int}(h:cC L last){t:Fn}(Q:t∈L):∀i,i<=(c1 L t.id).length->∃Z,nC L last t i Z/\∀u,u∈Z↔∃v∈L,v.id≠t.id/\u=if v.id∈(c1 L t.id).take i then⟨v.id,t.par,v.dC,v.cd⟩else v
 | 0,_=>⟨gZ L t.id,nC.start h Q,λu=>by
  rw[lO]
  constructor
  ·rintro⟨E,H⟩;exact⟨u,E,H,by simp⟩
  rintro⟨v,E,H,C⟩;simp at C;rw[C];exact⟨E,H⟩⟩
 | i +1,aC=>by
  obtain⟨Z,ag,hm⟩:=Fb h Q i U
  obtain⟨k,P⟩:∃k,(c1 L t.id)[i]? =some k:=⟨_,Uo U⟩
  obtain⟨w,hw,rfl,aQ⟩:=ag.todo i k (Uw _) P
  have aA:=ag.eo.rg w hw
  have aK:=h.rg t Q
  have aH:=py h (Us P)
  have V:(c1 L t.id).take (i+1)=(c1 L t.id).take i++[w.id]:=by rw[UF,P];rfl
  refine⟨_,ag.next h Q hw P U,λu=>?_⟩
  obtain⟨v0,qt,au,ax⟩:=(hm w).1 hw
  have ey:v0.id=w.id/\v0.dC=w.dC/\v0.cd=w.cd:=by
   rw[ax];split<;>exact⟨rfl,rfl,rfl⟩
  have ar:u∈gY Z w t.par↔(u∈Z/\u.id≠w.id)\/u=⟨w.id,t.par,w.dC,w.cd⟩:=by rw[gY,Uq,Up,lO]
  rw[ar]
  constructor
  ·rintro(⟨E,H⟩|rfl)
   ·obtain⟨v,C,W,N⟩:=(hm u).1 E
    have an:v.id=u.id:=by rw[N];split<;>rfl
    refine⟨v,C,W,?_⟩
    rw[N,V]
    have O:v.id∈(c1 L t.id).take i++[w.id]↔v.id∈(c1 L t.id).take i:=by
     rw[Uq,Up]
     exact⟨λD=>D.elim id λe=>absurd (an.symm.trans e) H,.inl⟩
    by_cases d:v.id∈(c1 L t.id).take i
    ·rw[aw d,aw (O.2 d)]
    rw[al d,al (λD=>d (O.1 D))]
   refine⟨v0,qt,au,?_⟩
   rw[aw (by rw[V,ey.1];simp),ey.1,ey.2.1,ey.2.2]
  rintro⟨v,C,W,N⟩
  by_cases e:v.id=w.id
  ·right
   obtain rfl:=h.bo.inj C qt (e.trans ey.1.symm)
   rw[N,aw (by rw[V,e];simp),ey.1,ey.2.1,ey.2.2]
  left
  have O:v.id∈(c1 L t.id).take i++[w.id]↔v.id∈(c1 L t.id).take i:=by
   rw[Uq,Up]
   exact⟨λD=>D.elim id λao=>absurd ao e,.inl⟩
  have d:u=if v.id∈(c1 L t.id).take i then⟨v.id,t.par,v.dC,v.cd⟩else v:=by
   rw[N,V]
   by_cases d:v.id∈(c1 L t.id).take i
   ·rw[aw d,aw (O.2 d)]
   rw[al d,al (λD=>d (O.1 D))]
  refine⟨(hm u).2 ⟨v,C,W,d⟩,?_⟩
  rw[d];split<;>exact e
def sF(t v:Fn):Fn:=⟨v.id,if v.par=t.id then t.par else v.par,v.dC,v.cd⟩
structure Jc(L:List Fn)(last:Int)(t:Fn):Prop where
  eo:cC (j7 L t.id) last
  len:(j7 L t.id).length+1=L.length
  mem:∀u,u∈j7 L t.id↔∃v∈L,v.id≠t.id/\u=sF t v
theorem z7{L:List Fn}{last:Int}(h:cC L last){t:Fn}(d:t∈L):Jc L last t:=by obtain⟨Z,C,hm⟩:=Fb h d _ (Uw _);have e:=C.done h d;have H:=ur h.bo d;have O:=h.rg t d;refine⟨by rw[e];exact C.eo,by rw[e,C.len];exact H,λu=>?_⟩;rw[e,hm,U9];have hv:∀v∈L,(if v.id∈c1 L t.id then(⟨v.id,t.par,v.dC,v.cd⟩:Fn)else v)=sF t v:=λv hv=>(by have P:v.id∈c1 L t.id↔v.par=t.id:=(by rw[px];constructor;rintro⟨_,w,hw,D,E⟩;rw[<-h.bo.inj hw hv E];exact D;grind);rw[sF];by_cases N:v.par=t.id;all_goals simp_all);grind
end Go.Proofs.YtglgidjhoncphaaGreatDoor.b5
namespace Go.Proofs.YtglgidjhoncphaaGreatDoor
open Go Go.QM
variable [dL] [fN]
def au(l:List an.bX)(i:Nat):Int:=match l[i]? with
  | some p=>p.c0*256+(i:Int)
  | none=>-1
theorem rk{l:List an.bX}{i:Nat}{p:an.bX}(h:l[i]? =some p):au l i=p.c0*256+(i:Int):=by rw[au,h]
theorem sv{l:List an.bX}(d:an.dN l){i j:Nat}(u:i<256)(w:j<256)(e:au l i=au l j):i=j:=by obtain⟨p,C,_⟩:=d.at u;obtain⟨q,D,_⟩:=d.at w;grind[rk]
theorem Eh{l:List an.bX}(u:an.dN l){i:Nat}(d:i<256):0<=au l i/\au l i<=4294967295/\(au l i %256).toNat=i:=by obtain⟨p,D,w,C⟩:=u.at d;grind[rk]
structure c7(X:cD)(D:Nat->Nat->Prop):Prop where
  eo:b5.cC X.L X.last
  pE:∀t∈X.L,∃i s:Nat,t.dC=au X.A.l i/\t.cd=(s:Int)/\X.A.aK i s≠0/\¬D i s
  qD:∀i s,X.A.aK i s≠0->¬D i s->∃t∈X.L,t.dC=au X.A.l i/\t.cd=(s:Int)
  jR:∀i s,D i s->X.A.aK i s≠0
  fU:∀t∈X.L,∀u∈X.L,t.par=u.id->∀i s j r:Nat,t.dC=au X.A.l i->t.cd=(s:Int)->X.A.aK i s≠0->u.dC=au X.A.l j->u.cd=(r:Int)->X.A.aK j r≠0->iS (X.A.aK i s)=iS (X.A.aK j r)
  di:X.last<=X.A.np
def ej:Nat->Nat->Prop:=λ_ _=>False
section
variable {X : cD} {D : Nat → Nat → Prop}
variable{i s:Nat}
theorem cq.m5{A:bP}(h:cq A)(e:A.aK i s≠0):i<256/\s<256:=by obtain⟨d,⟨a,f,u⟩,_⟩:=h.aK i s e;exact⟨u.lt h.ok,d⟩
theorem c7.pT(h:c7 X D)(d:cq X.A){t:b5.Fn}(H:t∈X.L)(E:i<256)(u:t.dC=au X.A.l i)(N:t.cd=(s:Int)):X.A.aK i s≠0/\¬D i s:=by obtain⟨j,r,w,O,C,P⟩:=h.pE t H;have:=sv d.ok E (d.m5 C).1 (u.symm.trans w);grind
theorem c7.find(h:c7 X D)(e:X.A.aK i s≠0)(C:¬D i s):∃t∈X.L,b5.hk X.L (au X.A.l i,(s:Int))=t.id/\t.dC=au X.A.l i/\t.cd=(s:Int)/\1<=t.id:=by obtain⟨t,d,u,w⟩:=h.qD i s e C;refine⟨t,d,?_,u,w,(h.eo.rg t d).1⟩;rw[<-u,<-w];exact b5.ze h.eo.no d
theorem c7.FL(h:c7 X D)(C:cq X.A)(E:i<256)(e:X.A.aK i s=0\/D i s):b5.hk X.L (au X.A.l i,(s:Int))=0:=by refine b5.zd ?_;rintro⟨t,H,d⟩;have u:t.dC=au X.A.l i:=congrArg (·.1) d;have w:t.cd=(s:Int):=congrArg (·.2) d;obtain⟨N,O⟩:=h.pT C H E u w;simp_all
theorem M6{L:List b5.Fn}{x y:Int}(h:b5.hk L (x,y)=0)(hr:∀t∈L,1<=t.id):¬b5.ks L (x,y):=by rintro⟨t,d,e⟩;grind[b5.hk]
theorem c7.add(h:c7 X D)(H:cq X.A)(O:D i s){par:Int}(w:par=0\/∃u∈X.L,u.id=par/\∀j r:Nat,u.dC=au X.A.l j->u.cd=(r:Int)->X.A.aK j r≠0->iS (X.A.aK i s)=iS (X.A.aK j r)){D':Nat->Nat->Prop}(aJ:∀j r,D' j r↔D j r/\¬(j=i/\r=s))(aH:X.last+1<=X.A.np):
 (b5.gP X.L X.last par (au X.A.l i,(s:Int))).2.2.2=0/\c7 ⟨X.A,(b5.gP X.L X.last par (au X.A.l i,(s:Int))).1,(b5.gP X.L X.last par (au X.A.l i,(s:Int))).2.1⟩ D':=by
 have ag:i<256:=(H.m5 (h.jR i s O)).1;have Z:=h.FL H ag (.inr O);have aA:¬(¬b5.fL X.L par/\par≠0):=(by rcases w with w|⟨u,hu,w,_⟩;omega;exact λh=>h.1 ⟨u,hu,w⟩);have e:b5.gP X.L X.last par (au X.A.l i,(s:Int))=(X.L++[⟨X.last+1,par,au X.A.l i,(s:Int)⟩],X.last+1,X.last+1,0):=(by rw[b5.gP,al aA,al (λh=>h Z)]);have a5:0<=X.last:=by have:=h.eo.len;omega
 have aX:0<=par/\par<=X.last:=(by rcases w with w|⟨u,hu,w,_⟩;omega;have:=h.eo.rg u hu;omega);rw[e];refine⟨rfl,h.eo.add (t:=⟨X.last+1,par,au X.A.l i,(s:Int)⟩) rfl aX (M6 Z λt d=>(h.eo.rg t d).1),λt d=>?_,λj r P aQ=>?_,λj r P=>h.jR j r ((aJ j r).1 P).1,λt d u hu Q=>?_,aH⟩;rcases Uq.1 d with d|d;obtain⟨j,r,ax,a2,a3,a4⟩:=h.pE t d;grind;obtain rfl:=Up.1 d;exact⟨i,s,rfl,rfl,h.jR i s O,λN=>((aJ i s).1 N).2 ⟨rfl,rfl⟩⟩;by_cases C:j=i/\r=s;simp_all;obtain⟨t,d,ax⟩:=h.qD j r P λN=>aQ ((aJ j r).2 ⟨N,C⟩);grind;dsimp only;intro j r k q C V W an ao ar;rcases Uq.1 d with d|d<;>rcases Uq.1 hu with E|E;exact h.fU t d u E Q j r k q C V W an ao ar;obtain rfl:=Up.1 E;have:=h.eo.rg t d;grind;obtain rfl:=Up.1 d;dsimp only at Q C V;have aC:=sv H.ok ag (H.m5 W).1 C;have a0:r=s:=U
 subst aC;subst a0;rcases w with w|⟨v,hv,w,a7⟩;have:=h.eo.rg u E;omega;have:v=u:=h.eo.bo.inj hv E U;grind;grind
theorem c7.lay(h:c7 X D)(P:cq X.A){w np:Nat}{Q:List aC.bY}(aX:i<256)(au:X.A.aK i s=0)(hw:w≠0)(a0:X.A.np<=np){D':Nat->Nat->Prop}(aJ:∀j r,D' j r↔D j r\/(j=i/\r=s)):c7 ⟨{X.A with Q:=Q,aK:=fc X.A.aK i s w,np:=np},X.L,X.last⟩ D':=by have V:∀{j r},X.A.aK j r≠0->fc X.A.aK i s w j r=X.A.aK j r:=λ{j r} d=>la (by by_cases e:j=i;exact .inr λC=>d (by rw[e,C];exact au);exact .inl e);have hold:∀{j r},fc X.A.aK i s w j r≠0->¬(j=i/\r=s)->X.A.aK j r≠0:=λ{j r} O ax=>(by grind[la]);refine⟨h.eo,λt N=>?_,λj r d aA=>?_,λj r d=>?_,λt N u hu an=>?_,by have:=h.di;dsimp only;omega⟩;obtain⟨j,r,O,ax,aH,aQ⟩:=h.pE t N;grind;dsimp only at d;by_cases e:j=i/\r=s;simp_all;exact h.qD j r (hold d e) λE=>aA ((aJ j r).2 (.inl E));dsimp only;rcases(aJ j r).1 d with H|⟨rfl,rfl⟩;have:=h.jR j r H;rw[V this];exact this;grind[ia];dsimp only;intro j r k q C W ao Z ag ar;have lt:∀{j r},fc X.A.aK i s w j r≠0->j<256:=λ{j r} O=>(by by_cases e:j=i/\r=s;omega;exact(P.m5 (hold O e)).1);have E:=(h.pT P N (lt ao) C W).1;have H:=(h.pT P hu (lt ar) Z ag).1;rw[V E,V H];exact h.fU t N u hu an j r k q C W E Z ag H
theorem c7.H5(h:c7 X D)(ax:cq X.A){Q:List aC.bY}(aA:D i s){D':Nat->Nat->Prop}(aJ:∀j r,D' j r↔D j r/\¬(j=i/\r=s)):c7 ⟨X.A.bare i s Q,X.L,X.last⟩ D':=by
 have C:∀{j r},¬(j=i/\r=s)->fc X.A.aK i s 0 j r=X.A.aK j r:=λ{j r} w=>la (by by_cases e:j=i;exact .inr λE=>w ⟨e,E⟩;exact .inl e);have hold:∀{j r},fc X.A.aK i s 0 j r≠0->¬(j=i/\r=s):=by grind[ia]
 refine⟨h.eo,λt V=>?_,λj r w ar=>?_,λj r w=>?_,λt V u hu W=>?_,h.di⟩;obtain⟨j,r,d,O,au,ao⟩:=h.pE t V;refine⟨j,r,d,O,?_,λP=>ao ((aJ j r).1 P).1⟩;dsimp only[bP.bare];grind;dsimp only[bP.bare]at w;have d:=hold w;rw[C d]at w;exact h.qD j r w λP=>ar ((aJ j r).2 ⟨P,d⟩);have d:=(aJ j r).1 w;dsimp only[bP.bare];rw[C d.2];exact h.jR j r d.1;dsimp only[bP.bare];intro j r k q E Z H ag an N;have d:=hold H;have O:=hold N;rw[C d]at H⊢;rw[C O]at N⊢;exact h.fU t V u hu W j r k q E Z H ag an N
theorem c7.set(h:c7 X D)(C:cq X.A){w:Nat}(aQ:X.A.aK i s≠0)(hw:w≠0)(aX:D i s\/iS w=iS (X.A.aK i s)):c7 ⟨X.A.set i s w,X.L,X.last⟩ D:=by have d:∀{j r},fc X.A.aK i s w j r≠0↔X.A.aK j r≠0:=λ{j r}=>(by grind[ia,la]);have V:∀{j r},¬D j r->iS (fc X.A.aK i s w j r)=iS (X.A.aK j r):=λ{j r} a0=>(by grind[ia,la]);refine⟨h.eo,λt E=>?_,λj r H aA=>h.qD j r (d.1 H) aA,λj r H=>d.2 (h.jR j r H),λt E u hu Z=>?_,h.di⟩;obtain⟨j,r,ao,ar,au,ax⟩:=h.pE t E;exact⟨j,r,ao,ar,d.2 au,ax⟩;dsimp only[bP.set];intro j r k q N O ag P Q an;have bO:=d.1 ag;have W:=d.1 an;have aC:=(h.pT C E (C.m5 bO).1 N O).2;have aH:=(h.pT C hu (C.m5 W).1 P Q).2;rw[V aC,V aH];exact h.fU t E u hu Z j r k q N O bO P Q W
theorem c7.lift(h:c7 X D)(W:cq X.A){Q:List aC.bY}(ax:X.A.aK i s≠0){t:b5.Fn}(C:t∈X.L)(O:t.dC=au X.A.l i)(E:t.cd=(s:Int)):c7 ⟨X.A.bare i s Q,b5.j7 X.L t.id,X.last⟩ D:=by
 have N:=b5.z7 h.eo C;have aX:=(W.m5 ax).1;have a3:=(h.pT W C aX O E).2;have Z:∀{j r},¬(j=i/\r=s)->fc X.A.aK i s 0 j r=X.A.aK j r:=λ{j r} d=>la (by by_cases e:j=i;exact .inr λE=>d ⟨e,E⟩;exact .inl e);have hold:∀{j r},fc X.A.aK i s 0 j r≠0->¬(j=i/\r=s):=by grind[ia]
 have a9:∀v∈X.L,v.dC=t.dC->v.cd=t.cd->v.id=t.id:=λv hv a b=>(by have:=h.eo.no.inj hv C (show b5.io v=b5.io t from Prod.ext a b);simp_all);refine⟨N.eo,λu hu=>?_,λj r d a4=>?_,λj r d=>?_,λu hu v hv H=>?_,h.di⟩;obtain⟨v,w,a0,rfl⟩:=(N.mem u).1 hu;obtain⟨j,r,bO,aA,bb,a5⟩:=h.pE v w;refine⟨j,r,bO,aA,?_,a5⟩;dsimp only[bP.bare];grind;dsimp only[bP.bare]at d;have w:=hold d;rw[Z w]at d;obtain⟨v,hv,bO,aA⟩:=h.qD j r d a4;refine⟨b5.sF t v,(N.mem _).2 ⟨v,hv,λe=>?_,rfl⟩,bO,aA⟩;have:=h.eo.bo.inj hv C e;subst this;exact w ⟨sv W.ok (W.m5 d).1 aX (bO.symm.trans O),by omega⟩;dsimp only[bP.bare];rw[Z (λe=>a3 (by rw[<-e.1,<-e.2];exact d))];exact h.jR j r d;dsimp only[bP.bare];intro j r k q ag an P ao ar V;obtain⟨aH,w,a0,rfl⟩:=(N.mem u).1 hu;obtain⟨v0,aQ,a8,rfl⟩:=(N.mem v).1 hv;have g1:=hold P;have g2:=hold V;rw[Z g1]at P⊢;rw[Z g2]at V⊢;dsimp only[b5.sF]at H ag an ao ar;by_cases e:aH.par=t.id;rw[aw e]at H;have a7:=h.fU aH w t C e j r i s ag an P O E ax;have a2:=h.fU t C v0 aQ H i s k q O E ax ao ar V;omega;rw[al e]at H;exact h.fU aH w v0 aQ H j r k q ag an P ao ar V
theorem c7.obj(h:c7 X D)(ag:cq X.A){bk:bP}(E:bk.aK=X.A.aK)(H:∀i s,X.A.aK i s≠0->au bk.l i=au X.A.l i)(an:cq bk)(ao:X.A.np<=bk.np):c7 ⟨bk,X.L,X.last⟩ D:=by refine⟨h.eo,λt N=>?_,λj r d Z=>?_,λj r d=>by dsimp only;rw[E];exact h.jR j r d,λt N u hu Q=>?_,by have:=h.di;dsimp only;omega⟩;obtain⟨j,r,bO,ar,ax,aA⟩:=h.pE t N;grind;dsimp only at d⊢;rw[E]at d;rw[H j r d];exact h.qD j r d Z;dsimp only;intro j r k q O V w P W C;rw[E]at w C⊢;rw[H j r w]at O;rw[H k q C]at P;exact h.fU t N u hu Q j r k q O V w P W C
end
def fb(A:bP)(h s:Int):Nat×Nat×Int:=if(bS A.l h 2).2≠0 then(0,0,(bS A.l h 2).2)else if ¬(0<=s/\s<256)then(0,0,2)else if ga A (bD h) s=0 then(0,0,6)else(iS (ga A (bD h) s),kU (ga A (bD h) s),0)
structure fq(A bk:bP)(n:Nat):Prop where
  l:bk.l=A.l
  z:bk.a1=A.a1
  q:bk.q=A.q/\bk.now=A.now/\bk.pd=A.pd
  o:bk.own=A.own
  n:A.np<=bk.np/\bk.np<=A.np+n
theorem fq.refl(A:bP)(n:Nat):fq A A n:=⟨rfl,rfl,⟨rfl,rfl,rfl⟩,rfl,by omega⟩
variable{A:bP}
theorem fq.trans{B C:bP}{n m:Nat}(h:fq A B n)(k:fq B C m):fq A C (n+m):=⟨k.l.trans h.l,k.z.trans h.z,⟨k.q.1.trans h.q.1,k.q.2.1.trans h.q.2.1,k.q.2.2.trans h.q.2.2⟩,k.o.trans h.o,by have:=h.n;have:=k.n;omega⟩
theorem fq.mono{B:bP}{n m:Nat}(h:fq A B n)(k:n<=m):fq A B m:=⟨h.l,h.z,h.q,h.o,by have:=h.n;omega⟩
theorem BO(aB af top:Nat)(X:cD)(h s:Int)(C:0<=h/\h<=4294967295):br 57 [ae aB,aS h,aa s] c8 [cT aB af top X] (.tuple #[.agg #[aS ((fb X.A h s).1:Int),aa ((fb X.A h s).2.1:Int)],aa (fb X.A h s).2.2]) [cT aB af top X]:=by
 apply aH Tryz.func57 Tryz.ntmps57;intro F E;apply J [1];haveI:cw F:=⟨E⟩;refine J [26,245] ?_;intro ba;apply J [27,34];by_cases d:(bS X.A.l h 2).2=0;rw[show fb X.A h s=if ¬(0<=s/\s<256)then(0,0,2)else if ga X.A (bD h) s=0 then(0,0,6)else(iS (ga X.A (bD h) s),kU (ga X.A (bD h) s),0)from al (λbK=>bK d)];refine e rfl ?_;apply a7 (oV aB af top X h C d);intro aU _;refine J [19,218] ?_;intro b4;apply J [115,234,74,170];apply ao (rX s);apply J [10];by_cases u:0<=s/\s<256;rw[cR u,al (λbK=>bK u)];apply J [265,23,128,28];apply ao (ob aB af top X aU h C d s);refine J [10,222] ?_;intro H;apply J [68,105,168,413,3];apply Ur rfl<;>intro N;have w:ga X.A (bD h) s=0:=U
 simp only[aw w];apply J [344,68,127];exact nz;have w:ga X.A (bD h) s≠0:=U
 simp only[al w];apply J [4,24,242,68,30];exact nz;rw[c4 u,aw u];apply J [89,348,344,68,238];exact nz;rw[show fb X.A h s=(0,0,(bS X.A.l h 2).2)from aw d];refine e rfl ?_;apply ao (qV aB af top X h C d);refine J [8,218] ?_;intro bw;apply J [115,234];refine Ur rfl (λD=>?_) (λD=>absurd (d) D);apply J [344,2,68,238];exact nz
theorem MS{l:List an.bX}{k:Nat}{p:an.bX}{dw:an.e9}{g0:Int}(w:l[k]? =some ⟨dw,0,g0⟩){h:Int}(d:0<=h)(u:(an.cP l h).2=0):an.cP (l.set k p) h=an.cP l h:=by grind[oA,an.cP,pA]
theorem FZ{l:List an.bX}{k:Nat}{p:an.bX}{dw:an.e9}{g0:Int}(w:l[k]? =some ⟨dw,0,g0⟩){h n:Int}(d:0<=h)(u:(bS l h n).2=0):bS (l.set k p) h n=bS l h n:=by grind[bS,MS]
theorem Nh{l:List an.bX}{k i:Nat}{p:an.bX}(h:i≠k):au (l.set k p) i=au l i:=by rw[au,au,Vs λe=>h e.symm]
theorem zq{l:List an.bX}(u:an.dN l){k:Nat}{o dw:an.e9}{g:Int}(d:l[k]? =some ⟨dw,0,g⟩):an.cP (l.set k ⟨o,1,g⟩) (g*256+k)=(o,0):=by have w:=wL (l:=l.set k ⟨o,1,g⟩) (p:=⟨o,1,g⟩) (u.lt d) (U7 (Uz.1 d).1);grind[an.cP]
def Cf(top:Nat)(X:cD)(h s fD k lim:Int):Prop:=(bS X.A.l h 2).2≠0\/¬(0<=s/\s<256)\/¬(k=8\/1<=k/\k<=5)\/((s<128)↔k=8)\/ga X.A (bD h) s≠0\/q1 top X.A (bV X.A h)\/∃Q,ru X.A (bV X.A h) Q/\p6 top (X.A.lay (bD h) s.toNat (dG 0 15) Q) fD k lim
def p7(top:Nat)(X:cD)(h s fD k lim:Int)(y:cD×Int×Int):Prop:=
  (y.2.2≠0/\y.2.1=0/\fq X.A y.1.A 4/\c7 y.1 ej/\Cf top X h s fD k lim)\/
  (y.2.2=0/\c7 y.1 ej/\(0<=y.2.1/\y.2.1<=4294967295)/\(0<=s/\s<256)/\∃(c x ww:Nat) (f g:Int) (dw:an.e9),k=c/\js c/\X.A.l[ww]? =some ⟨dw,0,g⟩/\X.A.l.findIdx? an.isEmpty=some ww/\y.2.1=g*256+ww/\y.1.A.l=X.A.l.set ww ⟨bt c x f,1,g⟩/\y.1.A.a1=X.A.a1/\y.1.A.q=X.A.q/\y.1.A.now=X.A.now/\y.1.A.pd=X.A.pd/\X.A.np<=y.1.A.np/\y.1.A.np<=X.A.np+4/\y.1.A.aK=fc X.A.aK (bD h) s.toNat (dG y.2.1.toNat 15)/\(c≠1->∃Q,ru X.A (bV X.A h) Q/\y.1.A.Q=(aC.db Q (X.A.own (fD %256).toNat:Int) (bE c)).1/\y.1.A.own=X.A.own))
theorem jy.refl{Q:List aC.bY}{d:Int}(h:aC.eP Q d)(f:Int):jy Q Q d f 0:=⟨h,λ_=>Iff.rfl,λx _=>by split<;>omega,λ_=>rfl⟩
theorem cq.set(h:cq A){i a s w:Nat}{f:Int}(u:cB A.l i 1 (bt 2 a f))(hs:s<256)(d:A.aK i s≠0)(hw:pc A w):cq (A.set i s w):=by have E:w≠0:=(by obtain⟨x,r,rfl,_,H,N,_⟩:=hw;grind[jG]);have D:=Sw (e:=A.aK i) (e':=fc A.aK i s w i) hs d (by rw[ia];exact E) λr C=>kH C;exact h.tK u hs (jy.refl h.d8 f) (by rw[D];omega) (.inr hw) ⟨Uw _,h.bd.2.2⟩
variable{top:Nat}
theorem pS{S:cQ}(C:cn top A S){h:Int}(d:0<=h)(e:(bS A.l h 2).2=0):au A.l (bD h)=h:=by obtain⟨_,g,u,w⟩:=pR C d e;rw[rk w];exact u.symm
def tF(i s:Nat):Nat->Nat->Prop:=λj r=>j=i/\r=s
theorem cq.uU(h:cq A){n:Nat}(d:A.np<=n)(u:n<=1000000):cq {A with np:=n}:=⟨h.ok,h.d8,h.rt,h.ac,h.cW,h.m9,h.aK,h.hz,h.mj,h.n2,h.n4,h.mR,h.pd,by have:=h.bd;dsimp only;omega⟩
theorem wG{i s w:Nat}{f:Int}{y:Int×bP}(h:vc top A i s w f y)(d:y.1=0):∃Q,y.2=A.lay i s w Q/\ru A f Q:=by rcases h with⟨_,h⟩|⟨h,_⟩;all_goals trivial
theorem wH{i s w:Nat}{f:Int}{y:Int×bP}(h:vc top A i s w f y)(d:y.1≠0):y.2={A with np:=A.np+2}/\q1 top A f:=by rcases h with⟨h,_⟩|⟨_,h⟩;all_goals trivial
theorem fq.up(A:bP){n m:Nat}(h:n<=m):fq A {A with np:=A.np+n} m:=⟨rfl,rfl,⟨rfl,rfl,rfl⟩,rfl,by dsimp only;omega⟩
theorem Rm(h:cq A):(an.cP A.l ((0:Nat):Int)).2=0:=by obtain⟨⟨a,d⟩,_⟩:=h.rt;have:=wL (i:=0) am d;grind[an.cP]
theorem Iq(aB af top:Nat)(X:cD)(h s N k lim:Int)(V:0<=h/\h<=4294967295)(de:0<=N/\N<=4294967295)(O:c7 X ej)(dF:X.A.np+4<=1000000):bI 141 [ae aB,aS h,aa s,aS N,aa k,aa lim] c8 [cT aB af top X] (λy:cD×Int×Int=>.tuple #[aS y.2.1,aa y.2.2]) (λy=>p7 top X h s N k lim y) (λy=>[cT aB af top y.1]):=by
 apply aH Tryz.func141 Tryz.ntmps141;intro F cA;apply J [1];haveI:cw F:=⟨cA⟩;refine ab.lF 0 rfl (λaQ=>?_);obtain⟨⟨dt,dx⟩,_⟩:=aQ;apply J [134,34];by_cases Z:(bS X.A.l h 2).2=0;·refine e rfl ?_;apply a7 (oV aB af top X h V Z);intro aU _;refine J [8,218] ?_;intro bw;apply J [115,211,128,28];apply ao (ob aB af top X aU h V Z s);refine J [19,222] ?_;intro b4;apply J [68,105,76,170];apply ao (rX s);apply J [10];by_cases a0:0<=s/\s<256;(·rw[cR a0];apply J [265,170];apply ao (Tz k);apply J [10];by_cases bl:k=8\/1<=k/\k<=5;(·rw[cR bl];apply J [89,18,282];apply ao (rW s);apply J [10,16,92];refine c5 rfl rfl rfl (y7 rfl rfl rfl) ?_;apply J [182];apply Ur rfl<;>intro cK;apply J [119];exact cN (X,0,1) (.inl ⟨(show(1:Int)≠0 by decide),rfl,fq.refl _ _,O,.inr (.inr (.inr (.inl (by simpa using cK))))⟩) ai;apply J [168,47];apply Ur rfl<;>intro cO;apply J [119];exact cN (X,0,7) (.inl ⟨(show(7:Int)≠0 by decide),rfl,fq.refl _ _,O,.inr (.inr (.inr (.inr (.inl (by simpa using cO)))))⟩) ai;obtain⟨en,rfl⟩:∃n:Nat,s=(n:Int):=⟨s.toNat,(Vj a0.1).symm⟩;(have H:en<256:=by omega);have bX:X.A.aK (bD h) en=0:=(by grind[kV]);apply J [203,337,2,247];refine aO.dc 2 rfl hl (λaQ=>?_);obtain⟨W,dj,dz⟩:=aQ;refine e rfl ?_;apply a7 (xV aB af top X aU h V Z en H bX 0 15 am am (Rm W) U);intro⟨cp,dn⟩ ca;apply J [10];dsimp only;apply J [125];apply Ur rfl<;>intro he;obtain⟨bK,cz⟩:=wH ca he;dsimp only at bK;subst bK;have cB:c7 ⟨{X.A with np:=X.A.np+2},X.L,X.last⟩ ej:=O.obj W rfl (λ_ _ _=>rfl) (W.uU (UH _ _) U) (UH _ _);apply J [188];exact cN (⟨{X.A with np:=X.A.np+2},X.L,X.last⟩,0,cp) (.inl ⟨he,rfl,fq.up _ am,cB,.inr (.inr (.inr (.inr (.inr (.inl cz)))))⟩) ai;obtain rfl:cp=0:=Ut he;obtain⟨Q,bK,cc⟩:=wG ca rfl;dsimp only at bK;subst bK;have b6:c7 ⟨X.A.lay (bD h) en (dG 0 15) Q,X.L,X.last⟩ (tF (bD h) en):=O.lay W (by have:=V;rw[bD];omega) bX (jG am am).2 (UH _ _) (λj r=>⟨λh=>.inr h,λh=>h.elim (λh=>h.elim) id⟩);apply ab.open 1 rfl;rintro⟨aV,bH⟩-;apply J [243];dsimp only;refine ab.lF 1 rfl (λaQ=>?_);obtain⟨⟨_,_,ck⟩,dB,a3⟩:=aQ;apply J [4,39,120,28];apply a7 (C6 aV af top (X.A.lay (bD h) en (dG 0 15) Q) N de k lim (by dsimp only[bP.lay];omega));intro⟨d,ax,cp⟩ bG;apply J [17];dsimp only;apply J [133,33];apply Ur rfl<;>intro cm;(·have bk:ax=0/\FM (X.A.lay (bD h) en (dG 0 15) Q) d/\p6 top (X.A.lay (bD h) en (dG 0 15) Q) N k lim:=(by rcases bG with⟨bK,_⟩|⟨_,bK⟩;all_goals simp_all);obtain⟨rfl,co,a5⟩:=bk;have cy:d.l=X.A.l/\d.aK=fc X.A.aK (bD h) en (dG 0 15)/\d.a1=X.A.a1/\d.own=X.A.own/\(d.q=X.A.q/\d.now=X.A.now/\d.pd=X.A.pd)/\X.A.np+2<=d.np/\d.np<=X.A.np+4:=(by rcases co with bK|bK;all_goals grind[bP.lay]);obtain⟨ct,k2,dg,dk,dl,dm,dR⟩:=cy;(have bb:(bS d.l h 2).2=0:=by simp_all);have bZ:cq d:=(by rcases co with bK|bK;simp_all;rw[bK];exact a3.uU (UH _ _) (by dsimp only[bP.lay];omega));have bh:c7 ⟨d,X.L,X.last⟩ (tF (bD h) en):=b6.obj a3 (by rw[k2];rfl) (λi s _=>by rw[ct];rfl) bZ dm;(have aC:d.aK (bD h) en≠0:=by rw[k2,ia];exact(jG am am).2);(have a2:bV d h=bV X.A h/\c3 d h=c3 X.A h:=by grind[bV,c3]);refine VM (B:=ah [aj aU 163 [ae af,aa (bV X.A h),aa (c3 X.A h:Int)],cT aB af top ⟨d,X.L,X.last⟩,aj bw 150 [ae aU,aS h,aa (bV X.A h)],F]) (cY (ay (b1.mk aV bH:b1) trivial ai)) ?_;rw[<-a2.1,<-a2.2];apply J [337,28];apply a7 (BN aB af top ⟨d,X.L,X.last⟩ aU h V bb en H aC);intro dr a4;apply J [19];obtain⟨bE,rfl⟩:=a4;have a8:c7 ⟨d.bare (bD h) en bE,X.L,X.last⟩ ej:=bh.H5 (i:=bD h) (s:=en) bZ ⟨rfl,rfl⟩ (λj r=>⟨λh=>h.elim,λh=>h.2 h.1⟩);apply J [3,188];exact cN (⟨d.bare (bD h) en bE,X.L,X.last⟩,0,cp) (.inl ⟨cm,rfl,⟨ct,dg,dl,dk,by dsimp only[bP.bare];omega⟩,a8,.inr (.inr (.inr (.inr (.inr (.inr ⟨Q,cc,a5⟩)))))⟩) ai);obtain rfl:cp=0:=Ut cm;have bk:vd (X.A.lay (bD h) en (dG 0 15) Q) N k lim d ax:=(by rcases bG with⟨_,bK,_⟩|⟨bK,_⟩;all_goals simp_all);obtain⟨cl,c,x,be,g,dw,ds,dS,dT,c1,cJ,cn,jT,cg,D,cd⟩:=bk;have bo:X.A.l[be]? =some ⟨dw,0,g⟩:=cn;(have br:d.l=X.A.l.set be ⟨bt c x (((X.A.lay (bD h) en (dG 0 15) Q).own (N %256).toNat:Nat):Int),1,g⟩:=by rw[D];rfl);(have aC:d.aK=fc X.A.aK (bD h) en (dG 0 15):=by rw[D];rfl);(have dP:bS d.l h 2=bS X.A.l h 2:=by grind[FZ]);(have bb:(bS d.l h 2).2=0:=by simp_all);(have a2:bV d h=bV X.A h/\c3 d h=c3 X.A h:=by grind[bV,c3]);(have dJ:an.cP d.l ax=(bt c x (((X.A.lay (bD h) en (dG 0 15) Q).own (N %256).toNat:Nat):Int),0):=by rw[br,cg];exact zq W.ok bo);obtain⟨u,rfl⟩:∃n:Nat,ax=(n:Int):=⟨ax.toNat,(Vj cl.1).symm⟩;have c0:=W.lt bo;dsimp only at c0;(have cj:u<4294967295:=by omega);(have cL:pc d (dG u 15):=by grind[pc]);have da:=jG (h:=0) (r:=15) am am;(have ag:d.aK (bD h) en≠0:=by rw[aC,ia];exact da.2);apply ab.open 0 rfl;rintro⟨cI,bF,w⟩ ⟨E,ar⟩;apply J [316];dsimp only at E ar⊢;have bh:c7 ⟨d,X.L,X.last⟩ (tF (bD h) en):=b6.obj a3 (by rw[aC];rfl) (λi s bK=>by obtain⟨_,⟨a,f,cu⟩,_⟩:=a3.aK i s bK;have db:i≠be:=λe=>(by subst e;exact absurd (cu.inj ⟨g,cn⟩).1 am);rw[br];exact Nh db) ar (by rw[D];dsimp only[bP.lay];omega);obtain⟨a9,_⟩:=pR E V.1 bb;obtain⟨ce,a5⟩:=E.hH _ _ _ a9;have dy:=(a5 en H).1;have dC:=c6.bd E.P ((a5 en H).2 ag);have dQ:2^top<=128:=Uu (n:=2) am E.P.fW.2;have c2:=E.fz a9 H ag;have aX:=jG (h:=u) (r:=15) cj am;have cS:=pS E V.1 bb;rw[<-a2.1,<-a2.2];apply J [4,110,28];apply ao (rN aU af top (bV d h) (c3 d h) w E.P ce en H);apply J [145,133];refine cx [0,1,2,3,4,6,-5,-7] (show aF (ah _) (ah [aj bw 150 [ae aU,aS h,aa (bV d h)]])from ai) ?_;apply J [107,14,14,444,237];apply ao (BP u 15 cj am);refine J [246,43] ?_;apply ao (BC aU af top (bV d h) (c3 d h) w E.P ce en H (dG u 15) (dX w.m (c3 d h) en) aX.1 U aX.2 c2);refine J [285] ?_;obtain⟨fZ,bO⟩:∃fZ:cQ,fZ=⟨w.Q,w.bx,w.C,w.Fr,du w.m (bm w.m (c3 d h) (en/16)+en %16*16) [dG u 15,dX w.m (c3 d h) en]⟩:=⟨_,rfl⟩;rw[<-bO];have cC:=E.sW ar.ok a9 H ag aX.2 aX.1 bO;have a4:=ar.set a9 H ag cL;have a8:=bh.set ar ag aX.2 (.inl ⟨rfl,rfl⟩);have dL:=a8.di;(have dO:d.np=X.A.np+4:=by rw[D];rfl);have dN:X.last<=X.A.np:=O.di;obtain⟨df,b9⟩:=a8.add (i:=bD h) (s:=en) (par:=0) a4 ⟨rfl,rfl⟩ (.inl rfl) (D':=ej) (λj r=>⟨λh=>h.elim,λh=>h.2 h.1⟩) (by show X.last+1<=((d.set (bD h) en (dG u 15)).np:Int);dsimp only[bP.set];omega);have cZ:au (d.set (bD h) en (dG u 15)).l (bD h)=h:=cS;have dD:=W.bd;rw[cZ]at df b9;have cM:(d.set (bD h) en (dG u 15)).aK=fc X.A.aK (bD h) ((en:Int)).toNat (dG ((u:Int)).toNat 15):=(by dsimp only[bP.set];rw[aC];grind[fc]);refine J [75,64,226,28] ?_;apply ao (b5.vT bH X.L X.last 0 h (en:Int) U);apply J [145,3,29,71];exact cN (⟨d.set (bD h) en (dG u 15),(b5.gP X.L X.last 0 (h,(en:Int))).1,(b5.gP X.L X.last 0 (h,(en:Int))).2.1⟩,(u:Int),0) (.inr ⟨rfl,b9,cl,a0,c,x,be,_,g,dw,c1,cJ,bo,jT,cg,br,by rw[D];rfl,by rw[D];rfl,by rw[D];rfl,by rw[D];rfl,by dsimp only[bP.set];omega,by dsimp only[bP.set];omega,cM,λbY=>⟨Q,cc,by rw[D];exact(cd bY).1,by rw[D];exact(cd bY).2.2⟩⟩) (ay (b1.mk aV bH:b1) trivial (bN 6 rfl (ay (⟨cI,bF,fZ⟩:fE) ⟨cC,a4⟩ ai))));rw[c4 bl];apply J [89,18,214,196,119];exact cN (X,0,1) (.inl ⟨(show(1:Int)≠0 by decide),rfl,fq.refl _ _,O,.inr (.inr (.inl bl))⟩) ai);rw[c4 a0];apply J [89,348,119];exact cN (X,0,2) (.inl ⟨(show(2:Int)≠0 by decide),rfl,fq.refl _ _,O,.inr (.inl a0)⟩) ai
 refine e rfl ?_;apply ao (qV aB af top X h V Z);refine J [6,218] ?_;intro ba;apply J [115,33];refine Ur rfl (λcf=>?_) (λcf=>absurd (Z) cf);apply J [188];exact cN (X,0,(bS X.A.l h 2).2) (.inl ⟨Z,rfl,fq.refl _ _,O,.inl Z⟩) ai
end Go.Proofs.YtglgidjhoncphaaGreatDoor
namespace Go.QM
open Go
theorem JY:∀a:Nat,a<16->∀b:Nat,b<16->IntKind.i64.wrap (U6 IntKind.i64.bits (a:Int)&&&~~~U6 IntKind.i64.bits (b:Int)).toNat=((a-(a&&&b):Nat):Int):=by decide+kernel
section
variable {P : Program} {ag : Env} {A : ax} {d : Option Nat} {ty : TypeId} {ps : String} {bh : Array Edge} {g : Option (Nat × Bool)} {t t' : TypeId} {x y : Operand} {a b c n : Nat}
theorem JZ(D:bb ag x=aa a)(E:bb ag y=aa b)(u:a<16)(C:b<16):
    bz P ag ⟨d,.binOp .andNot t x y t',ty,ps,bh,g⟩ A (aa ((a-(a&&&b):Nat):Int)):=λw _=>by
  have h:=JY a u b C
  simp[execOp,D,E,eqGuard,binOp,Op.intBits]
  simpa using h
end
end Go.QM
