/- Proved here: contracts of functions of this program, under the premises that each theorem names. -/
import Derived.Deep.Slices
import Derived.Test.YtglgidjhoncphaaGreatDoorVl
set_option linter.all false
set_option maxRecDepth 4000
set_option maxHeartbeats 4000000
open List renaming getElem?_eq_getElem->UO,getElem?_eq_some_iff->UU,getElem?_append_left->Vn,getD_eq_getElem?_getD->VO,range->VP,getElem?_cons_succ->Wk,getElem?_map->Xc,mem_range->Xq
open Go.QM.ab renaming aA->UR,loop->Vp,cut->XU
open Nat renaming pow_le_pow_right->UV,zero_le->UX,mul_one->V9,zero_add->Wc,mod_lt->XB
open Go.QM.aT renaming known->Ve
open Int renaming toNat_natCast->VY
open Go.QM.bA renaming to->V0
open Go.DataW renaming trod->Wm
open Option renaming map_some->Wo
open Go.Lib renaming ctz->Xd
open Go.World renaming cells?_some->XN
open Go.QM.b4 renaming i->XT
namespace Go.QM
open Go Go.ChangeShapes Go.WideShapes Go.RowKit
theorem y0{α:Type}{Q:Nat->α->Prop}:∀n,(∀i,i<n->∃a,Q i a)->∃xs:List α,xs.length=n/\∀i a,xs[i]? =some a->Q i a
  | 0,_=>⟨[],rfl,by simp⟩
  | n+1,h=>by
   obtain⟨xs,u,w⟩:=y0 n (λi E=>h i U);obtain⟨a,C⟩:=h n U;refine⟨xs++[a],by simp[u],λi b d=>?_⟩;rw[List.getElem?_append]at d;split at d;exact w i b d;rename_i D;have:=(UU.1 d).1;simp at this;obtain rfl:i=n:=U
   simp[u]at d;subst d;exact C
section
variable {H : Type} {enc : TypeId × Value → H} {P : Program}
variable{held:Bool}
theorem Qz{α:Type}{W:World}{ax:Nat->Bool}{r:Reach}{oC:Nat}{t e:TypeId}{v:Value}{d:DataW H}{ps:List MemPlace}(cells:α->List Value)(D:α->Prop)(sz:Nat)(ar:P.underlying t=some (.slice e))(aI:P.cellsOf e=sz)(Z:0<sz)
    (V:∀a,(cells a).length=sz)
    (a0:∀fuel cs x,Wm enc P W 0 ax held fuel e cs=some x->∃a,cs=cells a/\D a)
    (a3:Value.okWide P W r oC t v) (aV:DataW.Trod enc P W 0 ax held t v d ps):
    ∃(ad:Option Addr) (xs:List α) (cap:Nat) (E:Nat),v=.slice ad xs.length cap/\cM (here W) E ad (xs.flatMap cells)/\(∀a∈xs,D a)/\xs.length<=maxLen/\xs.length<=cap:=by
 subst aI;obtain⟨a,len,cap,rfl⟩:=okWide_slice ar a3;obtain⟨fuel,aY⟩:=aV;rcases Deep.open_slice ar aY with⟨C,_⟩|⟨w,bG,be,m,n,a8,bY,C,_,bi,bl,bn,_,aG⟩;simp[Value.cells]at C;obtain⟨rfl,rfl,rfl⟩:=C;exact⟨none,[],0,0,rfl,λ_ _=>.inl rfl,by simp,by simp,by simp⟩;simp[Value.cells]at C;obtain⟨rfl,rfl,rfl⟩:=C;have bq:len<=m:=cp
 obtain⟨xs,bz,av⟩:=y0 (Q:=λi (x:α)=>W.cells? 0 (w.add (i*P.cellsOf e)) (P.cellsOf e)=some (cells x)/\D x) len (λi O=>by obtain⟨bh,bN,a5⟩:=aG i U;obtain⟨x,rfl,u⟩:=a0 _ _ _ a5;exact⟨x,bN,u⟩);have aS:∀i v,(xs.flatMap cells)[i]? =some v->W.cell? (w.add i)=some v:=(by have a2:∀x,xs[0]? =some x->w.spot=none:=λx u=>(by obtain⟨bN,_⟩:=av 0 x u;obtain⟨_,_,ag⟩:=XN bN;have:=ag 0 Z;rw[UO (by rw[V];exact Z)]at this;simp only[Nat.zero_mul,Addr.add,if_true]at this;cases N:w.spot with|none=>rfl|some s=>simp only[World.cell?,N]at this;split at this<;>simp at this);intro i v hv;(have aq:i<(xs.flatMap cells).length:=by grind);rw[kE V]at aq;have bu:i/P.cellsOf e<xs.length:=Nat.div_lt_of_lt_mul (by rw[Nat.mul_comm];exact aq);(have u:xs[i/P.cellsOf e]? =some xs[i/P.cellsOf e]:=by simp_all);obtain⟨bN,_⟩:=av _ _ u;obtain⟨_,_,ag⟩:=XN bN;have hm:i %P.cellsOf e<P.cellsOf e:=XB _ Z;have a7:=ag _ hm;(have O:i/P.cellsOf e*P.cellsOf e+i %P.cellsOf e=i:=by grind[Nat.div_add_mod]);obtain⟨aA,a4⟩:∃aA,(cells xs[i/P.cellsOf e])[i %P.cellsOf e]? =some aA:=b2;have an:=t7 V u a4;rw[O,hv]at an;cases an;(have aB:0<xs.length:=by grind);have N:=a2 xs[0] (UO aB);obtain⟨a9,bc,bd⟩:=w;simp only at N;subst N;rw[h5,h5,Nat.add_assoc,O]at a7;grind[h5]);obtain⟨E,bp⟩:=Bl aS;grind[List.getElem?_of_mem]
variable{fuel:Nat}
theorem l5{W:World}{d:Nat->Bool}{t:TypeId}{k:IntKind}{cs:List Value}{x:DataW H×List MemPlace}(u:P.underlying t=some (.int k))(h:Wm enc P W 0 d held fuel t cs=some x):
    ∃n,cs=[.int k n]/\(Lit.int k n).wf=true:=by grind[DataW.trod_int]
theorem GA{W:World}{d:Nat->Bool}{t:TypeId}{cs:List Value}{x:DataW H×List MemPlace}(u:P.underlying t=some .bool)(h:Wm enc P W 0 d held fuel t cs=some x):
    ∃b,cs=[.bool b]:=by grind[DataW.trod_bool]
theorem GB{W:World}{V:Nat->Bool}{t e:TypeId}{k:IntKind}{cs:List Value}{x:DataW H×List MemPlace}(Q:P.underlying t=some (.slice e))(he:P.underlying e=some (.int k))(N:P.cellsOf e=1)
    (h:Wm enc P W 0 V held fuel t cs=some x):
    ∃(ad:Option Addr) (xs:List Int) (cap:Nat),cs=[.slice ad xs.length cap]/\(∃E,cM (here W) E ad (cT k xs))/\(∀n∈xs,(Lit.int k n).wf=true)/\xs.length<=maxLen/\xs.length<=cap:=by
 rcases open_ints Q he N h with⟨w,_⟩|⟨C,len,cap,u,w,_,Z,ag,an,_,D,aq⟩;exact⟨none,[],0,by simpa using w,⟨0,λ_ _=>.inl rfl⟩,by simp,by simp,by simp⟩;have av:len<=u.length:=cp
 have hlen:(u.take len).length=len:=b2
 obtain⟨E,ar⟩:=Bl (W:=W) (a:=C) (cs:=cT k (u.take len)) (λi v hv=>by simp only[cT,Xc,Option.map_eq_some_iff]at hv;obtain⟨x,d,rfl⟩:=hv;(have O:i<len:=by have:=(UU.1 d).1;omega);rw[List.getElem?_take_of_lt O]at d;have:=D i U;rw[this,VO,d];rfl);grind
end
end Go.QM
namespace Go.Proofs.YtglgidjhoncphaaGreatDoor
open Go Go.QM
def tb:List Value:=Lib.deBruijn64tab.map λn:Nat=>.int .u8 n
def qt:List Value:=ints [0,64,128,256,32,32,48,256]
def jk(k r:Int)(s:Bool):List Value:=[.int .i64 k,.int .i64 r,.bool s]
def sq:List Value:=jk 0 0 false++jk 1 1 true++jk 0 8 true++jk 3 2 true++jk 3 2 true++jk 4 2 true++jk 5 2 true++jk 5 2 true++jk 5 2 true++jk 5 1 true++jk 4 1 true++jk 0 0 false++jk 0 0 false++jk 0 0 false++jk 0 0 false++jk 2 2 true++jk 0 0 true++jk 8 1 true++jk 8 2 true
structure c7(F:ax):Prop where
  co:∃E lW,Rd F 0 (.cells qt.toArray E lW)
  LF:∃E lW,Rd F 1 (.cells sq.toArray E lW)
  To:∃E lW,Rd F 2 (.cells tb.toArray E lW)
class cz(F:ax):Prop where
  aW:c7 F
instance (A:ax)(l:List ax)[h:cz (ah l)]:cz (ah (A::l)):=⟨by
  obtain⟨⟨lR,Cg,gE⟩,⟨rx,z2,gF⟩,⟨zi,z3,gG⟩⟩:=h.aW
  exact⟨⟨lR,Cg,lI gE⟩,⟨rx,z2,lI gF⟩,⟨zi,z3,lI gG⟩⟩⟩
instance (A:ax)(l:List ax)[h:cz A]:cz (ah (A::l)):=⟨by
  obtain⟨⟨lR,Cg,gE⟩,⟨rx,z2,gF⟩,⟨zi,z3,gG⟩⟩:=h.aW
  exact⟨⟨lR,Cg,jh gE⟩,⟨rx,z2,jh gF⟩,⟨zi,z3,jh gG⟩⟩⟩
variable{k:Nat}
theorem Tp{j:Nat}(d:j<64)(u:Lib.deBruijn64tab.getD j 0=k):tb[j]? =some (jC k):=by have w:j<Lib.deBruijn64tab.length:=d;grind[tb]
theorem Tq(u:k<64):∃j,j<64/\2^k*285870213051353865 %2^64/2^58=j/\tb[0+((j:Nat):Int).toNat*1]? =some (jC k):=by obtain⟨d,w⟩:=Lib.deBruijn64_at k u;refine⟨_,d,rfl,?_⟩;rw[VY,V9,Wc];grind[Tp]
def fO(n:Nat):Nat:=(n+63)/64
structure mL where
  ad:Option Addr
  cap:Nat
def gI(b n:Nat)(f:Nat->Bool):ax:=fj λy:mL=>pure' (∀j,n<=j->f j=false) (ah [aj b 356 [.int .i64 n,.slice y.ad (fO n) y.cap],a1 47 1 y.ad (fO n) y.cap (k3 f (fO n))])
theorem KE(w:Nat):k3 (λ_=>false) w=List.replicate w (bj 0):=by rw[k3,List.eq_replicate_iff];refine⟨by simp,λv hv=>?_⟩;obtain⟨k,_,rfl⟩:=List.mem_map.1 hv;trivial
def kO(f:Nat->Bool)(i:Nat)(on:Bool):Nat->Bool:=λx=>if x=i then on else f x
theorem Hr{f:Nat->Bool}{i:Nat}{on:Bool}(h:f i=on):kO f i on=f:=by grind[kO]
theorem Bx{f:Nat->Bool}{i:Nat}{on:Bool}(h:f i≠on):kO f i on=e4 f i:=by funext x;rw[kO,e4];split;rename_i e;subst e;revert h;cases on<;>cases f x<;>simp;trivial
variable(on:Bool)
theorem R1{f:Nat->Bool}{n i:Nat}(u:i<n)(h:∀j,n<=j->f j=false):∀j,n<=j->kO f i on j=false:=λj d=>by
 rw[kO,al U];exact h j d
def qP:Option Nat->Int
  | some i=>(i:Int)
  | none=>-1
def JD(f:Nat->Bool)(on:Bool)(n o:Nat):Option Nat->Prop
  | some i=>yp f on n o i
  | none=>tq f on n o
theorem KD{f:Nat->Bool}:iq f k=0↔∀j,64*k<=j->j<64*(k+1)->f j=false:=by constructor;intro h j d u;have w:=ru f k (j-64*k);grind;intro h;apply Nat.eq_of_testBit_eq;intro j;rw[Nat.zero_testBit,ru];grind
theorem LI{x:Nat}(h:x<2^64):x/2^0*2^0 %2^64=x:=by simp;omega
variable(x:Nat)
theorem Gf(u:x<2^64):bu 291 [bj x] be [] (aa (fo x:Int)) []:=by
 apply aG Tryz.func291 Tryz.ntmps291;intro F _;apply J [9];obtain⟨-,-,d,C,D⟩:=Gi u;have E:oY (m2 (l2 (kp x)))<2^61:=by grind[oY]
 have H:jA (oY (m2 (l2 (kp x))))<2^62:=by grind[jA]
 have w:sT (jA (oY (m2 (l2 (kp x)))))<2^63:=by grind[sT]
 apply J [102,26];refine q rfl rfl (jX (n:=1) rfl rfl u rfl) ?_;refine q rfl rfl (k1 (b:=6148914691236517205) rfl rfl U am rfl) ?_;apply J [2];refine q rfl rfl (k1 (b:=6148914691236517205) rfl rfl u am rfl) ?_;refine q rfl rfl (mR (c:=kp x) rfl rfl rfl d) ?_;apply J [60];refine q rfl rfl (jX (n:=2) rfl rfl d rfl) ?_;refine q rfl rfl (k1 (b:=3689348814741910323) rfl rfl U am rfl) ?_;apply J [2];refine q rfl rfl (k1 (b:=3689348814741910323) rfl rfl d am rfl) ?_;refine q rfl rfl (mR (c:=l2 (kp x)) rfl rfl rfl U) ?_;apply J [60];refine q rfl rfl (jX (n:=4) rfl rfl U rfl) ?_;apply J [2];refine q rfl rfl (mR rfl rfl rfl U) ?_;refine q rfl rfl (k1 (b:=1085102592571150095) (c:=m2 (l2 (kp x))) rfl rfl U am rfl) ?_;apply J [60,2];refine q rfl rfl (jX (n:=8) rfl rfl U rfl) ?_;refine q rfl rfl (mR (c:=oY (m2 (l2 (kp x)))) rfl rfl rfl U) ?_;apply J [60,2];refine q rfl rfl (jX (n:=16) rfl rfl U rfl) ?_;refine q rfl rfl (mR (c:=jA (oY (m2 (l2 (kp x))))) rfl rfl rfl U) ?_;apply J [60,2];refine q rfl rfl (jX (n:=32) rfl rfl U rfl) ?_;refine q rfl rfl (mR (c:=sT (jA (oY (m2 (l2 (kp x)))))) rfl rfl rfl U) ?_;apply J [60];refine q rfl rfl (conv .u64 .i64 rfl rfl rfl (o9 w)) ?_;refine q rfl rfl (rn (b:=127) (c:=fo x) rfl rfl w am rfl) ?_;apply J [30];exact j8
theorem xe(d:x<2^64):bu 233 [bj x] be [] (aa (fo x:Int)) []:=by apply aG Tryz.func233 Tryz.ntmps233;intro F _;apply J [9,39,204,169];apply aq (Gf x d);apply J [153,30];exact j8
theorem Is(w:x<2^64):bu 232 [bj x] c7 [] (aa (Xd 64 x:Int)) []:=by
 apply aG Tryz.func232 Tryz.ntmps232;intro F O;apply J [9,39,177];apply UR rfl<;>intro d;obtain rfl:x=0:=by omega
 have Q:Xd 64 0=64:=rfl;rw[Q];apply J [196];exact j8;have d:x≠0:=U
 obtain⟨H,u⟩:=Lib.lowest_bit 64 x d w;obtain⟨j,V,D,C⟩:=Tq u;obtain⟨_,⟨E,N,P⟩⟩:=(⟨True.intro,O.To⟩:True/\_);haveI:fT F 2 (.cells tb.toArray E N):=⟨P⟩;generalize Xd 64 x=k at H u D C⊢;have W:2^k<2^64:=Nat.pow_lt_pow_right am u;apply J [4,176];refine q rfl rfl (Qa rfl d w) ?_;refine q rfl rfl (k1 (c:=2^k) rfl rfl w U H) ?_;refine q rfl rfl (P2 (b:=285870213051353865) rfl rfl rfl) ?_;refine q rfl rfl (jX (n:=58) (c:=j) rfl rfl (XB _ am) D) ?_;refine q rfl rfl (lh 64 5 1 rfl rfl rfl U U) ?_;refine q rfl rfl (gS rfl rfl C) ?_;refine q rfl rfl (conv .u8 .i64 rfl rfl rfl (o9 U)) ?_;apply J [30];exact j8
theorem Tr(u:x<2^64):bu 234 [bj x] c7 [] (aa (Xd 64 x:Int)) []:=by apply aG Tryz.func234 Tryz.ntmps234;intro F d;apply J [9];haveI:cz F:=⟨d⟩;apply J [39,204,169];apply aq (Is x u);apply J [153,30];exact j8
variable(n:Nat)
theorem Dh(h:n<=1048576):bL 235 [aa n] be [] (λb:Nat=>ae b) (λ_=>True) (λb=>[gI b n (λ_=>false)]):=by apply aG Tryz.func235 Tryz.ntmps235;intro F _;refine J [9,131,178,389,143,97] ?_;refine UR rfl (λd=>absurd d U) (λd=>?_);refine J [4,176,151,218,577,0] ?_;refine AE (E:=47) (n:=fO n) (z:=bj 0) 8 rfl rfl rfl rfl rfl rfl (by rw[fO];omega) (by rw[fO];simp only[maxLen];omega) ?_;intro bb;refine q rfl rfl (eh (cs:=[.int _ _,.slice _ _ _]) rfl) ?_;refine e rfl ?_;refine e0 (v:=.agg #[_,_]) (l:=[.int _ _,.slice _ _ _]) rfl rfl ?_;intro bo;apply J [106];exact br bo trivial (ay (⟨some ⟨bb,0,none⟩,fO n⟩:mL) (λ_ _=>rfl) (ao (by rw[KE];exact(ao (ao (aZ _))))))
variable(b:Nat)
theorem vQ(n:Nat)(v:Value):bu 230 [ae b] be [aj b 356 [aa n,v]] (aa n) [aj b 356 [aa n,v]]:=by apply aG Tryz.func230 Tryz.ntmps230;intro F _;apply J [1,39,42,40,30];exact hQ
theorem Dg(n:Nat)(f:Nat->Bool)(i:Nat)(an:n<=1048576):bu 171 [ae b,aa i] be [gI b n f] (.bool (f i)) [gI b n f]:=by
 apply aG Tryz.func171 Tryz.ntmps171;intro F _;apply J [1];refine ab.open 0 rfl (λE D=>?_);obtain⟨ad,cap⟩:=E;have u:=D;apply J [13];dsimp only at u⊢;refine J [241,271,463,11,305,94] ?_;apply aq (vQ b n (.slice ad (fO n) cap));apply J [7,408,50];refine aT.split 13 rfl (λd=>?_) (λd=>?_);have d:=dt d;have hw:i/64<fO n:=by grind[fO]
 have H:=rr f (fO n);have O:0<(k3 f (fO n)).length:=U
 have C:=KA f i;have w:=tF f (i/64);apply J [138,261,11];refine c8 rfl rfl rfl (V0 (v:=((i/64:Nat):Int)) (ll rfl rfl U U U) U) ?_;refine c8 rfl rfl rfl (gP 47 1 rfl rfl rfl U dW) ?_;refine c8 rfl rfl rfl (dC rfl rfl (by rw[V9];exact rq f hw)) ?_;apply J [11];refine c8 rfl rfl rfl (V0 (v:=((i %64:Nat):Int)) (pX rfl rfl U U) U) ?_;refine c8 rfl rfl rfl (jX rfl rfl w rfl) ?_;refine c8 rfl rfl rfl (V0 (v:=((if f i=true then 1 else 0:Nat):Int)) (J7 rfl rfl (Nat.lt_of_le_of_lt (Nat.div_le_self _ _) w)) (congrArg Int.ofNat C)) ?_;apply J [156,132];exact XT () [_] ⟨rfl,trivial⟩ (congrArg Value.bool (by cases N:f i<;>simp)) trivial (ay (⟨ad,cap⟩:mL) u ai);have d:=dX d;have hv:f i=false:=b2
 rw[hv];apply J [48,48,212,68];exact eZ (ay (⟨ad,cap⟩:mL) u ai)
theorem qr(n:Nat)(f:Nat->Bool)(i:Nat)(on:Bool)(d:Option Addr)(H:Nat)(ax:i<n)(an:n<=1048576):bu 236 [ae b,.bool on,.slice d 1 H] (λF=>∃E,cM F E d (ints [(i:Int)])) [gI b n f] (aa (if f i=on then 0 else 1)) [gI b n (kO f i on)]:=by
 apply aG Tryz.func236 Tryz.ntmps236;intro F ⟨E,Q⟩;apply J [1];haveI:bn F d E (ints [(i:Int)]):=⟨Q⟩;apply J [102,39,33,174];refine Vp (ι:=Nat) (λk=>k<=1) (λk=>[(0,ae b),(1,.bool on),(7,aa (if k=0 then 0 else if f i=on then 0 else 1)),(10,.slice d 1 H),(11,aa 1),(12,aa ((k:Nat):Int))]) (λk=>ah [gI b n (if k=0 then f else kO f i on),F]) (λk=>1-k) 0 U bC (ao (ao (aZ _))) ?_;rintro k W aV;dsimp only[cr]at W⊢;apply J [43];apply UR rfl<;>intro aB;obtain rfl:k=0:=U
 have aI:0<(ints [(i:Int)]).length:=by grind[ints]
 rw[aw rfl,aw rfl];refine ab.open 0 rfl (λD C=>?_);obtain⟨ad,cap⟩:=D;have P:=C;apply J [13];dsimp only at P⊢;refine J [186] ?_;refine q rfl rfl (dC rfl rfl (hU (xs:=[(i:Int)]) (i:=0) rfl)) ?_;apply J [60,271];refine Ve 18 rfl (c:=true) (c1 U) ?_;apply J [11,305,94];apply aq (vQ b n (.slice ad (fO n) cap));apply J [7,408,50];refine Ve 24 rfl (c:=true) (c1 U) ?_;apply J [305,11];refine aT.bg (B:=ah [gI b n f,F]) (ay (⟨ad,cap⟩:mL) P ai) ?_;refine pF rfl rfl ?_;apply aq (Dg b n f i an);apply J [5,317];refine c8 rfl rfl rfl (xc rfl rfl rfl) ?_;apply J [182];refine ab.cond rfl (λu=>?_) (λu=>?_);have u:f i≠on:=b2
 have w:=Bx (f:=f) (i:=i) (on:=on) u;have hw:i/64<fO n:=by grind[fO]
 have av:=rr f (fO n);have aS:0<(k3 f (fO n)).length:=U
 have V:=Kz f hw;have ag:=tF f (i/64);have Z:2^(i %64)<2^64:=Nat.pow_lt_pow_right am U;have O:∀j,n<=j->kO f i on j=false:=by grind[R1]
 refine ab.open 0 rfl (λD C=>?_);obtain⟨ad,cap⟩:=D;have ar:=C;apply J [13];dsimp only at ar⊢;refine ab.seq ?_;refine ab.draw _ [13] [0,1,2,3,4,5,6,7,8,9,10,11,12,-13] aM aM (aF.refl _) ?_;apply J [123,15];refine bU rfl rfl rfl (V0 (v:=((i/64:Nat):Int)) (ll rfl rfl U U U) U) ?_;refine bU rfl rfl rfl (gP 47 1 rfl rfl rfl U dW) ?_;refine bU rfl rfl rfl (dC rfl rfl (by rw[V9];exact rq f hw)) ?_;apply J [15];refine bU rfl rfl rfl (V0 (v:=((i %64:Nat):Int)) (pX rfl rfl U U) U) ?_;refine bU rfl rfl rfl (R9 rfl rfl U) ?_;refine bU rfl rfl rfl (T7 rfl rfl ag Z rfl) ?_;refine bU rfl rfl rfl (gP 47 1 rfl rfl rfl U dW) ?_;apply J [90];refine eg (v:=.int _ _) (vs:=[_]) 1 rfl rfl rfl rfl rfl rfl am U (by rw[V9,V]) ?_;refine J [74,367,72,59] ?_;exact⟨rfl,(0+1),U,U,⟨rfl,rfl,(show aa (0+1)=_ from by rw[al U,al u];rfl),rfl,rfl,rfl,trivial⟩,(by rw[al U,w];rw[w]at O;exact(ay (⟨_,_⟩:mL) O ai))⟩;have he:f i=on:=b2
 have w:=Hr he;refine J [112] ?_;exact⟨rfl,(0+1),U,U,⟨rfl,rfl,(show aa 0=_ from by rw[al U,aw he]),rfl,rfl,rfl,trivial⟩,(by rw[al U,w];exact ai)⟩;obtain rfl:k=1:=U
 have N:¬((1:Nat)=0):=U
 rw[al N,al N];apply J [21,133];exact hQ
theorem KG(n:Nat)(f:Nat->Bool)(on:Bool)(k:Nat)(u:k<fO n):bu 231 [ae b,.bool on,aa k] be [gI b n f] (bj (l4 on (iq f k):Int)) [gI b n f]:=by
 apply aG Tryz.func231 Tryz.ntmps231;intro F _;apply J [1];refine ab.open 0 rfl (λD C=>?_);obtain⟨ad,cap⟩:=D;have d:=C;apply J [13];dsimp only at d⊢;have E:=rr f (fO n);have H:0<(k3 f (fO n)).length:=U
 have w:=tF f k;apply J [39,56,3];cases on with|true=>?_|false=>?_
 refine J [17,67,2,439] ?_;refine q rfl rfl (dC rfl rfl (by rw[V9];exact rq f u)) ?_;apply J [129];exact XT () [_] ⟨rfl,trivial⟩ (by rw[l4,aw rfl];rfl) trivial (ay (⟨ad,cap⟩:mL) d ai);refine J [204,67,2,439] ?_;refine q rfl rfl (dC rfl rfl (by rw[V9];exact rq f u)) ?_;refine q rfl rfl (Lr rfl w) ?_;apply J [30];exact XT () [_] ⟨rfl,trivial⟩ (by rw[l4,al am];rfl) trivial (ay (⟨ad,cap⟩:mL) d ai)
theorem Df(n:Nat)(f:Nat->Bool)(on:Bool)(o:Nat)(a5:o<=1048577)(an:n<=1048576):bL 173 [ae b,.bool on,aa o] c7 [gI b n f] (λy:Option Nat=>aa (qP y)) (λy=>JD f on n o y) (λ_=>[gI b n f]):=by
 apply aG Tryz.func173 Tryz.ntmps173;intro F av;apply J [1];haveI:cz F:=⟨av⟩;apply J [102,26];refine q rfl rfl (V0 (v:=(o:Int)) (PF rfl rfl) (Int.max_eq_left U)) ?_;refine J [31,26,578,27,76] ?_;refine Vp (ι:=Nat) (λk=>(o/64<=k/\k<=20000)/\∀j,o<=j->j<64*k->j<n->f j≠on) (λk=>[(0,ae b),(1,.bool on),(2,aa o),(7,aa ((k:Nat):Int))]) (λk=>ah [gI b n f,F]) (λk=>20000-k) (o/64) ⟨⟨Nat.le_refl _,by omega⟩,λj O ag _=>by omega⟩ bC (ao (ao (aZ _))) ?_;rintro k ⟨⟨ax,aB⟩,eI⟩ a7;dsimp only[cr]at ax aB eI⊢;refine ab.open 0 rfl (λN d=>?_);obtain⟨ad,cap⟩:=N;have C:=d;apply J [13];dsimp only at C⊢;refine J [122,461,162,0] ?_;apply aq (vQ b n (.slice ad (fO n) cap));apply J [7,171];apply UR rfl<;>intro a4;refine ab.bg (B:=ah [gI b n f,F]) (ay (⟨ad,cap⟩:mL) C ai) ?_;have aI:k<fO n:=by grind[fO]
 have Q:=Qp (on:=on) (tF f k);apply J [64,36,20,28];apply aq (KG b n f on k aI);apply J [5,27];refine XU (ι:=Nat) (λs=>s<64/\o<=max o (64*k)/\max o (64*k)=64*k+s) (λs=>[(0,ae b),(1,.bool on),(2,aa o),(7,aa ((k:Nat):Int)),(8,bj ((l4 on (iq f k)/2^s*2^s %2^64:Nat):Int))]) (λs=>ah [gI b n f,F]) ?_ ?_;refine J [176,578,246] ?_;apply UR rfl<;>intro he;have he:k=o/64:=U
 refine J [202,2,579] ?_;refine q rfl rfl (jX rfl rfl Q rfl) ?_;refine J [2,579] ?_;refine q rfl rfl (uY rfl rfl U rfl) ?_;apply J [27];exact⟨rfl,(o %64),⟨by omega,by omega,by omega⟩,bC,ai⟩;have he:k≠o/64:=U
 apply J [4];exact⟨rfl,0,⟨by omega,by omega,by omega⟩,⟨rfl,rfl,rfl,rfl,by rw[LI Q];rfl,trivial⟩,ai⟩;rintro s ⟨w,aY,aV⟩ a8;dsimp only[cr]at w aY aV⊢;have W:=TT (f:=f) (on:=on) (k:=k) w;have Z:=TS (f:=f) (on:=on) (k:=k) w;have V:l4 on (iq f k)/2^s*2^s %2^64<2^64:=U
 generalize l4 on (iq f k)/2^s*2^s %2^64=x at W Z V⊢;refine J [26,461,28] ?_;apply aq (Is x V);apply J [5];have a2:Xd 64 x<=64:=(by by_cases e:x=0;subst e;decide;omega);refine J [151,27,199,20] ?_;refine aT.split 43 rfl (λd=>?_) (λd=>?_);have d:=dt d;obtain⟨c,O,ag,a0,ar,P⟩:=Z (λe=>d rO);rw[O];refine aT.open 0 rfl (λN d=>?_);obtain⟨ad,cap⟩:=N;have D:=d;apply J [7];dsimp only at D⊢;apply J [11,138,191,408,182];apply UR rfl<;>intro a3;apply J [142,216];exact XT (some (64*k+c)) [_] ⟨rfl,trivial⟩ (congrArg (Value.int .i64) (show _=((64*k+c:Nat):Int)by omega)) ⟨by omega,by omega,ar,λj u E=>by by_cases e:j<64*k;exact eI j u e U;exact P j U E⟩ (ay (⟨ad,cap⟩:mL) D ai);refine J [23,195] ?_;exact⟨rfl,(k+1),⟨⟨by omega,by omega⟩,λj u E H=>by by_cases e:j<64*k;exact eI j u e H;exact P j U U⟩,U,⟨rfl,rfl,rfl,rfl,trivial⟩,(ay (⟨ad,cap⟩:mL) D ai)⟩;have d:=dX d;have d:x=0:=U
 refine J [48,47,144,108,23,195] ?_;exact⟨rfl,(k+1),⟨⟨by omega,by omega⟩,λj u E H=>by by_cases e:j<64*k;exact eI j u e H;exact W d U U⟩,U,⟨rfl,rfl,rfl,rfl,trivial⟩,ai⟩;have aS:tq f on n o:=by grind[tq]
 apply J [21,209];exact br (none:Option Nat) aS (ay (⟨ad,cap⟩:mL) C ai)
theorem KF(n:Nat)(f:Nat->Bool)(an:n<=1048576):bL 295 [ae b] be [gI b n f] (λc:Nat=>aa c) (λc=>c=0↔∀j,f j=false) (λ_=>[gI b n f]):=by
 apply aG Tryz.func295 Tryz.ntmps295;intro F _;apply J [1];refine ab.open 0 rfl (λW Q=>?_);obtain⟨ad,cap⟩:=W;have D:=Q;apply J [13];dsimp only at D⊢;apply J [102,39,107];apply aq (vQ b n (.slice ad (fO n) cap));apply J [7];have av:fO n<=16384:=by grind[fO]
 refine J [151,218,577,114] ?_;refine Vp (ι:=Nat×Nat) (λx=>(x.1<=fO n/\x.2<=64*x.1)/\(x.2=0↔∀j,j<64*x.1->f j=false)) (λx=>[(0,ae b),(3,aa ((x.2:Nat):Int)),(9,aa ((fO n:Nat):Int)),(10,aa ((x.1:Nat):Int))]) (λx=>ah [aj b 356 [aa n,.slice ad (fO n) cap],a1 47 1 ad (fO n) cap (k3 f (fO n)),F]) (λx=>fO n-x.1) (0,0) ⟨⟨UX _,UX _⟩,⟨λ_ j h=>by omega,λ_=>rfl⟩⟩ bC (ao (ao (ao (aZ _)))) ?_;rintro⟨k,c⟩ ⟨⟨O,H⟩,u⟩ aB;dsimp only[cr]at O H u⊢;apply J [43];apply UR rfl<;>intro ag;have P:k<fO n:=U
 have Z:=rr f (fO n);have ar:0<(k3 f (fO n)).length:=U
 have C:=tF f k;obtain⟨ax,V,-⟩:=Gi C;refine J [64,142,202,172,58,2,439] ?_;refine q rfl rfl (dC rfl rfl (by rw[V9];exact rq f P)) ?_;refine e rfl ?_;apply aq (Gf (iq f k) C);apply J [7];refine q rfl rfl (V0 (v:=((c+fo (iq f k):Nat):Int)) (io rfl rfl U U) U) ?_;refine J [72,59] ?_;exact⟨rfl,(k+1,c+fo (iq f k)),⟨⟨by omega,by dsimp only;omega⟩,by dsimp only;rw[Nat.add_eq_zero_iff,V,KD,u];exact⟨λ⟨E,d⟩ j w=>by by_cases e:j<64*k;exact E j e;exact d j U w,λh=>⟨λj w=>h j U,λj _ d=>h j d⟩⟩⟩,cD,⟨rfl,rfl,rfl,rfl,trivial⟩,ai⟩;obtain rfl:k=fO n:=U
 have N:c=0↔∀j,f j=false:=(by grind[fO]);apply J [21,133];exact br c N (ay (⟨ad,cap⟩:mL) D ai)
structure ra where
  aE:Nat
def gr(b:Nat)(m:Nat->Nat)(n:Nat):ax:=fj λy:ra=>pure' (oD m) (ah [aj b 249 [.slice (cK y.aE) n n],aj y.aE 5 (iY m n)])
theorem KL(m:Nat->Nat){n o j:Nat}(h:o+j<n):(iY m n)[o+j*1]? =some (jC (m (o+j):Int)):=by rw[V9];exact yS m h
theorem yD(h:n=65536\/n=131072):bL 177 [aa n] be [] (λb:Nat=>ae b) (λ_=>True) (λb=>[gr b (λ_=>0) n]):=by
 apply aG Tryz.func177 Tryz.ntmps177;intro F _;apply J [9];have d:fo n=1:=by rcases h with rfl|rfl<;>decide+kernel
 refine J [131,178,389,143,41] ?_;refine Ve 9 rfl (c:=false) (dk U) ?_;refine J [11,464,94] ?_;apply aq (xe n U);apply J [153];rw[d];apply J [158,144,99,169];refine PN (E:=5) (n:=n) (z:=jC 0) 1 rfl rfl rfl rfl rfl rfl U gl ?_;intro bb;refine q rfl rfl (eh (cs:=[.slice _ _ _]) rfl) ?_;refine e rfl ?_;refine e0 (v:=.agg #[_]) (l:=[.slice _ _ _]) rfl rfl ?_;intro bo;apply J [106];exact br bo trivial (ay (⟨bb⟩:ra) (λ_=>(by decide:0<256)) (ao (b8 0 rfl (by rw[KO]) (ao (aZ _)))))
variable(aE:Nat)
theorem yE(n at_ k:Nat)(an:n<=131072)(C:at_+k<=n)(D:at_<n):bu 94 [ae b,aa at_,aa k] be [aj b 249 [.slice (cK aE) n n]] (.tuple #[.slice (some ⟨aE,at_,none⟩) k (n-at_),aa 0]) [aj b 249 [.slice (cK aE) n n]]:=by
 apply aG Tryz.func94 Tryz.ntmps94;intro F _;apply J [1];have u:(at_+k)-at_=k:=U
 have w:0+at_*1=at_:=U
 apply J [24,83,31,76,71,189,178];refine Ve 14 rfl (c:=false) (dk U) ?_;apply J [190,41];refine Ve 18 rfl (c:=false) (dk U) ?_;apply J [11,138,191,465,160,41];refine Ve 27 rfl (c:=false) (dk U) ?_;refine J [11,138,191,465,11,440,160,206] ?_;refine UR rfl (λd=>absurd d U) (λd=>?_);apply J [23,40,120,2];refine q rfl rfl (V0 (v:=((at_+k:Nat):Int)) (io rfl rfl U U) U) ?_;refine q rfl rfl (Sl (i:=at_) (j:=at_+k) 5 1 rfl rfl rfl rfl U U U) ?_;apply J [83,30];exact XT () [.slice (some ⟨aE,0+at_*1,none⟩) (at_+k-at_) (n-at_),aa 0] ⟨rfl,rfl,trivial⟩ (by rw[u,w];rfl) trivial (ao (ao (aZ _)))
theorem C5(n at_ k:Nat)(an:n<=131072)(u:at_+k*8<=n)(w:at_<n)(C:at_ %8=0):bu 169 [ae b,aa at_,aa k] be [aj b 249 [.slice (cK aE) n n]] (.tuple #[.slice (some ⟨aE,at_,none⟩) (k*8) (n-at_),aa 0]) [aj b 249 [.slice (cK aE) n n]]:=by apply aG Tryz.func169 Tryz.ntmps169;intro F _;apply J [1,24,192,35,2];refine q rfl rfl (V0 (v:=((k*8:Nat):Int)) (oa rfl rfl U U) U) ?_;refine e rfl ?_;apply aq (yE b aE n at_ (k*8) an u w);apply J [5,295,320,93,83,31,26,183];refine Ve 20 rfl (c:=true) (c1 U) ?_;refine J [11,466,158,182] ?_;refine UR rfl (λd=>absurd d U) (λd=>?_);apply J [4,287,83,30];exact hR (ao (ao (aZ _)))
theorem tA(n at_:Nat)(m:Nat->Nat)(an:n<=131072)(O:at_+8<=n)(d:at_ %8=0):bu 122 [ae b,aa at_] be [gr b m n] (.tuple #[bj (cO m at_:Int),aa 0]) [gr b m n]:=by
 apply aG Tryz.func122 Tryz.ntmps122;intro F _;apply J [1];refine ab.open 0 rfl (λN H=>?_);obtain⟨aE⟩:=N;have hm:=H;apply J [13];dsimp only at hm⊢;apply J [215,32];apply aq (C5 b aE n at_ 1 an U U d);apply J [7,295,320,93,192,39,33,467,114];refine Vp (ι:=Nat) (λk=>k<=8) (λk=>[(7,aa 0),(8,bj (kI m at_ k:Int)),(17,.slice (some ⟨aE,at_,none⟩) (1*8) (n-at_)),(18,aa 8),(19,aa ((k:Nat):Int))]) (λk=>ah [aj b 249 [.slice (cK aE) n n],aj aE 5 (iY m n),F]) (λk=>8-k) 0 U bC (ao (ao (ao (aZ _)))) ?_;rintro k C V;dsimp only[cr]at C⊢;apply J [43];apply UR rfl<;>intro Q;have D:k<8:=U
 have E:=Pp hm at_ D;have P:=hm (at_+k);have u:=Nat.lt_of_lt_of_le (wW hm at_ k) (UV (n:=2) am (show 8*k<=64 by omega));have w:at_+k<n:=U
 apply J [64,26];refine q rfl rfl (zZ (o:=at_+k*1) 5 1 rfl rfl rfl U U (by rw[VY])) ?_;refine q rfl rfl (gS rfl rfl (KL m w)) ?_;apply J [141,202,2];refine q rfl rfl (conv .u8 .u64 rfl rfl rfl (p7 U)) ?_;apply J [2];refine q rfl rfl (V0 (v:=((8*k:Nat):Int)) (oa rfl rfl U U) U) ?_;refine q rfl rfl (uY rfl rfl U rfl) ?_;refine q rfl rfl (pW rfl rfl u (XB _ am) E) ?_;refine J [72,59] ?_;exact⟨rfl,(k+1),U,U,bC,ai⟩;obtain rfl:k=8:=by omega
 apply J [21,176,69];exact hR (ay (⟨aE⟩:ra) hm ai)
theorem lK(n at_:Nat)(m:Nat->Nat)(L:List Nat)(d:Option Addr)(u:Nat)(an:n<=131072)(ax:0<L.length)(C:at_+L.length*8<=n)(D:at_ %8=0)(N:∀x∈L,x<2^64):bu 188 [ae b,aa at_,.slice d L.length u] (λF=>∃E,cM F E d (cT .u64 (L.map (λx:Nat=>(x:Int))))) [gr b m n] (aa 0) [gr b (dv m at_ L) n]:=by
 apply aG Tryz.func188 Tryz.ntmps188;intro F ⟨E,H⟩;apply J [1];haveI:bn F d E (cT .u64 (L.map (λx:Nat=>(x:Int)))):=⟨H⟩;refine ab.open 0 rfl (λav Z=>?_);obtain⟨aE⟩:=av;have hm:=Z;apply J [13];dsimp only at hm⊢;apply J [102,35,84,228,0];apply aq (C5 b aE n at_ L.length an C U D);apply J [7,295,320,93,83,31,33,467,114];refine Vp (ι:=Nat) (λk=>k<=L.length*8) (λk=>[(2,.slice d L.length u),(7,.slice (some ⟨aE,at_,none⟩) (L.length*8) (n-at_)),(8,aa 0),(19,aa ((L.length*8:Nat):Int)),(20,aa ((k:Nat):Int))]) (λk=>ah [aj b 249 [.slice (cK aE) n n],aj aE 5 (iY (j6 m at_ L k) n),F]) (λk=>L.length*8-k) 0 U bC (by rw[SG];exact(ao (ao (ao (aZ _))))) ?_;rintro k P aY;dsimp only[cr]at P⊢;apply J [43];apply UR rfl<;>intro aI;have aS:k<L.length*8:=U
 have V:k/8<L.length:=U
 obtain⟨x,w⟩:∃x,L[k/8]? =some x:=⟨L[k/8],UO V⟩;have ag:(L.map (λx:Nat=>(x:Int)))[k/8]? =some (x:Int):=b2
 have ar:=N x (List.mem_of_getElem? w);have aV:0<(cT .u64 (L.map (λx:Nat=>(x:Int)))).length:=by grind[jR]
 have O:at_+k<n:=U
 have W:dI (at_+k) [jC ((x/2^(8*(k %8)) %256:Nat):Int)] (iY (j6 m at_ L k) n)=iY (j6 m at_ L (k+1)) n:=(by rw[Dk _ O,SF,VO,w];rfl);have aB:=sw (j6 m at_ L k) n;apply J [64,142,104,2,84,2];refine q rfl rfl (V0 (v:=((k/8:Nat):Int)) (ll rfl rfl U U U) U) ?_;refine J [439] ?_;refine q rfl rfl (dC rfl rfl (pT ag)) ?_;apply J [2];refine q rfl rfl (V0 (v:=((k %8:Nat):Int)) (pX rfl rfl U U) U) ?_;refine q rfl rfl (V0 (v:=((8*(k %8):Nat):Int)) (oa rfl rfl U U) U) ?_;refine q rfl rfl (jX rfl rfl ar rfl) ?_;refine q rfl rfl (conv .u64 .u8 rfl rfl rfl (TH _)) ?_;refine q rfl rfl (zZ (o:=at_+k) 5 1 rfl rfl rfl U U (by rw[VY];omega)) ?_;refine dh ?_;refine st (v:=.int _ _) (vs:=[_]) 1 rfl rfl rfl rfl rfl rfl U W ?_;refine J [59] ?_;exact⟨rfl,(k+1),U,U,bC,ai⟩;obtain rfl:k=L.length*8:=U
 have he:j6 m at_ L (L.length*8)=dv m at_ L:=by grind[dv]
 rw[he];have Q:oD (dv m at_ L):=by grind[SE]
 apply J [21,133];exact eZ (ay (⟨aE⟩:ra) Q ai)
theorem KP(d:Option Addr)(k D:Nat)(cs:List Value)(Q:cs.length=k)(P:0<k)(V:k<=1000000)(H:cs.all Value.oneCell'=true)(O:d≠none):bL 95 [.slice d k D] (λF=>∃E,cM F E d cs) [] (λy:Option Addr×Nat=>.slice y.1 k y.2) (λ_=>True) (λ_=>[]):=by
 apply aG Tryz.func95 Tryz.ntmps95;intro F ⟨E,N⟩;apply J [9];obtain⟨u,rfl⟩:∃u,d=some u:=by cases d with|none=>exact absurd rfl O|some u=>exact⟨u,rfl⟩
 haveI:bn F (some u) E cs:=⟨N⟩;apply J [210,33];refine q rfl rfl (D2 rfl rfl rfl) ?_;apply J [99,25];refine bs (cs:=[]) rfl ?_;intro cl;apply J [262];refine ap 1 rfl rfl rfl rfl rfl U (show cs.take (k*1)=cs from List.take_of_length_le U) H U gl ?_;intro w C;apply J [105];exact XT (w,C) [_] ⟨rfl,trivial⟩ (by dsimp only;rw[Wc];rfl) trivial ai
theorem Kc(n at_ k:Nat)(m:Nat->Nat)(an:n<=131072)(u:0<k)(w:at_+k<=n):bL 41 [ae b,aa at_,aa k] be [gr b m n] (λy:Option Addr×Nat=>.tuple #[.slice y.1 k y.2,aa 0]) (λ_=>True) (λ_=>[gr b m n]):=by apply aG Tryz.func41 Tryz.ntmps41;intro F _;apply J [1];refine ab.open 0 rfl (λD C=>?_);obtain⟨aE⟩:=D;have hm:=C;apply J [13];dsimp only at hm⊢;apply J [24,192,35,28];apply aq (yE b aE n at_ k an w U);apply J [7,295,320,93,192,33];have E:=sw m n;have d:=KK m n;refine e rfl ?_;apply eQ (KP (some ⟨aE,at_,none⟩) k (n-at_) (((iY m n).drop at_).take k) (by rw[List.length_take,List.length_drop];omega) u U (by rw[List.all_eq_true]at d⊢;exact λv hv=>d v (List.mem_of_mem_drop (List.mem_of_mem_take hv))) (λh=>by cases h)) ⟨_,vB (DX 1 rfl) (CK aE 5 at_ k _)⟩;intro y _;apply J [7,2,83,30];exact cN y trivial (ay (⟨aE⟩:ra) hm ai)
theorem C3(n at_ k:Nat)(m:Nat->Nat)(an:n<=131072)(d:at_+k<=n)(u:at_<n):bu 182 [ae b,aa at_,aa k,jC 0] be [gr b m n] (aa 0) [gr b (ho m at_ k) n]:=by
 apply aG Tryz.func182 Tryz.ntmps182;intro F _;apply J [1];refine ab.open 0 rfl (λN H=>?_);obtain⟨aE⟩:=N;have hm:=H;apply J [13];dsimp only at hm⊢;apply J [102,35,28];apply aq (yE b aE n at_ k an d u);apply J [7,295,320,93,83,31,33,467,114];refine Vp (ι:=Nat) (λj=>j<=k) (λj=>[(3,jC 0),(9,.slice (some ⟨aE,at_,none⟩) k (n-at_)),(10,aa 0),(20,aa k),(21,aa ((j:Nat):Int))]) (λj=>ah [aj b 249 [.slice (cK aE) n n],aj aE 5 (iY (ho m at_ j) n),F]) (λj=>k-j) 0 U bC (by rw[Uj];exact(ao (ao (ao (aZ _))))) ?_;rintro j C Q;dsimp only[cr]at C⊢;apply J [43];apply UR rfl<;>intro P;have w:at_+j<n:=U
 have O:=sw (ho m at_ j) n;have E:dI (at_+j) [jC 0] (iY (ho m at_ j) n)=iY (ho m at_ (j+1)) n:=(by have:=Dk (ho m at_ j) w 0;grind[Ui]);apply J [64,142,104,120];refine q rfl rfl (zZ (o:=at_+j) 5 1 rfl rfl rfl U U (by rw[VY];omega)) ?_;refine dh ?_;refine st (v:=.int _ _) (vs:=[_]) 1 rfl rfl rfl rfl rfl rfl U E ?_;refine J [59] ?_;exact⟨rfl,(j+1),U,U,bC,ai⟩;obtain rfl:j=k:=U
 have D:oD (ho m at_ j):=by grind[Uh]
 apply J [21,133];exact eZ (ay (⟨aE⟩:ra) D ai)
def jZ(cd:List Nat)(x:Int):Option Value:=if cd.any (λp=>decide (x=(p:Int)*1024))=true then some (.int .i64 0)else none
theorem It{cd:List Nat}{p:Nat}(h:p∈cd):jZ cd ((p:Int)*1024)=some (aa 0):=aw (List.any_eq_true.2 ⟨p,h,c1 rfl⟩)
theorem Tv{cd:List Nat}{p:Nat}(h:p∉cd):jZ cd ((p:Int)*1024)=none:=al λd=>by
 obtain⟨q,u,e⟩:=List.any_eq_true.1 d
 have:=dt e
 exact h (by rwa[show p=q by omega])
theorem Tt(cd:List Nat)(p:Nat):fe (jZ cd) ((p:Int)*1024) (aa 0)=jZ (p::cd):=by funext x;rw[fe,jZ,jZ,List.any_cons];grind
theorem Tu{cd:List Nat}(h:cd.Nodup)(p:Nat):fU (jZ cd) ((p:Int)*1024)=jZ (cd.erase p):=by funext x;rw[fU,jZ,jZ];by_cases e:x=(p:Int)*1024;rw[aw e];grind[List.Nodup.mem_erase_iff];grind
def iM(j top:Nat)(B:Nat->Nat)(aE:Nat):List Value:=.int .i64 top::((VP 21).map (λk=>if k<j then .pointer (some ⟨(B k),0,none⟩)else .pointer none)++[.map (some aE)])
theorem yN{j top:Nat}{B:Nat->Nat}{aE:Nat}(h:k<j)(d:k<21):(iM j top B aE)[0+1+((k:Nat):Int).toNat*1]? =some (.pointer (some ⟨(B k),0,none⟩)):=by rw[VY,V9,Wc,Nat.add_comm,iM,Wk,Vn rN,Xc,List.getElem?_range d,Wo,aw h]
theorem yO(j top:Nat)(B:Nat->Nat)(aE:Nat):(iM j top B aE).length=23:=by simp[iM]
theorem ss{j top:Nat}(B:Nat->Nat)(aE x:Nat)(h:j<21):dI (0+1+((j:Nat):Int).toNat*1) [ae x] (iM j top B aE)=iM (j+1) top (λk=>if k=j then x else B k) aE:=by have e:dI (0+1+((j:Nat):Int).toNat*1) [ae x] (iM j top B aE)=(iM j top B aE).set (1+j) (ae x):=(by rw[List.set_eq_take_append_cons_drop,aw (by rw[yO];omega),VY,V9,Wc];grind[dI]);rw[e];apply List.ext_getElem?;intro i;rw[List.getElem?_set,yO];cases i with|zero=>rw[al U];rfl|succ i=>by_cases C:i<21;have d:∀j B,(iM j top B aE)[i+1]? =some (if i<j then .pointer (some ⟨(B i),0,none⟩)else .pointer none):=λj B=>(by rw[iM,Wk,Vn rN,Xc,List.getElem?_range C,Wo]);rw[d,d];by_cases u:i=j;subst u;rw[aw U,aw U,aw U,aw rfl];rw[al U];by_cases w:i<j;rw[aw w,aw U,al u];rw[al w,al U];rw[al U];have d:∀j B,(iM j top B aE)[i+1]? =[Value.map (some aE)][i-21]? :=λj B=>(by rw[iM,Wk,List.getElem?_append_right rN];simp);rw[d,d]
structure ti where
  f:j9
  B:Nat->Nat
  aE:Nat
def lg(b top:Nat)(cd:List Nat):ax:=fj λy:ti=>pure' (top<=20/\mc y.f top cd) (ah [aj b 361 (iM (top+1) top y.B y.aE),b5 (λk=>gI (y.B k) (2^(top-k)) (y.f k)) (VP (top+1)),bJ QM.encI y.aE (jZ cd) cd.length])
theorem R0(f:j9)(k i:Nat)(v:Bool):lo f k i v k=kO (f k) i v:=by funext x;rw[lo,kO];simp_all
theorem xF(f:j9){x:Nat}(i:Nat)(v:Bool)(h:x≠k):lo f k i v x=f x:=by funext y;rw[lo,al (λd=>h d.1)]
theorem rT{n:Nat}(h:k<n):∃L,(VP n).Perm (k::L)/\∀x∈L,x≠k:=by obtain⟨L,d⟩:=fp (Xq.2 h);grind[List.nodup_range]
theorem oZ{top:Nat}(h:top<=20):2^(top-k)<=1048576:=UV (n:=2) am (show top-k<=20 by omega)
variable(top:Nat)
theorem Ml:tU top top=kO (λ_=>false) 0 true:=by funext x;rw[tU,kO];simp_all
theorem Mm{top:Nat}(h:k≠top):tU top k=λ_=>false:=by funext x;exact dk λd=>h d.1
theorem Ky{f:j9}{top:Nat}{cd V:List Nat}(h:mc f top cd)(p:cd.Perm V):mc f top V:=
 ⟨h.bd,λq d=>by rw[h.aq q d];simp only[p.mem_iff],p.nodup_iff.1 h.bi,λq d=>h.lt q (p.mem_iff.2 d)⟩
theorem Tw{cd V:List Nat}(p:cd.Perm V):jZ cd=jZ V:=by grind[jZ]
theorem vN{cd V:List Nat}(p:cd.Perm V):aF (lg b top cd) (lg b top V):=h8 λh ⟨y,⟨d,u⟩,w⟩=>⟨y,⟨d,Ky u p⟩,by rw[<-Tw p,<-p.length_eq];exact w⟩
def u9:Option Nat->Int
  | some p=>(p:Int)*1024
  | none=>0
def qv{α:Type}:Option α->Int
  | some _=>0
  | none=>4
def mR(cd:List Nat):Option Nat->List Nat
  | some p=>p::cd
  | none=>cd
def JY(top:Nat)(cd:List Nat):Option Nat->Prop
  | some p=>p<2^top/\p∉cd
  | none=>2^top<=cd.length
theorem yP(h:n=65536/\top=6\/n=131072/\top=7):bL 176 [aa n] c7 [] (λb:Nat=>ae b) (λ_=>True) (λb=>[lg b top []]):=by
 apply aG Tryz.func176 Tryz.ntmps176;intro F D;apply J [9];haveI:cz F:=⟨D⟩;have N:fo n=1:=by rcases h with⟨rfl,_⟩|⟨rfl,_⟩<;>decide+kernel
 have E:Xd 64 (n/1024)=top:=by rcases h with⟨rfl,rfl⟩|⟨rfl,rfl⟩<;>decide+kernel
 have an:65536<=n/\n<=131072/\top<=7:=U
 clear h;refine J [131,178,468,143,41,518,11,464,94] ?_;apply aq (xe n U);apply J [153];rw[N];apply J [158,144,99,26];refine q rfl rfl (V0 (v:=((n/1024:Nat):Int)) (ll rfl rfl U U U) U) ?_;refine J [307,0] ?_;apply aq (Tr (n/1024) U);apply J [153];rw[E];refine J [0,328] ?_;intro bb;refine q rfl rfl (eh (cs:=iM 0 top (λ_=>0) _) rfl) ?_;refine e rfl ?_;refine e0 (v:=.agg (List.toArray (iM 0 top (λ_=>0) _))) (l:=iM 0 top (λ_=>0) _) rfl rfl ?_;intro bo;refine J [52,40,379,76] ?_;refine Vp (ι:=Nat×(Nat->Nat)) (λx=>x.1<=top+1) (λx=>[(3,ae bo),(28,aa ((top+1:Nat):Int)),(29,aa ((x.1:Nat):Int))]) (λx=>ah [aj bo 361 (iM x.1 top x.2 bb),b5 (λk=>gI (x.2 k) (2^(top-k)) (λ_=>false)) (VP x.1),bJ QM.encI bb (λ_=>none) 0,F]) (λx=>top+1-x.1) (0,λ_=>0) (UX _) bC ((nf (f:=λk=>gI 0 (2^(top-k)) (λ_=>false)) _).trans (bV (ao (ao (ao (aZ _)))))) ?_;rintro⟨j,B⟩ H Z;dsimp only[cr]at H⊢;apply J [43];apply UR rfl<;>intro V;have Q:j<=top:=U
 have u:=oZ (k:=j) (show top<=20 by omega);have W:((2^(top-j):Nat):Int)=((2^(top-j):Nat):Int):=rfl;apply J [64,142];refine ab.draw _ [13] [0,1,2,3,4,5,6,7,8,10,11,-9,12,-13] aM aM (ao (aZ _)) ?_;apply J [77,15,49,15];refine bU rfl rfl rfl (V0 (v:=((top-j:Nat):Int)) (o5 rfl rfl U U) U) ?_;refine bU rfl rfl rfl (nG (a:=1) (c:=2^(top-j)) rfl rfl U (Nat.one_mul _) U) ?_;apply J [88,430,12];apply a7 (Dh (2^(top-j)) u);intro gB _;refine J [270] ?_;have O:=ss (top:=top) B bb gB (show j<21 by omega);have P:=yO j top B bb;refine J [580,90] ?_;refine st (v:=.pointer _) (vs:=[_]) 1 rfl rfl rfl rfl rfl rfl U O ?_;refine J [301,366] ?_;exact⟨rfl,(j+1,λk=>if k=j then gB else B k),cD,cD,bC,(ao (cQ 0 0 j rfl rfl (by dsimp only;rw[aw rfl]) (λx d=>by dsimp only;rw[al (λe=>by rw[e]at d;exact absurd (Xq.1 d) (Nat.lt_irrefl _))]) (by rw[List.range_succ];exact(List.perm_append_singleton _ _).symm) (ao (ao (aZ _)))))⟩;obtain rfl:j=top+1:=U
 have u:=oZ (k:=top) (show top<=20 by omega);obtain⟨C,gi,w⟩:=rT (n:=top+1) (k:=top) U;apply J [21,8];refine cC [0,1,2,3,4,5,6,7,8,-9,-10] (ao (aZ _)) ?_;refine J [77,49,88,430,580] ?_;refine bU rfl rfl rfl (gS rfl rfl (yN U U)) ?_;refine J [12,149] ?_;intro cl;refine⟨ai,?_⟩;obtain⟨C,gi,w⟩:=rT (n:=top+1) (k:=top) U;refine b6.bg (fV 2 rfl gi) ?_;refine dJ rfl rfl ?_;apply eE (qr (B top) (2^(top-top)) (λ_=>false) 0 true (cK cl) 1 cE u) ⟨_,bn.rd (ad:=some ⟨cl,0,none⟩)⟩;refine J [237,110,36,106] ?_;exact br bo trivial (ay (⟨tU top,B,bb⟩:ti) ⟨by omega,mc.init top⟩ (c0 (cQ 0 0 top rfl rfl (by dsimp only;rw[Ml]) (λx d=>by dsimp only;rw[Mm (w x d)]) gi.symm (bV (bV (aZ _))))))
theorem C8(cd:List Nat):bL 185 [ae b,aa 0] c7 [lg b top cd] (λy:Option Nat=>.tuple #[aa (u9 y),aa (qv y)]) (λy=>JY top cd y) (λy=>[lg b top (mR cd y)]):=by
 apply aG Tryz.func185 Tryz.ntmps185;intro F aY;apply J [1];haveI:cz F:=⟨aY⟩;apply ab.open 0 rfl;rintro⟨f,B,aE⟩ ⟨C,aN⟩;apply J [86];dsimp only at aN⊢;apply J [24,242,253,190,41];refine Ve 15 rfl (c:=false) (dk U) ?_;apply J [11,138,191,160,97];refine UR rfl (λZ=>absurd Z U) (λZ=>?_);apply J [4,26,141];refine XU (ι:=Nat×Option Nat) (λx=>((∃i,x.2=some i/\x.1<=top/\f x.1 i=true)\/x.2=none/\2^top<=cd.length)) (λx=>[(0,ae b),(1,aa 0),(6,aa ((x.1:Nat):Int)),(7,aa (qP x.2))]) (λx=>ah [aj b 361 (iM (top+1) top B aE),b5 (λk=>gI (B k) (2^(top-k)) (f k)) (VP (top+1)),bJ QM.encI aE (jZ cd) cd.length,F]) ?_ ?_;refine ab.block ?_;refine Vp (ι:=Nat) (λk=>k<=top+1/\∀d,d<k->∀i,i<2^(top-d)->f d i=false) (λk=>[(0,ae b),(1,aa 0),(6,aa ((k:Nat):Int)),(7,aa (-1))]) (λk=>ah [aj b 361 (iM (top+1) top B aE),b5 (λk=>gI (B k) (2^(top-k)) (f k)) (VP (top+1)),bJ QM.encI aE (jZ cd) cd.length,F]) (λk=>top+1-k) 0 ⟨UX _,λd h=>by omega⟩ bC (ao (ao (ao (ao (aZ _))))) ?_;rintro k ⟨E,eI⟩ a9;dsimp only[cr]at E eI⊢;apply J [122,162,53];refine q rfl rfl (leq rfl rfl) ?_;refine aT.nil (ie ?_);apply UR rfl<;>intro a5;have ax:k<=top:=U
 have H:=oZ (k:=k) C;refine J [64,35,269,469,470] ?_;obtain⟨Q,gi,N⟩:=rT (n:=top+1) (k:=k) U;refine aT.bg (fV 1 rfl gi) ?_;refine e rfl ?_;apply a7 (Df (B k) (2^(top-k)) (f k) true 0 U H);intro y D;apply J [10];cases y with|none=>?_|some i=>?_
 have D:tq (f k) true (2^(top-k)) 0:=D;dsimp only[qP];refine J [60,410,108,23,195] ?_;exact⟨rfl,(k+1),⟨by omega,λd aS i av=>by by_cases e:d=k;subst e;have:=D i (UX _) av;simpa using this;exact eI d U i av⟩,U,⟨rfl,rfl,rfl,rfl,trivial⟩,(bv (cQ 0 0 k rfl rfl rfl (λ_ _=>rfl) gi.symm (ao (ao (aZ _)))))⟩;have D:yp (f k) true (2^(top-k)) 0 i:=D;dsimp only[qP];apply J [60,410,3];refine UR rfl (λag=>?_) (λag=>absurd U ag);refine ab.exit (aI rfl (kC (kC (oF (ie ?_)))));exact⟨rfl,(k,some i),.inl ⟨i,rfl,ax,D.2.2.1⟩,bC,(bv (cQ 0 0 k rfl rfl rfl (λ_ _=>rfl) gi.symm (ao (ao (aZ _)))))⟩;have O:=aN.none λd aS=>eI d U;apply J [21];exact⟨rfl,(k,none),.inr ⟨rfl,O⟩,bC,(ao (ao (ao (ao (aZ _)))))⟩;rintro⟨k,bp⟩ E a9;dsimp only[cr]at E⊢;rcases E with⟨i,rfl,E,ar⟩|⟨rfl,O⟩;dsimp only[qP];obtain⟨ax,a4⟩:=aN.bd _ _ ar;have H:=oZ (k:=k) C;have a0:=aN.take ar;apply J [122,171];refine UR rfl (λaq=>absurd aq U) (λaq=>?_);refine J [4,35,269,469,470,66] ?_;intro V;obtain⟨Q,gi,N⟩:=rT (n:=top+1) (k:=k) U;apply J [471,0];apply eE (qr (B k) (2^(top-k)) (f k) i false (cK V) 1 a4 H) ⟨_,bn.rd (ad:=some ⟨V,0,none⟩)⟩;apply J [14,3];refine XU (ι:=j9×Nat) (λx=>kw x.1 top cd 0 x.2) (λx=>[(0,ae b),(1,aa 0),(7,aa ((x.2:Nat):Int))]) (λx=>ah [aj b 361 (iM (top+1) top B aE),b5 (λk=>gI (B k) (2^(top-k)) (x.1 k)) (VP (top+1)),bJ QM.encI aE (jZ cd) cd.length,F]) ?_ ?_;refine ab.block ?_;refine Vp (ι:=j9×Nat×Nat) (λx=>kw x.1 top cd x.2.1 x.2.2) (λx=>[(0,ae b),(1,aa 0),(6,aa ((x.2.1:Nat):Int)),(7,aa ((x.2.2:Nat):Int))]) (λx=>ah [aj b 361 (iM (top+1) top B aE),b5 (λk=>gI (B k) (2^(top-k)) (x.1 k)) (VP (top+1)),bJ QM.encI aE (jZ cd) cd.length,F]) (λx=>x.2.1) (lo f k i false,k,i) a0 bC (c0 (cQ 0 0 k rfl rfl w3 (λx P=>by dsimp only;rw[xF _ _ _ (N x P)]) gi.symm (bV (bV (aZ _))))) ?_;rintro⟨f2,d,i2⟩ w bc;dsimp only[cr]at w⊢;apply J [122,2,219,3];apply UR rfl<;>intro a5;obtain⟨u,rfl⟩:∃u,d=u+1:=⟨d-1,by omega⟩;obtain⟨bl,a2⟩:=w.split;have bi:=w.hW;have bh:=w.it;have a8:=oZ (k:=u) C;have be:=wx (k:=u) (top:=top) U;apply J [64,26];refine q rfl rfl (V0 (v:=((2*i2:Nat):Int)) (oa rfl rfl U U) U) ?_;apply J [27,38,2];refine q rfl rfl (V0 (v:=((u:Nat):Int)) (o5 rfl rfl U U) U) ?_;refine J [269,469,470,2] ?_;refine q rfl rfl (V0 (v:=((2*i2+1:Nat):Int)) (io rfl rfl U U) U) ?_;refine J [0,149] ?_;intro W;obtain⟨Q,gi,N⟩:=rT (n:=top+1) (k:=u) U;apply J [471,0];apply eE (qr (B u) (2^(top-u)) (f2 u) (2*i2+1) true (cK W) 1 U a8) ⟨_,bn.rd (ad:=some ⟨W,0,none⟩)⟩;apply J [14,152,202];refine q rfl rfl (V0 (v:=((u:Nat):Int)) (o5 rfl rfl U U) U) ?_;apply J [27];exact⟨rfl,(lo f2 u (2*i2+1) true,u,2*i2),a2,cD,bC,(c0 (cQ 0 0 u rfl rfl w3 (λx P=>by dsimp only;rw[xF _ _ _ (N x P)]) gi.symm (bV (bV (aZ _)))))⟩;obtain rfl:d=0:=U
 apply J [21];exact⟨rfl,(f2,i2),w,bC,ai⟩;rintro⟨f2,i2⟩ w bc;dsimp only[cr]at w⊢;obtain⟨a3,aB,aV⟩:=w.done;have H:=oZ (k:=0) C;rw[Nat.sub_zero]at H;apply J [26];refine q rfl rfl (V0 (v:=((i2*1024:Nat):Int)) (oa rfl rfl U U) U) ?_;apply J [2];refine q rfl rfl (V0 (v:=(i2:Int)*1024) (nG (a:=i2*1024) (n:=0) (c:=i2*1024) rfl rfl U U U) U) ?_;apply J [27,127];refine q rfl rfl (cY 22 rfl rfl) ?_;apply J [82,120,19];refine lZ (v:=.int _ _) 3 3 rfl (dL.int rfl) rfl rfl rfl ?_;apply J [3,26,69];exact cN (some i2) ⟨a3,aB⟩ (ay (⟨f2,B,aE⟩:ti) ⟨C,aV⟩ (bV (bV (b8 0 rfl (by dsimp only;rw[Tv aB,Tt];rfl) (ao (aZ _))))));dsimp only[qP];apply J [122,171];refine UR rfl (λan=>?_) (λan=>absurd (am) an);apply J [24,368];exact cN none O (ay (⟨f,B,aE⟩:ti) ⟨C,aN⟩ (ao (ao (ao (ao (aZ _))))))
theorem C6(cd:List Nat)(w:Nat)(gi:w∈cd):bu 190 [ae b,aa ((w:Int)*1024)] be [lg b top cd] (aa 0) [lg b top (cd.erase w)]:=by
 apply aG Tryz.func190 Tryz.ntmps190;intro F _;apply J [1];have D:=gi;clear gi;apply ab.open 0 rfl;rintro⟨f,B,aE⟩ ⟨E,aN⟩;apply J [86];dsimp only at aN⊢;have aI:=aN.lt _ D;have av:=oZ (k:=0) E;rw[Nat.sub_zero]at av;have aq:=aN.Nt D;apply J [24,150,29,128,154,99,128,80];refine q rfl rfl (cY 22 rfl rfl) ?_;apply J [82,304,438];rw[It D];apply J [286,72,101,56,89,99,127];refine q rfl rfl (cY 22 rfl rfl) ?_;apply J [82,2,19];refine lP 3 3 rfl (dL.int rfl) rfl rfl rfl ?_;apply J [3,176];refine q rfl rfl (nG (a:=1024) (n:=0) (c:=1024) rfl rfl U rfl am) ?_;refine q rfl rfl (V0 (v:=(w:Int)) (ll rfl rfl U U U) U) ?_;apply J [27];refine XU (ι:=j9×Nat×Nat) (λx=>kw x.1 top (cd.erase w) x.2.1 x.2.2) (λx=>[(0,ae b),(5,aa ((x.2.1:Nat):Int)),(7,aa ((x.2.2:Nat):Int))]) (λx=>ah [aj b 361 (iM (top+1) top B aE),b5 (λk=>gI (B k) (2^(top-k)) (x.1 k)) (VP (top+1)),bJ QM.encI aE (jZ (cd.erase w)) (cd.erase w).length,F]) ?_ ?_;refine ab.block ?_;refine Vp (ι:=j9×Nat×Nat) (λx=>kw x.1 top (cd.erase w) x.2.1 x.2.2) (λx=>[(0,ae b),(5,aa ((x.2.1:Nat):Int)),(7,aa ((x.2.2:Nat):Int))]) (λx=>ah [aj b 361 (iM (top+1) top B aE),b5 (λk=>gI (B k) (2^(top-k)) (x.1 k)) (VP (top+1)),bJ QM.encI aE (jZ (cd.erase w)) (cd.erase w).length,F]) (λx=>top+1-x.2.1) (f,0,w) aq bC (bV (bV (b8 0 rfl (by rw[It D,Tu aN.bi,List.length_erase_of_mem D];rfl) (ao (aZ _))))) ?_;rintro⟨f2,d,i2⟩ u aA;dsimp only[cr]at u⊢;have ar:=u.hW;have W:=u.it;have N:=oZ (k:=d) E;apply J [122,162,53,374];refine aT.split 36 rfl (λC=>?_) (λC=>?_);have C:=dt C;have Z:d<top:=U
 have aB:=wx (k:=d) (top:=top) Z;have aS:=IY i2;have ax:i2^^^1<2^(top-d):=U
 apply J [305,11,509,565];refine c8 rfl rfl rfl (lh 21 294 1 rfl rfl rfl U U) ?_;refine c8 rfl rfl rfl (gS rfl rfl (yN U U)) ?_;apply J [11];refine c8 rfl rfl rfl (T5 (a:=i2) (b:=1) rfl rfl U U rfl) ?_;refine J [94,149] ?_;intro P;obtain⟨ag,gi,H⟩:=rT (n:=top+1) (k:=d) U;apply J [471,94];apply eE (qr (B d) (2^(top-d)) (f2 d) (i2^^^1) false (cK P) 1 ax N) ⟨_,bn.rd (ad:=some ⟨P,0,none⟩)⟩;apply J [14];cases V:f2 d (i2^^^1)with|true=>?_|false=>?_
 apply J [156,182,17,4,76,202];refine q rfl rfl (V0 (v:=((i2/2:Nat):Int)) (ll rfl rfl U U U) U) ?_;refine J [2,151,72,72,152] ?_;exact⟨rfl,(lo f2 d (i2^^^1) false,d+1,i2/2),(u.merge Z V),cD,bC,(c0 (cQ 0 0 d rfl rfl w3 (λx O=>by dsimp only;rw[xF _ _ _ (H x O)]) gi.symm (bV (bV (aZ _)))))⟩;rw[Hr V];apply J [156,458,108,21];exact⟨rfl,(f2,d,i2),u,bC,(c0 (cQ 0 0 d rfl rfl rfl (λ_ _=>rfl) gi.symm (bV (bV (aZ _)))))⟩;have C:=dX C;apply J [48,48,51,144,108,21];exact⟨rfl,(f2,d,i2),u,bC,ai⟩;rintro⟨f2,d,i2⟩ u aA;dsimp only[cr]at u⊢;have ar:=u.hW;have W:=u.it;have N:=oZ (k:=d) E;obtain⟨aV,an⟩:=u.fill;refine J [35,269,469,470,66] ?_;intro Q;obtain⟨ag,gi,H⟩:=rT (n:=top+1) (k:=d) U;apply J [471,0];apply eE (qr (B d) (2^(top-d)) (f2 d) i2 true (cK Q) 1 W N) ⟨_,bn.rd (ad:=some ⟨Q,0,none⟩)⟩;apply J [14,119];exact eZ (ay (⟨lo f2 d i2 true,B,aE⟩:ti) ⟨E,an⟩ (c0 (cQ 0 0 d rfl rfl w3 (λx O=>by dsimp only;rw[xF _ _ _ (H x O)]) gi.symm (bV (bV (aZ _))))))
end Go.Proofs.YtglgidjhoncphaaGreatDoor
