/- Proved here: contracts of functions of this program, under the premises that each theorem names. -/
import Derived.Deep.Slices
import Derived.Test.YtglgidjhoncphaaGreatDoorYl
set_option linter.all false
set_option maxRecDepth 4000
set_option maxHeartbeats 4000000
open List renaming getElem?_eq_getElem->Uo,getElem?_eq_some_iff->Uz,getD_eq_getElem?_getD->Vl,range->Vu,getElem?_append_left->VK,getElem?_cons_succ->VU,getElem?_map->WI,mem_range->Xu
open Go.QM.ab renaming aA->Ur,loop->UZ,cut->Xa
open Nat renaming pow_le_pow_right->Uu,zero_le->Uv,mul_one->VH,zero_add->VL,mod_lt->W6
open Go.QM.aO renaming known->UG
open Int renaming toNat_natCast->Vv
open Go.QM.bz renaming to->Vx
open Go.DataW renaming trod->VW
open Option renaming map_some->VY
open Go.Lib renaming ctz->WJ
open Go.World renaming cells?_some->Xk
open Go.QM.b8 renaming i->Xq
namespace Go.QM
open Go Go.ChangeShapes Go.WideShapes Go.RowKit
theorem yJ{α:Type}{Q:Nat->α->Prop}:∀n,(∀i,i<n->∃a,Q i a)->∃xs:List α,xs.length=n/\∀i a,xs[i]? =some a->Q i a
  | 0,_=>⟨[],rfl,by simp⟩
  | n+1,h=>by
   obtain⟨xs,u,w⟩:=yJ n (λi E=>h i U);obtain⟨a,C⟩:=h n U;refine⟨xs++[a],by simp[u],λi b d=>?_⟩;rw[List.getElem?_append]at d;split at d;exact w i b d;rename_i D;have:=(Uz.1 d).1;simp at this;obtain rfl:i=n:=U
   simp[u]at d;subst d;exact C
section
variable {H : Type} {enc : TypeId × Value → H} {P : Program}
variable{held:Bool}
theorem P7{α:Type}{W:World}{ax:Nat->Bool}{r:Reach}{aC:Nat}{t e:TypeId}{v:Value}{d:DataW H}{ps:List MemPlace}(cells:α->List Value)(D:α->Prop)(sz:Nat)(ar:P.underlying t=some (.slice e))(aQ:P.cellsOf e=sz)(Z:0<sz)
    (V:∀a,(cells a).length=sz)
    (a3:∀fuel cs x,VW enc P W 0 ax held fuel e cs=some x->∃a,cs=cells a/\D a)
    (a5:Value.okWide P W r aC t v) (a0:DataW.Trod enc P W 0 ax held t v d ps):
    ∃(ad:Option Addr) (xs:List α) (cap:Nat) (E:Nat),v=.slice ad xs.length cap/\cM (here W) E ad (xs.flatMap cells)/\(∀a∈xs,D a)/\xs.length<=maxLen/\xs.length<=cap:=by
 subst aQ;obtain⟨a,len,cap,rfl⟩:=okWide_slice ar a5;obtain⟨fuel,a2⟩:=a0;rcases Deep.open_slice ar a2 with⟨C,_⟩|⟨w,bP,bk,m,n,bb,bX,C,_,bm,bo,br,_,aK⟩;simp[Value.cells]at C;obtain⟨rfl,rfl,rfl⟩:=C;exact⟨none,[],0,0,rfl,λ_ _=>.inl rfl,by simp,by simp,by simp⟩;simp[Value.cells]at C;obtain⟨rfl,rfl,rfl⟩:=C;have bD:len<=m:=cr
 obtain⟨xs,bI,au⟩:=yJ (Q:=λi (x:α)=>W.cells? 0 (w.add (i*P.cellsOf e)) (P.cellsOf e)=some (cells x)/\D x) len (λi O=>by obtain⟨bl,bO,a8⟩:=aK i U;obtain⟨x,rfl,u⟩:=a3 _ _ _ a8;exact⟨x,bO,u⟩);have aX:∀i v,(xs.flatMap cells)[i]? =some v->W.cell? (w.add i)=some v:=(by have a4:∀x,xs[0]? =some x->w.spot=none:=λx u=>(by obtain⟨bO,_⟩:=au 0 x u;obtain⟨_,_,ag⟩:=Xk bO;have:=ag 0 Z;rw[Uo (by rw[V];exact Z)]at this;simp only[Nat.zero_mul,Addr.add,if_true]at this;cases N:w.spot with|none=>rfl|some s=>simp only[World.cell?,N]at this;split at this<;>simp at this);intro i v hv;(have ao:i<(xs.flatMap cells).length:=by grind);rw[kp V]at ao;have bE:i/P.cellsOf e<xs.length:=Nat.div_lt_of_lt_mul (by rw[Nat.mul_comm];exact ao);(have u:xs[i/P.cellsOf e]? =some xs[i/P.cellsOf e]:=by simp_all);obtain⟨bO,_⟩:=au _ _ u;obtain⟨_,_,ag⟩:=Xk bO;have hm:i %P.cellsOf e<P.cellsOf e:=W6 _ Z;have a9:=ag _ hm;(have O:i/P.cellsOf e*P.cellsOf e+i %P.cellsOf e=i:=by grind[Nat.div_add_mod]);obtain⟨aA,a7⟩:∃aA,(cells xs[i/P.cellsOf e])[i %P.cellsOf e]? =some aA:=b2;have an:=tQ V u a7;rw[O,hv]at an;cases an;(have aH:0<xs.length:=by grind);have N:=a4 xs[0] (Uo aH);obtain⟨bd,be,bh⟩:=w;simp only at N;subst N;rw[ix,ix,Nat.add_assoc,O]at a9;grind[ix]);obtain⟨E,bx⟩:=A2 aX;grind[List.getElem?_of_mem]
variable{fuel:Nat}
theorem lQ{W:World}{d:Nat->Bool}{t:TypeId}{k:IntKind}{cs:List Value}{x:DataW H×List MemPlace}(u:P.underlying t=some (.int k))(h:VW enc P W 0 d held fuel t cs=some x):
    ∃n,cs=[.int k n]/\(Lit.int k n).wf=true:=by grind[DataW.trod_int]
theorem F9{W:World}{d:Nat->Bool}{t:TypeId}{cs:List Value}{x:DataW H×List MemPlace}(u:P.underlying t=some .bool)(h:VW enc P W 0 d held fuel t cs=some x):
    ∃b,cs=[.bool b]:=by grind[DataW.trod_bool]
theorem Ga{W:World}{V:Nat->Bool}{t e:TypeId}{k:IntKind}{cs:List Value}{x:DataW H×List MemPlace}(Q:P.underlying t=some (.slice e))(he:P.underlying e=some (.int k))(N:P.cellsOf e=1)
    (h:VW enc P W 0 V held fuel t cs=some x):
    ∃(ad:Option Addr) (xs:List Int) (cap:Nat),cs=[.slice ad xs.length cap]/\(∃E,cM (here W) E ad (ch k xs))/\(∀n∈xs,(Lit.int k n).wf=true)/\xs.length<=maxLen/\xs.length<=cap:=by
 rcases open_ints Q he N h with⟨w,_⟩|⟨C,len,cap,u,w,_,Z,ag,an,_,D,ao⟩;exact⟨none,[],0,by simpa using w,⟨0,λ_ _=>.inl rfl⟩,by simp,by simp,by simp⟩;have au:len<=u.length:=cr
 have hlen:(u.take len).length=len:=b2
 obtain⟨E,ar⟩:=A2 (W:=W) (a:=C) (cs:=ch k (u.take len)) (λi v hv=>by simp only[ch,WI,Option.map_eq_some_iff]at hv;obtain⟨x,d,rfl⟩:=hv;(have O:i<len:=by have:=(Uz.1 d).1;omega);rw[List.getElem?_take_of_lt O]at d;have:=D i U;rw[this,Vl,d];rfl);grind
end
end Go.QM
namespace Go.Proofs.YtglgidjhoncphaaGreatDoor
open Go Go.QM
def s5:List Value:=Lib.deBruijn64tab.map λn:Nat=>.int .u8 n
def qj:List Value:=ints [0,64,128,256,32,32,48,256]
def je(k r:Int)(s:Bool):List Value:=[.int .i64 k,.int .i64 r,.bool s]
def sg:List Value:=je 0 0 false++je 1 1 true++je 0 8 true++je 3 2 true++je 3 2 true++je 4 2 true++je 5 2 true++je 5 2 true++je 5 2 true++je 5 1 true++je 4 1 true++je 0 0 false++je 0 0 false++je 0 0 false++je 0 0 false++je 2 2 true++je 0 0 true++je 8 1 true++je 8 2 true
structure c8(F:ax):Prop where
  co:∃E lG,Rd F 0 (.cells qj.toArray E lG)
  K7:∃E lG,Rd F 1 (.cells sg.toArray E lG)
  SY:∃E lG,Rd F 2 (.cells s5.toArray E lG)
class cw(F:ax):Prop where
  aW:c8 F
instance (A:ax)(l:List ax)[h:cw (ah l)]:cw (ah (A::l)):=⟨by
  obtain⟨⟨m3,BS,gy⟩,⟨sp,z2,gz⟩,⟨y2,z3,gA⟩⟩:=h.aW
  exact⟨⟨m3,BS,lr gy⟩,⟨sp,z2,lr gz⟩,⟨y2,z3,lr gA⟩⟩⟩
instance (A:ax)(l:List ax)[h:cw A]:cw (ah (A::l)):=⟨by
  obtain⟨⟨m3,BS,gy⟩,⟨sp,z2,gz⟩,⟨y2,z3,gA⟩⟩:=h.aW
  exact⟨⟨m3,BS,jb gy⟩,⟨sp,z2,jb gz⟩,⟨y2,z3,jb gA⟩⟩⟩
variable{k:Nat}
theorem SZ{j:Nat}(d:j<64)(u:Lib.deBruijn64tab.getD j 0=k):s5[j]? =some (k9 k):=by have w:j<Lib.deBruijn64tab.length:=d;grind[s5]
theorem S0(u:k<64):∃j,j<64/\2^k*285870213051353865 %2^64/2^58=j/\s5[0+((j:Nat):Int).toNat*1]? =some (k9 k):=by obtain⟨d,w⟩:=Lib.deBruijn64_at k u;refine⟨_,d,rfl,?_⟩;rw[Vv,VH,VL];grind[SZ]
def fH(n:Nat):Nat:=(n+63)/64
structure mw where
  ad:Option Addr
  cap:Nat
def gC(b n:Nat)(f:Nat->Bool):ax:=fj λy:mw=>pure' (∀j,n<=j->f j=false) (ah [aj b 356 [.int .i64 n,.slice y.ad (fH n) y.cap],aT 47 1 y.ad (fH n) y.cap (kQ f (fH n))])
theorem J6(w:Nat):kQ (λ_=>false) w=List.replicate w (bg 0):=by rw[kQ,List.eq_replicate_iff];refine⟨by simp,λv hv=>?_⟩;obtain⟨k,_,rfl⟩:=List.mem_map.1 hv;trivial
def kC(f:Nat->Bool)(i:Nat)(on:Bool):Nat->Bool:=λx=>if x=i then on else f x
theorem G1{f:Nat->Bool}{i:Nat}{on:Bool}(h:f i=on):kC f i on=f:=by grind[kC]
theorem Bd{f:Nat->Bool}{i:Nat}{on:Bool}(h:f i≠on):kC f i on=e5 f i:=by funext x;rw[kC,e5];split;rename_i e;subst e;revert h;cases on<;>cases f x<;>simp;trivial
variable(on:Bool)
theorem Rz{f:Nat->Bool}{n i:Nat}(u:i<n)(h:∀j,n<=j->f j=false):∀j,n<=j->kC f i on j=false:=λj d=>by
 rw[kC,al U];exact h j d
def qE:Option Nat->Int
  | some i=>(i:Int)
  | none=>-1
def Ja(f:Nat->Bool)(on:Bool)(n o:Nat):Option Nat->Prop
  | some i=>x9 f on n o i
  | none=>th f on n o
theorem J5{f:Nat->Bool}:ih f k=0↔∀j,64*k<=j->j<64*(k+1)->f j=false:=by constructor;intro h j d u;have w:=q9 f k (j-64*k);grind;intro h;apply Nat.eq_of_testBit_eq;intro j;rw[Nat.zero_testBit,q9];grind
theorem La{x:Nat}(h:x<2^64):x/2^0*2^0 %2^64=x:=by simp;omega
variable(x:Nat)
theorem FQ(u:x<2^64):br 291 [bg x] be [] (aa (fo x:Int)) []:=by
 apply aH Tryz.func291 Tryz.ntmps291;intro F _;apply J [9];obtain⟨-,-,d,C,D⟩:=FT u;have E:oL (mQ (lN (j9 x)))<2^61:=by grind[oL]
 have H:js (oL (mQ (lN (j9 x))))<2^62:=by grind[js]
 have w:sN (js (oL (mQ (lN (j9 x)))))<2^63:=by grind[sN]
 apply J [102,29];refine q rfl rfl (jK (n:=1) rfl rfl u rfl) ?_;refine q rfl rfl (kO (b:=6148914691236517205) rfl rfl U am rfl) ?_;apply J [2];refine q rfl rfl (kO (b:=6148914691236517205) rfl rfl u am rfl) ?_;refine q rfl rfl (mD (c:=j9 x) rfl rfl rfl d) ?_;apply J [61];refine q rfl rfl (jK (n:=2) rfl rfl d rfl) ?_;refine q rfl rfl (kO (b:=3689348814741910323) rfl rfl U am rfl) ?_;apply J [2];refine q rfl rfl (kO (b:=3689348814741910323) rfl rfl d am rfl) ?_;refine q rfl rfl (mD (c:=lN (j9 x)) rfl rfl rfl U) ?_;apply J [61];refine q rfl rfl (jK (n:=4) rfl rfl U rfl) ?_;apply J [2];refine q rfl rfl (mD rfl rfl rfl U) ?_;refine q rfl rfl (kO (b:=1085102592571150095) (c:=mQ (lN (j9 x))) rfl rfl U am rfl) ?_;apply J [61,2];refine q rfl rfl (jK (n:=8) rfl rfl U rfl) ?_;refine q rfl rfl (mD (c:=oL (mQ (lN (j9 x)))) rfl rfl rfl U) ?_;apply J [61,2];refine q rfl rfl (jK (n:=16) rfl rfl U rfl) ?_;refine q rfl rfl (mD (c:=js (oL (mQ (lN (j9 x))))) rfl rfl rfl U) ?_;apply J [61,2];refine q rfl rfl (jK (n:=32) rfl rfl U rfl) ?_;refine q rfl rfl (mD (c:=sN (js (oL (mQ (lN (j9 x)))))) rfl rfl rfl U) ?_;apply J [61];refine q rfl rfl (conv .u64 .i64 rfl rfl rfl (oU w)) ?_;refine q rfl rfl (qg (b:=127) (c:=fo x) rfl rfl w am rfl) ?_;apply J [30];exact jY
theorem wY(d:x<2^64):br 233 [bg x] be [] (aa (fo x:Int)) []:=by apply aH Tryz.func233 Tryz.ntmps233;intro F _;apply J [9,38,202,170];apply ao (FQ x d);apply J [151,30];exact jY
theorem HY(w:x<2^64):br 232 [bg x] c8 [] (aa (WJ 64 x:Int)) []:=by
 apply aH Tryz.func232 Tryz.ntmps232;intro F O;apply J [9,38,208];apply Ur rfl<;>intro d;obtain rfl:x=0:=by omega
 have Q:WJ 64 0=64:=rfl;rw[Q];apply J [209];exact jY;have d:x≠0:=U
 obtain⟨H,u⟩:=Lib.lowest_bit 64 x d w;obtain⟨j,V,D,C⟩:=S0 u;obtain⟨_,⟨E,N,P⟩⟩:=(⟨True.intro,O.SY⟩:True/\_);haveI:fP F 2 (.cells s5.toArray E N):=⟨P⟩;generalize WJ 64 x=k at H u D C⊢;have W:2^k<2^64:=Nat.pow_lt_pow_right am u;apply J [4,198];refine q rfl rfl (PJ rfl d w) ?_;refine q rfl rfl (kO (c:=2^k) rfl rfl w U H) ?_;refine q rfl rfl (PB (b:=285870213051353865) rfl rfl rfl) ?_;refine q rfl rfl (jK (n:=58) (c:=j) rfl rfl (W6 _ am) D) ?_;refine q rfl rfl (k1 64 5 1 rfl rfl rfl U U) ?_;refine q rfl rfl (gJ rfl rfl C) ?_;refine q rfl rfl (conv .u8 .i64 rfl rfl rfl (oU U)) ?_;apply J [30];exact jY
theorem S1(u:x<2^64):br 234 [bg x] c8 [] (aa (WJ 64 x:Int)) []:=by apply aH Tryz.func234 Tryz.ntmps234;intro F d;apply J [9];haveI:cw F:=⟨d⟩;apply J [38,202,170];apply ao (HY x u);apply J [151,30];exact jY
variable(n:Nat)
theorem CR(h:n<=1048576):bI 235 [aa n] be [] (λb:Nat=>ae b) (λ_=>True) (λb=>[gC b n (λ_=>false)]):=by apply aH Tryz.func235 Tryz.ntmps235;intro F _;refine J [9,131,176,392,169,103] ?_;refine Ur rfl (λd=>absurd d U) (λd=>?_);refine J [4,198,150,241,583,0] ?_;refine Ao (E:=47) (n:=fH n) (z:=bg 0) 8 rfl rfl rfl rfl rfl rfl (by rw[fH];omega) (by rw[fH];simp only[maxLen];omega) ?_;intro ba;refine q rfl rfl (eh (cs:=[.int _ _,.slice _ _ _]) rfl) ?_;refine e rfl ?_;refine eV (v:=.agg #[_,_]) (l:=[.int _ _,.slice _ _ _]) rfl rfl ?_;intro bw;apply J [109];exact bn bw trivial (ay (⟨some ⟨ba,0,none⟩,fH n⟩:mw) (λ_ _=>rfl) (aq (by rw[J6];exact(aq (aq (a6 _))))))
variable(b:Nat)
theorem vA(n:Nat)(v:Value):br 230 [ae b] be [aj b 356 [aa n,v]] (aa n) [aj b 356 [aa n,v]]:=by apply aH Tryz.func230 Tryz.ntmps230;intro F _;apply J [1,38,41,39,30];exact hI
theorem CQ(n:Nat)(f:Nat->Bool)(i:Nat)(au:n<=1048576):br 171 [ae b,aa i] be [gC b n f] (.bool (f i)) [gC b n f]:=by
 apply aH Tryz.func171 Tryz.ntmps171;intro F _;apply J [1];refine ab.open 0 rfl (λE D=>?_);obtain⟨ad,cap⟩:=E;have u:=D;apply J [12];dsimp only at u⊢;refine J [223,235,465,16,299,90] ?_;apply ao (vA b n (.slice ad (fH n) cap));apply J [8,388,52];refine aO.split 13 rfl (λd=>?_) (λd=>?_);have d:=ds d;have hw:i/64<fH n:=by grind[fH]
 have H:=q8 f (fH n);have O:0<(kQ f (fH n)).length:=U
 have C:=J2 f i;have w:=tw f (i/64);apply J [138,201,16];refine c5 rfl rfl rfl (Vx (v:=((i/64:Nat):Int)) (k4 rfl rfl U U U) U) ?_;refine c5 rfl rfl rfl (gD 47 1 rfl rfl rfl U dW) ?_;refine c5 rfl rfl rfl (dv rfl rfl (by rw[VH];exact q7 f hw)) ?_;apply J [16];refine c5 rfl rfl rfl (Vx (v:=((i %64:Nat):Int)) (pJ rfl rfl U U) U) ?_;refine c5 rfl rfl rfl (jK rfl rfl w rfl) ?_;refine c5 rfl rfl rfl (Vx (v:=((if f i=true then 1 else 0:Nat):Int)) (JB rfl rfl (Nat.lt_of_le_of_lt (Nat.div_le_self _ _) w)) (congrArg Int.ofNat C)) ?_;apply J [92,130];exact Xq () [_] ⟨rfl,trivial⟩ (congrArg Value.bool (by cases N:f i<;>simp)) trivial (ay (⟨ad,cap⟩:mw) u ai);have d:=dV d;have hv:f i=false:=b2
 rw[hv];apply J [48,48,214,70];exact fa (ay (⟨ad,cap⟩:mw) u ai)
theorem qh(n:Nat)(f:Nat->Bool)(i:Nat)(on:Bool)(d:Option Addr)(H:Nat)(ax:i<n)(au:n<=1048576):br 236 [ae b,.bool on,.slice d 1 H] (λF=>∃E,cM F E d (ints [(i:Int)])) [gC b n f] (aa (if f i=on then 0 else 1)) [gC b n (kC f i on)]:=by
 apply aH Tryz.func236 Tryz.ntmps236;intro F ⟨E,Q⟩;apply J [1];haveI:bl F d E (ints [(i:Int)]):=⟨Q⟩;apply J [102,38,35,174];refine UZ (ι:=Nat) (λk=>k<=1) (λk=>[(0,ae b),(1,.bool on),(7,aa (if k=0 then 0 else if f i=on then 0 else 1)),(10,.slice d 1 H),(11,aa 1),(12,aa ((k:Nat):Int))]) (λk=>ah [gC b n (if k=0 then f else kC f i on),F]) (λk=>1-k) 0 U bu (aq (aq (a6 _))) ?_;rintro k W aX;dsimp only[ct]at W⊢;apply J [40];apply Ur rfl<;>intro aC;obtain rfl:k=0:=U
 have aK:0<(ints [(i:Int)]).length:=by grind[ints]
 rw[aw rfl,aw rfl];refine ab.open 0 rfl (λD C=>?_);obtain⟨ad,cap⟩:=D;have P:=C;apply J [12];dsimp only at P⊢;refine J [187] ?_;refine q rfl rfl (dv rfl rfl (hN (xs:=[(i:Int)]) (i:=0) rfl)) ?_;apply J [61,235];refine UG 18 rfl (c:=true) (cR U) ?_;apply J [16,299,90];apply ao (vA b n (.slice ad (fH n) cap));apply J [8,388,52];refine UG 24 rfl (c:=true) (cR U) ?_;apply J [299,16];refine aO.bf (B:=ah [gC b n f,F]) (ay (⟨ad,cap⟩:mw) P ai) ?_;refine pj rfl rfl ?_;apply ao (CQ b n f i au);apply J [6,244];refine c5 rfl rfl rfl (wV rfl rfl rfl) ?_;apply J [268];refine ab.cond rfl (λu=>?_) (λu=>?_);have u:f i≠on:=b2
 have w:=Bd (f:=f) (i:=i) (on:=on) u;have hw:i/64<fH n:=by grind[fH]
 have ar:=q8 f (fH n);have aQ:0<(kQ f (fH n)).length:=U
 have V:=J1 f hw;have ag:=tw f (i/64);have Z:2^(i %64)<2^64:=Nat.pow_lt_pow_right am U;have O:∀j,n<=j->kC f i on j=false:=by grind[Rz]
 refine ab.open 0 rfl (λD C=>?_);obtain⟨ad,cap⟩:=D;have an:=C;apply J [12];dsimp only at an⊢;refine ab.seq ?_;refine ab.draw _ [13] [0,1,2,3,4,5,6,7,8,9,10,11,12,-13] aR aR (aF.refl _) ?_;apply J [136,14];refine bU rfl rfl rfl (Vx (v:=((i/64:Nat):Int)) (k4 rfl rfl U U U) U) ?_;refine bU rfl rfl rfl (gD 47 1 rfl rfl rfl U dW) ?_;refine bU rfl rfl rfl (dv rfl rfl (by rw[VH];exact q7 f hw)) ?_;apply J [14];refine bU rfl rfl rfl (Vx (v:=((i %64:Nat):Int)) (pJ rfl rfl U U) U) ?_;refine bU rfl rfl rfl (RH rfl rfl U) ?_;refine bU rfl rfl rfl (TF rfl rfl ag Z rfl) ?_;refine bU rfl rfl rfl (gD 47 1 rfl rfl rfl U dW) ?_;apply J [91];refine ef (v:=.int _ _) (vs:=[_]) 1 rfl rfl rfl rfl rfl rfl am U (by rw[VH,V]) ?_;refine J [75,347,73,60] ?_;exact⟨rfl,(0+1),U,U,⟨rfl,rfl,(show aa (0+1)=_ from by rw[al U,al u];rfl),rfl,rfl,rfl,trivial⟩,(by rw[al U,w];rw[w]at O;exact(ay (⟨_,_⟩:mw) O ai))⟩;have he:f i=on:=b2
 have w:=G1 he;refine J [111] ?_;exact⟨rfl,(0+1),U,U,⟨rfl,rfl,(show aa 0=_ from by rw[al U,aw he]),rfl,rfl,rfl,trivial⟩,(by rw[al U,w];exact ai)⟩;obtain rfl:k=1:=U
 have N:¬((1:Nat)=0):=U
 rw[al N,al N];apply J [22,132];exact hI
theorem J8(n:Nat)(f:Nat->Bool)(on:Bool)(k:Nat)(u:k<fH n):br 231 [ae b,.bool on,aa k] be [gC b n f] (bg (lP on (ih f k):Int)) [gC b n f]:=by
 apply aH Tryz.func231 Tryz.ntmps231;intro F _;apply J [1];refine ab.open 0 rfl (λD C=>?_);obtain⟨ad,cap⟩:=D;have d:=C;apply J [12];dsimp only at d⊢;have E:=q8 f (fH n);have H:0<(kQ f (fH n)).length:=U
 have w:=tw f k;apply J [38,168,3];cases on with|true=>?_|false=>?_
 refine J [15,64,2,443] ?_;refine q rfl rfl (dv rfl rfl (by rw[VH];exact q7 f u)) ?_;apply J [127];exact Xq () [_] ⟨rfl,trivial⟩ (by rw[lP,aw rfl];rfl) trivial (ay (⟨ad,cap⟩:mw) d ai);refine J [202,64,2,443] ?_;refine q rfl rfl (dv rfl rfl (by rw[VH];exact q7 f u)) ?_;refine q rfl rfl (KU rfl w) ?_;apply J [30];exact Xq () [_] ⟨rfl,trivial⟩ (by rw[lP,al am];rfl) trivial (ay (⟨ad,cap⟩:mw) d ai)
theorem CP(n:Nat)(f:Nat->Bool)(on:Bool)(o:Nat)(a7:o<=1048577)(au:n<=1048576):bI 173 [ae b,.bool on,aa o] c8 [gC b n f] (λy:Option Nat=>aa (qE y)) (λy=>Ja f on n o y) (λ_=>[gC b n f]):=by
 apply aH Tryz.func173 Tryz.ntmps173;intro F ar;apply J [1];haveI:cw F:=⟨ar⟩;apply J [102,29];refine q rfl rfl (Vx (v:=(o:Int)) (Fp rfl rfl) (Int.max_eq_left U)) ?_;refine J [31,29,584,27,76] ?_;refine UZ (ι:=Nat) (λk=>(o/64<=k/\k<=20000)/\∀j,o<=j->j<64*k->j<n->f j≠on) (λk=>[(0,ae b),(1,.bool on),(2,aa o),(7,aa ((k:Nat):Int))]) (λk=>ah [gC b n f,F]) (λk=>20000-k) (o/64) ⟨⟨Nat.le_refl _,by omega⟩,λj O ag _=>by omega⟩ bu (aq (aq (a6 _))) ?_;rintro k ⟨⟨ax,aC⟩,eJ⟩ a8;dsimp only[ct]at ax aC eJ⊢;refine ab.open 0 rfl (λN d=>?_);obtain⟨ad,cap⟩:=N;have C:=d;apply J [12];dsimp only at C⊢;refine J [129,463,157,0] ?_;apply ao (vA b n (.slice ad (fH n) cap));apply J [8,191];apply Ur rfl<;>intro a5;refine ab.bf (B:=ah [gC b n f,F]) (ay (⟨ad,cap⟩:mw) C ai) ?_;have aK:k<fH n:=by grind[fH]
 have Q:=PX (on:=on) (tw f k);apply J [62,37,18,28];apply ao (J8 b n f on k aK);apply J [6,27];refine Xa (ι:=Nat) (λs=>s<64/\o<=max o (64*k)/\max o (64*k)=64*k+s) (λs=>[(0,ae b),(1,.bool on),(2,aa o),(7,aa ((k:Nat):Int)),(8,bg ((lP on (ih f k)/2^s*2^s %2^64:Nat):Int))]) (λs=>ah [gC b n f,F]) ?_ ?_;refine J [198,584,225] ?_;apply Ur rfl<;>intro he;have he:k=o/64:=U
 refine J [212,2,585] ?_;refine q rfl rfl (jK rfl rfl Q rfl) ?_;refine J [2,585] ?_;refine q rfl rfl (uI rfl rfl U rfl) ?_;apply J [27];exact⟨rfl,(o %64),⟨by omega,by omega,by omega⟩,bu,ai⟩;have he:k≠o/64:=U
 apply J [4];exact⟨rfl,0,⟨by omega,by omega,by omega⟩,⟨rfl,rfl,rfl,rfl,by rw[La Q];rfl,trivial⟩,ai⟩;rintro s ⟨w,a0,aX⟩ a9;dsimp only[ct]at w a0 aX⊢;have W:=Tr (f:=f) (on:=on) (k:=k) w;have Z:=Tq (f:=f) (on:=on) (k:=k) w;have V:lP on (ih f k)/2^s*2^s %2^64<2^64:=U
 generalize lP on (ih f k)/2^s*2^s %2^64=x at W Z V⊢;refine J [29,463,28] ?_;apply ao (HY x V);apply J [6];have a3:WJ 64 x<=64:=(by by_cases e:x=0;subst e;decide;omega);refine J [150,27,172,18] ?_;refine aO.split 43 rfl (λd=>?_) (λd=>?_);have d:=ds d;obtain⟨c,O,ag,a2,an,P⟩:=Z (λe=>d ry);rw[O];refine aO.open 0 rfl (λN d=>?_);obtain⟨ad,cap⟩:=N;have D:=d;apply J [8];dsimp only at D⊢;apply J [16,138,139,388,268];apply Ur rfl<;>intro a4;apply J [142,163];exact Xq (some (64*k+c)) [_] ⟨rfl,trivial⟩ (congrArg (Value.int .i64) (show _=((64*k+c:Nat):Int)by omega)) ⟨by omega,by omega,an,λj u E=>by by_cases e:j<64*k;exact eJ j u e U;exact P j U E⟩ (ay (⟨ad,cap⟩:mw) D ai);refine J [23,186] ?_;exact⟨rfl,(k+1),⟨⟨by omega,by omega⟩,λj u E H=>by by_cases e:j<64*k;exact eJ j u e H;exact P j U U⟩,U,⟨rfl,rfl,rfl,rfl,trivial⟩,(ay (⟨ad,cap⟩:mw) D ai)⟩;have d:=dV d;have d:x=0:=U
 refine J [48,49,93,116,23,186] ?_;exact⟨rfl,(k+1),⟨⟨by omega,by omega⟩,λj u E H=>by by_cases e:j<64*k;exact eJ j u e H;exact W d U U⟩,U,⟨rfl,rfl,rfl,rfl,trivial⟩,ai⟩;have aQ:th f on n o:=by grind[th]
 apply J [22,207];exact bn (none:Option Nat) aQ (ay (⟨ad,cap⟩:mw) C ai)
theorem J7(n:Nat)(f:Nat->Bool)(au:n<=1048576):bI 295 [ae b] be [gC b n f] (λc:Nat=>aa c) (λc=>c=0↔∀j,f j=false) (λ_=>[gC b n f]):=by
 apply aH Tryz.func295 Tryz.ntmps295;intro F _;apply J [1];refine ab.open 0 rfl (λW Q=>?_);obtain⟨ad,cap⟩:=W;have D:=Q;apply J [12];dsimp only at D⊢;apply J [102,38,69];apply ao (vA b n (.slice ad (fH n) cap));apply J [8];have ar:fH n<=16384:=by grind[fH]
 refine J [150,241,583,113] ?_;refine UZ (ι:=Nat×Nat) (λx=>(x.1<=fH n/\x.2<=64*x.1)/\(x.2=0↔∀j,j<64*x.1->f j=false)) (λx=>[(0,ae b),(3,aa ((x.2:Nat):Int)),(9,aa ((fH n:Nat):Int)),(10,aa ((x.1:Nat):Int))]) (λx=>ah [aj b 356 [aa n,.slice ad (fH n) cap],aT 47 1 ad (fH n) cap (kQ f (fH n)),F]) (λx=>fH n-x.1) (0,0) ⟨⟨Uv _,Uv _⟩,⟨λ_ j h=>by omega,λ_=>rfl⟩⟩ bu (aq (aq (aq (a6 _)))) ?_;rintro⟨k,c⟩ ⟨⟨O,H⟩,u⟩ aC;dsimp only[ct]at O H u⊢;apply J [40];apply Ur rfl<;>intro ag;have P:k<fH n:=U
 have Z:=q8 f (fH n);have an:0<(kQ f (fH n)).length:=U
 have C:=tw f k;obtain⟨ax,V,-⟩:=FT C;refine J [62,142,212,173,57,2,443] ?_;refine q rfl rfl (dv rfl rfl (by rw[VH];exact q7 f P)) ?_;refine e rfl ?_;apply ao (FQ (ih f k) C);apply J [8];refine q rfl rfl (Vx (v:=((c+fo (ih f k):Nat):Int)) (ig rfl rfl U U) U) ?_;refine J [73,60] ?_;exact⟨rfl,(k+1,c+fo (ih f k)),⟨⟨by omega,by dsimp only;omega⟩,by dsimp only;rw[Nat.add_eq_zero_iff,V,J5,u];exact⟨λ⟨E,d⟩ j w=>by by_cases e:j<64*k;exact E j e;exact d j U w,λh=>⟨λj w=>h j U,λj _ d=>h j d⟩⟩⟩,cH,⟨rfl,rfl,rfl,rfl,trivial⟩,ai⟩;obtain rfl:k=fH n:=U
 have N:c=0↔∀j,f j=false:=(by grind[fH]);apply J [22,132];exact bn c N (ay (⟨ad,cap⟩:mw) D ai)
structure qX where
  aE:Nat
def gn(b:Nat)(m:Nat->Nat)(n:Nat):ax:=fj λy:qX=>pure' (oo m) (ah [aj b 249 [.slice (cL y.aE) n n],aj y.aE 5 (iR m n)])
theorem Kd(m:Nat->Nat){n o j:Nat}(h:o+j<n):(iR m n)[o+j*1]? =some (k9 (m (o+j):Int)):=by rw[VH];exact yB m h
theorem ym(h:n=65536\/n=131072):bI 177 [aa n] be [] (λb:Nat=>ae b) (λ_=>True) (λb=>[gn b (λ_=>0) n]):=by
 apply aH Tryz.func177 Tryz.ntmps177;intro F _;apply J [9];have d:fo n=1:=by rcases h with rfl|rfl<;>decide+kernel
 refine J [131,176,392,169,50] ?_;refine UG 9 rfl (c:=false) (c4 U) ?_;refine J [16,466,90] ?_;apply ao (wY n U);apply J [151];rw[d];apply J [301,93,100,170];refine Pm (E:=5) (n:=n) (z:=k9 0) 1 rfl rfl rfl rfl rfl rfl U gp ?_;intro ba;refine q rfl rfl (eh (cs:=[.slice _ _ _]) rfl) ?_;refine e rfl ?_;refine eV (v:=.agg #[_]) (l:=[.slice _ _ _]) rfl rfl ?_;intro bw;apply J [109];exact bn bw trivial (ay (⟨ba⟩:qX) (λ_=>(by decide:0<256)) (aq (ca 0 rfl (by rw[Kg]) (aq (a6 _)))))
variable(aE:Nat)
theorem yn(n at_ k:Nat)(au:n<=131072)(C:at_+k<=n)(D:at_<n):br 94 [ae b,aa at_,aa k] be [aj b 249 [.slice (cL aE) n n]] (.tuple #[.slice (some ⟨aE,at_,none⟩) k (n-at_),aa 0]) [aj b 249 [.slice (cL aE) n n]]:=by
 apply aH Tryz.func94 Tryz.ntmps94;intro F _;apply J [1];have u:(at_+k)-at_=k:=U
 have w:0+at_*1=at_:=U
 apply J [44,31,76,106,189,176];refine UG 14 rfl (c:=false) (c4 U) ?_;apply J [200,50];refine UG 18 rfl (c:=false) (c4 U) ?_;apply J [16,138,139,467,158,50];refine UG 27 rfl (c:=false) (c4 U) ?_;refine J [16,138,139,467,16,412,158,182] ?_;refine Ur rfl (λd=>absurd d U) (λd=>?_);apply J [23,39,120,2];refine q rfl rfl (Vx (v:=((at_+k:Nat):Int)) (ig rfl rfl U U) U) ?_;refine q rfl rfl (RU (i:=at_) (j:=at_+k) 5 1 rfl rfl rfl rfl U U U) ?_;apply J [21,30];exact Xq () [.slice (some ⟨aE,0+at_*1,none⟩) (at_+k-at_) (n-at_),aa 0] ⟨rfl,rfl,trivial⟩ (by rw[u,w];rfl) trivial (aq (aq (a6 _)))
theorem CG(n at_ k:Nat)(au:n<=131072)(u:at_+k*8<=n)(w:at_<n)(C:at_ %8=0):br 169 [ae b,aa at_,aa k] be [aj b 249 [.slice (cL aE) n n]] (.tuple #[.slice (some ⟨aE,at_,none⟩) (k*8) (n-at_),aa 0]) [aj b 249 [.slice (cL aE) n n]]:=by apply aH Tryz.func169 Tryz.ntmps169;intro F _;apply J [1,44,27,34,2];refine q rfl rfl (Vx (v:=((k*8:Nat):Int)) (nZ rfl rfl U U) U) ?_;refine e rfl ?_;apply ao (yn b aE n at_ (k*8) au u w);apply J [6,296,323,95,21,31,29,193];refine UG 20 rfl (c:=true) (cR U) ?_;refine J [16,468,301,268] ?_;refine Ur rfl (λd=>absurd d U) (λd=>?_);apply J [4,35,2,21,30];exact hJ (aq (aq (a6 _)))
theorem tr(n at_:Nat)(m:Nat->Nat)(au:n<=131072)(O:at_+8<=n)(d:at_ %8=0):br 122 [ae b,aa at_] be [gn b m n] (.tuple #[bg (cS m at_:Int),aa 0]) [gn b m n]:=by
 apply aH Tryz.func122 Tryz.ntmps122;intro F _;apply J [1];refine ab.open 0 rfl (λN H=>?_);obtain⟨aE⟩:=N;have hm:=H;apply J [12];dsimp only at hm⊢;apply J [134,32];apply ao (CG b aE n at_ 1 au U U d);apply J [8,296,323,95,21,27,38,35,469,113];refine UZ (ι:=Nat) (λk=>k<=8) (λk=>[(7,aa 0),(8,bg (kw m at_ k:Int)),(17,.slice (some ⟨aE,at_,none⟩) (1*8) (n-at_)),(18,aa 8),(19,aa ((k:Nat):Int))]) (λk=>ah [aj b 249 [.slice (cL aE) n n],aj aE 5 (iR m n),F]) (λk=>8-k) 0 U bu (aq (aq (aq (a6 _)))) ?_;rintro k C V;dsimp only[ct]at C⊢;apply J [40];apply Ur rfl<;>intro Q;have D:k<8:=U
 have E:=OW hm at_ D;have P:=hm (at_+k);have u:=Nat.lt_of_lt_of_le (wI hm at_ k) (Uu (n:=2) am (show 8*k<=64 by omega));have w:at_+k<n:=U
 apply J [62,29];refine q rfl rfl (zL (o:=at_+k*1) 5 1 rfl rfl rfl U U (by rw[Vv])) ?_;refine q rfl rfl (gJ rfl rfl (Kd m w)) ?_;apply J [141,212,2];refine q rfl rfl (conv .u8 .u64 rfl rfl rfl (pW U)) ?_;apply J [2];refine q rfl rfl (Vx (v:=((8*k:Nat):Int)) (nZ rfl rfl U U) U) ?_;refine q rfl rfl (uI rfl rfl U rfl) ?_;refine q rfl rfl (pH rfl rfl u (W6 _ am) E) ?_;refine J [73,60] ?_;exact⟨rfl,(k+1),U,U,bu,ai⟩;obtain rfl:k=8:=by omega
 apply J [22,198,71];exact hJ (ay (⟨aE⟩:qX) hm ai)
theorem lu(n at_:Nat)(m:Nat->Nat)(L:List Nat)(d:Option Addr)(u:Nat)(au:n<=131072)(ax:0<L.length)(C:at_+L.length*8<=n)(D:at_ %8=0)(N:∀x∈L,x<2^64):br 188 [ae b,aa at_,.slice d L.length u] (λF=>∃E,cM F E d (ch .u64 (L.map (λx:Nat=>(x:Int))))) [gn b m n] (aa 0) [gn b (du m at_ L) n]:=by
 apply aH Tryz.func188 Tryz.ntmps188;intro F ⟨E,H⟩;apply J [1];haveI:bl F d E (ch .u64 (L.map (λx:Nat=>(x:Int)))):=⟨H⟩;refine ab.open 0 rfl (λar Z=>?_);obtain⟨aE⟩:=ar;have hm:=Z;apply J [12];dsimp only at hm⊢;apply J [102,34,86,248,0];apply ao (CG b aE n at_ L.length au C U D);apply J [8,296,323,95,21,31,35,469,113];refine UZ (ι:=Nat) (λk=>k<=L.length*8) (λk=>[(2,.slice d L.length u),(7,.slice (some ⟨aE,at_,none⟩) (L.length*8) (n-at_)),(8,aa 0),(19,aa ((L.length*8:Nat):Int)),(20,aa ((k:Nat):Int))]) (λk=>ah [aj b 249 [.slice (cL aE) n n],aj aE 5 (iR (jW m at_ L k) n),F]) (λk=>L.length*8-k) 0 U bu (by rw[Sg];exact(aq (aq (aq (a6 _))))) ?_;rintro k P a0;dsimp only[ct]at P⊢;apply J [40];apply Ur rfl<;>intro aK;have aQ:k<L.length*8:=U
 have V:k/8<L.length:=U
 obtain⟨x,w⟩:∃x,L[k/8]? =some x:=⟨L[k/8],Uo V⟩;have ag:(L.map (λx:Nat=>(x:Int)))[k/8]? =some (x:Int):=b2
 have an:=N x (List.mem_of_getElem? w);have aX:0<(ch .u64 (L.map (λx:Nat=>(x:Int)))).length:=by grind[iX]
 have O:at_+k<n:=U
 have W:dJ (at_+k) [k9 ((x/2^(8*(k %8)) %256:Nat):Int)] (iR (jW m at_ L k) n)=iR (jW m at_ L (k+1)) n:=(by rw[CU _ O,Sf,Vl,w];rfl);have aC:=sm (jW m at_ L k) n;apply J [62,142,114,2,86,2];refine q rfl rfl (Vx (v:=((k/8:Nat):Int)) (k4 rfl rfl U U U) U) ?_;refine J [443] ?_;refine q rfl rfl (dv rfl rfl (me ag)) ?_;apply J [2];refine q rfl rfl (Vx (v:=((k %8:Nat):Int)) (pJ rfl rfl U U) U) ?_;refine q rfl rfl (Vx (v:=((8*(k %8):Nat):Int)) (nZ rfl rfl U U) U) ?_;refine q rfl rfl (jK rfl rfl an rfl) ?_;refine q rfl rfl (conv .u64 .u8 rfl rfl rfl (Te _)) ?_;refine q rfl rfl (zL (o:=at_+k) 5 1 rfl rfl rfl U U (by rw[Vv];omega)) ?_;refine ey ?_;refine st (v:=.int _ _) (vs:=[_]) 1 rfl rfl rfl rfl rfl rfl U W ?_;refine J [60] ?_;exact⟨rfl,(k+1),U,U,bu,ai⟩;obtain rfl:k=L.length*8:=U
 have he:jW m at_ L (L.length*8)=du m at_ L:=by grind[du]
 rw[he];have Q:oo (du m at_ L):=by grind[Se]
 apply J [22,132];exact fa (ay (⟨aE⟩:qX) Q ai)
theorem Kh(d:Option Addr)(k D:Nat)(cs:List Value)(Q:cs.length=k)(P:0<k)(V:k<=1000000)(H:cs.all Value.oneCell'=true)(O:d≠none):bI 95 [.slice d k D] (λF=>∃E,cM F E d cs) [] (λy:Option Addr×Nat=>.slice y.1 k y.2) (λ_=>True) (λ_=>[]):=by
 apply aH Tryz.func95 Tryz.ntmps95;intro F ⟨E,N⟩;apply J [9];obtain⟨u,rfl⟩:∃u,d=some u:=by cases d with|none=>exact absurd rfl O|some u=>exact⟨u,rfl⟩
 haveI:bl F (some u) E cs:=⟨N⟩;apply J [44,25,35];refine q rfl rfl (DC rfl rfl rfl) ?_;apply J [100,26];refine bs (cs:=[]) rfl ?_;intro b4;apply J [236];refine ap 1 rfl rfl rfl rfl rfl U (show cs.take (k*1)=cs from List.take_of_length_le U) H U gp ?_;intro w C;apply J [101];exact Xq (w,C) [_] ⟨rfl,trivial⟩ (by dsimp only;rw[VL];rfl) trivial ai
theorem JG(n at_ k:Nat)(m:Nat->Nat)(au:n<=131072)(u:0<k)(w:at_+k<=n):bI 41 [ae b,aa at_,aa k] be [gn b m n] (λy:Option Addr×Nat=>.tuple #[.slice y.1 k y.2,aa 0]) (λ_=>True) (λ_=>[gn b m n]):=by apply aH Tryz.func41 Tryz.ntmps41;intro F _;apply J [1];refine ab.open 0 rfl (λD C=>?_);obtain⟨aE⟩:=D;have hm:=C;apply J [12];dsimp only at hm⊢;apply J [44,27,34,28];apply ao (yn b aE n at_ k au w U);apply J [8,296,323,95,21,27,35];have E:=sm m n;have d:=Kc m n;refine e rfl ?_;apply eQ (Kh (some ⟨aE,at_,none⟩) k (n-at_) (((iR m n).drop at_).take k) (by rw[List.length_take,List.length_drop];omega) u U (by rw[List.all_eq_true]at d⊢;exact λv hv=>d v (List.mem_of_mem_drop (List.mem_of_mem_take hv))) (λh=>by cases h)) ⟨_,vk (Dw 1 rfl) (Cl aE 5 at_ k _)⟩;intro y _;apply J [8,2,21,30];exact cN y trivial (ay (⟨aE⟩:qX) hm ai)
theorem CE(n at_ k:Nat)(m:Nat->Nat)(au:n<=131072)(d:at_+k<=n)(u:at_<n):br 182 [ae b,aa at_,aa k,k9 0] be [gn b m n] (aa 0) [gn b (hf m at_ k) n]:=by
 apply aH Tryz.func182 Tryz.ntmps182;intro F _;apply J [1];refine ab.open 0 rfl (λN H=>?_);obtain⟨aE⟩:=N;have hm:=H;apply J [12];dsimp only at hm⊢;apply J [102,34,28];apply ao (yn b aE n at_ k au d u);apply J [8,296,323,95,21,31,35,469,113];refine UZ (ι:=Nat) (λj=>j<=k) (λj=>[(3,k9 0),(9,.slice (some ⟨aE,at_,none⟩) k (n-at_)),(10,aa 0),(20,aa k),(21,aa ((j:Nat):Int))]) (λj=>ah [aj b 249 [.slice (cL aE) n n],aj aE 5 (iR (hf m at_ j) n),F]) (λj=>k-j) 0 U bu (by rw[TS];exact(aq (aq (aq (a6 _))))) ?_;rintro j C Q;dsimp only[ct]at C⊢;apply J [40];apply Ur rfl<;>intro P;have w:at_+j<n:=U
 have O:=sm (hf m at_ j) n;have E:dJ (at_+j) [k9 0] (iR (hf m at_ j) n)=iR (hf m at_ (j+1)) n:=(by have:=CU (hf m at_ j) w 0;grind[TR]);apply J [62,142,114,120];refine q rfl rfl (zL (o:=at_+j) 5 1 rfl rfl rfl U U (by rw[Vv];omega)) ?_;refine ey ?_;refine st (v:=.int _ _) (vs:=[_]) 1 rfl rfl rfl rfl rfl rfl U E ?_;refine J [60] ?_;exact⟨rfl,(j+1),U,U,bu,ai⟩;obtain rfl:j=k:=U
 have D:oo (hf m at_ j):=by grind[TQ]
 apply J [22,132];exact fa (ay (⟨aE⟩:qX) D ai)
def jM(cg:List Nat)(x:Int):Option Value:=if cg.any (λp=>decide (x=(p:Int)*1024))=true then some (.int .i64 0)else none
theorem HZ{cg:List Nat}{p:Nat}(h:p∈cg):jM cg ((p:Int)*1024)=some (aa 0):=aw (List.any_eq_true.2 ⟨p,h,cR rfl⟩)
theorem S5{cg:List Nat}{p:Nat}(h:p∉cg):jM cg ((p:Int)*1024)=none:=al λd=>by
 obtain⟨q,u,e⟩:=List.any_eq_true.1 d
 have:=ds e
 exact h (by rwa[show p=q by omega])
theorem S3(cg:List Nat)(p:Nat):fe (jM cg) ((p:Int)*1024) (aa 0)=jM (p::cg):=by funext x;rw[fe,jM,jM,List.any_cons];grind
theorem S4{cg:List Nat}(h:cg.Nodup)(p:Nat):fQ (jM cg) ((p:Int)*1024)=jM (cg.erase p):=by funext x;rw[fQ,jM,jM];by_cases e:x=(p:Int)*1024;rw[aw e];grind[List.Nodup.mem_erase_iff];grind
def iI(j top:Nat)(B:Nat->Nat)(aE:Nat):List Value:=.int .i64 top::((Vu 21).map (λk=>if k<j then .pointer (some ⟨(B k),0,none⟩)else .pointer none)++[.map (some aE)])
theorem yw{j top:Nat}{B:Nat->Nat}{aE:Nat}(h:k<j)(d:k<21):(iI j top B aE)[0+1+((k:Nat):Int).toNat*1]? =some (.pointer (some ⟨(B k),0,none⟩)):=by rw[Vv,VH,VL,Nat.add_comm,iI,VU,VK rx,WI,List.getElem?_range d,VY,aw h]
theorem yx(j top:Nat)(B:Nat->Nat)(aE:Nat):(iI j top B aE).length=23:=by simp[iI]
theorem sj{j top:Nat}(B:Nat->Nat)(aE x:Nat)(h:j<21):dJ (0+1+((j:Nat):Int).toNat*1) [ae x] (iI j top B aE)=iI (j+1) top (λk=>if k=j then x else B k) aE:=by have e:dJ (0+1+((j:Nat):Int).toNat*1) [ae x] (iI j top B aE)=(iI j top B aE).set (1+j) (ae x):=(by rw[List.set_eq_take_append_cons_drop,aw (by rw[yx];omega),Vv,VH,VL];grind[dJ]);rw[e];apply List.ext_getElem?;intro i;rw[List.getElem?_set,yx];cases i with|zero=>rw[al U];rfl|succ i=>by_cases C:i<21;have d:∀j B,(iI j top B aE)[i+1]? =some (if i<j then .pointer (some ⟨(B i),0,none⟩)else .pointer none):=λj B=>(by rw[iI,VU,VK rx,WI,List.getElem?_range C,VY]);rw[d,d];by_cases u:i=j;subst u;rw[aw U,aw U,aw U,aw rfl];rw[al U];by_cases w:i<j;rw[aw w,aw U,al u];rw[al w,al U];rw[al U];have d:∀j B,(iI j top B aE)[i+1]? =[Value.map (some aE)][i-21]? :=λj B=>(by rw[iI,VU,List.getElem?_append_right rx];simp);rw[d,d]
structure tb where
  f:jZ
  B:Nat->Nat
  aE:Nat
def k0(b top:Nat)(cg:List Nat):ax:=fj λy:tb=>pure' (top<=20/\lX y.f top cg) (ah [aj b 361 (iI (top+1) top y.B y.aE),b7 (λk=>gC (y.B k) (2^(top-k)) (y.f k)) (Vu (top+1)),bC QM.encI y.aE (jM cg) cg.length])
theorem Ry(f:jZ)(k i:Nat)(v:Bool):k6 f k i v k=kC (f k) i v:=by funext x;rw[k6,kC];simp_all
theorem xq(f:jZ){x:Nat}(i:Nat)(v:Bool)(h:x≠k):k6 f k i v x=f x:=by funext y;rw[k6,al (λd=>h d.1)]
theorem rF{n:Nat}(h:k<n):∃L,(Vu n).Perm (k::L)/\∀x∈L,x≠k:=by obtain⟨L,d⟩:=fv (Xu.2 h);grind[List.nodup_range]
theorem oM{top:Nat}(h:top<=20):2^(top-k)<=1048576:=Uu (n:=2) am (show top-k<=20 by omega)
variable(top:Nat)
theorem LO:tM top top=kC (λ_=>false) 0 true:=by funext x;rw[tM,kC];simp_all
theorem LP{top:Nat}(h:k≠top):tM top k=λ_=>false:=by funext x;exact c4 λd=>h d.1
theorem J0{f:jZ}{top:Nat}{cg V:List Nat}(h:lX f top cg)(p:cg.Perm V):lX f top V:=
 ⟨h.bd,λq d=>by rw[h.ao q d];simp only[p.mem_iff],p.nodup_iff.1 h.bo,λq d=>h.lt q (p.mem_iff.2 d)⟩
theorem S6{cg V:List Nat}(p:cg.Perm V):jM cg=jM V:=by grind[jM]
theorem vw{cg V:List Nat}(p:cg.Perm V):aF (k0 b top cg) (k0 b top V):=h1 λh ⟨y,⟨d,u⟩,w⟩=>⟨y,⟨d,J0 u p⟩,by rw[<-S6 p,<-p.length_eq];exact w⟩
def uR:Option Nat->Int
  | some p=>(p:Int)*1024
  | none=>0
def qk{α:Type}:Option α->Int
  | some _=>0
  | none=>4
def mD(cg:List Nat):Option Nat->List Nat
  | some p=>p::cg
  | none=>cg
def Jv(top:Nat)(cg:List Nat):Option Nat->Prop
  | some p=>p<2^top/\p∉cg
  | none=>2^top<=cg.length
theorem yy(h:n=65536/\top=6\/n=131072/\top=7):bI 176 [aa n] c8 [] (λb:Nat=>ae b) (λ_=>True) (λb=>[k0 b top []]):=by
 apply aH Tryz.func176 Tryz.ntmps176;intro F D;apply J [9];haveI:cw F:=⟨D⟩;have N:fo n=1:=by rcases h with⟨rfl,_⟩|⟨rfl,_⟩<;>decide+kernel
 have E:WJ 64 (n/1024)=top:=by rcases h with⟨rfl,rfl⟩|⟨rfl,rfl⟩<;>decide+kernel
 have au:65536<=n/\n<=131072/\top<=7:=U
 clear h;refine J [131,176,470,169,50,525,16,466,90] ?_;apply ao (wY n U);apply J [151];rw[N];apply J [301,93,100,29];refine q rfl rfl (Vx (v:=((n/1024:Nat):Int)) (k4 rfl rfl U U U) U) ?_;refine J [311,0] ?_;apply ao (S1 (n/1024) U);apply J [151];rw[E];refine J [0,333] ?_;intro ba;refine q rfl rfl (eh (cs:=iI 0 top (λ_=>0) _) rfl) ?_;refine e rfl ?_;refine eV (v:=.agg (List.toArray (iI 0 top (λ_=>0) _))) (l:=iI 0 top (λ_=>0) _) rfl rfl ?_;intro bw;refine J [55,39,662,76] ?_;refine UZ (ι:=Nat×(Nat->Nat)) (λx=>x.1<=top+1) (λx=>[(3,ae bw),(28,aa ((top+1:Nat):Int)),(29,aa ((x.1:Nat):Int))]) (λx=>ah [aj bw 361 (iI x.1 top x.2 ba),b7 (λk=>gC (x.2 k) (2^(top-k)) (λ_=>false)) (Vu x.1),bC QM.encI ba (λ_=>none) 0,F]) (λx=>top+1-x.1) (0,λ_=>0) (Uv _) bu ((mZ (f:=λk=>gC 0 (2^(top-k)) (λ_=>false)) _).trans (bW (aq (aq (aq (a6 _)))))) ?_;rintro⟨j,B⟩ H Z;dsimp only[ct]at H⊢;apply J [40];apply Ur rfl<;>intro V;have Q:j<=top:=U
 have u:=oM (k:=j) (show top<=20 by omega);have W:((2^(top-j):Nat):Int)=((2^(top-j):Nat):Int):=rfl;apply J [62,142];refine ab.draw _ [13] [0,1,2,3,4,5,6,7,8,10,11,-9,12,-13] aR aR (aq (a6 _)) ?_;apply J [77,14,51,14];refine bU rfl rfl rfl (Vx (v:=((top-j:Nat):Int)) (oR rfl rfl U U) U) ?_;refine bU rfl rfl rfl (nu (a:=1) (c:=2^(top-j)) rfl rfl U (Nat.one_mul _) U) ?_;apply J [88,433,11];apply a7 (CR (2^(top-j)) u);intro gV _;refine J [280] ?_;have O:=sj (top:=top) B ba gV (show j<21 by omega);have P:=yx j top B ba;refine J [586,91] ?_;refine st (v:=.pointer _) (vs:=[_]) 1 rfl rfl rfl rfl rfl rfl U O ?_;refine J [306,346] ?_;exact⟨rfl,(j+1,λk=>if k=j then gV else B k),cH,cH,bu,(aq (cU 0 0 j rfl rfl (by dsimp only;rw[aw rfl]) (λx d=>by dsimp only;rw[al (λe=>by rw[e]at d;exact absurd (Xu.1 d) (Nat.lt_irrefl _))]) (by rw[List.range_succ];exact(List.perm_append_singleton _ _).symm) (aq (aq (a6 _)))))⟩;obtain rfl:j=top+1:=U
 have u:=oM (k:=top) (show top<=20 by omega);obtain⟨C,gd,w⟩:=rF (n:=top+1) (k:=top) U;apply J [22,7];refine cx [0,1,2,3,4,5,6,7,8,-9,-10] (aq (a6 _)) ?_;refine J [77,51,88,433,586] ?_;refine bU rfl rfl rfl (gJ rfl rfl (yw U U)) ?_;refine J [11,148] ?_;intro b4;refine⟨ai,?_⟩;obtain⟨C,gd,w⟩:=rF (n:=top+1) (k:=top) U;refine b3.bf (fR 2 rfl gd) ?_;refine dA rfl rfl ?_;apply eG (qh (B top) (2^(top-top)) (λ_=>false) 0 true (cL b4) 1 cF u) ⟨_,bl.rd (ad:=some ⟨b4,0,none⟩)⟩;refine J [258,108,37,109] ?_;exact bn bw trivial (ay (⟨tM top,B,ba⟩:tb) ⟨by omega,lX.init top⟩ (cY (cU 0 0 top rfl rfl (by dsimp only;rw[LO]) (λx d=>by dsimp only;rw[LP (w x d)]) gd.symm (bW (bW (a6 _))))))
theorem CJ(cg:List Nat):bI 185 [ae b,aa 0] c8 [k0 b top cg] (λy:Option Nat=>.tuple #[aa (uR y),aa (qk y)]) (λy=>Jv top cg y) (λy=>[k0 b top (mD cg y)]):=by
 apply aH Tryz.func185 Tryz.ntmps185;intro F a0;apply J [1];haveI:cw F:=⟨a0⟩;apply ab.open 0 rfl;rintro⟨f,B,aE⟩ ⟨C,aN⟩;apply J [85];dsimp only at aN⊢;apply J [24,219,217,200,50];refine UG 15 rfl (c:=false) (c4 U) ?_;apply J [16,138,139,158,103];refine Ur rfl (λZ=>absurd Z U) (λZ=>?_);apply J [4,349];refine Xa (ι:=Nat×Option Nat) (λx=>((∃i,x.2=some i/\x.1<=top/\f x.1 i=true)\/x.2=none/\2^top<=cg.length)) (λx=>[(0,ae b),(1,aa 0),(6,aa ((x.1:Nat):Int)),(7,aa (qE x.2))]) (λx=>ah [aj b 361 (iI (top+1) top B aE),b7 (λk=>gC (B k) (2^(top-k)) (f k)) (Vu (top+1)),bC QM.encI aE (jM cg) cg.length,F]) ?_ ?_;refine ab.block ?_;refine UZ (ι:=Nat) (λk=>k<=top+1/\∀d,d<k->∀i,i<2^(top-d)->f d i=false) (λk=>[(0,ae b),(1,aa 0),(6,aa ((k:Nat):Int)),(7,aa (-1))]) (λk=>ah [aj b 361 (iI (top+1) top B aE),b7 (λk=>gC (B k) (2^(top-k)) (f k)) (Vu (top+1)),bC QM.encI aE (jM cg) cg.length,F]) (λk=>top+1-k) 0 ⟨Uv _,λd h=>by omega⟩ bu (aq (aq (aq (aq (a6 _))))) ?_;rintro k ⟨E,eJ⟩ bb;dsimp only[ct]at E eJ⊢;apply J [129,157,53];refine q rfl rfl (leq rfl rfl) ?_;refine aO.nil (h5 ?_);apply Ur rfl<;>intro a8;have ax:k<=top:=U
 have H:=oM (k:=k) C;refine J [62,34,267,471,472] ?_;obtain⟨Q,gd,N⟩:=rF (n:=top+1) (k:=k) U;refine aO.bf (fR 1 rfl gd) ?_;refine e rfl ?_;apply a7 (CP (B k) (2^(top-k)) (f k) true 0 U H);intro y D;apply J [10];cases y with|none=>?_|some i=>?_
 have D:th (f k) true (2^(top-k)) 0:=D;dsimp only[qE];refine J [61,411,116,23,186] ?_;exact⟨rfl,(k+1),⟨by omega,λd aQ i au=>by by_cases e:d=k;subst e;have:=D i (Uv _) au;simpa using this;exact eJ d U i au⟩,U,⟨rfl,rfl,rfl,rfl,trivial⟩,(bp (cU 0 0 k rfl rfl rfl (λ_ _=>rfl) gd.symm (aq (aq (a6 _)))))⟩;have D:x9 (f k) true (2^(top-k)) 0 i:=D;dsimp only[qE];apply J [61,411,3];refine Ur rfl (λag=>?_) (λag=>absurd U ag);refine ab.exit (aK rfl (kn (kn (ov (h5 ?_)))));exact⟨rfl,(k,some i),.inl ⟨i,rfl,ax,D.2.2.1⟩,bu,(bp (cU 0 0 k rfl rfl rfl (λ_ _=>rfl) gd.symm (aq (aq (a6 _)))))⟩;have O:=aN.none λd aQ=>eJ d U;apply J [22];exact⟨rfl,(k,none),.inr ⟨rfl,O⟩,bu,(aq (aq (aq (aq (a6 _)))))⟩;rintro⟨k,br⟩ E bb;dsimp only[ct]at E⊢;rcases E with⟨i,rfl,E,ar⟩|⟨rfl,O⟩;dsimp only[qE];obtain⟨ax,a5⟩:=aN.bd _ _ ar;have H:=oM (k:=k) C;have a2:=aN.take ar;apply J [7,353,3];refine Ur rfl (λao=>absurd ao U) (λao=>?_);refine J [4,34,267,471,472,63] ?_;intro V;obtain⟨Q,gd,N⟩:=rF (n:=top+1) (k:=k) U;apply J [473,0];apply eG (qh (B k) (2^(top-k)) (f k) i false (cL V) 1 a5 H) ⟨_,bl.rd (ad:=some ⟨V,0,none⟩)⟩;apply J [13,3];refine Xa (ι:=jZ×Nat) (λx=>kg x.1 top cg 0 x.2) (λx=>[(0,ae b),(1,aa 0),(7,aa ((x.2:Nat):Int))]) (λx=>ah [aj b 361 (iI (top+1) top B aE),b7 (λk=>gC (B k) (2^(top-k)) (x.1 k)) (Vu (top+1)),bC QM.encI aE (jM cg) cg.length,F]) ?_ ?_;refine ab.block ?_;refine UZ (ι:=jZ×Nat×Nat) (λx=>kg x.1 top cg x.2.1 x.2.2) (λx=>[(0,ae b),(1,aa 0),(6,aa ((x.2.1:Nat):Int)),(7,aa ((x.2.2:Nat):Int))]) (λx=>ah [aj b 361 (iI (top+1) top B aE),b7 (λk=>gC (B k) (2^(top-k)) (x.1 k)) (Vu (top+1)),bC QM.encI aE (jM cg) cg.length,F]) (λx=>x.2.1) (k6 f k i false,k,i) a2 bu (cY (cU 0 0 k rfl rfl wN (λx P=>by dsimp only;rw[xq _ _ _ (N x P)]) gd.symm (bW (bW (a6 _))))) ?_;rintro⟨f2,d,i2⟩ w be;dsimp only[ct]at w⊢;apply J [129,2,165,3];apply Ur rfl<;>intro a8;obtain⟨u,rfl⟩:∃u,d=u+1:=⟨d-1,by omega⟩;obtain⟨bo,a3⟩:=w.split;have bm:=w.hQ;have bk:=w.it;have a9:=oM (k:=u) C;have bh:=we (k:=u) (top:=top) U;apply J [62,29];refine q rfl rfl (Vx (v:=((2*i2:Nat):Int)) (nZ rfl rfl U U) U) ?_;apply J [27,36,2];refine q rfl rfl (Vx (v:=((u:Nat):Int)) (oR rfl rfl U U) U) ?_;refine J [267,471,472,2] ?_;refine q rfl rfl (Vx (v:=((2*i2+1:Nat):Int)) (ig rfl rfl U U) U) ?_;refine J [0,148] ?_;intro W;obtain⟨Q,gd,N⟩:=rF (n:=top+1) (k:=u) U;apply J [473,0];apply eG (qh (B u) (2^(top-u)) (f2 u) (2*i2+1) true (cL W) 1 U a9) ⟨_,bl.rd (ad:=some ⟨W,0,none⟩)⟩;apply J [13,153,212];refine q rfl rfl (Vx (v:=((u:Nat):Int)) (oR rfl rfl U U) U) ?_;apply J [27];exact⟨rfl,(k6 f2 u (2*i2+1) true,u,2*i2),a3,cH,bu,(cY (cU 0 0 u rfl rfl wN (λx P=>by dsimp only;rw[xq _ _ _ (N x P)]) gd.symm (bW (bW (a6 _)))))⟩;obtain rfl:d=0:=U
 apply J [22];exact⟨rfl,(f2,i2),w,bu,ai⟩;rintro⟨f2,i2⟩ w be;dsimp only[ct]at w⊢;obtain⟨a4,aC,aX⟩:=w.done;have H:=oM (k:=0) C;rw[Nat.sub_zero]at H;apply J [29];refine q rfl rfl (Vx (v:=((i2*1024:Nat):Int)) (nZ rfl rfl U U) U) ?_;apply J [2];refine q rfl rfl (Vx (v:=(i2:Int)*1024) (nu (a:=i2*1024) (n:=0) (c:=i2*1024) rfl rfl U U U) U) ?_;apply J [27,126];refine q rfl rfl (cW 22 rfl rfl) ?_;apply J [82,120,20];refine lK (v:=.int _ _) 3 3 rfl (dM.int rfl) rfl rfl rfl ?_;apply J [3,29,71];exact cN (some i2) ⟨a4,aC⟩ (ay (⟨f2,B,aE⟩:tb) ⟨C,aX⟩ (bW (bW (ca 0 rfl (by dsimp only;rw[S5 aC,S3];rfl) (aq (a6 _))))));dsimp only[qE];apply J [7,353,3];refine Ur rfl (λan=>?_) (λan=>absurd (am) an);apply J [134,83];exact cN none O (ay (⟨f,B,aE⟩:tb) ⟨C,aN⟩ (aq (aq (aq (aq (a6 _))))))
theorem CH(cg:List Nat)(w:Nat)(gd:w∈cg):br 190 [ae b,aa ((w:Int)*1024)] be [k0 b top cg] (aa 0) [k0 b top (cg.erase w)]:=by
 apply aH Tryz.func190 Tryz.ntmps190;intro F _;apply J [1];have D:=gd;clear gd;apply ab.open 0 rfl;rintro⟨f,B,aE⟩ ⟨E,aN⟩;apply J [85];dsimp only at aN⊢;have aK:=aN.lt _ D;have au:=oM (k:=0) E;rw[Nat.sub_zero]at au;have ao:=aN.MU D;apply J [24,149,25,135,154,100,135,80];refine q rfl rfl (cW 22 rfl rfl) ?_;apply J [82,288,442];rw[HZ D];apply J [286,73,105,239,100,126];refine q rfl rfl (cW 22 rfl rfl) ?_;apply J [82,2,20];refine lB 3 3 rfl (dM.int rfl) rfl rfl rfl ?_;apply J [3,198];refine q rfl rfl (nu (a:=1024) (n:=0) (c:=1024) rfl rfl U rfl am) ?_;refine q rfl rfl (Vx (v:=(w:Int)) (k4 rfl rfl U U U) U) ?_;apply J [27];refine Xa (ι:=jZ×Nat×Nat) (λx=>kg x.1 top (cg.erase w) x.2.1 x.2.2) (λx=>[(0,ae b),(5,aa ((x.2.1:Nat):Int)),(7,aa ((x.2.2:Nat):Int))]) (λx=>ah [aj b 361 (iI (top+1) top B aE),b7 (λk=>gC (B k) (2^(top-k)) (x.1 k)) (Vu (top+1)),bC QM.encI aE (jM (cg.erase w)) (cg.erase w).length,F]) ?_ ?_;refine ab.block ?_;refine UZ (ι:=jZ×Nat×Nat) (λx=>kg x.1 top (cg.erase w) x.2.1 x.2.2) (λx=>[(0,ae b),(5,aa ((x.2.1:Nat):Int)),(7,aa ((x.2.2:Nat):Int))]) (λx=>ah [aj b 361 (iI (top+1) top B aE),b7 (λk=>gC (B k) (2^(top-k)) (x.1 k)) (Vu (top+1)),bC QM.encI aE (jM (cg.erase w)) (cg.erase w).length,F]) (λx=>top+1-x.2.1) (f,0,w) ao bu (bW (bW (ca 0 rfl (by rw[HZ D,S4 aN.bo,List.length_erase_of_mem D];rfl) (aq (a6 _))))) ?_;rintro⟨f2,d,i2⟩ u aA;dsimp only[ct]at u⊢;have ar:=u.hQ;have W:=u.it;have N:=oM (k:=d) E;apply J [129,157,53,385,18];refine aO.split 36 rfl (λC=>?_) (λC=>?_);have C:=ds C;have Z:d<top:=U
 have aC:=we (k:=d) (top:=top) Z;have aQ:=Iu i2;have ax:i2^^^1<2^(top-d):=U
 apply J [299,16,515,571];refine c5 rfl rfl rfl (k1 21 294 1 rfl rfl rfl U U) ?_;refine c5 rfl rfl rfl (gJ rfl rfl (yw U U)) ?_;apply J [16];refine c5 rfl rfl rfl (TD (a:=i2) (b:=1) rfl rfl U U rfl) ?_;refine J [90,148] ?_;intro P;obtain⟨ag,gd,H⟩:=rF (n:=top+1) (k:=d) U;apply J [473,90];apply eG (qh (B d) (2^(top-d)) (f2 d) (i2^^^1) false (cL P) 1 ax N) ⟨_,bl.rd (ad:=some ⟨P,0,none⟩)⟩;apply J [13];cases V:f2 d (i2^^^1)with|true=>?_|false=>?_
 apply J [92,104,4,76,212];refine q rfl rfl (Vx (v:=((i2/2:Nat):Int)) (k4 rfl rfl U U U) U) ?_;refine J [2,150,73,73,153] ?_;exact⟨rfl,(k6 f2 d (i2^^^1) false,d+1,i2/2),(u.merge Z V),cH,bu,(cY (cU 0 0 d rfl rfl wN (λx O=>by dsimp only;rw[xq _ _ _ (H x O)]) gd.symm (bW (bW (a6 _)))))⟩;rw[G1 V];apply J [92,368,116,22];exact⟨rfl,(f2,d,i2),u,bu,(cY (cU 0 0 d rfl rfl rfl (λ_ _=>rfl) gd.symm (bW (bW (a6 _)))))⟩;have C:=dV C;apply J [48,48,97,93,116,22];exact⟨rfl,(f2,d,i2),u,bu,ai⟩;rintro⟨f2,d,i2⟩ u aA;dsimp only[ct]at u⊢;have ar:=u.hQ;have W:=u.it;have N:=oM (k:=d) E;obtain⟨aX,an⟩:=u.fill;refine J [34,267,471,472,63] ?_;intro Q;obtain⟨ag,gd,H⟩:=rF (n:=top+1) (k:=d) U;apply J [473,0];apply eG (qh (B d) (2^(top-d)) (f2 d) i2 true (cL Q) 1 W N) ⟨_,bl.rd (ad:=some ⟨Q,0,none⟩)⟩;apply J [13,118];exact fa (ay (⟨k6 f2 d i2 true,B,aE⟩:tb) ⟨E,an⟩ (cY (cU 0 0 d rfl rfl wN (λx O=>by dsimp only;rw[xq _ _ _ (H x O)]) gd.symm (bW (bW (a6 _))))))
end Go.Proofs.YtglgidjhoncphaaGreatDoor
