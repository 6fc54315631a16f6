/- Proved here: contracts of this program's functions, under each theorem's premises. -/
import Derived.Deep.Slices
import Derived.Test.YtglgidjhoncphaaGreatDoorUb
import Derived.Lib.AppendZerosOnto
import Derived.Lib.Overlaps
import Derived.Maps.RangeRun
import Derived.Shelf.Lays
set_option linter.all false
set_option maxRecDepth 4000
set_option maxHeartbeats 4000000
open List renaming getElem?_eq_getElem->Vb,getElem?_eq_some_iff->Vl,range->V8,getD_eq_getElem?_getD->Wc,getElem?_append_left->Wz,getElem?_cons_succ->WI,mem_range->W1,getElem?_map->XB,length_append->mp,mem_append->Vd,mem_of_getElem?->Vg,mem_map->Vn,mem_cons->Vp,flatMap_cons->Vw,replicate->Vx,append_assoc->VC,nil_append->VE,take_of_length_le->VR,take_append_drop->V1,getElem?_of_mem->V9,length_take->Wo,drop_eq_nil_of_le->Wt,pairwise_iff_getElem->Wy,take_append_of_le_length->WG,drop_append->XI,mem_singleton->Vc,nodup_cons->Vu,mem_filter->Vv,toArray->Vy,map_cons->VM,map_append->We,length_map->Wf,map_congr_left->Wm,filter_cons_of_neg->Ws,find?_eq_none->WL,map_nil->W7,pairwise_map->Xe,map_map->X1,filter_cons_of_pos->YN
open Nat renaming zero_le->Vh,pow_le_pow_right->Vi,mul_one->Ww,zero_add->WA,mod_lt->X0,le_refl->Vj,mul_le_mul_right->VQ,add_mul->V7,min_eq_left->Xb
open Int renaming toNat_natCast->Wl
open Go.DataW renaming trod->WK
open Option renaming map_some->WM
open Go.Lib renaming ctz->XC
open Go.World renaming cells?_some->Yd
open Go.Lit renaming int->Ys
open Go.Result renaming andThen_ok->Vo
open Go.Sem renaming run_bind->Vz,run_pure->VS
open Go.Builtin renaming firstCells->VF,zeroCells->VG,lenOf->XR
open Go.Value renaming oneCell'->VN,pointer->Yh
open Go.Instr renaming sliceBound->Wb
open List.Pairwise renaming nil->Xq
open Decidable renaming not_not->Vr
open Go.QM.ab renaming aB->Ve,loop->VK
open Go.QM.aW renaming known->VD
open Go.QM.bG renaming to->Wp
namespace Go.QM
open Go Go.ChangeShapes Go.WideShapes Go.RowKit
theorem y9{α:Type}{Q:Nat->α->Prop}:∀n,(∀i,i<n->∃a,Q i a)->∃xs:List α,xs.length=n/\∀i a,xs[i]? =some a->Q i a
  | 0,_=>⟨[],rfl,by simp⟩
  | n+1,h=>by
   obtain⟨xs,d,u⟩:=y9 n (λi D=>h i U);obtain⟨a,w⟩:=h n U;refine⟨xs++[a],by simp[d],λi b am=>?_⟩;rw[List.getElem?_append]at am;split at am;exact u i b am;rename_i C;have:=(Vl.1 am).1;simp at this;obtain rfl:i=n:=U
   simp[d]at am;subst am;exact w
section
variable {H : Type} {enc : TypeId × Value → H} {P : Program}
variable{held:Bool}
theorem QL{α:Type}{W:World}{aw:Nat->Bool}{r:Reach}{j1:Nat}{t e:TypeId}{v:Value}{d:DataW H}{ps:List MemPlace}(cells:α->List Value)(D:α->Prop)(sz:Nat)(au:P.underlying t=some (.slice e))(aJ:P.cellsOf e=sz)(Z:0<sz)
    (V:∀a,(cells a).length=sz)
    (a2:∀fuel cs x,WK enc P W 0 aw held fuel e cs=some x->∃a,cs=cells a/\D a)
    (a4:Value.okWide P W r j1 t v) (a0:DataW.Trod enc P W 0 aw held t v d ps):
    ∃(ad:Option Addr) (xs:List α) (cap:Nat) (E:Nat),v=.slice ad xs.length cap/\cQ (here W) E ad (xs.flatMap cells)/\(∀a∈xs,D a)/\xs.length<=maxLen/\xs.length<=cap:=by
 subst aJ;obtain⟨a,len,cap,rfl⟩:=okWide_slice au a4;obtain⟨fuel,a1⟩:=a0;rcases Deep.open_slice au a1 with⟨C,_⟩|⟨w,bL,bi,m,n,bb,b3,C,_,bl,bn,bo,_,aI⟩;simp[Value.cells]at C;obtain⟨rfl,rfl,rfl⟩:=C;exact⟨none,[],0,0,rfl,λ_ _=>.inl rfl,by simp,by simp,by simp⟩;simp[Value.cells]at C;obtain⟨rfl,rfl,rfl⟩:=C;have bz:len<=m:=cv
 obtain⟨xs,bK,av⟩:=y9 (Q:=λi (x:α)=>W.cells? 0 (w.add (i*P.cellsOf e)) (P.cellsOf e)=some (cells x)/\D x) len (λi O=>by obtain⟨bk,bM,a9⟩:=aI i U;obtain⟨x,rfl,u⟩:=a2 _ _ _ a9;exact⟨x,bM,u⟩);have aT:∀i v,(xs.flatMap cells)[i]? =some v->W.cell? (w.add i)=some v:=(by have a3:∀x,xs[0]? =some x->w.spot=none:=λx u=>(by obtain⟨bM,_⟩:=av 0 x u;obtain⟨_,_,ah⟩:=Yd bM;have:=ah 0 Z;rw[Vb (by rw[V];exact Z)]at this;simp only[Nat.zero_mul,Addr.add,if_true]at this;cases N:w.spot with|none=>rfl|some s=>simp only[World.cell?,N]at this;split at this<;>simp at this);intro i v hv;(have ar:i<(xs.flatMap cells).length:=by grind);rw[kF V]at ar;have bF:i/P.cellsOf e<xs.length:=Nat.div_lt_of_lt_mul (by rw[Nat.mul_comm];exact ar);(have u:xs[i/P.cellsOf e]? =some xs[i/P.cellsOf e]:=by simp_all);obtain⟨bM,_⟩:=av _ _ u;obtain⟨_,_,ah⟩:=Yd bM;have hm:i %P.cellsOf e<P.cellsOf e:=X0 _ Z;have ba:=ah _ hm;(have O:i/P.cellsOf e*P.cellsOf e+i %P.cellsOf e=i:=by grind[Nat.div_add_mod]);obtain⟨aB,a5⟩:∃aB,(cells xs[i/P.cellsOf e])[i %P.cellsOf e]? =some aB:=b6;have aq:=ui V u a5;rw[O,hv]at aq;cases aq;(have aD:0<xs.length:=by grind);have N:=a3 xs[0] (Vb aD);obtain⟨bd,bg,bh⟩:=w;simp only at N;subst N;rw[iG,iG,Nat.add_assoc,O]at ba;grind[iG]);obtain⟨E,br⟩:=Bt aT;grind[List.getElem?_of_mem]
variable{fuel:Nat}
theorem l4{W:World}{d:Nat->Bool}{t:TypeId}{k:IntKind}{cs:List Value}{x:DataW H×List MemPlace}(u:P.underlying t=some (.int k))(h:WK enc P W 0 d held fuel t cs=some x):
    ∃n,cs=[.int k n]/\(Ys k n).wf=true:=by grind[DataW.trod_int]
theorem GG{W:World}{d:Nat->Bool}{t:TypeId}{cs:List Value}{x:DataW H×List MemPlace}(u:P.underlying t=some .bool)(h:WK enc P W 0 d held fuel t cs=some x):
    ∃b,cs=[.bool b]:=by grind[DataW.trod_bool]
theorem GH{W:World}{V:Nat->Bool}{t e:TypeId}{k:IntKind}{cs:List Value}{x:DataW H×List MemPlace}(Q:P.underlying t=some (.slice e))(he:P.underlying e=some (.int k))(N:P.cellsOf e=1)
    (h:WK enc P W 0 V held fuel t cs=some x):
    ∃(ad:Option Addr) (xs:List Int) (cap:Nat),cs=[.slice ad xs.length cap]/\(∃E,cQ (here W) E ad (cO k xs))/\(∀n∈xs,(Ys k n).wf=true)/\xs.length<=maxLen/\xs.length<=cap:=by
 rcases open_ints Q he N h with⟨w,_⟩|⟨C,len,cap,u,w,_,Z,ah,aq,_,D,ar⟩;exact⟨none,[],0,by simpa using w,⟨0,λ_ _=>.inl rfl⟩,by simp,by simp,by simp⟩;have av:len<=u.length:=cv
 have hlen:(u.take len).length=len:=b6
 obtain⟨E,au⟩:=Bt (W:=W) (a:=C) (cs:=cO k (u.take len)) (λi v hv=>by simp only[cO,XB,Option.map_eq_some_iff]at hv;obtain⟨x,d,rfl⟩:=hv;(have O:i<len:=by have:=(Vl.1 d).1;omega);rw[List.getElem?_take_of_lt O]at d;have:=D i U;rw[this,Wc,d];rfl);grind
end
end Go.QM
namespace Go.Proofs.Q
open Go Go.QM
def tp:List Value:=Lib.deBruijn64tab.map λn:Nat=>.int .u8 n
def qA:List Value:=ints [0,64,128,256,32,32,48,256]
def jp(k r:Int)(s:Bool):List Value:=[.int .i64 k,.int .i64 r,.bool s]
def sB:List Value:=jp 0 0 false++jp 1 1 true++jp 0 8 true++jp 3 2 true++jp 3 2 true++jp 4 2 true++jp 5 2 true++jp 5 2 true++jp 5 2 true++jp 5 1 true++jp 4 1 true++jp 0 0 false++jp 0 0 false++jp 0 0 false++jp 0 0 false++jp 2 2 true++jp 0 0 true++jp 8 1 true++jp 8 2 true
structure cW(F:aw):Prop where
  co:∃E lU,Rd F 0 (.cells qA.toArray E lU)
  LJ:∃E lU,Rd F 1 (.cells sB.toArray E lU)
  TJ:∃E lU,Rd F 2 (.cells tp.toArray E lU)
class cl(F:aw):Prop where
  aY:cW F
instance (A:aw)(l:List aw)[h:cl (ag l)]:cl (ag (A::l)):=⟨by
  obtain⟨⟨nq,Cj,gH⟩,⟨sJ,z2,gI⟩,⟨zt,z3,gJ⟩⟩:=h.aY
  exact⟨⟨nq,Cj,lG gH⟩,⟨sJ,z2,lG gI⟩,⟨zt,z3,lG gJ⟩⟩⟩
instance (A:aw)(l:List aw)[h:cl A]:cl (ag (A::l)):=⟨by
  obtain⟨⟨nq,Cj,gH⟩,⟨sJ,z2,gI⟩,⟨zt,z3,gJ⟩⟩:=h.aY
  exact⟨⟨nq,Cj,jn gH⟩,⟨sJ,z2,jn gI⟩,⟨zt,z3,jn gJ⟩⟩⟩
variable{k:Nat}
theorem TK{j:Nat}(d:j<64)(u:Lib.deBruijn64tab.getD j 0=k):tp[j]? =some (nb k):=by have w:j<Lib.deBruijn64tab.length:=d;grind[tp]
theorem TL(u:k<64):∃j,j<64/\2^k*285870213051353865 %2^64/2^58=j/\tp[0+((j:Nat):Int).toNat*1]? =some (nb k):=by obtain⟨d,w⟩:=Lib.deBruijn64_at k u;refine⟨_,d,rfl,?_⟩;rw[Wl,Ww,WA];grind[TK]
def fS(n:Nat):Nat:=(n+63)/64
structure mM where
  ad:Option Addr
  cap:Nat
def gf(b n:Nat)(f:Nat->Bool):aw:=eQ λy:mM=>pure' (∀j,n<=j->f j=false) (ag [aj b 356 [.int .i64 n,.slice y.ad (fS n) y.cap],a6 47 1 y.ad (fS n) y.cap (k6 f (fS n))])
theorem KG(w:Nat):k6 (λ_=>false) w=List.replicate w (bm 0):=by rw[k6,List.eq_replicate_iff];refine⟨by simp,λv hv=>?_⟩;obtain⟨k,_,rfl⟩:=List.mem_map.1 hv;trivial
def kQ(f:Nat->Bool)(i:Nat)(on:Bool):Nat->Bool:=λx=>if x=i then on else f x
theorem Hw{f:Nat->Bool}{i:Nat}{on:Bool}(h:f i=on):kQ f i on=f:=by grind[kQ]
theorem BE{f:Nat->Bool}{i:Nat}{on:Bool}(h:f i≠on):kQ f i on=ff f i:=by funext x;rw[kQ,ff];split;rename_i e;subst e;revert h;cases on<;>cases f x<;>simp;trivial
variable(on:Bool)
theorem Sh{f:Nat->Bool}{n i:Nat}(u:i<n)(h:∀j,n<=j->f j=false):∀j,n<=j->kQ f i on j=false:=λj d=>by
 rw[kQ,al U];exact h j d
def og:Option Nat->Int
  | some i=>(i:Int)
  | none=>-1
def CB(f:Nat->Bool)(on:Bool)(n o:Nat):Option Nat->Prop
  | some i=>vB f on n o i
  | none=>sq f on n o
theorem KF{f:Nat->Bool}:iu f k=0↔∀j,64*k<=j->j<64*(k+1)->f j=false:=by constructor;intro h j d u;have w:=rA f k (j-64*k);grind;intro h;apply Nat.eq_of_testBit_eq;intro j;rw[Nat.zero_testBit,rA];grind
theorem LM{x:Nat}(h:x<2^64):x/2^0*2^0 %2^64=x:=by simp;omega
variable(x:Nat)
theorem Gm(u:x<2^64):bz 291 [bm x] bg [] (aa (fv x:Int)) []:=by
 apply aI Tryz.func291 Tryz.ntmps291;intro F _;apply J [10];obtain⟨-,-,d,C,D⟩:=Gq u;have E:o4 (m5 (l1 (kp x)))<2^61:=by grind[o4]
 have H:jE (o4 (m5 (l1 (kp x))))<2^62:=by grind[jE]
 have w:s6 (jE (o4 (m5 (l1 (kp x)))))<2^63:=by grind[s6]
 apply J [107,26];refine q rfl rfl (jH (n:=1) rfl rfl u rfl) ?_;refine q rfl rfl (kB (b:=6148914691236517205) rfl rfl U an rfl) ?_;apply J [2];refine q rfl rfl (kB (b:=6148914691236517205) rfl rfl u an rfl) ?_;refine q rfl rfl (lI (c:=kp x) rfl rfl rfl d) ?_;apply J [85];refine q rfl rfl (jH (n:=2) rfl rfl d rfl) ?_;refine q rfl rfl (kB (b:=3689348814741910323) rfl rfl U an rfl) ?_;apply J [2];refine q rfl rfl (kB (b:=3689348814741910323) rfl rfl d an rfl) ?_;refine q rfl rfl (lI (c:=l1 (kp x)) rfl rfl rfl U) ?_;apply J [85];refine q rfl rfl (jH (n:=4) rfl rfl U rfl) ?_;apply J [2];refine q rfl rfl (lI rfl rfl rfl U) ?_;refine q rfl rfl (kB (b:=1085102592571150095) (c:=m5 (l1 (kp x))) rfl rfl U an rfl) ?_;apply J [85,2];refine q rfl rfl (jH (n:=8) rfl rfl U rfl) ?_;refine q rfl rfl (lI (c:=o4 (m5 (l1 (kp x)))) rfl rfl rfl U) ?_;apply J [85,2];refine q rfl rfl (jH (n:=16) rfl rfl U rfl) ?_;refine q rfl rfl (lI (c:=jE (o4 (m5 (l1 (kp x))))) rfl rfl rfl U) ?_;apply J [85,2];refine q rfl rfl (jH (n:=32) rfl rfl U rfl) ?_;refine q rfl rfl (lI (c:=s6 (jE (o4 (m5 (l1 (kp x)))))) rfl rfl rfl U) ?_;apply J [85];refine q rfl rfl (conv .u64 .i64 rfl rfl rfl (ow w)) ?_;refine q rfl rfl (ru (b:=127) (c:=fv x) rfl rfl w an rfl) ?_;apply J [30];exact kc
theorem xl(d:x<2^64):bz 233 [bm x] bg [] (aa (fv x:Int)) []:=by apply aI Tryz.func233 Tryz.ntmps233;intro F _;apply J [10,39,192,140];apply aq (Gm x d);apply J [151,30];exact kc
theorem Iv(w:x<2^64):bz 232 [bm x] cW [] (aa (XC 64 x:Int)) []:=by
 apply aI Tryz.func232 Tryz.ntmps232;intro F O;apply J [10,39,171];apply Ve rfl<;>intro d;obtain rfl:x=0:=by omega
 have Q:XC 64 0=64:=rfl;rw[Q];apply J [213];exact kc;have d:x≠0:=U
 obtain⟨H,u⟩:=Lib.lowest_bit 64 x d w;obtain⟨j,V,D,C⟩:=TL u;obtain⟨_,⟨E,N,P⟩⟩:=(⟨True.intro,O.TJ⟩:True/\_);haveI:gb F 2 (.cells tp.toArray E N):=⟨P⟩;generalize XC 64 x=k at H u D C⊢;have W:2^k<2^64:=Nat.pow_lt_pow_right an u;apply J [4,199];refine q rfl rfl (Qn rfl d w) ?_;refine q rfl rfl (kB (c:=2^k) rfl rfl w U H) ?_;refine q rfl rfl (P9 (b:=285870213051353865) rfl rfl rfl) ?_;refine q rfl rfl (jH (n:=58) (c:=j) rfl rfl (X0 _ an) D) ?_;refine q rfl rfl (lW 64 5 1 rfl rfl rfl U U) ?_;refine q rfl rfl (gL rfl rfl C) ?_;refine q rfl rfl (conv .u8 .i64 rfl rfl rfl (ow U)) ?_;apply J [30];exact kc
theorem TM(u:x<2^64):bz 234 [bm x] cW [] (aa (XC 64 x:Int)) []:=by apply aI Tryz.func234 Tryz.ntmps234;intro F d;apply J [10];haveI:cl F:=⟨d⟩;apply J [39,192,140];apply aq (Iv x u);apply J [151,30];exact kc
variable(n:Nat)
theorem Dj(h:n<=1048576):bK 235 [aa n] bg [] (λb:Nat=>ae b) (λ_=>True) (λb=>[gf b n (λ_=>false)]):=by apply aI Tryz.func235 Tryz.ntmps235;intro F _;refine J [10,130,180,392,168,97] ?_;refine Ve rfl (λd=>absurd d U) (λd=>?_);refine J [4,199,149,245,584,0] ?_;refine AQ (E:=47) (n:=fS n) (z:=bm 0) 8 rfl rfl rfl rfl rfl rfl (by rw[fS];omega) (by rw[fS];simp only[maxLen];omega) ?_;intro be;refine q rfl rfl (ei (cs:=[.int _ _,.slice _ _ _]) rfl) ?_;refine e rfl ?_;refine fe (v:=.agg #[_,_]) (l:=[.int _ _,.slice _ _ _]) rfl rfl ?_;intro bA;apply J [109];exact bv bA trivial (aA (⟨some ⟨be,0,none⟩,fS n⟩:mM) (λ_ _=>rfl) (ao (by rw[KG];exact(ao (ao (a7 _))))))
variable(b:Nat)
theorem vY(n:Nat)(v:Value):bz 230 [ae b] bg [aj b 356 [aa n,v]] (aa n) [aj b 356 [aa n,v]]:=by apply aI Tryz.func230 Tryz.ntmps230;intro F _;apply J [1,39,42,41,30];exact hT
theorem Di(n:Nat)(f:Nat->Bool)(i:Nat)(au:n<=1048576):bz 171 [ae b,aa i] bg [gf b n f] (.bool (f i)) [gf b n f]:=by
 apply aI Tryz.func171 Tryz.ntmps171;intro F _;apply J [1];refine ab.open 0 rfl (λE D=>?_);obtain⟨ad,cap⟩:=E;have u:=D;apply J [11];dsimp only at u⊢;refine J [221,271,466,17,301,144] ?_;apply aq (vY b n (.slice ad (fS n) cap));apply J [8,409,73];refine aW.split 13 rfl (λd=>?_) (λd=>?_);have d:=dp d;have hw:i/64<fS n:=by grind[fS]
 have H:=rz f (fS n);have O:0<(k6 f (fS n)).length:=U
 have C:=KC f i;have w:=tR f (i/64);apply J [138,237,17];refine c9 rfl rfl rfl (Wp (v:=((i/64:Nat):Int)) (ln rfl rfl U U U) U) ?_;refine c9 rfl rfl rfl (hH 47 1 rfl rfl rfl U eB) ?_;refine c9 rfl rfl rfl (dG rfl rfl (by rw[Ww];exact ry f hw)) ?_;apply J [17];refine c9 rfl rfl rfl (Wp (v:=((i %64:Nat):Int)) (p3 rfl rfl U U) U) ?_;refine c9 rfl rfl rfl (jH rfl rfl w rfl) ?_;refine c9 rfl rfl rfl (Wp (v:=((if f i=true then 1 else 0:Nat):Int)) (Kb rfl rfl (Nat.lt_of_le_of_lt (Nat.div_le_self _ _) w)) (congrArg Int.ofNat C)) ?_;apply J [155,133];exact ca.i () [_] ⟨rfl,trivial⟩ (congrArg Value.bool (by cases N:f i<;>simp)) trivial (aA (⟨ad,cap⟩:mM) u ai);have d:=eb d;have hv:f i=false:=b6
 rw[hv];apply J [46,46,105,94];exact fc (aA (⟨ad,cap⟩:mM) u ai)
theorem qy(n:Nat)(f:Nat->Bool)(i:Nat)(on:Bool)(d:Option Addr)(H:Nat)(aw:i<n)(au:n<=1048576):bz 236 [ae b,.bool on,.slice d 1 H] (λF=>∃E,cQ F E d (ints [(i:Int)])) [gf b n f] (aa (if f i=on then 0 else 1)) [gf b n (kQ f i on)]:=by
 apply aI Tryz.func236 Tryz.ntmps236;intro F ⟨E,Q⟩;apply J [1];haveI:bn F d E (ints [(i:Int)]):=⟨Q⟩;apply J [107,39,34,177];refine VK (ι:=Nat) (λk=>k<=1) (λk=>[(0,ae b),(1,.bool on),(7,aa (if k=0 then 0 else if f i=on then 0 else 1)),(10,.slice d 1 H),(11,aa 1),(12,aa ((k:Nat):Int))]) (λk=>ag [gf b n (if k=0 then f else kQ f i on),F]) (λk=>1-k) 0 U bH (ao (ao (a7 _))) ?_;rintro k W a0;dsimp only[cx]at W⊢;apply J [43];apply Ve rfl<;>intro aD;obtain rfl:k=0:=U
 have aJ:0<(ints [(i:Int)]).length:=by grind[ints]
 rw[az rfl,az rfl];refine ab.open 0 rfl (λD C=>?_);obtain⟨ad,cap⟩:=D;have P:=C;apply J [11];dsimp only at P⊢;refine J [189] ?_;refine q rfl rfl (dG rfl rfl (hj (xs:=[(i:Int)]) (i:=0) rfl)) ?_;apply J [85,271];refine VD 18 rfl (c:=true) (c1 U) ?_;apply J [17,301,144];apply aq (vY b n (.slice ad (fS n) cap));apply J [8,409,73];refine VD 24 rfl (c:=true) (c1 U) ?_;apply J [301,17];refine aW.bf (B:=ag [gf b n f,F]) (aA (⟨ad,cap⟩:mM) P ai) ?_;refine oP rfl rfl ?_;apply aq (Di b n f i au);apply J [5,319];refine c9 rfl rfl rfl (xj rfl rfl rfl) ?_;apply J [183];refine ab.cond rfl (λu=>?_) (λu=>?_);have u:f i≠on:=b6
 have w:=BE (f:=f) (i:=i) (on:=on) u;have hw:i/64<fS n:=by grind[fS]
 have av:=rz f (fS n);have aT:0<(k6 f (fS n)).length:=U
 have V:=KB f hw;have ah:=tR f (i/64);have Z:2^(i %64)<2^64:=Nat.pow_lt_pow_right an U;have O:∀j,n<=j->kQ f i on j=false:=by grind[Sh]
 refine ab.open 0 rfl (λD C=>?_);obtain⟨ad,cap⟩:=D;have ar:=C;apply J [11];dsimp only at ar⊢;refine ab.seq ?_;refine ab.draw _ [13] [0,1,2,3,4,5,6,7,8,9,10,11,12,-13] aV aV (aG.refl _) ?_;apply J [135,16];refine bZ rfl rfl rfl (Wp (v:=((i/64:Nat):Int)) (ln rfl rfl U U U) U) ?_;refine bZ rfl rfl rfl (hH 47 1 rfl rfl rfl U eB) ?_;refine bZ rfl rfl rfl (dG rfl rfl (by rw[Ww];exact ry f hw)) ?_;apply J [16];refine bZ rfl rfl rfl (Wp (v:=((i %64:Nat):Int)) (p3 rfl rfl U U) U) ?_;refine bZ rfl rfl rfl (Sq rfl rfl U) ?_;refine bZ rfl rfl rfl (Uu rfl rfl ah Z rfl) ?_;refine bZ rfl rfl rfl (hH 47 1 rfl rfl rfl U eB) ?_;apply J [67];refine eh (v:=.int _ _) (vs:=[_]) 1 rfl rfl rfl rfl rfl rfl an U (by rw[Ww,V]) ?_;refine J [52,346,48,84] ?_;exact⟨rfl,(0+1),U,U,⟨rfl,rfl,(show aa (0+1)=_ from by rw[al U,al u];rfl),rfl,rfl,rfl,trivial⟩,(by rw[al U,w];rw[w]at O;exact(aA (⟨_,_⟩:mM) O ai))⟩;have he:f i=on:=b6
 have w:=Hw he;refine J [114] ?_;exact⟨rfl,(0+1),U,U,⟨rfl,rfl,(show aa 0=_ from by rw[al U,az he]),rfl,rfl,rfl,trivial⟩,(by rw[al U,w];exact ai)⟩;obtain rfl:k=1:=U
 have N:¬((1:Nat)=0):=U
 rw[al N,al N];apply J [21,134];exact hT
theorem KI(n:Nat)(f:Nat->Bool)(on:Bool)(k:Nat)(u:k<fS n):bz 231 [ae b,.bool on,aa k] bg [gf b n f] (bm (l3 on (iu f k):Int)) [gf b n f]:=by
 apply aI Tryz.func231 Tryz.ntmps231;intro F _;apply J [1];refine ab.open 0 rfl (λD C=>?_);obtain⟨ad,cap⟩:=D;have d:=C;apply J [11];dsimp only at d⊢;have E:=rz f (fS n);have H:0<(k6 f (fS n)).length:=U
 have w:=tR f k;apply J [39,83,3];cases on with|true=>?_|false=>?_
 refine J [14,87,2,442] ?_;refine q rfl rfl (dG rfl rfl (by rw[Ww];exact ry f u)) ?_;apply J [120];exact ca.i () [_] ⟨rfl,trivial⟩ (by rw[l3,az rfl];rfl) trivial (aA (⟨ad,cap⟩:mM) d ai);refine J [192,87,2,442] ?_;refine q rfl rfl (dG rfl rfl (by rw[Ww];exact ry f u)) ?_;refine q rfl rfl (Lv rfl w) ?_;apply J [30];exact ca.i () [_] ⟨rfl,trivial⟩ (by rw[l3,al an];rfl) trivial (aA (⟨ad,cap⟩:mM) d ai)
theorem vX(n:Nat)(f:Nat->Bool)(on:Bool)(o:Nat)(a9:o<=1048577)(au:n<=1048576):bK 173 [ae b,.bool on,aa o] cW [gf b n f] (λy:Option Nat=>aa (og y)) (λy=>CB f on n o y) (λ_=>[gf b n f]):=by
 apply aI Tryz.func173 Tryz.ntmps173;intro F av;apply J [1];haveI:cl F:=⟨av⟩;apply J [107,26];refine q rfl rfl (Wp (v:=(o:Int)) (PM rfl rfl) (Int.max_eq_left U)) ?_;refine J [31,26,585,28,51] ?_;refine VK (ι:=Nat) (λk=>(o/64<=k/\k<=20000)/\∀j,o<=j->j<64*k->j<n->f j≠on) (λk=>[(0,ae b),(1,.bool on),(2,aa o),(7,aa ((k:Nat):Int))]) (λk=>ag [gf b n f,F]) (λk=>20000-k) (o/64) ⟨⟨Nat.le_refl _,by omega⟩,λj O ah _=>by omega⟩ bH (ao (ao (a7 _))) ?_;rintro k ⟨⟨aw,aD⟩,eP⟩ ba;dsimp only[cx]at aw aD eP⊢;refine ab.open 0 rfl (λN d=>?_);obtain⟨ad,cap⟩:=N;have C:=d;apply J [11];dsimp only at C⊢;refine J [118,464,158,0] ?_;apply aq (vY b n (.slice ad (fS n) cap));apply J [8,137];apply Ve rfl<;>intro a5;refine ab.bf (B:=ag [gf b n f,F]) (aA (⟨ad,cap⟩:mM) C ai) ?_;have aJ:k<fS n:=by grind[fS]
 have Q:=QB (on:=on) (tR f k);apply J [89,38,20,27];apply aq (KI b n f on k aJ);apply J [5,28];refine ab.cut (ι:=Nat) (λs=>s<64/\o<=max o (64*k)/\max o (64*k)=64*k+s) (λs=>[(0,ae b),(1,.bool on),(2,aa o),(7,aa ((k:Nat):Int)),(8,bm ((l3 on (iu f k)/2^s*2^s %2^64:Nat):Int))]) (λs=>ag [gf b n f,F]) ?_ ?_;refine J [199,585,224] ?_;apply Ve rfl<;>intro he;have he:k=o/64:=U
 refine J [217,2,586] ?_;refine q rfl rfl (jH rfl rfl Q rfl) ?_;refine J [2,586] ?_;refine q rfl rfl (th rfl rfl U rfl) ?_;apply J [28];exact⟨rfl,(o %64),⟨by omega,by omega,by omega⟩,bH,ai⟩;have he:k≠o/64:=U
 apply J [4];exact⟨rfl,0,⟨by omega,by omega,by omega⟩,⟨rfl,rfl,rfl,rfl,by rw[LM Q];rfl,trivial⟩,ai⟩;rintro s ⟨w,a1,a0⟩ bb;dsimp only[cx]at w a1 a0⊢;have W:=Ud (f:=f) (on:=on) (k:=k) w;have Z:=Uc (f:=f) (on:=on) (k:=k) w;have V:l3 on (iu f k)/2^s*2^s %2^64<2^64:=U
 generalize l3 on (iu f k)/2^s*2^s %2^64=x at W Z V⊢;refine J [26,464,27] ?_;apply aq (Iv x V);apply J [5];have a3:XC 64 x<=64:=(by by_cases e:x=0;subst e;decide;omega);refine J [149,28,216,20] ?_;refine aW.split 43 rfl (λd=>?_) (λd=>?_);have d:=dp d;obtain⟨c,O,ah,a2,ar,P⟩:=Z (λe=>d rW);rw[O];refine aW.open 0 rfl (λN d=>?_);obtain⟨ad,cap⟩:=N;have D:=d;apply J [8];dsimp only at D⊢;apply J [17,138,184,409,183];apply Ve rfl<;>intro a4;apply J [142,166];exact ca.i (some (64*k+c)) [_] ⟨rfl,trivial⟩ (congrArg (Value.int .i64) (show _=((64*k+c:Nat):Int)by omega)) ⟨by omega,by omega,ar,λj u E=>by by_cases e:j<64*k;exact eP j u e U;exact P j U E⟩ (aA (⟨ad,cap⟩:mM) D ai);refine J [23,179] ?_;exact⟨rfl,(k+1),⟨⟨by omega,by omega⟩,λj u E H=>by by_cases e:j<64*k;exact eP j u e H;exact P j U U⟩,U,⟨rfl,rfl,rfl,rfl,trivial⟩,(aA (⟨ad,cap⟩:mM) D ai)⟩;have d:=eb d;have d:x=0:=U
 refine J [46,102,71,106,23,179] ?_;exact⟨rfl,(k+1),⟨⟨by omega,by omega⟩,λj u E H=>by by_cases e:j<64*k;exact eP j u e H;exact W d U U⟩,U,⟨rfl,rfl,rfl,rfl,trivial⟩,ai⟩;have aT:sq f on n o:=by grind[sq]
 apply J [21,212];exact bv (none:Option Nat) aT (aA (⟨ad,cap⟩:mM) C ai)
theorem KH(n:Nat)(f:Nat->Bool)(au:n<=1048576):bK 295 [ae b] bg [gf b n f] (λc:Nat=>aa c) (λc=>c=0↔∀j,f j=false) (λ_=>[gf b n f]):=by
 apply aI Tryz.func295 Tryz.ntmps295;intro F _;apply J [1];refine ab.open 0 rfl (λW Q=>?_);obtain⟨ad,cap⟩:=W;have D:=Q;apply J [11];dsimp only at D⊢;apply J [107,39,98];apply aq (vY b n (.slice ad (fS n) cap));apply J [8];have av:fS n<=16384:=by grind[fS]
 refine J [149,245,584,111] ?_;refine VK (ι:=Nat×Nat) (λx=>(x.1<=fS n/\x.2<=64*x.1)/\(x.2=0↔∀j,j<64*x.1->f j=false)) (λx=>[(0,ae b),(3,aa ((x.2:Nat):Int)),(9,aa ((fS n:Nat):Int)),(10,aa ((x.1:Nat):Int))]) (λx=>ag [aj b 356 [aa n,.slice ad (fS n) cap],a6 47 1 ad (fS n) cap (k6 f (fS n)),F]) (λx=>fS n-x.1) (0,0) ⟨⟨Vh _,Vh _⟩,⟨λ_ j h=>by omega,λ_=>rfl⟩⟩ bH (ao (ao (ao (a7 _)))) ?_;rintro⟨k,c⟩ ⟨⟨O,H⟩,u⟩ aD;dsimp only[cx]at O H u⊢;apply J [43];apply Ve rfl<;>intro ah;have P:k<fS n:=U
 have Z:=rz f (fS n);have ar:0<(k6 f (fS n)).length:=U
 have C:=tR f k;obtain⟨aw,V,-⟩:=Gq C;refine J [89,142,217,175,80,2,442] ?_;refine q rfl rfl (dG rfl rfl (by rw[Ww];exact ry f P)) ?_;refine e rfl ?_;apply aq (Gm (iu f k) C);apply J [8];refine q rfl rfl (Wp (v:=((c+fv (iu f k):Nat):Int)) (ir rfl rfl U U) U) ?_;refine J [48,84] ?_;exact⟨rfl,(k+1,c+fv (iu f k)),⟨⟨by omega,by dsimp only;omega⟩,by dsimp only;rw[Nat.add_eq_zero_iff,V,KF,u];exact⟨λ⟨E,d⟩ j w=>by by_cases e:j<64*k;exact E j e;exact d j U w,λh=>⟨λj w=>h j U,λj _ d=>h j d⟩⟩⟩,cy,⟨rfl,rfl,rfl,rfl,trivial⟩,ai⟩;obtain rfl:k=fS n:=U
 have N:c=0↔∀j,f j=false:=(by grind[fS]);apply J [21,134];exact bv c N (aA (⟨ad,cap⟩:mM) D ai)
structure rk where
  aH:Nat
def gB(b:Nat)(m:Nat->Nat)(n:Nat):aw:=eQ λy:rk=>pure' (oL m) (ag [aj b 249 [.slice (cM y.aH) n n],aj y.aH 5 (i9 m n)])
theorem KN(m:Nat->Nat){n o j:Nat}(h:o+j<n):(i9 m n)[o+j*1]? =some (nb (m (o+j):Int)):=by rw[Ww];exact y1 m h
theorem yN(h:n=65536\/n=131072):bK 177 [aa n] bg [] (λb:Nat=>ae b) (λ_=>True) (λb=>[gB b (λ_=>0) n]):=by
 apply aI Tryz.func177 Tryz.ntmps177;intro F _;apply J [10];have d:fv n=1:=by rcases h with rfl|rfl<;>decide+kernel
 refine J [130,180,392,168,40] ?_;refine VD 9 rfl (c:=false) (db U) ?_;refine J [17,467,144] ?_;apply aq (xl n U);apply J [151];rw[d];apply J [309,71,141,140];refine PU (E:=5) (n:=n) (z:=nb 0) 1 rfl rfl rfl rfl rfl rfl U gv ?_;intro be;refine q rfl rfl (ei (cs:=[.slice _ _ _]) rfl) ?_;refine e rfl ?_;refine fe (v:=.agg #[_]) (l:=[.slice _ _ _]) rfl rfl ?_;intro bA;apply J [109];exact bv bA trivial (aA (⟨be⟩:rk) (λ_=>(by decide:0<256)) (ao (b9 0 rfl (by rw[KQ]) (ao (a7 _)))))
variable(aH:Nat)
theorem yO(n at_ k:Nat)(au:n<=131072)(C:at_+k<=n)(D:at_<n):bz 94 [ae b,aa at_,aa k] bg [aj b 249 [.slice (cM aH) n n]] (.tuple #[.slice (some ⟨aH,at_,none⟩) k (n-at_),aa 0]) [aj b 249 [.slice (cM aH) n n]]:=by
 apply aI Tryz.func94 Tryz.ntmps94;intro F _;apply J [1];have u:(at_+k)-at_=k:=U
 have w:0+at_*1=at_:=U
 apply J [24,60,31,51,103,191,180];refine VD 14 rfl (c:=false) (db U) ?_;apply J [209,40];refine VD 18 rfl (c:=false) (db U) ?_;apply J [17,138,184,468,159,40];refine VD 27 rfl (c:=false) (db U) ?_;refine J [17,138,184,468,17,443,159,211] ?_;refine Ve rfl (λd=>absurd d U) (λd=>?_);apply J [23,41,125,2];refine q rfl rfl (Wp (v:=((at_+k:Nat):Int)) (ir rfl rfl U U) U) ?_;refine q rfl rfl (SC (i:=at_) (j:=at_+k) 5 1 rfl rfl rfl rfl U U U) ?_;apply J [60,30];exact ca.i () [.slice (some ⟨aH,0+at_*1,none⟩) (at_+k-at_) (n-at_),aa 0] ⟨rfl,rfl,trivial⟩ (by rw[u,w];rfl) trivial (ao (ao (a7 _)))
theorem C9(n at_ k:Nat)(au:n<=131072)(u:at_+k*8<=n)(w:at_<n)(C:at_ %8=0):bz 169 [ae b,aa at_,aa k] bg [aj b 249 [.slice (cM aH) n n]] (.tuple #[.slice (some ⟨aH,at_,none⟩) (k*8) (n-at_),aa 0]) [aj b 249 [.slice (cM aH) n n]]:=by apply aI Tryz.func169 Tryz.ntmps169;intro F _;apply J [1,24,194,35,2];refine q rfl rfl (Wp (v:=((k*8:Nat):Int)) (oe rfl rfl U U) U) ?_;refine e rfl ?_;apply aq (yO b aH n at_ (k*8) au u w);apply J [5,296,320,70,60,31,26,176];refine VD 20 rfl (c:=true) (c1 U) ?_;refine J [17,469,309,183] ?_;refine Ve rfl (λd=>absurd d U) (λd=>?_);apply J [4,278,60,30];exact hU (ao (ao (a7 _)))
theorem tM(n at_:Nat)(m:Nat->Nat)(au:n<=131072)(O:at_+8<=n)(d:at_ %8=0):bz 122 [ae b,aa at_] bg [gB b m n] (.tuple #[bm (cU m at_:Int),aa 0]) [gB b m n]:=by
 apply aI Tryz.func122 Tryz.ntmps122;intro F _;apply J [1];refine ab.open 0 rfl (λN H=>?_);obtain⟨aH⟩:=N;have hm:=H;apply J [11];dsimp only at hm⊢;apply J [220,33];apply aq (C9 b aH n at_ 1 au U U d);apply J [8,296,320,70,194,39,34,470,111];refine VK (ι:=Nat) (λk=>k<=8) (λk=>[(7,aa 0),(8,bm (kL m at_ k:Int)),(17,.slice (some ⟨aH,at_,none⟩) (1*8) (n-at_)),(18,aa 8),(19,aa ((k:Nat):Int))]) (λk=>ag [aj b 249 [.slice (cM aH) n n],aj aH 5 (i9 m n),F]) (λk=>8-k) 0 U bH (ao (ao (ao (a7 _)))) ?_;rintro k C V;dsimp only[cx]at C⊢;apply J [43];apply Ve rfl<;>intro Q;have D:k<8:=U
 have E:=Pt hm at_ D;have P:=hm (at_+k);have u:=Nat.lt_of_lt_of_le (w6 hm at_ k) (Vi (n:=2) an (show 8*k<=64 by omega));have w:at_+k<n:=U
 apply J [89,26];refine q rfl rfl (Ak (o:=at_+k*1) 5 1 rfl rfl rfl U U (by rw[Wl])) ?_;refine q rfl rfl (gL rfl rfl (KN m w)) ?_;apply J [173,217,2];refine q rfl rfl (conv .u8 .u64 rfl rfl rfl (pg U)) ?_;apply J [2];refine q rfl rfl (Wp (v:=((8*k:Nat):Int)) (oe rfl rfl U U) U) ?_;refine q rfl rfl (th rfl rfl U rfl) ?_;refine q rfl rfl (p1 rfl rfl u (X0 _ an) E) ?_;refine J [48,84] ?_;exact⟨rfl,(k+1),U,U,bH,ai⟩;obtain rfl:k=8:=by omega
 apply J [21,199,95];exact hU (aA (⟨aH⟩:rk) hm ai)
theorem lJ(n at_:Nat)(m:Nat->Nat)(L:List Nat)(d:Option Addr)(u:Nat)(au:n<=131072)(aw:0<L.length)(C:at_+L.length*8<=n)(D:at_ %8=0)(N:∀x∈L,x<2^64):bz 188 [ae b,aa at_,.slice d L.length u] (λF=>∃E,cQ F E d (cO .u64 (L.map (λx:Nat=>(x:Int))))) [gB b m n] (aa 0) [gB b (dx m at_ L) n]:=by
 apply aI Tryz.func188 Tryz.ntmps188;intro F ⟨E,H⟩;apply J [1];haveI:bn F d E (cO .u64 (L.map (λx:Nat=>(x:Int)))):=⟨H⟩;refine ab.open 0 rfl (λav Z=>?_);obtain⟨aH⟩:=av;have hm:=Z;apply J [11];dsimp only at hm⊢;apply J [107,35,62,250,0];apply aq (C9 b aH n at_ L.length au C U D);apply J [8,296,320,70,60,31,34,470,111];refine VK (ι:=Nat) (λk=>k<=L.length*8) (λk=>[(2,.slice d L.length u),(7,.slice (some ⟨aH,at_,none⟩) (L.length*8) (n-at_)),(8,aa 0),(19,aa ((L.length*8:Nat):Int)),(20,aa ((k:Nat):Int))]) (λk=>ag [aj b 249 [.slice (cM aH) n n],aj aH 5 (i9 (ka m at_ L k) n),F]) (λk=>L.length*8-k) 0 U bH (by rw[S2];exact(ao (ao (ao (a7 _))))) ?_;rintro k P a1;dsimp only[cx]at P⊢;apply J [43];apply Ve rfl<;>intro aJ;have aT:k<L.length*8:=U
 have V:k/8<L.length:=U
 obtain⟨x,w⟩:∃x,L[k/8]? =some x:=⟨L[k/8],Vb V⟩;have ah:(L.map (λx:Nat=>(x:Int)))[k/8]? =some (x:Int):=b6
 have ar:=N x (List.mem_of_getElem? w);have a0:0<(cO .u64 (L.map (λx:Nat=>(x:Int)))).length:=by grind[je]
 have O:at_+k<n:=U
 have W:dN (at_+k) [nb ((x/2^(8*(k %8)) %256:Nat):Int)] (i9 (ka m at_ L k) n)=i9 (ka m at_ L (k+1)) n:=(by rw[Dm _ O,S1,Wc,w];rfl);have aD:=sG (ka m at_ L k) n;apply J [89,142,112,2,62,2];refine q rfl rfl (Wp (v:=((k/8:Nat):Int)) (ln rfl rfl U U U) U) ?_;refine J [442] ?_;refine q rfl rfl (dG rfl rfl (nI ah)) ?_;apply J [2];refine q rfl rfl (Wp (v:=((k %8:Nat):Int)) (p3 rfl rfl U U) U) ?_;refine q rfl rfl (Wp (v:=((8*(k %8):Nat):Int)) (oe rfl rfl U U) U) ?_;refine q rfl rfl (jH rfl rfl ar rfl) ?_;refine q rfl rfl (conv .u64 .u8 rfl rfl rfl (T0 _)) ?_;refine q rfl rfl (Ak (o:=at_+k) 5 1 rfl rfl rfl U U (by rw[Wl];omega)) ?_;refine et ?_;refine st (v:=.int _ _) (vs:=[_]) 1 rfl rfl rfl rfl rfl rfl U W ?_;refine J [84] ?_;exact⟨rfl,(k+1),U,U,bH,ai⟩;obtain rfl:k=L.length*8:=U
 have he:ka m at_ L (L.length*8)=dx m at_ L:=by grind[dx]
 rw[he];have Q:oL (dx m at_ L):=by grind[S0]
 apply J [21,134];exact fc (aA (⟨aH⟩:rk) Q ai)
theorem KR(d:Option Addr)(k D:Nat)(cs:List Value)(Q:cs.length=k)(P:0<k)(V:k<=1000000)(H:cs.all Value.oneCell'=true)(O:d≠none):bK 95 [.slice d k D] (λF=>∃E,cQ F E d cs) [] (λy:Option Addr×Nat=>.slice y.1 k y.2) (λ_=>True) (λ_=>[]):=by
 apply aI Tryz.func95 Tryz.ntmps95;intro F ⟨E,N⟩;apply J [10];obtain⟨u,rfl⟩:∃u,d=some u:=by cases d with|none=>exact absurd rfl O|some u=>exact⟨u,rfl⟩
 haveI:bn F (some u) E cs:=⟨N⟩;apply J [188,34];refine q rfl rfl (D3 rfl rfl rfl) ?_;apply J [141,25];refine bs (cs:=[]) rfl ?_;intro cj;apply J [238];refine ap 1 rfl rfl rfl rfl rfl U (show cs.take (k*1)=cs from List.take_of_length_le U) H U gv ?_;intro w C;apply J [91];exact ca.i (w,C) [_] ⟨rfl,trivial⟩ (by dsimp only;rw[WA];rfl) trivial ai
theorem Kg(n at_ k:Nat)(m:Nat->Nat)(au:n<=131072)(u:0<k)(w:at_+k<=n):bK 41 [ae b,aa at_,aa k] bg [gB b m n] (λy:Option Addr×Nat=>.tuple #[.slice y.1 k y.2,aa 0]) (λ_=>True) (λ_=>[gB b m n]):=by apply aI Tryz.func41 Tryz.ntmps41;intro F _;apply J [1];refine ab.open 0 rfl (λD C=>?_);obtain⟨aH⟩:=D;have hm:=C;apply J [11];dsimp only at hm⊢;apply J [24,194,35,27];apply aq (yO b aH n at_ k au w U);apply J [8,296,320,70,194,34];have E:=sG m n;have d:=KM m n;refine e rfl ?_;apply eN (KR (some ⟨aH,at_,none⟩) k (n-at_) (((i9 m n).drop at_).take k) (by rw[List.length_take,List.length_drop];omega) u U (by rw[List.all_eq_true]at d⊢;exact λv hv=>d v (List.mem_of_mem_drop (List.mem_of_mem_take hv))) (λh=>by cases h)) ⟨_,vK (DZ 1 rfl) (CN aH 5 at_ k _)⟩;intro y _;apply J [8,2,60,30];exact cT y trivial (aA (⟨aH⟩:rk) hm ai)
theorem C7(n at_ k:Nat)(m:Nat->Nat)(au:n<=131072)(d:at_+k<=n)(u:at_<n):bz 182 [ae b,aa at_,aa k,nb 0] bg [gB b m n] (aa 0) [gB b (hx m at_ k) n]:=by
 apply aI Tryz.func182 Tryz.ntmps182;intro F _;apply J [1];refine ab.open 0 rfl (λN H=>?_);obtain⟨aH⟩:=N;have hm:=H;apply J [11];dsimp only at hm⊢;apply J [107,35,27];apply aq (yO b aH n at_ k au d u);apply J [8,296,320,70,60,31,34,470,111];refine VK (ι:=Nat) (λj=>j<=k) (λj=>[(3,nb 0),(9,.slice (some ⟨aH,at_,none⟩) k (n-at_)),(10,aa 0),(20,aa k),(21,aa ((j:Nat):Int))]) (λj=>ag [aj b 249 [.slice (cM aH) n n],aj aH 5 (i9 (hx m at_ j) n),F]) (λj=>k-j) 0 U bH (by rw[UI];exact(ao (ao (ao (a7 _))))) ?_;rintro j C Q;dsimp only[cx]at C⊢;apply J [43];apply Ve rfl<;>intro P;have w:at_+j<n:=U
 have O:=sG (hx m at_ j) n;have E:dN (at_+j) [nb 0] (i9 (hx m at_ j) n)=i9 (hx m at_ (j+1)) n:=(by have:=Dm (hx m at_ j) w 0;grind[UH]);apply J [89,142,112,125];refine q rfl rfl (Ak (o:=at_+j) 5 1 rfl rfl rfl U U (by rw[Wl];omega)) ?_;refine et ?_;refine st (v:=.int _ _) (vs:=[_]) 1 rfl rfl rfl rfl rfl rfl U E ?_;refine J [84] ?_;exact⟨rfl,(j+1),U,U,bH,ai⟩;obtain rfl:j=k:=U
 have D:oL (hx m at_ j):=by grind[UG]
 apply J [21,134];exact fc (aA (⟨aH⟩:rk) D ai)
def jW(cn:List Nat)(x:Int):Option Value:=if cn.any (λp=>decide (x=(p:Int)*1024))=true then some (.int .i64 0)else none
theorem Iw{cn:List Nat}{p:Nat}(h:p∈cn):jW cn ((p:Int)*1024)=some (aa 0):=az (List.any_eq_true.2 ⟨p,h,c1 rfl⟩)
theorem TP{cn:List Nat}{p:Nat}(h:p∉cn):jW cn ((p:Int)*1024)=none:=al λd=>by
 obtain⟨q,u,e⟩:=List.any_eq_true.1 d
 have:=dp e
 exact h (by rwa[show p=q by omega])
theorem TN(cn:List Nat)(p:Nat):fo (jW cn) ((p:Int)*1024) (aa 0)=jW (p::cn):=by funext x;rw[fo,jW,jW,List.any_cons];grind
theorem TO{cn:List Nat}(h:cn.Nodup)(p:Nat):gd (jW cn) ((p:Int)*1024)=jW (cn.erase p):=by funext x;rw[gd,jW,jW];by_cases e:x=(p:Int)*1024;rw[az e];grind[List.Nodup.mem_erase_iff];grind
def iR(j top:Nat)(B:Nat->Nat)(aH:Nat):List Value:=.int .i64 top::((V8 21).map (λk=>if k<j then .pointer (some ⟨(B k),0,none⟩)else .pointer none)++[.map (some aH)])
theorem yX{j top:Nat}{B:Nat->Nat}{aH:Nat}(h:k<j)(d:k<21):(iR j top B aH)[0+1+((k:Nat):Int).toNat*1]? =some (.pointer (some ⟨(B k),0,none⟩)):=by rw[Wl,Ww,WA,Nat.add_comm,iR,WI,Wz rV,XB,List.getElem?_range d,WM,az h]
theorem yY(j top:Nat)(B:Nat->Nat)(aH:Nat):(iR j top B aH).length=23:=by simp[iR]
theorem sD{j top:Nat}(B:Nat->Nat)(aH x:Nat)(h:j<21):dN (0+1+((j:Nat):Int).toNat*1) [ae x] (iR j top B aH)=iR (j+1) top (λk=>if k=j then x else B k) aH:=by have e:dN (0+1+((j:Nat):Int).toNat*1) [ae x] (iR j top B aH)=(iR j top B aH).set (1+j) (ae x):=(by rw[List.set_eq_take_append_cons_drop,az (by rw[yY];omega),Wl,Ww,WA];grind[dN]);rw[e];apply List.ext_getElem?;intro i;rw[List.getElem?_set,yY];cases i with|zero=>rw[al U];rfl|succ i=>by_cases C:i<21;have d:∀j B,(iR j top B aH)[i+1]? =some (if i<j then .pointer (some ⟨(B i),0,none⟩)else .pointer none):=λj B=>(by rw[iR,WI,Wz rV,XB,List.getElem?_range C,WM]);rw[d,d];by_cases u:i=j;subst u;rw[az U,az U,az U,az rfl];rw[al U];by_cases w:i<j;rw[az w,az U,al u];rw[al w,al U];rw[al U];have d:∀j B,(iR j top B aH)[i+1]? =[Value.map (some aH)][i-21]? :=λj B=>(by rw[iR,WI,List.getElem?_append_right rV];simp);rw[d,d]
structure tw where
  f:kd
  B:Nat->Nat
  aH:Nat
def lj(b top:Nat)(cn:List Nat):aw:=eQ λy:tw=>pure' (top<=20/\mc y.f top cn) (ag [aj b 361 (iR (top+1) top y.B y.aH),b8 (λk=>gf (y.B k) (2^(top-k)) (y.f k)) (V8 (top+1)),bP QM.encI y.aH (jW cn) cn.length])
theorem Sg(f:kd)(k i:Nat)(v:Bool):lp f k i v k=kQ (f k) i v:=by funext x;rw[lp,kQ];simp_all
theorem xM(f:kd){x:Nat}(i:Nat)(v:Bool)(h:x≠k):lp f k i v x=f x:=by funext y;rw[lp,al (λd=>h d.1)]
theorem r2{n:Nat}(h:k<n):∃L,(V8 n).Perm (k::L)/\∀x∈L,x≠k:=by obtain⟨L,d⟩:=fE (W1.2 h);grind[List.nodup_range]
theorem o6{top:Nat}(h:top<=20):2^(top-k)<=1048576:=Vi (n:=2) an (show top-k<=20 by omega)
variable(top:Nat)
theorem Mo:ue top top=kQ (λ_=>false) 0 true:=by funext x;rw[ue,kQ];simp_all
theorem Mp{top:Nat}(h:k≠top):ue top k=λ_=>false:=by funext x;exact db λd=>h d.1
theorem KA{f:kd}{top:Nat}{cn V:List Nat}(h:mc f top cn)(p:cn.Perm V):mc f top V:=
 ⟨h.bd,λq d=>by rw[h.aq q d];simp only[p.mem_iff],p.nodup_iff.1 h.bC,λq d=>h.lt q (p.mem_iff.2 d)⟩
theorem TQ{cn V:List Nat}(p:cn.Perm V):jW cn=jW V:=by grind[jW]
theorem vT{cn V:List Nat}(p:cn.Perm V):aG (lj b top cn) (lj b top V):=ia λh ⟨y,⟨d,u⟩,w⟩=>⟨y,⟨d,KA u p⟩,by rw[<-TQ p,<-p.length_eq];exact w⟩
def vi:Option Nat->Int
  | some p=>(p:Int)*1024
  | none=>0
def qC{α:Type}:Option α->Int
  | some _=>0
  | none=>4
def lI(cn:List Nat):Option Nat->List Nat
  | some p=>p::cn
  | none=>cn
def J5(top:Nat)(cn:List Nat):Option Nat->Prop
  | some p=>p<2^top/\p∉cn
  | none=>2^top<=cn.length
theorem yZ(h:n=65536/\top=6\/n=131072/\top=7):bK 176 [aa n] cW [] (λb:Nat=>ae b) (λ_=>True) (λb=>[lj b top []]):=by
 apply aI Tryz.func176 Tryz.ntmps176;intro F D;apply J [10];haveI:cl F:=⟨D⟩;have N:fv n=1:=by rcases h with⟨rfl,_⟩|⟨rfl,_⟩<;>decide+kernel
 have E:XC 64 (n/1024)=top:=by rcases h with⟨rfl,rfl⟩|⟨rfl,rfl⟩<;>decide+kernel
 have au:65536<=n/\n<=131072/\top<=7:=U
 clear h;refine J [130,180,471,168,40,522,17,467,144] ?_;apply aq (xl n U);apply J [151];rw[N];apply J [309,71,141,26];refine q rfl rfl (Wp (v:=((n/1024:Nat):Int)) (ln rfl rfl U U U) U) ?_;refine J [307,0] ?_;apply aq (TM (n/1024) U);apply J [151];rw[E];refine J [0,328] ?_;intro be;refine q rfl rfl (ei (cs:=iR 0 top (λ_=>0) _) rfl) ?_;refine e rfl ?_;refine fe (v:=.agg (List.toArray (iR 0 top (λ_=>0) _))) (l:=iR 0 top (λ_=>0) _) rfl rfl ?_;intro bA;refine J [81,41,358,51] ?_;refine VK (ι:=Nat×(Nat->Nat)) (λx=>x.1<=top+1) (λx=>[(3,ae bA),(28,aa ((top+1:Nat):Int)),(29,aa ((x.1:Nat):Int))]) (λx=>ag [aj bA 361 (iR x.1 top x.2 be),b8 (λk=>gf (x.2 k) (2^(top-k)) (λ_=>false)) (V8 x.1),bP QM.encI be (λ_=>none) 0,F]) (λx=>top+1-x.1) (0,λ_=>0) (Vh _) bH ((ni (f:=λk=>gf 0 (2^(top-k)) (λ_=>false)) _).trans (bX (ao (ao (ao (a7 _)))))) ?_;rintro⟨j,B⟩ H Z;dsimp only[cx]at H⊢;apply J [43];apply Ve rfl<;>intro V;have Q:j<=top:=U
 have u:=o6 (k:=j) (show top<=20 by omega);have W:((2^(top-j):Nat):Int)=((2^(top-j):Nat):Int):=rfl;apply J [89,142];refine ab.draw _ [13] [0,1,2,3,4,5,6,7,8,10,11,-9,12,-13] aV aV (ao (a7 _)) ?_;apply J [56,16,72,16];refine bZ rfl rfl rfl (Wp (v:=((top-j:Nat):Int)) (pa rfl rfl U U) U) ?_;refine bZ rfl rfl rfl (nL (a:=1) (c:=2^(top-j)) rfl rfl U (Nat.one_mul _) U) ?_;apply J [66,430,13];apply ba (Dj (2^(top-j)) u);intro ha _;refine J [284] ?_;have O:=sD (top:=top) B be ha (show j<21 by omega);have P:=yY j top B be;refine J [587,67] ?_;refine st (v:=.pointer _) (vs:=[_]) 1 rfl rfl rfl rfl rfl rfl U O ?_;refine J [308,343] ?_;exact⟨rfl,(j+1,λk=>if k=j then ha else B k),cy,cy,bH,(ao (cX 0 0 j rfl rfl (by dsimp only;rw[az rfl]) (λx d=>by dsimp only;rw[al (λe=>by rw[e]at d;exact absurd (W1.1 d) (Nat.lt_irrefl _))]) (by rw[List.range_succ];exact(List.perm_append_singleton _ _).symm) (ao (ao (a7 _)))))⟩;obtain rfl:j=top+1:=U
 have u:=o6 (k:=top) (show top<=20 by omega);obtain⟨C,fX,w⟩:=r2 (n:=top+1) (k:=top) U;apply J [21,7];refine cJ [0,1,2,3,4,5,6,7,8,-9,-10] (ao (a7 _)) ?_;refine J [56,72,66,430,587] ?_;refine bZ rfl rfl rfl (gL rfl rfl (yX U U)) ?_;refine J [13,148] ?_;intro cj;refine⟨ai,?_⟩;obtain⟨C,fX,w⟩:=r2 (n:=top+1) (k:=top) U;refine cd.bf (fV 2 rfl fX) ?_;refine dO rfl rfl ?_;apply eJ (qy (B top) (2^(top-top)) (λ_=>false) 0 true (cM cj) 1 cE u) ⟨_,bn.rd (ad:=some ⟨cj,0,none⟩)⟩;refine J [260,113,38,109] ?_;exact bv bA trivial (aA (⟨ue top,B,be⟩:tw) ⟨by omega,mc.init top⟩ (cZ (cX 0 0 top rfl rfl (by dsimp only;rw[Mo]) (λx d=>by dsimp only;rw[Mp (w x d)]) fX.symm (bX (bX (a7 _))))))
theorem Dc(cn:List Nat):bK 185 [ae b,aa 0] cW [lj b top cn] (λy:Option Nat=>.tuple #[aa (vi y),aa (qC y)]) (λy=>J5 top cn y) (λy=>[lj b top (lI cn y)]):=by
 apply aI Tryz.func185 Tryz.ntmps185;intro F a1;apply J [1];haveI:cl F:=⟨a1⟩;apply ab.open 0 rfl;rintro⟨f,B,aH⟩ ⟨C,aU⟩;apply J [61];dsimp only at aU⊢;apply J [24,223,228,209,40];refine VD 15 rfl (c:=false) (db U) ?_;apply J [17,138,184,159,97];refine Ve rfl (λZ=>absurd Z U) (λZ=>?_);apply J [4,26,173];refine ab.cut (ι:=Nat×Option Nat) (λx=>((∃i,x.2=some i/\x.1<=top/\f x.1 i=true)\/x.2=none/\2^top<=cn.length)) (λx=>[(0,ae b),(1,aa 0),(6,aa ((x.1:Nat):Int)),(7,aa (og x.2))]) (λx=>ag [aj b 361 (iR (top+1) top B aH),b8 (λk=>gf (B k) (2^(top-k)) (f k)) (V8 (top+1)),bP QM.encI aH (jW cn) cn.length,F]) ?_ ?_;refine ab.block ?_;refine VK (ι:=Nat) (λk=>k<=top+1/\∀d,d<k->∀i,i<2^(top-d)->f d i=false) (λk=>[(0,ae b),(1,aa 0),(6,aa ((k:Nat):Int)),(7,aa (-1))]) (λk=>ag [aj b 361 (iR (top+1) top B aH),b8 (λk=>gf (B k) (2^(top-k)) (f k)) (V8 (top+1)),bP QM.encI aH (jW cn) cn.length,F]) (λk=>top+1-k) 0 ⟨Vh _,λd h=>by omega⟩ bH (ao (ao (ao (ao (a7 _))))) ?_;rintro k ⟨E,eP⟩ bg;dsimp only[cx]at E eP⊢;apply J [118,158,78];refine q rfl rfl (leq rfl rfl) ?_;refine aW.nil (iL ?_);apply Ve rfl<;>intro a9;have aw:k<=top:=U
 have H:=o6 (k:=k) C;refine J [89,35,269,472,473] ?_;obtain⟨Q,fX,N⟩:=r2 (n:=top+1) (k:=k) U;refine aW.bf (fV 1 rfl fX) ?_;refine e rfl ?_;apply ba (vX (B k) (2^(top-k)) (f k) true 0 U H);intro y D;apply J [9];cases y with|none=>?_|some i=>?_
 have D:sq (f k) true (2^(top-k)) 0:=D;dsimp only[og];refine J [85,369,106,23,179] ?_;exact⟨rfl,(k+1),⟨by omega,λd aT i av=>by by_cases e:d=k;subst e;have:=D i (Vh _) av;simpa using this;exact eP d U i av⟩,U,⟨rfl,rfl,rfl,rfl,trivial⟩,(bw (cX 0 0 k rfl rfl rfl (λ_ _=>rfl) fX.symm (ao (ao (a7 _)))))⟩;have D:vB (f k) true (2^(top-k)) 0 i:=D;dsimp only[og];apply J [85,369,3];refine Ve rfl (λah=>?_) (λah=>absurd U ah);refine ab.exit (aJ rfl (mZ (mZ (rC (iL ?_)))));exact⟨rfl,(k,some i),.inl ⟨i,rfl,aw,D.2.2.1⟩,bH,(bw (cX 0 0 k rfl rfl rfl (λ_ _=>rfl) fX.symm (ao (ao (a7 _)))))⟩;have O:=aU.none λd aT=>eP d U;apply J [21];exact⟨rfl,(k,none),.inr ⟨rfl,O⟩,bH,(ao (ao (ao (ao (a7 _)))))⟩;rintro⟨k,br⟩ E bg;dsimp only[cx]at E⊢;rcases E with⟨i,rfl,E,au⟩|⟨rfl,O⟩;dsimp only[og];obtain⟨aw,a5⟩:=aU.bd _ _ au;have H:=o6 (k:=k) C;have a2:=aU.take au;apply J [118,137];refine Ve rfl (λar=>absurd ar U) (λar=>?_);refine J [4,35,269,472,473,90] ?_;intro V;obtain⟨Q,fX,N⟩:=r2 (n:=top+1) (k:=k) U;apply J [474,0];apply eJ (qy (B k) (2^(top-k)) (f k) i false (cM V) 1 a5 H) ⟨_,bn.rd (ad:=some ⟨V,0,none⟩)⟩;apply J [12,3];refine ab.cut (ι:=kd×Nat) (λx=>kw x.1 top cn 0 x.2) (λx=>[(0,ae b),(1,aa 0),(7,aa ((x.2:Nat):Int))]) (λx=>ag [aj b 361 (iR (top+1) top B aH),b8 (λk=>gf (B k) (2^(top-k)) (x.1 k)) (V8 (top+1)),bP QM.encI aH (jW cn) cn.length,F]) ?_ ?_;refine ab.block ?_;refine VK (ι:=kd×Nat×Nat) (λx=>kw x.1 top cn x.2.1 x.2.2) (λx=>[(0,ae b),(1,aa 0),(6,aa ((x.2.1:Nat):Int)),(7,aa ((x.2.2:Nat):Int))]) (λx=>ag [aj b 361 (iR (top+1) top B aH),b8 (λk=>gf (B k) (2^(top-k)) (x.1 k)) (V8 (top+1)),bP QM.encI aH (jW cn) cn.length,F]) (λx=>x.2.1) (lp f k i false,k,i) a2 bH (cZ (cX 0 0 k rfl rfl xb (λx P=>by dsimp only;rw[xM _ _ _ (N x P)]) fX.symm (bX (bX (a7 _))))) ?_;rintro⟨f2,d,i2⟩ w bh;dsimp only[cx]at w⊢;apply J [118,2,241,3];apply Ve rfl<;>intro a9;obtain⟨u,rfl⟩:∃u,d=u+1:=⟨d-1,by omega⟩;obtain⟨bo,a3⟩:=w.split;have bl:=w.hZ;have bk:=w.it;have bb:=o6 (k:=u) C;have bi:=wJ (k:=u) (top:=top) U;apply J [89,26];refine q rfl rfl (Wp (v:=((2*i2:Nat):Int)) (oe rfl rfl U U) U) ?_;apply J [28,37,2];refine q rfl rfl (Wp (v:=((u:Nat):Int)) (pa rfl rfl U U) U) ?_;refine J [269,472,473,2] ?_;refine q rfl rfl (Wp (v:=((2*i2+1:Nat):Int)) (ir rfl rfl U U) U) ?_;refine J [0,148] ?_;intro W;obtain⟨Q,fX,N⟩:=r2 (n:=top+1) (k:=u) U;apply J [474,0];apply eJ (qy (B u) (2^(top-u)) (f2 u) (2*i2+1) true (cM W) 1 U bb) ⟨_,bn.rd (ad:=some ⟨W,0,none⟩)⟩;apply J [12,150,217];refine q rfl rfl (Wp (v:=((u:Nat):Int)) (pa rfl rfl U U) U) ?_;apply J [28];exact⟨rfl,(lp f2 u (2*i2+1) true,u,2*i2),a3,cy,bH,(cZ (cX 0 0 u rfl rfl xb (λx P=>by dsimp only;rw[xM _ _ _ (N x P)]) fX.symm (bX (bX (a7 _)))))⟩;obtain rfl:d=0:=U
 apply J [21];exact⟨rfl,(f2,i2),w,bH,ai⟩;rintro⟨f2,i2⟩ w bh;dsimp only[cx]at w⊢;obtain⟨a4,aD,a0⟩:=w.done;have H:=o6 (k:=0) C;rw[Nat.sub_zero]at H;apply J [26];refine q rfl rfl (Wp (v:=((i2*1024:Nat):Int)) (oe rfl rfl U U) U) ?_;apply J [2];refine q rfl rfl (Wp (v:=(i2:Int)*1024) (nL (a:=i2*1024) (n:=0) (c:=i2*1024) rfl rfl U U U) U) ?_;apply J [28,128];refine q rfl rfl (c3 22 rfl rfl) ?_;apply J [53,125,19];refine lY (v:=.int _ _) 3 3 rfl (dP.int rfl) rfl rfl rfl ?_;apply J [3,26,95];exact cT (some i2) ⟨a4,aD⟩ (aA (⟨f2,B,aH⟩:tw) ⟨C,a0⟩ (bX (bX (b9 0 rfl (by dsimp only;rw[TP aD,TN];rfl) (ao (a7 _))))));dsimp only[og];apply J [118,137];refine Ve rfl (λaq=>?_) (λaq=>absurd (an) aq);apply J [24,347];exact cT none O (aA (⟨f,B,aH⟩:tw) ⟨C,aU⟩ (ao (ao (ao (ao (a7 _))))))
theorem Da(cn:List Nat)(w:Nat)(fX:w∈cn):bz 190 [ae b,aa ((w:Int)*1024)] bg [lj b top cn] (aa 0) [lj b top (cn.erase w)]:=by
 apply aI Tryz.func190 Tryz.ntmps190;intro F _;apply J [1];have D:=fX;clear fX;apply ab.open 0 rfl;rintro⟨f,B,aH⟩ ⟨E,aU⟩;apply J [61];dsimp only at aU⊢;have aJ:=aU.lt _ D;have av:=o6 (k:=0) E;rw[Nat.sub_zero]at av;have ar:=aU.Nu D;apply J [24,146,29,129,339,129,55];refine q rfl rfl (c3 22 rfl rfl) ?_;apply J [53,300,441];rw[Iw D];apply J [337,48,104,83,64,141,128];refine q rfl rfl (c3 22 rfl rfl) ?_;apply J [53,2,19];refine lO 3 3 rfl (dP.int rfl) rfl rfl rfl ?_;apply J [3,199];refine q rfl rfl (nL (a:=1024) (n:=0) (c:=1024) rfl rfl U rfl an) ?_;refine q rfl rfl (Wp (v:=(w:Int)) (ln rfl rfl U U U) U) ?_;apply J [28];refine ab.cut (ι:=kd×Nat×Nat) (λx=>kw x.1 top (cn.erase w) x.2.1 x.2.2) (λx=>[(0,ae b),(5,aa ((x.2.1:Nat):Int)),(7,aa ((x.2.2:Nat):Int))]) (λx=>ag [aj b 361 (iR (top+1) top B aH),b8 (λk=>gf (B k) (2^(top-k)) (x.1 k)) (V8 (top+1)),bP QM.encI aH (jW (cn.erase w)) (cn.erase w).length,F]) ?_ ?_;refine ab.block ?_;refine VK (ι:=kd×Nat×Nat) (λx=>kw x.1 top (cn.erase w) x.2.1 x.2.2) (λx=>[(0,ae b),(5,aa ((x.2.1:Nat):Int)),(7,aa ((x.2.2:Nat):Int))]) (λx=>ag [aj b 361 (iR (top+1) top B aH),b8 (λk=>gf (B k) (2^(top-k)) (x.1 k)) (V8 (top+1)),bP QM.encI aH (jW (cn.erase w)) (cn.erase w).length,F]) (λx=>top+1-x.2.1) (f,0,w) ar bH (bX (bX (b9 0 rfl (by rw[Iw D,TO aU.bC,List.length_erase_of_mem D];rfl) (ao (a7 _))))) ?_;rintro⟨f2,d,i2⟩ u aB;dsimp only[cx]at u⊢;have au:=u.hZ;have W:=u.it;have N:=o6 (k:=d) E;apply J [118,158,78,355];refine aW.split 36 rfl (λC=>?_) (λC=>?_);have C:=dp C;have Z:d<top:=U
 have aD:=wJ (k:=d) (top:=top) Z;have aT:=I0 i2;have aw:i2^^^1<2^(top-d):=U
 apply J [301,17,514,569];refine c9 rfl rfl rfl (lW 21 294 1 rfl rfl rfl U U) ?_;refine c9 rfl rfl rfl (gL rfl rfl (yX U U)) ?_;apply J [17];refine c9 rfl rfl rfl (Us (a:=i2) (b:=1) rfl rfl U U rfl) ?_;refine J [144,148] ?_;intro P;obtain⟨ah,fX,H⟩:=r2 (n:=top+1) (k:=d) U;apply J [474,144];apply eJ (qy (B d) (2^(top-d)) (f2 d) (i2^^^1) false (cM P) 1 aw N) ⟨_,bn.rd (ad:=some ⟨P,0,none⟩)⟩;apply J [12];cases V:f2 d (i2^^^1)with|true=>?_|false=>?_
 apply J [155,183,14,4,51,217];refine q rfl rfl (Wp (v:=((i2/2:Nat):Int)) (ln rfl rfl U U U) U) ?_;refine J [2,149,48,48,150] ?_;exact⟨rfl,(lp f2 d (i2^^^1) false,d+1,i2/2),(u.merge Z V),cy,bH,(cZ (cX 0 0 d rfl rfl xb (λx O=>by dsimp only;rw[xM _ _ _ (H x O)]) fX.symm (bX (bX (a7 _)))))⟩;rw[Hw V];apply J [155,461,106,21];exact⟨rfl,(f2,d,i2),u,bH,(cZ (cX 0 0 d rfl rfl rfl (λ_ _=>rfl) fX.symm (bX (bX (a7 _)))))⟩;have C:=eb C;apply J [46,46,74,71,106,21];exact⟨rfl,(f2,d,i2),u,bH,ai⟩;rintro⟨f2,d,i2⟩ u aB;dsimp only[cx]at u⊢;have au:=u.hZ;have W:=u.it;have N:=o6 (k:=d) E;obtain⟨a0,aq⟩:=u.fill;refine J [35,269,472,473,90] ?_;intro Q;obtain⟨ah,fX,H⟩:=r2 (n:=top+1) (k:=d) U;apply J [474,0];apply eJ (qy (B d) (2^(top-d)) (f2 d) i2 true (cM Q) 1 W N) ⟨_,bn.rd (ad:=some ⟨Q,0,none⟩)⟩;apply J [12,123];exact fc (aA (⟨lp f2 d i2 true,B,aH⟩:tw) ⟨E,aq⟩ (cZ (cX 0 0 d rfl rfl xb (λx O=>by dsimp only;rw[xM _ _ _ (H x O)]) fX.symm (bX (bX (a7 _))))))
end Go.Proofs.Q
namespace Go.QM
open Go
section
variable {r : Option Nat} {P : Program} {N : Nat} {ops : Array Oper} {l : List Oper} {Q : fj} {ah : Env} {aT : List Deferred} {A : aw} {K : Value → aw → Prop}
variable {d : Option Tmp} {ty : TypeId} {ps : String} {bk : Array Edge} {g : Option (Nat × Bool)}
variable {t t' : TypeId} {x y z u : Operand}
variable{hs rest:List aw}
theorem K5{f:FuncId}{w:Operand}{vs:List Value}{u:List Operand}{N:Array TypeId}{rd:aw->Prop}{pre:List aw}{Y:Type}{res:Y->Value}{φ:Y->Prop}{post:Y->List aw}
    (spec:eD P f vs rd pre res φ post) (D:bh ah w=.func (.func f) #[] #[]) (C:lS ah u=vs) (E:ky hs pre rest) (H:rd (ag rest)) (k:∀y,φ y->K (res y) (ag (post y++rest))):
    cq r P ah ⟨d,.call ⟨.value w,u.toArray,N⟩,ty,ps,bk,g⟩ (ag hs) K:=
  k7 (lb:=[]) (vs:=vs) (by simpa using spec) D C E H k
variable{ad:Option Addr}{cap n j:Nat}
theorem Sw(E sz:Nat){i mx:Nat}(Q:hq P t E sz=true)(V:bh ah x=.slice ad n cap)(W:bh ah y=aa i)(Z:bh ah z=aa j)(hu:bh ah u=aa mx)(H:i<=j)(N:j<=mx)(O:mx<=cap):
    bG P ah ⟨d,.slice t x (some y) (some z) (some u),ty,ps,bk,g⟩ A (.slice (dM ad mx i sz) (j-i) (mx-i)):=
  λw _=>by
   have et:(Wb (aa mx) cap .slice3Acap).run P w=.ok mx w:=by simp[Wb,asIntOf,O]
   have C:(Wb (aa j) mx .slice3B).run P w=.ok j w:=by simp[Wb,asIntOf,N]
   have D:(Wb (aa i) j .slice3C).run P w=.ok i w:=by simp[Wb,asIntOf,H]
   simp[execOp,Instr.sliceAt,Instr.slice,Instr.sliceBounds,V,W,Z,hu,h5 Q,et,C,D,dM]
theorem SB(E sz:Nat){i:Nat}(u:hq P t E sz=true)(w:bh ah x=.slice ad n cap)(C:bh ah y=aa i)(D:bh ah z=aa j)(H:i<=j)(N:j<=cap):
    bG P ah ⟨d,.slice t x (some y) (some z) none,ty,ps,bk,g⟩ A (.slice (dM ad cap i sz) (j-i) (cap-i)):=by have h:=xR (P:=P) (A:=A) (d:=d) (ty:=ty) (ps:=ps) (bk:=bk) (g:=g) E sz u w C D U U U;trivial
theorem KS(E sz:Nat)(u:hq P t E sz=true)(C:bh ah x=.slice ad n cap):
    bG P ah ⟨d,.call ⟨.builtin .cap,#[x],#[t]⟩,ty,ps,bk,g⟩ A (aa cap):=
  λw _=>by simp[execOp,resolve,invoke,builtin,Builtin.cap_,C,h5 u,goInt]
variable{sz:Nat}
theorem wj{E av m D:Nat}{C:Option Addr}{cs u N:List Value}(k:Nat)(a4:hq P t E sz=true)(ar:bh ah x=.slice (dM ad cap j sz) (n-j) (cap-j))(a5:bh ah y=.slice C m D)
    [H:py hs ad E sz n cap cs rest] [hr:bn (ag hs) C av u] (bd:j<n) (hm:m*sz<=u.length) (a0:Nat.min m (n-j)=k) (O:0<sz) (aw:(u.take (k*sz)).all VN=true) (Z:dN (j*sz) (u.take (k*sz)) cs=N)
    (a9:K (aa k) (ag (a6 E sz ad n cap N::rest))):cq r P ah ⟨d,.call ⟨.builtin .copy,#[x,y],#[t,t']⟩,ty,ps,bk,g⟩ (ag hs) K:=by
 refine cq.run rfl λw Q=>?_;have aI:cs.length=n*sz:=(by obtain⟨i,H⟩:=H.tk;obtain⟨bb,bl,a,b,ba,rfl,O,bi⟩:=Q.bf (fO H);exact(ou O).1);have aD:0<cs.length:=by rw[aI];exact Nat.mul_pos U O
 obtain⟨af,pre,au,rfl,f2,f3,f4,f5,V⟩:=xS Q H.tk aD;have am:w.heap[af]? =some (.cells (pre++cs++au).toArray E (0,0)):=(hA (ng af E _)).sat V;have a1:k<=m:=cv
 have bg:k<=n-j:=cv
 have a2:k*sz<=u.length:=Nat.le_trans (VQ _ a1) hm;have aB:(u.take (k*sz)).length=k*sz:=b6
 have W:j*sz+(u.take (k*sz)).length<=cs.length:=(by rw[aB,f2,<-V7];exact VQ _ U);have aq:=ve (P:=P) (off:=pre.length+j*sz) am AN aw;rw[xU W,Z]at aq;have a3:dM (some (⟨af,pre.length,none⟩:Addr)) cap j sz=some ⟨af,pre.length+j*sz,none⟩:=(by rw[dM,al U];simp[iG]);rw[a3]at ar;have aT:VF sz k (.slice C m D)=VF sz k (.slice C k D):=by cases C<;>rfl
 have aJ:(VF sz k (.slice C m D)).run P w=.ok (u.take (k*sz)).toArray w:=by rw[aT];exact qG (hr.rd.sat Q) a2
 refine⟨aa k,w.setRow af (pre++N++au).toArray,_,.inl ?_,⟨rfl,rfl,rfl,by simp⟩,xT V f2 f3 f4 f5 (by rw[<-Z];exact vc W),a9⟩;simp[execOp,resolve,invoke,builtin,Builtin.copy_,ar,a5,h5 a4,XR,a0,aJ,aq,goInt]
theorem Kd{E i C:Nat}{cs D:List Value}(bytes:Nat)(a0:hq P t E sz=true)(a1:hq P t' E sz=true)(aB:rD P E sz bytes=true)(a2:bh ah x=.slice ad i cap)(a3:bh ah y=.slice (dM ad cap j sz) (n-j) C)
    [u:py hs ad E sz n cap cs rest] (ba:i<=j) (aI:j<=n) (au:0<n) (H:0<sz) (O:cs.all VN=true) (aq:dN (i*sz) (cs.drop (j*sz)) cs=D)
    (k:K (.slice ad (i+(n-j)) cap) (ag (a6 E sz ad n cap D::rest))):cq r P ah ⟨d,.call ⟨.builtin .append,#[x,y],#[t,t']⟩,ty,ps,bk,g⟩ (ag hs) K:=by
 refine cq.run rfl λw N=>?_;have W:cs.length=n*sz/\n<=cap:=(by obtain⟨i,u⟩:=u.tk;obtain⟨a9,bi,a,b,a4,rfl,H,bd⟩:=N.bf (fO u);exact⟨(ou H).1,(ou H).2.1⟩);have aJ:cQ (ag hs) E (dM ad cap j sz) (cs.drop (j*sz)):=(by obtain⟨i,u⟩:=u.tk;exact CM (vK (DZ i u) (yD E sz ad n cap cs)) W.1 aI W.2);have aw:0<cs.length:=b6
 obtain⟨inf,z0,bb,bl,bg,a5,bn⟩:=ua aB;obtain⟨af,pre,av,rfl,f2,f3,f4,f5,Q⟩:=xS N u.tk aw;have am:w.heap[af]? =some (.cells (pre++cs++av).toArray E (0,0)):=(hA (ng af E _)).sat Q;have V:(cs.drop (j*sz)).length=(n-j)*sz:=by grind[Nat.sub_mul]
 have aT:i+(n-j)<=cap:=U
 have Z:i*sz+(cs.drop (j*sz)).length<=cs.length:=by rw[V,f2,<-V7];exact VQ _ U
 have ar:=ve (P:=P) (off:=pre.length+i*sz) am (vs:=cs.drop (j*sz)) AN (by rw[List.all_eq_true]at O⊢;exact λv hv=>O v (List.mem_of_mem_drop hv));rw[xU Z,aq]at ar;have aD:(VF sz (n-j) (.slice (dM (some ⟨af,pre.length,none⟩) cap j sz) (n-j) C)).run P w=.ok (cs.drop (j*sz)).toArray w:=(by have:=qG (P:=P) (w:=w) (sz:=sz) (m:=n-j) (c:=C) (aJ.sat N) (by rw[V];exact Vj _);grind);refine⟨.slice (some ⟨af,pre.length,none⟩) (i+(n-j)) cap,w.setRow af (pre++D++av).toArray,_,.inl ?_,⟨rfl,rfl,rfl,by simp⟩,xT Q f2 f3 f4 f5 (by rw[<-aq];exact vc Z),k⟩;simp only[execOp,resolve,invoke,builtin,Builtin.append_,List.map_toArray,List.map_cons,List.map_nil,Vz,VS,Vo,a2,a3,List.getElem?_toArray,List.getElem?_cons_zero,List.getElem?_cons_succ,h5 a0,h5 a1,XR,Bool.false_eq_true,if_false];rw[az aT];simp only[Vz,Bool.not_false,if_true,aD,Vo,iG,ar,VS]
theorem Ke{E i k V:Nat}{cs zs:List Value}{z0:Value}(bytes:Nat)(N:hq P t E sz=true)(O:sQ P t' .i64=true)(aq:rD P E sz bytes=true)(bb:ly P E=some z0)(a9:bh ah x=.slice ad i cap)(ba:bh ah y=aa k)
    [hr:bn (ag hs) ad V cs] (hm:i*sz<=cs.length) (W:0<k) (a4:0<sz) (D:cap<i+k) (am:(i+k)*bytes<=140737488355328) (aB:i+k<=maxLen) (bi:(Vx k z0.cells.toList).flatten=zs)
    (a1:∀b u,K (.slice (cM b) (i+k) u) (ag (a6 E sz (cM b) (i+k) u (cs.take (i*sz)++zs)::hs))):cq r P ah ⟨d,.call ⟨.builtin .append,#[x,y],#[t,t']⟩,ty,ps,bk,g⟩ (ag hs) K:=by
 obtain⟨inf,z,aw,aJ,aI,C,bd⟩:=ua aq;have a0:z=z0:=by grind[ly]
 subst a0;refine cq.run rfl λw H=>?_;have hold:(VF sz i (.slice ad i cap)).run P w.drew=.ok (cs.take (i*sz)).toArray w.drew:=qG (hr.rd.sat (w:=w.drew) H) hm;have a3:maxLen=9223372036854775807:=rfl;have Q:P.underlying t=some (.slice E)/\P.underlying t'=some (.int .i64):=(by constructor;(·unfold hq at N;split at N;all_goals simp_all);·unfold sQ at O;split at O;all_goals simp_all);have au:=grownCap_ge w (i+k) cap E;have Z:=grownCap_le_maxLen w (i+k) cap E aB;have ar:=growslice_fits (need:=i+k) (old:=cap) (bytes:=bytes) D am;have a2:k*bytes<=(i+k)*bytes:=cv
 have a5:=Lib.run_append_grow_zeros (P:=P) w t t' ty E inf z .i64 .i64 Q.1 Q.2 aw aJ ad i cap (cs.take (i*sz)) (by rw[aI];exact hold) k W U D U (by rw[C];omega) (by rw[C];exact ar);refine⟨.slice (cM w.heap.size) (i+k) (grownCap w (i+k) cap E),w.drew.alloc (.cells ((cs.take (i*sz)).toArray++VG z.cells k++VG z.cells (grownCap w (i+k) cap E-(i+k))) E),_,.inl ?_,?_,?_,a1 w.heap.size (grownCap w (i+k) cap E)⟩;grind[execOp,resolve,invoke,builtin,Vz,VS,Vo];exact⟨rfl,rfl,rfl,by simp⟩;have bg:(VG z.cells k).toList=zs:=(by grind[Cw,VG]);have aT:zs.length=k*sz:=by grind[size_zeroCells]
 refine(nK _ (show sat w.drew (ag hs)from H)).bf (dv (ia λh av=>?_) (aG.refl _));refine⟨([],(VG z.cells (grownCap w (i+k) cap E-(i+k))).toList),⟨rfl,?_,au,Z,?_⟩,?_⟩;grind;have aD:(VG z.cells (grownCap w (i+k) cap E-(i+k))).toList.length=(grownCap w (i+k) cap E-(i+k))*sz:=by grind[size_zeroCells]
 dsimp only;rw[mp,Wo,aT,aD,Xb hm,<-V7,<-V7];simp_all;simp only[aj];have e:([]++(cs.take (i*sz)++zs)++(VG z.cells (grownCap w (i+k) cap E-(i+k))).toList).toArray=(cs.take (i*sz)).toArray++VG z.cells k++VG z.cells (grownCap w (i+k) cap E-(i+k)):=b6;rw[e];exact av
theorem QS{bV:List aw}{f:FuncId}{fn:Func}{S R E bF a9 F7 c2 ar d1 av d2:Nat}{W Z:Option Addr}{N O:List Value}(bl:P.funcs[f]? = some fn)(bo:(fn.name == "runtime.NumGoroutine") = false)(bi:fn.body.isNone = true)(au:Extern.findNext fn = none)
    (he:Extern.find fn=some (Extern.SlicesOverlaps.overlaps #[S,S] #[R])) (C:hq P S E sz=true) (Q:lS ah [x,y]=[.slice W ar d1,.slice (dM Z c2 j sz) av d2]) (i1:Nat)
    (bd:eX i1 hs=some (a6 E sz W bF a9 N,rest)) (aq:∃q,eX q rest=some (a6 E sz Z F7 c2 O,bV)) (gh:0<N.length) (hf:0<O.length) (ce:j<c2) {b0:Array TypeId}
    (k:K (.bool false) (ag hs)):cq r P ah ⟨d,.call ⟨.value (.func f),#[x,y],b0⟩,ty,ps,bk,g⟩ (ag hs) K:=by refine cq.run rfl λw aT=>⟨.bool false,w,_,.inl ?_,fp.refl w,aT,k⟩;obtain⟨q,aq⟩:=aq;obtain⟨cc,a1,a,b,aB,rfl,aD,bg⟩:=aT.bf (fO bd);obtain⟨b3,ay,a2,bA,b4,ba,aI,cb⟩:=fO aq b bg;cases W with|none=>obtain⟨⟨_,_,e⟩,_⟩:=aD;rw[e]at gh;simp at gh|some bK=>(cases Z with|none=>obtain⟨⟨_,_,e⟩,_⟩:=aI;rw[e]at hf;simp at hf|some bL=>obtain⟨⟨V,a4⟩,⟨f1,-,-,-,-⟩,g1⟩:=aD;obtain⟨⟨D,a5⟩,⟨f2,-,-,-,-⟩,g2⟩:=aI;obtain⟨H,cf,s1⟩:=bK;obtain⟨u,cg,s2⟩:=bL;simp only[Addr.mk.injEq,true_and]at f1 f2;obtain⟨rfl,rfl⟩:=f1;obtain⟨rfl,rfl⟩:=f2;dsimp only at g1 g2;(have bM:a H=some (.cells (V++N++a4).toArray E (0,0)):=by rw[g1];simp);have a3:b u=some (.cells (D++O++a5).toArray E (0,0)):=ay _ _ (by rw[ba];exact qL a2 bA _ _ (by rw[g2];simp));have br:H≠u:=λe=>(by subst e;rcases aB H with h|h;rw[bM]at h;cases h;rw[a3]at h;cases h);have cG:=a1 _ _ (qL a b _ _ bM);have b1:=a1 _ _ (uq aB _ _ a3);(have bb:dM (some (⟨u,D.length,none⟩:Addr)) c2 j sz=some ⟨u,D.length+j*sz,none⟩:=by rw[dM,al U];simp[iG]);rw[bb]at Q;have a0:P.underlying S=some (.slice E)/\∀w,(Go.sizeOf E).run P w=.ok sz w:=(by refine⟨?_,λw=>(h5 C w).2⟩;unfold hq at C;split at C;rename_i e h;simp only[Bool.and_eq_true]at C;rw[h];congr 2;exact Nat.eq_of_beq_eq_true C.1;cases C);have bz:=Lib.run_overlaps_apart (P:=P) w S R E a0.1 sz a0.2 ⟨H,V.length,none⟩ ⟨u,D.length+j*sz,none⟩ ar d1 av d2 br E E (V++N++a4).length (D++O++a5).length (by simp[World.shape?,cG]) (by simp[World.shape?,b1]) (by simp only[mp];omega) (by simp[World.frozen?,cG]) (by simp[World.frozen?,cG]);have aJ:=run_callFunc_extern bl bo bi au he #[.slice (some ⟨H,V.length,none⟩) ar d1,.slice (some ⟨u,D.length+j*sz,none⟩) av d2] w;rw[bz]at aJ;simp only[lS,List.cons.injEq,and_true]at Q;have bn:bh ah (.func f)=.func (.func f) #[] #[]:=rfl;simp[execOp,resolve,Deferred.ofValue,invoke,bn,Q.1,Q.2,aJ])
end
theorem HP{l vs:List Value}{a:Nat}(h:l.length<=a+vs.length):dN a vs l=l.take a++vs:=by grind[dN,Wt]
theorem SG{E sz n cap:Nat}{ad:Option Addr}{cs:List Value}{m:Nat}(h:n+m<=cap):aG (a6 E sz ad n cap cs) (eQ λe:List Value=>pure' (e.length=m*sz) (ag [a6 E sz ad (n+m) cap (cs++e)])):=by
 cases ad with
 | none=>
   rintro u ⟨⟨rfl,rfl,rfl⟩,w⟩
   obtain rfl:m=0:=by omega
   obtain⟨C,s,k⟩:=o9 (A:=a6 E sz none 0 0 ([]++[])) u ⟨⟨rfl,rfl,rfl⟩,w⟩
   exact⟨C,s,[],by simp,k⟩
 | some p=>
   intro u ⟨⟨pre,d⟩,⟨H,N,W,Q,V⟩,w⟩
   dsimp only at H N V w
   have O:(n+m)*sz<=cap*sz:=VQ _ h
   have D:(d.take (m*sz)).length=m*sz:=by rw[Wo];rw[V7]at O;omega
   have key:a6 E sz (some p) (n+m) cap (cs++d.take (m*sz)) u:=
     ⟨(pre,d.drop (m*sz)),⟨H,by rw[mp,D,N,V7],h,Q,by dsimp only;rw[mp,D,List.length_drop];rw[V7]at O;omega⟩,by
       dsimp only
       have P:pre++(cs++d.take (m*sz))++d.drop (m*sz)=pre++cs++d:=by simp[VC,V1]
       rw[P];exact w⟩
   obtain⟨C,s,k⟩:=o9 (A:=a6 E sz (some p) (n+m) cap (cs++d.take (m*sz))) u key
   exact⟨C,s,d.take (m*sz),D,k⟩
end Go.QM
namespace Go.Proofs.Q
open Go Go.QM
def uT(B:Nat->Nat)(p:cc):List Value:=[.pointer (some ⟨(B p.aC),0,none⟩),.int .i64 ((p.aC:Int)*1024)]
variable(B:Nat->Nat)
theorem uU(p:cc):(uT B p).length=2:=rfl
def e8(B:Nat->Nat)(L:List cc):List Value:=L.flatMap (uT B)
theorem uR(L:List cc):(e8 B L).length=L.length*2:=kF (uU B) L
theorem xu(B:Nat->Nat):∀L:List cc,(e8 B L).all VN=true
 | []=>rfl
 | p::L=>by have:=xu B L;rw[e8]at this⊢;rw[Vw,List.all_append,this];rfl
theorem xt(L M:List cc):e8 B (L++M)=e8 B L++e8 B M:=by simp[e8]
theorem GS(L:List cc)(i:Nat):(e8 B L).take (i*2)=e8 B (L.take i):=wz (uU B) L i
theorem GP(L:List cc)(i:Nat):(e8 B L).drop (i*2)=e8 B (L.drop i):=zG (uU B) L i
variable{L:List cc}{p:cc}
theorem uS{B:Nat->Nat}{i:Nat}(h:L[i]? =some p):((e8 B L).drop (i*2)).take 2=[.pointer (some ⟨(B p.aC),0,none⟩),aa ((p.aC:Int)*1024)]:=nt (uU B) h
def nl(a b:Int):Int:=if a<b then -1 else if b<a then 1 else 0
theorem DB{a b:Int}:nl a b<0↔a<b:=by unfold nl;omega
theorem DA{a b:Int}:nl a b=0↔a=b:=by unfold nl;omega
def vx(L:List cc)(t:Int)(y:Nat×Bool):Prop:=y.1<=L.length/\(∀k p,L[k]? =some p->(k<y.1↔(p.aC:Int)*1024<t))/\(y.2=true↔∃p,L[y.1]? =some p/\(p.aC:Int)*1024=t)
variable{k:Nat}
theorem N6{cs e vs:List Value}{n:Nat}(w:cs.length=n*2)(he:e.length=1*2)(hv:vs.length=2)(D:k<n):
 dN (k*2) vs (dN ((k+1)*2) (((cs++e).drop (k*2)).take ((n-k)*2)) (cs++e))=cs.take (k*2)++vs++cs.drop (k*2):=by
 have d:((cs++e).drop (k*2)).take ((n-k)*2)=cs.drop (k*2):=(by grind[VR]);have C:(cs.drop (k*2)).length=n*2-k*2:=b6
 have u:dN ((k+1)*2) (cs.drop (k*2)) (cs++e)=(cs++e).take ((k+1)*2)++cs.drop (k*2):=(by grind[HP])
 rw[d,u,dN,hv,WG (by rw[Wo,mp];omega),List.take_take,Xb U,WG U,
  XI,Wt (by rw[Wo,mp];omega),VE]
 congr 1;have:k*2+2-((cs++e).take ((k+1)*2)).length=0:=cv
 simp_all
theorem N4{cs vs zs:List Value}{n:Nat}(w:cs.length=n*2)(E:zs.length=(n+1-k)*2)(hv:vs.length=2)(D:k<n):
 dN ((k+1)*2) ((cs.drop (k*2)).take ((n-k)*2)) (dN (k*2) (vs.take (1*2)) (cs.take (k*2)++zs))=cs.take (k*2)++vs++cs.drop (k*2):=by
 have C:(cs.drop (k*2)).length=n*2-k*2:=b6
 have d:(cs.take (k*2)).length=k*2:=cv
 rw[VR (by omega:(cs.drop (k*2)).length<=(n-k)*2),VR (by omega:vs.length<=1*2)];have u:dN (k*2) vs (cs.take (k*2)++zs)=cs.take (k*2)++vs++zs.drop 2:=(by rw[dN,WG U,VR U,hv,XI,Wt U,VE,d];simp_all);grind[HP]
theorem LY{cs d:List Value}{n:Nat}(u:cs.length=n*2)(w:k<n)(h:d.take ((n-1)*2)=(dN (k*2) (cs.drop ((k+1)*2)) cs).take ((n-1)*2)):d.take ((n-1)*2)=cs.take (k*2)++cs.drop ((k+1)*2):=by grind[dN,VR]
theorem Fc(x:Int):bz 289 [aa x] bg [] (.bool false) []:=by apply aI Tryz.func289 Tryz.ntmps289;intro F _;apply J [10,132,199,161,88];exact ca.i () [_] ⟨rfl,trivial⟩ (congrArg Value.bool cE) trivial (ao (a7 _))
theorem Lk(x y:Int):bz 229 [aa x,aa y] bg [] (aa (nl x y)) []:=by
 apply aI Tryz.func229 Tryz.ntmps229;intro F _;apply J [10,107,140];apply aq (Fc x);apply J [151,36,140];apply aq (Fc y);apply J [151,104,83,122,83,122,199,137];apply Ve rfl<;>intro d;have hv:nl x y=-1:=az d;rw[hv];apply J [213];exact kc;apply J [44,199,241,3];apply Ve rfl<;>intro u;have hv:nl x y=1:=by rw[nl,al d,az u]
 rw[hv];apply J [213];exact kc;have hv:nl x y=0:=by rw[nl,al d,al u]
 rw[hv];apply J [4,212];exact kc
theorem ME(v:Option Addr)(x y:Int):bz 228 [.agg #[.pointer v,aa x],aa y] bg [] (aa (nl x y)) []:=by apply aI Tryz.func228 Tryz.ntmps228;intro F _;refine J [187,523] ?_;intro be;apply J [28,264,27];apply aq (Lk x y);apply J [5,30];exact dy
theorem KL(L:List cc)(ad:Option Addr)(cap:Nat)(t:Int)(hs:L.Pairwise λa b=>a.aC<b.aC)(aw:L.length<=1048576):bK 227 [.slice ad L.length cap,aa t,.func (.func 228) #[] #[]] (λF=>∃E,cQ F E ad (e8 B L)) [] (λy:Nat×Bool=>.tuple #[aa y.1,.bool y.2]) (λy=>vx L t y) (λ_=>[]):=by
 apply aI Tryz.func227 Tryz.ntmps227;intro F ⟨E,Z⟩;apply J [10];haveI:bn F ad E (e8 B L):=⟨Z⟩;have av:=uR B L;apply J [24,185,34,376,85,223,51];refine ab.loop (ι:=Nat×Nat) (λx=>(x.1<=x.2/\x.2<=L.length)/\(∀k gj,L[k]? =some gj->k<x.1->(gj.aC:Int)*1024<t)/\(∀k gj,L[k]? =some gj->x.2<=k->t<=(gj.aC:Int)*1024)) (λx=>[(0,.slice ad L.length cap),(1,aa t),(2,.func (.func 228) #[] #[]),(8,aa L.length),(9,aa ((x.1:Nat):Int)),(10,aa ((x.2:Nat):Int))]) (λx=>ag [F]) (λx=>x.2-x.1) (0,L.length) ⟨⟨Vh _,Vj _⟩,λk gj _ h=>absurd h (Nat.not_lt_zero _),λk gj h N=>absurd (Vl.1 h).1 (by dsimp only at N;omega)⟩ bH (ao (a7 _)) ?_;rintro⟨i,j⟩ ⟨⟨aq,H⟩,Q,O⟩ aJ;dsimp only[cx]at aq H Q O⊢;apply J [118,2,137];apply Ve rfl<;>intro aD;have ah:(i+j)/2<L.length:=U
 obtain⟨gj,d⟩:∃gj,L[(i+j)/2]? =some gj:=⟨L[(i+j)/2],Vb ah⟩;have au:0<(e8 B L).length:=U
 apply J [4,51,199];refine q rfl rfl (Wp (v:=((i+j:Nat):Int)) (ir rfl rfl U U) U) ?_;refine J [307] ?_;refine q rfl rfl (jH (n:=1) (c:=(i+j)/2) rfl rfl U (by rw[Nat.pow_one])) ?_;refine J [261,28,24] ?_;refine q rfl rfl (fC (v:=.func _ _ _) rfl) ?_;refine J [62,2,475] ?_;refine q rfl rfl (gM (vs:=[_,_]) 2 rfl rfl (uS d) rfl an) ?_;refine J [27,588] ?_;intro _ _;apply J [151,137];apply Ve rfl<;>intro D;have D:(gj.aC:Int)*1024<t:=by grind[DB]
 apply J [217];refine q rfl rfl (Wp (v:=(((i+j)/2+1:Nat):Int)) (ir rfl rfl U U) U) ?_;apply J [48,150];exact⟨rfl,((i+j)/2+1,j),⟨⟨by dsimp only;omega,H⟩,λk r u P=>by dsimp only at P;by_cases e:k=(i+j)/2;subst e;rw[d]at u;cases u;exact D;obtain⟨g1,g2⟩:=Vl.1 u;obtain⟨g3,g4⟩:=Vl.1 d;have:=(Wy.1 hs) k ((i+j)/2) g1 g3 U;rw[g2,g4]at this;omega,O⟩,cy,⟨rfl,rfl,rfl,rfl,rfl,rfl,trivial⟩,ai⟩;have D:¬(gj.aC:Int)*1024<t:=λh=>D (DB.2 h);apply J [217,48,150];exact⟨rfl,(i,(i+j)/2),⟨⟨by dsimp only;omega,by dsimp only;omega⟩,Q,λk r u P=>by dsimp only at P;by_cases e:k=(i+j)/2;subst e;rw[d]at u;cases u;omega;obtain⟨g1,g2⟩:=Vl.1 u;obtain⟨g3,g4⟩:=Vl.1 d;have:=(Wy.1 hs) ((i+j)/2) k g3 g1 U;rw[g2,g4]at this;omega⟩,cy,⟨rfl,rfl,rfl,rfl,rfl,rfl,trivial⟩,ai⟩;obtain rfl:i=j:=U
 have V:∀k p,L[k]? =some p->(k<i↔(p.aC:Int)*1024<t):=λk p W=>⟨Q k p W,λh=>by by_cases e:k<i;exact e;have:=O k p W U;omega⟩;apply J [21,26,125,355];refine aW.split 39 rfl (λw=>?_) (λw=>?_);have w:=dp w;have ar:i<L.length:=U
 obtain⟨gj,d⟩:∃gj,L[i]? =some gj:=⟨L[i],Vb ar⟩;have au:0<(e8 B L).length:=U
 refine c9 rfl rfl rfl (fC (v:=.func _ _ _) rfl) ?_;apply J [393,17];refine c9 rfl rfl rfl (hH 296 2 rfl rfl rfl U eB) ?_;refine c9 rfl rfl rfl (gM (vs:=[_,_]) 2 rfl rfl (uS d) rfl an) ?_;refine J [272,588] ?_;intro _ _;apply J [151,155,461,48,88];exact cT (i,decide (nl ((gj.aC:Int)*1024) t=0)) ⟨H,V,⟨λh=>⟨gj,d,DA.1 (dp h)⟩,λ⟨p,C,N⟩=>c1 (DA.2 (by rw[d]at C;cases C;exact N))⟩⟩ ai;have w:=eb w;apply J [46,46,71,48,88];exact cT (i,false) ⟨H,V,⟨λh=>(by cases h),λ⟨p,C,_⟩=>absurd (Vl.1 C).1 U⟩⟩ (ao (a7 _))
theorem QX(ad:Option Addr)(cap n k:Nat)(cs:List Value)(N:k<n)(au:n<=1048576)(D:cs.length=n*2)(V:n<=cap)(Q:cap<=maxLen)(C:cs.all VN=true):bz 296 [.slice ad n cap,aa k,aa ((k:Int)+1)] bg [a6 296 2 ad n cap cs] (.slice ad (n-1) cap) [a6 296 2 ad (n-1) cap (cs.take (k*2)++cs.drop ((k+1)*2))]:=by
 apply aI Tryz.func296 Tryz.ntmps296;intro F _;apply J [1];have Z:maxLen=9223372036854775807:=rfl;have u:((k:Nat):Int)+1=((k+1:Nat):Int):=U
 rw[u];apply J [117,34,125,62,376];refine q rfl rfl (Sw (i:=k) (j:=k+1) (mx:=n) 296 2 rfl rfl rfl rfl rfl U U U) ?_;apply J [29,199,224];refine Ve rfl (λd=>absurd d U) (λd=>?_);apply J [4,34,376,31];refine cJ [0,1,2,3,4,5,-6,7] (a7 _) ?_;apply J [193];refine bZ rfl rfl rfl (nM 296 2 k rfl rfl rfl rfl U) ?_;refine J [193,589,13] ?_;refine Kd 16 rfl rfl rfl rfl rfl U U U an C rfl ?_;refine J [6,370,52,7] ?_;have w:k+(n-(k+1))=n-1:=U
 rw[w];apply J [112,62,376,2];refine q rfl rfl (SB 296 2 rfl rfl rfl rfl U U) ?_;refine et ?_;refine zd (n:=n) (E:=296) (sz:=2) (z:=.agg #[.pointer none,aa 0]) (n-1) rfl rfl rfl rfl an rfl rfl U ?_;intro P W O;apply J [3,34,91];have H:=LY D N O;exact fc (DW 0 rfl (p6 (j:=n-1) U) (by rw[H];exact(ao (ao (a7 _)))))
theorem QY(ad N:Option Addr)(cap aq n k:Nat)(cs vs:List Value)(bb:k<=n)(au:n<=1048576)(u:cs.length=n*2)(hv:vs.length=2)(aw:n<=cap)(a4:cap<=maxLen)(a5:1<=aq)(a1:cs.all VN=true)(O:vs.all VN=true):bK 239 [.slice ad n cap,aa k,.slice N 1 aq] bg [a6 296 2 ad n cap cs,a6 296 2 N 1 aq vs] (λy:Option Addr×Nat=>.slice y.1 (n+1) y.2) (λ_=>True) (λy=>[a6 296 2 y.1 (n+1) y.2 (cs.take (k*2)++vs++cs.drop (k*2))]):=by
 apply aI Tryz.func239 Tryz.ntmps239;intro F _;apply J [11];have bh:maxLen=9223372036854775807:=rfl;refine J [117,278,524,3,34,376,31,26,298,141,34,376,31,199,224] ?_;apply Ve rfl<;>intro bd;obtain rfl:k=n:=U
 apply J [34,238];refine ap 16 rfl rfl rfl rfl rfl U (show vs.take (1*2)=vs from VR U) O U gv ?_;intro W ah;apply J [203,50];have D:cs.take (k*2)++vs++cs.drop (k*2)=cs++vs:=cv
 exact bv (W,ah) trivial (by rw[D];exact(ao (bX (a7 _))));have P:k<n:=U
 refine J [44,199,149,62] ?_;refine q rfl rfl (KS 296 2 rfl rfl) ?_;apply J [241,3];apply Ve rfl<;>intro a2;have a3:cap<k+(n+1-k):=U
 have a0:(Vx (n+1-k) [Yh none,aa 0]).flatten.length=(n+1-k)*2:=cE
 apply J [278];refine q rfl rfl (nM 296 2 k rfl rfl rfl rfl U) ?_;refine J [125,149,2] ?_;refine q rfl rfl (Wp (v:=((n+1-k:Nat):Int)) (pa rfl rfl U U) U) ?_;refine e rfl ?_;refine Ke (E:=296) (sz:=2) (i:=k) (k:=n+1-k) (cs:=cs) (z0:=.agg #[.pointer none,aa 0]) (zs:=(Vx (n+1-k) [Yh none,aa 0]).flatten) 16 rfl rfl rfl rfl rfl rfl U U an U U gv rfl ?_;intro Z ar;have av:k+(n+1-k)=n+1:=U
 rw[av];apply J [206];haveI:sr cs cap k 2:=⟨n,u,by omega,aw⟩;have aT:(vs.take (1*2)).all VN=true:=cv
 have C:((cs.drop (k*2)).take ((n-k)*2)).all VN=true:=cv
 have w:(cs.drop (k*2)).length=(n-k)*2:=cv
 have D:=N4 u a0 hv P;refine J [112,2,524,238] ?_;refine wj (n:=n+1) (j:=k) 1 rfl rfl rfl U U (show min _ _=_ from by omega) an aT rfl ?_;apply J [29];refine cJ [0,1,2,3,4,5,6,7,-8] (a7 _) ?_;refine J [193,16,391] ?_;refine bZ rfl rfl rfl (ot 296 2 (k+1) rfl rfl rfl U U) ?_;apply J [193];refine bZ rfl rfl rfl (ot 296 2 k rfl rfl rfl rfl U) ?_;refine dO rfl rfl ?_;refine wj (n:=n+1) (j:=k+1) (n-k) rfl rfl rfl U (by rw[w];exact Vj _) (show min _ _=_ from by omega) an C D ?_;refine J [113,34,203,50] ?_;exact bv (some ⟨Z,0,none⟩,ar) trivial ai;have Q:n+1<=cap:=U
 apply J [4,34,125];refine q rfl rfl (Wp (v:=((n+1:Nat):Int)) (ir rfl rfl U U) U) ?_;refine q rfl rfl (nM 296 2 (n+1) rfl rfl rfl rfl U) ?_;apply J [206,7];refine ab.bf (DW 0 rfl (SG (m:=1) Q) (Mj _)) ?_;refine ab.open 0 rfl (λd H=>?_);obtain es:=d;have ba:=H;apply J [11];haveI:sr (cs++d) cap k 2:=⟨n+1,by rw[mp,u,H];omega,by omega,Q⟩;have V:vs.take (1*2)=vs:=cv
 have aD:=N6 u H hv P;have a9:((cs++d).drop (k*2)).take ((n-k)*2)=cs.drop (k*2):=(by grind[VR]);have C:(((cs++d).drop (k*2)).take ((n-k)*2)).all VN=true:=cv
 have w:((cs++d).drop (k*2)).length=(n+1-k)*2:=cv
 have aJ:0<(cs++d).length:=b6
 apply J [112,62,125];refine q rfl rfl (Wp (v:=((k+1:Nat):Int)) (ir rfl rfl U U) U) ?_;refine q rfl rfl (ot 296 2 (k+1) rfl rfl rfl rfl U) ?_;refine e rfl ?_;refine QS (S:=291) (R:=4) (F7:=n+1) (c2:=cap) (j:=k+1) Tryz.func293 aV aV aV aV rfl rfl 1 rfl ⟨0,rfl⟩ U aJ U ?_;apply J [236,14,7];refine cJ [0,1,2,3,4,5,6,7,-8] (a7 _) ?_;apply J [193,16];refine bZ rfl rfl rfl (Wp (v:=((k+1:Nat):Int)) (ir rfl rfl U U) U) ?_;refine J [589,193] ?_;refine bZ rfl rfl rfl (ot 296 2 k rfl rfl rfl rfl U) ?_;refine dO rfl rfl ?_;refine wj (n:=n+1) (j:=k+1) (n-k) rfl rfl rfl U (by rw[w];exact Vj _) (show min _ _=_ from by omega) an C rfl ?_;refine J [113,278,524,238] ?_;refine wj (n:=n+1) (j:=k) 1 rfl rfl rfl U U (show min _ _=_ from by omega) an (by rw[V];exact O) (by rw[V,aD]) ?_;apply J [3,34,203,50];exact bv (ad,cap) trivial ai
structure pn where
  B:Nat->Nat
  ad:Option Addr
  cap:Nat
structure md(sz:Nat)(L:List cc):Prop where
  a8:16<=sz/\sz<=512
  inv:oC (960/sz) L
  aC:∀p∈L,p.aC<1048576
def j7(b bd sz:Nat)(L:List cc):aw:=eQ λy:pn=>pure' (md sz L) (ag [aj b 293 [ae bd,.int .i64 sz,.slice y.ad L.length y.cap],a6 296 2 y.ad L.length y.cap (e8 y.B L),b8 (λp:cc=>gf (y.B p.aC) (960/sz) p.f) L])
theorem md.many{sz:Nat}(h:md sz L):1<=960/sz/\960/sz<=60/\960/sz*sz<=960:=by obtain⟨u,w⟩:=h.a8;have d:1<=960/sz:=(Nat.le_div_iff_mul_le U).2 U;have a2:960/sz<=60:=(by exact Nat.div_le_of_le_mul U);exact⟨d,a2,Nat.div_mul_le_self 960 sz⟩
theorem md.place{sz:Nat}(h:md sz L){i:Nat}(d:i<960/sz):i*sz+sz<=960:=by have u:=h.many.2.2;have w:(i+1)*sz<=960/sz*sz:=VQ _ d;grind
theorem Q5(h:L.Pairwise λa b=>a.aC<b.aC):(L.map (·.aC)).Nodup:=by grind
theorem md.len{sz:Nat}(h:md sz L):L.length<=1048576:=by have:=vf (Q5 h.inv.kr) (m:=List.range 1048576) λx u=>(by obtain⟨p,d,rfl⟩:=Vn.1 u;exact List.mem_range.2 (h.aC p d));simp_all
theorem tO(h:L[k]? =some p):L=L.take k++p::L.drop (k+1):=by grind[List.drop_eq_getElem_cons,V1]
variable{aC:Nat}
theorem GR{f:Nat->Bool}(g:Nat->Bool)(h:L[k]? =some ⟨aC,f⟩):e8 B (L.take k++⟨aC,g⟩::L.drop (k+1))=e8 B L:=by
 conv=>rhs;rw[tO h]
 rw[xt,xt];rfl
theorem FD(r:cc)(h:L[k]? =some p):(L.take k++r::L.drop (k+1)).length=L.length:=by grind
theorem G0{f:Nat->Bool}(g:Nat->Bool)(h:L[k]? =some ⟨aC,f⟩):(L.take k++(⟨aC,g⟩:cc)::L.drop (k+1)).map (·.aC)=L.map (·.aC):=by
 conv=>rhs;rw[tO h]
 simp_all
theorem QW{B:Nat->Nat}(h:L[k]? =some p):(e8 B L)[k*2+0]? =some (.pointer (some ⟨(B p.aC),0,none⟩)):=ui (uU B) h rfl
theorem GQ{B C:Nat->Nat}:∀{L:List cc},(∀q∈L,B q.aC=C q.aC)->e8 B L=e8 C L
 | [],_=>rfl
 | q::L,h=>by have d:=GQ (L:=L) λr u=>h r (by simp[u]);rw[e8,e8]at d⊢;rw[Vw,Vw,d,uT,uT,h q cE]
structure CD(sz:Nat)(L:List cc)(aC i:Nat)(y:List cc×Bool):Prop where
  nv:mQ (960/sz) L y.1 aC i
  aC:if y.2=true then(L.map (·.aC)).Perm (aC::y.1.map (·.aC))else y.1.map (·.aC)=L.map (·.aC)
structure yI(sz top:Nat)(cn:List Nat)(L:List cc)(y:Nat×Nat×List cc×Bool):Prop where
  m2:lB (960/sz) L y.2.2.1 y.1 y.2.1
  aC:if y.2.2.2=true then(y.2.2.1.map (·.aC)).Perm (y.1::L.map (·.aC))/\y.1∉cn/\y.1<2^top else y.2.2.1.map (·.aC)=L.map (·.aC)/\y.1∈L.map (·.aC)
  i:y.2.1<960/sz
theorem md.m2{sz i:Nat}{L':List cc}(h:md sz L)(g:lB (960/sz) L L' aC i)(C:aC<1048576):md sz L':=by refine⟨h.a8,g.inv h.inv (by have:=h.many;omega),λp d=>?_⟩;cases g with|old A B f u w D E=>subst u;subst w;rcases Vd.1 d with d|d;exact h.aC p (by simp[d]);rcases Vp.1 d with rfl|d;exact C;exact h.aC p (by simp[d])|new A B u w D E H N=>subst u;subst w;rcases Vd.1 d with d|d;exact h.aC p (by simp[d]);rcases Vp.1 d with rfl|d;exact C;exact h.aC p (by simp[d])
theorem md.nv{sz i:Nat}{L':List cc}(h:md sz L)(g:mQ (960/sz) L L' aC i):md sz L':=by refine⟨h.a8,g.inv h.inv,λp d=>?_⟩;cases g with|stay A B f u w C=>subst u;subst w;rcases Vd.1 d with d|d;exact h.aC p (by simp[d]);rcases Vp.1 d with rfl|d;exact h.aC ⟨aC,f⟩ cE;exact h.aC p (by simp[d])|gone A B f u w C D=>subst u;subst w;exact h.aC p (by rcases Vd.1 d with d|d<;>simp[d])
theorem KJ(C:L[k]? =some p){y:Nat×Bool}(h:vx L ((p.aC:Int)*1024) y)(hs:L.Pairwise λa b=>a.aC<b.aC):y=(k,true):=by obtain⟨d,u,w⟩:=h;grind[Wy]
theorem KK{L:List cc}{y:Nat×Bool}(h:vx L ((aC:Int)*1024) y)(hs:L.Pairwise λa b=>a.aC<b.aC)(au:∀p∈L,p.aC≠aC):(∀p∈L.take y.1,p.aC<aC)/\∀p∈L.drop y.1,aC<p.aC:=by obtain⟨d,u,w⟩:=h;grind[V9]
variable(bd sz:Nat)
theorem SL(h:(16<=sz/\sz<=512)/\sz %16=0):bK 178 [ae bd,aa sz] bg [] (λb:Nat=>ae b) (λ_=>True) (λb=>[j7 b bd sz []]):=by apply aI Tryz.func178 Tryz.ntmps178;intro F _;refine J [10,130,228,209,40,522,168,40] ?_;refine aW.known 15 rfl (c:=false) (db U) ?_;refine J [17,469,309,97] ?_;refine Ve rfl (λd=>absurd d U) (λd=>?_);apply J [4,35];refine q rfl rfl (ei (cs:=[.pointer _,.int _ _,.slice _ _ _]) rfl) ?_;refine e rfl ?_;refine fe (v:=.agg #[_,_,_]) (l:=[.pointer _,.int _ _,.slice _ _ _]) rfl rfl ?_;intro be;apply J [109];exact bv be trivial ((dE 296 2 _).trans ((ni (f:=λp:cc=>gf 0 (960/sz) p.f) _).trans (aA (⟨λ_=>0,none,0⟩:pn) ⟨h.1,⟨Xq,λ_ h=>(by cases h)⟩,λ_ h=>(by cases h)⟩ (bw (bX (ao (ao (a7 _))))))))
theorem SK:bz 178 [ae bd,aa 0] bg [] (.pointer none) []:=by apply aI Tryz.func178 Tryz.ntmps178;intro F _;refine J [10,130,228,209,40,525,341,74,136,276] ?_;exact kc
variable(b:Nat)
theorem SJ(bd sz:Nat)(v:Value)(h:16<=sz/\sz<=512):bz 238 [ae b] bg [aj b 293 [ae bd,aa sz,v]] (aa ((960/sz:Nat):Int)) [aj b 293 [ae bd,aa sz,v]]:=by apply aI Tryz.func238 Tryz.ntmps238;intro F _;apply J [1,39,42,87];refine q rfl rfl (Wp (v:=((960/sz:Nat):Int)) (ln rfl rfl U U U) cE) ?_;apply J [30];exact hT
theorem BM(bd sz aC i:Nat)(w:Value)(d:Nat)(h:i*sz+sz<=960)(C:aC<1048576):bz 174 [ae b,.agg #[ae d,aa ((aC:Int)*1024)],aa i] bg [aj b 293 [ae bd,aa sz,w]] (aa ((aC*1024+64+i*sz:Nat):Int)) [aj b 293 [ae bd,aa sz,w]]:=by
 apply aI Tryz.func174 Tryz.ntmps174;intro F _;apply J [1];have u:(i:Int)*(sz:Int)=((i*sz:Nat):Int):=cE
 refine J [25,523] ?_;intro bA;apply J [31];refine cJ [0,1,2,3,4,5,6,7,8,9,10] (aG.refl _) ?_;refine J [174,391,16,135] ?_;refine bZ rfl rfl rfl (Wp (v:=((i*sz:Nat):Int)) (oe rfl rfl U U) U) ?_;refine bZ rfl rfl rfl (Wp (v:=((aC*1024+64+i*sz:Nat):Int)) (ir rfl rfl U U) U) ?_;apply J [204,147];exact dy
theorem HG(b bd sz:Nat)(B:Nat->Nat)(L:List cc)(ad:Option Addr)(cap:Nat)(t:Int)(hs:L.Pairwise λa b=>a.aC<b.aC)(u:L.length<=1048576):bK 170 [ae b,aa t] (λF=>∃E,cQ F E ad (e8 B L)) [aj b 293 [ae bd,aa sz,.slice ad L.length cap]] (λy:Nat×Bool=>.tuple #[aa y.1,.bool y.2]) (λy=>vx L t y) (λ_=>[aj b 293 [ae bd,aa sz,.slice ad L.length cap]]):=by apply aI Tryz.func170 Tryz.ntmps170;intro F ⟨E,d⟩;apply J [1];haveI:bn F ad E (e8 B L):=⟨d⟩;apply J [24,185,101,27];apply eN (KL B L ad cap t hs u) ⟨_,bn.rd (ad:=ad)⟩;intro y w;apply J [5,70,299,48,88];exact cT y w ai
theorem HH(bd sz:Nat)(L:List cc)(k aC i:Nat)(f:Nat->Bool)(u:L[k]? =some ⟨aC,f⟩)(D:f i=true):bz 123 [ae b,aa ((aC*1024+64+i*sz:Nat):Int)] bg [j7 b bd sz L] (.tuple #[aa k,aa i,.bool true]) [j7 b bd sz L]:=by
 apply aI Tryz.func123 Tryz.ntmps123;intro F _;apply J [1];refine ab.open 0 rfl (λZ V=>?_);obtain⟨B,ad,cap⟩:=Z;have d:=V;apply J [61];dsimp only at d⊢;have E:=d.inv.bd _ (Vg u) i D;have av:=d.place E;have P:=d.aC _ (Vg u);have hs:=d.a8;have hm:=d.many;dsimp only at P E;have N:=(Vl.1 u).1;have O:=d.len;have au:=uR B L;have Q:0<(e8 B L).length:=U
 have ah:(aC*1024+64+i*sz)/1024=aC:=U
 have ar:(aC*1024+64+i*sz) %1024=64+i*sz:=U
 have H:(i*sz) %sz=0:=b6
 have w:(i*sz)/sz=i:=by grind[Nat.mul_div_cancel]
 apply J [24,48,48,104,228,209,97];refine Ve rfl (λC=>absurd C U) (λC=>?_);apply J [4,35];refine q rfl rfl (Wp (v:=(aC:Int)) (ln rfl rfl U U U) U) ?_;refine J [464,0] ?_;apply eN (HG b bd sz B L ad cap ((aC:Int)*1024) d.inv.kr O) ⟨_,bn.rd (ad:=ad)⟩;intro y W;apply J [18];obtain rfl:=KJ u W d.inv.kr;dsimp only;apply J [337,185,26];refine q rfl rfl (Wp (v:=((64+i*sz:Nat):Int)) (p3 rfl rfl U U) U) ?_;refine q rfl rfl (Wp (v:=((i*sz:Nat):Int)) (pa rfl rfl U U) U) ?_;apply J [31,7];refine cJ [0,1,2,3,4,5,6,7,8,9,10,11,12,13,14,15,16,17,18,19,20,21,22,23,24,25,26,27,28,29,-30,31,32] (ao (ao (a7 _))) ?_;apply J [153,377,153,306];refine eV rfl rfl rfl rfl (lss rfl rfl) ?_;apply J [243,153];refine cd.known 33 rfl (b':=false) (db U) ?_;apply J [306,304,305,476,163];refine eV rfl rfl rfl rfl (Wp (v:=(0:Int)) (p3 rfl rfl U U) (by rw[show((i*sz:Nat):Int) %(sz:Int)=((i*sz %sz:Nat):Int)by simp,H];rfl)) ?_;refine eV rfl rfl rfl rfl (uL rfl rfl) ?_;apply J [243,153];refine cd.known 42 rfl (b':=false) (db U) ?_;apply J [304,305,374,163,306];refine eV rfl rfl rfl rfl (hH (i:=k) 296 2 rfl rfl rfl N Q) ?_;refine J [390] ?_;refine eV rfl rfl rfl rfl (dG rfl rfl (QW u)) ?_;apply J [306,304,305,476,163];refine eV rfl rfl rfl rfl (Wp (v:=(i:Int)) (ln rfl rfl U U U) (by rw[show((i*sz:Nat):Int)/(sz:Int)=((i*sz/sz:Nat):Int)by simp,w])) ?_;refine cd.bf (fV 2 rfl (qX u)) ?_;apply J [242];apply aq (Di (B aC) (960/sz) f i U);refine J [284] ?_;rw[D];apply J [444,243,52,49,44,518,16,16,135];refine bZ rfl rfl rfl (Wp (v:=(i:Int)) (ln rfl rfl U U U) (by rw[show((i*sz:Nat):Int)/(sz:Int)=((i*sz/sz:Nat):Int)by simp,w])) ?_;apply J [363,363,273,147];exact ca.i () [_,_,_] ⟨rfl,rfl,rfl,trivial⟩ rfl trivial (aA (⟨B,ad,cap⟩:pn) d (bw (bw (cX 0 0 ⟨aC,f⟩ rfl rfl rfl (λ_ _=>rfl) (qX u).symm (ao (a7 _))))))
theorem SI(bd sz:Nat)(L:List cc)(k aC i:Nat)(f:Nat->Bool)(u:L[k]? =some ⟨aC,f⟩)(d:f i=true):bz 82 [ae b,aa ((aC*1024+64+i*sz:Nat):Int)] bg [j7 b bd sz L] (.bool true) [j7 b bd sz L]:=by apply aI Tryz.func82 Tryz.ntmps82;intro F _;apply J [1,132,33];apply aq (HH b bd sz L k aC i f u d);apply J [5,282,299,48,185,83,88];exact hT
def Bn(sz:Nat):Option (Nat×Nat×List cc×Bool)->Int
  | some y=>((y.1*1024+64+y.2.1*sz:Nat):Int)
  | none=>0
def tS(L:List cc):Option (Nat×Nat×List cc×Bool)->List cc
  | some y=>y.2.2.1
  | none=>L
def tP(cn:List Nat):Option (Nat×Nat×List cc×Bool)->List Nat
  | some y=>if y.2.2.2=true then y.1::cn else cn
  | none=>cn
def J4(sz top:Nat)(cn:List Nat)(L:List cc):Option (Nat×Nat×List cc×Bool)->Prop
  | some y=>yI sz top cn L y
  | none=>2^top<=cn.length
theorem SO(bd top sz:Nat)(L:List cc)(cn:List Nat)(b4:top<=20)(co:∀q∈L,q.aC∈cn):bK 180 [ae b] cW [j7 b bd sz L,lj bd top cn] (λy:Option (Nat×Nat×List cc×Bool)=>.tuple #[aa (Bn sz y),aa (qC y)]) (λy=>J4 sz top cn L y) (λy=>[j7 b bd sz (tS L y),lj bd top (tP cn y)]):=by
 apply aI Tryz.func180 Tryz.ntmps180;intro F a3;apply J [11];haveI:cl F:=⟨a3⟩;refine ab.open 0 rfl (λcf cb=>?_);obtain⟨B,ad,cap⟩:=cf;have w:=cb;apply J [57];dsimp only at w⊢;have hs:=w.a8;have hm:=w.many;have aT:=w.len;have bb:=uR B L;have bi:=xu B L;apply J [24,223,103,122,101,376,111];refine ab.loop (ι:=Nat) (λj=>j<=L.length/\∀N H,N<j->L[N]? =some H->wC (960/sz) H) (λj=>[(0,ae b),(17,.slice ad L.length cap),(18,aa L.length),(19,aa ((j:Nat):Int))]) (λj=>ag [aj b 293 [ae bd,aa sz,.slice ad L.length cap],a6 296 2 ad L.length cap (e8 B L),b8 (λp:cc=>gf (B p.aC) (960/sz) p.f) L,lj bd top cn,F]) (λj=>L.length-j) 0 ⟨Vh _,λN H h=>absurd h (Nat.not_lt_zero _)⟩ bH (ao (ao (ao (ao (ao (a7 _)))))) ?_;rintro j ⟨bF,eP⟩ cz;dsimp only[cx]at bF eP⊢;apply J [43];apply Ve rfl<;>intro cq;have bM:j<L.length:=U
 obtain⟨⟨aC,f⟩,D⟩:∃hf,L[j]? =some hf:=⟨L[j],Vb bM⟩;have ct:0<(e8 B L).length:=U
 have P:=w.aC _ (Vg D);dsimp only at P;refine J [207,475] ?_;refine q rfl rfl (gM (vs:=[_,_]) 2 rfl rfl (uS D) rfl an) ?_;refine J [0,477] ?_;intro cj;apply J [77,93,79];refine aW.bf (fV 3 rfl (qX D)) ?_;refine e rfl ?_;apply ba (vX (B aC) (960/sz) f false 0 U U);intro y C;apply J [15];cases y with|none=>?_|some i=>?_
 have C:sq f false (960/sz) 0:=C;dsimp only[og];refine J [85,369,106,114] ?_;exact⟨rfl,(j+1),⟨by omega,λN H cm ah=>by by_cases e:N=j;subst e;rw[D]at ah;cases ah;intro i2 br;have:=C i2 (Vh _) br;simpa using this;exact eP N H U ah⟩,U,⟨rfl,rfl,rfl,rfl,trivial⟩,(cZ (cZ (cX 0 0 ⟨aC,f⟩ rfl rfl rfl (λ_ _=>rfl) (qX D).symm (bX (bX (a7 _))))))⟩;have C:vB f false (960/sz) 0 i:=C;dsimp only[og];have Q:=C.2.1;have bz:=C.2.2.1;have W:=w.place Q;have b3:kQ f i true=ff f i:=by grind[BE]
 have O:lB (960/sz) L (L.take j++⟨aC,ff f i⟩::L.drop (j+1)) aC i:=.old _ _ f (tO D) rfl bz Q;apply J [85,369,3];refine Ve rfl (λaJ=>?_) (λaJ=>absurd U aJ);refine J [99,90] ?_;intro ar;refine e rfl ?_;refine aO (qy (B aC) (960/sz) f i true (cM ar) 1 Q U) rfl eF.p ⟨_,bn.rd (ad:=some ⟨ar,0,none⟩)⟩ ?_;intro _ _;apply J [54,3,38,167,27];apply aq (BM b bd sz aC i (.slice ad L.length cap) (B aC) W P);apply J [54,173,166];rw[b3];have V:=w.m2 O P;exact cT (some (aC,i,L.take j++⟨aC,ff f i⟩::L.drop (j+1),false)) ⟨O,⟨G0 _ D,Vn.2 ⟨_,Vg D,rfl⟩⟩,Q⟩ (aA (⟨B,ad,cap⟩:pn) V (by dsimp only[tS,tP];rw[FD _ D,GR _ _ D];exact(ao (eT (cX 0 1 ⟨aC,ff f i⟩ rfl rfl rfl (λ_ _=>rfl) List.perm_middle.symm ai)))));refine ab.ns 1 rfl (λ_ bh bg=>?_);obtain rfl:j=L.length:=U
 have bk:∀H∈L,wC (960/sz) H:=λH h=>(by grind[V9]);apply J [21,41,0];apply ba (Dc bd top cn);intro cg a1;apply J [9];cases cg with|none=>?_|some aC=>?_
 have bl:2^top<=cn.length:=a1;dsimp only[vi,qC,lI];apply J [124,32,76,347];exact cT none bl (aA (⟨B,ad,cap⟩:pn) w ai);have P:aC<2^top/\aC∉cn:=a1;dsimp only[vi,qC,lI];obtain⟨W,b0⟩:=P;have b1:=o6 (k:=0) b4;rw[Nat.sub_zero]at b1;have a0:aC<1048576:=U
 have bV:∀q∈L,q.aC≠aC:=cv
 have ck:kQ (λ_=>false) 0 true=λj=>decide (j=0):=(by trivial);apply J [124,202,98];apply aq (SJ b bd sz (.slice ad L.length cap) hs);apply J [9,0];refine aO (Dj (960/sz) U) rfl (ez _) trivial ?_;intro u _;apply J [12,2];refine q rfl rfl (ei (cs:=[.pointer _,.int _ _]) rfl) ?_;refine J [0,477] ?_;intro ch;refine J [77,93,195,148] ?_;intro au;refine e rfl ?_;refine aO (qy u (960/sz) (λ_=>false) 0 true (cM au) 1 U U) rfl eF.p ⟨_,bn.rd (ad:=some ⟨au,0,none⟩)⟩ ?_;intro _ _;apply J [54,3,33];refine aO (HG b bd sz B L ad cap ((aC:Int)*1024) w.inv.kr aT) rfl eF.p ⟨_,bn.rd (ad:=ad)⟩ ?_;intro y C;apply J [54];obtain⟨bL,bo⟩:=KK C w.inv.kr bV;have ce:=C.1;clear C;generalize y.2=cw;generalize y.1=d at*;apply J [337,48,104];refine ab.draw _ [11] [0,1,2,3,4,5,6,-7,-8,9,10,-11] aV aV (ao (bw (a7 _))) ?_;apply J [56,186,16,251,13];refine bs (E:=296) (sz:=2) (cs:=[ae u,aa ((aC:Int)*1024)]) rfl ?_;intro a2;refine J [47] ?_;apply ba (QY ad (cM a2) cap 1 L.length d (e8 B L) [ae u,aa ((aC:Int)*1024)] ce aT bb rfl bh bg U bi rfl);intro z _;refine J [292,6,66,364,67,368,52,38,167,0] ?_;refine aO (BM b bd sz aC 0 (.slice z.1 (L.length+1) z.2) u U a0) rfl (d8 0 rfl (ez _)) trivial ?_;intro _ _;apply J [54,95];have O:lB (960/sz) L (L.take d++⟨aC,λj=>decide (j=0)⟩::L.drop d) aC 0:=.new _ _ (V1 _ _).symm rfl rfl bk bL bo;have V:=w.m2 O a0;have a4:(L.take d++⟨aC,λj=>decide (j=0)⟩::L.drop d).length=L.length+1:=cv
 have ef:((L.take d++⟨aC,λj=>decide (j=0)⟩::L.drop d).map (·.aC)).Perm (aC::L.map (·.aC)):=(by grind[V1]);have cr:∀q∈L,(λx=>if x=aC then u else B x) q.aC=B q.aC:=b6
 have aw:∀M:List cc,(∀q∈M,q∈L)->e8 B M=e8 (λx=>if x=aC then u else B x) M:=λM bN=>(by grind[GQ]);have a9:(e8 B L).take (d*2)++[ae u,aa ((aC:Int)*1024)]++(e8 B L).drop (d*2)=e8 (λx=>if x=aC then u else B x) (L.take d++⟨aC,λj=>decide (j=0)⟩::L.drop d):=(by rw[GS,GP,xt,aw _ (λq Z=>List.mem_of_mem_take Z),aw _ (λq Z=>List.mem_of_mem_drop Z),VC];congr 1;rw[e8,e8,Vw,uT,az rfl]);have av:gf u (960/sz) (kQ (λ_=>false) 0 true)=(λp:cc=>gf ((λx=>if x=aC then u else B x) p.aC) (960/sz) p.f) ⟨aC,λj=>decide (j=0)⟩:=b6
 have aD:∀q∈L,(λp:cc=>gf (B p.aC) (960/sz) p.f) q=(λp:cc=>gf ((λx=>if x=aC then u else B x) p.aC) (960/sz) p.f) q:=b6
 have a5:((⟨aC,λj=>decide (j=0)⟩:cc)::L).Perm (L.take d++⟨aC,λj=>decide (j=0)⟩::L.drop d):=(by(conv=>lhs;rw[<-V1 d L]);exact List.perm_middle.symm);generalize cK:(λp:cc=>gf ((λx=>if x=aC then u else B x) p.aC) (960/sz) p.f)=G at av aD;exact cT (some (aC,0,L.take d++⟨aC,λj=>decide (j=0)⟩::L.drop d,true)) ⟨O,⟨ef,b0,W⟩,cy⟩ (aA (⟨(λx=>if x=aC then u else B x),z.1,z.2⟩:pn) V (by dsimp only[tS,tP];rw[a4,<-a9,cK];exact(ao (ao (cX 0 3 ⟨aC,λj=>decide (j=0)⟩ rfl rfl av aD a5 ai)))))
theorem SH(bd sz:Nat)(L:List cc)(k aC i:Nat)(f:Nat->Bool)(d:L[k]? =some ⟨aC,f⟩)(C:f i=true)(top:Nat)(cn:List Nat)(au:aC∈cn):bK 240 [ae b,aa ((aC*1024+64+i*sz:Nat):Int)] bg [j7 b bd sz L,lj bd top cn] (λ_:List cc×Bool=>aa 0) (λy=>CD sz L aC i y) (λy=>[j7 b bd sz y.1,lj bd top (if y.2=true then cn.erase aC else cn)]):=by
 apply aI Tryz.func240 Tryz.ntmps240;intro F _;apply J [11,39,42,33];apply aq (HH b bd sz L k aC i f d C);apply J [8,282,299,48,48,104,83,64,106];refine ab.open 0 rfl (λaT aD=>?_);obtain⟨B,ad,cap⟩:=aT;have u:=aD;apply J [57];dsimp only at u⊢;refine ab.ns 1 rfl (λ_ V Q=>?_);have H:=u.inv.bd _ (Vg d) i C;have av:=u.aC _ (Vg d);have hm:=u.many;dsimp only at av H;have ah:=(Vl.1 d).1;have ar:=u.len;have P:=uR B L;have W:=xu B L;have a3:0<(e8 B L).length:=U
 have aw:kQ f i false=ff f i:=by grind[BE]
 refine J [4,101,2,475] ?_;refine q rfl rfl (gM (vs:=[_,_]) 2 rfl rfl (uS d) rfl an) ?_;refine J [0,477] ?_;intro a0;refine J [77,93,79,90] ?_;intro E;refine aW.bf (fV 4 rfl (qX d)) ?_;refine e rfl ?_;apply eJ (qy (B aC) (960/sz) f i false (cM E) 1 H U) ⟨_,bn.rd (ad:=some ⟨E,0,none⟩)⟩;apply J [54];rw[aw];apply J [29,99,0];apply ba (KH (B aC) (960/sz) (ff f i) U);intro c a2;apply J [54,224];apply Ve rfl<;>intro a1;have aJ:∀j,ff f i j=false:=b6
 have w:mQ (960/sz) L (L.take k++L.drop (k+1)) aC i:=.gone _ _ f (tO d) rfl C λj _ Z=>by have:=aJ j;rwa[ff,al Z]at this
 have D:=u.nv w;have N:(L.take k++L.drop (k+1)).length=L.length-1:=cv
 have O:(e8 B L).take (k*2)++(e8 B L).drop ((k+1)*2)=e8 B (L.take k++L.drop (k+1)):=by rw[GS,GP,xt]
 have ef:(L.map (·.aC)).Perm (aC::(L.take k++L.drop (k+1)).map (·.aC)):=(by have:=(qX d).map (·.aC);trivial);refine ab.seq ?_;refine cJ [0,1,2,3,4,5,-6] (cZ (cZ (a7 _))) ?_;apply J [72,338];apply aq (Da bd top cn aC au);refine J [292,113,37,175,75,125,149,0] ?_;apply aq (QX ad cap L.length k (e8 B L) ah ar P V Q W);apply J [54,55,290,270,123];exact bv (L.take k++L.drop (k+1),true) ⟨w,ef⟩ (aA (⟨B,ad,cap⟩:pn) D (by dsimp only;rw[N,<-O];exact ai));have w:mQ (960/sz) L (L.take k++⟨aC,ff f i⟩::L.drop (k+1)) aC i:=.stay _ _ f (tO d) rfl C;have D:=u.nv w;apply J [4,212];exact bv (L.take k++⟨aC,ff f i⟩::L.drop (k+1),false) ⟨w,G0 _ d⟩ (aA (⟨B,ad,cap⟩:pn) D (by dsimp only;rw[FD _ d,GR _ _ d];exact(eT (eT (cX 0 0 ⟨aC,ff f i⟩ rfl rfl rfl (λ_ _=>rfl) List.perm_middle.symm ai)))))
end Go.Proofs.Q
namespace Go.QM
open Go
section
variable {r : Option Nat} {P : Program} {N : Nat} {ah : Env} {A : aw} {K : Value → aw → Prop}
variable {d : Option Tmp} {ty : TypeId} {ps : String} {bk : Array Edge} {g : Option (Nat × Bool)} {t : TypeId} {x : Operand}
theorem Bv{hs:List aw}(H e:TypeId){b:Nat}{es:Array MapEntry}{aO:Nat}(D:mr P t H e=true)(E:bh ah x=.map (some b))[hr:gb (ag hs) b (.map es aO)]
    (k:∀i,K (ae i) (ag (obj i (.mapIter (some b) aO #[] aO)::hs))):cq r P ah ⟨d,.range t x,ty,ps,bk,g⟩ (ag hs) K:=
  cq.run rfl λw u=>⟨ae w.heap.size,w.alloc (.mapIter (some b) aO #[] aO),_,.inl (by have C:w.heap[b]? =some (.map es aO):=hr.rd.sat u;simp[execOp,Instr.range,E,o1 D,MapKept.run_getObj_map C]),⟨rfl,rfl,rfl,by simp⟩,nK _ u,k w.heap.size⟩
theorem A8(i:Nat){hs rest:List aw}{it b:Nat}{es:Array MapEntry}{aO:Nat}{seen:Array Nat}(H:bh ah x=ae it)(O:eX i hs=some (obj it (.mapIter (some b) aO seen aO),rest))
    (hr:Rd (ag rest) b (.map es aO)) (am:jl es aO)
    (bM:(∀e∈es.toList,e.born∈seen)->K (.tuple #[.bool false]) (ag (obj it (.mapIter (some b) aO seen aO)::rest)))
    (aq:∀e∈es.toList,e.born∉seen->K (.tuple #[.bool true,e.key,e.val]) (ag (obj it (.mapIter (some b) aO (seen.push e.born) aO)::rest))):
    cq r P ah ⟨d,.next x false,ty,ps,bk,g⟩ (ag hs) K:=by
 refine cq.run rfl λw Z=>?_;have u:=Z.bf (fO O);have E:w.heap[it]? =some (.mapIter (some b) aO seen aO):=(hA (iq it _)).sat u;have N:w.heap[b]? =some (.map es aO):=(qt hr).sat u;rcases run_next_at (P:=P) w ty it b aO aO seen es aO E N am.1 (Nat.le_refl _)with⟨ar,D⟩|⟨e,he,cG,hw,D⟩;refine⟨.tuple #[.bool false],w,_,.inl ?_,fp.refl w,u,bM λe he=>?_⟩;simp only[execOp,H];exact(by simp[D]);by_cases hm:e.born∈seen;trivial;exfalso;have C:e∈(leftOf es seen).toList:=by grind[leftOf]
 simp_all;have C:e∈es.toList/\e.born∉seen:=by grind[leftOf]
 refine⟨.tuple #[.bool true,e.key,e.val],_,_,.inl (by simp only[execOp,H];exact(by simp[D];rfl)),?_,?_,aq e C.1 C.2⟩;rcases hw with rfl|rfl<;>exact⟨rfl,rfl,rfl,by simp[ChangeMaps.setBlock]⟩;have W:sat cG (sep (obj it (.mapIter (some b) aO seen aO)) (ag rest)):=by rcases hw with rfl|rfl<;>exact u
 have au:cG.heap[it]? =some (.mapIter (some b) aO seen aO):=by rcases hw with rfl|rfl<;>exact E
 have V:it<cG.heap.size:=cv
 exact u5 W (by show(cG.heap.setIfInBounds it _)[it]? =_;rw[Array.getElem?_setIfInBounds_self_of_lt V]) (λj Q=>by show(cG.heap.setIfInBounds it _)[j]? =_;rw[Array.getElem?_setIfInBounds_ne (Ne.symm Q)])
theorem zv{it b:Nat}{es:Array MapEntry}{aO since:Nat}{seen:Array Nat}(e:MapEntry)(D:bh ah x=ae it)[C:gb A it (.mapIter (some b) since (seen.push e.born) aO)](hr:Rd A b (.map es aO))
    (he:e∈es.toList) (am:jl es aO):bG P ah ⟨d,.entry x,ty,ps,bk,g⟩ A (.tuple #[e.key,e.val]):=λw u=>by
  have:=run_entry_at (P:=P) w it b since seen es aO e (C.rd.sat u) (hr.sat u) he am.2
  simp only[execOp,D]
  simp[this]
end
def ob(e:MapEntry):Int:=match e.key with
  | .int _ k=>k
  | _=>0
theorem E9{m:List (Int×Value)}{es:Array MapEntry}(h:es.toList.map (λe=>(e.key,e.val))=m.map (λt=>(encI t.1,t.2))):(∀e∈es.toList,e.key=aa (ob e))/\es.toList.map ob=m.map (·.1):=by have d:es.toList.map (·.key)=m.map λt=>encI t.1:=(by have:=congrArg (List.map Prod.fst) h;grind[Function.comp_def]);have w:∀e∈es.toList,e.key=aa (ob e):=λe he=>(by(have C:e.key∈es.toList.map (·.key):=by grind);rw[d]at C;obtain⟨u,_,hu⟩:=Vn.1 C;rw[ob,<-hu];rfl);refine⟨w,?_⟩;have D:es.toList.map (λe=>encI (ob e))=m.map λt=>encI t.1:=(by rw[<-d];exact Wm λe he=>(w e he).symm);have E:=congrArg (List.map λv=>match v with|Value.int _ k=>k|_=>0) D;simpa[X1,Function.comp_def,encI]using E
theorem all_keys{es:Array MapEntry}{aO:Nat}(am:jl es aO){bL:List MapEntry}(O:∀e∈bL,e∈es.toList)(w:(bL.map (·.born)).Nodup)(P:∀e∈es.toList,e.born∈bL.map (·.born)):bL.Perm es.toList:=by have inj:∀a∈es.toList,∀c∈es.toList,a.born=c.born->a=c:=λa C c D e=>(by obtain⟨i,E⟩:=V9 C;obtain⟨j,H⟩:=V9 D;obtain⟨N,be⟩:=Vl.1 E;obtain⟨a2,bA⟩:=Vl.1 H;have Q:=List.pairwise_iff_getElem.1 am.2;grind);have V:bL.Nodup:=(Xe.1 w).imp λu d=>u (congrArg _ d);have W:es.toList.Nodup:=(Xe.1 am.2).imp λu d=>u (congrArg _ d);grind[List.perm_ext_iff_of_nodup]
end Go.QM
namespace Go.Proofs.Q.aD
open Go Go.QM
structure b1 where
  id:Int
  par:Int
  lim:Int
  fU:Int
def ij:List Int->Int
  | []=>0
  | x::l=>x+ij l
theorem HX(l m:List Int):ij (l++m)=ij l+ij m:=by induction l with|nil=>simp[ij]|cons x l d=>rw[List.cons_append,ij,ij,d];omega
theorem S7{l m:List Int}(h:l.Perm m):ij l=ij m:=by induction h with|nil=>rfl|cons x _ w=>rw[ij,ij,w]|swap x y l=>simp only[ij];omega|trans _ _ d u=>exact d.trans u
theorem HY{l:List Int}(h:∀x∈l,0<=x):0<=ij l:=by induction l with|nil=>exact Int.le_refl _|cons x l u=>have:=h x cE;have:=u (λy d=>h y (by simp[d]));rw[ij];omega
theorem S6{l:List Int}{b:Int}(h:∀x∈l,x<=b):ij l<=b*l.length:=by induction l with|nil=>simp[ij]|cons x l u=>have:=h x cE;have:=u (λy d=>h y (by simp[d]));rw[ij,List.length_cons,Int.natCast_add,Int.mul_add];omega
def mo(L:List b1)(x:Int):List b1:=L.filter λt=>decide (t.par=x)
def ft(L:List b1)(x:Int):Int:=ij ((mo L x).map (·.lim))
def gT(L:List b1)(x:Int):Int:=((mo L x).length:Int)
def df(L:List b1)(x:Int):Prop:=∃t∈L,t.id=x
instance (L:List b1)(id:Int):Decidable (df L id):=inferInstanceAs (Decidable (∃t∈L,t.id=id))
def qF(L:List b1)(id:Int):Option b1:=L.find? λt=>decide (t.id=id)
def iF(L:List b1):Prop:=(L.map (·.id)).Nodup
theorem iF.perm{S T:List b1}(h:iF S)(p:T.Perm S):iF T:=(p.map _).nodup_iff.2 h
variable{t:b1}
theorem iF.inj{S:List b1}(h:iF S){u:b1}(C:t∈S)(hu:u∈S)(e:t.id=u.id):t=u:=by obtain⟨L,w⟩:=fE C;rcases Vp.1 (w.mem_iff.1 hu)with d|d;simp_all;exact absurd (Vn.2 ⟨u,d,e.symm⟩) (Vu.1 (h.perm w.symm)).1
theorem MD{S:List b1}(h:iF S)(w:t∈S):qF S t.id=some t:=by rw[qF];cases d:S.find? λu=>decide (u.id=t.id)with|none=>rw[WL]at d;exact absurd (c1 rfl) (d t w)|some u=>have C:=List.find?_some d;have D:=List.mem_of_find?_eq_some d;rw[h.inj D w (by simpa using C)]
theorem MC{S:List b1}{id:Int}(h:¬df S id):qF S id=none:=by rw[qF,WL];intro u hu;simp only[decide_eq_true_eq];exact λe=>h ⟨u,hu,e⟩
def nc(L:List b1)(id:Int):Int:=match qF L id with
  | some t=>t.fU+ft L id
  | none=>0
def nD(L:List b1)(id:Int):Int:=match qF L id with
  | some t=>t.lim
  | none=>0
def gp(L:List b1)(id:Int):Int:=match qF L id with
  | some t=>t.fU
  | none=>0
def ll(L:List b1)(id:Int):Int:=match qF L id with
  | some t=>t.par
  | none=>-1
def fR(L:List b1)(id c:Int):List b1:=L.map λt=>if t.id=id then⟨t.id,t.par,t.lim,c⟩else t
def kM(L:List b1)(id:Int):List b1:=L.filter λt=>decide (t.id≠id)
def fT(L:List b1)(gr p lim:Int):List b1×Int×Int×Int:=
  if ¬df L p then(L,gr,0,6)else if lim<0 then(L,gr,0,1)else if ¬lim<=nD L p-nc L p then(L,gr,0,5)else if L.length=32 then(L,gr,0,11)else(L++[⟨gr,p,lim,0⟩],gr+1,gr,0)
def iH(L:List b1)(id:Int):List b1×Int:=
  if ¬df L id then(L,6)else if id=0 then(L,1)else if nc L id≠0\/0<gT L id then(L,12)else(kM L id,0)
def dd(L:List b1)(id n:Int):List b1×Int:=
  if ¬df L id then(L,6)else if n<0 then(L,1)else if ¬n<=nD L id-nc L id then(L,5)else(fR L id (gp L id+n),0)
def eo(L:List b1)(id n:Int):List b1×Int:=
  if ¬df L id then(L,6)else if n<0\/gp L id<n then(L,1)else(fR L id (gp L id-n),0)
structure eU(L:List b1)(gr:Int):Prop where
  bC:iF L
  kr:(L.map (·.id)).Pairwise (· <·)
  rg:∀t∈L,0<=t.id/\t.id<gr/\0<=t.lim/\t.lim<=1073741824/\0<=t.fU/\t.fU+ft L t.id<=t.lim
  root:df L 0
  qZ:∀t∈L,t.id=0->t.par=-1
  par:∀t∈L,t.id≠0->df L t.par/\t.par<t.id
  len:L.length<=32
theorem Fs(S T:List b1)(p:Int):mo (S++T) p=mo S p++mo T p:=by simp[mo]
theorem uk(S T:List b1)(p:Int):ft (S++T) p=ft S p+ft T p:=by rw[ft,Fs,We,HX];rfl
theorem wV(S T:List b1)(p:Int):gT (S++T) p=gT S p+gT T p:=by rw[gT,Fs,List.length_append];rfl
theorem rH{p:Int}:ft [t] p=if t.par=p then t.lim else 0:=by by_cases h:t.par=p;rw[az h,ft,mo,YN (by simpa using h)];simp[ij];rw[al h,ft,mo,Ws (by simpa using h)];rfl
theorem wW{p:Int}:gT [t] p=if t.par=p then 1 else 0:=by by_cases h:t.par=p;rw[az h,gT,mo,YN (by simpa using h)];rfl;rw[al h,gT,mo,Ws (by simpa using h)];rfl
theorem Nt{S T:List b1}(h:S.Perm T)(p:Int):ft S p=ft T p:=S7 ((h.filter _).map _)
theorem O5{S T:List b1}(h:S.Perm T)(p:Int):gT S p=gT T p:=congrArg (λn:Nat=>(n:Int)) (h.filter _).length_eq
theorem xN(L:List b1)(id c:Int):(fR L id c).map (·.id)=L.map (·.id):=by rw[fR,X1];exact Wm λt _=>by simp only[Function.comp];split<;>rfl
variable{L:List b1}
theorem q3{id c x:Int}:df (fR L id c) x↔df L x:=by
 have h:∀S:List b1,df S x↔x∈S.map (·.id):=by grind[df]
 grind[xN]
theorem q2(L:List b1)(id c p:Int):ft (fR L id c) p=ft L p/\gT (fR L id c) p=gT L p:=by induction L with|nil=>exact⟨rfl,rfl⟩|cons t L D=>have e:fR (t::L) id c=(if t.id=id then⟨t.id,t.par,t.lim,c⟩else t)::fR L id c:=rfl;have d:=uk [if t.id=id then(⟨t.id,t.par,t.lim,c⟩:b1)else t] (fR L id c) p;have u:=uk [t] L p;have w:=wV [if t.id=id then(⟨t.id,t.par,t.lim,c⟩:b1)else t] (fR L id c) p;have C:=wV [t] L p;rw[List.singleton_append]at d u w C;rw[e,d,u,w,C,D.1,D.2,rH,rH,wW,wW];constructor<;>(congr 1;split<;>rfl)
variable{gr:Int}
theorem wH(h:eU L gr)(x:Int):0<=ft L x:=HY λy u=>by
 obtain⟨t,d,rfl⟩:=Vn.1 u
 exact(h.rg t (Vv.1 d).1).2.2.1
theorem Fm(L:List b1)(x:Int):0<=gT L x/\gT L x<=L.length:=by grind[mo,gT]
theorem iB(h:iF L)(d:t∈L):nc L t.id=t.fU+ft L t.id/\nD L t.id=t.lim/\gp L t.id=t.fU/\ll L t.id=t.par:=by grind[nc,nD,gp,ll,MD]
theorem IJ{id:Int}(h:¬df L id):nc L id=0/\nD L id=0/\gp L id=0/\ll L id=-1:=by grind[nc,nD,gp,ll,MC]
theorem Ew{L:List b1}{x:Int}(h:∀t∈L,t.par≠x):ft L x=0/\gT L x=0:=by
 have e:mo L x=[]:=by grind[mo,List.filter_eq_nil_iff]
 rw[ft,gT,e];exact⟨rfl,rfl⟩
theorem eU.GN(h:eU L gr)(d:t∈L):t.par<gr/\-1<=t.par/\t.par≠t.id:=by have C:=h.rg t d;by_cases e:t.id=0;have:=h.qZ t d e;omega;obtain⟨⟨u,hu,w⟩,D⟩:=h.par t d e;have:=h.rg u hu;omega
theorem eU.start{lim:Int}(h:0<=lim/\lim<=1073741824):eU [⟨0,-1,lim,0⟩] 1 where
 bC:=by simp[iF]
 kr:=by simp
 rg:=λt d=>by
  rw[Vc.1 d];have:ft [(⟨0,-1,lim,0⟩:b1)] 0=0:=by rw[rH,al cy]
  dsimp only;rw[this];omega
 root:=⟨_,Vc.2 rfl,rfl⟩
 qZ:=λt d _=>by rw[Vc.1 d]
 par:=λt d au=>by rw[Vc.1 d]at au;exact absurd rfl au
 len:=by simp
theorem eU.add(h:eU L gr){p lim:Int}(P:df L p)(W:0<=lim)(O:lim<=nD L p-nc L p)(aq:L.length≠32):eU (L++[⟨gr,p,lim,0⟩]) (gr+1):=by
 obtain⟨u,hu,rfl⟩:=P;have Q:=h.rg u hu;obtain⟨H,N,_⟩:=iB h.bC hu;rw[H,N]at O;have ah:=wH h u.id;have au:ft L gr=0:=(Ew λt d=>by have:=h.GN d;omega).1;have D:∀x,df L x->df (L++[(⟨gr,u.id,lim,0⟩:b1)]) x:=by grind[df]
 have E:∀x∈L.map (·.id),x<gr:=λx V=>(by obtain⟨t,d,rfl⟩:=Vn.1 V;exact(h.rg t d).2.1);have ar:0<=gr:=U
 refine⟨?_,?_,λt d=>?_,D 0 h.root,λt d e=>?_,λt d e=>?_,?_⟩;rw[iF,We,List.nodup_append];exact⟨h.bC,by simp,λa w c C e=>by have:=E a w;simp only[VM,W7,Vc]at C;omega⟩;rw[We,List.pairwise_append];exact⟨h.kr,by simp,λa w c C=>by have:=E a w;simp only[VM,W7,Vc]at C;omega⟩;rw[uk,rH];dsimp only;rcases Vd.1 d with d|d;have Z:=h.rg t d;by_cases e:u.id=t.id;have:=h.bC.inj hu d e;grind;omega;grind;rcases Vd.1 d with d|d;exact h.qZ t d e;grind;rcases Vd.1 d with d|d;exact⟨D _ (h.par t d e).1,(h.par t d e).2⟩;rw[Vc.1 d];exact⟨D _ ⟨u,hu,rfl⟩,Q.2.1⟩;have:=h.len;grind
theorem xn{M:List b1}(h:iF L)(w:L.Perm (t::M)):(kM L t.id).Perm M:=by have d:=w.filter λu=>decide (u.id≠t.id);rw[Ws cE]at d;have C:M.filter (λu=>decide (u.id≠t.id))=M:=List.filter_eq_self.2 λu hu=>(by have:=(Vu.1 (h.perm w.symm)).1;simp_all);rw[C]at d;exact d
theorem Gy(h:iF L)(d:t∈L)(x:Int):ft (kM L t.id) x=ft L x-(if t.par=x then t.lim else 0)/\gT (kM L t.id) x=gT L x-(if t.par=x then 1 else 0):=by obtain⟨M,bN⟩:=fE d;have w:=xn h bN;have u:=uk [t] M x;have a2:=wV [t] M x;grind[rH,wW,Nt,O5]
theorem nJ{x:Int}:t∈kM L x↔t∈L/\t.id≠x:=by simp[kM]
theorem Qv(h:iF L)(d:t∈L):(kM L t.id).length+1=L.length:=by obtain⟨M,bN⟩:=fE d;rw[(xn h bN).length_eq,bN.length_eq];rfl
theorem O6{L:List b1}{x:Int}(h:¬0<gT L x):∀t∈L,t.par≠x:=λt d e=>h (by
 have:t∈mo L x:=Vv.2 ⟨d,by simpa using e⟩
 have:=List.length_pos_of_mem this
 rw[gT];omega)
theorem eU.off(h:eU L gr)(w:t∈L)(C:t.id≠0)(E:¬0<gT L t.id):eU (kM L t.id) gr where
 bC:=h.bC.sublist (List.filter_sublist.map _)
 kr:=h.kr.sublist (List.filter_sublist.map _)
 rg:=λu hu=>by
  have N:=h.rg u (nJ.1 hu).1
  have O:=(h.rg t w).2.2.1
  rw[(Gy h.bC w u.id).1]
  split<;>omega
 root:=by
  obtain⟨r,H,e⟩:=h.root
  exact⟨r,nJ.2 ⟨H,by rw[e];exact λd=>C d.symm⟩,e⟩
 qZ:=λu hu=>h.qZ u (nJ.1 hu).1
 par:=λu hu e=>by
  obtain⟨⟨v,hv,d⟩,D⟩:=h.par u (nJ.1 hu).1 e
  have:=O6 E u (nJ.1 hu).1
  exact⟨⟨v,nJ.2 ⟨hv,by rw[d];exact this⟩,d⟩,D⟩
 len:=Nat.le_trans (List.length_filter_le _ _) h.len
theorem tg{L:List b1}{id c:Int}{u:b1}:u∈fR L id c↔∃t∈L,u=if t.id=id then⟨t.id,t.par,t.lim,c⟩else t:=by grind[fR]
theorem eU.set(h:eU L gr)(C:t∈L){c:Int}(D:0<=c)(E:c+ft L t.id<=t.lim):eU (fR L t.id c) gr where
 bC:=by rw[iF,xN];exact h.bC
 kr:=by rw[xN];exact h.kr
 rg:=λu hu=>by obtain⟨v,hv,rfl⟩:=tg.1 hu;have w:=h.rg v hv;by_cases e:v.id=t.id;have:=h.bC.inj hv C e;subst this;rw[az rfl,(q2 L _ c _).1];dsimp only;omega;rw[al e,(q2 L _ c _).1];exact w
 root:=q3.2 h.root
 qZ:=λu hu e=>by obtain⟨v,hv,rfl⟩:=tg.1 hu;split at e;rename_i d;rw[az d];exact h.qZ v hv e;rename_i d;rw[al d];exact h.qZ v hv e
 par:=λu hu e=>by obtain⟨v,hv,rfl⟩:=tg.1 hu;split at e;rename_i d;rw[az d];exact⟨q3.2 (h.par v hv e).1,(h.par v hv e).2⟩;rename_i d;rw[al d];exact⟨q3.2 (h.par v hv e).1,(h.par v hv e).2⟩
 len:=by rw[fR,Wf];exact h.len
theorem eU.KY(h:eU L gr)(p lim:Int):eU (fT L gr p lim).1 (fT L gr p lim).2.1:=by rw[fT];split;trivial;rename_i d;split;trivial;rename_i C;split;trivial;rename_i u;split;trivial;rename_i w;exact h.add (Vr.1 d) U (Vr.1 u) w
theorem eU.close(h:eU L gr)(id:Int):eU (iH L id).1 gr:=by rw[iH];split;trivial;rename_i d;obtain⟨t,D,rfl⟩:=Vr.1 d;split;trivial;rename_i u;split;trivial;rename_i w;exact h.off D u (λC=>w (.inr C))
theorem eU.K4(h:eU L gr)(id n:Int):eU (dd L id n).1 gr:=by rw[dd];split;trivial;rename_i D;obtain⟨t,d,rfl⟩:=Vr.1 D;obtain⟨u,w,C,_⟩:=iB h.bC d;have N:=h.rg t d;split;trivial;split;trivial;rename_i H E;rw[u,w]at E;rw[C];exact h.set d U U
theorem eU.Rw(h:eU L gr)(id n:Int):eU (eo L id n).1 gr:=by rw[eo];split;trivial;rename_i w;obtain⟨t,d,rfl⟩:=Vr.1 w;obtain⟨_,_,u,_⟩:=iB h.bC d;have D:=h.rg t d;split;trivial;rename_i C;rw[u]at C⊢;exact h.set d U U
end Go.Proofs.Q.aD
namespace Go.Proofs.Q.aD
open Go Go.QM
section
variable {α : Type} [DecidableEq α] {enc : α → Value} {f : α → Option Value} {n : Nat}
variable {r : Option Nat} {P : Program} {ah : Env} {K : Value → aw → Prop}
variable {d : Option Tmp} {ty : TypeId} {ps : String} {bk : Array Edge} {g : Option (Nat × Bool)}
variable {t : TypeId} {x y z : Operand}
theorem N3{hs rest:List aw}(u e:TypeId){b:Nat}{a:α}{v:Value}(D:mr P t u e=true)(C:dP P u enc)(E:bh ah x=.map (some b))(H:bh ah y=enc a)(hv:bh ah z=v)[O:sw hs b enc f n rest]
 (k:K undef (ag (bP enc b (fo f a v) (if(f a).isSome then n else n+1)::rest))):cq r P ah ⟨d,.insert t x y z,ty,ps,bk,g⟩ (ag hs) K:=λN w he hs=>by
 have h:=((lY (d:=d) (ty:=ty) (ps:=ps) (bk:=bk) (g:=g) u e D C E H hv k:cq r P ah ⟨d,.mapUpdate t x y z,ty,ps,bk,g⟩ (ag _) K) N w he hs).2
 refine⟨λ_ _=>trivial,?_⟩
 rw[r4 _ rfl]at h⊢
 exact h
end
abbrev kS(A:Int->Nat)(L:List b1)(t:b1):aw:=aj (A t.id) 194 [.int .i64 t.lim,.int .i64 t.fU,.int .i64 (ft L t.id),.int .i64 t.par,.int .i64 (gT L t.id)]
def kk(A:Int->Nat)(L:List b1):Int->Option Value:=λx=>if df L x then some (.pointer (some ⟨A x,0,none⟩))else none
theorem zC{A:Int->Nat}{L:List b1}{x:Int}(h:df L x):kk A L x=some (.pointer (some ⟨A x,0,none⟩)):=az h
theorem Eg{A:Int->Nat}{L:List b1}{x:Int}(h:¬df L x):kk A L x=none:=al h
structure oG where
  A:Int->Nat
  aH:Nat
def eC(b:Nat)(L:List b1)(gr:Int):aw:=eQ λy:oG=>pure' (eU L gr) (ag [aj b 187 [.map (some y.aH),.int .i64 gr],bP QM.encI y.aH (kk y.A L) L.length,b8 (kS y.A L) L])
theorem su{α:Type}{f:α->aw}{b:Nat}{o:Obj}:∀{L:List α} {x:α},x∈L->Rd (f x) b o->Rd (b8 f L) b o
 | a::L,x,h,r=>by rcases Vp.1 h with rfl|h;exact jn r;exact lG (su h r)
theorem xY{A:Int->Nat}{L:List b1}{t:b1}(h:t∈L):gb (b8 (kS A L) L) (A t.id) (.cells (Vy [aa t.lim,aa t.fU,aa (ft L t.id),aa t.par,aa (gT L t.id)]) 194 (0,0)):=⟨su h (ng _ _ _)⟩
theorem S8{xs:List Int}{k:Nat}{x:Int}(h:xs[k]? =some x):ij (xs.take (k+1))=ij (xs.take k)+x:=by rw[List.take_add_one,h,Option.toList,HX];simp[ij]
theorem Ef(A:Int->Nat)(L:List b1)(t:b1)(b:Nat):kk (aR A t.id b) (L++[t])=fo (kk A L) t.id (ae b):=by funext y;simp only[kk,fo];by_cases e:y=t.id;rw[az e,az ⟨t,by simp,e.symm⟩,e,cp];rw[al e,bS e];by_cases h:df L y;rw[az h,az];obtain⟨u,hu,d⟩:=h;exact⟨u,by simp[hu],d⟩;rw[al h,al];rintro⟨u,hu,d⟩;rcases Vd.1 hu with hu|hu;exact h ⟨u,hu,d⟩;simp_all
theorem Ms(A:Int->Nat)(L:List b1)(x:Int):kk A (kM L x)=gd (kk A L) x:=by funext y;simp only[kk,gd];by_cases e:y=x;rw[az e,al];rintro⟨u,hu,d⟩;exact(nJ.1 hu).2 (d.trans e);rw[al e];by_cases h:df L y;rw[az h,az];obtain⟨u,hu,d⟩:=h;exact⟨u,nJ.2 ⟨hu,by rw[d];exact e⟩,d⟩;rw[al h,al];rintro⟨u,hu,d⟩;exact h ⟨u,(nJ.1 hu).1,d⟩
theorem Eh(A:Int->Nat)(L:List b1)(x c:Int):kk A (fR L x c)=kk A L:=by grind[kk,q3]
variable(L:List b1)
theorem Hz(x c:Int):(fR L x c).length=L.length:=by rw[fR,Wf]
theorem HB{L M:List b1}{t:b1}(h:iF L)(bN:L.Perm (t::M))(c:Int):((⟨t.id,t.par,t.lim,c⟩:b1)::M).Perm (fR L t.id c):=by have d:=bN.map λu:b1=>if u.id=t.id then⟨u.id,u.par,u.lim,c⟩else u;rw[VM,az rfl]at d;have w:M.map (λu:b1=>if u.id=t.id then(⟨u.id,u.par,u.lim,c⟩:b1)else u)=M:=(by(conv=>rhs;rw[<-List.map_id M]);refine Wm λu hu=>?_;have:=(Vu.1 (h.perm bN.symm)).1;simp_all);rw[w]at d;exact d.symm
theorem HA{A:Int->Nat}{L:List b1}(x c:Int)(u:b1):kS A L u=kS A (fR L x c) u:=by dsimp only[kS];rw[(q2 L x c u.id).1,(q2 L x c u.id).2]
theorem eU.tQ{L:List b1}{u:Int}(h:eU L u){t:b1}(d:t∈L):0<=t.lim/\t.lim<=1073741824/\0<=t.fU/\t.fU+ft L t.id<=t.lim/\0<=ft L t.id/\0<=gT L t.id/\gT L t.id<=32:=by have w:=h.rg t d;have C:=wH h t.id;have D:=Fm L t.id;have E:=h.len;omega
theorem Rm(d:Option Addr)(D:Nat)(xs:List Int)(u:∀x∈xs,0<=x/\x<=1073741824)(Q:xs.length<=1000):bz 150 [.slice d xs.length D] (λF=>∃E,cQ F E d (ints xs)) [] (aa (ij xs)) []:=by
 apply aI Tryz.func150 Tryz.ntmps150;intro F ⟨E,H⟩;apply J [10];haveI:bn F d E (ints xs):=⟨H⟩;have au:=d7 xs;apply J [107,39,34,177];refine ab.loop (ι:=Nat) (λk=>k<=xs.length) (λk=>[(3,aa (ij (xs.take k))),(6,.slice d xs.length D),(7,aa xs.length),(8,aa ((k:Nat):Int))]) (λk=>ag [F]) (λk=>xs.length-k) 0 (Nat.zero_le _) bH (ao (a7 _)) ?_;rintro k N av;dsimp only[cx]at N⊢;apply J [43];apply Ve rfl<;>intro V;have O:k<xs.length:=U
 obtain⟨x,w⟩:∃x,xs[k]? =some x:=⟨xs[k],List.getElem?_eq_getElem O⟩;have W:0<(ints xs).length:=U
 have P:=S8 w;have ar:=u x (List.mem_of_getElem? w);have Z:=HY (l:=xs.take k) (λy C=>(u y (List.mem_of_mem_take C)).1);have ah:=S6 (l:=xs.take k) (λy C=>(u y (List.mem_of_mem_take C)).2);have aq:(xs.take k).length<=k:=b6
 refine J [189] ?_;refine q rfl rfl (dG rfl rfl (hj w)) ?_;refine J [28,217,2,149,48,84] ?_;exact⟨rfl,(k+1),U,U,⟨by rw[P];rfl,rfl,rfl,rfl,trivial⟩,ai⟩;obtain rfl:k=xs.length:=by omega
 rw[List.take_length];apply J [21,134];exact kc
variable(b:Nat)
theorem G9(l c g pr k:Int)(u:0<=c/\c<=1073741824)(w:0<=g/\g<=1073741824):bz 102 [ae b] (λF=>Rd F b (.cells (Vy [aa l,aa c,aa g,aa pr,aa k]) 194 (0,0))) [] (aa (c+g)) []:=by apply aI Tryz.func102 Tryz.ntmps102;intro F d;apply J [10];haveI:gb F b (.cells (Vy [aa l,aa c,aa g,aa pr,aa k]) 194 (0,0)):=⟨d⟩;apply J [39];refine cJ [0,1,2,3,4,5,6,7,-8,-9,10] (ao (a7 _)) ?_;refine J [135,186,13,293] ?_;intro be;refine J [47] ?_;refine aO (Rm (cM be) _ [c,g] rV cE) rfl (ez _) ⟨_,bn.rd (ad:=some ⟨be,0,none⟩)⟩ ?_;intro _ _;change aG _ _/\cd _ _ _ _ _ _ _ _ _ _ (ag [_,_]);refine⟨ai,?_⟩;rw[show ij [c,g]=c+g by simp[ij]];apply J [204,147];exact dy
theorem G7(l c g pr k:Int)(u:0<=c/\c<=1073741824)(w:0<=g/\g<=1073741824)(n:Int)(C:0<=l/\l<=1073741824):bz 237 [ae b,aa n] (λF=>Rd F b (.cells (Vy [aa l,aa c,aa g,aa pr,aa k]) 194 (0,0))) [] (.bool (decide (n<=l-(c+g)))) []:=by apply aI Tryz.func237 Tryz.ntmps237;intro F d;apply J [10];haveI:gb F b (.cells (Vy [aa l,aa c,aa g,aa pr,aa k]) 194 (0,0)):=⟨d⟩;apply J [132,7];refine cJ [0,1,2,3,4,5,-6,7,8,9] (ao (a7 _)) ?_;apply J [16,72,56,13];apply eJ (G9 b l c g pr k u w) gb.rd;change aG _ _/\cd _ _ _ _ _ _ _ _ _ _ (ag [_]);refine J [6,440] ?_;refine bZ rfl rfl rfl (leq rfl rfl) ?_;apply J [273,147];exact dy
theorem xD(aH n:Nat)(d:Int)(A:Int->Nat)(L:List b1)(id:Int)(h:df L id):bz 101 [ae b,aa id] bg [aj b 187 [.map (some aH),aa d],bP QM.encI aH (kk A L) n] (.tuple #[.pointer (some ⟨(A id),0,none⟩),aa 0]) [aj b 187 [.map (some aH),aa d],bP QM.encI aH (kk A L) n]:=by apply aI Tryz.func101 Tryz.ntmps101;intro F _;apply J [11,24,146,146,29,129,339,129,78,300];refine q rfl rfl (ko 3 185 rfl rfl (dP.int rfl) rfl rfl) ?_;rw[zC h];apply J [81,42,38,164,30];exact tt
theorem xC(aH n:Nat)(d:Int)(A:Int->Nat)(L:List b1)(id:Int)(h:¬df L id):bz 101 [ae b,aa id] bg [aj b 187 [.map (some aH),aa d],bP QM.encI aH (kk A L) n] (.tuple #[.pointer none,aa 6]) [aj b 187 [.map (some aH),aa d],bP QM.encI aH (kk A L) n]:=by apply aI Tryz.func101 Tryz.ntmps101;intro F _;apply J [11,24,146,146,29,129,339,129,78,300];refine q rfl rfl (ko 3 185 rfl rfl (dP.int rfl) rfl rfl) ?_;rw[Eg h];apply J [81,103,3,76,164,120];exact tt
theorem G6(L:List b1)(C:Int)(id n:Int):bz 179 [ae b,aa id,aa n] bg [eC b L C] (aa (dd L id n).2) [eC b (dd L id n).1 C]:=by
 apply aI Tryz.func179 Tryz.ntmps179;intro F _;apply J [1];refine ab.open 0 rfl (λW V=>?_);obtain⟨A,aH⟩:=W;have ax:=V;apply J [61];dsimp only at ax⊢;by_cases h:df L id;obtain⟨t,w,rfl⟩:=h;have h:df L t.id:=by grind[df]
 obtain⟨E,H,N,Z⟩:=iB ax.bC w;have am:=ax.tQ w;obtain⟨M,bN⟩:=fE w;haveI:=xY (A:=A) w;apply J [96];apply aq (xD b aH L.length C A L t.id h);apply J [18,82,49,26,408,36];apply Ve rfl<;>intro D;have hv:dd L t.id n=(L,1):=by rw[dd,al (λd=>d h),az D]
 rw[hv];dsimp only;apply J [108];exact si;apply J [45,27];apply eJ (G7 (A t.id) t.lim t.fU (ft L t.id) t.par (gT L t.id) U U n U) gb.rd;apply J [18,394,36];apply Ve rfl<;>intro O;have hv:dd L t.id n=(L,5):=by rw[dd,al (λd=>d h),al D,az (by rw[E,H];exact O)]
 rw[hv];dsimp only;apply J [108];exact si;have d:n<=t.lim-(t.fU+ft L t.id):=U
 have hv:dd L t.id n=(fR L t.id (t.fU+n),0):=by rw[dd,al (λd=>d h),al D,al (by rw[E,H];exact λP=>P d),N]
 rw[hv];dsimp only;have Q:eU (fR L t.id (t.fU+n)) C:=ax.set w U U;refine J [331,23,45,80,2,149,55,59,407,208,123] ?_;exact fc (aA (⟨A,aH⟩:oG) Q (bw (b9 2 rfl (by dsimp only;rw[Eh,Hz]) (cX 0 0 (⟨t.id,t.par,t.lim,t.fU+n⟩:b1) rfl rfl (by dsimp only[kS];rw[(q2 L t.id (t.fU+n) t.id).1,(q2 L t.id (t.fU+n) t.id).2];rfl) (λu _=>HA t.id (t.fU+n) u) (HB ax.bC bN (t.fU+n)) (ao (a7 _))))));have hv:dd L id n=(L,6):=az h;rw[hv];dsimp only;apply J [96];apply aq (xC b aH L.length C A L id h);apply J [18,82,14,215];exact Cl
theorem xE(L:List b1)(D:Int)(id n:Int):bz 181 [ae b,aa id,aa n] bg [eC b L D] (aa (eo L id n).2) [eC b (eo L id n).1 D]:=by
 apply aI Tryz.func181 Tryz.ntmps181;intro F _;apply J [1];refine ab.open 0 rfl (λV Q=>?_);obtain⟨A,aH⟩:=V;have ax:=Q;apply J [61];dsimp only at ax⊢;by_cases h:df L id;obtain⟨t,C,rfl⟩:=h;have h:df L t.id:=by grind[df]
 obtain⟨W,Z,H,ah⟩:=iB ax.bC C;have am:=ax.tQ C;obtain⟨M,bN⟩:=fE C;haveI:=xY (A:=A) C;apply J [96];apply aq (xD b aH L.length D A L t.id h);apply J [18,82,49,180];refine aW.split 22 rfl (λd=>?_) (λd=>?_);have d:=dp d;apply J [46,74,169,14];have hv:eo L t.id n=(L,1):=by rw[eo,al (λw=>w h),az (.inl d)]
 rw[hv];dsimp only;apply J [108];exact si;have d:=eb d;apply J [17,138,366,237,159,211];apply Ve rfl<;>intro N;have hv:eo L t.id n=(L,1):=by rw[eo,al (λw=>w h),H,az (.inr N)]
 rw[hv];dsimp only;apply J [108];exact si;have hv:eo L t.id n=(fR L t.id (t.fU-n),0):=by rw[eo,al (λw=>w h),H,al (λO=>O.elim (λE=>d E) (λE=>N E))]
 rw[hv];dsimp only;have P:eU (fR L t.id (t.fU-n)) D:=ax.set C U U;refine J [331,23,45,80,2,245,55,59,407,208,123] ?_;exact fc (aA (⟨A,aH⟩:oG) P (bw (b9 2 rfl (by dsimp only;rw[Eh,Hz]) (cX 0 0 (⟨t.id,t.par,t.lim,t.fU-n⟩:b1) rfl rfl (by dsimp only[kS];rw[(q2 L t.id (t.fU-n) t.id).1,(q2 L t.id (t.fU-n) t.id).2];rfl) (λu _=>HA t.id (t.fU-n) u) (HB ax.bC bN (t.fU-n)) (ao (a7 _))))));have hv:eo L id n=(L,6):=az h;rw[hv];dsimp only;apply J [96];apply aq (xC b aH L.length D A L id h);apply J [18,82,14,215];exact Cl
end Go.Proofs.Q.aD
namespace Go.Proofs.Q.aD
open Go Go.QM
def rn(f:Int->Option Value)(n:Nat)(y:List Int):Prop:=y.Nodup/\y.length=n/\∀x,x∈y↔(f x).isSome=true
def AG(b:Nat)(f:Int->Option Value)(n:Nat):aw:=eQ λy:List (Int×Value)×Array MapEntry×Nat=>pure' (k0 f n y.1/\y.2.1.toList.map (λe=>(e.key,e.val))=y.1.map (λt=>(QM.encI t.1,t.2))/\jl y.2.1 y.2.2) (ag [obj b (.map y.2.1 y.2.2)])
def Bi(cb gn c:Nat)(xs:List Int):aw:=eQ λx:Option Addr×Nat=>pure' True (ag [aj c cb [.slice x.1 xs.length x.2],a6 gn 1 x.1 xs.length x.2 (ints xs)])
end Go.Proofs.Q.aD
namespace Go.Proofs.Q
open Go Go.Shelf
def Pk:Go.Shelf.Ren:=⟨fun|189=>148|125=>200|257=>199|128=>252|129=>253|294=>243|295=>244|296=>245|297=>246|298=>247|299=>248|216=>249|300=>250|301=>251|328=>297|329=>298|330=>299|331=>300|332=>301|215=>289|343=>342|n=>n,fun|28=>90|3=>3|46=>94|0=>0|51=>32|53=>47|4=>4|183=>376|182=>375|131=>289|5=>5|9=>9|218=>416|222=>419|228=>441|229=>442|n=>n,fun|n=>n⟩
theorem Pj:Go.Proofs.Lays.n189 Tryz.prog Pk:={
 mixed:=by kernel_rfl
 f125:=Tryz.func200.trans (congrArg some aV)
 f128:=Tryz.func252.trans (congrArg some aV)
 f129:=Tryz.func253.trans (congrArg some aV)
 f189:=Tryz.func148.trans (congrArg some aV)
 f215:=Tryz.func289.trans (congrArg some aV)
 f216:=Tryz.func249.trans (congrArg some aV)
 f257:=Tryz.func199.trans (congrArg some aV)
 f294:=Tryz.func243.trans (congrArg some aV)
 f295:=Tryz.func244.trans (congrArg some aV)
 f296:=Tryz.func245.trans (congrArg some aV)
 f297:=Tryz.func246.trans (congrArg some aV)
 f298:=Tryz.func247.trans (congrArg some aV)
 f299:=Tryz.func248.trans (congrArg some aV)
 f300:=Tryz.func250.trans (congrArg some aV)
 f301:=Tryz.func251.trans (congrArg some aV)
 f328:=Tryz.func297.trans (congrArg some aV)
 f329:=Tryz.func298.trans (congrArg some aV)
 f330:=Tryz.func299.trans (congrArg some aV)
 f331:=Tryz.func300.trans (congrArg some aV)
 f332:=Tryz.func301.trans (congrArg some aV)
 f343:=Tryz.func342.trans (congrArg some aV)
 t0:=Tryz.underlying0
 a0:=Tryz.isAgg0
 z0:=Tryz.sizeOf0
 v0:=Tryz.zeroValue0
 t3:=Tryz.underlying3
 a3:=Tryz.isAgg3
 z3:=Tryz.sizeOf3
 v3:=Tryz.zeroValue3
 t4:=Tryz.underlying4
 a4:=Tryz.isAgg4
 z4:=Tryz.sizeOf4
 v4:=Tryz.zeroValue4
 t5:=Tryz.underlying5
 a5:=Tryz.isAgg5
 z5:=Tryz.sizeOf5
 v5:=Tryz.zeroValue5
 t9:=Tryz.underlying9
 a9:=Tryz.isAgg9
 z9:=Tryz.sizeOf9
 v9:=Tryz.zeroValue9
 t28:=Tryz.underlying90
 a28:=Tryz.isAgg90
 z28:=Tryz.sizeOf90
 v28:=Tryz.zeroValue90
 t46:=Tryz.underlying94
 a46:=Tryz.isAgg94
 z46:=Tryz.sizeOf94
 v46:=Tryz.zeroValue94
 t51:=Tryz.underlying32
 a51:=Tryz.isAgg32
 z51:=Tryz.sizeOf32
 v51:=Tryz.zeroValue32
 t53:=Tryz.underlying47
 a53:=Tryz.isAgg47
 z53:=Tryz.sizeOf47
 v53:=Tryz.zeroValue47
 t131:=Tryz.underlying289
 a131:=Tryz.isAgg289
 z131:=Tryz.sizeOf289
 v131:=Tryz.zeroValue289
 t182:=Tryz.underlying375
 a182:=Tryz.isAgg375
 z182:=Tryz.sizeOf375
 v182:=Tryz.zeroValue375
 t183:=Tryz.underlying376
 a183:=Tryz.isAgg376
 z183:=Tryz.sizeOf376
 v183:=Tryz.zeroValue376
 t218:=Tryz.underlying416
 a218:=Tryz.isAgg416
 z218:=Tryz.sizeOf416
 v218:=Tryz.zeroValue416
 t222:=Tryz.underlying419
 a222:=Tryz.isAgg419
 z222:=Tryz.sizeOf419
 v222:=Tryz.zeroValue419
 t228:=Tryz.underlying441
 a228:=Tryz.isAgg441
 z228:=Tryz.sizeOf441
 v228:=Tryz.zeroValue441
 t229:=Tryz.underlying442
 a229:=Tryz.isAgg442
 z229:=Tryz.sizeOf442
 v229:=Tryz.zeroValue442}
end Go.Proofs.Q
