/- Proved here: contracts, each under its own premises. -/
import Derived.Deep.Slices
import Derived.Test.YtglgidjhoncphaaGreatDoorGb
import Derived.Lib.AppendZerosOnto
import Derived.Lib.Overlaps
import Derived.Maps.RangeRun
import Derived.Shelf.Lays
set_option linter.all false
set_option maxRecDepth 4000
set_option maxHeartbeats 4000000
open List renaming getElem?_eq_getElem->Ve,getElem?_eq_some_iff->Vo,range->VF,getD_eq_getElem?_getD->Wh,getElem?_append_left->WG,getElem?_map->WJ,getElem?_cons_succ->WO,getElem?_range->Xp,mem_range->Xs,length_append->mp,mem_append->Vg,mem_of_getElem?->Vi,mem_map->Vq,mem_cons->Vt,replicate->Vw,flatMap_cons->VD,append_assoc->VJ,nil_append->VK,take_of_length_le->VU,take_append_drop->V6,getElem?_of_mem->Wb,length_take->Ww,drop_eq_nil_of_le->Wy,pairwise_iff_getElem->WF,take_append_of_le_length->WM,drop_append->XI,mem_singleton->Vf,nodup_cons->Vy,toArray->Vz,mem_filter->VE,map_cons->VO,length_map->V5,map_congr_left->Wr,map_append->Wu,filter_cons_of_neg->Wx,find?_eq_none->W9,map_nil->Xa,map_map->X3,pairwise_map->Yv,filter_cons_of_pos->YT
open Nat renaming pow_le_pow_right->Vk,zero_le->Vl,zero_add->Ws,mul_one->WB,mod_lt->X2,le_refl->Vm,mul_le_mul_right->VT,add_mul->V9,min_eq_left->Xe
open Int renaming toNat_natCast->Wq
open Option renaming map_some->WD
open Go.DataW renaming trod->WQ
open Go.Lib renaming ctz->XC
open Go.World renaming cells?_some->Yf
open Go.Lit renaming int->YA
open Go.Result renaming andThen_ok->Vs
open Go.Sem renaming run_bind->VA,run_pure->VV
open Go.Builtin renaming firstCells->VG,zeroCells->VH,lenOf->XS
open Go.Value renaming oneCell'->VP,pointer->Ym
open Go.Instr renaming sliceBound->Wg
open List.Pairwise renaming nil->Yx
open Decidable renaming not_not->Vu
open Go.QM.ab renaming az->Vh,loop->VQ
open Go.QM.aY renaming known->VM
open Go.QM.bF renaming to->Wp
namespace Go.QM
open Go Go.ChangeShapes Go.WideShapes Go.RowKit
theorem y9{α:Type}{Q:Nat->α->Prop}:∀n,(∀i,i<n->∃a,Q i a)->∃xs:List α,xs.length=n/\∀i a,xs[i]? =some a->Q i a
  | 0,_=>⟨[],rfl,by simp⟩
  | n+1,h=>by
   obtain⟨xs,u,w⟩:=y9 n (λi E=>h i U);obtain⟨a,C⟩:=h n U;refine⟨xs++[a],by simp[u],λi b d=>?_⟩;rw[List.getElem?_append]at d;split at d;exact w i b d;rename_i D;have:=(Vo.1 d).1;simp at this;obtain rfl:i=n:=U
   simp[u]at d;subst d;exact C
section
variable {H : Type} {enc : TypeId × Value → H} {P : Program}
variable{held:Bool}
theorem QL{α:Type}{W:World}{av:Nat->Bool}{r:Reach}{b0:Nat}{t e:TypeId}{v:Value}{d:DataW H}{ps:List MemPlace}(cells:α->List Value)(D:α->Prop)(sz:Nat)(ar:P.underlying t=some (.slice e))(aL:P.cellsOf e=sz)(Z:0<sz)
    (V:∀a,(cells a).length=sz)
    (a0:∀fuel cs x,WQ enc P W 0 av held fuel e cs=some x->∃a,cs=cells a/\D a)
    (a3:Value.okWide P W r b0 t v) (aW:DataW.Trod enc P W 0 av held t v d ps):
    ∃(ad:Option Addr) (xs:List α) (cap:Nat) (E:Nat),v=.slice ad xs.length cap/\cN (here W) E ad (xs.flatMap cells)/\(∀a∈xs,D a)/\xs.length<=maxLen/\xs.length<=cap:=by
 subst aL;obtain⟨a,len,cap,rfl⟩:=okWide_slice ar a3;obtain⟨fuel,aA⟩:=aW;rcases Deep.open_slice ar aA with⟨C,_⟩|⟨w,bK,be,m,n,a9,bW,C,_,bi,bj,bl,_,aH⟩;simp[Value.cells]at C;obtain⟨rfl,rfl,rfl⟩:=C;exact⟨none,[],0,0,rfl,λ_ _=>.inl rfl,by simp,by simp,by simp⟩;simp[Value.cells]at C;obtain⟨rfl,rfl,rfl⟩:=C;have bt:len<=m:=cr
 obtain⟨xs,bE,au⟩:=y9 (Q:=λi (x:α)=>W.cells? 0 (w.add (i*P.cellsOf e)) (P.cellsOf e)=some (cells x)/\D x) len (λi O=>by obtain⟨bf,bS,a5⟩:=aH i U;obtain⟨x,rfl,u⟩:=a0 _ _ _ a5;exact⟨x,bS,u⟩);have aQ:∀i v,(xs.flatMap cells)[i]? =some v->W.cell? (w.add i)=some v:=(by have a2:∀x,xs[0]? =some x->w.spot=none:=λx u=>(by obtain⟨bS,_⟩:=au 0 x u;obtain⟨_,_,ah⟩:=Yf bS;have:=ah 0 Z;rw[Ve (by rw[V];exact Z)]at this;simp only[Nat.zero_mul,Addr.add,if_true]at this;cases N:w.spot with|none=>rfl|some s=>simp only[World.cell?,N]at this;split at this<;>simp at this);intro i v hv;(have aq:i<(xs.flatMap cells).length:=by grind);rw[kc V]at aq;have bD:i/P.cellsOf e<xs.length:=Nat.div_lt_of_lt_mul (by rw[Nat.mul_comm];exact aq);(have u:xs[i/P.cellsOf e]? =some xs[i/P.cellsOf e]:=by simp_all);obtain⟨bS,_⟩:=au _ _ u;obtain⟨_,_,ah⟩:=Yf bS;have hm:i %P.cellsOf e<P.cellsOf e:=X2 _ Z;have a8:=ah _ hm;(have O:i/P.cellsOf e*P.cellsOf e+i %P.cellsOf e=i:=by grind[Nat.div_add_mod]);obtain⟨az,a4⟩:∃az,(cells xs[i/P.cellsOf e])[i %P.cellsOf e]? =some az:=b4;have an:=qB V u a4;rw[O,hv]at an;cases an;(have aB:0<xs.length:=by grind);have N:=a2 xs[0] (Ve aB);obtain⟨bb,bc,bd⟩:=w;simp only at N;subst N;rw[iC,iC,Nat.add_assoc,O]at a8;grind[iC]);obtain⟨E,bp⟩:=Br aQ;grind[List.getElem?_of_mem]
variable{fuel:Nat}
theorem l4{W:World}{d:Nat->Bool}{t:TypeId}{k:IntKind}{cs:List Value}{x:DataW H×List MemPlace}(u:P.underlying t=some (.int k))(h:WQ enc P W 0 d held fuel t cs=some x):
    ∃n,cs=[.int k n]/\(YA k n).wf=true:=by grind[DataW.trod_int]
theorem Gx{W:World}{d:Nat->Bool}{t:TypeId}{cs:List Value}{x:DataW H×List MemPlace}(u:P.underlying t=some .bool)(h:WQ enc P W 0 d held fuel t cs=some x):
    ∃b,cs=[.bool b]:=by grind[DataW.trod_bool]
theorem Gy{W:World}{Q:Nat->Bool}{t e:TypeId}{k:IntKind}{cs:List Value}{x:DataW H×List MemPlace}(O:P.underlying t=some (.slice e))(he:P.underlying e=some (.int k))(D:P.cellsOf e=1)
    (h:WQ enc P W 0 Q held fuel t cs=some x):
    ∃(ad:Option Addr) (xs:List Int) (cap:Nat),cs=[.slice ad xs.length cap]/\(∃E,cN (here W) E ad (cf k xs))/\(∀n∈xs,(YA k n).wf=true)/\xs.length<=maxLen/\xs.length<=cap:=by
 rcases open_ints O he D h with⟨u,_⟩|⟨w,len,cap,zs,u,_,V,Z,ah,_,C,an⟩;exact⟨none,[],0,by simpa using u,⟨0,λ_ _=>.inl rfl⟩,by simp,by simp,by simp⟩;have ar:len<=zs.length:=cr
 have hlen:(zs.take len).length=len:=b4
 obtain⟨E,aq⟩:=Br (W:=W) (a:=w) (cs:=cf k (zs.take len)) (λi v hv=>by simp only[cf,WJ,Option.map_eq_some_iff]at hv;obtain⟨x,d,rfl⟩:=hv;(have N:i<len:=by have:=(Vo.1 d).1;omega);rw[List.getElem?_take_of_lt N]at d;have:=C i U;rw[this,Wh,d];rfl);grind
end
end Go.QM
namespace Go.Proofs.Q
open Go Go.QM
def tf:List Value:=Lib.deBruijn64tab.map λn:Nat=>.int .u8 n
def qt:List Value:=ints [0,64,128,256,32,32,48,256]
def jh(k r:Int)(s:Bool):List Value:=[.int .i64 k,.int .i64 r,.bool s]
def ss:List Value:=jh 0 0 false++jh 1 1 true++jh 0 8 true++jh 3 2 true++jh 3 2 true++jh 4 2 true++jh 5 2 true++jh 5 2 true++jh 5 2 true++jh 5 1 true++jh 4 1 true++jh 0 0 false++jh 0 0 false++jh 0 0 false++jh 0 0 false++jh 2 2 true++jh 0 0 true++jh 8 1 true++jh 8 2 true
structure c5(F:av):Prop where
  co:∃E lS,Rd F 0 (.cells qt.toArray E lS)
  LH:∃E lS,Rd F 1 (.cells ss.toArray E lS)
  TG:∃E lS,Rd F 2 (.cells tf.toArray E lS)
class cw(F:av):Prop where
  aV:c5 F
instance (A:av)(l:List av)[h:cw (ag l)]:cw (ag (A::l)):=⟨by
  obtain⟨⟨nh,Cg,gA⟩,⟨sB,z2,gB⟩,⟨zr,z3,gC⟩⟩:=h.aV
  exact⟨⟨nh,Cg,lG gA⟩,⟨sB,z2,lG gB⟩,⟨zr,z3,lG gC⟩⟩⟩
instance (A:av)(l:List av)[h:cw A]:cw (ag (A::l)):=⟨by
  obtain⟨⟨nh,Cg,gA⟩,⟨sB,z2,gB⟩,⟨zr,z3,gC⟩⟩:=h.aV
  exact⟨⟨nh,Cg,iW gA⟩,⟨sB,z2,iW gB⟩,⟨zr,z3,iW gC⟩⟩⟩
variable{k:Nat}
theorem TH{j:Nat}(d:j<64)(u:Lib.deBruijn64tab.getD j 0=k):tf[j]? =some (m7 k):=by have w:j<Lib.deBruijn64tab.length:=d;grind[tf]
theorem TI(u:k<64):∃j,j<64/\2^k*285870213051353865 %2^64/2^58=j/\tf[0+((j:Nat):Int).toNat*1]? =some (m7 k):=by obtain⟨d,w⟩:=Lib.deBruijn64_at k u;refine⟨_,d,rfl,?_⟩;rw[Wq,WB,Ws];grind[TH]
def fS(n:Nat):Nat:=(n+63)/64
structure mJ where
  ad:Option Addr
  cap:Nat
def gE(b n:Nat)(f:Nat->Bool):av:=e7 λy:mJ=>pure' (∀j,n<=j->f j=false) (ag [aj b 356 [.int .i64 n,.slice y.ad (fS n) y.cap],aX 47 1 y.ad (fS n) y.cap (k3 f (fS n))])
theorem KD(w:Nat):k3 (λ_=>false) w=List.replicate w (bn 0):=by rw[k3,List.eq_replicate_iff];refine⟨by simp,λv hv=>?_⟩;obtain⟨k,_,rfl⟩:=List.mem_map.1 hv;trivial
def kM(f:Nat->Bool)(i:Nat)(on:Bool):Nat->Bool:=λx=>if x=i then on else f x
theorem Hq{f:Nat->Bool}{i:Nat}{on:Bool}(h:f i=on):kM f i on=f:=by grind[kM]
theorem BD{f:Nat->Bool}{i:Nat}{on:Bool}(h:f i≠on):kM f i on=ff f i:=by funext x;rw[kM,ff];split;rename_i e;subst e;revert h;cases on<;>cases f x<;>simp;trivial
variable(on:Bool)
theorem Sh{f:Nat->Bool}{n i:Nat}(u:i<n)(h:∀j,n<=j->f j=false):∀j,n<=j->kM f i on j=false:=λj d=>by
 rw[kM,al U];exact h j d
def qQ:Option Nat->Int
  | some i=>(i:Int)
  | none=>-1
def JG(f:Nat->Bool)(on:Bool)(n o:Nat):Option Nat->Prop
  | some i=>yx f on n o i
  | none=>tz f on n o
theorem KC{f:Nat->Bool}:io f k=0↔∀j,64*k<=j->j<64*(k+1)->f j=false:=by constructor;intro h j d u;have w:=rp f k (j-64*k);grind;intro h;apply Nat.eq_of_testBit_eq;intro j;rw[Nat.zero_testBit,rp];grind
theorem LK{x:Nat}(h:x<2^64):x/2^0*2^0 %2^64=x:=by simp;omega
variable(x:Nat)
theorem Gc(u:x<2^64):bt 291 [bn x] be [] (aa (fq x:Int)) []:=by
 apply aH Tryz.func291 Tryz.ntmps291;intro F _;apply J [8];obtain⟨-,-,d,C,D⟩:=Gf u;have E:oQ (m4 (l1 (ki x)))<2^61:=by grind[oQ]
 have H:iF (oQ (m4 (l1 (ki x))))<2^62:=by grind[iF]
 have w:sX (iF (oQ (m4 (l1 (ki x)))))<2^63:=by grind[sX]
 apply J [106,25];refine q rfl rfl (jP (n:=1) rfl rfl u rfl) ?_;refine q rfl rfl (k2 (b:=6148914691236517205) rfl rfl U am rfl) ?_;apply J [3];refine q rfl rfl (k2 (b:=6148914691236517205) rfl rfl u am rfl) ?_;refine q rfl rfl (mQ (c:=ki x) rfl rfl rfl d) ?_;apply J [63];refine q rfl rfl (jP (n:=2) rfl rfl d rfl) ?_;refine q rfl rfl (k2 (b:=3689348814741910323) rfl rfl U am rfl) ?_;apply J [3];refine q rfl rfl (k2 (b:=3689348814741910323) rfl rfl d am rfl) ?_;refine q rfl rfl (mQ (c:=l1 (ki x)) rfl rfl rfl U) ?_;apply J [63];refine q rfl rfl (jP (n:=4) rfl rfl U rfl) ?_;apply J [3];refine q rfl rfl (mQ rfl rfl rfl U) ?_;refine q rfl rfl (k2 (b:=1085102592571150095) (c:=m4 (l1 (ki x))) rfl rfl U am rfl) ?_;apply J [63,3];refine q rfl rfl (jP (n:=8) rfl rfl U rfl) ?_;refine q rfl rfl (mQ (c:=oQ (m4 (l1 (ki x)))) rfl rfl rfl U) ?_;apply J [63,3];refine q rfl rfl (jP (n:=16) rfl rfl U rfl) ?_;refine q rfl rfl (mQ (c:=iF (oQ (m4 (l1 (ki x))))) rfl rfl rfl U) ?_;apply J [63,3];refine q rfl rfl (jP (n:=32) rfl rfl U rfl) ?_;refine q rfl rfl (mQ (c:=sX (iF (oQ (m4 (l1 (ki x)))))) rfl rfl rfl U) ?_;apply J [63];refine q rfl rfl (conv .u64 .i64 rfl rfl rfl (oX w)) ?_;refine q rfl rfl (rl (b:=127) (c:=fq x) rfl rfl w am rfl) ?_;apply J [30];exact j4
theorem xn(d:x<2^64):bt 233 [bn x] be [] (aa (fq x:Int)) []:=by apply aH Tryz.func233 Tryz.ntmps233;intro F _;apply J [8,36,205,142];apply au (Gc x d);apply J [148,30];exact j4
theorem Iq(w:x<2^64):bt 232 [bn x] c5 [] (aa (XC 64 x:Int)) []:=by
 apply aH Tryz.func232 Tryz.ntmps232;intro F O;apply J [8,36,171];apply Vh rfl<;>intro d;obtain rfl:x=0:=by omega
 have Q:XC 64 0=64:=rfl;rw[Q];apply J [186];exact j4;have d:x≠0:=U
 obtain⟨H,u⟩:=Lib.lowest_bit 64 x d w;obtain⟨j,V,D,C⟩:=TI u;obtain⟨_,⟨E,N,P⟩⟩:=(⟨True.intro,O.TG⟩:True/\_);haveI:fL F 2 (.cells tf.toArray E N):=⟨P⟩;generalize XC 64 x=k at H u D C⊢;have W:2^k<2^64:=Nat.pow_lt_pow_right am u;apply J [4,198];refine q rfl rfl (Ql rfl d w) ?_;refine q rfl rfl (k2 (c:=2^k) rfl rfl w U H) ?_;refine q rfl rfl (Qe (b:=285870213051353865) rfl rfl rfl) ?_;refine q rfl rfl (jP (n:=58) (c:=j) rfl rfl (X2 _ am) D) ?_;refine q rfl rfl (jI 64 5 1 rfl rfl rfl U U) ?_;refine q rfl rfl (fF rfl rfl C) ?_;refine q rfl rfl (conv .u8 .i64 rfl rfl rfl (oX U)) ?_;apply J [30];exact j4
theorem TJ(u:x<2^64):bt 234 [bn x] c5 [] (aa (XC 64 x:Int)) []:=by apply aH Tryz.func234 Tryz.ntmps234;intro F d;apply J [8];haveI:cw F:=⟨d⟩;apply J [36,205,142];apply au (Iq x u);apply J [148,30];exact j4
variable(n:Nat)
theorem De(h:n<=1048576):bK 235 [aa n] be [] (λb:Nat=>ae b) (λ_=>True) (λb=>[gE b n (λ_=>false)]):=by apply aH Tryz.func235 Tryz.ntmps235;intro F _;refine J [8,131,179,389,168,109] ?_;refine Vh rfl (λd=>absurd d U) (λd=>?_);refine J [4,198,154,219,587,0] ?_;refine AM (E:=47) (n:=fS n) (z:=bn 0) 8 rfl rfl rfl rfl rfl rfl (by rw[fS];omega) (by rw[fS];simp only[maxLen];omega) ?_;intro ba;refine q rfl rfl (ek (cs:=[.int _ _,.slice _ _ _]) rfl) ?_;refine e rfl ?_;refine e0 (v:=.agg #[_,_]) (l:=[.int _ _,.slice _ _ _]) rfl rfl ?_;intro bC;apply J [110];exact bu bC trivial (ay (⟨some ⟨ba,0,none⟩,fS n⟩:mJ) (λ_ _=>rfl) (ao (by rw[KD];exact(ao (ao (a6 _))))))
variable(b:Nat)
theorem vZ(n:Nat)(v:Value):bt 230 [ae b] be [aj b 356 [aa n,v]] (aa n) [aj b 356 [aa n,v]]:=by apply aH Tryz.func230 Tryz.ntmps230;intro F _;apply J [1,36,42,40,30];exact hH
theorem Dd(n:Nat)(f:Nat->Bool)(i:Nat)(an:n<=1048576):bt 171 [ae b,aa i] be [gE b n f] (.bool (f i)) [gE b n f]:=by
 apply aH Tryz.func171 Tryz.ntmps171;intro F _;apply J [1];refine ab.open 0 rfl (λE D=>?_);obtain⟨ad,cap⟩:=E;have u:=D;apply J [13];dsimp only at u⊢;refine J [246,268,463,12,301,95] ?_;apply au (vZ b n (.slice ad (fS n) cap));apply J [7,408,51];refine aY.split 13 rfl (λd=>?_) (λd=>?_);have d:=dz d;have hw:i/64<fS n:=by grind[fS]
 have H:=ro f (fS n);have N:0<(k3 f (fS n)).length:=U
 have C:=Kz f i;have w:=tM f (i/64);apply J [140,261,12];refine dc rfl rfl rfl (Wp (v:=((i/64:Nat):Int)) (ln rfl rfl U U U) U) ?_;refine dc rfl rfl rfl (gN 47 1 rfl rfl rfl U dQ) ?_;refine dc rfl rfl rfl (dk rfl rfl (by rw[WB];exact rn f hw)) ?_;apply J [12];refine dc rfl rfl rfl (Wp (v:=((i %64:Nat):Int)) (pS rfl rfl U U) U) ?_;refine dc rfl rfl rfl (jP rfl rfl w rfl) ?_;refine dc rfl rfl rfl (Wp (v:=((if f i=true then 1 else 0:Nat):Int)) (J8 rfl rfl (Nat.lt_of_le_of_lt (Nat.div_le_self _ _) w)) (congrArg Int.ofNat C)) ?_;apply J [158,132];exact b7.i () [_] ⟨rfl,trivial⟩ (congrArg Value.bool (by cases aA:f i<;>simp)) trivial (ay (⟨ad,cap⟩:mJ) u ai);have d:=d6 d;have hv:f i=false:=b4
 rw[hv];apply J [47,47,213,71];exact eZ (ay (⟨ad,cap⟩:mJ) u ai)
theorem qr(n:Nat)(f:Nat->Bool)(i:Nat)(on:Bool)(d:Option Addr)(H:Nat)(av:i<n)(an:n<=1048576):bt 236 [ae b,.bool on,.slice d 1 H] (λF=>∃E,cN F E d (ints [(i:Int)])) [gE b n f] (aa (if f i=on then 0 else 1)) [gE b n (kM f i on)]:=by
 apply aH Tryz.func236 Tryz.ntmps236;intro F ⟨E,Q⟩;apply J [1];haveI:bj F d E (ints [(i:Int)]):=⟨Q⟩;apply J [106,36,33,177];refine VQ (ι:=Nat) (λk=>k<=1) (λk=>[(0,ae b),(1,.bool on),(7,aa (if k=0 then 0 else if f i=on then 0 else 1)),(10,.slice d 1 H),(11,aa 1),(12,aa ((k:Nat):Int))]) (λk=>ag [gE b n (if k=0 then f else kM f i on),F]) (λk=>1-k) 0 U bG (ao (ao (a6 _))) ?_;rintro k W aW;dsimp only[cx]at W⊢;apply J [43];apply Vh rfl<;>intro aB;obtain rfl:k=0:=U
 have aL:0<(ints [(i:Int)]).length:=by grind[ints]
 rw[ax rfl,ax rfl];refine ab.open 0 rfl (λD C=>?_);obtain⟨ad,cap⟩:=D;have P:=C;apply J [13];dsimp only at P⊢;refine J [187] ?_;refine q rfl rfl (dk rfl rfl (hO (xs:=[(i:Int)]) (i:=0) rfl)) ?_;apply J [63,268];refine VM 18 rfl (c:=true) (da U) ?_;apply J [12,301,95];apply au (vZ b n (.slice ad (fS n) cap));apply J [7,408,51];refine VM 24 rfl (c:=true) (da U) ?_;apply J [301,12];refine aY.bk (B:=ag [gE b n f,F]) (ay (⟨ad,cap⟩:mJ) P ai) ?_;refine pt rfl rfl ?_;apply au (Dd b n f i an);apply J [5,317];refine dc rfl rfl rfl (uI rfl rfl rfl) ?_;apply J [189];refine ab.cond rfl (λu=>?_) (λu=>?_);have u:f i≠on:=b4
 have w:=BD (f:=f) (i:=i) (on:=on) u;have hw:i/64<fS n:=by grind[fS]
 have ar:=ro f (fS n);have aQ:0<(k3 f (fS n)).length:=U
 have V:=Ky f hw;have ah:=tM f (i/64);have Z:2^(i %64)<2^64:=Nat.pow_lt_pow_right am U;have O:∀j,n<=j->kM f i on j=false:=by grind[Sh]
 refine ab.open 0 rfl (λD C=>?_);obtain⟨ad,cap⟩:=D;have aq:=C;apply J [13];dsimp only at aq⊢;refine ab.seq ?_;refine ab.draw _ [13] [0,1,2,3,4,5,6,7,8,9,10,11,12,-13] a1 a1 (aE.refl _) ?_;apply J [137,11];refine bI rfl rfl rfl (Wp (v:=((i/64:Nat):Int)) (ln rfl rfl U U U) U) ?_;refine bI rfl rfl rfl (gN 47 1 rfl rfl rfl U dQ) ?_;refine bI rfl rfl rfl (dk rfl rfl (by rw[WB];exact rn f hw)) ?_;apply J [11];refine bI rfl rfl rfl (Wp (v:=((i %64:Nat):Int)) (pS rfl rfl U U) U) ?_;refine bI rfl rfl rfl (Sq rfl rfl U) ?_;refine bI rfl rfl rfl (Uq rfl rfl ah Z rfl) ?_;refine bI rfl rfl rfl (gN 47 1 rfl rfl rfl U dQ) ?_;apply J [91];refine ej (v:=.int _ _) (vs:=[_]) 1 rfl rfl rfl rfl rfl rfl am U (by rw[WB,V]) ?_;refine J [74,345,73,62] ?_;exact⟨rfl,(0+1),U,U,⟨rfl,rfl,(show aa (0+1)=_ from by rw[al U,al u];rfl),rfl,rfl,rfl,trivial⟩,(by rw[al U,w];rw[w]at O;exact(ay (⟨_,_⟩:mJ) O ai))⟩;have he:f i=on:=b4
 have w:=Hq he;refine J [114] ?_;exact⟨rfl,(0+1),U,U,⟨rfl,rfl,(show aa 0=_ from by rw[al U,ax he]),rfl,rfl,rfl,trivial⟩,(by rw[al U,w];exact ai)⟩;obtain rfl:k=1:=U
 have N:¬((1:Nat)=0):=U
 rw[al N,al N];apply J [19,133];exact hH
theorem KF(n:Nat)(f:Nat->Bool)(on:Bool)(k:Nat)(u:k<fS n):bt 231 [ae b,.bool on,aa k] be [gE b n f] (bn (l3 on (io f k):Int)) [gE b n f]:=by
 apply aH Tryz.func231 Tryz.ntmps231;intro F _;apply J [1];refine ab.open 0 rfl (λD C=>?_);obtain⟨ad,cap⟩:=D;have d:=C;apply J [13];dsimp only at d⊢;have E:=ro f (fS n);have H:0<(k3 f (fS n)).length:=U
 have w:=tM f k;apply J [36,59,2];cases on with|true=>?_|false=>?_
 refine J [20,64,3,439] ?_;refine q rfl rfl (dk rfl rfl (by rw[WB];exact rn f u)) ?_;apply J [123];exact b7.i () [_] ⟨rfl,trivial⟩ (by rw[l3,ax rfl];rfl) trivial (ay (⟨ad,cap⟩:mJ) d ai);refine J [205,64,3,439] ?_;refine q rfl rfl (dk rfl rfl (by rw[WB];exact rn f u)) ?_;refine q rfl rfl (Lu rfl w) ?_;apply J [30];exact b7.i () [_] ⟨rfl,trivial⟩ (by rw[l3,al am];rfl) trivial (ay (⟨ad,cap⟩:mJ) d ai)
theorem Dc(n:Nat)(f:Nat->Bool)(on:Bool)(o:Nat)(a8:o<=1048577)(an:n<=1048576):bK 173 [ae b,.bool on,aa o] c5 [gE b n f] (λy:Option Nat=>aa (qQ y)) (λy=>JG f on n o y) (λ_=>[gE b n f]):=by
 apply aH Tryz.func173 Tryz.ntmps173;intro F ar;apply J [1];haveI:cw F:=⟨ar⟩;apply J [106,25];refine q rfl rfl (Wp (v:=(o:Int)) (PR rfl rfl) (Int.max_eq_left U)) ?_;refine J [31,25,588,27,75] ?_;refine VQ (ι:=Nat) (λk=>(o/64<=k/\k<=20000)/\∀j,o<=j->j<64*k->j<n->f j≠on) (λk=>[(0,ae b),(1,.bool on),(2,aa o),(7,aa ((k:Nat):Int))]) (λk=>ag [gE b n f,F]) (λk=>20000-k) (o/64) ⟨⟨Nat.le_refl _,by omega⟩,λj O ah _=>by omega⟩ bG (ao (ao (a6 _))) ?_;rintro k ⟨⟨av,aB⟩,eF⟩ a9;dsimp only[cx]at av aB eF⊢;refine ab.open 0 rfl (λN d=>?_);obtain⟨ad,cap⟩:=N;have C:=d;apply J [13];dsimp only at C⊢;refine J [130,461,164,0] ?_;apply au (vZ b n (.slice ad (fS n) cap));apply J [7,182];apply Vh rfl<;>intro a5;refine ab.bk (B:=ag [gE b n f,F]) (ay (⟨ad,cap⟩:mJ) C ai) ?_;have aL:k<fS n:=by grind[fS]
 have Q:=QA (on:=on) (tM f k);apply J [56,37,18,28];apply au (KF b n f on k aL);apply J [5,27];refine ab.cut (ι:=Nat) (λs=>s<64/\o<=max o (64*k)/\max o (64*k)=64*k+s) (λs=>[(0,ae b),(1,.bool on),(2,aa o),(7,aa ((k:Nat):Int)),(8,bn ((l3 on (io f k)/2^s*2^s %2^64:Nat):Int))]) (λs=>ag [gE b n f,F]) ?_ ?_;refine J [198,588,244] ?_;apply Vh rfl<;>intro he;have he:k=o/64:=U
 refine J [212,3,589] ?_;refine q rfl rfl (jP rfl rfl Q rfl) ?_;refine J [3,589] ?_;refine q rfl rfl (u5 rfl rfl U rfl) ?_;apply J [27];exact⟨rfl,(o %64),⟨by omega,by omega,by omega⟩,bG,ai⟩;have he:k≠o/64:=U
 apply J [4];exact⟨rfl,0,⟨by omega,by omega,by omega⟩,⟨rfl,rfl,rfl,rfl,by rw[LK Q];rfl,trivial⟩,ai⟩;rintro s ⟨w,a0,aW⟩ bb;dsimp only[cx]at w a0 aW⊢;have W:=T9 (f:=f) (on:=on) (k:=k) w;have Z:=T8 (f:=f) (on:=on) (k:=k) w;have V:l3 on (io f k)/2^s*2^s %2^64<2^64:=U
 generalize l3 on (io f k)/2^s*2^s %2^64=x at W Z V⊢;refine J [25,461,28] ?_;apply au (Iq x V);apply J [5];have a3:XC 64 x<=64:=(by by_cases e:x=0;subst e;decide;omega);refine J [154,27,242,18] ?_;refine aY.split 43 rfl (λd=>?_) (λd=>?_);have d:=dz d;obtain⟨c,O,ah,a2,aq,P⟩:=Z (λe=>d rM);rw[O];refine aY.open 0 rfl (λN d=>?_);obtain⟨ad,cap⟩:=N;have D:=d;apply J [7];dsimp only at D⊢;apply J [12,140,192,408,189];apply Vh rfl<;>intro a4;apply J [135,165];exact b7.i (some (64*k+c)) [_] ⟨rfl,trivial⟩ (congrArg (Value.int .i64) (show _=((64*k+c:Nat):Int)by omega)) ⟨by omega,by omega,aq,λj u E=>by by_cases e:j<64*k;exact eF j u e U;exact P j U E⟩ (ay (⟨ad,cap⟩:mJ) D ai);refine J [22,138] ?_;exact⟨rfl,(k+1),⟨⟨by omega,by omega⟩,λj u E H=>by by_cases e:j<64*k;exact eF j u e H;exact P j U U⟩,U,⟨rfl,rfl,rfl,rfl,trivial⟩,(ay (⟨ad,cap⟩:mJ) D ai)⟩;have d:=d6 d;have d:x=0:=U
 refine J [47,49,151,115,22,138] ?_;exact⟨rfl,(k+1),⟨⟨by omega,by omega⟩,λj u E H=>by by_cases e:j<64*k;exact eF j u e H;exact W d U U⟩,U,⟨rfl,rfl,rfl,rfl,trivial⟩,ai⟩;have aQ:tz f on n o:=by grind[tz]
 apply J [19,199];exact bu (none:Option Nat) aQ (ay (⟨ad,cap⟩:mJ) C ai)
theorem KE(n:Nat)(f:Nat->Bool)(an:n<=1048576):bK 295 [ae b] be [gE b n f] (λc:Nat=>aa c) (λc=>c=0↔∀j,f j=false) (λ_=>[gE b n f]):=by
 apply aH Tryz.func295 Tryz.ntmps295;intro F _;apply J [1];refine ab.open 0 rfl (λW Q=>?_);obtain⟨ad,cap⟩:=W;have D:=Q;apply J [13];dsimp only at D⊢;apply J [106,36,105];apply au (vZ b n (.slice ad (fS n) cap));apply J [7];have ar:fS n<=16384:=by grind[fS]
 refine J [154,219,587,112] ?_;refine VQ (ι:=Nat×Nat) (λx=>(x.1<=fS n/\x.2<=64*x.1)/\(x.2=0↔∀j,j<64*x.1->f j=false)) (λx=>[(0,ae b),(3,aa ((x.2:Nat):Int)),(9,aa ((fS n:Nat):Int)),(10,aa ((x.1:Nat):Int))]) (λx=>ag [aj b 356 [aa n,.slice ad (fS n) cap],aX 47 1 ad (fS n) cap (k3 f (fS n)),F]) (λx=>fS n-x.1) (0,0) ⟨⟨Vl _,Vl _⟩,⟨λ_ j h=>by omega,λ_=>rfl⟩⟩ bG (ao (ao (ao (a6 _)))) ?_;rintro⟨k,c⟩ ⟨⟨O,H⟩,u⟩ aB;dsimp only[cx]at O H u⊢;apply J [43];apply Vh rfl<;>intro ah;have P:k<fS n:=U
 have Z:=ro f (fS n);have aq:0<(k3 f (fS n)).length:=U
 have C:=tM f k;obtain⟨av,V,-⟩:=Gf C;refine J [56,135,212,175,61,3,439] ?_;refine q rfl rfl (dk rfl rfl (by rw[WB];exact rn f P)) ?_;refine e rfl ?_;apply au (Gc (io f k) C);apply J [7];refine q rfl rfl (Wp (v:=((c+fq (io f k):Nat):Int)) (hJ rfl rfl U U) U) ?_;refine J [73,62] ?_;exact⟨rfl,(k+1,c+fq (io f k)),⟨⟨by omega,by dsimp only;omega⟩,by dsimp only;rw[Nat.add_eq_zero_iff,V,KC,u];exact⟨λ⟨E,d⟩ j w=>by by_cases e:j<64*k;exact E j e;exact d j U w,λh=>⟨λj w=>h j U,λj _ d=>h j d⟩⟩⟩,cB,⟨rfl,rfl,rfl,rfl,trivial⟩,ai⟩;obtain rfl:k=fS n:=U
 have N:c=0↔∀j,f j=false:=(by grind[fS]);apply J [19,133];exact bu c N (ay (⟨ad,cap⟩:mJ) D ai)
structure qa where
  aF:Nat
def fA(b:Nat)(m:Nat->Nat)(n:Nat):av:=e7 λy:qa=>pure' (oD m) (ag [aj b 249 [.slice (cJ y.aF) n n],aj y.aF 5 (h2 m n)])
theorem KL(m:Nat->Nat){n o j:Nat}(h:o+j<n):(h2 m n)[o+j*1]? =some (m7 (m (o+j):Int)):=by rw[WB];exact v8 m h
theorem yO(h:n=65536\/n=131072):bK 177 [aa n] be [] (λb:Nat=>ae b) (λ_=>True) (λb=>[fA b (λ_=>0) n]):=by
 apply aH Tryz.func177 Tryz.ntmps177;intro F _;apply J [8];have d:fq n=1:=by rcases h with rfl|rfl<;>decide+kernel
 refine J [131,179,389,168,41] ?_;refine VM 9 rfl (c:=false) (du U) ?_;refine J [12,464,95] ?_;apply au (xn n U);apply J [148];rw[d];apply J [218,151,100,142];refine PZ (E:=5) (n:=n) (z:=m7 0) 1 rfl rfl rfl rfl rfl rfl U gq ?_;intro ba;refine q rfl rfl (ek (cs:=[.slice _ _ _]) rfl) ?_;refine e rfl ?_;refine e0 (v:=.agg #[_]) (l:=[.slice _ _ _]) rfl rfl ?_;intro bC;apply J [110];exact bu bC trivial (ay (⟨ba⟩:qa) (λ_=>(by decide:0<256)) (ao (b9 0 rfl (by rw[KO]) (ao (a6 _)))))
variable(aF:Nat)
theorem vS(n at_ k:Nat)(an:n<=131072)(C:at_+k<=n)(D:at_<n):bt 94 [ae b,aa at_,aa k] be [aj b 249 [.slice (cJ aF) n n]] (.tuple #[.slice (some ⟨aF,at_,none⟩) k (n-at_),aa 0]) [aj b 249 [.slice (cJ aF) n n]]:=by
 apply aH Tryz.func94 Tryz.ntmps94;intro F _;apply J [1];have u:(at_+k)-at_=k:=U
 have w:0+at_*1=at_:=U
 apply J [24,83,31,75,101,191,179];refine VM 14 rfl (c:=false) (du U) ?_;apply J [204,41];refine VM 18 rfl (c:=false) (du U) ?_;apply J [12,140,192,465,160,41];refine VM 27 rfl (c:=false) (du U) ?_;refine J [12,140,192,465,12,440,160,207] ?_;refine Vh rfl (λd=>absurd d U) (λd=>?_);apply J [22,40,120,3];refine q rfl rfl (Wp (v:=((at_+k:Nat):Int)) (hJ rfl rfl U U) U) ?_;refine q rfl rfl (SC (i:=at_) (j:=at_+k) 5 1 rfl rfl rfl rfl U U U) ?_;apply J [83,30];exact b7.i () [.slice (some ⟨aF,0+at_*1,none⟩) (at_+k-at_) (n-at_),aa 0] ⟨rfl,rfl,trivial⟩ (by rw[u,w];rfl) trivial (ao (ao (a6 _)))
theorem C3(n at_ k:Nat)(an:n<=131072)(u:at_+k*8<=n)(w:at_<n)(C:at_ %8=0):bt 169 [ae b,aa at_,aa k] be [aj b 249 [.slice (cJ aF) n n]] (.tuple #[.slice (some ⟨aF,at_,none⟩) (k*8) (n-at_),aa 0]) [aj b 249 [.slice (cJ aF) n n]]:=by apply aH Tryz.func169 Tryz.ntmps169;intro F _;apply J [1,24,176,35,3];refine q rfl rfl (Wp (v:=((k*8:Nat):Int)) (ob rfl rfl U U) U) ?_;refine e rfl ?_;apply au (vS b aF n at_ (k*8) an u w);apply J [5,289,305,92,83,31,25,193];refine VM 20 rfl (c:=true) (da U) ?_;refine J [12,466,218,189] ?_;refine Vh rfl (λd=>absurd d U) (λd=>?_);apply J [4,264,83,30];exact hI (ao (ao (a6 _)))
theorem tH(n at_:Nat)(m:Nat->Nat)(an:n<=131072)(O:at_+8<=n)(d:at_ %8=0):bt 122 [ae b,aa at_] be [fA b m n] (.tuple #[bn (cV m at_:Int),aa 0]) [fA b m n]:=by
 apply aH Tryz.func122 Tryz.ntmps122;intro F _;apply J [1];refine ab.open 0 rfl (λN H=>?_);obtain⟨aF⟩:=N;have hm:=H;apply J [13];dsimp only at hm⊢;apply J [240,32];apply au (C3 b aF n at_ 1 an U U d);apply J [7,289,305,92,176,36,33,441,112];refine VQ (ι:=Nat) (λk=>k<=8) (λk=>[(7,aa 0),(8,bn (kF m at_ k:Int)),(17,.slice (some ⟨aF,at_,none⟩) (1*8) (n-at_)),(18,aa 8),(19,aa ((k:Nat):Int))]) (λk=>ag [aj b 249 [.slice (cJ aF) n n],aj aF 5 (h2 m n),F]) (λk=>8-k) 0 U bG (ao (ao (ao (a6 _)))) ?_;rintro k C V;dsimp only[cx]at C⊢;apply J [43];apply Vh rfl<;>intro Q;have D:k<8:=U
 have E:=Py hm at_ D;have P:=hm (at_+k);have u:=Nat.lt_of_lt_of_le (w8 hm at_ k) (Vk (n:=2) am (show 8*k<=64 by omega));have w:at_+k<n:=U
 apply J [56,25];refine q rfl rfl (ut (o:=at_+k*1) 5 1 rfl rfl rfl U U (by rw[Wq])) ?_;refine q rfl rfl (fF rfl rfl (KL m w)) ?_;apply J [173,212,3];refine q rfl rfl (conv .u8 .u64 rfl rfl rfl (p7 U)) ?_;apply J [3];refine q rfl rfl (Wp (v:=((8*k:Nat):Int)) (ob rfl rfl U U) U) ?_;refine q rfl rfl (u5 rfl rfl U rfl) ?_;refine q rfl rfl (pQ rfl rfl u (X2 _ am) E) ?_;refine J [73,62] ?_;exact⟨rfl,(k+1),U,U,bG,ai⟩;obtain rfl:k=8:=by omega
 apply J [19,198,96];exact hI (ay (⟨aF⟩:qa) hm ai)
theorem lH(n at_:Nat)(m:Nat->Nat)(L:List Nat)(d:Option Addr)(u:Nat)(an:n<=131072)(av:0<L.length)(C:at_+L.length*8<=n)(D:at_ %8=0)(N:∀x∈L,x<2^64):bt 188 [ae b,aa at_,.slice d L.length u] (λF=>∃E,cN F E d (cf .u64 (L.map (λx:Nat=>(x:Int))))) [fA b m n] (aa 0) [fA b (dB m at_ L) n]:=by
 apply aH Tryz.func188 Tryz.ntmps188;intro F ⟨E,H⟩;apply J [1];haveI:bj F d E (cf .u64 (L.map (λx:Nat=>(x:Int)))):=⟨H⟩;refine ab.open 0 rfl (λar Z=>?_);obtain⟨aF⟩:=ar;have hm:=Z;apply J [13];dsimp only at hm⊢;apply J [106,35,86,227,0];apply au (C3 b aF n at_ L.length an C U D);apply J [7,289,305,92,83,31,33,441,112];refine VQ (ι:=Nat) (λk=>k<=L.length*8) (λk=>[(2,.slice d L.length u),(7,.slice (some ⟨aF,at_,none⟩) (L.length*8) (n-at_)),(8,aa 0),(19,aa ((L.length*8:Nat):Int)),(20,aa ((k:Nat):Int))]) (λk=>ag [aj b 249 [.slice (cJ aF) n n],aj aF 5 (h2 (j2 m at_ L k) n),F]) (λk=>L.length*8-k) 0 U bG (by rw[SY];exact(ao (ao (ao (a6 _))))) ?_;rintro k P a0;dsimp only[cx]at P⊢;apply J [43];apply Vh rfl<;>intro aL;have aQ:k<L.length*8:=U
 have V:k/8<L.length:=U
 obtain⟨x,w⟩:∃x,L[k/8]? =some x:=⟨L[k/8],Ve V⟩;have ah:(L.map (λx:Nat=>(x:Int)))[k/8]? =some (x:Int):=b4
 have aq:=N x (List.mem_of_getElem? w);have aW:0<(cf .u64 (L.map (λx:Nat=>(x:Int)))).length:=by grind[hT]
 have O:at_+k<n:=U
 have W:dC (at_+k) [m7 ((x/2^(8*(k %8)) %256:Nat):Int)] (h2 (j2 m at_ L k) n)=h2 (j2 m at_ L (k+1)) n:=(by rw[Dj _ O,SX,Wh,w];rfl);have aB:=rq (j2 m at_ L k) n;apply J [56,135,108,3,86,3];refine q rfl rfl (Wp (v:=((k/8:Nat):Int)) (ln rfl rfl U U U) U) ?_;refine J [439] ?_;refine q rfl rfl (dk rfl rfl (j0 ah)) ?_;apply J [3];refine q rfl rfl (Wp (v:=((k %8:Nat):Int)) (pS rfl rfl U U) U) ?_;refine q rfl rfl (Wp (v:=((8*(k %8):Nat):Int)) (ob rfl rfl U U) U) ?_;refine q rfl rfl (jP rfl rfl aq rfl) ?_;refine q rfl rfl (conv .u64 .u8 rfl rfl rfl (TV _)) ?_;refine q rfl rfl (ut (o:=at_+k) 5 1 rfl rfl rfl U U (by rw[Wq];omega)) ?_;refine eB ?_;refine st (v:=.int _ _) (vs:=[_]) 1 rfl rfl rfl rfl rfl rfl U W ?_;refine J [62] ?_;exact⟨rfl,(k+1),U,U,bG,ai⟩;obtain rfl:k=L.length*8:=U
 have he:j2 m at_ L (L.length*8)=dB m at_ L:=by grind[dB]
 rw[he];have Q:oD (dB m at_ L):=by grind[SW]
 apply J [19,133];exact eZ (ay (⟨aF⟩:qa) Q ai)
theorem KQ(d:Option Addr)(k D:Nat)(cs:List Value)(Q:cs.length=k)(P:0<k)(V:k<=1000000)(H:cs.all Value.oneCell'=true)(O:d≠none):bK 95 [.slice d k D] (λF=>∃E,cN F E d cs) [] (λy:Option Addr×Nat=>.slice y.1 k y.2) (λ_=>True) (λ_=>[]):=by
 apply aH Tryz.func95 Tryz.ntmps95;intro F ⟨E,N⟩;apply J [8];obtain⟨u,rfl⟩:∃u,d=some u:=by cases d with|none=>exact absurd rfl O|some u=>exact⟨u,rfl⟩
 haveI:bj F (some u) E cs:=⟨N⟩;apply J [200,33,520,100,26];refine bs (cs:=[]) rfl ?_;intro ch;apply J [262];refine ap 1 rfl rfl rfl rfl rfl U (show cs.take (k*1)=cs from List.take_of_length_le U) H U gq ?_;intro w C;apply J [69];exact b7.i (w,C) [_] ⟨rfl,trivial⟩ (by dsimp only;rw[Ws];rfl) trivial ai
theorem Ke(n at_ k:Nat)(m:Nat->Nat)(an:n<=131072)(u:0<k)(w:at_+k<=n):bK 41 [ae b,aa at_,aa k] be [fA b m n] (λy:Option Addr×Nat=>.tuple #[.slice y.1 k y.2,aa 0]) (λ_=>True) (λ_=>[fA b m n]):=by apply aH Tryz.func41 Tryz.ntmps41;intro F _;apply J [1];refine ab.open 0 rfl (λD C=>?_);obtain⟨aF⟩:=D;have hm:=C;apply J [13];dsimp only at hm⊢;apply J [24,176,35,28];apply au (vS b aF n at_ k an w U);apply J [7,289,305,92,176,33];have E:=rq m n;have d:=Di m n;refine e rfl ?_;apply eM (KQ (some ⟨aF,at_,none⟩) k (n-at_) (((h2 m n).drop at_).take k) (by rw[List.length_take,List.length_drop];omega) u U (by rw[List.all_eq_true]at d⊢;exact λv hv=>d v (List.mem_of_mem_drop (List.mem_of_mem_take hv))) (λh=>by cases h)) ⟨_,sm (wp 1 rfl) (yA aF 5 at_ k _)⟩;intro y _;apply J [7,3,83,30];exact cQ y trivial (ay (⟨aF⟩:qa) hm ai)
theorem C1(n at_ k:Nat)(m:Nat->Nat)(an:n<=131072)(d:at_+k<=n)(u:at_<n):bt 182 [ae b,aa at_,aa k,m7 0] be [fA b m n] (aa 0) [fA b (hf m at_ k) n]:=by
 apply aH Tryz.func182 Tryz.ntmps182;intro F _;apply J [1];refine ab.open 0 rfl (λN H=>?_);obtain⟨aF⟩:=N;have hm:=H;apply J [13];dsimp only at hm⊢;apply J [106,35,28];apply au (vS b aF n at_ k an d u);apply J [7,289,305,92,83,31,33,441,112];refine VQ (ι:=Nat) (λj=>j<=k) (λj=>[(3,m7 0),(9,.slice (some ⟨aF,at_,none⟩) k (n-at_)),(10,aa 0),(20,aa k),(21,aa ((j:Nat):Int))]) (λj=>ag [aj b 249 [.slice (cJ aF) n n],aj aF 5 (h2 (hf m at_ j) n),F]) (λj=>k-j) 0 U bG (by rw[UD];exact(ao (ao (ao (a6 _))))) ?_;rintro j C Q;dsimp only[cx]at C⊢;apply J [43];apply Vh rfl<;>intro P;have w:at_+j<n:=U
 have O:=rq (hf m at_ j) n;have E:dC (at_+j) [m7 0] (h2 (hf m at_ j) n)=h2 (hf m at_ (j+1)) n:=(by have:=Dj (hf m at_ j) w 0;grind[UC]);apply J [56,135,108,120];refine q rfl rfl (ut (o:=at_+j) 5 1 rfl rfl rfl U U (by rw[Wq];omega)) ?_;refine eB ?_;refine st (v:=.int _ _) (vs:=[_]) 1 rfl rfl rfl rfl rfl rfl U E ?_;refine J [62] ?_;exact⟨rfl,(j+1),U,U,bG,ai⟩;obtain rfl:j=k:=U
 have D:oD (hf m at_ j):=by grind[UB]
 apply J [19,133];exact eZ (ay (⟨aF⟩:qa) D ai)
def jR(cl:List Nat)(x:Int):Option Value:=if cl.any (λp=>decide (x=(p:Int)*1024))=true then some (.int .i64 0)else none
theorem Ir{cl:List Nat}{p:Nat}(h:p∈cl):jR cl ((p:Int)*1024)=some (aa 0):=ax (List.any_eq_true.2 ⟨p,h,da rfl⟩)
theorem TM{cl:List Nat}{p:Nat}(h:p∉cl):jR cl ((p:Int)*1024)=none:=al λd=>by
 obtain⟨q,u,e⟩:=List.any_eq_true.1 d
 have:=dz e
 exact h (by rwa[show p=q by omega])
theorem TK(cl:List Nat)(p:Nat):fj (jR cl) ((p:Int)*1024) (aa 0)=jR (p::cl):=by funext x;rw[fj,jR,jR,List.any_cons];grind
theorem TL{cl:List Nat}(h:cl.Nodup)(p:Nat):fZ (jR cl) ((p:Int)*1024)=jR (cl.erase p):=by funext x;rw[fZ,jR,jR];by_cases e:x=(p:Int)*1024;rw[ax e];grind[List.Nodup.mem_erase_iff];grind
def iL(j top:Nat)(B:Nat->Nat)(aF:Nat):List Value:=.int .i64 top::((VF 21).map (λk=>if k<j then .pointer (some ⟨(B k),0,none⟩)else .pointer none)++[.map (some aF)])
theorem yW{j top:Nat}{B:Nat->Nat}{aF:Nat}(h:k<j)(d:k<21):(iL j top B aF)[0+1+((k:Nat):Int).toNat*1]? =some (.pointer (some ⟨(B k),0,none⟩)):=by rw[Wq,WB,Ws,Nat.add_comm,iL,WO,WG rL,WJ,Xp d,WD,ax h]
theorem yX(j top:Nat)(B:Nat->Nat)(aF:Nat):(iL j top B aF).length=23:=by simp[iL]
theorem sw{j top:Nat}(B:Nat->Nat)(aF x:Nat)(h:j<21):dC (0+1+((j:Nat):Int).toNat*1) [ae x] (iL j top B aF)=iL (j+1) top (λk=>if k=j then x else B k) aF:=by have e:dC (0+1+((j:Nat):Int).toNat*1) [ae x] (iL j top B aF)=(iL j top B aF).set (1+j) (ae x):=(by rw[List.set_eq_take_append_cons_drop,ax (by rw[yX];omega),Wq,WB,Ws];grind[dC]);rw[e];apply List.ext_getElem?;intro i;rw[List.getElem?_set,yX];cases i with|zero=>rw[al U];rfl|succ i=>by_cases C:i<21;have d:∀j B,(iL j top B aF)[i+1]? =some (if i<j then .pointer (some ⟨(B i),0,none⟩)else .pointer none):=λj B=>(by rw[iL,WO,WG rL,WJ,Xp C,WD]);rw[d,d];by_cases u:i=j;subst u;rw[ax U,ax U,ax U,ax rfl];rw[al U];by_cases w:i<j;rw[ax w,ax U,al u];rw[al w,al U];rw[al U];have d:∀j B,(iL j top B aF)[i+1]? =[Value.map (some aF)][i-21]? :=λj B=>(by rw[iL,WO,List.getElem?_append_right rL];simp);rw[d,d]
structure tr where
  f:j5
  B:Nat->Nat
  aF:Nat
def ke(b top:Nat)(cl:List Nat):av:=e7 λy:tr=>pure' (top<=20/\ma y.f top cl) (ag [aj b 361 (iL (top+1) top y.B y.aF),b3 (λk=>gE (y.B k) (2^(top-k)) (y.f k)) (VF (top+1)),bT QM.encI y.aF (jR cl) cl.length])
theorem Sg(f:j5)(k i:Nat)(v:Bool):lp f k i v k=kM (f k) i v:=by funext x;rw[lp,kM];simp_all
theorem xM(f:j5){x:Nat}(i:Nat)(v:Bool)(h:x≠k):lp f k i v x=f x:=by funext y;rw[lp,al (λd=>h d.1)]
theorem rU{n:Nat}(h:k<n):∃L,(VF n).Perm (k::L)/\∀x∈L,x≠k:=by obtain⟨L,d⟩:=fB (Xs.2 h);grind[List.nodup_range]
theorem oR{top:Nat}(h:top<=20):2^(top-k)<=1048576:=Vk (n:=2) am (show top-k<=20 by omega)
variable(top:Nat)
theorem Mp:t8 top top=kM (λ_=>false) 0 true:=by funext x;rw[t8,kM];simp_all
theorem Mq{top:Nat}(h:k≠top):t8 top k=λ_=>false:=by funext x;exact du λd=>h d.1
theorem Kx{f:j5}{top:Nat}{cl V:List Nat}(h:ma f top cl)(p:cl.Perm V):ma f top V:=
 ⟨h.bd,λq d=>by rw[h.au q d];simp only[p.mem_iff],p.nodup_iff.1 h.bA,λq d=>h.lt q (p.mem_iff.2 d)⟩
theorem TN{cl V:List Nat}(p:cl.Perm V):jR cl=jR V:=by grind[jR]
theorem vV{cl V:List Nat}(p:cl.Perm V):aE (ke b top cl) (ke b top V):=hM λh ⟨y,⟨d,u⟩,w⟩=>⟨y,⟨d,Kx u p⟩,by rw[<-TN p,<-p.length_eq];exact w⟩
def vg:Option Nat->Int
  | some p=>(p:Int)*1024
  | none=>0
def qw{α:Type}:Option α->Int
  | some _=>0
  | none=>4
def mQ(cl:List Nat):Option Nat->List Nat
  | some p=>p::cl
  | none=>cl
def J2(top:Nat)(cl:List Nat):Option Nat->Prop
  | some p=>p<2^top/\p∉cl
  | none=>2^top<=cl.length
theorem yY(h:n=65536/\top=6\/n=131072/\top=7):bK 176 [aa n] c5 [] (λb:Nat=>ae b) (λ_=>True) (λb=>[ke b top []]):=by
 apply aH Tryz.func176 Tryz.ntmps176;intro F D;apply J [8];haveI:cw F:=⟨D⟩;have N:fq n=1:=by rcases h with⟨rfl,_⟩|⟨rfl,_⟩<;>decide+kernel
 have E:XC 64 (n/1024)=top:=by rcases h with⟨rfl,rfl⟩|⟨rfl,rfl⟩<;>decide+kernel
 have an:65536<=n/\n<=131072/\top<=7:=U
 clear h;refine J [131,179,467,168,41,521,12,464,95] ?_;apply au (xn n U);apply J [148];rw[N];apply J [218,151,100,25];refine q rfl rfl (Wp (v:=((n/1024:Nat):Int)) (ln rfl rfl U U U) U) ?_;refine J [306,0] ?_;apply au (TJ (n/1024) U);apply J [148];rw[E];refine J [0,326] ?_;intro ba;refine q rfl rfl (ek (cs:=iL 0 top (λ_=>0) _) rfl) ?_;refine e rfl ?_;refine e0 (v:=.agg (List.toArray (iL 0 top (λ_=>0) _))) (l:=iL 0 top (λ_=>0) _) rfl rfl ?_;intro bC;refine J [57,40,358,75] ?_;refine VQ (ι:=Nat×(Nat->Nat)) (λx=>x.1<=top+1) (λx=>[(3,ae bC),(28,aa ((top+1:Nat):Int)),(29,aa ((x.1:Nat):Int))]) (λx=>ag [aj bC 361 (iL x.1 top x.2 ba),b3 (λk=>gE (x.2 k) (2^(top-k)) (λ_=>false)) (VF x.1),bT QM.encI ba (λ_=>none) 0,F]) (λx=>top+1-x.1) (0,λ_=>0) (Vl _) bG ((mS (f:=λk=>gE 0 (2^(top-k)) (λ_=>false)) _).trans (bN (ao (ao (ao (a6 _)))))) ?_;rintro⟨j,B⟩ H Z;dsimp only[cx]at H⊢;apply J [43];apply Vh rfl<;>intro V;have Q:j<=top:=U
 have u:=oR (k:=j) (show top<=20 by omega);have W:((2^(top-j):Nat):Int)=((2^(top-j):Nat):Int):=rfl;apply J [56,135];refine ab.draw _ [13] [0,1,2,3,4,5,6,7,8,10,11,-9,12,-13] a1 a1 (ao (a6 _)) ?_;apply J [77,11,50,11];refine bI rfl rfl rfl (Wp (v:=((top-j:Nat):Int)) (nH rfl rfl U U) U) ?_;refine bI rfl rfl rfl (nD (a:=1) (c:=2^(top-j)) rfl rfl U (Nat.one_mul _) U) ?_;apply J [89,431,15];apply bb (De (2^(top-j)) u);intro hj _;refine J [278] ?_;have O:=sw (top:=top) B ba hj (show j<21 by omega);have P:=yX j top B ba;refine J [590,91] ?_;refine st (v:=.pointer _) (vs:=[_]) 1 rfl rfl rfl rfl rfl rfl U O ?_;refine J [231,344] ?_;exact⟨rfl,(j+1,λk=>if k=j then hj else B k),cB,cB,bG,(ao (cX 0 0 j rfl rfl (by dsimp only;rw[ax rfl]) (λx d=>by dsimp only;rw[al (λe=>by rw[e]at d;exact absurd (Xs.1 d) (Nat.lt_irrefl _))]) (by rw[List.range_succ];exact(List.perm_append_singleton _ _).symm) (ao (ao (a6 _)))))⟩;obtain rfl:j=top+1:=U
 have u:=oR (k:=top) (show top<=20 by omega);obtain⟨C,gi,w⟩:=rU (n:=top+1) (k:=top) U;apply J [19,6];refine cD [0,1,2,3,4,5,6,7,8,-9,-10] (ao (a6 _)) ?_;refine J [77,50,89,431,590] ?_;refine bI rfl rfl rfl (fF rfl rfl (yW U U)) ?_;refine J [15,152] ?_;intro ch;refine⟨ai,?_⟩;obtain⟨C,gi,w⟩:=rU (n:=top+1) (k:=top) U;refine b8.bk (fN 2 rfl gi) ?_;refine dY rfl rfl ?_;apply ew (qr (B top) (2^(top-top)) (λ_=>false) 0 true (cJ ch) 1 cG u) ⟨_,bj.rd (ad:=some ⟨ch,0,none⟩)⟩;refine J [237,113,37,110] ?_;exact bu bC trivial (ay (⟨t8 top,B,ba⟩:tr) ⟨by omega,ma.init top⟩ (cO (cX 0 0 top rfl rfl (by dsimp only;rw[Mp]) (λx d=>by dsimp only;rw[Mq (w x d)]) gi.symm (bN (bN (a6 _))))))
theorem C6(cl:List Nat):bK 185 [ae b,aa 0] c5 [ke b top cl] (λy:Option Nat=>.tuple #[aa (vg y),aa (qw y)]) (λy=>J2 top cl y) (λy=>[ke b top (mQ cl y)]):=by
 apply aH Tryz.func185 Tryz.ntmps185;intro F aW;apply J [1];haveI:cw F:=⟨aW⟩;apply ab.open 0 rfl;rintro⟨f,B,aF⟩ ⟨C,aR⟩;apply J [87];dsimp only at aR⊢;apply J [24,243,254,204,41];refine VM 15 rfl (c:=false) (du U) ?_;apply J [12,140,192,160,109];refine Vh rfl (λZ=>absurd Z U) (λZ=>?_);apply J [4,25,173];refine ab.cut (ι:=Nat×Option Nat) (λx=>((∃i,x.2=some i/\x.1<=top/\f x.1 i=true)\/x.2=none/\2^top<=cl.length)) (λx=>[(0,ae b),(1,aa 0),(6,aa ((x.1:Nat):Int)),(7,aa (qQ x.2))]) (λx=>ag [aj b 361 (iL (top+1) top B aF),b3 (λk=>gE (B k) (2^(top-k)) (f k)) (VF (top+1)),bT QM.encI aF (jR cl) cl.length,F]) ?_ ?_;refine ab.block ?_;refine VQ (ι:=Nat) (λk=>k<=top+1/\∀d,d<k->∀i,i<2^(top-d)->f d i=false) (λk=>[(0,ae b),(1,aa 0),(6,aa ((k:Nat):Int)),(7,aa (-1))]) (λk=>ag [aj b 361 (iL (top+1) top B aF),b3 (λk=>gE (B k) (2^(top-k)) (f k)) (VF (top+1)),bT QM.encI aF (jR cl) cl.length,F]) (λk=>top+1-k) 0 ⟨Vl _,λd h=>by omega⟩ bG (ao (ao (ao (ao (a6 _))))) ?_;rintro k ⟨E,eF⟩ a9;dsimp only[cx]at E eF⊢;apply J [130,164,53];refine q rfl rfl (leq rfl rfl) ?_;refine aY.nil (ib ?_);apply Vh rfl<;>intro a5;have au:k<=top:=U
 have H:=oR (k:=k) C;refine J [56,35,267,468,469] ?_;obtain⟨Q,gi,N⟩:=rU (n:=top+1) (k:=k) U;refine aY.bk (fN 1 rfl gi) ?_;refine e rfl ?_;apply bb (Dc (B k) (2^(top-k)) (f k) true 0 U H);intro y D;apply J [10];cases y with|none=>?_|some i=>?_
 have D:tz (f k) true (2^(top-k)) 0:=D;dsimp only[qQ];refine J [63,410,115,22,138] ?_;exact⟨rfl,(k+1),⟨by omega,λd aB i ar=>by by_cases e:d=k;subst e;have:=D i (Vl _) ar;simpa using this;exact eF d U i ar⟩,U,⟨rfl,rfl,rfl,rfl,trivial⟩,(bw (cX 0 0 k rfl rfl rfl (λ_ _=>rfl) gi.symm (ao (ao (a6 _)))))⟩;have D:yx (f k) true (2^(top-k)) 0 i:=D;dsimp only[qQ];apply J [63,410,2];refine Vh rfl (λah=>?_) (λah=>absurd U ah);refine ab.exit (aL rfl (lP (lP (qv (ib ?_)))));exact⟨rfl,(k,some i),.inl ⟨i,rfl,au,D.2.2.1⟩,bG,(bw (cX 0 0 k rfl rfl rfl (λ_ _=>rfl) gi.symm (ao (ao (a6 _)))))⟩;have O:=aR.none λd aB=>eF d U;apply J [19];exact⟨rfl,(k,none),.inr ⟨rfl,O⟩,bG,(ao (ao (ao (ao (a6 _)))))⟩;rintro⟨k,bp⟩ E a9;dsimp only[cx]at E⊢;rcases E with⟨i,rfl,E,aA⟩|⟨rfl,O⟩;dsimp only[qQ];obtain⟨au,a4⟩:=aR.bd _ _ aA;have H:=oR (k:=k) C;have a0:=aR.take aA;apply J [6,347,2];refine Vh rfl (λaq=>absurd aq U) (λaq=>?_);refine J [4,35,267,468,469,68] ?_;intro V;obtain⟨Q,gi,N⟩:=rU (n:=top+1) (k:=k) U;apply J [470,0];apply ew (qr (B k) (2^(top-k)) (f k) i false (cJ V) 1 a4 H) ⟨_,bj.rd (ad:=some ⟨V,0,none⟩)⟩;apply J [14,2];refine ab.cut (ι:=j5×Nat) (λx=>kq x.1 top cl 0 x.2) (λx=>[(0,ae b),(1,aa 0),(7,aa ((x.2:Nat):Int))]) (λx=>ag [aj b 361 (iL (top+1) top B aF),b3 (λk=>gE (B k) (2^(top-k)) (x.1 k)) (VF (top+1)),bT QM.encI aF (jR cl) cl.length,F]) ?_ ?_;refine ab.block ?_;refine VQ (ι:=j5×Nat×Nat) (λx=>kq x.1 top cl x.2.1 x.2.2) (λx=>[(0,ae b),(1,aa 0),(6,aa ((x.2.1:Nat):Int)),(7,aa ((x.2.2:Nat):Int))]) (λx=>ag [aj b 361 (iL (top+1) top B aF),b3 (λk=>gE (B k) (2^(top-k)) (x.1 k)) (VF (top+1)),bT QM.encI aF (jR cl) cl.length,F]) (λx=>x.2.1) (lp f k i false,k,i) a0 bG (cO (cX 0 0 k rfl rfl xc (λx P=>by dsimp only;rw[xM _ _ _ (N x P)]) gi.symm (bN (bN (a6 _))))) ?_;rintro⟨f2,d,i2⟩ w bc;dsimp only[cx]at w⊢;apply J [130,3,216,2];apply Vh rfl<;>intro a5;obtain⟨u,rfl⟩:∃u,d=u+1:=⟨d-1,by omega⟩;obtain⟨bl,a2⟩:=w.split;have bi:=w.hR;have bf:=w.it;have a8:=oR (k:=u) C;have be:=wK (k:=u) (top:=top) U;apply J [56,25];refine q rfl rfl (Wp (v:=((2*i2:Nat):Int)) (ob rfl rfl U U) U) ?_;apply J [27,39,3];refine q rfl rfl (Wp (v:=((u:Nat):Int)) (nH rfl rfl U U) U) ?_;refine J [267,468,469,3] ?_;refine q rfl rfl (Wp (v:=((2*i2+1:Nat):Int)) (hJ rfl rfl U U) U) ?_;refine J [0,152] ?_;intro W;obtain⟨Q,gi,N⟩:=rU (n:=top+1) (k:=u) U;apply J [470,0];apply ew (qr (B u) (2^(top-u)) (f2 u) (2*i2+1) true (cJ W) 1 U a8) ⟨_,bj.rd (ad:=some ⟨W,0,none⟩)⟩;apply J [14,155,212];refine q rfl rfl (Wp (v:=((u:Nat):Int)) (nH rfl rfl U U) U) ?_;apply J [27];exact⟨rfl,(lp f2 u (2*i2+1) true,u,2*i2),a2,cB,bG,(cO (cX 0 0 u rfl rfl xc (λx P=>by dsimp only;rw[xM _ _ _ (N x P)]) gi.symm (bN (bN (a6 _)))))⟩;obtain rfl:d=0:=U
 apply J [19];exact⟨rfl,(f2,i2),w,bG,ai⟩;rintro⟨f2,i2⟩ w bc;dsimp only[cx]at w⊢;obtain⟨a3,av,aQ⟩:=w.done;have H:=oR (k:=0) C;rw[Nat.sub_zero]at H;apply J [25];refine q rfl rfl (Wp (v:=((i2*1024:Nat):Int)) (ob rfl rfl U U) U) ?_;apply J [3];refine q rfl rfl (Wp (v:=(i2:Int)*1024) (nD (a:=i2*1024) (n:=0) (c:=i2*1024) rfl rfl U U U) U) ?_;apply J [27,127];refine q rfl rfl (cY 22 rfl rfl) ?_;apply J [85,120,23];refine lX (v:=.int _ _) 3 3 rfl (dS.int rfl) rfl rfl rfl ?_;apply J [2,25,96];exact cQ (some i2) ⟨a3,av⟩ (ay (⟨f2,B,aF⟩:tr) ⟨C,aQ⟩ (bN (bN (b9 0 rfl (by dsimp only;rw[TM av,TK];rfl) (ao (a6 _))))));dsimp only[qQ];apply J [6,347,2];refine Vh rfl (λan=>?_) (λan=>absurd (am) an);apply J [24,348];exact cQ none O (ay (⟨f,B,aF⟩:tr) ⟨C,aR⟩ (ao (ao (ao (ao (a6 _))))))
theorem C4(cl:List Nat)(w:Nat)(gi:w∈cl):bt 190 [ae b,aa ((w:Int)*1024)] be [ke b top cl] (aa 0) [ke b top (cl.erase w)]:=by
 apply aH Tryz.func190 Tryz.ntmps190;intro F _;apply J [1];have D:=gi;clear gi;apply ab.open 0 rfl;rintro⟨f,B,aF⟩ ⟨E,aR⟩;apply J [87];dsimp only at aR⊢;have aL:=aR.lt _ D;have au:=oR (k:=0) E;rw[Nat.sub_zero]at au;have aq:=aR.Nv D;apply J [24,153,29,129,156,100,129,80];refine q rfl rfl (cY 22 rfl rfl) ?_;apply J [85,300,438];rw[Ir D];apply J [286,73,104,59,90,100,127];refine q rfl rfl (cY 22 rfl rfl) ?_;apply J [85,3,23];refine lM 3 3 rfl (dS.int rfl) rfl rfl rfl ?_;apply J [2,198];refine q rfl rfl (nD (a:=1024) (n:=0) (c:=1024) rfl rfl U rfl am) ?_;refine q rfl rfl (Wp (v:=(w:Int)) (ln rfl rfl U U U) U) ?_;apply J [27];refine ab.cut (ι:=j5×Nat×Nat) (λx=>kq x.1 top (cl.erase w) x.2.1 x.2.2) (λx=>[(0,ae b),(5,aa ((x.2.1:Nat):Int)),(7,aa ((x.2.2:Nat):Int))]) (λx=>ag [aj b 361 (iL (top+1) top B aF),b3 (λk=>gE (B k) (2^(top-k)) (x.1 k)) (VF (top+1)),bT QM.encI aF (jR (cl.erase w)) (cl.erase w).length,F]) ?_ ?_;refine ab.block ?_;refine VQ (ι:=j5×Nat×Nat) (λx=>kq x.1 top (cl.erase w) x.2.1 x.2.2) (λx=>[(0,ae b),(5,aa ((x.2.1:Nat):Int)),(7,aa ((x.2.2:Nat):Int))]) (λx=>ag [aj b 361 (iL (top+1) top B aF),b3 (λk=>gE (B k) (2^(top-k)) (x.1 k)) (VF (top+1)),bT QM.encI aF (jR (cl.erase w)) (cl.erase w).length,F]) (λx=>top+1-x.2.1) (f,0,w) aq bG (bN (bN (b9 0 rfl (by rw[Ir D,TL aR.bA,List.length_erase_of_mem D];rfl) (ao (a6 _))))) ?_;rintro⟨f2,d,i2⟩ u az;dsimp only[cx]at u⊢;have ar:=u.hR;have W:=u.it;have N:=oR (k:=d) E;apply J [130,164,53,381,18];refine aY.split 36 rfl (λC=>?_) (λC=>?_);have C:=dz C;have Z:d<top:=U
 have aB:=wK (k:=d) (top:=top) Z;have aQ:=IW i2;have av:i2^^^1<2^(top-d):=U
 apply J [301,12,513,572];refine dc rfl rfl rfl (jI 21 294 1 rfl rfl rfl U U) ?_;refine dc rfl rfl rfl (fF rfl rfl (yW U U)) ?_;apply J [12];refine dc rfl rfl rfl (Uo (a:=i2) (b:=1) rfl rfl U U rfl) ?_;refine J [95,152] ?_;intro P;obtain⟨ah,gi,H⟩:=rU (n:=top+1) (k:=d) U;apply J [470,95];apply ew (qr (B d) (2^(top-d)) (f2 d) (i2^^^1) false (cJ P) 1 av N) ⟨_,bj.rd (ad:=some ⟨P,0,none⟩)⟩;apply J [14];cases V:f2 d (i2^^^1)with|true=>?_|false=>?_
 apply J [158,189,20,4,75,212];refine q rfl rfl (Wp (v:=((i2/2:Nat):Int)) (ln rfl rfl U U U) U) ?_;refine J [3,154,73,73,155] ?_;exact⟨rfl,(lp f2 d (i2^^^1) false,d+1,i2/2),(u.merge Z V),cB,bG,(cO (cX 0 0 d rfl rfl xc (λx O=>by dsimp only;rw[xM _ _ _ (H x O)]) gi.symm (bN (bN (a6 _)))))⟩;rw[Hq V];apply J [158,456,115,19];exact⟨rfl,(f2,d,i2),u,bG,(cO (cX 0 0 d rfl rfl rfl (λ_ _=>rfl) gi.symm (bN (bN (a6 _)))))⟩;have C:=d6 C;apply J [47,47,52,151,115,19];exact⟨rfl,(f2,d,i2),u,bG,ai⟩;rintro⟨f2,d,i2⟩ u az;dsimp only[cx]at u⊢;have ar:=u.hR;have W:=u.it;have N:=oR (k:=d) E;obtain⟨aW,an⟩:=u.fill;refine J [35,267,468,469,68] ?_;intro Q;obtain⟨ah,gi,H⟩:=rU (n:=top+1) (k:=d) U;apply J [470,0];apply ew (qr (B d) (2^(top-d)) (f2 d) i2 true (cJ Q) 1 W N) ⟨_,bj.rd (ad:=some ⟨Q,0,none⟩)⟩;apply J [14,119];exact eZ (ay (⟨lp f2 d i2 true,B,aF⟩:tr) ⟨E,an⟩ (cO (cX 0 0 d rfl rfl xc (λx O=>by dsimp only;rw[xM _ _ _ (H x O)]) gi.symm (bN (bN (a6 _))))))
end Go.Proofs.Q
namespace Go.QM
open Go
section
variable {r : Option Nat} {P : Program} {N : Nat} {ops : Array Oper} {l : List Oper} {Q : fk} {ah : Env} {aQ : List Deferred} {A : av} {K : Value → av → Prop}
variable {d : Option Tmp} {ty : TypeId} {ps : String} {bl : Array Edge} {g : Option (Nat × Bool)}
variable {t t' : TypeId} {x y z u : Operand}
variable{hs rest:List av}
theorem K5{f:FuncId}{w:Operand}{vs:List Value}{u:List Operand}{N:Array TypeId}{rd:av->Prop}{pre:List av}{Y:Type}{res:Y->Value}{φ:Y->Prop}{post:Y->List av}
    (spec:eQ P f vs rd pre res φ post) (D:bf ah w=.func (.func f) #[] #[]) (C:lQ ah u=vs) (E:lF hs pre rest) (H:rd (ag rest)) (k:∀y,φ y->K (res y) (ag (post y++rest))):
    cn r P ah ⟨d,.call ⟨.value w,u.toArray,N⟩,ty,ps,bl,g⟩ (ag hs) K:=
  kw (lb:=[]) (vs:=vs) (by simpa using spec) D C E H k
variable{ad:Option Addr}{cap n j:Nat}
theorem Sw(E sz:Nat){i mx:Nat}(Q:hd P t E sz=true)(V:bf ah x=.slice ad n cap)(W:bf ah y=aa i)(Z:bf ah z=aa j)(hu:bf ah u=aa mx)(H:i<=j)(N:j<=mx)(O:mx<=cap):
    bF P ah ⟨d,.slice t x (some y) (some z) (some u),ty,ps,bl,g⟩ A (.slice (dN ad mx i sz) (j-i) (mx-i)):=
  λw _=>by
   have eB:(Wg (aa mx) cap .slice3Acap).run P w=.ok mx w:=by simp[Wg,asIntOf,O]
   have C:(Wg (aa j) mx .slice3B).run P w=.ok j w:=by simp[Wg,asIntOf,N]
   have D:(Wg (aa i) j .slice3C).run P w=.ok i w:=by simp[Wg,asIntOf,H]
   simp[execOp,Instr.sliceAt,Instr.slice,Instr.sliceBounds,V,W,Z,hu,hX Q,eB,C,D,dN]
theorem SB(E sz:Nat){i:Nat}(u:hd P t E sz=true)(w:bf ah x=.slice ad n cap)(C:bf ah y=aa i)(D:bf ah z=aa j)(H:i<=j)(N:j<=cap):
    bF P ah ⟨d,.slice t x (some y) (some z) none,ty,ps,bl,g⟩ A (.slice (dN ad cap i sz) (j-i) (cap-i)):=by have h:=xQ (P:=P) (A:=A) (d:=d) (ty:=ty) (ps:=ps) (bl:=bl) (g:=g) E sz u w C D U U U;trivial
theorem KS(E sz:Nat)(u:hd P t E sz=true)(C:bf ah x=.slice ad n cap):
    bF P ah ⟨d,.call ⟨.builtin .cap,#[x],#[t]⟩,ty,ps,bl,g⟩ A (aa cap):=
  λw _=>by simp[execOp,resolve,invoke,builtin,Builtin.cap_,C,hX u,goInt]
variable{sz:Nat}
theorem wk{E au m D:Nat}{C:Option Addr}{cs u N:List Value}(k:Nat)(a5:hd P t E sz=true)(aq:bf ah x=.slice (dN ad cap j sz) (n-j) (cap-j))(a8:bf ah y=.slice C m D)
    [H:pe hs ad E sz n cap cs rest] [hr:bj (ag hs) C au u] (bd:j<n) (hm:m*sz<=u.length) (a0:Nat.min m (n-j)=k) (O:0<sz) (av:(u.take (k*sz)).all VP=true) (Z:dC (j*sz) (u.take (k*sz)) cs=N)
    (a9:K (aa k) (ag (aX E sz ad n cap N::rest))):cn r P ah ⟨d,.call ⟨.builtin .copy,#[x,y],#[t,t']⟩,ty,ps,bl,g⟩ (ag hs) K:=by
 refine cn.run rfl λw Q=>?_;have aL:cs.length=n*sz:=(by obtain⟨i,H⟩:=H.tk;obtain⟨bc,bp,a,b,bb,rfl,O,bi⟩:=Q.bk (fC H);exact(nF O).1);have aH:0<cs.length:=by rw[aL];exact Nat.mul_pos U O
 obtain⟨af,pre,ar,rfl,f2,f3,f4,f5,V⟩:=xR Q H.tk aH;have az:w.heap[af]? =some (.cells (pre++cs++ar).toArray E (0,0)):=(iB (nb af E _)).sat V;have a2:k<=m:=cr
 have be:k<=n-j:=cr
 have a3:k*sz<=u.length:=Nat.le_trans (VT _ a2) hm;have aB:(u.take (k*sz)).length=k*sz:=b4
 have W:j*sz+(u.take (k*sz)).length<=cs.length:=(by rw[aB,f2,<-V9];exact VT _ U);have an:=vb (P:=P) (off:=pre.length+j*sz) az AJ av;rw[xT W,Z]at an;have a4:dN (some (⟨af,pre.length,none⟩:Addr)) cap j sz=some ⟨af,pre.length+j*sz,none⟩:=(by rw[dN,al U];simp[iC]);rw[a4]at aq;have aW:VG sz k (.slice C m D)=VG sz k (.slice C k D):=by cases C<;>rfl
 have aQ:(VG sz k (.slice C m D)).run P w=.ok (u.take (k*sz)).toArray w:=by rw[aW];exact qA (hr.rd.sat Q) a3
 refine⟨aa k,w.setRow af (pre++N++ar).toArray,_,.inl ?_,⟨rfl,rfl,rfl,by simp⟩,xS V f2 f3 f4 f5 (by rw[<-Z];exact u9 W),a9⟩;simp[execOp,resolve,invoke,builtin,Builtin.copy_,aq,a8,hX a5,XS,a0,aQ,an,goInt]
theorem Ka{E i C:Nat}{cs D:List Value}(bytes:Nat)(a0:hd P t E sz=true)(a2:hd P t' E sz=true)(aB:ru P E sz bytes=true)(a3:bf ah x=.slice ad i cap)(a4:bf ah y=.slice (dN ad cap j sz) (n-j) C)
    [u:pe hs ad E sz n cap cs rest] (bb:i<=j) (aL:j<=n) (an:0<n) (H:0<sz) (O:cs.all VP=true) (aq:dC (i*sz) (cs.drop (j*sz)) cs=D)
    (k:K (.slice ad (i+(n-j)) cap) (ag (aX E sz ad n cap D::rest))):cn r P ah ⟨d,.call ⟨.builtin .append,#[x,y],#[t,t']⟩,ty,ps,bl,g⟩ (ag hs) K:=by
 refine cn.run rfl λw N=>?_;have W:cs.length=n*sz/\n<=cap:=(by obtain⟨i,u⟩:=u.tk;obtain⟨a9,bi,a,b,a5,rfl,H,bd⟩:=N.bk (fC u);exact⟨(nF H).1,(nF H).2.1⟩);have aQ:cN (ag hs) E (dN ad cap j sz) (cs.drop (j*sz)):=(by obtain⟨i,u⟩:=u.tk;exact CI (sm (wp i u) (yB E sz ad n cap cs)) W.1 aL W.2);have az:0<cs.length:=b4
 obtain⟨inf,z0,bc,bj,be,a8,bp⟩:=tZ aB;obtain⟨af,pre,au,rfl,f2,f3,f4,f5,Q⟩:=xR N u.tk az;have av:w.heap[af]? =some (.cells (pre++cs++au).toArray E (0,0)):=(iB (nb af E _)).sat Q;have V:(cs.drop (j*sz)).length=(n-j)*sz:=by grind[Nat.sub_mul]
 have aW:i+(n-j)<=cap:=U
 have Z:i*sz+(cs.drop (j*sz)).length<=cs.length:=by rw[V,f2,<-V9];exact VT _ U
 have ar:=vb (P:=P) (off:=pre.length+i*sz) av (vs:=cs.drop (j*sz)) AJ (by rw[List.all_eq_true]at O⊢;exact λv hv=>O v (List.mem_of_mem_drop hv));rw[xT Z,aq]at ar;have aH:(VG sz (n-j) (.slice (dN (some ⟨af,pre.length,none⟩) cap j sz) (n-j) C)).run P w=.ok (cs.drop (j*sz)).toArray w:=(by have:=qA (P:=P) (w:=w) (sz:=sz) (m:=n-j) (c:=C) (aQ.sat N) (by rw[V];exact Vm _);grind);refine⟨.slice (some ⟨af,pre.length,none⟩) (i+(n-j)) cap,w.setRow af (pre++D++au).toArray,_,.inl ?_,⟨rfl,rfl,rfl,by simp⟩,xS Q f2 f3 f4 f5 (by rw[<-aq];exact u9 Z),k⟩;simp only[execOp,resolve,invoke,builtin,Builtin.append_,List.map_toArray,List.map_cons,List.map_nil,VA,VV,Vs,a3,a4,List.getElem?_toArray,List.getElem?_cons_zero,List.getElem?_cons_succ,hX a0,hX a2,XS,Bool.false_eq_true,if_false];rw[ax aW];simp only[VA,Bool.not_false,if_true,aH,Vs,iC,ar,VV]
theorem Kb{E i k V:Nat}{cs zs:List Value}{z0:Value}(bytes:Nat)(N:hd P t E sz=true)(O:sI P t' .i64=true)(aq:ru P E sz bytes=true)(bc:ly P E=some z0)(a9:bf ah x=.slice ad i cap)(bb:bf ah y=aa k)
    [hr:bj (ag hs) ad V cs] (hm:i*sz<=cs.length) (W:0<k) (a5:0<sz) (D:cap<i+k) (Z:(i+k)*bytes<=140737488355328) (aB:i+k<=maxLen) (bi:(Vw k z0.cells.toList).flatten=zs)
    (a2:∀b u,K (.slice (cJ b) (i+k) u) (ag (aX E sz (cJ b) (i+k) u (cs.take (i*sz)++zs)::hs))):cn r P ah ⟨d,.call ⟨.builtin .append,#[x,y],#[t,t']⟩,ty,ps,bl,g⟩ (ag hs) K:=by
 obtain⟨inf,z,az,aQ,aL,C,bd⟩:=tZ aq;have a0:z=z0:=by grind[ly]
 subst a0;refine cn.run rfl λw H=>?_;have hold:(VG sz i (.slice ad i cap)).run P w.drew=.ok (cs.take (i*sz)).toArray w.drew:=qA (hr.rd.sat (w:=w.drew) H) hm;have a4:maxLen=9223372036854775807:=rfl;have Q:P.underlying t=some (.slice E)/\P.underlying t'=some (.int .i64):=(by constructor;(·unfold hd at N;split at N;all_goals simp_all);·unfold sI at O;split at O;all_goals simp_all);have au:=grownCap_ge w (i+k) cap E;have an:=grownCap_le_maxLen w (i+k) cap E aB;have ar:=growslice_fits (need:=i+k) (old:=cap) (bytes:=bytes) D Z;have a3:k*bytes<=(i+k)*bytes:=cr
 have a8:=Lib.run_append_grow_zeros (P:=P) w t t' ty E inf z .i64 .i64 Q.1 Q.2 az aQ ad i cap (cs.take (i*sz)) (by rw[aL];exact hold) k W U D U (by rw[C];omega) (by rw[C];exact ar);refine⟨.slice (cJ w.heap.size) (i+k) (grownCap w (i+k) cap E),w.drew.alloc (.cells ((cs.take (i*sz)).toArray++VH z.cells k++VH z.cells (grownCap w (i+k) cap E-(i+k))) E),_,.inl ?_,?_,?_,a2 w.heap.size (grownCap w (i+k) cap E)⟩;grind[execOp,resolve,invoke,builtin,VA,VV,Vs];exact⟨rfl,rfl,rfl,by simp⟩;have be:(VH z.cells k).toList=zs:=(by grind[Ct,VH]);have aW:zs.length=k*sz:=by grind[size_zeroCells]
 refine(oU _ (show sat w.drew (ag hs)from H)).bk (dR (hM λh av=>?_) (aE.refl _));refine⟨([],(VH z.cells (grownCap w (i+k) cap E-(i+k))).toList),⟨rfl,?_,au,an,?_⟩,?_⟩;grind;have aH:(VH z.cells (grownCap w (i+k) cap E-(i+k))).toList.length=(grownCap w (i+k) cap E-(i+k))*sz:=by grind[size_zeroCells]
 dsimp only;rw[mp,Ww,aW,aH,Xe hm,<-V9,<-V9];simp_all;simp only[aj];have e:([]++(cs.take (i*sz)++zs)++(VH z.cells (grownCap w (i+k) cap E-(i+k))).toList).toArray=(cs.take (i*sz)).toArray++VH z.cells k++VH z.cells (grownCap w (i+k) cap E-(i+k)):=b4;rw[e];exact av
theorem QS{bR:List av}{f:FuncId}{fn:Func}{S R E bD a8 F1 c2 ar d1 au d2:Nat}{W Z:Option Addr}{N O:List Value}(aA:P.funcs[f]? = some fn)(bj:(fn.name == "runtime.NumGoroutine") = false)(be:fn.body.isNone = true)(an:Extern.findNext fn = none)
    (he:Extern.find fn=some (Extern.SlicesOverlaps.overlaps #[S,S] #[R])) (C:hd P S E sz=true) (Q:lQ ah [x,y]=[.slice W ar d1,.slice (dN Z c2 j sz) au d2]) (i1:Nat)
    (bc:eU i1 hs=some (aX E sz W bD a8 N,rest)) (aq:∃q,eU q rest=some (aX E sz Z F1 c2 O,bR)) (ga:0<N.length) (ho:0<O.length) (cc:j<c2) {bW:Array TypeId}
    (k:K (.bool false) (ag hs)):cn r P ah ⟨d,.call ⟨.value (.func f),#[x,y],bW⟩,ty,ps,bl,g⟩ (ag hs) K:=by refine cn.run rfl λw aQ=>⟨.bool false,w,_,.inl ?_,fv.refl w,aQ,k⟩;obtain⟨q,aq⟩:=aq;obtain⟨b6,a0,a,b,az,rfl,aB,bd⟩:=aQ.bk (fC bc);obtain⟨b0,aC,a2,bC,b1,a9,aH,b2⟩:=fC aq b bd;cases W with|none=>obtain⟨⟨_,_,e⟩,_⟩:=aB;rw[e]at ga;simp at ga|some bE=>(cases Z with|none=>obtain⟨⟨_,_,e⟩,_⟩:=aH;rw[e]at ho;simp at ho|some bK=>obtain⟨⟨V,a4⟩,⟨f1,-,-,-,-⟩,g1⟩:=aB;obtain⟨⟨D,a5⟩,⟨f2,-,-,-,-⟩,g2⟩:=aH;obtain⟨H,ce,s1⟩:=bE;obtain⟨u,cg,s2⟩:=bK;simp only[Addr.mk.injEq,true_and]at f1 f2;obtain⟨rfl,rfl⟩:=f1;obtain⟨rfl,rfl⟩:=f2;dsimp only at g1 g2;(have bS:a H=some (.cells (V++N++a4).toArray E (0,0)):=by rw[g1];simp);have a3:b u=some (.cells (D++O++a5).toArray E (0,0)):=aC _ _ (by rw[a9];exact qE a2 bC _ _ (by rw[g2];simp));have bp:H≠u:=λe=>(by subst e;rcases az H with h|h;rw[bS]at h;cases h;rw[a3]at h;cases h);have cI:=a0 _ _ (qE a b _ _ bS);have bY:=a0 _ _ (um az _ _ a3);(have bb:dN (some (⟨u,D.length,none⟩:Addr)) c2 j sz=some ⟨u,D.length+j*sz,none⟩:=by rw[dN,al U];simp[iC]);rw[bb]at Q;have aW:P.underlying S=some (.slice E)/\∀w,(Go.sizeOf E).run P w=.ok sz w:=(by refine⟨?_,λw=>(hX C w).2⟩;unfold hd at C;split at C;rename_i e h;simp only[Bool.and_eq_true]at C;rw[h];congr 2;exact Nat.eq_of_beq_eq_true C.1;cases C);have bt:=Lib.run_overlaps_apart (P:=P) w S R E aW.1 sz aW.2 ⟨H,V.length,none⟩ ⟨u,D.length+j*sz,none⟩ ar d1 au d2 bp E E (V++N++a4).length (D++O++a5).length (by simp[World.shape?,cI]) (by simp[World.shape?,bY]) (by simp only[mp];omega) (by simp[World.frozen?,cI]) (by simp[World.frozen?,cI]);have aL:=run_callFunc_extern aA bj be an he #[.slice (some ⟨H,V.length,none⟩) ar d1,.slice (some ⟨u,D.length+j*sz,none⟩) au d2] w;rw[bt]at aL;simp only[lQ,List.cons.injEq,and_true]at Q;have bi:bf ah (.func f)=.func (.func f) #[] #[]:=rfl;simp[execOp,resolve,Deferred.ofValue,invoke,bi,Q.1,Q.2,aL])
end
theorem HJ{l vs:List Value}{a:Nat}(h:l.length<=a+vs.length):dC a vs l=l.take a++vs:=by grind[dC,Wy]
theorem SG{E sz n cap:Nat}{ad:Option Addr}{cs:List Value}{m:Nat}(h:n+m<=cap):aE (aX E sz ad n cap cs) (e7 λe:List Value=>pure' (e.length=m*sz) (ag [aX E sz ad (n+m) cap (cs++e)])):=by
 cases ad with
 | none=>
   rintro u ⟨⟨rfl,rfl,rfl⟩,w⟩
   obtain rfl:m=0:=by omega
   obtain⟨C,s,k⟩:=pU (A:=aX E sz none 0 0 ([]++[])) u ⟨⟨rfl,rfl,rfl⟩,w⟩
   exact⟨C,s,[],by simp,k⟩
 | some p=>
   intro u ⟨⟨pre,d⟩,⟨H,N,W,Q,V⟩,w⟩
   dsimp only at H N V w
   have O:(n+m)*sz<=cap*sz:=VT _ h
   have D:(d.take (m*sz)).length=m*sz:=by rw[Ww];rw[V9]at O;omega
   have key:aX E sz (some p) (n+m) cap (cs++d.take (m*sz)) u:=
     ⟨(pre,d.drop (m*sz)),⟨H,by rw[mp,D,N,V9],h,Q,by dsimp only;rw[mp,D,List.length_drop];rw[V9]at O;omega⟩,by
       dsimp only
       have P:pre++(cs++d.take (m*sz))++d.drop (m*sz)=pre++cs++d:=by simp[VJ,V6]
       rw[P];exact w⟩
   obtain⟨C,s,k⟩:=pU (A:=aX E sz (some p) (n+m) cap (cs++d.take (m*sz))) u key
   exact⟨C,s,d.take (m*sz),D,k⟩
end Go.QM
namespace Go.Proofs.Q
open Go Go.QM
def uO(B:Nat->Nat)(p:cj):List Value:=[.pointer (some ⟨(B p.aD),0,none⟩),.int .i64 ((p.aD:Int)*1024)]
variable(B:Nat->Nat)
theorem uP(p:cj):(uO B p).length=2:=rfl
def fr(B:Nat->Nat)(L:List cj):List Value:=L.flatMap (uO B)
theorem xw(L:List cj):(fr B L).length=L.length*2:=kc (uP B) L
theorem Bf(B:Nat->Nat):∀L:List cj,(fr B L).all VP=true
 | []=>rfl
 | p::L=>by have:=Bf B L;rw[fr]at this⊢;rw[VD,List.all_append,this];rfl
theorem xv(L M:List cj):fr B (L++M)=fr B L++fr B M:=by simp[fr]
theorem GI(L:List cj)(i:Nat):(fr B L).take (i*2)=fr B (L.take i):=wB (uP B) L i
theorem GF(L:List cj)(i:Nat):(fr B L).drop (i*2)=fr B (L.drop i):=zE (uP B) L i
variable{L:List cj}{p:cj}
theorem xx{B:Nat->Nat}{i:Nat}(h:L[i]? =some p):((fr B L).drop (i*2)).take 2=[.pointer (some ⟨(B p.aD),0,none⟩),aa ((p.aD:Int)*1024)]:=mY (uP B) h
def nf(a b:Int):Int:=if a<b then -1 else if b<a then 1 else 0
theorem Dy{a b:Int}:nf a b<0↔a<b:=by unfold nf;omega
theorem Dx{a b:Int}:nf a b=0↔a=b:=by unfold nf;omega
def vv(L:List cj)(t:Int)(y:Nat×Bool):Prop:=y.1<=L.length/\(∀k p,L[k]? =some p->(k<y.1↔(p.aD:Int)*1024<t))/\(y.2=true↔∃p,L[y.1]? =some p/\(p.aD:Int)*1024=t)
variable{k:Nat}
theorem Ob{cs e vs:List Value}{n:Nat}(w:cs.length=n*2)(he:e.length=1*2)(hv:vs.length=2)(D:k<n):
 dC (k*2) vs (dC ((k+1)*2) (((cs++e).drop (k*2)).take ((n-k)*2)) (cs++e))=cs.take (k*2)++vs++cs.drop (k*2):=by
 have d:((cs++e).drop (k*2)).take ((n-k)*2)=cs.drop (k*2):=(by grind[VU]);have C:(cs.drop (k*2)).length=n*2-k*2:=b4
 have u:dC ((k+1)*2) (cs.drop (k*2)) (cs++e)=(cs++e).take ((k+1)*2)++cs.drop (k*2):=(by grind[HJ])
 rw[d,u,dC,hv,WM (by rw[Ww,mp];omega),List.take_take,Xe U,WM U,
  XI,Wy (by rw[Ww,mp];omega),VK]
 congr 1;have:k*2+2-((cs++e).take ((k+1)*2)).length=0:=cr
 simp_all
theorem N9{cs vs zs:List Value}{n:Nat}(w:cs.length=n*2)(E:zs.length=(n+1-k)*2)(hv:vs.length=2)(D:k<n):
 dC ((k+1)*2) ((cs.drop (k*2)).take ((n-k)*2)) (dC (k*2) (vs.take (1*2)) (cs.take (k*2)++zs))=cs.take (k*2)++vs++cs.drop (k*2):=by
 have C:(cs.drop (k*2)).length=n*2-k*2:=b4
 have d:(cs.take (k*2)).length=k*2:=cr
 rw[VU (by omega:(cs.drop (k*2)).length<=(n-k)*2),VU (by omega:vs.length<=1*2)];have u:dC (k*2) vs (cs.take (k*2)++zs)=cs.take (k*2)++vs++zs.drop 2:=(by rw[dC,WM U,VU U,hv,XI,Wy U,VK,d];simp_all);grind[HJ]
theorem LX{cs d:List Value}{n:Nat}(u:cs.length=n*2)(w:k<n)(h:d.take ((n-1)*2)=(dC (k*2) (cs.drop ((k+1)*2)) cs).take ((n-1)*2)):d.take ((n-1)*2)=cs.take (k*2)++cs.drop ((k+1)*2):=by grind[dC,VU]
theorem Fa(x:Int):bt 289 [aa x] be [] (.bool false) []:=by apply aH Tryz.func289 Tryz.ntmps289;intro F _;apply J [8,128,198,93,66];exact b7.i () [_] ⟨rfl,trivial⟩ (congrArg Value.bool cG) trivial (ao (a6 _))
theorem Lk(x y:Int):bt 229 [aa x,aa y] be [] (aa (nf x y)) []:=by
 apply aH Tryz.func229 Tryz.ntmps229;intro F _;apply J [8,106,142];apply au (Fa x);apply J [148,38,142];apply au (Fa y);apply J [148,104,59,122,59,122,198,182];apply Vh rfl<;>intro d;have hv:nf x y=-1:=ax d;rw[hv];apply J [186];exact j4;apply J [44,198,216,2];apply Vh rfl<;>intro u;have hv:nf x y=1:=by rw[nf,al d,ax u]
 rw[hv];apply J [186];exact j4;have hv:nf x y=0:=by rw[nf,al d,al u]
 rw[hv];apply J [4,199];exact j4
theorem MF(v:Option Addr)(x y:Int):bt 228 [.agg #[.pointer v,aa x],aa y] be [] (aa (nf x y)) []:=by apply aH Tryz.func228 Tryz.ntmps228;intro F _;refine J [196,522] ?_;intro ba;apply J [27,265,28];apply au (Lk x y);apply J [5,30];exact dn
theorem KI(L:List cj)(ad:Option Addr)(cap:Nat)(t:Int)(hs:L.Pairwise λa b=>a.aD<b.aD)(av:L.length<=1048576):bK 227 [.slice ad L.length cap,aa t,.func (.func 228) #[] #[]] (λF=>∃E,cN F E ad (fr B L)) [] (λy:Nat×Bool=>.tuple #[aa y.1,.bool y.2]) (λy=>vv L t y) (λ_=>[]):=by
 apply aH Tryz.func227 Tryz.ntmps227;intro F ⟨E,Z⟩;apply J [8];haveI:bj F ad E (fr B L):=⟨Z⟩;have au:=xw B L;apply J [24,184,33,390,63,243,75];refine ab.loop (ι:=Nat×Nat) (λx=>(x.1<=x.2/\x.2<=L.length)/\(∀k gb,L[k]? =some gb->k<x.1->(gb.aD:Int)*1024<t)/\(∀k gb,L[k]? =some gb->x.2<=k->t<=(gb.aD:Int)*1024)) (λx=>[(0,.slice ad L.length cap),(1,aa t),(2,.func (.func 228) #[] #[]),(8,aa L.length),(9,aa ((x.1:Nat):Int)),(10,aa ((x.2:Nat):Int))]) (λx=>ag [F]) (λx=>x.2-x.1) (0,L.length) ⟨⟨Vl _,Vm _⟩,λk gb _ h=>absurd h (Nat.not_lt_zero _),λk gb h N=>absurd (Vo.1 h).1 (by dsimp only at N;omega)⟩ bG (ao (a6 _)) ?_;rintro⟨i,j⟩ ⟨⟨an,H⟩,Q,O⟩ aL;dsimp only[cx]at an H Q O⊢;apply J [130,3,182];apply Vh rfl<;>intro aB;have ah:(i+j)/2<L.length:=U
 obtain⟨gb,d⟩:∃gb,L[(i+j)/2]? =some gb:=⟨L[(i+j)/2],Ve ah⟩;have ar:0<(fr B L).length:=U
 apply J [4,75,198];refine q rfl rfl (Wp (v:=((i+j:Nat):Int)) (hJ rfl rfl U U) U) ?_;refine J [306] ?_;refine q rfl rfl (jP (n:=1) (c:=(i+j)/2) rfl rfl U (by rw[Nat.pow_one])) ?_;refine J [307,27,24] ?_;refine q rfl rfl (fW (v:=.func _ _ _) rfl) ?_;refine J [86,3,523] ?_;refine q rfl rfl (gp (vs:=[_,_]) 2 rfl rfl (xx d) rfl am) ?_;refine J [28,591] ?_;intro _ _;apply J [148,182];apply Vh rfl<;>intro D;have D:(gb.aD:Int)*1024<t:=by grind[Dy]
 apply J [212];refine q rfl rfl (Wp (v:=(((i+j)/2+1:Nat):Int)) (hJ rfl rfl U U) U) ?_;apply J [73,155];exact⟨rfl,((i+j)/2+1,j),⟨⟨by dsimp only;omega,H⟩,λk r u P=>by dsimp only at P;by_cases e:k=(i+j)/2;subst e;rw[d]at u;cases u;exact D;obtain⟨g1,g2⟩:=Vo.1 u;obtain⟨g3,g4⟩:=Vo.1 d;have:=(WF.1 hs) k ((i+j)/2) g1 g3 U;rw[g2,g4]at this;omega,O⟩,cB,⟨rfl,rfl,rfl,rfl,rfl,rfl,trivial⟩,ai⟩;have D:¬(gb.aD:Int)*1024<t:=λh=>D (Dy.2 h);apply J [212,73,155];exact⟨rfl,(i,(i+j)/2),⟨⟨by dsimp only;omega,by dsimp only;omega⟩,Q,λk r u P=>by dsimp only at P;by_cases e:k=(i+j)/2;subst e;rw[d]at u;cases u;omega;obtain⟨g1,g2⟩:=Vo.1 u;obtain⟨g3,g4⟩:=Vo.1 d;have:=(WF.1 hs) ((i+j)/2) k g3 g1 U;rw[g2,g4]at this;omega⟩,cB,⟨rfl,rfl,rfl,rfl,rfl,rfl,trivial⟩,ai⟩;obtain rfl:i=j:=U
 have V:∀k p,L[k]? =some p->(k<i↔(p.aD:Int)*1024<t):=λk p W=>⟨Q k p W,λh=>by by_cases e:k<i;exact e;have:=O k p W U;omega⟩;apply J [19,25,120,381,18];refine aY.split 39 rfl (λw=>?_) (λw=>?_);have w:=dz w;have aq:i<L.length:=U
 obtain⟨gb,d⟩:∃gb,L[i]? =some gb:=⟨L[i],Ve aq⟩;have ar:0<(fr B L).length:=U
 refine dc rfl rfl rfl (fW (v:=.func _ _ _) rfl) ?_;apply J [391,12];refine dc rfl rfl rfl (gN 296 2 rfl rfl rfl U dQ) ?_;refine dc rfl rfl rfl (gp (vs:=[_,_]) 2 rfl rfl (xx d) rfl am) ?_;refine J [280,591] ?_;intro _ _;apply J [148,158,456,73,66];exact cQ (i,decide (nf ((gb.aD:Int)*1024) t=0)) ⟨H,V,⟨λh=>⟨gb,d,Dx.1 (dz h)⟩,λ⟨p,C,N⟩=>da (Dx.2 (by rw[d]at C;cases C;exact N))⟩⟩ ai;have w:=d6 w;apply J [47,47,151,73,66];exact cQ (i,false) ⟨H,V,⟨λh=>(by cases h),λ⟨p,C,_⟩=>absurd (Vo.1 C).1 U⟩⟩ (ao (a6 _))
theorem Q1(ad:Option Addr)(cap n k:Nat)(cs:List Value)(N:k<n)(an:n<=1048576)(D:cs.length=n*2)(V:n<=cap)(Q:cap<=maxLen)(C:cs.all VP=true):bt 296 [.slice ad n cap,aa k,aa ((k:Int)+1)] be [aX 296 2 ad n cap cs] (.slice ad (n-1) cap) [aX 296 2 ad (n-1) cap (cs.take (k*2)++cs.drop ((k+1)*2))]:=by
 apply aH Tryz.func296 Tryz.ntmps296;intro F _;apply J [1];have Z:maxLen=9223372036854775807:=rfl;have u:((k:Nat):Int)+1=((k+1:Nat):Int):=U
 rw[u];apply J [121,33,120,86,390];refine q rfl rfl (Sw (i:=k) (j:=k+1) (mx:=n) 296 2 rfl rfl rfl rfl rfl U U U) ?_;apply J [29,198,244];refine Vh rfl (λd=>absurd d U) (λd=>?_);apply J [4,33,390,31];refine cD [0,1,2,3,4,5,-6,7] (a6 _) ?_;apply J [194];refine bI rfl rfl rfl (nE 296 2 k rfl rfl rfl rfl U) ?_;refine J [194,592,15] ?_;refine Ka 16 rfl rfl rfl rfl rfl U U U am C rfl ?_;refine J [9,327,74,6] ?_;have w:k+(n-(k+1))=n-1:=U
 rw[w];apply J [108,86,390,3];refine q rfl rfl (SB 296 2 rfl rfl rfl rfl U U) ?_;refine eB ?_;refine zd (n:=n) (E:=296) (sz:=2) (z:=.agg #[.pointer none,aa 0]) (n-1) rfl rfl rfl rfl am rfl rfl U ?_;intro P W O;apply J [2,33,69];have H:=LX D N O;exact eZ (DT 0 rfl (pV (j:=n-1) U) (by rw[H];exact(ao (ao (a6 _)))))
theorem Q2(ad N:Option Addr)(cap au n k:Nat)(cs vs:List Value)(bb:k<=n)(an:n<=1048576)(u:cs.length=n*2)(hv:vs.length=2)(av:n<=cap)(a4:cap<=maxLen)(a5:1<=au)(a0:cs.all VP=true)(O:vs.all VP=true):bK 239 [.slice ad n cap,aa k,.slice N 1 au] be [aX 296 2 ad n cap cs,aX 296 2 N 1 au vs] (λy:Option Addr×Nat=>.slice y.1 (n+1) y.2) (λ_=>True) (λy=>[aX 296 2 y.1 (n+1) y.2 (cs.take (k*2)++vs++cs.drop (k*2))]):=by
 apply aH Tryz.func239 Tryz.ntmps239;intro F _;apply J [13];have bd:maxLen=9223372036854775807:=rfl;refine J [121,264,524,2,33,390,31,25,290,100,33,390,31,198,244] ?_;apply Vh rfl<;>intro bc;obtain rfl:k=n:=U
 apply J [33,262];refine ap 16 rfl rfl rfl rfl rfl U (show vs.take (1*2)=vs from VU U) O U gq ?_;intro W ah;apply J [202,76];have D:cs.take (k*2)++vs++cs.drop (k*2)=cs++vs:=cr
 exact bu (W,ah) trivial (by rw[D];exact(ao (bN (a6 _))));have P:k<n:=U
 refine J [44,198,154,86] ?_;refine q rfl rfl (KS 296 2 rfl rfl) ?_;apply J [216,2];apply Vh rfl<;>intro a2;have a3:cap<k+(n+1-k):=U
 have aW:(Vw (n+1-k) [Ym none,aa 0]).flatten.length=(n+1-k)*2:=cG
 apply J [264];refine q rfl rfl (nE 296 2 k rfl rfl rfl rfl U) ?_;refine J [120,154,3] ?_;refine q rfl rfl (Wp (v:=((n+1-k:Nat):Int)) (nH rfl rfl U U) U) ?_;refine e rfl ?_;refine Kb (E:=296) (sz:=2) (i:=k) (k:=n+1-k) (cs:=cs) (z0:=.agg #[.pointer none,aa 0]) (zs:=(Vw (n+1-k) [Ym none,aa 0]).flatten) 16 rfl rfl rfl rfl rfl rfl U U am U U gq rfl ?_;intro Z aq;have ar:k+(n+1-k)=n+1:=U
 rw[ar];apply J [190];haveI:sk cs cap k 2:=⟨n,u,by omega,av⟩;have aQ:(vs.take (1*2)).all VP=true:=cr
 have C:((cs.drop (k*2)).take ((n-k)*2)).all VP=true:=cr
 have w:(cs.drop (k*2)).length=(n-k)*2:=cr
 have D:=N9 u aW hv P;refine J [108,3,524,262] ?_;refine wk (n:=n+1) (j:=k) 1 rfl rfl rfl U U (show min _ _=_ from by omega) am aQ rfl ?_;apply J [29];refine cD [0,1,2,3,4,5,6,7,-8] (a6 _) ?_;refine J [194,11,388] ?_;refine bI rfl rfl rfl (oh 296 2 (k+1) rfl rfl rfl U U) ?_;apply J [194];refine bI rfl rfl rfl (oh 296 2 k rfl rfl rfl rfl U) ?_;refine dY rfl rfl ?_;refine wk (n:=n+1) (j:=k+1) (n-k) rfl rfl rfl U (by rw[w];exact Vm _) (show min _ _=_ from by omega) am C D ?_;refine J [113,33,202,76] ?_;exact bu (some ⟨Z,0,none⟩,aq) trivial ai;have Q:n+1<=cap:=U
 apply J [4,33,120];refine q rfl rfl (Wp (v:=((n+1:Nat):Int)) (hJ rfl rfl U U) U) ?_;refine q rfl rfl (nE 296 2 (n+1) rfl rfl rfl rfl U) ?_;apply J [190,6];refine ab.bk (DT 0 rfl (SG (m:=1) Q) (Mk _)) ?_;refine ab.open 0 rfl (λd H=>?_);obtain es:=d;have a9:=H;apply J [13];haveI:sk (cs++d) cap k 2:=⟨n+1,by rw[mp,u,H];omega,by omega,Q⟩;have V:vs.take (1*2)=vs:=cr
 have aB:=Ob u H hv P;have a8:((cs++d).drop (k*2)).take ((n-k)*2)=cs.drop (k*2):=(by grind[VU]);have C:(((cs++d).drop (k*2)).take ((n-k)*2)).all VP=true:=cr
 have w:((cs++d).drop (k*2)).length=(n+1-k)*2:=cr
 have aL:0<(cs++d).length:=b4
 apply J [108,86,120];refine q rfl rfl (Wp (v:=((k+1:Nat):Int)) (hJ rfl rfl U U) U) ?_;refine q rfl rfl (oh 296 2 (k+1) rfl rfl rfl rfl U) ?_;refine e rfl ?_;refine QS (S:=291) (R:=4) (F1:=n+1) (c2:=cap) (j:=k+1) Tryz.func293 a1 a1 a1 a1 rfl rfl 1 rfl ⟨0,rfl⟩ U aL U ?_;apply J [249,20,6];refine cD [0,1,2,3,4,5,6,7,-8] (a6 _) ?_;apply J [194,11];refine bI rfl rfl rfl (Wp (v:=((k+1:Nat):Int)) (hJ rfl rfl U U) U) ?_;refine J [592,194] ?_;refine bI rfl rfl rfl (oh 296 2 k rfl rfl rfl rfl U) ?_;refine dY rfl rfl ?_;refine wk (n:=n+1) (j:=k+1) (n-k) rfl rfl rfl U (by rw[w];exact Vm _) (show min _ _=_ from by omega) am C rfl ?_;refine J [113,264,524,262] ?_;refine wk (n:=n+1) (j:=k) 1 rfl rfl rfl U U (show min _ _=_ from by omega) am (by rw[V];exact O) (by rw[V,aB]) ?_;apply J [2,33,202,76];exact bu (ad,cap) trivial ai
structure qb where
  B:Nat->Nat
  ad:Option Addr
  cap:Nat
structure mb(sz:Nat)(L:List cj):Prop where
  aZ:16<=sz/\sz<=512
  inv:ow (960/sz) L
  aD:∀p∈L,p.aD<1048576
def lh(b bd sz:Nat)(L:List cj):av:=e7 λy:qb=>pure' (mb sz L) (ag [aj b 293 [ae bd,.int .i64 sz,.slice y.ad L.length y.cap],aX 296 2 y.ad L.length y.cap (fr y.B L),b3 (λp:cj=>gE (y.B p.aD) (960/sz) p.f) L])
theorem mb.many{sz:Nat}(h:mb sz L):1<=960/sz/\960/sz<=60/\960/sz*sz<=960:=by obtain⟨u,w⟩:=h.aZ;have d:1<=960/sz:=(Nat.le_div_iff_mul_le U).2 U;have a2:960/sz<=60:=(by exact Nat.div_le_of_le_mul U);exact⟨d,a2,Nat.div_mul_le_self 960 sz⟩
theorem mb.place{sz:Nat}(h:mb sz L){i:Nat}(d:i<960/sz):i*sz+sz<=960:=by have u:=h.many.2.2;have w:(i+1)*sz<=960/sz*sz:=VT _ d;grind
theorem Q8(h:L.Pairwise λa b=>a.aD<b.aD):(L.map (·.aD)).Nodup:=by grind
theorem mb.len{sz:Nat}(h:mb sz L):L.length<=1048576:=by have:=vc (Q8 h.inv.kl) (m:=List.range 1048576) λx u=>(by obtain⟨p,d,rfl⟩:=Vq.1 u;exact List.mem_range.2 (h.aD p d));simp_all
theorem tJ(h:L[k]? =some p):L=L.take k++p::L.drop (k+1):=by grind[List.drop_eq_getElem_cons,V6]
variable{aD:Nat}
theorem GH{f:Nat->Bool}(g:Nat->Bool)(h:L[k]? =some ⟨aD,f⟩):fr B (L.take k++⟨aD,g⟩::L.drop (k+1))=fr B L:=by
 conv=>rhs;rw[tJ h]
 rw[xv,xv];rfl
theorem Fz(r:cj)(h:L[k]? =some p):(L.take k++r::L.drop (k+1)).length=L.length:=by grind
theorem GP{f:Nat->Bool}(g:Nat->Bool)(h:L[k]? =some ⟨aD,f⟩):(L.take k++(⟨aD,g⟩:cj)::L.drop (k+1)).map (·.aD)=L.map (·.aD):=by
 conv=>rhs;rw[tJ h]
 simp_all
theorem Q0{B:Nat->Nat}(h:L[k]? =some p):(fr B L)[k*2+0]? =some (.pointer (some ⟨(B p.aD),0,none⟩)):=qB (uP B) h rfl
theorem GG{B C:Nat->Nat}:∀{L:List cj},(∀q∈L,B q.aD=C q.aD)->fr B L=fr C L
 | [],_=>rfl
 | q::L,h=>by have d:=GG (L:=L) λr u=>h r (by simp[u]);rw[fr,fr]at d⊢;rw[VD,VD,d,uO,uO,h q cG]
structure Cz(sz:Nat)(L:List cj)(aD i:Nat)(y:List cj×Bool):Prop where
  nm:mN (960/sz) L y.1 aD i
  aD:if y.2=true then(L.map (·.aD)).Perm (aD::y.1.map (·.aD))else y.1.map (·.aD)=L.map (·.aD)
structure yH(sz top:Nat)(cl:List Nat)(L:List cj)(y:Nat×Nat×List cj×Bool):Prop where
  m1:lA (960/sz) L y.2.2.1 y.1 y.2.1
  aD:if y.2.2.2=true then(y.2.2.1.map (·.aD)).Perm (y.1::L.map (·.aD))/\y.1∉cl/\y.1<2^top else y.2.2.1.map (·.aD)=L.map (·.aD)/\y.1∈L.map (·.aD)
  i:y.2.1<960/sz
theorem mb.m1{sz i:Nat}{L':List cj}(h:mb sz L)(g:lA (960/sz) L L' aD i)(C:aD<1048576):mb sz L':=by refine⟨h.aZ,g.inv h.inv (by have:=h.many;omega),λp d=>?_⟩;cases g with|old A B f u w D E=>subst u;subst w;rcases Vg.1 d with d|d;exact h.aD p (by simp[d]);rcases Vt.1 d with rfl|d;exact C;exact h.aD p (by simp[d])|new A B u w D E H N=>subst u;subst w;rcases Vg.1 d with d|d;exact h.aD p (by simp[d]);rcases Vt.1 d with rfl|d;exact C;exact h.aD p (by simp[d])
theorem mb.nm{sz i:Nat}{L':List cj}(h:mb sz L)(g:mN (960/sz) L L' aD i):mb sz L':=by refine⟨h.aZ,g.inv h.inv,λp d=>?_⟩;cases g with|stay A B f u w C=>subst u;subst w;rcases Vg.1 d with d|d;exact h.aD p (by simp[d]);rcases Vt.1 d with rfl|d;exact h.aD ⟨aD,f⟩ cG;exact h.aD p (by simp[d])|gone A B f u w C D=>subst u;subst w;exact h.aD p (by rcases Vg.1 d with d|d<;>simp[d])
theorem KG(C:L[k]? =some p){y:Nat×Bool}(h:vv L ((p.aD:Int)*1024) y)(hs:L.Pairwise λa b=>a.aD<b.aD):y=(k,true):=by obtain⟨d,u,w⟩:=h;grind[WF]
theorem KH{L:List cj}{y:Nat×Bool}(h:vv L ((aD:Int)*1024) y)(hs:L.Pairwise λa b=>a.aD<b.aD)(an:∀p∈L,p.aD≠aD):(∀p∈L.take y.1,p.aD<aD)/\∀p∈L.drop y.1,aD<p.aD:=by obtain⟨d,u,w⟩:=h;grind[Wb]
variable(bd sz:Nat)
theorem SL(h:(16<=sz/\sz<=512)/\sz %16=0):bK 178 [ae bd,aa sz] be [] (λb:Nat=>ae b) (λ_=>True) (λb=>[lh b bd sz []]):=by apply aH Tryz.func178 Tryz.ntmps178;intro F _;refine J [8,131,254,204,41,521,168,41] ?_;refine aY.known 15 rfl (c:=false) (du U) ?_;refine J [12,466,218,109] ?_;refine Vh rfl (λd=>absurd d U) (λd=>?_);apply J [4,35];refine q rfl rfl (ek (cs:=[.pointer _,.int _ _,.slice _ _ _]) rfl) ?_;refine e rfl ?_;refine e0 (v:=.agg #[_,_,_]) (l:=[.pointer _,.int _ _,.slice _ _ _]) rfl rfl ?_;intro ba;apply J [110];exact bu ba trivial ((dG 296 2 _).trans ((mS (f:=λp:cj=>gE 0 (960/sz) p.f) _).trans (ay (⟨λ_=>0,none,0⟩:qb) ⟨h.1,⟨Yx,λ_ h=>(by cases h)⟩,λ_ h=>(by cases h)⟩ (bw (bN (ao (ao (a6 _))))))))
theorem SK:bt 178 [ae bd,aa 0] be [] (.pointer none) []:=by apply aH Tryz.func178 Tryz.ntmps178;intro F _;refine J [8,131,254,204,41,525,337,52,139,270] ?_;exact j4
variable(b:Nat)
theorem SJ(bd sz:Nat)(v:Value)(h:16<=sz/\sz<=512):bt 238 [ae b] be [aj b 293 [ae bd,aa sz,v]] (aa ((960/sz:Nat):Int)) [aj b 293 [ae bd,aa sz,v]]:=by apply aH Tryz.func238 Tryz.ntmps238;intro F _;apply J [1,36,42,64];refine q rfl rfl (Wp (v:=((960/sz:Nat):Int)) (ln rfl rfl U U U) cG) ?_;apply J [30];exact hH
theorem HD(bd sz aD i:Nat)(w:Value)(d:Nat)(h:i*sz+sz<=960)(C:aD<1048576):bt 174 [ae b,.agg #[ae d,aa ((aD:Int)*1024)],aa i] be [aj b 293 [ae bd,aa sz,w]] (aa ((aD*1024+64+i*sz:Nat):Int)) [aj b 293 [ae bd,aa sz,w]]:=by
 apply aH Tryz.func174 Tryz.ntmps174;intro F _;apply J [1];have u:(i:Int)*(sz:Int)=((i*sz:Nat):Int):=cG
 refine J [26,522] ?_;intro bC;refine J [31,526,143,388,11,137] ?_;refine bI rfl rfl rfl (Wp (v:=((i*sz:Nat):Int)) (ob rfl rfl U U) U) ?_;refine bI rfl rfl rfl (Wp (v:=((aD*1024+64+i*sz:Nat):Int)) (hJ rfl rfl U U) U) ?_;apply J [181,147];exact dn
theorem HC(b bd sz:Nat)(B:Nat->Nat)(L:List cj)(ad:Option Addr)(cap:Nat)(t:Int)(hs:L.Pairwise λa b=>a.aD<b.aD)(u:L.length<=1048576):bK 170 [ae b,aa t] (λF=>∃E,cN F E ad (fr B L)) [aj b 293 [ae bd,aa sz,.slice ad L.length cap]] (λy:Nat×Bool=>.tuple #[aa y.1,.bool y.2]) (λy=>vv L t y) (λ_=>[aj b 293 [ae bd,aa sz,.slice ad L.length cap]]):=by apply aH Tryz.func170 Tryz.ntmps170;intro F ⟨E,d⟩;apply J [1];haveI:bj F ad E (fr B L):=⟨d⟩;apply J [24,184,97,28];apply eM (KI B L ad cap t hs u) ⟨_,bj.rd (ad:=ad)⟩;intro y w;apply J [5,92,296,73,66];exact cQ y w ai
theorem HE(bd sz:Nat)(L:List cj)(k aD i:Nat)(f:Nat->Bool)(u:L[k]? =some ⟨aD,f⟩)(D:f i=true):bt 123 [ae b,aa ((aD*1024+64+i*sz:Nat):Int)] be [lh b bd sz L] (.tuple #[aa k,aa i,.bool true]) [lh b bd sz L]:=by
 apply aH Tryz.func123 Tryz.ntmps123;intro F _;apply J [1];refine ab.open 0 rfl (λZ V=>?_);obtain⟨B,ad,cap⟩:=Z;have d:=V;apply J [87];dsimp only at d⊢;have E:=d.inv.bd _ (Vi u) i D;have ar:=d.place E;have P:=d.aD _ (Vi u);have hs:=d.aZ;have hm:=d.many;dsimp only at P E;have N:=(Vo.1 u).1;have O:=d.len;have aq:=xw B L;have Q:0<(fr B L).length:=U
 have ah:(aD*1024+64+i*sz)/1024=aD:=U
 have an:(aD*1024+64+i*sz) %1024=64+i*sz:=U
 have H:(i*sz) %sz=0:=b4
 have w:(i*sz)/sz=i:=by grind[Nat.mul_div_cancel]
 apply J [24,73,73,104,254,204,109];refine Vh rfl (λC=>absurd C U) (λC=>?_);apply J [4,35];refine q rfl rfl (Wp (v:=(aD:Int)) (ln rfl rfl U U U) U) ?_;refine J [461,0] ?_;apply eM (HC b bd sz B L ad cap ((aD:Int)*1024) d.inv.kl O) ⟨_,bj.rd (ad:=ad)⟩;intro y W;apply J [17];obtain rfl:=KG u W d.inv.kl;dsimp only;apply J [286,184,25];refine q rfl rfl (Wp (v:=((64+i*sz:Nat):Int)) (pS rfl rfl U U) U) ?_;refine q rfl rfl (Wp (v:=((i*sz:Nat):Int)) (nH rfl rfl U U) U) ?_;apply J [31,6];refine cD [0,1,2,3,4,5,6,7,8,9,10,11,12,13,14,15,16,17,18,19,20,21,22,23,24,25,26,27,28,29,-30,31,32] (ao (ao (a6 _))) ?_;apply J [144,372,144,226];refine eH rfl rfl rfl rfl (lss rfl rfl) ?_;apply J [217,144];refine b8.known 33 rfl (b':=false) (du U) ?_;apply J [226,304,298,471,163];refine eH rfl rfl rfl rfl (Wp (v:=(0:Int)) (pS rfl rfl U U) (by rw[show((i*sz:Nat):Int) %(sz:Int)=((i*sz %sz:Nat):Int)by simp,H];rfl)) ?_;apply J [527,217,144];refine b8.known 42 rfl (b':=false) (du U) ?_;apply J [304,298,329,163,226];refine eH rfl rfl rfl rfl (gN (i:=k) 296 2 rfl rfl rfl N Q) ?_;refine J [387] ?_;refine eH rfl rfl rfl rfl (dk rfl rfl (Q0 u)) ?_;apply J [226,304,298,471,163];refine eH rfl rfl rfl rfl (Wp (v:=(i:Int)) (ln rfl rfl U U U) (by rw[show((i*sz:Nat):Int)/(sz:Int)=((i*sz/sz:Nat):Int)by simp,w])) ?_;refine b8.bk (fN 2 rfl (s4 u)) ?_;apply J [236];apply au (Dd (B aD) (960/sz) f i U);refine J [278] ?_;rw[D];apply J [472,217,74,72,44,459,11,11,137];refine bI rfl rfl rfl (Wp (v:=(i:Int)) (ln rfl rfl U U U) (by rw[show((i*sz:Nat):Int)/(sz:Int)=((i*sz/sz:Nat):Int)by simp,w])) ?_;apply J [365,365,269,147];exact b7.i () [_,_,_] ⟨rfl,rfl,rfl,trivial⟩ rfl trivial (ay (⟨B,ad,cap⟩:qb) d (bw (bw (cX 0 0 ⟨aD,f⟩ rfl rfl rfl (λ_ _=>rfl) (s4 u).symm (ao (a6 _))))))
theorem SI(bd sz:Nat)(L:List cj)(k aD i:Nat)(f:Nat->Bool)(u:L[k]? =some ⟨aD,f⟩)(d:f i=true):bt 82 [ae b,aa ((aD*1024+64+i*sz:Nat):Int)] be [lh b bd sz L] (.bool true) [lh b bd sz L]:=by apply aH Tryz.func82 Tryz.ntmps82;intro F _;apply J [1,128,32];apply au (HE b bd sz L k aD i f u d);apply J [5,275,296,73,184,59,66];exact hH
def Bi(sz:Nat):Option (Nat×Nat×List cj×Bool)->Int
  | some y=>((y.1*1024+64+y.2.1*sz:Nat):Int)
  | none=>0
def tN(L:List cj):Option (Nat×Nat×List cj×Bool)->List cj
  | some y=>y.2.2.1
  | none=>L
def tK(cl:List Nat):Option (Nat×Nat×List cj×Bool)->List Nat
  | some y=>if y.2.2.2=true then y.1::cl else cl
  | none=>cl
def J1(sz top:Nat)(cl:List Nat)(L:List cj):Option (Nat×Nat×List cj×Bool)->Prop
  | some y=>yH sz top cl L y
  | none=>2^top<=cl.length
theorem SM(bd top sz:Nat)(L:List cj)(cl:List Nat)(b2:top<=20)(co:∀q∈L,q.aD∈cl):bK 180 [ae b] c5 [lh b bd sz L,ke bd top cl] (λy:Option (Nat×Nat×List cj×Bool)=>.tuple #[aa (Bi sz y),aa (qw y)]) (λy=>J1 sz top cl L y) (λy=>[lh b bd sz (tN L y),ke bd top (tK cl y)]):=by
 apply aH Tryz.func180 Tryz.ntmps180;intro F a3;apply J [13];haveI:cw F:=⟨a3⟩;refine ab.open 0 rfl (λce b6=>?_);obtain⟨B,ad,cap⟩:=ce;have w:=b6;apply J [82];dsimp only at w⊢;have hs:=w.aZ;have hm:=w.many;have aQ:=w.len;have a9:=xw B L;have bf:=Bf B L;apply J [24,243,101,122,97,390,112];refine ab.loop (ι:=Nat) (λj=>j<=L.length/\∀N H,N<j->L[N]? =some H->wD (960/sz) H) (λj=>[(0,ae b),(17,.slice ad L.length cap),(18,aa L.length),(19,aa ((j:Nat):Int))]) (λj=>ag [aj b 293 [ae bd,aa sz,.slice ad L.length cap],aX 296 2 ad L.length cap (fr B L),b3 (λp:cj=>gE (B p.aD) (960/sz) p.f) L,ke bd top cl,F]) (λj=>L.length-j) 0 ⟨Vl _,λN H h=>absurd h (Nat.not_lt_zero _)⟩ bG (ao (ao (ao (ao (ao (a6 _)))))) ?_;rintro j ⟨bE,eF⟩ cy;dsimp only[cx]at bE eF⊢;apply J [43];apply Vh rfl<;>intro cp;have bS:j<L.length:=U
 obtain⟨⟨aD,f⟩,D⟩:∃ho,L[j]? =some ho:=⟨L[j],Ve bS⟩;have cu:0<(fr B L).length:=U
 have P:=w.aD _ (Vi D);dsimp only at P;refine J [245,523] ?_;refine q rfl rfl (gp (vs:=[_,_]) 2 rfl rfl (xx D) rfl am) ?_;refine J [0,528] ?_;intro ch;apply J [103,99,65];refine aY.bk (fN 3 rfl (s4 D)) ?_;refine e rfl ?_;apply bb (Dc (B aD) (960/sz) f false 0 U U);intro y C;apply J [16];cases y with|none=>?_|some i=>?_
 have C:tz f false (960/sz) 0:=C;dsimp only[qQ];refine J [63,410,115,114] ?_;exact⟨rfl,(j+1),⟨by omega,λN H cn ah=>by by_cases e:N=j;subst e;rw[D]at ah;cases ah;intro i2 bt;have:=C i2 (Vl _) bt;simpa using this;exact eF N H U ah⟩,U,⟨rfl,rfl,rfl,rfl,trivial⟩,(cO (cO (cX 0 0 ⟨aD,f⟩ rfl rfl rfl (λ_ _=>rfl) (s4 D).symm (bN (bN (a6 _))))))⟩;have C:yx f false (960/sz) 0 i:=C;dsimp only[qQ];have Q:=C.2.1;have bD:=C.2.2.1;have W:=w.place Q;have b1:kM f i true=ff f i:=by grind[BD]
 have O:lA (960/sz) L (L.take j++⟨aD,ff f i⟩::L.drop (j+1)) aD i:=.old _ _ f (tJ D) rfl bD Q;apply J [63,410,2];refine Vh rfl (λaL=>?_) (λaL=>absurd U aL);refine J [111,68] ?_;intro an;refine e rfl ?_;refine aK (qr (B aD) (960/sz) f i true (cJ an) 1 Q U) rfl eD.p ⟨_,bj.rd (ad:=some ⟨an,0,none⟩)⟩ ?_;intro _ _;apply J [78,2,37,220,28];apply au (HD b bd sz aD i (.slice ad L.length cap) (B aD) W P);apply J [78,173,165];rw[b1];have V:=w.m1 O P;exact cQ (some (aD,i,L.take j++⟨aD,ff f i⟩::L.drop (j+1),false)) ⟨O,⟨GP _ D,Vq.2 ⟨_,Vi D,rfl⟩⟩,Q⟩ (ay (⟨B,ad,cap⟩:qb) V (by dsimp only[tN,tK];rw[Fz _ D,GH _ _ D];exact(ao (eK (cX 0 1 ⟨aD,ff f i⟩ rfl rfl rfl (λ_ _=>rfl) List.perm_middle.symm ai)))));refine ab.nk 1 rfl (λ_ be bc=>?_);obtain rfl:j=L.length:=U
 have bi:∀H∈L,wD (960/sz) H:=λH h=>(by grind[Wb]);apply J [19,40,0];apply bb (C6 bd top cl);intro cg a0;apply J [10];cases cg with|none=>?_|some aD=>?_
 have bl:2^top<=cl.length:=a0;dsimp only[vg,qw,mQ];apply J [134,34,58,348];exact cQ none bl (ay (⟨B,ad,cap⟩:qb) w ai);have P:aD<2^top/\aD∉cl:=a0;dsimp only[vg,qw,mQ];obtain⟨W,bY⟩:=P;have b0:=oR (k:=0) b2;rw[Nat.sub_zero]at b0;have aW:aD<1048576:=U
 have bW:∀q∈L,q.aD≠aD:=cr
 have ck:kM (λ_=>false) 0 true=λj=>decide (j=0):=(by trivial);apply J [134,211,105];apply au (SJ b bd sz (.slice ad L.length cap) hs);apply J [10,0];refine aK (De (960/sz) U) rfl (eC _) trivial ?_;intro u _;apply J [14,3];refine q rfl rfl (ek (cs:=[.pointer _,.int _ _]) rfl) ?_;refine J [0,528] ?_;intro ci;refine J [103,99,195,152] ?_;intro aq;refine e rfl ?_;refine aK (qr u (960/sz) (λ_=>false) 0 true (cJ aq) 1 U U) rfl eD.p ⟨_,bj.rd (ad:=some ⟨aq,0,none⟩)⟩ ?_;intro _ _;apply J [78,2,32];refine aK (HC b bd sz B L ad cap ((aD:Int)*1024) w.inv.kl aQ) rfl eD.p ⟨_,bj.rd (ad:=ad)⟩ ?_;intro y C;apply J [78];obtain⟨bR,bp⟩:=KH C w.inv.kl bW;have cc:=C.1;clear C;generalize y.2=cv;generalize y.1=d at*;apply J [286,73,104];refine ab.draw _ [11] [0,1,2,3,4,5,6,-7,-8,9,10,-11] a1 a1 (ao (bw (a6 _))) ?_;apply J [77,185,11,228,15];refine bs (E:=296) (sz:=2) (cs:=[ae u,aa ((aD:Int)*1024)]) rfl ?_;intro a2;refine J [45] ?_;apply bb (Q2 ad (cJ a2) cap 1 L.length d (fr B L) [ae u,aa ((aD:Int)*1024)] cc aQ a9 rfl be bc U bf rfl);intro z _;refine J [293,9,89,366,91,368,74,37,220,0] ?_;refine aK (HD b bd sz aD 0 (.slice z.1 (L.length+1) z.2) u U aW) rfl (ed 0 rfl (eC _)) trivial ?_;intro _ _;apply J [78,96];have O:lA (960/sz) L (L.take d++⟨aD,λj=>decide (j=0)⟩::L.drop d) aD 0:=.new _ _ (V6 _ _).symm rfl rfl bi bR bp;have V:=w.m1 O aW;have a4:(L.take d++⟨aD,λj=>decide (j=0)⟩::L.drop d).length=L.length+1:=cr
 have eb:((L.take d++⟨aD,λj=>decide (j=0)⟩::L.drop d).map (·.aD)).Perm (aD::L.map (·.aD)):=(by grind[V6]);have cq:∀q∈L,(λx=>if x=aD then u else B x) q.aD=B q.aD:=b4
 have av:∀M:List cj,(∀q∈M,q∈L)->fr B M=fr (λx=>if x=aD then u else B x) M:=λM bO=>(by grind[GG]);have a8:(fr B L).take (d*2)++[ae u,aa ((aD:Int)*1024)]++(fr B L).drop (d*2)=fr (λx=>if x=aD then u else B x) (L.take d++⟨aD,λj=>decide (j=0)⟩::L.drop d):=(by rw[GI,GF,xv,av _ (λq Z=>List.mem_of_mem_take Z),av _ (λq Z=>List.mem_of_mem_drop Z),VJ];congr 1;rw[fr,fr,VD,uO,ax rfl]);have ar:gE u (960/sz) (kM (λ_=>false) 0 true)=(λp:cj=>gE ((λx=>if x=aD then u else B x) p.aD) (960/sz) p.f) ⟨aD,λj=>decide (j=0)⟩:=b4
 have aB:∀q∈L,(λp:cj=>gE (B p.aD) (960/sz) p.f) q=(λp:cj=>gE ((λx=>if x=aD then u else B x) p.aD) (960/sz) p.f) q:=b4
 have a5:((⟨aD,λj=>decide (j=0)⟩:cj)::L).Perm (L.take d++⟨aD,λj=>decide (j=0)⟩::L.drop d):=(by(conv=>lhs;rw[<-V6 d L]);exact List.perm_middle.symm);generalize cH:(λp:cj=>gE ((λx=>if x=aD then u else B x) p.aD) (960/sz) p.f)=G at ar aB;exact cQ (some (aD,0,L.take d++⟨aD,λj=>decide (j=0)⟩::L.drop d,true)) ⟨O,⟨eb,bY,W⟩,cB⟩ (ay (⟨(λx=>if x=aD then u else B x),z.1,z.2⟩:qb) V (by dsimp only[tN,tK];rw[a4,<-a8,cH];exact(ao (ao (cX 0 3 ⟨aD,λj=>decide (j=0)⟩ rfl rfl ar aB a5 ai)))))
theorem SH(bd sz:Nat)(L:List cj)(k aD i:Nat)(f:Nat->Bool)(d:L[k]? =some ⟨aD,f⟩)(C:f i=true)(top:Nat)(cl:List Nat)(aq:aD∈cl):bK 240 [ae b,aa ((aD*1024+64+i*sz:Nat):Int)] be [lh b bd sz L,ke bd top cl] (λ_:List cj×Bool=>aa 0) (λy=>Cz sz L aD i y) (λy=>[lh b bd sz y.1,ke bd top (if y.2=true then cl.erase aD else cl)]):=by
 apply aH Tryz.func240 Tryz.ntmps240;intro F _;apply J [13,36,42,32];apply au (HE b bd sz L k aD i f d C);apply J [7,275,296,73,73,104,59,90,115];refine ab.open 0 rfl (λaQ aB=>?_);obtain⟨B,ad,cap⟩:=aQ;have u:=aB;apply J [82];dsimp only at u⊢;refine ab.nk 1 rfl (λ_ V Q=>?_);have H:=u.inv.bd _ (Vi d) i C;have ar:=u.aD _ (Vi d);have hm:=u.many;dsimp only at ar H;have ah:=(Vo.1 d).1;have an:=u.len;have P:=xw B L;have W:=Bf B L;have a3:0<(fr B L).length:=U
 have av:kM f i false=ff f i:=by grind[BD]
 refine J [4,97,3,523] ?_;refine q rfl rfl (gp (vs:=[_,_]) 2 rfl rfl (xx d) rfl am) ?_;refine J [0,528] ?_;intro aW;refine J [103,99,65,68] ?_;intro E;refine aY.bk (fN 4 rfl (s4 d)) ?_;refine e rfl ?_;apply ew (qr (B aD) (960/sz) f i false (cJ E) 1 H U) ⟨_,bj.rd (ad:=some ⟨E,0,none⟩)⟩;apply J [78];rw[av];apply J [29,111,0];apply bb (KE (B aD) (960/sz) (ff f i) U);intro c a2;apply J [78,244];apply Vh rfl<;>intro a0;have aL:∀j,ff f i j=false:=b4
 have w:mN (960/sz) L (L.take k++L.drop (k+1)) aD i:=.gone _ _ f (tJ d) rfl C λj _ Z=>by have:=aL j;rwa[ff,al Z]at this
 have D:=u.nm w;have N:(L.take k++L.drop (k+1)).length=L.length-1:=cr
 have O:(fr B L).take (k*2)++(fr B L).drop ((k+1)*2)=fr B (L.take k++L.drop (k+1)):=by rw[GI,GF,xv]
 have eb:(L.map (·.aD)).Perm (aD::(L.take k++L.drop (k+1)).map (·.aD)):=(by have:=(s4 d).map (·.aD);trivial);refine ab.seq ?_;refine cD [0,1,2,3,4,5,-6] (cO (cO (a6 _))) ?_;apply J [50,287];apply au (C4 bd top cl aD aq);refine J [293,113,39,175,55,120,154,0] ?_;apply au (Q1 ad cap L.length k (fr B L) ah an P V Q W);apply J [78,80,291,279,119];exact bu (L.take k++L.drop (k+1),true) ⟨w,eb⟩ (ay (⟨B,ad,cap⟩:qb) D (by dsimp only;rw[N,<-O];exact ai));have w:mN (960/sz) L (L.take k++⟨aD,ff f i⟩::L.drop (k+1)) aD i:=.stay _ _ f (tJ d) rfl C;have D:=u.nm w;apply J [4,199];exact bu (L.take k++⟨aD,ff f i⟩::L.drop (k+1),false) ⟨w,GP _ d⟩ (ay (⟨B,ad,cap⟩:qb) D (by dsimp only;rw[Fz _ d,GH _ _ d];exact(eK (eK (cX 0 0 ⟨aD,ff f i⟩ rfl rfl rfl (λ_ _=>rfl) List.perm_middle.symm ai)))))
end Go.Proofs.Q
namespace Go.QM
open Go
section
variable {r : Option Nat} {P : Program} {N : Nat} {ah : Env} {A : av} {K : Value → av → Prop}
variable {d : Option Tmp} {ty : TypeId} {ps : String} {bl : Array Edge} {g : Option (Nat × Bool)} {t : TypeId} {x : Operand}
theorem Bu{hs:List av}(H e:TypeId){b:Nat}{es:Array MapEntry}{aK:Nat}(D:mo P t H e=true)(E:bf ah x=.map (some b))[hr:fL (ag hs) b (.map es aK)]
    (k:∀i,K (ae i) (ag (obj i (.mapIter (some b) aK #[] aK)::hs))):cn r P ah ⟨d,.range t x,ty,ps,bl,g⟩ (ag hs) K:=
  cn.run rfl λw u=>⟨ae w.heap.size,w.alloc (.mapIter (some b) aK #[] aK),_,.inl (by have C:w.heap[b]? =some (.map es aK):=hr.rd.sat u;simp[execOp,Instr.range,E,oO D,MapKept.run_getObj_map C]),⟨rfl,rfl,rfl,by simp⟩,oU _ u,k w.heap.size⟩
theorem A4(i:Nat){hs rest:List av}{it b:Nat}{es:Array MapEntry}{aK:Nat}{seen:Array Nat}(H:bf ah x=ae it)(Q:eU i hs=some (obj it (.mapIter (some b) aK seen aK),rest))
    (hr:Rd (ag rest) b (.map es aK)) (O:jd es aK)
    (bS:(∀e∈es.toList,e.born∈seen)->K (.tuple #[.bool false]) (ag (obj it (.mapIter (some b) aK seen aK)::rest)))
    (aq:∀e∈es.toList,e.born∉seen->K (.tuple #[.bool true,e.key,e.val]) (ag (obj it (.mapIter (some b) aK (seen.push e.born) aK)::rest))):
    cn r P ah ⟨d,.next x false,ty,ps,bl,g⟩ (ag hs) K:=by
 refine cn.run rfl λw an=>?_;have u:=an.bk (fC Q);have E:w.heap[it]? =some (.mapIter (some b) aK seen aK):=(iB (jf it _)).sat u;have N:w.heap[b]? =some (.map es aK):=(vJ hr).sat u;rcases run_next_at (P:=P) w ty it b aK aK seen es aK E N O.1 (Nat.le_refl _)with⟨ar,D⟩|⟨e,he,cI,hw,D⟩;refine⟨.tuple #[.bool false],w,_,.inl ?_,fv.refl w,u,bS λe he=>?_⟩;simp only[execOp,H];exact(by simp[D]);by_cases hm:e.born∈seen;trivial;exfalso;have C:e∈(leftOf es seen).toList:=by grind[leftOf]
 simp_all;have C:e∈es.toList/\e.born∉seen:=by grind[leftOf]
 refine⟨.tuple #[.bool true,e.key,e.val],_,_,.inl (by simp only[execOp,H];exact(by simp[D];rfl)),?_,?_,aq e C.1 C.2⟩;rcases hw with rfl|rfl<;>exact⟨rfl,rfl,rfl,by simp[ChangeMaps.setBlock]⟩;have Z:sat cI (sep (obj it (.mapIter (some b) aK seen aK)) (ag rest)):=by rcases hw with rfl|rfl<;>exact u
 have au:cI.heap[it]? =some (.mapIter (some b) aK seen aK):=by rcases hw with rfl|rfl<;>exact E
 have W:it<cI.heap.size:=cr
 exact u0 Z (by show(cI.heap.setIfInBounds it _)[it]? =_;rw[Array.getElem?_setIfInBounds_self_of_lt W]) (λj V=>by show(cI.heap.setIfInBounds it _)[j]? =_;rw[Array.getElem?_setIfInBounds_ne (Ne.symm V)])
theorem zu{it b:Nat}{es:Array MapEntry}{aK since:Nat}{seen:Array Nat}(e:MapEntry)(E:bf ah x=ae it)[D:fL A it (.mapIter (some b) since (seen.push e.born) aK)](hr:Rd A b (.map es aK))
    (he:e∈es.toList) (C:jd es aK):bF P ah ⟨d,.entry x,ty,ps,bl,g⟩ A (.tuple #[e.key,e.val]):=λw u=>by
  have:=run_entry_at (P:=P) w it b since seen es aK e (D.rd.sat u) (hr.sat u) he C.2
  simp only[execOp,E]
  simp[this]
end
def n8(e:MapEntry):Int:=match e.key with
  | .int _ k=>k
  | _=>0
theorem E8{m:List (Int×Value)}{es:Array MapEntry}(h:es.toList.map (λe=>(e.key,e.val))=m.map (λt=>(encI t.1,t.2))):(∀e∈es.toList,e.key=aa (n8 e))/\es.toList.map n8=m.map (·.1):=by have d:es.toList.map (·.key)=m.map λt=>encI t.1:=(by have:=congrArg (List.map Prod.fst) h;grind[Function.comp_def]);have w:∀e∈es.toList,e.key=aa (n8 e):=λe he=>(by(have C:e.key∈es.toList.map (·.key):=by grind);rw[d]at C;obtain⟨u,_,hu⟩:=Vq.1 C;rw[n8,<-hu];rfl);refine⟨w,?_⟩;have D:es.toList.map (λe=>encI (n8 e))=m.map λt=>encI t.1:=(by rw[<-d];exact Wr λe he=>(w e he).symm);have E:=congrArg (List.map λv=>match v with|Value.int _ k=>k|_=>0) D;simpa[X3,Function.comp_def,encI]using E
theorem all_keys{es:Array MapEntry}{aK:Nat}(w:jd es aK){bD:List MapEntry}(P:∀e∈bD,e∈es.toList)(C:(bD.map (·.born)).Nodup)(Q:∀e∈es.toList,e.born∈bD.map (·.born)):bD.Perm es.toList:=by have inj:∀a∈es.toList,∀c∈es.toList,a.born=c.born->a=c:=λa D c E e=>(by obtain⟨i,H⟩:=Wb D;obtain⟨j,N⟩:=Wb E;obtain⟨O,ba⟩:=Vo.1 H;obtain⟨a2,bC⟩:=Vo.1 N;have V:=List.pairwise_iff_getElem.1 w.2;grind);have W:bD.Nodup:=(Yv.1 C).imp λu d=>u (congrArg _ d);have Z:es.toList.Nodup:=(Yv.1 w.2).imp λu d=>u (congrArg _ d);grind[List.perm_ext_iff_of_nodup]
end Go.QM
namespace Go.Proofs.Q.aB
open Go Go.QM
structure bY where
  id:Int
  par:Int
  lim:Int
  fU:Int
def ih:List Int->Int
  | []=>0
  | x::l=>x+ih l
theorem HR(l m:List Int):ih (l++m)=ih l+ih m:=by induction l with|nil=>simp[ih]|cons x l d=>rw[List.cons_append,ih,ih,d];omega
theorem S3{l m:List Int}(h:l.Perm m):ih l=ih m:=by induction h with|nil=>rfl|cons x _ w=>rw[ih,ih,w]|swap x y l=>simp only[ih];omega|trans _ _ d u=>exact d.trans u
theorem HS{l:List Int}(h:∀x∈l,0<=x):0<=ih l:=by induction l with|nil=>exact Int.le_refl _|cons x l u=>have:=h x cG;have:=u (λy d=>h y (by simp[d]));rw[ih];omega
theorem S2{l:List Int}{b:Int}(h:∀x∈l,x<=b):ih l<=b*l.length:=by induction l with|nil=>simp[ih]|cons x l u=>have:=h x cG;have:=u (λy d=>h y (by simp[d]));rw[ih,List.length_cons,Int.natCast_add,Int.mul_add];omega
def mm(L:List bY)(x:Int):List bY:=L.filter λt=>decide (t.par=x)
def fp(L:List bY)(x:Int):Int:=ih ((mm L x).map (·.lim))
def gO(L:List bY)(x:Int):Int:=((mm L x).length:Int)
def dj(L:List bY)(x:Int):Prop:=∃t∈L,t.id=x
instance (L:List bY)(id:Int):Decidable (dj L id):=inferInstanceAs (Decidable (∃t∈L,t.id=id))
def qz(L:List bY)(id:Int):Option bY:=L.find? λt=>decide (t.id=id)
def iA(L:List bY):Prop:=(L.map (·.id)).Nodup
theorem iA.perm{S T:List bY}(h:iA S)(p:T.Perm S):iA T:=(p.map _).nodup_iff.2 h
variable{t:bY}
theorem iA.inj{S:List bY}(h:iA S){u:bY}(C:t∈S)(hu:u∈S)(e:t.id=u.id):t=u:=by obtain⟨L,w⟩:=fB C;rcases Vt.1 (w.mem_iff.1 hu)with d|d;simp_all;exact absurd (Vq.2 ⟨u,d,e.symm⟩) (Vy.1 (h.perm w.symm)).1
theorem ME{S:List bY}(h:iA S)(d:t∈S):qz S t.id=some t:=by rw[qz];cases aA:S.find? λu=>decide (u.id=t.id)with|none=>rw[W9]at aA;exact absurd (da rfl) (aA t d)|some u=>have w:=List.find?_some aA;have C:=List.mem_of_find?_eq_some aA;rw[h.inj C d (by simpa using w)]
theorem MD{S:List bY}{id:Int}(h:¬dj S id):qz S id=none:=by rw[qz,W9];intro u hu;simp only[decide_eq_true_eq];exact λe=>h ⟨u,hu,e⟩
def m8(L:List bY)(id:Int):Int:=match qz L id with
  | some t=>t.fU+fp L id
  | none=>0
def nw(L:List bY)(id:Int):Int:=match qz L id with
  | some t=>t.lim
  | none=>0
def gh(L:List bY)(id:Int):Int:=match qz L id with
  | some t=>t.fU
  | none=>0
def lk(L:List bY)(id:Int):Int:=match qz L id with
  | some t=>t.par
  | none=>-1
def fR(L:List bY)(id c:Int):List bY:=L.map λt=>if t.id=id then⟨t.id,t.par,t.lim,c⟩else t
def kH(L:List bY)(id:Int):List bY:=L.filter λt=>decide (t.id≠id)
def fT(L:List bY)(gl p lim:Int):List bY×Int×Int×Int:=
  if ¬dj L p then(L,gl,0,6)else if lim<0 then(L,gl,0,1)else if ¬lim<=nw L p-m8 L p then(L,gl,0,5)else if L.length=32 then(L,gl,0,11)else(L++[⟨gl,p,lim,0⟩],gl+1,gl,0)
def iD(L:List bY)(id:Int):List bY×Int:=
  if ¬dj L id then(L,6)else if id=0 then(L,1)else if m8 L id≠0\/0<gO L id then(L,12)else(kH L id,0)
def df(L:List bY)(id n:Int):List bY×Int:=
  if ¬dj L id then(L,6)else if n<0 then(L,1)else if ¬n<=nw L id-m8 L id then(L,5)else(fR L id (gh L id+n),0)
def ep(L:List bY)(id n:Int):List bY×Int:=
  if ¬dj L id then(L,6)else if n<0\/gh L id<n then(L,1)else(fR L id (gh L id-n),0)
structure eV(L:List bY)(gl:Int):Prop where
  bA:iA L
  kl:(L.map (·.id)).Pairwise (· <·)
  rg:∀t∈L,0<=t.id/\t.id<gl/\0<=t.lim/\t.lim<=1073741824/\0<=t.fU/\t.fU+fp L t.id<=t.lim
  root:dj L 0
  qR:∀t∈L,t.id=0->t.par=-1
  par:∀t∈L,t.id≠0->dj L t.par/\t.par<t.id
  len:L.length<=32
theorem Fp(S T:List bY)(p:Int):mm (S++T) p=mm S p++mm T p:=by simp[mm]
theorem uh(S T:List bY)(p:Int):fp (S++T) p=fp S p+fp T p:=by rw[fp,Fp,Wu,HR];rfl
theorem wX(S T:List bY)(p:Int):gO (S++T) p=gO S p+gO T p:=by rw[gO,Fp,List.length_append];rfl
theorem rz{p:Int}:fp [t] p=if t.par=p then t.lim else 0:=by by_cases h:t.par=p;rw[ax h,fp,mm,YT (by simpa using h)];simp[ih];rw[al h,fp,mm,Wx (by simpa using h)];rfl
theorem wY{p:Int}:gO [t] p=if t.par=p then 1 else 0:=by by_cases h:t.par=p;rw[ax h,gO,mm,YT (by simpa using h)];rfl;rw[al h,gO,mm,Wx (by simpa using h)];rfl
theorem Nu{S T:List bY}(h:S.Perm T)(p:Int):fp S p=fp T p:=S3 ((h.filter _).map _)
theorem O9{S T:List bY}(h:S.Perm T)(p:Int):gO S p=gO T p:=congrArg (λn:Nat=>(n:Int)) (h.filter _).length_eq
theorem xN(L:List bY)(id c:Int):(fR L id c).map (·.id)=L.map (·.id):=by rw[fR,X3];exact Wr λt _=>by simp only[Function.comp];split<;>rfl
variable{L:List bY}
theorem qX{id c x:Int}:dj (fR L id c) x↔dj L x:=by
 have h:∀S:List bY,dj S x↔x∈S.map (·.id):=by grind[dj]
 grind[xN]
theorem qW(L:List bY)(id c p:Int):fp (fR L id c) p=fp L p/\gO (fR L id c) p=gO L p:=by induction L with|nil=>exact⟨rfl,rfl⟩|cons t L D=>have e:fR (t::L) id c=(if t.id=id then⟨t.id,t.par,t.lim,c⟩else t)::fR L id c:=rfl;have d:=uh [if t.id=id then(⟨t.id,t.par,t.lim,c⟩:bY)else t] (fR L id c) p;have u:=uh [t] L p;have w:=wX [if t.id=id then(⟨t.id,t.par,t.lim,c⟩:bY)else t] (fR L id c) p;have C:=wX [t] L p;rw[List.singleton_append]at d u w C;rw[e,d,u,w,C,D.1,D.2,rz,rz,wY,wY];constructor<;>(congr 1;split<;>rfl)
variable{gl:Int}
theorem wI(h:eV L gl)(x:Int):0<=fp L x:=HS λy u=>by
 obtain⟨t,d,rfl⟩:=Vq.1 u
 exact(h.rg t (VE.1 d).1).2.2.1
theorem Fk(L:List bY)(x:Int):0<=gO L x/\gO L x<=L.length:=by grind[mm,gO]
theorem iw(h:iA L)(d:t∈L):m8 L t.id=t.fU+fp L t.id/\nw L t.id=t.lim/\gh L t.id=t.fU/\lk L t.id=t.par:=by grind[m8,nw,gh,lk,ME]
theorem IE{id:Int}(h:¬dj L id):m8 L id=0/\nw L id=0/\gh L id=0/\lk L id=-1:=by grind[m8,nw,gh,lk,MD]
theorem Ev{L:List bY}{x:Int}(h:∀t∈L,t.par≠x):fp L x=0/\gO L x=0:=by
 have e:mm L x=[]:=by grind[mm,List.filter_eq_nil_iff]
 rw[fp,gO,e];exact⟨rfl,rfl⟩
theorem eV.GC(h:eV L gl)(d:t∈L):t.par<gl/\-1<=t.par/\t.par≠t.id:=by have C:=h.rg t d;by_cases e:t.id=0;have:=h.qR t d e;omega;obtain⟨⟨u,hu,w⟩,D⟩:=h.par t d e;have:=h.rg u hu;omega
theorem eV.start{lim:Int}(h:0<=lim/\lim<=1073741824):eV [⟨0,-1,lim,0⟩] 1 where
 bA:=by simp[iA]
 kl:=by simp
 rg:=λt d=>by
  rw[Vf.1 d];have:fp [(⟨0,-1,lim,0⟩:bY)] 0=0:=by rw[rz,al cB]
  dsimp only;rw[this];omega
 root:=⟨_,Vf.2 rfl,rfl⟩
 qR:=λt d _=>by rw[Vf.1 d]
 par:=λt d an=>by rw[Vf.1 d]at an;exact absurd rfl an
 len:=by simp
theorem eV.add(h:eV L gl){p lim:Int}(O:dj L p)(V:0<=lim)(aA:lim<=nw L p-m8 L p)(ah:L.length≠32):eV (L++[⟨gl,p,lim,0⟩]) (gl+1):=by
 obtain⟨u,hu,rfl⟩:=O;have P:=h.rg u hu;obtain⟨H,N,_⟩:=iw h.bA hu;rw[H,N]at aA;have Z:=wI h u.id;have aq:fp L gl=0:=(Ev λt d=>by have:=h.GC d;omega).1;have D:∀x,dj L x->dj (L++[(⟨gl,u.id,lim,0⟩:bY)]) x:=by grind[dj]
 have E:∀x∈L.map (·.id),x<gl:=λx Q=>(by obtain⟨t,d,rfl⟩:=Vq.1 Q;exact(h.rg t d).2.1);have an:0<=gl:=U
 refine⟨?_,?_,λt d=>?_,D 0 h.root,λt d e=>?_,λt d e=>?_,?_⟩;rw[iA,Wu,List.nodup_append];exact⟨h.bA,by simp,λa w c C e=>by have:=E a w;simp only[VO,Xa,Vf]at C;omega⟩;rw[Wu,List.pairwise_append];exact⟨h.kl,by simp,λa w c C=>by have:=E a w;simp only[VO,Xa,Vf]at C;omega⟩;rw[uh,rz];dsimp only;rcases Vg.1 d with d|d;have W:=h.rg t d;by_cases e:u.id=t.id;have:=h.bA.inj hu d e;grind;omega;grind;rcases Vg.1 d with d|d;exact h.qR t d e;grind;rcases Vg.1 d with d|d;exact⟨D _ (h.par t d e).1,(h.par t d e).2⟩;rw[Vf.1 d];exact⟨D _ ⟨u,hu,rfl⟩,P.2.1⟩;have:=h.len;grind
theorem xp{M:List bY}(h:iA L)(w:L.Perm (t::M)):(kH L t.id).Perm M:=by have d:=w.filter λu=>decide (u.id≠t.id);rw[Wx cG]at d;have C:M.filter (λu=>decide (u.id≠t.id))=M:=List.filter_eq_self.2 λu hu=>(by have:=(Vy.1 (h.perm w.symm)).1;simp_all);rw[C]at d;exact d
theorem Gq(h:iA L)(d:t∈L)(x:Int):fp (kH L t.id) x=fp L x-(if t.par=x then t.lim else 0)/\gO (kH L t.id) x=gO L x-(if t.par=x then 1 else 0):=by obtain⟨M,bO⟩:=fB d;have w:=xp h bO;have u:=uh [t] M x;have a2:=wX [t] M x;grind[rz,wY,Nu,O9]
theorem nB{x:Int}:t∈kH L x↔t∈L/\t.id≠x:=by simp[kH]
theorem Qu(h:iA L)(d:t∈L):(kH L t.id).length+1=L.length:=by obtain⟨M,bO⟩:=fB d;rw[(xp h bO).length_eq,bO.length_eq];rfl
theorem Pa{L:List bY}{x:Int}(h:¬0<gO L x):∀t∈L,t.par≠x:=λt d e=>h (by
 have:t∈mm L x:=VE.2 ⟨d,by simpa using e⟩
 have:=List.length_pos_of_mem this
 rw[gO];omega)
theorem eV.off(h:eV L gl)(w:t∈L)(C:t.id≠0)(E:¬0<gO L t.id):eV (kH L t.id) gl where
 bA:=h.bA.sublist (List.filter_sublist.map _)
 kl:=h.kl.sublist (List.filter_sublist.map _)
 rg:=λu hu=>by
  have N:=h.rg u (nB.1 hu).1
  have O:=(h.rg t w).2.2.1
  rw[(Gq h.bA w u.id).1]
  split<;>omega
 root:=by
  obtain⟨r,H,e⟩:=h.root
  exact⟨r,nB.2 ⟨H,by rw[e];exact λd=>C d.symm⟩,e⟩
 qR:=λu hu=>h.qR u (nB.1 hu).1
 par:=λu hu e=>by
  obtain⟨⟨v,hv,d⟩,D⟩:=h.par u (nB.1 hu).1 e
  have:=Pa E u (nB.1 hu).1
  exact⟨⟨v,nB.2 ⟨hv,by rw[d];exact this⟩,d⟩,D⟩
 len:=Nat.le_trans (List.length_filter_le _ _) h.len
theorem ta{L:List bY}{id c:Int}{u:bY}:u∈fR L id c↔∃t∈L,u=if t.id=id then⟨t.id,t.par,t.lim,c⟩else t:=by grind[fR]
theorem eV.set(h:eV L gl)(C:t∈L){c:Int}(D:0<=c)(E:c+fp L t.id<=t.lim):eV (fR L t.id c) gl where
 bA:=by rw[iA,xN];exact h.bA
 kl:=by rw[xN];exact h.kl
 rg:=λu hu=>by obtain⟨v,hv,rfl⟩:=ta.1 hu;have w:=h.rg v hv;by_cases e:v.id=t.id;have:=h.bA.inj hv C e;subst this;rw[ax rfl,(qW L _ c _).1];dsimp only;omega;rw[al e,(qW L _ c _).1];exact w
 root:=qX.2 h.root
 qR:=λu hu e=>by obtain⟨v,hv,rfl⟩:=ta.1 hu;split at e;rename_i d;rw[ax d];exact h.qR v hv e;rename_i d;rw[al d];exact h.qR v hv e
 par:=λu hu e=>by obtain⟨v,hv,rfl⟩:=ta.1 hu;split at e;rename_i d;rw[ax d];exact⟨qX.2 (h.par v hv e).1,(h.par v hv e).2⟩;rename_i d;rw[al d];exact⟨qX.2 (h.par v hv e).1,(h.par v hv e).2⟩
 len:=by rw[fR,V5];exact h.len
theorem eV.KY(h:eV L gl)(p lim:Int):eV (fT L gl p lim).1 (fT L gl p lim).2.1:=by rw[fT];split;trivial;rename_i d;split;trivial;rename_i C;split;trivial;rename_i u;split;trivial;rename_i w;exact h.add (Vu.1 d) U (Vu.1 u) w
theorem eV.close(h:eV L gl)(id:Int):eV (iD L id).1 gl:=by rw[iD];split;trivial;rename_i d;obtain⟨t,D,rfl⟩:=Vu.1 d;split;trivial;rename_i u;split;trivial;rename_i w;exact h.off D u (λC=>w (.inr C))
theorem eV.K4(h:eV L gl)(id n:Int):eV (df L id n).1 gl:=by rw[df];split;trivial;rename_i D;obtain⟨t,d,rfl⟩:=Vu.1 D;obtain⟨u,w,C,_⟩:=iw h.bA d;have N:=h.rg t d;split;trivial;split;trivial;rename_i H E;rw[u,w]at E;rw[C];exact h.set d U U
theorem eV.Rx(h:eV L gl)(id n:Int):eV (ep L id n).1 gl:=by rw[ep];split;trivial;rename_i w;obtain⟨t,d,rfl⟩:=Vu.1 w;obtain⟨_,_,u,_⟩:=iw h.bA d;have D:=h.rg t d;split;trivial;rename_i C;rw[u]at C⊢;exact h.set d U U
end Go.Proofs.Q.aB
namespace Go.Proofs.Q.aB
open Go Go.QM
section
variable {α : Type} [DecidableEq α] {enc : α → Value} {f : α → Option Value} {n : Nat}
variable {r : Option Nat} {P : Program} {ah : Env} {K : Value → av → Prop}
variable {d : Option Tmp} {ty : TypeId} {ps : String} {bl : Array Edge} {g : Option (Nat × Bool)}
variable {t : TypeId} {x y z : Operand}
theorem N8{hs rest:List av}(u e:TypeId){b:Nat}{a:α}{v:Value}(D:mo P t u e=true)(C:dS P u enc)(E:bf ah x=.map (some b))(H:bf ah y=enc a)(hv:bf ah z=v)[O:sp hs b enc f n rest]
 (k:K undef (ag (bT enc b (fj f a v) (if(f a).isSome then n else n+1)::rest))):cn r P ah ⟨d,.insert t x y z,ty,ps,bl,g⟩ (ag hs) K:=λN w he hs=>by
 have h:=((lX (d:=d) (ty:=ty) (ps:=ps) (bl:=bl) (g:=g) u e D C E H hv k:cn r P ah ⟨d,.mapUpdate t x y z,ty,ps,bl,g⟩ (ag _) K) N w he hs).2
 refine⟨λ_ _=>trivial,?_⟩
 rw[rW _ rfl]at h⊢
 exact h
end
abbrev kO(A:Int->Nat)(L:List bY)(t:bY):av:=aj (A t.id) 194 [.int .i64 t.lim,.int .i64 t.fU,.int .i64 (fp L t.id),.int .i64 t.par,.int .i64 (gO L t.id)]
def kb(A:Int->Nat)(L:List bY):Int->Option Value:=λx=>if dj L x then some (.pointer (some ⟨A x,0,none⟩))else none
theorem zB{A:Int->Nat}{L:List bY}{x:Int}(h:dj L x):kb A L x=some (.pointer (some ⟨A x,0,none⟩)):=ax h
theorem Ee{A:Int->Nat}{L:List bY}{x:Int}(h:¬dj L x):kb A L x=none:=al h
structure oA where
  A:Int->Nat
  aF:Nat
def ez(b:Nat)(L:List bY)(gl:Int):av:=e7 λy:oA=>pure' (eV L gl) (ag [aj b 187 [.map (some y.aF),.int .i64 gl],bT QM.encI y.aF (kb y.A L) L.length,b3 (kO y.A L) L])
theorem sn{α:Type}{f:α->av}{b:Nat}{o:Obj}:∀{L:List α} {x:α},x∈L->Rd (f x) b o->Rd (b3 f L) b o
 | a::L,x,h,r=>by rcases Vt.1 h with rfl|h;exact iW r;exact lG (sn h r)
theorem xX{A:Int->Nat}{L:List bY}{t:bY}(h:t∈L):fL (b3 (kO A L) L) (A t.id) (.cells (Vz [aa t.lim,aa t.fU,aa (fp L t.id),aa t.par,aa (gO L t.id)]) 194 (0,0)):=⟨sn h (nb _ _ _)⟩
theorem S4{xs:List Int}{k:Nat}{x:Int}(h:xs[k]? =some x):ih (xs.take (k+1))=ih (xs.take k)+x:=by rw[List.take_add_one,h,Option.toList,HR];simp[ih]
theorem Ed(A:Int->Nat)(L:List bY)(t:bY)(b:Nat):kb (aP A t.id b) (L++[t])=fj (kb A L) t.id (ae b):=by funext y;simp only[kb,fj];by_cases e:y=t.id;rw[ax e,ax ⟨t,by simp,e.symm⟩,e,cm];rw[al e,bQ e];by_cases h:dj L y;rw[ax h,ax];obtain⟨u,hu,d⟩:=h;exact⟨u,by simp[hu],d⟩;rw[al h,al];rintro⟨u,hu,d⟩;rcases Vg.1 hu with hu|hu;exact h ⟨u,hu,d⟩;simp_all
theorem Mt(A:Int->Nat)(L:List bY)(x:Int):kb A (kH L x)=fZ (kb A L) x:=by funext y;simp only[kb,fZ];by_cases e:y=x;rw[ax e,al];rintro⟨u,hu,d⟩;exact(nB.1 hu).2 (d.trans e);rw[al e];by_cases h:dj L y;rw[ax h,ax];obtain⟨u,hu,d⟩:=h;exact⟨u,nB.2 ⟨hu,by rw[d];exact e⟩,d⟩;rw[al h,al];rintro⟨u,hu,d⟩;exact h ⟨u,(nB.1 hu).1,d⟩
theorem Ef(A:Int->Nat)(L:List bY)(x c:Int):kb A (fR L x c)=kb A L:=by grind[kb,qX]
variable(L:List bY)
theorem Ht(x c:Int):(fR L x c).length=L.length:=by rw[fR,V5]
theorem Hv{L M:List bY}{t:bY}(h:iA L)(bO:L.Perm (t::M))(c:Int):((⟨t.id,t.par,t.lim,c⟩:bY)::M).Perm (fR L t.id c):=by have d:=bO.map λu:bY=>if u.id=t.id then⟨u.id,u.par,u.lim,c⟩else u;rw[VO,ax rfl]at d;have w:M.map (λu:bY=>if u.id=t.id then(⟨u.id,u.par,u.lim,c⟩:bY)else u)=M:=(by(conv=>rhs;rw[<-List.map_id M]);refine Wr λu hu=>?_;have:=(Vy.1 (h.perm bO.symm)).1;simp_all);rw[w]at d;exact d.symm
theorem Hu{A:Int->Nat}{L:List bY}(x c:Int)(u:bY):kO A L u=kO A (fR L x c) u:=by dsimp only[kO];rw[(qW L x c u.id).1,(qW L x c u.id).2]
theorem eV.tL{L:List bY}{u:Int}(h:eV L u){t:bY}(d:t∈L):0<=t.lim/\t.lim<=1073741824/\0<=t.fU/\t.fU+fp L t.id<=t.lim/\0<=fp L t.id/\0<=gO L t.id/\gO L t.id<=32:=by have w:=h.rg t d;have C:=wI h t.id;have D:=Fk L t.id;have E:=h.len;omega
theorem Ro(d:Option Addr)(D:Nat)(xs:List Int)(u:∀x∈xs,0<=x/\x<=1073741824)(Q:xs.length<=1000):bt 150 [.slice d xs.length D] (λF=>∃E,cN F E d (ints xs)) [] (aa (ih xs)) []:=by
 apply aH Tryz.func150 Tryz.ntmps150;intro F ⟨E,H⟩;apply J [8];haveI:bj F d E (ints xs):=⟨H⟩;have ar:=ec xs;apply J [106,36,33,177];refine ab.loop (ι:=Nat) (λk=>k<=xs.length) (λk=>[(3,aa (ih (xs.take k))),(6,.slice d xs.length D),(7,aa xs.length),(8,aa ((k:Nat):Int))]) (λk=>ag [F]) (λk=>xs.length-k) 0 (Nat.zero_le _) bG (ao (a6 _)) ?_;rintro k N au;dsimp only[cx]at N⊢;apply J [43];apply Vh rfl<;>intro V;have O:k<xs.length:=U
 obtain⟨x,w⟩:∃x,xs[k]? =some x:=⟨xs[k],List.getElem?_eq_getElem O⟩;have W:0<(ints xs).length:=U
 have P:=S4 w;have aq:=u x (List.mem_of_getElem? w);have Z:=HS (l:=xs.take k) (λy C=>(u y (List.mem_of_mem_take C)).1);have ah:=S2 (l:=xs.take k) (λy C=>(u y (List.mem_of_mem_take C)).2);have an:(xs.take k).length<=k:=b4
 refine J [187] ?_;refine q rfl rfl (dk rfl rfl (hO w)) ?_;refine J [27,212,3,154,73,62] ?_;exact⟨rfl,(k+1),U,U,⟨by rw[P];rfl,rfl,rfl,rfl,trivial⟩,ai⟩;obtain rfl:k=xs.length:=by omega
 rw[List.take_length];apply J [19,133];exact j4
variable(b:Nat)
theorem G0(l c g pr k:Int)(u:0<=c/\c<=1073741824)(w:0<=g/\g<=1073741824):bt 102 [ae b] (λF=>Rd F b (.cells (Vz [aa l,aa c,aa g,aa pr,aa k]) 194 (0,0))) [] (aa (c+g)) []:=by apply aH Tryz.func102 Tryz.ntmps102;intro F d;apply J [8];haveI:fL F b (.cells (Vz [aa l,aa c,aa g,aa pr,aa k]) 194 (0,0)):=⟨d⟩;apply J [36];refine cD [0,1,2,3,4,5,6,7,-8,-9,10] (ao (a6 _)) ?_;refine J [137,185,15,294] ?_;intro ba;refine J [45] ?_;refine aK (Ro (cJ ba) _ [c,g] rL cG) rfl (eC _) ⟨_,bj.rd (ad:=some ⟨ba,0,none⟩)⟩ ?_;intro _ _;change aE _ _/\b8 _ _ _ _ _ _ _ _ _ _ (ag [_,_]);refine⟨ai,?_⟩;rw[show ih [c,g]=c+g by simp[ih]];apply J [181,147];exact dn
theorem GX(l c g pr k:Int)(u:0<=c/\c<=1073741824)(w:0<=g/\g<=1073741824)(n:Int)(C:0<=l/\l<=1073741824):bt 237 [ae b,aa n] (λF=>Rd F b (.cells (Vz [aa l,aa c,aa g,aa pr,aa k]) 194 (0,0))) [] (.bool (decide (n<=l-(c+g)))) []:=by apply aH Tryz.func237 Tryz.ntmps237;intro F d;apply J [8];haveI:fL F b (.cells (Vz [aa l,aa c,aa g,aa pr,aa k]) 194 (0,0)):=⟨d⟩;apply J [128,6];refine cD [0,1,2,3,4,5,-6,7,8,9] (ao (a6 _)) ?_;apply J [11,50,77,15];apply ew (G0 b l c g pr k u w) fL.rd;change aE _ _/\b8 _ _ _ _ _ _ _ _ _ _ (ag [_]);refine J [9,411] ?_;refine bI rfl rfl rfl (leq rfl rfl) ?_;apply J [269,147];exact dn
theorem xE(aF n:Nat)(d:Int)(A:Int->Nat)(L:List bY)(id:Int)(h:dj L id):bt 101 [ae b,aa id] be [aj b 187 [.map (some aF),aa d],bT QM.encI aF (kb A L) n] (.tuple #[.pointer (some ⟨(A id),0,none⟩),aa 0]) [aj b 187 [.map (some aF),aa d],bT QM.encI aF (kb A L) n]:=by apply aH Tryz.func101 Tryz.ntmps101;intro F _;apply J [13,24,153,153,29,129,156,100,129,53,300];refine q rfl rfl (kh 3 185 rfl rfl (dS.int rfl) rfl rfl) ?_;rw[zB h];apply J [57,42,37,166,30];exact tm
theorem xD(aF n:Nat)(d:Int)(A:Int->Nat)(L:List bY)(id:Int)(h:¬dj L id):bt 101 [ae b,aa id] be [aj b 187 [.map (some aF),aa d],bT QM.encI aF (kb A L) n] (.tuple #[.pointer none,aa 6]) [aj b 187 [.map (some aF),aa d],bT QM.encI aF (kb A L) n]:=by apply aH Tryz.func101 Tryz.ntmps101;intro F _;apply J [13,24,153,153,29,129,156,100,129,53,300];refine q rfl rfl (kh 3 185 rfl rfl (dS.int rfl) rfl rfl) ?_;rw[Ee h];apply J [57,101,2,58,166,123];exact tm
theorem GW(L:List bY)(C:Int)(id n:Int):bt 179 [ae b,aa id,aa n] be [ez b L C] (aa (df L id n).2) [ez b (df L id n).1 C]:=by
 apply aH Tryz.func179 Tryz.ntmps179;intro F _;apply J [1];refine ab.open 0 rfl (λW V=>?_);obtain⟨A,aF⟩:=W;have aw:=V;apply J [87];dsimp only at aw⊢;by_cases h:dj L id;obtain⟨t,w,rfl⟩:=h;have h:dj L t.id:=by grind[dj]
 obtain⟨E,H,N,Z⟩:=iw aw.bA w;have ah:=aw.tL w;obtain⟨M,bO⟩:=fB w;haveI:=xX (A:=A) w;apply J [98];apply au (xE b aF L.length C A L t.id h);apply J [17,60,72,347,38];apply Vh rfl<;>intro D;have hv:df L t.id n=(L,1):=by rw[df,al (λd=>d h),ax D]
 rw[hv];dsimp only;apply J [67];exact sf;apply J [46,28];apply ew (GX (A t.id) t.lim t.fU (fp L t.id) t.par (gO L t.id) U U n U) fL.rd;apply J [17,392,38];apply Vh rfl<;>intro O;have hv:df L t.id n=(L,5):=by rw[df,al (λd=>d h),al D,ax (by rw[E,H];exact O)]
 rw[hv];dsimp only;apply J [67];exact sf;have d:n<=t.lim-(t.fU+fp L t.id):=U
 have hv:df L t.id n=(fR L t.id (t.fU+n),0):=by rw[df,al (λd=>d h),al D,al (by rw[E,H];exact λP=>P d),N]
 rw[hv];dsimp only;have Q:eV (fR L t.id (t.fU+n)) C:=aw.set w U U;refine J [331,22,46,61,3,154,80,81,406,203,119] ?_;exact eZ (ay (⟨A,aF⟩:oA) Q (bw (b9 2 rfl (by dsimp only;rw[Ef,Ht]) (cX 0 0 (⟨t.id,t.par,t.lim,t.fU+n⟩:bY) rfl rfl (by dsimp only[kO];rw[(qW L t.id (t.fU+n) t.id).1,(qW L t.id (t.fU+n) t.id).2];rfl) (λu _=>Hu t.id (t.fU+n) u) (Hv aw.bA bO (t.fU+n)) (ao (a6 _))))));have hv:df L id n=(L,6):=ax h;rw[hv];dsimp only;apply J [98];apply au (xD b aF L.length C A L id h);apply J [17,60,210,84];exact Ci
theorem xF(L:List bY)(D:Int)(id n:Int):bt 181 [ae b,aa id,aa n] be [ez b L D] (aa (ep L id n).2) [ez b (ep L id n).1 D]:=by
 apply aH Tryz.func181 Tryz.ntmps181;intro F _;apply J [1];refine ab.open 0 rfl (λV Q=>?_);obtain⟨A,aF⟩:=V;have aw:=Q;apply J [87];dsimp only at aw⊢;by_cases h:dj L id;obtain⟨t,C,rfl⟩:=h;have h:dj L t.id:=by grind[dj]
 obtain⟨W,Z,H,ah⟩:=iw aw.bA C;have an:=aw.tL C;obtain⟨M,bO⟩:=fB C;haveI:=xX (A:=A) C;apply J [98];apply au (xE b aF L.length D A L t.id h);apply J [17,60,72,179];refine aY.split 22 rfl (λd=>?_) (λd=>?_);have d:=dz d;apply J [47,52,169,20];have hv:ep L t.id n=(L,1):=by rw[ep,al (λw=>w h),ax (.inl d)]
 rw[hv];dsimp only;apply J [67];exact sf;have d:=d6 d;apply J [12,140,367,261,160,207];apply Vh rfl<;>intro N;have hv:ep L t.id n=(L,1):=by rw[ep,al (λw=>w h),H,ax (.inr N)]
 rw[hv];dsimp only;apply J [67];exact sf;have hv:ep L t.id n=(fR L t.id (t.fU-n),0):=by rw[ep,al (λw=>w h),H,al (λO=>O.elim (λE=>d E) (λE=>N E))]
 rw[hv];dsimp only;have P:eV (fR L t.id (t.fU-n)) D:=aw.set C U U;refine J [331,22,46,61,3,219,80,81,406,203,119] ?_;exact eZ (ay (⟨A,aF⟩:oA) P (bw (b9 2 rfl (by dsimp only;rw[Ef,Ht]) (cX 0 0 (⟨t.id,t.par,t.lim,t.fU-n⟩:bY) rfl rfl (by dsimp only[kO];rw[(qW L t.id (t.fU-n) t.id).1,(qW L t.id (t.fU-n) t.id).2];rfl) (λu _=>Hu t.id (t.fU-n) u) (Hv aw.bA bO (t.fU-n)) (ao (a6 _))))));have hv:ep L id n=(L,6):=ax h;rw[hv];dsimp only;apply J [98];apply au (xD b aF L.length D A L id h);apply J [17,60,210,84];exact Ci
end Go.Proofs.Q.aB
namespace Go.Proofs.Q.aB
open Go Go.QM
def rb(f:Int->Option Value)(n:Nat)(y:List Int):Prop:=y.Nodup/\y.length=n/\∀x,x∈y↔(f x).isSome=true
def AC(b:Nat)(f:Int->Option Value)(n:Nat):av:=e7 λy:List (Int×Value)×Array MapEntry×Nat=>pure' (kW f n y.1/\y.2.1.toList.map (λe=>(e.key,e.val))=y.1.map (λt=>(QM.encI t.1,t.2))/\jd y.2.1 y.2.2) (ag [obj b (.map y.2.1 y.2.2)])
def Bc(b6 gg c:Nat)(xs:List Int):av:=e7 λx:Option Addr×Nat=>pure' True (ag [aj c b6 [.slice x.1 xs.length x.2],aX gg 1 x.1 xs.length x.2 (ints xs)])
end Go.Proofs.Q.aB
namespace Go.Proofs.Q
open Go Go.Shelf
def Pp:Go.Shelf.Ren:=⟨fun|189=>148|125=>200|257=>199|128=>252|129=>253|294=>243|295=>244|296=>245|297=>246|298=>247|299=>248|216=>249|300=>250|301=>251|328=>297|329=>298|330=>299|331=>300|332=>301|215=>289|343=>342|n=>n,fun|28=>90|3=>3|46=>94|0=>0|51=>32|53=>47|4=>4|183=>376|182=>375|131=>289|5=>5|9=>9|218=>416|222=>419|228=>441|229=>442|n=>n,fun|n=>n⟩
theorem Po:Go.Proofs.Lays.n189 Tryz.prog Pp:={
 mixed:=by kernel_rfl
 f125:=Tryz.func200.trans (congrArg some a1)
 f128:=Tryz.func252.trans (congrArg some a1)
 f129:=Tryz.func253.trans (congrArg some a1)
 f189:=Tryz.func148.trans (congrArg some a1)
 f215:=Tryz.func289.trans (congrArg some a1)
 f216:=Tryz.func249.trans (congrArg some a1)
 f257:=Tryz.func199.trans (congrArg some a1)
 f294:=Tryz.func243.trans (congrArg some a1)
 f295:=Tryz.func244.trans (congrArg some a1)
 f296:=Tryz.func245.trans (congrArg some a1)
 f297:=Tryz.func246.trans (congrArg some a1)
 f298:=Tryz.func247.trans (congrArg some a1)
 f299:=Tryz.func248.trans (congrArg some a1)
 f300:=Tryz.func250.trans (congrArg some a1)
 f301:=Tryz.func251.trans (congrArg some a1)
 f328:=Tryz.func297.trans (congrArg some a1)
 f329:=Tryz.func298.trans (congrArg some a1)
 f330:=Tryz.func299.trans (congrArg some a1)
 f331:=Tryz.func300.trans (congrArg some a1)
 f332:=Tryz.func301.trans (congrArg some a1)
 f343:=Tryz.func342.trans (congrArg some a1)
 t0:=Tryz.underlying0
 a0:=Tryz.isAgg0
 z0:=Tryz.sizeOf0
 v0:=Tryz.zeroValue0
 t3:=Tryz.underlying3
 a3:=Tryz.isAgg3
 z3:=Tryz.sizeOf3
 v3:=Tryz.zeroValue3
 t4:=Tryz.underlying4
 a4:=Tryz.isAgg4
 z4:=Tryz.sizeOf4
 v4:=Tryz.zeroValue4
 t5:=Tryz.underlying5
 a5:=Tryz.isAgg5
 z5:=Tryz.sizeOf5
 v5:=Tryz.zeroValue5
 t9:=Tryz.underlying9
 a9:=Tryz.isAgg9
 z9:=Tryz.sizeOf9
 v9:=Tryz.zeroValue9
 t28:=Tryz.underlying90
 a28:=Tryz.isAgg90
 z28:=Tryz.sizeOf90
 v28:=Tryz.zeroValue90
 t46:=Tryz.underlying94
 a46:=Tryz.isAgg94
 z46:=Tryz.sizeOf94
 v46:=Tryz.zeroValue94
 t51:=Tryz.underlying32
 a51:=Tryz.isAgg32
 z51:=Tryz.sizeOf32
 v51:=Tryz.zeroValue32
 t53:=Tryz.underlying47
 a53:=Tryz.isAgg47
 z53:=Tryz.sizeOf47
 v53:=Tryz.zeroValue47
 t131:=Tryz.underlying289
 a131:=Tryz.isAgg289
 z131:=Tryz.sizeOf289
 v131:=Tryz.zeroValue289
 t182:=Tryz.underlying375
 a182:=Tryz.isAgg375
 z182:=Tryz.sizeOf375
 v182:=Tryz.zeroValue375
 t183:=Tryz.underlying376
 a183:=Tryz.isAgg376
 z183:=Tryz.sizeOf376
 v183:=Tryz.zeroValue376
 t218:=Tryz.underlying416
 a218:=Tryz.isAgg416
 z218:=Tryz.sizeOf416
 v218:=Tryz.zeroValue416
 t222:=Tryz.underlying419
 a222:=Tryz.isAgg419
 z222:=Tryz.sizeOf419
 v222:=Tryz.zeroValue419
 t228:=Tryz.underlying441
 a228:=Tryz.isAgg441
 z228:=Tryz.sizeOf441
 v228:=Tryz.zeroValue441
 t229:=Tryz.underlying442
 a229:=Tryz.isAgg442
 z229:=Tryz.sizeOf442
 v229:=Tryz.zeroValue442}
end Go.Proofs.Q
