/- Proved here: contracts, each under its own premises. -/
import Derived.Deep.Slices
import Derived.Test.YtglgidjhoncphaaGreatDoorHb
import Derived.Lib.AppendZerosOnto
import Derived.Lib.Overlaps
import Derived.Maps.RangeRun
import Derived.Shelf.Lays
set_option linter.all false
set_option maxRecDepth 4000
set_option maxHeartbeats 4000000
open List renaming getElem?_eq_getElem->Vc,getElem?_eq_some_iff->Vm,getD_eq_getElem?_getD->Vu,getElem?_append_left->Wh,range->Wo,getElem?_cons_succ->WI,getElem?_map->Xx,mem_range->Yl,length_append->mp,mem_append->Ve,mem_of_getElem?->Vg,mem_cons->Vq,mem_map->Vs,nil_append->Vx,replicate->VA,flatMap_cons->VD,append_assoc->VJ,take_of_length_le->VS,take_append_drop->V4,getElem?_of_mem->Wa,drop_eq_nil_of_le->Wv,pairwise_iff_getElem->WB,take_append_of_le_length->WG,length_take->WN,drop_append->XE,mem_singleton->Vd,nodup_cons->Vw,length_cons->Vy,toArray->Vz,mem_filter->VE,map_cons->VF,map_append->V7,length_map->Wb,map_congr_left->Wq,filter_cons_of_neg->Wt,find?_eq_none->W4,map_nil->W5,mem_of_mem_take->XV,map_map->XZ,pairwise_map->Yt,filter_cons_of_pos->YS
open Nat renaming zero_le->Vj,pow_le_pow_right->Vk,mul_one->Wz,zero_add->WC,mod_lt->XY,le_refl->Vi,mul_le_mul_right->VR,add_mul->V8,min_eq_left->W9
open Int renaming toNat_natCast->Wp
open Go.DataW renaming trod->WK
open Option renaming map_some->WL
open Go.Lib renaming ctz->Xy
open Go.World renaming cells?_some->Yb
open Go.Lit renaming int->Yz
open Go.Result renaming andThen_ok->Vo
open Go.Sem renaming run_bind->VB,run_pure->VT
open Go.Builtin renaming firstCells->VG,zeroCells->VH,lenOf->XO
open Go.Value renaming oneCell'->VO,pointer->Yi
open Go.Instr renaming sliceBound->Wg
open List.Pairwise renaming nil->Yw
open Decidable renaming not_not->Vr
open Go.QM.ab renaming aA->Vf,loop->VP
open Go.QM.aU renaming known->VL
open Go.QM.bE renaming to->Wn
open Go.QM.b4 renaming i->YE
namespace Go.QM
open Go Go.ChangeShapes Go.WideShapes Go.RowKit
theorem zc{α:Type}{Q:Nat->α->Prop}:∀n,(∀i,i<n->∃a,Q i a)->∃xs:List α,xs.length=n/\∀i a,xs[i]? =some a->Q i a
  | 0,_=>⟨[],rfl,by simp⟩
  | n+1,h=>by
   obtain⟨xs,u,w⟩:=zc n (λi E=>h i U);obtain⟨a,C⟩:=h n U;refine⟨xs++[a],by simp[u],λi b d=>?_⟩;rw[List.getElem?_append]at d;split at d;exact w i b d;rename_i D;have:=(Vm.1 d).1;simp at this;obtain rfl:i=n:=U
   simp[u]at d;subst d;exact C
section
variable {H : Type} {enc : TypeId × Value → H} {P : Program}
variable{held:Bool}
theorem Qz{α:Type}{W:World}{aw:Nat->Bool}{r:Reach}{b0:Nat}{t e:TypeId}{v:Value}{d:DataW H}{ps:List MemPlace}(cells:α->List Value)(D:α->Prop)(sz:Nat)(ar:P.underlying t=some (.slice e))(aL:P.cellsOf e=sz)(Z:0<sz)
    (V:∀a,(cells a).length=sz)
    (a2:∀fuel cs x,WK enc P W 0 aw held fuel e cs=some x->∃a,cs=cells a/\D a)
    (a4:Value.okWide P W r b0 t v) (aW:DataW.Trod enc P W 0 aw held t v d ps):
    ∃(ad:Option Addr) (xs:List α) (cap:Nat) (E:Nat),v=.slice ad xs.length cap/\cQ (here W) E ad (xs.flatMap cells)/\(∀a∈xs,D a)/\xs.length<=maxLen/\xs.length<=cap:=by
 subst aL;obtain⟨a,len,cap,rfl⟩:=okWide_slice ar a4;obtain⟨fuel,a0⟩:=aW;rcases Deep.open_slice ar a0 with⟨C,_⟩|⟨w,bS,bh,m,n,a9,bV,C,_,bj,bl,bn,_,aF⟩;simp[Value.cells]at C;obtain⟨rfl,rfl,rfl⟩:=C;exact⟨none,[],0,0,rfl,λ_ _=>.inl rfl,by simp,by simp,by simp⟩;simp[Value.cells]at C;obtain⟨rfl,rfl,rfl⟩:=C;have bt:len<=m:=cm
 obtain⟨xs,bR,au⟩:=zc (Q:=λi (x:α)=>W.cells? 0 (w.add (i*P.cellsOf e)) (P.cellsOf e)=some (cells x)/\D x) len (λi O=>by obtain⟨bi,bN,a7⟩:=aF i U;obtain⟨x,rfl,u⟩:=a2 _ _ _ a7;exact⟨x,bN,u⟩);have aP:∀i v,(xs.flatMap cells)[i]? =some v->W.cell? (w.add i)=some v:=(by have a3:∀x,xs[0]? =some x->w.spot=none:=λx u=>(by obtain⟨bN,_⟩:=au 0 x u;obtain⟨_,_,ag⟩:=Yb bN;have:=ag 0 Z;rw[Vc (by rw[V];exact Z)]at this;simp only[Nat.zero_mul,Addr.add,if_true]at this;cases N:w.spot with|none=>rfl|some s=>simp only[World.cell?,N]at this;split at this<;>simp at this);intro i v hv;(have aq:i<(xs.flatMap cells).length:=by grind);rw[kC V]at aq;have bH:i/P.cellsOf e<xs.length:=Nat.div_lt_of_lt_mul (by rw[Nat.mul_comm];exact aq);(have u:xs[i/P.cellsOf e]? =some xs[i/P.cellsOf e]:=by simp_all);obtain⟨bN,_⟩:=au _ _ u;obtain⟨_,_,ag⟩:=Yb bN;have hm:i %P.cellsOf e<P.cellsOf e:=XY _ Z;have a8:=ag _ hm;(have O:i/P.cellsOf e*P.cellsOf e+i %P.cellsOf e=i:=by grind[Nat.div_add_mod]);obtain⟨ay,a5⟩:∃ay,(cells xs[i/P.cellsOf e])[i %P.cellsOf e]? =some ay:=b2;have ao:=ug V u a5;rw[O,hv]at ao;cases ao;(have aA:0<xs.length:=by grind);have N:=a3 xs[0] (Vc aA);obtain⟨ba,bc,bd⟩:=w;simp only at N;subst N;rw[iB,iB,Nat.add_assoc,O]at a8;grind[iB]);obtain⟨E,bo⟩:=BC aP;grind[List.getElem?_of_mem]
variable{fuel:Nat}
theorem l8{W:World}{d:Nat->Bool}{t:TypeId}{k:IntKind}{cs:List Value}{x:DataW H×List MemPlace}(u:P.underlying t=some (.int k))(h:WK enc P W 0 d held fuel t cs=some x):
    ∃n,cs=[.int k n]/\(Yz k n).wf=true:=by grind[DataW.trod_int]
theorem GD{W:World}{d:Nat->Bool}{t:TypeId}{cs:List Value}{x:DataW H×List MemPlace}(u:P.underlying t=some .bool)(h:WK enc P W 0 d held fuel t cs=some x):
    ∃b,cs=[.bool b]:=by grind[DataW.trod_bool]
theorem GF{W:World}{Z:Nat->Bool}{t e:TypeId}{k:IntKind}{cs:List Value}{x:DataW H×List MemPlace}(V:P.underlying t=some (.slice e))(he:P.underlying e=some (.int k))(N:P.cellsOf e=1)
    (h:WK enc P W 0 Z held fuel t cs=some x):
    ∃(ad:Option Addr) (xs:List Int) (cap:Nat),cs=[.slice ad xs.length cap]/\(∃E,cQ (here W) E ad (cL k xs))/\(∀n∈xs,(Yz k n).wf=true)/\xs.length<=maxLen/\xs.length<=cap:=by
 rcases open_ints V he N h with⟨w,_⟩|⟨C,len,cap,u,w,_,ag,ao,aq,_,D,ar⟩;exact⟨none,[],0,by simpa using w,⟨0,λ_ _=>.inl rfl⟩,by simp,by simp,by simp⟩;have aw:len<=u.length:=cm
 have hlen:(u.take len).length=len:=b2
 obtain⟨E,au⟩:=BC (W:=W) (a:=C) (cs:=cL k (u.take len)) (λi v hv=>by simp only[cL,Xx,Option.map_eq_some_iff]at hv;obtain⟨x,d,rfl⟩:=hv;(have O:i<len:=by have:=(Vm.1 d).1;omega);rw[List.getElem?_take_of_lt O]at d;have:=D i U;rw[this,Vu,d];rfl);grind
end
end Go.QM
namespace Go.Proofs.Q
open Go Go.QM
def th:List Value:=Lib.deBruijn64tab.map λn:Nat=>.int .u8 n
def qu:List Value:=ints [0,64,128,256,32,32,48,256]
def jl(k r:Int)(s:Bool):List Value:=[.int .i64 k,.int .i64 r,.bool s]
def sx:List Value:=jl 0 0 false++jl 1 1 true++jl 0 8 true++jl 3 2 true++jl 3 2 true++jl 4 2 true++jl 5 2 true++jl 5 2 true++jl 5 2 true++jl 5 1 true++jl 4 1 true++jl 0 0 false++jl 0 0 false++jl 0 0 false++jl 0 0 false++jl 2 2 true++jl 0 0 true++jl 8 1 true++jl 8 2 true
structure da(F:ay):Prop where
  co:∃E lV,Rd F 0 (.cells qu.toArray E lV)
  LK:∃E lV,Rd F 1 (.cells sx.toArray E lV)
  TF:∃E lV,Rd F 2 (.cells th.toArray E lV)
class cv(F:ay):Prop where
  aY:da F
instance (A:ay)(l:List ay)[h:cv (ah l)]:cv (ah (A::l)):=⟨by
  obtain⟨⟨ng,Ct,gA⟩,⟨sH,z2,gB⟩,⟨zy,z3,gC⟩⟩:=h.aY
  exact⟨⟨ng,Ct,kb gA⟩,⟨sH,z2,kb gB⟩,⟨zy,z3,kb gC⟩⟩⟩
instance (A:ay)(l:List ay)[h:cv A]:cv (ah (A::l)):=⟨by
  obtain⟨⟨ng,Ct,gA⟩,⟨sH,z2,gB⟩,⟨zy,z3,gC⟩⟩:=h.aY
  exact⟨⟨ng,Ct,iK gA⟩,⟨sH,z2,iK gB⟩,⟨zy,z3,iK gC⟩⟩⟩
variable{k:Nat}
theorem TG{j:Nat}(d:j<64)(u:Lib.deBruijn64tab.getD j 0=k):th[j]? =some (m6 k):=by have w:j<Lib.deBruijn64tab.length:=d;grind[th]
theorem TH(u:k<64):∃j,j<64/\2^k*285870213051353865 %2^64/2^58=j/\th[0+((j:Nat):Int).toNat*1]? =some (m6 k):=by obtain⟨d,w⟩:=Lib.deBruijn64_at k u;refine⟨_,d,rfl,?_⟩;rw[Wp,Wz,WC];grind[TG]
def fM(n:Nat):Nat:=(n+63)/64
structure mL where
  ad:Option Addr
  cap:Nat
def gE(b n:Nat)(f:Nat->Bool):ay:=fg λy:mL=>pure' (∀j,n<=j->f j=false) (ah [aj b 356 [.int .i64 n,.slice y.ad (fM n) y.cap],aZ 47 1 y.ad (fM n) y.cap (k4 f (fM n))])
theorem KE(w:Nat):k4 (λ_=>false) w=List.replicate w (bk 0):=by rw[k4,List.eq_replicate_iff];refine⟨by simp,λv hv=>?_⟩;obtain⟨k,_,rfl⟩:=List.mem_map.1 hv;trivial
def kP(f:Nat->Bool)(i:Nat)(on:Bool):Nat->Bool:=λx=>if x=i then on else f x
theorem Ht{f:Nat->Bool}{i:Nat}{on:Bool}(h:f i=on):kP f i on=f:=by grind[kP]
theorem BM{f:Nat->Bool}{i:Nat}{on:Bool}(h:f i≠on):kP f i on=fa f i:=by funext x;rw[kP,fa];split;rename_i e;subst e;revert h;cases on<;>cases f x<;>simp;trivial
variable(on:Bool)
theorem Se{f:Nat->Bool}{n i:Nat}(u:i<n)(h:∀j,n<=j->f j=false):∀j,n<=j->kP f i on j=false:=λj d=>by
 rw[kP,al U];exact h j d
def qR:Option Nat->Int
  | some i=>(i:Int)
  | none=>-1
def JJ(f:Nat->Bool)(on:Bool)(n o:Nat):Option Nat->Prop
  | some i=>yC f on n o i
  | none=>tB f on n o
theorem KD{f:Nat->Bool}:ip f k=0↔∀j,64*k<=j->j<64*(k+1)->f j=false:=by constructor;intro h j d u;have w:=ru f k (j-64*k);grind;intro h;apply Nat.eq_of_testBit_eq;intro j;rw[Nat.zero_testBit,ru];grind
theorem LN{x:Nat}(h:x<2^64):x/2^0*2^0 %2^64=x:=by simp;omega
variable(x:Nat)
theorem Gk(u:x<2^64):bn 291 [bk x] ba [] (aa (fq x:Int)) []:=by
 apply aF Tryz.func291 Tryz.ntmps291;intro F _;apply J [8];obtain⟨-,-,d,C,D⟩:=Gn u;have E:oV (m2 (l5 (kl x)))<2^61:=by grind[oV]
 have H:ic (oV (m2 (l5 (kl x))))<2^62:=by grind[ic]
 have w:s3 (ic (oV (m2 (l5 (kl x)))))<2^63:=by grind[s3]
 apply J [106,27];refine q rfl rfl (jS (n:=1) rfl rfl u rfl) ?_;refine q rfl rfl (k2 (b:=6148914691236517205) rfl rfl U am rfl) ?_;apply J [3];refine q rfl rfl (k2 (b:=6148914691236517205) rfl rfl u am rfl) ?_;refine q rfl rfl (mS (c:=kl x) rfl rfl rfl d) ?_;apply J [64];refine q rfl rfl (jS (n:=2) rfl rfl d rfl) ?_;refine q rfl rfl (k2 (b:=3689348814741910323) rfl rfl U am rfl) ?_;apply J [3];refine q rfl rfl (k2 (b:=3689348814741910323) rfl rfl d am rfl) ?_;refine q rfl rfl (mS (c:=l5 (kl x)) rfl rfl rfl U) ?_;apply J [64];refine q rfl rfl (jS (n:=4) rfl rfl U rfl) ?_;apply J [3];refine q rfl rfl (mS rfl rfl rfl U) ?_;refine q rfl rfl (k2 (b:=1085102592571150095) (c:=m2 (l5 (kl x))) rfl rfl U am rfl) ?_;apply J [64,3];refine q rfl rfl (jS (n:=8) rfl rfl U rfl) ?_;refine q rfl rfl (mS (c:=oV (m2 (l5 (kl x)))) rfl rfl rfl U) ?_;apply J [64,3];refine q rfl rfl (jS (n:=16) rfl rfl U rfl) ?_;refine q rfl rfl (mS (c:=ic (oV (m2 (l5 (kl x))))) rfl rfl rfl U) ?_;apply J [64,3];refine q rfl rfl (jS (n:=32) rfl rfl U rfl) ?_;refine q rfl rfl (mS (c:=s3 (ic (oV (m2 (l5 (kl x)))))) rfl rfl rfl U) ?_;apply J [64];refine q rfl rfl (conv .u64 .i64 rfl rfl rfl (o4 w)) ?_;refine q rfl rfl (rn (b:=127) (c:=fq x) rfl rfl w am rfl) ?_;apply J [26];exact j7
theorem xu(d:x<2^64):bn 233 [bk x] ba [] (aa (fq x:Int)) []:=by apply aF Tryz.func233 Tryz.ntmps233;intro F _;apply J [8,35,204,138];apply aq (Gk x d);apply J [151,26];exact j7
theorem Iw(w:x<2^64):bn 232 [bk x] da [] (aa (Xy 64 x:Int)) []:=by
 apply aF Tryz.func232 Tryz.ntmps232;intro F O;apply J [8,35,169];apply Vf rfl<;>intro d;obtain rfl:x=0:=by omega
 have V:Xy 64 0=64:=rfl;rw[V];apply J [139];exact j7;have d:x≠0:=U
 obtain⟨H,u⟩:=Lib.lowest_bit 64 x d w;obtain⟨j,W,D,C⟩:=TH u;obtain⟨_,⟨E,N,P⟩⟩:=(⟨True.intro,O.TF⟩:True/\_);haveI:fN F 2 (.cells th.toArray E N):=⟨P⟩;generalize Xy 64 x=k at H u D C⊢;have Z:2^k<2^64:=Nat.pow_lt_pow_right am u;apply J [4,195];refine q rfl rfl (Qa rfl d w) ?_;refine q rfl rfl (k2 (c:=2^k) rfl rfl w U H) ?_;refine q rfl rfl (P3 (b:=285870213051353865) rfl rfl rfl) ?_;refine q rfl rfl (jS (n:=58) (c:=j) rfl rfl (XY _ am) D) ?_;refine q rfl rfl (lo 64 5 1 rfl rfl rfl U U) ?_;refine q rfl rfl (gG rfl rfl C) ?_;refine q rfl rfl (conv .u8 .i64 rfl rfl rfl (o4 U)) ?_;apply J [26];exact j7
theorem TI(u:x<2^64):bn 234 [bk x] da [] (aa (Xy 64 x:Int)) []:=by apply aF Tryz.func234 Tryz.ntmps234;intro F d;apply J [8];haveI:cv F:=⟨d⟩;apply J [35,204,138];apply aq (Iw x u);apply J [151,26];exact j7
variable(n:Nat)
theorem Dt(h:n<=1048576):bH 235 [aa n] ba [] (λb:Nat=>ae b) (λ_=>True) (λb=>[gE b n (λ_=>false)]):=by apply aF Tryz.func235 Tryz.ntmps235;intro F _;refine J [8,124,179,390,141,103] ?_;refine Vf rfl (λd=>absurd d U) (λd=>?_);refine J [4,195,146,243,579,0] ?_;refine AZ (E:=47) (n:=fM n) (z:=bk 0) 8 rfl rfl rfl rfl rfl rfl (by rw[fM];omega) (by rw[fM];simp only[maxLen];omega) ?_;intro bb;refine q rfl rfl (eh (cs:=[.int _ _,.slice _ _ _]) rfl) ?_;refine e rfl ?_;refine eS (v:=.agg #[_,_]) (l:=[.int _ _,.slice _ _ _]) rfl rfl ?_;intro bD;apply J [104];exact br bD trivial (az (⟨some ⟨bb,0,none⟩,fM n⟩:mL) (λ_ _=>rfl) (an (by rw[KE];exact(an (an (aX _))))))
variable(b:Nat)
theorem v6(n:Nat)(v:Value):bn 230 [ae b] ba [aj b 356 [aa n,v]] (aa n) [aj b 356 [aa n,v]]:=by apply aF Tryz.func230 Tryz.ntmps230;intro F _;apply J [1,35,41,50,26];exact hC
theorem Ds(n:Nat)(f:Nat->Bool)(i:Nat)(ao:n<=1048576):bn 171 [ae b,aa i] ba [gE b n f] (.bool (f i)) [gE b n f]:=by
 apply aF Tryz.func171 Tryz.ntmps171;intro F _;apply J [1];refine ab.open 0 rfl (λE D=>?_);obtain⟨ad,cap⟩:=E;have u:=D;apply J [11];dsimp only at u⊢;refine J [222,270,460,13,289,94] ?_;apply aq (v6 b n (.slice ad (fM n) cap));apply J [6,386,51];refine aU.split 13 rfl (λd=>?_) (λd=>?_);have d:=dz d;have hw:i/64<fM n:=by grind[fM]
 have H:=rr f (fM n);have O:0<(k4 f (fM n)).length:=U
 have C:=KA f i;have w:=tP f (i/64);apply J [136,238,13];refine db rfl rfl rfl (Wn (v:=((i/64:Nat):Int)) (kn rfl rfl U U U) U) ?_;refine db rfl rfl rfl (ht 47 1 rfl rfl rfl U eA) ?_;refine db rfl rfl rfl (dB rfl rfl (by rw[Wz];exact rq f hw)) ?_;apply J [13];refine db rfl rfl rfl (Wn (v:=((i %64:Nat):Int)) (pY rfl rfl U U) U) ?_;refine db rfl rfl rfl (jS rfl rfl w rfl) ?_;refine db rfl rfl rfl (Wn (v:=((if f i=true then 1 else 0:Nat):Int)) (Kb rfl rfl (Nat.lt_of_le_of_lt (Nat.div_le_self _ _) w)) (congrArg Int.ofNat C)) ?_;apply J [160,131];exact YE () [_] ⟨rfl,trivial⟩ (congrArg Value.bool (by cases N:f i<;>simp)) trivial (az (⟨ad,cap⟩:mL) u ai);have d:=d7 d;have hv:f i=false:=b2
 rw[hv];apply J [45,45,213,98];exact e9 (az (⟨ad,cap⟩:mL) u ai)
theorem qs(n:Nat)(f:Nat->Bool)(i:Nat)(on:Bool)(d:Option Addr)(H:Nat)(ay:i<n)(ao:n<=1048576):bn 236 [ae b,.bool on,.slice d 1 H] (λF=>∃E,cQ F E d (ints [(i:Int)])) [gE b n f] (aa (if f i=on then 0 else 1)) [gE b n (kP f i on)]:=by
 apply aF Tryz.func236 Tryz.ntmps236;intro F ⟨E,V⟩;apply J [1];haveI:bi F d E (ints [(i:Int)]):=⟨V⟩;apply J [106,35,33,177];refine VP (ι:=Nat) (λk=>k<=1) (λk=>[(0,ae b),(1,.bool on),(7,aa (if k=0 then 0 else if f i=on then 0 else 1)),(10,.slice d 1 H),(11,aa 1),(12,aa ((k:Nat):Int))]) (λk=>ah [gE b n (if k=0 then f else kP f i on),F]) (λk=>1-k) 0 U bI (an (an (aX _))) ?_;rintro k Z a0;dsimp only[cy]at Z⊢;apply J [42];apply Vf rfl<;>intro aL;obtain rfl:k=0:=U
 have aP:0<(ints [(i:Int)]).length:=by grind[ints]
 rw[ax rfl,ax rfl];refine ab.open 0 rfl (λD C=>?_);obtain⟨ad,cap⟩:=D;have P:=C;apply J [11];dsimp only at P⊢;refine J [188] ?_;refine q rfl rfl (dB rfl rfl (gW (xs:=[(i:Int)]) (i:=0) rfl)) ?_;apply J [64,270];refine VL 18 rfl (c:=true) (c7 U) ?_;apply J [13,289,94];apply aq (v6 b n (.slice ad (fM n) cap));apply J [6,386,51];refine VL 24 rfl (c:=true) (c7 U) ?_;apply J [289,13];refine aU.bg (B:=ah [gE b n f,F]) (az (⟨ad,cap⟩:mL) P ai) ?_;refine pB rfl rfl ?_;apply aq (Ds b n f i ao);apply J [5,340];refine db rfl rfl rfl (xo rfl rfl rfl) ?_;apply J [190];refine ab.cond rfl (λu=>?_) (λu=>?_);have u:f i≠on:=b2
 have w:=BM (f:=f) (i:=i) (on:=on) u;have hw:i/64<fM n:=by grind[fM]
 have aw:=rr f (fM n);have aW:0<(k4 f (fM n)).length:=U
 have W:=Kz f hw;have ar:=tP f (i/64);have ag:2^(i %64)<2^64:=Nat.pow_lt_pow_right am U;have O:∀j,n<=j->kP f i on j=false:=by grind[Se]
 refine ab.open 0 rfl (λD C=>?_);obtain⟨ad,cap⟩:=D;have au:=C;apply J [11];dsimp only at au⊢;refine ab.seq ?_;refine ab.draw _ [13] [0,1,2,3,4,5,6,7,8,9,10,11,12,-13] aV aV (aG.refl _) ?_;apply J [133,16];refine bY rfl rfl rfl (Wn (v:=((i/64:Nat):Int)) (kn rfl rfl U U U) U) ?_;refine bY rfl rfl rfl (ht 47 1 rfl rfl rfl U eA) ?_;refine bY rfl rfl rfl (dB rfl rfl (by rw[Wz];exact rq f hw)) ?_;apply J [16];refine bY rfl rfl rfl (Wn (v:=((i %64:Nat):Int)) (pY rfl rfl U U) U) ?_;refine bY rfl rfl rfl (Sn rfl rfl U) ?_;refine bY rfl rfl rfl (Uq rfl rfl ar ag rfl) ?_;refine bY rfl rfl rfl (ht 47 1 rfl rfl rfl U eA) ?_;apply J [90];refine eg (v:=.int _ _) (vs:=[_]) 1 rfl rfl rfl rfl rfl rfl am U (by rw[Wz,W]) ?_;refine J [73,279,77,63] ?_;exact⟨rfl,(0+1),U,U,⟨rfl,rfl,(show aa (0+1)=_ from by rw[al U,al u];rfl),rfl,rfl,rfl,trivial⟩,(by rw[al U,w];rw[w]at O;exact(az (⟨_,_⟩:mL) O ai))⟩;have he:f i=on:=b2
 have w:=Ht he;refine J [111] ?_;exact⟨rfl,(0+1),U,U,⟨rfl,rfl,(show aa 0=_ from by rw[al U,ax he]),rfl,rfl,rfl,trivial⟩,(by rw[al U,w];exact ai)⟩;obtain rfl:k=1:=U
 have N:¬((1:Nat)=0):=U
 rw[al N,al N];apply J [232];exact hC
theorem KG(n:Nat)(f:Nat->Bool)(on:Bool)(k:Nat)(u:k<fM n):bn 231 [ae b,.bool on,aa k] ba [gE b n f] (bk (l7 on (ip f k):Int)) [gE b n f]:=by
 apply aF Tryz.func231 Tryz.ntmps231;intro F _;apply J [1];refine ab.open 0 rfl (λD C=>?_);obtain⟨ad,cap⟩:=D;have d:=C;apply J [11];dsimp only at d⊢;have E:=rr f (fM n);have H:0<(k4 f (fM n)).length:=U
 have w:=tP f k;apply J [35,62,2];cases on with|true=>?_|false=>?_
 refine J [12,65,3,440] ?_;refine q rfl rfl (dB rfl rfl (by rw[Wz];exact rq f u)) ?_;apply J [123];exact YE () [_] ⟨rfl,trivial⟩ (by rw[l7,ax rfl];rfl) trivial (az (⟨ad,cap⟩:mL) d ai);refine J [204,65,3,440] ?_;refine q rfl rfl (dB rfl rfl (by rw[Wz];exact rq f u)) ?_;refine q rfl rfl (Lv rfl w) ?_;apply J [26];exact YE () [_] ⟨rfl,trivial⟩ (by rw[l7,al am];rfl) trivial (az (⟨ad,cap⟩:mL) d ai)
theorem Dr(n:Nat)(f:Nat->Bool)(on:Bool)(o:Nat)(a8:o<=1048577)(ao:n<=1048576):bH 173 [ae b,.bool on,aa o] da [gE b n f] (λy:Option Nat=>aa (qR y)) (λy=>JJ f on n o y) (λ_=>[gE b n f]):=by
 apply aF Tryz.func173 Tryz.ntmps173;intro F aw;apply J [1];haveI:cv F:=⟨aw⟩;apply J [106,27];refine q rfl rfl (Wn (v:=(o:Int)) (PG rfl rfl) (Int.max_eq_left U)) ?_;refine J [31,27,580,28,72] ?_;refine VP (ι:=Nat) (λk=>(o/64<=k/\k<=20000)/\∀j,o<=j->j<64*k->j<n->f j≠on) (λk=>[(0,ae b),(1,.bool on),(2,aa o),(7,aa ((k:Nat):Int))]) (λk=>ah [gE b n f,F]) (λk=>20000-k) (o/64) ⟨⟨Nat.le_refl _,by omega⟩,λj O ar _=>by omega⟩ bI (an (an (aX _))) ?_;rintro k ⟨⟨ay,aL⟩,eM⟩ a9;dsimp only[cy]at ay aL eM⊢;refine ab.open 0 rfl (λN d=>?_);obtain⟨ad,cap⟩:=N;have C:=d;apply J [11];dsimp only at C⊢;refine J [128,458,158,0] ?_;apply aq (v6 b n (.slice ad (fM n) cap));apply J [6,183];apply Vf rfl<;>intro a7;refine ab.bg (B:=ah [gE b n f,F]) (az (⟨ad,cap⟩:mL) C ai) ?_;have aP:k<fM n:=by grind[fM]
 have V:=Qp (on:=on) (tP f k);apply J [60,36,19,29];apply aq (KG b n f on k aP);apply J [5,28];refine ab.cut (ι:=Nat) (λs=>s<64/\o<=max o (64*k)/\max o (64*k)=64*k+s) (λs=>[(0,ae b),(1,.bool on),(2,aa o),(7,aa ((k:Nat):Int)),(8,bk ((l7 on (ip f k)/2^s*2^s %2^64:Nat):Int))]) (λs=>ah [gE b n f,F]) ?_ ?_;refine J [195,580,212] ?_;apply Vf rfl<;>intro he;have he:k=o/64:=U
 refine J [200,3,581] ?_;refine q rfl rfl (jS rfl rfl V rfl) ?_;refine J [3,581] ?_;refine q rfl rfl (u9 rfl rfl U rfl) ?_;apply J [28];exact⟨rfl,(o %64),⟨by omega,by omega,by omega⟩,bI,ai⟩;have he:k≠o/64:=U
 apply J [4];exact⟨rfl,0,⟨by omega,by omega,by omega⟩,⟨rfl,rfl,rfl,rfl,by rw[LN V];rfl,trivial⟩,ai⟩;rintro s ⟨w,a2,a0⟩ ba;dsimp only[cy]at w a2 a0⊢;have Z:=T7 (f:=f) (on:=on) (k:=k) w;have ag:=T6 (f:=f) (on:=on) (k:=k) w;have W:l7 on (ip f k)/2^s*2^s %2^64<2^64:=U
 generalize l7 on (ip f k)/2^s*2^s %2^64=x at Z ag W⊢;refine J [27,458,29] ?_;apply aq (Iw x W);apply J [5];have a4:Xy 64 x<=64:=(by by_cases e:x=0;subst e;decide;omega);refine J [146,28,217,19] ?_;refine aU.split 43 rfl (λd=>?_) (λd=>?_);have d:=dz d;obtain⟨c,O,ar,a3,au,P⟩:=ag (λe=>d rR);rw[O];refine aU.open 0 rfl (λN d=>?_);obtain⟨ad,cap⟩:=N;have D:=d;apply J [6];dsimp only at D⊢;apply J [13,136,192,386,190];apply Vf rfl<;>intro a5;apply J [140,166];exact YE (some (64*k+c)) [_] ⟨rfl,trivial⟩ (congrArg (Value.int .i64) (show _=((64*k+c:Nat):Int)by omega)) ⟨by omega,by omega,au,λj u E=>by by_cases e:j<64*k;exact eM j u e U;exact P j U E⟩ (az (⟨ad,cap⟩:mL) D ai);refine J [20,132] ?_;exact⟨rfl,(k+1),⟨⟨by omega,by omega⟩,λj u E H=>by by_cases e:j<64*k;exact eM j u e H;exact P j U U⟩,U,⟨rfl,rfl,rfl,rfl,trivial⟩,(az (⟨ad,cap⟩:mL) D ai)⟩;have d:=d7 d;have d:x=0:=U
 refine J [45,48,149,108,20,132] ?_;exact⟨rfl,(k+1),⟨⟨by omega,by omega⟩,λj u E H=>by by_cases e:j<64*k;exact eM j u e H;exact Z d U U⟩,U,⟨rfl,rfl,rfl,rfl,trivial⟩,ai⟩;have aW:tB f on n o:=by grind[tB]
 apply J [75,201];exact br (none:Option Nat) aW (az (⟨ad,cap⟩:mL) C ai)
theorem KF(n:Nat)(f:Nat->Bool)(ao:n<=1048576):bH 295 [ae b] ba [gE b n f] (λc:Nat=>aa c) (λc=>c=0↔∀j,f j=false) (λ_=>[gE b n f]):=by
 apply aF Tryz.func295 Tryz.ntmps295;intro F _;apply J [1];refine ab.open 0 rfl (λZ V=>?_);obtain⟨ad,cap⟩:=Z;have D:=V;apply J [11];dsimp only at D⊢;apply J [106,35,69];apply aq (v6 b n (.slice ad (fM n) cap));apply J [6];have aw:fM n<=16384:=by grind[fM]
 refine J [146,243,579,112] ?_;refine VP (ι:=Nat×Nat) (λx=>(x.1<=fM n/\x.2<=64*x.1)/\(x.2=0↔∀j,j<64*x.1->f j=false)) (λx=>[(0,ae b),(3,aa ((x.2:Nat):Int)),(9,aa ((fM n:Nat):Int)),(10,aa ((x.1:Nat):Int))]) (λx=>ah [aj b 356 [aa n,.slice ad (fM n) cap],aZ 47 1 ad (fM n) cap (k4 f (fM n)),F]) (λx=>fM n-x.1) (0,0) ⟨⟨Vj _,Vj _⟩,⟨λ_ j h=>by omega,λ_=>rfl⟩⟩ bI (an (an (an (aX _)))) ?_;rintro⟨k,c⟩ ⟨⟨O,H⟩,u⟩ aL;dsimp only[cy]at O H u⊢;apply J [42];apply Vf rfl<;>intro ar;have P:k<fM n:=U
 have ag:=rr f (fM n);have au:0<(k4 f (fM n)).length:=U
 have C:=tP f k;obtain⟨ay,W,-⟩:=Gn C;refine J [60,140,200,176,58,3,440] ?_;refine q rfl rfl (dB rfl rfl (by rw[Wz];exact rq f P)) ?_;refine e rfl ?_;apply aq (Gk (ip f k) C);apply J [6];refine q rfl rfl (Wn (v:=((c+fq (ip f k):Nat):Int)) (io rfl rfl U U) U) ?_;refine J [77,63] ?_;exact⟨rfl,(k+1,c+fq (ip f k)),⟨⟨by omega,by dsimp only;omega⟩,by dsimp only;rw[Nat.add_eq_zero_iff,W,KD,u];exact⟨λ⟨E,d⟩ j w=>by by_cases e:j<64*k;exact E j e;exact d j U w,λh=>⟨λj w=>h j U,λj _ d=>h j d⟩⟩⟩,cK,⟨rfl,rfl,rfl,rfl,trivial⟩,ai⟩;obtain rfl:k=fM n:=U
 have N:c=0↔∀j,f j=false:=(by grind[fM]);apply J [232];exact br c N (az (⟨ad,cap⟩:mL) D ai)
structure re where
  aC:Nat
def fX(b:Nat)(m:Nat->Nat)(n:Nat):ay:=fg λy:re=>pure' (oH m) (ah [aj b 249 [.slice (cF y.aC) n n],aj y.aC 5 (iX m n)])
theorem KL(m:Nat->Nat){n o j:Nat}(h:o+j<n):(iX m n)[o+j*1]? =some (m6 (m (o+j):Int)):=by rw[Wz];exact y4 m h
theorem yQ(h:n=65536\/n=131072):bH 177 [aa n] ba [] (λb:Nat=>ae b) (λ_=>True) (λb=>[fX b (λ_=>0) n]):=by
 apply aF Tryz.func177 Tryz.ntmps177;intro F _;apply J [8];have d:fq n=1:=by rcases h with rfl|rfl<;>decide+kernel
 refine J [124,179,390,141,40] ?_;refine VL 9 rfl (c:=false) (dn U) ?_;refine J [13,461,94] ?_;apply aq (xu n U);apply J [151];rw[d];apply J [240,149,107,138];refine PO (E:=5) (n:=n) (z:=m6 0) 1 rfl rfl rfl rfl rfl rfl U gr ?_;intro bb;refine q rfl rfl (eh (cs:=[.slice _ _ _]) rfl) ?_;refine e rfl ?_;refine eS (v:=.agg #[_]) (l:=[.slice _ _ _]) rfl rfl ?_;intro bD;apply J [104];exact br bD trivial (az (⟨bb⟩:re) (λ_=>(by decide:0<256)) (an (b6 0 rfl (by rw[KO]) (an (aX _)))))
variable(aC:Nat)
theorem yR(n at_ k:Nat)(ao:n<=131072)(C:at_+k<=n)(D:at_<n):bn 94 [ae b,aa at_,aa k] ba [aj b 249 [.slice (cF aC) n n]] (.tuple #[.slice (some ⟨aC,at_,none⟩) k (n-at_),aa 0]) [aj b 249 [.slice (cF aC) n n]]:=by
 apply aF Tryz.func94 Tryz.ntmps94;intro F _;apply J [1];have u:(at_+k)-at_=k:=U
 have w:0+at_*1=at_:=U
 apply J [24,85,31,72,101,191,179];refine VL 14 rfl (c:=false) (dn U) ?_;apply J [203,40];refine VL 18 rfl (c:=false) (dn U) ?_;apply J [13,136,192,462,159,40];refine VL 27 rfl (c:=false) (dn U) ?_;refine J [13,136,192,462,13,441,159,207] ?_;refine Vf rfl (λd=>absurd d U) (λd=>?_);apply J [20,50,120,3];refine q rfl rfl (Wn (v:=((at_+k:Nat):Int)) (io rfl rfl U U) U) ?_;refine q rfl rfl (Sz (i:=at_) (j:=at_+k) 5 1 rfl rfl rfl rfl U U U) ?_;apply J [85,26];exact YE () [.slice (some ⟨aC,0+at_*1,none⟩) (at_+k-at_) (n-at_),aa 0] ⟨rfl,rfl,trivial⟩ (by rw[u,w];rfl) trivial (an (an (aX _)))
theorem Di(n at_ k:Nat)(ao:n<=131072)(u:at_+k*8<=n)(w:at_<n)(C:at_ %8=0):bn 169 [ae b,aa at_,aa k] ba [aj b 249 [.slice (cF aC) n n]] (.tuple #[.slice (some ⟨aC,at_,none⟩) (k*8) (n-at_),aa 0]) [aj b 249 [.slice (cF aC) n n]]:=by apply aF Tryz.func169 Tryz.ntmps169;intro F _;apply J [1,24,194,34,3];refine q rfl rfl (Wn (v:=((k*8:Nat):Int)) (oc rfl rfl U U) U) ?_;refine e rfl ?_;apply aq (yR b aC n at_ (k*8) ao u w);apply J [5,296,343,91,85,31,27,193];refine VL 20 rfl (c:=true) (c7 U) ?_;refine J [13,463,240,190] ?_;refine Vf rfl (λd=>absurd d U) (λd=>?_);apply J [4,314,85,26];exact hN (an (an (aX _)))
theorem tL(n at_:Nat)(m:Nat->Nat)(ao:n<=131072)(O:at_+8<=n)(d:at_ %8=0):bn 122 [ae b,aa at_] ba [fX b m n] (.tuple #[bk (cW m at_:Int),aa 0]) [fX b m n]:=by
 apply aF Tryz.func122 Tryz.ntmps122;intro F _;apply J [1];refine ab.open 0 rfl (λN H=>?_);obtain⟨aC⟩:=N;have hm:=H;apply J [11];dsimp only at hm⊢;apply J [215,32];apply aq (Di b aC n at_ 1 ao U U d);apply J [6,296,343,91,194,35,33,464,112];refine VP (ι:=Nat) (λk=>k<=8) (λk=>[(7,aa 0),(8,bk (kL m at_ k:Int)),(17,.slice (some ⟨aC,at_,none⟩) (1*8) (n-at_)),(18,aa 8),(19,aa ((k:Nat):Int))]) (λk=>ah [aj b 249 [.slice (cF aC) n n],aj aC 5 (iX m n),F]) (λk=>8-k) 0 U bI (an (an (an (aX _)))) ?_;rintro k C W;dsimp only[cy]at C⊢;apply J [42];apply Vf rfl<;>intro V;have D:k<8:=U
 have E:=Ps hm at_ D;have P:=hm (at_+k);have u:=Nat.lt_of_lt_of_le (w8 hm at_ k) (Vk (n:=2) am (show 8*k<=64 by omega));have w:at_+k<n:=U
 apply J [60,27];refine q rfl rfl (Ao (o:=at_+k*1) 5 1 rfl rfl rfl U U (by rw[Wp])) ?_;refine q rfl rfl (gG rfl rfl (KL m w)) ?_;apply J [173,200,3];refine q rfl rfl (conv .u8 .u64 rfl rfl rfl (qb U)) ?_;apply J [3];refine q rfl rfl (Wn (v:=((8*k:Nat):Int)) (oc rfl rfl U U) U) ?_;refine q rfl rfl (u9 rfl rfl U rfl) ?_;refine q rfl rfl (pW rfl rfl u (XY _ am) E) ?_;refine J [77,63] ?_;exact⟨rfl,(k+1),U,U,bI,ai⟩;obtain rfl:k=8:=by omega
 apply J [75,195,99];exact hN (az (⟨aC⟩:re) hm ai)
theorem lK(n at_:Nat)(m:Nat->Nat)(L:List Nat)(d:Option Addr)(u:Nat)(ao:n<=131072)(ay:0<L.length)(C:at_+L.length*8<=n)(D:at_ %8=0)(N:∀x∈L,x<2^64):bn 188 [ae b,aa at_,.slice d L.length u] (λF=>∃E,cQ F E d (cL .u64 (L.map (λx:Nat=>(x:Int))))) [fX b m n] (aa 0) [fX b (dA m at_ L) n]:=by
 apply aF Tryz.func188 Tryz.ntmps188;intro F ⟨E,H⟩;apply J [1];haveI:bi F d E (cL .u64 (L.map (λx:Nat=>(x:Int)))):=⟨H⟩;refine ab.open 0 rfl (λaw ag=>?_);obtain⟨aC⟩:=aw;have hm:=ag;apply J [11];dsimp only at hm⊢;apply J [106,34,93,249,0];apply aq (Di b aC n at_ L.length ao C U D);apply J [6,296,343,91,85,31,33,464,112];refine VP (ι:=Nat) (λk=>k<=L.length*8) (λk=>[(2,.slice d L.length u),(7,.slice (some ⟨aC,at_,none⟩) (L.length*8) (n-at_)),(8,aa 0),(19,aa ((L.length*8:Nat):Int)),(20,aa ((k:Nat):Int))]) (λk=>ah [aj b 249 [.slice (cF aC) n n],aj aC 5 (iX (j5 m at_ L k) n),F]) (λk=>L.length*8-k) 0 U bI (by rw[SU];exact(an (an (an (aX _))))) ?_;rintro k P a2;dsimp only[cy]at P⊢;apply J [42];apply Vf rfl<;>intro aP;have aW:k<L.length*8:=U
 have W:k/8<L.length:=U
 obtain⟨x,w⟩:∃x,L[k/8]? =some x:=⟨L[k/8],Vc W⟩;have ar:(L.map (λx:Nat=>(x:Int)))[k/8]? =some (x:Int):=b2
 have au:=N x (List.mem_of_getElem? w);have a0:0<(cL .u64 (L.map (λx:Nat=>(x:Int)))).length:=by grind[iE]
 have O:at_+k<n:=U
 have Z:dM (at_+k) [m6 ((x/2^(8*(k %8)) %256:Nat):Int)] (iX (j5 m at_ L k) n)=iX (j5 m at_ L (k+1)) n:=(by rw[Dw _ O,SS,Vu,w];rfl);have aL:=sD (j5 m at_ L k) n;apply J [60,140,113,3,319];refine q rfl rfl (Wn (v:=((k/8:Nat):Int)) (kn rfl rfl U U U) U) ?_;refine J [440] ?_;refine q rfl rfl (dB rfl rfl (nB ar)) ?_;apply J [3];refine q rfl rfl (Wn (v:=((k %8:Nat):Int)) (pY rfl rfl U U) U) ?_;refine q rfl rfl (Wn (v:=((8*(k %8):Nat):Int)) (oc rfl rfl U U) U) ?_;refine q rfl rfl (jS rfl rfl au rfl) ?_;refine q rfl rfl (conv .u64 .u8 rfl rfl rfl (TU _)) ?_;refine q rfl rfl (Ao (o:=at_+k) 5 1 rfl rfl rfl U U (by rw[Wp];omega)) ?_;refine eB ?_;refine st (v:=.int _ _) (vs:=[_]) 1 rfl rfl rfl rfl rfl rfl U Z ?_;refine J [63] ?_;exact⟨rfl,(k+1),U,U,bI,ai⟩;obtain rfl:k=L.length*8:=U
 have he:j5 m at_ L (L.length*8)=dA m at_ L:=by grind[dA]
 rw[he];have V:oH (dA m at_ L):=by grind[SR]
 apply J [232];exact e9 (az (⟨aC⟩:re) V ai)
theorem KP(d:Option Addr)(k D:Nat)(cs:List Value)(V:cs.length=k)(P:0<k)(W:k<=1000000)(H:cs.all Value.oneCell'=true)(O:d≠none):bH 95 [.slice d k D] (λF=>∃E,cQ F E d cs) [] (λy:Option Addr×Nat=>.slice y.1 k y.2) (λ_=>True) (λ_=>[]):=by
 apply aF Tryz.func95 Tryz.ntmps95;intro F ⟨E,N⟩;apply J [8];obtain⟨u,rfl⟩:∃u,d=some u:=by cases d with|none=>exact absurd rfl O|some u=>exact⟨u,rfl⟩
 haveI:bi F (some u) E cs:=⟨N⟩;apply J [196,33];refine q rfl rfl (Eb rfl rfl rfl) ?_;apply J [107,25];refine bs (cs:=[]) rfl ?_;intro cp;apply J [271];refine ap 1 rfl rfl rfl rfl rfl U (show cs.take (k*1)=cs from List.take_of_length_le U) H U gr ?_;intro w C;apply J [61];exact YE (w,C) [_] ⟨rfl,trivial⟩ (by dsimp only;rw[WC];rfl) trivial ai
theorem Kg(n at_ k:Nat)(m:Nat->Nat)(ao:n<=131072)(u:0<k)(w:at_+k<=n):bH 41 [ae b,aa at_,aa k] ba [fX b m n] (λy:Option Addr×Nat=>.tuple #[.slice y.1 k y.2,aa 0]) (λ_=>True) (λ_=>[fX b m n]):=by apply aF Tryz.func41 Tryz.ntmps41;intro F _;apply J [1];refine ab.open 0 rfl (λD C=>?_);obtain⟨aC⟩:=D;have hm:=C;apply J [11];dsimp only at hm⊢;apply J [24,194,34,29];apply aq (yR b aC n at_ k ao w U);apply J [6,296,343,91,194,33];have E:=sD m n;have d:=KK m n;refine e rfl ?_;apply eL (KP (some ⟨aC,at_,none⟩) k (n-at_) (((iX m n).drop at_).take k) (by rw[List.length_take,List.length_drop];omega) u U (by rw[List.all_eq_true]at d⊢;exact λv hv=>d v (List.mem_of_mem_drop (List.mem_of_mem_take hv))) (λh=>by cases h)) ⟨_,vL (D6 1 rfl) (CV aC 5 at_ k _)⟩;intro y _;apply J [6,3,85,26];exact cT y trivial (az (⟨aC⟩:re) hm ai)
theorem Dg(n at_ k:Nat)(m:Nat->Nat)(ao:n<=131072)(d:at_+k<=n)(u:at_<n):bn 182 [ae b,aa at_,aa k,m6 0] ba [fX b m n] (aa 0) [fX b (hf m at_ k) n]:=by
 apply aF Tryz.func182 Tryz.ntmps182;intro F _;apply J [1];refine ab.open 0 rfl (λN H=>?_);obtain⟨aC⟩:=N;have hm:=H;apply J [11];dsimp only at hm⊢;apply J [106,34,29];apply aq (yR b aC n at_ k ao d u);apply J [6,296,343,91,85,31,33,464,112];refine VP (ι:=Nat) (λj=>j<=k) (λj=>[(3,m6 0),(9,.slice (some ⟨aC,at_,none⟩) k (n-at_)),(10,aa 0),(20,aa k),(21,aa ((j:Nat):Int))]) (λj=>ah [aj b 249 [.slice (cF aC) n n],aj aC 5 (iX (hf m at_ j) n),F]) (λj=>k-j) 0 U bI (by rw[UF];exact(an (an (an (aX _))))) ?_;rintro j C V;dsimp only[cy]at C⊢;apply J [42];apply Vf rfl<;>intro P;have w:at_+j<n:=U
 have O:=sD (hf m at_ j) n;have E:dM (at_+j) [m6 0] (iX (hf m at_ j) n)=iX (hf m at_ (j+1)) n:=(by have:=Dw (hf m at_ j) w 0;grind[UE]);apply J [60,140,113,120];refine q rfl rfl (Ao (o:=at_+j) 5 1 rfl rfl rfl U U (by rw[Wp];omega)) ?_;refine eB ?_;refine st (v:=.int _ _) (vs:=[_]) 1 rfl rfl rfl rfl rfl rfl U E ?_;refine J [63] ?_;exact⟨rfl,(j+1),U,U,bI,ai⟩;obtain rfl:j=k:=U
 have D:oH (hf m at_ j):=by grind[UD]
 apply J [232];exact e9 (az (⟨aC⟩:re) D ai)
def jT(ci:List Nat)(x:Int):Option Value:=if ci.any (λp=>decide (x=(p:Int)*1024))=true then some (.int .i64 0)else none
theorem Ix{ci:List Nat}{p:Nat}(h:p∈ci):jT ci ((p:Int)*1024)=some (aa 0):=ax (List.any_eq_true.2 ⟨p,h,c7 rfl⟩)
theorem TL{ci:List Nat}{p:Nat}(h:p∉ci):jT ci ((p:Int)*1024)=none:=al λd=>by
 obtain⟨q,u,e⟩:=List.any_eq_true.1 d
 have:=dz e
 exact h (by rwa[show p=q by omega])
theorem TJ(ci:List Nat)(p:Nat):fj (jT ci) ((p:Int)*1024) (aa 0)=jT (p::ci):=by funext x;rw[fj,jT,jT,List.any_cons];grind
theorem TK{ci:List Nat}(h:ci.Nodup)(p:Nat):fV (jT ci) ((p:Int)*1024)=jT (ci.erase p):=by funext x;rw[fV,jT,jT];by_cases e:x=(p:Int)*1024;rw[ax e];grind[List.Nodup.mem_erase_iff];grind
def iN(j top:Nat)(B:Nat->Nat)(aC:Nat):List Value:=.int .i64 top::((Wo 21).map (λk=>if k<j then .pointer (some ⟨(B k),0,none⟩)else .pointer none)++[.map (some aC)])
theorem yZ{j top:Nat}{B:Nat->Nat}{aC:Nat}(h:k<j)(d:k<21):(iN j top B aC)[0+1+((k:Nat):Int).toNat*1]? =some (.pointer (some ⟨(B k),0,none⟩)):=by rw[Wp,Wz,WC,Nat.add_comm,iN,WI,Wh rQ,Xx,List.getElem?_range d,WL,ax h]
theorem y0(j top:Nat)(B:Nat->Nat)(aC:Nat):(iN j top B aC).length=23:=by simp[iN]
theorem sA{j top:Nat}(B:Nat->Nat)(aC x:Nat)(h:j<21):dM (0+1+((j:Nat):Int).toNat*1) [ae x] (iN j top B aC)=iN (j+1) top (λk=>if k=j then x else B k) aC:=by have e:dM (0+1+((j:Nat):Int).toNat*1) [ae x] (iN j top B aC)=(iN j top B aC).set (1+j) (ae x):=(by rw[List.set_eq_take_append_cons_drop,ax (by rw[y0];omega),Wp,Wz,WC];grind[dM]);rw[e];apply List.ext_getElem?;intro i;rw[List.getElem?_set,y0];cases i with|zero=>rw[al U];rfl|succ i=>by_cases C:i<21;have d:∀j B,(iN j top B aC)[i+1]? =some (if i<j then .pointer (some ⟨(B i),0,none⟩)else .pointer none):=λj B=>(by rw[iN,WI,Wh rQ,Xx,List.getElem?_range C,WL]);rw[d,d];by_cases u:i=j;subst u;rw[ax U,ax U,ax U,ax rfl];rw[al U];by_cases w:i<j;rw[ax w,ax U,al u];rw[al w,al U];rw[al U];have d:∀j B,(iN j top B aC)[i+1]? =[Value.map (some aC)][i-21]? :=λj B=>(by rw[iN,WI,List.getElem?_append_right rQ];simp);rw[d,d]
structure tt where
  f:j8
  B:Nat->Nat
  aC:Nat
def j2(b top:Nat)(ci:List Nat):ay:=fg λy:tt=>pure' (top<=20/\mg y.f top ci) (ah [aj b 361 (iN (top+1) top y.B y.aC),b8 (λk=>gE (y.B k) (2^(top-k)) (y.f k)) (Wo (top+1)),bO QM.encI y.aC (jT ci) ci.length])
theorem Sd(f:j8)(k i:Nat)(v:Bool):lr f k i v k=kP (f k) i v:=by funext x;rw[lr,kP];simp_all
theorem xS(f:j8){x:Nat}(i:Nat)(v:Bool)(h:x≠k):lr f k i v x=f x:=by funext y;rw[lr,al (λd=>h d.1)]
theorem rZ{n:Nat}(h:k<n):∃L,(Wo n).Perm (k::L)/\∀x∈L,x≠k:=by obtain⟨L,d⟩:=fA (Yl.2 h);grind[List.nodup_range]
theorem oX{top:Nat}(h:top<=20):2^(top-k)<=1048576:=Vk (n:=2) am (show top-k<=20 by omega)
variable(top:Nat)
theorem Mq:uc top top=kP (λ_=>false) 0 true:=by funext x;rw[uc,kP];simp_all
theorem Mr{top:Nat}(h:k≠top):uc top k=λ_=>false:=by funext x;exact dn λd=>h d.1
theorem Ky{f:j8}{top:Nat}{ci V:List Nat}(h:mg f top ci)(p:ci.Perm V):mg f top V:=
 ⟨h.bd,λq d=>by rw[h.aq q d];simp only[p.mem_iff],p.nodup_iff.1 h.bq,λq d=>h.lt q (p.mem_iff.2 d)⟩
theorem TM{ci V:List Nat}(p:ci.Perm V):jT ci=jT V:=by grind[jT]
theorem vW{ci V:List Nat}(p:ci.Perm V):aG (j2 b top ci) (j2 b top V):=hR λh ⟨y,⟨d,u⟩,w⟩=>⟨y,⟨d,Ky u p⟩,by rw[<-TM p,<-p.length_eq];exact w⟩
def vk:Option Nat->Int
  | some p=>(p:Int)*1024
  | none=>0
def qx{α:Type}:Option α->Int
  | some _=>0
  | none=>4
def mS(ci:List Nat):Option Nat->List Nat
  | some p=>p::ci
  | none=>ci
def J4(top:Nat)(ci:List Nat):Option Nat->Prop
  | some p=>p<2^top/\p∉ci
  | none=>2^top<=ci.length
theorem y1(h:n=65536/\top=6\/n=131072/\top=7):bH 176 [aa n] da [] (λb:Nat=>ae b) (λ_=>True) (λb=>[j2 b top []]):=by
 apply aF Tryz.func176 Tryz.ntmps176;intro F D;apply J [8];haveI:cv F:=⟨D⟩;have N:fq n=1:=by rcases h with⟨rfl,_⟩|⟨rfl,_⟩<;>decide+kernel
 have E:Xy 64 (n/1024)=top:=by rcases h with⟨rfl,rfl⟩|⟨rfl,rfl⟩<;>decide+kernel
 have ao:65536<=n/\n<=131072/\top<=7:=U
 clear h;refine J [124,179,465,141,40,512,13,461,94] ?_;apply aq (xu n U);apply J [151];rw[N];apply J [240,149,107,27];refine q rfl rfl (Wn (v:=((n/1024:Nat):Int)) (kn rfl rfl U U U) U) ?_;refine J [307,0] ?_;apply aq (TI (n/1024) U);apply J [151];rw[E];refine J [0,352] ?_;intro bb;refine q rfl rfl (eh (cs:=iN 0 top (λ_=>0) _) rfl) ?_;refine e rfl ?_;refine eS (v:=.agg (List.toArray (iN 0 top (λ_=>0) _))) (l:=iN 0 top (λ_=>0) _) rfl rfl ?_;intro bD;refine J [56,50,649,72] ?_;refine VP (ι:=Nat×(Nat->Nat)) (λx=>x.1<=top+1) (λx=>[(3,ae bD),(28,aa ((top+1:Nat):Int)),(29,aa ((x.1:Nat):Int))]) (λx=>ah [aj bD 361 (iN x.1 top x.2 bb),b8 (λk=>gE (x.2 k) (2^(top-k)) (λ_=>false)) (Wo x.1),bO QM.encI bb (λ_=>none) 0,F]) (λx=>top+1-x.1) (0,λ_=>0) (Vj _) bI ((nb (f:=λk=>gE 0 (2^(top-k)) (λ_=>false)) _).trans (bU (an (an (an (aX _)))))) ?_;rintro⟨j,B⟩ H ag;dsimp only[cy]at H⊢;apply J [42];apply Vf rfl<;>intro W;have V:j<=top:=U
 have u:=oX (k:=j) (show top<=20 by omega);have Z:((2^(top-j):Nat):Int)=((2^(top-j):Nat):Int):=rfl;apply J [60,140];refine ab.draw _ [13] [0,1,2,3,4,5,6,7,8,10,11,-9,12,-13] aV aV (an (aX _)) ?_;apply J [78,16,49,16];refine bY rfl rfl rfl (Wn (v:=((top-j:Nat):Int)) (oo rfl rfl U U) U) ?_;refine bY rfl rfl rfl (nF (a:=1) (c:=2^(top-j)) rfl rfl U (Nat.one_mul _) U) ?_;apply J [88,427,17];apply a7 (Dt (2^(top-j)) u);intro hk _;refine J [282] ?_;have O:=sA (top:=top) B bb hk (show j<21 by omega);have P:=y0 j top B bb;refine J [582,90] ?_;refine st (v:=.pointer _) (vs:=[_]) 1 rfl rfl rfl rfl rfl rfl U O ?_;refine J [293,324] ?_;exact⟨rfl,(j+1,λk=>if k=j then hk else B k),cK,cK,bI,(an (cY 0 0 j rfl rfl (by dsimp only;rw[ax rfl]) (λx d=>by dsimp only;rw[al (λe=>by rw[e]at d;exact absurd (Yl.1 d) (Nat.lt_irrefl _))]) (by rw[List.range_succ];exact(List.perm_append_singleton _ _).symm) (an (an (aX _)))))⟩;obtain rfl:j=top+1:=U
 have u:=oX (k:=top) (show top<=20 by omega);obtain⟨C,gi,w⟩:=rZ (n:=top+1) (k:=top) U;apply J [75,7];refine cC [0,1,2,3,4,5,6,7,8,-9,-10] (an (aX _)) ?_;refine J [78,49,88,427,582] ?_;refine bY rfl rfl rfl (gG rfl rfl (yZ U U)) ?_;refine J [17,150] ?_;intro cp;refine⟨ai,?_⟩;obtain⟨C,gi,w⟩:=rZ (n:=top+1) (k:=top) U;refine ca.bg (fW 2 rfl gi) ?_;refine dY rfl rfl ?_;apply ew (qs (B top) (2^(top-top)) (λ_=>false) 0 true (cF cp) 1 cE u) ⟨_,bi.rd (ad:=some ⟨cp,0,none⟩)⟩;refine J [260,110,36,104] ?_;exact br bD trivial (az (⟨uc top,B,bb⟩:tt) ⟨by omega,mg.init top⟩ (c0 (cY 0 0 top rfl rfl (by dsimp only;rw[Mq]) (λx d=>by dsimp only;rw[Mr (w x d)]) gi.symm (bU (bU (aX _))))))
theorem Dl(ci:List Nat):bH 185 [ae b,aa 0] da [j2 b top ci] (λy:Option Nat=>.tuple #[aa (vk y),aa (qx y)]) (λy=>J4 top ci y) (λy=>[j2 b top (mS ci y)]):=by
 apply aF Tryz.func185 Tryz.ntmps185;intro F a2;apply J [1];haveI:cv F:=⟨a2⟩;apply ab.open 0 rfl;rintro⟨f,B,aC⟩ ⟨C,aQ⟩;apply J [83];dsimp only at aQ⊢;apply J [24,218,229,203,40];refine VL 15 rfl (c:=false) (dn U) ?_;apply J [13,136,192,159,103];refine Vf rfl (λag=>absurd ag U) (λag=>?_);apply J [4,27,173];refine ab.cut (ι:=Nat×Option Nat) (λx=>((∃i,x.2=some i/\x.1<=top/\f x.1 i=true)\/x.2=none/\2^top<=ci.length)) (λx=>[(0,ae b),(1,aa 0),(6,aa ((x.1:Nat):Int)),(7,aa (qR x.2))]) (λx=>ah [aj b 361 (iN (top+1) top B aC),b8 (λk=>gE (B k) (2^(top-k)) (f k)) (Wo (top+1)),bO QM.encI aC (jT ci) ci.length,F]) ?_ ?_;refine ab.block ?_;refine VP (ι:=Nat) (λk=>k<=top+1/\∀d,d<k->∀i,i<2^(top-d)->f d i=false) (λk=>[(0,ae b),(1,aa 0),(6,aa ((k:Nat):Int)),(7,aa (-1))]) (λk=>ah [aj b 361 (iN (top+1) top B aC),b8 (λk=>gE (B k) (2^(top-k)) (f k)) (Wo (top+1)),bO QM.encI aC (jT ci) ci.length,F]) (λk=>top+1-k) 0 ⟨Vj _,λd h=>by omega⟩ bI (an (an (an (an (aX _))))) ?_;rintro k ⟨E,eM⟩ bc;dsimp only[cy]at E eM⊢;apply J [128,158,54];refine q rfl rfl (leq rfl rfl) ?_;refine aU.nil (hW ?_);apply Vf rfl<;>intro a9;have ay:k<=top:=U
 have H:=oX (k:=k) C;refine J [60,34,268,466,467] ?_;obtain⟨V,gi,N⟩:=rZ (n:=top+1) (k:=k) U;refine aU.bg (fW 1 rfl gi) ?_;refine e rfl ?_;apply a7 (Dr (B k) (2^(top-k)) (f k) true 0 U H);intro y D;apply J [9];cases y with|none=>?_|some i=>?_
 have D:tB (f k) true (2^(top-k)) 0:=D;dsimp only[qR];refine J [64,408,108,20,132] ?_;exact⟨rfl,(k+1),⟨by omega,λd aW i aw=>by by_cases e:d=k;subst e;have:=D i (Vj _) aw;simpa using this;exact eM d U i aw⟩,U,⟨rfl,rfl,rfl,rfl,trivial⟩,(bv (cY 0 0 k rfl rfl rfl (λ_ _=>rfl) gi.symm (an (an (aX _)))))⟩;have D:yC (f k) true (2^(top-k)) 0 i:=D;dsimp only[qR];apply J [64,408,2];refine Vf rfl (λao=>?_) (λao=>absurd U ao);refine ab.exit (aL rfl (lS (lS (qw (hW ?_)))));exact⟨rfl,(k,some i),.inl ⟨i,rfl,ay,D.2.2.1⟩,bI,(bv (cY 0 0 k rfl rfl rfl (λ_ _=>rfl) gi.symm (an (an (aX _)))))⟩;have O:=aQ.none λd aW=>eM d U;apply J [75];exact⟨rfl,(k,none),.inr ⟨rfl,O⟩,bI,(an (an (an (an (aX _)))))⟩;rintro⟨k,bt⟩ E bc;dsimp only[cy]at E⊢;rcases E with⟨i,rfl,E,au⟩|⟨rfl,O⟩;dsimp only[qR];obtain⟨ay,a8⟩:=aQ.bd _ _ au;have H:=oX (k:=k) C;have a3:=aQ.take au;apply J [7,331,2];refine Vf rfl (λar=>absurd ar U) (λar=>?_);refine J [4,34,268,466,467,68] ?_;intro W;obtain⟨V,gi,N⟩:=rZ (n:=top+1) (k:=k) U;apply J [468,0];apply ew (qs (B k) (2^(top-k)) (f k) i false (cF W) 1 a8 H) ⟨_,bi.rd (ad:=some ⟨W,0,none⟩)⟩;apply J [15,2];refine ab.cut (ι:=j8×Nat) (λx=>ku x.1 top ci 0 x.2) (λx=>[(0,ae b),(1,aa 0),(7,aa ((x.2:Nat):Int))]) (λx=>ah [aj b 361 (iN (top+1) top B aC),b8 (λk=>gE (B k) (2^(top-k)) (x.1 k)) (Wo (top+1)),bO QM.encI aC (jT ci) ci.length,F]) ?_ ?_;refine ab.block ?_;refine VP (ι:=j8×Nat×Nat) (λx=>ku x.1 top ci x.2.1 x.2.2) (λx=>[(0,ae b),(1,aa 0),(6,aa ((x.2.1:Nat):Int)),(7,aa ((x.2.2:Nat):Int))]) (λx=>ah [aj b 361 (iN (top+1) top B aC),b8 (λk=>gE (B k) (2^(top-k)) (x.1 k)) (Wo (top+1)),bO QM.encI aC (jT ci) ci.length,F]) (λx=>x.2.1) (lr f k i false,k,i) a3 bI (c0 (cY 0 0 k rfl rfl xe (λx P=>by dsimp only;rw[xS _ _ _ (N x P)]) gi.symm (bU (bU (aX _))))) ?_;rintro⟨f2,d,i2⟩ w bh;dsimp only[cy]at w⊢;apply J [128,3,167,2];apply Vf rfl<;>intro a9;obtain⟨u,rfl⟩:∃u,d=u+1:=⟨d-1,by omega⟩;obtain⟨bo,a4⟩:=w.split;have bn:=w.hU;have bl:=w.it;have ba:=oX (k:=u) C;have bj:=wJ (k:=u) (top:=top) U;apply J [60,27];refine q rfl rfl (Wn (v:=((2*i2:Nat):Int)) (oc rfl rfl U U) U) ?_;apply J [28,37,3];refine q rfl rfl (Wn (v:=((u:Nat):Int)) (oo rfl rfl U U) U) ?_;refine J [268,466,467,3] ?_;refine q rfl rfl (Wn (v:=((2*i2+1:Nat):Int)) (io rfl rfl U U) U) ?_;refine J [0,150] ?_;intro Z;obtain⟨V,gi,N⟩:=rZ (n:=top+1) (k:=u) U;apply J [468,0];apply ew (qs (B u) (2^(top-u)) (f2 u) (2*i2+1) true (cF Z) 1 U ba) ⟨_,bi.rd (ad:=some ⟨Z,0,none⟩)⟩;apply J [15,246,200];refine q rfl rfl (Wn (v:=((u:Nat):Int)) (oo rfl rfl U U) U) ?_;apply J [28];exact⟨rfl,(lr f2 u (2*i2+1) true,u,2*i2),a4,cK,bI,(c0 (cY 0 0 u rfl rfl xe (λx P=>by dsimp only;rw[xS _ _ _ (N x P)]) gi.symm (bU (bU (aX _)))))⟩;obtain rfl:d=0:=U
 apply J [75];exact⟨rfl,(f2,i2),w,bI,ai⟩;rintro⟨f2,i2⟩ w bh;dsimp only[cy]at w⊢;obtain⟨a5,aP,a0⟩:=w.done;have H:=oX (k:=0) C;rw[Nat.sub_zero]at H;apply J [27];refine q rfl rfl (Wn (v:=((i2*1024:Nat):Int)) (oc rfl rfl U U) U) ?_;apply J [3];refine q rfl rfl (Wn (v:=(i2:Int)*1024) (nF (a:=i2*1024) (n:=0) (c:=i2*1024) rfl rfl U U U) U) ?_;apply J [28,122];refine q rfl rfl (c1 22 rfl rfl) ?_;apply J [84,120,22];refine l1 (v:=.int _ _) 3 3 rfl (dR.int rfl) rfl rfl rfl ?_;apply J [2,27,99];exact cT (some i2) ⟨a5,aP⟩ (az (⟨f2,B,aC⟩:tt) ⟨C,a0⟩ (bU (bU (b6 0 rfl (by dsimp only;rw[TL aP,TJ];rfl) (an (aX _))))));dsimp only[qR];apply J [7,331,2];refine Vf rfl (λaq=>?_) (λaq=>absurd (am) aq);apply J [24,326];exact cT none O (az (⟨f,B,aC⟩:tt) ⟨C,aQ⟩ (an (an (an (an (aX _))))))
theorem Dj(ci:List Nat)(w:Nat)(gi:w∈ci):bn 190 [ae b,aa ((w:Int)*1024)] ba [j2 b top ci] (aa 0) [j2 b top (ci.erase w)]:=by
 apply aF Tryz.func190 Tryz.ntmps190;intro F _;apply J [1];have D:=gi;clear gi;apply ab.open 0 rfl;rintro⟨f,B,aC⟩ ⟨E,aQ⟩;apply J [83];dsimp only at aQ⊢;have aP:=aQ.lt _ D;have aw:=oX (k:=0) E;rw[Nat.sub_zero]at aw;have ar:=aQ.Nx D;apply J [24,95,30,114,156,107,114,80];refine q rfl rfl (c1 22 rfl rfl) ?_;apply J [84,304,439];rw[Ix D];apply J [312,77,105,62,89,107,122];refine q rfl rfl (c1 22 rfl rfl) ?_;apply J [84,3,22];refine lP 3 3 rfl (dR.int rfl) rfl rfl rfl ?_;apply J [2,195];refine q rfl rfl (nF (a:=1024) (n:=0) (c:=1024) rfl rfl U rfl am) ?_;refine q rfl rfl (Wn (v:=(w:Int)) (kn rfl rfl U U U) U) ?_;apply J [28];refine ab.cut (ι:=j8×Nat×Nat) (λx=>ku x.1 top (ci.erase w) x.2.1 x.2.2) (λx=>[(0,ae b),(5,aa ((x.2.1:Nat):Int)),(7,aa ((x.2.2:Nat):Int))]) (λx=>ah [aj b 361 (iN (top+1) top B aC),b8 (λk=>gE (B k) (2^(top-k)) (x.1 k)) (Wo (top+1)),bO QM.encI aC (jT (ci.erase w)) (ci.erase w).length,F]) ?_ ?_;refine ab.block ?_;refine VP (ι:=j8×Nat×Nat) (λx=>ku x.1 top (ci.erase w) x.2.1 x.2.2) (λx=>[(0,ae b),(5,aa ((x.2.1:Nat):Int)),(7,aa ((x.2.2:Nat):Int))]) (λx=>ah [aj b 361 (iN (top+1) top B aC),b8 (λk=>gE (B k) (2^(top-k)) (x.1 k)) (Wo (top+1)),bO QM.encI aC (jT (ci.erase w)) (ci.erase w).length,F]) (λx=>top+1-x.2.1) (f,0,w) ar bI (bU (bU (b6 0 rfl (by rw[Ix D,TK aQ.bq,List.length_erase_of_mem D];rfl) (an (aX _))))) ?_;rintro⟨f2,d,i2⟩ u aA;dsimp only[cy]at u⊢;have au:=u.hU;have Z:=u.it;have N:=oX (k:=d) E;apply J [128,158,54,383,19];refine aU.split 36 rfl (λC=>?_) (λC=>?_);have C:=dz C;have ag:d<top:=U
 have aL:=wJ (k:=d) (top:=top) ag;have aW:=I0 i2;have ay:i2^^^1<2^(top-d):=U
 apply J [289,13,504,565];refine db rfl rfl rfl (lo 21 294 1 rfl rfl rfl U U) ?_;refine db rfl rfl rfl (gG rfl rfl (yZ U U)) ?_;apply J [13];refine db rfl rfl rfl (Uo (a:=i2) (b:=1) rfl rfl U U rfl) ?_;refine J [94,150] ?_;intro P;obtain⟨ao,gi,H⟩:=rZ (n:=top+1) (k:=d) U;apply J [468,94];apply ew (qs (B d) (2^(top-d)) (f2 d) (i2^^^1) false (cF P) 1 ay N) ⟨_,bi.rd (ad:=some ⟨P,0,none⟩)⟩;apply J [15];cases W:f2 d (i2^^^1)with|true=>?_|false=>?_
 apply J [160,190,12,4,72,200];refine q rfl rfl (Wn (v:=((i2/2:Nat):Int)) (kn rfl rfl U U U) U) ?_;refine J [3,146,77,320] ?_;exact⟨rfl,(lr f2 d (i2^^^1) false,d+1,i2/2),(u.merge ag W),cK,bI,(c0 (cY 0 0 d rfl rfl xe (λx O=>by dsimp only;rw[xS _ _ _ (H x O)]) gi.symm (bU (bU (aX _)))))⟩;rw[Ht W];apply J [160,456,108,75];exact⟨rfl,(f2,d,i2),u,bI,(c0 (cY 0 0 d rfl rfl rfl (λ_ _=>rfl) gi.symm (bU (bU (aX _)))))⟩;have C:=d7 C;apply J [45,45,52,149,108,75];exact⟨rfl,(f2,d,i2),u,bI,ai⟩;rintro⟨f2,d,i2⟩ u aA;dsimp only[cy]at u⊢;have au:=u.hU;have Z:=u.it;have N:=oX (k:=d) E;obtain⟨a0,aq⟩:=u.fill;refine J [34,268,466,467,68] ?_;intro V;obtain⟨ao,gi,H⟩:=rZ (n:=top+1) (k:=d) U;apply J [468,0];apply ew (qs (B d) (2^(top-d)) (f2 d) i2 true (cF V) 1 Z N) ⟨_,bi.rd (ad:=some ⟨V,0,none⟩)⟩;apply J [15,118];exact e9 (az (⟨lr f2 d i2 true,B,aC⟩:tt) ⟨E,aq⟩ (c0 (cY 0 0 d rfl rfl xe (λx O=>by dsimp only;rw[xS _ _ _ (H x O)]) gi.symm (bU (bU (aX _))))))
end Go.Proofs.Q
namespace Go.QM
open Go
section
variable {r : Option Nat} {P : Program} {N : Nat} {ops : Array Oper} {l : List Oper} {Q : fk} {ag : Env} {aP : List Deferred} {A : ay} {K : Value → ay → Prop}
variable {d : Option Tmp} {ty : TypeId} {ps : String} {bh : Array Edge} {g : Option (Nat × Bool)}
variable {t t' : TypeId} {x y z u : Operand}
variable{hs rest:List ay}
theorem K7{f:FuncId}{w:Operand}{vs:List Value}{u:List Operand}{N:Array TypeId}{rd:ay->Prop}{pre:List ay}{Y:Type}{res:Y->Value}{φ:Y->Prop}{post:Y->List ay}
    (spec:eF P f vs rd pre res φ post) (D:bc ag w=.func (.func f) #[] #[]) (C:lT ag u=vs) (E:lI hs pre rest) (H:rd (ah rest)) (k:∀y,φ y->K (res y) (ah (post y++rest))):
    ck r P ag ⟨d,.call ⟨.value w,u.toArray,N⟩,ty,ps,bh,g⟩ (ah hs) K:=
  k5 (lb:=[]) (vs:=vs) (by simpa using spec) D C E H k
variable{ad:Option Addr}{cap n j:Nat}
theorem St(E sz:Nat){i mx:Nat}(V:hd P t E sz=true)(W:bc ag x=.slice ad n cap)(Z:bc ag y=aa i)(ao:bc ag z=aa j)(hu:bc ag u=aa mx)(H:i<=j)(N:j<=mx)(O:mx<=cap):
    bE P ag ⟨d,.slice t x (some y) (some z) (some u),ty,ps,bh,g⟩ A (.slice (dL ad mx i sz) (j-i) (mx-i)):=
  λw _=>by
   have eB:(Wg (aa mx) cap .slice3Acap).run P w=.ok mx w:=by simp[Wg,asIntOf,O]
   have C:(Wg (aa j) mx .slice3B).run P w=.ok j w:=by simp[Wg,asIntOf,N]
   have D:(Wg (aa i) j .slice3C).run P w=.ok i w:=by simp[Wg,asIntOf,H]
   simp[execOp,Instr.sliceAt,Instr.slice,Instr.sliceBounds,W,Z,ao,hu,h0 V,eB,C,D,dL]
theorem Sw(E sz:Nat){i:Nat}(u:hd P t E sz=true)(w:bc ag x=.slice ad n cap)(C:bc ag y=aa i)(D:bc ag z=aa j)(H:i<=j)(N:j<=cap):
    bE P ag ⟨d,.slice t x (some y) (some z) none,ty,ps,bh,g⟩ A (.slice (dL ad cap i sz) (j-i) (cap-i)):=by have h:=xW (P:=P) (A:=A) (d:=d) (ty:=ty) (ps:=ps) (bh:=bh) (g:=g) E sz u w C D U U U;trivial
theorem KR(E sz:Nat)(u:hd P t E sz=true)(C:bc ag x=.slice ad n cap):
    bE P ag ⟨d,.call ⟨.builtin .cap,#[x],#[t]⟩,ty,ps,bh,g⟩ A (aa cap):=
  λw _=>by simp[execOp,resolve,invoke,builtin,Builtin.cap_,C,h0 u,goInt]
variable{sz:Nat}
theorem wj{E aw m D:Nat}{C:Option Addr}{cs u N:List Value}(k:Nat)(a7:hd P t E sz=true)(ar:bc ag x=.slice (dL ad cap j sz) (n-j) (cap-j))(a8:bc ag y=.slice C m D)
    [H:pl hs ad E sz n cap cs rest] [hr:bi (ah hs) C aw u] (bj:j<n) (hm:m*sz<=u.length) (a2:Nat.min m (n-j)=k) (O:0<sz) (ay:(u.take (k*sz)).all VO=true) (ao:dM (j*sz) (u.take (k*sz)) cs=N)
    (a9:K (aa k) (ah (aZ E sz ad n cap N::rest))):ck r P ag ⟨d,.call ⟨.builtin .copy,#[x,y],#[t,t']⟩,ty,ps,bh,g⟩ (ah hs) K:=by
 refine ck.run rfl λw V=>?_;have aP:cs.length=n*sz:=(by obtain⟨i,H⟩:=H.tk;obtain⟨bd,bo,a,b,ba,rfl,O,bn⟩:=V.bg (fG H);exact(m5 O).1);have aL:0<cs.length:=by rw[aP];exact Nat.mul_pos U O
 obtain⟨af,pre,au,rfl,f2,f3,f4,f5,W⟩:=xX V H.tk aL;have aA:w.heap[af]? =some (.cells (pre++cs++au).toArray E (0,0)):=(iA (na af E _)).sat W;have a3:k<=m:=cm
 have bl:k<=n-j:=cm
 have a4:k*sz<=u.length:=Nat.le_trans (VR _ a3) hm;have aF:(u.take (k*sz)).length=k*sz:=b2
 have Z:j*sz+(u.take (k*sz)).length<=cs.length:=(by rw[aF,f2,<-V8];exact VR _ U);have aq:=vg (P:=P) (off:=pre.length+j*sz) aA AW ay;rw[xZ Z,ao]at aq;have a5:dL (some (⟨af,pre.length,none⟩:Addr)) cap j sz=some ⟨af,pre.length+j*sz,none⟩:=(by rw[dL,al U];simp[iB]);rw[a5]at ar;have a0:VG sz k (.slice C m D)=VG sz k (.slice C k D):=by cases C<;>rfl
 have aW:(VG sz k (.slice C m D)).run P w=.ok (u.take (k*sz)).toArray w:=by rw[a0];exact qB (hr.rd.sat V) a4
 refine⟨aa k,w.setRow af (pre++N++au).toArray,_,.inl ?_,⟨rfl,rfl,rfl,by simp⟩,xY W f2 f3 f4 f5 (by rw[<-ao];exact ve Z),a9⟩;simp[execOp,resolve,invoke,builtin,Builtin.copy_,ar,a8,h0 a7,XO,a2,aW,aq,goInt]
theorem Kd{E i C:Nat}{cs D:List Value}(bytes:Nat)(a2:hd P t E sz=true)(a3:hd P t' E sz=true)(aF:rx P E sz bytes=true)(a4:bc ag x=.slice ad i cap)(a5:bc ag y=.slice (dL ad cap j sz) (n-j) C)
    [u:pl hs ad E sz n cap cs rest] (ba:i<=j) (aP:j<=n) (ao:0<n) (H:0<sz) (O:cs.all VO=true) (ar:dM (i*sz) (cs.drop (j*sz)) cs=D)
    (k:K (.slice ad (i+(n-j)) cap) (ah (aZ E sz ad n cap D::rest))):ck r P ag ⟨d,.call ⟨.builtin .append,#[x,y],#[t,t']⟩,ty,ps,bh,g⟩ (ah hs) K:=by
 refine ck.run rfl λw N=>?_;have Z:cs.length=n*sz/\n<=cap:=(by obtain⟨i,u⟩:=u.tk;obtain⟨a9,bl,a,b,a7,rfl,H,bi⟩:=N.bg (fG u);exact⟨(m5 H).1,(m5 H).2.1⟩);have aW:cQ (ah hs) E (dL ad cap j sz) (cs.drop (j*sz)):=(by obtain⟨i,u⟩:=u.tk;exact CU (vL (D6 i u) (yF E sz ad n cap cs)) Z.1 aP Z.2);have aA:0<cs.length:=b2
 obtain⟨inf,z0,bd,bn,bj,a8,bo⟩:=t7 aF;obtain⟨af,pre,aw,rfl,f2,f3,f4,f5,V⟩:=xX N u.tk aA;have ay:w.heap[af]? =some (.cells (pre++cs++aw).toArray E (0,0)):=(iA (na af E _)).sat V;have W:(cs.drop (j*sz)).length=(n-j)*sz:=by grind[Nat.sub_mul]
 have a0:i+(n-j)<=cap:=U
 have aq:i*sz+(cs.drop (j*sz)).length<=cs.length:=by rw[W,f2,<-V8];exact VR _ U
 have au:=vg (P:=P) (off:=pre.length+i*sz) ay (vs:=cs.drop (j*sz)) AW (by rw[List.all_eq_true]at O⊢;exact λv hv=>O v (List.mem_of_mem_drop hv));rw[xZ aq,ar]at au;have aL:(VG sz (n-j) (.slice (dL (some ⟨af,pre.length,none⟩) cap j sz) (n-j) C)).run P w=.ok (cs.drop (j*sz)).toArray w:=(by have:=qB (P:=P) (w:=w) (sz:=sz) (m:=n-j) (c:=C) (aW.sat N) (by rw[W];exact Vi _);grind);refine⟨.slice (some ⟨af,pre.length,none⟩) (i+(n-j)) cap,w.setRow af (pre++D++aw).toArray,_,.inl ?_,⟨rfl,rfl,rfl,by simp⟩,xY V f2 f3 f4 f5 (by rw[<-ar];exact ve aq),k⟩;simp only[execOp,resolve,invoke,builtin,Builtin.append_,List.map_toArray,List.map_cons,List.map_nil,VB,VT,Vo,a4,a5,List.getElem?_toArray,List.getElem?_cons_zero,List.getElem?_cons_succ,h0 a2,h0 a3,XO,Bool.false_eq_true,if_false];rw[ax a0];simp only[VB,Bool.not_false,if_true,aL,Vo,iB,au,VT]
theorem Ke{E i k W:Nat}{cs zs:List Value}{z0:Value}(bytes:Nat)(N:hd P t E sz=true)(O:sN P t' .i64=true)(ar:rx P E sz bytes=true)(bd:lA P E=some z0)(a9:bc ag x=.slice ad i cap)(ba:bc ag y=aa k)
    [hr:bi (ah hs) ad W cs] (hm:i*sz<=cs.length) (Z:0<k) (a7:0<sz) (D:cap<i+k) (ao:(i+k)*bytes<=140737488355328) (aF:i+k<=maxLen) (bn:(VA k z0.cells.toList).flatten=zs)
    (a3:∀b u,K (.slice (cF b) (i+k) u) (ah (aZ E sz (cF b) (i+k) u (cs.take (i*sz)++zs)::hs))):ck r P ag ⟨d,.call ⟨.builtin .append,#[x,y],#[t,t']⟩,ty,ps,bh,g⟩ (ah hs) K:=by
 obtain⟨inf,z,aA,aW,aP,C,bj⟩:=t7 ar;have a2:z=z0:=by grind[lA]
 subst a2;refine ck.run rfl λw H=>?_;have hold:(VG sz i (.slice ad i cap)).run P w.drew=.ok (cs.take (i*sz)).toArray w.drew:=qB (hr.rd.sat (w:=w.drew) H) hm;have a5:maxLen=9223372036854775807:=rfl;have V:P.underlying t=some (.slice E)/\P.underlying t'=some (.int .i64):=(by constructor;(·unfold hd at N;split at N;all_goals simp_all);·unfold sN at O;split at O;all_goals simp_all);have aw:=grownCap_ge w (i+k) cap E;have aq:=grownCap_le_maxLen w (i+k) cap E aF;have au:=growslice_fits (need:=i+k) (old:=cap) (bytes:=bytes) D ao;have a4:k*bytes<=(i+k)*bytes:=cm
 have a8:=Lib.run_append_grow_zeros (P:=P) w t t' ty E inf z .i64 .i64 V.1 V.2 aA aW ad i cap (cs.take (i*sz)) (by rw[aP];exact hold) k Z U D U (by rw[C];omega) (by rw[C];exact au);refine⟨.slice (cF w.heap.size) (i+k) (grownCap w (i+k) cap E),w.drew.alloc (.cells ((cs.take (i*sz)).toArray++VH z.cells k++VH z.cells (grownCap w (i+k) cap E-(i+k))) E),_,.inl ?_,?_,?_,a3 w.heap.size (grownCap w (i+k) cap E)⟩;grind[execOp,resolve,invoke,builtin,VB,VT,Vo];exact⟨rfl,rfl,rfl,by simp⟩;have bl:(VH z.cells k).toList=zs:=(by grind[CF,VH]);have a0:zs.length=k*sz:=by grind[size_zeroCells]
 refine(o0 _ (show sat w.drew (ah hs)from H)).bg (dT (hR λh ay=>?_) (aG.refl _));refine⟨([],(VH z.cells (grownCap w (i+k) cap E-(i+k))).toList),⟨rfl,?_,aw,aq,?_⟩,?_⟩;grind;have aL:(VH z.cells (grownCap w (i+k) cap E-(i+k))).toList.length=(grownCap w (i+k) cap E-(i+k))*sz:=by grind[size_zeroCells]
 dsimp only;rw[mp,WN,a0,aL,W9 hm,<-V8,<-V8];simp_all;simp only[aj];have e:([]++(cs.take (i*sz)++zs)++(VH z.cells (grownCap w (i+k) cap E-(i+k))).toList).toArray=(cs.take (i*sz)).toArray++VH z.cells k++VH z.cells (grownCap w (i+k) cap E-(i+k)):=b2;rw[e];exact ay
theorem QF{bZ:List ay}{f:FuncId}{fn:Func}{S R E bR a8 Gc c2 au d1 aw d2:Nat}{Z aq:Option Addr}{N O:List Value}(bl:P.funcs[f]? = some fn)(bo:(fn.name == "runtime.NumGoroutine") = false)(bj:fn.body.isNone = true)(ao:Extern.findNext fn = none)
    (he:Extern.find fn=some (Extern.SlicesOverlaps.overlaps #[S,S] #[R])) (C:hd P S E sz=true) (V:lT ag [x,y]=[.slice Z au d1,.slice (dL aq c2 j sz) aw d2]) (i1:Nat)
    (bd:eV i1 hs=some (aZ E sz Z bR a8 N,rest)) (ar:∃q,eV q rest=some (aZ E sz aq Gc c2 O,bZ)) (ga:0<N.length) (hx:0<O.length) (cg:j<c2) {b0:Array TypeId}
    (k:K (.bool false) (ah hs)):ck r P ag ⟨d,.call ⟨.value (.func f),#[x,y],b0⟩,ty,ps,bh,g⟩ (ah hs) K:=by refine ck.run rfl λw aW=>⟨.bool false,w,_,.inl ?_,fw.refl w,aW,k⟩;obtain⟨q,ar⟩:=ar;obtain⟨cf,a3,a,b,aA,rfl,aF,bi⟩:=aW.bg (fG bd);obtain⟨cc,aB,a2,bD,cd,a9,aL,ce⟩:=fG ar b bi;cases Z with|none=>obtain⟨⟨_,_,e⟩,_⟩:=aF;rw[e]at ga;simp at ga|some bS=>(cases aq with|none=>obtain⟨⟨_,_,e⟩,_⟩:=aL;rw[e]at hx;simp at hx|some bV=>obtain⟨⟨W,a5⟩,⟨f1,-,-,-,-⟩,g1⟩:=aF;obtain⟨⟨D,a7⟩,⟨f2,-,-,-,-⟩,g2⟩:=aL;obtain⟨H,ch,s1⟩:=bS;obtain⟨u,ci,s2⟩:=bV;simp only[Addr.mk.injEq,true_and]at f1 f2;obtain⟨rfl,rfl⟩:=f1;obtain⟨rfl,rfl⟩:=f2;dsimp only at g1 g2;(have bN:a H=some (.cells (W++N++a5).toArray E (0,0)):=by rw[g1];simp);have a4:b u=some (.cells (D++O++a7).toArray E (0,0)):=aB _ _ (by rw[a9];exact qF a2 bD _ _ (by rw[g2];simp));have bt:H≠u:=λe=>(by subst e;rcases aA H with h|h;rw[bN]at h;cases h;rw[a4]at h;cases h);have cI:=a3 _ _ (qF a b _ _ bN);have b7:=a3 _ _ (uq aA _ _ a4);(have ba:dL (some (⟨u,D.length,none⟩:Addr)) c2 j sz=some ⟨u,D.length+j*sz,none⟩:=by rw[dL,al U];simp[iB]);rw[ba]at V;have a0:P.underlying S=some (.slice E)/\∀w,(Go.sizeOf E).run P w=.ok sz w:=(by refine⟨?_,λw=>(h0 C w).2⟩;unfold hd at C;split at C;rename_i e h;simp only[Bool.and_eq_true]at C;rw[h];congr 2;exact Nat.eq_of_beq_eq_true C.1;cases C);have bH:=Lib.run_overlaps_apart (P:=P) w S R E a0.1 sz a0.2 ⟨H,W.length,none⟩ ⟨u,D.length+j*sz,none⟩ au d1 aw d2 bt E E (W++N++a5).length (D++O++a7).length (by simp[World.shape?,cI]) (by simp[World.shape?,b7]) (by simp only[mp];omega) (by simp[World.frozen?,cI]) (by simp[World.frozen?,cI]);have aP:=run_callFunc_extern bl bo bj ao he #[.slice (some ⟨H,W.length,none⟩) au d1,.slice (some ⟨u,D.length+j*sz,none⟩) aw d2] w;rw[bH]at aP;simp only[lT,List.cons.injEq,and_true]at V;have bn:bc ag (.func f)=.func (.func f) #[] #[]:=rfl;simp[execOp,resolve,Deferred.ofValue,invoke,bn,V.1,V.2,aP])
end
theorem HQ{l vs:List Value}{a:Nat}(h:l.length<=a+vs.length):dM a vs l=l.take a++vs:=by grind[dM,Wv]
theorem SD{E sz n cap:Nat}{ad:Option Addr}{cs:List Value}{m:Nat}(h:n+m<=cap):aG (aZ E sz ad n cap cs) (fg λe:List Value=>pure' (e.length=m*sz) (ah [aZ E sz ad (n+m) cap (cs++e)])):=by
 cases ad with
 | none=>
   rintro u ⟨⟨rfl,rfl,rfl⟩,w⟩
   obtain rfl:m=0:=by omega
   obtain⟨C,s,k⟩:=o1 (A:=aZ E sz none 0 0 ([]++[])) u ⟨⟨rfl,rfl,rfl⟩,w⟩
   exact⟨C,s,[],by simp,k⟩
 | some p=>
   intro u ⟨⟨pre,d⟩,⟨H,N,Z,V,W⟩,w⟩
   dsimp only at H N W w
   have O:(n+m)*sz<=cap*sz:=VR _ h
   have D:(d.take (m*sz)).length=m*sz:=by rw[WN];rw[V8]at O;omega
   have key:aZ E sz (some p) (n+m) cap (cs++d.take (m*sz)) u:=
     ⟨(pre,d.drop (m*sz)),⟨H,by rw[mp,D,N,V8],h,V,by dsimp only;rw[mp,D,List.length_drop];rw[V8]at O;omega⟩,by
       dsimp only
       have P:pre++(cs++d.take (m*sz))++d.drop (m*sz)=pre++cs++d:=by simp[VJ,V4]
       rw[P];exact w⟩
   obtain⟨C,s,k⟩:=o1 (A:=aZ E sz (some p) (n+m) cap (cs++d.take (m*sz))) u key
   exact⟨C,s,d.take (m*sz),D,k⟩
end Go.QM
namespace Go.Proofs.Q
open Go Go.QM
def uR(B:Nat->Nat)(p:cg):List Value:=[.pointer (some ⟨(B p.aD),0,none⟩),.int .i64 ((p.aD:Int)*1024)]
variable(B:Nat->Nat)
theorem uS(p:cg):(uR B p).length=2:=rfl
def fr(B:Nat->Nat)(L:List cg):List Value:=L.flatMap (uR B)
theorem xC(L:List cg):(fr B L).length=L.length*2:=kC (uS B) L
theorem Bp(B:Nat->Nat):∀L:List cg,(fr B L).all VO=true
 | []=>rfl
 | p::L=>by have:=Bp B L;rw[fr]at this⊢;rw[VD,List.all_append,this];rfl
theorem xB(L M:List cg):fr B (L++M)=fr B L++fr B M:=by simp[fr]
theorem GO(L:List cg)(i:Nat):(fr B L).take (i*2)=fr B (L.take i):=wA (uS B) L i
theorem GL(L:List cg)(i:Nat):(fr B L).drop (i*2)=fr B (L.drop i):=zL (uS B) L i
variable{L:List cg}{p:cg}
theorem xD{B:Nat->Nat}{i:Nat}(h:L[i]? =some p):((fr B L).drop (i*2)).take 2=[.pointer (some ⟨(B p.aD),0,none⟩),aa ((p.aD:Int)*1024)]:=nk (uS B) h
def nd(a b:Int):Int:=if a<b then -1 else if b<a then 1 else 0
theorem DK{a b:Int}:nd a b<0↔a<b:=by unfold nd;omega
theorem DJ{a b:Int}:nd a b=0↔a=b:=by unfold nd;omega
def vx(L:List cg)(t:Int)(y:Nat×Bool):Prop:=y.1<=L.length/\(∀k p,L[k]? =some p->(k<y.1↔(p.aD:Int)*1024<t))/\(y.2=true↔∃p,L[y.1]? =some p/\(p.aD:Int)*1024=t)
variable{k:Nat}
theorem Oa{cs e vs:List Value}{n:Nat}(w:cs.length=n*2)(he:e.length=1*2)(hv:vs.length=2)(D:k<n):
 dM (k*2) vs (dM ((k+1)*2) (((cs++e).drop (k*2)).take ((n-k)*2)) (cs++e))=cs.take (k*2)++vs++cs.drop (k*2):=by
 have d:((cs++e).drop (k*2)).take ((n-k)*2)=cs.drop (k*2):=(by grind[VS]);have C:(cs.drop (k*2)).length=n*2-k*2:=b2
 have u:dM ((k+1)*2) (cs.drop (k*2)) (cs++e)=(cs++e).take ((k+1)*2)++cs.drop (k*2):=(by grind[HQ])
 rw[d,u,dM,hv,WG (by rw[WN,mp];omega),List.take_take,W9 U,WG U,
  XE,Wv (by rw[WN,mp];omega),Vx]
 congr 1;have:k*2+2-((cs++e).take ((k+1)*2)).length=0:=cm
 simp_all
theorem N8{cs vs zs:List Value}{n:Nat}(w:cs.length=n*2)(E:zs.length=(n+1-k)*2)(hv:vs.length=2)(D:k<n):
 dM ((k+1)*2) ((cs.drop (k*2)).take ((n-k)*2)) (dM (k*2) (vs.take (1*2)) (cs.take (k*2)++zs))=cs.take (k*2)++vs++cs.drop (k*2):=by
 have C:(cs.drop (k*2)).length=n*2-k*2:=b2
 have d:(cs.take (k*2)).length=k*2:=cm
 rw[VS (by omega:(cs.drop (k*2)).length<=(n-k)*2),VS (by omega:vs.length<=1*2)];have u:dM (k*2) vs (cs.take (k*2)++zs)=cs.take (k*2)++vs++zs.drop 2:=(by rw[dM,WG U,VS U,hv,XE,Wv U,Vx,d];simp_all);grind[HQ]
theorem L0{cs d:List Value}{n:Nat}(u:cs.length=n*2)(w:k<n)(h:d.take ((n-1)*2)=(dM (k*2) (cs.drop ((k+1)*2)) cs).take ((n-1)*2)):d.take ((n-1)*2)=cs.take (k*2)++cs.drop ((k+1)*2):=by grind[dM,VS]
theorem Fk(x:Int):bn 289 [aa x] ba [] (.bool false) []:=by apply aF Tryz.func289 Tryz.ntmps289;intro F _;apply J [8,127,195,87,70];exact b4.i () [_] ⟨rfl,trivial⟩ (congrArg Value.bool cE) trivial (an (aX _))
theorem Ll(x y:Int):bn 229 [aa x,aa y] ba [] (aa (nd x y)) []:=by
 apply aF Tryz.func229 Tryz.ntmps229;intro F _;apply J [8,106,138];apply aq (Fk x);apply J [151,38,138];apply aq (Fk y);apply J [151,105,62,121,62,121,195,183];apply Vf rfl<;>intro d;have hv:nd x y=-1:=ax d;rw[hv];apply J [139];exact j7;apply J [44,195,167,2];apply Vf rfl<;>intro u;have hv:nd x y=1:=by rw[nd,al d,ax u]
 rw[hv];apply J [139];exact j7;have hv:nd x y=0:=by rw[nd,al d,al u]
 rw[hv];apply J [4,201];exact j7
theorem MF(v:Option Addr)(x y:Int):bn 228 [.agg #[.pointer v,aa x],aa y] ba [] (aa (nd x y)) []:=by apply aF Tryz.func228 Tryz.ntmps228;intro F _;refine J [186,513] ?_;intro bb;apply J [28,265,29];apply aq (Ll x y);apply J [5,26];exact dh
theorem KJ(L:List cg)(ad:Option Addr)(cap:Nat)(t:Int)(hs:L.Pairwise λa b=>a.aD<b.aD)(ay:L.length<=1048576):bH 227 [.slice ad L.length cap,aa t,.func (.func 228) #[] #[]] (λF=>∃E,cQ F E ad (fr B L)) [] (λy:Nat×Bool=>.tuple #[aa y.1,.bool y.2]) (λy=>vx L t y) (λ_=>[]):=by
 apply aF Tryz.func227 Tryz.ntmps227;intro F ⟨E,ag⟩;apply J [8];haveI:bi F ad E (fr B L):=⟨ag⟩;have aw:=xC B L;apply J [24,184,33,391,64,218,72];refine ab.loop (ι:=Nat×Nat) (λx=>(x.1<=x.2/\x.2<=L.length)/\(∀k gb,L[k]? =some gb->k<x.1->(gb.aD:Int)*1024<t)/\(∀k gb,L[k]? =some gb->x.2<=k->t<=(gb.aD:Int)*1024)) (λx=>[(0,.slice ad L.length cap),(1,aa t),(2,.func (.func 228) #[] #[]),(8,aa L.length),(9,aa ((x.1:Nat):Int)),(10,aa ((x.2:Nat):Int))]) (λx=>ah [F]) (λx=>x.2-x.1) (0,L.length) ⟨⟨Vj _,Vi _⟩,λk gb _ h=>absurd h (Nat.not_lt_zero _),λk gb h N=>absurd (Vm.1 h).1 (by dsimp only at N;omega)⟩ bI (an (aX _)) ?_;rintro⟨i,j⟩ ⟨⟨aq,H⟩,V,O⟩ aP;dsimp only[cy]at aq H V O⊢;apply J [128,3,183];apply Vf rfl<;>intro aL;have ao:(i+j)/2<L.length:=U
 obtain⟨gb,d⟩:∃gb,L[(i+j)/2]? =some gb:=⟨L[(i+j)/2],Vc ao⟩;have au:0<(fr B L).length:=U
 apply J [4,72,195];refine q rfl rfl (Wn (v:=((i+j:Nat):Int)) (io rfl rfl U U) U) ?_;refine J [307] ?_;refine q rfl rfl (jS (n:=1) (c:=(i+j)/2) rfl rfl U (by rw[Nat.pow_one])) ?_;refine J [308,28,24] ?_;refine q rfl rfl (fR (v:=.func _ _ _) rfl) ?_;refine J [319,514] ?_;refine q rfl rfl (gH (vs:=[_,_]) 2 rfl rfl (xD d) rfl am) ?_;refine J [29,583] ?_;intro _ _;apply J [151,183];apply Vf rfl<;>intro D;have D:(gb.aD:Int)*1024<t:=by grind[DK]
 apply J [200];refine q rfl rfl (Wn (v:=(((i+j)/2+1:Nat):Int)) (io rfl rfl U U) U) ?_;apply J [320];exact⟨rfl,((i+j)/2+1,j),⟨⟨by dsimp only;omega,H⟩,λk r u P=>by dsimp only at P;by_cases e:k=(i+j)/2;subst e;rw[d]at u;cases u;exact D;obtain⟨g1,g2⟩:=Vm.1 u;obtain⟨g3,g4⟩:=Vm.1 d;have:=(WB.1 hs) k ((i+j)/2) g1 g3 U;rw[g2,g4]at this;omega,O⟩,cK,⟨rfl,rfl,rfl,rfl,rfl,rfl,trivial⟩,ai⟩;have D:¬(gb.aD:Int)*1024<t:=λh=>D (DK.2 h);apply J [200,320];exact⟨rfl,(i,(i+j)/2),⟨⟨by dsimp only;omega,by dsimp only;omega⟩,V,λk r u P=>by dsimp only at P;by_cases e:k=(i+j)/2;subst e;rw[d]at u;cases u;omega;obtain⟨g1,g2⟩:=Vm.1 u;obtain⟨g3,g4⟩:=Vm.1 d;have:=(WB.1 hs) ((i+j)/2) k g3 g1 U;rw[g2,g4]at this;omega⟩,cK,⟨rfl,rfl,rfl,rfl,rfl,rfl,trivial⟩,ai⟩;obtain rfl:i=j:=U
 have W:∀k p,L[k]? =some p->(k<i↔(p.aD:Int)*1024<t):=λk p Z=>⟨V k p Z,λh=>by by_cases e:k<i;exact e;have:=O k p Z U;omega⟩;apply J [75,27,120,383,19];refine aU.split 39 rfl (λw=>?_) (λw=>?_);have w:=dz w;have ar:i<L.length:=U
 obtain⟨gb,d⟩:∃gb,L[i]? =some gb:=⟨L[i],Vc ar⟩;have au:0<(fr B L).length:=U
 refine db rfl rfl rfl (fR (v:=.func _ _ _) rfl) ?_;apply J [392,13];refine db rfl rfl rfl (ht 296 2 rfl rfl rfl U eA) ?_;refine db rfl rfl rfl (gH (vs:=[_,_]) 2 rfl rfl (xD d) rfl am) ?_;refine J [239,583] ?_;intro _ _;apply J [151,160,456,77,70];exact cT (i,decide (nd ((gb.aD:Int)*1024) t=0)) ⟨H,W,⟨λh=>⟨gb,d,DJ.1 (dz h)⟩,λ⟨p,C,N⟩=>c7 (DJ.2 (by rw[d]at C;cases C;exact N))⟩⟩ ai;have w:=d7 w;apply J [45,45,149,77,70];exact cT (i,false) ⟨H,W,⟨λh=>(by cases h),λ⟨p,C,_⟩=>absurd (Vm.1 C).1 U⟩⟩ (an (aX _))
theorem QP(ad:Option Addr)(cap n k:Nat)(cs:List Value)(N:k<n)(ao:n<=1048576)(D:cs.length=n*2)(W:n<=cap)(V:cap<=maxLen)(C:cs.all VO=true):bn 296 [.slice ad n cap,aa k,aa ((k:Int)+1)] ba [aZ 296 2 ad n cap cs] (.slice ad (n-1) cap) [aZ 296 2 ad (n-1) cap (cs.take (k*2)++cs.drop ((k+1)*2))]:=by
 apply aF Tryz.func296 Tryz.ntmps296;intro F _;apply J [1];have ag:maxLen=9223372036854775807:=rfl;have u:((k:Nat):Int)+1=((k+1:Nat):Int):=U
 rw[u];apply J [115,33,120,93,391];refine q rfl rfl (St (i:=k) (j:=k+1) (mx:=n) 296 2 rfl rfl rfl rfl rfl U U U) ?_;apply J [30,195,212];refine Vf rfl (λd=>absurd d U) (λd=>?_);apply J [4,33,391,31];refine cC [0,1,2,3,4,5,-6,7] (aX _) ?_;apply J [205];refine bY rfl rfl rfl (nG 296 2 k rfl rfl rfl rfl U) ?_;refine J [205,584,17] ?_;refine Kd 16 rfl rfl rfl rfl rfl U U U am C rfl ?_;refine J [10,369,73,7] ?_;have w:k+(n-(k+1))=n-1:=U
 rw[w];apply J [113,93,391,3];refine q rfl rfl (Sw 296 2 rfl rfl rfl rfl U U) ?_;refine eB ?_;refine zh (n:=n) (E:=296) (sz:=2) (z:=.agg #[.pointer none,aa 0]) (n-1) rfl rfl rfl rfl am rfl rfl U ?_;intro P Z O;apply J [2,33,61];have H:=L0 D N O;exact e9 (D3 0 rfl (p1 (j:=n-1) U) (by rw[H];exact(an (an (aX _)))))
theorem QQ(ad N:Option Addr)(cap aq n k:Nat)(cs vs:List Value)(bc:k<=n)(ao:n<=1048576)(u:cs.length=n*2)(hv:vs.length=2)(ay:n<=cap)(a5:cap<=maxLen)(a7:1<=aq)(a2:cs.all VO=true)(O:vs.all VO=true):bH 239 [.slice ad n cap,aa k,.slice N 1 aq] ba [aZ 296 2 ad n cap cs,aZ 296 2 N 1 aq vs] (λy:Option Addr×Nat=>.slice y.1 (n+1) y.2) (λ_=>True) (λy=>[aZ 296 2 y.1 (n+1) y.2 (cs.take (k*2)++vs++cs.drop (k*2))]):=by
 apply aF Tryz.func239 Tryz.ntmps239;intro F _;apply J [11];have bh:maxLen=9223372036854775807:=rfl;refine J [115,314,515,2,33,391,31,27,297,107,33,391,31,195,212] ?_;apply Vf rfl<;>intro bd;obtain rfl:k=n:=U
 apply J [33,271];refine ap 16 rfl rfl rfl rfl rfl U (show vs.take (1*2)=vs from VS U) O U gr ?_;intro Z ar;apply J [174,74];have D:cs.take (k*2)++vs++cs.drop (k*2)=cs++vs:=cm
 exact br (Z,ar) trivial (by rw[D];exact(an (bU (aX _))));have P:k<n:=U
 refine J [44,195,146,93] ?_;refine q rfl rfl (KR 296 2 rfl rfl) ?_;apply J [167,2];apply Vf rfl<;>intro a3;have a4:cap<k+(n+1-k):=U
 have a0:(VA (n+1-k) [Yi none,aa 0]).flatten.length=(n+1-k)*2:=cE
 apply J [314];refine q rfl rfl (nG 296 2 k rfl rfl rfl rfl U) ?_;refine J [120,146,3] ?_;refine q rfl rfl (Wn (v:=((n+1-k:Nat):Int)) (oo rfl rfl U U) U) ?_;refine e rfl ?_;refine Ke (E:=296) (sz:=2) (i:=k) (k:=n+1-k) (cs:=cs) (z0:=.agg #[.pointer none,aa 0]) (zs:=(VA (n+1-k) [Yi none,aa 0]).flatten) 16 rfl rfl rfl rfl rfl rfl U U am U U gr rfl ?_;intro ag au;have aw:k+(n+1-k)=n+1:=U
 rw[aw];apply J [182];haveI:sp cs cap k 2:=⟨n,u,by omega,ay⟩;have aW:(vs.take (1*2)).all VO=true:=cm
 have C:((cs.drop (k*2)).take ((n-k)*2)).all VO=true:=cm
 have w:(cs.drop (k*2)).length=(n-k)*2:=cm
 have D:=N8 u a0 hv P;refine J [113,3,515,271] ?_;refine wj (n:=n+1) (j:=k) 1 rfl rfl rfl U U (show min _ _=_ from by omega) am aW rfl ?_;apply J [30];refine cC [0,1,2,3,4,5,6,7,-8] (aX _) ?_;refine J [205,16,374] ?_;refine bY rfl rfl rfl (om 296 2 (k+1) rfl rfl rfl U U) ?_;apply J [205];refine bY rfl rfl rfl (om 296 2 k rfl rfl rfl rfl U) ?_;refine dY rfl rfl ?_;refine wj (n:=n+1) (j:=k+1) (n-k) rfl rfl rfl U (by rw[w];exact Vi _) (show min _ _=_ from by omega) am C D ?_;refine J [110,33,174,74] ?_;exact br (some ⟨ag,0,none⟩,au) trivial ai;have V:n+1<=cap:=U
 apply J [4,33,120];refine q rfl rfl (Wn (v:=((n+1:Nat):Int)) (io rfl rfl U U) U) ?_;refine q rfl rfl (nG 296 2 (n+1) rfl rfl rfl rfl U) ?_;apply J [182,7];refine ab.bg (D3 0 rfl (SD (m:=1) V) (Mm _)) ?_;refine ab.open 0 rfl (λd H=>?_);obtain es:=d;have a9:=H;apply J [11];haveI:sp (cs++d) cap k 2:=⟨n+1,by rw[mp,u,H];omega,by omega,V⟩;have W:vs.take (1*2)=vs:=cm
 have aL:=Oa u H hv P;have a8:((cs++d).drop (k*2)).take ((n-k)*2)=cs.drop (k*2):=(by grind[VS]);have C:(((cs++d).drop (k*2)).take ((n-k)*2)).all VO=true:=cm
 have w:((cs++d).drop (k*2)).length=(n+1-k)*2:=cm
 have aP:0<(cs++d).length:=b2
 apply J [113,93,120];refine q rfl rfl (Wn (v:=((k+1:Nat):Int)) (io rfl rfl U U) U) ?_;refine q rfl rfl (om 296 2 (k+1) rfl rfl rfl rfl U) ?_;refine e rfl ?_;refine QF (S:=291) (R:=4) (Gc:=n+1) (c2:=cap) (j:=k+1) Tryz.func293 aV aV aV aV rfl rfl 1 rfl ⟨0,rfl⟩ U aP U ?_;apply J [237,12,7];refine cC [0,1,2,3,4,5,6,7,-8] (aX _) ?_;apply J [205,16];refine bY rfl rfl rfl (Wn (v:=((k+1:Nat):Int)) (io rfl rfl U U) U) ?_;refine J [584,205] ?_;refine bY rfl rfl rfl (om 296 2 k rfl rfl rfl rfl U) ?_;refine dY rfl rfl ?_;refine wj (n:=n+1) (j:=k+1) (n-k) rfl rfl rfl U (by rw[w];exact Vi _) (show min _ _=_ from by omega) am C rfl ?_;refine J [110,314,515,271] ?_;refine wj (n:=n+1) (j:=k) 1 rfl rfl rfl U U (show min _ _=_ from by omega) am (by rw[W];exact O) (by rw[W,aL]) ?_;apply J [2,33,174,74];exact br (ad,cap) trivial ai
structure qd where
  B:Nat->Nat
  ad:Option Addr
  cap:Nat
structure mh(sz:Nat)(L:List cg):Prop where
  a6:16<=sz/\sz<=512
  inv:oA (960/sz) L
  aD:∀p∈L,p.aD<1048576
def kH(b bd sz:Nat)(L:List cg):ay:=fg λy:qd=>pure' (mh sz L) (ah [aj b 293 [ae bd,.int .i64 sz,.slice y.ad L.length y.cap],aZ 296 2 y.ad L.length y.cap (fr y.B L),b8 (λp:cg=>gE (y.B p.aD) (960/sz) p.f) L])
theorem mh.many{sz:Nat}(h:mh sz L):1<=960/sz/\960/sz<=60/\960/sz*sz<=960:=by obtain⟨u,w⟩:=h.a6;have d:1<=960/sz:=(Nat.le_div_iff_mul_le U).2 U;have a2:960/sz<=60:=(by exact Nat.div_le_of_le_mul U);exact⟨d,a2,Nat.div_mul_le_self 960 sz⟩
theorem mh.place{sz:Nat}(h:mh sz L){i:Nat}(d:i<960/sz):i*sz+sz<=960:=by have u:=h.many.2.2;have w:(i+1)*sz<=960/sz*sz:=VR _ d;grind
theorem QX(h:L.Pairwise λa b=>a.aD<b.aD):(L.map (·.aD)).Nodup:=by grind
theorem mh.len{sz:Nat}(h:mh sz L):L.length<=1048576:=by have:=vh (QX h.inv.j4) (m:=List.range 1048576) λx u=>(by obtain⟨p,d,rfl⟩:=Vs.1 u;exact List.mem_range.2 (h.aD p d));simp_all
theorem tN(h:L[k]? =some p):L=L.take k++p::L.drop (k+1):=by grind[List.drop_eq_getElem_cons,V4]
variable{aD:Nat}
theorem GN{f:Nat->Bool}(g:Nat->Bool)(h:L[k]? =some ⟨aD,f⟩):fr B (L.take k++⟨aD,g⟩::L.drop (k+1))=fr B L:=by
 conv=>rhs;rw[tN h]
 rw[xB,xB];rfl
theorem FK(r:cg)(h:L[k]? =some p):(L.take k++r::L.drop (k+1)).length=L.length:=by grind
theorem GW{f:Nat->Bool}(g:Nat->Bool)(h:L[k]? =some ⟨aD,f⟩):(L.take k++(⟨aD,g⟩:cg)::L.drop (k+1)).map (·.aD)=L.map (·.aD):=by
 conv=>rhs;rw[tN h]
 simp_all
theorem QO{B:Nat->Nat}(h:L[k]? =some p):(fr B L)[k*2+0]? =some (.pointer (some ⟨(B p.aD),0,none⟩)):=ug (uS B) h rfl
theorem GM{B C:Nat->Nat}:∀{L:List cg},(∀q∈L,B q.aD=C q.aD)->fr B L=fr C L
 | [],_=>rfl
 | q::L,h=>by have d:=GM (L:=L) λr u=>h r (by simp[u]);rw[fr,fr]at d⊢;rw[VD,VD,d,uR,uR,h q cE]
structure CL(sz:Nat)(L:List cg)(aD i:Nat)(y:List cg×Bool):Prop where
  nm:mP (960/sz) L y.1 aD i
  aD:if y.2=true then(L.map (·.aD)).Perm (aD::y.1.map (·.aD))else y.1.map (·.aD)=L.map (·.aD)
structure yK(sz top:Nat)(ci:List Nat)(L:List cg)(y:Nat×Nat×List cg×Bool):Prop where
  m0:lD (960/sz) L y.2.2.1 y.1 y.2.1
  aD:if y.2.2.2=true then(y.2.2.1.map (·.aD)).Perm (y.1::L.map (·.aD))/\y.1∉ci/\y.1<2^top else y.2.2.1.map (·.aD)=L.map (·.aD)/\y.1∈L.map (·.aD)
  i:y.2.1<960/sz
theorem mh.m0{sz i:Nat}{L':List cg}(h:mh sz L)(g:lD (960/sz) L L' aD i)(C:aD<1048576):mh sz L':=by refine⟨h.a6,g.inv h.inv (by have:=h.many;omega),λp d=>?_⟩;cases g with|old A B f u w D E=>subst u;subst w;rcases Ve.1 d with d|d;exact h.aD p (by simp[d]);rcases Vq.1 d with rfl|d;exact C;exact h.aD p (by simp[d])|new A B u w D E H N=>subst u;subst w;rcases Ve.1 d with d|d;exact h.aD p (by simp[d]);rcases Vq.1 d with rfl|d;exact C;exact h.aD p (by simp[d])
theorem mh.nm{sz i:Nat}{L':List cg}(h:mh sz L)(g:mP (960/sz) L L' aD i):mh sz L':=by refine⟨h.a6,g.inv h.inv,λp d=>?_⟩;cases g with|stay A B f u w C=>subst u;subst w;rcases Ve.1 d with d|d;exact h.aD p (by simp[d]);rcases Vq.1 d with rfl|d;exact h.aD ⟨aD,f⟩ cE;exact h.aD p (by simp[d])|gone A B f u w C D=>subst u;subst w;exact h.aD p (by rcases Ve.1 d with d|d<;>simp[d])
theorem KH(C:L[k]? =some p){y:Nat×Bool}(h:vx L ((p.aD:Int)*1024) y)(hs:L.Pairwise λa b=>a.aD<b.aD):y=(k,true):=by obtain⟨d,u,w⟩:=h;grind[WB]
theorem KI{L:List cg}{y:Nat×Bool}(h:vx L ((aD:Int)*1024) y)(hs:L.Pairwise λa b=>a.aD<b.aD)(ao:∀p∈L,p.aD≠aD):(∀p∈L.take y.1,p.aD<aD)/\∀p∈L.drop y.1,aD<p.aD:=by obtain⟨d,u,w⟩:=h;grind[Wa]
variable(bd sz:Nat)
theorem SI(h:(16<=sz/\sz<=512)/\sz %16=0):bH 178 [ae bd,aa sz] ba [] (λb:Nat=>ae b) (λ_=>True) (λb=>[kH b bd sz []]):=by apply aF Tryz.func178 Tryz.ntmps178;intro F _;refine J [8,124,229,203,40,512,141,40] ?_;refine aU.known 15 rfl (c:=false) (dn U) ?_;refine J [13,463,240,103] ?_;refine Vf rfl (λd=>absurd d U) (λd=>?_);apply J [4,34];refine q rfl rfl (eh (cs:=[.pointer _,.int _ _,.slice _ _ _]) rfl) ?_;refine e rfl ?_;refine eS (v:=.agg #[_,_,_]) (l:=[.pointer _,.int _ _,.slice _ _ _]) rfl rfl ?_;intro bb;apply J [104];exact br bb trivial ((dI 296 2 _).trans ((nb (f:=λp:cg=>gE 0 (960/sz) p.f) _).trans (az (⟨λ_=>0,none,0⟩:qd) ⟨h.1,⟨Yw,λ_ h=>(by cases h)⟩,λ_ h=>(by cases h)⟩ (bv (bU (an (an (aX _))))))))
theorem SH:bn 178 [ae bd,aa 0] ba [] (.pointer none) []:=by apply aF Tryz.func178 Tryz.ntmps178;intro F _;refine J [8,124,229,203,40,516,316,52,134,273] ?_;exact j7
variable(b:Nat)
theorem SG(bd sz:Nat)(v:Value)(h:16<=sz/\sz<=512):bn 238 [ae b] ba [aj b 293 [ae bd,aa sz,v]] (aa ((960/sz:Nat):Int)) [aj b 293 [ae bd,aa sz,v]]:=by apply aF Tryz.func238 Tryz.ntmps238;intro F _;apply J [1,35,41,65];refine q rfl rfl (Wn (v:=((960/sz:Nat):Int)) (kn rfl rfl U U U) cE) ?_;apply J [26];exact hC
theorem HJ(bd sz aD i:Nat)(w:Value)(d:Nat)(h:i*sz+sz<=960)(C:aD<1048576):bn 174 [ae b,.agg #[ae d,aa ((aD:Int)*1024)],aa i] ba [aj b 293 [ae bd,aa sz,w]] (aa ((aD*1024+64+i*sz:Nat):Int)) [aj b 293 [ae bd,aa sz,w]]:=by
 apply aF Tryz.func174 Tryz.ntmps174;intro F _;apply J [1];have u:(i:Int)*(sz:Int)=((i*sz:Nat):Int):=cE
 refine J [25,513] ?_;intro bD;apply J [31];refine cC [0,1,2,3,4,5,6,7,8,9,10] (aG.refl _) ?_;refine J [181,374,16,133] ?_;refine bY rfl rfl rfl (Wn (v:=((i*sz:Nat):Int)) (oc rfl rfl U U) U) ?_;refine bY rfl rfl rfl (Wn (v:=((aD*1024+64+i*sz:Nat):Int)) (io rfl rfl U U) U) ?_;apply J [199,148];exact dh
theorem HI(b bd sz:Nat)(B:Nat->Nat)(L:List cg)(ad:Option Addr)(cap:Nat)(t:Int)(hs:L.Pairwise λa b=>a.aD<b.aD)(u:L.length<=1048576):bH 170 [ae b,aa t] (λF=>∃E,cQ F E ad (fr B L)) [aj b 293 [ae bd,aa sz,.slice ad L.length cap]] (λy:Nat×Bool=>.tuple #[aa y.1,.bool y.2]) (λy=>vx L t y) (λ_=>[aj b 293 [ae bd,aa sz,.slice ad L.length cap]]):=by apply aF Tryz.func170 Tryz.ntmps170;intro F ⟨E,d⟩;apply J [1];haveI:bi F ad E (fr B L):=⟨d⟩;apply J [24,184,100,29];apply eL (KJ B L ad cap t hs u) ⟨_,bi.rd (ad:=ad)⟩;intro y w;apply J [5,91,256,77,70];exact cT y w ai
theorem HK(bd sz:Nat)(L:List cg)(k aD i:Nat)(f:Nat->Bool)(u:L[k]? =some ⟨aD,f⟩)(D:f i=true):bn 123 [ae b,aa ((aD*1024+64+i*sz:Nat):Int)] ba [kH b bd sz L] (.tuple #[aa k,aa i,.bool true]) [kH b bd sz L]:=by
 apply aF Tryz.func123 Tryz.ntmps123;intro F _;apply J [1];refine ab.open 0 rfl (λag W=>?_);obtain⟨B,ad,cap⟩:=ag;have d:=W;apply J [83];dsimp only at d⊢;have E:=d.inv.bd _ (Vg u) i D;have aw:=d.place E;have P:=d.aD _ (Vg u);have hs:=d.a6;have hm:=d.many;dsimp only at P E;have N:=(Vm.1 u).1;have O:=d.len;have au:=xC B L;have V:0<(fr B L).length:=U
 have ao:(aD*1024+64+i*sz)/1024=aD:=U
 have ar:(aD*1024+64+i*sz) %1024=64+i*sz:=U
 have H:(i*sz) %sz=0:=b2
 have w:(i*sz)/sz=i:=by grind[Nat.mul_div_cancel]
 apply J [24,77,77,105,229,203,103];refine Vf rfl (λC=>absurd C U) (λC=>?_);apply J [4,34];refine q rfl rfl (Wn (v:=(aD:Int)) (kn rfl rfl U U U) U) ?_;refine J [458,0] ?_;apply eL (HI b bd sz B L ad cap ((aD:Int)*1024) d.inv.j4 O) ⟨_,bi.rd (ad:=ad)⟩;intro y Z;apply J [14];obtain rfl:=KH u Z d.inv.j4;dsimp only;apply J [312,184,27];refine q rfl rfl (Wn (v:=((64+i*sz:Nat):Int)) (pY rfl rfl U U) U) ?_;refine q rfl rfl (Wn (v:=((i*sz:Nat):Int)) (oo rfl rfl U U) U) ?_;apply J [31,7];refine cC [0,1,2,3,4,5,6,7,8,9,10,11,12,13,14,15,16,17,18,19,20,21,22,23,24,25,26,27,28,29,-30,31,32] (an (an (aX _))) ?_;apply J [154,375,154,291];refine eH rfl rfl rfl rfl (lss rfl rfl) ?_;apply J [241,154];refine ca.known 33 rfl (b':=false) (dn U) ?_;apply J [291,341,299,469,163];refine eH rfl rfl rfl rfl (Wn (v:=(0:Int)) (pY rfl rfl U U) (by rw[show((i*sz:Nat):Int) %(sz:Int)=((i*sz %sz:Nat):Int)by simp,H];rfl)) ?_;apply J [517,241,154];refine ca.known 42 rfl (b':=false) (dn U) ?_;apply J [341,299,372,163,291];refine eH rfl rfl rfl rfl (ht (i:=k) 296 2 rfl rfl rfl N V) ?_;refine J [389] ?_;refine eH rfl rfl rfl rfl (dB rfl rfl (QO u)) ?_;apply J [291,341,299,469,163];refine eH rfl rfl rfl rfl (Wn (v:=(i:Int)) (kn rfl rfl U U U) (by rw[show((i*sz:Nat):Int)/(sz:Int)=((i*sz/sz:Nat):Int)by simp,w])) ?_;refine ca.bg (fW 2 rfl (s7 u)) ?_;apply J [292];apply aq (Ds (B aD) (960/sz) f i U);refine J [282] ?_;rw[D];apply J [470,241,73,23,44,508,16,16,133];refine bY rfl rfl rfl (Wn (v:=(i:Int)) (kn rfl rfl U U U) (by rw[show((i*sz:Nat):Int)/(sz:Int)=((i*sz/sz:Nat):Int)by simp,w])) ?_;apply J [349,349,272,148];exact b4.i () [_,_,_] ⟨rfl,rfl,rfl,trivial⟩ rfl trivial (az (⟨B,ad,cap⟩:qd) d (bv (bv (cY 0 0 ⟨aD,f⟩ rfl rfl rfl (λ_ _=>rfl) (s7 u).symm (an (aX _))))))
theorem SF(bd sz:Nat)(L:List cg)(k aD i:Nat)(f:Nat->Bool)(u:L[k]? =some ⟨aD,f⟩)(d:f i=true):bn 82 [ae b,aa ((aD*1024+64+i*sz:Nat):Int)] ba [kH b bd sz L] (.bool true) [kH b bd sz L]:=by apply aF Tryz.func82 Tryz.ntmps82;intro F _;apply J [1,127,32];apply aq (HK b bd sz L k aD i f u d);apply J [5,278,256,77,184,62,70];exact hC
def Bs(sz:Nat):Option (Nat×Nat×List cg×Bool)->Int
  | some y=>((y.1*1024+64+y.2.1*sz:Nat):Int)
  | none=>0
def tQ(L:List cg):Option (Nat×Nat×List cg×Bool)->List cg
  | some y=>y.2.2.1
  | none=>L
def tO(ci:List Nat):Option (Nat×Nat×List cg×Bool)->List Nat
  | some y=>if y.2.2.2=true then y.1::ci else ci
  | none=>ci
def J3(sz top:Nat)(ci:List Nat)(L:List cg):Option (Nat×Nat×List cg×Bool)->Prop
  | some y=>yK sz top ci L y
  | none=>2^top<=ci.length
theorem SJ(bd top sz:Nat)(L:List cg)(ci:List Nat)(cd:top<=20)(cr:∀q∈L,q.aD∈ci):bH 180 [ae b] da [kH b bd sz L,j2 bd top ci] (λy:Option (Nat×Nat×List cg×Bool)=>.tuple #[aa (Bs sz y),aa (qx y)]) (λy=>J3 sz top ci L y) (λy=>[kH b bd sz (tQ L y),j2 bd top (tO ci y)]):=by
 apply aF Tryz.func180 Tryz.ntmps180;intro F a4;apply J [11];haveI:cv F:=⟨a4⟩;refine ab.open 0 rfl (λch ce=>?_);obtain⟨B,ad,cap⟩:=ch;have w:=ce;apply J [82];dsimp only at w⊢;have hs:=w.a6;have hm:=w.many;have aW:=w.len;have ba:=xC B L;have bj:=Bp B L;apply J [24,218,101,121,100,391,112];refine ab.loop (ι:=Nat) (λj=>j<=L.length/\∀N H,N<j->L[N]? =some H->wC (960/sz) H) (λj=>[(0,ae b),(17,.slice ad L.length cap),(18,aa L.length),(19,aa ((j:Nat):Int))]) (λj=>ah [aj b 293 [ae bd,aa sz,.slice ad L.length cap],aZ 296 2 ad L.length cap (fr B L),b8 (λp:cg=>gE (B p.aD) (960/sz) p.f) L,j2 bd top ci,F]) (λj=>L.length-j) 0 ⟨Vj _,λN H h=>absurd h (Nat.not_lt_zero _)⟩ bI (an (an (an (an (an (aX _)))))) ?_;rintro j ⟨bR,eM⟩ cA;dsimp only[cy]at bR eM⊢;apply J [42];apply Vf rfl<;>intro ct;have bV:j<L.length:=U
 obtain⟨⟨aD,f⟩,D⟩:∃hx,L[j]? =some hx:=⟨L[j],Vc bV⟩;have cw:0<(fr B L).length:=U
 have P:=w.aD _ (Vg D);dsimp only at P;refine J [219,514] ?_;refine q rfl rfl (gH (vs:=[_,_]) 2 rfl rfl (xD D) rfl am) ?_;refine J [0,518] ?_;intro cp;apply J [102,2,71];refine aU.bg (fW 3 rfl (s7 D)) ?_;refine e rfl ?_;apply a7 (Dr (B aD) (960/sz) f false 0 U U);intro y C;apply J [18];cases y with|none=>?_|some i=>?_
 have C:tB f false (960/sz) 0:=C;dsimp only[qR];refine J [64,408,108,111] ?_;exact⟨rfl,(j+1),⟨by omega,λN H co ao=>by by_cases e:N=j;subst e;rw[D]at ao;cases ao;intro i2 bt;have:=C i2 (Vj _) bt;simpa using this;exact eM N H U ao⟩,U,⟨rfl,rfl,rfl,rfl,trivial⟩,(c0 (c0 (cY 0 0 ⟨aD,f⟩ rfl rfl rfl (λ_ _=>rfl) (s7 D).symm (bU (bU (aX _))))))⟩;have C:yC f false (960/sz) 0 i:=C;dsimp only[qR];have V:=C.2.1;have bN:=C.2.2.1;have Z:=w.place V;have cc:kP f i true=fa f i:=by grind[BM]
 have O:lD (960/sz) L (L.take j++⟨aD,fa f i⟩::L.drop (j+1)) aD i:=.old _ _ f (tN D) rfl bN V;apply J [64,408,2];refine Vf rfl (λaP=>?_) (λaP=>absurd U aP);refine J [71,68] ?_;intro ar;refine e rfl ?_;refine aI (qs (B aD) (960/sz) f i true (cF ar) 1 V U) rfl eC.p ⟨_,bi.rd (ad:=some ⟨ar,0,none⟩)⟩ ?_;intro _ _;apply J [76,2,36,244,29];apply aq (HJ b bd sz aD i (.slice ad L.length cap) (B aD) Z P);apply J [76,173,166];rw[cc];have W:=w.m0 O P;exact cT (some (aD,i,L.take j++⟨aD,fa f i⟩::L.drop (j+1),false)) ⟨O,⟨GW _ D,Vs.2 ⟨_,Vg D,rfl⟩⟩,V⟩ (az (⟨B,ad,cap⟩:qd) W (by dsimp only[tQ,tO];rw[FK _ D,GN _ _ D];exact(an (eQ (cY 0 1 ⟨aD,fa f i⟩ rfl rfl rfl (λ_ _=>rfl) List.perm_middle.symm ai)))));refine ab.nj 1 rfl (λ_ bh bc=>?_);obtain rfl:j=L.length:=U
 have bl:∀H∈L,wC (960/sz) H:=λH h=>(by grind[Wa]);apply J [75,233];apply a7 (Dl bd top ci);intro ck a2;apply J [9];cases ck with|none=>?_|some aD=>?_
 have bn:2^top<=ci.length:=a2;dsimp only[vk,qx,mS];apply J [129,39,57,326];exact cT none bn (az (⟨B,ad,cap⟩:qd) w ai);have P:aD<2^top/\aD∉ci:=a2;dsimp only[vk,qx,mS];obtain⟨Z,b0⟩:=P;have b7:=oX (k:=0) cd;rw[Nat.sub_zero]at b7;have a0:aD<1048576:=U
 have bZ:∀q∈L,q.aD≠aD:=cm
 have cn:kP (λ_=>false) 0 true=λj=>decide (j=0):=(by trivial);apply J [129,172,69];apply aq (SG b bd sz (.slice ad L.length cap) hs);apply J [9,0];refine aI (Dt (960/sz) U) rfl (ev _) trivial ?_;intro u _;apply J [15,3];refine q rfl rfl (eh (cs:=[.pointer _,.int _ _]) rfl) ?_;refine J [0,518] ?_;intro cl;refine J [102,2,71,0,150] ?_;intro au;refine e rfl ?_;refine aI (qs u (960/sz) (λ_=>false) 0 true (cF au) 1 U U) rfl eC.p ⟨_,bi.rd (ad:=some ⟨au,0,none⟩)⟩ ?_;intro _ _;apply J [76,2,32];refine aI (HI b bd sz B L ad cap ((aD:Int)*1024) w.inv.j4 aW) rfl eC.p ⟨_,bi.rd (ad:=ad)⟩ ?_;intro y C;apply J [76];obtain⟨bS,bo⟩:=KI C w.inv.j4 bZ;have cf:=C.1;clear C;generalize y.2=cx;generalize y.1=d at*;apply J [312,77,105];refine ab.draw _ [11] [0,1,2,3,4,5,6,-7,-8,9,10,-11] aV aV (an (bv (aX _))) ?_;apply J [78,185,16,250,17];refine bs (E:=296) (sz:=2) (cs:=[ae u,aa ((aD:Int)*1024)]) rfl ?_;intro a3;refine J [47] ?_;apply a7 (QQ ad (cF a3) cap 1 L.length d (fr B L) [ae u,aa ((aD:Int)*1024)] cf aW ba rfl bh bc U bj rfl);intro z _;refine J [290,10,88,364,90,368,73,36,244,0] ?_;refine aI (HJ b bd sz aD 0 (.slice z.1 (L.length+1) z.2) u U a0) rfl (d6 0 rfl (ev _)) trivial ?_;intro _ _;apply J [76,99];have O:lD (960/sz) L (L.take d++⟨aD,λj=>decide (j=0)⟩::L.drop d) aD 0:=.new _ _ (V4 _ _).symm rfl rfl bl bS bo;have W:=w.m0 O a0;have a5:(L.take d++⟨aD,λj=>decide (j=0)⟩::L.drop d).length=L.length+1:=cm
 have ec:((L.take d++⟨aD,λj=>decide (j=0)⟩::L.drop d).map (·.aD)).Perm (aD::L.map (·.aD)):=(by grind[V4]);have cu:∀q∈L,(λx=>if x=aD then u else B x) q.aD=B q.aD:=b2
 have ay:∀M:List cg,(∀q∈M,q∈L)->fr B M=fr (λx=>if x=aD then u else B x) M:=λM bK=>(by grind[GM]);have a9:(fr B L).take (d*2)++[ae u,aa ((aD:Int)*1024)]++(fr B L).drop (d*2)=fr (λx=>if x=aD then u else B x) (L.take d++⟨aD,λj=>decide (j=0)⟩::L.drop d):=(by rw[GO,GL,xB,ay _ (λq ag=>List.mem_of_mem_take ag),ay _ (λq ag=>List.mem_of_mem_drop ag),VJ];congr 1;rw[fr,fr,VD,uR,ax rfl]);have aw:gE u (960/sz) (kP (λ_=>false) 0 true)=(λp:cg=>gE ((λx=>if x=aD then u else B x) p.aD) (960/sz) p.f) ⟨aD,λj=>decide (j=0)⟩:=b2
 have aL:∀q∈L,(λp:cg=>gE (B p.aD) (960/sz) p.f) q=(λp:cg=>gE ((λx=>if x=aD then u else B x) p.aD) (960/sz) p.f) q:=b2
 have a8:((⟨aD,λj=>decide (j=0)⟩:cg)::L).Perm (L.take d++⟨aD,λj=>decide (j=0)⟩::L.drop d):=(by(conv=>lhs;rw[<-V4 d L]);exact List.perm_middle.symm);generalize cG:(λp:cg=>gE ((λx=>if x=aD then u else B x) p.aD) (960/sz) p.f)=G at aw aL;exact cT (some (aD,0,L.take d++⟨aD,λj=>decide (j=0)⟩::L.drop d,true)) ⟨O,⟨ec,b0,Z⟩,cK⟩ (az (⟨(λx=>if x=aD then u else B x),z.1,z.2⟩:qd) W (by dsimp only[tQ,tO];rw[a5,<-a9,cG];exact(an (an (cY 0 3 ⟨aD,λj=>decide (j=0)⟩ rfl rfl aw aL a8 ai)))))
theorem SE(bd sz:Nat)(L:List cg)(k aD i:Nat)(f:Nat->Bool)(d:L[k]? =some ⟨aD,f⟩)(C:f i=true)(top:Nat)(ci:List Nat)(au:aD∈ci):bH 240 [ae b,aa ((aD*1024+64+i*sz:Nat):Int)] ba [kH b bd sz L,j2 bd top ci] (λ_:List cg×Bool=>aa 0) (λy=>CL sz L aD i y) (λy=>[kH b bd sz y.1,j2 bd top (if y.2=true then ci.erase aD else ci)]):=by
 apply aF Tryz.func240 Tryz.ntmps240;intro F _;apply J [11,35,41,32];apply aq (HK b bd sz L k aD i f d C);apply J [6,278,256,77,77,105,62,89,108];refine ab.open 0 rfl (λaW aL=>?_);obtain⟨B,ad,cap⟩:=aW;have u:=aL;apply J [82];dsimp only at u⊢;refine ab.nj 1 rfl (λ_ W V=>?_);have H:=u.inv.bd _ (Vg d) i C;have aw:=u.aD _ (Vg d);have hm:=u.many;dsimp only at aw H;have ao:=(Vm.1 d).1;have ar:=u.len;have P:=xC B L;have Z:=Bp B L;have a4:0<(fr B L).length:=U
 have ay:kP f i false=fa f i:=by grind[BM]
 refine J [4,100,3,514] ?_;refine q rfl rfl (gH (vs:=[_,_]) 2 rfl rfl (xD d) rfl am) ?_;refine J [0,518] ?_;intro a0;refine J [102,2,71,68] ?_;intro E;refine aU.bg (fW 4 rfl (s7 d)) ?_;refine e rfl ?_;apply ew (qs (B aD) (960/sz) f i false (cF E) 1 H U) ⟨_,bi.rd (ad:=some ⟨E,0,none⟩)⟩;apply J [76];rw[ay];apply J [30,71,0];apply a7 (KF (B aD) (960/sz) (fa f i) U);intro c a3;apply J [76,212];apply Vf rfl<;>intro a2;have aP:∀j,fa f i j=false:=b2
 have w:mP (960/sz) L (L.take k++L.drop (k+1)) aD i:=.gone _ _ f (tN d) rfl C λj _ ag=>by have:=aP j;rwa[fa,al ag]at this
 have D:=u.nm w;have N:(L.take k++L.drop (k+1)).length=L.length-1:=cm
 have O:(fr B L).take (k*2)++(fr B L).drop ((k+1)*2)=fr B (L.take k++L.drop (k+1)):=by rw[GO,GL,xB]
 have ec:(L.map (·.aD)).Perm (aD::(L.take k++L.drop (k+1)).map (·.aD)):=(by have:=(s7 d).map (·.aD);trivial);refine ab.seq ?_;refine cC [0,1,2,3,4,5,-6] (c0 (c0 (aX _))) ?_;apply J [49,313];apply aq (Dj bd top ci aD au);refine J [290,110,37,176,55,120,146,0] ?_;apply aq (QP ad cap L.length k (fr B L) ao ar P W V Z);apply J [76,80,288,269,118];exact br (L.take k++L.drop (k+1),true) ⟨w,ec⟩ (az (⟨B,ad,cap⟩:qd) D (by dsimp only;rw[N,<-O];exact ai));have w:mP (960/sz) L (L.take k++⟨aD,fa f i⟩::L.drop (k+1)) aD i:=.stay _ _ f (tN d) rfl C;have D:=u.nm w;apply J [4,201];exact br (L.take k++⟨aD,fa f i⟩::L.drop (k+1),false) ⟨w,GW _ d⟩ (az (⟨B,ad,cap⟩:qd) D (by dsimp only;rw[FK _ d,GN _ _ d];exact(eQ (eQ (cY 0 0 ⟨aD,fa f i⟩ rfl rfl rfl (λ_ _=>rfl) List.perm_middle.symm ai)))))
end Go.Proofs.Q
namespace Go.QM
open Go
section
variable {r : Option Nat} {P : Program} {N : Nat} {ag : Env} {A : ay} {K : Value → ay → Prop}
variable {d : Option Tmp} {ty : TypeId} {ps : String} {bh : Array Edge} {g : Option (Nat × Bool)} {t : TypeId} {x : Operand}
theorem xM{hs:List ay}(H e:TypeId){b:Nat}{es:Array MapEntry}{aI:Nat}(D:mv P t H e=true)(E:bc ag x=.map (some b))[hr:fN (ah hs) b (.map es aI)]
    (k:∀i,K (ae i) (ah (obj i (.mapIter (some b) aI #[] aI)::hs))):ck r P ag ⟨d,.range t x,ty,ps,bh,g⟩ (ah hs) K:=
  ck.run rfl λw u=>⟨ae w.heap.size,w.alloc (.mapIter (some b) aI #[] aI),_,.inl (by have C:w.heap[b]? =some (.map es aI):=hr.rd.sat u;simp[execOp,Instr.range,E,oU D,MapKept.run_getObj_map C]),⟨rfl,rfl,rfl,by simp⟩,o0 _ u,k w.heap.size⟩
theorem xt(i:Nat){hs rest:List ay}{it b:Nat}{es:Array MapEntry}{aI:Nat}{seen:Array Nat}(H:bc ag x=ae it)(V:eV i hs=some (obj it (.mapIter (some b) aI seen aI),rest))
    (hr:Rd (ah rest) b (.map es aI)) (O:iI es aI)
    (bN:(∀e∈es.toList,e.born∈seen)->K (.tuple #[.bool false]) (ah (obj it (.mapIter (some b) aI seen aI)::rest)))
    (ar:∀e∈es.toList,e.born∉seen->K (.tuple #[.bool true,e.key,e.val]) (ah (obj it (.mapIter (some b) aI (seen.push e.born) aI)::rest))):
    ck r P ag ⟨d,.next x false,ty,ps,bh,g⟩ (ah hs) K:=by
 refine ck.run rfl λw aq=>?_;have u:=aq.bg (fG V);have E:w.heap[it]? =some (.mapIter (some b) aI seen aI):=(iA (iL it _)).sat u;have N:w.heap[b]? =some (.map es aI):=(vM hr).sat u;rcases run_next_at (P:=P) w ty it b aI aI seen es aI E N O.1 (Nat.le_refl _)with⟨au,D⟩|⟨e,he,cI,hw,D⟩;refine⟨.tuple #[.bool false],w,_,.inl ?_,fw.refl w,u,bN λe he=>?_⟩;simp only[execOp,H];exact(by simp[D]);by_cases hm:e.born∈seen;trivial;exfalso;have C:e∈(leftOf es seen).toList:=by grind[leftOf]
 simp_all;have C:e∈es.toList/\e.born∉seen:=by grind[leftOf]
 refine⟨.tuple #[.bool true,e.key,e.val],_,_,.inl (by simp only[execOp,H];exact(by simp[D];rfl)),?_,?_,ar e C.1 C.2⟩;rcases hw with rfl|rfl<;>exact⟨rfl,rfl,rfl,by simp[ChangeMaps.setBlock]⟩;have ao:sat cI (sep (obj it (.mapIter (some b) aI seen aI)) (ah rest)):=by rcases hw with rfl|rfl<;>exact u
 have aw:cI.heap[it]? =some (.mapIter (some b) aI seen aI):=by rcases hw with rfl|rfl<;>exact E
 have Z:it<cI.heap.size:=cm
 exact u4 ao (by show(cI.heap.setIfInBounds it _)[it]? =_;rw[Array.getElem?_setIfInBounds_self_of_lt Z]) (λj W=>by show(cI.heap.setIfInBounds it _)[j]? =_;rw[Array.getElem?_setIfInBounds_ne (Ne.symm W)])
theorem wo{it b:Nat}{es:Array MapEntry}{aI since:Nat}{seen:Array Nat}(e:MapEntry)(E:bc ag x=ae it)[D:fN A it (.mapIter (some b) since (seen.push e.born) aI)](hr:Rd A b (.map es aI))
    (he:e∈es.toList) (C:iI es aI):bE P ag ⟨d,.entry x,ty,ps,bh,g⟩ A (.tuple #[e.key,e.val]):=λw u=>by
  have:=run_entry_at (P:=P) w it b since seen es aI e (D.rd.sat u) (hr.sat u) he C.2
  simp only[execOp,E]
  simp[this]
end
def kJ(e:MapEntry):Int:=match e.key with
  | .int _ k=>k
  | _=>0
theorem wQ{m:List (Int×Value)}{es:Array MapEntry}(h:es.toList.map (λe=>(e.key,e.val))=m.map (λt=>(encI t.1,t.2))):(∀e∈es.toList,e.key=aa (kJ e))/\es.toList.map kJ=m.map (·.1):=by have d:es.toList.map (·.key)=m.map λt=>encI t.1:=(by have:=congrArg (List.map Prod.fst) h;grind[Function.comp_def]);have w:∀e∈es.toList,e.key=aa (kJ e):=λe he=>(by(have C:e.key∈es.toList.map (·.key):=by grind);rw[d]at C;obtain⟨u,_,hu⟩:=Vs.1 C;rw[kJ,<-hu];rfl);refine⟨w,?_⟩;have D:es.toList.map (λe=>encI (kJ e))=m.map λt=>encI t.1:=(by rw[<-d];exact Wq λe he=>(w e he).symm);have E:=congrArg (List.map λv=>match v with|Value.int _ k=>k|_=>0) D;simpa[XZ,Function.comp_def,encI]using E
theorem all_keys{es:Array MapEntry}{aI:Nat}(w:iI es aI){bj:List MapEntry}(P:∀e∈bj,e∈es.toList)(C:(bj.map (·.born)).Nodup)(V:∀e∈es.toList,e.born∈bj.map (·.born)):bj.Perm es.toList:=by have inj:∀a∈es.toList,∀c∈es.toList,a.born=c.born->a=c:=λa D c E e=>(by obtain⟨i,H⟩:=Wa D;obtain⟨j,N⟩:=Wa E;obtain⟨O,bb⟩:=Vm.1 H;obtain⟨a2,bD⟩:=Vm.1 N;have W:=List.pairwise_iff_getElem.1 w.2;grind);have Z:bj.Nodup:=(Yt.1 C).imp λu d=>u (congrArg _ d);have ag:es.toList.Nodup:=(Yt.1 w.2).imp λu d=>u (congrArg _ d);grind[List.perm_ext_iff_of_nodup]
end Go.QM
namespace Go.Proofs.Q.aw
open Go Go.QM
structure bS where
  id:Int
  par:Int
  lim:Int
  fJ:Int
def ft:List Int->Int
  | []=>0
  | x::l=>x+ft l
theorem B0(l m:List Int):ft (l++m)=ft l+ft m:=by induction l with|nil=>simp[ft]|cons x l d=>rw[List.cons_append,ft,ft,d];omega
theorem SZ{l m:List Int}(h:l.Perm m):ft l=ft m:=by induction h with|nil=>rfl|cons x _ w=>rw[ft,ft,w]|swap x y l=>simp only[ft];omega|trans _ _ d u=>exact d.trans u
theorem HY{l:List Int}(h:∀x∈l,0<=x):0<=ft l:=by induction l with|nil=>exact Int.le_refl _|cons x l u=>have:=h x cE;have:=u (λy d=>h y (by simp[d]));rw[ft];omega
theorem SY{l:List Int}{b:Int}(h:∀x∈l,x<=b):ft l<=b*l.length:=by induction l with|nil=>simp[ft]|cons x l u=>have:=h x cE;have:=u (λy d=>h y (by simp[d]));rw[ft,Vy,Int.natCast_add,Int.mul_add];omega
def kK(L:List bS)(x:Int):List bS:=L.filter λt=>decide (t.par=x)
def fb(L:List bS)(x:Int):Int:=ft ((kK L x).map (·.lim))
def gF(L:List bS)(x:Int):Int:=((kK L x).length:Int)
def cX(L:List bS)(x:Int):Prop:=∃t∈L,t.id=x
instance (L:List bS)(id:Int):Decidable (cX L id):=inferInstanceAs (Decidable (∃t∈L,t.id=id))
def qA(L:List bS)(id:Int):Option bS:=L.find? λt=>decide (t.id=id)
def im(L:List bS):Prop:=(L.map (·.id)).Nodup
theorem im.perm{S T:List bS}(h:im S)(p:T.Perm S):im T:=(p.map _).nodup_iff.2 h
variable{t:bS}
theorem im.inj{S:List bS}(h:im S){u:bS}(C:t∈S)(hu:u∈S)(e:t.id=u.id):t=u:=by obtain⟨L,w⟩:=fA C;rcases Vq.1 (w.mem_iff.1 hu)with d|d;simp_all;exact absurd (Vs.2 ⟨u,d,e.symm⟩) (Vw.1 (h.perm w.symm)).1
theorem wz{S:List bS}(h:im S)(w:t∈S):qA S t.id=some t:=by rw[qA];cases d:S.find? λu=>decide (u.id=t.id)with|none=>rw[W4]at d;exact absurd (c7 rfl) (d t w)|some u=>have C:=List.find?_some d;have D:=List.mem_of_find?_eq_some d;rw[h.inj D w (by simpa using C)]
theorem ME{S:List bS}{id:Int}(h:¬cX S id):qA S id=none:=by rw[qA,W4];intro u hu;simp only[decide_eq_true_eq];exact λe=>h ⟨u,hu,e⟩
def kq(L:List bS)(id:Int):Int:=match qA L id with
  | some t=>t.fJ+fb L id
  | none=>0
def ja(L:List bS)(id:Int):Int:=match qA L id with
  | some t=>t.lim
  | none=>0
def fC(L:List bS)(id:Int):Int:=match qA L id with
  | some t=>t.fJ
  | none=>0
def je(L:List bS)(id:Int):Int:=match qA L id with
  | some t=>t.par
  | none=>-1
def fL(L:List bS)(id c:Int):List bS:=L.map λt=>if t.id=id then⟨t.id,t.par,t.lim,c⟩else t
def kM(L:List bS)(id:Int):List bS:=L.filter λt=>decide (t.id≠id)
def fO(L:List bS)(gl p lim:Int):List bS×Int×Int×Int:=
  if ¬cX L p then(L,gl,0,6)else if lim<0 then(L,gl,0,1)else if ¬lim<=ja L p-kq L p then(L,gl,0,5)else if L.length=32 then(L,gl,0,11)else(L++[⟨gl,p,lim,0⟩],gl+1,gl,0)
def iC(L:List bS)(id:Int):List bS×Int:=
  if ¬cX L id then(L,6)else if id=0 then(L,1)else if kq L id≠0\/0<gF L id then(L,12)else(kM L id,0)
def de(L:List bS)(id n:Int):List bS×Int:=
  if ¬cX L id then(L,6)else if n<0 then(L,1)else if ¬n<=ja L id-kq L id then(L,5)else(fL L id (fC L id+n),0)
def ek(L:List bS)(id n:Int):List bS×Int:=
  if ¬cX L id then(L,6)else if n<0\/fC L id<n then(L,1)else(fL L id (fC L id-n),0)
structure eK(L:List bS)(gl:Int):Prop where
  bq:im L
  j4:(L.map (·.id)).Pairwise (· <·)
  rg:∀t∈L,0<=t.id/\t.id<gl/\0<=t.lim/\t.lim<=1073741824/\0<=t.fJ/\t.fJ+fb L t.id<=t.lim
  root:cX L 0
  qU:∀t∈L,t.id=0->t.par=-1
  par:∀t∈L,t.id≠0->cX L t.par/\t.par<t.id
  len:L.length<=32
theorem Fz(S T:List bS)(p:Int):kK (S++T) p=kK S p++kK T p:=by simp[kK]
theorem uj(S T:List bS)(p:Int):fb (S++T) p=fb S p+fb T p:=by rw[fb,Fz,V7,B0];rfl
theorem wX(S T:List bS)(p:Int):gF (S++T) p=gF S p+gF T p:=by rw[gF,Fz,mp];rfl
theorem rB{p:Int}:fb [t] p=if t.par=p then t.lim else 0:=by by_cases h:t.par=p;rw[ax h,fb,kK,YS (by simpa using h)];simp[ft];rw[al h,fb,kK,Wt (by simpa using h)];rfl
theorem wY{p:Int}:gF [t] p=if t.par=p then 1 else 0:=by by_cases h:t.par=p;rw[ax h,gF,kK,YS (by simpa using h)];rfl;rw[al h,gF,kK,Wt (by simpa using h)];rfl
theorem Nw{S T:List bS}(h:S.Perm T)(p:Int):fb S p=fb T p:=SZ ((h.filter _).map _)
theorem O5{S T:List bS}(h:S.Perm T)(p:Int):gF S p=gF T p:=congrArg (λn:Nat=>(n:Int)) (h.filter _).length_eq
theorem xT(L:List bS)(id c:Int):(fL L id c).map (·.id)=L.map (·.id):=by rw[fL,XZ];exact Wq λt _=>by simp only[Function.comp];split<;>rfl
variable{L:List bS}{x:Int}
theorem qZ{id c:Int}:cX (fL L id c) x↔cX L x:=by
 have h:∀S:List bS,cX S x↔x∈S.map (·.id):=by grind[cX]
 grind[xT]
theorem qY(L:List bS)(id c p:Int):fb (fL L id c) p=fb L p/\gF (fL L id c) p=gF L p:=by induction L with|nil=>exact⟨rfl,rfl⟩|cons t L D=>have e:fL (t::L) id c=(if t.id=id then⟨t.id,t.par,t.lim,c⟩else t)::fL L id c:=rfl;have d:=uj [if t.id=id then(⟨t.id,t.par,t.lim,c⟩:bS)else t] (fL L id c) p;have u:=uj [t] L p;have w:=wX [if t.id=id then(⟨t.id,t.par,t.lim,c⟩:bS)else t] (fL L id c) p;have C:=wX [t] L p;rw[List.singleton_append]at d u w C;rw[e,d,u,w,C,D.1,D.2,rB,rB,wY,wY];constructor<;>(congr 1;split<;>rfl)
variable{gl:Int}
theorem wH(h:eK L gl)(x:Int):0<=fb L x:=HY λy u=>by
 obtain⟨t,d,rfl⟩:=Vs.1 u
 exact(h.rg t (VE.1 d).1).2.2.1
theorem Fv(L:List bS)(x:Int):0<=gF L x/\gF L x<=L.length:=by grind[kK,gF]
theorem hB(h:im L)(d:t∈L):kq L t.id=t.fJ+fb L t.id/\ja L t.id=t.lim/\fC L t.id=t.fJ/\je L t.id=t.par:=by grind[kq,ja,fC,je,wz]
theorem tl{id:Int}(h:¬cX L id):kq L id=0/\ja L id=0/\fC L id=0/\je L id=-1:=by grind[kq,ja,fC,je,ME]
theorem NK:cX L x↔x∈L.map (·.id):=by simp[cX]
theorem EE{L:List bS}(h:∀t∈L,t.par≠x):fb L x=0/\gF L x=0:=by
 have e:kK L x=[]:=by grind[kK,List.filter_eq_nil_iff]
 rw[fb,gF,e];exact⟨rfl,rfl⟩
theorem eK.GJ(h:eK L gl)(d:t∈L):t.par<gl/\-1<=t.par/\t.par≠t.id:=by have C:=h.rg t d;by_cases e:t.id=0;have:=h.qU t d e;omega;obtain⟨⟨u,hu,w⟩,D⟩:=h.par t d e;have:=h.rg u hu;omega
theorem eK.start{lim:Int}(h:0<=lim/\lim<=1073741824):eK [⟨0,-1,lim,0⟩] 1 where
 bq:=by simp[im]
 j4:=by simp
 rg:=λt d=>by
  rw[Vd.1 d];have:fb [(⟨0,-1,lim,0⟩:bS)] 0=0:=by rw[rB,al cK]
  dsimp only;rw[this];omega
 root:=⟨_,Vd.2 rfl,rfl⟩
 qU:=λt d _=>by rw[Vd.1 d]
 par:=λt d ao=>by rw[Vd.1 d]at ao;exact absurd rfl ao
 len:=by simp
theorem eK.add(h:eK L gl){p lim:Int}(P:cX L p)(Z:0<=lim)(O:lim<=ja L p-kq L p)(aq:L.length≠32):eK (L++[⟨gl,p,lim,0⟩]) (gl+1):=by
 obtain⟨u,hu,rfl⟩:=P;have V:=h.rg u hu;obtain⟨H,N,_⟩:=hB h.bq hu;rw[H,N]at O;have ao:=wH h u.id;have au:fb L gl=0:=(EE λt d=>by have:=h.GJ d;omega).1;have D:∀x,cX L x->cX (L++[(⟨gl,u.id,lim,0⟩:bS)]) x:=by grind[cX]
 have E:∀x∈L.map (·.id),x<gl:=λx W=>(by obtain⟨t,d,rfl⟩:=Vs.1 W;exact(h.rg t d).2.1);have ar:0<=gl:=U
 refine⟨?_,?_,λt d=>?_,D 0 h.root,λt d e=>?_,λt d e=>?_,?_⟩;rw[im,V7,List.nodup_append];exact⟨h.bq,by simp,λa w c C e=>by have:=E a w;simp only[VF,W5,Vd]at C;omega⟩;rw[V7,List.pairwise_append];exact⟨h.j4,by simp,λa w c C=>by have:=E a w;simp only[VF,W5,Vd]at C;omega⟩;rw[uj,rB];dsimp only;rcases Ve.1 d with d|d;have ag:=h.rg t d;by_cases e:u.id=t.id;have:=h.bq.inj hu d e;grind;omega;grind;rcases Ve.1 d with d|d;exact h.qU t d e;grind;rcases Ve.1 d with d|d;exact⟨D _ (h.par t d e).1,(h.par t d e).2⟩;rw[Vd.1 d];exact⟨D _ ⟨u,hu,rfl⟩,V.2.1⟩;have:=h.len;grind
theorem xw{M:List bS}(h:im L)(w:L.Perm (t::M)):(kM L t.id).Perm M:=by have d:=w.filter λu=>decide (u.id≠t.id);rw[Wt cE]at d;have C:M.filter (λu=>decide (u.id≠t.id))=M:=List.filter_eq_self.2 λu hu=>(by have:=(Vw.1 (h.perm w.symm)).1;simp_all);rw[C]at d;exact d
theorem Gw(h:im L)(d:t∈L)(x:Int):fb (kM L t.id) x=fb L x-(if t.par=x then t.lim else 0)/\gF (kM L t.id) x=gF L x-(if t.par=x then 1 else 0):=by obtain⟨M,bK⟩:=fA d;have w:=xw h bK;have u:=uj [t] M x;have a2:=wX [t] M x;grind[rB,wY,Nw,O5]
theorem nC:t∈kM L x↔t∈L/\t.id≠x:=by simp[kM]
theorem Qj(h:im L)(d:t∈L):(kM L t.id).length+1=L.length:=by obtain⟨M,bK⟩:=fA d;rw[(xw h bK).length_eq,bK.length_eq];rfl
theorem O6{L:List bS}(h:¬0<gF L x):∀t∈L,t.par≠x:=λt d e=>h (by
 have:t∈kK L x:=VE.2 ⟨d,by simpa using e⟩
 have:=List.length_pos_of_mem this
 rw[gF];omega)
theorem eK.off(h:eK L gl)(w:t∈L)(C:t.id≠0)(E:¬0<gF L t.id):eK (kM L t.id) gl where
 bq:=h.bq.sublist (List.filter_sublist.map _)
 j4:=h.j4.sublist (List.filter_sublist.map _)
 rg:=λu hu=>by
  have N:=h.rg u (nC.1 hu).1
  have O:=(h.rg t w).2.2.1
  rw[(Gw h.bq w u.id).1]
  split<;>omega
 root:=by
  obtain⟨r,H,e⟩:=h.root
  exact⟨r,nC.2 ⟨H,by rw[e];exact λd=>C d.symm⟩,e⟩
 qU:=λu hu=>h.qU u (nC.1 hu).1
 par:=λu hu e=>by
  obtain⟨⟨v,hv,d⟩,D⟩:=h.par u (nC.1 hu).1 e
  have:=O6 E u (nC.1 hu).1
  exact⟨⟨v,nC.2 ⟨hv,by rw[d];exact this⟩,d⟩,D⟩
 len:=Nat.le_trans (List.length_filter_le _ _) h.len
theorem td{L:List bS}{id c:Int}{u:bS}:u∈fL L id c↔∃t∈L,u=if t.id=id then⟨t.id,t.par,t.lim,c⟩else t:=by grind[fL]
theorem eK.set(h:eK L gl)(C:t∈L){c:Int}(D:0<=c)(E:c+fb L t.id<=t.lim):eK (fL L t.id c) gl where
 bq:=by rw[im,xT];exact h.bq
 j4:=by rw[xT];exact h.j4
 rg:=λu hu=>by obtain⟨v,hv,rfl⟩:=td.1 hu;have w:=h.rg v hv;by_cases e:v.id=t.id;have:=h.bq.inj hv C e;subst this;rw[ax rfl,(qY L _ c _).1];dsimp only;omega;rw[al e,(qY L _ c _).1];exact w
 root:=qZ.2 h.root
 qU:=λu hu e=>by obtain⟨v,hv,rfl⟩:=td.1 hu;split at e;rename_i d;rw[ax d];exact h.qU v hv e;rename_i d;rw[al d];exact h.qU v hv e
 par:=λu hu e=>by obtain⟨v,hv,rfl⟩:=td.1 hu;split at e;rename_i d;rw[ax d];exact⟨qZ.2 (h.par v hv e).1,(h.par v hv e).2⟩;rename_i d;rw[al d];exact⟨qZ.2 (h.par v hv e).1,(h.par v hv e).2⟩
 len:=by rw[fL,Wb];exact h.len
theorem eK.KX(h:eK L gl)(p lim:Int):eK (fO L gl p lim).1 (fO L gl p lim).2.1:=by rw[fO];split;trivial;rename_i d;split;trivial;rename_i C;split;trivial;rename_i u;split;trivial;rename_i w;exact h.add (Vr.1 d) U (Vr.1 u) w
theorem eK.close(h:eK L gl)(id:Int):eK (iC L id).1 gl:=by rw[iC];split;trivial;rename_i d;obtain⟨t,D,rfl⟩:=Vr.1 d;split;trivial;rename_i u;split;trivial;rename_i w;exact h.off D u (λC=>w (.inr C))
theorem eK.K5(h:eK L gl)(id n:Int):eK (de L id n).1 gl:=by rw[de];split;trivial;rename_i D;obtain⟨t,d,rfl⟩:=Vr.1 D;obtain⟨u,w,C,_⟩:=hB h.bq d;have N:=h.rg t d;split;trivial;split;trivial;rename_i H E;rw[u,w]at E;rw[C];exact h.set d U U
theorem eK.Rv(h:eK L gl)(id n:Int):eK (ek L id n).1 gl:=by rw[ek];split;trivial;rename_i w;obtain⟨t,d,rfl⟩:=Vr.1 w;obtain⟨_,_,u,_⟩:=hB h.bq d;have D:=h.rg t d;split;trivial;rename_i C;rw[u]at C⊢;exact h.set d U U
end Go.Proofs.Q.aw
namespace Go.Proofs.Q.aw
open Go Go.QM
section
variable {α : Type} [DecidableEq α] {enc : α → Value} {f : α → Option Value} {n : Nat}
variable {r : Option Nat} {P : Program} {ag : Env} {K : Value → ay → Prop}
variable {d : Option Tmp} {ty : TypeId} {ps : String} {bh : Array Edge} {g : Option (Nat × Bool)}
variable {t : TypeId} {x y z : Operand}
theorem N7{hs rest:List ay}(u e:TypeId){b:Nat}{a:α}{v:Value}(D:mv P t u e=true)(C:dR P u enc)(E:bc ag x=.map (some b))(H:bc ag y=enc a)(hv:bc ag z=v)[O:su hs b enc f n rest]
 (k:K undef (ah (bO enc b (fj f a v) (if(f a).isSome then n else n+1)::rest))):ck r P ag ⟨d,.insert t x y z,ty,ps,bh,g⟩ (ah hs) K:=λN w he hs=>by
 have h:=((l1 (d:=d) (ty:=ty) (ps:=ps) (bh:=bh) (g:=g) u e D C E H hv k:ck r P ag ⟨d,.mapUpdate t x y z,ty,ps,bh,g⟩ (ah _) K) N w he hs).2
 refine⟨λ_ _=>trivial,?_⟩
 rw[r1 _ rfl]at h⊢
 exact h
end
abbrev kR(A:Int->Nat)(L:List bS)(t:bS):ay:=aj (A t.id) 194 [.int .i64 t.lim,.int .i64 t.fJ,.int .i64 (fb L t.id),.int .i64 t.par,.int .i64 (gF L t.id)]
def jq(A:Int->Nat)(L:List bS):Int->Option Value:=λx=>if cX L x then some (.pointer (some ⟨A x,0,none⟩))else none
theorem zH{A:Int->Nat}{L:List bS}{x:Int}(h:cX L x):jq A L x=some (.pointer (some ⟨A x,0,none⟩)):=ax h
theorem Eo{A:Int->Nat}{L:List bS}{x:Int}(h:¬cX L x):jq A L x=none:=al h
structure oE where
  A:Int->Nat
  aC:Nat
def dt(b:Nat)(L:List bS)(gl:Int):ay:=fg λy:oE=>pure' (eK L gl) (ah [aj b 187 [.map (some y.aC),.int .i64 gl],bO QM.encI y.aC (jq y.A L) L.length,b8 (kR y.A L) L])
theorem sr{α:Type}{f:α->ay}{b:Nat}{o:Obj}:∀{L:List α} {x:α},x∈L->Rd (f x) b o->Rd (b8 f L) b o
 | a::L,x,h,r=>by rcases Vq.1 h with rfl|h;exact iK r;exact kb (sr h r)
theorem q3{A:Int->Nat}{L:List bS}{t:bS}(h:t∈L):fN (b8 (kR A L) L) (A t.id) (.cells (Vz [aa t.lim,aa t.fJ,aa (fb L t.id),aa t.par,aa (gF L t.id)]) 194 (0,0)):=⟨sr h (na _ _ _)⟩
theorem S1{xs:List Int}{k:Nat}{x:Int}(h:xs[k]? =some x):ft (xs.take (k+1))=ft (xs.take k)+x:=by rw[List.take_add_one,h,Option.toList,B0];simp[ft]
theorem En(A:Int->Nat)(L:List bS)(t:bS)(b:Nat):jq (aO A t.id b) (L++[t])=fj (jq A L) t.id (ae b):=by funext y;simp only[jq,fj];by_cases e:y=t.id;rw[ax e,ax ⟨t,by simp,e.symm⟩,e,cj];rw[al e,bM e];by_cases h:cX L y;rw[ax h,ax];obtain⟨u,hu,d⟩:=h;exact⟨u,by simp[hu],d⟩;rw[al h,al];rintro⟨u,hu,d⟩;rcases Ve.1 hu with hu|hu;exact h ⟨u,hu,d⟩;simp_all
theorem Mu(A:Int->Nat)(L:List bS)(x:Int):jq A (kM L x)=fV (jq A L) x:=by funext y;simp only[jq,fV];by_cases e:y=x;rw[ax e,al];rintro⟨u,hu,d⟩;exact(nC.1 hu).2 (d.trans e);rw[al e];by_cases h:cX L y;rw[ax h,ax];obtain⟨u,hu,d⟩:=h;exact⟨u,nC.2 ⟨hu,by rw[d];exact e⟩,d⟩;rw[al h,al];rintro⟨u,hu,d⟩;exact h ⟨u,(nC.1 hu).1,d⟩
theorem Ep(A:Int->Nat)(L:List bS)(x c:Int):jq A (fL L x c)=jq A L:=by grind[jq,qZ]
variable(L:List bS)
theorem Hw(x c:Int):(fL L x c).length=L.length:=by rw[fL,Wb]
theorem Hy{L M:List bS}{t:bS}(h:im L)(bK:L.Perm (t::M))(c:Int):((⟨t.id,t.par,t.lim,c⟩:bS)::M).Perm (fL L t.id c):=by have d:=bK.map λu:bS=>if u.id=t.id then⟨u.id,u.par,u.lim,c⟩else u;rw[VF,ax rfl]at d;have w:M.map (λu:bS=>if u.id=t.id then(⟨u.id,u.par,u.lim,c⟩:bS)else u)=M:=(by(conv=>rhs;rw[<-List.map_id M]);refine Wq λu hu=>?_;have:=(Vw.1 (h.perm bK.symm)).1;simp_all);rw[w]at d;exact d.symm
theorem Hx{A:Int->Nat}{L:List bS}(x c:Int)(u:bS):kR A L u=kR A (fL L x c) u:=by dsimp only[kR];rw[(qY L x c u.id).1,(qY L x c u.id).2]
theorem eK.pq{L:List bS}{u:Int}(h:eK L u){t:bS}(d:t∈L):0<=t.lim/\t.lim<=1073741824/\0<=t.fJ/\t.fJ+fb L t.id<=t.lim/\0<=fb L t.id/\0<=gF L t.id/\gF L t.id<=32:=by have w:=h.rg t d;have C:=wH h t.id;have D:=Fv L t.id;have E:=h.len;omega
theorem Rk(d:Option Addr)(D:Nat)(xs:List Int)(u:∀x∈xs,0<=x/\x<=1073741824)(V:xs.length<=1000):bn 150 [.slice d xs.length D] (λF=>∃E,cQ F E d (ints xs)) [] (aa (ft xs)) []:=by
 apply aF Tryz.func150 Tryz.ntmps150;intro F ⟨E,H⟩;apply J [8];haveI:bi F d E (ints xs):=⟨H⟩;have au:=dP xs;apply J [106,35,33,177];refine ab.loop (ι:=Nat) (λk=>k<=xs.length) (λk=>[(3,aa (ft (xs.take k))),(6,.slice d xs.length D),(7,aa xs.length),(8,aa ((k:Nat):Int))]) (λk=>ah [F]) (λk=>xs.length-k) 0 (Nat.zero_le _) bI (an (aX _)) ?_;rintro k N aw;dsimp only[cy]at N⊢;apply J [42];apply Vf rfl<;>intro W;have O:k<xs.length:=U
 obtain⟨x,w⟩:∃x,xs[k]? =some x:=⟨xs[k],List.getElem?_eq_getElem O⟩;have Z:0<(ints xs).length:=U
 have P:=S1 w;have ar:=u x (List.mem_of_getElem? w);have ag:=HY (l:=xs.take k) (λy C=>(u y (XV C)).1);have ao:=SY (l:=xs.take k) (λy C=>(u y (XV C)).2);have aq:(xs.take k).length<=k:=b2
 refine J [188] ?_;refine q rfl rfl (dB rfl rfl (gW w)) ?_;refine J [28,200,3,146,77,63] ?_;exact⟨rfl,(k+1),U,U,⟨by rw[P];rfl,rfl,rfl,rfl,trivial⟩,ai⟩;obtain rfl:k=xs.length:=by omega
 rw[List.take_length];apply J [232];exact j7
variable(b:Nat)
theorem Bz(l c g pr k:Int)(u:0<=c/\c<=1073741824)(w:0<=g/\g<=1073741824):bn 102 [ae b] (λF=>Rd F b (.cells (Vz [aa l,aa c,aa g,aa pr,aa k]) 194 (0,0))) [] (aa (c+g)) []:=by apply aF Tryz.func102 Tryz.ntmps102;intro F d;apply J [8];haveI:fN F b (.cells (Vz [aa l,aa c,aa g,aa pr,aa k]) 194 (0,0)):=⟨d⟩;apply J [35];refine cC [0,1,2,3,4,5,6,7,-8,-9,10] (an (aX _)) ?_;refine J [133,185,17,294] ?_;intro bb;refine J [47] ?_;refine aI (Rk (cF bb) _ [c,g] rQ cE) rfl (ev _) ⟨_,bi.rd (ad:=some ⟨bb,0,none⟩)⟩ ?_;intro _ _;change aG _ _/\ca _ _ _ _ _ _ _ _ _ _ (ah [_,_]);refine⟨ai,?_⟩;rw[show ft [c,g]=c+g by simp[ft]];apply J [199,148];exact dh
theorem G3(l c g pr k:Int)(u:0<=c/\c<=1073741824)(w:0<=g/\g<=1073741824)(n:Int)(C:0<=l/\l<=1073741824):bn 237 [ae b,aa n] (λF=>Rd F b (.cells (Vz [aa l,aa c,aa g,aa pr,aa k]) 194 (0,0))) [] (.bool (decide (n<=l-(c+g)))) []:=by apply aF Tryz.func237 Tryz.ntmps237;intro F d;apply J [8];haveI:fN F b (.cells (Vz [aa l,aa c,aa g,aa pr,aa k]) 194 (0,0)):=⟨d⟩;apply J [127,7];refine cC [0,1,2,3,4,5,-6,7,8,9] (an (aX _)) ?_;apply J [16,49,78,17];apply ew (Bz b l c g pr k u w) fN.rd;change aG _ _/\ca _ _ _ _ _ _ _ _ _ _ (ah [_]);refine J [10,438] ?_;refine bY rfl rfl rfl (leq rfl rfl) ?_;apply J [272,148];exact dh
theorem qT(aC n:Nat)(d:Int)(A:Int->Nat)(L:List bS)(id:Int)(h:cX L id):bn 101 [ae b,aa id] ba [aj b 187 [.map (some aC),aa d],bO QM.encI aC (jq A L) n] (.tuple #[.pointer (some ⟨(A id),0,none⟩),aa 0]) [aj b 187 [.map (some aC),aa d],bO QM.encI aC (jq A L) n]:=by apply aF Tryz.func101 Tryz.ntmps101;intro F _;apply J [11,24,95,95,30,114,156,107,114,54,304];refine q rfl rfl (kj 3 185 rfl rfl (dR.int rfl) rfl rfl) ?_;rw[zH h];apply J [56,41,36,164,26];exact tp
theorem qS(aC n:Nat)(d:Int)(A:Int->Nat)(L:List bS)(id:Int)(h:¬cX L id):bn 101 [ae b,aa id] ba [aj b 187 [.map (some aC),aa d],bO QM.encI aC (jq A L) n] (.tuple #[.pointer none,aa 6]) [aj b 187 [.map (some aC),aa d],bO QM.encI aC (jq A L) n]:=by apply aF Tryz.func101 Tryz.ntmps101;intro F _;apply J [11,24,95,95,30,114,156,107,114,54,304];refine q rfl rfl (kj 3 185 rfl rfl (dR.int rfl) rfl rfl) ?_;rw[Eo h];apply J [56,101,2,57,164,123];exact tp
theorem Rb(L:List bS)(d:Int)(id:Int):bn 49 [ae b,aa id] ba [dt b L d] (aa (ja L id)) [dt b L d]:=by
 apply aF Tryz.func49 Tryz.ntmps49;intro F _;apply J [1];refine ab.open 0 rfl (λN H=>?_);obtain⟨A,aC⟩:=N;have av:=H;apply J [83];dsimp only at av⊢;by_cases h:cX L id;obtain⟨t,w,rfl⟩:=h;have h:cX L t.id:=by grind[cX]
 obtain⟨C,u,D,E⟩:=hB av.bq w;have O:=av.pq w;rw[u];haveI:=q3 (A:=A) w;apply J [53];apply aq (qT b aC L.length d A L t.id h);apply J [14,198,172,43,96,26];exact ow;obtain⟨C,u,D,E⟩:=tl h;rw[u];apply J [53];apply aq (qS b aC L.length d A L id h);apply J [14,180,12,139];exact ow
theorem Rm(L:List bS)(d:Int)(id:Int):bn 50 [ae b,aa id] ba [dt b L d] (aa (kq L id)) [dt b L d]:=by
 apply aF Tryz.func50 Tryz.ntmps50;intro F _;apply J [1];refine ab.open 0 rfl (λN H=>?_);obtain⟨A,aC⟩:=N;have av:=H;apply J [83];dsimp only at av⊢;by_cases h:cX L id;obtain⟨t,w,rfl⟩:=h;have h:cX L t.id:=by grind[cX]
 obtain⟨u,C,D,E⟩:=hB av.bq w;have O:=av.pq w;rw[u];haveI:=q3 (A:=A) w;apply J [53];apply aq (qT b aC L.length d A L t.id h);apply J [14,198,172,43,0];apply ew (Bz (A t.id) t.lim t.fJ (fb L t.id) t.par (gF L t.id) U U) fN.rd;apply J [14,26];exact ow;obtain⟨u,C,D,E⟩:=tl h;rw[u];apply J [53];apply aq (qS b aC L.length d A L id h);apply J [14,180,12,139];exact ow
theorem Q8(L:List bS)(d:Int)(id:Int):bn 51 [ae b,aa id] ba [dt b L d] (aa (fC L id)) [dt b L d]:=by
 apply aF Tryz.func51 Tryz.ntmps51;intro F _;apply J [1];refine ab.open 0 rfl (λN H=>?_);obtain⟨A,aC⟩:=N;have av:=H;apply J [83];dsimp only at av⊢;by_cases h:cX L id;obtain⟨t,w,rfl⟩:=h;have h:cX L t.id:=by grind[cX]
 obtain⟨C,D,u,E⟩:=hB av.bq w;have O:=av.pq w;rw[u];haveI:=q3 (A:=A) w;apply J [53];apply aq (qT b aC L.length d A L t.id h);apply J [14,198,172,43,58,26];exact ow;obtain⟨C,D,u,E⟩:=tl h;rw[u];apply J [53];apply aq (qS b aC L.length d A L id h);apply J [14,180,12,139];exact ow
theorem Rh(L:List bS)(d:Int)(id:Int):bn 48 [ae b,aa id] ba [dt b L d] (aa (je L id)) [dt b L d]:=by
 apply aF Tryz.func48 Tryz.ntmps48;intro F _;apply J [1];refine ab.open 0 rfl (λN H=>?_);obtain⟨A,aC⟩:=N;have av:=H;apply J [83];dsimp only at av⊢;by_cases h:cX L id;obtain⟨t,w,rfl⟩:=h;have h:cX L t.id:=by grind[cX]
 obtain⟨C,D,E,u⟩:=hB av.bq w;have O:=av.pq w;rw[u];haveI:=q3 (A:=A) w;apply J [53];apply aq (qT b aC L.length d A L t.id h);apply J [14,198,172,122,220,26];exact ow;obtain⟨C,D,E,u⟩:=tl h;rw[u];apply J [53];apply aq (qS b aC L.length d A L id h);apply J [14,180,12,139];exact ow
theorem G2(L:List bS)(C:Int)(id n:Int):bn 179 [ae b,aa id,aa n] ba [dt b L C] (aa (de L id n).2) [dt b (de L id n).1 C]:=by
 apply aF Tryz.func179 Tryz.ntmps179;intro F _;apply J [1];refine ab.open 0 rfl (λZ W=>?_);obtain⟨A,aC⟩:=Z;have av:=W;apply J [83];dsimp only at av⊢;by_cases h:cX L id;obtain⟨t,w,rfl⟩:=h;have h:cX L t.id:=by grind[cX]
 obtain⟨E,H,N,ag⟩:=hB av.bq w;have ao:=av.pq w;obtain⟨M,bK⟩:=fA w;haveI:=q3 (A:=A) w;apply J [53];apply aq (qT b aC L.length C A L t.id h);apply J [14,59,23,331,38];apply Vf rfl<;>intro D;have hv:de L t.id n=(L,1):=by rw[de,al (λd=>d h),ax D]
 rw[hv];dsimp only;apply J [67];exact si;apply J [43,29];apply ew (G3 (A t.id) t.lim t.fJ (fb L t.id) t.par (gF L t.id) U U n U) fN.rd;apply J [14,409,38];apply Vf rfl<;>intro O;have hv:de L t.id n=(L,5):=by rw[de,al (λd=>d h),al D,ax (by rw[E,H];exact O)]
 rw[hv];dsimp only;apply J [67];exact si;have d:n<=t.lim-(t.fJ+fb L t.id):=U
 have hv:de L t.id n=(fL L t.id (t.fJ+n),0):=by rw[de,al (λd=>d h),al D,al (by rw[E,H];exact λP=>P d),N]
 rw[hv];dsimp only;have V:eK (fL L t.id (t.fJ+n)) C:=av.set w U U;refine J [355,20,43,58,3,146,80,81,406,202,118] ?_;exact e9 (az (⟨A,aC⟩:oE) V (bv (b6 2 rfl (by dsimp only;rw[Ep,Hw]) (cY 0 0 (⟨t.id,t.par,t.lim,t.fJ+n⟩:bS) rfl rfl (by dsimp only[kR];rw[(qY L t.id (t.fJ+n) t.id).1,(qY L t.id (t.fJ+n) t.id).2];rfl) (λu _=>Hx t.id (t.fJ+n) u) (Hy av.bq bK (t.fJ+n)) (an (aX _))))));have hv:de L id n=(L,6):=ax h;rw[hv];dsimp only;apply J [53];apply aq (qS b aC L.length C A L id h);apply J [14,59,12,211];exact ow
theorem xJ(L:List bS)(D:Int)(id n:Int):bn 181 [ae b,aa id,aa n] ba [dt b L D] (aa (ek L id n).2) [dt b (ek L id n).1 D]:=by
 apply aF Tryz.func181 Tryz.ntmps181;intro F _;apply J [1];refine ab.open 0 rfl (λW V=>?_);obtain⟨A,aC⟩:=W;have av:=V;apply J [83];dsimp only at av⊢;by_cases h:cX L id;obtain⟨t,C,rfl⟩:=h;have h:cX L t.id:=by grind[cX]
 obtain⟨Z,ag,H,ao⟩:=hB av.bq C;have ar:=av.pq C;obtain⟨M,bK⟩:=fA C;haveI:=q3 (A:=A) C;apply J [53];apply aq (qT b aC L.length D A L t.id h);apply J [14,59,23,179];refine aU.split 22 rfl (λd=>?_) (λd=>?_);have d:=dz d;apply J [45,52,143,12];have hv:ek L t.id n=(L,1):=by rw[ek,al (λw=>w h),ax (.inl d)]
 rw[hv];dsimp only;apply J [67];exact si;have d:=d7 d;apply J [13,136,366,238,159,207];apply Vf rfl<;>intro N;have hv:ek L t.id n=(L,1):=by rw[ek,al (λw=>w h),H,ax (.inr N)]
 rw[hv];dsimp only;apply J [67];exact si;have hv:ek L t.id n=(fL L t.id (t.fJ-n),0):=by rw[ek,al (λw=>w h),H,al (λO=>O.elim (λE=>d E) (λE=>N E))]
 rw[hv];dsimp only;have P:eK (fL L t.id (t.fJ-n)) D:=av.set C U U;refine J [355,20,43,58,3,243,80,81,406,202,118] ?_;exact e9 (az (⟨A,aC⟩:oE) P (bv (b6 2 rfl (by dsimp only;rw[Ep,Hw]) (cY 0 0 (⟨t.id,t.par,t.lim,t.fJ-n⟩:bS) rfl rfl (by dsimp only[kR];rw[(qY L t.id (t.fJ-n) t.id).1,(qY L t.id (t.fJ-n) t.id).2];rfl) (λu _=>Hx t.id (t.fJ-n) u) (Hy av.bq bK (t.fJ-n)) (an (aX _))))));have hv:ek L id n=(L,6):=ax h;rw[hv];dsimp only;apply J [53];apply aq (qS b aC L.length D A L id h);apply J [14,59,12,211];exact ow
end Go.Proofs.Q.aw
namespace Go.Proofs.Q.aw
open Go Go.QM
def mQ(f:Int->Option Value)(n:Nat)(y:List Int):Prop:=y.Nodup/\y.length=n/\∀x,x∈y↔(f x).isSome=true
theorem xp{α:Type}{l m:List α}(h:l.Nodup)(hs:∀x∈l,x∈m):l.length<=m.length:=by induction l generalizing m with|nil=>simp|cons a l E=>obtain⟨w,C⟩:=Vw.1 h;obtain⟨s,t,rfl⟩:=List.append_of_mem (hs a cE);have:=E (m:=s++t) C (λx u=>by have d:=hs x (by simp[u]);have D:x≠a:=λe=>w (e▸u);simp at d⊢;rcases d with d|d|d;exact .inl d;exact absurd d D;exact .inr d);simp at this⊢;omega
def uC(b:Nat)(f:Int->Option Value)(n:Nat):ay:=fg λy:List (Int×Value)×Array MapEntry×Nat=>pure' (j9 f n y.1/\y.2.1.toList.map (λe=>(e.key,e.val))=y.1.map (λt=>(QM.encI t.1,t.2))/\iI y.2.1 y.2.2) (ah [obj b (.map y.2.1 y.2.2)])
theorem AO(b:Nat)(f:Int->Option Value)(n:Nat):aG (bO QM.encI b f n) (uC b f n):=by rintro h ⟨m,hm,o,⟨es,aI,rfl,u,w⟩,C⟩;obtain⟨d,s,D⟩:=(o1:aG (obj b (.map es aI)) (ah [obj b (.map es aI)])) h C;exact⟨d,s,⟨m,es,aI⟩,⟨hm,u,w⟩,D⟩
theorem AP{b:Nat}{f:Int->Option Value}{n:Nat}{m:List (Int×Value)}{es:Array MapEntry}{aI:Nat}(hm:j9 f n m)(d:es.toList.map (λe=>(e.key,e.val))=m.map (λt=>(QM.encI t.1,t.2)))(u:iI es aI):aG (obj b (.map es aI)) (bO QM.encI b f n):=
 hR λh w=>⟨m,hm,_,⟨es,aI,rfl,d,u⟩,w⟩
theorem AK{m:List (Int×Value)}{x:Int}:x∈m.map (·.1)↔(fp x m).isSome=true:=by have:=xb (a:=x) (m:=m);cases h:fp x m with|none=>rw[h]at this;simpa using this.1 rfl|some v=>rw[h]at this;simp only[Option.isSome_some,iff_true];(exact Vr.1 λd=>by have:=this.2 d;cases this)
theorem At{f:Int->Option Value}{n:Nat}{m:List (Int×Value)}{es:Array MapEntry}{aI:Nat}(hm:j9 f n m)(u:es.toList.map (λe=>(e.key,e.val))=m.map (λt=>(QM.encI t.1,t.2)))(w:iI es aI)
 {bj:List MapEntry} (bN:∀e∈bj,e∈es.toList) (C:(bj.map (·.born)).Nodup) (D:∀e∈es.toList,e.born∈(bj.map (·.born)).toArray):mQ f n (bj.map kJ):=by have d:=(all_keys w bN C λe he=>by simpa using D e he).map kJ;rw[(wQ u).2]at d;refine⟨d.nodup_iff.2 hm.bq,by rw[d.length_eq,Wb,hm.n],λx=>?_⟩;rw[d.mem_iff,AK,hm.oa]
def uQ(b7 gh c:Nat)(xs:List Int):ay:=fg λx:Option Addr×Nat=>pure' True (ah [aj c b7 [.slice x.1 xs.length x.2],aZ gh 1 x.1 xs.length x.2 (ints xs)])
theorem Au(w aC n:Nat)(f:Int->Option Value)(ao:n<=1000000):pc Tryz.prog 149 [ae w] (λx:Int=>[aa x]) (λP _=>P.length<=1000000) [aj w 184 [.map (some aC)],bO QM.encI aC f n] (λy:List Int=>y) (mQ f n) (λ_=>[aj w 184 [.map (some aC)],bO QM.encI aC f n]):=by
 refine pc.intro aV Tryz.func149 rfl Tryz.ntmps149 kk rfl ?_;intro ay bL V;apply J [11];refine ab.bg (B:=ah [bL [],aj w 184 [.map (some aC)],uC aC f n]) (an (an (eI 0 rfl (AO aC f n) (aX _)))) ?_;apply ab.open 2 rfl;rintro⟨m,es,aI⟩ ⟨hm,D,C⟩;apply J [11];dsimp only at hm D C⊢;apply J [24,519,0];refine xM 3 185 rfl rfl ?_;intro it;apply J [14,142];refine ab.loop (ι:=List MapEntry) (λbj=>(∀e∈bj,e∈es.toList)/\(bj.map (·.born)).Nodup) (λbj=>[(0,.func (.yield ay) #[] #[]),(5,ae it)]) (λbj=>ah [bL (bj.map kJ),obj it (.mapIter (some aC) aI ((bj.map (·.born)).toArray) aI),obj aC (.map es aI),aj w 184 [.map (some aC)]]) (λbj=>es.toList.length-bj.length) [] ⟨(λ_ h=>(by cases h)),List.nodup_nil⟩ bI ai ?_;rintro bj ⟨E,H⟩ aP;dsimp only[cy]at E H⊢;apply J [25];refine xt 1 rfl rfl (kb (iK (iL _ _))) C (λW=>?_) (λd he ar=>?_);apply J [14];have Z:=At hm D C E H W;apply J [256,30,23,344];exact⟨rfl,(bj.map kJ),Z,(bU (bv (eI 1 rfl (AP hm D C) (aX _))))⟩;apply J [14];have ag:=(wQ D).1 d he;have ar:d.born∉bj.map (·.born):=b2
 have O:((bj++[d]).map (·.born)).Nodup:=cm;have N:∀u∈bj++[d],u∈es.toList:=λu hu=>cm;have aq:=xp O (m:=es.toList.map (·.born)) (λx aw=>by obtain⟨u,hu,rfl⟩:=Vs.1 aw;exact Vs.2 ⟨u,N u hu,rfl⟩);simp only[Wb,mp,Vy,List.length_nil]at aq;have aL:es.toList.length=n:=(by have:=congrArg List.length D;simp only[Wb]at this;rw[this,hm.n]);have au:((bj.map (·.born)).toArray.push d.born)=(((bj++[d]).map (·.born)).toArray):=cE
 apply J [256,30,12,4,72,24];refine q rfl rfl (wo d rfl (kb (kb (iK (iL _ _)))) he C) ?_;rw[ag];apply J [91,28,114,29];refine yp 1 (V (bj.map kJ) (kJ d) _ (by simp only[Wb];omega)) rfl rfl rfl ?_;rintro aF aA ⟨rfl,rfl⟩;apply J [14];first|refine q rfl rfl (xr rfl) ?_|refine q rfl rfl (uM rfl) ?_
 apply J [108,20];exact⟨rfl,(bj++[d]),⟨N,O⟩,sW,bI,(b6 0 rfl (by rw[V7];rfl) (b6 0 rfl (by rw[au]) (an (an (aX _)))))⟩
theorem Av(aC:Nat):bH 99 [.map (some aC)] ba [] (λd:Nat=>.func (.func 149) #[] #[ae d]) (λ_=>True) (λd=>[aj d 184 [.map (some aC)]]):=by
 apply aF Tryz.func99 Tryz.ntmps99;intro F _;apply J [186];refine eS (v:=.map _) (l:=[.map _]) rfl rfl ?_;intro bb;apply J [95,226];first|refine q rfl rfl (uE (tm:=[]) (m7:=[.pointer _]) rfl rfl) ?_|refine q rfl rfl (uE rfl rfl) ?_
 apply J [95,224];exact br bb trivial ai
theorem yT(d aC n:Nat)(f:Int->Option Value)(ao:n<=1000000):bH 198 [.slice none 0 0,.func (.func 149) #[] #[ae d]] ba [aj d 184 [.map (some aC)],bO QM.encI aC f n] (λy:(Option Addr×Nat)×List Int=>.slice y.1.1 y.2.length y.1.2) (λy=>mQ f n y.2) (λy=>[aZ 3 1 y.1.1 y.2.length y.1.2 (ints y.2),bO QM.encI aC f n]):=by refine J [585] ?_;intro F _;apply J [11,25];refine eS (v:=.slice _ _ _) (l:=[.slice _ _ _]) rfl rfl ?_;intro bD;apply J [182,114,142];refine ab.bg (B:=ah [aj d 184 [.map (some aC)],bO QM.encI aC f n,uQ 90 3 bD [],F]) ((dI 3 1 _).trans (bv (bv (az (⟨none,0⟩:Option Addr×Nat) trivial ai)))) ?_;refine ab.BB (λu=>[uQ 90 3 bD u]) (Au d aC n f ao) rfl (d6 0 rfl (d6 0 rfl (ev _))) (d6 0 rfl (ev _)) (λ_=>rfl) rfl ?_ ?_;rintro Z u x O W;apply J [1,155,28];refine⟨rfl,(aG.refl _),λP=>?_⟩;refine J [321] ?_;rintro⟨w,C⟩-;apply J [11];have V:=dP u;refine J [72,155,519,68] ?_;intro cp;refine J [0,586] ?_;intro w C;apply J [269];refine aU.nil (jb ?_);refine⟨rfl,rfl,?_⟩;change aG (ah [_,_,_,_]) (ah [_,_]);exact(az ⟨w,C⟩ trivial (b6 0 rfl (by simp[dM,Value.cells]) (b6 0 rfl (by simp[ints]) (bU (aX _)))));intro D y N;refine(jb (hW ?_));refine J [82,433] ?_;rintro⟨E,H⟩-;apply J [157,24,519,61];exact .inl ⟨⟨(E,H),y⟩,[_],D,rfl,rfl,⟨rfl,trivial⟩,rfl,N,(eQ (bU (bv (bv (aX _)))))⟩
theorem zp(d aC n:Nat)(f:Int->Option Value)(ao:n<=1000000):bH 147 [.func (.func 149) #[] #[ae d]] ba [aj d 184 [.map (some aC)],bO QM.encI aC f n] (λy:(Option Addr×Nat)×List Int=>.slice y.1.1 y.2.length y.1.2) (λy=>mQ f n y.2) (λy=>[aZ 3 1 y.1.1 y.2.length y.1.2 (ints y.2),bO QM.encI aC f n]):=by apply aF Tryz.func147 Tryz.ntmps147;intro F _;apply J [11,115,114,0];apply a7 (yT d aC n f ao);intro y u;apply J [6,61];exact br y u ai
end Go.Proofs.Q.aw
namespace Go.Proofs.Q
open Go Go.Shelf
def Pj:Go.Shelf.Ren:=⟨fun|189=>148|125=>200|257=>199|128=>252|129=>253|294=>243|295=>244|296=>245|297=>246|298=>247|299=>248|216=>249|300=>250|301=>251|328=>297|329=>298|330=>299|331=>300|332=>301|215=>289|343=>342|n=>n,fun|28=>90|3=>3|46=>94|0=>0|51=>32|53=>47|4=>4|183=>376|182=>375|131=>289|5=>5|9=>9|218=>416|222=>419|228=>441|229=>442|n=>n,fun|n=>n⟩
theorem FG:Go.Proofs.Lays.n189 Tryz.prog Pj:={
 mixed:=by kernel_rfl
 f125:=Tryz.func200.trans (congrArg some aV)
 f128:=Tryz.func252.trans (congrArg some aV)
 f129:=Tryz.func253.trans (congrArg some aV)
 f189:=Tryz.func148.trans (congrArg some aV)
 f215:=Tryz.func289.trans (congrArg some aV)
 f216:=Tryz.func249.trans (congrArg some aV)
 f257:=Tryz.func199.trans (congrArg some aV)
 f294:=Tryz.func243.trans (congrArg some aV)
 f295:=Tryz.func244.trans (congrArg some aV)
 f296:=Tryz.func245.trans (congrArg some aV)
 f297:=Tryz.func246.trans (congrArg some aV)
 f298:=Tryz.func247.trans (congrArg some aV)
 f299:=Tryz.func248.trans (congrArg some aV)
 f300:=Tryz.func250.trans (congrArg some aV)
 f301:=Tryz.func251.trans (congrArg some aV)
 f328:=Tryz.func297.trans (congrArg some aV)
 f329:=Tryz.func298.trans (congrArg some aV)
 f330:=Tryz.func299.trans (congrArg some aV)
 f331:=Tryz.func300.trans (congrArg some aV)
 f332:=Tryz.func301.trans (congrArg some aV)
 f343:=Tryz.func342.trans (congrArg some aV)
 t0:=Tryz.underlying0
 a0:=Tryz.isAgg0
 z0:=Tryz.sizeOf0
 v0:=Tryz.zeroValue0
 t3:=Tryz.underlying3
 a3:=Tryz.isAgg3
 z3:=Tryz.sizeOf3
 v3:=Tryz.zeroValue3
 t4:=Tryz.underlying4
 a4:=Tryz.isAgg4
 z4:=Tryz.sizeOf4
 v4:=Tryz.zeroValue4
 t5:=Tryz.underlying5
 a5:=Tryz.isAgg5
 z5:=Tryz.sizeOf5
 v5:=Tryz.zeroValue5
 t9:=Tryz.underlying9
 a9:=Tryz.isAgg9
 z9:=Tryz.sizeOf9
 v9:=Tryz.zeroValue9
 t28:=Tryz.underlying90
 a28:=Tryz.isAgg90
 z28:=Tryz.sizeOf90
 v28:=Tryz.zeroValue90
 t46:=Tryz.underlying94
 a46:=Tryz.isAgg94
 z46:=Tryz.sizeOf94
 v46:=Tryz.zeroValue94
 t51:=Tryz.underlying32
 a51:=Tryz.isAgg32
 z51:=Tryz.sizeOf32
 v51:=Tryz.zeroValue32
 t53:=Tryz.underlying47
 a53:=Tryz.isAgg47
 z53:=Tryz.sizeOf47
 v53:=Tryz.zeroValue47
 t131:=Tryz.underlying289
 a131:=Tryz.isAgg289
 z131:=Tryz.sizeOf289
 v131:=Tryz.zeroValue289
 t182:=Tryz.underlying375
 a182:=Tryz.isAgg375
 z182:=Tryz.sizeOf375
 v182:=Tryz.zeroValue375
 t183:=Tryz.underlying376
 a183:=Tryz.isAgg376
 z183:=Tryz.sizeOf376
 v183:=Tryz.zeroValue376
 t218:=Tryz.underlying416
 a218:=Tryz.isAgg416
 z218:=Tryz.sizeOf416
 v218:=Tryz.zeroValue416
 t222:=Tryz.underlying419
 a222:=Tryz.isAgg419
 z222:=Tryz.sizeOf419
 v222:=Tryz.zeroValue419
 t228:=Tryz.underlying441
 a228:=Tryz.isAgg441
 z228:=Tryz.sizeOf441
 v228:=Tryz.zeroValue441
 t229:=Tryz.underlying442
 a229:=Tryz.isAgg442
 z229:=Tryz.sizeOf442
 v229:=Tryz.zeroValue442}
end Go.Proofs.Q
