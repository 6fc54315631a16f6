/- Proved here: contracts of functions of this program, under the premises that each theorem names. -/
import Derived.Lib.TrailingZeros
import Derived.Test.YtglgidjhoncphaaGreatDoorYk
set_option linter.all false
set_option maxRecDepth 4000
set_option maxHeartbeats 4000000
open List renaming mem_append->Uq,mem_cons->UB,nodup_cons->UI,replicate->UK,length_cons->UP,map_cons->UX,take_append_drop->Vd,range->Vu,all_eq_true->Ws,cons_append->WG,pairwise_cons->W3,map_map->W7,mem_range->Xu
open Nat renaming pow_le_pow_right->Uu,zero_le->Uv,le_refl->Uw,eq_of_beq_eq_true->UM,mul_one->VH,mul_comm->V4,blt->V6,and_two_pow_sub_one_eq_mod->We,min_eq_left->Wl,two_pow_pos->Wt,lt_of_lt_of_le->Wx,mod_lt->W6,pow_succ->Xm,testBit_xor->XE,mul_lt_mul_of_pos_right->XF
open Go.Result renaming andThen_ok->UA
open Go.Sem renaming run_bind->UL,run_pure->U2
open Go.Region renaming wanted->UV,ready->Vc,noSelect->WL
open Bool renaming and_eq_true->UW
open Go.QM.aF renaming refl->U5
open BitVec renaming ofInt->U6
open Go.Lib renaming ctz->WJ
open Go.Instr renaming findNow->WR,checkKey->W0
open Go.Builtin renaming max_->XT,max2->XU
namespace Go.QM
open Go
def ih(f:Nat->Bool)(k:Nat):Nat:=oa (λj=>f (64*k+j)) 64
variable(f:Nat->Bool)
theorem tw(k:Nat):ih f k<2^64:=BM _ 64
theorem q9(k j:Nat):(ih f k).testBit j=(decide (j<64)&&f (64*k+j)):=Il _ 64 j
def kQ(f:Nat->Bool)(w:Nat):List Value:=(Vu w).map λk=>.int .u64 (ih f k:Int)
theorem q8(w:Nat):(kQ f w).length=w:=by simp[kQ]
theorem q7{w k:Nat}(h:k<w):(kQ f w)[k]? =some (bg (ih f k:Int)):=by simp[kQ,h]
theorem J2(i:Nat):ih f (i/64)/2^(i %64) %2=if f i=true then 1 else 0:=by have h:=q9 f (i/64) (i %64);grind
def e5(f:Nat->Bool)(i:Nat):Nat->Bool:=λx=>if x=i then !f x else f x
theorem J3(i:Nat):ih f (i/64)^^^2^(i %64)=ih (e5 f i) (i/64):=by apply Nat.eq_of_testBit_eq;intro j;rw[XE,q9,q9,Nat.testBit_two_pow,e5];grind
theorem J4{i k:Nat}(h:k≠i/64):ih (e5 f i) k=ih f k:=
  Im λj d=>by rw[e5,al U]
theorem J1{i w:Nat}(h:i/64<w):dJ (i/64) [bg ((ih f (i/64)^^^2^(i %64):Nat):Int)] (kQ f w)=kQ (e5 f i) w:=by have e:kQ (e5 f i) w=(kQ f w).set (i/64) (bg ((ih f (i/64)^^^2^(i %64):Nat):Int)):=(by apply List.ext_getElem?;intro j;by_cases d:j<w;rw[q7 _ d,List.getElem?_set];by_cases e:i/64=j;subst e;rw[aw rfl,aw (by rw[q8];exact h),J3];rw[al e,q7 _ d,J4 f (Ne.symm e)];grind[q8]);rw[e,List.set_eq_take_append_cons_drop,aw (by rw[q8];exact h)];grind[dJ]
def lP(on:Bool)(x:Nat):Nat:=if on=true then x else 2^64-1^^^x
theorem PX{on:Bool}{x:Nat}(h:x<2^64):lP on x<2^64:=by rw[lP];split;trivial;exact Nat.xor_lt_two_pow am h
theorem AN(on:Bool)(f:Nat->Bool)(k:Nat){j:Nat}(d:j<64):(lP on (ih f k)).testBit j=(f (64*k+j)==on):=by rw[lP];cases on with|true=>rw[aw rfl,q9,cR d];cases f (64*k+j)<;>rfl|false=>rw[al am,XE,Nat.testBit_two_pow_sub_one,q9,cR d];cases f (64*k+j)<;>rfl
theorem yX{x s j:Nat}(hs:s<64)(d:j<64):(x/2^s*2^s %2^64).testBit j=(decide (s<=j)&&x.testBit j):=by rw[Nat.testBit_mod_two_pow,cR d,Bool.true_and,V4,Nat.testBit_two_pow_mul];grind
theorem K9{x:Nat}(d:x≠0)(h:x<2^64):WJ 64 x<64/\x.testBit (WJ 64 x)=true/\∀j,j<WJ 64 x->x.testBit j=false:=by
 obtain⟨m,hm,u⟩:=Lib.ctzFrom_spec 64 x U h;have e:WJ 64 x=Lib.ctzFrom 64 x:=by grind[WJ]
 grind
def x9(f:Nat->Bool)(on:Bool)(n o i:Nat):Prop:=o<=i/\i<n/\f i=on/\∀j,o<=j->j<i->f j≠on
def th(f:Nat->Bool)(on:Bool)(n o:Nat):Prop:=∀j,o<=j->j<n->f j≠on
theorem Tr{f:Nat->Bool}{on:Bool}{k s:Nat}(hs:s<64)(h:lP on (ih f k)/2^s*2^s %2^64=0){j:Nat}(u:64*k+s<=j)(w:j<64*(k+1)):f j≠on:=λe=>by
  have d:=yX (x:=lP on (ih f k)) hs (show j-64*k<64 by omega)
  rw[h,Nat.zero_testBit,AN on f k U,show 64*k+(j-64*k)=j by omega,cR (by omega:s<=j-64*k),e]at d
  cases on<;>cases d
theorem Tq{f:Nat->Bool}{on:Bool}{k s:Nat}(hs:s<64)(h:lP on (ih f k)/2^s*2^s %2^64≠0):
    ∃c,WJ 64 (lP on (ih f k)/2^s*2^s %2^64)=c/\c<64/\s<=c/\f (64*k+c)=on/\∀j,64*k+s<=j->j<64*k+c->f j≠on:=by obtain⟨d,u,w⟩:=K9 h (W6 _ am);refine⟨_,rfl,d,?_⟩;generalize WJ 64 (lP on (ih f k)/2^s*2^s %2^64)=c at d u w;rw[yX hs d,AN on f k d]at u;have C:s<=c:=b2;rw[cR C,Bool.true_and]at u;refine⟨C,by simpa using u,λj D E e=>?_⟩;have H:=w (j-64*k) U;grind[yX,AN]
end Go.QM
namespace Go.QM
abbrev jZ:=Nat->Nat->Bool
def kT(f:jZ)(p:Nat):Nat->Nat
  | 0=>0
  | k+1=>kT f p k+(f k (p/2^k)).toNat
def k6(f:jZ)(k i:Nat)(v:Bool):jZ:=λwu En=>if wu=k/\En=i then v else f wu En
theorem tD(f:jZ)(k i:Nat)(v:Bool)(p:Nat):∀n,kT (k6 f k i v) p n+(if k<n/\p/2^k=i then(f k i).toNat else 0)=kT f p n+(if k<n/\p/2^k=i then v.toNat else 0)
  | 0=>by simp[kT]
  | n+1=>by have w:=tD f k i v p n;rw[kT,kT,k6];by_cases e:n=k;subst e;rw[al U,al U]at w;by_cases d:p/2^n=i;rw[aw ⟨rfl,d⟩,aw ⟨by omega,d⟩,aw ⟨by omega,d⟩,d];omega;rw[al (λh=>d h.2),al (λh=>d h.2),al (λh=>d h.2)];omega;rw[al (λh=>e h.1)];by_cases d:p/2^k=i;by_cases u:k<n;rw[aw ⟨u,d⟩,aw ⟨u,d⟩]at w;rw[aw ⟨by omega,d⟩,aw ⟨by omega,d⟩];omega;rw[al (λh=>u h.1),al (λh=>u h.1)]at w;rw[al (λh=>u U),al (λh=>u U)];omega;rw[al (λh=>d h.2),al (λh=>d h.2)]at w;rw[al (λh=>d h.2),al (λh=>d h.2)];omega
theorem vJ{f:jZ}{p k:Nat}:∀{n:Nat},kT f p n=0->k<n->f k (p/2^k)=false
  | 0,_,h=>by omega
  | n+1,h,u=>by
   rw[kT]at h;by_cases e:k=n;subst e;cases d:f k (p/2^k)with|false=>rfl|true=>rw[d]at h;simp at h
   exact vJ (n:=n) U U
theorem yW{f:jZ}{p:Nat}:∀{n:Nat},(∀k,k<n->f k (p/2^k)=false)->kT f p n=0
  | 0,_=>rfl
  | n+1,h=>by rw[kT,yW λk d=>h k U,h n U];rfl
variable{f:jZ}{k:Nat}
theorem Dc{p:Nat}{n:Nat}(h:f k (p/2^k)=true)(d:k<n):kT f p n≠0:=λe=>by
  rw[vJ e d]at h;cases h
theorem tG(p k:Nat):p/2^(k+1)=p/2^k/2:=by rw[Xm,Nat.div_div_eq_div_mul]
theorem wS(i k:Nat):i*2^k/2^k=i:=Nat.mul_div_cancel i (Wt k)
variable{top i:Nat}
theorem Fi(u:k<=top)(d:i<2^(top-k)):i*2^k<2^top:=by
 have e:2^top=2^(top-k)*2^k:=by rw[<-Nat.pow_add];congr 1;omega
 rw[e];exact XF d (Wt k)
theorem we(d:k<top):2^(top-k)=2*2^(top-(k+1)):=by rw[show top-k=(top-(k+1))+1 by omega,Xm,V4]
structure lX(f:jZ)(top:Nat)(cg:List Nat):Prop where
  bd:∀k i,f k i=true->k<=top/\i<2^(top-k)
  ao:∀p,p<2^top->kT f p (top+1)=if p∈cg then 0 else 1
  bo:cg.Nodup
  lt:∀p∈cg,p<2^top
structure kg(f:jZ)(top:Nat)(cg:List Nat)(k i:Nat):Prop where
  hQ:k<=top
  it:i<2^(top-k)
  bd:∀k i,f k i=true->k<=top/\i<2^(top-k)
  ao:∀p,p<2^top->kT f p (top+1)=if p∈cg\/p/2^k=i then 0 else 1
  bo:cg.Nodup
  lt:∀p∈cg,p<2^top
  um:∀p,p/2^k=i->p∉cg
theorem sj(bd:∀k i,f k i=true->k<=top/\i<2^(top-k)){v:Bool}(h:v=true->k<=top/\i<2^(top-k)):
    ∀d w,k6 f k i v d w=true->d<=top/\w<2^(top-d):=λd w u=>by
  rw[k6]at u
  split at u
  · rename_i e;obtain⟨rfl,rfl⟩:=e;exact h u
  · exact bd d w u
theorem uO{l m:List Nat}(au:l.Nodup)(h:∀x∈l,x∈m):l.length<=m.length:=by induction l generalizing m with|nil=>exact Uv _|cons x l D=>obtain⟨w,C⟩:=UI.1 au;have d:x∈m:=h x cF;have:=D (m:=m.erase x) C λy u=>(List.mem_erase_of_ne (λe:y=x=>w (e▸u))).2 (h y (by simp[u]));rw[List.length_erase_of_mem d]at this;have:=List.length_pos_of_mem d;rw[UP];omega
variable{cg:List Nat}
theorem lX.none(h:lX f top cg)(au:∀k,k<=top->∀i,i<2^(top-k)->f k i=false):2^top<=cg.length:=by have:=uO (l:=Vu (2^top)) (m:=cg) List.nodup_range λp u=>(by have u:=Xu.1 u;have w:=h.ao p u;rw[yW λk C=>?_]at w;simp_all;cases d:f k (p/2^k)with|false=>rfl|true=>obtain⟨a,b⟩:=h.bd _ _ d;rw[au k a _ b]at d;cases d);simp_all
theorem lX.take(h:lX f top cg)(w:f k i=true):kg (k6 f k i false) top cg k i:=by obtain⟨a,b⟩:=h.bd _ _ w;have key:∀p,p<2^top->p/2^k=i->p∉cg/\kT f p (top+1)=1:=λp u e=>(by have d:=h.ao p u;by_cases C:p∈cg;rw[aw C]at d;exact absurd d (Dc (k:=k) (by rw[e];exact w) U);simp_all);refine⟨a,b,sj h.bd (λh=>by cases h),λp u=>?_,h.bo,h.lt,λp e hu=>(key p (h.lt p hu) e).1 hu⟩;have d:=tD f k i false p (top+1);by_cases e:p/2^k=i;grind;rw[al (λh=>e h.2),al (λh=>e h.2),h.ao p u]at d;simp_all
theorem kg.split(h:kg f top cg (k+1) i):f k (2*i+1)=false/\kg (k6 f k (2*i+1) true) top cg k (2*i):=by have H:=h.hQ;have E:=h.it;have N:=we (k:=k) (top:=top) U;have C:(2*i+1)*2^k<2^top:=Fi U U;have u:f k (2*i+1)=false:=(by have d:=h.ao _ C;(have e:(2*i+1)*2^k/2^(k+1)=i:=by grind[tG,wS]);rw[aw (.inr e)]at d;grind[vJ,wS]);refine⟨u,by omega,by omega,sj h.bd λ_=>by omega,λp D=>?_,h.bo,h.lt,λp e=>h.um p (by rw[tG,e];omega)⟩;have d:=tD f k (2*i+1) true p (top+1);have w:=h.ao p D;rw[tG]at w;rw[u]at d;by_cases e:p/2^k=2*i+1;have hu:p∉cg:=h.um p (by rw[tG,e];omega);grind;grind
theorem kg.done(h:kg f top cg 0 i):i<2^top/\i∉cg/\lX f top (i::cg):=by have u:i<2^top:=h.it;have au:i∉cg:=h.um i cF;refine⟨u,au,h.bd,λp d=>?_,UI.2 ⟨au,h.bo⟩,λp d=>?_⟩;rw[h.ao p d];grind;rcases UB.1 d with rfl|d;trivial;exact h.lt p d
theorem lX.MU(h:lX f top cg){d:Nat}(hm:d∈cg):kg f top (cg.erase d) 0 d:=by refine⟨Uv _,h.lt d hm,h.bd,λp u=>?_,h.bo.erase _,λp u=>h.lt p (List.mem_of_mem_erase u),λp e=>?_⟩;rw[h.ao p u];grind;simp only[Nat.pow_zero,Nat.div_one]at e;subst e;exact λw=>(List.Nodup.mem_erase_iff h.bo).1 w|>.1 rfl
theorem Iu(i:Nat):(i^^^1)/2=i/2:=by rw[Nat.xor_div_two];simp
theorem TC(i:Nat):(i^^^1)≠i:=λh=>by
  have d:=congrArg (λx=>x.testBit 0) h
  simp only[XE]at d
  cases u:i.testBit 0<;>rw[u]at d<;>simp at d
theorem kg.merge(h:kg f top cg k i)(D:k<top)(C:f k (i^^^1)=true):kg (k6 f k (i^^^1) false) top cg (k+1) (i/2):=by have u:=we D;have O:=h.it;obtain⟨H,N⟩:=h.bd _ _ C;have w:∀p,p/2^(k+1)=i/2↔p/2^k=i\/p/2^k=i^^^1:=λp=>(by grind[tG,Iu,TC]);have key:∀p,p<2^top->p/2^k=i^^^1->p∉cg/\kT f p (top+1)=1:=λp u e=>(by have d:=h.ao p u;(have P:kT f p (top+1)≠0:=by grind[Dc]);simp_all);refine⟨by omega,by omega,sj h.bd (λh=>by cases h),λp E=>?_,h.bo,h.lt,λp e hu=>?_⟩;have d:=tD f k (i^^^1) false p (top+1);by_cases e:p/2^k=i^^^1;grind;rw[al (λh=>e h.2),al (λh=>e h.2),h.ao p E]at d;simp_all;rcases(w p).1 e with e|e;exact h.um p e hu;exact(key p (h.lt p hu) e).1 hu
theorem kg.fill(h:kg f top cg k i):f k i=false/\lX (k6 f k i true) top cg:=by have C:=h.hQ;have w:f k i=false:=(by have d:=h.ao _ (Fi h.hQ h.it);rw[aw (.inr (wS i k))]at d;grind[vJ,wS]);refine⟨w,sj h.bd λ_=>⟨h.hQ,h.it⟩,λp u=>?_,h.bo,h.lt⟩;have d:=tD f k i true p (top+1);rw[w]at d;by_cases e:p/2^k=i;rw[aw ⟨by omega,e⟩,aw ⟨by omega,e⟩,h.ao p u,aw (.inr e)]at d;rw[al (h.um p e)];simpa using d;rw[al (λh=>e h.2),al (λh=>e h.2),h.ao p u]at d;simp_all
def tM(top:Nat):jZ:=λk i=>decide (k=top/\i=0)
theorem lX.init(top:Nat):lX (tM top) top []:=by have u:=(kg.fill (f:=λ_ _=>false) (top:=top) (cg:=[]) (k:=top) (i:=0) ⟨Uw _,Wt _,λ_ _ h=>(by cases h),λp d=>(by rw[yW λ_ _=>rfl,aw (.inr (Nat.div_eq_of_lt d))]),List.nodup_nil,λ_ h=>(by cases h),λ_ _ h=>(by cases h)⟩).2;trivial
end Go.QM
namespace Go.QM
def kS(f:Nat->Bool):Nat->Nat
  | 0=>0
  | n+1=>kS f n+(f n).toNat
theorem yT{f g:Nat->Bool}:∀{n:Nat},(∀i,i<n->f i=g i)->kS f n=kS g n
  | 0,_=>rfl
  | n+1,h=>by rw[kS,kS,yT λi d=>h i U,h n U]
theorem vI{f:Nat->Bool}{i:Nat}:∀{n:Nat},f i=false->i<n->kS (e5 f i) n=kS f n+1
  | 0,_,h=>by omega
  | n+1,d,h=>by rw[kS,kS];by_cases e:i=n;subst e;rw[yT (f:=e5 f i) (g:=f) λj u=>by rw[e5,al U],e5,aw rfl,d];rfl;rw[vI d U,e5,al (λh=>e h.symm)];omega
theorem ME(f:Nat->Bool)(i:Nat):e5 (e5 f i) i=f:=by funext j;rw[e5];split;rename_i h;subst h;rw[e5,aw rfl,Bool.not_not];rename_i h;rw[e5,al h]
theorem zh(f:Nat->Bool)(i:Nat):e5 f i i=!f i:=aw rfl
variable{i:Nat}
theorem C9{f:Nat->Bool}{n:Nat}(d:f i=true)(h:i<n):kS (e5 f i) n+1=kS f n:=by grind[vI,zh,ME]
theorem yU{f:Nat->Bool}:∀{n:Nat},kS f n=0↔∀i,i<n->f i=false
  | 0=>⟨λ_ i h=>by omega,λ_=>rfl⟩
  | n+1=>by
   rw[kS,Nat.add_eq_zero_iff,yU];constructor;rintro⟨u,d⟩ i C;by_cases e:i=n
   subst e;cases w:f i with
   | false=>rfl
   | true=>rw[w]at d;cases d
   exact u i U;exact λh=>⟨λi C=>h i U,by rw[h n U];rfl⟩
theorem KO{n:Nat}(h:0<n):kS (λj=>decide (j=0)) n=1:=by have:=vI (f:=λ_=>false) (i:=0) (n:=n) rfl h;grind[yU,yT,e5]
structure cf where
  aD:Nat
  f:Nat->Bool
def gM(many:Nat):List cf->Nat
  | []=>0
  | p::L=>kS p.f many+gM many L
theorem pV(many:Nat):∀L M:List cf,gM many (L++M)=gM many L+gM many M
  | [],M=>by simp[gM]
  | p::L,M=>by rw[WG,gM,gM,pV many L M];omega
def v6(many:Nat)(p:cf):Prop:=∀i,i<many->p.f i=true
def vg(many:Nat)(L:List cf)(q:Nat):Prop:=∀p∈L,p.aD≠q->v6 many p
structure oe(many:Nat)(L:List cf):Prop where
  kb:L.Pairwise λa b=>a.aD<b.aD
  bd:∀p∈L,∀i,p.f i=true->i<many
inductive lk(many:Nat)(L L':List cf)(aD i:Nat):Prop
  | old (A B:List cf) (f:Nat->Bool) (gy:L=A++⟨aD,f⟩::B) (gz:L'=A++⟨aD,e5 f i⟩::B) (gA:f i=false) (h3:i<many)
  | new (A B:List cf) (gy:L=A++B) (gz:L'=A++⟨aD,λj=>decide (j=0)⟩::B) (gA:i=0) (h3:∀p∈L,v6 many p) (Uc:∀p∈A,p.aD<aD) (Ud:∀p∈B,aD<p.aD)
theorem Gv{A B:List cf}{p q:cf}(h:(A++p::B).Pairwise λa b=>a.aD<b.aD)(e:p.aD=q.aD):(A++q::B).Pairwise λa b=>a.aD<b.aD:=by grind[W3]
theorem Qx{A B:List cf}{p:cf}(h:(A++p::B).Pairwise λa b=>a.aD<b.aD):(A++B).Pairwise (λa b=>a.aD<b.aD)/\∀a∈A++B,a.aD≠p.aD:=by grind[W3]
theorem Qy{A B:List cf}{p:cf}(h:(A++B).Pairwise λa b=>a.aD<b.aD)(d:∀a∈A,a.aD<p.aD)(aN:∀b∈B,p.aD<b.aD):(A++p::B).Pairwise λa b=>a.aD<b.aD:=by grind[W3]
variable{L:List cf}{many aD:Nat}{L':List cf}
theorem lk.inv(g:lk many L L' aD i)(h:oe many L)(hm:0<many):oe many L':=by cases g with|old A B f w C D E=>subst w;subst C;refine⟨Gv h.kb rfl,λp d j u=>?_⟩;rcases Uq.1 d with d|d;exact h.bd p (by simp[d]) j u;rcases UB.1 d with rfl|d;dsimp only[e5]at u;split at u;omega;exact h.bd ⟨aD,f⟩ cF j u;exact h.bd p (by simp[d]) j u|new A B w C D E H N=>subst w;subst C;refine⟨Qy h.kb H N,λp d j u=>?_⟩;rcases Uq.1 d with d|d;exact h.bd p (by simp[d]) j u;rcases UB.1 d with rfl|d;have:=ds u;omega;exact h.bd p (by simp[d]) j u
theorem lk.used(g:lk many L L' aD i)(hm:0<many):gM many L'=gM many L+1:=by cases g with|old A B f d u w C=>subst d;subst u;have:=vI w C;rw[pV,pV,gM,gM];dsimp only;omega|new A B d u w C D E=>subst d;subst u;have:=KO hm;rw[pV,pV,gM];dsimp only;omega
theorem lk.one{q:Nat}(g:lk many L L' aD i)(h:oe many L)(E:vg many L q):vg many L' aD:=by cases g with|old A B f C D H w=>subst C;subst D;have N:aD=q:=(by by_cases e:aD=q;exact e;have:=E ⟨aD,f⟩ cF e i w;dsimp only at this;rw[H]at this;cases this);subst N;intro p d u;rcases Uq.1 d with d|d;exact E p (by simp[d]) u;rcases UB.1 d with rfl|d;exact absurd rfl u;exact E p (by simp[d]) u|new A B C D H w O P=>subst C;subst D;intro p d u;rcases Uq.1 d with d|d;exact w p (by simp[d]);rcases UB.1 d with rfl|d;exact absurd rfl u;exact w p (by simp[d])
inductive mB(many:Nat)(L L':List cf)(aD i:Nat):Prop
  | stay (A B:List cf) (f:Nat->Bool) (gy:L=A++⟨aD,f⟩::B) (gz:L'=A++⟨aD,e5 f i⟩::B) (gA:f i=true)
  | gone (A B:List cf) (f:Nat->Bool) (gy:L=A++⟨aD,f⟩::B) (gz:L'=A++B) (gA:f i=true) (h3:∀j,j<many->j≠i->f j=false)
theorem mB.inv(g:mB many L L' aD i)(h:oe many L):oe many L':=by cases g with|stay A B f w C D=>subst w;subst C;refine⟨Gv h.kb rfl,λp d j u=>?_⟩;rcases Uq.1 d with d|d;exact h.bd p (by simp[d]) j u;rcases UB.1 d with rfl|d;dsimp only[e5]at u;split at u;rename_i e;subst e;rw[D]at u;cases u;exact h.bd ⟨aD,f⟩ cF j u;exact h.bd p (by simp[d]) j u|gone A B f w C D E=>subst w;subst C;exact⟨(Qx h.kb).1,λp d=>h.bd p (by rcases Uq.1 d with d|d<;>simp[d])⟩
theorem mB.used(g:mB many L L' aD i)(h:oe many L):gM many L'+1=gM many L:=by cases g with|stay A B f u w d=>subst u;subst w;have:=C9 d (h.bd ⟨aD,f⟩ cF i d);rw[pV,pV,gM,gM];dsimp only;omega|gone A B f u w d C=>subst u;subst w;have D:=h.bd ⟨aD,f⟩ cF i d;have:=C9 (n:=many) d D;have H:kS (e5 f i) many=0:=yU.2 λj E=>(by rw[e5];split;rename_i e;subst e;rw[d];rfl;rename_i e;exact C j E e);rw[pV,pV,gM];dsimp only;omega
theorem mB.one(g:mB many L L' aD i)(D:vg many L aD):vg many L' aD:=by cases g with|stay A B f w C E=>subst w;subst C;intro p d u;rcases Uq.1 d with d|d;exact D p (by simp[d]) u;rcases UB.1 d with rfl|d;exact absurd rfl u;exact D p (by simp[d]) u|gone A B f w C E H=>subst w;subst C;intro p d u;exact D p (by rcases Uq.1 d with d|d<;>simp[d]) u
def e4(sz:Nat)(L:List cf)(a:Nat):Prop:=∃p∈L,∃i,p.f i=true/\a=p.aD*1024+64+i*sz
theorem e4.at{sz a:Nat}(h:e4 sz L a):∃(k aD i:Nat) (f:Nat->Bool),L[k]? =some ⟨aD,f⟩/\f i=true/\a=aD*1024+64+i*sz:=by obtain⟨⟨aD,f⟩,C,i,d,u⟩:=h;obtain⟨k,w⟩:=List.getElem?_of_mem C;exact⟨k,aD,i,f,w,d,u⟩
theorem lk.jI{sz:Nat}(g:lk many L L' aD i)(hs:0<sz)(a:Nat):e4 sz L' a↔e4 sz L a\/a=aD*1024+64+i*sz:=by cases g with|old A B f D E w H=>subst D;subst E;constructor;rintro⟨p,d,j,u,e⟩;rcases Uq.1 d with d|d;exact .inl ⟨p,by simp[d],j,u,e⟩;rcases UB.1 d with rfl|d;dsimp only[e5]at u e;split at u;rename_i C;subst C;exact .inr e;exact .inl ⟨⟨aD,f⟩,by simp,j,u,e⟩;exact .inl ⟨p,by simp[d],j,u,e⟩;rintro(⟨p,d,j,u,e⟩|e);rcases Uq.1 d with d|d;exact⟨p,by simp[d],j,u,e⟩;rcases UB.1 d with rfl|d;refine⟨⟨aD,e5 f i⟩,by simp,j,?_,e⟩;dsimp only[e5]at u⊢;rw[al (λC=>by subst C;rw[w]at u;cases u)];exact u;exact⟨p,by simp[d],j,u,e⟩;exact⟨⟨aD,e5 f i⟩,by simp,i,by dsimp only;rw[zh,w];rfl,e⟩|new A B D E w H N O=>subst D;subst E;subst w;constructor;rintro⟨p,d,j,u,e⟩;rcases Uq.1 d with d|d;exact .inl ⟨p,by simp[d],j,u,e⟩;rcases UB.1 d with rfl|d;have:=ds u;subst this;exact .inr e;exact .inl ⟨p,by simp[d],j,u,e⟩;rintro(⟨p,d,j,u,e⟩|e);exact⟨p,by rcases Uq.1 d with d|d<;>simp[d],j,u,e⟩;exact⟨⟨aD,λj=>decide (j=0)⟩,by simp,0,show decide ((0:Nat)=0)=true from rfl,e⟩
theorem mB.jI{sz:Nat}(g:mB many L L' aD i)(h:oe many L)(hs:0<sz){a:Nat}(O:e4 sz L a)(E:a≠aD*1024+64+i*sz):e4 sz L' a:=by obtain⟨p,d,j,u,e⟩:=O;cases g with|stay A B f C D H=>subst C;subst D;rcases Uq.1 d with d|d;exact⟨p,by simp[d],j,u,e⟩;rcases UB.1 d with rfl|d;refine⟨⟨aD,e5 f i⟩,by simp,j,?_,e⟩;dsimp only[e5]at u⊢;rw[al (λw=>by subst w;exact E e)];exact u;exact⟨p,by simp[d],j,u,e⟩|gone A B f C D H N=>subst C;subst D;rcases Uq.1 d with d|d;exact⟨p,by simp[d],j,u,e⟩;rcases UB.1 d with rfl|d;by_cases w:j=i;subst w;exact absurd e E;have:=N j (h.bd _ cF j u) w;dsimp only at u;rw[this]at u;cases u;exact⟨p,by simp[d],j,u,e⟩
end Go.QM
namespace Go.QM
open Go
variable{a:Nat}
theorem sl(h:a<2^64):(U6 64 (a:Int)).toNat=a:=by simp_all
theorem oU(h:a<2^63):IntKind.i64.wrap (a:Int)=(a:Int):=mu U U
theorem pW(h:a<2^64):IntKind.u64.wrap (a:Int)=(a:Int):=xT U U
theorem Te(a:Nat):IntKind.u8.wrap (a:Int)=((a %256:Nat):Int):=by simp[IntKind.wrap,IntKind.signed,IntKind.bits]
theorem JC{b:Nat}(u:a<2^63)(d:b<2^63):IntKind.i64.wrap (U6 IntKind.i64.bits (a:Int)&&&U6 IntKind.i64.bits (b:Int)).toNat=((a&&&b:Nat):Int):=by rw[BitVec.toNat_and,show IntKind.i64.bits=64 from rfl,sl U,sl U];exact oU (Nat.and_lt_two_pow _ d)
theorem Qb{b:Nat}(d:a<2^63)(u:b<2^63):IntKind.i64.wrap (U6 IntKind.i64.bits (a:Int)|||U6 IntKind.i64.bits (b:Int)).toNat=((a|||b:Nat):Int):=by rw[BitVec.toNat_or,show IntKind.i64.bits=64 from rfl,sl U,sl U];exact oU (Nat.or_lt_two_pow d u)
theorem TG{b:Nat}(d:a<2^63)(u:b<2^63):IntKind.i64.wrap (U6 IntKind.i64.bits (a:Int)^^^U6 IntKind.i64.bits (b:Int)).toNat=((a^^^b:Nat):Int):=by rw[BitVec.toNat_xor,show IntKind.i64.bits=64 from rfl,sl U,sl U];exact oU (Nat.xor_lt_two_pow d u)
section
variable {P : Program} {ag : Env} {A : ax} {d : Option Nat} {ty : TypeId} {ps : String} {bh : Array Edge} {g : Option (Nat × Bool)} {t t' : TypeId} {x y : Operand} {a b c n : Nat}
theorem bz.to{o:Oper}{k:IntKind}{u v:Int}(h:bz P ag o A (.int k u))(e:u=v):bz P ag o A (.int k v):=by rwa[e]at h
theorem Fp{u v:Int}{N:Array TypeId}(D:bb ag x=aa u)(E:bb ag y=aa v):
    bz P ag ⟨d,.call ⟨.builtin .max,#[x,y],N⟩,ty,ps,bh,g⟩ A (aa (max u v)):=
  λw _=>by
   by_cases h:u<=v;by_cases H:u=v;subst H;simp[execOp,resolve,invoke,builtin,XT,XU,D,E];have C:u<v:=U
   simp[execOp,resolve,invoke,builtin,XT,XU,D,E,C,Int.max_eq_right h];have C:¬u<v:=U
   simp[execOp,resolve,invoke,builtin,XT,XU,D,E,C,Int.max_eq_left (by omega:v<=u)]
theorem qg(D:bb ag x=aa a)(E:bb ag y=aa b)(u:a<2^63)(w:b<2^63)(C:a&&&b=c):
    bz P ag ⟨d,.binOp .and t x y t',ty,ps,bh,g⟩ A (aa c):=by subst C;exact vt D E (JC u w)
theorem sQ(D:bb ag x=aa a)(E:bb ag y=aa b)(u:a<2^63)(w:b<2^63)(C:a|||b=c):
    bz P ag ⟨d,.binOp .or t x y t',ty,ps,bh,g⟩ A (aa c):=by subst C;exact AO D E (Qb u w)
theorem TD(E:bb ag x=aa a)(H:bb ag y=aa b)(u:a<2^63)(C:b<2^63)(D:a^^^b=c):
    bz P ag ⟨d,.binOp .xor t x y t',ty,ps,bh,g⟩ A (aa c):=λw _=>by
  have h:=TG u C
  rw[D]at h
  simp[execOp,E,H,eqGuard,binOp,Op.intBits]
  simpa using h
theorem nu{E:IntKind}(C:bb ag x=aa a)(D:bb ag y=.int E (n:Int))(au:n<=64)(u:a*2^n=c)(w:c<2^63):
    bz P ag ⟨d,.binOp .shl t x y t',ty,ps,bh,g⟩ A (aa c):=
  Bg C D U (by
   subst u;rw[show min ((n:Int)).toNat IntKind.i64.bits=n from Wl au];have e:(a:Int)*2^n=((a*2^n:Nat):Int):=cF
   rw[e];exact oU w)
theorem jK{E:IntKind}(C:bb ag x=bg a)(D:bb ag y=.int E (n:Int))(u:a<2^64)(w:a/2^n=c):
    bz P ag ⟨d,.binOp .shr t x y t',ty,ps,bh,g⟩ A (bg c):=by subst w;exact RJ C D u
theorem kO(D:bb ag x=bg a)(E:bb ag y=bg b)(u:a<2^64)(w:b<2^64)(C:a&&&b=c):
    bz P ag ⟨d,.binOp .and t x y t',ty,ps,bh,g⟩ A (bg c):=by subst C;exact CD D E u w
theorem pH(D:bb ag x=bg a)(E:bb ag y=bg b)(u:a<2^64)(w:b<2^64)(C:a|||b=c):
    bz P ag ⟨d,.binOp .or t x y t',ty,ps,bh,g⟩ A (bg c):=by subst C;exact P9 D E u w
theorem TF(D:bb ag x=bg a)(E:bb ag y=bg b)(u:a<2^64)(w:b<2^64)(C:a^^^b=c):
    bz P ag ⟨d,.binOp .xor t x y t',ty,ps,bh,g⟩ A (bg c):=by subst C;exact TE D E u w
theorem mD(w:bb ag x=bg a)(C:bb ag y=bg b)(u:a+b=c)(h:c<2^64):
    bz P ag ⟨d,.binOp .add t x y t',ty,ps,bh,g⟩ A (bg c):=
  add w C (by subst u;rw[show(a:Int)+(b:Int)=((a+b:Nat):Int)by simp];exact pW h)
theorem PB(w:bb ag x=bg a)(C:bb ag y=bg b)(u:a*b %2^64=c):
    bz P ag ⟨d,.binOp .mul t x y t',ty,ps,bh,g⟩ A (bg c):=
  mul w C (by subst u;rw[show(a:Int)*(b:Int)=((a*b:Nat):Int)by simp,IntKind.wrap_u64];simp)
theorem uI{D:IntKind}(w:bb ag x=bg a)(C:bb ag y=.int D (n:Int))(au:n<=64)(u:a*2^n %2^64=c):
    bz P ag ⟨d,.binOp .shl t x y t',ty,ps,bh,g⟩ A (bg c):=by subst u;exact G8 w C au
theorem PJ(u:bb ag x=bg a)(w:a≠0)(h:a<2^64):
    bz P ag ⟨d,.unOp .neg t x,ty,ps,bh,g⟩ A (bg ((2^64-a:Nat):Int)):=
  neg u md
end
end Go.QM
namespace Go.QM
open Go
theorem OW{m:Nat->Nat}(h:oo m)(o:Nat){k:Nat}(D:k<8):kw m o k|||(m (o+k)*2^(8*k) %2^64)=kw m o (k+1):=by have d:=wI h o k;have u:=h (o+k);have w:m (o+k)*2^(8*k)<2^64:=(by(have e:(2:Nat)^64=2^(64-8*k)*2^(8*k):=by rw[<-Nat.pow_add];congr 1;omega);rw[e];have C:2^8<=2^(64-8*k):=Uu am U;exact XF (Wx u C) (Wt _));rw[Nat.mod_eq_of_lt w,Qa d,kw]
def jW(m:Nat->Nat)(o:Nat)(L:List Nat)(k:Nat):Nat->Nat:=λi=>if o<=i/\i<o+k then L.getD ((i-o)/8) 0/2^(8*((i-o) %8)) %256 else m i
def du(m:Nat->Nat)(o:Nat)(L:List Nat):Nat->Nat:=jW m o L (8*L.length)
theorem Sg(m:Nat->Nat)(o:Nat)(L:List Nat):jW m o L 0=m:=funext λi=>by rw[jW,al U]
theorem Sf(m:Nat->Nat)(o:Nat)(L:List Nat)(k:Nat):jW m o L (k+1)=λi=>if i=o+k then L.getD (k/8) 0/2^(8*(k %8)) %256 else jW m o L k i:=by funext i;rw[jW,jW];grind
theorem Se{m:Nat->Nat}(h:oo m)(o:Nat)(L:List Nat)(k:Nat):oo (jW m o L k):=λi=>by
  rw[jW];split
  · exact W6 _ am
  · exact h i
theorem Hm{m:Nat->Nat}{o d:Nat}{L:List Nat}(h:d+8<=o\/o+8*L.length<=d):cS (du m o L) d=cS m d:=
  ud λi u w=>by rw[du,jW,al U]
theorem Bn{m:Nat->Nat}{o j v:Nat}{L:List Nat}(d:L[j]? =some v)(hv:v<2^64):cS (du m o L) (o+8*j)=v:=by have C:=(List.getElem?_eq_some_iff.1 d).1;have e:cS (du m o L) (o+8*j)=cS (xB m (o+8*j) v) (o+8*j):=ud λi u w=>(by rw[du,jW,aw U,xB,xA,aw U];grind);grind[OV]
section
variable {r : Option Nat} {P : Program} {N : Nat} {ops : Array Oper} {l : List Oper} {Q : ff} {ag : Env} {aQ : List Deferred} {A : ax} {K : Value → ax → Prop}
variable {d : Option Tmp} {ty : TypeId} {ps : String} {bh : Array Edge} {g : Option (Nat × Bool)}
variable {t t' : TypeId} {x y z : Operand}
theorem RU(E sz:Nat){u off n cap i j:Nat}(w:hc P t E sz=true)(C:bb ag x=.slice (some ⟨u,off,none⟩) n cap)(D:bb ag y=aa i)(H:bb ag z=aa j)(N:i<=j)(O:j<=cap)(Q:i<cap):
    bz P ag ⟨d,.slice t x (some y) (some z) none,ty,ps,bh,g⟩ A (.slice (some ⟨u,off+i*sz,none⟩) (j-i) (cap-i)):=by have h:=xw (P:=P) (A:=A) (d:=d) (ty:=ty) (ps:=ps) (bh:=bh) (g:=g) E sz w C D H U U U;have e:dI (some (⟨u,off,none⟩:Addr)) cap (i:Int).toNat sz=some ⟨u,off+i*sz,none⟩:=(by rw[dI,al U];simp[ix]);simp_all
theorem Pm{hs:List ax}{E n:Nat}{z:Value}(bytes:Nat)(N:hc P t E 1=true)(O:rb P E 1 bytes=true)(aQ:lg P E=some z)(aX:z.cells=#[z])(W:bb ag x=aa n)(Z:bb ag y=aa n)(au:bytes*n<=281474976710656)(hm:n<=maxLen)
    (k:∀b,K (.slice (cL b) n n) (ah (aj b E (UK n z)::hs))):cj r P ag ⟨d,.makeSlice t x y,ty,ps,bh,g⟩ (ah hs) K:=by
 obtain⟨inf,u,H,an,aK,aC,a0⟩:=tJ O;have ar:u=z:=by grind[lg]
 subst ar;have aH:maxLen=9223372036854775807:=rfl;have hw:IntKind.i64.wrap (n:Int)=n:=by grind[mu]
 have D:((Array.range n).map ((if n=0 then #[]else u.cells)[· %(if n=0 then(#[]:Array Value)else u.cells).size]!))=(UK n u).toArray:=cr;have aA:((inf.bytes:Int)*(n:Int))<=281474976710656:=cr;have V:(decide ((n:Int)<0)||decide ((inf.bytes:Int)*(n:Int)>2^48))=false:=b2;refine cj.run rfl λw Q=>⟨.slice (cL w.heap.size) n n,w.alloc (.cells (UK n u).toArray E),_,.inl ?_,⟨rfl,rfl,rfl,by simp⟩,oP _ Q,k w.heap.size⟩;have ao:∀w,(zeroValue E).run P w=.ok u w:=λw=>by simp[zeroValue,typeInfo,H,an]
 simp only[execOp,Instr.makeSlice,UL,hV N,UA,W,Z,asInt,asIntOf,U2,typeInfo,run_program,H,hw,V];rw[al cF];simp only[UL,run_askRoom,hV N,UA,Int.toNat_natCast,VH];by_cases C:n=0;rw[aw C];simp only[aw C]at D;simp only[UL,UA,U2,D,newRow,run_newObj];trivial;rw[al C];simp only[al C]at D;simp only[UL,UA,U2,ao,D,newRow,run_newObj];trivial
end
theorem Kg(n:Nat):iR (λ_=>0) n=UK n (k9 0):=by rw[iR,List.eq_replicate_iff];simp_all
theorem Cl(b E o k:Nat)(l:List Value):cM (aj b E l) E (some ⟨b,o,none⟩) ((l.drop o).take k):=λh d=>by
  by_cases u:o<=l.length
  · refine .inr ⟨⟨b,o,none⟩,l.take o,(l.drop o).drop k,(0,0),rfl,by simp[Wl u],?_⟩
    have e:l.take o++(l.drop o).take k++(l.drop o).drop k=l:=by rw[List.append_assoc,Vd,Vd]
    rw[d,e];simp
  · left;rw[List.drop_eq_nil_of_le U];simp
end Go.QM
namespace Go.QM
open Go
def dy:List Nat->Nat
  | []=>0
  | a::l=>a+256*dy l
theorem yl{a b c d:Nat}(E:a<256)(H:c<256):(a+256*b)&&&(c+256*d)=(a&&&c)+256*(b&&&d):=by
 have u:(a+256*b)&&&(c+256*d)=((a+256*b)&&&(c+256*d)) %2^8+2^8*(((a+256*b)&&&(c+256*d))/2^8):=U
 rw[u,Nat.and_mod_two_pow,Nat.and_div_two_pow];have w:(a+256*b) %2^8=a:=U
 have C:(c+256*d) %2^8=c:=U
 have D:(a+256*b)/2^8=b:=U
 grind
def m0(x:Nat):Nat->List Nat
  | 0=>[]
  | n+1=>x %256::m0 (x/256) n
theorem yE:∀{n x:Nat},x<256^n->dy (m0 x n)=x
  | 0,x,h=>by(have:x=0:=by simpa using h);subst this;rfl
  | n+1,x,h=>by
   have:x/256<256^n:=by rw[Xm]at h;exact Nat.div_lt_of_lt_mul U
   rw[m0,dy,yE this];omega
theorem yC:∀(n x:Nat),(m0 x n).length=n
  | 0,_=>rfl
  | n+1,x=>by rw[m0,UP,yC n]
theorem yD:∀(n x:Nat),∀a∈m0 x n,a<256
  | 0,_,_,h=>by cases h
  | n+1,x,a,h=>by rcases UB.1 h with rfl|h;exact W6 _ am;exact yD n _ a h
theorem tq{m:Nat}(hm:m<256):∀{l:List Nat},(∀a∈l,a<256)->dy l&&&dy (l.map λ_=>m)=dy (l.map λa=>a&&&m)
  | [],_=>by simp[dy]
  | a::l,h=>by rw[UX,UX,dy,dy,dy,yl (h a cF) hm,tq hm λb d=>h b (by simp[d])]
theorem uJ{m s:Nat}(hm:m<256)(hs:s<=8)(C:m<2^(8-s)):∀{l:List Nat},(∀a∈l,a<256)->dy l/2^s&&&dy (l.map λ_=>m)=dy (l.map λa=>a/2^s&&&m)
  | [],_=>by simp[dy]
  | a ::l,h=>by
    have Q:=h a cF
    have W:=uJ hm hs C (l:=l) λb u=>h b (by simp[u])
    rw[UX,UX,dy,dy,dy,<-W]
    have d:2^(8-s)*2^s=256:=by rw[<-Nat.pow_add,Nat.sub_add_cancel hs]
    have D:0<2^s:=Wt s
    generalize dy l=x
    generalize dy (l.map λ_=>m)=y
    have E:(a+256*x)/2^s=a/2^s+2^(8-s)*x:=by
      rw[show a+256*x=a+2^s*(2^(8-s)*x)by rw[<-Nat.mul_assoc,V4 (2^s),d],Nat.add_mul_div_left _ _ D]
    have H:(a/2^s+2^(8-s)*x)=(a/2^s+2^(8-s)*(x %2^s))+256*(x/2^s):=by
      have N:=Nat.mod_add_div x (2^s)
      have an:2^(8-s)*x=2^(8-s)*(x %2^s)+256*(x/2^s):=by
        conv=>lhs;rw[<-N]
        rw[Nat.mul_add,<-Nat.mul_assoc,d]
      omega
    have w:a/2^s<2^(8-s):=Nat.div_lt_of_lt_mul (by rw[V4,d];exact Q)
    have ao:x %2^s<2^s:=W6 _ D
    have u:a/2^s+2^(8-s)*(x %2^s)<256:=by
      have:2^(8-s)*(x %2^s)<=2^(8-s)*(2^s-1):=Nat.mul_le_mul_left _ U
      have O:2^(8-s)*(2^s-1)=256-2^(8-s):=by rw[Nat.mul_sub,d,VH]
      have P:2^(8-s)<=2^8:=Uu am U
      rw[O]at this
      generalize 2^(8-s)*(x %2^s)=k at this⊢
      generalize 2^(8-s)=ag at this w P
      generalize a/2^s=Z at w⊢
      omega
    rw[E,H,yl u hm]
    congr 1
    apply Nat.eq_of_testBit_eq
    intro j
    rw[Nat.testBit_and,Nat.testBit_and]
    by_cases V:j<8-s
    · congr 1
      rw[Nat.add_comm,Nat.testBit_two_pow_mul_add _ w,aw V]
    · have:m.testBit j=false:=Nat.testBit_lt_two_pow (Wx C (Uu am U))
      rw[this,Bool.and_false,Bool.and_false]
theorem tp(f g:Nat->Nat):∀l:List Nat,dy (l.map f)+dy (l.map g)=dy (l.map λa=>f a+g a)
  | []=>rfl
  | a::l=>by rw[UX,UX,UX,dy,dy,dy,<-tp f g l];omega
def fT(v:Nat):Nat:=(v/2^1&&&85)+(v&&&85)
def ha(v:Nat):Nat:=(v/2^2&&&51)+(v&&&51)
def rB(v:Nat):Nat:=(v/2^4+v)&&&15
def n0(v:Nat):Nat:=rB (ha (fT v))
def Gf(v:Nat):Bool:=decide (fT v<256)&&decide (ha (fT v)<256)&&decide (ha (fT v)/16<=4/\ha (fT v) %16<=4)&&decide (n0 v<=8)&&(decide (n0 v=0)==decide (v=0))
theorem Qh:(Vu 256).all Gf=true:=by kernel_rfl
theorem AR{v:Nat}(h:v<256):fT v<256/\ha (fT v)<256/\(ha (fT v)/16<=4/\ha (fT v) %16<=4)/\n0 v<=8/\(n0 v=0↔v=0):=by have d:=Ws.1 Qh v (Xu.2 h);simp only[Gf,UW,decide_eq_true_eq,beq_iff_eq,decide_eq_decide]at d;omega
theorem Az:∀{l:List Nat},(∀a∈l,a<256/\a/16<=4/\a %16<=4)->(dy l/2^4+dy l)&&&dy (l.map λ_=>15)=dy (l.map rB)/\dy l %16<=4
  | [],_=>by simp[dy]
  | a::l,h=>by
   obtain⟨C,D,E⟩:=h a cF;obtain⟨w,u⟩:=Az (l:=l) λb d=>h b (by simp[d]);rw[UX,UX,dy,dy,dy,<-w];generalize dy l=y at u⊢;have e:(a+256*y)/2^4+(a+256*y)=(a/16+a+16*(y %16))+256*(y/2^4+y):=U
   refine⟨?_,by omega⟩;rw[e,yl U am];congr 1;rw[rB,show 15=2^4-1 from rfl,We,We];omega
def j9(x:Nat):Nat:=(x/2^1&&&6148914691236517205)+(x&&&6148914691236517205)
def lN(x:Nat):Nat:=(x/2^2&&&3689348814741910323)+(x&&&3689348814741910323)
def mQ(x:Nat):Nat:=(x/2^4+x)&&&1085102592571150095
def oL(x:Nat):Nat:=x+x/2^8
def js(x:Nat):Nat:=x+x/2^16
def sN(x:Nat):Nat:=x+x/2^32
def fo(x:Nat):Nat:=sN (js (oL (mQ (lN (j9 x)))))&&&127
theorem eight{l:List Nat}(h:l.length=8):∃a b c d e f g i,l=[a,b,c,d,e,f,g,i]:=by match l,h with|[a,b,c,d,e,f,g,i],_=>exact⟨a,b,c,d,e,f,g,i,rfl⟩
theorem sG{l:List Nat}(h:l.length=8)(m:Nat):(l.map λ_=>m)=[m,m,m,m,m,m,m,m]:=by obtain⟨a,b,c,d,e,f,g,i,rfl⟩:=eight h;rfl
theorem T9{a:Nat}(y:Nat)(h:a<256):(a+256*y)/256=y:=by omega
theorem Kf{s q:Nat}(h:s<=64):(s+256*q)&&&127=s:=by rw[show 127=2^7-1 from rfl,We];omega
theorem PQ{a b c d e f g i:Nat}(O:a<=8)(P:b<=8)(Q:c<=8)(V:d<=8)(he:e<=8)(W:f<=8)(Z:g<=8)(ag:i<=8){x:Nat}(H:x=a+256*(b+256*(c+256*(d+256*(e+256*(f+256*(g+256*i))))))):
    (x+x/2^8+(x+x/2^8)/2^16+(x+x/2^8+(x+x/2^8)/2^16)/2^32)&&&127=a+b+c+d+e+f+g+i:=by
 have w:x/2^8=b+256*(c+256*(d+256*(e+256*(f+256*(g+256*i))))):=U
 have u:x+x/2^8=(a+b)+256*((b+c)+256*((c+d)+256*((d+e)+256*((e+f)+256*((f+g)+256*((g+i)+256*i)))))):=U
 generalize x+x/2^8=y at u⊢;clear w H;have C:y/2^16=(c+d)+256*((d+e)+256*((e+f)+256*((f+g)+256*((g+i)+256*i)))):=U;have D:y+y/2^16=(a+b+c+d)+256*((b+c+d+e)+256*((c+d+e+f)+256*((d+e+f+g)+256*((e+f+g+i)+256*((f+g+i)+256*((g+i)+256*i)))))):=U
 generalize y+y/2^16=z at D⊢;clear u C;have N:z/2^32=(e+f+g+i)+256*((f+g+i)+256*((g+i)+256*i)):=U;have E:z+z/2^32=(a+b+c+d+e+f+g+i)+256*((b+c+d+e+f+g+i)+256*((c+d+e+f+g+i)+256*((d+e+f+g+i)+256*((e+f+g+i)+256*((f+g+i)+256*((g+i)+256*i)))))):=U
 rw[E];exact Kf U
theorem Ke{a y n:Nat}(h:a<256)(d:y<256^n):a+256*y<256^(n+1):=by omega
theorem AI:∀{l:List Nat},(∀a∈l,a<256)->dy l<256^l.length
  | [],_=>Nat.one_pos
  | a::l,h=>by rw[dy,UP];exact Ke (h a cF) (AI λb d=>h b (by simp[d]))
theorem FW:∀{l:List Nat},dy l=0↔∀a∈l,a=0
  | []=>by simp[dy]
  | a::l=>by have d:=FW (l:=l);simp only[dy,UB,forall_eq_or_imp,<-d];omega
def n7:List Nat->Nat
  | []=>0
  | a::l=>a+n7 l
theorem Hp:∀{l:List Nat},(∀a∈l,a<=8)->n7 l<=8*l.length
  | [],_=>Uv _
  | a::l,h=>by have u:=h a cF;have w:=Hp (l:=l) λb d=>h b (by simp[d]);rw[n7,UP];omega
theorem Hq:∀{l:List Nat},n7 l=0↔∀a∈l,a=0
  | []=>by simp[n7]
  | a::l=>by have d:=Hq (l:=l);simp only[n7,UB,forall_eq_or_imp,<-d];omega
theorem FR{l:List Nat}(h:l.length=8)(u:∀a∈l,a<=8):sN (js (oL (dy l)))&&&127=n7 l:=by obtain⟨a,b,c,d,e,f,g,i,rfl⟩:=eight h;simp only[UB,List.not_mem_nil,or_false,forall_eq_or_imp,forall_eq]at u;obtain⟨w,ba,C,d1,D,f1,g1,i1⟩:=u;have:=PQ w ba C d1 D f1 g1 i1 (x:=dy [a,b,c,d,e,f,g,i]) (by simp only[dy,Nat.mul_zero,Nat.add_zero]);grind[sN,js,oL,n7]
theorem FU(i:Nat):∀l:List Nat,dy (l++[i])=dy l+256^l.length*i
  | []=>by simp[dy]
  | a::l=>by rw[WG,dy,dy,FU i l,UP,Xm,Nat.mul_add,Nat.add_assoc];congr 2;rw[<-Nat.mul_assoc,V4 256]
theorem FV{l:List Nat}(au:l.length=8){m:Nat}(hm:∀a∈l,a<m)(h:∀a∈l,a<256):dy l<256^7*m:=by obtain⟨a,b,c,d,e,f,g,i,rfl⟩:=eight au;have w:[a,b,c,d,e,f,g,i]=[a,b,c,d,e,f,g]++[i]:=rfl;rw[w]at hm h⊢;have u:=AI (l:=[a,b,c,d,e,f,g]) λx C=>h x (List.mem_append_left _ C);have D:=hm i (List.mem_append_right _ cF);rw[FU];generalize dy [a,b,c,d,e,f,g]=y at u⊢;simp only[UP,List.length_nil]at u⊢;omega
theorem FT{x:Nat}(ag:x<2^64):fo x<=64/\(fo x=0↔x=0)/\j9 x<2^64/\lN (j9 x)<2^63/\mQ (lN (j9 x))<2^60:=by
 have u:=yD 8 x;have au:=yC 8 x;have Q:dy (m0 x 8)=x:=by grind[yE]
 generalize m0 x 8=l at u au Q;subst Q;have t:=λa (d:a∈l)=>AR (u a d);have w:j9 (dy l)=dy (l.map fT):=(by have g1:=uJ (m:=85) (s:=1) am am am u;have g2:=tq (m:=85) am u;rw[sG au]at g1 g2;rw[j9,show 6148914691236517205=dy [85,85,85,85,85,85,85,85]from by decide,g1,g2,tp];rfl);have C:∀a∈l.map fT,a<256:=b2
 have N:(l.map fT).length=8:=b2
 have H:lN (dy (l.map fT))=dy ((l.map fT).map ha):=(by have g1:=uJ (m:=51) (s:=2) am am am C;have g2:=tq (m:=51) am C;rw[sG N]at g1 g2;rw[lN,show 3689348814741910323=dy [51,51,51,51,51,51,51,51]from by decide,g1,g2,tp];rfl);have D:∀a∈(l.map fT).map ha,a<256/\a/16<=4/\a %16<=4:=λa d=>cr;have O:((l.map fT).map ha).length=8:=b2
 have V:mQ (dy ((l.map fT).map ha))=dy (l.map n0):=(by have g1:=(Az D).1;rw[sG O]at g1;rw[mQ,show 1085102592571150095=dy [15,15,15,15,15,15,15,15]from by decide,g1,W7,W7];rfl);have E:∀a∈l.map n0,a<=8:=b2
 have P:(l.map n0).length=8:=b2
 have W:fo (dy l)=n7 (l.map n0):=by grind[fo,FR]
 have ba:=AI C;have Z:=Hp E;rw[N]at ba;rw[P]at Z;refine⟨by rw[W];omega,?_,by rw[w];exact ba,?_,?_⟩;grind[Hq,FW];rw[w,H];exact Wx (FV O (m:=80) (λa d=>by have:=D a d;omega) (λa d=>(D a d).1)) am;rw[w,H,V];exact Wx (FV P (m:=9) (λa d=>Nat.lt_succ_of_le (E a d)) (λa d=>Nat.lt_of_le_of_lt (E a d) am)) am
end Go.QM
namespace Go.QM
open Go
section
variable {P : Program} {b : Frame} {a : Act} {k : List Item} {cs : List Frame} {w : World}
theorem Sh{c:Code}:step P (lone (b.atR a (.code (.scope c)::k)) cs w)=.next (lone (b.atR a (.code c::.inScope c::k)) cs w):=
  step_lone_go (by simp[stepG,stepG.exec,Frame.atR])
theorem Ho{c:Code}:step P (lone (b.atR a (.inScope c::k)) cs w)=.next (lone (b.atR a k) cs w):=
  step_lone_go (by simp[stepG,stepG.exec,Frame.atR])
end
def Cc(l:Nat)(bJ:Act->World->Prop)(Q:Exit->Act->World->Prop):Exit->Act->World->Prop
  | .goto l',a,w=>l'=l/\bJ a w
  | e,a,w=>Q e a w
theorem Tt{F:Fence}{n:Nat}{P:Program}{Q:Exit->Act->World->Prop}{a:Act}{w:World}{c rest:Code}(l:Nat)(bJ:Nat->Act->World->Prop)(a0:findLabel c l=some rest)
    (first:c.wpIn F n P (Cc l (λa' H=>∃m,bJ m a' H) Q) a w)
    (pass:∀m a w,bJ m a w->rest.wpIn F n P (Cc l (λa' H=>∃m',m'<m/\bJ m' a' H) Q) a w):(Code.scope c).wpIn F n P Q a w:=by
 intro b k cs aH N O;have aC:gotoIn l (.inScope c::k)=some (.code rest::.inScope c::k):=by grind[gotoIn]
 have key:∀j a w,bJ j a w->
     ∃e a' H,Q e a' H/\ArrivesIn (Machine.fenced P F) P (lone (b.atR a (.code rest::.inScope c::k)) cs w) b k cs e a' H:=by
   intro j
   induction j using Nat.strongRecOn with
   | _ j aQ=>
     intro a w gB
     obtain⟨e,u,D,C,d⟩:=pass j a w gB b (.inScope c::k) cs aH N O
     cases e with
     | normal=>exact⟨.normal,u,D,C,StepsIn.trans d (.one (fenced_calm N O rfl) Ho)⟩
     | exit id=>exact⟨_,u,D,C,⟨λax ar=>d.1 ax (by simp[exitTo,ar]),λZ ag=>d.2 Z (by simp[exitTo,ag])⟩⟩
     | goto aX=>
       obtain⟨rfl,m',aK,an⟩:=C
       obtain⟨W,V,aA,au,ao⟩:=aQ m' aK u D an
       exact⟨W,V,aA,au,.of_steps (d.1 _ aC) ao⟩
     | ret=>exact⟨_,u,D,C,d⟩
     | panic hz=>exact⟨_,u,D,C,d⟩
     | outgrown=>exact⟨_,u,D,C,d⟩
 have E:StepsIn (Machine.fenced P F) P (lone (b.atR a (.code (.scope c)::k)) cs w) (lone (b.atR a (.code c::.inScope c::k)) cs w):=.one (fenced_calm N O rfl) Sh;obtain⟨e,u,D,C,d⟩:=first b (.inScope c::k) cs aH N O
 cases e with|normal=>exact⟨.normal,u,D,C,.of_steps E (StepsIn.trans d (.one (fenced_calm N O rfl) Ho))⟩|exit id=>exact⟨_,u,D,C,.of_steps E ⟨λax ar=>d.1 ax (by simp[exitTo,ar]),λZ ag=>d.2 Z (by simp[exitTo,ag])⟩⟩|goto aX=>obtain⟨rfl,m,an⟩:=C;obtain⟨W,V,aA,au,ao⟩:=key _ u D an;exact⟨W,V,aA,au,.of_steps E (.of_steps (d.1 _ aC) ao)⟩|ret=>exact⟨_,u,D,C,.of_steps E d⟩|panic hz=>exact⟨_,u,D,C,.of_steps E d⟩|outgrown=>exact⟨_,u,D,C,.of_steps E d⟩
def r7(l:Nat)(bJ:Env->List Deferred->ax->Prop)(Q:ff):ff
  | .goto l',ag,aQ,A=>l'=l/\bJ ag aQ A
  | e,ag,aQ,A=>Q e ag aQ A
section
variable {r : Option Nat} {P : Program} {N : Nat} {Q : ff} {ag : Env} {aQ : List Deferred} {A : ax}
theorem ab.scope{ι:Type}{c rest:Code}(l:Nat)(inv:ι->Prop)(L:ι->List (Nat×Value))(B:ι->ax)(V:ι->Nat)(a7:findLabel c l=some (.seq .skip rest))
    (pass:∀i,inv i->∀d,ab r P N rest (r7 l (λD C u=>C=aQ/\∃j,inv j/\V j<V i/\oC D (L j)/\aF u (B j)) Q) (ct d (L i)) aQ (B i))
    (first:(∀i,inv i->∀d,ab r P N rest (r7 l (λD C u=>C=aQ/\∃j,inv j/\oC D (L j)/\aF u (B j)) Q) (ct d (L i)) aQ (B i))->
      ab r P N c (r7 l (λD C u=>C=aQ/\∃j,inv j/\oC D (L j)/\aF u (B j)) Q) ag aQ A):ab r P N (.scope c) Q ag aQ A:=by
 intro a w a9 bd;refine Tt l (λm ao Z=>fr w Z/\∃i d,inv i/\cn N ao (ct d (L i)) aQ/\sat Z (B i)/\V i=m) a7 ?_ ?_;refine wpIn_mono (first (λi aA d=>(pass i aA d).mono λe D C u h=>?_) a w a9 bd) ?_;cases e with|goto aK=>obtain⟨a0,a2,j,a3,_,a4,a5⟩:=h;exact⟨a0,a2,j,a3,a4,a5⟩|_=>exact h
 rintro e ao Z ⟨s,W,ar,an,E,H,O⟩;cases e with|goto aK=>obtain⟨rfl,rfl,j,aC,aH,au⟩:=O;exact⟨rfl,V j,s,j,W,aC,by rw[qS aH];exact E,H.bf au,rfl⟩|_=>exact⟨s,W,ar,an,E,H,O⟩
 rintro m aX cG ⟨s1,i,d,aA,bb,be,rfl⟩;refine wpIn_seq (wpIn_skip ?_);refine wpIn_mono (pass i aA d aX cG bb be) ?_;rintro e ao Z ⟨s,W,ar,an,E,H,O⟩;cases e with|goto aK=>obtain⟨rfl,rfl,j,aC,a8,aH,au⟩:=O;exact⟨rfl,V j,a8,s1.trans s,j,W,aC,by rw[qS aH];exact E,H.bf au,rfl⟩|_=>exact⟨s1.trans s,W,ar,an,E,H,O⟩
theorem ab.enter{ι:Type}{c:Code}{inv:ι->Prop}{L:ι->List (Nat×Value)}{B:ι->ax}(h:∀i,inv i->∀w,ab r P N c Q (ct w (L i)) aQ (B i))(i0:ι)(d:inv i0)(u:oC ag (L i0))(he:aF A (B i0)):
    ab r P N c Q ag aQ A:=by have:=h i0 d ag;rw[qS u]at this;exact this.bf he
variable {K : Env → List Deferred → ax → Prop} {i j : Nat}
theorem oF(h:Q .normal ag aQ A):r7 i K Q .normal ag aQ A:=h
theorem ES(h:Q .ret ag aQ A):r7 i K Q .ret ag aQ A:=h
theorem Of(h:K ag aQ A):r7 i K Q (.goto i) ag aQ A:=⟨rfl,h⟩
theorem gt(h:Q (.goto j) ag aQ A):o7 K Q (.goto j) ag aQ A:=h
theorem gW(h:Q (.goto j) ag aQ A):oZ i Q (.goto j) ag aQ A:=h
end
theorem tL{α:Type}{f g:α->ax}(i j k:Nat){hs ee u w gs:List ax}{L M:List α}{A B:ax}(a b:α)(C:eT i hs=some (A,ee))(D:eT j ee=some (B,u))(d:eT k u=some (b7 f L,w))(E:A=g a)(aN:B=g b)
    (H:∀x∈L,f x=g x) (N:(a::b::L).Perm M) (O:aF (ah w) (ah gs)):aF (ah hs) (ah (b7 g M::gs)):=by subst E;subst aN;rw[yA H]at d;refine(fC C).trans ((dP (U5 _) (fC D)).trans ?_);refine(dP (U5 _) (dP (U5 _) (fC d))).trans ?_;refine(dP (U5 _) ns).trans (ns.trans (dP ?_ O));exact vy (f:=g) N
def mI(a:Int×Int):Value:=.agg (ints [a.1,a.2]).toArray
theorem DX{P:Program}{u:TypeId}(h:re P u 2=true)(a:Int×Int)(w:World):∀(m:List ((Int×Int)×Value)) (es:List MapEntry) (i:Nat),es.map (λe=>(e.key,e.val))=m.map (λt=>(mI t.1,t.2))->
    (Instr.findAsking u (mI a) es i).run P w=.ok (ko a m i) w
  | [],es,i,he=>by cases es with|nil=>rfl|cons e es=>simp at he
  | t ::m,es,i,he=>by
    cases es with
    | nil=>simp at he
    | cons e es=>
      simp only[UX,List.cons.injEq,Prod.mk.injEq]at he
      obtain⟨⟨C,D⟩,E⟩:=he
      have heq:=(DB h [a.1,a.2] [t.1.1,t.1.2] rfl rfl w).1
      have H:(Op.equal u (mI a) (mI t.1)).run P w=.ok (decide (a=t.1)) w:=by
        refine Eq.trans heq (congrArg (λx=>Result.ok x w) ?_)
        rw[decide_eq_decide]
        obtain⟨N,a2⟩:=a
        obtain⟨⟨ba,bw⟩,v⟩:=t
        simp
      simp only[Instr.findAsking,C,UL,H,UA,ko]
      by_cases d:a=t.1
      · rw[aw (by simpa using d),aw d,U2,D]
      · rw[al (by simpa using d),al d]
        exact DX h a w m es (i+1) E
theorem CZ{P:Program}{n:Nat}(km:Bool)(xs:List Int)(V:xs.length=n)(w:World):∀(d:List Field) (m:Nat),m<=n->ox P n d m=true->
    (forIn (m:=Sem) d PUnit.unit λf _=>do
        if f.name ≠ "_" then Instr.checkKey km 9999 f.type (← part f.type (ints xs).toArray f.offset)
        pure (ForInStep.yield PUnit.unit)).run P w=.ok PUnit.unit w
  | [],m,_,_=>by simp
  | f ::d,m,hm,h=>by
    simp only[ox,UW]at h
    obtain⟨⟨⟨N,E⟩,C⟩,H⟩:=h
    have E:=UM E
    have hu:P.underlying f.type=some (.int .i64):=by
      cases hu:P.underlying f.type with
      | none=>rw[hu]at C;cases C
      | some u=>rw[hu]at C;cases u<;>first|(cases C;done)|(rename_i k;cases k<;>first|(cases C;done)|rfl)
    have W:m<n:=by
      rcases Nat.lt_or_ge m n with h|h
      · exact h
      · exfalso
        have Q:∀(d:List Field) (m:Nat),n<m->ox P n d m=true->False:=by
          intro d
          induction d with
          | nil=>intro m hm h;have:=UM h;omega
          | cons f d D=>intro m hm h;simp only[ox,UW]at h;exact D _ U h.2
        exact Q d (m+1) U H
    have fT:(part f.type (ints xs).toArray f.offset).run P w=.ok (aa xs[m]) w:=by
      have O:mf P f.type=true:=by simp[mf,hu]
      simp[part,tZ O,E,ints,show m<xs.length by omega]
    have ha:(W0 km 9999 f.type (aa xs[m])).run P w=.ok () w:=by
      rw[show(9999:Nat)=9998+1 from rfl]
      unfold W0
      simp[underlying,hu]
    have au : f.name ≠ "_" := by simpa using N
    have D:=CZ km xs V w d (m+1) U H
    simp only[List.forIn_cons,UL,au,ne_eq,not_false_eq_true,if_true,UA,fT,ha,U2]at D⊢
    exact D
theorem dM.pair{P:Program}{D:TypeId}(h:re P D 2=true):dM P D mI where
  nM :=λkm a w=>by
    have C:=h
    unfold re at C
    cases hu:P.underlying D with
    | none=>rw[hu]at C;cases C
    | some u=>
      rw[hu]at C
      cases u with
      | struct d=>
        simp only[UW,Bool.not_eq_true']at C
        rw[show(10000:Nat)=9999+1 from rfl,W0]
        simp only[UL,underlying,run_program,UA,hu,mI]
        have:=CZ km [a.1,a.2] rfl w d.toList 0 (Uv _) C.1.1
        rw[Array.forIn_toList]at this
        simpa using this
      | _=>cases C
  find:=λa m es w he=>by
    have H:∃d,P.underlying D=some (.struct d):=by
      unfold re at h
      cases hu:P.underlying D with
      | none=>rw[hu]at h;cases h
      | some u=>
        rw[hu]at h
        cases u with
        | struct d=>exact⟨d,rfl⟩
        | _=>cases h
    obtain⟨d,hu⟩:=H
    have au:∀(es:List MapEntry),es.map (λe=>(e.key,e.val))=m.map (λt=>(mI t.1,t.2))->WR (.struct d) (mI a) es 0=none\/es=[]:=by
      intro es he
      cases es with
      | nil=>exact .inr rfl
      | cons e es=>left;simp[WR,mI,Instr.sameNow]
    rcases au es he with E|E
    · simp[Instr.findKey,underlying,hu,E,DX h a w m es 0 he]
    · subst E
      have:m=[]:=by cases m with|nil=>rfl|cons t m=>simp at he
      subst this
      simp[Instr.findKey,underlying,hu,WR,ko]
  same:=λa=>by
    rw[show(10000:Nat)=9999+1 from rfl]
    simp[mI,ints,Instr.sameBits]
end Go.QM
namespace Go.QM
open Go
section
variable {r : Option Nat} {P : Program} {N : Nat} {ops : Array Oper} {Q : ff} {ag : Env} {aQ : List Deferred} {A I : ax} {T : List Nat} {c : List (Nat × Bool)} {listed : Array Bool} {m : Nat}
def AM(ops:Array Oper)(T:List Nat)(listed:Array Bool)(i:Nat):Bool:=(Vc .any ops listed).contains i&&Region.free .any ops listed i&&T.all (λj=>qf ops 9 j i)
def dK (r:Option Nat) (P:Program) (N:Nat) (ops:Array Oper) (I:ax) (T:List Nat) (listed:Array Bool) (m:Nat) (Q:ff) (ag:Env) (aQ:List Deferred) (A:ax):Prop:=
  ∀ a w,cn N a ag aQ->sat w A->sat w I->o0 ops listed->WL ops=true->(∀(j:Nat) (o:Oper),ops[j]? =some o->iB o.op=true)->
    n9 (mA r) 0 P ops (l0 (d8 N w Q)) (λw=>sat w I) T m listed a w
theorem dK.of(c:List (Nat×Bool))(aN:oq ops T c listed=true)(hm:c.length=m)(h:b3 r P N ops I T c Q ag aQ A):dK r P N ops I T listed m Q ag aQ A:=by intro a w D E d u H C;subst hm;exact h a w listed D E ⟨w,d⟩ (.inl d) u H C aN
theorem dK.bf{B:ax}(e:aF A B)(h:dK r P N ops I T listed m Q ag aQ B):dK r P N ops I T listed m Q ag aQ A:=λa w x y=>h a w x (y.bf e)
theorem dK.quiet{i:Nat}{o:Oper}{v:Value}(E:ops[i]? =some o)(Z:jj N o.dst=true)(H:AM ops T listed i=true)
    (au:∀a,cn N a ag aQ->ki P ops (λw=>sat w I) o v a) (h:dK r P N ops I T (listed.setIfInBounds i true) m Q (jw ag o.dst v) aQ A):dK r P N ops I T listed (m+1) Q ag aQ A:=by
 intro a w O ar d u V D;simp only[AM,UW]at H;obtain⟨⟨ax,an⟩,W⟩:=H;have C:i∈Vc .any ops listed:=b2
 have:=h (a.put o.dst v) w (O.put Z v) ar d (u.set C) V D;exact BJ (td r) E (Region.noSelect_spec V) D (λc a w h=>h.elim) (.inr ⟨rfl,λj ao=>Ws.1 W j ao⟩) m listed a w u (Region.free_spec E an) C (au a O) d this
theorem dK.step{i:Nat}{o:Oper}(ar:ops[i]? =some o)(O:o.guard=none)(H:jj N o.dst=true)
    (h:cj r P ag o A (λv bk=>aF bk I/\dK r P N ops I T (listed.setIfInBounds i true) m Q (jw ag o.dst v) aQ bk)) {a:Act} {w:World} (hr:cn N a ag aQ) (hs:sat w A) (E:o0 ops listed)
    (au:WL ops=true) (ao:∀(j:Nat) (o:Oper),ops[j]? =some o->iB o.op=true) (W:i∈Vc .any ops listed):
    wpOpIn (mA r) 0 P ops (l0 (d8 N w Q)) i (λa' d=>(i∉T->sat w I->sat d I)/\n9 (mA r) 0 P ops (l0 (d8 N w Q)) (λw=>sat w I) T m (listed.setIfInBounds i true) a' d) a w:=by
 unfold wpOpIn;rw[ar];simp only[];rw[aw (by simp[UV,O])];refine Oper.xR ?_ (h a w hr.eval hs);rintro a' d ⟨v,bk,rfl,s,u,C,Z⟩;have V:=Z _ d (hr.put H v) u (u.bf C) (E.set W) au ao;have an:∀e a D,l0 (d8 N d Q) e a D->l0 (d8 N w Q) e a D:=by grind[vf]
 exact⟨λ_ _=>u.bf C,rV an m _ _ _ V⟩
theorem dK.tI{i:Nat}{o:Oper}(V:ops[i]? =some o)(E:o.guard=none)(D:jj N o.dst=true)(d:(Vc .any ops listed==[i])=true)
    (h:cj r P ag o A (λv bk=>aF bk I/\dK r P N ops I T (listed.setIfInBounds i true) m Q (jw ag o.dst v) aQ bk)):dK r P N ops I T listed (m+1) Q ag aQ A:=by
 intro a w W Z _ C an O;rw[beq_iff_eq]at d;refine⟨λao=>(by rw[ao]at d;cases d),λj u=>?_⟩;have H:=u;rw[d]at u;obtain rfl:j=i:=by simpa using u
 exact dK.step V E D h W Z C an O H
theorem dK.fork{i j:Nat}{d u:Oper}(aC:ops[i]? =some d)(aH:ops[j]? =some u)(ar:d.guard=none)(au:u.guard=none)(an:jj N d.dst=true)(ao:jj N u.dst=true)(D:(Vc .any ops listed==[i,j])=true)
    (ax:cj r P ag d A (λv bk=>aF bk I/\dK r P N ops I T (listed.setIfInBounds i true) m Q (jw ag d.dst v) aQ bk))
    (aA:cj r P ag u A (λv bk=>aF bk I/\dK r P N ops I T (listed.setIfInBounds j true) m Q (jw ag u.dst v) aQ bk)):dK r P N ops I T listed (m+1) Q ag aQ A:=by
 intro a w V W _ E Z O;rw[beq_iff_eq]at D;refine⟨λaK=>(by rw[aK]at D;cases D),λk C=>?_⟩;have H:=C;rw[D]at C;have C:k=i\/k=j:=b2
 rcases C with rfl|rfl;exact dK.step aC ar an ax V W E Z O H;exact dK.step aH au ao aA V W E Z O H
section
variable {op Gb : Op} {ty HX : TypeId} {ps Gs : String} {bh Ct : Array Edge} {t t' i j : Nat} {v : Value}
theorem dd(C:ops[i]? =some ⟨some t,op,ty,ps,bh,none⟩)(u:iB op=true)(d:V6 t N=true)(D:AM ops T listed i=true)(O:bz P ag ⟨some t,op,ty,ps,bh,none⟩ I v)
    (h:dK r P N ops I T (listed.setIfInBounds i true) m Q (hd ag t v) aQ A):dK r P N ops I T listed (m+1) Q ag aQ A:=
  dK.quiet C d D (λa E=>⟨u,.inl ⟨by simp[UV],λw H=>by rw[E.eval];exact O w H⟩⟩) h
theorem iT(D:ops[i]? =some ⟨some t,op,ty,ps,bh,none⟩)(E:ops[j]? =some ⟨some t',Gb,HX,Gs,Ct,none⟩)(d:V6 t N=true)(u:V6 t' N=true)(H:(Vc .any ops listed==[i,j])=true)
    (w:cj r P ag ⟨some t,op,ty,ps,bh,none⟩ A (λv bk=>aF bk I/\dK r P N ops I T (listed.setIfInBounds i true) m Q (hd ag t v) aQ bk))
    (C:cj r P ag ⟨some t',Gb,HX,Gs,Ct,none⟩ A (λv bk=>aF bk I/\dK r P N ops I T (listed.setIfInBounds j true) m Q (hd ag t' v) aQ bk)):dK r P N ops I T listed (m+1) Q ag aQ A:=
  dK.fork D E rfl rfl d u H w C
end
theorem ab.nQ{id:Nat}{l:List Oper}(I:ax)(T:List Nat)(m:Nat)(ao:l.toArray.size=m)(hm:P.follows .mixedOrders=true)(aN:(WL l.toArray&&l.toArray.all (λo=>iB o.op))=true)(O:aF A I)
    (h:dK r P N l.toArray I T (Array.replicate m false) m Q ag aQ A):ab r P N (.region id l.toArray true) Q ag aQ A:=by
 intro a w an D;subst ao;simp only[UW]at aN;obtain⟨E,H⟩:=aN;have V:=h a {w with drawn:=w.drawn+1} an D (sat.bf (w:={w with drawn:=w.drawn+1}) D O) (by intro j o C u;(have W:j<l.toArray.size:=by grind);rw[Array.getD_eq_getD_getElem?,Array.getElem?_replicate,aw W]at u;cases u) E (λj o C=>Array.all_eq_true_iff_forall_mem.1 H o (Array.mem_of_getElem? C))
 have Z:∀e a d,l0 (d8 N {w with drawn:=w.drawn+1} Q) e a d->d8 N w Q e a d:=λe a d h=>
   Cg (vf (w0:=w) (w:={w with drawn:=w.drawn+1}) ⟨rfl,rfl,rfl,Uw _⟩ h)
 exact wpIn_region_any hm (BK _ _ _ _ (rV Z _ _ _ _ V))
end
end Go.QM
namespace Go.QM
open Go
section
variable {P : Program} {ag : Env} {A : ax} {d : Option Nat} {ty : TypeId} {ps : String} {bh : Array Edge} {g : Option (Nat × Bool)} {t t' : TypeId} {x y : Operand}
end
end Go.QM
