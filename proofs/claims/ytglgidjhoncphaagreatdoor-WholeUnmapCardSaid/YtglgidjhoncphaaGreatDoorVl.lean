/- Proved here: contracts of functions of this program, under the premises that each theorem names. -/
import Derived.Lib.TrailingZeros
import Derived.Test.YtglgidjhoncphaaGreatDoorVk
set_option linter.all false
set_option maxRecDepth 4000
set_option maxHeartbeats 4000000
open List renaming mem_append->UQ,mem_cons->U0,nodup_cons->U6,length_cons->U9,replicate->Va,map_cons->Vm,take_append_drop->VF,range->VP,all_eq_true->WT,cons_append->Xa,mem_range->Xq,pairwise_cons->Xy,map_map->XC
open Nat renaming pow_le_pow_right->UV,le_refl->UW,zero_le->UX,eq_of_beq_eq_true->Vd,mul_one->V9,mul_comm->Wu,and_two_pow_sub_one_eq_mod->WD,blt->WJ,min_eq_left->WL,two_pow_pos->WU,lt_of_lt_of_le->WY,mod_lt->XB,pow_succ->XP,testBit_xor->X6,mul_lt_mul_of_pos_right->X7
open Go.Result renaming andThen_ok->U1
open Go.Sem renaming run_bind->Vc,run_pure->Vu
open Go.Region renaming wanted->Vl,ready->VG,noSelect->Xf
open Bool renaming and_eq_true->Vq
open Go.QM.aF renaming refl->Vx
open BitVec renaming ofInt->Vy
open Go.Lib renaming ctz->Xd
open Go.Instr renaming findNow->Xm,checkKey->Xv
open Go.Builtin renaming max_->Yj,max2->Yk
namespace Go.QM
open Go
def iq(f:Nat->Bool)(k:Nat):Nat:=oq (λj=>f (64*k+j)) 64
variable(f:Nat->Bool)
theorem tF(k:Nat):iq f k<2^64:=B9 _ 64
theorem ru(k j:Nat):(iq f k).testBit j=(decide (j<64)&&f (64*k+j)):=IQ _ 64 j
def k3(f:Nat->Bool)(w:Nat):List Value:=(VP w).map λk=>.int .u64 (iq f k:Int)
theorem rr(w:Nat):(k3 f w).length=w:=by simp[k3]
theorem rq{w k:Nat}(h:k<w):(k3 f w)[k]? =some (bj (iq f k:Int)):=by simp[k3,h]
theorem KA(i:Nat):iq f (i/64)/2^(i %64) %2=if f i=true then 1 else 0:=by have h:=ru f (i/64) (i %64);grind
def e4(f:Nat->Bool)(i:Nat):Nat->Bool:=λx=>if x=i then !f x else f x
theorem KB(i:Nat):iq f (i/64)^^^2^(i %64)=iq (e4 f i) (i/64):=by apply Nat.eq_of_testBit_eq;intro j;rw[X6,ru,ru,Nat.testBit_two_pow,e4];grind
theorem KC{i k:Nat}(h:k≠i/64):iq (e4 f i) k=iq f k:=
  IR λj d=>by rw[e4,al U]
theorem Kz{i w:Nat}(h:i/64<w):dI (i/64) [bj ((iq f (i/64)^^^2^(i %64):Nat):Int)] (k3 f w)=k3 (e4 f i) w:=by have e:k3 (e4 f i) w=(k3 f w).set (i/64) (bj ((iq f (i/64)^^^2^(i %64):Nat):Int)):=(by apply List.ext_getElem?;intro j;by_cases d:j<w;rw[rq _ d,List.getElem?_set];by_cases e:i/64=j;subst e;rw[aw rfl,aw (by rw[rr];exact h),KB];rw[al e,rq _ d,KC f (Ne.symm e)];grind[rr]);rw[e,List.set_eq_take_append_cons_drop,aw (by rw[rr];exact h)];grind[dI]
def l4(on:Bool)(x:Nat):Nat:=if on=true then x else 2^64-1^^^x
theorem Qp{on:Bool}{x:Nat}(h:x<2^64):l4 on x<2^64:=by rw[l4];split;trivial;exact Nat.xor_lt_two_pow am h
theorem A5(on:Bool)(f:Nat->Bool)(k:Nat){j:Nat}(d:j<64):(l4 on (iq f k)).testBit j=(f (64*k+j)==on):=by rw[l4];cases on with|true=>rw[aw rfl,ru,c1 d];cases f (64*k+j)<;>rfl|false=>rw[al am,X6,Nat.testBit_two_pow_sub_one,ru,c1 d];cases f (64*k+j)<;>rfl
theorem zd{x s j:Nat}(hs:s<64)(d:j<64):(x/2^s*2^s %2^64).testBit j=(decide (s<=j)&&x.testBit j):=by rw[Nat.testBit_mod_two_pow,c1 d,Bool.true_and,Wu,Nat.testBit_two_pow_mul];grind
theorem LH{x:Nat}(d:x≠0)(h:x<2^64):Xd 64 x<64/\x.testBit (Xd 64 x)=true/\∀j,j<Xd 64 x->x.testBit j=false:=by
 obtain⟨m,hm,u⟩:=Lib.ctzFrom_spec 64 x U h;have e:Xd 64 x=Lib.ctzFrom 64 x:=by grind[Xd]
 grind
def yp(f:Nat->Bool)(on:Bool)(n o i:Nat):Prop:=o<=i/\i<n/\f i=on/\∀j,o<=j->j<i->f j≠on
def tq(f:Nat->Bool)(on:Bool)(n o:Nat):Prop:=∀j,o<=j->j<n->f j≠on
theorem TT{f:Nat->Bool}{on:Bool}{k s:Nat}(hs:s<64)(h:l4 on (iq f k)/2^s*2^s %2^64=0){j:Nat}(u:64*k+s<=j)(w:j<64*(k+1)):f j≠on:=λe=>by
  have d:=zd (x:=l4 on (iq f k)) hs (show j-64*k<64 by omega)
  rw[h,Nat.zero_testBit,A5 on f k U,show 64*k+(j-64*k)=j by omega,c1 (by omega:s<=j-64*k),e]at d
  cases on<;>cases d
theorem TS{f:Nat->Bool}{on:Bool}{k s:Nat}(hs:s<64)(h:l4 on (iq f k)/2^s*2^s %2^64≠0):
    ∃c,Xd 64 (l4 on (iq f k)/2^s*2^s %2^64)=c/\c<64/\s<=c/\f (64*k+c)=on/\∀j,64*k+s<=j->j<64*k+c->f j≠on:=by obtain⟨d,u,w⟩:=LH h (XB _ am);refine⟨_,rfl,d,?_⟩;generalize Xd 64 (l4 on (iq f k)/2^s*2^s %2^64)=c at d u w;rw[zd hs d,A5 on f k d]at u;have C:s<=c:=b2;rw[c1 C,Bool.true_and]at u;refine⟨C,by simpa using u,λj D E e=>?_⟩;have H:=w (j-64*k) U;grind[zd,A5]
end Go.QM
namespace Go.QM
abbrev j9:=Nat->Nat->Bool
def k5(f:j9)(p:Nat):Nat->Nat
  | 0=>0
  | k+1=>k5 f p k+(f k (p/2^k)).toNat
def lo(f:j9)(k i:Nat)(v:Bool):j9:=λwI EM=>if wI=k/\EM=i then v else f wI EM
theorem tL(f:j9)(k i:Nat)(v:Bool)(p:Nat):∀n,k5 (lo f k i v) p n+(if k<n/\p/2^k=i then(f k i).toNat else 0)=k5 f p n+(if k<n/\p/2^k=i then v.toNat else 0)
  | 0=>by simp[k5]
  | n+1=>by have w:=tL f k i v p n;rw[k5,k5,lo];by_cases e:n=k;subst e;rw[al U,al U]at w;by_cases d:p/2^n=i;rw[aw ⟨rfl,d⟩,aw ⟨by omega,d⟩,aw ⟨by omega,d⟩,d];omega;rw[al (λh=>d h.2),al (λh=>d h.2),al (λh=>d h.2)];omega;rw[al (λh=>e h.1)];by_cases d:p/2^k=i;by_cases u:k<n;rw[aw ⟨u,d⟩,aw ⟨u,d⟩]at w;rw[aw ⟨by omega,d⟩,aw ⟨by omega,d⟩];omega;rw[al (λh=>u h.1),al (λh=>u h.1)]at w;rw[al (λh=>u U),al (λh=>u U)];omega;rw[al (λh=>d h.2),al (λh=>d h.2)]at w;rw[al (λh=>d h.2),al (λh=>d h.2)];omega
theorem vZ{f:j9}{p k:Nat}:∀{n:Nat},k5 f p n=0->k<n->f k (p/2^k)=false
  | 0,_,h=>by omega
  | n+1,h,u=>by
   rw[k5]at h;by_cases e:k=n;subst e;cases d:f k (p/2^k)with|false=>rfl|true=>rw[d]at h;simp at h
   exact vZ (n:=n) U U
theorem zc{f:j9}{p:Nat}:∀{n:Nat},(∀k,k<n->f k (p/2^k)=false)->k5 f p n=0
  | 0,_=>rfl
  | n+1,h=>by rw[k5,zc λk d=>h k U,h n U];rfl
variable{f:j9}{k:Nat}
theorem DE{p:Nat}{n:Nat}(h:f k (p/2^k)=true)(d:k<n):k5 f p n≠0:=λe=>by
  rw[vZ e d]at h;cases h
theorem tO(p k:Nat):p/2^(k+1)=p/2^k/2:=by rw[XP,Nat.div_div_eq_div_mul]
theorem w8(i k:Nat):i*2^k/2^k=i:=Nat.mul_div_cancel i (WU k)
variable{top i:Nat}
theorem FJ(u:k<=top)(d:i<2^(top-k)):i*2^k<2^top:=by
 have e:2^top=2^(top-k)*2^k:=by rw[<-Nat.pow_add];congr 1;omega
 rw[e];exact X7 d (WU k)
theorem wx(d:k<top):2^(top-k)=2*2^(top-(k+1)):=by rw[show top-k=(top-(k+1))+1 by omega,XP,Wu]
structure mc(f:j9)(top:Nat)(cd:List Nat):Prop where
  bd:∀k i,f k i=true->k<=top/\i<2^(top-k)
  aq:∀p,p<2^top->k5 f p (top+1)=if p∈cd then 0 else 1
  bi:cd.Nodup
  lt:∀p∈cd,p<2^top
structure kw(f:j9)(top:Nat)(cd:List Nat)(k i:Nat):Prop where
  hW:k<=top
  it:i<2^(top-k)
  bd:∀k i,f k i=true->k<=top/\i<2^(top-k)
  aq:∀p,p<2^top->k5 f p (top+1)=if p∈cd\/p/2^k=i then 0 else 1
  bi:cd.Nodup
  lt:∀p∈cd,p<2^top
  uE:∀p,p/2^k=i->p∉cd
theorem ss(bd:∀k i,f k i=true->k<=top/\i<2^(top-k)){k i:Nat}{v:Bool}(h:v=true->k<=top/\i<2^(top-k)):
    ∀d w,lo f k i v d w=true->d<=top/\w<2^(top-d):=λd w u=>by
  rw[lo]at u
  split at u
  · rename_i e;obtain⟨rfl,rfl⟩:=e;exact h u
  · exact bd d w u
theorem u5{l m:List Nat}(an:l.Nodup)(h:∀x∈l,x∈m):l.length<=m.length:=by induction l generalizing m with|nil=>exact UX _|cons x l D=>obtain⟨w,C⟩:=U6.1 an;have d:x∈m:=h x cE;have:=D (m:=m.erase x) C λy u=>(List.mem_erase_of_ne (λe:y=x=>w (e▸u))).2 (h y (by simp[u]));rw[List.length_erase_of_mem d]at this;have:=List.length_pos_of_mem d;rw[U9];omega
variable{cd:List Nat}
theorem mc.none(h:mc f top cd)(an:∀k,k<=top->∀i,i<2^(top-k)->f k i=false):2^top<=cd.length:=by have:=u5 (l:=VP (2^top)) (m:=cd) List.nodup_range λp u=>(by have u:=Xq.1 u;have w:=h.aq p u;rw[zc λk C=>?_]at w;simp_all;cases d:f k (p/2^k)with|false=>rfl|true=>obtain⟨a,b⟩:=h.bd _ _ d;rw[an k a _ b]at d;cases d);simp_all
theorem mc.take(h:mc f top cd)(w:f k i=true):kw (lo f k i false) top cd k i:=by obtain⟨a,b⟩:=h.bd _ _ w;have key:∀p,p<2^top->p/2^k=i->p∉cd/\k5 f p (top+1)=1:=λp u e=>(by have d:=h.aq p u;by_cases C:p∈cd;rw[aw C]at d;exact absurd d (DE (k:=k) (by rw[e];exact w) U);simp_all);refine⟨a,b,ss h.bd (λh=>by cases h),λp u=>?_,h.bi,h.lt,λp e hu=>(key p (h.lt p hu) e).1 hu⟩;have d:=tL f k i false p (top+1);by_cases e:p/2^k=i;grind;rw[al (λh=>e h.2),al (λh=>e h.2),h.aq p u]at d;simp_all
theorem kw.split(h:kw f top cd (k+1) i):f k (2*i+1)=false/\kw (lo f k (2*i+1) true) top cd k (2*i):=by have H:=h.hW;have E:=h.it;have N:=wx (k:=k) (top:=top) U;have C:(2*i+1)*2^k<2^top:=FJ U U;have u:f k (2*i+1)=false:=(by have d:=h.aq _ C;(have e:(2*i+1)*2^k/2^(k+1)=i:=by grind[tO,w8]);rw[aw (.inr e)]at d;grind[vZ,w8]);refine⟨u,by omega,by omega,ss h.bd λ_=>by omega,λp D=>?_,h.bi,h.lt,λp e=>h.uE p (by rw[tO,e];omega)⟩;have d:=tL f k (2*i+1) true p (top+1);have w:=h.aq p D;rw[tO]at w;rw[u]at d;by_cases e:p/2^k=2*i+1;have hu:p∉cd:=h.uE p (by rw[tO,e];omega);grind;grind
theorem kw.done(h:kw f top cd 0 i):i<2^top/\i∉cd/\mc f top (i::cd):=by have u:i<2^top:=h.it;have an:i∉cd:=h.uE i cE;refine⟨u,an,h.bd,λp d=>?_,U6.2 ⟨an,h.bi⟩,λp d=>?_⟩;rw[h.aq p d];grind;rcases U0.1 d with rfl|d;trivial;exact h.lt p d
theorem mc.Nt(h:mc f top cd){d:Nat}(hm:d∈cd):kw f top (cd.erase d) 0 d:=by refine⟨UX _,h.lt d hm,h.bd,λp u=>?_,h.bi.erase _,λp u=>h.lt p (List.mem_of_mem_erase u),λp e=>?_⟩;rw[h.aq p u];grind;simp only[Nat.pow_zero,Nat.div_one]at e;subst e;exact λw=>(List.Nodup.mem_erase_iff h.bi).1 w|>.1 rfl
theorem IY(i:Nat):(i^^^1)/2=i/2:=by rw[Nat.xor_div_two];simp
theorem T4(i:Nat):(i^^^1)≠i:=λh=>by
  have d:=congrArg (λx=>x.testBit 0) h
  simp only[X6]at d
  cases u:i.testBit 0<;>rw[u]at d<;>simp at d
theorem kw.merge(h:kw f top cd k i)(D:k<top)(C:f k (i^^^1)=true):kw (lo f k (i^^^1) false) top cd (k+1) (i/2):=by have u:=wx D;have O:=h.it;obtain⟨H,N⟩:=h.bd _ _ C;have w:∀p,p/2^(k+1)=i/2↔p/2^k=i\/p/2^k=i^^^1:=λp=>(by grind[tO,IY,T4]);have key:∀p,p<2^top->p/2^k=i^^^1->p∉cd/\k5 f p (top+1)=1:=λp u e=>(by have d:=h.aq p u;(have P:k5 f p (top+1)≠0:=by grind[DE]);simp_all);refine⟨by omega,by omega,ss h.bd (λh=>by cases h),λp E=>?_,h.bi,h.lt,λp e hu=>?_⟩;have d:=tL f k (i^^^1) false p (top+1);by_cases e:p/2^k=i^^^1;grind;rw[al (λh=>e h.2),al (λh=>e h.2),h.aq p E]at d;simp_all;rcases(w p).1 e with e|e;exact h.uE p e hu;exact(key p (h.lt p hu) e).1 hu
theorem kw.fill(h:kw f top cd k i):f k i=false/\mc (lo f k i true) top cd:=by have C:=h.hW;have w:f k i=false:=(by have d:=h.aq _ (FJ h.hW h.it);rw[aw (.inr (w8 i k))]at d;grind[vZ,w8]);refine⟨w,ss h.bd λ_=>⟨h.hW,h.it⟩,λp u=>?_,h.bi,h.lt⟩;have d:=tL f k i true p (top+1);rw[w]at d;by_cases e:p/2^k=i;rw[aw ⟨by omega,e⟩,aw ⟨by omega,e⟩,h.aq p u,aw (.inr e)]at d;rw[al (h.uE p e)];simpa using d;rw[al (λh=>e h.2),al (λh=>e h.2),h.aq p u]at d;simp_all
def tU(top:Nat):j9:=λk i=>decide (k=top/\i=0)
theorem mc.init(top:Nat):mc (tU top) top []:=by have u:=(kw.fill (f:=λ_ _=>false) (top:=top) (cd:=[]) (k:=top) (i:=0) ⟨UW _,WU _,λ_ _ h=>(by cases h),λp d=>(by rw[zc λ_ _=>rfl,aw (.inr (Nat.div_eq_of_lt d))]),List.nodup_nil,λ_ h=>(by cases h),λ_ _ h=>(by cases h)⟩).2;trivial
end Go.QM
namespace Go.QM
def kb(f:Nat->Bool):Nat->Nat
  | 0=>0
  | n+1=>kb f n+(f n).toNat
theorem y9{f g:Nat->Bool}:∀{n:Nat},(∀i,i<n->f i=g i)->kb f n=kb g n
  | 0,_=>rfl
  | n+1,h=>by rw[kb,kb,y9 λi d=>h i U,h n U]
theorem vY{f:Nat->Bool}{i:Nat}:∀{n:Nat},f i=false->i<n->kb (e4 f i) n=kb f n+1
  | 0,_,h=>by omega
  | n+1,d,h=>by rw[kb,kb];by_cases e:i=n;subst e;rw[y9 (f:=e4 f i) (g:=f) λj u=>by rw[e4,al U],e4,aw rfl,d];rfl;rw[vY d U,e4,al (λh=>e h.symm)];omega
theorem Na(f:Nat->Bool)(i:Nat):e4 (e4 f i) i=f:=by funext j;rw[e4];split;rename_i h;subst h;rw[e4,aw rfl,Bool.not_not];rename_i h;rw[e4,al h]
theorem zx(f:Nat->Bool)(i:Nat):e4 f i i=!f i:=aw rfl
variable{i:Nat}
theorem DB{f:Nat->Bool}{n:Nat}(d:f i=true)(h:i<n):kb (e4 f i) n+1=kb f n:=by grind[vY,zx,Na]
theorem za{f:Nat->Bool}:∀{n:Nat},kb f n=0↔∀i,i<n->f i=false
  | 0=>⟨λ_ i h=>by omega,λ_=>rfl⟩
  | n+1=>by
   rw[kb,Nat.add_eq_zero_iff,za];constructor;rintro⟨u,d⟩ i C;by_cases e:i=n
   subst e;cases w:f i with
   | false=>rfl
   | true=>rw[w]at d;cases d
   exact u i U;exact λh=>⟨λi C=>h i U,by rw[h n U];rfl⟩
theorem Ll{n:Nat}(h:0<n):kb (λj=>decide (j=0)) n=1:=by have:=vY (f:=λ_=>false) (i:=0) (n:=n) rfl h;grind[za,y9,e4]
structure cc where
  aD:Nat
  f:Nat->Bool
def gy(many:Nat):List cc->Nat
  | []=>0
  | p::L=>kb p.f many+gy many L
theorem p6(many:Nat):∀L M:List cc,gy many (L++M)=gy many L+gy many M
  | [],M=>by simp[gy]
  | p::L,M=>by rw[Xa,gy,gy,p6 many L M];omega
def wp(many:Nat)(p:cc):Prop:=∀i,i<many->p.f i=true
def vx(many:Nat)(L:List cc)(q:Nat):Prop:=∀p∈L,p.aD≠q->wp many p
structure ov(many:Nat)(L:List cc):Prop where
  kr:L.Pairwise λa b=>a.aD<b.aD
  bd:∀p∈L,∀i,p.f i=true->i<many
inductive lC(many:Nat)(L L':List cc)(aD i:Nat):Prop
  | old (A B:List cc) (f:Nat->Bool) (gE:L=A++⟨aD,f⟩::B) (gF:L'=A++⟨aD,e4 f i⟩::B) (gG:f i=false) (ia:i<many)
  | new (A B:List cc) (gE:L=A++B) (gF:L'=A++⟨aD,λj=>decide (j=0)⟩::B) (gG:i=0) (ia:∀p∈L,wp many p) (UC:∀p∈A,p.aD<aD) (UD:∀p∈B,aD<p.aD)
theorem GZ{A B:List cc}{p q:cc}(h:(A++p::B).Pairwise λa b=>a.aD<b.aD)(e:p.aD=q.aD):(A++q::B).Pairwise λa b=>a.aD<b.aD:=by grind[Xy]
theorem QZ{A B:List cc}{p:cc}(h:(A++p::B).Pairwise λa b=>a.aD<b.aD):(A++B).Pairwise (λa b=>a.aD<b.aD)/\∀a∈A++B,a.aD≠p.aD:=by grind[Xy]
theorem Q0{A B:List cc}{p:cc}(h:(A++B).Pairwise λa b=>a.aD<b.aD)(d:∀a∈A,a.aD<p.aD)(aN:∀b∈B,p.aD<b.aD):(A++p::B).Pairwise λa b=>a.aD<b.aD:=by grind[Xy]
variable{L:List cc}{many aD:Nat}{L':List cc}
theorem lC.inv(g:lC many L L' aD i)(h:ov many L)(hm:0<many):ov many L':=by cases g with|old A B f w C D E=>subst w;subst C;refine⟨GZ h.kr rfl,λp d j u=>?_⟩;rcases UQ.1 d with d|d;exact h.bd p (by simp[d]) j u;rcases U0.1 d with rfl|d;dsimp only[e4]at u;split at u;omega;exact h.bd ⟨aD,f⟩ cE j u;exact h.bd p (by simp[d]) j u|new A B w C D E H N=>subst w;subst C;refine⟨Q0 h.kr H N,λp d j u=>?_⟩;rcases UQ.1 d with d|d;exact h.bd p (by simp[d]) j u;rcases U0.1 d with rfl|d;have:=dt u;omega;exact h.bd p (by simp[d]) j u
theorem lC.used(g:lC many L L' aD i)(hm:0<many):gy many L'=gy many L+1:=by cases g with|old A B f d u w C=>subst d;subst u;have:=vY w C;rw[p6,p6,gy,gy];dsimp only;omega|new A B d u w C D E=>subst d;subst u;have:=Ll hm;rw[p6,p6,gy];dsimp only;omega
theorem lC.one{q:Nat}(g:lC many L L' aD i)(h:ov many L)(E:vx many L q):vx many L' aD:=by cases g with|old A B f C D H w=>subst C;subst D;have N:aD=q:=(by by_cases e:aD=q;exact e;have:=E ⟨aD,f⟩ cE e i w;dsimp only at this;rw[H]at this;cases this);subst N;intro p d u;rcases UQ.1 d with d|d;exact E p (by simp[d]) u;rcases U0.1 d with rfl|d;exact absurd rfl u;exact E p (by simp[d]) u|new A B C D H w O P=>subst C;subst D;intro p d u;rcases UQ.1 d with d|d;exact w p (by simp[d]);rcases U0.1 d with rfl|d;exact absurd rfl u;exact w p (by simp[d])
inductive mP(many:Nat)(L L':List cc)(aD i:Nat):Prop
  | stay (A B:List cc) (f:Nat->Bool) (gE:L=A++⟨aD,f⟩::B) (gF:L'=A++⟨aD,e4 f i⟩::B) (gG:f i=true)
  | gone (A B:List cc) (f:Nat->Bool) (gE:L=A++⟨aD,f⟩::B) (gF:L'=A++B) (gG:f i=true) (ia:∀j,j<many->j≠i->f j=false)
theorem mP.inv(g:mP many L L' aD i)(h:ov many L):ov many L':=by cases g with|stay A B f w C D=>subst w;subst C;refine⟨GZ h.kr rfl,λp d j u=>?_⟩;rcases UQ.1 d with d|d;exact h.bd p (by simp[d]) j u;rcases U0.1 d with rfl|d;dsimp only[e4]at u;split at u;rename_i e;subst e;rw[D]at u;cases u;exact h.bd ⟨aD,f⟩ cE j u;exact h.bd p (by simp[d]) j u|gone A B f w C D E=>subst w;subst C;exact⟨(QZ h.kr).1,λp d=>h.bd p (by rcases UQ.1 d with d|d<;>simp[d])⟩
theorem mP.used(g:mP many L L' aD i)(h:ov many L):gy many L'+1=gy many L:=by cases g with|stay A B f u w d=>subst u;subst w;have:=DB d (h.bd ⟨aD,f⟩ cE i d);rw[p6,p6,gy,gy];dsimp only;omega|gone A B f u w d C=>subst u;subst w;have D:=h.bd ⟨aD,f⟩ cE i d;have:=DB (n:=many) d D;have H:kb (e4 f i) many=0:=za.2 λj E=>(by rw[e4];split;rename_i e;subst e;rw[d];rfl;rename_i e;exact C j E e);rw[p6,p6,gy];dsimp only;omega
theorem mP.one(g:mP many L L' aD i)(D:vx many L aD):vx many L' aD:=by cases g with|stay A B f w C E=>subst w;subst C;intro p d u;rcases UQ.1 d with d|d;exact D p (by simp[d]) u;rcases U0.1 d with rfl|d;exact absurd rfl u;exact D p (by simp[d]) u|gone A B f w C E H=>subst w;subst C;intro p d u;exact D p (by rcases UQ.1 d with d|d<;>simp[d]) u
def e3(sz:Nat)(L:List cc)(a:Nat):Prop:=∃p∈L,∃i,p.f i=true/\a=p.aD*1024+64+i*sz
theorem e3.at{sz a:Nat}(h:e3 sz L a):∃(k aD i:Nat) (f:Nat->Bool),L[k]? =some ⟨aD,f⟩/\f i=true/\a=aD*1024+64+i*sz:=by obtain⟨⟨aD,f⟩,C,i,d,u⟩:=h;obtain⟨k,w⟩:=List.getElem?_of_mem C;exact⟨k,aD,i,f,w,d,u⟩
theorem lC.jU{sz:Nat}(g:lC many L L' aD i)(hs:0<sz)(a:Nat):e3 sz L' a↔e3 sz L a\/a=aD*1024+64+i*sz:=by cases g with|old A B f D E w H=>subst D;subst E;constructor;rintro⟨p,d,j,u,e⟩;rcases UQ.1 d with d|d;exact .inl ⟨p,by simp[d],j,u,e⟩;rcases U0.1 d with rfl|d;dsimp only[e4]at u e;split at u;rename_i C;subst C;exact .inr e;exact .inl ⟨⟨aD,f⟩,by simp,j,u,e⟩;exact .inl ⟨p,by simp[d],j,u,e⟩;rintro(⟨p,d,j,u,e⟩|e);rcases UQ.1 d with d|d;exact⟨p,by simp[d],j,u,e⟩;rcases U0.1 d with rfl|d;refine⟨⟨aD,e4 f i⟩,by simp,j,?_,e⟩;dsimp only[e4]at u⊢;rw[al (λC=>by subst C;rw[w]at u;cases u)];exact u;exact⟨p,by simp[d],j,u,e⟩;exact⟨⟨aD,e4 f i⟩,by simp,i,by dsimp only;rw[zx,w];rfl,e⟩|new A B D E w H N O=>subst D;subst E;subst w;constructor;rintro⟨p,d,j,u,e⟩;rcases UQ.1 d with d|d;exact .inl ⟨p,by simp[d],j,u,e⟩;rcases U0.1 d with rfl|d;have:=dt u;subst this;exact .inr e;exact .inl ⟨p,by simp[d],j,u,e⟩;rintro(⟨p,d,j,u,e⟩|e);exact⟨p,by rcases UQ.1 d with d|d<;>simp[d],j,u,e⟩;exact⟨⟨aD,λj=>decide (j=0)⟩,by simp,0,show decide ((0:Nat)=0)=true from rfl,e⟩
theorem mP.jU{sz:Nat}(g:mP many L L' aD i)(h:ov many L)(hs:0<sz){a:Nat}(O:e3 sz L a)(E:a≠aD*1024+64+i*sz):e3 sz L' a:=by obtain⟨p,d,j,u,e⟩:=O;cases g with|stay A B f C D H=>subst C;subst D;rcases UQ.1 d with d|d;exact⟨p,by simp[d],j,u,e⟩;rcases U0.1 d with rfl|d;refine⟨⟨aD,e4 f i⟩,by simp,j,?_,e⟩;dsimp only[e4]at u⊢;rw[al (λw=>by subst w;exact E e)];exact u;exact⟨p,by simp[d],j,u,e⟩|gone A B f C D H N=>subst C;subst D;rcases UQ.1 d with d|d;exact⟨p,by simp[d],j,u,e⟩;rcases U0.1 d with rfl|d;by_cases w:j=i;subst w;exact absurd e E;have:=N j (h.bd _ cE j u) w;dsimp only at u;rw[this]at u;cases u;exact⟨p,by simp[d],j,u,e⟩
end Go.QM
namespace Go.QM
open Go
variable{a:Nat}
theorem sv(h:a<2^64):(Vy 64 (a:Int)).toNat=a:=by simp_all
theorem o9(h:a<2^63):IntKind.i64.wrap (a:Int)=(a:Int):=m8 U U
theorem p7(h:a<2^64):IntKind.u64.wrap (a:Int)=(a:Int):=x9 U U
theorem TH(a:Nat):IntKind.u8.wrap (a:Int)=((a %256:Nat):Int):=by simp[IntKind.wrap,IntKind.signed,IntKind.bits]
theorem J8{b:Nat}(u:a<2^63)(d:b<2^63):IntKind.i64.wrap (Vy IntKind.i64.bits (a:Int)&&&Vy IntKind.i64.bits (b:Int)).toNat=((a&&&b:Nat):Int):=by rw[BitVec.toNat_and,show IntKind.i64.bits=64 from rfl,sv U,sv U];exact o9 (Nat.and_lt_two_pow _ d)
theorem QD{b:Nat}(d:a<2^63)(u:b<2^63):IntKind.i64.wrap (Vy IntKind.i64.bits (a:Int)|||Vy IntKind.i64.bits (b:Int)).toNat=((a|||b:Nat):Int):=by rw[BitVec.toNat_or,show IntKind.i64.bits=64 from rfl,sv U,sv U];exact o9 (Nat.or_lt_two_pow d u)
theorem T8{b:Nat}(d:a<2^63)(u:b<2^63):IntKind.i64.wrap (Vy IntKind.i64.bits (a:Int)^^^Vy IntKind.i64.bits (b:Int)).toNat=((a^^^b:Nat):Int):=by rw[BitVec.toNat_xor,show IntKind.i64.bits=64 from rfl,sv U,sv U];exact o9 (Nat.xor_lt_two_pow d u)
section
variable {P : Program} {ag : Env} {A : ax} {d : Option Nat} {ty : TypeId} {ps : String} {bh : Array Edge} {g : Option (Nat × Bool)} {t t' : TypeId} {x y : Operand} {a b c n : Nat}
theorem bA.to{o:Oper}{k:IntKind}{u v:Int}(h:bA P ag o A (.int k u))(e:u=v):bA P ag o A (.int k v):=by rwa[e]at h
theorem PF{u v:Int}{N:Array TypeId}(D:bc ag x=aa u)(E:bc ag y=aa v):
    bA P ag ⟨d,.call ⟨.builtin .max,#[x,y],N⟩,ty,ps,bh,g⟩ A (aa (max u v)):=
  λw _=>by
   by_cases h:u<=v;by_cases H:u=v;subst H;simp[execOp,resolve,invoke,builtin,Yj,Yk,D,E];have C:u<v:=U
   simp[execOp,resolve,invoke,builtin,Yj,Yk,D,E,C,Int.max_eq_right h];have C:¬u<v:=U
   simp[execOp,resolve,invoke,builtin,Yj,Yk,D,E,C,Int.max_eq_left (by omega:v<=u)]
theorem rn(D:bc ag x=aa a)(E:bc ag y=aa b)(u:a<2^63)(w:b<2^63)(C:a&&&b=c):
    bA P ag ⟨d,.binOp .and t x y t',ty,ps,bh,g⟩ A (aa c):=by subst C;exact vK D E (J8 u w)
theorem sW(D:bc ag x=aa a)(E:bc ag y=aa b)(u:a<2^63)(w:b<2^63)(C:a|||b=c):
    bA P ag ⟨d,.binOp .or t x y t',ty,ps,bh,g⟩ A (aa c):=by subst C;exact A6 D E (QD u w)
theorem T5(E:bc ag x=aa a)(H:bc ag y=aa b)(u:a<2^63)(C:b<2^63)(D:a^^^b=c):
    bA P ag ⟨d,.binOp .xor t x y t',ty,ps,bh,g⟩ A (aa c):=λw _=>by
  have h:=T8 u C
  rw[D]at h
  simp[execOp,E,H,eqGuard,binOp,Op.intBits]
  simpa using h
theorem nG{E:IntKind}(C:bc ag x=aa a)(D:bc ag y=.int E (n:Int))(an:n<=64)(u:a*2^n=c)(w:c<2^63):
    bA P ag ⟨d,.binOp .shl t x y t',ty,ps,bh,g⟩ A (aa c):=
  BA C D U (by
   subst u;rw[show min ((n:Int)).toNat IntKind.i64.bits=n from WL an];have e:(a:Int)*2^n=((a*2^n:Nat):Int):=cE
   rw[e];exact o9 w)
theorem jX{E:IntKind}(C:bc ag x=bj a)(D:bc ag y=.int E (n:Int))(u:a<2^64)(w:a/2^n=c):
    bA P ag ⟨d,.binOp .shr t x y t',ty,ps,bh,g⟩ A (bj c):=by subst w;exact Sb C D u
theorem k1(D:bc ag x=bj a)(E:bc ag y=bj b)(u:a<2^64)(w:b<2^64)(C:a&&&b=c):
    bA P ag ⟨d,.binOp .and t x y t',ty,ps,bh,g⟩ A (bj c):=by subst C;exact C2 D E u w
theorem pW(D:bc ag x=bj a)(E:bc ag y=bj b)(u:a<2^64)(w:b<2^64)(C:a|||b=c):
    bA P ag ⟨d,.binOp .or t x y t',ty,ps,bh,g⟩ A (bj c):=by subst C;exact QB D E u w
theorem T7(D:bc ag x=bj a)(E:bc ag y=bj b)(u:a<2^64)(w:b<2^64)(C:a^^^b=c):
    bA P ag ⟨d,.binOp .xor t x y t',ty,ps,bh,g⟩ A (bj c):=by subst C;exact T6 D E u w
theorem mR(w:bc ag x=bj a)(C:bc ag y=bj b)(u:a+b=c)(h:c<2^64):
    bA P ag ⟨d,.binOp .add t x y t',ty,ps,bh,g⟩ A (bj c):=
  add w C (by subst u;rw[show(a:Int)+(b:Int)=((a+b:Nat):Int)by simp];exact p7 h)
theorem P2(w:bc ag x=bj a)(C:bc ag y=bj b)(u:a*b %2^64=c):
    bA P ag ⟨d,.binOp .mul t x y t',ty,ps,bh,g⟩ A (bj c):=
  mul w C (by subst u;rw[show(a:Int)*(b:Int)=((a*b:Nat):Int)by simp,IntKind.wrap_u64];simp)
theorem uY{D:IntKind}(w:bc ag x=bj a)(C:bc ag y=.int D (n:Int))(an:n<=64)(u:a*2^n %2^64=c):
    bA P ag ⟨d,.binOp .shl t x y t',ty,ps,bh,g⟩ A (bj c):=by subst u;exact Hy w C an
theorem Qa(u:bc ag x=bj a)(w:a≠0)(h:a<2^64):
    bA P ag ⟨d,.unOp .neg t x,ty,ps,bh,g⟩ A (bj ((2^64-a:Nat):Int)):=
  neg u mz
end
end Go.QM
namespace Go.QM
open Go
theorem Pp{m:Nat->Nat}(h:oD m)(o:Nat){k:Nat}(D:k<8):kI m o k|||(m (o+k)*2^(8*k) %2^64)=kI m o (k+1):=by have d:=wW h o k;have u:=h (o+k);have w:m (o+k)*2^(8*k)<2^64:=(by(have e:(2:Nat)^64=2^(64-8*k)*2^(8*k):=by rw[<-Nat.pow_add];congr 1;omega);rw[e];have C:2^8<=2^(64-8*k):=UV am U;exact X7 (WY u C) (WU _));rw[Nat.mod_eq_of_lt w,QC d,kI]
def j6(m:Nat->Nat)(o:Nat)(L:List Nat)(k:Nat):Nat->Nat:=λi=>if o<=i/\i<o+k then L.getD ((i-o)/8) 0/2^(8*((i-o) %8)) %256 else m i
def dv(m:Nat->Nat)(o:Nat)(L:List Nat):Nat->Nat:=j6 m o L (8*L.length)
theorem SG(m:Nat->Nat)(o:Nat)(L:List Nat):j6 m o L 0=m:=funext λi=>by rw[j6,al U]
theorem SF(m:Nat->Nat)(o:Nat)(L:List Nat)(k:Nat):j6 m o L (k+1)=λi=>if i=o+k then L.getD (k/8) 0/2^(8*(k %8)) %256 else j6 m o L k i:=by funext i;rw[j6,j6];grind
theorem SE{m:Nat->Nat}(h:oD m)(o:Nat)(L:List Nat)(k:Nat):oD (j6 m o L k):=λi=>by
  rw[j6];split
  · exact XB _ am
  · exact h i
theorem HO{m:Nat->Nat}{o d:Nat}{L:List Nat}(h:d+8<=o\/o+8*L.length<=d):cO (dv m o L) d=cO m d:=
  uu λi u w=>by rw[dv,j6,al U]
theorem BI{m:Nat->Nat}{o j v:Nat}{L:List Nat}(d:L[j]? =some v)(hv:v<2^64):cO (dv m o L) (o+8*j)=v:=by have C:=(List.getElem?_eq_some_iff.1 d).1;have e:cO (dv m o L) (o+8*j)=cO (xQ m (o+8*j) v) (o+8*j):=uu λi u w=>(by rw[dv,j6,aw U,xQ,xP,aw U];grind);grind[Po]
section
variable {r : Option Nat} {P : Program} {N : Nat} {ops : Array Oper} {l : List Oper} {Q : ff} {ag : Env} {aS : List Deferred} {A : ax} {K : Value → ax → Prop}
variable {d : Option Tmp} {ty : TypeId} {ps : String} {bh : Array Edge} {g : Option (Nat × Bool)}
variable {t t' : TypeId} {x y z : Operand}
theorem Sl(E sz:Nat){u off n cap i j:Nat}(w:hl P t E sz=true)(C:bc ag x=.slice (some ⟨u,off,none⟩) n cap)(D:bc ag y=aa i)(H:bc ag z=aa j)(N:i<=j)(O:j<=cap)(Q:i<cap):
    bA P ag ⟨d,.slice t x (some y) (some z) none,ty,ps,bh,g⟩ A (.slice (some ⟨u,off+i*sz,none⟩) (j-i) (cap-i)):=by have h:=xK (P:=P) (A:=A) (d:=d) (ty:=ty) (ps:=ps) (bh:=bh) (g:=g) E sz w C D H U U U;have e:du (some (⟨u,off,none⟩:Addr)) cap (i:Int).toNat sz=some ⟨u,off+i*sz,none⟩:=(by rw[du,al U];simp[h5]);simp_all
theorem PN{hs:List ax}{E n:Nat}{z:Value}(bytes:Nat)(N:hl P t E 1=true)(O:ry P E 1 bytes=true)(aS:ly P E=some z)(aV:z.cells=#[z])(W:bc ag x=aa n)(Z:bc ag y=aa n)(av:bytes*n<=281474976710656)(hm:n<=maxLen)
    (k:∀b,K (.slice (cK b) n n) (ah (aj b E (Va n z)::hs))):cg r P ag ⟨d,.makeSlice t x y,ty,ps,bh,g⟩ (ah hs) K:=by
 obtain⟨inf,u,H,an,aI,aB,aY⟩:=tR O;have ar:u=z:=by grind[ly]
 subst ar;have aG:maxLen=9223372036854775807:=rfl;have hw:IntKind.i64.wrap (n:Int)=n:=by grind[m8]
 have D:((Array.range n).map ((if n=0 then #[]else u.cells)[· %(if n=0 then(#[]:Array Value)else u.cells).size]!))=(Va n u).toArray:=cp;have aA:((inf.bytes:Int)*(n:Int))<=281474976710656:=cp;have V:(decide ((n:Int)<0)||decide ((inf.bytes:Int)*(n:Int)>2^48))=false:=b2;refine cg.run rfl λw Q=>⟨.slice (cK w.heap.size) n n,w.alloc (.cells (Va n u).toArray E),_,.inl ?_,⟨rfl,rfl,rfl,by simp⟩,o2 _ Q,k w.heap.size⟩;have aq:∀w,(zeroValue E).run P w=.ok u w:=λw=>by simp[zeroValue,typeInfo,H,an]
 simp only[execOp,Instr.makeSlice,Vc,h1 N,U1,W,Z,asInt,asIntOf,Vu,typeInfo,run_program,H,hw,V];rw[al cE];simp only[Vc,run_askRoom,h1 N,U1,Int.toNat_natCast,V9];by_cases C:n=0;rw[aw C];simp only[aw C]at D;simp only[Vc,U1,Vu,D,newRow,run_newObj];trivial;rw[al C];simp only[al C]at D;simp only[Vc,U1,Vu,aq,D,newRow,run_newObj];trivial
end
theorem KO(n:Nat):iY (λ_=>0) n=Va n (jC 0):=by rw[iY,List.eq_replicate_iff];simp_all
theorem CK(b E o k:Nat)(l:List Value):cM (aj b E l) E (some ⟨b,o,none⟩) ((l.drop o).take k):=λh d=>by
  by_cases u:o<=l.length
  · refine .inr ⟨⟨b,o,none⟩,l.take o,(l.drop o).drop k,(0,0),rfl,by simp[WL u],?_⟩
    have e:l.take o++(l.drop o).take k++(l.drop o).drop k=l:=by rw[List.append_assoc,VF,VF]
    rw[d,e];simp
  · left;rw[List.drop_eq_nil_of_le U];simp
end Go.QM
namespace Go.QM
open Go
def dz:List Nat->Nat
  | []=>0
  | a::l=>a+256*dz l
theorem yC{a b c d:Nat}(E:a<256)(H:c<256):(a+256*b)&&&(c+256*d)=(a&&&c)+256*(b&&&d):=by
 have u:(a+256*b)&&&(c+256*d)=((a+256*b)&&&(c+256*d)) %2^8+2^8*(((a+256*b)&&&(c+256*d))/2^8):=U
 rw[u,Nat.and_mod_two_pow,Nat.and_div_two_pow];have w:(a+256*b) %2^8=a:=U
 have C:(c+256*d) %2^8=c:=U
 have D:(a+256*b)/2^8=b:=U
 grind
def ng(x:Nat):Nat->List Nat
  | 0=>[]
  | n+1=>x %256::ng (x/256) n
theorem yV:∀{n x:Nat},x<256^n->dz (ng x n)=x
  | 0,x,h=>by(have:x=0:=by simpa using h);subst this;rfl
  | n+1,x,h=>by
   have:x/256<256^n:=by rw[XP]at h;exact Nat.div_lt_of_lt_mul U
   rw[ng,dz,yV this];omega
theorem yT:∀(n x:Nat),(ng x n).length=n
  | 0,_=>rfl
  | n+1,x=>by rw[ng,U9,yT n]
theorem yU:∀(n x:Nat),∀a∈ng x n,a<256
  | 0,_,_,h=>by cases h
  | n+1,x,a,h=>by rcases U0.1 h with rfl|h;exact XB _ am;exact yU n _ a h
theorem tz{m:Nat}(hm:m<256):∀{l:List Nat},(∀a∈l,a<256)->dz l&&&dz (l.map λ_=>m)=dz (l.map λa=>a&&&m)
  | [],_=>by simp[dz]
  | a::l,h=>by rw[Vm,Vm,dz,dz,dz,yC (h a cE) hm,tz hm λb d=>h b (by simp[d])]
theorem uZ{m s:Nat}(hm:m<256)(hs:s<=8)(C:m<2^(8-s)):∀{l:List Nat},(∀a∈l,a<256)->dz l/2^s&&&dz (l.map λ_=>m)=dz (l.map λa=>a/2^s&&&m)
  | [],_=>by simp[dz]
  | a ::l,h=>by
    have Q:=h a cE
    have W:=uZ hm hs C (l:=l) λb u=>h b (by simp[u])
    rw[Vm,Vm,dz,dz,dz,<-W]
    have d:2^(8-s)*2^s=256:=by rw[<-Nat.pow_add,Nat.sub_add_cancel hs]
    have D:0<2^s:=WU s
    generalize dz l=x
    generalize dz (l.map λ_=>m)=y
    have E:(a+256*x)/2^s=a/2^s+2^(8-s)*x:=by
      rw[show a+256*x=a+2^s*(2^(8-s)*x)by rw[<-Nat.mul_assoc,Wu (2^s),d],Nat.add_mul_div_left _ _ D]
    have H:(a/2^s+2^(8-s)*x)=(a/2^s+2^(8-s)*(x %2^s))+256*(x/2^s):=by
      have N:=Nat.mod_add_div x (2^s)
      have an:2^(8-s)*x=2^(8-s)*(x %2^s)+256*(x/2^s):=by
        conv=>lhs;rw[<-N]
        rw[Nat.mul_add,<-Nat.mul_assoc,d]
      omega
    have w:a/2^s<2^(8-s):=Nat.div_lt_of_lt_mul (by rw[Wu,d];exact Q)
    have aq:x %2^s<2^s:=XB _ D
    have u:a/2^s+2^(8-s)*(x %2^s)<256:=by
      have:2^(8-s)*(x %2^s)<=2^(8-s)*(2^s-1):=Nat.mul_le_mul_left _ U
      have O:2^(8-s)*(2^s-1)=256-2^(8-s):=by rw[Nat.mul_sub,d,V9]
      have P:2^(8-s)<=2^8:=UV am U
      rw[O]at this
      generalize 2^(8-s)*(x %2^s)=k at this⊢
      generalize 2^(8-s)=ag at this w P
      generalize a/2^s=Z at w⊢
      omega
    rw[E,H,yC u hm]
    congr 1
    apply Nat.eq_of_testBit_eq
    intro j
    rw[Nat.testBit_and,Nat.testBit_and]
    by_cases V:j<8-s
    · congr 1
      rw[Nat.add_comm,Nat.testBit_two_pow_mul_add _ w,aw V]
    · have:m.testBit j=false:=Nat.testBit_lt_two_pow (WY C (UV am U))
      rw[this,Bool.and_false,Bool.and_false]
theorem tw(f g:Nat->Nat):∀l:List Nat,dz (l.map f)+dz (l.map g)=dz (l.map λa=>f a+g a)
  | []=>rfl
  | a::l=>by rw[Vm,Vm,Vm,dz,dz,dz,<-tw f g l];omega
def fX(v:Nat):Nat:=(v/2^1&&&85)+(v&&&85)
def hj(v:Nat):Nat:=(v/2^2&&&51)+(v&&&51)
def qQ(v:Nat):Nat:=(v/2^4+v)&&&15
def oc(v:Nat):Nat:=qQ (hj (fX v))
def GH(v:Nat):Bool:=decide (fX v<256)&&decide (hj (fX v)<256)&&decide (hj (fX v)/16<=4/\hj (fX v) %16<=4)&&decide (oc v<=8)&&(decide (oc v=0)==decide (v=0))
theorem QJ:(VP 256).all GH=true:=by kernel_rfl
theorem A9{v:Nat}(h:v<256):fX v<256/\hj (fX v)<256/\(hj (fX v)/16<=4/\hj (fX v) %16<=4)/\oc v<=8/\(oc v=0↔v=0):=by have d:=WT.1 QJ v (Xq.2 h);simp only[GH,Vq,decide_eq_true_eq,beq_iff_eq,decide_eq_decide]at d;omega
theorem AP:∀{l:List Nat},(∀a∈l,a<256/\a/16<=4/\a %16<=4)->(dz l/2^4+dz l)&&&dz (l.map λ_=>15)=dz (l.map qQ)/\dz l %16<=4
  | [],_=>by simp[dz]
  | a::l,h=>by
   obtain⟨C,D,E⟩:=h a cE;obtain⟨w,u⟩:=AP (l:=l) λb d=>h b (by simp[d]);rw[Vm,Vm,dz,dz,dz,<-w];generalize dz l=y at u⊢;have e:(a+256*y)/2^4+(a+256*y)=(a/16+a+16*(y %16))+256*(y/2^4+y):=U
   refine⟨?_,by omega⟩;rw[e,yC U am];congr 1;rw[qQ,show 15=2^4-1 from rfl,WD,WD];omega
def kp(x:Nat):Nat:=(x/2^1&&&6148914691236517205)+(x&&&6148914691236517205)
def l2(x:Nat):Nat:=(x/2^2&&&3689348814741910323)+(x&&&3689348814741910323)
def m2(x:Nat):Nat:=(x/2^4+x)&&&1085102592571150095
def oY(x:Nat):Nat:=x+x/2^8
def jA(x:Nat):Nat:=x+x/2^16
def sT(x:Nat):Nat:=x+x/2^32
def fo(x:Nat):Nat:=sT (jA (oY (m2 (l2 (kp x)))))&&&127
theorem eight{l:List Nat}(h:l.length=8):∃a b c d e f g i,l=[a,b,c,d,e,f,g,i]:=by match l,h with|[a,b,c,d,e,f,g,i],_=>exact⟨a,b,c,d,e,f,g,i,rfl⟩
theorem sL{l:List Nat}(h:l.length=8)(m:Nat):(l.map λ_=>m)=[m,m,m,m,m,m,m,m]:=by obtain⟨a,b,c,d,e,f,g,i,rfl⟩:=eight h;rfl
theorem Uz{a:Nat}(y:Nat)(h:a<256):(a+256*y)/256=y:=by omega
theorem KN{s q:Nat}(h:s<=64):(s+256*q)&&&127=s:=by rw[show 127=2^7-1 from rfl,WD];omega
theorem Qi{a b c d e f g i:Nat}(O:a<=8)(P:b<=8)(Q:c<=8)(V:d<=8)(he:e<=8)(W:f<=8)(Z:g<=8)(ag:i<=8){x:Nat}(H:x=a+256*(b+256*(c+256*(d+256*(e+256*(f+256*(g+256*i))))))):
    (x+x/2^8+(x+x/2^8)/2^16+(x+x/2^8+(x+x/2^8)/2^16)/2^32)&&&127=a+b+c+d+e+f+g+i:=by
 have w:x/2^8=b+256*(c+256*(d+256*(e+256*(f+256*(g+256*i))))):=U
 have u:x+x/2^8=(a+b)+256*((b+c)+256*((c+d)+256*((d+e)+256*((e+f)+256*((f+g)+256*((g+i)+256*i)))))):=U
 generalize x+x/2^8=y at u⊢;clear w H;have C:y/2^16=(c+d)+256*((d+e)+256*((e+f)+256*((f+g)+256*((g+i)+256*i)))):=U;have D:y+y/2^16=(a+b+c+d)+256*((b+c+d+e)+256*((c+d+e+f)+256*((d+e+f+g)+256*((e+f+g+i)+256*((f+g+i)+256*((g+i)+256*i)))))):=U
 generalize y+y/2^16=z at D⊢;clear u C;have N:z/2^32=(e+f+g+i)+256*((f+g+i)+256*((g+i)+256*i)):=U;have E:z+z/2^32=(a+b+c+d+e+f+g+i)+256*((b+c+d+e+f+g+i)+256*((c+d+e+f+g+i)+256*((d+e+f+g+i)+256*((e+f+g+i)+256*((f+g+i)+256*((g+i)+256*i)))))):=U
 rw[E];exact KN U
theorem KM{a y n:Nat}(h:a<256)(d:y<256^n):a+256*y<256^(n+1):=by omega
theorem A0:∀{l:List Nat},(∀a∈l,a<256)->dz l<256^l.length
  | [],_=>Nat.one_pos
  | a::l,h=>by rw[dz,U9];exact KM (h a cE) (A0 λb d=>h b (by simp[d]))
theorem Gl:∀{l:List Nat},dz l=0↔∀a∈l,a=0
  | []=>by simp[dz]
  | a::l=>by have d:=Gl (l:=l);simp only[dz,U0,forall_eq_or_imp,<-d];omega
def ol:List Nat->Nat
  | []=>0
  | a::l=>a+ol l
theorem HR:∀{l:List Nat},(∀a∈l,a<=8)->ol l<=8*l.length
  | [],_=>UX _
  | a::l,h=>by have u:=h a cE;have w:=HR (l:=l) λb d=>h b (by simp[d]);rw[ol,U9];omega
theorem HS:∀{l:List Nat},ol l=0↔∀a∈l,a=0
  | []=>by simp[ol]
  | a::l=>by have d:=HS (l:=l);simp only[ol,U0,forall_eq_or_imp,<-d];omega
theorem Gg{l:List Nat}(h:l.length=8)(u:∀a∈l,a<=8):sT (jA (oY (dz l)))&&&127=ol l:=by obtain⟨a,b,c,d,e,f,g,i,rfl⟩:=eight h;simp only[U0,List.not_mem_nil,or_false,forall_eq_or_imp,forall_eq]at u;obtain⟨w,bb,C,d1,D,f1,g1,i1⟩:=u;have:=Qi w bb C d1 D f1 g1 i1 (x:=dz [a,b,c,d,e,f,g,i]) (by simp only[dz,Nat.mul_zero,Nat.add_zero]);grind[sT,jA,oY,ol]
theorem Gj(i:Nat):∀l:List Nat,dz (l++[i])=dz l+256^l.length*i
  | []=>by simp[dz]
  | a::l=>by rw[Xa,dz,dz,Gj i l,U9,XP,Nat.mul_add,Nat.add_assoc];congr 2;rw[<-Nat.mul_assoc,Wu 256]
theorem Gk{l:List Nat}(an:l.length=8){m:Nat}(hm:∀a∈l,a<m)(h:∀a∈l,a<256):dz l<256^7*m:=by obtain⟨a,b,c,d,e,f,g,i,rfl⟩:=eight an;have w:[a,b,c,d,e,f,g,i]=[a,b,c,d,e,f,g]++[i]:=rfl;rw[w]at hm h⊢;have u:=A0 (l:=[a,b,c,d,e,f,g]) λx C=>h x (List.mem_append_left _ C);have D:=hm i (List.mem_append_right _ cE);rw[Gj];generalize dz [a,b,c,d,e,f,g]=y at u⊢;simp only[U9,List.length_nil]at u⊢;omega
theorem Gi{x:Nat}(ag:x<2^64):fo x<=64/\(fo x=0↔x=0)/\kp x<2^64/\l2 (kp x)<2^63/\m2 (l2 (kp x))<2^60:=by
 have u:=yU 8 x;have an:=yT 8 x;have Q:dz (ng x 8)=x:=by grind[yV]
 generalize ng x 8=l at u an Q;subst Q;have t:=λa (d:a∈l)=>A9 (u a d);have w:kp (dz l)=dz (l.map fX):=(by have g1:=uZ (m:=85) (s:=1) am am am u;have g2:=tz (m:=85) am u;rw[sL an]at g1 g2;rw[kp,show 6148914691236517205=dz [85,85,85,85,85,85,85,85]from by decide,g1,g2,tw];rfl);have C:∀a∈l.map fX,a<256:=b2
 have N:(l.map fX).length=8:=b2
 have H:l2 (dz (l.map fX))=dz ((l.map fX).map hj):=(by have g1:=uZ (m:=51) (s:=2) am am am C;have g2:=tz (m:=51) am C;rw[sL N]at g1 g2;rw[l2,show 3689348814741910323=dz [51,51,51,51,51,51,51,51]from by decide,g1,g2,tw];rfl);have D:∀a∈(l.map fX).map hj,a<256/\a/16<=4/\a %16<=4:=λa d=>cp;have O:((l.map fX).map hj).length=8:=b2
 have V:m2 (dz ((l.map fX).map hj))=dz (l.map oc):=(by have g1:=(AP D).1;rw[sL O]at g1;rw[m2,show 1085102592571150095=dz [15,15,15,15,15,15,15,15]from by decide,g1,XC,XC];rfl);have E:∀a∈l.map oc,a<=8:=b2
 have P:(l.map oc).length=8:=b2
 have W:fo (dz l)=ol (l.map oc):=by grind[fo,Gg]
 have bb:=A0 C;have Z:=HR E;rw[N]at bb;rw[P]at Z;refine⟨by rw[W];omega,?_,by rw[w];exact bb,?_,?_⟩;grind[HS,Gl];rw[w,H];exact WY (Gk O (m:=80) (λa d=>by have:=D a d;omega) (λa d=>(D a d).1)) am;rw[w,H,V];exact WY (Gk P (m:=9) (λa d=>Nat.lt_succ_of_le (E a d)) (λa d=>Nat.lt_of_le_of_lt (E a d) am)) am
end Go.QM
namespace Go.QM
open Go
section
variable {P : Program} {b : Frame} {a : Act} {k : List Item} {cs : List Frame} {w : World}
theorem SH{c:Code}:step P (lone (b.atR a (.code (.scope c)::k)) cs w)=.next (lone (b.atR a (.code c::.inScope c::k)) cs w):=
  step_lone_go (by simp[stepG,stepG.exec,Frame.atR])
theorem HQ{c:Code}:step P (lone (b.atR a (.inScope c::k)) cs w)=.next (lone (b.atR a k) cs w):=
  step_lone_go (by simp[stepG,stepG.exec,Frame.atR])
end
def CB(l:Nat)(bM:Act->World->Prop)(Q:Exit->Act->World->Prop):Exit->Act->World->Prop
  | .goto l',a,w=>l'=l/\bM a w
  | e,a,w=>Q e a w
theorem TV{F:Fence}{n:Nat}{P:Program}{Q:Exit->Act->World->Prop}{a:Act}{w:World}{c rest:Code}(l:Nat)(bM:Nat->Act->World->Prop)(aY:findLabel c l=some rest)
    (first:c.wpIn F n P (CB l (λa' H=>∃m,bM m a' H) Q) a w)
    (pass:∀m a w,bM m a w->rest.wpIn F n P (CB l (λa' H=>∃m',m'<m/\bM m' a' H) Q) a w):(Code.scope c).wpIn F n P Q a w:=by
 intro b k cs aG N O;have aB:gotoIn l (.inScope c::k)=some (.code rest::.inScope c::k):=by grind[gotoIn]
 have key:∀j a w,bM j a w->
     ∃e a' H,Q e a' H/\ArrivesIn (Machine.fenced P F) P (lone (b.atR a (.code rest::.inScope c::k)) cs w) b k cs e a' H:=by
   intro j
   induction j using Nat.strongRecOn with
   | _ j aS=>
     intro a w gH
     obtain⟨e,u,D,C,d⟩:=pass j a w gH b (.inScope c::k) cs aG N O
     cases e with
     | normal=>exact⟨.normal,u,D,C,StepsIn.trans d (.one (fenced_calm N O rfl) HQ)⟩
     | exit id=>exact⟨_,u,D,C,⟨λax ar=>d.1 ax (by simp[exitTo,ar]),λZ ag=>d.2 Z (by simp[exitTo,ag])⟩⟩
     | goto aV=>
       obtain⟨rfl,m',aI,an⟩:=C
       obtain⟨W,V,aA,av,aq⟩:=aS m' aI u D an
       exact⟨W,V,aA,av,.of_steps (d.1 _ aB) aq⟩
     | ret=>exact⟨_,u,D,C,d⟩
     | panic hJ=>exact⟨_,u,D,C,d⟩
     | outgrown=>exact⟨_,u,D,C,d⟩
 have E:StepsIn (Machine.fenced P F) P (lone (b.atR a (.code (.scope c)::k)) cs w) (lone (b.atR a (.code c::.inScope c::k)) cs w):=.one (fenced_calm N O rfl) SH;obtain⟨e,u,D,C,d⟩:=first b (.inScope c::k) cs aG N O
 cases e with|normal=>exact⟨.normal,u,D,C,.of_steps E (StepsIn.trans d (.one (fenced_calm N O rfl) HQ))⟩|exit id=>exact⟨_,u,D,C,.of_steps E ⟨λax ar=>d.1 ax (by simp[exitTo,ar]),λZ ag=>d.2 Z (by simp[exitTo,ag])⟩⟩|goto aV=>obtain⟨rfl,m,an⟩:=C;obtain⟨W,V,aA,av,aq⟩:=key _ u D an;exact⟨W,V,aA,av,.of_steps E (.of_steps (d.1 _ aB) aq)⟩|ret=>exact⟨_,u,D,C,.of_steps E d⟩|panic hJ=>exact⟨_,u,D,C,.of_steps E d⟩|outgrown=>exact⟨_,u,D,C,.of_steps E d⟩
def sh(l:Nat)(bM:Env->List Deferred->ax->Prop)(Q:ff):ff
  | .goto l',ag,aS,A=>l'=l/\bM ag aS A
  | e,ag,aS,A=>Q e ag aS A
section
variable {r : Option Nat} {P : Program} {N : Nat} {Q : ff} {ag : Env} {aS : List Deferred} {A : ax}
theorem ab.scope{ι:Type}{c rest:Code}(l:Nat)(inv:ι->Prop)(L:ι->List (Nat×Value))(B:ι->ax)(V:ι->Nat)(a5:findLabel c l=some (.seq .skip rest))
    (pass:∀i,inv i->∀d,ab r P N rest (sh l (λD C u=>C=aS/\∃j,inv j/\V j<V i/\oP D (L j)/\aF u (B j)) Q) (cr d (L i)) aS (B i))
    (first:(∀i,inv i->∀d,ab r P N rest (sh l (λD C u=>C=aS/\∃j,inv j/\oP D (L j)/\aF u (B j)) Q) (cr d (L i)) aS (B i))->
      ab r P N c (sh l (λD C u=>C=aS/\∃j,inv j/\oP D (L j)/\aF u (B j)) Q) ag aS A):ab r P N (.scope c) Q ag aS A:=by
 intro a w a8 bc;refine TV l (λm aq Z=>ft w Z/\∃i d,inv i/\ch N aq (cr d (L i)) aS/\sat Z (B i)/\V i=m) a5 ?_ ?_;refine wpIn_mono (first (λi aA d=>(pass i aA d).mono λe D C u h=>?_) a w a8 bc) ?_;cases e with|goto aI=>obtain⟨aY,a0,j,a2,_,a3,a4⟩:=h;exact⟨aY,a0,j,a2,a3,a4⟩|_=>exact h
 rintro e aq Z ⟨s,W,ar,an,E,H,O⟩;cases e with|goto aI=>obtain⟨rfl,rfl,j,aB,aG,av⟩:=O;exact⟨rfl,V j,s,j,W,aB,by rw[q4 aG];exact E,H.bg av,rfl⟩|_=>exact⟨s,W,ar,an,E,H,O⟩
 rintro m aV cF ⟨s1,i,d,aA,a9,bd,rfl⟩;refine wpIn_seq (wpIn_skip ?_);refine wpIn_mono (pass i aA d aV cF a9 bd) ?_;rintro e aq Z ⟨s,W,ar,an,E,H,O⟩;cases e with|goto aI=>obtain⟨rfl,rfl,j,aB,a7,aG,av⟩:=O;exact⟨rfl,V j,a7,s1.trans s,j,W,aB,by rw[q4 aG];exact E,H.bg av,rfl⟩|_=>exact⟨s1.trans s,W,ar,an,E,H,O⟩
theorem ab.enter{ι:Type}{c:Code}{inv:ι->Prop}{L:ι->List (Nat×Value)}{B:ι->ax}(h:∀i,inv i->∀w,ab r P N c Q (cr w (L i)) aS (B i))(i0:ι)(d:inv i0)(u:oP ag (L i0))(he:aF A (B i0)):
    ab r P N c Q ag aS A:=by have:=h i0 d ag;rw[q4 u]at this;exact this.bg he
variable {K : Env → List Deferred → ax → Prop} {i j : Nat}
theorem oS(h:Q .normal ag aS A):sh i K Q .normal ag aS A:=h
theorem Fg(h:Q .ret ag aS A):sh i K Q .ret ag aS A:=h
theorem OQ(h:K ag aS A):sh i K Q (.goto i) ag aS A:=⟨rfl,h⟩
theorem gt(h:Q (.goto j) ag aS A):po K Q (.goto j) ag aS A:=h
theorem hf(h:Q (.goto j) ag aS A):pf i Q (.goto j) ag aS A:=h
end
theorem tT{α:Type}{f g:α->ax}(i j k:Nat){hs ef u w gs:List ax}{L M:List α}{A B:ax}(a b:α)(C:eO i hs=some (A,ef))(D:eO j ef=some (B,u))(d:eO k u=some (b5 f L,w))(E:A=g a)(aN:B=g b)
    (H:∀x∈L,f x=g x) (N:(a::b::L).Perm M) (O:aF (ah w) (ah gs)):aF (ah hs) (ah (b5 g M::gs)):=by subst E;subst aN;rw[yR H]at d;refine(fI C).trans ((dO (Vx _) (fI D)).trans ?_);refine(dO (Vx _) (dO (Vx _) (fI d))).trans ?_;refine(dO (Vx _) nE).trans (nE.trans (dO ?_ O));exact vO (f:=g) N
def mW(a:Int×Int):Value:=.agg (ints [a.1,a.2]).toArray
theorem En{P:Program}{u:TypeId}(h:qu P u 2=true)(a:Int×Int)(w:World):∀(m:List ((Int×Int)×Value)) (es:List MapEntry) (i:Nat),es.map (λe=>(e.key,e.val))=m.map (λt=>(mW t.1,t.2))->
    (Instr.findAsking u (mW a) es i).run P w=.ok (kD a m i) w
  | [],es,i,he=>by cases es with|nil=>rfl|cons e es=>simp at he
  | t ::m,es,i,he=>by
    cases es with
    | nil=>simp at he
    | cons e es=>
      simp only[Vm,List.cons.injEq,Prod.mk.injEq]at he
      obtain⟨⟨C,D⟩,E⟩:=he
      have heq:=(zo h [a.1,a.2] [t.1.1,t.1.2] rfl rfl w).1
      have H:(Op.equal u (mW a) (mW t.1)).run P w=.ok (decide (a=t.1)) w:=by
        refine Eq.trans heq (congrArg (λx=>Result.ok x w) ?_)
        rw[decide_eq_decide]
        obtain⟨N,a2⟩:=a
        obtain⟨⟨bb,bo⟩,v⟩:=t
        simp
      simp only[Instr.findAsking,C,Vc,H,U1,kD]
      by_cases d:a=t.1
      · rw[aw (by simpa using d),aw d,Vu,D]
      · rw[al (by simpa using d),al d]
        exact En h a w m es (i+1) E
theorem Dp{P:Program}{n:Nat}(kB:Bool)(xs:List Int)(V:xs.length=n)(w:World):∀(d:List Field) (m:Nat),m<=n->oH P n d m=true->
    (forIn (m:=Sem) d PUnit.unit λf _=>do
        if f.name ≠ "_" then Instr.checkKey kB 9999 f.type (← part f.type (ints xs).toArray f.offset)
        pure (ForInStep.yield PUnit.unit)).run P w=.ok PUnit.unit w
  | [],m,_,_=>by simp
  | f ::d,m,hm,h=>by
    simp only[oH,Vq]at h
    obtain⟨⟨⟨N,E⟩,C⟩,H⟩:=h
    have E:=Vd E
    have hu:P.underlying f.type=some (.int .i64):=by
      cases hu:P.underlying f.type with
      | none=>rw[hu]at C;cases C
      | some u=>rw[hu]at C;cases u<;>first|(cases C;done)|(rename_i k;cases k<;>first|(cases C;done)|rfl)
    have W:m<n:=by
      rcases Nat.lt_or_ge m n with h|h
      · exact h
      · exfalso
        have Q:∀(d:List Field) (m:Nat),n<m->oH P n d m=true->False:=by
          intro d
          induction d with
          | nil=>intro m hm h;have:=Vd h;omega
          | cons f d D=>intro m hm h;simp only[oH,Vq]at h;exact D _ U h.2
        exact Q d (m+1) U H
    have fX:(part f.type (ints xs).toArray f.offset).run P w=.ok (aa xs[m]) w:=by
      have O:mA P f.type=true:=by simp[mA,hu]
      simp[part,uj O,E,ints,show m<xs.length by omega]
    have hj:(Xv kB 9999 f.type (aa xs[m])).run P w=.ok () w:=by
      rw[show(9999:Nat)=9998+1 from rfl]
      unfold Xv
      simp[underlying,hu]
    have an : f.name ≠ "_" := by simpa using N
    have D:=Dp kB xs V w d (m+1) U H
    simp only[List.forIn_cons,Vc,an,ne_eq,not_false_eq_true,if_true,U1,fX,hj,Vu]at D⊢
    exact D
theorem dL.pair{P:Program}{D:TypeId}(h:qu P D 2=true):dL P D mW where
  nX :=λkB a w=>by
    have C:=h
    unfold qu at C
    cases hu:P.underlying D with
    | none=>rw[hu]at C;cases C
    | some u=>
      rw[hu]at C
      cases u with
      | struct d=>
        simp only[Vq,Bool.not_eq_true']at C
        rw[show(10000:Nat)=9999+1 from rfl,Xv]
        simp only[Vc,underlying,run_program,U1,hu,mW]
        have:=Dp kB [a.1,a.2] rfl w d.toList 0 (UX _) C.1.1
        rw[Array.forIn_toList]at this
        simpa using this
      | _=>cases C
  find:=λa m es w he=>by
    have H:∃d,P.underlying D=some (.struct d):=by
      unfold qu at h
      cases hu:P.underlying D with
      | none=>rw[hu]at h;cases h
      | some u=>
        rw[hu]at h
        cases u with
        | struct d=>exact⟨d,rfl⟩
        | _=>cases h
    obtain⟨d,hu⟩:=H
    have an:∀(es:List MapEntry),es.map (λe=>(e.key,e.val))=m.map (λt=>(mW t.1,t.2))->Xm (.struct d) (mW a) es 0=none\/es=[]:=by
      intro es he
      cases es with
      | nil=>exact .inr rfl
      | cons e es=>left;simp[Xm,mW,Instr.sameNow]
    rcases an es he with E|E
    · simp[Instr.findKey,underlying,hu,E,En h a w m es 0 he]
    · subst E
      have:m=[]:=by cases m with|nil=>rfl|cons t m=>simp at he
      subst this
      simp[Instr.findKey,underlying,hu,Xm,kD]
  same:=λa=>by
    rw[show(10000:Nat)=9999+1 from rfl]
    simp[mW,ints,Instr.sameBits]
end Go.QM
namespace Go.QM
open Go
section
variable {r : Option Nat} {P : Program} {N : Nat} {ops : Array Oper} {Q : ff} {ag : Env} {aS : List Deferred} {A I : ax} {T : List Nat} {c : List (Nat × Bool)} {listed : Array Bool} {m : Nat}
def A4(ops:Array Oper)(T:List Nat)(listed:Array Bool)(i:Nat):Bool:=(VG .any ops listed).contains i&&Region.free .any ops listed i&&T.all (λj=>qq ops 9 j i)
def dS (r:Option Nat) (P:Program) (N:Nat) (ops:Array Oper) (I:ax) (T:List Nat) (listed:Array Bool) (m:Nat) (Q:ff) (ag:Env) (aS:List Deferred) (A:ax):Prop:=
  ∀ a w,ch N a ag aS->sat w A->sat w I->pg ops listed->Xf ops=true->(∀(j:Nat) (o:Oper),ops[j]? =some o->iS o.op=true)->
    oo (mO r) 0 P ops (mf (d8 N w Q)) (λw=>sat w I) T m listed a w
theorem dS.of(c:List (Nat×Bool))(aN:px ops T c listed=true)(hm:c.length=m)(h:b6 r P N ops I T c Q ag aS A):dS r P N ops I T listed m Q ag aS A:=by intro a w D E d u H C;subst hm;exact h a w listed D E ⟨w,d⟩ (.inl d) u H C aN
theorem dS.bg{B:ax}(e:aF A B)(h:dS r P N ops I T listed m Q ag aS B):dS r P N ops I T listed m Q ag aS A:=λa w x y=>h a w x (y.bg e)
theorem dS.quiet{i:Nat}{o:Oper}{v:Value}(E:ops[i]? =some o)(Z:jN N o.dst=true)(H:A4 ops T listed i=true)
    (av:∀a,ch N a ag aS->ky P ops (λw=>sat w I) o v a) (h:dS r P N ops I T (listed.setIfInBounds i true) m Q (j0 ag o.dst v) aS A):dS r P N ops I T listed (m+1) Q ag aS A:=by
 intro a w O ar d u V D;simp only[A4,Vq]at H;obtain⟨⟨ax,an⟩,W⟩:=H;have C:i∈VG .any ops listed:=b2
 have:=h (a.put o.dst v) w (O.put Z v) ar d (u.set C) V D;exact B6 (vr r) E (Region.noSelect_spec V) D (λc a w h=>h.elim) (.inr ⟨rfl,λj aq=>WT.1 W j aq⟩) m listed a w u (Region.free_spec E an) C (av a O) d this
theorem dS.step{i:Nat}{o:Oper}(ar:ops[i]? =some o)(O:o.guard=none)(H:jN N o.dst=true)
    (h:cg r P ag o A (λv bl=>aF bl I/\dS r P N ops I T (listed.setIfInBounds i true) m Q (j0 ag o.dst v) aS bl)) {a:Act} {w:World} (hr:ch N a ag aS) (hs:sat w A) (E:pg ops listed)
    (av:Xf ops=true) (aq:∀(j:Nat) (o:Oper),ops[j]? =some o->iS o.op=true) (W:i∈VG .any ops listed):
    wpOpIn (mO r) 0 P ops (mf (d8 N w Q)) i (λa' d=>(i∉T->sat w I->sat d I)/\oo (mO r) 0 P ops (mf (d8 N w Q)) (λw=>sat w I) T m (listed.setIfInBounds i true) a' d) a w:=by
 unfold wpOpIn;rw[ar];simp only[];rw[aw (by simp[Vl,O])];refine Oper.x7 ?_ (h a w hr.eval hs);rintro a' d ⟨v,bl,rfl,s,u,C,Z⟩;have V:=Z _ d (hr.put H v) u (u.bg C) (E.set W) av aq;have an:∀e a D,mf (d8 N d Q) e a D->mf (d8 N w Q) e a D:=by grind[vw]
 exact⟨λ_ _=>u.bg C,r7 an m _ _ _ V⟩
theorem dS.tQ{i:Nat}{o:Oper}(V:ops[i]? =some o)(E:o.guard=none)(D:jN N o.dst=true)(d:(VG .any ops listed==[i])=true)
    (h:cg r P ag o A (λv bl=>aF bl I/\dS r P N ops I T (listed.setIfInBounds i true) m Q (j0 ag o.dst v) aS bl)):dS r P N ops I T listed (m+1) Q ag aS A:=by
 intro a w W Z _ C an O;rw[beq_iff_eq]at d;refine⟨λaq=>(by rw[aq]at d;cases d),λj u=>?_⟩;have H:=u;rw[d]at u;obtain rfl:j=i:=by simpa using u
 exact dS.step V E D h W Z C an O H
theorem dS.fork{i j:Nat}{d u:Oper}(aB:ops[i]? =some d)(aG:ops[j]? =some u)(ar:d.guard=none)(av:u.guard=none)(an:jN N d.dst=true)(aq:jN N u.dst=true)(D:(VG .any ops listed==[i,j])=true)
    (ax:cg r P ag d A (λv bl=>aF bl I/\dS r P N ops I T (listed.setIfInBounds i true) m Q (j0 ag d.dst v) aS bl))
    (aA:cg r P ag u A (λv bl=>aF bl I/\dS r P N ops I T (listed.setIfInBounds j true) m Q (j0 ag u.dst v) aS bl)):dS r P N ops I T listed (m+1) Q ag aS A:=by
 intro a w V W _ E Z O;rw[beq_iff_eq]at D;refine⟨λaI=>(by rw[aI]at D;cases D),λk C=>?_⟩;have H:=C;rw[D]at C;have C:k=i\/k=j:=b2
 rcases C with rfl|rfl;exact dS.step aB ar an ax V W E Z O H;exact dS.step aG av aq aA V W E Z O H
section
variable {op GC : Op} {ty Ir : TypeId} {ps GW : String} {bh CS : Array Edge} {t t' i j : Nat} {v : Value}
theorem cW(C:ops[i]? =some ⟨some t,op,ty,ps,bh,none⟩)(u:iS op=true)(d:WJ t N=true)(D:A4 ops T listed i=true)(O:bA P ag ⟨some t,op,ty,ps,bh,none⟩ I v)
    (h:dS r P N ops I T (listed.setIfInBounds i true) m Q (hP ag t v) aS A):dS r P N ops I T listed (m+1) Q ag aS A:=
  dS.quiet C d D (λa E=>⟨u,.inl ⟨by simp[Vl],λw H=>by rw[E.eval];exact O w H⟩⟩) h
theorem jJ(D:ops[i]? =some ⟨some t,op,ty,ps,bh,none⟩)(E:ops[j]? =some ⟨some t',GC,Ir,GW,CS,none⟩)(d:WJ t N=true)(u:WJ t' N=true)(H:(VG .any ops listed==[i,j])=true)
    (w:cg r P ag ⟨some t,op,ty,ps,bh,none⟩ A (λv bl=>aF bl I/\dS r P N ops I T (listed.setIfInBounds i true) m Q (hP ag t v) aS bl))
    (C:cg r P ag ⟨some t',GC,Ir,GW,CS,none⟩ A (λv bl=>aF bl I/\dS r P N ops I T (listed.setIfInBounds j true) m Q (hP ag t' v) aS bl)):dS r P N ops I T listed (m+1) Q ag aS A:=
  dS.fork D E rfl rfl d u H w C
end
theorem ab.n1{id:Nat}{l:List Oper}(I:ax)(T:List Nat)(m:Nat)(aq:l.toArray.size=m)(hm:P.follows .mixedOrders=true)(aN:(Xf l.toArray&&l.toArray.all (λo=>iS o.op))=true)(O:aF A I)
    (h:dS r P N l.toArray I T (Array.replicate m false) m Q ag aS A):ab r P N (.region id l.toArray true) Q ag aS A:=by
 intro a w an D;subst aq;simp only[Vq]at aN;obtain⟨E,H⟩:=aN;have V:=h a {w with drawn:=w.drawn+1} an D (sat.bg (w:={w with drawn:=w.drawn+1}) D O) (by intro j o C u;(have W:j<l.toArray.size:=by grind);rw[Array.getD_eq_getD_getElem?,Array.getElem?_replicate,aw W]at u;cases u) E (λj o C=>Array.all_eq_true_iff_forall_mem.1 H o (Array.mem_of_getElem? C))
 have Z:∀e a d,mf (d8 N {w with drawn:=w.drawn+1} Q) e a d->d8 N w Q e a d:=λe a d h=>
   CF (vw (w0:=w) (w:={w with drawn:=w.drawn+1}) ⟨rfl,rfl,rfl,UW _⟩ h)
 exact wpIn_region_any hm (B7 _ _ _ _ (r7 Z _ _ _ _ V))
end
end Go.QM
namespace Go.QM
open Go
section
variable {P : Program} {ag : Env} {A : ax} {d : Option Nat} {ty : TypeId} {ps : String} {bh : Array Edge} {g : Option (Nat × Bool)} {t t' : TypeId} {x y : Operand}
end
end Go.QM
