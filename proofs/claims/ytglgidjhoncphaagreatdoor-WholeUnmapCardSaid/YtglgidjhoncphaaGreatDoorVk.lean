/- Proved here: contracts of functions of this program, under the premises that each theorem names. -/
import Derived.Laws.Bits64b
import Derived.Test.YtglgidjhoncphaaGreatDoorVj
set_option linter.all false
set_option maxRecDepth 4000
set_option maxHeartbeats 4000000
open BitVec renaming ofInt->Vy
open Nat renaming mul_comm->Wu
namespace Go.QM
open Go
section
variable {P : Program} {ag : Env} {A : ax} {d : Option Nat} {ty : TypeId} {ps : String} {bh : Array Edge} {g : Option (Nat × Bool)} {t t' : TypeId} {x y : Operand} {a b n : Nat}
theorem FU{n:Nat}:min ((n:Int)).toNat IntKind.u64.bits=min n 64:=rfl
theorem LW{a:Nat}(n:Nat)(d:a<2^64):a/2^min n 64=a/2^n:=by by_cases h:n<=64;simp_all;rw[Nat.min_eq_right U,Nat.div_eq_of_lt d,Nat.div_eq_of_lt];exact Nat.lt_of_lt_of_le d (Nat.pow_le_pow_right am U)
theorem Sb{C:IntKind}(u:bc ag x=bj a)(w:bc ag y=.int C (n:Int))(D:a<2^64):
    bA P ag ⟨d,.binOp .shr t x y t',ty,ps,bh,g⟩ A (bj ((a/2^n:Nat):Int)):=by have h:=Sc (P:=P) (A:=A) (d:=d) (ty:=ty) (ps:=ps) (bh:=bh) (g:=g) (t:=t) (t':=t') u w U;have e:(a:Int).fdiv (2^min ((n:Int)).toNat IntKind.u64.bits)=((a/2^n:Nat):Int):=(by grind[FU,LW]);simp_all
theorem Hy{C:IntKind}(u:bc ag x=bj a)(w:bc ag y=.int C (n:Int))(an:n<=64):
    bA P ag ⟨d,.binOp .shl t x y t',ty,ps,bh,g⟩ A (bj ((a*2^n %2^64:Nat):Int)):=
  BA u w U (by rw[FU,Nat.min_eq_left an,IntKind.wrap_u64];simp)
theorem C2(C:bc ag x=bj a)(D:bc ag y=bj b)(u:a<2^64)(w:b<2^64):
    bA P ag ⟨d,.binOp .and t x y t',ty,ps,bh,g⟩ A (bj ((a&&&b:Nat):Int)):=vK C D (bits_and_u64_nat a b u w)
theorem QB(C:bc ag x=bj a)(D:bc ag y=bj b)(u:a<2^64)(w:b<2^64):
    bA P ag ⟨d,.binOp .or t x y t',ty,ps,bh,g⟩ A (bj ((a|||b:Nat):Int)):=A6 C D (bits_or_u64_nat a b u w)
theorem T6(D:bc ag x=bj a)(E:bc ag y=bj b)(u:a<2^64)(C:b<2^64):
    bA P ag ⟨d,.binOp .xor t x y t',ty,ps,bh,g⟩ A (bj ((a^^^b:Nat):Int)):=λw _=>by
  have h:IntKind.u64.wrap (Vy IntKind.u64.bits (a:Int)^^^Vy IntKind.u64.bits (b:Int)).toNat=((a^^^b:Nat):Int):=bits_xor_u64_nat a b u C
  simp[execOp,D,E,eqGuard,binOp,Op.intBits]
  simpa using h
theorem J7(w:bc ag x=bj a)(C:bc ag y=bj 1)(u:a<2^64):
    bA P ag ⟨d,.binOp .and t x y t',ty,ps,bh,g⟩ A (bj ((a %2:Nat):Int)):=by have h:=C2 (P:=P) (A:=A) (d:=d) (ty:=ty) (ps:=ps) (bh:=bh) (g:=g) (t:=t) (t':=t') (b:=1) w C u am;simp_all
theorem R9{C:IntKind}(u:bc ag x=bj 1)(w:bc ag y=.int C (n:Int))(an:n<64):
    bA P ag ⟨d,.binOp .shl t x y t',ty,ps,bh,g⟩ A (bj ((2^n:Nat):Int)):=by have h:=Hy (P:=P) (A:=A) (d:=d) (ty:=ty) (ps:=ps) (bh:=bh) (g:=g) (t:=t) (t':=t') (a:=1) u w U;rwa[Nat.one_mul,Nat.mod_eq_of_lt (Nat.pow_lt_pow_right am an)]at h
theorem Lr(C:bc ag x=bj a)(u:a<2^64):bA P ag ⟨d,.unOp .xor t x,ty,ps,bh,g⟩ A (bj ((2^64-1^^^a:Nat):Int)):=λw _=>by
  have h:IntKind.u64.wrap (Vy IntKind.u64.bits ((2^64-1:Nat):Int)^^^Vy IntKind.u64.bits (a:Int)).toNat=((2^64-1^^^a:Nat):Int):=bits_xor_u64_nat (2^64-1) a am u
  have e:(if IntKind.u64.signed=true then(-1:Int)else IntKind.u64.max)=((2^64-1:Nat):Int):=am
  simp only[execOp,C,Op.unary,e,Op.intBits]
  simpa using h
end
def oq(f:Nat->Bool):Nat->Nat
  | 0=>0
  | n+1=>oq f n+if f n then 2^n else 0
theorem B9(f:Nat->Bool):∀n,oq f n<2^n
  | 0=>Nat.one_pos
  | n+1=>by have h:=B9 f n;rw[oq,Nat.pow_succ];split<;>omega
theorem IQ(f:Nat->Bool):∀(n i:Nat),(oq f n).testBit i=(decide (i<n)&&f i)
  | 0,i=>by simp[oq]
  | n + 1,i=>by
    have E:=B9 f n
    have w:=IQ f n i
    rw[oq]
    by_cases d:f n=true
    · rw[aw d,Nat.add_comm,<-Nat.one_mul (2^n),Wu,Nat.testBit_two_pow_mul_add _ E]
      by_cases u:i<n
      · rw[aw u,w];simp[u,Nat.lt_succ_of_lt u]
      · rw[al u]
        by_cases e:i=n
        · subst e;simp[d]
        · have:i-n≠0:=U
          rw[dk (by omega:¬i<n+1),Bool.false_and]
          have C:(1:Nat).testBit (i-n)=false:=by
            obtain⟨j,D⟩:∃j,i-n=j+1:=⟨i-n-1,by omega⟩
            rw[D,Nat.testBit_succ];simp
          exact C
    · rw[al d,Nat.add_zero,w]
      by_cases e:i=n
      · subst e;simp[d]
      · have:decide (i<n)=decide (i<n+1):=by rw[decide_eq_decide];omega
        rw[this]
theorem IR{f g:Nat->Bool}:∀{n:Nat},(∀i,i<n->f i=g i)->oq f n=oq g n
  | 0,_=>rfl
  | n+1,h=>by rw[oq,oq,IR λi d=>h i U,h n U]
end Go.QM
namespace Go.QM
open Go
def kI(m:Nat->Nat)(o:Nat):Nat->Nat
  | 0=>0
  | n+1=>kI m o n+m (o+n)*2^(8*n)
def cO(m:Nat->Nat)(o:Nat):Nat:=kI m o 8
def oD(m:Nat->Nat):Prop:=∀i,m i<256
theorem wW{m:Nat->Nat}(h:oD m)(o:Nat):∀n,kI m o n<2^(8*n)
  | 0=>Nat.one_pos
  | n+1=>by
   have d:=wW h o n;have u:=h (o+n);have e:2^(8*(n+1))=256*2^(8*n):=by rw[Nat.mul_add,Nat.pow_add,Wu]
   rw[kI,e];generalize 2^(8*n)=p at d⊢;have:m (o+n)*p<=255*p:=Nat.mul_le_mul_right _ U;omega
variable{m:Nat->Nat}
theorem sJ(h:oD m)(o:Nat):cO m o<2^64:=wW h o 8
theorem uu{m m':Nat->Nat}{o:Nat}:∀{n:Nat},(∀i,o<=i->i<o+n->m i=m' i)->kI m o n=kI m' o n
  | 0,_=>rfl
  | n+1,h=>by rw[kI,kI,uu λi d u=>h i d U,h (o+n) U U]
theorem QC{a c k:Nat}(h:a<2^k):a|||c*2^k=a+c*2^k:=by grind[Wu,Nat.two_pow_add_eq_or_of_lt]
def xP(m:Nat->Nat)(o:Nat)(v:Nat)(n:Nat):Nat->Nat:=λi=>if o<=i/\i<o+n then v/2^(8*(i-o)) %256 else m i
def xQ(m:Nat->Nat)(o:Nat)(v:Nat):Nat->Nat:=xP m o v 8
theorem Fy{m:Nat->Nat}{o v:Nat}{k:Nat}:∀{n:Nat},n<=k->kI (xP m o v k) o n=v %2^(8*n)
  | 0,_=>by rw[kI];simp;omega
  | n+1,h=>by
   rw[kI,Fy U,xP,aw U,Nat.add_sub_cancel_left];have e:2^(8*(n+1))=2^(8*n)*256:=by rw[Nat.mul_add,Nat.pow_add]
   rw[e,Nat.mod_mul,Wu (v/_ %256)]
theorem Po(m:Nat->Nat)(o:Nat){v:Nat}(hv:v<2^64):cO (xQ m o v) o=v:=by rw[cO,xQ,Fy (Nat.le_refl 8)];exact Nat.mod_eq_of_lt hv
variable{n:Nat}
theorem Pn{o d:Nat}{g:Nat->Nat}(h:d+8<=o\/o+n<=d):cO (λi=>if o<=i/\i<o+n then g i else m i) d=cO m d:=
  uu λi u w=>by rw[al U]
def ho(m:Nat->Nat)(o n:Nat):Nat->Nat:=λi=>if o<=i/\i<o+n then 0 else m i
theorem Uh(h:oD m)(o n:Nat):oD (ho m o n):=λi=>by
  rw[ho];split
  · decide
  · exact h i
theorem Ui(m:Nat->Nat)(o n:Nat):ho m o (n+1)=λi=>if i=o+n then 0 else ho m o n i:=by funext i;rw[ho,ho];grind
theorem Uj(m:Nat->Nat)(o:Nat):ho m o 0=m:=funext λi=>by rw[ho,al U]
theorem Fz{m:Nat->Nat}{o:Nat}:∀{n:Nat},(∀i,o<=i->i<o+n->m i=0)->kI m o n=0
  | 0,_=>rfl
  | n+1,h=>by rw[kI,Fz λi d u=>h i d U,h (o+n) U U];simp
theorem wX{o d:Nat}(u:o<=d)(w:d+8<=o+n):cO (ho m o n) d=0:=
  Fz λi C D=>by rw[ho,aw U]
theorem Ai{o d:Nat}(h:d+8<=o\/o+n<=d):cO (ho m o n) d=cO m d:=Pn h
def iY(m:Nat->Nat)(n:Nat):List Value:=(List.range n).map λi=>.int .u8 (m i:Int)
theorem sw(m:Nat->Nat)(n:Nat):(iY m n).length=n:=by simp[iY]
theorem yS(m:Nat->Nat){i:Nat}(h:i<n):(iY m n)[i]? =some (jC (m i:Int)):=by simp[iY,h]
theorem Dk(m:Nat->Nat){i:Nat}(h:i<n)(v:Nat):dI i [jC v] (iY m n)=iY (λj=>if j=i then v else m j) n:=by have e:iY (λj=>if j=i then v else m j) n=(iY m n).set i (jC v):=(by apply List.ext_getElem?;intro j;by_cases d:j<n;rw[yS _ d,List.getElem?_set];by_cases e:i=j;subst e;rw[aw rfl,aw rfl,aw (by rw[sw];exact h)];rw[al (λh=>e h.symm),al e,yS _ d];grind[sw]);rw[e,List.set_eq_take_append_cons_drop,aw (by rw[sw];exact h)];grind[dI]
theorem KK(m:Nat->Nat)(n:Nat):(iY m n).all Value.oneCell'=true:=by rw[List.all_eq_true];intro v hv;obtain⟨i,_,rfl⟩:=List.mem_map.1 hv;trivial
end Go.QM
