/- Proved here: contracts of functions of this program, under the premises that each theorem names. -/
import Derived.Laws.Bits64b
import Derived.Test.YtglgidjhoncphaaGreatDoorYj
set_option linter.all false
set_option maxRecDepth 4000
set_option maxHeartbeats 4000000
open BitVec renaming ofInt->U6
open Nat renaming mul_comm->V4
namespace Go.QM
open Go
section
variable {P : Program} {ag : Env} {A : ax} {d : Option Nat} {ty : TypeId} {ps : String} {bh : Array Edge} {g : Option (Nat × Bool)} {t t' : TypeId} {x y : Operand} {a b n : Nat}
theorem Fw{n:Nat}:min ((n:Int)).toNat IntKind.u64.bits=min n 64:=rfl
theorem Ln{a:Nat}(n:Nat)(d:a<2^64):a/2^min n 64=a/2^n:=by by_cases h:n<=64;simp_all;rw[Nat.min_eq_right U,Nat.div_eq_of_lt d,Nat.div_eq_of_lt];exact Nat.lt_of_lt_of_le d (Nat.pow_le_pow_right am U)
theorem RJ{C:IntKind}(u:bb ag x=bg a)(w:bb ag y=.int C (n:Int))(D:a<2^64):
    bz P ag ⟨d,.binOp .shr t x y t',ty,ps,bh,g⟩ A (bg ((a/2^n:Nat):Int)):=by have h:=RK (P:=P) (A:=A) (d:=d) (ty:=ty) (ps:=ps) (bh:=bh) (g:=g) (t:=t) (t':=t') u w U;have e:(a:Int).fdiv (2^min ((n:Int)).toNat IntKind.u64.bits)=((a/2^n:Nat):Int):=(by grind[Fw,Ln]);simp_all
theorem G8{C:IntKind}(u:bb ag x=bg a)(w:bb ag y=.int C (n:Int))(au:n<=64):
    bz P ag ⟨d,.binOp .shl t x y t',ty,ps,bh,g⟩ A (bg ((a*2^n %2^64:Nat):Int)):=
  Bg u w U (by rw[Fw,Nat.min_eq_left au,IntKind.wrap_u64];simp)
theorem CD(C:bb ag x=bg a)(D:bb ag y=bg b)(u:a<2^64)(w:b<2^64):
    bz P ag ⟨d,.binOp .and t x y t',ty,ps,bh,g⟩ A (bg ((a&&&b:Nat):Int)):=vt C D (bits_and_u64_nat a b u w)
theorem P9(C:bb ag x=bg a)(D:bb ag y=bg b)(u:a<2^64)(w:b<2^64):
    bz P ag ⟨d,.binOp .or t x y t',ty,ps,bh,g⟩ A (bg ((a|||b:Nat):Int)):=AO C D (bits_or_u64_nat a b u w)
theorem TE(D:bb ag x=bg a)(E:bb ag y=bg b)(u:a<2^64)(C:b<2^64):
    bz P ag ⟨d,.binOp .xor t x y t',ty,ps,bh,g⟩ A (bg ((a^^^b:Nat):Int)):=λw _=>by
  have h:IntKind.u64.wrap (U6 IntKind.u64.bits (a:Int)^^^U6 IntKind.u64.bits (b:Int)).toNat=((a^^^b:Nat):Int):=bits_xor_u64_nat a b u C
  simp[execOp,D,E,eqGuard,binOp,Op.intBits]
  simpa using h
theorem JB(w:bb ag x=bg a)(C:bb ag y=bg 1)(u:a<2^64):
    bz P ag ⟨d,.binOp .and t x y t',ty,ps,bh,g⟩ A (bg ((a %2:Nat):Int)):=by have h:=CD (P:=P) (A:=A) (d:=d) (ty:=ty) (ps:=ps) (bh:=bh) (g:=g) (t:=t) (t':=t') (b:=1) w C u am;simp_all
theorem RH{C:IntKind}(u:bb ag x=bg 1)(w:bb ag y=.int C (n:Int))(au:n<64):
    bz P ag ⟨d,.binOp .shl t x y t',ty,ps,bh,g⟩ A (bg ((2^n:Nat):Int)):=by have h:=G8 (P:=P) (A:=A) (d:=d) (ty:=ty) (ps:=ps) (bh:=bh) (g:=g) (t:=t) (t':=t') (a:=1) u w U;rwa[Nat.one_mul,Nat.mod_eq_of_lt (Nat.pow_lt_pow_right am au)]at h
theorem KU(C:bb ag x=bg a)(u:a<2^64):bz P ag ⟨d,.unOp .xor t x,ty,ps,bh,g⟩ A (bg ((2^64-1^^^a:Nat):Int)):=λw _=>by
  have h:IntKind.u64.wrap (U6 IntKind.u64.bits ((2^64-1:Nat):Int)^^^U6 IntKind.u64.bits (a:Int)).toNat=((2^64-1^^^a:Nat):Int):=bits_xor_u64_nat (2^64-1) a am u
  have e:(if IntKind.u64.signed=true then(-1:Int)else IntKind.u64.max)=((2^64-1:Nat):Int):=am
  simp only[execOp,C,Op.unary,e,Op.intBits]
  simpa using h
end
def oa(f:Nat->Bool):Nat->Nat
  | 0=>0
  | n+1=>oa f n+if f n then 2^n else 0
theorem BM(f:Nat->Bool):∀n,oa f n<2^n
  | 0=>Nat.one_pos
  | n+1=>by have h:=BM f n;rw[oa,Nat.pow_succ];split<;>omega
theorem Il(f:Nat->Bool):∀(n i:Nat),(oa f n).testBit i=(decide (i<n)&&f i)
  | 0,i=>by simp[oa]
  | n + 1,i=>by
    have E:=BM f n
    have w:=Il f n i
    rw[oa]
    by_cases d:f n=true
    · rw[aw d,Nat.add_comm,<-Nat.one_mul (2^n),V4,Nat.testBit_two_pow_mul_add _ E]
      by_cases u:i<n
      · rw[aw u,w];simp[u,Nat.lt_succ_of_lt u]
      · rw[al u]
        by_cases e:i=n
        · subst e;simp[d]
        · have:i-n≠0:=U
          rw[c4 (by omega:¬i<n+1),Bool.false_and]
          have C:(1:Nat).testBit (i-n)=false:=by
            obtain⟨j,D⟩:∃j,i-n=j+1:=⟨i-n-1,by omega⟩
            rw[D,Nat.testBit_succ];simp
          exact C
    · rw[al d,Nat.add_zero,w]
      by_cases e:i=n
      · subst e;simp[d]
      · have:decide (i<n)=decide (i<n+1):=by rw[decide_eq_decide];omega
        rw[this]
theorem Im{f g:Nat->Bool}:∀{n:Nat},(∀i,i<n->f i=g i)->oa f n=oa g n
  | 0,_=>rfl
  | n+1,h=>by rw[oa,oa,Im λi d=>h i U,h n U]
end Go.QM
namespace Go.QM
open Go
def kw(m:Nat->Nat)(o:Nat):Nat->Nat
  | 0=>0
  | n+1=>kw m o n+m (o+n)*2^(8*n)
def cS(m:Nat->Nat)(o:Nat):Nat:=kw m o 8
def oo(m:Nat->Nat):Prop:=∀i,m i<256
theorem wI{m:Nat->Nat}(h:oo m)(o:Nat):∀n,kw m o n<2^(8*n)
  | 0=>Nat.one_pos
  | n+1=>by
   have d:=wI h o n;have u:=h (o+n);have e:2^(8*(n+1))=256*2^(8*n):=by rw[Nat.mul_add,Nat.pow_add,V4]
   rw[kw,e];generalize 2^(8*n)=p at d⊢;have:m (o+n)*p<=255*p:=Nat.mul_le_mul_right _ U;omega
variable{m:Nat->Nat}
theorem sE(h:oo m)(o:Nat):cS m o<2^64:=wI h o 8
theorem ud{m m':Nat->Nat}{o:Nat}:∀{n:Nat},(∀i,o<=i->i<o+n->m i=m' i)->kw m o n=kw m' o n
  | 0,_=>rfl
  | n+1,h=>by rw[kw,kw,ud λi d u=>h i d U,h (o+n) U U]
theorem Qa{a c k:Nat}(h:a<2^k):a|||c*2^k=a+c*2^k:=by grind[V4,Nat.two_pow_add_eq_or_of_lt]
def xA(m:Nat->Nat)(o:Nat)(v:Nat)(n:Nat):Nat->Nat:=λi=>if o<=i/\i<o+n then v/2^(8*(i-o)) %256 else m i
def xB(m:Nat->Nat)(o:Nat)(v:Nat):Nat->Nat:=xA m o v 8
theorem E7{m:Nat->Nat}{o v:Nat}{k:Nat}:∀{n:Nat},n<=k->kw (xA m o v k) o n=v %2^(8*n)
  | 0,_=>by rw[kw];simp;omega
  | n+1,h=>by
   rw[kw,E7 U,xA,aw U,Nat.add_sub_cancel_left];have e:2^(8*(n+1))=2^(8*n)*256:=by rw[Nat.mul_add,Nat.pow_add]
   rw[e,Nat.mod_mul,V4 (v/_ %256)]
theorem OV(m:Nat->Nat)(o:Nat){v:Nat}(hv:v<2^64):cS (xB m o v) o=v:=by rw[cS,xB,E7 (Nat.le_refl 8)];exact Nat.mod_eq_of_lt hv
variable{n:Nat}
theorem OU{o d:Nat}{g:Nat->Nat}(h:d+8<=o\/o+n<=d):cS (λi=>if o<=i/\i<o+n then g i else m i) d=cS m d:=
  ud λi u w=>by rw[al U]
def hf(m:Nat->Nat)(o n:Nat):Nat->Nat:=λi=>if o<=i/\i<o+n then 0 else m i
theorem TQ(h:oo m)(o n:Nat):oo (hf m o n):=λi=>by
  rw[hf];split
  · decide
  · exact h i
theorem TR(m:Nat->Nat)(o n:Nat):hf m o (n+1)=λi=>if i=o+n then 0 else hf m o n i:=by funext i;rw[hf,hf];grind
theorem TS(m:Nat->Nat)(o:Nat):hf m o 0=m:=funext λi=>by rw[hf,al U]
theorem E8{m:Nat->Nat}{o:Nat}:∀{n:Nat},(∀i,o<=i->i<o+n->m i=0)->kw m o n=0
  | 0,_=>rfl
  | n+1,h=>by rw[kw,E8 λi d u=>h i d U,h (o+n) U U];simp
theorem wJ{o d:Nat}(u:o<=d)(w:d+8<=o+n):cS (hf m o n) d=0:=
  E8 λi C D=>by rw[hf,aw U]
theorem zX{o d:Nat}(h:d+8<=o\/o+n<=d):cS (hf m o n) d=cS m d:=OU h
def iR(m:Nat->Nat)(n:Nat):List Value:=(List.range n).map λi=>.int .u8 (m i:Int)
theorem sm(m:Nat->Nat)(n:Nat):(iR m n).length=n:=by simp[iR]
theorem yB(m:Nat->Nat){i:Nat}(h:i<n):(iR m n)[i]? =some (k9 (m i:Int)):=by simp[iR,h]
theorem CU(m:Nat->Nat){i:Nat}(h:i<n)(v:Nat):dJ i [k9 v] (iR m n)=iR (λj=>if j=i then v else m j) n:=by have e:iR (λj=>if j=i then v else m j) n=(iR m n).set i (k9 v):=(by apply List.ext_getElem?;intro j;by_cases d:j<n;rw[yB _ d,List.getElem?_set];by_cases e:i=j;subst e;rw[aw rfl,aw rfl,aw (by rw[sm];exact h)];rw[al (λh=>e h.symm),al e,yB _ d];grind[sm]);rw[e,List.set_eq_take_append_cons_drop,aw (by rw[sm];exact h)];grind[dJ]
theorem Kc(m:Nat->Nat)(n:Nat):(iR m n).all Value.oneCell'=true:=by rw[List.all_eq_true];intro v hv;obtain⟨i,_,rfl⟩:=List.mem_map.1 hv;trivial
end Go.QM
