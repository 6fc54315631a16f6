/- Proved here: contracts of functions of this program, under the premises that each theorem names. -/
import Derived.Lib.AppendZerosOnto
import Derived.Lib.Overlaps
import Derived.Test.YtglgidjhoncphaaGreatDoorVm
set_option linter.all false
set_option maxRecDepth 4000
set_option maxHeartbeats 4000000
open List renaming length_append->mp,getElem?_eq_getElem->UO,mem_append->UQ,mem_of_getElem?->US,getElem?_eq_some_iff->UU,mem_cons->U0,mem_map->U3,replicate->Va,flatMap_cons->Vf,append_assoc->Vj,take_of_length_le->Vs,take_append_drop->VF,nil_append->VR,getElem?_of_mem->VS,length_take->V5,drop_eq_nil_of_le->V7,pairwise_iff_getElem->Wb,take_append_of_le_length->Wi,drop_append->Xk
open Go.QM.ab renaming aA->UR
open Nat renaming le_refl->UW,zero_le->UX,mul_le_mul_right->Vr,add_mul->VJ,min_eq_left->WL
open Go.Result renaming andThen_ok->U1
open Go.Sem renaming run_bind->Vc,run_pure->Vu
open Go.Builtin renaming firstCells->Vh,zeroCells->Vi,lenOf->Xs
open Go.Value renaming oneCell'->Vo,pointer->XV
open Go.Instr renaming sliceBound->VN
open Go.QM.bA renaming to->V0
open List.Pairwise renaming nil->X5
namespace Go.QM
open Go
section
variable {r : Option Nat} {P : Program} {N : Nat} {ops : Array Oper} {l : List Oper} {Q : ff} {ag : Env} {aS : List Deferred} {A : ax} {K : Value → ax → Prop}
variable {d : Option Tmp} {ty : TypeId} {ps : String} {bh : Array Edge} {g : Option (Nat × Bool)}
variable {t t' : TypeId} {x y z u : Operand}
variable{hs rest:List ax}
theorem K3{f:FuncId}{w:Operand}{vs:List Value}{u:List Operand}{O:Array TypeId}{rd:ax->Prop}{pre:List ax}{Y:Type}{res:Y->Value}{C:Y->Prop}{post:Y->List ax}
    (spec:fA P f vs rd pre res C post) (E:bc ag w=.func (.func f) #[] #[]) (D:lT ag u=vs) (H:lH hs pre rest) (N:rd (ah rest)) (k:∀y,C y->K (res y) (ah (post y++rest))):
    cg r P ag ⟨d,.call ⟨.value w,u.toArray,O⟩,ty,ps,bh,g⟩ (ah hs) K:=
  k4 (lb:=[]) (vs:=vs) (by simpa using spec) E D H N k
variable{ad:Option Addr}{cap n j:Nat}
theorem Sf(E sz:Nat){i mx:Nat}(Q:hl P t E sz=true)(V:bc ag x=.slice ad n cap)(W:bc ag y=aa i)(Z:bc ag z=aa j)(hu:bc ag u=aa mx)(H:i<=j)(N:j<=mx)(O:mx<=cap):
    bA P ag ⟨d,.slice t x (some y) (some z) (some u),ty,ps,bh,g⟩ A (.slice (du ad mx i sz) (j-i) (mx-i)):=
  λw _=>by
   have dh:(VN (aa mx) cap .slice3Acap).run P w=.ok mx w:=by simp[VN,asIntOf,O]
   have C:(VN (aa j) mx .slice3B).run P w=.ok j w:=by simp[VN,asIntOf,N]
   have D:(VN (aa i) j .slice3C).run P w=.ok i w:=by simp[VN,asIntOf,H]
   simp[execOp,Instr.sliceAt,Instr.slice,Instr.sliceBounds,V,W,Z,hu,h1 Q,dh,C,D,du]
theorem Sk(E sz:Nat){i:Nat}(u:hl P t E sz=true)(w:bc ag x=.slice ad n cap)(C:bc ag y=aa i)(D:bc ag z=aa j)(H:i<=j)(N:j<=cap):
    bA P ag ⟨d,.slice t x (some y) (some z) none,ty,ps,bh,g⟩ A (.slice (du ad cap i sz) (j-i) (cap-i)):=by have h:=xK (P:=P) (A:=A) (d:=d) (ty:=ty) (ps:=ps) (bh:=bh) (g:=g) E sz u w C D U U U;trivial
theorem KQ(E sz:Nat)(u:hl P t E sz=true)(C:bc ag x=.slice ad n cap):
    bA P ag ⟨d,.call ⟨.builtin .cap,#[x],#[t]⟩,ty,ps,bh,g⟩ A (aa cap):=
  λw _=>by simp[execOp,resolve,invoke,builtin,Builtin.cap_,C,h1 u,goInt]
variable{sz:Nat}
theorem v7{E av m D:Nat}{C:Option Addr}{cs u N:List Value}(k:Nat)(a4:hl P t E sz=true)(aq:bc ag x=.slice (du ad cap j sz) (n-j) (cap-j))(a5:bc ag y=.slice C m D)
    [H:pq hs ad E sz n cap cs rest] [hr:bn (ah hs) C av u] (bd:j<n) (hm:m*sz<=u.length) (aY:Nat.min m (n-j)=k) (O:0<sz) (ax:(u.take (k*sz)).all Vo=true) (Z:dI (j*sz) (u.take (k*sz)) cs=N)
    (a7:K (aa k) (ah (a1 E sz ad n cap N::rest))):cg r P ag ⟨d,.call ⟨.builtin .copy,#[x,y],#[t,t']⟩,ty,ps,bh,g⟩ (ah hs) K:=by
 refine cg.run rfl λw Q=>?_;have aI:cs.length=n*sz:=(by obtain⟨i,H⟩:=H.tk;obtain⟨a9,bl,a,b,a8,rfl,O,bi⟩:=Q.bg (fI H);exact(oj O).1);have aG:0<cs.length:=by rw[aI];exact Nat.mul_pos U O
 obtain⟨af,pre,ar,rfl,f2,f3,f4,f5,V⟩:=xL Q H.tk aG;have aA:w.heap[af]? =some (.cells (pre++cs++ar).toArray E (0,0)):=(iC (nc af E _)).sat V;have a0:k<=m:=cp
 have be:k<=n-j:=cp
 have a2:k*sz<=u.length:=Nat.le_trans (Vr _ a0) hm;have aB:(u.take (k*sz)).length=k*sz:=b2
 have W:j*sz+(u.take (k*sz)).length<=cs.length:=(by rw[aB,f2,<-VJ];exact Vr _ U);have an:=u4 (P:=P) (off:=pre.length+j*sz) aA AA ax;rw[xO W,Z]at an;have a3:du (some (⟨af,pre.length,none⟩:Addr)) cap j sz=some ⟨af,pre.length+j*sz,none⟩:=(by rw[du,al U];simp[h5]);rw[a3]at aq;have aV:Vh sz k (.slice C m D)=Vh sz k (.slice C k D):=by cases C<;>rfl
 have aS:(Vh sz k (.slice C m D)).run P w=.ok (u.take (k*sz)).toArray w:=by rw[aV];exact qz (hr.rd.sat Q) a2
 refine⟨aa k,w.setRow af (pre++N++ar).toArray,_,.inl ?_,⟨rfl,rfl,rfl,by simp⟩,xM V f2 f3 f4 f5 (by rw[<-Z];exact u1 W),a7⟩;simp[execOp,resolve,invoke,builtin,Builtin.copy_,aq,a5,h1 a4,Xs,aY,aS,an,goInt]
theorem J9{E i C:Nat}{cs D:List Value}(bytes:Nat)(aY:hl P t E sz=true)(a0:hl P t' E sz=true)(aB:ry P E sz bytes=true)(a2:bc ag x=.slice ad i cap)(a3:bc ag y=.slice (du ad cap j sz) (n-j) C)
    [u:pq hs ad E sz n cap cs rest] (a8:i<=j) (aI:j<=n) (an:0<n) (H:0<sz) (O:cs.all Vo=true) (aq:dI (i*sz) (cs.drop (j*sz)) cs=D)
    (k:K (.slice ad (i+(n-j)) cap) (ah (a1 E sz ad n cap D::rest))):cg r P ag ⟨d,.call ⟨.builtin .append,#[x,y],#[t,t']⟩,ty,ps,bh,g⟩ (ah hs) K:=by
 refine cg.run rfl λw N=>?_;have W:cs.length=n*sz/\n<=cap:=(by obtain⟨i,u⟩:=u.tk;obtain⟨a7,bi,a,b,a4,rfl,H,bd⟩:=N.bg (fI u);exact⟨(oj H).1,(oj H).2.1⟩);have aS:cM (ah hs) E (du ad cap j sz) (cs.drop (j*sz)):=(by obtain⟨i,u⟩:=u.tk;exact CJ (vB (DX i u) (yu E sz ad n cap cs)) W.1 aI W.2);have aA:0<cs.length:=b2
 obtain⟨inf,z0,a9,bl,be,a5,bn⟩:=tR aB;obtain⟨af,pre,av,rfl,f2,f3,f4,f5,Q⟩:=xL N u.tk aA;have ax:w.heap[af]? =some (.cells (pre++cs++av).toArray E (0,0)):=(iC (nc af E _)).sat Q;have V:(cs.drop (j*sz)).length=(n-j)*sz:=by grind[Nat.sub_mul]
 have aV:i+(n-j)<=cap:=U
 have Z:i*sz+(cs.drop (j*sz)).length<=cs.length:=by rw[V,f2,<-VJ];exact Vr _ U
 have ar:=u4 (P:=P) (off:=pre.length+i*sz) ax (vs:=cs.drop (j*sz)) AA (by rw[List.all_eq_true]at O⊢;exact λv hv=>O v (List.mem_of_mem_drop hv));rw[xO Z,aq]at ar;have aG:(Vh sz (n-j) (.slice (du (some ⟨af,pre.length,none⟩) cap j sz) (n-j) C)).run P w=.ok (cs.drop (j*sz)).toArray w:=(by have:=qz (P:=P) (w:=w) (sz:=sz) (m:=n-j) (c:=C) (aS.sat N) (by rw[V];exact UW _);grind);refine⟨.slice (some ⟨af,pre.length,none⟩) (i+(n-j)) cap,w.setRow af (pre++D++av).toArray,_,.inl ?_,⟨rfl,rfl,rfl,by simp⟩,xM Q f2 f3 f4 f5 (by rw[<-aq];exact u1 Z),k⟩;simp only[execOp,resolve,invoke,builtin,Builtin.append_,List.map_toArray,List.map_cons,List.map_nil,Vc,Vu,U1,a2,a3,List.getElem?_toArray,List.getElem?_cons_zero,List.getElem?_cons_succ,h1 aY,h1 a0,Xs,Bool.false_eq_true,if_false];rw[aw aV];simp only[Vc,Bool.not_false,if_true,aG,U1,h5,ar,Vu]
theorem Ka{E i k V:Nat}{cs zs:List Value}{z0:Value}(bytes:Nat)(N:hl P t E sz=true)(O:sE P t' .i64=true)(aq:ry P E sz bytes=true)(a9:ly P E=some z0)(a7:bc ag x=.slice ad i cap)(a8:bc ag y=aa k)
    [hr:bn (ah hs) ad V cs] (hm:i*sz<=cs.length) (W:0<k) (a4:0<sz) (D:cap<i+k) (Z:(i+k)*bytes<=140737488355328) (aB:i+k<=maxLen) (bi:(Va k z0.cells.toList).flatten=zs)
    (a0:∀b u,K (.slice (cK b) (i+k) u) (ah (a1 E sz (cK b) (i+k) u (cs.take (i*sz)++zs)::hs))):cg r P ag ⟨d,.call ⟨.builtin .append,#[x,y],#[t,t']⟩,ty,ps,bh,g⟩ (ah hs) K:=by
 obtain⟨inf,z,aA,aS,aI,C,bd⟩:=tR aq;have aY:z=z0:=by grind[ly]
 subst aY;refine cg.run rfl λw H=>?_;have hold:(Vh sz i (.slice ad i cap)).run P w.drew=.ok (cs.take (i*sz)).toArray w.drew:=qz (hr.rd.sat (w:=w.drew) H) hm;have a3:maxLen=9223372036854775807:=rfl;have Q:P.underlying t=some (.slice E)/\P.underlying t'=some (.int .i64):=(by constructor;(·unfold hl at N;split at N;all_goals simp_all);·unfold sE at O;split at O;all_goals simp_all);have av:=grownCap_ge w (i+k) cap E;have an:=grownCap_le_maxLen w (i+k) cap E aB;have ar:=growslice_fits (need:=i+k) (old:=cap) (bytes:=bytes) D Z;have a2:k*bytes<=(i+k)*bytes:=cp
 have a5:=Lib.run_append_grow_zeros (P:=P) w t t' ty E inf z .i64 .i64 Q.1 Q.2 aA aS ad i cap (cs.take (i*sz)) (by rw[aI];exact hold) k W U D U (by rw[C];omega) (by rw[C];exact ar);refine⟨.slice (cK w.heap.size) (i+k) (grownCap w (i+k) cap E),w.drew.alloc (.cells ((cs.take (i*sz)).toArray++Vi z.cells k++Vi z.cells (grownCap w (i+k) cap E-(i+k))) E),_,.inl ?_,?_,?_,a0 w.heap.size (grownCap w (i+k) cap E)⟩;grind[execOp,resolve,invoke,builtin,Vc,Vu,U1];exact⟨rfl,rfl,rfl,by simp⟩;have be:(Vi z.cells k).toList=zs:=(by grind[Cu,Vi]);have aV:zs.length=k*sz:=by grind[size_zeroCells]
 refine(o2 _ (show sat w.drew (ah hs)from H)).bg (dO (h8 λh ax=>?_) (aF.refl _));refine⟨([],(Vi z.cells (grownCap w (i+k) cap E-(i+k))).toList),⟨rfl,?_,av,an,?_⟩,?_⟩;grind;have aG:(Vi z.cells (grownCap w (i+k) cap E-(i+k))).toList.length=(grownCap w (i+k) cap E-(i+k))*sz:=by grind[size_zeroCells]
 dsimp only;rw[mp,V5,aV,aG,WL hm,<-VJ,<-VJ];simp_all;simp only[aj];have e:([]++(cs.take (i*sz)++zs)++(Vi z.cells (grownCap w (i+k) cap E-(i+k))).toList).toArray=(cs.take (i*sz)).toArray++Vi z.cells k++Vi z.cells (grownCap w (i+k) cap E-(i+k)):=b2;rw[e];exact ax
theorem QF{bL:List ax}{f:FuncId}{fn:Func}{S R E bu a5 F5 c2 ar d1 av d2:Nat}{W Z:Option Addr}{N O:List Value}(bi:P.funcs[f]? = some fn)(bn:(fn.name == "runtime.NumGoroutine") = false)(be:fn.body.isNone = true)(an:Extern.findNext fn = none)
    (he:Extern.find fn=some (Extern.SlicesOverlaps.overlaps #[S,S] #[R])) (C:hl P S E sz=true) (Q:lT ag [x,y]=[.slice W ar d1,.slice (du Z c2 j sz) av d2]) (i1:Nat)
    (a9:eO i1 hs=some (a1 E sz W bu a5 N,rest)) (aq:∃q,eO q rest=some (a1 E sz Z F5 c2 O,bL)) (fX:0<N.length) (hj:0<O.length) (b9:j<c2) {bQ:Array TypeId}
    (k:K (.bool false) (ah hs)):cg r P ag ⟨d,.call ⟨.value (.func f),#[x,y],bQ⟩,ty,ps,bh,g⟩ (ah hs) K:=by refine cg.run rfl λw aS=>⟨.bool false,w,_,.inl ?_,ft.refl w,aS,k⟩;obtain⟨q,aq⟩:=aq;obtain⟨b8,aY,a,b,aA,rfl,aB,bd⟩:=aS.bg (fI a9);obtain⟨bY,az,a2,bo,b0,a7,aG,b7⟩:=fI aq b bd;cases W with|none=>obtain⟨⟨_,_,e⟩,_⟩:=aB;rw[e]at fX;simp at fX|some bz=>(cases Z with|none=>obtain⟨⟨_,_,e⟩,_⟩:=aG;rw[e]at hj;simp at hj|some bG=>obtain⟨⟨V,a3⟩,⟨f1,-,-,-,-⟩,g1⟩:=aB;obtain⟨⟨D,a4⟩,⟨f2,-,-,-,-⟩,g2⟩:=aG;obtain⟨H,cb,s1⟩:=bz;obtain⟨u,cc,s2⟩:=bG;simp only[Addr.mk.injEq,true_and]at f1 f2;obtain⟨rfl,rfl⟩:=f1;obtain⟨rfl,rfl⟩:=f2;dsimp only at g1 g2;(have bN:a H=some (.cells (V++N++a3).toArray E (0,0)):=by rw[g1];simp);have a0:b u=some (.cells (D++O++a4).toArray E (0,0)):=az _ _ (by rw[a7];exact qD a2 bo _ _ (by rw[g2];simp));have bp:H≠u:=λe=>(by subst e;rcases aA H with h|h;rw[bN]at h;cases h;rw[a0]at h;cases h);have cF:=aY _ _ (qD a b _ _ bN);have bW:=aY _ _ (ug aA _ _ a0);(have a8:du (some (⟨u,D.length,none⟩:Addr)) c2 j sz=some ⟨u,D.length+j*sz,none⟩:=by rw[du,al U];simp[h5]);rw[a8]at Q;have aV:P.underlying S=some (.slice E)/\∀w,(Go.sizeOf E).run P w=.ok sz w:=(by refine⟨?_,λw=>(h1 C w).2⟩;unfold hl at C;split at C;rename_i e h;simp only[Bool.and_eq_true]at C;rw[h];congr 2;exact Nat.eq_of_beq_eq_true C.1;cases C);have bq:=Lib.run_overlaps_apart (P:=P) w S R E aV.1 sz aV.2 ⟨H,V.length,none⟩ ⟨u,D.length+j*sz,none⟩ ar d1 av d2 bp E E (V++N++a3).length (D++O++a4).length (by simp[World.shape?,cF]) (by simp[World.shape?,bW]) (by simp only[mp];omega) (by simp[World.frozen?,cF]) (by simp[World.frozen?,cF]);have aI:=run_callFunc_extern bi bn be an he #[.slice (some ⟨H,V.length,none⟩) ar d1,.slice (some ⟨u,D.length+j*sz,none⟩) av d2] w;rw[bq]at aI;simp only[lT,List.cons.injEq,and_true]at Q;have bl:bc ag (.func f)=.func (.func f) #[] #[]:=rfl;simp[execOp,resolve,Deferred.ofValue,invoke,bl,Q.1,Q.2,aI])
end
theorem HK{l vs:List Value}{a:Nat}(h:l.length<=a+vs.length):dI a vs l=l.take a++vs:=by grind[dI,V7]
theorem Sq{E sz n cap:Nat}{ad:Option Addr}{cs:List Value}{m:Nat}(h:n+m<=cap):aF (a1 E sz ad n cap cs) (fj λe:List Value=>pure' (e.length=m*sz) (ah [a1 E sz ad (n+m) cap (cs++e)])):=by
 cases ad with
 | none=>
   rintro u ⟨⟨rfl,rfl,rfl⟩,w⟩
   obtain rfl:m=0:=by omega
   obtain⟨C,s,k⟩:=pZ (A:=a1 E sz none 0 0 ([]++[])) u ⟨⟨rfl,rfl,rfl⟩,w⟩
   exact⟨C,s,[],by simp,k⟩
 | some p=>
   intro u ⟨⟨pre,d⟩,⟨H,N,W,Q,V⟩,w⟩
   dsimp only at H N V w
   have O:(n+m)*sz<=cap*sz:=Vr _ h
   have D:(d.take (m*sz)).length=m*sz:=by rw[V5];rw[VJ]at O;omega
   have key:a1 E sz (some p) (n+m) cap (cs++d.take (m*sz)) u:=
     ⟨(pre,d.drop (m*sz)),⟨H,by rw[mp,D,N,VJ],h,Q,by dsimp only;rw[mp,D,List.length_drop];rw[VJ]at O;omega⟩,by
       dsimp only
       have P:pre++(cs++d.take (m*sz))++d.drop (m*sz)=pre++cs++d:=by simp[Vj,VF]
       rw[P];exact w⟩
   obtain⟨C,s,k⟩:=pZ (A:=a1 E sz (some p) (n+m) cap (cs++d.take (m*sz))) u key
   exact⟨C,s,d.take (m*sz),D,k⟩
end Go.QM
namespace Go.Proofs.YtglgidjhoncphaaGreatDoor
open Go Go.QM
def uI(B:Nat->Nat)(p:cc):List Value:=[.pointer (some ⟨(B p.aD),0,none⟩),.int .i64 ((p.aD:Int)*1024)]
variable(B:Nat->Nat)
theorem uJ(p:cc):(uI B p).length=2:=rfl
def fq(B:Nat->Nat)(L:List cc):List Value:=L.flatMap (uI B)
theorem xm(L:List cc):(fq B L).length=L.length*2:=kE (uJ B) L
theorem Ba(B:Nat->Nat):∀L:List cc,(fq B L).all Vo=true
 | []=>rfl
 | p::L=>by have:=Ba B L;rw[fq]at this⊢;rw[Vf,List.all_append,this];rfl
theorem xl(L M:List cc):fq B (L++M)=fq B L++fq B M:=by simp[fq]
theorem GL(L:List cc)(i:Nat):(fq B L).take (i*2)=fq B (L.take i):=wm (uJ B) L i
theorem GI(L:List cc)(i:Nat):(fq B L).drop (i*2)=fq B (L.drop i):=zv (uJ B) L i
variable{L:List cc}{p:cc}
theorem xn{B:Nat->Nat}{i:Nat}(h:L[i]? =some p):((fq B L).drop (i*2)).take 2=[.pointer (some ⟨(B p.aD),0,none⟩),aa ((p.aD:Int)*1024)]:=nm (uJ B) h
def nh(a b:Int):Int:=if a<b then -1 else if b<a then 1 else 0
theorem Dz{a b:Int}:nh a b<0↔a<b:=by unfold nh;omega
theorem Dy{a b:Int}:nh a b=0↔a=b:=by unfold nh;omega
def vn(L:List cc)(t:Int)(y:Nat×Bool):Prop:=y.1<=L.length/\(∀k p,L[k]? =some p->(k<y.1↔(p.aD:Int)*1024<t))/\(y.2=true↔∃p,L[y.1]? =some p/\(p.aD:Int)*1024=t)
variable{k:Nat}
theorem N4{cs e vs:List Value}{n:Nat}(w:cs.length=n*2)(he:e.length=1*2)(hv:vs.length=2)(D:k<n):
 dI (k*2) vs (dI ((k+1)*2) (((cs++e).drop (k*2)).take ((n-k)*2)) (cs++e))=cs.take (k*2)++vs++cs.drop (k*2):=by
 have d:((cs++e).drop (k*2)).take ((n-k)*2)=cs.drop (k*2):=(by grind[Vs]);have C:(cs.drop (k*2)).length=n*2-k*2:=b2
 have u:dI ((k+1)*2) (cs.drop (k*2)) (cs++e)=(cs++e).take ((k+1)*2)++cs.drop (k*2):=(by grind[HK])
 rw[d,u,dI,hv,Wi (by rw[V5,mp];omega),List.take_take,WL U,Wi U,
  Xk,V7 (by rw[V5,mp];omega),VR]
 congr 1;have:k*2+2-((cs++e).take ((k+1)*2)).length=0:=cp
 simp_all
theorem N2{cs vs zs:List Value}{n:Nat}(w:cs.length=n*2)(E:zs.length=(n+1-k)*2)(hv:vs.length=2)(D:k<n):
 dI ((k+1)*2) ((cs.drop (k*2)).take ((n-k)*2)) (dI (k*2) (vs.take (1*2)) (cs.take (k*2)++zs))=cs.take (k*2)++vs++cs.drop (k*2):=by
 have C:(cs.drop (k*2)).length=n*2-k*2:=b2
 have d:(cs.take (k*2)).length=k*2:=cp
 rw[Vs (by omega:(cs.drop (k*2)).length<=(n-k)*2),Vs (by omega:vs.length<=1*2)];have u:dI (k*2) vs (cs.take (k*2)++zs)=cs.take (k*2)++vs++zs.drop 2:=(by rw[dI,Wi U,Vs U,hv,Xk,V7 U,VR,d];simp_all);grind[HK]
theorem LU{cs d:List Value}{n:Nat}(u:cs.length=n*2)(w:k<n)(h:d.take ((n-1)*2)=(dI (k*2) (cs.drop ((k+1)*2)) cs).take ((n-1)*2)):d.take ((n-1)*2)=cs.take (k*2)++cs.drop ((k+1)*2):=by grind[dI,Vs]
theorem Fa(x:Int):bu 289 [aa x] be [] (.bool false) []:=by apply aG Tryz.func289 Tryz.ntmps289;intro F _;apply J [9,135,176,91,63];exact b4.i () [_] ⟨rfl,trivial⟩ (congrArg Value.bool cE) trivial (ao (aZ _))
theorem Lh(x y:Int):bu 229 [aa x,aa y] be [] (aa (nh x y)) []:=by
 apply aG Tryz.func229 Tryz.ntmps229;intro F _;apply J [9,102,169];apply aq (Fa x);apply J [153,37,169];apply aq (Fa y);apply J [153,101,56,118,56,118,176,171];apply UR rfl<;>intro d;have hv:nh x y=-1:=aw d;rw[hv];apply J [196];exact j8;apply J [44,176,219,3];apply UR rfl<;>intro u;have hv:nh x y=1:=by rw[nh,al d,aw u]
 rw[hv];apply J [196];exact j8;have hv:nh x y=0:=by rw[nh,al d,al u]
 rw[hv];apply J [4,209];exact j8
theorem MB(v:Option Addr)(x y:Int):bu 228 [.agg #[.pointer v,aa x],aa y] be [] (aa (nh x y)) []:=by apply aG Tryz.func228 Tryz.ntmps228;intro F _;refine J [194,519] ?_;intro bb;apply J [27,263,28];apply aq (Lh x y);apply J [5,30];exact dw
theorem KJ(L:List cc)(ad:Option Addr)(cap:Nat)(t:Int)(hs:L.Pairwise λa b=>a.aD<b.aD)(ax:L.length<=1048576):bL 227 [.slice ad L.length cap,aa t,.func (.func 228) #[] #[]] (λF=>∃E,cM F E ad (fq B L)) [] (λy:Nat×Bool=>.tuple #[aa y.1,.bool y.2]) (λy=>vn L t y) (λ_=>[]):=by
 apply aG Tryz.func227 Tryz.ntmps227;intro F ⟨E,Z⟩;apply J [9];haveI:bn F ad E (fq B L):=⟨Z⟩;have av:=xm B L;apply J [24,184,33,390,60,242,76];refine ab.loop (ι:=Nat×Nat) (λx=>(x.1<=x.2/\x.2<=L.length)/\(∀k fY,L[k]? =some fY->k<x.1->(fY.aD:Int)*1024<t)/\(∀k fY,L[k]? =some fY->x.2<=k->t<=(fY.aD:Int)*1024)) (λx=>[(0,.slice ad L.length cap),(1,aa t),(2,.func (.func 228) #[] #[]),(8,aa L.length),(9,aa ((x.1:Nat):Int)),(10,aa ((x.2:Nat):Int))]) (λx=>ah [F]) (λx=>x.2-x.1) (0,L.length) ⟨⟨UX _,UW _⟩,λk fY _ h=>absurd h (Nat.not_lt_zero _),λk fY h N=>absurd (UU.1 h).1 (by dsimp only at N;omega)⟩ bC (ao (aZ _)) ?_;rintro⟨i,j⟩ ⟨⟨an,H⟩,Q,O⟩ aI;dsimp only[cr]at an H Q O⊢;apply J [122,2,171];apply UR rfl<;>intro aB;have ag:(i+j)/2<L.length:=U
 obtain⟨fY,d⟩:∃fY,L[(i+j)/2]? =some fY:=⟨L[(i+j)/2],UO ag⟩;have ar:0<(fq B L).length:=U
 apply J [4,76,176];refine q rfl rfl (V0 (v:=((i+j:Nat):Int)) (io rfl rfl U U) U) ?_;refine J [307] ?_;refine q rfl rfl (jX (n:=1) (c:=(i+j)/2) rfl rfl U (by rw[Nat.pow_one])) ?_;refine J [308,27,24] ?_;refine q rfl rfl (e8 (v:=.func _ _ _) rfl) ?_;refine J [84,2,520] ?_;refine q rfl rfl (gv (vs:=[_,_]) 2 rfl rfl (xn d) rfl am) ?_;refine J [28,581] ?_;intro _ _;apply J [153,171];apply UR rfl<;>intro D;have D:(fY.aD:Int)*1024<t:=by grind[Dz]
 apply J [202];refine q rfl rfl (V0 (v:=(((i+j)/2+1:Nat):Int)) (io rfl rfl U U) U) ?_;apply J [72,152];exact⟨rfl,((i+j)/2+1,j),⟨⟨by dsimp only;omega,H⟩,λk r u P=>by dsimp only at P;by_cases e:k=(i+j)/2;subst e;rw[d]at u;cases u;exact D;obtain⟨g1,g2⟩:=UU.1 u;obtain⟨g3,g4⟩:=UU.1 d;have:=(Wb.1 hs) k ((i+j)/2) g1 g3 U;rw[g2,g4]at this;omega,O⟩,cD,⟨rfl,rfl,rfl,rfl,rfl,rfl,trivial⟩,ai⟩;have D:¬(fY.aD:Int)*1024<t:=λh=>D (Dz.2 h);apply J [202,72,152];exact⟨rfl,(i,(i+j)/2),⟨⟨by dsimp only;omega,by dsimp only;omega⟩,Q,λk r u P=>by dsimp only at P;by_cases e:k=(i+j)/2;subst e;rw[d]at u;cases u;omega;obtain⟨g1,g2⟩:=UU.1 u;obtain⟨g3,g4⟩:=UU.1 d;have:=(Wb.1 hs) ((i+j)/2) k g3 g1 U;rw[g2,g4]at this;omega⟩,cD,⟨rfl,rfl,rfl,rfl,rfl,rfl,trivial⟩,ai⟩;obtain rfl:i=j:=U
 have V:∀k p,L[k]? =some p->(k<i↔(p.aD:Int)*1024<t):=λk p W=>⟨Q k p W,λh=>by by_cases e:k<i;exact e;have:=O k p W U;omega⟩;apply J [21,26,120,374];refine aT.split 39 rfl (λw=>?_) (λw=>?_);have w:=dt w;have aq:i<L.length:=U
 obtain⟨fY,d⟩:∃fY,L[i]? =some fY:=⟨L[i],UO aq⟩;have ar:0<(fq B L).length:=U
 refine c8 rfl rfl rfl (e8 (v:=.func _ _ _) rfl) ?_;apply J [353,11];refine c8 rfl rfl rfl (gP 296 2 rfl rfl rfl U dW) ?_;refine c8 rfl rfl rfl (gv (vs:=[_,_]) 2 rfl rfl (xn d) rfl am) ?_;refine J [282,581] ?_;intro _ _;apply J [153,156,458,72,63];exact cN (i,decide (nh ((fY.aD:Int)*1024) t=0)) ⟨H,V,⟨λh=>⟨fY,d,Dy.1 (dt h)⟩,λ⟨p,C,N⟩=>c1 (Dy.2 (by rw[d]at C;cases C;exact N))⟩⟩ ai;have w:=dX w;apply J [48,48,144,72,63];exact cN (i,false) ⟨H,V,⟨λh=>(by cases h),λ⟨p,C,_⟩=>absurd (UU.1 C).1 U⟩⟩ (ao (aZ _))
theorem QN(ad:Option Addr)(cap n k:Nat)(cs:List Value)(N:k<n)(an:n<=1048576)(D:cs.length=n*2)(V:n<=cap)(Q:cap<=maxLen)(C:cs.all Vo=true):bu 296 [.slice ad n cap,aa k,aa ((k:Int)+1)] be [a1 296 2 ad n cap cs] (.slice ad (n-1) cap) [a1 296 2 ad (n-1) cap (cs.take (k*2)++cs.drop ((k+1)*2))]:=by
 apply aG Tryz.func296 Tryz.ntmps296;intro F _;apply J [1];have Z:maxLen=9223372036854775807:=rfl;have u:((k:Nat):Int)+1=((k+1:Nat):Int):=U
 rw[u];apply J [121,33,120,84,390];refine q rfl rfl (Sf (i:=k) (j:=k+1) (mx:=n) 296 2 rfl rfl rfl rfl rfl U U U) ?_;apply J [29,176,246];refine UR rfl (λd=>absurd d U) (λd=>?_);apply J [4,33,390,31];refine cC [0,1,2,3,4,5,-6,7] (aZ _) ?_;apply J [213];refine bU rfl rfl rfl (nH 296 2 k rfl rfl rfl rfl U) ?_;refine J [213,582,12] ?_;refine J9 16 rfl rfl rfl rfl rfl U U U am C rfl ?_;refine J [6,347,74,8] ?_;have w:k+(n-(k+1))=n-1:=U
 rw[w];apply J [104,84,390,2];refine q rfl rfl (Sk 296 2 rfl rfl rfl rfl U U) ?_;refine dh ?_;refine y4 (n:=n) (E:=296) (sz:=2) (z:=.agg #[.pointer none,aa 0]) (n-1) rfl rfl rfl rfl am rfl rfl U ?_;intro P W O;apply J [3,33,105];have H:=LU D N O;exact eZ (DU 0 rfl (p0 (j:=n-1) U) (by rw[H];exact(ao (ao (aZ _)))))
theorem QO(ad N:Option Addr)(cap aq n k:Nat)(cs vs:List Value)(a8:k<=n)(an:n<=1048576)(u:cs.length=n*2)(hv:vs.length=2)(ax:n<=cap)(a3:cap<=maxLen)(a4:1<=aq)(aY:cs.all Vo=true)(O:vs.all Vo=true):bL 239 [.slice ad n cap,aa k,.slice N 1 aq] be [a1 296 2 ad n cap cs,a1 296 2 N 1 aq vs] (λy:Option Addr×Nat=>.slice y.1 (n+1) y.2) (λ_=>True) (λy=>[a1 296 2 y.1 (n+1) y.2 (cs.take (k*2)++vs++cs.drop (k*2))]):=by
 apply aG Tryz.func239 Tryz.ntmps239;intro F _;apply J [13];have bc:maxLen=9223372036854775807:=rfl;refine J [121,287,521,3,33,390,31,26,296,99,33,390,31,176,246] ?_;apply UR rfl<;>intro a9;obtain rfl:k=n:=U
 apply J [33,262];refine ap 16 rfl rfl rfl rfl rfl U (show vs.take (1*2)=vs from Vs U) O U gl ?_;intro W ag;apply J [180,75];have D:cs.take (k*2)++vs++cs.drop (k*2)=cs++vs:=cp
 exact br (W,ag) trivial (by rw[D];exact(ao (bV (aZ _))));have P:k<n:=U
 refine J [44,176,151,84] ?_;refine q rfl rfl (KQ 296 2 rfl rfl) ?_;apply J [219,3];apply UR rfl<;>intro a0;have a2:cap<k+(n+1-k):=U
 have aV:(Va (n+1-k) [XV none,aa 0]).flatten.length=(n+1-k)*2:=cE
 apply J [287];refine q rfl rfl (nH 296 2 k rfl rfl rfl rfl U) ?_;refine J [120,151,2] ?_;refine q rfl rfl (V0 (v:=((n+1-k:Nat):Int)) (o5 rfl rfl U U) U) ?_;refine e rfl ?_;refine Ka (E:=296) (sz:=2) (i:=k) (k:=n+1-k) (cs:=cs) (z0:=.agg #[.pointer none,aa 0]) (zs:=(Va (n+1-k) [XV none,aa 0]).flatten) 16 rfl rfl rfl rfl rfl rfl U U am U U gl rfl ?_;intro Z ar;have av:k+(n+1-k)=n+1:=U
 rw[av];apply J [188];haveI:sj cs cap k 2:=⟨n,u,by omega,ax⟩;have aS:(vs.take (1*2)).all Vo=true:=cp
 have C:((cs.drop (k*2)).take ((n-k)*2)).all Vo=true:=cp
 have w:(cs.drop (k*2)).length=(n-k)*2:=cp
 have D:=N2 u aV hv P;refine J [104,2,521,262] ?_;refine v7 (n:=n+1) (j:=k) 1 rfl rfl rfl U U (show min _ _=_ from by omega) am aS rfl ?_;apply J [29];refine cC [0,1,2,3,4,5,6,7,-8] (aZ _) ?_;refine J [213,15,388] ?_;refine bU rfl rfl rfl (oi 296 2 (k+1) rfl rfl rfl U U) ?_;apply J [213];refine bU rfl rfl rfl (oi 296 2 k rfl rfl rfl rfl U) ?_;refine dJ rfl rfl ?_;refine v7 (n:=n+1) (j:=k+1) (n-k) rfl rfl rfl U (by rw[w];exact UW _) (show min _ _=_ from by omega) am C D ?_;refine J [110,33,180,75] ?_;exact br (some ⟨Z,0,none⟩,ar) trivial ai;have Q:n+1<=cap:=U
 apply J [4,33,120];refine q rfl rfl (V0 (v:=((n+1:Nat):Int)) (io rfl rfl U U) U) ?_;refine q rfl rfl (nH 296 2 (n+1) rfl rfl rfl rfl U) ?_;apply J [188,8];refine ab.bg (DU 0 rfl (Sq (m:=1) Q) (Mg _)) ?_;refine ab.open 0 rfl (λd H=>?_);obtain es:=d;have a7:=H;apply J [13];haveI:sj (cs++d) cap k 2:=⟨n+1,by rw[mp,u,H];omega,by omega,Q⟩;have V:vs.take (1*2)=vs:=cp
 have aB:=N4 u H hv P;have a5:((cs++d).drop (k*2)).take ((n-k)*2)=cs.drop (k*2):=(by grind[Vs]);have C:(((cs++d).drop (k*2)).take ((n-k)*2)).all Vo=true:=cp
 have w:((cs++d).drop (k*2)).length=(n+1-k)*2:=cp
 have aI:0<(cs++d).length:=b2
 apply J [104,84,120];refine q rfl rfl (V0 (v:=((k+1:Nat):Int)) (io rfl rfl U U) U) ?_;refine q rfl rfl (oi 296 2 (k+1) rfl rfl rfl rfl U) ?_;refine e rfl ?_;refine QF (S:=291) (R:=4) (F5:=n+1) (c2:=cap) (j:=k+1) Tryz.func293 aM aM aM aM rfl rfl 1 rfl ⟨0,rfl⟩ U aI U ?_;apply J [259,17,8];refine cC [0,1,2,3,4,5,6,7,-8] (aZ _) ?_;apply J [213,15];refine bU rfl rfl rfl (V0 (v:=((k+1:Nat):Int)) (io rfl rfl U U) U) ?_;refine J [582,213] ?_;refine bU rfl rfl rfl (oi 296 2 k rfl rfl rfl rfl U) ?_;refine dJ rfl rfl ?_;refine v7 (n:=n+1) (j:=k+1) (n-k) rfl rfl rfl U (by rw[w];exact UW _) (show min _ _=_ from by omega) am C rfl ?_;refine J [110,287,521,262] ?_;refine v7 (n:=n+1) (j:=k) 1 rfl rfl rfl U U (show min _ _=_ from by omega) am (by rw[V];exact O) (by rw[V,aB]) ?_;apply J [3,33,180,75];exact br (ad,cap) trivial ai
structure qa where
  B:Nat->Nat
  ad:Option Addr
  cap:Nat
structure md(sz:Nat)(L:List cc):Prop where
  a6:16<=sz/\sz<=512
  inv:ov (960/sz) L
  aD:∀p∈L,p.aD<1048576
def mo(b bd sz:Nat)(L:List cc):ax:=fj λy:qa=>pure' (md sz L) (ah [aj b 293 [ae bd,.int .i64 sz,.slice y.ad L.length y.cap],a1 296 2 y.ad L.length y.cap (fq y.B L),b5 (λp:cc=>gI (y.B p.aD) (960/sz) p.f) L])
theorem md.many{sz:Nat}(h:md sz L):1<=960/sz/\960/sz<=60/\960/sz*sz<=960:=by obtain⟨u,w⟩:=h.a6;have d:1<=960/sz:=(Nat.le_div_iff_mul_le U).2 U;have a2:960/sz<=60:=(by exact Nat.div_le_of_le_mul U);exact⟨d,a2,Nat.div_mul_le_self 960 sz⟩
theorem md.place{sz:Nat}(h:md sz L){i:Nat}(d:i<960/sz):i*sz+sz<=960:=by have u:=h.many.2.2;have w:(i+1)*sz<=960/sz*sz:=Vr _ d;grind
theorem QT(h:L.Pairwise λa b=>a.aD<b.aD):(L.map (·.aD)).Nodup:=by grind
theorem md.len{sz:Nat}(h:md sz L):L.length<=1048576:=by have:=u5 (QT h.inv.kr) (m:=List.range 1048576) λx u=>(by obtain⟨p,d,rfl⟩:=U3.1 u;exact List.mem_range.2 (h.aD p d));simp_all
theorem tC(h:L[k]? =some p):L=L.take k++p::L.drop (k+1):=by grind[List.drop_eq_getElem_cons,VF]
variable{aD:Nat}
theorem GK{f:Nat->Bool}(g:Nat->Bool)(h:L[k]? =some ⟨aD,f⟩):fq B (L.take k++⟨aD,g⟩::L.drop (k+1))=fq B L:=by
 conv=>rhs;rw[tC h]
 rw[xl,xl];rfl
theorem FB(r:cc)(h:L[k]? =some p):(L.take k++r::L.drop (k+1)).length=L.length:=by grind
theorem GU{f:Nat->Bool}(g:Nat->Bool)(h:L[k]? =some ⟨aD,f⟩):(L.take k++(⟨aD,g⟩:cc)::L.drop (k+1)).map (·.aD)=L.map (·.aD):=by
 conv=>rhs;rw[tC h]
 simp_all
theorem QL{B:Nat->Nat}(h:L[k]? =some p):(fq B L)[k*2+0]? =some (.pointer (some ⟨(B p.aD),0,none⟩)):=t7 (uJ B) h rfl
theorem GJ{B C:Nat->Nat}:∀{L:List cc},(∀q∈L,B q.aD=C q.aD)->fq B L=fq C L
 | [],_=>rfl
 | q::L,h=>by have d:=GJ (L:=L) λr u=>h r (by simp[u]);rw[fq,fq]at d⊢;rw[Vf,Vf,d,uI,uI,h q cE]
structure CA(sz:Nat)(L:List cc)(aD i:Nat)(y:List cc×Bool):Prop where
  nq:mP (960/sz) L y.1 aD i
  aD:if y.2=true then(L.map (·.aD)).Perm (aD::y.1.map (·.aD))else y.1.map (·.aD)=L.map (·.aD)
structure yy(sz top:Nat)(cd:List Nat)(L:List cc)(y:Nat×Nat×List cc×Bool):Prop where
  m0:lC (960/sz) L y.2.2.1 y.1 y.2.1
  aD:if y.2.2.2=true then(y.2.2.1.map (·.aD)).Perm (y.1::L.map (·.aD))/\y.1∉cd/\y.1<2^top else y.2.2.1.map (·.aD)=L.map (·.aD)/\y.1∈L.map (·.aD)
  i:y.2.1<960/sz
theorem md.m0{sz i:Nat}{L':List cc}(h:md sz L)(g:lC (960/sz) L L' aD i)(C:aD<1048576):md sz L':=by refine⟨h.a6,g.inv h.inv (by have:=h.many;omega),λp d=>?_⟩;cases g with|old A B f u w D E=>subst u;subst w;rcases UQ.1 d with d|d;exact h.aD p (by simp[d]);rcases U0.1 d with rfl|d;exact C;exact h.aD p (by simp[d])|new A B u w D E H N=>subst u;subst w;rcases UQ.1 d with d|d;exact h.aD p (by simp[d]);rcases U0.1 d with rfl|d;exact C;exact h.aD p (by simp[d])
theorem md.nq{sz i:Nat}{L':List cc}(h:md sz L)(g:mP (960/sz) L L' aD i):md sz L':=by refine⟨h.a6,g.inv h.inv,λp d=>?_⟩;cases g with|stay A B f u w C=>subst u;subst w;rcases UQ.1 d with d|d;exact h.aD p (by simp[d]);rcases U0.1 d with rfl|d;exact h.aD ⟨aD,f⟩ cE;exact h.aD p (by simp[d])|gone A B f u w C D=>subst u;subst w;exact h.aD p (by rcases UQ.1 d with d|d<;>simp[d])
theorem KH(C:L[k]? =some p){y:Nat×Bool}(h:vn L ((p.aD:Int)*1024) y)(hs:L.Pairwise λa b=>a.aD<b.aD):y=(k,true):=by obtain⟨d,u,w⟩:=h;grind[Wb]
theorem KI{L:List cc}{y:Nat×Bool}(h:vn L ((aD:Int)*1024) y)(hs:L.Pairwise λa b=>a.aD<b.aD)(an:∀p∈L,p.aD≠aD):(∀p∈L.take y.1,p.aD<aD)/\∀p∈L.drop y.1,aD<p.aD:=by obtain⟨d,u,w⟩:=h;grind[VS]
variable(bd sz:Nat)
theorem Sv(h:(16<=sz/\sz<=512)/\sz %16=0):bL 178 [ae bd,aa sz] be [] (λb:Nat=>ae b) (λ_=>True) (λb=>[mo b bd sz []]):=by apply aG Tryz.func178 Tryz.ntmps178;intro F _;refine J [9,131,253,190,41,518,143,41] ?_;refine aT.known 15 rfl (c:=false) (dk U) ?_;refine J [11,466,158,97] ?_;refine UR rfl (λd=>absurd d U) (λd=>?_);apply J [4,35];refine q rfl rfl (eh (cs:=[.pointer _,.int _ _,.slice _ _ _]) rfl) ?_;refine e rfl ?_;refine e0 (v:=.agg #[_,_,_]) (l:=[.pointer _,.int _ _,.slice _ _ _]) rfl rfl ?_;intro bb;apply J [106];exact br bb trivial ((dH 296 2 _).trans ((nf (f:=λp:cc=>gI 0 (960/sz) p.f) _).trans (ay (⟨λ_=>0,none,0⟩:qa) ⟨h.1,⟨X5,λ_ h=>(by cases h)⟩,λ_ h=>(by cases h)⟩ (bv (bV (ao (ao (aZ _))))))))
theorem Su:bu 178 [ae bd,aa 0] be [] (.pointer none) []:=by apply aG Tryz.func178 Tryz.ntmps178;intro F _;refine J [9,131,253,190,41,522,361,51,137,273] ?_;exact j8
variable(b:Nat)
theorem St(bd sz:Nat)(v:Value)(h:16<=sz/\sz<=512):bu 238 [ae b] be [aj b 293 [ae bd,aa sz,v]] (aa ((960/sz:Nat):Int)) [aj b 293 [ae bd,aa sz,v]]:=by apply aG Tryz.func238 Tryz.ntmps238;intro F _;apply J [1,39,42,67];refine q rfl rfl (V0 (v:=((960/sz:Nat):Int)) (ll rfl rfl U U U) cE) ?_;apply J [30];exact hQ
theorem HD(bd sz aD i:Nat)(w:Value)(d:Nat)(h:i*sz+sz<=960)(C:aD<1048576):bu 174 [ae b,.agg #[ae d,aa ((aD:Int)*1024)],aa i] be [aj b 293 [ae bd,aa sz,w]] (aa ((aD*1024+64+i*sz:Nat):Int)) [aj b 293 [ae bd,aa sz,w]]:=by
 apply aG Tryz.func174 Tryz.ntmps174;intro F _;apply J [1];have u:(i:Int)*(sz:Int)=((i*sz:Nat):Int):=cE
 refine J [25,519] ?_;intro bo;apply J [31];refine cC [0,1,2,3,4,5,6,7,8,9,10] (aF.refl _) ?_;refine J [181,388,15,123] ?_;refine bU rfl rfl rfl (V0 (v:=((i*sz:Nat):Int)) (oa rfl rfl U U) U) ?_;refine bU rfl rfl rfl (V0 (v:=((aD*1024+64+i*sz:Nat):Int)) (io rfl rfl U U) U) ?_;apply J [200,148];exact dw
theorem HC(b bd sz:Nat)(B:Nat->Nat)(L:List cc)(ad:Option Addr)(cap:Nat)(t:Int)(hs:L.Pairwise λa b=>a.aD<b.aD)(u:L.length<=1048576):bL 170 [ae b,aa t] (λF=>∃E,cM F E ad (fq B L)) [aj b 293 [ae bd,aa sz,.slice ad L.length cap]] (λy:Nat×Bool=>.tuple #[aa y.1,.bool y.2]) (λy=>vn L t y) (λ_=>[aj b 293 [ae bd,aa sz,.slice ad L.length cap]]):=by apply aG Tryz.func170 Tryz.ntmps170;intro F ⟨E,d⟩;apply J [1];haveI:bn F ad E (fq B L):=⟨d⟩;apply J [24,184,70,28];apply eQ (KJ B L ad cap t hs u) ⟨_,bn.rd (ad:=ad)⟩;intro y w;apply J [5,93,297,72,63];exact cN y w ai
theorem HE(bd sz:Nat)(L:List cc)(k aD i:Nat)(f:Nat->Bool)(u:L[k]? =some ⟨aD,f⟩)(D:f i=true):bu 123 [ae b,aa ((aD*1024+64+i*sz:Nat):Int)] be [mo b bd sz L] (.tuple #[aa k,aa i,.bool true]) [mo b bd sz L]:=by
 apply aG Tryz.func123 Tryz.ntmps123;intro F _;apply J [1];refine ab.open 0 rfl (λZ V=>?_);obtain⟨B,ad,cap⟩:=Z;have d:=V;apply J [86];dsimp only at d⊢;have E:=d.inv.bd _ (US u) i D;have av:=d.place E;have P:=d.aD _ (US u);have hs:=d.a6;have hm:=d.many;dsimp only at P E;have N:=(UU.1 u).1;have O:=d.len;have ar:=xm B L;have Q:0<(fq B L).length:=U
 have ag:(aD*1024+64+i*sz)/1024=aD:=U
 have an:(aD*1024+64+i*sz) %1024=64+i*sz:=U
 have H:(i*sz) %sz=0:=b2
 have w:(i*sz)/sz=i:=by grind[Nat.mul_div_cancel]
 apply J [24,72,72,101,253,190,97];refine UR rfl (λC=>absurd C U) (λC=>?_);apply J [4,35];refine q rfl rfl (V0 (v:=(aD:Int)) (ll rfl rfl U U U) U) ?_;refine J [461,0] ?_;apply eQ (HC b bd sz B L ad cap ((aD:Int)*1024) d.inv.kr O) ⟨_,bn.rd (ad:=ad)⟩;intro y W;apply J [18];obtain rfl:=KH u W d.inv.kr;dsimp only;apply J [286,184,26];refine q rfl rfl (V0 (v:=((64+i*sz:Nat):Int)) (pX rfl rfl U U) U) ?_;refine q rfl rfl (V0 (v:=((i*sz:Nat):Int)) (o5 rfl rfl U U) U) ?_;apply J [31,8];refine cC [0,1,2,3,4,5,6,7,8,9,10,11,12,13,14,15,16,17,18,19,20,21,22,23,24,25,26,27,28,29,-30,31,32] (ao (ao (aZ _))) ?_;apply J [147,354,147,300];refine eG rfl rfl rfl rfl (lss rfl rfl) ?_;apply J [220,147];refine b6.known 33 rfl (b':=false) (dk U) ?_;apply J [300,318,299,472,164];refine eG rfl rfl rfl rfl (V0 (v:=(0:Int)) (pX rfl rfl U U) (by rw[show((i*sz:Nat):Int) %(sz:Int)=((i*sz %sz:Nat):Int)by simp,H];rfl)) ?_;refine eG rfl rfl rfl rfl (sQ rfl rfl) ?_;apply J [220,147];refine b6.known 42 rfl (b':=false) (dk U) ?_;apply J [318,299,351,164,300];refine eG rfl rfl rfl rfl (gP (i:=k) 296 2 rfl rfl rfl N Q) ?_;refine J [387] ?_;refine eG rfl rfl rfl rfl (dC rfl rfl (QL u)) ?_;apply J [300,318,299,472,164];refine eG rfl rfl rfl rfl (V0 (v:=(i:Int)) (ll rfl rfl U U U) (by rw[show((i*sz:Nat):Int)/(sz:Int)=((i*sz/sz:Nat):Int)by simp,w])) ?_;refine b6.bg (fV 2 rfl (sX u)) ?_;apply J [293];apply aq (Dg (B aD) (960/sz) f i U);refine J [270] ?_;rw[D];apply J [473,220,74,73,44,514,15,15,123];refine bU rfl rfl rfl (V0 (v:=(i:Int)) (ll rfl rfl U U U) (by rw[show((i*sz:Nat):Int)/(sz:Int)=((i*sz/sz:Nat):Int)by simp,w])) ?_;apply J [315,315,244,148];exact b4.i () [_,_,_] ⟨rfl,rfl,rfl,trivial⟩ rfl trivial (ay (⟨B,ad,cap⟩:qa) d (bv (bv (cQ 0 0 ⟨aD,f⟩ rfl rfl rfl (λ_ _=>rfl) (sX u).symm (ao (aZ _))))))
theorem Ss(bd sz:Nat)(L:List cc)(k aD i:Nat)(f:Nat->Bool)(u:L[k]? =some ⟨aD,f⟩)(d:f i=true):bu 82 [ae b,aa ((aD*1024+64+i*sz:Nat):Int)] be [mo b bd sz L] (.bool true) [mo b bd sz L]:=by apply aG Tryz.func82 Tryz.ntmps82;intro F _;apply J [1,135,32];apply aq (HE b bd sz L k aD i f u d);apply J [5,268,297,72,184,56,63];exact hQ
def Bd(sz:Nat):Option (Nat×Nat×List cc×Bool)->Int
  | some y=>((y.1*1024+64+y.2.1*sz:Nat):Int)
  | none=>0
def tG(L:List cc):Option (Nat×Nat×List cc×Bool)->List cc
  | some y=>y.2.2.1
  | none=>L
def tD(cd:List Nat):Option (Nat×Nat×List cc×Bool)->List Nat
  | some y=>if y.2.2.2=true then y.1::cd else cd
  | none=>cd
def JX(sz top:Nat)(cd:List Nat)(L:List cc):Option (Nat×Nat×List cc×Bool)->Prop
  | some y=>yy sz top cd L y
  | none=>2^top<=cd.length
theorem Sw(bd top sz:Nat)(L:List cc)(cd:List Nat)(b0:top<=20)(ci:∀q∈L,q.aD∈cd):bL 180 [ae b] c7 [mo b bd sz L,lg bd top cd] (λy:Option (Nat×Nat×List cc×Bool)=>.tuple #[aa (Bd sz y),aa (qv y)]) (λy=>JX sz top cd L y) (λy=>[mo b bd sz (tG L y),lg bd top (tD cd y)]):=by
 apply aG Tryz.func180 Tryz.ntmps180;intro F a2;apply J [13];haveI:cz F:=⟨a2⟩;refine ab.open 0 rfl (λb9 b7=>?_);obtain⟨B,ad,cap⟩:=b9;have w:=b7;apply J [85];dsimp only at w⊢;have hs:=w.a6;have hm:=w.many;have aS:=w.len;have a8:=xm B L;have be:=Ba B L;apply J [24,242,71,118,70,390,114];refine ab.loop (ι:=Nat) (λj=>j<=L.length/\∀N H,N<j->L[N]? =some H->wp (960/sz) H) (λj=>[(0,ae b),(17,.slice ad L.length cap),(18,aa L.length),(19,aa ((j:Nat):Int))]) (λj=>ah [aj b 293 [ae bd,aa sz,.slice ad L.length cap],a1 296 2 ad L.length cap (fq B L),b5 (λp:cc=>gI (B p.aD) (960/sz) p.f) L,lg bd top cd,F]) (λj=>L.length-j) 0 ⟨UX _,λN H h=>absurd h (Nat.not_lt_zero _)⟩ bC (ao (ao (ao (ao (ao (aZ _)))))) ?_;rintro j ⟨bu,eI⟩ ct;dsimp only[cr]at bu eI⊢;apply J [43];apply UR rfl<;>intro cj;have bG:j<L.length:=U
 obtain⟨⟨aD,f⟩,D⟩:∃hj,L[j]? =some hj:=⟨L[j],UO bG⟩;have co:0<(fq B L).length:=U
 have P:=w.aD _ (US D);dsimp only at P;refine J [243,520] ?_;refine q rfl rfl (gv (vs:=[_,_]) 2 rfl rfl (xn D) rfl am) ?_;refine J [0,523] ?_;intro cl;apply J [65,100,61];refine aT.bg (fV 3 rfl (sX D)) ?_;refine e rfl ?_;apply a7 (Df (B aD) (960/sz) f false 0 U U);intro y C;apply J [16];cases y with|none=>?_|some i=>?_
 have C:tq f false (960/sz) 0:=C;dsimp only[qP];refine J [60,410,108,112] ?_;exact⟨rfl,(j+1),⟨by omega,λN H ch ag=>by by_cases e:N=j;subst e;rw[D]at ag;cases ag;intro i2 bp;have:=C i2 (UX _) bp;simpa using this;exact eI N H U ag⟩,U,⟨rfl,rfl,rfl,rfl,trivial⟩,(c0 (c0 (cQ 0 0 ⟨aD,f⟩ rfl rfl rfl (λ_ _=>rfl) (sX D).symm (bV (bV (aZ _))))))⟩;have C:yp f false (960/sz) 0 i:=C;dsimp only[qP];have Q:=C.2.1;have bq:=C.2.2.1;have W:=w.place Q;have bY:kO f i true=e4 f i:=by grind[Bx]
 have O:lC (960/sz) L (L.take j++⟨aD,e4 f i⟩::L.drop (j+1)) aD i:=.old _ _ f (tC D) rfl bq Q;apply J [60,410,3];refine UR rfl (λaI=>?_) (λaI=>absurd U aI);refine J [111,66] ?_;intro an;refine e rfl ?_;refine aL (qr (B aD) (960/sz) f i true (cK an) 1 Q U) rfl ev.p ⟨_,bn.rd (ad:=some ⟨an,0,none⟩)⟩ ?_;intro _ _;apply J [78,3,36,223,28];apply aq (HD b bd sz aD i (.slice ad L.length cap) (B aD) W P);apply J [78,141,216];rw[bY];have V:=w.m0 O P;exact cN (some (aD,i,L.take j++⟨aD,e4 f i⟩::L.drop (j+1),false)) ⟨O,⟨GU _ D,U3.2 ⟨_,US D,rfl⟩⟩,Q⟩ (ay (⟨B,ad,cap⟩:qa) V (by dsimp only[tG,tD];rw[FB _ D,GK _ _ D];exact(ao (eL (cQ 0 1 ⟨aD,e4 f i⟩ rfl rfl rfl (λ_ _=>rfl) List.perm_middle.symm ai)))));refine ab.nl 1 rfl (λ_ bc a9=>?_);obtain rfl:j=L.length:=U
 have bh:∀H∈L,wp (960/sz) H:=λH h=>(by grind[VS]);apply J [21,40,0];apply a7 (C8 bd top cd);intro cb aY;apply J [10];cases cb with|none=>?_|some aD=>?_
 have bi:2^top<=cd.length:=aY;dsimp only[u9,qv,mR];apply J [125,34,55,368];exact cN none bi (ay (⟨B,ad,cap⟩:qa) w ai);have P:aD<2^top/\aD∉cd:=aY;dsimp only[u9,qv,mR];obtain⟨W,bQ⟩:=P;have bW:=oZ (k:=0) b0;rw[Nat.sub_zero]at bW;have aV:aD<1048576:=U
 have bN:∀q∈L,q.aD≠aD:=cp
 have cg:kO (λ_=>false) 0 true=λj=>decide (j=0):=(by trivial);apply J [125,198,107];apply aq (St b bd sz (.slice ad L.length cap) hs);apply J [10,0];refine aL (Dh (960/sz) U) rfl (eu _) trivial ?_;intro u _;apply J [14,2];refine q rfl rfl (eh (cs:=[.pointer _,.int _ _]) rfl) ?_;refine J [0,523] ?_;intro ce;refine J [65,100,173,149] ?_;intro ar;refine e rfl ?_;refine aL (qr u (960/sz) (λ_=>false) 0 true (cK ar) 1 U U) rfl ev.p ⟨_,bn.rd (ad:=some ⟨ar,0,none⟩)⟩ ?_;intro _ _;apply J [78,3,32];refine aL (HC b bd sz B L ad cap ((aD:Int)*1024) w.inv.kr aS) rfl ev.p ⟨_,bn.rd (ad:=ad)⟩ ?_;intro y C;apply J [78];obtain⟨bz,bl⟩:=KI C w.inv.kr bN;have b8:=C.1;clear C;generalize y.2=cq;generalize y.1=d at*;apply J [286,72,101];refine ab.draw _ [11] [0,1,2,3,4,5,6,-7,-8,9,10,-11] aM aM (ao (bv (aZ _))) ?_;apply J [77,185,15,229,12];refine bs (E:=296) (sz:=2) (cs:=[ae u,aa ((aD:Int)*1024)]) rfl ?_;intro a0;refine J [45] ?_;apply a7 (QO ad (cK a0) cap 1 L.length d (fq B L) [ae u,aa ((aD:Int)*1024)] b8 aS a8 rfl bc a9 U be rfl);intro z _;refine J [292,6,88,341,90,345,74,36,223,0] ?_;refine aL (HD b bd sz aD 0 (.slice z.1 (L.length+1) z.2) u U aV) rfl (dY 0 rfl (eu _)) trivial ?_;intro _ _;apply J [78,69];have O:lC (960/sz) L (L.take d++⟨aD,λj=>decide (j=0)⟩::L.drop d) aD 0:=.new _ _ (VF _ _).symm rfl rfl bh bz bl;have V:=w.m0 O aV;have a3:(L.take d++⟨aD,λj=>decide (j=0)⟩::L.drop d).length=L.length+1:=cp
 have ea:((L.take d++⟨aD,λj=>decide (j=0)⟩::L.drop d).map (·.aD)).Perm (aD::L.map (·.aD)):=(by grind[VF]);have ck:∀q∈L,(λx=>if x=aD then u else B x) q.aD=B q.aD:=b2
 have ax:∀M:List cc,(∀q∈M,q∈L)->fq B M=fq (λx=>if x=aD then u else B x) M:=λM bH=>(by grind[GJ]);have a5:(fq B L).take (d*2)++[ae u,aa ((aD:Int)*1024)]++(fq B L).drop (d*2)=fq (λx=>if x=aD then u else B x) (L.take d++⟨aD,λj=>decide (j=0)⟩::L.drop d):=(by rw[GL,GI,xl,ax _ (λq Z=>List.mem_of_mem_take Z),ax _ (λq Z=>List.mem_of_mem_drop Z),Vj];congr 1;rw[fq,fq,Vf,uI,aw rfl]);have av:gI u (960/sz) (kO (λ_=>false) 0 true)=(λp:cc=>gI ((λx=>if x=aD then u else B x) p.aD) (960/sz) p.f) ⟨aD,λj=>decide (j=0)⟩:=b2
 have aB:∀q∈L,(λp:cc=>gI (B p.aD) (960/sz) p.f) q=(λp:cc=>gI ((λx=>if x=aD then u else B x) p.aD) (960/sz) p.f) q:=b2
 have a4:((⟨aD,λj=>decide (j=0)⟩:cc)::L).Perm (L.take d++⟨aD,λj=>decide (j=0)⟩::L.drop d):=(by(conv=>lhs;rw[<-VF d L]);exact List.perm_middle.symm);generalize cn:(λp:cc=>gI ((λx=>if x=aD then u else B x) p.aD) (960/sz) p.f)=G at av aB;exact cN (some (aD,0,L.take d++⟨aD,λj=>decide (j=0)⟩::L.drop d,true)) ⟨O,⟨ea,bQ,W⟩,cD⟩ (ay (⟨(λx=>if x=aD then u else B x),z.1,z.2⟩:qa) V (by dsimp only[tG,tD];rw[a3,<-a5,cn];exact(ao (ao (cQ 0 3 ⟨aD,λj=>decide (j=0)⟩ rfl rfl av aB a4 ai)))))
theorem Sr(bd sz:Nat)(L:List cc)(k aD i:Nat)(f:Nat->Bool)(d:L[k]? =some ⟨aD,f⟩)(C:f i=true)(top:Nat)(cd:List Nat)(ar:aD∈cd):bL 240 [ae b,aa ((aD*1024+64+i*sz:Nat):Int)] be [mo b bd sz L,lg bd top cd] (λ_:List cc×Bool=>aa 0) (λy=>CA sz L aD i y) (λy=>[mo b bd sz y.1,lg bd top (if y.2=true then cd.erase aD else cd)]):=by
 apply aG Tryz.func240 Tryz.ntmps240;intro F _;apply J [13,39,42,32];apply aq (HE b bd sz L k aD i f d C);apply J [7,268,297,72,72,101,56,89,108];refine ab.open 0 rfl (λaS aB=>?_);obtain⟨B,ad,cap⟩:=aS;have u:=aB;apply J [85];dsimp only at u⊢;refine ab.nl 1 rfl (λ_ V Q=>?_);have H:=u.inv.bd _ (US d) i C;have av:=u.aD _ (US d);have hm:=u.many;dsimp only at av H;have ag:=(UU.1 d).1;have an:=u.len;have P:=xm B L;have W:=Ba B L;have a2:0<(fq B L).length:=U
 have ax:kO f i false=e4 f i:=by grind[Bx]
 refine J [4,70,2,520] ?_;refine q rfl rfl (gv (vs:=[_,_]) 2 rfl rfl (xn d) rfl am) ?_;refine J [0,523] ?_;intro aV;refine J [65,100,61,66] ?_;intro E;refine aT.bg (fV 4 rfl (sX d)) ?_;refine e rfl ?_;apply eE (qr (B aD) (960/sz) f i false (cK E) 1 H U) ⟨_,bn.rd (ad:=some ⟨E,0,none⟩)⟩;apply J [78];rw[ax];apply J [29,111,0];apply a7 (KF (B aD) (960/sz) (e4 f i) U);intro c a0;apply J [78,246];apply UR rfl<;>intro aY;have aI:∀j,e4 f i j=false:=b2
 have w:mP (960/sz) L (L.take k++L.drop (k+1)) aD i:=.gone _ _ f (tC d) rfl C λj _ Z=>by have:=aI j;rwa[e4,al Z]at this
 have D:=u.nq w;have N:(L.take k++L.drop (k+1)).length=L.length-1:=cp
 have O:(fq B L).take (k*2)++(fq B L).drop ((k+1)*2)=fq B (L.take k++L.drop (k+1)):=by rw[GL,GI,xl]
 have ea:(L.map (·.aD)).Perm (aD::(L.take k++L.drop (k+1)).map (·.aD)):=(by have:=(sX d).map (·.aD);trivial);refine ab.seq ?_;refine cC [0,1,2,3,4,5,-6] (c0 (c0 (aZ _))) ?_;apply J [49,274];apply aq (C6 bd top cd aD ar);refine J [292,110,38,172,54,120,151,0] ?_;apply aq (QN ad cap L.length k (fq B L) ag an P V Q W);apply J [78,80,290,281,119];exact br (L.take k++L.drop (k+1),true) ⟨w,ea⟩ (ay (⟨B,ad,cap⟩:qa) D (by dsimp only;rw[N,<-O];exact ai));have w:mP (960/sz) L (L.take k++⟨aD,e4 f i⟩::L.drop (k+1)) aD i:=.stay _ _ f (tC d) rfl C;have D:=u.nq w;apply J [4,209];exact br (L.take k++⟨aD,e4 f i⟩::L.drop (k+1),false) ⟨w,GU _ d⟩ (ay (⟨B,ad,cap⟩:qa) D (by dsimp only;rw[FB _ d,GK _ _ d];exact(eL (eL (cQ 0 0 ⟨aD,e4 f i⟩ rfl rfl rfl (λ_ _=>rfl) List.perm_middle.symm ai)))))
end Go.Proofs.YtglgidjhoncphaaGreatDoor
