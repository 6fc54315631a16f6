/- Proved here: contracts of functions of this program, under the premises that each theorem names. -/
import Derived.Lib.AppendZerosOnto
import Derived.Lib.Overlaps
import Derived.Test.YtglgidjhoncphaaGreatDoorYm
set_option linter.all false
set_option maxRecDepth 4000
set_option maxHeartbeats 4000000
open List renaming length_append->mp,getElem?_eq_getElem->Uo,mem_append->Uq,mem_of_getElem?->Us,getElem?_eq_some_iff->Uz,mem_cons->UB,mem_map->UE,replicate->UK,flatMap_cons->UN,append_assoc->UT,take_of_length_le->U1,take_append_drop->Vd,nil_append->Vn,getElem?_of_mem->Vo,length_take->VC,drop_eq_nil_of_le->VE,pairwise_iff_getElem->VJ,take_append_of_le_length->VS,drop_append->WP
open Go.QM.ab renaming aA->Ur
open Nat renaming zero_le->Uv,le_refl->Uw,mul_le_mul_right->U0,add_mul->Vf,min_eq_left->Wl
open Go.Result renaming andThen_ok->UA
open Go.Sem renaming run_bind->UL,run_pure->U2
open Go.Builtin renaming firstCells->UQ,zeroCells->UR,lenOf->WX
open Go.Value renaming oneCell'->UY,pointer->Xr
open Go.Instr renaming sliceBound->Vk
open Go.QM.bz renaming to->Vx
open List.Pairwise renaming nil->XD
namespace Go.QM
open Go
section
variable {r : Option Nat} {P : Program} {N : Nat} {ops : Array Oper} {l : List Oper} {Q : ff} {ag : Env} {aQ : List Deferred} {A : ax} {K : Value → ax → Prop}
variable {d : Option Tmp} {ty : TypeId} {ps : String} {bh : Array Edge} {g : Option (Nat × Bool)}
variable {t t' : TypeId} {x y z u : Operand}
variable{hs rest:List ax}
theorem Kx{f:FuncId}{w:Operand}{vs:List Value}{u:List Operand}{O:Array TypeId}{rd:ax->Prop}{pre:List ax}{Y:Type}{res:Y->Value}{C:Y->Prop}{post:Y->List ax}
    (spec:fw P f vs rd pre res C post) (E:bb ag w=.func (.func f) #[] #[]) (D:lE ag u=vs) (H:lq hs pre rest) (N:rd (ah rest)) (k:∀y,C y->K (res y) (ah (post y++rest))):
    cj r P ag ⟨d,.call ⟨.value w,u.toArray,O⟩,ty,ps,bh,g⟩ (ah hs) K:=
  kR (lb:=[]) (vs:=vs) (by simpa using spec) E D H N k
variable{ad:Option Addr}{cap n j:Nat}
theorem RO(E sz:Nat){i mx:Nat}(Q:hc P t E sz=true)(V:bb ag x=.slice ad n cap)(W:bb ag y=aa i)(Z:bb ag z=aa j)(hu:bb ag u=aa mx)(H:i<=j)(N:j<=mx)(O:mx<=cap):
    bz P ag ⟨d,.slice t x (some y) (some z) (some u),ty,ps,bh,g⟩ A (.slice (dI ad mx i sz) (j-i) (mx-i)):=
  λw _=>by
   have ey:(Vk (aa mx) cap .slice3Acap).run P w=.ok mx w:=by simp[Vk,asIntOf,O]
   have C:(Vk (aa j) mx .slice3B).run P w=.ok j w:=by simp[Vk,asIntOf,N]
   have D:(Vk (aa i) j .slice3C).run P w=.ok i w:=by simp[Vk,asIntOf,H]
   simp[execOp,Instr.sliceAt,Instr.slice,Instr.sliceBounds,V,W,Z,hu,hV Q,ey,C,D,dI]
theorem RT(E sz:Nat){i:Nat}(u:hc P t E sz=true)(w:bb ag x=.slice ad n cap)(C:bb ag y=aa i)(D:bb ag z=aa j)(H:i<=j)(N:j<=cap):
    bz P ag ⟨d,.slice t x (some y) (some z) none,ty,ps,bh,g⟩ A (.slice (dI ad cap i sz) (j-i) (cap-i)):=by have h:=xw (P:=P) (A:=A) (d:=d) (ty:=ty) (ps:=ps) (bh:=bh) (g:=g) E sz u w C D U U U;trivial
theorem Kk(E sz:Nat)(u:hc P t E sz=true)(C:bb ag x=.slice ad n cap):
    bz P ag ⟨d,.call ⟨.builtin .cap,#[x],#[t]⟩,ty,ps,bh,g⟩ A (aa cap):=
  λw _=>by simp[execOp,resolve,invoke,builtin,Builtin.cap_,C,hV u,goInt]
variable{sz:Nat}
theorem vL{E au m D:Nat}{C:Option Addr}{cs u N:List Value}(k:Nat)(a5:hc P t E sz=true)(ao:bb ag x=.slice (dI ad cap j sz) (n-j) (cap-j))(a7:bb ag y=.slice C m D)
    [H:o8 hs ad E sz n cap cs rest] [hr:bl (ah hs) C au u] (be:j<n) (hm:m*sz<=u.length) (a0:Nat.min m (n-j)=k) (O:0<sz) (ax:(u.take (k*sz)).all UY=true) (Z:dJ (j*sz) (u.take (k*sz)) cs=N)
    (a8:K (aa k) (ah (aT E sz ad n cap N::rest))):cj r P ag ⟨d,.call ⟨.builtin .copy,#[x,y],#[t,t']⟩,ty,ps,bh,g⟩ (ah hs) K:=by
 refine cj.run rfl λw Q=>?_;have aK:cs.length=n*sz:=(by obtain⟨i,H⟩:=H.tk;obtain⟨bd,bo,a,b,a9,rfl,O,bm⟩:=Q.bf (fC H);exact(mn O).1);have aH:0<cs.length:=by rw[aK];exact Nat.mul_pos U O
 obtain⟨af,pre,ar,rfl,f2,f3,f4,f5,V⟩:=xx Q H.tk aH;have aA:w.heap[af]? =some (.cells (pre++cs++ar).toArray E (0,0)):=(iw (mY af E _)).sat V;have a2:k<=m:=cr
 have bk:k<=n-j:=cr
 have a3:k*sz<=u.length:=Nat.le_trans (U0 _ a2) hm;have aC:(u.take (k*sz)).length=k*sz:=b2
 have W:j*sz+(u.take (k*sz)).length<=cs.length:=(by rw[aC,f2,<-Vf];exact U0 _ U);have an:=uN (P:=P) (off:=pre.length+j*sz) aA Ak ax;rw[xz W,Z]at an;have a4:dI (some (⟨af,pre.length,none⟩:Addr)) cap j sz=some ⟨af,pre.length+j*sz,none⟩:=(by rw[dI,al U];simp[ix]);rw[a4]at ao;have aX:UQ sz k (.slice C m D)=UQ sz k (.slice C k D):=by cases C<;>rfl
 have aQ:(UQ sz k (.slice C m D)).run P w=.ok (u.take (k*sz)).toArray w:=by rw[aX];exact qo (hr.rd.sat Q) a3
 refine⟨aa k,w.setRow af (pre++N++ar).toArray,_,.inl ?_,⟨rfl,rfl,rfl,by simp⟩,xy V f2 f3 f4 f5 (by rw[<-Z];exact uL W),a8⟩;simp[execOp,resolve,invoke,builtin,Builtin.copy_,ao,a7,hV a5,WX,a0,aQ,an,goInt]
theorem JD{E i C:Nat}{cs D:List Value}(bytes:Nat)(a0:hc P t E sz=true)(a2:hc P t' E sz=true)(aC:rb P E sz bytes=true)(a3:bb ag x=.slice ad i cap)(a4:bb ag y=.slice (dI ad cap j sz) (n-j) C)
    [u:o8 hs ad E sz n cap cs rest] (a9:i<=j) (aK:j<=n) (au:0<n) (H:0<sz) (O:cs.all UY=true) (an:dJ (i*sz) (cs.drop (j*sz)) cs=D)
    (k:K (.slice ad (i+(n-j)) cap) (ah (aT E sz ad n cap D::rest))):cj r P ag ⟨d,.call ⟨.builtin .append,#[x,y],#[t,t']⟩,ty,ps,bh,g⟩ (ah hs) K:=by
 refine cj.run rfl λw N=>?_;have W:cs.length=n*sz/\n<=cap:=(by obtain⟨i,u⟩:=u.tk;obtain⟨a8,bl,a,b,a5,rfl,H,be⟩:=N.bf (fC u);exact⟨(mn H).1,(mn H).2.1⟩);have aQ:cM (ah hs) E (dI ad cap j sz) (cs.drop (j*sz)):=(by obtain⟨i,u⟩:=u.tk;exact Ck (vk (Dw i u) (yc E sz ad n cap cs)) W.1 aK W.2);have aA:0<cs.length:=b2
 obtain⟨inf,z0,bd,bm,bk,a7,bo⟩:=tJ aC;obtain⟨af,pre,ar,rfl,f2,f3,f4,f5,Q⟩:=xx N u.tk aA;have ax:w.heap[af]? =some (.cells (pre++cs++ar).toArray E (0,0)):=(iw (mY af E _)).sat Q;have V:(cs.drop (j*sz)).length=(n-j)*sz:=by grind[Nat.sub_mul]
 have aX:i+(n-j)<=cap:=U
 have Z:i*sz+(cs.drop (j*sz)).length<=cs.length:=by rw[V,f2,<-Vf];exact U0 _ U
 have ao:=uN (P:=P) (off:=pre.length+i*sz) ax (vs:=cs.drop (j*sz)) Ak (by rw[List.all_eq_true]at O⊢;exact λv hv=>O v (List.mem_of_mem_drop hv));rw[xz Z,an]at ao;have aH:(UQ sz (n-j) (.slice (dI (some ⟨af,pre.length,none⟩) cap j sz) (n-j) C)).run P w=.ok (cs.drop (j*sz)).toArray w:=(by have:=qo (P:=P) (w:=w) (sz:=sz) (m:=n-j) (c:=C) (aQ.sat N) (by rw[V];exact Uw _);grind);refine⟨.slice (some ⟨af,pre.length,none⟩) (i+(n-j)) cap,w.setRow af (pre++D++ar).toArray,_,.inl ?_,⟨rfl,rfl,rfl,by simp⟩,xy Q f2 f3 f4 f5 (by rw[<-an];exact uL Z),k⟩;simp only[execOp,resolve,invoke,builtin,Builtin.append_,List.map_toArray,List.map_cons,List.map_nil,UL,U2,UA,a3,a4,List.getElem?_toArray,List.getElem?_cons_zero,List.getElem?_cons_succ,hV a0,hV a2,WX,Bool.false_eq_true,if_false];rw[aw aX];simp only[UL,Bool.not_false,if_true,aH,UA,ix,ao,U2]
theorem JE{E i k V:Nat}{cs zs:List Value}{z0:Value}(bytes:Nat)(N:hc P t E sz=true)(O:sw P t' .i64=true)(ao:rb P E sz bytes=true)(bd:lg P E=some z0)(a8:bb ag x=.slice ad i cap)(a9:bb ag y=aa k)
    [hr:bl (ah hs) ad V cs] (hm:i*sz<=cs.length) (W:0<k) (a5:0<sz) (D:cap<i+k) (Z:(i+k)*bytes<=140737488355328) (aC:i+k<=maxLen) (bm:(UK k z0.cells.toList).flatten=zs)
    (a2:∀b u,K (.slice (cL b) (i+k) u) (ah (aT E sz (cL b) (i+k) u (cs.take (i*sz)++zs)::hs))):cj r P ag ⟨d,.call ⟨.builtin .append,#[x,y],#[t,t']⟩,ty,ps,bh,g⟩ (ah hs) K:=by
 obtain⟨inf,z,aA,aQ,aK,C,be⟩:=tJ ao;have a0:z=z0:=by grind[lg]
 subst a0;refine cj.run rfl λw H=>?_;have hold:(UQ sz i (.slice ad i cap)).run P w.drew=.ok (cs.take (i*sz)).toArray w.drew:=qo (hr.rd.sat (w:=w.drew) H) hm;have a4:maxLen=9223372036854775807:=rfl;have Q:P.underlying t=some (.slice E)/\P.underlying t'=some (.int .i64):=(by constructor;(·unfold hc at N;split at N;all_goals simp_all);·unfold sw at O;split at O;all_goals simp_all);have au:=grownCap_ge w (i+k) cap E;have an:=grownCap_le_maxLen w (i+k) cap E aC;have ar:=growslice_fits (need:=i+k) (old:=cap) (bytes:=bytes) D Z;have a3:k*bytes<=(i+k)*bytes:=cr
 have a7:=Lib.run_append_grow_zeros (P:=P) w t t' ty E inf z .i64 .i64 Q.1 Q.2 aA aQ ad i cap (cs.take (i*sz)) (by rw[aK];exact hold) k W U D U (by rw[C];omega) (by rw[C];exact ar);refine⟨.slice (cL w.heap.size) (i+k) (grownCap w (i+k) cap E),w.drew.alloc (.cells ((cs.take (i*sz)).toArray++UR z.cells k++UR z.cells (grownCap w (i+k) cap E-(i+k))) E),_,.inl ?_,?_,?_,a2 w.heap.size (grownCap w (i+k) cap E)⟩;grind[execOp,resolve,invoke,builtin,UL,U2,UA];exact⟨rfl,rfl,rfl,by simp⟩;have bk:(UR z.cells k).toList=zs:=(by grind[B5,UR]);have aX:zs.length=k*sz:=by grind[size_zeroCells]
 refine(oP _ (show sat w.drew (ah hs)from H)).bf (dP (h1 λh ax=>?_) (aF.refl _));refine⟨([],(UR z.cells (grownCap w (i+k) cap E-(i+k))).toList),⟨rfl,?_,au,an,?_⟩,?_⟩;grind;have aH:(UR z.cells (grownCap w (i+k) cap E-(i+k))).toList.length=(grownCap w (i+k) cap E-(i+k))*sz:=by grind[size_zeroCells]
 dsimp only;rw[mp,VC,aX,aH,Wl hm,<-Vf,<-Vf];simp_all;simp only[aj];have e:([]++(cs.take (i*sz)++zs)++(UR z.cells (grownCap w (i+k) cap E-(i+k))).toList).toArray=(cs.take (i*sz)).toArray++UR z.cells k++UR z.cells (grownCap w (i+k) cap E-(i+k)):=b2;rw[e];exact ax
theorem Qd{bP:List ax}{f:FuncId}{fn:Func}{S R E bD a7 FH c2 ao d1 ar d2:Nat}{W Z:Option Addr}{N O:List Value}(bl:P.funcs[f]? = some fn)(bo:(fn.name == "runtime.NumGoroutine") = false)(bk:fn.body.isNone = true)(au:Extern.findNext fn = none)
    (he:Extern.find fn=some (Extern.SlicesOverlaps.overlaps #[S,S] #[R])) (C:hc P S E sz=true) (Q:lE ag [x,y]=[.slice W ao d1,.slice (dI Z c2 j sz) ar d2]) (i1:Nat)
    (bd:eT i1 hs=some (aT E sz W bD a7 N,rest)) (an:∃q,eT q rest=some (aT E sz Z FH c2 O,bP)) (fT:0<N.length) (ha:0<O.length) (ca:j<c2) {bX:Array TypeId}
    (k:K (.bool false) (ah hs)):cj r P ag ⟨d,.call ⟨.value (.func f),#[x,y],bX⟩,ty,ps,bh,g⟩ (ah hs) K:=by refine cj.run rfl λw aQ=>⟨.bool false,w,_,.inl ?_,fr.refl w,aQ,k⟩;obtain⟨q,an⟩:=an;obtain⟨b9,a0,a,b,aA,rfl,aC,be⟩:=aQ.bf (fC bd);obtain⟨bZ,aB,a2,bw,b5,a8,aH,b6⟩:=fC an b be;cases W with|none=>obtain⟨⟨_,_,e⟩,_⟩:=aC;rw[e]at fT;simp at fT|some bE=>(cases Z with|none=>obtain⟨⟨_,_,e⟩,_⟩:=aH;rw[e]at ha;simp at ha|some bI=>obtain⟨⟨V,a4⟩,⟨f1,-,-,-,-⟩,g1⟩:=aC;obtain⟨⟨D,a5⟩,⟨f2,-,-,-,-⟩,g2⟩:=aH;obtain⟨H,cc,s1⟩:=bE;obtain⟨u,cd,s2⟩:=bI;simp only[Addr.mk.injEq,true_and]at f1 f2;obtain⟨rfl,rfl⟩:=f1;obtain⟨rfl,rfl⟩:=f2;dsimp only at g1 g2;(have bO:a H=some (.cells (V++N++a4).toArray E (0,0)):=by rw[g1];simp);have a3:b u=some (.cells (D++O++a5).toArray E (0,0)):=aB _ _ (by rw[a8];exact qs a2 bw _ _ (by rw[g2];simp));have br:H≠u:=λe=>(by subst e;rcases aA H with h|h;rw[bO]at h;cases h;rw[a3]at h;cases h);have cG:=a0 _ _ (qs a b _ _ bO);have bY:=a0 _ _ (tX aA _ _ a3);(have a9:dI (some (⟨u,D.length,none⟩:Addr)) c2 j sz=some ⟨u,D.length+j*sz,none⟩:=by rw[dI,al U];simp[ix]);rw[a9]at Q;have aX:P.underlying S=some (.slice E)/\∀w,(Go.sizeOf E).run P w=.ok sz w:=(by refine⟨?_,λw=>(hV C w).2⟩;unfold hc at C;split at C;rename_i e h;simp only[Bool.and_eq_true]at C;rw[h];congr 2;exact Nat.eq_of_beq_eq_true C.1;cases C);have bx:=Lib.run_overlaps_apart (P:=P) w S R E aX.1 sz aX.2 ⟨H,V.length,none⟩ ⟨u,D.length+j*sz,none⟩ ao d1 ar d2 br E E (V++N++a4).length (D++O++a5).length (by simp[World.shape?,cG]) (by simp[World.shape?,bY]) (by simp only[mp];omega) (by simp[World.frozen?,cG]) (by simp[World.frozen?,cG]);have aK:=run_callFunc_extern bl bo bk au he #[.slice (some ⟨H,V.length,none⟩) ao d1,.slice (some ⟨u,D.length+j*sz,none⟩) ar d2] w;rw[bx]at aK;simp only[lE,List.cons.injEq,and_true]at Q;have bm:bb ag (.func f)=.func (.func f) #[] #[]:=rfl;simp[execOp,resolve,Deferred.ofValue,invoke,bm,Q.1,Q.2,aK])
end
theorem Hj{l vs:List Value}{a:Nat}(h:l.length<=a+vs.length):dJ a vs l=l.take a++vs:=by grind[dJ,VE]
theorem RY{E sz n cap:Nat}{ad:Option Addr}{cs:List Value}{m:Nat}(h:n+m<=cap):aF (aT E sz ad n cap cs) (fj λe:List Value=>pure' (e.length=m*sz) (ah [aT E sz ad (n+m) cap (cs++e)])):=by
 cases ad with
 | none=>
   rintro u ⟨⟨rfl,rfl,rfl⟩,w⟩
   obtain rfl:m=0:=by omega
   obtain⟨C,s,k⟩:=pL (A:=aT E sz none 0 0 ([]++[])) u ⟨⟨rfl,rfl,rfl⟩,w⟩
   exact⟨C,s,[],by simp,k⟩
 | some p=>
   intro u ⟨⟨pre,d⟩,⟨H,N,W,Q,V⟩,w⟩
   dsimp only at H N V w
   have O:(n+m)*sz<=cap*sz:=U0 _ h
   have D:(d.take (m*sz)).length=m*sz:=by rw[VC];rw[Vf]at O;omega
   have key:aT E sz (some p) (n+m) cap (cs++d.take (m*sz)) u:=
     ⟨(pre,d.drop (m*sz)),⟨H,by rw[mp,D,N,Vf],h,Q,by dsimp only;rw[mp,D,List.length_drop];rw[Vf]at O;omega⟩,by
       dsimp only
       have P:pre++(cs++d.take (m*sz))++d.drop (m*sz)=pre++cs++d:=by simp[UT,Vd]
       rw[P];exact w⟩
   obtain⟨C,s,k⟩:=pL (A:=aT E sz (some p) (n+m) cap (cs++d.take (m*sz))) u key
   exact⟨C,s,d.take (m*sz),D,k⟩
end Go.QM
namespace Go.Proofs.YtglgidjhoncphaaGreatDoor
open Go Go.QM
def us(B:Nat->Nat)(p:cf):List Value:=[.pointer (some ⟨(B p.aD),0,none⟩),.int .i64 ((p.aD:Int)*1024)]
variable(B:Nat->Nat)
theorem ut(p:cf):(us B p).length=2:=rfl
def fp(B:Nat->Nat)(L:List cf):List Value:=L.flatMap (us B)
theorem w8(L:List cf):(fp B L).length=L.length*2:=kp (ut B) L
theorem AS(B:Nat->Nat):∀L:List cf,(fp B L).all UY=true
 | []=>rfl
 | p::L=>by have:=AS B L;rw[fp]at this⊢;rw[UN,List.all_append,this];rfl
theorem w7(L M:List cf):fp B (L++M)=fp B L++fp B M:=by simp[fp]
theorem Gj(L:List cf)(i:Nat):(fp B L).take (i*2)=fp B (L.take i):=vY (ut B) L i
theorem Gg(L:List cf)(i:Nat):(fp B L).drop (i*2)=fp B (L.drop i):=zf (ut B) L i
variable{L:List cf}{p:cf}
theorem w9{B:Nat->Nat}{i:Nat}(h:L[i]? =some p):((fp B L).drop (i*2)).take 2=[.pointer (some ⟨(B p.aD),0,none⟩),aa ((p.aD:Int)*1024)]:=m7 (ut B) h
def m1(a b:Int):Int:=if a<b then -1 else if b<a then 1 else 0
theorem C8{a b:Int}:m1 a b<0↔a<b:=by unfold m1;omega
theorem C7{a b:Int}:m1 a b=0↔a=b:=by unfold m1;omega
def u6(L:List cf)(t:Int)(y:Nat×Bool):Prop:=y.1<=L.length/\(∀k p,L[k]? =some p->(k<y.1↔(p.aD:Int)*1024<t))/\(y.2=true↔∃p,L[y.1]? =some p/\(p.aD:Int)*1024=t)
variable{k:Nat}
theorem Nx{cs e vs:List Value}{n:Nat}(w:cs.length=n*2)(he:e.length=1*2)(hv:vs.length=2)(D:k<n):
 dJ (k*2) vs (dJ ((k+1)*2) (((cs++e).drop (k*2)).take ((n-k)*2)) (cs++e))=cs.take (k*2)++vs++cs.drop (k*2):=by
 have d:((cs++e).drop (k*2)).take ((n-k)*2)=cs.drop (k*2):=(by grind[U1]);have C:(cs.drop (k*2)).length=n*2-k*2:=b2
 have u:dJ ((k+1)*2) (cs.drop (k*2)) (cs++e)=(cs++e).take ((k+1)*2)++cs.drop (k*2):=(by grind[Hj])
 rw[d,u,dJ,hv,VS (by rw[VC,mp];omega),List.take_take,Wl U,VS U,
  WP,VE (by rw[VC,mp];omega),Vn]
 congr 1;have:k*2+2-((cs++e).take ((k+1)*2)).length=0:=cr
 simp_all
theorem Nv{cs vs zs:List Value}{n:Nat}(w:cs.length=n*2)(E:zs.length=(n+1-k)*2)(hv:vs.length=2)(D:k<n):
 dJ ((k+1)*2) ((cs.drop (k*2)).take ((n-k)*2)) (dJ (k*2) (vs.take (1*2)) (cs.take (k*2)++zs))=cs.take (k*2)++vs++cs.drop (k*2):=by
 have C:(cs.drop (k*2)).length=n*2-k*2:=b2
 have d:(cs.take (k*2)).length=k*2:=cr
 rw[U1 (by omega:(cs.drop (k*2)).length<=(n-k)*2),U1 (by omega:vs.length<=1*2)];have u:dJ (k*2) vs (cs.take (k*2)++zs)=cs.take (k*2)++vs++zs.drop 2:=(by rw[dJ,VS U,U1 U,hv,WP,VE U,Vn,d];simp_all);grind[Hj]
theorem Ll{cs d:List Value}{n:Nat}(u:cs.length=n*2)(w:k<n)(h:d.take ((n-1)*2)=(dJ (k*2) (cs.drop ((k+1)*2)) cs).take ((n-1)*2)):d.take ((n-1)*2)=cs.take (k*2)++cs.drop ((k+1)*2):=by grind[dJ,U1]
theorem EN(x:Int):br 289 [aa x] be [] (.bool false) []:=by apply aH Tryz.func289 Tryz.ntmps289;intro F _;apply J [9,67,198,161,65];exact b8.i () [_] ⟨rfl,trivial⟩ (congrArg Value.bool cF) trivial (aq (a6 _))
theorem KK(x y:Int):br 229 [aa x,aa y] be [] (aa (m1 x y)) []:=by
 apply aH Tryz.func229 Tryz.ntmps229;intro F _;apply J [9,102,170];apply ao (EN x);apply J [151,47,170];apply ao (EN y);apply J [151,105,168,121,168,121,198,191];apply Ur rfl<;>intro d;have hv:m1 x y=-1:=aw d;rw[hv];apply J [209];exact jY;apply J [42,198,165,3];apply Ur rfl<;>intro u;have hv:m1 x y=1:=by rw[m1,al d,aw u]
 rw[hv];apply J [209];exact jY;have hv:m1 x y=0:=by rw[m1,al d,al u]
 rw[hv];apply J [4,207];exact jY
theorem L5(v:Option Addr)(x y:Int):br 228 [.agg #[.pointer v,aa x],aa y] be [] (aa (m1 x y)) []:=by apply aH Tryz.func228 Tryz.ntmps228;intro F _;refine J [197,526] ?_;intro ba;apply J [27,264,28];apply ao (KK x y);apply J [6,30];exact dp
theorem Kb(L:List cf)(ad:Option Addr)(cap:Nat)(t:Int)(hs:L.Pairwise λa b=>a.aD<b.aD)(ax:L.length<=1048576):bI 227 [.slice ad L.length cap,aa t,.func (.func 228) #[] #[]] (λF=>∃E,cM F E ad (fp B L)) [] (λy:Nat×Bool=>.tuple #[aa y.1,.bool y.2]) (λy=>u6 L t y) (λ_=>[]):=by
 apply aH Tryz.func227 Tryz.ntmps227;intro F ⟨E,Z⟩;apply J [9];haveI:bl F ad E (fp B L):=⟨Z⟩;have au:=w8 B L;apply J [24,183,35,393,61,219,76];refine ab.loop (ι:=Nat×Nat) (λx=>(x.1<=x.2/\x.2<=L.length)/\(∀k fV,L[k]? =some fV->k<x.1->(fV.aD:Int)*1024<t)/\(∀k fV,L[k]? =some fV->x.2<=k->t<=(fV.aD:Int)*1024)) (λx=>[(0,.slice ad L.length cap),(1,aa t),(2,.func (.func 228) #[] #[]),(8,aa L.length),(9,aa ((x.1:Nat):Int)),(10,aa ((x.2:Nat):Int))]) (λx=>ah [F]) (λx=>x.2-x.1) (0,L.length) ⟨⟨Uv _,Uw _⟩,λk fV _ h=>absurd h (Nat.not_lt_zero _),λk fV h N=>absurd (Uz.1 h).1 (by dsimp only at N;omega)⟩ bu (aq (a6 _)) ?_;rintro⟨i,j⟩ ⟨⟨an,H⟩,Q,O⟩ aK;dsimp only[ct]at an H Q O⊢;apply J [129,2,191];apply Ur rfl<;>intro aC;have ag:(i+j)/2<L.length:=U
 obtain⟨fV,d⟩:∃fV,L[(i+j)/2]? =some fV:=⟨L[(i+j)/2],Uo ag⟩;have ar:0<(fp B L).length:=U
 apply J [4,76,198];refine q rfl rfl (Vx (v:=((i+j:Nat):Int)) (ig rfl rfl U U) U) ?_;refine J [311] ?_;refine q rfl rfl (jK (n:=1) (c:=(i+j)/2) rfl rfl U (by rw[Nat.pow_one])) ?_;refine J [312,27,24] ?_;refine q rfl rfl (fu (v:=.func _ _ _) rfl) ?_;refine J [86,2,527] ?_;refine q rfl rfl (gK (vs:=[_,_]) 2 rfl rfl (w9 d) rfl am) ?_;refine J [28,587] ?_;intro _ _;apply J [151,191];apply Ur rfl<;>intro D;have D:(fV.aD:Int)*1024<t:=by grind[C8]
 apply J [212];refine q rfl rfl (Vx (v:=(((i+j)/2+1:Nat):Int)) (ig rfl rfl U U) U) ?_;apply J [73,153];exact⟨rfl,((i+j)/2+1,j),⟨⟨by dsimp only;omega,H⟩,λk r u P=>by dsimp only at P;by_cases e:k=(i+j)/2;subst e;rw[d]at u;cases u;exact D;obtain⟨g1,g2⟩:=Uz.1 u;obtain⟨g3,g4⟩:=Uz.1 d;have:=(VJ.1 hs) k ((i+j)/2) g1 g3 U;rw[g2,g4]at this;omega,O⟩,cH,⟨rfl,rfl,rfl,rfl,rfl,rfl,trivial⟩,ai⟩;have D:¬(fV.aD:Int)*1024<t:=λh=>D (C8.2 h);apply J [212,73,153];exact⟨rfl,(i,(i+j)/2),⟨⟨by dsimp only;omega,by dsimp only;omega⟩,Q,λk r u P=>by dsimp only at P;by_cases e:k=(i+j)/2;subst e;rw[d]at u;cases u;omega;obtain⟨g1,g2⟩:=Uz.1 u;obtain⟨g3,g4⟩:=Uz.1 d;have:=(VJ.1 hs) ((i+j)/2) k g3 g1 U;rw[g2,g4]at this;omega⟩,cH,⟨rfl,rfl,rfl,rfl,rfl,rfl,trivial⟩,ai⟩;obtain rfl:i=j:=U
 have V:∀k p,L[k]? =some p->(k<i↔(p.aD:Int)*1024<t):=λk p W=>⟨Q k p W,λh=>by by_cases e:k<i;exact e;have:=O k p W U;omega⟩;apply J [22,29,120,385,18];refine aO.split 39 rfl (λw=>?_) (λw=>?_);have w:=ds w;have ao:i<L.length:=U
 obtain⟨fV,d⟩:∃fV,L[i]? =some fV:=⟨L[i],Uo ao⟩;have ar:0<(fp B L).length:=U
 refine c5 rfl rfl rfl (fu (v:=.func _ _ _) rfl) ?_;apply J [361,16];refine c5 rfl rfl rfl (gD 296 2 rfl rfl rfl U dW) ?_;refine c5 rfl rfl rfl (gK (vs:=[_,_]) 2 rfl rfl (w9 d) rfl am) ?_;refine J [282,587] ?_;intro _ _;apply J [151,92,368,73,65];exact cN (i,decide (m1 ((fV.aD:Int)*1024) t=0)) ⟨H,V,⟨λh=>⟨fV,d,C7.1 (ds h)⟩,λ⟨p,C,N⟩=>cR (C7.2 (by rw[d]at C;cases C;exact N))⟩⟩ ai;have w:=dV w;apply J [48,48,93,73,65];exact cN (i,false) ⟨H,V,⟨λh=>(by cases h),λ⟨p,C,_⟩=>absurd (Uz.1 C).1 U⟩⟩ (aq (a6 _))
theorem Qk(ad:Option Addr)(cap n k:Nat)(cs:List Value)(N:k<n)(au:n<=1048576)(D:cs.length=n*2)(V:n<=cap)(Q:cap<=maxLen)(C:cs.all UY=true):br 296 [.slice ad n cap,aa k,aa ((k:Int)+1)] be [aT 296 2 ad n cap cs] (.slice ad (n-1) cap) [aT 296 2 ad (n-1) cap (cs.take (k*2)++cs.drop ((k+1)*2))]:=by
 apply aH Tryz.func296 Tryz.ntmps296;intro F _;apply J [1];have Z:maxLen=9223372036854775807:=rfl;have u:((k:Nat):Int)+1=((k+1:Nat):Int):=U
 rw[u];apply J [44,221,120,86,393];refine q rfl rfl (RO (i:=k) (j:=k+1) (mx:=n) 296 2 rfl rfl rfl rfl rfl U U U) ?_;apply J [25,198,225];refine Ur rfl (λd=>absurd d U) (λd=>?_);apply J [4,35,393,31];refine cx [0,1,2,3,4,5,-6,7] (a6 _) ?_;apply J [181];refine bU rfl rfl rfl (nv 296 2 k rfl rfl rfl rfl U) ?_;refine J [181,588,11] ?_;refine JD 16 rfl rfl rfl rfl rfl U U U am C rfl ?_;refine J [5,334,75,7] ?_;have w:k+(n-(k+1))=n-1:=U
 rw[w];apply J [114,86,393,2];refine q rfl rfl (RT 296 2 rfl rfl rfl rfl U U) ?_;refine ey ?_;refine yO (n:=n) (E:=296) (sz:=2) (z:=.agg #[.pointer none,aa 0]) (n-1) rfl rfl rfl rfl am rfl rfl U ?_;intro P W O;apply J [221,101];have H:=Ll D N O;exact fa (Dt 0 rfl (pM (j:=n-1) U) (by rw[H];exact(aq (aq (a6 _)))))
theorem Ql(ad N:Option Addr)(cap ao n k:Nat)(cs vs:List Value)(a9:k<=n)(au:n<=1048576)(u:cs.length=n*2)(hv:vs.length=2)(ax:n<=cap)(a4:cap<=maxLen)(a5:1<=ao)(a0:cs.all UY=true)(O:vs.all UY=true):bI 239 [.slice ad n cap,aa k,.slice N 1 ao] be [aT 296 2 ad n cap cs,aT 296 2 N 1 ao vs] (λy:Option Addr×Nat=>.slice y.1 (n+1) y.2) (λ_=>True) (λy=>[aT 296 2 y.1 (n+1) y.2 (cs.take (k*2)++vs++cs.drop (k*2))]):=by
 apply aH Tryz.func239 Tryz.ntmps239;intro F _;apply J [12];have bd:maxLen=9223372036854775807:=rfl;refine J [44,221,2,528,221,393,31,29,262,100,35,393,31,198,225] ?_;apply Ur rfl<;>intro bb;obtain rfl:k=n:=U
 apply J [35,236];refine ap 16 rfl rfl rfl rfl rfl U (show vs.take (1*2)=vs from U1 U) O U gp ?_;intro W ag;apply J [21,224];have D:cs.take (k*2)++vs++cs.drop (k*2)=cs++vs:=cr
 exact bn (W,ag) trivial (by rw[D];exact(aq (bW (a6 _))));have P:k<n:=U
 refine J [42,198,150,86] ?_;refine q rfl rfl (Kk 296 2 rfl rfl) ?_;apply J [165,3];apply Ur rfl<;>intro a2;have a3:cap<k+(n+1-k):=U
 have aX:(UK (n+1-k) [Xr none,aa 0]).flatten.length=(n+1-k)*2:=cF
 apply J [35,2];refine q rfl rfl (nv 296 2 k rfl rfl rfl rfl U) ?_;refine J [120,150,2] ?_;refine q rfl rfl (Vx (v:=((n+1-k:Nat):Int)) (oR rfl rfl U U) U) ?_;refine e rfl ?_;refine JE (E:=296) (sz:=2) (i:=k) (k:=n+1-k) (cs:=cs) (z0:=.agg #[.pointer none,aa 0]) (zs:=(UK (n+1-k) [Xr none,aa 0]).flatten) 16 rfl rfl rfl rfl rfl rfl U U am U U gp rfl ?_;intro Z an;have ar:k+(n+1-k)=n+1:=U
 rw[ar];apply J [123];haveI:r9 cs cap k 2:=⟨n,u,by omega,ax⟩;have aQ:(vs.take (1*2)).all UY=true:=cr
 have C:((cs.drop (k*2)).take ((n-k)*2)).all UY=true:=cr
 have w:(cs.drop (k*2)).length=(n-k)*2:=cr
 have D:=Nv u aX hv P;refine J [114,2,528,236] ?_;refine vL (n:=n+1) (j:=k) 1 rfl rfl rfl U U (show min _ _=_ from by omega) am aQ rfl ?_;apply J [25];refine cx [0,1,2,3,4,5,6,7,-8] (a6 _) ?_;refine J [181,14,391] ?_;refine bU rfl rfl rfl (n6 296 2 (k+1) rfl rfl rfl U U) ?_;apply J [181];refine bU rfl rfl rfl (n6 296 2 k rfl rfl rfl rfl U) ?_;refine dA rfl rfl ?_;refine vL (n:=n+1) (j:=k+1) (n-k) rfl rfl rfl U (by rw[w];exact Uw _) (show min _ _=_ from by omega) am C D ?_;refine J [108,35,21,224] ?_;exact bn (some ⟨Z,0,none⟩,an) trivial ai;have Q:n+1<=cap:=U
 apply J [4,35,120];refine q rfl rfl (Vx (v:=((n+1:Nat):Int)) (ig rfl rfl U U) U) ?_;refine q rfl rfl (nv 296 2 (n+1) rfl rfl rfl rfl U) ?_;apply J [123,7];refine ab.bf (Dt 0 rfl (RY (m:=1) Q) (LK _)) ?_;refine ab.open 0 rfl (λd H=>?_);obtain es:=d;have a8:=H;apply J [12];haveI:r9 (cs++d) cap k 2:=⟨n+1,by rw[mp,u,H];omega,by omega,Q⟩;have V:vs.take (1*2)=vs:=cr
 have aC:=Nx u H hv P;have a7:((cs++d).drop (k*2)).take ((n-k)*2)=cs.drop (k*2):=(by grind[U1]);have C:(((cs++d).drop (k*2)).take ((n-k)*2)).all UY=true:=cr
 have w:((cs++d).drop (k*2)).length=(n+1-k)*2:=cr
 have aK:0<(cs++d).length:=b2
 apply J [114,86,120];refine q rfl rfl (Vx (v:=((k+1:Nat):Int)) (ig rfl rfl U U) U) ?_;refine q rfl rfl (n6 296 2 (k+1) rfl rfl rfl rfl U) ?_;refine e rfl ?_;refine Qd (S:=291) (R:=4) (FH:=n+1) (c2:=cap) (j:=k+1) Tryz.func293 aR aR aR aR rfl rfl 1 rfl ⟨0,rfl⟩ U aK U ?_;apply J [89,122,7];refine cx [0,1,2,3,4,5,6,7,-8] (a6 _) ?_;apply J [181,14];refine bU rfl rfl rfl (Vx (v:=((k+1:Nat):Int)) (ig rfl rfl U U) U) ?_;refine J [588,181] ?_;refine bU rfl rfl rfl (n6 296 2 k rfl rfl rfl rfl U) ?_;refine dA rfl rfl ?_;refine vL (n:=n+1) (j:=k+1) (n-k) rfl rfl rfl U (by rw[w];exact Uw _) (show min _ _=_ from by omega) am C rfl ?_;refine J [108,35,2,528,236] ?_;refine vL (n:=n+1) (j:=k) 1 rfl rfl rfl U U (show min _ _=_ from by omega) am (by rw[V];exact O) (by rw[V,aC]) ?_;apply J [221,21,224];exact bn (ad,cap) trivial ai
structure p0 where
  B:Nat->Nat
  ad:Option Addr
  cap:Nat
structure lY(sz:Nat)(L:List cf):Prop where
  a1:16<=sz/\sz<=512
  inv:oe (960/sz) L
  aD:∀p∈L,p.aD<1048576
def l7(b bd sz:Nat)(L:List cf):ax:=fj λy:p0=>pure' (lY sz L) (ah [aj b 293 [ae bd,.int .i64 sz,.slice y.ad L.length y.cap],aT 296 2 y.ad L.length y.cap (fp y.B L),b7 (λp:cf=>gC (y.B p.aD) (960/sz) p.f) L])
theorem lY.many{sz:Nat}(h:lY sz L):1<=960/sz/\960/sz<=60/\960/sz*sz<=960:=by obtain⟨u,w⟩:=h.a1;have d:1<=960/sz:=(Nat.le_div_iff_mul_le U).2 U;have a2:960/sz<=60:=(by exact Nat.div_le_of_le_mul U);exact⟨d,a2,Nat.div_mul_le_self 960 sz⟩
theorem lY.place{sz:Nat}(h:lY sz L){i:Nat}(d:i<960/sz):i*sz+sz<=960:=by have u:=h.many.2.2;have w:(i+1)*sz<=960/sz*sz:=U0 _ d;grind
theorem Qr(h:L.Pairwise λa b=>a.aD<b.aD):(L.map (·.aD)).Nodup:=by grind
theorem lY.len{sz:Nat}(h:lY sz L):L.length<=1048576:=by have:=uO (Qr h.inv.kb) (m:=List.range 1048576) λx u=>(by obtain⟨p,d,rfl⟩:=UE.1 u;exact List.mem_range.2 (h.aD p d));simp_all
theorem tt(h:L[k]? =some p):L=L.take k++p::L.drop (k+1):=by grind[List.drop_eq_getElem_cons,Vd]
variable{aD:Nat}
theorem Gi{f:Nat->Bool}(g:Nat->Bool)(h:L[k]? =some ⟨aD,f⟩):fp B (L.take k++⟨aD,g⟩::L.drop (k+1))=fp B L:=by
 conv=>rhs;rw[tt h]
 rw[w7,w7];rfl
theorem Fa(r:cf)(h:L[k]? =some p):(L.take k++r::L.drop (k+1)).length=L.length:=by grind
theorem Gr{f:Nat->Bool}(g:Nat->Bool)(h:L[k]? =some ⟨aD,f⟩):(L.take k++(⟨aD,g⟩:cf)::L.drop (k+1)).map (·.aD)=L.map (·.aD):=by
 conv=>rhs;rw[tt h]
 simp_all
theorem Qj{B:Nat->Nat}(h:L[k]? =some p):(fp B L)[k*2+0]? =some (.pointer (some ⟨(B p.aD),0,none⟩)):=tQ (ut B) h rfl
theorem Gh{B C:Nat->Nat}:∀{L:List cf},(∀q∈L,B q.aD=C q.aD)->fp B L=fp C L
 | [],_=>rfl
 | q::L,h=>by have d:=Gh (L:=L) λr u=>h r (by simp[u]);rw[fp,fp]at d⊢;rw[UN,UN,d,us,us,h q cF]
structure Cb(sz:Nat)(L:List cf)(aD i:Nat)(y:List cf×Bool):Prop where
  na:mB (960/sz) L y.1 aD i
  aD:if y.2=true then(L.map (·.aD)).Perm (aD::y.1.map (·.aD))else y.1.map (·.aD)=L.map (·.aD)
structure yh(sz top:Nat)(cg:List Nat)(L:List cf)(y:Nat×Nat×List cf×Bool):Prop where
  mN:lk (960/sz) L y.2.2.1 y.1 y.2.1
  aD:if y.2.2.2=true then(y.2.2.1.map (·.aD)).Perm (y.1::L.map (·.aD))/\y.1∉cg/\y.1<2^top else y.2.2.1.map (·.aD)=L.map (·.aD)/\y.1∈L.map (·.aD)
  i:y.2.1<960/sz
theorem lY.mN{sz i:Nat}{L':List cf}(h:lY sz L)(g:lk (960/sz) L L' aD i)(C:aD<1048576):lY sz L':=by refine⟨h.a1,g.inv h.inv (by have:=h.many;omega),λp d=>?_⟩;cases g with|old A B f u w D E=>subst u;subst w;rcases Uq.1 d with d|d;exact h.aD p (by simp[d]);rcases UB.1 d with rfl|d;exact C;exact h.aD p (by simp[d])|new A B u w D E H N=>subst u;subst w;rcases Uq.1 d with d|d;exact h.aD p (by simp[d]);rcases UB.1 d with rfl|d;exact C;exact h.aD p (by simp[d])
theorem lY.na{sz i:Nat}{L':List cf}(h:lY sz L)(g:mB (960/sz) L L' aD i):lY sz L':=by refine⟨h.a1,g.inv h.inv,λp d=>?_⟩;cases g with|stay A B f u w C=>subst u;subst w;rcases Uq.1 d with d|d;exact h.aD p (by simp[d]);rcases UB.1 d with rfl|d;exact h.aD ⟨aD,f⟩ cF;exact h.aD p (by simp[d])|gone A B f u w C D=>subst u;subst w;exact h.aD p (by rcases Uq.1 d with d|d<;>simp[d])
theorem J9(C:L[k]? =some p){y:Nat×Bool}(h:u6 L ((p.aD:Int)*1024) y)(hs:L.Pairwise λa b=>a.aD<b.aD):y=(k,true):=by obtain⟨d,u,w⟩:=h;grind[VJ]
theorem Ka{y:Nat×Bool}(h:u6 L ((aD:Int)*1024) y)(hs:L.Pairwise λa b=>a.aD<b.aD)(au:∀p∈L,p.aD≠aD):(∀p∈L.take y.1,p.aD<aD)/\∀p∈L.drop y.1,aD<p.aD:=by obtain⟨d,u,w⟩:=h;grind[Vo]
variable(bd sz:Nat)
theorem R3(h:(16<=sz/\sz<=512)/\sz %16=0):bI 178 [ae bd,aa sz] be [] (λb:Nat=>ae b) (λ_=>True) (λb=>[l7 b bd sz []]):=by apply aH Tryz.func178 Tryz.ntmps178;intro F _;refine J [9,131,217,200,50,525,169,50] ?_;refine aO.known 15 rfl (c:=false) (c4 U) ?_;refine J [16,468,301,103] ?_;refine Ur rfl (λd=>absurd d U) (λd=>?_);apply J [4,34];refine q rfl rfl (eh (cs:=[.pointer _,.int _ _,.slice _ _ _]) rfl) ?_;refine e rfl ?_;refine eV (v:=.agg #[_,_,_]) (l:=[.pointer _,.int _ _,.slice _ _ _]) rfl rfl ?_;intro ba;apply J [109];exact bn ba trivial ((dH 296 2 _).trans ((mZ (f:=λp:cf=>gC 0 (960/sz) p.f) _).trans (ay (⟨λ_=>0,none,0⟩:p0) ⟨h.1,⟨XD,λ_ h=>(by cases h)⟩,λ_ h=>(by cases h)⟩ (bp (bW (aq (aq (a6 _))))))))
theorem R2:br 178 [ae bd,aa 0] be [] (.pointer none) []:=by apply aH Tryz.func178 Tryz.ntmps178;intro F _;refine J [9,131,217,200,50,529,336,97,104,177] ?_;exact jY
variable(b:Nat)
theorem R1(bd sz:Nat)(v:Value)(h:16<=sz/\sz<=512):br 238 [ae b] be [aj b 293 [ae bd,aa sz,v]] (aa ((960/sz:Nat):Int)) [aj b 293 [ae bd,aa sz,v]]:=by apply aH Tryz.func238 Tryz.ntmps238;intro F _;apply J [1,38,41,64];refine q rfl rfl (Vx (v:=((960/sz:Nat):Int)) (k4 rfl rfl U U U) cF) ?_;apply J [30];exact hI
theorem Hd(bd sz aD i:Nat)(w:Value)(d:Nat)(h:i*sz+sz<=960)(C:aD<1048576):br 174 [ae b,.agg #[ae d,aa ((aD:Int)*1024)],aa i] be [aj b 293 [ae bd,aa sz,w]] (aa ((aD*1024+64+i*sz:Nat):Int)) [aj b 293 [ae bd,aa sz,w]]:=by
 apply aH Tryz.func174 Tryz.ntmps174;intro F _;apply J [1];have u:(i:Int)*(sz:Int)=((i*sz:Nat):Int):=cF
 refine J [26,526] ?_;intro bw;apply J [31];refine cx [0,1,2,3,4,5,6,7,8,9,10] (aF.refl _) ?_;refine J [180,391,14,136] ?_;refine bU rfl rfl rfl (Vx (v:=((i*sz:Nat):Int)) (nZ rfl rfl U U) U) ?_;refine bU rfl rfl rfl (Vx (v:=((aD*1024+64+i*sz:Nat):Int)) (ig rfl rfl U U) U) ?_;apply J [179,147];exact dp
theorem Hc(bd sz:Nat)(B:Nat->Nat)(L:List cf)(ad:Option Addr)(cap:Nat)(t:Int)(hs:L.Pairwise λa b=>a.aD<b.aD)(u:L.length<=1048576):bI 170 [ae b,aa t] (λF=>∃E,cM F E ad (fp B L)) [aj b 293 [ae bd,aa sz,.slice ad L.length cap]] (λy:Nat×Bool=>.tuple #[aa y.1,.bool y.2]) (λy=>u6 L t y) (λ_=>[aj b 293 [ae bd,aa sz,.slice ad L.length cap]]):=by apply aH Tryz.func170 Tryz.ntmps170;intro F ⟨E,d⟩;apply J [1];haveI:bl F ad E (fp B L):=⟨d⟩;apply J [24,183,99,28];apply eQ (Kb B L ad cap t hs u) ⟨_,bl.rd (ad:=ad)⟩;intro y w;apply J [6,95,298,73,65];exact cN y w ai
theorem He(bd sz:Nat)(L:List cf)(k aD i:Nat)(f:Nat->Bool)(u:L[k]? =some ⟨aD,f⟩)(D:f i=true):br 123 [ae b,aa ((aD*1024+64+i*sz:Nat):Int)] be [l7 b bd sz L] (.tuple #[aa k,aa i,.bool true]) [l7 b bd sz L]:=by
 apply aH Tryz.func123 Tryz.ntmps123;intro F _;apply J [1];refine ab.open 0 rfl (λZ V=>?_);obtain⟨B,ad,cap⟩:=Z;have d:=V;apply J [85];dsimp only at d⊢;have E:=d.inv.bd _ (Us u) i D;have au:=d.place E;have P:=d.aD _ (Us u);have hs:=d.a1;have hm:=d.many;dsimp only at P E;have N:=(Uz.1 u).1;have O:=d.len;have ar:=w8 B L;have Q:0<(fp B L).length:=U
 have ag:(aD*1024+64+i*sz)/1024=aD:=U
 have an:(aD*1024+64+i*sz) %1024=64+i*sz:=U
 have H:(i*sz) %sz=0:=b2
 have w:(i*sz)/sz=i:=by grind[Nat.mul_div_cancel]
 apply J [24,73,73,105,217,200,103];refine Ur rfl (λC=>absurd C U) (λC=>?_);apply J [4,34];refine q rfl rfl (Vx (v:=(aD:Int)) (k4 rfl rfl U U U) U) ?_;refine J [463,0] ?_;apply eQ (Hc b bd sz B L ad cap ((aD:Int)*1024) d.inv.kb O) ⟨_,bl.rd (ad:=ad)⟩;intro y W;apply J [19];obtain rfl:=J9 u W d.inv.kb;dsimp only;apply J [286,183,29];refine q rfl rfl (Vx (v:=((64+i*sz:Nat):Int)) (pJ rfl rfl U U) U) ?_;refine q rfl rfl (Vx (v:=((i*sz:Nat):Int)) (oR rfl rfl U U) U) ?_;apply J [31,7];refine cx [0,1,2,3,4,5,6,7,8,9,10,11,12,13,14,15,16,17,18,19,20,21,22,23,24,25,26,27,28,29,-30,31,32] (aq (aq (a6 _))) ?_;apply J [152,377,152,292];refine eH rfl rfl rfl rfl (lss rfl rfl) ?_;apply J [167,152];refine b3.known 33 rfl (b':=false) (c4 U) ?_;apply J [292,303,304,474,160];refine eH rfl rfl rfl rfl (Vx (v:=(0:Int)) (pJ rfl rfl U U) (by rw[show((i*sz:Nat):Int) %(sz:Int)=((i*sz %sz:Nat):Int)by simp,H];rfl)) ?_;apply J [475,167,152];refine b3.known 42 rfl (b':=false) (c4 U) ?_;apply J [303,304,376,160,292];refine eH rfl rfl rfl rfl (gD (i:=k) 296 2 rfl rfl rfl N Q) ?_;refine J [390] ?_;refine eH rfl rfl rfl rfl (dv rfl rfl (Qj u)) ?_;apply J [292,303,304,474,160];refine eH rfl rfl rfl rfl (Vx (v:=(i:Int)) (k4 rfl rfl U U U) (by rw[show((i*sz:Nat):Int)/(sz:Int)=((i*sz/sz:Nat):Int)by simp,w])) ?_;refine b3.bf (fR 2 rfl (sR u)) ?_;apply J [166];apply ao (CQ (B aD) (960/sz) f i U);refine J [280] ?_;rw[D];apply J [476,167,75,74,42,521,14,14,136];refine bU rfl rfl rfl (Vx (v:=(i:Int)) (k4 rfl rfl U U U) (by rw[show((i*sz:Nat):Int)/(sz:Int)=((i*sz/sz:Nat):Int)by simp,w])) ?_;apply J [369,369,269,147];exact b8.i () [_,_,_] ⟨rfl,rfl,rfl,trivial⟩ rfl trivial (ay (⟨B,ad,cap⟩:p0) d (bp (bp (cU 0 0 ⟨aD,f⟩ rfl rfl rfl (λ_ _=>rfl) (sR u).symm (aq (a6 _))))))
theorem R0(bd sz:Nat)(L:List cf)(k aD i:Nat)(f:Nat->Bool)(u:L[k]? =some ⟨aD,f⟩)(d:f i=true):br 82 [ae b,aa ((aD*1024+64+i*sz:Nat):Int)] be [l7 b bd sz L] (.bool true) [l7 b bd sz L]:=by apply aH Tryz.func82 Tryz.ntmps82;intro F _;apply J [1,67,32];apply ao (He b bd sz L k aD i f u d);apply J [6,278,298,73,183,168,65];exact hI
def AU(sz:Nat):Option (Nat×Nat×List cf×Bool)->Int
  | some y=>((y.1*1024+64+y.2.1*sz:Nat):Int)
  | none=>0
def tx(L:List cf):Option (Nat×Nat×List cf×Bool)->List cf
  | some y=>y.2.2.1
  | none=>L
def tu(cg:List Nat):Option (Nat×Nat×List cf×Bool)->List Nat
  | some y=>if y.2.2.2=true then y.1::cg else cg
  | none=>cg
def Ju(sz top:Nat)(cg:List Nat)(L:List cf):Option (Nat×Nat×List cf×Bool)->Prop
  | some y=>yh sz top cg L y
  | none=>2^top<=cg.length
theorem R4(bd top sz:Nat)(L:List cf)(cg:List Nat)(b5:top<=20)(ck:∀q∈L,q.aD∈cg):bI 180 [ae b] c8 [l7 b bd sz L,k0 bd top cg] (λy:Option (Nat×Nat×List cf×Bool)=>.tuple #[aa (AU sz y),aa (qk y)]) (λy=>Ju sz top cg L y) (λy=>[l7 b bd sz (tx L y),k0 bd top (tu cg y)]):=by
 apply aH Tryz.func180 Tryz.ntmps180;intro F a3;apply J [12];haveI:cw F:=⟨a3⟩;refine ab.open 0 rfl (λca b6=>?_);obtain⟨B,ad,cap⟩:=ca;have w:=b6;apply J [84];dsimp only at w⊢;have hs:=w.a1;have hm:=w.many;have aQ:=w.len;have a9:=w8 B L;have bh:=AS B L;apply J [24,219,106,121,99,393,113];refine ab.loop (ι:=Nat) (λj=>j<=L.length/\∀N H,N<j->L[N]? =some H->v6 (960/sz) H) (λj=>[(0,ae b),(17,.slice ad L.length cap),(18,aa L.length),(19,aa ((j:Nat):Int))]) (λj=>ah [aj b 293 [ae bd,aa sz,.slice ad L.length cap],aT 296 2 ad L.length cap (fp B L),b7 (λp:cf=>gC (B p.aD) (960/sz) p.f) L,k0 bd top cg,F]) (λj=>L.length-j) 0 ⟨Uv _,λN H h=>absurd h (Nat.not_lt_zero _)⟩ bu (aq (aq (aq (aq (aq (a6 _)))))) ?_;rintro j ⟨bD,eJ⟩ cq;dsimp only[ct]at bD eJ⊢;apply J [40];apply Ur rfl<;>intro cl;have bO:j<L.length:=U
 obtain⟨⟨aD,f⟩,D⟩:∃ha,L[j]? =some ha:=⟨L[j],Uo bO⟩;have cn:0<(fp B L).length:=U
 have P:=w.aD _ (Us D);dsimp only at P;refine J [213,527] ?_;refine q rfl rfl (gK (vs:=[_,_]) 2 rfl rfl (w9 D) rfl am) ?_;refine J [0,530] ?_;intro b4;apply J [68,59,56];refine aO.bf (fR 3 rfl (sR D)) ?_;refine e rfl ?_;apply a7 (CP (B aD) (960/sz) f false 0 U U);intro y C;apply J [17];cases y with|none=>?_|some i=>?_
 have C:th f false (960/sz) 0:=C;dsimp only[qE];refine J [61,411,116,111] ?_;exact⟨rfl,(j+1),⟨by omega,λN H cj ag=>by by_cases e:N=j;subst e;rw[D]at ag;cases ag;intro i2 br;have:=C i2 (Uv _) br;simpa using this;exact eJ N H U ag⟩,U,⟨rfl,rfl,rfl,rfl,trivial⟩,(cY (cY (cU 0 0 ⟨aD,f⟩ rfl rfl rfl (λ_ _=>rfl) (sR D).symm (bW (bW (a6 _))))))⟩;have C:x9 f false (960/sz) 0 i:=C;dsimp only[qE];have Q:=C.2.1;have bx:=C.2.2.1;have W:=w.place Q;have bZ:kC f i true=e5 f i:=by grind[Bd]
 have O:lk (960/sz) L (L.take j++⟨aD,e5 f i⟩::L.drop (j+1)) aD i:=.old _ _ f (tt D) rfl bx Q;apply J [61,411,3];refine Ur rfl (λaK=>?_) (λaK=>absurd U aK);refine J [110,63] ?_;intro an;refine e rfl ?_;refine aL (qh (B aD) (960/sz) f i true (cL an) 1 Q U) rfl eB.p ⟨_,bl.rd (ad:=some ⟨an,0,none⟩)⟩ ?_;intro _ _;apply J [78,205,242,28];apply ao (Hd b bd sz aD i (.slice ad L.length cap) (B aD) W P);apply J [78,141,163];rw[bZ];have V:=w.mN O P;exact cN (some (aD,i,L.take j++⟨aD,e5 f i⟩::L.drop (j+1),false)) ⟨O,⟨Gr _ D,UE.2 ⟨_,Us D,rfl⟩⟩,Q⟩ (ay (⟨B,ad,cap⟩:p0) V (by dsimp only[tx,tu];rw[Fa _ D,Gi _ _ D];exact(aq (eU (cU 0 1 ⟨aD,e5 f i⟩ rfl rfl rfl (λ_ _=>rfl) List.perm_middle.symm ai)))));refine ab.m6 1 rfl (λ_ be bb=>?_);obtain rfl:j=L.length:=U
 have bk:∀H∈L,v6 (960/sz) H:=λH h=>(by grind[Vo]);apply J [22,39,0];apply a7 (CJ bd top cg);intro cc a0;apply J [10];cases cc with|none=>?_|some aD=>?_
 have bm:2^top<=cg.length:=a0;dsimp only[uR,qk,mD];apply J [133,33,15,134,83];exact cN none bm (ay (⟨B,ad,cap⟩:p0) w ai);have P:aD<2^top/\aD∉cg:=a0;dsimp only[uR,qk,mD];obtain⟨W,bX⟩:=P;have bY:=oM (k:=0) b5;rw[Nat.sub_zero]at bY;have aX:aD<1048576:=U
 have bP:∀q∈L,q.aD≠aD:=cr
 have ce:kC (λ_=>false) 0 true=λj=>decide (j=0):=(by trivial);apply J [133,211,69];apply ao (R1 b bd sz (.slice ad L.length cap) hs);apply J [10,0];refine aL (CR (960/sz) U) rfl (eA _) trivial ?_;intro u _;apply J [13,2];refine q rfl rfl (eh (cs:=[.pointer _,.int _ _]) rfl) ?_;refine J [0,530] ?_;intro cd;refine J [68,59,194,148] ?_;intro ar;refine e rfl ?_;refine aL (qh u (960/sz) (λ_=>false) 0 true (cL ar) 1 U U) rfl eB.p ⟨_,bl.rd (ad:=some ⟨ar,0,none⟩)⟩ ?_;intro _ _;apply J [78,3,32];refine aL (Hc b bd sz B L ad cap ((aD:Int)*1024) w.inv.kb aQ) rfl eB.p ⟨_,bl.rd (ad:=ad)⟩ ?_;intro y C;apply J [78];obtain⟨bE,bo⟩:=Ka C w.inv.kb bP;have b9:=C.1;clear C;generalize y.2=co;generalize y.1=d at*;apply J [286,73,105];refine ab.draw _ [11] [0,1,2,3,4,5,6,-7,-8,9,10,-11] aR aR (aq (bp (a6 _))) ?_;apply J [77,185,14,249,11];refine bs (E:=296) (sz:=2) (cs:=[ae u,aa ((aD:Int)*1024)]) rfl ?_;intro a2;refine J [43] ?_;apply a7 (Ql ad (cL a2) cap 1 L.length d (fp B L) [ae u,aa ((aD:Int)*1024)] b9 aQ a9 rfl be bb U bh rfl);intro z _;refine J [290,5,88,370,91,373,75,37,242,0] ?_;refine aL (Hd b bd sz aD 0 (.slice z.1 (L.length+1) z.2) u U aX) rfl (dY 0 rfl (eA _)) trivial ?_;intro _ _;apply J [78,71];have O:lk (960/sz) L (L.take d++⟨aD,λj=>decide (j=0)⟩::L.drop d) aD 0:=.new _ _ (Vd _ _).symm rfl rfl bk bE bo;have V:=w.mN O aX;have a4:(L.take d++⟨aD,λj=>decide (j=0)⟩::L.drop d).length=L.length+1:=cr
 have ea:((L.take d++⟨aD,λj=>decide (j=0)⟩::L.drop d).map (·.aD)).Perm (aD::L.map (·.aD)):=(by grind[Vd]);have cm:∀q∈L,(λx=>if x=aD then u else B x) q.aD=B q.aD:=b2
 have ax:∀M:List cf,(∀q∈M,q∈L)->fp B M=fp (λx=>if x=aD then u else B x) M:=λM bG=>(by grind[Gh]);have a8:(fp B L).take (d*2)++[ae u,aa ((aD:Int)*1024)]++(fp B L).drop (d*2)=fp (λx=>if x=aD then u else B x) (L.take d++⟨aD,λj=>decide (j=0)⟩::L.drop d):=(by rw[Gj,Gg,w7,ax _ (λq Z=>List.mem_of_mem_take Z),ax _ (λq Z=>List.mem_of_mem_drop Z),UT];congr 1;rw[fp,fp,UN,us,aw rfl]);have au:gC u (960/sz) (kC (λ_=>false) 0 true)=(λp:cf=>gC ((λx=>if x=aD then u else B x) p.aD) (960/sz) p.f) ⟨aD,λj=>decide (j=0)⟩:=b2
 have aC:∀q∈L,(λp:cf=>gC (B p.aD) (960/sz) p.f) q=(λp:cf=>gC ((λx=>if x=aD then u else B x) p.aD) (960/sz) p.f) q:=b2
 have a5:((⟨aD,λj=>decide (j=0)⟩:cf)::L).Perm (L.take d++⟨aD,λj=>decide (j=0)⟩::L.drop d):=(by(conv=>lhs;rw[<-Vd d L]);exact List.perm_middle.symm);generalize cE:(λp:cf=>gC ((λx=>if x=aD then u else B x) p.aD) (960/sz) p.f)=G at au aC;exact cN (some (aD,0,L.take d++⟨aD,λj=>decide (j=0)⟩::L.drop d,true)) ⟨O,⟨ea,bX,W⟩,cH⟩ (ay (⟨(λx=>if x=aD then u else B x),z.1,z.2⟩:p0) V (by dsimp only[tx,tu];rw[a4,<-a8,cE];exact(aq (aq (cU 0 3 ⟨aD,λj=>decide (j=0)⟩ rfl rfl au aC a5 ai)))))
theorem RZ(bd sz:Nat)(L:List cf)(k aD i:Nat)(f:Nat->Bool)(d:L[k]? =some ⟨aD,f⟩)(C:f i=true)(top:Nat)(cg:List Nat)(ar:aD∈cg):bI 240 [ae b,aa ((aD*1024+64+i*sz:Nat):Int)] be [l7 b bd sz L,k0 bd top cg] (λ_:List cf×Bool=>aa 0) (λy=>Cb sz L aD i y) (λy=>[l7 b bd sz y.1,k0 bd top (if y.2=true then cg.erase aD else cg)]):=by
 apply aH Tryz.func240 Tryz.ntmps240;intro F _;apply J [12,38,41,32];apply ao (He b bd sz L k aD i f d C);apply J [8,278,298,73,73,105,239,116];refine ab.open 0 rfl (λaQ aC=>?_);obtain⟨B,ad,cap⟩:=aQ;have u:=aC;apply J [84];dsimp only at u⊢;refine ab.m6 1 rfl (λ_ V Q=>?_);have H:=u.inv.bd _ (Us d) i C;have au:=u.aD _ (Us d);have hm:=u.many;dsimp only at au H;have ag:=(Uz.1 d).1;have an:=u.len;have P:=w8 B L;have W:=AS B L;have a3:0<(fp B L).length:=U
 have ax:kC f i false=e5 f i:=by grind[Bd]
 refine J [4,99,2,527] ?_;refine q rfl rfl (gK (vs:=[_,_]) 2 rfl rfl (w9 d) rfl am) ?_;refine J [0,530] ?_;intro aX;refine J [68,59,56,63] ?_;intro E;refine aO.bf (fR 4 rfl (sR d)) ?_;refine e rfl ?_;apply eG (qh (B aD) (960/sz) f i false (cL E) 1 H U) ⟨_,bl.rd (ad:=some ⟨E,0,none⟩)⟩;apply J [78];rw[ax];apply J [25,110,0];apply a7 (J7 (B aD) (960/sz) (e5 f i) U);intro c a2;apply J [78,225];apply Ur rfl<;>intro a0;have aK:∀j,e5 f i j=false:=b2
 have w:mB (960/sz) L (L.take k++L.drop (k+1)) aD i:=.gone _ _ f (tt d) rfl C λj _ Z=>by have:=aK j;rwa[e5,al Z]at this
 have D:=u.na w;have N:(L.take k++L.drop (k+1)).length=L.length-1:=cr
 have O:(fp B L).take (k*2)++(fp B L).drop ((k+1)*2)=fp B (L.take k++L.drop (k+1)):=by rw[Gj,Gg,w7]
 have ea:(L.map (·.aD)).Perm (aD::(L.take k++L.drop (k+1)).map (·.aD)):=(by have:=(sR d).map (·.aD);trivial);refine ab.seq ?_;refine cx [0,1,2,3,4,5,-6] (cY (cY (a6 _))) ?_;apply J [51,287];apply ao (CH bd top cg aD ar);refine J [290,108,36,173,54,120,150,0] ?_;apply ao (Qk ad cap L.length k (fp B L) ag an P V Q W);apply J [78,80,263,281,118];exact bn (L.take k++L.drop (k+1),true) ⟨w,ea⟩ (ay (⟨B,ad,cap⟩:p0) D (by dsimp only;rw[N,<-O];exact ai));have w:mB (960/sz) L (L.take k++⟨aD,e5 f i⟩::L.drop (k+1)) aD i:=.stay _ _ f (tt d) rfl C;have D:=u.na w;apply J [4,207];exact bn (L.take k++⟨aD,e5 f i⟩::L.drop (k+1),false) ⟨w,Gr _ d⟩ (ay (⟨B,ad,cap⟩:p0) D (by dsimp only;rw[Fa _ d,Gi _ _ d];exact(eU (eU (cU 0 0 ⟨aD,e5 f i⟩ rfl rfl rfl (λ_ _=>rfl) List.perm_middle.symm ai)))))
end Go.Proofs.YtglgidjhoncphaaGreatDoor
