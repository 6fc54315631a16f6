/- Proved here: contracts of functions of this program, under the premises that each theorem names. -/
import Derived.Laws.AppendOwn
import Derived.Test.YtglgidjhoncphaaGreatDoorVc
set_option linter.all false
set_option maxRecDepth 4000
set_option maxHeartbeats 4000000
open List renaming length_append->mp,replicate->Va,append_assoc->Vj,map_cons->Vm,getElem?_append_left->Vn,take_of_length_le->Vs,take_append_drop->VF,append_nil->VK,nil_append->VR,drop_eq_nil_of_le->V7,take_append_of_le_length->Wi,getElem?_cons_succ->Wk,length_drop->WG,map_nil->WH,eq_nil_of_length_eq_zero->WR,getElem?_append_right->W7,map_toArray->Xb,drop_append->Xk,drop_append_of_le_length->XR,getElem?_cons_zero->Yr
open Nat renaming le_refl->UW,eq_of_beq_eq_true->Vd,mul_le_mul_right->Vr,add_mul->VJ,beq->Wa,add_sub_cancel_left->Wh,min_eq_left->WL
open Go.Result renaming andThen_ok->U1,andThen->W3
open Go.Sem renaming run_bind->Vc,run_pure->Vu
open Go.Builtin renaming firstCells->Vh,zeroCells->Vi,lenOf->Xs,append_->XM
open Go.Value renaming oneCell'->Vo
open Bool renaming and_eq_true->Vq,false_eq_true->XA
open Go.QM.aF renaming refl->Vx
open Go.Instr renaming sureAddr->Wl,indexAt->Xl
open Option.some renaming injEq->Wt
open Go.Addr.mk renaming injEq->W2
open Go renaming sizeOf->XK
namespace Go.QM
open Go
def a1(E sz:Nat)(ad:Option Addr)(n cap:Nat)(cs:List Value):ax:=match ad with
  | none=>pure' (n=0/\cap=0/\cs=[]) kB
  | some p=>fj λx:List Value×List Value=>
      pure' (p=⟨p.block,x.1.length,none⟩/\cs.length=n*sz/\n<=cap/\cap<=maxLen/\cap*sz<=cs.length+x.2.length) (aj p.block E (x.1++cs++x.2))
theorem dH(E sz:Nat)(hs:List ax):aF (ah hs) (ah (a1 E sz none 0 0 []::hs)):=
  (pZ.trans nF).trans (dO (h8 λ_ h=>⟨⟨rfl,rfl,rfl⟩,h⟩) (Vx _))
def vz(h:kx)(E:Nat)(ad:Option Addr)(cs:List Value):Prop:=
  cs=[]\/∃p pre SJ lW,ad=some p/\p=⟨p.block,pre.length,none⟩/\h p.block=some (.cells (pre++cs++SJ).toArray E lW)
def cM(A:ax)(E:Nat)(ad:Option Addr)(cs:List Value):Prop:=∀h,A h->vz h E ad cs
variable{E:Nat}{ad:Option Addr}{cs:List Value}
theorem vz.sub{h d:kx}(x:vz h E ad cs)(s:ld h d):vz d E ad cs:=by rcases x with x|⟨p,pre,H,u,w,C,D⟩;exact .inl x;exact .inr ⟨p,pre,H,u,w,C,s _ _ D⟩
theorem yu(E sz:Nat)(ad:Option Addr)(n cap:Nat)(cs:List Value):cM (a1 E sz ad n cap cs) E ad cs:=by intro h d;cases ad with|none=>exact .inl d.1.2.2|some p=>obtain⟨⟨pre,C⟩,⟨u,_⟩,w⟩:=d;exact .inr ⟨p,pre,C,(0,0),rfl,u,by rw[w];simp⟩
variable{A:ax}
theorem qm{B:ax}(x:cM A E ad cs):cM (sep A B) E ad cs:=by rintro h ⟨a,b,d,rfl,u,w⟩;exact(x a u).sub (qD a b)
theorem ts{B:ax}(x:cM B E ad cs):cM (sep A B) E ad cs:=by rintro h ⟨a,b,d,rfl,w,u⟩;exact(x b u).sub (ug d)
theorem vB{B:ax}(e:aF A B)(x:cM B E ad cs):cM A E ad cs:=λh a=>
  let⟨d,s,u⟩:=e h a;(x d u).sub s
theorem JO(x:cM A E ad cs)(k:Nat):cM A E ad (cs.take k):=λh a=>by
  rcases x h a with x|⟨p,pre,D,d,u,w,C⟩
  · exact .inl (by simp[x])
  · refine .inr ⟨p,pre,cs.drop k++D,d,u,w,?_⟩
    rw[C,Vj pre (cs.take k),<-Vj (cs.take k),VF,Vj]
variable{sz cap:Nat}
theorem CJ(x:cM A E ad cs){n j:Nat}(N:cs.length=n*sz)(H:j<=n)(P:n<=cap):cM A E (du ad cap j sz) (cs.drop (j*sz)):=λh a=>by
  by_cases D:cap=j
  · left
    have:n=j:=U
    subst this
    rw[List.drop_eq_nil_iff];omega
  · rcases x h a with x|⟨p,pre,O,d,u,w,C⟩
    · exact .inl (by simp[x])
    · have hle:j*sz<=cs.length:=by rw[N];exact Vr _ H
      refine .inr ⟨⟨p.block,pre.length+j*sz,none⟩,pre++cs.take (j*sz),O,d,?_,?_,?_⟩
      · rw[u,w];simp[du,D,h5]
      · simp[WL hle]
      · rw[C,Vj pre (cs.take _),VF]
class bn(A:ax)(ad:Option Addr)(E:outParam Nat)(cs:outParam (List Value)):Prop where
  rd:cM A E ad cs
instance (E sz:Nat)(ad:Option Addr)(n cap:Nat)(cs:List Value):bn (a1 E sz ad n cap cs) ad E cs:=⟨yu E sz ad n cap cs⟩
instance (A:ax)(l:List ax)(ad:Option Addr)(E:Nat)(cs:List Value)[h:bn (ah l) ad E cs]:bn (ah (A::l)) ad E cs:=⟨ts h.rd⟩
instance (A:ax)(l:List ax)(ad:Option Addr)(E:Nat)(cs:List Value)[h:bn A ad E cs]:bn (ah (A::l)) ad E cs:=⟨qm h.rd⟩
class pq(hs:List ax)(ad:Option Addr)(E sz n cap:outParam Nat)(cs:outParam (List Value))(r:outParam (List ax)):Prop where
  tk:∃i,eO i hs=some (a1 E sz ad n cap cs,r)
instance (ad:Option Addr)(E sz n cap:Nat)(cs:List Value)(r:List ax):pq (a1 E sz ad n cap cs::r) ad E sz n cap cs r:=⟨0,rfl⟩
instance (A:ax)(hs:List ax)(ad:Option Addr)(E sz n cap:Nat)(cs:List Value)(r:List ax)[h:pq hs ad E sz n cap cs r]:pq (A::hs) ad E sz n cap cs (A::r):=⟨by
  obtain⟨i,pM⟩:=h.tk
  exact⟨i+1,by simp[eO,pM]⟩⟩
theorem oj{n:Nat}{h:kx}(x:a1 E sz ad n cap cs h):cs.length=n*sz/\n<=cap/\cap<=maxLen/\(ad=none->n=0):=by cases ad with|none=>obtain⟨⟨rfl,rfl,rfl⟩,_⟩:=x;simp|some p=>obtain⟨⟨pre,C⟩,⟨_,d,u,w,_⟩,_⟩:=x;exact⟨d,u,w,λe=>by cases e⟩
theorem BD{n:Nat}{j:Nat}(D:j<=n):aF (a1 E sz ad n cap cs) (a1 E sz (du ad cap j sz) (n-j) (cap-j) (cs.drop (j*sz))):=h8 λh x=>by
  obtain⟨f1,f2,f3,_⟩:=oj x
  cases ad with
  | none=>
    obtain⟨⟨rfl,rfl,rfl⟩,x⟩:=x
    obtain rfl:j=0:=by omega
    simp only[du,if_true]
    exact⟨⟨by simp,by simp,by simp⟩,x⟩
  | some p=>
    obtain⟨⟨pre,w⟩,⟨d,N,O,P,C⟩,x⟩:=x
    have hle:j*sz<=cs.length:=by rw[f1];exact Vr _ D
    by_cases u:cap=j
    · have H:n=j:=U
      subst u H
      simp only[du,if_true,Nat.sub_self]
      refine⟨(pre,cs++w),⟨d,?_,UW _,Nat.zero_le _,by simp⟩,?_⟩
      · simp only[WG];omega
      · have:cs.drop (n*sz)=[]:=by rw[List.drop_eq_nil_iff];omega
        rw[this];simpa using x
    · have:du (some p) cap j sz=some ⟨p.block,pre.length+j*sz,none⟩:=by rw[d];simp[du,u,h5]
      rw[this]
      refine⟨(pre++cs.take (j*sz),w),⟨?_,?_,by omega,by omega,?_⟩,?_⟩
      · simp[WL hle]
      · simp only[WG,f1,Nat.sub_mul]
      · simp only[WG,Nat.sub_mul];simp only[]at C;omega
      · simp only[]
        rw[Vj pre,VF];exact x
theorem p0{n:Nat}{j:Nat}(C:j<=n):aF (a1 E sz ad n cap cs) (a1 E sz ad j cap (cs.take (j*sz))):=h8 λh x=>by
  obtain⟨f1,f2,f3,_⟩:=oj x
  have hle:j*sz<=cs.length:=by rw[f1];exact Vr _ C
  cases ad with
  | none=>
    obtain⟨⟨rfl,rfl,rfl⟩,x⟩:=x
    obtain rfl:j=0:=by omega
    exact⟨⟨rfl,rfl,by simp⟩,x⟩
  | some p=>
    obtain⟨⟨pre,d⟩,⟨u,D,H,N,w⟩,x⟩:=x
    refine⟨(pre,cs.drop (j*sz)++d),⟨u,by simp[WL hle],by omega,f3,?_⟩,?_⟩
    · simp only[]at w;simp;omega
    · simp only[]
      rw[show pre++List.take (j*sz) cs++(List.drop (j*sz) cs++d)=pre++cs++d by
        rw[Vj,<-Vj (List.take _ _),VF,Vj]]
      exact x
section
variable {r : Option Nat} {P : Program} {N : Nat} {ops : Array Oper} {l : List Oper} {Q : ff} {ag : Env} {aS : List Deferred} {A : ax} {K : Value → ax → Prop}
variable {d : Option Tmp} {ty : TypeId} {ps : String} {bh : Array Edge} {g : Option (Nat × Bool)}
variable {t t' : TypeId} {x y : Operand} {k : IntKind} {a b c : Int}
variable{ad:Option Addr}{cs:List Value}{E:Nat}
theorem cM.sat(x:cM A E ad cs){w:World}(h:QM.sat w A):
    cs=[]\/∃p pre u d,ad=some p/\p=⟨p.block,pre.length,none⟩/\w.heap[p.block]? =some (.cells (pre++cs++u).toArray E d):=by obtain⟨D,P,C⟩:=h;rcases x D C with x|⟨p,pre,u,d,H,N,O⟩;all_goals grind
theorem cM.AU(x:cM A E ad cs){w:World}(h:QM.sat w A)(an:cs≠[]):∃p,ad=some p/\p.spot=none:=by rcases x.sat h with x|⟨p,pre,H,d,u,C,D⟩;all_goals grind
variable{cap:Nat}
theorem gP(E sz:Nat){D:Nat}{n i:Nat}(O:hl P t E sz=true)(Q:bc ag x=.slice ad n cap)(V:bc ag y=.int .i64 (i:Int))[hr:bn A ad D cs](H:i<n)(u:0<cs.length):
    bA P ag ⟨d,.indexAddr t x y,ty,ps,bh,g⟩ A (fy ad (i*sz)):=λw N=>by
  obtain⟨p,rfl,C⟩:=hr.rd.AU N (by intro e;rw[e]at u;cases u)
  obtain⟨af,W,Z⟩:=p
  simp only at C;subst C
  simp[execOp,Xl,Q,V,asIntOf,h1 O,H,h5,fy]
theorem kH(E sz:Nat){D:Nat}{n:Nat}{j:Int}(Q:hl P t E sz=true)(V:bc ag x=.slice ad n cap)(W:bc ag y=.int .i64 j)[hr:bn A ad D cs](H:0<=j)(N:j<n)(u:0<cs.length):
    bA P ag ⟨d,.indexAddr t x y,ty,ps,bh,g⟩ A (fy ad (j.toNat*sz)):=λw O=>by
  obtain⟨p,rfl,C⟩:=hr.rd.AU O (by intro e;rw[e]at u;cases u)
  obtain⟨af,Z,an⟩:=p
  simp only at C;subst C
  simp[execOp,Xl,V,W,asIntOf,h1 Q,H,N,h5,fy]
theorem mj{s:TypeId}{x:Operand}{f:Nat}{u H:Nat}(o:Nat)(N:wn P s f o=true)(O:bc ag x=fy ad u)[hr:bn A ad H cs](C:0<cs.length):
    bA P ag ⟨d,.fieldAddr s x f,ty,ps,bh,g⟩ A (fy ad (u+o)):=λw E=>by
  obtain⟨p,rfl,D⟩:=hr.rd.AU E (by intro e;rw[e]at C;cases C)
  obtain⟨af,Q,V⟩:=p
  simp only at D;subst D
  have:=(cY (A:=A) (d:=d) (ty:=ty) (ps:=ps) (bh:=bh) (g:=g) o N (show bc ag x=.pointer (some ⟨af,Q+u,none⟩)by rw[O];rfl)) w E
  rw[this];simp[fy,Nat.add_assoc]
theorem dC{t:TypeId}{x:Operand}{o:Nat}{v:Value}(N:mA P t=true)(O:bc ag x=fy ad o)[hr:bn A ad E cs](hv:cs[o]? =some v):
    bA P ag ⟨d,.load t x,ty,ps,bh,g⟩ A v:=λw H=>by
  rcases hr.rd.sat H with h|⟨p,pre,Z,Q,rfl,u,C⟩
  · rw[h]at hv;simp at hv
  · have D:o<cs.length:=(List.getElem?_eq_some_iff.1 hv).1
    obtain⟨af,V,W⟩:=p
    simp only[W2,true_and]at u
    obtain⟨rfl,rfl⟩:=u
    have:=Ar (P:=P) (off:=pre.length+o) N C (v:=v) (by
      rw[Vj,W7 U,Wh,Vn D];exact hv)
    simp[execOp,Instr.loadAt,O,fy,Wl,this]
theorem gv{t:TypeId}{x:Operand}{o:Nat}{vs:List Value}(n:Nat)(H:qo P t n=true)(N:bc ag x=fy ad o)[hr:bn A ad E cs](hv:(cs.drop o).take n=vs)(an:vs.length=n)(Q:0<n):
    bA P ag ⟨d,.load t x,ty,ps,bh,g⟩ A (.agg vs.toArray):=λw D=>by
  have hlen:o+n<=cs.length:=by
    rw[<-hv]at an;simp only[List.length_take,WG]at an;omega
  rcases hr.rd.sat D with h|⟨p,pre,Z,O,rfl,u,C⟩
  · rw[h]at hlen;simp at hlen;omega
  · obtain⟨af,V,W⟩:=p
    simp only[W2,true_and]at u
    obtain⟨rfl,rfl⟩:=u
    have:=Aq (P:=P) (off:=pre.length+o) H C (vs:=vs) (by
      rw[Vj,Xk,V7 U,Wh,VR,XR U,Wi rN];exact hv) an
    simp[execOp,Instr.loadAt,N,fy,Wl,this]
theorem cg.post{o:Oper}{si:Value->ax->Prop}(h:cg r P ag o A si)(O:∀v u,si v u->∃d,aF u d/\K v d):cg r P ag o A K:=
  λa w x y=>Oper.wpIn_mono (λ_ _ ⟨v,C,D,E,H,N⟩=>by obtain⟨d,e,k⟩:=O v C N;exact⟨v,d,D,E,H.bg e,k⟩) (h a w x y)
theorem cg.ex{o:Oper}{α:Type}{B:α->ax}{rest:List ax}(h:∀x,cg r P ag o (ah (B x::rest)) K):cg r P ag o (ah (fj B::rest)) K:=λa w he D=>by
  obtain⟨N,E,p,H,d,rfl,⟨z,u⟩,C⟩:=D
  exact h z a w he ⟨_,E,p,H,d,rfl,u,C⟩
theorem cg.pure{o:Oper}{p:Prop}{B:ax}{rest:List ax}(h:p->cg r P ag o (ah (B::rest)) K):cg r P ag o (ah (pure' p B::rest)) K:=λa w he D=>by
  obtain⟨O,E,H,N,d,rfl,⟨z,u⟩,C⟩:=D
  exact h z a w he ⟨_,E,H,N,d,rfl,u,C⟩
theorem eg{hs rest:List ax}{t:TypeId}{x y:Operand}{o sz D:Nat}{w vs:List Value}{v:Value}(n:Nat)(V:q0 P t n=true)(Z:bc ag x=fy ad o)(aq:bc ag y=v)
    (Q:v.cells.toList=vs) (O:vs.all Vo=true) (an:Wa vs.length n=true) (av:0<n) [C:pq hs ad E sz D cap cs rest] (hlen:o+n<=cs.length) (H:dI o vs cs=w) (k:K undef (ah (a1 E sz ad D cap w::rest))):
    cg r P ag ⟨d,.store t x y,ty,ps,bh,g⟩ (ah hs) K:=by
 obtain⟨i,C⟩:=C.tk;have an:=Vd an;refine cg.bg (fI C) (show cg r P ag _ (ah (a1 E sz ad D cap cs::rest)) K from ?_)
 cases ad with
 | none=>exact cg.pure λ⟨_,_,e⟩=>by rw[e]at hlen;simp at hlen;omega
 | some p=>
   refine cg.ex λ⟨pre,u⟩=>cg.pure λ⟨f1,f2,f3,f4,f5⟩=>?_
   obtain⟨af,aB,aG⟩:=p
   simp only[W2,true_and]at f1 f5
   obtain⟨rfl,rfl⟩:=f1
   have W:o+vs.length<=cs.length:=U
   have N:dI (pre.length+o) vs (pre++cs++u)=pre++w++u:=by
     subst H
     unfold dI
     rw[Vj pre cs u,List.take_append,Vs U,Wh,Nat.add_assoc,Xk,V7 U,Wh,VR,
       Wi U,XR U]
     simp[Vj]
   refine cg.post (si:=λv A=>v=undef/\A=ah (aj af E (pre++w++u)::rest))
     (GD 0 (hs:=aj af E (pre++cs++u)::rest) (b:=af) (off:=pre.length+o) (by rw[Z];rfl) rfl aq Q O V an rN N ⟨rfl,rfl⟩) ?_
   rintro v ar ⟨rfl,rfl⟩
   refine⟨_,dO (h8 λh x=>?_) (Vx _),k⟩
   have aA:w.length=cs.length:=by rw[<-H];exact u1 W
   exact⟨(pre,u),⟨rfl,by omega,f3,f4,by simp only[];omega⟩,x⟩
end
end Go.QM
namespace Go.QM
open Go
def ry(P:Program)(E sz bytes:Nat):Bool:=match P.info? E with
  | some i=>Wa i.size sz&&Wa i.bytes bytes&&(match i.zero with|some z=>Wa z.cells.size sz|none=>false)
  | none=>false
theorem tR{P:Program}{E sz bytes:Nat}(h:ry P E sz bytes=true):∃i z,P.info? E=some i/\i.zero=some z/\i.size=sz/\i.bytes=bytes/\z.cells.size=sz:=by unfold ry at h;cases w:P.info? E with|none=>rw[w]at h;cases h|some i=>rw[w]at h;simp only[Vq]at h;obtain⟨⟨C,D⟩,d⟩:=h;(cases u:i.zero with|none=>rw[u]at d;cases d|some z=>rw[u]at d;exact⟨i,z,rfl,u,Vd C,Vd D,Vd d⟩)
section
variable {r : Option Nat} {P : Program} {N : Nat} {ops : Array Oper} {l : List Oper} {Q : ff} {ag : Env} {aS : List Deferred} {A : ax} {K : Value → ax → Prop}
variable {d : Option Tmp} {ty : TypeId} {ps : String} {bh : Array Edge} {g : Option (Nat × Bool)}
variable {t t' : TypeId} {x y : Operand} {k : IntKind} {a b c : Int}
theorem qz{w:World}{E:Nat}{ad:Option Addr}{cs:List Value}{m sz c:Nat}(h:cs=[]\/∃p pre C d,ad=some p/\p=⟨p.block,pre.length,none⟩/\w.heap[p.block]? =some (.cells (pre++cs++C).toArray E d))(hm:m*sz<=cs.length):
    (Vh sz m (.slice ad m c)).run P w=.ok (cs.take (m*sz)).toArray w:=by by_cases D:m*sz=0;cases ad<;>simp[Vh,D,loadCells,loadCellsFrom];rcases h with h|⟨p,pre,C,d,rfl,u,H⟩;simp_all;refine run_firstCells_some w sz m p m c _ (by simp[WL hm]) (λj v N=>?_);obtain⟨af,O,Q⟩:=p;simp only[W2,true_and]at u;obtain⟨rfl,rfl⟩:=u;rw[h5,yX H];grind
theorem ap{hs rest:List ax}{E sz n cap bd m Q:Nat}{ad N:Option Addr}{cs W news:List Value}(bytes:Nat)(aB:hl P t E sz=true)(aG:hl P t' E sz=true)(bG:ry P E sz bytes=true)
    (aI:bc ag x=.slice ad n cap) (aS:bc ag y=.slice N m Q) [ar:pq hs ad E sz n cap cs rest] [hr:bn (ah rest) N bd W] (hm:m*sz<=W.length) (a8:W.take (m*sz)=news) (bl:news.all Vo=true)
    (bp:(n+m)*bytes<=140737488355328) (bW:n+m<=maxLen) (k:∀aY a0,K (.slice aY (n+m) a0) (ah (a1 E sz aY (n+m) a0 (cs++news)::rest))):
    cg r P ag ⟨d,.call ⟨.builtin .append,#[x,y],#[t,t']⟩,ty,ps,bh,g⟩ (ah hs) K:=by
 obtain⟨i,ar⟩:=ar.tk;obtain⟨inf,z,a5,b8,cd,bu,b9⟩:=tR bG;refine cg.bg (fI ar) (show cg r P ag _ (ah (a1 E sz ad n cap cs::rest)) K from ?_);have V:news.length=m*sz:=cp
 have a7:¬((n+m:Nat):Int)>IntKind.i64.max:=(by have:maxLen=9223372036854775807:=rfl;(have e:IntKind.i64.max=9223372036854775807:=by decide);omega);have b7:∀w,(Go.typeInfo E).run P w=.ok inf w:=λw=>by simp[typeInfo,a5]
 have cb:∀w,(Go.zeroValue E).run P w=.ok z w:=λw=>by simp[zeroValue,typeInfo,a5,b8]
 -- the grown slice
 have grow:∀(w:World),sat w (ah rest)->cap<n+m->cs.length=n*sz->(∀C:World,C.heap=w.heap->(Vh sz n (.slice ad n cap)).run P C=.ok cs.toArray C)->
     ∃v C aV,((execOp (bc ag) ⟨d,.call ⟨.builtin .append,#[x,y],#[t,t']⟩,ty,ps,bh,g⟩).run P w=.ok (.value v) C\/((execOp (bc ag) ⟨d,.call ⟨.builtin .append,#[x,y],#[t,t']⟩,ty,ps,bh,g⟩).run P w=.ok .skip C/\v=undef))/\ft w C/\sat C aV/\K v aV:=by
   intro w D bN a3 hold
   have O:(Vh sz m (.slice N m Q)).run P w.drew=.ok news.toArray w.drew:=by
     rw[<-a8];exact qz (hr.rd.sat (w:=w.drew) D) hm
   have bL:=hold w.drew rfl
   have bY:¬(Builtin.nextslicecap (n+m) cap*inf.bytes>2^48):=by
     have:=growslice_fits (need:=n+m) (old:=cap) (bytes:=inf.bytes) bN (by rw[bu];exact bp)
     omega
   have bQ:=grownCap_ge w (n+m) cap E
   have bz:=grownCap_le_maxLen w (n+m) cap E bW
   have cc:¬(((n+m:Nat):Int)>IntKind.i64.max/\(false=true\/inf.bytes=0)):=λ⟨h,_⟩=>a7 h
   refine⟨.slice (some ⟨w.heap.size,0,none⟩) (n+m) (grownCap w (n+m) cap E),w.drew.alloc (.cells (cs.toArray++news.toArray++Vi z.cells (grownCap w (n+m) cap E-(n+m))) E),_,.inl ?_,⟨rfl,rfl,rfl,by simp⟩,?_,k _ _⟩
   · simp only[execOp,resolve,invoke,builtin,XM,Xb,Vm,WH,Vc,Vu,U1,aI,aS,List.getElem?_toArray,Yr,Wk,h1 aB,h1 aG,Xs,XA,if_false]
     rw[al U]
     simp only[Vc,b7,U1,false_or,al bY,Vu,a7,false_and,if_false,run_choose,Question.forced,XA,run_askRoom,Bool.not_false,if_true]
     change W3 (W3 (Sem.run P (Vh sz n (.slice ad n cap)) w.drew) _) _=_
     simp only[bL,O,cb,U1,newRow,Vc,run_newObj,Vu]
     rfl
   · have b0:=o2 (.cells (cs.toArray++news.toArray++Vi z.cells (grownCap w (n+m) cap E-(n+m))) E) (show sat w.drew (ah rest)from D)
     refine b0.bg (dO (h8 λh aq=>?_) (Vx _))
     refine⟨([],(Vi z.cells (grownCap w (n+m) cap E-(n+m))).toList),⟨rfl,?_,bQ,bz,?_⟩,?_⟩
     · simp[a3,V,VJ]
     · simp only[mp,a3,V,Array.length_toList,size_zeroCells,b9,<-VJ]
       exact Vr _ U
     · simp only[aj]
       have e:([]++(cs++news)++(Vi z.cells (grownCap w (n+m) cap E-(n+m))).toList).toArray=cs.toArray++news.toArray++Vi z.cells (grownCap w (n+m) cap E-(n+m)):=by
         apply Array.ext';simp
       rw[e];exact aq
 cases ad with|none=>refine cg.pure λ⟨Z,an,be⟩=>cg.run rfl λw D=>?_;subst Z an be;have D:=D.bg rX;by_cases bi:m=0;subst bi;refine⟨.slice none 0 0,w,ah (a1 E sz none (0+0) 0 ([]++news)::rest),.inl ?_,ft.refl w,D.bg (dH E sz rest|>.trans ?_),by simpa using k none 0⟩;(have O:(Vh sz 0 (.slice N 0 Q)).run P w=.ok #[] w:=by cases N<;>simp[Vh,loadCells,loadCellsFrom]);simp[execOp,resolve,invoke,builtin,XM,aI,aS,h1 aB,h1 aG,Xs,O];have:news=[]:=WR (by simpa using V);subst this;exact Vx _;exact grow w D U cE (λC _=>by simp[Vh])|some p=>refine cg.ex λ⟨pre,H⟩=>cg.pure λ⟨f1,f2,f3,f4,f5⟩=>cg.run rfl λw D=>?_;obtain⟨af,ce,ch⟩:=p;simp only[W2,true_and]at f1 f5;obtain⟨rfl,rfl⟩:=f1;have a2:w.heap[af]? =some (.cells (pre++cs++H).toArray E (0,0)):=(iC (nc af E _)).sat D;have a9:=D.bg rX;by_cases av:n+m<=cap;have O:(Vh sz m (.slice N m Q)).run P w=.ok news.toArray w:=(by rw[<-a8];exact qz (hr.rd.sat a9) hm);have a4:pre.length+n*sz+news.length<=(pre++cs++H).length:=(by have:(n+m)*sz<=cap*sz:=Vr _ av;rw[VJ]at this;simp only[mp];omega);have aA:=run_storeCells_at P af (pre.length+n*sz) E news 0 (pre++cs++H).toArray w a2 (by simpa using a4) (λu hu=>by simpa using List.all_eq_true.1 bl u hu);have Z:(List.take (pre.length+n*sz+0) (pre++cs++H)++news++List.drop (pre.length+n*sz+0+news.length) (pre++cs++H))=pre++(cs++news)++H.drop news.length:=(by(have an:pre.length+n*sz+0=(pre++cs).length:=by simp[f2]);rw[an,List.take_left,Xk,V7 U];simp);dsimp only at aA;rw[Z]at aA;refine⟨.slice (some ⟨af,pre.length,none⟩) (n+m) cap,w.setRow af (pre++(cs++news)++H.drop news.length).toArray,ah (a1 E sz (some ⟨af,pre.length,none⟩) (n+m) cap (cs++news)::rest),.inl ?_,⟨rfl,rfl,rfl,by simp⟩,?_,k _ _⟩;simp only[execOp,resolve,invoke,builtin,XM,Xb,Vm,WH,Vc,Vu,U1,aI,aS,List.getElem?_toArray,Yr,Wk,h1 aB,h1 aG,Xs,XA,if_false];rw[aw av];simp only[Vc,Bool.not_false,if_true,O,U1,h5,aA,Vu];refine(xD (l':=pre++(cs++news)++H.drop news.length) D).bg (dO (h8 λh aq=>?_) (Vx _));refine⟨(pre,H.drop news.length),⟨rfl,by simp[f2,V,VJ],av,f4,?_⟩,aq⟩;simp only[mp,WG];simp only[mp]at a4;omega;exact grow w a9 U f2 (λC hw=>by(have bq:C.heap[af]? =some (.cells (pre++cs++H).toArray E (0,0)):=by rw[hw];exact a2);have:=qz (P:=P) (w:=C) (E:=E) (ad:=some ⟨af,pre.length,none⟩) (cs:=cs) (m:=n) (sz:=sz) (c:=cap) (.inr ⟨_,pre,H,(0,0),rfl,rfl,bq⟩) U;rw[Vs U]at this;exact this)
def qw(ag:Env):List (Nat×Operand)->List (Nat×Value)
  | []=>[]
  | (i,x)::l=>(i,bc ag x)::qw ag l
theorem D5(d:Env)(l:List (Nat×Operand)):l.map (λ(i,x)=>(i,bc d x))=qw d l:=by induction l with|nil=>rfl|cons x l u=>simp[qw,u]
theorem Hb(z:List Value):∀(n i:Nat),i<n*z.length->(Va n z).flatten[i]? =z[i %z.length]?
  | 0,i,h=>by simp at h
  | n+1,i,h=>by
   rw[List.replicate_succ,List.flatten_cons];have u:0<z.length:=by rcases Nat.eq_zero_or_pos z.length with e|e<;>first|exact e|(rw[e]at h;simp at h)
   by_cases d:i<z.length;rw[Vn d,Nat.mod_eq_of_lt d];have d:=Nat.le_of_not_lt d;rw[W7 d,Hb z n (i-z.length) (by rw[VJ]at h;omega),Nat.mod_eq_sub_mod d]
theorem Cu(z:Array Value)(n:Nat):(Array.range (n*z.size)).map (z[· %z.size]!)=(Va n z.toList).flatten.toArray:=by apply Array.ext';apply List.ext_getElem?;intro i;by_cases d:i<n*z.size;grind[Hb,Nat.mod_lt];simp_all
def Di (P:Program) (t len:Nat) (parts:List (Nat×Value)):Option (Nat×Nat×List Value):=match P.underlying t with
  | some (.slice e)=>match P.info? e with
    | some i=>
      match bif Nat.ble (len*i.size) 16777216 then i.zero else none with
      | some z=>match(bif Wa z.cells.size i.size then Instr.fill (λj=>some (j*i.size,i.size)) (Va len z.cells.toList).flatten.toArray parts else none)with
        | some cells=>bif Wa cells.toList.length (len*i.size)&&Nat.ble len maxLen then some (e,i.size,cells.toList)else none
        | none=>none
      | none=>none
    | none=>none
  | _=>none
theorem bs{hs:List ax}{t len E sz:Nat}{parts:List (Nat×Operand)}{cs:List Value}(C:Di P t len (qw ag parts)=some (E,sz,cs))
    (k:∀b,K (.slice (some ⟨b,0,none⟩) len len) (ah (a1 E sz (some ⟨b,0,none⟩) len len cs::hs))):cg r P ag ⟨d,.buildSlice t len parts.toArray,ty,ps,bh,g⟩ (ah hs) K:=by unfold Di at C;cases hu:P.underlying t with|none=>rw[hu]at C;cases C|some u=>rw[hu]at C;(cases u<;>first|(cases C;done)|skip);rename_i e;simp only[]at C;(cases Q:P.info? e with|none=>rw[Q]at C;cases C|some inf=>rw[Q]at C;simp only[]at C;(cases W:Nat.ble (len*inf.size) 16777216 with|false=>rw[W]at C;cases C|true=>rw[W,cond_true]at C;have an:¬(len*inf.size>2^24):=(by have:=Nat.le_of_ble_eq_true W;(have e:2^24=16777216:=by decide);omega);(cases Z:inf.zero with|none=>rw[Z]at C;cases C|some z=>rw[Z]at C;simp only[]at C;split at C;rename_i cells H;have N:(Wa cells.toList.length (len*inf.size)&&Nat.ble len maxLen)=true:=(by cases N:(Wa cells.toList.length (len*inf.size)&&Nat.ble len maxLen)with|false=>rw[N]at C;cases C|true=>rfl);rw[N]at C;simp only[cond_true,Wt,Prod.mk.injEq]at C;obtain⟨rfl,rfl,rfl⟩:=C;simp only[Vq]at N;obtain⟨av,hm⟩:=N;have hlen:=Vd av;refine cg.run rfl λw aB=>⟨.slice (some ⟨w.heap.size,0,none⟩) len len,w.alloc (.cells cells e),_,.inl ?_,⟨rfl,rfl,rfl,by simp⟩,(o2 _ aB).bg (dO (h8 λh ar=>?_) (Vx _)),k w.heap.size⟩;have D:Wa z.cells.size inf.size=true:=(by cases aq:Wa z.cells.size inf.size with|false=>rw[aq]at H;cases H|true=>rfl);rw[D,cond_true]at H;have D:=Vd D;(have fD:∀w,(underlying t).run P w=.ok (.slice e) w:=λw=>by simp[underlying,hu]);(have aG:∀w,(XK e).run P w=.ok inf.size w:=λw=>by simp[XK,typeInfo,Q]);have aA:List.map (λx=>match x with|(i,x)=>(i,bc ag x)) parts=qw ag parts:=D5 ag parts;simp only[execOp,Instr.buildSlice,Xb,Vc,fD,aG,U1,aA];rw[al an];(have aI:∀w,(zeroValue e).run P w=.ok z w:=λw=>by simp[zeroValue,typeInfo,Q,Z]);by_cases O:len*inf.size=0;rw[aw O];have V:(Array.range (len*inf.size)).map ((#[]:Array Value)[· %(#[]:Array Value).size]!)=(Va len z.cells.toList).flatten.toArray:=(by rw[O];have:((Va len z.cells.toList).flatten)=[]:=WR (by simp[D,O]);rw[this];apply Array.ext<;>simp);simp only[Vc,U1,Vu,V,H,newRow,run_newObj];rfl;rw[al O];have V:=Cu z.cells len;rw[D]at V;simp only[Vc,U1,Vu,aI,D,V,H,newRow,run_newObj];rfl;refine⟨([],[]),⟨rfl,hlen,UW _,by simpa using hm,by simp only[List.length_nil];omega⟩,?_⟩;simp only[aj,VR,VK,Array.toArray_toList];exact ar;cases C)))
theorem AE{hs:List ax}{E n:Nat}{z:Value}(bytes:Nat)(N:hl P t E 1=true)(O:ry P E 1 bytes=true)(aV:ly P E=some z)(aY:z.cells=#[z])(Z:bc ag x=.int .i64 (n:Int))(an:bc ag y=.int .i64 (n:Int))(aA:bytes*n<=281474976710656)(hm:n<=maxLen)
    (k:∀b,K (.slice (some ⟨b,0,none⟩) n n) (ah (a1 E 1 (some ⟨b,0,none⟩) n n (Va n z)::hs))):cg r P ag ⟨d,.makeSlice t x y,ty,ps,bh,g⟩ (ah hs) K:=by
 obtain⟨inf,u,H,aq,aS,aG,a0⟩:=tR O;have av:u=z:=by grind[ly]
 subst av;have aI:maxLen=9223372036854775807:=rfl;have hw:IntKind.i64.wrap (n:Int)=n:=by grind[m8]
 have D:((Array.range n).map ((if n=0 then #[]else u.cells)[· %(if n=0 then(#[]:Array Value)else u.cells).size]!))=(Va n u).toArray:=cp;have aB:((inf.bytes:Int)*(n:Int))<=281474976710656:=cp;have W:(decide ((n:Int)<0)||decide ((inf.bytes:Int)*(n:Int)>2^48))=false:=b2;refine cg.run rfl λw V=>⟨.slice (some ⟨w.heap.size,0,none⟩) n n,w.alloc (.cells (Va n u).toArray E),_,.inl ?_,⟨rfl,rfl,rfl,by simp⟩,(o2 _ V).bg (dO (h8 λh Q=>?_) (Vx _)),k w.heap.size⟩;have ar:∀w,(zeroValue E).run P w=.ok u w:=λw=>by simp[zeroValue,typeInfo,H,aq]
 simp only[execOp,Instr.makeSlice,Vc,h1 N,U1,Z,an,asInt,asIntOf,Vu,typeInfo,run_program,H,hw,W];rw[al cE];simp only[Vc,run_askRoom,h1 N,U1,Int.toNat_natCast,Nat.mul_one];by_cases C:n=0;rw[aw C];simp only[aw C]at D;simp only[Vc,U1,Vu,D,newRow,run_newObj];trivial;rw[al C];simp only[al C]at D;simp only[Vc,U1,Vu,ar,D,newRow,run_newObj];trivial;refine⟨([],[]),⟨rfl,by simp,UW _,hm,by simp⟩,?_⟩;simp only[aj,VR,VK];exact Q
def rQ (P:Program):List Field->Option (List (Nat×Nat))
  | []=>some []
  | f::pK=>match P.info? f.type,rQ P pK with
    | some i,some r=>some ((f.offset,i.size)::r)
    | _,_=>none
theorem GR:∀{d:List Field} {r:List (Nat×Nat)},rQ P d=some r->∀w,(d.mapM (m:=Sem) λf=>do pure (f.offset,<-XK f.type)).run P w=.ok r w
  | [],_,h,w=>by simp only[rQ,Wt]at h;subst h;simp
  | f::d,r,h,w=>by simp only[rQ]at h;cases u:P.info? f.type with|none=>rw[u]at h;cases h|some i=>(cases C:rQ P d with|none=>rw[u,C]at h;cases h|some E=>rw[u,C]at h;simp only[Wt]at h;subst h;(have D:(XK f.type).run P w=.ok i.size w:=by simp[XK,typeInfo,u]);simp only[List.mapM_cons,Vc,Vu,D,U1,GR C w])
def De (P:Program) (t:TypeId) (parts:List (Nat×Value)):Option (List Value):=match P.underlying t,ly P t with
  | some (.struct pK),some z=>match rQ P pK.toList with
    | some r=>(Instr.fill (r[·]?) z.cells parts).map (·.toList)
    | none=>none
  | _,_=>none
theorem eh{parts:List (Nat×Operand)}{cs:List Value}(C:De P t (qw ag parts)=some cs):bA P ag ⟨d,.build t parts.toArray,ty,ps,bh,g⟩ A (.agg cs.toArray):=by intro w _;unfold De at C;cases hu:P.underlying t with|none=>rw[hu]at C;cases C|some u=>(cases H:ly P t with|none=>rw[hu,H]at C;cases u<;>cases C|some z=>rw[hu,H]at C;(cases u<;>first|(cases C;done)|skip);rename_i D;simp only[]at C;(cases E:rQ P D.toList with|none=>rw[E]at C;cases C|some N=>rw[E]at C;simp only[Option.map_eq_some_iff]at C;obtain⟨cells,O,rfl⟩:=C;(have fD:(underlying t).run P w=.ok (.struct D) w:=by simp[underlying,hu]);have hm:(D.mapM (m:=Sem) λf=>do pure (f.offset,<-XK f.type)).run P w=.ok N.toArray w:=(by(have e:D=D.toList.toArray:=by simp);rw[e,List.mapM_toArray];simp only[Sem.run_map];have:=GR E w;exact(congrArg (λx=>W3 x _) this));have V:List.map (λx=>match x with|(i,x)=>(i,bc ag x)) parts=qw ag parts:=D5 ag parts;(have Q:Instr.fill (λx=>N.toArray[x]?) z.cells (qw ag parts)=some cells:=by simpa using O);simp only[execOp,Instr.build,Xb,V,Vc,vm H,U1,fD,hm,Q,Vu,Array.toArray_toList]))
theorem AG{fn:Fn}{u cs:List Operand}{vg vf:List Value}(D:lT ag u=vg)(C:lT ag cs=vf):bA P ag ⟨d,.makeFunc fn u.toArray cs.toArray,ty,ps,bh,g⟩ A (.func fn vg.toArray vf.toArray):=by intro w _;simp[execOp,Instr.makeFunc,zq,D,C]
end
end Go.QM
