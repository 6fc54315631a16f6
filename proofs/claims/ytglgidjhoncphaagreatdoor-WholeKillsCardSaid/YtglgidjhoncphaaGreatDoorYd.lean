/- Proved here: contracts of functions of this program, under the premises that each theorem names. -/
import Derived.Laws.AppendOwn
import Derived.Test.YtglgidjhoncphaaGreatDoorYc
set_option linter.all false
set_option maxRecDepth 4000
set_option maxHeartbeats 4000000
open List renaming length_append->mp,replicate->UK,append_assoc->UT,map_cons->UX,take_of_length_le->U1,take_append_drop->Vd,append_nil->Vg,nil_append->Vn,drop_eq_nil_of_le->VE,getElem?_append_left->VK,take_append_of_le_length->VS,getElem?_cons_succ->VU,length_drop->Wh,map_nil->Wi,eq_nil_of_length_eq_zero->Wq,map_toArray->WH,drop_append->WP,drop_append_of_le_length->Xo,getElem?_append_right->XH,getElem?_cons_zero->XY
open Nat renaming le_refl->Uw,eq_of_beq_eq_true->UM,mul_le_mul_right->U0,add_mul->Vf,beq->VI,add_sub_cancel_left->VR,min_eq_left->Wl
open Go.Result renaming andThen_ok->UA,andThen->WB
open Go.Sem renaming run_bind->UL,run_pure->U2
open Go.Builtin renaming firstCells->UQ,zeroCells->UR,lenOf->WX,append_->Xi
open Bool renaming and_eq_true->UW,false_eq_true->W5
open Go.Value renaming oneCell'->UY
open Go.QM.aF renaming refl->U5
open Go.Instr renaming sureAddr->VV,indexAt->WQ
open Option.some renaming injEq->V3
open Go.Addr.mk renaming injEq->WA
open Go renaming sizeOf->Xg
namespace Go.QM
open Go
def aT(E sz:Nat)(ad:Option Addr)(n cap:Nat)(cs:List Value):ax:=match ad with
  | none=>pure' (n=0/\cap=0/\cs=[]) km
  | some p=>fj λx:List Value×List Value=>
      pure' (p=⟨p.block,x.1.length,none⟩/\cs.length=n*sz/\n<=cap/\cap<=maxLen/\cap*sz<=cs.length+x.2.length) (aj p.block E (x.1++cs++x.2))
theorem dH(E sz:Nat)(hs:List ax):aF (ah hs) (ah (aT E sz none 0 0 []::hs)):=
  (pL.trans nt).trans (dP (h1 λ_ h=>⟨⟨rfl,rfl,rfl⟩,h⟩) (U5 _))
def vi(h:kh)(E:Nat)(ad:Option Addr)(cs:List Value):Prop:=
  cs=[]\/∃p pre Sj lG,ad=some p/\p=⟨p.block,pre.length,none⟩/\h p.block=some (.cells (pre++cs++Sj).toArray E lG)
def cM(A:ax)(E:Nat)(ad:Option Addr)(cs:List Value):Prop:=∀h,A h->vi h E ad cs
variable{E:Nat}{ad:Option Addr}{cs:List Value}
theorem vi.sub{h d:kh}(x:vi h E ad cs)(s:kY h d):vi d E ad cs:=by rcases x with x|⟨p,pre,H,u,w,C,D⟩;exact .inl x;exact .inr ⟨p,pre,H,u,w,C,s _ _ D⟩
theorem yc(E sz:Nat)(ad:Option Addr)(n cap:Nat)(cs:List Value):cM (aT E sz ad n cap cs) E ad cs:=by intro h d;cases ad with|none=>exact .inl d.1.2.2|some p=>obtain⟨⟨pre,C⟩,⟨u,_⟩,w⟩:=d;exact .inr ⟨p,pre,C,(0,0),rfl,u,by rw[w];simp⟩
variable{A:ax}
theorem qc{B:ax}(x:cM A E ad cs):cM (sep A B) E ad cs:=by rintro h ⟨a,b,d,rfl,u,w⟩;exact(x a u).sub (qs a b)
theorem tj{B:ax}(x:cM B E ad cs):cM (sep A B) E ad cs:=by rintro h ⟨a,b,d,rfl,w,u⟩;exact(x b u).sub (tX d)
theorem vk{B:ax}(e:aF A B)(x:cM B E ad cs):cM A E ad cs:=λh a=>
  let⟨d,s,u⟩:=e h a;(x d u).sub s
theorem Jl(x:cM A E ad cs)(k:Nat):cM A E ad (cs.take k):=λh a=>by
  rcases x h a with x|⟨p,pre,D,d,u,w,C⟩
  · exact .inl (by simp[x])
  · refine .inr ⟨p,pre,cs.drop k++D,d,u,w,?_⟩
    rw[C,UT pre (cs.take k),<-UT (cs.take k),Vd,UT]
variable{sz cap:Nat}
theorem Ck(x:cM A E ad cs){n j:Nat}(N:cs.length=n*sz)(H:j<=n)(P:n<=cap):cM A E (dI ad cap j sz) (cs.drop (j*sz)):=λh a=>by
  by_cases D:cap=j
  · left
    have:n=j:=U
    subst this
    rw[List.drop_eq_nil_iff];omega
  · rcases x h a with x|⟨p,pre,O,d,u,w,C⟩
    · exact .inl (by simp[x])
    · have hle:j*sz<=cs.length:=by rw[N];exact U0 _ H
      refine .inr ⟨⟨p.block,pre.length+j*sz,none⟩,pre++cs.take (j*sz),O,d,?_,?_,?_⟩
      · rw[u,w];simp[dI,D,ix]
      · simp[Wl hle]
      · rw[C,UT pre (cs.take _),Vd]
class bl(A:ax)(ad:Option Addr)(E:outParam Nat)(cs:outParam (List Value)):Prop where
  rd:cM A E ad cs
instance (E sz:Nat)(ad:Option Addr)(n cap:Nat)(cs:List Value):bl (aT E sz ad n cap cs) ad E cs:=⟨yc E sz ad n cap cs⟩
instance (A:ax)(l:List ax)(ad:Option Addr)(E:Nat)(cs:List Value)[h:bl (ah l) ad E cs]:bl (ah (A::l)) ad E cs:=⟨tj h.rd⟩
instance (A:ax)(l:List ax)(ad:Option Addr)(E:Nat)(cs:List Value)[h:bl A ad E cs]:bl (ah (A::l)) ad E cs:=⟨qc h.rd⟩
class o8(hs:List ax)(ad:Option Addr)(E sz n cap:outParam Nat)(cs:outParam (List Value))(r:outParam (List ax)):Prop where
  tk:∃i,eT i hs=some (aT E sz ad n cap cs,r)
instance (ad:Option Addr)(E sz n cap:Nat)(cs:List Value)(r:List ax):o8 (aT E sz ad n cap cs::r) ad E sz n cap cs r:=⟨0,rfl⟩
instance (A:ax)(hs:List ax)(ad:Option Addr)(E sz n cap:Nat)(cs:List Value)(r:List ax)[h:o8 hs ad E sz n cap cs r]:o8 (A::hs) ad E sz n cap cs (A::r):=⟨by
  obtain⟨i,pt⟩:=h.tk
  exact⟨i+1,by simp[eT,pt]⟩⟩
theorem mn{n:Nat}{h:kh}(x:aT E sz ad n cap cs h):cs.length=n*sz/\n<=cap/\cap<=maxLen/\(ad=none->n=0):=by cases ad with|none=>obtain⟨⟨rfl,rfl,rfl⟩,_⟩:=x;simp|some p=>obtain⟨⟨pre,C⟩,⟨_,d,u,w,_⟩,_⟩:=x;exact⟨d,u,w,λe=>by cases e⟩
theorem Bj{n:Nat}{j:Nat}(D:j<=n):aF (aT E sz ad n cap cs) (aT E sz (dI ad cap j sz) (n-j) (cap-j) (cs.drop (j*sz))):=h1 λh x=>by
  obtain⟨f1,f2,f3,_⟩:=mn x
  cases ad with
  | none=>
    obtain⟨⟨rfl,rfl,rfl⟩,x⟩:=x
    obtain rfl:j=0:=by omega
    simp only[dI,if_true]
    exact⟨⟨by simp,by simp,by simp⟩,x⟩
  | some p=>
    obtain⟨⟨pre,w⟩,⟨d,N,O,P,C⟩,x⟩:=x
    have hle:j*sz<=cs.length:=by rw[f1];exact U0 _ D
    by_cases u:cap=j
    · have H:n=j:=U
      subst u H
      simp only[dI,if_true,Nat.sub_self]
      refine⟨(pre,cs++w),⟨d,?_,Uw _,Nat.zero_le _,by simp⟩,?_⟩
      · simp only[Wh];omega
      · have:cs.drop (n*sz)=[]:=by rw[List.drop_eq_nil_iff];omega
        rw[this];simpa using x
    · have:dI (some p) cap j sz=some ⟨p.block,pre.length+j*sz,none⟩:=by rw[d];simp[dI,u,ix]
      rw[this]
      refine⟨(pre++cs.take (j*sz),w),⟨?_,?_,by omega,by omega,?_⟩,?_⟩
      · simp[Wl hle]
      · simp only[Wh,f1,Nat.sub_mul]
      · simp only[Wh,Nat.sub_mul];simp only[]at C;omega
      · simp only[]
        rw[UT pre,Vd];exact x
theorem pM{n:Nat}{j:Nat}(C:j<=n):aF (aT E sz ad n cap cs) (aT E sz ad j cap (cs.take (j*sz))):=h1 λh x=>by
  obtain⟨f1,f2,f3,_⟩:=mn x
  have hle:j*sz<=cs.length:=by rw[f1];exact U0 _ C
  cases ad with
  | none=>
    obtain⟨⟨rfl,rfl,rfl⟩,x⟩:=x
    obtain rfl:j=0:=by omega
    exact⟨⟨rfl,rfl,by simp⟩,x⟩
  | some p=>
    obtain⟨⟨pre,d⟩,⟨u,D,H,N,w⟩,x⟩:=x
    refine⟨(pre,cs.drop (j*sz)++d),⟨u,by simp[Wl hle],by omega,f3,?_⟩,?_⟩
    · simp only[]at w;simp;omega
    · simp only[]
      rw[show pre++List.take (j*sz) cs++(List.drop (j*sz) cs++d)=pre++cs++d by
        rw[UT,<-UT (List.take _ _),Vd,UT]]
      exact x
section
variable {r : Option Nat} {P : Program} {N : Nat} {ops : Array Oper} {l : List Oper} {Q : ff} {ag : Env} {aQ : List Deferred} {A : ax} {K : Value → ax → Prop}
variable {d : Option Tmp} {ty : TypeId} {ps : String} {bh : Array Edge} {g : Option (Nat × Bool)}
variable {t t' : TypeId} {x y : Operand} {k : IntKind} {a b c : Int}
variable{ad:Option Addr}{cs:List Value}{E:Nat}
theorem cM.sat(x:cM A E ad cs){w:World}(h:QM.sat w A):
    cs=[]\/∃p pre u d,ad=some p/\p=⟨p.block,pre.length,none⟩/\w.heap[p.block]? =some (.cells (pre++cs++u).toArray E d):=by obtain⟨D,P,C⟩:=h;rcases x D C with x|⟨p,pre,u,d,H,N,O⟩;all_goals grind
theorem cM.AD(x:cM A E ad cs){w:World}(h:QM.sat w A)(au:cs≠[]):∃p,ad=some p/\p.spot=none:=by rcases x.sat h with x|⟨p,pre,H,d,u,C,D⟩;all_goals grind
variable{cap:Nat}
theorem gD(E sz:Nat){D:Nat}{n i:Nat}(O:hc P t E sz=true)(Q:bb ag x=.slice ad n cap)(V:bb ag y=.int .i64 (i:Int))[hr:bl A ad D cs](H:i<n)(u:0<cs.length):
    bz P ag ⟨d,.indexAddr t x y,ty,ps,bh,g⟩ A (fU ad (i*sz)):=λw N=>by
  obtain⟨p,rfl,C⟩:=hr.rd.AD N (by intro e;rw[e]at u;cases u)
  obtain⟨af,W,Z⟩:=p
  simp only at C;subst C
  simp[execOp,WQ,Q,V,asIntOf,hV O,H,ix,fU]
theorem kv(E sz:Nat){D:Nat}{n:Nat}{j:Int}(Q:hc P t E sz=true)(V:bb ag x=.slice ad n cap)(W:bb ag y=.int .i64 j)[hr:bl A ad D cs](H:0<=j)(N:j<n)(u:0<cs.length):
    bz P ag ⟨d,.indexAddr t x y,ty,ps,bh,g⟩ A (fU ad (j.toNat*sz)):=λw O=>by
  obtain⟨p,rfl,C⟩:=hr.rd.AD O (by intro e;rw[e]at u;cases u)
  obtain⟨af,Z,an⟩:=p
  simp only at C;subst C
  simp[execOp,WQ,V,W,asIntOf,hV Q,H,N,ix,fU]
theorem mK{s:TypeId}{x:Operand}{f:Nat}{u H:Nat}(o:Nat)(N:vZ P s f o=true)(O:bb ag x=fU ad u)[hr:bl A ad H cs](C:0<cs.length):
    bz P ag ⟨d,.fieldAddr s x f,ty,ps,bh,g⟩ A (fU ad (u+o)):=λw E=>by
  obtain⟨p,rfl,D⟩:=hr.rd.AD E (by intro e;rw[e]at C;cases C)
  obtain⟨af,Q,V⟩:=p
  simp only at D;subst D
  have:=(cW (A:=A) (d:=d) (ty:=ty) (ps:=ps) (bh:=bh) (g:=g) o N (show bb ag x=.pointer (some ⟨af,Q+u,none⟩)by rw[O];rfl)) w E
  rw[this];simp[fU,Nat.add_assoc]
theorem dv{t:TypeId}{x:Operand}{o:Nat}{v:Value}(N:mf P t=true)(O:bb ag x=fU ad o)[hr:bl A ad E cs](hv:cs[o]? =some v):
    bz P ag ⟨d,.load t x,ty,ps,bh,g⟩ A v:=λw H=>by
  rcases hr.rd.sat H with h|⟨p,pre,Z,Q,rfl,u,C⟩
  · rw[h]at hv;simp at hv
  · have D:o<cs.length:=(List.getElem?_eq_some_iff.1 hv).1
    obtain⟨af,V,W⟩:=p
    simp only[WA,true_and]at u
    obtain⟨rfl,rfl⟩:=u
    have:=Ac (P:=P) (off:=pre.length+o) N C (v:=v) (by
      rw[UT,XH U,VR,VK D];exact hv)
    simp[execOp,Instr.loadAt,O,fU,VV,this]
theorem gK{t:TypeId}{x:Operand}{o:Nat}{vs:List Value}(n:Nat)(H:qe P t n=true)(N:bb ag x=fU ad o)[hr:bl A ad E cs](hv:(cs.drop o).take n=vs)(au:vs.length=n)(Q:0<n):
    bz P ag ⟨d,.load t x,ty,ps,bh,g⟩ A (.agg vs.toArray):=λw D=>by
  have hlen:o+n<=cs.length:=by
    rw[<-hv]at au;simp only[List.length_take,Wh]at au;omega
  rcases hr.rd.sat D with h|⟨p,pre,Z,O,rfl,u,C⟩
  · rw[h]at hlen;simp at hlen;omega
  · obtain⟨af,V,W⟩:=p
    simp only[WA,true_and]at u
    obtain⟨rfl,rfl⟩:=u
    have:=Ab (P:=P) (off:=pre.length+o) H C (vs:=vs) (by
      rw[UT,WP,VE U,VR,Vn,Xo U,VS rx];exact hv) au
    simp[execOp,Instr.loadAt,N,fU,VV,this]
theorem cj.post{o:Oper}{r8:Value->ax->Prop}(h:cj r P ag o A r8)(O:∀v u,r8 v u->∃d,aF u d/\K v d):cj r P ag o A K:=
  λa w x y=>Oper.wpIn_mono (λ_ _ ⟨v,C,D,E,H,N⟩=>by obtain⟨d,e,k⟩:=O v C N;exact⟨v,d,D,E,H.bf e,k⟩) (h a w x y)
theorem cj.ex{o:Oper}{α:Type}{B:α->ax}{rest:List ax}(h:∀x,cj r P ag o (ah (B x::rest)) K):cj r P ag o (ah (fj B::rest)) K:=λa w he D=>by
  obtain⟨N,E,p,H,d,rfl,⟨z,u⟩,C⟩:=D
  exact h z a w he ⟨_,E,p,H,d,rfl,u,C⟩
theorem cj.pure{o:Oper}{p:Prop}{B:ax}{rest:List ax}(h:p->cj r P ag o (ah (B::rest)) K):cj r P ag o (ah (pure' p B::rest)) K:=λa w he D=>by
  obtain⟨O,E,H,N,d,rfl,⟨z,u⟩,C⟩:=D
  exact h z a w he ⟨_,E,H,N,d,rfl,u,C⟩
theorem ef{hs rest:List ax}{t:TypeId}{x y:Operand}{o sz D:Nat}{w vs:List Value}{v:Value}(n:Nat)(V:qO P t n=true)(Z:bb ag x=fU ad o)(an:bb ag y=v)
    (Q:v.cells.toList=vs) (O:vs.all UY=true) (au:VI vs.length n=true) (ar:0<n) [C:o8 hs ad E sz D cap cs rest] (hlen:o+n<=cs.length) (H:dJ o vs cs=w) (k:K undef (ah (aT E sz ad D cap w::rest))):
    cj r P ag ⟨d,.store t x y,ty,ps,bh,g⟩ (ah hs) K:=by
 obtain⟨i,C⟩:=C.tk;have au:=UM au;refine cj.bf (fC C) (show cj r P ag _ (ah (aT E sz ad D cap cs::rest)) K from ?_)
 cases ad with
 | none=>exact cj.pure λ⟨_,_,e⟩=>by rw[e]at hlen;simp at hlen;omega
 | some p=>
   refine cj.ex λ⟨pre,u⟩=>cj.pure λ⟨f1,f2,f3,f4,f5⟩=>?_
   obtain⟨af,aC,aH⟩:=p
   simp only[WA,true_and]at f1 f5
   obtain⟨rfl,rfl⟩:=f1
   have W:o+vs.length<=cs.length:=U
   have N:dJ (pre.length+o) vs (pre++cs++u)=pre++w++u:=by
     subst H
     unfold dJ
     rw[UT pre cs u,List.take_append,U1 U,VR,Nat.add_assoc,WP,VE U,VR,Vn,
       VS U,Xo U]
     simp[UT]
   refine cj.post (r8:=λv A=>v=undef/\A=ah (aj af E (pre++w++u)::rest))
     (Gc 0 (hs:=aj af E (pre++cs++u)::rest) (b:=af) (off:=pre.length+o) (by rw[Z];rfl) rfl an Q O V au rx N ⟨rfl,rfl⟩) ?_
   rintro v ao ⟨rfl,rfl⟩
   refine⟨_,dP (h1 λh x=>?_) (U5 _),k⟩
   have aA:w.length=cs.length:=by rw[<-H];exact uL W
   exact⟨(pre,u),⟨rfl,by omega,f3,f4,by simp only[];omega⟩,x⟩
end
end Go.QM
namespace Go.QM
open Go
def rb(P:Program)(E sz bytes:Nat):Bool:=match P.info? E with
  | some i=>VI i.size sz&&VI i.bytes bytes&&(match i.zero with|some z=>VI z.cells.size sz|none=>false)
  | none=>false
theorem tJ{P:Program}{E sz bytes:Nat}(h:rb P E sz bytes=true):∃i z,P.info? E=some i/\i.zero=some z/\i.size=sz/\i.bytes=bytes/\z.cells.size=sz:=by unfold rb at h;cases w:P.info? E with|none=>rw[w]at h;cases h|some i=>rw[w]at h;simp only[UW]at h;obtain⟨⟨C,D⟩,d⟩:=h;(cases u:i.zero with|none=>rw[u]at d;cases d|some z=>rw[u]at d;exact⟨i,z,rfl,u,UM C,UM D,UM d⟩)
section
variable {r : Option Nat} {P : Program} {N : Nat} {ops : Array Oper} {l : List Oper} {Q : ff} {ag : Env} {aQ : List Deferred} {A : ax} {K : Value → ax → Prop}
variable {d : Option Tmp} {ty : TypeId} {ps : String} {bh : Array Edge} {g : Option (Nat × Bool)}
variable {t t' : TypeId} {x y : Operand} {k : IntKind} {a b c : Int}
theorem qo{w:World}{E:Nat}{ad:Option Addr}{cs:List Value}{m sz c:Nat}(h:cs=[]\/∃p pre C d,ad=some p/\p=⟨p.block,pre.length,none⟩/\w.heap[p.block]? =some (.cells (pre++cs++C).toArray E d))(hm:m*sz<=cs.length):
    (UQ sz m (.slice ad m c)).run P w=.ok (cs.take (m*sz)).toArray w:=by by_cases D:m*sz=0;cases ad<;>simp[UQ,D,loadCells,loadCellsFrom];rcases h with h|⟨p,pre,C,d,rfl,u,H⟩;simp_all;refine run_firstCells_some w sz m p m c _ (by simp[Wl hm]) (λj v N=>?_);obtain⟨af,O,Q⟩:=p;simp only[WA,true_and]at u;obtain⟨rfl,rfl⟩:=u;rw[ix,yG H];grind
theorem ap{hs rest:List ax}{E sz n cap be m Q:Nat}{ad N:Option Addr}{cs W news:List Value}(bytes:Nat)(aC:hc P t E sz=true)(aH:hc P t' E sz=true)(bI:rb P E sz bytes=true)
    (aK:bb ag x=.slice ad n cap) (aQ:bb ag y=.slice N m Q) [ar:o8 hs ad E sz n cap cs rest] [hr:bl (ah rest) N be W] (hm:m*sz<=W.length) (a9:W.take (m*sz)=news) (bo:news.all UY=true)
    (br:(n+m)*bytes<=140737488355328) (bY:n+m<=maxLen) (k:∀a0 a2,K (.slice a0 (n+m) a2) (ah (aT E sz a0 (n+m) a2 (cs++news)::rest))):
    cj r P ag ⟨d,.call ⟨.builtin .append,#[x,y],#[t,t']⟩,ty,ps,bh,g⟩ (ah hs) K:=by
 obtain⟨i,ar⟩:=ar.tk;obtain⟨inf,z,a7,b9,ce,bD,ca⟩:=tJ bI;refine cj.bf (fC ar) (show cj r P ag _ (ah (aT E sz ad n cap cs::rest)) K from ?_);have V:news.length=m*sz:=cr
 have a8:¬((n+m:Nat):Int)>IntKind.i64.max:=(by have:maxLen=9223372036854775807:=rfl;(have e:IntKind.i64.max=9223372036854775807:=by decide);omega);have b6:∀w,(Go.typeInfo E).run P w=.ok inf w:=λw=>by simp[typeInfo,a7]
 have cc:∀w,(Go.zeroValue E).run P w=.ok z w:=λw=>by simp[zeroValue,typeInfo,a7,b9]
 -- the grown slice
 have grow:∀(w:World),sat w (ah rest)->cap<n+m->cs.length=n*sz->(∀C:World,C.heap=w.heap->(UQ sz n (.slice ad n cap)).run P C=.ok cs.toArray C)->
     ∃v C aX,((execOp (bb ag) ⟨d,.call ⟨.builtin .append,#[x,y],#[t,t']⟩,ty,ps,bh,g⟩).run P w=.ok (.value v) C\/((execOp (bb ag) ⟨d,.call ⟨.builtin .append,#[x,y],#[t,t']⟩,ty,ps,bh,g⟩).run P w=.ok .skip C/\v=undef))/\fr w C/\sat C aX/\K v aX:=by
   intro w D bP a4 hold
   have O:(UQ sz m (.slice N m Q)).run P w.drew=.ok news.toArray w.drew:=by
     rw[<-a9];exact qo (hr.rd.sat (w:=w.drew) D) hm
   have bO:=hold w.drew rfl
   have bZ:¬(Builtin.nextslicecap (n+m) cap*inf.bytes>2^48):=by
     have:=growslice_fits (need:=n+m) (old:=cap) (bytes:=inf.bytes) bP (by rw[bD];exact br)
     omega
   have bX:=grownCap_ge w (n+m) cap E
   have bE:=grownCap_le_maxLen w (n+m) cap E bY
   have cd:¬(((n+m:Nat):Int)>IntKind.i64.max/\(false=true\/inf.bytes=0)):=λ⟨h,_⟩=>a8 h
   refine⟨.slice (some ⟨w.heap.size,0,none⟩) (n+m) (grownCap w (n+m) cap E),w.drew.alloc (.cells (cs.toArray++news.toArray++UR z.cells (grownCap w (n+m) cap E-(n+m))) E),_,.inl ?_,⟨rfl,rfl,rfl,by simp⟩,?_,k _ _⟩
   · simp only[execOp,resolve,invoke,builtin,Xi,WH,UX,Wi,UL,U2,UA,aK,aQ,List.getElem?_toArray,XY,VU,hV aC,hV aH,WX,W5,if_false]
     rw[al U]
     simp only[UL,b6,UA,false_or,al bZ,U2,a8,false_and,if_false,run_choose,Question.forced,W5,run_askRoom,Bool.not_false,if_true]
     change WB (WB (Sem.run P (UQ sz n (.slice ad n cap)) w.drew) _) _=_
     simp only[bO,O,cc,UA,newRow,UL,run_newObj,U2]
     rfl
   · have b5:=oP (.cells (cs.toArray++news.toArray++UR z.cells (grownCap w (n+m) cap E-(n+m))) E) (show sat w.drew (ah rest)from D)
     refine b5.bf (dP (h1 λh ao=>?_) (U5 _))
     refine⟨([],(UR z.cells (grownCap w (n+m) cap E-(n+m))).toList),⟨rfl,?_,bX,bE,?_⟩,?_⟩
     · simp[a4,V,Vf]
     · simp only[mp,a4,V,Array.length_toList,size_zeroCells,ca,<-Vf]
       exact U0 _ U
     · simp only[aj]
       have e:([]++(cs++news)++(UR z.cells (grownCap w (n+m) cap E-(n+m))).toList).toArray=cs.toArray++news.toArray++UR z.cells (grownCap w (n+m) cap E-(n+m)):=by
         apply Array.ext';simp
       rw[e];exact ao
 cases ad with|none=>refine cj.pure λ⟨Z,an,bk⟩=>cj.run rfl λw D=>?_;subst Z an bk;have D:=D.bf rJ;by_cases bm:m=0;subst bm;refine⟨.slice none 0 0,w,ah (aT E sz none (0+0) 0 ([]++news)::rest),.inl ?_,fr.refl w,D.bf (dH E sz rest|>.trans ?_),by simpa using k none 0⟩;(have O:(UQ sz 0 (.slice N 0 Q)).run P w=.ok #[] w:=by cases N<;>simp[UQ,loadCells,loadCellsFrom]);simp[execOp,resolve,invoke,builtin,Xi,aK,aQ,hV aC,hV aH,WX,O];have:news=[]:=Wq (by simpa using V);subst this;exact U5 _;exact grow w D U cF (λC _=>by simp[UQ])|some p=>refine cj.ex λ⟨pre,H⟩=>cj.pure λ⟨f1,f2,f3,f4,f5⟩=>cj.run rfl λw D=>?_;obtain⟨af,cf,cg⟩:=p;simp only[WA,true_and]at f1 f5;obtain⟨rfl,rfl⟩:=f1;have a3:w.heap[af]? =some (.cells (pre++cs++H).toArray E (0,0)):=(iw (mY af E _)).sat D;have bd:=D.bf rJ;by_cases au:n+m<=cap;have O:(UQ sz m (.slice N m Q)).run P w=.ok news.toArray w:=(by rw[<-a9];exact qo (hr.rd.sat bd) hm);have a5:pre.length+n*sz+news.length<=(pre++cs++H).length:=(by have:(n+m)*sz<=cap*sz:=U0 _ au;rw[Vf]at this;simp only[mp];omega);have aA:=run_storeCells_at P af (pre.length+n*sz) E news 0 (pre++cs++H).toArray w a3 (by simpa using a5) (λu hu=>by simpa using List.all_eq_true.1 bo u hu);have Z:(List.take (pre.length+n*sz+0) (pre++cs++H)++news++List.drop (pre.length+n*sz+0+news.length) (pre++cs++H))=pre++(cs++news)++H.drop news.length:=(by(have an:pre.length+n*sz+0=(pre++cs).length:=by simp[f2]);rw[an,List.take_left,WP,VE U];simp);dsimp only at aA;rw[Z]at aA;refine⟨.slice (some ⟨af,pre.length,none⟩) (n+m) cap,w.setRow af (pre++(cs++news)++H.drop news.length).toArray,ah (aT E sz (some ⟨af,pre.length,none⟩) (n+m) cap (cs++news)::rest),.inl ?_,⟨rfl,rfl,rfl,by simp⟩,?_,k _ _⟩;simp only[execOp,resolve,invoke,builtin,Xi,WH,UX,Wi,UL,U2,UA,aK,aQ,List.getElem?_toArray,XY,VU,hV aC,hV aH,WX,W5,if_false];rw[aw au];simp only[UL,Bool.not_false,if_true,O,UA,ix,aA,U2];refine(xo (l':=pre++(cs++news)++H.drop news.length) D).bf (dP (h1 λh ao=>?_) (U5 _));refine⟨(pre,H.drop news.length),⟨rfl,by simp[f2,V,Vf],au,f4,?_⟩,ao⟩;simp only[mp,Wh];simp only[mp]at a5;omega;exact grow w bd U f2 (λC hw=>by(have bx:C.heap[af]? =some (.cells (pre++cs++H).toArray E (0,0)):=by rw[hw];exact a3);have:=qo (P:=P) (w:=C) (E:=E) (ad:=some ⟨af,pre.length,none⟩) (cs:=cs) (m:=n) (sz:=sz) (c:=cap) (.inr ⟨_,pre,H,(0,0),rfl,rfl,bx⟩) U;rw[U1 U]at this;exact this)
def ql(ag:Env):List (Nat×Operand)->List (Nat×Value)
  | []=>[]
  | (i,x)::l=>(i,bb ag x)::ql ag l
theorem DF(d:Env)(l:List (Nat×Operand)):l.map (λ(i,x)=>(i,bb d x))=ql d l:=by induction l with|nil=>rfl|cons x l u=>simp[ql,u]
theorem GJ(z:List Value):∀(n i:Nat),i<n*z.length->(UK n z).flatten[i]? =z[i %z.length]?
  | 0,i,h=>by simp at h
  | n+1,i,h=>by
   rw[List.replicate_succ,List.flatten_cons];have u:0<z.length:=by rcases Nat.eq_zero_or_pos z.length with e|e<;>first|exact e|(rw[e]at h;simp at h)
   by_cases d:i<z.length;rw[VK d,Nat.mod_eq_of_lt d];have d:=Nat.le_of_not_lt d;rw[XH d,GJ z n (i-z.length) (by rw[Vf]at h;omega),Nat.mod_eq_sub_mod d]
theorem B5(z:Array Value)(n:Nat):(Array.range (n*z.size)).map (z[· %z.size]!)=(UK n z.toList).flatten.toArray:=by apply Array.ext';apply List.ext_getElem?;intro i;by_cases d:i<n*z.size;grind[GJ,Nat.mod_lt];simp_all
def CS (P:Program) (t len:Nat) (parts:List (Nat×Value)):Option (Nat×Nat×List Value):=match P.underlying t with
  | some (.slice e)=>match P.info? e with
    | some i=>
      match bif Nat.ble (len*i.size) 16777216 then i.zero else none with
      | some z=>match(bif VI z.cells.size i.size then Instr.fill (λj=>some (j*i.size,i.size)) (UK len z.cells.toList).flatten.toArray parts else none)with
        | some cells=>bif VI cells.toList.length (len*i.size)&&Nat.ble len maxLen then some (e,i.size,cells.toList)else none
        | none=>none
      | none=>none
    | none=>none
  | _=>none
theorem bs{hs:List ax}{t len E sz:Nat}{parts:List (Nat×Operand)}{cs:List Value}(C:CS P t len (ql ag parts)=some (E,sz,cs))
    (k:∀b,K (.slice (some ⟨b,0,none⟩) len len) (ah (aT E sz (some ⟨b,0,none⟩) len len cs::hs))):cj r P ag ⟨d,.buildSlice t len parts.toArray,ty,ps,bh,g⟩ (ah hs) K:=by unfold CS at C;cases hu:P.underlying t with|none=>rw[hu]at C;cases C|some u=>rw[hu]at C;(cases u<;>first|(cases C;done)|skip);rename_i e;simp only[]at C;(cases Q:P.info? e with|none=>rw[Q]at C;cases C|some inf=>rw[Q]at C;simp only[]at C;(cases W:Nat.ble (len*inf.size) 16777216 with|false=>rw[W]at C;cases C|true=>rw[W,cond_true]at C;have an:¬(len*inf.size>2^24):=(by have:=Nat.le_of_ble_eq_true W;(have e:2^24=16777216:=by decide);omega);(cases Z:inf.zero with|none=>rw[Z]at C;cases C|some z=>rw[Z]at C;simp only[]at C;split at C;rename_i cells H;have N:(VI cells.toList.length (len*inf.size)&&Nat.ble len maxLen)=true:=(by cases N:(VI cells.toList.length (len*inf.size)&&Nat.ble len maxLen)with|false=>rw[N]at C;cases C|true=>rfl);rw[N]at C;simp only[cond_true,V3,Prod.mk.injEq]at C;obtain⟨rfl,rfl,rfl⟩:=C;simp only[UW]at N;obtain⟨au,hm⟩:=N;have hlen:=UM au;refine cj.run rfl λw aC=>⟨.slice (some ⟨w.heap.size,0,none⟩) len len,w.alloc (.cells cells e),_,.inl ?_,⟨rfl,rfl,rfl,by simp⟩,(oP _ aC).bf (dP (h1 λh ar=>?_) (U5 _)),k w.heap.size⟩;have D:VI z.cells.size inf.size=true:=(by cases ao:VI z.cells.size inf.size with|false=>rw[ao]at H;cases H|true=>rfl);rw[D,cond_true]at H;have D:=UM D;(have gf:∀w,(underlying t).run P w=.ok (.slice e) w:=λw=>by simp[underlying,hu]);(have aH:∀w,(Xg e).run P w=.ok inf.size w:=λw=>by simp[Xg,typeInfo,Q]);have aA:List.map (λx=>match x with|(i,x)=>(i,bb ag x)) parts=ql ag parts:=DF ag parts;simp only[execOp,Instr.buildSlice,WH,UL,gf,aH,UA,aA];rw[al an];(have aK:∀w,(zeroValue e).run P w=.ok z w:=λw=>by simp[zeroValue,typeInfo,Q,Z]);by_cases O:len*inf.size=0;rw[aw O];have V:(Array.range (len*inf.size)).map ((#[]:Array Value)[· %(#[]:Array Value).size]!)=(UK len z.cells.toList).flatten.toArray:=(by rw[O];have:((UK len z.cells.toList).flatten)=[]:=Wq (by simp[D,O]);rw[this];apply Array.ext<;>simp);simp only[UL,UA,U2,V,H,newRow,run_newObj];rfl;rw[al O];have V:=B5 z.cells len;rw[D]at V;simp only[UL,UA,U2,aK,D,V,H,newRow,run_newObj];rfl;refine⟨([],[]),⟨rfl,hlen,Uw _,by simpa using hm,by simp only[List.length_nil];omega⟩,?_⟩;simp only[aj,Vn,Vg,Array.toArray_toList];exact ar;cases C)))
theorem Ao{hs:List ax}{E n:Nat}{z:Value}(bytes:Nat)(N:hc P t E 1=true)(O:rb P E 1 bytes=true)(aX:lg P E=some z)(a0:z.cells=#[z])(Z:bb ag x=.int .i64 (n:Int))(an:bb ag y=.int .i64 (n:Int))(aA:bytes*n<=281474976710656)(hm:n<=maxLen)
    (k:∀b,K (.slice (some ⟨b,0,none⟩) n n) (ah (aT E 1 (some ⟨b,0,none⟩) n n (UK n z)::hs))):cj r P ag ⟨d,.makeSlice t x y,ty,ps,bh,g⟩ (ah hs) K:=by
 obtain⟨inf,u,H,ao,aQ,aH,a2⟩:=tJ O;have au:u=z:=by grind[lg]
 subst au;have aK:maxLen=9223372036854775807:=rfl;have hw:IntKind.i64.wrap (n:Int)=n:=by grind[mu]
 have D:((Array.range n).map ((if n=0 then #[]else u.cells)[· %(if n=0 then(#[]:Array Value)else u.cells).size]!))=(UK n u).toArray:=cr;have aC:((inf.bytes:Int)*(n:Int))<=281474976710656:=cr;have W:(decide ((n:Int)<0)||decide ((inf.bytes:Int)*(n:Int)>2^48))=false:=b2;refine cj.run rfl λw V=>⟨.slice (some ⟨w.heap.size,0,none⟩) n n,w.alloc (.cells (UK n u).toArray E),_,.inl ?_,⟨rfl,rfl,rfl,by simp⟩,(oP _ V).bf (dP (h1 λh Q=>?_) (U5 _)),k w.heap.size⟩;have ar:∀w,(zeroValue E).run P w=.ok u w:=λw=>by simp[zeroValue,typeInfo,H,ao]
 simp only[execOp,Instr.makeSlice,UL,hV N,UA,Z,an,asInt,asIntOf,U2,typeInfo,run_program,H,hw,W];rw[al cF];simp only[UL,run_askRoom,hV N,UA,Int.toNat_natCast,Nat.mul_one];by_cases C:n=0;rw[aw C];simp only[aw C]at D;simp only[UL,UA,U2,D,newRow,run_newObj];trivial;rw[al C];simp only[al C]at D;simp only[UL,UA,U2,ar,D,newRow,run_newObj];trivial;refine⟨([],[]),⟨rfl,by simp,Uw _,hm,by simp⟩,?_⟩;simp only[aj,Vn,Vg];exact Q
def rC (P:Program):List Field->Option (List (Nat×Nat))
  | []=>some []
  | f::pq=>match P.info? f.type,rC P pq with
    | some i,some r=>some ((f.offset,i.size)::r)
    | _,_=>none
theorem Gp:∀{d:List Field} {r:List (Nat×Nat)},rC P d=some r->∀w,(d.mapM (m:=Sem) λf=>do pure (f.offset,<-Xg f.type)).run P w=.ok r w
  | [],_,h,w=>by simp only[rC,V3]at h;subst h;simp
  | f::d,r,h,w=>by simp only[rC]at h;cases u:P.info? f.type with|none=>rw[u]at h;cases h|some i=>(cases C:rC P d with|none=>rw[u,C]at h;cases h|some E=>rw[u,C]at h;simp only[V3]at h;subst h;(have D:(Xg f.type).run P w=.ok i.size w:=by simp[Xg,typeInfo,u]);simp only[List.mapM_cons,UL,U2,D,UA,Gp C w])
def CO (P:Program) (t:TypeId) (parts:List (Nat×Value)):Option (List Value):=match P.underlying t,lg P t with
  | some (.struct pq),some z=>match rC P pq.toList with
    | some r=>(Instr.fill (r[·]?) z.cells parts).map (·.toList)
    | none=>none
  | _,_=>none
theorem eh{parts:List (Nat×Operand)}{cs:List Value}(C:CO P t (ql ag parts)=some cs):bz P ag ⟨d,.build t parts.toArray,ty,ps,bh,g⟩ A (.agg cs.toArray):=by intro w _;unfold CO at C;cases hu:P.underlying t with|none=>rw[hu]at C;cases C|some u=>(cases H:lg P t with|none=>rw[hu,H]at C;cases u<;>cases C|some z=>rw[hu,H]at C;(cases u<;>first|(cases C;done)|skip);rename_i D;simp only[]at C;(cases E:rC P D.toList with|none=>rw[E]at C;cases C|some N=>rw[E]at C;simp only[Option.map_eq_some_iff]at C;obtain⟨cells,O,rfl⟩:=C;(have gf:(underlying t).run P w=.ok (.struct D) w:=by simp[underlying,hu]);have hm:(D.mapM (m:=Sem) λf=>do pure (f.offset,<-Xg f.type)).run P w=.ok N.toArray w:=(by(have e:D=D.toList.toArray:=by simp);rw[e,List.mapM_toArray];simp only[Sem.run_map];have:=Gp E w;exact(congrArg (λx=>WB x _) this));have V:List.map (λx=>match x with|(i,x)=>(i,bb ag x)) parts=ql ag parts:=DF ag parts;(have Q:Instr.fill (λx=>N.toArray[x]?) z.cells (ql ag parts)=some cells:=by simpa using O);simp only[execOp,Instr.build,WH,V,UL,u5 H,UA,gf,hm,Q,U2,Array.toArray_toList]))
theorem Aq{fn:Fn}{u cs:List Operand}{uX uW:List Value}(D:lE ag u=uX)(C:lE ag cs=uW):bz P ag ⟨d,.makeFunc fn u.toArray cs.toArray,ty,ps,bh,g⟩ A (.func fn uX.toArray uW.toArray):=by intro w _;simp[execOp,Instr.makeFunc,y9,D,C]
end
end Go.QM
