/- Proved here: contracts of functions of this program, under the premises that each theorem names. -/
import Derived.MapKept
import Derived.Test.YtglgidjhoncphaaGreatDoorVf
set_option linter.all false
set_option maxRecDepth 4000
set_option maxHeartbeats 4000000
open List renaming length_append->mp,mem_singleton->UP,getElem?_eq_some_iff->UU,mem_cons->U0,mem_map->U3,length_cons->U9,nodup_append->Vg,map_cons->Vm,range->VP,length->WB,getElem?_map->Xc,append_of_mem->Xe,ext_getElem?->X4
open Go.Result renaming andThen_ok->U1
open Go.Sem renaming run_bind->Vc,run_pure->Vu
open Nat renaming eq_of_beq_eq_true->Vd,mul_le_mul_right->Vr,beq->Wa,add_sub_cancel_left->Wh
open Go.Builtin renaming firstCells->Vh,zeroCells->Vi
open Go.Value renaming oneCell'->Vo
open Go.QM.aF renaming refl->Vx
open Go.MapKept renaming run_getObj_map->VE,run_setObj_map->Wv
open Option renaming map_some->Wo
open Option.some renaming injEq->Wt
open Prod.mk renaming injEq->W8
open Go.Instr renaming findNow->Xm,checkKey->Xv,lookup->XJ
open Go.Op renaming equalIn->Yn
namespace Go.QM
open Go
section
variable {α : Type} [DecidableEq α]
def kD(a:α):List (α×Value)->Nat->Option (Nat×Value)
  | [],_=>none
  | t::m,i=>if a=t.1 then some (i,t.2)else kD a m (i+1)
def fG(a:α):List (α×Value)->Option Value
  | []=>none
  | t::m=>if a=t.1 then some t.2 else fG a m
def iV(a:α)(v:Value):List (α×Value)->List (α×Value)
  | []=>[(a,v)]
  | t::m=>if a=t.1 then(a,v)::m else t::iV a v m
def iN(a:α):List (α×Value)->List (α×Value)
  | []=>[]
  | t::m=>if a=t.1 then m else t::iN a m
theorem tX{a:α}:∀{m:List (α×Value)} {i:Nat},kD a m i=none->fG a m=none/\(∀v,iV a v m=m++[(a,v)])/\iN a m=m
  | [],_,_=>⟨rfl,λ_=>rfl,rfl⟩
  | t::m,i,h=>by unfold kD at h;split at h;cases h;rename_i d;obtain⟨u,w,C⟩:=tX h;exact⟨by rw[fG,al d,u],λv=>by rw[iV,al d,w];rfl,by rw[iN,al d,C]⟩
theorem tY{a:α}:∀{m:List (α×Value)} {i j:Nat} {v:Value},kD a m i=some (j,v)->∃k,j=i+k/\m[k]? =some (a,v)/\fG a m=some v/\(∀u,iV a u m=m.set k (a,u))/\iN a m=m.eraseIdx k
  | [],_,_,_,h=>by cases h
  | t::m,i,j,v,h=>by unfold kD at h;split at h;rename_i he;cases h;refine⟨0,rfl,?_,by rw[fG,aw he],λu=>by rw[iV,aw he];rfl,by rw[iN,aw he];rfl⟩;obtain⟨x,y⟩:=t;simp only at he;subst he;rfl;rename_i d;obtain⟨k,H,w,C,D,E⟩:=tY h;exact⟨k+1,by omega,w,by rw[fG,al d,C],λu=>by rw[iV,al d,D];rfl,by rw[iN,al d,E];rfl⟩
structure dL(P:Program)(hW:TypeId)(enc:α->Value):Prop where
  nX:∀(kB:Bool) (a:α) (w:World),(Xv kB 10000 hW (enc a)).run P w=.ok () w
  find:∀(a:α) (m:List (α×Value)) (es:List MapEntry) (w:World),es.map (λe=>(e.key,e.val))=m.map (λt=>(enc t.1,t.2))->(Instr.findKey hW (enc a) es).run P w=.ok (kD a m 0) w
  same:∀a:α,Instr.sameBits 10000 (enc a) (enc a)=true
end
def encI(x:Int):Value:=.int .i64 x
theorem dL.int{P:Program}{u:TypeId}(h:P.underlying u=some (.int .i64)):dL P u encI where
  nX:=λkB a w=>by
    unfold Xv
    simp[underlying,h,encI]
  find := λa m es w he=>by
    have key:∀(m:List (Int×Value)) (es:List MapEntry) (i:Nat),es.map (λe=>(e.key,e.val))=m.map (λt=>(encI t.1,t.2))->Xm (.int .i64) (encI a) es i=some (kD a m i):=by
      intro m
      induction m with
      | nil=>intro es i he;cases es with|nil=>rfl|cons e es=>simp at he
      | cons t m H=>
        intro es i he
        cases es with
        | nil=>simp at he
        | cons e es=>
          simp only[Vm,List.cons.injEq,W8]at he
          obtain⟨⟨C,D⟩,E⟩:=he
          rw[Xm,C]
          simp only[encI,Instr.sameNow,if_true,kD]
          by_cases d:a=t.1
          · simp[d,D]
          · have:(a==t.1)=false:=by simpa using d
            simp only[this,al d]
            exact H es (i+1) E
    simp[Instr.findKey,underlying,h,key m es 0 he]
  same:=λa=>by simp[Instr.sameBits,encI]
def jf(es:Array MapEntry)(aL:Nat):Prop:=(∀e∈es.toList,e.born<aL)/\(es.toList.map (·.born)).Nodup
theorem jf.push{es:Array MapEntry}{aL:Nat}(h:jf es aL){k v:Value}:jf (es.push {key:=k,val:=v,born:=aL}) (aL+1):=by refine⟨λe he=>?_,?_⟩;rw[Array.toList_push,List.mem_append,UP]at he;rcases he with he|rfl;have:=h.1 e he;omega;simp_all;rw[Array.toList_push,List.map_append,Vg];refine⟨h.2,by simp,λa d c w e=>?_⟩;obtain⟨u,hu,rfl⟩:=U3.1 d;have:=h.1 u hu;simp_all
theorem jf.modify{es:Array MapEntry}{aL:Nat}(h:jf es aL)(j:Nat)(f:MapEntry->MapEntry)(C:∀e,(f e).born=e.born):jf (es.modify j f) aL:=by
 have hm:(es.modify j f).toList.map (·.born)=es.toList.map (·.born):=(by rw[Array.toList_modify];apply X4;grind);refine⟨λe he=>?_,by rw[hm];exact h.2⟩;have d:e.born∈(es.modify j f).toList.map (·.born):=cp
 rw[hm]at d;obtain⟨u,hu,w⟩:=U3.1 d;rw[<-w];exact h.1 u hu
theorem jf.erase{es:Array MapEntry}{aL:Nat}(h:jf es aL)(j:Nat):jf (es.eraseIdxIfInBounds j) aL:=by have d:(es.eraseIdxIfInBounds j).toList.Sublist es.toList:=(by grind[Array.toList_eraseIdx]);exact⟨λe he=>h.1 e (d.subset he),h.2.sublist (d.map _)⟩
def zY{α:Type}(enc:α->Value)(m:List (α×Value))(o:Obj):Prop:=∃es aL,o=.map es aL/\es.toList.map (λe=>(e.key,e.val))=m.map (λt=>(enc t.1,t.2))/\jf es aL
def nx{α:Type}(enc:α->Value)(b:Nat)(m:List (α×Value)):ax:=fj λo:Obj=>pure' (zY enc m o) (obj b o)
def sk{α:Type}(A:ax)(b:Nat)(enc:α->Value)(m:List (α×Value)):Prop:=∀h,A h->∃o,h b=some o/\zY enc m o
theorem yt{α:Type}(enc:α->Value)(b:Nat)(m:List (α×Value)):sk (nx enc b m) b enc m:=λh ⟨o,d,u⟩=>⟨o,by rw[u];simp,d⟩
theorem CH{α:Type}{A B:ax}{b:Nat}{enc:α->Value}{m:List (α×Value)}(x:sk A b enc m):sk (sep A B) b enc m:=by rintro h ⟨a,c,d,rfl,C,D⟩;obtain⟨o,u,w⟩:=x a C;exact⟨o,qD a c b o u,w⟩
class vA(A:ax)(b:Nat)(α:outParam Type)(enc:outParam (α->Value))(m:outParam (List (α×Value))):Prop where
  rd:sk A b enc m
class yx(hs:List ax)(b:Nat)(α:outParam Type)(enc:outParam (α->Value))(m:outParam (List (α×Value)))(r:outParam (List ax)):Prop where
  tk:∃i,eO i hs=some (nx enc b m,r)
instance {α:Type}(enc:α->Value)(b:Nat)(m:List (α×Value))(r:List ax):yx (nx enc b m::r) b α enc m r:=⟨0,rfl⟩
theorem sk.sat{α:Type}{A:ax}{b:Nat}{enc:α->Value}{m:List (α×Value)}(x:sk A b enc m){w:World}(h:QM.sat w A):∃es aL,w.heap[b]? =some (.map es aL)/\es.toList.map (λe=>(e.key,e.val))=m.map (λt=>(enc t.1,t.2))/\jf es aL:=by obtain⟨u,E,d⟩:=h;obtain⟨o,C,es,aL,rfl,D⟩:=x u d;grind
theorem Au{β d:Type}(f:β->d):∀(l:List β) (j:Nat),(l.eraseIdx j).map f=(l.map f).eraseIdx j
  | [],_=>by simp
  | _::_,0=>by simp
  | a::l,j+1=>by simp[Au f l j]
section
variable {α : Type} {enc : α → Value} {m : List (α × Value)}
variable {r : Option Nat} {P : Program} {ag : Env} {A : ax} {K : Value → ax → Prop}
variable {d : Option Tmp} {ty : TypeId} {ps : String} {bh : Array Edge} {g : Option (Nat × Bool)}
variable {t : TypeId} {x : Operand}
def mv(P:Program)(t hW e:TypeId):Bool:=match P.underlying t with
  | some (.map k v)=>Wa k hW&&Wa v e
  | _=>false
theorem oW{d e:TypeId}(h:mv P t d e=true)(w:World):(underlying t).run P w=.ok (.map d e) w:=by unfold mv at h;cases hu:P.underlying t with|none=>rw[hu]at h;cases h|some u=>rw[hu]at h;(cases u<;>first|(cases h;done)|(simp only[Bool.and_eq_true]at h;have C:=Vd h.1;have D:=Vd h.2;subst C;subst D;simp[underlying,hu]))
theorem PM{hs:List ax}(enc:α->Value)(k:∀b,K (.map (some b)) (ah (nx enc b []::hs))):cg r P ag ⟨d,.makeMap t none,ty,ps,bh,g⟩ (ah hs) K:=
  cg.run rfl λw C=>⟨.map (some w.heap.size),w.alloc (.map #[] 0),_,.inl rfl,⟨rfl,rfl,rfl,by simp⟩,
    (o2 _ C).bg (dO (h8 λh u=>⟨_,⟨#[],0,rfl,rfl,⟨λ_ h=>(by cases h),List.nodup_nil⟩⟩,u⟩) (Vx _)),k w.heap.size⟩
theorem xC{w:World}{b:Nat}{m':List (α×Value)}{es es':Array MapEntry}{aL pA:Nat}{hs rest:List ax}(W:sat w (ah hs))(d:∃i,eO i hs=some (nx enc b m,rest))(ag:w.heap[b]? =some (.map es aL))
    (D:es'.toList.map (λe=>(e.key,e.val))=m'.map (λt=>(enc t.1,t.2))) (N:jf es' pA):sat {w with heap:=w.heap.setIfInBounds b (.map es' pA)} (ah (nx enc b m'::rest)):=by
 obtain⟨i,d⟩:=d;obtain⟨u,Z,p,q,C,rfl,⟨o,an,Q⟩,V⟩:=W.bg (fI d);have E:sat w (sep (obj b o) (ah rest)):=⟨_,Z,p,q,C,rfl,Q,V⟩;have P:b<w.heap.size:=cp
 have H:sat {w with heap:=w.heap.setIfInBounds b (.map es' pA)} (sep (obj b (.map es' pA)) (ah rest)):=
   uU E (by show(w.heap.setIfInBounds b _)[b]? =_;rw[Array.getElem?_setIfInBounds_self_of_lt P]) (λj O=>by show(w.heap.setIfInBounds b _)[j]? =_;rw[Array.getElem?_setIfInBounds_ne (Ne.symm O)])
 exact H.bg (dO (h8 λh u=>⟨_,⟨es',pA,rfl,D,N⟩,u⟩) (Vx _))
theorem Pv(N e:TypeId){b:Nat}(E:mv P t N e=true)(H:bc ag x=.map (some b))[hr:vA A b α enc m]:
    bA P ag ⟨d,.call ⟨.builtin .len,#[x],#[t]⟩,ty,ps,bh,g⟩ A (.int .i64 m.length):=λw D=>by
  obtain⟨es,aL,u,C,O⟩:=hr.rd.sat D
  have hlen:es.size=m.length:=by simpa using congrArg WB C
  simp[execOp,resolve,invoke,builtin,Builtin.len_,H,oW E,VE u,goInt,hlen]
end
section
variable {α : Type} [DecidableEq α] {enc : α → Value} {m : List (α × Value)}
variable {r : Option Nat} {P : Program} {N : Nat} {ops : Array Oper} {l : List Oper} {Q : ff} {ag : Env} {aS : List Deferred} {A : ax} {K : Value → ax → Prop}
variable {d : Option Tmp} {ty : TypeId} {ps : String} {bh : Array Edge} {g : Option (Nat × Bool)}
variable {t t' : TypeId} {x y z : Operand} {k : IntKind}
variable{a:α}
theorem Py(V e:TypeId){b:Nat}{W:Value}(N:mv P t V e=true)(aq:ly P e=some W)(D:dL P V enc)(O:bc ag x=.map (some b))(Q:bc ag y=enc a)[hr:vA A b α enc m]:
    bA P ag ⟨d,.lookup t x y false,ty,ps,bh,g⟩ A ((fG a m).getD W):=λw an=>by
  obtain⟨es,aL,E,Z,ar⟩:=hr.rd.sat an
  have H:=D.find a m es.toList w Z
  cases u:kD a m 0 with
  | none=>
    obtain⟨C,_⟩:=tX u
    simp[execOp,XJ,O,Q,oW N,VE E,D.nX,H,u,C,vm aq]
  | some p=>
    obtain⟨j,v⟩:=p
    obtain⟨_,_,_,C,_⟩:=tY u
    simp[execOp,XJ,O,Q,oW N,VE E,D.nX,H,u,C]
theorem Pz(V e:TypeId){b:Nat}{W:Value}(N:mv P t V e=true)(aq:ly P e=some W)(D:dL P V enc)(O:bc ag x=.map (some b))(Q:bc ag y=enc a)[hr:vA A b α enc m]:
    bA P ag ⟨d,.lookup t x y true,ty,ps,bh,g⟩ A (.tuple #[(fG a m).getD W,.bool (fG a m).isSome]):=λw an=>by
  obtain⟨es,aL,E,Z,ar⟩:=hr.rd.sat an
  have H:=D.find a m es.toList w Z
  cases u:kD a m 0 with
  | none=>
    obtain⟨C,_⟩:=tX u
    simp[execOp,XJ,O,Q,oW N,VE E,D.nX,H,u,C,vm aq]
  | some p=>
    obtain⟨j,v⟩:=p
    obtain⟨_,_,_,C,_⟩:=tY u
    simp[execOp,XJ,O,Q,oW N,VE E,D.nX,H,u,C]
theorem P1{hs rest:List ax}(av e:TypeId){b:Nat}{v:Value}(an:mv P t av e=true)(E:dL P av enc)(aq:bc ag x=.map (some b))(ar:bc ag y=enc a)(hv:bc ag z=v)[N:yx hs b α enc m rest]
    (k:K undef (ah (nx enc b (iV a v m)::rest))):cg r P ag ⟨d,.mapUpdate t x y z,ty,ps,bh,g⟩ (ah hs) K:=by refine cg.run rfl λw O=>?_;obtain⟨i,aB⟩:=N.tk;obtain⟨es,aL,u,C,Q⟩:=(CH (yt enc b m)).sat (O.bg (fI aB));have V:=E.find a m es.toList w C;cases D:kD a m 0 with|none=>obtain⟨_,H,_⟩:=tX D;refine⟨undef,{w with heap:=w.heap.setIfInBounds b (.map (es.push {key:=enc a,val:=v,born:=aL}) (aL+1))},_,.inr ⟨?_,rfl⟩,⟨rfl,rfl,rfl,?_⟩,xC (m':=iV a v m) (es':=es.push {key:=enc a,val:=v,born:=aL}) (pA:=aL+1) O N.tk u (by rw[H];simp[C]) Q.push,k⟩;simp[execOp,Instr.mapUpdate,aq,ar,hv,oW an,VE u,E.nX,V,D,Wv _ u];simp|some p=>obtain⟨j,v0⟩:=p;obtain⟨n,aS,H,_,aA,_⟩:=tY D;(have aG:j=n:=by omega);subst aG;have Z:((es.toList[j]?).map (·.key))=some (enc a):=(by have:=congrArg (λl=>l[j]?) C;simp only[Xc,H,Wo]at this;cases he:es.toList[j]? with|none=>rw[he]at this;cases this|some dh=>rw[he]at this;simp only[Wo,Wt,W8]at this;simp[this.1]);have aI:(Instr.keyThatStays (((es[j]?).map (·.key)).getD (enc a)) (enc a)).run P w=.ok (enc a) w:=(by(have:es[j]? =es.toList[j]? :=by simp);rw[this,Z];simp[Instr.keyThatStays,E.same a]);refine⟨undef,{w with heap:=w.heap.setIfInBounds b (.map (es.modify j λe=>{e with key:=enc a,val:=v}) aL)},_,.inr ⟨?_,rfl⟩,⟨rfl,rfl,rfl,?_⟩,xC (m':=iV a v m) (es':=es.modify j λe=>{e with key:=enc a,val:=v}) (pA:=aL) O N.tk u ?_ (Q.modify j _ λ_=>rfl),k⟩;simp[execOp,Instr.mapUpdate,aq,ar,hv,oW an,VE u,E.nX,V,D,aI,Wv _ u];simp;rw[aA,List.map_set,<-C,Array.toList_modify];apply X4;intro i;simp only[Xc,List.getElem?_modify,List.getElem?_set,List.length_map];by_cases W:j=i;subst W;(cases he:es.toList[j]? with|none=>simp[he]at Z|some dh=>have:=(UU.1 he).1;simp;simpa using this);simp[W]
theorem LR{hs rest:List ax}(ar e:TypeId){b:Nat}{av:Array TypeId}(W:mv P t ar e=true)(N:dL P ar enc)(an:bc ag x=.map (some b))(aq:bc ag y=enc a)(Z:av[0]? =some t)[H:yx hs b α enc m rest]
    (k:K (.tuple #[]) (ah (nx enc b (iN a m)::rest))):cg r P ag ⟨d,.call ⟨.builtin .delete,#[x,y],av⟩,ty,ps,bh,g⟩ (ah hs) K:=by refine cg.run rfl λw O=>?_;obtain⟨i,aB⟩:=H.tk;obtain⟨es,aL,u,C,Q⟩:=(CH (yt enc b m)).sat (O.bg (fI aB));have V:=N.find a m es.toList w C;cases D:kD a m 0 with|none=>obtain⟨_,_,E⟩:=tX D;refine⟨.tuple #[],{w with heap:=w.heap.setIfInBounds b (.map es aL)},_,.inl ?_,⟨rfl,rfl,rfl,?_⟩,xC (m':=iN a m) (es':=es) (pA:=aL) O H.tk u (by rw[E];exact C) Q,k⟩;simp[execOp,resolve,invoke,builtin,Builtin.delete_,an,aq,Z,oW W,VE u,N.nX,V,D,Wv _ u];simp|some p=>obtain⟨j,v0⟩:=p;obtain⟨n,aS,E,_,_,aA⟩:=tY D;(have aI:j=n:=by omega);subst aI;(have hlen:es.size=m.length:=by simpa using congrArg WB C);(have aG:j<es.size:=by rw[hlen];exact(UU.1 E).1);refine⟨.tuple #[],{w with heap:=w.heap.setIfInBounds b (.map (es.eraseIdxIfInBounds j) aL)},_,.inl ?_,⟨rfl,rfl,rfl,?_⟩,xC (m':=iN a m) (es':=es.eraseIdxIfInBounds j) (pA:=aL) O H.tk u ?_ (Q.erase j),k⟩;simp[execOp,resolve,invoke,builtin,Builtin.delete_,an,aq,Z,oW W,VE u,N.nX,V,D,Wv _ u];simp;rw[aA,Au,<-C,<-Au];simp[Array.eraseIdxIfInBounds,aG]
end
end Go.QM
namespace Go.QM
open Go
class sj(cs:List Value)(cap j sz:Nat):Prop where
  n:∃n,cs.length=n*sz/\j<=n/\n<=cap
instance (A:ax)(ad:Option Addr)(cap j sz E:Nat)(cs:List Value)[hr:bn A ad E cs][h:sj cs cap j sz]:bn A (du ad cap j sz) E (cs.drop (j*sz)):=⟨by
  obtain⟨n,gE,gF,gG⟩:=h.n
  exact CJ hr.rd gE gF gG⟩
section
variable {r : Option Nat} {P : Program} {N : Nat} {ops : Array Oper} {l : List Oper} {Q : ff} {ag : Env} {aS : List Deferred} {A : ax} {K : Value → ax → Prop}
variable {d : Option Tmp} {ty : TypeId} {ps : String} {bh : Array Edge} {g : Option (Nat × Bool)}
variable {t t' : TypeId} {x y z : Operand} {k : IntKind}
theorem oi(E sz i:Nat){ad:Option Addr}{n cap:Nat}{j:Int}(w:hl P t E sz=true)(C:bc ag x=.slice ad n cap)(D:bc ag y=.int .i64 j)(u:j=(i:Int))(H:i<=n):
    bA P ag ⟨d,.slice t x (some y) none none,ty,ps,bh,g⟩ A (.slice (du ad cap i sz) (n-i) (cap-i)):=by subst u;have:=BB (A:=A) (d:=d) (ty:=ty) (ps:=ps) (bh:=bh) (g:=g) E sz w C D U U;trivial
theorem nH(E sz i:Nat){ad:Option Addr}{n cap:Nat}{j:Int}(w:hl P t E sz=true)(C:bc ag x=.slice ad n cap)(D:bc ag y=.int .i64 j)(u:j=(i:Int))(H:i<=cap):
    bA P ag ⟨d,.slice t x none (some y) none,ty,ps,bh,g⟩ A (.slice ad i cap):=by subst u;have:=Sn (A:=A) (d:=d) (ty:=ty) (ps:=ps) (bh:=bh) (g:=g) E sz w C D U U;trivial
end
class vF(hs:List ax)(A:ax)(r:outParam (List ax)):Prop where
  tk:∃i,eO i hs=some (A,r)
instance (priority:=100)(B:ax)(hs:List ax)(A:ax)(r:List ax)[h:vF hs A r]:vF (B::hs) A (B::r):=⟨by
  obtain⟨i,pM⟩:=h.tk
  exact⟨i+1,by simp[eO,pM]⟩⟩
instance (priority:=200)(A:ax)(r:List ax):vF (A::r) A r:=⟨0,rfl⟩
class ev(hs pre:List ax)(rest:outParam (List ax)):Prop where
  p:lH hs pre rest
instance (hs:List ax):ev hs [] hs:=⟨eu hs⟩
instance (hs r pre rest:List ax)(A:ax)[h:vF hs A r][k:ev r pre rest]:ev hs (A::pre) rest:=⟨by
  obtain⟨i,pM⟩:=h.tk
  exact dY i pM k.p⟩
section
variable {α : Type} [DecidableEq α]
def fe(f:α->Option Value)(a:α)(v:Value):α->Option Value:=λx=>if x=a then some v else f x
def fU(f:α->Option Value)(a:α):α->Option Value:=λx=>if x=a then none else f x
structure kW(f:α->Option Value)(n:Nat)(m:List (α×Value)):Prop where
  bi:(m.map (·.1)).Nodup
  oV:∀a,fG a m=f a
  n:m.length=n
theorem Ao{a:α}:∀{m:List (α×Value)},fG a m=none↔a∉m.map (·.1)
  | []=>by simp[fG]
  | t::m=>by simp only[fG,Vm,U0,not_or];split;rename_i h;simp[h];rename_i h;rw[Ao];simp[h]
theorem FH(a b:α)(v:Value):∀(m:List (α×Value)),fG a (iV b v m)=if a=b then some v else fG a m
  | []=>by simp only[iV,fG]
  | t::m=>by simp only[iV];by_cases h:b=t.1;rw[aw h];simp only[fG];by_cases d:a=b;rw[aw d,aw d];rw[al d,al d,al (by rw[<-h];exact d)];rw[al h];simp only[fG];by_cases d:a=t.1;rw[aw d,aw d,al (by rw[d];exact λe=>h e.symm)];rw[al d,al d];exact FH a b v m
theorem Fj(b:α)(v:Value):∀(m:List (α×Value)),(iV b v m).map (·.1)=if b∈m.map (·.1)then m.map (·.1)else m.map (·.1)++[b]
  | []=>by simp[iV]
  | t::m=>by simp only[iV];by_cases h:b=t.1;rw[aw h];simp[h];rw[al h];simp only[Vm,Fj b v m,U0];by_cases d:b∈m.map (·.1);rw[aw d,aw (.inr d)];rw[al d,al (by simp[h,d])];rfl
theorem FG(a b:α):∀(m:List (α×Value)),(m.map (·.1)).Nodup->fG a (iN b m)=if a=b then none else fG a m
  | [],_=>by simp[iN,fG]
  | t::m,an=>by simp only[Vm,List.nodup_cons]at an;simp only[iN];by_cases h:b=t.1;rw[aw h];by_cases d:a=b;rw[aw d,Ao,d,h];exact an.1;rw[al d];simp only[fG];rw[al (by rw[<-h];exact d)];rw[al h];simp only[fG];by_cases d:a=t.1;rw[aw d,aw d,al (by rw[d];exact λe=>h e.symm)];rw[al d,al d];exact FG a b m an.2
theorem Fi(b:α):∀(m:List (α×Value)),((iN b m).map (·.1)).Sublist (m.map (·.1))
  | []=>by simp[iN]
  | t::m=>by simp only[iN];by_cases h:b=t.1;rw[aw h];simp;rw[al h];simp only[Vm];exact(Fi b m).cons_cons _
theorem DN(b:α):∀(m:List (α×Value)),(iN b m).length=if(fG b m).isSome then m.length-1 else m.length
  | []=>rfl
  | t::m=>by
   by_cases h:b=t.1;have d:fG b (t::m)=some t.2:=by simp only[fG];rw[aw h]
   have u:iN b (t::m)=m:=by simp only[iN];rw[aw h]
   rw[d,u];rfl;have d:fG b (t::m)=fG b m:=by simp only[fG];rw[al h]
   have u:iN b (t::m)=t::iN b m:=by simp only[iN];rw[al h]
   rw[d,u,U9,DN b m];split;rename_i w;have:m≠[]:=by intro e;subst e;simp[fG]at w
   have:=List.length_pos_iff.2 this;simp only[U9];omega;rfl
theorem IB(b:α)(v:Value):∀(m:List (α×Value)),(iV b v m).length=if(fG b m).isSome then m.length else m.length+1
  | []=>rfl
  | t::m=>by
   by_cases h:b=t.1;have d:fG b (t::m)=some t.2:=by simp only[fG];rw[aw h]
   have u:iV b v (t::m)=(b,v)::m:=by simp only[iV];rw[aw h]
   rw[d,u];rfl;have d:fG b (t::m)=fG b m:=by simp only[fG];rw[al h]
   have u:iV b v (t::m)=t::iV b v m:=by simp only[iV];rw[al h]
   rw[d,u,U9,IB b v m];split<;>rfl
theorem kW.up{f:α->Option Value}{n:Nat}{m:List (α×Value)}(h:kW f n m)(a:α)(v:Value):kW (fe f a v) (if(f a).isSome then n else n+1) (iV a v m) where
  bi:=by
    rw[Fj]
    split
    · exact h.bi
    · rename_i u
      rw[Vg]
      refine⟨h.bi,by simp,?_⟩
      intro x w y d e
      simp only[UP]at d
      subst d;subst e;exact u w
  oV:=λx=>by rw[FH,fe,h.oV]
  n:=by rw[IB,h.oV,h.n]
theorem kW.dl{f:α->Option Value}{n:Nat}{m:List (α×Value)}(h:kW f n m)(a:α):kW (fU f a) (if(f a).isSome then n-1 else n) (iN a m) where
  bi:=h.bi.sublist (Fi a m)
  oV:=λx=>by rw[FG _ _ _ h.bi,fU,h.oV]
  n:=by rw[DN,h.oV,h.n]
end
def bJ{α:Type}[DecidableEq α](enc:α->Value)(b:Nat)(f:α->Option Value)(n:Nat):ax:=fj λm:List (α×Value)=>pure' (kW f n m) (nx enc b m)
def qk{α:Type}[DecidableEq α](A:ax)(b:Nat)(enc:α->Value)(f:α->Option Value)(n:Nat):Prop:=∀h,A h->∃m,kW f n m/\∃o,h b=some o/\zY enc m o
section
variable {α : Type} [DecidableEq α] {enc : α → Value} {f : α → Option Value} {n b : Nat}
theorem JL:qk (bJ enc b f n) b enc f n:=λ_ ⟨m,hm,d⟩=>⟨m,hm,yt enc b m _ d⟩
theorem JK{A B:ax}(x:qk A b enc f n):qk (sep A B) b enc f n:=by rintro h ⟨a,c,d,rfl,C,D⟩;obtain⟨m,hm,o,u,w⟩:=x a C;exact⟨m,hm,o,qD a c b o u,w⟩
theorem JM{A B:ax}(x:qk B b enc f n):qk (sep A B) b enc f n:=by rintro h ⟨a,c,d,rfl,D,C⟩;obtain⟨m,hm,o,u,w⟩:=x c C;exact⟨m,hm,o,ug d b o u,w⟩
end
class ql(A:ax)(b:Nat){α:outParam Type}[outParam (DecidableEq α)](enc:outParam (α->Value))(f:outParam (α->Option Value))(n:outParam Nat):Prop where
  rd:qk A b enc f n
section
variable {α : Type} [DecidableEq α]
instance (enc:α->Value)(b:Nat)(f:α->Option Value)(n:Nat):ql (bJ enc b f n) b enc f n:=⟨JL⟩
instance (A:ax)(l:List ax)(b:Nat)(enc:α->Value)(f:α->Option Value)(n:Nat)[h:ql (ah l) b enc f n]:ql (ah (A::l)) b enc f n:=⟨JM h.rd⟩
instance (A:ax)(l:List ax)(b:Nat)(enc:α->Value)(f:α->Option Value)(n:Nat)[h:ql A b enc f n]:ql (ah (A::l)) b enc f n:=⟨JK h.rd⟩
end
class sn(hs:List ax)(b:Nat){α:outParam Type}[outParam (DecidableEq α)](enc:outParam (α->Value))(f:outParam (α->Option Value))(n:outParam Nat)(r:outParam (List ax)):Prop where
  tk:∃i,eO i hs=some (bJ enc b f n,r)
section
variable {α : Type} [DecidableEq α]
instance (enc:α->Value)(b:Nat)(f:α->Option Value)(n:Nat)(r:List ax):sn (bJ enc b f n::r) b enc f n r:=⟨0,rfl⟩
instance (A:ax)(hs:List ax)(b:Nat)(enc:α->Value)(f:α->Option Value)(n:Nat)(r:List ax)[h:sn hs b enc f n r]:sn (A::hs) b enc f n (A::r):=⟨by
  obtain⟨i,pM⟩:=h.tk
  exact⟨i+1,by simp[eO,pM]⟩⟩
end
section
variable {α : Type} [DecidableEq α] {enc : α → Value} {f : α → Option Value} {n : Nat}
variable {r : Option Nat} {P : Program} {N : Nat} {ops : Array Oper} {l : List Oper} {Q : ff} {ag : Env} {aS : List Deferred} {A : ax} {K : Value → ax → Prop}
variable {d : Option Tmp} {ty : TypeId} {ps : String} {bh : Array Edge} {g : Option (Nat × Bool)}
variable {t t' : TypeId} {x y z : Operand}
variable{b:Nat}
theorem qk.at(hr:qk A b enc f n){w:World}(hs:QM.sat w A):∃(B:ax) (m:List (α×Value)),kW f n m/\QM.sat w B/\vA B b α enc m:=by obtain⟨d,E,D⟩:=hs;obtain⟨m,hm,o,u,C⟩:=hr d D;exact⟨λh=>h=d,m,hm,⟨d,E,rfl⟩,⟨λh e=>by subst e;exact⟨o,u,C⟩⟩⟩
variable(hW:TypeId){a:α}
theorem ko(e:TypeId){u:Value}(H:mv P t hW e=true)(Q:ly P e=some u)(C:dL P hW enc)(N:bc ag x=.map (some b))(O:bc ag y=enc a)[hr:ql A b enc f n]:
    bA P ag ⟨d,.lookup t x y false,ty,ps,bh,g⟩ A ((f a).getD u):=λw D=>by
  obtain⟨B,m,hm,E,V⟩:=hr.rd.at D
  have:=(Py (A:=B) (d:=d) (ty:=ty) (ps:=ps) (bh:=bh) (g:=g) hW e H Q C N O) w E
  rwa[hm.oV]at this
theorem FK(e:TypeId){u:Value}(H:mv P t hW e=true)(Q:ly P e=some u)(C:dL P hW enc)(N:bc ag x=.map (some b))(O:bc ag y=enc a)[hr:ql A b enc f n]:
    bA P ag ⟨d,.lookup t x y true,ty,ps,bh,g⟩ A (.tuple #[(f a).getD u,.bool (f a).isSome]):=λw D=>by
  obtain⟨B,m,hm,E,V⟩:=hr.rd.at D
  have:=(Pz (A:=B) (d:=d) (ty:=ty) (ps:=ps) (bh:=bh) (g:=g) hW e H Q C N O) w E
  rwa[hm.oV]at this
theorem Pu(e:TypeId)(D:mv P t hW e=true)(E:bc ag x=.map (some b))[hr:ql A b enc f n]:
    bA P ag ⟨d,.call ⟨.builtin .len,#[x],#[t]⟩,ty,ps,bh,g⟩ A (.int .i64 n):=λw u=>by
  obtain⟨B,m,hm,C,H⟩:=hr.rd.at u
  have:=(Pv (A:=B) (d:=d) (ty:=ty) (ps:=ps) (bh:=bh) (g:=g) hW e D E) w C
  rwa[hm.n]at this
theorem w7{hs:List ax}(enc:α->Value)(k:∀b,K (.map (some b)) (ah (bJ enc b (λ_=>none) 0::hs))):cg r P ag ⟨d,.makeMap t none,ty,ps,bh,g⟩ (ah hs) K:=
  cg.post (si:=λv u=>∃b,v=.map (some b)/\u=ah (nx enc b []::hs)) (PM enc λb=>⟨b,rfl,rfl⟩) (by rintro v u ⟨b,rfl,rfl⟩;exact⟨_,dO (h8 λh w=>⟨[],⟨by simp,λ_=>rfl,rfl⟩,w⟩) (Vx _),k b⟩)
theorem lZ{hs rest:List ax}(e:TypeId){v:Value}(H:mv P t hW e=true)(D:dL P hW enc)(N:bc ag x=.map (some b))(O:bc ag y=enc a)(hv:bc ag z=v)[u:sn hs b enc f n rest]
    (k:K undef (ah (bJ enc b (fe f a v) (if(f a).isSome then n else n+1)::rest))):cg r P ag ⟨d,.mapUpdate t x y z,ty,ps,bh,g⟩ (ah hs) K:=by obtain⟨i,u⟩:=u.tk;refine cg.bg (fI u) (show cg r P ag _ (ah (bJ enc b f n::rest)) K from ?_);refine cg.ex λm=>cg.pure λhm=>?_;exact cg.post (si:=λC w=>C=undef/\w=ah (nx enc b (iV a v m)::rest)) (P1 hW e H D N O hv ⟨rfl,rfl⟩) (by rintro C w ⟨rfl,rfl⟩;exact⟨_,dO (h8 λh E=>⟨_,hm.up a v,E⟩) (Vx _),k⟩)
theorem lP{hs rest:List ax}(e:TypeId){C:Array TypeId}(N:mv P t hW e=true)(E:dL P hW enc)(Q:bc ag x=.map (some b))(V:bc ag y=enc a)(O:C[0]? =some t)[u:sn hs b enc f n rest]
    (k:K (.tuple #[]) (ah (bJ enc b (fU f a) (if(f a).isSome then n-1 else n)::rest))):cg r P ag ⟨d,.call ⟨.builtin .delete,#[x,y],C⟩,ty,ps,bh,g⟩ (ah hs) K:=by obtain⟨i,u⟩:=u.tk;refine cg.bg (fI u) (show cg r P ag _ (ah (bJ enc b f n::rest)) K from ?_);refine cg.ex λm=>cg.pure λhm=>?_;exact cg.post (si:=λD w=>D=.tuple #[]/\w=ah (nx enc b (iN a m)::rest)) (LR hW e N E Q V O ⟨rfl,rfl⟩) (by rintro D w ⟨rfl,rfl⟩;exact⟨_,dO (h8 λh H=>⟨_,hm.dl a,H⟩) (Vx _),k⟩)
end
end Go.QM
namespace Go.QM
open Go
def b5{α:Type}(f:α->ax)(L:List α):ax:=ah (L.map f)
section
variable {α : Type} {f g : α → ax}
theorem RZ{l m:List ax}(h:l.Perm m):aF (ah l) (ah m):=by induction h with|nil=>exact Vx _|cons x _ w=>exact dO (Vx x) w|swap x y l=>exact jB|trans _ _ d u=>exact d.trans u
variable{L:List α}
theorem vO{M:List α}(h:L.Perm M):aF (b5 f L) (b5 f M):=RZ (h.map f)
theorem yR{L:List α}(h:∀a∈L,f a=g a):b5 f L=b5 g L:=by grind[b5,List.map_congr_left]
theorem nf(hs:List ax):aF (ah hs) (ah (b5 f []::hs)):=pZ.trans nF
theorem fV(n:Nat){hs d:List ax}{L':List α}{a:α}(h:eO n hs=some (b5 f L,d))(u:L.Perm (a::L')):aF (ah hs) (ah (f a::b5 f L'::d)):=
  (fI h).trans ((dO (vO u) (Vx _)).trans pY)
theorem cQ(i j:Nat){hs ef u gs:List ax}{L M:List α}{A:ax}(a:α)(w:eO i hs=some (A,ef))(d:eO j ef=some (b5 f L,u))(C:A=g a)(D:∀x∈L,f x=g x)(E:(a::L).Perm M)
    (k:aF (ah u) (ah gs)):aF (ah hs) (ah (b5 g M::gs)):=by subst C;rw[yR D]at d;refine(fI w).trans ((dO (Vx _) (fI d)).trans (nE.trans (dO ?_ k)));exact vO (f:=g) E
theorem oG(i:Nat){hs r gs:List ax}{L M:List α}(h:eO i hs=some (b5 f L,r))(d:∀x∈L,f x=g x)(u:L.Perm M)(k:aF (ah r) (ah gs)):aF (ah hs) (ah (b5 g M::gs)):=by rw[yR d]at h;exact(fI h).trans (dO (vO u) k)
theorem sX{i:Nat}{a:α}(h:L[i]? =some a):L.Perm (a::(L.take i++L.drop (i+1))):=by grind[List.drop_eq_getElem_cons,List.take_append_drop,List.perm_middle]
theorem fp{a:α}(h:a∈L):∃L',L.Perm (a::L'):=by obtain⟨s,t,rfl⟩:=Xe h;grind[List.perm_middle]
end
section
variable {r : Option Nat} {P : Program} {N : Nat} {ops : Array Oper} {l : List Oper} {Q : ff} {ag : Env} {aS : List Deferred} {A : ax} {K : Value → ax → Prop}
variable {d : Option Tmp} {ty : TypeId} {ps : String} {bh : Array Edge} {g : Option (Nat × Bool)}
variable {t t' : TypeId} {x y : Operand}
variable{E:Nat}
theorem u4{w:World}{b off:Nat}{l vs:List Value}(h:w.heap[b]? =some (.cells l.toArray E (0,0)))(hlen:off+vs.length<=l.length)(d:vs.all Vo=true):
    (storeCells ⟨b,off,none⟩ vs).run P w=.ok () (w.setRow b (dI off vs l).toArray):=by have:=run_storeCells_at P b off E vs 0 l.toArray w h (by simpa using hlen) (λu hu=>by simpa using List.all_eq_true.1 d u hu);trivial
theorem xO{pre cs d vs:List Value}{o:Nat}(h:o+vs.length<=cs.length):dI (pre.length+o) vs (pre++cs++d)=pre++dI o vs cs++d:=by
 unfold dI
 rw[List.append_assoc pre cs d,List.take_append,List.take_of_length_le U,Wh,Nat.add_assoc,List.drop_append,List.drop_eq_nil_of_le U,Wh,List.nil_append,
   List.take_append_of_le_length U,List.drop_append_of_le_length U]
 simp_all
variable{n sz cap:Nat}{rest:List ax}
theorem xM{w:World}{af:Nat}{pre cs u d:List Value}(h:sat w (sep (aj af E (pre++cs++d)) (ah rest)))(f2:cs.length=n*sz)(f3:n<=cap)(f4:cap<=maxLen)
    (f5:cap*sz<=cs.length+d.length) (D:u.length=cs.length):sat (w.setRow af (pre++u++d).toArray) (ah (a1 E sz (some ⟨af,pre.length,none⟩) n cap u::rest)):=
  (xD h).bg (dO (h8 λh C=>⟨(pre,d),⟨rfl,by omega,f3,f4,by simp only;omega⟩,C⟩) (Vx _))
theorem xL{w:World}{ad:Option Addr}{cs:List Value}{hs:List ax}(N:sat w (ah hs))(C:∃i,eO i hs=some (a1 E sz ad n cap cs,rest))(an:0<cs.length):
    ∃af pre u,ad=some ⟨af,pre.length,none⟩/\cs.length=n*sz/\n<=cap/\cap<=maxLen/\cap*sz<=cs.length+u.length/\sat w (sep (aj af E (pre++cs++u)) (ah rest)):=by obtain⟨i,C⟩:=C;obtain⟨P,O,a,b,D,rfl,d,H⟩:=N.bg (fI C);cases ad with|none=>obtain⟨⟨_,_,e⟩,_⟩:=d;rw[e]at an;simp at an|some p=>obtain⟨⟨pre,u⟩,⟨f1,f2,f3,f4,f5⟩,d⟩:=d;obtain⟨af,Q,V⟩:=p;simp only[Addr.mk.injEq,true_and]at f1;obtain⟨rfl,rfl⟩:=f1;exact⟨af,pre,u,rfl,f2,f3,f4,f5,_,O,a,b,D,rfl,d,H⟩
theorem Lw{hs:List ax}{an m D:Nat}{ad C:Option Addr}{cs u H:List Value}(k:Nat)(a2:hl P t E sz=true)(a3:bc ag x=.slice ad n cap)(a4:bc ag y=.slice C m D)
    [aG:pq hs ad E sz n cap cs rest] [hr:bn (ah hs) C an u] (hm:m*sz<=u.length) (aI:Nat.min m n=k) (a0:0<cs.length) (aq:(u.take (k*sz)).all Vo=true) (Q:dI 0 (u.take (k*sz)) cs=H)
    (a5:K (.int .i64 k) (ah (a1 E sz ad n cap H::rest))):cg r P ag ⟨d,.call ⟨.builtin .copy,#[x,y],#[t,t']⟩,ty,ps,bh,g⟩ (ah hs) K:=by
 refine cg.run rfl λw V=>?_;obtain⟨af,pre,Z,rfl,f2,f3,f4,f5,N⟩:=xL V aG.tk a0;have ar:w.heap[af]? =some (.cells (pre++cs++Z).toArray E (0,0)):=(iC (nc af E _)).sat N;have aS:k<=m:=cp
 have aV:k<=n:=cp
 have aY:k*sz<=u.length:=Nat.le_trans (Vr _ aS) hm;have av:(u.take (k*sz)).length=k*sz:=b2
 have O:0+(u.take (k*sz)).length<=cs.length:=by rw[av,f2];have:=Vr sz aV;omega
 have W:=u4 (P:=P) (off:=pre.length+0) ar AA aq;rw[xO O,Q,Nat.add_zero]at W;have aB:Vh sz k (.slice C m D)=Vh sz k (.slice C k D):=by cases C<;>rfl
 have aA:(Vh sz k (.slice C m D)).run P w=.ok (u.take (k*sz)).toArray w:=by rw[aB];exact qz (hr.rd.sat V) aY
 refine⟨.int .i64 k,w.setRow af (pre++H++Z).toArray,_,.inl ?_,⟨rfl,rfl,rfl,by simp⟩,xM N f2 f3 f4 f5 (by rw[<-Q];exact u1 O),a5⟩;simp[execOp,resolve,invoke,builtin,Builtin.copy_,a3,a4,h1 a2,Builtin.lenOf,aI,aA,W,goInt]
theorem y4{hs:List ax}{ad:Option Addr}{cs:List Value}{z:Value}{aq:Array TypeId}(i:Nat)(V:hl P t E sz=true)(a8:ly P E=some z)(be:z.cells.toList.length=sz)(a9:z.cells.toList.all Vo=true)(aV:0<sz)
    (u:bc ag x=.slice (du ad cap i sz) (n-i) (cap-i)) (W:aq[0]? =some t) [D:pq hs ad E sz n cap cs rest] (a4:i<=n)
    (k:∀C,C.length=cs.length->C.take (i*sz)=cs.take (i*sz)->K (.tuple #[]) (ah (a1 E sz ad n cap C::rest))):cg r P ag ⟨d,.call ⟨.builtin .clear,#[x],aq⟩,ty,ps,bh,g⟩ (ah hs) K:=by
 refine cg.run rfl λw N=>?_;by_cases ar:n-i=0;obtain⟨j,H⟩:=D.tk;refine⟨.tuple #[],w,_,.inl ?_,ft.refl w,N.bg (fI H),k cs rfl rfl⟩;rw[ar]at u;cases aI:du ad cap i sz<;>rw[aI]at u<;>simp[execOp,resolve,invoke,builtin,Builtin.clear_,u,W,(h1 V w).1];obtain⟨j,H⟩:=D.tk;have aB:cs.length=n*sz:=(by obtain⟨a3,a7,a,b,a2,rfl,aG,a5⟩:=N.bg (fI H);exact(oj aG).1);have aA:0<cs.length:=by rw[aB];exact Nat.mul_pos U aV
 obtain⟨af,pre,an,rfl,f2,f3,f4,f5,Q⟩:=xL N D.tk aA;have av:w.heap[af]? =some (.cells (pre++cs++an).toArray E (0,0)):=(iC (nc af E _)).sat Q;have aS:du (some ⟨af,pre.length,none⟩) cap i sz=some ⟨af,pre.length+i*sz,none⟩:=(by rw[du,al U];simp[h5]);rw[aS]at u;have bd:(Vi z.cells (n-i)).toList=(List.replicate (n-i) z.cells.toList).flatten:=(by grind[Cu,Vi]);have Z:(Vi z.cells (n-i)).toList.length=(n-i)*sz:=b2;have aY:(Vi z.cells (n-i)).toList.all Vo=true:=b2;have hmul:i*sz+(n-i)*sz=n*sz:=by rw[<-Nat.add_mul];congr 1;omega
 have O:=u4 (P:=P) (off:=pre.length+i*sz) av (by rw[Z,mp,mp];omega) aY;rw[xO (by rw[Z];omega)]at O;have ml:(dI (i*sz) (Vi z.cells (n-i)).toList cs).length=cs.length:=by grind[u1]
 refine⟨.tuple #[],w.setRow af (pre++dI (i*sz) (Vi z.cells (n-i)).toList cs++an).toArray,_,.inl ?_,⟨rfl,rfl,rfl,by simp⟩,xM Q f2 f3 f4 f5 ml,k _ ml ?_⟩;obtain⟨m,hm⟩:∃m,n-i=m+1:=⟨n-i-1,by omega⟩;rw[hm]at u O;have a0:(zeroValue E).run P w=.ok z w:=by grind[vm]
 simp[execOp,resolve,invoke,builtin,Builtin.clear_,u,W,(h1 V w).1,a0,O,hm];grind[dI]
def BE(P:Program)(t:TypeId):Bool:=match P.underlying t with
  | some (.slice _)=>true
  | _=>false
theorem Mk{t:TypeId}(h:BE P t=true)(p:Option Addr)(n c:Nat)(w:World):(Op.equal t (.slice p n c) (.slice none 0 0)).run P w=.ok p.isNone w:=by unfold BE at h;cases hu:P.underlying t with|none=>rw[hu]at h;cases h|some u=>rw[hu]at h;(cases u<;>first|(cases h;done)|skip);have key:∀d,(Yn (d+1) t (.slice p n c) (.slice none 0 0)).run P w=.ok p.isNone w:=λd=>(by cases p<;>simp[Yn,underlying,hu]);exact key 9999
theorem D2{p:Option Addr}{c:Nat}(u:BE P t=true)(C:bc ag x=.slice p n c)(D:bc ag y=.slice none 0 0):bA P ag ⟨d,.binOp .eql t x y t',ty,ps,bh,g⟩ A (.bool p.isNone):=by intro w _;unfold execOp;simp only[C,D,eqGuard,binOp,Vc,Vu,U1,Mk u];trivial
def vR(P:Program)(t:TypeId):Bool:=match P.underlying t with
  | some .bool=>true
  | _=>false
theorem D3{t:TypeId}(h:vR P t=true)(a b:Bool)(w:World):(Op.equal t (.bool a) (.bool b)).run P w=.ok (a==b) w:=by unfold vR at h;cases hu:P.underlying t with|none=>rw[hu]at h;cases h|some u=>rw[hu]at h;(cases u<;>first|(cases h;done)|skip);have key:∀d,(Yn (d+1) t (.bool a) (.bool b)).run P w=.ok (a==b) w:=λd=>(by simp[Yn,underlying,hu]);exact key 9999
theorem zn{a b:Bool}(u:vR P t=true)(C:bc ag x=.bool a)(D:bc ag y=.bool b):bA P ag ⟨d,.binOp .eql t x y t',ty,ps,bh,g⟩ A (.bool (a==b)):=by intro w _;unfold execOp;simp only[C,D,eqGuard,binOp,Vc,Vu,U1,D3 u];trivial
theorem xc{a b:Bool}(u:vR P t=true)(C:bc ag x=.bool a)(D:bc ag y=.bool b):bA P ag ⟨d,.binOp .neq t x y t',ty,ps,bh,g⟩ A (.bool (a !=b)):=by intro w _;unfold execOp;simp only[C,D,eqGuard,binOp,Vc,Vu,U1,D3 u];trivial
end
section
variable {r : Option Nat} {P : Program} {N : Nat} {Q : ff} {ag : Env} {aS : List Deferred} {A : ax} {c : Code}
theorem ab.fact{p:Prop}(h:∀d,A d->p)(k:p->ab r P N c Q ag aS A):ab r P N c Q ag aS A:=λa w C u=>
  k (let⟨d,_,x⟩:=u;h d x) a w C u
end
theorem JN{A:ax}{E:Nat}{cs:List Value}(x:cM A E none cs):∀h,A h->cs=[]:=λh a=>by
  rcases x h a with d|⟨_,_,_,_,d,_⟩
  · exact d
  · cases d
def gw(r:Nat->Value)(fK:List Value):List Value:=[r 0,r 1,r 2,r 3,r 4,r 5,r 6,r 7]++fK
theorem Hp{r:Nat->Value}{fK:List Value}{p o:Nat}(u:p<8)(d:o=p):(gw r fK)[o]? =some (r p):=by rw[d];clear d;rcases p with _|_|_|_|_|_|_|_|p<;>first|rfl|omega
theorem RL{r:Nat->Value}{fK:List Value}{p o:Nat}(v:Value)(u:p<8)(d:o=p):dI o [v] (gw r fK)=gw (λx=>if x=p then v else r x) fK:=by rw[d];clear d;rcases p with _|_|_|_|_|_|_|_|p<;>first|rfl|omega
theorem Ho{r d:Nat->Value}{fK:List Value}(h:∀p,p<8->r p=d p):gw r fK=gw d fK:=by grind[gw]
theorem RK(r:Nat->Value)(fK:List Value):(gw r fK).length=8+fK.length:=by simp[gw];omega
theorem xz{n p:Nat}(d:p<n):∃L,(VP n).Perm (p::L)/\∀x∈L,x≠p/\x<n:=by
 have hm:p∈VP n:=b2
 obtain⟨s,t,e⟩:=Xe hm;grind[List.nodup_range]
def dF{α:Type}(f:Nat->α)(p:Nat)(v:α):Nat->α:=λx=>if x=p then v else f x
theorem jD{α:Type}(f:Nat->α)(p:Nat)(v:α):dF f p v p=v:=by simp[dF]
theorem jc{α:Type}{f:Nat->α}{p x:Nat}{v:α}(h:x≠p):dF f p v x=f x:=by simp[dF,h]
def aP{α:Type}(f:Int->α)(p:Int)(v:α):Int->α:=λx=>if x=p then v else f x
theorem cf{α:Type}(f:Int->α)(p:Int)(v:α):aP f p v p=v:=by simp[aP]
theorem bP{α:Type}{f:Int->α}{p x:Int}{v:α}(h:x≠p):aP f p v x=f x:=by simp[aP,h]
end Go.QM
