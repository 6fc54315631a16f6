/- Proved here: contracts of functions of this program, under the premises that each theorem names. -/
import Derived.MapKept
import Derived.Test.YtglgidjhoncphaaGreatDoorYf
set_option linter.all false
set_option maxRecDepth 4000
set_option maxHeartbeats 4000000
open List renaming length_append->mp,mem_singleton->Up,getElem?_eq_some_iff->Uz,mem_cons->UB,mem_map->UE,length_cons->UP,nodup_append->US,map_cons->UX,range->Vu,length->Wc,getElem?_map->WI,append_of_mem->WK,ext_getElem?->XC
open Go.Result renaming andThen_ok->UA
open Go.Sem renaming run_bind->UL,run_pure->U2
open Nat renaming eq_of_beq_eq_true->UM,mul_le_mul_right->U0,beq->VI,add_sub_cancel_left->VR
open Go.Builtin renaming firstCells->UQ,zeroCells->UR
open Go.Value renaming oneCell'->UY
open Go.QM.aF renaming refl->U5
open Go.MapKept renaming run_getObj_map->Vb,run_setObj_map->V5
open Option renaming map_some->VY
open Option.some renaming injEq->V3
open Prod.mk renaming injEq->WE
open Go.Instr renaming findNow->WR,checkKey->W0,lookup->Xf
open Go.Op renaming equalIn->XV
namespace Go.QM
open Go
section
variable {α : Type} [DecidableEq α]
def ko(a:α):List (α×Value)->Nat->Option (Nat×Value)
  | [],_=>none
  | t::m,i=>if a=t.1 then some (i,t.2)else ko a m (i+1)
def fA(a:α):List (α×Value)->Option Value
  | []=>none
  | t::m=>if a=t.1 then some t.2 else fA a m
def iN(a:α)(v:Value):List (α×Value)->List (α×Value)
  | []=>[(a,v)]
  | t::m=>if a=t.1 then(a,v)::m else t::iN a v m
def iJ(a:α):List (α×Value)->List (α×Value)
  | []=>[]
  | t::m=>if a=t.1 then m else t::iJ a m
theorem tO{a:α}:∀{m:List (α×Value)} {i:Nat},ko a m i=none->fA a m=none/\(∀v,iN a v m=m++[(a,v)])/\iJ a m=m
  | [],_,_=>⟨rfl,λ_=>rfl,rfl⟩
  | t::m,i,h=>by unfold ko at h;split at h;cases h;rename_i d;obtain⟨u,w,C⟩:=tO h;exact⟨by rw[fA,al d,u],λv=>by rw[iN,al d,w];rfl,by rw[iJ,al d,C]⟩
theorem tP{a:α}:∀{m:List (α×Value)} {i j:Nat} {v:Value},ko a m i=some (j,v)->∃k,j=i+k/\m[k]? =some (a,v)/\fA a m=some v/\(∀u,iN a u m=m.set k (a,u))/\iJ a m=m.eraseIdx k
  | [],_,_,_,h=>by cases h
  | t::m,i,j,v,h=>by unfold ko at h;split at h;rename_i he;cases h;refine⟨0,rfl,?_,by rw[fA,aw he],λu=>by rw[iN,aw he];rfl,by rw[iJ,aw he];rfl⟩;obtain⟨x,y⟩:=t;simp only at he;subst he;rfl;rename_i d;obtain⟨k,H,w,C,D,E⟩:=tP h;exact⟨k+1,by omega,w,by rw[fA,al d,C],λu=>by rw[iN,al d,D];rfl,by rw[iJ,al d,E];rfl⟩
structure dM(P:Program)(hQ:TypeId)(enc:α->Value):Prop where
  nM:∀(km:Bool) (a:α) (w:World),(W0 km 10000 hQ (enc a)).run P w=.ok () w
  find:∀(a:α) (m:List (α×Value)) (es:List MapEntry) (w:World),es.map (λe=>(e.key,e.val))=m.map (λt=>(enc t.1,t.2))->(Instr.findKey hQ (enc a) es).run P w=.ok (ko a m 0) w
  same:∀a:α,Instr.sameBits 10000 (enc a) (enc a)=true
end
def encI(x:Int):Value:=.int .i64 x
theorem dM.int{P:Program}{u:TypeId}(h:P.underlying u=some (.int .i64)):dM P u encI where
  nM:=λkm a w=>by
    unfold W0
    simp[underlying,h,encI]
  find := λa m es w he=>by
    have key:∀(m:List (Int×Value)) (es:List MapEntry) (i:Nat),es.map (λe=>(e.key,e.val))=m.map (λt=>(encI t.1,t.2))->WR (.int .i64) (encI a) es i=some (ko a m i):=by
      intro m
      induction m with
      | nil=>intro es i he;cases es with|nil=>rfl|cons e es=>simp at he
      | cons t m H=>
        intro es i he
        cases es with
        | nil=>simp at he
        | cons e es=>
          simp only[UX,List.cons.injEq,WE]at he
          obtain⟨⟨C,D⟩,E⟩:=he
          rw[WR,C]
          simp only[encI,Instr.sameNow,if_true,ko]
          by_cases d:a=t.1
          · simp[d,D]
          · have:(a==t.1)=false:=by simpa using d
            simp only[this,al d]
            exact H es (i+1) E
    simp[Instr.findKey,underlying,h,key m es 0 he]
  same:=λa=>by simp[Instr.sameBits,encI]
def i9(es:Array MapEntry)(aL:Nat):Prop:=(∀e∈es.toList,e.born<aL)/\(es.toList.map (·.born)).Nodup
theorem i9.push{es:Array MapEntry}{aL:Nat}(h:i9 es aL){k v:Value}:i9 (es.push {key:=k,val:=v,born:=aL}) (aL+1):=by refine⟨λe he=>?_,?_⟩;rw[Array.toList_push,List.mem_append,Up]at he;rcases he with he|rfl;have:=h.1 e he;omega;simp_all;rw[Array.toList_push,List.map_append,US];refine⟨h.2,by simp,λa d c w e=>?_⟩;obtain⟨u,hu,rfl⟩:=UE.1 d;have:=h.1 u hu;simp_all
theorem i9.modify{es:Array MapEntry}{aL:Nat}(h:i9 es aL)(j:Nat)(f:MapEntry->MapEntry)(C:∀e,(f e).born=e.born):i9 (es.modify j f) aL:=by
 have hm:(es.modify j f).toList.map (·.born)=es.toList.map (·.born):=(by rw[Array.toList_modify];apply XC;grind);refine⟨λe he=>?_,by rw[hm];exact h.2⟩;have d:e.born∈(es.modify j f).toList.map (·.born):=cr
 rw[hm]at d;obtain⟨u,hu,w⟩:=UE.1 d;rw[<-w];exact h.1 u hu
theorem i9.erase{es:Array MapEntry}{aL:Nat}(h:i9 es aL)(j:Nat):i9 (es.eraseIdxIfInBounds j) aL:=by have d:(es.eraseIdxIfInBounds j).toList.Sublist es.toList:=(by grind[Array.toList_eraseIdx]);exact⟨λe he=>h.1 e (d.subset he),h.2.sublist (d.map _)⟩
def zK{α:Type}(enc:α->Value)(m:List (α×Value))(o:Obj):Prop:=∃es aL,o=.map es aL/\es.toList.map (λe=>(e.key,e.val))=m.map (λt=>(enc t.1,t.2))/\i9 es aL
def nk{α:Type}(enc:α->Value)(b:Nat)(m:List (α×Value)):ax:=fj λo:Obj=>pure' (zK enc m o) (obj b o)
def sa{α:Type}(A:ax)(b:Nat)(enc:α->Value)(m:List (α×Value)):Prop:=∀h,A h->∃o,h b=some o/\zK enc m o
theorem yb{α:Type}(enc:α->Value)(b:Nat)(m:List (α×Value)):sa (nk enc b m) b enc m:=λh ⟨o,d,u⟩=>⟨o,by rw[u];simp,d⟩
theorem Ci{α:Type}{A B:ax}{b:Nat}{enc:α->Value}{m:List (α×Value)}(x:sa A b enc m):sa (sep A B) b enc m:=by rintro h ⟨a,c,d,rfl,C,D⟩;obtain⟨o,u,w⟩:=x a C;exact⟨o,qs a c b o u,w⟩
class vj(A:ax)(b:Nat)(α:outParam Type)(enc:outParam (α->Value))(m:outParam (List (α×Value))):Prop where
  rd:sa A b enc m
class yg(hs:List ax)(b:Nat)(α:outParam Type)(enc:outParam (α->Value))(m:outParam (List (α×Value)))(r:outParam (List ax)):Prop where
  tk:∃i,eT i hs=some (nk enc b m,r)
instance {α:Type}(enc:α->Value)(b:Nat)(m:List (α×Value))(r:List ax):yg (nk enc b m::r) b α enc m r:=⟨0,rfl⟩
theorem sa.sat{α:Type}{A:ax}{b:Nat}{enc:α->Value}{m:List (α×Value)}(x:sa A b enc m){w:World}(h:QM.sat w A):∃es aL,w.heap[b]? =some (.map es aL)/\es.toList.map (λe=>(e.key,e.val))=m.map (λt=>(enc t.1,t.2))/\i9 es aL:=by obtain⟨u,E,d⟩:=h;obtain⟨o,C,es,aL,rfl,D⟩:=x u d;grind
theorem Af{β d:Type}(f:β->d):∀(l:List β) (j:Nat),(l.eraseIdx j).map f=(l.map f).eraseIdx j
  | [],_=>by simp
  | _::_,0=>by simp
  | a::l,j+1=>by simp[Af f l j]
section
variable {α : Type} {enc : α → Value} {m : List (α × Value)}
variable {r : Option Nat} {P : Program} {ag : Env} {A : ax} {K : Value → ax → Prop}
variable {d : Option Tmp} {ty : TypeId} {ps : String} {bh : Array Edge} {g : Option (Nat × Bool)}
variable {t : TypeId} {x : Operand}
def ma(P:Program)(t hQ e:TypeId):Bool:=match P.underlying t with
  | some (.map k v)=>VI k hQ&&VI v e
  | _=>false
theorem oI{d e:TypeId}(h:ma P t d e=true)(w:World):(underlying t).run P w=.ok (.map d e) w:=by unfold ma at h;cases hu:P.underlying t with|none=>rw[hu]at h;cases h|some u=>rw[hu]at h;(cases u<;>first|(cases h;done)|(simp only[Bool.and_eq_true]at h;have C:=UM h.1;have D:=UM h.2;subst C;subst D;simp[underlying,hu]))
theorem Pl{hs:List ax}(enc:α->Value)(k:∀b,K (.map (some b)) (ah (nk enc b []::hs))):cj r P ag ⟨d,.makeMap t none,ty,ps,bh,g⟩ (ah hs) K:=
  cj.run rfl λw C=>⟨.map (some w.heap.size),w.alloc (.map #[] 0),_,.inl rfl,⟨rfl,rfl,rfl,by simp⟩,
    (oP _ C).bf (dP (h1 λh u=>⟨_,⟨#[],0,rfl,rfl,⟨λ_ h=>(by cases h),List.nodup_nil⟩⟩,u⟩) (U5 _)),k w.heap.size⟩
theorem xn{w:World}{b:Nat}{m':List (α×Value)}{es es':Array MapEntry}{aL pf:Nat}{hs rest:List ax}(W:sat w (ah hs))(d:∃i,eT i hs=some (nk enc b m,rest))(ag:w.heap[b]? =some (.map es aL))
    (D:es'.toList.map (λe=>(e.key,e.val))=m'.map (λt=>(enc t.1,t.2))) (N:i9 es' pf):sat {w with heap:=w.heap.setIfInBounds b (.map es' pf)} (ah (nk enc b m'::rest)):=by
 obtain⟨i,d⟩:=d;obtain⟨u,Z,p,q,C,rfl,⟨o,an,Q⟩,V⟩:=W.bf (fC d);have E:sat w (sep (obj b o) (ah rest)):=⟨_,Z,p,q,C,rfl,Q,V⟩;have P:b<w.heap.size:=cr
 have H:sat {w with heap:=w.heap.setIfInBounds b (.map es' pf)} (sep (obj b (.map es' pf)) (ah rest)):=
   uE E (by show(w.heap.setIfInBounds b _)[b]? =_;rw[Array.getElem?_setIfInBounds_self_of_lt P]) (λj O=>by show(w.heap.setIfInBounds b _)[j]? =_;rw[Array.getElem?_setIfInBounds_ne (Ne.symm O)])
 exact H.bf (dP (h1 λh u=>⟨_,⟨es',pf,rfl,D,N⟩,u⟩) (U5 _))
theorem O4(N e:TypeId){b:Nat}(E:ma P t N e=true)(H:bb ag x=.map (some b))[hr:vj A b α enc m]:
    bz P ag ⟨d,.call ⟨.builtin .len,#[x],#[t]⟩,ty,ps,bh,g⟩ A (.int .i64 m.length):=λw D=>by
  obtain⟨es,aL,u,C,O⟩:=hr.rd.sat D
  have hlen:es.size=m.length:=by simpa using congrArg Wc C
  simp[execOp,resolve,invoke,builtin,Builtin.len_,H,oI E,Vb u,goInt,hlen]
end
section
variable {α : Type} [DecidableEq α] {enc : α → Value} {m : List (α × Value)}
variable {r : Option Nat} {P : Program} {N : Nat} {ops : Array Oper} {l : List Oper} {Q : ff} {ag : Env} {aQ : List Deferred} {A : ax} {K : Value → ax → Prop}
variable {d : Option Tmp} {ty : TypeId} {ps : String} {bh : Array Edge} {g : Option (Nat × Bool)}
variable {t t' : TypeId} {x y z : Operand} {k : IntKind}
variable{a:α}
theorem O7(V e:TypeId){b:Nat}{W:Value}(N:ma P t V e=true)(ao:lg P e=some W)(D:dM P V enc)(O:bb ag x=.map (some b))(Q:bb ag y=enc a)[hr:vj A b α enc m]:
    bz P ag ⟨d,.lookup t x y false,ty,ps,bh,g⟩ A ((fA a m).getD W):=λw an=>by
  obtain⟨es,aL,E,Z,ar⟩:=hr.rd.sat an
  have H:=D.find a m es.toList w Z
  cases u:ko a m 0 with
  | none=>
    obtain⟨C,_⟩:=tO u
    simp[execOp,Xf,O,Q,oI N,Vb E,D.nM,H,u,C,u5 ao]
  | some p=>
    obtain⟨j,v⟩:=p
    obtain⟨_,_,_,C,_⟩:=tP u
    simp[execOp,Xf,O,Q,oI N,Vb E,D.nM,H,u,C]
theorem O8(V e:TypeId){b:Nat}{W:Value}(N:ma P t V e=true)(ao:lg P e=some W)(D:dM P V enc)(O:bb ag x=.map (some b))(Q:bb ag y=enc a)[hr:vj A b α enc m]:
    bz P ag ⟨d,.lookup t x y true,ty,ps,bh,g⟩ A (.tuple #[(fA a m).getD W,.bool (fA a m).isSome]):=λw an=>by
  obtain⟨es,aL,E,Z,ar⟩:=hr.rd.sat an
  have H:=D.find a m es.toList w Z
  cases u:ko a m 0 with
  | none=>
    obtain⟨C,_⟩:=tO u
    simp[execOp,Xf,O,Q,oI N,Vb E,D.nM,H,u,C,u5 ao]
  | some p=>
    obtain⟨j,v⟩:=p
    obtain⟨_,_,_,C,_⟩:=tP u
    simp[execOp,Xf,O,Q,oI N,Vb E,D.nM,H,u,C]
theorem PA{hs rest:List ax}(au e:TypeId){b:Nat}{v:Value}(an:ma P t au e=true)(E:dM P au enc)(ao:bb ag x=.map (some b))(ar:bb ag y=enc a)(hv:bb ag z=v)[N:yg hs b α enc m rest]
    (k:K undef (ah (nk enc b (iN a v m)::rest))):cj r P ag ⟨d,.mapUpdate t x y z,ty,ps,bh,g⟩ (ah hs) K:=by refine cj.run rfl λw O=>?_;obtain⟨i,aC⟩:=N.tk;obtain⟨es,aL,u,C,Q⟩:=(Ci (yb enc b m)).sat (O.bf (fC aC));have V:=E.find a m es.toList w C;cases D:ko a m 0 with|none=>obtain⟨_,H,_⟩:=tO D;refine⟨undef,{w with heap:=w.heap.setIfInBounds b (.map (es.push {key:=enc a,val:=v,born:=aL}) (aL+1))},_,.inr ⟨?_,rfl⟩,⟨rfl,rfl,rfl,?_⟩,xn (m':=iN a v m) (es':=es.push {key:=enc a,val:=v,born:=aL}) (pf:=aL+1) O N.tk u (by rw[H];simp[C]) Q.push,k⟩;simp[execOp,Instr.mapUpdate,ao,ar,hv,oI an,Vb u,E.nM,V,D,V5 _ u];simp|some p=>obtain⟨j,v0⟩:=p;obtain⟨n,aQ,H,_,aA,_⟩:=tP D;(have aH:j=n:=by omega);subst aH;have Z:((es.toList[j]?).map (·.key))=some (enc a):=(by have:=congrArg (λl=>l[j]?) C;simp only[WI,H,VY]at this;cases he:es.toList[j]? with|none=>rw[he]at this;cases this|some ey=>rw[he]at this;simp only[VY,V3,WE]at this;simp[this.1]);have aK:(Instr.keyThatStays (((es[j]?).map (·.key)).getD (enc a)) (enc a)).run P w=.ok (enc a) w:=(by(have:es[j]? =es.toList[j]? :=by simp);rw[this,Z];simp[Instr.keyThatStays,E.same a]);refine⟨undef,{w with heap:=w.heap.setIfInBounds b (.map (es.modify j λe=>{e with key:=enc a,val:=v}) aL)},_,.inr ⟨?_,rfl⟩,⟨rfl,rfl,rfl,?_⟩,xn (m':=iN a v m) (es':=es.modify j λe=>{e with key:=enc a,val:=v}) (pf:=aL) O N.tk u ?_ (Q.modify j _ λ_=>rfl),k⟩;simp[execOp,Instr.mapUpdate,ao,ar,hv,oI an,Vb u,E.nM,V,D,aK,V5 _ u];simp;rw[aA,List.map_set,<-C,Array.toList_modify];apply XC;intro i;simp only[WI,List.getElem?_modify,List.getElem?_set,List.length_map];by_cases W:j=i;subst W;(cases he:es.toList[j]? with|none=>simp[he]at Z|some ey=>have:=(Uz.1 he).1;simp;simpa using this);simp[W]
theorem Lj{hs rest:List ax}(ar e:TypeId){b:Nat}{au:Array TypeId}(W:ma P t ar e=true)(N:dM P ar enc)(an:bb ag x=.map (some b))(ao:bb ag y=enc a)(Z:au[0]? =some t)[H:yg hs b α enc m rest]
    (k:K (.tuple #[]) (ah (nk enc b (iJ a m)::rest))):cj r P ag ⟨d,.call ⟨.builtin .delete,#[x,y],au⟩,ty,ps,bh,g⟩ (ah hs) K:=by refine cj.run rfl λw O=>?_;obtain⟨i,aC⟩:=H.tk;obtain⟨es,aL,u,C,Q⟩:=(Ci (yb enc b m)).sat (O.bf (fC aC));have V:=N.find a m es.toList w C;cases D:ko a m 0 with|none=>obtain⟨_,_,E⟩:=tO D;refine⟨.tuple #[],{w with heap:=w.heap.setIfInBounds b (.map es aL)},_,.inl ?_,⟨rfl,rfl,rfl,?_⟩,xn (m':=iJ a m) (es':=es) (pf:=aL) O H.tk u (by rw[E];exact C) Q,k⟩;simp[execOp,resolve,invoke,builtin,Builtin.delete_,an,ao,Z,oI W,Vb u,N.nM,V,D,V5 _ u];simp|some p=>obtain⟨j,v0⟩:=p;obtain⟨n,aQ,E,_,_,aA⟩:=tP D;(have aK:j=n:=by omega);subst aK;(have hlen:es.size=m.length:=by simpa using congrArg Wc C);(have aH:j<es.size:=by rw[hlen];exact(Uz.1 E).1);refine⟨.tuple #[],{w with heap:=w.heap.setIfInBounds b (.map (es.eraseIdxIfInBounds j) aL)},_,.inl ?_,⟨rfl,rfl,rfl,?_⟩,xn (m':=iJ a m) (es':=es.eraseIdxIfInBounds j) (pf:=aL) O H.tk u ?_ (Q.erase j),k⟩;simp[execOp,resolve,invoke,builtin,Builtin.delete_,an,ao,Z,oI W,Vb u,N.nM,V,D,V5 _ u];simp;rw[aA,Af,<-C,<-Af];simp[Array.eraseIdxIfInBounds,aH]
end
end Go.QM
namespace Go.QM
open Go
class r9(cs:List Value)(cap j sz:Nat):Prop where
  n:∃n,cs.length=n*sz/\j<=n/\n<=cap
instance (A:ax)(ad:Option Addr)(cap j sz E:Nat)(cs:List Value)[hr:bl A ad E cs][h:r9 cs cap j sz]:bl A (dI ad cap j sz) E (cs.drop (j*sz)):=⟨by
  obtain⟨n,gy,gz,gA⟩:=h.n
  exact Ck hr.rd gy gz gA⟩
section
variable {r : Option Nat} {P : Program} {N : Nat} {ops : Array Oper} {l : List Oper} {Q : ff} {ag : Env} {aQ : List Deferred} {A : ax} {K : Value → ax → Prop}
variable {d : Option Tmp} {ty : TypeId} {ps : String} {bh : Array Edge} {g : Option (Nat × Bool)}
variable {t t' : TypeId} {x y z : Operand} {k : IntKind}
theorem n6(E sz i:Nat){ad:Option Addr}{n cap:Nat}{j:Int}(w:hc P t E sz=true)(C:bb ag x=.slice ad n cap)(D:bb ag y=.int .i64 j)(u:j=(i:Int))(H:i<=n):
    bz P ag ⟨d,.slice t x (some y) none none,ty,ps,bh,g⟩ A (.slice (dI ad cap i sz) (n-i) (cap-i)):=by subst u;have:=Hb (A:=A) (d:=d) (ty:=ty) (ps:=ps) (bh:=bh) (g:=g) E sz w C D U U;trivial
theorem nv(E sz i:Nat){ad:Option Addr}{n cap:Nat}{j:Int}(w:hc P t E sz=true)(C:bb ag x=.slice ad n cap)(D:bb ag y=.int .i64 j)(u:j=(i:Int))(H:i<=cap):
    bz P ag ⟨d,.slice t x none (some y) none,ty,ps,bh,g⟩ A (.slice ad i cap):=by subst u;have:=RW (A:=A) (d:=d) (ty:=ty) (ps:=ps) (bh:=bh) (g:=g) E sz w C D U U;trivial
end
class vn(hs:List ax)(A:ax)(r:outParam (List ax)):Prop where
  tk:∃i,eT i hs=some (A,r)
instance (priority:=100)(B:ax)(hs:List ax)(A:ax)(r:List ax)[h:vn hs A r]:vn (B::hs) A (B::r):=⟨by
  obtain⟨i,pt⟩:=h.tk
  exact⟨i+1,by simp[eT,pt]⟩⟩
instance (priority:=200)(A:ax)(r:List ax):vn (A::r) A r:=⟨0,rfl⟩
class eB(hs pre:List ax)(rest:outParam (List ax)):Prop where
  p:lq hs pre rest
instance (hs:List ax):eB hs [] hs:=⟨eA hs⟩
instance (hs r pre rest:List ax)(A:ax)[h:vn hs A r][k:eB r pre rest]:eB hs (A::pre) rest:=⟨by
  obtain⟨i,pt⟩:=h.tk
  exact dY i pt k.p⟩
section
variable {α : Type} [DecidableEq α]
def fe(f:α->Option Value)(a:α)(v:Value):α->Option Value:=λx=>if x=a then some v else f x
def fQ(f:α->Option Value)(a:α):α->Option Value:=λx=>if x=a then none else f x
structure kJ(f:α->Option Value)(n:Nat)(m:List (α×Value)):Prop where
  bo:(m.map (·.1)).Nodup
  oH:∀a,fA a m=f a
  n:m.length=n
theorem z8{a:α}:∀{m:List (α×Value)},fA a m=none↔a∉m.map (·.1)
  | []=>by simp[fA]
  | t::m=>by simp only[fA,UX,UB,not_or];split;rename_i h;simp[h];rename_i h;rw[z8];simp[h]
theorem Fg(a b:α)(v:Value):∀(m:List (α×Value)),fA a (iN b v m)=if a=b then some v else fA a m
  | []=>by simp only[iN,fA]
  | t::m=>by simp only[iN];by_cases h:b=t.1;rw[aw h];simp only[fA];by_cases d:a=b;rw[aw d,aw d];rw[al d,al d,al (by rw[<-h];exact d)];rw[al h];simp only[fA];by_cases d:a=t.1;rw[aw d,aw d,al (by rw[d];exact λe=>h e.symm)];rw[al d,al d];exact Fg a b v m
theorem EV(b:α)(v:Value):∀(m:List (α×Value)),(iN b v m).map (·.1)=if b∈m.map (·.1)then m.map (·.1)else m.map (·.1)++[b]
  | []=>by simp[iN]
  | t::m=>by simp only[iN];by_cases h:b=t.1;rw[aw h];simp[h];rw[al h];simp only[UX,EV b v m,UB];by_cases d:b∈m.map (·.1);rw[aw d,aw (.inr d)];rw[al d,al (by simp[h,d])];rfl
theorem Ff(a b:α):∀(m:List (α×Value)),(m.map (·.1)).Nodup->fA a (iJ b m)=if a=b then none else fA a m
  | [],_=>by simp[iJ,fA]
  | t::m,au=>by simp only[UX,List.nodup_cons]at au;simp only[iJ];by_cases h:b=t.1;rw[aw h];by_cases d:a=b;rw[aw d,z8,d,h];exact au.1;rw[al d];simp only[fA];rw[al (by rw[<-h];exact d)];rw[al h];simp only[fA];by_cases d:a=t.1;rw[aw d,aw d,al (by rw[d];exact λe=>h e.symm)];rw[al d,al d];exact Ff a b m au.2
theorem EU(b:α):∀(m:List (α×Value)),((iJ b m).map (·.1)).Sublist (m.map (·.1))
  | []=>by simp[iJ]
  | t::m=>by simp only[iJ];by_cases h:b=t.1;rw[aw h];simp;rw[al h];simp only[UX];exact(EU b m).cons_cons _
theorem Dm(b:α):∀(m:List (α×Value)),(iJ b m).length=if(fA b m).isSome then m.length-1 else m.length
  | []=>rfl
  | t::m=>by
   by_cases h:b=t.1;have d:fA b (t::m)=some t.2:=by simp only[fA];rw[aw h]
   have u:iJ b (t::m)=m:=by simp only[iJ];rw[aw h]
   rw[d,u];rfl;have d:fA b (t::m)=fA b m:=by simp only[fA];rw[al h]
   have u:iJ b (t::m)=t::iJ b m:=by simp only[iJ];rw[al h]
   rw[d,u,UP,Dm b m];split;rename_i w;have:m≠[]:=by intro e;subst e;simp[fA]at w
   have:=List.length_pos_iff.2 this;simp only[UP];omega;rfl
theorem H7(b:α)(v:Value):∀(m:List (α×Value)),(iN b v m).length=if(fA b m).isSome then m.length else m.length+1
  | []=>rfl
  | t::m=>by
   by_cases h:b=t.1;have d:fA b (t::m)=some t.2:=by simp only[fA];rw[aw h]
   have u:iN b v (t::m)=(b,v)::m:=by simp only[iN];rw[aw h]
   rw[d,u];rfl;have d:fA b (t::m)=fA b m:=by simp only[fA];rw[al h]
   have u:iN b v (t::m)=t::iN b v m:=by simp only[iN];rw[al h]
   rw[d,u,UP,H7 b v m];split<;>rfl
theorem kJ.up{f:α->Option Value}{n:Nat}{m:List (α×Value)}(h:kJ f n m)(a:α)(v:Value):kJ (fe f a v) (if(f a).isSome then n else n+1) (iN a v m) where
  bo:=by
    rw[EV]
    split
    · exact h.bo
    · rename_i u
      rw[US]
      refine⟨h.bo,by simp,?_⟩
      intro x w y d e
      simp only[Up]at d
      subst d;subst e;exact u w
  oH:=λx=>by rw[Fg,fe,h.oH]
  n:=by rw[H7,h.oH,h.n]
theorem kJ.dl{f:α->Option Value}{n:Nat}{m:List (α×Value)}(h:kJ f n m)(a:α):kJ (fQ f a) (if(f a).isSome then n-1 else n) (iJ a m) where
  bo:=h.bo.sublist (EU a m)
  oH:=λx=>by rw[Ff _ _ _ h.bo,fQ,h.oH]
  n:=by rw[Dm,h.oH,h.n]
end
def bC{α:Type}[DecidableEq α](enc:α->Value)(b:Nat)(f:α->Option Value)(n:Nat):ax:=fj λm:List (α×Value)=>pure' (kJ f n m) (nk enc b m)
def qa{α:Type}[DecidableEq α](A:ax)(b:Nat)(enc:α->Value)(f:α->Option Value)(n:Nat):Prop:=∀h,A h->∃m,kJ f n m/\∃o,h b=some o/\zK enc m o
section
variable {α : Type} [DecidableEq α] {enc : α → Value} {f : α → Option Value} {n b : Nat}
theorem Ji:qa (bC enc b f n) b enc f n:=λ_ ⟨m,hm,d⟩=>⟨m,hm,yb enc b m _ d⟩
theorem Jh{A B:ax}(x:qa A b enc f n):qa (sep A B) b enc f n:=by rintro h ⟨a,c,d,rfl,C,D⟩;obtain⟨m,hm,o,u,w⟩:=x a C;exact⟨m,hm,o,qs a c b o u,w⟩
theorem Jj{A B:ax}(x:qa B b enc f n):qa (sep A B) b enc f n:=by rintro h ⟨a,c,d,rfl,D,C⟩;obtain⟨m,hm,o,u,w⟩:=x c C;exact⟨m,hm,o,tX d b o u,w⟩
end
class qb(A:ax)(b:Nat){α:outParam Type}[outParam (DecidableEq α)](enc:outParam (α->Value))(f:outParam (α->Option Value))(n:outParam Nat):Prop where
  rd:qa A b enc f n
section
variable {α : Type} [DecidableEq α]
instance (enc:α->Value)(b:Nat)(f:α->Option Value)(n:Nat):qb (bC enc b f n) b enc f n:=⟨Ji⟩
instance (A:ax)(l:List ax)(b:Nat)(enc:α->Value)(f:α->Option Value)(n:Nat)[h:qb (ah l) b enc f n]:qb (ah (A::l)) b enc f n:=⟨Jj h.rd⟩
instance (A:ax)(l:List ax)(b:Nat)(enc:α->Value)(f:α->Option Value)(n:Nat)[h:qb A b enc f n]:qb (ah (A::l)) b enc f n:=⟨Jh h.rd⟩
end
class sd(hs:List ax)(b:Nat){α:outParam Type}[outParam (DecidableEq α)](enc:outParam (α->Value))(f:outParam (α->Option Value))(n:outParam Nat)(r:outParam (List ax)):Prop where
  tk:∃i,eT i hs=some (bC enc b f n,r)
section
variable {α : Type} [DecidableEq α]
instance (enc:α->Value)(b:Nat)(f:α->Option Value)(n:Nat)(r:List ax):sd (bC enc b f n::r) b enc f n r:=⟨0,rfl⟩
instance (A:ax)(hs:List ax)(b:Nat)(enc:α->Value)(f:α->Option Value)(n:Nat)(r:List ax)[h:sd hs b enc f n r]:sd (A::hs) b enc f n (A::r):=⟨by
  obtain⟨i,pt⟩:=h.tk
  exact⟨i+1,by simp[eT,pt]⟩⟩
end
section
variable {α : Type} [DecidableEq α] {enc : α → Value} {f : α → Option Value} {n : Nat}
variable {r : Option Nat} {P : Program} {N : Nat} {ops : Array Oper} {l : List Oper} {Q : ff} {ag : Env} {aQ : List Deferred} {A : ax} {K : Value → ax → Prop}
variable {d : Option Tmp} {ty : TypeId} {ps : String} {bh : Array Edge} {g : Option (Nat × Bool)}
variable {t t' : TypeId} {x y z : Operand}
variable{b:Nat}
theorem qa.at(hr:qa A b enc f n){w:World}(hs:QM.sat w A):∃(B:ax) (m:List (α×Value)),kJ f n m/\QM.sat w B/\vj B b α enc m:=by obtain⟨d,E,D⟩:=hs;obtain⟨m,hm,o,u,C⟩:=hr d D;exact⟨λh=>h=d,m,hm,⟨d,E,rfl⟩,⟨λh e=>by subst e;exact⟨o,u,C⟩⟩⟩
variable(hQ:TypeId){a:α}
theorem j8(e:TypeId){u:Value}(H:ma P t hQ e=true)(Q:lg P e=some u)(C:dM P hQ enc)(N:bb ag x=.map (some b))(O:bb ag y=enc a)[hr:qb A b enc f n]:
    bz P ag ⟨d,.lookup t x y false,ty,ps,bh,g⟩ A ((f a).getD u):=λw D=>by
  obtain⟨B,m,hm,E,V⟩:=hr.rd.at D
  have:=(O7 (A:=B) (d:=d) (ty:=ty) (ps:=ps) (bh:=bh) (g:=g) hQ e H Q C N O) w E
  rwa[hm.oH]at this
theorem Fj(e:TypeId){u:Value}(H:ma P t hQ e=true)(Q:lg P e=some u)(C:dM P hQ enc)(N:bb ag x=.map (some b))(O:bb ag y=enc a)[hr:qb A b enc f n]:
    bz P ag ⟨d,.lookup t x y true,ty,ps,bh,g⟩ A (.tuple #[(f a).getD u,.bool (f a).isSome]):=λw D=>by
  obtain⟨B,m,hm,E,V⟩:=hr.rd.at D
  have:=(O8 (A:=B) (d:=d) (ty:=ty) (ps:=ps) (bh:=bh) (g:=g) hQ e H Q C N O) w E
  rwa[hm.oH]at this
theorem O3(e:TypeId)(D:ma P t hQ e=true)(E:bb ag x=.map (some b))[hr:qb A b enc f n]:
    bz P ag ⟨d,.call ⟨.builtin .len,#[x],#[t]⟩,ty,ps,bh,g⟩ A (.int .i64 n):=λw u=>by
  obtain⟨B,m,hm,C,H⟩:=hr.rd.at u
  have:=(O4 (A:=B) (d:=d) (ty:=ty) (ps:=ps) (bh:=bh) (g:=g) hQ e D E) w C
  rwa[hm.n]at this
theorem wR{hs:List ax}(enc:α->Value)(k:∀b,K (.map (some b)) (ah (bC enc b (λ_=>none) 0::hs))):cj r P ag ⟨d,.makeMap t none,ty,ps,bh,g⟩ (ah hs) K:=
  cj.post (r8:=λv u=>∃b,v=.map (some b)/\u=ah (nk enc b []::hs)) (Pl enc λb=>⟨b,rfl,rfl⟩) (by rintro v u ⟨b,rfl,rfl⟩;exact⟨_,dP (h1 λh w=>⟨[],⟨by simp,λ_=>rfl,rfl⟩,w⟩) (U5 _),k b⟩)
theorem lK{hs rest:List ax}(e:TypeId){v:Value}(H:ma P t hQ e=true)(D:dM P hQ enc)(N:bb ag x=.map (some b))(O:bb ag y=enc a)(hv:bb ag z=v)[u:sd hs b enc f n rest]
    (k:K undef (ah (bC enc b (fe f a v) (if(f a).isSome then n else n+1)::rest))):cj r P ag ⟨d,.mapUpdate t x y z,ty,ps,bh,g⟩ (ah hs) K:=by obtain⟨i,u⟩:=u.tk;refine cj.bf (fC u) (show cj r P ag _ (ah (bC enc b f n::rest)) K from ?_);refine cj.ex λm=>cj.pure λhm=>?_;exact cj.post (r8:=λC w=>C=undef/\w=ah (nk enc b (iN a v m)::rest)) (PA hQ e H D N O hv ⟨rfl,rfl⟩) (by rintro C w ⟨rfl,rfl⟩;exact⟨_,dP (h1 λh E=>⟨_,hm.up a v,E⟩) (U5 _),k⟩)
theorem lB{hs rest:List ax}(e:TypeId){C:Array TypeId}(N:ma P t hQ e=true)(E:dM P hQ enc)(Q:bb ag x=.map (some b))(V:bb ag y=enc a)(O:C[0]? =some t)[u:sd hs b enc f n rest]
    (k:K (.tuple #[]) (ah (bC enc b (fQ f a) (if(f a).isSome then n-1 else n)::rest))):cj r P ag ⟨d,.call ⟨.builtin .delete,#[x,y],C⟩,ty,ps,bh,g⟩ (ah hs) K:=by obtain⟨i,u⟩:=u.tk;refine cj.bf (fC u) (show cj r P ag _ (ah (bC enc b f n::rest)) K from ?_);refine cj.ex λm=>cj.pure λhm=>?_;exact cj.post (r8:=λD w=>D=.tuple #[]/\w=ah (nk enc b (iJ a m)::rest)) (Lj hQ e N E Q V O ⟨rfl,rfl⟩) (by rintro D w ⟨rfl,rfl⟩;exact⟨_,dP (h1 λh H=>⟨_,hm.dl a,H⟩) (U5 _),k⟩)
end
end Go.QM
namespace Go.QM
open Go
def b7{α:Type}(f:α->ax)(L:List α):ax:=ah (L.map f)
section
variable {α : Type} {f g : α → ax}
theorem Rx{l m:List ax}(h:l.Perm m):aF (ah l) (ah m):=by induction h with|nil=>exact U5 _|cons x _ w=>exact dP (U5 x) w|swap x y l=>exact ju|trans _ _ d u=>exact d.trans u
variable{L:List α}
theorem vy{M:List α}(h:L.Perm M):aF (b7 f L) (b7 f M):=Rx (h.map f)
theorem yA(h:∀a∈L,f a=g a):b7 f L=b7 g L:=by grind[b7,List.map_congr_left]
theorem mZ(hs:List ax):aF (ah hs) (ah (b7 f []::hs)):=pL.trans nt
theorem fR(n:Nat){hs d:List ax}{L':List α}{a:α}(h:eT n hs=some (b7 f L,d))(u:L.Perm (a::L')):aF (ah hs) (ah (f a::b7 f L'::d)):=
  (fC h).trans ((dP (vy u) (U5 _)).trans pK)
theorem cU(i j:Nat){hs ee u gs:List ax}{M:List α}{A:ax}(a:α)(w:eT i hs=some (A,ee))(d:eT j ee=some (b7 f L,u))(C:A=g a)(D:∀x∈L,f x=g x)(E:(a::L).Perm M)
    (k:aF (ah u) (ah gs)):aF (ah hs) (ah (b7 g M::gs)):=by subst C;rw[yA D]at d;refine(fC w).trans ((dP (U5 _) (fC d)).trans (ns.trans (dP ?_ k)));exact vy (f:=g) E
theorem ow(i:Nat){hs r gs:List ax}{M:List α}(h:eT i hs=some (b7 f L,r))(d:∀x∈L,f x=g x)(u:L.Perm M)(k:aF (ah r) (ah gs)):aF (ah hs) (ah (b7 g M::gs)):=by rw[yA d]at h;exact(fC h).trans (dP (vy u) k)
theorem sR{i:Nat}{a:α}(h:L[i]? =some a):L.Perm (a::(L.take i++L.drop (i+1))):=by grind[List.drop_eq_getElem_cons,List.take_append_drop,List.perm_middle]
theorem fv{a:α}(h:a∈L):∃L',L.Perm (a::L'):=by obtain⟨s,t,rfl⟩:=WK h;grind[List.perm_middle]
end
section
variable {r : Option Nat} {P : Program} {N : Nat} {ops : Array Oper} {l : List Oper} {Q : ff} {ag : Env} {aQ : List Deferred} {A : ax} {K : Value → ax → Prop}
variable {d : Option Tmp} {ty : TypeId} {ps : String} {bh : Array Edge} {g : Option (Nat × Bool)}
variable {t t' : TypeId} {x y : Operand}
variable{E:Nat}
theorem uN{w:World}{b off:Nat}{l vs:List Value}(h:w.heap[b]? =some (.cells l.toArray E (0,0)))(hlen:off+vs.length<=l.length)(d:vs.all UY=true):
    (storeCells ⟨b,off,none⟩ vs).run P w=.ok () (w.setRow b (dJ off vs l).toArray):=by have:=run_storeCells_at P b off E vs 0 l.toArray w h (by simpa using hlen) (λu hu=>by simpa using List.all_eq_true.1 d u hu);trivial
theorem xz{pre cs d vs:List Value}{o:Nat}(h:o+vs.length<=cs.length):dJ (pre.length+o) vs (pre++cs++d)=pre++dJ o vs cs++d:=by
 unfold dJ
 rw[List.append_assoc pre cs d,List.take_append,List.take_of_length_le U,VR,Nat.add_assoc,List.drop_append,List.drop_eq_nil_of_le U,VR,List.nil_append,
   List.take_append_of_le_length U,List.drop_append_of_le_length U]
 simp_all
variable{n sz cap:Nat}{rest:List ax}
theorem xy{w:World}{af:Nat}{pre cs u d:List Value}(h:sat w (sep (aj af E (pre++cs++d)) (ah rest)))(f2:cs.length=n*sz)(f3:n<=cap)(f4:cap<=maxLen)
    (f5:cap*sz<=cs.length+d.length) (D:u.length=cs.length):sat (w.setRow af (pre++u++d).toArray) (ah (aT E sz (some ⟨af,pre.length,none⟩) n cap u::rest)):=
  (xo h).bf (dP (h1 λh C=>⟨(pre,d),⟨rfl,by omega,f3,f4,by simp only;omega⟩,C⟩) (U5 _))
theorem xx{w:World}{ad:Option Addr}{cs:List Value}{hs:List ax}(N:sat w (ah hs))(C:∃i,eT i hs=some (aT E sz ad n cap cs,rest))(au:0<cs.length):
    ∃af pre u,ad=some ⟨af,pre.length,none⟩/\cs.length=n*sz/\n<=cap/\cap<=maxLen/\cap*sz<=cs.length+u.length/\sat w (sep (aj af E (pre++cs++u)) (ah rest)):=by obtain⟨i,C⟩:=C;obtain⟨P,O,a,b,D,rfl,d,H⟩:=N.bf (fC C);cases ad with|none=>obtain⟨⟨_,_,e⟩,_⟩:=d;rw[e]at au;simp at au|some p=>obtain⟨⟨pre,u⟩,⟨f1,f2,f3,f4,f5⟩,d⟩:=d;obtain⟨af,Q,V⟩:=p;simp only[Addr.mk.injEq,true_and]at f1;obtain⟨rfl,rfl⟩:=f1;exact⟨af,pre,u,rfl,f2,f3,f4,f5,_,O,a,b,D,rfl,d,H⟩
theorem KZ{hs:List ax}{an m D:Nat}{ad C:Option Addr}{cs u H:List Value}(k:Nat)(a3:hc P t E sz=true)(a4:bb ag x=.slice ad n cap)(a5:bb ag y=.slice C m D)
    [aH:o8 hs ad E sz n cap cs rest] [hr:bl (ah hs) C an u] (hm:m*sz<=u.length) (aK:Nat.min m n=k) (a2:0<cs.length) (ao:(u.take (k*sz)).all UY=true) (Q:dJ 0 (u.take (k*sz)) cs=H)
    (a7:K (.int .i64 k) (ah (aT E sz ad n cap H::rest))):cj r P ag ⟨d,.call ⟨.builtin .copy,#[x,y],#[t,t']⟩,ty,ps,bh,g⟩ (ah hs) K:=by
 refine cj.run rfl λw V=>?_;obtain⟨af,pre,Z,rfl,f2,f3,f4,f5,N⟩:=xx V aH.tk a2;have ar:w.heap[af]? =some (.cells (pre++cs++Z).toArray E (0,0)):=(iw (mY af E _)).sat N;have aQ:k<=m:=cr
 have aX:k<=n:=cr
 have a0:k*sz<=u.length:=Nat.le_trans (U0 _ aQ) hm;have au:(u.take (k*sz)).length=k*sz:=b2
 have O:0+(u.take (k*sz)).length<=cs.length:=by rw[au,f2];have:=U0 sz aX;omega
 have W:=uN (P:=P) (off:=pre.length+0) ar Ak ao;rw[xz O,Q,Nat.add_zero]at W;have aC:UQ sz k (.slice C m D)=UQ sz k (.slice C k D):=by cases C<;>rfl
 have aA:(UQ sz k (.slice C m D)).run P w=.ok (u.take (k*sz)).toArray w:=by rw[aC];exact qo (hr.rd.sat V) a0
 refine⟨.int .i64 k,w.setRow af (pre++H++Z).toArray,_,.inl ?_,⟨rfl,rfl,rfl,by simp⟩,xy N f2 f3 f4 f5 (by rw[<-Q];exact uL O),a7⟩;simp[execOp,resolve,invoke,builtin,Builtin.copy_,a4,a5,hV a3,Builtin.lenOf,aK,aA,W,goInt]
theorem yO{hs:List ax}{ad:Option Addr}{cs:List Value}{z:Value}{ao:Array TypeId}(i:Nat)(V:hc P t E sz=true)(a9:lg P E=some z)(bk:z.cells.toList.length=sz)(bd:z.cells.toList.all UY=true)(aX:0<sz)
    (u:bb ag x=.slice (dI ad cap i sz) (n-i) (cap-i)) (W:ao[0]? =some t) [D:o8 hs ad E sz n cap cs rest] (a5:i<=n)
    (k:∀C,C.length=cs.length->C.take (i*sz)=cs.take (i*sz)->K (.tuple #[]) (ah (aT E sz ad n cap C::rest))):cj r P ag ⟨d,.call ⟨.builtin .clear,#[x],ao⟩,ty,ps,bh,g⟩ (ah hs) K:=by
 refine cj.run rfl λw N=>?_;by_cases ar:n-i=0;obtain⟨j,H⟩:=D.tk;refine⟨.tuple #[],w,_,.inl ?_,fr.refl w,N.bf (fC H),k cs rfl rfl⟩;rw[ar]at u;cases aK:dI ad cap i sz<;>rw[aK]at u<;>simp[execOp,resolve,invoke,builtin,Builtin.clear_,u,W,(hV V w).1];obtain⟨j,H⟩:=D.tk;have aC:cs.length=n*sz:=(by obtain⟨a4,a8,a,b,a3,rfl,aH,a7⟩:=N.bf (fC H);exact(mn aH).1);have aA:0<cs.length:=by rw[aC];exact Nat.mul_pos U aX
 obtain⟨af,pre,an,rfl,f2,f3,f4,f5,Q⟩:=xx N D.tk aA;have au:w.heap[af]? =some (.cells (pre++cs++an).toArray E (0,0)):=(iw (mY af E _)).sat Q;have aQ:dI (some ⟨af,pre.length,none⟩) cap i sz=some ⟨af,pre.length+i*sz,none⟩:=(by rw[dI,al U];simp[ix]);rw[aQ]at u;have be:(UR z.cells (n-i)).toList=(List.replicate (n-i) z.cells.toList).flatten:=(by grind[B5,UR]);have Z:(UR z.cells (n-i)).toList.length=(n-i)*sz:=b2;have a0:(UR z.cells (n-i)).toList.all UY=true:=b2;have hmul:i*sz+(n-i)*sz=n*sz:=by rw[<-Nat.add_mul];congr 1;omega
 have O:=uN (P:=P) (off:=pre.length+i*sz) au (by rw[Z,mp,mp];omega) a0;rw[xz (by rw[Z];omega)]at O;have l5:(dJ (i*sz) (UR z.cells (n-i)).toList cs).length=cs.length:=by grind[uL]
 refine⟨.tuple #[],w.setRow af (pre++dJ (i*sz) (UR z.cells (n-i)).toList cs++an).toArray,_,.inl ?_,⟨rfl,rfl,rfl,by simp⟩,xy Q f2 f3 f4 f5 l5,k _ l5 ?_⟩;obtain⟨m,hm⟩:∃m,n-i=m+1:=⟨n-i-1,by omega⟩;rw[hm]at u O;have a2:(zeroValue E).run P w=.ok z w:=by grind[u5]
 simp[execOp,resolve,invoke,builtin,Builtin.clear_,u,W,(hV V w).1,a2,O,hm];grind[dJ]
def Bk(P:Program)(t:TypeId):Bool:=match P.underlying t with
  | some (.slice _)=>true
  | _=>false
theorem LN{t:TypeId}(h:Bk P t=true)(p:Option Addr)(n c:Nat)(w:World):(Op.equal t (.slice p n c) (.slice none 0 0)).run P w=.ok p.isNone w:=by unfold Bk at h;cases hu:P.underlying t with|none=>rw[hu]at h;cases h|some u=>rw[hu]at h;(cases u<;>first|(cases h;done)|skip);have key:∀d,(XV (d+1) t (.slice p n c) (.slice none 0 0)).run P w=.ok p.isNone w:=λd=>(by cases p<;>simp[XV,underlying,hu]);exact key 9999
theorem DC{p:Option Addr}{c:Nat}(u:Bk P t=true)(C:bb ag x=.slice p n c)(D:bb ag y=.slice none 0 0):bz P ag ⟨d,.binOp .eql t x y t',ty,ps,bh,g⟩ A (.bool p.isNone):=by intro w _;unfold execOp;simp only[C,D,eqGuard,binOp,UL,U2,UA,LN u];trivial
def vB(P:Program)(t:TypeId):Bool:=match P.underlying t with
  | some .bool=>true
  | _=>false
theorem DD{t:TypeId}(h:vB P t=true)(a b:Bool)(w:World):(Op.equal t (.bool a) (.bool b)).run P w=.ok (a==b) w:=by unfold vB at h;cases hu:P.underlying t with|none=>rw[hu]at h;cases h|some u=>rw[hu]at h;(cases u<;>first|(cases h;done)|skip);have key:∀d,(XV (d+1) t (.bool a) (.bool b)).run P w=.ok (a==b) w:=λd=>(by simp[XV,underlying,hu]);exact key 9999
theorem y7{a b:Bool}(u:vB P t=true)(C:bb ag x=.bool a)(D:bb ag y=.bool b):bz P ag ⟨d,.binOp .eql t x y t',ty,ps,bh,g⟩ A (.bool (a==b)):=by intro w _;unfold execOp;simp only[C,D,eqGuard,binOp,UL,U2,UA,DD u];trivial
theorem wV{a b:Bool}(u:vB P t=true)(C:bb ag x=.bool a)(D:bb ag y=.bool b):bz P ag ⟨d,.binOp .neq t x y t',ty,ps,bh,g⟩ A (.bool (a !=b)):=by intro w _;unfold execOp;simp only[C,D,eqGuard,binOp,UL,U2,UA,DD u];trivial
end
section
variable {r : Option Nat} {P : Program} {N : Nat} {Q : ff} {ag : Env} {aQ : List Deferred} {A : ax} {c : Code}
theorem ab.fact{p:Prop}(h:∀d,A d->p)(k:p->ab r P N c Q ag aQ A):ab r P N c Q ag aQ A:=λa w C u=>
  k (let⟨d,_,x⟩:=u;h d x) a w C u
end
theorem Jk{A:ax}{E:Nat}{cs:List Value}(x:cM A E none cs):∀h,A h->cs=[]:=λh a=>by
  rcases x h a with d|⟨_,_,_,_,d,_⟩
  · exact d
  · cases d
def gq(r:Nat->Value)(h9:List Value):List Value:=[r 0,r 1,r 2,r 3,r 4,r 5,r 6,r 7]++h9
theorem GY{r:Nat->Value}{h9:List Value}{p o:Nat}(u:p<8)(d:o=p):(gq r h9)[o]? =some (r p):=by rw[d];clear d;rcases p with _|_|_|_|_|_|_|_|p<;>first|rfl|omega
theorem Rk{r:Nat->Value}{h9:List Value}{p o:Nat}(v:Value)(u:p<8)(d:o=p):dJ o [v] (gq r h9)=gq (λx=>if x=p then v else r x) h9:=by rw[d];clear d;rcases p with _|_|_|_|_|_|_|_|p<;>first|rfl|omega
theorem GX{r d:Nat->Value}{h9:List Value}(h:∀p,p<8->r p=d p):gq r h9=gq d h9:=by grind[gq]
theorem Rj(r:Nat->Value)(h9:List Value):(gq r h9).length=8+h9.length:=by simp[gq];omega
theorem xk{n p:Nat}(d:p<n):∃L,(Vu n).Perm (p::L)/\∀x∈L,x≠p/\x<n:=by
 have hm:p∈Vu n:=b2
 obtain⟨s,t,e⟩:=WK hm;grind[List.nodup_range]
def dF{α:Type}(f:Nat->α)(p:Nat)(v:α):Nat->α:=λx=>if x=p then v else f x
theorem jv{α:Type}(f:Nat->α)(p:Nat)(v:α):dF f p v p=v:=by simp[dF]
theorem i6{α:Type}{f:Nat->α}{p x:Nat}{v:α}(h:x≠p):dF f p v x=f x:=by simp[dF,h]
def aP{α:Type}(f:Int->α)(p:Int)(v:α):Int->α:=λx=>if x=p then v else f x
theorem ci{α:Type}(f:Int->α)(p:Int)(v:α):aP f p v p=v:=by simp[aP]
theorem bM{α:Type}{f:Int->α}{p x:Int}{v:α}(h:x≠p):aP f p v x=f x:=by simp[aP,h]
end Go.QM
