/- Proved here: contracts of functions of this program, under the premises that each theorem names. -/
import Derived.Maps.RangeRun
import Derived.Test.YtglgidjhoncphaaGreatDoorYn
set_option linter.all false
set_option maxRecDepth 4000
set_option maxHeartbeats 4000000
open List renaming mem_singleton->Up,mem_append->Uq,getElem?_eq_some_iff->Uz,mem_cons->UB,mem_map->UE,nodup_cons->UI,toArray->UJ,mem_filter->UO,map_cons->UX,getElem?_of_mem->Vo,map_congr_left->Vw,map_append->Vy,filter_cons_of_neg->VD,length_map->VP,find?_eq_none->VX,map_nil->Wi,map_map->W7,pairwise_map->XA,filter_cons_of_pos->XZ
open Go.QM.ab renaming aA->Ur
open Decidable renaming not_not->UD
namespace Go.QM
open Go
section
variable {r : Option Nat} {P : Program} {N : Nat} {ag : Env} {A : ax} {K : Value → ax → Prop}
variable {d : Option Tmp} {ty : TypeId} {ps : String} {bh : Array Edge} {g : Option (Nat × Bool)} {t : TypeId} {x : Operand}
theorem A4{hs:List ax}(H e:TypeId){b:Nat}{es:Array MapEntry}{aL:Nat}(D:ma P t H e=true)(E:bb ag x=.map (some b))[hr:fP (ah hs) b (.map es aL)]
    (k:∀i,K (ae i) (ah (obj i (.mapIter (some b) aL #[] aL)::hs))):cj r P ag ⟨d,.range t x,ty,ps,bh,g⟩ (ah hs) K:=
  cj.run rfl λw u=>⟨ae w.heap.size,w.alloc (.mapIter (some b) aL #[] aL),_,.inl (by have C:w.heap[b]? =some (.map es aL):=hr.rd.sat u;simp[execOp,Instr.range,E,oI D,MapKept.run_getObj_map C]),⟨rfl,rfl,rfl,by simp⟩,oP _ u,k w.heap.size⟩
theorem AH(i:Nat){hs rest:List ax}{it b:Nat}{es:Array MapEntry}{aL:Nat}{seen:Array Nat}(H:bb ag x=ae it)(Q:eT i hs=some (obj it (.mapIter (some b) aL seen aL),rest))
    (hr:Rd (ah rest) b (.map es aL)) (O:i9 es aL)
    (bO:(∀e∈es.toList,e.born∈seen)->K (.tuple #[.bool false]) (ah (obj it (.mapIter (some b) aL seen aL)::rest)))
    (ao:∀e∈es.toList,e.born∉seen->K (.tuple #[.bool true,e.key,e.val]) (ah (obj it (.mapIter (some b) aL (seen.push e.born) aL)::rest))):
    cj r P ag ⟨d,.next x false,ty,ps,bh,g⟩ (ah hs) K:=by
 refine cj.run rfl λw an=>?_;have u:=an.bf (fC Q);have E:w.heap[it]? =some (.mapIter (some b) aL seen aL):=(iw (jc it _)).sat u;have N:w.heap[b]? =some (.map es aL):=(vl hr).sat u;rcases run_next_at (P:=P) w ty it b aL aL seen es aL E N O.1 (Nat.le_refl _)with⟨ar,D⟩|⟨e,he,cG,hw,D⟩;refine⟨.tuple #[.bool false],w,_,.inl ?_,fr.refl w,u,bO λe he=>?_⟩;simp only[execOp,H];exact(by simp[D]);by_cases hm:e.born∈seen;trivial;exfalso;have C:e∈(leftOf es seen).toList:=by grind[leftOf]
 simp_all;have C:e∈es.toList/\e.born∉seen:=by grind[leftOf]
 refine⟨.tuple #[.bool true,e.key,e.val],_,_,.inl (by simp only[execOp,H];exact(by simp[D];rfl)),?_,?_,ao e C.1 C.2⟩;rcases hw with rfl|rfl<;>exact⟨rfl,rfl,rfl,by simp[ChangeMaps.setBlock]⟩;have Z:sat cG (sep (obj it (.mapIter (some b) aL seen aL)) (ah rest)):=by rcases hw with rfl|rfl<;>exact u
 have au:cG.heap[it]? =some (.mapIter (some b) aL seen aL):=by rcases hw with rfl|rfl<;>exact E
 have W:it<cG.heap.size:=cr
 exact uE Z (by show(cG.heap.setIfInBounds it _)[it]? =_;rw[Array.getElem?_setIfInBounds_self_of_lt W]) (λj V=>by show(cG.heap.setIfInBounds it _)[j]? =_;rw[Array.getElem?_setIfInBounds_ne (Ne.symm V)])
theorem y4{it b:Nat}{es:Array MapEntry}{aL since:Nat}{seen:Array Nat}(e:MapEntry)(E:bb ag x=ae it)[D:fP A it (.mapIter (some b) since (seen.push e.born) aL)](hr:Rd A b (.map es aL))
    (he:e∈es.toList) (C:i9 es aL):bz P ag ⟨d,.entry x,ty,ps,bh,g⟩ A (.tuple #[e.key,e.val]):=λw u=>by
  have:=run_entry_at (P:=P) w it b since seen es aL e (D.rd.sat u) (hr.sat u) he C.2
  simp only[execOp,E]
  simp[this]
end
def nW(e:MapEntry):Int:=match e.key with
  | .int _ k=>k
  | _=>0
theorem EL{m:List (Int×Value)}{es:Array MapEntry}(h:es.toList.map (λe=>(e.key,e.val))=m.map (λt=>(encI t.1,t.2))):(∀e∈es.toList,e.key=aa (nW e))/\es.toList.map nW=m.map (·.1):=by have d:es.toList.map (·.key)=m.map λt=>encI t.1:=(by have:=congrArg (List.map Prod.fst) h;grind[Function.comp_def]);have w:∀e∈es.toList,e.key=aa (nW e):=λe he=>(by(have C:e.key∈es.toList.map (·.key):=by grind);rw[d]at C;obtain⟨u,_,hu⟩:=UE.1 C;rw[nW,<-hu];rfl);refine⟨w,?_⟩;have D:es.toList.map (λe=>encI (nW e))=m.map λt=>encI t.1:=(by rw[<-d];exact Vw λe he=>(w e he).symm);have E:=congrArg (List.map λv=>match v with|Value.int _ k=>k|_=>0) D;simpa[W7,Function.comp_def,encI]using E
theorem all_keys{es:Array MapEntry}{aL:Nat}(w:i9 es aL){bE:List MapEntry}(P:∀e∈bE,e∈es.toList)(C:(bE.map (·.born)).Nodup)(Q:∀e∈es.toList,e.born∈bE.map (·.born)):bE.Perm es.toList:=by have inj:∀a∈es.toList,∀c∈es.toList,a.born=c.born->a=c:=λa D c E e=>(by obtain⟨i,H⟩:=Vo D;obtain⟨j,N⟩:=Vo E;obtain⟨O,ba⟩:=Uz.1 H;obtain⟨a2,bw⟩:=Uz.1 N;have V:=List.pairwise_iff_getElem.1 w.2;grind);have W:bE.Nodup:=(XA.1 C).imp λu d=>u (congrArg _ d);have Z:es.toList.Nodup:=(XA.1 w.2).imp λu d=>u (congrArg _ d);grind[List.perm_ext_iff_of_nodup]
end Go.QM
namespace Go.Proofs.YtglgidjhoncphaaGreatDoor.aC
open Go Go.QM
structure bY where
  id:Int
  par:Int
  lim:Int
  fJ:Int
def h8:List Int->Int
  | []=>0
  | x::l=>x+h8 l
theorem Hr(l m:List Int):h8 (l++m)=h8 l+h8 m:=by induction l with|nil=>simp[h8]|cons x l d=>rw[List.cons_append,h8,h8,d];omega
theorem Sl{l m:List Int}(h:l.Perm m):h8 l=h8 m:=by induction h with|nil=>rfl|cons x _ w=>rw[h8,h8,w]|swap x y l=>simp only[h8];omega|trans _ _ d u=>exact d.trans u
theorem Hs{l:List Int}(h:∀x∈l,0<=x):0<=h8 l:=by induction l with|nil=>exact Int.le_refl _|cons x l u=>have:=h x cF;have:=u (λy d=>h y (by simp[d]));rw[h8];omega
theorem Sk{l:List Int}{b:Int}(h:∀x∈l,x<=b):h8 l<=b*l.length:=by induction l with|nil=>simp[h8]|cons x l u=>have:=h x cF;have:=u (λy d=>h y (by simp[d]));rw[h8,List.length_cons,Int.natCast_add,Int.mul_add];omega
def l9(L:List bY)(x:Int):List bY:=L.filter λt=>decide (t.par=x)
def fm(L:List bY)(x:Int):Int:=h8 ((l9 L x).map (·.lim))
def gI(L:List bY)(x:Int):Int:=((l9 L x).length:Int)
def df(L:List bY)(x:Int):Prop:=∃t∈L,t.id=x
instance (L:List bY)(id:Int):Decidable (df L id):=inferInstanceAs (Decidable (∃t∈L,t.id=id))
def qn(L:List bY)(id:Int):Option bY:=L.find? λt=>decide (t.id=id)
def iv(L:List bY):Prop:=(L.map (·.id)).Nodup
theorem iv.perm{S T:List bY}(h:iv S)(p:T.Perm S):iv T:=(p.map _).nodup_iff.2 h
variable{t:bY}
theorem iv.inj{S:List bY}(h:iv S){u:bY}(C:t∈S)(hu:u∈S)(e:t.id=u.id):t=u:=by obtain⟨L,w⟩:=fv C;rcases UB.1 (w.mem_iff.1 hu)with d|d;simp_all;exact absurd (UE.2 ⟨u,d,e.symm⟩) (UI.1 (h.perm w.symm)).1
theorem L4{S:List bY}(h:iv S)(w:t∈S):qn S t.id=some t:=by rw[qn];cases d:S.find? λu=>decide (u.id=t.id)with|none=>rw[VX]at d;exact absurd (cR rfl) (d t w)|some u=>have C:=List.find?_some d;have D:=List.mem_of_find?_eq_some d;rw[h.inj D w (by simpa using C)]
theorem L3{S:List bY}{id:Int}(h:¬df S id):qn S id=none:=by rw[qn,VX];intro u hu;simp only[decide_eq_true_eq];exact λe=>h ⟨u,hu,e⟩
def mU(L:List bY)(id:Int):Int:=match qn L id with
  | some t=>t.fJ+fm L id
  | none=>0
def nj(L:List bY)(id:Int):Int:=match qn L id with
  | some t=>t.lim
  | none=>0
def f8(L:List bY)(id:Int):Int:=match qn L id with
  | some t=>t.fJ
  | none=>0
def k3(L:List bY)(id:Int):Int:=match qn L id with
  | some t=>t.par
  | none=>-1
def fG(L:List bY)(id c:Int):List bY:=L.map λt=>if t.id=id then⟨t.id,t.par,t.lim,c⟩else t
def ky(L:List bY)(id:Int):List bY:=L.filter λt=>decide (t.id≠id)
def fI(L:List bY)(gh p lim:Int):List bY×Int×Int×Int:=
  if ¬df L p then(L,gh,0,6)else if lim<0 then(L,gh,0,1)else if ¬lim<=nj L p-mU L p then(L,gh,0,5)else if L.length=32 then(L,gh,0,11)else(L++[⟨gh,p,lim,0⟩],gh+1,gh,0)
def iy(L:List bY)(id:Int):List bY×Int:=
  if ¬df L id then(L,6)else if id=0 then(L,1)else if mU L id≠0\/0<gI L id then(L,12)else(ky L id,0)
def db(L:List bY)(id n:Int):List bY×Int:=
  if ¬df L id then(L,6)else if n<0 then(L,1)else if ¬n<=nj L id-mU L id then(L,5)else(fG L id (f8 L id+n),0)
def ek(L:List bY)(id n:Int):List bY×Int:=
  if ¬df L id then(L,6)else if n<0\/f8 L id<n then(L,1)else(fG L id (f8 L id-n),0)
structure eP(L:List bY)(gh:Int):Prop where
  bo:iv L
  kb:(L.map (·.id)).Pairwise (· <·)
  rg:∀t∈L,0<=t.id/\t.id<gh/\0<=t.lim/\t.lim<=1073741824/\0<=t.fJ/\t.fJ+fm L t.id<=t.lim
  root:df L 0
  qG:∀t∈L,t.id=0->t.par=-1
  par:∀t∈L,t.id≠0->df L t.par/\t.par<t.id
  len:L.length<=32
theorem E0(S T:List bY)(p:Int):l9 (S++T) p=l9 S p++l9 T p:=by simp[l9]
theorem tT(S T:List bY)(p:Int):fm (S++T) p=fm S p+fm T p:=by rw[fm,E0,Vy,Hr];rfl
theorem wy(S T:List bY)(p:Int):gI (S++T) p=gI S p+gI T p:=by rw[gI,E0,List.length_append];rfl
theorem ri{p:Int}:fm [t] p=if t.par=p then t.lim else 0:=by by_cases h:t.par=p;rw[aw h,fm,l9,XZ (by simpa using h)];simp[h8];rw[al h,fm,l9,VD (by simpa using h)];rfl
theorem wz{p:Int}:gI [t] p=if t.par=p then 1 else 0:=by by_cases h:t.par=p;rw[aw h,gI,l9,XZ (by simpa using h)];rfl;rw[al h,gI,l9,VD (by simpa using h)];rfl
theorem MT{S T:List bY}(h:S.Perm T)(p:Int):fm S p=fm T p:=Sl ((h.filter _).map _)
theorem Ou{S T:List bY}(h:S.Perm T)(p:Int):gI S p=gI T p:=congrArg (λn:Nat=>(n:Int)) (h.filter _).length_eq
theorem xt(L:List bY)(id c:Int):(fG L id c).map (·.id)=L.map (·.id):=by rw[fG,W7];exact Vw λt _=>by simp only[Function.comp];split<;>rfl
variable{L:List bY}
theorem qL{id c x:Int}:df (fG L id c) x↔df L x:=by
 have h:∀S:List bY,df S x↔x∈S.map (·.id):=by grind[df]
 grind[xt]
theorem qK(L:List bY)(id c p:Int):fm (fG L id c) p=fm L p/\gI (fG L id c) p=gI L p:=by induction L with|nil=>exact⟨rfl,rfl⟩|cons t L D=>have e:fG (t::L) id c=(if t.id=id then⟨t.id,t.par,t.lim,c⟩else t)::fG L id c:=rfl;have d:=tT [if t.id=id then(⟨t.id,t.par,t.lim,c⟩:bY)else t] (fG L id c) p;have u:=tT [t] L p;have w:=wy [if t.id=id then(⟨t.id,t.par,t.lim,c⟩:bY)else t] (fG L id c) p;have C:=wy [t] L p;rw[List.singleton_append]at d u w C;rw[e,d,u,w,C,D.1,D.2,ri,ri,wz,wz];constructor<;>(congr 1;split<;>rfl)
variable{gh:Int}
theorem wc(h:eP L gh)(x:Int):0<=fm L x:=Hs λy u=>by
 obtain⟨t,d,rfl⟩:=UE.1 u
 exact(h.rg t (UO.1 d).1).2.2.1
theorem EW(L:List bY)(x:Int):0<=gI L x/\gI L x<=L.length:=by grind[l9,gI]
theorem ip(h:iv L)(d:t∈L):mU L t.id=t.fJ+fm L t.id/\nj L t.id=t.lim/\f8 L t.id=t.fJ/\k3 L t.id=t.par:=by grind[mU,nj,f8,k3,L4]
theorem Ic{id:Int}(h:¬df L id):mU L id=0/\nj L id=0/\f8 L id=0/\k3 L id=-1:=by grind[mU,nj,f8,k3,L3]
theorem D5{x:Int}(h:∀t∈L,t.par≠x):fm L x=0/\gI L x=0:=by
 have e:l9 L x=[]:=by grind[l9,List.filter_eq_nil_iff]
 rw[fm,gI,e];exact⟨rfl,rfl⟩
theorem eP.Ge(h:eP L gh)(d:t∈L):t.par<gh/\-1<=t.par/\t.par≠t.id:=by have C:=h.rg t d;by_cases e:t.id=0;have:=h.qG t d e;omega;obtain⟨⟨u,hu,w⟩,D⟩:=h.par t d e;have:=h.rg u hu;omega
theorem eP.start{lim:Int}(h:0<=lim/\lim<=1073741824):eP [⟨0,-1,lim,0⟩] 1 where
 bo:=by simp[iv]
 kb:=by simp
 rg:=λt d=>by
  rw[Up.1 d];have:fm [(⟨0,-1,lim,0⟩:bY)] 0=0:=by rw[ri,al cH]
  dsimp only;rw[this];omega
 root:=⟨_,Up.2 rfl,rfl⟩
 qG:=λt d _=>by rw[Up.1 d]
 par:=λt d au=>by rw[Up.1 d]at au;exact absurd rfl au
 len:=by simp
theorem eP.add(h:eP L gh){p lim:Int}(P:df L p)(W:0<=lim)(O:lim<=nj L p-mU L p)(an:L.length≠32):eP (L++[⟨gh,p,lim,0⟩]) (gh+1):=by
 obtain⟨u,hu,rfl⟩:=P;have Q:=h.rg u hu;obtain⟨H,N,_⟩:=ip h.bo hu;rw[H,N]at O;have ag:=wc h u.id;have ar:fm L gh=0:=(D5 λt d=>by have:=h.Ge d;omega).1;have D:∀x,df L x->df (L++[(⟨gh,u.id,lim,0⟩:bY)]) x:=by grind[df]
 have E:∀x∈L.map (·.id),x<gh:=λx V=>(by obtain⟨t,d,rfl⟩:=UE.1 V;exact(h.rg t d).2.1);have ao:0<=gh:=U
 refine⟨?_,?_,λt d=>?_,D 0 h.root,λt d e=>?_,λt d e=>?_,?_⟩;rw[iv,Vy,List.nodup_append];exact⟨h.bo,by simp,λa w c C e=>by have:=E a w;simp only[UX,Wi,Up]at C;omega⟩;rw[Vy,List.pairwise_append];exact⟨h.kb,by simp,λa w c C=>by have:=E a w;simp only[UX,Wi,Up]at C;omega⟩;rw[tT,ri];dsimp only;rcases Uq.1 d with d|d;have Z:=h.rg t d;by_cases e:u.id=t.id;have:=h.bo.inj hu d e;grind;omega;grind;rcases Uq.1 d with d|d;exact h.qG t d e;grind;rcases Uq.1 d with d|d;exact⟨D _ (h.par t d e).1,(h.par t d e).2⟩;rw[Up.1 d];exact⟨D _ ⟨u,hu,rfl⟩,Q.2.1⟩;have:=h.len;grind
theorem w2{M:List bY}(h:iv L)(w:L.Perm (t::M)):(ky L t.id).Perm M:=by have d:=w.filter λu=>decide (u.id≠t.id);rw[VD cF]at d;have C:M.filter (λu=>decide (u.id≠t.id))=M:=List.filter_eq_self.2 λu hu=>(by have:=(UI.1 (h.perm w.symm)).1;simp_all);rw[C]at d;exact d
theorem F2(h:iv L)(d:t∈L)(x:Int):fm (ky L t.id) x=fm L x-(if t.par=x then t.lim else 0)/\gI (ky L t.id) x=gI L x-(if t.par=x then 1 else 0):=by obtain⟨M,bG⟩:=fv d;have w:=w2 h bG;have u:=tT [t] M x;have a2:=wy [t] M x;grind[ri,wz,MT,Ou]
theorem nr{x:Int}:t∈ky L x↔t∈L/\t.id≠x:=by simp[ky]
theorem PR(h:iv L)(d:t∈L):(ky L t.id).length+1=L.length:=by obtain⟨M,bG⟩:=fv d;rw[(w2 h bG).length_eq,bG.length_eq];rfl
theorem Ov{x:Int}(h:¬0<gI L x):∀t∈L,t.par≠x:=λt d e=>h (by
 have:t∈l9 L x:=UO.2 ⟨d,by simpa using e⟩
 have:=List.length_pos_of_mem this
 rw[gI];omega)
theorem eP.off(h:eP L gh)(w:t∈L)(C:t.id≠0)(E:¬0<gI L t.id):eP (ky L t.id) gh where
 bo:=h.bo.sublist (List.filter_sublist.map _)
 kb:=h.kb.sublist (List.filter_sublist.map _)
 rg:=λu hu=>by
  have N:=h.rg u (nr.1 hu).1
  have O:=(h.rg t w).2.2.1
  rw[(F2 h.bo w u.id).1]
  split<;>omega
 root:=by
  obtain⟨r,H,e⟩:=h.root
  exact⟨r,nr.2 ⟨H,by rw[e];exact λd=>C d.symm⟩,e⟩
 qG:=λu hu=>h.qG u (nr.1 hu).1
 par:=λu hu e=>by
  obtain⟨⟨v,hv,d⟩,D⟩:=h.par u (nr.1 hu).1 e
  have:=Ov E u (nr.1 hu).1
  exact⟨⟨v,nr.2 ⟨hv,by rw[d];exact this⟩,d⟩,D⟩
 len:=Nat.le_trans (List.length_filter_le _ _) h.len
theorem sX{id c:Int}{u:bY}:u∈fG L id c↔∃t∈L,u=if t.id=id then⟨t.id,t.par,t.lim,c⟩else t:=by grind[fG]
theorem eP.set(h:eP L gh)(C:t∈L){c:Int}(D:0<=c)(E:c+fm L t.id<=t.lim):eP (fG L t.id c) gh where
 bo:=by rw[iv,xt];exact h.bo
 kb:=by rw[xt];exact h.kb
 rg:=λu hu=>by obtain⟨v,hv,rfl⟩:=sX.1 hu;have w:=h.rg v hv;by_cases e:v.id=t.id;have:=h.bo.inj hv C e;subst this;rw[aw rfl,(qK L _ c _).1];dsimp only;omega;rw[al e,(qK L _ c _).1];exact w
 root:=qL.2 h.root
 qG:=λu hu e=>by obtain⟨v,hv,rfl⟩:=sX.1 hu;split at e;rename_i d;rw[aw d];exact h.qG v hv e;rename_i d;rw[al d];exact h.qG v hv e
 par:=λu hu e=>by obtain⟨v,hv,rfl⟩:=sX.1 hu;split at e;rename_i d;rw[aw d];exact⟨qL.2 (h.par v hv e).1,(h.par v hv e).2⟩;rename_i d;rw[al d];exact⟨qL.2 (h.par v hv e).1,(h.par v hv e).2⟩
 len:=by rw[fG,VP];exact h.len
theorem eP.Kq(h:eP L gh)(p lim:Int):eP (fI L gh p lim).1 (fI L gh p lim).2.1:=by rw[fI];split;trivial;rename_i d;split;trivial;rename_i C;split;trivial;rename_i u;split;trivial;rename_i w;exact h.add (UD.1 d) U (UD.1 u) w
theorem eP.close(h:eP L gh)(id:Int):eP (iy L id).1 gh:=by rw[iy];split;trivial;rename_i d;obtain⟨t,D,rfl⟩:=UD.1 d;split;trivial;rename_i u;split;trivial;rename_i w;exact h.off D u (λC=>w (.inr C))
theorem eP.Kw(h:eP L gh)(id n:Int):eP (db L id n).1 gh:=by rw[db];split;trivial;rename_i D;obtain⟨t,d,rfl⟩:=UD.1 D;obtain⟨u,w,C,_⟩:=ip h.bo d;have N:=h.rg t d;split;trivial;split;trivial;rename_i H E;rw[u,w]at E;rw[C];exact h.set d U U
theorem eP.QN(h:eP L gh)(id n:Int):eP (ek L id n).1 gh:=by rw[ek];split;trivial;rename_i w;obtain⟨t,d,rfl⟩:=UD.1 w;obtain⟨_,_,u,_⟩:=ip h.bo d;have D:=h.rg t d;split;trivial;rename_i C;rw[u]at C⊢;exact h.set d U U
end Go.Proofs.YtglgidjhoncphaaGreatDoor.aC
namespace Go.Proofs.YtglgidjhoncphaaGreatDoor.aC
open Go Go.QM
section
variable {α : Type} [DecidableEq α] {enc : α → Value} {f : α → Option Value} {n : Nat}
variable {r : Option Nat} {P : Program} {ag : Env} {K : Value → ax → Prop}
variable {d : Option Tmp} {ty : TypeId} {ps : String} {bh : Array Edge} {g : Option (Nat × Bool)}
variable {t : TypeId} {x y z : Operand}
theorem Nu{hs rest:List ax}(u e:TypeId){b:Nat}{a:α}{v:Value}(D:ma P t u e=true)(C:dM P u enc)(E:bb ag x=.map (some b))(H:bb ag y=enc a)(hv:bb ag z=v)[O:sd hs b enc f n rest]
 (k:K undef (ah (bC enc b (fe f a v) (if(f a).isSome then n else n+1)::rest))):cj r P ag ⟨d,.insert t x y z,ty,ps,bh,g⟩ (ah hs) K:=λN w he hs=>by
 have h:=((lK (d:=d) (ty:=ty) (ps:=ps) (bh:=bh) (g:=g) u e D C E H hv k:cj r P ag ⟨d,.mapUpdate t x y z,ty,ps,bh,g⟩ (ah _) K) N w he hs).2
 refine⟨λ_ _=>trivial,?_⟩
 rw[rH _ rfl]at h⊢
 exact h
end
abbrev kE(A:Int->Nat)(L:List bY)(t:bY):ax:=aj (A t.id) 194 [.int .i64 t.lim,.int .i64 t.fJ,.int .i64 (fm L t.id),.int .i64 t.par,.int .i64 (gI L t.id)]
def j4(A:Int->Nat)(L:List bY):Int->Option Value:=λx=>if df L x then some (.pointer (some ⟨A x,0,none⟩))else none
theorem zb{A:Int->Nat}{L:List bY}{x:Int}(h:df L x):j4 A L x=some (.pointer (some ⟨A x,0,none⟩)):=aw h
theorem DP{A:Int->Nat}{L:List bY}{x:Int}(h:¬df L x):j4 A L x=none:=al h
structure oj where
  A:Int->Nat
  aE:Nat
def eI(b:Nat)(L:List bY)(gh:Int):ax:=fj λy:oj=>pure' (eP L gh) (ah [aj b 187 [.map (some y.aE),.int .i64 gh],bC QM.encI y.aE (j4 y.A L) L.length,b7 (kE y.A L) L])
theorem sb{α:Type}{f:α->ax}{b:Nat}{o:Obj}:∀{L:List α} {x:α},x∈L->Rd (f x) b o->Rd (b7 f L) b o
 | a::L,x,h,r=>by rcases UB.1 h with rfl|h;exact jb r;exact lr (sb h r)
theorem xD{A:Int->Nat}{L:List bY}{t:bY}(h:t∈L):fP (b7 (kE A L) L) (A t.id) (.cells (UJ [aa t.lim,aa t.fJ,aa (fm L t.id),aa t.par,aa (gI L t.id)]) 194 (0,0)):=⟨sb h (mY _ _ _)⟩
theorem Sm{xs:List Int}{k:Nat}{x:Int}(h:xs[k]? =some x):h8 (xs.take (k+1))=h8 (xs.take k)+x:=by rw[List.take_add_one,h,Option.toList,Hr];simp[h8]
theorem DO(A:Int->Nat)(L:List bY)(t:bY)(b:Nat):j4 (aP A t.id b) (L++[t])=fe (j4 A L) t.id (ae b):=by funext y;simp only[j4,fe];by_cases e:y=t.id;rw[aw e,aw ⟨t,by simp,e.symm⟩,e,ci];rw[al e,bM e];by_cases h:df L y;rw[aw h,aw];obtain⟨u,hu,d⟩:=h;exact⟨u,by simp[hu],d⟩;rw[al h,al];rintro⟨u,hu,d⟩;rcases Uq.1 hu with hu|hu;exact h ⟨u,hu,d⟩;simp_all
theorem LS(A:Int->Nat)(L:List bY)(x:Int):j4 A (ky L x)=fQ (j4 A L) x:=by funext y;simp only[j4,fQ];by_cases e:y=x;rw[aw e,al];rintro⟨u,hu,d⟩;exact(nr.1 hu).2 (d.trans e);rw[al e];by_cases h:df L y;rw[aw h,aw];obtain⟨u,hu,d⟩:=h;exact⟨u,nr.2 ⟨hu,by rw[d];exact e⟩,d⟩;rw[al h,al];rintro⟨u,hu,d⟩;exact h ⟨u,(nr.1 hu).1,d⟩
theorem DQ(A:Int->Nat)(L:List bY)(x c:Int):j4 A (fG L x c)=j4 A L:=by grind[j4,qL]
variable(L:List bY)
theorem G4(x c:Int):(fG L x c).length=L.length:=by rw[fG,VP]
theorem G6{L M:List bY}{t:bY}(h:iv L)(bG:L.Perm (t::M))(c:Int):((⟨t.id,t.par,t.lim,c⟩:bY)::M).Perm (fG L t.id c):=by have d:=bG.map λu:bY=>if u.id=t.id then⟨u.id,u.par,u.lim,c⟩else u;rw[UX,aw rfl]at d;have w:M.map (λu:bY=>if u.id=t.id then(⟨u.id,u.par,u.lim,c⟩:bY)else u)=M:=(by(conv=>rhs;rw[<-List.map_id M]);refine Vw λu hu=>?_;have:=(UI.1 (h.perm bG.symm)).1;simp_all);rw[w]at d;exact d.symm
theorem G5{A:Int->Nat}{L:List bY}(x c:Int)(u:bY):kE A L u=kE A (fG L x c) u:=by dsimp only[kE];rw[(qK L x c u.id).1,(qK L x c u.id).2]
theorem eP.tv{L:List bY}{u:Int}(h:eP L u){t:bY}(d:t∈L):0<=t.lim/\t.lim<=1073741824/\0<=t.fJ/\t.fJ+fm L t.id<=t.lim/\0<=fm L t.id/\0<=gI L t.id/\gI L t.id<=32:=by have w:=h.rg t d;have C:=wc h t.id;have D:=EW L t.id;have E:=h.len;omega
theorem QF(d:Option Addr)(D:Nat)(xs:List Int)(u:∀x∈xs,0<=x/\x<=1073741824)(Q:xs.length<=1000):br 150 [.slice d xs.length D] (λF=>∃E,cM F E d (ints xs)) [] (aa (h8 xs)) []:=by
 apply aH Tryz.func150 Tryz.ntmps150;intro F ⟨E,H⟩;apply J [9];haveI:bl F d E (ints xs):=⟨H⟩;have ar:=eb xs;apply J [102,38,35,174];refine ab.loop (ι:=Nat) (λk=>k<=xs.length) (λk=>[(3,aa (h8 (xs.take k))),(6,.slice d xs.length D),(7,aa xs.length),(8,aa ((k:Nat):Int))]) (λk=>ah [F]) (λk=>xs.length-k) 0 (Nat.zero_le _) bu (aq (a6 _)) ?_;rintro k N au;dsimp only[ct]at N⊢;apply J [40];apply Ur rfl<;>intro V;have O:k<xs.length:=U
 obtain⟨x,w⟩:∃x,xs[k]? =some x:=⟨xs[k],List.getElem?_eq_getElem O⟩;have W:0<(ints xs).length:=U
 have P:=Sm w;have ao:=u x (List.mem_of_getElem? w);have Z:=Hs (l:=xs.take k) (λy C=>(u y (List.mem_of_mem_take C)).1);have ag:=Sk (l:=xs.take k) (λy C=>(u y (List.mem_of_mem_take C)).2);have an:(xs.take k).length<=k:=b2
 refine J [187] ?_;refine q rfl rfl (dv rfl rfl (hN w)) ?_;refine J [27,212,2,150,73,60] ?_;exact⟨rfl,(k+1),U,U,⟨by rw[P];rfl,rfl,rfl,rfl,trivial⟩,ai⟩;obtain rfl:k=xs.length:=by omega
 rw[List.take_length];apply J [22,132];exact jY
variable(b:Nat)
theorem GB(l c g pr k:Int)(u:0<=c/\c<=1073741824)(w:0<=g/\g<=1073741824):br 102 [ae b] (λF=>Rd F b (.cells (UJ [aa l,aa c,aa g,aa pr,aa k]) 194 (0,0))) [] (aa (c+g)) []:=by apply aH Tryz.func102 Tryz.ntmps102;intro F d;apply J [9];haveI:fP F b (.cells (UJ [aa l,aa c,aa g,aa pr,aa k]) 194 (0,0)):=⟨d⟩;apply J [38];refine cx [0,1,2,3,4,5,6,7,-8,-9,10] (aq (a6 _)) ?_;refine J [136,185,11,293] ?_;intro ba;refine J [43] ?_;refine aL (QF (cL ba) _ [c,g] rx cF) rfl (eA _) ⟨_,bl.rd (ad:=some ⟨ba,0,none⟩)⟩ ?_;intro _ _;change aF _ _/\b3 _ _ _ _ _ _ _ _ _ _ (ah [_,_]);refine⟨ai,?_⟩;rw[show h8 [c,g]=c+g by simp[h8]];apply J [179,147];exact dp
theorem Gy(l c g pr k:Int)(u:0<=c/\c<=1073741824)(w:0<=g/\g<=1073741824)(n:Int)(C:0<=l/\l<=1073741824):br 237 [ae b,aa n] (λF=>Rd F b (.cells (UJ [aa l,aa c,aa g,aa pr,aa k]) 194 (0,0))) [] (.bool (decide (n<=l-(c+g)))) []:=by apply aH Tryz.func237 Tryz.ntmps237;intro F d;apply J [9];haveI:fP F b (.cells (UJ [aa l,aa c,aa g,aa pr,aa k]) 194 (0,0)):=⟨d⟩;apply J [67,7];refine cx [0,1,2,3,4,5,-6,7,8,9] (aq (a6 _)) ?_;apply J [14,51,77,11];apply eG (GB b l c g pr k u w) fP.rd;change aF _ _/\b3 _ _ _ _ _ _ _ _ _ _ (ah [_]);refine J [5,441] ?_;refine bU rfl rfl rfl (leq rfl rfl) ?_;apply J [269,147];exact dp
theorem xh(aE n:Nat)(d:Int)(A:Int->Nat)(L:List bY)(id:Int)(h:df L id):br 101 [ae b,aa id] be [aj b 187 [.map (some aE),aa d],bC QM.encI aE (j4 A L) n] (.tuple #[.pointer (some ⟨(A id),0,none⟩),aa 0]) [aj b 187 [.map (some aE),aa d],bC QM.encI aE (j4 A L) n]:=by apply aH Tryz.func101 Tryz.ntmps101;intro F _;apply J [12,24,149,149,25,135,154,100,135,53,288];refine q rfl rfl (j8 3 185 rfl rfl (dM.int rfl) rfl rfl) ?_;rw[zb h];apply J [55,41,37,159,30];exact s8
theorem xg(aE n:Nat)(d:Int)(A:Int->Nat)(L:List bY)(id:Int)(h:¬df L id):br 101 [ae b,aa id] be [aj b 187 [.map (some aE),aa d],bC QM.encI aE (j4 A L) n] (.tuple #[.pointer none,aa 6]) [aj b 187 [.map (some aE),aa d],bC QM.encI aE (j4 A L) n]:=by apply aH Tryz.func101 Tryz.ntmps101;intro F _;apply J [12,24,149,149,25,135,154,100,135,53,288];refine q rfl rfl (j8 3 185 rfl rfl (dM.int rfl) rfl rfl) ?_;rw[DP h];apply J [55,106,122,340,127];exact s8
theorem Gx(L:List bY)(C:Int)(id n:Int):br 179 [ae b,aa id,aa n] be [eI b L C] (aa (db L id n).2) [eI b (db L id n).1 C]:=by
 apply aH Tryz.func179 Tryz.ntmps179;intro F _;apply J [1];refine ab.open 0 rfl (λW V=>?_);obtain⟨A,aE⟩:=W;have av:=V;apply J [85];dsimp only at av⊢;by_cases h:df L id;obtain⟨t,w,rfl⟩:=h;have h:df L t.id:=by grind[df]
 obtain⟨E,H,N,Z⟩:=ip av.bo w;have ag:=av.tv w;obtain⟨M,bG⟩:=fv w;haveI:=xD (A:=A) w;apply J [96];apply ao (xh b aE L.length C A L t.id h);apply J [19,58,74,353,47];apply Ur rfl<;>intro D;have hv:db L t.id n=(L,1):=by rw[db,al (λd=>d h),aw D]
 rw[hv];dsimp only;apply J [45];exact r1;apply J [46,28];apply eG (Gy (A t.id) t.lim t.fJ (fm L t.id) t.par (gI L t.id) U U n U) fP.rd;apply J [19,413,47];apply Ur rfl<;>intro O;have hv:db L t.id n=(L,5):=by rw[db,al (λd=>d h),al D,aw (by rw[E,H];exact O)]
 rw[hv];dsimp only;apply J [45];exact r1;have d:n<=t.lim-(t.fJ+fm L t.id):=U
 have hv:db L t.id n=(fG L t.id (t.fJ+n),0):=by rw[db,al (λd=>d h),al D,al (by rw[E,H];exact λP=>P d),N]
 rw[hv];dsimp only;have Q:eP (fG L t.id (t.fJ+n)) C:=av.set w U U;refine J [362,23,46,57,2,150,80,81,408,190,118] ?_;exact fa (ay (⟨A,aE⟩:oj) Q (bp (ca 2 rfl (by dsimp only;rw[DQ,G4]) (cU 0 0 (⟨t.id,t.par,t.lim,t.fJ+n⟩:bY) rfl rfl (by dsimp only[kE];rw[(qK L t.id (t.fJ+n) t.id).1,(qK L t.id (t.fJ+n) t.id).2];rfl) (λu _=>G5 t.id (t.fJ+n) u) (G6 av.bo bG (t.fJ+n)) (aq (a6 _))))));have hv:db L id n=(L,6):=aw h;rw[hv];dsimp only;apply J [96];apply ao (xg b aE L.length C A L id h);apply J [19,58,15,210];exact BU
theorem xi(L:List bY)(D:Int)(id n:Int):br 181 [ae b,aa id,aa n] be [eI b L D] (aa (ek L id n).2) [eI b (ek L id n).1 D]:=by
 apply aH Tryz.func181 Tryz.ntmps181;intro F _;apply J [1];refine ab.open 0 rfl (λV Q=>?_);obtain⟨A,aE⟩:=V;have av:=Q;apply J [85];dsimp only at av⊢;by_cases h:df L id;obtain⟨t,C,rfl⟩:=h;have h:df L t.id:=by grind[df]
 obtain⟨W,Z,H,ag⟩:=ip av.bo C;have an:=av.tv C;obtain⟨M,bG⟩:=fv C;haveI:=xD (A:=A) C;apply J [96];apply ao (xh b aE L.length D A L t.id h);apply J [19,58,74,176];refine aO.split 22 rfl (λd=>?_) (λd=>?_);have d:=ds d;apply J [48,97,196];have hv:ek L t.id n=(L,1):=by rw[ek,al (λw=>w h),aw (.inl d)]
 rw[hv];dsimp only;apply J [45];exact r1;have d:=dV d;apply J [16,138,371,201,158,182];apply Ur rfl<;>intro N;have hv:ek L t.id n=(L,1):=by rw[ek,al (λw=>w h),H,aw (.inr N)]
 rw[hv];dsimp only;apply J [45];exact r1;have hv:ek L t.id n=(fG L t.id (t.fJ-n),0):=by rw[ek,al (λw=>w h),H,al (λO=>O.elim (λE=>d E) (λE=>N E))]
 rw[hv];dsimp only;have P:eP (fG L t.id (t.fJ-n)) D:=av.set C U U;refine J [362,23,46,57,2,241,80,81,408,190,118] ?_;exact fa (ay (⟨A,aE⟩:oj) P (bp (ca 2 rfl (by dsimp only;rw[DQ,G4]) (cU 0 0 (⟨t.id,t.par,t.lim,t.fJ-n⟩:bY) rfl rfl (by dsimp only[kE];rw[(qK L t.id (t.fJ-n) t.id).1,(qK L t.id (t.fJ-n) t.id).2];rfl) (λu _=>G5 t.id (t.fJ-n) u) (G6 av.bo bG (t.fJ-n)) (aq (a6 _))))));have hv:ek L id n=(L,6):=aw h;rw[hv];dsimp only;apply J [96];apply ao (xg b aE L.length D A L id h);apply J [19,58,15,210];exact BU
end Go.Proofs.YtglgidjhoncphaaGreatDoor.aC
namespace Go.Proofs.YtglgidjhoncphaaGreatDoor.aC
open Go Go.QM
def q0(f:Int->Option Value)(n:Nat)(y:List Int):Prop:=y.Nodup/\y.length=n/\∀x,x∈y↔(f x).isSome=true
def Ad(b:Nat)(f:Int->Option Value)(n:Nat):ax:=fj λy:List (Int×Value)×Array MapEntry×Nat=>pure' (kJ f n y.1/\y.2.1.toList.map (λe=>(e.key,e.val))=y.1.map (λt=>(QM.encI t.1,t.2))/\i9 y.2.1 y.2.2) (ah [obj b (.map y.2.1 y.2.2)])
def AP(b9 gm c:Nat)(xs:List Int):ax:=fj λx:Option Addr×Nat=>pure' True (ah [aj c b9 [.slice x.1 xs.length x.2],aT gm 1 x.1 xs.length x.2 (ints xs)])
end Go.Proofs.YtglgidjhoncphaaGreatDoor.aC
