/- Proved here: contracts of functions of this program, under the premises that each theorem names. -/
import Derived.Maps.RangeRun
import Derived.Test.YtglgidjhoncphaaGreatDoorVn
set_option linter.all false
set_option maxRecDepth 4000
set_option maxHeartbeats 4000000
open List renaming mem_singleton->UP,mem_append->UQ,getElem?_eq_some_iff->UU,mem_cons->U0,mem_map->U3,nodup_cons->U6,mem_filter->U8,toArray->Vb,map_cons->Vm,length_map->VI,getElem?_of_mem->VS,map_congr_left->VZ,map_append->V2,filter_cons_of_neg->V6,find?_eq_none->Wn,map_nil->WH,pairwise_map->WO,map_map->XC,filter_cons_of_pos->Ys
open Go.QM.ab renaming aA->UR
open Decidable renaming not_not->U4
namespace Go.QM
open Go
section
variable {r : Option Nat} {P : Program} {N : Nat} {ag : Env} {A : ax} {K : Value → ax → Prop}
variable {d : Option Tmp} {ty : TypeId} {ps : String} {bh : Array Edge} {g : Option (Nat × Bool)} {t : TypeId} {x : Operand}
theorem Bn{hs:List ax}(H e:TypeId){b:Nat}{es:Array MapEntry}{aL:Nat}(D:mv P t H e=true)(E:bc ag x=.map (some b))[hr:fT (ah hs) b (.map es aL)]
    (k:∀i,K (ae i) (ah (obj i (.mapIter (some b) aL #[] aL)::hs))):cg r P ag ⟨d,.range t x,ty,ps,bh,g⟩ (ah hs) K:=
  cg.run rfl λw u=>⟨ae w.heap.size,w.alloc (.mapIter (some b) aL #[] aL),_,.inl (by have C:w.heap[b]? =some (.map es aL):=hr.rd.sat u;simp[execOp,Instr.range,E,oW D,MapKept.run_getObj_map C]),⟨rfl,rfl,rfl,by simp⟩,o2 _ u,k w.heap.size⟩
theorem AY(i:Nat){hs rest:List ax}{it b:Nat}{es:Array MapEntry}{aL:Nat}{seen:Array Nat}(H:bc ag x=ae it)(Q:eO i hs=some (obj it (.mapIter (some b) aL seen aL),rest))
    (hr:Rd (ah rest) b (.map es aL)) (O:jf es aL)
    (bN:(∀e∈es.toList,e.born∈seen)->K (.tuple #[.bool false]) (ah (obj it (.mapIter (some b) aL seen aL)::rest)))
    (aq:∀e∈es.toList,e.born∉seen->K (.tuple #[.bool true,e.key,e.val]) (ah (obj it (.mapIter (some b) aL (seen.push e.born) aL)::rest))):
    cg r P ag ⟨d,.next x false,ty,ps,bh,g⟩ (ah hs) K:=by
 refine cg.run rfl λw an=>?_;have u:=an.bg (fI Q);have E:w.heap[it]? =some (.mapIter (some b) aL seen aL):=(iC (ji it _)).sat u;have N:w.heap[b]? =some (.map es aL):=(vC hr).sat u;rcases run_next_at (P:=P) w ty it b aL aL seen es aL E N O.1 (Nat.le_refl _)with⟨ar,D⟩|⟨e,he,cF,hw,D⟩;refine⟨.tuple #[.bool false],w,_,.inl ?_,ft.refl w,u,bN λe he=>?_⟩;simp only[execOp,H];exact(by simp[D]);by_cases hm:e.born∈seen;trivial;exfalso;have C:e∈(leftOf es seen).toList:=by grind[leftOf]
 simp_all;have C:e∈es.toList/\e.born∉seen:=by grind[leftOf]
 refine⟨.tuple #[.bool true,e.key,e.val],_,_,.inl (by simp only[execOp,H];exact(by simp[D];rfl)),?_,?_,aq e C.1 C.2⟩;rcases hw with rfl|rfl<;>exact⟨rfl,rfl,rfl,by simp[ChangeMaps.setBlock]⟩;have Z:sat cF (sep (obj it (.mapIter (some b) aL seen aL)) (ah rest)):=by rcases hw with rfl|rfl<;>exact u
 have av:cF.heap[it]? =some (.mapIter (some b) aL seen aL):=by rcases hw with rfl|rfl<;>exact E
 have W:it<cF.heap.size:=cp
 exact uU Z (by show(cF.heap.setIfInBounds it _)[it]? =_;rw[Array.getElem?_setIfInBounds_self_of_lt W]) (λj V=>by show(cF.heap.setIfInBounds it _)[j]? =_;rw[Array.getElem?_setIfInBounds_ne (Ne.symm V)])
theorem zk{it b:Nat}{es:Array MapEntry}{aL since:Nat}{seen:Array Nat}(e:MapEntry)(E:bc ag x=ae it)[D:fT A it (.mapIter (some b) since (seen.push e.born) aL)](hr:Rd A b (.map es aL))
    (he:e∈es.toList) (C:jf es aL):bA P ag ⟨d,.entry x,ty,ps,bh,g⟩ A (.tuple #[e.key,e.val]):=λw u=>by
  have:=run_entry_at (P:=P) w it b since seen es aL e (D.rd.sat u) (hr.sat u) he C.2
  simp only[execOp,E]
  simp[this]
end
def n7(e:MapEntry):Int:=match e.key with
  | .int _ k=>k
  | _=>0
theorem E8{m:List (Int×Value)}{es:Array MapEntry}(h:es.toList.map (λe=>(e.key,e.val))=m.map (λt=>(encI t.1,t.2))):(∀e∈es.toList,e.key=aa (n7 e))/\es.toList.map n7=m.map (·.1):=by have d:es.toList.map (·.key)=m.map λt=>encI t.1:=(by have:=congrArg (List.map Prod.fst) h;grind[Function.comp_def]);have w:∀e∈es.toList,e.key=aa (n7 e):=λe he=>(by(have C:e.key∈es.toList.map (·.key):=by grind);rw[d]at C;obtain⟨u,_,hu⟩:=U3.1 C;rw[n7,<-hu];rfl);refine⟨w,?_⟩;have D:es.toList.map (λe=>encI (n7 e))=m.map λt=>encI t.1:=(by rw[<-d];exact VZ λe he=>(w e he).symm);have E:=congrArg (List.map λv=>match v with|Value.int _ k=>k|_=>0) D;simpa[XC,Function.comp_def,encI]using E
theorem all_keys{es:Array MapEntry}{aL:Nat}(w:jf es aL){bG:List MapEntry}(P:∀e∈bG,e∈es.toList)(C:(bG.map (·.born)).Nodup)(Q:∀e∈es.toList,e.born∈bG.map (·.born)):bG.Perm es.toList:=by have inj:∀a∈es.toList,∀c∈es.toList,a.born=c.born->a=c:=λa D c E e=>(by obtain⟨i,H⟩:=VS D;obtain⟨j,N⟩:=VS E;obtain⟨O,bb⟩:=UU.1 H;obtain⟨a2,bo⟩:=UU.1 N;have V:=List.pairwise_iff_getElem.1 w.2;grind);have W:bG.Nodup:=(WO.1 C).imp λu d=>u (congrArg _ d);have Z:es.toList.Nodup:=(WO.1 w.2).imp λu d=>u (congrArg _ d);grind[List.perm_ext_iff_of_nodup]
end Go.QM
namespace Go.Proofs.YtglgidjhoncphaaGreatDoor.aB
open Go Go.QM
structure bW where
  id:Int
  par:Int
  lim:Int
  fQ:Int
def ii:List Int->Int
  | []=>0
  | x::l=>x+ii l
theorem HT(l m:List Int):ii (l++m)=ii l+ii m:=by induction l with|nil=>simp[ii]|cons x l d=>rw[List.cons_append,ii,ii,d];omega
theorem SL{l m:List Int}(h:l.Perm m):ii l=ii m:=by induction h with|nil=>rfl|cons x _ w=>rw[ii,ii,w]|swap x y l=>simp only[ii];omega|trans _ _ d u=>exact d.trans u
theorem HU{l:List Int}(h:∀x∈l,0<=x):0<=ii l:=by induction l with|nil=>exact Int.le_refl _|cons x l u=>have:=h x cE;have:=u (λy d=>h y (by simp[d]));rw[ii];omega
theorem SK{l:List Int}{b:Int}(h:∀x∈l,x<=b):ii l<=b*l.length:=by induction l with|nil=>simp[ii]|cons x l u=>have:=h x cE;have:=u (λy d=>h y (by simp[d]));rw[ii,List.length_cons,Int.natCast_add,Int.mul_add];omega
def mr(L:List bW)(x:Int):List bW:=L.filter λt=>decide (t.par=x)
def fm(L:List bW)(x:Int):Int:=ii ((mr L x).map (·.lim))
def gR(L:List bW)(x:Int):Int:=((mr L x).length:Int)
def db(L:List bW)(x:Int):Prop:=∃t∈L,t.id=x
instance (L:List bW)(id:Int):Decidable (db L id):=inferInstanceAs (Decidable (∃t∈L,t.id=id))
def qy(L:List bW)(id:Int):Option bW:=L.find? λt=>decide (t.id=id)
def iB(L:List bW):Prop:=(L.map (·.id)).Nodup
theorem iB.perm{S T:List bW}(h:iB S)(p:T.Perm S):iB T:=(p.map _).nodup_iff.2 h
variable{t:bW}
theorem iB.inj{S:List bW}(h:iB S){u:bW}(C:t∈S)(hu:u∈S)(e:t.id=u.id):t=u:=by obtain⟨L,w⟩:=fp C;rcases U0.1 (w.mem_iff.1 hu)with d|d;simp_all;exact absurd (U3.2 ⟨u,d,e.symm⟩) (U6.1 (h.perm w.symm)).1
theorem MA{S:List bW}(h:iB S)(w:t∈S):qy S t.id=some t:=by rw[qy];cases d:S.find? λu=>decide (u.id=t.id)with|none=>rw[Wn]at d;exact absurd (c1 rfl) (d t w)|some u=>have C:=List.find?_some d;have D:=List.mem_of_find?_eq_some d;rw[h.inj D w (by simpa using C)]
theorem Mz{S:List bW}{id:Int}(h:¬db S id):qy S id=none:=by rw[qy,Wn];intro u hu;simp only[decide_eq_true_eq];exact λe=>h ⟨u,hu,e⟩
def m7(L:List bW)(id:Int):Int:=match qy L id with
  | some t=>t.fQ+fm L id
  | none=>0
def nw(L:List bW)(id:Int):Int:=match qy L id with
  | some t=>t.lim
  | none=>0
def gg(L:List bW)(id:Int):Int:=match qy L id with
  | some t=>t.fQ
  | none=>0
def lk(L:List bW)(id:Int):Int:=match qy L id with
  | some t=>t.par
  | none=>-1
def fN(L:List bW)(id c:Int):List bW:=L.map λt=>if t.id=id then⟨t.id,t.par,t.lim,c⟩else t
def kK(L:List bW)(id:Int):List bW:=L.filter λt=>decide (t.id≠id)
def fP(L:List bW)(gj p lim:Int):List bW×Int×Int×Int:=
  if ¬db L p then(L,gj,0,6)else if lim<0 then(L,gj,0,1)else if ¬lim<=nw L p-m7 L p then(L,gj,0,5)else if L.length=32 then(L,gj,0,11)else(L++[⟨gj,p,lim,0⟩],gj+1,gj,0)
def iD(L:List bW)(id:Int):List bW×Int:=
  if ¬db L id then(L,6)else if id=0 then(L,1)else if m7 L id≠0\/0<gR L id then(L,12)else(kK L id,0)
def c9(L:List bW)(id n:Int):List bW×Int:=
  if ¬db L id then(L,6)else if n<0 then(L,1)else if ¬n<=nw L id-m7 L id then(L,5)else(fN L id (gg L id+n),0)
def ek(L:List bW)(id n:Int):List bW×Int:=
  if ¬db L id then(L,6)else if n<0\/gg L id<n then(L,1)else(fN L id (gg L id-n),0)
structure eM(L:List bW)(gj:Int):Prop where
  bi:iB L
  kr:(L.map (·.id)).Pairwise (· <·)
  rg:∀t∈L,0<=t.id/\t.id<gj/\0<=t.lim/\t.lim<=1073741824/\0<=t.fQ/\t.fQ+fm L t.id<=t.lim
  root:db L 0
  qS:∀t∈L,t.id=0->t.par=-1
  par:∀t∈L,t.id≠0->db L t.par/\t.par<t.id
  len:L.length<=32
theorem Fp(S T:List bW)(p:Int):mr (S++T) p=mr S p++mr T p:=by simp[mr]
theorem ub(S T:List bW)(p:Int):fm (S++T) p=fm S p+fm T p:=by rw[fm,Fp,V2,HT];rfl
theorem wM(S T:List bW)(p:Int):gR (S++T) p=gR S p+gR T p:=by rw[gR,Fp,List.length_append];rfl
theorem rA{p:Int}:fm [t] p=if t.par=p then t.lim else 0:=by by_cases h:t.par=p;rw[aw h,fm,mr,Ys (by simpa using h)];simp[ii];rw[al h,fm,mr,V6 (by simpa using h)];rfl
theorem wN{p:Int}:gR [t] p=if t.par=p then 1 else 0:=by by_cases h:t.par=p;rw[aw h,gR,mr,Ys (by simpa using h)];rfl;rw[al h,gR,mr,V6 (by simpa using h)];rfl
theorem Ns{S T:List bW}(h:S.Perm T)(p:Int):fm S p=fm T p:=SL ((h.filter _).map _)
theorem O1{S T:List bW}(h:S.Perm T)(p:Int):gR S p=gR T p:=congrArg (λn:Nat=>(n:Int)) (h.filter _).length_eq
theorem xH(L:List bW)(id c:Int):(fN L id c).map (·.id)=L.map (·.id):=by rw[fN,XC];exact VZ λt _=>by simp only[Function.comp];split<;>rfl
variable{L:List bW}
theorem qX{id c x:Int}:db (fN L id c) x↔db L x:=by
 have h:∀S:List bW,db S x↔x∈S.map (·.id):=by grind[db]
 grind[xH]
theorem qW(L:List bW)(id c p:Int):fm (fN L id c) p=fm L p/\gR (fN L id c) p=gR L p:=by induction L with|nil=>exact⟨rfl,rfl⟩|cons t L D=>have e:fN (t::L) id c=(if t.id=id then⟨t.id,t.par,t.lim,c⟩else t)::fN L id c:=rfl;have d:=ub [if t.id=id then(⟨t.id,t.par,t.lim,c⟩:bW)else t] (fN L id c) p;have u:=ub [t] L p;have w:=wM [if t.id=id then(⟨t.id,t.par,t.lim,c⟩:bW)else t] (fN L id c) p;have C:=wM [t] L p;rw[List.singleton_append]at d u w C;rw[e,d,u,w,C,D.1,D.2,rA,rA,wN,wN];constructor<;>(congr 1;split<;>rfl)
variable{gj:Int}
theorem wv(h:eM L gj)(x:Int):0<=fm L x:=HU λy u=>by
 obtain⟨t,d,rfl⟩:=U3.1 u
 exact(h.rg t (U8.1 d).1).2.2.1
theorem Fk(L:List bW)(x:Int):0<=gR L x/\gR L x<=L.length:=by grind[mr,gR]
theorem ix(h:iB L)(d:t∈L):m7 L t.id=t.fQ+fm L t.id/\nw L t.id=t.lim/\gg L t.id=t.fQ/\lk L t.id=t.par:=by grind[m7,nw,gg,lk,MA]
theorem IG{id:Int}(h:¬db L id):m7 L id=0/\nw L id=0/\gg L id=0/\lk L id=-1:=by grind[m7,nw,gg,lk,Mz]
theorem Ew{L:List bW}{x:Int}(h:∀t∈L,t.par≠x):fm L x=0/\gR L x=0:=by
 have e:mr L x=[]:=by grind[mr,List.filter_eq_nil_iff]
 rw[fm,gR,e];exact⟨rfl,rfl⟩
theorem eM.GG(h:eM L gj)(d:t∈L):t.par<gj/\-1<=t.par/\t.par≠t.id:=by have C:=h.rg t d;by_cases e:t.id=0;have:=h.qS t d e;omega;obtain⟨⟨u,hu,w⟩,D⟩:=h.par t d e;have:=h.rg u hu;omega
theorem eM.start{lim:Int}(h:0<=lim/\lim<=1073741824):eM [⟨0,-1,lim,0⟩] 1 where
 bi:=by simp[iB]
 kr:=by simp
 rg:=λt d=>by
  rw[UP.1 d];have:fm [(⟨0,-1,lim,0⟩:bW)] 0=0:=by rw[rA,al cD]
  dsimp only;rw[this];omega
 root:=⟨_,UP.2 rfl,rfl⟩
 qS:=λt d _=>by rw[UP.1 d]
 par:=λt d an=>by rw[UP.1 d]at an;exact absurd rfl an
 len:=by simp
theorem eM.add(h:eM L gj){p lim:Int}(P:db L p)(W:0<=lim)(O:lim<=nw L p-m7 L p)(an:L.length≠32):eM (L++[⟨gj,p,lim,0⟩]) (gj+1):=by
 obtain⟨u,hu,rfl⟩:=P;have Q:=h.rg u hu;obtain⟨H,N,_⟩:=ix h.bi hu;rw[H,N]at O;have ag:=wv h u.id;have ar:fm L gj=0:=(Ew λt d=>by have:=h.GG d;omega).1;have D:∀x,db L x->db (L++[(⟨gj,u.id,lim,0⟩:bW)]) x:=by grind[db]
 have E:∀x∈L.map (·.id),x<gj:=λx V=>(by obtain⟨t,d,rfl⟩:=U3.1 V;exact(h.rg t d).2.1);have aq:0<=gj:=U
 refine⟨?_,?_,λt d=>?_,D 0 h.root,λt d e=>?_,λt d e=>?_,?_⟩;rw[iB,V2,List.nodup_append];exact⟨h.bi,by simp,λa w c C e=>by have:=E a w;simp only[Vm,WH,UP]at C;omega⟩;rw[V2,List.pairwise_append];exact⟨h.kr,by simp,λa w c C=>by have:=E a w;simp only[Vm,WH,UP]at C;omega⟩;rw[ub,rA];dsimp only;rcases UQ.1 d with d|d;have Z:=h.rg t d;by_cases e:u.id=t.id;have:=h.bi.inj hu d e;grind;omega;grind;rcases UQ.1 d with d|d;exact h.qS t d e;grind;rcases UQ.1 d with d|d;exact⟨D _ (h.par t d e).1,(h.par t d e).2⟩;rw[UP.1 d];exact⟨D _ ⟨u,hu,rfl⟩,Q.2.1⟩;have:=h.len;grind
theorem xg{M:List bW}(h:iB L)(w:L.Perm (t::M)):(kK L t.id).Perm M:=by have d:=w.filter λu=>decide (u.id≠t.id);rw[V6 cE]at d;have C:M.filter (λu=>decide (u.id≠t.id))=M:=List.filter_eq_self.2 λu hu=>(by have:=(U6.1 (h.perm w.symm)).1;simp_all);rw[C]at d;exact d
theorem Gt(h:iB L)(d:t∈L)(x:Int):fm (kK L t.id) x=fm L x-(if t.par=x then t.lim else 0)/\gR (kK L t.id) x=gR L x-(if t.par=x then 1 else 0):=by obtain⟨M,bH⟩:=fp d;have w:=xg h bH;have u:=ub [t] M x;have a2:=wM [t] M x;grind[rA,wN,Ns,O1]
theorem nC{x:Int}:t∈kK L x↔t∈L/\t.id≠x:=by simp[kK]
theorem Qj(h:iB L)(d:t∈L):(kK L t.id).length+1=L.length:=by obtain⟨M,bH⟩:=fp d;rw[(xg h bH).length_eq,bH.length_eq];rfl
theorem O2{L:List bW}{x:Int}(h:¬0<gR L x):∀t∈L,t.par≠x:=λt d e=>h (by
 have:t∈mr L x:=U8.2 ⟨d,by simpa using e⟩
 have:=List.length_pos_of_mem this
 rw[gR];omega)
theorem eM.off(h:eM L gj)(w:t∈L)(C:t.id≠0)(E:¬0<gR L t.id):eM (kK L t.id) gj where
 bi:=h.bi.sublist (List.filter_sublist.map _)
 kr:=h.kr.sublist (List.filter_sublist.map _)
 rg:=λu hu=>by
  have N:=h.rg u (nC.1 hu).1
  have O:=(h.rg t w).2.2.1
  rw[(Gt h.bi w u.id).1]
  split<;>omega
 root:=by
  obtain⟨r,H,e⟩:=h.root
  exact⟨r,nC.2 ⟨H,by rw[e];exact λd=>C d.symm⟩,e⟩
 qS:=λu hu=>h.qS u (nC.1 hu).1
 par:=λu hu e=>by
  obtain⟨⟨v,hv,d⟩,D⟩:=h.par u (nC.1 hu).1 e
  have:=O2 E u (nC.1 hu).1
  exact⟨⟨v,nC.2 ⟨hv,by rw[d];exact this⟩,d⟩,D⟩
 len:=Nat.le_trans (List.length_filter_le _ _) h.len
theorem s5{L:List bW}{id c:Int}{u:bW}:u∈fN L id c↔∃t∈L,u=if t.id=id then⟨t.id,t.par,t.lim,c⟩else t:=by grind[fN]
theorem eM.set(h:eM L gj)(C:t∈L){c:Int}(D:0<=c)(E:c+fm L t.id<=t.lim):eM (fN L t.id c) gj where
 bi:=by rw[iB,xH];exact h.bi
 kr:=by rw[xH];exact h.kr
 rg:=λu hu=>by obtain⟨v,hv,rfl⟩:=s5.1 hu;have w:=h.rg v hv;by_cases e:v.id=t.id;have:=h.bi.inj hv C e;subst this;rw[aw rfl,(qW L _ c _).1];dsimp only;omega;rw[al e,(qW L _ c _).1];exact w
 root:=qX.2 h.root
 qS:=λu hu e=>by obtain⟨v,hv,rfl⟩:=s5.1 hu;split at e;rename_i d;rw[aw d];exact h.qS v hv e;rename_i d;rw[al d];exact h.qS v hv e
 par:=λu hu e=>by obtain⟨v,hv,rfl⟩:=s5.1 hu;split at e;rename_i d;rw[aw d];exact⟨qX.2 (h.par v hv e).1,(h.par v hv e).2⟩;rename_i d;rw[al d];exact⟨qX.2 (h.par v hv e).1,(h.par v hv e).2⟩
 len:=by rw[fN,VI];exact h.len
theorem eM.KW(h:eM L gj)(p lim:Int):eM (fP L gj p lim).1 (fP L gj p lim).2.1:=by rw[fP];split;trivial;rename_i d;split;trivial;rename_i C;split;trivial;rename_i u;split;trivial;rename_i w;exact h.add (U4.1 d) U (U4.1 u) w
theorem eM.close(h:eM L gj)(id:Int):eM (iD L id).1 gj:=by rw[iD];split;trivial;rename_i d;obtain⟨t,D,rfl⟩:=U4.1 d;split;trivial;rename_i u;split;trivial;rename_i w;exact h.off D u (λC=>w (.inr C))
theorem eM.K2(h:eM L gj)(id n:Int):eM (c9 L id n).1 gj:=by rw[c9];split;trivial;rename_i D;obtain⟨t,d,rfl⟩:=U4.1 D;obtain⟨u,w,C,_⟩:=ix h.bi d;have N:=h.rg t d;split;trivial;split;trivial;rename_i H E;rw[u,w]at E;rw[C];exact h.set d U U
theorem eM.Rg(h:eM L gj)(id n:Int):eM (ek L id n).1 gj:=by rw[ek];split;trivial;rename_i w;obtain⟨t,d,rfl⟩:=U4.1 w;obtain⟨_,_,u,_⟩:=ix h.bi d;have D:=h.rg t d;split;trivial;rename_i C;rw[u]at C⊢;exact h.set d U U
end Go.Proofs.YtglgidjhoncphaaGreatDoor.aB
namespace Go.Proofs.YtglgidjhoncphaaGreatDoor.aB
open Go Go.QM
section
variable {α : Type} [DecidableEq α] {enc : α → Value} {f : α → Option Value} {n : Nat}
variable {r : Option Nat} {P : Program} {ag : Env} {K : Value → ax → Prop}
variable {d : Option Tmp} {ty : TypeId} {ps : String} {bh : Array Edge} {g : Option (Nat × Bool)}
variable {t : TypeId} {x y z : Operand}
theorem N1{hs rest:List ax}(u e:TypeId){b:Nat}{a:α}{v:Value}(D:mv P t u e=true)(C:dL P u enc)(E:bc ag x=.map (some b))(H:bc ag y=enc a)(hv:bc ag z=v)[O:sn hs b enc f n rest]
 (k:K undef (ah (bJ enc b (fe f a v) (if(f a).isSome then n else n+1)::rest))):cg r P ag ⟨d,.insert t x y z,ty,ps,bh,g⟩ (ah hs) K:=λN w he hs=>by
 have h:=((lZ (d:=d) (ty:=ty) (ps:=ps) (bh:=bh) (g:=g) u e D C E H hv k:cg r P ag ⟨d,.mapUpdate t x y z,ty,ps,bh,g⟩ (ah _) K) N w he hs).2
 refine⟨λ_ _=>trivial,?_⟩
 rw[rV _ rfl]at h⊢
 exact h
end
abbrev kQ(A:Int->Nat)(L:List bW)(t:bW):ax:=aj (A t.id) 194 [.int .i64 t.lim,.int .i64 t.fQ,.int .i64 (fm L t.id),.int .i64 t.par,.int .i64 (gR L t.id)]
def kg(A:Int->Nat)(L:List bW):Int->Option Value:=λx=>if db L x then some (.pointer (some ⟨A x,0,none⟩))else none
theorem zt{A:Int->Nat}{L:List bW}{x:Int}(h:db L x):kg A L x=some (.pointer (some ⟨A x,0,none⟩)):=aw h
theorem Ef{A:Int->Nat}{L:List bW}{x:Int}(h:¬db L x):kg A L x=none:=al h
structure oz where
  A:Int->Nat
  aE:Nat
def eF(b:Nat)(L:List bW)(gj:Int):ax:=fj λy:oz=>pure' (eM L gj) (ah [aj b 187 [.map (some y.aE),.int .i64 gj],bJ QM.encI y.aE (kg y.A L) L.length,b5 (kQ y.A L) L])
theorem sl{α:Type}{f:α->ax}{b:Nat}{o:Obj}:∀{L:List α} {x:α},x∈L->Rd (f x) b o->Rd (b5 f L) b o
 | a::L,x,h,r=>by rcases U0.1 h with rfl|h;exact jh r;exact lI (sl h r)
theorem xS{A:Int->Nat}{L:List bW}{t:bW}(h:t∈L):fT (b5 (kQ A L) L) (A t.id) (.cells (Vb [aa t.lim,aa t.fQ,aa (fm L t.id),aa t.par,aa (gR L t.id)]) 194 (0,0)):=⟨sl h (nc _ _ _)⟩
theorem SM{xs:List Int}{k:Nat}{x:Int}(h:xs[k]? =some x):ii (xs.take (k+1))=ii (xs.take k)+x:=by rw[List.take_add_one,h,Option.toList,HT];simp[ii]
theorem Ee(A:Int->Nat)(L:List bW)(t:bW)(b:Nat):kg (aP A t.id b) (L++[t])=fe (kg A L) t.id (ae b):=by funext y;simp only[kg,fe];by_cases e:y=t.id;rw[aw e,aw ⟨t,by simp,e.symm⟩,e,cf];rw[al e,bP e];by_cases h:db L y;rw[aw h,aw];obtain⟨u,hu,d⟩:=h;exact⟨u,by simp[hu],d⟩;rw[al h,al];rintro⟨u,hu,d⟩;rcases UQ.1 hu with hu|hu;exact h ⟨u,hu,d⟩;simp_all
theorem Mp(A:Int->Nat)(L:List bW)(x:Int):kg A (kK L x)=fU (kg A L) x:=by funext y;simp only[kg,fU];by_cases e:y=x;rw[aw e,al];rintro⟨u,hu,d⟩;exact(nC.1 hu).2 (d.trans e);rw[al e];by_cases h:db L y;rw[aw h,aw];obtain⟨u,hu,d⟩:=h;exact⟨u,nC.2 ⟨hu,by rw[d];exact e⟩,d⟩;rw[al h,al];rintro⟨u,hu,d⟩;exact h ⟨u,(nC.1 hu).1,d⟩
theorem Eg(A:Int->Nat)(L:List bW)(x c:Int):kg A (fN L x c)=kg A L:=by grind[kg,qX]
variable(L:List bW)
theorem Hu(x c:Int):(fN L x c).length=L.length:=by rw[fN,VI]
theorem Hw{L M:List bW}{t:bW}(h:iB L)(bH:L.Perm (t::M))(c:Int):((⟨t.id,t.par,t.lim,c⟩:bW)::M).Perm (fN L t.id c):=by have d:=bH.map λu:bW=>if u.id=t.id then⟨u.id,u.par,u.lim,c⟩else u;rw[Vm,aw rfl]at d;have w:M.map (λu:bW=>if u.id=t.id then(⟨u.id,u.par,u.lim,c⟩:bW)else u)=M:=(by(conv=>rhs;rw[<-List.map_id M]);refine VZ λu hu=>?_;have:=(U6.1 (h.perm bH.symm)).1;simp_all);rw[w]at d;exact d.symm
theorem Hv{A:Int->Nat}{L:List bW}(x c:Int)(u:bW):kQ A L u=kQ A (fN L x c) u:=by dsimp only[kQ];rw[(qW L x c u.id).1,(qW L x c u.id).2]
theorem eM.tE{L:List bW}{u:Int}(h:eM L u){t:bW}(d:t∈L):0<=t.lim/\t.lim<=1073741824/\0<=t.fQ/\t.fQ+fm L t.id<=t.lim/\0<=fm L t.id/\0<=gR L t.id/\gR L t.id<=32:=by have w:=h.rg t d;have C:=wv h t.id;have D:=Fk L t.id;have E:=h.len;omega
theorem Q8(d:Option Addr)(D:Nat)(xs:List Int)(u:∀x∈xs,0<=x/\x<=1073741824)(Q:xs.length<=1000):bu 150 [.slice d xs.length D] (λF=>∃E,cM F E d (ints xs)) [] (aa (ii xs)) []:=by
 apply aG Tryz.func150 Tryz.ntmps150;intro F ⟨E,H⟩;apply J [9];haveI:bn F d E (ints xs):=⟨H⟩;have ar:=eb xs;apply J [102,39,33,174];refine ab.loop (ι:=Nat) (λk=>k<=xs.length) (λk=>[(3,aa (ii (xs.take k))),(6,.slice d xs.length D),(7,aa xs.length),(8,aa ((k:Nat):Int))]) (λk=>ah [F]) (λk=>xs.length-k) 0 (Nat.zero_le _) bC (ao (aZ _)) ?_;rintro k N av;dsimp only[cr]at N⊢;apply J [43];apply UR rfl<;>intro V;have O:k<xs.length:=U
 obtain⟨x,w⟩:∃x,xs[k]? =some x:=⟨xs[k],List.getElem?_eq_getElem O⟩;have W:0<(ints xs).length:=U
 have P:=SM w;have aq:=u x (List.mem_of_getElem? w);have Z:=HU (l:=xs.take k) (λy C=>(u y (List.mem_of_mem_take C)).1);have ag:=SK (l:=xs.take k) (λy C=>(u y (List.mem_of_mem_take C)).2);have an:(xs.take k).length<=k:=b2
 refine J [186] ?_;refine q rfl rfl (dC rfl rfl (hU w)) ?_;refine J [27,202,2,151,72,59] ?_;exact⟨rfl,(k+1),U,U,⟨by rw[P];rfl,rfl,rfl,rfl,trivial⟩,ai⟩;obtain rfl:k=xs.length:=by omega
 rw[List.take_length];apply J [21,133];exact j8
variable(b:Nat)
theorem G4(l c g pr k:Int)(u:0<=c/\c<=1073741824)(w:0<=g/\g<=1073741824):bu 102 [ae b] (λF=>Rd F b (.cells (Vb [aa l,aa c,aa g,aa pr,aa k]) 194 (0,0))) [] (aa (c+g)) []:=by apply aG Tryz.func102 Tryz.ntmps102;intro F d;apply J [9];haveI:fT F b (.cells (Vb [aa l,aa c,aa g,aa pr,aa k]) 194 (0,0)):=⟨d⟩;apply J [39];refine cC [0,1,2,3,4,5,6,7,-8,-9,10] (ao (aZ _)) ?_;refine J [123,185,12,231] ?_;intro bb;refine J [45] ?_;refine aL (Q8 (cK bb) _ [c,g] rN cE) rfl (eu _) ⟨_,bn.rd (ad:=some ⟨bb,0,none⟩)⟩ ?_;intro _ _;change aF _ _/\b6 _ _ _ _ _ _ _ _ _ _ (ah [_,_]);refine⟨ai,?_⟩;rw[show ii [c,g]=c+g by simp[ii]];apply J [200,148];exact dw
theorem G2(l c g pr k:Int)(u:0<=c/\c<=1073741824)(w:0<=g/\g<=1073741824)(n:Int)(C:0<=l/\l<=1073741824):bu 237 [ae b,aa n] (λF=>Rd F b (.cells (Vb [aa l,aa c,aa g,aa pr,aa k]) 194 (0,0))) [] (.bool (decide (n<=l-(c+g)))) []:=by apply aG Tryz.func237 Tryz.ntmps237;intro F d;apply J [9];haveI:fT F b (.cells (Vb [aa l,aa c,aa g,aa pr,aa k]) 194 (0,0)):=⟨d⟩;apply J [135,8];refine cC [0,1,2,3,4,5,-6,7,8,9] (ao (aZ _)) ?_;apply J [15,49,77,12];apply eE (G4 b l c g pr k u w) fT.rd;change aF _ _/\b6 _ _ _ _ _ _ _ _ _ _ (ah [_]);refine J [6,437] ?_;refine bU rfl rfl rfl (leq rfl rfl) ?_;apply J [244,148];exact dw
theorem xw(aE n:Nat)(d:Int)(A:Int->Nat)(L:List bW)(id:Int)(h:db L id):bu 101 [ae b,aa id] be [aj b 187 [.map (some aE),aa d],bJ QM.encI aE (kg A L) n] (.tuple #[.pointer (some ⟨(A id),0,none⟩),aa 0]) [aj b 187 [.map (some aE),aa d],bJ QM.encI aE (kg A L) n]:=by apply aG Tryz.func101 Tryz.ntmps101;intro F _;apply J [13,24,150,150,29,128,154,99,128,53,304];refine q rfl rfl (ko 3 185 rfl rfl (dL.int rfl) rfl rfl) ?_;rw[zt h];apply J [52,42,36,165,30];exact tf
theorem xv(aE n:Nat)(d:Int)(A:Int->Nat)(L:List bW)(id:Int)(h:¬db L id):bu 101 [ae b,aa id] be [aj b 187 [.map (some aE),aa d],bJ QM.encI aE (kg A L) n] (.tuple #[.pointer none,aa 6]) [aj b 187 [.map (some aE),aa d],bJ QM.encI aE (kg A L) n]:=by apply aG Tryz.func101 Tryz.ntmps101;intro F _;apply J [13,24,150,150,29,128,154,99,128,53,304];refine q rfl rfl (ko 3 185 rfl rfl (dL.int rfl) rfl rfl) ?_;rw[Ef h];apply J [52,71,3,55,165,129];exact tf
theorem G1(L:List bW)(C:Int)(id n:Int):bu 179 [ae b,aa id,aa n] be [eF b L C] (aa (c9 L id n).2) [eF b (c9 L id n).1 C]:=by
 apply aG Tryz.func179 Tryz.ntmps179;intro F _;apply J [1];refine ab.open 0 rfl (λW V=>?_);obtain⟨A,aE⟩:=W;have au:=V;apply J [86];dsimp only at au⊢;by_cases h:db L id;obtain⟨t,w,rfl⟩:=h;have h:db L t.id:=by grind[db]
 obtain⟨E,H,N,Z⟩:=ix au.bi w;have ag:=au.tE w;obtain⟨M,bH⟩:=fp w;haveI:=xS (A:=A) w;apply J [62];apply aq (xw b aE L.length C A L t.id h);apply J [18,57,73,26,405,37];apply UR rfl<;>intro D;have hv:c9 L t.id n=(L,1):=by rw[c9,al (λd=>d h),aw D]
 rw[hv];dsimp only;apply J [103];exact q9;apply J [46,28];apply eE (G2 (A t.id) t.lim t.fQ (fm L t.id) t.par (gR L t.id) U U n U) fT.rd;apply J [18,411,37];apply UR rfl<;>intro O;have hv:c9 L t.id n=(L,5):=by rw[c9,al (λd=>d h),al D,aw (by rw[E,H];exact O)]
 rw[hv];dsimp only;apply J [103];exact q9;have d:n<=t.lim-(t.fQ+fm L t.id):=U
 have hv:c9 L t.id n=(fN L t.id (t.fQ+n),0):=by rw[c9,al (λd=>d h),al D,al (by rw[E,H];exact λP=>P d),N]
 rw[hv];dsimp only;have Q:eM (fN L t.id (t.fQ+n)) C:=au.set w U U;refine J [330,23,46,58,2,151,80,81,406,203,119] ?_;exact eZ (ay (⟨A,aE⟩:oz) Q (bv (b8 2 rfl (by dsimp only;rw[Eg,Hu]) (cQ 0 0 (⟨t.id,t.par,t.lim,t.fQ+n⟩:bW) rfl rfl (by dsimp only[kQ];rw[(qW L t.id (t.fQ+n) t.id).1,(qW L t.id (t.fQ+n) t.id).2];rfl) (λu _=>Hv t.id (t.fQ+n) u) (Hw au.bi bH (t.fQ+n)) (ao (aZ _))))));have hv:c9 L id n=(L,6):=aw h;rw[hv];dsimp only;apply J [62];apply aq (xv b aE L.length C A L id h);apply J [18,57,17,211];exact Ci
theorem xx(L:List bW)(D:Int)(id n:Int):bu 181 [ae b,aa id,aa n] be [eF b L D] (aa (ek L id n).2) [eF b (ek L id n).1 D]:=by
 apply aG Tryz.func181 Tryz.ntmps181;intro F _;apply J [1];refine ab.open 0 rfl (λV Q=>?_);obtain⟨A,aE⟩:=V;have au:=Q;apply J [86];dsimp only at au⊢;by_cases h:db L id;obtain⟨t,C,rfl⟩:=h;have h:db L t.id:=by grind[db]
 obtain⟨W,Z,H,ag⟩:=ix au.bi C;have an:=au.tE C;obtain⟨M,bH⟩:=fp C;haveI:=xS (A:=A) C;apply J [62];apply aq (xw b aE L.length D A L t.id h);apply J [18,57,73,178];refine aT.split 22 rfl (λd=>?_) (λd=>?_);have d:=dt d;apply J [48,51,140,17];have hv:ek L t.id n=(L,1):=by rw[ek,al (λw=>w h),aw (.inl d)]
 rw[hv];dsimp only;apply J [103];exact q9;have d:=dX d;apply J [11,138,343,261,160,206];apply UR rfl<;>intro N;have hv:ek L t.id n=(L,1):=by rw[ek,al (λw=>w h),H,aw (.inr N)]
 rw[hv];dsimp only;apply J [103];exact q9;have hv:ek L t.id n=(fN L t.id (t.fQ-n),0):=by rw[ek,al (λw=>w h),H,al (λO=>O.elim (λE=>d E) (λE=>N E))]
 rw[hv];dsimp only;have P:eM (fN L t.id (t.fQ-n)) D:=au.set C U U;refine J [330,23,46,58,2,218,80,81,406,203,119] ?_;exact eZ (ay (⟨A,aE⟩:oz) P (bv (b8 2 rfl (by dsimp only;rw[Eg,Hu]) (cQ 0 0 (⟨t.id,t.par,t.lim,t.fQ-n⟩:bW) rfl rfl (by dsimp only[kQ];rw[(qW L t.id (t.fQ-n) t.id).1,(qW L t.id (t.fQ-n) t.id).2];rfl) (λu _=>Hv t.id (t.fQ-n) u) (Hw au.bi bH (t.fQ-n)) (ao (aZ _))))));have hv:ek L id n=(L,6):=aw h;rw[hv];dsimp only;apply J [62];apply aq (xv b aE L.length D A L id h);apply J [18,57,17,211];exact Ci
end Go.Proofs.YtglgidjhoncphaaGreatDoor.aB
namespace Go.Proofs.YtglgidjhoncphaaGreatDoor.aB
open Go Go.QM
def rf(f:Int->Option Value)(n:Nat)(y:List Int):Prop:=y.Nodup/\y.length=n/\∀x,x∈y↔(f x).isSome=true
def As(b:Nat)(f:Int->Option Value)(n:Nat):ax:=fj λy:List (Int×Value)×Array MapEntry×Nat=>pure' (kW f n y.1/\y.2.1.toList.map (λe=>(e.key,e.val))=y.1.map (λt=>(QM.encI t.1,t.2))/\jf y.2.1 y.2.2) (ah [obj b (.map y.2.1 y.2.2)])
def A7(b7 gf c:Nat)(xs:List Int):ax:=fj λx:Option Addr×Nat=>pure' True (ah [aj c b7 [.slice x.1 xs.length x.2],a1 gf 1 x.1 xs.length x.2 (ints xs)])
end Go.Proofs.YtglgidjhoncphaaGreatDoor.aB
