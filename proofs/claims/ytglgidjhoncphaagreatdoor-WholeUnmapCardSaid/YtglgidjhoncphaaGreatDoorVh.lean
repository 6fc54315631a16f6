/- Proved here: contracts of functions of this program, under the premises that each theorem names. -/
import Derived.OpenShut
import Derived.ProofKit
import Derived.Test.YtglgidjhoncphaaGreatDoorVg
set_option linter.all false
set_option maxRecDepth 4000
set_option maxHeartbeats 4000000
open List renaming getElem?_eq_getElem->UO,take_append_drop->VF,getElem?_eq_none->WX
open Go.DataW renaming TrodAll->Xw
namespace Go.QM
open Go Go.ChangeShapes Go.WideShapes Go.RowKit
def here(W:World):ax:=λh=>∀i,h i=W.heap[i]?
theorem NH(W:World):sat W (sep (ah []) (here W)):=
  ⟨λi=>W.heap[i]?,λ_ _ h=>h,λ_=>none,λi=>W.heap[i]?,λ_=>.inl rfl,by funext i;rfl,rfl,λ_=>rfl⟩
theorem NG{W u:World}(s:ft W u){A:ax}(h:sat u (sep A (here W))):Below W.heap.size W u:=by
 refine⟨s.os,s.tape,s.output,s.size,λk D=>?_⟩;obtain⟨x,C,a,b,d,rfl,_,w⟩:=h;have e:W.heap[k]? =some W.heap[k]:=b2
 rw[e];refine C k _ ?_;rcases d k with d|d;simp only[fD,d,w k];exact e;rw[w k,e]at d;cases d
theorem fA.lawful{P:Program}{f:FuncId}{args:List Value}{rd:ax->Prop}(h:fA P f args rd [] (λ_:Unit=>.bool true) (λ_=>True) (λ_=>[])){W:World}(D:rd (here W)):
    Calls P f args.toArray W λe d=>e=.returned (.bool true)/\Below W.heap.size W d:=
  callsIn_wide.1 ((h.2 (here W) D W (NH W)).mono λ_ _ ⟨_,u,_,w,C⟩=>⟨u,NG w C⟩)
section
variable {H : Type} {enc : TypeId × Value → H} {P : Program}
theorem Ii(O:laidOutB P=true){W E:World}{Z:Nat->Bool}(N:Below W.heap.size W E):∀{C:List TypeId} {vs:List Value} {w:List (DataW H)} {p:List MemPlace},
    (∀t∈C,P.readableRec t=true/\t<P.types.size)->Xw enc P W 0 (λ_=>true) true C vs w p->(∀x∈p,x.block<W.heap.size)->(∀x∈p,Z x.block=true)->
    Xw enc P E 0 Z true C vs w p
  | [],vs,w,p,_,h,_,_=>by obtain⟨rfl,rfl,rfl⟩:=trodAll_nil h;exact trodAll_mk0
  | t::C,vs,w,p,D,h,Q,V=>by
   obtain⟨v,av,d,ar,p,q,rfl,rfl,rfl,ag,an⟩:=trodAll_cons h
   exact trodAll_cons_mk (WideElems.Trod_stays O (D t cE).1 (D t cE).2 ag (λx u=>N.same (Q x (by simp[u]))) (λx u=>V x (by simp[u])))
     (Ii O N (λt aq=>D t (by simp[aq])) an (λx u=>Q x (by simp[u])) (λx u=>V x (by simp[u])))
theorem Pb{f:Func}{s:ChangeSpec}{W w:World}{args:Array Value}{d:List (DataW H)}{before:List MemPlace}{aQ:TypeId}
    (au:DataW.Whole enc P f.params.toList s.vars false W args.toList d [] before) (hv:s.vars=[])
    (aA:s.fn H d={results:=[.lit (.bool true)],args:=d})
    (ag:f.resultTypes=#[aQ]) (an:P.underlying aQ=some .bool) (aB:laidOutB P=true) (hr:∀t∈f.params.toList,P.readableRec t=true/\t<P.types.size)
    (V:Below W.heap.size W w):s.post enc P f false true false false W args (.bool true) w:=by
 have O:=au.lt;have E:=au;obtain⟨p,q,ax,D,rfl,av,_⟩:=au;rw[hv]at D;obtain⟨_,rfl⟩:=trodVars_none D;simp only[List.append_nil]at O av E;have Q:∀u:Nat->Bool,(∀x∈p,u x.block=true)->Xw enc P w 0 u true f.params.toList args.toList d p:=by grind[Ii]
 have C:s.fn H (d++[])={results:=[.lit (.bool true)],args:=d}:=b2
 have Z:∀(b:Nat) (u:Nat->Bool) (N:Bool),Xw enc P w b u N f.resultTypes.toList ((Value.bool true).resultList f.resultTypes.size) [.lit (.bool true)] []:=λb u N=>(by rw[ag];exact trodAll_cons_mk (shut_bool an true) trodAll_mk0);have aq:∀u:Nat->Bool,DataW.TrodVars enc P w u s.vars [] []:=by grind[DataW.TrodVars]
 refine⟨d,[],p,[],p,[],E,by rw[C];exact Z _ _ _,by rw[C];exact Q _ (λx ar=>by simpa using O x ar),by rw[C];exact aq _,V.frame _,λ_=>?_⟩;trivial
def cT(k:IntKind)(xs:List Int):List Value:=xs.map (λx=>.int k x)
theorem jR(k:IntKind)(xs:List Int):(cT k xs).length=xs.length:=by simp[cT]
theorem pT{k:IntKind}{xs:List Int}{i:Nat}{x:Int}(h:xs[i]? =some x):(cT k xs)[i*1]? =some (.int k x):=by simp[cT,h]
theorem Bl{W:World}{a:Addr}{cs:List Value}(h:∀i v,cs[i]? =some v->W.cell? (a.add i)=some v):∃E,cM (here W) E (some a) cs:=by
 by_cases N:cs=[];exact⟨0,λ_ _=>.inl N⟩;obtain⟨v,l,rfl⟩:=List.exists_cons_of_ne_nil N;obtain⟨D,u,H⟩:=a;have d:W.cell? ⟨D,u,H⟩=some v:=by have:=h 0 v rfl;simpa[Addr.add]using this
 cases H with|some s=>simp only[World.cell?]at d;split at d<;>simp at d|none=>
 simp only[h5,World.cell?]at d h;cases w:W.heap[D]? with|none=>rw[w]at d;cases d|some o=>(cases o with|cells c t aY=>simp only[w]at d h;simp only[Option.isSome_none,Bool.false_eq_true,if_false]at d h;refine⟨t,λP e=>.inr ⟨_,c.toList.take u,c.toList.drop (u+(v::l).length),aY,rfl,?_,?_⟩⟩;have:u<c.size:=(Array.getElem?_eq_some_iff.1 d).1;simp;omega;rw[e,w];have key:(c.toList.drop u).take (v::l).length=v::l:=(by apply List.ext_getElem?;intro i;by_cases C:i<(v::l).length;rw[List.getElem?_take_of_lt C,List.getElem?_drop,Array.getElem?_toList];rw[h i _ (UO C),UO C];rw[WX (by simp at C⊢;omega),WX U]);have:c.toList.take u++(v::l)++c.toList.drop (u+(v::l).length)=c.toList:=(by rw[<-List.drop_drop,List.append_assoc];have O:v::l++(c.toList.drop u).drop (v::l).length=c.toList.drop u:=(by have:=VF (v::l).length (c.toList.drop u);rw[key]at this;exact this);rw[O,VF]);rw[this]|_=>rw[w]at d;cases d)
theorem Ts{n:Int}(h:(Lit.int .u8 n).wf=true):0<=n/\n<=255:=by simpa[Lit.wf,IntKind.min,IntKind.max,IntKind.signed,IntKind.bits]using h
end
end Go.QM
