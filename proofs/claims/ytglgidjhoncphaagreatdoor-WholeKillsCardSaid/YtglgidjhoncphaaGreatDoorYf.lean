/- Proved here: contracts of functions of this program, under the premises that each theorem names. -/
import Derived.Laws.StructEq
import Derived.Test.YtglgidjhoncphaaGreatDoorYe
set_option linter.all false
set_option maxRecDepth 4000
set_option maxHeartbeats 4000000
open Nat renaming eq_of_beq_eq_true->UM,beq->VI
open Bool renaming and_eq_true->UW
open BitVec renaming ofInt->U6,toNat_ofInt->Wv
open Int renaming eq_ofNat_of_zero_le->Vq
open List renaming drop_eq_nil_of_le->VE,drop_eq_getElem_cons->Wy
open Go.Instr renaming sureAddr->VV,indexAt->WQ
open List.cons renaming inj->Wu
namespace Go.QM
open Go
section
variable {r : Option Nat} {P : Program} {N : Nat} {ops : Array Oper} {l : List Oper} {Q : ff} {ag : Env} {aQ : List Deferred} {A : ax} {K : Value → ax → Prop}
variable {d : Option Tmp} {ty : TypeId} {ps : String} {bh : Array Edge} {g : Option (Nat × Bool)}
variable {t t' : TypeId} {x y : Operand} {k : IntKind} {a b c : Int}
def q6(P:Program)(t:TypeId)(n E sz:Nat):Bool:=match P.underlying t with
  | some (.array m e)=>VI m n&&VI e E&&qO P e sz
  | _=>false
theorem ts{n E sz:Nat}(h:q6 P t n E sz=true)(w:World):(underlying t).run P w=.ok (.array n E) w/\(Go.sizeOf E).run P w=.ok sz w:=by
 unfold q6 at h
 cases hu:P.underlying t with
 | none=>rw[hu]at h;cases h
 | some u=>
   rw[hu]at h
   cases u<;>first
     | (cases h;done)
     | (simp only[UW]at h
        obtain⟨⟨d,C⟩,D⟩:=h
        have d:=UM d
        have C:=UM C
        subst d;subst C
        exact⟨by simp[underlying,hu],Bq D w⟩)
variable{ly:Nat}
theorem uj(u:bb ag x=.pointer (some ⟨ly,0,none⟩)):bz P ag ⟨d,.nilCheck x,ty,ps,bh,g⟩ A (fU (some ⟨ly,0,none⟩) 0):=λw _=>by
  simp[execOp,u,fU]
theorem PG{o:Nat}(u:bb ag x=fU (some ⟨ly,0,none⟩) o):bz P ag ⟨d,.nilCheck x,ty,ps,bh,g⟩ A (fU (some ⟨ly,0,none⟩) o):=λw _=>by
  simp[execOp,u,fU]
theorem nT{s:TypeId}{f u:Nat}(o:Nat)(C:vZ P s f o=true)(E:bb ag x=fU (some ⟨ly,0,none⟩) u):bz P ag ⟨d,.fieldAddr s x f,ty,ps,bh,g⟩ A (fU (some ⟨ly,0,none⟩) (u+o)):=λw D=>by
  have:=(cW (A:=A) (d:=d) (ty:=ty) (ps:=ps) (bh:=bh) (g:=g) o C (show bb ag x=.pointer (some ⟨ly,0+u,none⟩)by rw[E];rfl)) w D
  rw[this];simp[fU,Nat.add_assoc]
variable(n E sz:Nat)
theorem zM{u:Nat}{j:Int}(H:q6 P t n E sz=true)(N:bb ag x=fU (some ⟨ly,0,none⟩) u)(O:bb ag y=.int k j)(C:0<=j)(D:j<n):
    bz P ag ⟨d,.indexAddr t x y,ty,ps,bh,g⟩ A (fU (some ⟨ly,0,none⟩) (u+j.toNat*sz)):=λw _=>by
  simp[execOp,WQ,VV,N,O,asIntOf,ts H,C,D,ix,fU]
theorem k1{off:Nat}{j:Int}(D:q6 P t n E sz=true)(H:bb ag x=.pointer (some ⟨ly,off,none⟩))(N:bb ag y=.int k j)(u:0<=j)(C:j<n):
    bz P ag ⟨d,.indexAddr t x y,ty,ps,bh,g⟩ A (.pointer (some ⟨ly,off+j.toNat*sz,none⟩)):=λw _=>by
  simp[execOp,WQ,VV,H,N,asIntOf,ts D,u,C,ix]
theorem xv{o:Nat}(C:q6 P t n E sz=true)(D:bb ag x=fU (some ⟨ly,0,none⟩) o)(u:o=0):
    bz P ag ⟨d,.slice t x none none none,ty,ps,bh,g⟩ A (.slice (some ⟨ly,0,none⟩) n n):=λw _=>by
  subst u
  by_cases au:n=0<;>simp[execOp,Instr.sliceAt,VV,Instr.sliceBounds,D,ts C,fU,au,ix]
theorem No{vs ws:List Value}{j:Int}(D:q6 P t n E sz=true)(he:qe P E sz=true)(H:bb ag x=.agg vs.toArray)(N:bb ag y=.int k j)(u:0<=j)(C:j<n)(hv:(vs.drop (j.toNat*sz)).take sz=ws):
    bz P ag ⟨d,.index t x y,ty,ps,bh,g⟩ A (.agg ws.toArray):=λw _=>by
  simp[execOp,Instr.index,H,N,asIntOf,ts D,u,C,part,EK he]
  exact hv
theorem Np{vs:List Value}{v:Value}{j:Int}(D:q6 P t n E sz=true)(he:mf P E=true)(H:bb ag x=.agg vs.toArray)(N:bb ag y=.int k j)(u:0<=j)(C:j<n)(hv:vs[j.toNat*sz]? =some v):
    bz P ag ⟨d,.index t x y,ty,ps,bh,g⟩ A v:=λw _=>by
  simp[execOp,Instr.index,H,N,asIntOf,ts D,u,C,part,tZ he,hv]
theorem RX{E sz n:Nat}{cs:List Value}(h:cs.length=n*sz)(au:n<=maxLen):aF (aj ly E cs) (aT E sz (some ⟨ly,0,none⟩) n n cs):=
  h1 λd x=>⟨([],[]),⟨rfl,h,Nat.le_refl _,au,by simp[h]⟩,by simpa[aj]using x⟩
def ox(P:Program)(n:Nat):List Field->Nat->Bool
  | [],m=>VI m n
  | f :: pq, m => (f.name != "_") && Nat.beq f.offset m && (match P.underlying f.type with | some (.int .i64) => true | _ => false) && ox P n pq (m + 1)
def re(P:Program)(t:TypeId)(n:Nat):Bool:=match P.underlying t with
  | some (.struct pq)=>ox P n pq.toList 0&&!(P.stoodInHeld t)&&!(P.eqGuardType P.depth t)
  | _=>false
theorem Dz{n:Nat}{d:Nat}(xs C:List Int)(Q:xs.length=n)(W:C.length=n)(w:World):∀(D:List Field) (m:Nat),m<=n->ox P n D m=true->
    (Op.eqFields (d+1) (ints xs).toArray (ints C).toArray D).run P w=.ok (decide (xs.drop m=C.drop m)) w
  | [],m,_,h=>by
    have:=UM h
    simp[Op.eqFields,VE,this,Q,W]
  | f ::D,m,hm,h=>by
    simp only[ox,UW]at h
    obtain⟨⟨⟨ag,H⟩,E⟩,O⟩:=h
    have H:=UM H
    have hu:P.underlying f.type=some (.int .i64):=by
      cases hu:P.underlying f.type with
      | none=>rw[hu]at E;cases E
      | some u=>rw[hu]at E;cases u<;>first|(cases E;done)|(rename_i k;cases k<;>first|(cases E;done)|rfl)
    have ar:m<n:=by
      rcases Nat.lt_or_ge m n with h|h
      · exact h
      · exfalso
        have an:∀(D:List Field) (m:Nat),n<m->ox P n D m=true->False:=by
          intro D
          induction D with
          | nil=>intro m hm h;have:=UM h;omega
          | cons f D ao=>intro m hm h;simp only[ox,UW]at h;exact ao _ U h.2
        exact an D (m+1) U O
    have V:xs.drop m=xs[m]::xs.drop (m+1):=Wy U
    have Z:C.drop m=C[m]::C.drop (m+1):=Wy U
    have fT:(part f.type (ints xs).toArray f.offset).run P w=.ok (.int .i64 xs[m]) w:=by
      have N:mf P f.type=true:=by simp[mf,hu]
      simp[part,tZ N,H,ints,show m<xs.length by omega]
    have ha:(part f.type (ints C).toArray f.offset).run P w=.ok (.int .i64 C[m]) w:=by
      have N:mf P f.type=true:=by simp[mf,hu]
      simp[part,tZ N,H,ints,show m<C.length by omega]
    have au : f.name ≠ "_" := by simpa using ag
    simp only[Op.eqFields,au,ne_eq,not_false_eq_true,if_true,Sem.run_bind,fT,ha,Result.andThen_ok,run_equalIn_int w d f.type .i64 .i64 _ _ hu]
    by_cases he:xs[m]=C[m]
    · rw[al (by simp[he]),Dz xs C Q W w D (m+1) U O]
      refine congrArg (λb=>Result.ok b w) (decide_eq_decide.2 ?_)
      rw[V,Z,he]
      exact⟨λh=>by rw[h],λh=>(Wu h).2⟩
    · rw[aw (by simp[he]),Sem.run_pure]
      refine congrArg (λb=>Result.ok b w) (c4 ?_).symm
      rw[V,Z]
      exact λh=>he (Wu h).1
theorem DB{n:Nat}(h:re P t n=true)(xs C:List Int)(Q:xs.length=n)(V:C.length=n)(w:World):
    (Op.equalIn 10000 t (.agg (ints xs).toArray) (.agg (ints C).toArray)).run P w=.ok (decide (xs=C)) w/\P.eqGuardType P.depth t=false:=by unfold re at h;cases hu:P.underlying t with|none=>rw[hu]at h;cases h|some u=>rw[hu]at h;(cases u with|struct D=>simp only[UW,Bool.not_eq_true']at h;obtain⟨⟨H,N⟩,O⟩:=h;(have E:P.fieldsOf t=D:=by simp[Program.fieldsOf,hu]);have:=Dz (P:=P) (d:=9998) xs C Q V w D.toList 0 (Nat.zero_le _) H;refine⟨?_,O⟩;rw[run_equalIn_agg w 9999 t _ _ (by rw[E];exact hu) N,E,this];simp|_=>cases h)
theorem PI{xs u:List Int}(E:re P t n=true)(H:bb ag x=.agg (ints xs).toArray)(N:bb ag y=.agg (ints u).toArray)(au:xs.length=n)(hm:u.length=n):
    bz P ag ⟨d,.binOp .neq t x y t',ty,ps,bh,g⟩ A (.bool (decide (xs≠u))):=λw _=>by
  obtain⟨C,D⟩:=DB E xs u au hm w
  simp[execOp,H,N,run_eqGuard_agg w .neq t x y _ _ D,run_neq_struct w t,C]
theorem Bg{E:IntKind}{n:Int}(C:bb ag x=.int k a)(D:bb ag y=.int E n)(H:0<=n)(u:k.wrap (a*2^min n.toNat k.bits)=c):
    bz P ag ⟨d,.binOp .shl t x y t',ty,ps,bh,g⟩ A (.int k c):=λw _=>by
  have:¬n<0:=U
  simp[execOp,C,D,eqGuard,binOp,Op.shift,this,u]
theorem AO(C:bb ag x=.int k a)(D:bb ag y=.int k b)(u:k.wrap (U6 k.bits a|||U6 k.bits b).toNat=c):
    bz P ag ⟨d,.binOp .or t x y t',ty,ps,bh,g⟩ A (.int k c):=λw _=>by
  simp[execOp,C,D,eqGuard,binOp,Op.intBits]
  simpa using u
theorem vt(C:bb ag x=.int k a)(D:bb ag y=.int k b)(u:k.wrap (U6 k.bits a&&&U6 k.bits b).toNat=c):
    bz P ag ⟨d,.binOp .and t x y t',ty,ps,bh,g⟩ A (.int k c):=λw _=>by
  simp[execOp,C,D,eqGuard,binOp,Op.intBits]
  simpa using u
theorem RI(d:0<=a)(u:a<=16777215):IntKind.u32.wrap (a*2^min (8:Int).toNat IntKind.u32.bits)=a*256:=by
 have e:(2:Int)^min (8:Int).toNat IntKind.u32.bits=256:=am
 grind[pX]
theorem P8{q i:Int}(w:0<=q)(E:q<=16777215)(C:0<=i)(H:i<256):IntKind.u32.wrap (U6 IntKind.u32.bits (q*256)|||U6 IntKind.u32.bits i).toNat=q*256+i:=by have D:IntKind.u32.bits=32:=rfl;obtain⟨q,rfl⟩:=Vq w;obtain⟨i,rfl⟩:=Vq C;have e:(U6 IntKind.u32.bits ((q:Int)*256)|||U6 IntKind.u32.bits (i:Int)).toNat=q*256+i:=(by rw[BitVec.toNat_or,Wv,Wv,D];(have d:(((q:Int)*256) %((2^32:Nat):Int)).toNat=2^8*q:=by omega);(have u:((i:Int) %((2^32:Nat):Int)).toNat=i:=by omega);rw[d,u,<-Nat.two_pow_add_eq_or_of_lt U];omega);grind[pX]
theorem CC{z:Int}(w:0<=z)(D:z<=4294967295):IntKind.u32.wrap (U6 IntKind.u32.bits z&&&U6 IntKind.u32.bits 255).toNat=z %256:=by have C:IntKind.u32.bits=32:=rfl;obtain⟨z,rfl⟩:=Vq w;have e:(U6 IntKind.u32.bits (z:Int)&&&U6 IntKind.u32.bits 255).toNat=z %256:=(by rw[BitVec.toNat_and,Wv,Wv,C];(have d:((z:Int) %((2^32:Nat):Int)).toNat=z:=by omega);(have u:((255:Int) %((2^32:Nat):Int)).toNat=2^8-1:=by decide);rw[d,u,Nat.and_two_pow_sub_one_eq_mod]);grind[pX]
end
theorem e3{P:Program}{d:Env}{A:ax}{t a n b off E:Nat}{u:Nat×Nat}{l vs:List Value}(H:qe P t n=true)(C:d a=.pointer (some ⟨b,off,none⟩))[h:fP A b (.cells l.toArray E u)](hv:(l.drop off).take n=vs)(au:vs.length=n):
    ∃b off,d a=.pointer (some ⟨b,off,none⟩)/\∀w,sat w A->(loadVar t ⟨b,off,none⟩).run P w=.ok (.agg vs.toArray) w:=
  ⟨b,off,C,λ_ D=>Ab H (h.rd.sat D) hv au⟩
theorem GD{P:Program}{d:Env}{A:ax}{t a b off E:Nat}{u:Nat×Nat}{l:List Value}{v:Value}(H:mf P t=true)(C:d a=.pointer (some ⟨b,off,none⟩))[h:fP A b (.cells l.toArray E u)](hv:l[off]? =some v):
    ∃b off,d a=.pointer (some ⟨b,off,none⟩)/\∀w,sat w A->(loadVar t ⟨b,off,none⟩).run P w=.ok v w:=
  ⟨b,off,C,λ_ D=>Ac H (h.rd.sat D) hv⟩
theorem m8{α:Type}{enc:α->List Value}{sz:Nat}(h:∀a,(enc a).length=sz){xs:List α}{i:Nat}{a:α}(d:xs[i]? =some a){o:Nat}(j:Nat)(w:o=i*sz+j){v:Value}(u:(enc a)[j]? =some v):(xs.flatMap enc)[o]? =some v:=by grind[tQ]
theorem kW{α:Type}{enc:α->List Value}{sz:Nat}(h:∀a,(enc a).length=sz){xs:List α}{i:Nat}{a:α}(d:xs[i]? =some a){o:Nat}(j m:Nat)(w:o=i*sz+j)(hm:j+m<=sz){vs:List Value}(u:((enc a).drop j).take m=vs):
    ((xs.flatMap enc).drop o).take m=vs:=by subst w u;have C:=m7 h d;grind[List.drop_take,List.drop_drop]
theorem sr{α:Type}{enc:α->List Value}{sz:Nat}(h:∀a,(enc a).length=sz){xs:List α}{i:Nat}{a a':α}(w:xs[i]? =some a){o:Nat}(j:Nat){vs:List Value}(C:o=i*sz+j)(hm:j+vs.length<=sz)(u:enc a'=dJ j vs (enc a)):
    dJ o vs (xs.flatMap enc)=(xs.set i a').flatMap enc:=by
 subst C;have O:=(List.getElem?_eq_some_iff.1 w).1;have E:xs=xs.take i++a::xs.drop (i+1):=(by grind[List.take_append_drop,Wy]);have D:xs.set i a'=xs.take i++a'::xs.drop (i+1):=cr
 have d:((xs.take i).flatMap enc).length=i*sz:=by grind[kp]
 rw[D];conv=>lhs;rw[E]
 simp only[List.flatMap_append,List.flatMap_cons,dJ,u];have H:((xs.take i).flatMap enc++(enc a++(xs.drop (i+1)).flatMap enc)).take (i*sz+j)=(xs.take i).flatMap enc++(enc a).take j:=(by rw[List.take_append,d,Nat.add_sub_cancel_left,List.take_of_length_le U,List.take_append_of_le_length (by rw[h];omega)]);have N:((xs.take i).flatMap enc++(enc a++(xs.drop (i+1)).flatMap enc)).drop (i*sz+j+vs.length)=(enc a).drop (j+vs.length)++(xs.drop (i+1)).flatMap enc:=(by rw[List.drop_append,d,VE U,List.nil_append,show i*sz+j+vs.length-i*sz=j+vs.length by omega,List.drop_append_of_le_length (by rw[h];omega)]);grind
end Go.QM
