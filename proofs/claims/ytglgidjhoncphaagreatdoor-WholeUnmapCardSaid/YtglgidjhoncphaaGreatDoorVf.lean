/- Proved here: contracts of functions of this program, under the premises that each theorem names. -/
import Derived.Laws.StructEq
import Derived.Test.YtglgidjhoncphaaGreatDoorVe
set_option linter.all false
set_option maxRecDepth 4000
set_option maxHeartbeats 4000000
open Nat renaming eq_of_beq_eq_true->Vd,beq->Wa
open Bool renaming and_eq_true->Vq
open BitVec renaming ofInt->Vy,toNat_ofInt->WW
open Int renaming eq_ofNat_of_zero_le->VU
open List renaming drop_eq_nil_of_le->V7,drop_eq_getElem_cons->W0
open Go.Instr renaming sureAddr->Wl,indexAt->Xl
open List.cons renaming inj->WV
namespace Go.QM
open Go
section
variable {r : Option Nat} {P : Program} {N : Nat} {ops : Array Oper} {l : List Oper} {Q : ff} {ag : Env} {aS : List Deferred} {A : ax} {K : Value → ax → Prop}
variable {d : Option Tmp} {ty : TypeId} {ps : String} {bh : Array Edge} {g : Option (Nat × Bool)}
variable {t t' : TypeId} {x y : Operand} {k : IntKind} {a b c : Int}
def ro(P:Program)(t:TypeId)(n E sz:Nat):Bool:=match P.underlying t with
  | some (.array m e)=>Wa m n&&Wa e E&&q0 P e sz
  | _=>false
theorem tB{n E sz:Nat}(h:ro P t n E sz=true)(w:World):(underlying t).run P w=.ok (.array n E) w/\(Go.sizeOf E).run P w=.ok sz w:=by
 unfold ro at h
 cases hu:P.underlying t with
 | none=>rw[hu]at h;cases h
 | some u=>
   rw[hu]at h
   cases u<;>first
     | (cases h;done)
     | (simp only[Vq]at h
        obtain⟨⟨d,C⟩,D⟩:=h
        have d:=Vd d
        have C:=Vd C
        subst d;subst C
        exact⟨by simp[underlying,hu],BL D w⟩)
variable{lM:Nat}
theorem uB(u:bc ag x=.pointer (some ⟨lM,0,none⟩)):bA P ag ⟨d,.nilCheck x,ty,ps,bh,g⟩ A (fy (some ⟨lM,0,none⟩) 0):=λw _=>by
  simp[execOp,u,fy]
theorem P7{o:Nat}(u:bc ag x=fy (some ⟨lM,0,none⟩) o):bA P ag ⟨d,.nilCheck x,ty,ps,bh,g⟩ A (fy (some ⟨lM,0,none⟩) o):=λw _=>by
  simp[execOp,u,fy]
theorem n4{s:TypeId}{f u:Nat}(o:Nat)(C:wn P s f o=true)(E:bc ag x=fy (some ⟨lM,0,none⟩) u):bA P ag ⟨d,.fieldAddr s x f,ty,ps,bh,g⟩ A (fy (some ⟨lM,0,none⟩) (u+o)):=λw D=>by
  have:=(cY (A:=A) (d:=d) (ty:=ty) (ps:=ps) (bh:=bh) (g:=g) o C (show bc ag x=.pointer (some ⟨lM,0+u,none⟩)by rw[E];rfl)) w D
  rw[this];simp[fy,Nat.add_assoc]
variable(n E sz:Nat)
theorem z1{u:Nat}{j:Int}(H:ro P t n E sz=true)(N:bc ag x=fy (some ⟨lM,0,none⟩) u)(O:bc ag y=.int k j)(C:0<=j)(D:j<n):
    bA P ag ⟨d,.indexAddr t x y,ty,ps,bh,g⟩ A (fy (some ⟨lM,0,none⟩) (u+j.toNat*sz)):=λw _=>by
  simp[execOp,Xl,Wl,N,O,asIntOf,tB H,C,D,h5,fy]
theorem lh{off:Nat}{j:Int}(D:ro P t n E sz=true)(H:bc ag x=.pointer (some ⟨lM,off,none⟩))(N:bc ag y=.int k j)(u:0<=j)(C:j<n):
    bA P ag ⟨d,.indexAddr t x y,ty,ps,bh,g⟩ A (.pointer (some ⟨lM,off+j.toNat*sz,none⟩)):=λw _=>by
  simp[execOp,Xl,Wl,H,N,asIntOf,tB D,u,C,h5]
theorem xJ{o:Nat}(C:ro P t n E sz=true)(D:bc ag x=fy (some ⟨lM,0,none⟩) o)(u:o=0):
    bA P ag ⟨d,.slice t x none none none,ty,ps,bh,g⟩ A (.slice (some ⟨lM,0,none⟩) n n):=λw _=>by
  subst u
  by_cases an:n=0<;>simp[execOp,Instr.sliceAt,Wl,Instr.sliceBounds,D,tB C,fy,an,h5]
theorem NV{vs ws:List Value}{j:Int}(D:ro P t n E sz=true)(he:qo P E sz=true)(H:bc ag x=.agg vs.toArray)(N:bc ag y=.int k j)(u:0<=j)(C:j<n)(hv:(vs.drop (j.toNat*sz)).take sz=ws):
    bA P ag ⟨d,.index t x y,ty,ps,bh,g⟩ A (.agg ws.toArray):=λw _=>by
  simp[execOp,Instr.index,H,N,asIntOf,tB D,u,C,part,E7 he]
  exact hv
theorem NW{vs:List Value}{v:Value}{j:Int}(D:ro P t n E sz=true)(he:mA P E=true)(H:bc ag x=.agg vs.toArray)(N:bc ag y=.int k j)(u:0<=j)(C:j<n)(hv:vs[j.toNat*sz]? =some v):
    bA P ag ⟨d,.index t x y,ty,ps,bh,g⟩ A v:=λw _=>by
  simp[execOp,Instr.index,H,N,asIntOf,tB D,u,C,part,uj he,hv]
theorem Sp{E sz n:Nat}{cs:List Value}(h:cs.length=n*sz)(an:n<=maxLen):aF (aj lM E cs) (a1 E sz (some ⟨lM,0,none⟩) n n cs):=
  h8 λd x=>⟨([],[]),⟨rfl,h,Nat.le_refl _,an,by simp[h]⟩,by simpa[aj]using x⟩
def oH(P:Program)(n:Nat):List Field->Nat->Bool
  | [],m=>Wa m n
  | f :: pK, m => (f.name != "_") && Nat.beq f.offset m && (match P.underlying f.type with | some (.int .i64) => true | _ => false) && oH P n pK (m + 1)
def qu(P:Program)(t:TypeId)(n:Nat):Bool:=match P.underlying t with
  | some (.struct pK)=>oH P n pK.toList 0&&!(P.stoodInHeld t)&&!(P.eqGuardType P.depth t)
  | _=>false
theorem D0{n:Nat}{d:Nat}(xs ys:List Int)(O:xs.length=n)(V:ys.length=n)(w:World):∀(C:List Field) (m:Nat),m<=n->oH P n C m=true->
    (Op.eqFields (d+1) (ints xs).toArray (ints ys).toArray C).run P w=.ok (decide (xs.drop m=ys.drop m)) w
  | [],m,_,h=>by
    have:=Vd h
    simp[Op.eqFields,V7,this,O,V]
  | f ::C,m,hm,h=>by
    simp only[oH,Vq]at h
    obtain⟨⟨⟨Z,E⟩,D⟩,N⟩:=h
    have E:=Vd E
    have hu:P.underlying f.type=some (.int .i64):=by
      cases hu:P.underlying f.type with
      | none=>rw[hu]at D;cases D
      | some u=>rw[hu]at D;cases u<;>first|(cases D;done)|(rename_i k;cases k<;>first|(cases D;done)|rfl)
    have ar:m<n:=by
      rcases Nat.lt_or_ge m n with h|h
      · exact h
      · exfalso
        have ag:∀(C:List Field) (m:Nat),n<m->oH P n C m=true->False:=by
          intro C
          induction C with
          | nil=>intro m hm h;have:=Vd h;omega
          | cons f C aq=>intro m hm h;simp only[oH,Vq]at h;exact aq _ U h.2
        exact ag C (m+1) U N
    have Q:xs.drop m=xs[m]::xs.drop (m+1):=W0 U
    have W:ys.drop m=ys[m]::ys.drop (m+1):=W0 U
    have fX:(part f.type (ints xs).toArray f.offset).run P w=.ok (.int .i64 xs[m]) w:=by
      have H:mA P f.type=true:=by simp[mA,hu]
      simp[part,uj H,E,ints,show m<xs.length by omega]
    have hj:(part f.type (ints ys).toArray f.offset).run P w=.ok (.int .i64 ys[m]) w:=by
      have H:mA P f.type=true:=by simp[mA,hu]
      simp[part,uj H,E,ints,show m<ys.length by omega]
    have an : f.name ≠ "_" := by simpa using Z
    simp only[Op.eqFields,an,ne_eq,not_false_eq_true,if_true,Sem.run_bind,fX,hj,Result.andThen_ok,run_equalIn_int w d f.type .i64 .i64 _ _ hu]
    by_cases he:xs[m]=ys[m]
    · rw[al (by simp[he]),D0 xs ys O V w C (m+1) U N]
      refine congrArg (λb=>Result.ok b w) (decide_eq_decide.2 ?_)
      rw[Q,W,he]
      exact⟨λh=>by rw[h],λh=>(WV h).2⟩
    · rw[aw (by simp[he]),Sem.run_pure]
      refine congrArg (λb=>Result.ok b w) (dk ?_).symm
      rw[Q,W]
      exact λh=>he (WV h).1
theorem zo{n:Nat}(h:qu P t n=true)(xs ys:List Int)(O:xs.length=n)(Q:ys.length=n)(w:World):
    (Op.equalIn 10000 t (.agg (ints xs).toArray) (.agg (ints ys).toArray)).run P w=.ok (decide (xs=ys)) w/\P.eqGuardType P.depth t=false:=by unfold qu at h;cases hu:P.underlying t with|none=>rw[hu]at h;cases h|some u=>rw[hu]at h;(cases u with|struct C=>simp only[Vq,Bool.not_eq_true']at h;obtain⟨⟨E,H⟩,N⟩:=h;(have D:P.fieldsOf t=C:=by simp[Program.fieldsOf,hu]);have:=D0 (P:=P) (d:=9998) xs ys O Q w C.toList 0 (Nat.zero_le _) E;refine⟨?_,N⟩;rw[run_equalIn_agg w 9999 t _ _ (by rw[D];exact hu) H,D,this];simp|_=>cases h)
theorem Mj{xs ys:List Int}(D:qu P t n=true)(E:bc ag x=.agg (ints xs).toArray)(H:bc ag y=.agg (ints ys).toArray)(an:xs.length=n)(hm:ys.length=n):
    bA P ag ⟨d,.binOp .eql t x y t',ty,ps,bh,g⟩ A (.bool (decide (xs=ys))):=λw _=>by
  obtain⟨u,C⟩:=zo D xs ys an hm w
  simp[execOp,E,H,run_eqGuard_agg w .eql t x y _ _ C,run_eql_struct w t,u]
theorem P9{xs ys:List Int}(D:qu P t n=true)(E:bc ag x=.agg (ints xs).toArray)(H:bc ag y=.agg (ints ys).toArray)(an:xs.length=n)(hm:ys.length=n):
    bA P ag ⟨d,.binOp .neq t x y t',ty,ps,bh,g⟩ A (.bool (decide (xs≠ys))):=λw _=>by
  obtain⟨u,C⟩:=zo D xs ys an hm w
  simp[execOp,E,H,run_eqGuard_agg w .neq t x y _ _ C,run_neq_struct w t,u]
theorem BA{E:IntKind}{n:Int}(C:bc ag x=.int k a)(D:bc ag y=.int E n)(H:0<=n)(u:k.wrap (a*2^min n.toNat k.bits)=c):
    bA P ag ⟨d,.binOp .shl t x y t',ty,ps,bh,g⟩ A (.int k c):=λw _=>by
  have:¬n<0:=U
  simp[execOp,C,D,eqGuard,binOp,Op.shift,this,u]
theorem A6(C:bc ag x=.int k a)(D:bc ag y=.int k b)(u:k.wrap (Vy k.bits a|||Vy k.bits b).toNat=c):
    bA P ag ⟨d,.binOp .or t x y t',ty,ps,bh,g⟩ A (.int k c):=λw _=>by
  simp[execOp,C,D,eqGuard,binOp,Op.intBits]
  simpa using u
theorem vK(C:bc ag x=.int k a)(D:bc ag y=.int k b)(u:k.wrap (Vy k.bits a&&&Vy k.bits b).toNat=c):
    bA P ag ⟨d,.binOp .and t x y t',ty,ps,bh,g⟩ A (.int k c):=λw _=>by
  simp[execOp,C,D,eqGuard,binOp,Op.intBits]
  simpa using u
theorem Sa(d:0<=a)(u:a<=16777215):IntKind.u32.wrap (a*2^min (8:Int).toNat IntKind.u32.bits)=a*256:=by
 have e:(2:Int)^min (8:Int).toNat IntKind.u32.bits=256:=am
 grind[pa]
theorem QA{q i:Int}(w:0<=q)(E:q<=16777215)(C:0<=i)(H:i<256):IntKind.u32.wrap (Vy IntKind.u32.bits (q*256)|||Vy IntKind.u32.bits i).toNat=q*256+i:=by have D:IntKind.u32.bits=32:=rfl;obtain⟨q,rfl⟩:=VU w;obtain⟨i,rfl⟩:=VU C;have e:(Vy IntKind.u32.bits ((q:Int)*256)|||Vy IntKind.u32.bits (i:Int)).toNat=q*256+i:=(by rw[BitVec.toNat_or,WW,WW,D];(have d:(((q:Int)*256) %((2^32:Nat):Int)).toNat=2^8*q:=by omega);(have u:((i:Int) %((2^32:Nat):Int)).toNat=i:=by omega);rw[d,u,<-Nat.two_pow_add_eq_or_of_lt U];omega);grind[pa]
theorem C1{z:Int}(w:0<=z)(D:z<=4294967295):IntKind.u32.wrap (Vy IntKind.u32.bits z&&&Vy IntKind.u32.bits 255).toNat=z %256:=by have C:IntKind.u32.bits=32:=rfl;obtain⟨z,rfl⟩:=VU w;have e:(Vy IntKind.u32.bits (z:Int)&&&Vy IntKind.u32.bits 255).toNat=z %256:=(by rw[BitVec.toNat_and,WW,WW,C];(have d:((z:Int) %((2^32:Nat):Int)).toNat=z:=by omega);(have u:((255:Int) %((2^32:Nat):Int)).toNat=2^8-1:=by decide);rw[d,u,Nat.and_two_pow_sub_one_eq_mod]);grind[pa]
end
theorem eV{P:Program}{d:Env}{A:ax}{t a n b off E:Nat}{u:Nat×Nat}{l vs:List Value}(H:qo P t n=true)(C:d a=.pointer (some ⟨b,off,none⟩))[h:fT A b (.cells l.toArray E u)](hv:(l.drop off).take n=vs)(an:vs.length=n):
    ∃b off,d a=.pointer (some ⟨b,off,none⟩)/\∀w,sat w A->(loadVar t ⟨b,off,none⟩).run P w=.ok (.agg vs.toArray) w:=
  ⟨b,off,C,λ_ D=>Aq H (h.rd.sat D) hv an⟩
theorem G6{P:Program}{d:Env}{A:ax}{t a b off E:Nat}{u:Nat×Nat}{l:List Value}{v:Value}(H:mA P t=true)(C:d a=.pointer (some ⟨b,off,none⟩))[h:fT A b (.cells l.toArray E u)](hv:l[off]? =some v):
    ∃b off,d a=.pointer (some ⟨b,off,none⟩)/\∀w,sat w A->(loadVar t ⟨b,off,none⟩).run P w=.ok v w:=
  ⟨b,off,C,λ_ D=>Ar H (h.rd.sat D) hv⟩
theorem lV{α:Type}{enc:α->List Value}{sz:Nat}(h:∀a,(enc a).length=sz){xs:List α}{i:Nat}{a:α}(d:xs[i]? =some a){o:Nat}(j:Nat)(w:o=i*sz+j){v:Value}(u:(enc a)[j]? =some v):(xs.flatMap enc)[o]? =some v:=by grind[t7]
theorem kh{α:Type}{enc:α->List Value}{sz:Nat}(h:∀a,(enc a).length=sz){xs:List α}{i:Nat}{a:α}(d:xs[i]? =some a){o:Nat}(j m:Nat)(w:o=i*sz+j)(hm:j+m<=sz){vs:List Value}(u:((enc a).drop j).take m=vs):
    ((xs.flatMap enc).drop o).take m=vs:=by subst w u;have C:=nm h d;grind[List.drop_take,List.drop_drop]
theorem sB{α:Type}{enc:α->List Value}{sz:Nat}(h:∀a,(enc a).length=sz){xs:List α}{i:Nat}{a a':α}(w:xs[i]? =some a){o:Nat}(j:Nat){vs:List Value}(C:o=i*sz+j)(hm:j+vs.length<=sz)(u:enc a'=dI j vs (enc a)):
    dI o vs (xs.flatMap enc)=(xs.set i a').flatMap enc:=by
 subst C;have O:=(List.getElem?_eq_some_iff.1 w).1;have E:xs=xs.take i++a::xs.drop (i+1):=(by grind[List.take_append_drop,W0]);have D:xs.set i a'=xs.take i++a'::xs.drop (i+1):=cp
 have d:((xs.take i).flatMap enc).length=i*sz:=by grind[kE]
 rw[D];conv=>lhs;rw[E]
 simp only[List.flatMap_append,List.flatMap_cons,dI,u];have H:((xs.take i).flatMap enc++(enc a++(xs.drop (i+1)).flatMap enc)).take (i*sz+j)=(xs.take i).flatMap enc++(enc a).take j:=(by rw[List.take_append,d,Nat.add_sub_cancel_left,List.take_of_length_le U,List.take_append_of_le_length (by rw[h];omega)]);have N:((xs.take i).flatMap enc++(enc a++(xs.drop (i+1)).flatMap enc)).drop (i*sz+j+vs.length)=(enc a).drop (j+vs.length)++(xs.drop (i+1)).flatMap enc:=(by rw[List.drop_append,d,V7 U,List.nil_append,show i*sz+j+vs.length-i*sz=j+vs.length by omega,List.drop_append_of_le_length (by rw[h];omega)]);grind
end Go.QM
