/- Proved here: contracts of functions of this program, under the premises that each theorem names. -/
import Derived.Test.YtglgidjhoncphaaGreatDoorVq
set_option linter.all false
set_option maxRecDepth 4000
set_option maxHeartbeats 4000000
open List renaming length_append->mp,getElem?_eq_getElem->UO,mem_singleton->UP,mem_append->UQ,mem_of_getElem?->US,length_singleton->UY,not_mem_nil->UZ,mem_cons->U0,mem_map->U3,take_add_one->U5,nodup_cons->U6,mem_filter->U8,length_cons->U9,flatMap_cons->Vf,nodup_append->Vg,filter_eq_self->Vk,map_cons->Vm,getElem?_set_self->Vz,mem_flatMap->VA,nodup_nil->VD,length_map->VI,append_nil->VK,nil_append->VR,perm_append_singleton->VX,map_append->V2,length_take->V5,filter_cons_of_neg->V6,filter_sublist->Wg,find?_eq_none->Wn,drop_drop->Wr,length_nil->WA,filter_filter->WC,map_nil->WH,filter_eq_nil_iff->WM,pairwise_map->WO,cons_append->Xa,find?_cons->Xr,filter_append->XQ,mem_zipIdx_iff_getElem?->XX,mem_of_find?_eq_some->Ye,append_eq_append_iff->Yf
open Go.QM.ab renaming aA->UR,bg->Wd
open Decidable renaming of_not_not->UT,by_contra->VB
open Nat renaming pow_le_pow_right->UV,le_refl->UW,le_trans->We
open Go.QM.aT renaming known->Ve
open Go.Value renaming slice->Vt,pointer->XV
open Go.Proofs.Tryz renaming prog->Vv
open Go.QM.aF renaming refl->Vx
open Int renaming toNat_of_nonneg->VM
open List.Perm renaming refl->Ws
open List.cons renaming inj->WV
open Ne renaming symm->W5
open Go.QM.b4 renaming i->XT
namespace Go.Proofs.YtglgidjhoncphaaGreatDoor
open Go Go.QM
def fc(aI:Nat->Nat->Nat)(i s v:Nat):Nat->Nat->Nat:=λj r=>if j=i/\r=s then v else aI j r
theorem ij(aI:Nat->Nat->Nat)(i s v:Nat):fc aI i s v i s=v:=aw ⟨rfl,rfl⟩
variable{i:Nat}
theorem ls{aI:Nat->Nat->Nat}{s v j r:Nat}(h:j≠i\/r≠s):fc aI i s v j r=aI j r:=al λk=>h.elim (λh=>h k.1) λh=>h k.2
theorem kU{aI:Nat->Nat->Nat}{s v r:Nat}(h:r≠s):fc aI i s v i r=aI i r:=ls (.inr h)
theorem IF{top:Nat}{S:cL}{c:Nat}{y:Nat×Nat×List cc}(u:c∈cls)(g:iW top S c y)(d:Nat):gy (960/cb d) (dF S.C c y.2.2 d)=gy (960/cb d) (S.C d)+if d=c then 1 else 0:=by by_cases e:d=c;subst e;rw[aw rfl,jD];exact g.m0.used (by have:=Dv u;omega);rw[al e,jc _ _ e,Nat.add_zero]
theorem IE{top:Nat}{S:cL}(u:dd top S){c aD:Nat}{L':List cc}(w:c∈cls)(g:j1 top S c aD i L')(d:Nat):gy (960/cb d) (dF S.C c L' d)+(if d=c then 1 else 0)=gy (960/cb d) (S.C d):=by by_cases e:d=c;subst e;rw[aw rfl,jD];exact g.nq.used (u.ok d w).inv;rw[al e,jc _ _ e,Nat.add_zero]
theorem ir:(6:Nat)∈cls:=by decide
theorem c6.jU{S:cL}{c a:Nat}(d:c∈cls)(h:c6 S c a):e3 (cb c) (S.C c) a:=by rcases h with⟨_,k⟩|⟨rfl,_⟩;all_goals trivial
theorem kP{m:Nat->Nat}{o x:Nat}{L:List Nat}(h:x<o\/o+8*L.length<=x):dv m o L x=m x:=by rw[dv,j6,al U]
theorem vl{m:Nat->Nat}{o n x:Nat}(h:x<o\/o+n<=x):ho m o n x=m x:=by rw[ho,al U]
def bQ.lay(A:bQ)(i s w:Nat)(Q:List aB.bW):bQ:={A with Q:=Q,aI:=fc A.aI i s w,np:=A.np+2}
theorem Ln{A:bQ}{s w:Nat}(d:i<256)(hs:s<256)(C:A.aI i s=0)(hw:w≠0):ni (fc A.aI i s w)=ni A.aI+1:=by
 have:=zb (aI:=A.aI) (nk:=fc A.aI i s w) d hs λj r h=>ls h;have u:bb (fc A.aI i s w i s)=1:=by rw[ij];exact al hw
 grind[bb]
theorem Lm{A:bQ}{s:Nat}(u:i<256)(hs:s<256)(d:A.aI i s≠0):ni (fc A.aI i s 0)+1=ni A.aI:=by
 have:=zb (aI:=A.aI) (nk:=fc A.aI i s 0) u hs λj r h=>ls h;have w:bb (fc A.aI i s 0 i s)=0:=by grind[bb,ij]
 have dh:bb (A.aI i s)=1:=al d;omega
theorem cB.lt{l:List av.bY}(d:av.dM l){s:Int}{o:av.fa}(h:cB l i s o):i<256:=by obtain⟨g,h⟩:=h;exact d.lt h
section
variable {top : Nat} {A : bQ} {S ci dD a8 : cL} {i a s w : Nat} {f : Int}
theorem ch.node(h:ch top A S)(w:cB A.l i 1 (bt 2 a f)){y:Nat×Nat×List cc}(g:iW top S 6 y)(e:ci=kj S f 6 (some y)):
 ga top S ci hX hX/\c6 ci 6 (addr 6 y)/\¬c6 S 6 (addr 6 y)/\gf top ci a/\(∀j,j<16->bp ci.m a j=bp S.m a j)/\∀r,r<256->d6 ci.m a r=A.aI i r/\dP ci.m a r=dP S.m a r:=by obtain⟨g1,g2⟩:=wr (a8:=ci) h.P ir g rO rO (λo C=>by rw[e];exact vl C);obtain⟨t1,t2⟩:=h.hn i a f w;obtain⟨bN,D,u⟩:=t1.mY g1 (λh=>h) λ_ _ _ h=>h;exact⟨g1,g2,λk=>g.uD h.P ir k ⟨rfl,rfl⟩,bN,D,λr d=>⟨(u r d).1.trans (t2 r d).1,(u r d).2⟩⟩
theorem ch.lay(aY:av.dM A.l)(h:ch top A S)(N:cB A.l i 1 (bt 2 a f))(hs:s<256)(aq:A.aI i s=0)(hw:w≠0){y:Nat×Nat×List cc}(g:iW top S 6 y)(e:ci=kj S f 6 (some y)){Y X:Nat->Nat->Prop}(g2:ga top ci a8 Y X)(ax:a8.C 6=ci.C 6)
 (W:gf top a8 a) (ar:d6 a8.m a s=w) (aN:dP a8.m a s=addr 6 y) (aB:∀r,r<256->r≠s->d6 a8.m a r=d6 ci.m a r/\dP a8.m a r=dP ci.m a r) (aV:(df a8.C a8.Fr).length<=(df ci.C ci.Fr).length+1)
 (aG:∀c b,X c b->(c=2/\b=a)\/(c=7/\∃j,j<16/\bp S.m a j≠0/\bp S.m a j=b)) (ag:∀c b,¬Y c b) (aA:∀j,j<16->bp a8.m a j≠0->(bp S.m a j≠0/\bp a8.m a j=bp S.m a j)\/¬c6 S 7 (bp a8.m a j)):ch top (A.lay i s w a8.Q) ⟨a8.Q,A.bz,a8.C,a8.Fr,a8.m⟩:=by
 obtain⟨g1,bb,bo,t1,t2,t3⟩:=h.node N g e;have an:c6 a8 6 (addr 6 y):=by grind[c6]
 have a0:(df a8.C a8.Fr).length<=A.np+2:=(by have E:=g.len;(have d:ci.C=dF S.C 6 y.2.2/\ci.Fr=S.Fr:=by rw[e];exact⟨rfl,rfl⟩);rw[d.1,d.2]at aV;have:=h.fY;omega);have V:∀r,r<256->r≠s->dP a8.m a r=dP S.m a r:=b2
 refine h.BM (Y:=Y) (X:=X) ⟨g2.P.mem rfl rfl,λc b k an=>g2.p c b (g1.p c b k λh=>h) an,λc b k an o E d=>(g2.m c b (g1.p c b k λh=>h) an o E d).trans (g1.m c b k (λh=>h) o E d),g2.p8⟩ N rfl rfl rfl ⟨rfl,rfl⟩ (λj aS=>funext λr=>ls (.inl aS)) (λc b a2=>(aG c b a2).imp_right .inl) (λc b a3=>absurd a3 (ag c b)) ⟨W.tk,W.fF,W.bi,W.ne,W.J⟩ (λr H=>?_) (λr u H hu E d he=>?_) aA ?_ a0;by_cases D:r=s;subst D;dsimp only[bQ.lay];rw[ij];exact⟨ar,λ_=>⟨by rw[aN];exact an,.inr (by rw[aN];exact bo)⟩⟩;dsimp only[bQ.lay];rw[kU D];refine⟨(aB r H D).1.trans (t3 r H).1,λZ=>?_⟩;rw[V r H D];exact⟨g2.p _ _ (g1.p _ _ (((h.hn i a f N).2 r H).2 Z) λh=>h) (ag _ _),.inl ⟨Z,rfl⟩⟩;dsimp only[bQ.lay]at E d he;by_cases O:r=s<;>by_cases D:u=s;omega;subst O;rw[kU D]at d;rw[aN,V u hu D]at he;exact absurd (((h.hn i a f N).2 u hu).2 d) (by rw[<-he];exact bo);subst D;rw[kU O]at E;rw[aN,V r H O]at he;exact absurd (((h.hn i a f N).2 r H).2 E) (by rw[he];exact bo);rw[kU O]at E;rw[kU D]at d;rw[V r H O,V u hu D]at he;exact(h.nB i i a a f f r u N N H hu E d he).2;dsimp only[bQ.lay];rw[Ln (N.lt aY) hs aq hw,<-h.qM,ax,e];exact IF ir g 6
theorem ch.Ag(W:av.dM A.l)(h:ch top A S)(E:cB A.l i 1 (bt 2 a f))(hs:s<256)(O:A.aI i s=0)(hw:w≠0)(Z:w<2^64){y:Nat×Nat×List cc}(g:iW top S 6 y)(e:ci=kj S f 6 (some y))(hr:bp ci.m a (s/16)≠0)
 (d:a8=⟨ci.Q,ci.bz,ci.C,ci.Fr,dv ci.m (bp ci.m a (s/16)+s %16*16) [w,addr 6 y]⟩):ch top (A.lay i s w (aB.c9 A.Q f 48).1) a8:=by
 obtain⟨g1,bb,bo,t1,t2,t3⟩:=h.node E g e;have u:s/16<16:=U
 have aV:=t1.rM g1.P u hr;have a0:2^top<=128:=UV (n:=2) am h.P.f8.2;have aY:=c6.bd g1.P bb;have ax:cb 7=256:=rfl;obtain⟨bN,ag,an,aq,ar⟩:=t1.s4 g1.P hs hr Z (b:=addr 6 y) U (λk=>absurd k hw) (.inl hw) (a8:=a8) (by rw[d]) (by rw[d]);have V:c6 ci 7 (bp ci.m a (s/16)):=.inl ⟨fL,t1.fF _ u hr⟩;have g2:ga top ci a8 hX (fw 7 (bp ci.m a (s/16))):=oK g1.P V (by rw[d]) (by rw[d]) λo D=>(by rw[d];exact kP (by(have aA:bG 7=256:=rfl);simp only[U9,WA];omega));have aS:=h.lay W E hs O hw g e g2 (by rw[d]) bN an aq ar (by rw[d];exact Nat.le_succ _) (λc b N=>.inr ⟨N.1,s/16,u,by rw[<-t2 _ u];exact hr,by rw[N.2,t2 _ u]⟩) (λ_ _ h=>h) λj H D=>.inl (by rw[ag j H,t2 j H]at D⊢;exact⟨D,rfl⟩);have aG:a8.Q=(aB.c9 A.Q f 48).1/\a8.bz=A.bz:=(by rw[d,e];exact⟨by rw[<-h.Q.1];rfl,h.Q.2⟩);simp_all
theorem ch.Af(an:av.dM A.l)(h:ch top A S)(V:cB A.l i 1 (bt 2 a f))(hs:s<256)(Z:A.aI i s=0)(hw:w≠0)(aq:w<2^64){y z:Nat×Nat×List cc}(g:iW top S 6 y)(e:ci=kj S f 6 (some y))(hr:bp ci.m a (s/16)=0)(E:iW top ci 7 z)
 (d:a8=uX ci f a s w (addr 6 y) (some z)):ch top (A.lay i s w (aB.c9 (aB.c9 A.Q f 48).1 f 256).1) a8:=by
 obtain⟨g1,bb,bo,t1,t2,t3⟩:=h.node V g e;have a7:s/16<16:=U
 have a9:2^top<=128:=UV (n:=2) am h.P.f8.2;have a5:=c6.bd g1.P bb;have aV:cb 7=256:=rfl;obtain⟨bN,ar,bc,ax,aA,aG,be⟩:=t1.R5 g1.P hs hr aq (b:=addr 6 y) U hw E (a8:=a8) (by rw[d];rfl) (by rw[d];rfl);obtain⟨u,hf⟩:=wr (a8:=⟨a8.Q,a8.bz,a8.C,a8.Fr,dv (ho ci.m (addr 7 z) 256) (addr 7 z+s %16*16) [w,addr 6 y]⟩) g1.P fL E (by rw[d];rfl) (by rw[d];rfl) λo O=>(by grind[kP,vl]);have H:c6 ci 2 a:=.inl ⟨c2,t1.tk⟩;have a3:=c6.apart u.P (u.p _ _ H λh=>h) hf (.inl (show(2:Nat)≠7 by decide));have aY:bG 2=128:=rfl;have aS:bG 7=256:=rfl;have g2:ga top ci a8 (λc b=>hX c b\/hX c b) (λc b=>hX c b\/fw 2 a c b):=u.trans (oK u.P (u.p _ _ H λh=>h) rfl rfl λo O=>by rw[d];dsimp only[uX];by_cases a0:addr 7 z+s %16*16<=o/\o<addr 7 z+s %16*16+16;rw[dv,j6,aw jv,dv,j6,aw jv];rw[kP jv,kP jv,kP jv]);have ag:a8.C 6=ci.C 6:=by rw[d];exact jc ci.C z.2.2 (show(6:Nat)≠7 by decide)
 have a2:=h.lay an V hs Z hw g e g2 ag bN ax aA aG (by rw[d];exact E.len) (λc b D=>.inl (by rcases D with D|D;exact D.elim;exact D)) (λ_ _ h=>h.elim id id) λj a4 O=>(by by_cases W:j=s/16;subst W;rw[ar];exact .inr λk=>E.uD g1.P fL (g1.p _ _ k λh=>h) ⟨rfl,rfl⟩;simp_all);have N:a8.Q=(aB.c9 (aB.c9 A.Q f 48).1 f 256).1/\a8.bz=A.bz:=(by rw[d,e];exact⟨by rw[<-h.Q.1];rfl,h.Q.2⟩);rw[<-N.1];have:a8=⟨a8.Q,A.bz,a8.C,a8.Fr,a8.m⟩:=by rw[<-N.2]
 grind
end
end Go.Proofs.YtglgidjhoncphaaGreatDoor
namespace Go.Proofs.YtglgidjhoncphaaGreatDoor
open Go Go.QM
variable [dK]
def bQ.bare(A:bQ)(i s:Nat)(Q:List aB.bW):bQ:={A with Q:=Q,aI:=fc A.aI i s 0}
def bQ.set(A:bQ)(i s w:Nat):bQ:={A with aI:=fc A.aI i s w}
section
variable {top : Nat} {A : bQ} {S dD a8 : cL} {i a s w : Nat} {f : Int}
theorem ch.bare(a0:av.dM A.l)(h:ch top A S)(E:cB A.l i 1 (bt 2 a f))(hs:s<256)(Z:A.aI i s≠0){Y X:Nat->Nat->Prop}(g:ga top S dD Y X)(a4:∀c b,X c b->(c=2/\b=a)\/(c=7/\∃j,j<16/\bp S.m a j≠0/\bp S.m a j=b))(aV:∀c b,Y c b->c=7)
 (aS:gf top dD a) (a2:d6 dD.m a s=0) (ag:∀r,r<256->r≠s->d6 dD.m a r=d6 S.m a r/\(d6 S.m a r≠0->dP dD.m a r=dP S.m a r)) (aG:dD.C 6=S.C 6) (a5:(df dD.C dD.Fr).length<=(df S.C S.Fr).length) (a3:∀j,j<16->bp dD.m a j≠0->bp dD.m a j=bp S.m a j)
 {aD i0:Nat} {L':List cc} (aW:j1 top dD 6 aD i0 L') (aY:dP S.m a s=aD*1024+64+i0*48) (Q:List aB.bW):ch top (A.bare i s Q) ⟨Q,A.bz,dF dD.C 6 L',dD.Fr,dD.m⟩:=by
 obtain⟨t1,t2⟩:=h.hn i a f E;have g2:ga top dD ⟨Q,A.bz,dF dD.C 6 L',dD.Fr,dD.m⟩ (fw 6 (dP S.m a s)) (fw 6 (dP S.m a s)):=wq g.P ir aW aY rfl rfl rfl;obtain⟨bN,a7,a8⟩:=aS.mY g2 (λh=>absurd h.1 am) λ_ _ _ h=>absurd h.1 am;have W:∀r,r<256->r≠s->A.aI i r≠0->dP dD.m a r=dP S.m a r/\c6 S 6 (dP S.m a r)/\dP S.m a r≠dP S.m a s:=λr d aq D=>(by refine⟨(ag r d aq).2 (by rw[(t2 r d).1];exact D),(t2 r d).2 D,λe=>aq (h.nB i i a a f f r s E E d hs D Z e).2⟩);refine h.BM (g.trans g2) E rfl rfl rfl ⟨rfl,rfl⟩ (λj an=>funext λr=>ls (.inl an)) (λc b ar=>?_) (λc b w=>?_) bN (λr d=>?_) (λr u d hu O V he=>?_) (λj an D=>?_) ?_ ?_;·rcases ar with ar|⟨rfl,rfl⟩;all_goals grind
 rcases w with w|w;grind;have:=w.1;omega;dsimp only[bQ.bare];by_cases e:r=s;grind[ij];rw[kU e];refine⟨(ag r d e).1.trans (t2 r d).1,λD=>?_⟩;obtain⟨H,N,ax⟩:=W r d e D;rw[H];exact⟨g2.p _ _ (g.p _ _ N λw=>absurd (aV _ _ w) am) λw=>ax w.2,.inl ⟨D,rfl⟩⟩;dsimp only[bQ.bare]at O V he;have H:r≠s:=by grind[ij]
 have N:u≠s:=by grind[ij]
 rw[kU H]at O;rw[kU N]at V;rw[(W r d H O).1,(W u hu N V).1]at he;exact(h.nB i i a a f f r u E E d hu O V he).2;grind;dsimp only[bQ.bare];have aA:=IE g.P ir aW 6;rw[aw rfl,aG,h.qM,<-Lm (E.lt a0) hs Z]at aA;omega;dsimp only[bQ.bare];have:=aW.len;have:=h.fY;omega
theorem ch.fF(h:ch top A S)(u:cB A.l i 1 (bt 2 a f))(hs:s<256)(d:A.aI i s≠0):bp S.m a (s/16)≠0:=λe=>d (by rw[<-((h.hn i a f u).2 s hs).1,d6,aw e])
def l8(A:bQ)(i s:Nat):Prop:=∃r,r<256/\r/16=s/16/\r≠s/\A.aI i r≠0
theorem ch.row(h:ch top A S)(w:cB A.l i 1 (bt 2 a f))(hs:s<256)(D:A.aI i s≠0):l8 A i s↔∃j,j<16/\j≠s %16/\cO S.m (bp S.m a (s/16)+j*16)≠0:=by have C:=h.fF w hs D;obtain⟨_,t2⟩:=h.hn i a f w;constructor;rintro⟨r,H,d,E,u⟩;refine⟨r %16,by omega,by omega,?_⟩;rw[<-(t2 r H).1,d6,d,al C]at u;exact u;rintro⟨j,N,d,E⟩;refine⟨s/16*16+j,by omega,by omega,by omega,?_⟩;rw[<-(t2 _ U).1,d6,show(s/16*16+j)/16=s/16 by omega,al C,show(s/16*16+j) %16=j by omega];trivial
theorem ch.Hg(h:ch top A S)(E:cB A.l i 1 (bt 2 a f))(hs:s<256)(C:A.aI i s=0):bp S.m a (s/16)≠0↔l8 A i s:=by
 obtain⟨t1,t2⟩:=h.hn i a f E;constructor;intro w;obtain⟨j,N,d⟩:=t1.ne _ U w;have e:d6 S.m a (s/16*16+j)≠0:=by rw[d6,show(s/16*16+j)/16=s/16 by omega,al w,show(s/16*16+j) %16=j by omega];exact d
 rw[(t2 _ U).1]at e;exact⟨_,by omega,by omega,λu=>e (by rw[u];exact C),e⟩;rintro⟨r,H,d,u,D⟩ e;rw[<-(t2 r H).1,d6,d,aw e]at D;trivial
theorem ch.s4(aA:av.dM A.l)(h:ch top A S)(D:cB A.l i 1 (bt 2 a f))(hs:s<256)(V:A.aI i s≠0)(hw:w≠0)(aB:w<2^64)(d:a8=⟨S.Q,S.bz,S.C,S.Fr,dv S.m (bp S.m a (s/16)+s %16*16) [w,dP S.m a s]⟩):ch top (A.set i s w) a8:=by
 obtain⟨t1,t2⟩:=h.hn i a f D;have N:=h.fF D hs V;have W:s/16<16:=U
 have aV:=t1.rM h.P W N;have a0:2^top<=128:=UV (n:=2) am h.P.f8.2;have aY:=c6.bd h.P ((t2 s hs).2 V);obtain⟨bN,a2,a3,a4,a5⟩:=t1.s4 h.P hs N aB (b:=dP S.m a s) U (λk=>absurd k hw) (.inl hw) (a8:=a8) (by rw[d]) (by rw[d]);have ax:c6 S 7 (bp S.m a (s/16)):=.inl ⟨fL,t1.fF _ W N⟩;have g2:ga top S a8 hX (fw 7 (bp S.m a (s/16))):=oK h.P ax (by rw[d]) (by rw[d]) λo H=>(by rw[d];exact kP (by(have aS:bG 7=256:=rfl);simp only[U9,WA];omega));have aN:∀r,r<256->dP a8.m a r=dP S.m a r:=λr E=>cp;have O:∀r,A.aI i r≠0↔(A.set i s w).aI i r≠0:=λr=>(by dsimp only[bQ.set];grind[ij,kU]);refine h.BM g2 D rfl rfl rfl (by rw[d];exact h.Q) (λj ag=>funext λr=>ls (.inl ag)) (λc b an=>.inr (.inl ⟨an.1,s/16,W,N,an.2.symm⟩)) (λc b aG=>aG.elim) bN (λr E=>⟨?_,λH=>?_⟩) (λr u E hu aq ar he=>?_) (λj ag H=>.inl ?_) ?_ (by rw[d];exact h.fY);dsimp only[bQ.set];grind[ij,kU];rw[aN r E];exact⟨g2.p _ _ ((t2 r E).2 ((O r).2 H)) λh=>h,.inl ⟨(O r).2 H,rfl⟩⟩;rw[aN r E,aN u hu]at he;exact(h.nB i i a a f f r u D D E hu ((O r).2 aq) ((O u).2 ar) he).2;simp_all;have Z:=zb (aI:=A.aI) (nk:=(A.set i s w).aI) (D.lt aA) hs λj r h=>ls h;dsimp only[bQ.set]at Z⊢;rw[ij,bb,bb,al V,al hw]at Z;rw[d];exact h.qM.trans U
theorem ch.yM(W:av.dM A.l)(h:ch top A S)(d:cB A.l i 1 (bt 2 a f))(hs:s<256)(u:A.aI i s≠0)(hr:l8 A i s)(e:dD=⟨S.Q,S.bz,S.C,S.Fr,dv S.m (bp S.m a (s/16)+s %16*16) [0,0]⟩){aD i0:Nat}{L':List cc}(aW:j1 top dD 6 aD i0 L')(O:dP S.m a s=aD*1024+64+i0*48)(Q:List aB.bW):
 ch top (A.bare i s Q) ⟨Q,A.bz,dF dD.C 6 L',dD.Fr,dD.m⟩:=by
 obtain⟨t1,t2⟩:=h.hn i a f d;have w:=h.fF d hs u;have E:s/16<16:=U
 obtain⟨bN,ag,an,ax,N⟩:=t1.s4 h.P hs w (a:=0) (b:=0) am am (λ_=>rfl) (.inr ((h.row d hs u).1 hr)) (a8:=dD) jP jP;have g:ga top S dD hX (fw 7 (bp S.m a (s/16))):=oK h.P (h.leaf d E w) jP jP λo ar=>(by rw[e];exact kP (by(have aq:bG 7=256:=rfl);simp only[U9,WA];omega));exact h.bare W d hs u g (λc b H=>.inr ⟨H.1,s/16,E,w,H.2.symm⟩) (λc b Z=>Z.elim) bN an (λr hr D=>⟨(N r hr D).1,λ_=>(N r hr D).2⟩) jP (by rw[e];exact UW _) (λj V _=>ag j V) aW O Q
theorem ch.yL(ax:av.dM A.l)(h:ch top A S)(w:cB A.l i 1 (bt 2 a f))(hs:s<256)(H:A.aI i s≠0)(hr:¬l8 A i s){Z i7:Nat}{E:List cc}(g7:j1 top S 7 Z i7 E)(W:bp S.m a (s/16)=Z*1024+64+i7*256){ag:List aB.bW}
 (e:dD=⟨ag,S.bz,dF S.C 7 E,S.Fr,dv (dv S.m (bp S.m a (s/16)+s %16*16) [0,0]) (a+s/16*8) [0]⟩) {aD i0:Nat} {L':List cc} (aW:j1 top dD 6 aD i0 L') (aq:dP S.m a s=aD*1024+64+i0*48) (Q:List aB.bW):
 ch top (A.bare i s Q) ⟨Q,A.bz,dF dD.C 6 L',dD.Fr,dD.m⟩:=by
 obtain⟨t1,t2⟩:=h.hn i a f w;have D:=h.fF w hs H;have V:s/16<16:=U
 have aA:∀j,j<16->j≠s %16->cO S.m (bp S.m a (s/16)+j*16)=0:=λj O ar=>VB λbK=>hr ((h.row w hs H).2 ⟨j,O,ar,bK⟩);obtain⟨bN,aG,aS,aV,aY⟩:=t1.K7 h.P hs D aA W g7 (a8:=dD) jP jP;have an:c6 S 2 a:=.inl ⟨c2,t1.tk⟩;have a2:bG 7=256:=rfl;have a0:bG 2=128:=rfl;have bk:ga top S ⟨S.Q,S.bz,S.C,S.Fr,dv S.m (bp S.m a (s/16)+s %16*16) [0,0]⟩ hX (fw 7 (bp S.m a (s/16))):=oK h.P (h.leaf w V D) rfl rfl λo N=>kP jv;have hf:ga top _ ⟨S.Q,S.bz,S.C,S.Fr,dD.m⟩ hX (fw 2 a):=oK (a8:=⟨S.Q,S.bz,S.C,S.Fr,dD.m⟩) bk.P (bk.p 2 a an λh=>h) rfl rfl λo N=>(by rw[e];exact kP jv);have gc:ga top _ dD (fw 7 (bp S.m a (s/16))) (fw 7 (bp S.m a (s/16))):=wq hf.P fL (g7.rU rfl rfl) W jP jP rfl;refine h.bare ax w hs H ((bk.trans hf).trans gc) (λc b d=>?_) (λc b u=>?_) bN aV aY (by rw[e];exact jc S.C E (show(6:Nat)≠7 by decide)) (by rw[e];exact g7.len) (λj O N=>aS j O λe=>N (by rw[e];exact aG)) aW aq Q;rcases d with(d|d)|d;exact .inr ⟨d.1,s/16,V,D,d.2.symm⟩;exact .inl d;exact .inr ⟨d.1,s/16,V,D,d.2.symm⟩;rcases u with(u|u)|u;exact u.elim;exact u.elim;exact u.1
end
def dG(h r:Nat):Nat:=h+1+r*4294967296
theorem jS{h r:Nat}(d:h<4294967295)(hr:r<=15):dG h r<2^64/\dG h r≠0:=by rw[dG];omega
structure jF(Q vy:List aB.bW)(bz f d:Int):Prop where
  d8:aB.eM vy bz
  has:∀x,aB.db vy x↔aB.db Q x
  fQ:∀x,aB.db Q x->aB.gg vy x=aB.gg Q x+if x=f then d else 0
  par:∀x,aB.lk vy x=aB.lk Q x
theorem GF{Q:List aB.bW}(h:aB.iB Q)(f c x:Int):aB.lk (aB.fN Q f c) x=aB.lk Q x:=by
 by_cases d:aB.db Q x;obtain⟨t,u,rfl⟩:=d;rw[(aB.ix h u).2.2.2];have hm:(if t.id=f then⟨t.id,t.par,t.lim,c⟩else t:aB.bW)∈aB.fN Q f c:=by grind[aB.s5]
 have:=(aB.ix (Bz h f c) hm).2.2.2;grind;rw[(aB.IG d).2.2.2,(aB.IG λh=>d (aB.qX.1 h)).2.2.2]
variable{f bz:Int}
theorem jF.hJ{Q:List aB.bW}{n:Int}(h:aB.eM Q bz)(u:(aB.c9 Q f n).2=0):jF Q (aB.c9 Q f n).1 bz f n:=by obtain⟨C,D,E,d⟩:=yY u;refine⟨h.K2 f n,λx=>by rw[d];exact aB.qX,λx w=>?_,λx=>by rw[d];exact GF h.bi _ _ _⟩;rw[d,yZ h.bi w];grind
theorem jF.rU{Q:List aB.bW}{n:Int}(h:aB.eM Q bz)(u:aB.db Q f)(w:0<=n)(C:n<=aB.gg Q f):(aB.ek Q f n).2=0/\jF Q (aB.ek Q f n).1 bz f (-n):=by have d:=G8 u w C;refine⟨by rw[d],h.Rg f n,λx=>by rw[d];exact aB.qX,λx D=>?_,λx=>by rw[d];exact GF h.bi _ _ _⟩;rw[d];dsimp only;rw[yZ h.bi D];grind
theorem jF.trans{Q u w:List aB.bW}{d e:Int}(h:jF Q u bz f d)(k:jF u w bz f e):jF Q w bz f (d+e):=
 ⟨k.d8,λx=>(k.has x).trans (h.has x),λx C=>by rw[k.fQ x ((h.has x).2 C),h.fQ x C];split<;>omega,λx=>(k.par x).trans (h.par x)⟩
def j5(e:Nat->Nat)(j:Nat):Nat:=hc 16 λr=>e (16*j+r)
def kR(e:Nat->Nat):Nat:=hc 256 (λs=>48*bb (e s))+hc 16 λj=>256*bb (j5 e j)
theorem rp{x:Nat}(h:x≠0):bb x=1:=al h
theorem vM:bb 0=0:=rfl
theorem BF{f:Nat->Nat}{n:Nat}:hc n f≠0↔∃k,k<n/\f k≠0:=by constructor;intro h;refine VB λan=>h (p2 λi u=>VB λd=>an ⟨i,u,d⟩);grind[u0]
theorem SW{e e':Nat->Nat}{s:Nat}(hs:s<256)(u:e s≠0)(hw:e' s≠0)(he:∀r,r≠s->e' r=e r):kR e'=kR e:=by have d:∀r,bb (e' r)=bb (e r):=λr=>(by grind[rp]);rw[kR,kR,qY λr _=>by rw[d r],qY (f:=λj=>256*bb (j5 e' j)) (g:=λj=>256*bb (j5 e j)) λj _=>?_];have:j5 e' j≠0↔j5 e j≠0:=(by grind[j5,BF]);by_cases h:j5 e j=0;simp_all;grind[rp]
theorem BO{e e':Nat->Nat}{s:Nat}(hs:s<256)(u:e s=0)(hw:e' s≠0)(he:∀r,r≠s->e' r=e r):kR e'=kR e+48+256*(1-bb (j5 e (s/16))):=by
 have w:=p1 (f:=λr=>48*bb (e r)) (g:=λr=>48*bb (e' r)) hs λr _ d=>by rw[he r d]
 have C:=p1 (f:=λj=>256*bb (j5 e j)) (g:=λj=>256*bb (j5 e' j)) (n:=16) (k:=s/16) U λj _ d=>(by grind[j5,qY]);rw[u,vM,rp hw]at w;rw[rp (show j5 e' (s/16)≠0 from BF.2 ⟨s %16,by omega,by rw[show 16*(s/16)+s %16=s by omega];exact hw⟩)]at C;grind[bb,kR]
def h7(A:bQ)(x:Int)(i:Nat):Nat:=match A.l[i]? with
  | some p=>if(p.st=1\/p.st=2)/\p.o.f=x then bG p.o.k.toNat+(if p.st=1/\p.o.k=2 then kR (A.aI i)else 0)else 0
  | none=>0
instance (s:Int):Decidable (fl s):=inferInstanceAs (Decidable (s=1\/s=2))
def pz(A:bQ)(x:Int):Nat:=hc 256 (h7 A x)
variable{A:bQ}
theorem nW{i:Nat}{s:Int}{o:av.fa}(h:cB A.l i s o)(x:Int):h7 A x i=if fl s/\o.f=x then bG o.k.toNat+(if s=1/\o.k=2 then kR (A.aI i)else 0)else 0:=by obtain⟨g,h⟩:=h;rw[h7,h];rfl
structure ck(A:bQ):Prop where
  ok:av.dM A.l
  d8:aB.eM A.Q A.bz
  rt:(∃a,A.l[0]? =some ⟨bt 1 a 0,1,0⟩)/\A.own 0=0
  ac:∀i s o,fl s->cB A.l i s o->aB.db A.Q o.f/\bG o.k.toNat≠0
  cY:∀i s a f,fl s->cB A.l i s (bt 1 a f)->aB.db A.Q (A.own i)/\(i≠0->A.own i≠0/\aB.lk A.Q (A.own i)=f)
  nn:∀i j s r a b f g,fl s->fl r->cB A.l i s (bt 1 a f)->cB A.l j r (bt 1 b g)->A.own i=A.own j->i=j
  aI:∀i s,A.aI i s≠0->s<256/\(∃a f,cB A.l i 1 (bt 2 a f))/\∃h r:Nat,A.aI i s=dG h r/\1<=r/\r<=15/\h<4294967295/\(av.cR A.l h).2=0
  hJ:∀x,aB.db A.Q x->aB.gg A.Q x=pz A x
  mE:∀h:Int,(∃p,av.ej A.l h 2=some p)/\0<=h↔h∈A.q.map (·.1)
  oe:(A.q.map (·.1)).Nodup
  og:∀t∈A.q,A.now<t.2/\t.2<=A.now+A.pd
  m3:A.q.Pairwise λa b=>a.2<=b.2
  pd:(1<=A.pd/\A.pd<=16)/\0<=A.now
  bd:A.bz<=A.np/\A.now<=A.np/\A.np<=1000000
variable{k:Nat}
theorem pQ{l:List av.bY}{p:av.bY}{h st:Int}(d:(h %256).toNat≠k):av.ej (l.set k p) h st=av.ej l h st:=by grind[av.ej]
theorem oM{l:List av.bY}{h:Int}(d:0<=h)(u:(av.cR l h).2=0):∃i p,av.ej l h 1=some (i,p)/\l[i]? =some p/\p.st=1/\i<256/\h=p.c4*256+i/\(h %256).toNat=i/\av.cR l h=(p.o,0):=by grind[av.cR,av.n8]
theorem wZ{l:List av.bY}{i:Nat}{p:av.bY}(d:i<256)(h:l[i]? =some p):av.ej l (p.c4*256+i) p.st=some (i,p):=by
 have e:((p.c4*256+(i:Int)) %256).toNat=i:=U
 rw[av.ej,e,h];grind
theorem ck.tS(h:ck A){i a s w np:Nat}{d:Int}(u:cB A.l i 1 (bt 2 a f))(hs:s<256){Q:List aB.bW}(C:jF A.Q Q A.bz f d)(an:(kR (fc A.aI i s w i):Int)=kR (A.aI i)+d)(hw:w=0\/∃h r:Nat,w=dG h r/\1<=r/\r<=15/\h<4294967295/\(av.cR A.l h).2=0)(aq:A.np<=np/\np<=1000000):ck {A with Q:=Q,aI:=fc A.aI i s w,np:=np}:=by have V:=u.lt h.ok;refine⟨h.ok,C.d8,h.rt,λi s o hs u=>⟨(C.has _).2 (h.ac i s o hs u).1,(h.ac i s o hs u).2⟩,λi s a f hs u=>?_,h.nn,λj r H=>?_,λx Z=>?_,h.mE,h.oe,h.og,h.m3,h.pd,?_⟩;obtain⟨D,E⟩:=h.cY i s a f hs u;dsimp only;exact⟨(C.has _).2 D,λO=>⟨(E O).1,by rw[C.par];exact(E O).2⟩⟩;dsimp only at H⊢;by_cases e:j=i/\r=s;grind[ij];have N:j≠i\/r≠s:=U;rw[ls N]at H⊢;exact h.aI j r H;have P:=(C.has x).1 Z;have D:=p1 (f:=h7 A x) (g:=h7 {A with Q:=Q,aI:=fc A.aI i s w,np:=np} x) V λj _ W=>(by rw[h7,h7];dsimp only;rw[show fc A.aI i s w j=A.aI j from funext λr=>ls (.inl W)]);rw[nW (A:=A) u x,nW (A:={A with Q:=Q,aI:=fc A.aI i s w,np:=np}) u x]at D;have E:=h.hJ x P;have ag:=C.fQ x P;rw[pz]at E⊢;dsimp only at D⊢;have hu:fl 1:=.inl rfl;have N:((bt 2 a f).f=x)=(f=x):=rfl;by_cases e:f=x;have bN:fl 1/\(bt 2 a f).f=x:=⟨hu,e⟩;have ar:(1:Int)=1/\(bt 2 a f).k=2:=⟨rfl,rfl⟩;grind;grind;have:=h.bd;grind
theorem H2{e:Nat->Nat}(h:∀s,e s=0):kR e=0:=by rw[kR,p2 λs _=>by rw[h s];rfl,p2 λj _=>by rw[j5,p2 λr _=>h _];rfl]
theorem ck.zj(h:ck A){s:Int}{o:av.fa}(D:cB A.l k s o)(hs:s≠1\/o.k≠2)(r:Nat):A.aI k r=0:=VB λw=>by
 obtain⟨_,⟨a,f,C⟩,_⟩:=h.aI k r w
 obtain⟨d,u⟩:=D.inj C
 rcases hs with hs|hs
 ·exact hs d
 exact hs (by rw[u];rfl)
theorem ck.lt(h:ck A){i:Nat}{p:av.bY}(d:A.l[i]? =some p):i<256/\0<=p.c4/\p.c4<=1048575:=⟨h.ok.lt d,h.ok.c4 p (US d)⟩
theorem ck.put(h:ck A){c a np:Nat}{g:Int}{dx:av.fa}{Q:List aB.bW}{own:Nat->Nat}(ag:A.l[k]? =some ⟨dx,0,g⟩)(a8:bG c≠0)(a4:aB.db A.Q f)(au:aB.eM Q bz)
 (an:∀x,aB.db A.Q x->aB.db Q x/\aB.gg Q x=aB.gg A.Q x+(if x=f then(bG c:Int)else 0)/\aB.lk Q x=aB.lk A.Q x)
 (bi:∀x,aB.db Q x->¬aB.db A.Q x->aB.gg Q x=0) (aS:c=1->aB.db Q (own k)/\¬aB.db A.Q (own k)/\own k≠0/\aB.lk Q (own k)=f)
 (N:∀i,i≠k->own i=A.own i) (bl:A.np<=np/\np<=1000000) (a9:bz<=np):ck {A with l:=A.l.set k ⟨bt c a f,1,g⟩,Q:=Q,bz:=bz,own:=own,np:=np}:=by
 obtain⟨aA,a5⟩:=h.lt ag;have bn:∀r,A.aI k r=0:=λr=>h.zj (k:=k) (s:=0) ⟨g,ag⟩ (.inl am) r;have a7:k≠0:=λe=>(by obtain⟨⟨b,u⟩,_⟩:=h.rt;simp_all);have back:∀{i s o},cB (A.l.set k ⟨bt c a f,1,g⟩) i s o->(i≠k/\cB A.l i s o)\/(i=k/\s=1/\o=bt c a f):=λ{i s o} C=>(by rcases C.set with h|⟨e,O,P⟩;all_goals simp_all);have key:∀{b:Nat} {w:Int},bt c a f=bt 1 b w->c=1/\f=w:=λ{b w} e=>(by grind[jz]);refine⟨h.ok.set k a5,au,⟨?_,?_⟩,λi s o hs C=>?_,λi s b w hs C=>?_,λi j s r b d w aG hs a0 C ax e=>?_,λi s C=>?_,λx bc=>?_,λE=>?_,h.oe,h.og,h.m3,h.pd,⟨a9,by have:=h.bd;dsimp only;omega⟩⟩;obtain⟨⟨b,u⟩,_⟩:=h.rt;grind;dsimp only;rw[N 0 (λe=>a7 e.symm)];exact h.rt.2;rcases back C with⟨_,u⟩|⟨_,_,rfl⟩;exact⟨(an _ (h.ac i s o hs u).1).1,(h.ac i s o hs u).2⟩;exact⟨(an _ a4).1,a8⟩;dsimp only;rcases back C with⟨H,u⟩|⟨rfl,_,e⟩;obtain⟨D,W⟩:=h.cY i s b w hs u;simp_all;grind;dsimp only at e;rcases back C with⟨H,u⟩|⟨rfl,_,O⟩<;>rcases back ax with⟨aV,D⟩|⟨rfl,_,P⟩;rw[N i H,N j aV]at e;exact h.nn i j s r b d w aG hs a0 u D e;obtain⟨V,_⟩:=key P.symm;rw[N i H]at e;exact absurd (by rw[<-e];exact(h.cY i s b w hs u).1) (aS V).2.1;obtain⟨V,_⟩:=key O.symm;rw[N j aV]at e;exact absurd (by rw[e];exact(h.cY j r d aG a0 D).1) (aS V).2.1;trivial;dsimp only at C⊢;obtain⟨u,⟨b,w,D⟩,a2,r,W,aq,Z,bK,a3⟩:=h.aI i s C;have H:i≠k:=cp
 refine⟨u,⟨b,w,D.put _ H⟩,a2,r,W,aq,Z,bK,?_⟩;obtain⟨i2,p,O,P,V,_,_,bh,_⟩:=oM U a3;grind[av.cR,pQ];dsimp only at bc;have W:h7 {A with l:=A.l.set k ⟨bt c a f,1,g⟩,Q:=Q,bz:=bz,own:=own,np:=np} x k=if f=x then bG c else 0:=(by rw[nW (s:=1) (o:=bt c a f) ⟨g,by dsimp only;rw[Vz (by rw[h.ok.n];exact aA)]⟩ x];by_cases e:f=x;(have bN:fl 1/\(bt c a f).f=x:=by trivial);have be:(if(1:Int)=1/\(bt c a f).k=2 then kR (A.aI k)else 0)=0:=(by grind[H2]);rw[aw bN,aw e];exact congrArg (bG c+·) be;rw[al (show ¬(fl 1/\(bt c a f).f=x)from λh=>e h.2),al e]);have aq:h7 A x k=0:=(by rw[nW (s:=0) ⟨g,ag⟩ x,al (show ¬(fl 0/\dx.f=x)from λh=>by rcases h.1 with h|h<;>exact absurd h am)]);have D:=p1 (f:=h7 A x) (g:=h7 {A with l:=A.l.set k ⟨bt c a f,1,g⟩,Q:=Q,bz:=bz,own:=own,np:=np} x) aA λj _ H=>(by grind[h7]);rw[W,aq]at D;rw[pz];by_cases ar:aB.db A.Q x;have Z:=h.hJ x ar;have bK:=(an x ar).2.1;rw[pz]at Z;grind;have Z:hc 256 (h7 A x)=0:=p2 λj ax=>(by obtain⟨p,aY,_⟩:=h.ok.at ax;rw[nW (o:=p.o) (s:=p.st) ⟨p.c4,aY⟩ x,al (show ¬(fl p.st/\p.o.f=x)from λu=>ar (u.2▸(h.ac j p.st p.o u.1 ⟨p.c4,aY⟩).1))]);grind;dsimp only;rw[<-h.mE E];have:(∃p,av.ej (A.l.set k ⟨bt c a f,1,g⟩) E 2=some p)↔∃p,av.ej A.l E 2=some p:=(by by_cases e:(E %256).toNat=k;have O:av.ej A.l E 2=none:=(by rw[av.ej,e,ag];dsimp only;rw[al λh=>absurd h.2 am]);have P:av.ej (A.l.set k ⟨bt c a f,1,g⟩) E 2=none:=(by rw[av.ej,e,Vz (by rw[h.ok.n];exact aA)];dsimp only;rw[al λh=>absurd h.2 am]);simp_all;grind[pQ]);simp_all
theorem ck.tP(h:ck A){o:av.fa}{g:Int}(H:A.l[k]? =some ⟨o,1,g⟩)(bn:k≠0)(an:∀i s (x r:Nat),A.aI i s=dG x r->1<=r->r<=15->x<4294967295->(x:Int)≠g*256+k)(a7:∀s,A.aI k s=0)(a6:Nat->Nat->Nat):
 ck {A with l:=A.l.set k ⟨o,2,g⟩,a6:=a6,q:=A.q++[(g*256+k,A.now+A.pd)]}:=by
 obtain⟨a0,aq⟩:=h.lt H;dsimp only at aq;have back:∀{i s w},cB (A.l.set k ⟨o,2,g⟩) i s w->(i≠k/\cB A.l i s w)\/(i=k/\s=2/\w=o/\cB A.l i 1 w):=λ{i s w} u=>(by rcases u.set with h|⟨rfl,V,W⟩;simp_all;dsimp only at V W;subst W;exact .inr ⟨rfl,V.symm,rfl,g,H⟩);have Q:∀{i s w},fl s->cB (A.l.set k ⟨o,2,g⟩) i s w->∃r,fl r/\cB A.l i r w:=λ{i s w} hs u=>(by rcases back u with⟨_,h⟩|⟨_,_,_,h⟩;grind;exact⟨1,.inl rfl,h⟩);have bq:av.ej (A.l.set k ⟨o,2,g⟩) (g*256+k) 2=some (k,⟨o,2,g⟩):=by grind[av.ej]
 have bp:av.ej A.l (g*256+k) 2=none:=(by rw[av.ej,show((g*256+(k:Int)) %256).toNat=k by omega,H];dsimp only;rw[al λh=>absurd h.2 am]);refine⟨h.ok.set k aq,h.d8,⟨?_,h.rt.2⟩,λi s w hs u=>?_,λi s b E hs u=>?_,λi j s r b d E ax hs N u aY e=>?_,λi s u=>?_,λx D=>?_,λag=>?_,?_,λt O=>?_,?_,h.pd,h.bd⟩;obtain⟨⟨b,C⟩,_⟩:=h.rt;grind;obtain⟨r,N,C⟩:=Q hs u;exact h.ac i r w N C;obtain⟨r,N,C⟩:=Q hs u;exact h.cY i r b E N C;obtain⟨bc,a5,C⟩:=Q hs u;obtain⟨a9,a4,Z⟩:=Q N aY;exact h.nn i j bc a9 b d E ax a5 a4 C Z e;obtain⟨C,⟨b,E,Z⟩,x,r,aG,aS,aV,bK,aB⟩:=h.aI i s u;have a2:i≠k:=cp
 refine⟨C,⟨b,E,Z.put _ a2⟩,x,r,aG,aS,aV,bK,?_⟩;obtain⟨i2,p,be,ar,bh,_,bl,bi,_⟩:=oM U aB;grind[av.cR,pQ];dsimp only at D⊢;rw[h.hJ x D];refine congrArg (λn:Nat=>(n:Int)) (qY λj _=>?_);rw[h7,h7];dsimp only;by_cases e:j=k;subst e;rw[Vz (by rw[h.ok.n];exact a0),H];dsimp only;by_cases ar:o.f=x;have bN:((1:Int)=1\/(1:Int)=2)/\o.f=x:=by trivial
 have a8:((2:Int)=1\/(2:Int)=2)/\o.f=x:=by trivial
 rw[aw bN,aw a8,H2 a7];simp;simp_all;grind;dsimp only;rw[V2,UQ,<-h.mE ag];by_cases e:(ag %256).toNat=k;have:av.ej A.l ag 2=none:=(by rw[av.ej,e,H];dsimp only;rw[al λh=>absurd h.2 am]);rw[this];constructor;rintro⟨⟨⟨i,p⟩,a3⟩,aA⟩;obtain⟨V,W,_,_⟩:=av.n8 aA a3;grind;grind;grind[pQ];dsimp only;rw[V2,Vg];refine⟨h.oe,by simp,λx D y P e=>?_⟩;rw[List.map_singleton,UP]at P;rw[e,P,<-h.mE]at D;simp_all;rcases UQ.1 O with O|O;exact h.og t O;rw[UP]at O;have:=h.pd;grind;dsimp only;rw[List.pairwise_append];refine⟨h.m3,by simp,λx D y P=>?_⟩;rw[UP]at P;rw[P];exact(h.og x D).2
theorem Gv{L:List aB.bW}{y x:Int}:aB.db (aB.kK L y) x↔aB.db L x/\x≠y:=by constructor;rintro⟨t,d,rfl⟩;have:=aB.nC.1 d;exact⟨⟨t,this.1,rfl⟩,this.2⟩;rintro⟨⟨t,d,rfl⟩,u⟩;exact⟨t,aB.nC.2 ⟨d,u⟩,rfl⟩
theorem Lb{L:List aB.bW}(au:aB.eM L bz)(y:Int):aB.eM (aB.iD L y).1 bz/\(∀x,aB.db (aB.iD L y).1 x->aB.db L x/\aB.gg (aB.iD L y).1 x=aB.gg L x/\aB.lk (aB.iD L y).1 x=aB.lk L x)/\∀x,aB.db L x->aB.db (aB.iD L y).1 x\/(x=y/\aB.gg L x=0):=by refine⟨au.close y,?_⟩;unfold aB.iD;split;simp_all;split;simp_all;split;simp_all;rename_i w H N;have E:=UT w;refine⟨λx h=>?_,λx h=>?_⟩;dsimp only at h⊢;have O:=Gv.1 h;obtain⟨t,d,rfl⟩:=h;have C:=aB.nC.1 d;have an:aB.iB (aB.kK L y):=(by obtain⟨u,hu,rfl⟩:=E;obtain⟨M,bH⟩:=fp hu;exact(aB.iB.perm (au.bi.perm bH.symm) (Ws _)|>λh=>(U6.1 h).2)|>λh=>aB.iB.perm h (aB.xg au.bi bH));have P:=aB.ix an d;have D:=aB.ix au.bi C.1;simp_all;by_cases e:x=y;subst e;obtain⟨t,d,rfl⟩:=h;have D:=aB.ix au.bi d;have Q:=(au.rg t d).2.2.2.2;have bK:=aB.wv au t.id;omega;grind[Gv]
theorem ck.free(h:ck A){c a:Nat}{g t:Int}{aG:List (Int×Int)}(bc:A.l[k]? =some ⟨bt c a f,2,g⟩)(cd:1<=c/\c<=5\/c=8)(a2:A.q=(g*256+k,t)::aG){mg:List aB.bW}(a5:mg=if c=1 then(aB.iD A.Q (A.own k)).1 else A.Q):
 (aB.ek mg f (bG c)).2=0/\ck {A with l:=A.l.set k (av.iZ ⟨bt c a f,2,g⟩),Q:=(aB.ek mg f (bG c)).1,q:=aG}:=by
 obtain⟨aA,bN⟩:=h.lt bc;dsimp only at bN;have Z:cB A.l k 2 (bt c a f):=⟨g,bc⟩;have bY:k≠0:=λe=>(by obtain⟨⟨b,D⟩,_⟩:=h.rt;simp_all);have a8:=h.ac k 2 _ (.inr rfl) Z;have cj:∀r,A.aI k r=0:=h.zj Z (.inl am);have ax:¬fl (av.iZ ⟨bt c a f,2,g⟩).st/\0<=(av.iZ ⟨bt c a f,2,g⟩).c4/\(av.iZ ⟨bt c a f,2,g⟩).c4<=1048575:=(by grind[av.iZ,fl]);generalize cc:av.iZ ⟨bt c a f,2,g⟩=P at ax;have bu:aB.eM mg A.bz/\(∀x,aB.db mg x->aB.db A.Q x/\aB.gg mg x=aB.gg A.Q x/\aB.lk mg x=aB.lk A.Q x)/\∀x,aB.db A.Q x->aB.db mg x\/(c=1/\x=A.own k/\aB.gg A.Q x=0):=(by rw[a5];split;rename_i ce;obtain⟨N,aS,a7⟩:=Lb h.d8 (A.own k);simp_all;exact⟨h.d8,λx O=>⟨O,rfl,rfl⟩,λx O=>.inl O⟩);obtain⟨cF,a3,a4⟩:=bu;have bn:∀x,aB.db A.Q x->aB.gg A.Q x=0->∀i s o,fl s->cB A.l i s o->o.f≠x:=λx O W i s o hs w e=>(by have C:=u0 (f:=h7 A x) (w.lt h.ok);have E:=h.hJ x O;rw[nW w x,aw ⟨hs,e⟩]at C;rw[W,pz]at E;(have H:bG o.k.toNat=0:=by omega);exact absurd H (h.ac i s o hs w).2);have bL:c=1->f<A.own k:=λe=>(by obtain⟨N,aS⟩:=h.cY k 2 a f (.inr rfl) (by subst e;exact Z);obtain⟨a7,D⟩:=aS bY;obtain⟨u,hu,w⟩:=N;rw[<-w,(aB.ix h.d8.bi hu).2.2.2]at D;have:=(h.d8.par u hu U).2;omega);have a9:aB.db mg f:=(a4 f a8.1).elim id λN=>absurd (bL N.1) U;have cg:bG c<=pz A f:=(by have C:=u0 (f:=h7 A f) aA;rw[nW Z f,aw ⟨.inr rfl,rfl⟩]at C;trivial);obtain⟨ef,ag⟩:=jF.rU (f:=f) (n:=(bG c:Int)) cF a9 U (by rw[(a3 f a9).2.1,h.hJ f a8.1];omega);have back:∀{i s o},fl s->cB (A.l.set k P) i s o->i≠k/\cB A.l i s o:=λ{i s o} hs w=>(by rcases w.set with h|⟨_,N,_⟩;all_goals simp_all);have be:=h.oe;rw[a2]at be;obtain⟨ch,b0⟩:=U6.1 be;refine⟨ef,h.ok.set k ax.2,ag.d8,⟨?_,h.rt.2⟩,λi s o hs w=>?_,λi s b V hs w=>?_,λi j s r b d V bp hs bh w bQ e=>?_,λi s w=>?_,λx O=>?_,λaY=>?_,b0,λu hu=>h.og u (by rw[a2];exact List.mem_cons_of_mem _ hu),?_,h.pd,h.bd⟩;obtain⟨⟨b,D⟩,_⟩:=h.rt;grind;obtain⟨ar,D⟩:=back hs w;obtain⟨C,E⟩:=h.ac i s o hs D;exact⟨(ag.has _).2 ((a4 _ C).elim id λH=>absurd rfl (bn _ C H.2.2 i s o hs D)),E⟩;dsimp only;obtain⟨ar,D⟩:=back hs w;obtain⟨C,E⟩:=h.cY i s b V hs D;have H:aB.db mg (A.own i):=(a4 _ C).elim id λaq=>absurd (h.nn i k s 2 b a V f hs (.inr rfl) D (by have:=aq.1;subst this;exact Z) U) ar;exact⟨(ag.has _).2 H,λW=>⟨(E W).1,by rw[ag.par,(a3 _ H).2.2];exact(E W).2⟩⟩;exact h.nn i j s r b d V bp hs bh (back hs w).2 (back bh bQ).2 e;obtain⟨D,⟨b,V,C⟩,x,r,E,H,aq,bK,bq⟩:=h.aI i s w;have ar:i≠k:=cp
 refine⟨D,⟨b,V,C.put _ ar⟩,x,r,E,H,aq,bK,?_⟩;obtain⟨i2,p,a5,an,b8,_,cb,b9,_⟩:=oM U bq;grind[av.cR,pQ];dsimp only at O⊢;have bl:=(ag.has x).1 O;obtain⟨b7,ci,_⟩:=a3 x bl;have E:h7 {A with l:=A.l.set k P,Q:=(aB.ek mg f (bG c)).1,q:=aG} x k=0:=(by rw[nW (s:=P.st) (o:=P.o) ⟨P.c4,by dsimp only;rw[Vz (by rw[h.ok.n];exact aA)]⟩ x,al λh=>ax.1 h.1]);have H:h7 A x k=if f=x then bG c else 0:=(by rw[nW Z x];(have e:(bt c a f).k.toNat=c:=by trivial);by_cases an:f=x;rw[aw ⟨.inr rfl,an⟩,aw an,e,al (λh=>absurd h.1 am)];rfl;rw[al (λh=>an h.2),al an]);have C:=p1 (f:=h7 A x) (g:=h7 {A with l:=A.l.set k P,Q:=(aB.ek mg f (bG c)).1,q:=aG} x) aA λj _ ar=>(by grind[h7]);rw[E,H]at C;have aq:=h.hJ x b7;have bK:=ag.fQ x bl;rw[pz]at aq⊢;grind;dsimp only;have aV:=h.mE aY;rw[a2,Vm,U0]at aV;dsimp only at aV;by_cases e:(aY %256).toNat=k;have:av.ej (A.l.set k P) aY 2=none:=(by rw[av.ej,e,Vz (by rw[h.ok.n];exact aA)];dsimp only;rw[al λh=>ax.1 (.inr h.2)]);rw[this];refine⟨λN=>(by obtain⟨⟨p,a0⟩,_⟩:=N;cases a0),λN=>?_⟩;obtain⟨⟨⟨i,p⟩,a0⟩,W⟩:=aV.2 (.inr N);obtain⟨aS,a7,_,_⟩:=av.n8 W a0;grind;grind[pQ];have:=h.m3;simp_all
end Go.Proofs.YtglgidjhoncphaaGreatDoor
namespace Go.Proofs.YtglgidjhoncphaaGreatDoor.hq
open Go Go.QM
end Go.Proofs.YtglgidjhoncphaaGreatDoor.hq
namespace Go.Proofs.YtglgidjhoncphaaGreatDoor
open Go Go.QM
variable [dK]
structure fk where
  wy:Nat
  bF:Nat
  S:cL
def hA(aO af top:Nat)(A:bQ):ax:=fj λy:fk=>pure' (ch top A y.S/\ck A) (ah [aj aO 135 [ae af,ae y.wy,ae y.bF],e6 af top y.S,a1 264 5 (cK y.wy) 256 256 (av.gn A.l),hq.eF y.bF A.pd A.now A.q])
def bT(l:List av.bY)(h k:Int):av.fa×Int:=if(av.cR l h).2=0/\k≠0/\(av.cR l h).1.k≠k then(av.mK,10)else av.cR l h
variable{h:Int}
theorem Gp{l:List av.bY}{k:Int}(e:(av.cR l h).2≠0):bT l h k=av.cR l h:=al λx=>e x.1
theorem iU{l:List av.bY}:bT l h 0=av.cR l h:=al λx=>x.2.1 rfl
theorem pU{l:List av.bY}{k:Int}(e:(av.cR l h).1.k=k):bT l h k=av.cR l h:=al λx=>x.2.2 e
theorem Gn{l:List av.bY}{k:Int}(e:(av.cR l h).2=0)(d:k≠0)(u:(av.cR l h).1.k≠k):bT l h k=(av.mK,10):=aw ⟨e,d,u⟩
def mD(A:bQ)(h:Int):Int×Int:=if(bT A.l h 1).2=0 then((A.own (h %256).toNat:Int),0)else(0,(bT A.l h 1).2)
theorem i8{l:List av.bY}{k:Int}(d:0<=h)(e:(bT l h k).2=0):∃i p,av.ej l h 1=some (i,p)/\l[i]? =some p/\p.st=1/\i<256/\h=p.c4*256+i/\(h %256).toNat=i/\bT l h k=(p.o,0)/\(k=0\/p.o.k=k):=by have u:(av.cR l h).2=0/\(k=0\/(av.cR l h).1.k=k):=(by unfold bT at e;grind);grind[oM,iU,pU]
variable(aO af top:Nat)
theorem Lg(A:bQ):bu 29 [ae aO] be [hA aO af top A] (ae af) [hA aO af top A]:=by apply aG Tryz.func29 Tryz.ntmps29;intro F _;refine J [1,235] ?_;rintro⟨w,bF,S⟩ ⟨u,d⟩;apply J [85];dsimp only at u d⊢;apply J [131,42,40,106];exact eZ (ay (⟨w,bF,S⟩:fk) ⟨u,d⟩ ai)
theorem jG(A:bQ)(h:Int)(D:0<=h/\h<=4294967295)(k:Int):bu 19 [ae aO,aR h,aa k] be [hA aO af top A] (.tuple #[.agg (ints (bT A.l h k).1.l).toArray,aa (bT A.l h k).2]) [hA aO af top A]:=by apply aG Tryz.func19 Tryz.ntmps19;intro F _;refine J [1,235] ?_;rintro⟨u,bF,S⟩ ⟨w,d⟩;apply J [85];dsimp only at w d⊢;refine J [25,225] ?_;intro bb;apply J [31,42,67,28];apply eE (av.Ev u A.l h d.ok D) ⟨_,bn.rd (ad:=some ⟨u,0,none⟩)⟩;apply J [14];by_cases g0:(av.cR A.l h).2=0;refine J [267] ?_;intro cl;apply J [115,26,183];refine Ve 24 rfl (c:=true) (c1 g0) ?_;by_cases g1:k=0;subst g1;rw[iU];apply J [11,158,50];refine Ve 28 rfl (c:=false) (dk U) ?_;apply J [48,144,99,130,252,30];exact XT () [_,_] ⟨(eV (n:=3) rfl rfl rfl rfl),rfl,trivial⟩ rfl trivial (ay (⟨u,bF,S⟩:fk) ⟨w,d⟩ ai);apply J [11,158,50];refine Ve 28 rfl (c:=true) (c1 g1) ?_;apply J [191,11,158,182];apply UR rfl<;>intro C;rw[Gn g0 g1 C];apply J [24,230,96,129];exact XT () [_,_] ⟨(eV (n:=3) rfl rfl rfl rfl),rfl,trivial⟩ rfl trivial (ay (⟨u,bF,S⟩:fk) ⟨w,d⟩ ai);rw[pU (UT C)];apply J [4,130,252,30];exact XT () [_,_] ⟨(eV (n:=3) rfl rfl rfl rfl),rfl,trivial⟩ rfl trivial (ay (⟨u,bF,S⟩:fk) ⟨w,d⟩ ai);rw[Gp g0];refine J [267] ?_;intro bo;apply J [115,26,183];refine Ve 24 rfl (c:=false) (dk g0) ?_;apply J [47,41,48,144,99,130,252,30];exact XT () [_,_] ⟨(eV (n:=3) rfl rfl rfl rfl),rfl,trivial⟩ rfl trivial (ay (⟨u,bF,S⟩:fk) ⟨w,d⟩ ai)
theorem Ds(A:bQ):bL 16 [ae aO] be [hA aO af top A] (λy:Option Addr×Nat=>.slice y.1 (av.eA A.l 1).length y.2) (λ_=>True) (λy=>[a1 33 1 y.1 (av.eA A.l 1).length y.2 (cT .u32 (av.eA A.l 1)),hA aO af top A]):=by apply aG Tryz.func16 Tryz.ntmps16;intro F _;refine J [1,235] ?_;rintro⟨u,bF,S⟩ ⟨w,d⟩;apply J [85];dsimp only at w d⊢;apply J [210,42,67,0];apply eQ (av.FF u A.l d.ok) ⟨_,bn.rd (ad:=some ⟨u,0,none⟩)⟩;intro y _;apply J [14,105];exact br y trivial (ao (ay (⟨u,bF,S⟩:fk) ⟨w,d⟩ ai))
theorem ck.G0{A:bQ}(h:ck A):A.q.length<=256:=by have d:((A.q.map (·.1)).map λx:Int=>(x %256).toNat).Nodup:=(by rw[List.Nodup,WO];refine List.Pairwise.imp_of_mem ?_ h.oe;intro a b w C W e;obtain⟨⟨⟨i,p⟩,D⟩,u⟩:=(h.mE a).2 w;obtain⟨⟨⟨j,r⟩,E⟩,d⟩:=(h.mE b).2 C;obtain⟨H,N,O,_⟩:=av.n8 u D;obtain⟨P,Q,V,_⟩:=av.n8 d E;grind);have:=u5 d (m:=List.range 256) λx Z=>cp;simp_all
def sU:Option Nat->Int
  | some x=>(x:Int)
  | none=>0
structure qj(top:Nat)(S:cL)(a:Int)(c x:Nat)(a8:cL):Prop where
  q:(aB.c9 S.Q a (bG c:Int)).2=0/\a8.Q=(aB.c9 S.Q a (bG c:Int)).1/\a8.bz=S.bz
  g:ga top S a8 hX hX
  b:c6 a8 c x
  n:¬c6 S c x
  z:∀o,x<=o->o+8<=x+bG c->cO a8.m o=0
  u:gy (960/cb 6) (a8.C 6)=gy (960/cb 6) (S.C 6)
  p:(df a8.C a8.Fr).length<=(df S.C S.Fr).length+1
def JI(top:Nat)(S:cL)(a:Int)(c:Nat):Option Nat×cL×Int->Prop
  | (some x,a8,e)=>e=0/\qj top S a c x a8
  | (none,a8,e)=>e≠0/\a8=S/\(e=(aB.c9 S.Q a (bG c:Int)).2\/e=4/\2^top<=(df S.C S.Fr).length)
def jA(c:Nat):Prop:=1<=c/\c<=5\/c=8
theorem Ge{c:Nat}(h:jA c)(d:c≠8):c∈cls/\bG c=cb c/\c≠6:=by have:c∈cls:=vW.2 (by rcases h with h|h<;>omega);exact⟨this,qI this,by rcases h with h|h<;>omega⟩
theorem xo(C:Nat->List cc)(Fr:List Nat)(p:Nat):(p::df C Fr).Perm (df C (p::Fr)):=by grind[df]
variable{S a8:cL}
theorem dd.Nn{top:Nat}(h:dd top S){p:Nat}(O:p<2^top)(D:p∉df S.C S.Fr)(u:a8.C=S.C)(w:a8.Fr=p::S.Fr):dd top a8:=by obtain⟨N,Q,E,H,P⟩:=a8;dsimp only at u w;subst u;subst w;exact⟨h.f8,h.ok,(xo _ _ _).nodup_iff.1 (U6.2 ⟨D,h.bi⟩),λq d=>by rcases U0.1 ((xo _ _ _).mem_iff.2 d)with rfl|d;trivial;exact h.lt q d⟩
theorem Gz{top:Nat}(d:dd top S){a:Int}{c:Nat}(u:c∈cls)(E:c≠6)(e:bG c=cb c){y:Nat×Nat×List cc}(N:(aB.c9 S.Q a (cb c:Int)).2=0)(g:iW top S c y):qj top S a c (addr c y) (kj S a c (some y)):=by obtain⟨g1,g2⟩:=wr (a8:=kj S a c (some y)) d u g rfl rfl λo H=>vl H;refine⟨by rw[e];exact⟨N,rfl,rfl⟩,g1,g2,λk=>g.uD d u k ⟨rfl,rfl⟩,λo w D=>wX w (by rw[<-e];exact D),?_,g.len⟩;exact congrArg (gy (960/cb 6)) (jc S.C y.2.2 λh=>E h.symm)
theorem Qo{top p:Nat}(w:dd top S){a:Int}(H:(aB.c9 S.Q a 1024).2=0)(d:p<2^top)(u:p∉df S.C S.Fr)(e:a8=⟨(aB.c9 S.Q a 1024).1,S.bz,S.C,p::S.Fr,ho S.m (p*1024) 1024⟩):qj top S a 8 (p*1024) a8/\dd top a8:=by
 have D:dd top a8:=w.Nn d u jP jP;obtain⟨g1,g2,g3⟩:=No w D jP jP λo E=>by rw[e];exact vl E
 refine⟨⟨by rw[e];exact⟨H,rfl,rfl⟩,g1,g2,g3,λo d u=>by rw[e];exact wX d u,by rw[e],?_⟩,D⟩;have:=(xo S.C S.Fr p).length_eq;simp_all
structure tr(top:Nat)(S:cL)(a:Int)(c x:Nat)(a8:cL):Prop where
  q:a8.Q=(aB.ek S.Q a (bG c:Int)).1/\a8.bz=S.bz
  g:ga top S a8 (fw c x) (fw c x)
  u:gy (960/cb 6) (a8.C 6)=gy (960/cb 6) (S.C 6)
  p:(df a8.C a8.Fr).length<=(df S.C S.Fr).length
theorem Qv{top:Nat}(w:dd top S){a:Int}{c x aD i:Nat}{L':List cc}(d:c∈cls)(u:c≠6)(D:x=aD*1024+64+i*cb c)(g:j1 top S c aD i L')(e:a8=⟨(aB.ek S.Q a (cb c:Int)).1,S.bz,dF S.C c L',S.Fr,S.m⟩):tr top S a c x a8:=
 ⟨by rw[e,qI d];exact⟨rfl,rfl⟩,wq w d g D jP jP jP,by rw[e];exact congrArg (gy (960/cb 6)) (jc S.C L' λh=>u h.symm),by rw[e];exact g.len⟩
theorem Qw{top p:Nat}(d:dd top S){a:Int}(e:a8=⟨(aB.ek S.Q a 1024).1,S.bz,S.C,S.Fr.erase p,S.m⟩):tr top S a 8 (p*1024) a8:=
 ⟨by rw[e];exact⟨rfl,rfl⟩,Nq d jP jP jP,by rw[e],by rw[e];dsimp only;rw[df,df,mp,mp];have:=List.length_erase_le (a:=p) (l:=S.Fr);omega⟩
theorem QP{C:Nat->List cc}{Fr:List Nat}{p:Nat}(an:p∉cls.flatMap (hz C))(d:p∈Fr):(df C (Fr.erase p)).Perm ((df C Fr).erase p):=by grind[df]
theorem Dn(E bF top:Nat)(S:cL)(a:Int)(c:Nat)(aY:jA c):bL 131 [ae aO,aa a,aa c] c7 [aj aO 135 [ae af,ae E,ae bF],e6 af top S] (λy:Option Nat×cL×Int=>.tuple #[aa (sU y.1),aa y.2.2]) (λy=>JI top S a c y) (λy=>[aj aO 135 [ae af,ae E,ae bF],e6 af top y.2.1]):=by
 apply aG Tryz.func131 Tryz.ntmps131;intro F aS;apply J [13];haveI:cz F:=⟨aS⟩;refine ab.open 1 rfl (λP O=>?_);obtain⟨cH,bd,d,w⟩:=P;have D:=O;apply J [226];dsimp only at D⊢;have a4:=D.f8;have be:2^top<=128:=UV (n:=2) am a4.2;refine ab.open 1 rfl (λP O=>?_);obtain⟨a5,a9⟩:=P;have au:=O;apply J [79];refine Wd (B:=ah [aj af 169 (iw 8 cH bd d w),aB.eF cH S.Q S.bz,lg bd top (df S.C S.Fr),gr d S.m (1024*2^top),b5 (λc=>mo (w c) bd (cb c) (S.C c)) cls,aj aO 135 [ae af,ae E,ae bF],F]) (c0 (ay (⟨a5,a9⟩:aB.oz) au ai)) ?_;by_cases Z:c=8;subst Z;apply J [24,242,34];refine UR rfl (λan=>absurd an U) (λan=>?_);apply J [44,40,53,28];apply aq (aB.G1 cH S.Q S.bz a 1024);apply J [16,126];apply UR rfl<;>intro u;apply J [187];have a2:=Do u;exact cN (none,S,(aB.c9 S.Q a 1024).2) ⟨u,rfl,.inl rfl⟩ (by rw[a2];exact(ey (ay (dR.mk cH bd d w:dR af) D ai)));have u:=UT u;apply J [4,40,80,58,0];apply a7 (C8 bd top (df S.C S.Fr));intro V ax;apply J [16];cases V with|none=>?_|some aD=>?_
 have a0:2^top<=(df S.C S.Fr).length:=ax;dsimp only[u9,qv,mR];have a3:=sZ au u;apply J [125,34,17,40,53,28];apply aq (aB.xx cH (aB.c9 S.Q a 1024).1 S.bz a 1024);apply J [16];rw[a3];apply J [3,187];exact cN (none,S,4) ⟨by decide,rfl,.inr ⟨rfl,a0⟩⟩ (ey (ay (dR.mk cH bd d w:dR af) D ai));have N:aD<2^top/\aD∉df S.C S.Fr:=ax;dsimp only[u9,qv,mR];obtain⟨a8,W⟩:∃a8:cL,a8=⟨(aB.c9 S.Q a 1024).1,S.bz,S.C,aD::S.Fr,ho S.m (aD*1024) 1024⟩:=⟨_,rfl⟩;obtain⟨cn,aV⟩:=Qo D u N.1 N.2 W;have bc:=N.1;apply J [125,198,40,0];apply aq (l6 af cH bd d w);apply J [16,28];refine aL (C3 d (1024*2^top) (aD*1024) 1024 S.m U U U) (congrArg (λz:Int=>[XV (some ⟨d,0,none⟩),.int .i64 z,.int .i64 1024,.int .u8 0]) cE) ev.p trivial ?_;intro _ _;apply J [16,3,26,69];exact XT (some (aD*1024),a8,0) [aa ((aD:Int)*1024),aa 0] ⟨rfl,rfl,trivial⟩ (by dsimp only[sU];rw[show((aD*1024:Nat):Int)=(aD:Int)*1024 by simp];rfl) ⟨rfl,cn⟩ (by subst W;exact(ey (ay (dR.mk cH bd d w:dR af) aV (bV (bv (eH 1 rfl (vN _ _ (xo _ _ _)) ai))))));obtain⟨ar,av,aI⟩:=Ge aY Z;refine Wd (B:=ah [aj aO 135 [ae af,ae E,ae bF],e6 af top S,F]) (ey (ay (dR.mk cH bd d w:dR af) D ai)) ?_;apply J [24,242,34];refine UR rfl (λag=>?_) (λag=>absurd U ag);apply J [40,193];apply a7 (uK af top S a c ar);intro⟨V,cm⟩ H;apply J [7];cases V with|none=>?_|some y=>?_
 dsimp only[pv,kj];apply J [93,93,368];exact cN (none,S,cm) ⟨H.1,rfl,by rw[av];exact H.2⟩ ai;obtain⟨rfl,u,cn⟩:=H;dsimp only[pv];apply J [93,93,368];exact cN (some (addr c y),kj S a c (some y),0) ⟨rfl,Gz D ar aI av u cn⟩ ai
theorem v6(E bF top:Nat)(S:cL)(c x:Nat)(f:Int)(ax:jA c)(aN:c6 S c x)(Z:(aB.ek S.Q f (bG c:Int)).2=0):bL 133 [ae aO,.agg (ints (bt (c:Int) x f).l).toArray] c7 [aj aO 135 [ae af,ae E,ae bF],e6 af top S] (λ_:cL=>.tuple #[]) (λa8=>tr top S f c x a8) (λa8=>[aj aO 135 [ae af,ae E,ae bF],e6 af top a8]):=by
 apply aG Tryz.func133 Tryz.ntmps133;intro F ar;apply J [13];haveI:cz F:=⟨ar⟩;refine ab.open 1 rfl (λa2 a0=>?_);obtain⟨cH,bd,N,O⟩:=a2;have d:=a0;apply J [226];dsimp only at d⊢;have aY:=d.f8;have a4:2^top<=128:=UV (n:=2) am aY.2;by_cases D:c=8;·subst D;obtain⟨u,gi,rfl⟩:∃p∈S.Fr,x=p*1024:=(by rcases aN with⟨h,_⟩|⟨_,h⟩;all_goals trivial);refine J [25,291] ?_;intro bo;apply J [29,111,91,3];refine UR rfl (λV=>absurd V (λh=>h rfl)) (λV=>?_);have eI:=zB d gi;(have W:u∈df S.C S.Fr:=by grind[df]);have a3:=d.lt u W;obtain⟨a8,w⟩:∃a8:cL,a8=⟨(aB.ek S.Q f 1024).1,S.bz,S.C,S.Fr.erase u,S.m⟩:=⟨_,rfl⟩;have av:dd top a8:=d.Iw (by rw[w]) (by rw[w]);apply J [44];refine cC [0,1,2,3,4,5,6,7,8,-9] (ao (ao (eL (aZ _)))) ?_;apply J [49,88,109,134,12];apply aq (aB.xx cH S.Q S.bz f 1024);refine J [292,110] ?_;refine cC [0,1,2,3,4,5,6,7,8,-9] (bV (bV (eL (aZ _)))) ?_;apply J [49,88,181,274];refine aL (C6 bd top (df S.C S.Fr) u W) (congrArg (λz:Int=>[XV (some ⟨bd,0,none⟩),.int .i64 z]) (show((u*1024:Nat):Int)=(u:Int)*1024 by simp)) ev.p trivial ?_;intro _ _;refine J [292,6] ?_;refine b6.nil ?_;exact mQ a8 (Qw d w) (by subst w;exact(bI 6 rfl (ay (dR.mk cH bd N O:dR af) av (c0 (bV (eH 0 rfl (vN _ _ (QP eI gi).symm) ai))))))
 refine Wd (B:=ah [aj aO 135 [ae af,ae E,ae bF],e6 af top S,F]) (ey (ay (dR.mk cH bd N O:dR af) d ai)) ?_;obtain⟨H,aV,an⟩:=Ge ax D;rw[aV]at Z;obtain⟨k,aD,i,f2,aS,aI,rfl⟩:=(aN.jU H).at;refine J [25,291] ?_;intro bb;apply J [29,111,91,3];refine UR rfl (λP=>?_) (λP=>absurd (λh=>D (by have bK:(c:Int)=8:=h;omega)) P);refine ab.seq ?_;refine cC [0,1,2,3,4,5,6,7,8,9,-10] (ao (ao (aZ _))) ?_;apply J [49,134,109,274];apply a7 (uL af top S c H k aD i f2 aS aI f Z);intro ag cn;refine J [325,110,75] ?_;exact CM ⟨(aB.ek S.Q f (cb c:Int)).1,S.bz,dF S.C c ag,S.Fr,S.m⟩ (Qv d H an rfl cn rfl) ai
end Go.Proofs.YtglgidjhoncphaaGreatDoor
namespace Go.QM
open Go
section
variable {r : Option Nat} {P : Program} {N : Nat} {ops : Array Oper} {l : List Oper} {Q : ff} {ag : Env} {aS : List Deferred} {I : ax} {c : Code} {T : List Nat} {co : List (Nat × Bool)}
variable(n:Nat){hs s3:List ax}
theorem ab.lU{α:Type}{p:α->Prop}{B:α->List ax}(h:eO n hs=some (fj (λx=>pure' (p x) (ah (B x))),s3))(k:(∃x,p x)->ab r P N c Q ag aS (ah hs)):ab r P N c Q ag aS (ah hs):=
  λa w u hs=>let⟨x,d,_⟩:=sA n h hs;k ⟨x,d⟩ a w u hs
theorem aT.lU{α:Type}{p:α->Prop}{B:α->List ax}(h:eO n hs=some (fj (λx=>pure' (p x) (ah (B x))),s3))(k:(∃x,p x)->aT r P N ops l Q ag aS (ah hs)):aT r P N ops l Q ag aS (ah hs):=
  λa w u hs=>let⟨x,d,_⟩:=sA n h hs;k ⟨x,d⟩ a w u hs
theorem b6.lU{α:Type}{p:α->Prop}{B:α->List ax}(h:eO n hs=some (fj (λx=>pure' (p x) (ah (B x))),s3))(k:(∃x,p x)->b6 r P N ops I T co Q ag aS (ah hs)):b6 r P N ops I T co Q ag aS (ah hs):=
  λa w listed u hs=>let⟨x,d,_⟩:=sA n h hs;k ⟨x,d⟩ a w listed u hs
theorem ab.de{A:ax}{p:Prop}(h:eO n hs=some (A,s3))(u:∀d,A d->p)(k:p->ab r P N c Q ag aS (ah hs)):ab r P N c Q ag aS (ah hs):=
  λa w D hs=>by obtain⟨d,V,E,W,H,rfl,C,O⟩:=hs.bg (fI h);exact k (u E C) a w D hs
theorem aT.de{A:ax}{p:Prop}(h:eO n hs=some (A,s3))(u:∀d,A d->p)(k:p->aT r P N ops l Q ag aS (ah hs)):aT r P N ops l Q ag aS (ah hs):=
  λa w D hs=>by obtain⟨d,V,E,W,H,rfl,C,O⟩:=hs.bg (fI h);exact k (u E C) a w D hs
theorem b6.de{A:ax}{p:Prop}(h:eO n hs=some (A,s3))(u:∀d,A d->p)(k:p->b6 r P N ops I T co Q ag aS (ah hs)):b6 r P N ops I T co Q ag aS (ah hs):=
  λa w listed D hs=>by obtain⟨d,V,E,W,H,rfl,C,O⟩:=hs.bg (fI h);exact k (u E C) a w listed D hs
end
end Go.QM
namespace Go.Proofs.YtglgidjhoncphaaGreatDoor
open Go Go.QM
variable [dK]
theorem KY{L:List aB.bW}{d f lim:Int}(h:(aB.fP L d f lim).2.2.2≠0):(aB.fP L d f lim).1=L/\(aB.fP L d f lim).2.1=d/\(aB.fP L d f lim).2.2.1=0:=by unfold aB.fP at h⊢;grind
theorem KX{L:List aB.bW}{d f lim:Int}(h:(aB.fP L d f lim).2.2.2=0):aB.db L f/\aB.fP L d f lim=(L++[⟨d,f,lim,0⟩],d+1,d,0):=by unfold aB.fP at h⊢;grind
theorem KZ{L:List aB.bW}{d f lim:Int}(h:0<=d):0<=(aB.fP L d f lim).2.2.1/\(aB.fP L d f lim).2.2.1<=d:=by grind[aB.fP]
def nY(S:cL)(x:Nat)(f lim:Int):cL:=⟨(aB.fP S.Q S.bz f lim).1,(aB.fP S.Q S.bz f lim).2.1,S.C,S.Fr,dv S.m x [(aB.fP S.Q S.bz f lim).2.2.1.toNat]⟩
def rb(S:cL)(l:List av.bY)(c x:Nat)(f lim:Int)(y:cL×Int):Prop:=
  (y=(S,11)/\(av.eA l 0).length=0)\/(y=(S,0)/\(av.eA l 0).length≠0/\c≠1)\/(y=(nY S x f lim,(aB.fP S.Q S.bz f lim).2.2.2)/\(av.eA l 0).length≠0/\c=1)
theorem LO{top:Nat}{S:cL}(d:dd top S){x:Nat}(aN:c6 S 1 x)(f lim:Int):ga top S (nY S x f lim) hX (fw 1 x):=
 oK d aN rfl rfl λo h=>kP (by(have e:bG 1=64:=rfl);simp only[U9,WA];omega)
section
variable {top : Nat} {A : bQ} {S ci dD gd : cL} {c x : Nat} {f lim e : Int}
theorem AF(C:ch top A S)(g:qj top S f c x ci){i:Nat}{s:Int}{d b:Nat}{w:Int}(hs:fl s)(E:cB A.l i s (bt d b w)):¬fw c x d b:=by
 rintro⟨rfl,rfl⟩;obtain⟨u,H,f9,e,_,D⟩:=C.obj i s _ hs E;obtain⟨N,rfl,_⟩:=jz e;obtain rfl:u=d:=by omega
 exact g.n D
theorem wi(u:jA c)(d:ch top A S)(g:qj top S f c x ci){l:List av.bY}(h:rb ci l c x f lim (dD,e)):ga top ci dD hX (fw c x)/\dD.C=ci.C/\dD.Fr=ci.Fr:=by rcases h with⟨h,_⟩|⟨h,_⟩|⟨h,_,rfl⟩;cases h;exact⟨oK g.g.P g.b rfl rfl λ_ _=>rfl,rfl,rfl⟩;cases h;exact⟨oK g.g.P g.b rfl rfl λ_ _=>rfl,rfl,rfl⟩;cases h;exact⟨LO g.g.P g.b f lim,rfl,rfl⟩
theorem Ej{l:List av.bY}(h:rb ci l c x f lim (dD,e))(he:e≠0):dD.Q=ci.Q/\dD.bz=ci.bz:=by rcases h with⟨h,_⟩|⟨h,_⟩|⟨h,_,_⟩;simp_all;simp_all;cases h;have:=KY he;exact⟨this.1,this.2.1⟩
theorem FY(w:ck A)(W:A.np+2<=1000000)(D:jA c)(C:ch top A S)(g:qj top S f c x ci){l:List av.bY}(h:rb ci l c x f lim (dD,e))(he:e≠0)(k:tr top dD f c x gd):ch top {A with np:=A.np+2} gd/\ck {A with np:=A.np+2}:=by obtain⟨g1,g2,g3⟩:=wi D C g h;obtain⟨O,P⟩:=Ej h he;have N:gd.Q=A.Q/\gd.bz=A.bz:=(by rw[k.q.1,k.q.2,O,P,g.q.2.1,g.q.2.2,C.Q.1];have:=g.q.1;rw[C.Q.1]at this;rw[sZ w.d8 this];exact⟨rfl,C.Q.2⟩);have E:∀a,¬fw c x 6 a/\¬fw c x 7 a:=λa=>⟨λh=>by rcases D with D|D<;>have:=h.1<;>omega,λh=>by rcases D with D|D<;>have:=h.1<;>omega⟩;refine⟨C.mY ((g.g.trans g1).trans k.g) rfl rfl rfl rfl N (λi s d b V hs H=>?_) (λa=>?_) ?_ ?_,⟨w.ok,w.d8,w.rt,w.ac,w.cY,w.nn,w.aI,w.hJ,w.mE,w.oe,w.og,w.m3,w.pd,by have:=w.bd;dsimp only;omega⟩⟩;have:=AF C g hs H;exact⟨λh=>by rcases h with(h|h)|h;exact h;exact h;exact this h,λh=>by rcases h with(h|h)|h;exact h.elim;exact absurd h this;exact absurd h this⟩;exact⟨λh=>by rcases h with(h|h)|h;exact h;exact(E a).1 h;exact(E a).1 h,λh=>by rcases h with(h|h)|h;exact h;exact(E a).2 h;exact(E a).2 h⟩;rw[k.u,g2,g.u];have:=k.p;rw[g2,g3]at this;have:=g.p;have:=C.fY;grind
structure vu(A:bQ)(h kind lim:Int)(bl:bQ)(kl:Int):Prop where
  an:0<=kl/\kl<=4294967295
  ex:∃(c x k:Nat) (g:Int) (dx:av.fa) (Q:List aB.bW) (bz:Int) (own:Nat->Nat),kind=c/\jA c/\A.l[k]? =some ⟨dx,0,g⟩/\A.l.findIdx? av.isEmpty=some k/\kl=g*256+k/\
    bl={A with l:=A.l.set k ⟨bt c x (A.own (h %256).toNat),1,g⟩,Q:=Q,bz:=bz,own:=own,np:=A.np+2}/\(c≠1->Q=(aB.c9 A.Q (A.own (h %256).toNat) (bG c)).1/\bz=A.bz/\own=A.own)
theorem Ry{l:List av.bY}(C:av.dM l)(h:(av.eA l 0).length≠0):∃k o g,l.findIdx? av.isEmpty=some k/\l[k]? =some ⟨o,0,g⟩/\0<=g/\g<=1048575/\k<256:=by cases u:l.findIdx? av.isEmpty with|none=>rw[List.findIdx?_eq_none_iff]at u;exfalso;apply h;rw[av.eA,av.mS,VI,List.length_eq_zero_iff,WM];rintro⟨p,i⟩ d w;have hm:=US (XX.1 d);have:=u p hm;dsimp only at w;rw[av.isEmpty]at this;rw[this]at w;cases w|some k=>obtain⟨p,d,hs⟩:=av.Eo u;obtain⟨o,s,g⟩:=p;dsimp only at hs;subst hs;have:=C.c4 _ (US d);exact⟨k,o,g,rfl,d,this.1,this.2,C.lt d⟩
theorem QX{l:List av.bY}{k:Nat}{dx o:av.fa}{g:Int}(h:l.findIdx? av.isEmpty=some k)(d:l[k]? =some ⟨dx,0,g⟩):av.l7 l o=(l.set k ⟨o,1,g⟩,g*256+k,0):=by grind[av.l7]
theorem FZ(C:ck A)(cd:A.np+2<=1000000){h:Int}(a5:aB.db A.Q (A.own (h %256).toNat))(D:jA c)(V:ch top A S)(g:qj top S (A.own (h %256).toNat) c x ci)(w:rb ci A.l c x (A.own (h %256).toNat) lim (dD,0)):
 ∃bl,ch top bl dD/\ck bl/\vu A h c lim bl (av.l7 A.l (bt c x (A.own (h %256).toNat))).2.1/\bl.l=(av.l7 A.l (bt c x (A.own (h %256).toNat))).1/\(av.l7 A.l (bt c x (A.own (h %256).toNat))).2.2=0/\bl.q=A.q/\bl.now=A.now/\bl.pd=A.pd:=by
 have bQ:(av.eA A.l 0).length≠0:=(by rcases w with⟨w,_⟩|⟨_,w,_⟩|⟨_,w,_⟩;all_goals simp_all);obtain⟨k,dx,g0,ax,O,b8,b9,cb⟩:=Ry C.ok bQ;rw[QX ax O];obtain⟨g1,g2,g3⟩:=wi D V g w;have a8:bG c≠0:=by have:=(c6.bd g.g.P g.b).2.2.1;omega
 obtain⟨bc,be,bh⟩:=g.q;rw[V.Q.1]at bc be;rw[V.Q.2]at bh;have H:=jF.hJ C.d8 bc;have bN:=g.g.trans g1;have a7:∀s o,cB A.l k s o->¬fl s:=λs o ag=>(by have:=(ag.inj ⟨g0,O⟩).1;subst this;decide);have a9:∀i s (a0:Int),fl s->¬cB A.l i s (bt c x a0):=λi s a0 hs ag=>AF V g hs ag ⟨rfl,rfl⟩;have a2:∀a,¬fw c x 6 a/\¬fw c x 7 a:=λa=>⟨λh=>by rcases D with D|D<;>have:=h.1<;>omega,λh=>by rcases D with D|D<;>have:=h.1<;>omega⟩;have b0:∀s,A.aI k s=0:=C.zj ⟨g0,O⟩ (.inl am);have a4:∀(Q:List aB.bW) (bz:Int),dD.Q=Q->dD.bz=bz->ch top {A with Q:=Q,bz:=bz,np:=A.np+2} dD:=λQ bz bL aq=>(by refine V.mY bN rfl rfl rfl rfl ⟨bL,aq⟩ (λi s d b cc hs ag=>?_) (λa=>?_) (by rw[g2];exact g.u) ?_;have:=AF V g hs ag;exact⟨λh=>h.elim id id,λh=>h.elim (λh=>h.elim) λh=>absurd h this⟩;exact⟨λh=>h.elim id (a2 a).1,λh=>h.elim id (a2 a).2⟩;rw[g2,g3];have:=g.p;have:=V.fY;grind);have a3:c6 dD c x:=g1.p c x g.b λh=>h;by_cases aA:c=1;subst aA;rcases w with⟨w,_⟩|⟨_,_,w⟩|⟨w,_,_⟩;trivial;trivial;obtain⟨aV,aY⟩:=Prod.mk.inj w;rw[be,bh]at aY;obtain⟨b7,bp⟩:=KX aY.symm;have aq:0<=A.bz/\¬aB.db A.Q A.bz:=(by refine⟨?_,λ⟨t,E,he⟩=>by have:=(C.d8.rg t E).2.1;omega⟩;obtain⟨t,E,_⟩:=C.d8.root;have:=(C.d8.rg t E);omega);have ce:A.bz≠0:=λe=>aq.2 (by rw[e];exact C.d8.root);have W:dD.Q=(aB.c9 A.Q (A.own (h %256).toNat) (bG 1)).1++[⟨A.bz,A.own (h %256).toNat,lim,0⟩]/\dD.bz=A.bz+1/\dD.m=dv ci.m x [A.bz.toNat]:=(by grind[nY]);have Z:=H.d8.KW (A.own (h %256).toNat) lim;rw[bp]at Z;dsimp only at Z;have aS:=(a4 _ _ W.1 W.2.1).put (bl:={A with l:=A.l.set k ⟨bt (1:Nat) x (A.own (h %256).toNat),1,g0⟩,Q:=(aB.c9 A.Q (A.own (h %256).toNat) (bG 1)).1++[⟨A.bz,A.own (h %256).toNat,lim,0⟩],bz:=A.bz+1,own:=λi=>if i=k then A.bz.toNat else A.own i,np:=A.np+2}) a7 D a3 a9 rfl rfl (λi aG=>al aG) (λ_=>by dsimp only;rw[aw rfl,W.2.2];have:=C.bd;exact B4 U) rfl ⟨rfl,rfl,rfl⟩ (λh=>absurd h am);refine⟨_,aS,C.put O a8 a5 Z (λy N=>?_) (λy N an=>?_) (λ_=>?_) (λi aG=>al aG) U (by have:=C.bd;omega),⟨by dsimp only;omega,1,x,k,g0,dx,_,_,_,rfl,D,O,ax,rfl,rfl,λh=>absurd rfl h⟩,rfl,rfl,rfl,rfl,rfl⟩;have bY:=(H.has y).2 N;obtain⟨t,E,rfl⟩:=bY;have hm:t∈(aB.c9 A.Q (A.own (h %256).toNat) (bG 1)).1++[(⟨A.bz,A.own (h %256).toNat,lim,0⟩:aB.bW)]:=cp
 have ar:=aB.ix Z.bi hm;have bn:=aB.ix H.d8.bi E;exact⟨⟨t,hm,rfl⟩,by rw[ar.2.2.1,<-bn.2.2.1];exact H.fQ _ N,by rw[ar.2.2.2,<-bn.2.2.2];exact H.par _⟩;obtain⟨t,E,rfl⟩:=N;have ar:=aB.ix Z.bi E;rcases UQ.1 E with E|E;exact absurd ((H.has _).1 ⟨t,E,rfl⟩) an;grind;rw[aw rfl,VM aq.1];have hm:(⟨A.bz,A.own (h %256).toNat,lim,0⟩:aB.bW)∈(aB.c9 A.Q (A.own (h %256).toNat) (bG 1)).1++[(⟨A.bz,A.own (h %256).toNat,lim,0⟩:aB.bW)]:=cp
 have ar:=aB.ix Z.bi hm;exact⟨⟨_,hm,rfl⟩,aq.2,by omega,ar.2.2.2⟩;have aV:dD=ci:=(by rcases w with⟨w,_⟩|⟨w,_⟩|⟨_,_,w⟩;all_goals simp_all);have W:dD.Q=(aB.c9 A.Q (A.own (h %256).toNat) (bG c)).1/\dD.bz=A.bz:=b2
 have aS:=(a4 _ _ W.1 W.2).put (bl:={A with l:=A.l.set k ⟨bt c x (A.own (h %256).toNat),1,g0⟩,Q:=(aB.c9 A.Q (A.own (h %256).toNat) (bG c)).1,np:=A.np+2}) a7 D a3 a9 rfl rfl (λ_ _=>rfl) (λh=>absurd h aA) rfl ⟨rfl,rfl,rfl⟩ (λh=>⟨λo bq bu=>by rw[aV];exact g.z o bq (by subst h;exact bu),b0⟩);exact⟨_,aS,C.put O a8 a5 H.d8 (λy N=>⟨(H.has y).2 N,H.fQ y N,H.par y⟩) (λy N an=>absurd ((H.has y).1 N) an) (λh=>absurd h aA) (λ_ _=>rfl) U (by have:=C.bd;omega),⟨by dsimp only;omega,c,x,k,g0,dx,_,_,_,rfl,D,O,ax,rfl,rfl,λ_=>⟨rfl,rfl,rfl⟩⟩,rfl,rfl,rfl,rfl,rfl⟩
end
theorem ck.A8{A:bQ}(h:ck A){i a:Nat}{s f:Int}(hs:fl s)(d:cB A.l i s (bt 1 a f)):A.own i<=1000000:=by obtain⟨⟨t,u,he⟩,_⟩:=h.cY i s a f hs d;have:=(h.d8.rg t u).2.1;have:=h.bd;omega
theorem uF{o:av.fa}{c a:Nat}{f:Int}(h:o=bt c a f){k:Int}(d:o.k=k):o=bt k a f:=by rw[h]at d⊢;rw[<-d];rfl
variable(aO af top:Nat)
theorem LQ(A:bQ)(i a:Nat)(s f:Int)(hs:fl s)(D:cB A.l i s (bt 1 a f)):bu 100 [ae aO,.agg (ints (bt 1 a f).l).toArray] be [hA aO af top A] (aa (A.own i:Int)) [hA aO af top A]:=by
 apply aG Tryz.func100 Tryz.ntmps100;intro F _;refine J [1,235] ?_;rintro⟨N,bF,S⟩ ⟨u,C⟩;apply J [85];dsimp only at u C⊢;refine ab.open 1 rfl (λV Q=>?_);obtain⟨cH,bd,w,E⟩:=V;have d:=Q;apply J [79];dsimp only at d⊢;have P:=d.f8;have ar:2^top<=128:=UV (n:=2) am P.2;have O:=u.mC i s a f hs D;have an:=C.A8 hs D;obtain⟨bD,a9,f9,H,_,aN⟩:=u.obj i s _ hs D;obtain⟨W,rfl,rfl⟩:=jz H;obtain rfl:bD=1:=U
 have ag:=c6.bd d aN;have Z:bG 1=64:=rfl;have hw:cO S.m a<2^63:=U
 refine J [25,291] ?_;intro bb;apply J [31];refine cC [0,1,2,3,5,6,-4,-7,8,9,10,11,12] (ao (ey (aZ _))) ?_;apply J [49,274];apply aq (l6 af cH bd w E);refine J [227,45] ?_;apply aq (tA w (1024*2^top) a S.m U U U);refine J [283,167,272,275,26] ?_;refine q rfl rfl (conv .u64 .i64 rfl rfl rfl (o9 hw)) ?_;apply J [30];exact XT () [aa (cO S.m a:Int)] ⟨rfl,trivial⟩ (by rw[<-O];rfl) trivial (ay (⟨N,bF,S⟩:fk) ⟨u,C⟩ (bI 6 rfl (ay (dR.mk cH bd w E:dR af) d ai)))
theorem DF(A:bQ)(h:Int)(w:0<=h/\h<=4294967295):bu 46 [ae aO,aR h] be [hA aO af top A] (.tuple #[aa (mD A h).1,aa (mD A h).2]) [hA aO af top A]:=by apply aG Tryz.func46 Tryz.ntmps46;intro F _;apply J [1];refine ab.lU 0 rfl (λV=>?_);obtain⟨⟨_,_,_⟩,Q,an⟩:=V;apply J [215,32];apply aq (jG aO af top A h w 1);refine J [5,267] ?_;intro bo;apply J [115,34];apply UR rfl<;>intro g0;rw[show mD A h=(0,(bT A.l h 1).2)from al g0];apply J [187];exact hR ai;have g0:=UT g0;obtain⟨i,C,W,E,H,Z,ag,N,O,d⟩:=i8 w.1 g0;have d:=d.resolve_left am;have u:cB A.l i 1 C.o:=⟨C.c4,by rw[<-H];exact E⟩;obtain⟨bD,a9,f9,P,_,_⟩:=Q.obj i 1 _ (.inl rfl) u;have D:=uF P d;rw[show mD A h=((A.own i:Int),0)by rw[mD,aw g0,N]];rw[O];dsimp only;rw[D]at u⊢;apply J [4,265,0];apply aq (LQ aO af top A i a9 1 f9 (.inl rfl) u);apply J [7,69];exact hR ai
theorem Dm(u bF top:Nat)(S:cL)(l:List av.bY)(ax:av.dM l)(c x:Nat)(f lim:Int)(V:dd top S)(aN:c6 S c x)(Z:0<=S.bz/\S.bz<=1000000):bL 132 [ae aO,.agg (ints (bt (c:Int) x f).l).toArray,aa lim] be [aj aO 135 [ae af,ae u,ae bF],a1 264 5 (cK u) 256 256 (av.gn l),e6 af top S] (λy:cL×Int=>aa y.2) (λy=>rb S l c x f lim y) (λy=>[aj aO 135 [ae af,ae u,ae bF],a1 264 5 (cK u) 256 256 (av.gn l),e6 af top y.1]):=by
 apply aG Tryz.func132 Tryz.ntmps132;intro F _;refine J [86,25,291] ?_;intro cl;apply J [31,67,0];apply eE (av.Rz u l ax) ⟨_,bn.rd (ad:=some ⟨u,0,none⟩)⟩;apply J [10,246];apply UR rfl<;>intro g0;apply J [196];exact br (S,11) (.inl ⟨rfl,by omega⟩) ai;apply J [44,111,91,3];apply UR rfl<;>intro g1;apply J [196];exact br (S,0) (.inr (.inl ⟨rfl,by omega,λh=>g1 (by subst h;rfl)⟩)) ai;obtain rfl:c=1:=by have bK:((c:Nat):Int)=1:=UT g1;omega
 refine ab.open 3 rfl (λaV aS=>?_);obtain⟨cH,bd,d,H⟩:=aV;have ar:=aS;apply J [79];dsimp only at ar⊢;have aI:=V.f8;have a4:2^top<=128:=UV (n:=2) am aI.2;have a2:=c6.bd V aN;have a0:bG 1=64:=rfl;have W:dd top (nY S x f lim):=by grind[dd,nY]
 obtain⟨an,aY⟩:=KZ (L:=S.Q) (f:=f) (lim:=lim) Z.1;apply J [44];skip;refine cC [0,1,2,3,4,5,6,7,8,9,-10,11,12,13,14,15] (ao (eL (eL (aZ _)))) ?_;apply J [49,88,109,134,249];apply aq (aB.Q2 cH S.Q S.bz f lim Z.2);refine J [232,6] ?_;generalize a3:(aB.fP S.Q S.bz f lim).2.2.1=ag at*;obtain⟨N,rfl⟩:∃n:Nat,ag=(n:Int):=⟨ag.toNat,(VM an).symm⟩;apply J [167,272,275,8];refine ab.n1 _ [] 11 rfl aM aM (ey (ey (aZ _))) ?_;refine J [322,415,416,443] ?_;refine cW (i:=5) rfl rfl rfl aM (cY 1 rfl rfl) ?_;refine J [530] ?_;refine cW (i:=7) rfl rfl rfl aM (e8 (v:=.int _ _) rfl) ?_;refine cW (i:=8) rfl rfl rfl aM (conv .i64 .u64 rfl rfl rfl (p7 U)) ?_;refine jJ (i:=4) (j:=9) rfl rfl rfl rfl aM ?_ ?_;apply aq (l6 af cH bd d H);change aF _ _/\dS _ _ _ _ _ _ _ _ _ _ _ (ah [_,_,_,_,_,_,_,_,_]);refine⟨ai,?_⟩;refine dS.of [(9,true),(10,true)] aM rfl ?_;refine J [12,149] ?_;intro O;refine J [45] ?_;apply eE (lK d (1024*2^top) x S.m [N] (cK O) 1 U cE jv U (by intro x E;simp only[U0,UZ,or_false]at E;subst E;omega)) ⟨_,bn.rd (ad:=some ⟨O,0,none⟩)⟩;refine J [227,110,133] ?_;have w:nY S x f lim=⟨(aB.fP S.Q S.bz f lim).1,(aB.fP S.Q S.bz f lim).2.1,S.C,S.Fr,dv S.m x [N]⟩:=by grind[nY]
 have D:=W;rw[w]at D;exact br (nY S x f lim,(aB.fP S.Q S.bz f lim).2.2.2) (.inr (.inr ⟨rfl,by omega,rfl⟩)) (by rw[w];exact(bI 7 rfl (bI 7 rfl (ay (dR.mk cH bd d H:dR af) D ai))));refine J [149] ?_;intro P;refine⟨ai,?_⟩;refine dS.of [(4,true),(10,true)] aM rfl ?_;refine dJ rfl rfl ?_;apply aq (l6 af cH bd d H);refine J [227,45] ?_;apply eE (lK d (1024*2^top) x S.m [N] (cK P) 1 U cE jv U (by intro x E;simp only[U0,UZ,or_false]at E;subst E;omega)) ⟨_,bn.rd (ad:=some ⟨P,0,none⟩)⟩;refine J [227,110,133] ?_;have w:nY S x f lim=⟨(aB.fP S.Q S.bz f lim).1,(aB.fP S.Q S.bz f lim).2.1,S.C,S.Fr,dv S.m x [N]⟩:=by grind[nY]
 have D:=W;rw[w]at D;exact br (nY S x f lim,(aB.fP S.Q S.bz f lim).2.2.2) (.inr (.inr ⟨rfl,by omega,rfl⟩)) (by rw[w];exact(bI 7 rfl (bI 7 rfl (ay (dR.mk cH bd d H:dR af) D ai))))
def w1(k lim:Int):Prop:=(k=8\/1<=k/\k<=5)/\¬(k=1/\lim<0)
def Gb(A bl:bQ):Prop:=bl=A\/bl={A with np:=A.np+2}
def qg(top:Nat)(A:bQ)(h k lim:Int):Prop:=(bT A.l h 1).2≠0\/¬w1 k lim\/k=1\/(∃c:Nat,k=c/\(aB.c9 A.Q (A.own (h %256).toNat) (bG c)).2≠0)\/2^top<=A.np\/(av.eA A.l 0).length=0
def JG(top:Nat)(A:bQ)(h k lim:Int)(y:bQ×Int×Int):Prop:=
  (y.2.2=0/\vu A h k lim y.1 y.2.1/\(bT A.l h 1).2=0)\/(y.2.2≠0/\y.2.1=0/\Gb A y.1/\qg top A h k lim)
variable{lim:Int}
theorem Fs{k:Int}(h:w1 k lim):∃c:Nat,k=c/\jA c:=by refine⟨k.toNat,?_,?_⟩;rcases h.1 with h|h<;>omega;rcases h.1 with h|h;exact .inr U;exact .inl U
theorem Ek{d:cL}{l:List av.bY}{c x:Nat}{f:Int}{y:cL×Int}(h:rb d l c x f lim y)(he:y.2≠0):c=1\/(av.eA l 0).length=0:=by rcases h with⟨_,h⟩|⟨h,_⟩|⟨_,_,h⟩;all_goals simp_all
theorem G9{top:Nat}{A:bQ}{S d:cL}{c x:Nat}{f:Int}{y:cL×Int}(w:ck A)(u:ch top A S)(g:qj top S f c x d){l:List av.bY}(h:rb d l c x f lim y)(he:y.2≠0):(aB.ek y.1.Q f (bG c)).2=0:=by have C:=(Ej (dD:=y.1) (e:=y.2) h he).1;have:=g.q.1;rw[u.Q.1]at this;rw[C,g.q.2.1,u.Q.1,sZ w.d8 this]
theorem Lf(k:Int):bu 130 [aa k] be [] (.bool (decide (k=8\/1<=k/\k<=5))) []:=by apply aG Tryz.func130 Tryz.ntmps130;intro F _;apply J [9];by_cases u:k=8;subst u;refine J [241,183,476,51,161,161,340,132] ?_;exact j8;apply J [241,183];refine Ve 5 rfl (c:=false) (dk u) ?_;apply J [11,306,317];refine aT.split 8 rfl (λd=>?_) (λd=>?_);have d:=dt d;apply J [11,289,348,68];exact sb;have d:=dX d;apply J [47,386,68];exact sc
theorem Dx(A:bQ)(h:Int)(a3:0<=h/\h<=4294967295)(k lim:Int)(an:A.np+2<=1000000):bL 85 [ae aO,aR h,aa k,aa lim] c7 [hA aO af top A] (λy:bQ×Int×Int=>.tuple #[aR y.2.1,aa y.2.2]) (λy=>JG top A h k lim y) (λy=>[hA aO af top y.1]):=by
 apply aG Tryz.func85 Tryz.ntmps85;intro F b0;apply J [1];haveI:cz F:=⟨b0⟩;apply J [215,32];apply aq (DF aO af top A h a3);apply J [5,125,258];apply UR rfl<;>intro g0;have g1:(bT A.l h 1).2≠0:=λe=>g0 (by rw[mD,aw e]);rw[show mD A h=(0,(bT A.l h 1).2)from al g1];apply J [26,116];exact cN (A,0,(bT A.l h 1).2) (.inr ⟨g1,rfl,.inl rfl,.inl g1⟩) ai;have g1:(bT A.l h 1).2=0:=VB λe=>g0 (show(mD A h).2≠0 by rw[mD,al e];exact e);rw[show mD A h=((A.own (h %256).toNat:Int),0)from aw g1];dsimp only;apply J [169];apply aq (Lf k);apply J [5];by_cases g2:k=8\/1<=k/\k<=5;rw[c1 g2];apply J [89,20,11,156,317];refine aT.split 32 rfl (λg3=>?_) (λg3=>?_);have g3:=dt g3;apply J [190,348,206];apply UR rfl<;>intro g4;apply J [179];exact cN (A,0,1) (.inr ⟨(show(1:Int)≠0 by decide),rfl,.inl rfl,.inr (.inl λh=>h.2 ⟨g3,g4⟩)⟩) ai;have g5:w1 k lim:=⟨g2,λh=>by omega⟩;obtain⟨c,rfl,D⟩:=Fs g5;have b7:∀z:Prop,z=z:=λ_=>rfl;refine J [23,35,2,433] ?_;rintro⟨w,bF,S⟩ ⟨u,d⟩;apply J [10];dsimp only at u d⊢;obtain⟨i,ag,bu,aI,aS,bG,bW,aV,bY,E⟩:=i8 a3.1 g1;have E:=E.resolve_left am;have N:cB A.l i 1 ag.o:=⟨ag.c4,by rw[<-aS];exact aI⟩;obtain⟨bD,a9,f9,aY,_,_⟩:=u.obj i 1 _ (.inl rfl) N;have ax:=uF aY E;have a2:aB.db A.Q (A.own (h %256).toNat):=(by rw[ax]at N;rw[aV];exact(d.cY i 1 a9 f9 (.inl rfl) N).1);have a4:0<=A.bz/\A.bz<=1000000:=(by obtain⟨t,a5,_⟩:=d.d8.root;have:=d.d8.rg t a5;have:=d.bd;omega);refine e rfl ?_;apply a7 (Dn aO af w bF top S (A.own (h %256).toNat) c D);intro⟨bn,ci,cm⟩ W;apply J [10];cases bn with|none=>?_|some x=>?_
 obtain⟨he,rfl,Z⟩:=W;dsimp only[sU];have H:qg top A h c lim:=(by rw[u.Q.1]at Z;rcases Z with hw|⟨_,hw⟩;exact .inr (.inr (.inr (.inl ⟨c,rfl,by rw[<-hw];exact he⟩)));exact .inr (.inr (.inr (.inr (.inl (We hw u.fY))))));apply J [125,34];refine UR rfl (λbp=>?_) (λbp=>absurd (he) bp);apply J [187];exact cN (A,0,cm) (.inr ⟨he,rfl,.inl rfl,H⟩) (ay (⟨w,bF,ci⟩:fk) ⟨u,d⟩ ai);obtain⟨rfl,cn⟩:=W;dsimp only[sU];refine J [125,198,26,120,230,0,225] ?_;intro bb;apply J [96,29,265,28];apply a7 (Dm aO af w bF top ci A.l d.ok c x (A.own (h %256).toNat) lim cn.g.P cn.b (by rw[cn.q.2.2,u.Q.2];exact a4));intro⟨dD,cm⟩ C;apply J [14,126];apply UR rfl<;>intro g6;obtain⟨bN,b8,b9⟩:=wi D u cn C;apply J [265,0];apply a7 (v6 aO af w bF top dD c x (A.own (h %256).toNat) D (bN.p c x cn.b λh=>h) (G9 (y:=(dD,cm)) d u cn C g6));intro gd a0;apply J [14];obtain⟨O,V⟩:=FY d an D u cn C g6 a0;have H:qg top A h c lim:=(by rcases Ek (y:=(dD,cm)) C g6 with hw|hw;exact .inr (.inr (.inl (by subst hw;rfl)));exact .inr (.inr (.inr (.inr (.inr hw)))));apply J [3,187];exact cN ({A with np:=A.np+2},0,cm) (.inr ⟨g6,rfl,.inr rfl,H⟩) (ay (⟨w,bF,gd⟩:fk) ⟨O,V⟩ ai);obtain rfl:cm=0:=UT g6;obtain⟨ar,O,V,a8,bc,be,bh,bi,bl⟩:=FZ d an a2 D u cn C;apply J [44];refine cC [0,1,2,3,4,-5,6,7,8,9] (show aF (ah _) (ah [aj bb 60 (ints (bt (c:Int) x (A.own (h %256).toNat)).l),aj aO 135 [ae af,ae w,ae bF]])from ai) ?_;apply J [123,311,12];apply aq (av.od w A.l (bt (c:Int) x (A.own (h %256).toNat)) d.ok);refine J [237,6] ?_;rw[be];apply J [272,275,148];exact cN (ar,(av.l7 A.l (bt (c:Int) x (A.own (h %256).toNat))).2.1,0) (.inl ⟨rfl,a8,g1⟩) (by rw[<-bc,<-bh,<-bi,<-bl];exact(ay (⟨w,bF,dD⟩:fk) ⟨O,V⟩ ai));have g3:=dX g3;have g5:w1 k lim:=⟨g2,λh=>g3 h.1⟩;apply J [47,386,144,189];obtain⟨c,rfl,D⟩:=Fs g5;have b7:∀z:Prop,z=z:=λ_=>rfl;refine J [23,35,2,433] ?_;rintro⟨w,bF,S⟩ ⟨u,d⟩;apply J [10];dsimp only at u d⊢;obtain⟨i,ag,bu,aI,aS,bG,bW,aV,bY,E⟩:=i8 a3.1 g1;have E:=E.resolve_left am;have N:cB A.l i 1 ag.o:=⟨ag.c4,by rw[<-aS];exact aI⟩;obtain⟨bD,a9,f9,aY,_,_⟩:=u.obj i 1 _ (.inl rfl) N;have ax:=uF aY E;have a2:aB.db A.Q (A.own (h %256).toNat):=(by rw[ax]at N;rw[aV];exact(d.cY i 1 a9 f9 (.inl rfl) N).1);have a4:0<=A.bz/\A.bz<=1000000:=(by obtain⟨t,a5,_⟩:=d.d8.root;have:=d.d8.rg t a5;have:=d.bd;omega);refine e rfl ?_;apply a7 (Dn aO af w bF top S (A.own (h %256).toNat) c D);intro⟨bn,ci,cm⟩ W;apply J [10];cases bn with|none=>?_|some x=>?_
 obtain⟨he,rfl,Z⟩:=W;dsimp only[sU];have H:qg top A h c lim:=(by rw[u.Q.1]at Z;rcases Z with hw|⟨_,hw⟩;exact .inr (.inr (.inr (.inl ⟨c,rfl,by rw[<-hw];exact he⟩)));exact .inr (.inr (.inr (.inr (.inl (We hw u.fY))))));apply J [125,34];refine UR rfl (λbq=>?_) (λbq=>absurd (he) bq);apply J [187];exact cN (A,0,cm) (.inr ⟨he,rfl,.inl rfl,H⟩) (ay (⟨w,bF,ci⟩:fk) ⟨u,d⟩ ai);obtain⟨rfl,cn⟩:=W;dsimp only[sU];refine J [125,198,26,120,230,0,225] ?_;intro bo;apply J [96,29,265,28];apply a7 (Dm aO af w bF top ci A.l d.ok c x (A.own (h %256).toNat) lim cn.g.P cn.b (by rw[cn.q.2.2,u.Q.2];exact a4));intro⟨dD,cm⟩ C;apply J [14,126];apply UR rfl<;>intro g6;obtain⟨bN,b8,b9⟩:=wi D u cn C;apply J [265,0];apply a7 (v6 aO af w bF top dD c x (A.own (h %256).toNat) D (bN.p c x cn.b λh=>h) (G9 (y:=(dD,cm)) d u cn C g6));intro gd a0;apply J [14];obtain⟨O,V⟩:=FY d an D u cn C g6 a0;have H:qg top A h c lim:=(by rcases Ek (y:=(dD,cm)) C g6 with hw|hw;exact .inr (.inr (.inl (by subst hw;rfl)));exact .inr (.inr (.inr (.inr (.inr hw)))));apply J [3,187];exact cN ({A with np:=A.np+2},0,cm) (.inr ⟨g6,rfl,.inr rfl,H⟩) (ay (⟨w,bF,gd⟩:fk) ⟨O,V⟩ ai);obtain rfl:cm=0:=UT g6;obtain⟨ar,O,V,a8,bc,be,bh,bi,bl⟩:=FZ d an a2 D u cn C;apply J [44];refine cC [0,1,2,3,4,-5,6,7,8,9] (show aF (ah _) (ah [aj bo 60 (ints (bt (c:Int) x (A.own (h %256).toNat)).l),aj aO 135 [ae af,ae w,ae bF]])from ai) ?_;apply J [123,311,12];apply aq (av.od w A.l (bt (c:Int) x (A.own (h %256).toNat)) d.ok);refine J [237,6] ?_;rw[be];apply J [272,275,148];exact cN (ar,(av.l7 A.l (bt (c:Int) x (A.own (h %256).toNat))).2.1,0) (.inl ⟨rfl,a8,g1⟩) (by rw[<-bc,<-bh,<-bi,<-bl];exact(ay (⟨w,bF,dD⟩:fk) ⟨O,V⟩ ai));rw[dk g2];apply J [89,20,51,161,161,340,140,55,116];exact cN (A,0,1) (.inr ⟨(show(1:Int)≠0 by decide),rfl,.inl rfl,.inr (.inl λh=>g2 h.1)⟩) ai
section
variable (K : Int → List Int) (fi : Int → Nat)
def nZ:Nat->Int->List Int
  | 0,x=>[x]
  | n+1,x=>(K x).flatMap (nZ n)++[x]
def hk(x:Int):List Int:=nZ K (fi x) x
end
structure lG(K:Int->List Int)(fi:Int->Nat):Prop where
  lt:∀x,∀z∈K x,fi z<fi x
  bi:∀x,(K x).Nodup
  un:∀x y z,z∈K x->z∈K y->x=y
section
variable {K : Int → List Int} {fi : Int → Nat}
theorem zA{α β:Type}{f g:α->List β}:∀{l:List α},(∀a∈l,f a=g a)->l.flatMap f=l.flatMap g
 | [],_=>rfl
 | a::l,h=>by rw[Vf,Vf,h a cE,zA λb d=>h b (by simp[d])]
theorem Es{f:Int->List Int}:∀{l:List Int},l.Nodup->(∀a∈l,(f a).Nodup)->(∀a∈l,∀b∈l,a≠b->∀z,z∈f a->z∈f b->False)->(l.flatMap f).Nodup
 | [],_,_,_=>by rw[List.flatMap_nil];exact VD
 | a::l,an,u,C=>by obtain⟨O,P⟩:=U6.1 an;rw[Vf,Vg];refine⟨u a cE,Es P (λb d=>u b (by simp[d])) λb d c H=>C b (by simp[d]) c (by simp[H]),λz N w hw e=>?_⟩;obtain⟨b,d,E⟩:=VA.1 hw;exact C a cE b (by simp[d]) (λD=>O (D▸d)) z N (e▸E)
theorem zz{f:Int->List Int}{y:Int}:∀{l L R:List Int},l.flatMap f=L++y::R->∃a∈l,∃L' u,f a=L'++y::u/\∀z∈L',z∈L
 | [],L,R,h=>by rw[List.flatMap_nil]at h;cases L<;>cases h
 | a::l,L,R,h=>by rw[Vf]at h;rcases Yf.1 h with⟨O,D,d⟩|⟨C,D,d⟩;obtain⟨b,N,L',u,E,H⟩:=zz d;exact⟨b,by simp[N],L',u,E,λz w=>by rw[D];exact UQ.2 (.inr (H z w))⟩;cases C with|nil=>rw[VR]at d;obtain⟨b,N,L',u,E,H⟩:=zz (L:=[]) (y:=y) (R:=R) (l:=l) (f:=f) (by rw[VR];exact d.symm);exact⟨b,by simp[N],L',u,E,λz w=>absurd (H z w) cE⟩|cons c C=>rw[Xa]at d;obtain⟨rfl,P⟩:=WV d;exact⟨a,by simp,L,C,D,λz w=>w⟩
theorem lG.nil(h:lG K fi){x:Int}(e:fi x=0):K x=[]:=by rw[List.eq_nil_iff_forall_not_mem];intro z d;have:=h.lt x z d;omega
theorem DM(h:lG K fi):∀(n m:Nat) (x:Int),fi x<=n->fi x<=m->nZ K n x=nZ K m x
 | 0,0,_,_,_=>rfl
 | 0,m+1,x,d,_=>by rw[nZ,nZ,h.nil U];rfl
 | n+1,0,x,_,u=>by rw[nZ,nZ,h.nil U];rfl
 | n+1,m+1,x,d,u=>by rw[nZ,nZ];congr 1;refine zA λz w=>?_;have:=h.lt x z w;exact DM h n m z U U
theorem o0(h:lG K fi)(x:Int):hk K fi x=(K x).flatMap (hk K fi)++[x]:=by rw[hk];cases an:fi x with|zero=>rw[h.nil an];rfl|succ n=>rw[nZ];congr 1;refine zA λz d=>?_;have:=h.lt x z d;exact DM h _ _ z U (UW _)
theorem xu(h:lG K fi){x z:Int}:z∈hk K fi x↔z=x\/∃y∈K x,z∈hk K fi y:=by rw[o0 h,UQ,VA,UP];grind
theorem uM(h:lG K fi)(x:Int):x∈hk K fi x:=(xu h).2 (.inl rfl)
theorem xt(h:lG K fi):∀(n:Nat) (x z:Int),fi x<=n->z∈hk K fi x->fi z<=fi x
 | n,x,z,an,w=>by rcases(xu h).1 w with rfl|⟨y,u,d⟩;exact UW _;have C:=h.lt x y u;cases n with|zero=>omega|succ n=>have:=xt h n y z U d;omega
theorem rS(h:lG K fi):∀(n:Nat) (x z:Int),fi x<=n->z∈hk K fi x->z=x\/∃y,z∈K y/\y∈hk K fi x
 | n,x,z,an,E=>by rcases(xu h).1 E with rfl|⟨y,d,u⟩;exact .inl rfl;have H:=h.lt x y d;cases n with|zero=>omega|succ n=>rcases rS h n y z U u with rfl|⟨w,C,D⟩;exact .inr ⟨x,d,uM h x⟩;exact .inr ⟨w,C,(xu h).2 (.inr ⟨y,d,D⟩)⟩
theorem GX(h:lG K fi)(a b:Int):∀(n:Nat) (z:Int),fi a+fi b<=n+fi z->z∈hk K fi a->z∈hk K fi b->a∈hk K fi b\/b∈hk K fi a
 | n,z,an,D,E=>by rcases rS h _ a z (UW _) D with rfl|⟨y,d,u⟩;exact .inl E;rcases rS h _ b z (UW _) E with rfl|⟨w,H,C⟩;exact .inr D;have:=h.un y w z d H;subst this;have N:=h.lt y z d;have O:=xt h _ a y (UW _) u;have P:=xt h _ b y (UW _) C;cases n with|zero=>omega|succ n=>exact GX h a b n y U u C
theorem Bh(h:lG K fi):∀(n:Nat) (x:Int),fi x<=n->(hk K fi x).Nodup
 | n,x,an=>by
  rw[o0 h,Vg];have N:∀y∈K x,x∉hk K fi y:=λy w Q=>(by have:=xt h _ y x (UW _) Q;have:=h.lt x y w;omega);refine⟨?_,by simp,λa D b u e=>?_⟩;refine Es (h.bi x) (λy w=>?_) λa D b u O z C P=>?_;have C:=h.lt x y w;cases n with|zero=>omega|succ n=>exact Bh h n y U
  rcases GX h a b _ z (Nat.le_add_right _ _) C P with E|E;rcases rS h _ b a (UW _) E with d|⟨y,d,H⟩;exact O d;have:=h.un x y a D d;subst this;exact N b u H;rcases rS h _ a b (UW _) E with d|⟨y,d,H⟩;exact O d.symm;have:=h.un x y b u d;subst this;exact N a D H;rw[UP]at u;obtain⟨y,w,C⟩:=VA.1 D;exact N y w (by rw[<-u,<-e];exact C)
theorem Bi(h:lG K fi):∀(n:Nat) (x:Int),fi x<=n->∀(L R:List Int) (y z:Int),hk K fi x=L++y::R->z∈K y->z∈L
 | n,x,an,L,R,y,z,e,w=>by
  rw[o0 h]at e;rcases Yf.1 e with⟨C,u,d⟩|⟨D,u,d⟩;cases C with|nil=>rw[VR]at d;obtain⟨rfl,_⟩:=WV d;rw[u,VK];exact VA.2 ⟨z,w,uM h z⟩|cons a C=>have:=congrArg List.length d;simp at this
  cases D with|nil=>rw[VR]at d;obtain⟨rfl,_⟩:=WV d;rw[VK]at u;rw[<-u];exact VA.2 ⟨z,w,uM h z⟩|cons c D=>rw[Xa]at d;obtain⟨rfl,_⟩:=WV d;obtain⟨a,P,E,H,N,O⟩:=zz u;have Q:=h.lt x a P;(cases n with|zero=>omega|succ n=>exact O z (Bi h n a U E H y z N w))
end
theorem oX(k:IntKind)(xs ys:List Int):cT k xs++cT k ys=cT k (xs++ys):=by simp[cT]
def eK(A:bQ)(h:Int):List Int:=if(bT A.l h 1).2=0 then(av.eA A.l 1).filter λx=>decide ((av.cR A.l x).1.f=(A.own (h %256).toNat:Int)/\x≠0)else[]
def jw(A:bQ)(h:Int):Nat:=if(bT A.l h 1).2=0 then 2000000-A.own (h %256).toNat else 0
theorem vH{l:List av.bY}(w:av.dM l){h s:Int}:h∈av.eA l s↔∃(i:Nat) (p:av.bY),l[i]? =some p/\p.st=s/\h=p.c4*256+i:=by rw[av.eA,av.mS,U3];constructor;grind;rintro⟨i,p,d,u,rfl⟩;exact⟨(p,i),U8.2 ⟨XX.2 d,c1 u⟩,rfl⟩
theorem oA{l:List av.bY}(d:av.dM l){h:Int}:h∈av.eA l 1↔0<=h/\(av.cR l h).2=0:=by rw[vH d];constructor;rintro⟨i,p,u,w,rfl⟩;have C:=d.lt u;have:=d.c4 p (US u);grind[av.cR,wZ];grind[oM]
theorem rm(l:List av.bY)(w:av.dM l)(s:Int):(av.eA l s).Nodup:=by rw[av.eA,av.mS,List.Nodup,WO];refine List.Pairwise.filter _ ?_;rw[List.pairwise_iff_getElem];intro i j d u C e;rw[List.getElem_zipIdx,List.getElem_zipIdx]at e;dsimp only at e;rw[List.length_zipIdx,w.n]at d u;omega
theorem nd{l:List av.bY}(d:av.dM l){h s:Int}(hm:h∈av.eA l s):0<=h/\h<=4294967295:=by obtain⟨i,p,u,_,rfl⟩:=(vH d).1 hm;have w:=d.lt u;have:=d.c4 p (US u);omega
variable{A:bQ}
theorem n9{h z:Int}:z∈eK A h↔(bT A.l h 1).2=0/\z∈av.eA A.l 1/\(av.cR A.l z).1.f=(A.own (h %256).toNat:Int)/\z≠0:=by rw[eK];simp_all
theorem ck.xk(h:ck A){x:Int}(C:0<=x)(e:(bT A.l x 1).2=0)(O:∀i o,cB A.l i 1 o->o.k=1->∃a f,o=bt 1 a f):∃i a f,cB A.l i 1 (bt 1 a f)/\(x %256).toNat=i/\A.own i<=1000000/\(av.cR A.l x).1.f=f/\∃g:Int,x=g*256+i/\A.l[i]? =some ⟨bt 1 a f,1,g⟩:=by obtain⟨i,p,D,d,E,P,H,N,w,u⟩:=i8 C e;have u:=u.resolve_left am;obtain⟨o,s,g⟩:=p;dsimp only at*;subst E;obtain⟨a,f,rfl⟩:=O i o ⟨g,d⟩ u;refine⟨i,a,f,⟨g,d⟩,N,h.A8 (.inl rfl) ⟨g,d⟩,?_,g,H,d⟩;rw[pU (by rw[av.cR,D];exact u)]at w;rw[w];rfl
theorem ck.O0(h:ck A)(D:∀i o,cB A.l i 1 o->o.k=1->∃a f,o=bt 1 a f)(a2:∀x:Int,x<0->(bT A.l x 1).2≠0):lG (eK A) (jw A):=by
 have u:∀x,(bT A.l x 1).2=0->0<=x:=cp
 refine⟨λx z ax=>?_,λx=>?_,λx y z ar av=>?_⟩;obtain⟨d,ag,w,aV⟩:=n9.1 ax;obtain⟨i,a,f,H,C,an,_,_⟩:=h.xk (u x d) d D;rw[jw,jw,aw d,C];rw[C]at w;split;rename_i e;obtain⟨j,b,E,bN,aG,O,aI,g,P,Q⟩:=h.xk (u z e) e D;rw[aG];rw[aI]at w;have aq:j≠0:=λZ=>(by subst Z;obtain⟨⟨a0,bK⟩,_⟩:=h.rt;simp_all);obtain⟨V,W⟩:=h.cY j 1 b E (.inl rfl) bN;obtain⟨a3,aA⟩:=W aq;obtain⟨t,N,he⟩:=V;rw[<-he,(aB.ix h.d8.bi N).2.2.2]at aA;have:=(h.d8.par t N U).2;omega;omega;rw[eK];split;exact(rm A.l h.ok 1).sublist Wg;trivial;obtain⟨d,ag,w,_⟩:=n9.1 ar;obtain⟨bN,_,O,_⟩:=n9.1 av;obtain⟨i,a,f,H,C,_,_,g,an,aY⟩:=h.xk (u x d) d D;obtain⟨j,b,E,P,Q,_,_,aS,V,W⟩:=h.xk (u y bN) bN D;rw[C]at w;rw[Q]at O;have:=h.nn i j 1 1 a b f E (.inl rfl) (.inl rfl) H P U;simp_all
def fr(A:bQ)(h:Int):List Int:=(eK A h).flatMap (hk (eK A) (jw A))
theorem ch.bN{top:Nat}{S:cL}(h:ch top A S):∀i o,cB A.l i 1 o->o.k=1->∃a f,o=bt 1 a f:=λi o d u=>by
 obtain⟨c,a,f,e,_⟩:=h.obj i 1 o (.inl rfl) d
 exact⟨a,f,uF e u⟩
theorem Dw(aO af top:Nat)(A:bQ)(h:Int)(V:0<=h/\h<=4294967295):bL 308 [ae aO,aR h] be [hA aO af top A] (λy:Option Addr×Nat=>.slice y.1 (eK A h).length y.2) (λ_=>True) (λy=>[a1 33 1 y.1 (eK A h).length y.2 (cT .u32 (eK A h)),hA aO af top A]):=by
 apply aG Tryz.func308 Tryz.ntmps308;intro F _;apply J [1,121,121,32];apply aq (DF aO af top A h V);apply J [5,125,34];apply UR rfl<;>intro g0;have g1:(bT A.l h 1).2≠0:=λe=>g0 (by rw[mD,aw e]);rw[show eK A h=[]from al g1];apply J [121,75];exact br (none,0) trivial ((dH 33 1 _).trans ai);have g1:(bT A.l h 1).2=0:=VB λe=>g0 (show(mD A h).2≠0 by rw[mD,al e];exact e);rw[show mD A h=((A.own (h %256).toNat:Int),0)from aw g1];dsimp only;rw[show eK A h=(av.eA A.l 1).filter (λx=>decide ((av.cR A.l x).1.f=(A.own (h %256).toNat:Int)/\x≠0))from aw g1];generalize aV:(λx=>decide ((av.cR A.l x).1.f=(A.own (h %256).toNat:Int)/\x≠0))=pr;apply ab.open 0 rfl;rintro⟨w,bF,S⟩ ⟨E,C⟩;apply J [85];dsimp only at E C⊢;apply J [44,67,0];apply eQ (av.FF w A.l C.ok) ⟨_,bn.rd (ad:=some ⟨w,0,none⟩)⟩;intro y _;apply J [14];have Q:∀z∈av.eA A.l 1,0<=z/\z<=4294967295:=λz=>nd C.ok;have hle:=av.qp A.l 1;rw[C.ok.n]at hle;generalize ar:av.eA A.l 1=d at*;apply J [288,114];refine ab.loop (ι:=Nat×Option Addr×Nat) (λs=>s.1<=d.length) (λs=>[(0,ae aO),(1,aR h),(5,.slice s.2.1 ((d.take s.1).filter pr).length s.2.2),(6,aa (A.own (h %256).toNat:Int)),(24,.slice y.1 d.length y.2),(25,aa d.length),(26,aa ((s.1:Nat):Int))]) (λs=>ah [a1 33 1 s.2.1 ((d.take s.1).filter pr).length s.2.2 (cT .u32 ((d.take s.1).filter pr)),a1 33 1 y.1 d.length y.2 (cT .u32 d),aj aO 135 [ae af,ae w,ae bF],e6 af top S,a1 264 5 (cK w) 256 256 (av.gn A.l),hq.eF bF A.pd A.now A.q,F]) (λs=>d.length-s.1) (0,none,0) (Nat.zero_le _) bC ((dH 33 1 _).trans ai) ?_;rintro⟨k,ad,cap⟩ W a0;dsimp only[cr]at W⊢;apply J [43];apply UR rfl<;>intro aI;have Z:k<d.length:=U
 obtain⟨z,N⟩:∃z,d[k]? =some z:=⟨d[k],UO Z⟩;have aS:0<(cT .u32 d).length:=by grind[jR]
 have aB:k<(cT .u32 d).length:=by grind[jR]
 have ag:=Q z (US N);have aY:(d.take (k+1)).filter pr=(d.take k).filter pr++if pr z=true then[z]else[]:=(by grind[List.take_succ]);have ax:((d.take k).filter pr).length<=256:=cp;refine J [243,392] ?_;refine q rfl rfl (dC rfl rfl (pT N)) ?_;apply J [27,67,28];apply eE (av.Ev w A.l z C.ok ag) ⟨_,bn.rd (ad:=some ⟨w,0,none⟩)⟩;refine J [16,267] ?_;intro bb;apply J [96,27,24,54,2,183];refine aT.split 43 rfl (λD=>?_) (λD=>?_);have D:=dt D;apply J [11,158,182];apply UR rfl<;>intro an;have H:pr z=true:=cp
 have u:(d.take (k+1)).filter pr=(d.take k).filter pr++[z]:=b2
 refine J [104,66] ?_;intro bo;refine J [0] ?_;refine ap 4 rfl rfl rfl rfl rfl (Nat.le_of_ble_eq_true rfl) (show _=cT .u32 [z]from rfl) rfl U gl ?_;intro O P;refine J [83,59] ?_;exact⟨rfl,(k+1,O,P),cD,cD,⟨rfl,rfl,congrArg (λn=>Vt _ n _) (by dsimp only;rw[u,mp];rfl),rfl,rfl,rfl,rfl,trivial⟩,(b8 0 rfl (by dsimp only;rw[u,oX,mp];rfl) (bv (bv (bv (bv (bv (bv (aZ _))))))))⟩;have H:¬pr z=true:=cp
 have u:(d.take (k+1)).filter pr=(d.take k).filter pr:=b2
 refine J [112] ?_;exact⟨rfl,(k+1,ad,cap),cD,cD,⟨rfl,rfl,congrArg (λn=>Vt _ n _) (by dsimp only;rw[u]),rfl,rfl,rfl,rfl,trivial⟩,(b8 1 rfl (by dsimp only;rw[u]) (bV (bV (bV (bV (bV (bV (aZ _))))))))⟩;have D:=dX D;have H:¬pr z=true:=cp
 have u:(d.take (k+1)).filter pr=(d.take k).filter pr:=b2
 refine J [47,144,108,112] ?_;exact⟨rfl,(k+1,ad,cap),cD,cD,⟨rfl,rfl,congrArg (λn=>Vt _ n _) (by dsimp only;rw[u]),rfl,rfl,rfl,rfl,trivial⟩,(b8 1 rfl (by dsimp only;rw[u]) (bV (bV (bV (bV (bV (bV (aZ _))))))))⟩;obtain rfl:k=d.length:=by omega
 have u:d.take d.length=d:=b2
 rw[u];apply J [207,105];exact br (ad,cap) trivial (ao (ay (⟨w,bF,S⟩:fk) ⟨E,C⟩ ai))
end Go.Proofs.YtglgidjhoncphaaGreatDoor
namespace Go.Proofs.YtglgidjhoncphaaGreatDoor.aV
open Go Go.QM
theorem ui(xs:List Int)(k:Nat):(ints xs).take (k*1)=ints (xs.take k):=by simp[ints,List.map_take]
theorem rF:∀(xs:List Int),(ints xs).all Value.oneCell'=true
 | []=>rfl
 | x::xs=>by have:=rF xs;rw[ints]at this⊢;rw[Vm,List.all_cons,this];rfl
variable{xs:List Int}{i:Nat}
theorem wC(h:i<xs.length){o:Nat}(d:o=i*1)(v:Int):dI o [aa v] (ints xs)=ints (xs.set i v):=by rw[d,Nat.mul_one,List.set_eq_take_append_cons_drop,aw h];simp[dI,ints]
theorem ER{n:Nat}(h:xs.length=n):(ints xs).take (n*1)=ints xs:=List.take_of_length_le (by rw[eb];omega)
theorem pN(xs ys:List Int):ints xs++ints ys=ints (xs++ys):=by simp[ints]
def gT(pr:Int->Bool):Int->Bool:=λx=>!pr x
structure hF(xs:List Int)(pr:Int->Bool)(i j:Nat)(ys:List Int):Prop where
  len:ys.length=xs.length
  kG:i<j
  oS:j<=xs.length
  tk:ys.take i=(xs.take j).filter (gT pr)
  n0:ys.drop j=xs.drop j
variable{pr:Int->Bool}
theorem hF.start{k:Nat}(h:xs.findIdx? pr=some k):hF xs pr k (k+1) xs:=by rw[List.findIdx?_eq_some_iff_getElem]at h;obtain⟨d,u,an⟩:=h;refine⟨rfl,by omega,d,?_,rfl⟩;grind[U5,gT,Vk,List.getElem_of_mem,V5]
variable{x:Int}
theorem hF.nu{j:Nat}{ys:List Int}(h:hF xs pr i j ys)(u:j<xs.length)(C:xs[j]? =some x)(w:pr x=false):hF xs pr (i+1) (j+1) (ys.set i x) where
 len:=by rw[List.length_set];exact h.len
 kG:=by have:=h.kG;omega
 oS:=u
 tk:=by
  have D:=h.len;have d:=h.kG
  rw[U5,Vz U,U5,C,XQ,<-h.tk]
  rw[List.take_set_of_le (UW i)]
  simp[gT,w]
 n0:=by
  have d:=h.kG
  rw[List.drop_set_of_lt U]
  rw[<-Wr,h.n0,Wr]
theorem hF.skip{j:Nat}{ys:List Int}(h:hF xs pr i j ys)(d:j<xs.length)(w:xs[j]? =some x)(u:pr x=true):hF xs pr i (j+1) ys where
 len:=h.len
 kG:=by have:=h.kG;omega
 oS:=d
 tk:=by rw[U5,w,XQ,h.tk];simp[gT,u]
 n0:=by rw[<-Wr,h.n0,Wr]
theorem hF.get{j:Nat}{ys:List Int}(h:hF xs pr i j ys)(u:xs[j]? =some x):ys[j]? =some x:=by
 have d:(ys.drop j)[0]? =(xs.drop j)[0]? :=by rw[h.n0]
 simp_all
theorem hF.done{ys:List Int}(h:hF xs pr i xs.length ys):ys.take i=xs.filter (gT pr)/\(xs.filter (gT pr)).length=i:=by have d:=h.tk;rw[List.take_length]at d;refine⟨d,?_⟩;rw[<-d,V5];have:=h.len;have:=h.kG;omega
theorem ze(h:xs.findIdx? pr=none):xs.filter (gT pr)=xs:=by grind[Vk,gT]
theorem zP(ad:Option Addr)(cap:Nat)(xs:List Int)(gY:FuncId)(lb:List Value)(pr:Int->Bool)(D:ax->Prop)(O:∀x,bu gY ([aa x]++lb) D [] (.bool (pr x)) [])(W:xs.length<=1000000000):fA Vv 340 [.slice ad xs.length cap,.func (.func gY) #[] lb.toArray] (λF=>(∃E,cM F E ad (ints xs))/\D (ah [F])) [] (λ_:Unit=>aa (match xs.findIdx? pr with|some i=>(i:Int)|none=>-1)) (λ_=>True) (λ_=>[]):=by
 apply aG Tryz.func340 Tryz.ntmps340;intro F ⟨⟨E,H⟩,N⟩;apply J [9];haveI:bn F ad E (ints xs):=⟨H⟩;refine J [39,33,174,567] ?_;rintro k ⟨hinv,eI⟩ Z;dsimp only[cr]at hinv eI⊢;apply J [43];apply UR rfl<;>intro C;have C:k<xs.length:=U
 obtain⟨t,w⟩:∃t,xs[k]? =some t:=⟨xs[k],UO C⟩;have V:0<(ints xs).length:=by grind[eb]
 refine J [64,142,24,316,84,2,407] ?_;refine q rfl rfl (dC rfl rfl (hU w)) ?_;refine e rfl ?_;refine k4 (O t) rfl rfl (eu _) N ?_;intro _ _;apply J [153,3];cases Q:pr t with|true=>?_|false=>?_
 apply J [17,142,216];have d:xs.findIdx? pr=some k:=by grind[wj]
 exact XT () [_] ⟨rfl,trivial⟩ (by rw[d];rfl) trivial ai;refine J [73,112] ?_;exact⟨rfl,(k+1),⟨by omega,λj u P hu=>by rcases Nat.lt_succ_iff_lt_or_eq.1 P with h|h;exact eI j u h hu;subst h;rw[w]at hu;cases hu;exact Q⟩,U,bC,(ao (aZ _))⟩;obtain rfl:k=xs.length:=by omega
 have d:xs.findIdx? pr=none:=by grind[zu]
 apply J [21,209];exact XT () [_] ⟨rfl,trivial⟩ (by rw[d];rfl) trivial (ao (aZ _))
theorem v8(ad:Option Addr)(cap:Nat)(xs:List Int)(gY:FuncId)(lb:List Value)(pr:Int->Bool)(u:ax->Prop)(Q:∀x,bu gY ([aa x]++lb) u [] (.bool (pr x)) [])(an:xs.length<=1000000000)(aq:∀F,u F->u (ah [F]))(W:∀B F,u F->u (ah [B,F])):fA Vv 286 [.slice ad xs.length cap,.func (.func gY) #[] lb.toArray] u [a1 3 1 ad xs.length cap (ints xs)] (λ_:Unit=>.slice ad (xs.filter (gT pr)).length cap) (λ_=>True) (λ_=>[a1 3 1 ad (xs.filter (gT pr)).length cap (ints (xs.filter (gT pr)))]):=by
 apply aG Tryz.func286 Tryz.ntmps286;intro F P;apply J [1];refine ab.nl 0 rfl (λ_ av _=>?_);have a0:=eb xs;apply J [121,33,316,0];apply eE (zP ad cap xs gY lb pr u Q an) ⟨⟨_,bn.rd⟩,aq _ (W _ _ P)⟩;apply J [5];cases V:xs.findIdx? pr with|none=>?_|some k=>?_
 dsimp only;rw[ze V];apply J [31,177];refine UR rfl (λC=>?_) (λC=>absurd (rfl) C);apply J [33,180,75];exact hQ;dsimp only;have aK:=hF.start V;have aS:k<xs.length:=by have:=aK.oS;omega
 apply J [31,177];refine UR rfl (λD=>absurd D U) (λD=>?_);refine J [44,26,151,27,76,568] ?_;rintro⟨i,j,w⟩ d a4;dsimp only[cr]at d⊢;have aI:=d.oS;have aB:=d.kG;have a3:=d.len;have a2:=eb w;apply J [122,84,326,171];apply UR rfl<;>intro aV;have H:j<xs.length:=U
 obtain⟨x,N⟩:∃x,xs[j]? =some x:=⟨xs[j],UO H⟩;have ar:=d.get N;have aY:0<(ints w).length:=U
 refine J [64,287,407] ?_;refine q rfl rfl (dC rfl rfl (hU ar)) ?_;apply J [27,24,316,28];refine k4 (Q x) rfl rfl (eu _) (W _ _ P) ?_;intro _ _;apply J [5,259];cases Z:pr x with|true=>?_|false=>?_
 refine J [73,23,195] ?_;exact⟨rfl,⟨i,j+1,w⟩,(d.skip H N Z),cD,bC,(ao (ao (aZ _)))⟩;refine J [17,33,120,407,19,511,3,367,72,152,195] ?_;exact⟨rfl,⟨i+1,j+1,w.set i x⟩,(d.nu H N Z),cD,bC,(ao (ao (aZ _)))⟩;obtain rfl:j=xs.length:=by omega
 obtain⟨d1,d2⟩:=d.done;apply J [207,2];refine q rfl rfl (oi 3 1 (i) rfl rfl rfl U U) ?_;refine dh ?_;refine y4 (sz:=1) (z:=aa 0) i rfl rfl rfl rfl am rfl rfl U ?_;intro O C D;have ag:O.take (i*1)=ints (xs.filter (gT pr)):=by grind[ui]
 apply J [3,287];refine q rfl rfl (nH 3 1 (i) rfl rfl rfl U U) ?_;apply J [105];exact XT () [_] ⟨rfl,trivial⟩ (by rw[d2];rfl) trivial (eH 0 rfl (by have:=p0 (E:=3) (sz:=1) (ad:=ad) (n:=xs.length) (cap:=cap) (cs:=O) (j:=i) U;rw[ag]at this;rw[d2];exact this) (ao (aZ _)))
structure Fn where
  id:Int
  par:Int
  ds:Int
  b9:Int
def eW(t:Fn):Int×Int:=(t.ds,t.b9)
def c5(L:List Fn)(p:Int):List Int:=(L.filter λt=>decide (t.par=p/\p≠0)).map (·.id)
def fx(L:List Fn)(id:Int):Prop:=∃t∈L,t.id=id
instance (L:List Fn)(id:Int):Decidable (fx L id):=inferInstanceAs (Decidable (∃t∈L,t.id=id))
def iE(A:Int->Nat)(L:List Fn):Int->Option Value:=λid=>if fx L id then some (.pointer (some ⟨A id,0,none⟩))else none
def kk(L:List Fn)(o:Int×Int):Prop:=∃t∈L,eW t=o
instance (L:List Fn)(o:Int×Int):Decidable (kk L o):=inferInstanceAs (Decidable (∃t∈L,eW t=o))
def gk(L:List Fn)(o:Int×Int):Int:=match L.find? λt=>decide (eW t=o)with
  | some t=>t.id
  | none=>0
def kf(L:List Fn):Int×Int->Option Value:=λo=>if kk L o then some (.int .i64 (gk L o))else none
def j2(L:List Fn):Prop:=(L.map (·.id)).Nodup
def oy(L:List Fn):Prop:=(L.map eW).Nodup
structure ct(L:List Fn)(last:Int):Prop where
  bi:j2 L
  no:oy L
  rg:∀t∈L,1<=t.id/\t.id<=last/\0<=t.par/\t.par<t.id
  len:(L.length:Int)<=last
structure Cy where
  ad:Int->Option Addr
  cap:Int->Nat
  aE:Nat
  bt:Nat
abbrev iv(A:Int->Nat)(ad:Int->Option Addr)(cap:Int->Nat)(L:List Fn)(t:Fn):ax:=aj (A t.id) 219 [.int .i64 t.ds,.int .i64 t.b9,.int .i64 t.par,.slice (ad t.id) (c5 L t.id).length (cap t.id)]
abbrev iu(ad:Int->Option Addr)(cap:Int->Nat)(L:List Fn)(t:Fn):ax:=a1 3 1 (ad t.id) (c5 L t.id).length (cap t.id) (ints (c5 L t.id))
abbrev zL(aE bt:Nat)(last:Int):List Value:=[.map (some aE),.map (some bt),.int .i64 last]
def uk(b:Nat)(A:Int->Nat)(L:List Fn)(last:Int):ax:=fj λy:Cy=>pure' (ct L last) (ah [aj b 223 (zL y.aE y.bt last),bJ QM.encI y.aE (iE A L) L.length,bJ mW y.bt (kf L) L.length,b5 (iv A y.ad y.cap L) L,b5 (iu y.ad y.cap L) L])
def js(b:Nat)(L:List Fn)(last:Int):ax:=fj λA:Int->Nat=>pure' True (ah [uk b A L last])
variable{S:List Fn}
theorem j2.perm{T:List Fn}(h:j2 S)(p:T.Perm S):j2 T:=(p.map _).nodup_iff.2 h
variable{t:Fn}
theorem j2.inj(h:j2 S){u:Fn}(C:t∈S)(hu:u∈S)(e:t.id=u.id):t=u:=by obtain⟨L,w⟩:=fp C;rcases U0.1 (w.mem_iff.1 hu)with d|d;simp_all;exact absurd (U3.2 ⟨u,d,e.symm⟩) (U6.1 (h.perm w.symm)).1
theorem oy.inj(h:oy S){u:Fn}(C:t∈S)(hu:u∈S)(e:eW t=eW u):t=u:=by obtain⟨L,w⟩:=fp C;rcases U0.1 (w.mem_iff.1 hu)with d|d;simp_all;exact absurd (U3.2 ⟨u,d,e.symm⟩) (U6.1 ((w.symm.map _).nodup_iff.2 h)).1
def hi(S:List Fn)(id:Int):List Fn:=S.filter λt=>decide (t.id≠id)
theorem xf{L:List Fn}(h:j2 S)(w:S.Perm (t::L)):(hi S t.id).Perm L:=by have d:=w.filter λu=>decide (u.id≠t.id);rw[V6 cE]at d;have C:L.filter (λu=>decide (u.id≠t.id))=L:=Vk.2 λu hu=>(by have:=(U6.1 (h.perm w.symm)).1;simp_all);rw[C]at d;exact d
theorem l3:t∈hi S x↔t∈S/\t.id≠x:=by simp[hi]
theorem uG{y:Int}:fx (hi S x) y↔fx S y/\y≠x:=by constructor;rintro⟨t,d,rfl⟩;exact⟨⟨t,(l3.1 d).1,rfl⟩,(l3.1 d).2⟩;rintro⟨⟨t,d,rfl⟩,h⟩;exact⟨t,l3.2 ⟨d,h⟩,rfl⟩
theorem uH(an:j2 S)(u:t∈S):(hi S t.id).length+1=S.length:=by obtain⟨L,d⟩:=fp u;rw[(xf an d).length_eq,d.length_eq];rfl
theorem oI{A:Int->Nat}{id:Int}(h:fx S id):iE A S id=some (.pointer (some ⟨A id,0,none⟩)):=aw h
theorem pH{A:Int->Nat}{id:Int}(h:¬fx S id):iE A S id=none:=al h
theorem D8{A:Int->Nat}{T:List Fn}(h:∀x,fx T x↔fx S x):iE A T=iE A S:=by grind[iE]
theorem D7{A:Int->Nat}(b:Nat):iE (aP A t.id b) (S++[t])=fe (iE A S) t.id (ae b):=by
 funext x;simp only[iE,fe];have d:fx (S++[t]) x↔fx S x\/t.id=x:=by simp[fx,or_and_right,exists_or]
 by_cases e:x=t.id;rw[aw (d.2 (.inr e.symm)),aw e,e,cf];rw[al e,bP e];grind
theorem D9{A:Int->Nat}(x:Int):iE A (hi S x)=fU (iE A S) x:=by funext y;simp only[iE,fU];by_cases e:y=x;rw[aw e,al (λh=>(uG.1 h).2 e)];rw[al e];by_cases h:fx S y;rw[aw h,aw (uG.2 ⟨h,e⟩)];rw[al h,al (λd=>h (uG.1 d).1)]
theorem t6(h:oy S)(w:t∈S):gk S (eW t)=t.id:=by rw[gk];cases d:S.find? λu=>decide (eW u=eW t)with|none=>rw[Wn]at d;exact absurd (c1 rfl) (d t w)|some u=>have C:=List.find?_some d;have D:=Ye d;rw[h.inj D w (by simpa using C)]
theorem wk{o:Int×Int}(h:¬kk S o):gk S o=0:=by have:S.find? (λu=>decide (eW u=o))=none:=(by rw[Wn];intro u hu;simp only[decide_eq_true_eq];exact λe=>h ⟨u,hu,e⟩);grind[gk]
theorem zr(S:List Fn)(o:Int×Int):(kf S o).getD (aa 0)=aa (gk S o):=by grind[kf,wk]
theorem wd{o:Int×Int}(h:¬kk S o):kf S o=none:=al h
theorem Ed(an:oy S)(d:t∈S):kf S (eW t)=some (aa t.id):=by rw[kf,aw ⟨t,d,rfl⟩,t6 an d]
theorem Ep{α:Type}{p r:α->Bool}:∀{l:List α},(∀u∈l,p u=true->r u=true)->(l.filter r).find? p=l.find? p
 | [],_=>rfl
 | a::l,h=>by
  have C:=Ep (p:=p) (r:=r) (l:=l) λu hu=>h u (by simp[hu])
  by_cases w:r a=true
  ·rw[List.filter_cons_of_pos w,Xr,Xr,C]
  have d:p a=false:=by
   cases d:p a with
   | false=>rfl
   | true=>exact absurd (h a cE d) w
  rw[V6 w,Xr,d,C]
theorem Ec(an:j2 S)(D:oy S)(C:t∈S):kf (hi S t.id)=fU (kf S) (eW t):=by funext o;simp only[kf,fU];by_cases e:o=eW t;rw[aw e,al];rintro⟨u,hu,d⟩;have w:=l3.1 hu;exact w.2 (by rw[D.inj w.1 C (d.trans e)]);rw[al e];have H:kk (hi S t.id) o↔kk S o:=(by constructor;rintro⟨u,hu,d⟩;exact⟨u,(l3.1 hu).1,d⟩;rintro⟨u,hu,d⟩;refine⟨u,l3.2 ⟨hu,λw=>e ?_⟩,d⟩;rw[<-d,an.inj hu C w]);have E:gk (hi S t.id) o=gk S o:=(by rw[gk,gk,hi,Ep];intro u hu d;simp only[decide_eq_true_eq]at d⊢;intro w;exact e (by rw[<-d,an.inj hu C w]));simp_all
theorem Ea(h:¬kk S (eW t)):kf (S++[t])=fe (kf S) (eW t) (aa t.id):=by
 funext o;simp only[kf,fe];have w:kk (S++[t]) o↔kk S o\/eW t=o:=by simp[kk,or_and_right,exists_or]
 by_cases e:o=eW t;subst e;rw[aw (w.2 (.inr rfl)),aw rfl,gk,List.find?_append];have:S.find? (λu=>decide (eW u=eW t))=none:=(by rw[Wn];intro u hu;simp only[decide_eq_true_eq];exact λe=>h ⟨u,hu,e⟩);grind;rw[al e];by_cases d:kk S o;rw[aw (w.2 (.inl d)),aw d,gk,gk,List.find?_append];grind;grind
variable{p:Int}
theorem oT{S:List Fn}:x∈c5 S p↔p≠0/\∃t∈S,t.par=p/\t.id=x:=by simp only[c5,U3,U8,decide_eq_true_eq];grind
theorem uq(S T:List Fn)(p:Int):c5 (S++T) p=c5 S p++c5 T p:=by simp[c5]
theorem Fo(h:t.par=p)(d:p≠0):c5 [t] p=[t.id]:=by simp[c5,h,d]
theorem Ab(h:t.par≠p):c5 [t] p=[]:=by simp[c5,h]
theorem ur(S:List Fn)(p:Int):(c5 S p).length<=S.length:=by rw[c5,VI];exact List.length_filter_le _ _
theorem Fm(S:List Fn)(p x:Int):c5 (hi S x) p=(c5 S p).filter λy=>decide (y≠x):=by rw[c5,c5,List.filter_map,hi,WC,WC];grind
theorem sG(an:j2 S)(C:t∈S)(w:t.par≠p):c5 (hi S t.id) p=c5 S p:=by rw[Fm];refine Vk.2 λy D=>?_;obtain⟨_,u,hu,d,rfl⟩:=oT.1 D;simp only[decide_eq_true_eq];intro e;rw[an.inj hu C e]at d;exact w d
theorem O3:(c5 S p).filter (gT λy=>decide (y=x))=c5 (hi S x) p:=by grind[Fm,List.filter_congr,gT]
theorem Fl(h:j2 S)(p:Int):(c5 S p).Nodup:=h.sublist (List.filter_sublist.map _)
theorem ct.nil:ct [] 0:=⟨VD,VD,(λt h=>by cases h),Int.le_refl _⟩
variable{last:Int}
theorem ct.sub{T:List Fn}(h:ct S last)(hs:T.Sublist S):ct T last:=
 ⟨h.bi.sublist (hs.map _),h.no.sublist (hs.map _),λt d=>h.rg t (hs.subset d),by have:=h.len;have:=hs.length_le;omega⟩
theorem ct.off(h:ct S last)(x:Int):ct (hi S x) last:=h.sub Wg
theorem ct.add(h:ct S last)(O:t.id=last+1)(N:0<=t.par/\t.par<=last)(E:¬kk S (eW t)):ct (S++[t]) (last+1) where
 bi:=by
  rw[j2,V2,Vg]
  refine⟨h.bi,by simp,λx C y d=>?_⟩
  obtain⟨a,w,rfl⟩:=U3.1 C
  simp only[Vm,WH,UP]at d
  have:=h.rg a w
  omega
 no:=by
  rw[oy,V2,Vg]
  refine⟨h.no,by simp,λx C y d=>?_⟩
  obtain⟨a,w,rfl⟩:=U3.1 C
  simp only[Vm,WH,UP]at d
  rw[d];exact λD=>E ⟨a,w,D⟩
 rg:=λu hu=>by
  have H:=h.len
  rcases UQ.1 hu with hu|hu
  ·have:=h.rg u hu;omega
  rw[UP.1 hu];omega
 len:=by have:=h.len;rw[mp,UY];omega
def gW(S:List Fn)(last par:Int)(o:Int×Int):List Fn×Int×Int×Int:=if ¬fx S par/\par≠0 then(S,last,0,6)else if gk S o≠0 then(S,last,0,7)else(S++[⟨last+1,par,o.1,o.2⟩],last+1,last+1,0)
def hh(S:List Fn)(u:Fn)(p:Int):List Fn:=hi S u.id++[⟨u.id,p,u.ds,u.b9⟩]
theorem ct.move(h:ct S last){u:Fn}(hu:u∈S)(H:0<=p/\p<u.id):ct (hh S u p) last where
 bi:=by
  rw[j2,hh,V2,Vg]
  refine⟨(h.off _).bi,by simp,λx C y d=>?_⟩
  obtain⟨a,w,rfl⟩:=U3.1 C
  simp only[Vm,WH,UP]at d
  rw[d];exact(l3.1 w).2
 no:=by
  rw[oy,hh,V2,Vg]
  refine⟨(h.off _).no,by simp,λx C y d=>?_⟩
  obtain⟨a,w,rfl⟩:=U3.1 C
  simp only[Vm,WH,UP]at d
  rw[d];intro E
  have D:=l3.1 w
  exact D.2 (by rw[h.no.inj D.1 hu E])
 rg:=λv hv=>by
  rcases UQ.1 hv with hv|hv
  ·exact h.rg v (l3.1 hv).1
  rw[UP.1 hv];have:=h.rg u hu;dsimp only;omega
 len:=by have:=h.len;have:=uH h.bi hu;rw[hh,mp,UY];omega
theorem EC(h:ct S last)(o:Int×Int):kk S o↔gk S o≠0:=by constructor;rintro⟨t,d,rfl⟩;rw[t6 h.no d];have:=h.rg t d;omega;grind[wk]
theorem zK(h:ct S last)(u:fx S x):1<=x/\x<=last:=by obtain⟨t,d,rfl⟩:=u;have:=h.rg t d;omega
end Go.Proofs.YtglgidjhoncphaaGreatDoor.aV
namespace Go.Proofs.YtglgidjhoncphaaGreatDoor.aV
open Go Go.QM
def qx(L:List Fn)(id:Int):Option Fn:=L.find? λt=>decide (t.id=id)
theorem oJ{S:List Fn}(h:j2 S){t:Fn}(w:t∈S):qx S t.id=some t:=by rw[qx];cases d:S.find? λu=>decide (u.id=t.id)with|none=>rw[Wn]at d;exact absurd (c1 rfl) (d t w)|some u=>have C:=List.find?_some d;have D:=Ye d;rw[h.inj D w (by simpa using C)]
theorem tZ{S:List Fn}{id:Int}(h:¬fx S id):qx S id=none:=by rw[qx,Wn];intro u hu;simp only[decide_eq_true_eq];exact λe=>h ⟨u,hu,e⟩
def kL(L:List Fn)(id:Int):Int×Int×Bool:=match qx L id with
  | some t=>(t.ds,t.b9,true)
  | none=>(0,0,false)
def nD(L:List Fn)(id:Int):Int:=match qx L id with
  | some t=>t.par
  | none=>0
theorem Fq{S:List Fn}{last:Int}(h:ct S last){x:Int}(u:last<x):c5 S x=[]:=by rw[c5,WM.2];trivial;intro t d;have:=h.rg t d;grind
theorem EE{S:List Fn}{last:Int}(h:ct S last){x:Int}(u:last<x):¬fx S x:=λd=>by have:=zK h d;omega
variable(b:Nat)
theorem Nb(aE bt:Nat)(F:ax):aF (ah [aj b 223 [.map (some aE),.map (some bt),aa 0],bJ mW bt (λ_=>none) 0,bJ QM.encI aE (λ_=>none) 0,F]) (ah [js b [] 0,F]):=by
 have d:iE (λ_=>0) []=λ_=>none:=by trivial
 have u:kf []=λ_=>none:=by trivial
 refine(nf (f:=iv (λ_=>0) (λ_=>none) (λ_=>0) []) _).trans ?_;refine(nf (f:=iu (λ_=>none) (λ_=>0) []) _).trans ?_;refine ay (λ_=>0:Int->Nat) trivial ?_;refine ay (⟨λ_=>none,λ_=>0,aE,bt⟩:Cy) ct.nil ?_;exact bI 2 rfl (b8 3 rfl (by rw[d];rfl) (b8 2 rfl (by rw[u];rfl) (bV (ao (ao (aZ _))))))
theorem Nc:bL 134 [] be [] (λb:Nat=>ae b) (λ_=>True) (λb=>[js b [] 0]):=by apply aG Tryz.func134 Tryz.ntmps134;intro F _;refine J [9,168,25,328] ?_;intro bb;refine e rfl ?_;refine w7 mW ?_;intro bo;refine q rfl rfl (eh (cs:=[.map _,.map _,.int _ _]) rfl) ?_;refine e rfl ?_;refine e0 (v:=.agg #[_,_,_]) (l:=[.map _,.map _,.int _ _]) rfl rfl ?_;intro cl;apply J [106];exact br cl trivial (Nb cl bb bo F)
theorem pI(aE bt n:Nat)(last:Int)(f:Int->Option Value)(id:Int):bu 118 [ae b,aa id] be [aj b 223 (zL aE bt last),bJ QM.encI aE f n] ((f id).getD (.pointer none)) [aj b 223 (zL aE bt last),bJ QM.encI aE f n]:=by apply aG Tryz.func118 Tryz.ntmps118;intro F _;apply J [13,24,150,29,128,154,99,128,53,304];refine q rfl rfl (ko 3 216 rfl rfl (dL.int rfl) rfl rfl) ?_;apply J [150,260];exact eZ (ao (ao (ao (aZ _))))
theorem tW(L:List Fn)(last:Int)(u d:Int):bu 71 [ae b,aa u,aa d] be [js b L last] (aa (gk L (u,d))) [js b L last]:=by apply aG Tryz.func71 Tryz.ntmps71;intro F _;apply J [1];refine ab.open 0 rfl (λA _=>?_);apply J [1];refine ab.open 0 rfl (λC w=>?_);obtain⟨ad,cap,aE,bt⟩:=C;have au:=w;apply J [155];dsimp only at au⊢;apply J [39,42,67,120,531];refine q rfl rfl (ko (a:=(_,_)) 78 3 rfl rfl (dL.pair aM) rfl rfl) ?_;rw[zr];apply J [30];exact Ck
theorem Et(L:List Fn)(last:Int)(id:Int):bu 69 [ae b,aa id] be [js b L last] (.tuple #[aa (kL L id).1,aa (kL L id).2.1,.bool (kL L id).2.2]) [js b L last]:=by
 apply aG Tryz.func69 Tryz.ntmps69;intro F _;apply J [1];refine ab.open 0 rfl (λA _=>?_);apply J [1];refine ab.open 0 rfl (λD C=>?_);obtain⟨ad,cap,aE,bt⟩:=D;have au:=C;apply J [155];dsimp only at au⊢;by_cases u:fx L id;have d:=oI (A:=A) u;obtain⟨t,w,rfl⟩:=u;obtain⟨M,bH⟩:=fp w;have hv:kL L t.id=(t.ds,t.b9,true):=by rw[kL,oJ au.bi w]
 rw[hv];refine J [346,24,72,184,32,593] ?_;intro _ _;apply J [16];rw[d];apply J [52,71,118];refine cC [0,1,2,3,4,5,6,7,8,9,10,11,12] (Vx _) ?_;apply J [170,370,181,315,315,244,148];exact XT () [_,_,_] ⟨rfl,rfl,rfl,trivial⟩ rfl trivial (ay A trivial (ay ⟨ad,cap,aE,bt⟩ au (ao (ao (bv (cQ 0 0 t rfl rfl rfl (λ_ _=>rfl) bH.symm (ao (ao (aZ _)))))))));have d:=pH (A:=A) u;have hv:kL L id=(0,0,false):=by grind[kL,tZ]
 rw[hv];refine J [24,72,184,32,594] ?_;intro _ _;apply J [14];rw[d];apply J [52,71,3,55,72,184,75];exact XT () [_,_,_] ⟨rfl,rfl,rfl,trivial⟩ rfl trivial (ay A trivial (ay ⟨ad,cap,aE,bt⟩ au (ao (ao (ao (ao (ao (ao (aZ _)))))))))
theorem Nd(L:List Fn)(last:Int)(id:Int):bu 70 [ae b,aa id] be [js b L last] (aa (nD L id)) [js b L last]:=by
 apply aG Tryz.func70 Tryz.ntmps70;intro F _;apply J [1];refine ab.open 0 rfl (λA _=>?_);apply J [1];refine ab.open 0 rfl (λD C=>?_);obtain⟨ad,cap,aE,bt⟩:=D;have au:=C;apply J [155];dsimp only at au⊢;by_cases u:fx L id;have d:=oI (A:=A) u;obtain⟨t,w,rfl⟩:=u;obtain⟨M,bH⟩:=fp w;have hv:nD L t.id=t.par:=by rw[nD,oJ au.bi w]
 rw[hv];refine J [346,62,593] ?_;intro _ _;apply J [16];rw[d];apply J [52,42,70,30];exact eZ (ay A trivial (ay ⟨ad,cap,aE,bt⟩ au (ao (ao (bv (cQ 0 0 t rfl rfl rfl (λ_ _=>rfl) bH.symm (ao (ao (aZ _)))))))));have d:=pH (A:=A) u;have hv:nD L id=0:=by grind[nD,tZ]
 rw[hv];refine J [62,594] ?_;intro _ _;apply J [14];rw[d];apply J [52,71,364,196];exact Ck
theorem wh(L:List Fn)(last:Int)(par w d:Int)(bn:last<=1000000):bu 139 [ae b,aa par,aa w,aa d] be [js b L last] (.tuple #[aa (gW L last par (w,d)).2.2.1,aa (gW L last par (w,d)).2.2.2]) [js b (gW L last par (w,d)).1 (gW L last par (w,d)).2.1]:=by
 apply aG Tryz.func139 Tryz.ntmps139;intro F _;apply J [1];refine ab.open 0 rfl (λA _=>?_);apply J [1];refine ab.open 0 rfl (λa8 a7=>?_);obtain⟨ad,cap,aE,bt⟩:=a8;have au:=a7;apply J [155];dsimp only at au⊢;have bq:=au.len;by_cases E:fx L par;·have aq:=oI (A:=A) E;refine J [215,32,595] ?_;intro _ _;apply J [14];rw[aq];refine J [120,531,0,532] ?_;intro a9;apply J [165,19,479,29,76,71,189,253];refine Ve 24 rfl (c:=false) rfl ?_;apply J [47,144,189,8];refine cC [0,1,2,3,4,5,6,7] (Vx _) ?_;refine J [123,355,596] ?_;rw[zr];refine bU rfl rfl rfl (sQ rfl rfl) ?_;apply J [244];apply UR rfl<;>intro Q;(have hv:gW L last par (w,d)=(L,last,0,7):=by rw[gW,al (λh=>h.1 E),aw Q]);rw[hv];dsimp only;apply J [179];exact Cl;(have hv:gW L last par (w,d)=(L++[⟨last+1,par,w,d⟩],last+1,last+1,0):=by rw[gW,al (λh=>h.1 E),al Q]);rw[hv];dsimp only;(have eI:¬kk L (w,d):=by grind[EC]);have av:=wd eI;have aB:=EE au (x:=last+1) U;have ar:=pH (A:=A) aB;have a4:=Fq au (x:=last+1) U;(have O:(L++[(⟨last+1,par,w,d⟩:Fn)]).length=L.length+1:=by simp_all);have bp:=zK au E;have Z:=au.add (t:=⟨last+1,par,w,d⟩) rfl cD eI;obtain⟨t,a5,rfl⟩:=E;obtain⟨M,bH⟩:=fp a5;have a3:=au.bi.perm bH.symm;have bl:=ur L t.id;have bh:=eb (c5 L t.id);(have a0:c5 (L++[⟨last+1,t.id,w,d⟩]) t.id=c5 L t.id++[last+1]:=by grind[uq,Fo]);(have ax:∀x,t.id≠x->c5 (L++[⟨last+1,t.id,w,d⟩]) x=c5 L x:=by grind[uq,Ab]);have aY:∀u∈M,t.id≠u.id/\u.id≠last+1:=λu hu=>⟨λaV=>(U6.1 a3).1 (U3.2 ⟨u,hu,aV.symm⟩),λaV=>by have:=au.rg u (bH.mem_iff.2 (by simp[hu]));omega⟩;refine Wd (fV 4 rfl bH) ?_;refine Wd (fV 6 rfl bH) ?_;refine J [23,70,151,80,290,203,29] ?_;refine cC [0,1,2,3,4,5,6,7,8,9,10,-11,-12] (ao (eL (aZ _))) ?_;refine J [49,185,355,15,533,12,480] ?_;intro aI;refine J [6,222] ?_;refine lZ 3 216 rfl (dL.int rfl) rfl rfl rfl ?_;refine J [110,8] ?_;refine cC [0,1,2,3,4,5,6,7,8,-9] (bv (bI 6 rfl (aZ _))) ?_;refine J [123,355,185,222,597,110,8,360,364] ?_;refine ab.draw _ [13] [0,1,2,3,4,5,6,7,8,-9,-10,11,12,-13] aM aM (c0 (ey (aZ _))) ?_;refine J [77,277,185,12,149] ?_;intro bd;refine J [45] ?_;refine ap 8 rfl rfl rfl rfl rfl (Nat.le_of_ble_eq_true rfl) (show _=ints [last+1]from rfl) rfl U gl ?_;intro V W;refine J [6,88,432,90,345,74,70,69] ?_;(have P:t.id≠last+1:=by omega);(have N:c5 (L++[(⟨last+1,t.id,w,d⟩:Fn)]) (last+1)=[]:=by simp_all);have H:(t::(⟨last+1,t.id,w,d⟩:Fn)::M).Perm (L++[(⟨last+1,t.id,w,d⟩:Fn)]):=(List.Perm.swap _ _ _).trans ((bH.symm.cons _).trans (VX _ _).symm);have an:∀u∈M,iv A ad cap L u=iv (aP A (last+1) aI) (aP (aP ad t.id V) (last+1) none) (aP (aP cap t.id W) (last+1) 0) (L++[(⟨last+1,t.id,w,d⟩:Fn)]) u:=λu hu=>(by obtain⟨C,D⟩:=aY u hu;dsimp only[iv];rw[bP D,bP D,bP D,bP (W5 C),bP (W5 C),ax _ C]);have ag:∀u∈M,iu ad cap L u=iu (aP (aP ad t.id V) (last+1) none) (aP (aP cap t.id W) (last+1) 0) (L++[(⟨last+1,t.id,w,d⟩:Fn)]) u:=λu hu=>(by obtain⟨C,D⟩:=aY u hu;dsimp only[iu];rw[bP D,bP D,bP (W5 C),bP (W5 C),ax _ C]);exact hR ((dH 3 1 _).trans (ay (aP A (last+1) aI) trivial (ay ⟨aP (aP ad t.id V) (last+1) none,aP (aP cap t.id W) (last+1) 0,aE,bt⟩ Z (bI 7 rfl (b8 5 rfl (by dsimp only;rw[D7 (t:=(⟨last+1,t.id,w,d⟩:Fn)),ar,O];rfl) (b8 4 rfl (by dsimp only;rw[Ea (t:=(⟨last+1,t.id,w,d⟩:Fn)) eI,av,O];rfl) (tT 1 3 4 t (⟨last+1,t.id,w,d⟩:Fn) rfl rfl rfl (by dsimp only[iv];rw[bP P,bP P,bP P,cf,cf,a0,mp];rfl) (by dsimp only[iv];rw[cf,cf,cf,N];rfl) an H (tT 1 0 1 t (⟨last+1,t.id,w,d⟩:Fn) rfl rfl rfl (by dsimp only[iu];rw[bP P,bP P,cf,cf,a0,mp,UY,pN]) (by dsimp only[iu];rw[cf,cf,N];rfl) ag H (bv (aZ _))))))))))
 have aq:=pH (A:=A) E;refine J [215,32,595] ?_;intro _ _;apply J [14];rw[aq];refine J [120,531,0,532] ?_;intro bc;apply J [165,19,479,29,76,71,189,253];refine Ve 24 rfl (c:=true) rfl ?_;apply J [11,158,140];apply UR rfl<;>intro a2;have hv:gW L last par (w,d)=(L,last,0,6):=aw ⟨E,a2⟩;rw[hv];dsimp only;apply J [179];exact Cl;obtain rfl:par=0:=U
 refine ab.seq ?_;refine cC [0,1,2,3,4,5,6,7] (Vx _) ?_;refine J [123,355,596] ?_;rw[zr];refine bU rfl rfl rfl (sQ rfl rfl) ?_;apply J [244];apply UR rfl<;>intro Q;have hv:gW L last 0 (w,d)=(L,last,0,7):=by rw[gW,al (λh=>h.2 rfl),aw Q]
 rw[hv];dsimp only;apply J [179];exact Cl;have hv:gW L last 0 (w,d)=(L++[⟨last+1,0,w,d⟩],last+1,last+1,0):=by rw[gW,al (λh=>h.2 rfl),al Q]
 rw[hv];dsimp only;have eI:¬kk L (w,d):=by grind[EC]
 have av:=wd eI;have aB:=EE au (x:=last+1) U;have ar:=pH (A:=A) aB;have a4:=Fq au (x:=last+1) U;have O:(L++[(⟨last+1,0,w,d⟩:Fn)]).length=L.length+1:=b2
 have Z:=au.add (t:=(⟨last+1,0,w,d⟩:Fn)) rfl cD eI;have ax:∀x,1<=x->c5 (L++[(⟨last+1,0,w,d⟩:Fn)]) x=c5 L x:=by grind[uq,Ab]
 refine J [23,70,151,80,290,203,29] ?_;refine cC [0,1,2,3,4,5,6,7,8,9,10,-11,-12] (ao (ao (aZ _))) ?_;refine J [49,185,355,15,533,12,480] ?_;intro aS;refine J [6,222] ?_;refine lZ 3 216 rfl (dL.int rfl) rfl rfl rfl ?_;refine J [110,8] ?_;refine cC [0,1,2,3,4,5,6,7,8,-9] (bv (bv (aZ _))) ?_;refine J [123,355,185,222,597,110,8,360,99,70,69] ?_;have N:c5 (L++[(⟨last+1,0,w,d⟩:Fn)]) (last+1)=[]:=cp
 have an:∀u∈L,iv A ad cap L u=iv (aP A (last+1) aS) (aP ad (last+1) none) (aP cap (last+1) 0) (L++[(⟨last+1,0,w,d⟩:Fn)]) u:=λu hu=>(by have C:=au.rg u hu;(have D:u.id≠last+1:=by omega);dsimp only[iv];grind[bP]);have ag:∀u∈L,iu ad cap L u=iu (aP ad (last+1) none) (aP cap (last+1) 0) (L++[(⟨last+1,0,w,d⟩:Fn)]) u:=λu hu=>(by have C:=au.rg u hu;(have D:u.id≠last+1:=by omega);dsimp only[iu];grind[bP]);have H:((⟨last+1,0,w,d⟩:Fn)::L).Perm (L++[(⟨last+1,0,w,d⟩:Fn)]):=(VX _ _).symm;exact hR ((dH 3 1 _).trans (ay (aP A (last+1) aS) trivial (ay ⟨aP ad (last+1) none,aP cap (last+1) 0,aE,bt⟩ Z (eL (b8 2 rfl (by dsimp only;rw[D7 (t:=(⟨last+1,0,w,d⟩:Fn)),ar,O];rfl) (b8 1 rfl (by dsimp only;rw[Ea (t:=(⟨last+1,0,w,d⟩:Fn)) eI,av,O];rfl) (cQ 1 2 (⟨last+1,0,w,d⟩:Fn) rfl rfl (by dsimp only[iv];rw[cf,cf,cf,N];rfl) an H (cQ 0 1 (⟨last+1,0,w,d⟩:Fn) rfl rfl (by dsimp only[iu];rw[cf,cf,N];rfl) ag H (bV (aZ _))))))))))
end Go.Proofs.YtglgidjhoncphaaGreatDoor.aV
