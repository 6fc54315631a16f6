/- Proved here: contracts of functions of this program, under the premises that each theorem names. -/
import Derived.Test.YtglgidjhoncphaaGreatDoorYq
set_option linter.all false
set_option maxRecDepth 4000
set_option maxHeartbeats 4000000
open List renaming length_append->mp,getElem?_eq_getElem->Uo,mem_singleton->Up,mem_append->Uq,mem_of_getElem?->Us,length_singleton->Ux,not_mem_nil->Uy,mem_cons->UB,mem_map->UE,take_add_one->UF,nodup_cons->UI,flatMap_cons->UN,mem_filter->UO,length_cons->UP,nodup_append->US,filter_eq_self->UU,map_cons->UX,getElem?_set_self->U7,nodup_nil->Va,append_nil->Vg,mem_flatMap->Vh,nil_append->Vn,perm_append_singleton->Vt,map_append->Vy,length_take->VC,filter_cons_of_neg->VD,length_map->VP,filter_sublist->VQ,find?_eq_none->VX,drop_drop->V1,length_nil->Wb,filter_filter->Wd,map_nil->Wi,filter_eq_nil_iff->Wm,cons_append->WG,find?_cons->WW,filter_append->Xn,mem_zipIdx_iff_getElem?->Xt,pairwise_map->XA,mem_of_find?_eq_some->XO,append_eq_append_iff->XP
open Go.QM.ab renaming aA->Ur,bf->VM
open Decidable renaming of_not_not->Ut,by_contra->Vm
open Nat renaming pow_le_pow_right->Uu,le_refl->Uw,le_trans->VN
open Go.QM.aO renaming known->UG
open Go.Proofs.Tryz renaming prog->U3
open Go.QM.aF renaming refl->U5
open Go.Value renaming slice->U8,pointer->Xr
open Int renaming toNat_of_nonneg->Vj
open List.Perm renaming refl->V2
open List.cons renaming inj->Wu
open Ne renaming symm->WC
open Go.QM.b8 renaming i->Xq
namespace Go.Proofs.YtglgidjhoncphaaGreatDoor
open Go Go.QM
def fc(aK:Nat->Nat->Nat)(i s v:Nat):Nat->Nat->Nat:=λj r=>if j=i/\r=s then v else aK j r
theorem ia(aK:Nat->Nat->Nat)(i s v:Nat):fc aK i s v i s=v:=aw ⟨rfl,rfl⟩
variable{i:Nat}
theorem la{aK:Nat->Nat->Nat}{s v j r:Nat}(h:j≠i\/r≠s):fc aK i s v j r=aK j r:=al λk=>h.elim (λh=>h k.1) λh=>h k.2
theorem kH{aK:Nat->Nat->Nat}{s v r:Nat}(h:r≠s):fc aK i s v i r=aK i r:=la (.inr h)
theorem Ib{top:Nat}{S:cQ}{c:Nat}{y:Nat×Nat×List cf}(u:c∈cls)(g:iO top S c y)(d:Nat):gM (960/cc d) (dF S.C c y.2.2 d)=gM (960/cc d) (S.C d)+if d=c then 1 else 0:=by by_cases e:d=c;subst e;rw[aw rfl,jv];exact g.mN.used (by have:=C4 u;omega);rw[al e,i6 _ _ e,Nat.add_zero]
theorem Ia{top:Nat}{S:cQ}(u:dg top S){c aD:Nat}{L':List cf}(w:c∈cls)(g:jN top S c aD i L')(d:Nat):gM (960/cc d) (dF S.C c L' d)+(if d=c then 1 else 0)=gM (960/cc d) (S.C d):=by by_cases e:d=c;subst e;rw[aw rfl,jv];exact g.na.used (u.ok d w).inv;rw[al e,i6 _ _ e,Nat.add_zero]
theorem ii:(6:Nat)∈cls:=by decide
theorem c6.jI{S:cQ}{c a:Nat}(d:c∈cls)(h:c6 S c a):e4 (cc c) (S.C c) a:=by rcases h with⟨_,k⟩|⟨rfl,_⟩;all_goals trivial
theorem kD{m:Nat->Nat}{o x:Nat}{L:List Nat}(h:x<o\/o+8*L.length<=x):du m o L x=m x:=by rw[du,jW,al U]
theorem u4{m:Nat->Nat}{o n x:Nat}(h:x<o\/o+n<=x):hf m o n x=m x:=by rw[hf,al U]
def bP.lay(A:bP)(i s w:Nat)(Q:List aC.bY):bP:={A with Q:=Q,aK:=fc A.aK i s w,np:=A.np+2}
theorem KQ{A:bP}{s w:Nat}(d:i<256)(hs:s<256)(C:A.aK i s=0)(hw:w≠0):ou (fc A.aK i s w)=ou A.aK+1:=by
 have:=yV (aK:=A.aK) (m4:=fc A.aK i s w) d hs λj r h=>la h;have u:ba (fc A.aK i s w i s)=1:=by rw[ia];exact al hw
 grind[ba]
theorem KP{A:bP}{s:Nat}(u:i<256)(hs:s<256)(d:A.aK i s≠0):ou (fc A.aK i s 0)+1=ou A.aK:=by
 have:=yV (aK:=A.aK) (m4:=fc A.aK i s 0) u hs λj r h=>la h;have w:ba (fc A.aK i s 0 i s)=0:=by grind[ba,ia]
 have ey:ba (A.aK i s)=1:=al d;omega
theorem cB.lt{l:List an.bX}(d:an.dN l){s:Int}{o:an.e9}(h:cB l i s o):i<256:=by obtain⟨g,h⟩:=h;exact d.lt h
section
variable {top : Nat} {A : bP} {S ck dD a8 : cQ} {i a s w : Nat} {f : Int}
theorem cn.node(h:cn top A S)(w:cB A.l i 1 (bt 2 a f)){y:Nat×Nat×List cf}(g:iO top S 6 y)(e:ck=j5 S f 6 (some y)):
 fX top S ck hR hR/\c6 ck 6 (addr 6 y)/\¬c6 S 6 (addr 6 y)/\gm top ck a/\(∀j,j<16->bm ck.m a j=bm S.m a j)/\∀r,r<256->ec ck.m a r=A.aK i r/\dX ck.m a r=dX S.m a r:=by obtain⟨g1,g2⟩:=v8 (a8:=ck) h.P ii g ry ry (λo C=>by rw[e];exact u4 C);obtain⟨t1,t2⟩:=h.hH i a f w;obtain⟨bO,D,u⟩:=t1.mL g1 (λh=>h) λ_ _ _ h=>h;exact⟨g1,g2,λk=>g.ul h.P ii k ⟨rfl,rfl⟩,bO,D,λr d=>⟨(u r d).1.trans (t2 r d).1,(u r d).2⟩⟩
theorem cn.lay(a0:an.dN A.l)(h:cn top A S)(N:cB A.l i 1 (bt 2 a f))(hs:s<256)(ao:A.aK i s=0)(hw:w≠0){y:Nat×Nat×List cf}(g:iO top S 6 y)(e:ck=j5 S f 6 (some y)){Y X:Nat->Nat->Prop}(g2:fX top ck a8 Y X)(ax:a8.C 6=ck.C 6)
 (W:gm top a8 a) (ar:ec a8.m a s=w) (aN:dX a8.m a s=addr 6 y) (aC:∀r,r<256->r≠s->ec a8.m a r=ec ck.m a r/\dX a8.m a r=dX ck.m a r) (aX:(dk a8.C a8.Fr).length<=(dk ck.C ck.Fr).length+1)
 (aH:∀c b,X c b->(c=2/\b=a)\/(c=7/\∃j,j<16/\bm S.m a j≠0/\bm S.m a j=b)) (ag:∀c b,¬Y c b) (aA:∀j,j<16->bm a8.m a j≠0->(bm S.m a j≠0/\bm a8.m a j=bm S.m a j)\/¬c6 S 7 (bm a8.m a j)):cn top (A.lay i s w a8.Q) ⟨a8.Q,A.bx,a8.C,a8.Fr,a8.m⟩:=by
 obtain⟨g1,ba,bw,t1,t2,t3⟩:=h.node N g e;have au:c6 a8 6 (addr 6 y):=by grind[c6]
 have a2:(dk a8.C a8.Fr).length<=A.np+2:=(by have E:=g.len;(have d:ck.C=dF S.C 6 y.2.2/\ck.Fr=S.Fr:=by rw[e];exact⟨rfl,rfl⟩);rw[d.1,d.2]at aX;have:=h.fV;omega);have V:∀r,r<256->r≠s->dX a8.m a r=dX S.m a r:=b2
 refine h.Br (Y:=Y) (X:=X) ⟨g2.P.mem rfl rfl,λc b k au=>g2.p c b (g1.p c b k λh=>h) au,λc b k au o E d=>(g2.m c b (g1.p c b k λh=>h) au o E d).trans (g1.m c b k (λh=>h) o E d),g2.pY⟩ N rfl rfl rfl ⟨rfl,rfl⟩ (λj aQ=>funext λr=>la (.inl aQ)) (λc b a3=>(aH c b a3).imp_right .inl) (λc b a4=>absurd a4 (ag c b)) ⟨W.tk,W.fz,W.bo,W.ne⟩ (λr H=>?_) (λr u H hu E d he=>?_) aA ?_ a2;by_cases D:r=s;subst D;dsimp only[bP.lay];rw[ia];exact⟨ar,λ_=>⟨by rw[aN];exact au,.inr (by rw[aN];exact bw)⟩⟩;dsimp only[bP.lay];rw[kH D];refine⟨(aC r H D).1.trans (t3 r H).1,λZ=>?_⟩;rw[V r H D];exact⟨g2.p _ _ (g1.p _ _ (((h.hH i a f N).2 r H).2 Z) λh=>h) (ag _ _),.inl ⟨Z,rfl⟩⟩;dsimp only[bP.lay]at E d he;by_cases O:r=s<;>by_cases D:u=s;omega;subst O;rw[kH D]at d;rw[aN,V u hu D]at he;exact absurd (((h.hH i a f N).2 u hu).2 d) (by rw[<-he];exact bw);subst D;rw[kH O]at E;rw[aN,V r H O]at he;exact absurd (((h.hH i a f N).2 r H).2 E) (by rw[he];exact bw);rw[kH O]at E;rw[kH D]at d;rw[V r H O,V u hu D]at he;exact(h.nq i i a a f f r u N N H hu E d he).2;dsimp only[bP.lay];rw[KQ (N.lt a0) hs ao hw,<-h.rz,ax,e];exact Ib ii g 6
theorem cn.zV(W:an.dN A.l)(h:cn top A S)(E:cB A.l i 1 (bt 2 a f))(hs:s<256)(O:A.aK i s=0)(hw:w≠0)(Z:w<2^64){y:Nat×Nat×List cf}(g:iO top S 6 y)(e:ck=j5 S f 6 (some y))(hr:bm ck.m a (s/16)≠0)
 (d:a8=⟨ck.Q,ck.bx,ck.C,ck.Fr,du ck.m (bm ck.m a (s/16)+s %16*16) [w,addr 6 y]⟩):cn top (A.lay i s w (aC.db A.Q f 48).1) a8:=by
 obtain⟨g1,ba,bw,t1,t2,t3⟩:=h.node E g e;have u:s/16<16:=U
 have aX:=t1.rv g1.P u hr;have a2:2^top<=128:=Uu (n:=2) am h.P.fW.2;have a0:=c6.bd g1.P ba;have ax:cc 7=256:=rfl;obtain⟨bO,ag,ao,ar,au⟩:=t1.sW g1.P hs hr Z (b:=addr 6 y) U (.inl hw) (a8:=a8) (by rw[d]) (by rw[d]);have V:c6 ck 7 (bm ck.m a (s/16)):=.inl ⟨fF,t1.fz _ u hr⟩;have g2:fX top ck a8 hR (ft 7 (bm ck.m a (s/16))):=oy g1.P V (by rw[d]) (by rw[d]) λo D=>(by rw[d];exact kD (by(have aA:bE 7=256:=rfl);simp only[UP,Wb];omega));have aQ:=h.lay W E hs O hw g e g2 (by rw[d]) bO ao ar au (by rw[d];exact Nat.le_succ _) (λc b N=>.inr ⟨N.1,s/16,u,by rw[<-t2 _ u];exact hr,by rw[N.2,t2 _ u]⟩) (λ_ _ h=>h) λj H D=>.inl (by rw[ag j H,t2 j H]at D⊢;exact⟨D,rfl⟩);have aH:a8.Q=(aC.db A.Q f 48).1/\a8.bx=A.bx:=(by rw[d,e];exact⟨by rw[<-h.Q.1];rfl,h.Q.2⟩);simp_all
theorem cn.zU(ao:an.dN A.l)(h:cn top A S)(V:cB A.l i 1 (bt 2 a f))(hs:s<256)(Z:A.aK i s=0)(hw:w≠0)(ar:w<2^64){y z:Nat×Nat×List cf}(g:iO top S 6 y)(e:ck=j5 S f 6 (some y))(hr:bm ck.m a (s/16)=0)(E:iO top ck 7 z)
 (d:a8=uH ck f a s w (addr 6 y) (some z)):cn top (A.lay i s w (aC.db (aC.db A.Q f 48).1 f 256).1) a8:=by
 obtain⟨g1,ba,bw,t1,t2,t3⟩:=h.node V g e;have a9:s/16<16:=U
 have bb:2^top<=128:=Uu (n:=2) am h.P.fW.2;have a7:=c6.bd g1.P ba;have aX:cc 7=256:=rfl;obtain⟨bO,au,be,ax,aA,aH,bh⟩:=t1.RD g1.P hs hr ar (b:=addr 6 y) U hw E (a8:=a8) (by rw[d];rfl) (by rw[d];rfl);obtain⟨u,gW⟩:=v8 (a8:=⟨a8.Q,a8.bx,a8.C,a8.Fr,du (hf ck.m (addr 7 z) 256) (addr 7 z+s %16*16) [w,addr 6 y]⟩) g1.P fF E (by rw[d];rfl) (by rw[d];rfl) λo O=>(by grind[kD,u4]);have H:c6 ck 2 a:=.inl ⟨c2,t1.tk⟩;have a4:=c6.apart u.P (u.p _ _ H λh=>h) gW (.inl (show(2:Nat)≠7 by decide));have a0:bE 2=128:=rfl;have aQ:bE 7=256:=rfl;have g2:fX top ck a8 (λc b=>hR c b\/hR c b) (λc b=>hR c b\/ft 2 a c b):=u.trans (oy u.P (u.p _ _ H λh=>h) rfl rfl λo O=>by rw[d];dsimp only[uH];by_cases a2:addr 7 z+s %16*16<=o/\o<addr 7 z+s %16*16+16;rw[du,jW,aw jn,du,jW,aw jn];rw[kD jn,kD jn,kD jn]);have ag:a8.C 6=ck.C 6:=by rw[d];exact i6 ck.C z.2.2 (show(6:Nat)≠7 by decide)
 have a3:=h.lay ao V hs Z hw g e g2 ag bO ax aA aH (by rw[d];exact E.len) (λc b D=>.inl (by rcases D with D|D;exact D.elim;exact D)) (λ_ _ h=>h.elim id id) λj a5 O=>(by by_cases W:j=s/16;subst W;rw[au];exact .inr λk=>E.ul g1.P fF (g1.p _ _ k λh=>h) ⟨rfl,rfl⟩;simp_all);have N:a8.Q=(aC.db (aC.db A.Q f 48).1 f 256).1/\a8.bx=A.bx:=(by rw[d,e];exact⟨by rw[<-h.Q.1];rfl,h.Q.2⟩);rw[<-N.1];have:a8=⟨a8.Q,A.bx,a8.C,a8.Fr,a8.m⟩:=by rw[<-N.2]
 grind
end
end Go.Proofs.YtglgidjhoncphaaGreatDoor
namespace Go.Proofs.YtglgidjhoncphaaGreatDoor
open Go Go.QM
variable [dL]
def bP.bare(A:bP)(i s:Nat)(Q:List aC.bY):bP:={A with Q:=Q,aK:=fc A.aK i s 0}
def bP.set(A:bP)(i s w:Nat):bP:={A with aK:=fc A.aK i s w}
section
variable {top : Nat} {A : bP} {S dD a8 : cQ} {i a s w : Nat} {f : Int}
theorem cn.bare(a2:an.dN A.l)(h:cn top A S)(E:cB A.l i 1 (bt 2 a f))(hs:s<256)(Z:A.aK i s≠0){Y X:Nat->Nat->Prop}(g:fX top S dD Y X)(a5:∀c b,X c b->(c=2/\b=a)\/(c=7/\∃j,j<16/\bm S.m a j≠0/\bm S.m a j=b))(aX:∀c b,Y c b->c=7)
 (aQ:gm top dD a) (a3:ec dD.m a s=0) (ag:∀r,r<256->r≠s->ec dD.m a r=ec S.m a r/\(ec S.m a r≠0->dX dD.m a r=dX S.m a r)) (aH:dD.C 6=S.C 6) (a7:(dk dD.C dD.Fr).length<=(dk S.C S.Fr).length) (a4:∀j,j<16->bm dD.m a j≠0->bm dD.m a j=bm S.m a j)
 {aD i0:Nat} {L':List cf} (aW:jN top dD 6 aD i0 L') (a0:dX S.m a s=aD*1024+64+i0*48) (Q:List aC.bY):cn top (A.bare i s Q) ⟨Q,A.bx,dF dD.C 6 L',dD.Fr,dD.m⟩:=by
 obtain⟨t1,t2⟩:=h.hH i a f E;have g2:fX top dD ⟨Q,A.bx,dF dD.C 6 L',dD.Fr,dD.m⟩ (ft 6 (dX S.m a s)) (ft 6 (dX S.m a s)):=v7 g.P ii aW a0 rfl rfl rfl;obtain⟨bO,a8,a9⟩:=aQ.mL g2 (λh=>absurd h.1 am) λ_ _ _ h=>absurd h.1 am;have W:∀r,r<256->r≠s->A.aK i r≠0->dX dD.m a r=dX S.m a r/\c6 S 6 (dX S.m a r)/\dX S.m a r≠dX S.m a s:=λr d ar D=>(by refine⟨(ag r d ar).2 (by rw[(t2 r d).1];exact D),(t2 r d).2 D,λe=>ar (h.nq i i a a f f r s E E d hs D Z e).2⟩);refine h.Br (g.trans g2) E rfl rfl rfl ⟨rfl,rfl⟩ (λj ao=>funext λr=>la (.inl ao)) (λc b au=>?_) (λc b w=>?_) bO (λr d=>?_) (λr u d hu O V he=>?_) (λj ao D=>?_) ?_ ?_;·rcases au with au|⟨rfl,rfl⟩;all_goals grind
 rcases w with w|w;grind;have:=w.1;omega;dsimp only[bP.bare];by_cases e:r=s;grind[ia];rw[kH e];refine⟨(ag r d e).1.trans (t2 r d).1,λD=>?_⟩;obtain⟨H,N,ax⟩:=W r d e D;rw[H];exact⟨g2.p _ _ (g.p _ _ N λw=>absurd (aX _ _ w) am) λw=>ax w.2,.inl ⟨D,rfl⟩⟩;dsimp only[bP.bare]at O V he;have H:r≠s:=by grind[ia]
 have N:u≠s:=by grind[ia]
 rw[kH H]at O;rw[kH N]at V;rw[(W r d H O).1,(W u hu N V).1]at he;exact(h.nq i i a a f f r u E E d hu O V he).2;grind;dsimp only[bP.bare];have aA:=Ia g.P ii aW 6;rw[aw rfl,aH,h.rz,<-KP (E.lt a2) hs Z]at aA;omega;dsimp only[bP.bare];have:=aW.len;have:=h.fV;omega
theorem cn.fz(h:cn top A S)(u:cB A.l i 1 (bt 2 a f))(hs:s<256)(d:A.aK i s≠0):bm S.m a (s/16)≠0:=λe=>d (by rw[<-((h.hH i a f u).2 s hs).1,ec,aw e])
def lT(A:bP)(i s:Nat):Prop:=∃r,r<256/\r/16=s/16/\r≠s/\A.aK i r≠0
theorem cn.row(h:cn top A S)(w:cB A.l i 1 (bt 2 a f))(hs:s<256)(D:A.aK i s≠0):lT A i s↔∃j,j<16/\j≠s %16/\cS S.m (bm S.m a (s/16)+j*16)≠0:=by have C:=h.fz w hs D;obtain⟨_,t2⟩:=h.hH i a f w;constructor;rintro⟨r,H,d,E,u⟩;refine⟨r %16,by omega,by omega,?_⟩;rw[<-(t2 r H).1,ec,d,al C]at u;exact u;rintro⟨j,N,d,E⟩;refine⟨s/16*16+j,by omega,by omega,by omega,?_⟩;rw[<-(t2 _ U).1,ec,show(s/16*16+j)/16=s/16 by omega,al C,show(s/16*16+j) %16=j by omega];trivial
theorem cn.GO(h:cn top A S)(E:cB A.l i 1 (bt 2 a f))(hs:s<256)(C:A.aK i s=0):bm S.m a (s/16)≠0↔lT A i s:=by
 obtain⟨t1,t2⟩:=h.hH i a f E;constructor;intro w;obtain⟨j,N,d⟩:=t1.ne _ U w;have e:ec S.m a (s/16*16+j)≠0:=by rw[ec,show(s/16*16+j)/16=s/16 by omega,al w,show(s/16*16+j) %16=j by omega];exact d
 rw[(t2 _ U).1]at e;exact⟨_,by omega,by omega,λu=>e (by rw[u];exact C),e⟩;rintro⟨r,H,d,u,D⟩ e;rw[<-(t2 r H).1,ec,d,aw e]at D;trivial
theorem cn.sW(aA:an.dN A.l)(h:cn top A S)(D:cB A.l i 1 (bt 2 a f))(hs:s<256)(V:A.aK i s≠0)(hw:w≠0)(aC:w<2^64)(d:a8=⟨S.Q,S.bx,S.C,S.Fr,du S.m (bm S.m a (s/16)+s %16*16) [w,dX S.m a s]⟩):cn top (A.set i s w) a8:=by
 obtain⟨t1,t2⟩:=h.hH i a f D;have N:=h.fz D hs V;have W:s/16<16:=U
 have aX:=t1.rv h.P W N;have a2:2^top<=128:=Uu (n:=2) am h.P.fW.2;have a0:=c6.bd h.P ((t2 s hs).2 V);obtain⟨bO,a3,a4,a5,a7⟩:=t1.sW h.P hs N aC (b:=dX S.m a s) U (.inl hw) (a8:=a8) (by rw[d]) (by rw[d]);have ax:c6 S 7 (bm S.m a (s/16)):=.inl ⟨fF,t1.fz _ W N⟩;have g2:fX top S a8 hR (ft 7 (bm S.m a (s/16))):=oy h.P ax (by rw[d]) (by rw[d]) λo H=>(by rw[d];exact kD (by(have aQ:bE 7=256:=rfl);simp only[UP,Wb];omega));have aN:∀r,r<256->dX a8.m a r=dX S.m a r:=λr E=>cr;have O:∀r,A.aK i r≠0↔(A.set i s w).aK i r≠0:=λr=>(by dsimp only[bP.set];grind[ia,kH]);refine h.Br g2 D rfl rfl rfl (by rw[d];exact h.Q) (λj ag=>funext λr=>la (.inl ag)) (λc b ao=>.inr (.inl ⟨ao.1,s/16,W,N,ao.2.symm⟩)) (λc b aH=>aH.elim) bO (λr E=>⟨?_,λH=>?_⟩) (λr u E hu ar au he=>?_) (λj ag H=>.inl ?_) ?_ (by rw[d];exact h.fV);dsimp only[bP.set];grind[ia,kH];rw[aN r E];exact⟨g2.p _ _ ((t2 r E).2 ((O r).2 H)) λh=>h,.inl ⟨(O r).2 H,rfl⟩⟩;rw[aN r E,aN u hu]at he;exact(h.nq i i a a f f r u D D E hu ((O r).2 ar) ((O u).2 au) he).2;simp_all;have Z:=yV (aK:=A.aK) (m4:=(A.set i s w).aK) (D.lt aA) hs λj r h=>la h;dsimp only[bP.set]at Z⊢;rw[ia,ba,ba,al V,al hw]at Z;rw[d];exact h.rz.trans U
theorem cn.yv(W:an.dN A.l)(h:cn top A S)(d:cB A.l i 1 (bt 2 a f))(hs:s<256)(u:A.aK i s≠0)(hr:lT A i s)(e:dD=⟨S.Q,S.bx,S.C,S.Fr,du S.m (bm S.m a (s/16)+s %16*16) [0,0]⟩){aD i0:Nat}{L':List cf}(aW:jN top dD 6 aD i0 L')(O:dX S.m a s=aD*1024+64+i0*48)(Q:List aC.bY):
 cn top (A.bare i s Q) ⟨Q,A.bx,dF dD.C 6 L',dD.Fr,dD.m⟩:=by
 obtain⟨t1,t2⟩:=h.hH i a f d;have w:=h.fz d hs u;have E:s/16<16:=U
 obtain⟨bO,ag,ao,ax,N⟩:=t1.sW h.P hs w (a:=0) (b:=0) am am (.inr ((h.row d hs u).1 hr)) (a8:=dD) jE jE;have g:fX top S dD hR (ft 7 (bm S.m a (s/16))):=oy h.P (h.leaf d E w) jE jE λo au=>(by rw[e];exact kD (by(have ar:bE 7=256:=rfl);simp only[UP,Wb];omega));exact h.bare W d hs u g (λc b H=>.inr ⟨H.1,s/16,E,w,H.2.symm⟩) (λc b Z=>Z.elim) bO ao (λr hr D=>⟨(N r hr D).1,λ_=>(N r hr D).2⟩) jE (by rw[e];exact Uw _) (λj V _=>ag j V) aW O Q
theorem cn.yu(ax:an.dN A.l)(h:cn top A S)(w:cB A.l i 1 (bt 2 a f))(hs:s<256)(H:A.aK i s≠0)(hr:¬lT A i s){Z i7:Nat}{E:List cf}(g7:jN top S 7 Z i7 E)(W:bm S.m a (s/16)=Z*1024+64+i7*256){ag:List aC.bY}
 (e:dD=⟨ag,S.bx,dF S.C 7 E,S.Fr,du (du S.m (bm S.m a (s/16)+s %16*16) [0,0]) (a+s/16*8) [0]⟩) {aD i0:Nat} {L':List cf} (aW:jN top dD 6 aD i0 L') (ar:dX S.m a s=aD*1024+64+i0*48) (Q:List aC.bY):
 cn top (A.bare i s Q) ⟨Q,A.bx,dF dD.C 6 L',dD.Fr,dD.m⟩:=by
 obtain⟨t1,t2⟩:=h.hH i a f w;have D:=h.fz w hs H;have V:s/16<16:=U
 have aA:∀j,j<16->j≠s %16->cS S.m (bm S.m a (s/16)+j*16)=0:=λj O au=>Vm λbK=>hr ((h.row w hs H).2 ⟨j,O,au,bK⟩);obtain⟨bO,aH,aQ,aX,a0⟩:=t1.KB h.P hs D aA W g7 (a8:=dD) jE jE;have ao:c6 S 2 a:=.inl ⟨c2,t1.tk⟩;have a3:bE 7=256:=rfl;have a2:bE 2=128:=rfl;have bi:fX top S ⟨S.Q,S.bx,S.C,S.Fr,du S.m (bm S.m a (s/16)+s %16*16) [0,0]⟩ hR (ft 7 (bm S.m a (s/16))):=oy h.P (h.leaf w V D) rfl rfl λo N=>kD jn;have gW:fX top _ ⟨S.Q,S.bx,S.C,S.Fr,dD.m⟩ hR (ft 2 a):=oy (a8:=⟨S.Q,S.bx,S.C,S.Fr,dD.m⟩) bi.P (bi.p 2 a ao λh=>h) rfl rfl λo N=>(by rw[e];exact kD jn);have gc:fX top _ dD (ft 7 (bm S.m a (s/16))) (ft 7 (bm S.m a (s/16))):=v7 gW.P fF (g7.rG rfl rfl) W jE jE rfl;refine h.bare ax w hs H ((bi.trans gW).trans gc) (λc b d=>?_) (λc b u=>?_) bO aX a0 (by rw[e];exact i6 S.C E (show(6:Nat)≠7 by decide)) (by rw[e];exact g7.len) (λj O N=>aQ j O λe=>N (by rw[e];exact aH)) aW ar Q;rcases d with(d|d)|d;exact .inr ⟨d.1,s/16,V,D,d.2.symm⟩;exact .inl d;exact .inr ⟨d.1,s/16,V,D,d.2.symm⟩;rcases u with(u|u)|u;exact u.elim;exact u.elim;exact u.1
end
def dG(h r:Nat):Nat:=h+1+r*4294967296
theorem jG{h r:Nat}(d:h<4294967295)(hr:r<=15):dG h r<2^64/\dG h r≠0:=by rw[dG];omega
structure jy(Q vh:List aC.bY)(bx f d:Int):Prop where
  d8:aC.eP vh bx
  has:∀x,aC.df vh x↔aC.df Q x
  fJ:∀x,aC.df Q x->aC.f8 vh x=aC.f8 Q x+if x=f then d else 0
  par:∀x,aC.k3 vh x=aC.k3 Q x
theorem Gd{Q:List aC.bY}(h:aC.iv Q)(f c x:Int):aC.k3 (aC.fG Q f c) x=aC.k3 Q x:=by
 by_cases d:aC.df Q x;obtain⟨t,u,rfl⟩:=d;rw[(aC.ip h u).2.2.2];have hm:(if t.id=f then⟨t.id,t.par,t.lim,c⟩else t:aC.bY)∈aC.fG Q f c:=by grind[aC.sX]
 have:=(aC.ip (Bf h f c) hm).2.2.2;grind;rw[(aC.Ic d).2.2.2,(aC.Ic λh=>d (aC.qL.1 h)).2.2.2]
variable{f bx:Int}
theorem jy.hz{Q:List aC.bY}{n:Int}(h:aC.eP Q bx)(u:(aC.db Q f n).2=0):jy Q (aC.db Q f n).1 bx f n:=by obtain⟨C,D,E,d⟩:=yH u;refine⟨h.Kw f n,λx=>by rw[d];exact aC.qL,λx w=>?_,λx=>by rw[d];exact Gd h.bo _ _ _⟩;rw[d,yI h.bo w];grind
theorem jy.rG{Q:List aC.bY}{n:Int}(h:aC.eP Q bx)(u:aC.df Q f)(w:0<=n)(C:n<=aC.f8 Q f):(aC.ek Q f n).2=0/\jy Q (aC.ek Q f n).1 bx f (-n):=by have d:=GG u w C;refine⟨by rw[d],h.QN f n,λx=>by rw[d];exact aC.qL,λx D=>?_,λx=>by rw[d];exact Gd h.bo _ _ _⟩;rw[d];dsimp only;rw[yI h.bo D];grind
theorem jy.trans{Q u w:List aC.bY}{d e:Int}(h:jy Q u bx f d)(k:jy u w bx f e):jy Q w bx f (d+e):=
 ⟨k.d8,λx=>(k.has x).trans (h.has x),λx C=>by rw[k.fJ x ((h.has x).2 C),h.fJ x C];split<;>omega,λx=>(k.par x).trans (h.par x)⟩
def jV(e:Nat->Nat)(j:Nat):Nat:=hW 16 λr=>e (16*j+r)
def kF(e:Nat->Nat):Nat:=hW 256 (λs=>48*ba (e s))+hW 16 λj=>256*ba (jV e j)
theorem sh{x:Nat}(h:x≠0):ba x=1:=al h
theorem yt:ba 0=0:=rfl
theorem Bl{f:Nat->Nat}{n:Nat}:hW n f≠0↔∃k,k<n/\f k≠0:=by constructor;intro h;refine Vm λau=>h (pO λi u=>Vm λd=>au ⟨i,u,d⟩);grind[uK]
theorem Sw{e e':Nat->Nat}{s:Nat}(hs:s<256)(u:e s≠0)(hw:e' s≠0)(he:∀r,r≠s->e' r=e r):kF e'=kF e:=by have d:∀r,ba (e' r)=ba (e r):=λr=>(by grind[sh]);rw[kF,kF,rK λr _=>by rw[d r],rK (f:=λj=>256*ba (jV e' j)) (g:=λj=>256*ba (jV e j)) λj _=>?_];have:jV e' j≠0↔jV e j≠0:=(by grind[jV,Bl]);by_cases h:jV e j=0;simp_all;grind[sh]
theorem Bt{e e':Nat->Nat}{s:Nat}(hs:s<256)(u:e s=0)(hw:e' s≠0)(he:∀r,r≠s->e' r=e r):kF e'=kF e+48+256*(1-ba (jV e (s/16))):=by
 have w:=pN (f:=λr=>48*ba (e r)) (g:=λr=>48*ba (e' r)) hs λr _ d=>by rw[he r d]
 have C:=pN (f:=λj=>256*ba (jV e j)) (g:=λj=>256*ba (jV e' j)) (n:=16) (k:=s/16) U λj _ d=>(by grind[jV,rK]);rw[u,yt,sh hw]at w;rw[sh (show jV e' (s/16)≠0 from Bl.2 ⟨s %16,by omega,by rw[show 16*(s/16)+s %16=s by omega];exact hw⟩)]at C;grind[ba,kF]
def h0(A:bP)(x:Int)(i:Nat):Nat:=match A.l[i]? with
  | some p=>if(p.st=1\/p.st=2)/\p.o.f=x then bE p.o.k.toNat+(if p.st=1/\p.o.k=2 then kF (A.aK i)else 0)else 0
  | none=>0
instance (s:Int):Decidable (fl s):=inferInstanceAs (Decidable (s=1\/s=2))
def pe(A:bP)(x:Int):Nat:=hW 256 (h0 A x)
variable{A:bP}
theorem nL{i:Nat}{s:Int}{o:an.e9}(h:cB A.l i s o)(x:Int):h0 A x i=if fl s/\o.f=x then bE o.k.toNat+(if s=1/\o.k=2 then kF (A.aK i)else 0)else 0:=by obtain⟨g,h⟩:=h;rw[h0,h];rfl
structure cq(A:bP):Prop where
  ok:an.dN A.l
  d8:aC.eP A.Q A.bx
  rt:(∃a,A.l[0]? =some ⟨bt 1 a 0,1,0⟩)/\A.own 0=0
  ac:∀i s o,fl s->cB A.l i s o->aC.df A.Q o.f/\bE o.k.toNat≠0
  cW:∀i s a f,fl s->cB A.l i s (bt 1 a f)->aC.df A.Q (A.own i)/\(i≠0->A.own i≠0/\aC.k3 A.Q (A.own i)=f)
  m9:∀i j s r a b f g,fl s->fl r->cB A.l i s (bt 1 a f)->cB A.l j r (bt 1 b g)->A.own i=A.own j->i=j
  aK:∀i s,A.aK i s≠0->s<256/\(∃a f,cB A.l i 1 (bt 2 a f))/\∃h r:Nat,A.aK i s=dG h r/\1<=r/\r<=15/\h<4294967295/\(an.cP A.l h).2=0
  hz:∀x,aC.df A.Q x->aC.f8 A.Q x=pe A x
  mj:∀h:Int,(∃p,an.ei A.l h 2=some p)/\0<=h↔h∈A.q.map (·.1)
  n2:(A.q.map (·.1)).Nodup
  n4:∀t∈A.q,A.now<t.2/\t.2<=A.now+A.pd
  mR:A.q.Pairwise λa b=>a.2<=b.2
  pd:(1<=A.pd/\A.pd<=16)/\0<=A.now
  bd:A.bx<=A.np/\A.now<=A.np/\A.np<=1000000
variable{k:Nat}
theorem pA{l:List an.bX}{p:an.bX}{h st:Int}(d:(h %256).toNat≠k):an.ei (l.set k p) h st=an.ei l h st:=by grind[an.ei]
theorem oA{l:List an.bX}{h:Int}(d:0<=h)(u:(an.cP l h).2=0):∃i p,an.ei l h 1=some (i,p)/\l[i]? =some p/\p.st=1/\i<256/\h=p.c0*256+i/\(h %256).toNat=i/\an.cP l h=(p.o,0):=by grind[an.cP,an.nX]
theorem wL{l:List an.bX}{i:Nat}{p:an.bX}(d:i<256)(h:l[i]? =some p):an.ei l (p.c0*256+i) p.st=some (i,p):=by
 have e:((p.c0*256+(i:Int)) %256).toNat=i:=U
 rw[an.ei,e,h];grind
variable(h:cq A)
theorem cq.tK(h:cq A){i a s w np:Nat}{d:Int}(u:cB A.l i 1 (bt 2 a f))(hs:s<256){Q:List aC.bY}(C:jy A.Q Q A.bx f d)(ao:(kF (fc A.aK i s w i):Int)=kF (A.aK i)+d)(hw:w=0\/∃h r:Nat,w=dG h r/\1<=r/\r<=15/\h<4294967295/\(an.cP A.l h).2=0)(ar:A.np<=np/\np<=1000000):cq {A with Q:=Q,aK:=fc A.aK i s w,np:=np}:=by have V:=u.lt h.ok;refine⟨h.ok,C.d8,h.rt,λi s o hs u=>⟨(C.has _).2 (h.ac i s o hs u).1,(h.ac i s o hs u).2⟩,λi s a f hs u=>?_,h.m9,λj r H=>?_,λx Z=>?_,h.mj,h.n2,h.n4,h.mR,h.pd,?_⟩;obtain⟨D,E⟩:=h.cW i s a f hs u;dsimp only;exact⟨(C.has _).2 D,λO=>⟨(E O).1,by rw[C.par];exact(E O).2⟩⟩;dsimp only at H⊢;by_cases e:j=i/\r=s;grind[ia];have N:j≠i\/r≠s:=U;rw[la N]at H⊢;exact h.aK j r H;have P:=(C.has x).1 Z;have D:=pN (f:=h0 A x) (g:=h0 {A with Q:=Q,aK:=fc A.aK i s w,np:=np} x) V λj _ W=>(by rw[h0,h0];dsimp only;rw[show fc A.aK i s w j=A.aK j from funext λr=>la (.inl W)]);rw[nL (A:=A) u x,nL (A:={A with Q:=Q,aK:=fc A.aK i s w,np:=np}) u x]at D;have E:=h.hz x P;have ag:=C.fJ x P;rw[pe]at E⊢;dsimp only at D⊢;have hu:fl 1:=.inl rfl;have N:((bt 2 a f).f=x)=(f=x):=rfl;by_cases e:f=x;have bO:fl 1/\(bt 2 a f).f=x:=⟨hu,e⟩;have au:(1:Int)=1/\(bt 2 a f).k=2:=⟨rfl,rfl⟩;grind;grind;have:=h.bd;grind
theorem Hz{e:Nat->Nat}(h:∀s,e s=0):kF e=0:=by rw[kF,pO λs _=>by rw[h s];rfl,pO λj _=>by rw[jV,pO λr _=>h _];rfl]
theorem cq.y3(h:cq A){s:Int}{o:an.e9}(D:cB A.l k s o)(hs:s≠1\/o.k≠2)(r:Nat):A.aK k r=0:=Vm λw=>by
 obtain⟨_,⟨a,f,C⟩,_⟩:=h.aK k r w
 obtain⟨d,u⟩:=D.inj C
 rcases hs with hs|hs
 ·exact hs d
 exact hs (by rw[u];rfl)
theorem cq.lt(h:cq A){i:Nat}{p:an.bX}(d:A.l[i]? =some p):i<256/\0<=p.c0/\p.c0<=1048575:=⟨h.ok.lt d,h.ok.c0 p (Us d)⟩
theorem cq.put(h:cq A){c a np:Nat}{g:Int}{dw:an.e9}{Q:List aC.bY}{own:Nat->Nat}(ag:A.l[k]? =some ⟨dw,0,g⟩)(a9:bE c≠0)(a5:aC.df A.Q f)(av:aC.eP Q bx)
 (ao:∀x,aC.df A.Q x->aC.df Q x/\aC.f8 Q x=aC.f8 A.Q x+(if x=f then(bE c:Int)else 0)/\aC.k3 Q x=aC.k3 A.Q x)
 (bl:∀x,aC.df Q x->¬aC.df A.Q x->aC.f8 Q x=0) (aQ:c=1->aC.df Q (own k)/\¬aC.df A.Q (own k)/\own k≠0/\aC.k3 Q (own k)=f)
 (N:∀i,i≠k->own i=A.own i) (bm:A.np<=np/\np<=1000000) (bb:bx<=np):cq {A with l:=A.l.set k ⟨bt c a f,1,g⟩,Q:=Q,bx:=bx,own:=own,np:=np}:=by
 obtain⟨aA,a7⟩:=h.lt ag;have bo:∀r,A.aK k r=0:=λr=>h.y3 (k:=k) (s:=0) ⟨g,ag⟩ (.inl am) r;have a8:k≠0:=λe=>(by obtain⟨⟨b,u⟩,_⟩:=h.rt;simp_all);have back:∀{i s o},cB (A.l.set k ⟨bt c a f,1,g⟩) i s o->(i≠k/\cB A.l i s o)\/(i=k/\s=1/\o=bt c a f):=λ{i s o} C=>(by rcases C.set with h|⟨e,O,P⟩;all_goals simp_all);have key:∀{b:Nat} {w:Int},bt c a f=bt 1 b w->c=1/\f=w:=λ{b w} e=>(by grind[jr]);refine⟨h.ok.set k a7,av,⟨?_,?_⟩,λi s o hs C=>?_,λi s b w hs C=>?_,λi j s r b d w aH hs a2 C ax e=>?_,λi s C=>?_,λx be=>?_,λE=>?_,h.n2,h.n4,h.mR,h.pd,⟨bb,by have:=h.bd;dsimp only;omega⟩⟩;obtain⟨⟨b,u⟩,_⟩:=h.rt;grind;dsimp only;rw[N 0 (λe=>a8 e.symm)];exact h.rt.2;rcases back C with⟨_,u⟩|⟨_,_,rfl⟩;exact⟨(ao _ (h.ac i s o hs u).1).1,(h.ac i s o hs u).2⟩;exact⟨(ao _ a5).1,a9⟩;dsimp only;rcases back C with⟨H,u⟩|⟨rfl,_,e⟩;obtain⟨D,W⟩:=h.cW i s b w hs u;simp_all;grind;dsimp only at e;rcases back C with⟨H,u⟩|⟨rfl,_,O⟩<;>rcases back ax with⟨aX,D⟩|⟨rfl,_,P⟩;rw[N i H,N j aX]at e;exact h.m9 i j s r b d w aH hs a2 u D e;obtain⟨V,_⟩:=key P.symm;rw[N i H]at e;exact absurd (by rw[<-e];exact(h.cW i s b w hs u).1) (aQ V).2.1;obtain⟨V,_⟩:=key O.symm;rw[N j aX]at e;exact absurd (by rw[e];exact(h.cW j r d aH a2 D).1) (aQ V).2.1;trivial;dsimp only at C⊢;obtain⟨u,⟨b,w,D⟩,a3,r,W,ar,Z,bK,a4⟩:=h.aK i s C;have H:i≠k:=cr
 refine⟨u,⟨b,w,D.put _ H⟩,a3,r,W,ar,Z,bK,?_⟩;obtain⟨i2,p,O,P,V,_,_,bk,_⟩:=oA U a4;grind[an.cP,pA];dsimp only at be;have W:h0 {A with l:=A.l.set k ⟨bt c a f,1,g⟩,Q:=Q,bx:=bx,own:=own,np:=np} x k=if f=x then bE c else 0:=(by rw[nL (s:=1) (o:=bt c a f) ⟨g,by dsimp only;rw[U7 (by rw[h.ok.n];exact aA)]⟩ x];by_cases e:f=x;(have bO:fl 1/\(bt c a f).f=x:=by trivial);have bh:(if(1:Int)=1/\(bt c a f).k=2 then kF (A.aK k)else 0)=0:=(by grind[Hz]);rw[aw bO,aw e];exact congrArg (bE c+·) bh;rw[al (show ¬(fl 1/\(bt c a f).f=x)from λh=>e h.2),al e]);have ar:h0 A x k=0:=(by rw[nL (s:=0) ⟨g,ag⟩ x,al (show ¬(fl 0/\dw.f=x)from λh=>by rcases h.1 with h|h<;>exact absurd h am)]);have D:=pN (f:=h0 A x) (g:=h0 {A with l:=A.l.set k ⟨bt c a f,1,g⟩,Q:=Q,bx:=bx,own:=own,np:=np} x) aA λj _ H=>(by grind[h0]);rw[W,ar]at D;rw[pe];by_cases au:aC.df A.Q x;have Z:=h.hz x au;have bK:=(ao x au).2.1;rw[pe]at Z;grind;have Z:hW 256 (h0 A x)=0:=pO λj ax=>(by obtain⟨p,a0,_⟩:=h.ok.at ax;rw[nL (o:=p.o) (s:=p.st) ⟨p.c0,a0⟩ x,al (show ¬(fl p.st/\p.o.f=x)from λu=>au (u.2▸(h.ac j p.st p.o u.1 ⟨p.c0,a0⟩).1))]);grind;dsimp only;rw[<-h.mj E];have:(∃p,an.ei (A.l.set k ⟨bt c a f,1,g⟩) E 2=some p)↔∃p,an.ei A.l E 2=some p:=(by by_cases e:(E %256).toNat=k;have O:an.ei A.l E 2=none:=(by rw[an.ei,e,ag];dsimp only;rw[al λh=>absurd h.2 am]);have P:an.ei (A.l.set k ⟨bt c a f,1,g⟩) E 2=none:=(by rw[an.ei,e,U7 (by rw[h.ok.n];exact aA)];dsimp only;rw[al λh=>absurd h.2 am]);simp_all;grind[pA]);simp_all
theorem cq.tH(h:cq A){o:an.e9}{g:Int}(H:A.l[k]? =some ⟨o,1,g⟩)(bo:k≠0)(au:∀i s (x r:Nat),A.aK i s=dG x r->1<=r->r<=15->x<4294967295->(x:Int)≠g*256+k)(a8:∀s,A.aK k s=0)(a1:Nat->Nat->Nat):
 cq {A with l:=A.l.set k ⟨o,2,g⟩,a1:=a1,q:=A.q++[(g*256+k,A.now+A.pd)]}:=by
 obtain⟨a2,ao⟩:=h.lt H;dsimp only at ao;have back:∀{i s w},cB (A.l.set k ⟨o,2,g⟩) i s w->(i≠k/\cB A.l i s w)\/(i=k/\s=2/\w=o/\cB A.l i 1 w):=λ{i s w} u=>(by rcases u.set with h|⟨rfl,V,W⟩;simp_all;dsimp only at V W;subst W;exact .inr ⟨rfl,V.symm,rfl,g,H⟩);have Q:∀{i s w},fl s->cB (A.l.set k ⟨o,2,g⟩) i s w->∃r,fl r/\cB A.l i r w:=λ{i s w} hs u=>(by rcases back u with⟨_,h⟩|⟨_,_,_,h⟩;grind;exact⟨1,.inl rfl,h⟩);have bx:an.ei (A.l.set k ⟨o,2,g⟩) (g*256+k) 2=some (k,⟨o,2,g⟩):=by grind[an.ei]
 have br:an.ei A.l (g*256+k) 2=none:=(by rw[an.ei,show((g*256+(k:Int)) %256).toNat=k by omega,H];dsimp only;rw[al λh=>absurd h.2 am]);refine⟨h.ok.set k ao,h.d8,⟨?_,h.rt.2⟩,λi s w hs u=>?_,λi s b E hs u=>?_,λi j s r b d E ax hs N u a0 e=>?_,λi s u=>?_,λx D=>?_,λag=>?_,?_,λt O=>?_,?_,h.pd,h.bd⟩;obtain⟨⟨b,C⟩,_⟩:=h.rt;grind;obtain⟨r,N,C⟩:=Q hs u;exact h.ac i r w N C;obtain⟨r,N,C⟩:=Q hs u;exact h.cW i r b E N C;obtain⟨be,a7,C⟩:=Q hs u;obtain⟨bb,a5,Z⟩:=Q N a0;exact h.m9 i j be bb b d E ax a7 a5 C Z e;obtain⟨C,⟨b,E,Z⟩,x,r,aH,aQ,aX,bK,aC⟩:=h.aK i s u;have a3:i≠k:=cr
 refine⟨C,⟨b,E,Z.put _ a3⟩,x,r,aH,aQ,aX,bK,?_⟩;obtain⟨i2,p,bh,ar,bk,_,bm,bl,_⟩:=oA U aC;grind[an.cP,pA];dsimp only at D⊢;rw[h.hz x D];refine congrArg (λn:Nat=>(n:Int)) (rK λj _=>?_);rw[h0,h0];dsimp only;by_cases e:j=k;subst e;rw[U7 (by rw[h.ok.n];exact a2),H];dsimp only;by_cases ar:o.f=x;have bO:((1:Int)=1\/(1:Int)=2)/\o.f=x:=by trivial
 have a9:((2:Int)=1\/(2:Int)=2)/\o.f=x:=by trivial
 rw[aw bO,aw a9,Hz a8];simp;simp_all;grind;dsimp only;rw[Vy,Uq,<-h.mj ag];by_cases e:(ag %256).toNat=k;have:an.ei A.l ag 2=none:=(by rw[an.ei,e,H];dsimp only;rw[al λh=>absurd h.2 am]);rw[this];constructor;rintro⟨⟨⟨i,p⟩,a4⟩,aA⟩;obtain⟨V,W,_,_⟩:=an.nX aA a4;grind;grind;grind[pA];dsimp only;rw[Vy,US];refine⟨h.n2,by simp,λx D y P e=>?_⟩;rw[List.map_singleton,Up]at P;rw[e,P,<-h.mj]at D;simp_all;rcases Uq.1 O with O|O;exact h.n4 t O;rw[Up]at O;have:=h.pd;grind;dsimp only;rw[List.pairwise_append];refine⟨h.mR,by simp,λx D y P=>?_⟩;rw[Up]at P;rw[P];exact(h.n4 x D).2
theorem F4{L:List aC.bY}{y x:Int}:aC.df (aC.ky L y) x↔aC.df L x/\x≠y:=by constructor;rintro⟨t,d,rfl⟩;have:=aC.nr.1 d;exact⟨⟨t,this.1,rfl⟩,this.2⟩;rintro⟨⟨t,d,rfl⟩,u⟩;exact⟨t,aC.nr.2 ⟨d,u⟩,rfl⟩
theorem KF{L:List aC.bY}(av:aC.eP L bx)(y:Int):aC.eP (aC.iy L y).1 bx/\(∀x,aC.df (aC.iy L y).1 x->aC.df L x/\aC.f8 (aC.iy L y).1 x=aC.f8 L x/\aC.k3 (aC.iy L y).1 x=aC.k3 L x)/\∀x,aC.df L x->aC.df (aC.iy L y).1 x\/(x=y/\aC.f8 L x=0):=by refine⟨av.close y,?_⟩;unfold aC.iy;split;simp_all;split;simp_all;split;simp_all;rename_i w H N;have E:=Ut w;refine⟨λx h=>?_,λx h=>?_⟩;dsimp only at h⊢;have O:=F4.1 h;obtain⟨t,d,rfl⟩:=h;have C:=aC.nr.1 d;have au:aC.iv (aC.ky L y):=(by obtain⟨u,hu,rfl⟩:=E;obtain⟨M,bG⟩:=fv hu;exact(aC.iv.perm (av.bo.perm bG.symm) (V2 _)|>λh=>(UI.1 h).2)|>λh=>aC.iv.perm h (aC.w2 av.bo bG));have P:=aC.ip au d;have D:=aC.ip av.bo C.1;simp_all;by_cases e:x=y;subst e;obtain⟨t,d,rfl⟩:=h;have D:=aC.ip av.bo d;have Q:=(av.rg t d).2.2.2.2;have bK:=aC.wc av t.id;omega;grind[F4]
theorem cq.free(h:cq A){c a:Nat}{g t:Int}{aH:List (Int×Int)}(be:A.l[k]? =some ⟨bt c a f,2,g⟩)(ce:1<=c/\c<=5\/c=8)(a3:A.q=(g*256+k,t)::aH){l1:List aC.bY}(a7:l1=if c=1 then(aC.iy A.Q (A.own k)).1 else A.Q):
 (aC.ek l1 f (bE c)).2=0/\cq {A with l:=A.l.set k (an.iU ⟨bt c a f,2,g⟩),Q:=(aC.ek l1 f (bE c)).1,q:=aH}:=by
 obtain⟨aA,bP⟩:=h.lt be;dsimp only at bP;have Z:cB A.l k 2 (bt c a f):=⟨g,be⟩;have bZ:k≠0:=λe=>(by obtain⟨⟨b,D⟩,_⟩:=h.rt;simp_all);have a9:=h.ac k 2 _ (.inr rfl) Z;have cl:∀r,A.aK k r=0:=h.y3 Z (.inl am);have ax:¬fl (an.iU ⟨bt c a f,2,g⟩).st/\0<=(an.iU ⟨bt c a f,2,g⟩).c0/\(an.iU ⟨bt c a f,2,g⟩).c0<=1048575:=(by grind[an.iU,fl]);generalize cd:an.iU ⟨bt c a f,2,g⟩=P at ax;have bI:aC.eP l1 A.bx/\(∀x,aC.df l1 x->aC.df A.Q x/\aC.f8 l1 x=aC.f8 A.Q x/\aC.k3 l1 x=aC.k3 A.Q x)/\∀x,aC.df A.Q x->aC.df l1 x\/(c=1/\x=A.own k/\aC.f8 A.Q x=0):=(by rw[a7];split;rename_i cf;obtain⟨N,aQ,a8⟩:=KF h.d8 (A.own k);simp_all;exact⟨h.d8,λx O=>⟨O,rfl,rfl⟩,λx O=>.inl O⟩);obtain⟨cG,a4,a5⟩:=bI;have bm:∀x,aC.df A.Q x->aC.f8 A.Q x=0->∀i s o,fl s->cB A.l i s o->o.f≠x:=λx O W i s o hs w e=>(by have C:=uK (f:=h0 A x) (w.lt h.ok);have E:=h.hz x O;rw[nL w x,aw ⟨hs,e⟩]at C;rw[W,pe]at E;(have H:bE o.k.toNat=0:=by omega);exact absurd H (h.ac i s o hs w).2);have bO:c=1->f<A.own k:=λe=>(by obtain⟨N,aQ⟩:=h.cW k 2 a f (.inr rfl) (by subst e;exact Z);obtain⟨a8,D⟩:=aQ bZ;obtain⟨u,hu,w⟩:=N;rw[<-w,(aC.ip h.d8.bo hu).2.2.2]at D;have:=(h.d8.par u hu U).2;omega);have bb:aC.df l1 f:=(a5 f a9.1).elim id λN=>absurd (bO N.1) U;have cg:bE c<=pe A f:=(by have C:=uK (f:=h0 A f) aA;rw[nL Z f,aw ⟨.inr rfl,rfl⟩]at C;trivial);obtain⟨ee,ag⟩:=jy.rG (f:=f) (n:=(bE c:Int)) cG bb U (by rw[(a4 f bb).2.1,h.hz f a9.1];omega);have back:∀{i s o},fl s->cB (A.l.set k P) i s o->i≠k/\cB A.l i s o:=λ{i s o} hs w=>(by rcases w.set with h|⟨_,N,_⟩;all_goals simp_all);have bh:=h.n2;rw[a3]at bh;obtain⟨cj,b5⟩:=UI.1 bh;refine⟨ee,h.ok.set k ax.2,ag.d8,⟨?_,h.rt.2⟩,λi s o hs w=>?_,λi s b V hs w=>?_,λi j s r b d V br hs bk w bX e=>?_,λi s w=>?_,λx O=>?_,λa0=>?_,b5,λu hu=>h.n4 u (by rw[a3];exact List.mem_cons_of_mem _ hu),?_,h.pd,h.bd⟩;obtain⟨⟨b,D⟩,_⟩:=h.rt;grind;obtain⟨au,D⟩:=back hs w;obtain⟨C,E⟩:=h.ac i s o hs D;exact⟨(ag.has _).2 ((a5 _ C).elim id λH=>absurd rfl (bm _ C H.2.2 i s o hs D)),E⟩;dsimp only;obtain⟨au,D⟩:=back hs w;obtain⟨C,E⟩:=h.cW i s b V hs D;have H:aC.df l1 (A.own i):=(a5 _ C).elim id λar=>absurd (h.m9 i k s 2 b a V f hs (.inr rfl) D (by have:=ar.1;subst this;exact Z) U) au;exact⟨(ag.has _).2 H,λW=>⟨(E W).1,by rw[ag.par,(a4 _ H).2.2];exact(E W).2⟩⟩;exact h.m9 i j s r b d V br hs bk (back hs w).2 (back bk bX).2 e;obtain⟨D,⟨b,V,C⟩,x,r,E,H,ar,bK,bD⟩:=h.aK i s w;have au:i≠k:=cr
 refine⟨D,⟨b,V,C.put _ au⟩,x,r,E,H,ar,bK,?_⟩;obtain⟨i2,p,a7,ao,b9,_,cc,ca,_⟩:=oA U bD;grind[an.cP,pA];dsimp only at O⊢;have bl:=(ag.has x).1 O;obtain⟨b6,ck,_⟩:=a4 x bl;have E:h0 {A with l:=A.l.set k P,Q:=(aC.ek l1 f (bE c)).1,q:=aH} x k=0:=(by rw[nL (s:=P.st) (o:=P.o) ⟨P.c0,by dsimp only;rw[U7 (by rw[h.ok.n];exact aA)]⟩ x,al λh=>ax.1 h.1]);have H:h0 A x k=if f=x then bE c else 0:=(by rw[nL Z x];(have e:(bt c a f).k.toNat=c:=by trivial);by_cases ao:f=x;rw[aw ⟨.inr rfl,ao⟩,aw ao,e,al (λh=>absurd h.1 am)];rfl;rw[al (λh=>ao h.2),al ao]);have C:=pN (f:=h0 A x) (g:=h0 {A with l:=A.l.set k P,Q:=(aC.ek l1 f (bE c)).1,q:=aH} x) aA λj _ au=>(by grind[h0]);rw[E,H]at C;have ar:=h.hz x b6;have bK:=ag.fJ x bl;rw[pe]at ar⊢;grind;dsimp only;have aX:=h.mj a0;rw[a3,UX,UB]at aX;dsimp only at aX;by_cases e:(a0 %256).toNat=k;have:an.ei (A.l.set k P) a0 2=none:=(by rw[an.ei,e,U7 (by rw[h.ok.n];exact aA)];dsimp only;rw[al λh=>ax.1 (.inr h.2)]);rw[this];refine⟨λN=>(by obtain⟨⟨p,a2⟩,_⟩:=N;cases a2),λN=>?_⟩;obtain⟨⟨⟨i,p⟩,a2⟩,W⟩:=aX.2 (.inr N);obtain⟨aQ,a8,_,_⟩:=an.nX W a2;grind;grind[pA];have:=h.mR;simp_all
end Go.Proofs.YtglgidjhoncphaaGreatDoor
namespace Go.Proofs.YtglgidjhoncphaaGreatDoor.hh
open Go Go.QM
end Go.Proofs.YtglgidjhoncphaaGreatDoor.hh
namespace Go.Proofs.YtglgidjhoncphaaGreatDoor
open Go Go.QM
variable [dL]
structure fE where
  wg:Nat
  bF:Nat
  S:cQ
def hO(aV af top:Nat)(A:bP):ax:=fj λy:fE=>pure' (cn top A y.S/\cq A) (ah [aj aV 135 [ae af,ae y.wg,ae y.bF],e7 af top y.S,aT 264 5 (cL y.wg) 256 256 (an.gk A.l),hh.eI y.bF A.pd A.now A.q])
def bS(l:List an.bX)(h k:Int):an.e9×Int:=if(an.cP l h).2=0/\k≠0/\(an.cP l h).1.k≠k then(an.mv,10)else an.cP l h
variable{h:Int}
theorem FY{l:List an.bX}{k:Int}(e:(an.cP l h).2≠0):bS l h k=an.cP l h:=al λx=>e x.1
theorem hF{l:List an.bX}:bS l h 0=an.cP l h:=al λx=>x.2.1 rfl
theorem pF{l:List an.bX}{k:Int}(e:(an.cP l h).1.k=k):bS l h k=an.cP l h:=al λx=>x.2.2 e
theorem FX{l:List an.bX}{k:Int}(e:(an.cP l h).2=0)(d:k≠0)(u:(an.cP l h).1.k≠k):bS l h k=(an.mv,10):=aw ⟨e,d,u⟩
def mi(A:bP)(h:Int):Int×Int:=if(bS A.l h 1).2=0 then((A.own (h %256).toNat:Int),0)else(0,(bS A.l h 1).2)
theorem iY{l:List an.bX}{k:Int}(d:0<=h)(e:(bS l h k).2=0):∃i p,an.ei l h 1=some (i,p)/\l[i]? =some p/\p.st=1/\i<256/\h=p.c0*256+i/\(h %256).toNat=i/\bS l h k=(p.o,0)/\(k=0\/p.o.k=k):=by have u:(an.cP l h).2=0/\(k=0\/(an.cP l h).1.k=k):=(by unfold bS at e;grind);grind[oA,hF,pF]
variable(aV af:Nat)
theorem jz(top:Nat)(A:bP)(h:Int)(D:0<=h/\h<=4294967295)(k:Int):br 19 [ae aV,aS h,aa k] be [hO aV af top A] (.tuple #[.agg (ints (bS A.l h k).1.l).toArray,aa (bS A.l h k).2]) [hO aV af top A]:=by apply aH Tryz.func19 Tryz.ntmps19;intro F _;refine J [1,297] ?_;rintro⟨u,bF,S⟩ ⟨w,d⟩;apply J [84];dsimp only at w d⊢;refine J [26,155] ?_;intro ba;apply J [31,41,64,28];apply eG (an.D4 u A.l h d.ok D) ⟨_,bl.rd (ad:=some ⟨u,0,none⟩)⟩;apply J [13];by_cases g0:(an.cP A.l h).2=0;refine J [230] ?_;intro b4;apply J [115,29,193];refine UG 24 rfl (c:=true) (cR g0) ?_;by_cases g1:k=0;subst g1;rw[hF];apply J [341,52];refine UG 28 rfl (c:=false) (c4 U) ?_;apply J [48,93,100,128,229,30];exact Xq () [_,_] ⟨(e3 (n:=3) rfl rfl rfl rfl),rfl,trivial⟩ rfl trivial (ay (⟨u,bF,S⟩:fE) ⟨w,d⟩ ai);apply J [341,52];refine UG 28 rfl (c:=true) (cR g1) ?_;apply J [139,341,268];apply Ur rfl<;>intro C;rw[FX g0 g1 C];apply J [24,250,66,127];exact Xq () [_,_] ⟨(e3 (n:=3) rfl rfl rfl rfl),rfl,trivial⟩ rfl trivial (ay (⟨u,bF,S⟩:fE) ⟨w,d⟩ ai);rw[pF (Ut C)];apply J [4,128,229,30];exact Xq () [_,_] ⟨(e3 (n:=3) rfl rfl rfl rfl),rfl,trivial⟩ rfl trivial (ay (⟨u,bF,S⟩:fE) ⟨w,d⟩ ai);rw[FY g0];refine J [230] ?_;intro bw;apply J [115,29,193];refine UG 24 rfl (c:=false) (c4 g0) ?_;apply J [49,50,48,93,100,128,229,30];exact Xq () [_,_] ⟨(e3 (n:=3) rfl rfl rfl rfl),rfl,trivial⟩ rfl trivial (ay (⟨u,bF,S⟩:fE) ⟨w,d⟩ ai)
theorem yM(top:Nat)(A:bP):bI 16 [ae aV] be [hO aV af top A] (λy:Option Addr×Nat=>.slice y.1 (an.b6 A.l 1).length y.2) (λ_=>True) (λy=>[aT 33 1 y.1 (an.b6 A.l 1).length y.2 (ch .u32 (an.b6 A.l 1)),hO aV af top A]):=by apply aH Tryz.func16 Tryz.ntmps16;intro F _;refine J [1,297] ?_;rintro⟨u,bF,S⟩ ⟨w,d⟩;apply J [84];dsimp only at w d⊢;apply J [44,25,41,64,0];apply eQ (an.Fe u A.l d.ok) ⟨_,bl.rd (ad:=some ⟨u,0,none⟩)⟩;intro y _;apply J [13,101];exact bn y trivial (aq (ay (⟨u,bF,S⟩:fE) ⟨w,d⟩ ai))
theorem cq.Gw{A:bP}(h:cq A):A.q.length<=256:=by have d:((A.q.map (·.1)).map λx:Int=>(x %256).toNat).Nodup:=(by rw[List.Nodup,XA];refine List.Pairwise.imp_of_mem ?_ h.n2;intro a b w C W e;obtain⟨⟨⟨i,p⟩,D⟩,u⟩:=(h.mj a).2 w;obtain⟨⟨⟨j,r⟩,E⟩,d⟩:=(h.mj b).2 C;obtain⟨H,N,O,_⟩:=an.nX u D;obtain⟨P,Q,V,_⟩:=an.nX d E;grind);have:=uO d (m:=List.range 256) λx Z=>cr;simp_all
def sO:Option Nat->Int
  | some x=>(x:Int)
  | none=>0
structure p9(top:Nat)(S:cQ)(a:Int)(c x:Nat)(a8:cQ):Prop where
  q:(aC.db S.Q a (bE c:Int)).2=0/\a8.Q=(aC.db S.Q a (bE c:Int)).1/\a8.bx=S.bx
  g:fX top S a8 hR hR
  b:c6 a8 c x
  n:¬c6 S c x
  z:∀o,x<=o->o+8<=x+bE c->cS a8.m o=0
  u:gM (960/cc 6) (a8.C 6)=gM (960/cc 6) (S.C 6)
  p:(dk a8.C a8.Fr).length<=(dk S.C S.Fr).length+1
def Jf(top:Nat)(S:cQ)(a:Int)(c:Nat):Option Nat×cQ×Int->Prop
  | (some x,a8,e)=>e=0/\p9 top S a c x a8
  | (none,a8,e)=>e≠0/\a8=S/\(e=(aC.db S.Q a (bE c:Int)).2\/e=4/\2^top<=(dk S.C S.Fr).length)
def js(c:Nat):Prop:=1<=c/\c<=5\/c=8
theorem FP{c:Nat}(h:js c)(d:c≠8):c∈cls/\bE c=cc c/\c≠6:=by have:c∈cls:=vG.2 (by rcases h with h|h<;>omega);exact⟨this,qy this,by rcases h with h|h<;>omega⟩
theorem xa(C:Nat->List cf)(Fr:List Nat)(p:Nat):(p::dk C Fr).Perm (dk C (p::Fr)):=by grind[dk]
variable{top:Nat}{S a8:cQ}
theorem dg.MO(h:dg top S){p:Nat}(O:p<2^top)(D:p∉dk S.C S.Fr)(u:a8.C=S.C)(w:a8.Fr=p::S.Fr):dg top a8:=by obtain⟨N,Q,E,H,P⟩:=a8;dsimp only at u w;subst u;subst w;exact⟨h.fW,h.ok,(xa _ _ _).nodup_iff.1 (UI.2 ⟨D,h.bo⟩),λq d=>by rcases UB.1 ((xa _ _ _).mem_iff.2 d)with rfl|d;trivial;exact h.lt q d⟩
theorem F8(d:dg top S){a:Int}{c:Nat}(u:c∈cls)(E:c≠6)(e:bE c=cc c){y:Nat×Nat×List cf}(N:(aC.db S.Q a (cc c:Int)).2=0)(g:iO top S c y):p9 top S a c (addr c y) (j5 S a c (some y)):=by obtain⟨g1,g2⟩:=v8 (a8:=j5 S a c (some y)) d u g rfl rfl λo H=>u4 H;refine⟨by rw[e];exact⟨N,rfl,rfl⟩,g1,g2,λk=>g.ul d u k ⟨rfl,rfl⟩,λo w D=>wJ w (by rw[<-e];exact D),?_,g.len⟩;exact congrArg (gM (960/cc 6)) (i6 S.C y.2.2 λh=>E h.symm)
theorem PW{p:Nat}(w:dg top S){a:Int}(H:(aC.db S.Q a 1024).2=0)(d:p<2^top)(u:p∉dk S.C S.Fr)(e:a8=⟨(aC.db S.Q a 1024).1,S.bx,S.C,p::S.Fr,hf S.m (p*1024) 1024⟩):p9 top S a 8 (p*1024) a8/\dg top a8:=by
 have D:dg top a8:=w.MO d u jE jE;obtain⟨g1,g2,g3⟩:=MP w D jE jE λo E=>by rw[e];exact u4 E
 refine⟨⟨by rw[e];exact⟨H,rfl,rfl⟩,g1,g2,g3,λo d u=>by rw[e];exact wJ d u,by rw[e],?_⟩,D⟩;have:=(xa S.C S.Fr p).length_eq;simp_all
structure ti(top:Nat)(S:cQ)(a:Int)(c x:Nat)(a8:cQ):Prop where
  q:a8.Q=(aC.ek S.Q a (bE c:Int)).1/\a8.bx=S.bx
  g:fX top S a8 (ft c x) (ft c x)
  u:gM (960/cc 6) (a8.C 6)=gM (960/cc 6) (S.C 6)
  p:(dk a8.C a8.Fr).length<=(dk S.C S.Fr).length
theorem P3(w:dg top S){a:Int}{c x aD i:Nat}{L':List cf}(d:c∈cls)(u:c≠6)(D:x=aD*1024+64+i*cc c)(g:jN top S c aD i L')(e:a8=⟨(aC.ek S.Q a (cc c:Int)).1,S.bx,dF S.C c L',S.Fr,S.m⟩):ti top S a c x a8:=
 ⟨by rw[e,qy d];exact⟨rfl,rfl⟩,v7 w d g D jE jE jE,by rw[e];exact congrArg (gM (960/cc 6)) (i6 S.C L' λh=>u h.symm),by rw[e];exact g.len⟩
theorem P4{p:Nat}(d:dg top S){a:Int}(e:a8=⟨(aC.ek S.Q a 1024).1,S.bx,S.C,S.Fr.erase p,S.m⟩):ti top S a 8 (p*1024) a8:=
 ⟨by rw[e];exact⟨rfl,rfl⟩,MR d jE jE jE,by rw[e],by rw[e];dsimp only;rw[dk,dk,mp,mp];have:=List.length_erase_le (a:=p) (l:=S.Fr);omega⟩
theorem Qm{C:Nat->List cf}{Fr:List Nat}{p:Nat}(au:p∉cls.flatMap (hB C))(d:p∈Fr):(dk C (Fr.erase p)).Perm ((dk C Fr).erase p):=by grind[dk]
theorem CX(E bF top:Nat)(S:cQ)(a:Int)(c:Nat)(a0:js c):bI 131 [ae aV,aa a,aa c] c8 [aj aV 135 [ae af,ae E,ae bF],e7 af top S] (λy:Option Nat×cQ×Int=>.tuple #[aa (sO y.1),aa y.2.2]) (λy=>Jf top S a c y) (λy=>[aj aV 135 [ae af,ae E,ae bF],e7 af top y.2.1]):=by
 apply aH Tryz.func131 Tryz.ntmps131;intro F aQ;apply J [12];haveI:cw F:=⟨aQ⟩;refine ab.open 1 rfl (λP O=>?_);obtain⟨cJ,bd,d,w⟩:=P;have D:=O;apply J [243];dsimp only at D⊢;have a5:=D.fW;have bh:2^top<=128:=Uu (n:=2) am a5.2;refine ab.open 1 rfl (λP O=>?_);obtain⟨a9,bb⟩:=P;have av:=O;apply J [79];refine VM (B:=ah [aj af 169 (im 8 cJ bd d w),aC.eI cJ S.Q S.bx,k0 bd top (dk S.C S.Fr),gn d S.m (1024*2^top),b7 (λc=>l7 (w c) bd (cc c) (S.C c)) cls,aj aV 135 [ae af,ae E,ae bF],F]) (cY (ay (⟨a9,bb⟩:aC.oj) av ai)) ?_;by_cases Z:c=8;subst Z;apply J [24,219,33];refine Ur rfl (λan=>absurd an U) (λan=>?_);apply J [42,39,53,28];apply ao (aC.Gx cJ S.Q S.bx a 1024);apply J [17,125];apply Ur rfl<;>intro u;apply J [188];have a3:=CY u;exact cN (none,S,(aC.db S.Q a 1024).2) ⟨u,rfl,.inl rfl⟩ (by rw[a3];exact(eE (ay (dR.mk cJ bd d w:dR af) D ai)));have u:=Ut u;apply J [4,39,80,57,0];apply a7 (CJ bd top (dk S.C S.Fr));intro V ax;apply J [17];cases V with|none=>?_|some aD=>?_
 have a2:2^top<=(dk S.C S.Fr).length:=ax;dsimp only[uR,qk,mD];have a4:=sT av u;apply J [133,33,15,39,53,28];apply ao (aC.xi cJ (aC.db S.Q a 1024).1 S.bx a 1024);apply J [17];rw[a4];apply J [3,188];exact cN (none,S,4) ⟨by decide,rfl,.inr ⟨rfl,a2⟩⟩ (eE (ay (dR.mk cJ bd d w:dR af) D ai));have N:aD<2^top/\aD∉dk S.C S.Fr:=ax;dsimp only[uR,qk,mD];obtain⟨a8,W⟩:∃a8:cQ,a8=⟨(aC.db S.Q a 1024).1,S.bx,S.C,aD::S.Fr,hf S.m (aD*1024) 1024⟩:=⟨_,rfl⟩;obtain⟨cE,aX⟩:=PW D u N.1 N.2 W;have be:=N.1;apply J [133,211,39,0];apply ao (lR af cJ bd d w);apply J [17,28];refine aL (CE d (1024*2^top) (aD*1024) 1024 S.m U U U) (congrArg (λz:Int=>[Xr (some ⟨d,0,none⟩),.int .i64 z,.int .i64 1024,.int .u8 0]) cF) eB.p trivial ?_;intro _ _;apply J [17,3,29,71];exact Xq (some (aD*1024),a8,0) [aa ((aD:Int)*1024),aa 0] ⟨rfl,rfl,trivial⟩ (by dsimp only[sO];rw[show((aD*1024:Nat):Int)=(aD:Int)*1024 by simp];rfl) ⟨rfl,cE⟩ (by subst W;exact(eE (ay (dR.mk cJ bd d w:dR af) aX (bW (bp (eM 1 rfl (vw _ _ (xa _ _ _)) ai))))));obtain⟨ar,au,aK⟩:=FP a0 Z;refine VM (B:=ah [aj aV 135 [ae af,ae E,ae bF],e7 af top S,F]) (eE (ay (dR.mk cJ bd d w:dR af) D ai)) ?_;apply J [24,219,33];refine Ur rfl (λag=>?_) (λag=>absurd U ag);apply J [39,195];apply a7 (uu af top S a c ar);intro⟨V,cp⟩ H;apply J [8];cases V with|none=>?_|some y=>?_
 dsimp only[pa,j5];apply J [95,95,141,83];exact cN (none,S,cp) ⟨H.1,rfl,by rw[au];exact H.2⟩ ai;obtain⟨rfl,u,cE⟩:=H;dsimp only[pa];apply J [95,95,141,83];exact cN (some (addr c y),j5 S a c (some y),0) ⟨rfl,F8 D ar aK au u cE⟩ ai
theorem vK(E bF top:Nat)(S:cQ)(c x:Nat)(f:Int)(ax:js c)(aN:c6 S c x)(Z:(aC.ek S.Q f (bE c:Int)).2=0):bI 133 [ae aV,.agg (ints (bt (c:Int) x f).l).toArray] c8 [aj aV 135 [ae af,ae E,ae bF],e7 af top S] (λ_:cQ=>.tuple #[]) (λa8=>ti top S f c x a8) (λa8=>[aj aV 135 [ae af,ae E,ae bF],e7 af top a8]):=by
 apply aH Tryz.func133 Tryz.ntmps133;intro F ar;apply J [12];haveI:cw F:=⟨ar⟩;refine ab.open 1 rfl (λa3 a2=>?_);obtain⟨cJ,bd,N,O⟩:=a3;have d:=a2;apply J [243];dsimp only at d⊢;have a0:=d.fW;have a5:2^top<=128:=Uu (n:=2) am a0.2;by_cases D:c=8;·subst D;obtain⟨u,gd,rfl⟩:∃p∈S.Fr,x=p*1024:=(by rcases aN with⟨h,_⟩|⟨_,h⟩;all_goals trivial);refine J [26,289] ?_;intro bw;apply J [25,110,284];refine Ur rfl (λV=>absurd V (λh=>h rfl)) (λV=>?_);have eJ:=zl d gd;(have W:u∈dk S.C S.Fr:=by grind[dk]);have a4:=d.lt u W;obtain⟨a8,w⟩:∃a8:cQ,a8=⟨(aC.ek S.Q f 1024).1,S.bx,S.C,S.Fr.erase u,S.m⟩:=⟨_,rfl⟩;have au:dg top a8:=d.H2 (by rw[w]) (by rw[w]);apply J [42];refine cx [0,1,2,3,4,5,6,7,8,-9] (aq (aq (eU (a6 _)))) ?_;apply J [51,88,107,137,11];apply ao (aC.xi cJ S.Q S.bx f 1024);refine J [290,108] ?_;refine cx [0,1,2,3,4,5,6,7,8,-9] (bW (bW (eU (a6 _)))) ?_;apply J [51,88,180,287];refine aL (CH bd top (dk S.C S.Fr) u W) (congrArg (λz:Int=>[Xr (some ⟨bd,0,none⟩),.int .i64 z]) (show((u*1024:Nat):Int)=(u:Int)*1024 by simp)) eB.p trivial ?_;intro _ _;refine J [290,5] ?_;refine b3.nil ?_;exact mC a8 (P4 d w) (by subst w;exact(bN 6 rfl (ay (dR.mk cJ bd N O:dR af) au (cY (bW (eM 0 rfl (vw _ _ (Qm eJ gd).symm) ai))))))
 refine VM (B:=ah [aj aV 135 [ae af,ae E,ae bF],e7 af top S,F]) (eE (ay (dR.mk cJ bd N O:dR af) d ai)) ?_;obtain⟨H,aX,an⟩:=FP ax D;rw[aX]at Z;obtain⟨k,aD,i,f2,aQ,aK,rfl⟩:=(aN.jI H).at;refine J [26,289] ?_;intro ba;apply J [25,110,284];refine Ur rfl (λP=>?_) (λP=>absurd (λh=>D (by have bK:(c:Int)=8:=h;omega)) P);refine ab.seq ?_;refine cx [0,1,2,3,4,5,6,7,8,9,-10] (aq (aq (a6 _))) ?_;apply J [51,137,107,287];apply a7 (uv af top S c H k aD i f2 aQ aK f Z);intro ag cE;refine J [330,108,83] ?_;exact Cn ⟨(aC.ek S.Q f (cc c:Int)).1,S.bx,dF S.C c ag,S.Fr,S.m⟩ (P3 d H an rfl cE rfl) ai
end Go.Proofs.YtglgidjhoncphaaGreatDoor
namespace Go.QM
open Go
section
variable {r : Option Nat} {P : Program} {N : Nat} {ops : Array Oper} {l : List Oper} {Q : ff} {ag : Env} {aQ : List Deferred} {I : ax} {c : Code} {T : List Nat} {co : List (Nat × Bool)}
variable(n:Nat){hs sV:List ax}
theorem ab.lF{α:Type}{p:α->Prop}{B:α->List ax}(h:eT n hs=some (fj (λx=>pure' (p x) (ah (B x))),sV))(k:(∃x,p x)->ab r P N c Q ag aQ (ah hs)):ab r P N c Q ag aQ (ah hs):=
  λa w u hs=>let⟨x,d,_⟩:=sq n h hs;k ⟨x,d⟩ a w u hs
theorem aO.lF{α:Type}{p:α->Prop}{B:α->List ax}(h:eT n hs=some (fj (λx=>pure' (p x) (ah (B x))),sV))(k:(∃x,p x)->aO r P N ops l Q ag aQ (ah hs)):aO r P N ops l Q ag aQ (ah hs):=
  λa w u hs=>let⟨x,d,_⟩:=sq n h hs;k ⟨x,d⟩ a w u hs
theorem b3.lF{α:Type}{p:α->Prop}{B:α->List ax}(h:eT n hs=some (fj (λx=>pure' (p x) (ah (B x))),sV))(k:(∃x,p x)->b3 r P N ops I T co Q ag aQ (ah hs)):b3 r P N ops I T co Q ag aQ (ah hs):=
  λa w listed u hs=>let⟨x,d,_⟩:=sq n h hs;k ⟨x,d⟩ a w listed u hs
theorem ab.dc{A:ax}{p:Prop}(h:eT n hs=some (A,sV))(u:∀d,A d->p)(k:p->ab r P N c Q ag aQ (ah hs)):ab r P N c Q ag aQ (ah hs):=
  λa w D hs=>by obtain⟨d,V,E,W,H,rfl,C,O⟩:=hs.bf (fC h);exact k (u E C) a w D hs
theorem aO.dc{A:ax}{p:Prop}(h:eT n hs=some (A,sV))(u:∀d,A d->p)(k:p->aO r P N ops l Q ag aQ (ah hs)):aO r P N ops l Q ag aQ (ah hs):=
  λa w D hs=>by obtain⟨d,V,E,W,H,rfl,C,O⟩:=hs.bf (fC h);exact k (u E C) a w D hs
theorem b3.dc{A:ax}{p:Prop}(h:eT n hs=some (A,sV))(u:∀d,A d->p)(k:p->b3 r P N ops I T co Q ag aQ (ah hs)):b3 r P N ops I T co Q ag aQ (ah hs):=
  λa w listed D hs=>by obtain⟨d,V,E,W,H,rfl,C,O⟩:=hs.bf (fC h);exact k (u E C) a w listed D hs
end
end Go.QM
namespace Go.Proofs.YtglgidjhoncphaaGreatDoor
open Go Go.QM
variable [dL]
theorem Ks{L:List aC.bY}{d f lim:Int}(h:(aC.fI L d f lim).2.2.2≠0):(aC.fI L d f lim).1=L/\(aC.fI L d f lim).2.1=d/\(aC.fI L d f lim).2.2.1=0:=by unfold aC.fI at h⊢;grind
theorem Kr{L:List aC.bY}{d f lim:Int}(h:(aC.fI L d f lim).2.2.2=0):aC.df L f/\aC.fI L d f lim=(L++[⟨d,f,lim,0⟩],d+1,d,0):=by unfold aC.fI at h⊢;grind
theorem Kt{L:List aC.bY}{d f lim:Int}(h:0<=d):0<=(aC.fI L d f lim).2.2.1/\(aC.fI L d f lim).2.2.1<=d:=by grind[aC.fI]
def nN(S:cQ)(x:Nat)(f lim:Int):cQ:=⟨(aC.fI S.Q S.bx f lim).1,(aC.fI S.Q S.bx f lim).2.1,S.C,S.Fr,du S.m x [(aC.fI S.Q S.bx f lim).2.2.1.toNat]⟩
def qY(S:cQ)(l:List an.bX)(c x:Nat)(f lim:Int)(y:cQ×Int):Prop:=
  (y=(S,11)/\(an.b6 l 0).length=0)\/(y=(S,0)/\(an.b6 l 0).length≠0/\c≠1)\/(y=(nN S x f lim,(aC.fI S.Q S.bx f lim).2.2.2)/\(an.b6 l 0).length≠0/\c=1)
theorem Lg{top:Nat}{S:cQ}(d:dg top S){x:Nat}(aN:c6 S 1 x)(f lim:Int):fX top S (nN S x f lim) hR (ft 1 x):=
 oy d aN rfl rfl λo h=>kD (by(have e:bE 1=64:=rfl);simp only[UP,Wb];omega)
section
variable {top : Nat} {A : bP} {S ck dD fZ : cQ} {c x : Nat} {f lim e : Int}
theorem Ap(C:cn top A S)(g:p9 top S f c x ck){i:Nat}{s:Int}{d b:Nat}{w:Int}(hs:fl s)(E:cB A.l i s (bt d b w)):¬ft c x d b:=by
 rintro⟨rfl,rfl⟩;obtain⟨u,H,f9,e,_,D⟩:=C.obj i s _ hs E;obtain⟨N,rfl,_⟩:=jr e;obtain rfl:u=d:=by omega
 exact g.n D
theorem vU(u:js c)(d:cn top A S)(g:p9 top S f c x ck){l:List an.bX}(h:qY ck l c x f lim (dD,e)):fX top ck dD hR (ft c x)/\dD.C=ck.C/\dD.Fr=ck.Fr:=by rcases h with⟨h,_⟩|⟨h,_⟩|⟨h,_,rfl⟩;cases h;exact⟨oy g.g.P g.b rfl rfl λ_ _=>rfl,rfl,rfl⟩;cases h;exact⟨oy g.g.P g.b rfl rfl λ_ _=>rfl,rfl,rfl⟩;cases h;exact⟨Lg g.g.P g.b f lim,rfl,rfl⟩
theorem DT{l:List an.bX}(h:qY ck l c x f lim (dD,e))(he:e≠0):dD.Q=ck.Q/\dD.bx=ck.bx:=by rcases h with⟨h,_⟩|⟨h,_⟩|⟨h,_,_⟩;simp_all;simp_all;cases h;have:=Ks he;exact⟨this.1,this.2.1⟩
theorem FA(w:cq A)(W:A.np+2<=1000000)(D:js c)(C:cn top A S)(g:p9 top S f c x ck){l:List an.bX}(h:qY ck l c x f lim (dD,e))(he:e≠0)(k:ti top dD f c x fZ):cn top {A with np:=A.np+2} fZ/\cq {A with np:=A.np+2}:=by obtain⟨g1,g2,g3⟩:=vU D C g h;obtain⟨O,P⟩:=DT h he;have N:fZ.Q=A.Q/\fZ.bx=A.bx:=(by rw[k.q.1,k.q.2,O,P,g.q.2.1,g.q.2.2,C.Q.1];have:=g.q.1;rw[C.Q.1]at this;rw[sT w.d8 this];exact⟨rfl,C.Q.2⟩);have E:∀a,¬ft c x 6 a/\¬ft c x 7 a:=λa=>⟨λh=>by rcases D with D|D<;>have:=h.1<;>omega,λh=>by rcases D with D|D<;>have:=h.1<;>omega⟩;refine⟨C.mL ((g.g.trans g1).trans k.g) rfl rfl rfl rfl N (λi s d b V hs H=>?_) (λa=>?_) ?_ ?_,⟨w.ok,w.d8,w.rt,w.ac,w.cW,w.m9,w.aK,w.hz,w.mj,w.n2,w.n4,w.mR,w.pd,by have:=w.bd;dsimp only;omega⟩⟩;have:=Ap C g hs H;exact⟨λh=>by rcases h with(h|h)|h;exact h;exact h;exact this h,λh=>by rcases h with(h|h)|h;exact h.elim;exact absurd h this;exact absurd h this⟩;exact⟨λh=>by rcases h with(h|h)|h;exact h;exact(E a).1 h;exact(E a).1 h,λh=>by rcases h with(h|h)|h;exact h;exact(E a).2 h;exact(E a).2 h⟩;rw[k.u,g2,g.u];have:=k.p;rw[g2,g3]at this;have:=g.p;have:=C.fV;grind
structure vd(A:bP)(h kind lim:Int)(bk:bP)(nb:Int):Prop where
  au:0<=nb/\nb<=4294967295
  ex:∃(c x k:Nat) (g:Int) (dw:an.e9) (Q:List aC.bY) (bx:Int) (own:Nat->Nat),kind=c/\js c/\A.l[k]? =some ⟨dw,0,g⟩/\A.l.findIdx? an.isEmpty=some k/\nb=g*256+k/\
    bk={A with l:=A.l.set k ⟨bt c x (A.own (h %256).toNat),1,g⟩,Q:=Q,bx:=bx,own:=own,np:=A.np+2}/\(c≠1->Q=(aC.db A.Q (A.own (h %256).toNat) (bE c)).1/\bx=A.bx/\own=A.own)
theorem Q5{l:List an.bX}(C:an.dN l)(h:(an.b6 l 0).length≠0):∃k o g,l.findIdx? an.isEmpty=some k/\l[k]? =some ⟨o,0,g⟩/\0<=g/\g<=1048575/\k<256:=by cases u:l.findIdx? an.isEmpty with|none=>rw[List.findIdx?_eq_none_iff]at u;exfalso;apply h;rw[an.b6,an.mE,VP,List.length_eq_zero_iff,Wm];rintro⟨p,i⟩ d w;have hm:=Us (Xt.1 d);have:=u p hm;dsimp only at w;rw[an.isEmpty]at this;rw[this]at w;cases w|some k=>obtain⟨p,d,hs⟩:=an.DZ u;obtain⟨o,s,g⟩:=p;dsimp only at hs;subst hs;have:=C.c0 _ (Us d);exact⟨k,o,g,rfl,d,this.1,this.2,C.lt d⟩
theorem Qv{l:List an.bX}{k:Nat}{dw o:an.e9}{g:Int}(h:l.findIdx? an.isEmpty=some k)(d:l[k]? =some ⟨dw,0,g⟩):an.lS l o=(l.set k ⟨o,1,g⟩,g*256+k,0):=by grind[an.lS]
theorem FB(C:cq A)(cf:A.np+2<=1000000){h:Int}(a7:aC.df A.Q (A.own (h %256).toNat))(D:js c)(V:cn top A S)(g:p9 top S (A.own (h %256).toNat) c x ck)(w:qY ck A.l c x (A.own (h %256).toNat) lim (dD,0)):
 ∃bk,cn top bk dD/\cq bk/\vd A h c lim bk (an.lS A.l (bt c x (A.own (h %256).toNat))).2.1/\bk.l=(an.lS A.l (bt c x (A.own (h %256).toNat))).1/\(an.lS A.l (bt c x (A.own (h %256).toNat))).2.2=0/\bk.q=A.q/\bk.now=A.now/\bk.pd=A.pd:=by
 have bX:(an.b6 A.l 0).length≠0:=(by rcases w with⟨w,_⟩|⟨_,w,_⟩|⟨_,w,_⟩;all_goals simp_all);obtain⟨k,dw,g0,ax,O,ca,cc,cd⟩:=Q5 C.ok bX;rw[Qv ax O];obtain⟨g1,g2,g3⟩:=vU D V g w;have a9:bE c≠0:=by have:=(c6.bd g.g.P g.b).2.2.1;omega
 obtain⟨be,bh,bl⟩:=g.q;rw[V.Q.1]at be bh;rw[V.Q.2]at bl;have H:=jy.hz C.d8 be;have bP:=g.g.trans g1;have a8:∀s o,cB A.l k s o->¬fl s:=λs o ag=>(by have:=(ag.inj ⟨g0,O⟩).1;subst this;decide);have bb:∀i s (a2:Int),fl s->¬cB A.l i s (bt c x a2):=λi s a2 hs ag=>Ap V g hs ag ⟨rfl,rfl⟩;have a3:∀a,¬ft c x 6 a/\¬ft c x 7 a:=λa=>⟨λh=>by rcases D with D|D<;>have:=h.1<;>omega,λh=>by rcases D with D|D<;>have:=h.1<;>omega⟩;have b5:∀s,A.aK k s=0:=C.y3 ⟨g0,O⟩ (.inl am);have a5:∀(Q:List aC.bY) (bx:Int),dD.Q=Q->dD.bx=bx->cn top {A with Q:=Q,bx:=bx,np:=A.np+2} dD:=λQ bx bO ao=>(by refine V.mL bP rfl rfl rfl rfl ⟨bO,ao⟩ (λi s d b ce hs ag=>?_) (λa=>?_) (by rw[g2];exact g.u) ?_;have:=Ap V g hs ag;exact⟨λh=>h.elim id id,λh=>h.elim (λh=>h.elim) λh=>absurd h this⟩;exact⟨λh=>h.elim id (a3 a).1,λh=>h.elim id (a3 a).2⟩;rw[g2,g3];have:=g.p;have:=V.fV;grind);have a4:c6 dD c x:=g1.p c x g.b λh=>h;by_cases aA:c=1;subst aA;rcases w with⟨w,_⟩|⟨_,_,w⟩|⟨w,_,_⟩;trivial;trivial;obtain⟨aX,a0⟩:=Prod.mk.inj w;rw[bh,bl]at a0;obtain⟨b9,br⟩:=Kr a0.symm;have ao:0<=A.bx/\¬aC.df A.Q A.bx:=(by refine⟨?_,λ⟨t,E,he⟩=>by have:=(C.d8.rg t E).2.1;omega⟩;obtain⟨t,E,_⟩:=C.d8.root;have:=(C.d8.rg t E);omega);have cg:A.bx≠0:=λe=>ao.2 (by rw[e];exact C.d8.root);have W:dD.Q=(aC.db A.Q (A.own (h %256).toNat) (bE 1)).1++[⟨A.bx,A.own (h %256).toNat,lim,0⟩]/\dD.bx=A.bx+1/\dD.m=du ck.m x [A.bx.toNat]:=(by grind[nN]);have Z:=H.d8.Kq (A.own (h %256).toNat) lim;rw[br]at Z;dsimp only at Z;have aQ:=(a5 _ _ W.1 W.2.1).put (bk:={A with l:=A.l.set k ⟨bt (1:Nat) x (A.own (h %256).toNat),1,g0⟩,Q:=(aC.db A.Q (A.own (h %256).toNat) (bE 1)).1++[⟨A.bx,A.own (h %256).toNat,lim,0⟩],bx:=A.bx+1,own:=λi=>if i=k then A.bx.toNat else A.own i,np:=A.np+2}) a8 D a4 bb rfl rfl (λi aH=>al aH) (λ_=>by dsimp only;rw[aw rfl,W.2.2];have:=C.bd;exact BI U) rfl ⟨rfl,rfl,rfl⟩ (λh=>absurd h am);refine⟨_,aQ,C.put O a9 a7 Z (λy N=>?_) (λy N au=>?_) (λ_=>?_) (λi aH=>al aH) U (by have:=C.bd;omega),⟨by dsimp only;omega,1,x,k,g0,dw,_,_,_,rfl,D,O,ax,rfl,rfl,λh=>absurd rfl h⟩,rfl,rfl,rfl,rfl,rfl⟩;have bZ:=(H.has y).2 N;obtain⟨t,E,rfl⟩:=bZ;have hm:t∈(aC.db A.Q (A.own (h %256).toNat) (bE 1)).1++[(⟨A.bx,A.own (h %256).toNat,lim,0⟩:aC.bY)]:=cr
 have ar:=aC.ip Z.bo hm;have bm:=aC.ip H.d8.bo E;exact⟨⟨t,hm,rfl⟩,by rw[ar.2.2.1,<-bm.2.2.1];exact H.fJ _ N,by rw[ar.2.2.2,<-bm.2.2.2];exact H.par _⟩;obtain⟨t,E,rfl⟩:=N;have ar:=aC.ip Z.bo E;rcases Uq.1 E with E|E;exact absurd ((H.has _).1 ⟨t,E,rfl⟩) au;grind;rw[aw rfl,Vj ao.1];have hm:(⟨A.bx,A.own (h %256).toNat,lim,0⟩:aC.bY)∈(aC.db A.Q (A.own (h %256).toNat) (bE 1)).1++[(⟨A.bx,A.own (h %256).toNat,lim,0⟩:aC.bY)]:=cr
 have ar:=aC.ip Z.bo hm;exact⟨⟨_,hm,rfl⟩,ao.2,by omega,ar.2.2.2⟩;have aX:dD=ck:=(by rcases w with⟨w,_⟩|⟨w,_⟩|⟨_,_,w⟩;all_goals simp_all);have W:dD.Q=(aC.db A.Q (A.own (h %256).toNat) (bE c)).1/\dD.bx=A.bx:=b2
 have aQ:=(a5 _ _ W.1 W.2).put (bk:={A with l:=A.l.set k ⟨bt c x (A.own (h %256).toNat),1,g0⟩,Q:=(aC.db A.Q (A.own (h %256).toNat) (bE c)).1,np:=A.np+2}) a8 D a4 bb rfl rfl (λ_ _=>rfl) (λh=>absurd h aA) rfl ⟨rfl,rfl,rfl⟩ (λh=>⟨λo bD bI=>by rw[aX];exact g.z o bD (by subst h;exact bI),b5⟩);exact⟨_,aQ,C.put O a9 a7 H.d8 (λy N=>⟨(H.has y).2 N,H.fJ y N,H.par y⟩) (λy N au=>absurd ((H.has y).1 N) au) (λh=>absurd h aA) (λ_ _=>rfl) U (by have:=C.bd;omega),⟨by dsimp only;omega,c,x,k,g0,dw,_,_,_,rfl,D,O,ax,rfl,rfl,λ_=>⟨rfl,rfl,rfl⟩⟩,rfl,rfl,rfl,rfl,rfl⟩
end
theorem cq.AQ{A:bP}(h:cq A){i a:Nat}{s f:Int}(hs:fl s)(d:cB A.l i s (bt 1 a f)):A.own i<=1000000:=by obtain⟨⟨t,u,he⟩,_⟩:=h.cW i s a f hs d;have:=(h.d8.rg t u).2.1;have:=h.bd;omega
theorem uo{o:an.e9}{c a:Nat}{f:Int}(h:o=bt c a f){k:Int}(d:o.k=k):o=bt k a f:=by rw[h]at d⊢;rw[<-d];rfl
variable(aV af top:Nat)
theorem Li(A:bP)(i a:Nat)(s f:Int)(hs:fl s)(D:cB A.l i s (bt 1 a f)):br 100 [ae aV,.agg (ints (bt 1 a f).l).toArray] be [hO aV af top A] (aa (A.own i:Int)) [hO aV af top A]:=by
 apply aH Tryz.func100 Tryz.ntmps100;intro F _;refine J [1,297] ?_;rintro⟨N,bF,S⟩ ⟨u,C⟩;apply J [84];dsimp only at u C⊢;refine ab.open 1 rfl (λV Q=>?_);obtain⟨cJ,bd,w,E⟩:=V;have d:=Q;apply J [79];dsimp only at d⊢;have P:=d.fW;have ar:2^top<=128:=Uu (n:=2) am P.2;have O:=u.mh i s a f hs D;have an:=C.AQ hs D;obtain⟨bB,a9,f9,H,_,aN⟩:=u.obj i s _ hs D;obtain⟨W,rfl,rfl⟩:=jr H;obtain rfl:bB=1:=U
 have ag:=c6.bd d aN;have Z:bE 1=64:=rfl;have hw:cS S.m a<2^63:=U
 refine J [26,289] ?_;intro ba;apply J [31];refine cx [0,1,2,3,5,6,-4,-7,8,9,10,11,12] (aq (eE (a6 _))) ?_;apply J [51,287];apply ao (lR af cJ bd w E);refine J [246,43] ?_;apply ao (tr w (1024*2^top) a S.m U U U);refine J [285,253,283,271,29] ?_;refine q rfl rfl (conv .u64 .i64 rfl rfl rfl (oU hw)) ?_;apply J [30];exact Xq () [aa (cS S.m a:Int)] ⟨rfl,trivial⟩ (by rw[<-O];rfl) trivial (ay (⟨N,bF,S⟩:fE) ⟨u,C⟩ (bN 6 rfl (ay (dR.mk cJ bd w E:dR af) d ai)))
theorem Dd(A:bP)(h:Int)(w:0<=h/\h<=4294967295):br 46 [ae aV,aS h] be [hO aV af top A] (.tuple #[aa (mi A h).1,aa (mi A h).2]) [hO aV af top A]:=by apply aH Tryz.func46 Tryz.ntmps46;intro F _;apply J [1];refine ab.lF 0 rfl (λV=>?_);obtain⟨⟨_,_,_⟩,Q,an⟩:=V;apply J [134,32];apply ao (jz aV af top A h w 1);refine J [6,230] ?_;intro bw;apply J [115,33];apply Ur rfl<;>intro g0;rw[show mi A h=(0,(bS A.l h 1).2)from al g0];apply J [188];exact hJ ai;have g0:=Ut g0;obtain⟨i,C,W,E,H,Z,ag,N,O,d⟩:=iY w.1 g0;have d:=d.resolve_left am;have u:cB A.l i 1 C.o:=⟨C.c0,by rw[<-H];exact E⟩;obtain⟨bB,a9,f9,P,_,_⟩:=Q.obj i 1 _ (.inl rfl) u;have D:=uo P d;rw[show mi A h=((A.own i:Int),0)by rw[mi,aw g0,N]];rw[O];dsimp only;rw[D]at u⊢;apply J [4,337,0];apply ao (Li aV af top A i a9 1 f9 (.inl rfl) u);apply J [8,71];exact hJ ai
theorem CW(u bF top:Nat)(S:cQ)(l:List an.bX)(ax:an.dN l)(c x:Nat)(f lim:Int)(V:dg top S)(aN:c6 S c x)(Z:0<=S.bx/\S.bx<=1000000):bI 132 [ae aV,.agg (ints (bt (c:Int) x f).l).toArray,aa lim] be [aj aV 135 [ae af,ae u,ae bF],aT 264 5 (cL u) 256 256 (an.gk l),e7 af top S] (λy:cQ×Int=>aa y.2) (λy=>qY S l c x f lim y) (λy=>[aj aV 135 [ae af,ae u,ae bF],aT 264 5 (cL u) 256 256 (an.gk l),e7 af top y.1]):=by
 apply aH Tryz.func132 Tryz.ntmps132;intro F _;refine J [85,26,289] ?_;intro b4;apply J [31,64,0];apply eG (an.Q6 u l ax) ⟨_,bl.rd (ad:=some ⟨u,0,none⟩)⟩;apply J [10,225];apply Ur rfl<;>intro g0;apply J [209];exact bn (S,11) (.inl ⟨rfl,by omega⟩) ai;apply J [42,110,284];apply Ur rfl<;>intro g1;apply J [209];exact bn (S,0) (.inr (.inl ⟨rfl,by omega,λh=>g1 (by subst h;rfl)⟩)) ai;obtain rfl:c=1:=by have bK:((c:Nat):Int)=1:=Ut g1;omega
 refine ab.open 3 rfl (λaX aQ=>?_);obtain⟨cJ,bd,d,H⟩:=aX;have au:=aQ;apply J [79];dsimp only at au⊢;have aK:=V.fW;have a5:2^top<=128:=Uu (n:=2) am aK.2;have a3:=c6.bd V aN;have a2:bE 1=64:=rfl;have W:dg top (nN S x f lim):=by grind[dg,nN]
 obtain⟨ar,a0⟩:=Kt (L:=S.Q) (f:=f) (lim:=lim) Z.1;apply J [42];skip;refine cx [0,1,2,3,4,5,6,7,8,9,-10,11,12,13,14,15] (aq (eU (eU (a6 _)))) ?_;apply J [51,88,107,137,237];apply ao (aC.QA cJ S.Q S.bx f lim Z.2);refine J [255,5] ?_;generalize a4:(aC.fI S.Q S.bx f lim).2.2.1=ag at*;obtain⟨N,rfl⟩:∃n:Nat,ag=(n:Int):=⟨ag.toNat,(Vj ar).symm⟩;apply J [253,283,271,7];refine ab.nQ _ [] 11 rfl aR aR (eE (eE (a6 _))) ?_;refine J [325,418,395,419] ?_;refine dd (i:=5) rfl rfl rfl aR (cW 1 rfl rfl) ?_;refine J [537] ?_;refine dd (i:=7) rfl rfl rfl aR (fu (v:=.int _ _) rfl) ?_;refine dd (i:=8) rfl rfl rfl aR (conv .i64 .u64 rfl rfl rfl (pW U)) ?_;refine iT (i:=4) (j:=9) rfl rfl rfl rfl aR ?_ ?_;apply ao (lR af cJ bd d H);change aF _ _/\dK _ _ _ _ _ _ _ _ _ _ _ (ah [_,_,_,_,_,_,_,_,_]);refine⟨ai,?_⟩;refine dK.of [(9,true),(10,true)] aR rfl ?_;refine J [11,148] ?_;intro O;refine J [43] ?_;apply eG (lu d (1024*2^top) x S.m [N] (cL O) 1 U cF jn U (by intro x E;simp only[UB,Uy,or_false]at E;subst E;omega)) ⟨_,bl.rd (ad:=some ⟨O,0,none⟩)⟩;refine J [246,108,132] ?_;have w:nN S x f lim=⟨(aC.fI S.Q S.bx f lim).1,(aC.fI S.Q S.bx f lim).2.1,S.C,S.Fr,du S.m x [N]⟩:=by grind[nN]
 have D:=W;rw[w]at D;exact bn (nN S x f lim,(aC.fI S.Q S.bx f lim).2.2.2) (.inr (.inr ⟨rfl,by omega,rfl⟩)) (by rw[w];exact(bN 7 rfl (bN 7 rfl (ay (dR.mk cJ bd d H:dR af) D ai))));refine J [148] ?_;intro P;refine⟨ai,?_⟩;refine dK.of [(4,true),(10,true)] aR rfl ?_;refine dA rfl rfl ?_;apply ao (lR af cJ bd d H);refine J [246,43] ?_;apply eG (lu d (1024*2^top) x S.m [N] (cL P) 1 U cF jn U (by intro x E;simp only[UB,Uy,or_false]at E;subst E;omega)) ⟨_,bl.rd (ad:=some ⟨P,0,none⟩)⟩;refine J [246,108,132] ?_;have w:nN S x f lim=⟨(aC.fI S.Q S.bx f lim).1,(aC.fI S.Q S.bx f lim).2.1,S.C,S.Fr,du S.m x [N]⟩:=by grind[nN]
 have D:=W;rw[w]at D;exact bn (nN S x f lim,(aC.fI S.Q S.bx f lim).2.2.2) (.inr (.inr ⟨rfl,by omega,rfl⟩)) (by rw[w];exact(bN 7 rfl (bN 7 rfl (ay (dR.mk cJ bd d H:dR af) D ai))))
def wM(k lim:Int):Prop:=(k=8\/1<=k/\k<=5)/\¬(k=1/\lim<0)
def FM(A bk:bP):Prop:=bk=A\/bk={A with np:=A.np+2}
def p6(top:Nat)(A:bP)(h k lim:Int):Prop:=(bS A.l h 1).2≠0\/¬wM k lim\/k=1\/(∃c:Nat,k=c/\(aC.db A.Q (A.own (h %256).toNat) (bE c)).2≠0)\/2^top<=A.np\/(an.b6 A.l 0).length=0
def Jd(top:Nat)(A:bP)(h k lim:Int)(y:bP×Int×Int):Prop:=
  (y.2.2=0/\vd A h k lim y.1 y.2.1/\(bS A.l h 1).2=0)\/(y.2.2≠0/\y.2.1=0/\FM A y.1/\p6 top A h k lim)
variable{lim:Int}
theorem E2{k:Int}(h:wM k lim):∃c:Nat,k=c/\js c:=by refine⟨k.toNat,?_,?_⟩;rcases h.1 with h|h<;>omega;rcases h.1 with h|h;exact .inr U;exact .inl U
theorem DU{d:cQ}{l:List an.bX}{c x:Nat}{f:Int}{y:cQ×Int}(h:qY d l c x f lim y)(he:y.2≠0):c=1\/(an.b6 l 0).length=0:=by rcases h with⟨_,h⟩|⟨h,_⟩|⟨_,_,h⟩;all_goals simp_all
theorem GH{top:Nat}{A:bP}{S d:cQ}{c x:Nat}{f:Int}{y:cQ×Int}(w:cq A)(u:cn top A S)(g:p9 top S f c x d){l:List an.bX}(h:qY d l c x f lim y)(he:y.2≠0):(aC.ek y.1.Q f (bE c)).2=0:=by have C:=(DT (dD:=y.1) (e:=y.2) h he).1;have:=g.q.1;rw[u.Q.1]at this;rw[C,g.q.2.1,u.Q.1,sT w.d8 this]
theorem KJ(k:Int):br 130 [aa k] be [] (.bool (decide (k=8\/1<=k/\k<=5))) []:=by apply aH Tryz.func130 Tryz.ntmps130;intro F _;apply J [9];by_cases u:k=8;subst u;refine J [223,193,480,97,192,319,130] ?_;exact jY;apply J [223,193];refine UG 5 rfl (c:=false) (c4 u) ?_;apply J [16,310,244];refine aO.split 8 rfl (λd=>?_) (λd=>?_);have d:=ds d;apply J [16,261,291,70];exact rZ;have d:=dV d;apply J [49,335,70];exact r0
theorem C6(A:bP)(h:Int)(a4:0<=h/\h<=4294967295)(k lim:Int)(ar:A.np+2<=1000000):bI 85 [ae aV,aS h,aa k,aa lim] c8 [hO aV af top A] (λy:bP×Int×Int=>.tuple #[aS y.2.1,aa y.2.2]) (λy=>Jd top A h k lim y) (λy=>[hO aV af top y.1]):=by
 apply aH Tryz.func85 Tryz.ntmps85;intro F b5;apply J [1];haveI:cw F:=⟨b5⟩;apply J [134,32];apply ao (Dd aV af top A h a4);apply J [6,133,234];apply Ur rfl<;>intro g0;have g1:(bS A.l h 1).2≠0:=λe=>g0 (by rw[mi,aw e]);rw[show mi A h=(0,(bS A.l h 1).2)from al g1];apply J [349,252];exact cN (A,0,(bS A.l h 1).2) (.inr ⟨g1,rfl,.inl rfl,.inl g1⟩) ai;have g1:(bS A.l h 1).2=0:=Vm λe=>g0 (show(mi A h).2≠0 by rw[mi,al e];exact e);rw[show mi A h=((A.own (h %256).toNat:Int),0)from aw g1];dsimp only;apply J [170];apply ao (KJ k);apply J [6];by_cases g2:k=8\/1<=k/\k<=5;rw[cR g2];apply J [89,18,16,92,244];refine aO.split 32 rfl (λg3=>?_) (λg3=>?_);have g3:=ds g3;apply J [200,291,182];apply Ur rfl<;>intro g4;apply J [119];exact cN (A,0,1) (.inr ⟨(show(1:Int)≠0 by decide),rfl,.inl rfl,.inr (.inl λh=>h.2 ⟨g3,g4⟩)⟩) ai;have g5:wM k lim:=⟨g2,λh=>by omega⟩;obtain⟨c,rfl,D⟩:=E2 g5;have b6:∀z:Prop,z=z:=λ_=>rfl;refine J [23,34,2,437] ?_;rintro⟨w,bF,S⟩ ⟨u,d⟩;apply J [10];dsimp only at u d⊢;obtain⟨i,ag,bE,aK,aQ,bX,bY,aX,bZ,E⟩:=iY a4.1 g1;have E:=E.resolve_left am;have N:cB A.l i 1 ag.o:=⟨ag.c0,by rw[<-aQ];exact aK⟩;obtain⟨bB,a9,f9,a0,_,_⟩:=u.obj i 1 _ (.inl rfl) N;have ax:=uo a0 E;have a3:aC.df A.Q (A.own (h %256).toNat):=(by rw[ax]at N;rw[aX];exact(d.cW i 1 a9 f9 (.inl rfl) N).1);have a5:0<=A.bx/\A.bx<=1000000:=(by obtain⟨t,a8,_⟩:=d.d8.root;have:=d.d8.rg t a8;have:=d.bd;omega);refine e rfl ?_;apply a7 (CX aV af w bF top S (A.own (h %256).toNat) c D);intro⟨bo,ck,cp⟩ W;apply J [10];cases bo with|none=>?_|some x=>?_
 obtain⟨he,rfl,Z⟩:=W;dsimp only[sO];have H:p6 top A h c lim:=(by rw[u.Q.1]at Z;rcases Z with hw|⟨_,hw⟩;exact .inr (.inr (.inr (.inl ⟨c,rfl,by rw[<-hw];exact he⟩)));exact .inr (.inr (.inr (.inr (.inl (VN hw u.fV))))));apply J [133,33];refine Ur rfl (λbr=>?_) (λbr=>absurd (he) br);apply J [188];exact cN (A,0,cp) (.inr ⟨he,rfl,.inl rfl,H⟩) (ay (⟨w,bF,ck⟩:fE) ⟨u,d⟩ ai);obtain⟨rfl,cE⟩:=W;dsimp only[sO];refine J [133,211,29,120,250,0,155] ?_;intro ba;apply J [66,25,337,28];apply a7 (CW aV af w bF top ck A.l d.ok c x (A.own (h %256).toNat) lim cE.g.P cE.b (by rw[cE.q.2.2,u.Q.2];exact a5));intro⟨dD,cp⟩ C;apply J [13,125];apply Ur rfl<;>intro g6;obtain⟨bO,b9,ca⟩:=vU D u cE C;apply J [337,0];apply a7 (vK aV af w bF top dD c x (A.own (h %256).toNat) D (bO.p c x cE.b λh=>h) (GH (y:=(dD,cp)) d u cE C g6));intro fZ a2;apply J [13];obtain⟨O,V⟩:=FA d ar D u cE C g6 a2;have H:p6 top A h c lim:=(by rcases DU (y:=(dD,cp)) C g6 with hw|hw;exact .inr (.inr (.inl (by subst hw;rfl)));exact .inr (.inr (.inr (.inr (.inr hw)))));apply J [3,188];exact cN ({A with np:=A.np+2},0,cp) (.inr ⟨g6,rfl,.inr rfl,H⟩) (ay (⟨w,bF,fZ⟩:fE) ⟨O,V⟩ ai);obtain rfl:cp=0:=Ut g6;obtain⟨au,O,V,bb,be,bh,bk,bl,bm⟩:=FB d ar a3 D u cE C;apply J [42];refine cx [0,1,2,3,4,-5,6,7,8,9] (show aF (ah _) (ah [aj ba 60 (ints (bt (c:Int) x (A.own (h %256).toNat)).l),aj aV 135 [ae af,ae w,ae bF]])from ai) ?_;apply J [136,315,11];apply ao (an.n1 w A.l (bt (c:Int) x (A.own (h %256).toNat)) d.ok);refine J [258,5] ?_;rw[bh];apply J [283,271,147];exact cN (au,(an.lS A.l (bt (c:Int) x (A.own (h %256).toNat))).2.1,0) (.inl ⟨rfl,bb,g1⟩) (by rw[<-be,<-bk,<-bl,<-bm];exact(ay (⟨w,bF,dD⟩:fE) ⟨O,V⟩ ai));have g3:=dV g3;have g5:wM k lim:=⟨g2,λh=>g3 h.1⟩;apply J [49,335,93,189];obtain⟨c,rfl,D⟩:=E2 g5;have b6:∀z:Prop,z=z:=λ_=>rfl;refine J [23,34,2,437] ?_;rintro⟨w,bF,S⟩ ⟨u,d⟩;apply J [10];dsimp only at u d⊢;obtain⟨i,ag,bE,aK,aQ,bX,bY,aX,bZ,E⟩:=iY a4.1 g1;have E:=E.resolve_left am;have N:cB A.l i 1 ag.o:=⟨ag.c0,by rw[<-aQ];exact aK⟩;obtain⟨bB,a9,f9,a0,_,_⟩:=u.obj i 1 _ (.inl rfl) N;have ax:=uo a0 E;have a3:aC.df A.Q (A.own (h %256).toNat):=(by rw[ax]at N;rw[aX];exact(d.cW i 1 a9 f9 (.inl rfl) N).1);have a5:0<=A.bx/\A.bx<=1000000:=(by obtain⟨t,a8,_⟩:=d.d8.root;have:=d.d8.rg t a8;have:=d.bd;omega);refine e rfl ?_;apply a7 (CX aV af w bF top S (A.own (h %256).toNat) c D);intro⟨bo,ck,cp⟩ W;apply J [10];cases bo with|none=>?_|some x=>?_
 obtain⟨he,rfl,Z⟩:=W;dsimp only[sO];have H:p6 top A h c lim:=(by rw[u.Q.1]at Z;rcases Z with hw|⟨_,hw⟩;exact .inr (.inr (.inr (.inl ⟨c,rfl,by rw[<-hw];exact he⟩)));exact .inr (.inr (.inr (.inr (.inl (VN hw u.fV))))));apply J [133,33];refine Ur rfl (λbD=>?_) (λbD=>absurd (he) bD);apply J [188];exact cN (A,0,cp) (.inr ⟨he,rfl,.inl rfl,H⟩) (ay (⟨w,bF,ck⟩:fE) ⟨u,d⟩ ai);obtain⟨rfl,cE⟩:=W;dsimp only[sO];refine J [133,211,29,120,250,0,155] ?_;intro bw;apply J [66,25,337,28];apply a7 (CW aV af w bF top ck A.l d.ok c x (A.own (h %256).toNat) lim cE.g.P cE.b (by rw[cE.q.2.2,u.Q.2];exact a5));intro⟨dD,cp⟩ C;apply J [13,125];apply Ur rfl<;>intro g6;obtain⟨bO,b9,ca⟩:=vU D u cE C;apply J [337,0];apply a7 (vK aV af w bF top dD c x (A.own (h %256).toNat) D (bO.p c x cE.b λh=>h) (GH (y:=(dD,cp)) d u cE C g6));intro fZ a2;apply J [13];obtain⟨O,V⟩:=FA d ar D u cE C g6 a2;have H:p6 top A h c lim:=(by rcases DU (y:=(dD,cp)) C g6 with hw|hw;exact .inr (.inr (.inl (by subst hw;rfl)));exact .inr (.inr (.inr (.inr (.inr hw)))));apply J [3,188];exact cN ({A with np:=A.np+2},0,cp) (.inr ⟨g6,rfl,.inr rfl,H⟩) (ay (⟨w,bF,fZ⟩:fE) ⟨O,V⟩ ai);obtain rfl:cp=0:=Ut g6;obtain⟨au,O,V,bb,be,bh,bk,bl,bm⟩:=FB d ar a3 D u cE C;apply J [42];refine cx [0,1,2,3,4,-5,6,7,8,9] (show aF (ah _) (ah [aj bw 60 (ints (bt (c:Int) x (A.own (h %256).toNat)).l),aj aV 135 [ae af,ae w,ae bF]])from ai) ?_;apply J [136,315,11];apply ao (an.n1 w A.l (bt (c:Int) x (A.own (h %256).toNat)) d.ok);refine J [258,5] ?_;rw[bh];apply J [283,271,147];exact cN (au,(an.lS A.l (bt (c:Int) x (A.own (h %256).toNat))).2.1,0) (.inl ⟨rfl,bb,g1⟩) (by rw[<-be,<-bk,<-bl,<-bm];exact(ay (⟨w,bF,dD⟩:fE) ⟨O,V⟩ ai));rw[c4 g2];apply J [89,18,97,192,319,196,119];exact cN (A,0,1) (.inr ⟨(show(1:Int)≠0 by decide),rfl,.inl rfl,.inr (.inl λh=>g2 h.1)⟩) ai
section
variable (K : Int → List Int) (fi : Int → Nat)
def nO:Nat->Int->List Int
  | 0,x=>[x]
  | n+1,x=>(K x).flatMap (nO n)++[x]
def hb(x:Int):List Int:=nO K (fi x) x
end
structure lp(K:Int->List Int)(fi:Int->Nat):Prop where
  lt:∀x,∀z∈K x,fi z<fi x
  bo:∀x,(K x).Nodup
  un:∀x y z,z∈K x->z∈K y->x=y
section
variable {K : Int → List Int} {fi : Int → Nat}
theorem zk{α β:Type}{f g:α->List β}:∀{l:List α},(∀a∈l,f a=g a)->l.flatMap f=l.flatMap g
 | [],_=>rfl
 | a::l,h=>by rw[UN,UN,h a cF,zk λb d=>h b (by simp[d])]
theorem D2{f:Int->List Int}:∀{l:List Int},l.Nodup->(∀a∈l,(f a).Nodup)->(∀a∈l,∀b∈l,a≠b->∀z,z∈f a->z∈f b->False)->(l.flatMap f).Nodup
 | [],_,_,_=>by rw[List.flatMap_nil];exact Va
 | a::l,au,u,C=>by obtain⟨O,P⟩:=UI.1 au;rw[UN,US];refine⟨u a cF,D2 P (λb d=>u b (by simp[d])) λb d c H=>C b (by simp[d]) c (by simp[H]),λz N w hw e=>?_⟩;obtain⟨b,d,E⟩:=Vh.1 hw;exact C a cF b (by simp[d]) (λD=>O (D▸d)) z N (e▸E)
theorem zj{f:Int->List Int}{y:Int}:∀{l L R:List Int},l.flatMap f=L++y::R->∃a∈l,∃L' u,f a=L'++y::u/\∀z∈L',z∈L
 | [],L,R,h=>by rw[List.flatMap_nil]at h;cases L<;>cases h
 | a::l,L,R,h=>by rw[UN]at h;rcases XP.1 h with⟨O,D,d⟩|⟨C,D,d⟩;obtain⟨b,N,L',u,E,H⟩:=zj d;exact⟨b,by simp[N],L',u,E,λz w=>by rw[D];exact Uq.2 (.inr (H z w))⟩;cases C with|nil=>rw[Vn]at d;obtain⟨b,N,L',u,E,H⟩:=zj (L:=[]) (y:=y) (R:=R) (l:=l) (f:=f) (by rw[Vn];exact d.symm);exact⟨b,by simp[N],L',u,E,λz w=>absurd (H z w) cF⟩|cons c C=>rw[WG]at d;obtain⟨rfl,P⟩:=Wu d;exact⟨a,by simp,L,C,D,λz w=>w⟩
theorem lp.nil(h:lp K fi){x:Int}(e:fi x=0):K x=[]:=by rw[List.eq_nil_iff_forall_not_mem];intro z d;have:=h.lt x z d;omega
theorem Dk(h:lp K fi):∀(n m:Nat) (x:Int),fi x<=n->fi x<=m->nO K n x=nO K m x
 | 0,0,_,_,_=>rfl
 | 0,m+1,x,d,_=>by rw[nO,nO,h.nil U];rfl
 | n+1,0,x,_,u=>by rw[nO,nO,h.nil U];rfl
 | n+1,m+1,x,d,u=>by rw[nO,nO];congr 1;refine zk λz w=>?_;have:=h.lt x z w;exact Dk h n m z U U
theorem oN(h:lp K fi)(x:Int):hb K fi x=(K x).flatMap (hb K fi)++[x]:=by rw[hb];cases au:fi x with|zero=>rw[h.nil au];rfl|succ n=>rw[nO];congr 1;refine zk λz d=>?_;have:=h.lt x z d;exact Dk h _ _ z U (Uw _)
theorem xf(h:lp K fi){x z:Int}:z∈hb K fi x↔z=x\/∃y∈K x,z∈hb K fi y:=by rw[oN h,Uq,Vh,Up];grind
theorem uw(h:lp K fi)(x:Int):x∈hb K fi x:=(xf h).2 (.inl rfl)
theorem xe(h:lp K fi):∀(n:Nat) (x z:Int),fi x<=n->z∈hb K fi x->fi z<=fi x
 | n,x,z,au,w=>by rcases(xf h).1 w with rfl|⟨y,u,d⟩;exact Uw _;have C:=h.lt x y u;cases n with|zero=>omega|succ n=>have:=xe h n y z U d;omega
theorem rE(h:lp K fi):∀(n:Nat) (x z:Int),fi x<=n->z∈hb K fi x->z=x\/∃y,z∈K y/\y∈hb K fi x
 | n,x,z,au,E=>by rcases(xf h).1 E with rfl|⟨y,d,u⟩;exact .inl rfl;have H:=h.lt x y d;cases n with|zero=>omega|succ n=>rcases rE h n y z U u with rfl|⟨w,C,D⟩;exact .inr ⟨x,d,uw h x⟩;exact .inr ⟨w,C,(xf h).2 (.inr ⟨y,d,D⟩)⟩
theorem Gt(h:lp K fi)(a b:Int):∀(n:Nat) (z:Int),fi a+fi b<=n+fi z->z∈hb K fi a->z∈hb K fi b->a∈hb K fi b\/b∈hb K fi a
 | n,z,au,D,E=>by rcases rE h _ a z (Uw _) D with rfl|⟨y,d,u⟩;exact .inl E;rcases rE h _ b z (Uw _) E with rfl|⟨w,H,C⟩;exact .inr D;have:=h.un y w z d H;subst this;have N:=h.lt y z d;have O:=xe h _ a y (Uw _) u;have P:=xe h _ b y (Uw _) C;cases n with|zero=>omega|succ n=>exact Gt h a b n y U u C
theorem AZ(h:lp K fi):∀(n:Nat) (x:Int),fi x<=n->(hb K fi x).Nodup
 | n,x,au=>by
  rw[oN h,US];have N:∀y∈K x,x∉hb K fi y:=λy w Q=>(by have:=xe h _ y x (Uw _) Q;have:=h.lt x y w;omega);refine⟨?_,by simp,λa D b u e=>?_⟩;refine D2 (h.bo x) (λy w=>?_) λa D b u O z C P=>?_;have C:=h.lt x y w;cases n with|zero=>omega|succ n=>exact AZ h n y U
  rcases Gt h a b _ z (Nat.le_add_right _ _) C P with E|E;rcases rE h _ b a (Uw _) E with d|⟨y,d,H⟩;exact O d;have:=h.un x y a D d;subst this;exact N b u H;rcases rE h _ a b (Uw _) E with d|⟨y,d,H⟩;exact O d.symm;have:=h.un x y b u d;subst this;exact N a D H;rw[Up]at u;obtain⟨y,w,C⟩:=Vh.1 D;exact N y w (by rw[<-u,<-e];exact C)
theorem A0(h:lp K fi):∀(n:Nat) (x:Int),fi x<=n->∀(L R:List Int) (y z:Int),hb K fi x=L++y::R->z∈K y->z∈L
 | n,x,au,L,R,y,z,e,w=>by
  rw[oN h]at e;rcases XP.1 e with⟨C,u,d⟩|⟨D,u,d⟩;cases C with|nil=>rw[Vn]at d;obtain⟨rfl,_⟩:=Wu d;rw[u,Vg];exact Vh.2 ⟨z,w,uw h z⟩|cons a C=>have:=congrArg List.length d;simp at this
  cases D with|nil=>rw[Vn]at d;obtain⟨rfl,_⟩:=Wu d;rw[Vg]at u;rw[<-u];exact Vh.2 ⟨z,w,uw h z⟩|cons c D=>rw[WG]at d;obtain⟨rfl,_⟩:=Wu d;obtain⟨a,P,E,H,N,O⟩:=zj u;have Q:=h.lt x a P;(cases n with|zero=>omega|succ n=>exact O z (A0 h n a U E H y z N w))
end
theorem oJ(k:IntKind)(xs d:List Int):ch k xs++ch k d=ch k (xs++d):=by simp[ch]
def eN(A:bP)(h:Int):List Int:=if(bS A.l h 1).2=0 then(an.b6 A.l 1).filter λx=>decide ((an.cP A.l x).1.f=(A.own (h %256).toNat:Int)/\x≠0)else[]
def jo(A:bP)(h:Int):Nat:=if(bS A.l h 1).2=0 then 2000000-A.own (h %256).toNat else 0
theorem vp{l:List an.bX}(w:an.dN l){h s:Int}:h∈an.b6 l s↔∃(i:Nat) (p:an.bX),l[i]? =some p/\p.st=s/\h=p.c0*256+i:=by rw[an.b6,an.mE,UE];constructor;grind;rintro⟨i,p,d,u,rfl⟩;exact⟨(p,i),UO.2 ⟨Xt.2 d,cR u⟩,rfl⟩
theorem ol{l:List an.bX}(d:an.dN l){h:Int}:h∈an.b6 l 1↔0<=h/\(an.cP l h).2=0:=by rw[vp d];constructor;rintro⟨i,p,u,w,rfl⟩;have C:=d.lt u;have:=d.c0 p (Us u);grind[an.cP,wL];grind[oA]
theorem vq(l:List an.bX)(w:an.dN l)(s:Int):(an.b6 l s).Nodup:=by rw[an.b6,an.mE,List.Nodup,XA];refine List.Pairwise.filter _ ?_;rw[List.pairwise_iff_getElem];intro i j d u C e;rw[List.getElem_zipIdx,List.getElem_zipIdx]at e;dsimp only at e;rw[List.length_zipIdx,w.n]at d u;omega
theorem nI{l:List an.bX}(d:an.dN l){h s:Int}(hm:h∈an.b6 l s):0<=h/\h<=4294967295:=by obtain⟨i,p,u,_,rfl⟩:=(vp d).1 hm;have w:=d.lt u;have:=d.c0 p (Us u);omega
variable{A:bP}
theorem nY{h z:Int}:z∈eN A h↔(bS A.l h 1).2=0/\z∈an.b6 A.l 1/\(an.cP A.l z).1.f=(A.own (h %256).toNat:Int)/\z≠0:=by rw[eN];simp_all
theorem cq.w6(h:cq A){x:Int}(C:0<=x)(e:(bS A.l x 1).2=0)(O:∀i o,cB A.l i 1 o->o.k=1->∃a f,o=bt 1 a f):∃i a f,cB A.l i 1 (bt 1 a f)/\(x %256).toNat=i/\A.own i<=1000000/\(an.cP A.l x).1.f=f/\∃g:Int,x=g*256+i/\A.l[i]? =some ⟨bt 1 a f,1,g⟩:=by obtain⟨i,p,D,d,E,P,H,N,w,u⟩:=iY C e;have u:=u.resolve_left am;obtain⟨o,s,g⟩:=p;dsimp only at*;subst E;obtain⟨a,f,rfl⟩:=O i o ⟨g,d⟩ u;refine⟨i,a,f,⟨g,d⟩,N,h.AQ (.inl rfl) ⟨g,d⟩,?_,g,H,d⟩;rw[pF (by rw[an.cP,D];exact u)]at w;rw[w];rfl
theorem cq.Ot(h:cq A)(D:∀i o,cB A.l i 1 o->o.k=1->∃a f,o=bt 1 a f)(a3:∀x:Int,x<0->(bS A.l x 1).2≠0):lp (eN A) (jo A):=by
 have u:∀x,(bS A.l x 1).2=0->0<=x:=cr
 refine⟨λx z ax=>?_,λx=>?_,λx y z ar au=>?_⟩;obtain⟨d,ag,w,aX⟩:=nY.1 ax;obtain⟨i,a,f,H,C,an,_,_⟩:=h.w6 (u x d) d D;rw[jo,jo,aw d,C];rw[C]at w;split;rename_i e;obtain⟨j,b,E,bO,aH,O,aK,g,P,Q⟩:=h.w6 (u z e) e D;rw[aH];rw[aK]at w;have ao:j≠0:=λZ=>(by subst Z;obtain⟨⟨a0,bK⟩,_⟩:=h.rt;simp_all);obtain⟨V,W⟩:=h.cW j 1 b E (.inl rfl) bO;obtain⟨a4,aA⟩:=W ao;obtain⟨t,N,he⟩:=V;rw[<-he,(aC.ip h.d8.bo N).2.2.2]at aA;have:=(h.d8.par t N U).2;omega;omega;rw[eN];split;exact(vq A.l h.ok 1).sublist VQ;trivial;obtain⟨d,ag,w,_⟩:=nY.1 ar;obtain⟨bO,_,O,_⟩:=nY.1 au;obtain⟨i,a,f,H,C,_,_,g,an,a2⟩:=h.w6 (u x d) d D;obtain⟨j,b,E,P,Q,_,_,aQ,V,W⟩:=h.w6 (u y bO) bO D;rw[C]at w;rw[Q]at O;have:=h.m9 i j 1 1 a b f E (.inl rfl) (.inl rfl) H P U;simp_all
def fh(A:bP)(h:Int):List Int:=(eN A h).flatMap (hb (eN A) (jo A))
theorem cn.bO{top:Nat}{S:cQ}(h:cn top A S):∀i o,cB A.l i 1 o->o.k=1->∃a f,o=bt 1 a f:=λi o d u=>by
 obtain⟨c,a,f,e,_⟩:=h.obj i 1 o (.inl rfl) d
 exact⟨a,f,uo e u⟩
theorem C5(aV af top:Nat)(A:bP)(h:Int)(V:0<=h/\h<=4294967295):bI 308 [ae aV,aS h] be [hO aV af top A] (λy:Option Addr×Nat=>.slice y.1 (eN A h).length y.2) (λ_=>True) (λy=>[aT 33 1 y.1 (eN A h).length y.2 (ch .u32 (eN A h)),hO aV af top A]):=by
 apply aH Tryz.func308 Tryz.ntmps308;intro F _;apply J [1,44,59,21,3,32];apply ao (Dd aV af top A h V);apply J [6,133,33];apply Ur rfl<;>intro g0;have g1:(bS A.l h 1).2≠0:=λe=>g0 (by rw[mi,aw e]);rw[show eN A h=[]from al g1];apply J [44,224];exact bn (none,0) trivial ((dH 33 1 _).trans ai);have g1:(bS A.l h 1).2=0:=Vm λe=>g0 (show(mi A h).2≠0 by rw[mi,al e];exact e);rw[show mi A h=((A.own (h %256).toNat:Int),0)from aw g1];dsimp only;rw[show eN A h=(an.b6 A.l 1).filter (λx=>decide ((an.cP A.l x).1.f=(A.own (h %256).toNat:Int)/\x≠0))from aw g1];generalize aX:(λx=>decide ((an.cP A.l x).1.f=(A.own (h %256).toNat:Int)/\x≠0))=pr;apply ab.open 0 rfl;rintro⟨w,bF,S⟩ ⟨E,C⟩;apply J [84];dsimp only at E C⊢;apply J [42,64,0];apply eQ (an.Fe w A.l C.ok) ⟨_,bl.rd (ad:=some ⟨w,0,none⟩)⟩;intro y _;apply J [13];have Q:∀z∈an.b6 A.l 1,0<=z/\z<=4294967295:=λz=>nI C.ok;have hle:=an.pb A.l 1;rw[C.ok.n]at hle;generalize au:an.b6 A.l 1=d at*;apply J [251,113];refine ab.loop (ι:=Nat×Option Addr×Nat) (λs=>s.1<=d.length) (λs=>[(0,ae aV),(1,aS h),(5,.slice s.2.1 ((d.take s.1).filter pr).length s.2.2),(6,aa (A.own (h %256).toNat:Int)),(24,.slice y.1 d.length y.2),(25,aa d.length),(26,aa ((s.1:Nat):Int))]) (λs=>ah [aT 33 1 s.2.1 ((d.take s.1).filter pr).length s.2.2 (ch .u32 ((d.take s.1).filter pr)),aT 33 1 y.1 d.length y.2 (ch .u32 d),aj aV 135 [ae af,ae w,ae bF],e7 af top S,aT 264 5 (cL w) 256 256 (an.gk A.l),hh.eI bF A.pd A.now A.q,F]) (λs=>d.length-s.1) (0,none,0) (Nat.zero_le _) bu ((dH 33 1 _).trans ai) ?_;rintro⟨k,ad,cap⟩ W a2;dsimp only[ct]at W⊢;apply J [40];apply Ur rfl<;>intro aK;have Z:k<d.length:=U
 obtain⟨z,N⟩:∃z,d[k]? =some z:=⟨d[k],Uo Z⟩;have aQ:0<(ch .u32 d).length:=by grind[iX]
 have aC:k<(ch .u32 d).length:=by grind[iX]
 have ag:=Q z (Us N);have a0:(d.take (k+1)).filter pr=(d.take k).filter pr++if pr z=true then[z]else[]:=(by grind[List.take_succ]);have ax:((d.take k).filter pr).length<=256:=cr;refine J [213,396] ?_;refine q rfl rfl (dv rfl rfl (me N)) ?_;apply J [27,64,28];apply eG (an.D4 w A.l z C.ok ag) ⟨_,bl.rd (ad:=some ⟨w,0,none⟩)⟩;refine J [17,230] ?_;intro ba;apply J [66,27,24,54,2,193];refine aO.split 43 rfl (λD=>?_) (λD=>?_);have D:=ds D;apply J [341,268];apply Ur rfl<;>intro ar;have H:pr z=true:=cr
 have u:(d.take (k+1)).filter pr=(d.take k).filter pr++[z]:=b2
 refine J [114,63] ?_;intro bw;refine J [0] ?_;refine ap 4 rfl rfl rfl rfl rfl (Nat.le_of_ble_eq_true rfl) (show _=ch .u32 [z]from rfl) rfl U gp ?_;intro O P;refine J [21,60] ?_;exact⟨rfl,(k+1,O,P),cH,cH,⟨rfl,rfl,congrArg (λn=>U8 _ n _) (by dsimp only;rw[u,mp];rfl),rfl,rfl,rfl,rfl,trivial⟩,(ca 0 rfl (by dsimp only;rw[u,oJ,mp];rfl) (bp (bp (bp (bp (bp (bp (a6 _))))))))⟩;have H:¬pr z=true:=cr
 have u:(d.take (k+1)).filter pr=(d.take k).filter pr:=b2
 refine J [111] ?_;exact⟨rfl,(k+1,ad,cap),cH,cH,⟨rfl,rfl,congrArg (λn=>U8 _ n _) (by dsimp only;rw[u]),rfl,rfl,rfl,rfl,trivial⟩,(ca 1 rfl (by dsimp only;rw[u]) (bW (bW (bW (bW (bW (bW (a6 _))))))))⟩;have D:=dV D;have H:¬pr z=true:=cr
 have u:(d.take (k+1)).filter pr=(d.take k).filter pr:=b2
 refine J [49,93,116,111] ?_;exact⟨rfl,(k+1,ad,cap),cH,cH,⟨rfl,rfl,congrArg (λn=>U8 _ n _) (by dsimp only;rw[u]),rfl,rfl,rfl,rfl,trivial⟩,(ca 1 rfl (by dsimp only;rw[u]) (bW (bW (bW (bW (bW (bW (a6 _))))))))⟩;obtain rfl:k=d.length:=by omega
 have u:d.take d.length=d:=b2
 rw[u];apply J [204,101];exact bn (ad,cap) trivial (aq (ay (⟨w,bF,S⟩:fE) ⟨E,C⟩ ai))
end Go.Proofs.YtglgidjhoncphaaGreatDoor
namespace Go.Proofs.YtglgidjhoncphaaGreatDoor.b5
open Go Go.QM
theorem tY(xs:List Int)(k:Nat):(ints xs).take (k*1)=ints (xs.take k):=by simp[ints,List.map_take]
theorem rm:∀(xs:List Int),(ints xs).all Value.oneCell'=true
 | []=>rfl
 | x::xs=>by have:=rm xs;rw[ints]at this⊢;rw[UX,List.all_cons,this];rfl
variable{xs:List Int}{i:Nat}
theorem wk(h:i<xs.length){o:Nat}(d:o=i*1)(v:Int):dJ o [aa v] (ints xs)=ints (xs.set i v):=by rw[d,Nat.mul_one,List.set_eq_take_append_cons_drop,aw h];simp[dJ,ints]
theorem Et{n:Nat}(h:xs.length=n):(ints xs).take (n*1)=ints xs:=List.take_of_length_le (by rw[eb];omega)
theorem pv(xs d:List Int):ints xs++ints d=ints (xs++d):=by simp[ints]
def gL(pr:Int->Bool):Int->Bool:=λx=>!pr x
structure ht(xs:List Int)(pr:Int->Bool)(i j:Nat)(oX:List Int):Prop where
  len:oX.length=xs.length
  ku:i<j
  oF:j<=xs.length
  tk:oX.take i=(xs.take j).filter (gL pr)
  nP:oX.drop j=xs.drop j
variable{pr:Int->Bool}
theorem ht.start{k:Nat}(h:xs.findIdx? pr=some k):ht xs pr k (k+1) xs:=by rw[List.findIdx?_eq_some_iff_getElem]at h;obtain⟨d,u,au⟩:=h;refine⟨rfl,by omega,d,?_,rfl⟩;grind[UF,gL,UU,List.getElem_of_mem,VC]
variable{x:Int}
theorem ht.nh{j:Nat}{d:List Int}(h:ht xs pr i j d)(w:j<xs.length)(D:xs[j]? =some x)(C:pr x=false):ht xs pr (i+1) (j+1) (d.set i x) where
 len:=by rw[List.length_set];exact h.len
 ku:=by have:=h.ku;omega
 oF:=w
 tk:=by
  have E:=h.len;have u:=h.ku
  rw[UF,U7 U,UF,D,Xn,<-h.tk]
  rw[List.take_set_of_le (Uw i)]
  simp[gL,C]
 nP:=by
  have u:=h.ku
  rw[List.drop_set_of_lt U]
  rw[<-V1,h.nP,V1]
theorem ht.skip{j:Nat}{d:List Int}(h:ht xs pr i j d)(u:j<xs.length)(C:xs[j]? =some x)(w:pr x=true):ht xs pr i (j+1) d where
 len:=h.len
 ku:=by have:=h.ku;omega
 oF:=u
 tk:=by rw[UF,C,Xn,h.tk];simp[gL,w]
 nP:=by rw[<-V1,h.nP,V1]
theorem ht.get{j:Nat}{d:List Int}(h:ht xs pr i j d)(w:xs[j]? =some x):d[j]? =some x:=by
 have u:(d.drop j)[0]? =(xs.drop j)[0]? :=by rw[h.nP]
 simp_all
theorem ht.done{u:List Int}(h:ht xs pr i xs.length u):u.take i=xs.filter (gL pr)/\(xs.filter (gL pr)).length=i:=by have d:=h.tk;rw[List.take_length]at d;refine⟨d,?_⟩;rw[<-d,VC];have:=h.len;have:=h.ku;omega
theorem yY(h:xs.findIdx? pr=none):xs.filter (gL pr)=xs:=by grind[UU,gL]
theorem zC(ad:Option Addr)(cap:Nat)(xs:List Int)(gS:FuncId)(lb:List Value)(pr:Int->Bool)(D:ax->Prop)(O:∀x,br gS ([aa x]++lb) D [] (.bool (pr x)) [])(W:xs.length<=1000000000):fw U3 340 [.slice ad xs.length cap,.func (.func gS) #[] lb.toArray] (λF=>(∃E,cM F E ad (ints xs))/\D (ah [F])) [] (λ_:Unit=>aa (match xs.findIdx? pr with|some i=>(i:Int)|none=>-1)) (λ_=>True) (λ_=>[]):=by
 apply aH Tryz.func340 Tryz.ntmps340;intro F ⟨⟨E,H⟩,N⟩;apply J [9];haveI:bl F ad E (ints xs):=⟨H⟩;refine J [38,35,174,573] ?_;rintro k ⟨hinv,eJ⟩ Z;dsimp only[ct]at hinv eJ⊢;apply J [40];apply Ur rfl<;>intro C;have C:k<xs.length:=U
 obtain⟨t,w⟩:∃t,xs[k]? =some t:=⟨xs[k],Uo C⟩;have V:0<(ints xs).length:=by grind[eb]
 refine J [62,142,24,321,86,2,409] ?_;refine q rfl rfl (dv rfl rfl (hN w)) ?_;refine e rfl ?_;refine kR (O t) rfl rfl (eA _) N ?_;intro _ _;apply J [151,3];cases Q:pr t with|true=>?_|false=>?_
 apply J [15,142,163];have d:xs.findIdx? pr=some k:=by grind[vW]
 exact Xq () [_] ⟨rfl,trivial⟩ (by rw[d];rfl) trivial ai;refine J [74,111] ?_;exact⟨rfl,(k+1),⟨by omega,λj u P hu=>by rcases Nat.lt_succ_iff_lt_or_eq.1 P with h|h;exact eJ j u h hu;subst h;rw[w]at hu;cases hu;exact Q⟩,U,bu,(aq (a6 _))⟩;obtain rfl:k=xs.length:=by omega
 have d:xs.findIdx? pr=none:=by grind[zc]
 apply J [22,207];exact Xq () [_] ⟨rfl,trivial⟩ (by rw[d];rfl) trivial (aq (a6 _))
theorem vM(ad:Option Addr)(cap:Nat)(xs:List Int)(gS:FuncId)(lb:List Value)(pr:Int->Bool)(u:ax->Prop)(Q:∀x,br gS ([aa x]++lb) u [] (.bool (pr x)) [])(an:xs.length<=1000000000)(ao:∀F,u F->u (ah [F]))(W:∀B F,u F->u (ah [B,F])):fw U3 286 [.slice ad xs.length cap,.func (.func gS) #[] lb.toArray] u [aT 3 1 ad xs.length cap (ints xs)] (λ_:Unit=>.slice ad (xs.filter (gL pr)).length cap) (λ_=>True) (λ_=>[aT 3 1 ad (xs.filter (gL pr)).length cap (ints (xs.filter (gL pr)))]):=by
 apply aH Tryz.func286 Tryz.ntmps286;intro F P;apply J [1];refine ab.m6 0 rfl (λ_ au _=>?_);have a2:=eb xs;apply J [44,221,321,0];apply eG (zC ad cap xs gS lb pr u Q an) ⟨⟨_,bl.rd⟩,ao _ (W _ _ P)⟩;apply J [6];cases V:xs.findIdx? pr with|none=>?_|some k=>?_
 dsimp only;rw[yY V];apply J [31,208];refine Ur rfl (λC=>?_) (λC=>absurd (rfl) C);apply J [35,21,224];exact hI;dsimp only;have aJ:=ht.start V;have aQ:k<xs.length:=by have:=aJ.oF;omega
 apply J [31,208];refine Ur rfl (λD=>absurd D U) (λD=>?_);refine J [42,29,150,27,76,574] ?_;rintro⟨i,j,w⟩ d a5;dsimp only[ct]at d⊢;have aK:=d.oF;have aC:=d.ku;have a4:=d.len;have a3:=eb w;apply J [129,86,331,191];apply Ur rfl<;>intro aX;have H:j<xs.length:=U
 obtain⟨x,N⟩:∃x,xs[j]? =some x:=⟨xs[j],Uo H⟩;have ar:=d.get N;have a0:0<(ints w).length:=U
 refine J [62,35,2,409] ?_;refine q rfl rfl (dv rfl rfl (hN ar)) ?_;apply J [27,24,321,28];refine kR (Q x) rfl rfl (eA _) (W _ _ P) ?_;intro _ _;apply J [6,89,3];cases Z:pr x with|true=>?_|false=>?_
 refine J [74,23,186] ?_;exact⟨rfl,⟨i,j+1,w⟩,(d.skip H N Z),cH,bu,(aq (aq (a6 _)))⟩;refine J [15,35,120,409,20,518,3,347,73,153,186] ?_;exact⟨rfl,⟨i+1,j+1,w.set i x⟩,(d.nh H N Z),cH,bu,(aq (aq (a6 _)))⟩;obtain rfl:j=xs.length:=by omega
 obtain⟨d1,d2⟩:=d.done;apply J [204,2];refine q rfl rfl (n6 3 1 (i) rfl rfl rfl U U) ?_;refine ey ?_;refine yO (sz:=1) (z:=aa 0) i rfl rfl rfl rfl am rfl rfl U ?_;intro O C D;have ag:O.take (i*1)=ints (xs.filter (gL pr)):=by grind[tY]
 apply J [221,2];refine q rfl rfl (nv 3 1 (i) rfl rfl rfl U U) ?_;apply J [101];exact Xq () [_] ⟨rfl,trivial⟩ (by rw[d2];rfl) trivial (eM 0 rfl (by have:=pM (E:=3) (sz:=1) (ad:=ad) (n:=xs.length) (cap:=cap) (cs:=O) (j:=i) U;rw[ag]at this;rw[d2];exact this) (aq (a6 _)))
structure Fn where
  id:Int
  par:Int
  dC:Int
  cd:Int
def io(t:Fn):Int×Int:=(t.dC,t.cd)
def c1(L:List Fn)(p:Int):List Int:=(L.filter λt=>decide (t.par=p/\p≠0)).map (·.id)
def fL(L:List Fn)(id:Int):Prop:=∃t∈L,t.id=id
instance (L:List Fn)(id:Int):Decidable (fL L id):=inferInstanceAs (Decidable (∃t∈L,t.id=id))
def iz(A:Int->Nat)(L:List Fn):Int->Option Value:=λid=>if fL L id then some (.pointer (some ⟨A id,0,none⟩))else none
def ks(L:List Fn)(o:Int×Int):Prop:=∃t∈L,io t=o
instance (L:List Fn)(o:Int×Int):Decidable (ks L o):=inferInstanceAs (Decidable (∃t∈L,io t=o))
def hk(L:List Fn)(o:Int×Int):Int:=match L.find? λt=>decide (io t=o)with
  | some t=>t.id
  | none=>0
def j3(L:List Fn):Int×Int->Option Value:=λo=>if ks L o then some (.int .i64 (hk L o))else none
def jO(L:List Fn):Prop:=(L.map (·.id)).Nodup
def oi(L:List Fn):Prop:=(L.map io).Nodup
structure cC(L:List Fn)(last:Int):Prop where
  bo:jO L
  no:oi L
  rg:∀t∈L,1<=t.id/\t.id<=last/\0<=t.par/\t.par<t.id
  len:(L.length:Int)<=last
structure B9 where
  ad:Int->Option Addr
  cap:Int->Nat
  aE:Nat
  bt:Nat
abbrev il(A:Int->Nat)(ad:Int->Option Addr)(cap:Int->Nat)(L:List Fn)(t:Fn):ax:=aj (A t.id) 219 [.int .i64 t.dC,.int .i64 t.cd,.int .i64 t.par,.slice (ad t.id) (c1 L t.id).length (cap t.id)]
abbrev ik(ad:Int->Option Addr)(cap:Int->Nat)(L:List Fn)(t:Fn):ax:=aT 3 1 (ad t.id) (c1 L t.id).length (cap t.id) (ints (c1 L t.id))
abbrev zw(aE bt:Nat)(last:Int):List Value:=[.map (some aE),.map (some bt),.int .i64 last]
def t6(b:Nat)(A:Int->Nat)(L:List Fn)(last:Int):ax:=fj λy:B9=>pure' (cC L last) (ah [aj b 223 (zw y.aE y.bt last),bC QM.encI y.aE (iz A L) L.length,bC mI y.bt (j3 L) L.length,b7 (il A y.ad y.cap L) L,b7 (ik y.ad y.cap L) L])
def jU(b:Nat)(L:List Fn)(last:Int):ax:=fj λA:Int->Nat=>pure' True (ah [t6 b A L last])
variable{S:List Fn}
theorem jO.perm{T:List Fn}(h:jO S)(p:T.Perm S):jO T:=(p.map _).nodup_iff.2 h
variable{t:Fn}
theorem jO.inj(h:jO S){u:Fn}(C:t∈S)(hu:u∈S)(e:t.id=u.id):t=u:=by obtain⟨L,w⟩:=fv C;rcases UB.1 (w.mem_iff.1 hu)with d|d;simp_all;exact absurd (UE.2 ⟨u,d,e.symm⟩) (UI.1 (h.perm w.symm)).1
theorem oi.inj(h:oi S){u:Fn}(C:t∈S)(hu:u∈S)(e:io t=io u):t=u:=by obtain⟨L,w⟩:=fv C;rcases UB.1 (w.mem_iff.1 hu)with d|d;simp_all;exact absurd (UE.2 ⟨u,d,e.symm⟩) (UI.1 ((w.symm.map _).nodup_iff.2 h)).1
def gZ(S:List Fn)(id:Int):List Fn:=S.filter λt=>decide (t.id≠id)
theorem w1{L:List Fn}(h:jO S)(w:S.Perm (t::L)):(gZ S t.id).Perm L:=by have d:=w.filter λu=>decide (u.id≠t.id);rw[VD cF]at d;have C:L.filter (λu=>decide (u.id≠t.id))=L:=UU.2 λu hu=>(by have:=(UI.1 (h.perm w.symm)).1;simp_all);rw[C]at d;exact d
theorem lO:t∈gZ S x↔t∈S/\t.id≠x:=by simp[gZ]
theorem uq{y:Int}:fL (gZ S x) y↔fL S y/\y≠x:=by constructor;rintro⟨t,d,rfl⟩;exact⟨⟨t,(lO.1 d).1,rfl⟩,(lO.1 d).2⟩;rintro⟨⟨t,d,rfl⟩,h⟩;exact⟨t,lO.2 ⟨d,h⟩,rfl⟩
theorem ur(au:jO S)(u:t∈S):(gZ S t.id).length+1=S.length:=by obtain⟨L,d⟩:=fv u;rw[(w1 au d).length_eq,d.length_eq];rfl
theorem pl{A:Int->Nat}{id:Int}(h:fL S id):iz A S id=some (.pointer (some ⟨A id,0,none⟩)):=aw h
theorem qm{A:Int->Nat}{id:Int}(h:¬fL S id):iz A S id=none:=al h
theorem DI{A:Int->Nat}{T:List Fn}(h:∀x,fL T x↔fL S x):iz A T=iz A S:=by grind[iz]
theorem DH{A:Int->Nat}(b:Nat):iz (aP A t.id b) (S++[t])=fe (iz A S) t.id (ae b):=by
 funext x;simp only[iz,fe];have d:fL (S++[t]) x↔fL S x\/t.id=x:=by simp[fL,or_and_right,exists_or]
 by_cases e:x=t.id;rw[aw (d.2 (.inr e.symm)),aw e,e,ci];rw[al e,bM e];grind
theorem DJ{A:Int->Nat}(x:Int):iz A (gZ S x)=fQ (iz A S) x:=by funext y;simp only[iz,fQ];by_cases e:y=x;rw[aw e,al (λh=>(uq.1 h).2 e)];rw[al e];by_cases h:fL S y;rw[aw h,aw (uq.2 ⟨h,e⟩)];rw[al h,al (λd=>h (uq.1 d).1)]
theorem ze(h:oi S)(w:t∈S):hk S (io t)=t.id:=by rw[hk];cases d:S.find? λu=>decide (io u=io t)with|none=>rw[VX]at d;exact absurd (cR rfl) (d t w)|some u=>have C:=List.find?_some d;have D:=XO d;rw[h.inj D w (by simpa using C)]
theorem zd{o:Int×Int}(h:¬ks S o):hk S o=0:=by have:S.find? (λu=>decide (io u=o))=none:=(by rw[VX];intro u hu;simp only[decide_eq_true_eq];exact λe=>h ⟨u,hu,e⟩);grind[hk]
theorem za(S:List Fn)(o:Int×Int):(j3 S o).getD (aa 0)=aa (hk S o):=by grind[j3,zd]
theorem vQ{o:Int×Int}(h:¬ks S o):j3 S o=none:=al h
theorem DN(au:oi S)(d:t∈S):j3 S (io t)=some (aa t.id):=by rw[j3,aw ⟨t,d,rfl⟩,ze au d]
theorem D0{α:Type}{p r:α->Bool}:∀{l:List α},(∀u∈l,p u=true->r u=true)->(l.filter r).find? p=l.find? p
 | [],_=>rfl
 | a::l,h=>by
  have C:=D0 (p:=p) (r:=r) (l:=l) λu hu=>h u (by simp[hu])
  by_cases w:r a=true
  ·rw[List.filter_cons_of_pos w,WW,WW,C]
  have d:p a=false:=by
   cases d:p a with
   | false=>rfl
   | true=>exact absurd (h a cF d) w
  rw[VD w,WW,d,C]
theorem DM(au:jO S)(D:oi S)(C:t∈S):j3 (gZ S t.id)=fQ (j3 S) (io t):=by funext o;simp only[j3,fQ];by_cases e:o=io t;rw[aw e,al];rintro⟨u,hu,d⟩;have w:=lO.1 hu;exact w.2 (by rw[D.inj w.1 C (d.trans e)]);rw[al e];have H:ks (gZ S t.id) o↔ks S o:=(by constructor;rintro⟨u,hu,d⟩;exact⟨u,(lO.1 hu).1,d⟩;rintro⟨u,hu,d⟩;refine⟨u,lO.2 ⟨hu,λw=>e ?_⟩,d⟩;rw[<-d,au.inj hu C w]);have E:hk (gZ S t.id) o=hk S o:=(by rw[hk,hk,gZ,D0];intro u hu d;simp only[decide_eq_true_eq]at d⊢;intro w;exact e (by rw[<-d,au.inj hu C w]));simp_all
theorem DK(h:¬ks S (io t)):j3 (S++[t])=fe (j3 S) (io t) (aa t.id):=by
 funext o;simp only[j3,fe];have w:ks (S++[t]) o↔ks S o\/io t=o:=by simp[ks,or_and_right,exists_or]
 by_cases e:o=io t;subst e;rw[aw (w.2 (.inr rfl)),aw rfl,hk,List.find?_append];have:S.find? (λu=>decide (io u=io t))=none:=(by rw[VX];intro u hu;simp only[decide_eq_true_eq];exact λe=>h ⟨u,hu,e⟩);grind;rw[al e];by_cases d:ks S o;rw[aw (w.2 (.inl d)),aw d,hk,hk,List.find?_append];grind;grind
variable{p:Int}
theorem px:x∈c1 S p↔p≠0/\∃t∈S,t.par=p/\t.id=x:=by simp only[c1,UE,UO,decide_eq_true_eq];grind
theorem t8(S T:List Fn)(p:Int):c1 (S++T) p=c1 S p++c1 T p:=by simp[c1]
theorem EZ(h:t.par=p)(d:p≠0):c1 [t] p=[t.id]:=by simp[c1,h,d]
theorem zQ(h:t.par≠p):c1 [t] p=[]:=by simp[c1,h]
theorem ua(S:List Fn)(p:Int):(c1 S p).length<=S.length:=by rw[c1,VP];exact List.length_filter_le _ _
theorem EY(S:List Fn)(p x:Int):c1 (gZ S x) p=(c1 S p).filter λy=>decide (y≠x):=by rw[c1,c1,List.filter_map,gZ,Wd,Wd];grind
theorem sB(au:jO S)(C:t∈S)(w:t.par≠p):c1 (gZ S t.id) p=c1 S p:=by rw[EY];refine UU.2 λy D=>?_;obtain⟨_,u,hu,d,rfl⟩:=px.1 D;simp only[decide_eq_true_eq];intro e;rw[au.inj hu C e]at d;exact w d
theorem Ow:(c1 S p).filter (gL λy=>decide (y=x))=c1 (gZ S x) p:=by grind[EY,List.filter_congr,gL]
theorem EX(h:jO S)(p:Int):(c1 S p).Nodup:=h.sublist (List.filter_sublist.map _)
theorem cC.nil:cC [] 0:=⟨Va,Va,(λt h=>by cases h),Int.le_refl _⟩
variable{last:Int}
theorem cC.sub{T:List Fn}(h:cC S last)(hs:T.Sublist S):cC T last:=
 ⟨h.bo.sublist (hs.map _),h.no.sublist (hs.map _),λt d=>h.rg t (hs.subset d),by have:=h.len;have:=hs.length_le;omega⟩
theorem cC.off(h:cC S last)(x:Int):cC (gZ S x) last:=h.sub VQ
theorem cC.add(h:cC S last)(O:t.id=last+1)(N:0<=t.par/\t.par<=last)(E:¬ks S (io t)):cC (S++[t]) (last+1) where
 bo:=by
  rw[jO,Vy,US]
  refine⟨h.bo,by simp,λx C y d=>?_⟩
  obtain⟨a,w,rfl⟩:=UE.1 C
  simp only[UX,Wi,Up]at d
  have:=h.rg a w
  omega
 no:=by
  rw[oi,Vy,US]
  refine⟨h.no,by simp,λx C y d=>?_⟩
  obtain⟨a,w,rfl⟩:=UE.1 C
  simp only[UX,Wi,Up]at d
  rw[d];exact λD=>E ⟨a,w,D⟩
 rg:=λu hu=>by
  have H:=h.len
  rcases Uq.1 hu with hu|hu
  ·have:=h.rg u hu;omega
  rw[Up.1 hu];omega
 len:=by have:=h.len;rw[mp,Ux];omega
def gP(S:List Fn)(last par:Int)(o:Int×Int):List Fn×Int×Int×Int:=if ¬fL S par/\par≠0 then(S,last,0,6)else if hk S o≠0 then(S,last,0,7)else(S++[⟨last+1,par,o.1,o.2⟩],last+1,last+1,0)
def gY(S:List Fn)(u:Fn)(p:Int):List Fn:=gZ S u.id++[⟨u.id,p,u.dC,u.cd⟩]
theorem cC.move(h:cC S last){u:Fn}(hu:u∈S)(H:0<=p/\p<u.id):cC (gY S u p) last where
 bo:=by
  rw[jO,gY,Vy,US]
  refine⟨(h.off _).bo,by simp,λx C y d=>?_⟩
  obtain⟨a,w,rfl⟩:=UE.1 C
  simp only[UX,Wi,Up]at d
  rw[d];exact(lO.1 w).2
 no:=by
  rw[oi,gY,Vy,US]
  refine⟨(h.off _).no,by simp,λx C y d=>?_⟩
  obtain⟨a,w,rfl⟩:=UE.1 C
  simp only[UX,Wi,Up]at d
  rw[d];intro E
  have D:=lO.1 w
  exact D.2 (by rw[h.no.inj D.1 hu E])
 rg:=λv hv=>by
  rcases Uq.1 hv with hv|hv
  ·exact h.rg v (lO.1 hv).1
  rw[Up.1 hv];have:=h.rg u hu;dsimp only;omega
 len:=by have:=h.len;have:=ur h.bo hu;rw[gY,mp,Ux];omega
theorem Eb(h:cC S last)(o:Int×Int):ks S o↔hk S o≠0:=by constructor;rintro⟨t,d,rfl⟩;rw[ze h.no d];have:=h.rg t d;omega;grind[zd]
theorem zv(h:cC S last)(u:fL S x):1<=x/\x<=last:=by obtain⟨t,d,rfl⟩:=u;have:=h.rg t d;omega
end Go.Proofs.YtglgidjhoncphaaGreatDoor.b5
namespace Go.Proofs.YtglgidjhoncphaaGreatDoor.b5
open Go Go.QM
def rf(L:List Fn)(id:Int):Option Fn:=L.find? λt=>decide (t.id=id)
theorem vX{S:List Fn}(h:jO S){t:Fn}(w:t∈S):rf S t.id=some t:=by rw[rf];cases d:S.find? λu=>decide (u.id=t.id)with|none=>rw[VX]at d;exact absurd (cR rfl) (d t w)|some u=>have C:=List.find?_some d;have D:=XO d;rw[h.inj D w (by simpa using C)]
theorem DY{S:List Fn}{id:Int}(h:¬fL S id):rf S id=none:=by rw[rf,VX];intro u hu;simp only[decide_eq_true_eq];exact λe=>h ⟨u,hu,e⟩
def pI(L:List Fn)(id:Int):Int×Int×Bool:=match rf L id with
  | some t=>(t.dC,t.cd,true)
  | none=>(0,0,false)
theorem E1{S:List Fn}{last:Int}(h:cC S last){x:Int}(u:last<x):c1 S x=[]:=by rw[c1,Wm.2];trivial;intro t d;have:=h.rg t d;grind
theorem Ed{S:List Fn}{last:Int}(h:cC S last){x:Int}(u:last<x):¬fL S x:=λd=>by have:=zv h d;omega
variable(b:Nat)
theorem MF(aE bt:Nat)(F:ax):aF (ah [aj b 223 [.map (some aE),.map (some bt),aa 0],bC mI bt (λ_=>none) 0,bC QM.encI aE (λ_=>none) 0,F]) (ah [jU b [] 0,F]):=by
 have d:iz (λ_=>0) []=λ_=>none:=by trivial
 have u:j3 []=λ_=>none:=by trivial
 refine(mZ (f:=il (λ_=>0) (λ_=>none) (λ_=>0) []) _).trans ?_;refine(mZ (f:=ik (λ_=>none) (λ_=>0) []) _).trans ?_;refine ay (λ_=>0:Int->Nat) trivial ?_;refine ay (⟨λ_=>none,λ_=>0,aE,bt⟩:B9) cC.nil ?_;exact bN 2 rfl (ca 3 rfl (by rw[d];rfl) (ca 2 rfl (by rw[u];rfl) (bW (aq (aq (a6 _))))))
theorem MG:bI 134 [] be [] (λb:Nat=>ae b) (λ_=>True) (λb=>[jU b [] 0]):=by apply aH Tryz.func134 Tryz.ntmps134;intro F _;refine J [9,272,26,333] ?_;intro ba;refine e rfl ?_;refine wR mI ?_;intro bw;refine q rfl rfl (eh (cs:=[.map _,.map _,.int _ _]) rfl) ?_;refine e rfl ?_;refine eV (v:=.agg #[_,_,_]) (l:=[.map _,.map _,.int _ _]) rfl rfl ?_;intro b4;apply J [109];exact bn b4 trivial (MF b4 ba bw F)
theorem pn(aE bt n:Nat)(last:Int)(f:Int->Option Value)(id:Int):br 118 [ae b,aa id] be [aj b 223 (zw aE bt last),bC QM.encI aE f n] ((f id).getD (.pointer none)) [aj b 223 (zw aE bt last),bC QM.encI aE f n]:=by apply aH Tryz.func118 Tryz.ntmps118;intro F _;apply J [12,24,149,25,135,154,100,135,53,288];refine q rfl rfl (j8 3 216 rfl rfl (dM.int rfl) rfl rfl) ?_;apply J [149,233];exact fa (aq (aq (aq (a6 _))))
theorem vV(L:List Fn)(last:Int)(u d:Int):br 71 [ae b,aa u,aa d] be [jU b L last] (aa (hk L (u,d))) [jU b L last]:=by apply aH Tryz.func71 Tryz.ntmps71;intro F _;apply J [1];refine ab.open 0 rfl (λA _=>?_);apply J [1];refine ab.open 0 rfl (λC w=>?_);obtain⟨ad,cap,aE,bt⟩:=C;have av:=w;apply J [156];dsimp only at av⊢;apply J [38,41,64,120,538];refine q rfl rfl (j8 (a:=(_,_)) 78 3 rfl rfl (dM.pair aR) rfl rfl) ?_;rw[za];apply J [30];exact Iw
theorem MH(L:List Fn)(last:Int)(id:Int):br 69 [ae b,aa id] be [jU b L last] (.tuple #[aa (pI L id).1,aa (pI L id).2.1,.bool (pI L id).2.2]) [jU b L last]:=by
 apply aH Tryz.func69 Tryz.ntmps69;intro F _;apply J [1];refine ab.open 0 rfl (λA _=>?_);apply J [1];refine ab.open 0 rfl (λD C=>?_);obtain⟨ad,cap,aE,bt⟩:=D;have av:=C;apply J [156];dsimp only at av⊢;by_cases u:fL L id;have d:=pl (A:=A) u;obtain⟨t,w,rfl⟩:=u;obtain⟨M,bG⟩:=fv w;have hv:pI L t.id=(t.dC,t.cd,true):=by rw[pI,vX av.bo w]
 rw[hv];apply J [389,24,73,183,32];refine aL (pn b aE bt L.length last (iz A L) t.id) rfl (dY 2 rfl (dY 2 rfl (eA _))) trivial ?_;intro _ _;apply J [17];rw[d];apply J [55,106,121];refine cx [0,1,2,3,4,5,6,7,8,9,10,11,12] (U5 _) ?_;apply J [171,351,180,369,369,269,147];exact Xq () [_,_,_] ⟨rfl,rfl,rfl,trivial⟩ rfl trivial (ay A trivial (ay ⟨ad,cap,aE,bt⟩ av (aq (aq (bp (cU 0 0 t rfl rfl rfl (λ_ _=>rfl) bG.symm (aq (aq (a6 _)))))))));have d:=qm (A:=A) u;have hv:pI L id=(0,0,false):=by grind[pI,DY]
 rw[hv];apply J [24,73,183,32];refine aL (pn b aE bt L.length last (iz A L) id) rfl (dY 0 rfl (dY 0 rfl (eA _))) trivial ?_;intro _ _;apply J [13];rw[d];apply J [55,106,122,24,73,183,83];exact Xq () [_,_,_] ⟨rfl,rfl,rfl,trivial⟩ rfl trivial (ay A trivial (ay ⟨ad,cap,aE,bt⟩ av (aq (aq (aq (aq (aq (aq (a6 _)))))))))
theorem vT(L:List Fn)(last:Int)(par w d:Int)(bm:last<=1000000):br 139 [ae b,aa par,aa w,aa d] be [jU b L last] (.tuple #[aa (gP L last par (w,d)).2.2.1,aa (gP L last par (w,d)).2.2.2]) [jU b (gP L last par (w,d)).1 (gP L last par (w,d)).2.1]:=by
 apply aH Tryz.func139 Tryz.ntmps139;intro F _;apply J [1];refine ab.open 0 rfl (λA _=>?_);apply J [1];refine ab.open 0 rfl (λa9 a8=>?_);obtain⟨ad,cap,aE,bt⟩:=a9;have av:=a8;apply J [156];dsimp only at av⊢;have bD:=av.len;by_cases E:fL L par;·have ao:=pl (A:=A) E;refine J [134,32,599] ?_;intro _ _;apply J [13];rw[ao];refine J [120,538,0,539] ?_;intro bb;apply J [159,20,482,25,76,106,189,217];refine UG 24 rfl (c:=false) rfl ?_;apply J [49,93,189,7];refine cx [0,1,2,3,4,5,6,7] (U5 _) ?_;refine J [136,378,600] ?_;rw[za];apply J [483,269];apply Ur rfl<;>intro Q;(have hv:gP L last par (w,d)=(L,last,0,7):=by rw[gP,al (λh=>h.1 E),aw Q]);rw[hv];dsimp only;apply J [119];exact BW;(have hv:gP L last par (w,d)=(L++[⟨last+1,par,w,d⟩],last+1,last+1,0):=by rw[gP,al (λh=>h.1 E),al Q]);rw[hv];dsimp only;(have eJ:¬ks L (w,d):=by grind[Eb]);have au:=vQ eJ;have aC:=Ed av (x:=last+1) U;have ar:=qm (A:=A) aC;have a5:=E1 av (x:=last+1) U;(have O:(L++[(⟨last+1,par,w,d⟩:Fn)]).length=L.length+1:=by simp_all);have bx:=zv av E;have Z:=av.add (t:=⟨last+1,par,w,d⟩) rfl cH eJ;obtain⟨t,a7,rfl⟩:=E;obtain⟨M,bG⟩:=fv a7;have a4:=av.bo.perm bG.symm;have bl:=ua L t.id;have bk:=eb (c1 L t.id);(have a2:c1 (L++[⟨last+1,t.id,w,d⟩]) t.id=c1 L t.id++[last+1]:=by grind[t8,EZ]);(have ax:∀x,t.id≠x->c1 (L++[⟨last+1,t.id,w,d⟩]) x=c1 L x:=by grind[t8,zQ]);have a0:∀u∈M,t.id≠u.id/\u.id≠last+1:=λu hu=>⟨λaX=>(UI.1 a4).1 (UE.2 ⟨u,hu,aX.symm⟩),λaX=>by have:=av.rg u (bG.mem_iff.2 (by simp[hu]));omega⟩;refine VM (fR 4 rfl bG) ?_;refine VM (fR 6 rfl bG) ?_;refine J [23,99,150,80,263,190,25] ?_;refine cx [0,1,2,3,4,5,6,7,8,9,10,-11,-12] (aq (eU (a6 _))) ?_;refine J [51,185,378,14,540,11,484] ?_;intro aK;refine J [5,257] ?_;refine lK 3 216 rfl (dM.int rfl) rfl rfl rfl ?_;refine J [108,7] ?_;refine cx [0,1,2,3,4,5,6,7,8,-9] (bp (bN 6 rfl (a6 _))) ?_;refine J [136,378,185,257,601,108,7,37,254,122] ?_;refine ab.draw _ [13] [0,1,2,3,4,5,6,7,8,-9,-10,11,12,-13] aR aR (cY (eE (a6 _))) ?_;refine J [77,273,185,11,148] ?_;intro bh;refine J [43] ?_;refine ap 8 rfl rfl rfl rfl rfl (Nat.le_of_ble_eq_true rfl) (show _=ints [last+1]from rfl) rfl U gp ?_;intro V W;refine J [5,88,436,91,373,75,99,71] ?_;(have P:t.id≠last+1:=by omega);(have N:c1 (L++[(⟨last+1,t.id,w,d⟩:Fn)]) (last+1)=[]:=by simp_all);have H:(t::(⟨last+1,t.id,w,d⟩:Fn)::M).Perm (L++[(⟨last+1,t.id,w,d⟩:Fn)]):=(List.Perm.swap _ _ _).trans ((bG.symm.cons _).trans (Vt _ _).symm);have an:∀u∈M,il A ad cap L u=il (aP A (last+1) aK) (aP (aP ad t.id V) (last+1) none) (aP (aP cap t.id W) (last+1) 0) (L++[(⟨last+1,t.id,w,d⟩:Fn)]) u:=λu hu=>(by obtain⟨C,D⟩:=a0 u hu;dsimp only[il];rw[bM D,bM D,bM D,bM (WC C),bM (WC C),ax _ C]);have ag:∀u∈M,ik ad cap L u=ik (aP (aP ad t.id V) (last+1) none) (aP (aP cap t.id W) (last+1) 0) (L++[(⟨last+1,t.id,w,d⟩:Fn)]) u:=λu hu=>(by obtain⟨C,D⟩:=a0 u hu;dsimp only[ik];rw[bM D,bM D,bM (WC C),bM (WC C),ax _ C]);exact hJ ((dH 3 1 _).trans (ay (aP A (last+1) aK) trivial (ay ⟨aP (aP ad t.id V) (last+1) none,aP (aP cap t.id W) (last+1) 0,aE,bt⟩ Z (bN 7 rfl (ca 5 rfl (by dsimp only;rw[DH (t:=(⟨last+1,t.id,w,d⟩:Fn)),ar,O];rfl) (ca 4 rfl (by dsimp only;rw[DK (t:=(⟨last+1,t.id,w,d⟩:Fn)) eJ,au,O];rfl) (tL 1 3 4 t (⟨last+1,t.id,w,d⟩:Fn) rfl rfl rfl (by dsimp only[il];rw[bM P,bM P,bM P,ci,ci,a2,mp];rfl) (by dsimp only[il];rw[ci,ci,ci,N];rfl) an H (tL 1 0 1 t (⟨last+1,t.id,w,d⟩:Fn) rfl rfl rfl (by dsimp only[ik];rw[bM P,bM P,ci,ci,a2,mp,Ux,pv]) (by dsimp only[ik];rw[ci,ci,N];rfl) ag H (bp (a6 _))))))))))
 have ao:=qm (A:=A) E;refine J [134,32,599] ?_;intro _ _;apply J [13];rw[ao];refine J [120,538,0,539] ?_;intro bd;apply J [159,20,482,25,76,106,189,217];refine UG 24 rfl (c:=true) rfl ?_;apply J [341,368,47];apply Ur rfl<;>intro a3;have hv:gP L last par (w,d)=(L,last,0,6):=aw ⟨E,a3⟩;rw[hv];dsimp only;apply J [119];exact BW;obtain rfl:par=0:=U
 refine ab.seq ?_;refine cx [0,1,2,3,4,5,6,7] (U5 _) ?_;refine J [136,378,600] ?_;rw[za];apply J [483,269];apply Ur rfl<;>intro Q;have hv:gP L last 0 (w,d)=(L,last,0,7):=by rw[gP,al (λh=>h.2 rfl),aw Q]
 rw[hv];dsimp only;apply J [119];exact BW;have hv:gP L last 0 (w,d)=(L++[⟨last+1,0,w,d⟩],last+1,last+1,0):=by rw[gP,al (λh=>h.2 rfl),al Q]
 rw[hv];dsimp only;have eJ:¬ks L (w,d):=by grind[Eb]
 have au:=vQ eJ;have aC:=Ed av (x:=last+1) U;have ar:=qm (A:=A) aC;have a5:=E1 av (x:=last+1) U;have O:(L++[(⟨last+1,0,w,d⟩:Fn)]).length=L.length+1:=b2
 have Z:=av.add (t:=(⟨last+1,0,w,d⟩:Fn)) rfl cH eJ;have ax:∀x,1<=x->c1 (L++[(⟨last+1,0,w,d⟩:Fn)]) x=c1 L x:=by grind[t8,zQ]
 refine J [23,99,150,80,263,190,25] ?_;refine cx [0,1,2,3,4,5,6,7,8,9,10,-11,-12] (aq (aq (a6 _))) ?_;refine J [51,185,378,14,540,11,484] ?_;intro aQ;refine J [5,257] ?_;refine lK 3 216 rfl (dM.int rfl) rfl rfl rfl ?_;refine J [108,7] ?_;refine cx [0,1,2,3,4,5,6,7,8,-9] (bp (bp (a6 _))) ?_;refine J [136,378,185,257,601,108,7,37,254,100,99,71] ?_;have N:c1 (L++[(⟨last+1,0,w,d⟩:Fn)]) (last+1)=[]:=cr
 have an:∀u∈L,il A ad cap L u=il (aP A (last+1) aQ) (aP ad (last+1) none) (aP cap (last+1) 0) (L++[(⟨last+1,0,w,d⟩:Fn)]) u:=λu hu=>(by have C:=av.rg u hu;(have D:u.id≠last+1:=by omega);dsimp only[il];grind[bM]);have ag:∀u∈L,ik ad cap L u=ik (aP ad (last+1) none) (aP cap (last+1) 0) (L++[(⟨last+1,0,w,d⟩:Fn)]) u:=λu hu=>(by have C:=av.rg u hu;(have D:u.id≠last+1:=by omega);dsimp only[ik];grind[bM]);have H:((⟨last+1,0,w,d⟩:Fn)::L).Perm (L++[(⟨last+1,0,w,d⟩:Fn)]):=(Vt _ _).symm;exact hJ ((dH 3 1 _).trans (ay (aP A (last+1) aQ) trivial (ay ⟨aP ad (last+1) none,aP cap (last+1) 0,aE,bt⟩ Z (eU (ca 2 rfl (by dsimp only;rw[DH (t:=(⟨last+1,0,w,d⟩:Fn)),ar,O];rfl) (ca 1 rfl (by dsimp only;rw[DK (t:=(⟨last+1,0,w,d⟩:Fn)) eJ,au,O];rfl) (cU 1 2 (⟨last+1,0,w,d⟩:Fn) rfl rfl (by dsimp only[il];rw[ci,ci,ci,N];rfl) an H (cU 0 1 (⟨last+1,0,w,d⟩:Fn) rfl rfl (by dsimp only[ik];rw[ci,ci,N];rfl) ag H (bW (a6 _))))))))))
end Go.Proofs.YtglgidjhoncphaaGreatDoor.b5
