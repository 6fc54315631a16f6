/-
  Proved here: what functions of this program compute, each as a contract over symbolic states, under the premises that each theorem names (most lines printed by a program of the prover).
-/
import Derived.Test.YtdfmfhcjnjfjbaaThE
namespace Go.Proofs.Ytdfmfhcjnjfjbaa
open Go Go.QM
open Al (En hasA Nd clrA setA offA dueA restA leftA)
open Rd (hasS NdS addS RInv topS runS tickS yieldS rndS)
def T1 : TS := addL t0 [1, 2, 2]
theorem g1 : TG T1 0 := TG.zero.adds _ (by decide)
theorem n1 : T1.m.ids.length = 2 := by kernel_rfl
def T2 : TS := (startS T1 1 3 5).1
theorem r0 : startS T1 1 3 5 = (T2, 0) := by kernel_rfl
theorem g2 : TG T2 1 := g1.start _ _ _
def T3 : TS := (startS T2 2 3 5).1
theorem r1 : startS T2 2 3 5 = (T3, 0) := by kernel_rfl
theorem g3 : TG T3 2 := g2.start _ _ _
def T4 : TS := (waitS T3 1 0).1
theorem r2 : waitS T3 1 0 = (T4, 0) := by kernel_rfl
theorem g4 : TG T4 3 := g3.wait _ _
theorem r3 : runS T4.S = 2 := by kernel_rfl
def T5 : TS := (sendS T4 2 1 9 true 2).1
theorem r4 : sendS T4 2 1 9 true 2 = (T5, 0) := by kernel_rfl
theorem g5 : TG T5 4 := g4.send _ _ _ _ _
theorem r5 : runS T5.S = -1 := by kernel_rfl
def T6 : TS := (takeT T5 1).1
theorem r6 : takeT T5 1 = (T6, ⟨2, 9, true⟩, 0) := by kernel_rfl
theorem g6 : TG T6 5 := g5.take _
theorem r7 : runS T6.S = 1 := by kernel_rfl
theorem r8 : T6.told = [⟨1, 0⟩] := by kernel_rfl
def T7 : TS := toldT T6
theorem g7 : TG T7 5 := g6.tolds
def T8 : TS := tickT T7
theorem r9 : runS T8.S = 1 := by kernel_rfl
theorem g8 : TG T8 6 := g7.tick
def T9 : TS := tickT T8
theorem r10 : runS T9.S = 1 := by kernel_rfl
theorem g9 : TG T9 7 := g8.tick
theorem r11 : T9.told = [⟨2, 14⟩] := by kernel_rfl
def T10 : TS := toldT T9
theorem g10 : TG T10 7 := g9.tolds
def T11 : TS := (sendS T10 2 1 9 true 0).1
theorem r12 : sendS T10 2 1 9 true 0 = (T11, 0) := by kernel_rfl
theorem g11 : TG T11 8 := g10.send _ _ _ _ _
def T12 : TS := (takeT T11 1).1
theorem r13 : takeT T11 1 = (T12, ⟨2, 9, true⟩, 0) := by kernel_rfl
theorem g12 : TG T12 9 := g11.take _
def T13 : TS := (answerS T12 1).1
theorem r14 : answerS T12 1 = (T13, 2, 0) := by kernel_rfl
theorem g13 : TG T13 10 := g12.answer _
def T14 : TS := (sendS T13 2 1 9 false 0).1
theorem r15 : sendS T13 2 1 9 false 0 = (T14, 0) := by kernel_rfl
theorem g14 : TG T14 11 := g13.send _ _ _ _ _
def T15 : TS := (removeS T14 1).1
theorem r16 : removeS T14 1 = (T15, 0) := by kernel_rfl
theorem g15 : TG T15 12 := g14.remove _
theorem r17 : T15.told = [⟨2, 0⟩, ⟨2, 13⟩] := by kernel_rfl
def T16 : TS := toldT T15
theorem g16 : TG T16 12 := g15.tolds
def T17 : TS := (stopS T16 2).1
theorem r18 : stopS T16 2 = (T17, 0) := by kernel_rfl
theorem g17 : TG T17 13 := g16.stop _
theorem s1 : stT T16 1 = -1 := by kernel_rfl
theorem s2 : stT T16 2 = 0 := by kernel_rfl
theorem s3 : stT T17 2 = 4 := by kernel_rfl

set_option maxRecDepth 4000 in
set_option maxHeartbeats 4000000 in
theorem alive_ok  : FSpec Try.prog 9 [] noRd [] (fun _ : Unit => .bool true) (fun _ => True) (fun _ => []) := by
  refine FSpec.intro (rs := [.tmp 0]) (by kernel_rfl) Try.func9 rfl Try.ntmps9 (by rfl) rfl ?_
  intro F _
  change TC _ _ _ _ _ _ _ (sepL [_])
  refine TC.seq ?_
  refine TC.region ?_
  refine q rfl rfl (asg (v := .bool _) rfl) ?_
  refine TL.nil (nt ?_)
  refine TC.seq ?_
  refine TC.region ?_
  refine e rfl ?_
  refine cl tnew_ok rfl (picked_nil _) trivial ?_
  intro a _
  change TL _ _ _ _ _ _ _ _ (sepL [_, _])
  refine q rfl rfl (asg (v := .pointer _) rfl) ?_
  refine TL.nil (nt ?_)
  refine TC.seq ?_
  refine TC.region ?_
  refine q rfl rfl (mv (v := .pointer _) rfl) ?_
  refine e rfl ?_
  refine bs (cs := [.int _ _, .int _ _, .int _ _]) rfl ?_
  intro b1
  refine e rfl ?_
  refine cl (tadd_ok a t0 (some ⟨b1, 0, none⟩) _ [1, 2, 2] (by decide) (by decide)) rfl PkL.p ⟨_, RdSI.rd (ad := some ⟨b1, 0, none⟩)⟩ ?_
  intro _ _
  change TL _ _ _ _ _ _ _ _ (sepL [_, _, _])
  rw [show addL t0 [1, 2, 2] = T1 from rfl, n1, show t0.m.ids.length = 0 from rfl]
  refine q rfl rfl (asg (v := .int _ _) rfl) ?_
  refine TL.nil (nt ?_)
  refine TC.seq ?_
  refine TC.region ?_
  refine q rfl rfl (mv (v := .pointer _) rfl) ?_
  refine e rfl ?_
  refine cl (tstart_ok a T1 g1.p (g1.tb (by decide)) 1 3 5) rfl PkL.p trivial ?_
  intro _ _
  change TL _ _ _ _ _ _ _ _ (sepL [_, _, _])
  rw [r0]
  dsimp only
  refine q rfl rfl (mv (v := .pointer _) rfl) ?_
  refine e rfl ?_
  refine cl (tstart_ok a T2 g2.p (g2.tb (by decide)) 2 3 5) rfl PkL.p trivial ?_
  intro _ _
  change TL _ _ _ _ _ _ _ _ (sepL [_, _, _])
  rw [r1]
  dsimp only
  refine q rfl rfl (asg (v := .int _ _) rfl) ?_
  refine q rfl rfl (asg (v := .int _ _) rfl) ?_
  refine TL.nil (nt ?_)
  refine TC.seq ?_
  refine TC.region ?_
  refine q rfl rfl (mv (v := .pointer _) rfl) ?_
  refine e rfl ?_
  refine cl (twait_ok a T3 g3.p (g3.tb (by decide)) 1 0) rfl PkL.p trivial ?_
  intro _ _
  change TL _ _ _ _ _ _ _ _ (sepL [_, _, _])
  rw [r2]
  dsimp only
  refine q rfl rfl (asg (v := .int _ _) rfl) ?_
  refine TL.nil (nt ?_)
  refine TC.seq ?_
  refine TC.region ?_
  refine q rfl rfl (mv (v := .pointer _) rfl) ?_
  refine e rfl ?_
  refine cl (trun_ok a T4 g4.p (g4.tb (by decide))) rfl PkL.p trivial ?_
  intro _ _
  change TL _ _ _ _ _ _ _ _ (sepL [_, _, _])
  rw [r3]
  refine q rfl rfl (asg (v := .int _ _) rfl) ?_
  refine TL.nil (nt ?_)
  refine TC.seq ?_
  refine TC.region ?_
  refine q rfl rfl (mv (v := .pointer _) rfl) ?_
  refine e rfl ?_
  refine cl (tsend_ok a T4 g4.p (g4.tb (by decide)) 2 1 9 true 2) rfl PkL.p trivial ?_
  intro _ _
  change TL _ _ _ _ _ _ _ _ (sepL [_, _, _])
  rw [r4]
  dsimp only
  refine q rfl rfl (asg (v := .int _ _) rfl) ?_
  refine TL.nil (nt ?_)
  refine TC.seq ?_
  refine TC.region ?_
  refine q rfl rfl (mv (v := .pointer _) rfl) ?_
  refine e rfl ?_
  refine cl (trun_ok a T5 g5.p (g5.tb (by decide))) rfl PkL.p trivial ?_
  intro _ _
  change TL _ _ _ _ _ _ _ _ (sepL [_, _, _])
  rw [r5]
  refine q rfl rfl (asg (v := .int _ _) rfl) ?_
  refine TL.nil (nt ?_)
  refine TC.seq ?_
  refine TC.region ?_
  refine q rfl rfl (mv (v := .pointer _) rfl) ?_
  refine e rfl ?_
  refine cl (ttake_ok a T5 g5.p (g5.tb (by decide)) 1 (g5.tl (by decide))) rfl PkL.p trivial ?_
  intro _ _
  change TL _ _ _ _ _ _ _ _ (sepL [_, _, _])
  rw [r6]
  dsimp only
  refine q rfl rfl (mv (v := .tuple _) rfl) ?_
  refine q rfl rfl (pu (v := .agg #[_, _, _]) (fun _ => rfl)) ?_
  refine q rfl rfl (pu (v := .int _ _) (fun _ => rfl)) ?_
  refine e rfl ?_
  refine al (l := [.int _ _, .int _ _, .bool _]) rfl rfl ?_
  intro b2
  refine e0 ?_
  refine st (v := .agg #[_, _, _]) (vs := [_, _, _]) 3 rfl rfl rfl rfl rfl rfl (Nat.le_of_ble_eq_true rfl) rfl ?_
  refine q rfl rfl (asg (v := .int _ _) rfl) ?_
  refine TL.nil (nt ?_)
  refine TC.seq ?_
  refine TC.region ?_
  refine q rfl rfl (mv (v := .pointer _) rfl) ?_
  refine e rfl ?_
  refine cl (trun_ok a T6 g6.p (g6.tb (by decide))) rfl PkL.p trivial ?_
  intro _ _
  change TL _ _ _ _ _ _ _ _ (sepL [_, _, _, _])
  rw [r7]
  refine q rfl rfl (asg (v := .int _ _) rfl) ?_
  refine TL.nil (nt ?_)
  refine TC.seq ?_
  refine TC.region ?_
  refine q rfl rfl (mv (v := .pointer _) rfl) ?_
  refine e rfl ?_
  refine cl (ttold_ok a T6) rfl PkL.p trivial ?_
  intro y6 _
  change TL _ _ _ _ _ _ _ _ (sepL [_, _, _, _, _])
  rw [r8, show toldT T6 = T7 from rfl]
  refine q rfl rfl (asg (v := .slice _ _ _) rfl) ?_
  refine TL.nil (nt ?_)
  refine TC.seq ?_
  refine TC.region ?_
  refine q rfl rfl (mv (v := .pointer _) rfl) ?_
  refine e rfl ?_
  refine cl (ttick_ok a T7 g7.p (g7.tb (by decide)) (g7.tl (by decide)) (g7.nw (by decide))) rfl PkL.p trivial ?_
  intro _ _
  change TL _ _ _ _ _ _ _ _ (sepL [_, _, _, _, _])
  rw [show tickT T7 = T8 from rfl, r9]
  refine q rfl rfl (mv (v := .pointer _) rfl) ?_
  refine e rfl ?_
  refine cl (ttick_ok a T8 g8.p (g8.tb (by decide)) (g8.tl (by decide)) (g8.nw (by decide))) rfl PkL.p trivial ?_
  intro _ _
  change TL _ _ _ _ _ _ _ _ (sepL [_, _, _, _, _])
  rw [show tickT T8 = T9 from rfl, r10]
  refine q rfl rfl (asg (v := .int _ _) rfl) ?_
  refine q rfl rfl (asg (v := .int _ _) rfl) ?_
  refine TL.nil (nt ?_)
  refine TC.seq ?_
  refine TC.region ?_
  refine q rfl rfl (mv (v := .pointer _) rfl) ?_
  refine e rfl ?_
  refine cl (ttold_ok a T9) rfl PkL.p trivial ?_
  intro y9 _
  change TL _ _ _ _ _ _ _ _ (sepL [_, _, _, _, _, _])
  rw [r11, show toldT T9 = T10 from rfl]
  refine q rfl rfl (asg (v := .slice _ _ _) rfl) ?_
  refine TL.nil (nt ?_)
  refine TC.seq ?_
  refine TC.region ?_
  refine q rfl rfl (mv (v := .pointer _) rfl) ?_
  refine e rfl ?_
  refine cl (tsend_ok a T10 g10.p (g10.tb (by decide)) 2 1 9 true 0) rfl PkL.p trivial ?_
  intro _ _
  change TL _ _ _ _ _ _ _ _ (sepL [_, _, _, _, _, _])
  rw [r12]
  dsimp only
  refine q rfl rfl (asg (v := .int _ _) rfl) ?_
  refine TL.nil (nt ?_)
  refine TC.seq ?_
  refine TC.region ?_
  refine q rfl rfl (mv (v := .pointer _) rfl) ?_
  refine e rfl ?_
  refine cl (ttake_ok a T11 g11.p (g11.tb (by decide)) 1 (g11.tl (by decide))) rfl PkL.p trivial ?_
  intro _ _
  change TL _ _ _ _ _ _ _ _ (sepL [_, _, _, _, _, _])
  rw [r13]
  dsimp only
  refine q rfl rfl (mv (v := .tuple _) rfl) ?_
  refine q rfl rfl (pu (v := .agg #[_, _, _]) (fun _ => rfl)) ?_
  refine q rfl rfl (pu (v := .int _ _) (fun _ => rfl)) ?_
  refine e rfl ?_
  refine al (l := [.int _ _, .int _ _, .bool _]) rfl rfl ?_
  intro b3
  refine e0 ?_
  refine st (v := .agg #[_, _, _]) (vs := [_, _, _]) 3 rfl rfl rfl rfl rfl rfl (Nat.le_of_ble_eq_true rfl) rfl ?_
  refine q rfl rfl (asg (v := .int _ _) rfl) ?_
  refine TL.nil (nt ?_)
  refine TC.seq ?_
  refine TC.region ?_
  refine q rfl rfl (mv (v := .pointer _) rfl) ?_
  refine e rfl ?_
  refine cl (tanswer_ok a T12 g12.p (g12.tb (by decide)) 1) rfl PkL.p trivial ?_
  intro _ _
  change TL _ _ _ _ _ _ _ _ (sepL [_, _, _, _, _, _, _])
  rw [r14]
  dsimp only
  refine q rfl rfl (mv (v := .tuple _) rfl) ?_
  refine q rfl rfl (pu (v := .int _ _) (fun _ => rfl)) ?_
  refine q rfl rfl (pu (v := .int _ _) (fun _ => rfl)) ?_
  refine q rfl rfl (asg (v := .int _ _) rfl) ?_
  refine q rfl rfl (asg (v := .int _ _) rfl) ?_
  refine TL.nil (nt ?_)
  refine TC.seq ?_
  refine TC.region ?_
  refine q rfl rfl (mv (v := .pointer _) rfl) ?_
  refine e rfl ?_
  refine cl (tsend_ok a T13 g13.p (g13.tb (by decide)) 2 1 9 false 0) rfl PkL.p trivial ?_
  intro _ _
  change TL _ _ _ _ _ _ _ _ (sepL [_, _, _, _, _, _, _])
  rw [r15]
  dsimp only
  refine q rfl rfl (asg (v := .int _ _) rfl) ?_
  refine TL.nil (nt ?_)
  refine TC.seq ?_
  refine TC.region ?_
  refine q rfl rfl (mv (v := .pointer _) rfl) ?_
  refine e rfl ?_
  refine cl (tremove_ok a T14 g14.p (g14.tb (by decide)) 1 (g14.tl (by decide))) rfl PkL.p trivial ?_
  intro _ _
  change TL _ _ _ _ _ _ _ _ (sepL [_, _, _, _, _, _, _])
  rw [r16]
  dsimp only
  refine q rfl rfl (asg (v := .int _ _) rfl) ?_
  refine TL.nil (nt ?_)
  refine TC.seq ?_
  refine TC.region ?_
  refine q rfl rfl (mv (v := .pointer _) rfl) ?_
  refine e rfl ?_
  refine cl (ttold_ok a T15) rfl PkL.p trivial ?_
  intro y15 _
  change TL _ _ _ _ _ _ _ _ (sepL [_, _, _, _, _, _, _, _])
  rw [r17, show toldT T15 = T16 from rfl]
  refine q rfl rfl (asg (v := .slice _ _ _) rfl) ?_
  refine TL.nil (nt ?_)
  refine TC.seq ?_
  refine TC.region ?_
  refine q rfl rfl (mv (v := .int _ _) rfl) ?_
  refine q rfl rfl (eqI rfl rfl) ?_
  refine q rfl rfl (mv (v := .bool _) rfl) ?_
  refine TL.known 75 rfl (c := true) (by decide) ?_
  refine qg rfl rfl rfl (mv (v := .int _ _) rfl) ?_
  refine qg rfl rfl rfl (eqI rfl rfl) ?_
  first | refine q rfl rfl (pkT (v := .bool _) rfl rfl) ?_ | refine q rfl rfl (pkF (v := .bool _) rfl rfl) ?_
  refine q rfl rfl (mv (v := .bool _) rfl) ?_
  refine TL.known 79 rfl (c := true) (by decide) ?_
  refine qg rfl rfl rfl (mv (v := .int _ _) rfl) ?_
  refine qg rfl rfl rfl (eqI rfl rfl) ?_
  first | refine q rfl rfl (pkT (v := .bool _) rfl rfl) ?_ | refine q rfl rfl (pkF (v := .bool _) rfl rfl) ?_
  refine q rfl rfl (mv (v := .bool _) rfl) ?_
  refine TL.known 83 rfl (c := true) (by decide) ?_
  refine qg rfl rfl rfl (mv (v := .int _ _) rfl) ?_
  refine qg rfl rfl rfl (eqI rfl rfl) ?_
  first | refine q rfl rfl (pkT (v := .bool _) rfl rfl) ?_ | refine q rfl rfl (pkF (v := .bool _) rfl rfl) ?_
  refine q rfl rfl (mv (v := .bool _) rfl) ?_
  refine TL.known 87 rfl (c := true) (by decide) ?_
  refine qg rfl rfl rfl (mv (v := .int _ _) rfl) ?_
  refine qg rfl rfl rfl (eqI rfl rfl) ?_
  first | refine q rfl rfl (pkT (v := .bool _) rfl rfl) ?_ | refine q rfl rfl (pkF (v := .bool _) rfl rfl) ?_
  refine q rfl rfl (mv (v := .bool _) rfl) ?_
  refine TL.known 91 rfl (c := true) (by decide) ?_
  refine qg rfl rfl rfl (mv (v := .int _ _) rfl) ?_
  refine qg rfl rfl rfl (eqI rfl rfl) ?_
  first | refine q rfl rfl (pkT (v := .bool _) rfl rfl) ?_ | refine q rfl rfl (pkF (v := .bool _) rfl rfl) ?_
  refine q rfl rfl (mv (v := .bool _) rfl) ?_
  refine TL.known 95 rfl (c := true) (by decide) ?_
  refine qg rfl rfl rfl (mv (v := .int _ _) rfl) ?_
  refine qg rfl rfl rfl (eqI rfl rfl) ?_
  first | refine q rfl rfl (pkT (v := .bool _) rfl rfl) ?_ | refine q rfl rfl (pkF (v := .bool _) rfl rfl) ?_
  refine q rfl rfl (mv (v := .bool _) rfl) ?_
  refine TL.known 99 rfl (c := true) (by decide) ?_
  refine qg rfl rfl rfl (mv (v := .int _ _) rfl) ?_
  refine qg rfl rfl rfl (eqI rfl rfl) ?_
  first | refine q rfl rfl (pkT (v := .bool _) rfl rfl) ?_ | refine q rfl rfl (pkF (v := .bool _) rfl rfl) ?_
  refine q rfl rfl (mv (v := .bool _) rfl) ?_
  refine TL.known 103 rfl (c := true) (by decide) ?_
  first | refine qg rfl rfl rfl (ldN (vs := [_, _, _]) 3 rfl rfl rfl rfl) ?_ | refine qg rfl rfl rfl (ldSN (vs := [_, _, _]) 3 rfl rfl rfl rfl (by decide)) ?_
  first | refine qg rfl rfl rfl (bld (cs := [.int _ _, .int _ _, .bool _]) rfl) ?_ | refine qg rfl rfl rfl (bld (cs := [_, _, _]) rfl) ?_
  refine qg rfl rfl rfl (eqO (by kernel_rfl) rfl rfl) ?_
  first | refine q rfl rfl (pkT (v := .bool _) rfl rfl) ?_ | refine q rfl rfl (pkF (v := .bool _) rfl rfl) ?_
  refine q rfl rfl (mv (v := .bool _) rfl) ?_
  refine TL.known 108 rfl (c := true) (by decide) ?_
  refine qg rfl rfl rfl (mv (v := .int _ _) rfl) ?_
  refine qg rfl rfl rfl (eqI rfl rfl) ?_
  first | refine q rfl rfl (pkT (v := .bool _) rfl rfl) ?_ | refine q rfl rfl (pkF (v := .bool _) rfl rfl) ?_
  refine q rfl rfl (mv (v := .bool _) rfl) ?_
  refine TL.known 112 rfl (c := true) (by decide) ?_
  refine qg rfl rfl rfl (mv (v := .slice _ _ _) rfl) ?_
  first | refine qg rfl rfl rfl (bld (cs := [.int _ _, .int _ _]) rfl) ?_ | refine qg rfl rfl rfl (bld (cs := [_, _]) rfl) ?_
  refine eg rfl rfl ?_
  refine bs (cs := [.int _ _, .int _ _]) rfl ?_
  intro b4
  refine eg rfl rfl ?_
  refine cl (tsame_ok y6.1 _ [⟨1, 0⟩] (some ⟨b4, 0, none⟩) _ [⟨1, 0⟩] (by decide)) rfl (picked_nil _) ⟨⟨_, RdSI.rd (ad := y6.1)⟩, ⟨_, RdSI.rd (ad := some ⟨b4, 0, none⟩)⟩⟩ ?_
  intro _ _
  change TL _ _ _ _ _ _ _ _ (sepL [_, _, _, _, _, _, _, _, _])
  rw [decide_eq_true (rfl : ([⟨1, 0⟩] : List Tg) = [⟨1, 0⟩])]
  first | refine q rfl rfl (pkT (v := .bool _) rfl rfl) ?_ | refine q rfl rfl (pkF (v := .bool _) rfl rfl) ?_
  refine q rfl rfl (mv (v := .bool _) rfl) ?_
  refine TL.known 118 rfl (c := true) (by decide) ?_
  refine qg rfl rfl rfl (mv (v := .int _ _) rfl) ?_
  refine qg rfl rfl rfl (eqI rfl rfl) ?_
  first | refine q rfl rfl (pkT (v := .bool _) rfl rfl) ?_ | refine q rfl rfl (pkF (v := .bool _) rfl rfl) ?_
  refine q rfl rfl (mv (v := .bool _) rfl) ?_
  refine TL.known 122 rfl (c := true) (by decide) ?_
  refine qg rfl rfl rfl (mv (v := .int _ _) rfl) ?_
  refine qg rfl rfl rfl (eqI rfl rfl) ?_
  first | refine q rfl rfl (pkT (v := .bool _) rfl rfl) ?_ | refine q rfl rfl (pkF (v := .bool _) rfl rfl) ?_
  refine q rfl rfl (mv (v := .bool _) rfl) ?_
  refine TL.known 126 rfl (c := true) (by decide) ?_
  refine qg rfl rfl rfl (mv (v := .slice _ _ _) rfl) ?_
  first | refine qg rfl rfl rfl (bld (cs := [.int _ _, .int _ _]) rfl) ?_ | refine qg rfl rfl rfl (bld (cs := [_, _]) rfl) ?_
  refine eg rfl rfl ?_
  refine bs (cs := [.int _ _, .int _ _]) rfl ?_
  intro b5
  refine eg rfl rfl ?_
  refine cl (tsame_ok y9.1 _ [⟨2, 14⟩] (some ⟨b5, 0, none⟩) _ [⟨2, 14⟩] (by decide)) rfl (picked_nil _) ⟨⟨_, RdSI.rd (ad := y9.1)⟩, ⟨_, RdSI.rd (ad := some ⟨b5, 0, none⟩)⟩⟩ ?_
  intro _ _
  change TL _ _ _ _ _ _ _ _ (sepL [_, _, _, _, _, _, _, _, _, _])
  rw [decide_eq_true (rfl : ([⟨2, 14⟩] : List Tg) = [⟨2, 14⟩])]
  first | refine q rfl rfl (pkT (v := .bool _) rfl rfl) ?_ | refine q rfl rfl (pkF (v := .bool _) rfl rfl) ?_
  refine q rfl rfl (mv (v := .bool _) rfl) ?_
  refine TL.known 132 rfl (c := true) (by decide) ?_
  refine qg rfl rfl rfl (mv (v := .int _ _) rfl) ?_
  refine qg rfl rfl rfl (eqI rfl rfl) ?_
  first | refine q rfl rfl (pkT (v := .bool _) rfl rfl) ?_ | refine q rfl rfl (pkF (v := .bool _) rfl rfl) ?_
  refine q rfl rfl (mv (v := .bool _) rfl) ?_
  refine TL.known 136 rfl (c := true) (by decide) ?_
  refine qg rfl rfl rfl (mv (v := .int _ _) rfl) ?_
  refine qg rfl rfl rfl (eqI rfl rfl) ?_
  first | refine q rfl rfl (pkT (v := .bool _) rfl rfl) ?_ | refine q rfl rfl (pkF (v := .bool _) rfl rfl) ?_
  refine q rfl rfl (mv (v := .bool _) rfl) ?_
  refine TL.known 140 rfl (c := true) (by decide) ?_
  refine qg rfl rfl rfl (mv (v := .int _ _) rfl) ?_
  refine qg rfl rfl rfl (eqI rfl rfl) ?_
  first | refine q rfl rfl (pkT (v := .bool _) rfl rfl) ?_ | refine q rfl rfl (pkF (v := .bool _) rfl rfl) ?_
  refine q rfl rfl (mv (v := .bool _) rfl) ?_
  refine TL.known 144 rfl (c := true) (by decide) ?_
  refine qg rfl rfl rfl (mv (v := .int _ _) rfl) ?_
  refine qg rfl rfl rfl (eqI rfl rfl) ?_
  first | refine q rfl rfl (pkT (v := .bool _) rfl rfl) ?_ | refine q rfl rfl (pkF (v := .bool _) rfl rfl) ?_
  refine q rfl rfl (mv (v := .bool _) rfl) ?_
  refine TL.known 148 rfl (c := true) (by decide) ?_
  refine qg rfl rfl rfl (mv (v := .int _ _) rfl) ?_
  refine qg rfl rfl rfl (eqI rfl rfl) ?_
  first | refine q rfl rfl (pkT (v := .bool _) rfl rfl) ?_ | refine q rfl rfl (pkF (v := .bool _) rfl rfl) ?_
  refine q rfl rfl (mv (v := .bool _) rfl) ?_
  refine TL.known 152 rfl (c := true) (by decide) ?_
  refine qg rfl rfl rfl (mv (v := .int _ _) rfl) ?_
  refine qg rfl rfl rfl (eqI rfl rfl) ?_
  first | refine q rfl rfl (pkT (v := .bool _) rfl rfl) ?_ | refine q rfl rfl (pkF (v := .bool _) rfl rfl) ?_
  refine q rfl rfl (mv (v := .bool _) rfl) ?_
  refine TL.known 156 rfl (c := true) (by decide) ?_
  refine qg rfl rfl rfl (mv (v := .slice _ _ _) rfl) ?_
  first | refine qg rfl rfl rfl (bld (cs := [.int _ _, .int _ _]) rfl) ?_ | refine qg rfl rfl rfl (bld (cs := [_, _]) rfl) ?_
  first | refine qg rfl rfl rfl (bld (cs := [.int _ _, .int _ _]) rfl) ?_ | refine qg rfl rfl rfl (bld (cs := [_, _]) rfl) ?_
  refine eg rfl rfl ?_
  refine bs (cs := [.int _ _, .int _ _, .int _ _, .int _ _]) rfl ?_
  intro b6
  refine eg rfl rfl ?_
  refine cl (tsame_ok y15.1 _ [⟨2, 0⟩, ⟨2, 13⟩] (some ⟨b6, 0, none⟩) _ [⟨2, 0⟩, ⟨2, 13⟩] (by decide)) rfl (picked_nil _) ⟨⟨_, RdSI.rd (ad := y15.1)⟩, ⟨_, RdSI.rd (ad := some ⟨b6, 0, none⟩)⟩⟩ ?_
  intro _ _
  change TL _ _ _ _ _ _ _ _ (sepL [_, _, _, _, _, _, _, _, _, _, _])
  rw [decide_eq_true (rfl : ([⟨2, 0⟩, ⟨2, 13⟩] : List Tg) = [⟨2, 0⟩, ⟨2, 13⟩])]
  first | refine q rfl rfl (pkT (v := .bool _) rfl rfl) ?_ | refine q rfl rfl (pkF (v := .bool _) rfl rfl) ?_
  refine q rfl rfl (mv (v := .bool _) rfl) ?_
  refine TL.known 163 rfl (c := true) (by decide) ?_
  refine qg rfl rfl rfl (mv (v := .pointer _) rfl) ?_
  refine eg rfl rfl ?_
  refine cl (tstate_ok a T16 1) rfl PkL.p trivial ?_
  intro _ _
  change TL _ _ _ _ _ _ _ _ (sepL [_, _, _, _, _, _, _, _, _, _, _])
  rw [s1]
  refine qg rfl rfl rfl (eqI rfl rfl) ?_
  first | refine q rfl rfl (pkT (v := .bool _) rfl rfl) ?_ | refine q rfl rfl (pkF (v := .bool _) rfl rfl) ?_
  refine q rfl rfl (mv (v := .bool _) rfl) ?_
  refine TL.known 168 rfl (c := true) (by decide) ?_
  refine qg rfl rfl rfl (mv (v := .pointer _) rfl) ?_
  refine eg rfl rfl ?_
  refine cl (tstate_ok a T16 2) rfl PkL.p trivial ?_
  intro _ _
  change TL _ _ _ _ _ _ _ _ (sepL [_, _, _, _, _, _, _, _, _, _, _])
  rw [s2]
  refine qg rfl rfl rfl (eqI rfl rfl) ?_
  first | refine q rfl rfl (pkT (v := .bool _) rfl rfl) ?_ | refine q rfl rfl (pkF (v := .bool _) rfl rfl) ?_
  refine q rfl rfl (mv (v := .bool _) rfl) ?_
  refine TL.known 173 rfl (c := true) (by decide) ?_
  refine qg rfl rfl rfl (mv (v := .pointer _) rfl) ?_
  refine eg rfl rfl ?_
  refine cl (tstop_ok a T16 g16.p (g16.tb (by decide)) 2) rfl PkL.p trivial ?_
  intro _ _
  change TL _ _ _ _ _ _ _ _ (sepL [_, _, _, _, _, _, _, _, _, _, _])
  rw [r18]
  dsimp only
  refine qg rfl rfl rfl (eqI rfl rfl) ?_
  first | refine q rfl rfl (pkT (v := .bool _) rfl rfl) ?_ | refine q rfl rfl (pkF (v := .bool _) rfl rfl) ?_
  refine q rfl rfl (mv (v := .bool _) rfl) ?_
  refine TL.known 178 rfl (c := true) (by decide) ?_
  refine qg rfl rfl rfl (mv (v := .pointer _) rfl) ?_
  refine eg rfl rfl ?_
  refine cl (tstate_ok a T17 2) rfl PkL.p trivial ?_
  intro _ _
  change TL _ _ _ _ _ _ _ _ (sepL [_, _, _, _, _, _, _, _, _, _, _])
  rw [s3]
  refine qg rfl rfl rfl (eqI rfl rfl) ?_
  first | refine q rfl rfl (pkT (v := .bool _) rfl rfl) ?_ | refine q rfl rfl (pkF (v := .bool _) rfl rfl) ?_
  refine q rfl rfl (asg (v := .bool _) rfl) ?_
  refine TL.nil (nt ?_)
  refine TC.ret ?_
  exact Ret.i () [_] ⟨rfl, trivial⟩ rfl trivial (by repeat (first | exact ent_nil _ | refine ent_take 0 rfl ?_ | refine ent_take 1 rfl ?_ | refine ent_take 2 rfl ?_ | refine ent_take 3 rfl ?_ | refine ent_take 4 rfl ?_ | refine ent_take 5 rfl ?_ | refine ent_take 6 rfl ?_ | refine ent_take 7 rfl ?_ | refine ent_take 8 rfl ?_ | refine ent_take 9 rfl ?_ | refine ent_take 10 rfl ?_ | refine ent_take 11 rfl ?_ | refine ent_take 12 rfl ?_))

end Go.Proofs.Ytdfmfhcjnjfjbaa
