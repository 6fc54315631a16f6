/-
  Proved here: what functions of this program compute, each as a contract over symbolic states, under the premises that each theorem names (most lines printed by a program of the prover).
-/
import Derived.Test.YtgmniphegombhaaMtE
import Derived.Test.YtgmniphegombhaaQLibM
namespace Go.Proofs.Ytgmniphegombhaa
open Go Go.QM
theorem WM.joinL (xs : List Int) : ∀ {s : MS}, WM s → WM (joinL s xs) := by
  induction xs with
  | nil => exact fun h => h
  | cons x xs ih => intro s h; exact ih (h.join x)
def a1 : MS := joinL s0 [1, 2, 3, 3, -1]
def a2 : MS := (offS a1 1 ⟨2, 7, true⟩).1
def a3 : MS := (offS a2 1 ⟨3, 7, false⟩).1
def a4 : MS := (takeS a3 1).1
def a5 : MS := (takeS a4 1).1
def a6 : MS := (offS a5 1 ⟨3, 8, true⟩).1
def a7 : MS := (takeS a6 1).1
def a8 : MS := (ansS a7 1).1
def a9 : MS := (openS a8 1).1
def a10 : MS := (leaveS a9 1).1
theorem w1 : WM a1 := WM.joinL _ WM.zero
theorem w2 : WM a2 := w1.offer _ _
theorem w3 : WM a3 := w2.offer _ _
theorem w4 : WM a4 := w3.take _
theorem w5 : WM a5 := w4.take _
theorem w6 : WM a6 := w5.offer _ _
theorem w7 : WM a7 := w6.take _
theorem w8 : WM a8 := w7.answer _
theorem w9 : WM a9 := w8.opens _
theorem w10 : WM a10 := w9.leave _
theorem l1 : a1.ids.length = 3 := by kernel_rfl
theorem l2 : a2.ids.length = 3 := by kernel_rfl
theorem l5 : a5.ids.length = 3 := by kernel_rfl
theorem l9 : a9.ids.length = 3 := by kernel_rfl
theorem l10 : a10.ids.length = 2 := by kernel_rfl
theorem v2 : offS a1 1 ⟨2, 7, true⟩ = (a2, 0) := by kernel_rfl
theorem v3 : offS a2 1 ⟨3, 7, false⟩ = (a3, 0) := by kernel_rfl
theorem v4 : takeS a3 1 = (a4, ⟨2, 7, true⟩, -1, 0) := by kernel_rfl
theorem v4s : stR a4 2 = 3 := by kernel_rfl
theorem v4c : clR a4 1 = 2 := by kernel_rfl
theorem v5 : takeS a4 1 = (a5, ⟨3, 7, false⟩, -1, 0) := by kernel_rfl
theorem v6 : offS a5 1 ⟨3, 8, true⟩ = (a6, 0) := by kernel_rfl
theorem v7 : takeS a6 1 = (a7, ⟨3, 8, true⟩, 2, 0) := by kernel_rfl
theorem v8 : ansS a7 1 = (a8, 3, 0) := by kernel_rfl
theorem v9 : openS a8 1 = (a9, 0) := by kernel_rfl
theorem v9o : offS a9 2 ⟨1, 0, false⟩ = (a9, 12) := by kernel_rfl
theorem v10 : leaveS a9 1 = (a10, [], 0) := by kernel_rfl
theorem v10s : stR a10 1 = -1 := by kernel_rfl
theorem v10o : offS a10 1 ⟨2, 0, false⟩ = (a10, 6) := by kernel_rfl

set_option maxRecDepth 4000 in
set_option maxHeartbeats 4000000 in
theorem alive_ok  : FSpec Try.prog 9 [] noRd [] (fun _ : Unit => .bool true) (fun _ => True) (fun _ => []) := by
  refine FSpec.intro (rs := [.tmp 0]) (by kernel_rfl) Try.func9 rfl Try.ntmps9 (by rfl) rfl ?_
  intro F _
  change TC _ _ _ _ _ _ _ (sepL [_])
  refine TC.seq ?_
  refine TC.region ?_
  refine q rfl rfl (asg (v := .bool _) rfl) ?_
  refine TL.nil (nt ?_)
  refine TC.seq ?_
  refine TC.region ?_
  refine e rfl ?_
  refine cl (mnew_ok (fun _ => 0)) rfl (picked_nil _) trivial ?_
  intro a _
  change TL _ _ _ _ _ _ _ _ (sepL [_, _])
  refine q rfl rfl (asg (v := .pointer _) rfl) ?_
  refine TL.nil (nt ?_)
  refine TC.seq ?_
  refine TC.region ?_
  refine q rfl rfl (mv (v := .pointer _) rfl) ?_
  refine e rfl ?_
  refine bs (E := 3) (sz := 1) (cs := ints [1, 2, 3, 3, -1]) (by kernel_rfl) ?_
  intro b1
  refine e rfl ?_
  refine cl (mjoin_ok a (fun _ => 0) s0 (some ⟨b1, 0, none⟩) _ [1, 2, 3, 3, -1] (by decide) (by decide)) rfl PkL.p ⟨_, RdSI.rd (ad := some ⟨b1, 0, none⟩)⟩ ?_
  intro A _
  change TL _ _ _ _ _ _ _ _ (sepL [_, _, _])
  rw [show joinL s0 [1, 2, 3, 3, -1] = a1 from rfl, l1, show s0.ids.length = 0 from rfl]
  refine q rfl rfl (asg (v := .int _ _) rfl) ?_
  refine TL.nil (nt ?_)
  refine TC.seq ?_
  refine TC.region ?_
  refine q rfl rfl (mv (v := .pointer _) rfl) ?_
  first | refine q rfl rfl (bld (cs := [.int _ _, .int _ _, .bool _]) rfl) ?_ | refine q rfl rfl (bld (cs := [_, _, _]) rfl) ?_
  refine e rfl ?_
  refine cl (moffer_ok a A a1 w1 1 ⟨2, 7, true⟩ (by rw [l1]; decide)) rfl PkL.p trivial ?_
  intro _ _
  change TL _ _ _ _ _ _ _ _ (sepL [_, _, _])
  rw [v2]
  dsimp only
  refine q rfl rfl (mv (v := .pointer _) rfl) ?_
  first | refine q rfl rfl (bld (cs := [.int _ _, .int _ _, .bool _]) rfl) ?_ | refine q rfl rfl (bld (cs := [_, _, _]) rfl) ?_
  refine e rfl ?_
  refine cl (moffer_ok a A a2 w2 1 ⟨3, 7, false⟩ (by rw [l2]; decide)) rfl PkL.p trivial ?_
  intro _ _
  change TL _ _ _ _ _ _ _ _ (sepL [_, _, _])
  rw [v3]
  dsimp only
  refine q rfl rfl (asg (v := .int _ _) rfl) ?_
  refine q rfl rfl (asg (v := .int _ _) rfl) ?_
  refine TL.nil (nt ?_)
  refine TC.seq ?_
  refine TC.region ?_
  refine q rfl rfl (mv (v := .pointer _) rfl) ?_
  refine e rfl ?_
  refine cl (mtake_ok a A a3 w3 1) rfl PkL.p trivial ?_
  intro _ _
  change TL _ _ _ _ _ _ _ _ (sepL [_, _, _])
  rw [v4]
  dsimp only
  refine q rfl rfl (mv (v := .tuple _) rfl) ?_
  refine q rfl rfl (pu (v := .agg #[_, _, _]) (fun _ => rfl)) ?_
  refine q rfl rfl (pu (v := .int _ _) (fun _ => rfl)) ?_
  refine q rfl rfl (pu (v := .int _ _) (fun _ => rfl)) ?_
  refine e rfl ?_
  refine al (l := [.int _ _, .int _ _, .bool _]) rfl rfl ?_
  intro b2
  refine e0 ?_
  refine st (v := .agg #[_, _, _]) (vs := [_, _, _]) 3 rfl rfl rfl rfl rfl rfl (Nat.le_of_ble_eq_true rfl) rfl ?_
  refine q rfl rfl (asg (v := .int _ _) rfl) ?_
  refine q rfl rfl (asg (v := .int _ _) rfl) ?_
  refine TL.nil (nt ?_)
  refine TC.seq ?_
  refine TC.region ?_
  refine q rfl rfl (mv (v := .pointer _) rfl) ?_
  refine e rfl ?_
  refine cl (mstate_ok a A a4 2) rfl PkL.p trivial ?_
  intro _ _
  change TL _ _ _ _ _ _ _ _ (sepL [_, _, _, _])
  rw [v4s]
  refine q rfl rfl (mv (v := .pointer _) rfl) ?_
  refine e rfl ?_
  refine cl (mcaller_ok a A a4 1) rfl PkL.p trivial ?_
  intro _ _
  change TL _ _ _ _ _ _ _ _ (sepL [_, _, _, _])
  rw [v4c]
  refine q rfl rfl (asg (v := .int _ _) rfl) ?_
  refine q rfl rfl (asg (v := .int _ _) rfl) ?_
  refine TL.nil (nt ?_)
  refine TC.seq ?_
  refine TC.region ?_
  refine q rfl rfl (mv (v := .pointer _) rfl) ?_
  refine e rfl ?_
  refine cl (mtake_ok a A a4 w4 1) rfl PkL.p trivial ?_
  intro _ _
  change TL _ _ _ _ _ _ _ _ (sepL [_, _, _, _])
  rw [v5]
  dsimp only
  refine q rfl rfl (mv (v := .tuple _) rfl) ?_
  refine q rfl rfl (pu (v := .agg #[_, _, _]) (fun _ => rfl)) ?_
  refine q rfl rfl (pu (v := .int _ _) (fun _ => rfl)) ?_
  refine q rfl rfl (pu (v := .int _ _) (fun _ => rfl)) ?_
  refine e rfl ?_
  refine al (l := [.int _ _, .int _ _, .bool _]) rfl rfl ?_
  intro b3
  refine e0 ?_
  refine st (v := .agg #[_, _, _]) (vs := [_, _, _]) 3 rfl rfl rfl rfl rfl rfl (Nat.le_of_ble_eq_true rfl) rfl ?_
  refine q rfl rfl (asg (v := .int _ _) rfl) ?_
  refine q rfl rfl (asg (v := .int _ _) rfl) ?_
  refine TL.nil (nt ?_)
  refine TC.seq ?_
  refine TC.region ?_
  refine q rfl rfl (mv (v := .pointer _) rfl) ?_
  first | refine q rfl rfl (bld (cs := [.int _ _, .int _ _, .bool _]) rfl) ?_ | refine q rfl rfl (bld (cs := [_, _, _]) rfl) ?_
  refine e rfl ?_
  refine cl (moffer_ok a A a5 w5 1 ⟨3, 8, true⟩ (by rw [l5]; decide)) rfl PkL.p trivial ?_
  intro _ _
  change TL _ _ _ _ _ _ _ _ (sepL [_, _, _, _, _])
  rw [v6]
  dsimp only
  refine q rfl rfl (asg (v := .int _ _) rfl) ?_
  refine TL.nil (nt ?_)
  refine TC.seq ?_
  refine TC.region ?_
  refine q rfl rfl (mv (v := .pointer _) rfl) ?_
  refine e rfl ?_
  refine cl (mtake_ok a A a6 w6 1) rfl PkL.p trivial ?_
  intro _ _
  change TL _ _ _ _ _ _ _ _ (sepL [_, _, _, _, _])
  rw [v7]
  dsimp only
  refine q rfl rfl (mv (v := .tuple _) rfl) ?_
  refine q rfl rfl (pu (v := .agg #[_, _, _]) (fun _ => rfl)) ?_
  refine q rfl rfl (pu (v := .int _ _) (fun _ => rfl)) ?_
  refine q rfl rfl (pu (v := .int _ _) (fun _ => rfl)) ?_
  refine e rfl ?_
  refine al (l := [.int _ _, .int _ _, .bool _]) rfl rfl ?_
  intro b4
  refine e0 ?_
  refine st (v := .agg #[_, _, _]) (vs := [_, _, _]) 3 rfl rfl rfl rfl rfl rfl (Nat.le_of_ble_eq_true rfl) rfl ?_
  refine q rfl rfl (asg (v := .int _ _) rfl) ?_
  refine q rfl rfl (asg (v := .int _ _) rfl) ?_
  refine TL.nil (nt ?_)
  refine TC.seq ?_
  refine TC.region ?_
  refine q rfl rfl (mv (v := .pointer _) rfl) ?_
  refine e rfl ?_
  refine cl (manswer_ok a A a7 w7 1) rfl PkL.p trivial ?_
  intro _ _
  change TL _ _ _ _ _ _ _ _ (sepL [_, _, _, _, _, _])
  rw [v8]
  dsimp only
  refine q rfl rfl (mv (v := .tuple _) rfl) ?_
  refine q rfl rfl (pu (v := .int _ _) (fun _ => rfl)) ?_
  refine q rfl rfl (pu (v := .int _ _) (fun _ => rfl)) ?_
  refine q rfl rfl (asg (v := .int _ _) rfl) ?_
  refine q rfl rfl (asg (v := .int _ _) rfl) ?_
  refine TL.nil (nt ?_)
  refine TC.seq ?_
  refine TC.region ?_
  refine q rfl rfl (mv (v := .pointer _) rfl) ?_
  refine e rfl ?_
  refine cl (mopen_ok a A a8 w8 1) rfl PkL.p trivial ?_
  intro _ _
  change TL _ _ _ _ _ _ _ _ (sepL [_, _, _, _, _, _])
  rw [v9]
  dsimp only
  refine q rfl rfl (asg (v := .int _ _) rfl) ?_
  refine TL.nil (nt ?_)
  refine TC.seq ?_
  refine TC.region ?_
  refine q rfl rfl (mv (v := .pointer _) rfl) ?_
  first | refine q rfl rfl (bld (cs := [.int _ _, .int _ _, .bool _]) rfl) ?_ | refine q rfl rfl (bld (cs := [_, _, _]) rfl) ?_
  refine e rfl ?_
  refine cl (moffer_ok a A a9 w9 2 ⟨1, 0, false⟩ (by rw [l9]; decide)) rfl PkL.p trivial ?_
  intro _ _
  change TL _ _ _ _ _ _ _ _ (sepL [_, _, _, _, _, _])
  rw [v9o]
  dsimp only
  refine q rfl rfl (asg (v := .int _ _) rfl) ?_
  refine TL.nil (nt ?_)
  refine TC.seq ?_
  refine TC.region ?_
  refine q rfl rfl (mv (v := .pointer _) rfl) ?_
  refine e rfl ?_
  refine cl (mleave_ok a A a9 w9 1 (by rw [l9]; decide)) rfl PkL.p trivial ?_
  intro y _
  change TL _ _ _ _ _ _ _ _ (sepL [_, _, _, _, _, _, _])
  rw [v10]
  dsimp only
  refine q rfl rfl (mv (v := .tuple _) rfl) ?_
  refine q rfl rfl (pu (v := .slice _ _ _) (fun _ => rfl)) ?_
  refine q rfl rfl (pu (v := .int _ _) (fun _ => rfl)) ?_
  refine q rfl rfl (asg (v := .slice _ _ _) rfl) ?_
  refine q rfl rfl (asg (v := .int _ _) rfl) ?_
  refine TL.nil (nt ?_)
  refine TC.seq ?_
  refine TC.region ?_
  refine q rfl rfl (mv (v := .int _ _) rfl) ?_
  refine q rfl rfl (eqI rfl rfl) ?_
  refine q rfl rfl (mv (v := .bool _) rfl) ?_
  refine TL.known 75 rfl (c := true) (by decide) ?_
  refine qg rfl rfl rfl (mv (v := .int _ _) rfl) ?_
  refine qg rfl rfl rfl (eqI rfl rfl) ?_
  first | refine q rfl rfl (pkT (v := .bool _) rfl rfl) ?_ | refine q rfl rfl (pkF (v := .bool _) rfl rfl) ?_
  refine q rfl rfl (mv (v := .bool _) rfl) ?_
  refine TL.known 79 rfl (c := true) (by decide) ?_
  refine qg rfl rfl rfl (mv (v := .int _ _) rfl) ?_
  refine qg rfl rfl rfl (eqI rfl rfl) ?_
  first | refine q rfl rfl (pkT (v := .bool _) rfl rfl) ?_ | refine q rfl rfl (pkF (v := .bool _) rfl rfl) ?_
  refine q rfl rfl (mv (v := .bool _) rfl) ?_
  refine TL.known 83 rfl (c := true) (by decide) ?_
  refine qg rfl rfl rfl (mv (v := .int _ _) rfl) ?_
  refine qg rfl rfl rfl (eqI rfl rfl) ?_
  first | refine q rfl rfl (pkT (v := .bool _) rfl rfl) ?_ | refine q rfl rfl (pkF (v := .bool _) rfl rfl) ?_
  refine q rfl rfl (mv (v := .bool _) rfl) ?_
  refine TL.known 87 rfl (c := true) (by decide) ?_
  first | refine qg rfl rfl rfl (ldN (vs := [_, _, _]) 3 rfl rfl rfl rfl) ?_ | refine qg rfl rfl rfl (ldSN (vs := [_, _, _]) 3 rfl rfl rfl rfl (by decide)) ?_
  first | refine qg rfl rfl rfl (bld (cs := [.int _ _, .int _ _, .bool _]) rfl) ?_ | refine qg rfl rfl rfl (bld (cs := [_, _, _]) rfl) ?_
  refine qg rfl rfl rfl (eqO (by kernel_rfl) rfl rfl) ?_
  first | refine q rfl rfl (pkT (v := .bool _) rfl rfl) ?_ | refine q rfl rfl (pkF (v := .bool _) rfl rfl) ?_
  refine q rfl rfl (mv (v := .bool _) rfl) ?_
  refine TL.known 92 rfl (c := true) (by decide) ?_
  refine qg rfl rfl rfl (mv (v := .int _ _) rfl) ?_
  refine qg rfl rfl rfl (eqI rfl rfl) ?_
  first | refine q rfl rfl (pkT (v := .bool _) rfl rfl) ?_ | refine q rfl rfl (pkF (v := .bool _) rfl rfl) ?_
  refine q rfl rfl (mv (v := .bool _) rfl) ?_
  refine TL.known 96 rfl (c := true) (by decide) ?_
  refine qg rfl rfl rfl (mv (v := .int _ _) rfl) ?_
  refine qg rfl rfl rfl (eqI rfl rfl) ?_
  first | refine q rfl rfl (pkT (v := .bool _) rfl rfl) ?_ | refine q rfl rfl (pkF (v := .bool _) rfl rfl) ?_
  refine q rfl rfl (mv (v := .bool _) rfl) ?_
  refine TL.known 100 rfl (c := true) (by decide) ?_
  refine qg rfl rfl rfl (mv (v := .int _ _) rfl) ?_
  refine qg rfl rfl rfl (eqI rfl rfl) ?_
  first | refine q rfl rfl (pkT (v := .bool _) rfl rfl) ?_ | refine q rfl rfl (pkF (v := .bool _) rfl rfl) ?_
  refine q rfl rfl (mv (v := .bool _) rfl) ?_
  refine TL.known 104 rfl (c := true) (by decide) ?_
  refine qg rfl rfl rfl (mv (v := .int _ _) rfl) ?_
  refine qg rfl rfl rfl (eqI rfl rfl) ?_
  first | refine q rfl rfl (pkT (v := .bool _) rfl rfl) ?_ | refine q rfl rfl (pkF (v := .bool _) rfl rfl) ?_
  refine q rfl rfl (mv (v := .bool _) rfl) ?_
  refine TL.known 108 rfl (c := true) (by decide) ?_
  first | refine qg rfl rfl rfl (fa 0 rfl rfl) ?_ | refine qg rfl rfl rfl (faS 0 rfl rfl (by first | assumption | (simp [ints_length] <;> omega))) ?_
  first | refine qg rfl rfl rfl (ld rfl rfl rfl) ?_ | refine qg rfl rfl rfl (ldS rfl rfl rfl) ?_
  refine qg rfl rfl rfl (eqI rfl rfl) ?_
  first | refine q rfl rfl (pkT (v := .bool _) rfl rfl) ?_ | refine q rfl rfl (pkF (v := .bool _) rfl rfl) ?_
  refine q rfl rfl (mv (v := .bool _) rfl) ?_
  refine TL.known 113 rfl (c := true) (by decide) ?_
  refine qg rfl rfl rfl (mv (v := .int _ _) rfl) ?_
  refine qg rfl rfl rfl (eqI rfl rfl) ?_
  first | refine q rfl rfl (pkT (v := .bool _) rfl rfl) ?_ | refine q rfl rfl (pkF (v := .bool _) rfl rfl) ?_
  refine q rfl rfl (mv (v := .bool _) rfl) ?_
  refine TL.known 117 rfl (c := true) (by decide) ?_
  refine qg rfl rfl rfl (mv (v := .int _ _) rfl) ?_
  refine qg rfl rfl rfl (eqI rfl rfl) ?_
  first | refine q rfl rfl (pkT (v := .bool _) rfl rfl) ?_ | refine q rfl rfl (pkF (v := .bool _) rfl rfl) ?_
  refine q rfl rfl (mv (v := .bool _) rfl) ?_
  refine TL.known 121 rfl (c := true) (by decide) ?_
  refine qg rfl rfl rfl (mv (v := .int _ _) rfl) ?_
  refine qg rfl rfl rfl (eqI rfl rfl) ?_
  first | refine q rfl rfl (pkT (v := .bool _) rfl rfl) ?_ | refine q rfl rfl (pkF (v := .bool _) rfl rfl) ?_
  refine q rfl rfl (mv (v := .bool _) rfl) ?_
  refine TL.known 125 rfl (c := true) (by decide) ?_
  refine qg rfl rfl rfl (mv (v := .int _ _) rfl) ?_
  refine qg rfl rfl rfl (eqI rfl rfl) ?_
  first | refine q rfl rfl (pkT (v := .bool _) rfl rfl) ?_ | refine q rfl rfl (pkF (v := .bool _) rfl rfl) ?_
  refine q rfl rfl (mv (v := .bool _) rfl) ?_
  refine TL.known 129 rfl (c := true) (by decide) ?_
  refine qg rfl rfl rfl (mv (v := .int _ _) rfl) ?_
  refine qg rfl rfl rfl (eqI rfl rfl) ?_
  first | refine q rfl rfl (pkT (v := .bool _) rfl rfl) ?_ | refine q rfl rfl (pkF (v := .bool _) rfl rfl) ?_
  refine q rfl rfl (mv (v := .bool _) rfl) ?_
  refine TL.known 133 rfl (c := true) (by decide) ?_
  refine qg rfl rfl rfl (mv (v := .int _ _) rfl) ?_
  refine qg rfl rfl rfl (eqI rfl rfl) ?_
  first | refine q rfl rfl (pkT (v := .bool _) rfl rfl) ?_ | refine q rfl rfl (pkF (v := .bool _) rfl rfl) ?_
  refine q rfl rfl (mv (v := .bool _) rfl) ?_
  refine TL.known 137 rfl (c := true) (by decide) ?_
  refine qg rfl rfl rfl (mv (v := .int _ _) rfl) ?_
  refine qg rfl rfl rfl (eqI rfl rfl) ?_
  first | refine q rfl rfl (pkT (v := .bool _) rfl rfl) ?_ | refine q rfl rfl (pkF (v := .bool _) rfl rfl) ?_
  refine q rfl rfl (mv (v := .bool _) rfl) ?_
  refine TL.known 141 rfl (c := true) (by decide) ?_
  refine qg rfl rfl rfl (mv (v := .int _ _) rfl) ?_
  refine qg rfl rfl rfl (eqI rfl rfl) ?_
  first | refine q rfl rfl (pkT (v := .bool _) rfl rfl) ?_ | refine q rfl rfl (pkF (v := .bool _) rfl rfl) ?_
  refine q rfl rfl (mv (v := .bool _) rfl) ?_
  refine TL.known 145 rfl (c := true) (by decide) ?_
  refine qg rfl rfl rfl (mv (v := .int _ _) rfl) ?_
  refine qg rfl rfl rfl (eqI rfl rfl) ?_
  first | refine q rfl rfl (pkT (v := .bool _) rfl rfl) ?_ | refine q rfl rfl (pkF (v := .bool _) rfl rfl) ?_
  refine q rfl rfl (mv (v := .bool _) rfl) ?_
  refine TL.known 149 rfl (c := true) (by decide) ?_
  refine qg rfl rfl rfl (mv (v := .slice _ _ _) rfl) ?_
  refine qg rfl rfl rfl (len 3 1 rfl rfl) ?_
  refine qg rfl rfl rfl (eqI rfl rfl) ?_
  first | refine q rfl rfl (pkT (v := .bool _) rfl rfl) ?_ | refine q rfl rfl (pkF (v := .bool _) rfl rfl) ?_
  refine q rfl rfl (mv (v := .bool _) rfl) ?_
  refine TL.known 154 rfl (c := true) (by decide) ?_
  refine qg rfl rfl rfl (mv (v := .pointer _) rfl) ?_
  refine eg rfl rfl ?_
  refine cl (mstate_ok a A a10 1) rfl PkL.p trivial ?_
  intro _ _
  change TL _ _ _ _ _ _ _ _ (sepL [_, _, _, _, _, _, _])
  rw [v10s]
  refine qg rfl rfl rfl (eqI rfl rfl) ?_
  first | refine q rfl rfl (pkT (v := .bool _) rfl rfl) ?_ | refine q rfl rfl (pkF (v := .bool _) rfl rfl) ?_
  refine q rfl rfl (mv (v := .bool _) rfl) ?_
  refine TL.known 159 rfl (c := true) (by decide) ?_
  refine qg rfl rfl rfl (mv (v := .pointer _) rfl) ?_
  first | refine qg rfl rfl rfl (bld (cs := [.int _ _, .int _ _, .bool _]) rfl) ?_ | refine qg rfl rfl rfl (bld (cs := [_, _, _]) rfl) ?_
  refine eg rfl rfl ?_
  refine cl (moffer_ok a A a10 w10 1 ⟨2, 0, false⟩ (by rw [l10]; decide)) rfl PkL.p trivial ?_
  intro _ _
  change TL _ _ _ _ _ _ _ _ (sepL [_, _, _, _, _, _, _])
  rw [v10o]
  dsimp only
  refine qg rfl rfl rfl (eqI rfl rfl) ?_
  first | refine q rfl rfl (pkT (v := .bool _) rfl rfl) ?_ | refine q rfl rfl (pkF (v := .bool _) rfl rfl) ?_
  refine q rfl rfl (asg (v := .bool _) rfl) ?_
  refine TL.nil (nt ?_)
  refine TC.ret ?_
  exact Ret.i () [_] ⟨rfl, trivial⟩ rfl trivial (by repeat (first | exact ent_nil _ | refine ent_take 0 rfl ?_ | refine ent_take 1 rfl ?_ | refine ent_take 2 rfl ?_ | refine ent_take 3 rfl ?_ | refine ent_take 4 rfl ?_ | refine ent_take 5 rfl ?_ | refine ent_take 6 rfl ?_ | refine ent_take 7 rfl ?_ | refine ent_take 8 rfl ?_ | refine ent_take 9 rfl ?_ | refine ent_take 10 rfl ?_ | refine ent_take 11 rfl ?_ | refine ent_take 12 rfl ?_))

end Go.Proofs.Ytgmniphegombhaa
