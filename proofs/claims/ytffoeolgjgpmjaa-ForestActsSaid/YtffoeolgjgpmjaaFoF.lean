/-
  Proved here: what functions of this program compute, each as a contract over symbolic states, under the premises that each theorem names (most lines printed by a program of the prover).
-/
import Derived.Test.YtffoeolgjgpmjaaFoE
namespace Go.Proofs.Ytffoeolgjgpmjaa
open Go Go.QM
theorem same_ok (a1 : Option Addr) (c1 : Nat) (xs : List Int) (a2 : Option Addr) (c2 : Nat) (ys : List Int) (hl : xs.length ≤ 1000000000) : FSpec Try.prog 26 [.slice a1 xs.length c1, .slice a2 ys.length c2] (fun F => (∃ E, RdS F E a1 (ints xs)) ∧ ∃ E, RdS F E a2 (ints ys)) [] (fun _ : Unit => .bool (decide (xs = ys))) (fun _ => True) (fun _ => []) := by
  refine FSpec.intro (rs := [.tmp 4]) (by kernel_rfl) Try.func26 rfl Try.ntmps26 (by rfl) rfl ?_
  intro F ⟨⟨E1, hF1⟩, ⟨E2, hF2⟩⟩
  change TC _ _ _ _ _ _ _ (sepL [_])
  haveI : RdSI F a1 E1 (ints xs) := ⟨hF1⟩
  haveI : RdSI F a2 E2 (ints ys) := ⟨hF2⟩
  refine TC.seq ?_
  refine TC.region ?_
  refine q rfl rfl (asg (v := .bool _) rfl) ?_
  refine TL.nil (nt ?_)
  refine TC.seq ?_
  refine TC.seq ?_
  refine TC.region ?_
  refine q rfl rfl (mv (v := .slice _ _ _) rfl) ?_
  refine q rfl rfl (len 3 1 rfl rfl) ?_
  refine q rfl rfl (mv (v := .slice _ _ _) rfl) ?_
  refine q rfl rfl (len 3 1 rfl rfl) ?_
  refine q rfl rfl (neI rfl rfl) ?_
  refine TL.nil (nt ?_)
  first | refine TC.condD rfl (fun hne => ?_) (fun hne => ?_) | refine TC.cond rfl (fun hne => ?_) (fun hne => ?_)
  · refine TC.seq ?_
    refine TC.region ?_
    refine q rfl rfl (asg (v := .bool _) rfl) ?_
    refine TL.nil (nt ?_)
    refine TC.ret (rt ?_)
    have hd : decide (xs = ys) = false := decide_eq_false (fun e => hne (by rw [e]))
    exact Ret.i () [_] ⟨rfl, trivial⟩ (by rw [hd]; rfl) trivial (ent_take 0 rfl (ent_nil _))
  · have hle : xs.length = ys.length := by omega
    refine TC.skip (nt ?_)
    refine TC.seq ?_
    refine TC.seq ?_
    refine TC.region ?_
    refine q rfl rfl (asg (v := .int _ _) rfl) ?_
    refine TL.nil (nt ?_)
    refine TC.block ?_
    refine TC.loop (ι := Nat) (fun i => i ≤ xs.length ∧ xs.take i = ys.take i) (fun i => [(0, .slice a1 xs.length c1), (1, .slice a2 ys.length c2), (5, .int .i64 i)]) (fun i => sepL [F]) (fun i => xs.length - i) 0 ⟨Nat.zero_le _, rfl⟩ ⟨rfl, rfl, rfl, trivial⟩ (ent_take 0 rfl (ent_nil _)) ?_
    rintro k ⟨hinv, hsame⟩ ρ0
    dsimp only [updL] at hinv hsame ⊢
    refine TC.seq ?_
    refine TC.seq ?_
    refine TC.region ?_
    refine q rfl rfl (mv (v := .int _ _) rfl) ?_
    refine q rfl rfl (mv (v := .slice _ _ _) rfl) ?_
    refine q rfl rfl (len 3 1 rfl rfl) ?_
    refine q rfl rfl (lss rfl rfl) ?_
    refine TL.nil (nt ?_)
    first | refine TC.condD rfl (fun hlt => ?_) (fun hlt => ?_) | refine TC.cond rfl (fun hlt => ?_) (fun hlt => ?_)
    · have hlt : k < xs.length := by omega
      have hlt2 : k < ys.length := by omega
      obtain ⟨u, hu⟩ : ∃ u, xs[k]? = some u := ⟨xs[k], List.getElem?_eq_getElem hlt⟩
      obtain ⟨v, hv⟩ : ∃ v, ys[k]? = some v := ⟨ys[k], List.getElem?_eq_getElem hlt2⟩
      have hil : 0 < (ints xs).length := by rw [ints_length]; omega
      have hil2 : 0 < (ints ys).length := by rw [ints_length]; omega
      refine TC.skip (nt ?_)
      refine TC.seq ?_
      refine TC.block ?_
      refine TC.seq ?_
      refine TC.draw _ [] [(0, false), (1, false), (2, false), (3, false), (4, false), (5, false), (6, false), (7, false), (8, false)] (by kernel_rfl) (by kernel_rfl) (ent.refl _) ?_
      refine dq rfl rfl rfl (mv (v := .slice _ _ _) rfl) ?_
      refine dq rfl rfl rfl (mv (v := .int _ _) rfl) ?_
      first | refine dq rfl rfl rfl (ixS 3 1 rfl rfl rfl (by omega) (by first | assumption | (simp [ints_length] <;> omega))) ?_ | refine dq rfl rfl rfl (ixJ 3 1 rfl rfl rfl (by omega) (by omega) (by first | assumption | (simp [ints_length] <;> omega))) ?_ | refine dq rfl rfl rfl (ix 3 1 rfl rfl rfl (by omega) (by omega) rfl) ?_
      first | refine dq rfl rfl rfl (ld rfl rfl rfl) ?_ | refine dq rfl rfl rfl (ldS rfl rfl (ints_get hu)) ?_ | refine dq rfl rfl rfl (ldS rfl rfl (ints_get hv)) ?_ | refine dq rfl rfl rfl (ldS rfl rfl rfl) ?_
      refine dq rfl rfl rfl (mv (v := .slice _ _ _) rfl) ?_
      refine dq rfl rfl rfl (mv (v := .int _ _) rfl) ?_
      first | refine dq rfl rfl rfl (ixS 3 1 rfl rfl rfl (by omega) (by first | assumption | (simp [ints_length] <;> omega))) ?_ | refine dq rfl rfl rfl (ixJ 3 1 rfl rfl rfl (by omega) (by omega) (by first | assumption | (simp [ints_length] <;> omega))) ?_ | refine dq rfl rfl rfl (ix 3 1 rfl rfl rfl (by omega) (by omega) rfl) ?_
      first | refine dq rfl rfl rfl (ld rfl rfl rfl) ?_ | refine dq rfl rfl rfl (ldS rfl rfl (ints_get hu)) ?_ | refine dq rfl rfl rfl (ldS rfl rfl (ints_get hv)) ?_ | refine dq rfl rfl rfl (ldS rfl rfl rfl) ?_
      refine dq rfl rfl rfl (neI rfl rfl) ?_
      refine TD.nil (nt ?_)
      first | refine TC.condD rfl (fun hd => ?_) (fun hd => ?_) | refine TC.cond rfl (fun hd => ?_) (fun hd => ?_)
      · refine TC.seq ?_
        refine TC.region ?_
        refine q rfl rfl (asg (v := .bool _) rfl) ?_
        refine TL.nil (nt ?_)
        refine TC.ret (rb (rt (rt (rb (rt ?_)))))
        have hdd : decide (xs = ys) = false := decide_eq_false (fun e => by subst e; rw [hu] at hv; cases hv; exact hd rfl)
        exact Ret.i () [_] ⟨rfl, trivial⟩ (by rw [hdd]; rfl) trivial (ent_take 0 rfl (ent_nil _))
      · refine TC.skip (nb (nt ?_))
        refine TC.region ?_
        refine q rfl rfl (mv (v := .int _ _) rfl) ?_
        first | refine q rfl rfl (addI rfl rfl (by omega) (by omega)) ?_ | refine q rfl rfl (add rfl rfl rfl) ?_
        refine q rfl rfl (asg (v := .int _ _) rfl) ?_
        refine TL.nil (nt ?_)
        exact ⟨rfl, (k + 1), ⟨by omega, by rw [List.take_add_one, List.take_add_one, hsame, hu, hv, Decidable.not_not.1 hd]⟩, (by omega), ⟨rfl, rfl, rfl, trivial⟩, (ent_take 0 rfl (ent_nil _))⟩
    · obtain rfl : k = xs.length := by omega
      have hdd : decide (xs = ys) = true := decide_eq_true (by rw [List.take_length, hle, List.take_length] at hsame; exact hsame)
      refine TC.exit (et (et (eb (nt ?_))))
      refine TC.seq ?_
      refine TC.region ?_
      refine q rfl rfl (asg (v := .bool _) rfl) ?_
      refine TL.nil (nt ?_)
      refine TC.ret ?_
      exact Ret.i () [_] ⟨rfl, trivial⟩ (by rw [hdd]; rfl) trivial (ent_take 0 rfl (ent_nil _))

theorem s1 : addN [] 0 0 (1, 1) = ([⟨1, 0, 1, 1⟩], 1, 1, 0) := by kernel_rfl
theorem s2 : addN [⟨1, 0, 1, 1⟩] 1 1 (1, 2) = ([⟨1, 0, 1, 1⟩, ⟨2, 1, 1, 2⟩], 2, 2, 0) := by kernel_rfl
theorem s3 : addN [⟨1, 0, 1, 1⟩, ⟨2, 1, 1, 2⟩] 2 2 (1, 3) = ([⟨1, 0, 1, 1⟩, ⟨2, 1, 1, 2⟩, ⟨3, 2, 1, 3⟩], 3, 3, 0) := by kernel_rfl
theorem s4 : addN [⟨1, 0, 1, 1⟩, ⟨2, 1, 1, 2⟩, ⟨3, 2, 1, 3⟩] 3 3 (1, 1) = ([⟨1, 0, 1, 1⟩, ⟨2, 1, 1, 2⟩, ⟨3, 2, 1, 3⟩], 3, 0, 7) := by kernel_rfl
theorem s5 : belR [⟨1, 0, 1, 1⟩, ⟨2, 1, 1, 2⟩, ⟨3, 2, 1, 3⟩] 3 1 = [3, 2] := by kernel_rfl
theorem s6 : liftE [⟨1, 0, 1, 1⟩, ⟨2, 1, 1, 2⟩, ⟨3, 2, 1, 3⟩] 2 = 0 ∧ liftN [⟨1, 0, 1, 1⟩, ⟨2, 1, 1, 2⟩, ⟨3, 2, 1, 3⟩] 2 = [⟨1, 0, 1, 1⟩, ⟨3, 1, 1, 3⟩] := ⟨by kernel_rfl, by kernel_rfl⟩
theorem s7 : parN [⟨1, 0, 1, 1⟩, ⟨3, 1, 1, 3⟩] 3 = 1 := by kernel_rfl
theorem s8 : addN [⟨1, 0, 1, 1⟩, ⟨3, 1, 1, 3⟩] 3 3 (2, 2) = ([⟨1, 0, 1, 1⟩, ⟨3, 1, 1, 3⟩, ⟨4, 3, 2, 2⟩], 4, 4, 0) := by kernel_rfl
theorem s9 : cutS [⟨1, 0, 1, 1⟩, ⟨3, 1, 1, 3⟩, ⟨4, 3, 2, 2⟩] 4 1 = [(2, 2), (1, 3)] ∧ cutN [⟨1, 0, 1, 1⟩, ⟨3, 1, 1, 3⟩, ⟨4, 3, 2, 2⟩] 4 1 = [⟨1, 0, 1, 1⟩] := ⟨by kernel_rfl, by kernel_rfl⟩
theorem s10 : ownN [⟨1, 0, 1, 1⟩] 1 = (1, 1, true) := by kernel_rfl
theorem s11 : findO [⟨1, 0, 1, 1⟩] (1, 1) = 1 ∧ kidsR [⟨1, 0, 1, 1⟩] 1 = [] ∧ remS [⟨1, 0, 1, 1⟩] 4 1 = [(1, 1)] := ⟨by kernel_rfl, by kernel_rfl, by kernel_rfl⟩
theorem s12 : 0 < (spsC [(2, 2), (1, 3)]).length := by decide

set_option maxHeartbeats 4000000 in
theorem alive_ok  : FSpec Try.prog 8 [] noRd [] (fun _ : Unit => .bool true) (fun _ => True) (fun _ => []) := by
  refine FSpec.intro (rs := [.tmp 0]) (by kernel_rfl) Try.func8 rfl Try.ntmps8 (by rfl) rfl ?_
  intro F _
  change TC _ _ _ _ _ _ _ (sepL [_])
  have h12 := s12
  refine TC.seq ?_
  refine TC.region ?_
  refine q rfl rfl (asg (v := .bool _) rfl) ?_
  refine TL.nil (nt ?_)
  refine TC.seq ?_
  refine TC.region ?_
  refine e rfl ?_
  refine cl fnew_ok rfl (picked_nil _) trivial ?_
  intro a _
  change TL _ _ _ _ _ _ _ _ (sepL [_, _])
  refine q rfl rfl (asg (v := .pointer _) rfl) ?_
  refine TL.nil (nt ?_)
  refine TC.seq ?_
  refine TC.region ?_
  refine q rfl rfl (mv (v := .pointer _) rfl) ?_
  refine e rfl ?_
  refine cl (fadd_ok a [] 0 0 1 1 (by decide)) rfl PkL.p trivial ?_
  intro _ _
  change TL _ _ _ _ _ _ _ _ (sepL [_, _])
  rw [s1]
  dsimp only
  refine q rfl rfl (mv (v := .tuple _) rfl) ?_
  refine q rfl rfl (pu (v := .int _ _) (fun _ => rfl)) ?_
  refine q rfl rfl (pu (v := .int _ _) (fun _ => rfl)) ?_
  refine q rfl rfl (asg (v := .int _ _) rfl) ?_
  refine q rfl rfl (asg (v := .int _ _) rfl) ?_
  refine TL.nil (nt ?_)
  refine TC.seq ?_
  refine TC.region ?_
  refine q rfl rfl (mv (v := .pointer _) rfl) ?_
  refine q rfl rfl (mv (v := .int _ _) rfl) ?_
  refine e rfl ?_
  refine cl (fadd_ok a [⟨1, 0, 1, 1⟩] 1 1 1 2 (by decide)) rfl PkL.p trivial ?_
  intro _ _
  change TL _ _ _ _ _ _ _ _ (sepL [_, _])
  rw [s2]
  dsimp only
  refine q rfl rfl (mv (v := .tuple _) rfl) ?_
  refine q rfl rfl (pu (v := .int _ _) (fun _ => rfl)) ?_
  refine q rfl rfl (pu (v := .int _ _) (fun _ => rfl)) ?_
  refine q rfl rfl (asg (v := .int _ _) rfl) ?_
  refine q rfl rfl (asg (v := .int _ _) rfl) ?_
  refine TL.nil (nt ?_)
  refine TC.seq ?_
  refine TC.region ?_
  refine q rfl rfl (mv (v := .pointer _) rfl) ?_
  refine q rfl rfl (mv (v := .int _ _) rfl) ?_
  refine e rfl ?_
  refine cl (fadd_ok a [⟨1, 0, 1, 1⟩, ⟨2, 1, 1, 2⟩] 2 2 1 3 (by decide)) rfl PkL.p trivial ?_
  intro _ _
  change TL _ _ _ _ _ _ _ _ (sepL [_, _])
  rw [s3]
  dsimp only
  refine q rfl rfl (mv (v := .tuple _) rfl) ?_
  refine q rfl rfl (pu (v := .int _ _) (fun _ => rfl)) ?_
  refine q rfl rfl (pu (v := .int _ _) (fun _ => rfl)) ?_
  refine q rfl rfl (asg (v := .int _ _) rfl) ?_
  refine q rfl rfl (asg (v := .int _ _) rfl) ?_
  refine TL.nil (nt ?_)
  refine TC.seq ?_
  refine TC.region ?_
  refine q rfl rfl (mv (v := .pointer _) rfl) ?_
  refine q rfl rfl (mv (v := .int _ _) rfl) ?_
  refine e rfl ?_
  refine cl (fadd_ok a [⟨1, 0, 1, 1⟩, ⟨2, 1, 1, 2⟩, ⟨3, 2, 1, 3⟩] 3 3 1 1 (by decide)) rfl PkL.p trivial ?_
  intro _ _
  change TL _ _ _ _ _ _ _ _ (sepL [_, _])
  rw [s4]
  dsimp only
  refine q rfl rfl (mv (v := .tuple _) rfl) ?_
  refine q rfl rfl (pu (v := .int _ _) (fun _ => rfl)) ?_
  refine q rfl rfl (pu (v := .int _ _) (fun _ => rfl)) ?_
  refine q rfl rfl (asg (v := .int _ _) rfl) ?_
  refine q rfl rfl (asg (v := .int _ _) rfl) ?_
  refine TL.nil (nt ?_)
  refine TC.seq ?_
  refine TC.region ?_
  refine q rfl rfl (mv (v := .pointer _) rfl) ?_
  refine q rfl rfl (mv (v := .int _ _) rfl) ?_
  refine e rfl ?_
  refine cl (fbelow_ok a [⟨1, 0, 1, 1⟩, ⟨2, 1, 1, 2⟩, ⟨3, 2, 1, 3⟩] 3 1 (by decide)) rfl PkL.p trivial ?_
  intro y1 _
  change TL _ _ _ _ _ _ _ _ (sepL [_, _, _])
  rw [s5]
  refine q rfl rfl (asg (v := .slice _ _ _) rfl) ?_
  refine TL.nil (nt ?_)
  refine TC.seq ?_
  refine TC.region ?_
  refine q rfl rfl (mv (v := .pointer _) rfl) ?_
  refine q rfl rfl (mv (v := .int _ _) rfl) ?_
  refine e rfl ?_
  refine cl (flift_ok a [⟨1, 0, 1, 1⟩, ⟨2, 1, 1, 2⟩, ⟨3, 2, 1, 3⟩] 3 2 (by decide)) rfl PkL.p trivial ?_
  intro _ _
  change TL _ _ _ _ _ _ _ _ (sepL [_, _, _])
  rw [s6.1, s6.2]
  refine q rfl rfl (asg (v := .int _ _) rfl) ?_
  refine TL.nil (nt ?_)
  refine TC.seq ?_
  refine TC.region ?_
  refine q rfl rfl (mv (v := .pointer _) rfl) ?_
  refine q rfl rfl (mv (v := .int _ _) rfl) ?_
  refine e rfl ?_
  refine cl (fpar_ok a [⟨1, 0, 1, 1⟩, ⟨3, 1, 1, 3⟩] 3 3) rfl PkL.p trivial ?_
  intro _ _
  change TL _ _ _ _ _ _ _ _ (sepL [_, _, _])
  rw [s7]
  refine q rfl rfl (asg (v := .int _ _) rfl) ?_
  refine TL.nil (nt ?_)
  refine TC.seq ?_
  refine TC.region ?_
  refine q rfl rfl (mv (v := .pointer _) rfl) ?_
  refine q rfl rfl (mv (v := .int _ _) rfl) ?_
  refine e rfl ?_
  refine cl (fadd_ok a [⟨1, 0, 1, 1⟩, ⟨3, 1, 1, 3⟩] 3 3 2 2 (by decide)) rfl PkL.p trivial ?_
  intro _ _
  change TL _ _ _ _ _ _ _ _ (sepL [_, _, _])
  rw [s8]
  dsimp only
  refine q rfl rfl (mv (v := .tuple _) rfl) ?_
  refine q rfl rfl (pu (v := .int _ _) (fun _ => rfl)) ?_
  refine q rfl rfl (pu (v := .int _ _) (fun _ => rfl)) ?_
  refine q rfl rfl (asg (v := .int _ _) rfl) ?_
  refine q rfl rfl (asg (v := .int _ _) rfl) ?_
  refine TL.nil (nt ?_)
  refine TC.seq ?_
  refine TC.region ?_
  refine q rfl rfl (mv (v := .pointer _) rfl) ?_
  refine q rfl rfl (mv (v := .int _ _) rfl) ?_
  refine e rfl ?_
  refine cl (fcut_ok a [⟨1, 0, 1, 1⟩, ⟨3, 1, 1, 3⟩, ⟨4, 3, 2, 2⟩] 4 1 (by decide)) rfl PkL.p trivial ?_
  intro y2 _
  change TL _ _ _ _ _ _ _ _ (sepL [_, _, _, _])
  rw [s9.1, s9.2]
  rw [show ([(2, 2), (1, 3)] : List (Int × Int)).length = 2 from rfl]
  refine q rfl rfl (asg (v := .slice _ _ _) rfl) ?_
  refine TL.nil (nt ?_)
  refine TC.seq ?_
  refine TC.region ?_
  refine q rfl rfl (mv (v := .pointer _) rfl) ?_
  refine q rfl rfl (mv (v := .int _ _) rfl) ?_
  refine e rfl ?_
  refine cl (fowner_ok a [⟨1, 0, 1, 1⟩] 4 1) rfl PkL.p trivial ?_
  intro _ _
  change TL _ _ _ _ _ _ _ _ (sepL [_, _, _, _])
  rw [s10]
  dsimp only
  refine q rfl rfl (mv (v := .tuple _) rfl) ?_
  refine q rfl rfl (pu (v := .int _ _) (fun _ => rfl)) ?_
  refine q rfl rfl (pu (v := .int _ _) (fun _ => rfl)) ?_
  refine q rfl rfl (pu (v := .bool _) (fun _ => rfl)) ?_
  refine q rfl rfl (asg (v := .int _ _) rfl) ?_
  refine q rfl rfl (asg (v := .int _ _) rfl) ?_
  refine q rfl rfl (asg (v := .bool _) rfl) ?_
  refine TL.nil (nt ?_)
  refine TC.seq ?_
  refine TC.region ?_
  refine q rfl rfl (mv (v := .int _ _) rfl) ?_
  refine q rfl rfl (eqI rfl rfl) ?_
  refine q rfl rfl (mv (v := .bool _) rfl) ?_
  refine TL.known 70 rfl (c := true) (by decide) ?_
  refine qg rfl rfl rfl (mv (v := .int _ _) rfl) ?_
  refine qg rfl rfl rfl (eqI rfl rfl) ?_
  first | refine q rfl rfl (pkT rfl rfl) ?_ | refine q rfl rfl (pkF rfl rfl) ?_
  refine q rfl rfl (mv (v := .bool _) rfl) ?_
  refine TL.known 74 rfl (c := true) (by decide) ?_
  refine qg rfl rfl rfl (mv (v := .int _ _) rfl) ?_
  refine qg rfl rfl rfl (eqI rfl rfl) ?_
  first | refine q rfl rfl (pkT rfl rfl) ?_ | refine q rfl rfl (pkF rfl rfl) ?_
  refine q rfl rfl (mv (v := .bool _) rfl) ?_
  refine TL.known 78 rfl (c := true) (by decide) ?_
  refine qg rfl rfl rfl (mv (v := .int _ _) rfl) ?_
  refine qg rfl rfl rfl (eqI rfl rfl) ?_
  first | refine q rfl rfl (pkT rfl rfl) ?_ | refine q rfl rfl (pkF rfl rfl) ?_
  refine q rfl rfl (mv (v := .bool _) rfl) ?_
  refine TL.known 82 rfl (c := true) (by decide) ?_
  refine qg rfl rfl rfl (mv (v := .slice _ _ _) rfl) ?_
  refine eg rfl rfl ?_
  refine bs (cs := [.int _ _, .int _ _]) rfl ?_
  intro b1
  refine eg rfl rfl ?_
  refine cl (same_ok y1.1 _ [3, 2] (some ⟨b1, 0, none⟩) _ [3, 2] (by decide)) rfl (picked_nil _) ⟨⟨_, RdSI.rd (ad := y1.1)⟩, ⟨_, RdSI.rd (ad := some ⟨b1, 0, none⟩)⟩⟩ ?_
  intro _ _
  change TL _ _ _ _ _ _ _ _ (sepL [_, _, _, _, _])
  first | refine q rfl rfl (pkT rfl rfl) ?_ | refine q rfl rfl (pkF rfl rfl) ?_
  refine q rfl rfl (mv (v := .bool _) rfl) ?_
  refine TL.known 87 rfl (c := true) (by decide) ?_
  refine qg rfl rfl rfl (mv (v := .int _ _) rfl) ?_
  refine qg rfl rfl rfl (eqI rfl rfl) ?_
  first | refine q rfl rfl (pkT rfl rfl) ?_ | refine q rfl rfl (pkF rfl rfl) ?_
  refine q rfl rfl (mv (v := .bool _) rfl) ?_
  refine TL.known 91 rfl (c := true) (by decide) ?_
  refine qg rfl rfl rfl (mv (v := .int _ _) rfl) ?_
  refine qg rfl rfl rfl (eqI rfl rfl) ?_
  first | refine q rfl rfl (pkT rfl rfl) ?_ | refine q rfl rfl (pkF rfl rfl) ?_
  refine q rfl rfl (mv (v := .bool _) rfl) ?_
  refine TL.known 95 rfl (c := true) (by decide) ?_
  refine qg rfl rfl rfl (mv (v := .int _ _) rfl) ?_
  refine qg rfl rfl rfl (eqI rfl rfl) ?_
  first | refine q rfl rfl (pkT rfl rfl) ?_ | refine q rfl rfl (pkF rfl rfl) ?_
  refine q rfl rfl (mv (v := .bool _) rfl) ?_
  refine TL.known 99 rfl (c := true) (by decide) ?_
  refine qg rfl rfl rfl (mv (v := .slice _ _ _) rfl) ?_
  refine qg rfl rfl rfl (len 44 2 rfl rfl) ?_
  refine qg rfl rfl rfl (eqI rfl rfl) ?_
  first | refine q rfl rfl (pkT rfl rfl) ?_ | refine q rfl rfl (pkF rfl rfl) ?_
  refine q rfl rfl (mv (v := .bool _) rfl) ?_
  refine TL.known 104 rfl (c := true) (by decide) ?_
  refine qg rfl rfl rfl (mv (v := .slice _ _ _) rfl) ?_
  first | refine qg rfl rfl rfl (ixS 44 2 rfl rfl rfl (by omega) (by first | assumption | (simp [ints_length] <;> omega))) ?_ | refine qg rfl rfl rfl (ixJ 44 2 rfl rfl rfl (by omega) (by omega) (by first | assumption | (simp [ints_length] <;> omega))) ?_ | refine qg rfl rfl rfl (ix 44 2 rfl rfl rfl (by omega) (by omega) rfl) ?_
  first | refine qg rfl rfl rfl (fa 0 rfl rfl) ?_ | refine qg rfl rfl rfl (faS 0 rfl rfl (by first | assumption | (simp [ints_length] <;> omega))) ?_
  first | refine qg rfl rfl rfl (ld rfl rfl rfl) ?_ | refine qg rfl rfl rfl (ldS rfl rfl rfl) ?_
  refine qg rfl rfl rfl (eqI rfl rfl) ?_
  first | refine q rfl rfl (pkT rfl rfl) ?_ | refine q rfl rfl (pkF rfl rfl) ?_
  refine q rfl rfl (mv (v := .bool _) rfl) ?_
  refine TL.known 111 rfl (c := true) (by decide) ?_
  refine qg rfl rfl rfl (mv (v := .slice _ _ _) rfl) ?_
  first | refine qg rfl rfl rfl (ixS 44 2 rfl rfl rfl (by omega) (by first | assumption | (simp [ints_length] <;> omega))) ?_ | refine qg rfl rfl rfl (ixJ 44 2 rfl rfl rfl (by omega) (by omega) (by first | assumption | (simp [ints_length] <;> omega))) ?_ | refine qg rfl rfl rfl (ix 44 2 rfl rfl rfl (by omega) (by omega) rfl) ?_
  first | refine qg rfl rfl rfl (fa 1 rfl rfl) ?_ | refine qg rfl rfl rfl (faS 1 rfl rfl (by first | assumption | (simp [ints_length] <;> omega))) ?_
  first | refine qg rfl rfl rfl (ld rfl rfl rfl) ?_ | refine qg rfl rfl rfl (ldS rfl rfl rfl) ?_
  refine qg rfl rfl rfl (eqI rfl rfl) ?_
  first | refine q rfl rfl (pkT rfl rfl) ?_ | refine q rfl rfl (pkF rfl rfl) ?_
  refine q rfl rfl (mv (v := .bool _) rfl) ?_
  refine TL.known 118 rfl (c := true) (by decide) ?_
  refine qg rfl rfl rfl (mv (v := .pointer _) rfl) ?_
  refine eg rfl rfl ?_
  refine cl (flen_ok a [⟨1, 0, 1, 1⟩] 4) rfl PkL.p trivial ?_
  intro _ _
  change TL _ _ _ _ _ _ _ _ (sepL [_, _, _, _, _])
  refine qg rfl rfl rfl (eqI rfl rfl) ?_
  first | refine q rfl rfl (pkT rfl rfl) ?_ | refine q rfl rfl (pkF rfl rfl) ?_
  refine q rfl rfl (mv (v := .bool _) rfl) ?_
  refine TL.known 123 rfl (c := true) (by decide) ?_
  refine qg rfl rfl rfl (mv (v := .pointer _) rfl) ?_
  refine eg rfl rfl ?_
  refine cl (ffind_ok a [⟨1, 0, 1, 1⟩] 4 1 1) rfl PkL.p trivial ?_
  intro _ _
  change TL _ _ _ _ _ _ _ _ (sepL [_, _, _, _, _])
  rw [s11.1]
  refine qg rfl rfl rfl (eqI rfl rfl) ?_
  first | refine q rfl rfl (pkT rfl rfl) ?_ | refine q rfl rfl (pkF rfl rfl) ?_
  refine q rfl rfl (mv (v := .bool _) rfl) ?_
  refine TL.known 128 rfl (c := true) (by decide) ?_
  refine qg rfl rfl rfl (mv (v := .int _ _) rfl) ?_
  refine qg rfl rfl rfl (eqI rfl rfl) ?_
  first | refine q rfl rfl (pkT rfl rfl) ?_ | refine q rfl rfl (pkF rfl rfl) ?_
  refine q rfl rfl (mv (v := .bool _) rfl) ?_
  refine TL.known 132 rfl (c := true) (by decide) ?_
  refine qg rfl rfl rfl (mv (v := .int _ _) rfl) ?_
  refine qg rfl rfl rfl (eqI rfl rfl) ?_
  first | refine q rfl rfl (pkT rfl rfl) ?_ | refine q rfl rfl (pkF rfl rfl) ?_
  refine q rfl rfl (mv (v := .bool _) rfl) ?_
  refine TL.known 136 rfl (c := true) (by decide) ?_
  refine qg rfl rfl rfl (mv (v := .bool _) rfl) ?_
  first | refine q rfl rfl (pkT rfl rfl) ?_ | refine q rfl rfl (pkF rfl rfl) ?_
  refine q rfl rfl (mv (v := .bool _) rfl) ?_
  refine TL.known 139 rfl (c := true) (by decide) ?_
  refine qg rfl rfl rfl (mv (v := .pointer _) rfl) ?_
  refine eg rfl rfl ?_
  refine cl (fkids_ok a [⟨1, 0, 1, 1⟩] 4 1 (by decide)) rfl PkL.p trivial ?_
  intro y3 _
  change TL _ _ _ _ _ _ _ _ (sepL [_, _, _, _, _, _])
  rw [s11.2.1]
  refine qg rfl rfl rfl (len 3 1 rfl rfl) ?_
  refine qg rfl rfl rfl (eqI rfl rfl) ?_
  first | refine q rfl rfl (pkT rfl rfl) ?_ | refine q rfl rfl (pkF rfl rfl) ?_
  refine q rfl rfl (mv (v := .bool _) rfl) ?_
  refine TL.known 145 rfl (c := true) (by decide) ?_
  refine qg rfl rfl rfl (mv (v := .pointer _) rfl) ?_
  refine eg rfl rfl ?_
  refine cl (frem_ok a [⟨1, 0, 1, 1⟩] 4 1 (by decide)) rfl PkL.p trivial ?_
  intro y4 _
  change TL _ _ _ _ _ _ _ _ (sepL [_, _, _, _, _, _, _])
  rw [s11.2.2]
  refine qg rfl rfl rfl (len 44 2 rfl rfl) ?_
  refine qg rfl rfl rfl (eqI rfl rfl) ?_
  first | refine q rfl rfl (pkT rfl rfl) ?_ | refine q rfl rfl (pkF rfl rfl) ?_
  refine q rfl rfl (asg (v := .bool _) rfl) ?_
  refine TL.nil (nt ?_)
  refine TC.ret ?_
  exact Ret.i () [_] ⟨rfl, trivial⟩ rfl trivial (ent_take 6 rfl (ent_nil _))

end Go.Proofs.Ytffoeolgjgpmjaa
