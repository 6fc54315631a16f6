/-
  Proved here: what functions of this program compute, each as a contract over symbolic states, under the premises that each theorem names (most lines printed by a program of the prover).
-/
import Derived.Test.YtdikkmgcjhllaaaAlC
namespace Go.Proofs.Ytdikkmgcjhllaaa
open Go Go.QM
theorem same_ok (a1 : Option Addr) (c1 : Nat) (xs : List Int) (a2 : Option Addr) (c2 : Nat) (ys : List Int) (hl : xs.length ≤ 1000000000) : FSpec Try.prog 14 [.slice a1 xs.length c1, .slice a2 ys.length c2] (fun F => (∃ E, RdS F E a1 (ints xs)) ∧ ∃ E, RdS F E a2 (ints ys)) [] (fun _ : Unit => .bool (decide (xs = ys))) (fun _ => True) (fun _ => []) := by
  refine FSpec.intro (rs := [.tmp 4]) (by kernel_rfl) Try.func14 rfl Try.ntmps14 (by rfl) rfl ?_
  intro F ⟨⟨E1, hF1⟩, ⟨E2, hF2⟩⟩
  change TC _ _ _ _ _ _ _ (sepL [_])
  haveI : RdSI F a1 E1 (ints xs) := ⟨hF1⟩
  haveI : RdSI F a2 E2 (ints ys) := ⟨hF2⟩
  refine TC.seq ?_
  refine TC.region ?_
  refine q rfl rfl (asg (v := .bool _) rfl) ?_
  refine TL.nil (nt ?_)
  refine TC.seq ?_
  refine TC.seq ?_
  refine TC.region ?_
  refine q rfl rfl (mv (v := .slice _ _ _) rfl) ?_
  refine q rfl rfl (len 3 1 rfl rfl) ?_
  refine q rfl rfl (mv (v := .slice _ _ _) rfl) ?_
  refine q rfl rfl (len 3 1 rfl rfl) ?_
  refine q rfl rfl (neI rfl rfl) ?_
  refine TL.nil (nt ?_)
  first | refine TC.condD rfl (fun hne => ?_) (fun hne => ?_) | refine TC.cond rfl (fun hne => ?_) (fun hne => ?_)
  · refine TC.seq ?_
    refine TC.region ?_
    refine q rfl rfl (asg (v := .bool _) rfl) ?_
    refine TL.nil (nt ?_)
    refine TC.ret (rt ?_)
    have hd : decide (xs = ys) = false := decide_eq_false (fun e => hne (by rw [e]))
    exact Ret.i () [_] ⟨rfl, trivial⟩ (by rw [hd]; rfl) trivial (ent_take 0 rfl (ent_nil _))
  · have hle : xs.length = ys.length := by omega
    refine TC.skip (nt ?_)
    refine TC.seq ?_
    refine TC.seq ?_
    refine TC.region ?_
    refine q rfl rfl (asg (v := .int _ _) rfl) ?_
    refine TL.nil (nt ?_)
    refine TC.block ?_
    refine TC.loop (ι := Nat) (fun i => i ≤ xs.length ∧ xs.take i = ys.take i) (fun i => [(0, .slice a1 xs.length c1), (1, .slice a2 ys.length c2), (5, .int .i64 i)]) (fun i => sepL [F]) (fun i => xs.length - i) 0 ⟨Nat.zero_le _, rfl⟩ ⟨rfl, rfl, rfl, trivial⟩ (ent_take 0 rfl (ent_nil _)) ?_
    rintro k ⟨hinv, hsame⟩ ρ0
    dsimp only [updL] at hinv hsame ⊢
    refine TC.seq ?_
    refine TC.seq ?_
    refine TC.region ?_
    refine q rfl rfl (mv (v := .int _ _) rfl) ?_
    refine q rfl rfl (mv (v := .slice _ _ _) rfl) ?_
    refine q rfl rfl (len 3 1 rfl rfl) ?_
    refine q rfl rfl (lss rfl rfl) ?_
    refine TL.nil (nt ?_)
    first | refine TC.condD rfl (fun hlt => ?_) (fun hlt => ?_) | refine TC.cond rfl (fun hlt => ?_) (fun hlt => ?_)
    · have hlt : k < xs.length := by omega
      have hlt2 : k < ys.length := by omega
      obtain ⟨u, hu⟩ : ∃ u, xs[k]? = some u := ⟨xs[k], List.getElem?_eq_getElem hlt⟩
      obtain ⟨v, hv⟩ : ∃ v, ys[k]? = some v := ⟨ys[k], List.getElem?_eq_getElem hlt2⟩
      have hil : 0 < (ints xs).length := by rw [ints_length]; omega
      have hil2 : 0 < (ints ys).length := by rw [ints_length]; omega
      refine TC.skip (nt ?_)
      refine TC.seq ?_
      refine TC.block ?_
      refine TC.seq ?_
      refine TC.draw _ [] [(0, false), (1, false), (2, false), (3, false), (4, false), (5, false), (6, false), (7, false), (8, false)] (by kernel_rfl) (by kernel_rfl) (ent.refl _) ?_
      refine dq rfl rfl rfl (mv (v := .slice _ _ _) rfl) ?_
      refine dq rfl rfl rfl (mv (v := .int _ _) rfl) ?_
      first | refine dq rfl rfl rfl (ixS 3 1 rfl rfl rfl (by omega) (by first | assumption | (simp [ints_length] <;> omega))) ?_ | refine dq rfl rfl rfl (ixJ 3 1 rfl rfl rfl (by omega) (by omega) (by first | assumption | (simp [ints_length] <;> omega))) ?_ | refine dq rfl rfl rfl (ix 3 1 rfl rfl rfl (by omega) (by omega) rfl) ?_
      first | refine dq rfl rfl rfl (ld rfl rfl rfl) ?_ | refine dq rfl rfl rfl (ldS rfl rfl (ints_get hu)) ?_ | refine dq rfl rfl rfl (ldS rfl rfl (ints_get hv)) ?_ | refine dq rfl rfl rfl (ldS rfl rfl rfl) ?_
      refine dq rfl rfl rfl (mv (v := .slice _ _ _) rfl) ?_
      refine dq rfl rfl rfl (mv (v := .int _ _) rfl) ?_
      first | refine dq rfl rfl rfl (ixS 3 1 rfl rfl rfl (by omega) (by first | assumption | (simp [ints_length] <;> omega))) ?_ | refine dq rfl rfl rfl (ixJ 3 1 rfl rfl rfl (by omega) (by omega) (by first | assumption | (simp [ints_length] <;> omega))) ?_ | refine dq rfl rfl rfl (ix 3 1 rfl rfl rfl (by omega) (by omega) rfl) ?_
      first | refine dq rfl rfl rfl (ld rfl rfl rfl) ?_ | refine dq rfl rfl rfl (ldS rfl rfl (ints_get hu)) ?_ | refine dq rfl rfl rfl (ldS rfl rfl (ints_get hv)) ?_ | refine dq rfl rfl rfl (ldS rfl rfl rfl) ?_
      refine dq rfl rfl rfl (neI rfl rfl) ?_
      refine TD.nil (nt ?_)
      first | refine TC.condD rfl (fun hd => ?_) (fun hd => ?_) | refine TC.cond rfl (fun hd => ?_) (fun hd => ?_)
      · refine TC.seq ?_
        refine TC.region ?_
        refine q rfl rfl (asg (v := .bool _) rfl) ?_
        refine TL.nil (nt ?_)
        refine TC.ret (rb (rt (rt (rb (rt ?_)))))
        have hdd : decide (xs = ys) = false := decide_eq_false (fun e => by subst e; rw [hu] at hv; cases hv; exact hd rfl)
        exact Ret.i () [_] ⟨rfl, trivial⟩ (by rw [hdd]; rfl) trivial (ent_take 0 rfl (ent_nil _))
      · refine TC.skip (nb (nt ?_))
        refine TC.region ?_
        refine q rfl rfl (mv (v := .int _ _) rfl) ?_
        first | refine q rfl rfl (addI rfl rfl (by omega) (by omega)) ?_ | refine q rfl rfl (add rfl rfl rfl) ?_
        refine q rfl rfl (asg (v := .int _ _) rfl) ?_
        refine TL.nil (nt ?_)
        exact ⟨rfl, (k + 1), ⟨by omega, by rw [List.take_add_one, List.take_add_one, hsame, hu, hv, Decidable.not_not.1 hd]⟩, (by omega), ⟨rfl, rfl, rfl, trivial⟩, (ent_take 0 rfl (ent_nil _))⟩
    · obtain rfl : k = xs.length := by omega
      have hdd : decide (xs = ys) = true := decide_eq_true (by rw [List.take_length, hle, List.take_length] at hsame; exact hsame)
      refine TC.exit (et (et (eb (nt ?_))))
      refine TC.seq ?_
      refine TC.region ?_
      refine q rfl rfl (asg (v := .bool _) rfl) ?_
      refine TL.nil (nt ?_)
      refine TC.ret ?_
      exact Ret.i () [_] ⟨rfl, trivial⟩ (by rw [hdd]; rfl) trivial (ent_take 0 rfl (ent_nil _))

theorem s1 : setA [] 0 0 5 2 = ([⟨2, 1, 5⟩], 1, 0) := by kernel_rfl
theorem s2 : setA [⟨2, 1, 5⟩] 0 1 3 1 = ([⟨2, 1, 5⟩, ⟨1, 2, 3⟩], 2, 0) := by kernel_rfl
theorem s3 : setA [⟨2, 1, 5⟩, ⟨1, 2, 3⟩] 0 2 4 2 = ([⟨2, 1, 5⟩, ⟨1, 2, 3⟩, ⟨2, 3, 4⟩], 3, 0) := by kernel_rfl
theorem s4 : nextA [⟨2, 1, 5⟩, ⟨1, 2, 3⟩, ⟨2, 3, 4⟩] 0 = 1 := by kernel_rfl
theorem s5 : ids (dueA (0 + 1) [⟨2, 1, 5⟩, ⟨1, 2, 3⟩, ⟨2, 3, 4⟩]) = [3] ∧ restA (0 + 1) [⟨2, 1, 5⟩, ⟨1, 2, 3⟩, ⟨2, 3, 4⟩] = [⟨2, 1, 5⟩, ⟨2, 3, 4⟩] := ⟨by kernel_rfl, by kernel_rfl⟩
theorem s6 : ids (dueA (1 + 1) [⟨2, 1, 5⟩, ⟨2, 3, 4⟩]) = [5, 4] ∧ restA (1 + 1) [⟨2, 1, 5⟩, ⟨2, 3, 4⟩] = [] := ⟨by kernel_rfl, by kernel_rfl⟩
theorem s7 : ids (dueA (2 + 1) []) = [] ∧ restA (2 + 1) [] = [] := ⟨by kernel_rfl, by kernel_rfl⟩
theorem s8 : setA [] 3 3 9 4 = ([⟨7, 4, 9⟩], 4, 0) := by kernel_rfl
theorem s9 : clrA [⟨7, 4, 9⟩] [9, 9] = [] := by kernel_rfl
theorem s10 : setA [] 3 4 1 0 = ([], 4, 1) := by kernel_rfl
theorem bdd {now tn : Int} {Q : List En} (h : (0 ≤ now ∧ now ≤ 1000000) ∧ (0 ≤ tn ∧ tn ≤ 1000000) ∧ Q.length ≤ 500000) : (0 ≤ now ∧ now ≤ 1000000000000) ∧ (0 ≤ tn ∧ tn ≤ 1000000000000) ∧ Q.length ≤ 500000 := by omega

set_option maxHeartbeats 4000000 in
theorem alive_ok  : FSpec Try.prog 8 [] noRd [] (fun _ : Unit => .bool true) (fun _ => True) (fun _ => []) := by
  refine FSpec.intro (rs := [.tmp 0]) (by kernel_rfl) Try.func8 rfl Try.ntmps8 (by rfl) rfl ?_
  intro F _
  change TC _ _ _ _ _ _ _ (sepL [_])
  refine TC.seq ?_
  refine TC.region ?_
  refine q rfl rfl (asg (v := .bool _) rfl) ?_
  refine TL.nil (nt ?_)
  refine TC.seq ?_
  refine TC.region ?_
  refine e rfl ?_
  refine cl new_ok rfl (picked_nil _) trivial ?_
  intro a _
  change TL _ _ _ _ _ _ _ _ (sepL [_, _])
  refine q rfl rfl (asg (v := .pointer _) rfl) ?_
  refine TL.nil (nt ?_)
  refine TC.seq ?_
  refine TC.region ?_
  refine q rfl rfl (mv (v := .pointer _) rfl) ?_
  refine e rfl ?_
  refine cl (set_ok a 0 0 [] (by decide) 5 2) rfl PkL.p trivial ?_
  intro _ _
  change TL _ _ _ _ _ _ _ _ (sepL [_, _])
  rw [s1]
  dsimp only
  refine q rfl rfl (mv (v := .pointer _) rfl) ?_
  refine e rfl ?_
  refine cl (set_ok a 0 1 [⟨2, 1, 5⟩] (by decide) 3 1) rfl PkL.p trivial ?_
  intro _ _
  change TL _ _ _ _ _ _ _ _ (sepL [_, _])
  rw [s2]
  dsimp only
  refine q rfl rfl (mv (v := .pointer _) rfl) ?_
  refine e rfl ?_
  refine cl (set_ok a 0 2 [⟨2, 1, 5⟩, ⟨1, 2, 3⟩] (by decide) 4 2) rfl PkL.p trivial ?_
  intro _ _
  change TL _ _ _ _ _ _ _ _ (sepL [_, _])
  rw [s3]
  dsimp only
  refine q rfl rfl (asg (v := .int _ _) rfl) ?_
  refine q rfl rfl (asg (v := .int _ _) rfl) ?_
  refine q rfl rfl (asg (v := .int _ _) rfl) ?_
  refine TL.nil (nt ?_)
  refine TC.seq ?_
  refine TC.region ?_
  refine q rfl rfl (mv (v := .pointer _) rfl) ?_
  refine e rfl ?_
  refine cl (next_ok a 0 3 [⟨2, 1, 5⟩, ⟨1, 2, 3⟩, ⟨2, 3, 4⟩] (by decide) (by decide)) rfl PkL.p trivial ?_
  intro _ _
  change TL _ _ _ _ _ _ _ _ (sepL [_, _])
  rw [s4]
  refine q rfl rfl (mv (v := .pointer _) rfl) ?_
  refine e rfl ?_
  refine cl (len_ok a 0 3 [⟨2, 1, 5⟩, ⟨1, 2, 3⟩, ⟨2, 3, 4⟩]) rfl PkL.p trivial ?_
  intro _ _
  change TL _ _ _ _ _ _ _ _ (sepL [_, _])
  refine q rfl rfl (asg (v := .int _ _) rfl) ?_
  refine q rfl rfl (asg (v := .int _ _) rfl) ?_
  refine TL.nil (nt ?_)
  refine TC.seq ?_
  refine TC.region ?_
  refine q rfl rfl (mv (v := .pointer _) rfl) ?_
  refine e rfl ?_
  refine cl (tick_ok a 0 3 [⟨2, 1, 5⟩, ⟨1, 2, 3⟩, ⟨2, 3, 4⟩] (by decide) (by decide)) rfl PkL.p trivial ?_
  intro y1 _
  change TL _ _ _ _ _ _ _ _ (sepL [_, _, _])
  rw [s5.1, s5.2]
  rw [show (0 : Int) + 1 = 1 from rfl]
  refine q rfl rfl (mv (v := .pointer _) rfl) ?_
  refine e rfl ?_
  refine cl (tick_ok a 1 3 [⟨2, 1, 5⟩, ⟨2, 3, 4⟩] (by decide) (by decide)) rfl PkL.p trivial ?_
  intro y2 _
  change TL _ _ _ _ _ _ _ _ (sepL [_, _, _, _])
  rw [s6.1, s6.2]
  rw [show (1 : Int) + 1 = 2 from rfl]
  refine q rfl rfl (mv (v := .pointer _) rfl) ?_
  refine e rfl ?_
  refine cl (tick_ok a 2 3 [] (by decide) (by decide)) rfl PkL.p trivial ?_
  intro y3 _
  change TL _ _ _ _ _ _ _ _ (sepL [_, _, _, _, _])
  rw [s7.1, s7.2]
  rw [show (2 : Int) + 1 = 3 from rfl]
  refine q rfl rfl (asg (v := .slice _ _ _) rfl) ?_
  refine q rfl rfl (asg (v := .slice _ _ _) rfl) ?_
  refine q rfl rfl (asg (v := .slice _ _ _) rfl) ?_
  refine TL.nil (nt ?_)
  refine TC.seq ?_
  refine TC.region ?_
  refine q rfl rfl (mv (v := .pointer _) rfl) ?_
  refine e rfl ?_
  refine cl (set_ok a 3 3 [] (by decide) 9 4) rfl PkL.p trivial ?_
  intro _ _
  change TL _ _ _ _ _ _ _ _ (sepL [_, _, _, _, _])
  rw [s8]
  dsimp only
  refine q rfl rfl (asg (v := .int _ _) rfl) ?_
  refine TL.nil (nt ?_)
  refine TC.seq ?_
  refine TC.region ?_
  refine q rfl rfl (mv (v := .pointer _) rfl) ?_
  refine e rfl ?_
  refine bs (cs := [.int _ _, .int _ _]) rfl ?_
  intro b1
  refine e rfl ?_
  refine cl (clear_ok a 3 4 [⟨7, 4, 9⟩] (by decide) _ _ [9, 9] (by decide)) rfl PkL.p ⟨_, RdSI.rd⟩ ?_
  intro _ _
  change TL _ _ _ _ _ _ _ _ (sepL [_, _, _, _, _, _])
  rw [s9]
  refine q rfl rfl (asg (v := .int _ _) rfl) ?_
  refine TL.nil (nt ?_)
  refine TC.seq ?_
  refine TC.region ?_
  refine q rfl rfl (mv (v := .int _ _) rfl) ?_
  refine q rfl rfl (eqI rfl rfl) ?_
  refine q rfl rfl (mv (v := .bool _) rfl) ?_
  refine TL.known 36 rfl (c := true) (by decide) ?_
  refine qg rfl rfl rfl (mv (v := .int _ _) rfl) ?_
  refine qg rfl rfl rfl (eqI rfl rfl) ?_
  first | refine q rfl rfl (pkT rfl rfl) ?_ | refine q rfl rfl (pkF rfl rfl) ?_
  refine q rfl rfl (mv (v := .bool _) rfl) ?_
  refine TL.known 40 rfl (c := true) (by decide) ?_
  refine qg rfl rfl rfl (mv (v := .int _ _) rfl) ?_
  refine qg rfl rfl rfl (eqI rfl rfl) ?_
  first | refine q rfl rfl (pkT rfl rfl) ?_ | refine q rfl rfl (pkF rfl rfl) ?_
  refine q rfl rfl (mv (v := .bool _) rfl) ?_
  refine TL.known 44 rfl (c := true) (by decide) ?_
  refine qg rfl rfl rfl (mv (v := .int _ _) rfl) ?_
  refine qg rfl rfl rfl (eqI rfl rfl) ?_
  first | refine q rfl rfl (pkT rfl rfl) ?_ | refine q rfl rfl (pkF rfl rfl) ?_
  refine q rfl rfl (mv (v := .bool _) rfl) ?_
  refine TL.known 48 rfl (c := true) (by decide) ?_
  refine qg rfl rfl rfl (mv (v := .int _ _) rfl) ?_
  refine qg rfl rfl rfl (eqI rfl rfl) ?_
  first | refine q rfl rfl (pkT rfl rfl) ?_ | refine q rfl rfl (pkF rfl rfl) ?_
  refine q rfl rfl (mv (v := .bool _) rfl) ?_
  refine TL.known 52 rfl (c := true) (by decide) ?_
  refine qg rfl rfl rfl (mv (v := .slice _ _ _) rfl) ?_
  refine eg rfl rfl ?_
  refine bs (cs := [.int _ _]) rfl ?_
  intro b2
  refine eg rfl rfl ?_
  refine cl (same_ok y1.1 _ [3] (some ⟨b2, 0, none⟩) _ [3] (by decide)) rfl (picked_nil _) ⟨⟨_, RdSI.rd (ad := y1.1)⟩, ⟨_, RdSI.rd (ad := some ⟨b2, 0, none⟩)⟩⟩ ?_
  intro _ _
  change TL _ _ _ _ _ _ _ _ (sepL [_, _, _, _, _, _, _])
  first | refine q rfl rfl (pkT rfl rfl) ?_ | refine q rfl rfl (pkF rfl rfl) ?_
  refine q rfl rfl (mv (v := .bool _) rfl) ?_
  refine TL.known 57 rfl (c := true) (by decide) ?_
  refine qg rfl rfl rfl (mv (v := .slice _ _ _) rfl) ?_
  refine eg rfl rfl ?_
  refine bs (cs := [.int _ _, .int _ _]) rfl ?_
  intro b3
  refine eg rfl rfl ?_
  refine cl (same_ok y2.1 _ [5, 4] (some ⟨b3, 0, none⟩) _ [5, 4] (by decide)) rfl (picked_nil _) ⟨⟨_, RdSI.rd (ad := y2.1)⟩, ⟨_, RdSI.rd (ad := some ⟨b3, 0, none⟩)⟩⟩ ?_
  intro _ _
  change TL _ _ _ _ _ _ _ _ (sepL [_, _, _, _, _, _, _, _])
  first | refine q rfl rfl (pkT rfl rfl) ?_ | refine q rfl rfl (pkF rfl rfl) ?_
  refine q rfl rfl (mv (v := .bool _) rfl) ?_
  refine TL.known 62 rfl (c := true) (by decide) ?_
  refine qg rfl rfl rfl (mv (v := .slice _ _ _) rfl) ?_
  refine qg rfl rfl rfl (len 3 1 rfl rfl) ?_
  refine qg rfl rfl rfl (eqI rfl rfl) ?_
  first | refine q rfl rfl (pkT rfl rfl) ?_ | refine q rfl rfl (pkF rfl rfl) ?_
  refine q rfl rfl (mv (v := .bool _) rfl) ?_
  refine TL.known 67 rfl (c := true) (by decide) ?_
  refine qg rfl rfl rfl (mv (v := .pointer _) rfl) ?_
  refine eg rfl rfl ?_
  refine cl (now_ok a 3 4 []) rfl PkL.p trivial ?_
  intro _ _
  change TL _ _ _ _ _ _ _ _ (sepL [_, _, _, _, _, _, _, _])
  refine qg rfl rfl rfl (eqI rfl rfl) ?_
  first | refine q rfl rfl (pkT rfl rfl) ?_ | refine q rfl rfl (pkF rfl rfl) ?_
  refine q rfl rfl (mv (v := .bool _) rfl) ?_
  refine TL.known 72 rfl (c := true) (by decide) ?_
  refine qg rfl rfl rfl (mv (v := .int _ _) rfl) ?_
  refine qg rfl rfl rfl (eqI rfl rfl) ?_
  first | refine q rfl rfl (pkT rfl rfl) ?_ | refine q rfl rfl (pkF rfl rfl) ?_
  refine q rfl rfl (mv (v := .bool _) rfl) ?_
  refine TL.known 76 rfl (c := true) (by decide) ?_
  refine qg rfl rfl rfl (mv (v := .int _ _) rfl) ?_
  refine qg rfl rfl rfl (eqI rfl rfl) ?_
  first | refine q rfl rfl (pkT rfl rfl) ?_ | refine q rfl rfl (pkF rfl rfl) ?_
  refine q rfl rfl (mv (v := .bool _) rfl) ?_
  refine TL.known 80 rfl (c := true) (by decide) ?_
  refine qg rfl rfl rfl (mv (v := .pointer _) rfl) ?_
  refine eg rfl rfl ?_
  refine cl (len_ok a 3 4 []) rfl PkL.p trivial ?_
  intro _ _
  change TL _ _ _ _ _ _ _ _ (sepL [_, _, _, _, _, _, _, _])
  refine qg rfl rfl rfl (eqI rfl rfl) ?_
  first | refine q rfl rfl (pkT rfl rfl) ?_ | refine q rfl rfl (pkF rfl rfl) ?_
  refine q rfl rfl (mv (v := .bool _) rfl) ?_
  refine TL.known 85 rfl (c := true) (by decide) ?_
  refine qg rfl rfl rfl (mv (v := .pointer _) rfl) ?_
  refine eg rfl rfl ?_
  refine cl (set_ok a 3 4 [] (by decide) 1 0) rfl PkL.p trivial ?_
  intro _ _
  change TL _ _ _ _ _ _ _ _ (sepL [_, _, _, _, _, _, _, _])
  rw [s10]
  dsimp only
  refine qg rfl rfl rfl (eqI rfl rfl) ?_
  first | refine q rfl rfl (pkT rfl rfl) ?_ | refine q rfl rfl (pkF rfl rfl) ?_
  refine q rfl rfl (asg (v := .bool _) rfl) ?_
  refine TL.nil (nt ?_)
  refine TC.ret ?_
  exact Ret.i () [_] ⟨rfl, trivial⟩ rfl trivial (ent_take 7 rfl (ent_nil _))

end Go.Proofs.Ytdikkmgcjhllaaa
