/-
  Proved here: what functions of this program compute, each as a contract over symbolic states, under the premises that each theorem names (most lines printed by a program of the prover).
-/
import Derived.Test.YtmffldmipddngaaQtC
namespace Go.Proofs.Ytmffldmipddngaa
open Go Go.QM
theorem tw_has (l c : Int) (k : List Qn) : hasQ ((⟨0, -1, l, c⟩ : Qn) :: k) 0 := ⟨_, List.mem_cons_self, rfl⟩
theorem t1_use (l c : Int) : useQ [⟨0, -1, l, c⟩] 0 = c ∧ limQ [⟨0, -1, l, c⟩] 0 = l ∧ chgQ [⟨0, -1, l, c⟩] 0 = c := by
  simp [useQ, limQ, chgQ, findQ, givQ, kidsQ, sumI]
theorem t2_use (l c ch : Int) : useQ [⟨0, -1, l, c⟩, ⟨1, 0, ch, 0⟩] 0 = c + ch ∧ limQ [⟨0, -1, l, c⟩, ⟨1, 0, ch, 0⟩] 0 = l ∧ chgQ [⟨0, -1, l, c⟩, ⟨1, 0, ch, 0⟩] 0 = c := by
  simp [useQ, limQ, chgQ, findQ, givQ, kidsQ, sumI]
theorem t2_kid (l c ch : Int) : hasQ [⟨0, -1, l, c⟩, ⟨1, 0, ch, 0⟩] 1 ∧ useQ [⟨0, -1, l, c⟩, ⟨1, 0, ch, 0⟩] 1 = 0 ∧ kidQ [⟨0, -1, l, c⟩, ⟨1, 0, ch, 0⟩] 1 = 0 := by
  refine ⟨⟨⟨1, 0, ch, 0⟩, by simp, rfl⟩, ?_, ?_⟩
  · simp [useQ, findQ, givQ, kidsQ, sumI]
  · simp [kidQ, kidsQ]
theorem t1_set (l n : Int) : setQ [⟨0, -1, l, 0⟩] 0 (0 + n) = [⟨0, -1, l, n⟩] := by simp [setQ]
theorem t2_set (l n ch : Int) : setQ [⟨0, -1, l, 0⟩, ⟨1, 0, ch, 0⟩] 0 (0 + n) = [⟨0, -1, l, n⟩, ⟨1, 0, ch, 0⟩] := by simp [setQ]
theorem t2_c0 (l c ch : Int) : closeQ [⟨0, -1, l, c⟩, ⟨1, 0, ch, 0⟩] 0 = ([⟨0, -1, l, c⟩, ⟨1, 0, ch, 0⟩], 1) := by
  rw [closeQ, if_neg (fun h => h (tw_has _ _ _)), if_pos rfl]
theorem t2_c1 (l c ch : Int) : closeQ [⟨0, -1, l, c⟩, ⟨1, 0, ch, 0⟩] 1 = ([⟨0, -1, l, c⟩], 0) := by
  obtain ⟨h1, h2, h3⟩ := t2_kid l c ch
  rw [closeQ, if_neg (fun h => h h1), if_neg (by decide), h2, h3, if_neg (by decide)]
  simp [offQ]
theorem t1_carve {l ch : Int} (h0 : 0 ≤ ch) (h : ch ≤ l) : carveQ [⟨0, -1, l, 0⟩] 1 0 ch = ([⟨0, -1, l, 0⟩, ⟨1, 0, ch, 0⟩], 2, 1, 0) := by
  obtain ⟨h1, h2, _⟩ := t1_use l 0
  rw [carveQ, if_neg (fun h => h (tw_has _ _ _)), if_neg (by omega), h1, h2, if_neg (by omega), if_neg (by simp)]; rfl
theorem t1_carve_no {l ch : Int} (h0 : 0 ≤ ch) (h : ¬ ch ≤ l) : carveQ [⟨0, -1, l, 0⟩] 1 0 ch = ([⟨0, -1, l, 0⟩], 1, 0, 5) := by
  obtain ⟨h1, h2, _⟩ := t1_use l 0
  rw [carveQ, if_neg (fun h => h (tw_has _ _ _)), if_neg (by omega), h1, h2, if_pos (by omega)]
theorem t1_neg (l n : Int) (k : List Qn) (h : n < 0) : chargeQ ((⟨0, -1, l, 0⟩ : Qn) :: k) 0 n = ((⟨0, -1, l, 0⟩ : Qn) :: k, 1) := by
  rw [chargeQ, if_neg (fun h => h (tw_has _ _ _)), if_pos h]
theorem t1_big {l n u : Int} {k : List Qn} (h : ¬ n < 0) (hu : useQ ((⟨0, -1, l, 0⟩ : Qn) :: k) 0 = u) (hl : limQ ((⟨0, -1, l, 0⟩ : Qn) :: k) 0 = l) (h2 : ¬ n ≤ l - u) : chargeQ ((⟨0, -1, l, 0⟩ : Qn) :: k) 0 n = ((⟨0, -1, l, 0⟩ : Qn) :: k, 5) := by
  rw [chargeQ, if_neg (fun h => h (tw_has _ _ _)), if_neg h, hu, hl, if_pos h2]
theorem t1_ok {l n u : Int} {k : List Qn} (h : ¬ n < 0) (hu : useQ ((⟨0, -1, l, 0⟩ : Qn) :: k) 0 = u) (hl : limQ ((⟨0, -1, l, 0⟩ : Qn) :: k) 0 = l) (hc : chgQ ((⟨0, -1, l, 0⟩ : Qn) :: k) 0 = 0) (h2 : n ≤ l - u) : chargeQ ((⟨0, -1, l, 0⟩ : Qn) :: k) 0 n = (setQ ((⟨0, -1, l, 0⟩ : Qn) :: k) 0 (0 + n), 0) := by
  rw [chargeQ, if_neg (fun h => h (tw_has _ _ _)), if_neg h, hu, hl, if_neg (fun h3 => h3 h2), hc]

set_option maxRecDepth 4000 in
set_option maxHeartbeats 1000000 in
theorem exact_ok (l ch n : Int) (hl : 0 ≤ l ∧ l ≤ 65535) (hch : 0 ≤ ch ∧ ch ≤ 65535) : FSpec Try.prog 7 [.int .u16 l, .int .u16 ch, .int .i64 n] noRd [] (fun _ : Unit => .bool true) (fun _ => True) (fun _ => []) := by
  refine FSpec.intro (rs := [.tmp 6]) (by kernel_rfl) Try.func7 rfl Try.ntmps7 (by rfl) rfl ?_
  intro F _
  change TC _ _ _ _ _ _ _ (sepL [_])
  refine TC.seq ?_
  refine TC.region ?_
  refine q rfl rfl (asg (v := .bool _) rfl) ?_
  refine TL.nil (nt ?_)
  refine TC.seq ?_
  refine TC.seq ?_
  refine TC.region ?_
  refine e rfl ?_
  refine cl alive_ok rfl (picked_nil _) trivial ?_
  intro _ _
  change TL _ _ _ _ _ _ _ _ (sepL [_])
  first | refine q rfl rfl (notD rfl) ?_ | refine q rfl rfl (notB rfl) ?_
  refine TL.nil (nt ?_)
  refine TC.condF rfl ?_
  refine TC.skip (nt ?_)
  refine TC.seq ?_
  refine TC.region ?_
  refine q rfl rfl (mv (v := .int _ _) rfl) ?_
  first | refine q rfl rfl (conv .u16 .i64 rfl rfl rfl (wi64 (by omega) (by omega))) ?_ | refine q rfl rfl (conv .u16 .i64 rfl rfl rfl rfl) ?_
  refine e rfl ?_
  refine cl (qnew_ok l (by omega)) rfl (picked_nil _) trivial ?_
  intro a _
  change TL _ _ _ _ _ _ _ _ (sepL [_, _])
  refine q rfl rfl (asg (v := .pointer _) rfl) ?_
  refine TL.nil (nt ?_)
  refine TC.seq ?_
  refine TC.region ?_
  refine q rfl rfl (mv (v := .pointer _) rfl) ?_
  refine q rfl rfl (mv (v := .int _ _) rfl) ?_
  first | refine q rfl rfl (conv .u16 .i64 rfl rfl rfl (wi64 (by omega) (by omega))) ?_ | refine q rfl rfl (conv .u16 .i64 rfl rfl rfl rfl) ?_
  refine e rfl ?_
  refine cl (qcarve_ok a [⟨0, -1, l, 0⟩] 1 0 ch (by decide)) rfl PkL.p trivial ?_
  intro _ _
  change TL _ _ _ _ _ _ _ _ (sepL [_, _])
  by_cases hc : ch ≤ l
  · rw [t1_carve hch.1 hc]
    dsimp only
    obtain ⟨hu, hlm, hcg⟩ := t2_use l 0 ch
    refine q rfl rfl (mv (v := .tuple _) rfl) ?_
    refine q rfl rfl (pu (v := .int _ _) (fun _ => rfl)) ?_
    refine q rfl rfl (pu (v := .int _ _) (fun _ => rfl)) ?_
    refine q rfl rfl (asg (v := .int _ _) rfl) ?_
    refine q rfl rfl (asg (v := .int _ _) rfl) ?_
    refine TL.nil (nt ?_)
    refine TC.seq ?_
    refine TC.seq ?_
    refine TC.region ?_
    refine q rfl rfl (mv (v := .int _ _) rfl) ?_
    refine q rfl rfl (eqI rfl rfl) ?_
    refine q rfl rfl (mv (v := .int _ _) rfl) ?_
    refine q rfl rfl (mv (v := .int _ _) rfl) ?_
    refine q rfl rfl (leq rfl rfl) ?_
    rw [decide_eq_true hc]
    refine q rfl rfl (neBo rfl rfl rfl) ?_
    refine TL.nil (nt ?_)
    refine TC.condF rfl ?_
    refine TC.skip (nt ?_)
    refine TC.seq ?_
    refine TC.region ?_
    refine q rfl rfl (mv (v := .int _ _) rfl) ?_
    first | refine q rfl rfl (conv .u16 .i64 rfl rfl rfl (wi64 (by omega) (by omega))) ?_ | refine q rfl rfl (conv .u16 .i64 rfl rfl rfl rfl) ?_
    refine q rfl rfl (mv (v := .pointer _) rfl) ?_
    refine e rfl ?_
    refine cl (quses_ok a [⟨0, -1, l, 0⟩, ⟨1, 0, ch, 0⟩] 2 0) rfl PkL.p trivial ?_
    intro _ _
    change TL _ _ _ _ _ _ _ _ (sepL [_, _])
    rw [hu]
    first | refine q rfl rfl (subI rfl rfl (by omega) (by omega)) ?_ | refine q rfl rfl (sub rfl rfl rfl) ?_
    refine q rfl rfl (asg (v := .int _ _) rfl) ?_
    refine TL.nil (nt ?_)
    refine TC.seq ?_
    refine TC.region ?_
    refine q rfl rfl (mv (v := .pointer _) rfl) ?_
    refine q rfl rfl (mv (v := .int _ _) rfl) ?_
    refine e rfl ?_
    refine cl (qcharge_ok a [⟨0, -1, l, 0⟩, ⟨1, 0, ch, 0⟩] 2 0 n) rfl PkL.p trivial ?_
    intro _ _
    change TL _ _ _ _ _ _ _ _ (sepL [_, _])
    by_cases hn : n < 0
    · rw [t1_neg l n _ hn]
      dsimp only
      refine q rfl rfl (asg (v := .int _ _) rfl) ?_
      refine TL.nil (nt ?_)
      refine TC.seq ?_
      refine TC.seq ?_
      refine TC.region ?_
      refine q rfl rfl (mv (v := .int _ _) rfl) ?_
      refine q rfl rfl (eqI rfl rfl) ?_
      refine q rfl rfl (mv (v := .int _ _) rfl) ?_
      refine q rfl rfl (geq rfl rfl) ?_
      refine q rfl rfl (mv (v := .bool _) rfl) ?_
      refine TL.known 42 rfl (c := false) (decide_eq_false (by omega)) ?_
      refine qs rfl rfl ?_
      refine qs rfl rfl ?_
      refine qs rfl rfl ?_
      first | refine q rfl rfl (pkT (v := .bool _) rfl rfl) ?_ | refine q rfl rfl (pkF (v := .bool _) rfl rfl) ?_
      refine q rfl rfl (neBo rfl rfl rfl) ?_
      refine q rfl rfl (mv (v := .bool _) rfl) ?_
      refine TL.known 48 rfl (c := false) (by decide) ?_
      refine qg rfl rfl rfl (mv (v := .int _ _) rfl) ?_
      refine qg rfl rfl rfl (eqI rfl rfl) ?_
      refine qg rfl rfl rfl (mv (v := .bool _) rfl) ?_
      refine TL.known 51 rfl (c := false) (by decide) ?_
      refine qs rfl rfl ?_
      refine qs rfl rfl ?_
      refine qs rfl rfl ?_
      refine qs rfl rfl ?_
      refine qs rfl rfl ?_
      refine qs rfl rfl ?_
      refine qs rfl rfl ?_
      refine qs rfl rfl ?_
      refine qs rfl rfl ?_
      first | refine qg rfl rfl rfl (pkT (v := .bool _) rfl rfl) ?_ | refine qg rfl rfl rfl (pkF (v := .bool _) rfl rfl) ?_
      first | refine q rfl rfl (pkT (v := .bool _) rfl rfl) ?_ | refine q rfl rfl (pkF (v := .bool _) rfl rfl) ?_
      refine q rfl rfl (mv (v := .bool _) rfl) ?_
      refine TL.known 63 rfl (c := false) rfl ?_
      refine qg rfl rfl rfl (mv (v := .int _ _) rfl) ?_
      refine qg rfl rfl rfl (neI rfl rfl) ?_
      refine qg rfl rfl rfl (mv (v := .bool _) rfl) ?_
      refine TL.known 66 rfl (c := true) (by decide) ?_
      refine qg rfl rfl rfl (mv (v := .pointer _) rfl) ?_
      refine eg rfl rfl ?_
      refine cl (quses_ok a [⟨0, -1, l, 0⟩, ⟨1, 0, ch, 0⟩] 2 0) rfl PkL.p trivial ?_
      intro _ _
      change TL _ _ _ _ _ _ _ _ (sepL [_, _])
      rw [hu]
      refine qg rfl rfl rfl (mv (v := .int _ _) rfl) ?_
      first | refine qg rfl rfl rfl (conv .u16 .i64 rfl rfl rfl (wi64 (by omega) (by omega))) ?_ | refine qg rfl rfl rfl (conv .u16 .i64 rfl rfl rfl rfl) ?_
      refine qg rfl rfl rfl (mv (v := .int _ _) rfl) ?_
      first | refine qg rfl rfl rfl (subI rfl rfl (by omega) (by omega)) ?_ | refine qg rfl rfl rfl (sub rfl rfl rfl) ?_
      refine qg rfl rfl rfl (neI rfl rfl) ?_
      first | refine qg rfl rfl rfl (pkT (v := .bool _) rfl rfl) ?_ | refine qg rfl rfl rfl (pkF (v := .bool _) rfl rfl) ?_
      first | refine q rfl rfl (pkT (v := .bool _) rfl rfl) ?_ | refine q rfl rfl (pkF (v := .bool _) rfl rfl) ?_
      refine TL.nil (nt ?_)
      refine TC.condD rfl (fun hc1 => absurd hc1 (by omega)) (fun hc1 => ?_)
      refine TC.skip (nt ?_)
      refine TC.seq ?_
      refine TC.seq ?_
      refine TC.region ?_
      refine q rfl rfl (mv (v := .int _ _) rfl) ?_
      refine q rfl rfl (neI rfl rfl) ?_
      refine TL.nil (nt ?_)
      refine TC.condD rfl (fun hc2 => absurd hc2 (by decide)) (fun hc2 => ?_)
      refine TC.skip (nt ?_)
      refine TC.seq ?_
      refine TC.region ?_
      refine e rfl ?_
      refine cl alive_ok rfl (picked_nil _) trivial ?_
      intro _ _
      change TL _ _ _ _ _ _ _ _ (sepL [_, _])
      refine q rfl rfl (mv (v := .bool _) rfl) ?_
      refine TL.known 84 rfl (c := true) rfl ?_
      refine qg rfl rfl rfl (mv (v := .pointer _) rfl) ?_
      refine eg rfl rfl ?_
      refine cl (qclose_ok a [⟨0, -1, l, 0⟩, ⟨1, 0, ch, 0⟩] 2 0) rfl PkL.p trivial ?_
      intro _ _
      change TL _ _ _ _ _ _ _ _ (sepL [_, _])
      rw [t2_c0]
      dsimp only
      refine qg rfl rfl rfl (eqI rfl rfl) ?_
      first | refine q rfl rfl (pkT (v := .bool _) rfl rfl) ?_ | refine q rfl rfl (pkF (v := .bool _) rfl rfl) ?_
      refine q rfl rfl (mv (v := .bool _) rfl) ?_
      refine TL.known 89 rfl (c := true) (by decide) ?_
      refine qg rfl rfl rfl (mv (v := .pointer _) rfl) ?_
      refine qg rfl rfl rfl (mv (v := .int _ _) rfl) ?_
      refine eg rfl rfl ?_
      refine cl (qclose_ok a [⟨0, -1, l, 0⟩, ⟨1, 0, ch, 0⟩] 2 1) rfl PkL.p trivial ?_
      intro _ _
      change TL _ _ _ _ _ _ _ _ (sepL [_, _])
      rw [t2_c1]
      dsimp only
      refine qg rfl rfl rfl (eqI rfl rfl) ?_
      first | refine q rfl rfl (pkT (v := .bool _) rfl rfl) ?_ | refine q rfl rfl (pkF (v := .bool _) rfl rfl) ?_
      refine q rfl rfl (mv (v := .bool _) rfl) ?_
      refine TL.known 95 rfl (c := true) (by decide) ?_
      refine qg rfl rfl rfl (mv (v := .pointer _) rfl) ?_
      refine eg rfl rfl ?_
      refine cl (quses_ok a [⟨0, -1, l, 0⟩] 2 0) rfl PkL.p trivial ?_
      intro _ _
      change TL _ _ _ _ _ _ _ _ (sepL [_, _])
      rw [(t1_use l (0)).1]
      refine qg rfl rfl rfl (mv (v := .pointer _) rfl) ?_
      refine eg rfl rfl ?_
      refine cl (qchg_ok a [⟨0, -1, l, 0⟩] 2 0) rfl PkL.p trivial ?_
      intro _ _
      change TL _ _ _ _ _ _ _ _ (sepL [_, _])
      rw [(t1_use l (0)).2.2]
      refine qg rfl rfl rfl (eqI rfl rfl) ?_
      rw [show decide ((0 : Int) = 0) = true from decide_eq_true rfl]
      first | refine q rfl rfl (pkT (v := .bool _) rfl rfl) ?_ | refine q rfl rfl (pkF (v := .bool _) rfl rfl) ?_
      refine q rfl rfl (asg (v := .bool _) rfl) ?_
      refine TL.nil (nt ?_)
      refine TC.ret ?_
      exact Ret.i () [_] ⟨rfl, trivial⟩ rfl trivial (ent_take 1 rfl (ent_nil _))
    · by_cases hf : n ≤ l - (0 + ch)
      · rw [t1_ok hn hu hlm hcg hf, t2_set]
        dsimp only
        refine q rfl rfl (asg (v := .int _ _) rfl) ?_
        refine TL.nil (nt ?_)
        refine TC.seq ?_
        refine TC.seq ?_
        refine TC.region ?_
        refine q rfl rfl (mv (v := .int _ _) rfl) ?_
        refine q rfl rfl (eqI rfl rfl) ?_
        refine q rfl rfl (mv (v := .int _ _) rfl) ?_
        refine q rfl rfl (geq rfl rfl) ?_
        refine q rfl rfl (mv (v := .bool _) rfl) ?_
        refine TL.known 42 rfl (c := true) (decide_eq_true (by omega)) ?_
        refine qg rfl rfl rfl (mv (v := .int _ _) rfl) ?_
        refine qg rfl rfl rfl (mv (v := .int _ _) rfl) ?_
        refine qg rfl rfl rfl (leq rfl rfl) ?_
        first | refine q rfl rfl (pkT (v := .bool _) rfl rfl) ?_ | refine q rfl rfl (pkF (v := .bool _) rfl rfl) ?_
        refine q rfl rfl (neBo rfl rfl rfl) ?_
        refine q rfl rfl (mv (v := .bool _) rfl) ?_
        refine TL.known 48 rfl (c := false) (by simp; omega) ?_
        refine qg rfl rfl rfl (mv (v := .int _ _) rfl) ?_
        refine qg rfl rfl rfl (eqI rfl rfl) ?_
        refine qg rfl rfl rfl (mv (v := .bool _) rfl) ?_
        refine TL.known 51 rfl (c := true) (by decide) ?_
        refine qg rfl rfl rfl (mv (v := .pointer _) rfl) ?_
        refine eg rfl rfl ?_
        refine cl (quses_ok a [⟨0, -1, l, n⟩, ⟨1, 0, ch, 0⟩] 2 0) rfl PkL.p trivial ?_
        intro _ _
        change TL _ _ _ _ _ _ _ _ (sepL [_, _])
        rw [(t2_use l n ch).1]
        refine qg rfl rfl rfl (mv (v := .int _ _) rfl) ?_
        first | refine qg rfl rfl rfl (conv .u16 .i64 rfl rfl rfl (wi64 (by omega) (by omega))) ?_ | refine qg rfl rfl rfl (conv .u16 .i64 rfl rfl rfl rfl) ?_
        refine qg rfl rfl rfl (mv (v := .int _ _) rfl) ?_
        first | refine qg rfl rfl rfl (subI rfl rfl (by omega) (by omega)) ?_ | refine qg rfl rfl rfl (sub rfl rfl rfl) ?_
        refine qg rfl rfl rfl (mv (v := .int _ _) rfl) ?_
        first | refine qg rfl rfl rfl (addI rfl rfl (by omega) (by omega)) ?_ | refine qg rfl rfl rfl (add rfl rfl rfl) ?_
        refine qg rfl rfl rfl (neI rfl rfl) ?_
        first | refine qg rfl rfl rfl (pkT (v := .bool _) rfl rfl) ?_ | refine qg rfl rfl rfl (pkF (v := .bool _) rfl rfl) ?_
        first | refine q rfl rfl (pkT (v := .bool _) rfl rfl) ?_ | refine q rfl rfl (pkF (v := .bool _) rfl rfl) ?_
        refine q rfl rfl (mv (v := .bool _) rfl) ?_
        refine TL.known 63 rfl (c := false) (decide_eq_false (by omega)) ?_
        refine qg rfl rfl rfl (mv (v := .int _ _) rfl) ?_
        refine qg rfl rfl rfl (neI rfl rfl) ?_
        refine qg rfl rfl rfl (mv (v := .bool _) rfl) ?_
        refine TL.known 66 rfl (c := false) (by decide) ?_
        refine qs rfl rfl ?_
        refine qs rfl rfl ?_
        refine qs rfl rfl ?_
        refine qs rfl rfl ?_
        refine qs rfl rfl ?_
        refine qs rfl rfl ?_
        refine qs rfl rfl ?_
        first | refine qg rfl rfl rfl (pkT (v := .bool _) rfl rfl) ?_ | refine qg rfl rfl rfl (pkF (v := .bool _) rfl rfl) ?_
        first | refine q rfl rfl (pkT (v := .bool _) rfl rfl) ?_ | refine q rfl rfl (pkF (v := .bool _) rfl rfl) ?_
        refine TL.nil (nt ?_)
        refine TC.condF rfl ?_
        refine TC.skip (nt ?_)
        refine TC.seq ?_
        refine TC.seq ?_
        refine TC.region ?_
        refine q rfl rfl (mv (v := .int _ _) rfl) ?_
        refine q rfl rfl (neI rfl rfl) ?_
        refine TL.nil (nt ?_)
        refine TC.condD rfl (fun hc5 => absurd hc5 (by decide)) (fun hc5 => ?_)
        refine TC.skip (nt ?_)
        refine TC.seq ?_
        refine TC.region ?_
        refine e rfl ?_
        refine cl alive_ok rfl (picked_nil _) trivial ?_
        intro _ _
        change TL _ _ _ _ _ _ _ _ (sepL [_, _])
        refine q rfl rfl (mv (v := .bool _) rfl) ?_
        refine TL.known 84 rfl (c := true) rfl ?_
        refine qg rfl rfl rfl (mv (v := .pointer _) rfl) ?_
        refine eg rfl rfl ?_
        refine cl (qclose_ok a [⟨0, -1, l, n⟩, ⟨1, 0, ch, 0⟩] 2 0) rfl PkL.p trivial ?_
        intro _ _
        change TL _ _ _ _ _ _ _ _ (sepL [_, _])
        rw [t2_c0]
        dsimp only
        refine qg rfl rfl rfl (eqI rfl rfl) ?_
        first | refine q rfl rfl (pkT (v := .bool _) rfl rfl) ?_ | refine q rfl rfl (pkF (v := .bool _) rfl rfl) ?_
        refine q rfl rfl (mv (v := .bool _) rfl) ?_
        refine TL.known 89 rfl (c := true) (by decide) ?_
        refine qg rfl rfl rfl (mv (v := .pointer _) rfl) ?_
        refine qg rfl rfl rfl (mv (v := .int _ _) rfl) ?_
        refine eg rfl rfl ?_
        refine cl (qclose_ok a [⟨0, -1, l, n⟩, ⟨1, 0, ch, 0⟩] 2 1) rfl PkL.p trivial ?_
        intro _ _
        change TL _ _ _ _ _ _ _ _ (sepL [_, _])
        rw [t2_c1]
        dsimp only
        refine qg rfl rfl rfl (eqI rfl rfl) ?_
        first | refine q rfl rfl (pkT (v := .bool _) rfl rfl) ?_ | refine q rfl rfl (pkF (v := .bool _) rfl rfl) ?_
        refine q rfl rfl (mv (v := .bool _) rfl) ?_
        refine TL.known 95 rfl (c := true) (by decide) ?_
        refine qg rfl rfl rfl (mv (v := .pointer _) rfl) ?_
        refine eg rfl rfl ?_
        refine cl (quses_ok a [⟨0, -1, l, n⟩] 2 0) rfl PkL.p trivial ?_
        intro _ _
        change TL _ _ _ _ _ _ _ _ (sepL [_, _])
        rw [(t1_use l (n)).1]
        refine qg rfl rfl rfl (mv (v := .pointer _) rfl) ?_
        refine eg rfl rfl ?_
        refine cl (qchg_ok a [⟨0, -1, l, n⟩] 2 0) rfl PkL.p trivial ?_
        intro _ _
        change TL _ _ _ _ _ _ _ _ (sepL [_, _])
        rw [(t1_use l (n)).2.2]
        refine qg rfl rfl rfl (eqI rfl rfl) ?_
        rw [show decide ((n : Int) = n) = true from decide_eq_true rfl]
        first | refine q rfl rfl (pkT (v := .bool _) rfl rfl) ?_ | refine q rfl rfl (pkF (v := .bool _) rfl rfl) ?_
        refine q rfl rfl (asg (v := .bool _) rfl) ?_
        refine TL.nil (nt ?_)
        refine TC.ret ?_
        exact Ret.i () [_] ⟨rfl, trivial⟩ rfl trivial (ent_take 1 rfl (ent_nil _))
      · rw [t1_big hn hu hlm hf]
        dsimp only
        refine q rfl rfl (asg (v := .int _ _) rfl) ?_
        refine TL.nil (nt ?_)
        refine TC.seq ?_
        refine TC.seq ?_
        refine TC.region ?_
        refine q rfl rfl (mv (v := .int _ _) rfl) ?_
        refine q rfl rfl (eqI rfl rfl) ?_
        refine q rfl rfl (mv (v := .int _ _) rfl) ?_
        refine q rfl rfl (geq rfl rfl) ?_
        refine q rfl rfl (mv (v := .bool _) rfl) ?_
        refine TL.known 42 rfl (c := true) (decide_eq_true (by omega)) ?_
        refine qg rfl rfl rfl (mv (v := .int _ _) rfl) ?_
        refine qg rfl rfl rfl (mv (v := .int _ _) rfl) ?_
        refine qg rfl rfl rfl (leq rfl rfl) ?_
        first | refine q rfl rfl (pkT (v := .bool _) rfl rfl) ?_ | refine q rfl rfl (pkF (v := .bool _) rfl rfl) ?_
        refine q rfl rfl (neBo rfl rfl rfl) ?_
        refine q rfl rfl (mv (v := .bool _) rfl) ?_
        refine TL.known 48 rfl (c := false) (by simp; omega) ?_
        refine qg rfl rfl rfl (mv (v := .int _ _) rfl) ?_
        refine qg rfl rfl rfl (eqI rfl rfl) ?_
        refine qg rfl rfl rfl (mv (v := .bool _) rfl) ?_
        refine TL.known 51 rfl (c := false) (by decide) ?_
        refine qs rfl rfl ?_
        refine qs rfl rfl ?_
        refine qs rfl rfl ?_
        refine qs rfl rfl ?_
        refine qs rfl rfl ?_
        refine qs rfl rfl ?_
        refine qs rfl rfl ?_
        refine qs rfl rfl ?_
        refine qs rfl rfl ?_
        first | refine qg rfl rfl rfl (pkT (v := .bool _) rfl rfl) ?_ | refine qg rfl rfl rfl (pkF (v := .bool _) rfl rfl) ?_
        first | refine q rfl rfl (pkT (v := .bool _) rfl rfl) ?_ | refine q rfl rfl (pkF (v := .bool _) rfl rfl) ?_
        refine q rfl rfl (mv (v := .bool _) rfl) ?_
        refine TL.known 63 rfl (c := false) rfl ?_
        refine qg rfl rfl rfl (mv (v := .int _ _) rfl) ?_
        refine qg rfl rfl rfl (neI rfl rfl) ?_
        refine qg rfl rfl rfl (mv (v := .bool _) rfl) ?_
        refine TL.known 66 rfl (c := true) (by decide) ?_
        refine qg rfl rfl rfl (mv (v := .pointer _) rfl) ?_
        refine eg rfl rfl ?_
        refine cl (quses_ok a [⟨0, -1, l, 0⟩, ⟨1, 0, ch, 0⟩] 2 0) rfl PkL.p trivial ?_
        intro _ _
        change TL _ _ _ _ _ _ _ _ (sepL [_, _])
        rw [hu]
        refine qg rfl rfl rfl (mv (v := .int _ _) rfl) ?_
        first | refine qg rfl rfl rfl (conv .u16 .i64 rfl rfl rfl (wi64 (by omega) (by omega))) ?_ | refine qg rfl rfl rfl (conv .u16 .i64 rfl rfl rfl rfl) ?_
        refine qg rfl rfl rfl (mv (v := .int _ _) rfl) ?_
        first | refine qg rfl rfl rfl (subI rfl rfl (by omega) (by omega)) ?_ | refine qg rfl rfl rfl (sub rfl rfl rfl) ?_
        refine qg rfl rfl rfl (neI rfl rfl) ?_
        first | refine qg rfl rfl rfl (pkT (v := .bool _) rfl rfl) ?_ | refine qg rfl rfl rfl (pkF (v := .bool _) rfl rfl) ?_
        first | refine q rfl rfl (pkT (v := .bool _) rfl rfl) ?_ | refine q rfl rfl (pkF (v := .bool _) rfl rfl) ?_
        refine TL.nil (nt ?_)
        refine TC.condD rfl (fun hc3 => absurd hc3 (by omega)) (fun hc3 => ?_)
        refine TC.skip (nt ?_)
        refine TC.seq ?_
        refine TC.seq ?_
        refine TC.region ?_
        refine q rfl rfl (mv (v := .int _ _) rfl) ?_
        refine q rfl rfl (neI rfl rfl) ?_
        refine TL.nil (nt ?_)
        refine TC.condD rfl (fun hc4 => absurd hc4 (by decide)) (fun hc4 => ?_)
        refine TC.skip (nt ?_)
        refine TC.seq ?_
        refine TC.region ?_
        refine e rfl ?_
        refine cl alive_ok rfl (picked_nil _) trivial ?_
        intro _ _
        change TL _ _ _ _ _ _ _ _ (sepL [_, _])
        refine q rfl rfl (mv (v := .bool _) rfl) ?_
        refine TL.known 84 rfl (c := true) rfl ?_
        refine qg rfl rfl rfl (mv (v := .pointer _) rfl) ?_
        refine eg rfl rfl ?_
        refine cl (qclose_ok a [⟨0, -1, l, 0⟩, ⟨1, 0, ch, 0⟩] 2 0) rfl PkL.p trivial ?_
        intro _ _
        change TL _ _ _ _ _ _ _ _ (sepL [_, _])
        rw [t2_c0]
        dsimp only
        refine qg rfl rfl rfl (eqI rfl rfl) ?_
        first | refine q rfl rfl (pkT (v := .bool _) rfl rfl) ?_ | refine q rfl rfl (pkF (v := .bool _) rfl rfl) ?_
        refine q rfl rfl (mv (v := .bool _) rfl) ?_
        refine TL.known 89 rfl (c := true) (by decide) ?_
        refine qg rfl rfl rfl (mv (v := .pointer _) rfl) ?_
        refine qg rfl rfl rfl (mv (v := .int _ _) rfl) ?_
        refine eg rfl rfl ?_
        refine cl (qclose_ok a [⟨0, -1, l, 0⟩, ⟨1, 0, ch, 0⟩] 2 1) rfl PkL.p trivial ?_
        intro _ _
        change TL _ _ _ _ _ _ _ _ (sepL [_, _])
        rw [t2_c1]
        dsimp only
        refine qg rfl rfl rfl (eqI rfl rfl) ?_
        first | refine q rfl rfl (pkT (v := .bool _) rfl rfl) ?_ | refine q rfl rfl (pkF (v := .bool _) rfl rfl) ?_
        refine q rfl rfl (mv (v := .bool _) rfl) ?_
        refine TL.known 95 rfl (c := true) (by decide) ?_
        refine qg rfl rfl rfl (mv (v := .pointer _) rfl) ?_
        refine eg rfl rfl ?_
        refine cl (quses_ok a [⟨0, -1, l, 0⟩] 2 0) rfl PkL.p trivial ?_
        intro _ _
        change TL _ _ _ _ _ _ _ _ (sepL [_, _])
        rw [(t1_use l (0)).1]
        refine qg rfl rfl rfl (mv (v := .pointer _) rfl) ?_
        refine eg rfl rfl ?_
        refine cl (qchg_ok a [⟨0, -1, l, 0⟩] 2 0) rfl PkL.p trivial ?_
        intro _ _
        change TL _ _ _ _ _ _ _ _ (sepL [_, _])
        rw [(t1_use l (0)).2.2]
        refine qg rfl rfl rfl (eqI rfl rfl) ?_
        rw [show decide ((0 : Int) = 0) = true from decide_eq_true rfl]
        first | refine q rfl rfl (pkT (v := .bool _) rfl rfl) ?_ | refine q rfl rfl (pkF (v := .bool _) rfl rfl) ?_
        refine q rfl rfl (asg (v := .bool _) rfl) ?_
        refine TL.nil (nt ?_)
        refine TC.ret ?_
        exact Ret.i () [_] ⟨rfl, trivial⟩ rfl trivial (ent_take 1 rfl (ent_nil _))
  · rw [t1_carve_no hch.1 hc]
    dsimp only
    obtain ⟨hu, hlm, hcg⟩ := t1_use l 0
    refine q rfl rfl (mv (v := .tuple _) rfl) ?_
    refine q rfl rfl (pu (v := .int _ _) (fun _ => rfl)) ?_
    refine q rfl rfl (pu (v := .int _ _) (fun _ => rfl)) ?_
    refine q rfl rfl (asg (v := .int _ _) rfl) ?_
    refine q rfl rfl (asg (v := .int _ _) rfl) ?_
    refine TL.nil (nt ?_)
    refine TC.seq ?_
    refine TC.seq ?_
    refine TC.region ?_
    refine q rfl rfl (mv (v := .int _ _) rfl) ?_
    refine q rfl rfl (eqI rfl rfl) ?_
    refine q rfl rfl (mv (v := .int _ _) rfl) ?_
    refine q rfl rfl (mv (v := .int _ _) rfl) ?_
    refine q rfl rfl (leq rfl rfl) ?_
    rw [decide_eq_false hc]
    refine q rfl rfl (neBo rfl rfl rfl) ?_
    refine TL.nil (nt ?_)
    refine TC.condF rfl ?_
    refine TC.skip (nt ?_)
    refine TC.seq ?_
    refine TC.region ?_
    refine q rfl rfl (mv (v := .int _ _) rfl) ?_
    first | refine q rfl rfl (conv .u16 .i64 rfl rfl rfl (wi64 (by omega) (by omega))) ?_ | refine q rfl rfl (conv .u16 .i64 rfl rfl rfl rfl) ?_
    refine q rfl rfl (mv (v := .pointer _) rfl) ?_
    refine e rfl ?_
    refine cl (quses_ok a [⟨0, -1, l, 0⟩] 1 0) rfl PkL.p trivial ?_
    intro _ _
    change TL _ _ _ _ _ _ _ _ (sepL [_, _])
    rw [hu]
    first | refine q rfl rfl (subI rfl rfl (by omega) (by omega)) ?_ | refine q rfl rfl (sub rfl rfl rfl) ?_
    refine q rfl rfl (asg (v := .int _ _) rfl) ?_
    refine TL.nil (nt ?_)
    refine TC.seq ?_
    refine TC.region ?_
    refine q rfl rfl (mv (v := .pointer _) rfl) ?_
    refine q rfl rfl (mv (v := .int _ _) rfl) ?_
    refine e rfl ?_
    refine cl (qcharge_ok a [⟨0, -1, l, 0⟩] 1 0 n) rfl PkL.p trivial ?_
    intro _ _
    change TL _ _ _ _ _ _ _ _ (sepL [_, _])
    by_cases hn : n < 0
    · rw [t1_neg l n _ hn]
      dsimp only
      refine q rfl rfl (asg (v := .int _ _) rfl) ?_
      refine TL.nil (nt ?_)
      refine TC.seq ?_
      refine TC.seq ?_
      refine TC.region ?_
      refine q rfl rfl (mv (v := .int _ _) rfl) ?_
      refine q rfl rfl (eqI rfl rfl) ?_
      refine q rfl rfl (mv (v := .int _ _) rfl) ?_
      refine q rfl rfl (geq rfl rfl) ?_
      refine q rfl rfl (mv (v := .bool _) rfl) ?_
      refine TL.known 42 rfl (c := false) (decide_eq_false (by omega)) ?_
      refine qs rfl rfl ?_
      refine qs rfl rfl ?_
      refine qs rfl rfl ?_
      first | refine q rfl rfl (pkT (v := .bool _) rfl rfl) ?_ | refine q rfl rfl (pkF (v := .bool _) rfl rfl) ?_
      refine q rfl rfl (neBo rfl rfl rfl) ?_
      refine q rfl rfl (mv (v := .bool _) rfl) ?_
      refine TL.known 48 rfl (c := false) (by decide) ?_
      refine qg rfl rfl rfl (mv (v := .int _ _) rfl) ?_
      refine qg rfl rfl rfl (eqI rfl rfl) ?_
      refine qg rfl rfl rfl (mv (v := .bool _) rfl) ?_
      refine TL.known 51 rfl (c := false) (by decide) ?_
      refine qs rfl rfl ?_
      refine qs rfl rfl ?_
      refine qs rfl rfl ?_
      refine qs rfl rfl ?_
      refine qs rfl rfl ?_
      refine qs rfl rfl ?_
      refine qs rfl rfl ?_
      refine qs rfl rfl ?_
      refine qs rfl rfl ?_
      first | refine qg rfl rfl rfl (pkT (v := .bool _) rfl rfl) ?_ | refine qg rfl rfl rfl (pkF (v := .bool _) rfl rfl) ?_
      first | refine q rfl rfl (pkT (v := .bool _) rfl rfl) ?_ | refine q rfl rfl (pkF (v := .bool _) rfl rfl) ?_
      refine q rfl rfl (mv (v := .bool _) rfl) ?_
      refine TL.known 63 rfl (c := false) rfl ?_
      refine qg rfl rfl rfl (mv (v := .int _ _) rfl) ?_
      refine qg rfl rfl rfl (neI rfl rfl) ?_
      refine qg rfl rfl rfl (mv (v := .bool _) rfl) ?_
      refine TL.known 66 rfl (c := true) (by decide) ?_
      refine qg rfl rfl rfl (mv (v := .pointer _) rfl) ?_
      refine eg rfl rfl ?_
      refine cl (quses_ok a [⟨0, -1, l, 0⟩] 1 0) rfl PkL.p trivial ?_
      intro _ _
      change TL _ _ _ _ _ _ _ _ (sepL [_, _])
      rw [hu]
      refine qg rfl rfl rfl (mv (v := .int _ _) rfl) ?_
      first | refine qg rfl rfl rfl (conv .u16 .i64 rfl rfl rfl (wi64 (by omega) (by omega))) ?_ | refine qg rfl rfl rfl (conv .u16 .i64 rfl rfl rfl rfl) ?_
      refine qg rfl rfl rfl (mv (v := .int _ _) rfl) ?_
      first | refine qg rfl rfl rfl (subI rfl rfl (by omega) (by omega)) ?_ | refine qg rfl rfl rfl (sub rfl rfl rfl) ?_
      refine qg rfl rfl rfl (neI rfl rfl) ?_
      first | refine qg rfl rfl rfl (pkT (v := .bool _) rfl rfl) ?_ | refine qg rfl rfl rfl (pkF (v := .bool _) rfl rfl) ?_
      first | refine q rfl rfl (pkT (v := .bool _) rfl rfl) ?_ | refine q rfl rfl (pkF (v := .bool _) rfl rfl) ?_
      refine TL.nil (nt ?_)
      refine TC.condD rfl (fun hc6 => absurd hc6 (by omega)) (fun hc6 => ?_)
      refine TC.skip (nt ?_)
      refine TC.seq ?_
      refine TC.seq ?_
      refine TC.region ?_
      refine q rfl rfl (mv (v := .int _ _) rfl) ?_
      refine q rfl rfl (neI rfl rfl) ?_
      refine TL.nil (nt ?_)
      refine TC.condD rfl (fun hc7 => ?_) (fun hc7 => absurd (by decide) hc7)
      refine TC.seq ?_
      refine TC.region ?_
      refine e rfl ?_
      refine cl alive_ok rfl (picked_nil _) trivial ?_
      intro _ _
      change TL _ _ _ _ _ _ _ _ (sepL [_, _])
      refine q rfl rfl (mv (v := .bool _) rfl) ?_
      refine TL.known 79 rfl (c := true) rfl ?_
      refine qg rfl rfl rfl (mv (v := .int _ _) rfl) ?_
      refine qg rfl rfl rfl (eqI rfl rfl) ?_
      first | refine q rfl rfl (pkT (v := .bool _) rfl rfl) ?_ | refine q rfl rfl (pkF (v := .bool _) rfl rfl) ?_
      refine q rfl rfl (asg (v := .bool _) rfl) ?_
      refine TL.nil (nt ?_)
      refine TC.ret (rt ?_)
      exact Ret.i () [_] ⟨rfl, trivial⟩ rfl trivial (ent_take 1 rfl (ent_nil _))
    · by_cases hf : n ≤ l - (0)
      · rw [t1_ok hn hu hlm hcg hf, t1_set]
        dsimp only
        refine q rfl rfl (asg (v := .int _ _) rfl) ?_
        refine TL.nil (nt ?_)
        refine TC.seq ?_
        refine TC.seq ?_
        refine TC.region ?_
        refine q rfl rfl (mv (v := .int _ _) rfl) ?_
        refine q rfl rfl (eqI rfl rfl) ?_
        refine q rfl rfl (mv (v := .int _ _) rfl) ?_
        refine q rfl rfl (geq rfl rfl) ?_
        refine q rfl rfl (mv (v := .bool _) rfl) ?_
        refine TL.known 42 rfl (c := true) (decide_eq_true (by omega)) ?_
        refine qg rfl rfl rfl (mv (v := .int _ _) rfl) ?_
        refine qg rfl rfl rfl (mv (v := .int _ _) rfl) ?_
        refine qg rfl rfl rfl (leq rfl rfl) ?_
        first | refine q rfl rfl (pkT (v := .bool _) rfl rfl) ?_ | refine q rfl rfl (pkF (v := .bool _) rfl rfl) ?_
        refine q rfl rfl (neBo rfl rfl rfl) ?_
        refine q rfl rfl (mv (v := .bool _) rfl) ?_
        refine TL.known 48 rfl (c := false) (by simp; omega) ?_
        refine qg rfl rfl rfl (mv (v := .int _ _) rfl) ?_
        refine qg rfl rfl rfl (eqI rfl rfl) ?_
        refine qg rfl rfl rfl (mv (v := .bool _) rfl) ?_
        refine TL.known 51 rfl (c := true) (by decide) ?_
        refine qg rfl rfl rfl (mv (v := .pointer _) rfl) ?_
        refine eg rfl rfl ?_
        refine cl (quses_ok a [⟨0, -1, l, n⟩] 1 0) rfl PkL.p trivial ?_
        intro _ _
        change TL _ _ _ _ _ _ _ _ (sepL [_, _])
        rw [(t1_use l n).1]
        refine qg rfl rfl rfl (mv (v := .int _ _) rfl) ?_
        first | refine qg rfl rfl rfl (conv .u16 .i64 rfl rfl rfl (wi64 (by omega) (by omega))) ?_ | refine qg rfl rfl rfl (conv .u16 .i64 rfl rfl rfl rfl) ?_
        refine qg rfl rfl rfl (mv (v := .int _ _) rfl) ?_
        first | refine qg rfl rfl rfl (subI rfl rfl (by omega) (by omega)) ?_ | refine qg rfl rfl rfl (sub rfl rfl rfl) ?_
        refine qg rfl rfl rfl (mv (v := .int _ _) rfl) ?_
        first | refine qg rfl rfl rfl (addI rfl rfl (by omega) (by omega)) ?_ | refine qg rfl rfl rfl (add rfl rfl rfl) ?_
        refine qg rfl rfl rfl (neI rfl rfl) ?_
        first | refine qg rfl rfl rfl (pkT (v := .bool _) rfl rfl) ?_ | refine qg rfl rfl rfl (pkF (v := .bool _) rfl rfl) ?_
        first | refine q rfl rfl (pkT (v := .bool _) rfl rfl) ?_ | refine q rfl rfl (pkF (v := .bool _) rfl rfl) ?_
        refine q rfl rfl (mv (v := .bool _) rfl) ?_
        refine TL.known 63 rfl (c := false) (decide_eq_false (by omega)) ?_
        refine qg rfl rfl rfl (mv (v := .int _ _) rfl) ?_
        refine qg rfl rfl rfl (neI rfl rfl) ?_
        refine qg rfl rfl rfl (mv (v := .bool _) rfl) ?_
        refine TL.known 66 rfl (c := false) (by decide) ?_
        refine qs rfl rfl ?_
        refine qs rfl rfl ?_
        refine qs rfl rfl ?_
        refine qs rfl rfl ?_
        refine qs rfl rfl ?_
        refine qs rfl rfl ?_
        refine qs rfl rfl ?_
        first | refine qg rfl rfl rfl (pkT (v := .bool _) rfl rfl) ?_ | refine qg rfl rfl rfl (pkF (v := .bool _) rfl rfl) ?_
        first | refine q rfl rfl (pkT (v := .bool _) rfl rfl) ?_ | refine q rfl rfl (pkF (v := .bool _) rfl rfl) ?_
        refine TL.nil (nt ?_)
        refine TC.condF rfl ?_
        refine TC.skip (nt ?_)
        refine TC.seq ?_
        refine TC.seq ?_
        refine TC.region ?_
        refine q rfl rfl (mv (v := .int _ _) rfl) ?_
        refine q rfl rfl (neI rfl rfl) ?_
        refine TL.nil (nt ?_)
        refine TC.condD rfl (fun hc10 => ?_) (fun hc10 => absurd (by decide) hc10)
        refine TC.seq ?_
        refine TC.region ?_
        refine e rfl ?_
        refine cl alive_ok rfl (picked_nil _) trivial ?_
        intro _ _
        change TL _ _ _ _ _ _ _ _ (sepL [_, _])
        refine q rfl rfl (mv (v := .bool _) rfl) ?_
        refine TL.known 79 rfl (c := true) rfl ?_
        refine qg rfl rfl rfl (mv (v := .int _ _) rfl) ?_
        refine qg rfl rfl rfl (eqI rfl rfl) ?_
        first | refine q rfl rfl (pkT (v := .bool _) rfl rfl) ?_ | refine q rfl rfl (pkF (v := .bool _) rfl rfl) ?_
        refine q rfl rfl (asg (v := .bool _) rfl) ?_
        refine TL.nil (nt ?_)
        refine TC.ret (rt ?_)
        exact Ret.i () [_] ⟨rfl, trivial⟩ rfl trivial (ent_take 1 rfl (ent_nil _))
      · rw [t1_big hn hu hlm hf]
        dsimp only
        refine q rfl rfl (asg (v := .int _ _) rfl) ?_
        refine TL.nil (nt ?_)
        refine TC.seq ?_
        refine TC.seq ?_
        refine TC.region ?_
        refine q rfl rfl (mv (v := .int _ _) rfl) ?_
        refine q rfl rfl (eqI rfl rfl) ?_
        refine q rfl rfl (mv (v := .int _ _) rfl) ?_
        refine q rfl rfl (geq rfl rfl) ?_
        refine q rfl rfl (mv (v := .bool _) rfl) ?_
        refine TL.known 42 rfl (c := true) (decide_eq_true (by omega)) ?_
        refine qg rfl rfl rfl (mv (v := .int _ _) rfl) ?_
        refine qg rfl rfl rfl (mv (v := .int _ _) rfl) ?_
        refine qg rfl rfl rfl (leq rfl rfl) ?_
        first | refine q rfl rfl (pkT (v := .bool _) rfl rfl) ?_ | refine q rfl rfl (pkF (v := .bool _) rfl rfl) ?_
        refine q rfl rfl (neBo rfl rfl rfl) ?_
        refine q rfl rfl (mv (v := .bool _) rfl) ?_
        refine TL.known 48 rfl (c := false) (by simp; omega) ?_
        refine qg rfl rfl rfl (mv (v := .int _ _) rfl) ?_
        refine qg rfl rfl rfl (eqI rfl rfl) ?_
        refine qg rfl rfl rfl (mv (v := .bool _) rfl) ?_
        refine TL.known 51 rfl (c := false) (by decide) ?_
        refine qs rfl rfl ?_
        refine qs rfl rfl ?_
        refine qs rfl rfl ?_
        refine qs rfl rfl ?_
        refine qs rfl rfl ?_
        refine qs rfl rfl ?_
        refine qs rfl rfl ?_
        refine qs rfl rfl ?_
        refine qs rfl rfl ?_
        first | refine qg rfl rfl rfl (pkT (v := .bool _) rfl rfl) ?_ | refine qg rfl rfl rfl (pkF (v := .bool _) rfl rfl) ?_
        first | refine q rfl rfl (pkT (v := .bool _) rfl rfl) ?_ | refine q rfl rfl (pkF (v := .bool _) rfl rfl) ?_
        refine q rfl rfl (mv (v := .bool _) rfl) ?_
        refine TL.known 63 rfl (c := false) rfl ?_
        refine qg rfl rfl rfl (mv (v := .int _ _) rfl) ?_
        refine qg rfl rfl rfl (neI rfl rfl) ?_
        refine qg rfl rfl rfl (mv (v := .bool _) rfl) ?_
        refine TL.known 66 rfl (c := true) (by decide) ?_
        refine qg rfl rfl rfl (mv (v := .pointer _) rfl) ?_
        refine eg rfl rfl ?_
        refine cl (quses_ok a [⟨0, -1, l, 0⟩] 1 0) rfl PkL.p trivial ?_
        intro _ _
        change TL _ _ _ _ _ _ _ _ (sepL [_, _])
        rw [hu]
        refine qg rfl rfl rfl (mv (v := .int _ _) rfl) ?_
        first | refine qg rfl rfl rfl (conv .u16 .i64 rfl rfl rfl (wi64 (by omega) (by omega))) ?_ | refine qg rfl rfl rfl (conv .u16 .i64 rfl rfl rfl rfl) ?_
        refine qg rfl rfl rfl (mv (v := .int _ _) rfl) ?_
        first | refine qg rfl rfl rfl (subI rfl rfl (by omega) (by omega)) ?_ | refine qg rfl rfl rfl (sub rfl rfl rfl) ?_
        refine qg rfl rfl rfl (neI rfl rfl) ?_
        first | refine qg rfl rfl rfl (pkT (v := .bool _) rfl rfl) ?_ | refine qg rfl rfl rfl (pkF (v := .bool _) rfl rfl) ?_
        first | refine q rfl rfl (pkT (v := .bool _) rfl rfl) ?_ | refine q rfl rfl (pkF (v := .bool _) rfl rfl) ?_
        refine TL.nil (nt ?_)
        refine TC.condD rfl (fun hc8 => absurd hc8 (by omega)) (fun hc8 => ?_)
        refine TC.skip (nt ?_)
        refine TC.seq ?_
        refine TC.seq ?_
        refine TC.region ?_
        refine q rfl rfl (mv (v := .int _ _) rfl) ?_
        refine q rfl rfl (neI rfl rfl) ?_
        refine TL.nil (nt ?_)
        refine TC.condD rfl (fun hc9 => ?_) (fun hc9 => absurd (by decide) hc9)
        refine TC.seq ?_
        refine TC.region ?_
        refine e rfl ?_
        refine cl alive_ok rfl (picked_nil _) trivial ?_
        intro _ _
        change TL _ _ _ _ _ _ _ _ (sepL [_, _])
        refine q rfl rfl (mv (v := .bool _) rfl) ?_
        refine TL.known 79 rfl (c := true) rfl ?_
        refine qg rfl rfl rfl (mv (v := .int _ _) rfl) ?_
        refine qg rfl rfl rfl (eqI rfl rfl) ?_
        first | refine q rfl rfl (pkT (v := .bool _) rfl rfl) ?_ | refine q rfl rfl (pkF (v := .bool _) rfl rfl) ?_
        refine q rfl rfl (asg (v := .bool _) rfl) ?_
        refine TL.nil (nt ?_)
        refine TC.ret (rt ?_)
        exact Ret.i () [_] ⟨rfl, trivial⟩ rfl trivial (ent_take 1 rfl (ent_nil _))

end Go.Proofs.Ytmffldmipddngaa
