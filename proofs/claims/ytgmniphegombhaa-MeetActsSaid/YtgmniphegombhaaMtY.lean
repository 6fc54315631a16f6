/-
  Proved here: what functions of this program compute, each as a contract over symbolic states, under the premises that each theorem names (most lines printed by a program of the prover).
-/
import Derived.Test.YtgmniphegombhaaMtX
namespace Go.Proofs.Ytgmniphegombhaa
open Go Go.QM
theorem shiftD.zero : shiftD s0 r0F 0 := ⟨WM.zero, MR.zero, Nat.le_refl _, Nat.le_refl _⟩
theorem rf_zero (b : Nat) {E L S : Nat} {hs : List HP} : True := trivial

set_option maxRecDepth 4000 in
set_option maxHeartbeats 4000000 in
theorem macts_ok (ad : Option Addr) (l : List MAct) (cap : Nat) : FSpec Try.prog 8 [.slice ad l.length cap] (fun F => ∃ E, RdS F E ad (mactsC l)) [] (fun _ : Unit => .bool true) (fun _ => True) (fun _ => []) := by
  refine FSpec.intro (rs := [.tmp 2]) (by kernel_rfl) Try.func8 rfl Try.ntmps8 (by rfl) rfl ?_
  intro F ⟨E, hF⟩
  change TC _ _ _ _ _ _ _ (sepL [_])
  haveI : RdSI F ad E (mactsC l) := ⟨hF⟩
  have hll := mactsC_length l
  refine TC.seq ?_
  refine TC.region ?_
  refine q rfl rfl (asg (v := .bool _) rfl) ?_
  refine TL.nil (nt ?_)
  refine TC.seq ?_
  refine TC.seq ?_
  refine TC.region ?_
  refine e rfl ?_
  refine cl alive_ok rfl (picked_nil _) trivial ?_
  intro _ _
  change TL _ _ _ _ _ _ _ _ (sepL [_])
  first | refine q rfl rfl (notD rfl) ?_ | refine q rfl rfl (notB rfl) ?_
  refine TL.nil (nt ?_)
  refine TC.condF rfl ?_
  refine TC.skip (nt ?_)
  refine TC.seq ?_
  refine TC.seq ?_
  refine TC.region ?_
  refine q rfl rfl (mv (v := .slice _ _ _) rfl) ?_
  refine q rfl rfl (len 63 5 rfl rfl) ?_
  refine q rfl rfl (gtr rfl rfl) ?_
  refine TL.nil (nt ?_)
  first | refine TC.condD rfl (fun hbig => ?_) (fun hbig => ?_) | refine TC.cond rfl (fun hbig => ?_) (fun hbig => ?_)
  · refine TC.seq ?_
    refine TC.region ?_
    refine q rfl rfl (asg (v := .bool _) rfl) ?_
    refine TL.nil (nt ?_)
    refine TC.ret (rt ?_)
    exact Ret.i () [_] ⟨rfl, trivial⟩ rfl trivial (ent_take 0 rfl (ent_nil _))
  · refine TC.skip (nt ?_)
    refine TC.seq ?_
    refine TC.region ?_
    refine q rfl rfl (asg (v := .pointer _) rfl) ?_
    refine TL.nil (nt ?_)
    refine TC.seq ?_
    refine TC.region ?_
    refine q rfl rfl (mv (v := .pointer _) rfl) ?_
    refine e rfl ?_
    refine cl (mfirst_nil 1) rfl (picked_nil _) trivial ?_
    intro _ _
    change TL _ _ _ _ _ _ _ _ (sepL [_])
    refine q rfl rfl (mv (v := .tuple _) rfl) ?_
    refine q rfl rfl (pu (v := .agg #[_, _, _]) (fun _ => rfl)) ?_
    refine q rfl rfl (pu (v := .bool _) (fun _ => rfl)) ?_
    refine e rfl ?_
    refine al (l := [.int _ _, .int _ _, .bool _]) rfl rfl ?_
    intro b1
    refine e0 ?_
    refine st (v := .agg #[_, _, _]) (vs := [_, _, _]) 3 rfl rfl rfl rfl rfl rfl (Nat.le_of_ble_eq_true rfl) rfl ?_
    refine q rfl rfl (asg (v := .bool _) rfl) ?_
    refine TL.nil (nt ?_)
    refine TC.seq ?_
    refine TC.region ?_
    refine q rfl rfl (mv (v := .pointer _) rfl) ?_
    refine e rfl ?_
    refine cl (mtake_nil 1) rfl (picked_nil _) trivial ?_
    intro _ _
    change TL _ _ _ _ _ _ _ _ (sepL [_, _])
    refine q rfl rfl (mv (v := .tuple _) rfl) ?_
    refine q rfl rfl (pu (v := .agg #[_, _, _]) (fun _ => rfl)) ?_
    refine q rfl rfl (pu (v := .int _ _) (fun _ => rfl)) ?_
    refine q rfl rfl (pu (v := .int _ _) (fun _ => rfl)) ?_
    refine e rfl ?_
    refine al (l := [.int _ _, .int _ _, .bool _]) rfl rfl ?_
    intro b2
    refine e0 ?_
    refine st (v := .agg #[_, _, _]) (vs := [_, _, _]) 3 rfl rfl rfl rfl rfl rfl (Nat.le_of_ble_eq_true rfl) rfl ?_
    refine q rfl rfl (asg (v := .int _ _) rfl) ?_
    refine q rfl rfl (asg (v := .int _ _) rfl) ?_
    refine TL.nil (nt ?_)
    refine TC.seq ?_
    refine TC.region ?_
    refine q rfl rfl (mv (v := .pointer _) rfl) ?_
    refine e rfl ?_
    refine cl (manswer_nil 1) rfl (picked_nil _) trivial ?_
    intro _ _
    change TL _ _ _ _ _ _ _ _ (sepL [_, _, _])
    refine q rfl rfl (mv (v := .tuple _) rfl) ?_
    refine q rfl rfl (pu (v := .int _ _) (fun _ => rfl)) ?_
    refine q rfl rfl (pu (v := .int _ _) (fun _ => rfl)) ?_
    refine q rfl rfl (asg (v := .int _ _) rfl) ?_
    refine q rfl rfl (asg (v := .int _ _) rfl) ?_
    refine TL.nil (nt ?_)
    refine TC.seq ?_
    refine TC.region ?_
    refine q rfl rfl (mv (v := .pointer _) rfl) ?_
    refine e rfl ?_
    refine cl (mleave_nil 1) rfl (picked_nil _) trivial ?_
    intro _ _
    change TL _ _ _ _ _ _ _ _ (sepL [_, _, _])
    refine q rfl rfl (mv (v := .tuple _) rfl) ?_
    refine q rfl rfl (pu (v := .slice _ _ _) (fun _ => rfl)) ?_
    refine q rfl rfl (pu (v := .int _ _) (fun _ => rfl)) ?_
    refine q rfl rfl (asg (v := .slice _ _ _) rfl) ?_
    refine q rfl rfl (asg (v := .int _ _) rfl) ?_
    refine TL.nil (nt ?_)
    refine TC.seq ?_
    refine TC.seq ?_
    refine TC.region ?_
    refine q rfl rfl (mv (v := .bool _) rfl) ?_
    refine q rfl rfl (mv (v := .bool _) rfl) ?_
    refine TL.known 48 rfl (c := false) (by decide) ?_
    refine qg rfl rfl rfl (mv (v := .int _ _) rfl) ?_
    refine qg rfl rfl rfl (neI rfl rfl) ?_
    first | refine q rfl rfl (pkT (v := .bool _) rfl rfl) ?_ | refine q rfl rfl (pkF (v := .bool _) rfl rfl) ?_
    refine q rfl rfl (mv (v := .bool _) rfl) ?_
    refine TL.known 52 rfl (c := false) (by decide) ?_
    refine qg rfl rfl rfl (mv (v := .int _ _) rfl) ?_
    refine qg rfl rfl rfl (neI rfl rfl) ?_
    first | refine q rfl rfl (pkT (v := .bool _) rfl rfl) ?_ | refine q rfl rfl (pkF (v := .bool _) rfl rfl) ?_
    refine q rfl rfl (mv (v := .bool _) rfl) ?_
    refine TL.known 56 rfl (c := false) (by decide) ?_
    refine qg rfl rfl rfl (mv (v := .int _ _) rfl) ?_
    refine qg rfl rfl rfl (neI rfl rfl) ?_
    first | refine q rfl rfl (pkT (v := .bool _) rfl rfl) ?_ | refine q rfl rfl (pkF (v := .bool _) rfl rfl) ?_
    refine q rfl rfl (mv (v := .bool _) rfl) ?_
    refine TL.known 60 rfl (c := false) (by decide) ?_
    refine qg rfl rfl rfl (mv (v := .int _ _) rfl) ?_
    refine qg rfl rfl rfl (neI rfl rfl) ?_
    first | refine q rfl rfl (pkT (v := .bool _) rfl rfl) ?_ | refine q rfl rfl (pkF (v := .bool _) rfl rfl) ?_
    refine q rfl rfl (mv (v := .bool _) rfl) ?_
    refine TL.known 64 rfl (c := false) (by decide) ?_
    refine qg rfl rfl rfl (mv (v := .pointer _) rfl) ?_
    refine eg rfl rfl ?_
    refine bs (cs := [.int _ _]) rfl ?_
    intro b3
    refine eg rfl rfl ?_
    refine cl (mjoin_nil (some ⟨b3, 0, none⟩) _ 1) rfl (picked_nil _) ⟨_, RdSI.rd (ad := some ⟨b3, 0, none⟩)⟩ ?_
    intro _ _
    change TL _ _ _ _ _ _ _ _ (sepL [_, _, _, _])
    refine qg rfl rfl rfl (neI rfl rfl) ?_
    first | refine q rfl rfl (pkT (v := .bool _) rfl rfl) ?_ | refine q rfl rfl (pkF (v := .bool _) rfl rfl) ?_
    refine q rfl rfl (mv (v := .bool _) rfl) ?_
    refine TL.known 70 rfl (c := false) (by decide) ?_
    refine qg rfl rfl rfl (mv (v := .pointer _) rfl) ?_
    refine eg rfl rfl ?_
    refine cl (mstate_nil 1) rfl (picked_nil _) trivial ?_
    intro _ _
    change TL _ _ _ _ _ _ _ _ (sepL [_, _, _, _])
    refine qg rfl rfl rfl (neI rfl rfl) ?_
    first | refine q rfl rfl (pkT (v := .bool _) rfl rfl) ?_ | refine q rfl rfl (pkF (v := .bool _) rfl rfl) ?_
    refine q rfl rfl (mv (v := .bool _) rfl) ?_
    refine TL.known 75 rfl (c := false) (by decide) ?_
    refine qg rfl rfl rfl (mv (v := .pointer _) rfl) ?_
    first | refine qg rfl rfl rfl (bld (cs := [.int _ _, .int _ _, .bool _]) rfl) ?_ | refine qg rfl rfl rfl (bld (cs := [_, _, _]) rfl) ?_
    refine eg rfl rfl ?_
    refine cl (moffer_nil 1 ⟨2, 0, false⟩) rfl (picked_nil _) trivial ?_
    intro _ _
    change TL _ _ _ _ _ _ _ _ (sepL [_, _, _, _])
    refine qg rfl rfl rfl (neI rfl rfl) ?_
    first | refine q rfl rfl (pkT (v := .bool _) rfl rfl) ?_ | refine q rfl rfl (pkF (v := .bool _) rfl rfl) ?_
    refine q rfl rfl (mv (v := .bool _) rfl) ?_
    refine TL.known 81 rfl (c := false) (by decide) ?_
    refine qg rfl rfl rfl (mv (v := .pointer _) rfl) ?_
    refine eg rfl rfl ?_
    refine cl (mopen_nil 1) rfl (picked_nil _) trivial ?_
    intro _ _
    change TL _ _ _ _ _ _ _ _ (sepL [_, _, _, _])
    refine qg rfl rfl rfl (neI rfl rfl) ?_
    first | refine q rfl rfl (pkT (v := .bool _) rfl rfl) ?_ | refine q rfl rfl (pkF (v := .bool _) rfl rfl) ?_
    refine q rfl rfl (mv (v := .bool _) rfl) ?_
    refine TL.known 86 rfl (c := false) (by decide) ?_
    refine qg rfl rfl rfl (mv (v := .pointer _) rfl) ?_
    refine eg rfl rfl ?_
    refine cl (mrow_nil 1) rfl (picked_nil _) trivial ?_
    intro _ _
    change TL _ _ _ _ _ _ _ _ (sepL [_, _, _, _])
    refine qg rfl rfl rfl (len 31 3 rfl rfl) ?_
    refine qg rfl rfl rfl (mv (v := .pointer _) rfl) ?_
    refine eg rfl rfl ?_
    refine cl (mclose_nil 1) rfl (picked_nil _) trivial ?_
    intro _ _
    change TL _ _ _ _ _ _ _ _ (sepL [_, _, _, _])
    refine qg rfl rfl rfl (len 3 1 rfl rfl) ?_
    first | refine qg rfl rfl rfl (addI rfl rfl (by omega) (by omega)) ?_ | refine qg rfl rfl rfl (add rfl rfl rfl) ?_
    refine qg rfl rfl rfl (neI rfl rfl) ?_
    first | refine q rfl rfl (pkT (v := .bool _) rfl rfl) ?_ | refine q rfl rfl (pkF (v := .bool _) rfl rfl) ?_
    refine q rfl rfl (mv (v := .bool _) rfl) ?_
    refine TL.known 96 rfl (c := false) (by decide) ?_
    refine qg rfl rfl rfl (mv (v := .pointer _) rfl) ?_
    refine eg rfl rfl ?_
    refine cl (mcaller_nil 1) rfl (picked_nil _) trivial ?_
    intro _ _
    change TL _ _ _ _ _ _ _ _ (sepL [_, _, _, _])
    refine qg rfl rfl rfl (neI rfl rfl) ?_
    first | refine q rfl rfl (pkT (v := .bool _) rfl rfl) ?_ | refine q rfl rfl (pkF (v := .bool _) rfl rfl) ?_
    refine q rfl rfl (mv (v := .bool _) rfl) ?_
    refine TL.known 101 rfl (c := false) (by decide) ?_
    refine qg rfl rfl rfl (mv (v := .pointer _) rfl) ?_
    refine eg rfl rfl ?_
    refine cl (mpartner_nil 1) rfl (picked_nil _) trivial ?_
    intro _ _
    change TL _ _ _ _ _ _ _ _ (sepL [_, _, _, _])
    refine qg rfl rfl rfl (neI rfl rfl) ?_
    first | refine q rfl rfl (pkT (v := .bool _) rfl rfl) ?_ | refine q rfl rfl (pkF (v := .bool _) rfl rfl) ?_
    refine q rfl rfl (mv (v := .bool _) rfl) ?_
    refine TL.known 106 rfl (c := false) (by decide) ?_
    refine qg rfl rfl rfl (mv (v := .pointer _) rfl) ?_
    refine eg rfl rfl ?_
    refine cl (mcall_nil 1) rfl (picked_nil _) trivial ?_
    intro _ _
    change TL _ _ _ _ _ _ _ _ (sepL [_, _, _, _])
    refine qg rfl rfl rfl (neI rfl rfl) ?_
    first | refine q rfl rfl (pkT (v := .bool _) rfl rfl) ?_ | refine q rfl rfl (pkF (v := .bool _) rfl rfl) ?_
    refine TL.nil (nt ?_)
    refine TC.condD rfl (fun hc1 => absurd hc1 (by decide)) (fun hc1 => ?_)
    refine TC.skip (nt ?_)
    refine TC.seq ?_
    refine TC.region ?_
    refine e rfl ?_
    refine cl (mnew_ok (fun _ => 0)) rfl (picked_nil _) trivial ?_
    intro a _
    change TL _ _ _ _ _ _ _ _ (sepL [_, _, _, _, _])
    refine q rfl rfl (asg (v := .pointer _) rfl) ?_
    refine TL.nil (nt ?_)
    refine TC.seq ?_
    refine TC.region ?_
    first | refine q rfl rfl (bld (cs := [.slice _ _ _, .slice _ _ _]) rfl) ?_ | refine q rfl rfl (bld (cs := [_, _]) rfl) ?_
    refine e rfl ?_
    refine bx (v := .agg #[_, _]) (l := [.slice _ _ _, .slice _ _ _]) rfl rfl ?_
    intro b4
    refine q rfl rfl (asg (v := .pointer _) rfl) ?_
    refine TL.nil (nt ?_)
    refine TC.seq ?_
    refine TC.seq ?_
    refine TC.region ?_
    refine q rfl rfl (asg (v := .int _ _) rfl) ?_
    refine TL.nil (nt ?_)
    refine TC.block ?_
    refine TC.weak (B := sepL [isRm b4 r0F, isMa a (fun _ => 0) s0, F]) ((slc_nil 65 3 _).trans ((slc_nil 95 4 _).trans (ent_close (⟨(none, 0), (none, 0)⟩ : (Option Addr × Nat) × (Option Addr × Nat)) trivial (ent_take 2 rfl (ent_take 1 rfl (ent_take 0 rfl (by repeat (first | exact ent_nil _ | refine ent_take 0 rfl ?_ | refine ent_take 1 rfl ?_ | refine ent_take 2 rfl ?_ | refine ent_take 3 rfl ?_ | refine ent_take 4 rfl ?_ | refine ent_take 5 rfl ?_ | refine ent_take 6 rfl ?_ | refine ent_take 7 rfl ?_ | refine ent_take 8 rfl ?_ | refine ent_take 9 rfl ?_ | refine ent_take 10 rfl ?_ | refine ent_take 11 rfl ?_ | refine ent_take 12 rfl ?_)))))))) ?_
    refine TC.loop (ι := Nat × (Int → Nat) × MS × Rf) (fun u => u.1 ≤ l.length ∧ shiftD u.2.2.1 u.2.2.2 u.1) (fun u => [(0, .slice ad l.length cap), (13, .pointer (some ⟨a, 0, none⟩)), (14, .pointer (some ⟨b4, 0, none⟩)), (15, .int .i64 ((u.1 : Nat) : Int))]) (fun u => sepL [isMa a u.2.1 u.2.2.1, isRm b4 u.2.2.2, F]) (fun u => l.length - u.1) ⟨0, fun _ => 0, s0, r0F⟩ ⟨Nat.zero_le _, shiftD.zero⟩ ⟨rfl, rfl, rfl, rfl, trivial⟩ (by repeat (first | exact ent_nil _ | refine ent_take 0 rfl ?_ | refine ent_take 1 rfl ?_ | refine ent_take 2 rfl ?_ | refine ent_take 3 rfl ?_ | refine ent_take 4 rfl ?_ | refine ent_take 5 rfl ?_ | refine ent_take 6 rfl ?_ | refine ent_take 7 rfl ?_ | refine ent_take 8 rfl ?_ | refine ent_take 9 rfl ?_ | refine ent_take 10 rfl ?_ | refine ent_take 11 rfl ?_ | refine ent_take 12 rfl ?_)) ?_
    rintro ⟨i, A, s0_, r0_⟩ ⟨hi, hJ0⟩ ρ0
    dsimp only [updL] at hi hJ0 ⊢
    refine TC.seq ?_
    refine TC.seq ?_
    refine TC.region ?_
    refine q rfl rfl (mv (v := .int _ _) rfl) ?_
    refine q rfl rfl (mv (v := .slice _ _ _) rfl) ?_
    refine q rfl rfl (len 63 5 rfl rfl) ?_
    refine q rfl rfl (lss rfl rfl) ?_
    refine TL.nil (nt ?_)
    first | refine TC.condD rfl (fun hlt => ?_) (fun hlt => ?_) | refine TC.cond rfl (fun hlt => ?_) (fun hlt => ?_)
    · have hlt2 : i < l.length := by omega
      obtain ⟨t, ht⟩ : ∃ t, l[i]? = some t := ⟨l[i], List.getElem?_eq_getElem hlt2⟩
      have hpos : 0 < (mactsC l).length := by omega
      have hJ := hJ0.act t
      refine TC.skip (nt ?_)
      refine TC.seq ?_
      refine TC.block ?_
      refine TC.seq ?_
      refine TC.seq ?_
      refine TC.region ?_
      refine q rfl rfl (mv (v := .pointer _) rfl) ?_
      refine q rfl rfl (mv (v := .pointer _) rfl) ?_
      refine q rfl rfl (mv (v := .slice _ _ _) rfl) ?_
      refine q rfl rfl (mv (v := .int _ _) rfl) ?_
      first | refine q rfl rfl (ixS 63 5 rfl rfl rfl (by omega) (by first | assumption | (simp [ints_length] <;> omega))) ?_ | refine q rfl rfl (ixJ 63 5 rfl rfl rfl (by omega) (by omega) (by first | assumption | (simp [ints_length] <;> omega))) ?_ | refine q rfl rfl (ix 63 5 rfl rfl rfl (by omega) (by omega) rfl) ?_
      first | refine q rfl rfl (ldN (vs := [_, _, _, _, _]) 5 rfl rfl rfl rfl) ?_ | refine q rfl rfl (ldSN (vs := [_, _, _, _, _]) 5 rfl rfl (flat_get_rec mactC_sz ht) rfl (by decide)) ?_ | refine q rfl rfl (ldSN (vs := [_, _, _, _, _]) 5 rfl rfl rfl rfl (by decide)) ?_
      refine e rfl ?_
      refine cl (mdoes_ok a b4 A s0_ r0_ t i (by omega) hJ0) rfl PkL.p trivial ?_
      intro A2 _
      change TL _ _ _ _ _ _ _ _ (sepL [_, _, _])
      generalize actM s0_ t = s at hJ ⊢
      generalize actF r0_ t = r at hJ ⊢
      clear hJ0
      obtain ⟨hW, hR, hsl, hrl⟩ := hJ
      have hdl := hR.len
      have hd : r.D.length ≤ 1000 := by omega
      have hs : r.S.length ≤ 100000 := by omega
      first | refine q rfl rfl (notD rfl) ?_ | refine q rfl rfl (notB rfl) ?_
      refine TL.nil (nt ?_)
      refine TC.condF rfl ?_
      refine TC.skip (nt ?_)
      refine TC.seq ?_
      refine TC.seq ?_
      refine TC.region ?_
      refine q rfl rfl (asg (v := .int _ _) rfl) ?_
      refine TL.nil (nt ?_)
      refine TC.block ?_
      refine TC.loop (ι := Nat) (fun k => k ≤ r.D.length) (fun k => [(0, .slice ad l.length cap), (13, .pointer (some ⟨a, 0, none⟩)), (14, .pointer (some ⟨b4, 0, none⟩)), (15, .int .i64 (i : Int)), (16, .int .i64 ((k : Nat) : Int))]) (fun k => sepL [isMa a A2 s, isRm b4 r, F]) (fun k => r.D.length - k) 0 (Nat.zero_le _) ⟨rfl, rfl, rfl, rfl, rfl, trivial⟩ (by repeat (first | exact ent_nil _ | refine ent_take 0 rfl ?_ | refine ent_take 1 rfl ?_ | refine ent_take 2 rfl ?_ | refine ent_take 3 rfl ?_ | refine ent_take 4 rfl ?_ | refine ent_take 5 rfl ?_ | refine ent_take 6 rfl ?_ | refine ent_take 7 rfl ?_ | refine ent_take 8 rfl ?_ | refine ent_take 9 rfl ?_ | refine ent_take 10 rfl ?_ | refine ent_take 11 rfl ?_ | refine ent_take 12 rfl ?_)) ?_
      rintro k hk ρ1
      dsimp only [updL] at hk ⊢
      refine TC.open 1 rfl (fun x0 hx0 => ?_)
      obtain ⟨⟨a1, c1⟩, ⟨a2, c2⟩⟩ := x0
      clear hx0
      change TC _ _ _ _ _ _ _ (sepL [_, _, _, _, _])
      dsimp only
      have hil := thsC_length r
      have hsl2 := snsC_length r.S
      refine TC.seq ?_
      refine TC.seq ?_
      refine TC.region ?_
      refine q rfl rfl (mv (v := .int _ _) rfl) ?_
      refine q rfl rfl (mv (v := .pointer _) rfl) ?_
      first | refine q rfl rfl (nc rfl) ?_ | refine q rfl rfl (ncF rfl) ?_ | refine q rfl rfl (ncS rfl (by first | assumption | (simp [ints_length] <;> omega))) ?_
      first | refine q rfl rfl (fa 0 rfl rfl) ?_ | refine q rfl rfl (faS 0 rfl rfl (by first | assumption | (simp [ints_length] <;> omega))) ?_
      first | refine q rfl rfl (ld rfl rfl rfl) ?_ | refine q rfl rfl (ldS rfl rfl (flat_get_rec mactC_sz ht)) ?_ | refine q rfl rfl (ldS rfl rfl rfl) ?_
      refine q rfl rfl (len 65 3 rfl rfl) ?_
      refine q rfl rfl (lss rfl rfl) ?_
      refine TL.nil (nt ?_)
      first | refine TC.condD rfl (fun hlk => ?_) (fun hlk => ?_) | refine TC.cond rfl (fun hlk => ?_) (fun hlk => ?_)
      · have hk2 : k < r.D.length := by omega
        obtain ⟨x, hx⟩ : ∃ x, r.D[k]? = some x := ⟨_, List.getElem?_eq_getElem hk2⟩
        have hxm := List.mem_of_getElem? hx
        have hxi := hR.mem.1 hxm
        have hpos2 : 0 < (thsC r).length := by omega
        have e1 : stR s x = r.st x := by rw [hR.stE, stF, if_pos hxm]
        have e2 : clR s x = r.cl x := by rw [hR.clE, clF, if_pos hxm]
        have e3 := hR.pn hW hxi
        have e4 := hR.rowE hxi
        have e5 := rowF_len r.S x
        refine TC.skip (nt ?_)
        refine TC.seq ?_
        refine TC.block ?_
        refine TC.seq ?_
        refine TC.region ?_
        refine q rfl rfl (mv (v := .pointer _) rfl) ?_
        first | refine q rfl rfl (nc rfl) ?_ | refine q rfl rfl (ncF rfl) ?_ | refine q rfl rfl (ncS rfl (by first | assumption | (simp [ints_length] <;> omega))) ?_
        first | refine q rfl rfl (fa 0 rfl rfl) ?_ | refine q rfl rfl (faS 0 rfl rfl (by first | assumption | (simp [ints_length] <;> omega))) ?_
        first | refine q rfl rfl (ld rfl rfl rfl) ?_ | refine q rfl rfl (ldS rfl rfl (flat_ld (thC_sz r) hx 0 (by omega) rfl)) ?_ | refine q rfl rfl (ldS rfl rfl (flat_ld (thC_sz r) hx 1 (by omega) rfl)) ?_ | refine q rfl rfl (ldS rfl rfl (flat_ld (thC_sz r) hx 2 (by omega) rfl)) ?_ | refine q rfl rfl (ldS rfl rfl rfl) ?_
        refine q rfl rfl (mv (v := .int _ _) rfl) ?_
        first | refine q rfl rfl (ixS 65 3 rfl rfl rfl (by omega) (by first | assumption | (simp [ints_length] <;> omega))) ?_ | refine q rfl rfl (ixJ 65 3 rfl rfl rfl (by omega) (by omega) (by first | assumption | (simp [ints_length] <;> omega))) ?_ | refine q rfl rfl (ix 65 3 rfl rfl rfl (by omega) (by omega) rfl) ?_
        first | refine q rfl rfl (fa 0 rfl rfl) ?_ | refine q rfl rfl (faS 0 rfl rfl (by first | assumption | (simp [ints_length] <;> omega))) ?_
        first | refine q rfl rfl (ld rfl rfl rfl) ?_ | refine q rfl rfl (ldS rfl rfl (flat_ld (thC_sz r) hx 0 (by omega) rfl)) ?_ | refine q rfl rfl (ldS rfl rfl (flat_ld (thC_sz r) hx 1 (by omega) rfl)) ?_ | refine q rfl rfl (ldS rfl rfl (flat_ld (thC_sz r) hx 2 (by omega) rfl)) ?_ | refine q rfl rfl (ldS rfl rfl rfl) ?_
        refine q rfl rfl (asg (v := .int _ _) rfl) ?_
        refine TL.nil (nt ?_)
        refine TC.seq ?_
        refine TC.weak (B := sepL [isRm b4 r, isMa a A2 s, F]) (ent_close (⟨(a1, c1), (a2, c2)⟩ : (Option Addr × Nat) × (Option Addr × Nat)) trivial (by repeat (first | exact ent_nil _ | refine ent_take 0 rfl ?_ | refine ent_take 1 rfl ?_ | refine ent_take 2 rfl ?_ | refine ent_take 3 rfl ?_ | refine ent_take 4 rfl ?_ | refine ent_take 5 rfl ?_ | refine ent_take 6 rfl ?_ | refine ent_take 7 rfl ?_ | refine ent_take 8 rfl ?_ | refine ent_take 9 rfl ?_ | refine ent_take 10 rfl ?_ | refine ent_take 11 rfl ?_ | refine ent_take 12 rfl ?_))) ?_
        refine TC.region ?_
        refine q rfl rfl (mv (v := .pointer _) rfl) ?_
        refine q rfl rfl (mv (v := .int _ _) rfl) ?_
        refine e rfl ?_
        refine cl (rrow_ok b4 r hd hs x) rfl (picked_nil _) (ent_one 0 rfl) ?_
        intro yr _
        change TL _ _ _ _ _ _ _ _ (sepL [_, _, _, _])
        rw [← e4]
        refine q rfl rfl (asg (v := .slice _ _ _) rfl) ?_
        refine TL.nil (nt ?_)
        refine TC.seq ?_
        refine TC.region ?_
        refine q rfl rfl (mv (v := .pointer _) rfl) ?_
        refine q rfl rfl (mv (v := .int _ _) rfl) ?_
        refine e rfl ?_
        refine cl (mfirst_at a A2 s x) rfl PkL.p trivial ?_
        intro _ _
        change TL _ _ _ _ _ _ _ _ (sepL [_, _, _, _])
        refine q rfl rfl (mv (v := .tuple _) rfl) ?_
        refine q rfl rfl (pu (v := .agg #[_, _, _]) (fun _ => rfl)) ?_
        refine q rfl rfl (pu (v := .bool _) (fun _ => rfl)) ?_
        refine e rfl ?_
        refine al (l := [.int _ _, .int _ _, .bool _]) rfl rfl ?_
        intro b5
        refine e0 ?_
        refine st (v := .agg #[_, _, _]) (vs := [_, _, _]) 3 rfl rfl rfl rfl rfl rfl (Nat.le_of_ble_eq_true rfl) rfl ?_
        refine q rfl rfl (asg (v := .bool _) rfl) ?_
        refine TL.nil (nt ?_)
        refine TC.seq ?_
        rw [← e4] at e5
        rcases row_cases (rowR s x) with hr | ⟨o, r9, hr⟩
        · generalize hRg : rowR s x = RR at hr e5 ⊢
          have hRl := ofsC_length RR
          subst hr
          refine TC.weak (B := sepL [isRm b4 r, pts b5 31 (ofC o0), isMa a A2 s, slc 31 3 yr.1 [].length yr.2 (ofsC []), F]) (by repeat (first | exact ent_nil _ | refine ent_take 0 rfl ?_ | refine ent_take 1 rfl ?_ | refine ent_take 2 rfl ?_ | refine ent_take 3 rfl ?_ | refine ent_take 4 rfl ?_ | refine ent_take 5 rfl ?_ | refine ent_take 6 rfl ?_ | refine ent_take 7 rfl ?_ | refine ent_take 8 rfl ?_ | refine ent_take 9 rfl ?_ | refine ent_take 10 rfl ?_ | refine ent_take 11 rfl ?_ | refine ent_take 12 rfl ?_)) ?_
          refine TC.open 0 rfl (fun x0 hx0 => ?_)
          obtain ⟨⟨a1, c1⟩, ⟨a2, c2⟩⟩ := x0
          clear hx0
          change TC _ _ _ _ _ _ _ (sepL [_, _, _, _, _, _, _])
          dsimp only
          have hil := thsC_length r
          have hsl2 := snsC_length r.S
          refine TC.draw _ [] [(0, false), (1, false), (3, false), (4, false), (5, false), (6, false), (7, false), (8, false), (9, false), (10, false), (2, true), (11, false), (12, false), (13, false), (14, false), (16, false), (17, false), (18, false), (19, false), (20, false), (21, false), (22, false), (23, false), (15, true), (24, false), (25, false), (26, false), (27, false), (28, false), (30, false), (31, false), (29, true), (32, true), (33, false), (34, false), (35, false), (36, false), (37, false), (39, false), (38, true), (40, true), (41, false), (42, false), (43, false), (44, false), (45, false), (46, false), (47, false), (48, false), (49, false), (50, false), (51, false), (52, false), (53, false), (54, false), (55, false), (56, false), (57, false), (58, false), (59, false), (60, false), (61, false), (62, false), (63, false), (64, false), (65, false), (66, false), (67, false), (68, false)] (by kernel_rfl) (by kernel_rfl) (ent_take 0 rfl (ent_take 0 rfl (ent_take 0 rfl (ent_take 0 rfl (ent_take 1 rfl (ent_nil _)))))) ?_
          refine dq rfl rfl rfl (mv (v := .pointer _) rfl) ?_
          refine dq rfl rfl rfl (mv (v := .int _ _) rfl) ?_
          refine dq rfl rfl rfl (mv (v := .pointer _) rfl) ?_
          first | refine dq rfl rfl rfl (nc rfl) ?_ | refine dq rfl rfl rfl (ncF rfl) ?_ | refine dq rfl rfl rfl (ncS rfl (by first | assumption | (simp [ints_length] <;> omega))) ?_
          first | refine dq rfl rfl rfl (fa 0 rfl rfl) ?_ | refine dq rfl rfl rfl (faS 0 rfl rfl (by first | assumption | (simp [ints_length] <;> omega))) ?_
          first | refine dq rfl rfl rfl (ld rfl rfl rfl) ?_ | refine dq rfl rfl rfl (ldS rfl rfl (flat_ld (thC_sz r) hx 0 (by omega) rfl)) ?_ | refine dq rfl rfl rfl (ldS rfl rfl (flat_ld (thC_sz r) hx 1 (by omega) rfl)) ?_ | refine dq rfl rfl rfl (ldS rfl rfl (flat_ld (thC_sz r) hx 2 (by omega) rfl)) ?_ | refine dq rfl rfl rfl (ldS rfl rfl rfl) ?_
          refine dq rfl rfl rfl (mv (v := .int _ _) rfl) ?_
          first | refine dq rfl rfl rfl (ixS 65 3 rfl rfl rfl (by omega) (by first | assumption | (simp [ints_length] <;> omega))) ?_ | refine dq rfl rfl rfl (ixJ 65 3 rfl rfl rfl (by omega) (by omega) (by first | assumption | (simp [ints_length] <;> omega))) ?_ | refine dq rfl rfl rfl (ix 65 3 rfl rfl rfl (by omega) (by omega) rfl) ?_
          first | refine dq rfl rfl rfl (fa 1 rfl rfl) ?_ | refine dq rfl rfl rfl (faS 1 rfl rfl (by first | assumption | (simp [ints_length] <;> omega))) ?_
          first | refine dq rfl rfl rfl (ld rfl rfl rfl) ?_ | refine dq rfl rfl rfl (ldS rfl rfl (flat_ld (thC_sz r) hx 0 (by omega) rfl)) ?_ | refine dq rfl rfl rfl (ldS rfl rfl (flat_ld (thC_sz r) hx 1 (by omega) rfl)) ?_ | refine dq rfl rfl rfl (ldS rfl rfl (flat_ld (thC_sz r) hx 2 (by omega) rfl)) ?_ | refine dq rfl rfl rfl (ldS rfl rfl rfl) ?_
          refine de rfl rfl ?_
          refine cl (mstate_ok a A2 s x) rfl PkL.p trivial ?_
          intro _ _
          change ent _ _ ∧ TD _ _ _ _ _ _ _ _ _ _ (sepL [_, _, _, _, _, _, _])
          refine ⟨(by repeat (first | exact ent_nil _ | refine ent_take 0 rfl ?_ | refine ent_take 1 rfl ?_ | refine ent_take 2 rfl ?_ | refine ent_take 3 rfl ?_ | refine ent_take 4 rfl ?_ | refine ent_take 5 rfl ?_ | refine ent_take 6 rfl ?_ | refine ent_take 7 rfl ?_ | refine ent_take 8 rfl ?_ | refine ent_take 9 rfl ?_ | refine ent_take 10 rfl ?_ | refine ent_take 11 rfl ?_ | refine ent_take 12 rfl ?_)), ?_⟩
          refine dq rfl rfl rfl (neI rfl rfl) ?_
          refine dq rfl rfl rfl (mv (v := .bool _) rfl) ?_
          refine TD.known 166 rfl (b' := false) (by simp [e1]) ?_
          refine dg rfl rfl rfl rfl (mv (v := .pointer _) rfl) ?_
          refine dg rfl rfl rfl rfl (mv (v := .int _ _) rfl) ?_
          refine dg rfl rfl rfl rfl (mv (v := .pointer _) rfl) ?_
          first | refine dg rfl rfl rfl rfl (nc rfl) ?_ | refine dg rfl rfl rfl rfl (ncF rfl) ?_ | refine dg rfl rfl rfl rfl (ncS rfl (by first | assumption | (simp [ints_length] <;> omega))) ?_
          first | refine dg rfl rfl rfl rfl (fa 0 rfl rfl) ?_ | refine dg rfl rfl rfl rfl (faS 0 rfl rfl (by first | assumption | (simp [ints_length] <;> omega))) ?_
          first | refine dg rfl rfl rfl rfl (ld rfl rfl rfl) ?_ | refine dg rfl rfl rfl rfl (ldS rfl rfl (flat_ld (thC_sz r) hx 0 (by omega) rfl)) ?_ | refine dg rfl rfl rfl rfl (ldS rfl rfl (flat_ld (thC_sz r) hx 1 (by omega) rfl)) ?_ | refine dg rfl rfl rfl rfl (ldS rfl rfl (flat_ld (thC_sz r) hx 2 (by omega) rfl)) ?_ | refine dg rfl rfl rfl rfl (ldS rfl rfl rfl) ?_
          refine dg rfl rfl rfl rfl (mv (v := .int _ _) rfl) ?_
          first | refine dg rfl rfl rfl rfl (ixS 65 3 rfl rfl rfl (by omega) (by first | assumption | (simp [ints_length] <;> omega))) ?_ | refine dg rfl rfl rfl rfl (ixJ 65 3 rfl rfl rfl (by omega) (by omega) (by first | assumption | (simp [ints_length] <;> omega))) ?_ | refine dg rfl rfl rfl rfl (ix 65 3 rfl rfl rfl (by omega) (by omega) rfl) ?_
          first | refine dg rfl rfl rfl rfl (fa 2 rfl rfl) ?_ | refine dg rfl rfl rfl rfl (faS 2 rfl rfl (by first | assumption | (simp [ints_length] <;> omega))) ?_
          first | refine dg rfl rfl rfl rfl (ld rfl rfl rfl) ?_ | refine dg rfl rfl rfl rfl (ldS rfl rfl (flat_ld (thC_sz r) hx 0 (by omega) rfl)) ?_ | refine dg rfl rfl rfl rfl (ldS rfl rfl (flat_ld (thC_sz r) hx 1 (by omega) rfl)) ?_ | refine dg rfl rfl rfl rfl (ldS rfl rfl (flat_ld (thC_sz r) hx 2 (by omega) rfl)) ?_ | refine dg rfl rfl rfl rfl (ldS rfl rfl rfl) ?_
          refine deg rfl rfl rfl ?_
          refine cl (mcaller_ok a A2 s x) rfl PkL.p trivial ?_
          intro _ _
          change ent _ _ ∧ TD _ _ _ _ _ _ _ _ _ _ (sepL [_, _, _, _, _, _, _])
          refine ⟨(by repeat (first | exact ent_nil _ | refine ent_take 0 rfl ?_ | refine ent_take 1 rfl ?_ | refine ent_take 2 rfl ?_ | refine ent_take 3 rfl ?_ | refine ent_take 4 rfl ?_ | refine ent_take 5 rfl ?_ | refine ent_take 6 rfl ?_ | refine ent_take 7 rfl ?_ | refine ent_take 8 rfl ?_ | refine ent_take 9 rfl ?_ | refine ent_take 10 rfl ?_ | refine ent_take 11 rfl ?_ | refine ent_take 12 rfl ?_)), ?_⟩
          refine dg rfl rfl rfl rfl (neI rfl rfl) ?_
          first | refine dq rfl rfl rfl (pkT (v := .bool _) rfl rfl) ?_ | refine dq rfl rfl rfl (pkF (v := .bool _) rfl rfl) ?_
          refine dq rfl rfl rfl (mv (v := .bool _) rfl) ?_
          refine TD.known 180 rfl (b' := false) (by simp [e2]) ?_
          refine dg rfl rfl rfl rfl (mv (v := .pointer _) rfl) ?_
          refine dg rfl rfl rfl rfl (mv (v := .int _ _) rfl) ?_
          refine dg rfl rfl rfl rfl (mv (v := .pointer _) rfl) ?_
          refine dg rfl rfl rfl rfl (mv (v := .int _ _) rfl) ?_
          refine deg rfl rfl rfl ?_
          refine cl (mpartner_ok a A2 s x) rfl PkL.p trivial ?_
          intro _ _
          change ent _ _ ∧ TD _ _ _ _ _ _ _ _ _ _ (sepL [_, _, _, _, _, _, _])
          refine ⟨(by repeat (first | exact ent_nil _ | refine ent_take 0 rfl ?_ | refine ent_take 1 rfl ?_ | refine ent_take 2 rfl ?_ | refine ent_take 3 rfl ?_ | refine ent_take 4 rfl ?_ | refine ent_take 5 rfl ?_ | refine ent_take 6 rfl ?_ | refine ent_take 7 rfl ?_ | refine ent_take 8 rfl ?_ | refine ent_take 9 rfl ?_ | refine ent_take 10 rfl ?_ | refine ent_take 11 rfl ?_ | refine ent_take 12 rfl ?_)), ?_⟩
          refine deg rfl rfl rfl ?_
          refine cl (rpartner_ok b4 r hd hs x) rfl (picked_nil _) (ent_of (ent_close (⟨(a1, c1), (a2, c2)⟩ : (Option Addr × Nat) × (Option Addr × Nat)) trivial (by repeat (first | exact ent_nil _ | refine ent_take 0 rfl ?_ | refine ent_take 1 rfl ?_ | refine ent_take 2 rfl ?_ | refine ent_take 3 rfl ?_ | refine ent_take 4 rfl ?_ | refine ent_take 5 rfl ?_ | refine ent_take 6 rfl ?_ | refine ent_take 7 rfl ?_ | refine ent_take 8 rfl ?_ | refine ent_take 9 rfl ?_ | refine ent_take 10 rfl ?_ | refine ent_take 11 rfl ?_ | refine ent_take 12 rfl ?_)))) ?_
          intro _ _
          change ent _ _ ∧ TD _ _ _ _ _ _ _ _ _ _ (sepL [_, _, _, _, _, _, _])
          refine ⟨(by repeat (first | exact ent_nil _ | refine ent_take 0 rfl ?_ | refine ent_take 1 rfl ?_ | refine ent_take 2 rfl ?_ | refine ent_take 3 rfl ?_ | refine ent_take 4 rfl ?_ | refine ent_take 5 rfl ?_ | refine ent_take 6 rfl ?_ | refine ent_take 7 rfl ?_ | refine ent_take 8 rfl ?_ | refine ent_take 9 rfl ?_ | refine ent_take 10 rfl ?_ | refine ent_take 11 rfl ?_ | refine ent_take 12 rfl ?_)), ?_⟩
          refine dg rfl rfl rfl rfl (neI rfl rfl) ?_
          first | refine dq rfl rfl rfl (pkT (v := .bool _) rfl rfl) ?_ | refine dq rfl rfl rfl (pkF (v := .bool _) rfl rfl) ?_
          refine dq rfl rfl rfl (mv (v := .bool _) rfl) ?_
          refine TD.known 189 rfl (b' := false) (by simp [e3]) ?_
          refine dg rfl rfl rfl rfl (mv (v := .pointer _) rfl) ?_
          refine dg rfl rfl rfl rfl (mv (v := .int _ _) rfl) ?_
          refine dg rfl rfl rfl rfl (mv (v := .slice _ _ _) rfl) ?_
          refine deg rfl rfl rfl ?_
          refine cl (mrow_ok a A2 s x (by rw [hRg]; omega)) rfl PkL.p trivial ?_
          intro y2 _
          change ent _ _ ∧ TD _ _ _ _ _ _ _ _ _ _ (sepL [_, _, _, _, _, _, _, _])
          refine ⟨(by repeat (first | exact ent_nil _ | refine ent_take 0 rfl ?_ | refine ent_take 1 rfl ?_ | refine ent_take 2 rfl ?_ | refine ent_take 3 rfl ?_ | refine ent_take 4 rfl ?_ | refine ent_take 5 rfl ?_ | refine ent_take 6 rfl ?_ | refine ent_take 7 rfl ?_ | refine ent_take 8 rfl ?_ | refine ent_take 9 rfl ?_ | refine ent_take 10 rfl ?_ | refine ent_take 11 rfl ?_ | refine ent_take 12 rfl ?_)), ?_⟩
          rw [hRg]
          refine deg rfl rfl rfl ?_
          refine cl (offers_ok y2.1 _ yr.1 _ [] (by omega)) rfl (picked_nil _) ⟨⟨_, RdSI.rd (ad := y2.1)⟩, ⟨_, RdSI.rd (ad := yr.1)⟩⟩ ?_
          intro _ _
          change ent _ _ ∧ TD _ _ _ _ _ _ _ _ _ _ (sepL [_, _, _, _, _, _, _, _])
          refine ⟨(by repeat (first | exact ent_nil _ | refine ent_take 0 rfl ?_ | refine ent_take 1 rfl ?_ | refine ent_take 2 rfl ?_ | refine ent_take 3 rfl ?_ | refine ent_take 4 rfl ?_ | refine ent_take 5 rfl ?_ | refine ent_take 6 rfl ?_ | refine ent_take 7 rfl ?_ | refine ent_take 8 rfl ?_ | refine ent_take 9 rfl ?_ | refine ent_take 10 rfl ?_ | refine ent_take 11 rfl ?_ | refine ent_take 12 rfl ?_)), ?_⟩
          first | refine dg rfl rfl rfl rfl (notD rfl) ?_ | refine dg rfl rfl rfl rfl (notB rfl) ?_
          first | refine dq rfl rfl rfl (pkT (v := .bool _) rfl rfl) ?_ | refine dq rfl rfl rfl (pkF (v := .bool _) rfl rfl) ?_
          refine dq rfl rfl rfl (mv (v := .bool _) rfl) ?_
          refine TD.known 197 rfl (b' := false) rfl ?_
          refine dg rfl rfl rfl rfl (mv (v := .bool _) rfl) ?_
          refine dg rfl rfl rfl rfl (mv (v := .slice _ _ _) rfl) ?_
          refine dg rfl rfl rfl rfl (len 31 3 rfl rfl) ?_
          refine dg rfl rfl rfl rfl (gtr rfl rfl) ?_
          refine dg rfl rfl rfl rfl (neBo rfl rfl rfl) ?_
          first | refine dq rfl rfl rfl (pkT (v := .bool _) rfl rfl) ?_ | refine dq rfl rfl rfl (pkF (v := .bool _) rfl rfl) ?_
          refine dq rfl rfl rfl (mv (v := .bool _) rfl) ?_
          refine TD.known 204 rfl (b' := false) (by rfl) ?_
          refine dg rfl rfl rfl rfl (mv (v := .bool _) rfl) ?_
          refine dg rfl rfl rfl rfl (mv (v := .bool _) rfl) ?_
          refine TD.known 206 rfl (b' := false) rfl ?_
          refine dk rfl rfl rfl rfl ?_
          refine dk rfl rfl rfl rfl ?_
          refine dk rfl rfl rfl rfl ?_
          refine dk rfl rfl rfl rfl ?_
          refine dk rfl rfl rfl rfl ?_
          first | refine dg rfl rfl rfl rfl (pkT (v := .bool _) rfl rfl) ?_ | refine dg rfl rfl rfl rfl (pkF (v := .bool _) rfl rfl) ?_
          first | refine dq rfl rfl rfl (pkT (v := .bool _) rfl rfl) ?_ | refine dq rfl rfl rfl (pkF (v := .bool _) rfl rfl) ?_
          refine dq rfl rfl rfl (mv (v := .bool _) rfl) ?_
          refine TD.known 214 rfl (b' := false) rfl ?_
          refine dg rfl rfl rfl rfl (mv (v := .bool _) rfl) ?_
          first | refine dg rfl rfl rfl rfl (notD rfl) ?_ | refine dg rfl rfl rfl rfl (notB rfl) ?_
          refine dg rfl rfl rfl rfl (mv (v := .bool _) rfl) ?_
          refine TD.known 217 rfl (b' := true) rfl ?_
          first | refine dg rfl rfl rfl rfl (ldN (vs := [_, _, _]) 3 rfl rfl rfl rfl) ?_ | refine dg rfl rfl rfl rfl (ldSN (vs := [_, _, _]) 3 rfl rfl (flat_ld (thC_sz r) hx 0 (by omega) rfl) rfl (by decide)) ?_ | refine dg rfl rfl rfl rfl (ldSN (vs := [_, _, _]) 3 rfl rfl (flat_ld (thC_sz r) hx 1 (by omega) rfl) rfl (by decide)) ?_ | refine dg rfl rfl rfl rfl (ldSN (vs := [_, _, _]) 3 rfl rfl (flat_ld (thC_sz r) hx 2 (by omega) rfl) rfl (by decide)) ?_ | refine dg rfl rfl rfl rfl (ldSN (vs := [_, _, _]) 3 rfl rfl rfl rfl (by decide)) ?_
          first | refine dg rfl rfl rfl rfl (bld (cs := [.int _ _, .int _ _, .bool _]) rfl) ?_ | refine dg rfl rfl rfl rfl (bld (cs := [_, _, _]) rfl) ?_
          refine dg rfl rfl rfl rfl (neO (by kernel_rfl) rfl rfl) ?_
          first | refine dg rfl rfl rfl rfl (pkT (v := .bool _) rfl rfl) ?_ | refine dg rfl rfl rfl rfl (pkF (v := .bool _) rfl rfl) ?_
          first | refine dq rfl rfl rfl (pkT (v := .bool _) rfl rfl) ?_ | refine dq rfl rfl rfl (pkF (v := .bool _) rfl rfl) ?_
          refine TD.nil (nt ?_)
          refine TC.condF rfl ?_
          refine TC.skip (nb (nt ?_))
          refine TC.region ?_
          refine q rfl rfl (mv (v := .int _ _) rfl) ?_
          first | refine q rfl rfl (addI rfl rfl (by omega) (by omega)) ?_ | refine q rfl rfl (add rfl rfl rfl) ?_
          refine q rfl rfl (asg (v := .int _ _) rfl) ?_
          refine TL.nil (nt ?_)
          exact ⟨rfl, (k + 1), (by omega), (by omega), ⟨rfl, rfl, rfl, rfl, rfl, trivial⟩, (ent_take 1 rfl (ent_close (⟨(a1, c1), (a2, c2)⟩ : (Option Addr × Nat) × (Option Addr × Nat)) trivial (by repeat (first | exact ent_nil _ | refine ent_take 0 rfl ?_ | refine ent_take 1 rfl ?_ | refine ent_take 2 rfl ?_ | refine ent_take 3 rfl ?_ | refine ent_take 4 rfl ?_ | refine ent_take 5 rfl ?_ | refine ent_take 6 rfl ?_ | refine ent_take 7 rfl ?_ | refine ent_take 8 rfl ?_ | refine ent_take 9 rfl ?_ | refine ent_take 10 rfl ?_ | refine ent_take 11 rfl ?_ | refine ent_take 12 rfl ?_))))⟩
        · generalize hRg : rowR s x = RR at hr e5 ⊢
          have hRl := ofsC_length RR
          subst hr
          refine TC.weak (B := sepL [isRm b4 r, pts b5 31 (ofC o), isMa a A2 s, slc 31 3 yr.1 (o :: r9).length yr.2 (ofsC (o :: r9)), F]) (by repeat (first | exact ent_nil _ | refine ent_take 0 rfl ?_ | refine ent_take 1 rfl ?_ | refine ent_take 2 rfl ?_ | refine ent_take 3 rfl ?_ | refine ent_take 4 rfl ?_ | refine ent_take 5 rfl ?_ | refine ent_take 6 rfl ?_ | refine ent_take 7 rfl ?_ | refine ent_take 8 rfl ?_ | refine ent_take 9 rfl ?_ | refine ent_take 10 rfl ?_ | refine ent_take 11 rfl ?_ | refine ent_take 12 rfl ?_)) ?_
          refine TC.open 0 rfl (fun x0 hx0 => ?_)
          obtain ⟨⟨a1, c1⟩, ⟨a2, c2⟩⟩ := x0
          clear hx0
          change TC _ _ _ _ _ _ _ (sepL [_, _, _, _, _, _, _])
          dsimp only
          have hil := thsC_length r
          have hsl2 := snsC_length r.S
          have hpr : 0 < (ofsC (o :: r9)).length := by rw [ofsC_length]; simp
          refine TC.draw _ [] [(0, false), (1, false), (3, false), (4, false), (5, false), (6, false), (7, false), (8, false), (9, false), (10, false), (2, true), (11, false), (12, false), (13, false), (14, false), (16, false), (17, false), (18, false), (19, false), (20, false), (21, false), (22, false), (23, false), (15, true), (24, false), (25, false), (26, false), (27, false), (28, false), (30, false), (31, false), (29, true), (32, true), (33, false), (34, false), (35, false), (36, false), (37, false), (39, false), (38, true), (40, true), (41, false), (42, false), (43, false), (44, false), (45, false), (46, false), (47, false), (48, false), (49, false), (50, false), (51, false), (52, false), (53, false), (54, false), (55, false), (56, false), (57, false), (58, false), (59, false), (60, false), (61, false), (62, false), (63, false), (64, false), (65, false), (66, false), (67, false), (68, false)] (by kernel_rfl) (by kernel_rfl) (ent_take 0 rfl (ent_take 0 rfl (ent_take 0 rfl (ent_take 0 rfl (ent_take 1 rfl (ent_nil _)))))) ?_
          refine dq rfl rfl rfl (mv (v := .pointer _) rfl) ?_
          refine dq rfl rfl rfl (mv (v := .int _ _) rfl) ?_
          refine dq rfl rfl rfl (mv (v := .pointer _) rfl) ?_
          first | refine dq rfl rfl rfl (nc rfl) ?_ | refine dq rfl rfl rfl (ncF rfl) ?_ | refine dq rfl rfl rfl (ncS rfl (by first | assumption | (simp [ints_length] <;> omega))) ?_
          first | refine dq rfl rfl rfl (fa 0 rfl rfl) ?_ | refine dq rfl rfl rfl (faS 0 rfl rfl (by first | assumption | (simp [ints_length] <;> omega))) ?_
          first | refine dq rfl rfl rfl (ld rfl rfl rfl) ?_ | refine dq rfl rfl rfl (ldS rfl rfl (flat_ld (thC_sz r) hx 0 (by omega) rfl)) ?_ | refine dq rfl rfl rfl (ldS rfl rfl (flat_ld (thC_sz r) hx 1 (by omega) rfl)) ?_ | refine dq rfl rfl rfl (ldS rfl rfl (flat_ld (thC_sz r) hx 2 (by omega) rfl)) ?_ | refine dq rfl rfl rfl (ldS rfl rfl (show ((ofsC (o :: r9)).drop (0 * 3)).take 3 = ofC o from rfl)) ?_ | refine dq rfl rfl rfl (ldS rfl rfl rfl) ?_
          refine dq rfl rfl rfl (mv (v := .int _ _) rfl) ?_
          first | refine dq rfl rfl rfl (ixS 65 3 rfl rfl rfl (by omega) (by first | assumption | (simp [ints_length] <;> omega))) ?_ | refine dq rfl rfl rfl (ixJ 65 3 rfl rfl rfl (by omega) (by omega) (by first | assumption | (simp [ints_length] <;> omega))) ?_ | refine dq rfl rfl rfl (ix 65 3 rfl rfl rfl (by omega) (by omega) rfl) ?_
          first | refine dq rfl rfl rfl (fa 1 rfl rfl) ?_ | refine dq rfl rfl rfl (faS 1 rfl rfl (by first | assumption | (simp [ints_length] <;> omega))) ?_
          first | refine dq rfl rfl rfl (ld rfl rfl rfl) ?_ | refine dq rfl rfl rfl (ldS rfl rfl (flat_ld (thC_sz r) hx 0 (by omega) rfl)) ?_ | refine dq rfl rfl rfl (ldS rfl rfl (flat_ld (thC_sz r) hx 1 (by omega) rfl)) ?_ | refine dq rfl rfl rfl (ldS rfl rfl (flat_ld (thC_sz r) hx 2 (by omega) rfl)) ?_ | refine dq rfl rfl rfl (ldS rfl rfl (show ((ofsC (o :: r9)).drop (0 * 3)).take 3 = ofC o from rfl)) ?_ | refine dq rfl rfl rfl (ldS rfl rfl rfl) ?_
          refine de rfl rfl ?_
          refine cl (mstate_ok a A2 s x) rfl PkL.p trivial ?_
          intro _ _
          change ent _ _ ∧ TD _ _ _ _ _ _ _ _ _ _ (sepL [_, _, _, _, _, _, _])
          refine ⟨(by repeat (first | exact ent_nil _ | refine ent_take 0 rfl ?_ | refine ent_take 1 rfl ?_ | refine ent_take 2 rfl ?_ | refine ent_take 3 rfl ?_ | refine ent_take 4 rfl ?_ | refine ent_take 5 rfl ?_ | refine ent_take 6 rfl ?_ | refine ent_take 7 rfl ?_ | refine ent_take 8 rfl ?_ | refine ent_take 9 rfl ?_ | refine ent_take 10 rfl ?_ | refine ent_take 11 rfl ?_ | refine ent_take 12 rfl ?_)), ?_⟩
          refine dq rfl rfl rfl (neI rfl rfl) ?_
          refine dq rfl rfl rfl (mv (v := .bool _) rfl) ?_
          refine TD.known 166 rfl (b' := false) (by simp [e1]) ?_
          refine dg rfl rfl rfl rfl (mv (v := .pointer _) rfl) ?_
          refine dg rfl rfl rfl rfl (mv (v := .int _ _) rfl) ?_
          refine dg rfl rfl rfl rfl (mv (v := .pointer _) rfl) ?_
          first | refine dg rfl rfl rfl rfl (nc rfl) ?_ | refine dg rfl rfl rfl rfl (ncF rfl) ?_ | refine dg rfl rfl rfl rfl (ncS rfl (by first | assumption | (simp [ints_length] <;> omega))) ?_
          first | refine dg rfl rfl rfl rfl (fa 0 rfl rfl) ?_ | refine dg rfl rfl rfl rfl (faS 0 rfl rfl (by first | assumption | (simp [ints_length] <;> omega))) ?_
          first | refine dg rfl rfl rfl rfl (ld rfl rfl rfl) ?_ | refine dg rfl rfl rfl rfl (ldS rfl rfl (flat_ld (thC_sz r) hx 0 (by omega) rfl)) ?_ | refine dg rfl rfl rfl rfl (ldS rfl rfl (flat_ld (thC_sz r) hx 1 (by omega) rfl)) ?_ | refine dg rfl rfl rfl rfl (ldS rfl rfl (flat_ld (thC_sz r) hx 2 (by omega) rfl)) ?_ | refine dg rfl rfl rfl rfl (ldS rfl rfl (show ((ofsC (o :: r9)).drop (0 * 3)).take 3 = ofC o from rfl)) ?_ | refine dg rfl rfl rfl rfl (ldS rfl rfl rfl) ?_
          refine dg rfl rfl rfl rfl (mv (v := .int _ _) rfl) ?_
          first | refine dg rfl rfl rfl rfl (ixS 65 3 rfl rfl rfl (by omega) (by first | assumption | (simp [ints_length] <;> omega))) ?_ | refine dg rfl rfl rfl rfl (ixJ 65 3 rfl rfl rfl (by omega) (by omega) (by first | assumption | (simp [ints_length] <;> omega))) ?_ | refine dg rfl rfl rfl rfl (ix 65 3 rfl rfl rfl (by omega) (by omega) rfl) ?_
          first | refine dg rfl rfl rfl rfl (fa 2 rfl rfl) ?_ | refine dg rfl rfl rfl rfl (faS 2 rfl rfl (by first | assumption | (simp [ints_length] <;> omega))) ?_
          first | refine dg rfl rfl rfl rfl (ld rfl rfl rfl) ?_ | refine dg rfl rfl rfl rfl (ldS rfl rfl (flat_ld (thC_sz r) hx 0 (by omega) rfl)) ?_ | refine dg rfl rfl rfl rfl (ldS rfl rfl (flat_ld (thC_sz r) hx 1 (by omega) rfl)) ?_ | refine dg rfl rfl rfl rfl (ldS rfl rfl (flat_ld (thC_sz r) hx 2 (by omega) rfl)) ?_ | refine dg rfl rfl rfl rfl (ldS rfl rfl (show ((ofsC (o :: r9)).drop (0 * 3)).take 3 = ofC o from rfl)) ?_ | refine dg rfl rfl rfl rfl (ldS rfl rfl rfl) ?_
          refine deg rfl rfl rfl ?_
          refine cl (mcaller_ok a A2 s x) rfl PkL.p trivial ?_
          intro _ _
          change ent _ _ ∧ TD _ _ _ _ _ _ _ _ _ _ (sepL [_, _, _, _, _, _, _])
          refine ⟨(by repeat (first | exact ent_nil _ | refine ent_take 0 rfl ?_ | refine ent_take 1 rfl ?_ | refine ent_take 2 rfl ?_ | refine ent_take 3 rfl ?_ | refine ent_take 4 rfl ?_ | refine ent_take 5 rfl ?_ | refine ent_take 6 rfl ?_ | refine ent_take 7 rfl ?_ | refine ent_take 8 rfl ?_ | refine ent_take 9 rfl ?_ | refine ent_take 10 rfl ?_ | refine ent_take 11 rfl ?_ | refine ent_take 12 rfl ?_)), ?_⟩
          refine dg rfl rfl rfl rfl (neI rfl rfl) ?_
          first | refine dq rfl rfl rfl (pkT (v := .bool _) rfl rfl) ?_ | refine dq rfl rfl rfl (pkF (v := .bool _) rfl rfl) ?_
          refine dq rfl rfl rfl (mv (v := .bool _) rfl) ?_
          refine TD.known 180 rfl (b' := false) (by simp [e2]) ?_
          refine dg rfl rfl rfl rfl (mv (v := .pointer _) rfl) ?_
          refine dg rfl rfl rfl rfl (mv (v := .int _ _) rfl) ?_
          refine dg rfl rfl rfl rfl (mv (v := .pointer _) rfl) ?_
          refine dg rfl rfl rfl rfl (mv (v := .int _ _) rfl) ?_
          refine deg rfl rfl rfl ?_
          refine cl (mpartner_ok a A2 s x) rfl PkL.p trivial ?_
          intro _ _
          change ent _ _ ∧ TD _ _ _ _ _ _ _ _ _ _ (sepL [_, _, _, _, _, _, _])
          refine ⟨(by repeat (first | exact ent_nil _ | refine ent_take 0 rfl ?_ | refine ent_take 1 rfl ?_ | refine ent_take 2 rfl ?_ | refine ent_take 3 rfl ?_ | refine ent_take 4 rfl ?_ | refine ent_take 5 rfl ?_ | refine ent_take 6 rfl ?_ | refine ent_take 7 rfl ?_ | refine ent_take 8 rfl ?_ | refine ent_take 9 rfl ?_ | refine ent_take 10 rfl ?_ | refine ent_take 11 rfl ?_ | refine ent_take 12 rfl ?_)), ?_⟩
          refine deg rfl rfl rfl ?_
          refine cl (rpartner_ok b4 r hd hs x) rfl (picked_nil _) (ent_of (ent_close (⟨(a1, c1), (a2, c2)⟩ : (Option Addr × Nat) × (Option Addr × Nat)) trivial (by repeat (first | exact ent_nil _ | refine ent_take 0 rfl ?_ | refine ent_take 1 rfl ?_ | refine ent_take 2 rfl ?_ | refine ent_take 3 rfl ?_ | refine ent_take 4 rfl ?_ | refine ent_take 5 rfl ?_ | refine ent_take 6 rfl ?_ | refine ent_take 7 rfl ?_ | refine ent_take 8 rfl ?_ | refine ent_take 9 rfl ?_ | refine ent_take 10 rfl ?_ | refine ent_take 11 rfl ?_ | refine ent_take 12 rfl ?_)))) ?_
          intro _ _
          change ent _ _ ∧ TD _ _ _ _ _ _ _ _ _ _ (sepL [_, _, _, _, _, _, _])
          refine ⟨(by repeat (first | exact ent_nil _ | refine ent_take 0 rfl ?_ | refine ent_take 1 rfl ?_ | refine ent_take 2 rfl ?_ | refine ent_take 3 rfl ?_ | refine ent_take 4 rfl ?_ | refine ent_take 5 rfl ?_ | refine ent_take 6 rfl ?_ | refine ent_take 7 rfl ?_ | refine ent_take 8 rfl ?_ | refine ent_take 9 rfl ?_ | refine ent_take 10 rfl ?_ | refine ent_take 11 rfl ?_ | refine ent_take 12 rfl ?_)), ?_⟩
          refine dg rfl rfl rfl rfl (neI rfl rfl) ?_
          first | refine dq rfl rfl rfl (pkT (v := .bool _) rfl rfl) ?_ | refine dq rfl rfl rfl (pkF (v := .bool _) rfl rfl) ?_
          refine dq rfl rfl rfl (mv (v := .bool _) rfl) ?_
          refine TD.known 189 rfl (b' := false) (by simp [e3]) ?_
          refine dg rfl rfl rfl rfl (mv (v := .pointer _) rfl) ?_
          refine dg rfl rfl rfl rfl (mv (v := .int _ _) rfl) ?_
          refine dg rfl rfl rfl rfl (mv (v := .slice _ _ _) rfl) ?_
          refine deg rfl rfl rfl ?_
          refine cl (mrow_ok a A2 s x (by rw [hRg]; omega)) rfl PkL.p trivial ?_
          intro y2 _
          change ent _ _ ∧ TD _ _ _ _ _ _ _ _ _ _ (sepL [_, _, _, _, _, _, _, _])
          refine ⟨(by repeat (first | exact ent_nil _ | refine ent_take 0 rfl ?_ | refine ent_take 1 rfl ?_ | refine ent_take 2 rfl ?_ | refine ent_take 3 rfl ?_ | refine ent_take 4 rfl ?_ | refine ent_take 5 rfl ?_ | refine ent_take 6 rfl ?_ | refine ent_take 7 rfl ?_ | refine ent_take 8 rfl ?_ | refine ent_take 9 rfl ?_ | refine ent_take 10 rfl ?_ | refine ent_take 11 rfl ?_ | refine ent_take 12 rfl ?_)), ?_⟩
          rw [hRg]
          refine deg rfl rfl rfl ?_
          refine cl (offers_ok y2.1 _ yr.1 _ (o :: r9) (by omega)) rfl (picked_nil _) ⟨⟨_, RdSI.rd (ad := y2.1)⟩, ⟨_, RdSI.rd (ad := yr.1)⟩⟩ ?_
          intro _ _
          change ent _ _ ∧ TD _ _ _ _ _ _ _ _ _ _ (sepL [_, _, _, _, _, _, _, _])
          refine ⟨(by repeat (first | exact ent_nil _ | refine ent_take 0 rfl ?_ | refine ent_take 1 rfl ?_ | refine ent_take 2 rfl ?_ | refine ent_take 3 rfl ?_ | refine ent_take 4 rfl ?_ | refine ent_take 5 rfl ?_ | refine ent_take 6 rfl ?_ | refine ent_take 7 rfl ?_ | refine ent_take 8 rfl ?_ | refine ent_take 9 rfl ?_ | refine ent_take 10 rfl ?_ | refine ent_take 11 rfl ?_ | refine ent_take 12 rfl ?_)), ?_⟩
          first | refine dg rfl rfl rfl rfl (notD rfl) ?_ | refine dg rfl rfl rfl rfl (notB rfl) ?_
          first | refine dq rfl rfl rfl (pkT (v := .bool _) rfl rfl) ?_ | refine dq rfl rfl rfl (pkF (v := .bool _) rfl rfl) ?_
          refine dq rfl rfl rfl (mv (v := .bool _) rfl) ?_
          refine TD.known 197 rfl (b' := false) rfl ?_
          refine dg rfl rfl rfl rfl (mv (v := .bool _) rfl) ?_
          refine dg rfl rfl rfl rfl (mv (v := .slice _ _ _) rfl) ?_
          refine dg rfl rfl rfl rfl (len 31 3 rfl rfl) ?_
          refine dg rfl rfl rfl rfl (gtr rfl rfl) ?_
          refine dg rfl rfl rfl rfl (neBo rfl rfl rfl) ?_
          first | refine dq rfl rfl rfl (pkT (v := .bool _) rfl rfl) ?_ | refine dq rfl rfl rfl (pkF (v := .bool _) rfl rfl) ?_
          refine dq rfl rfl rfl (mv (v := .bool _) rfl) ?_
          refine TD.known 204 rfl (b' := false) (by simp [hdB]) ?_
          refine dg rfl rfl rfl rfl (mv (v := .bool _) rfl) ?_
          refine dg rfl rfl rfl rfl (mv (v := .bool _) rfl) ?_
          refine TD.known 206 rfl (b' := true) rfl ?_
          first | refine dg rfl rfl rfl rfl (ldN (vs := [_, _, _]) 3 rfl rfl rfl rfl) ?_ | refine dg rfl rfl rfl rfl (ldSN (vs := [_, _, _]) 3 rfl rfl (flat_ld (thC_sz r) hx 0 (by omega) rfl) rfl (by decide)) ?_ | refine dg rfl rfl rfl rfl (ldSN (vs := [_, _, _]) 3 rfl rfl (flat_ld (thC_sz r) hx 1 (by omega) rfl) rfl (by decide)) ?_ | refine dg rfl rfl rfl rfl (ldSN (vs := [_, _, _]) 3 rfl rfl (flat_ld (thC_sz r) hx 2 (by omega) rfl) rfl (by decide)) ?_ | refine dg rfl rfl rfl rfl (ldSN (vs := [_, _, _]) 3 rfl rfl (show ((ofsC (o :: r9)).drop (0 * 3)).take 3 = ofC o from rfl) rfl (by decide)) ?_ | refine dg rfl rfl rfl rfl (ldSN (vs := [_, _, _]) 3 rfl rfl rfl rfl (by decide)) ?_
          refine dg rfl rfl rfl rfl (mv (v := .slice _ _ _) rfl) ?_
          first | refine dg rfl rfl rfl rfl (ixS 31 3 rfl rfl rfl (by omega) (by first | assumption | (simp [ints_length] <;> omega))) ?_ | refine dg rfl rfl rfl rfl (ixJ 31 3 rfl rfl rfl (by omega) (by omega) (by first | assumption | (simp [ints_length] <;> omega))) ?_ | refine dg rfl rfl rfl rfl (ix 31 3 rfl rfl rfl (by omega) (by omega) rfl) ?_
          first | refine dg rfl rfl rfl rfl (ldN (vs := [_, _, _]) 3 rfl rfl rfl rfl) ?_ | refine dg rfl rfl rfl rfl (ldSN (vs := [_, _, _]) 3 rfl rfl (flat_ld (thC_sz r) hx 0 (by omega) rfl) rfl (by decide)) ?_ | refine dg rfl rfl rfl rfl (ldSN (vs := [_, _, _]) 3 rfl rfl (flat_ld (thC_sz r) hx 1 (by omega) rfl) rfl (by decide)) ?_ | refine dg rfl rfl rfl rfl (ldSN (vs := [_, _, _]) 3 rfl rfl (flat_ld (thC_sz r) hx 2 (by omega) rfl) rfl (by decide)) ?_ | refine dg rfl rfl rfl rfl (ldSN (vs := [_, _, _]) 3 rfl rfl (show ((ofsC (o :: r9)).drop (0 * 3)).take 3 = ofC o from rfl) rfl (by decide)) ?_ | refine dg rfl rfl rfl rfl (ldSN (vs := [_, _, _]) 3 rfl rfl rfl rfl (by decide)) ?_
          refine dg rfl rfl rfl rfl (neO (by kernel_rfl) rfl rfl) ?_
          first | refine dg rfl rfl rfl rfl (pkT (v := .bool _) rfl rfl) ?_ | refine dg rfl rfl rfl rfl (pkF (v := .bool _) rfl rfl) ?_
          first | refine dq rfl rfl rfl (pkT (v := .bool _) rfl rfl) ?_ | refine dq rfl rfl rfl (pkF (v := .bool _) rfl rfl) ?_
          refine dq rfl rfl rfl (mv (v := .bool _) rfl) ?_
          refine TD.known 214 rfl (b' := false) (by simp) ?_
          refine dg rfl rfl rfl rfl (mv (v := .bool _) rfl) ?_
          first | refine dg rfl rfl rfl rfl (notD rfl) ?_ | refine dg rfl rfl rfl rfl (notB rfl) ?_
          refine dg rfl rfl rfl rfl (mv (v := .bool _) rfl) ?_
          refine TD.known 217 rfl (b' := false) rfl ?_
          refine dk rfl rfl rfl rfl ?_
          refine dk rfl rfl rfl rfl ?_
          refine dk rfl rfl rfl rfl ?_
          first | refine dg rfl rfl rfl rfl (pkT (v := .bool _) rfl rfl) ?_ | refine dg rfl rfl rfl rfl (pkF (v := .bool _) rfl rfl) ?_
          first | refine dq rfl rfl rfl (pkT (v := .bool _) rfl rfl) ?_ | refine dq rfl rfl rfl (pkF (v := .bool _) rfl rfl) ?_
          refine TD.nil (nt ?_)
          refine TC.condF rfl ?_
          refine TC.skip (nb (nt ?_))
          refine TC.region ?_
          refine q rfl rfl (mv (v := .int _ _) rfl) ?_
          first | refine q rfl rfl (addI rfl rfl (by omega) (by omega)) ?_ | refine q rfl rfl (add rfl rfl rfl) ?_
          refine q rfl rfl (asg (v := .int _ _) rfl) ?_
          refine TL.nil (nt ?_)
          exact ⟨rfl, (k + 1), (by omega), (by omega), ⟨rfl, rfl, rfl, rfl, rfl, trivial⟩, (ent_take 1 rfl (ent_close (⟨(a1, c1), (a2, c2)⟩ : (Option Addr × Nat) × (Option Addr × Nat)) trivial (by repeat (first | exact ent_nil _ | refine ent_take 0 rfl ?_ | refine ent_take 1 rfl ?_ | refine ent_take 2 rfl ?_ | refine ent_take 3 rfl ?_ | refine ent_take 4 rfl ?_ | refine ent_take 5 rfl ?_ | refine ent_take 6 rfl ?_ | refine ent_take 7 rfl ?_ | refine ent_take 8 rfl ?_ | refine ent_take 9 rfl ?_ | refine ent_take 10 rfl ?_ | refine ent_take 11 rfl ?_ | refine ent_take 12 rfl ?_))))⟩
      · clear hlk hk
        refine TC.weak (B := sepL [isRm b4 r, isMa a A2 s, F]) (ent_close (⟨(a1, c1), (a2, c2)⟩ : (Option Addr × Nat) × (Option Addr × Nat)) trivial (by repeat (first | exact ent_nil _ | refine ent_take 0 rfl ?_ | refine ent_take 1 rfl ?_ | refine ent_take 2 rfl ?_ | refine ent_take 3 rfl ?_ | refine ent_take 4 rfl ?_ | refine ent_take 5 rfl ?_ | refine ent_take 6 rfl ?_ | refine ent_take 7 rfl ?_ | refine ent_take 8 rfl ?_ | refine ent_take 9 rfl ?_ | refine ent_take 10 rfl ?_ | refine ent_take 11 rfl ?_ | refine ent_take 12 rfl ?_))) ?_
        refine TC.exit (et (et (eb (nt ?_))))
        refine TC.seq ?_
        refine TC.region ?_
        refine q rfl rfl (mv (v := .pointer _) rfl) ?_
        refine q rfl rfl (mv (v := .slice _ _ _) rfl) ?_
        refine q rfl rfl (mv (v := .int _ _) rfl) ?_
        first | refine q rfl rfl (ixS 63 5 rfl rfl rfl (by omega) (by first | assumption | (simp [ints_length] <;> omega))) ?_ | refine q rfl rfl (ixJ 63 5 rfl rfl rfl (by omega) (by omega) (by first | assumption | (simp [ints_length] <;> omega))) ?_ | refine q rfl rfl (ix 63 5 rfl rfl rfl (by omega) (by omega) rfl) ?_
        first | refine q rfl rfl (fa 1 rfl rfl) ?_ | refine q rfl rfl (faS 1 rfl rfl (by first | assumption | (simp [ints_length] <;> omega))) ?_
        first | refine q rfl rfl (ld rfl rfl rfl) ?_ | refine q rfl rfl (ldS rfl rfl (flat_ld mactC_sz ht 1 (by omega) rfl)) ?_ | refine q rfl rfl (ldS rfl rfl rfl) ?_
        refine e rfl ?_
        refine cl (rat_ok b4 r hd hs t.id) rfl (picked_nil _) (ent_one 0 rfl) ?_
        intro _ _
        change TL _ _ _ _ _ _ _ _ (sepL [_, _, _])
        by_cases hin : t.id ∈ r.D
        · obtain ⟨j, h1, h2⟩ := atD_yes hin
          rw [h1]
          refine q rfl rfl (lss rfl rfl) ?_
          refine q rfl rfl (mv (v := .bool _) rfl) ?_
          refine TL.known 231 rfl (c := false) (decide_eq_false (by omega)) ?_
          refine qs rfl rfl ?_
          refine qs rfl rfl ?_
          refine qs rfl rfl ?_
          refine qs rfl rfl ?_
          refine qs rfl rfl ?_
          refine qs rfl rfl ?_
          refine qs rfl rfl ?_
          refine qs rfl rfl ?_
          refine qs rfl rfl ?_
          refine qsu rfl rfl ?_
          refine qsu rfl rfl ?_
          refine qsu rfl rfl ?_
          refine qsu rfl rfl ?_
          refine qsu rfl rfl ?_
          refine qsu rfl rfl ?_
          refine qsu rfl rfl ?_
          refine qsu rfl rfl ?_
          refine qs rfl rfl ?_
          refine qs rfl rfl ?_
          refine qsu rfl rfl ?_
          refine qsu rfl rfl ?_
          refine qsu rfl rfl ?_
          refine qsu rfl rfl ?_
          refine qsu rfl rfl ?_
          refine qsu rfl rfl ?_
          refine qsu rfl rfl ?_
          refine qsu rfl rfl ?_
          refine qs rfl rfl ?_
          refine qs rfl rfl ?_
          refine qsu rfl rfl ?_
          refine qsu rfl rfl ?_
          refine qsu rfl rfl ?_
          refine qsu rfl rfl ?_
          refine qsu rfl rfl ?_
          refine qsu rfl rfl ?_
          refine qsu rfl rfl ?_
          refine qsu rfl rfl ?_
          refine qsu rfl rfl ?_
          refine qs rfl rfl ?_
          first | refine q rfl rfl (pkT (v := .bool _) rfl rfl) ?_ | refine q rfl rfl (pkF (v := .bool _) rfl rfl) ?_
          refine TL.nil (nt ?_)
          refine TC.condF rfl ?_
          refine TC.skip (nb (nt ?_))
          refine TC.region ?_
          refine q rfl rfl (mv (v := .int _ _) rfl) ?_
          first | refine q rfl rfl (addI rfl rfl (by omega) (by omega)) ?_ | refine q rfl rfl (add rfl rfl rfl) ?_
          refine q rfl rfl (asg (v := .int _ _) rfl) ?_
          refine TL.nil (nt ?_)
          exact ⟨rfl, ⟨i + 1, A2, s, r⟩, ⟨by dsimp only; omega, hW, hR, hsl, hrl⟩, (by dsimp only; omega), ⟨rfl, rfl, rfl, rfl, trivial⟩, (by repeat (first | exact ent_nil _ | refine ent_take 0 rfl ?_ | refine ent_take 1 rfl ?_ | refine ent_take 2 rfl ?_ | refine ent_take 3 rfl ?_ | refine ent_take 4 rfl ?_ | refine ent_take 5 rfl ?_ | refine ent_take 6 rfl ?_ | refine ent_take 7 rfl ?_ | refine ent_take 8 rfl ?_ | refine ent_take 9 rfl ?_ | refine ent_take 10 rfl ?_ | refine ent_take 11 rfl ?_ | refine ent_take 12 rfl ?_))⟩
        · rw [atD_no hin]
          have hni : t.id ∉ s.ids := fun h => hin (hR.mem.2 h)
          have g1 : stR s t.id = -1 := if_neg hni
          have g2 : clR s t.id = -1 := if_neg hni
          have g3 : pnR s t.id = -1 := if_neg hni
          have g4 : rowR s t.id = [] := if_neg hni
          refine q rfl rfl (lss rfl rfl) ?_
          refine q rfl rfl (mv (v := .bool _) rfl) ?_
          refine TL.known 231 rfl (c := true) (by decide) ?_
          refine qg rfl rfl rfl (mv (v := .pointer _) rfl) ?_
          refine qg rfl rfl rfl (mv (v := .slice _ _ _) rfl) ?_
          refine qg rfl rfl rfl (mv (v := .int _ _) rfl) ?_
          first | refine qg rfl rfl rfl (ixS 63 5 rfl rfl rfl (by omega) (by first | assumption | (simp [ints_length] <;> omega))) ?_ | refine qg rfl rfl rfl (ixJ 63 5 rfl rfl rfl (by omega) (by omega) (by first | assumption | (simp [ints_length] <;> omega))) ?_ | refine qg rfl rfl rfl (ix 63 5 rfl rfl rfl (by omega) (by omega) rfl) ?_
          first | refine qg rfl rfl rfl (fa 1 rfl rfl) ?_ | refine qg rfl rfl rfl (faS 1 rfl rfl (by first | assumption | (simp [ints_length] <;> omega))) ?_
          first | refine qg rfl rfl rfl (ld rfl rfl rfl) ?_ | refine qg rfl rfl rfl (ldS rfl rfl (flat_ld mactC_sz ht 1 (by omega) rfl)) ?_ | refine qg rfl rfl rfl (ldS rfl rfl rfl) ?_
          refine eg rfl rfl ?_
          refine cl (mstate_ok a A2 s t.id) rfl PkL.p trivial ?_
          intro _ _
          change TL _ _ _ _ _ _ _ _ (sepL [_, _, _])
          rw [g1]
          refine qg rfl rfl rfl (neI rfl rfl) ?_
          refine qg rfl rfl rfl (mv (v := .bool _) rfl) ?_
          refine TL.known 240 rfl (c := false) (by decide) ?_
          refine qg rfl rfl rfl (mv (v := .pointer _) rfl) ?_
          refine qg rfl rfl rfl (mv (v := .slice _ _ _) rfl) ?_
          refine qg rfl rfl rfl (mv (v := .int _ _) rfl) ?_
          first | refine qg rfl rfl rfl (ixS 63 5 rfl rfl rfl (by omega) (by first | assumption | (simp [ints_length] <;> omega))) ?_ | refine qg rfl rfl rfl (ixJ 63 5 rfl rfl rfl (by omega) (by omega) (by first | assumption | (simp [ints_length] <;> omega))) ?_ | refine qg rfl rfl rfl (ix 63 5 rfl rfl rfl (by omega) (by omega) rfl) ?_
          first | refine qg rfl rfl rfl (fa 1 rfl rfl) ?_ | refine qg rfl rfl rfl (faS 1 rfl rfl (by first | assumption | (simp [ints_length] <;> omega))) ?_
          first | refine qg rfl rfl rfl (ld rfl rfl rfl) ?_ | refine qg rfl rfl rfl (ldS rfl rfl (flat_ld mactC_sz ht 1 (by omega) rfl)) ?_ | refine qg rfl rfl rfl (ldS rfl rfl rfl) ?_
          refine eg rfl rfl ?_
          refine cl (mcaller_ok a A2 s t.id) rfl PkL.p trivial ?_
          intro _ _
          change TL _ _ _ _ _ _ _ _ (sepL [_, _, _])
          rw [g2]
          refine qg rfl rfl rfl (neI rfl rfl) ?_
          first | refine qg rfl rfl rfl (pkT (v := .bool _) rfl rfl) ?_ | refine qg rfl rfl rfl (pkF (v := .bool _) rfl rfl) ?_
          refine qg rfl rfl rfl (mv (v := .bool _) rfl) ?_
          refine TL.known 250 rfl (c := false) (by decide) ?_
          refine qg rfl rfl rfl (mv (v := .pointer _) rfl) ?_
          refine qg rfl rfl rfl (mv (v := .slice _ _ _) rfl) ?_
          refine qg rfl rfl rfl (mv (v := .int _ _) rfl) ?_
          first | refine qg rfl rfl rfl (ixS 63 5 rfl rfl rfl (by omega) (by first | assumption | (simp [ints_length] <;> omega))) ?_ | refine qg rfl rfl rfl (ixJ 63 5 rfl rfl rfl (by omega) (by omega) (by first | assumption | (simp [ints_length] <;> omega))) ?_ | refine qg rfl rfl rfl (ix 63 5 rfl rfl rfl (by omega) (by omega) rfl) ?_
          first | refine qg rfl rfl rfl (fa 1 rfl rfl) ?_ | refine qg rfl rfl rfl (faS 1 rfl rfl (by first | assumption | (simp [ints_length] <;> omega))) ?_
          first | refine qg rfl rfl rfl (ld rfl rfl rfl) ?_ | refine qg rfl rfl rfl (ldS rfl rfl (flat_ld mactC_sz ht 1 (by omega) rfl)) ?_ | refine qg rfl rfl rfl (ldS rfl rfl rfl) ?_
          refine eg rfl rfl ?_
          refine cl (mpartner_ok a A2 s t.id) rfl PkL.p trivial ?_
          intro _ _
          change TL _ _ _ _ _ _ _ _ (sepL [_, _, _])
          rw [g3]
          refine qg rfl rfl rfl (neI rfl rfl) ?_
          first | refine qg rfl rfl rfl (pkT (v := .bool _) rfl rfl) ?_ | refine qg rfl rfl rfl (pkF (v := .bool _) rfl rfl) ?_
          refine qg rfl rfl rfl (mv (v := .bool _) rfl) ?_
          refine TL.known 260 rfl (c := false) (by decide) ?_
          refine qg rfl rfl rfl (mv (v := .pointer _) rfl) ?_
          refine qg rfl rfl rfl (mv (v := .slice _ _ _) rfl) ?_
          refine qg rfl rfl rfl (mv (v := .int _ _) rfl) ?_
          first | refine qg rfl rfl rfl (ixS 63 5 rfl rfl rfl (by omega) (by first | assumption | (simp [ints_length] <;> omega))) ?_ | refine qg rfl rfl rfl (ixJ 63 5 rfl rfl rfl (by omega) (by omega) (by first | assumption | (simp [ints_length] <;> omega))) ?_ | refine qg rfl rfl rfl (ix 63 5 rfl rfl rfl (by omega) (by omega) rfl) ?_
          first | refine qg rfl rfl rfl (fa 1 rfl rfl) ?_ | refine qg rfl rfl rfl (faS 1 rfl rfl (by first | assumption | (simp [ints_length] <;> omega))) ?_
          first | refine qg rfl rfl rfl (ld rfl rfl rfl) ?_ | refine qg rfl rfl rfl (ldS rfl rfl (flat_ld mactC_sz ht 1 (by omega) rfl)) ?_ | refine qg rfl rfl rfl (ldS rfl rfl rfl) ?_
          refine eg rfl rfl ?_
          refine cl (mrow_ok a A2 s t.id (by rw [g4]; decide)) rfl PkL.p trivial ?_
          intro y3 _
          change TL _ _ _ _ _ _ _ _ (sepL [_, _, _, _])
          rw [g4]
          refine qg rfl rfl rfl (len 31 3 rfl rfl) ?_
          refine qg rfl rfl rfl (neI rfl rfl) ?_
          first | refine qg rfl rfl rfl (pkT (v := .bool _) rfl rfl) ?_ | refine qg rfl rfl rfl (pkF (v := .bool _) rfl rfl) ?_
          first | refine q rfl rfl (pkT (v := .bool _) rfl rfl) ?_ | refine q rfl rfl (pkF (v := .bool _) rfl rfl) ?_
          refine TL.nil (nt ?_)
          refine TC.condD rfl (fun hc2 => absurd hc2 (by simp)) (fun hc2 => ?_)
          refine TC.skip (nb (nt ?_))
          refine TC.region ?_
          refine q rfl rfl (mv (v := .int _ _) rfl) ?_
          first | refine q rfl rfl (addI rfl rfl (by omega) (by omega)) ?_ | refine q rfl rfl (add rfl rfl rfl) ?_
          refine q rfl rfl (asg (v := .int _ _) rfl) ?_
          refine TL.nil (nt ?_)
          exact ⟨rfl, ⟨i + 1, A2, s, r⟩, ⟨by dsimp only; omega, hW, hR, hsl, hrl⟩, (by dsimp only; omega), ⟨rfl, rfl, rfl, rfl, trivial⟩, (by repeat (first | exact ent_nil _ | refine ent_take 0 rfl ?_ | refine ent_take 1 rfl ?_ | refine ent_take 2 rfl ?_ | refine ent_take 3 rfl ?_ | refine ent_take 4 rfl ?_ | refine ent_take 5 rfl ?_ | refine ent_take 6 rfl ?_ | refine ent_take 7 rfl ?_ | refine ent_take 8 rfl ?_ | refine ent_take 9 rfl ?_ | refine ent_take 10 rfl ?_ | refine ent_take 11 rfl ?_ | refine ent_take 12 rfl ?_))⟩
    · refine TC.exit (et (et (eb (nt ?_))))
      refine TC.seq ?_
      refine TC.region ?_
      refine q rfl rfl (asg (v := .bool _) rfl) ?_
      refine TL.nil (nt ?_)
      refine TC.ret ?_
      exact Ret.i () [_] ⟨rfl, trivial⟩ rfl trivial (by repeat (first | exact ent_nil _ | refine ent_take 0 rfl ?_ | refine ent_take 1 rfl ?_ | refine ent_take 2 rfl ?_ | refine ent_take 3 rfl ?_ | refine ent_take 4 rfl ?_ | refine ent_take 5 rfl ?_ | refine ent_take 6 rfl ?_ | refine ent_take 7 rfl ?_ | refine ent_take 8 rfl ?_ | refine ent_take 9 rfl ?_ | refine ent_take 10 rfl ?_ | refine ent_take 11 rfl ?_ | refine ent_take 12 rfl ?_))

end Go.Proofs.Ytgmniphegombhaa
