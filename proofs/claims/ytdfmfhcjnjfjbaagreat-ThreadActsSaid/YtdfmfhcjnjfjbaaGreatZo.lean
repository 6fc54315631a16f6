/-
  Proved here: what functions of this program compute, each as a contract over symbolic states, under the premises that each theorem names (most lines printed by a program of the prover).
-/
import Derived.Test.YtdfmfhcjnjfjbaaGreatZn
namespace Go.Proofs.YtdfmfhcjnjfjbaaGreat
open Go Go.QM
set_option maxRecDepth 4000 in
theorem same_ok (a1 : Option Addr) (c1 : Nat) (xs : List Int) (a2 : Option Addr) (c2 : Nat) (ys : List Int) (hl : xs.length ≤ 1000000000) : FSpec Tryz.prog 37 [.slice a1 xs.length c1, .slice a2 ys.length c2] (fun F => (∃ E, RdS F E a1 (ints xs)) ∧ ∃ E, RdS F E a2 (ints ys)) [] (fun _ : Unit => .bool (decide (xs = ys))) (fun _ => True) (fun _ => []) := by
 refine FSpec.intro (rs := [.tmp 4]) (by kernel_rfl) Tryz.func37 rfl Tryz.ntmps37 (by rfl) rfl ?_
 intro F ⟨⟨E1, hF1⟩, ⟨E2, hF2⟩⟩
 refine z0 ?_
 haveI : RdSI F a1 E1 (ints xs) := ⟨hF1⟩
 haveI : RdSI F a2 E2 (ints ys) := ⟨hF2⟩
 refine z1 ?_
 refine z2 ?_
 refine z3 ?_
 refine z4 ?_
 refine z5 ?_
 first | refine TC.condD rfl (fun hne => ?_) (fun hne => ?_) | refine TC.cond rfl (fun hne => ?_) (fun hne => ?_)
 ·refine TC.seq ?_
  refine z6 ?_
  have hd : decide (xs = ys) = false := decide_eq_false (fun e => hne (by rw [e]))
  exact Ret.i () [_] ⟨rfl, trivial⟩ (by rw [hd]; rfl) trivial (ent_take 0 rfl (ent_nil _))
 ·have hle : xs.length = ys.length := by omega
  refine z7 ?_
  refine z8 ?_
  refine TC.loop (ι := Nat) (fun i => i ≤ xs.length ∧ xs.take i = ys.take i) (fun i => [(0, .slice a1 xs.length c1), (1, .slice a2 ys.length c2), (5, .int .i64 i)]) (fun i => sepL [F]) (fun i => xs.length - i) 0 ⟨Nat.zero_le _, rfl⟩ ⟨rfl, rfl, rfl, trivial⟩ (ent_take 0 rfl (ent_nil _)) ?_
  rintro k ⟨hinv, hsame⟩ ρ0
  dsimp only [updL] at hinv hsame ⊢
  refine z9 ?_
  first | refine TC.condD rfl (fun hlt => ?_) (fun hlt => ?_) | refine TC.cond rfl (fun hlt => ?_) (fun hlt => ?_)
  ·have hlt : k < xs.length := by omega
   have hlt2 : k < ys.length := by omega
   obtain ⟨u, hu⟩ : ∃ u, xs[k]? = some u := ⟨xs[k], List.getElem?_eq_getElem hlt⟩
   obtain ⟨v, hv⟩ : ∃ v, ys[k]? = some v := ⟨ys[k], List.getElem?_eq_getElem hlt2⟩
   have hil : 0 < (ints xs).length := by rw [ints_length]; omega
   have hil2 : 0 < (ints ys).length := by rw [ints_length]; omega
   refine za ?_
   refine zb ?_
   first | refine dq rfl rfl rfl (ld rfl rfl rfl) ?_ | refine dq rfl rfl rfl (ldS rfl rfl (ints_get hu)) ?_ | refine dq rfl rfl rfl (ldS rfl rfl (ints_get hv)) ?_ | refine dq rfl rfl rfl (ldS rfl rfl rfl) ?_
   refine zb ?_
   first | refine dq rfl rfl rfl (ld rfl rfl rfl) ?_ | refine dq rfl rfl rfl (ldS rfl rfl (ints_get hu)) ?_ | refine dq rfl rfl rfl (ldS rfl rfl (ints_get hv)) ?_ | refine dq rfl rfl rfl (ldS rfl rfl rfl) ?_
   refine dq rfl rfl rfl (neI rfl rfl) ?_
   refine zc ?_
   first | refine TC.condD rfl (fun hd => ?_) (fun hd => ?_) | refine TC.cond rfl (fun hd => ?_) (fun hd => ?_)
   ·refine TC.seq ?_
    refine zd ?_
    refine ze ?_
    refine zf ?_
    have hdd : decide (xs = ys) = false := decide_eq_false (fun e => by subst e; rw [hu] at hv; cases hv; exact hd rfl)
    exact Ret.i () [_] ⟨rfl, trivial⟩ (by rw [hdd]; rfl) trivial (ent_take 0 rfl (ent_nil _))
   ·refine TC.skip (nb (nt ?_))
    refine zg ?_
    exact ⟨rfl, (k + 1), ⟨by omega, by rw [List.take_add_one, List.take_add_one, hsame, hu, hv, Decidable.not_not.1 hd]⟩, (by omega), ⟨rfl, rfl, rfl, trivial⟩, (ent_take 0 rfl (ent_nil _))⟩
  ·obtain rfl : k = xs.length := by omega
   have hdd : decide (xs = ys) = true := decide_eq_true (by rw [List.take_length, hle, List.take_length] at hsame; exact hsame)
   refine zh ?_
   refine zi ?_
   exact Ret.i () [_] ⟨rfl, trivial⟩ (by rw [hdd]; rfl) trivial (ent_take 0 rfl (ent_nil _))
set_option maxRecDepth 4000 in
theorem offers_ok (a1 : Option Addr) (c1 : Nat) (a2 : Option Addr) (c2 : Nat) (xs : List Off) (hl : xs.length ≤ 1000000) : FSpec Tryz.prog 34 [.slice a1 xs.length c1, .slice a2 xs.length c2] (fun F => (∃ E, RdS F E a1 (ofsC xs)) ∧ ∃ E, RdS F E a2 (ofsC xs)) [] (fun _ : Unit => .bool true) (fun _ => True) (fun _ => []) := by
 refine FSpec.intro (rs := [.tmp 4]) (by kernel_rfl) Tryz.func34 rfl Tryz.ntmps34 (by rfl) rfl ?_
 intro F ⟨⟨E1, hF1⟩, ⟨E2, hF2⟩⟩
 refine z0 ?_
 haveI : RdSI F a1 E1 (ofsC xs) := ⟨hF1⟩
 haveI : RdSI F a2 E2 (ofsC xs) := ⟨hF2⟩
 have hil := ofsC_length xs
 refine z1 ?_
 refine z11 ?_
 refine z6i ?_
 refine z3 ?_
 refine z6i ?_
 refine z5 ?_
 refine TC.condD rfl (fun hc1 => absurd hc1 (by simp)) (fun hc1 => ?_)
 refine z7 ?_
 refine z8 ?_
 refine TC.loop (ι := Nat) (fun i => i ≤ xs.length) (fun i => [(0, .slice a1 xs.length c1), (1, .slice a2 xs.length c2), (5, .int .i64 ((i : Nat) : Int))]) (fun i => sepL [F]) (fun i => xs.length - i) 0 (Nat.zero_le _) ⟨rfl, rfl, rfl, trivial⟩ (ent_take 0 rfl (ent_nil _)) ?_
 rintro k hk ρ0
 dsimp only [updL] at hk ⊢
 refine z9v ?_
 refine z6i ?_
 refine z5e ?_
 first | refine TC.condD rfl (fun hlt => ?_) (fun hlt => ?_) | refine TC.cond rfl (fun hlt => ?_) (fun hlt => ?_)
 ·have hlt2 : k < xs.length := by omega
  obtain ⟨o, ho⟩ : ∃ o, xs[k]? = some o := ⟨xs[k], List.getElem?_eq_getElem hlt2⟩
  have hpos : 0 < (ofsC xs).length := by omega
  refine za ?_
  refine z9w ?_
  refine zc4 ?_
  first | refine dq rfl rfl rfl (ldN (vs := [_, _, _]) 3 rfl rfl rfl rfl) ?_ | refine dq rfl rfl rfl (ldSN (vs := [_, _, _]) 3 rfl rfl (flat_get_rec ofC_sz ho) rfl (by decide)) ?_ | refine dq rfl rfl rfl (ldSN (vs := [_, _, _]) 3 rfl rfl rfl rfl (by decide)) ?_
  refine z9w ?_
  refine zc4 ?_
  first | refine dq rfl rfl rfl (ldN (vs := [_, _, _]) 3 rfl rfl rfl rfl) ?_ | refine dq rfl rfl rfl (ldSN (vs := [_, _, _]) 3 rfl rfl (flat_get_rec ofC_sz ho) rfl (by decide)) ?_ | refine dq rfl rfl rfl (ldSN (vs := [_, _, _]) 3 rfl rfl rfl rfl (by decide)) ?_
  refine dq rfl rfl rfl (neO (by kernel_rfl) rfl rfl) ?_
  refine zc ?_
  refine TC.condD rfl (fun hc2 => absurd hc2 (by simp)) (fun hc2 => ?_)
  refine z1b ?_
  exact ⟨rfl, (k + 1), (by omega), (by omega), ⟨rfl, rfl, rfl, trivial⟩, (ent_take 0 rfl (ent_nil _))⟩
 ·refine TC.exit (et (et (eb (nt ?_))))
  refine zi ?_
  exact z1x
set_option maxRecDepth 4000 in
theorem ttake_nil (id : Int) : FSpec Tryz.prog 6 [.pointer none, .int .i64 id] noRd [] (fun _ : Unit => .tuple #[.agg (ofC o0).toArray, .int .i64 1]) (fun _ => True) (fun _ => []) := by
 refine FSpec.intro (rs := [.cell 4 26, .tmp 5]) (by kernel_rfl) Tryz.func6 rfl Tryz.ntmps6 (by rfl) rfl ?_
 intro F _
 refine z45 ?_
 refine al (l := [.int _ _, .int _ _, .bool _]) rfl rfl ?_
 intro b1
 refine z72 ?_
 refine cl (tat_nil id) rfl (picked_nil _) trivial ?_
 intro _ _
 refine z92 ?_
 refine q rfl rfl (pu (v := .pointer _) (fun _ => rfl)) ?_
 refine q rfl rfl (pu (v := .int _ _) (fun _ => rfl)) ?_
 refine z99 ?_
 refine cl (tstate_nil id) rfl (picked_nil _) trivial ?_
 intro _ _
 refine z12 ?_
 refine z9a ?_
 refine z1g ?_
 refine z7x ?_
 refine st (v := .agg #[_, _, _]) (vs := [_, _, _]) 3 rfl rfl rfl rfl rfl rfl (Nat.le_of_ble_eq_true rfl) rfl ?_
 refine zp ?_
 refine z7z ?_
 exact z9m
set_option maxRecDepth 4000 in
theorem trefuse_nil (id why : Int) : FSpec Tryz.prog 7 [.pointer none, .int .i64 id, .int .i64 why] noRd [] (fun _ : Unit => .tuple #[.agg (ofC o0).toArray, .int .i64 1]) (fun _ => True) (fun _ => []) := by
 refine FSpec.intro (rs := [.cell 6 26, .tmp 7]) (by kernel_rfl) Tryz.func7 rfl Tryz.ntmps7 (by rfl) rfl ?_
 intro F _
 refine z45 ?_
 refine al (l := [.int _ _, .int _ _, .bool _]) rfl rfl ?_
 intro b2
 refine z72 ?_
 refine cl (tat_nil id) rfl (picked_nil _) trivial ?_
 intro _ _
 refine z92 ?_
 refine q rfl rfl (pu (v := .pointer _) (fun _ => rfl)) ?_
 refine q rfl rfl (pu (v := .int _ _) (fun _ => rfl)) ?_
 refine z6z ?_
 refine z7x ?_
 refine st (v := .agg #[_, _, _]) (vs := [_, _, _]) 3 rfl rfl rfl rfl rfl rfl (Nat.le_of_ble_eq_true rfl) rfl ?_
 exact z9g
set_option maxRecDepth 4000 in
theorem tanswer_nil (id : Int) : FSpec Tryz.prog 8 [.pointer none, .int .i64 id] noRd [] (fun _ : Unit => .tuple #[.int .i64 0, .int .i64 1]) (fun _ => True) (fun _ => []) := by
 refine FSpec.intro (rs := [.tmp 4, .tmp 5]) (by kernel_rfl) Tryz.func8 rfl Tryz.ntmps8 (by rfl) rfl ?_
 intro F _
 refine z0 ?_
 refine z7y ?_
 refine z2r ?_
 refine cl (tat_nil id) rfl (picked_nil _) trivial ?_
 intro _ _
 refine z8p ?_
 refine q rfl rfl (pu (v := .pointer _) (fun _ => rfl)) ?_
 refine q rfl rfl (pu (v := .int _ _) (fun _ => rfl)) ?_
 refine z7w ?_
 refine zo ?_
 refine z7j ?_
 exact z9h
set_option maxRecDepth 4000 in
theorem tstart_nil (id pr sl : Int) : FSpec Tryz.prog 10 [.pointer none, .int .i64 id, .int .i64 pr, .int .i64 sl] noRd [] (fun _ : Unit => .int .i64 1) (fun _ => True) (fun _ => []) := by
 refine FSpec.intro (rs := [.tmp 8]) (by kernel_rfl) Tryz.func10 rfl Tryz.ntmps10 (by rfl) rfl ?_
 intro F _
 refine z8o ?_
 refine cl (tat_nil id) rfl (picked_nil _) trivial ?_
 intro _ _
 refine z8p ?_
 refine q rfl rfl (pu (v := .pointer _) (fun _ => rfl)) ?_
 refine q rfl rfl (pu (v := .int _ _) (fun _ => rfl)) ?_
 exact z97
set_option maxRecDepth 4000 in
theorem tstop_nil (id : Int) : FSpec Tryz.prog 11 [.pointer none, .int .i64 id] noRd [] (fun _ : Unit => .int .i64 1) (fun _ => True) (fun _ => []) := by
 refine FSpec.intro (rs := [.tmp 4]) (by kernel_rfl) Tryz.func11 rfl Tryz.ntmps11 (by rfl) rfl ?_
 intro F _
 refine z8o ?_
 refine cl (tat_nil id) rfl (picked_nil _) trivial ?_
 intro _ _
 refine z8p ?_
 refine q rfl rfl (pu (v := .pointer _) (fun _ => rfl)) ?_
 refine q rfl rfl (pu (v := .int _ _) (fun _ => rfl)) ?_
 exact z97
set_option maxRecDepth 4000 in
theorem tremove_nil (id : Int) : FSpec Tryz.prog 12 [.pointer none, .int .i64 id] noRd [] (fun _ : Unit => .int .i64 1) (fun _ => True) (fun _ => []) := by
 refine FSpec.intro (rs := [.tmp 4]) (by kernel_rfl) Tryz.func12 rfl Tryz.ntmps12 (by rfl) rfl ?_
 intro F _
 refine z8o ?_
 refine cl (tat_nil id) rfl (picked_nil _) trivial ?_
 intro _ _
 refine z8p ?_
 refine q rfl rfl (pu (v := .pointer _) (fun _ => rfl)) ?_
 refine q rfl rfl (pu (v := .int _ _) (fun _ => rfl)) ?_
 refine z6z ?_
 refine z84 ?_
 exact z81
set_option maxRecDepth 4000 in
theorem tsend_nil (id to gt : Int) (cv : Bool) (ticks : Int) : FSpec Tryz.prog 13 [.pointer none, .int .i64 id, .int .i64 to, .int .i64 gt, .bool cv, .int .i64 ticks] noRd [] (fun _ : Unit => .int .i64 1) (fun _ => True) (fun _ => []) := by
 refine FSpec.intro (rs := [.tmp 12]) (by kernel_rfl) Tryz.func13 rfl Tryz.ntmps13 (by rfl) rfl ?_
 intro F _
 refine z8o ?_
 refine cl (tat_nil id) rfl (picked_nil _) trivial ?_
 intro _ _
 refine z8p ?_
 refine q rfl rfl (pu (v := .pointer _) (fun _ => rfl)) ?_
 refine q rfl rfl (pu (v := .int _ _) (fun _ => rfl)) ?_
 refine z99 ?_
 refine cl (tat_nil to) rfl (picked_nil _) trivial ?_
 intro _ _
 refine z8p ?_
 refine q rfl rfl (pu (v := .pointer _) (fun _ => rfl)) ?_
 refine q rfl rfl (pu (v := .int _ _) (fun _ => rfl)) ?_
 exact z97
set_option maxRecDepth 4000 in
theorem twait_nil (id ticks : Int) : FSpec Tryz.prog 14 [.pointer none, .int .i64 id, .int .i64 ticks] noRd [] (fun _ : Unit => .int .i64 1) (fun _ => True) (fun _ => []) := by
 refine FSpec.intro (rs := [.tmp 6]) (by kernel_rfl) Tryz.func14 rfl Tryz.ntmps14 (by rfl) rfl ?_
 intro F _
 refine z8o ?_
 refine cl (tat_nil id) rfl (picked_nil _) trivial ?_
 intro _ _
 refine z8p ?_
 refine q rfl rfl (pu (v := .pointer _) (fun _ => rfl)) ?_
 refine q rfl rfl (pu (v := .int _ _) (fun _ => rfl)) ?_
 exact z97
set_option maxRecDepth 4000 in
theorem twake_nil (id why : Int) : FSpec Tryz.prog 15 [.pointer none, .int .i64 id, .int .i64 why] noRd [] (fun _ : Unit => .int .i64 1) (fun _ => True) (fun _ => []) := by
 refine FSpec.intro (rs := [.tmp 6]) (by kernel_rfl) Tryz.func15 rfl Tryz.ntmps15 (by rfl) rfl ?_
 intro F _
 refine z8o ?_
 refine cl (tat_nil id) rfl (picked_nil _) trivial ?_
 intro _ _
 refine z8p ?_
 refine q rfl rfl (pu (v := .pointer _) (fun _ => rfl)) ?_
 refine q rfl rfl (pu (v := .int _ _) (fun _ => rfl)) ?_
 refine z99 ?_
 refine cl (tstate_nil id) rfl (picked_nil _) trivial ?_
 intro _ _
 refine zt ?_
 refine z9a ?_
 refine z7b ?_
 exact z81
end Go.Proofs.YtdfmfhcjnjfjbaaGreat
namespace Go.Proofs.YtdfmfhcjnjfjbaaGreat
open Go Go.QM
set_option maxRecDepth 4000 in
set_option maxHeartbeats 4000000 in
theorem tacts_ok (ad : Option Addr) (l : List TAct) (cap : Nat) : FSpec Tryz.prog 3 [.slice ad l.length cap] (fun F => ∃ E, RdS F E ad (tactsC l)) [] (fun _ : Unit => .bool true) (fun _ => True) (fun _ => []) := by
 refine FSpec.intro (rs := [.tmp 2]) (by kernel_rfl) Tryz.func3 rfl Tryz.ntmps3 (by rfl) rfl ?_
 intro F ⟨E, hF⟩
 refine z0 ?_
 haveI : RdSI F ad E (tactsC l) := ⟨hF⟩
 have hll := tactsC_length l
 refine z1 ?_
 refine z1j ?_
 refine cl alive_ok rfl (picked_nil _) trivial ?_
 intro _ _
 refine zt ?_
 refine zaw ?_
 refine z11 ?_
 refine q rfl rfl (len 63 6 rfl rfl) ?_
 refine z25 ?_
 first | refine TC.condD rfl (fun hbig => ?_) (fun hbig => ?_) | refine TC.cond rfl (fun hbig => ?_) (fun hbig => ?_)
 ·refine TC.seq ?_
  refine z6 ?_
  exact z1x
 ·refine TC.skip (nt ?_)
  refine zq ?_
  refine z1l ?_
  refine z3i ?_
  refine cl (ttake_nil 1) rfl (picked_nil _) trivial ?_
  intro _ _
  refine z8p ?_
  refine q rfl rfl (pu (v := .agg #[_, _, _]) (fun _ => rfl)) ?_
  refine q rfl rfl (pu (v := .int _ _) (fun _ => rfl)) ?_
  refine zs ?_
  refine al (l := [.int _ _, .int _ _, .bool _]) rfl rfl ?_
  intro b1
  refine e0 ?_
  refine st (v := .agg #[_, _, _]) (vs := [_, _, _]) 3 rfl rfl rfl rfl rfl rfl (Nat.le_of_ble_eq_true rfl) rfl ?_
  refine z9y ?_
  refine cl (trefuse_nil 1 1) rfl (picked_nil _) trivial ?_
  intro _ _
  refine z92 ?_
  refine q rfl rfl (pu (v := .agg #[_, _, _]) (fun _ => rfl)) ?_
  refine q rfl rfl (pu (v := .int _ _) (fun _ => rfl)) ?_
  refine zs ?_
  refine al (l := [.int _ _, .int _ _, .bool _]) rfl rfl ?_
  intro b2
  refine e0 ?_
  refine st (v := .agg #[_, _, _]) (vs := [_, _, _]) 3 rfl rfl rfl rfl rfl rfl (Nat.le_of_ble_eq_true rfl) rfl ?_
  refine z9y ?_
  refine cl (tanswer_nil 1) rfl (picked_nil _) trivial ?_
  intro _ _
  refine zc3 ?_
  refine q rfl rfl (pu (v := .int _ _) (fun _ => rfl)) ?_
  refine q rfl rfl (pu (v := .int _ _) (fun _ => rfl)) ?_
  refine z7h ?_
  refine z9p ?_
  refine z29 ?_
  refine TL.known 38 rfl (c := false) (by decide) ?_
  refine z9l ?_
  refine zce ?_
  refine TL.known 42 rfl (c := false) (by decide) ?_
  refine z9l ?_
  refine zce ?_
  refine TL.known 46 rfl (c := false) (by decide) ?_
  refine za2 ?_
  refine z8r ?_
  intro b3
  refine z3s ?_
  refine cl (tadd_nil (some ⟨b3, 0, none⟩) _ 1) rfl (picked_nil _) ⟨_, RdSI.rd (ad := some ⟨b3, 0, none⟩)⟩ ?_
  intro _ _
  refine zcf ?_
  refine TL.known 52 rfl (c := false) (by decide) ?_
  refine za2 ?_
  refine cl (tstart_nil 1 1 1) rfl (picked_nil _) trivial ?_
  intro _ _
  refine zcf ?_
  refine TL.known 57 rfl (c := false) (by decide) ?_
  refine za2 ?_
  refine cl (tstop_nil 1) rfl (picked_nil _) trivial ?_
  intro _ _
  refine zcf ?_
  refine TL.known 62 rfl (c := false) (by decide) ?_
  refine za2 ?_
  refine cl (tremove_nil 1) rfl (picked_nil _) trivial ?_
  intro _ _
  refine zcf ?_
  refine TL.known 67 rfl (c := false) (by decide) ?_
  refine za2 ?_
  refine cl (tsend_nil 1 2 0 true 0) rfl (picked_nil _) trivial ?_
  intro _ _
  refine zcf ?_
  refine TL.known 72 rfl (c := false) (by decide) ?_
  refine za2 ?_
  refine cl (twait_nil 1 0) rfl (picked_nil _) trivial ?_
  intro _ _
  refine zcf ?_
  refine TL.known 77 rfl (c := false) (by decide) ?_
  refine za2 ?_
  refine cl (twake_nil 1 1) rfl (picked_nil _) trivial ?_
  intro _ _
  refine zcf ?_
  refine TL.known 82 rfl (c := false) (by decide) ?_
  refine za2 ?_
  refine cl (tclose_nil 1) rfl (picked_nil _) trivial ?_
  intro _ _
  refine zcf ?_
  refine TL.known 87 rfl (c := false) (by decide) ?_
  refine za2 ?_
  refine cl (ttick_nil) rfl (picked_nil _) trivial ?_
  intro _ _
  refine zcf ?_
  refine TL.known 92 rfl (c := false) (by decide) ?_
  refine za2 ?_
  refine cl (tyield_nil) rfl (picked_nil _) trivial ?_
  intro _ _
  refine zcf ?_
  refine TL.known 97 rfl (c := false) (by decide) ?_
  refine za2 ?_
  refine cl (trun_nil) rfl (picked_nil _) trivial ?_
  intro _ _
  refine zcf ?_
  refine TL.known 102 rfl (c := false) (by decide) ?_
  refine za2 ?_
  refine cl (tstate_nil 1) rfl (picked_nil _) trivial ?_
  intro _ _
  refine zcf ?_
  refine TL.known 107 rfl (c := false) (by decide) ?_
  refine za2 ?_
  refine cl (tready_nil 1) rfl (picked_nil _) trivial ?_
  intro _ _
  refine z61 ?_
  refine qg rfl rfl rfl (len 3 1 rfl rfl) ?_
  refine za2 ?_
  refine cl (trow_nil 1) rfl (picked_nil _) trivial ?_
  intro _ _
  refine z61 ?_
  refine z7f ?_
  refine zcg ?_
  refine za2 ?_
  refine cl (tleft_nil 1) rfl (picked_nil _) trivial ?_
  intro _ _
  refine z61 ?_
  refine zcg ?_
  refine za2 ?_
  refine cl (ttold_nil) rfl (picked_nil _) trivial ?_
  intro _ _
  refine z61 ?_
  refine qg rfl rfl rfl (len 74 2 rfl rfl) ?_
  refine zcg ?_
  refine zce ?_
  refine TL.known 124 rfl (c := false) (by decide) ?_
  refine za2 ?_
  refine cl (tcaller_nil 1) rfl (picked_nil _) trivial ?_
  intro _ _
  refine z61 ?_
  refine z7i ?_
  refine z22 ?_
  refine TC.condD rfl (fun hc1 => absurd hc1 (by decide)) (fun hc1 => ?_)
  refine z1i ?_
  refine z1j ?_
  refine cl tnew_ok rfl (picked_nil _) trivial ?_
  intro a _
  refine z2s ?_
  refine z1l ?_
  refine zq ?_
  first | refine q rfl rfl (bld (cs := [.slice _ _ _, .slice _ _ _, .int _ _, .slice _ _ _, .slice _ _ _, .slice _ _ _, .slice _ _ _, .slice _ _ _]) rfl) ?_ | refine q rfl rfl (bld (cs := [_, _, _, _, _, _, _, _]) rfl) ?_
  refine zs ?_
  refine bx (v := .agg #[_, _, _, _, _, _, _, _]) (l := [.slice _ _ _, .slice _ _ _, .int _ _, .slice _ _ _, .slice _ _ _, .slice _ _ _, .slice _ _ _, .slice _ _ _]) rfl rfl ?_
  intro b4
  refine z6r ?_
  refine z31 ?_
  refine z8 ?_
  refine TC.weak (B := sepL [RX b4 t0.m.ids t0, isT a t0, F]) ((slc_nil 66 4 _).trans ((slc_nil 111 4 _).trans ((slc_nil 3 1 _).trans ((slc_nil 3 1 _).trans ((slc_nil 115 3 _).trans ((slc_nil 117 4 _).trans ((slc_nil 74 2 _).trans (RXcl (b := b4) (D := t0.m.ids) (T := t0) (⟨(none, 0), (none, 0), (none, 0), (none, 0), (none, 0), (none, 0), (none, 0), r0F⟩ : RY) MR.zero entS)))))))) ?_
  refine TC.loop (ι := Nat × TS) (fun u => u.1 ≤ l.length ∧ DG u.2 (50 * u.1) u.1) (fun u => [(0, .slice ad l.length cap), (10, .pointer (some ⟨a, 0, none⟩)), (11, .pointer (some ⟨b4, 0, none⟩)), (12, .int .i64 ((u.1 : Nat) : Int))]) (fun u => sepL [isT a u.2, RX b4 u.2.m.ids u.2, F]) (fun u => l.length - u.1) ⟨0, t0⟩ ⟨Nat.zero_le _, TG.zero, Nat.le_refl _⟩ ⟨rfl, rfl, rfl, rfl, trivial⟩ entS ?_
  rintro ⟨i, V0⟩ ⟨hi, hJ0⟩ ρ0
  dsimp only [updL] at hi hJ0 ⊢
  refine z9v ?_
  refine q rfl rfl (len 63 6 rfl rfl) ?_
  refine z5e ?_
  first | refine TC.condD rfl (fun hlt => ?_) (fun hlt => ?_) | refine TC.cond rfl (fun hlt => ?_) (fun hlt => ?_)
  ·have hlt2 : i < l.length := by omega
   obtain ⟨t, ht⟩ : ∃ t, l[i]? = some t := ⟨l[i], List.getElem?_eq_getElem hlt2⟩
   have hpos : 0 < (tactsC l).length := by omega
   refine zb3 ?_
   refine zk ?_
   refine TC.draw _ [] [(0, false), (1, false), (2, false), (3, false), (4, false), (5, false), (6, true), (7, false), (8, false), (9, false), (11, false), (12, false), (13, false), (10, true), (14, true), (15, false), (16, false)] (by kernel_rfl) (by kernel_rfl) (ent_take 2 rfl (ent_nil _)) ?_
   refine z3e ?_
   refine z3e ?_
   refine z9w ?_
   first | refine dq rfl rfl rfl (ixS 63 6 rfl rfl rfl (by omega) asm0) ?_ | refine dq rfl rfl rfl (ixJ 63 6 rfl rfl rfl (by omega) (by omega) asm0) ?_ | refine dq rfl rfl rfl (ix 63 6 rfl rfl rfl (by omega) (by omega) rfl) ?_
   first | refine dq rfl rfl rfl (ldN (vs := [_, _, _, _, _, _]) 6 rfl rfl rfl rfl) ?_ | refine dq rfl rfl rfl (ldSN (vs := [_, _, _, _, _, _]) 6 rfl rfl (flat_get_rec tactC_sz ht) rfl (by decide)) ?_ | refine dq rfl rfl rfl (ldSN (vs := [_, _, _, _, _, _]) 6 rfl rfl (flat_ld tactC_sz ht 3 (by omega) rfl) rfl (by decide)) ?_ | refine dq rfl rfl rfl (ldSN (vs := [_, _, _, _, _, _]) 6 rfl rfl (flat_ld tactC_sz ht 1 (by omega) rfl) rfl (by decide)) ?_ | refine dq rfl rfl rfl (ldSN (vs := [_, _, _, _, _, _]) 6 rfl rfl rfl rfl (by decide)) ?_
   refine z41 ?_
   refine cl (xdoes_ok a b4 V0 (50 * i) i hJ0 (by omega) (by omega) t) rfl PkL.p trivial ?_
   intro V hJ
   refine zbz ?_
   clear hJ0
   have hP := hJ.g.p
   have hb := hJ.g.tb (by omega)
   have hW := hP.wm
   have hil := hb.ids
   obtain ⟨hSl, hAl, _, _⟩ := hP.bds hb
   first | refine dq rfl rfl rfl (notD rfl) ?_ | refine dq rfl rfl rfl (notB rfl) ?_
   refine z4n ?_
   refine zch ?_
   refine zci ?_
   refine zbk ?_
   refine z4t ?_
   refine cl (trun_ok a V hP hb) rfl PkL.p trivial ?_
   intro _ _
   refine zbz ?_
   refine z4t ?_
   refine cl (xqrun b4 V.m.ids V (by omega)) rfl (picked_nil _) (ent_one 1 rfl) ?_
   intro _ _
   refine zbz ?_
   refine dg rfl rfl rfl rfl (neI rfl rfl) ?_
   refine z4v ?_
   refine TC.condD rfl (fun hc2 => absurd hc2 (fun h9 => h9 rfl)) (fun hc2 => ?_)
   refine z1i ?_
   refine TC.cut (ι := TS) (fun W => DG W (50 * i + 50) (i + 1)) (fun W => [(0, .slice ad l.length cap), (10, .pointer (some ⟨a, 0, none⟩)), (11, .pointer (some ⟨b4, 0, none⟩)), (12, .int .i64 (i : Int))]) (fun W => sepL [isT a W, RX b4 W.m.ids W, F]) ?_ ?_
   ·refine TC.seq ?_
    refine z66 ?_
    refine z2x ?_
    refine zcj ?_
    refine z60 ?_
    first | refine q rfl rfl (ld rfl rfl rfl) ?_ | refine q rfl rfl (ldS rfl rfl (flat_get_rec tactC_sz ht)) ?_ | refine q rfl rfl (ldS rfl rfl (flat_ld tactC_sz ht 3 (by omega) rfl)) ?_ | refine q rfl rfl (ldS rfl rfl (flat_ld tactC_sz ht 1 (by omega) rfl)) ?_ | refine q rfl rfl (ldS rfl rfl rfl) ?_
    first | refine q rfl rfl (remI rfl rfl (by omega) (by omega)) ?_ | refine q rfl rfl (rem rfl rfl (by omega) rfl) ?_
    refine z74 ?_
    refine TL.split 162 rfl (fun hev => ?_) (fun hev => ?_)
    ·have hev := of_decide_eq_true hev
     refine za2 ?_
     refine cl (ttold_ok a V) rfl PkL.p trivial ?_
     intro yp _
     refine z61 ?_
     refine za2 ?_
     refine cl (xtold_ok b4 V) rfl PkL.p trivial ?_
     intro yx _
     refine z2s ?_
     have htl9 := hJ.g.told
     have hJ3 : DG (toldT V) (50 * i + 50) (i + 1) := ⟨hJ.g.tolds, hJ.ln⟩
     refine z3s ?_
     refine cl (tsame_ok yp.1 _ V.told yx.1 _ V.told (by omega)) rfl (picked_nil _) ⟨⟨_, RdSI.rd (ad := yp.1)⟩, ⟨_, RdSI.rd (ad := yx.1)⟩⟩ ?_
     intro _ _
     refine z2s ?_
     refine z94 ?_
     refine z22 ?_
     refine TC.condD rfl (fun hc3 => absurd hc3 (fun h9 => h9 rfl)) (fun hc3 => ?_)
     refine z1i ?_
     exact ⟨rfl, (toldT V), hJ3, ⟨rfl, rfl, rfl, rfl, trivial⟩, entS⟩
    ·have hev := of_decide_eq_false hev
     refine z3l ?_
     refine z2b ?_
     refine z3n ?_
     exact ⟨rfl, V, hJ, ⟨rfl, rfl, rfl, rfl, trivial⟩, entS⟩
   ·rintro V2 hJ2 ρ2
    dsimp only [updL] at hJ2 ⊢
    have hJ := hJ2
    clear hJ2
    clear hP hb hW hil hSl hAl
    have hP := hJ.g.p
    have hb := hJ.g.tb (by omega)
    have hW := hP.wm
    have hil := hb.ids
    obtain ⟨hSl, hAl, _, _⟩ := hP.bds hb
    refine zk ?_
    refine z8 ?_
    refine TC.loop (ι := Nat) (fun k => k ≤ V2.m.ids.length) (fun k => [(0, .slice ad l.length cap), (10, .pointer (some ⟨a, 0, none⟩)), (11, .pointer (some ⟨b4, 0, none⟩)), (12, .int .i64 (i : Int)), (13, .int .i64 ((k : Nat) : Int))]) (fun k => sepL [isT a V2, RX b4 V2.m.ids V2, F]) (fun k => V2.m.ids.length - k) 0 (Nat.zero_le _) ⟨rfl, rfl, rfl, rfl, rfl, trivial⟩ entS ?_
    rintro k hk ρ1
    dsimp only [updL] at hk ⊢
    refine TC.open 1 rfl (fun x0 hx0 => ?_)
    obtain ⟨⟨l1, l2⟩, ⟨k1, k2⟩, ⟨a1, a2⟩, ⟨i1, i2⟩, ⟨p1, p2⟩, ⟨s1, s2⟩, ⟨u1, u2⟩, rr⟩ := x0
    have hm := hx0
    refine zc2 ?_
    dsimp only [XP, List.cons_append, List.nil_append]
    refine zc2 ?_
    have htl := tcsR_length V2.m.ids V2
    have hgl := tgsC_length V2.told
    refine z5d ?_
    refine z1q ?_
    refine z3d ?_
    first | refine q rfl rfl (ld rfl rfl rfl) ?_ | refine q rfl rfl (ldS rfl rfl (flat_get_rec tactC_sz ht)) ?_ | refine q rfl rfl (ldS rfl rfl (flat_ld tactC_sz ht 3 (by omega) rfl)) ?_ | refine q rfl rfl (ldS rfl rfl (flat_ld tactC_sz ht 1 (by omega) rfl)) ?_ | refine q rfl rfl (ldS rfl rfl rfl) ?_
    refine q rfl rfl (len 66 4 rfl rfl) ?_
    refine z5e ?_
    first | refine TC.condD rfl (fun hlk => ?_) (fun hlk => ?_) | refine TC.cond rfl (fun hlk => ?_) (fun hlk => ?_)
    ·have hk2 : k < V2.m.ids.length := by omega
     obtain ⟨x, hx⟩ : ∃ x, V2.m.ids[k]? = some x := ⟨_, List.getElem?_eq_getElem hk2⟩
     have hxm := List.mem_of_getElem? hx
     have hposx : 0 < (tcsR V2.m.ids V2).length := by omega
     have hrl9 := rowRlen hW x
     refine zn ?_
     refine z2y ?_
     first | refine q rfl rfl (ld rfl rfl rfl) ?_ | refine q rfl rfl (ldS rfl rfl (flat_ld (tcR_sz V2) hx 0 (by omega) rfl)) ?_ | refine q rfl rfl (ldS rfl rfl rfl) ?_
     refine zbn ?_
     refine z3d ?_
     first | refine q rfl rfl (ld rfl rfl rfl) ?_ | refine q rfl rfl (ldS rfl rfl (flat_ld (tcR_sz V2) hx 0 (by omega) rfl)) ?_ | refine q rfl rfl (ldS rfl rfl rfl) ?_
     refine z3j ?_
     refine TC.RXc (b := b4) (D := V2.m.ids) (⟨(l1, l2), (k1, k2), (a1, a2), (i1, i2), (p1, p2), (s1, s2), (u1, u2), rr⟩ : RY) hm PkL.p ?_
     refine z1m ?_
     refine TC.draw _ [] [(0, false), (1, false), (3, false), (4, false), (2, true), (5, true), (6, false), (7, false), (8, false), (9, false), (11, false), (12, false), (13, false), (14, false), (10, true), (15, true), (16, false), (17, false), (18, false), (19, false), (20, false), (22, false), (23, false), (24, false), (25, false), (21, true), (26, true), (27, false), (28, false), (29, false), (30, false), (31, false), (33, false), (34, false), (35, false), (36, false), (32, true), (37, true), (38, true), (39, false), (40, false)] (by kernel_rfl) (by kernel_rfl) (ent_nil _) ?_
     refine z32 ?_
     refine z32 ?_
     refine z41 ?_
     refine cl (tstate_ok a V2 x) rfl PkL.p trivial ?_
     intro _ _
     change ent _ _ ∧ TD _ _ _ _ _ _ _ _ _ _ (sepL [_, _, _])
     refine z37 ?_
     refine cl (xstate_ok b4 V2 hW hil x) rfl (picked_nil _) (ent_one 1 rfl) ?_
     intro _ _
     refine zbz ?_
     refine dq rfl rfl rfl (neI rfl rfl) ?_
     refine z4n ?_
     refine TD.known 194 rfl (b' := false) (decide_eq_false (fun h9 => h9 rfl)) ?_
     refine zch ?_
     refine z4q ?_
     refine z4p ?_
     refine z4q ?_
     refine z4t ?_
     refine cl (tleft_ok a V2 hP hb x) rfl PkL.p trivial ?_
     intro _ _
     refine zbz ?_
     refine z4t ?_
     refine cl (xaof b4 V2.m.ids V2 (by omega) hP.na x) rfl (picked_nil _) (ent_one 1 rfl) ?_
     intro _ _
     refine zbz ?_
     refine dg rfl rfl rfl rfl (neI rfl rfl) ?_
     refine zck ?_
     refine z4n ?_
     refine TD.known 205 rfl (b' := false) (decide_eq_false (fun h9 => h9 rfl)) ?_
     refine zch ?_
     refine z4q ?_
     refine zci ?_
     refine zcl ?_
     refine z4q ?_
     refine z4t ?_
     refine cl (tcaller_ok a V2 hP hb x) rfl PkL.p trivial ?_
     intro _ _
     refine zbz ?_
     refine z4t ?_
     refine cl (xpcaller b4 V2.m.ids V2 hW hil x) rfl (picked_nil _) (ent_one 1 rfl) ?_
     intro _ _
     refine zbz ?_
     refine dg rfl rfl rfl rfl (neI rfl rfl) ?_
     refine zck ?_
     refine z4n ?_
     refine TD.known 216 rfl (b' := false) (decide_eq_false (fun h9 => h9 rfl)) ?_
     refine zch ?_
     refine z4q ?_
     refine zci ?_
     refine zcl ?_
     refine z4q ?_
     refine z4t ?_
     refine cl (trow_ok a V2 hP hb x) rfl PkL.p trivial ?_
     intro yp _
     refine zbr ?_
     refine z4t ?_
     refine cl (xprow b4 V2.m.ids V2 hW hil x) rfl (picked_nil _) (ent_one 2 rfl) ?_
     intro yx _
     refine z4u ?_
     refine z4t ?_
     refine cl (offers_ok yp.1 _ yx.1 _ (rowR V2.m x) (by omega)) rfl (picked_nil _) ⟨⟨_, RdSI.rd (ad := yp.1)⟩, ⟨_, RdSI.rd (ad := yx.1)⟩⟩ ?_
     intro _ _
     refine z4u ?_
     first | refine dg rfl rfl rfl rfl (notD rfl) ?_ | refine dg rfl rfl rfl rfl (notB rfl) ?_
     refine z55 ?_
     refine z1b ?_
     exact ⟨rfl, (k + 1), (by omega), (by omega), ⟨rfl, rfl, rfl, rfl, rfl, trivial⟩, entS⟩
    ·refine TC.RXc (b := b4) (D := V2.m.ids) (⟨(l1, l2), (k1, k2), (a1, a2), (i1, i2), (p1, p2), (s1, s2), (u1, u2), rr⟩ : RY) hm PkL.p ?_
     refine z1m ?_
     have hposl : 0 < (tactsC l).length := by omega
     refine zh ?_
     refine z6n ?_
     refine z2x ?_
     refine zcj ?_
     refine za7 ?_
     first | refine q rfl rfl (ld rfl rfl rfl) ?_ | refine q rfl rfl (ldS rfl rfl (flat_get_rec tactC_sz ht)) ?_ | refine q rfl rfl (ldS rfl rfl (flat_ld tactC_sz ht 3 (by omega) rfl)) ?_ | refine q rfl rfl (ldS rfl rfl (flat_ld tactC_sz ht 1 (by omega) rfl)) ?_ | refine q rfl rfl (ldS rfl rfl rfl) ?_
     refine zs ?_
     refine cl (xat_ok b4 V2.m.ids V2 hil t.id) rfl (picked_nil _) (ent_one 0 rfl) ?_
     intro _ _
     refine z8d ?_
     by_cases hin : t.id ∈ V2.m.ids
     ·obtain ⟨j, g1, g2⟩ := atD_yes hin
      rw [g1]
      refine z46 ?_
      refine TL.known 236 rfl (c := false) (decide_eq_false (by omega)) ?_
      refine z3l ?_
      refine z3l ?_
      refine qs rfl rfl ?_
      refine z47 ?_
      refine z47 ?_
      refine z2j ?_
      refine z47 ?_
      refine z47 ?_
      refine z2j ?_
      refine z47 ?_
      refine z47 ?_
      refine qsu rfl rfl ?_
      refine zah ?_
      refine z5z ?_
      refine z1b ?_
      exact ⟨rfl, ⟨i + 1, V2⟩, ⟨by dsimp only; omega, hJ.up (by dsimp only; omega) (Nat.le_refl _)⟩, (by dsimp only; omega), ⟨rfl, rfl, rfl, rfl, trivial⟩, entS⟩
     ·rw [atD_no hin]
      have g1 : stT V2 t.id = -1 := if_neg hin
      have g2 : Al.leftA V2.A V2.now t.id = 0 := Al.left_no (fun h9 => hin (hP.al t.id h9).1) _
      have g3 : clR V2.m t.id = -1 := if_neg hin
      have g4 : rowR V2.m t.id = [] := if_neg hin
      refine z46 ?_
      refine TL.known 236 rfl (c := true) (by decide) ?_
      refine zcm ?_
      first | refine qg rfl rfl rfl (ld rfl rfl rfl) ?_ | refine qg rfl rfl rfl (ldS rfl rfl (flat_get_rec tactC_sz ht)) ?_ | refine qg rfl rfl rfl (ldS rfl rfl (flat_ld tactC_sz ht 3 (by omega) rfl)) ?_ | refine qg rfl rfl rfl (ldS rfl rfl (flat_ld tactC_sz ht 1 (by omega) rfl)) ?_ | refine qg rfl rfl rfl (ldS rfl rfl rfl) ?_
      refine z3s ?_
      refine cl (tstate_ok a V2 t.id) rfl PkL.p trivial ?_
      intro _ _
      refine z8d ?_
      rw [g1]
      refine z7i ?_
      refine z4b ?_
      refine TL.known 245 rfl (c := false) (by decide) ?_
      refine zcm ?_
      first | refine qg rfl rfl rfl (ld rfl rfl rfl) ?_ | refine qg rfl rfl rfl (ldS rfl rfl (flat_get_rec tactC_sz ht)) ?_ | refine qg rfl rfl rfl (ldS rfl rfl (flat_ld tactC_sz ht 3 (by omega) rfl)) ?_ | refine qg rfl rfl rfl (ldS rfl rfl (flat_ld tactC_sz ht 1 (by omega) rfl)) ?_ | refine qg rfl rfl rfl (ldS rfl rfl rfl) ?_
      refine z3s ?_
      refine cl (tleft_ok a V2 hP hb t.id) rfl PkL.p trivial ?_
      intro _ _
      refine z8d ?_
      rw [g2]
      refine z7i ?_
      refine z4e ?_
      refine z4b ?_
      refine TL.known 255 rfl (c := false) (by decide) ?_
      refine zcm ?_
      first | refine qg rfl rfl rfl (ld rfl rfl rfl) ?_ | refine qg rfl rfl rfl (ldS rfl rfl (flat_get_rec tactC_sz ht)) ?_ | refine qg rfl rfl rfl (ldS rfl rfl (flat_ld tactC_sz ht 3 (by omega) rfl)) ?_ | refine qg rfl rfl rfl (ldS rfl rfl (flat_ld tactC_sz ht 1 (by omega) rfl)) ?_ | refine qg rfl rfl rfl (ldS rfl rfl rfl) ?_
      refine z3s ?_
      refine cl (tcaller_ok a V2 hP hb t.id) rfl PkL.p trivial ?_
      intro _ _
      refine z8d ?_
      rw [g3]
      refine z7i ?_
      refine z4e ?_
      refine z4b ?_
      refine TL.known 265 rfl (c := false) (by decide) ?_
      refine zcm ?_
      first | refine qg rfl rfl rfl (ld rfl rfl rfl) ?_ | refine qg rfl rfl rfl (ldS rfl rfl (flat_get_rec tactC_sz ht)) ?_ | refine qg rfl rfl rfl (ldS rfl rfl (flat_ld tactC_sz ht 3 (by omega) rfl)) ?_ | refine qg rfl rfl rfl (ldS rfl rfl (flat_ld tactC_sz ht 1 (by omega) rfl)) ?_ | refine qg rfl rfl rfl (ldS rfl rfl rfl) ?_
      refine z3s ?_
      refine cl (trow_ok a V2 hP hb t.id) rfl PkL.p trivial ?_
      intro yp _
      refine z61 ?_
      rw [g4]
      refine z7f ?_
      refine z7i ?_
      refine z4e ?_
      refine z3m ?_
      refine z5z ?_
      refine z1b ?_
      exact ⟨rfl, ⟨i + 1, V2⟩, ⟨by dsimp only; omega, hJ.up (by dsimp only; omega) (Nat.le_refl _)⟩, (by dsimp only; omega), ⟨rfl, rfl, rfl, rfl, trivial⟩, entS⟩
  ·have hJ := hJ0
   clear hJ0
   have hP := hJ.g.p
   have hb := hJ.g.tb (by omega)
   have hW := hP.wm
   have hil := hb.ids
   obtain ⟨hSl, hAl, _, _⟩ := hP.bds hb
   refine z8g ?_
   refine z8 ?_
   refine TC.loop (ι := Nat) (fun v => v ≤ 8) (fun v => [(10, .pointer (some ⟨a, 0, none⟩)), (11, .pointer (some ⟨b4, 0, none⟩)), (15, .int .i64 ((v : Nat) : Int))]) (fun v => sepL [isT a V0, RX b4 V0.m.ids V0, F]) (fun v => 8 - v) 0 (by decide) ⟨rfl, rfl, rfl, trivial⟩ entS ?_
   rintro v hv ρ3
   dsimp only [updL] at hv ⊢
   refine z5d ?_
   refine z5e ?_
   first | refine TC.condD rfl (fun hlv => ?_) (fun hlv => ?_) | refine TC.cond rfl (fun hlv => ?_) (fun hlv => ?_)
   ·have hrw := Rd.rowI_R hP.rj (v : Int)
    have hrl := Rd.rowI_len V0.S (v : Int)
    refine zb3 ?_
    refine TC.draw _ [] [(0, false), (1, false), (3, false), (4, false), (5, false), (6, false), (2, true), (7, true), (8, true), (9, false)] (by kernel_rfl) (by kernel_rfl) (ent_nil _) ?_
    refine z32 ?_
    refine z8u ?_
    refine z35 ?_
    refine z41 ?_
    refine cl (tready_ok a V0 hP hb (v : Int)) rfl PkL.p trivial ?_
    intro yp _
    refine zbr ?_
    rw [hrw]
    refine z41 ?_
    refine cl (xqrow b4 V0.m.ids V0 (by omega) (v : Int)) rfl (picked_nil _) (ent_one 2 rfl) ?_
    intro yx _
    change ent _ _ ∧ TD _ _ _ _ _ _ _ _ _ _ (sepL [_, _, _, _, _])
    refine z37 ?_
    refine cl (same_ok yp.1 _ (Rd.rowI V0.S (v : Int)) yx.1 _ (Rd.rowI V0.S (v : Int)) (by omega)) rfl (picked_nil _) ⟨⟨_, RdSI.rd (ad := yp.1)⟩, ⟨_, RdSI.rd (ad := yx.1)⟩⟩ ?_
    intro _ _
    refine z4u ?_
    first | refine dq rfl rfl rfl (notD rfl) ?_ | refine dq rfl rfl rfl (notB rfl) ?_
    refine zc ?_
    refine TC.condD rfl (fun hc4 => absurd hc4 (fun h9 => h9 rfl)) (fun hc4 => ?_)
    refine z1b ?_
    exact ⟨rfl, (v + 1), (by omega), (by omega), ⟨rfl, rfl, rfl, trivial⟩, entS⟩
   ·refine TC.exit (et (et (eb (nt ?_))))
    refine z3i ?_
    refine cl (ttold_ok a V0) rfl PkL.p trivial ?_
    intro yp _
    refine z61 ?_
    refine z3u ?_
    refine cl (xtold_ok b4 V0) rfl PkL.p trivial ?_
    intro yx _
    refine z2s ?_
    have htl9 := hJ.g.told
    refine zs ?_
    refine cl (tsame_ok yp.1 _ V0.told yx.1 _ V0.told (by omega)) rfl (picked_nil _) ⟨⟨_, RdSI.rd (ad := yp.1)⟩, ⟨_, RdSI.rd (ad := yx.1)⟩⟩ ?_
    intro _ _
    refine z2s ?_
    refine ze ?_
    refine TC.ret ?_
    exact Ret.i () [_] ⟨rfl, trivial⟩ (congrArg Value.bool (decide_eq_true rfl)) trivial entS
end Go.Proofs.YtdfmfhcjnjfjbaaGreat
