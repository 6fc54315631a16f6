/-
  Proved here: what functions of this program compute, each as a contract over symbolic states, under the premises that each theorem names (most lines printed by a program of the prover).
-/
import Derived.Test.YtjnjijgplmmaiaaHandH
namespace Go.Proofs.Ytjnjijgplmmaiaa
open Go Go.QM
theorem rput_ok (b : Nat) (l : List Pl) (o : Ob) (ho : OkT l) : FSpec Try.prog 19 [.pointer (some ⟨b, 0, none⟩), .agg (ints o.l).toArray] noRd [slc 46 1 (some ⟨b, 0, none⟩) 1280 1280 (refC l)] (fun _ : Unit => .tuple #[.int .u32 (putR l o).2.1, .int .i64 (putR l o).2.2]) (fun _ => True) (fun _ => [slc 46 1 (some ⟨b, 0, none⟩) 1280 1280 (refC (putR l o).1)]) := by
  refine FSpec.intro (rs := [.tmp 4, .tmp 5]) (by kernel_rfl) Try.func19 rfl Try.ntmps19 (by rfl) rfl ?_
  intro F _
  change TC _ _ _ _ _ _ _ (sepL [_, _])
  have hln := ho.n
  have hrc := refC_length hln
  have hrp : 0 < (refC l).length := by omega
  refine TC.seq ?_
  refine TC.region ?_
  refine e rfl ?_
  refine bx (v := .agg (List.toArray (ints [_, _, _]))) (l := ints [_, _, _]) rfl rfl ?_
  intro b1
  refine q rfl rfl (asg (v := .int _ _) rfl) ?_
  refine q rfl rfl (asg (v := .int _ _) rfl) ?_
  refine TL.nil (nt ?_)
  refine TC.seq ?_
  refine TC.seq ?_
  refine TC.region ?_
  refine q rfl rfl (asg (v := .int _ _) rfl) ?_
  refine TL.nil (nt ?_)
  refine TC.block ?_
  refine TC.loop (ι := Nat) (fun i => i ≤ 256 ∧ ∀ j t, j < i → l[j]? = some t → isEmpty t = false) (fun i => [(0, .pointer (some ⟨b, 0, none⟩)), (3, .pointer (some ⟨b1, 0, none⟩)), (6, .int .i64 (i : Int))]) (fun i => sepL [slc 46 1 (some ⟨b, 0, none⟩) 1280 1280 (refC l), pts b1 32 (ints o.l), F]) (fun i => 256 - i) 0 ⟨Nat.zero_le _, by intro j t h; omega⟩ ⟨rfl, rfl, rfl, trivial⟩ (ent_take 1 rfl (ent_take 0 rfl (ent_take 0 rfl (ent_nil _)))) ?_
  rintro i ⟨hinv, hno⟩ ρ0
  dsimp only [updL] at hinv hno ⊢
  refine TC.seq ?_
  refine TC.seq ?_
  refine TC.region ?_
  refine q rfl rfl (mv (v := .int _ _) rfl) ?_
  refine q rfl rfl (lss rfl rfl) ?_
  refine TL.nil (nt ?_)
  first | refine TC.condD rfl (fun hlt => ?_) (fun hlt => ?_) | refine TC.cond rfl (fun hlt => ?_) (fun hlt => ?_)
  · have hlt : i < 256 := by omega
    obtain ⟨p, hi, ha⟩ := ho.at hlt
    refine TC.skip (nt ?_)
    refine TC.seq ?_
    refine TC.block ?_
    refine TC.seq ?_
    refine TC.region ?_
    refine q rfl rfl (mv (v := .pointer _) rfl) ?_
    refine q rfl rfl (mv (v := .int _ _) rfl) ?_
    first | refine q rfl rfl (ncP rfl) ?_ | refine q rfl rfl (ncQ rfl) ?_
    refine q rfl rfl (faQ 768 rfl rfl) ?_
    refine q rfl rfl (ixA 256 3 1 rfl rfl rfl (by omega) (by omega)) ?_
    first | refine q rfl rfl (ld rfl rfl rfl) ?_ | refine q rfl rfl (ldS rfl rfl (refC_st hln hi (by omega))) ?_ | refine q rfl rfl (ldS rfl rfl rfl) ?_
    refine q rfl rfl (eqI rfl rfl) ?_
    refine TL.nil (nt ?_)
    first | refine TC.condD rfl (fun hst => ?_) (fun hst => ?_) | refine TC.cond rfl (fun hst => ?_) (fun hst => ?_)
    · have hf : l.findIdx? isEmpty = some i := findIdx_at hi (by simp [isEmpty, hst]) hno
      have hR : putR l o = (l.set i ⟨o, 1, p.age⟩, p.age * 256 + i, 0) := by rw [putR, hf]; simp only; rw [hi]
      have hi2 := set_at (q := ⟨p.o, 1, p.age⟩) hi
      have hi3 := set_at (q := ⟨o, 1, p.age⟩) hi
      have hln2 : (l.set i ⟨p.o, 1, p.age⟩).length = 256 := by rw [List.length_set]; exact hln
      have hln3 : (l.set i ⟨o, 1, p.age⟩).length = 256 := by rw [List.length_set]; exact hln
      have hrc2 := refC_length hln2
      have hrc3 := refC_length hln3
      have hss : (l.set i ⟨p.o, 1, p.age⟩).set i ⟨o, 1, p.age⟩ = l.set i ⟨o, 1, p.age⟩ := List.set_set ..
      refine TC.seq ?_
      refine TC.region ?_
      refine q rfl rfl (mv (v := .pointer _) rfl) ?_
      refine q rfl rfl (mv (v := .int _ _) rfl) ?_
      first | refine q rfl rfl (ncP rfl) ?_ | refine q rfl rfl (ncQ rfl) ?_
      refine q rfl rfl (faQ 768 rfl rfl) ?_
      refine q rfl rfl (ixA 256 3 1 rfl rfl rfl (by omega) (by omega)) ?_
      refine e0 ?_
      first | refine st (v := .int _ _) (vs := [_]) 1 rfl rfl rfl rfl rfl rfl (Nat.le_of_ble_eq_true rfl) rfl ?_ | refine stS (v := .int _ _) (vs := [_]) 1 rfl rfl rfl rfl rfl rfl (by decide) (by omega) (refC_setS hln hi 1 (by omega)) ?_ | refine stS (v := .int _ _) (vs := [_]) 1 rfl rfl rfl rfl rfl rfl (by decide) (by omega) ((refC_setO hln2 hi2 o (by omega)).trans (congrArg refC hss)) ?_
      refine TL.nil (nt ?_)
      refine TC.seq ?_
      refine TC.draw _ [6] [(0, false), (1, false), (2, false), (3, false), (4, false), (5, false), (6, true)] (by kernel_rfl) (by kernel_rfl) (ent.refl _) ?_
      refine dq rfl rfl rfl (mv (v := .pointer _) rfl) ?_
      refine dq rfl rfl rfl (mv (v := .int _ _) rfl) ?_
      first | refine dq rfl rfl rfl (ldN (vs := ints [_, _, _]) 3 rfl rfl rfl rfl) ?_ | refine dq rfl rfl rfl (ldSN (vs := ints [_, _, _]) 3 rfl rfl (show (refC _)[_]? = some (.int .i64 p.age) from refC_age hln3 hi3 (by omega)) rfl (by decide)) ?_ | refine dq rfl rfl rfl (ldSN (vs := ints [_, _, _]) 3 rfl rfl rfl rfl (by decide)) ?_
      first | refine dq rfl rfl rfl (ncP rfl) ?_ | refine dq rfl rfl rfl (ncQ rfl) ?_
      refine dq rfl rfl rfl (faQ 0 rfl rfl) ?_
      refine dq rfl rfl rfl (ixA 256 32 3 rfl rfl rfl (by omega) (by omega)) ?_
      refine dl0 rfl rfl rfl ?_
      first | refine st (v := .agg (List.toArray (ints [_, _, _]))) (vs := ints [_, _, _]) 3 rfl rfl rfl rfl rfl rfl (Nat.le_of_ble_eq_true rfl) rfl ?_ | refine stS (v := .agg (List.toArray (ints [_, _, _]))) (vs := ints [_, _, _]) 3 rfl rfl rfl rfl rfl rfl (by decide) (by omega) (refC_setS hln hi 1 (by omega)) ?_ | refine stS (v := .agg (List.toArray (ints [_, _, _]))) (vs := ints [_, _, _]) 3 rfl rfl rfl rfl rfl rfl (by decide) (by omega) ((refC_setO hln2 hi2 o (by omega)).trans (congrArg refC hss)) ?_
      refine TD.nil (nt ?_)
      refine TC.seq ?_
      refine TC.region ?_
      refine q rfl rfl (mv (v := .pointer _) rfl) ?_
      refine q rfl rfl (mv (v := .int _ _) rfl) ?_
      first | refine q rfl rfl (ncP rfl) ?_ | refine q rfl rfl (ncQ rfl) ?_
      refine q rfl rfl (faQ 1024 rfl rfl) ?_
      refine q rfl rfl (ixA 256 3 1 rfl rfl rfl (by omega) (by omega)) ?_
      first | refine q rfl rfl (ld rfl rfl rfl) ?_ | refine q rfl rfl (ldS rfl rfl (show (refC _)[_]? = some (.int .i64 p.age) from refC_age hln3 hi3 (by omega))) ?_ | refine q rfl rfl (ldS rfl rfl rfl) ?_
      first | refine q rfl rfl (mulI rfl rfl (by omega) (by omega)) ?_ | refine q rfl rfl (mul rfl rfl rfl) ?_
      refine q rfl rfl (mv (v := .int _ _) rfl) ?_
      first | refine q rfl rfl (addI rfl rfl (by omega) (by omega)) ?_ | refine q rfl rfl (add rfl rfl rfl) ?_
      first | refine q rfl rfl (conv .i64 .u32 rfl rfl rfl (wu32 (by omega) (by omega))) ?_ | refine q rfl rfl (conv .i64 .u32 rfl rfl rfl rfl) ?_
      refine q rfl rfl (asg (v := .int _ _) rfl) ?_
      refine q rfl rfl (asg (v := .int _ _) rfl) ?_
      refine TL.nil (nt ?_)
      refine TC.ret (rb (rt (rt (rb (rt ?_)))))
      exact Ret.i () [_, _] ⟨rfl, rfl, trivial⟩ (by rw [hR]; exact congrArg (fun z => Value.tuple #[.int .u32 z, .int .i64 0]) (by dsimp only; omega)) trivial (ent_takeE 0 rfl (by rw [hR]) (ent_take 1 rfl (ent_nil _)))
    · refine TC.skip (nb (nt ?_))
      refine TC.region ?_
      refine q rfl rfl (mv (v := .int _ _) rfl) ?_
      first | refine q rfl rfl (addI rfl rfl (by omega) (by omega)) ?_ | refine q rfl rfl (add rfl rfl rfl) ?_
      refine q rfl rfl (asg (v := .int _ _) rfl) ?_
      refine TL.nil (nt ?_)
      exact ⟨rfl, (i + 1), ⟨by omega, fun j t hj ht => by rcases Nat.lt_succ_iff_lt_or_eq.1 hj with h | h; exact hno j t h ht; subst h; rw [hi] at ht; cases ht; simp [isEmpty, hst]⟩, (by omega), ⟨rfl, rfl, rfl, trivial⟩, (ent_take 0 rfl (ent_take 0 rfl (ent_take 0 rfl (ent_nil _))))⟩
  · obtain rfl : i = 256 := by omega
    have hf : l.findIdx? isEmpty = none := findIdx_no fun j t hj ht => hno j t (by omega) ht
    have hR : putR l o = (l, 0, 11) := by rw [putR, hf]
    refine TC.exit (et (et (eb (nt ?_))))
    refine TC.seq ?_
    refine TC.region ?_
    refine q rfl rfl (asg (v := .int _ _) rfl) ?_
    refine q rfl rfl (asg (v := .int _ _) rfl) ?_
    refine TL.nil (nt ?_)
    refine TC.ret ?_
    exact Ret.i () [_, _] ⟨rfl, rfl, trivial⟩ (by rw [hR]; rfl) trivial (ent_takeE 0 rfl (by rw [hR]) (ent_take 1 rfl (ent_nil _)))

theorem rkill_ok (b : Nat) (l : List Pl) (h : Int) (ho : OkT l) (h0 : 0 ≤ h ∧ h ≤ 4294967295) : FSpec Try.prog 20 [.pointer (some ⟨b, 0, none⟩), .int .u32 h] noRd [slc 46 1 (some ⟨b, 0, none⟩) 1280 1280 (refC l)] (fun _ : Unit => .int .i64 (killR l h).2) (fun _ => True) (fun _ => [slc 46 1 (some ⟨b, 0, none⟩) 1280 1280 (refC (killR l h).1)]) := by
  refine FSpec.intro (rs := [.tmp 4]) (by kernel_rfl) Try.func20 rfl Try.ntmps20 (by rfl) rfl ?_
  intro F _
  change TC _ _ _ _ _ _ _ (sepL [_, _])
  have hln := ho.n
  have hrc := refC_length hln
  have hrp : 0 < (refC l).length := by omega
  refine TC.seq ?_
  refine TC.region ?_
  refine q rfl rfl (asg (v := .int _ _) rfl) ?_
  refine TL.nil (nt ?_)
  refine TC.seq ?_
  refine TC.region ?_
  refine q rfl rfl (mv (v := .pointer _) rfl) ?_
  refine q rfl rfl (mv (v := .int _ _) rfl) ?_
  refine e rfl ?_
  refine cl (rplace_ok b l h ho h0) rfl (picked_nil _) ⟨_, RdSI.rd⟩ ?_
  intro _ _
  change TL _ _ _ _ _ _ _ _ (sepL [_, _])
  rcases plR_cases ho h0 with ⟨hp, hno⟩ | ⟨i, p, hp, hlt, hi, ha1, ha2, hlk⟩ <;> rw [hp]
  · refine q rfl rfl (asg (v := .int _ _) rfl) ?_
    refine TL.nil (nt ?_)
    refine TC.seq ?_
    refine TC.seq ?_
    refine TC.region ?_
    refine q rfl rfl (mv (v := .int _ _) rfl) ?_
    refine q rfl rfl (lss rfl rfl) ?_
    refine q rfl rfl (mv (v := .bool _) rfl) ?_
    refine TL.known 11 rfl (c := true) (by decide) ?_
    refine qs rfl rfl ?_
    refine qs rfl rfl ?_
    refine qs rfl rfl ?_
    refine qs rfl rfl ?_
    refine qs rfl rfl ?_
    refine qs rfl rfl ?_
    refine qs rfl rfl ?_
    first | refine q rfl rfl (pkT rfl rfl) ?_ | refine q rfl rfl (pkF rfl rfl) ?_
    refine TL.nil (nt ?_)
    refine TC.condT rfl ?_
    have hR : killR l h = (l, 8) := by rw [killR, hno]
    refine TC.seq ?_
    refine TC.region ?_
    refine q rfl rfl (asg (v := .int _ _) rfl) ?_
    refine TL.nil (nt ?_)
    refine TC.ret (rt ?_)
    exact Ret.i () [_] ⟨rfl, trivial⟩ (by rw [hR]; rfl) trivial (ent_takeE 0 rfl (by rw [hR]) (ent_take 0 rfl (ent_nil _)))
  · refine q rfl rfl (asg (v := .int _ _) rfl) ?_
    refine TL.nil (nt ?_)
    refine TC.seq ?_
    refine TC.seq ?_
    refine TC.region ?_
    refine q rfl rfl (mv (v := .int _ _) rfl) ?_
    refine q rfl rfl (lss rfl rfl) ?_
    refine q rfl rfl (mv (v := .bool _) rfl) ?_
    refine TL.known 11 rfl (c := false) (decide_eq_false (by omega)) ?_
    refine qg rfl rfl rfl (mv (v := .pointer _) rfl) ?_
    refine qg rfl rfl rfl (mv (v := .int _ _) rfl) ?_
    first | refine qg rfl rfl rfl (ncP rfl) ?_ | refine qg rfl rfl rfl (ncQ rfl) ?_
    refine qg rfl rfl rfl (faQ 768 rfl rfl) ?_
    refine qg rfl rfl rfl (ixA 256 3 1 rfl rfl rfl (by omega) (by omega)) ?_
    first | refine qg rfl rfl rfl (ld rfl rfl rfl) ?_ | refine qg rfl rfl rfl (ldS rfl rfl (refC_st hln hi (by omega))) ?_ | refine qg rfl rfl rfl (ldS rfl rfl rfl) ?_
    refine qg rfl rfl rfl (neI rfl rfl) ?_
    first | refine q rfl rfl (pkT rfl rfl) ?_ | refine q rfl rfl (pkF rfl rfl) ?_
    refine TL.nil (nt ?_)
    first | refine TC.condD rfl (fun hst => ?_) (fun hst => ?_) | refine TC.cond rfl (fun hst => ?_) (fun hst => ?_)
    · have hR : killR l h = (l, 8) := by rw [killR, hlk, if_neg hst]
      refine TC.seq ?_
      refine TC.region ?_
      refine q rfl rfl (asg (v := .int _ _) rfl) ?_
      refine TL.nil (nt ?_)
      refine TC.ret (rt ?_)
      exact Ret.i () [_] ⟨rfl, trivial⟩ (by rw [hR]; rfl) trivial (ent_takeE 0 rfl (by rw [hR]) (ent_take 0 rfl (ent_nil _)))
    · have hR : killR l h = (l.set i ⟨p.o, 2, p.age⟩, 0) := by rw [killR, hlk, if_pos (Decidable.not_not.1 hst)]
      refine TC.skip (nt ?_)
      refine TC.seq ?_
      refine TC.region ?_
      refine q rfl rfl (mv (v := .pointer _) rfl) ?_
      refine q rfl rfl (mv (v := .int _ _) rfl) ?_
      first | refine q rfl rfl (ncP rfl) ?_ | refine q rfl rfl (ncQ rfl) ?_
      refine q rfl rfl (faQ 768 rfl rfl) ?_
      refine q rfl rfl (ixA 256 3 1 rfl rfl rfl (by omega) (by omega)) ?_
      refine e0 ?_
      first | refine st (v := .int _ _) (vs := [_]) 1 rfl rfl rfl rfl rfl rfl (Nat.le_of_ble_eq_true rfl) rfl ?_ | refine stS (v := .int _ _) (vs := [_]) 1 rfl rfl rfl rfl rfl rfl (by decide) (by omega) (refC_setS hln hi 2 (by omega)) ?_
      refine TL.nil (nt ?_)
      refine TC.seq ?_
      refine TC.region ?_
      refine q rfl rfl (asg (v := .int _ _) rfl) ?_
      refine TL.nil (nt ?_)
      refine TC.ret ?_
      exact Ret.i () [_] ⟨rfl, trivial⟩ (by rw [hR]; rfl) trivial (ent_takeE 0 rfl (by rw [hR]) (ent_take 0 rfl (ent_nil _)))

def rfreeP (p : Pl) : Pl := if p.age < 1048575 then ⟨p.o, 0, p.age + 1⟩ else ⟨p.o, 3, p.age⟩
def rfreeR (l : List Pl) (h : Int) : List Pl × Ob × Int := match lookL l h 2 with
  | some (i, p) => (l.set i (rfreeP p), p.o, 0)
  | none => (l, zeroOb, 8)

theorem rfree_ok (b : Nat) (l : List Pl) (h : Int) (ho : OkT l) (h0 : 0 ≤ h ∧ h ≤ 4294967295) : FSpec Try.prog 21 [.pointer (some ⟨b, 0, none⟩), .int .u32 h] noRd [slc 46 1 (some ⟨b, 0, none⟩) 1280 1280 (refC l)] (fun _ : Unit => .tuple #[.agg (ints (rfreeR l h).2.1.l).toArray, .int .i64 (rfreeR l h).2.2]) (fun _ => True) (fun _ => [slc 46 1 (some ⟨b, 0, none⟩) 1280 1280 (refC (rfreeR l h).1)]) := by
  refine FSpec.intro (rs := [.cell 4 32, .tmp 5]) (by kernel_rfl) Try.func21 rfl Try.ntmps21 (by rfl) rfl ?_
  intro F _
  change TC _ _ _ _ _ _ _ (sepL [_, _])
  have hln := ho.n
  have hrc := refC_length hln
  have hrp : 0 < (refC l).length := by omega
  refine TC.seq ?_
  refine TC.region ?_
  refine e rfl ?_
  refine al (l := ints [_, _, _]) rfl rfl ?_
  intro b2
  refine q rfl rfl (asg (v := .int _ _) rfl) ?_
  refine TL.nil (nt ?_)
  refine TC.seq ?_
  refine TC.region ?_
  refine q rfl rfl (mv (v := .pointer _) rfl) ?_
  refine q rfl rfl (mv (v := .int _ _) rfl) ?_
  refine e rfl ?_
  refine cl (rplace_ok b l h ho h0) rfl (picked_nil _) ⟨_, RdSI.rd⟩ ?_
  intro _ _
  change TL _ _ _ _ _ _ _ _ (sepL [_, _, _])
  rcases plR_cases ho h0 with ⟨hp, hno⟩ | ⟨i, p, hp, hlt, hi, ha1, ha2, hlk⟩ <;> rw [hp]
  · refine q rfl rfl (asg (v := .int _ _) rfl) ?_
    refine TL.nil (nt ?_)
    refine TC.seq ?_
    refine TC.seq ?_
    refine TC.region ?_
    refine q rfl rfl (mv (v := .int _ _) rfl) ?_
    refine q rfl rfl (lss rfl rfl) ?_
    refine q rfl rfl (mv (v := .bool _) rfl) ?_
    refine TL.known 12 rfl (c := true) (by decide) ?_
    refine qs rfl rfl ?_
    refine qs rfl rfl ?_
    refine qs rfl rfl ?_
    refine qs rfl rfl ?_
    refine qs rfl rfl ?_
    refine qs rfl rfl ?_
    refine qs rfl rfl ?_
    first | refine q rfl rfl (pkT rfl rfl) ?_ | refine q rfl rfl (pkF rfl rfl) ?_
    refine TL.nil (nt ?_)
    refine TC.condT rfl ?_
    have hR : rfreeR l h = (l, zeroOb, 8) := by rw [rfreeR, hno]
    refine TC.seq ?_
    refine TC.region ?_
    first | refine q rfl rfl (bld (cs := ints [_, _, _]) rfl) ?_ | refine q rfl rfl (bld (cs := [_, _, _]) rfl) ?_
    refine e0 ?_
    refine st (v := .agg (List.toArray (ints [_, _, _]))) (vs := ints [_, _, _]) 3 rfl rfl rfl rfl rfl rfl (Nat.le_of_ble_eq_true rfl) rfl ?_
    refine q rfl rfl (asg (v := .int _ _) rfl) ?_
    refine TL.nil (nt ?_)
    refine TC.ret (rt ?_)
    exact Ret.i () [_, _] ⟨(rcN (n := 3) rfl rfl rfl rfl), rfl, trivial⟩ (by rw [hR]; rfl) trivial (ent_takeE 1 rfl (by rw [hR]) (ent_take 1 rfl (ent_nil _)))
  · refine q rfl rfl (asg (v := .int _ _) rfl) ?_
    refine TL.nil (nt ?_)
    refine TC.seq ?_
    refine TC.seq ?_
    refine TC.region ?_
    refine q rfl rfl (mv (v := .int _ _) rfl) ?_
    refine q rfl rfl (lss rfl rfl) ?_
    refine q rfl rfl (mv (v := .bool _) rfl) ?_
    refine TL.known 12 rfl (c := false) (decide_eq_false (by omega)) ?_
    refine qg rfl rfl rfl (mv (v := .pointer _) rfl) ?_
    refine qg rfl rfl rfl (mv (v := .int _ _) rfl) ?_
    first | refine qg rfl rfl rfl (ncP rfl) ?_ | refine qg rfl rfl rfl (ncQ rfl) ?_
    refine qg rfl rfl rfl (faQ 768 rfl rfl) ?_
    refine qg rfl rfl rfl (ixA 256 3 1 rfl rfl rfl (by omega) (by omega)) ?_
    first | refine qg rfl rfl rfl (ld rfl rfl rfl) ?_ | refine qg rfl rfl rfl (ldS rfl rfl (refC_st hln hi (by omega))) ?_ | refine qg rfl rfl rfl (ldS rfl rfl rfl) ?_
    refine qg rfl rfl rfl (neI rfl rfl) ?_
    first | refine q rfl rfl (pkT rfl rfl) ?_ | refine q rfl rfl (pkF rfl rfl) ?_
    refine TL.nil (nt ?_)
    first | refine TC.condD rfl (fun hst => ?_) (fun hst => ?_) | refine TC.cond rfl (fun hst => ?_) (fun hst => ?_)
    · have hR : rfreeR l h = (l, zeroOb, 8) := by rw [rfreeR, hlk, if_neg hst]
      refine TC.seq ?_
      refine TC.region ?_
      first | refine q rfl rfl (bld (cs := ints [_, _, _]) rfl) ?_ | refine q rfl rfl (bld (cs := [_, _, _]) rfl) ?_
      refine e0 ?_
      refine st (v := .agg (List.toArray (ints [_, _, _]))) (vs := ints [_, _, _]) 3 rfl rfl rfl rfl rfl rfl (Nat.le_of_ble_eq_true rfl) rfl ?_
      refine q rfl rfl (asg (v := .int _ _) rfl) ?_
      refine TL.nil (nt ?_)
      refine TC.ret (rt ?_)
      exact Ret.i () [_, _] ⟨(rcN (n := 3) rfl rfl rfl rfl), rfl, trivial⟩ (by rw [hR]; rfl) trivial (ent_takeE 1 rfl (by rw [hR]) (ent_take 1 rfl (ent_nil _)))
    · have hR : rfreeR l h = (l.set i (rfreeP p), p.o, 0) := by rw [rfreeR, hlk, if_pos (Decidable.not_not.1 hst)]
      have hi2 := set_at (q := ⟨p.o, 3, p.age⟩) hi
      have hi3 := set_at (q := ⟨p.o, 0, p.age⟩) hi
      have hi4 := set_at (q := ⟨p.o, 0, p.age + 1⟩) hi
      have hln2 : (l.set i ⟨p.o, 3, p.age⟩).length = 256 := by rw [List.length_set]; exact hln
      have hln3 : (l.set i ⟨p.o, 0, p.age⟩).length = 256 := by rw [List.length_set]; exact hln
      have hln4 : (l.set i ⟨p.o, 0, p.age + 1⟩).length = 256 := by rw [List.length_set]; exact hln
      have hrc2 := refC_length hln2
      have hrc3 := refC_length hln3
      have hrc4 := refC_length hln4
      have hs3 : (l.set i ⟨p.o, 3, p.age⟩).set i ⟨p.o, 0, p.age⟩ = l.set i ⟨p.o, 0, p.age⟩ := List.set_set ..
      have hs4 : (l.set i ⟨p.o, 0, p.age⟩).set i ⟨p.o, 0, p.age + 1⟩ = l.set i ⟨p.o, 0, p.age + 1⟩ := List.set_set ..
      refine TC.skip (nt ?_)
      refine TC.seq ?_
      refine TC.region ?_
      refine q rfl rfl (mv (v := .pointer _) rfl) ?_
      refine q rfl rfl (mv (v := .int _ _) rfl) ?_
      first | refine q rfl rfl (ncP rfl) ?_ | refine q rfl rfl (ncQ rfl) ?_
      refine q rfl rfl (faQ 768 rfl rfl) ?_
      refine q rfl rfl (ixA 256 3 1 rfl rfl rfl (by omega) (by omega)) ?_
      refine e0 ?_
      first | refine st (v := .int _ _) (vs := [_]) 1 rfl rfl rfl rfl rfl rfl (Nat.le_of_ble_eq_true rfl) rfl ?_ | refine stS (v := .int _ _) (vs := [_]) 1 rfl rfl rfl rfl rfl rfl (by decide) (by omega) (refC_setS hln hi 3 (by omega)) ?_ | refine stS (v := .int _ _) (vs := [_]) 1 rfl rfl rfl rfl rfl rfl (by decide) (by omega) ((refC_setS hln2 hi2 0 (by omega)).trans (congrArg refC hs3)) ?_ | refine stS (v := .int _ _) (vs := [_]) 1 rfl rfl rfl rfl rfl rfl (by decide) (by omega) ((refC_setA hln3 hi3 (p.age + 1) (by omega)).trans (congrArg refC hs4)) ?_
      refine TL.nil (nt ?_)
      refine TC.seq ?_
      refine TC.seq ?_
      refine TC.region ?_
      refine q rfl rfl (mv (v := .pointer _) rfl) ?_
      refine q rfl rfl (mv (v := .int _ _) rfl) ?_
      first | refine q rfl rfl (ncP rfl) ?_ | refine q rfl rfl (ncQ rfl) ?_
      refine q rfl rfl (faQ 1024 rfl rfl) ?_
      refine q rfl rfl (ixA 256 3 1 rfl rfl rfl (by omega) (by omega)) ?_
      first | refine q rfl rfl (ld rfl rfl rfl) ?_ | refine q rfl rfl (ldS rfl rfl (show (refC _)[_]? = some (.int .i64 p.age) from refC_age hln2 hi2 (by omega))) ?_ | refine q rfl rfl (ldS rfl rfl rfl) ?_
      refine q rfl rfl (lss rfl rfl) ?_
      refine TL.nil (nt ?_)
      first | refine TC.condD rfl (fun hag => ?_) (fun hag => ?_) | refine TC.cond rfl (fun hag => ?_) (fun hag => ?_)
      · have hfp : rfreeP p = ⟨p.o, 0, p.age + 1⟩ := by rw [rfreeP, if_pos hag]
        refine TC.seq ?_
        refine TC.region ?_
        refine q rfl rfl (mv (v := .pointer _) rfl) ?_
        refine q rfl rfl (mv (v := .int _ _) rfl) ?_
        first | refine q rfl rfl (ncP rfl) ?_ | refine q rfl rfl (ncQ rfl) ?_
        refine q rfl rfl (faQ 768 rfl rfl) ?_
        refine q rfl rfl (ixA 256 3 1 rfl rfl rfl (by omega) (by omega)) ?_
        refine e0 ?_
        first | refine st (v := .int _ _) (vs := [_]) 1 rfl rfl rfl rfl rfl rfl (Nat.le_of_ble_eq_true rfl) rfl ?_ | refine stS (v := .int _ _) (vs := [_]) 1 rfl rfl rfl rfl rfl rfl (by decide) (by omega) (refC_setS hln hi 3 (by omega)) ?_ | refine stS (v := .int _ _) (vs := [_]) 1 rfl rfl rfl rfl rfl rfl (by decide) (by omega) ((refC_setS hln2 hi2 0 (by omega)).trans (congrArg refC hs3)) ?_ | refine stS (v := .int _ _) (vs := [_]) 1 rfl rfl rfl rfl rfl rfl (by decide) (by omega) ((refC_setA hln3 hi3 (p.age + 1) (by omega)).trans (congrArg refC hs4)) ?_
        refine TL.nil (nt ?_)
        refine TC.draw _ [10] [(0, false), (1, false), (2, false), (3, false), (4, false), (5, false), (6, false), (7, false), (8, false), (9, false), (10, true)] (by kernel_rfl) (by kernel_rfl) (ent.refl _) ?_
        refine dq rfl rfl rfl (mv (v := .pointer _) rfl) ?_
        refine dq rfl rfl rfl (mv (v := .int _ _) rfl) ?_
        first | refine dq rfl rfl rfl (ncP rfl) ?_ | refine dq rfl rfl rfl (ncQ rfl) ?_
        refine dq rfl rfl rfl (faQ 1024 rfl rfl) ?_
        refine dq rfl rfl rfl (ixA 256 3 1 rfl rfl rfl (by omega) (by omega)) ?_
        first | refine dq rfl rfl rfl (ld rfl rfl rfl) ?_ | refine dq rfl rfl rfl (ldS rfl rfl (show (refC _)[_]? = some (.int .i64 p.age) from refC_age hln3 hi3 (by omega))) ?_ | refine dq rfl rfl rfl (ldS rfl rfl (refC_o hln4 hi4 (by omega))) ?_ | refine dq rfl rfl rfl (ldS rfl rfl rfl) ?_
        first | refine dq rfl rfl rfl (addI rfl rfl (by omega) (by omega)) ?_ | refine dq rfl rfl rfl (add rfl rfl rfl) ?_
        first | refine dq rfl rfl rfl (ncP rfl) ?_ | refine dq rfl rfl rfl (ncQ rfl) ?_
        refine dq rfl rfl rfl (faQ 1024 rfl rfl) ?_
        refine dq rfl rfl rfl (ixA 256 3 1 rfl rfl rfl (by omega) (by omega)) ?_
        refine dl0 rfl rfl rfl ?_
        first | refine st (v := .int _ _) (vs := [_]) 1 rfl rfl rfl rfl rfl rfl (Nat.le_of_ble_eq_true rfl) rfl ?_ | refine stS (v := .int _ _) (vs := [_]) 1 rfl rfl rfl rfl rfl rfl (by decide) (by omega) (refC_setS hln hi 3 (by omega)) ?_ | refine stS (v := .int _ _) (vs := [_]) 1 rfl rfl rfl rfl rfl rfl (by decide) (by omega) ((refC_setS hln2 hi2 0 (by omega)).trans (congrArg refC hs3)) ?_ | refine stS (v := .int _ _) (vs := [_]) 1 rfl rfl rfl rfl rfl rfl (by decide) (by omega) ((refC_setA hln3 hi3 (p.age + 1) (by omega)).trans (congrArg refC hs4)) ?_
        refine TD.nil (nt ?_)
        refine TC.seq ?_
        refine TC.region ?_
        refine q rfl rfl (mv (v := .pointer _) rfl) ?_
        refine q rfl rfl (mv (v := .int _ _) rfl) ?_
        first | refine q rfl rfl (ncP rfl) ?_ | refine q rfl rfl (ncQ rfl) ?_
        refine q rfl rfl (faQ 0 rfl rfl) ?_
        refine q rfl rfl (ixA 256 32 3 rfl rfl rfl (by omega) (by omega)) ?_
        first | refine q rfl rfl (ldN (vs := ints [_, _, _]) 3 rfl rfl rfl rfl) ?_ | refine q rfl rfl (ldSN (vs := ints [_, _, _]) 3 rfl rfl (show (refC _)[_]? = some (.int .i64 p.age) from refC_age hln3 hi3 (by omega)) rfl (by decide)) ?_ | refine q rfl rfl (ldSN (vs := ints [_, _, _]) 3 rfl rfl (refC_o hln4 hi4 (by omega)) rfl (by decide)) ?_ | refine q rfl rfl (ldSN (vs := ints [_, _, _]) 3 rfl rfl rfl rfl (by decide)) ?_
        refine e0 ?_
        first | refine st (v := .agg (List.toArray (ints [_, _, _]))) (vs := ints [_, _, _]) 3 rfl rfl rfl rfl rfl rfl (Nat.le_of_ble_eq_true rfl) rfl ?_ | refine stS (v := .agg (List.toArray (ints [_, _, _]))) (vs := ints [_, _, _]) 3 rfl rfl rfl rfl rfl rfl (by decide) (by omega) (refC_setS hln hi 3 (by omega)) ?_ | refine stS (v := .agg (List.toArray (ints [_, _, _]))) (vs := ints [_, _, _]) 3 rfl rfl rfl rfl rfl rfl (by decide) (by omega) ((refC_setS hln2 hi2 0 (by omega)).trans (congrArg refC hs3)) ?_ | refine stS (v := .agg (List.toArray (ints [_, _, _]))) (vs := ints [_, _, _]) 3 rfl rfl rfl rfl rfl rfl (by decide) (by omega) ((refC_setA hln3 hi3 (p.age + 1) (by omega)).trans (congrArg refC hs4)) ?_
        refine q rfl rfl (asg (v := .int _ _) rfl) ?_
        refine TL.nil (nt ?_)
        refine TC.ret ?_
        exact Ret.i () [_, _] ⟨(rcN (n := 3) rfl rfl rfl rfl), rfl, trivial⟩ (by rw [hR]; rfl) trivial (ent_takeE 1 rfl (by rw [hR, hfp]) (ent_take 1 rfl (ent_nil _)))
      · have hfp : rfreeP p = ⟨p.o, 3, p.age⟩ := by rw [rfreeP, if_neg hag]
        refine TC.skip (nt ?_)
        refine TC.seq ?_
        refine TC.region ?_
        refine q rfl rfl (mv (v := .pointer _) rfl) ?_
        refine q rfl rfl (mv (v := .int _ _) rfl) ?_
        first | refine q rfl rfl (ncP rfl) ?_ | refine q rfl rfl (ncQ rfl) ?_
        refine q rfl rfl (faQ 0 rfl rfl) ?_
        refine q rfl rfl (ixA 256 32 3 rfl rfl rfl (by omega) (by omega)) ?_
        first | refine q rfl rfl (ldN (vs := ints [_, _, _]) 3 rfl rfl rfl rfl) ?_ | refine q rfl rfl (ldSN (vs := ints [_, _, _]) 3 rfl rfl (refC_o hln2 hi2 (by omega)) rfl (by decide)) ?_ | refine q rfl rfl (ldSN (vs := ints [_, _, _]) 3 rfl rfl rfl rfl (by decide)) ?_
        refine e0 ?_
        first | refine st (v := .agg (List.toArray (ints [_, _, _]))) (vs := ints [_, _, _]) 3 rfl rfl rfl rfl rfl rfl (Nat.le_of_ble_eq_true rfl) rfl ?_ | refine stS (v := .agg (List.toArray (ints [_, _, _]))) (vs := ints [_, _, _]) 3 rfl rfl rfl rfl rfl rfl (by decide) (by omega) (refC_setS hln hi 3 (by omega)) ?_ | refine stS (v := .agg (List.toArray (ints [_, _, _]))) (vs := ints [_, _, _]) 3 rfl rfl rfl rfl rfl rfl (by decide) (by omega) ((refC_setS hln2 hi2 0 (by omega)).trans (congrArg refC hs3)) ?_ | refine stS (v := .agg (List.toArray (ints [_, _, _]))) (vs := ints [_, _, _]) 3 rfl rfl rfl rfl rfl rfl (by decide) (by omega) ((refC_setA hln3 hi3 (p.age + 1) (by omega)).trans (congrArg refC hs4)) ?_
        refine q rfl rfl (asg (v := .int _ _) rfl) ?_
        refine TL.nil (nt ?_)
        refine TC.ret ?_
        exact Ret.i () [_, _] ⟨(rcN (n := 3) rfl rfl rfl rfl), rfl, trivial⟩ (by rw [hR]; rfl) trivial (ent_takeE 1 rfl (by rw [hR, hfp]) (ent_take 1 rfl (ent_nil _)))

theorem rage_ok (b : Nat) (l : List Pl) (i a : Int) (ho : OkT l) : FSpec Try.prog 22 [.pointer (some ⟨b, 0, none⟩), .int .i64 i, .int .i64 a] noRd [slc 46 1 (some ⟨b, 0, none⟩) 1280 1280 (refC l)] (fun _ : Unit => .bool (ageR l i a).2) (fun _ => True) (fun _ => [slc 46 1 (some ⟨b, 0, none⟩) 1280 1280 (refC (ageR l i a).1)]) := by
  refine FSpec.intro (rs := [.tmp 6]) (by kernel_rfl) Try.func22 rfl Try.ntmps22 (by rfl) rfl ?_
  intro F _
  change TC _ _ _ _ _ _ _ (sepL [_, _])
  have hln := ho.n
  have hrc := refC_length hln
  have hrp : 0 < (refC l).length := by omega
  refine TC.seq ?_
  refine TC.region ?_
  refine q rfl rfl (asg (v := .bool _) rfl) ?_
  refine TL.nil (nt ?_)
  refine TC.seq ?_
  refine TC.seq ?_
  refine TC.region ?_
  refine q rfl rfl (mv (v := .int _ _) rfl) ?_
  refine q rfl rfl (lss rfl rfl) ?_
  refine q rfl rfl (mv (v := .bool _) rfl) ?_
  refine TL.split 9 rfl (fun hs0 => ?_) (fun hs0 => ?_)
  · have hs0 := of_decide_eq_true hs0
    have hR : ageR l i a = (l, false) := by rw [ageR, if_neg (by omega)]
    refine qs rfl rfl ?_
    refine qs rfl rfl ?_
    first | refine q rfl rfl (pkT rfl rfl) ?_ | refine q rfl rfl (pkF rfl rfl) ?_
    refine q rfl rfl (mv (v := .bool _) rfl) ?_
    refine qs rfl rfl ?_
    refine qs rfl rfl ?_
    first | refine q rfl rfl (pkT rfl rfl) ?_ | refine q rfl rfl (pkF rfl rfl) ?_
    refine q rfl rfl (mv (v := .bool _) rfl) ?_
    refine qs rfl rfl ?_
    refine qs rfl rfl ?_
    first | refine q rfl rfl (pkT rfl rfl) ?_ | refine q rfl rfl (pkF rfl rfl) ?_
    refine q rfl rfl (mv (v := .bool _) rfl) ?_
    refine qs rfl rfl ?_
    refine qs rfl rfl ?_
    refine qs rfl rfl ?_
    refine qs rfl rfl ?_
    refine qs rfl rfl ?_
    refine qs rfl rfl ?_
    refine qs rfl rfl ?_
    first | refine q rfl rfl (pkT rfl rfl) ?_ | refine q rfl rfl (pkF rfl rfl) ?_
    refine TL.nil (nt ?_)
    refine TC.condT rfl ?_
    refine TC.seq ?_
    refine TC.region ?_
    refine q rfl rfl (asg (v := .bool _) rfl) ?_
    refine TL.nil (nt ?_)
    refine TC.ret (rt ?_)
    exact Ret.i () [_] ⟨rfl, trivial⟩ (by rw [hR]; rfl) trivial (ent_takeE 0 rfl (by rw [hR]) (ent_take 0 rfl (ent_nil _)))
  · have hs0 := of_decide_eq_false hs0
    refine qg rfl rfl rfl (mv (v := .int _ _) rfl) ?_
    refine qg rfl rfl rfl (gtr rfl rfl) ?_
    first | refine q rfl rfl (pkT rfl rfl) ?_ | refine q rfl rfl (pkF rfl rfl) ?_
    refine q rfl rfl (mv (v := .bool _) rfl) ?_
    refine TL.split 13 rfl (fun hs1 => ?_) (fun hs1 => ?_)
    · have hs1 := of_decide_eq_true hs1
      have hR : ageR l i a = (l, false) := by rw [ageR, if_neg (by omega)]
      refine qs rfl rfl ?_
      refine qs rfl rfl ?_
      first | refine q rfl rfl (pkT rfl rfl) ?_ | refine q rfl rfl (pkF rfl rfl) ?_
      refine q rfl rfl (mv (v := .bool _) rfl) ?_
      refine qs rfl rfl ?_
      refine qs rfl rfl ?_
      first | refine q rfl rfl (pkT rfl rfl) ?_ | refine q rfl rfl (pkF rfl rfl) ?_
      refine q rfl rfl (mv (v := .bool _) rfl) ?_
      refine qs rfl rfl ?_
      refine qs rfl rfl ?_
      refine qs rfl rfl ?_
      refine qs rfl rfl ?_
      refine qs rfl rfl ?_
      refine qs rfl rfl ?_
      refine qs rfl rfl ?_
      first | refine q rfl rfl (pkT rfl rfl) ?_ | refine q rfl rfl (pkF rfl rfl) ?_
      refine TL.nil (nt ?_)
      refine TC.condT rfl ?_
      refine TC.seq ?_
      refine TC.region ?_
      refine q rfl rfl (asg (v := .bool _) rfl) ?_
      refine TL.nil (nt ?_)
      refine TC.ret (rt ?_)
      exact Ret.i () [_] ⟨rfl, trivial⟩ (by rw [hR]; rfl) trivial (ent_takeE 0 rfl (by rw [hR]) (ent_take 0 rfl (ent_nil _)))
    · have hs1 := of_decide_eq_false hs1
      refine qg rfl rfl rfl (mv (v := .int _ _) rfl) ?_
      refine qg rfl rfl rfl (lss rfl rfl) ?_
      first | refine q rfl rfl (pkT rfl rfl) ?_ | refine q rfl rfl (pkF rfl rfl) ?_
      refine q rfl rfl (mv (v := .bool _) rfl) ?_
      refine TL.split 17 rfl (fun hs2 => ?_) (fun hs2 => ?_)
      · have hs2 := of_decide_eq_true hs2
        have hR : ageR l i a = (l, false) := by rw [ageR, if_neg (by omega)]
        refine qs rfl rfl ?_
        refine qs rfl rfl ?_
        first | refine q rfl rfl (pkT rfl rfl) ?_ | refine q rfl rfl (pkF rfl rfl) ?_
        refine q rfl rfl (mv (v := .bool _) rfl) ?_
        refine qs rfl rfl ?_
        refine qs rfl rfl ?_
        refine qs rfl rfl ?_
        refine qs rfl rfl ?_
        refine qs rfl rfl ?_
        refine qs rfl rfl ?_
        refine qs rfl rfl ?_
        first | refine q rfl rfl (pkT rfl rfl) ?_ | refine q rfl rfl (pkF rfl rfl) ?_
        refine TL.nil (nt ?_)
        refine TC.condT rfl ?_
        refine TC.seq ?_
        refine TC.region ?_
        refine q rfl rfl (asg (v := .bool _) rfl) ?_
        refine TL.nil (nt ?_)
        refine TC.ret (rt ?_)
        exact Ret.i () [_] ⟨rfl, trivial⟩ (by rw [hR]; rfl) trivial (ent_takeE 0 rfl (by rw [hR]) (ent_take 0 rfl (ent_nil _)))
      · have hs2 := of_decide_eq_false hs2
        refine qg rfl rfl rfl (mv (v := .int _ _) rfl) ?_
        refine qg rfl rfl rfl (gtr rfl rfl) ?_
        first | refine q rfl rfl (pkT rfl rfl) ?_ | refine q rfl rfl (pkF rfl rfl) ?_
        refine q rfl rfl (mv (v := .bool _) rfl) ?_
        refine TL.split 21 rfl (fun hs3 => ?_) (fun hs3 => ?_)
        · have hs3 := of_decide_eq_true hs3
          have hR : ageR l i a = (l, false) := by rw [ageR, if_neg (by omega)]
          refine qs rfl rfl ?_
          refine qs rfl rfl ?_
          refine qs rfl rfl ?_
          refine qs rfl rfl ?_
          refine qs rfl rfl ?_
          refine qs rfl rfl ?_
          refine qs rfl rfl ?_
          first | refine q rfl rfl (pkT rfl rfl) ?_ | refine q rfl rfl (pkF rfl rfl) ?_
          refine TL.nil (nt ?_)
          refine TC.condT rfl ?_
          refine TC.seq ?_
          refine TC.region ?_
          refine q rfl rfl (asg (v := .bool _) rfl) ?_
          refine TL.nil (nt ?_)
          refine TC.ret (rt ?_)
          exact Ret.i () [_] ⟨rfl, trivial⟩ (by rw [hR]; rfl) trivial (ent_takeE 0 rfl (by rw [hR]) (ent_take 0 rfl (ent_nil _)))
        · have hs3 := of_decide_eq_false hs3
          obtain ⟨n, rfl⟩ := Int.eq_ofNat_of_zero_le (show 0 ≤ i by omega)
          have hlt : n < 256 := by omega
          obtain ⟨p, hi, hpa⟩ := ho.at hlt
          have hR0 : ageR l n a = if p.st = 0 then (l.set n ⟨p.o, p.st, a⟩, true) else (l, false) := by rw [ageR, if_pos (by omega), Int.toNat_natCast, hi]
          refine qg rfl rfl rfl (mv (v := .pointer _) rfl) ?_
          refine qg rfl rfl rfl (mv (v := .int _ _) rfl) ?_
          first | refine qg rfl rfl rfl (ncP rfl) ?_ | refine qg rfl rfl rfl (ncQ rfl) ?_
          refine qg rfl rfl rfl (faQ 768 rfl rfl) ?_
          refine qg rfl rfl rfl (ixA 256 3 1 rfl rfl rfl (by omega) (by omega)) ?_
          first | refine qg rfl rfl rfl (ld rfl rfl rfl) ?_ | refine qg rfl rfl rfl (ldS rfl rfl (refC_st hln hi (by omega))) ?_ | refine qg rfl rfl rfl (ldS rfl rfl rfl) ?_
          refine qg rfl rfl rfl (neI rfl rfl) ?_
          first | refine q rfl rfl (pkT rfl rfl) ?_ | refine q rfl rfl (pkF rfl rfl) ?_
          refine TL.nil (nt ?_)
          first | refine TC.condD rfl (fun hst => ?_) (fun hst => ?_) | refine TC.cond rfl (fun hst => ?_) (fun hst => ?_)
          · have hR : ageR l n a = (l, false) := by rw [hR0, if_neg hst]
            refine TC.seq ?_
            refine TC.region ?_
            refine q rfl rfl (asg (v := .bool _) rfl) ?_
            refine TL.nil (nt ?_)
            refine TC.ret (rt ?_)
            exact Ret.i () [_] ⟨rfl, trivial⟩ (by rw [hR]; rfl) trivial (ent_takeE 0 rfl (by rw [hR]) (ent_take 0 rfl (ent_nil _)))
          · have hR : ageR l n a = (l.set n ⟨p.o, p.st, a⟩, true) := by rw [hR0, if_pos (by omega)]
            refine TC.skip (nt ?_)
            refine TC.seq ?_
            refine TC.region ?_
            refine q rfl rfl (mv (v := .pointer _) rfl) ?_
            refine q rfl rfl (mv (v := .int _ _) rfl) ?_
            refine q rfl rfl (mv (v := .int _ _) rfl) ?_
            first | refine q rfl rfl (ncP rfl) ?_ | refine q rfl rfl (ncQ rfl) ?_
            refine q rfl rfl (faQ 1024 rfl rfl) ?_
            refine q rfl rfl (ixA 256 3 1 rfl rfl rfl (by omega) (by omega)) ?_
            refine e0 ?_
            first | refine st (v := .int _ _) (vs := [_]) 1 rfl rfl rfl rfl rfl rfl (Nat.le_of_ble_eq_true rfl) rfl ?_ | refine stS (v := .int _ _) (vs := [_]) 1 rfl rfl rfl rfl rfl rfl (by decide) (by omega) (refC_setA hln hi a (by omega)) ?_
            refine TL.nil (nt ?_)
            refine TC.seq ?_
            refine TC.region ?_
            refine q rfl rfl (asg (v := .bool _) rfl) ?_
            refine TL.nil (nt ?_)
            refine TC.ret ?_
            exact Ret.i () [_] ⟨rfl, trivial⟩ (by rw [hR]; rfl) trivial (ent_takeE 0 rfl (by rw [hR]) (ent_take 0 rfl (ent_nil _)))

theorem rall_ok (b : Nat) (l : List Pl) (s : Int) (ho : OkT l) : FSpec Try.prog 18 [.pointer (some ⟨b, 0, none⟩), .int .i64 s] (fun F => ∃ E, RdS F E (some ⟨b, 0, none⟩) (refC l)) [] (fun y : Option Addr × Nat => .slice y.1 (allL l s).length y.2) (fun _ => True) (fun y => [slc 26 1 y.1 (allL l s).length y.2 (nums .u32 (allL l s))]) := by
  refine FSpec.intro (rs := [.tmp 4]) (by kernel_rfl) Try.func18 rfl Try.ntmps18 (by rfl) rfl ?_
  intro F ⟨E, hF⟩
  change TC _ _ _ _ _ _ _ (sepL [_])
  haveI : RdSI F (some ⟨b, 0, none⟩) E (refC l) := ⟨hF⟩
  have hln := ho.n
  have hrc := refC_length hln
  have hrp : 0 < (refC l).length := by omega
  refine TC.seq ?_
  refine TC.region ?_
  refine q rfl rfl (asg (v := .slice _ _ _) rfl) ?_
  refine TL.nil (nt ?_)
  refine TC.seq ?_
  refine TC.region ?_
  refine q rfl rfl (asg (v := .slice _ _ _) rfl) ?_
  refine TL.nil (nt ?_)
  refine TC.seq ?_
  refine TC.seq ?_
  refine TC.region ?_
  refine q rfl rfl (asg (v := .int _ _) rfl) ?_
  refine TL.nil (nt ?_)
  refine TC.block ?_
  refine TC.loop (ι := Nat × Option Addr × Nat) (fun i => i.1 ≤ 256) (fun i => [(0, .pointer (some ⟨b, 0, none⟩)), (1, .int .i64 s), (5, .slice i.2.1 (allT s (l.zipIdx.take i.1)).length i.2.2), (6, .int .i64 ((i.1 : Nat) : Int))]) (fun i => sepL [slc 26 1 i.2.1 (allT s (l.zipIdx.take i.1)).length i.2.2 (nums .u32 (allT s (l.zipIdx.take i.1))), F]) (fun i => 256 - i.1) ⟨0, none, 0⟩ (Nat.zero_le _) ⟨rfl, rfl, rfl, rfl, trivial⟩ ((slc_nil 26 1 _).trans (ent_takeE 0 rfl (by rfl) (ent_take 0 rfl (ent_nil _)))) ?_
  rintro ⟨k, ad, cap⟩ hinv ρ0
  dsimp only [updL] at hinv ⊢
  refine TC.seq ?_
  refine TC.seq ?_
  refine TC.region ?_
  refine q rfl rfl (mv (v := .int _ _) rfl) ?_
  refine q rfl rfl (lss rfl rfl) ?_
  refine TL.nil (nt ?_)
  first | refine TC.condD rfl (fun hlt => ?_) (fun hlt => ?_) | refine TC.cond rfl (fun hlt => ?_) (fun hlt => ?_)
  · have hlt : k < 256 := by omega
    obtain ⟨p, hi, ha⟩ := ho.at hlt
    have hzt := zip_take hi
    have hle := allT_le s (l.zipIdx.take k)
    rw [List.length_take] at hle
    refine TC.skip (nt ?_)
    refine TC.seq ?_
    refine TC.block ?_
    refine TC.seq ?_
    refine TC.region ?_
    refine q rfl rfl (mv (v := .pointer _) rfl) ?_
    refine q rfl rfl (mv (v := .int _ _) rfl) ?_
    first | refine q rfl rfl (ncP rfl) ?_ | refine q rfl rfl (ncQ rfl) ?_
    refine q rfl rfl (faQ 768 rfl rfl) ?_
    refine q rfl rfl (ixA 256 3 1 rfl rfl rfl (by omega) (by omega)) ?_
    first | refine q rfl rfl (ld rfl rfl rfl) ?_ | refine q rfl rfl (ldS rfl rfl (refC_st hln hi (by omega))) ?_ | refine q rfl rfl (ldS rfl rfl (refC_age hln hi (by omega))) ?_ | refine q rfl rfl (ldS rfl rfl rfl) ?_
    refine q rfl rfl (mv (v := .int _ _) rfl) ?_
    refine q rfl rfl (eqI rfl rfl) ?_
    refine TL.nil (nt ?_)
    first | refine TC.condD rfl (fun hst => ?_) (fun hst => ?_) | refine TC.cond rfl (fun hst => ?_) (fun hst => ?_)
    · refine TC.region ?_
      refine q rfl rfl (mv (v := .slice _ _ _) rfl) ?_
      refine q rfl rfl (mv (v := .pointer _) rfl) ?_
      refine q rfl rfl (mv (v := .int _ _) rfl) ?_
      first | refine q rfl rfl (ncP rfl) ?_ | refine q rfl rfl (ncQ rfl) ?_
      refine q rfl rfl (faQ 1024 rfl rfl) ?_
      refine q rfl rfl (ixA 256 3 1 rfl rfl rfl (by omega) (by omega)) ?_
      first | refine q rfl rfl (ld rfl rfl rfl) ?_ | refine q rfl rfl (ldS rfl rfl (refC_st hln hi (by omega))) ?_ | refine q rfl rfl (ldS rfl rfl (refC_age hln hi (by omega))) ?_ | refine q rfl rfl (ldS rfl rfl rfl) ?_
      first | refine q rfl rfl (mulI rfl rfl (by omega) (by omega)) ?_ | refine q rfl rfl (mul rfl rfl rfl) ?_
      refine q rfl rfl (mv (v := .int _ _) rfl) ?_
      first | refine q rfl rfl (addI rfl rfl (by omega) (by omega)) ?_ | refine q rfl rfl (add rfl rfl rfl) ?_
      first | refine q rfl rfl (conv .i64 .u32 rfl rfl rfl (wu32 (by omega) (by omega))) ?_ | refine q rfl rfl (conv .i64 .u32 rfl rfl rfl rfl) ?_
      refine e rfl ?_
      refine bs (cs := [.int _ _]) rfl ?_
      intro b3
      refine e rfl ?_
      refine ap 4 rfl rfl rfl rfl rfl (Nat.le_of_ble_eq_true rfl) rfl rfl (by omega) (by simp only [maxLen]; omega) ?_
      intro ad1 cap1
      refine q rfl rfl (asg (v := .slice _ _ _) rfl) ?_
      refine TL.nil (nb (nt ?_))
      refine TC.region ?_
      refine q rfl rfl (mv (v := .int _ _) rfl) ?_
      first | refine q rfl rfl (addI rfl rfl (by omega) (by omega)) ?_ | refine q rfl rfl (add rfl rfl rfl) ?_
      refine q rfl rfl (asg (v := .int _ _) rfl) ?_
      refine TL.nil (nt ?_)
      exact ⟨rfl, ⟨k + 1, ad1, cap1⟩, (by dsimp only; omega), (by dsimp only; omega), ⟨rfl, rfl, congrArg (fun n => Value.slice _ n _) (by rw [hzt, allT_snoc, if_pos hst]; simp), rfl, trivial⟩, (ent_takeE 0 rfl (by rw [hzt, allT_snoc, if_pos hst]; simp [nums, Int.mul_comm]) (ent_take 1 rfl (ent_nil _)))⟩
    · refine TC.skip (nb (nt ?_))
      refine TC.region ?_
      refine q rfl rfl (mv (v := .int _ _) rfl) ?_
      first | refine q rfl rfl (addI rfl rfl (by omega) (by omega)) ?_ | refine q rfl rfl (add rfl rfl rfl) ?_
      refine q rfl rfl (asg (v := .int _ _) rfl) ?_
      refine TL.nil (nt ?_)
      exact ⟨rfl, ⟨k + 1, ad, cap⟩, (by dsimp only; omega), (by dsimp only; omega), ⟨rfl, rfl, congrArg (fun n => Value.slice _ n _) (by rw [hzt, allT_snoc, if_neg hst]), rfl, trivial⟩, (ent_takeE 0 rfl (by rw [hzt, allT_snoc, if_neg hst]) (ent_take 0 rfl (ent_nil _)))⟩
  · obtain rfl : k = 256 := by omega
    rw [List.take_of_length_le (by rw [List.length_zipIdx]; omega)]
    refine TC.exit (et (et (eb (nt ?_))))
    refine TC.seq ?_
    refine TC.region ?_
    refine q rfl rfl (mv (v := .slice _ _ _) rfl) ?_
    refine q rfl rfl (asg (v := .slice _ _ _) rfl) ?_
    refine TL.nil (nt ?_)
    refine TC.ret ?_
    exact Ret.i ⟨ad, cap⟩ [_] ⟨rfl, trivial⟩ rfl trivial (ent_take 0 rfl (ent_take 0 rfl (ent_nil _)))

theorem rroom_ok (b : Nat) (l : List Pl) (ho : OkT l) : FSpec Try.prog 25 [.pointer (some ⟨b, 0, none⟩)] (fun F => ∃ E, RdS F E (some ⟨b, 0, none⟩) (refC l)) [] (fun _ : Unit => .int .i64 (allL l 0).length) (fun _ => True) (fun _ => []) := by
  refine FSpec.intro (rs := [.tmp 2]) (by kernel_rfl) Try.func25 rfl Try.ntmps25 (by rfl) rfl ?_
  intro F hF
  change TC _ _ _ _ _ _ _ (sepL [_])
  refine TC.seq ?_
  refine TC.region ?_
  refine q rfl rfl (asg (v := .int _ _) rfl) ?_
  refine TL.nil (nt ?_)
  refine TC.seq ?_
  refine TC.region ?_
  refine q rfl rfl (mv (v := .pointer _) rfl) ?_
  refine e rfl ?_
  refine cl (rall_ok b l 0 ho) rfl (picked_nil _) (hF.imp fun _ h => RdS_l h) ?_
  intro y _
  change TL _ _ _ _ _ _ _ _ (sepL [_, _])
  refine q rfl rfl (len 26 1 rfl rfl) ?_
  refine q rfl rfl (asg (v := .int _ _) rfl) ?_
  refine TL.nil (nt ?_)
  refine TC.ret ?_
  exact Ret.i () [_] ⟨rfl, trivial⟩ rfl trivial (ent_take 1 rfl (ent_nil _))

theorem hsame_ok (a1 : Option Addr) (c1 : Nat) (xs : List Int) (a2 : Option Addr) (c2 : Nat) (ys : List Int) (hl : xs.length ≤ 1000000000) : FSpec Try.prog 26 [.slice a1 xs.length c1, .slice a2 ys.length c2] (fun F => (∃ E, RdS F E a1 (nums .u32 xs)) ∧ ∃ E, RdS F E a2 (nums .u32 ys)) [] (fun _ : Unit => .bool (decide (xs = ys))) (fun _ => True) (fun _ => []) := by
  refine FSpec.intro (rs := [.tmp 4]) (by kernel_rfl) Try.func26 rfl Try.ntmps26 (by rfl) rfl ?_
  intro F ⟨⟨E1, hF1⟩, ⟨E2, hF2⟩⟩
  change TC _ _ _ _ _ _ _ (sepL [_])
  haveI : RdSI F a1 E1 (nums .u32 xs) := ⟨hF1⟩
  haveI : RdSI F a2 E2 (nums .u32 ys) := ⟨hF2⟩
  refine TC.seq ?_
  refine TC.region ?_
  refine q rfl rfl (asg (v := .bool _) rfl) ?_
  refine TL.nil (nt ?_)
  refine TC.seq ?_
  refine TC.seq ?_
  refine TC.region ?_
  refine q rfl rfl (mv (v := .slice _ _ _) rfl) ?_
  refine q rfl rfl (len 27 1 rfl rfl) ?_
  refine q rfl rfl (mv (v := .slice _ _ _) rfl) ?_
  refine q rfl rfl (len 26 1 rfl rfl) ?_
  refine q rfl rfl (neI rfl rfl) ?_
  refine TL.nil (nt ?_)
  first | refine TC.condD rfl (fun hne => ?_) (fun hne => ?_) | refine TC.cond rfl (fun hne => ?_) (fun hne => ?_)
  · refine TC.seq ?_
    refine TC.region ?_
    refine q rfl rfl (asg (v := .bool _) rfl) ?_
    refine TL.nil (nt ?_)
    refine TC.ret (rt ?_)
    have hd : decide (xs = ys) = false := decide_eq_false (fun e => hne (by rw [e]))
    exact Ret.i () [_] ⟨rfl, trivial⟩ (by rw [hd]; rfl) trivial (ent_take 0 rfl (ent_nil _))
  · have hle : xs.length = ys.length := by omega
    refine TC.skip (nt ?_)
    refine TC.seq ?_
    refine TC.seq ?_
    refine TC.region ?_
    refine q rfl rfl (asg (v := .int _ _) rfl) ?_
    refine TL.nil (nt ?_)
    refine TC.block ?_
    refine TC.loop (ι := Nat) (fun i => i ≤ xs.length ∧ xs.take i = ys.take i) (fun i => [(0, .slice a1 xs.length c1), (1, .slice a2 ys.length c2), (5, .int .i64 i)]) (fun i => sepL [F]) (fun i => xs.length - i) 0 ⟨Nat.zero_le _, rfl⟩ ⟨rfl, rfl, rfl, trivial⟩ (ent_take 0 rfl (ent_nil _)) ?_
    rintro k ⟨hinv, hsame⟩ ρ0
    dsimp only [updL] at hinv hsame ⊢
    refine TC.seq ?_
    refine TC.seq ?_
    refine TC.region ?_
    refine q rfl rfl (mv (v := .int _ _) rfl) ?_
    refine q rfl rfl (mv (v := .slice _ _ _) rfl) ?_
    refine q rfl rfl (len 27 1 rfl rfl) ?_
    refine q rfl rfl (lss rfl rfl) ?_
    refine TL.nil (nt ?_)
    first | refine TC.condD rfl (fun hlt => ?_) (fun hlt => ?_) | refine TC.cond rfl (fun hlt => ?_) (fun hlt => ?_)
    · have hlt : k < xs.length := by omega
      have hlt2 : k < ys.length := by omega
      obtain ⟨u, hu⟩ : ∃ u, xs[k]? = some u := ⟨xs[k], List.getElem?_eq_getElem hlt⟩
      obtain ⟨v, hv⟩ : ∃ v, ys[k]? = some v := ⟨ys[k], List.getElem?_eq_getElem hlt2⟩
      have hil : 0 < (nums .u32 xs).length := by rw [nums_length]; omega
      have hil2 : 0 < (nums .u32 ys).length := by rw [nums_length]; omega
      refine TC.skip (nt ?_)
      refine TC.seq ?_
      refine TC.block ?_
      refine TC.seq ?_
      refine TC.draw _ [] [(0, false), (1, false), (2, false), (3, false), (4, false), (5, false), (6, false), (7, false), (8, false)] (by kernel_rfl) (by kernel_rfl) (ent.refl _) ?_
      refine dq rfl rfl rfl (mv (v := .slice _ _ _) rfl) ?_
      refine dq rfl rfl rfl (mv (v := .int _ _) rfl) ?_
      first | refine dq rfl rfl rfl (ixS 27 1 rfl rfl rfl (by omega) (by first | assumption | (simp [ints_length] <;> omega))) ?_ | refine dq rfl rfl rfl (ixJ 27 1 rfl rfl rfl (by omega) (by omega) (by first | assumption | (simp [ints_length] <;> omega))) ?_ | refine dq rfl rfl rfl (ix 27 1 rfl rfl rfl (by omega) (by omega) rfl) ?_
      first | refine dq rfl rfl rfl (ld rfl rfl rfl) ?_ | refine dq rfl rfl rfl (ldS rfl rfl (nums_get hu)) ?_ | refine dq rfl rfl rfl (ldS rfl rfl (nums_get hv)) ?_ | refine dq rfl rfl rfl (ldS rfl rfl rfl) ?_
      refine dq rfl rfl rfl (mv (v := .slice _ _ _) rfl) ?_
      refine dq rfl rfl rfl (mv (v := .int _ _) rfl) ?_
      first | refine dq rfl rfl rfl (ixS 26 1 rfl rfl rfl (by omega) (by first | assumption | (simp [ints_length] <;> omega))) ?_ | refine dq rfl rfl rfl (ixJ 26 1 rfl rfl rfl (by omega) (by omega) (by first | assumption | (simp [ints_length] <;> omega))) ?_ | refine dq rfl rfl rfl (ix 26 1 rfl rfl rfl (by omega) (by omega) rfl) ?_
      first | refine dq rfl rfl rfl (ld rfl rfl rfl) ?_ | refine dq rfl rfl rfl (ldS rfl rfl (nums_get hu)) ?_ | refine dq rfl rfl rfl (ldS rfl rfl (nums_get hv)) ?_ | refine dq rfl rfl rfl (ldS rfl rfl rfl) ?_
      refine dq rfl rfl rfl (neI rfl rfl) ?_
      refine TD.nil (nt ?_)
      first | refine TC.condD rfl (fun hd => ?_) (fun hd => ?_) | refine TC.cond rfl (fun hd => ?_) (fun hd => ?_)
      · refine TC.seq ?_
        refine TC.region ?_
        refine q rfl rfl (asg (v := .bool _) rfl) ?_
        refine TL.nil (nt ?_)
        refine TC.ret (rb (rt (rt (rb (rt ?_)))))
        have hdd : decide (xs = ys) = false := decide_eq_false (fun e => by subst e; rw [hu] at hv; cases hv; exact hd rfl)
        exact Ret.i () [_] ⟨rfl, trivial⟩ (by rw [hdd]; rfl) trivial (ent_take 0 rfl (ent_nil _))
      · refine TC.skip (nb (nt ?_))
        refine TC.region ?_
        refine q rfl rfl (mv (v := .int _ _) rfl) ?_
        first | refine q rfl rfl (addI rfl rfl (by omega) (by omega)) ?_ | refine q rfl rfl (add rfl rfl rfl) ?_
        refine q rfl rfl (asg (v := .int _ _) rfl) ?_
        refine TL.nil (nt ?_)
        exact ⟨rfl, (k + 1), ⟨by omega, by rw [List.take_add_one, List.take_add_one, hsame, hu, hv, Decidable.not_not.1 hd]⟩, (by omega), ⟨rfl, rfl, rfl, trivial⟩, (ent_take 0 rfl (ent_nil _))⟩
    · obtain rfl : k = xs.length := by omega
      have hdd : decide (xs = ys) = true := decide_eq_true (by rw [List.take_length, hle, List.take_length] at hsame; exact hsame)
      refine TC.exit (et (et (eb (nt ?_))))
      refine TC.seq ?_
      refine TC.region ?_
      refine q rfl rfl (asg (v := .bool _) rfl) ?_
      refine TL.nil (nt ?_)
      refine TC.ret ?_
      exact Ret.i () [_] ⟨rfl, trivial⟩ (by rw [hdd]; rfl) trivial (ent_take 0 rfl (ent_nil _))

end Go.Proofs.Ytjnjijgplmmaiaa
