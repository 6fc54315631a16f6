/-
  Proved here: what functions of this program compute, each as a contract over symbolic states, under the premises that each theorem names (most lines printed by a program of the prover).
-/
import Derived.Test.YtffoeolgjgpmjaaFoL
import Derived.Test.YtffoeolgjgpmjaaQLibK
namespace Go.Proofs.Ytffoeolgjgpmjaa
open Go Go.QM
theorem spots_one : ∀ (S : List (Int × Int)), (spsC S).all Value.oneCell' = true
  | [] => rfl
  | t :: S => by have := spots_one S; rw [spsC] at this ⊢; rw [List.flatMap_cons, List.all_append, this]; rfl

set_option maxHeartbeats 2000000 in
theorem radd_ok (b : Nat) (L : List Fn) (last : Int) (hl : L.length ≤ 1000000) (hW : WI L last) (hla : last ≤ 1000000) (par sp sl : Int) : FSpec Try.prog 20 [.pointer (some ⟨b, 0, none⟩), .int .i64 par, .agg (ints [sp, sl]).toArray] noRd [isRf b L last] (fun _ : Unit => .tuple #[.int .i64 (addN L last par (sp, sl)).2.2.1, .int .i64 (addN L last par (sp, sl)).2.2.2]) (fun _ => True) (fun _ => [isRf b (addN L last par (sp, sl)).1 (addN L last par (sp, sl)).2.1]) := by
  refine FSpec.intro (rs := [.tmp 6, .tmp 7]) (by kernel_rfl) Try.func20 rfl Try.ntmps20 (by rfl) rfl ?_
  intro F _
  change TC _ _ _ _ _ _ _ (sepL [_, _])
  have hwl := hW.len
  refine TC.seq ?_
  refine TC.region ?_
  refine e rfl ?_
  refine bx (v := .agg (List.toArray (ints [_, _]))) (l := ints [_, _]) rfl rfl ?_
  intro b1
  refine q rfl rfl (asg (v := .int _ _) rfl) ?_
  refine q rfl rfl (asg (v := .int _ _) rfl) ?_
  refine TL.nil (nt ?_)
  refine TC.seq ?_
  refine TC.seq ?_
  refine TC.region ?_
  refine q rfl rfl (mv (v := .int _ _) rfl) ?_
  refine q rfl rfl (neI rfl rfl) ?_
  refine q rfl rfl (mv (v := .bool _) rfl) ?_
  refine TL.split 10 rfl (fun h0 => ?_) (fun h0 => ?_)
  · have h0 := of_decide_eq_true h0
    refine qg rfl rfl rfl (mv (v := .pointer _) rfl) ?_
    refine qg rfl rfl rfl (mv (v := .int _ _) rfl) ?_
    refine eg rfl rfl ?_
    refine cl (rat_ok b L last hl par) rfl (picked_nil _) (ent_one 1 rfl) ?_
    intro _ _
    change TL _ _ _ _ _ _ _ _ (sepL [_, _, _])
    by_cases hy : hasN L par
    · have hok : par = 0 ∨ hasN L par := .inr hy
      have hat : 0 ≤ atN L par := by
        obtain ⟨t, ht, rfl⟩ := hy
        obtain ⟨i, h1, _⟩ := atN_yes hW.nd ht
        omega
      refine qg rfl rfl rfl (lss rfl rfl) ?_
      first | refine q rfl rfl (pkT rfl rfl) ?_ | refine q rfl rfl (pkF rfl rfl) ?_
      refine TL.nil (nt ?_)
      refine TC.condD rfl (fun hc2 => absurd hc2 (by omega)) (fun hc2 => ?_)
      refine TC.skip (nt ?_)
      refine TC.seq ?_
      refine TC.seq ?_
      refine TC.region ?_
      refine q rfl rfl (mv (v := .pointer _) rfl) ?_
      first | refine q rfl rfl (ldN (vs := ints [_, _]) 2 rfl rfl rfl rfl) ?_ | refine q rfl rfl (ldSN (vs := ints [_, _]) 2 rfl rfl rfl rfl (by decide)) ?_
      refine e rfl ?_
      refine cl (rfind_ok b L last hl sp sl) rfl (picked_nil _) (ent_one 1 rfl) ?_
      intro _ _
      change TL _ _ _ _ _ _ _ _ (sepL [_, _, _])
      refine q rfl rfl (neI rfl rfl) ?_
      refine TL.nil (nt ?_)
      first | refine TC.condD rfl (fun hf => ?_) (fun hf => ?_) | refine TC.cond rfl (fun hf => ?_) (fun hf => ?_)
      · have hv : addN L last par (sp, sl) = (L, last, 0, 7) := by rw [addN, if_neg (fun h => hok.elim h.2 h.1), if_pos hf]
        rw [hv]
        dsimp only
        refine TC.seq ?_
        refine TC.region ?_
        refine q rfl rfl (asg (v := .int _ _) rfl) ?_
        refine q rfl rfl (asg (v := .int _ _) rfl) ?_
        refine TL.nil (nt ?_)
        refine TC.ret (rt ?_)
        exact Ret.i () [_, _] ⟨rfl, rfl, trivial⟩ rfl trivial (by repeat (first | exact ent_nil _ | refine ent_take 0 rfl ?_ | refine ent_take 1 rfl ?_ | refine ent_take 2 rfl ?_ | refine ent_take 3 rfl ?_ | refine ent_take 4 rfl ?_ | refine ent_take 5 rfl ?_ | refine ent_take 6 rfl ?_ | refine ent_take 7 rfl ?_ | refine ent_take 8 rfl ?_ | refine ent_take 9 rfl ?_ | refine ent_take 10 rfl ?_ | refine ent_take 11 rfl ?_ | refine ent_take 12 rfl ?_))
      · have hv : addN L last par (sp, sl) = (L ++ [⟨last + 1, par, sp, sl⟩], last + 1, last + 1, 0) := by rw [addN, if_neg (fun h => hok.elim h.2 h.1), if_neg hf]
        rw [hv]
        dsimp only
        refine TC.open 1 rfl (fun x0 hx0 => ?_)
        obtain ⟨a1, c1⟩ := x0
        clear hx0
        change TC _ _ _ _ _ _ _ (sepL [_, _, _, _])
        dsimp only
        have hil := ndsC_length L
        refine TC.skip (nt ?_)
        refine TC.seq ?_
        refine TC.region ?_
        refine q rfl rfl (mv (v := .pointer _) rfl) ?_
        first | refine q rfl rfl (nc rfl) ?_ | refine q rfl rfl (ncF rfl) ?_ | refine q rfl rfl (ncS rfl (by first | assumption | (simp [ints_length] <;> omega))) ?_
        first | refine q rfl rfl (fa 1 rfl rfl) ?_ | refine q rfl rfl (faS 1 rfl rfl (by first | assumption | (simp [ints_length] <;> omega))) ?_
        first | refine q rfl rfl (ld rfl rfl rfl) ?_ | refine q rfl rfl (ldS rfl rfl rfl) ?_
        first | refine q rfl rfl (addI rfl rfl (by omega) (by omega)) ?_ | refine q rfl rfl (add rfl rfl rfl) ?_
        first | refine q rfl rfl (nc rfl) ?_ | refine q rfl rfl (ncF rfl) ?_ | refine q rfl rfl (ncS rfl (by first | assumption | (simp [ints_length] <;> omega))) ?_
        first | refine q rfl rfl (fa 1 rfl rfl) ?_ | refine q rfl rfl (faS 1 rfl rfl (by first | assumption | (simp [ints_length] <;> omega))) ?_
        refine e0 ?_
        refine st (v := .int _ _) (vs := [_]) 1 rfl rfl rfl rfl rfl rfl (Nat.le_of_ble_eq_true rfl) rfl ?_
        refine TL.nil (nt ?_)
        refine TC.seq ?_
        refine TC.drawF _ [18] 19 rfl (by kernel_rfl) (by kernel_rfl) (ent_take 0 rfl (ent_take 1 rfl (ent_nil _))) ?_
        refine fq (i := 0) rfl rfl rfl (by kernel_rfl) (mv (v := .pointer _) rfl) ?_
        refine fq (i := 2) rfl rfl rfl (by kernel_rfl) (mv (v := .pointer _) rfl) ?_
        first | refine fq (i := 3) rfl rfl rfl (by kernel_rfl) (nc rfl) ?_ | refine fq (i := 3) rfl rfl rfl (by kernel_rfl) (ncF rfl) ?_ | refine fq (i := 3) rfl rfl rfl (by kernel_rfl) (ncS rfl (by first | assumption | (simp [ints_length] <;> omega))) ?_
        first | refine fq (i := 4) rfl rfl rfl (by kernel_rfl) (fa 0 rfl rfl) ?_ | refine fq (i := 4) rfl rfl rfl (by kernel_rfl) (faS 0 rfl rfl (by first | assumption | (simp [ints_length] <;> omega))) ?_
        first | refine fq (i := 5) rfl rfl rfl (by kernel_rfl) (ld rfl rfl rfl) ?_ | refine fq (i := 5) rfl rfl rfl (by kernel_rfl) (ldS rfl rfl rfl) ?_
        refine fq (i := 7) rfl rfl rfl (by kernel_rfl) (mv (v := .pointer _) rfl) ?_
        first | refine fq (i := 8) rfl rfl rfl (by kernel_rfl) (nc rfl) ?_ | refine fq (i := 8) rfl rfl rfl (by kernel_rfl) (ncF rfl) ?_ | refine fq (i := 8) rfl rfl rfl (by kernel_rfl) (ncS rfl (by first | assumption | (simp [ints_length] <;> omega))) ?_
        first | refine fq (i := 9) rfl rfl rfl (by kernel_rfl) (fa 1 rfl rfl) ?_ | refine fq (i := 9) rfl rfl rfl (by kernel_rfl) (faS 1 rfl rfl (by first | assumption | (simp [ints_length] <;> omega))) ?_
        first | refine fq (i := 10) rfl rfl rfl (by kernel_rfl) (ld rfl rfl rfl) ?_ | refine fq (i := 10) rfl rfl rfl (by kernel_rfl) (ldS rfl rfl rfl) ?_
        refine fq (i := 11) rfl rfl rfl (by kernel_rfl) (mv (v := .int _ _) rfl) ?_
        first | refine fq (i := 12) rfl rfl rfl (by kernel_rfl) (ldN (vs := ints [_, _]) 2 rfl rfl rfl rfl) ?_ | refine fq (i := 12) rfl rfl rfl (by kernel_rfl) (ldSN (vs := ints [_, _]) 2 rfl rfl rfl rfl (by decide)) ?_
        first | refine fq (i := 13) rfl rfl rfl (by kernel_rfl) (bld (cs := ints [_, _, _, _]) rfl) ?_ | refine fq (i := 13) rfl rfl rfl (by kernel_rfl) (bld (cs := [_, _, _, _]) rfl) ?_
        refine ff (i := 1) (j := 14) rfl rfl rfl rfl (by kernel_rfl) ?_ ?_
        · refine bs (cs := []) rfl ?_
          intro b2
          refine ⟨(by repeat (first | exact ent_nil _ | refine ent_take 0 rfl ?_ | refine ent_take 1 rfl ?_ | refine ent_take 2 rfl ?_ | refine ent_take 3 rfl ?_ | refine ent_take 4 rfl ?_ | refine ent_take 5 rfl ?_ | refine ent_take 6 rfl ?_ | refine ent_take 7 rfl ?_ | refine ent_take 8 rfl ?_ | refine ent_take 9 rfl ?_ | refine ent_take 10 rfl ?_ | refine ent_take 11 rfl ?_ | refine ent_take 12 rfl ?_)), ?_⟩
          refine ff (i := 6) (j := 14) rfl rfl rfl rfl (by kernel_rfl) ?_ ?_
          · refine ap 32 rfl rfl rfl rfl rfl (by omega) (nds_all L) (nds_one _) (by omega) (by simp only [maxLen]; omega) ?_
            intro ad1 cap1
            refine ⟨(by repeat (first | exact ent_nil _ | refine ent_take 0 rfl ?_ | refine ent_take 1 rfl ?_ | refine ent_take 2 rfl ?_ | refine ent_take 3 rfl ?_ | refine ent_take 4 rfl ?_ | refine ent_take 5 rfl ?_ | refine ent_take 6 rfl ?_ | refine ent_take 7 rfl ?_ | refine ent_take 8 rfl ?_ | refine ent_take 9 rfl ?_ | refine ent_take 10 rfl ?_ | refine ent_take 11 rfl ?_ | refine ent_take 12 rfl ?_)), ?_⟩
            refine TF.of [(14, true), (15, true), (16, false), (17, false), (18, true)] (by kernel_rfl) rfl ?_
            refine de rfl rfl ?_
            refine bs (cs := ints [_, _, _, _]) rfl ?_
            intro b3
            refine ⟨(by repeat (first | exact ent_nil _ | refine ent_take 0 rfl ?_ | refine ent_take 1 rfl ?_ | refine ent_take 2 rfl ?_ | refine ent_take 3 rfl ?_ | refine ent_take 4 rfl ?_ | refine ent_take 5 rfl ?_ | refine ent_take 6 rfl ?_ | refine ent_take 7 rfl ?_ | refine ent_take 8 rfl ?_ | refine ent_take 9 rfl ?_ | refine ent_take 10 rfl ?_ | refine ent_take 11 rfl ?_ | refine ent_take 12 rfl ?_)), ?_⟩
            refine de rfl rfl ?_
            refine ap 32 rfl rfl rfl rfl rfl (Nat.le_of_ble_eq_true rfl) (show _ = ndsC [⟨last + 1, par, sp, sl⟩] from rfl) rfl (by omega) (by simp only [maxLen]; omega) ?_
            intro ad2 cap2
            refine ⟨(by repeat (first | exact ent_nil _ | refine ent_take 0 rfl ?_ | refine ent_take 1 rfl ?_ | refine ent_take 2 rfl ?_ | refine ent_take 3 rfl ?_ | refine ent_take 4 rfl ?_ | refine ent_take 5 rfl ?_ | refine ent_take 6 rfl ?_ | refine ent_take 7 rfl ?_ | refine ent_take 8 rfl ?_ | refine ent_take 9 rfl ?_ | refine ent_take 10 rfl ?_ | refine ent_take 11 rfl ?_ | refine ent_take 12 rfl ?_)), ?_⟩
            first | refine dq rfl rfl rfl (nc rfl) ?_ | refine dq rfl rfl rfl (ncF rfl) ?_ | refine dq rfl rfl rfl (ncS rfl (by first | assumption | (simp [ints_length] <;> omega))) ?_
            first | refine dq rfl rfl rfl (fa 0 rfl rfl) ?_ | refine dq rfl rfl rfl (faS 0 rfl rfl (by first | assumption | (simp [ints_length] <;> omega))) ?_
            refine dl0 rfl rfl rfl ?_
            refine st (v := .slice _ _ _) (vs := [_]) 1 rfl rfl rfl rfl rfl rfl (Nat.le_of_ble_eq_true rfl) rfl ?_
            refine TD.nil (nt ?_)
            refine TC.seq ?_
            refine TC.region ?_
            refine q rfl rfl (mv (v := .pointer _) rfl) ?_
            first | refine q rfl rfl (nc rfl) ?_ | refine q rfl rfl (ncF rfl) ?_ | refine q rfl rfl (ncS rfl (by first | assumption | (simp [ints_length] <;> omega))) ?_
            first | refine q rfl rfl (fa 1 rfl rfl) ?_ | refine q rfl rfl (faS 1 rfl rfl (by first | assumption | (simp [ints_length] <;> omega))) ?_
            first | refine q rfl rfl (ld rfl rfl rfl) ?_ | refine q rfl rfl (ldS rfl rfl rfl) ?_
            refine q rfl rfl (asg (v := .int _ _) rfl) ?_
            refine q rfl rfl (asg (v := .int _ _) rfl) ?_
            refine TL.nil (nt ?_)
            refine TC.ret ?_
            exact Ret.i () [_, _] ⟨rfl, rfl, trivial⟩ rfl trivial (ent_close (⟨ad2, cap2⟩ : Option Addr × Nat) trivial (ent_takeE 0 rfl (by simp only [List.length_append, Nat.zero_add, List.length_singleton]; rfl) (ent_takeE 0 rfl (by simp only [List.length_append, Nat.zero_add, List.length_singleton, List.nil_append, nds_app]) (by repeat (first | exact ent_nil _ | refine ent_take 0 rfl ?_ | refine ent_take 1 rfl ?_ | refine ent_take 2 rfl ?_ | refine ent_take 3 rfl ?_ | refine ent_take 4 rfl ?_ | refine ent_take 5 rfl ?_ | refine ent_take 6 rfl ?_ | refine ent_take 7 rfl ?_ | refine ent_take 8 rfl ?_ | refine ent_take 9 rfl ?_ | refine ent_take 10 rfl ?_ | refine ent_take 11 rfl ?_ | refine ent_take 12 rfl ?_)))))
          · refine bs (cs := ints [_, _, _, _]) rfl ?_
            intro b4
            refine ⟨(by repeat (first | exact ent_nil _ | refine ent_take 0 rfl ?_ | refine ent_take 1 rfl ?_ | refine ent_take 2 rfl ?_ | refine ent_take 3 rfl ?_ | refine ent_take 4 rfl ?_ | refine ent_take 5 rfl ?_ | refine ent_take 6 rfl ?_ | refine ent_take 7 rfl ?_ | refine ent_take 8 rfl ?_ | refine ent_take 9 rfl ?_ | refine ent_take 10 rfl ?_ | refine ent_take 11 rfl ?_ | refine ent_take 12 rfl ?_)), ?_⟩
            refine TF.of [(6, true), (15, true), (16, false), (17, false), (18, true)] (by kernel_rfl) rfl ?_
            refine de rfl rfl ?_
            refine ap 32 rfl rfl rfl rfl rfl (by omega) (nds_all L) (nds_one _) (by omega) (by simp only [maxLen]; omega) ?_
            intro ad3 cap3
            refine ⟨(by repeat (first | exact ent_nil _ | refine ent_take 0 rfl ?_ | refine ent_take 1 rfl ?_ | refine ent_take 2 rfl ?_ | refine ent_take 3 rfl ?_ | refine ent_take 4 rfl ?_ | refine ent_take 5 rfl ?_ | refine ent_take 6 rfl ?_ | refine ent_take 7 rfl ?_ | refine ent_take 8 rfl ?_ | refine ent_take 9 rfl ?_ | refine ent_take 10 rfl ?_ | refine ent_take 11 rfl ?_ | refine ent_take 12 rfl ?_)), ?_⟩
            refine de rfl rfl ?_
            refine ap 32 rfl rfl rfl rfl rfl (Nat.le_of_ble_eq_true rfl) (show _ = ndsC [⟨last + 1, par, sp, sl⟩] from rfl) rfl (by omega) (by simp only [maxLen]; omega) ?_
            intro ad4 cap4
            refine ⟨(by repeat (first | exact ent_nil _ | refine ent_take 0 rfl ?_ | refine ent_take 1 rfl ?_ | refine ent_take 2 rfl ?_ | refine ent_take 3 rfl ?_ | refine ent_take 4 rfl ?_ | refine ent_take 5 rfl ?_ | refine ent_take 6 rfl ?_ | refine ent_take 7 rfl ?_ | refine ent_take 8 rfl ?_ | refine ent_take 9 rfl ?_ | refine ent_take 10 rfl ?_ | refine ent_take 11 rfl ?_ | refine ent_take 12 rfl ?_)), ?_⟩
            first | refine dq rfl rfl rfl (nc rfl) ?_ | refine dq rfl rfl rfl (ncF rfl) ?_ | refine dq rfl rfl rfl (ncS rfl (by first | assumption | (simp [ints_length] <;> omega))) ?_
            first | refine dq rfl rfl rfl (fa 0 rfl rfl) ?_ | refine dq rfl rfl rfl (faS 0 rfl rfl (by first | assumption | (simp [ints_length] <;> omega))) ?_
            refine dl0 rfl rfl rfl ?_
            refine st (v := .slice _ _ _) (vs := [_]) 1 rfl rfl rfl rfl rfl rfl (Nat.le_of_ble_eq_true rfl) rfl ?_
            refine TD.nil (nt ?_)
            refine TC.seq ?_
            refine TC.region ?_
            refine q rfl rfl (mv (v := .pointer _) rfl) ?_
            first | refine q rfl rfl (nc rfl) ?_ | refine q rfl rfl (ncF rfl) ?_ | refine q rfl rfl (ncS rfl (by first | assumption | (simp [ints_length] <;> omega))) ?_
            first | refine q rfl rfl (fa 1 rfl rfl) ?_ | refine q rfl rfl (faS 1 rfl rfl (by first | assumption | (simp [ints_length] <;> omega))) ?_
            first | refine q rfl rfl (ld rfl rfl rfl) ?_ | refine q rfl rfl (ldS rfl rfl rfl) ?_
            refine q rfl rfl (asg (v := .int _ _) rfl) ?_
            refine q rfl rfl (asg (v := .int _ _) rfl) ?_
            refine TL.nil (nt ?_)
            refine TC.ret ?_
            exact Ret.i () [_, _] ⟨rfl, rfl, trivial⟩ rfl trivial (ent_close (⟨ad4, cap4⟩ : Option Addr × Nat) trivial (ent_takeE 0 rfl (by simp only [List.length_append, Nat.zero_add, List.length_singleton]; rfl) (ent_takeE 0 rfl (by simp only [List.length_append, Nat.zero_add, List.length_singleton, List.nil_append, nds_app]) (by repeat (first | exact ent_nil _ | refine ent_take 0 rfl ?_ | refine ent_take 1 rfl ?_ | refine ent_take 2 rfl ?_ | refine ent_take 3 rfl ?_ | refine ent_take 4 rfl ?_ | refine ent_take 5 rfl ?_ | refine ent_take 6 rfl ?_ | refine ent_take 7 rfl ?_ | refine ent_take 8 rfl ?_ | refine ent_take 9 rfl ?_ | refine ent_take 10 rfl ?_ | refine ent_take 11 rfl ?_ | refine ent_take 12 rfl ?_)))))
        · refine bs (cs := ints [_, _, _, _]) rfl ?_
          intro b5
          refine ⟨(by repeat (first | exact ent_nil _ | refine ent_take 0 rfl ?_ | refine ent_take 1 rfl ?_ | refine ent_take 2 rfl ?_ | refine ent_take 3 rfl ?_ | refine ent_take 4 rfl ?_ | refine ent_take 5 rfl ?_ | refine ent_take 6 rfl ?_ | refine ent_take 7 rfl ?_ | refine ent_take 8 rfl ?_ | refine ent_take 9 rfl ?_ | refine ent_take 10 rfl ?_ | refine ent_take 11 rfl ?_ | refine ent_take 12 rfl ?_)), ?_⟩
          refine TF.of [(1, true), (6, true), (15, true), (16, false), (17, false), (18, true)] (by kernel_rfl) rfl ?_
          refine de rfl rfl ?_
          refine bs (cs := []) rfl ?_
          intro b6
          refine ⟨(by repeat (first | exact ent_nil _ | refine ent_take 0 rfl ?_ | refine ent_take 1 rfl ?_ | refine ent_take 2 rfl ?_ | refine ent_take 3 rfl ?_ | refine ent_take 4 rfl ?_ | refine ent_take 5 rfl ?_ | refine ent_take 6 rfl ?_ | refine ent_take 7 rfl ?_ | refine ent_take 8 rfl ?_ | refine ent_take 9 rfl ?_ | refine ent_take 10 rfl ?_ | refine ent_take 11 rfl ?_ | refine ent_take 12 rfl ?_)), ?_⟩
          refine de rfl rfl ?_
          refine ap 32 rfl rfl rfl rfl rfl (by omega) (nds_all L) (nds_one _) (by omega) (by simp only [maxLen]; omega) ?_
          intro ad5 cap5
          refine ⟨(by repeat (first | exact ent_nil _ | refine ent_take 0 rfl ?_ | refine ent_take 1 rfl ?_ | refine ent_take 2 rfl ?_ | refine ent_take 3 rfl ?_ | refine ent_take 4 rfl ?_ | refine ent_take 5 rfl ?_ | refine ent_take 6 rfl ?_ | refine ent_take 7 rfl ?_ | refine ent_take 8 rfl ?_ | refine ent_take 9 rfl ?_ | refine ent_take 10 rfl ?_ | refine ent_take 11 rfl ?_ | refine ent_take 12 rfl ?_)), ?_⟩
          refine de rfl rfl ?_
          refine ap 32 rfl rfl rfl rfl rfl (Nat.le_of_ble_eq_true rfl) (show _ = ndsC [⟨last + 1, par, sp, sl⟩] from rfl) rfl (by omega) (by simp only [maxLen]; omega) ?_
          intro ad6 cap6
          refine ⟨(by repeat (first | exact ent_nil _ | refine ent_take 0 rfl ?_ | refine ent_take 1 rfl ?_ | refine ent_take 2 rfl ?_ | refine ent_take 3 rfl ?_ | refine ent_take 4 rfl ?_ | refine ent_take 5 rfl ?_ | refine ent_take 6 rfl ?_ | refine ent_take 7 rfl ?_ | refine ent_take 8 rfl ?_ | refine ent_take 9 rfl ?_ | refine ent_take 10 rfl ?_ | refine ent_take 11 rfl ?_ | refine ent_take 12 rfl ?_)), ?_⟩
          first | refine dq rfl rfl rfl (nc rfl) ?_ | refine dq rfl rfl rfl (ncF rfl) ?_ | refine dq rfl rfl rfl (ncS rfl (by first | assumption | (simp [ints_length] <;> omega))) ?_
          first | refine dq rfl rfl rfl (fa 0 rfl rfl) ?_ | refine dq rfl rfl rfl (faS 0 rfl rfl (by first | assumption | (simp [ints_length] <;> omega))) ?_
          refine dl0 rfl rfl rfl ?_
          refine st (v := .slice _ _ _) (vs := [_]) 1 rfl rfl rfl rfl rfl rfl (Nat.le_of_ble_eq_true rfl) rfl ?_
          refine TD.nil (nt ?_)
          refine TC.seq ?_
          refine TC.region ?_
          refine q rfl rfl (mv (v := .pointer _) rfl) ?_
          first | refine q rfl rfl (nc rfl) ?_ | refine q rfl rfl (ncF rfl) ?_ | refine q rfl rfl (ncS rfl (by first | assumption | (simp [ints_length] <;> omega))) ?_
          first | refine q rfl rfl (fa 1 rfl rfl) ?_ | refine q rfl rfl (faS 1 rfl rfl (by first | assumption | (simp [ints_length] <;> omega))) ?_
          first | refine q rfl rfl (ld rfl rfl rfl) ?_ | refine q rfl rfl (ldS rfl rfl rfl) ?_
          refine q rfl rfl (asg (v := .int _ _) rfl) ?_
          refine q rfl rfl (asg (v := .int _ _) rfl) ?_
          refine TL.nil (nt ?_)
          refine TC.ret ?_
          exact Ret.i () [_, _] ⟨rfl, rfl, trivial⟩ rfl trivial (ent_close (⟨ad6, cap6⟩ : Option Addr × Nat) trivial (ent_takeE 0 rfl (by simp only [List.length_append, Nat.zero_add, List.length_singleton]; rfl) (ent_takeE 0 rfl (by simp only [List.length_append, Nat.zero_add, List.length_singleton, List.nil_append, nds_app]) (by repeat (first | exact ent_nil _ | refine ent_take 0 rfl ?_ | refine ent_take 1 rfl ?_ | refine ent_take 2 rfl ?_ | refine ent_take 3 rfl ?_ | refine ent_take 4 rfl ?_ | refine ent_take 5 rfl ?_ | refine ent_take 6 rfl ?_ | refine ent_take 7 rfl ?_ | refine ent_take 8 rfl ?_ | refine ent_take 9 rfl ?_ | refine ent_take 10 rfl ?_ | refine ent_take 11 rfl ?_ | refine ent_take 12 rfl ?_)))))
    · rw [atN_no hy]
      have hv : addN L last par (sp, sl) = (L, last, 0, 6) := if_pos ⟨hy, h0⟩
      rw [hv]
      dsimp only
      refine qg rfl rfl rfl (lss rfl rfl) ?_
      first | refine q rfl rfl (pkT rfl rfl) ?_ | refine q rfl rfl (pkF rfl rfl) ?_
      refine TL.nil (nt ?_)
      refine TC.condD rfl (fun hc1 => ?_) (fun hc1 => absurd (by decide) hc1)
      refine TC.seq ?_
      refine TC.region ?_
      refine q rfl rfl (asg (v := .int _ _) rfl) ?_
      refine q rfl rfl (asg (v := .int _ _) rfl) ?_
      refine TL.nil (nt ?_)
      refine TC.ret (rt ?_)
      exact Ret.i () [_, _] ⟨rfl, rfl, trivial⟩ rfl trivial (by repeat (first | exact ent_nil _ | refine ent_take 0 rfl ?_ | refine ent_take 1 rfl ?_ | refine ent_take 2 rfl ?_ | refine ent_take 3 rfl ?_ | refine ent_take 4 rfl ?_ | refine ent_take 5 rfl ?_ | refine ent_take 6 rfl ?_ | refine ent_take 7 rfl ?_ | refine ent_take 8 rfl ?_ | refine ent_take 9 rfl ?_ | refine ent_take 10 rfl ?_ | refine ent_take 11 rfl ?_ | refine ent_take 12 rfl ?_))
  · have h0 := of_decide_eq_false h0
    obtain rfl : par = 0 := by omega
    have hok : (0 : Int) = 0 ∨ hasN L 0 := .inl rfl
    refine qs rfl rfl ?_
    refine qs rfl rfl ?_
    refine qs rfl rfl ?_
    refine qs rfl rfl ?_
    first | refine q rfl rfl (pkT rfl rfl) ?_ | refine q rfl rfl (pkF rfl rfl) ?_
    refine TL.nil (nt ?_)
    refine TC.condF rfl ?_
    refine TC.skip (nt ?_)
    refine TC.seq ?_
    refine TC.seq ?_
    refine TC.region ?_
    refine q rfl rfl (mv (v := .pointer _) rfl) ?_
    first | refine q rfl rfl (ldN (vs := ints [_, _]) 2 rfl rfl rfl rfl) ?_ | refine q rfl rfl (ldSN (vs := ints [_, _]) 2 rfl rfl rfl rfl (by decide)) ?_
    refine e rfl ?_
    refine cl (rfind_ok b L last hl sp sl) rfl (picked_nil _) (ent_one 1 rfl) ?_
    intro _ _
    change TL _ _ _ _ _ _ _ _ (sepL [_, _, _])
    refine q rfl rfl (neI rfl rfl) ?_
    refine TL.nil (nt ?_)
    first | refine TC.condD rfl (fun hf => ?_) (fun hf => ?_) | refine TC.cond rfl (fun hf => ?_) (fun hf => ?_)
    · have hv : addN L last 0 (sp, sl) = (L, last, 0, 7) := by rw [addN, if_neg (fun h => hok.elim h.2 h.1), if_pos hf]
      rw [hv]
      dsimp only
      refine TC.seq ?_
      refine TC.region ?_
      refine q rfl rfl (asg (v := .int _ _) rfl) ?_
      refine q rfl rfl (asg (v := .int _ _) rfl) ?_
      refine TL.nil (nt ?_)
      refine TC.ret (rt ?_)
      exact Ret.i () [_, _] ⟨rfl, rfl, trivial⟩ rfl trivial (by repeat (first | exact ent_nil _ | refine ent_take 0 rfl ?_ | refine ent_take 1 rfl ?_ | refine ent_take 2 rfl ?_ | refine ent_take 3 rfl ?_ | refine ent_take 4 rfl ?_ | refine ent_take 5 rfl ?_ | refine ent_take 6 rfl ?_ | refine ent_take 7 rfl ?_ | refine ent_take 8 rfl ?_ | refine ent_take 9 rfl ?_ | refine ent_take 10 rfl ?_ | refine ent_take 11 rfl ?_ | refine ent_take 12 rfl ?_))
    · have hv : addN L last 0 (sp, sl) = (L ++ [⟨last + 1, 0, sp, sl⟩], last + 1, last + 1, 0) := by rw [addN, if_neg (fun h => hok.elim h.2 h.1), if_neg hf]
      rw [hv]
      dsimp only
      refine TC.open 1 rfl (fun x0 hx0 => ?_)
      obtain ⟨a1, c1⟩ := x0
      clear hx0
      change TC _ _ _ _ _ _ _ (sepL [_, _, _, _])
      dsimp only
      have hil := ndsC_length L
      refine TC.skip (nt ?_)
      refine TC.seq ?_
      refine TC.region ?_
      refine q rfl rfl (mv (v := .pointer _) rfl) ?_
      first | refine q rfl rfl (nc rfl) ?_ | refine q rfl rfl (ncF rfl) ?_ | refine q rfl rfl (ncS rfl (by first | assumption | (simp [ints_length] <;> omega))) ?_
      first | refine q rfl rfl (fa 1 rfl rfl) ?_ | refine q rfl rfl (faS 1 rfl rfl (by first | assumption | (simp [ints_length] <;> omega))) ?_
      first | refine q rfl rfl (ld rfl rfl rfl) ?_ | refine q rfl rfl (ldS rfl rfl rfl) ?_
      first | refine q rfl rfl (addI rfl rfl (by omega) (by omega)) ?_ | refine q rfl rfl (add rfl rfl rfl) ?_
      first | refine q rfl rfl (nc rfl) ?_ | refine q rfl rfl (ncF rfl) ?_ | refine q rfl rfl (ncS rfl (by first | assumption | (simp [ints_length] <;> omega))) ?_
      first | refine q rfl rfl (fa 1 rfl rfl) ?_ | refine q rfl rfl (faS 1 rfl rfl (by first | assumption | (simp [ints_length] <;> omega))) ?_
      refine e0 ?_
      refine st (v := .int _ _) (vs := [_]) 1 rfl rfl rfl rfl rfl rfl (Nat.le_of_ble_eq_true rfl) rfl ?_
      refine TL.nil (nt ?_)
      refine TC.seq ?_
      refine TC.drawF _ [18] 19 rfl (by kernel_rfl) (by kernel_rfl) (ent_take 0 rfl (ent_take 1 rfl (ent_nil _))) ?_
      refine fq (i := 0) rfl rfl rfl (by kernel_rfl) (mv (v := .pointer _) rfl) ?_
      refine fq (i := 2) rfl rfl rfl (by kernel_rfl) (mv (v := .pointer _) rfl) ?_
      first | refine fq (i := 3) rfl rfl rfl (by kernel_rfl) (nc rfl) ?_ | refine fq (i := 3) rfl rfl rfl (by kernel_rfl) (ncF rfl) ?_ | refine fq (i := 3) rfl rfl rfl (by kernel_rfl) (ncS rfl (by first | assumption | (simp [ints_length] <;> omega))) ?_
      first | refine fq (i := 4) rfl rfl rfl (by kernel_rfl) (fa 0 rfl rfl) ?_ | refine fq (i := 4) rfl rfl rfl (by kernel_rfl) (faS 0 rfl rfl (by first | assumption | (simp [ints_length] <;> omega))) ?_
      first | refine fq (i := 5) rfl rfl rfl (by kernel_rfl) (ld rfl rfl rfl) ?_ | refine fq (i := 5) rfl rfl rfl (by kernel_rfl) (ldS rfl rfl rfl) ?_
      refine fq (i := 7) rfl rfl rfl (by kernel_rfl) (mv (v := .pointer _) rfl) ?_
      first | refine fq (i := 8) rfl rfl rfl (by kernel_rfl) (nc rfl) ?_ | refine fq (i := 8) rfl rfl rfl (by kernel_rfl) (ncF rfl) ?_ | refine fq (i := 8) rfl rfl rfl (by kernel_rfl) (ncS rfl (by first | assumption | (simp [ints_length] <;> omega))) ?_
      first | refine fq (i := 9) rfl rfl rfl (by kernel_rfl) (fa 1 rfl rfl) ?_ | refine fq (i := 9) rfl rfl rfl (by kernel_rfl) (faS 1 rfl rfl (by first | assumption | (simp [ints_length] <;> omega))) ?_
      first | refine fq (i := 10) rfl rfl rfl (by kernel_rfl) (ld rfl rfl rfl) ?_ | refine fq (i := 10) rfl rfl rfl (by kernel_rfl) (ldS rfl rfl rfl) ?_
      refine fq (i := 11) rfl rfl rfl (by kernel_rfl) (mv (v := .int _ _) rfl) ?_
      first | refine fq (i := 12) rfl rfl rfl (by kernel_rfl) (ldN (vs := ints [_, _]) 2 rfl rfl rfl rfl) ?_ | refine fq (i := 12) rfl rfl rfl (by kernel_rfl) (ldSN (vs := ints [_, _]) 2 rfl rfl rfl rfl (by decide)) ?_
      first | refine fq (i := 13) rfl rfl rfl (by kernel_rfl) (bld (cs := ints [_, _, _, _]) rfl) ?_ | refine fq (i := 13) rfl rfl rfl (by kernel_rfl) (bld (cs := [_, _, _, _]) rfl) ?_
      refine ff (i := 1) (j := 14) rfl rfl rfl rfl (by kernel_rfl) ?_ ?_
      · refine bs (cs := []) rfl ?_
        intro b7
        refine ⟨(by repeat (first | exact ent_nil _ | refine ent_take 0 rfl ?_ | refine ent_take 1 rfl ?_ | refine ent_take 2 rfl ?_ | refine ent_take 3 rfl ?_ | refine ent_take 4 rfl ?_ | refine ent_take 5 rfl ?_ | refine ent_take 6 rfl ?_ | refine ent_take 7 rfl ?_ | refine ent_take 8 rfl ?_ | refine ent_take 9 rfl ?_ | refine ent_take 10 rfl ?_ | refine ent_take 11 rfl ?_ | refine ent_take 12 rfl ?_)), ?_⟩
        refine ff (i := 6) (j := 14) rfl rfl rfl rfl (by kernel_rfl) ?_ ?_
        · refine ap 32 rfl rfl rfl rfl rfl (by omega) (nds_all L) (nds_one _) (by omega) (by simp only [maxLen]; omega) ?_
          intro ad7 cap7
          refine ⟨(by repeat (first | exact ent_nil _ | refine ent_take 0 rfl ?_ | refine ent_take 1 rfl ?_ | refine ent_take 2 rfl ?_ | refine ent_take 3 rfl ?_ | refine ent_take 4 rfl ?_ | refine ent_take 5 rfl ?_ | refine ent_take 6 rfl ?_ | refine ent_take 7 rfl ?_ | refine ent_take 8 rfl ?_ | refine ent_take 9 rfl ?_ | refine ent_take 10 rfl ?_ | refine ent_take 11 rfl ?_ | refine ent_take 12 rfl ?_)), ?_⟩
          refine TF.of [(14, true), (15, true), (16, false), (17, false), (18, true)] (by kernel_rfl) rfl ?_
          refine de rfl rfl ?_
          refine bs (cs := ints [_, _, _, _]) rfl ?_
          intro b8
          refine ⟨(by repeat (first | exact ent_nil _ | refine ent_take 0 rfl ?_ | refine ent_take 1 rfl ?_ | refine ent_take 2 rfl ?_ | refine ent_take 3 rfl ?_ | refine ent_take 4 rfl ?_ | refine ent_take 5 rfl ?_ | refine ent_take 6 rfl ?_ | refine ent_take 7 rfl ?_ | refine ent_take 8 rfl ?_ | refine ent_take 9 rfl ?_ | refine ent_take 10 rfl ?_ | refine ent_take 11 rfl ?_ | refine ent_take 12 rfl ?_)), ?_⟩
          refine de rfl rfl ?_
          refine ap 32 rfl rfl rfl rfl rfl (Nat.le_of_ble_eq_true rfl) (show _ = ndsC [⟨last + 1, 0, sp, sl⟩] from rfl) rfl (by omega) (by simp only [maxLen]; omega) ?_
          intro ad8 cap8
          refine ⟨(by repeat (first | exact ent_nil _ | refine ent_take 0 rfl ?_ | refine ent_take 1 rfl ?_ | refine ent_take 2 rfl ?_ | refine ent_take 3 rfl ?_ | refine ent_take 4 rfl ?_ | refine ent_take 5 rfl ?_ | refine ent_take 6 rfl ?_ | refine ent_take 7 rfl ?_ | refine ent_take 8 rfl ?_ | refine ent_take 9 rfl ?_ | refine ent_take 10 rfl ?_ | refine ent_take 11 rfl ?_ | refine ent_take 12 rfl ?_)), ?_⟩
          first | refine dq rfl rfl rfl (nc rfl) ?_ | refine dq rfl rfl rfl (ncF rfl) ?_ | refine dq rfl rfl rfl (ncS rfl (by first | assumption | (simp [ints_length] <;> omega))) ?_
          first | refine dq rfl rfl rfl (fa 0 rfl rfl) ?_ | refine dq rfl rfl rfl (faS 0 rfl rfl (by first | assumption | (simp [ints_length] <;> omega))) ?_
          refine dl0 rfl rfl rfl ?_
          refine st (v := .slice _ _ _) (vs := [_]) 1 rfl rfl rfl rfl rfl rfl (Nat.le_of_ble_eq_true rfl) rfl ?_
          refine TD.nil (nt ?_)
          refine TC.seq ?_
          refine TC.region ?_
          refine q rfl rfl (mv (v := .pointer _) rfl) ?_
          first | refine q rfl rfl (nc rfl) ?_ | refine q rfl rfl (ncF rfl) ?_ | refine q rfl rfl (ncS rfl (by first | assumption | (simp [ints_length] <;> omega))) ?_
          first | refine q rfl rfl (fa 1 rfl rfl) ?_ | refine q rfl rfl (faS 1 rfl rfl (by first | assumption | (simp [ints_length] <;> omega))) ?_
          first | refine q rfl rfl (ld rfl rfl rfl) ?_ | refine q rfl rfl (ldS rfl rfl rfl) ?_
          refine q rfl rfl (asg (v := .int _ _) rfl) ?_
          refine q rfl rfl (asg (v := .int _ _) rfl) ?_
          refine TL.nil (nt ?_)
          refine TC.ret ?_
          exact Ret.i () [_, _] ⟨rfl, rfl, trivial⟩ rfl trivial (ent_close (⟨ad8, cap8⟩ : Option Addr × Nat) trivial (ent_takeE 0 rfl (by simp only [List.length_append, Nat.zero_add, List.length_singleton]; rfl) (ent_takeE 0 rfl (by simp only [List.length_append, Nat.zero_add, List.length_singleton, List.nil_append, nds_app]) (by repeat (first | exact ent_nil _ | refine ent_take 0 rfl ?_ | refine ent_take 1 rfl ?_ | refine ent_take 2 rfl ?_ | refine ent_take 3 rfl ?_ | refine ent_take 4 rfl ?_ | refine ent_take 5 rfl ?_ | refine ent_take 6 rfl ?_ | refine ent_take 7 rfl ?_ | refine ent_take 8 rfl ?_ | refine ent_take 9 rfl ?_ | refine ent_take 10 rfl ?_ | refine ent_take 11 rfl ?_ | refine ent_take 12 rfl ?_)))))
        · refine bs (cs := ints [_, _, _, _]) rfl ?_
          intro b9
          refine ⟨(by repeat (first | exact ent_nil _ | refine ent_take 0 rfl ?_ | refine ent_take 1 rfl ?_ | refine ent_take 2 rfl ?_ | refine ent_take 3 rfl ?_ | refine ent_take 4 rfl ?_ | refine ent_take 5 rfl ?_ | refine ent_take 6 rfl ?_ | refine ent_take 7 rfl ?_ | refine ent_take 8 rfl ?_ | refine ent_take 9 rfl ?_ | refine ent_take 10 rfl ?_ | refine ent_take 11 rfl ?_ | refine ent_take 12 rfl ?_)), ?_⟩
          refine TF.of [(6, true), (15, true), (16, false), (17, false), (18, true)] (by kernel_rfl) rfl ?_
          refine de rfl rfl ?_
          refine ap 32 rfl rfl rfl rfl rfl (by omega) (nds_all L) (nds_one _) (by omega) (by simp only [maxLen]; omega) ?_
          intro ad9 cap9
          refine ⟨(by repeat (first | exact ent_nil _ | refine ent_take 0 rfl ?_ | refine ent_take 1 rfl ?_ | refine ent_take 2 rfl ?_ | refine ent_take 3 rfl ?_ | refine ent_take 4 rfl ?_ | refine ent_take 5 rfl ?_ | refine ent_take 6 rfl ?_ | refine ent_take 7 rfl ?_ | refine ent_take 8 rfl ?_ | refine ent_take 9 rfl ?_ | refine ent_take 10 rfl ?_ | refine ent_take 11 rfl ?_ | refine ent_take 12 rfl ?_)), ?_⟩
          refine de rfl rfl ?_
          refine ap 32 rfl rfl rfl rfl rfl (Nat.le_of_ble_eq_true rfl) (show _ = ndsC [⟨last + 1, 0, sp, sl⟩] from rfl) rfl (by omega) (by simp only [maxLen]; omega) ?_
          intro ad10 cap10
          refine ⟨(by repeat (first | exact ent_nil _ | refine ent_take 0 rfl ?_ | refine ent_take 1 rfl ?_ | refine ent_take 2 rfl ?_ | refine ent_take 3 rfl ?_ | refine ent_take 4 rfl ?_ | refine ent_take 5 rfl ?_ | refine ent_take 6 rfl ?_ | refine ent_take 7 rfl ?_ | refine ent_take 8 rfl ?_ | refine ent_take 9 rfl ?_ | refine ent_take 10 rfl ?_ | refine ent_take 11 rfl ?_ | refine ent_take 12 rfl ?_)), ?_⟩
          first | refine dq rfl rfl rfl (nc rfl) ?_ | refine dq rfl rfl rfl (ncF rfl) ?_ | refine dq rfl rfl rfl (ncS rfl (by first | assumption | (simp [ints_length] <;> omega))) ?_
          first | refine dq rfl rfl rfl (fa 0 rfl rfl) ?_ | refine dq rfl rfl rfl (faS 0 rfl rfl (by first | assumption | (simp [ints_length] <;> omega))) ?_
          refine dl0 rfl rfl rfl ?_
          refine st (v := .slice _ _ _) (vs := [_]) 1 rfl rfl rfl rfl rfl rfl (Nat.le_of_ble_eq_true rfl) rfl ?_
          refine TD.nil (nt ?_)
          refine TC.seq ?_
          refine TC.region ?_
          refine q rfl rfl (mv (v := .pointer _) rfl) ?_
          first | refine q rfl rfl (nc rfl) ?_ | refine q rfl rfl (ncF rfl) ?_ | refine q rfl rfl (ncS rfl (by first | assumption | (simp [ints_length] <;> omega))) ?_
          first | refine q rfl rfl (fa 1 rfl rfl) ?_ | refine q rfl rfl (faS 1 rfl rfl (by first | assumption | (simp [ints_length] <;> omega))) ?_
          first | refine q rfl rfl (ld rfl rfl rfl) ?_ | refine q rfl rfl (ldS rfl rfl rfl) ?_
          refine q rfl rfl (asg (v := .int _ _) rfl) ?_
          refine q rfl rfl (asg (v := .int _ _) rfl) ?_
          refine TL.nil (nt ?_)
          refine TC.ret ?_
          exact Ret.i () [_, _] ⟨rfl, rfl, trivial⟩ rfl trivial (ent_close (⟨ad10, cap10⟩ : Option Addr × Nat) trivial (ent_takeE 0 rfl (by simp only [List.length_append, Nat.zero_add, List.length_singleton]; rfl) (ent_takeE 0 rfl (by simp only [List.length_append, Nat.zero_add, List.length_singleton, List.nil_append, nds_app]) (by repeat (first | exact ent_nil _ | refine ent_take 0 rfl ?_ | refine ent_take 1 rfl ?_ | refine ent_take 2 rfl ?_ | refine ent_take 3 rfl ?_ | refine ent_take 4 rfl ?_ | refine ent_take 5 rfl ?_ | refine ent_take 6 rfl ?_ | refine ent_take 7 rfl ?_ | refine ent_take 8 rfl ?_ | refine ent_take 9 rfl ?_ | refine ent_take 10 rfl ?_ | refine ent_take 11 rfl ?_ | refine ent_take 12 rfl ?_)))))
      · refine bs (cs := ints [_, _, _, _]) rfl ?_
        intro b10
        refine ⟨(by repeat (first | exact ent_nil _ | refine ent_take 0 rfl ?_ | refine ent_take 1 rfl ?_ | refine ent_take 2 rfl ?_ | refine ent_take 3 rfl ?_ | refine ent_take 4 rfl ?_ | refine ent_take 5 rfl ?_ | refine ent_take 6 rfl ?_ | refine ent_take 7 rfl ?_ | refine ent_take 8 rfl ?_ | refine ent_take 9 rfl ?_ | refine ent_take 10 rfl ?_ | refine ent_take 11 rfl ?_ | refine ent_take 12 rfl ?_)), ?_⟩
        refine TF.of [(1, true), (6, true), (15, true), (16, false), (17, false), (18, true)] (by kernel_rfl) rfl ?_
        refine de rfl rfl ?_
        refine bs (cs := []) rfl ?_
        intro b11
        refine ⟨(by repeat (first | exact ent_nil _ | refine ent_take 0 rfl ?_ | refine ent_take 1 rfl ?_ | refine ent_take 2 rfl ?_ | refine ent_take 3 rfl ?_ | refine ent_take 4 rfl ?_ | refine ent_take 5 rfl ?_ | refine ent_take 6 rfl ?_ | refine ent_take 7 rfl ?_ | refine ent_take 8 rfl ?_ | refine ent_take 9 rfl ?_ | refine ent_take 10 rfl ?_ | refine ent_take 11 rfl ?_ | refine ent_take 12 rfl ?_)), ?_⟩
        refine de rfl rfl ?_
        refine ap 32 rfl rfl rfl rfl rfl (by omega) (nds_all L) (nds_one _) (by omega) (by simp only [maxLen]; omega) ?_
        intro ad11 cap11
        refine ⟨(by repeat (first | exact ent_nil _ | refine ent_take 0 rfl ?_ | refine ent_take 1 rfl ?_ | refine ent_take 2 rfl ?_ | refine ent_take 3 rfl ?_ | refine ent_take 4 rfl ?_ | refine ent_take 5 rfl ?_ | refine ent_take 6 rfl ?_ | refine ent_take 7 rfl ?_ | refine ent_take 8 rfl ?_ | refine ent_take 9 rfl ?_ | refine ent_take 10 rfl ?_ | refine ent_take 11 rfl ?_ | refine ent_take 12 rfl ?_)), ?_⟩
        refine de rfl rfl ?_
        refine ap 32 rfl rfl rfl rfl rfl (Nat.le_of_ble_eq_true rfl) (show _ = ndsC [⟨last + 1, 0, sp, sl⟩] from rfl) rfl (by omega) (by simp only [maxLen]; omega) ?_
        intro ad12 cap12
        refine ⟨(by repeat (first | exact ent_nil _ | refine ent_take 0 rfl ?_ | refine ent_take 1 rfl ?_ | refine ent_take 2 rfl ?_ | refine ent_take 3 rfl ?_ | refine ent_take 4 rfl ?_ | refine ent_take 5 rfl ?_ | refine ent_take 6 rfl ?_ | refine ent_take 7 rfl ?_ | refine ent_take 8 rfl ?_ | refine ent_take 9 rfl ?_ | refine ent_take 10 rfl ?_ | refine ent_take 11 rfl ?_ | refine ent_take 12 rfl ?_)), ?_⟩
        first | refine dq rfl rfl rfl (nc rfl) ?_ | refine dq rfl rfl rfl (ncF rfl) ?_ | refine dq rfl rfl rfl (ncS rfl (by first | assumption | (simp [ints_length] <;> omega))) ?_
        first | refine dq rfl rfl rfl (fa 0 rfl rfl) ?_ | refine dq rfl rfl rfl (faS 0 rfl rfl (by first | assumption | (simp [ints_length] <;> omega))) ?_
        refine dl0 rfl rfl rfl ?_
        refine st (v := .slice _ _ _) (vs := [_]) 1 rfl rfl rfl rfl rfl rfl (Nat.le_of_ble_eq_true rfl) rfl ?_
        refine TD.nil (nt ?_)
        refine TC.seq ?_
        refine TC.region ?_
        refine q rfl rfl (mv (v := .pointer _) rfl) ?_
        first | refine q rfl rfl (nc rfl) ?_ | refine q rfl rfl (ncF rfl) ?_ | refine q rfl rfl (ncS rfl (by first | assumption | (simp [ints_length] <;> omega))) ?_
        first | refine q rfl rfl (fa 1 rfl rfl) ?_ | refine q rfl rfl (faS 1 rfl rfl (by first | assumption | (simp [ints_length] <;> omega))) ?_
        first | refine q rfl rfl (ld rfl rfl rfl) ?_ | refine q rfl rfl (ldS rfl rfl rfl) ?_
        refine q rfl rfl (asg (v := .int _ _) rfl) ?_
        refine q rfl rfl (asg (v := .int _ _) rfl) ?_
        refine TL.nil (nt ?_)
        refine TC.ret ?_
        exact Ret.i () [_, _] ⟨rfl, rfl, trivial⟩ rfl trivial (ent_close (⟨ad12, cap12⟩ : Option Addr × Nat) trivial (ent_takeE 0 rfl (by simp only [List.length_append, Nat.zero_add, List.length_singleton]; rfl) (ent_takeE 0 rfl (by simp only [List.length_append, Nat.zero_add, List.length_singleton, List.nil_append, nds_app]) (by repeat (first | exact ent_nil _ | refine ent_take 0 rfl ?_ | refine ent_take 1 rfl ?_ | refine ent_take 2 rfl ?_ | refine ent_take 3 rfl ?_ | refine ent_take 4 rfl ?_ | refine ent_take 5 rfl ?_ | refine ent_take 6 rfl ?_ | refine ent_take 7 rfl ?_ | refine ent_take 8 rfl ?_ | refine ent_take 9 rfl ?_ | refine ent_take 10 rfl ?_ | refine ent_take 11 rfl ?_ | refine ent_take 12 rfl ?_)))))

theorem rcut_ok (b : Nat) (L : List Fn) (last : Int) (hl : L.length ≤ 1000000) (hP : PF L last) (id : Int) : FSpec Try.prog 22 [.pointer (some ⟨b, 0, none⟩), .int .i64 id] noRd [isRf b L last] (fun y : Option Addr × Nat => .slice y.1 (cutS L last id).length y.2) (fun _ => True) (fun y => [slc 44 2 y.1 (cutS L last id).length y.2 (spsC (cutS L last id)), isRf b (cutN L last id) last]) := by
  refine FSpec.intro (rs := [.tmp 4]) (by kernel_rfl) Try.func22 rfl Try.ntmps22 (by rfl) rfl ?_
  intro F _
  change TC _ _ _ _ _ _ _ (sepL [_, _])
  have hW := hP.wi
  have hbe := hP.bel id
  have hbl := belR_len hW id
  refine TC.seq ?_
  refine TC.region ?_
  refine q rfl rfl (asg (v := .slice _ _ _) rfl) ?_
  refine TL.nil (nt ?_)
  refine TC.seq ?_
  refine TC.region ?_
  refine q rfl rfl (asg (v := .slice _ _ _) rfl) ?_
  refine TL.nil (nt ?_)
  refine TC.seq ?_
  refine TC.region ?_
  refine q rfl rfl (mv (v := .pointer _) rfl) ?_
  refine q rfl rfl (mv (v := .int _ _) rfl) ?_
  refine e rfl ?_
  refine cl (rbel_ok b L last hl hW (last - id).toNat id (Nat.le_refl _)) rfl (picked_nil _) (ent_one 0 rfl) ?_
  intro y _
  change TL _ _ _ _ _ _ _ _ (sepL [_, _, _])
  rw [← hbe]
  have hB : belR L last id = belR L last id := rfl
  have hcs : cutS L last id = (belR L last id).map (spotN L) := rfl
  have hcn : cutN L last id = offL L (belR L last id) := rfl
  have hnx := fun {i : Nat} {x : Int} (h : (belR L last id)[i]? = some x) => cut_next hW h
  generalize belR L last id = B at hbl hcs hcn hnx ⊢
  have hbi := ints_length B
  refine q rfl rfl (asg (v := .slice _ _ _) rfl) ?_
  refine TL.nil (nt ?_)
  refine TC.seq ?_
  refine TC.seq ?_
  refine TC.region ?_
  refine q rfl rfl (asg (v := .int _ _) rfl) ?_
  refine TL.nil (nt ?_)
  refine TC.block ?_
  refine TC.loop (ι := Nat × (Option Addr × Nat)) (fun s => s.1 ≤ B.length) (fun s => [(0, .pointer (some ⟨b, 0, none⟩)), (5, .slice s.2.1 ((B.take s.1).map (spotN L)).length s.2.2), (6, .slice y.1 B.length y.2), (7, .int .i64 ((s.1 : Nat) : Int))]) (fun s => sepL [isRf b (offL L (B.take s.1)) last, slc 44 2 s.2.1 ((B.take s.1).map (spotN L)).length s.2.2 (spsC ((B.take s.1).map (spotN L))), slc 3 1 y.1 B.length y.2 (ints B), F]) (fun s => B.length - s.1) ⟨0, (none, 0)⟩ (Nat.zero_le _) ⟨rfl, rfl, rfl, rfl, trivial⟩ ((slc_nil 44 2 _).trans (by repeat (first | exact ent_nil _ | refine ent_take 0 rfl ?_ | refine ent_take 1 rfl ?_ | refine ent_take 2 rfl ?_ | refine ent_take 3 rfl ?_ | refine ent_take 4 rfl ?_ | refine ent_take 5 rfl ?_ | refine ent_take 6 rfl ?_ | refine ent_take 7 rfl ?_ | refine ent_take 8 rfl ?_ | refine ent_take 9 rfl ?_ | refine ent_take 10 rfl ?_ | refine ent_take 11 rfl ?_ | refine ent_take 12 rfl ?_))) ?_
  rintro ⟨i, ⟨oa, oc⟩⟩ hi ρ0
  dsimp only [updL] at hi ⊢
  refine TC.seq ?_
  refine TC.seq ?_
  refine TC.region ?_
  refine q rfl rfl (mv (v := .int _ _) rfl) ?_
  refine q rfl rfl (mv (v := .slice _ _ _) rfl) ?_
  refine q rfl rfl (len 3 1 rfl rfl) ?_
  refine q rfl rfl (lss rfl rfl) ?_
  refine TL.nil (nt ?_)
  first | refine TC.condD rfl (fun hlt => ?_) (fun hlt => ?_) | refine TC.cond rfl (fun hlt => ?_) (fun hlt => ?_)
  · have hlt2 : i < B.length := by omega
    obtain ⟨x, hx⟩ : ∃ x, B[i]? = some x := ⟨B[i], List.getElem?_eq_getElem hlt2⟩
    obtain ⟨t, htL, rfl, ht⟩ := hnx hx
    obtain ⟨hs1, hs2⟩ := cut_step hW.nd htL hx
    have hol := offL_len L (B.take i)
    have hWo := hW.offL (B.take i)
    have hpos : 0 < (ints B).length := by omega
    have hml : ((B.take i).map (spotN L)).length = i := by rw [List.length_map, List.length_take]; omega
    have hsl := spsC_length ((B.take i).map (spotN L))
    have hsn : ((B.take (i + 1)).map (spotN L)).length = ((B.take i).map (spotN L)).length + 1 := by rw [List.length_map, List.length_take, List.length_map, List.length_take]; omega
    refine TC.skip (nt ?_)
    refine TC.seq ?_
    refine TC.block ?_
    refine TC.region ?_
    refine q rfl rfl (mv (v := .slice _ _ _) rfl) ?_
    refine q rfl rfl (mv (v := .pointer _) rfl) ?_
    refine q rfl rfl (mv (v := .slice _ _ _) rfl) ?_
    refine q rfl rfl (mv (v := .int _ _) rfl) ?_
    first | refine q rfl rfl (ixS 3 1 rfl rfl rfl (by omega) (by first | assumption | (simp [ints_length] <;> omega))) ?_ | refine q rfl rfl (ixJ 3 1 rfl rfl rfl (by omega) (by omega) (by first | assumption | (simp [ints_length] <;> omega))) ?_ | refine q rfl rfl (ix 3 1 rfl rfl rfl (by omega) (by omega) rfl) ?_
    first | refine q rfl rfl (ld rfl rfl rfl) ?_ | refine q rfl rfl (ldS rfl rfl (ints_get hx)) ?_ | refine q rfl rfl (ldS rfl rfl rfl) ?_
    refine e rfl ?_
    refine cl (rdrop_ok b (offL L (B.take i)) last (by omega) hWo.nd t ht) rfl (picked_cons 0 rfl (picked_nil _)) trivial ?_
    intro _ _
    change TL _ _ _ _ _ _ _ _ (sepL [_, _, _, _])
    rw [hs1]
    refine e rfl ?_
    refine bs (cs := ints [_, _]) rfl ?_
    intro b12
    refine e rfl ?_
    refine ap 16 rfl rfl rfl rfl rfl (Nat.le_of_ble_eq_true rfl) (show _ = spsC [spN t] from rfl) rfl (by omega) (by simp only [maxLen]; omega) ?_
    intro ad13 cap13
    refine q rfl rfl (asg (v := .slice _ _ _) rfl) ?_
    refine TL.nil (nb (nt ?_))
    refine TC.region ?_
    refine q rfl rfl (mv (v := .int _ _) rfl) ?_
    first | refine q rfl rfl (addI rfl rfl (by omega) (by omega)) ?_ | refine q rfl rfl (add rfl rfl rfl) ?_
    refine q rfl rfl (asg (v := .int _ _) rfl) ?_
    refine TL.nil (nt ?_)
    exact ⟨rfl, ⟨i + 1, (ad13, cap13)⟩, (by dsimp only; omega), (by dsimp only; omega), ⟨rfl, congrArg (fun n => Value.slice _ n _) (by dsimp only; rw [hsn]), rfl, rfl, trivial⟩, (ent_take 2 rfl (ent_takeE 0 rfl (by dsimp only; rw [hsn, ← hs2]) (by repeat (first | exact ent_nil _ | refine ent_take 0 rfl ?_ | refine ent_take 1 rfl ?_ | refine ent_take 2 rfl ?_ | refine ent_take 3 rfl ?_ | refine ent_take 4 rfl ?_ | refine ent_take 5 rfl ?_ | refine ent_take 6 rfl ?_ | refine ent_take 7 rfl ?_ | refine ent_take 8 rfl ?_ | refine ent_take 9 rfl ?_ | refine ent_take 10 rfl ?_ | refine ent_take 11 rfl ?_ | refine ent_take 12 rfl ?_))))⟩
  · obtain rfl : i = B.length := by omega
    have e1 : cutS L last id = (B.take B.length).map (spotN L) := by rw [List.take_length]; exact hcs
    have e2 : cutN L last id = offL L (B.take B.length) := by rw [List.take_length]; exact hcn
    rw [← e1, ← e2]
    refine TC.exit (et (et (eb (nt ?_))))
    refine TC.seq ?_
    refine TC.region ?_
    refine q rfl rfl (mv (v := .slice _ _ _) rfl) ?_
    refine q rfl rfl (asg (v := .slice _ _ _) rfl) ?_
    refine TL.nil (nt ?_)
    refine TC.ret ?_
    exact Ret.i ⟨oa, oc⟩ [_] ⟨rfl, trivial⟩ rfl trivial (ent_take 1 rfl (ent_take 0 rfl (ent_take 1 rfl (ent_nil _))))

theorem rrem_ok (b : Nat) (L : List Fn) (last : Int) (hl : L.length ≤ 1000000) (hP : PF L last) (id : Int) : FSpec Try.prog 23 [.pointer (some ⟨b, 0, none⟩), .int .i64 id] noRd [isRf b L last] (fun y : Option Addr × Nat => .slice y.1 (remS L last id).length y.2) (fun _ => True) (fun y => [slc 44 2 y.1 (remS L last id).length y.2 (spsC (remS L last id)), isRf b (remN L last id) last]) := by
  refine FSpec.intro (rs := [.tmp 4]) (by kernel_rfl) Try.func23 rfl Try.ntmps23 (by rfl) rfl ?_
  intro F _
  change TC _ _ _ _ _ _ _ (sepL [_, _])
  have hW := hP.wi
  have hbl := belR_len hW id
  have hcs : (cutS L last id).length = (belR L last id).length := by rw [cutS, List.length_map]
  have hsl := spsC_length (cutS L last id)
  have hcl : (cutN L last id).length ≤ L.length := offL_len L _
  refine TC.seq ?_
  refine TC.region ?_
  refine q rfl rfl (asg (v := .slice _ _ _) rfl) ?_
  refine TL.nil (nt ?_)
  refine TC.seq ?_
  refine TC.region ?_
  refine q rfl rfl (mv (v := .pointer _) rfl) ?_
  refine q rfl rfl (mv (v := .int _ _) rfl) ?_
  refine e rfl ?_
  refine cl (rcut_ok b L last hl hP id) rfl (picked_cons 0 rfl (picked_nil _)) trivial ?_
  intro y _
  change TL _ _ _ _ _ _ _ _ (sepL [_, _, _])
  refine q rfl rfl (asg (v := .slice _ _ _) rfl) ?_
  refine TL.nil (nt ?_)
  refine TC.seq ?_
  refine TC.seq ?_
  refine TC.region ?_
  refine q rfl rfl (mv (v := .pointer _) rfl) ?_
  refine q rfl rfl (mv (v := .int _ _) rfl) ?_
  refine e rfl ?_
  refine cl (rat_ok b (cutN L last id) last (by omega) id) rfl (picked_nil _) (ent_one 1 rfl) ?_
  intro _ _
  change TL _ _ _ _ _ _ _ _ (sepL [_, _, _])
  by_cases hy : hasN L id
  · have hv1 : remS L last id = cutS L last id ++ [spotN L id] := if_pos hy
    have hv2 : remN L last id = offN (cutN L last id) id := if_pos hy
    rw [hv1, hv2]
    have hWc := hW.cut id
    obtain ⟨t, ht, rfl⟩ := (cut_self hW id).2 hy
    obtain ⟨i, h1, _⟩ := atN_yes hWc.nd ht
    rw [h1, spotN_yes hW.nd (offL_mem.1 ht).1]
    refine q rfl rfl (geq rfl rfl) ?_
    refine TL.nil (nt ?_)
    refine TC.condD rfl (fun hc4 => ?_) (fun hc4 => absurd (by omega) hc4)
    refine TC.region ?_
    refine q rfl rfl (mv (v := .slice _ _ _) rfl) ?_
    refine q rfl rfl (mv (v := .pointer _) rfl) ?_
    refine q rfl rfl (mv (v := .int _ _) rfl) ?_
    refine e rfl ?_
    refine cl (rdrop_ok b (cutN L last t.id) last (by omega) hWc.nd t ht) rfl (picked_cons 1 rfl (picked_nil _)) trivial ?_
    intro _ _
    change TL _ _ _ _ _ _ _ _ (sepL [_, _, _])
    refine e rfl ?_
    refine bs (cs := ints [_, _]) rfl ?_
    intro b13
    refine e rfl ?_
    refine ap 16 rfl rfl rfl rfl rfl (Nat.le_of_ble_eq_true rfl) (show _ = spsC [spN t] from rfl) rfl (by omega) (by simp only [maxLen]; omega) ?_
    intro ad14 cap14
    refine q rfl rfl (asg (v := .slice _ _ _) rfl) ?_
    refine TL.nil (nt ?_)
    refine TC.seq ?_
    refine TC.region ?_
    refine q rfl rfl (mv (v := .slice _ _ _) rfl) ?_
    refine q rfl rfl (asg (v := .slice _ _ _) rfl) ?_
    refine TL.nil (nt ?_)
    refine TC.ret ?_
    exact Ret.i ⟨ad14, cap14⟩ [_] ⟨rfl, trivial⟩ (by rw [List.length_append]; rfl) trivial (ent_takeE 0 rfl (by rw [List.length_append, sps_app]; rfl) (by repeat (first | exact ent_nil _ | refine ent_take 0 rfl ?_ | refine ent_take 1 rfl ?_ | refine ent_take 2 rfl ?_ | refine ent_take 3 rfl ?_ | refine ent_take 4 rfl ?_ | refine ent_take 5 rfl ?_ | refine ent_take 6 rfl ?_ | refine ent_take 7 rfl ?_ | refine ent_take 8 rfl ?_ | refine ent_take 9 rfl ?_ | refine ent_take 10 rfl ?_ | refine ent_take 11 rfl ?_ | refine ent_take 12 rfl ?_)))
  · have hv1 : remS L last id = cutS L last id := if_neg hy
    have hv2 : remN L last id = cutN L last id := if_neg hy
    rw [hv1, hv2, atN_no (fun h => hy ((cut_self hW id).1 h))]
    refine q rfl rfl (geq rfl rfl) ?_
    refine TL.nil (nt ?_)
    refine TC.condD rfl (fun hc3 => absurd hc3 (by decide)) (fun hc3 => ?_)
    refine TC.skip (nt ?_)
    refine TC.seq ?_
    refine TC.region ?_
    refine q rfl rfl (mv (v := .slice _ _ _) rfl) ?_
    refine q rfl rfl (asg (v := .slice _ _ _) rfl) ?_
    refine TL.nil (nt ?_)
    refine TC.ret ?_
    exact Ret.i y [_] ⟨rfl, trivial⟩ rfl trivial (ent_take 0 rfl (ent_take 0 rfl (ent_take 0 rfl (ent_nil _))))

set_option maxHeartbeats 1000000 in
theorem rlift_ok (b : Nat) (L : List Fn) (last : Int) (hl : L.length ≤ 1000000) (hW : WI L last) (id : Int) : FSpec Try.prog 24 [.pointer (some ⟨b, 0, none⟩), .int .i64 id] noRd [isRf b L last] (fun _ : Unit => .int .i64 (liftE L id)) (fun _ => True) (fun _ => [isRf b (liftN L id) last]) := by
  refine FSpec.intro (rs := [.tmp 4]) (by kernel_rfl) Try.func24 rfl Try.ntmps24 (by rfl) rfl ?_
  intro F _
  change TC _ _ _ _ _ _ _ (sepL [_, _])
  refine TC.seq ?_
  refine TC.region ?_
  refine q rfl rfl (asg (v := .int _ _) rfl) ?_
  refine TL.nil (nt ?_)
  refine TC.seq ?_
  refine TC.region ?_
  refine q rfl rfl (mv (v := .pointer _) rfl) ?_
  refine q rfl rfl (mv (v := .int _ _) rfl) ?_
  refine e rfl ?_
  refine cl (rat_ok b L last hl id) rfl (picked_nil _) (ent_one 0 rfl) ?_
  intro _ _
  change TL _ _ _ _ _ _ _ _ (sepL [_, _])
  by_cases hy : hasN L id
  · have hv1 : liftE L id = 0 := if_pos hy
    rw [hv1]
    obtain ⟨t, ht, rfl⟩ := hy
    obtain ⟨j, h1, h2⟩ := atN_yes hW.nd ht
    rw [h1]
    have hj := (List.getElem?_eq_some_iff.1 h2).1
    have htr := hW.rg t ht
    have hol := offN_len hW.nd ht
    have hkl := kidsN_len L t.id
    have hki := ints_length (kidsN L t.id)
    refine q rfl rfl (asg (v := .int _ _) rfl) ?_
    refine TL.nil (nt ?_)
    refine TC.seq ?_
    refine TC.seq ?_
    refine TC.region ?_
    refine q rfl rfl (mv (v := .int _ _) rfl) ?_
    refine q rfl rfl (lss rfl rfl) ?_
    refine TL.nil (nt ?_)
    refine TC.condD rfl (fun hc6 => absurd hc6 (by omega)) (fun hc6 => ?_)
    refine TC.skip (nt ?_)
    refine TC.seq ?_
    refine TC.open 0 rfl (fun x0 hx0 => ?_)
    obtain ⟨a1, c1⟩ := x0
    clear hx0
    change TC _ _ _ _ _ _ _ (sepL [_, _, _])
    dsimp only
    have hil := ndsC_length L
    have hpos : 0 < (ndsC L).length := by omega
    refine TC.region ?_
    refine q rfl rfl (mv (v := .pointer _) rfl) ?_
    first | refine q rfl rfl (nc rfl) ?_ | refine q rfl rfl (ncF rfl) ?_ | refine q rfl rfl (ncS rfl (by first | assumption | (simp [ints_length] <;> omega))) ?_
    first | refine q rfl rfl (fa 0 rfl rfl) ?_ | refine q rfl rfl (faS 0 rfl rfl (by first | assumption | (simp [ints_length] <;> omega))) ?_
    first | refine q rfl rfl (ld rfl rfl rfl) ?_ | refine q rfl rfl (ldS rfl rfl (flat_ld ndC_sz h2 1 (by omega) rfl)) ?_ | refine q rfl rfl (ldS rfl rfl rfl) ?_
    refine q rfl rfl (mv (v := .int _ _) rfl) ?_
    first | refine q rfl rfl (ixS 53 4 rfl rfl rfl (by omega) (by first | assumption | (simp [ints_length] <;> omega))) ?_ | refine q rfl rfl (ixJ 53 4 rfl rfl rfl (by omega) (by omega) (by first | assumption | (simp [ints_length] <;> omega))) ?_ | refine q rfl rfl (ix 53 4 rfl rfl rfl (by omega) (by omega) rfl) ?_
    first | refine q rfl rfl (fa 1 rfl rfl) ?_ | refine q rfl rfl (faS 1 rfl rfl (by first | assumption | (simp [ints_length] <;> omega))) ?_
    first | refine q rfl rfl (ld rfl rfl rfl) ?_ | refine q rfl rfl (ldS rfl rfl (flat_ld ndC_sz h2 1 (by omega) rfl)) ?_ | refine q rfl rfl (ldS rfl rfl rfl) ?_
    refine q rfl rfl (asg (v := .int _ _) rfl) ?_
    refine TL.nil (nt ?_)
    refine TC.seq ?_
    refine TC.weak (B := sepL [isRf b L last, F]) (ent_close ⟨a1, c1⟩ trivial (ent_take 0 rfl (ent_take 0 rfl (ent_take 0 rfl (ent_nil _))))) ?_
    refine TC.region ?_
    refine q rfl rfl (mv (v := .pointer _) rfl) ?_
    refine q rfl rfl (mv (v := .int _ _) rfl) ?_
    refine e rfl ?_
    refine cl (rkids_ok b L last hl t.id) rfl (picked_nil _) (ent_one 0 rfl) ?_
    intro y _
    change TL _ _ _ _ _ _ _ _ (sepL [_, _, _])
    refine q rfl rfl (asg (v := .slice _ _ _) rfl) ?_
    refine TL.nil (nt ?_)
    refine TC.seq ?_
    refine TC.region ?_
    refine q rfl rfl (mv (v := .pointer _) rfl) ?_
    refine q rfl rfl (mv (v := .int _ _) rfl) ?_
    refine e rfl ?_
    refine cl (rdrop_ok b L last hl hW.nd t ht) rfl (picked_cons 1 rfl (picked_nil _)) trivial ?_
    intro _ _
    change TL _ _ _ _ _ _ _ _ (sepL [_, _, _])
    refine TL.nil (nt ?_)
    refine TC.seq ?_
    refine TC.seq ?_
    refine TC.region ?_
    refine q rfl rfl (asg (v := .int _ _) rfl) ?_
    refine TL.nil (nt ?_)
    refine TC.block ?_
    refine TC.loop (ι := Nat × List Fn) (fun s => LI L last t s.1 s.2 ∧ s.1 ≤ (kidsN L t.id).length) (fun s => [(0, .pointer (some ⟨b, 0, none⟩)), (6, .int .i64 t.par), (7, .slice y.1 (kidsN L t.id).length y.2), (8, .int .i64 ((s.1 : Nat) : Int))]) (fun s => sepL [isRf b s.2 last, slc 3 1 y.1 (kidsN L t.id).length y.2 (ints (kidsN L t.id)), F]) (fun s => (kidsN L t.id).length - s.1) ⟨0, offN L t.id⟩ ⟨LI.start hW ht, Nat.zero_le _⟩ ⟨rfl, rfl, rfl, rfl, trivial⟩ (by repeat (first | exact ent_nil _ | refine ent_take 0 rfl ?_ | refine ent_take 1 rfl ?_ | refine ent_take 2 rfl ?_ | refine ent_take 3 rfl ?_ | refine ent_take 4 rfl ?_ | refine ent_take 5 rfl ?_ | refine ent_take 6 rfl ?_ | refine ent_take 7 rfl ?_ | refine ent_take 8 rfl ?_ | refine ent_take 9 rfl ?_ | refine ent_take 10 rfl ?_ | refine ent_take 11 rfl ?_ | refine ent_take 12 rfl ?_)) ?_
    rintro ⟨i, Z⟩ ⟨hI, hi⟩ ρ0
    dsimp only [updL] at hI hi ⊢
    refine TC.seq ?_
    refine TC.seq ?_
    refine TC.region ?_
    refine q rfl rfl (mv (v := .int _ _) rfl) ?_
    refine q rfl rfl (mv (v := .slice _ _ _) rfl) ?_
    refine q rfl rfl (len 3 1 rfl rfl) ?_
    refine q rfl rfl (lss rfl rfl) ?_
    refine TL.nil (nt ?_)
    first | refine TC.condD rfl (fun hlt => ?_) (fun hlt => ?_) | refine TC.cond rfl (fun hlt => ?_) (fun hlt => ?_)
    · obtain ⟨k, hk⟩ : ∃ k, (kidsN L t.id)[i]? = some k := ⟨_, List.getElem?_eq_getElem (show i < (kidsN L t.id).length by omega)⟩
      have hpos : 0 < (ints (kidsN L t.id)).length := by omega
      obtain ⟨u, hu, huk, hup⟩ := hI.todo i k (Nat.le_refl _) hk
      subst huk
      have hur := hI.wi.rg u hu
      have hpp : 0 ≤ t.par ∧ t.par < u.id := by omega
      have hIn := hI.next hW ht hu hk hpp
      have hzl := hI.len
      obtain ⟨m, g1, g2⟩ := atN_yes hI.wi.nd hu
      have hm := (List.getElem?_eq_some_iff.1 g2).1
      have hof := offN_len hI.wi.nd hu
      refine TC.skip (nt ?_)
      refine TC.seq ?_
      refine TC.block ?_
      refine TC.seq ?_
      refine TC.open 0 rfl (fun x0 hx0 => ?_)
      obtain ⟨a1, c1⟩ := x0
      clear hx0
      change TC _ _ _ _ _ _ _ (sepL [_, _, _, _])
      dsimp only
      have hil := ndsC_length Z
      have hpz : 0 < (ndsC Z).length := by omega
      refine TC.drawF _ [13] 14 rfl (by kernel_rfl) (by kernel_rfl) (ent_take 0 rfl (ent_take 0 rfl (ent_take 0 rfl (ent_nil _)))) ?_
      refine fq (i := 0) rfl rfl rfl (by kernel_rfl) (mv (v := .pointer _) rfl) ?_
      first | refine fq (i := 1) rfl rfl rfl (by kernel_rfl) (nc rfl) ?_ | refine fq (i := 1) rfl rfl rfl (by kernel_rfl) (ncF rfl) ?_ | refine fq (i := 1) rfl rfl rfl (by kernel_rfl) (ncS rfl (by first | assumption | (simp [ints_length] <;> omega))) ?_
      first | refine fq (i := 2) rfl rfl rfl (by kernel_rfl) (fa 0 rfl rfl) ?_ | refine fq (i := 2) rfl rfl rfl (by kernel_rfl) (faS 0 rfl rfl (by first | assumption | (simp [ints_length] <;> omega))) ?_
      first | refine fq (i := 3) rfl rfl rfl (by kernel_rfl) (ld rfl rfl rfl) ?_ | refine fq (i := 3) rfl rfl rfl (by kernel_rfl) (ldS rfl rfl (ints_get hk)) ?_ | refine fq (i := 3) rfl rfl rfl (by kernel_rfl) (ldS rfl rfl (flat_get_rec ndC_sz g2)) ?_ | refine fq (i := 3) rfl rfl rfl (by kernel_rfl) (ldS rfl rfl rfl) ?_
      refine fq (i := 4) rfl rfl rfl (by kernel_rfl) (mv (v := .pointer _) rfl) ?_
      refine fq (i := 5) rfl rfl rfl (by kernel_rfl) (mv (v := .slice _ _ _) rfl) ?_
      refine fq (i := 6) rfl rfl rfl (by kernel_rfl) (mv (v := .int _ _) rfl) ?_
      first | refine fq (i := 7) rfl rfl rfl (by kernel_rfl) (ixS 3 1 rfl rfl rfl (by omega) (by first | assumption | (simp [ints_length] <;> omega))) ?_ | refine fq (i := 7) rfl rfl rfl (by kernel_rfl) (ixJ 3 1 rfl rfl rfl (by omega) (by omega) (by first | assumption | (simp [ints_length] <;> omega))) ?_ | refine fq (i := 7) rfl rfl rfl (by kernel_rfl) (ix 3 1 rfl rfl rfl (by omega) (by omega) rfl) ?_
      first | refine fq (i := 8) rfl rfl rfl (by kernel_rfl) (ld rfl rfl rfl) ?_ | refine fq (i := 8) rfl rfl rfl (by kernel_rfl) (ldS rfl rfl (ints_get hk)) ?_ | refine fq (i := 8) rfl rfl rfl (by kernel_rfl) (ldS rfl rfl (flat_get_rec ndC_sz g2)) ?_ | refine fq (i := 8) rfl rfl rfl (by kernel_rfl) (ldS rfl rfl rfl) ?_
      refine ff (i := 9) (j := 12) rfl rfl rfl rfl (by kernel_rfl) ?_ ?_
      · refine cl (rat_ok b Z last (by omega) u.id) rfl (picked_nil _) (ent_of (ent_close (⟨a1, c1⟩ : Option Addr × Nat) trivial (by repeat (first | exact ent_nil _ | refine ent_take 0 rfl ?_ | refine ent_take 1 rfl ?_ | refine ent_take 2 rfl ?_ | refine ent_take 3 rfl ?_ | refine ent_take 4 rfl ?_ | refine ent_take 5 rfl ?_ | refine ent_take 6 rfl ?_ | refine ent_take 7 rfl ?_ | refine ent_take 8 rfl ?_ | refine ent_take 9 rfl ?_ | refine ent_take 10 rfl ?_ | refine ent_take 11 rfl ?_ | refine ent_take 12 rfl ?_)))) ?_
        intro _ _
        change ent _ _ ∧ TF _ _ _ _ _ _ _ _ _ _ _ (sepL [_, _, _, _])
        refine ⟨(by repeat (first | exact ent_nil _ | refine ent_take 0 rfl ?_ | refine ent_take 1 rfl ?_ | refine ent_take 2 rfl ?_ | refine ent_take 3 rfl ?_ | refine ent_take 4 rfl ?_ | refine ent_take 5 rfl ?_ | refine ent_take 6 rfl ?_ | refine ent_take 7 rfl ?_ | refine ent_take 8 rfl ?_ | refine ent_take 9 rfl ?_ | refine ent_take 10 rfl ?_ | refine ent_take 11 rfl ?_ | refine ent_take 12 rfl ?_)), ?_⟩
        rw [g1]
        refine TF.of [(10, false), (11, false), (12, true), (13, true)] (by kernel_rfl) rfl ?_
        first | refine dq rfl rfl rfl (ixS 53 4 rfl rfl rfl (by omega) (by first | assumption | (simp [ints_length] <;> omega))) ?_ | refine dq rfl rfl rfl (ixJ 53 4 rfl rfl rfl (by omega) (by omega) (by first | assumption | (simp [ints_length] <;> omega))) ?_ | refine dq rfl rfl rfl (ix 53 4 rfl rfl rfl (by omega) (by omega) rfl) ?_
        first | refine dq rfl rfl rfl (ldN (vs := ints [_, _, _, _]) 4 rfl rfl rfl rfl) ?_ | refine dq rfl rfl rfl (ldSN (vs := ints [_, _, _, _]) 4 rfl rfl (ints_get hk) rfl (by decide)) ?_ | refine dq rfl rfl rfl (ldSN (vs := ints [_, _, _, _]) 4 rfl rfl (flat_get_rec ndC_sz g2) rfl (by decide)) ?_ | refine dq rfl rfl rfl (ldSN (vs := ints [_, _, _, _]) 4 rfl rfl rfl rfl (by decide)) ?_
        refine de rfl rfl ?_
        refine al (l := ints [_, _, _, _]) rfl rfl ?_
        intro b14
        refine ⟨(by repeat (first | exact ent_nil _ | refine ent_take 0 rfl ?_ | refine ent_take 1 rfl ?_ | refine ent_take 2 rfl ?_ | refine ent_take 3 rfl ?_ | refine ent_take 4 rfl ?_ | refine ent_take 5 rfl ?_ | refine ent_take 6 rfl ?_ | refine ent_take 7 rfl ?_ | refine ent_take 8 rfl ?_ | refine ent_take 9 rfl ?_ | refine ent_take 10 rfl ?_ | refine ent_take 11 rfl ?_ | refine ent_take 12 rfl ?_)), ?_⟩
        refine dl0 rfl rfl rfl ?_
        refine st (v := .agg (List.toArray (ints [_, _, _, _]))) (vs := ints [_, _, _, _]) 4 rfl rfl rfl rfl rfl rfl (Nat.le_of_ble_eq_true rfl) rfl ?_
        refine TD.nil (nt ?_)
        refine TC.seq ?_
        refine TC.weak (B := sepL [isRf b Z last, pts b14 53 (ndC u), slc 3 1 y.1 (kidsN L t.id).length y.2 (ints (kidsN L t.id)), F]) (ent_close (⟨a1, c1⟩ : Option Addr × Nat) trivial (by repeat (first | exact ent_nil _ | refine ent_take 0 rfl ?_ | refine ent_take 1 rfl ?_ | refine ent_take 2 rfl ?_ | refine ent_take 3 rfl ?_ | refine ent_take 4 rfl ?_ | refine ent_take 5 rfl ?_ | refine ent_take 6 rfl ?_ | refine ent_take 7 rfl ?_ | refine ent_take 8 rfl ?_ | refine ent_take 9 rfl ?_ | refine ent_take 10 rfl ?_ | refine ent_take 11 rfl ?_ | refine ent_take 12 rfl ?_))) ?_
        refine TC.region ?_
        refine q rfl rfl (mv (v := .pointer _) rfl) ?_
        refine q rfl rfl (mv (v := .slice _ _ _) rfl) ?_
        refine q rfl rfl (mv (v := .int _ _) rfl) ?_
        first | refine q rfl rfl (ixS 3 1 rfl rfl rfl (by omega) (by first | assumption | (simp [ints_length] <;> omega))) ?_ | refine q rfl rfl (ixJ 3 1 rfl rfl rfl (by omega) (by omega) (by first | assumption | (simp [ints_length] <;> omega))) ?_ | refine q rfl rfl (ix 3 1 rfl rfl rfl (by omega) (by omega) rfl) ?_
        first | refine q rfl rfl (ld rfl rfl rfl) ?_ | refine q rfl rfl (ldS rfl rfl (ints_get hk)) ?_ | refine q rfl rfl (ldS rfl rfl rfl) ?_
        refine e rfl ?_
        refine cl (rdrop_ok b Z last (by omega) hI.wi.nd u hu) rfl (picked_cons 0 rfl (picked_nil _)) trivial ?_
        intro _ _
        change TL _ _ _ _ _ _ _ _ (sepL [_, _, _, _])
        refine TL.nil (nt ?_)
        refine TC.seq ?_
        refine TC.region ?_
        refine q rfl rfl (mv (v := .int _ _) rfl) ?_
        first | refine q rfl rfl (fa 1 rfl rfl) ?_ | refine q rfl rfl (faS 1 rfl rfl (by first | assumption | (simp [ints_length] <;> omega))) ?_
        refine e0 ?_
        refine st (v := .int _ _) (vs := [_]) 1 rfl rfl rfl rfl rfl rfl (Nat.le_of_ble_eq_true rfl) rfl ?_
        refine TL.nil (nt ?_)
        refine TC.open 1 rfl (fun x0 hx0 => ?_)
        obtain ⟨a1, c1⟩ := x0
        clear hx0
        change TC _ _ _ _ _ _ _ (sepL [_, _, _, _, _])
        dsimp only
        have hil := ndsC_length (offN Z u.id)
        refine TC.draw _ [10] [(0, false), (1, false), (2, false), (3, false), (4, false), (5, false), (6, true), (7, true), (8, false), (9, false), (10, true)] (by kernel_rfl) (by kernel_rfl) (ent_take 0 rfl (ent_take 1 rfl (ent_nil _))) ?_
        refine dq rfl rfl rfl (mv (v := .pointer _) rfl) ?_
        refine dq rfl rfl rfl (mv (v := .pointer _) rfl) ?_
        first | refine dq rfl rfl rfl (nc rfl) ?_ | refine dq rfl rfl rfl (ncF rfl) ?_ | refine dq rfl rfl rfl (ncS rfl (by first | assumption | (simp [ints_length] <;> omega))) ?_
        first | refine dq rfl rfl rfl (fa 0 rfl rfl) ?_ | refine dq rfl rfl rfl (faS 0 rfl rfl (by first | assumption | (simp [ints_length] <;> omega))) ?_
        first | refine dq rfl rfl rfl (ld rfl rfl rfl) ?_ | refine dq rfl rfl rfl (ldS rfl rfl rfl) ?_
        first | refine dq rfl rfl rfl (ldN (vs := ints [_, _, _, _]) 4 rfl rfl rfl rfl) ?_ | refine dq rfl rfl rfl (ldSN (vs := ints [_, _, _, _]) 4 rfl rfl rfl rfl (by decide)) ?_
        refine de rfl rfl ?_
        refine bs (cs := ints [_, _, _, _]) rfl ?_
        intro b16
        refine ⟨(by repeat (first | exact ent_nil _ | refine ent_take 0 rfl ?_ | refine ent_take 1 rfl ?_ | refine ent_take 2 rfl ?_ | refine ent_take 3 rfl ?_ | refine ent_take 4 rfl ?_ | refine ent_take 5 rfl ?_ | refine ent_take 6 rfl ?_ | refine ent_take 7 rfl ?_ | refine ent_take 8 rfl ?_ | refine ent_take 9 rfl ?_ | refine ent_take 10 rfl ?_ | refine ent_take 11 rfl ?_ | refine ent_take 12 rfl ?_)), ?_⟩
        refine de rfl rfl ?_
        refine ap 32 rfl rfl rfl rfl rfl (Nat.le_of_ble_eq_true rfl) (show _ = ndsC [⟨u.id, t.par, u.sp, u.sl⟩] from rfl) rfl (by omega) (by simp only [maxLen]; omega) ?_
        intro ad15 cap15
        refine ⟨(by repeat (first | exact ent_nil _ | refine ent_take 0 rfl ?_ | refine ent_take 1 rfl ?_ | refine ent_take 2 rfl ?_ | refine ent_take 3 rfl ?_ | refine ent_take 4 rfl ?_ | refine ent_take 5 rfl ?_ | refine ent_take 6 rfl ?_ | refine ent_take 7 rfl ?_ | refine ent_take 8 rfl ?_ | refine ent_take 9 rfl ?_ | refine ent_take 10 rfl ?_ | refine ent_take 11 rfl ?_ | refine ent_take 12 rfl ?_)), ?_⟩
        first | refine dq rfl rfl rfl (nc rfl) ?_ | refine dq rfl rfl rfl (ncF rfl) ?_ | refine dq rfl rfl rfl (ncS rfl (by first | assumption | (simp [ints_length] <;> omega))) ?_
        first | refine dq rfl rfl rfl (fa 0 rfl rfl) ?_ | refine dq rfl rfl rfl (faS 0 rfl rfl (by first | assumption | (simp [ints_length] <;> omega))) ?_
        refine dl0 rfl rfl rfl ?_
        refine st (v := .slice _ _ _) (vs := [_]) 1 rfl rfl rfl rfl rfl rfl (Nat.le_of_ble_eq_true rfl) rfl ?_
        refine TD.nil (nb (nt ?_))
        refine TC.region ?_
        refine q rfl rfl (mv (v := .int _ _) rfl) ?_
        first | refine q rfl rfl (addI rfl rfl (by omega) (by omega)) ?_ | refine q rfl rfl (add rfl rfl rfl) ?_
        refine q rfl rfl (asg (v := .int _ _) rfl) ?_
        refine TL.nil (nt ?_)
        exact ⟨rfl, ⟨i + 1, moveN Z u t.par⟩, ⟨hIn, by dsimp only; omega⟩, (by dsimp only; omega), ⟨rfl, rfl, rfl, rfl, trivial⟩, (ent_close (⟨ad15, cap15⟩ : Option Addr × Nat) trivial (ent_takeE 0 rfl (by rw [moveN, List.length_append, List.length_singleton]; rfl) (ent_takeE 0 rfl (by rw [moveN, List.length_append, List.length_singleton, nds_app]) (by repeat (first | exact ent_nil _ | refine ent_take 0 rfl ?_ | refine ent_take 1 rfl ?_ | refine ent_take 2 rfl ?_ | refine ent_take 3 rfl ?_ | refine ent_take 4 rfl ?_ | refine ent_take 5 rfl ?_ | refine ent_take 6 rfl ?_ | refine ent_take 7 rfl ?_ | refine ent_take 8 rfl ?_ | refine ent_take 9 rfl ?_ | refine ent_take 10 rfl ?_ | refine ent_take 11 rfl ?_ | refine ent_take 12 rfl ?_)))))⟩
      · refine al (l := ints [_, _, _, _]) rfl rfl ?_
        intro b15
        refine ⟨(by repeat (first | exact ent_nil _ | refine ent_take 0 rfl ?_ | refine ent_take 1 rfl ?_ | refine ent_take 2 rfl ?_ | refine ent_take 3 rfl ?_ | refine ent_take 4 rfl ?_ | refine ent_take 5 rfl ?_ | refine ent_take 6 rfl ?_ | refine ent_take 7 rfl ?_ | refine ent_take 8 rfl ?_ | refine ent_take 9 rfl ?_ | refine ent_take 10 rfl ?_ | refine ent_take 11 rfl ?_ | refine ent_take 12 rfl ?_)), ?_⟩
        refine TF.of [(9, true), (10, false), (11, false), (13, true)] (by kernel_rfl) rfl ?_
        refine de rfl rfl ?_
        refine cl (rat_ok b Z last (by omega) u.id) rfl (picked_nil _) (ent_of (ent_close (⟨a1, c1⟩ : Option Addr × Nat) trivial (by repeat (first | exact ent_nil _ | refine ent_take 0 rfl ?_ | refine ent_take 1 rfl ?_ | refine ent_take 2 rfl ?_ | refine ent_take 3 rfl ?_ | refine ent_take 4 rfl ?_ | refine ent_take 5 rfl ?_ | refine ent_take 6 rfl ?_ | refine ent_take 7 rfl ?_ | refine ent_take 8 rfl ?_ | refine ent_take 9 rfl ?_ | refine ent_take 10 rfl ?_ | refine ent_take 11 rfl ?_ | refine ent_take 12 rfl ?_)))) ?_
        intro _ _
        change ent _ _ ∧ TD _ _ _ _ _ _ _ _ _ _ (sepL [_, _, _, _, _])
        refine ⟨(by repeat (first | exact ent_nil _ | refine ent_take 0 rfl ?_ | refine ent_take 1 rfl ?_ | refine ent_take 2 rfl ?_ | refine ent_take 3 rfl ?_ | refine ent_take 4 rfl ?_ | refine ent_take 5 rfl ?_ | refine ent_take 6 rfl ?_ | refine ent_take 7 rfl ?_ | refine ent_take 8 rfl ?_ | refine ent_take 9 rfl ?_ | refine ent_take 10 rfl ?_ | refine ent_take 11 rfl ?_ | refine ent_take 12 rfl ?_)), ?_⟩
        rw [g1]
        first | refine dq rfl rfl rfl (ixS 53 4 rfl rfl rfl (by omega) (by first | assumption | (simp [ints_length] <;> omega))) ?_ | refine dq rfl rfl rfl (ixJ 53 4 rfl rfl rfl (by omega) (by omega) (by first | assumption | (simp [ints_length] <;> omega))) ?_ | refine dq rfl rfl rfl (ix 53 4 rfl rfl rfl (by omega) (by omega) rfl) ?_
        first | refine dq rfl rfl rfl (ldN (vs := ints [_, _, _, _]) 4 rfl rfl rfl rfl) ?_ | refine dq rfl rfl rfl (ldSN (vs := ints [_, _, _, _]) 4 rfl rfl (ints_get hk) rfl (by decide)) ?_ | refine dq rfl rfl rfl (ldSN (vs := ints [_, _, _, _]) 4 rfl rfl (flat_get_rec ndC_sz g2) rfl (by decide)) ?_ | refine dq rfl rfl rfl (ldSN (vs := ints [_, _, _, _]) 4 rfl rfl rfl rfl (by decide)) ?_
        refine dl0 rfl rfl rfl ?_
        refine st (v := .agg (List.toArray (ints [_, _, _, _]))) (vs := ints [_, _, _, _]) 4 rfl rfl rfl rfl rfl rfl (Nat.le_of_ble_eq_true rfl) rfl ?_
        refine TD.nil (nt ?_)
        refine TC.seq ?_
        refine TC.weak (B := sepL [isRf b Z last, pts b15 53 (ndC u), slc 3 1 y.1 (kidsN L t.id).length y.2 (ints (kidsN L t.id)), F]) (ent_close (⟨a1, c1⟩ : Option Addr × Nat) trivial (by repeat (first | exact ent_nil _ | refine ent_take 0 rfl ?_ | refine ent_take 1 rfl ?_ | refine ent_take 2 rfl ?_ | refine ent_take 3 rfl ?_ | refine ent_take 4 rfl ?_ | refine ent_take 5 rfl ?_ | refine ent_take 6 rfl ?_ | refine ent_take 7 rfl ?_ | refine ent_take 8 rfl ?_ | refine ent_take 9 rfl ?_ | refine ent_take 10 rfl ?_ | refine ent_take 11 rfl ?_ | refine ent_take 12 rfl ?_))) ?_
        refine TC.region ?_
        refine q rfl rfl (mv (v := .pointer _) rfl) ?_
        refine q rfl rfl (mv (v := .slice _ _ _) rfl) ?_
        refine q rfl rfl (mv (v := .int _ _) rfl) ?_
        first | refine q rfl rfl (ixS 3 1 rfl rfl rfl (by omega) (by first | assumption | (simp [ints_length] <;> omega))) ?_ | refine q rfl rfl (ixJ 3 1 rfl rfl rfl (by omega) (by omega) (by first | assumption | (simp [ints_length] <;> omega))) ?_ | refine q rfl rfl (ix 3 1 rfl rfl rfl (by omega) (by omega) rfl) ?_
        first | refine q rfl rfl (ld rfl rfl rfl) ?_ | refine q rfl rfl (ldS rfl rfl (ints_get hk)) ?_ | refine q rfl rfl (ldS rfl rfl rfl) ?_
        refine e rfl ?_
        refine cl (rdrop_ok b Z last (by omega) hI.wi.nd u hu) rfl (picked_cons 0 rfl (picked_nil _)) trivial ?_
        intro _ _
        change TL _ _ _ _ _ _ _ _ (sepL [_, _, _, _])
        refine TL.nil (nt ?_)
        refine TC.seq ?_
        refine TC.region ?_
        refine q rfl rfl (mv (v := .int _ _) rfl) ?_
        first | refine q rfl rfl (fa 1 rfl rfl) ?_ | refine q rfl rfl (faS 1 rfl rfl (by first | assumption | (simp [ints_length] <;> omega))) ?_
        refine e0 ?_
        refine st (v := .int _ _) (vs := [_]) 1 rfl rfl rfl rfl rfl rfl (Nat.le_of_ble_eq_true rfl) rfl ?_
        refine TL.nil (nt ?_)
        refine TC.open 1 rfl (fun x0 hx0 => ?_)
        obtain ⟨a1, c1⟩ := x0
        clear hx0
        change TC _ _ _ _ _ _ _ (sepL [_, _, _, _, _])
        dsimp only
        have hil := ndsC_length (offN Z u.id)
        refine TC.draw _ [10] [(0, false), (1, false), (2, false), (3, false), (4, false), (5, false), (6, true), (7, true), (8, false), (9, false), (10, true)] (by kernel_rfl) (by kernel_rfl) (ent_take 0 rfl (ent_take 1 rfl (ent_nil _))) ?_
        refine dq rfl rfl rfl (mv (v := .pointer _) rfl) ?_
        refine dq rfl rfl rfl (mv (v := .pointer _) rfl) ?_
        first | refine dq rfl rfl rfl (nc rfl) ?_ | refine dq rfl rfl rfl (ncF rfl) ?_ | refine dq rfl rfl rfl (ncS rfl (by first | assumption | (simp [ints_length] <;> omega))) ?_
        first | refine dq rfl rfl rfl (fa 0 rfl rfl) ?_ | refine dq rfl rfl rfl (faS 0 rfl rfl (by first | assumption | (simp [ints_length] <;> omega))) ?_
        first | refine dq rfl rfl rfl (ld rfl rfl rfl) ?_ | refine dq rfl rfl rfl (ldS rfl rfl rfl) ?_
        first | refine dq rfl rfl rfl (ldN (vs := ints [_, _, _, _]) 4 rfl rfl rfl rfl) ?_ | refine dq rfl rfl rfl (ldSN (vs := ints [_, _, _, _]) 4 rfl rfl rfl rfl (by decide)) ?_
        refine de rfl rfl ?_
        refine bs (cs := ints [_, _, _, _]) rfl ?_
        intro b17
        refine ⟨(by repeat (first | exact ent_nil _ | refine ent_take 0 rfl ?_ | refine ent_take 1 rfl ?_ | refine ent_take 2 rfl ?_ | refine ent_take 3 rfl ?_ | refine ent_take 4 rfl ?_ | refine ent_take 5 rfl ?_ | refine ent_take 6 rfl ?_ | refine ent_take 7 rfl ?_ | refine ent_take 8 rfl ?_ | refine ent_take 9 rfl ?_ | refine ent_take 10 rfl ?_ | refine ent_take 11 rfl ?_ | refine ent_take 12 rfl ?_)), ?_⟩
        refine de rfl rfl ?_
        refine ap 32 rfl rfl rfl rfl rfl (Nat.le_of_ble_eq_true rfl) (show _ = ndsC [⟨u.id, t.par, u.sp, u.sl⟩] from rfl) rfl (by omega) (by simp only [maxLen]; omega) ?_
        intro ad16 cap16
        refine ⟨(by repeat (first | exact ent_nil _ | refine ent_take 0 rfl ?_ | refine ent_take 1 rfl ?_ | refine ent_take 2 rfl ?_ | refine ent_take 3 rfl ?_ | refine ent_take 4 rfl ?_ | refine ent_take 5 rfl ?_ | refine ent_take 6 rfl ?_ | refine ent_take 7 rfl ?_ | refine ent_take 8 rfl ?_ | refine ent_take 9 rfl ?_ | refine ent_take 10 rfl ?_ | refine ent_take 11 rfl ?_ | refine ent_take 12 rfl ?_)), ?_⟩
        first | refine dq rfl rfl rfl (nc rfl) ?_ | refine dq rfl rfl rfl (ncF rfl) ?_ | refine dq rfl rfl rfl (ncS rfl (by first | assumption | (simp [ints_length] <;> omega))) ?_
        first | refine dq rfl rfl rfl (fa 0 rfl rfl) ?_ | refine dq rfl rfl rfl (faS 0 rfl rfl (by first | assumption | (simp [ints_length] <;> omega))) ?_
        refine dl0 rfl rfl rfl ?_
        refine st (v := .slice _ _ _) (vs := [_]) 1 rfl rfl rfl rfl rfl rfl (Nat.le_of_ble_eq_true rfl) rfl ?_
        refine TD.nil (nb (nt ?_))
        refine TC.region ?_
        refine q rfl rfl (mv (v := .int _ _) rfl) ?_
        first | refine q rfl rfl (addI rfl rfl (by omega) (by omega)) ?_ | refine q rfl rfl (add rfl rfl rfl) ?_
        refine q rfl rfl (asg (v := .int _ _) rfl) ?_
        refine TL.nil (nt ?_)
        exact ⟨rfl, ⟨i + 1, moveN Z u t.par⟩, ⟨hIn, by dsimp only; omega⟩, (by dsimp only; omega), ⟨rfl, rfl, rfl, rfl, trivial⟩, (ent_close (⟨ad16, cap16⟩ : Option Addr × Nat) trivial (ent_takeE 0 rfl (by rw [moveN, List.length_append, List.length_singleton]; rfl) (ent_takeE 0 rfl (by rw [moveN, List.length_append, List.length_singleton, nds_app]) (by repeat (first | exact ent_nil _ | refine ent_take 0 rfl ?_ | refine ent_take 1 rfl ?_ | refine ent_take 2 rfl ?_ | refine ent_take 3 rfl ?_ | refine ent_take 4 rfl ?_ | refine ent_take 5 rfl ?_ | refine ent_take 6 rfl ?_ | refine ent_take 7 rfl ?_ | refine ent_take 8 rfl ?_ | refine ent_take 9 rfl ?_ | refine ent_take 10 rfl ?_ | refine ent_take 11 rfl ?_ | refine ent_take 12 rfl ?_)))))⟩
    · obtain rfl : i = (kidsN L t.id).length := by omega
      rw [hI.done hW ht]
      refine TC.exit (et (et (eb (nt ?_))))
      refine TC.seq ?_
      refine TC.region ?_
      refine q rfl rfl (asg (v := .int _ _) rfl) ?_
      refine TL.nil (nt ?_)
      refine TC.ret ?_
      exact Ret.i () [_] ⟨rfl, trivial⟩ rfl trivial (ent_take 0 rfl (ent_take 1 rfl (ent_nil _)))
  · have hv1 : liftE L id = 6 := if_neg hy
    rw [atN_no hy, hv1, lift_none hy]
    refine q rfl rfl (asg (v := .int _ _) rfl) ?_
    refine TL.nil (nt ?_)
    refine TC.seq ?_
    refine TC.seq ?_
    refine TC.region ?_
    refine q rfl rfl (mv (v := .int _ _) rfl) ?_
    refine q rfl rfl (lss rfl rfl) ?_
    refine TL.nil (nt ?_)
    refine TC.condD rfl (fun hc5 => ?_) (fun hc5 => absurd (by decide) hc5)
    refine TC.seq ?_
    refine TC.region ?_
    refine q rfl rfl (asg (v := .int _ _) rfl) ?_
    refine TL.nil (nt ?_)
    refine TC.ret (rt ?_)
    exact Ret.i () [_] ⟨rfl, trivial⟩ rfl trivial (ent_take 0 rfl (ent_take 0 rfl (ent_nil _)))

theorem spots_ok (a1 : Option Addr) (c1 : Nat) (a2 : Option Addr) (c2 : Nat) (xs : List (Int × Int)) (hl : xs.length ≤ 1000000) : FSpec Try.prog 21 [.slice a1 xs.length c1, .slice a2 xs.length c2] (fun F => (∃ E, RdS F E a1 (spsC xs)) ∧ ∃ E, RdS F E a2 (spsC xs)) [] (fun _ : Unit => .bool true) (fun _ => True) (fun _ => []) := by
  refine FSpec.intro (rs := [.tmp 4]) (by kernel_rfl) Try.func21 rfl Try.ntmps21 (by rfl) rfl ?_
  intro F ⟨⟨E1, hF1⟩, ⟨E2, hF2⟩⟩
  change TC _ _ _ _ _ _ _ (sepL [_])
  haveI : RdSI F a1 E1 (spsC xs) := ⟨hF1⟩
  haveI : RdSI F a2 E2 (spsC xs) := ⟨hF2⟩
  have hil := spsC_length xs
  refine TC.seq ?_
  refine TC.region ?_
  refine q rfl rfl (asg (v := .bool _) rfl) ?_
  refine TL.nil (nt ?_)
  refine TC.seq ?_
  refine TC.seq ?_
  refine TC.region ?_
  refine q rfl rfl (mv (v := .slice _ _ _) rfl) ?_
  refine q rfl rfl (len 44 2 rfl rfl) ?_
  refine q rfl rfl (mv (v := .slice _ _ _) rfl) ?_
  refine q rfl rfl (len 44 2 rfl rfl) ?_
  refine q rfl rfl (neI rfl rfl) ?_
  refine TL.nil (nt ?_)
  refine TC.condD rfl (fun hc7 => absurd hc7 (by simp)) (fun hc7 => ?_)
  refine TC.skip (nt ?_)
  refine TC.seq ?_
  refine TC.seq ?_
  refine TC.region ?_
  refine q rfl rfl (asg (v := .int _ _) rfl) ?_
  refine TL.nil (nt ?_)
  refine TC.block ?_
  refine TC.loop (ι := Nat) (fun i => i ≤ xs.length) (fun i => [(0, .slice a1 xs.length c1), (1, .slice a2 xs.length c2), (5, .int .i64 ((i : Nat) : Int))]) (fun i => sepL [F]) (fun i => xs.length - i) 0 (Nat.zero_le _) ⟨rfl, rfl, rfl, trivial⟩ (ent_take 0 rfl (ent_nil _)) ?_
  rintro k hk ρ0
  dsimp only [updL] at hk ⊢
  refine TC.seq ?_
  refine TC.seq ?_
  refine TC.region ?_
  refine q rfl rfl (mv (v := .int _ _) rfl) ?_
  refine q rfl rfl (mv (v := .slice _ _ _) rfl) ?_
  refine q rfl rfl (len 44 2 rfl rfl) ?_
  refine q rfl rfl (lss rfl rfl) ?_
  refine TL.nil (nt ?_)
  first | refine TC.condD rfl (fun hlt => ?_) (fun hlt => ?_) | refine TC.cond rfl (fun hlt => ?_) (fun hlt => ?_)
  · have hlt2 : k < xs.length := by omega
    obtain ⟨o, ho⟩ : ∃ o, xs[k]? = some o := ⟨xs[k], List.getElem?_eq_getElem hlt2⟩
    have hpos : 0 < (spsC xs).length := by omega
    refine TC.skip (nt ?_)
    refine TC.seq ?_
    refine TC.block ?_
    refine TC.seq ?_
    refine TC.draw _ [] [(0, false), (1, false), (2, false), (3, false), (4, false), (5, false), (6, false), (7, false), (8, false)] (by kernel_rfl) (by kernel_rfl) (ent.refl _) ?_
    refine dq rfl rfl rfl (mv (v := .slice _ _ _) rfl) ?_
    refine dq rfl rfl rfl (mv (v := .int _ _) rfl) ?_
    first | refine dq rfl rfl rfl (ixS 44 2 rfl rfl rfl (by omega) (by first | assumption | (simp [ints_length] <;> omega))) ?_ | refine dq rfl rfl rfl (ixJ 44 2 rfl rfl rfl (by omega) (by omega) (by first | assumption | (simp [ints_length] <;> omega))) ?_ | refine dq rfl rfl rfl (ix 44 2 rfl rfl rfl (by omega) (by omega) rfl) ?_
    first | refine dq rfl rfl rfl (ldN (vs := ints [_, _]) 2 rfl rfl rfl rfl) ?_ | refine dq rfl rfl rfl (ldSN (vs := ints [_, _]) 2 rfl rfl (flat_get_rec spC_sz ho) rfl (by decide)) ?_ | refine dq rfl rfl rfl (ldSN (vs := ints [_, _]) 2 rfl rfl rfl rfl (by decide)) ?_
    refine dq rfl rfl rfl (mv (v := .slice _ _ _) rfl) ?_
    refine dq rfl rfl rfl (mv (v := .int _ _) rfl) ?_
    first | refine dq rfl rfl rfl (ixS 44 2 rfl rfl rfl (by omega) (by first | assumption | (simp [ints_length] <;> omega))) ?_ | refine dq rfl rfl rfl (ixJ 44 2 rfl rfl rfl (by omega) (by omega) (by first | assumption | (simp [ints_length] <;> omega))) ?_ | refine dq rfl rfl rfl (ix 44 2 rfl rfl rfl (by omega) (by omega) rfl) ?_
    first | refine dq rfl rfl rfl (ldN (vs := ints [_, _]) 2 rfl rfl rfl rfl) ?_ | refine dq rfl rfl rfl (ldSN (vs := ints [_, _]) 2 rfl rfl (flat_get_rec spC_sz ho) rfl (by decide)) ?_ | refine dq rfl rfl rfl (ldSN (vs := ints [_, _]) 2 rfl rfl rfl rfl (by decide)) ?_
    refine dq rfl rfl rfl (neS 2 (by kernel_rfl) rfl rfl rfl rfl) ?_
    refine TD.nil (nt ?_)
    refine TC.condD rfl (fun hc8 => absurd hc8 (by simp)) (fun hc8 => ?_)
    refine TC.skip (nb (nt ?_))
    refine TC.region ?_
    refine q rfl rfl (mv (v := .int _ _) rfl) ?_
    first | refine q rfl rfl (addI rfl rfl (by omega) (by omega)) ?_ | refine q rfl rfl (add rfl rfl rfl) ?_
    refine q rfl rfl (asg (v := .int _ _) rfl) ?_
    refine TL.nil (nt ?_)
    exact ⟨rfl, (k + 1), (by omega), (by omega), ⟨rfl, rfl, rfl, trivial⟩, (ent_take 0 rfl (ent_nil _))⟩
  · refine TC.exit (et (et (eb (nt ?_))))
    refine TC.seq ?_
    refine TC.region ?_
    refine q rfl rfl (asg (v := .bool _) rfl) ?_
    refine TL.nil (nt ?_)
    refine TC.ret ?_
    exact Ret.i () [_] ⟨rfl, trivial⟩ rfl trivial (ent_take 0 rfl (ent_nil _))

end Go.Proofs.Ytffoeolgjgpmjaa
