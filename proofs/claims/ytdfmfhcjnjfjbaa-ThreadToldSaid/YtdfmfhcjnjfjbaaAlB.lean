/-
  Proved here: what functions of this program compute, each as a contract over symbolic states, under the premises that each theorem names (most lines printed by a program of the prover).
-/
import Derived.Test.YtdfmfhcjnjfjbaaAlA
namespace Go.Proofs.Ytdfmfhcjnjfjbaa.Al
open Go Go.QM
theorem ents_take (H : List En) (k : Nat) : (ents H).take (k * 3) = ents (H.take k) := flat_take enC_sz H k
theorem gE_take {H : List En} {n j : Nat} (h : j < n) : gE (H.take n) j = gE H j := by simp [gE, List.getD_eq_getElem?_getD, List.getElem?_take, h]
theorem split_last {H : List En} {n : Nat} (hn : H.length = n + 1) : H.take n ++ [gE H n] = H := by
  have h1 : gE H n = H[n] := by simp [gE, hn]
  rw [h1, List.take_append_getElem, List.take_of_length_le (by omega)]
/-- The last one goes to place i. -/
def cutL (H : List En) (n i : Nat) : List En := if i < n then (H.take n).set i (gE H n) else H.take n
theorem cutL_length {H : List En} {n : Nat} (hn : H.length = n + 1) (i : Nat) : (cutL H n i).length = n := by
  unfold cutL; split <;> simp <;> omega
theorem cutL_gE {H : List En} {n i : Nat} (hn : H.length = n + 1) {j : Nat} (hj : j < n) : gE (cutL H n i) j = if j = i then gE H n else gE H j := by
  unfold cutL
  split
  · rename_i h
    rw [gE_set (by rw [List.length_take]; omega)]
    split
    · rfl
    · exact gE_take hj
  · rename_i h; rw [if_neg (by omega)]; exact gE_take hj
theorem cutL_perm {H : List En} {n i : Nat} (hn : H.length = n + 1) (hi : i ≤ n) : (gE H i :: cutL H n i).Perm H := by
  by_cases h : i < n
  · have h1 : swp H i n = cutL H n i ++ [gE H i] := by
      rw [cutL, if_pos h, swp]
      conv => lhs; rw [← split_last hn]
      have hg : gE (H.take n ++ [gE H n]) n = gE H n := by rw [split_last hn]
      have hgi : gE (H.take n ++ [gE H n]) i = gE H i := by rw [split_last hn]
      rw [hg, hgi, List.set_append_left _ _ (by rw [List.length_take]; omega), List.set_append_right _ _ (by rw [List.length_set, List.length_take]; omega)]
      simp [List.length_take, hn]
    refine List.Perm.trans ?_ (h1 ▸ swp_perm (by omega) (by omega))
    exact (List.perm_append_singleton _ _).symm
  · obtain rfl : i = n := by omega
    rw [cutL, if_neg h]
    have := split_last hn
    refine List.Perm.trans ?_ (List.Perm.of_eq this)
    exact (List.perm_append_singleton _ _).symm
theorem cut_hole {H : List En} {n i : Nat} (hn : H.length = n + 1) (h : Heap H) : HoleD (cutL H n i) i where
  a := fun k h0 hk hne hp => by
    rw [cutL_length hn] at hk
    rw [OkAt, cutL_gE hn hk, cutL_gE hn (by omega), if_neg hne, if_neg hp]
    exact h k h0 (by omega)
  b := fun k h0 hk hp hi => by
    rw [cutL_length hn] at hk
    rw [cutL_gE hn hk, cutL_gE hn (by omega), if_neg (by omega), if_neg (by omega)]
    exact (h.hole i).b k h0 (by omega) hp hi
theorem cut_heap {H : List En} {n : Nat} (hn : H.length = n + 1) (h : Heap H) : Heap (cutL H n n) := fun k h0 hk => by
  rw [cutL_length hn] at hk
  rw [OkAt, cutL_gE hn hk, cutL_gE hn (by omega), if_neg (by omega), if_neg (by omega)]
  exact h k h0 (by omega)
theorem cut_wh {f : Int → Option Value} {H : List En} {n i : Nat} (hn : H.length = n + 1) (hW : WhA f H) (hN : Nd H) (hi : i < n) : WhA (updF (delF f (gE H i).id) (gE H n).id (.int .i64 (i : Int))) (cutL H n i) where
  a := fun j hj => by
    rw [cutL_length hn] at hj
    rw [cutL_gE hn hj]
    by_cases e : j = i
    · subst e; rw [if_pos rfl, updF, if_pos rfl]
    · rw [if_neg e, updF, if_neg (fun e2 => by have := hN.inj (by omega) (by omega) e2; omega), delF, if_neg (fun e2 => e (hN.inj (by omega) (by omega) e2))]
      exact hW.a j (by omega)
  b := fun x hx => by
    have h1 : (gE H n).id ≠ x := by
      have := hx i (by rw [cutL_length hn]; exact hi)
      rwa [cutL_gE hn hi, if_pos rfl] at this
    rw [updF, if_neg (Ne.symm h1), delF]
    split
    · rfl
    · rename_i h2
      refine hW.b x fun j hj => ?_
      by_cases e : j = i
      · subst e; exact fun e => h2 e.symm
      · by_cases e2 : j = n
        · rw [e2]; exact h1
        · have := hx j (by rw [cutL_length hn]; omega)
          rwa [cutL_gE hn (by omega), if_neg e] at this
theorem cut_wh_last {f : Int → Option Value} {H : List En} {n : Nat} (hn : H.length = n + 1) (hW : WhA f H) (hN : Nd H) : WhA (delF f (gE H n).id) (cutL H n n) where
  a := fun j hj => by
    rw [cutL_length hn] at hj
    rw [cutL_gE hn hj, if_neg (by omega), delF, if_neg (fun e2 => by have := hN.inj (by omega) (by omega) e2; omega)]
    exact hW.a j (by omega)
  b := fun x hx => by
    rw [delF]
    split
    · rfl
    · rename_i h2
      refine hW.b x fun j hj => ?_
      by_cases e2 : j = n
      · rw [e2]; exact fun e => h2 e.symm
      · have := hx j (by rw [cutL_length hn]; omega)
        rwa [cutL_gE hn (by omega), if_neg e2] at this

set_option maxRecDepth 4000 in
theorem cut_ok (b : Nat) (now tn : Int) (H : List En) (ad : Option Addr) (n cap wb m : Nat) (f : Int → Option Value) (i : Nat) (hn : H.length = n + 1) (hi : i ≤ n) (hc : n ≤ 900000) (hH : Heap H) (hW : WhA f H) (hN : Nd H) : FSpec Try.prog 75 [.pointer (some ⟨b, 0, none⟩), .int .i64 (i : Int)] noRd [pts b 93 [.int .i64 now, .int .i64 tn, .slice ad (n + 1) cap, .map (some wb)], slc 117 3 ad (n + 1) cap (ents H), mapF encI wb f m] (fun _ : List En × (Int → Option Value) × Nat => .agg (enC (gE H i)).toArray) (fun y => y.1.length = n ∧ Heap y.1 ∧ WhA y.2.1 y.1 ∧ (gE H i :: y.1).Perm H) (fun y => [pts b 93 [.int .i64 now, .int .i64 tn, .slice ad n cap, .map (some wb)], slc 117 3 ad n cap (ents y.1), mapF encI wb y.2.1 y.2.2]) := by
  refine FSpec.intro (rs := [.cell 4 117]) (by kernel_rfl) Try.func75 rfl Try.ntmps75 (by rfl) rfl ?_
  intro F _
  change TC _ _ _ _ _ _ _ (sepL [_, _, _, _])
  refine TC.factSlc 1 rfl (fun _ hcap _ => ?_)
  have hg := gE_get (show i < H.length by omega)
  have hgn := gE_get (show n < H.length by omega)
  have hpl : 0 < (ents H).length := by rw [ents_length]; omega
  have hcl := cutL_length hn i
  have hcp := cutL_perm hn hi
  have hcN : Nd (gE H i :: cutL H n i) := hN.perm hcp
  have hcN1 : Nd (cutL H n i) := (List.nodup_cons.1 hcN).2
  refine TC.seq ?_
  refine TC.region ?_
  refine e rfl ?_
  refine al (l := ints [_, _, _]) rfl rfl ?_
  intro b1
  refine TL.nil (nt ?_)
  refine TC.seq ?_
  refine TC.draw _ [] [(0, false), (1, false), (2, false), (3, false), (4, false), (5, false), (6, false), (7, false), (8, false), (9, false), (10, false), (11, false), (12, false), (13, true), (14, true), (15, false)] (by kernel_rfl) (by kernel_rfl) (ent_take 0 rfl (ent_take 0 rfl (ent_take 0 rfl (ent_take 0 rfl (ent_nil _))))) ?_
  refine dq rfl rfl rfl (mv (v := .pointer _) rfl) ?_
  first | refine dq rfl rfl rfl (nc rfl) ?_ | refine dq rfl rfl rfl (ncF rfl) ?_ | refine dq rfl rfl rfl (ncS rfl (by first | assumption | (simp [ints_length] <;> omega))) ?_
  first | refine dq rfl rfl rfl (fa 2 rfl rfl) ?_ | refine dq rfl rfl rfl (faS 2 rfl rfl (by first | assumption | (simp [ints_length] <;> omega))) ?_
  first | refine dq rfl rfl rfl (ld rfl rfl rfl) ?_ | refine dq rfl rfl rfl (ldS rfl rfl (flat_get_rec enC_sz hg)) ?_ | refine dq rfl rfl rfl (ldS rfl rfl (flat_get_rec enC_sz hgn)) ?_ | refine dq rfl rfl rfl (ldS rfl rfl rfl) ?_
  refine dq rfl rfl rfl (mv (v := .int _ _) rfl) ?_
  first | refine dq rfl rfl rfl (ixS 117 3 rfl rfl rfl (by omega) (by first | assumption | (simp [ints_length] <;> omega))) ?_ | refine dq rfl rfl rfl (ixJ 117 3 rfl rfl rfl (by omega) (by omega) (by first | assumption | (simp [ints_length] <;> omega))) ?_ | refine dq rfl rfl rfl (ix 117 3 rfl rfl rfl (by omega) (by omega) rfl) ?_
  first | refine dq rfl rfl rfl (ldN (vs := ints [_, _, _]) 3 rfl rfl rfl rfl) ?_ | refine dq rfl rfl rfl (ldSN (vs := ints [_, _, _]) 3 rfl rfl (flat_get_rec enC_sz hg) rfl (by decide)) ?_ | refine dq rfl rfl rfl (ldSN (vs := ints [_, _, _]) 3 rfl rfl (flat_get_rec enC_sz hgn) rfl (by decide)) ?_ | refine dq rfl rfl rfl (ldSN (vs := ints [_, _, _]) 3 rfl rfl rfl rfl (by decide)) ?_
  refine dq rfl rfl rfl (mv (v := .pointer _) rfl) ?_
  first | refine dq rfl rfl rfl (nc rfl) ?_ | refine dq rfl rfl rfl (ncF rfl) ?_ | refine dq rfl rfl rfl (ncS rfl (by first | assumption | (simp [ints_length] <;> omega))) ?_
  first | refine dq rfl rfl rfl (fa 2 rfl rfl) ?_ | refine dq rfl rfl rfl (faS 2 rfl rfl (by first | assumption | (simp [ints_length] <;> omega))) ?_
  first | refine dq rfl rfl rfl (ld rfl rfl rfl) ?_ | refine dq rfl rfl rfl (ldS rfl rfl (flat_get_rec enC_sz hg)) ?_ | refine dq rfl rfl rfl (ldS rfl rfl (flat_get_rec enC_sz hgn)) ?_ | refine dq rfl rfl rfl (ldS rfl rfl rfl) ?_
  refine dq rfl rfl rfl (len 117 3 rfl rfl) ?_
  first | refine dq rfl rfl rfl (subI rfl rfl (by omega) (by omega)) ?_ | refine dq rfl rfl rfl (sub rfl rfl rfl) ?_
  rw [show (((n + 1 : Nat) : Int) - 1) = (n : Int) from by omega]
  refine de rfl rfl ?_
  refine al (l := ints [_, _, _]) rfl rfl ?_
  intro b2
  refine ⟨(by repeat (first | exact ent_nil _ | refine ent_take 0 rfl ?_ | refine ent_take 1 rfl ?_ | refine ent_take 2 rfl ?_ | refine ent_take 3 rfl ?_ | refine ent_take 4 rfl ?_ | refine ent_take 5 rfl ?_ | refine ent_take 6 rfl ?_ | refine ent_take 7 rfl ?_ | refine ent_take 8 rfl ?_ | refine ent_take 9 rfl ?_ | refine ent_take 10 rfl ?_ | refine ent_take 11 rfl ?_ | refine ent_take 12 rfl ?_)), ?_⟩
  refine de0 rfl ?_
  refine st (v := .agg (List.toArray (ints [_, _, _]))) (vs := ints [_, _, _]) 3 rfl rfl rfl rfl rfl rfl (Nat.le_of_ble_eq_true rfl) rfl ?_
  refine ⟨(by repeat (first | exact ent_nil _ | refine ent_take 0 rfl ?_ | refine ent_take 1 rfl ?_ | refine ent_take 2 rfl ?_ | refine ent_take 3 rfl ?_ | refine ent_take 4 rfl ?_ | refine ent_take 5 rfl ?_ | refine ent_take 6 rfl ?_ | refine ent_take 7 rfl ?_ | refine ent_take 8 rfl ?_ | refine ent_take 9 rfl ?_ | refine ent_take 10 rfl ?_ | refine ent_take 11 rfl ?_ | refine ent_take 12 rfl ?_)), ?_⟩
  refine dq rfl rfl rfl (asg (v := .int _ _) rfl) ?_
  refine TD.nil (nt ?_)
  refine TC.seq ?_
  refine TC.draw _ [] [(0, false), (1, false), (2, false), (3, false), (4, false), (5, false), (6, true)] (by kernel_rfl) (by kernel_rfl) (ent_take 0 rfl (ent_take 0 rfl (ent_take 0 rfl (ent_nil _)))) ?_
  refine dq rfl rfl rfl (mv (v := .pointer _) rfl) ?_
  first | refine dq rfl rfl rfl (nc rfl) ?_ | refine dq rfl rfl rfl (ncF rfl) ?_ | refine dq rfl rfl rfl (ncS rfl (by first | assumption | (simp [ints_length] <;> omega))) ?_
  first | refine dq rfl rfl rfl (fa 3 rfl rfl) ?_ | refine dq rfl rfl rfl (faS 3 rfl rfl (by first | assumption | (simp [ints_length] <;> omega))) ?_
  first | refine dq rfl rfl rfl (ld rfl rfl rfl) ?_ | refine dq rfl rfl rfl (ldS rfl rfl (flat_get_rec enC_sz hg)) ?_ | refine dq rfl rfl rfl (ldS rfl rfl (flat_get_rec enC_sz hgn)) ?_ | refine dq rfl rfl rfl (ldS rfl rfl rfl) ?_
  first | refine dq rfl rfl rfl (fa 2 rfl rfl) ?_ | refine dq rfl rfl rfl (faS 2 rfl rfl (by first | assumption | (simp [ints_length] <;> omega))) ?_
  first | refine dq rfl rfl rfl (ld rfl rfl rfl) ?_ | refine dq rfl rfl rfl (ldS rfl rfl (flat_get_rec enC_sz hg)) ?_ | refine dq rfl rfl rfl (ldS rfl rfl (flat_get_rec enC_sz hgn)) ?_ | refine dq rfl rfl rfl (ldS rfl rfl rfl) ?_
  refine de0 rfl ?_
  refine deF 3 3 rfl (KL.int rfl) rfl rfl rfl ?_
  refine ⟨(by repeat (first | exact ent_nil _ | refine ent_take 0 rfl ?_ | refine ent_take 1 rfl ?_ | refine ent_take 2 rfl ?_ | refine ent_take 3 rfl ?_ | refine ent_take 4 rfl ?_ | refine ent_take 5 rfl ?_ | refine ent_take 6 rfl ?_ | refine ent_take 7 rfl ?_ | refine ent_take 8 rfl ?_ | refine ent_take 9 rfl ?_ | refine ent_take 10 rfl ?_ | refine ent_take 11 rfl ?_ | refine ent_take 12 rfl ?_)), ?_⟩
  refine TD.nil (nt ?_)
  refine TC.seq ?_
  refine TC.region ?_
  refine q rfl rfl (mv (v := .pointer _) rfl) ?_
  first | refine q rfl rfl (nc rfl) ?_ | refine q rfl rfl (ncF rfl) ?_ | refine q rfl rfl (ncS rfl (by first | assumption | (simp [ints_length] <;> omega))) ?_
  first | refine q rfl rfl (fa 2 rfl rfl) ?_ | refine q rfl rfl (faS 2 rfl rfl (by first | assumption | (simp [ints_length] <;> omega))) ?_
  first | refine q rfl rfl (ld rfl rfl rfl) ?_ | refine q rfl rfl (ldS rfl rfl (flat_get_rec enC_sz hg)) ?_ | refine q rfl rfl (ldS rfl rfl (flat_get_rec enC_sz hgn)) ?_ | refine q rfl rfl (ldS rfl rfl rfl) ?_
  refine q rfl rfl (mv (v := .int _ _) rfl) ?_
  first | refine q rfl rfl (ixS 117 3 rfl rfl rfl (by omega) (by first | assumption | (simp [ints_length] <;> omega))) ?_ | refine q rfl rfl (ixJ 117 3 rfl rfl rfl (by omega) (by omega) (by first | assumption | (simp [ints_length] <;> omega))) ?_ | refine q rfl rfl (ix 117 3 rfl rfl rfl (by omega) (by omega) rfl) ?_
  first | refine q rfl rfl (ldN (vs := ints [_, _, _]) 3 rfl rfl rfl rfl) ?_ | refine q rfl rfl (ldSN (vs := ints [_, _, _]) 3 rfl rfl (flat_get_rec enC_sz hg) rfl (by decide)) ?_ | refine q rfl rfl (ldSN (vs := ints [_, _, _]) 3 rfl rfl (flat_get_rec enC_sz hgn) rfl (by decide)) ?_ | refine q rfl rfl (ldSN (vs := ints [_, _, _]) 3 rfl rfl rfl rfl (by decide)) ?_
  refine e rfl ?_
  refine al (l := ints [_, _, _]) rfl rfl ?_
  intro b3
  refine e0 ?_
  refine st (v := .agg (List.toArray (ints [_, _, _]))) (vs := ints [_, _, _]) 3 rfl rfl rfl rfl rfl rfl (Nat.le_of_ble_eq_true rfl) rfl ?_
  refine TL.nil (nt ?_)
  refine TC.seq ?_
  refine TC.region ?_
  refine q rfl rfl (mv (v := .pointer _) rfl) ?_
  refine q rfl rfl (mv (v := .pointer _) rfl) ?_
  first | refine q rfl rfl (nc rfl) ?_ | refine q rfl rfl (ncF rfl) ?_ | refine q rfl rfl (ncS rfl (by first | assumption | (simp [ints_length] <;> omega))) ?_
  first | refine q rfl rfl (fa 2 rfl rfl) ?_ | refine q rfl rfl (faS 2 rfl rfl (by first | assumption | (simp [ints_length] <;> omega))) ?_
  first | refine q rfl rfl (ld rfl rfl rfl) ?_ | refine q rfl rfl (ldS rfl rfl (flat_get_rec enC_sz hg)) ?_ | refine q rfl rfl (ldS rfl rfl (flat_get_rec enC_sz hgn)) ?_ | refine q rfl rfl (ldS rfl rfl rfl) ?_
  refine q rfl rfl (mv (v := .int _ _) rfl) ?_
  refine q rfl rfl (slTn 117 3 (n) rfl rfl rfl (by omega) (by omega)) ?_
  first | refine q rfl rfl (nc rfl) ?_ | refine q rfl rfl (ncF rfl) ?_ | refine q rfl rfl (ncS rfl (by first | assumption | (simp [ints_length] <;> omega))) ?_
  first | refine q rfl rfl (fa 2 rfl rfl) ?_ | refine q rfl rfl (faS 2 rfl rfl (by first | assumption | (simp [ints_length] <;> omega))) ?_
  refine e0 ?_
  refine st (v := .slice _ _ _) (vs := [_]) 1 rfl rfl rfl rfl rfl rfl (Nat.le_of_ble_eq_true rfl) rfl ?_
  refine TL.nil (nt ?_)
  refine TC.seq ?_
  refine TC.seq ?_
  refine TC.region ?_
  refine q rfl rfl (mv (v := .int _ _) rfl) ?_
  refine q rfl rfl (mv (v := .int _ _) rfl) ?_
  refine q rfl rfl (lss rfl rfl) ?_
  refine TL.nil (nt ?_)
  first | refine TC.condD rfl (fun hlt => ?_) (fun hlt => ?_) | refine TC.cond rfl (fun hlt => ?_) (fun hlt => ?_)
  · have hlt2 : i < n := by omega
    have hcu : (H.take n).set i (gE H n) = cutL H n i := by rw [cutL, if_pos hlt2]
    have htk : (H.take n).length = n := by rw [List.length_take]; omega
    refine TC.weak (B := sepL [pts b 93 [.int .i64 now, .int .i64 tn, .slice ad n cap, .map (some wb)], slc 117 3 ad n cap (ents (H.take n)), mapF encI wb (delF f (gE H i).id) _, pts b3 117 (enC (gE H n)), pts b2 117 (enC (gE H i)), pts b1 117 (ints [0, 0, 0]), F]) (ent_take 0 rfl (ent_takeW 4 rfl (by rw [← ents_take]; exact slc_to (by omega)) (ent_take 1 rfl (ent_take 0 rfl (ent_take 0 rfl (ent_take 0 rfl (ent_take 0 rfl (ent_nil _)))))))) ?_
    refine TC.seq ?_
    refine TC.region ?_
    refine q rfl rfl (mv (v := .pointer _) rfl) ?_
    refine q rfl rfl (mv (v := .int _ _) rfl) ?_
    first | refine q rfl rfl (ldN (vs := ints [_, _, _]) 3 rfl rfl rfl rfl) ?_ | refine q rfl rfl (ldSN (vs := ints [_, _, _]) 3 rfl rfl (flat_get_rec enC_sz hg) rfl (by decide)) ?_ | refine q rfl rfl (ldSN (vs := ints [_, _, _]) 3 rfl rfl (flat_get_rec enC_sz hgn) rfl (by decide)) ?_ | refine q rfl rfl (ldSN (vs := ints [_, _, _]) 3 rfl rfl rfl rfl (by decide)) ?_
    refine e rfl ?_
    refine cl (put_ok b now tn (H.take n) ad n cap wb _ _ i htk hlt2 (by omega) (gE H n)) rfl (picked_cons 0 rfl (picked_cons 0 rfl (picked_cons 0 rfl (picked_nil _)))) trivial ?_
    intro _ _
    change TL _ _ _ _ _ _ _ _ (sepL [_, _, _, _, _, _, _])
    rw [hcu]
    refine TL.nil (nt ?_)
    refine TC.seq ?_
    refine TC.region ?_
    refine q rfl rfl (mv (v := .pointer _) rfl) ?_
    refine q rfl rfl (mv (v := .int _ _) rfl) ?_
    refine e rfl ?_
    refine cl (down_ok b now tn (cutL H n i) ad n cap wb _ _ i hcl hlt2 (by omega) (cut_hole hn hH) ((cut_wh hn hW hN hlt2).but i) hcN1) rfl (picked_cons 0 rfl (picked_cons 0 rfl (picked_cons 0 rfl (picked_nil _)))) trivial ?_
    intro ⟨H3, f3, m3⟩ ⟨hw3, hp3, j, hj, hu3, hg3⟩
    change TL _ _ _ _ _ _ _ _ (sepL [_, _, _, _, _, _, _])
    dsimp only at hw3 hp3 hj hu3 hg3 ⊢
    rw [cutL_gE hn hlt2, if_pos rfl] at hg3
    have hl3 : H3.length = n := by rw [hp3.length_eq, hcl]
    have hfj : f3 (gE H n).id = some (.int .i64 (j : Int)) := by rw [← hg3]; exact hw3.a j (by omega)
    refine TL.nil (nt ?_)
    refine TC.draw _ [8] [(0, false), (1, false), (2, false), (3, false), (4, false), (5, false), (6, false), (7, false), (8, true)] (by kernel_rfl) (by kernel_rfl) (ent.refl _) ?_
    refine dq rfl rfl rfl (mv (v := .pointer _) rfl) ?_
    refine dq rfl rfl rfl (mv (v := .pointer _) rfl) ?_
    first | refine dq rfl rfl rfl (nc rfl) ?_ | refine dq rfl rfl rfl (ncF rfl) ?_ | refine dq rfl rfl rfl (ncS rfl (by first | assumption | (simp [ints_length] <;> omega))) ?_
    first | refine dq rfl rfl rfl (fa 3 rfl rfl) ?_ | refine dq rfl rfl rfl (faS 3 rfl rfl (by first | assumption | (simp [ints_length] <;> omega))) ?_
    first | refine dq rfl rfl rfl (ld rfl rfl rfl) ?_ | refine dq rfl rfl rfl (ldS rfl rfl (flat_get_rec enC_sz hg)) ?_ | refine dq rfl rfl rfl (ldS rfl rfl (flat_get_rec enC_sz hgn)) ?_ | refine dq rfl rfl rfl (ldS rfl rfl rfl) ?_
    first | refine dq rfl rfl rfl (fa 2 rfl rfl) ?_ | refine dq rfl rfl rfl (faS 2 rfl rfl (by first | assumption | (simp [ints_length] <;> omega))) ?_
    first | refine dq rfl rfl rfl (ld rfl rfl rfl) ?_ | refine dq rfl rfl rfl (ldS rfl rfl (flat_get_rec enC_sz hg)) ?_ | refine dq rfl rfl rfl (ldS rfl rfl (flat_get_rec enC_sz hgn)) ?_ | refine dq rfl rfl rfl (ldS rfl rfl rfl) ?_
    refine dq rfl rfl rfl (luF 3 3 rfl rfl (KL.int rfl) rfl rfl) ?_
    rw [hfj]
    refine dl rfl rfl rfl rfl ?_
    refine cl (up_ok b now tn H3 ad n cap wb m3 f3 j hl3 hj (by omega) hu3 (hw3.but j) (hcN1.perm hp3)) rfl (picked_cons 0 rfl (picked_cons 0 rfl (picked_cons 0 rfl (picked_nil _)))) trivial ?_
    intro ⟨H4, f4, m4⟩ ⟨hh4, hw4, hp4⟩
    change TD _ _ _ _ _ _ _ _ _ _ (sepL [_, _, _, _, _, _, _])
    dsimp only at hh4 hw4 hp4 ⊢
    refine TD.nil (nt ?_)
    refine TC.seq ?_
    refine TC.region ?_
    first | refine q rfl rfl (ldN (vs := ints [_, _, _]) 3 rfl rfl rfl rfl) ?_ | refine q rfl rfl (ldSN (vs := ints [_, _, _]) 3 rfl rfl (flat_get_rec enC_sz hg) rfl (by decide)) ?_ | refine q rfl rfl (ldSN (vs := ints [_, _, _]) 3 rfl rfl (flat_get_rec enC_sz hgn) rfl (by decide)) ?_ | refine q rfl rfl (ldSN (vs := ints [_, _, _]) 3 rfl rfl rfl rfl (by decide)) ?_
    refine e0 ?_
    refine st (v := .agg (List.toArray (ints [_, _, _]))) (vs := ints [_, _, _]) 3 rfl rfl rfl rfl rfl rfl (Nat.le_of_ble_eq_true rfl) rfl ?_
    refine TL.nil (nt ?_)
    refine TC.ret ?_
    exact Ret.i ⟨H4, f4, m4⟩ [_] ⟨(rcN (n := 3) rfl rfl rfl rfl), trivial⟩ rfl ⟨by dsimp only; rw [hp4.length_eq, hl3], hh4, hw4, ((hp4.trans hp3).cons _).trans hcp⟩ (ent_take 1 rfl (ent_take 1 rfl (ent_take 1 rfl (ent_take 3 rfl (ent_nil _)))))
  · obtain rfl : i = n := by omega
    have hcu : H.take i = cutL H i i := by rw [cutL, if_neg (by omega)]
    refine TC.weak (B := sepL [pts b 93 [.int .i64 now, .int .i64 tn, .slice ad i cap, .map (some wb)], slc 117 3 ad i cap (ents (cutL H i i)), mapF encI wb (delF f (gE H i).id) _, pts b3 117 (enC (gE H i)), pts b2 117 (enC (gE H i)), pts b1 117 (ints [0, 0, 0]), F]) (ent_take 0 rfl (ent_takeW 4 rfl (by rw [← hcu, ← ents_take]; exact slc_to (by omega)) (ent_take 1 rfl (ent_take 0 rfl (ent_take 0 rfl (ent_take 0 rfl (ent_take 0 rfl (ent_nil _)))))))) ?_
    refine TC.skip (nt ?_)
    refine TC.seq ?_
    refine TC.region ?_
    first | refine q rfl rfl (ldN (vs := ints [_, _, _]) 3 rfl rfl rfl rfl) ?_ | refine q rfl rfl (ldSN (vs := ints [_, _, _]) 3 rfl rfl (flat_get_rec enC_sz hg) rfl (by decide)) ?_ | refine q rfl rfl (ldSN (vs := ints [_, _, _]) 3 rfl rfl (flat_get_rec enC_sz hgn) rfl (by decide)) ?_ | refine q rfl rfl (ldSN (vs := ints [_, _, _]) 3 rfl rfl rfl rfl (by decide)) ?_
    refine e0 ?_
    refine st (v := .agg (List.toArray (ints [_, _, _]))) (vs := ints [_, _, _]) 3 rfl rfl rfl rfl rfl rfl (Nat.le_of_ble_eq_true rfl) rfl ?_
    refine TL.nil (nt ?_)
    refine TC.ret ?_
    exact Ret.i ⟨cutL H i i, _, _⟩ [_] ⟨(rcN (n := 3) rfl rfl rfl rfl), trivial⟩ rfl ⟨hcl, cut_heap hn hH, cut_wh_last hn hW hN, hcp⟩ (ent_take 1 rfl (ent_take 1 rfl (ent_take 1 rfl (ent_take 3 rfl (ent_nil _)))))

end Go.Proofs.Ytdfmfhcjnjfjbaa.Al
