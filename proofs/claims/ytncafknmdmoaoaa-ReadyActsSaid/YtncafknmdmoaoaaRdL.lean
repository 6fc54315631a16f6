/-
  Proved here: what functions of this program compute, each as a contract over symbolic states, under the premises that each theorem names (most lines printed by a program of the prover).
-/
import Derived.Test.YtncafknmdmoaoaaRdF
namespace Go.Proofs.Ytncafknmdmoaoaa
open Go Go.QM
def rthC (t : Th) : List Value := ints [t.id, t.prio, t.whole, t.left]
theorem rthC_sz (t : Th) : (rthC t).length = 4 := rfl
def rthsC (S : List Th) : List Value := S.flatMap rthC
theorem rthsC_length (S : List Th) : (rthsC S).length = S.length * 4 := flat_length rthC_sz S
theorem rths_take (S : List Th) (k : Nat) : (rthsC S).take (k * 4) = rthsC (S.take k) := flat_take rthC_sz S k
theorem rths_drop (S : List Th) (k : Nat) : ((rthsC S).drop (k * 4)).take ((S.length - k) * 4) = rthsC (S.drop k) := by
  rw [List.take_of_length_le (by rw [List.length_drop, rthsC_length]; omega)]; exact flat_drop rthC_sz S k
theorem rths_all (S : List Th) : (rthsC S).take (S.length * 4) = rthsC S := List.take_of_length_le (by rw [rthsC_length]; omega)
theorem rths_one : ∀ (S : List Th), (rthsC S).all Value.oneCell' = true
  | [] => rfl
  | t :: S => by have := rths_one S; rw [rthsC] at this ⊢; rw [List.flatMap_cons, List.all_append, this]; rfl
theorem rths_app (S T : List Th) : rthsC S ++ rthsC T = rthsC (S ++ T) := by simp [rthsC]
def isRq (b : Nat) (S : List Th) : HP := EX fun y : Option Addr × Nat => pure' True (sepL [pts b 36 [.slice y.1 S.length y.2], slc 67 4 y.1 S.length y.2 (rthsC S)])
def atS (S : List Th) (id : Int) : Int := match S.findIdx? fun x => decide (x.id = id) with
  | some i => (i : Int)
  | none => -1
theorem atS_no {S : List Th} {id : Int} (h : ¬ hasS S id) : atS S id = -1 := by
  have : S.findIdx? (fun x => decide (x.id = id)) = none := by
    rw [List.findIdx?_eq_none_iff]; intro x hx; simp only [decide_eq_false_iff_not]; exact fun e2 => h ⟨x, hx, e2⟩
  rw [atS, this]
theorem atS_yes {S : List Th} {id : Int} (h : hasS S id) : ∃ i x, atS S id = ((i : Nat) : Int) ∧ S[i]? = some x ∧ x.id = id := by
  cases hf : S.findIdx? (fun x => decide (x.id = id)) with
  | none =>
    obtain ⟨x, hx, h1⟩ := h
    rw [List.findIdx?_eq_none_iff] at hf
    have := hf x hx; simp [h1] at this
  | some i =>
    obtain ⟨x, h1, h2⟩ := find_of_findIdx hf
    have := List.find?_some h2
    exact ⟨i, x, by rw [atS, hf], h1, by simpa using this⟩
theorem cutS_off {S : List Th} {i : Nat} {x : Th} (hn : NdS S) (hx : S[i]? = some x) : S.take i ++ S.drop (i + 1) = offS S x.id := by
  have hp := perm_take hx
  have hs : ∀ a ∈ S.take i ++ S.drop (i + 1), a.id ≠ x.id := fun a ha e2 => (List.nodup_cons.1 (hn.perm hp.symm)).1 (List.mem_map.2 ⟨a, ha, e2⟩)
  obtain ⟨h1, h2⟩ := List.getElem?_eq_some_iff.1 hx
  have hQ : S = S.take i ++ x :: S.drop (i + 1) := by rw [← h2, ← List.drop_eq_getElem_cons h1, List.take_append_drop]
  conv => rhs; rw [hQ]
  rw [offS, List.filter_append, List.filter_cons_of_neg (by simp)]
  rw [List.filter_eq_self.2 (fun a ha => by simpa using hs a (by simp [ha])), List.filter_eq_self.2 (fun a ha => by simpa using hs a (by simp [ha]))]
theorem cutS_len {S : List Th} {i : Nat} (h : i < S.length) : (S.take i ++ S.drop (i + 1)).length = S.length - 1 := by simp; omega
theorem setS_setL {S : List Th} {i : Nat} {x : Th} (hn : NdS S) (hx : S[i]? = some x) (v : Int) : S.set i ⟨x.id, x.prio, x.whole, v⟩ = setL S x.id v := by
  apply List.ext_getElem?
  intro j
  rw [setL, List.getElem?_map]
  by_cases e : i = j
  · subst e
    rw [List.getElem?_set_self (List.getElem?_eq_some_iff.1 hx).1, hx, Option.map_some, if_pos rfl]
  · rw [List.getElem?_set_ne e]
    cases hj : S[j]? with
    | none => rfl
    | some u =>
      rw [Option.map_some, if_neg]
      intro e2
      have hp := List.pairwise_iff_getElem.1 hn
      obtain ⟨a1, b1⟩ := List.getElem?_eq_some_iff.1 hx
      obtain ⟨a2, b2⟩ := List.getElem?_eq_some_iff.1 hj
      have hlm : ∀ k, k < S.length → k < (S.map (·.id)).length := fun k hk => by rw [List.length_map]; exact hk
      rcases Nat.lt_or_gt_of_ne e with h3 | h3
      · have := hp i j (hlm i a1) (hlm j a2) h3
        rw [List.getElem_map, List.getElem_map, b1, b2] at this; exact this e2.symm
      · have := hp j i (hlm j a2) (hlm i a1) h3
        rw [List.getElem_map, List.getElem_map, b1, b2] at this; exact this e2
/-- The best of the first k. -/
def BestI (S : List Th) (k : Nat) (b : Int) : Prop := (k = 0 ∧ b = -1) ∨ ∃ (i : Nat) (t : Th), b = i ∧ i < k ∧ S[i]? = some t ∧ ∀ j u, j < k → S[j]? = some u → u.prio ≤ t.prio ∧ (j < i → u.prio < t.prio)
theorem BestI.top {S : List Th} {b : Int} (h : BestI S S.length b) : (topS S = none ∧ b = -1) ∨ ∃ (i : Nat) (t : Th), b = i ∧ S[i]? = some t ∧ topS S = some t := by
  rcases h with ⟨h, rfl⟩ | ⟨i, t, rfl, hi, ht, hall⟩
  · rw [List.length_eq_zero_iff] at h
    subst h; exact .inl ⟨rfl, rfl⟩
  · refine .inr ⟨i, t, rfl, ht, ?_⟩
    have hat : (S.all fun u => decide (u.prio ≤ t.prio)) = true := by
      rw [List.all_eq_true]
      intro u hu
      obtain ⟨j, hj⟩ := List.getElem?_of_mem hu
      have := (hall j u (List.getElem?_eq_some_iff.1 hj).1 hj).1
      simpa using this
    have hf := findIdx_at (p := fun t : Th => S.all fun u => decide (u.prio ≤ t.prio)) ht hat (fun j u hj hu => by
      have := (hall j u (by omega) hu).2 hj
      rw [Bool.eq_false_iff]
      intro h2
      rw [List.all_eq_true] at h2
      have h3 := h2 t (List.mem_of_getElem? ht)
      simp at h3; omega)
    obtain ⟨u, h1, h2⟩ := find_of_findIdx hf
    rw [ht] at h1; cases h1
    exact h2
theorem BestI.next {S : List Th} {k : Nat} {b : Int} (h : BestI S k b) {u : Th} (hu : S[k]? = some u) : BestI S (k + 1) (if b < 0 then (k : Int) else match S[b.toNat]? with
    | some t => if t.prio < u.prio then (k : Int) else b
    | none => b) := by
  rcases h with ⟨rfl, rfl⟩ | ⟨i, t, rfl, hi, ht, hall⟩
  · rw [if_pos (by omega)]
    exact .inr ⟨0, u, rfl, by omega, hu, fun j w hj hw => by
      obtain rfl : j = 0 := by omega
      rw [hu] at hw; cases hw; exact ⟨Int.le_refl _, fun h => by omega⟩⟩
  · rw [if_neg (by omega), Int.toNat_natCast, ht]
    dsimp only
    split
    · rename_i hlt
      refine .inr ⟨k, u, rfl, by omega, hu, fun j w hj hw => ?_⟩
      rcases Nat.lt_succ_iff_lt_or_eq.1 hj with h3 | h3
      · have := (hall j w h3 hw).1
        exact ⟨by omega, fun _ => by omega⟩
      · subst h3; rw [hu] at hw; cases hw; exact ⟨Int.le_refl _, fun h => by omega⟩
    · rename_i hge
      refine .inr ⟨i, t, rfl, by omega, ht, fun j w hj hw => ?_⟩
      rcases Nat.lt_succ_iff_lt_or_eq.1 hj with h3 | h3
      · exact hall j w h3 hw
      · subst h3; rw [hu] at hw; cases hw; exact ⟨by omega, fun h => by omega⟩
def rowI (S : List Th) (pr : Int) : List Int := (S.filter fun t => decide (t.prio = pr)).map (·.id)
theorem rowI_R {S : List Th} (h : RInv S) (pr : Int) : rowR S pr = rowI S pr := by
  rw [rowR]
  split
  · rename_i h1
    rw [rowA, rowI, Int.toNat_of_nonneg h1.1]
  · rename_i h1
    rw [rowI, List.filter_eq_nil_iff.2]
    · rfl
    · intro t ht
      have := h.rg t ht
      simp only [decide_eq_true_eq]; omega
theorem rowI_len (S : List Th) (pr : Int) : (rowI S pr).length ≤ S.length := by rw [rowI, List.length_map]; exact List.length_filter_le _ _
theorem rowI_snoc {S : List Th} {k : Nat} {t : Th} (h : S[k]? = some t) (pr : Int) : rowI (S.take (k + 1)) pr = if t.prio = pr then rowI (S.take k) pr ++ [t.id] else rowI (S.take k) pr := by
  rw [List.take_add_one, h, rowI, List.filter_append, List.map_append]
  split
  · rename_i e; rw [Option.toList, List.filter_cons_of_pos (by simpa using e)]; rfl
  · rename_i e; rw [Option.toList, List.filter_cons_of_neg (by simpa using e)]; simp [rowI]

theorem may_ok (id pr sl : Int) : FSpec Try.prog 38 [.int .i64 id, .int .i64 pr, .int .i64 sl] noRd [] (fun _ : Unit => .bool (decide (¬ (id < 0 ∨ pr < 0 ∨ 7 < pr ∨ sl < 1 ∨ 16 < sl)))) (fun _ => True) (fun _ => []) := by
  refine FSpec.intro (rs := [.tmp 6]) (by kernel_rfl) Try.func38 rfl Try.ntmps38 (by rfl) rfl ?_
  intro F _
  change TC _ _ _ _ _ _ _ (sepL [_])
  refine TC.seq ?_
  refine TC.region ?_
  refine q rfl rfl (asg (v := .bool _) rfl) ?_
  refine TL.nil (nt ?_)
  refine TC.seq ?_
  refine TC.region ?_
  refine q rfl rfl (mv (v := .int _ _) rfl) ?_
  refine q rfl rfl (geq rfl rfl) ?_
  refine q rfl rfl (mv (v := .bool _) rfl) ?_
  refine TL.split 9 rfl (fun h0 => ?_) (fun h0 => ?_)
  · have h0 := of_decide_eq_true h0
    refine qg rfl rfl rfl (mv (v := .int _ _) rfl) ?_
    refine qg rfl rfl rfl (geq rfl rfl) ?_
    first | refine q rfl rfl (pkT rfl rfl) ?_ | refine q rfl rfl (pkF rfl rfl) ?_
    refine q rfl rfl (mv (v := .bool _) rfl) ?_
    refine TL.split 13 rfl (fun h1 => ?_) (fun h1 => ?_)
    · have h1 := of_decide_eq_true h1
      refine qg rfl rfl rfl (mv (v := .int _ _) rfl) ?_
      refine qg rfl rfl rfl (leq rfl rfl) ?_
      first | refine q rfl rfl (pkT rfl rfl) ?_ | refine q rfl rfl (pkF rfl rfl) ?_
      refine q rfl rfl (mv (v := .bool _) rfl) ?_
      refine TL.split 17 rfl (fun h2 => ?_) (fun h2 => ?_)
      · have h2 := of_decide_eq_true h2
        refine qg rfl rfl rfl (mv (v := .int _ _) rfl) ?_
        refine qg rfl rfl rfl (geq rfl rfl) ?_
        first | refine q rfl rfl (pkT rfl rfl) ?_ | refine q rfl rfl (pkF rfl rfl) ?_
        refine q rfl rfl (mv (v := .bool _) rfl) ?_
        refine TL.split 21 rfl (fun h3 => ?_) (fun h3 => ?_)
        · have h3 := of_decide_eq_true h3
          refine qg rfl rfl rfl (mv (v := .int _ _) rfl) ?_
          refine qg rfl rfl rfl (leq rfl rfl) ?_
          first | refine q rfl rfl (pkT rfl rfl) ?_ | refine q rfl rfl (pkF rfl rfl) ?_
          refine q rfl rfl (asg (v := .bool _) rfl) ?_
          refine TL.nil (nt ?_)
          refine TC.ret ?_
          exact Ret.i () [_] ⟨rfl, trivial⟩ (congrArg Value.bool (by rw [decide_eq_decide]; omega)) trivial (ent_take 0 rfl (ent_nil _))
        · have h3 := of_decide_eq_false h3
          refine qs rfl rfl ?_
          refine qs rfl rfl ?_
          first | refine q rfl rfl (pkT rfl rfl) ?_ | refine q rfl rfl (pkF rfl rfl) ?_
          refine q rfl rfl (asg (v := .bool _) rfl) ?_
          refine TL.nil (nt ?_)
          refine TC.ret ?_
          exact Ret.i () [_] ⟨rfl, trivial⟩ (congrArg Value.bool (decide_eq_false (by omega)).symm) trivial (ent_take 0 rfl (ent_nil _))
      · have h2 := of_decide_eq_false h2
        refine qs rfl rfl ?_
        refine qs rfl rfl ?_
        first | refine q rfl rfl (pkT rfl rfl) ?_ | refine q rfl rfl (pkF rfl rfl) ?_
        refine q rfl rfl (mv (v := .bool _) rfl) ?_
        refine qs rfl rfl ?_
        refine qs rfl rfl ?_
        first | refine q rfl rfl (pkT rfl rfl) ?_ | refine q rfl rfl (pkF rfl rfl) ?_
        refine q rfl rfl (asg (v := .bool _) rfl) ?_
        refine TL.nil (nt ?_)
        refine TC.ret ?_
        exact Ret.i () [_] ⟨rfl, trivial⟩ (congrArg Value.bool (decide_eq_false (by omega)).symm) trivial (ent_take 0 rfl (ent_nil _))
    · have h1 := of_decide_eq_false h1
      refine qs rfl rfl ?_
      refine qs rfl rfl ?_
      first | refine q rfl rfl (pkT rfl rfl) ?_ | refine q rfl rfl (pkF rfl rfl) ?_
      refine q rfl rfl (mv (v := .bool _) rfl) ?_
      refine qs rfl rfl ?_
      refine qs rfl rfl ?_
      first | refine q rfl rfl (pkT rfl rfl) ?_ | refine q rfl rfl (pkF rfl rfl) ?_
      refine q rfl rfl (mv (v := .bool _) rfl) ?_
      refine qs rfl rfl ?_
      refine qs rfl rfl ?_
      first | refine q rfl rfl (pkT rfl rfl) ?_ | refine q rfl rfl (pkF rfl rfl) ?_
      refine q rfl rfl (asg (v := .bool _) rfl) ?_
      refine TL.nil (nt ?_)
      refine TC.ret ?_
      exact Ret.i () [_] ⟨rfl, trivial⟩ (congrArg Value.bool (decide_eq_false (by omega)).symm) trivial (ent_take 0 rfl (ent_nil _))
  · have h0 := of_decide_eq_false h0
    refine qs rfl rfl ?_
    refine qs rfl rfl ?_
    first | refine q rfl rfl (pkT rfl rfl) ?_ | refine q rfl rfl (pkF rfl rfl) ?_
    refine q rfl rfl (mv (v := .bool _) rfl) ?_
    refine qs rfl rfl ?_
    refine qs rfl rfl ?_
    first | refine q rfl rfl (pkT rfl rfl) ?_ | refine q rfl rfl (pkF rfl rfl) ?_
    refine q rfl rfl (mv (v := .bool _) rfl) ?_
    refine qs rfl rfl ?_
    refine qs rfl rfl ?_
    first | refine q rfl rfl (pkT rfl rfl) ?_ | refine q rfl rfl (pkF rfl rfl) ?_
    refine q rfl rfl (mv (v := .bool _) rfl) ?_
    refine qs rfl rfl ?_
    refine qs rfl rfl ?_
    first | refine q rfl rfl (pkT rfl rfl) ?_ | refine q rfl rfl (pkF rfl rfl) ?_
    refine q rfl rfl (asg (v := .bool _) rfl) ?_
    refine TL.nil (nt ?_)
    refine TC.ret ?_
    exact Ret.i () [_] ⟨rfl, trivial⟩ (congrArg Value.bool (decide_eq_false (by omega)).symm) trivial (ent_take 0 rfl (ent_nil _))

theorem rat_ok (b : Nat) (S : List Th) (hl : S.length ≤ 1000000) (id : Int) : FSpec Try.prog 39 [.pointer (some ⟨b, 0, none⟩), .int .i64 id] (fun F => ent F (isRq b S)) [] (fun _ : Unit => .int .i64 (atS S id)) (fun _ => True) (fun _ => []) := by
  refine FSpec.intro (rs := [.tmp 4]) (by kernel_rfl) Try.func39 rfl Try.ntmps39 (by rfl) rfl ?_
  intro F hF
  change TC _ _ _ _ _ _ _ (sepL [_])
  refine TC.openR hF (fun x0 hx0 => ?_)
  obtain ⟨a1, c1⟩ := x0
  clear hx0
  dsimp only
  have hil := rthsC_length S
  refine TC.seq ?_
  refine TC.region ?_
  refine q rfl rfl (asg (v := .int _ _) rfl) ?_
  refine TL.nil (nt ?_)
  refine TC.seq ?_
  refine TC.seq ?_
  refine TC.region ?_
  refine q rfl rfl (asg (v := .int _ _) rfl) ?_
  refine TL.nil (nt ?_)
  refine TC.block ?_
  refine TC.loop (ι := Nat) (fun i => i ≤ S.length ∧ ∀ j t, j < i → S[j]? = some t → t.id ≠ id) (fun i => [(0, .pointer (some ⟨b, 0, none⟩)), (1, .int .i64 id), (5, .int .i64 i)]) (fun i => sepL [restr F (sepL [pts b 36 [.slice a1 S.length c1], slc 67 4 a1 S.length c1 (rthsC S)])]) (fun i => S.length - i) 0 ⟨Nat.zero_le _, by intro j t h; omega⟩ ⟨rfl, rfl, rfl, trivial⟩ (ent_take 0 rfl (ent_nil _)) ?_
  rintro k ⟨hk, hno⟩ ρ0
  dsimp only [updL] at hk hno ⊢
  refine TC.seq ?_
  refine TC.seq ?_
  refine TC.region ?_
  refine q rfl rfl (mv (v := .int _ _) rfl) ?_
  refine q rfl rfl (mv (v := .pointer _) rfl) ?_
  first | refine q rfl rfl (nc rfl) ?_ | refine q rfl rfl (ncF rfl) ?_ | refine q rfl rfl (ncS rfl (by first | assumption | (simp [ints_length] <;> omega))) ?_
  first | refine q rfl rfl (fa 0 rfl rfl) ?_ | refine q rfl rfl (faS 0 rfl rfl (by first | assumption | (simp [ints_length] <;> omega))) ?_
  first | refine q rfl rfl (ld rfl rfl rfl) ?_ | refine q rfl rfl (ldS rfl rfl rfl) ?_
  refine q rfl rfl (len 67 4 rfl rfl) ?_
  refine q rfl rfl (lss rfl rfl) ?_
  refine TL.nil (nt ?_)
  first | refine TC.condD rfl (fun hlt => ?_) (fun hlt => ?_) | refine TC.cond rfl (fun hlt => ?_) (fun hlt => ?_)
  · have hlt2 : k < S.length := by omega
    obtain ⟨x, hx⟩ : ∃ x, S[k]? = some x := ⟨S[k], List.getElem?_eq_getElem hlt2⟩
    have hpos : 0 < (rthsC S).length := by omega
    refine TC.skip (nt ?_)
    refine TC.seq ?_
    refine TC.block ?_
    refine TC.seq ?_
    refine TC.region ?_
    refine q rfl rfl (mv (v := .pointer _) rfl) ?_
    first | refine q rfl rfl (nc rfl) ?_ | refine q rfl rfl (ncF rfl) ?_ | refine q rfl rfl (ncS rfl (by first | assumption | (simp [ints_length] <;> omega))) ?_
    first | refine q rfl rfl (fa 0 rfl rfl) ?_ | refine q rfl rfl (faS 0 rfl rfl (by first | assumption | (simp [ints_length] <;> omega))) ?_
    first | refine q rfl rfl (ld rfl rfl rfl) ?_ | refine q rfl rfl (ldS rfl rfl (flat_ld rthC_sz hx 0 (by omega) rfl)) ?_ | refine q rfl rfl (ldS rfl rfl rfl) ?_
    refine q rfl rfl (mv (v := .int _ _) rfl) ?_
    first | refine q rfl rfl (ixS 67 4 rfl rfl rfl (by omega) (by first | assumption | (simp [ints_length] <;> omega))) ?_ | refine q rfl rfl (ixJ 67 4 rfl rfl rfl (by omega) (by omega) (by first | assumption | (simp [ints_length] <;> omega))) ?_ | refine q rfl rfl (ix 67 4 rfl rfl rfl (by omega) (by omega) rfl) ?_
    first | refine q rfl rfl (fa 0 rfl rfl) ?_ | refine q rfl rfl (faS 0 rfl rfl (by first | assumption | (simp [ints_length] <;> omega))) ?_
    first | refine q rfl rfl (ld rfl rfl rfl) ?_ | refine q rfl rfl (ldS rfl rfl (flat_ld rthC_sz hx 0 (by omega) rfl)) ?_ | refine q rfl rfl (ldS rfl rfl rfl) ?_
    refine q rfl rfl (mv (v := .int _ _) rfl) ?_
    refine q rfl rfl (eqI rfl rfl) ?_
    refine TL.nil (nt ?_)
    first | refine TC.condD rfl (fun he => ?_) (fun he => ?_) | refine TC.cond rfl (fun he => ?_) (fun he => ?_)
    · have hr : atS S id = (k : Int) := by
        rw [atS, findIdx_at (p := fun x : Th => decide (x.id = id)) hx (by simpa using he) (fun j t hj ht => by simpa using hno j t hj ht)]
      refine TC.seq ?_
      refine TC.region ?_
      refine q rfl rfl (mv (v := .int _ _) rfl) ?_
      refine q rfl rfl (asg (v := .int _ _) rfl) ?_
      refine TL.nil (nt ?_)
      refine TC.ret (rb (rt (rt (rb (rt ?_)))))
      exact Ret.i () [_] ⟨rfl, trivial⟩ (by rw [hr]; rfl) trivial (ent_takeF 0 rfl (ent_nil _))
    · refine TC.skip (nb (nt ?_))
      refine TC.region ?_
      refine q rfl rfl (mv (v := .int _ _) rfl) ?_
      first | refine q rfl rfl (addI rfl rfl (by omega) (by omega)) ?_ | refine q rfl rfl (add rfl rfl rfl) ?_
      refine q rfl rfl (asg (v := .int _ _) rfl) ?_
      refine TL.nil (nt ?_)
      exact ⟨rfl, (k + 1), ⟨by omega, fun j t hj ht => by rcases Nat.lt_succ_iff_lt_or_eq.1 hj with h | h; exact hno j t h ht; subst h; rw [hx] at ht; cases ht; exact he⟩, (by omega), ⟨rfl, rfl, rfl, trivial⟩, (ent_take 0 rfl (ent_nil _))⟩
  · have hr : atS S id = -1 := atS_no (by
      rintro ⟨e1, he1, he2⟩
      obtain ⟨j, hj⟩ := List.getElem?_of_mem he1
      exact hno j e1 (by have := (List.getElem?_eq_some_iff.1 hj).1; omega) hj he2)
    refine TC.exit (et (et (eb (nt ?_))))
    refine TC.seq ?_
    refine TC.region ?_
    refine q rfl rfl (asg (v := .int _ _) rfl) ?_
    refine TL.nil (nt ?_)
    refine TC.ret ?_
    exact Ret.i () [_] ⟨rfl, trivial⟩ (by rw [hr]; rfl) trivial (ent_takeF 0 rfl (ent_nil _))

theorem rcut_ok (b : Nat) (S : List Th) (hl : S.length ≤ 1000000) (i : Nat) (hi : i < S.length) : FSpec Try.prog 40 [.pointer (some ⟨b, 0, none⟩), .int .i64 (i : Int)] noRd [isRq b S] (fun _ : Unit => .tuple #[]) (fun _ => True) (fun _ => [isRq b (S.take i ++ S.drop (i + 1))]) := by
  refine FSpec.intro (rs := []) (by kernel_rfl) Try.func40 rfl Try.ntmps40 (by rfl) rfl ?_
  intro F _
  change TC _ _ _ _ _ _ _ (sepL [_, _])
  refine TC.open 0 rfl (fun x0 hx0 => ?_)
  obtain ⟨a1, c1⟩ := x0
  clear hx0
  change TC _ _ _ _ _ _ _ (sepL [_, _, _])
  dsimp only
  refine TC.factSlc 1 rfl (fun _ hc1 _ => ?_)
  have hil := rthsC_length S
  haveI : OffI (rthsC S) c1 (i + 1) 4 := ⟨S.length, by omega, by omega, hc1⟩
  refine TC.draw _ [19] [(0, false), (2, false), (3, false), (4, false), (5, false), (6, false), (7, false), (9, false), (10, false), (11, false), (12, false), (13, false), (14, false), (15, false), (1, true), (8, true), (16, true), (17, false), (18, false), (19, true)] (by kernel_rfl) (by kernel_rfl) (ent_take 0 rfl (ent_nil _)) ?_
  refine dq rfl rfl rfl (mv (v := .pointer _) rfl) ?_
  refine dq rfl rfl rfl (mv (v := .pointer _) rfl) ?_
  first | refine dq rfl rfl rfl (nc rfl) ?_ | refine dq rfl rfl rfl (ncF rfl) ?_ | refine dq rfl rfl rfl (ncS rfl (by first | assumption | (simp [ints_length] <;> omega))) ?_
  first | refine dq rfl rfl rfl (fa 0 rfl rfl) ?_ | refine dq rfl rfl rfl (faS 0 rfl rfl (by first | assumption | (simp [ints_length] <;> omega))) ?_
  first | refine dq rfl rfl rfl (ld rfl rfl rfl) ?_ | refine dq rfl rfl rfl (ldS rfl rfl rfl) ?_
  refine dq rfl rfl rfl (mv (v := .int _ _) rfl) ?_
  refine dq rfl rfl rfl (slTn 67 4 (i) rfl rfl rfl (by omega) (by omega)) ?_
  refine dq rfl rfl rfl (mv (v := .pointer _) rfl) ?_
  first | refine dq rfl rfl rfl (nc rfl) ?_ | refine dq rfl rfl rfl (ncF rfl) ?_ | refine dq rfl rfl rfl (ncS rfl (by first | assumption | (simp [ints_length] <;> omega))) ?_
  first | refine dq rfl rfl rfl (fa 0 rfl rfl) ?_ | refine dq rfl rfl rfl (faS 0 rfl rfl (by first | assumption | (simp [ints_length] <;> omega))) ?_
  first | refine dq rfl rfl rfl (ld rfl rfl rfl) ?_ | refine dq rfl rfl rfl (ldS rfl rfl rfl) ?_
  refine dq rfl rfl rfl (mv (v := .int _ _) rfl) ?_
  first | refine dq rfl rfl rfl (addI rfl rfl (by omega) (by omega)) ?_ | refine dq rfl rfl rfl (add rfl rfl rfl) ?_
  refine dq rfl rfl rfl (slFn 67 4 (i + 1) rfl rfl rfl (by omega) (by omega)) ?_
  refine de rfl rfl ?_
  refine bs (cs := []) rfl ?_
  intro b1
  refine ⟨(by repeat (first | exact ent_nil _ | refine ent_take 0 rfl ?_ | refine ent_take 1 rfl ?_ | refine ent_take 2 rfl ?_ | refine ent_take 3 rfl ?_ | refine ent_take 4 rfl ?_ | refine ent_take 5 rfl ?_ | refine ent_take 6 rfl ?_ | refine ent_take 7 rfl ?_)), ?_⟩
  refine de rfl rfl ?_
  refine ap 32 rfl rfl rfl rfl rfl (by omega) (rths_take S i) (rths_one _) (by omega) (by simp only [maxLen]; omega) ?_
  intro ad1 cap1
  refine ⟨(by repeat (first | exact ent_nil _ | refine ent_take 0 rfl ?_ | refine ent_take 1 rfl ?_ | refine ent_take 2 rfl ?_ | refine ent_take 3 rfl ?_ | refine ent_take 4 rfl ?_ | refine ent_take 5 rfl ?_ | refine ent_take 6 rfl ?_ | refine ent_take 7 rfl ?_)), ?_⟩
  refine de rfl rfl ?_
  refine ap 32 rfl rfl rfl rfl rfl (by rw [List.length_drop]; omega) (rths_drop S (i + 1)) (rths_one _) (by omega) (by simp only [maxLen]; omega) ?_
  intro ad2 cap2
  refine ⟨(by repeat (first | exact ent_nil _ | refine ent_take 0 rfl ?_ | refine ent_take 1 rfl ?_ | refine ent_take 2 rfl ?_ | refine ent_take 3 rfl ?_ | refine ent_take 4 rfl ?_ | refine ent_take 5 rfl ?_ | refine ent_take 6 rfl ?_ | refine ent_take 7 rfl ?_)), ?_⟩
  first | refine dq rfl rfl rfl (nc rfl) ?_ | refine dq rfl rfl rfl (ncF rfl) ?_ | refine dq rfl rfl rfl (ncS rfl (by first | assumption | (simp [ints_length] <;> omega))) ?_
  first | refine dq rfl rfl rfl (fa 0 rfl rfl) ?_ | refine dq rfl rfl rfl (faS 0 rfl rfl (by first | assumption | (simp [ints_length] <;> omega))) ?_
  refine dl0 rfl rfl rfl ?_
  refine st (v := .slice _ _ _) (vs := [_]) 1 rfl rfl rfl rfl rfl rfl (Nat.le_of_ble_eq_true rfl) rfl ?_
  refine TD.nil ?_
  exact Ret.n () [] trivial rfl trivial (ent_close ⟨ad2, cap2⟩ trivial (ent_takeE 0 rfl (by rw [cutS_len hi, show 0 + i + (S.length - (i + 1)) = S.length - 1 from by omega]; rfl) (ent_takeE 0 rfl (by rw [cutS_len hi, show 0 + i + (S.length - (i + 1)) = S.length - 1 from by omega, List.nil_append, rths_app]) (ent_take 1 rfl (ent_nil _)))))

theorem radd_ok (b : Nat) (S : List Th) (hl : S.length ≤ 1000000) (id pr sl : Int) : FSpec Try.prog 21 [.pointer (some ⟨b, 0, none⟩), .int .i64 id, .int .i64 pr, .int .i64 sl] noRd [isRq b S] (fun _ : Unit => .int .i64 (addS S id pr sl).2) (fun _ => True) (fun _ => [isRq b (addS S id pr sl).1]) := by
  refine FSpec.intro (rs := [.tmp 8]) (by kernel_rfl) Try.func21 rfl Try.ntmps21 (by rfl) rfl ?_
  intro F _
  change TC _ _ _ _ _ _ _ (sepL [_, _])
  refine TC.seq ?_
  refine TC.region ?_
  refine q rfl rfl (asg (v := .int _ _) rfl) ?_
  refine TL.nil (nt ?_)
  refine TC.seq ?_
  refine TC.seq ?_
  refine TC.region ?_
  refine q rfl rfl (mv (v := .int _ _) rfl) ?_
  refine q rfl rfl (mv (v := .int _ _) rfl) ?_
  refine q rfl rfl (mv (v := .int _ _) rfl) ?_
  refine e rfl ?_
  refine cl (may_ok id pr sl) rfl (picked_nil _) trivial ?_
  intro _ _
  change TL _ _ _ _ _ _ _ _ (sepL [_, _])
  by_cases hv : id < 0 ∨ pr < 0 ∨ 7 < pr ∨ sl < 1 ∨ 16 < sl
  · rw [decide_eq_false (not_not_intro hv)]
    have hr : addS S id pr sl = (S, 1) := by rw [addS, if_pos hv]
    rw [hr]
    dsimp only
    first | refine q rfl rfl (notD rfl) ?_ | refine q rfl rfl (notB rfl) ?_
    refine TL.nil (nt ?_)
    refine TC.condT rfl ?_
    refine TC.seq ?_
    refine TC.region ?_
    refine q rfl rfl (asg (v := .int _ _) rfl) ?_
    refine TL.nil (nt ?_)
    refine TC.ret (rt ?_)
    exact Ret.i () [_] ⟨rfl, trivial⟩ rfl trivial (ent_take 0 rfl (ent_take 0 rfl (ent_nil _)))
  · rw [decide_eq_true hv]
    first | refine q rfl rfl (notD rfl) ?_ | refine q rfl rfl (notB rfl) ?_
    refine TL.nil (nt ?_)
    refine TC.condF rfl ?_
    refine TC.skip (nt ?_)
    refine TC.seq ?_
    refine TC.seq ?_
    refine TC.region ?_
    refine q rfl rfl (mv (v := .pointer _) rfl) ?_
    refine q rfl rfl (mv (v := .int _ _) rfl) ?_
    refine e rfl ?_
    refine cl (rat_ok b S hl id) rfl (picked_nil _) (ent_one 0 rfl) ?_
    intro _ _
    change TL _ _ _ _ _ _ _ _ (sepL [_, _])
    by_cases hy : hasS S id
    · obtain ⟨i, x, h1, h2, h3⟩ := atS_yes hy
      rw [h1]
      have hr : addS S id pr sl = (S, 7) := by rw [addS, if_neg hv, if_pos hy]
      rw [hr]
      dsimp only
      refine q rfl rfl (geq rfl rfl) ?_
      refine TL.nil (nt ?_)
      refine TC.condD rfl (fun hc1 => ?_) (fun hc1 => absurd (by omega) hc1)
      refine TC.seq ?_
      refine TC.region ?_
      refine q rfl rfl (asg (v := .int _ _) rfl) ?_
      refine TL.nil (nt ?_)
      refine TC.ret (rt ?_)
      exact Ret.i () [_] ⟨rfl, trivial⟩ rfl trivial (ent_take 0 rfl (ent_take 0 rfl (ent_nil _)))
    · rw [atS_no hy]
      have hr : addS S id pr sl = (S ++ [⟨id, pr, sl, sl⟩], 0) := by rw [addS, if_neg hv, if_neg hy]
      rw [hr]
      dsimp only
      refine q rfl rfl (geq rfl rfl) ?_
      refine TL.nil (nt ?_)
      refine TC.condD rfl (fun hc2 => absurd hc2 (by decide)) (fun hc2 => ?_)
      refine TC.open 0 rfl (fun x0 hx0 => ?_)
      obtain ⟨a1, c1⟩ := x0
      clear hx0
      change TC _ _ _ _ _ _ _ (sepL [_, _, _])
      dsimp only
      have hil := rthsC_length S
      refine TC.skip (nt ?_)
      refine TC.seq ?_
      refine TC.region ?_
      refine q rfl rfl (mv (v := .pointer _) rfl) ?_
      refine e rfl ?_
      refine bs (cs := []) rfl ?_
      intro b2
      refine q rfl rfl (mv (v := .pointer _) rfl) ?_
      first | refine q rfl rfl (nc rfl) ?_ | refine q rfl rfl (ncF rfl) ?_ | refine q rfl rfl (ncS rfl (by first | assumption | (simp [ints_length] <;> omega))) ?_
      first | refine q rfl rfl (fa 0 rfl rfl) ?_ | refine q rfl rfl (faS 0 rfl rfl (by first | assumption | (simp [ints_length] <;> omega))) ?_
      first | refine q rfl rfl (ld rfl rfl rfl) ?_ | refine q rfl rfl (ldS rfl rfl rfl) ?_
      refine e rfl ?_
      refine ap 32 rfl rfl rfl rfl rfl (by omega) (rths_all S) (rths_one _) (by omega) (by simp only [maxLen]; omega) ?_
      intro ad3 cap3
      refine q rfl rfl (mv (v := .int _ _) rfl) ?_
      refine q rfl rfl (mv (v := .int _ _) rfl) ?_
      refine q rfl rfl (mv (v := .int _ _) rfl) ?_
      refine q rfl rfl (mv (v := .int _ _) rfl) ?_
      first | refine q rfl rfl (bld (cs := ints [_, _, _, _]) rfl) ?_ | refine q rfl rfl (bld (cs := [_, _, _, _]) rfl) ?_
      refine e rfl ?_
      refine bs (cs := ints [_, _, _, _]) rfl ?_
      intro b3
      refine e rfl ?_
      refine ap 32 rfl rfl rfl rfl rfl (Nat.le_of_ble_eq_true rfl) (show _ = rthsC [⟨id, pr, sl, sl⟩] from rfl) rfl (by omega) (by simp only [maxLen]; omega) ?_
      intro ad4 cap4
      first | refine q rfl rfl (nc rfl) ?_ | refine q rfl rfl (ncF rfl) ?_ | refine q rfl rfl (ncS rfl (by first | assumption | (simp [ints_length] <;> omega))) ?_
      first | refine q rfl rfl (fa 0 rfl rfl) ?_ | refine q rfl rfl (faS 0 rfl rfl (by first | assumption | (simp [ints_length] <;> omega))) ?_
      refine e0 ?_
      refine st (v := .slice _ _ _) (vs := [_]) 1 rfl rfl rfl rfl rfl rfl (Nat.le_of_ble_eq_true rfl) rfl ?_
      refine TL.nil (nt ?_)
      refine TC.seq ?_
      refine TC.region ?_
      refine q rfl rfl (asg (v := .int _ _) rfl) ?_
      refine TL.nil (nt ?_)
      refine TC.ret ?_
      exact Ret.i () [_] ⟨rfl, trivial⟩ rfl trivial (ent_close ⟨ad4, cap4⟩ trivial (ent_takeE 0 rfl (by simp only [List.length_append, Nat.zero_add, List.length_singleton]; rfl) (ent_takeE 0 rfl (by simp only [List.length_append, Nat.zero_add, List.length_singleton, List.nil_append, rths_app]) (ent_take 2 rfl (ent_nil _)))))

theorem rdrop_ok (b : Nat) (S : List Th) (hl : S.length ≤ 1000000) (a2 : Option Addr) (c2 : Nat) (xs : List Int) (hx : xs.length ≤ 1000000) (hn : NdS S) : FSpec Try.prog 22 [.pointer (some ⟨b, 0, none⟩), .slice a2 xs.length c2] (fun F => ∃ E, RdS F E a2 (ints xs)) [isRq b S] (fun _ : Unit => .int .i64 ((S.length : Int) - (dropS S xs).length)) (fun _ => True) (fun _ => [isRq b (dropS S xs)]) := by
  refine FSpec.intro (rs := [.tmp 4]) (by kernel_rfl) Try.func22 rfl Try.ntmps22 (by rfl) rfl ?_
  intro F ⟨E, hF⟩
  change TC _ _ _ _ _ _ _ (sepL [_, _])
  haveI : RdSI F a2 E (ints xs) := ⟨hF⟩
  have hxl := ints_length xs
  refine TC.seq ?_
  refine TC.region ?_
  refine q rfl rfl (asg (v := .int _ _) rfl) ?_
  refine TL.nil (nt ?_)
  refine TC.seq ?_
  refine TC.region ?_
  refine q rfl rfl (asg (v := .int _ _) rfl) ?_
  refine TL.nil (nt ?_)
  refine TC.seq ?_
  refine TC.seq ?_
  refine TC.region ?_
  refine q rfl rfl (asg (v := .int _ _) rfl) ?_
  refine TL.nil (nt ?_)
  refine TC.block ?_
  refine TC.loop (ι := Nat × List Th) (fun s => s.1 ≤ xs.length ∧ s.2 = dropS S (xs.take s.1) ∧ NdS s.2) (fun s => [(0, .pointer (some ⟨b, 0, none⟩)), (1, .slice a2 xs.length c2), (5, .int .i64 ((S.length : Int) - (s.2.length : Int))), (6, .int .i64 ((s.1 : Nat) : Int))]) (fun s => sepL [isRq b s.2, F]) (fun s => xs.length - s.1) ⟨0, S⟩ ⟨Nat.zero_le _, rfl, hn⟩ ⟨rfl, rfl, congrArg (Value.int .i64) (Int.sub_self _).symm, rfl, trivial⟩ (ent_take 0 rfl (ent_take 0 rfl (ent_nil _))) ?_
  rintro ⟨k, Z⟩ ⟨hk, hZ, hnZ⟩ ρ0
  dsimp only [updL] at hk hZ hnZ ⊢
  refine TC.seq ?_
  refine TC.seq ?_
  refine TC.region ?_
  refine q rfl rfl (mv (v := .int _ _) rfl) ?_
  refine q rfl rfl (mv (v := .slice _ _ _) rfl) ?_
  refine q rfl rfl (len 3 1 rfl rfl) ?_
  refine q rfl rfl (lss rfl rfl) ?_
  refine TL.nil (nt ?_)
  first | refine TC.condD rfl (fun hlt => ?_) (fun hlt => ?_) | refine TC.cond rfl (fun hlt => ?_) (fun hlt => ?_)
  · have hkx : k < xs.length := by omega
    obtain ⟨x, hxk⟩ : ∃ x, xs[k]? = some x := ⟨xs[k], List.getElem?_eq_getElem hkx⟩
    have hpos : 0 < (ints xs).length := by omega
    have htk : dropS S (xs.take (k + 1)) = offS Z x := by rw [List.take_add_one, hxk, Option.toList, dropS_snoc, hZ]
    have hZl : Z.length ≤ S.length := by rw [hZ]; exact (dropS_sub S _).length_le
    refine TC.skip (nt ?_)
    refine TC.seq ?_
    refine TC.block ?_
    refine TC.seq ?_
    refine TC.region ?_
    refine q rfl rfl (mv (v := .pointer _) rfl) ?_
    refine q rfl rfl (mv (v := .slice _ _ _) rfl) ?_
    refine q rfl rfl (mv (v := .int _ _) rfl) ?_
    first | refine q rfl rfl (ixS 3 1 rfl rfl rfl (by omega) (by first | assumption | (simp [ints_length] <;> omega))) ?_ | refine q rfl rfl (ixJ 3 1 rfl rfl rfl (by omega) (by omega) (by first | assumption | (simp [ints_length] <;> omega))) ?_ | refine q rfl rfl (ix 3 1 rfl rfl rfl (by omega) (by omega) rfl) ?_
    first | refine q rfl rfl (ld rfl rfl rfl) ?_ | refine q rfl rfl (ldS rfl rfl (ints_get hxk)) ?_ | refine q rfl rfl (ldS rfl rfl rfl) ?_
    refine e rfl ?_
    refine cl (rat_ok b Z (by omega) x) rfl (picked_nil _) (ent_one 0 rfl) ?_
    intro _ _
    change TL _ _ _ _ _ _ _ _ (sepL [_, _])
    by_cases hy : hasS Z x
    · obtain ⟨i, u, h1, h2, h3⟩ := atS_yes hy
      rw [h1]
      have hil := (List.getElem?_eq_some_iff.1 h2).1
      have hco := cutS_off hnZ h2
      rw [h3] at hco
      have hol := offS_len hnZ hy
      refine q rfl rfl (asg (v := .int _ _) rfl) ?_
      refine TL.nil (nt ?_)
      refine TC.seq ?_
      refine TC.region ?_
      refine q rfl rfl (mv (v := .int _ _) rfl) ?_
      refine q rfl rfl (geq rfl rfl) ?_
      refine TL.nil (nt ?_)
      refine TC.condD rfl (fun hc3 => ?_) (fun hc3 => absurd (by omega) hc3)
      refine TC.seq ?_
      refine TC.region ?_
      refine q rfl rfl (mv (v := .pointer _) rfl) ?_
      refine q rfl rfl (mv (v := .int _ _) rfl) ?_
      refine e rfl ?_
      refine cl (rcut_ok b Z (by omega) i hil) rfl (picked_cons 0 rfl (picked_nil _)) trivial ?_
      intro _ _
      change TL _ _ _ _ _ _ _ _ (sepL [_, _])
      rw [hco]
      refine TL.nil (nt ?_)
      refine TC.region ?_
      refine q rfl rfl (mv (v := .int _ _) rfl) ?_
      first | refine q rfl rfl (addI rfl rfl (by omega) (by omega)) ?_ | refine q rfl rfl (add rfl rfl rfl) ?_
      refine q rfl rfl (asg (v := .int _ _) rfl) ?_
      refine TL.nil (nb (nt ?_))
      refine TC.region ?_
      refine q rfl rfl (mv (v := .int _ _) rfl) ?_
      first | refine q rfl rfl (addI rfl rfl (by omega) (by omega)) ?_ | refine q rfl rfl (add rfl rfl rfl) ?_
      refine q rfl rfl (asg (v := .int _ _) rfl) ?_
      refine TL.nil (nt ?_)
      exact ⟨rfl, ⟨k + 1, offS Z x⟩, ⟨by dsimp only; omega, htk.symm, hnZ.sublist (List.filter_sublist.map _)⟩, (by dsimp only; omega), ⟨rfl, rfl, congrArg (Value.int .i64) (by dsimp only; omega), rfl, trivial⟩, (ent_take 0 rfl (ent_take 0 rfl (ent_nil _)))⟩
    · rw [atS_no hy]
      have hon := offS_none hy
      refine q rfl rfl (asg (v := .int _ _) rfl) ?_
      refine TL.nil (nt ?_)
      refine TC.seq ?_
      refine TC.region ?_
      refine q rfl rfl (mv (v := .int _ _) rfl) ?_
      refine q rfl rfl (geq rfl rfl) ?_
      refine TL.nil (nt ?_)
      refine TC.condD rfl (fun hc4 => absurd hc4 (by decide)) (fun hc4 => ?_)
      refine TC.skip (nb (nt ?_))
      refine TC.region ?_
      refine q rfl rfl (mv (v := .int _ _) rfl) ?_
      first | refine q rfl rfl (addI rfl rfl (by omega) (by omega)) ?_ | refine q rfl rfl (add rfl rfl rfl) ?_
      refine q rfl rfl (asg (v := .int _ _) rfl) ?_
      refine TL.nil (nt ?_)
      exact ⟨rfl, ⟨k + 1, Z⟩, ⟨by dsimp only; omega, by dsimp only; rw [htk, hon], hnZ⟩, (by dsimp only; omega), ⟨rfl, rfl, rfl, rfl, trivial⟩, (ent_take 0 rfl (ent_take 0 rfl (ent_nil _)))⟩
  · obtain rfl : k = xs.length := by omega
    rw [List.take_length] at hZ
    subst hZ
    refine TC.exit (et (et (eb (nt ?_))))
    refine TC.seq ?_
    refine TC.region ?_
    refine q rfl rfl (mv (v := .int _ _) rfl) ?_
    refine q rfl rfl (asg (v := .int _ _) rfl) ?_
    refine TL.nil (nt ?_)
    refine TC.ret ?_
    exact Ret.i () [_] ⟨rfl, trivial⟩ rfl trivial (ent_take 0 rfl (ent_take 0 rfl (ent_nil _)))

theorem rhead_ok (b : Nat) (S : List Th) (hl : S.length ≤ 1000000) : FSpec Try.prog 41 [.pointer (some ⟨b, 0, none⟩)] (fun F => ent F (isRq b S)) [] (fun y : Int => .int .i64 y) (fun y => (topS S = none ∧ y = -1) ∨ ∃ (i : Nat) (t : Th), y = i ∧ S[i]? = some t ∧ topS S = some t) (fun _ => []) := by
  refine FSpec.intro (rs := [.tmp 2]) (by kernel_rfl) Try.func41 rfl Try.ntmps41 (by rfl) rfl ?_
  intro F hF
  change TC _ _ _ _ _ _ _ (sepL [_])
  refine TC.openR hF (fun x0 hx0 => ?_)
  obtain ⟨a1, c1⟩ := x0
  clear hx0
  dsimp only
  have hil := rthsC_length S
  refine TC.seq ?_
  refine TC.region ?_
  refine q rfl rfl (asg (v := .int _ _) rfl) ?_
  refine TL.nil (nt ?_)
  refine TC.seq ?_
  refine TC.region ?_
  refine q rfl rfl (asg (v := .int _ _) rfl) ?_
  refine TL.nil (nt ?_)
  refine TC.seq ?_
  refine TC.seq ?_
  refine TC.region ?_
  refine q rfl rfl (asg (v := .int _ _) rfl) ?_
  refine TL.nil (nt ?_)
  refine TC.block ?_
  refine TC.loop (ι := Nat × Int) (fun s => s.1 ≤ S.length ∧ BestI S s.1 s.2) (fun s => [(0, .pointer (some ⟨b, 0, none⟩)), (3, .int .i64 s.2), (4, .int .i64 ((s.1 : Nat) : Int))]) (fun s => sepL [restr F (sepL [pts b 36 [.slice a1 S.length c1], slc 67 4 a1 S.length c1 (rthsC S)])]) (fun s => S.length - s.1) ⟨0, -1⟩ ⟨Nat.zero_le _, .inl ⟨rfl, rfl⟩⟩ ⟨rfl, rfl, rfl, trivial⟩ (ent_take 0 rfl (ent_nil _)) ?_
  rintro ⟨k, w⟩ ⟨hk, hB⟩ ρ0
  dsimp only [updL] at hk hB ⊢
  refine TC.seq ?_
  refine TC.seq ?_
  refine TC.region ?_
  refine q rfl rfl (mv (v := .int _ _) rfl) ?_
  refine q rfl rfl (mv (v := .pointer _) rfl) ?_
  first | refine q rfl rfl (nc rfl) ?_ | refine q rfl rfl (ncF rfl) ?_ | refine q rfl rfl (ncS rfl (by first | assumption | (simp [ints_length] <;> omega))) ?_
  first | refine q rfl rfl (fa 0 rfl rfl) ?_ | refine q rfl rfl (faS 0 rfl rfl (by first | assumption | (simp [ints_length] <;> omega))) ?_
  first | refine q rfl rfl (ld rfl rfl rfl) ?_ | refine q rfl rfl (ldS rfl rfl rfl) ?_
  refine q rfl rfl (len 67 4 rfl rfl) ?_
  refine q rfl rfl (lss rfl rfl) ?_
  refine TL.nil (nt ?_)
  first | refine TC.condD rfl (fun hlt => ?_) (fun hlt => ?_) | refine TC.cond rfl (fun hlt => ?_) (fun hlt => ?_)
  · have hlt2 : k < S.length := by omega
    obtain ⟨x, hx⟩ : ∃ x, S[k]? = some x := ⟨S[k], List.getElem?_eq_getElem hlt2⟩
    have hpos : 0 < (rthsC S).length := by omega
    have hB2 := hB.next hx
    refine TC.skip (nt ?_)
    refine TC.seq ?_
    refine TC.block ?_
    refine TC.seq ?_
    refine TC.draw _ [] [(0, false), (1, false), (2, false), (3, false), (4, false), (5, false), (6, false), (7, false), (8, false), (9, false), (10, false), (11, false), (12, false), (13, false), (14, false), (15, false), (16, false), (17, false), (18, false), (19, false), (20, false)] (by kernel_rfl) (by kernel_rfl) (ent.refl _) ?_
    refine dq rfl rfl rfl (mv (v := .int _ _) rfl) ?_
    refine dq rfl rfl rfl (lss rfl rfl) ?_
    refine dq rfl rfl rfl (mv (v := .bool _) rfl) ?_
    refine TD.split 16 rfl (fun h0 => ?_) (fun h0 => ?_)
    · have h0 := of_decide_eq_true h0
      rw [if_pos h0] at hB2
      refine dk rfl rfl rfl rfl ?_
      refine dk rfl rfl rfl rfl ?_
      refine dk rfl rfl rfl rfl ?_
      refine dk rfl rfl rfl rfl ?_
      refine dk rfl rfl rfl rfl ?_
      refine dk rfl rfl rfl rfl ?_
      refine dk rfl rfl rfl rfl ?_
      refine dk rfl rfl rfl rfl ?_
      refine dk rfl rfl rfl rfl ?_
      refine dk rfl rfl rfl rfl ?_
      refine dk rfl rfl rfl rfl ?_
      refine dk rfl rfl rfl rfl ?_
      refine dk rfl rfl rfl rfl ?_
      refine dk rfl rfl rfl rfl ?_
      refine dk rfl rfl rfl rfl ?_
      refine dk rfl rfl rfl rfl ?_
      refine dk rfl rfl rfl rfl ?_
      first | refine dq rfl rfl rfl (pkT rfl rfl) ?_ | refine dq rfl rfl rfl (pkF rfl rfl) ?_
      refine TD.nil (nt ?_)
      refine TC.condT rfl ?_
      refine TC.region ?_
      refine q rfl rfl (mv (v := .int _ _) rfl) ?_
      refine q rfl rfl (asg (v := .int _ _) rfl) ?_
      refine TL.nil (nb (nt ?_))
      refine TC.region ?_
      refine q rfl rfl (mv (v := .int _ _) rfl) ?_
      first | refine q rfl rfl (addI rfl rfl (by omega) (by omega)) ?_ | refine q rfl rfl (add rfl rfl rfl) ?_
      refine q rfl rfl (asg (v := .int _ _) rfl) ?_
      refine TL.nil (nt ?_)
      exact ⟨rfl, ⟨k + 1, k⟩, ⟨by dsimp only; omega, hB2⟩, (by dsimp only; omega), ⟨rfl, rfl, rfl, trivial⟩, (ent_take 0 rfl (ent_nil _))⟩
    · have h0 := of_decide_eq_false h0
      rcases hB with ⟨_, e1⟩ | ⟨i, t, e1, hik, hit, _⟩
      · exact absurd (by omega) h0
      subst e1
      rw [if_neg h0, Int.toNat_natCast, hit] at hB2
      dsimp only at hB2
      refine dg rfl rfl rfl rfl (mv (v := .pointer _) rfl) ?_
      first | refine dg rfl rfl rfl rfl (nc rfl) ?_ | refine dg rfl rfl rfl rfl (ncF rfl) ?_ | refine dg rfl rfl rfl rfl (ncS rfl (by first | assumption | (simp [ints_length] <;> omega))) ?_
      first | refine dg rfl rfl rfl rfl (fa 0 rfl rfl) ?_ | refine dg rfl rfl rfl rfl (faS 0 rfl rfl (by first | assumption | (simp [ints_length] <;> omega))) ?_
      first | refine dg rfl rfl rfl rfl (ld rfl rfl rfl) ?_ | refine dg rfl rfl rfl rfl (ldS rfl rfl (flat_ld rthC_sz hx 1 (by omega) rfl)) ?_ | refine dg rfl rfl rfl rfl (ldS rfl rfl (flat_ld rthC_sz hit 1 (by omega) rfl)) ?_ | refine dg rfl rfl rfl rfl (ldS rfl rfl rfl) ?_
      refine dg rfl rfl rfl rfl (mv (v := .int _ _) rfl) ?_
      first | refine dg rfl rfl rfl rfl (ixS 67 4 rfl rfl rfl (by omega) (by first | assumption | (simp [ints_length] <;> omega))) ?_ | refine dg rfl rfl rfl rfl (ixJ 67 4 rfl rfl rfl (by omega) (by omega) (by first | assumption | (simp [ints_length] <;> omega))) ?_ | refine dg rfl rfl rfl rfl (ix 67 4 rfl rfl rfl (by omega) (by omega) rfl) ?_
      first | refine dg rfl rfl rfl rfl (fa 1 rfl rfl) ?_ | refine dg rfl rfl rfl rfl (faS 1 rfl rfl (by first | assumption | (simp [ints_length] <;> omega))) ?_
      first | refine dg rfl rfl rfl rfl (ld rfl rfl rfl) ?_ | refine dg rfl rfl rfl rfl (ldS rfl rfl (flat_ld rthC_sz hx 1 (by omega) rfl)) ?_ | refine dg rfl rfl rfl rfl (ldS rfl rfl (flat_ld rthC_sz hit 1 (by omega) rfl)) ?_ | refine dg rfl rfl rfl rfl (ldS rfl rfl rfl) ?_
      refine dg rfl rfl rfl rfl (mv (v := .pointer _) rfl) ?_
      first | refine dg rfl rfl rfl rfl (nc rfl) ?_ | refine dg rfl rfl rfl rfl (ncF rfl) ?_ | refine dg rfl rfl rfl rfl (ncS rfl (by first | assumption | (simp [ints_length] <;> omega))) ?_
      first | refine dg rfl rfl rfl rfl (fa 0 rfl rfl) ?_ | refine dg rfl rfl rfl rfl (faS 0 rfl rfl (by first | assumption | (simp [ints_length] <;> omega))) ?_
      first | refine dg rfl rfl rfl rfl (ld rfl rfl rfl) ?_ | refine dg rfl rfl rfl rfl (ldS rfl rfl (flat_ld rthC_sz hx 1 (by omega) rfl)) ?_ | refine dg rfl rfl rfl rfl (ldS rfl rfl (flat_ld rthC_sz hit 1 (by omega) rfl)) ?_ | refine dg rfl rfl rfl rfl (ldS rfl rfl rfl) ?_
      refine dg rfl rfl rfl rfl (mv (v := .int _ _) rfl) ?_
      first | refine dg rfl rfl rfl rfl (ixS 67 4 rfl rfl rfl (by omega) (by first | assumption | (simp [ints_length] <;> omega))) ?_ | refine dg rfl rfl rfl rfl (ixJ 67 4 rfl rfl rfl (by omega) (by omega) (by first | assumption | (simp [ints_length] <;> omega))) ?_ | refine dg rfl rfl rfl rfl (ix 67 4 rfl rfl rfl (by omega) (by omega) rfl) ?_
      first | refine dg rfl rfl rfl rfl (fa 1 rfl rfl) ?_ | refine dg rfl rfl rfl rfl (faS 1 rfl rfl (by first | assumption | (simp [ints_length] <;> omega))) ?_
      first | refine dg rfl rfl rfl rfl (ld rfl rfl rfl) ?_ | refine dg rfl rfl rfl rfl (ldS rfl rfl (flat_ld rthC_sz hx 1 (by omega) rfl)) ?_ | refine dg rfl rfl rfl rfl (ldS rfl rfl (flat_ld rthC_sz hit 1 (by omega) rfl)) ?_ | refine dg rfl rfl rfl rfl (ldS rfl rfl rfl) ?_
      refine dg rfl rfl rfl rfl (gtr rfl rfl) ?_
      first | refine dq rfl rfl rfl (pkT rfl rfl) ?_ | refine dq rfl rfl rfl (pkF rfl rfl) ?_
      refine TD.nil (nt ?_)
      first | refine TC.condD rfl (fun hg => ?_) (fun hg => ?_) | refine TC.cond rfl (fun hg => ?_) (fun hg => ?_)
      · rw [if_pos hg] at hB2
        refine TC.region ?_
        refine q rfl rfl (mv (v := .int _ _) rfl) ?_
        refine q rfl rfl (asg (v := .int _ _) rfl) ?_
        refine TL.nil (nb (nt ?_))
        refine TC.region ?_
        refine q rfl rfl (mv (v := .int _ _) rfl) ?_
        first | refine q rfl rfl (addI rfl rfl (by omega) (by omega)) ?_ | refine q rfl rfl (add rfl rfl rfl) ?_
        refine q rfl rfl (asg (v := .int _ _) rfl) ?_
        refine TL.nil (nt ?_)
        exact ⟨rfl, ⟨k + 1, k⟩, ⟨by dsimp only; omega, hB2⟩, (by dsimp only; omega), ⟨rfl, rfl, rfl, trivial⟩, (ent_take 0 rfl (ent_nil _))⟩
      · rw [if_neg hg] at hB2
        refine TC.skip (nb (nt ?_))
        refine TC.region ?_
        refine q rfl rfl (mv (v := .int _ _) rfl) ?_
        first | refine q rfl rfl (addI rfl rfl (by omega) (by omega)) ?_ | refine q rfl rfl (add rfl rfl rfl) ?_
        refine q rfl rfl (asg (v := .int _ _) rfl) ?_
        refine TL.nil (nt ?_)
        exact ⟨rfl, ⟨k + 1, i⟩, ⟨by dsimp only; omega, hB2⟩, (by dsimp only; omega), ⟨rfl, rfl, rfl, trivial⟩, (ent_take 0 rfl (ent_nil _))⟩
  · obtain rfl : k = S.length := by omega
    refine TC.exit (et (et (eb (nt ?_))))
    refine TC.seq ?_
    refine TC.region ?_
    refine q rfl rfl (mv (v := .int _ _) rfl) ?_
    refine q rfl rfl (asg (v := .int _ _) rfl) ?_
    refine TL.nil (nt ?_)
    refine TC.ret ?_
    exact Ret.i w [_] ⟨rfl, trivial⟩ rfl hB.top (ent_takeF 0 rfl (ent_nil _))

theorem rrun_ok (b : Nat) (S : List Th) (hl : S.length ≤ 1000000) : FSpec Try.prog 26 [.pointer (some ⟨b, 0, none⟩)] (fun F => ent F (isRq b S)) [] (fun _ : Unit => .int .i64 (runS S)) (fun _ => True) (fun _ => []) := by
  refine FSpec.intro (rs := [.tmp 2]) (by kernel_rfl) Try.func26 rfl Try.ntmps26 (by rfl) rfl ?_
  intro F hF
  change TC _ _ _ _ _ _ _ (sepL [_])
  refine TC.seq ?_
  refine TC.region ?_
  refine q rfl rfl (asg (v := .int _ _) rfl) ?_
  refine TL.nil (nt ?_)
  refine TC.seq ?_
  refine TC.region ?_
  refine q rfl rfl (mv (v := .pointer _) rfl) ?_
  refine e rfl ?_
  refine cl (rhead_ok b S hl) rfl (picked_nil _) ((ent_one 0 rfl).trans hF) ?_
  intro y hy
  change TL _ _ _ _ _ _ _ _ (sepL [_])
  rcases hy with ⟨ht, rfl⟩ | ⟨i, t, rfl, hit, ht⟩
  · have hr : runS S = -1 := by rw [runS, ht]
    rw [hr]
    refine q rfl rfl (asg (v := .int _ _) rfl) ?_
    refine TL.nil (nt ?_)
    refine TC.seq ?_
    refine TC.seq ?_
    refine TC.region ?_
    refine q rfl rfl (mv (v := .int _ _) rfl) ?_
    refine q rfl rfl (lss rfl rfl) ?_
    refine TL.nil (nt ?_)
    refine TC.condD rfl (fun hc5 => ?_) (fun hc5 => absurd (by decide) hc5)
    refine TC.seq ?_
    refine TC.region ?_
    refine q rfl rfl (asg (v := .int _ _) rfl) ?_
    refine TL.nil (nt ?_)
    refine TC.ret (rt ?_)
    exact Ret.i () [_] ⟨rfl, trivial⟩ rfl trivial (ent_take 0 rfl (ent_nil _))
  · have hr : runS S = t.id := by rw [runS, ht]
    rw [hr]
    have hil2 := (List.getElem?_eq_some_iff.1 hit).1
    refine q rfl rfl (asg (v := .int _ _) rfl) ?_
    refine TL.nil (nt ?_)
    refine TC.seq ?_
    refine TC.seq ?_
    refine TC.region ?_
    refine q rfl rfl (mv (v := .int _ _) rfl) ?_
    refine q rfl rfl (lss rfl rfl) ?_
    refine TL.nil (nt ?_)
    refine TC.condD rfl (fun hc6 => absurd hc6 (by omega)) (fun hc6 => ?_)
    refine TC.skip (nt ?_)
    refine TC.seq ?_
    refine TC.openR hF (fun x0 hx0 => ?_)
    obtain ⟨a1, c1⟩ := x0
    clear hx0
    dsimp only
    have hil := rthsC_length S
    have hpos : 0 < (rthsC S).length := by omega
    refine TC.region ?_
    refine q rfl rfl (mv (v := .pointer _) rfl) ?_
    first | refine q rfl rfl (nc rfl) ?_ | refine q rfl rfl (ncF rfl) ?_ | refine q rfl rfl (ncS rfl (by first | assumption | (simp [ints_length] <;> omega))) ?_
    first | refine q rfl rfl (fa 0 rfl rfl) ?_ | refine q rfl rfl (faS 0 rfl rfl (by first | assumption | (simp [ints_length] <;> omega))) ?_
    first | refine q rfl rfl (ld rfl rfl rfl) ?_ | refine q rfl rfl (ldS rfl rfl (flat_ld rthC_sz hit 0 (by omega) rfl)) ?_ | refine q rfl rfl (ldS rfl rfl rfl) ?_
    refine q rfl rfl (mv (v := .int _ _) rfl) ?_
    first | refine q rfl rfl (ixS 67 4 rfl rfl rfl (by omega) (by first | assumption | (simp [ints_length] <;> omega))) ?_ | refine q rfl rfl (ixJ 67 4 rfl rfl rfl (by omega) (by omega) (by first | assumption | (simp [ints_length] <;> omega))) ?_ | refine q rfl rfl (ix 67 4 rfl rfl rfl (by omega) (by omega) rfl) ?_
    first | refine q rfl rfl (fa 0 rfl rfl) ?_ | refine q rfl rfl (faS 0 rfl rfl (by first | assumption | (simp [ints_length] <;> omega))) ?_
    first | refine q rfl rfl (ld rfl rfl rfl) ?_ | refine q rfl rfl (ldS rfl rfl (flat_ld rthC_sz hit 0 (by omega) rfl)) ?_ | refine q rfl rfl (ldS rfl rfl rfl) ?_
    refine q rfl rfl (asg (v := .int _ _) rfl) ?_
    refine TL.nil (nt ?_)
    refine TC.ret ?_
    exact Ret.i () [_] ⟨rfl, trivial⟩ rfl trivial (ent_takeF 0 rfl (ent_nil _))

theorem rround_ok (b : Nat) (S : List Th) (hl : S.length ≤ 1000000) (hn : NdS S) (i : Nat) (t : Th) (hit : S[i]? = some t) : FSpec Try.prog 42 [.pointer (some ⟨b, 0, none⟩), .int .i64 (i : Int)] noRd [isRq b S] (fun _ : Unit => .tuple #[]) (fun _ => True) (fun _ => [isRq b (rndS S t)]) := by
  refine FSpec.intro (rs := []) (by kernel_rfl) Try.func42 rfl Try.ntmps42 (by rfl) rfl ?_
  intro F _
  change TC _ _ _ _ _ _ _ (sepL [_, _])
  have hil2 := (List.getElem?_eq_some_iff.1 hit).1
  have hco := cutS_off hn hit
  refine TC.open 0 rfl (fun x0 hx0 => ?_)
  obtain ⟨a1, c1⟩ := x0
  clear hx0
  change TC _ _ _ _ _ _ _ (sepL [_, _, _])
  dsimp only
  have hil := rthsC_length S
  have hpos : 0 < (rthsC S).length := by omega
  refine TC.seq ?_
  refine TC.region ?_
  refine q rfl rfl (mv (v := .pointer _) rfl) ?_
  first | refine q rfl rfl (nc rfl) ?_ | refine q rfl rfl (ncF rfl) ?_ | refine q rfl rfl (ncS rfl (by first | assumption | (simp [ints_length] <;> omega))) ?_
  first | refine q rfl rfl (fa 0 rfl rfl) ?_ | refine q rfl rfl (faS 0 rfl rfl (by first | assumption | (simp [ints_length] <;> omega))) ?_
  first | refine q rfl rfl (ld rfl rfl rfl) ?_ | refine q rfl rfl (ldS rfl rfl (flat_get_rec rthC_sz hit)) ?_ | refine q rfl rfl (ldS rfl rfl rfl) ?_
  refine q rfl rfl (mv (v := .int _ _) rfl) ?_
  first | refine q rfl rfl (ixS 67 4 rfl rfl rfl (by omega) (by first | assumption | (simp [ints_length] <;> omega))) ?_ | refine q rfl rfl (ixJ 67 4 rfl rfl rfl (by omega) (by omega) (by first | assumption | (simp [ints_length] <;> omega))) ?_ | refine q rfl rfl (ix 67 4 rfl rfl rfl (by omega) (by omega) rfl) ?_
  first | refine q rfl rfl (ldN (vs := ints [_, _, _, _]) 4 rfl rfl rfl rfl) ?_ | refine q rfl rfl (ldSN (vs := ints [_, _, _, _]) 4 rfl rfl (flat_get_rec rthC_sz hit) rfl (by decide)) ?_ | refine q rfl rfl (ldSN (vs := ints [_, _, _, _]) 4 rfl rfl rfl rfl (by decide)) ?_
  refine e rfl ?_
  refine al (l := ints [_, _, _, _]) rfl rfl ?_
  intro b4
  refine e0 ?_
  refine st (v := .agg (List.toArray (ints [_, _, _, _]))) (vs := ints [_, _, _, _]) 4 rfl rfl rfl rfl rfl rfl (Nat.le_of_ble_eq_true rfl) rfl ?_
  refine TL.nil (nt ?_)
  refine TC.seq ?_
  refine TC.region ?_
  first | refine q rfl rfl (fa 2 rfl rfl) ?_ | refine q rfl rfl (faS 2 rfl rfl (by first | assumption | (simp [ints_length] <;> omega))) ?_
  first | refine q rfl rfl (ld rfl rfl rfl) ?_ | refine q rfl rfl (ldS rfl rfl (flat_get_rec rthC_sz hit)) ?_ | refine q rfl rfl (ldS rfl rfl rfl) ?_
  first | refine q rfl rfl (fa 3 rfl rfl) ?_ | refine q rfl rfl (faS 3 rfl rfl (by first | assumption | (simp [ints_length] <;> omega))) ?_
  refine e0 ?_
  refine st (v := .int _ _) (vs := [_]) 1 rfl rfl rfl rfl rfl rfl (Nat.le_of_ble_eq_true rfl) rfl ?_
  refine TL.nil (nt ?_)
  refine TC.seq ?_
  refine TC.weak (B := sepL [isRq b S, pts b4 67 (rthC ⟨t.id, t.prio, t.whole, t.whole⟩), F]) (ent_close ⟨a1, c1⟩ trivial (ent_take 1 rfl (ent_take 1 rfl (ent_takeE 0 rfl (by rfl) (ent_take 0 rfl (ent_nil _)))))) ?_
  refine TC.region ?_
  refine q rfl rfl (mv (v := .pointer _) rfl) ?_
  refine q rfl rfl (mv (v := .int _ _) rfl) ?_
  refine e rfl ?_
  refine cl (rcut_ok b S hl i hil2) rfl (picked_cons 0 rfl (picked_nil _)) trivial ?_
  intro _ _
  change TL _ _ _ _ _ _ _ _ (sepL [_, _, _])
  rw [hco]
  have hol : (offS S t.id).length ≤ S.length := List.length_filter_le _ _
  generalize hZ : offS S t.id = Z at hol ⊢
  refine TL.nil (nt ?_)
  refine TC.open 0 rfl (fun x0 hx0 => ?_)
  obtain ⟨a1, c1⟩ := x0
  clear hx0
  change TC _ _ _ _ _ _ _ (sepL [_, _, _, _])
  dsimp only
  refine TC.draw _ [10] [(0, false), (1, false), (2, false), (3, false), (4, false), (5, false), (6, true), (7, true), (8, false), (9, false), (10, true)] (by kernel_rfl) (by kernel_rfl) (ent_take 0 rfl (ent_take 1 rfl (ent_nil _))) ?_
  refine dq rfl rfl rfl (mv (v := .pointer _) rfl) ?_
  refine dq rfl rfl rfl (mv (v := .pointer _) rfl) ?_
  first | refine dq rfl rfl rfl (nc rfl) ?_ | refine dq rfl rfl rfl (ncF rfl) ?_ | refine dq rfl rfl rfl (ncS rfl (by first | assumption | (simp [ints_length] <;> omega))) ?_
  first | refine dq rfl rfl rfl (fa 0 rfl rfl) ?_ | refine dq rfl rfl rfl (faS 0 rfl rfl (by first | assumption | (simp [ints_length] <;> omega))) ?_
  first | refine dq rfl rfl rfl (ld rfl rfl rfl) ?_ | refine dq rfl rfl rfl (ldS rfl rfl (flat_get_rec rthC_sz hit)) ?_ | refine dq rfl rfl rfl (ldS rfl rfl rfl) ?_
  first | refine dq rfl rfl rfl (ldN (vs := ints [_, _, _, _]) 4 rfl rfl rfl rfl) ?_ | refine dq rfl rfl rfl (ldSN (vs := ints [_, _, _, _]) 4 rfl rfl (flat_get_rec rthC_sz hit) rfl (by decide)) ?_ | refine dq rfl rfl rfl (ldSN (vs := ints [_, _, _, _]) 4 rfl rfl rfl rfl (by decide)) ?_
  refine de rfl rfl ?_
  refine bs (cs := ints [_, _, _, _]) rfl ?_
  intro b5
  refine ⟨(by repeat (first | exact ent_nil _ | refine ent_take 0 rfl ?_ | refine ent_take 1 rfl ?_ | refine ent_take 2 rfl ?_ | refine ent_take 3 rfl ?_ | refine ent_take 4 rfl ?_ | refine ent_take 5 rfl ?_ | refine ent_take 6 rfl ?_ | refine ent_take 7 rfl ?_)), ?_⟩
  refine de rfl rfl ?_
  refine ap 32 rfl rfl rfl rfl rfl (Nat.le_of_ble_eq_true rfl) (show _ = rthsC [⟨t.id, t.prio, t.whole, t.whole⟩] from rfl) rfl (by omega) (by simp only [maxLen]; omega) ?_
  intro ad5 cap5
  refine ⟨(by repeat (first | exact ent_nil _ | refine ent_take 0 rfl ?_ | refine ent_take 1 rfl ?_ | refine ent_take 2 rfl ?_ | refine ent_take 3 rfl ?_ | refine ent_take 4 rfl ?_ | refine ent_take 5 rfl ?_ | refine ent_take 6 rfl ?_ | refine ent_take 7 rfl ?_)), ?_⟩
  first | refine dq rfl rfl rfl (nc rfl) ?_ | refine dq rfl rfl rfl (ncF rfl) ?_ | refine dq rfl rfl rfl (ncS rfl (by first | assumption | (simp [ints_length] <;> omega))) ?_
  first | refine dq rfl rfl rfl (fa 0 rfl rfl) ?_ | refine dq rfl rfl rfl (faS 0 rfl rfl (by first | assumption | (simp [ints_length] <;> omega))) ?_
  refine dl0 rfl rfl rfl ?_
  refine st (v := .slice _ _ _) (vs := [_]) 1 rfl rfl rfl rfl rfl rfl (Nat.le_of_ble_eq_true rfl) rfl ?_
  refine TD.nil ?_
  exact Ret.n () [] trivial rfl trivial (ent_close ⟨ad5, cap5⟩ trivial (ent_takeE 0 rfl (by rw [rndS, hZ, List.length_append]; rfl) (ent_takeE 0 rfl (by rw [rndS, hZ, List.length_append, rths_app]; rfl) (ent_take 2 rfl (ent_nil _)))))

theorem rtick_ok (b : Nat) (S : List Th) (hl : S.length ≤ 1000000) (hR : RInv S) : FSpec Try.prog 23 [.pointer (some ⟨b, 0, none⟩)] noRd [isRq b S] (fun _ : Unit => .int .i64 (runS (tickS S))) (fun _ => True) (fun _ => [isRq b (tickS S)]) := by
  refine FSpec.intro (rs := [.tmp 2]) (by kernel_rfl) Try.func23 rfl Try.ntmps23 (by rfl) rfl ?_
  intro F _
  change TC _ _ _ _ _ _ _ (sepL [_, _])
  have hn := hR.nd
  refine TC.seq ?_
  refine TC.region ?_
  refine q rfl rfl (asg (v := .int _ _) rfl) ?_
  refine TL.nil (nt ?_)
  refine TC.seq ?_
  refine TC.region ?_
  refine q rfl rfl (mv (v := .pointer _) rfl) ?_
  refine e rfl ?_
  refine cl (rhead_ok b S hl) rfl (picked_nil _) (ent_one 0 rfl) ?_
  intro y hy
  change TL _ _ _ _ _ _ _ _ (sepL [_, _])
  rcases hy with ⟨ht, rfl⟩ | ⟨i, t, rfl, hit, ht⟩
  · have hv : tickS S = S := by rw [tickS, ht]
    have hr : runS S = -1 := by rw [runS, ht]
    rw [hv, hr]
    refine q rfl rfl (asg (v := .int _ _) rfl) ?_
    refine TL.nil (nt ?_)
    refine TC.seq ?_
    refine TC.seq ?_
    refine TC.region ?_
    refine q rfl rfl (mv (v := .int _ _) rfl) ?_
    refine q rfl rfl (lss rfl rfl) ?_
    refine TL.nil (nt ?_)
    refine TC.condD rfl (fun hc7 => ?_) (fun hc7 => absurd (by decide) hc7)
    refine TC.seq ?_
    refine TC.region ?_
    refine q rfl rfl (asg (v := .int _ _) rfl) ?_
    refine TL.nil (nt ?_)
    refine TC.ret (rt ?_)
    exact Ret.i () [_] ⟨rfl, trivial⟩ rfl trivial (ent_take 0 rfl (ent_take 0 rfl (ent_nil _)))
  · have hil2 := (List.getElem?_eq_some_iff.1 hit).1
    have hrg := hR.rg t (List.mem_of_getElem? hit)
    refine q rfl rfl (asg (v := .int _ _) rfl) ?_
    refine TL.nil (nt ?_)
    refine TC.seq ?_
    refine TC.seq ?_
    refine TC.region ?_
    refine q rfl rfl (mv (v := .int _ _) rfl) ?_
    refine q rfl rfl (lss rfl rfl) ?_
    refine TL.nil (nt ?_)
    refine TC.condD rfl (fun hc8 => absurd hc8 (by omega)) (fun hc8 => ?_)
    refine TC.skip (nt ?_)
    refine TC.seq ?_
    refine TC.seq ?_
    refine TC.open 0 rfl (fun x0 hx0 => ?_)
    obtain ⟨a1, c1⟩ := x0
    clear hx0
    change TC _ _ _ _ _ _ _ (sepL [_, _, _])
    dsimp only
    have hil := rthsC_length S
    have hpos : 0 < (rthsC S).length := by omega
    have hit2 : (S.set i ⟨t.id, t.prio, t.whole, t.left - 1⟩)[i]? = some ⟨t.id, t.prio, t.whole, t.left - 1⟩ := List.getElem?_set_self hil2
    refine TC.region ?_
    refine q rfl rfl (mv (v := .pointer _) rfl) ?_
    first | refine q rfl rfl (nc rfl) ?_ | refine q rfl rfl (ncF rfl) ?_ | refine q rfl rfl (ncS rfl (by first | assumption | (simp [ints_length] <;> omega))) ?_
    first | refine q rfl rfl (fa 0 rfl rfl) ?_ | refine q rfl rfl (faS 0 rfl rfl (by first | assumption | (simp [ints_length] <;> omega))) ?_
    first | refine q rfl rfl (ld rfl rfl rfl) ?_ | refine q rfl rfl (ldS rfl rfl (flat_ld rthC_sz hit 3 (by omega) rfl)) ?_ | refine q rfl rfl (ldS rfl rfl rfl) ?_
    refine q rfl rfl (mv (v := .int _ _) rfl) ?_
    first | refine q rfl rfl (ixS 67 4 rfl rfl rfl (by omega) (by first | assumption | (simp [ints_length] <;> omega))) ?_ | refine q rfl rfl (ixJ 67 4 rfl rfl rfl (by omega) (by omega) (by first | assumption | (simp [ints_length] <;> omega))) ?_ | refine q rfl rfl (ix 67 4 rfl rfl rfl (by omega) (by omega) rfl) ?_
    first | refine q rfl rfl (fa 3 rfl rfl) ?_ | refine q rfl rfl (faS 3 rfl rfl (by first | assumption | (simp [ints_length] <;> omega))) ?_
    first | refine q rfl rfl (ld rfl rfl rfl) ?_ | refine q rfl rfl (ldS rfl rfl (flat_ld rthC_sz hit 3 (by omega) rfl)) ?_ | refine q rfl rfl (ldS rfl rfl rfl) ?_
    refine q rfl rfl (eqI rfl rfl) ?_
    refine TL.nil (nt ?_)
    first | refine TC.condD rfl (fun h1 => ?_) (fun h1 => ?_) | refine TC.cond rfl (fun h1 => ?_) (fun h1 => ?_)
    · have hv : tickS S = rndS S t := by rw [tickS, ht]; dsimp only; rw [if_pos h1]
      rw [hv]
      have hrl := rnd_len hn (List.mem_of_getElem? hit)
      refine TC.weak (B := sepL [isRq b S, F]) (ent_close ⟨a1, c1⟩ trivial (ent_take 0 rfl (ent_take 0 rfl (ent_take 0 rfl (ent_nil _))))) ?_
      refine TC.region ?_
      refine q rfl rfl (mv (v := .pointer _) rfl) ?_
      refine q rfl rfl (mv (v := .int _ _) rfl) ?_
      refine e rfl ?_
      refine cl (rround_ok b S hl hn i t hit) rfl (picked_cons 0 rfl (picked_nil _)) trivial ?_
      intro _ _
      change TL _ _ _ _ _ _ _ _ (sepL [_, _])
      refine TL.nil (nt ?_)
      refine TC.seq ?_
      refine TC.region ?_
      refine q rfl rfl (mv (v := .pointer _) rfl) ?_
      refine e rfl ?_
      refine cl (rrun_ok b (rndS S t) (by omega)) rfl (picked_nil _) (ent_one 0 rfl) ?_
      intro _ _
      change TL _ _ _ _ _ _ _ _ (sepL [_, _])
      refine q rfl rfl (asg (v := .int _ _) rfl) ?_
      refine TL.nil (nt ?_)
      refine TC.ret ?_
      exact Ret.i () [_] ⟨rfl, trivial⟩ rfl trivial (ent_take 0 rfl (ent_take 0 rfl (ent_nil _)))
    · have hv : tickS S = setL S t.id (t.left - 1) := by rw [tickS, ht]; dsimp only; rw [if_neg h1]
      rw [hv]
      have hss := setS_setL hn hit (t.left - 1)
      have hsl := setL_len S t.id (t.left - 1)
      refine TC.region ?_
      refine q rfl rfl (mv (v := .pointer _) rfl) ?_
      first | refine q rfl rfl (nc rfl) ?_ | refine q rfl rfl (ncF rfl) ?_ | refine q rfl rfl (ncS rfl (by first | assumption | (simp [ints_length] <;> omega))) ?_
      first | refine q rfl rfl (fa 0 rfl rfl) ?_ | refine q rfl rfl (faS 0 rfl rfl (by first | assumption | (simp [ints_length] <;> omega))) ?_
      first | refine q rfl rfl (ld rfl rfl rfl) ?_ | refine q rfl rfl (ldS rfl rfl (flat_ld rthC_sz hit 3 (by omega) rfl)) ?_ | refine q rfl rfl (ldS rfl rfl rfl) ?_
      refine q rfl rfl (mv (v := .int _ _) rfl) ?_
      first | refine q rfl rfl (ixS 67 4 rfl rfl rfl (by omega) (by first | assumption | (simp [ints_length] <;> omega))) ?_ | refine q rfl rfl (ixJ 67 4 rfl rfl rfl (by omega) (by omega) (by first | assumption | (simp [ints_length] <;> omega))) ?_ | refine q rfl rfl (ix 67 4 rfl rfl rfl (by omega) (by omega) rfl) ?_
      first | refine q rfl rfl (fa 3 rfl rfl) ?_ | refine q rfl rfl (faS 3 rfl rfl (by first | assumption | (simp [ints_length] <;> omega))) ?_
      first | refine q rfl rfl (ld rfl rfl rfl) ?_ | refine q rfl rfl (ldS rfl rfl (flat_ld rthC_sz hit 3 (by omega) rfl)) ?_ | refine q rfl rfl (ldS rfl rfl rfl) ?_
      first | refine q rfl rfl (subI rfl rfl (by omega) (by omega)) ?_ | refine q rfl rfl (sub rfl rfl rfl) ?_
      first | refine q rfl rfl (ixS 67 4 rfl rfl rfl (by omega) (by first | assumption | (simp [ints_length] <;> omega))) ?_ | refine q rfl rfl (ixJ 67 4 rfl rfl rfl (by omega) (by omega) (by first | assumption | (simp [ints_length] <;> omega))) ?_ | refine q rfl rfl (ix 67 4 rfl rfl rfl (by omega) (by omega) rfl) ?_
      first | refine q rfl rfl (fa 3 rfl rfl) ?_ | refine q rfl rfl (faS 3 rfl rfl (by first | assumption | (simp [ints_length] <;> omega))) ?_
      refine e0 ?_
      first | refine st (v := .int _ _) (vs := [_]) 1 rfl rfl rfl rfl rfl rfl (Nat.le_of_ble_eq_true rfl) rfl ?_ | refine stS (v := .int _ _) (vs := [_]) 1 rfl rfl rfl rfl rfl rfl (by decide) (by have h7 : (List.flatMap rthC S).length = S.length * 4 := flat_length rthC_sz S; omega) (flat_set (a' := ⟨t.id, t.prio, t.whole, t.left - 1⟩) rthC_sz hit 3 (by omega) (Nat.le_of_ble_eq_true rfl) rfl) ?_
      refine TL.nil (nt ?_)
      refine TC.seq ?_
      refine TC.weak (B := sepL [isRq b (setL S t.id (t.left - 1)), F]) (ent_close ⟨a1, c1⟩ trivial (ent_takeE 1 rfl (by rw [hsl]) (ent_takeE 0 rfl (by rw [hsl, ← hss]; rfl) (ent_take 0 rfl (ent_nil _))))) ?_
      refine TC.region ?_
      refine q rfl rfl (mv (v := .pointer _) rfl) ?_
      refine e rfl ?_
      refine cl (rrun_ok b (setL S t.id (t.left - 1)) (by omega)) rfl (picked_nil _) (ent_one 0 rfl) ?_
      intro _ _
      change TL _ _ _ _ _ _ _ _ (sepL [_, _])
      refine q rfl rfl (asg (v := .int _ _) rfl) ?_
      refine TL.nil (nt ?_)
      refine TC.ret ?_
      exact Ret.i () [_] ⟨rfl, trivial⟩ rfl trivial (ent_take 0 rfl (ent_take 0 rfl (ent_nil _)))

theorem ryield_ok (b : Nat) (S : List Th) (hl : S.length ≤ 1000000) (hn : NdS S) : FSpec Try.prog 24 [.pointer (some ⟨b, 0, none⟩)] noRd [isRq b S] (fun _ : Unit => .int .i64 (runS (yieldS S))) (fun _ => True) (fun _ => [isRq b (yieldS S)]) := by
  refine FSpec.intro (rs := [.tmp 2]) (by kernel_rfl) Try.func24 rfl Try.ntmps24 (by rfl) rfl ?_
  intro F _
  change TC _ _ _ _ _ _ _ (sepL [_, _])
  refine TC.seq ?_
  refine TC.region ?_
  refine q rfl rfl (asg (v := .int _ _) rfl) ?_
  refine TL.nil (nt ?_)
  refine TC.seq ?_
  refine TC.region ?_
  refine q rfl rfl (mv (v := .pointer _) rfl) ?_
  refine e rfl ?_
  refine cl (rhead_ok b S hl) rfl (picked_nil _) (ent_one 0 rfl) ?_
  intro y hy
  change TL _ _ _ _ _ _ _ _ (sepL [_, _])
  rcases hy with ⟨ht, rfl⟩ | ⟨i, t, rfl, hit, ht⟩
  · have hv : yieldS S = S := by rw [yieldS, ht]
    rw [hv]
    refine q rfl rfl (asg (v := .int _ _) rfl) ?_
    refine TL.nil (nt ?_)
    refine TC.seq ?_
    refine TC.seq ?_
    refine TC.region ?_
    refine q rfl rfl (mv (v := .int _ _) rfl) ?_
    refine q rfl rfl (geq rfl rfl) ?_
    refine TL.nil (nt ?_)
    refine TC.condD rfl (fun hc9 => absurd hc9 (by decide)) (fun hc9 => ?_)
    refine TC.skip (nt ?_)
    refine TC.seq ?_
    refine TC.region ?_
    refine q rfl rfl (mv (v := .pointer _) rfl) ?_
    refine e rfl ?_
    refine cl (rrun_ok b S hl) rfl (picked_nil _) (ent_one 0 rfl) ?_
    intro _ _
    change TL _ _ _ _ _ _ _ _ (sepL [_, _])
    refine q rfl rfl (asg (v := .int _ _) rfl) ?_
    refine TL.nil (nt ?_)
    refine TC.ret ?_
    exact Ret.i () [_] ⟨rfl, trivial⟩ rfl trivial (ent_take 0 rfl (ent_take 0 rfl (ent_nil _)))
  · have hv : yieldS S = rndS S t := by rw [yieldS, ht]
    rw [hv]
    have hrl := rnd_len hn (List.mem_of_getElem? hit)
    refine q rfl rfl (asg (v := .int _ _) rfl) ?_
    refine TL.nil (nt ?_)
    refine TC.seq ?_
    refine TC.seq ?_
    refine TC.region ?_
    refine q rfl rfl (mv (v := .int _ _) rfl) ?_
    refine q rfl rfl (geq rfl rfl) ?_
    refine TL.nil (nt ?_)
    refine TC.condD rfl (fun hc10 => ?_) (fun hc10 => absurd (by omega) hc10)
    refine TC.region ?_
    refine q rfl rfl (mv (v := .pointer _) rfl) ?_
    refine q rfl rfl (mv (v := .int _ _) rfl) ?_
    refine e rfl ?_
    refine cl (rround_ok b S hl hn i t hit) rfl (picked_cons 0 rfl (picked_nil _)) trivial ?_
    intro _ _
    change TL _ _ _ _ _ _ _ _ (sepL [_, _])
    refine TL.nil (nt ?_)
    refine TC.seq ?_
    refine TC.region ?_
    refine q rfl rfl (mv (v := .pointer _) rfl) ?_
    refine e rfl ?_
    refine cl (rrun_ok b (rndS S t) (by omega)) rfl (picked_nil _) (ent_one 0 rfl) ?_
    intro _ _
    change TL _ _ _ _ _ _ _ _ (sepL [_, _])
    refine q rfl rfl (asg (v := .int _ _) rfl) ?_
    refine TL.nil (nt ?_)
    refine TC.ret ?_
    exact Ret.i () [_] ⟨rfl, trivial⟩ rfl trivial (ent_take 0 rfl (ent_take 0 rfl (ent_nil _)))

theorem rrow_ok (b : Nat) (S : List Th) (hl : S.length ≤ 1000000) (pr : Int) : FSpec Try.prog 28 [.pointer (some ⟨b, 0, none⟩), .int .i64 pr] (fun F => ent F (isRq b S)) [] (fun y : Option Addr × Nat => .slice y.1 (rowI S pr).length y.2) (fun _ => True) (fun y => [slc 3 1 y.1 (rowI S pr).length y.2 (ints (rowI S pr))]) := by
  refine FSpec.intro (rs := [.tmp 4]) (by kernel_rfl) Try.func28 rfl Try.ntmps28 (by rfl) rfl ?_
  intro F hF
  change TC _ _ _ _ _ _ _ (sepL [_])
  refine TC.openR hF (fun x0 hx0 => ?_)
  obtain ⟨a1, c1⟩ := x0
  clear hx0
  dsimp only
  have hil := rthsC_length S
  refine TC.seq ?_
  refine TC.region ?_
  refine q rfl rfl (asg (v := .slice _ _ _) rfl) ?_
  refine TL.nil (nt ?_)
  refine TC.seq ?_
  refine TC.region ?_
  refine q rfl rfl (asg (v := .slice _ _ _) rfl) ?_
  refine TL.nil (nt ?_)
  refine TC.seq ?_
  refine TC.seq ?_
  refine TC.region ?_
  refine q rfl rfl (asg (v := .int _ _) rfl) ?_
  refine TL.nil (nt ?_)
  refine TC.block ?_
  refine TC.loop (ι := Nat × (Option Addr × Nat)) (fun s => s.1 ≤ S.length) (fun s => [(0, .pointer (some ⟨b, 0, none⟩)), (1, .int .i64 pr), (5, .slice s.2.1 (rowI (S.take s.1) pr).length s.2.2), (6, .int .i64 ((s.1 : Nat) : Int))]) (fun s => sepL [slc 3 1 s.2.1 (rowI (S.take s.1) pr).length s.2.2 (ints (rowI (S.take s.1) pr)), restr F (sepL [pts b 36 [.slice a1 S.length c1], slc 67 4 a1 S.length c1 (rthsC S)])]) (fun s => S.length - s.1) ⟨0, (none, 0)⟩ (Nat.zero_le _) ⟨rfl, rfl, rfl, rfl, trivial⟩ ((slc_nil 3 1 _).trans (ent_take 0 rfl (ent_take 0 rfl (ent_nil _)))) ?_
  rintro ⟨k, ⟨oa, oc⟩⟩ hk ρ0
  dsimp only [updL] at hk ⊢
  refine TC.seq ?_
  refine TC.seq ?_
  refine TC.region ?_
  refine q rfl rfl (mv (v := .int _ _) rfl) ?_
  refine q rfl rfl (mv (v := .pointer _) rfl) ?_
  first | refine q rfl rfl (nc rfl) ?_ | refine q rfl rfl (ncF rfl) ?_ | refine q rfl rfl (ncS rfl (by first | assumption | (simp [ints_length] <;> omega))) ?_
  first | refine q rfl rfl (fa 0 rfl rfl) ?_ | refine q rfl rfl (faS 0 rfl rfl (by first | assumption | (simp [ints_length] <;> omega))) ?_
  first | refine q rfl rfl (ld rfl rfl rfl) ?_ | refine q rfl rfl (ldS rfl rfl rfl) ?_
  refine q rfl rfl (len 67 4 rfl rfl) ?_
  refine q rfl rfl (lss rfl rfl) ?_
  refine TL.nil (nt ?_)
  first | refine TC.condD rfl (fun hlt => ?_) (fun hlt => ?_) | refine TC.cond rfl (fun hlt => ?_) (fun hlt => ?_)
  · have hlt2 : k < S.length := by omega
    obtain ⟨x, hx⟩ : ∃ x, S[k]? = some x := ⟨S[k], List.getElem?_eq_getElem hlt2⟩
    have hpos : 0 < (rthsC S).length := by omega
    have hsn := rowI_snoc hx pr
    have hrl := rowI_len (S.take k) pr
    have htl : (S.take k).length = k := by rw [List.length_take]; omega
    refine TC.skip (nt ?_)
    refine TC.seq ?_
    refine TC.block ?_
    refine TC.seq ?_
    refine TC.region ?_
    refine q rfl rfl (mv (v := .pointer _) rfl) ?_
    first | refine q rfl rfl (nc rfl) ?_ | refine q rfl rfl (ncF rfl) ?_ | refine q rfl rfl (ncS rfl (by first | assumption | (simp [ints_length] <;> omega))) ?_
    first | refine q rfl rfl (fa 0 rfl rfl) ?_ | refine q rfl rfl (faS 0 rfl rfl (by first | assumption | (simp [ints_length] <;> omega))) ?_
    first | refine q rfl rfl (ld rfl rfl rfl) ?_ | refine q rfl rfl (ldS rfl rfl (flat_ld rthC_sz hx 1 (by omega) rfl)) ?_ | refine q rfl rfl (ldS rfl rfl (flat_ld rthC_sz hx 0 (by omega) rfl)) ?_ | refine q rfl rfl (ldS rfl rfl rfl) ?_
    refine q rfl rfl (mv (v := .int _ _) rfl) ?_
    first | refine q rfl rfl (ixS 67 4 rfl rfl rfl (by omega) (by first | assumption | (simp [ints_length] <;> omega))) ?_ | refine q rfl rfl (ixJ 67 4 rfl rfl rfl (by omega) (by omega) (by first | assumption | (simp [ints_length] <;> omega))) ?_ | refine q rfl rfl (ix 67 4 rfl rfl rfl (by omega) (by omega) rfl) ?_
    first | refine q rfl rfl (fa 1 rfl rfl) ?_ | refine q rfl rfl (faS 1 rfl rfl (by first | assumption | (simp [ints_length] <;> omega))) ?_
    first | refine q rfl rfl (ld rfl rfl rfl) ?_ | refine q rfl rfl (ldS rfl rfl (flat_ld rthC_sz hx 1 (by omega) rfl)) ?_ | refine q rfl rfl (ldS rfl rfl (flat_ld rthC_sz hx 0 (by omega) rfl)) ?_ | refine q rfl rfl (ldS rfl rfl rfl) ?_
    refine q rfl rfl (mv (v := .int _ _) rfl) ?_
    refine q rfl rfl (eqI rfl rfl) ?_
    refine TL.nil (nt ?_)
    first | refine TC.condD rfl (fun he => ?_) (fun he => ?_) | refine TC.cond rfl (fun he => ?_) (fun he => ?_)
    · rw [if_pos he] at hsn
      refine TC.region ?_
      refine q rfl rfl (mv (v := .slice _ _ _) rfl) ?_
      refine q rfl rfl (mv (v := .pointer _) rfl) ?_
      first | refine q rfl rfl (nc rfl) ?_ | refine q rfl rfl (ncF rfl) ?_ | refine q rfl rfl (ncS rfl (by first | assumption | (simp [ints_length] <;> omega))) ?_
      first | refine q rfl rfl (fa 0 rfl rfl) ?_ | refine q rfl rfl (faS 0 rfl rfl (by first | assumption | (simp [ints_length] <;> omega))) ?_
      first | refine q rfl rfl (ld rfl rfl rfl) ?_ | refine q rfl rfl (ldS rfl rfl (flat_ld rthC_sz hx 0 (by omega) rfl)) ?_ | refine q rfl rfl (ldS rfl rfl rfl) ?_
      refine q rfl rfl (mv (v := .int _ _) rfl) ?_
      first | refine q rfl rfl (ixS 67 4 rfl rfl rfl (by omega) (by first | assumption | (simp [ints_length] <;> omega))) ?_ | refine q rfl rfl (ixJ 67 4 rfl rfl rfl (by omega) (by omega) (by first | assumption | (simp [ints_length] <;> omega))) ?_ | refine q rfl rfl (ix 67 4 rfl rfl rfl (by omega) (by omega) rfl) ?_
      first | refine q rfl rfl (fa 0 rfl rfl) ?_ | refine q rfl rfl (faS 0 rfl rfl (by first | assumption | (simp [ints_length] <;> omega))) ?_
      first | refine q rfl rfl (ld rfl rfl rfl) ?_ | refine q rfl rfl (ldS rfl rfl (flat_ld rthC_sz hx 0 (by omega) rfl)) ?_ | refine q rfl rfl (ldS rfl rfl rfl) ?_
      refine e rfl ?_
      refine bs (cs := [.int _ _]) rfl ?_
      intro b6
      refine e rfl ?_
      refine ap 8 rfl rfl rfl rfl rfl (Nat.le_of_ble_eq_true rfl) (show _ = ints [x.id] from rfl) rfl (by omega) (by simp only [maxLen]; omega) ?_
      intro ad6 cap6
      refine q rfl rfl (asg (v := .slice _ _ _) rfl) ?_
      refine TL.nil (nb (nt ?_))
      refine TC.region ?_
      refine q rfl rfl (mv (v := .int _ _) rfl) ?_
      first | refine q rfl rfl (addI rfl rfl (by omega) (by omega)) ?_ | refine q rfl rfl (add rfl rfl rfl) ?_
      refine q rfl rfl (asg (v := .int _ _) rfl) ?_
      refine TL.nil (nt ?_)
      exact ⟨rfl, ⟨k + 1, (ad6, cap6)⟩, (by dsimp only; omega), (by dsimp only; omega), ⟨rfl, rfl, congrArg (fun n => Value.slice _ n _) (by dsimp only; rw [hsn, List.length_append]; rfl), rfl, trivial⟩, (ent_takeE 0 rfl (by dsimp only; rw [hsn, List.length_append, ints_app1]; rfl) (ent_take 1 rfl (ent_nil _)))⟩
    · rw [if_neg he] at hsn
      refine TC.skip (nb (nt ?_))
      refine TC.region ?_
      refine q rfl rfl (mv (v := .int _ _) rfl) ?_
      first | refine q rfl rfl (addI rfl rfl (by omega) (by omega)) ?_ | refine q rfl rfl (add rfl rfl rfl) ?_
      refine q rfl rfl (asg (v := .int _ _) rfl) ?_
      refine TL.nil (nt ?_)
      exact ⟨rfl, ⟨k + 1, (oa, oc)⟩, (by dsimp only; omega), (by dsimp only; omega), ⟨rfl, rfl, congrArg (fun n => Value.slice _ n _) (by dsimp only; rw [hsn]), rfl, trivial⟩, (ent_takeE 0 rfl (by dsimp only; rw [hsn]) (ent_take 0 rfl (ent_nil _)))⟩
  · obtain rfl : k = S.length := by omega
    rw [List.take_length]
    refine TC.exit (et (et (eb (nt ?_))))
    refine TC.seq ?_
    refine TC.region ?_
    refine q rfl rfl (mv (v := .slice _ _ _) rfl) ?_
    refine q rfl rfl (asg (v := .slice _ _ _) rfl) ?_
    refine TL.nil (nt ?_)
    refine TC.ret ?_
    exact Ret.i ⟨oa, oc⟩ [_] ⟨rfl, trivial⟩ rfl trivial (ent_take 0 rfl (ent_takeF 0 rfl (ent_nil _)))

theorem rof_ok (b : Nat) (S : List Th) (hl : S.length ≤ 1000000) (id : Int) (hn : NdS S) : FSpec Try.prog 25 [.pointer (some ⟨b, 0, none⟩), .int .i64 id] (fun F => ent F (isRq b S)) [] (fun _ : Unit => .tuple #[.int .i64 (leftS S id), .int .i64 (prioS S id)]) (fun _ => True) (fun _ => []) := by
  refine FSpec.intro (rs := [.tmp 4, .tmp 5]) (by kernel_rfl) Try.func25 rfl Try.ntmps25 (by rfl) rfl ?_
  intro F hF
  change TC _ _ _ _ _ _ _ (sepL [_])
  refine TC.seq ?_
  refine TC.region ?_
  refine q rfl rfl (asg (v := .int _ _) rfl) ?_
  refine q rfl rfl (asg (v := .int _ _) rfl) ?_
  refine TL.nil (nt ?_)
  refine TC.seq ?_
  refine TC.region ?_
  refine q rfl rfl (mv (v := .pointer _) rfl) ?_
  refine q rfl rfl (mv (v := .int _ _) rfl) ?_
  refine e rfl ?_
  refine cl (rat_ok b S hl id) rfl (picked_nil _) ((ent_one 0 rfl).trans hF) ?_
  intro _ _
  change TL _ _ _ _ _ _ _ _ (sepL [_])
  by_cases hy : hasS S id
  · obtain ⟨i, t, h1, h2, rfl⟩ := atS_yes hy
    rw [h1]
    have hil2 := (List.getElem?_eq_some_iff.1 h2).1
    rw [left_of hn (List.mem_of_getElem? h2), prio_of hn (List.mem_of_getElem? h2)]
    refine q rfl rfl (asg (v := .int _ _) rfl) ?_
    refine TL.nil (nt ?_)
    refine TC.seq ?_
    refine TC.seq ?_
    refine TC.region ?_
    refine q rfl rfl (mv (v := .int _ _) rfl) ?_
    refine q rfl rfl (lss rfl rfl) ?_
    refine TL.nil (nt ?_)
    refine TC.condD rfl (fun hc11 => absurd hc11 (by omega)) (fun hc11 => ?_)
    refine TC.skip (nt ?_)
    refine TC.seq ?_
    refine TC.openR hF (fun x0 hx0 => ?_)
    obtain ⟨a1, c1⟩ := x0
    clear hx0
    dsimp only
    have hil := rthsC_length S
    have hpos : 0 < (rthsC S).length := by omega
    refine TC.draw _ [] [(0, false), (1, false), (2, false), (3, false), (4, false), (5, false), (6, false), (7, false), (8, false), (9, false), (10, false), (11, false), (12, false), (13, false), (14, false), (15, false), (16, false), (17, false)] (by kernel_rfl) (by kernel_rfl) (ent.refl _) ?_
    refine dq rfl rfl rfl (mv (v := .pointer _) rfl) ?_
    first | refine dq rfl rfl rfl (nc rfl) ?_ | refine dq rfl rfl rfl (ncF rfl) ?_ | refine dq rfl rfl rfl (ncS rfl (by first | assumption | (simp [ints_length] <;> omega))) ?_
    first | refine dq rfl rfl rfl (fa 0 rfl rfl) ?_ | refine dq rfl rfl rfl (faS 0 rfl rfl (by first | assumption | (simp [ints_length] <;> omega))) ?_
    first | refine dq rfl rfl rfl (ld rfl rfl rfl) ?_ | refine dq rfl rfl rfl (ldS rfl rfl (flat_ld rthC_sz h2 3 (by omega) rfl)) ?_ | refine dq rfl rfl rfl (ldS rfl rfl (flat_ld rthC_sz h2 1 (by omega) rfl)) ?_ | refine dq rfl rfl rfl (ldS rfl rfl rfl) ?_
    refine dq rfl rfl rfl (mv (v := .int _ _) rfl) ?_
    first | refine dq rfl rfl rfl (ixS 67 4 rfl rfl rfl (by omega) (by first | assumption | (simp [ints_length] <;> omega))) ?_ | refine dq rfl rfl rfl (ixJ 67 4 rfl rfl rfl (by omega) (by omega) (by first | assumption | (simp [ints_length] <;> omega))) ?_ | refine dq rfl rfl rfl (ix 67 4 rfl rfl rfl (by omega) (by omega) rfl) ?_
    first | refine dq rfl rfl rfl (fa 3 rfl rfl) ?_ | refine dq rfl rfl rfl (faS 3 rfl rfl (by first | assumption | (simp [ints_length] <;> omega))) ?_
    first | refine dq rfl rfl rfl (ld rfl rfl rfl) ?_ | refine dq rfl rfl rfl (ldS rfl rfl (flat_ld rthC_sz h2 3 (by omega) rfl)) ?_ | refine dq rfl rfl rfl (ldS rfl rfl (flat_ld rthC_sz h2 1 (by omega) rfl)) ?_ | refine dq rfl rfl rfl (ldS rfl rfl rfl) ?_
    refine dq rfl rfl rfl (mv (v := .pointer _) rfl) ?_
    first | refine dq rfl rfl rfl (nc rfl) ?_ | refine dq rfl rfl rfl (ncF rfl) ?_ | refine dq rfl rfl rfl (ncS rfl (by first | assumption | (simp [ints_length] <;> omega))) ?_
    first | refine dq rfl rfl rfl (fa 0 rfl rfl) ?_ | refine dq rfl rfl rfl (faS 0 rfl rfl (by first | assumption | (simp [ints_length] <;> omega))) ?_
    first | refine dq rfl rfl rfl (ld rfl rfl rfl) ?_ | refine dq rfl rfl rfl (ldS rfl rfl (flat_ld rthC_sz h2 3 (by omega) rfl)) ?_ | refine dq rfl rfl rfl (ldS rfl rfl (flat_ld rthC_sz h2 1 (by omega) rfl)) ?_ | refine dq rfl rfl rfl (ldS rfl rfl rfl) ?_
    refine dq rfl rfl rfl (mv (v := .int _ _) rfl) ?_
    first | refine dq rfl rfl rfl (ixS 67 4 rfl rfl rfl (by omega) (by first | assumption | (simp [ints_length] <;> omega))) ?_ | refine dq rfl rfl rfl (ixJ 67 4 rfl rfl rfl (by omega) (by omega) (by first | assumption | (simp [ints_length] <;> omega))) ?_ | refine dq rfl rfl rfl (ix 67 4 rfl rfl rfl (by omega) (by omega) rfl) ?_
    first | refine dq rfl rfl rfl (fa 1 rfl rfl) ?_ | refine dq rfl rfl rfl (faS 1 rfl rfl (by first | assumption | (simp [ints_length] <;> omega))) ?_
    first | refine dq rfl rfl rfl (ld rfl rfl rfl) ?_ | refine dq rfl rfl rfl (ldS rfl rfl (flat_ld rthC_sz h2 3 (by omega) rfl)) ?_ | refine dq rfl rfl rfl (ldS rfl rfl (flat_ld rthC_sz h2 1 (by omega) rfl)) ?_ | refine dq rfl rfl rfl (ldS rfl rfl rfl) ?_
    refine dq rfl rfl rfl (asg (v := .int _ _) rfl) ?_
    refine dq rfl rfl rfl (asg (v := .int _ _) rfl) ?_
    refine TD.nil (nt ?_)
    refine TC.ret ?_
    exact Ret.i () [_, _] ⟨rfl, rfl, trivial⟩ rfl trivial (ent_takeF 0 rfl (ent_nil _))
  · rw [atS_no hy, leftS, prioS, findS_no hy]
    refine q rfl rfl (asg (v := .int _ _) rfl) ?_
    refine TL.nil (nt ?_)
    refine TC.seq ?_
    refine TC.seq ?_
    refine TC.region ?_
    refine q rfl rfl (mv (v := .int _ _) rfl) ?_
    refine q rfl rfl (lss rfl rfl) ?_
    refine TL.nil (nt ?_)
    refine TC.condD rfl (fun hc12 => ?_) (fun hc12 => absurd (by decide) hc12)
    refine TC.seq ?_
    refine TC.region ?_
    refine q rfl rfl (asg (v := .int _ _) rfl) ?_
    refine q rfl rfl (asg (v := .int _ _) rfl) ?_
    refine TL.nil (nt ?_)
    refine TC.ret (rt ?_)
    exact Ret.i () [_, _] ⟨rfl, rfl, trivial⟩ rfl trivial (ent_take 0 rfl (ent_nil _))

end Go.Proofs.Ytncafknmdmoaoaa
