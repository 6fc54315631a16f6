/-
  Proved here: what functions of this program compute, each as a contract over symbolic states, under the premises that each theorem names (most lines printed by a program of the prover).
-/
import Derived.Test.YtdikkmgcjhllaaaAlH
namespace Go.Proofs.Ytdikkmgcjhllaaa
open Go Go.QM
def lf (now : Int) (Q : List En) : List Int := Q.map fun x => x.at_ - now
theorem lf_length (now : Int) (Q : List En) : (lf now Q).length = Q.length := by simp [lf]
theorem ids_length (Q : List En) : (ids Q).length = Q.length := by simp [ids]
def isRf (b : Nat) (now : Int) (Q : List En) : HP := EX fun y : (Option Addr × Nat) × (Option Addr × Nat) => pure' True (sepL [pts b 43 [.int .i64 now, .slice y.1.1 Q.length y.1.2, .slice y.2.1 Q.length y.2.2], slc 3 1 y.1.1 Q.length y.1.2 (ints (ids Q)), slc 3 1 y.2.1 Q.length y.2.2 (ints (lf now Q))])
def atA (Q : List En) (id : Int) : Int := match Q.findIdx? fun x => decide (x.id = id) with
  | some i => (i : Int)
  | none => -1
theorem atA_no {Q : List En} {id : Int} (h : ¬ hasA Q id) : atA Q id = -1 := by
  have : Q.findIdx? (fun x => decide (x.id = id)) = none := by
    rw [List.findIdx?_eq_none_iff]; intro x hx; simp only [decide_eq_false_iff_not]; exact fun e2 => h ⟨x, hx, e2⟩
  rw [atA, this]
theorem atA_yes {Q : List En} {id : Int} (h : hasA Q id) : ∃ i x, atA Q id = ((i : Nat) : Int) ∧ Q[i]? = some x ∧ x.id = id := by
  cases hf : Q.findIdx? (fun x => decide (x.id = id)) with
  | none =>
    obtain ⟨x, hx, h1⟩ := h
    rw [List.findIdx?_eq_none_iff] at hf
    have := hf x hx; simp [h1] at this
  | some i =>
    obtain ⟨x, h1, h2⟩ := find_of_findIdx hf
    have := List.find?_some h2
    exact ⟨i, x, by rw [atA, hf], h1, by simpa using this⟩
theorem cut_off {Q : List En} {i : Nat} {x : En} (hn : Nd Q) (hx : Q[i]? = some x) : Q.take i ++ Q.drop (i + 1) = offA Q x.id := by
  obtain ⟨h1, h2⟩ := List.getElem?_eq_some_iff.1 hx
  have hQ : Q = Q.take i ++ x :: Q.drop (i + 1) := by rw [← h2, ← List.drop_eq_getElem_cons h1, List.take_append_drop]
  have hp : (x :: (Q.take i ++ Q.drop (i + 1))).Perm Q := by
    conv => rhs; rw [hQ]
    exact List.perm_middle.symm
  have hs : ∀ a ∈ Q.take i ++ Q.drop (i + 1), a.id ≠ x.id := fun a ha e2 => (List.nodup_cons.1 (hn.perm hp)).1 (List.mem_map.2 ⟨a, ha, e2⟩)
  conv => rhs; rw [hQ]
  rw [offA, List.filter_append, List.filter_cons_of_neg (by simp)]
  rw [List.filter_eq_self.2 (fun a ha => by simpa using hs a (by simp [ha])), List.filter_eq_self.2 (fun a ha => by simpa using hs a (by simp [ha]))]
theorem cutL_len {Q : List En} {i : Nat} (h : i < Q.length) : (Q.take i ++ Q.drop (i + 1)).length = Q.length - 1 := by simp; omega
theorem clr_due {Q : List En} (hn : Nd Q) (t : Int) : clrA Q (ids (dueA t Q)) = restA t Q := by
  rw [clrA_eq, restA]
  refine List.filter_congr fun x hx => ?_
  rw [decide_eq_decide]
  constructor
  · intro h1 h2
    exact h1 (List.mem_map.2 ⟨x, List.mem_filter.2 ⟨hx, by simpa using h2⟩, rfl⟩)
  · intro h1 h2
    obtain ⟨y, hy, h3⟩ := List.mem_map.1 h2
    obtain ⟨hy1, hy2⟩ := List.mem_filter.1 hy
    obtain ⟨j1, hj1⟩ := List.getElem?_of_mem hx
    obtain ⟨j2, hj2⟩ := List.getElem?_of_mem hy1
    have := hn.inj (List.getElem?_eq_some_iff.1 hj1).1 (List.getElem?_eq_some_iff.1 hj2).1 (by rw [gE_of hj1, gE_of hj2, h3])
    subst this
    rw [hj1] at hj2; cases hj2
    exact h1 (by simpa using hy2)
theorem next_snoc {Q : List En} {x : En} {now : Int} (hx : now < x.at_) (h : ∀ a ∈ Q, now < a.at_) : nextA (Q ++ [x]) now = if nextA Q now = 0 ∨ x.at_ - now < nextA Q now then x.at_ - now else nextA Q now := by
  by_cases hQ : Q = []
  · subst hQ
    rw [if_pos (.inl (by rw [nextA, if_pos rfl])), nextA, if_neg (by simp)]
    rw [minL_of (m := x.at_) (by simp) (by simp)]
  · have hm : Q.map (·.at_) ≠ [] := by simpa using hQ
    obtain ⟨h1, h2⟩ := minL_spec hm
    have hpos : 0 < nextA Q now := by
      rw [nextA, if_neg hQ]
      obtain ⟨a, ha, e⟩ := List.mem_map.1 h1
      have := h a ha; omega
    have hv : nextA Q now = minL (Q.map (·.at_)) - now := by rw [nextA, if_neg hQ]
    have hv2 : nextA (Q ++ [x]) now = minL ((Q ++ [x]).map (·.at_)) - now := by rw [nextA, if_neg (by simp)]
    rw [hv2]
    split
    · rename_i hc
      rw [minL_of (m := x.at_)]
      · simp
      · intro y hy
        rw [List.map_append] at hy
        rcases List.mem_append.1 hy with hy | hy
        · have := h2 y hy; omega
        · simp at hy; omega
    · rename_i hc
      rw [minL_of (m := minL (Q.map (·.at_))), hv]
      · rw [List.map_append]; exact List.mem_append.2 (.inl h1)
      · intro y hy
        rw [List.map_append] at hy
        rcases List.mem_append.1 hy with hy | hy
        · exact h2 y hy
        · simp at hy; omega
theorem ints_take (xs : List Int) (k : Nat) : (ints xs).take (k * 1) = ints (xs.take k) := by simp [ints, List.map_take]
theorem ints_drop {xs : List Int} {n : Nat} (h : xs.length = n) (k : Nat) : ((ints xs).drop (k * 1)).take ((n - k) * 1) = ints (xs.drop k) := by
  rw [List.take_of_length_le (by rw [List.length_drop, ints_length]; omega)]; simp [ints, List.map_drop]
theorem ints_all {xs : List Int} {n : Nat} (h : xs.length = n) : (ints xs).take (n * 1) = ints xs := List.take_of_length_le (by rw [ints_length]; omega)
theorem ints_app (xs ys : List Int) : ints xs ++ ints ys = ints (xs ++ ys) := by simp [ints]
theorem ints_one : ∀ (xs : List Int), (ints xs).all Value.oneCell' = true
  | [] => rfl
  | x :: xs => by have := ints_one xs; rw [ints] at this ⊢; rw [List.map_cons, List.all_cons, this]; rfl

theorem rat_ok (b : Nat) (now : Int) (Q : List En) (id : Int) (hl : Q.length ≤ 1000000) : FSpec Try.prog 25 [.pointer (some ⟨b, 0, none⟩), .int .i64 id] (fun F => ent F (isRf b now Q)) [] (fun _ : Unit => .int .i64 (atA Q id)) (fun _ => True) (fun _ => []) := by
  refine FSpec.intro (rs := [.tmp 4]) (by kernel_rfl) Try.func25 rfl Try.ntmps25 (by rfl) rfl ?_
  intro F hF
  change TC _ _ _ _ _ _ _ (sepL [_])
  refine TC.openR hF (fun x0 hx0 => ?_)
  obtain ⟨⟨a1, c1⟩, ⟨a2, c2⟩⟩ := x0
  clear hx0
  have hil := ints_length (ids Q)
  have hll := ints_length (lf now Q)
  have hi2 := ids_length Q
  have hl2 := lf_length now Q
  refine TC.seq ?_
  refine TC.region ?_
  refine q rfl rfl (asg (v := .int _ _) rfl) ?_
  refine TL.nil (nt ?_)
  refine TC.seq ?_
  refine TC.seq ?_
  refine TC.region ?_
  refine q rfl rfl (asg (v := .int _ _) rfl) ?_
  refine TL.nil (nt ?_)
  refine TC.block ?_
  refine TC.loop (ι := Nat) (fun i => i ≤ Q.length ∧ ∀ j t, j < i → Q[j]? = some t → t.id ≠ id) (fun i => [(0, .pointer (some ⟨b, 0, none⟩)), (1, .int .i64 id), (5, .int .i64 i)]) (fun i => sepL [restr F (sepL [pts b 43 [.int .i64 now, .slice a1 Q.length c1, .slice a2 Q.length c2], slc 3 1 a1 Q.length c1 (ints (ids Q)), slc 3 1 a2 Q.length c2 (ints (lf now Q))])]) (fun i => Q.length - i) 0 ⟨Nat.zero_le _, by intro j t h; omega⟩ ⟨rfl, rfl, rfl, trivial⟩ (ent_take 0 rfl (ent_nil _)) ?_
  rintro k ⟨hk, hno⟩ ρ0
  dsimp only [updL] at hk hno ⊢
  refine TC.seq ?_
  refine TC.seq ?_
  refine TC.region ?_
  refine q rfl rfl (mv (v := .int _ _) rfl) ?_
  refine q rfl rfl (mv (v := .pointer _) rfl) ?_
  first | refine q rfl rfl (nc rfl) ?_ | refine q rfl rfl (ncF rfl) ?_ | refine q rfl rfl (ncS rfl (by first | assumption | (simp [ints_length] <;> omega))) ?_
  first | refine q rfl rfl (fa 1 rfl rfl) ?_ | refine q rfl rfl (faS 1 rfl rfl (by first | assumption | (simp [ints_length] <;> omega))) ?_
  first | refine q rfl rfl (ld rfl rfl rfl) ?_ | refine q rfl rfl (ldS rfl rfl rfl) ?_
  refine q rfl rfl (len 3 1 rfl rfl) ?_
  refine q rfl rfl (lss rfl rfl) ?_
  refine TL.nil (nt ?_)
  first | refine TC.condD rfl (fun hlt => ?_) (fun hlt => ?_) | refine TC.cond rfl (fun hlt => ?_) (fun hlt => ?_)
  · have hlt2 : k < Q.length := by omega
    obtain ⟨x, hx⟩ : ∃ x, Q[k]? = some x := ⟨Q[k], List.getElem?_eq_getElem hlt2⟩
    have hxi : (ids Q)[k]? = some x.id := by rw [ids, List.getElem?_map, hx]; rfl
    have hpos : 0 < (ints (ids Q)).length := by omega
    refine TC.skip (nt ?_)
    refine TC.seq ?_
    refine TC.block ?_
    refine TC.seq ?_
    refine TC.region ?_
    refine q rfl rfl (mv (v := .pointer _) rfl) ?_
    first | refine q rfl rfl (nc rfl) ?_ | refine q rfl rfl (ncF rfl) ?_ | refine q rfl rfl (ncS rfl (by first | assumption | (simp [ints_length] <;> omega))) ?_
    first | refine q rfl rfl (fa 1 rfl rfl) ?_ | refine q rfl rfl (faS 1 rfl rfl (by first | assumption | (simp [ints_length] <;> omega))) ?_
    first | refine q rfl rfl (ld rfl rfl rfl) ?_ | refine q rfl rfl (ldS rfl rfl (ints_get hxi)) ?_ | refine q rfl rfl (ldS rfl rfl rfl) ?_
    refine q rfl rfl (mv (v := .int _ _) rfl) ?_
    first | refine q rfl rfl (ixS 3 1 rfl rfl rfl (by omega) (by first | assumption | (simp [ints_length] <;> omega))) ?_ | refine q rfl rfl (ixJ 3 1 rfl rfl rfl (by omega) (by omega) (by first | assumption | (simp [ints_length] <;> omega))) ?_ | refine q rfl rfl (ix 3 1 rfl rfl rfl (by omega) (by omega) rfl) ?_
    first | refine q rfl rfl (ld rfl rfl rfl) ?_ | refine q rfl rfl (ldS rfl rfl (ints_get hxi)) ?_ | refine q rfl rfl (ldS rfl rfl rfl) ?_
    refine q rfl rfl (mv (v := .int _ _) rfl) ?_
    refine q rfl rfl (eqI rfl rfl) ?_
    refine TL.nil (nt ?_)
    first | refine TC.condD rfl (fun he => ?_) (fun he => ?_) | refine TC.cond rfl (fun he => ?_) (fun he => ?_)
    · have hr : atA Q id = (k : Int) := by
        rw [atA, findIdx_at (p := fun x : En => decide (x.id = id)) hx (by simpa using he) (fun j t hj ht => by simpa using hno j t hj ht)]
      refine TC.seq ?_
      refine TC.region ?_
      refine q rfl rfl (mv (v := .int _ _) rfl) ?_
      refine q rfl rfl (asg (v := .int _ _) rfl) ?_
      refine TL.nil (nt ?_)
      refine TC.ret (rb (rt (rt (rb (rt ?_)))))
      exact Ret.i () [_] ⟨rfl, trivial⟩ (by rw [hr]; rfl) trivial (ent_takeF 0 rfl (ent_nil _))
    · refine TC.skip (nb (nt ?_))
      refine TC.region ?_
      refine q rfl rfl (mv (v := .int _ _) rfl) ?_
      first | refine q rfl rfl (addI rfl rfl (by omega) (by omega)) ?_ | refine q rfl rfl (add rfl rfl rfl) ?_
      refine q rfl rfl (asg (v := .int _ _) rfl) ?_
      refine TL.nil (nt ?_)
      exact ⟨rfl, (k + 1), ⟨by omega, fun j t hj ht => by rcases Nat.lt_succ_iff_lt_or_eq.1 hj with h | h; exact hno j t h ht; subst h; rw [hx] at ht; cases ht; exact he⟩, (by omega), ⟨rfl, rfl, rfl, trivial⟩, (ent_take 0 rfl (ent_nil _))⟩
  · have hr : atA Q id = -1 := atA_no (by
      rintro ⟨e1, he1, he2⟩
      obtain ⟨j, hj⟩ := List.getElem?_of_mem he1
      exact hno j e1 (by have := (List.getElem?_eq_some_iff.1 hj).1; omega) hj he2)
    refine TC.exit (et (et (eb (nt ?_))))
    refine TC.seq ?_
    refine TC.region ?_
    refine q rfl rfl (asg (v := .int _ _) rfl) ?_
    refine TL.nil (nt ?_)
    refine TC.ret ?_
    exact Ret.i () [_] ⟨rfl, trivial⟩ (by rw [hr]; rfl) trivial (ent_takeF 0 rfl (ent_nil _))

theorem rcut_ok (b : Nat) (now : Int) (Q : List En) (i : Nat) (hi : i < Q.length) (hl : Q.length ≤ 1000000) : FSpec Try.prog 26 [.pointer (some ⟨b, 0, none⟩), .int .i64 (i : Int)] noRd [isRf b now Q] (fun _ : Unit => .tuple #[]) (fun _ => True) (fun _ => [isRf b now (Q.take i ++ Q.drop (i + 1))]) := by
  refine FSpec.intro (rs := []) (by kernel_rfl) Try.func26 rfl Try.ntmps26 (by rfl) rfl ?_
  intro F _
  change TC _ _ _ _ _ _ _ (sepL [_, _])
  refine TC.open 0 rfl (fun x0 hx0 => ?_)
  obtain ⟨⟨a1, c1⟩, ⟨a2, c2⟩⟩ := x0
  clear hx0
  change TC _ _ _ _ _ _ _ (sepL [_, _, _, _])
  refine TC.factSlc 1 rfl (fun _ hc1 _ => ?_)
  refine TC.factSlc 2 rfl (fun _ hc2 _ => ?_)
  have hil := ints_length (ids Q)
  have hll := ints_length (lf now Q)
  have hi2 := ids_length Q
  have hl2 := lf_length now Q
  haveI : OffI (ints (ids Q)) c1 (i + 1) 1 := ⟨Q.length, by omega, by omega, hc1⟩
  haveI : OffI (ints (lf now Q)) c2 (i + 1) 1 := ⟨Q.length, by omega, by omega, hc2⟩
  refine TC.seq ?_
  refine TC.draw _ [19] [(0, false), (2, false), (3, false), (4, false), (5, false), (6, false), (7, false), (9, false), (10, false), (11, false), (12, false), (13, false), (14, false), (15, false), (1, true), (8, true), (16, true), (17, false), (18, false), (19, true)] (by kernel_rfl) (by kernel_rfl) (ent_take 0 rfl (ent_nil _)) ?_
  refine dq rfl rfl rfl (mv (v := .pointer _) rfl) ?_
  refine dq rfl rfl rfl (mv (v := .pointer _) rfl) ?_
  first | refine dq rfl rfl rfl (nc rfl) ?_ | refine dq rfl rfl rfl (ncF rfl) ?_ | refine dq rfl rfl rfl (ncS rfl (by first | assumption | (simp [ints_length] <;> omega))) ?_
  first | refine dq rfl rfl rfl (fa 1 rfl rfl) ?_ | refine dq rfl rfl rfl (faS 1 rfl rfl (by first | assumption | (simp [ints_length] <;> omega))) ?_
  first | refine dq rfl rfl rfl (ld rfl rfl rfl) ?_ | refine dq rfl rfl rfl (ldS rfl rfl rfl) ?_
  refine dq rfl rfl rfl (mv (v := .int _ _) rfl) ?_
  refine dq rfl rfl rfl (slTn 3 1 (i) rfl rfl rfl (by omega) (by omega)) ?_
  refine dq rfl rfl rfl (mv (v := .pointer _) rfl) ?_
  first | refine dq rfl rfl rfl (nc rfl) ?_ | refine dq rfl rfl rfl (ncF rfl) ?_ | refine dq rfl rfl rfl (ncS rfl (by first | assumption | (simp [ints_length] <;> omega))) ?_
  first | refine dq rfl rfl rfl (fa 1 rfl rfl) ?_ | refine dq rfl rfl rfl (faS 1 rfl rfl (by first | assumption | (simp [ints_length] <;> omega))) ?_
  first | refine dq rfl rfl rfl (ld rfl rfl rfl) ?_ | refine dq rfl rfl rfl (ldS rfl rfl rfl) ?_
  refine dq rfl rfl rfl (mv (v := .int _ _) rfl) ?_
  first | refine dq rfl rfl rfl (addI rfl rfl (by omega) (by omega)) ?_ | refine dq rfl rfl rfl (add rfl rfl rfl) ?_
  refine dq rfl rfl rfl (slFn 3 1 (i + 1) rfl rfl rfl (by omega) (by omega)) ?_
  refine de rfl rfl ?_
  refine bs (cs := []) rfl ?_
  intro b1
  refine ⟨(by repeat (first | exact ent_nil _ | refine ent_take 0 rfl ?_ | refine ent_take 1 rfl ?_ | refine ent_take 2 rfl ?_ | refine ent_take 3 rfl ?_ | refine ent_take 4 rfl ?_ | refine ent_take 5 rfl ?_ | refine ent_take 6 rfl ?_ | refine ent_take 7 rfl ?_)), ?_⟩
  refine de rfl rfl ?_
  refine ap 8 rfl rfl rfl rfl rfl (by omega) (ints_take (ids Q) i) (ints_one _) (by omega) (by simp only [maxLen]; omega) ?_
  intro ad1 cap1
  refine ⟨(by repeat (first | exact ent_nil _ | refine ent_take 0 rfl ?_ | refine ent_take 1 rfl ?_ | refine ent_take 2 rfl ?_ | refine ent_take 3 rfl ?_ | refine ent_take 4 rfl ?_ | refine ent_take 5 rfl ?_ | refine ent_take 6 rfl ?_ | refine ent_take 7 rfl ?_)), ?_⟩
  refine de rfl rfl ?_
  refine ap 8 rfl rfl rfl rfl rfl (by rw [List.length_drop]; omega) (ints_drop hi2 (i + 1)) (ints_one _) (by omega) (by simp only [maxLen]; omega) ?_
  intro ad2 cap2
  refine ⟨(by repeat (first | exact ent_nil _ | refine ent_take 0 rfl ?_ | refine ent_take 1 rfl ?_ | refine ent_take 2 rfl ?_ | refine ent_take 3 rfl ?_ | refine ent_take 4 rfl ?_ | refine ent_take 5 rfl ?_ | refine ent_take 6 rfl ?_ | refine ent_take 7 rfl ?_)), ?_⟩
  first | refine dq rfl rfl rfl (nc rfl) ?_ | refine dq rfl rfl rfl (ncF rfl) ?_ | refine dq rfl rfl rfl (ncS rfl (by first | assumption | (simp [ints_length] <;> omega))) ?_
  first | refine dq rfl rfl rfl (fa 1 rfl rfl) ?_ | refine dq rfl rfl rfl (faS 1 rfl rfl (by first | assumption | (simp [ints_length] <;> omega))) ?_
  refine dl0 rfl rfl rfl ?_
  refine st (v := .slice _ _ _) (vs := [_]) 1 rfl rfl rfl rfl rfl rfl (Nat.le_of_ble_eq_true rfl) rfl ?_
  refine TD.nil (nt ?_)
  refine TC.draw _ [19] [(0, false), (2, false), (3, false), (4, false), (5, false), (6, false), (7, false), (9, false), (10, false), (11, false), (12, false), (13, false), (14, false), (15, false), (1, true), (8, true), (16, true), (17, false), (18, false), (19, true)] (by kernel_rfl) (by kernel_rfl) (ent_take 0 rfl (ent_nil _)) ?_
  refine dq rfl rfl rfl (mv (v := .pointer _) rfl) ?_
  refine dq rfl rfl rfl (mv (v := .pointer _) rfl) ?_
  first | refine dq rfl rfl rfl (nc rfl) ?_ | refine dq rfl rfl rfl (ncF rfl) ?_ | refine dq rfl rfl rfl (ncS rfl (by first | assumption | (simp [ints_length] <;> omega))) ?_
  first | refine dq rfl rfl rfl (fa 2 rfl rfl) ?_ | refine dq rfl rfl rfl (faS 2 rfl rfl (by first | assumption | (simp [ints_length] <;> omega))) ?_
  first | refine dq rfl rfl rfl (ld rfl rfl rfl) ?_ | refine dq rfl rfl rfl (ldS rfl rfl rfl) ?_
  refine dq rfl rfl rfl (mv (v := .int _ _) rfl) ?_
  refine dq rfl rfl rfl (slTn 3 1 (i) rfl rfl rfl (by omega) (by omega)) ?_
  refine dq rfl rfl rfl (mv (v := .pointer _) rfl) ?_
  first | refine dq rfl rfl rfl (nc rfl) ?_ | refine dq rfl rfl rfl (ncF rfl) ?_ | refine dq rfl rfl rfl (ncS rfl (by first | assumption | (simp [ints_length] <;> omega))) ?_
  first | refine dq rfl rfl rfl (fa 2 rfl rfl) ?_ | refine dq rfl rfl rfl (faS 2 rfl rfl (by first | assumption | (simp [ints_length] <;> omega))) ?_
  first | refine dq rfl rfl rfl (ld rfl rfl rfl) ?_ | refine dq rfl rfl rfl (ldS rfl rfl rfl) ?_
  refine dq rfl rfl rfl (mv (v := .int _ _) rfl) ?_
  first | refine dq rfl rfl rfl (addI rfl rfl (by omega) (by omega)) ?_ | refine dq rfl rfl rfl (add rfl rfl rfl) ?_
  refine dq rfl rfl rfl (slFn 3 1 (i + 1) rfl rfl rfl (by omega) (by omega)) ?_
  refine de rfl rfl ?_
  refine bs (cs := []) rfl ?_
  intro b2
  refine ⟨(by repeat (first | exact ent_nil _ | refine ent_take 0 rfl ?_ | refine ent_take 1 rfl ?_ | refine ent_take 2 rfl ?_ | refine ent_take 3 rfl ?_ | refine ent_take 4 rfl ?_ | refine ent_take 5 rfl ?_ | refine ent_take 6 rfl ?_ | refine ent_take 7 rfl ?_)), ?_⟩
  refine de rfl rfl ?_
  refine ap 8 rfl rfl rfl rfl rfl (by omega) (ints_take (lf now Q) i) (ints_one _) (by omega) (by simp only [maxLen]; omega) ?_
  intro ad3 cap3
  refine ⟨(by repeat (first | exact ent_nil _ | refine ent_take 0 rfl ?_ | refine ent_take 1 rfl ?_ | refine ent_take 2 rfl ?_ | refine ent_take 3 rfl ?_ | refine ent_take 4 rfl ?_ | refine ent_take 5 rfl ?_ | refine ent_take 6 rfl ?_ | refine ent_take 7 rfl ?_)), ?_⟩
  refine de rfl rfl ?_
  refine ap 8 rfl rfl rfl rfl rfl (by rw [List.length_drop]; omega) (ints_drop hl2 (i + 1)) (ints_one _) (by omega) (by simp only [maxLen]; omega) ?_
  intro ad4 cap4
  refine ⟨(by repeat (first | exact ent_nil _ | refine ent_take 0 rfl ?_ | refine ent_take 1 rfl ?_ | refine ent_take 2 rfl ?_ | refine ent_take 3 rfl ?_ | refine ent_take 4 rfl ?_ | refine ent_take 5 rfl ?_ | refine ent_take 6 rfl ?_ | refine ent_take 7 rfl ?_)), ?_⟩
  first | refine dq rfl rfl rfl (nc rfl) ?_ | refine dq rfl rfl rfl (ncF rfl) ?_ | refine dq rfl rfl rfl (ncS rfl (by first | assumption | (simp [ints_length] <;> omega))) ?_
  first | refine dq rfl rfl rfl (fa 2 rfl rfl) ?_ | refine dq rfl rfl rfl (faS 2 rfl rfl (by first | assumption | (simp [ints_length] <;> omega))) ?_
  refine dl0 rfl rfl rfl ?_
  refine st (v := .slice _ _ _) (vs := [_]) 1 rfl rfl rfl rfl rfl rfl (Nat.le_of_ble_eq_true rfl) rfl ?_
  refine TD.nil ?_
  exact Ret.n () [] trivial rfl trivial (ent_close ⟨(ad2, cap2), (ad4, cap4)⟩ trivial (ent_takeE 0 rfl (by rw [cutL_len hi, show 0 + i + (Q.length - (i + 1)) = Q.length - 1 from by omega]; rfl) (ent_takeE 1 rfl (by rw [cutL_len hi, show 0 + i + (Q.length - (i + 1)) = Q.length - 1 from by omega, List.nil_append, ints_app]; simp [ids]) (ent_takeE 0 rfl (by rw [cutL_len hi, show 0 + i + (Q.length - (i + 1)) = Q.length - 1 from by omega, List.nil_append, ints_app]; simp [lf]) (ent_take 2 rfl (ent_nil _))))))

theorem rof_ok (b : Nat) (now : Int) (Q : List En) (id : Int) (hl : Q.length ≤ 1000000) (hn : Nd Q) : FSpec Try.prog 22 [.pointer (some ⟨b, 0, none⟩), .int .i64 id] (fun F => ent F (isRf b now Q)) [] (fun _ : Unit => .int .i64 (leftA Q now id)) (fun _ => True) (fun _ => []) := by
  refine FSpec.intro (rs := [.tmp 4]) (by kernel_rfl) Try.func22 rfl Try.ntmps22 (by rfl) rfl ?_
  intro F hF
  change TC _ _ _ _ _ _ _ (sepL [_])
  refine TC.seq ?_
  refine TC.region ?_
  refine q rfl rfl (asg (v := .int _ _) rfl) ?_
  refine TL.nil (nt ?_)
  refine TC.seq ?_
  refine TC.region ?_
  refine q rfl rfl (mv (v := .pointer _) rfl) ?_
  refine q rfl rfl (mv (v := .int _ _) rfl) ?_
  refine e rfl ?_
  refine cl (rat_ok b now Q id hl) rfl (picked_nil _) ((ent_one 0 rfl).trans hF) ?_
  intro _ _
  change TL _ _ _ _ _ _ _ _ (sepL [_])
  by_cases hy : hasA Q id
  · obtain ⟨i, x, h1, h2, h3⟩ := atA_yes hy
    rw [h1]
    have hil := (List.getElem?_eq_some_iff.1 h2).1
    have hR := left_yes hn (List.mem_of_getElem? h2) now
    rw [h3] at hR
    rw [hR]
    have hxl : (lf now Q)[i]? = some (x.at_ - now) := by rw [lf, List.getElem?_map, h2]; rfl
    refine q rfl rfl (asg (v := .int _ _) rfl) ?_
    refine TL.nil (nt ?_)
    refine TC.seq ?_
    refine TC.seq ?_
    refine TC.region ?_
    refine q rfl rfl (mv (v := .int _ _) rfl) ?_
    refine q rfl rfl (lss rfl rfl) ?_
    refine TL.nil (nt ?_)
    refine TC.condD rfl (fun hc1 => absurd hc1 (by omega)) (fun hc1 => ?_)
    refine TC.skip (nt ?_)
    refine TC.seq ?_
    refine TC.openR hF (fun x0 hx0 => ?_)
    obtain ⟨⟨a1, c1⟩, ⟨a2, c2⟩⟩ := x0
    clear hx0
    have hil := ints_length (ids Q)
    have hll := ints_length (lf now Q)
    have hi2 := ids_length Q
    have hl2 := lf_length now Q
    have hpos : 0 < (ints (lf now Q)).length := by omega
    refine TC.region ?_
    refine q rfl rfl (mv (v := .pointer _) rfl) ?_
    first | refine q rfl rfl (nc rfl) ?_ | refine q rfl rfl (ncF rfl) ?_ | refine q rfl rfl (ncS rfl (by first | assumption | (simp [ints_length] <;> omega))) ?_
    first | refine q rfl rfl (fa 2 rfl rfl) ?_ | refine q rfl rfl (faS 2 rfl rfl (by first | assumption | (simp [ints_length] <;> omega))) ?_
    first | refine q rfl rfl (ld rfl rfl rfl) ?_ | refine q rfl rfl (ldS rfl rfl (ints_get hxl)) ?_ | refine q rfl rfl (ldS rfl rfl rfl) ?_
    refine q rfl rfl (mv (v := .int _ _) rfl) ?_
    first | refine q rfl rfl (ixS 3 1 rfl rfl rfl (by omega) (by first | assumption | (simp [ints_length] <;> omega))) ?_ | refine q rfl rfl (ixJ 3 1 rfl rfl rfl (by omega) (by omega) (by first | assumption | (simp [ints_length] <;> omega))) ?_ | refine q rfl rfl (ix 3 1 rfl rfl rfl (by omega) (by omega) rfl) ?_
    first | refine q rfl rfl (ld rfl rfl rfl) ?_ | refine q rfl rfl (ldS rfl rfl (ints_get hxl)) ?_ | refine q rfl rfl (ldS rfl rfl rfl) ?_
    refine q rfl rfl (asg (v := .int _ _) rfl) ?_
    refine TL.nil (nt ?_)
    refine TC.ret ?_
    exact Ret.i () [_] ⟨rfl, trivial⟩ rfl trivial (ent_takeF 0 rfl (ent_nil _))
  · rw [atA_no hy, left_no hy]
    refine q rfl rfl (asg (v := .int _ _) rfl) ?_
    refine TL.nil (nt ?_)
    refine TC.seq ?_
    refine TC.seq ?_
    refine TC.region ?_
    refine q rfl rfl (mv (v := .int _ _) rfl) ?_
    refine q rfl rfl (lss rfl rfl) ?_
    refine TL.nil (nt ?_)
    refine TC.condD rfl (fun hc2 => ?_) (fun hc2 => absurd (by decide) hc2)
    refine TC.seq ?_
    refine TC.region ?_
    refine q rfl rfl (asg (v := .int _ _) rfl) ?_
    refine TL.nil (nt ?_)
    refine TC.ret (rt ?_)
    exact Ret.i () [_] ⟨rfl, trivial⟩ rfl trivial (ent_take 0 rfl (ent_nil _))

theorem rset_ok (b : Nat) (now tn : Int) (Q : List En) (id ticks : Int) (hl : Q.length ≤ 1000000) : FSpec Try.prog 18 [.pointer (some ⟨b, 0, none⟩), .int .i64 id, .int .i64 ticks] noRd [isRf b now Q] (fun _ : Unit => .int .i64 (setA Q now tn id ticks).2.2) (fun _ => True) (fun _ => [isRf b now (setA Q now tn id ticks).1]) := by
  refine FSpec.intro (rs := [.tmp 6]) (by kernel_rfl) Try.func18 rfl Try.ntmps18 (by rfl) rfl ?_
  intro F _
  change TC _ _ _ _ _ _ _ (sepL [_, _])
  refine TC.seq ?_
  refine TC.region ?_
  refine q rfl rfl (asg (v := .int _ _) rfl) ?_
  refine TL.nil (nt ?_)
  refine TC.seq ?_
  refine TC.seq ?_
  refine TC.region ?_
  refine q rfl rfl (mv (v := .int _ _) rfl) ?_
  refine q rfl rfl (lss rfl rfl) ?_
  refine q rfl rfl (mv (v := .bool _) rfl) ?_
  refine TL.split 9 rfl (fun hs0 => ?_) (fun hs0 => ?_)
  · have hs0 := of_decide_eq_true hs0
    have hR : setA Q now tn id ticks = (Q, tn, 1) := by rw [setA, if_pos (by omega)]
    rw [hR]
    dsimp only
    refine qs rfl rfl ?_
    refine qs rfl rfl ?_
    first | refine q rfl rfl (pkT rfl rfl) ?_ | refine q rfl rfl (pkF rfl rfl) ?_
    refine q rfl rfl (mv (v := .bool _) rfl) ?_
    refine qs rfl rfl ?_
    refine qs rfl rfl ?_
    first | refine q rfl rfl (pkT rfl rfl) ?_ | refine q rfl rfl (pkF rfl rfl) ?_
    refine TL.nil (nt ?_)
    refine TC.condT rfl ?_
    refine TC.seq ?_
    refine TC.region ?_
    refine q rfl rfl (asg (v := .int _ _) rfl) ?_
    refine TL.nil (nt ?_)
    refine TC.ret (rt ?_)
    exact Ret.i () [_] ⟨rfl, trivial⟩ rfl trivial (ent_take 0 rfl (ent_take 0 rfl (ent_nil _)))
  · have hs0 := of_decide_eq_false hs0
    refine qg rfl rfl rfl (mv (v := .int _ _) rfl) ?_
    refine qg rfl rfl rfl (lss rfl rfl) ?_
    first | refine q rfl rfl (pkT rfl rfl) ?_ | refine q rfl rfl (pkF rfl rfl) ?_
    refine q rfl rfl (mv (v := .bool _) rfl) ?_
    refine TL.split 13 rfl (fun hs1 => ?_) (fun hs1 => ?_)
    · have hs1 := of_decide_eq_true hs1
      have hR : setA Q now tn id ticks = (Q, tn, 1) := by rw [setA, if_pos (by omega)]
      rw [hR]
      dsimp only
      refine qs rfl rfl ?_
      refine qs rfl rfl ?_
      first | refine q rfl rfl (pkT rfl rfl) ?_ | refine q rfl rfl (pkF rfl rfl) ?_
      refine TL.nil (nt ?_)
      refine TC.condT rfl ?_
      refine TC.seq ?_
      refine TC.region ?_
      refine q rfl rfl (asg (v := .int _ _) rfl) ?_
      refine TL.nil (nt ?_)
      refine TC.ret (rt ?_)
      exact Ret.i () [_] ⟨rfl, trivial⟩ rfl trivial (ent_take 0 rfl (ent_take 0 rfl (ent_nil _)))
    · have hs1 := of_decide_eq_false hs1
      refine qg rfl rfl rfl (mv (v := .int _ _) rfl) ?_
      refine qg rfl rfl rfl (gtr rfl rfl) ?_
      first | refine q rfl rfl (pkT rfl rfl) ?_ | refine q rfl rfl (pkF rfl rfl) ?_
      refine TL.nil (nt ?_)
      first | refine TC.condD rfl (fun hs2 => ?_) (fun hs2 => ?_) | refine TC.cond rfl (fun hs2 => ?_) (fun hs2 => ?_)
      · have hR : setA Q now tn id ticks = (Q, tn, 1) := by rw [setA, if_pos (by omega)]
        rw [hR]
        dsimp only
        refine TC.seq ?_
        refine TC.region ?_
        refine q rfl rfl (asg (v := .int _ _) rfl) ?_
        refine TL.nil (nt ?_)
        refine TC.ret (rt ?_)
        exact Ret.i () [_] ⟨rfl, trivial⟩ rfl trivial (ent_take 0 rfl (ent_take 0 rfl (ent_nil _)))
      · refine TC.skip (nt ?_)
        refine TC.seq ?_
        refine TC.seq ?_
        refine TC.region ?_
        refine q rfl rfl (mv (v := .pointer _) rfl) ?_
        refine q rfl rfl (mv (v := .int _ _) rfl) ?_
        refine e rfl ?_
        refine cl (rat_ok b now Q id hl) rfl (picked_nil _) (ent_one 0 rfl) ?_
        intro _ _
        change TL _ _ _ _ _ _ _ _ (sepL [_, _])
        by_cases hy : hasA Q id
        · obtain ⟨i, x, h1, h2, h3⟩ := atA_yes hy
          rw [h1]
          have hR : setA Q now tn id ticks = (Q, tn, 7) := by rw [setA, if_neg (by omega), if_pos hy]
          rw [hR]
          dsimp only
          refine q rfl rfl (geq rfl rfl) ?_
          refine TL.nil (nt ?_)
          refine TC.condD rfl (fun hc3 => ?_) (fun hc3 => absurd (by omega) hc3)
          refine TC.seq ?_
          refine TC.region ?_
          refine q rfl rfl (asg (v := .int _ _) rfl) ?_
          refine TL.nil (nt ?_)
          refine TC.ret (rt ?_)
          exact Ret.i () [_] ⟨rfl, trivial⟩ rfl trivial (ent_take 0 rfl (ent_take 0 rfl (ent_nil _)))
        · rw [atA_no hy]
          have hR : setA Q now tn id ticks = (Q ++ [⟨now + ticks, tn + 1, id⟩], tn + 1, 0) := by rw [setA, if_neg (by omega), if_neg hy]
          rw [hR]
          dsimp only
          refine q rfl rfl (geq rfl rfl) ?_
          refine TL.nil (nt ?_)
          refine TC.condD rfl (fun hc4 => absurd hc4 (by decide)) (fun hc4 => ?_)
          refine TC.open 0 rfl (fun x0 hx0 => ?_)
          obtain ⟨⟨a1, c1⟩, ⟨a2, c2⟩⟩ := x0
          clear hx0
          change TC _ _ _ _ _ _ _ (sepL [_, _, _, _])
          have hil := ints_length (ids Q)
          have hll := ints_length (lf now Q)
          have hi2 := ids_length Q
          have hl2 := lf_length now Q
          have hlf : ints (lf now Q) ++ ints [ticks] = ints (lf now (Q ++ [⟨now + ticks, tn + 1, id⟩])) := by
            rw [ints_app, lf, lf, List.map_append, List.map_singleton, show now + ticks - now = ticks from by omega]
          refine TC.skip (nt ?_)
          refine TC.seq ?_
          refine TC.region ?_
          refine q rfl rfl (mv (v := .pointer _) rfl) ?_
          refine e rfl ?_
          refine bs (cs := []) rfl ?_
          intro b3
          refine q rfl rfl (mv (v := .pointer _) rfl) ?_
          first | refine q rfl rfl (nc rfl) ?_ | refine q rfl rfl (ncF rfl) ?_ | refine q rfl rfl (ncS rfl (by first | assumption | (simp [ints_length] <;> omega))) ?_
          first | refine q rfl rfl (fa 1 rfl rfl) ?_ | refine q rfl rfl (faS 1 rfl rfl (by first | assumption | (simp [ints_length] <;> omega))) ?_
          first | refine q rfl rfl (ld rfl rfl rfl) ?_ | refine q rfl rfl (ldS rfl rfl rfl) ?_
          refine e rfl ?_
          refine ap 8 rfl rfl rfl rfl rfl (by omega) (ints_all hi2) (ints_one _) (by omega) (by simp only [maxLen]; omega) ?_
          intro ad5 cap5
          refine q rfl rfl (mv (v := .int _ _) rfl) ?_
          refine e rfl ?_
          refine bs (cs := [.int _ _]) rfl ?_
          intro b4
          refine e rfl ?_
          refine ap 8 rfl rfl rfl rfl rfl (Nat.le_of_ble_eq_true rfl) (show _ = ints [id] from rfl) rfl (by omega) (by simp only [maxLen]; omega) ?_
          intro ad6 cap6
          first | refine q rfl rfl (nc rfl) ?_ | refine q rfl rfl (ncF rfl) ?_ | refine q rfl rfl (ncS rfl (by first | assumption | (simp [ints_length] <;> omega))) ?_
          first | refine q rfl rfl (fa 1 rfl rfl) ?_ | refine q rfl rfl (faS 1 rfl rfl (by first | assumption | (simp [ints_length] <;> omega))) ?_
          refine e0 ?_
          refine st (v := .slice _ _ _) (vs := [_]) 1 rfl rfl rfl rfl rfl rfl (Nat.le_of_ble_eq_true rfl) rfl ?_
          refine TL.nil (nt ?_)
          refine TC.seq ?_
          refine TC.region ?_
          refine q rfl rfl (mv (v := .pointer _) rfl) ?_
          refine e rfl ?_
          refine bs (cs := []) rfl ?_
          intro b5
          refine q rfl rfl (mv (v := .pointer _) rfl) ?_
          first | refine q rfl rfl (nc rfl) ?_ | refine q rfl rfl (ncF rfl) ?_ | refine q rfl rfl (ncS rfl (by first | assumption | (simp [ints_length] <;> omega))) ?_
          first | refine q rfl rfl (fa 2 rfl rfl) ?_ | refine q rfl rfl (faS 2 rfl rfl (by first | assumption | (simp [ints_length] <;> omega))) ?_
          first | refine q rfl rfl (ld rfl rfl rfl) ?_ | refine q rfl rfl (ldS rfl rfl rfl) ?_
          refine e rfl ?_
          refine ap 8 rfl rfl rfl rfl rfl (by omega) (ints_all hl2) (ints_one _) (by omega) (by simp only [maxLen]; omega) ?_
          intro ad7 cap7
          refine q rfl rfl (mv (v := .int _ _) rfl) ?_
          refine e rfl ?_
          refine bs (cs := [.int _ _]) rfl ?_
          intro b6
          refine e rfl ?_
          refine ap 8 rfl rfl rfl rfl rfl (Nat.le_of_ble_eq_true rfl) (show _ = ints [ticks] from rfl) rfl (by omega) (by simp only [maxLen]; omega) ?_
          intro ad8 cap8
          first | refine q rfl rfl (nc rfl) ?_ | refine q rfl rfl (ncF rfl) ?_ | refine q rfl rfl (ncS rfl (by first | assumption | (simp [ints_length] <;> omega))) ?_
          first | refine q rfl rfl (fa 2 rfl rfl) ?_ | refine q rfl rfl (faS 2 rfl rfl (by first | assumption | (simp [ints_length] <;> omega))) ?_
          refine e0 ?_
          refine st (v := .slice _ _ _) (vs := [_]) 1 rfl rfl rfl rfl rfl rfl (Nat.le_of_ble_eq_true rfl) rfl ?_
          refine TL.nil (nt ?_)
          refine TC.seq ?_
          refine TC.region ?_
          refine q rfl rfl (asg (v := .int _ _) rfl) ?_
          refine TL.nil (nt ?_)
          refine TC.ret ?_
          exact Ret.i () [_] ⟨rfl, trivial⟩ rfl trivial (ent_close ⟨(ad6, cap6), (ad8, cap8)⟩ trivial (ent_takeE 0 rfl (by simp only [List.length_append, Nat.zero_add, List.length_singleton]; rfl) (ent_takeE 2 rfl (by rw [List.nil_append, List.length_append, Nat.zero_add, ints_app]; simp [ids]) (ent_takeE 0 rfl (by rw [List.nil_append, List.length_append, Nat.zero_add, hlf]; rfl) (ent_take 4 rfl (ent_nil _))))))

theorem rclear_ok (b : Nat) (now : Int) (Q : List En) (a2 : Option Addr) (c2 : Nat) (xs : List Int) (hl : Q.length ≤ 1000000) (hx : xs.length ≤ 1000000) (hn : Nd Q) : FSpec Try.prog 19 [.pointer (some ⟨b, 0, none⟩), .slice a2 xs.length c2] (fun F => ∃ E, RdS F E a2 (ints xs)) [isRf b now Q] (fun _ : Unit => .int .i64 ((Q.length : Int) - (clrA Q xs).length)) (fun _ => True) (fun _ => [isRf b now (clrA Q xs)]) := by
  refine FSpec.intro (rs := [.tmp 4]) (by kernel_rfl) Try.func19 rfl Try.ntmps19 (by rfl) rfl ?_
  intro F ⟨E, hF⟩
  change TC _ _ _ _ _ _ _ (sepL [_, _])
  haveI : RdSI F a2 E (ints xs) := ⟨hF⟩
  have hxl := ints_length xs
  refine TC.seq ?_
  refine TC.region ?_
  refine q rfl rfl (asg (v := .int _ _) rfl) ?_
  refine TL.nil (nt ?_)
  refine TC.seq ?_
  refine TC.region ?_
  refine q rfl rfl (asg (v := .int _ _) rfl) ?_
  refine TL.nil (nt ?_)
  refine TC.seq ?_
  refine TC.seq ?_
  refine TC.region ?_
  refine q rfl rfl (asg (v := .int _ _) rfl) ?_
  refine TL.nil (nt ?_)
  refine TC.block ?_
  refine TC.loop (ι := Nat × List En) (fun s => s.1 ≤ xs.length ∧ s.2 = clrA Q (xs.take s.1) ∧ Nd s.2) (fun s => [(0, .pointer (some ⟨b, 0, none⟩)), (1, .slice a2 xs.length c2), (5, .int .i64 ((Q.length : Int) - (s.2.length : Int))), (6, .int .i64 ((s.1 : Nat) : Int))]) (fun s => sepL [isRf b now s.2, F]) (fun s => xs.length - s.1) ⟨0, Q⟩ ⟨Nat.zero_le _, rfl, hn⟩ ⟨rfl, rfl, congrArg (Value.int .i64) (Int.sub_self _).symm, rfl, trivial⟩ (ent_take 0 rfl (ent_take 0 rfl (ent_nil _))) ?_
  rintro ⟨k, Z⟩ ⟨hk, hZ, hnZ⟩ ρ0
  dsimp only [updL] at hk hZ hnZ ⊢
  refine TC.seq ?_
  refine TC.seq ?_
  refine TC.region ?_
  refine q rfl rfl (mv (v := .int _ _) rfl) ?_
  refine q rfl rfl (mv (v := .slice _ _ _) rfl) ?_
  refine q rfl rfl (len 3 1 rfl rfl) ?_
  refine q rfl rfl (lss rfl rfl) ?_
  refine TL.nil (nt ?_)
  first | refine TC.condD rfl (fun hlt => ?_) (fun hlt => ?_) | refine TC.cond rfl (fun hlt => ?_) (fun hlt => ?_)
  · have hkx : k < xs.length := by omega
    obtain ⟨x, hxk⟩ : ∃ x, xs[k]? = some x := ⟨xs[k], List.getElem?_eq_getElem hkx⟩
    have hpos : 0 < (ints xs).length := by omega
    have htk : clrA Q (xs.take (k + 1)) = offA Z x := by rw [List.take_add_one, hxk, Option.toList, clrA_snoc, hZ]
    have hZl : Z.length ≤ Q.length := by rw [hZ]; exact (clrA_sub Q _).length_le
    refine TC.skip (nt ?_)
    refine TC.seq ?_
    refine TC.block ?_
    refine TC.seq ?_
    refine TC.region ?_
    refine q rfl rfl (mv (v := .pointer _) rfl) ?_
    refine q rfl rfl (mv (v := .slice _ _ _) rfl) ?_
    refine q rfl rfl (mv (v := .int _ _) rfl) ?_
    first | refine q rfl rfl (ixS 3 1 rfl rfl rfl (by omega) (by first | assumption | (simp [ints_length] <;> omega))) ?_ | refine q rfl rfl (ixJ 3 1 rfl rfl rfl (by omega) (by omega) (by first | assumption | (simp [ints_length] <;> omega))) ?_ | refine q rfl rfl (ix 3 1 rfl rfl rfl (by omega) (by omega) rfl) ?_
    first | refine q rfl rfl (ld rfl rfl rfl) ?_ | refine q rfl rfl (ldS rfl rfl (ints_get hxk)) ?_ | refine q rfl rfl (ldS rfl rfl rfl) ?_
    refine e rfl ?_
    refine cl (rat_ok b now Z x (by omega)) rfl (picked_nil _) (ent_one 0 rfl) ?_
    intro _ _
    change TL _ _ _ _ _ _ _ _ (sepL [_, _])
    by_cases hy : hasA Z x
    · obtain ⟨i, u, h1, h2, h3⟩ := atA_yes hy
      rw [h1]
      have hil := (List.getElem?_eq_some_iff.1 h2).1
      have hco := cut_off hnZ h2
      rw [h3] at hco
      have hol := off_length hy hnZ
      refine q rfl rfl (asg (v := .int _ _) rfl) ?_
      refine TL.nil (nt ?_)
      refine TC.seq ?_
      refine TC.region ?_
      refine q rfl rfl (mv (v := .int _ _) rfl) ?_
      refine q rfl rfl (geq rfl rfl) ?_
      refine TL.nil (nt ?_)
      refine TC.condD rfl (fun hc5 => ?_) (fun hc5 => absurd (by omega) hc5)
      refine TC.seq ?_
      refine TC.region ?_
      refine q rfl rfl (mv (v := .pointer _) rfl) ?_
      refine q rfl rfl (mv (v := .int _ _) rfl) ?_
      refine e rfl ?_
      refine cl (rcut_ok b now Z i hil (by omega)) rfl (picked_cons 0 rfl (picked_nil _)) trivial ?_
      intro _ _
      change TL _ _ _ _ _ _ _ _ (sepL [_, _])
      rw [hco]
      refine TL.nil (nt ?_)
      refine TC.region ?_
      refine q rfl rfl (mv (v := .int _ _) rfl) ?_
      first | refine q rfl rfl (addI rfl rfl (by omega) (by omega)) ?_ | refine q rfl rfl (add rfl rfl rfl) ?_
      refine q rfl rfl (asg (v := .int _ _) rfl) ?_
      refine TL.nil (nb (nt ?_))
      refine TC.region ?_
      refine q rfl rfl (mv (v := .int _ _) rfl) ?_
      first | refine q rfl rfl (addI rfl rfl (by omega) (by omega)) ?_ | refine q rfl rfl (add rfl rfl rfl) ?_
      refine q rfl rfl (asg (v := .int _ _) rfl) ?_
      refine TL.nil (nt ?_)
      exact ⟨rfl, ⟨k + 1, offA Z x⟩, ⟨by dsimp only; omega, htk.symm, hnZ.sublist (List.filter_sublist.map _)⟩, (by dsimp only; omega), ⟨rfl, rfl, congrArg (Value.int .i64) (by dsimp only; omega), rfl, trivial⟩, (ent_take 0 rfl (ent_take 0 rfl (ent_nil _)))⟩
    · rw [atA_no hy]
      have hon := off_none hy
      refine q rfl rfl (asg (v := .int _ _) rfl) ?_
      refine TL.nil (nt ?_)
      refine TC.seq ?_
      refine TC.region ?_
      refine q rfl rfl (mv (v := .int _ _) rfl) ?_
      refine q rfl rfl (geq rfl rfl) ?_
      refine TL.nil (nt ?_)
      refine TC.condD rfl (fun hc6 => absurd hc6 (by decide)) (fun hc6 => ?_)
      refine TC.skip (nb (nt ?_))
      refine TC.region ?_
      refine q rfl rfl (mv (v := .int _ _) rfl) ?_
      first | refine q rfl rfl (addI rfl rfl (by omega) (by omega)) ?_ | refine q rfl rfl (add rfl rfl rfl) ?_
      refine q rfl rfl (asg (v := .int _ _) rfl) ?_
      refine TL.nil (nt ?_)
      exact ⟨rfl, ⟨k + 1, Z⟩, ⟨by dsimp only; omega, by dsimp only; rw [htk, hon], hnZ⟩, (by dsimp only; omega), ⟨rfl, rfl, rfl, rfl, trivial⟩, (ent_take 0 rfl (ent_take 0 rfl (ent_nil _)))⟩
  · obtain rfl : k = xs.length := by omega
    rw [List.take_length] at hZ
    subst hZ
    refine TC.exit (et (et (eb (nt ?_))))
    refine TC.seq ?_
    refine TC.region ?_
    refine q rfl rfl (mv (v := .int _ _) rfl) ?_
    refine q rfl rfl (asg (v := .int _ _) rfl) ?_
    refine TL.nil (nt ?_)
    refine TC.ret ?_
    exact Ret.i () [_] ⟨rfl, trivial⟩ rfl trivial (ent_take 0 rfl (ent_take 0 rfl (ent_nil _)))

theorem rnext_ok (b : Nat) (now : Int) (Q : List En) (hl : Q.length ≤ 1000000) (ht : ∀ x ∈ Q, now < x.at_) : FSpec Try.prog 21 [.pointer (some ⟨b, 0, none⟩)] (fun F => ent F (isRf b now Q)) [] (fun _ : Unit => .int .i64 (nextA Q now)) (fun _ => True) (fun _ => []) := by
  refine FSpec.intro (rs := [.tmp 2]) (by kernel_rfl) Try.func21 rfl Try.ntmps21 (by rfl) rfl ?_
  intro F hF
  change TC _ _ _ _ _ _ _ (sepL [_])
  refine TC.openR hF (fun x0 hx0 => ?_)
  obtain ⟨⟨a1, c1⟩, ⟨a2, c2⟩⟩ := x0
  clear hx0
  have hil := ints_length (ids Q)
  have hll := ints_length (lf now Q)
  have hi2 := ids_length Q
  have hl2 := lf_length now Q
  refine TC.seq ?_
  refine TC.region ?_
  refine q rfl rfl (asg (v := .int _ _) rfl) ?_
  refine TL.nil (nt ?_)
  refine TC.seq ?_
  refine TC.region ?_
  refine q rfl rfl (asg (v := .int _ _) rfl) ?_
  refine TL.nil (nt ?_)
  refine TC.seq ?_
  refine TC.seq ?_
  refine TC.region ?_
  refine q rfl rfl (asg (v := .int _ _) rfl) ?_
  refine TL.nil (nt ?_)
  refine TC.block ?_
  refine TC.loop (ι := Nat × Int) (fun s => s.1 ≤ Q.length ∧ s.2 = nextA (Q.take s.1) now) (fun s => [(0, .pointer (some ⟨b, 0, none⟩)), (3, .int .i64 s.2), (4, .int .i64 ((s.1 : Nat) : Int))]) (fun s => sepL [restr F (sepL [pts b 43 [.int .i64 now, .slice a1 Q.length c1, .slice a2 Q.length c2], slc 3 1 a1 Q.length c1 (ints (ids Q)), slc 3 1 a2 Q.length c2 (ints (lf now Q))])]) (fun s => Q.length - s.1) ⟨0, 0⟩ ⟨Nat.zero_le _, rfl⟩ ⟨rfl, rfl, rfl, trivial⟩ (ent_take 0 rfl (ent_nil _)) ?_
  rintro ⟨k, m⟩ ⟨hk, hm⟩ ρ0
  dsimp only [updL] at hk hm ⊢
  refine TC.seq ?_
  refine TC.seq ?_
  refine TC.region ?_
  refine q rfl rfl (mv (v := .int _ _) rfl) ?_
  refine q rfl rfl (mv (v := .pointer _) rfl) ?_
  first | refine q rfl rfl (nc rfl) ?_ | refine q rfl rfl (ncF rfl) ?_ | refine q rfl rfl (ncS rfl (by first | assumption | (simp [ints_length] <;> omega))) ?_
  first | refine q rfl rfl (fa 2 rfl rfl) ?_ | refine q rfl rfl (faS 2 rfl rfl (by first | assumption | (simp [ints_length] <;> omega))) ?_
  first | refine q rfl rfl (ld rfl rfl rfl) ?_ | refine q rfl rfl (ldS rfl rfl rfl) ?_
  refine q rfl rfl (len 3 1 rfl rfl) ?_
  refine q rfl rfl (lss rfl rfl) ?_
  refine TL.nil (nt ?_)
  first | refine TC.condD rfl (fun hlt => ?_) (fun hlt => ?_) | refine TC.cond rfl (fun hlt => ?_) (fun hlt => ?_)
  · have hlt2 : k < Q.length := by omega
    obtain ⟨x, hx⟩ : ∃ x, Q[k]? = some x := ⟨Q[k], List.getElem?_eq_getElem hlt2⟩
    have hxl : (lf now Q)[k]? = some (x.at_ - now) := by rw [lf, List.getElem?_map, hx]; rfl
    have hpos : 0 < (ints (lf now Q)).length := by omega
    have hsn := next_snoc (ht x (List.mem_of_getElem? hx)) (Q := Q.take k) (fun a ha => ht a (List.mem_of_mem_take ha))
    have htk : Q.take (k + 1) = Q.take k ++ [x] := by rw [List.take_add_one, hx]; rfl
    rw [← htk, ← hm] at hsn
    refine TC.skip (nt ?_)
    refine TC.seq ?_
    refine TC.block ?_
    refine TC.seq ?_
    refine TC.region ?_
    refine q rfl rfl (mv (v := .int _ _) rfl) ?_
    refine q rfl rfl (eqI rfl rfl) ?_
    refine q rfl rfl (mv (v := .bool _) rfl) ?_
    refine TL.split 16 rfl (fun h0 => ?_) (fun h0 => ?_)
    · have h0 := of_decide_eq_true h0
      refine qs rfl rfl ?_
      refine qs rfl rfl ?_
      refine qs rfl rfl ?_
      refine qs rfl rfl ?_
      refine qs rfl rfl ?_
      refine qs rfl rfl ?_
      refine qs rfl rfl ?_
      refine qs rfl rfl ?_
      refine qs rfl rfl ?_
      first | refine q rfl rfl (pkT rfl rfl) ?_ | refine q rfl rfl (pkF rfl rfl) ?_
      refine TL.nil (nt ?_)
      refine TC.condT rfl ?_
      refine TC.region ?_
      refine q rfl rfl (mv (v := .pointer _) rfl) ?_
      first | refine q rfl rfl (nc rfl) ?_ | refine q rfl rfl (ncF rfl) ?_ | refine q rfl rfl (ncS rfl (by first | assumption | (simp [ints_length] <;> omega))) ?_
      first | refine q rfl rfl (fa 2 rfl rfl) ?_ | refine q rfl rfl (faS 2 rfl rfl (by first | assumption | (simp [ints_length] <;> omega))) ?_
      first | refine q rfl rfl (ld rfl rfl rfl) ?_ | refine q rfl rfl (ldS rfl rfl (ints_get hxl)) ?_ | refine q rfl rfl (ldS rfl rfl rfl) ?_
      refine q rfl rfl (mv (v := .int _ _) rfl) ?_
      first | refine q rfl rfl (ixS 3 1 rfl rfl rfl (by omega) (by first | assumption | (simp [ints_length] <;> omega))) ?_ | refine q rfl rfl (ixJ 3 1 rfl rfl rfl (by omega) (by omega) (by first | assumption | (simp [ints_length] <;> omega))) ?_ | refine q rfl rfl (ix 3 1 rfl rfl rfl (by omega) (by omega) rfl) ?_
      first | refine q rfl rfl (ld rfl rfl rfl) ?_ | refine q rfl rfl (ldS rfl rfl (ints_get hxl)) ?_ | refine q rfl rfl (ldS rfl rfl rfl) ?_
      refine q rfl rfl (asg (v := .int _ _) rfl) ?_
      refine TL.nil (nb (nt ?_))
      refine TC.region ?_
      refine q rfl rfl (mv (v := .int _ _) rfl) ?_
      first | refine q rfl rfl (addI rfl rfl (by omega) (by omega)) ?_ | refine q rfl rfl (add rfl rfl rfl) ?_
      refine q rfl rfl (asg (v := .int _ _) rfl) ?_
      refine TL.nil (nt ?_)
      exact ⟨rfl, ⟨k + 1, x.at_ - now⟩, ⟨by dsimp only; omega, by dsimp only; rw [hsn, if_pos (.inl h0)]⟩, (by dsimp only; omega), ⟨rfl, rfl, rfl, trivial⟩, (ent_take 0 rfl (ent_nil _))⟩
    · have h0 := of_decide_eq_false h0
      refine qg rfl rfl rfl (mv (v := .pointer _) rfl) ?_
      first | refine qg rfl rfl rfl (nc rfl) ?_ | refine qg rfl rfl rfl (ncF rfl) ?_ | refine qg rfl rfl rfl (ncS rfl (by first | assumption | (simp [ints_length] <;> omega))) ?_
      first | refine qg rfl rfl rfl (fa 2 rfl rfl) ?_ | refine qg rfl rfl rfl (faS 2 rfl rfl (by first | assumption | (simp [ints_length] <;> omega))) ?_
      first | refine qg rfl rfl rfl (ld rfl rfl rfl) ?_ | refine qg rfl rfl rfl (ldS rfl rfl (ints_get hxl)) ?_ | refine qg rfl rfl rfl (ldS rfl rfl rfl) ?_
      refine qg rfl rfl rfl (mv (v := .int _ _) rfl) ?_
      first | refine qg rfl rfl rfl (ixS 3 1 rfl rfl rfl (by omega) (by first | assumption | (simp [ints_length] <;> omega))) ?_ | refine qg rfl rfl rfl (ixJ 3 1 rfl rfl rfl (by omega) (by omega) (by first | assumption | (simp [ints_length] <;> omega))) ?_ | refine qg rfl rfl rfl (ix 3 1 rfl rfl rfl (by omega) (by omega) rfl) ?_
      first | refine qg rfl rfl rfl (ld rfl rfl rfl) ?_ | refine qg rfl rfl rfl (ldS rfl rfl (ints_get hxl)) ?_ | refine qg rfl rfl rfl (ldS rfl rfl rfl) ?_
      refine qg rfl rfl rfl (mv (v := .int _ _) rfl) ?_
      refine qg rfl rfl rfl (lss rfl rfl) ?_
      first | refine q rfl rfl (pkT rfl rfl) ?_ | refine q rfl rfl (pkF rfl rfl) ?_
      refine TL.nil (nt ?_)
      first | refine TC.condD rfl (fun hs => ?_) (fun hs => ?_) | refine TC.cond rfl (fun hs => ?_) (fun hs => ?_)
      · refine TC.region ?_
        refine q rfl rfl (mv (v := .pointer _) rfl) ?_
        first | refine q rfl rfl (nc rfl) ?_ | refine q rfl rfl (ncF rfl) ?_ | refine q rfl rfl (ncS rfl (by first | assumption | (simp [ints_length] <;> omega))) ?_
        first | refine q rfl rfl (fa 2 rfl rfl) ?_ | refine q rfl rfl (faS 2 rfl rfl (by first | assumption | (simp [ints_length] <;> omega))) ?_
        first | refine q rfl rfl (ld rfl rfl rfl) ?_ | refine q rfl rfl (ldS rfl rfl (ints_get hxl)) ?_ | refine q rfl rfl (ldS rfl rfl rfl) ?_
        refine q rfl rfl (mv (v := .int _ _) rfl) ?_
        first | refine q rfl rfl (ixS 3 1 rfl rfl rfl (by omega) (by first | assumption | (simp [ints_length] <;> omega))) ?_ | refine q rfl rfl (ixJ 3 1 rfl rfl rfl (by omega) (by omega) (by first | assumption | (simp [ints_length] <;> omega))) ?_ | refine q rfl rfl (ix 3 1 rfl rfl rfl (by omega) (by omega) rfl) ?_
        first | refine q rfl rfl (ld rfl rfl rfl) ?_ | refine q rfl rfl (ldS rfl rfl (ints_get hxl)) ?_ | refine q rfl rfl (ldS rfl rfl rfl) ?_
        refine q rfl rfl (asg (v := .int _ _) rfl) ?_
        refine TL.nil (nb (nt ?_))
        refine TC.region ?_
        refine q rfl rfl (mv (v := .int _ _) rfl) ?_
        first | refine q rfl rfl (addI rfl rfl (by omega) (by omega)) ?_ | refine q rfl rfl (add rfl rfl rfl) ?_
        refine q rfl rfl (asg (v := .int _ _) rfl) ?_
        refine TL.nil (nt ?_)
        exact ⟨rfl, ⟨k + 1, x.at_ - now⟩, ⟨by dsimp only; omega, by dsimp only; rw [hsn, if_pos (.inr hs)]⟩, (by dsimp only; omega), ⟨rfl, rfl, rfl, trivial⟩, (ent_take 0 rfl (ent_nil _))⟩
      · refine TC.skip (nb (nt ?_))
        refine TC.region ?_
        refine q rfl rfl (mv (v := .int _ _) rfl) ?_
        first | refine q rfl rfl (addI rfl rfl (by omega) (by omega)) ?_ | refine q rfl rfl (add rfl rfl rfl) ?_
        refine q rfl rfl (asg (v := .int _ _) rfl) ?_
        refine TL.nil (nt ?_)
        exact ⟨rfl, ⟨k + 1, m⟩, ⟨by dsimp only; omega, by dsimp only; rw [hsn, if_neg (by omega)]⟩, (by dsimp only; omega), ⟨rfl, rfl, rfl, trivial⟩, (ent_take 0 rfl (ent_nil _))⟩
  · obtain rfl : k = Q.length := by omega
    rw [List.take_length] at hm
    subst hm
    refine TC.exit (et (et (eb (nt ?_))))
    refine TC.seq ?_
    refine TC.region ?_
    refine q rfl rfl (mv (v := .int _ _) rfl) ?_
    refine q rfl rfl (asg (v := .int _ _) rfl) ?_
    refine TL.nil (nt ?_)
    refine TC.ret ?_
    exact Ret.i () [_] ⟨rfl, trivial⟩ rfl trivial (ent_takeF 0 rfl (ent_nil _))

theorem rtick_ok (b : Nat) (now : Int) (Q : List En) (hl : Q.length ≤ 1000000) (hb : 0 ≤ now ∧ now ≤ 1000000000000) (ht : ∀ x ∈ Q, now < x.at_ ∧ x.at_ ≤ 2000000000000) (hn : Nd Q) : FSpec Try.prog 20 [.pointer (some ⟨b, 0, none⟩)] noRd [isRf b now Q] (fun y : Option Addr × Nat => .slice y.1 (ids (dueA (now + 1) Q)).length y.2) (fun _ => True) (fun y => [isRf b (now + 1) (restA (now + 1) Q), slc 3 1 y.1 (ids (dueA (now + 1) Q)).length y.2 (ints (ids (dueA (now + 1) Q)))]) := by
  refine FSpec.intro (rs := [.tmp 2]) (by kernel_rfl) Try.func20 rfl Try.ntmps20 (by rfl) rfl ?_
  intro F _
  change TC _ _ _ _ _ _ _ (sepL [_, _])
  refine TC.open 0 rfl (fun x0 hx0 => ?_)
  obtain ⟨⟨a1, c1⟩, ⟨a2, c2⟩⟩ := x0
  clear hx0
  change TC _ _ _ _ _ _ _ (sepL [_, _, _, _])
  have hil := ints_length (ids Q)
  have hll := ints_length (lf now Q)
  have hi2 := ids_length Q
  have hl2 := lf_length now Q
  refine TC.seq ?_
  refine TC.region ?_
  refine q rfl rfl (asg (v := .slice _ _ _) rfl) ?_
  refine TL.nil (nt ?_)
  refine TC.seq ?_
  refine TC.region ?_
  refine q rfl rfl (mv (v := .pointer _) rfl) ?_
  first | refine q rfl rfl (nc rfl) ?_ | refine q rfl rfl (ncF rfl) ?_ | refine q rfl rfl (ncS rfl (by first | assumption | (simp [ints_length] <;> omega))) ?_
  first | refine q rfl rfl (fa 0 rfl rfl) ?_ | refine q rfl rfl (faS 0 rfl rfl (by first | assumption | (simp [ints_length] <;> omega))) ?_
  first | refine q rfl rfl (ld rfl rfl rfl) ?_ | refine q rfl rfl (ldS rfl rfl rfl) ?_
  first | refine q rfl rfl (addI rfl rfl (by omega) (by omega)) ?_ | refine q rfl rfl (add rfl rfl rfl) ?_
  first | refine q rfl rfl (nc rfl) ?_ | refine q rfl rfl (ncF rfl) ?_ | refine q rfl rfl (ncS rfl (by first | assumption | (simp [ints_length] <;> omega))) ?_
  first | refine q rfl rfl (fa 0 rfl rfl) ?_ | refine q rfl rfl (faS 0 rfl rfl (by first | assumption | (simp [ints_length] <;> omega))) ?_
  refine e0 ?_
  refine st (v := .int _ _) (vs := [_]) 1 rfl rfl rfl rfl rfl rfl (Nat.le_of_ble_eq_true rfl) rfl ?_
  refine TL.nil (nt ?_)
  refine TC.seq ?_
  refine TC.region ?_
  refine q rfl rfl (asg (v := .slice _ _ _) rfl) ?_
  refine TL.nil (nt ?_)
  refine TC.seq ?_
  refine TC.seq ?_
  refine TC.region ?_
  refine q rfl rfl (asg (v := .int _ _) rfl) ?_
  refine TL.nil (nt ?_)
  refine TC.block ?_
  refine TC.loop (ι := Nat × (Option Addr × Nat)) (fun s => s.1 ≤ Q.length) (fun s => [(0, .pointer (some ⟨b, 0, none⟩)), (3, .slice s.2.1 (ids (dueA (now + 1) (Q.take s.1))).length s.2.2), (4, .int .i64 ((s.1 : Nat) : Int))]) (fun s => sepL [pts b 43 [.int .i64 (now + 1), .slice a1 Q.length c1, .slice a2 Q.length c2], slc 3 1 a1 Q.length c1 (ints (ids Q)), slc 3 1 a2 Q.length c2 (ints (lf (now + 1) (Q.take s.1) ++ lf now (Q.drop s.1))), slc 3 1 s.2.1 (ids (dueA (now + 1) (Q.take s.1))).length s.2.2 (ints (ids (dueA (now + 1) (Q.take s.1)))), F]) (fun s => Q.length - s.1) ⟨0, (none, 0)⟩ (Nat.zero_le _) ⟨rfl, rfl, rfl, trivial⟩ ((slc_nil 3 1 _).trans (ent_take 1 rfl (ent_take 1 rfl (ent_take 1 rfl (ent_take 0 rfl (ent_take 0 rfl (ent_nil _))))))) ?_
  rintro ⟨k, ⟨oa, oc⟩⟩ hk ρ0
  dsimp only [updL] at hk ⊢
  refine TC.seq ?_
  refine TC.seq ?_
  refine TC.region ?_
  refine q rfl rfl (mv (v := .int _ _) rfl) ?_
  refine q rfl rfl (mv (v := .pointer _) rfl) ?_
  first | refine q rfl rfl (nc rfl) ?_ | refine q rfl rfl (ncF rfl) ?_ | refine q rfl rfl (ncS rfl (by first | assumption | (simp [ints_length] <;> omega))) ?_
  first | refine q rfl rfl (fa 1 rfl rfl) ?_ | refine q rfl rfl (faS 1 rfl rfl (by first | assumption | (simp [ints_length] <;> omega))) ?_
  first | refine q rfl rfl (ld rfl rfl rfl) ?_ | refine q rfl rfl (ldS rfl rfl rfl) ?_
  refine q rfl rfl (len 3 1 rfl rfl) ?_
  refine q rfl rfl (lss rfl rfl) ?_
  refine TL.nil (nt ?_)
  first | refine TC.condD rfl (fun hlt => ?_) (fun hlt => ?_) | refine TC.cond rfl (fun hlt => ?_) (fun hlt => ?_)
  · have hlt2 : k < Q.length := by omega
    obtain ⟨x, hx⟩ : ∃ x, Q[k]? = some x := ⟨Q[k], List.getElem?_eq_getElem hlt2⟩
    have hxr := ht x (List.mem_of_getElem? hx)
    have hlk : (lf (now + 1) (Q.take k) ++ lf now (Q.drop k)).length = Q.length := by rw [List.length_append, lf_length, lf_length, List.length_take, List.length_drop]; omega
    have hlki := ints_length (lf (now + 1) (Q.take k) ++ lf now (Q.drop k))
    have hl1 : (lf (now + 1) (Q.take k)).length = k := by rw [lf_length, List.length_take]; omega
    have hdr : Q.drop k = x :: Q.drop (k + 1) := by
      obtain ⟨g1, g2⟩ := List.getElem?_eq_some_iff.1 hx
      rw [← g2]; exact List.drop_eq_getElem_cons g1
    have hxk : (lf (now + 1) (Q.take k) ++ lf now (Q.drop k))[k]? = some (x.at_ - now) := by
      rw [List.getElem?_append_right (by omega), hl1, Nat.sub_self, hdr]; rfl
    have htk : Q.take (k + 1) = Q.take k ++ [x] := by rw [List.take_add_one, hx]; rfl
    have hset : (lf (now + 1) (Q.take k) ++ lf now (Q.drop k)).set k (x.at_ - now - 1) = (lf (now + 1) (Q.take (k + 1)) ++ lf now (Q.drop (k + 1))) := by
      rw [List.set_append_right _ _ (by omega), hl1, Nat.sub_self, hdr, htk]
      simp only [lf, List.map_cons, List.set_cons_zero, List.map_append, List.map_nil, List.append_assoc, List.cons_append, List.nil_append]
      congr 2; omega
    have hxk2 : (lf (now + 1) (Q.take (k + 1)) ++ lf now (Q.drop (k + 1)))[k]? = some (x.at_ - now - 1) := by rw [← hset]; exact List.getElem?_set_self (by omega)
    have hxi : (ids Q)[k]? = some x.id := by rw [ids, List.getElem?_map, hx]; rfl
    have hpos : 0 < (ints (lf (now + 1) (Q.take k) ++ lf now (Q.drop k))).length := by omega
    have hlk2 : (lf (now + 1) (Q.take (k + 1)) ++ lf now (Q.drop (k + 1))).length = Q.length := by rw [← hset, List.length_set]; exact hlk
    have hpos2 : 0 < (ints (lf (now + 1) (Q.take (k + 1)) ++ lf now (Q.drop (k + 1)))).length := by rw [ints_length]; omega
    have hpos3 : 0 < (ints (ids Q)).length := by omega
    have hdk := due_le (now + 1) (Q.take k)
    have htl : (Q.take k).length = k := by rw [List.length_take]; omega
    have hdue : dueA (now + 1) (Q.take (k + 1)) = if x.at_ - now - 1 = 0 then dueA (now + 1) (Q.take k) ++ [x] else dueA (now + 1) (Q.take k) := by
      rw [htk, dueA, List.filter_append]
      split
      · rw [List.filter_cons_of_pos (by simp; omega)]; rfl
      · rw [List.filter_cons_of_neg (by simp; omega)]; exact List.append_nil _
    refine TC.skip (nt ?_)
    refine TC.seq ?_
    refine TC.block ?_
    refine TC.seq ?_
    refine TC.region ?_
    refine q rfl rfl (mv (v := .pointer _) rfl) ?_
    first | refine q rfl rfl (nc rfl) ?_ | refine q rfl rfl (ncF rfl) ?_ | refine q rfl rfl (ncS rfl (by first | assumption | (simp [ints_length] <;> omega))) ?_
    first | refine q rfl rfl (fa 2 rfl rfl) ?_ | refine q rfl rfl (faS 2 rfl rfl (by first | assumption | (simp [ints_length] <;> omega))) ?_
    first | refine q rfl rfl (ld rfl rfl rfl) ?_ | refine q rfl rfl (ldS rfl rfl (ints_get hxk)) ?_ | refine q rfl rfl (ldS rfl rfl (ints_get hxk2)) ?_ | refine q rfl rfl (ldS rfl rfl (ints_get hxi)) ?_ | refine q rfl rfl (ldS rfl rfl rfl) ?_
    refine q rfl rfl (mv (v := .int _ _) rfl) ?_
    first | refine q rfl rfl (ixS 3 1 rfl rfl rfl (by omega) (by first | assumption | (simp [ints_length] <;> omega))) ?_ | refine q rfl rfl (ixJ 3 1 rfl rfl rfl (by omega) (by omega) (by first | assumption | (simp [ints_length] <;> omega))) ?_ | refine q rfl rfl (ix 3 1 rfl rfl rfl (by omega) (by omega) rfl) ?_
    first | refine q rfl rfl (ld rfl rfl rfl) ?_ | refine q rfl rfl (ldS rfl rfl (ints_get hxk)) ?_ | refine q rfl rfl (ldS rfl rfl (ints_get hxk2)) ?_ | refine q rfl rfl (ldS rfl rfl (ints_get hxi)) ?_ | refine q rfl rfl (ldS rfl rfl rfl) ?_
    first | refine q rfl rfl (subI rfl rfl (by omega) (by omega)) ?_ | refine q rfl rfl (sub rfl rfl rfl) ?_
    first | refine q rfl rfl (ixS 3 1 rfl rfl rfl (by omega) (by first | assumption | (simp [ints_length] <;> omega))) ?_ | refine q rfl rfl (ixJ 3 1 rfl rfl rfl (by omega) (by omega) (by first | assumption | (simp [ints_length] <;> omega))) ?_ | refine q rfl rfl (ix 3 1 rfl rfl rfl (by omega) (by omega) rfl) ?_
    refine e0 ?_
    first | refine st (v := .int _ _) (vs := [_]) 1 rfl rfl rfl rfl rfl rfl (Nat.le_of_ble_eq_true rfl) rfl ?_ | refine stS (v := .int _ _) (vs := [_]) 1 rfl rfl rfl rfl rfl rfl (by decide) (by omega) ((ints_splice (i := k) (by omega) (by omega) _).trans (congrArg ints hset)) ?_
    refine TL.nil (nt ?_)
    refine TC.seq ?_
    refine TC.region ?_
    refine q rfl rfl (mv (v := .pointer _) rfl) ?_
    first | refine q rfl rfl (nc rfl) ?_ | refine q rfl rfl (ncF rfl) ?_ | refine q rfl rfl (ncS rfl (by first | assumption | (simp [ints_length] <;> omega))) ?_
    first | refine q rfl rfl (fa 2 rfl rfl) ?_ | refine q rfl rfl (faS 2 rfl rfl (by first | assumption | (simp [ints_length] <;> omega))) ?_
    first | refine q rfl rfl (ld rfl rfl rfl) ?_ | refine q rfl rfl (ldS rfl rfl (ints_get hxk)) ?_ | refine q rfl rfl (ldS rfl rfl (ints_get hxk2)) ?_ | refine q rfl rfl (ldS rfl rfl (ints_get hxi)) ?_ | refine q rfl rfl (ldS rfl rfl rfl) ?_
    refine q rfl rfl (mv (v := .int _ _) rfl) ?_
    first | refine q rfl rfl (ixS 3 1 rfl rfl rfl (by omega) (by first | assumption | (simp [ints_length] <;> omega))) ?_ | refine q rfl rfl (ixJ 3 1 rfl rfl rfl (by omega) (by omega) (by first | assumption | (simp [ints_length] <;> omega))) ?_ | refine q rfl rfl (ix 3 1 rfl rfl rfl (by omega) (by omega) rfl) ?_
    first | refine q rfl rfl (ld rfl rfl rfl) ?_ | refine q rfl rfl (ldS rfl rfl (ints_get hxk)) ?_ | refine q rfl rfl (ldS rfl rfl (ints_get hxk2)) ?_ | refine q rfl rfl (ldS rfl rfl (ints_get hxi)) ?_ | refine q rfl rfl (ldS rfl rfl rfl) ?_
    refine q rfl rfl (eqI rfl rfl) ?_
    refine TL.nil (nt ?_)
    first | refine TC.condD rfl (fun h0 => ?_) (fun h0 => ?_) | refine TC.cond rfl (fun h0 => ?_) (fun h0 => ?_)
    · rw [if_pos h0] at hdue
      refine TC.region ?_
      refine q rfl rfl (mv (v := .slice _ _ _) rfl) ?_
      refine q rfl rfl (mv (v := .pointer _) rfl) ?_
      first | refine q rfl rfl (nc rfl) ?_ | refine q rfl rfl (ncF rfl) ?_ | refine q rfl rfl (ncS rfl (by first | assumption | (simp [ints_length] <;> omega))) ?_
      first | refine q rfl rfl (fa 1 rfl rfl) ?_ | refine q rfl rfl (faS 1 rfl rfl (by first | assumption | (simp [ints_length] <;> omega))) ?_
      first | refine q rfl rfl (ld rfl rfl rfl) ?_ | refine q rfl rfl (ldS rfl rfl (ints_get hxk)) ?_ | refine q rfl rfl (ldS rfl rfl (ints_get hxk2)) ?_ | refine q rfl rfl (ldS rfl rfl (ints_get hxi)) ?_ | refine q rfl rfl (ldS rfl rfl rfl) ?_
      refine q rfl rfl (mv (v := .int _ _) rfl) ?_
      first | refine q rfl rfl (ixS 3 1 rfl rfl rfl (by omega) (by first | assumption | (simp [ints_length] <;> omega))) ?_ | refine q rfl rfl (ixJ 3 1 rfl rfl rfl (by omega) (by omega) (by first | assumption | (simp [ints_length] <;> omega))) ?_ | refine q rfl rfl (ix 3 1 rfl rfl rfl (by omega) (by omega) rfl) ?_
      first | refine q rfl rfl (ld rfl rfl rfl) ?_ | refine q rfl rfl (ldS rfl rfl (ints_get hxk)) ?_ | refine q rfl rfl (ldS rfl rfl (ints_get hxk2)) ?_ | refine q rfl rfl (ldS rfl rfl (ints_get hxi)) ?_ | refine q rfl rfl (ldS rfl rfl rfl) ?_
      refine e rfl ?_
      refine bs (cs := [.int _ _]) rfl ?_
      intro b7
      refine e rfl ?_
      refine ap 8 rfl rfl rfl rfl rfl (Nat.le_of_ble_eq_true rfl) (show _ = ints [x.id] from rfl) rfl (by omega) (by simp only [maxLen]; omega) ?_
      intro ad9 cap9
      refine q rfl rfl (asg (v := .slice _ _ _) rfl) ?_
      refine TL.nil (nb (nt ?_))
      refine TC.region ?_
      refine q rfl rfl (mv (v := .int _ _) rfl) ?_
      first | refine q rfl rfl (addI rfl rfl (by omega) (by omega)) ?_ | refine q rfl rfl (add rfl rfl rfl) ?_
      refine q rfl rfl (asg (v := .int _ _) rfl) ?_
      refine TL.nil (nt ?_)
      exact ⟨rfl, ⟨k + 1, (ad9, cap9)⟩, (by dsimp only; omega), (by dsimp only; omega), ⟨rfl, congrArg (fun n => Value.slice _ n _) (by dsimp only; rw [hdue]; simp [ids]), rfl, trivial⟩, (ent_take 3 rfl (ent_take 3 rfl (ent_take 2 rfl (ent_takeE 0 rfl (by dsimp only; rw [hdue]; simp [ids, ints]) (ent_take 1 rfl (ent_nil _))))))⟩
    · rw [if_neg h0] at hdue
      refine TC.skip (nb (nt ?_))
      refine TC.region ?_
      refine q rfl rfl (mv (v := .int _ _) rfl) ?_
      first | refine q rfl rfl (addI rfl rfl (by omega) (by omega)) ?_ | refine q rfl rfl (add rfl rfl rfl) ?_
      refine q rfl rfl (asg (v := .int _ _) rfl) ?_
      refine TL.nil (nt ?_)
      exact ⟨rfl, ⟨k + 1, (oa, oc)⟩, (by dsimp only; omega), (by dsimp only; omega), ⟨rfl, congrArg (fun n => Value.slice _ n _) (by dsimp only; rw [hdue]), rfl, trivial⟩, (ent_take 1 rfl (ent_take 1 rfl (ent_take 0 rfl (ent_takeE 0 rfl (by dsimp only; rw [hdue]) (ent_take 0 rfl (ent_nil _))))))⟩
  · obtain rfl : k = Q.length := by omega
    have hcd := clr_due hn (now + 1)
    have hdl := due_le (now + 1) Q
    rw [List.take_length, List.drop_length, show lf now [] = [] from rfl, List.append_nil]
    refine TC.weak (B := sepL [isRf b (now + 1) Q, slc 3 1 oa (ids (dueA (now + 1) Q)).length oc (ints (ids (dueA (now + 1) Q))), F]) (ent_close ⟨(a1, c1), (a2, c2)⟩ trivial (ent_take 0 rfl (ent_take 0 rfl (ent_take 0 rfl (ent_take 0 rfl (ent_take 0 rfl (ent_nil _))))))) ?_
    refine TC.exit (et (et (eb (nt ?_))))
    refine TC.seq ?_
    refine TC.region ?_
    refine q rfl rfl (mv (v := .pointer _) rfl) ?_
    refine q rfl rfl (mv (v := .slice _ _ _) rfl) ?_
    refine e rfl ?_
    refine cl (rclear_ok b (now + 1) Q oa oc (ids (dueA (now + 1) Q)) hl (by omega) hn) rfl (picked_cons 0 rfl (picked_nil _)) ⟨_, RdSI.rd⟩ ?_
    intro _ _
    change TL _ _ _ _ _ _ _ _ (sepL [_, _, _])
    rw [hcd]
    refine TL.nil (nt ?_)
    refine TC.seq ?_
    refine TC.region ?_
    refine q rfl rfl (mv (v := .slice _ _ _) rfl) ?_
    refine q rfl rfl (asg (v := .slice _ _ _) rfl) ?_
    refine TL.nil (nt ?_)
    refine TC.ret ?_
    exact Ret.i ⟨oa, oc⟩ [_] ⟨rfl, trivial⟩ rfl trivial (ent_take 0 rfl (ent_take 0 rfl (ent_take 0 rfl (ent_nil _))))

end Go.Proofs.Ytdikkmgcjhllaaa
