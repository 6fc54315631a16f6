/-
  Proved here: what functions of this program compute, each as a contract over symbolic states, under the premises that each theorem names (most lines printed by a program of the prover).
-/
import Derived.Test.YtffoeolgjgpmjaaFoK
namespace Go.Proofs.Ytffoeolgjgpmjaa
open Go Go.QM
def ndC (t : Fn) : List Value := ints [t.id, t.par, t.sp, t.sl]
theorem ndC_sz (t : Fn) : (ndC t).length = 4 := rfl
def ndsC (S : List Fn) : List Value := S.flatMap ndC
theorem ndsC_length (S : List Fn) : (ndsC S).length = S.length * 4 := flat_length ndC_sz S
theorem nds_take (S : List Fn) (k : Nat) : (ndsC S).take (k * 4) = ndsC (S.take k) := flat_take ndC_sz S k
theorem nds_drop (S : List Fn) (k : Nat) : ((ndsC S).drop (k * 4)).take ((S.length - k) * 4) = ndsC (S.drop k) := by
  rw [List.take_of_length_le (by rw [List.length_drop, ndsC_length]; omega)]; exact flat_drop ndC_sz S k
theorem nds_all (S : List Fn) : (ndsC S).take (S.length * 4) = ndsC S := List.take_of_length_le (by rw [ndsC_length]; omega)
theorem nds_one : ∀ (S : List Fn), (ndsC S).all Value.oneCell' = true
  | [] => rfl
  | t :: S => by have := nds_one S; rw [ndsC] at this ⊢; rw [List.flatMap_cons, List.all_append, this]; rfl
theorem nds_app (S T : List Fn) : ndsC S ++ ndsC T = ndsC (S ++ T) := by simp [ndsC]
theorem sps_all (S : List (Int × Int)) : (spsC S).take (S.length * 2) = spsC S := List.take_of_length_le (by rw [spsC_length]; omega)
def isRf (b : Nat) (L : List Fn) (last : Int) : HP := EX fun y : Option Addr × Nat => pure' True (sepL [pts b 42 [.slice y.1 L.length y.2, .int .i64 last], slc 53 4 y.1 L.length y.2 (ndsC L)])
def atN (L : List Fn) (id : Int) : Int := match L.findIdx? fun x => decide (x.id = id) with
  | some i => (i : Int)
  | none => -1
theorem atN_no {L : List Fn} {id : Int} (h : ¬ hasN L id) : atN L id = -1 := by
  have : L.findIdx? (fun x => decide (x.id = id)) = none := by
    rw [List.findIdx?_eq_none_iff]; intro x hx; simp only [decide_eq_false_iff_not]; exact fun e2 => h ⟨x, hx, e2⟩
  rw [atN, this]
theorem atN_yes {L : List Fn} (hn : NdN L) {t : Fn} (ht : t ∈ L) : ∃ i : Nat, atN L t.id = (i : Int) ∧ L[i]? = some t := by
  cases hf : L.findIdx? (fun x => decide (x.id = t.id)) with
  | none =>
    rw [List.findIdx?_eq_none_iff] at hf
    have := hf t ht; simp at this
  | some i =>
    obtain ⟨x, h1, h2⟩ := find_of_findIdx hf
    have := List.find?_some h2
    have h3 := hn.inj (List.mem_of_getElem? h1) ht (by simpa using this)
    exact ⟨i, by rw [atN, hf], by rw [h1, h3]⟩
theorem cutL_off {L : List Fn} {i : Nat} {x : Fn} (hn : NdN L) (hx : L[i]? = some x) : L.take i ++ L.drop (i + 1) = offN L x.id := by
  have hp := perm_take hx
  have hs : ∀ a ∈ L.take i ++ L.drop (i + 1), a.id ≠ x.id := fun a ha e2 => (List.nodup_cons.1 (hn.perm hp.symm)).1 (List.mem_map.2 ⟨a, ha, e2⟩)
  obtain ⟨h1, h2⟩ := List.getElem?_eq_some_iff.1 hx
  have hQ : L = L.take i ++ x :: L.drop (i + 1) := by rw [← h2, ← List.drop_eq_getElem_cons h1, List.take_append_drop]
  conv => rhs; rw [hQ]
  rw [offN, List.filter_append, List.filter_cons_of_neg (by simp)]
  rw [List.filter_eq_self.2 (fun a ha => by simpa using hs a (by simp [ha])), List.filter_eq_self.2 (fun a ha => by simpa using hs a (by simp [ha]))]
theorem cutL_len {L : List Fn} {i : Nat} (h : i < L.length) : (L.take i ++ L.drop (i + 1)).length = L.length - 1 := by simp; omega
theorem kids_snoc {L : List Fn} {k : Nat} {t : Fn} (ht : L[k]? = some t) (p : Int) : kidsN (L.take (k + 1)) p = kidsN (L.take k) p ++ if t.par = p ∧ p ≠ 0 then [t.id] else [] := by
  rw [List.take_add_one, ht, Option.toList, kidsN_app]
  split
  · rename_i h; rw [kidsN_one h.1 h.2]
  · rename_i h
    by_cases h0 : p = 0
    · rw [h0, kidsN_zero, kidsN_zero, List.append_nil]
    · rw [kidsN_one_ne (fun e => h ⟨e, h0⟩)]
theorem PF.kids {L : List Fn} {last : Int} (h : PF L last) (p : Int) : kidsR L p = kidsN L p := by
  rw [kidsR]
  split
  · rfl
  · rename_i hp
    symm
    rw [List.eq_nil_iff_forall_not_mem]
    intro k hk
    obtain ⟨h0, t, ht, h1, rfl⟩ := kidsN_mem.1 hk
    rcases h.pr t ht with h2 | h2
    · omega
    · rw [h1] at h2; exact hp h2
theorem PF.bel {L : List Fn} {last : Int} (h : PF L last) (p : Int) : belR L last p = belL L last p := by
  rw [belR]
  split
  · rfl
  · rename_i hp
    have := h.kids p
    rw [kidsR, if_neg hp] at this
    rw [belL_eq h.wi, ← this]; rfl
theorem bel_snoc {L : List Fn} {last : Int} {K : List Int} {k : Nat} {x : Int} (hx : K[k]? = some x) : (K.take (k + 1)).flatMap (postL L last) = (K.take k).flatMap (postL L last) ++ belL L last x ++ [x] := by
  rw [List.take_add_one, hx, Option.toList, List.flatMap_append, List.append_assoc]; simp [postL]
theorem bel_part {L : List Fn} {last : Int} (h : WI L last) (p : Int) (k : Nat) : (((kidsN L p).take k).flatMap (postL L last)).length ≤ L.length := by
  have h1 := bel_len h p
  rw [belL_eq h] at h1
  have h2 : (((kidsN L p).take k).flatMap (postL L last)).length ≤ ((kidsN L p).flatMap (postL L last)).length := by
    conv => rhs; rw [← List.take_append_drop k (kidsN L p), List.flatMap_append, List.length_append]
    omega
  omega

theorem rat_ok (b : Nat) (L : List Fn) (last : Int) (hl : L.length ≤ 1000000) (id : Int) : FSpec Try.prog 33 [.pointer (some ⟨b, 0, none⟩), .int .i64 id] (fun F => ent F (isRf b L last)) [] (fun _ : Unit => .int .i64 (atN L id)) (fun _ => True) (fun _ => []) := by
  refine FSpec.intro (rs := [.tmp 4]) (by kernel_rfl) Try.func33 rfl Try.ntmps33 (by rfl) rfl ?_
  intro F hF
  change TC _ _ _ _ _ _ _ (sepL [_])
  refine TC.openR hF (fun x0 hx0 => ?_)
  obtain ⟨a1, c1⟩ := x0
  clear hx0
  dsimp only
  have hil := ndsC_length L
  refine TC.seq ?_
  refine TC.region ?_
  refine q rfl rfl (asg (v := .int _ _) rfl) ?_
  refine TL.nil (nt ?_)
  refine TC.seq ?_
  refine TC.seq ?_
  refine TC.region ?_
  refine q rfl rfl (asg (v := .int _ _) rfl) ?_
  refine TL.nil (nt ?_)
  refine TC.block ?_
  refine TC.loop (ι := Nat) (fun i => i ≤ L.length ∧ ∀ j t, j < i → L[j]? = some t → t.id ≠ id) (fun i => [(0, .pointer (some ⟨b, 0, none⟩)), (1, .int .i64 id), (5, .int .i64 ((i : Nat) : Int))]) (fun i => sepL [restr F (sepL [pts b 42 [.slice a1 L.length c1, .int .i64 last], slc 53 4 a1 L.length c1 (ndsC L)])]) (fun i => L.length - i) 0 ⟨Nat.zero_le _, by intro j t h; omega⟩ ⟨rfl, rfl, rfl, trivial⟩ (ent_take 0 rfl (ent_nil _)) ?_
  rintro k ⟨hk, hno⟩ ρ0
  dsimp only [updL] at hk hno ⊢
  refine TC.seq ?_
  refine TC.seq ?_
  refine TC.region ?_
  refine q rfl rfl (mv (v := .int _ _) rfl) ?_
  refine q rfl rfl (mv (v := .pointer _) rfl) ?_
  first | refine q rfl rfl (nc rfl) ?_ | refine q rfl rfl (ncF rfl) ?_ | refine q rfl rfl (ncS rfl (by first | assumption | (simp [ints_length] <;> omega))) ?_
  first | refine q rfl rfl (fa 0 rfl rfl) ?_ | refine q rfl rfl (faS 0 rfl rfl (by first | assumption | (simp [ints_length] <;> omega))) ?_
  first | refine q rfl rfl (ld rfl rfl rfl) ?_ | refine q rfl rfl (ldS rfl rfl rfl) ?_
  refine q rfl rfl (len 53 4 rfl rfl) ?_
  refine q rfl rfl (lss rfl rfl) ?_
  refine TL.nil (nt ?_)
  first | refine TC.condD rfl (fun hlt => ?_) (fun hlt => ?_) | refine TC.cond rfl (fun hlt => ?_) (fun hlt => ?_)
  · have hlt2 : k < L.length := by omega
    obtain ⟨x, hx⟩ : ∃ x, L[k]? = some x := ⟨L[k], List.getElem?_eq_getElem hlt2⟩
    have hpos : 0 < (ndsC L).length := by omega
    refine TC.skip (nt ?_)
    refine TC.seq ?_
    refine TC.block ?_
    refine TC.seq ?_
    refine TC.region ?_
    refine q rfl rfl (mv (v := .pointer _) rfl) ?_
    first | refine q rfl rfl (nc rfl) ?_ | refine q rfl rfl (ncF rfl) ?_ | refine q rfl rfl (ncS rfl (by first | assumption | (simp [ints_length] <;> omega))) ?_
    first | refine q rfl rfl (fa 0 rfl rfl) ?_ | refine q rfl rfl (faS 0 rfl rfl (by first | assumption | (simp [ints_length] <;> omega))) ?_
    first | refine q rfl rfl (ld rfl rfl rfl) ?_ | refine q rfl rfl (ldS rfl rfl (flat_ld ndC_sz hx 0 (by omega) rfl)) ?_ | refine q rfl rfl (ldS rfl rfl rfl) ?_
    refine q rfl rfl (mv (v := .int _ _) rfl) ?_
    first | refine q rfl rfl (ixS 53 4 rfl rfl rfl (by omega) (by first | assumption | (simp [ints_length] <;> omega))) ?_ | refine q rfl rfl (ixJ 53 4 rfl rfl rfl (by omega) (by omega) (by first | assumption | (simp [ints_length] <;> omega))) ?_ | refine q rfl rfl (ix 53 4 rfl rfl rfl (by omega) (by omega) rfl) ?_
    first | refine q rfl rfl (fa 0 rfl rfl) ?_ | refine q rfl rfl (faS 0 rfl rfl (by first | assumption | (simp [ints_length] <;> omega))) ?_
    first | refine q rfl rfl (ld rfl rfl rfl) ?_ | refine q rfl rfl (ldS rfl rfl (flat_ld ndC_sz hx 0 (by omega) rfl)) ?_ | refine q rfl rfl (ldS rfl rfl rfl) ?_
    refine q rfl rfl (mv (v := .int _ _) rfl) ?_
    refine q rfl rfl (eqI rfl rfl) ?_
    refine TL.nil (nt ?_)
    first | refine TC.condD rfl (fun he => ?_) (fun he => ?_) | refine TC.cond rfl (fun he => ?_) (fun he => ?_)
    · have hr : atN L id = (k : Int) := by
        rw [atN, findIdx_at (p := fun x : Fn => decide (x.id = id)) hx (by simpa using he) (fun j t hj ht => by simpa using hno j t hj ht)]
      refine TC.seq ?_
      refine TC.region ?_
      refine q rfl rfl (mv (v := .int _ _) rfl) ?_
      refine q rfl rfl (asg (v := .int _ _) rfl) ?_
      refine TL.nil (nt ?_)
      refine TC.ret (rb (rt (rt (rb (rt ?_)))))
      exact Ret.i () [_] ⟨rfl, trivial⟩ (by rw [hr]; rfl) trivial (ent_takeF 0 rfl (ent_nil _))
    · refine TC.skip (nb (nt ?_))
      refine TC.region ?_
      refine q rfl rfl (mv (v := .int _ _) rfl) ?_
      first | refine q rfl rfl (addI rfl rfl (by omega) (by omega)) ?_ | refine q rfl rfl (add rfl rfl rfl) ?_
      refine q rfl rfl (asg (v := .int _ _) rfl) ?_
      refine TL.nil (nt ?_)
      exact ⟨rfl, (k + 1), ⟨by omega, fun j t hj ht => by rcases Nat.lt_succ_iff_lt_or_eq.1 hj with h | h; exact hno j t h ht; subst h; rw [hx] at ht; cases ht; exact he⟩, (by omega), ⟨rfl, rfl, rfl, trivial⟩, (ent_take 0 rfl (ent_nil _))⟩
  · have hr : atN L id = -1 := atN_no (by
      rintro ⟨e1, he1, he2⟩
      obtain ⟨j, hj⟩ := List.getElem?_of_mem he1
      exact hno j e1 (by have := (List.getElem?_eq_some_iff.1 hj).1; omega) hj he2)
    refine TC.exit (et (et (eb (nt ?_))))
    refine TC.seq ?_
    refine TC.region ?_
    refine q rfl rfl (asg (v := .int _ _) rfl) ?_
    refine TL.nil (nt ?_)
    refine TC.ret ?_
    exact Ret.i () [_] ⟨rfl, trivial⟩ (by rw [hr]; rfl) trivial (ent_takeF 0 rfl (ent_nil _))

theorem rfind_ok (b : Nat) (L : List Fn) (last : Int) (hl : L.length ≤ 1000000) (sp sl : Int) : FSpec Try.prog 25 [.pointer (some ⟨b, 0, none⟩), .agg (ints [sp, sl]).toArray] (fun F => ent F (isRf b L last)) [] (fun _ : Unit => .int .i64 (findO L (sp, sl))) (fun _ => True) (fun _ => []) := by
  refine FSpec.intro (rs := [.tmp 4]) (by kernel_rfl) Try.func25 rfl Try.ntmps25 (by rfl) rfl ?_
  intro F hF
  change TC _ _ _ _ _ _ _ (sepL [_])
  refine TC.seq ?_
  refine TC.region ?_
  refine e rfl ?_
  refine bx (v := .agg (List.toArray (ints [_, _]))) (l := ints [_, _]) rfl rfl ?_
  intro b1
  refine q rfl rfl (asg (v := .int _ _) rfl) ?_
  refine TL.nil (nt ?_)
  refine TC.seq ?_
  refine TC.seq ?_
  refine TC.weak (ent_take 1 rfl (ent_take 0 rfl (ent_nil _)) : ent _ (sepL [F, pts b1 44 (ints [sp, sl])])) ?_
  refine TC.openR hF (fun x0 hx0 => ?_)
  obtain ⟨a1, c1⟩ := x0
  clear hx0
  dsimp only
  have hil := ndsC_length L
  refine TC.region ?_
  refine q rfl rfl (asg (v := .int _ _) rfl) ?_
  refine TL.nil (nt ?_)
  refine TC.block ?_
  refine TC.loop (ι := Nat) (fun i => i ≤ L.length ∧ ∀ j t, j < i → L[j]? = some t → spN t ≠ (sp, sl)) (fun i => [(0, .pointer (some ⟨b, 0, none⟩)), (3, .pointer (some ⟨b1, 0, none⟩)), (5, .int .i64 ((i : Nat) : Int))]) (fun i => sepL [restr F (sepL [pts b 42 [.slice a1 L.length c1, .int .i64 last], slc 53 4 a1 L.length c1 (ndsC L)]), pts b1 44 (ints [sp, sl])]) (fun i => L.length - i) 0 ⟨Nat.zero_le _, by intro j t h; omega⟩ ⟨rfl, rfl, rfl, trivial⟩ (ent_take 0 rfl (ent_take 0 rfl (ent_nil _))) ?_
  rintro k ⟨hk, hno⟩ ρ0
  dsimp only [updL] at hk hno ⊢
  refine TC.seq ?_
  refine TC.seq ?_
  refine TC.region ?_
  refine q rfl rfl (mv (v := .int _ _) rfl) ?_
  refine q rfl rfl (mv (v := .pointer _) rfl) ?_
  first | refine q rfl rfl (nc rfl) ?_ | refine q rfl rfl (ncF rfl) ?_ | refine q rfl rfl (ncS rfl (by first | assumption | (simp [ints_length] <;> omega))) ?_
  first | refine q rfl rfl (fa 0 rfl rfl) ?_ | refine q rfl rfl (faS 0 rfl rfl (by first | assumption | (simp [ints_length] <;> omega))) ?_
  first | refine q rfl rfl (ld rfl rfl rfl) ?_ | refine q rfl rfl (ldS rfl rfl rfl) ?_
  refine q rfl rfl (len 53 4 rfl rfl) ?_
  refine q rfl rfl (lss rfl rfl) ?_
  refine TL.nil (nt ?_)
  first | refine TC.condD rfl (fun hlt => ?_) (fun hlt => ?_) | refine TC.cond rfl (fun hlt => ?_) (fun hlt => ?_)
  · have hlt2 : k < L.length := by omega
    obtain ⟨x, hx⟩ : ∃ x, L[k]? = some x := ⟨L[k], List.getElem?_eq_getElem hlt2⟩
    have hpos : 0 < (ndsC L).length := by omega
    refine TC.skip (nt ?_)
    refine TC.seq ?_
    refine TC.block ?_
    refine TC.seq ?_
    refine TC.draw _ [] [(0, false), (1, false), (2, false), (3, false), (4, false), (5, false), (6, false), (7, false), (8, false), (9, false)] (by kernel_rfl) (by kernel_rfl) (ent.refl _) ?_
    refine dq rfl rfl rfl (mv (v := .pointer _) rfl) ?_
    first | refine dq rfl rfl rfl (nc rfl) ?_ | refine dq rfl rfl rfl (ncF rfl) ?_ | refine dq rfl rfl rfl (ncS rfl (by first | assumption | (simp [ints_length] <;> omega))) ?_
    first | refine dq rfl rfl rfl (fa 0 rfl rfl) ?_ | refine dq rfl rfl rfl (faS 0 rfl rfl (by first | assumption | (simp [ints_length] <;> omega))) ?_
    first | refine dq rfl rfl rfl (ld rfl rfl rfl) ?_ | refine dq rfl rfl rfl (ldS rfl rfl (flat_ldN ndC_sz hx 2 2 (by omega) (by omega) (show _ = ints [x.sp, x.sl] from rfl))) ?_ | refine dq rfl rfl rfl (ldS rfl rfl (flat_ld ndC_sz hx 0 (by omega) rfl)) ?_ | refine dq rfl rfl rfl (ldS rfl rfl rfl) ?_
    refine dq rfl rfl rfl (mv (v := .int _ _) rfl) ?_
    first | refine dq rfl rfl rfl (ixS 53 4 rfl rfl rfl (by omega) (by first | assumption | (simp [ints_length] <;> omega))) ?_ | refine dq rfl rfl rfl (ixJ 53 4 rfl rfl rfl (by omega) (by omega) (by first | assumption | (simp [ints_length] <;> omega))) ?_ | refine dq rfl rfl rfl (ix 53 4 rfl rfl rfl (by omega) (by omega) rfl) ?_
    first | refine dq rfl rfl rfl (fa 2 rfl rfl) ?_ | refine dq rfl rfl rfl (faS 2 rfl rfl (by first | assumption | (simp [ints_length] <;> omega))) ?_
    first | refine dq rfl rfl rfl (ldN (vs := ints [_, _]) 2 rfl rfl rfl rfl) ?_ | refine dq rfl rfl rfl (ldSN (vs := ints [_, _]) 2 rfl rfl (flat_ldN ndC_sz hx 2 2 (by omega) (by omega) (show _ = ints [x.sp, x.sl] from rfl)) rfl (by decide)) ?_ | refine dq rfl rfl rfl (ldSN (vs := ints [_, _]) 2 rfl rfl (flat_ld ndC_sz hx 0 (by omega) rfl) rfl (by decide)) ?_ | refine dq rfl rfl rfl (ldSN (vs := ints [_, _]) 2 rfl rfl rfl rfl (by decide)) ?_
    first | refine dq rfl rfl rfl (ldN (vs := ints [_, _]) 2 rfl rfl rfl rfl) ?_ | refine dq rfl rfl rfl (ldSN (vs := ints [_, _]) 2 rfl rfl (flat_ldN ndC_sz hx 2 2 (by omega) (by omega) (show _ = ints [x.sp, x.sl] from rfl)) rfl (by decide)) ?_ | refine dq rfl rfl rfl (ldSN (vs := ints [_, _]) 2 rfl rfl (flat_ld ndC_sz hx 0 (by omega) rfl) rfl (by decide)) ?_ | refine dq rfl rfl rfl (ldSN (vs := ints [_, _]) 2 rfl rfl rfl rfl (by decide)) ?_
    refine dq rfl rfl rfl (eqS 2 (by kernel_rfl) rfl rfl rfl rfl) ?_
    refine TD.nil (nt ?_)
    first | refine TC.condD rfl (fun he => ?_) (fun he => ?_) | refine TC.cond rfl (fun he => ?_) (fun he => ?_)
    · have he2 : spN x = (sp, sl) := by
        simp only [List.cons.injEq, and_true] at he
        rw [spN, he.1, he.2]
      have hfx := findIdx_at (p := fun x : Fn => decide (spN x = (sp, sl))) hx (by simpa using he2) (fun j t hj ht => by simpa using hno j t hj ht)
      obtain ⟨u, h1, h2⟩ := find_of_findIdx hfx
      rw [hx] at h1; cases h1
      have hr : findO L (sp, sl) = x.id := by rw [findO, h2]
      refine TC.seq ?_
      refine TC.region ?_
      refine q rfl rfl (mv (v := .pointer _) rfl) ?_
      first | refine q rfl rfl (nc rfl) ?_ | refine q rfl rfl (ncF rfl) ?_ | refine q rfl rfl (ncS rfl (by first | assumption | (simp [ints_length] <;> omega))) ?_
      first | refine q rfl rfl (fa 0 rfl rfl) ?_ | refine q rfl rfl (faS 0 rfl rfl (by first | assumption | (simp [ints_length] <;> omega))) ?_
      first | refine q rfl rfl (ld rfl rfl rfl) ?_ | refine q rfl rfl (ldS rfl rfl (flat_ldN ndC_sz hx 2 2 (by omega) (by omega) (show _ = ints [x.sp, x.sl] from rfl))) ?_ | refine q rfl rfl (ldS rfl rfl (flat_ld ndC_sz hx 0 (by omega) rfl)) ?_ | refine q rfl rfl (ldS rfl rfl rfl) ?_
      refine q rfl rfl (mv (v := .int _ _) rfl) ?_
      first | refine q rfl rfl (ixS 53 4 rfl rfl rfl (by omega) (by first | assumption | (simp [ints_length] <;> omega))) ?_ | refine q rfl rfl (ixJ 53 4 rfl rfl rfl (by omega) (by omega) (by first | assumption | (simp [ints_length] <;> omega))) ?_ | refine q rfl rfl (ix 53 4 rfl rfl rfl (by omega) (by omega) rfl) ?_
      first | refine q rfl rfl (fa 0 rfl rfl) ?_ | refine q rfl rfl (faS 0 rfl rfl (by first | assumption | (simp [ints_length] <;> omega))) ?_
      first | refine q rfl rfl (ld rfl rfl rfl) ?_ | refine q rfl rfl (ldS rfl rfl (flat_ldN ndC_sz hx 2 2 (by omega) (by omega) (show _ = ints [x.sp, x.sl] from rfl))) ?_ | refine q rfl rfl (ldS rfl rfl (flat_ld ndC_sz hx 0 (by omega) rfl)) ?_ | refine q rfl rfl (ldS rfl rfl rfl) ?_
      refine q rfl rfl (asg (v := .int _ _) rfl) ?_
      refine TL.nil (nt ?_)
      refine TC.ret (rb (rt (rt (rb (rt ?_)))))
      exact Ret.i () [_] ⟨rfl, trivial⟩ (by rw [hr]; rfl) trivial (ent_takeF 0 rfl (ent_nil _))
    · have he2 : spN x ≠ (sp, sl) := fun e2 => he (by have h1 := congrArg Prod.fst e2; have h2 := congrArg Prod.snd e2; dsimp only [spN] at h1 h2; rw [h1, h2])
      refine TC.skip (nb (nt ?_))
      refine TC.region ?_
      refine q rfl rfl (mv (v := .int _ _) rfl) ?_
      first | refine q rfl rfl (addI rfl rfl (by omega) (by omega)) ?_ | refine q rfl rfl (add rfl rfl rfl) ?_
      refine q rfl rfl (asg (v := .int _ _) rfl) ?_
      refine TL.nil (nt ?_)
      exact ⟨rfl, (k + 1), ⟨by omega, fun j t hj ht => by rcases Nat.lt_succ_iff_lt_or_eq.1 hj with h | h; exact hno j t h ht; subst h; rw [hx] at ht; cases ht; exact he2⟩, (by omega), ⟨rfl, rfl, rfl, trivial⟩, (ent_take 0 rfl (ent_take 0 rfl (ent_nil _)))⟩
  · have hr : findO L (sp, sl) = 0 := findO_no (by
      rintro ⟨e1, he1, he2⟩
      obtain ⟨j, hj⟩ := List.getElem?_of_mem he1
      exact hno j e1 (by have := (List.getElem?_eq_some_iff.1 hj).1; omega) hj he2)
    refine TC.exit (et (et (eb (nt ?_))))
    refine TC.seq ?_
    refine TC.region ?_
    refine q rfl rfl (asg (v := .int _ _) rfl) ?_
    refine TL.nil (nt ?_)
    refine TC.ret ?_
    exact Ret.i () [_] ⟨rfl, trivial⟩ (by rw [hr]; rfl) trivial (ent_takeF 0 rfl (ent_nil _))

theorem rkids_ok (b : Nat) (L : List Fn) (last : Int) (hl : L.length ≤ 1000000) (id : Int) : FSpec Try.prog 28 [.pointer (some ⟨b, 0, none⟩), .int .i64 id] (fun F => ent F (isRf b L last)) [] (fun y : Option Addr × Nat => .slice y.1 (kidsN L id).length y.2) (fun _ => True) (fun y => [slc 3 1 y.1 (kidsN L id).length y.2 (ints (kidsN L id))]) := by
  refine FSpec.intro (rs := [.tmp 4]) (by kernel_rfl) Try.func28 rfl Try.ntmps28 (by rfl) rfl ?_
  intro F hF
  change TC _ _ _ _ _ _ _ (sepL [_])
  refine TC.openR hF (fun x0 hx0 => ?_)
  obtain ⟨a1, c1⟩ := x0
  clear hx0
  dsimp only
  have hil := ndsC_length L
  refine TC.seq ?_
  refine TC.region ?_
  refine q rfl rfl (asg (v := .slice _ _ _) rfl) ?_
  refine TL.nil (nt ?_)
  refine TC.seq ?_
  refine TC.region ?_
  refine q rfl rfl (asg (v := .slice _ _ _) rfl) ?_
  refine TL.nil (nt ?_)
  refine TC.seq ?_
  refine TC.seq ?_
  refine TC.region ?_
  refine q rfl rfl (asg (v := .int _ _) rfl) ?_
  refine TL.nil (nt ?_)
  refine TC.block ?_
  refine TC.loop (ι := Nat × (Option Addr × Nat)) (fun s => s.1 ≤ L.length) (fun s => [(0, .pointer (some ⟨b, 0, none⟩)), (1, .int .i64 id), (5, .slice s.2.1 (kidsN (L.take s.1) id).length s.2.2), (6, .int .i64 ((s.1 : Nat) : Int))]) (fun s => sepL [slc 3 1 s.2.1 (kidsN (L.take s.1) id).length s.2.2 (ints (kidsN (L.take s.1) id)), restr F (sepL [pts b 42 [.slice a1 L.length c1, .int .i64 last], slc 53 4 a1 L.length c1 (ndsC L)])]) (fun s => L.length - s.1) ⟨0, (none, 0)⟩ (Nat.zero_le _) ⟨rfl, rfl, rfl, rfl, trivial⟩ ((slc_nil 3 1 _).trans (ent_take 0 rfl (ent_take 0 rfl (ent_nil _)))) ?_
  rintro ⟨k, ⟨oa, oc⟩⟩ hk ρ0
  dsimp only [updL] at hk ⊢
  refine TC.seq ?_
  refine TC.seq ?_
  refine TC.region ?_
  refine q rfl rfl (mv (v := .int _ _) rfl) ?_
  refine q rfl rfl (mv (v := .pointer _) rfl) ?_
  first | refine q rfl rfl (nc rfl) ?_ | refine q rfl rfl (ncF rfl) ?_ | refine q rfl rfl (ncS rfl (by first | assumption | (simp [ints_length] <;> omega))) ?_
  first | refine q rfl rfl (fa 0 rfl rfl) ?_ | refine q rfl rfl (faS 0 rfl rfl (by first | assumption | (simp [ints_length] <;> omega))) ?_
  first | refine q rfl rfl (ld rfl rfl rfl) ?_ | refine q rfl rfl (ldS rfl rfl rfl) ?_
  refine q rfl rfl (len 53 4 rfl rfl) ?_
  refine q rfl rfl (lss rfl rfl) ?_
  refine q rfl rfl (mv (v := .bool _) rfl) ?_
  refine TL.split 14 rfl (fun hlt => ?_) (fun hlt => ?_)
  · have hlt := of_decide_eq_true hlt
    refine qg rfl rfl rfl (mv (v := .int _ _) rfl) ?_
    refine qg rfl rfl rfl (neI rfl rfl) ?_
    first | refine q rfl rfl (pkT rfl rfl) ?_ | refine q rfl rfl (pkF rfl rfl) ?_
    refine TL.nil (nt ?_)
    first | refine TC.condD rfl (fun h0 => ?_) (fun h0 => ?_) | refine TC.cond rfl (fun h0 => ?_) (fun h0 => ?_)
    · have hlt2 : k < L.length := by omega
      obtain ⟨x, hx⟩ : ∃ x, L[k]? = some x := ⟨L[k], List.getElem?_eq_getElem hlt2⟩
      have hpos : 0 < (ndsC L).length := by omega
      have hks := kids_snoc hx id
      have hkl := kidsN_len (L.take k) id
      have hil2 := ints_length (kidsN (L.take k) id)
      have htl : (L.take k).length = k := by rw [List.length_take]; omega
      refine TC.skip (nt ?_)
      refine TC.seq ?_
      refine TC.block ?_
      refine TC.seq ?_
      refine TC.region ?_
      refine q rfl rfl (mv (v := .pointer _) rfl) ?_
      first | refine q rfl rfl (nc rfl) ?_ | refine q rfl rfl (ncF rfl) ?_ | refine q rfl rfl (ncS rfl (by first | assumption | (simp [ints_length] <;> omega))) ?_
      first | refine q rfl rfl (fa 0 rfl rfl) ?_ | refine q rfl rfl (faS 0 rfl rfl (by first | assumption | (simp [ints_length] <;> omega))) ?_
      first | refine q rfl rfl (ld rfl rfl rfl) ?_ | refine q rfl rfl (ldS rfl rfl (flat_ld ndC_sz hx 1 (by omega) rfl)) ?_ | refine q rfl rfl (ldS rfl rfl rfl) ?_
      refine q rfl rfl (mv (v := .int _ _) rfl) ?_
      first | refine q rfl rfl (ixS 53 4 rfl rfl rfl (by omega) (by first | assumption | (simp [ints_length] <;> omega))) ?_ | refine q rfl rfl (ixJ 53 4 rfl rfl rfl (by omega) (by omega) (by first | assumption | (simp [ints_length] <;> omega))) ?_ | refine q rfl rfl (ix 53 4 rfl rfl rfl (by omega) (by omega) rfl) ?_
      first | refine q rfl rfl (fa 1 rfl rfl) ?_ | refine q rfl rfl (faS 1 rfl rfl (by first | assumption | (simp [ints_length] <;> omega))) ?_
      first | refine q rfl rfl (ld rfl rfl rfl) ?_ | refine q rfl rfl (ldS rfl rfl (flat_ld ndC_sz hx 1 (by omega) rfl)) ?_ | refine q rfl rfl (ldS rfl rfl rfl) ?_
      refine q rfl rfl (mv (v := .int _ _) rfl) ?_
      refine q rfl rfl (eqI rfl rfl) ?_
      refine TL.nil (nt ?_)
      first | refine TC.condD rfl (fun he => ?_) (fun he => ?_) | refine TC.cond rfl (fun he => ?_) (fun he => ?_)
      · rw [if_pos ⟨he, h0⟩] at hks
        refine TC.region ?_
        refine q rfl rfl (mv (v := .slice _ _ _) rfl) ?_
        refine q rfl rfl (mv (v := .pointer _) rfl) ?_
        first | refine q rfl rfl (nc rfl) ?_ | refine q rfl rfl (ncF rfl) ?_ | refine q rfl rfl (ncS rfl (by first | assumption | (simp [ints_length] <;> omega))) ?_
        first | refine q rfl rfl (fa 0 rfl rfl) ?_ | refine q rfl rfl (faS 0 rfl rfl (by first | assumption | (simp [ints_length] <;> omega))) ?_
        first | refine q rfl rfl (ld rfl rfl rfl) ?_ | refine q rfl rfl (ldS rfl rfl (flat_ld ndC_sz hx 0 (by omega) rfl)) ?_ | refine q rfl rfl (ldS rfl rfl rfl) ?_
        refine q rfl rfl (mv (v := .int _ _) rfl) ?_
        first | refine q rfl rfl (ixS 53 4 rfl rfl rfl (by omega) (by first | assumption | (simp [ints_length] <;> omega))) ?_ | refine q rfl rfl (ixJ 53 4 rfl rfl rfl (by omega) (by omega) (by first | assumption | (simp [ints_length] <;> omega))) ?_ | refine q rfl rfl (ix 53 4 rfl rfl rfl (by omega) (by omega) rfl) ?_
        first | refine q rfl rfl (fa 0 rfl rfl) ?_ | refine q rfl rfl (faS 0 rfl rfl (by first | assumption | (simp [ints_length] <;> omega))) ?_
        first | refine q rfl rfl (ld rfl rfl rfl) ?_ | refine q rfl rfl (ldS rfl rfl (flat_ld ndC_sz hx 0 (by omega) rfl)) ?_ | refine q rfl rfl (ldS rfl rfl rfl) ?_
        refine e rfl ?_
        refine bs (cs := [.int _ _]) rfl ?_
        intro b2
        refine e rfl ?_
        refine ap 8 rfl rfl rfl rfl rfl (Nat.le_of_ble_eq_true rfl) (show _ = ints [x.id] from rfl) rfl (by omega) (by simp only [maxLen]; omega) ?_
        intro ad1 cap1
        refine q rfl rfl (asg (v := .slice _ _ _) rfl) ?_
        refine TL.nil (nb (nt ?_))
        refine TC.region ?_
        refine q rfl rfl (mv (v := .int _ _) rfl) ?_
        first | refine q rfl rfl (addI rfl rfl (by omega) (by omega)) ?_ | refine q rfl rfl (add rfl rfl rfl) ?_
        refine q rfl rfl (asg (v := .int _ _) rfl) ?_
        refine TL.nil (nt ?_)
        exact ⟨rfl, ⟨k + 1, (ad1, cap1)⟩, (by dsimp only; omega), (by dsimp only; omega), ⟨rfl, rfl, congrArg (fun n => Value.slice _ n _) (by dsimp only; rw [hks, List.length_append]; rfl), rfl, trivial⟩, (ent_takeE 0 rfl (by dsimp only; rw [hks, List.length_append]; simp [ints]) (ent_take 1 rfl (ent_nil _)))⟩
      · rw [if_neg (fun h => he h.1), List.append_nil] at hks
        refine TC.skip (nb (nt ?_))
        refine TC.region ?_
        refine q rfl rfl (mv (v := .int _ _) rfl) ?_
        first | refine q rfl rfl (addI rfl rfl (by omega) (by omega)) ?_ | refine q rfl rfl (add rfl rfl rfl) ?_
        refine q rfl rfl (asg (v := .int _ _) rfl) ?_
        refine TL.nil (nt ?_)
        exact ⟨rfl, ⟨k + 1, (oa, oc)⟩, (by dsimp only; omega), (by dsimp only; omega), ⟨rfl, rfl, congrArg (fun n => Value.slice _ n _) (by dsimp only; rw [hks]), rfl, trivial⟩, (ent_takeE 0 rfl (by dsimp only; rw [hks]) (ent_take 0 rfl (ent_nil _)))⟩
    · have hz : id = 0 := by omega
      have e1 : kidsN L id = kidsN (L.take k) id := by rw [hz, kidsN_zero, kidsN_zero]
      refine TC.exit (et (et (eb (nt ?_))))
      refine TC.seq ?_
      refine TC.region ?_
      refine q rfl rfl (mv (v := .slice _ _ _) rfl) ?_
      refine q rfl rfl (asg (v := .slice _ _ _) rfl) ?_
      refine TL.nil (nt ?_)
      refine TC.ret ?_
      exact Ret.i ⟨oa, oc⟩ [_] ⟨rfl, trivial⟩ (by rw [e1]; rfl) trivial (ent_takeE 0 rfl (by rw [e1]) (ent_takeF 0 rfl (ent_nil _)))
  · have hlt := of_decide_eq_false hlt
    obtain rfl : k = L.length := by omega
    have e1 : L.take L.length = L := List.take_length
    rw [e1]
    refine qs rfl rfl ?_
    refine qs rfl rfl ?_
    first | refine q rfl rfl (pkT rfl rfl) ?_ | refine q rfl rfl (pkF rfl rfl) ?_
    refine TL.nil (nt ?_)
    refine TC.condF rfl ?_
    refine TC.exit (et (et (eb (nt ?_))))
    refine TC.seq ?_
    refine TC.region ?_
    refine q rfl rfl (mv (v := .slice _ _ _) rfl) ?_
    refine q rfl rfl (asg (v := .slice _ _ _) rfl) ?_
    refine TL.nil (nt ?_)
    refine TC.ret ?_
    exact Ret.i ⟨oa, oc⟩ [_] ⟨rfl, trivial⟩ rfl trivial (ent_take 0 rfl (ent_takeF 0 rfl (ent_nil _)))

theorem rbel_ok (b : Nat) (L : List Fn) (last : Int) (hl : L.length ≤ 1000000) (hW : WI L last) (n : Nat) (id : Int) (hm : (last - id).toNat ≤ n) : FSpec Try.prog 27 [.pointer (some ⟨b, 0, none⟩), .int .i64 id] (fun F => ent F (isRf b L last)) [] (fun y : Option Addr × Nat => .slice y.1 (belL L last id).length y.2) (fun _ => True) (fun y => [slc 3 1 y.1 (belL L last id).length y.2 (ints (belL L last id))]) := by
  induction n using Nat.strongRecOn generalizing id
  rename_i n ih
  refine FSpec.intro (rs := [.tmp 4]) (by kernel_rfl) Try.func27 rfl Try.ntmps27 (by rfl) rfl ?_
  intro F hF
  change TC _ _ _ _ _ _ _ (sepL [_])
  refine TC.seq ?_
  refine TC.region ?_
  refine q rfl rfl (asg (v := .slice _ _ _) rfl) ?_
  refine TL.nil (nt ?_)
  refine TC.seq ?_
  refine TC.region ?_
  refine q rfl rfl (asg (v := .slice _ _ _) rfl) ?_
  refine TL.nil (nt ?_)
  refine TC.seq ?_
  refine TC.region ?_
  refine q rfl rfl (mv (v := .pointer _) rfl) ?_
  refine q rfl rfl (mv (v := .int _ _) rfl) ?_
  refine e rfl ?_
  refine cl (rkids_ok b L last hl id) rfl (picked_nil _) ((ent_one 0 rfl).trans hF) ?_
  intro y _
  change TL _ _ _ _ _ _ _ _ (sepL [_, _])
  have hkl := kidsN_len L id
  have hki := ints_length (kidsN L id)
  have hbp := bel_part hW id
  refine q rfl rfl (asg (v := .slice _ _ _) rfl) ?_
  refine TL.nil (nt ?_)
  refine TC.seq ?_
  refine TC.seq ?_
  refine TC.region ?_
  refine q rfl rfl (asg (v := .int _ _) rfl) ?_
  refine TL.nil (nt ?_)
  refine TC.block ?_
  refine TC.loop (ι := Nat × (Option Addr × Nat)) (fun s => s.1 ≤ (kidsN L id).length) (fun s => [(0, .pointer (some ⟨b, 0, none⟩)), (5, .slice s.2.1 (((kidsN L id).take s.1).flatMap (postL L last)).length s.2.2), (6, .slice y.1 (kidsN L id).length y.2), (7, .int .i64 ((s.1 : Nat) : Int))]) (fun s => sepL [slc 3 1 s.2.1 (((kidsN L id).take s.1).flatMap (postL L last)).length s.2.2 (ints (((kidsN L id).take s.1).flatMap (postL L last))), slc 3 1 y.1 (kidsN L id).length y.2 (ints (kidsN L id)), F]) (fun s => (kidsN L id).length - s.1) ⟨0, (none, 0)⟩ (Nat.zero_le _) ⟨rfl, rfl, rfl, rfl, trivial⟩ ((slc_nil 3 1 _).trans (ent_take 0 rfl (ent_take 0 rfl (ent_take 0 rfl (ent_nil _))))) ?_
  rintro ⟨k, ⟨oa, oc⟩⟩ hk ρ0
  dsimp only [updL] at hk ⊢
  refine TC.seq ?_
  refine TC.seq ?_
  refine TC.region ?_
  refine q rfl rfl (mv (v := .int _ _) rfl) ?_
  refine q rfl rfl (mv (v := .slice _ _ _) rfl) ?_
  refine q rfl rfl (len 3 1 rfl rfl) ?_
  refine q rfl rfl (lss rfl rfl) ?_
  refine TL.nil (nt ?_)
  first | refine TC.condD rfl (fun hlt => ?_) (fun hlt => ?_) | refine TC.cond rfl (fun hlt => ?_) (fun hlt => ?_)
  · have hlt2 : k < (kidsN L id).length := by omega
    obtain ⟨x, hx⟩ : ∃ x, (kidsN L id)[k]? = some x := ⟨(kidsN L id)[k], List.getElem?_eq_getElem hlt2⟩
    have hxg := kids_gt hW (List.mem_of_getElem? hx)
    have hpos : 0 < (ints (kidsN L id)).length := by omega
    have hsn := bel_snoc (L := L) (last := last) hx
    have hb1 := hbp k
    have hb2 := hbp (k + 1)
    have hb3 := bel_len hW x
    have hil2 := ints_length (((kidsN L id).take k).flatMap (postL L last))
    have hil3 := ints_length (belL L last x)
    have hsl : (((kidsN L id).take (k + 1)).flatMap (postL L last)).length = (((kidsN L id).take k).flatMap (postL L last)).length + (belL L last x).length + 1 := by rw [hsn, List.length_append, List.length_append, List.length_singleton]
    refine TC.skip (nt ?_)
    refine TC.seq ?_
    refine TC.block ?_
    refine TC.seq ?_
    refine TC.region ?_
    refine q rfl rfl (mv (v := .slice _ _ _) rfl) ?_
    refine q rfl rfl (mv (v := .pointer _) rfl) ?_
    refine q rfl rfl (mv (v := .slice _ _ _) rfl) ?_
    refine q rfl rfl (mv (v := .int _ _) rfl) ?_
    first | refine q rfl rfl (ixS 3 1 rfl rfl rfl (by omega) (by first | assumption | (simp [ints_length] <;> omega))) ?_ | refine q rfl rfl (ixJ 3 1 rfl rfl rfl (by omega) (by omega) (by first | assumption | (simp [ints_length] <;> omega))) ?_ | refine q rfl rfl (ix 3 1 rfl rfl rfl (by omega) (by omega) rfl) ?_
    first | refine q rfl rfl (ld rfl rfl rfl) ?_ | refine q rfl rfl (ldS rfl rfl (ints_get hx)) ?_ | refine q rfl rfl (ldS rfl rfl rfl) ?_
    refine e rfl ?_
    refine cl (ih (last - x).toNat (by omega) x (Nat.le_refl _)) rfl (picked_nil _) ((ent_one 2 rfl).trans hF) ?_
    intro z _
    change TL _ _ _ _ _ _ _ _ (sepL [_, _, _, _])
    refine e rfl ?_
    refine ap 8 rfl rfl rfl rfl rfl (by omega) (ints_all1 rfl) (ints_one1 _) (by omega) (by simp only [maxLen]; omega) ?_
    intro ad2 cap2
    refine q rfl rfl (asg (v := .slice _ _ _) rfl) ?_
    refine TL.nil (nt ?_)
    refine TC.region ?_
    refine q rfl rfl (mv (v := .slice _ _ _) rfl) ?_
    refine q rfl rfl (mv (v := .slice _ _ _) rfl) ?_
    refine q rfl rfl (mv (v := .int _ _) rfl) ?_
    first | refine q rfl rfl (ixS 3 1 rfl rfl rfl (by omega) (by first | assumption | (simp [ints_length] <;> omega))) ?_ | refine q rfl rfl (ixJ 3 1 rfl rfl rfl (by omega) (by omega) (by first | assumption | (simp [ints_length] <;> omega))) ?_ | refine q rfl rfl (ix 3 1 rfl rfl rfl (by omega) (by omega) rfl) ?_
    first | refine q rfl rfl (ld rfl rfl rfl) ?_ | refine q rfl rfl (ldS rfl rfl (ints_get hx)) ?_ | refine q rfl rfl (ldS rfl rfl rfl) ?_
    refine e rfl ?_
    refine bs (cs := [.int _ _]) rfl ?_
    intro b3
    refine e rfl ?_
    refine ap 8 rfl rfl rfl rfl rfl (Nat.le_of_ble_eq_true rfl) (show _ = ints [x] from rfl) rfl (by omega) (by simp only [maxLen]; omega) ?_
    intro ad3 cap3
    refine q rfl rfl (asg (v := .slice _ _ _) rfl) ?_
    refine TL.nil (nb (nt ?_))
    refine TC.region ?_
    refine q rfl rfl (mv (v := .int _ _) rfl) ?_
    first | refine q rfl rfl (addI rfl rfl (by omega) (by omega)) ?_ | refine q rfl rfl (add rfl rfl rfl) ?_
    refine q rfl rfl (asg (v := .int _ _) rfl) ?_
    refine TL.nil (nt ?_)
    exact ⟨rfl, ⟨k + 1, (ad3, cap3)⟩, (by dsimp only; omega), (by dsimp only; omega), ⟨rfl, congrArg (fun n => Value.slice _ n _) (by dsimp only; rw [hsl]), rfl, rfl, trivial⟩, (ent_takeE 0 rfl (by dsimp only; rw [hsl, hsn]; simp [ints]) (by repeat (first | exact ent_nil _ | refine ent_take 0 rfl ?_ | refine ent_take 1 rfl ?_ | refine ent_take 2 rfl ?_ | refine ent_take 3 rfl ?_ | refine ent_take 4 rfl ?_ | refine ent_take 5 rfl ?_ | refine ent_take 6 rfl ?_ | refine ent_take 7 rfl ?_ | refine ent_take 8 rfl ?_ | refine ent_take 9 rfl ?_ | refine ent_take 10 rfl ?_ | refine ent_take 11 rfl ?_ | refine ent_take 12 rfl ?_)))⟩
  · obtain rfl : k = (kidsN L id).length := by omega
    have e1 : belL L last id = ((kidsN L id).take (kidsN L id).length).flatMap (postL L last) := by rw [List.take_length]; exact belL_eq hW id
    refine TC.exit (et (et (eb (nt ?_))))
    refine TC.seq ?_
    refine TC.region ?_
    refine q rfl rfl (mv (v := .slice _ _ _) rfl) ?_
    refine q rfl rfl (asg (v := .slice _ _ _) rfl) ?_
    refine TL.nil (nt ?_)
    refine TC.ret ?_
    exact Ret.i ⟨oa, oc⟩ [_] ⟨rfl, trivial⟩ (by rw [e1]; rfl) trivial (ent_takeE 0 rfl (by rw [e1]) (ent_take 1 rfl (ent_nil _)))

theorem rdrop_ok (b : Nat) (L : List Fn) (last : Int) (hl : L.length ≤ 1000000) (hn : NdN L) (t : Fn) (ht : t ∈ L) : FSpec Try.prog 34 [.pointer (some ⟨b, 0, none⟩), .int .i64 t.id] noRd [isRf b L last] (fun _ : Unit => .agg (ints [t.sp, t.sl]).toArray) (fun _ => True) (fun _ => [isRf b (offN L t.id) last]) := by
  refine FSpec.intro (rs := [.cell 4 44]) (by kernel_rfl) Try.func34 rfl Try.ntmps34 (by rfl) rfl ?_
  intro F _
  change TC _ _ _ _ _ _ _ (sepL [_, _])
  refine TC.seq ?_
  refine TC.region ?_
  refine e rfl ?_
  refine al (l := ints [_, _]) rfl rfl ?_
  intro b4
  refine TL.nil (nt ?_)
  refine TC.seq ?_
  refine TC.region ?_
  refine q rfl rfl (mv (v := .pointer _) rfl) ?_
  refine q rfl rfl (mv (v := .int _ _) rfl) ?_
  refine e rfl ?_
  refine cl (rat_ok b L last hl t.id) rfl (picked_nil _) (ent_one 1 rfl) ?_
  intro _ _
  change TL _ _ _ _ _ _ _ _ (sepL [_, _, _])
  obtain ⟨i, h1, h2⟩ := atN_yes hn ht
  rw [h1]
  have hi := (List.getElem?_eq_some_iff.1 h2).1
  have hco := cutL_off hn h2
  refine q rfl rfl (asg (v := .int _ _) rfl) ?_
  refine TL.nil (nt ?_)
  refine TC.seq ?_
  refine TC.open 1 rfl (fun x0 hx0 => ?_)
  obtain ⟨a1, c1⟩ := x0
  clear hx0
  change TC _ _ _ _ _ _ _ (sepL [_, _, _, _])
  dsimp only
  have hil := ndsC_length L
  refine TC.factSlc 1 rfl (fun _ hc1 _ => ?_)
  haveI : OffI (ndsC L) c1 (i + 1) 4 := ⟨L.length, by omega, by omega, hc1⟩
  have hpos : 0 < (ndsC L).length := by omega
  refine TC.region ?_
  refine q rfl rfl (mv (v := .pointer _) rfl) ?_
  first | refine q rfl rfl (nc rfl) ?_ | refine q rfl rfl (ncF rfl) ?_ | refine q rfl rfl (ncS rfl (by first | assumption | (simp [ints_length] <;> omega))) ?_
  first | refine q rfl rfl (fa 0 rfl rfl) ?_ | refine q rfl rfl (faS 0 rfl rfl (by first | assumption | (simp [ints_length] <;> omega))) ?_
  first | refine q rfl rfl (ld rfl rfl rfl) ?_ | refine q rfl rfl (ldS rfl rfl (flat_ldN ndC_sz h2 2 2 (by omega) (by omega) (show _ = ints [t.sp, t.sl] from rfl))) ?_ | refine q rfl rfl (ldS rfl rfl rfl) ?_
  refine q rfl rfl (mv (v := .int _ _) rfl) ?_
  first | refine q rfl rfl (ixS 53 4 rfl rfl rfl (by omega) (by first | assumption | (simp [ints_length] <;> omega))) ?_ | refine q rfl rfl (ixJ 53 4 rfl rfl rfl (by omega) (by omega) (by first | assumption | (simp [ints_length] <;> omega))) ?_ | refine q rfl rfl (ix 53 4 rfl rfl rfl (by omega) (by omega) rfl) ?_
  first | refine q rfl rfl (fa 2 rfl rfl) ?_ | refine q rfl rfl (faS 2 rfl rfl (by first | assumption | (simp [ints_length] <;> omega))) ?_
  first | refine q rfl rfl (ldN (vs := ints [_, _]) 2 rfl rfl rfl rfl) ?_ | refine q rfl rfl (ldSN (vs := ints [_, _]) 2 rfl rfl (flat_ldN ndC_sz h2 2 2 (by omega) (by omega) (show _ = ints [t.sp, t.sl] from rfl)) rfl (by decide)) ?_ | refine q rfl rfl (ldSN (vs := ints [_, _]) 2 rfl rfl rfl rfl (by decide)) ?_
  refine e rfl ?_
  refine al (l := ints [_, _]) rfl rfl ?_
  intro b5
  refine e0 ?_
  refine st (v := .agg (List.toArray (ints [_, _]))) (vs := ints [_, _]) 2 rfl rfl rfl rfl rfl rfl (Nat.le_of_ble_eq_true rfl) rfl ?_
  refine TL.nil (nt ?_)
  refine TC.seq ?_
  refine TC.draw _ [19] [(0, false), (2, false), (3, false), (4, false), (5, false), (6, false), (7, false), (9, false), (10, false), (11, false), (12, false), (13, false), (14, false), (15, false), (1, true), (8, true), (16, true), (17, false), (18, false), (19, true)] (by kernel_rfl) (by kernel_rfl) (ent_take 1 rfl (ent_nil _)) ?_
  refine dq rfl rfl rfl (mv (v := .pointer _) rfl) ?_
  refine dq rfl rfl rfl (mv (v := .pointer _) rfl) ?_
  first | refine dq rfl rfl rfl (nc rfl) ?_ | refine dq rfl rfl rfl (ncF rfl) ?_ | refine dq rfl rfl rfl (ncS rfl (by first | assumption | (simp [ints_length] <;> omega))) ?_
  first | refine dq rfl rfl rfl (fa 0 rfl rfl) ?_ | refine dq rfl rfl rfl (faS 0 rfl rfl (by first | assumption | (simp [ints_length] <;> omega))) ?_
  first | refine dq rfl rfl rfl (ld rfl rfl rfl) ?_ | refine dq rfl rfl rfl (ldS rfl rfl (flat_ldN ndC_sz h2 2 2 (by omega) (by omega) (show _ = ints [t.sp, t.sl] from rfl))) ?_ | refine dq rfl rfl rfl (ldS rfl rfl rfl) ?_
  refine dq rfl rfl rfl (mv (v := .int _ _) rfl) ?_
  refine dq rfl rfl rfl (slTn 53 4 (i) rfl rfl rfl (by omega) (by omega)) ?_
  refine dq rfl rfl rfl (mv (v := .pointer _) rfl) ?_
  first | refine dq rfl rfl rfl (nc rfl) ?_ | refine dq rfl rfl rfl (ncF rfl) ?_ | refine dq rfl rfl rfl (ncS rfl (by first | assumption | (simp [ints_length] <;> omega))) ?_
  first | refine dq rfl rfl rfl (fa 0 rfl rfl) ?_ | refine dq rfl rfl rfl (faS 0 rfl rfl (by first | assumption | (simp [ints_length] <;> omega))) ?_
  first | refine dq rfl rfl rfl (ld rfl rfl rfl) ?_ | refine dq rfl rfl rfl (ldS rfl rfl (flat_ldN ndC_sz h2 2 2 (by omega) (by omega) (show _ = ints [t.sp, t.sl] from rfl))) ?_ | refine dq rfl rfl rfl (ldS rfl rfl rfl) ?_
  refine dq rfl rfl rfl (mv (v := .int _ _) rfl) ?_
  first | refine dq rfl rfl rfl (addI rfl rfl (by omega) (by omega)) ?_ | refine dq rfl rfl rfl (add rfl rfl rfl) ?_
  refine dq rfl rfl rfl (slFn 53 4 (i + 1) rfl rfl rfl (by omega) (by omega)) ?_
  refine de rfl rfl ?_
  refine bs (cs := []) rfl ?_
  intro b6
  refine ⟨(by repeat (first | exact ent_nil _ | refine ent_take 0 rfl ?_ | refine ent_take 1 rfl ?_ | refine ent_take 2 rfl ?_ | refine ent_take 3 rfl ?_ | refine ent_take 4 rfl ?_ | refine ent_take 5 rfl ?_ | refine ent_take 6 rfl ?_ | refine ent_take 7 rfl ?_ | refine ent_take 8 rfl ?_ | refine ent_take 9 rfl ?_ | refine ent_take 10 rfl ?_ | refine ent_take 11 rfl ?_ | refine ent_take 12 rfl ?_)), ?_⟩
  refine de rfl rfl ?_
  refine ap 32 rfl rfl rfl rfl rfl (by omega) (nds_take L i) (nds_one _) (by omega) (by simp only [maxLen]; omega) ?_
  intro ad4 cap4
  refine ⟨(by repeat (first | exact ent_nil _ | refine ent_take 0 rfl ?_ | refine ent_take 1 rfl ?_ | refine ent_take 2 rfl ?_ | refine ent_take 3 rfl ?_ | refine ent_take 4 rfl ?_ | refine ent_take 5 rfl ?_ | refine ent_take 6 rfl ?_ | refine ent_take 7 rfl ?_ | refine ent_take 8 rfl ?_ | refine ent_take 9 rfl ?_ | refine ent_take 10 rfl ?_ | refine ent_take 11 rfl ?_ | refine ent_take 12 rfl ?_)), ?_⟩
  refine de rfl rfl ?_
  refine ap 32 rfl rfl rfl rfl rfl (by rw [List.length_drop]; omega) (nds_drop L (i + 1)) (nds_one _) (by omega) (by simp only [maxLen]; omega) ?_
  intro ad5 cap5
  refine ⟨(by repeat (first | exact ent_nil _ | refine ent_take 0 rfl ?_ | refine ent_take 1 rfl ?_ | refine ent_take 2 rfl ?_ | refine ent_take 3 rfl ?_ | refine ent_take 4 rfl ?_ | refine ent_take 5 rfl ?_ | refine ent_take 6 rfl ?_ | refine ent_take 7 rfl ?_ | refine ent_take 8 rfl ?_ | refine ent_take 9 rfl ?_ | refine ent_take 10 rfl ?_ | refine ent_take 11 rfl ?_ | refine ent_take 12 rfl ?_)), ?_⟩
  first | refine dq rfl rfl rfl (nc rfl) ?_ | refine dq rfl rfl rfl (ncF rfl) ?_ | refine dq rfl rfl rfl (ncS rfl (by first | assumption | (simp [ints_length] <;> omega))) ?_
  first | refine dq rfl rfl rfl (fa 0 rfl rfl) ?_ | refine dq rfl rfl rfl (faS 0 rfl rfl (by first | assumption | (simp [ints_length] <;> omega))) ?_
  refine dl0 rfl rfl rfl ?_
  refine st (v := .slice _ _ _) (vs := [_]) 1 rfl rfl rfl rfl rfl rfl (Nat.le_of_ble_eq_true rfl) rfl ?_
  refine TD.nil (nt ?_)
  refine TC.seq ?_
  refine TC.region ?_
  first | refine q rfl rfl (ldN (vs := ints [_, _]) 2 rfl rfl rfl rfl) ?_ | refine q rfl rfl (ldSN (vs := ints [_, _]) 2 rfl rfl (flat_ldN ndC_sz h2 2 2 (by omega) (by omega) (show _ = ints [t.sp, t.sl] from rfl)) rfl (by decide)) ?_ | refine q rfl rfl (ldSN (vs := ints [_, _]) 2 rfl rfl rfl rfl (by decide)) ?_
  refine e0 ?_
  refine st (v := .agg (List.toArray (ints [_, _]))) (vs := ints [_, _]) 2 rfl rfl rfl rfl rfl rfl (Nat.le_of_ble_eq_true rfl) rfl ?_
  refine TL.nil (nt ?_)
  refine TC.ret ?_
  exact Ret.i () [_] ⟨(rcN (n := 2) rfl rfl rfl rfl), trivial⟩ rfl trivial (ent_close (⟨ad5, cap5⟩ : Option Addr × Nat) trivial (ent_takeE 1 rfl (by rw [← hco, cutL_len hi, show 0 + i + (L.length - (i + 1)) = L.length - 1 from by omega]; rfl) (ent_takeE 1 rfl (by rw [← hco, cutL_len hi, show 0 + i + (L.length - (i + 1)) = L.length - 1 from by omega, List.nil_append, nds_app]) (by repeat (first | exact ent_nil _ | refine ent_take 0 rfl ?_ | refine ent_take 1 rfl ?_ | refine ent_take 2 rfl ?_ | refine ent_take 3 rfl ?_ | refine ent_take 4 rfl ?_ | refine ent_take 5 rfl ?_ | refine ent_take 6 rfl ?_ | refine ent_take 7 rfl ?_ | refine ent_take 8 rfl ?_ | refine ent_take 9 rfl ?_ | refine ent_take 10 rfl ?_ | refine ent_take 11 rfl ?_ | refine ent_take 12 rfl ?_)))))

end Go.Proofs.Ytffoeolgjgpmjaa
