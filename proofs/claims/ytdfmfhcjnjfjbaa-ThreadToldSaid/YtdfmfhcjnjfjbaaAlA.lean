/-
  Proved here: what functions of this program compute, each as a contract over symbolic states, under the premises that each theorem names (most lines printed by a program of the prover).
-/
import Derived.Test.YtdfmfhcjnjfjbaaProg
import Derived.Test.YtdfmfhcjnjfjbaaQLibV
namespace Go.Proofs.Ytdfmfhcjnjfjbaa.Al
open Go Go.QM
structure En where
  at_ : Int
  tn : Int
  id : Int
def enC (e : En) : List Value := ints [e.at_, e.tn, e.id]
theorem enC_sz (e : En) : (enC e).length = 3 := rfl
def ents (H : List En) : List Value := H.flatMap enC
theorem ents_length (H : List En) : (ents H).length = H.length * 3 := flat_length enC_sz H
def Lt (a b : En) : Prop := a.at_ < b.at_ ∨ a.at_ = b.at_ ∧ a.tn < b.tn
instance (a b : En) : Decidable (Lt a b) := inferInstanceAs (Decidable (a.at_ < b.at_ ∨ a.at_ = b.at_ ∧ a.tn < b.tn))
def gE (L : List En) (k : Nat) : En := L.getD k ⟨0, 0, 0⟩
theorem gE_get {L : List En} {k : Nat} (h : k < L.length) : L[k]? = some (gE L k) := by simp [gE, h]
theorem gE_of {L : List En} {k : Nat} {e : En} (h : L[k]? = some e) : gE L k = e := by simp [gE, List.getD_eq_getElem?_getD, h]
theorem gE_mem {L : List En} {k : Nat} (h : k < L.length) : gE L k ∈ L := List.mem_of_getElem? (gE_get h)
theorem gE_set {L : List En} {i : Nat} (h : i < L.length) (e : En) (k : Nat) : gE (L.set i e) k = if k = i then e else gE L k := by
  simp only [gE, List.getD_eq_getElem?_getD, List.getElem?_set]
  by_cases hk : k = i
  · subst hk; simp [h]
  · rw [if_neg (fun e => hk e.symm), if_neg hk]
theorem set_self {L : List En} {i : Nat} (h : i < L.length) : L.set i (gE L i) = L := by
  have : gE L i = L[i] := by simp [gE, h]
  rw [this]; exact List.set_getElem_self h
def OkAt (L : List En) (k : Nat) : Prop := ¬ Lt (gE L k) (gE L ((k - 1) / 2))
def Heap (L : List En) : Prop := ∀ k, 0 < k → k < L.length → OkAt L k
structure HoleD (L : List En) (i : Nat) : Prop where
  a : ∀ k, 0 < k → k < L.length → k ≠ i → (k - 1) / 2 ≠ i → OkAt L k
  b : ∀ k, 0 < k → k < L.length → (k - 1) / 2 = i → 0 < i → ¬ Lt (gE L k) (gE L ((i - 1) / 2))
structure HoleU (L : List En) (i : Nat) : Prop where
  a : ∀ k, 0 < k → k < L.length → k ≠ i → OkAt L k
  b : ∀ k, 0 < k → k < L.length → (k - 1) / 2 = i → 0 < i → ¬ Lt (gE L k) (gE L ((i - 1) / 2))
def swp (L : List En) (i k : Nat) : List En := (L.set i (gE L k)).set k (gE L i)
theorem swp_length (L : List En) (i k : Nat) : (swp L i k).length = L.length := by simp [swp]
theorem swp_perm {L : List En} {i k : Nat} (hi : i < L.length) (hk : k < L.length) : (swp L i k).Perm L := by
  have h1 : gE L i = L[i] := by simp [gE, hi]
  have h2 : gE L k = L[k] := by simp [gE, hk]
  rw [swp, h1, h2]; exact List.set_set_perm hi hk
theorem gE_swp {L : List En} {i k : Nat} (hi : i < L.length) (hk : k < L.length) (j : Nat) : gE (swp L i k) j = if j = k then gE L i else if j = i then gE L k else gE L j := by
  rw [swp, gE_set (by simpa using hk), gE_set hi]
theorem HoleD.step {L : List En} {i k : Nat} (h : HoleD L i) (hi : i < L.length) (hk0 : 0 < k) (hk : k < L.length) (hp : (k - 1) / 2 = i) (hlt : Lt (gE L k) (gE L i))
    (hmin : ∀ s, 0 < s → s < L.length → (s - 1) / 2 = i → ¬ Lt (gE L s) (gE L k)) : HoleD (swp L i k) k where
  a := fun j h0 hj hne hpk => by
    rw [swp_length] at hj
    have hg := gE_swp hi hk
    simp only [OkAt, hg]
    rw [if_neg hne, if_neg hpk]
    by_cases e : j = i
    · rw [if_pos e, if_neg (by omega)]
      have := h.b k hk0 hk hp (by omega)
      rw [e]; exact this
    · rw [if_neg e]
      by_cases e2 : (j - 1) / 2 = i
      · rw [if_pos e2]; exact hmin j h0 hj e2
      · rw [if_neg e2]; exact h.a j h0 hj e e2
  b := fun j h0 hj hpj _ => by
    rw [swp_length] at hj
    have hg := gE_swp hi hk
    simp only [hg]
    rw [if_neg (by omega), if_neg (by omega), if_neg (by omega), if_pos hp]
    have := h.a j h0 hj (by omega) (by omega)
    rw [OkAt, hpj] at this; exact this
theorem HoleD.exit {L : List En} {i : Nat} (h : HoleD L i) (hmin : ∀ s, 0 < s → s < L.length → (s - 1) / 2 = i → ¬ Lt (gE L s) (gE L i)) : HoleU L i where
  a := fun k h0 hk hne => by
    by_cases e : (k - 1) / 2 = i
    · rw [OkAt, e]; exact hmin k h0 hk e
    · exact h.a k h0 hk hne e
  b := h.b
theorem HoleU.step {L : List En} {i : Nat} (h : HoleU L i) (hi : i < L.length) (h0 : 0 < i) (hlt : Lt (gE L i) (gE L ((i - 1) / 2))) : HoleU (swp L i ((i - 1) / 2)) ((i - 1) / 2) where
  a := fun j hj0 hj hne => by
    rw [swp_length] at hj
    have hp : (i - 1) / 2 < L.length := by omega
    have hg := gE_swp hi hp
    simp only [OkAt, hg]
    rw [if_neg hne]
    by_cases e : j = i
    · subst e
      rw [if_pos rfl, if_pos rfl]
      simp only [Lt] at hlt ⊢; omega
    · rw [if_neg e]
      by_cases e2 : (j - 1) / 2 = (i - 1) / 2
      · rw [if_pos e2]
        have := h.a j hj0 hj e
        rw [OkAt, e2] at this
        simp only [Lt] at this hlt ⊢; omega
      · rw [if_neg e2]
        by_cases e3 : (j - 1) / 2 = i
        · rw [if_pos e3]; exact h.b j hj0 hj e3 h0
        · rw [if_neg e3]; exact h.a j hj0 hj e
  b := fun j hj0 hj hpj hp0 => by
    rw [swp_length] at hj
    have hp : (i - 1) / 2 < L.length := by omega
    have hg := gE_swp hi hp
    simp only [hg]
    have hpp := h.a ((i - 1) / 2) hp0 hp (by omega)
    rw [OkAt] at hpp
    rw [if_neg (by omega), if_neg (by omega : ((i - 1) / 2 - 1) / 2 ≠ (i - 1) / 2), if_neg (by omega : ((i - 1) / 2 - 1) / 2 ≠ i)]
    by_cases e : j = i
    · rw [if_pos e]; exact hpp
    · rw [if_neg e]
      have := h.a j hj0 hj e
      rw [OkAt, hpj] at this
      simp only [Lt] at this hpp ⊢; omega
theorem HoleU.exit {L : List En} {i : Nat} (h : HoleU L i) (he : i = 0 ∨ ¬ Lt (gE L i) (gE L ((i - 1) / 2))) : Heap L := fun k h0 hk => by
  by_cases e : k = i
  · subst e
    rcases he with he | he
    · omega
    · exact he
  · exact h.a k h0 hk e
theorem Heap.hole {L : List En} (h : Heap L) (i : Nat) : HoleU L i where
  a := fun k h0 hk _ => h k h0 hk
  b := fun k h0 hk hp hi => by
    have h1 := h k h0 hk
    have h2 := h i hi (by omega)
    rw [OkAt, hp] at h1
    rw [OkAt] at h2
    simp only [Lt] at h1 h2 ⊢; omega
theorem Heap.min {L : List En} (h : Heap L) : ∀ k, k < L.length → ¬ Lt (gE L k) (gE L 0) := by
  intro k
  induction k using Nat.strongRecOn with
  | _ k ih =>
    intro hk
    by_cases h0 : k = 0
    · subst h0; simp only [Lt]; omega
    · have h1 := h k (by omega) hk
      have h2 := ih ((k - 1) / 2) (by omega) (by omega)
      rw [OkAt] at h1
      simp only [Lt] at h1 h2 ⊢; omega
/-- Where each is; but for one place. -/
structure Wh (f : Int → Option Value) (L : List En) (i : Nat) : Prop where
  a : ∀ j, j < L.length → j ≠ i → f (gE L j).id = some (.int .i64 (j : Int))
  b : ∀ x, (∀ j, j < L.length → (gE L j).id ≠ x) → f x = none
structure WhA (f : Int → Option Value) (L : List En) : Prop where
  a : ∀ j, j < L.length → f (gE L j).id = some (.int .i64 (j : Int))
  b : ∀ x, (∀ j, j < L.length → (gE L j).id ≠ x) → f x = none
def Nd (L : List En) : Prop := (L.map (·.id)).Nodup
theorem Nd.perm {L M : List En} (h : Nd L) (p : M.Perm L) : Nd M := (p.map _).nodup_iff.2 h
theorem Nd.inj {L : List En} (h : Nd L) {j k : Nat} (hj : j < L.length) (hk : k < L.length) (e : (gE L j).id = (gE L k).id) : j = k := by
  have h1 : (L.map (·.id))[j]? = some (gE L j).id := by rw [List.getElem?_map, gE_get hj]; rfl
  have h2 : (L.map (·.id))[k]? = some (gE L k).id := by rw [List.getElem?_map, gE_get hk]; rfl
  rw [e] at h1
  obtain ⟨a1, b1⟩ := List.getElem?_eq_some_iff.1 h1
  obtain ⟨a2, b2⟩ := List.getElem?_eq_some_iff.1 h2
  have hp := List.pairwise_iff_getElem.1 h
  rcases Nat.lt_trichotomy j k with h3 | h3 | h3
  · exact absurd (b1.trans b2.symm) (hp j k a1 a2 h3)
  · exact h3
  · exact absurd (b2.trans b1.symm) (hp k j a2 a1 h3)
theorem Wh.step {f : Int → Option Value} {L : List En} {i k : Nat} (h : Wh f L i) (hn : Nd L) (hi : i < L.length) (hk : k < L.length) (hne : k ≠ i) : Wh (updF f (gE L k).id (.int .i64 (i : Int))) (swp L i k) k where
  a := fun j hj hjk => by
    rw [swp_length] at hj
    rw [gE_swp hi hk, if_neg hjk]
    by_cases e : j = i
    · subst e; rw [if_pos rfl, updF, if_pos rfl]
    · rw [if_neg e, updF, if_neg (fun e2 => hjk (hn.inj hj hk e2))]; exact h.a j hj e
  b := fun x hx => by
    have h1 : (gE L k).id ≠ x := by
      have := hx i (by rw [swp_length]; exact hi)
      rwa [gE_swp hi hk, if_neg (Ne.symm hne), if_pos rfl] at this
    rw [updF, if_neg (Ne.symm h1)]
    refine h.b x fun j hj => ?_
    by_cases e : j = k
    · rw [e]; exact h1
    · by_cases e2 : j = i
      · have := hx k (by rw [swp_length]; exact hk)
        rw [gE_swp hi hk, if_pos rfl] at this
        rw [e2]; exact this
      · have := hx j (by rw [swp_length]; exact hj)
        rwa [gE_swp hi hk, if_neg e, if_neg e2] at this
theorem Wh.done {f : Int → Option Value} {L : List En} {i : Nat} (h : Wh f L i) (hn : Nd L) (hi : i < L.length) : WhA (updF f (gE L i).id (.int .i64 (i : Int))) L where
  a := fun j hj => by
    by_cases e : j = i
    · subst e; rw [updF, if_pos rfl]
    · rw [updF, if_neg (fun e2 => e (hn.inj hj hi e2))]; exact h.a j hj e
  b := fun x hx => by rw [updF, if_neg (Ne.symm (hx i hi))]; exact h.b x hx
theorem WhA.but {f : Int → Option Value} {L : List En} (h : WhA f L) (i : Nat) : Wh f L i := ⟨fun j hj _ => h.a j hj, h.b⟩
theorem WhA.none {f : Int → Option Value} {L : List En} (h : WhA f L) {x : Int} (hx : ∀ e ∈ L, e.id ≠ x) : f x = none := h.b x fun _ hj => hx _ (gE_mem hj)
theorem WhA.some {f : Int → Option Value} {L : List En} (h : WhA f L) {e : En} (he : e ∈ L) : ∃ j, j < L.length ∧ gE L j = e ∧ f e.id = some (.int .i64 (j : Int)) := by
  obtain ⟨j, hj⟩ := List.getElem?_of_mem he
  have hl := (List.getElem?_eq_some_iff.1 hj).1
  have hg := gE_of hj
  exact ⟨j, hl, hg, by rw [← hg]; exact h.a j hl⟩
/-- A loop's state: the list with e thought at place i. -/
theorem hole_set {A : List En} {i k : Nat} (e : En) (hi : i < A.length) (hk : k < A.length) (hne : k ≠ i) : (A.set i (gE A k)).set k e = swp (A.set i e) i k := by
  rw [swp, gE_set hi, if_neg hne, gE_set hi, if_pos rfl, List.set_set]

set_option maxRecDepth 4000 in
theorem ahead_ok (a b : En) : FSpec Try.prog 91 [.agg (ints [a.at_, a.tn]).toArray, .agg (ints [b.at_, b.tn]).toArray] noRd [] (fun _ : Unit => .bool (decide (Lt a b))) (fun _ => True) (fun _ => []) := by
  refine FSpec.intro (rs := [.tmp 4]) (by kernel_rfl) Try.func91 rfl Try.ntmps91 (by rfl) rfl ?_
  intro F _
  change TC _ _ _ _ _ _ _ (sepL [_])
  refine TC.seq ?_
  refine TC.region ?_
  refine e rfl ?_
  refine bx (v := .agg (List.toArray (ints [_, _]))) (l := ints [_, _]) rfl rfl ?_
  intro b1
  refine e rfl ?_
  refine bx (v := .agg (List.toArray (ints [_, _]))) (l := ints [_, _]) rfl rfl ?_
  intro b2
  refine q rfl rfl (asg (v := .bool _) rfl) ?_
  refine TL.nil (nt ?_)
  refine TC.seq ?_
  refine TC.region ?_
  first | refine q rfl rfl (fa 0 rfl rfl) ?_ | refine q rfl rfl (faS 0 rfl rfl (by first | assumption | (simp [ints_length] <;> omega))) ?_
  first | refine q rfl rfl (ld rfl rfl rfl) ?_ | refine q rfl rfl (ldS rfl rfl rfl) ?_
  first | refine q rfl rfl (fa 0 rfl rfl) ?_ | refine q rfl rfl (faS 0 rfl rfl (by first | assumption | (simp [ints_length] <;> omega))) ?_
  first | refine q rfl rfl (ld rfl rfl rfl) ?_ | refine q rfl rfl (ldS rfl rfl rfl) ?_
  refine q rfl rfl (lss rfl rfl) ?_
  refine q rfl rfl (mv (v := .bool _) rfl) ?_
  refine TL.split 10 rfl (fun h1 => ?_) (fun h1 => ?_)
  · have h1 := of_decide_eq_true h1
    refine qs rfl rfl ?_
    refine qs rfl rfl ?_
    refine qs rfl rfl ?_
    refine qs rfl rfl ?_
    refine qs rfl rfl ?_
    refine qs rfl rfl ?_
    refine qsu rfl rfl ?_
    refine qsu rfl rfl ?_
    refine qsu rfl rfl ?_
    refine qsu rfl rfl ?_
    refine qsu rfl rfl ?_
    refine qs rfl rfl ?_
    first | refine q rfl rfl (pkT (v := .bool _) rfl rfl) ?_ | refine q rfl rfl (pkF (v := .bool _) rfl rfl) ?_
    refine q rfl rfl (asg (v := .bool _) rfl) ?_
    refine TL.nil (nt ?_)
    refine TC.ret ?_
    exact Ret.i () [_] ⟨rfl, trivial⟩ (congrArg Value.bool (decide_eq_true (.inl h1)).symm) trivial (ent_take 2 rfl (ent_nil _))
  · have h1 := of_decide_eq_false h1
    first | refine qg rfl rfl rfl (fa 0 rfl rfl) ?_ | refine qg rfl rfl rfl (faS 0 rfl rfl (by first | assumption | (simp [ints_length] <;> omega))) ?_
    first | refine qg rfl rfl rfl (ld rfl rfl rfl) ?_ | refine qg rfl rfl rfl (ldS rfl rfl rfl) ?_
    first | refine qg rfl rfl rfl (fa 0 rfl rfl) ?_ | refine qg rfl rfl rfl (faS 0 rfl rfl (by first | assumption | (simp [ints_length] <;> omega))) ?_
    first | refine qg rfl rfl rfl (ld rfl rfl rfl) ?_ | refine qg rfl rfl rfl (ldS rfl rfl rfl) ?_
    refine qg rfl rfl rfl (eqI rfl rfl) ?_
    refine qg rfl rfl rfl (mv (v := .bool _) rfl) ?_
    refine TL.split 16 rfl (fun h2 => ?_) (fun h2 => ?_)
    · have h2 := of_decide_eq_true h2
      first | refine qg rfl rfl rfl (fa 1 rfl rfl) ?_ | refine qg rfl rfl rfl (faS 1 rfl rfl (by first | assumption | (simp [ints_length] <;> omega))) ?_
      first | refine qg rfl rfl rfl (ld rfl rfl rfl) ?_ | refine qg rfl rfl rfl (ldS rfl rfl rfl) ?_
      first | refine qg rfl rfl rfl (fa 1 rfl rfl) ?_ | refine qg rfl rfl rfl (faS 1 rfl rfl (by first | assumption | (simp [ints_length] <;> omega))) ?_
      first | refine qg rfl rfl rfl (ld rfl rfl rfl) ?_ | refine qg rfl rfl rfl (ldS rfl rfl rfl) ?_
      refine qg rfl rfl rfl (lss rfl rfl) ?_
      first | refine qg rfl rfl rfl (pkT (v := .bool _) rfl rfl) ?_ | refine qg rfl rfl rfl (pkF (v := .bool _) rfl rfl) ?_
      first | refine q rfl rfl (pkT (v := .bool _) rfl rfl) ?_ | refine q rfl rfl (pkF (v := .bool _) rfl rfl) ?_
      refine q rfl rfl (asg (v := .bool _) rfl) ?_
      refine TL.nil (nt ?_)
      refine TC.ret ?_
      exact Ret.i () [_] ⟨rfl, trivial⟩ (congrArg Value.bool (by rw [decide_eq_decide]; simp only [Lt]; omega)) trivial (ent_take 2 rfl (ent_nil _))
    · have h2 := of_decide_eq_false h2
      refine qs rfl rfl ?_
      refine qs rfl rfl ?_
      refine qs rfl rfl ?_
      refine qs rfl rfl ?_
      refine qs rfl rfl ?_
      first | refine qg rfl rfl rfl (pkT (v := .bool _) rfl rfl) ?_ | refine qg rfl rfl rfl (pkF (v := .bool _) rfl rfl) ?_
      first | refine q rfl rfl (pkT (v := .bool _) rfl rfl) ?_ | refine q rfl rfl (pkF (v := .bool _) rfl rfl) ?_
      refine q rfl rfl (asg (v := .bool _) rfl) ?_
      refine TL.nil (nt ?_)
      refine TC.ret ?_
      exact Ret.i () [_] ⟨rfl, trivial⟩ (congrArg Value.bool (decide_eq_false (by simp only [Lt]; omega)).symm) trivial (ent_take 2 rfl (ent_nil _))

set_option maxRecDepth 4000 in
theorem put_ok (b : Nat) (now tn : Int) (H : List En) (ad : Option Addr) (n cap wb m : Nat) (f : Int → Option Value) (i : Nat) (hn : H.length = n) (hi : i < n) (hc : n ≤ 1000000) (ee : En) : FSpec Try.prog 85 [.pointer (some ⟨b, 0, none⟩), .int .i64 (i : Int), .agg (enC ee).toArray] noRd [pts b 93 [.int .i64 now, .int .i64 tn, .slice ad n cap, .map (some wb)], slc 117 3 ad n cap (ents H), mapF encI wb f m] (fun _ : Unit => .tuple #[]) (fun _ => True) (fun _ => [pts b 93 [.int .i64 now, .int .i64 tn, .slice ad n cap, .map (some wb)], slc 117 3 ad n cap (ents (H.set i ee)), mapF encI wb (updF f ee.id (.int .i64 (i : Int))) (if (f ee.id).isSome then m else m + 1)]) := by
  refine FSpec.intro (rs := []) (by kernel_rfl) Try.func85 rfl Try.ntmps85 (by rfl) rfl ?_
  intro F _
  change TC _ _ _ _ _ _ _ (sepL [_, _, _, _])
  have hg := gE_get (show i < H.length by omega)
  have hpl : 0 < (ents H).length := by rw [ents_length]; omega
  refine TC.seq ?_
  refine TC.region ?_
  refine e rfl ?_
  refine bx (v := .agg (List.toArray (ints [_, _, _]))) (l := ints [_, _, _]) rfl rfl ?_
  intro b3
  refine TL.nil (nt ?_)
  refine TC.seq ?_
  refine TC.draw _ [7] [(0, false), (1, false), (2, false), (3, false), (4, false), (5, false), (6, false), (7, true)] (by kernel_rfl) (by kernel_rfl) (ent.refl _) ?_
  refine dq rfl rfl rfl (mv (v := .pointer _) rfl) ?_
  first | refine dq rfl rfl rfl (nc rfl) ?_ | refine dq rfl rfl rfl (ncF rfl) ?_ | refine dq rfl rfl rfl (ncS rfl (by first | assumption | (simp [ints_length] <;> omega))) ?_
  first | refine dq rfl rfl rfl (fa 2 rfl rfl) ?_ | refine dq rfl rfl rfl (faS 2 rfl rfl (by first | assumption | (simp [ints_length] <;> omega))) ?_
  first | refine dq rfl rfl rfl (ld rfl rfl rfl) ?_ | refine dq rfl rfl rfl (ldS rfl rfl rfl) ?_
  refine dq rfl rfl rfl (mv (v := .int _ _) rfl) ?_
  first | refine dq rfl rfl rfl (ldN (vs := ints [_, _, _]) 3 rfl rfl rfl rfl) ?_ | refine dq rfl rfl rfl (ldSN (vs := ints [_, _, _]) 3 rfl rfl rfl rfl (by decide)) ?_
  first | refine dq rfl rfl rfl (ixS 117 3 rfl rfl rfl (by omega) (by first | assumption | (simp [ints_length] <;> omega))) ?_ | refine dq rfl rfl rfl (ixJ 117 3 rfl rfl rfl (by omega) (by omega) (by first | assumption | (simp [ints_length] <;> omega))) ?_ | refine dq rfl rfl rfl (ix 117 3 rfl rfl rfl (by omega) (by omega) rfl) ?_
  refine dl0 rfl rfl rfl ?_
  first | refine st (v := .agg (List.toArray (ints [_, _, _]))) (vs := ints [_, _, _]) 3 rfl rfl rfl rfl rfl rfl (Nat.le_of_ble_eq_true rfl) rfl ?_ | refine stS (v := .agg (List.toArray (ints [_, _, _]))) (vs := ints [_, _, _]) 3 rfl rfl rfl rfl rfl rfl (by decide) (by rw [flat_length enC_sz]; omega) (flat_set (a' := ee) enC_sz hg 0 (by omega) (Nat.le_of_ble_eq_true rfl) rfl) ?_
  refine TD.nil (nt ?_)
  refine TC.draw _ [] [(0, false), (1, false), (2, false), (3, false), (4, false), (5, false), (6, false), (7, true)] (by kernel_rfl) (by kernel_rfl) (ent_take 0 rfl (ent_take 0 rfl (ent_take 0 rfl (ent_nil _)))) ?_
  refine dq rfl rfl rfl (mv (v := .pointer _) rfl) ?_
  first | refine dq rfl rfl rfl (nc rfl) ?_ | refine dq rfl rfl rfl (ncF rfl) ?_ | refine dq rfl rfl rfl (ncS rfl (by first | assumption | (simp [ints_length] <;> omega))) ?_
  first | refine dq rfl rfl rfl (fa 3 rfl rfl) ?_ | refine dq rfl rfl rfl (faS 3 rfl rfl (by first | assumption | (simp [ints_length] <;> omega))) ?_
  first | refine dq rfl rfl rfl (ld rfl rfl rfl) ?_ | refine dq rfl rfl rfl (ldS rfl rfl rfl) ?_
  first | refine dq rfl rfl rfl (fa 2 rfl rfl) ?_ | refine dq rfl rfl rfl (faS 2 rfl rfl (by first | assumption | (simp [ints_length] <;> omega))) ?_
  first | refine dq rfl rfl rfl (ld rfl rfl rfl) ?_ | refine dq rfl rfl rfl (ldS rfl rfl rfl) ?_
  refine dq rfl rfl rfl (mv (v := .int _ _) rfl) ?_
  refine de0 rfl ?_
  refine muF 3 3 rfl (KL.int rfl) rfl rfl rfl ?_
  refine ⟨(by repeat (first | exact ent_nil _ | refine ent_take 0 rfl ?_ | refine ent_take 1 rfl ?_ | refine ent_take 2 rfl ?_ | refine ent_take 3 rfl ?_ | refine ent_take 4 rfl ?_ | refine ent_take 5 rfl ?_ | refine ent_take 6 rfl ?_ | refine ent_take 7 rfl ?_ | refine ent_take 8 rfl ?_ | refine ent_take 9 rfl ?_ | refine ent_take 10 rfl ?_ | refine ent_take 11 rfl ?_ | refine ent_take 12 rfl ?_)), ?_⟩
  refine TD.nil ?_
  exact Ret.n () [] trivial rfl trivial (ent_take 3 rfl (ent_take 1 rfl (ent_take 0 rfl (ent_take 1 rfl (ent_nil _)))))

set_option maxRecDepth 4000 in
theorem up_ok (b : Nat) (now tn : Int) (H : List En) (ad : Option Addr) (n cap wb m : Nat) (f : Int → Option Value) (i : Nat) (hn : H.length = n) (hi : i < n) (hc : n ≤ 1000000) (hU : HoleU H i) (hW : Wh f H i) (hN : Nd H) : FSpec Try.prog 84 [.pointer (some ⟨b, 0, none⟩), .int .i64 (i : Int)] noRd [pts b 93 [.int .i64 now, .int .i64 tn, .slice ad n cap, .map (some wb)], slc 117 3 ad n cap (ents H), mapF encI wb f m] (fun _ : List En × (Int → Option Value) × Nat => .tuple #[]) (fun y => Heap y.1 ∧ WhA y.2.1 y.1 ∧ y.1.Perm H) (fun y => [pts b 93 [.int .i64 now, .int .i64 tn, .slice ad n cap, .map (some wb)], slc 117 3 ad n cap (ents y.1), mapF encI wb y.2.1 y.2.2]) := by
  refine FSpec.intro (rs := []) (by kernel_rfl) Try.func84 rfl Try.ntmps84 (by rfl) rfl ?_
  intro F _
  change TC _ _ _ _ _ _ _ (sepL [_, _, _, _])
  have hg := gE_get (show i < H.length by omega)
  have hpl : 0 < (ents H).length := by rw [ents_length]; omega
  refine TC.seq ?_
  refine TC.region ?_
  refine q rfl rfl (mv (v := .pointer _) rfl) ?_
  first | refine q rfl rfl (nc rfl) ?_ | refine q rfl rfl (ncF rfl) ?_ | refine q rfl rfl (ncS rfl (by first | assumption | (simp [ints_length] <;> omega))) ?_
  first | refine q rfl rfl (fa 2 rfl rfl) ?_ | refine q rfl rfl (faS 2 rfl rfl (by first | assumption | (simp [ints_length] <;> omega))) ?_
  first | refine q rfl rfl (ld rfl rfl rfl) ?_ | refine q rfl rfl (ldS rfl rfl (flat_get_rec enC_sz hg)) ?_ | refine q rfl rfl (ldS rfl rfl rfl) ?_
  refine q rfl rfl (mv (v := .int _ _) rfl) ?_
  first | refine q rfl rfl (ixS 117 3 rfl rfl rfl (by omega) (by first | assumption | (simp [ints_length] <;> omega))) ?_ | refine q rfl rfl (ixJ 117 3 rfl rfl rfl (by omega) (by omega) (by first | assumption | (simp [ints_length] <;> omega))) ?_ | refine q rfl rfl (ix 117 3 rfl rfl rfl (by omega) (by omega) rfl) ?_
  first | refine q rfl rfl (ldN (vs := ints [_, _, _]) 3 rfl rfl rfl rfl) ?_ | refine q rfl rfl (ldSN (vs := ints [_, _, _]) 3 rfl rfl (flat_get_rec enC_sz hg) rfl (by decide)) ?_ | refine q rfl rfl (ldSN (vs := ints [_, _, _]) 3 rfl rfl rfl rfl (by decide)) ?_
  refine e rfl ?_
  refine al (l := ints [_, _, _]) rfl rfl ?_
  intro b4
  refine e0 ?_
  refine st (v := .agg (List.toArray (ints [_, _, _]))) (vs := ints [_, _, _]) 3 rfl rfl rfl rfl rfl rfl (Nat.le_of_ble_eq_true rfl) rfl ?_
  refine TL.nil (nt ?_)
  refine TC.seq ?_
  refine TC.block ?_
  obtain ⟨ee, he⟩ : ∃ ee, gE H i = ee := ⟨_, rfl⟩
  rw [he]
  refine TC.loop (ι := Nat × List En × (Int → Option Value) × Nat) (fun s => s.1 < n ∧ s.2.1.length = n ∧ HoleU (s.2.1.set s.1 ee) s.1 ∧ Wh s.2.2.1 (s.2.1.set s.1 ee) s.1 ∧ (s.2.1.set s.1 ee).Perm H) (fun s => [(0, .pointer (some ⟨b, 0, none⟩)), (1, .int .i64 ((s.1 : Nat) : Int)), (4, .pointer (some ⟨b4, 0, none⟩))]) (fun s => sepL [pts b4 117 (enC ee), pts b 93 [.int .i64 now, .int .i64 tn, .slice ad n cap, .map (some wb)], slc 117 3 ad n cap (ents s.2.1), mapF encI wb s.2.2.1 s.2.2.2, F]) (fun s => s.1) ⟨i, H, f, m⟩ (by dsimp only; rw [← he, set_self (by omega)]; exact ⟨hi, hn, hU, hW, List.Perm.refl _⟩) ⟨rfl, rfl, rfl, trivial⟩ (ent_take 0 rfl (ent_take 0 rfl (ent_take 0 rfl (ent_take 0 rfl (ent_take 0 rfl (ent_nil _)))))) ?_
  rintro ⟨k, A, g, q0⟩ ⟨hk, hA, hU1, hW1, hP1⟩ ρ0
  dsimp only [updL] at hk hA hU1 hW1 hP1 ⊢
  have hkA : k < A.length := by omega
  have hpA : 0 < (ents A).length := by rw [ents_length]; omega
  have hsl : (A.set k ee).length = n := by rw [List.length_set]; exact hA
  refine TC.seq ?_
  refine TC.seq ?_
  refine TC.draw _ [] [(0, false), (1, false), (2, false), (3, false), (4, false), (5, false), (6, false), (7, false), (8, false), (9, false), (10, false), (11, false), (12, false), (13, false), (14, false), (15, true), (16, false)] (by kernel_rfl) (by kernel_rfl) (ent_take 0 rfl (ent_take 0 rfl (ent_take 0 rfl (ent_take 0 rfl (ent_nil _))))) ?_
  refine dq rfl rfl rfl (mv (v := .int _ _) rfl) ?_
  refine dq rfl rfl rfl (gtr rfl rfl) ?_
  refine dq rfl rfl rfl (mv (v := .bool _) rfl) ?_
  refine TD.split 14 rfl (fun hk0 => ?_) (fun hk0 => ?_)
  · have hk0 := of_decide_eq_true hk0
    have hk0' : 0 < k := by omega
    obtain ⟨pp, hp⟩ : ∃ pp : Nat, ((k : Int) - 1) / 2 = pp := ⟨(k - 1) / 2, by omega⟩
    have hpe : pp = (k - 1) / 2 := by omega
    have hgp := gE_get (show pp < A.length by omega)
    have hgs : gE (A.set k ee) pp = gE A pp := by rw [gE_set hkA, if_neg (by omega)]
    have hge : gE (A.set k ee) k = ee := by rw [gE_set hkA, if_pos rfl]
    first | refine dg rfl rfl rfl rfl (fa 0 rfl rfl) ?_ | refine dg rfl rfl rfl rfl (faS 0 rfl rfl (by first | assumption | (simp [ints_length] <;> omega))) ?_
    first | refine dg rfl rfl rfl rfl (ldN (vs := ints [_, _]) 2 rfl rfl rfl rfl) ?_ | refine dg rfl rfl rfl rfl (ldSN (vs := ints [_, _]) 2 rfl rfl (flat_ldN enC_sz hgp 0 2 (by omega) (by omega) rfl) rfl (by decide)) ?_ | refine dg rfl rfl rfl rfl (ldSN (vs := ints [_, _]) 2 rfl rfl (flat_get_rec enC_sz hgp) rfl (by decide)) ?_ | refine dg rfl rfl rfl rfl (ldSN (vs := ints [_, _]) 2 rfl rfl rfl rfl (by decide)) ?_
    refine dg rfl rfl rfl rfl (mv (v := .pointer _) rfl) ?_
    first | refine dg rfl rfl rfl rfl (nc rfl) ?_ | refine dg rfl rfl rfl rfl (ncF rfl) ?_ | refine dg rfl rfl rfl rfl (ncS rfl (by first | assumption | (simp [ints_length] <;> omega))) ?_
    first | refine dg rfl rfl rfl rfl (fa 2 rfl rfl) ?_ | refine dg rfl rfl rfl rfl (faS 2 rfl rfl (by first | assumption | (simp [ints_length] <;> omega))) ?_
    first | refine dg rfl rfl rfl rfl (ld rfl rfl rfl) ?_ | refine dg rfl rfl rfl rfl (ldS rfl rfl (flat_ldN enC_sz hgp 0 2 (by omega) (by omega) rfl)) ?_ | refine dg rfl rfl rfl rfl (ldS rfl rfl (flat_get_rec enC_sz hgp)) ?_ | refine dg rfl rfl rfl rfl (ldS rfl rfl rfl) ?_
    refine dg rfl rfl rfl rfl (mv (v := .int _ _) rfl) ?_
    first | refine dg rfl rfl rfl rfl (subI rfl rfl (by omega) (by omega)) ?_ | refine dg rfl rfl rfl rfl (sub rfl rfl rfl) ?_
    first | refine dg rfl rfl rfl rfl (quoI rfl rfl (by omega) (by omega) (by omega)) ?_ | refine dg rfl rfl rfl rfl (quo rfl rfl (by omega) rfl) ?_
    rw [hp]
    first | refine dg rfl rfl rfl rfl (ixS 117 3 rfl rfl rfl (by omega) (by first | assumption | (simp [ints_length] <;> omega))) ?_ | refine dg rfl rfl rfl rfl (ixJ 117 3 rfl rfl rfl (by omega) (by omega) (by first | assumption | (simp [ints_length] <;> omega))) ?_ | refine dg rfl rfl rfl rfl (ix 117 3 rfl rfl rfl (by omega) (by omega) rfl) ?_
    first | refine dg rfl rfl rfl rfl (fa 0 rfl rfl) ?_ | refine dg rfl rfl rfl rfl (faS 0 rfl rfl (by first | assumption | (simp [ints_length] <;> omega))) ?_
    first | refine dg rfl rfl rfl rfl (ldN (vs := ints [_, _]) 2 rfl rfl rfl rfl) ?_ | refine dg rfl rfl rfl rfl (ldSN (vs := ints [_, _]) 2 rfl rfl (flat_ldN enC_sz hgp 0 2 (by omega) (by omega) rfl) rfl (by decide)) ?_ | refine dg rfl rfl rfl rfl (ldSN (vs := ints [_, _]) 2 rfl rfl (flat_get_rec enC_sz hgp) rfl (by decide)) ?_ | refine dg rfl rfl rfl rfl (ldSN (vs := ints [_, _]) 2 rfl rfl rfl rfl (by decide)) ?_
    refine deg rfl rfl rfl ?_
    refine cl (ahead_ok ee (gE A pp)) rfl (picked_nil _) trivial ?_
    intro _ _
    change ent _ _ ∧ TD _ _ _ _ _ _ _ _ _ _ (sepL [_, _, _, _, _])
    refine ⟨(by repeat (first | exact ent_nil _ | refine ent_take 0 rfl ?_ | refine ent_take 1 rfl ?_ | refine ent_take 2 rfl ?_ | refine ent_take 3 rfl ?_ | refine ent_take 4 rfl ?_ | refine ent_take 5 rfl ?_ | refine ent_take 6 rfl ?_ | refine ent_take 7 rfl ?_ | refine ent_take 8 rfl ?_ | refine ent_take 9 rfl ?_ | refine ent_take 10 rfl ?_ | refine ent_take 11 rfl ?_ | refine ent_take 12 rfl ?_)), ?_⟩
    first | refine dq rfl rfl rfl (pkT (v := .bool _) rfl rfl) ?_ | refine dq rfl rfl rfl (pkF (v := .bool _) rfl rfl) ?_
    refine TD.nil (nt ?_)
    first | refine TC.condD rfl (fun hlt => ?_) (fun hlt => ?_) | refine TC.cond rfl (fun hlt => ?_) (fun hlt => ?_)
    · refine TC.skip (nt ?_)
      refine TC.block ?_
      refine TC.seq ?_
      refine TC.region ?_
      refine q rfl rfl (mv (v := .pointer _) rfl) ?_
      refine q rfl rfl (mv (v := .int _ _) rfl) ?_
      refine q rfl rfl (mv (v := .pointer _) rfl) ?_
      first | refine q rfl rfl (nc rfl) ?_ | refine q rfl rfl (ncF rfl) ?_ | refine q rfl rfl (ncS rfl (by first | assumption | (simp [ints_length] <;> omega))) ?_
      first | refine q rfl rfl (fa 2 rfl rfl) ?_ | refine q rfl rfl (faS 2 rfl rfl (by first | assumption | (simp [ints_length] <;> omega))) ?_
      first | refine q rfl rfl (ld rfl rfl rfl) ?_ | refine q rfl rfl (ldS rfl rfl (flat_ldN enC_sz hgp 0 2 (by omega) (by omega) rfl)) ?_ | refine q rfl rfl (ldS rfl rfl (flat_get_rec enC_sz hgp)) ?_ | refine q rfl rfl (ldS rfl rfl rfl) ?_
      refine q rfl rfl (mv (v := .int _ _) rfl) ?_
      first | refine q rfl rfl (subI rfl rfl (by omega) (by omega)) ?_ | refine q rfl rfl (sub rfl rfl rfl) ?_
      first | refine q rfl rfl (quoI rfl rfl (by omega) (by omega) (by omega)) ?_ | refine q rfl rfl (quo rfl rfl (by omega) rfl) ?_
      rw [hp]
      first | refine q rfl rfl (ixS 117 3 rfl rfl rfl (by omega) (by first | assumption | (simp [ints_length] <;> omega))) ?_ | refine q rfl rfl (ixJ 117 3 rfl rfl rfl (by omega) (by omega) (by first | assumption | (simp [ints_length] <;> omega))) ?_ | refine q rfl rfl (ix 117 3 rfl rfl rfl (by omega) (by omega) rfl) ?_
      first | refine q rfl rfl (ldN (vs := ints [_, _, _]) 3 rfl rfl rfl rfl) ?_ | refine q rfl rfl (ldSN (vs := ints [_, _, _]) 3 rfl rfl (flat_ldN enC_sz hgp 0 2 (by omega) (by omega) rfl) rfl (by decide)) ?_ | refine q rfl rfl (ldSN (vs := ints [_, _, _]) 3 rfl rfl (flat_get_rec enC_sz hgp) rfl (by decide)) ?_ | refine q rfl rfl (ldSN (vs := ints [_, _, _]) 3 rfl rfl rfl rfl (by decide)) ?_
      refine e rfl ?_
      refine cl (put_ok b now tn A ad n cap wb q0 g k hA (by omega) hc (gE A pp)) rfl (picked_cons 1 rfl (picked_cons 1 rfl (picked_cons 1 rfl (picked_nil _)))) trivial ?_
      intro _ _
      change TL _ _ _ _ _ _ _ _ (sepL [_, _, _, _, _])
      refine TL.nil (nt ?_)
      refine TC.region ?_
      refine q rfl rfl (mv (v := .int _ _) rfl) ?_
      first | refine q rfl rfl (subI rfl rfl (by omega) (by omega)) ?_ | refine q rfl rfl (sub rfl rfl rfl) ?_
      first | refine q rfl rfl (quoI rfl rfl (by omega) (by omega) (by omega)) ?_ | refine q rfl rfl (quo rfl rfl (by omega) rfl) ?_
      rw [hp]
      refine q rfl rfl (asg (v := .int _ _) rfl) ?_
      refine TL.nil (nb (nt ?_))
      have hsw := hole_set ee hkA (show pp < A.length by omega) (by omega)
      have hU2 := hU1.step (by omega) hk0' (by rw [← hpe, hgs, hge]; exact hlt)
      have hW2 := hW1.step (hN.perm hP1) (by omega) (show pp < (A.set k ee).length by omega) (by omega)
      rw [← hpe, ← hsw] at hU2
      rw [hgs, ← hsw] at hW2
      have hP2 := (swp_perm (L := A.set k ee) (i := k) (k := pp) (by omega) (by omega)).trans hP1
      rw [← hsw] at hP2
      exact ⟨rfl, ⟨pp, A.set k (gE A pp), _, _⟩, ⟨by dsimp only; omega, by dsimp only; rw [List.length_set]; exact hA, hU2, hW2, hP2⟩, (by dsimp only; omega), ⟨rfl, rfl, rfl, trivial⟩, (ent_take 3 rfl (ent_take 0 rfl (ent_take 0 rfl (ent_take 0 rfl (ent_take 0 rfl (ent_nil _))))))⟩
    · have hHp := hU1.exit (.inr (by rw [hge, ← hpe, hgs]; exact hlt))
      refine TC.exit (et (et (eb (nt ?_))))
      refine TC.region ?_
      refine q rfl rfl (mv (v := .pointer _) rfl) ?_
      refine q rfl rfl (mv (v := .int _ _) rfl) ?_
      first | refine q rfl rfl (ldN (vs := ints [_, _, _]) 3 rfl rfl rfl rfl) ?_ | refine q rfl rfl (ldSN (vs := ints [_, _, _]) 3 rfl rfl (flat_ldN enC_sz hgp 0 2 (by omega) (by omega) rfl) rfl (by decide)) ?_ | refine q rfl rfl (ldSN (vs := ints [_, _, _]) 3 rfl rfl (flat_get_rec enC_sz hgp) rfl (by decide)) ?_ | refine q rfl rfl (ldSN (vs := ints [_, _, _]) 3 rfl rfl rfl rfl (by decide)) ?_
      refine e rfl ?_
      refine cl (put_ok b now tn A ad n cap wb q0 g k hA (by omega) hc ee) rfl (picked_cons 1 rfl (picked_cons 1 rfl (picked_cons 1 rfl (picked_nil _)))) trivial ?_
      intro _ _
      change TL _ _ _ _ _ _ _ _ (sepL [_, _, _, _, _])
      refine TL.nil ?_
      have hWd := hW1.done (hN.perm hP1) (by omega)
      have hge : gE (A.set k ee) k = ee := by rw [gE_set hkA, if_pos rfl]
      rw [hge] at hWd
      exact Ret.n ⟨A.set k ee, _, _⟩ [] trivial rfl ⟨hHp, hWd, hP1⟩ (ent_take 0 rfl (ent_take 0 rfl (ent_take 0 rfl (ent_take 1 rfl (ent_nil _)))))
  · have hk0 := of_decide_eq_false hk0
    have hHp := hU1.exit (.inl (by omega))
    refine dk rfl rfl rfl rfl ?_
    refine dk rfl rfl rfl rfl ?_
    refine dk rfl rfl rfl rfl ?_
    refine dk rfl rfl rfl rfl ?_
    refine dk rfl rfl rfl rfl ?_
    refine dk rfl rfl rfl rfl ?_
    refine dk rfl rfl rfl rfl ?_
    refine dk rfl rfl rfl rfl ?_
    refine dk rfl rfl rfl rfl ?_
    refine dk rfl rfl rfl rfl ?_
    refine dk rfl rfl rfl rfl ?_
    refine dk rfl rfl rfl rfl ?_
    refine dke rfl rfl rfl (by repeat (first | exact ent_nil _ | refine ent_take 0 rfl ?_ | refine ent_take 1 rfl ?_ | refine ent_take 2 rfl ?_ | refine ent_take 3 rfl ?_ | refine ent_take 4 rfl ?_ | refine ent_take 5 rfl ?_ | refine ent_take 6 rfl ?_ | refine ent_take 7 rfl ?_ | refine ent_take 8 rfl ?_ | refine ent_take 9 rfl ?_ | refine ent_take 10 rfl ?_ | refine ent_take 11 rfl ?_ | refine ent_take 12 rfl ?_)) ?_
    first | refine dq rfl rfl rfl (pkT (v := .bool _) rfl rfl) ?_ | refine dq rfl rfl rfl (pkF (v := .bool _) rfl rfl) ?_
    refine TD.nil (nt ?_)
    refine TC.condF rfl ?_
    refine TC.exit (et (et (eb (nt ?_))))
    refine TC.region ?_
    refine q rfl rfl (mv (v := .pointer _) rfl) ?_
    refine q rfl rfl (mv (v := .int _ _) rfl) ?_
    first | refine q rfl rfl (ldN (vs := ints [_, _, _]) 3 rfl rfl rfl rfl) ?_ | refine q rfl rfl (ldSN (vs := ints [_, _, _]) 3 rfl rfl (flat_get_rec enC_sz hg) rfl (by decide)) ?_ | refine q rfl rfl (ldSN (vs := ints [_, _, _]) 3 rfl rfl rfl rfl (by decide)) ?_
    refine e rfl ?_
    refine cl (put_ok b now tn A ad n cap wb q0 g k hA (by omega) hc ee) rfl (picked_cons 1 rfl (picked_cons 1 rfl (picked_cons 1 rfl (picked_nil _)))) trivial ?_
    intro _ _
    change TL _ _ _ _ _ _ _ _ (sepL [_, _, _, _, _])
    refine TL.nil ?_
    have hWd := hW1.done (hN.perm hP1) (by omega)
    have hge : gE (A.set k ee) k = ee := by rw [gE_set hkA, if_pos rfl]
    rw [hge] at hWd
    exact Ret.n ⟨A.set k ee, _, _⟩ [] trivial rfl ⟨hHp, hWd, hP1⟩ (ent_take 0 rfl (ent_take 0 rfl (ent_take 0 rfl (ent_take 1 rfl (ent_nil _)))))

set_option maxRecDepth 4000 in
theorem down_ok (b : Nat) (now tn : Int) (H : List En) (ad : Option Addr) (n cap wb m : Nat) (f : Int → Option Value) (i : Nat) (hn : H.length = n) (hi : i < n) (hc : n ≤ 1000000) (hD : HoleD H i) (hW : Wh f H i) (hN : Nd H) : FSpec Try.prog 86 [.pointer (some ⟨b, 0, none⟩), .int .i64 (i : Int)] noRd [pts b 93 [.int .i64 now, .int .i64 tn, .slice ad n cap, .map (some wb)], slc 117 3 ad n cap (ents H), mapF encI wb f m] (fun _ : List En × (Int → Option Value) × Nat => .tuple #[]) (fun y => WhA y.2.1 y.1 ∧ y.1.Perm H ∧ ∃ j, j < n ∧ HoleU y.1 j ∧ gE y.1 j = gE H i) (fun y => [pts b 93 [.int .i64 now, .int .i64 tn, .slice ad n cap, .map (some wb)], slc 117 3 ad n cap (ents y.1), mapF encI wb y.2.1 y.2.2]) := by
  refine FSpec.intro (rs := []) (by kernel_rfl) Try.func86 rfl Try.ntmps86 (by rfl) rfl ?_
  intro F _
  change TC _ _ _ _ _ _ _ (sepL [_, _, _, _])
  have hg := gE_get (show i < H.length by omega)
  have hpl : 0 < (ents H).length := by rw [ents_length]; omega
  refine TC.seq ?_
  refine TC.region ?_
  refine q rfl rfl (mv (v := .pointer _) rfl) ?_
  first | refine q rfl rfl (nc rfl) ?_ | refine q rfl rfl (ncF rfl) ?_ | refine q rfl rfl (ncS rfl (by first | assumption | (simp [ints_length] <;> omega))) ?_
  first | refine q rfl rfl (fa 2 rfl rfl) ?_ | refine q rfl rfl (faS 2 rfl rfl (by first | assumption | (simp [ints_length] <;> omega))) ?_
  first | refine q rfl rfl (ld rfl rfl rfl) ?_ | refine q rfl rfl (ldS rfl rfl (flat_get_rec enC_sz hg)) ?_ | refine q rfl rfl (ldS rfl rfl rfl) ?_
  refine q rfl rfl (mv (v := .int _ _) rfl) ?_
  first | refine q rfl rfl (ixS 117 3 rfl rfl rfl (by omega) (by first | assumption | (simp [ints_length] <;> omega))) ?_ | refine q rfl rfl (ixJ 117 3 rfl rfl rfl (by omega) (by omega) (by first | assumption | (simp [ints_length] <;> omega))) ?_ | refine q rfl rfl (ix 117 3 rfl rfl rfl (by omega) (by omega) rfl) ?_
  first | refine q rfl rfl (ldN (vs := ints [_, _, _]) 3 rfl rfl rfl rfl) ?_ | refine q rfl rfl (ldSN (vs := ints [_, _, _]) 3 rfl rfl (flat_get_rec enC_sz hg) rfl (by decide)) ?_ | refine q rfl rfl (ldSN (vs := ints [_, _, _]) 3 rfl rfl rfl rfl (by decide)) ?_
  refine e rfl ?_
  refine al (l := ints [_, _, _]) rfl rfl ?_
  intro b5
  refine e0 ?_
  refine st (v := .agg (List.toArray (ints [_, _, _]))) (vs := ints [_, _, _]) 3 rfl rfl rfl rfl rfl rfl (Nat.le_of_ble_eq_true rfl) rfl ?_
  refine TL.nil (nt ?_)
  refine TC.seq ?_
  refine TC.block ?_
  obtain ⟨ee, he⟩ : ∃ ee, gE H i = ee := ⟨_, rfl⟩
  rw [he]
  refine TC.loop (ι := Nat × List En × (Int → Option Value) × Nat) (fun s => s.1 < n ∧ s.2.1.length = n ∧ HoleD (s.2.1.set s.1 ee) s.1 ∧ Wh s.2.2.1 (s.2.1.set s.1 ee) s.1 ∧ (s.2.1.set s.1 ee).Perm H) (fun s => [(0, .pointer (some ⟨b, 0, none⟩)), (1, .int .i64 ((s.1 : Nat) : Int)), (4, .pointer (some ⟨b5, 0, none⟩))]) (fun s => sepL [pts b5 117 (enC ee), pts b 93 [.int .i64 now, .int .i64 tn, .slice ad n cap, .map (some wb)], slc 117 3 ad n cap (ents s.2.1), mapF encI wb s.2.2.1 s.2.2.2, F]) (fun s => n - s.1) ⟨i, H, f, m⟩ (by dsimp only; rw [← he, set_self (by omega)]; exact ⟨hi, hn, hD, hW, List.Perm.refl _⟩) ⟨rfl, rfl, rfl, trivial⟩ (ent_take 0 rfl (ent_take 0 rfl (ent_take 0 rfl (ent_take 0 rfl (ent_take 0 rfl (ent_nil _)))))) ?_
  rintro ⟨k, A, g, q0⟩ ⟨hk, hA, hD1, hW1, hP1⟩ ρ0
  dsimp only [updL] at hk hA hD1 hW1 hP1 ⊢
  have hkA : k < A.length := by omega
  have hpA : 0 < (ents A).length := by rw [ents_length]; omega
  have hsl : (A.set k ee).length = n := by rw [List.length_set]; exact hA
  have hgs : ∀ j, j ≠ k → gE (A.set k ee) j = gE A j := fun j hj => by rw [gE_set hkA, if_neg hj]
  have hge : gE (A.set k ee) k = ee := by rw [gE_set hkA, if_pos rfl]
  refine TC.block ?_
  refine TC.seq ?_
  refine TC.region ?_
  refine q rfl rfl (mv (v := .int _ _) rfl) ?_
  first | refine q rfl rfl (mulI rfl rfl (by omega) (by omega)) ?_ | refine q rfl rfl (mul rfl rfl rfl) ?_
  first | refine q rfl rfl (addI rfl rfl (by omega) (by omega)) ?_ | refine q rfl rfl (add rfl rfl rfl) ?_
  refine q rfl rfl (asg (v := .int _ _) rfl) ?_
  refine TL.nil (nt ?_)
  refine TC.cut (ι := Nat) (fun c => (c = 2 * k + 1 ∨ c = 2 * k + 2 ∧ c < n) ∧ ∀ s, s < n → (s = 2 * k + 1 ∨ s = 2 * k + 2) → ¬ Lt (gE A s) (gE A c)) (fun c => [(0, .pointer (some ⟨b, 0, none⟩)), (1, .int .i64 (k : Int)), (4, .pointer (some ⟨b5, 0, none⟩)), (5, .int .i64 ((c : Nat) : Int))]) (fun c => sepL [pts b5 117 (enC ee), pts b 93 [.int .i64 now, .int .i64 tn, .slice ad n cap, .map (some wb)], slc 117 3 ad n cap (ents A), mapF encI wb g q0, F]) ?_ ?_
  · refine TC.seq ?_
    refine TC.draw _ [] [(0, false), (1, false), (2, false), (3, false), (4, false), (5, false), (6, false), (7, false), (8, false), (9, false), (10, false), (11, false), (12, false), (13, false), (14, false), (15, false), (16, false), (17, false), (18, false), (19, false), (20, false), (21, false), (22, false), (23, false), (24, false), (25, false), (26, true), (27, false)] (by kernel_rfl) (by kernel_rfl) (ent_take 0 rfl (ent_take 0 rfl (ent_take 0 rfl (ent_take 0 rfl (ent_nil _))))) ?_
    refine dq rfl rfl rfl (mv (v := .int _ _) rfl) ?_
    first | refine dq rfl rfl rfl (addI rfl rfl (by omega) (by omega)) ?_ | refine dq rfl rfl rfl (add rfl rfl rfl) ?_
    refine dq rfl rfl rfl (mv (v := .pointer _) rfl) ?_
    first | refine dq rfl rfl rfl (nc rfl) ?_ | refine dq rfl rfl rfl (ncF rfl) ?_ | refine dq rfl rfl rfl (ncS rfl (by first | assumption | (simp [ints_length] <;> omega))) ?_
    first | refine dq rfl rfl rfl (fa 2 rfl rfl) ?_ | refine dq rfl rfl rfl (faS 2 rfl rfl (by first | assumption | (simp [ints_length] <;> omega))) ?_
    first | refine dq rfl rfl rfl (ld rfl rfl rfl) ?_ | refine dq rfl rfl rfl (ldS rfl rfl (flat_get_rec enC_sz hg)) ?_ | refine dq rfl rfl rfl (ldS rfl rfl rfl) ?_
    refine dq rfl rfl rfl (len 117 3 rfl rfl) ?_
    refine dq rfl rfl rfl (lss rfl rfl) ?_
    refine dq rfl rfl rfl (mv (v := .bool _) rfl) ?_
    refine TD.split 24 rfl (fun hin => ?_) (fun hin => ?_)
    · have hin := of_decide_eq_true hin
      have hg1 := gE_get (show 2 * k + 2 < A.length by omega)
      have hg0 := gE_get (show 2 * k + 1 < A.length by omega)
      refine dg rfl rfl rfl rfl (mv (v := .pointer _) rfl) ?_
      first | refine dg rfl rfl rfl rfl (nc rfl) ?_ | refine dg rfl rfl rfl rfl (ncF rfl) ?_ | refine dg rfl rfl rfl rfl (ncS rfl (by first | assumption | (simp [ints_length] <;> omega))) ?_
      first | refine dg rfl rfl rfl rfl (fa 2 rfl rfl) ?_ | refine dg rfl rfl rfl rfl (faS 2 rfl rfl (by first | assumption | (simp [ints_length] <;> omega))) ?_
      first | refine dg rfl rfl rfl rfl (ld rfl rfl rfl) ?_ | refine dg rfl rfl rfl rfl (ldS rfl rfl (flat_ldN enC_sz hg1 0 2 (by omega) (by omega) rfl)) ?_ | refine dg rfl rfl rfl rfl (ldS rfl rfl (flat_ldN enC_sz hg0 0 2 (by omega) (by omega) rfl)) ?_ | refine dg rfl rfl rfl rfl (ldS rfl rfl rfl) ?_
      refine dg rfl rfl rfl rfl (mv (v := .int _ _) rfl) ?_
      first | refine dg rfl rfl rfl rfl (addI rfl rfl (by omega) (by omega)) ?_ | refine dg rfl rfl rfl rfl (add rfl rfl rfl) ?_
      first | refine dg rfl rfl rfl rfl (ixS 117 3 rfl rfl rfl (by omega) (by first | assumption | (simp [ints_length] <;> omega))) ?_ | refine dg rfl rfl rfl rfl (ixJ 117 3 rfl rfl rfl (by omega) (by omega) (by first | assumption | (simp [ints_length] <;> omega))) ?_ | refine dg rfl rfl rfl rfl (ix 117 3 rfl rfl rfl (by omega) (by omega) rfl) ?_
      first | refine dg rfl rfl rfl rfl (fa 0 rfl rfl) ?_ | refine dg rfl rfl rfl rfl (faS 0 rfl rfl (by first | assumption | (simp [ints_length] <;> omega))) ?_
      first | refine dg rfl rfl rfl rfl (ldN (vs := ints [_, _]) 2 rfl rfl rfl rfl) ?_ | refine dg rfl rfl rfl rfl (ldSN (vs := ints [_, _]) 2 rfl rfl (flat_ldN enC_sz hg1 0 2 (by omega) (by omega) rfl) rfl (by decide)) ?_ | refine dg rfl rfl rfl rfl (ldSN (vs := ints [_, _]) 2 rfl rfl (flat_ldN enC_sz hg0 0 2 (by omega) (by omega) rfl) rfl (by decide)) ?_ | refine dg rfl rfl rfl rfl (ldSN (vs := ints [_, _]) 2 rfl rfl rfl rfl (by decide)) ?_
      refine dg rfl rfl rfl rfl (mv (v := .pointer _) rfl) ?_
      first | refine dg rfl rfl rfl rfl (nc rfl) ?_ | refine dg rfl rfl rfl rfl (ncF rfl) ?_ | refine dg rfl rfl rfl rfl (ncS rfl (by first | assumption | (simp [ints_length] <;> omega))) ?_
      first | refine dg rfl rfl rfl rfl (fa 2 rfl rfl) ?_ | refine dg rfl rfl rfl rfl (faS 2 rfl rfl (by first | assumption | (simp [ints_length] <;> omega))) ?_
      first | refine dg rfl rfl rfl rfl (ld rfl rfl rfl) ?_ | refine dg rfl rfl rfl rfl (ldS rfl rfl (flat_ldN enC_sz hg1 0 2 (by omega) (by omega) rfl)) ?_ | refine dg rfl rfl rfl rfl (ldS rfl rfl (flat_ldN enC_sz hg0 0 2 (by omega) (by omega) rfl)) ?_ | refine dg rfl rfl rfl rfl (ldS rfl rfl rfl) ?_
      refine dg rfl rfl rfl rfl (mv (v := .int _ _) rfl) ?_
      first | refine dg rfl rfl rfl rfl (ixS 117 3 rfl rfl rfl (by omega) (by first | assumption | (simp [ints_length] <;> omega))) ?_ | refine dg rfl rfl rfl rfl (ixJ 117 3 rfl rfl rfl (by omega) (by omega) (by first | assumption | (simp [ints_length] <;> omega))) ?_ | refine dg rfl rfl rfl rfl (ix 117 3 rfl rfl rfl (by omega) (by omega) rfl) ?_
      first | refine dg rfl rfl rfl rfl (fa 0 rfl rfl) ?_ | refine dg rfl rfl rfl rfl (faS 0 rfl rfl (by first | assumption | (simp [ints_length] <;> omega))) ?_
      first | refine dg rfl rfl rfl rfl (ldN (vs := ints [_, _]) 2 rfl rfl rfl rfl) ?_ | refine dg rfl rfl rfl rfl (ldSN (vs := ints [_, _]) 2 rfl rfl (flat_ldN enC_sz hg1 0 2 (by omega) (by omega) rfl) rfl (by decide)) ?_ | refine dg rfl rfl rfl rfl (ldSN (vs := ints [_, _]) 2 rfl rfl (flat_ldN enC_sz hg0 0 2 (by omega) (by omega) rfl) rfl (by decide)) ?_ | refine dg rfl rfl rfl rfl (ldSN (vs := ints [_, _]) 2 rfl rfl rfl rfl (by decide)) ?_
      refine deg rfl rfl rfl ?_
      refine cl (ahead_ok (gE A (2 * k + 2)) (gE A (2 * k + 1))) rfl (picked_nil _) trivial ?_
      intro _ _
      change ent _ _ ∧ TD _ _ _ _ _ _ _ _ _ _ (sepL [_, _, _, _, _])
      refine ⟨(by repeat (first | exact ent_nil _ | refine ent_take 0 rfl ?_ | refine ent_take 1 rfl ?_ | refine ent_take 2 rfl ?_ | refine ent_take 3 rfl ?_ | refine ent_take 4 rfl ?_ | refine ent_take 5 rfl ?_ | refine ent_take 6 rfl ?_ | refine ent_take 7 rfl ?_ | refine ent_take 8 rfl ?_ | refine ent_take 9 rfl ?_ | refine ent_take 10 rfl ?_ | refine ent_take 11 rfl ?_ | refine ent_take 12 rfl ?_)), ?_⟩
      first | refine dq rfl rfl rfl (pkT (v := .bool _) rfl rfl) ?_ | refine dq rfl rfl rfl (pkF (v := .bool _) rfl rfl) ?_
      refine TD.nil (nt ?_)
      first | refine TC.condD rfl (fun hlt => ?_) (fun hlt => ?_) | refine TC.cond rfl (fun hlt => ?_) (fun hlt => ?_)
      · refine TC.region ?_
        refine q rfl rfl (mv (v := .int _ _) rfl) ?_
        first | refine q rfl rfl (addI rfl rfl (by omega) (by omega)) ?_ | refine q rfl rfl (add rfl rfl rfl) ?_
        refine q rfl rfl (asg (v := .int _ _) rfl) ?_
        refine TL.nil (nt ?_)
        exact ⟨rfl, (2 * k + 2), ⟨.inr ⟨rfl, by omega⟩, fun s hs hs2 => by rcases hs2 with rfl | rfl <;> simp only [Lt] at hlt ⊢ <;> omega⟩, ⟨rfl, rfl, rfl, congrArg (Value.int .i64) (by omega), trivial⟩, (ent_take 0 rfl (ent_take 0 rfl (ent_take 0 rfl (ent_take 0 rfl (ent_take 0 rfl (ent_nil _))))))⟩
      · refine TC.skip (nt ?_)
        exact ⟨rfl, (2 * k + 1), ⟨.inl rfl, fun s hs hs2 => by rcases hs2 with rfl | rfl; simp only [Lt]; omega; exact hlt⟩, ⟨rfl, rfl, rfl, congrArg (Value.int .i64) (by omega), trivial⟩, (ent_take 0 rfl (ent_take 0 rfl (ent_take 0 rfl (ent_take 0 rfl (ent_take 0 rfl (ent_nil _))))))⟩
    · have hin := of_decide_eq_false hin
      refine dk rfl rfl rfl rfl ?_
      refine dk rfl rfl rfl rfl ?_
      refine dk rfl rfl rfl rfl ?_
      refine dk rfl rfl rfl rfl ?_
      refine dk rfl rfl rfl rfl ?_
      refine dk rfl rfl rfl rfl ?_
      refine dk rfl rfl rfl rfl ?_
      refine dk rfl rfl rfl rfl ?_
      refine dk rfl rfl rfl rfl ?_
      refine dk rfl rfl rfl rfl ?_
      refine dk rfl rfl rfl rfl ?_
      refine dk rfl rfl rfl rfl ?_
      refine dk rfl rfl rfl rfl ?_
      refine dk rfl rfl rfl rfl ?_
      refine dk rfl rfl rfl rfl ?_
      refine dk rfl rfl rfl rfl ?_
      refine dk rfl rfl rfl rfl ?_
      refine dke rfl rfl rfl (by repeat (first | exact ent_nil _ | refine ent_take 0 rfl ?_ | refine ent_take 1 rfl ?_ | refine ent_take 2 rfl ?_ | refine ent_take 3 rfl ?_ | refine ent_take 4 rfl ?_ | refine ent_take 5 rfl ?_ | refine ent_take 6 rfl ?_ | refine ent_take 7 rfl ?_ | refine ent_take 8 rfl ?_ | refine ent_take 9 rfl ?_ | refine ent_take 10 rfl ?_ | refine ent_take 11 rfl ?_ | refine ent_take 12 rfl ?_)) ?_
      first | refine dq rfl rfl rfl (pkT (v := .bool _) rfl rfl) ?_ | refine dq rfl rfl rfl (pkF (v := .bool _) rfl rfl) ?_
      refine TD.nil (nt ?_)
      refine TC.condF rfl ?_
      refine TC.skip (nt ?_)
      exact ⟨rfl, (2 * k + 1), ⟨.inl rfl, fun s hs hs2 => by obtain rfl : s = 2 * k + 1 := (by omega); simp only [Lt]; omega⟩, ⟨rfl, rfl, rfl, congrArg (Value.int .i64) (by omega), trivial⟩, (ent_take 0 rfl (ent_take 0 rfl (ent_take 0 rfl (ent_take 0 rfl (ent_take 0 rfl (ent_nil _))))))⟩
  · rintro c ⟨hc1, hc2⟩ ρ1
    dsimp only [updL] at hc1 hc2 ⊢
    refine TC.seq ?_
    refine TC.seq ?_
    refine TC.draw _ [] [(0, false), (1, false), (2, false), (3, false), (4, false), (5, false), (6, false), (7, false), (8, false), (9, false), (10, false), (11, false), (12, false), (13, false), (14, false), (15, false), (16, false), (17, false), (18, true), (19, false), (20, false)] (by kernel_rfl) (by kernel_rfl) (ent_take 0 rfl (ent_take 0 rfl (ent_take 0 rfl (ent_take 0 rfl (ent_nil _))))) ?_
    refine dq rfl rfl rfl (mv (v := .int _ _) rfl) ?_
    refine dq rfl rfl rfl (mv (v := .pointer _) rfl) ?_
    first | refine dq rfl rfl rfl (nc rfl) ?_ | refine dq rfl rfl rfl (ncF rfl) ?_ | refine dq rfl rfl rfl (ncS rfl (by first | assumption | (simp [ints_length] <;> omega))) ?_
    first | refine dq rfl rfl rfl (fa 2 rfl rfl) ?_ | refine dq rfl rfl rfl (faS 2 rfl rfl (by first | assumption | (simp [ints_length] <;> omega))) ?_
    first | refine dq rfl rfl rfl (ld rfl rfl rfl) ?_ | refine dq rfl rfl rfl (ldS rfl rfl (flat_get_rec enC_sz hg)) ?_ | refine dq rfl rfl rfl (ldS rfl rfl rfl) ?_
    refine dq rfl rfl rfl (len 117 3 rfl rfl) ?_
    refine dq rfl rfl rfl (geq rfl rfl) ?_
    refine dq rfl rfl rfl (mv (v := .bool _) rfl) ?_
    refine TD.split 53 rfl (fun hge2 => ?_) (fun hge2 => ?_)
    · have hge2 := of_decide_eq_true hge2
      have hmin : ∀ s, s < n → (s = 2 * k + 1 ∨ s = 2 * k + 2) → ¬ Lt (gE A s) ee := fun s hs hs2 => by omega
      refine dk rfl rfl rfl rfl ?_
      refine dk rfl rfl rfl rfl ?_
      refine dk rfl rfl rfl rfl ?_
      refine dk rfl rfl rfl rfl ?_
      refine dk rfl rfl rfl rfl ?_
      refine dk rfl rfl rfl rfl ?_
      refine dk rfl rfl rfl rfl ?_
      refine dk rfl rfl rfl rfl ?_
      refine dk rfl rfl rfl rfl ?_
      refine dk rfl rfl rfl rfl ?_
      refine dke rfl rfl rfl (by repeat (first | exact ent_nil _ | refine ent_take 0 rfl ?_ | refine ent_take 1 rfl ?_ | refine ent_take 2 rfl ?_ | refine ent_take 3 rfl ?_ | refine ent_take 4 rfl ?_ | refine ent_take 5 rfl ?_ | refine ent_take 6 rfl ?_ | refine ent_take 7 rfl ?_ | refine ent_take 8 rfl ?_ | refine ent_take 9 rfl ?_ | refine ent_take 10 rfl ?_ | refine ent_take 11 rfl ?_ | refine ent_take 12 rfl ?_)) ?_
      refine dk rfl rfl rfl rfl ?_
      first | refine dq rfl rfl rfl (pkT (v := .bool _) rfl rfl) ?_ | refine dq rfl rfl rfl (pkF (v := .bool _) rfl rfl) ?_
      refine TD.nil (nt ?_)
      refine TC.condT rfl ?_
      have hUf := hD1.exit (fun s h0 hs hps => by rw [hge, hgs s (by omega)]; exact hmin s (by omega) (by omega))
      refine TC.exit (et (en rfl (et (eb (nt ?_)))))
      refine TC.region ?_
      refine q rfl rfl (mv (v := .pointer _) rfl) ?_
      refine q rfl rfl (mv (v := .int _ _) rfl) ?_
      first | refine q rfl rfl (ldN (vs := ints [_, _, _]) 3 rfl rfl rfl rfl) ?_ | refine q rfl rfl (ldSN (vs := ints [_, _, _]) 3 rfl rfl (flat_get_rec enC_sz hg) rfl (by decide)) ?_ | refine q rfl rfl (ldSN (vs := ints [_, _, _]) 3 rfl rfl rfl rfl (by decide)) ?_
      refine e rfl ?_
      refine cl (put_ok b now tn A ad n cap wb q0 g k hA (by omega) hc ee) rfl (picked_cons 1 rfl (picked_cons 1 rfl (picked_cons 1 rfl (picked_nil _)))) trivial ?_
      intro _ _
      change TL _ _ _ _ _ _ _ _ (sepL [_, _, _, _, _])
      refine TL.nil ?_
      have hWd := hW1.done (hN.perm hP1) (by omega)
      rw [hge] at hWd
      exact Ret.n ⟨A.set k ee, _, _⟩ [] trivial rfl ⟨hWd, hP1, k, hk, hUf, hge⟩ (ent_take 0 rfl (ent_take 0 rfl (ent_take 0 rfl (ent_take 1 rfl (ent_nil _)))))
    · have hge2 := of_decide_eq_false hge2
      have hcn : c < n := by omega
      have hgc := gE_get (show c < A.length by omega)
      refine dg rfl rfl rfl rfl (mv (v := .pointer _) rfl) ?_
      first | refine dg rfl rfl rfl rfl (nc rfl) ?_ | refine dg rfl rfl rfl rfl (ncF rfl) ?_ | refine dg rfl rfl rfl rfl (ncS rfl (by first | assumption | (simp [ints_length] <;> omega))) ?_
      first | refine dg rfl rfl rfl rfl (fa 2 rfl rfl) ?_ | refine dg rfl rfl rfl rfl (faS 2 rfl rfl (by first | assumption | (simp [ints_length] <;> omega))) ?_
      first | refine dg rfl rfl rfl rfl (ld rfl rfl rfl) ?_ | refine dg rfl rfl rfl rfl (ldS rfl rfl (flat_ldN enC_sz hgc 0 2 (by omega) (by omega) rfl)) ?_ | refine dg rfl rfl rfl rfl (ldS rfl rfl (flat_get_rec enC_sz hgc)) ?_ | refine dg rfl rfl rfl rfl (ldS rfl rfl rfl) ?_
      refine dg rfl rfl rfl rfl (mv (v := .int _ _) rfl) ?_
      first | refine dg rfl rfl rfl rfl (ixS 117 3 rfl rfl rfl (by omega) (by first | assumption | (simp [ints_length] <;> omega))) ?_ | refine dg rfl rfl rfl rfl (ixJ 117 3 rfl rfl rfl (by omega) (by omega) (by first | assumption | (simp [ints_length] <;> omega))) ?_ | refine dg rfl rfl rfl rfl (ix 117 3 rfl rfl rfl (by omega) (by omega) rfl) ?_
      first | refine dg rfl rfl rfl rfl (fa 0 rfl rfl) ?_ | refine dg rfl rfl rfl rfl (faS 0 rfl rfl (by first | assumption | (simp [ints_length] <;> omega))) ?_
      first | refine dg rfl rfl rfl rfl (ldN (vs := ints [_, _]) 2 rfl rfl rfl rfl) ?_ | refine dg rfl rfl rfl rfl (ldSN (vs := ints [_, _]) 2 rfl rfl (flat_ldN enC_sz hgc 0 2 (by omega) (by omega) rfl) rfl (by decide)) ?_ | refine dg rfl rfl rfl rfl (ldSN (vs := ints [_, _]) 2 rfl rfl (flat_get_rec enC_sz hgc) rfl (by decide)) ?_ | refine dg rfl rfl rfl rfl (ldSN (vs := ints [_, _]) 2 rfl rfl rfl rfl (by decide)) ?_
      first | refine dg rfl rfl rfl rfl (fa 0 rfl rfl) ?_ | refine dg rfl rfl rfl rfl (faS 0 rfl rfl (by first | assumption | (simp [ints_length] <;> omega))) ?_
      first | refine dg rfl rfl rfl rfl (ldN (vs := ints [_, _]) 2 rfl rfl rfl rfl) ?_ | refine dg rfl rfl rfl rfl (ldSN (vs := ints [_, _]) 2 rfl rfl (flat_ldN enC_sz hgc 0 2 (by omega) (by omega) rfl) rfl (by decide)) ?_ | refine dg rfl rfl rfl rfl (ldSN (vs := ints [_, _]) 2 rfl rfl (flat_get_rec enC_sz hgc) rfl (by decide)) ?_ | refine dg rfl rfl rfl rfl (ldSN (vs := ints [_, _]) 2 rfl rfl rfl rfl (by decide)) ?_
      refine deg rfl rfl rfl ?_
      refine cl (ahead_ok (gE A c) ee) rfl (picked_nil _) trivial ?_
      intro _ _
      change ent _ _ ∧ TD _ _ _ _ _ _ _ _ _ _ (sepL [_, _, _, _, _])
      refine ⟨(by repeat (first | exact ent_nil _ | refine ent_take 0 rfl ?_ | refine ent_take 1 rfl ?_ | refine ent_take 2 rfl ?_ | refine ent_take 3 rfl ?_ | refine ent_take 4 rfl ?_ | refine ent_take 5 rfl ?_ | refine ent_take 6 rfl ?_ | refine ent_take 7 rfl ?_ | refine ent_take 8 rfl ?_ | refine ent_take 9 rfl ?_ | refine ent_take 10 rfl ?_ | refine ent_take 11 rfl ?_ | refine ent_take 12 rfl ?_)), ?_⟩
      first | refine dg rfl rfl rfl rfl (notD rfl) ?_ | refine dg rfl rfl rfl rfl (notB rfl) ?_
      first | refine dq rfl rfl rfl (pkT (v := .bool _) rfl rfl) ?_ | refine dq rfl rfl rfl (pkF (v := .bool _) rfl rfl) ?_
      refine TD.nil (nt ?_)
      first | refine TC.condD rfl (fun hnl => ?_) (fun hnl => ?_) | refine TC.cond rfl (fun hnl => ?_) (fun hnl => ?_)
      · have hmin : ∀ s, s < n → (s = 2 * k + 1 ∨ s = 2 * k + 2) → ¬ Lt (gE A s) ee := fun s hs hs2 => by have := hc2 s hs hs2; simp only [Lt] at this hnl ⊢; omega
        have hUf := hD1.exit (fun s h0 hs hps => by rw [hge, hgs s (by omega)]; exact hmin s (by omega) (by omega))
        refine TC.exit (et (en rfl (et (eb (nt ?_)))))
        refine TC.region ?_
        refine q rfl rfl (mv (v := .pointer _) rfl) ?_
        refine q rfl rfl (mv (v := .int _ _) rfl) ?_
        first | refine q rfl rfl (ldN (vs := ints [_, _, _]) 3 rfl rfl rfl rfl) ?_ | refine q rfl rfl (ldSN (vs := ints [_, _, _]) 3 rfl rfl (flat_ldN enC_sz hgc 0 2 (by omega) (by omega) rfl) rfl (by decide)) ?_ | refine q rfl rfl (ldSN (vs := ints [_, _, _]) 3 rfl rfl (flat_get_rec enC_sz hgc) rfl (by decide)) ?_ | refine q rfl rfl (ldSN (vs := ints [_, _, _]) 3 rfl rfl rfl rfl (by decide)) ?_
        refine e rfl ?_
        refine cl (put_ok b now tn A ad n cap wb q0 g k hA (by omega) hc ee) rfl (picked_cons 1 rfl (picked_cons 1 rfl (picked_cons 1 rfl (picked_nil _)))) trivial ?_
        intro _ _
        change TL _ _ _ _ _ _ _ _ (sepL [_, _, _, _, _])
        refine TL.nil ?_
        have hWd := hW1.done (hN.perm hP1) (by omega)
        rw [hge] at hWd
        exact Ret.n ⟨A.set k ee, _, _⟩ [] trivial rfl ⟨hWd, hP1, k, hk, hUf, hge⟩ (ent_take 0 rfl (ent_take 0 rfl (ent_take 0 rfl (ent_take 1 rfl (ent_nil _)))))
      · have hnl : Lt (gE A c) ee := Decidable.byContradiction hnl
        refine TC.skip (nt ?_)
        refine TC.seq ?_
        refine TC.region ?_
        refine q rfl rfl (mv (v := .pointer _) rfl) ?_
        refine q rfl rfl (mv (v := .int _ _) rfl) ?_
        refine q rfl rfl (mv (v := .pointer _) rfl) ?_
        first | refine q rfl rfl (nc rfl) ?_ | refine q rfl rfl (ncF rfl) ?_ | refine q rfl rfl (ncS rfl (by first | assumption | (simp [ints_length] <;> omega))) ?_
        first | refine q rfl rfl (fa 2 rfl rfl) ?_ | refine q rfl rfl (faS 2 rfl rfl (by first | assumption | (simp [ints_length] <;> omega))) ?_
        first | refine q rfl rfl (ld rfl rfl rfl) ?_ | refine q rfl rfl (ldS rfl rfl (flat_ldN enC_sz hgc 0 2 (by omega) (by omega) rfl)) ?_ | refine q rfl rfl (ldS rfl rfl (flat_get_rec enC_sz hgc)) ?_ | refine q rfl rfl (ldS rfl rfl rfl) ?_
        refine q rfl rfl (mv (v := .int _ _) rfl) ?_
        first | refine q rfl rfl (ixS 117 3 rfl rfl rfl (by omega) (by first | assumption | (simp [ints_length] <;> omega))) ?_ | refine q rfl rfl (ixJ 117 3 rfl rfl rfl (by omega) (by omega) (by first | assumption | (simp [ints_length] <;> omega))) ?_ | refine q rfl rfl (ix 117 3 rfl rfl rfl (by omega) (by omega) rfl) ?_
        first | refine q rfl rfl (ldN (vs := ints [_, _, _]) 3 rfl rfl rfl rfl) ?_ | refine q rfl rfl (ldSN (vs := ints [_, _, _]) 3 rfl rfl (flat_ldN enC_sz hgc 0 2 (by omega) (by omega) rfl) rfl (by decide)) ?_ | refine q rfl rfl (ldSN (vs := ints [_, _, _]) 3 rfl rfl (flat_get_rec enC_sz hgc) rfl (by decide)) ?_ | refine q rfl rfl (ldSN (vs := ints [_, _, _]) 3 rfl rfl rfl rfl (by decide)) ?_
        refine e rfl ?_
        refine cl (put_ok b now tn A ad n cap wb q0 g k hA (by omega) hc (gE A c)) rfl (picked_cons 1 rfl (picked_cons 1 rfl (picked_cons 1 rfl (picked_nil _)))) trivial ?_
        intro _ _
        change TL _ _ _ _ _ _ _ _ (sepL [_, _, _, _, _])
        refine TL.nil (nt ?_)
        refine TC.region ?_
        refine q rfl rfl (mv (v := .int _ _) rfl) ?_
        refine q rfl rfl (asg (v := .int _ _) rfl) ?_
        refine TL.nil (nb (nt ?_))
        have hsw := hole_set ee hkA (show c < A.length by omega) (by omega)
        have hD2 := hD1.step (k := c) (by omega) (by omega) (by omega) (by omega) (by rw [hge, hgs c (by omega)]; exact hnl) (fun s h0 hs hps => by rw [hgs c (by omega), hgs s (by omega)]; exact hc2 s (by omega) (by omega))
        have hW2 := hW1.step (hN.perm hP1) (by omega) (show c < (A.set k ee).length by omega) (by omega)
        rw [← hsw] at hD2
        rw [hgs c (by omega), ← hsw] at hW2
        have hP2 := (swp_perm (L := A.set k ee) (i := k) (k := c) (by omega) (by omega)).trans hP1
        rw [← hsw] at hP2
        exact ⟨rfl, ⟨c, A.set k (gE A c), _, _⟩, ⟨by dsimp only; omega, by dsimp only; rw [List.length_set]; exact hA, hD2, hW2, hP2⟩, (by dsimp only; omega), ⟨rfl, rfl, rfl, trivial⟩, (ent_take 3 rfl (ent_take 0 rfl (ent_take 0 rfl (ent_take 0 rfl (ent_take 0 rfl (ent_nil _))))))⟩

end Go.Proofs.Ytdfmfhcjnjfjbaa.Al
