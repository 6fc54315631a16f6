/-
  Proved here: what functions of this program compute, each as a contract over symbolic states, under the premises that each theorem names (most lines printed by a program of the prover).
-/
import Derived.Test.YtffoeolgjgpmjaaFoB
namespace Go.Proofs.Ytffoeolgjgpmjaa
open Go Go.QM
theorem fm_congr {α β : Type} {f g : α → List β} : ∀ {l : List α}, (∀ a ∈ l, f a = g a) → l.flatMap f = l.flatMap g
  | [], _ => rfl
  | a :: l, h => by rw [List.flatMap_cons, List.flatMap_cons, h a (by simp), fm_congr fun b hb => h b (by simp [hb])]
def belN : Nat → List Fn → Int → List Int
  | 0, _, _ => []
  | n + 1, L, p => (kidsN L p).flatMap fun k => belN n L k ++ [k]
def belL (L : List Fn) (last p : Int) : List Int := belN (last - p).toNat L p
def postL (L : List Fn) (last p : Int) : List Int := belL L last p ++ [p]
def belR (L : List Fn) (last p : Int) : List Int := if hasN L p then belL L last p else []
theorem kids_gt {L : List Fn} {last : Int} (h : WI L last) {p k : Int} (hk : k ∈ kidsN L p) : p < k ∧ k ≤ last ∧ 1 ≤ k := by
  obtain ⟨_, t, ht, h1, rfl⟩ := kidsN_mem.1 hk
  have := h.rg t ht; omega
theorem kids_big {L : List Fn} {last : Int} (h : WI L last) {p : Int} (hp : last ≤ p) : kidsN L p = [] := by
  rw [List.eq_nil_iff_forall_not_mem]; intro k hk
  have := kids_gt h hk; omega
theorem belN_stab {L : List Fn} {last : Int} (h : WI L last) : ∀ (n m : Nat) (p : Int), (last - p).toNat ≤ n → (last - p).toNat ≤ m → belN n L p = belN m L p
  | 0, 0, _, _, _ => rfl
  | 0, m + 1, p, h1, _ => by rw [belN, belN, kids_big h (by omega)]; rfl
  | n + 1, 0, p, _, h2 => by rw [belN, belN, kids_big h (by omega)]; rfl
  | n + 1, m + 1, p, h1, h2 => by
    rw [belN, belN]
    refine fm_congr fun k hk => ?_
    have := kids_gt h hk
    rw [belN_stab h n m k (by omega) (by omega)]
theorem belL_eq {L : List Fn} {last : Int} (h : WI L last) (p : Int) : belL L last p = (kidsN L p).flatMap (postL L last) := by
  rw [belL]
  cases hn : (last - p).toNat with
  | zero => rw [kids_big h (by omega)]; rfl
  | succ n =>
    rw [belN]
    refine fm_congr fun k hk => ?_
    have := kids_gt h hk
    rw [postL, belL, belN_stab h n _ k (by omega) (Nat.le_refl _)]
inductive Anc (L : List Fn) (k : Int) : Int → Prop
  | refl : Anc L k k
  | step {t : Fn} : t ∈ L → Anc L k t.par → Anc L k t.id
theorem Anc.le {L : List Fn} {last : Int} (h : WI L last) {k x : Int} (a : Anc L k x) : k ≤ x := by
  induction a with
  | refl => omega
  | step ht _ ih => have := h.rg _ ht; omega
theorem anc_lin {L : List Fn} (h : NdN L) {k1 k2 x : Int} (a : Anc L k1 x) (b : Anc L k2 x) : k1 = k2 ∨ (∃ t ∈ L, t.id = k1 ∧ Anc L k2 t.par) ∨ ∃ t ∈ L, t.id = k2 ∧ Anc L k1 t.par := by
  induction a with
  | refl =>
    cases b with
    | refl => exact .inl rfl
    | step ht hb => exact .inr (.inl ⟨_, ht, rfl, hb⟩)
  | step ht ha ih =>
    rename_i t
    generalize hx : t.id = x at b
    cases b with
    | refl => exact .inr (.inr ⟨t, ht, hx, ha⟩)
    | step hu hb => rw [h.inj ht hu hx] at ih; exact ih hb
theorem post_anc {L : List Fn} {last : Int} (h : WI L last) : ∀ (n : Nat) (p : Int), (last - p).toNat ≤ n → ∀ x, x ∈ postL L last p → Anc L p x := by
  intro n
  induction n with
  | zero =>
    intro p hp x hx
    rw [postL, belL_eq h, kids_big h (by omega)] at hx
    simp at hx; rw [hx]; exact .refl
  | succ n ih =>
    intro p hp x hx
    rw [postL, belL_eq h, List.mem_append, List.mem_singleton] at hx
    rcases hx with hx | hx
    · obtain ⟨k, hk, hx2⟩ := List.mem_flatMap.1 hx
      have h1 := kids_gt h hk
      have := ih k (by omega) x hx2
      obtain ⟨_, t, ht, h2, rfl⟩ := kidsN_mem.1 hk
      clear hx hx2
      induction this with
      | refl => exact .step ht (by rw [h2]; exact .refl)
      | step hu _ ih2 => exact .step hu ih2
    · rw [hx]; exact .refl
theorem post_step {L : List Fn} {last : Int} (h : WI L last) {t : Fn} (ht : t ∈ L) : ∀ (n : Nat) (p : Int), (last - p).toNat ≤ n → p ≠ 0 → t.par ∈ postL L last p → t.id ∈ postL L last p := by
  intro n
  induction n with
  | zero =>
    intro p hp h0 hx
    rw [postL, belL_eq h, kids_big h (by omega)] at hx
    simp at hx
    have := h.rg t ht; omega
  | succ n ih =>
    intro p hp h0 hx
    rw [postL, belL_eq h, List.mem_append, List.mem_singleton] at hx
    rw [postL, belL_eq h, List.mem_append]
    rcases hx with hx | hx
    · obtain ⟨k, hk, hx⟩ := List.mem_flatMap.1 hx
      have h1 := kids_gt h hk
      exact .inl (List.mem_flatMap.2 ⟨k, hk, ih k (by omega) (by omega) hx⟩)
    · exact .inl (List.mem_flatMap.2 ⟨t.id, kidsN_mem.2 ⟨h0, t, ht, hx, rfl⟩, by rw [postL]; simp⟩)
theorem anc_post {L : List Fn} {last : Int} (h : WI L last) {p x : Int} (h0 : p ≠ 0) (a : Anc L p x) : x ∈ postL L last p := by
  induction a with
  | refl => rw [postL]; simp
  | step ht _ ih => exact post_step h ht _ p (Nat.le_refl _) h0 ih
theorem mem_post {L : List Fn} {last : Int} (h : WI L last) {p x : Int} (h0 : p ≠ 0) : x ∈ postL L last p ↔ Anc L p x := ⟨post_anc h _ p (Nat.le_refl _) x, anc_post h h0⟩
theorem bel_mem {L : List Fn} {last : Int} (h : WI L last) {p x : Int} (hx : x ∈ belL L last p) : hasN L x ∧ p < x ∧ x ≤ last ∧ 1 ≤ x := by
  rw [belL_eq h] at hx
  obtain ⟨k, hk, hx⟩ := List.mem_flatMap.1 hx
  have h1 := kids_gt h hk
  have h2 := post_anc h _ k (Nat.le_refl _) x hx
  have h3 := h2.le h
  have h4 : hasN L x := by
    cases h2 with
    | refl => obtain ⟨_, t, ht, _, h5⟩ := kidsN_mem.1 hk; exact ⟨t, ht, h5⟩
    | step ht _ => exact ⟨_, ht, rfl⟩
  have := hasN_pos h h4
  exact ⟨h4, by omega, by omega, by omega⟩
theorem mem_bel {L : List Fn} {last : Int} (h : WI L last) {p x : Int} (h0 : p ≠ 0) : x ∈ belL L last p ↔ Anc L p x ∧ x ≠ p := by
  rw [← mem_post h h0, postL, List.mem_append, List.mem_singleton]
  constructor
  · intro hx; have := (bel_mem h hx).2.1; exact ⟨.inl hx, by omega⟩
  · rintro ⟨h1 | h1, h2⟩
    · exact h1
    · exact absurd h1 h2
theorem post_nd {L : List Fn} {last : Int} (h : WI L last) : ∀ (n : Nat) (p : Int), (last - p).toNat ≤ n → (postL L last p).Nodup := by
  intro n
  induction n with
  | zero => intro p hp; rw [postL, belL_eq h, kids_big h (by omega)]; simp
  | succ n ih =>
    intro p hp
    have hg : ∀ x ∈ belL L last p, x ≠ p := fun x hx => by have := (bel_mem h hx).2.1; omega
    rw [postL, List.nodup_append]
    refine ⟨?_, by simp, fun x hx y hy => by rw [List.mem_singleton.1 hy]; exact hg x hx⟩
    rw [belL_eq h, List.Nodup, List.pairwise_flatMap]
    refine ⟨fun k hk => ?_, ?_⟩
    · have := kids_gt h hk
      exact ih k (by omega)
    · refine (kidsN_nd h.nd p).imp_of_mem (fun {k1 k2} hk1 hk2 hne x hx y hy e => ?_)
      subst e
      have a1 := post_anc h _ k1 (Nat.le_refl _) x hx
      have a2 := post_anc h _ k2 (Nat.le_refl _) x hy
      obtain ⟨_, t1, ht1, hp1, he1⟩ := kidsN_mem.1 hk1
      obtain ⟨_, t2, ht2, hp2, he2⟩ := kidsN_mem.1 hk2
      have g1 := kids_gt h hk1
      have g2 := kids_gt h hk2
      rcases anc_lin h.nd a1 a2 with e | ⟨t, ht, e, a⟩ | ⟨t, ht, e, a⟩
      · exact hne e
      · rw [h.nd.inj ht ht1 (e.trans he1.symm), hp1] at a
        have := a.le h; omega
      · rw [h.nd.inj ht ht2 (e.trans he2.symm), hp2] at a
        have := a.le h; omega
theorem bel_nd {L : List Fn} {last : Int} (h : WI L last) (p : Int) : (belL L last p).Nodup := (List.nodup_append.1 (post_nd h _ p (Nat.le_refl _))).1
theorem nodup_sub_len {l m : List Int} (h : l.Nodup) (hs : ∀ x ∈ l, x ∈ m) : l.length ≤ m.length := by
  induction l generalizing m with
  | nil => simp
  | cons a l ih =>
    obtain ⟨h1, h2⟩ := List.nodup_cons.1 h
    obtain ⟨s, t, rfl⟩ := List.append_of_mem (hs a (by simp))
    have := ih (m := s ++ t) h2 (fun x hx => by
      have h3 := hs x (by simp [hx])
      have h4 : x ≠ a := fun e => h1 (e ▸ hx)
      simp at h3 ⊢
      rcases h3 with h3 | h3 | h3
      · exact .inl h3
      · exact absurd h3 h4
      · exact .inr h3)
    simp at this ⊢; omega
theorem bel_len {L : List Fn} {last : Int} (h : WI L last) (p : Int) : (belL L last p).length ≤ L.length := by
  have := nodup_sub_len (bel_nd h p) (m := L.map (·.id)) (fun x hx => by
    obtain ⟨t, ht, e⟩ := (bel_mem h hx).1
    exact List.mem_map.2 ⟨t, ht, e⟩)
  simpa using this
theorem belR_len {L : List Fn} {last : Int} (h : WI L last) (p : Int) : (belR L last p).length ≤ L.length := by
  rw [belR]; split
  · exact bel_len h p
  · simp
/-- Owners of those that went. -/
def spotN (L : List Fn) (id : Int) : Int × Int := match findN L id with
  | some t => spN t
  | none => (0, 0)
def spC (o : Int × Int) : List Value := ints [o.1, o.2]
theorem spC_sz (o : Int × Int) : (spC o).length = 2 := rfl
def spsC (S : List (Int × Int)) : List Value := S.flatMap spC
theorem spsC_length (S : List (Int × Int)) : (spsC S).length = S.length * 2 := flat_length spC_sz S
theorem sps_app (S T : List (Int × Int)) : spsC S ++ spsC T = spsC (S ++ T) := by simp [spsC]
def offL (L : List Fn) (xs : List Int) : List Fn := xs.foldl offN L
theorem offL_snoc (L : List Fn) (xs : List Int) (x : Int) : offL L (xs ++ [x]) = offN (offL L xs) x := by simp [offL]
theorem offL_eq (S : List Fn) (ids : List Int) : offL S ids = S.filter fun t => decide (t.id ∉ ids) := by
  induction ids generalizing S with
  | nil => exact (List.filter_eq_self.2 fun a _ => by simp).symm
  | cons x l ih =>
    have := ih (offN S x)
    rw [offL] at this
    rw [offL, List.foldl_cons, this, offN, List.filter_filter]
    congr 1; funext e
    rw [Bool.eq_iff_iff]
    simp only [Bool.and_eq_true, decide_eq_true_eq, List.mem_cons, not_or]
    exact ⟨fun h => ⟨h.2, h.1⟩, fun h => ⟨h.2, h.1⟩⟩
theorem offL_mem {S : List Fn} {xs : List Int} {t : Fn} : t ∈ offL S xs ↔ t ∈ S ∧ t.id ∉ xs := by simp [offL_eq]
theorem WI.offL {S : List Fn} {last : Int} (h : WI S last) (xs : List Int) : WI (offL S xs) last := h.sub (by rw [offL_eq]; exact List.filter_sublist)
theorem offL_len (S : List Fn) (xs : List Int) : (offL S xs).length ≤ S.length := by rw [offL_eq]; exact List.length_filter_le _ _
def cutS (L : List Fn) (last id : Int) : List (Int × Int) := (belR L last id).map (spotN L)
def cutN (L : List Fn) (last id : Int) : List Fn := offL L (belR L last id)
def remS (L : List Fn) (last id : Int) : List (Int × Int) := if hasN L id then cutS L last id ++ [spotN L id] else cutS L last id
def remN (L : List Fn) (last id : Int) : List Fn := if hasN L id then offN (cutN L last id) id else cutN L last id
theorem spotN_yes {L : List Fn} (h : NdN L) {t : Fn} (ht : t ∈ L) : spotN L t.id = spN t := by rw [spotN, findN_yes h ht]
theorem belR_mem {L : List Fn} {last : Int} (h : WI L last) {p x : Int} (hx : x ∈ belR L last p) : hasN L x ∧ p < x ∧ x ≤ last ∧ 1 ≤ x := by
  rw [belR] at hx; split at hx
  · exact bel_mem h hx
  · cases hx
theorem belR_nd {L : List Fn} {last : Int} (h : WI L last) (p : Int) : (belR L last p).Nodup := by
  rw [belR]; split
  · exact bel_nd h p
  · exact List.nodup_nil
theorem belR_none {L : List Fn} {last id : Int} (h : ¬ hasN L id) : belR L last id = [] := if_neg h
/-- The next that goes is still there. -/
theorem cut_next {L : List Fn} {last : Int} (h : WI L last) {p x : Int} {i : Nat} (hx : (belR L last p)[i]? = some x) : ∃ t ∈ L, t.id = x ∧ t ∈ offL L ((belR L last p).take i) := by
  obtain ⟨t, ht, rfl⟩ := (belR_mem h (List.mem_of_getElem? hx)).1
  refine ⟨t, ht, rfl, offL_mem.2 ⟨ht, fun h2 => ?_⟩⟩
  obtain ⟨j, hj⟩ := List.getElem?_of_mem h2
  rw [List.getElem?_take] at hj
  split at hj
  · obtain ⟨a1, b1⟩ := List.getElem?_eq_some_iff.1 hj
    obtain ⟨a2, b2⟩ := List.getElem?_eq_some_iff.1 hx
    exact (List.pairwise_iff_getElem.1 (belR_nd h p)) j i a1 a2 (by omega) (by rw [b1, b2])
  · cases hj
/-- The walk over what is below. -/
structure WalkI (L : List Fn) (last id : Int) (W O : List Int) : Prop where
  eq : W.flatMap (postL L last) ++ O.reverse = postL L last id
  mem : ∀ x ∈ W, hasN L x
theorem WalkI.start {L : List Fn} {last id : Int} (h : hasN L id) : WalkI L last id [id] [] := ⟨by simp, by simpa using h⟩
theorem WalkI.next {L : List Fn} {last id : Int} (hW : WI L last) {W O : List Int} {x : Int} (h : WalkI L last id (W ++ [x]) O) : WalkI L last id (W ++ kidsN L x) (O ++ [x]) where
  eq := by
    have := h.eq
    rw [List.flatMap_append, List.flatMap_cons, List.flatMap_nil, List.append_nil, postL, belL_eq hW] at this
    rw [List.flatMap_append, List.reverse_append, ← this]
    simp
  mem := fun y hy => by
    rcases List.mem_append.1 hy with h1 | h1
    · exact h.mem y (by simp [h1])
    · obtain ⟨_, t, ht, _, e⟩ := kidsN_mem.1 h1; exact ⟨t, ht, e⟩
theorem WalkI.len {L : List Fn} {last id : Int} (hW : WI L last) {W O : List Int} (h : WalkI L last id W O) : W.length + O.length ≤ L.length + 1 := by
  have h1 := congrArg List.length h.eq
  have h2 := bel_len hW id
  have h3 : W.length ≤ (W.flatMap (postL L last)).length := by
    clear h h1
    induction W with
    | nil => simp
    | cons a W ih => rw [List.flatMap_cons, List.length_append, List.length_cons, postL, List.length_append, List.length_singleton]; omega
  rw [List.length_append, List.length_reverse, postL, List.length_append, List.length_singleton] at h1
  omega
theorem WalkI.done {L : List Fn} {last id : Int} {O : List Int} (h : WalkI L last id [] O) : O.reverse = postL L last id := by simpa using h.eq
/-- Turned round, two at a time. -/
structure RevI (xs : List Int) (i : Nat) (ys : List Int) : Prop where
  len : ys.length = xs.length
  at_ : ∀ k, k < xs.length → ys[k]? = if k < i ∨ xs.length - i ≤ k then xs[xs.length - 1 - k]? else xs[k]?
theorem RevI.start (xs : List Int) : RevI xs 0 xs := ⟨rfl, fun k hk => by rw [if_neg (by omega)]⟩
theorem RevI.next {xs : List Int} {i : Nat} {ys : List Int} (h : RevI xs i ys) {u v : Int} (hi : i + i + 1 < xs.length) (hu : ys[i]? = some u) (hv : ys[xs.length - 1 - i]? = some v) : RevI xs (i + 1) ((ys.set i v).set (xs.length - 1 - i) u) where
  len := by rw [List.length_set, List.length_set]; exact h.len
  at_ := fun k hk => by
    have hl := h.len
    have h1 := h.at_ i (by omega)
    have h2 := h.at_ (xs.length - 1 - i) (by omega)
    rw [if_neg (by omega)] at h1 h2
    by_cases e1 : k = xs.length - 1 - i
    · subst e1
      rw [List.getElem?_set_self (by rw [List.length_set]; omega), if_pos (by omega), show xs.length - 1 - (xs.length - 1 - i) = i by omega, ← h1, hu]
    · rw [List.getElem?_set_ne (fun e => e1 e.symm)]
      by_cases e2 : k = i
      · subst e2
        rw [List.getElem?_set_self (by omega), if_pos (by omega), ← h2, hv]
      · rw [List.getElem?_set_ne (fun e => e2 e.symm), h.at_ k hk]
        by_cases e3 : k < i ∨ xs.length - i ≤ k
        · rw [if_pos e3, if_pos (by omega)]
        · rw [if_neg e3, if_neg (by omega)]
theorem RevI.done {xs : List Int} {i : Nat} {ys : List Int} (h : RevI xs i ys) (hi : xs.length ≤ i + i + 1) : ys = xs.reverse := by
  apply List.ext_getElem?
  intro k
  by_cases hk : k < xs.length
  · rw [h.at_ k hk, List.getElem?_reverse hk]
    split
    · rfl
    · rw [show xs.length - 1 - k = k by omega]
  · rw [List.getElem?_eq_none (by rw [h.len]; omega), List.getElem?_eq_none (by rw [List.length_reverse]; omega)]
end Go.Proofs.Ytffoeolgjgpmjaa
