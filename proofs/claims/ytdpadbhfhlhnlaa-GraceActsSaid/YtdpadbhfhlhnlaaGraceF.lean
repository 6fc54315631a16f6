/-
  Proved here: what functions of this program compute, each as a contract over symbolic states, under the premises that each theorem names (most lines printed by a program of the prover).
-/
import Derived.Test.YtdpadbhfhlhnlaaGraceE
namespace Go.Proofs.Ytdpadbhfhlhnlaa
open Go Go.QM
theorem leftG_at {n : Int} {l : List (Int × Int)} (hnd : (l.map (·.1)).Nodup) {k : Nat} {t : Int × Int} (hk : l[k]? = some t) : leftG n t.1 l = t.2 - n := by
  have hf : l.find? (fun u => decide (u.1 = t.1)) = some t := by
    obtain ⟨u, hu1, hu2⟩ := find_of_findIdx (findIdx_at (p := fun u : Int × Int => decide (u.1 = t.1)) hk (by simp) (fun j u hj hu => by
      have h1 : (l.map (·.1))[j]? = some u.1 := by rw [List.getElem?_map, hu]; rfl
      have h2 : (l.map (·.1))[k]? = some t.1 := by rw [List.getElem?_map, hk]; rfl
      simp only [decide_eq_false_iff_not]
      intro e
      rw [e] at h1
      have h3 := List.pairwise_iff_getElem.1 hnd j k (List.getElem?_eq_some_iff.1 h1).1 (List.getElem?_eq_some_iff.1 h2).1 hj
      rw [(List.getElem?_eq_some_iff.1 h1).2, (List.getElem?_eq_some_iff.1 h2).2] at h3
      exact h3 rfl))
    rw [hk] at hu1; cases hu1
    exact hu2
  rw [leftG, hf]
theorem pw_const (ys : List Int) (c : Int) : (ys.map fun x => (x, c)).Pairwise fun a b : Int × Int => a.2 ≤ b.2 := by
  induction ys with
  | nil => simp
  | cons a l ih => simp only [List.map_cons, List.pairwise_cons]; exact ⟨fun b hb => by obtain ⟨x, _, rfl⟩ := List.mem_map.1 hb; simp, ih⟩
theorem leftG_none {n x : Int} {l : List (Int × Int)} (h : ∀ t ∈ l, t.1 ≠ x) : leftG n x l = 0 := by
  have hf : l.find? (fun u => decide (u.1 = x)) = none := by
    rw [List.find?_eq_none]
    intro t ht
    simpa using h t ht
  rw [leftG, hf]
theorem due_iff {n : Int} {l : List (Int × Int)} (hs : l.Pairwise fun a b => a.2 ≤ b.2) {k : Nat} {t : Int × Int} (hk : l[k]? = some t) : k < (dueL n l).length ↔ t.2 ≤ n := by
  have hsp := due_rest n l
  constructor
  · intro h
    rw [← hsp, List.getElem?_append_left h] at hk
    exact due_le t (List.mem_of_getElem? hk)
  · intro h
    rcases Nat.lt_or_ge k (dueL n l).length with h1 | h1
    · exact h1
    · rw [← hsp, List.getElem?_append_right h1] at hk
      have := rest_gt hs t (List.mem_of_getElem? hk)
      omega
structure LeftInv (p : Int) (now : Int) (next : Nat) (l : List (Int × Int)) : Prop where
  hw : ∀ t ∈ l, now < t.2 ∧ t.2 ≤ now + p ∧ t.1 < next
  hs : l.Pairwise fun a b => a.2 ≤ b.2
  hn : (l.map (·.1)).Nodup
theorem LeftInv.add {p now : Int} {next : Nat} {l : List (Int × Int)} (h : LeftInv p now next l) (hp : 1 ≤ p) {ys : List Int} (hy : ∀ j y, ys[j]? = some y → y = ((next + j : Nat) : Int)) :
    LeftInv p now (next + ys.length) (l ++ ys.map fun x => (x, now + p)) where
  hw := fun t ht => by
    rcases List.mem_append.1 ht with ht | ht
    · obtain ⟨h1, h2, h3⟩ := h.hw t ht
      exact ⟨h1, h2, by omega⟩
    · obtain ⟨x, hx, rfl⟩ := List.mem_map.1 ht
      obtain ⟨j, hj⟩ := List.getElem?_of_mem hx
      have := hy j x hj
      have hl := (List.getElem?_eq_some_iff.1 hj).1
      simp only
      omega
  hs := by
    rw [List.pairwise_append]
    refine ⟨h.hs, ?_, fun a ha b hb => ?_⟩
    · exact pw_const ys _
    · obtain ⟨x, _, rfl⟩ := List.mem_map.1 hb
      exact (h.hw a ha).2.1
  hn := by
    rw [List.map_append, List.map_map]
    have e : ys.map ((fun t : Int × Int => t.1) ∘ fun x => (x, now + p)) = ys := by
      conv => rhs; rw [← List.map_id ys]
      rfl
    rw [e, List.nodup_append]
    refine ⟨h.hn, ?_, fun a ha b hb => ?_⟩
    · rw [List.Nodup, List.pairwise_iff_getElem]
      intro i j hi hj hij e
      have h1 := hy i _ (List.getElem?_eq_getElem hi)
      have h2 := hy j _ (List.getElem?_eq_getElem hj)
      omega
    · obtain ⟨t, ht, rfl⟩ := List.mem_map.1 ha
      have h1 := (h.hw t ht).2.2
      obtain ⟨j, hj⟩ := List.getElem?_of_mem hb
      have := hy j b hj
      omega
theorem LeftInv.tick {p now : Int} {next : Nat} {l : List (Int × Int)} (h : LeftInv p now next l) : LeftInv p (now + 1) next (restL (now + 1) l) where
  hw := fun t ht => by
    have h1 := rest_gt h.hs t ht
    obtain ⟨_, h2, h3⟩ := h.hw t ((List.dropWhile_sublist _).subset ht)
    exact ⟨h1, by omega, h3⟩
  hs := h.hs.sublist (List.dropWhile_sublist _)
  hn := h.hn.sublist ((List.dropWhile_sublist _).map _)
theorem LeftInv.left_tick {p now : Int} {next : Nat} {l : List (Int × Int)} (h : LeftInv p now next l) {k : Nat} {t : Int × Int} (hk : l[k]? = some t) : leftG (now + 1) t.1 (restL (now + 1) l) = t.2 - now - 1 := by
  have hsp := due_rest (now + 1) l
  rcases Nat.lt_or_ge k (dueL (now + 1) l).length with h1 | h1
  · have h2 := (due_iff h.hs hk).1 h1
    have h3 := (h.hw t (List.mem_of_getElem? hk)).1
    rw [leftG_none, show t.2 - now - 1 = 0 by omega]
    intro u hu e
    have hn := h.hn
    rw [← hsp, List.map_append, List.nodup_append] at hn
    rw [← hsp, List.getElem?_append_left h1] at hk
    exact hn.2.2 t.1 (List.mem_map.2 ⟨t, List.mem_of_getElem? hk, rfl⟩) u.1 (List.mem_map.2 ⟨u, hu, rfl⟩) e.symm
  · rw [← hsp, List.getElem?_append_right h1] at hk
    rw [leftG_at h.tick.hn hk]
    omega

theorem leftlaw_ok (a : Int) (ad : Option Addr) (l : List Int) (cap : Nat) (ha : 0 ≤ a ∧ a ≤ 255) (hl : ∀ x ∈ l, 0 ≤ x ∧ x ≤ 255) : FSpec Try.prog 5 [.int .u8 a, .slice ad l.length cap] (fun F => ∃ E, RdS F E ad (nums .u8 l)) [] (fun _ : Unit => .bool true) (fun _ => True) (fun _ => []) := by
  refine FSpec.intro (rs := [.tmp 4]) (by kernel_rfl) Try.func5 rfl Try.ntmps5 (by rfl) rfl ?_
  intro F ⟨E, hF⟩
  change TC _ _ _ _ _ _ _ (sepL [_])
  haveI : RdSI F ad E (nums .u8 l) := ⟨hF⟩
  refine TC.seq ?_
  refine TC.region ?_
  refine q rfl rfl (asg (v := .bool _) rfl) ?_
  refine TL.nil (nt ?_)
  refine TC.seq ?_
  refine TC.seq ?_
  refine TC.region ?_
  refine e rfl ?_
  refine cl alive_ok rfl (picked_nil _) trivial ?_
  intro _ _
  change TL _ _ _ _ _ _ _ _ (sepL [_])
  first | refine q rfl rfl (notD rfl) ?_ | refine q rfl rfl (notB rfl) ?_
  refine TL.nil (nt ?_)
  refine TC.condF rfl ?_
  refine TC.skip (nt ?_)
  refine TC.seq ?_
  refine TC.seq ?_
  refine TC.region ?_
  refine q rfl rfl (mv (v := .slice _ _ _) rfl) ?_
  refine q rfl rfl (len 5 1 rfl rfl) ?_
  refine q rfl rfl (gtr rfl rfl) ?_
  refine TL.nil (nt ?_)
  first | refine TC.condD rfl (fun hbig => ?_) (fun hbig => ?_) | refine TC.cond rfl (fun hbig => ?_) (fun hbig => ?_)
  · refine TC.seq ?_
    refine TC.region ?_
    refine q rfl rfl (asg (v := .bool _) rfl) ?_
    refine TL.nil (nt ?_)
    refine TC.ret (rt ?_)
    exact Ret.i () [_] ⟨rfl, trivial⟩ rfl trivial (ent_take 0 rfl (ent_nil _))
  · have hL : l.length ≤ 60 := by omega
    refine TC.skip (nt ?_)
    refine TC.seq ?_
    refine TC.region ?_
    refine q rfl rfl (mv (v := .int _ _) rfl) ?_
    first | refine q rfl rfl (conv .u8 .i64 rfl rfl rfl (wi64 (by omega) (by omega))) ?_ | refine q rfl rfl (conv .u8 .i64 rfl rfl rfl rfl) ?_
    first | refine q rfl rfl (remI rfl rfl (by omega) (by omega)) ?_ | refine q rfl rfl (rem rfl rfl (by omega) rfl) ?_
    first | refine q rfl rfl (addI rfl rfl (by omega) (by omega)) ?_ | refine q rfl rfl (add rfl rfl rfl) ?_
    refine q rfl rfl (asg (v := .int _ _) rfl) ?_
    refine TL.nil (nt ?_)
    refine TC.seq ?_
    refine TC.region ?_
    refine q rfl rfl (mv (v := .int _ _) rfl) ?_
    obtain ⟨pp, hpp⟩ : ∃ pp, pp = 1 + a % 16 := ⟨_, rfl⟩
    have hp1 : 1 ≤ pp ∧ pp ≤ 16 := by omega
    rw [← hpp]
    refine e rfl ?_
    refine cl (new_ok pp hp1.1 hp1.2) rfl (picked_nil _) trivial ?_
    intro qb _
    change TL _ _ _ _ _ _ _ _ (sepL [_, _])
    refine q rfl rfl (asg (v := .pointer _) rfl) ?_
    refine TL.nil (nt ?_)
    refine TC.seq ?_
    refine TC.region ?_
    refine q rfl rfl (asg (v := .int _ _) rfl) ?_
    refine TL.nil (nt ?_)
    refine TC.seq ?_
    refine TC.seq ?_
    refine TC.region ?_
    refine q rfl rfl (asg (v := .int _ _) rfl) ?_
    refine TL.nil (nt ?_)
    refine TC.block ?_
    refine TC.loop (ι := Nat × Nat × List (Int × Int)) (fun s => LeftInv pp s.1 s.2.1 s.2.2 ∧ s.1 ≤ l.length ∧ s.2.2.length ≤ 3 * s.1 ∧ s.2.1 ≤ 3 * s.1) (fun s => [(1, .slice ad l.length cap), (5, .int .i64 pp), (6, .pointer (some ⟨qb, 0, none⟩)), (7, .int .i64 ((s.2.1 : Nat) : Int)), (8, .int .i64 ((s.1 : Nat) : Int))]) (fun s => sepL [isQ qb pp ((s.1 : Nat) : Int) s.2.2, F]) (fun s => l.length - s.1) ⟨0, 0, []⟩ ⟨⟨by simp, by simp, by simp⟩, by dsimp only; omega, by simp, by dsimp only; omega⟩ ⟨rfl, rfl, rfl, rfl, rfl, trivial⟩ (ent_take 0 rfl (ent_take 0 rfl (ent_nil _))) ?_
    rintro ⟨i, nx, ql⟩ ⟨hinv, hi, hql, hnx⟩ ρ0
    dsimp only [updL] at hinv hi hql hnx ⊢
    refine TC.seq ?_
    refine TC.seq ?_
    refine TC.region ?_
    refine q rfl rfl (mv (v := .int _ _) rfl) ?_
    refine q rfl rfl (mv (v := .slice _ _ _) rfl) ?_
    refine q rfl rfl (len 5 1 rfl rfl) ?_
    refine q rfl rfl (lss rfl rfl) ?_
    refine TL.nil (nt ?_)
    first | refine TC.condD rfl (fun hlt => ?_) (fun hlt => ?_) | refine TC.cond rfl (fun hlt => ?_) (fun hlt => ?_)
    · have hlt : i < l.length := by omega
      obtain ⟨u, hu⟩ : ∃ u, l[i]? = some u := ⟨l[i], List.getElem?_eq_getElem hlt⟩
      have hub := hl u (List.mem_of_getElem? hu)
      have hpos : 0 < (nums .u8 l).length := by rw [nums_length]; omega
      refine TC.skip (nt ?_)
      refine TC.seq ?_
      refine TC.block ?_
      refine TC.seq ?_
      refine TC.region ?_
      refine q rfl rfl (asg (v := .slice _ _ _) rfl) ?_
      refine TL.nil (nt ?_)
      refine TC.seq ?_
      refine TC.seq ?_
      refine TC.region ?_
      refine q rfl rfl (asg (v := .int _ _) rfl) ?_
      refine TL.nil (nt ?_)
      refine TC.block ?_
      refine TC.loop (ι := List Int × Option Addr × Nat) (fun s => (∀ j y, s.1[j]? = some y → y = ((nx + j : Nat) : Int)) ∧ (s.1.length : Int) ≤ u % 4) (fun s => [(1, .slice ad l.length cap), (5, .int .i64 pp), (6, .pointer (some ⟨qb, 0, none⟩)), (7, .int .i64 ((nx + s.1.length : Nat) : Int)), (8, .int .i64 ((i : Nat) : Int)), (9, .slice s.2.1 s.1.length s.2.2), (10, .int .i64 ((s.1.length : Nat) : Int))]) (fun s => sepL [slc 3 1 s.2.1 s.1.length s.2.2 (ints s.1), isQ qb pp ((i : Nat) : Int) ql, F]) (fun s => (u % 4 - s.1.length).toNat) ⟨[], none, 0⟩ ⟨by simp, by simp; omega⟩ ⟨rfl, rfl, rfl, rfl, rfl, rfl, rfl, trivial⟩ ((slc_nil 3 1 _).trans (ent_take 0 rfl (ent_take 0 rfl (ent_take 0 rfl (ent_nil _))))) ?_
      rintro ⟨ys, ad1, cap1⟩ ⟨hys, hyl⟩ ρ1
      dsimp only [updL] at hys hyl ⊢
      refine TC.seq ?_
      refine TC.seq ?_
      refine TC.region ?_
      refine q rfl rfl (mv (v := .int _ _) rfl) ?_
      refine q rfl rfl (mv (v := .slice _ _ _) rfl) ?_
      refine q rfl rfl (mv (v := .int _ _) rfl) ?_
      first | refine q rfl rfl (ixS 5 1 rfl rfl rfl (by omega) (by first | assumption | (simp [ints_length] <;> omega))) ?_ | refine q rfl rfl (ixJ 5 1 rfl rfl rfl (by omega) (by omega) (by first | assumption | (simp [ints_length] <;> omega))) ?_ | refine q rfl rfl (ix 5 1 rfl rfl rfl (by omega) (by omega) rfl) ?_
      first | refine q rfl rfl (ld rfl rfl rfl) ?_ | refine q rfl rfl (ldS rfl rfl (nums_get hu)) ?_ | refine q rfl rfl (ldS rfl rfl rfl) ?_
      first | refine q rfl rfl (conv .u8 .i64 rfl rfl rfl (wi64 (by omega) (by omega))) ?_ | refine q rfl rfl (conv .u8 .i64 rfl rfl rfl rfl) ?_
      first | refine q rfl rfl (remI rfl rfl (by omega) (by omega)) ?_ | refine q rfl rfl (rem rfl rfl (by omega) rfl) ?_
      refine q rfl rfl (lss rfl rfl) ?_
      refine TL.nil (nt ?_)
      first | refine TC.condD rfl (fun hk => ?_) (fun hk => ?_) | refine TC.cond rfl (fun hk => ?_) (fun hk => ?_)
      · refine TC.skip (nt ?_)
        refine TC.seq ?_
        refine TC.block ?_
        refine TC.seq ?_
        refine TC.region ?_
        refine q rfl rfl (mv (v := .slice _ _ _) rfl) ?_
        refine q rfl rfl (mv (v := .int _ _) rfl) ?_
        refine e rfl ?_
        refine bs (cs := [.int _ _]) rfl ?_
        intro b1
        refine e rfl ?_
        refine ap 8 rfl rfl rfl rfl rfl (Nat.le_of_ble_eq_true rfl) rfl rfl (by omega) (by simp only [maxLen]; omega) ?_
        intro ad1 cap1
        refine q rfl rfl (asg (v := .slice _ _ _) rfl) ?_
        refine TL.nil (nt ?_)
        refine TC.region ?_
        refine q rfl rfl (mv (v := .int _ _) rfl) ?_
        first | refine q rfl rfl (addI rfl rfl (by omega) (by omega)) ?_ | refine q rfl rfl (add rfl rfl rfl) ?_
        refine q rfl rfl (asg (v := .int _ _) rfl) ?_
        refine TL.nil (nb (nt ?_))
        refine TC.region ?_
        refine q rfl rfl (mv (v := .int _ _) rfl) ?_
        first | refine q rfl rfl (addI rfl rfl (by omega) (by omega)) ?_ | refine q rfl rfl (add rfl rfl rfl) ?_
        refine q rfl rfl (asg (v := .int _ _) rfl) ?_
        refine TL.nil (nt ?_)
        exact ⟨rfl, ⟨ys ++ [((nx + ys.length : Nat) : Int)], ad1, cap1⟩, ⟨by
                  intro j y hj
                  rw [List.getElem?_append] at hj
                  split at hj
                  · exact hys j y hj
                  · have := (List.getElem?_eq_some_iff.1 hj).1
                    simp at this
                    obtain rfl : j = ys.length := by omega
                    simp at hj
                    omega, by simp; omega⟩, (by simp; omega), ⟨rfl, rfl, rfl, congrArg (Value.int .i64) (by simp; omega), rfl, congrArg (fun n => Value.slice _ n _) (by simp), congrArg (Value.int .i64) (by simp), trivial⟩, (ent_takeE 0 rfl (by simp [ints]) (ent_take 1 rfl (ent_take 1 rfl (ent_nil _))))⟩
      · have hyl4 : ys.length ≤ 3 := by omega
        refine TC.exit (et (et (eb (nt ?_))))
        refine TC.seq ?_
        refine TC.seq ?_
        refine TC.region ?_
        refine q rfl rfl (mv (v := .pointer _) rfl) ?_
        refine q rfl rfl (mv (v := .slice _ _ _) rfl) ?_
        refine e rfl ?_
        refine cl (add_ok qb pp i ql _ _ ys hp1 (by omega) (by omega) (by omega)) rfl (picked_cons 1 rfl (picked_nil _)) ⟨_, RdSI.rd⟩ ?_
        intro _ _
        change TL _ _ _ _ _ _ _ _ (sepL [_, _, _])
        have hinv1 := hinv.add hp1.1 hys
        have hlen1 : (ql ++ ys.map fun x => (x, (i : Int) + pp)).length = ql.length + ys.length := by simp
        have hget1 : ∀ k y, ys[k]? = some y → (ql ++ ys.map fun x => (x, (i : Int) + pp))[ql.length + k]? = some (y, (i : Int) + pp) := fun k y hk => by rw [List.getElem?_append_right (by omega), Nat.add_sub_cancel_left, List.getElem?_map, hk]; rfl
        generalize (ql ++ ys.map fun x => (x, (i : Int) + pp)) = q1 at hinv1 hlen1 hget1 ⊢
        refine q rfl rfl (mv (v := .pointer _) rfl) ?_
        refine e rfl ?_
        refine cl (list_ok qb pp i q1 (by omega)) rfl (picked_nil _) (ent_one 0 rfl) ?_
        intro y1 _
        change TL _ _ _ _ _ _ _ _ (sepL [_, _, _, _])
        refine q rfl rfl (len 3 1 rfl rfl) ?_
        refine q rfl rfl (neI rfl rfl) ?_
        refine TL.nil (nt ?_)
        refine TC.condD rfl (fun hc1 => absurd hc1 (by omega)) (fun hc1 => ?_)
        refine TC.skip (nt ?_)
        refine TC.seq ?_
        refine TC.seq ?_
        refine TC.region ?_
        refine q rfl rfl (asg (v := .int _ _) rfl) ?_
        refine TL.nil (nt ?_)
        refine TC.block ?_
        refine TC.loop (ι := Nat) (fun k => k ≤ ys.length) (fun k => [(1, .slice ad l.length cap), (5, .int .i64 pp), (6, .pointer (some ⟨qb, 0, none⟩)), (7, .int .i64 ((nx + ys.length : Nat) : Int)), (8, .int .i64 ((i : Nat) : Int)), (9, .slice ad1 ys.length cap1), (11, .int .i64 ((k : Nat) : Int))]) (fun k => sepL [isQ qb pp ((i : Nat) : Int) q1, slc 3 1 ad1 ys.length cap1 (ints ys), F]) (fun k => ys.length - k) 0 (Nat.zero_le _) ⟨rfl, rfl, rfl, rfl, rfl, rfl, rfl, trivial⟩ (ent_take 1 rfl (ent_take 1 rfl (ent_take 1 rfl (ent_nil _)))) ?_
        rintro k hky ρ1
        dsimp only [updL] at hky ⊢
        refine TC.seq ?_
        refine TC.seq ?_
        refine TC.region ?_
        refine q rfl rfl (mv (v := .int _ _) rfl) ?_
        refine q rfl rfl (mv (v := .slice _ _ _) rfl) ?_
        refine q rfl rfl (len 3 1 rfl rfl) ?_
        refine q rfl rfl (lss rfl rfl) ?_
        refine TL.nil (nt ?_)
        first | refine TC.condD rfl (fun hk => ?_) (fun hk => ?_) | refine TC.cond rfl (fun hk => ?_) (fun hk => ?_)
        · have hk : k < ys.length := by omega
          obtain ⟨z, hz⟩ : ∃ z, ys[k]? = some z := ⟨ys[k], List.getElem?_eq_getElem hk⟩
          have hpos2 : 0 < (ints ys).length := by rw [ints_length]; omega
          have hv : leftG i z q1 = pp := by have := leftG_at (n := (i : Int)) hinv1.hn (hget1 k z hz); simp only at this; omega
          refine TC.skip (nt ?_)
          refine TC.seq ?_
          refine TC.block ?_
          refine TC.seq ?_
          refine TC.region ?_
          refine q rfl rfl (mv (v := .pointer _) rfl) ?_
          refine q rfl rfl (mv (v := .slice _ _ _) rfl) ?_
          refine q rfl rfl (mv (v := .int _ _) rfl) ?_
          first | refine q rfl rfl (ixS 3 1 rfl rfl rfl (by omega) (by first | assumption | (simp [ints_length] <;> omega))) ?_ | refine q rfl rfl (ixJ 3 1 rfl rfl rfl (by omega) (by omega) (by first | assumption | (simp [ints_length] <;> omega))) ?_ | refine q rfl rfl (ix 3 1 rfl rfl rfl (by omega) (by omega) rfl) ?_
          first | refine q rfl rfl (ld rfl rfl rfl) ?_ | refine q rfl rfl (ldS rfl rfl (ints_get hz)) ?_ | refine q rfl rfl (ldS rfl rfl rfl) ?_
          refine e rfl ?_
          refine cl (left_ok qb pp i q1 z (by omega) (by omega) (fun t ht => by have := hinv1.hw t ht; omega)) rfl (picked_nil _) (ent_one 0 rfl) ?_
          intro _ _
          change TL _ _ _ _ _ _ _ _ (sepL [_, _, _])
          rw [hv]
          refine q rfl rfl (mv (v := .int _ _) rfl) ?_
          refine q rfl rfl (neI rfl rfl) ?_
          refine TL.nil (nt ?_)
          refine TC.condD rfl (fun hc2 => absurd hc2 (by omega)) (fun hc2 => ?_)
          refine TC.skip (nb (nt ?_))
          refine TC.region ?_
          refine q rfl rfl (mv (v := .int _ _) rfl) ?_
          first | refine q rfl rfl (addI rfl rfl (by omega) (by omega)) ?_ | refine q rfl rfl (add rfl rfl rfl) ?_
          refine q rfl rfl (asg (v := .int _ _) rfl) ?_
          refine TL.nil (nt ?_)
          exact ⟨rfl, (k + 1), (by omega), (by omega), ⟨rfl, rfl, rfl, rfl, rfl, rfl, rfl, trivial⟩, (ent_take 0 rfl (ent_take 0 rfl (ent_take 0 rfl (ent_nil _))))⟩
        · refine TC.exit (et (et (eb (nt ?_))))
          refine TC.seq ?_
          refine TC.region ?_
          refine q rfl rfl (mv (v := .pointer _) rfl) ?_
          refine e rfl ?_
          refine cl (list_ok qb pp i q1 (by omega)) rfl (picked_nil _) (ent_one 0 rfl) ?_
          intro y2 _
          change TL _ _ _ _ _ _ _ _ (sepL [_, _, _, _])
          refine q rfl rfl (asg (v := .slice _ _ _) rfl) ?_
          refine TL.nil (nt ?_)
          refine TC.seq ?_
          refine TC.region ?_
          refine q rfl rfl (asg (v := .slice _ _ _) rfl) ?_
          refine TL.nil (nt ?_)
          refine TC.seq ?_
          refine TC.seq ?_
          refine TC.region ?_
          refine q rfl rfl (asg (v := .int _ _) rfl) ?_
          refine TL.nil (nt ?_)
          refine TC.block ?_
          refine TC.loop (ι := Nat × Option Addr × Nat) (fun s => s.1 ≤ q1.length) (fun s => [(1, .slice ad l.length cap), (5, .int .i64 pp), (6, .pointer (some ⟨qb, 0, none⟩)), (7, .int .i64 ((nx + ys.length : Nat) : Int)), (8, .int .i64 ((i : Nat) : Int)), (12, .slice y2.1 q1.length y2.2), (13, .slice s.2.1 s.1 s.2.2), (14, .int .i64 ((s.1 : Nat) : Int))]) (fun s => sepL [isQ qb pp ((i : Nat) : Int) q1, slc 3 1 y2.1 q1.length y2.2 (ints (q1.map (·.1))), slc 3 1 s.2.1 s.1 s.2.2 (ints ((q1.take s.1).map fun t => t.2 - (i : Int))), F]) (fun s => q1.length - s.1) ⟨0, none, 0⟩ (Nat.zero_le _) ⟨rfl, rfl, rfl, rfl, rfl, rfl, rfl, rfl, trivial⟩ ((slc_nil 3 1 _).trans (ent_take 2 rfl (ent_take 1 rfl (ent_takeE 0 rfl (by simp [ints]) (ent_take 1 rfl (ent_nil _)))))) ?_
          rintro ⟨k, ad3, cap3⟩ hkq ρ1
          dsimp only [updL] at hkq ⊢
          refine TC.seq ?_
          refine TC.seq ?_
          refine TC.region ?_
          refine q rfl rfl (mv (v := .int _ _) rfl) ?_
          refine q rfl rfl (mv (v := .slice _ _ _) rfl) ?_
          refine q rfl rfl (len 3 1 rfl rfl) ?_
          refine q rfl rfl (lss rfl rfl) ?_
          refine TL.nil (nt ?_)
          first | refine TC.condD rfl (fun hk => ?_) (fun hk => ?_) | refine TC.cond rfl (fun hk => ?_) (fun hk => ?_)
          · have hk : k < q1.length := by omega
            obtain ⟨t, ht⟩ : ∃ t, q1[k]? = some t := ⟨q1[k], List.getElem?_eq_getElem hk⟩
            have hz : (q1.map (·.1))[k]? = some t.1 := by rw [List.getElem?_map, ht]; rfl
            have hpos2 : 0 < (ints (q1.map (·.1))).length := by rw [ints_length]; simp; omega
            have hv : leftG i t.1 q1 = t.2 - i := leftG_at hinv1.hn ht
            have htw := hinv1.hw t (List.mem_of_getElem? ht)
            refine TC.skip (nt ?_)
            refine TC.seq ?_
            refine TC.block ?_
            refine TC.seq ?_
            refine TC.region ?_
            refine q rfl rfl (mv (v := .pointer _) rfl) ?_
            refine q rfl rfl (mv (v := .slice _ _ _) rfl) ?_
            refine q rfl rfl (mv (v := .int _ _) rfl) ?_
            first | refine q rfl rfl (ixS 3 1 rfl rfl rfl (by omega) (by first | assumption | (simp [ints_length] <;> omega))) ?_ | refine q rfl rfl (ixJ 3 1 rfl rfl rfl (by omega) (by omega) (by first | assumption | (simp [ints_length] <;> omega))) ?_ | refine q rfl rfl (ix 3 1 rfl rfl rfl (by omega) (by omega) rfl) ?_
            first | refine q rfl rfl (ld rfl rfl rfl) ?_ | refine q rfl rfl (ldS rfl rfl (ints_get hz)) ?_ | refine q rfl rfl (ldS rfl rfl rfl) ?_
            refine e rfl ?_
            refine cl (left_ok qb pp i q1 t.1 (by omega) (by omega) (fun t ht => by have := hinv1.hw t ht; omega)) rfl (picked_nil _) (ent_one 0 rfl) ?_
            intro _ _
            change TL _ _ _ _ _ _ _ _ (sepL [_, _, _, _])
            rw [hv]
            refine q rfl rfl (asg (v := .int _ _) rfl) ?_
            refine TL.nil (nt ?_)
            refine TC.seq ?_
            refine TC.seq ?_
            refine TC.region ?_
            refine q rfl rfl (mv (v := .int _ _) rfl) ?_
            refine q rfl rfl (lss rfl rfl) ?_
            refine q rfl rfl (mv (v := .bool _) rfl) ?_
            refine TL.known 88 rfl (c := false) (decide_eq_false (by omega)) ?_
            refine qg rfl rfl rfl (mv (v := .int _ _) rfl) ?_
            refine qg rfl rfl rfl (mv (v := .int _ _) rfl) ?_
            refine qg rfl rfl rfl (gtr rfl rfl) ?_
            first | refine q rfl rfl (pkT rfl rfl) ?_ | refine q rfl rfl (pkF rfl rfl) ?_
            refine q rfl rfl (mv (v := .bool _) rfl) ?_
            refine TL.known 93 rfl (c := false) (decide_eq_false (by omega)) ?_
            refine qg rfl rfl rfl (mv (v := .int _ _) rfl) ?_
            refine qg rfl rfl rfl (gtr rfl rfl) ?_
            refine qg rfl rfl rfl (mv (v := .bool _) rfl) ?_
            refine TL.split 96 rfl (fun hk0 => ?_) (fun hk0 => ?_)
            · have hk0 := of_decide_eq_true hk0
              obtain ⟨s, hs⟩ : ∃ s, q1[k - 1]? = some s := ⟨q1[k - 1]'(by omega), List.getElem?_eq_getElem (by omega)⟩
              have hs3 : (ints ((q1.take k).map fun t => t.2 - (i : Int)))[((k : Int) - 1).toNat * 1]? = some (.int .i64 (s.2 - i)) := by
                refine ints_get ?_
                rw [show ((k : Int) - 1).toNat = k - 1 by omega, List.getElem?_map, List.getElem?_take_of_lt (by omega), hs]; rfl
              have hpos3 : 0 < (ints ((q1.take k).map fun t => t.2 - (i : Int))).length := by rw [ints_length]; simp; omega
              have hst : s.2 ≤ t.2 := List.pairwise_iff_getElem.1 hinv1.hs (k - 1) k (by omega) hk (by omega) |> fun h => by
                rw [(List.getElem?_eq_some_iff.1 hs).2, (List.getElem?_eq_some_iff.1 ht).2] at h; exact h
              refine qg rfl rfl rfl (mv (v := .int _ _) rfl) ?_
              refine qg rfl rfl rfl (mv (v := .slice _ _ _) rfl) ?_
              refine qg rfl rfl rfl (mv (v := .int _ _) rfl) ?_
              first | refine qg rfl rfl rfl (subI rfl rfl (by omega) (by omega)) ?_ | refine qg rfl rfl rfl (sub rfl rfl rfl) ?_
              first | refine qg rfl rfl rfl (ixS 3 1 rfl rfl rfl (by omega) (by first | assumption | (simp [ints_length] <;> omega))) ?_ | refine qg rfl rfl rfl (ixJ 3 1 rfl rfl rfl (by omega) (by omega) (by first | assumption | (simp [ints_length] <;> omega))) ?_ | refine qg rfl rfl rfl (ix 3 1 rfl rfl rfl (by omega) (by omega) rfl) ?_
              first | refine qg rfl rfl rfl (ld rfl rfl rfl) ?_ | refine qg rfl rfl rfl (ldS rfl rfl hs3) ?_ | refine qg rfl rfl rfl (ldS rfl rfl rfl) ?_
              refine qg rfl rfl rfl (lss rfl rfl) ?_
              first | refine qg rfl rfl rfl (pkT rfl rfl) ?_ | refine qg rfl rfl rfl (pkF rfl rfl) ?_
              first | refine q rfl rfl (pkT rfl rfl) ?_ | refine q rfl rfl (pkF rfl rfl) ?_
              refine TL.nil (nt ?_)
              refine TC.condD rfl (fun hc3 => absurd hc3 (by omega)) (fun hc3 => ?_)
              refine TC.skip (nt ?_)
              refine TC.region ?_
              refine q rfl rfl (mv (v := .slice _ _ _) rfl) ?_
              refine q rfl rfl (mv (v := .int _ _) rfl) ?_
              refine e rfl ?_
              refine bs (cs := [.int _ _]) rfl ?_
              intro b2
              refine e rfl ?_
              refine ap 8 rfl rfl rfl rfl rfl (Nat.le_of_ble_eq_true rfl) rfl rfl (by omega) (by simp only [maxLen]; omega) ?_
              intro ad2 cap2
              refine q rfl rfl (asg (v := .slice _ _ _) rfl) ?_
              refine TL.nil (nb (nt ?_))
              refine TC.region ?_
              refine q rfl rfl (mv (v := .int _ _) rfl) ?_
              first | refine q rfl rfl (addI rfl rfl (by omega) (by omega)) ?_ | refine q rfl rfl (add rfl rfl rfl) ?_
              refine q rfl rfl (asg (v := .int _ _) rfl) ?_
              refine TL.nil (nt ?_)
              exact ⟨rfl, ⟨k + 1, ad2, cap2⟩, (by dsimp only; omega), (by dsimp only; omega), ⟨rfl, rfl, rfl, rfl, rfl, rfl, rfl, rfl, trivial⟩, (ent_take 2 rfl (ent_take 2 rfl (ent_takeE 0 rfl (by simp [ints, List.take_add_one, ht]) (ent_take 1 rfl (ent_nil _)))))⟩
            · have hk0 := of_decide_eq_false hk0
              refine qs rfl rfl ?_
              refine qs rfl rfl ?_
              refine qs rfl rfl ?_
              refine qs rfl rfl ?_
              refine qs rfl rfl ?_
              refine qs rfl rfl ?_
              refine qs rfl rfl ?_
              first | refine qg rfl rfl rfl (pkT rfl rfl) ?_ | refine qg rfl rfl rfl (pkF rfl rfl) ?_
              first | refine q rfl rfl (pkT rfl rfl) ?_ | refine q rfl rfl (pkF rfl rfl) ?_
              refine TL.nil (nt ?_)
              refine TC.condF rfl ?_
              refine TC.skip (nt ?_)
              refine TC.region ?_
              refine q rfl rfl (mv (v := .slice _ _ _) rfl) ?_
              refine q rfl rfl (mv (v := .int _ _) rfl) ?_
              refine e rfl ?_
              refine bs (cs := [.int _ _]) rfl ?_
              intro b3
              refine e rfl ?_
              refine ap 8 rfl rfl rfl rfl rfl (Nat.le_of_ble_eq_true rfl) rfl rfl (by omega) (by simp only [maxLen]; omega) ?_
              intro ad3 cap3
              refine q rfl rfl (asg (v := .slice _ _ _) rfl) ?_
              refine TL.nil (nb (nt ?_))
              refine TC.region ?_
              refine q rfl rfl (mv (v := .int _ _) rfl) ?_
              first | refine q rfl rfl (addI rfl rfl (by omega) (by omega)) ?_ | refine q rfl rfl (add rfl rfl rfl) ?_
              refine q rfl rfl (asg (v := .int _ _) rfl) ?_
              refine TL.nil (nt ?_)
              exact ⟨rfl, ⟨k + 1, ad3, cap3⟩, (by dsimp only; omega), (by dsimp only; omega), ⟨rfl, rfl, rfl, rfl, rfl, rfl, rfl, rfl, trivial⟩, (ent_take 2 rfl (ent_take 2 rfl (ent_takeE 0 rfl (by simp [ints, List.take_add_one, ht]) (ent_take 1 rfl (ent_nil _)))))⟩
          · obtain rfl : k = q1.length := by omega
            rw [List.take_length]
            have hinv2 := hinv1.tick
            have hdr := due_rest ((i : Int) + 1) q1
            refine TC.exit (et (et (eb (nt ?_))))
            refine TC.seq ?_
            refine TC.region ?_
            refine q rfl rfl (mv (v := .pointer _) rfl) ?_
            refine e rfl ?_
            refine cl (tick_ok qb pp i q1 (by omega) (by omega)) rfl (picked_cons 0 rfl (picked_nil _)) trivial ?_
            intro y4 _
            change TL _ _ _ _ _ _ _ _ (sepL [_, _, _, _, _])
            refine q rfl rfl (asg (v := .slice _ _ _) rfl) ?_
            refine TL.nil (nt ?_)
            refine TC.seq ?_
            refine TC.region ?_
            refine q rfl rfl (asg (v := .int _ _) rfl) ?_
            refine TL.nil (nt ?_)
            refine TC.block ?_
            refine TC.loop (ι := Nat) (fun k => k ≤ q1.length) (fun k => [(1, .slice ad l.length cap), (5, .int .i64 pp), (6, .pointer (some ⟨qb, 0, none⟩)), (7, .int .i64 ((nx + ys.length : Nat) : Int)), (8, .int .i64 ((i : Nat) : Int)), (12, .slice y2.1 q1.length y2.2), (13, .slice ad3 q1.length cap3), (16, .slice y4.1 ((dueL ((i : Int) + 1) q1).map (·.1)).length y4.2), (17, .int .i64 ((k : Nat) : Int))]) (fun k => sepL [isQ qb pp (((i : Nat) : Int) + 1) (restL ((i : Int) + 1) q1), slc 3 1 y4.1 ((dueL ((i : Int) + 1) q1).map (·.1)).length y4.2 (ints ((dueL ((i : Int) + 1) q1).map (·.1))), slc 3 1 y2.1 q1.length y2.2 (ints (q1.map (·.1))), slc 3 1 ad3 q1.length cap3 (ints (q1.map fun t => t.2 - (i : Int))), F]) (fun k => q1.length - k) 0 (Nat.zero_le _) ⟨rfl, rfl, rfl, rfl, rfl, rfl, rfl, rfl, rfl, trivial⟩ (ent_take 0 rfl (ent_take 0 rfl (ent_take 0 rfl (ent_take 0 rfl (ent_take 0 rfl (ent_nil _)))))) ?_
            rintro k hkq ρ1
            dsimp only [updL] at hkq ⊢
            refine TC.seq ?_
            refine TC.seq ?_
            refine TC.region ?_
            refine q rfl rfl (mv (v := .int _ _) rfl) ?_
            refine q rfl rfl (mv (v := .slice _ _ _) rfl) ?_
            refine q rfl rfl (len 3 1 rfl rfl) ?_
            refine q rfl rfl (lss rfl rfl) ?_
            refine TL.nil (nt ?_)
            first | refine TC.condD rfl (fun hk => ?_) (fun hk => ?_) | refine TC.cond rfl (fun hk => ?_) (fun hk => ?_)
            · have hk : k < q1.length := by omega
              obtain ⟨t, ht⟩ : ∃ t, q1[k]? = some t := ⟨q1[k], List.getElem?_eq_getElem hk⟩
              have hz : (q1.map (·.1))[k]? = some t.1 := by rw [List.getElem?_map, ht]; rfl
              have hz3 : (q1.map fun t => t.2 - (i : Int))[k]? = some (t.2 - i) := by rw [List.getElem?_map, ht]; rfl
              have hpos2 : 0 < (ints (q1.map (·.1))).length := by rw [ints_length]; simp; omega
              have hpos3 : 0 < (ints (q1.map fun t => t.2 - (i : Int))).length := by rw [ints_length]; simp; omega
              have hv := hinv1.left_tick ht
              have htw := hinv1.hw t (List.mem_of_getElem? ht)
              have hdi := due_iff (n := (i : Int) + 1) hinv1.hs ht
              have hdl : ((dueL ((i : Int) + 1) q1).map (·.1)).length = (dueL ((i : Int) + 1) q1).length := by simp
              have hdd : decide (t.2 - (i : Int) = 1) = decide ((k : Int) < (((dueL ((i : Int) + 1) q1).map (·.1)).length : Int)) := by rw [decide_eq_decide]; omega
              refine TC.skip (nt ?_)
              refine TC.seq ?_
              refine TC.block ?_
              refine TC.seq ?_
              refine TC.draw _ [] [(0, false), (1, false), (2, false), (3, false), (4, false), (6, false), (7, false), (8, false), (9, false), (10, false), (5, true), (11, false), (12, false), (13, false), (14, false), (15, false), (16, false), (17, false), (18, false), (19, false), (20, false), (21, false), (22, false), (23, false), (24, false), (25, false), (26, false), (27, false), (28, false), (29, false), (30, false), (31, false), (32, false), (33, false), (34, false), (35, false), (36, false), (37, false), (38, false), (39, false), (40, false)] (by kernel_rfl) (by kernel_rfl) (ent_take 0 rfl (ent_take 0 rfl (ent_take 0 rfl (ent_take 0 rfl (ent_take 0 rfl (ent_nil _)))))) ?_
              refine dq rfl rfl rfl (mv (v := .pointer _) rfl) ?_
              refine dq rfl rfl rfl (mv (v := .slice _ _ _) rfl) ?_
              refine dq rfl rfl rfl (mv (v := .int _ _) rfl) ?_
              first | refine dq rfl rfl rfl (ixS 3 1 rfl rfl rfl (by omega) (by first | assumption | (simp [ints_length] <;> omega))) ?_ | refine dq rfl rfl rfl (ixJ 3 1 rfl rfl rfl (by omega) (by omega) (by first | assumption | (simp [ints_length] <;> omega))) ?_ | refine dq rfl rfl rfl (ix 3 1 rfl rfl rfl (by omega) (by omega) rfl) ?_
              first | refine dq rfl rfl rfl (ld rfl rfl rfl) ?_ | refine dq rfl rfl rfl (ldS rfl rfl (ints_get hz)) ?_ | refine dq rfl rfl rfl (ldS rfl rfl (ints_get hz3)) ?_ | refine dq rfl rfl rfl (ldS rfl rfl rfl) ?_
              refine dq rfl rfl rfl (mv (v := .slice _ _ _) rfl) ?_
              refine dq rfl rfl rfl (mv (v := .int _ _) rfl) ?_
              first | refine dq rfl rfl rfl (ixS 3 1 rfl rfl rfl (by omega) (by first | assumption | (simp [ints_length] <;> omega))) ?_ | refine dq rfl rfl rfl (ixJ 3 1 rfl rfl rfl (by omega) (by omega) (by first | assumption | (simp [ints_length] <;> omega))) ?_ | refine dq rfl rfl rfl (ix 3 1 rfl rfl rfl (by omega) (by omega) rfl) ?_
              first | refine dq rfl rfl rfl (ld rfl rfl rfl) ?_ | refine dq rfl rfl rfl (ldS rfl rfl (ints_get hz)) ?_ | refine dq rfl rfl rfl (ldS rfl rfl (ints_get hz3)) ?_ | refine dq rfl rfl rfl (ldS rfl rfl rfl) ?_
              first | refine dq rfl rfl rfl (subI rfl rfl (by omega) (by omega)) ?_ | refine dq rfl rfl rfl (sub rfl rfl rfl) ?_
              refine de rfl rfl ?_
              refine cl (left_ok qb pp ((i : Int) + 1) (restL ((i : Int) + 1) q1) t.1 (by omega) (by have := congrArg List.length hdr; simp at this; omega) (fun t ht => by have := hinv2.hw t ht; omega)) rfl (picked_nil _) (ent_one 0 rfl) ?_
              intro _ _
              change ent _ _ ∧ TD _ _ _ _ _ _ _ _ _ _ (sepL [_, _, _, _, _])
              refine ⟨(by repeat (first | exact ent_nil _ | refine ent_take 0 rfl ?_ | refine ent_take 1 rfl ?_ | refine ent_take 2 rfl ?_ | refine ent_take 3 rfl ?_ | refine ent_take 4 rfl ?_ | refine ent_take 5 rfl ?_ | refine ent_take 6 rfl ?_ | refine ent_take 7 rfl ?_)), ?_⟩
              rw [hv]
              refine dq rfl rfl rfl (neI rfl rfl) ?_
              refine dq rfl rfl rfl (mv (v := .bool _) rfl) ?_
              refine TD.known 130 rfl (b' := false) (decide_eq_false (by omega)) ?_
              refine dg rfl rfl rfl rfl (mv (v := .slice _ _ _) rfl) ?_
              refine dg rfl rfl rfl rfl (mv (v := .int _ _) rfl) ?_
              first | refine dg rfl rfl rfl rfl (ixS 3 1 rfl rfl rfl (by omega) (by first | assumption | (simp [ints_length] <;> omega))) ?_ | refine dg rfl rfl rfl rfl (ixJ 3 1 rfl rfl rfl (by omega) (by omega) (by first | assumption | (simp [ints_length] <;> omega))) ?_ | refine dg rfl rfl rfl rfl (ix 3 1 rfl rfl rfl (by omega) (by omega) rfl) ?_
              first | refine dg rfl rfl rfl rfl (ld rfl rfl rfl) ?_ | refine dg rfl rfl rfl rfl (ldS rfl rfl (ints_get hz)) ?_ | refine dg rfl rfl rfl rfl (ldS rfl rfl (ints_get hz3)) ?_ | refine dg rfl rfl rfl rfl (ldS rfl rfl rfl) ?_
              refine dg rfl rfl rfl rfl (eqI rfl rfl) ?_
              refine dg rfl rfl rfl rfl (mv (v := .int _ _) rfl) ?_
              refine dg rfl rfl rfl rfl (mv (v := .slice _ _ _) rfl) ?_
              refine dg rfl rfl rfl rfl (len 3 1 rfl rfl) ?_
              refine dg rfl rfl rfl rfl (lss rfl rfl) ?_
              refine dg rfl rfl rfl rfl (pu (v := .bool _) (fun _ => rfl)) ?_
              first | refine dq rfl rfl rfl (pkT rfl rfl) ?_ | refine dq rfl rfl rfl (pkF rfl rfl) ?_
              refine dq rfl rfl rfl (mv (v := .bool _) rfl) ?_
              refine TD.known 142 rfl (b' := false) (by rw [hdd]; simp) ?_
              refine dg rfl rfl rfl rfl (mv (v := .int _ _) rfl) ?_
              refine dg rfl rfl rfl rfl (mv (v := .slice _ _ _) rfl) ?_
              refine dg rfl rfl rfl rfl (len 3 1 rfl rfl) ?_
              refine dg rfl rfl rfl rfl (lss rfl rfl) ?_
              refine dg rfl rfl rfl rfl (mv (v := .bool _) rfl) ?_
              refine TD.split 147 rfl (fun hkd => ?_) (fun hkd => ?_)
              · have hkd := of_decide_eq_true hkd
                have hz4 : ((dueL ((i : Int) + 1) q1).map (·.1))[k]? = some t.1 := by
                  rw [List.getElem?_map]
                  have h1 := ht
                  rw [← hdr, List.getElem?_append_left (by omega)] at h1
                  rw [h1]; rfl
                have hpos4 : 0 < (ints ((dueL ((i : Int) + 1) q1).map (·.1))).length := by rw [ints_length]; omega
                refine dg rfl rfl rfl rfl (mv (v := .slice _ _ _) rfl) ?_
                refine dg rfl rfl rfl rfl (mv (v := .int _ _) rfl) ?_
                first | refine dg rfl rfl rfl rfl (ixS 3 1 rfl rfl rfl (by omega) (by first | assumption | (simp [ints_length] <;> omega))) ?_ | refine dg rfl rfl rfl rfl (ixJ 3 1 rfl rfl rfl (by omega) (by omega) (by first | assumption | (simp [ints_length] <;> omega))) ?_ | refine dg rfl rfl rfl rfl (ix 3 1 rfl rfl rfl (by omega) (by omega) rfl) ?_
                first | refine dg rfl rfl rfl rfl (ld rfl rfl rfl) ?_ | refine dg rfl rfl rfl rfl (ldS rfl rfl (ints_get hz4)) ?_ | refine dg rfl rfl rfl rfl (ldS rfl rfl (ints_get hz)) ?_ | refine dg rfl rfl rfl rfl (ldS rfl rfl rfl) ?_
                refine dg rfl rfl rfl rfl (mv (v := .slice _ _ _) rfl) ?_
                refine dg rfl rfl rfl rfl (mv (v := .int _ _) rfl) ?_
                first | refine dg rfl rfl rfl rfl (ixS 3 1 rfl rfl rfl (by omega) (by first | assumption | (simp [ints_length] <;> omega))) ?_ | refine dg rfl rfl rfl rfl (ixJ 3 1 rfl rfl rfl (by omega) (by omega) (by first | assumption | (simp [ints_length] <;> omega))) ?_ | refine dg rfl rfl rfl rfl (ix 3 1 rfl rfl rfl (by omega) (by omega) rfl) ?_
                first | refine dg rfl rfl rfl rfl (ld rfl rfl rfl) ?_ | refine dg rfl rfl rfl rfl (ldS rfl rfl (ints_get hz4)) ?_ | refine dg rfl rfl rfl rfl (ldS rfl rfl (ints_get hz)) ?_ | refine dg rfl rfl rfl rfl (ldS rfl rfl rfl) ?_
                refine dg rfl rfl rfl rfl (neI rfl rfl) ?_
                first | refine dg rfl rfl rfl rfl (pkT rfl rfl) ?_ | refine dg rfl rfl rfl rfl (pkF rfl rfl) ?_
                first | refine dq rfl rfl rfl (pkT rfl rfl) ?_ | refine dq rfl rfl rfl (pkF rfl rfl) ?_
                refine TD.nil (nt ?_)
                refine TC.condD rfl (fun hc4 => absurd hc4 (by omega)) (fun hc4 => ?_)
                refine TC.skip (nb (nt ?_))
                refine TC.region ?_
                refine q rfl rfl (mv (v := .int _ _) rfl) ?_
                first | refine q rfl rfl (addI rfl rfl (by omega) (by omega)) ?_ | refine q rfl rfl (add rfl rfl rfl) ?_
                refine q rfl rfl (asg (v := .int _ _) rfl) ?_
                refine TL.nil (nt ?_)
                exact ⟨rfl, (k + 1), (by omega), (by omega), ⟨rfl, rfl, rfl, rfl, rfl, rfl, rfl, rfl, rfl, trivial⟩, (ent_take 0 rfl (ent_take 0 rfl (ent_take 0 rfl (ent_take 0 rfl (ent_take 0 rfl (ent_nil _))))))⟩
              · have hkd := of_decide_eq_false hkd
                refine dk rfl rfl rfl rfl ?_
                refine dk rfl rfl rfl rfl ?_
                refine dk rfl rfl rfl rfl ?_
                refine dk rfl rfl rfl rfl ?_
                refine dk rfl rfl rfl rfl ?_
                refine dk rfl rfl rfl rfl ?_
                refine dk rfl rfl rfl rfl ?_
                refine dk rfl rfl rfl rfl ?_
                refine dk rfl rfl rfl rfl ?_
                first | refine dg rfl rfl rfl rfl (pkT rfl rfl) ?_ | refine dg rfl rfl rfl rfl (pkF rfl rfl) ?_
                first | refine dq rfl rfl rfl (pkT rfl rfl) ?_ | refine dq rfl rfl rfl (pkF rfl rfl) ?_
                refine TD.nil (nt ?_)
                refine TC.condF rfl ?_
                refine TC.skip (nb (nt ?_))
                refine TC.region ?_
                refine q rfl rfl (mv (v := .int _ _) rfl) ?_
                first | refine q rfl rfl (addI rfl rfl (by omega) (by omega)) ?_ | refine q rfl rfl (add rfl rfl rfl) ?_
                refine q rfl rfl (asg (v := .int _ _) rfl) ?_
                refine TL.nil (nt ?_)
                exact ⟨rfl, (k + 1), (by omega), (by omega), ⟨rfl, rfl, rfl, rfl, rfl, rfl, rfl, rfl, rfl, trivial⟩, (ent_take 0 rfl (ent_take 0 rfl (ent_take 0 rfl (ent_take 0 rfl (ent_take 0 rfl (ent_nil _))))))⟩
            · refine TC.exit (et (et (eb (nb (nt ?_)))))
              refine TC.region ?_
              refine q rfl rfl (mv (v := .int _ _) rfl) ?_
              first | refine q rfl rfl (addI rfl rfl (by omega) (by omega)) ?_ | refine q rfl rfl (add rfl rfl rfl) ?_
              refine q rfl rfl (asg (v := .int _ _) rfl) ?_
              refine TL.nil (nt ?_)
              exact ⟨rfl, ⟨i + 1, nx + ys.length, restL ((i : Int) + 1) q1⟩, ⟨by rw [show ((i + 1 : Nat) : Int) = (i : Int) + 1 from by omega]; exact hinv2, by dsimp only; omega, by have := congrArg List.length hdr; simp at this; dsimp only; omega, by dsimp only; omega⟩, (by dsimp only; omega), ⟨rfl, rfl, rfl, rfl, rfl, trivial⟩, (ent_takeE 0 rfl (by rw [show ((i + 1 : Nat) : Int) = (i : Int) + 1 from by omega]) (ent_take 3 rfl (ent_nil _)))⟩
    · refine TC.exit (et (et (eb (nt ?_))))
      refine TC.seq ?_
      refine TC.region ?_
      refine q rfl rfl (mv (v := .pointer _) rfl) ?_
      refine e rfl ?_
      refine cl (period_ok qb pp i ql) rfl (picked_nil _) (ent_one 0 rfl) ?_
      intro _ _
      change TL _ _ _ _ _ _ _ _ (sepL [_, _])
      refine q rfl rfl (mv (v := .int _ _) rfl) ?_
      refine q rfl rfl (eqI rfl rfl) ?_
      refine q rfl rfl (asg (v := .bool _) rfl) ?_
      refine TL.nil (nt ?_)
      refine TC.ret ?_
      exact Ret.i () [_] ⟨rfl, trivial⟩ (congrArg Value.bool (decide_eq_true rfl)) trivial (ent_take 1 rfl (ent_nil _))

end Go.Proofs.Ytdpadbhfhlhnlaa
