/-
  Proved here: what functions of this program compute, each as a contract over symbolic states, under the premises that each theorem names (most lines printed by a program of the prover).
-/
import Derived.Test.YtdfmfhcjnjfjbaaMtI
import Derived.Test.YtdfmfhcjnjfjbaaLay
import Derived.Test.YtdfmfhcjnjfjbaaQLibH
namespace Go.Proofs.Ytdfmfhcjnjfjbaa
open Go Go.QM
theorem KeysOf.sorted {f : Int → Option Value} {n : Nat} {y : List Int} (h : KeysOf f n y) : KeysOf f n (sortI y) :=
  ⟨(sortI_perm y).nodup_iff.2 h.1, by rw [sortI_len]; exact h.2.1, fun x => by rw [(sortI_perm y).mem_iff]; exact h.2.2 x⟩
theorem sortI_uniq {y z : List Int} (hp : y.Perm z) : sortI y = sortI z :=
  List.Perm.eq_of_pairwise (le := fun a c => a ≤ c) (fun a c _ _ h1 h2 => by omega) (sortI_sorted y) (sortI_sorted z) ((sortI_perm y).trans (hp.trans (sortI_perm z).symm))
theorem keys_ids {A : Int → Nat} {ids y : List Int} (hn : ids.Nodup) (h : KeysOf (fM A ids) ids.length y) : sortI y = sortI ids := by
  refine sortI_uniq ((List.perm_ext_iff_of_nodup h.1 hn).2 fun x => ?_)
  rw [h.2.2, fM]
  by_cases hx : x ∈ ids
  · rw [if_pos hx]; simp [hx]
  · rw [if_neg hx]; simp [hx]
def thru (g : Int) : Off → Bool := fun o => decide (o.gt = g)
def goneC (s : MS) (g : Int) (D : List Int) : List Int := D.flatMap fun x => goneO (s.row x) (thru g)
def rowsC (s : MS) (g : Int) (D : List Int) : MS := { s with row := fun x => if x ∈ D then (s.row x).filter (notO (thru g)) else s.row x }
def closeS (s : MS) (g : Int) : MS × List Int := (frL (rowsC s g (sortI s.ids)) (goneC s g (sortI s.ids)), goneC s g (sortI s.ids))
theorem rowsC_nil (s : MS) (g : Int) : rowsC s g [] = s := by simp [rowsC]
theorem rowsC_snoc {s : MS} {g : Int} {D : List Int} (hn : D.Nodup) {k : Nat} {x : Int} (hx : D[k]? = some x) : cutMS (rowsC s g (D.take k)) x (thru g) = rowsC s g (D.take (k + 1)) ∧ (rowsC s g (D.take k)).row x = s.row x := by
  have hm : x ∉ D.take k := fun h2 => by
    obtain ⟨j, hj⟩ := List.getElem?_of_mem h2
    rw [List.getElem?_take] at hj
    split at hj
    · obtain ⟨a1, b1⟩ := List.getElem?_eq_some_iff.1 hj
      obtain ⟨a2, b2⟩ := List.getElem?_eq_some_iff.1 hx
      exact (List.pairwise_iff_getElem.1 hn) j k a1 a2 (by omega) (by rw [b1, b2])
    · cases hj
  have ht : ∀ y, y ∈ D.take (k + 1) ↔ y ∈ D.take k ∨ y = x := fun y => by rw [List.take_add_one, hx]; simp
  refine ⟨?_, if_neg hm⟩
  simp only [cutMS, rowS, rowsC, MS.mk.injEq, true_and]
  funext y
  by_cases e2 : y = x
  · subst e2; rw [updI_same, if_neg hm, if_pos ((ht y).2 (.inr rfl))]
  · rw [updI_ne e2]
    by_cases h : y ∈ D.take k
    · rw [if_pos h, if_pos ((ht y).2 (.inl h))]
    · rw [if_neg h, if_neg (fun h2 => ((ht y).1 h2).elim h e2)]
theorem goneC_snoc {s : MS} {g : Int} {D : List Int} {k : Nat} {x : Int} (hx : D[k]? = some x) : goneC s g (D.take (k + 1)) = goneC s g (D.take k) ++ goneO (s.row x) (thru g) := by
  rw [goneC, goneC, List.take_add_one, hx, Option.toList, List.flatMap_append, List.flatMap_cons, List.flatMap_nil, List.append_nil]
theorem goneC_len {s : MS} {g : Int} : ∀ {D : List Int}, (∀ x ∈ D, (s.row x).length ≤ 1000) → (goneC s g D).length ≤ 1000 * D.length
  | [], _ => Nat.zero_le _
  | x :: D, h => by
    have h1 := goneC_len (g := g) (D := D) fun y hy => h y (by simp [hy])
    have h2 := h x (by simp)
    have h3 := gone_len (s.row x) (thru g)
    have e : goneC s g (x :: D) = goneO (s.row x) (thru g) ++ goneC s g D := by rw [goneC, goneC, List.flatMap_cons]
    rw [e, List.length_append, List.length_cons]; omega
theorem goneC_mem {s : MS} {g : Int} {D : List Int} {y : Int} : y ∈ goneC s g D ↔ ∃ x ∈ D, ∃ o ∈ s.row x, o.gt = g ∧ o.fr = y := by
  rw [goneC, List.mem_flatMap]
  constructor
  · rintro ⟨x, hx, hy⟩
    obtain ⟨o, ho, rfl⟩ := List.mem_map.1 hy
    obtain ⟨ho1, ho2⟩ := List.mem_filter.1 ho
    exact ⟨x, hx, o, ho1, by simpa [thru] using ho2, rfl⟩
  · rintro ⟨x, hx, o, ho, h1, h2⟩
    exact ⟨x, hx, List.mem_map.2 ⟨o, List.mem_filter.2 ⟨ho, by simpa [thru] using h1⟩, h2⟩⟩
theorem sortI_mem {x : Int} {y : List Int} : x ∈ sortI y ↔ x ∈ y := (sortI_perm y).mem_iff
/-- Whose offer it is tells where it stands. -/
theorem WM.one {s : MS} (h : WM s) {x y : Int} (hx : x ∈ s.ids) (hy : y ∈ s.ids) {o u : Off} (ho : o ∈ s.row x) (hu : u ∈ s.row y) (e : o.fr = u.fr) : x = y ∧ o = u := by
  have h1 := (h.row x hx o ho).2.2.2
  have h2 := (h.row y hy u hu).2.2.2
  have hxy : x = y := by rw [← h1, ← h2, e]
  subst hxy
  refine ⟨rfl, ?_⟩
  obtain ⟨i, hi⟩ := List.getElem?_of_mem ho
  obtain ⟨j, hj⟩ := List.getElem?_of_mem hu
  obtain ⟨a1, b1⟩ := List.getElem?_eq_some_iff.1 hi
  obtain ⟨a2, b2⟩ := List.getElem?_eq_some_iff.1 hj
  have hp := List.pairwise_iff_getElem.1 (h.nr x hx)
  by_cases eij : i = j
  · subst eij; rw [← b1, ← b2]
  · exfalso
    rcases Nat.lt_or_gt_of_ne eij with h3 | h3
    · have := hp i j (by simpa using a1) (by simpa using a2) h3
      rw [List.getElem_map, List.getElem_map, b1, b2] at this; exact this e
    · have := hp j i (by simpa using a2) (by simpa using a1) h3
      rw [List.getElem_map, List.getElem_map, b1, b2] at this; exact this e.symm
theorem gone_in {s : MS} (h : WM s) {g y : Int} (hy : y ∈ goneC s g (sortI s.ids)) : y ∈ s.ids ∧ s.st y = 1 := by
  obtain ⟨x, hx, o, ho, _, rfl⟩ := goneC_mem.1 hy
  have := h.row x (sortI_mem.1 hx) o ho
  exact ⟨this.1, this.2.2.1⟩
theorem WM.close {s : MS} (h : WM s) (g : Int) : WM (closeS s g).1 := by
  refine (h.un (goneC s g (sortI s.ids)) fun y hy => gone_in h hy).ext rfl fun x hx => ⟨rfl, rfl, rfl, ?_⟩
  have hx : x ∈ s.ids := hx
  dsimp only [closeS, frL, rowsC, unL]
  rw [if_pos (sortI_mem.2 hx)]
  refine List.filter_congr fun o ho => ?_
  rw [notO, thru, Bool.eq_iff_iff]
  simp only [Bool.not_eq_true', decide_eq_false_iff_not, decide_eq_true_eq, goneC_mem]
  constructor
  · rintro h1 ⟨y, hy, u, hu, h2, h3⟩
    have := h.one hx (sortI_mem.1 hy) ho hu h3.symm
    rw [this.2] at h1; exact h1 h2
  · intro h1 h2
    exact h1 ⟨x, sortI_mem.2 hx, o, ho, h2, rfl⟩

theorem msort_ok (ad : Option Addr) (cap : Nat) (xs : List Int) (hl : xs.length ≤ 1000000) : FSpec Try.prog 89 [.slice ad xs.length cap] noRd [slc 3 1 ad xs.length cap (ints xs)] (fun _ : Unit => .tuple #[]) (fun _ => True) (fun _ => [slc 3 1 ad xs.length cap (ints (sortI xs))]) :=
  sort_ok laysSort (by kernel_rfl) 3 ad cap xs hl

set_option maxRecDepth 4000 in
theorem sorted_ok (cx mb n : Nat) (f : Int → Option Value) (hn : n ≤ 1000000) : FSpec Try.prog 79 [.func (.func 90) #[] #[.pointer (some ⟨cx, 0, none⟩)]] noRd [pts cx 94 [.map (some mb)], mapF QM.encI mb f n] (fun y : (Option Addr × Nat) × List Int => .slice y.1.1 (sortI y.2).length y.1.2) (fun y => KeysOf f n y.2) (fun y => [slc 3 1 y.1.1 (sortI y.2).length y.1.2 (ints (sortI y.2)), mapF QM.encI mb f n]) := by
  refine FSpec.intro (rs := [.tmp 2]) (by kernel_rfl) Try.func79 rfl Try.ntmps79 (by rfl) rfl ?_
  intro F _
  change TC _ _ _ _ _ _ _ (sepL [_, _, _])
  refine TC.seq ?_
  refine TC.region ?_
  refine q rfl rfl (asg (v := .slice _ _ _) rfl) ?_
  refine TL.nil (nt ?_)
  refine TC.seq ?_
  refine TC.region ?_
  refine q rfl rfl (mv rfl) ?_
  refine e rfl ?_
  refine cl (coll_ok cx mb n f hn) rfl PkL.p trivial ?_
  intro y hy
  change TL _ _ _ _ _ _ _ _ (sepL [_, _, _])
  refine q rfl rfl (asg (v := .slice _ _ _) rfl) ?_
  refine TL.nil (nt ?_)
  refine TC.seq ?_
  refine TC.region ?_
  refine q rfl rfl (mv (v := .slice _ _ _) rfl) ?_
  have hyl := hy.2.1
  refine e rfl ?_
  refine cl (msort_ok y.1.1 y.1.2 y.2 (by omega)) rfl PkL.p trivial ?_
  intro _ _
  change TL _ _ _ _ _ _ _ _ (sepL [_, _, _])
  refine TL.nil (nt ?_)
  refine TC.seq ?_
  refine TC.region ?_
  refine q rfl rfl (mv (v := .slice _ _ _) rfl) ?_
  refine q rfl rfl (asg (v := .slice _ _ _) rfl) ?_
  refine TL.nil (nt ?_)
  refine TC.ret ?_
  exact Ret.i y [_] ⟨rfl, trivial⟩ (by rw [sortI_len]; rfl) hy (ent_takeE 0 rfl (by rw [sortI_len]) (by repeat (first | exact ent_nil _ | refine ent_take 0 rfl ?_ | refine ent_take 1 rfl ?_ | refine ent_take 2 rfl ?_ | refine ent_take 3 rfl ?_ | refine ent_take 4 rfl ?_ | refine ent_take 5 rfl ?_ | refine ent_take 6 rfl ?_ | refine ent_take 7 rfl ?_ | refine ent_take 8 rfl ?_ | refine ent_take 9 rfl ?_ | refine ent_take 10 rfl ?_ | refine ent_take 11 rfl ?_ | refine ent_take 12 rfl ?_)))

set_option maxRecDepth 4000 in
theorem mclose1_ok (b : Nat) (gt : Int) (o : Off) : FSpec Try.prog 81 [.agg (ofC o).toArray, .pointer (some ⟨b, 0, none⟩)] (fun F => Rd F b (.cells #[Value.int .i64 gt] 3 (0, 0))) [] (fun _ : Unit => .bool (thru gt o)) (fun _ => True) (fun _ => []) := by
  refine FSpec.intro (rs := [.tmp 3]) (by kernel_rfl) Try.func81 rfl Try.ntmps81 (by rfl) rfl ?_
  intro F hF
  change TC _ _ _ _ _ _ _ (sepL [_])
  haveI : RdI F b (.cells #[Value.int .i64 gt] 3 (0, 0)) := ⟨hF⟩
  refine TC.seq ?_
  refine TC.region ?_
  refine e rfl ?_
  refine bx (v := .agg #[_, _, _]) (l := [.int _ _, .int _ _, .bool _]) rfl rfl ?_
  intro b1
  refine q rfl rfl (asg (v := .bool _) rfl) ?_
  refine TL.nil (nt ?_)
  refine TC.seq ?_
  refine TC.region ?_
  first | refine q rfl rfl (fa 1 rfl rfl) ?_ | refine q rfl rfl (faS 1 rfl rfl (by first | assumption | (simp [ints_length] <;> omega))) ?_
  first | refine q rfl rfl (ld rfl rfl rfl) ?_ | refine q rfl rfl (ldS rfl rfl rfl) ?_
  first | refine q rfl rfl (ld rfl rfl rfl) ?_ | refine q rfl rfl (ldS rfl rfl rfl) ?_
  refine q rfl rfl (eqI rfl rfl) ?_
  refine q rfl rfl (asg (v := .bool _) rfl) ?_
  refine TL.nil (nt ?_)
  refine TC.ret ?_
  exact Ret.i () [_] ⟨rfl, trivial⟩ rfl trivial (by repeat (first | exact ent_nil _ | refine ent_take 0 rfl ?_ | refine ent_take 1 rfl ?_ | refine ent_take 2 rfl ?_ | refine ent_take 3 rfl ?_ | refine ent_take 4 rfl ?_ | refine ent_take 5 rfl ?_ | refine ent_take 6 rfl ?_ | refine ent_take 7 rfl ?_ | refine ent_take 8 rfl ?_ | refine ent_take 9 rfl ?_ | refine ent_take 10 rfl ?_ | refine ent_take 11 rfl ?_ | refine ent_take 12 rfl ?_))

set_option maxRecDepth 4000 in
set_option maxHeartbeats 1000000 in
theorem mclose_ok (b : Nat) (A : Int → Nat) (s : MS) (hW : WM s) (gt : Int) (hl : s.ids.length ≤ 1000) : FSpec Try.prog 58 [.pointer (some ⟨b, 0, none⟩), .int .i64 gt] noRd [isMa b A s] (fun y : Option Addr × Nat => .slice y.1 (closeS s gt).2.length y.2) (fun _ => True) (fun y => [slc 3 1 y.1 (closeS s gt).2.length y.2 (ints (closeS s gt).2), isMa b A (closeS s gt).1]) := by
  refine FSpec.intro (rs := [.tmp 4]) (by kernel_rfl) Try.func58 rfl Try.ntmps58 (by rfl) rfl ?_
  intro F _
  change TC _ _ _ _ _ _ _ (sepL [_, _])
  refine TC.seq ?_
  refine TC.region ?_
  refine e rfl ?_
  refine bx (v := .int _ _) (l := [.int _ _]) rfl rfl ?_
  intro b2
  refine q rfl rfl (asg (v := .slice _ _ _) rfl) ?_
  refine TL.nil (nt ?_)
  refine TC.seq ?_
  refine TC.open 1 rfl (fun x0 hx0 => ?_)
  obtain ⟨ad, cap, mb⟩ := x0
  have hN := hx0
  change TC _ _ _ _ _ _ _ (sepL [_, _, _, _, _, _])
  dsimp only at hN ⊢
  refine TC.region ?_
  refine q rfl rfl (asg (v := .slice _ _ _) rfl) ?_
  refine TL.nil (nt ?_)
  refine TC.seq ?_
  refine TC.seq ?_
  refine TC.region ?_
  refine q rfl rfl (mv (v := .pointer _) rfl) ?_
  refine q rfl rfl (eqNil rfl rfl rfl) ?_
  refine TL.nil (nt ?_)
  refine TC.condF rfl ?_
  refine TC.skip (nt ?_)
  refine TC.seq ?_
  refine TC.seq ?_
  refine TC.region ?_
  refine q rfl rfl (mv (v := .pointer _) rfl) ?_
  first | refine q rfl rfl (nc rfl) ?_ | refine q rfl rfl (ncF rfl) ?_ | refine q rfl rfl (ncS rfl (by first | assumption | (simp [ints_length] <;> omega))) ?_
  first | refine q rfl rfl (fa 0 rfl rfl) ?_ | refine q rfl rfl (faS 0 rfl rfl (by first | assumption | (simp [ints_length] <;> omega))) ?_
  first | refine q rfl rfl (ld rfl rfl rfl) ?_ | refine q rfl rfl (ldS rfl rfl rfl) ?_
  refine e rfl ?_
  refine cl (keys_ok mb) rfl (picked_nil _) trivial ?_
  intro cx _
  change TL _ _ _ _ _ _ _ _ (sepL [_, _, _, _, _, _, _])
  refine e rfl ?_
  refine cl (sorted_ok cx mb s.ids.length (fM A s.ids) (by omega)) rfl PkL.p trivial ?_
  intro y hy
  change TL _ _ _ _ _ _ _ _ (sepL [_, _, _, _, _, _, _])
  rw [keys_ids hN hy]
  have hDl : (sortI s.ids).length = s.ids.length := sortI_len _
  have hDn : (sortI s.ids).Nodup := (sortI_perm _).nodup_iff.2 hN
  have hDm : ∀ x, x ∈ sortI s.ids ↔ x ∈ s.ids := fun x => sortI_mem
  have hrl : ∀ x ∈ sortI s.ids, (s.row x).length ≤ 1000 := fun x hx => Nat.le_trans (rowlen hW ((hDm x).1 hx)) hl
  have hgi := fun x hx => gone_in hW (g := gt) (y := x) hx
  have hcv : closeS s gt = (frL (rowsC s gt (sortI s.ids)) (goneC s gt (sortI s.ids)), goneC s gt (sortI s.ids)) := rfl
  rw [hcv]
  dsimp only
  generalize sortI s.ids = D at hDl hDn hDm hrl hgi ⊢
  obtain ⟨⟨da, dc⟩, yy⟩ := y
  dsimp only
  have hdi := ints_length D
  clear hcv hy
  refine q rfl rfl (len 3 1 rfl rfl) ?_
  refine q rfl rfl (mv (v := .int _ _) rfl) ?_
  refine TL.nil (nt ?_)
  refine TC.block ?_
  refine TC.loop (ι := Nat × (Int → Option Addr) × (Int → Nat) × (Option Addr × Nat)) (fun u => u.1 ≤ D.length) (fun u => [(0, .pointer (some ⟨b, 0, none⟩)), (3, .pointer (some ⟨b2, 0, none⟩)), (5, .slice u.2.2.2.1 (goneC s gt (D.take u.1)).length u.2.2.2.2), (17, .slice da D.length dc), (18, .int .i64 D.length), (19, .int .i64 ((u.1 : Nat) : Int))]) (fun u => sepL [slc 3 1 u.2.2.2.1 (goneC s gt (D.take u.1)).length u.2.2.2.2 (ints (goneC s gt (D.take u.1))), bigS (tP A u.2.1 u.2.2.1 (rowsC s gt (D.take u.1))) s.ids, bigS (rP u.2.1 u.2.2.1 (rowsC s gt (D.take u.1))) s.ids, slc 3 1 da D.length dc (ints D), pts b 96 [.map (some mb)], mapF QM.encI mb (fM A s.ids) s.ids.length, pts b2 3 [.int .i64 gt], F]) (fun u => D.length - u.1) ⟨0, ad, cap, (none, 0)⟩ (Nat.zero_le _) ⟨rfl, rfl, rfl, rfl, rfl, rfl, trivial⟩ ((slc_nil 3 1 _).trans (ent_take 0 rfl (ent_takeE 3 rfl (by dsimp only; rw [List.take_zero, rowsC_nil]) (ent_takeE 3 rfl (by dsimp only; rw [List.take_zero, rowsC_nil]) (by repeat (first | exact ent_nil _ | refine ent_take 0 rfl ?_ | refine ent_take 1 rfl ?_ | refine ent_take 2 rfl ?_ | refine ent_take 3 rfl ?_ | refine ent_take 4 rfl ?_ | refine ent_take 5 rfl ?_ | refine ent_take 6 rfl ?_ | refine ent_take 7 rfl ?_ | refine ent_take 8 rfl ?_ | refine ent_take 9 rfl ?_ | refine ent_take 10 rfl ?_ | refine ent_take 11 rfl ?_ | refine ent_take 12 rfl ?_)))))) ?_
  rintro ⟨k, ad, cap, ⟨oa, oc⟩⟩ hk ρ0
  dsimp only [updL] at hk ⊢
  refine TC.seq ?_
  refine TC.region ?_
  refine q rfl rfl (lss rfl rfl) ?_
  refine TL.nil (nt ?_)
  refine TC.seq ?_
  first | refine TC.condD rfl (fun hlt => ?_) (fun hlt => ?_) | refine TC.cond rfl (fun hlt => ?_) (fun hlt => ?_)
  · have hlt2 : k < D.length := by omega
    obtain ⟨x, hx⟩ : ∃ x, D[k]? = some x := ⟨D[k], List.getElem?_eq_getElem hlt2⟩
    have hxm := List.mem_of_getElem? hx
    have hxi := (hDm x).1 hxm
    have hpos : 0 < (ints D).length := by omega
    obtain ⟨hcs, hrw⟩ := rowsC_snoc (s := s) (g := gt) hDn hx
    have hgs := goneC_snoc (s := s) (g := gt) hx
    have hgl := goneC_len (s := s) (g := gt) (D := D.take k) (fun y hy => hrl y (List.mem_of_mem_take hy))
    have htl : (D.take k).length ≤ k := by rw [List.length_take]; omega
    have hxl := hrl x hxm
    have hgx := gone_len (s.row x) (thru gt)
    have hi1 := ints_length (goneC s gt (D.take k))
    have hi2 := ints_length (goneO (s.row x) (thru gt))
    refine TC.skip (nt ?_)
    refine TC.seq ?_
    refine TC.block ?_
    refine TC.seq ?_
    refine TC.region ?_
    first | refine q rfl rfl (ixS 3 1 rfl rfl rfl (by omega) (by first | assumption | (simp [ints_length] <;> omega))) ?_ | refine q rfl rfl (ixJ 3 1 rfl rfl rfl (by omega) (by omega) (by first | assumption | (simp [ints_length] <;> omega))) ?_ | refine q rfl rfl (ix 3 1 rfl rfl rfl (by omega) (by omega) rfl) ?_
    first | refine q rfl rfl (ld rfl rfl rfl) ?_ | refine q rfl rfl (ldS rfl rfl (ints_get hx)) ?_ | refine q rfl rfl (ldS rfl rfl rfl) ?_
    refine q rfl rfl (asg (v := .int _ _) rfl) ?_
    refine TL.nil (nt ?_)
    refine TC.region ?_
    refine q rfl rfl (mv (v := .slice _ _ _) rfl) ?_
    refine q rfl rfl (mv (v := .pointer _) rfl) ?_
    first | refine q rfl rfl (nc rfl) ?_ | refine q rfl rfl (ncF rfl) ?_ | refine q rfl rfl (ncS rfl (by first | assumption | (simp [ints_length] <;> omega))) ?_
    first | refine q rfl rfl (fa 0 rfl rfl) ?_ | refine q rfl rfl (faS 0 rfl rfl (by first | assumption | (simp [ints_length] <;> omega))) ?_
    first | refine q rfl rfl (ld rfl rfl rfl) ?_ | refine q rfl rfl (ldS rfl rfl (ints_get hx)) ?_ | refine q rfl rfl (ldS rfl rfl rfl) ?_
    refine q rfl rfl (mv (v := .int _ _) rfl) ?_
    refine q rfl rfl (luF 3 97 rfl rfl (KL.int rfl) rfl rfl) ?_
    rw [fM_yes hxi]
    first | refine q rfl rfl (nc rfl) ?_ | refine q rfl rfl (ncF rfl) ?_ | refine q rfl rfl (ncS rfl (by first | assumption | (simp [ints_length] <;> omega))) ?_
    first | refine q rfl rfl (fa 0 rfl rfl) ?_ | refine q rfl rfl (faS 0 rfl rfl (by first | assumption | (simp [ints_length] <;> omega))) ?_
    first | refine q rfl rfl (mkf (vf := []) (vc := [.pointer _]) rfl rfl) ?_ | refine q rfl rfl (mkf rfl rfl) ?_
    refine e rfl ?_
    refine cl (mcut_ok A ad cap (rowsC s gt (D.take k)) s.ids x hxi hN 81 [.pointer (some ⟨b2, 0, none⟩)] (thru gt) (fun F => Rd F b2 (.cells #[Value.int .i64 gt] 3 (0, 0))) (mclose1_ok b2 gt) (fun Bs _ h => Rd_end h Bs) (by rw [hrw]; omega)) rfl PkL.p RdI.rd ?_
    intro y _
    change TL _ _ _ _ _ _ _ _ (sepL [_, _, _, _, _, _, _, _, _])
    rw [hcs, hrw]
    refine e rfl ?_
    refine ap 8 rfl rfl rfl rfl rfl (by omega) (ints_all1 rfl) (ints_one1 _) (by omega) (by simp only [maxLen]; omega) ?_
    intro ad1 cap1
    refine q rfl rfl (asg (v := .slice _ _ _) rfl) ?_
    refine TL.nil (nb (nt ?_))
    refine TC.region ?_
    first | refine q rfl rfl (addI rfl rfl (by omega) (by omega)) ?_ | refine q rfl rfl (add rfl rfl rfl) ?_
    refine q rfl rfl (mv (v := .int _ _) rfl) ?_
    refine TL.nil (nt ?_)
    exact ⟨rfl, ⟨k + 1, updI ad x y.2.1, updI cap x y.2.2, (ad1, cap1)⟩, (by dsimp only; omega), (by dsimp only; omega), ⟨rfl, rfl, congrArg (fun n => Value.slice _ n _) (by dsimp only; rw [hgs, List.length_append]), rfl, rfl, rfl, trivial⟩, (ent_takeE 0 rfl (by dsimp only; rw [hgs, List.length_append, ints_app1]) (by repeat (first | exact ent_nil _ | refine ent_take 0 rfl ?_ | refine ent_take 1 rfl ?_ | refine ent_take 2 rfl ?_ | refine ent_take 3 rfl ?_ | refine ent_take 4 rfl ?_ | refine ent_take 5 rfl ?_ | refine ent_take 6 rfl ?_ | refine ent_take 7 rfl ?_ | refine ent_take 8 rfl ?_ | refine ent_take 9 rfl ?_ | refine ent_take 10 rfl ?_ | refine ent_take 11 rfl ?_ | refine ent_take 12 rfl ?_)))⟩
  · obtain rfl : k = D.length := by omega
    rw [List.take_length]
    have hgl := goneC_len (s := s) (g := gt) hrl
    generalize hG : goneC s gt D = Gn at hgi hgl ⊢
    have hGi := ints_length Gn
    refine TC.exit (et (et (eb (nt ?_))))
    refine TC.seq ?_
    refine TC.seq ?_
    refine TC.region ?_
    refine q rfl rfl (mv (v := .slice _ _ _) rfl) ?_
    refine q rfl rfl (len 3 1 rfl rfl) ?_
    refine q rfl rfl (mv (v := .int _ _) rfl) ?_
    refine TL.nil (nt ?_)
    refine TC.block ?_
    refine TC.loop (ι := Nat) (fun k => k ≤ Gn.length) (fun k => [(0, .pointer (some ⟨b, 0, none⟩)), (5, .slice oa Gn.length oc), (36, .slice oa Gn.length oc), (37, .int .i64 Gn.length), (38, .int .i64 ((k : Nat) : Int))]) (fun k => sepL [slc 3 1 oa Gn.length oc (ints Gn), bigS (tP A ad cap (frL (rowsC s gt D) (Gn.take k))) s.ids, bigS (rP ad cap (frL (rowsC s gt D) (Gn.take k))) s.ids, pts b 96 [.map (some mb)], mapF QM.encI mb (fM A s.ids) s.ids.length, F]) (fun k => Gn.length - k) 0 (Nat.zero_le _) ⟨rfl, rfl, rfl, rfl, rfl, trivial⟩ (ent_take 0 rfl (ent_takeE 0 rfl (by rw [List.take_zero, ← foldl_fr]; rfl) (ent_takeE 0 rfl (by rw [List.take_zero, ← foldl_fr]; rfl) (by repeat (first | exact ent_nil _ | refine ent_take 0 rfl ?_ | refine ent_take 1 rfl ?_ | refine ent_take 2 rfl ?_ | refine ent_take 3 rfl ?_ | refine ent_take 4 rfl ?_ | refine ent_take 5 rfl ?_ | refine ent_take 6 rfl ?_ | refine ent_take 7 rfl ?_ | refine ent_take 8 rfl ?_ | refine ent_take 9 rfl ?_ | refine ent_take 10 rfl ?_ | refine ent_take 11 rfl ?_ | refine ent_take 12 rfl ?_))))) ?_
    rintro k hk ρ1
    dsimp only [updL] at hk ⊢
    refine TC.seq ?_
    refine TC.region ?_
    refine q rfl rfl (lss rfl rfl) ?_
    refine TL.nil (nt ?_)
    refine TC.seq ?_
    first | refine TC.condD rfl (fun hlt2 => ?_) (fun hlt2 => ?_) | refine TC.cond rfl (fun hlt2 => ?_) (fun hlt2 => ?_)
    · have hlt3 : k < Gn.length := by omega
      obtain ⟨x, hx⟩ : ∃ x, Gn[k]? = some x := ⟨_, List.getElem?_eq_getElem hlt3⟩
      have hpos : 0 < (ints Gn).length := by omega
      obtain ⟨hx1, _⟩ := hgi x (List.mem_of_getElem? hx)
      have hst : frS (frL (rowsC s gt D) (Gn.take k)) x = (frL (rowsC s gt D) (Gn.take (k + 1))) := by rw [← foldl_fr, ← foldl_fr, List.take_add_one, hx, Option.toList, List.foldl_append]; rfl
      refine TC.skip (nt ?_)
      refine TC.seq ?_
      refine TC.block ?_
      refine TC.seq ?_
      refine TC.region ?_
      first | refine q rfl rfl (ixS 3 1 rfl rfl rfl (by omega) (by first | assumption | (simp [ints_length] <;> omega))) ?_ | refine q rfl rfl (ixJ 3 1 rfl rfl rfl (by omega) (by omega) (by first | assumption | (simp [ints_length] <;> omega))) ?_ | refine q rfl rfl (ix 3 1 rfl rfl rfl (by omega) (by omega) rfl) ?_
      first | refine q rfl rfl (ld rfl rfl rfl) ?_ | refine q rfl rfl (ldS rfl rfl (ints_get hx)) ?_ | refine q rfl rfl (ldS rfl rfl rfl) ?_
      refine q rfl rfl (asg (v := .int _ _) rfl) ?_
      refine TL.nil (nt ?_)
      refine TC.region ?_
      refine q rfl rfl (mv (v := .pointer _) rfl) ?_
      first | refine q rfl rfl (nc rfl) ?_ | refine q rfl rfl (ncF rfl) ?_ | refine q rfl rfl (ncS rfl (by first | assumption | (simp [ints_length] <;> omega))) ?_
      first | refine q rfl rfl (fa 0 rfl rfl) ?_ | refine q rfl rfl (faS 0 rfl rfl (by first | assumption | (simp [ints_length] <;> omega))) ?_
      first | refine q rfl rfl (ld rfl rfl rfl) ?_ | refine q rfl rfl (ldS rfl rfl (ints_get hx)) ?_ | refine q rfl rfl (ldS rfl rfl rfl) ?_
      refine q rfl rfl (mv (v := .int _ _) rfl) ?_
      refine q rfl rfl (luF 3 97 rfl rfl (KL.int rfl) rfl rfl) ?_
      rw [fM_yes hx1]
      refine e rfl ?_
      refine cl (mfree_ok A ad cap (frL (rowsC s gt D) (Gn.take k)) s.ids x hx1 hN) rfl PkL.p trivial ?_
      intro _ _
      change TL _ _ _ _ _ _ _ _ (sepL [_, _, _, _, _, _])
      rw [hst]
      refine TL.nil (nb (nt ?_))
      refine TC.region ?_
      first | refine q rfl rfl (addI rfl rfl (by omega) (by omega)) ?_ | refine q rfl rfl (add rfl rfl rfl) ?_
      refine q rfl rfl (mv (v := .int _ _) rfl) ?_
      refine TL.nil (nt ?_)
      exact ⟨rfl, (k + 1), (by omega), (by omega), ⟨rfl, rfl, rfl, rfl, rfl, trivial⟩, (ent_take 1 rfl (ent_take 0 rfl (ent_takeE 0 rfl (by rw [← hst]; rfl) (by repeat (first | exact ent_nil _ | refine ent_take 0 rfl ?_ | refine ent_take 1 rfl ?_ | refine ent_take 2 rfl ?_ | refine ent_take 3 rfl ?_ | refine ent_take 4 rfl ?_ | refine ent_take 5 rfl ?_ | refine ent_take 6 rfl ?_ | refine ent_take 7 rfl ?_ | refine ent_take 8 rfl ?_ | refine ent_take 9 rfl ?_ | refine ent_take 10 rfl ?_ | refine ent_take 11 rfl ?_ | refine ent_take 12 rfl ?_)))))⟩
    · obtain rfl : k = Gn.length := by omega
      rw [List.take_length]
      refine TC.exit (et (et (eb (nt ?_))))
      refine TC.seq ?_
      refine TC.region ?_
      refine q rfl rfl (mv (v := .slice _ _ _) rfl) ?_
      refine q rfl rfl (asg (v := .slice _ _ _) rfl) ?_
      refine TL.nil (nt ?_)
      refine TC.ret ?_
      exact Ret.i ⟨oa, oc⟩ [_] ⟨rfl, trivial⟩ rfl trivial (ent_take 0 rfl (ent_close (⟨ad, cap, mb⟩ : MRep) hN (by repeat (first | exact ent_nil _ | refine ent_take 0 rfl ?_ | refine ent_take 1 rfl ?_ | refine ent_take 2 rfl ?_ | refine ent_take 3 rfl ?_ | refine ent_take 4 rfl ?_ | refine ent_take 5 rfl ?_ | refine ent_take 6 rfl ?_ | refine ent_take 7 rfl ?_ | refine ent_take 8 rfl ?_ | refine ent_take 9 rfl ?_ | refine ent_take 10 rfl ?_ | refine ent_take 11 rfl ?_ | refine ent_take 12 rfl ?_))))

set_option maxRecDepth 4000 in
theorem mclose_nil (gt : Int) : FSpec Try.prog 58 [.pointer none, .int .i64 gt] noRd [] (fun _ : Unit => .slice none 0 0) (fun _ => True) (fun _ => []) := by
  refine FSpec.intro (rs := [.tmp 4]) (by kernel_rfl) Try.func58 rfl Try.ntmps58 (by rfl) rfl ?_
  intro F _
  change TC _ _ _ _ _ _ _ (sepL [_])
  refine TC.seq ?_
  refine TC.region ?_
  refine e rfl ?_
  refine bx (v := .int _ _) (l := [.int _ _]) rfl rfl ?_
  intro b3
  refine q rfl rfl (asg (v := .slice _ _ _) rfl) ?_
  refine TL.nil (nt ?_)
  refine TC.seq ?_
  refine TC.region ?_
  refine q rfl rfl (asg (v := .slice _ _ _) rfl) ?_
  refine TL.nil (nt ?_)
  refine TC.seq ?_
  refine TC.seq ?_
  refine TC.region ?_
  refine q rfl rfl (mv (v := .pointer _) rfl) ?_
  refine q rfl rfl (eqNil rfl rfl rfl) ?_
  refine TL.nil (nt ?_)
  refine TC.condT rfl ?_
  refine TC.seq ?_
  refine TC.region ?_
  refine q rfl rfl (asg (v := .slice _ _ _) rfl) ?_
  refine TL.nil (nt ?_)
  refine TC.ret (rt ?_)
  exact Ret.i () [_] ⟨rfl, trivial⟩ rfl trivial (by repeat (first | exact ent_nil _ | refine ent_take 0 rfl ?_ | refine ent_take 1 rfl ?_ | refine ent_take 2 rfl ?_ | refine ent_take 3 rfl ?_ | refine ent_take 4 rfl ?_ | refine ent_take 5 rfl ?_ | refine ent_take 6 rfl ?_ | refine ent_take 7 rfl ?_ | refine ent_take 8 rfl ?_ | refine ent_take 9 rfl ?_ | refine ent_take 10 rfl ?_ | refine ent_take 11 rfl ?_ | refine ent_take 12 rfl ?_))

end Go.Proofs.Ytdfmfhcjnjfjbaa
