/-
  Proved here: what functions of this program compute, each as a contract over symbolic states, under the premises that each theorem names (most lines printed by a program of the prover).
-/
import Derived.Test.YtffoeolgjgpmjaaFoJ
namespace Go.Proofs.Ytffoeolgjgpmjaa
open Go Go.QM
structure FAct where
  kind : Int
  id : Int
  sp : Int
  sl : Int
def factC (t : FAct) : List Value := ints [t.kind, t.id, t.sp, t.sl]
theorem factC_sz (t : FAct) : (factC t).length = 4 := rfl
def factsC (l : List FAct) : List Value := l.flatMap factC
theorem factsC_length (l : List FAct) : (factsC l).length = l.length * 4 := flat_length factC_sz l
theorem bel_down {L : List Fn} {last : Int} (h : WI L last) {t : Fn} (ht : t ∈ L) {id : Int} (hp : t.par ∈ belR L last id ∨ (t.par = id ∧ hasN L id)) : t.id ∈ belR L last id := by
  have hh : hasN L id := by
    rcases hp with hp | hp
    · by_cases hh : hasN L id
      · exact hh
      · rw [belR_none hh] at hp; cases hp
    · exact hp.2
  have h1 := hasN_pos h hh
  rw [bel_up h ht (by omega)]
  refine ⟨hh, ?_⟩
  rcases hp with hp | ⟨hp, _⟩
  · rw [belR, if_pos hh, mem_bel h (show id ≠ 0 by omega)] at hp; exact hp.1
  · rw [hp]; exact .refl
structure PF (L : List Fn) (last : Int) : Prop where
  wi : WI L last
  pr : ∀ t ∈ L, t.par = 0 ∨ hasN L t.par
theorem PF.nil : PF [] 0 := ⟨WI.nil, fun t h => by cases h⟩
theorem add_cases (L : List Fn) (last p : Int) (o : Int × Int) : (∃ e, e ≠ 0 ∧ (e = 6 ∨ e = 7) ∧ addN L last p o = (L, last, 0, e)) ∨
    (addN L last p o = (L ++ [⟨last + 1, p, o.1, o.2⟩], last + 1, last + 1, 0) ∧ (p = 0 ∨ hasN L p) ∧ ¬ hasO L o ∨ ∃ t ∈ L, t.id = 0) := by
  by_cases h1 : ¬ hasN L p ∧ p ≠ 0
  · exact .inl ⟨6, by decide, .inl rfl, by rw [addN, if_pos h1]⟩
  · by_cases h2 : findO L o ≠ 0
    · exact .inl ⟨7, by decide, .inr rfl, by rw [addN, if_neg h1, if_pos h2]⟩
    · right
      by_cases h3 : hasO L o
      · right
        rw [findO] at h2
        obtain ⟨t, ht, h4⟩ := h3
        cases hf : L.find? fun u => decide (spN u = o) with
        | none => rw [List.find?_eq_none] at hf; exact absurd (decide_eq_true h4) (hf t ht)
        | some u => rw [hf] at h2; exact ⟨u, List.mem_of_find?_eq_some hf, Decidable.not_not.1 h2⟩
      · left
        refine ⟨by rw [addN, if_neg h1, if_neg h2], ?_, h3⟩
        by_cases h4 : p = 0
        · exact .inl h4
        · exact .inr (Decidable.not_not.1 fun h5 => h1 ⟨h5, h4⟩)
theorem PF.adds {L : List Fn} {last : Int} (h : PF L last) (p : Int) (o : Int × Int) : (∃ e, e ≠ 0 ∧ (e = 6 ∨ e = 7) ∧ addN L last p o = (L, last, 0, e)) ∨
    (addN L last p o = (L ++ [⟨last + 1, p, o.1, o.2⟩], last + 1, last + 1, 0) ∧ PF (L ++ [⟨last + 1, p, o.1, o.2⟩]) (last + 1)) := by
  rcases add_cases L last p o with h1 | ⟨h1, h2, h3⟩ | ⟨t, ht, h4⟩
  · exact .inl h1
  · right
    have hl := h.wi.len
    refine ⟨h1, h.wi.add rfl ?_ h3, fun t ht => ?_⟩
    · dsimp only
      rcases h2 with h2 | h2
      · omega
      · have := hasN_pos h.wi h2; omega
    · have hm : ∀ x, hasN L x → hasN (L ++ [(⟨last + 1, p, o.1, o.2⟩ : Fn)]) x := fun x ⟨u, hu, e⟩ => ⟨u, List.mem_append.2 (.inl hu), e⟩
      rcases List.mem_append.1 ht with ht | ht
      · exact (h.pr t ht).imp id (hm _)
      · rw [List.mem_singleton.1 ht]; exact h2.imp id (hm _)
  · have := h.wi.rg t ht; omega
theorem PF.cut {L : List Fn} {last : Int} (h : PF L last) (id : Int) : PF (cutN L last id) last := by
  refine ⟨h.wi.cut id, fun t ht => ?_⟩
  obtain ⟨h1, h2⟩ := offL_mem.1 ht
  rcases h.pr t h1 with h3 | h3
  · exact .inl h3
  · exact .inr ((cut_has h.wi id).2 ⟨h3, fun h4 => h2 (bel_down h.wi h1 (.inl h4))⟩)
theorem PF.rem {L : List Fn} {last : Int} (h : PF L last) (id : Int) : PF (remN L last id) last := by
  rw [remN]
  split
  · rename_i hh
    refine ⟨(h.wi.cut id).off id, fun t ht => ?_⟩
    obtain ⟨h1, h2⟩ := offN_mem.1 ht
    obtain ⟨h3, h4⟩ := offL_mem.1 h1
    rcases (h.cut id).pr t h1 with h5 | h5
    · exact .inl h5
    · exact .inr (offN_has.2 ⟨h5, fun e => h4 (bel_down h.wi h3 (.inr ⟨e, hh⟩))⟩)
  · exact h.cut id
theorem lift_none {L : List Fn} {id : Int} (h : ¬ hasN L id) : liftN L id = L := by rw [liftN, findN_no h]
theorem PF.lift {L : List Fn} {last : Int} (h : PF L last) (id : Int) : PF (liftN L id) last := by
  by_cases hh : hasN L id
  · obtain ⟨t, ht, rfl⟩ := hh
    have hA := lift_all h.wi ht
    have hg := h.wi.rg t ht
    refine ⟨hA.wi, fun u hu => ?_⟩
    obtain ⟨v, h1, h2, rfl⟩ := (hA.mem u).1 hu
    rw [lift_has hA, lfN]
    dsimp only
    by_cases e : v.par = t.id
    · rw [if_pos e]
      exact (h.pr t ht).imp id fun h3 => ⟨h3, by omega⟩
    · rw [if_neg e]
      exact (h.pr v h1).imp id fun h3 => ⟨h3, e⟩
  · rw [lift_none hh]; exact h
/-- The numbers that are there. -/
def hsL (L : List Fn) : Nat → List Int
  | 0 => []
  | n + 1 => if hasN L ((n : Int) + 1) then hsL L n ++ [(n : Int) + 1] else hsL L n
theorem hsL_mem {L : List Fn} {x : Int} : ∀ {n : Nat}, x ∈ hsL L n ↔ hasN L x ∧ 1 ≤ x ∧ x ≤ n
  | 0 => ⟨(fun h => by cases h), (fun h => by omega)⟩
  | n + 1 => by
    have ih := hsL_mem (L := L) (x := x) (n := n)
    rw [hsL]
    split
    · rename_i h
      rw [List.mem_append, List.mem_singleton, ih]
      constructor
      · rintro (h1 | rfl)
        · exact ⟨h1.1, by omega⟩
        · exact ⟨h, by omega⟩
      · rintro ⟨h1, h2⟩
        by_cases e : x = (n : Int) + 1
        · exact .inr e
        · exact .inl ⟨h1, by omega⟩
    · rename_i h
      rw [ih]
      constructor
      · rintro ⟨h1, h2⟩; exact ⟨h1, by omega⟩
      · rintro ⟨h1, h2⟩
        have : x ≠ (n : Int) + 1 := fun e => h (e ▸ h1)
        exact ⟨h1, by omega⟩
theorem hsL_nd (L : List Fn) : ∀ n : Nat, (hsL L n).Nodup
  | 0 => List.nodup_nil
  | n + 1 => by
    rw [hsL]
    split
    · refine List.nodup_append.2 ⟨hsL_nd L n, by simp, fun x hx y hy e => ?_⟩
      have h1 := (hsL_mem.1 hx).2
      rw [List.mem_singleton] at hy; omega
    · exact hsL_nd L n
theorem hsL_le (L : List Fn) : ∀ n : Nat, (hsL L n).length ≤ n
  | 0 => Nat.le_refl _
  | n + 1 => by
    have := hsL_le L n
    rw [hsL]; split
    · rw [List.length_append, List.length_singleton]; omega
    · omega
theorem hsL_all {L : List Fn} {last : Int} (h : WI L last) {n : Nat} (hn : last = n) : (hsL L n).length = L.length := by
  have h1 := nodup_sub_len (hsL_nd L n) (m := L.map (·.id)) (fun x hx => by
    obtain ⟨⟨t, ht, e⟩, _⟩ := hsL_mem.1 hx
    exact List.mem_map.2 ⟨t, ht, e⟩)
  have h2 := nodup_sub_len h.nd (m := hsL L n) (fun x hx => by
    obtain ⟨t, ht, rfl⟩ := List.mem_map.1 hx
    have := h.rg t ht
    exact hsL_mem.2 ⟨⟨t, ht, rfl⟩, by omega⟩)
  rw [List.length_map] at h1 h2; omega
def cI (K : List Int) (k : Nat) (x : Int) : Int := if x ∈ K.take k then 1 else 0
theorem cI_yes {K : List Int} (h : K.Nodup) {k : Nat} {x : Int} (hx : K[k]? = some x) : cI K k x = 0 ∧ cI K (k + 1) x = 1 := by
  refine ⟨if_neg (nd_fresh h hx), if_pos ?_⟩
  rw [List.take_add_one, hx]; simp
theorem cI_no {K : List Int} {k : Nat} {x y : Int} (hx : K[k]? = some y) (hn : y ≠ x) : cI K (k + 1) x = cI K k x := by
  have : x ∈ K.take (k + 1) ↔ x ∈ K.take k := by
    rw [List.take_add_one, hx]; simp [hn, Ne.symm hn]
  rw [cI, cI]; simp only [this]
theorem cI_rg (K : List Int) (k : Nat) (x : Int) : 0 ≤ cI K k x ∧ cI K k x ≤ 1 := by rw [cI]; split <;> omega
theorem kidsR_nd {L : List Fn} {last : Int} (h : WI L last) (p : Int) : (kidsR L p).Nodup := by
  rw [kidsR]; split
  · exact kidsN_nd h.nd p
  · exact List.nodup_nil
theorem kidsR_len (L : List Fn) (p : Int) : (kidsR L p).length ≤ L.length := by
  rw [kidsR]; split
  · exact kidsN_len L p
  · simp
theorem rem_len (L : List Fn) (last id : Int) : (remN L last id).length ≤ L.length := by
  have h1 : (cutN L last id).length ≤ L.length := offL_len L _
  rw [remN]; split
  · exact Nat.le_trans (List.length_filter_le _ _) h1
  · exact h1

set_option maxHeartbeats 1000000 in
theorem owners_ok (ad : Option Addr) (l : List FAct) (cap : Nat) : FSpec Try.prog 7 [.slice ad l.length cap] (fun F => ∃ E, RdS F E ad (factsC l)) [] (fun _ : Unit => .bool true) (fun _ => True) (fun _ => []) := by
  refine FSpec.intro (rs := [.tmp 2]) (by kernel_rfl) Try.func7 rfl Try.ntmps7 (by rfl) rfl ?_
  intro F ⟨E, hF⟩
  change TC _ _ _ _ _ _ _ (sepL [_])
  haveI : RdSI F ad E (factsC l) := ⟨hF⟩
  refine TC.seq ?_
  refine TC.region ?_
  refine q rfl rfl (asg (v := .bool _) rfl) ?_
  refine TL.nil (nt ?_)
  refine TC.seq ?_
  refine TC.seq ?_
  refine TC.region ?_
  refine e rfl ?_
  refine cl alive_ok rfl (picked_nil _) trivial ?_
  intro _ _
  change TL _ _ _ _ _ _ _ _ (sepL [_])
  first | refine q rfl rfl (notD rfl) ?_ | refine q rfl rfl (notB rfl) ?_
  refine TL.nil (nt ?_)
  refine TC.condF rfl ?_
  refine TC.skip (nt ?_)
  refine TC.seq ?_
  refine TC.seq ?_
  refine TC.region ?_
  refine q rfl rfl (mv (v := .slice _ _ _) rfl) ?_
  refine q rfl rfl (len 46 4 rfl rfl) ?_
  refine q rfl rfl (gtr rfl rfl) ?_
  refine TL.nil (nt ?_)
  first | refine TC.condD rfl (fun hbig => ?_) (fun hbig => ?_) | refine TC.cond rfl (fun hbig => ?_) (fun hbig => ?_)
  · refine TC.seq ?_
    refine TC.region ?_
    refine q rfl rfl (asg (v := .bool _) rfl) ?_
    refine TL.nil (nt ?_)
    refine TC.ret (rt ?_)
    exact Ret.i () [_] ⟨rfl, trivial⟩ rfl trivial (ent_take 0 rfl (ent_nil _))
  · have hl100 : l.length ≤ 100 := by omega
    refine TC.skip (nt ?_)
    refine TC.seq ?_
    refine TC.region ?_
    refine e rfl ?_
    refine cl fnew_ok rfl (picked_nil _) trivial ?_
    intro a _
    change TL _ _ _ _ _ _ _ _ (sepL [_, _])
    refine q rfl rfl (asg (v := .pointer _) rfl) ?_
    refine TL.nil (nt ?_)
    refine TC.seq ?_
    refine TC.region ?_
    refine q rfl rfl (asg (v := .int _ _) rfl) ?_
    refine TL.nil (nt ?_)
    refine TC.seq ?_
    refine TC.seq ?_
    refine TC.region ?_
    refine q rfl rfl (asg (v := .int _ _) rfl) ?_
    refine TL.nil (nt ?_)
    refine TC.block ?_
    refine TC.loop (ι := Nat × List Fn × Int) (fun s => s.1 ≤ l.length ∧ PF s.2.1 s.2.2 ∧ 0 ≤ s.2.2 ∧ s.2.2 ≤ (s.1 : Int)) (fun s => [(0, .slice ad l.length cap), (3, .pointer (some ⟨a, 0, none⟩)), (4, .int .i64 s.2.2), (5, .int .i64 ((s.1 : Nat) : Int))]) (fun s => sepL [isF a s.2.1 s.2.2, F]) (fun s => l.length - s.1) ⟨0, [], 0⟩ ⟨Nat.zero_le _, PF.nil, Int.le_refl _, Int.le_refl _⟩ ⟨rfl, rfl, rfl, rfl, trivial⟩ (ent_take 0 rfl (ent_take 0 rfl (ent_nil _))) ?_
    rintro ⟨i, L, last⟩ ⟨hi, hP, hl0, hli⟩ ρ0
    dsimp only [updL] at hi hP hl0 hli ⊢
    have hwl := hP.wi.len
    refine TC.seq ?_
    refine TC.seq ?_
    refine TC.region ?_
    refine q rfl rfl (mv (v := .int _ _) rfl) ?_
    refine q rfl rfl (mv (v := .slice _ _ _) rfl) ?_
    refine q rfl rfl (len 46 4 rfl rfl) ?_
    refine q rfl rfl (lss rfl rfl) ?_
    refine TL.nil (nt ?_)
    first | refine TC.condD rfl (fun hlt => ?_) (fun hlt => ?_) | refine TC.cond rfl (fun hlt => ?_) (fun hlt => ?_)
    · have hlt2 : i < l.length := by omega
      obtain ⟨t, ht⟩ : ∃ t, l[i]? = some t := ⟨l[i], List.getElem?_eq_getElem hlt2⟩
      have hpos : 0 < (factsC l).length := by rw [factsC_length]; omega
      refine TC.skip (nt ?_)
      refine TC.seq ?_
      refine TC.block ?_
      refine TC.seq ?_
      refine TC.region ?_
      refine q rfl rfl (mv (v := .slice _ _ _) rfl) ?_
      refine q rfl rfl (mv (v := .int _ _) rfl) ?_
      first | refine q rfl rfl (ixS 46 4 rfl rfl rfl (by omega) (by first | assumption | (simp [ints_length] <;> omega))) ?_ | refine q rfl rfl (ixJ 46 4 rfl rfl rfl (by omega) (by omega) (by first | assumption | (simp [ints_length] <;> omega))) ?_ | refine q rfl rfl (ix 46 4 rfl rfl rfl (by omega) (by omega) rfl) ?_
      first | refine q rfl rfl (ldN (vs := [_, _, _, _]) 4 rfl rfl rfl rfl) ?_ | refine q rfl rfl (ldSN (vs := [_, _, _, _]) 4 rfl rfl (flat_get_rec factC_sz ht) rfl (by decide)) ?_ | refine q rfl rfl (ldSN (vs := [_, _, _, _]) 4 rfl rfl rfl rfl (by decide)) ?_
      refine e rfl ?_
      refine al (l := [.int _ _, .int _ _, .int _ _, .int _ _]) rfl rfl ?_
      intro b1
      refine e0 ?_
      refine st (v := .agg #[_, _, _, _]) (vs := [_, _, _, _]) 4 rfl rfl rfl rfl rfl rfl (Nat.le_of_ble_eq_true rfl) rfl ?_
      refine TL.nil (nt ?_)
      refine TC.seq ?_
      refine TC.region ?_
      first | refine q rfl rfl (fa 0 rfl rfl) ?_ | refine q rfl rfl (faS 0 rfl rfl (by first | assumption | (simp [ints_length] <;> omega))) ?_
      first | refine q rfl rfl (ld rfl rfl rfl) ?_ | refine q rfl rfl (ldS rfl rfl (flat_get_rec factC_sz ht)) ?_ | refine q rfl rfl (ldS rfl rfl rfl) ?_
      refine TL.nil (nt ?_)
      refine TC.block ?_
      refine TC.seq ?_
      refine TC.region ?_
      refine q rfl rfl (eqI rfl rfl) ?_
      refine q rfl rfl (asg (v := .bool _) rfl) ?_
      refine TL.nil (nt ?_)
      first | refine TC.condD rfl (fun k0 => ?_) (fun k0 => ?_) | refine TC.cond rfl (fun k0 => ?_) (fun k0 => ?_)
      · refine TC.seq ?_
        refine TC.region ?_
        refine q rfl rfl (mv (v := .pointer _) rfl) ?_
        first | refine q rfl rfl (fa 1 rfl rfl) ?_ | refine q rfl rfl (faS 1 rfl rfl (by first | assumption | (simp [ints_length] <;> omega))) ?_
        first | refine q rfl rfl (ld rfl rfl rfl) ?_ | refine q rfl rfl (ldS rfl rfl rfl) ?_
        first | refine q rfl rfl (fa 2 rfl rfl) ?_ | refine q rfl rfl (faS 2 rfl rfl (by first | assumption | (simp [ints_length] <;> omega))) ?_
        first | refine q rfl rfl (fa 0 rfl rfl) ?_ | refine q rfl rfl (faS 0 rfl rfl (by first | assumption | (simp [ints_length] <;> omega))) ?_
        first | refine q rfl rfl (ld rfl rfl rfl) ?_ | refine q rfl rfl (ldS rfl rfl rfl) ?_
        first | refine q rfl rfl (fa 2 rfl rfl) ?_ | refine q rfl rfl (faS 2 rfl rfl (by first | assumption | (simp [ints_length] <;> omega))) ?_
        first | refine q rfl rfl (fa 1 rfl rfl) ?_ | refine q rfl rfl (faS 1 rfl rfl (by first | assumption | (simp [ints_length] <;> omega))) ?_
        first | refine q rfl rfl (ld rfl rfl rfl) ?_ | refine q rfl rfl (ldS rfl rfl rfl) ?_
        refine e rfl ?_
        refine cl (fadd_ok a L last t.id t.sp t.sl (by omega)) rfl PkL.p trivial ?_
        intro _ _
        change TL _ _ _ _ _ _ _ _ (sepL [_, _, _])
        rcases hP.adds t.id (t.sp, t.sl) with ⟨er, he, _, ha⟩ | ⟨ha, hP2⟩
        · rw [ha]
          dsimp only
          refine q rfl rfl (mv (v := .tuple _) rfl) ?_
          refine q rfl rfl (pu (v := .int _ _) (fun _ => rfl)) ?_
          refine q rfl rfl (pu (v := .int _ _) (fun _ => rfl)) ?_
          refine q rfl rfl (asg (v := .int _ _) rfl) ?_
          refine q rfl rfl (asg (v := .int _ _) rfl) ?_
          refine TL.nil (nt ?_)
          refine TC.seq ?_
          refine TC.seq ?_
          refine TC.region ?_
          refine q rfl rfl (mv (v := .int _ _) rfl) ?_
          refine q rfl rfl (eqI rfl rfl) ?_
          refine q rfl rfl (mv (v := .bool _) rfl) ?_
          refine TL.known 56 rfl (c := false) (decide_eq_false he) ?_
          refine qs rfl rfl ?_
          refine qs rfl rfl ?_
          refine qs rfl rfl ?_
          refine qs rfl rfl ?_
          first | refine q rfl rfl (pkT rfl rfl) ?_ | refine q rfl rfl (pkF rfl rfl) ?_
          refine q rfl rfl (mv (v := .bool _) rfl) ?_
          refine TL.known 62 rfl (c := false) rfl ?_
          refine qg rfl rfl rfl (mv (v := .int _ _) rfl) ?_
          refine qg rfl rfl rfl (neI rfl rfl) ?_
          refine qg rfl rfl rfl (mv (v := .bool _) rfl) ?_
          refine TL.known 65 rfl (c := true) (decide_eq_true he) ?_
          refine qg rfl rfl rfl (mv (v := .int _ _) rfl) ?_
          refine qg rfl rfl rfl (neI rfl rfl) ?_
          first | refine qg rfl rfl rfl (pkT rfl rfl) ?_ | refine qg rfl rfl rfl (pkF rfl rfl) ?_
          first | refine q rfl rfl (pkT rfl rfl) ?_ | refine q rfl rfl (pkF rfl rfl) ?_
          refine TL.nil (nt ?_)
          refine TC.condD rfl (fun hc1 => absurd hc1 (by decide)) (fun hc1 => ?_)
          refine TC.skip (nt ?_)
          refine TC.seq ?_
          refine TC.region ?_
          refine q rfl rfl (mv (v := .int _ _) rfl) ?_
          refine q rfl rfl (eqI rfl rfl) ?_
          refine TL.nil (nt ?_)
          refine TC.condD rfl (fun hc2 => absurd hc2 (he)) (fun hc2 => ?_)
          refine TC.skip (nb (nb (nt ?_)))
          refine TC.region ?_
          refine q rfl rfl (mv (v := .int _ _) rfl) ?_
          first | refine q rfl rfl (addI rfl rfl (by omega) (by omega)) ?_ | refine q rfl rfl (add rfl rfl rfl) ?_
          refine q rfl rfl (asg (v := .int _ _) rfl) ?_
          refine TL.nil (nt ?_)
          exact ⟨rfl, ⟨i + 1, L, last⟩, ⟨by dsimp only; omega, hP, hl0, by dsimp only; omega⟩, (by dsimp only; omega), ⟨rfl, rfl, rfl, rfl, trivial⟩, (by repeat (first | exact ent_nil _ | refine ent_take 0 rfl ?_ | refine ent_take 1 rfl ?_ | refine ent_take 2 rfl ?_ | refine ent_take 3 rfl ?_ | refine ent_take 4 rfl ?_ | refine ent_take 5 rfl ?_ | refine ent_take 6 rfl ?_ | refine ent_take 7 rfl ?_ | refine ent_take 8 rfl ?_ | refine ent_take 9 rfl ?_ | refine ent_take 10 rfl ?_ | refine ent_take 11 rfl ?_ | refine ent_take 12 rfl ?_))⟩
        · rw [ha]
          dsimp only at hP2 ⊢
          refine q rfl rfl (mv (v := .tuple _) rfl) ?_
          refine q rfl rfl (pu (v := .int _ _) (fun _ => rfl)) ?_
          refine q rfl rfl (pu (v := .int _ _) (fun _ => rfl)) ?_
          refine q rfl rfl (asg (v := .int _ _) rfl) ?_
          refine q rfl rfl (asg (v := .int _ _) rfl) ?_
          refine TL.nil (nt ?_)
          refine TC.seq ?_
          refine TC.seq ?_
          refine TC.region ?_
          refine q rfl rfl (mv (v := .int _ _) rfl) ?_
          refine q rfl rfl (eqI rfl rfl) ?_
          refine q rfl rfl (mv (v := .bool _) rfl) ?_
          refine TL.known 56 rfl (c := true) (by decide) ?_
          refine qg rfl rfl rfl (mv (v := .int _ _) rfl) ?_
          refine qg rfl rfl rfl (mv (v := .int _ _) rfl) ?_
          first | refine qg rfl rfl rfl (addI rfl rfl (by omega) (by omega)) ?_ | refine qg rfl rfl rfl (add rfl rfl rfl) ?_
          refine qg rfl rfl rfl (neI rfl rfl) ?_
          first | refine q rfl rfl (pkT rfl rfl) ?_ | refine q rfl rfl (pkF rfl rfl) ?_
          refine q rfl rfl (mv (v := .bool _) rfl) ?_
          refine TL.known 62 rfl (c := false) (decide_eq_false (by omega)) ?_
          refine qg rfl rfl rfl (mv (v := .int _ _) rfl) ?_
          refine qg rfl rfl rfl (neI rfl rfl) ?_
          refine qg rfl rfl rfl (mv (v := .bool _) rfl) ?_
          refine TL.known 65 rfl (c := false) (by decide) ?_
          refine qs rfl rfl ?_
          refine qs rfl rfl ?_
          first | refine qg rfl rfl rfl (pkT rfl rfl) ?_ | refine qg rfl rfl rfl (pkF rfl rfl) ?_
          first | refine q rfl rfl (pkT rfl rfl) ?_ | refine q rfl rfl (pkF rfl rfl) ?_
          refine TL.nil (nt ?_)
          refine TC.condF rfl ?_
          refine TC.skip (nt ?_)
          refine TC.seq ?_
          refine TC.region ?_
          refine q rfl rfl (mv (v := .int _ _) rfl) ?_
          refine q rfl rfl (eqI rfl rfl) ?_
          refine TL.nil (nt ?_)
          refine TC.condD rfl (fun hc3 => ?_) (fun hc3 => absurd (rfl) hc3)
          refine TC.region ?_
          refine q rfl rfl (mv (v := .int _ _) rfl) ?_
          refine q rfl rfl (asg (v := .int _ _) rfl) ?_
          refine TL.nil (nb (nb (nt ?_)))
          refine TC.region ?_
          refine q rfl rfl (mv (v := .int _ _) rfl) ?_
          first | refine q rfl rfl (addI rfl rfl (by omega) (by omega)) ?_ | refine q rfl rfl (add rfl rfl rfl) ?_
          refine q rfl rfl (asg (v := .int _ _) rfl) ?_
          refine TL.nil (nt ?_)
          exact ⟨rfl, ⟨i + 1, L ++ [⟨last + 1, t.id, t.sp, t.sl⟩], last + 1⟩, ⟨by dsimp only; omega, hP2, by dsimp only; omega, by dsimp only; omega⟩, (by dsimp only; omega), ⟨rfl, rfl, rfl, rfl, trivial⟩, (by repeat (first | exact ent_nil _ | refine ent_take 0 rfl ?_ | refine ent_take 1 rfl ?_ | refine ent_take 2 rfl ?_ | refine ent_take 3 rfl ?_ | refine ent_take 4 rfl ?_ | refine ent_take 5 rfl ?_ | refine ent_take 6 rfl ?_ | refine ent_take 7 rfl ?_ | refine ent_take 8 rfl ?_ | refine ent_take 9 rfl ?_ | refine ent_take 10 rfl ?_ | refine ent_take 11 rfl ?_ | refine ent_take 12 rfl ?_))⟩
      · refine TC.seq ?_
        refine TC.region ?_
        refine q rfl rfl (eqI rfl rfl) ?_
        refine q rfl rfl (asg (v := .bool _) rfl) ?_
        refine TL.nil (nt ?_)
        first | refine TC.condD rfl (fun k1 => ?_) (fun k1 => ?_) | refine TC.cond rfl (fun k1 => ?_) (fun k1 => ?_)
        · refine TC.region ?_
          refine q rfl rfl (mv (v := .pointer _) rfl) ?_
          first | refine q rfl rfl (fa 1 rfl rfl) ?_ | refine q rfl rfl (faS 1 rfl rfl (by first | assumption | (simp [ints_length] <;> omega))) ?_
          first | refine q rfl rfl (ld rfl rfl rfl) ?_ | refine q rfl rfl (ldS rfl rfl rfl) ?_
          refine e rfl ?_
          refine cl (fcut_ok a L last t.id (by omega)) rfl PkL.p trivial ?_
          intro _ _
          change TL _ _ _ _ _ _ _ _ (sepL [_, _, _, _])
          refine TL.nil (nb (nb (nt ?_)))
          refine TC.region ?_
          refine q rfl rfl (mv (v := .int _ _) rfl) ?_
          first | refine q rfl rfl (addI rfl rfl (by omega) (by omega)) ?_ | refine q rfl rfl (add rfl rfl rfl) ?_
          refine q rfl rfl (asg (v := .int _ _) rfl) ?_
          refine TL.nil (nt ?_)
          exact ⟨rfl, ⟨i + 1, cutN L last t.id, last⟩, ⟨by dsimp only; omega, hP.cut _, hl0, by dsimp only; omega⟩, (by dsimp only; omega), ⟨rfl, rfl, rfl, rfl, trivial⟩, (by repeat (first | exact ent_nil _ | refine ent_take 0 rfl ?_ | refine ent_take 1 rfl ?_ | refine ent_take 2 rfl ?_ | refine ent_take 3 rfl ?_ | refine ent_take 4 rfl ?_ | refine ent_take 5 rfl ?_ | refine ent_take 6 rfl ?_ | refine ent_take 7 rfl ?_ | refine ent_take 8 rfl ?_ | refine ent_take 9 rfl ?_ | refine ent_take 10 rfl ?_ | refine ent_take 11 rfl ?_ | refine ent_take 12 rfl ?_))⟩
        · refine TC.seq ?_
          refine TC.region ?_
          refine q rfl rfl (eqI rfl rfl) ?_
          refine q rfl rfl (asg (v := .bool _) rfl) ?_
          refine TL.nil (nt ?_)
          first | refine TC.condD rfl (fun k2 => ?_) (fun k2 => ?_) | refine TC.cond rfl (fun k2 => ?_) (fun k2 => ?_)
          · refine TC.region ?_
            refine q rfl rfl (mv (v := .pointer _) rfl) ?_
            first | refine q rfl rfl (fa 1 rfl rfl) ?_ | refine q rfl rfl (faS 1 rfl rfl (by first | assumption | (simp [ints_length] <;> omega))) ?_
            first | refine q rfl rfl (ld rfl rfl rfl) ?_ | refine q rfl rfl (ldS rfl rfl rfl) ?_
            refine e rfl ?_
            refine cl (frem_ok a L last t.id (by omega)) rfl PkL.p trivial ?_
            intro _ _
            change TL _ _ _ _ _ _ _ _ (sepL [_, _, _, _])
            refine TL.nil (nb (nb (nt ?_)))
            refine TC.region ?_
            refine q rfl rfl (mv (v := .int _ _) rfl) ?_
            first | refine q rfl rfl (addI rfl rfl (by omega) (by omega)) ?_ | refine q rfl rfl (add rfl rfl rfl) ?_
            refine q rfl rfl (asg (v := .int _ _) rfl) ?_
            refine TL.nil (nt ?_)
            exact ⟨rfl, ⟨i + 1, remN L last t.id, last⟩, ⟨by dsimp only; omega, hP.rem _, hl0, by dsimp only; omega⟩, (by dsimp only; omega), ⟨rfl, rfl, rfl, rfl, trivial⟩, (by repeat (first | exact ent_nil _ | refine ent_take 0 rfl ?_ | refine ent_take 1 rfl ?_ | refine ent_take 2 rfl ?_ | refine ent_take 3 rfl ?_ | refine ent_take 4 rfl ?_ | refine ent_take 5 rfl ?_ | refine ent_take 6 rfl ?_ | refine ent_take 7 rfl ?_ | refine ent_take 8 rfl ?_ | refine ent_take 9 rfl ?_ | refine ent_take 10 rfl ?_ | refine ent_take 11 rfl ?_ | refine ent_take 12 rfl ?_))⟩
          · refine TC.seq ?_
            refine TC.region ?_
            refine q rfl rfl (eqI rfl rfl) ?_
            refine q rfl rfl (asg (v := .bool _) rfl) ?_
            refine TL.nil (nt ?_)
            first | refine TC.condD rfl (fun k3 => ?_) (fun k3 => ?_) | refine TC.cond rfl (fun k3 => ?_) (fun k3 => ?_)
            · refine TC.region ?_
              refine q rfl rfl (mv (v := .pointer _) rfl) ?_
              first | refine q rfl rfl (fa 1 rfl rfl) ?_ | refine q rfl rfl (faS 1 rfl rfl (by first | assumption | (simp [ints_length] <;> omega))) ?_
              first | refine q rfl rfl (ld rfl rfl rfl) ?_ | refine q rfl rfl (ldS rfl rfl rfl) ?_
              refine e rfl ?_
              refine cl (flift_ok a L last t.id (by omega)) rfl PkL.p trivial ?_
              intro _ _
              change TL _ _ _ _ _ _ _ _ (sepL [_, _, _])
              refine TL.nil (nb (nb (nt ?_)))
              refine TC.region ?_
              refine q rfl rfl (mv (v := .int _ _) rfl) ?_
              first | refine q rfl rfl (addI rfl rfl (by omega) (by omega)) ?_ | refine q rfl rfl (add rfl rfl rfl) ?_
              refine q rfl rfl (asg (v := .int _ _) rfl) ?_
              refine TL.nil (nt ?_)
              exact ⟨rfl, ⟨i + 1, liftN L t.id, last⟩, ⟨by dsimp only; omega, hP.lift _, hl0, by dsimp only; omega⟩, (by dsimp only; omega), ⟨rfl, rfl, rfl, rfl, trivial⟩, (by repeat (first | exact ent_nil _ | refine ent_take 0 rfl ?_ | refine ent_take 1 rfl ?_ | refine ent_take 2 rfl ?_ | refine ent_take 3 rfl ?_ | refine ent_take 4 rfl ?_ | refine ent_take 5 rfl ?_ | refine ent_take 6 rfl ?_ | refine ent_take 7 rfl ?_ | refine ent_take 8 rfl ?_ | refine ent_take 9 rfl ?_ | refine ent_take 10 rfl ?_ | refine ent_take 11 rfl ?_ | refine ent_take 12 rfl ?_))⟩
            · refine TC.skip (nb (nb (nt ?_)))
              refine TC.region ?_
              refine q rfl rfl (mv (v := .int _ _) rfl) ?_
              first | refine q rfl rfl (addI rfl rfl (by omega) (by omega)) ?_ | refine q rfl rfl (add rfl rfl rfl) ?_
              refine q rfl rfl (asg (v := .int _ _) rfl) ?_
              refine TL.nil (nt ?_)
              exact ⟨rfl, ⟨i + 1, L, last⟩, ⟨by dsimp only; omega, hP, hl0, by dsimp only; omega⟩, (by dsimp only; omega), ⟨rfl, rfl, rfl, rfl, trivial⟩, (by repeat (first | exact ent_nil _ | refine ent_take 0 rfl ?_ | refine ent_take 1 rfl ?_ | refine ent_take 2 rfl ?_ | refine ent_take 3 rfl ?_ | refine ent_take 4 rfl ?_ | refine ent_take 5 rfl ?_ | refine ent_take 6 rfl ?_ | refine ent_take 7 rfl ?_ | refine ent_take 8 rfl ?_ | refine ent_take 9 rfl ?_ | refine ent_take 10 rfl ?_ | refine ent_take 11 rfl ?_ | refine ent_take 12 rfl ?_))⟩
    · obtain ⟨m, rfl⟩ : ∃ m : Nat, last = m := ⟨last.toNat, by omega⟩
      have hW := hP.wi
      refine TC.exit (et (et (eb (nt ?_))))
      refine TC.seq ?_
      refine TC.region ?_
      refine q rfl rfl (asg (v := .int _ _) rfl) ?_
      refine TL.nil (nt ?_)
      refine TC.seq ?_
      refine TC.seq ?_
      refine TC.region ?_
      refine q rfl rfl (asg (v := .int _ _) rfl) ?_
      refine TL.nil (nt ?_)
      refine TC.block ?_
      refine TC.loop (ι := Nat) (fun n => n ≤ m) (fun n => [(3, .pointer (some ⟨a, 0, none⟩)), (4, .int .i64 (m : Int)), (9, .int .i64 ((hsL L n).length : Int)), (10, .int .i64 ((n : Int) + 1))]) (fun n => sepL [isF a L m, F]) (fun n => m - n) 0 (Nat.zero_le _) ⟨rfl, rfl, rfl, rfl, trivial⟩ (by repeat (first | exact ent_nil _ | refine ent_take 0 rfl ?_ | refine ent_take 1 rfl ?_ | refine ent_take 2 rfl ?_ | refine ent_take 3 rfl ?_ | refine ent_take 4 rfl ?_ | refine ent_take 5 rfl ?_ | refine ent_take 6 rfl ?_ | refine ent_take 7 rfl ?_ | refine ent_take 8 rfl ?_ | refine ent_take 9 rfl ?_ | refine ent_take 10 rfl ?_ | refine ent_take 11 rfl ?_ | refine ent_take 12 rfl ?_)) ?_
      rintro n hn ρ1
      dsimp only [updL] at hn ⊢
      have hhl := hsL_le L n
      refine TC.seq ?_
      refine TC.seq ?_
      refine TC.region ?_
      refine q rfl rfl (mv (v := .int _ _) rfl) ?_
      refine q rfl rfl (mv (v := .int _ _) rfl) ?_
      refine q rfl rfl (leq rfl rfl) ?_
      refine TL.nil (nt ?_)
      first | refine TC.condD rfl (fun hle => ?_) (fun hle => ?_) | refine TC.cond rfl (fun hle => ?_) (fun hle => ?_)
      · by_cases hh : hasN L ((n : Int) + 1)
        · obtain ⟨t, ht, htn⟩ := hh
          have hv : ownN L ((n : Int) + 1) = (t.sp, t.sl, true) := by rw [← htn, ownN, findN_yes hW.nd ht]
          have hq : parN L ((n : Int) + 1) = t.par := by rw [← htn, parN, findN_yes hW.nd ht]
          have hf : findO L (t.sp, t.sl) = (n : Int) + 1 := by rw [← htn]; exact findO_yes hW.no ht
          have hsn : hsL L (n + 1) = hsL L n ++ [(n : Int) + 1] := if_pos ⟨t, ht, htn⟩
          have hsl : ((hsL L (n + 1)).length : Int) = ((hsL L n).length : Int) + 1 := by rw [hsn, List.length_append, List.length_singleton]; rfl
          have hkd := kidsR_nd hW t.par
          have hkl := kidsR_len L t.par
          have hkm : t.par ≠ 0 → (n : Int) + 1 ∈ kidsR L t.par ∧ (ownN L t.par).2.2 = true := fun h0 => by
            have h1 := (hP.pr t ht).resolve_left h0
            refine ⟨?_, ?_⟩
            · rw [kidsR, if_pos h1]; exact kidsN_mem.2 ⟨h0, t, ht, rfl, htn⟩
            · obtain ⟨w, hw, e2⟩ := h1
              rw [← e2, ownN, findN_yes hW.nd hw]
          refine TC.skip (nt ?_)
          refine TC.seq ?_
          refine TC.block ?_
          refine TC.seq ?_
          refine TC.region ?_
          refine q rfl rfl (mv (v := .pointer _) rfl) ?_
          refine q rfl rfl (mv (v := .int _ _) rfl) ?_
          refine e rfl ?_
          refine cl (fowner_ok a L m ((n : Int) + 1)) rfl PkL.p trivial ?_
          intro _ _
          change TL _ _ _ _ _ _ _ _ (sepL [_, _])
          rw [hv]
          dsimp only
          refine q rfl rfl (mv (v := .tuple _) rfl) ?_
          refine q rfl rfl (pu (v := .int _ _) (fun _ => rfl)) ?_
          refine q rfl rfl (pu (v := .int _ _) (fun _ => rfl)) ?_
          refine q rfl rfl (pu (v := .bool _) (fun _ => rfl)) ?_
          refine q rfl rfl (asg (v := .int _ _) rfl) ?_
          refine q rfl rfl (asg (v := .int _ _) rfl) ?_
          refine q rfl rfl (asg (v := .bool _) rfl) ?_
          refine TL.nil (nt ?_)
          refine TC.seq ?_
          refine TC.region ?_
          refine q rfl rfl (mv (v := .pointer _) rfl) ?_
          refine q rfl rfl (mv (v := .int _ _) rfl) ?_
          refine e rfl ?_
          refine cl (fpar_ok a L m ((n : Int) + 1)) rfl PkL.p trivial ?_
          intro _ _
          change TL _ _ _ _ _ _ _ _ (sepL [_, _])
          rw [hq]
          refine q rfl rfl (asg (v := .int _ _) rfl) ?_
          refine q rfl rfl (asg (v := .int _ _) rfl) ?_
          refine TL.nil (nt ?_)
          refine TC.seq ?_
          refine TC.seq ?_
          refine TC.region ?_
          refine q rfl rfl (mv (v := .bool _) rfl) ?_
          first | refine q rfl rfl (notD rfl) ?_ | refine q rfl rfl (notB rfl) ?_
          refine TL.nil (nt ?_)
          refine TC.condF rfl ?_
          refine TC.skip (nt ?_)
          refine TC.seq ?_
          refine TC.region ?_
          refine q rfl rfl (mv (v := .int _ _) rfl) ?_
          first | refine q rfl rfl (addI rfl rfl (by omega) (by omega)) ?_ | refine q rfl rfl (add rfl rfl rfl) ?_
          refine q rfl rfl (asg (v := .int _ _) rfl) ?_
          refine TL.nil (nt ?_)
          refine TC.seq ?_
          refine TC.region ?_
          refine q rfl rfl (mv (v := .pointer _) rfl) ?_
          refine q rfl rfl (mv (v := .int _ _) rfl) ?_
          refine e rfl ?_
          refine cl (fkids_ok a L m t.par (by omega)) rfl PkL.p trivial ?_
          intro y1 _
          change TL _ _ _ _ _ _ _ _ (sepL [_, _, _])
          generalize hK : kidsR L t.par = K at hkd hkl hkm ⊢
          have hil := ints_length K
          refine q rfl rfl (asg (v := .slice _ _ _) rfl) ?_
          refine TL.nil (nt ?_)
          refine TC.seq ?_
          refine TC.seq ?_
          refine TC.region ?_
          refine q rfl rfl (asg (v := .int _ _) rfl) ?_
          refine TL.nil (nt ?_)
          refine TC.block ?_
          refine TC.loop (ι := Nat) (fun k => k ≤ K.length) (fun k => [(3, .pointer (some ⟨a, 0, none⟩)), (4, .int .i64 (m : Int)), (9, .int .i64 ((hsL L n).length + 1 : Int)), (10, .int .i64 ((n : Int) + 1)), (11, .int .i64 t.sp), (12, .int .i64 t.sl), (14, .int .i64 t.par), (15, .int .i64 (cI K k ((n : Int) + 1))), (16, .slice y1.1 K.length y1.2), (17, .int .i64 ((k : Nat) : Int))]) (fun k => sepL [slc 3 1 y1.1 K.length y1.2 (ints K), isF a L m, F]) (fun k => K.length - k) 0 (Nat.zero_le _) ⟨rfl, rfl, rfl, rfl, rfl, rfl, rfl, rfl, rfl, rfl, trivial⟩ (by repeat (first | exact ent_nil _ | refine ent_take 0 rfl ?_ | refine ent_take 1 rfl ?_ | refine ent_take 2 rfl ?_ | refine ent_take 3 rfl ?_ | refine ent_take 4 rfl ?_ | refine ent_take 5 rfl ?_ | refine ent_take 6 rfl ?_ | refine ent_take 7 rfl ?_ | refine ent_take 8 rfl ?_ | refine ent_take 9 rfl ?_ | refine ent_take 10 rfl ?_ | refine ent_take 11 rfl ?_ | refine ent_take 12 rfl ?_)) ?_
          rintro k hk ρ2
          dsimp only [updL] at hk ⊢
          refine TC.seq ?_
          refine TC.seq ?_
          refine TC.region ?_
          refine q rfl rfl (mv (v := .int _ _) rfl) ?_
          refine q rfl rfl (mv (v := .slice _ _ _) rfl) ?_
          refine q rfl rfl (len 3 1 rfl rfl) ?_
          refine q rfl rfl (lss rfl rfl) ?_
          refine TL.nil (nt ?_)
          first | refine TC.condD rfl (fun hkl2 => ?_) (fun hkl2 => ?_) | refine TC.cond rfl (fun hkl2 => ?_) (fun hkl2 => ?_)
          · have hlt3 : k < K.length := by omega
            obtain ⟨w, hw⟩ : ∃ w, K[k]? = some w := ⟨K[k], List.getElem?_eq_getElem hlt3⟩
            have hpos : 0 < (ints K).length := by omega
            have hcr := cI_rg K k ((n : Int) + 1)
            refine TC.skip (nt ?_)
            refine TC.seq ?_
            refine TC.block ?_
            refine TC.seq ?_
            refine TC.region ?_
            refine q rfl rfl (mv (v := .slice _ _ _) rfl) ?_
            refine q rfl rfl (mv (v := .int _ _) rfl) ?_
            first | refine q rfl rfl (ixS 3 1 rfl rfl rfl (by omega) (by first | assumption | (simp [ints_length] <;> omega))) ?_ | refine q rfl rfl (ixJ 3 1 rfl rfl rfl (by omega) (by omega) (by first | assumption | (simp [ints_length] <;> omega))) ?_ | refine q rfl rfl (ix 3 1 rfl rfl rfl (by omega) (by omega) rfl) ?_
            first | refine q rfl rfl (ld rfl rfl rfl) ?_ | refine q rfl rfl (ldS rfl rfl (ints_get hw)) ?_ | refine q rfl rfl (ldS rfl rfl rfl) ?_
            refine q rfl rfl (mv (v := .int _ _) rfl) ?_
            refine q rfl rfl (eqI rfl rfl) ?_
            refine TL.nil (nt ?_)
            first | refine TC.condD rfl (fun hwn => ?_) (fun hwn => ?_) | refine TC.cond rfl (fun hwn => ?_) (fun hwn => ?_)
            · rw [hwn] at hw
              obtain ⟨hc0, hc1⟩ := cI_yes hkd hw
              refine TC.region ?_
              refine q rfl rfl (mv (v := .int _ _) rfl) ?_
              first | refine q rfl rfl (addI rfl rfl (by omega) (by omega)) ?_ | refine q rfl rfl (add rfl rfl rfl) ?_
              refine q rfl rfl (asg (v := .int _ _) rfl) ?_
              refine TL.nil (nb (nt ?_))
              refine TC.region ?_
              refine q rfl rfl (mv (v := .int _ _) rfl) ?_
              first | refine q rfl rfl (addI rfl rfl (by omega) (by omega)) ?_ | refine q rfl rfl (add rfl rfl rfl) ?_
              refine q rfl rfl (asg (v := .int _ _) rfl) ?_
              refine TL.nil (nt ?_)
              exact ⟨rfl, (k + 1), (by omega), (by omega), ⟨rfl, rfl, rfl, rfl, rfl, rfl, rfl, congrArg (Value.int .i64) (by omega), rfl, rfl, trivial⟩, (by repeat (first | exact ent_nil _ | refine ent_take 0 rfl ?_ | refine ent_take 1 rfl ?_ | refine ent_take 2 rfl ?_ | refine ent_take 3 rfl ?_ | refine ent_take 4 rfl ?_ | refine ent_take 5 rfl ?_ | refine ent_take 6 rfl ?_ | refine ent_take 7 rfl ?_ | refine ent_take 8 rfl ?_ | refine ent_take 9 rfl ?_ | refine ent_take 10 rfl ?_ | refine ent_take 11 rfl ?_ | refine ent_take 12 rfl ?_))⟩
            · have hc0 := cI_no hw hwn
              refine TC.skip (nb (nt ?_))
              refine TC.region ?_
              refine q rfl rfl (mv (v := .int _ _) rfl) ?_
              first | refine q rfl rfl (addI rfl rfl (by omega) (by omega)) ?_ | refine q rfl rfl (add rfl rfl rfl) ?_
              refine q rfl rfl (asg (v := .int _ _) rfl) ?_
              refine TL.nil (nt ?_)
              exact ⟨rfl, (k + 1), (by omega), (by omega), ⟨rfl, rfl, rfl, rfl, rfl, rfl, rfl, congrArg (Value.int .i64) hc0.symm, rfl, rfl, trivial⟩, (by repeat (first | exact ent_nil _ | refine ent_take 0 rfl ?_ | refine ent_take 1 rfl ?_ | refine ent_take 2 rfl ?_ | refine ent_take 3 rfl ?_ | refine ent_take 4 rfl ?_ | refine ent_take 5 rfl ?_ | refine ent_take 6 rfl ?_ | refine ent_take 7 rfl ?_ | refine ent_take 8 rfl ?_ | refine ent_take 9 rfl ?_ | refine ent_take 10 rfl ?_ | refine ent_take 11 rfl ?_ | refine ent_take 12 rfl ?_))⟩
          · obtain rfl : k = K.length := by omega
            have hcf : (n : Int) + 1 ∈ K → cI K K.length ((n : Int) + 1) = 1 := fun h => by rw [cI, List.take_length, if_pos h]
            refine TC.exit (et (et (eb (nt ?_))))
            refine TC.seq ?_
            refine TC.region ?_
            refine q rfl rfl (mv (v := .pointer _) rfl) ?_
            refine q rfl rfl (mv (v := .int _ _) rfl) ?_
            refine e rfl ?_
            refine cl (fowner_ok a L m t.par) rfl PkL.p trivial ?_
            intro _ _
            change TL _ _ _ _ _ _ _ _ (sepL [_, _, _])
            refine q rfl rfl (mv (v := .tuple _) rfl) ?_
            refine q rfl rfl (pu (v := .int _ _) (fun _ => rfl)) ?_
            refine q rfl rfl (pu (v := .int _ _) (fun _ => rfl)) ?_
            refine q rfl rfl (pu (v := .bool _) (fun _ => rfl)) ?_
            refine q rfl rfl (asg (v := .int _ _) rfl) ?_
            refine q rfl rfl (asg (v := .int _ _) rfl) ?_
            refine q rfl rfl (asg (v := .bool _) rfl) ?_
            refine TL.nil (nt ?_)
            refine TC.seq ?_
            refine TC.region ?_
            refine q rfl rfl (mv (v := .pointer _) rfl) ?_
            refine q rfl rfl (mv (v := .int _ _) rfl) ?_
            refine q rfl rfl (mv (v := .int _ _) rfl) ?_
            refine e rfl ?_
            refine cl (ffind_ok a L m t.sp t.sl) rfl PkL.p trivial ?_
            intro _ _
            change TL _ _ _ _ _ _ _ _ (sepL [_, _, _])
            rw [hf]
            refine q rfl rfl (mv (v := .int _ _) rfl) ?_
            refine q rfl rfl (neI rfl rfl) ?_
            refine q rfl rfl (mv (v := .bool _) rfl) ?_
            refine TL.known 149 rfl (c := false) (decide_eq_false (by omega)) ?_
            refine qg rfl rfl rfl (mv (v := .int _ _) rfl) ?_
            refine qg rfl rfl rfl (neI rfl rfl) ?_
            refine qg rfl rfl rfl (mv (v := .bool _) rfl) ?_
            refine TL.split 152 rfl (fun hp0 => ?_) (fun hp0 => ?_)
            · have hp0 := of_decide_eq_true hp0
              obtain ⟨hk1, hk2⟩ := hkm hp0
              have hc1 := hcf hk1
              rw [hk2]
              refine qg rfl rfl rfl (mv (v := .int _ _) rfl) ?_
              refine qg rfl rfl rfl (neI rfl rfl) ?_
              refine qg rfl rfl rfl (mv (v := .bool _) rfl) ?_
              refine TL.known 155 rfl (c := false) (decide_eq_false (by omega)) ?_
              refine qg rfl rfl rfl (mv (v := .bool _) rfl) ?_
              first | refine qg rfl rfl rfl (notD rfl) ?_ | refine qg rfl rfl rfl (notB rfl) ?_
              first | refine qg rfl rfl rfl (pkT rfl rfl) ?_ | refine qg rfl rfl rfl (pkF rfl rfl) ?_
              first | refine qg rfl rfl rfl (pkT rfl rfl) ?_ | refine qg rfl rfl rfl (pkF rfl rfl) ?_
              first | refine q rfl rfl (pkT rfl rfl) ?_ | refine q rfl rfl (pkF rfl rfl) ?_
              refine TL.nil (nt ?_)
              refine TC.condF rfl ?_
              refine TC.skip (nb (nt ?_))
              refine TC.region ?_
              refine q rfl rfl (mv (v := .int _ _) rfl) ?_
              first | refine q rfl rfl (addI rfl rfl (by omega) (by omega)) ?_ | refine q rfl rfl (add rfl rfl rfl) ?_
              refine q rfl rfl (asg (v := .int _ _) rfl) ?_
              refine TL.nil (nt ?_)
              exact ⟨rfl, (n + 1), (by omega), (by omega), ⟨rfl, rfl, congrArg (Value.int .i64) hsl.symm, congrArg (Value.int .i64) (by omega), trivial⟩, (by repeat (first | exact ent_nil _ | refine ent_take 0 rfl ?_ | refine ent_take 1 rfl ?_ | refine ent_take 2 rfl ?_ | refine ent_take 3 rfl ?_ | refine ent_take 4 rfl ?_ | refine ent_take 5 rfl ?_ | refine ent_take 6 rfl ?_ | refine ent_take 7 rfl ?_ | refine ent_take 8 rfl ?_ | refine ent_take 9 rfl ?_ | refine ent_take 10 rfl ?_ | refine ent_take 11 rfl ?_ | refine ent_take 12 rfl ?_))⟩
            · have hp0 := of_decide_eq_false hp0
              refine qs rfl rfl ?_
              refine qs rfl rfl ?_
              refine qs rfl rfl ?_
              refine qsu rfl rfl ?_
              refine qsu rfl rfl ?_
              refine qs rfl rfl ?_
              first | refine qg rfl rfl rfl (pkT rfl rfl) ?_ | refine qg rfl rfl rfl (pkF rfl rfl) ?_
              first | refine q rfl rfl (pkT rfl rfl) ?_ | refine q rfl rfl (pkF rfl rfl) ?_
              refine TL.nil (nt ?_)
              refine TC.condF rfl ?_
              refine TC.skip (nb (nt ?_))
              refine TC.region ?_
              refine q rfl rfl (mv (v := .int _ _) rfl) ?_
              first | refine q rfl rfl (addI rfl rfl (by omega) (by omega)) ?_ | refine q rfl rfl (add rfl rfl rfl) ?_
              refine q rfl rfl (asg (v := .int _ _) rfl) ?_
              refine TL.nil (nt ?_)
              exact ⟨rfl, (n + 1), (by omega), (by omega), ⟨rfl, rfl, congrArg (Value.int .i64) hsl.symm, congrArg (Value.int .i64) (by omega), trivial⟩, (by repeat (first | exact ent_nil _ | refine ent_take 0 rfl ?_ | refine ent_take 1 rfl ?_ | refine ent_take 2 rfl ?_ | refine ent_take 3 rfl ?_ | refine ent_take 4 rfl ?_ | refine ent_take 5 rfl ?_ | refine ent_take 6 rfl ?_ | refine ent_take 7 rfl ?_ | refine ent_take 8 rfl ?_ | refine ent_take 9 rfl ?_ | refine ent_take 10 rfl ?_ | refine ent_take 11 rfl ?_ | refine ent_take 12 rfl ?_))⟩
        · have hv : ownN L ((n : Int) + 1) = (0, 0, false) := by rw [ownN, findN_no hh]
          have hq : parN L ((n : Int) + 1) = 0 := by rw [parN, findN_no hh]
          have hkr : kidsR L ((n : Int) + 1) = [] := if_neg hh
          have hsn : hsL L (n + 1) = hsL L n := if_neg hh
          refine TC.skip (nt ?_)
          refine TC.seq ?_
          refine TC.block ?_
          refine TC.seq ?_
          refine TC.region ?_
          refine q rfl rfl (mv (v := .pointer _) rfl) ?_
          refine q rfl rfl (mv (v := .int _ _) rfl) ?_
          refine e rfl ?_
          refine cl (fowner_ok a L m ((n : Int) + 1)) rfl PkL.p trivial ?_
          intro _ _
          change TL _ _ _ _ _ _ _ _ (sepL [_, _])
          rw [hv]
          dsimp only
          refine q rfl rfl (mv (v := .tuple _) rfl) ?_
          refine q rfl rfl (pu (v := .int _ _) (fun _ => rfl)) ?_
          refine q rfl rfl (pu (v := .int _ _) (fun _ => rfl)) ?_
          refine q rfl rfl (pu (v := .bool _) (fun _ => rfl)) ?_
          refine q rfl rfl (asg (v := .int _ _) rfl) ?_
          refine q rfl rfl (asg (v := .int _ _) rfl) ?_
          refine q rfl rfl (asg (v := .bool _) rfl) ?_
          refine TL.nil (nt ?_)
          refine TC.seq ?_
          refine TC.region ?_
          refine q rfl rfl (mv (v := .pointer _) rfl) ?_
          refine q rfl rfl (mv (v := .int _ _) rfl) ?_
          refine e rfl ?_
          refine cl (fpar_ok a L m ((n : Int) + 1)) rfl PkL.p trivial ?_
          intro _ _
          change TL _ _ _ _ _ _ _ _ (sepL [_, _])
          rw [hq]
          refine q rfl rfl (asg (v := .int _ _) rfl) ?_
          refine q rfl rfl (asg (v := .int _ _) rfl) ?_
          refine TL.nil (nt ?_)
          refine TC.seq ?_
          refine TC.seq ?_
          refine TC.region ?_
          refine q rfl rfl (mv (v := .bool _) rfl) ?_
          first | refine q rfl rfl (notD rfl) ?_ | refine q rfl rfl (notB rfl) ?_
          refine TL.nil (nt ?_)
          refine TC.condT rfl ?_
          refine TC.seq ?_
          refine TC.seq ?_
          refine TC.region ?_
          refine q rfl rfl (mv (v := .int _ _) rfl) ?_
          refine q rfl rfl (neI rfl rfl) ?_
          refine q rfl rfl (mv (v := .bool _) rfl) ?_
          refine TL.known 110 rfl (c := false) rfl ?_
          refine qg rfl rfl rfl (mv (v := .pointer _) rfl) ?_
          refine qg rfl rfl rfl (mv (v := .int _ _) rfl) ?_
          refine eg rfl rfl ?_
          refine cl (fkids_ok a L m ((n : Int) + 1) (by omega)) rfl PkL.p trivial ?_
          intro y1 _
          change TL _ _ _ _ _ _ _ _ (sepL [_, _, _])
          rw [hkr]
          refine qg rfl rfl rfl (len 3 1 rfl rfl) ?_
          refine qg rfl rfl rfl (neI rfl rfl) ?_
          first | refine q rfl rfl (pkT rfl rfl) ?_ | refine q rfl rfl (pkF rfl rfl) ?_
          refine TL.nil (nt ?_)
          refine TC.condD rfl (fun hc4 => absurd hc4 (by simp)) (fun hc4 => ?_)
          refine TC.skip (nt ?_)
          refine TC.exit (et (eb (nt ?_)))
          refine TC.region ?_
          refine q rfl rfl (mv (v := .int _ _) rfl) ?_
          first | refine q rfl rfl (addI rfl rfl (by omega) (by omega)) ?_ | refine q rfl rfl (add rfl rfl rfl) ?_
          refine q rfl rfl (asg (v := .int _ _) rfl) ?_
          refine TL.nil (nt ?_)
          exact ⟨rfl, (n + 1), (by omega), (by omega), ⟨rfl, rfl, congrArg (fun z : List Int => Value.int .i64 z.length) hsn.symm, congrArg (Value.int .i64) (by omega), trivial⟩, (by repeat (first | exact ent_nil _ | refine ent_take 0 rfl ?_ | refine ent_take 1 rfl ?_ | refine ent_take 2 rfl ?_ | refine ent_take 3 rfl ?_ | refine ent_take 4 rfl ?_ | refine ent_take 5 rfl ?_ | refine ent_take 6 rfl ?_ | refine ent_take 7 rfl ?_ | refine ent_take 8 rfl ?_ | refine ent_take 9 rfl ?_ | refine ent_take 10 rfl ?_ | refine ent_take 11 rfl ?_ | refine ent_take 12 rfl ?_))⟩
      · obtain rfl : n = m := by omega
        rw [hsL_all hW rfl]
        refine TC.exit (et (et (eb (nt ?_))))
        refine TC.seq ?_
        refine TC.region ?_
        refine q rfl rfl (mv (v := .pointer _) rfl) ?_
        refine e rfl ?_
        refine cl (flen_ok a L n) rfl PkL.p trivial ?_
        intro _ _
        change TL _ _ _ _ _ _ _ _ (sepL [_, _])
        refine q rfl rfl (mv (v := .int _ _) rfl) ?_
        refine q rfl rfl (eqI rfl rfl) ?_
        refine q rfl rfl (asg (v := .bool _) rfl) ?_
        refine TL.nil (nt ?_)
        refine TC.ret ?_
        have hfin : decide ((L.length : Int) = (L.length : Int)) = true := decide_eq_true rfl
        exact Ret.i () [_] ⟨rfl, trivial⟩ (by rw [hfin]; rfl) trivial (ent_take 1 rfl (ent_nil _))

end Go.Proofs.Ytffoeolgjgpmjaa
