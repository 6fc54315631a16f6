/-
  Proved here: what functions of this program compute, each as a contract over symbolic states, under the premises that each theorem names (most lines printed by a program of the prover).
-/
import Derived.Test.YtdikkmgcjhllaaaAlD
namespace Go.Proofs.Ytdikkmgcjhllaaa
open Go Go.QM
theorem set_new {Q : List En} {now tn id ticks : Int} (h : ¬ hasA Q id) (h0 : 0 ≤ id) (h1 : 1 ≤ ticks) (h2 : ticks ≤ 1048576) : setA Q now tn id ticks = (Q ++ [⟨now + ticks, tn + 1, id⟩], tn + 1, 0) := by
  rw [setA, if_neg (by omega), if_neg h]
theorem set_dup {Q : List En} {now tn id ticks : Int} (h : hasA Q id) (h0 : 0 ≤ id) (h1 : 1 ≤ ticks) (h2 : ticks ≤ 1048576) : setA Q now tn id ticks = (Q, tn, 7) := by
  rw [setA, if_neg (by omega), if_pos h]
theorem has_nil (id : Int) : ¬ hasA [] id := by simp [hasA]
theorem has_one (e : En) : hasA [e] e.id := ⟨e, by simp, rfl⟩
theorem due_no {Q : List En} {t : Int} (h : ∀ e ∈ Q, t < e.at_) : dueA t Q = [] ∧ restA t Q = Q :=
  ⟨List.filter_eq_nil_iff.2 fun a ha => by have := h a ha; simp; omega, List.filter_eq_self.2 fun a ha => by have := h a ha; simp; omega⟩
theorem due_all {Q : List En} {t : Int} (h : ∀ e ∈ Q, e.at_ ≤ t) : dueA t Q = Q ∧ restA t Q = [] :=
  ⟨List.filter_eq_self.2 fun a ha => by have := h a ha; simp; omega, List.filter_eq_nil_iff.2 fun a ha => by have := h a ha; simp; omega⟩
theorem clr_one (Q : List En) (x : Int) : clrA Q [x] = offA Q x := rfl
theorem off_not (Q : List En) (x : Int) : ¬ hasA (offA Q x) x := by
  rintro ⟨e, he, h⟩
  have := (List.mem_filter.1 he).2
  simp at this; exact this h
theorem off_one (e : En) : offA [e] e.id = [] := by simp [offA]
/-- What holds of alarms behind N acts. -/
structure QI (Q : List En) (now tn : Int) (N : Nat) : Prop where
  nw : 0 ≤ now ∧ now ≤ N
  tu : 0 ≤ tn ∧ tn ≤ N
  len : Q.length ≤ N
  rg : ∀ e ∈ Q, now < e.at_ ∧ e.at_ ≤ now + 1048576
theorem QI.start : QI [] 0 0 0 := ⟨by omega, by omega, Nat.le_refl _, fun e h => by cases h⟩
theorem QI.bd {Q : List En} {now tn : Int} {N : Nat} (h : QI Q now tn N) (hN : N ≤ 100000) : (0 ≤ now ∧ now ≤ 1000000000000) ∧ (0 ≤ tn ∧ tn ≤ 1000000000000) ∧ Q.length ≤ 500000 := by
  have h1 := h.nw; have h2 := h.tu; have h3 := h.len; omega
theorem QI.at1 {Q : List En} {now tn : Int} {N : Nat} (h : QI Q now tn N) (hN : N ≤ 100000) : ∀ e ∈ Q, 0 ≤ e.at_ ∧ e.at_ ≤ 2000000000000 := fun e he => by
  have h1 := h.nw; have h2 := h.rg e he; omega
theorem QI.at2 {Q : List En} {now tn : Int} {N : Nat} (h : QI Q now tn N) (hN : N ≤ 100000) : ∀ e ∈ Q, now < e.at_ ∧ e.at_ ≤ 2000000000000 := fun e he => by
  have h1 := h.nw; have h2 := h.rg e he; omega
theorem QI.next {Q : List En} {now tn : Int} {N M : Nat} (h : QI Q now tn N) (hM : N ≤ M) : QI Q now tn M := by
  have h1 := h.nw; have h2 := h.tu; have h3 := h.len
  exact ⟨by omega, by omega, by omega, h.rg⟩
theorem QI.set {Q : List En} {now tn : Int} {N : Nat} (h : QI Q now tn N) (id ticks : Int) : QI (setA Q now tn id ticks).1 now (setA Q now tn id ticks).2.1 (N + 1) := by
  rw [setA]
  split
  · exact h.next (by omega)
  · split
    · exact h.next (by omega)
    · have h1 := h.nw; have h2 := h.tu; have h3 := h.len
      refine ⟨by omega, by dsimp only; omega, by rw [List.length_append]; simp; omega, fun e he => ?_⟩
      rcases List.mem_append.1 he with he | he
      · exact h.rg e he
      · obtain rfl := List.mem_singleton.1 he
        dsimp only; omega
theorem QI.clr {Q : List En} {now tn : Int} {N : Nat} (h : QI Q now tn N) (xs : List Int) : QI (clrA Q xs) now tn N :=
  ⟨h.nw, h.tu, Nat.le_trans (clrA_sub Q xs).length_le h.len, fun e he => h.rg e ((clrA_sub Q xs).subset he)⟩
theorem QI.tick {Q : List En} {now tn : Int} {N : Nat} (h : QI Q now tn N) : QI (restA (now + 1) Q) (now + 1) tn (N + 1) := by
  have h1 := h.nw; have h2 := h.tu; have h3 := h.len
  refine ⟨by omega, by omega, ?_, fun e he => ?_⟩
  · have : (restA (now + 1) Q).length ≤ Q.length := List.length_filter_le _ _
    omega
  · obtain ⟨he1, he2⟩ := List.mem_filter.1 he
    have := h.rg e he1
    simp at he2; omega
theorem due_le (t : Int) (Q : List En) : (ids (dueA t Q)).length ≤ Q.length := by rw [ids, List.length_map]; exact List.length_filter_le _ _

set_option maxHeartbeats 1000000 in
theorem again_ok (k t g : Int) (hk : 0 ≤ k ∧ k ≤ 65535) (ht : 0 ≤ t ∧ t ≤ 255) (hg : 0 ≤ g ∧ g ≤ 255) : FSpec Try.prog 5 [.int .u16 k, .int .u8 t, .int .u8 g] noRd [] (fun _ : Unit => .bool true) (fun _ => True) (fun _ => []) := by
  refine FSpec.intro (rs := [.tmp 6]) (by kernel_rfl) Try.func5 rfl Try.ntmps5 (by rfl) rfl ?_
  intro F _
  change TC _ _ _ _ _ _ _ (sepL [_])
  refine TC.seq ?_
  refine TC.region ?_
  refine q rfl rfl (asg (v := .bool _) rfl) ?_
  refine TL.nil (nt ?_)
  refine TC.seq ?_
  refine TC.seq ?_
  refine TC.region ?_
  refine e rfl ?_
  refine cl alive_ok rfl (picked_nil _) trivial ?_
  intro _ _
  change TL _ _ _ _ _ _ _ _ (sepL [_])
  first | refine q rfl rfl (notD rfl) ?_ | refine q rfl rfl (notB rfl) ?_
  refine TL.nil (nt ?_)
  refine TC.condF rfl ?_
  refine TC.skip (nt ?_)
  refine TC.seq ?_
  refine TC.region ?_
  refine e rfl ?_
  refine cl new_ok rfl (picked_nil _) trivial ?_
  intro a _
  change TL _ _ _ _ _ _ _ _ (sepL [_, _])
  refine q rfl rfl (asg (v := .pointer _) rfl) ?_
  refine TL.nil (nt ?_)
  refine TC.seq ?_
  refine TC.region ?_
  refine q rfl rfl (mv (v := .int _ _) rfl) ?_
  first | refine q rfl rfl (conv .u16 .i64 rfl rfl rfl (wi64 (by omega) (by omega))) ?_ | refine q rfl rfl (conv .u16 .i64 rfl rfl rfl rfl) ?_
  refine q rfl rfl (asg (v := .int _ _) rfl) ?_
  refine TL.nil (nt ?_)
  refine TC.seq ?_
  refine TC.seq ?_
  refine TC.region ?_
  refine q rfl rfl (mv (v := .pointer _) rfl) ?_
  refine q rfl rfl (mv (v := .int _ _) rfl) ?_
  refine q rfl rfl (mv (v := .int _ _) rfl) ?_
  first | refine q rfl rfl (conv .u8 .i64 rfl rfl rfl (wi64 (by omega) (by omega))) ?_ | refine q rfl rfl (conv .u8 .i64 rfl rfl rfl rfl) ?_
  first | refine q rfl rfl (addI rfl rfl (by omega) (by omega)) ?_ | refine q rfl rfl (add rfl rfl rfl) ?_
  refine e rfl ?_
  refine cl (set_ok a 0 0 [] (by decide) k (1 + t)) rfl (picked_cons 0 rfl (picked_nil _)) trivial ?_
  intro _ _
  change TL _ _ _ _ _ _ _ _ (sepL [_, _])
  rw [set_new (has_nil k) hk.1 (by omega) (by omega)]
  dsimp only
  rw [List.nil_append, Int.zero_add, Int.zero_add]
  obtain ⟨T, hT⟩ : ∃ T, 1 + t = T := ⟨_, rfl⟩
  rw [hT]
  refine q rfl rfl (neI rfl rfl) ?_
  refine q rfl rfl (mv (v := .bool _) rfl) ?_
  refine TL.known 23 rfl (c := false) (by decide) ?_
  refine qg rfl rfl rfl (mv (v := .pointer _) rfl) ?_
  refine qg rfl rfl rfl (mv (v := .int _ _) rfl) ?_
  refine qg rfl rfl rfl (mv (v := .int _ _) rfl) ?_
  first | refine qg rfl rfl rfl (conv .u8 .i64 rfl rfl rfl (wi64 (by omega) (by omega))) ?_ | refine qg rfl rfl rfl (conv .u8 .i64 rfl rfl rfl rfl) ?_
  first | refine qg rfl rfl rfl (addI rfl rfl (by omega) (by omega)) ?_ | refine qg rfl rfl rfl (add rfl rfl rfl) ?_
  refine eg rfl rfl ?_
  refine cl (set_ok a 0 1 [⟨T, 1, k⟩] (by simp) k (1 + g)) rfl (picked_cons 0 rfl (picked_nil _)) trivial ?_
  intro _ _
  change TL _ _ _ _ _ _ _ _ (sepL [_, _])
  rw [set_dup (has_one _) hk.1 (by omega) (by omega)]
  dsimp only
  refine qg rfl rfl rfl (neI rfl rfl) ?_
  first | refine q rfl rfl (pkT rfl rfl) ?_ | refine q rfl rfl (pkF rfl rfl) ?_
  refine TL.nil (nt ?_)
  refine TC.condD rfl (fun hc1 => absurd hc1 (by decide)) (fun hc1 => ?_)
  refine TC.skip (nt ?_)
  refine TC.seq ?_
  refine TC.seq ?_
  refine TC.region ?_
  refine q rfl rfl (asg (v := .int _ _) rfl) ?_
  refine TL.nil (nt ?_)
  refine TC.block ?_
  refine TC.loop (ι := Nat) (fun i => (i : Int) ≤ t) (fun i => [(1, .int .u8 t), (2, .int .u8 g), (7, .pointer (some ⟨a, 0, none⟩)), (8, .int .i64 k), (9, .int .i64 (i : Int))]) (fun i => sepL [isAl a (i : Int) 1 [⟨T, 1, k⟩], F]) (fun i => t.toNat - i) 0 ht.1 ⟨rfl, rfl, rfl, rfl, rfl, trivial⟩ (ent_take 0 rfl (ent_take 0 rfl (ent_nil _))) ?_
  rintro i hi ρ0
  dsimp only [updL] at hi ⊢
  refine TC.seq ?_
  refine TC.seq ?_
  refine TC.region ?_
  refine q rfl rfl (mv (v := .int _ _) rfl) ?_
  refine q rfl rfl (mv (v := .int _ _) rfl) ?_
  first | refine q rfl rfl (conv .u8 .i64 rfl rfl rfl (wi64 (by omega) (by omega))) ?_ | refine q rfl rfl (conv .u8 .i64 rfl rfl rfl rfl) ?_
  refine q rfl rfl (lss rfl rfl) ?_
  refine TL.nil (nt ?_)
  first | refine TC.condD rfl (fun hlt => ?_) (fun hlt => ?_) | refine TC.cond rfl (fun hlt => ?_) (fun hlt => ?_)
  · have hlt2 : (i : Int) < t := hlt
    obtain ⟨d1, d2⟩ := due_no (Q := [⟨T, 1, k⟩]) (t := (i : Int) + 1) (fun e he => by obtain rfl := List.mem_singleton.1 he; dsimp only; omega)
    refine TC.skip (nt ?_)
    refine TC.seq ?_
    refine TC.block ?_
    refine TC.seq ?_
    refine TC.region ?_
    refine q rfl rfl (mv (v := .pointer _) rfl) ?_
    refine e rfl ?_
    refine cl (tick_ok a (i : Int) 1 [⟨T, 1, k⟩] (by simp; omega) (fun e he => by obtain rfl := List.mem_singleton.1 he; dsimp only; omega)) rfl (picked_cons 0 rfl (picked_nil _)) trivial ?_
    intro y _
    change TL _ _ _ _ _ _ _ _ (sepL [_, _, _])
    rw [d1, d2]
    refine q rfl rfl (len 3 1 rfl rfl) ?_
    refine q rfl rfl (neI rfl rfl) ?_
    refine q rfl rfl (mv (v := .bool _) rfl) ?_
    refine TL.known 42 rfl (c := false) (by decide) ?_
    refine qg rfl rfl rfl (mv (v := .pointer _) rfl) ?_
    refine qg rfl rfl rfl (mv (v := .int _ _) rfl) ?_
    refine eg rfl rfl ?_
    refine cl (set_ok a ((i : Int) + 1) 1 [⟨T, 1, k⟩] (by simp; omega) k 1) rfl PkL.p trivial ?_
    intro _ _
    change TL _ _ _ _ _ _ _ _ (sepL [_, _, _])
    rw [set_dup (has_one _) hk.1 (by omega) (by omega)]
    dsimp only
    refine qg rfl rfl rfl (neI rfl rfl) ?_
    first | refine q rfl rfl (pkT rfl rfl) ?_ | refine q rfl rfl (pkF rfl rfl) ?_
    refine TL.nil (nt ?_)
    refine TC.condD rfl (fun hc2 => absurd hc2 (by decide)) (fun hc2 => ?_)
    refine TC.skip (nb (nt ?_))
    refine TC.region ?_
    refine q rfl rfl (mv (v := .int _ _) rfl) ?_
    first | refine q rfl rfl (addI rfl rfl (by omega) (by omega)) ?_ | refine q rfl rfl (add rfl rfl rfl) ?_
    refine q rfl rfl (asg (v := .int _ _) rfl) ?_
    refine TL.nil (nt ?_)
    exact ⟨rfl, (i + 1), (by omega), (by omega), ⟨rfl, rfl, rfl, rfl, rfl, trivial⟩, (ent_takeE 0 rfl (by simp) (ent_take 1 rfl (ent_nil _)))⟩
  · obtain rfl : t = (i : Int) := by omega
    obtain ⟨d1, d2⟩ := due_all (Q := [⟨T, 1, k⟩]) (t := (i : Int) + 1) (fun e he => by obtain rfl := List.mem_singleton.1 he; dsimp only; omega)
    refine TC.exit (et (et (eb (nt ?_))))
    refine TC.seq ?_
    refine TC.region ?_
    refine q rfl rfl (mv (v := .pointer _) rfl) ?_
    refine e rfl ?_
    refine cl (tick_ok a (i : Int) 1 [⟨T, 1, k⟩] (by simp; omega) (fun e he => by obtain rfl := List.mem_singleton.1 he; dsimp only; omega)) rfl (picked_cons 0 rfl (picked_nil _)) trivial ?_
    intro y _
    change TL _ _ _ _ _ _ _ _ (sepL [_, _, _])
    rw [d1, d2, show ids [⟨T, 1, k⟩] = [k] from rfl, show ([k] : List Int).length = 1 from rfl]
    have hpos : 0 < (ints [k]).length := Nat.one_pos
    refine q rfl rfl (asg (v := .slice _ _ _) rfl) ?_
    refine TL.nil (nt ?_)
    refine TC.seq ?_
    refine TC.region ?_
    refine q rfl rfl (mv (v := .slice _ _ _) rfl) ?_
    refine q rfl rfl (len 3 1 rfl rfl) ?_
    refine q rfl rfl (eqI rfl rfl) ?_
    refine q rfl rfl (mv (v := .bool _) rfl) ?_
    refine TL.known 53 rfl (c := true) (by simp) ?_
    refine qg rfl rfl rfl (mv (v := .slice _ _ _) rfl) ?_
    first | refine qg rfl rfl rfl (ixS 3 1 rfl rfl rfl (by omega) (by first | assumption | (simp [ints_length] <;> omega))) ?_ | refine qg rfl rfl rfl (ixJ 3 1 rfl rfl rfl (by omega) (by omega) (by first | assumption | (simp [ints_length] <;> omega))) ?_ | refine qg rfl rfl rfl (ix 3 1 rfl rfl rfl (by omega) (by omega) rfl) ?_
    first | refine qg rfl rfl rfl (ld rfl rfl rfl) ?_ | refine qg rfl rfl rfl (ldS rfl rfl (show (ints [k])[0]? = some (.int .i64 k) from rfl)) ?_ | refine qg rfl rfl rfl (ldS rfl rfl rfl) ?_
    refine qg rfl rfl rfl (mv (v := .int _ _) rfl) ?_
    refine qg rfl rfl rfl (eqI rfl rfl) ?_
    first | refine q rfl rfl (pkT rfl rfl) ?_ | refine q rfl rfl (pkF rfl rfl) ?_
    refine q rfl rfl (mv (v := .bool _) rfl) ?_
    refine TL.known 60 rfl (c := true) (by simp) ?_
    refine qg rfl rfl rfl (mv (v := .pointer _) rfl) ?_
    refine qg rfl rfl rfl (mv (v := .int _ _) rfl) ?_
    refine qg rfl rfl rfl (mv (v := .int _ _) rfl) ?_
    first | refine qg rfl rfl rfl (conv .u8 .i64 rfl rfl rfl (wi64 (by omega) (by omega))) ?_ | refine qg rfl rfl rfl (conv .u8 .i64 rfl rfl rfl rfl) ?_
    first | refine qg rfl rfl rfl (addI rfl rfl (by omega) (by omega)) ?_ | refine qg rfl rfl rfl (add rfl rfl rfl) ?_
    refine eg rfl rfl ?_
    refine cl (set_ok a ((i : Int) + 1) 1 [] (by simp; omega) k (1 + g)) rfl PkL.p trivial ?_
    intro _ _
    change TL _ _ _ _ _ _ _ _ (sepL [_, _, _])
    rw [set_new (has_nil k) hk.1 (by omega) (by omega)]
    dsimp only
    rw [List.nil_append, show (1 : Int) + 1 = 2 from rfl]
    refine qg rfl rfl rfl (eqI rfl rfl) ?_
    first | refine q rfl rfl (pkT rfl rfl) ?_ | refine q rfl rfl (pkF rfl rfl) ?_
    refine q rfl rfl (mv (v := .bool _) rfl) ?_
    refine TL.known 69 rfl (c := true) (by first | decide | simp) ?_
    refine qg rfl rfl rfl (mv (v := .pointer _) rfl) ?_
    refine qg rfl rfl rfl (mv (v := .int _ _) rfl) ?_
    refine eg rfl rfl ?_
    refine bs (cs := [.int _ _]) rfl ?_
    intro b1
    refine eg rfl rfl ?_
    refine cl (clear_ok a ((i : Int) + 1) 2 [⟨((i : Int) + 1) + (1 + g), 2, k⟩] (by simp; omega) _ _ [k] (by simp)) rfl PkL.p ⟨_, RdSI.rd⟩ ?_
    intro _ _
    change TL _ _ _ _ _ _ _ _ (sepL [_, _, _, _])
    rw [clr_one, show offA [⟨((i : Int) + 1) + (1 + g), 2, k⟩] k = [] from off_one _]
    refine qg rfl rfl rfl (eqI rfl rfl) ?_
    first | refine q rfl rfl (pkT rfl rfl) ?_ | refine q rfl rfl (pkF rfl rfl) ?_
    refine q rfl rfl (mv (v := .bool _) rfl) ?_
    refine TL.known 76 rfl (c := true) (by first | decide | simp) ?_
    refine qg rfl rfl rfl (mv (v := .pointer _) rfl) ?_
    refine qg rfl rfl rfl (mv (v := .int _ _) rfl) ?_
    refine eg rfl rfl ?_
    refine cl (set_ok a ((i : Int) + 1) 2 [] (by simp; omega) k 1) rfl PkL.p trivial ?_
    intro _ _
    change TL _ _ _ _ _ _ _ _ (sepL [_, _, _, _])
    rw [set_new (has_nil k) hk.1 (by omega) (by omega)]
    dsimp only
    rw [List.nil_append, show (2 : Int) + 1 = 3 from rfl]
    refine qg rfl rfl rfl (eqI rfl rfl) ?_
    first | refine q rfl rfl (pkT rfl rfl) ?_ | refine q rfl rfl (pkF rfl rfl) ?_
    refine q rfl rfl (mv (v := .bool _) rfl) ?_
    refine TL.known 82 rfl (c := true) (by first | decide | simp) ?_
    refine qg rfl rfl rfl (mv (v := .pointer _) rfl) ?_
    refine eg rfl rfl ?_
    refine cl (next_ok a ((i : Int) + 1) 3 [⟨((i : Int) + 1) + 1, 3, k⟩] (by simp; omega) (fun e he => by obtain rfl := List.mem_singleton.1 he; dsimp only; omega)) rfl PkL.p trivial ?_
    intro _ _
    change TL _ _ _ _ _ _ _ _ (sepL [_, _, _, _])
    refine qg rfl rfl rfl (eqI rfl rfl) ?_
    first | refine q rfl rfl (pkT rfl rfl) ?_ | refine q rfl rfl (pkF rfl rfl) ?_
    refine q rfl rfl (asg (v := .bool _) rfl) ?_
    refine TL.nil (nt ?_)
    refine TC.ret ?_
    exact Ret.i () [_] ⟨rfl, trivial⟩ (congrArg Value.bool (decide_eq_true (show nextA [⟨((i : Int) + 1) + 1, 3, k⟩] ((i : Int) + 1) = 1 from by simp [nextA, minL]; omega))) trivial (ent_take 3 rfl (ent_nil _))

end Go.Proofs.Ytdikkmgcjhllaaa
