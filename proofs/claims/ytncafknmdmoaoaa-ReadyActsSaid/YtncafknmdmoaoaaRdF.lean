/-
  Proved here: what functions of this program compute, each as a contract over symbolic states, under the premises that each theorem names (most lines printed by a program of the prover).
-/
import Derived.Test.YtncafknmdmoaoaaRdE
namespace Go.Proofs.Ytncafknmdmoaoaa
open Go Go.QM
theorem prio_of {S : List Th} (hn : NdS S) {t : Th} (ht : t ∈ S) : prioS S t.id = t.prio := by rw [prioS, findS_yes hn ht]
theorem left_of {S : List Th} (hn : NdS S) {t : Th} (ht : t ∈ S) : leftS S t.id = t.left := by rw [leftS, findS_yes hn ht]
def sumR (S : List Th) : Nat → Nat
  | 0 => 0
  | p + 1 => sumR S p + (rowA S p).length
def topR (S : List Th) : Nat → Int
  | 0 => -1
  | p + 1 => (rowA S p).head?.getD (topR S p)
theorem topR_run {S : List Th} (h : RInv S) : ∀ p, p ≤ 8 → (∀ x, p ≤ x → x < 8 → rowA S x = []) → topR S p = runS S
  | 0, _, hn => by
    have hS := top_none h (fun x hx => hn x (by omega) hx)
    rw [hS]; rfl
  | p + 1, hp, hn => by
    rw [topR]
    cases hr : rowA S p with
    | nil => exact topR_run h p (by omega) (fun x h1 h2 => by rcases Nat.lt_or_eq_of_le h1 with h3 | h3; exact hn x h3 h2; rw [← h3]; exact hr)
    | cons x rest =>
      obtain ⟨t, h1, h2, _⟩ := top_row h (fun x h1 h2 => hn x h1 h2) hr
      rw [runS, h1, ← h2]; rfl
theorem sumR_cons (t : Th) (S : List Th) : ∀ n, sumR (t :: S) n = sumR S n + (if 0 ≤ t.prio ∧ t.prio < n then 1 else 0)
  | 0 => by rw [sumR, sumR, if_neg (by omega)]
  | n + 1 => by
    rw [sumR, sumR, sumR_cons t S n]
    by_cases e : t.prio = n
    · have h1 : rowA (t :: S) n = t.id :: rowA S n := by rw [rowA, List.filter_cons_of_pos (by simpa using e)]; rfl
      rw [h1, if_neg (by omega), if_pos (by omega), List.length_cons]; omega
    · have h1 : rowA (t :: S) n = rowA S n := by rw [rowA, List.filter_cons_of_neg (by simpa using e)]; rfl
      rw [h1]
      by_cases e2 : 0 ≤ t.prio ∧ t.prio < n
      · rw [if_pos e2, if_pos (by omega)]; omega
      · rw [if_neg e2, if_neg (by omega)]; omega
theorem sumR_nil : ∀ n, sumR [] n = 0
  | 0 => rfl
  | n + 1 => by rw [sumR, sumR_nil n]; rfl
theorem sumR_len : ∀ {S : List Th}, (∀ t ∈ S, 0 ≤ t.prio ∧ t.prio ≤ 7) → sumR S 8 = S.length
  | [], _ => sumR_nil 8
  | t :: S, h => by
    have h1 := h t (by simp)
    rw [sumR_cons, if_pos (by omega), sumR_len fun u hu => h u (by simp [hu]), List.length_cons]
theorem sumR_le (S : List Th) : ∀ n, sumR S n ≤ S.length * n
  | 0 => by simp [sumR]
  | n + 1 => by
    have := sumR_le S n; have := rowA_len S n
    rw [sumR, Nat.mul_add, Nat.mul_one]; omega
def tk (S : List Th) (p k : Nat) : Int := if k = 0 then topR S p else (rowA S p).head?.getD (topR S p)
theorem tk_end (S : List Th) (p : Nat) : tk S p (rowA S p).length = topR S (p + 1) := by
  rw [tk, topR]
  cases h : rowA S p with
  | nil => rfl
  | cons x l => rfl
theorem row_at {S : List Th} {p k : Nat} {x : Int} (h : (rowA S p)[k]? = some x) : ∃ t ∈ S, t.prio = p ∧ t.id = x := rowA_mem.1 (List.mem_of_getElem? h)
theorem row_ne {S : List Th} (hn : NdS S) {p k : Nat} {x y : Int} (hx : (rowA S p)[k]? = some x) (hk : 0 < k) (hy : (rowA S p)[k - 1]? = some y) : x ≠ y := fun e => by
  have h := List.pairwise_iff_getElem.1 (rowA_nd hn p)
  obtain ⟨a1, b1⟩ := List.getElem?_eq_some_iff.1 hx
  obtain ⟨a2, b2⟩ := List.getElem?_eq_some_iff.1 hy
  exact h (k - 1) k a2 a1 (by omega) (by rw [b1, b2, e])

set_option maxHeartbeats 1000000 in
theorem first_ok (ad : Option Addr) (l : List RAct) (cap : Nat) : FSpec Try.prog 4 [.slice ad l.length cap] (fun F => (∃ E, RdS F E ad (ractsC l)) ∧ ∀ t ∈ l, ∃ E, RdS F E t.ad (ints t.xs)) [] (fun _ : Unit => .bool true) (fun _ => True) (fun _ => []) := by
  refine FSpec.intro (rs := [.tmp 2]) (by kernel_rfl) Try.func4 rfl Try.ntmps4 (by rfl) rfl ?_
  intro F ⟨⟨E, hF⟩, hin⟩
  change TC _ _ _ _ _ _ _ (sepL [_])
  haveI : RdSI F ad E (ractsC l) := ⟨hF⟩
  refine TC.seq ?_
  refine TC.region ?_
  refine q rfl rfl (asg (v := .bool _) rfl) ?_
  refine TL.nil (nt ?_)
  refine TC.seq ?_
  refine TC.seq ?_
  refine TC.region ?_
  refine e rfl ?_
  refine cl alive_ok rfl (picked_nil _) trivial ?_
  intro _ _
  change TL _ _ _ _ _ _ _ _ (sepL [_])
  first | refine q rfl rfl (notD rfl) ?_ | refine q rfl rfl (notB rfl) ?_
  refine TL.nil (nt ?_)
  refine TC.condF rfl ?_
  refine TC.skip (nt ?_)
  refine TC.seq ?_
  refine TC.seq ?_
  refine TC.region ?_
  refine q rfl rfl (mv (v := .slice _ _ _) rfl) ?_
  refine e rfl ?_
  refine cl (fits_ok ad l cap) rfl (picked_nil _) ⟨_, RdSI.rd (ad := ad)⟩ ?_
  intro _ _
  change TL _ _ _ _ _ _ _ _ (sepL [_])
  by_cases hfit : fitsL l
  · rw [decide_eq_true hfit]
    first | refine q rfl rfl (notD rfl) ?_ | refine q rfl rfl (notB rfl) ?_
    refine TL.nil (nt ?_)
    refine TC.condF rfl ?_
    refine TC.skip (nt ?_)
    refine TC.seq ?_
    refine TC.region ?_
    refine e rfl ?_
    refine cl rnew_ok rfl (picked_nil _) trivial ?_
    intro a _
    change TL _ _ _ _ _ _ _ _ (sepL [_, _])
    refine q rfl rfl (asg (v := .pointer _) rfl) ?_
    refine TL.nil (nt ?_)
    refine TC.seq ?_
    refine TC.seq ?_
    refine TC.region ?_
    refine q rfl rfl (asg (v := .int _ _) rfl) ?_
    refine TL.nil (nt ?_)
    refine TC.block ?_
    refine TC.loop (ι := Nat × List Th) (fun s => RJ s.2 s.1 ∧ s.1 ≤ l.length) (fun s => [(0, .slice ad l.length cap), (3, .pointer (some ⟨a, 0, none⟩)), (4, .int .i64 ((s.1 : Nat) : Int))]) (fun s => sepL [isQ a s.2, F]) (fun s => l.length - s.1) ⟨0, []⟩ ⟨RJ.nil 0, Nat.zero_le _⟩ ⟨rfl, rfl, rfl, trivial⟩ (ent_take 0 rfl (ent_take 0 rfl (ent_nil _))) ?_
    rintro ⟨i, S⟩ ⟨hJ, hi⟩ ρ0
    dsimp only [updL] at hJ hi ⊢
    refine TC.seq ?_
    refine TC.seq ?_
    refine TC.region ?_
    refine q rfl rfl (mv (v := .int _ _) rfl) ?_
    refine q rfl rfl (mv (v := .slice _ _ _) rfl) ?_
    refine q rfl rfl (len 38 5 rfl rfl) ?_
    refine q rfl rfl (lss rfl rfl) ?_
    refine TL.nil (nt ?_)
    first | refine TC.condD rfl (fun hlt => ?_) (fun hlt => ?_) | refine TC.cond rfl (fun hlt => ?_) (fun hlt => ?_)
    · have hl150 := hfit.1
      have hlt2 : i < l.length := by omega
      obtain ⟨t, ht⟩ : ∃ t, l[i]? = some t := ⟨l[i], List.getElem?_eq_getElem hlt2⟩
      have htm := List.mem_of_getElem? ht
      have ht50 := hfit.2 t htm
      obtain ⟨E2, hE2⟩ := hin t htm
      haveI : RdSI F t.ad E2 (ints t.xs) := ⟨hE2⟩
      have hpos : 0 < (ractsC l).length := by rw [ractsC_length]; omega
      refine TC.skip (nt ?_)
      refine TC.seq ?_
      refine TC.block ?_
      refine TC.seq ?_
      refine TC.region ?_
      refine q rfl rfl (mv (v := .pointer _) rfl) ?_
      refine q rfl rfl (mv (v := .slice _ _ _) rfl) ?_
      refine q rfl rfl (mv (v := .int _ _) rfl) ?_
      first | refine q rfl rfl (ixS 38 5 rfl rfl rfl (by omega) (by first | assumption | (simp [ints_length] <;> omega))) ?_ | refine q rfl rfl (ixJ 38 5 rfl rfl rfl (by omega) (by omega) (by first | assumption | (simp [ints_length] <;> omega))) ?_ | refine q rfl rfl (ix 38 5 rfl rfl rfl (by omega) (by omega) rfl) ?_
      first | refine q rfl rfl (ldN (vs := [_, _, _, _, _]) 5 rfl rfl rfl rfl) ?_ | refine q rfl rfl (ldSN (vs := [_, _, _, _, _]) 5 rfl rfl (flat_get_rec ractC_sz ht) rfl (by decide)) ?_ | refine q rfl rfl (ldSN (vs := [_, _, _, _, _]) 5 rfl rfl rfl rfl (by decide)) ?_
      refine e rfl ?_
      refine cl (do_ok a S i t hJ (by omega) (by omega)) rfl (picked_cons 0 rfl (picked_nil _)) ⟨_, RdSI.rd (ad := t.ad)⟩ ?_
      intro _ _
      change TL _ _ _ _ _ _ _ _ (sepL [_, _])
      have hJ2 := hJ.act t
      generalize doS S t = S at hJ2 ⊢
      clear hJ
      have hSl := hJ2.len
      have hnd := hJ2.inv.nd
      refine TL.nil (nt ?_)
      refine TC.seq ?_
      refine TC.region ?_
      refine q rfl rfl (mv (v := .pointer _) rfl) ?_
      refine e rfl ?_
      refine cl (run_ok a S (by omega)) rfl (picked_cons 0 rfl (picked_nil _)) trivial ?_
      intro _ _
      change TL _ _ _ _ _ _ _ _ (sepL [_, _])
      refine q rfl rfl (asg (v := .int _ _) rfl) ?_
      refine q rfl rfl (asg (v := .int _ _) rfl) ?_
      refine q rfl rfl (asg (v := .int _ _) rfl) ?_
      refine TL.nil (nt ?_)
      refine TC.seq ?_
      refine TC.seq ?_
      refine TC.region ?_
      refine q rfl rfl (asg (v := .int _ _) rfl) ?_
      refine TL.nil (nt ?_)
      refine TC.block ?_
      refine TC.loop (ι := Nat) (fun p => p ≤ 8) (fun p => [(0, .slice ad l.length cap), (3, .pointer (some ⟨a, 0, none⟩)), (4, .int .i64 (i : Int)), (5, .int .i64 (runS S)), (6, .int .i64 (sumR S p)), (7, .int .i64 (topR S p)), (8, .int .i64 (p : Int))]) (fun p => sepL [isQ a S, F]) (fun p => 8 - p) 0 (by omega) ⟨rfl, rfl, rfl, rfl, rfl, rfl, rfl, trivial⟩ (ent_take 0 rfl (ent_take 0 rfl (ent_nil _))) ?_
      rintro p hp ρ1
      dsimp only [updL] at hp ⊢
      refine TC.seq ?_
      refine TC.seq ?_
      refine TC.region ?_
      refine q rfl rfl (mv (v := .int _ _) rfl) ?_
      refine q rfl rfl (leq rfl rfl) ?_
      refine TL.nil (nt ?_)
      first | refine TC.condD rfl (fun hp7 => ?_) (fun hp7 => ?_) | refine TC.cond rfl (fun hp7 => ?_) (fun hp7 => ?_)
      · have hp8 : p < 8 := by omega
        have hrR : rowR S (p : Int) = rowA S p := by rw [rowR, if_pos (by omega), Int.toNat_natCast]
        have hrl := rowA_len S p
        have hsl := sumR_le S p
        have hsl2 : S.length * p ≤ S.length * 8 := Nat.mul_le_mul_left _ (by omega)
        have hil := ints_length (rowA S p)
        refine TC.skip (nt ?_)
        refine TC.seq ?_
        refine TC.block ?_
        refine TC.seq ?_
        refine TC.region ?_
        refine q rfl rfl (mv (v := .pointer _) rfl) ?_
        refine q rfl rfl (mv (v := .int _ _) rfl) ?_
        refine e rfl ?_
        refine cl (row_ok a S (by omega) (p : Int)) rfl (picked_cons 0 rfl (picked_nil _)) trivial ?_
        intro y _
        change TL _ _ _ _ _ _ _ _ (sepL [_, _, _])
        rw [hrR]
        refine q rfl rfl (asg (v := .slice _ _ _) rfl) ?_
        refine TL.nil (nt ?_)
        refine TC.seq ?_
        refine TC.region ?_
        refine q rfl rfl (mv (v := .int _ _) rfl) ?_
        refine q rfl rfl (mv (v := .slice _ _ _) rfl) ?_
        refine q rfl rfl (len 3 1 rfl rfl) ?_
        first | refine q rfl rfl (addI rfl rfl (by omega) (by omega)) ?_ | refine q rfl rfl (add rfl rfl rfl) ?_
        refine q rfl rfl (asg (v := .int _ _) rfl) ?_
        refine TL.nil (nt ?_)
        refine TC.seq ?_
        refine TC.region ?_
        refine q rfl rfl (asg (v := .int _ _) rfl) ?_
        refine TL.nil (nt ?_)
        refine TC.block ?_
        refine TC.loop (ι := Nat) (fun k => k ≤ (rowA S p).length) (fun k => [(0, .slice ad l.length cap), (3, .pointer (some ⟨a, 0, none⟩)), (4, .int .i64 (i : Int)), (5, .int .i64 (runS S)), (6, .int .i64 (sumR S p + (rowA S p).length)), (7, .int .i64 (tk S p k)), (8, .int .i64 (p : Int)), (9, .slice y.1 (rowA S p).length y.2), (10, .int .i64 (k : Int))]) (fun k => sepL [slc 3 1 y.1 (rowA S p).length y.2 (ints (rowA S p)), isQ a S, F]) (fun k => (rowA S p).length - k) 0 (Nat.zero_le _) ⟨rfl, rfl, rfl, rfl, rfl, rfl, rfl, rfl, rfl, trivial⟩ (ent_take 0 rfl (ent_take 0 rfl (ent_take 0 rfl (ent_nil _)))) ?_
        rintro k hk ρ2
        dsimp only [updL] at hk ⊢
        refine TC.seq ?_
        refine TC.seq ?_
        refine TC.region ?_
        refine q rfl rfl (mv (v := .int _ _) rfl) ?_
        refine q rfl rfl (mv (v := .slice _ _ _) rfl) ?_
        refine q rfl rfl (len 3 1 rfl rfl) ?_
        refine q rfl rfl (lss rfl rfl) ?_
        refine TL.nil (nt ?_)
        first | refine TC.condD rfl (fun hkl => ?_) (fun hkl => ?_) | refine TC.cond rfl (fun hkl => ?_) (fun hkl => ?_)
        · have hkl2 : k < (rowA S p).length := by omega
          obtain ⟨x, hx⟩ : ∃ x, (rowA S p)[k]? = some x := ⟨_, List.getElem?_eq_getElem hkl2⟩
          obtain ⟨w, hw, hwp, hwi⟩ := row_at hx
          have hpr := prio_of hnd hw
          have hlf := left_of hnd hw
          rw [hwi] at hpr hlf
          have hwl := hJ2.lf w hw
          have hwr := hJ2.inv.rg w hw
          have hpos2 : 0 < (ints (rowA S p)).length := by omega
          refine TC.skip (nt ?_)
          refine TC.seq ?_
          refine TC.block ?_
          refine TC.seq ?_
          refine TC.seq ?_
          refine TC.draw _ [] [(0, false), (1, false), (2, false), (3, false), (4, false), (6, false), (5, true), (7, false), (8, false), (9, false), (10, false), (11, false), (12, false), (13, false), (14, true), (15, false), (16, false), (17, false), (18, false), (19, false), (20, false), (21, false), (22, false), (23, true), (24, false), (25, false), (26, false), (27, false), (28, false), (29, false), (30, false), (31, false), (32, false), (33, false), (34, false), (35, false), (36, false), (37, false), (38, false), (39, false), (40, false), (41, false)] (by kernel_rfl) (by kernel_rfl) (ent_take 0 rfl (ent_nil _)) ?_
          refine dq rfl rfl rfl (mv (v := .pointer _) rfl) ?_
          refine dq rfl rfl rfl (mv (v := .slice _ _ _) rfl) ?_
          refine dq rfl rfl rfl (mv (v := .int _ _) rfl) ?_
          first | refine dq rfl rfl rfl (ixS 3 1 rfl rfl rfl (by omega) (by first | assumption | (simp [ints_length] <;> omega))) ?_ | refine dq rfl rfl rfl (ixJ 3 1 rfl rfl rfl (by omega) (by omega) (by first | assumption | (simp [ints_length] <;> omega))) ?_ | refine dq rfl rfl rfl (ix 3 1 rfl rfl rfl (by omega) (by omega) rfl) ?_
          first | refine dq rfl rfl rfl (ld rfl rfl rfl) ?_ | refine dq rfl rfl rfl (ldS rfl rfl (ints_get hx)) ?_ | refine dq rfl rfl rfl (ldS rfl rfl rfl) ?_
          refine dq rfl rfl rfl (mv (v := .int _ _) rfl) ?_
          refine de rfl rfl ?_
          refine cl (qprio_ok a S (by omega) x) rfl (picked_cons 1 rfl (picked_nil _)) trivial ?_
          intro _ _
          change ent _ _ ∧ TD _ _ _ _ _ _ _ _ _ _ (sepL [_, _, _])
          refine ⟨(by repeat (first | exact ent_nil _ | refine ent_take 0 rfl ?_ | refine ent_take 1 rfl ?_ | refine ent_take 2 rfl ?_ | refine ent_take 3 rfl ?_ | refine ent_take 4 rfl ?_ | refine ent_take 5 rfl ?_ | refine ent_take 6 rfl ?_ | refine ent_take 7 rfl ?_)), ?_⟩
          rw [hpr, hwp]
          refine dq rfl rfl rfl (neI rfl rfl) ?_
          refine dq rfl rfl rfl (mv (v := .bool _) rfl) ?_
          refine TD.known 56 rfl (b' := false) (by simp) ?_
          refine dg rfl rfl rfl rfl (mv (v := .pointer _) rfl) ?_
          refine dg rfl rfl rfl rfl (mv (v := .slice _ _ _) rfl) ?_
          refine dg rfl rfl rfl rfl (mv (v := .int _ _) rfl) ?_
          first | refine dg rfl rfl rfl rfl (ixS 3 1 rfl rfl rfl (by omega) (by first | assumption | (simp [ints_length] <;> omega))) ?_ | refine dg rfl rfl rfl rfl (ixJ 3 1 rfl rfl rfl (by omega) (by omega) (by first | assumption | (simp [ints_length] <;> omega))) ?_ | refine dg rfl rfl rfl rfl (ix 3 1 rfl rfl rfl (by omega) (by omega) rfl) ?_
          first | refine dg rfl rfl rfl rfl (ld rfl rfl rfl) ?_ | refine dg rfl rfl rfl rfl (ldS rfl rfl (ints_get hx)) ?_ | refine dg rfl rfl rfl rfl (ldS rfl rfl rfl) ?_
          refine deg rfl rfl rfl ?_
          refine cl (qleft_ok a S (by omega) x) rfl (picked_cons 0 rfl (picked_nil _)) trivial ?_
          intro _ _
          change ent _ _ ∧ TD _ _ _ _ _ _ _ _ _ _ (sepL [_, _, _])
          refine ⟨(by repeat (first | exact ent_nil _ | refine ent_take 0 rfl ?_ | refine ent_take 1 rfl ?_ | refine ent_take 2 rfl ?_ | refine ent_take 3 rfl ?_ | refine ent_take 4 rfl ?_ | refine ent_take 5 rfl ?_ | refine ent_take 6 rfl ?_ | refine ent_take 7 rfl ?_)), ?_⟩
          rw [hlf]
          refine dg rfl rfl rfl rfl (lss rfl rfl) ?_
          first | refine dq rfl rfl rfl (pkT rfl rfl) ?_ | refine dq rfl rfl rfl (pkF rfl rfl) ?_
          refine dq rfl rfl rfl (mv (v := .bool _) rfl) ?_
          refine TD.known 65 rfl (b' := false) (decide_eq_false (by omega)) ?_
          refine dg rfl rfl rfl rfl (mv (v := .pointer _) rfl) ?_
          refine dg rfl rfl rfl rfl (mv (v := .slice _ _ _) rfl) ?_
          refine dg rfl rfl rfl rfl (mv (v := .int _ _) rfl) ?_
          first | refine dg rfl rfl rfl rfl (ixS 3 1 rfl rfl rfl (by omega) (by first | assumption | (simp [ints_length] <;> omega))) ?_ | refine dg rfl rfl rfl rfl (ixJ 3 1 rfl rfl rfl (by omega) (by omega) (by first | assumption | (simp [ints_length] <;> omega))) ?_ | refine dg rfl rfl rfl rfl (ix 3 1 rfl rfl rfl (by omega) (by omega) rfl) ?_
          first | refine dg rfl rfl rfl rfl (ld rfl rfl rfl) ?_ | refine dg rfl rfl rfl rfl (ldS rfl rfl (ints_get hx)) ?_ | refine dg rfl rfl rfl rfl (ldS rfl rfl rfl) ?_
          refine deg rfl rfl rfl ?_
          refine cl (qleft_ok a S (by omega) x) rfl (picked_cons 0 rfl (picked_nil _)) trivial ?_
          intro _ _
          change ent _ _ ∧ TD _ _ _ _ _ _ _ _ _ _ (sepL [_, _, _])
          refine ⟨(by repeat (first | exact ent_nil _ | refine ent_take 0 rfl ?_ | refine ent_take 1 rfl ?_ | refine ent_take 2 rfl ?_ | refine ent_take 3 rfl ?_ | refine ent_take 4 rfl ?_ | refine ent_take 5 rfl ?_ | refine ent_take 6 rfl ?_ | refine ent_take 7 rfl ?_)), ?_⟩
          rw [hlf]
          refine dg rfl rfl rfl rfl (gtr rfl rfl) ?_
          first | refine dq rfl rfl rfl (pkT rfl rfl) ?_ | refine dq rfl rfl rfl (pkF rfl rfl) ?_
          refine dq rfl rfl rfl (mv (v := .bool _) rfl) ?_
          refine TD.known 74 rfl (b' := false) (decide_eq_false (by omega)) ?_
          refine dg rfl rfl rfl rfl (mv (v := .int _ _) rfl) ?_
          refine dg rfl rfl rfl rfl (gtr rfl rfl) ?_
          refine dg rfl rfl rfl rfl (mv (v := .bool _) rfl) ?_
          refine TD.split 77 rfl (fun hk0 => ?_) (fun hk0 => ?_)
          · have hk0 := of_decide_eq_true hk0
            obtain ⟨z, hz⟩ : ∃ z, (rowA S p)[k - 1]? = some z := ⟨_, List.getElem?_eq_getElem (by omega)⟩
            have hxz := row_ne hnd hx (by omega) hz
            have hzz : (rowA S p)[((k : Int) - 1).toNat]? = some z := by rw [show ((k : Int) - 1).toNat = k - 1 from by omega]; exact hz
            refine dg rfl rfl rfl rfl (mv (v := .slice _ _ _) rfl) ?_
            refine dg rfl rfl rfl rfl (mv (v := .int _ _) rfl) ?_
            first | refine dg rfl rfl rfl rfl (ixS 3 1 rfl rfl rfl (by omega) (by first | assumption | (simp [ints_length] <;> omega))) ?_ | refine dg rfl rfl rfl rfl (ixJ 3 1 rfl rfl rfl (by omega) (by omega) (by first | assumption | (simp [ints_length] <;> omega))) ?_ | refine dg rfl rfl rfl rfl (ix 3 1 rfl rfl rfl (by omega) (by omega) rfl) ?_
            first | refine dg rfl rfl rfl rfl (ld rfl rfl rfl) ?_ | refine dg rfl rfl rfl rfl (ldS rfl rfl (ints_get hx)) ?_ | refine dg rfl rfl rfl rfl (ldS rfl rfl (ints_get hzz)) ?_ | refine dg rfl rfl rfl rfl (ldS rfl rfl rfl) ?_
            refine dg rfl rfl rfl rfl (mv (v := .slice _ _ _) rfl) ?_
            refine dg rfl rfl rfl rfl (mv (v := .int _ _) rfl) ?_
            first | refine dg rfl rfl rfl rfl (subI rfl rfl (by omega) (by omega)) ?_ | refine dg rfl rfl rfl rfl (sub rfl rfl rfl) ?_
            first | refine dg rfl rfl rfl rfl (ixS 3 1 rfl rfl rfl (by omega) (by first | assumption | (simp [ints_length] <;> omega))) ?_ | refine dg rfl rfl rfl rfl (ixJ 3 1 rfl rfl rfl (by omega) (by omega) (by first | assumption | (simp [ints_length] <;> omega))) ?_ | refine dg rfl rfl rfl rfl (ix 3 1 rfl rfl rfl (by omega) (by omega) rfl) ?_
            first | refine dg rfl rfl rfl rfl (ld rfl rfl rfl) ?_ | refine dg rfl rfl rfl rfl (ldS rfl rfl (ints_get hx)) ?_ | refine dg rfl rfl rfl rfl (ldS rfl rfl (ints_get hzz)) ?_ | refine dg rfl rfl rfl rfl (ldS rfl rfl rfl) ?_
            refine dg rfl rfl rfl rfl (eqI rfl rfl) ?_
            first | refine dg rfl rfl rfl rfl (pkT rfl rfl) ?_ | refine dg rfl rfl rfl rfl (pkF rfl rfl) ?_
            first | refine dq rfl rfl rfl (pkT rfl rfl) ?_ | refine dq rfl rfl rfl (pkF rfl rfl) ?_
            refine TD.nil (nt ?_)
            refine TC.condD rfl (fun hc1 => absurd hc1 (hxz)) (fun hc1 => ?_)
            refine TC.skip (nt ?_)
            refine TC.seq ?_
            refine TC.region ?_
            refine q rfl rfl (mv (v := .int _ _) rfl) ?_
            refine q rfl rfl (eqI rfl rfl) ?_
            refine TL.nil (nt ?_)
            refine TC.condD rfl (fun hc2 => absurd hc2 (by omega)) (fun hc2 => ?_)
            refine TC.skip (nb (nt ?_))
            refine TC.region ?_
            refine q rfl rfl (mv (v := .int _ _) rfl) ?_
            first | refine q rfl rfl (addI rfl rfl (by omega) (by omega)) ?_ | refine q rfl rfl (add rfl rfl rfl) ?_
            refine q rfl rfl (asg (v := .int _ _) rfl) ?_
            refine TL.nil (nt ?_)
            exact ⟨rfl, (k + 1), (by omega), (by omega), ⟨rfl, rfl, rfl, rfl, rfl, congrArg (Value.int .i64) (by rw [tk, tk, if_neg (by omega), if_neg (by omega)]), rfl, rfl, rfl, trivial⟩, (ent_take 1 rfl (ent_take 0 rfl (ent_take 0 rfl (ent_nil _))))⟩
          · have hk0 := of_decide_eq_false hk0
            obtain rfl : k = 0 := by omega
            refine dk rfl rfl rfl rfl ?_
            refine dk rfl rfl rfl rfl ?_
            refine dk rfl rfl rfl rfl ?_
            refine dk rfl rfl rfl rfl ?_
            refine dk rfl rfl rfl rfl ?_
            refine dk rfl rfl rfl rfl ?_
            refine dk rfl rfl rfl rfl ?_
            refine dk rfl rfl rfl rfl ?_
            refine dk rfl rfl rfl rfl ?_
            refine dk rfl rfl rfl rfl ?_
            first | refine dg rfl rfl rfl rfl (pkT rfl rfl) ?_ | refine dg rfl rfl rfl rfl (pkF rfl rfl) ?_
            first | refine dq rfl rfl rfl (pkT rfl rfl) ?_ | refine dq rfl rfl rfl (pkF rfl rfl) ?_
            refine TD.nil (nt ?_)
            refine TC.condF rfl ?_
            refine TC.skip (nt ?_)
            refine TC.seq ?_
            refine TC.region ?_
            refine q rfl rfl (mv (v := .int _ _) rfl) ?_
            refine q rfl rfl (eqI rfl rfl) ?_
            refine TL.nil (nt ?_)
            refine TC.condD rfl (fun hc3 => ?_) (fun hc3 => absurd (by omega) hc3)
            refine TC.region ?_
            refine q rfl rfl (mv (v := .slice _ _ _) rfl) ?_
            first | refine q rfl rfl (ixS 3 1 rfl rfl rfl (by omega) (by first | assumption | (simp [ints_length] <;> omega))) ?_ | refine q rfl rfl (ixJ 3 1 rfl rfl rfl (by omega) (by omega) (by first | assumption | (simp [ints_length] <;> omega))) ?_ | refine q rfl rfl (ix 3 1 rfl rfl rfl (by omega) (by omega) rfl) ?_
            first | refine q rfl rfl (ld rfl rfl rfl) ?_ | refine q rfl rfl (ldS rfl rfl (ints_get hx)) ?_ | refine q rfl rfl (ldS rfl rfl rfl) ?_
            refine q rfl rfl (asg (v := .int _ _) rfl) ?_
            refine TL.nil (nb (nt ?_))
            refine TC.region ?_
            refine q rfl rfl (mv (v := .int _ _) rfl) ?_
            first | refine q rfl rfl (addI rfl rfl (by omega) (by omega)) ?_ | refine q rfl rfl (add rfl rfl rfl) ?_
            refine q rfl rfl (asg (v := .int _ _) rfl) ?_
            refine TL.nil (nt ?_)
            exact ⟨rfl, (0 + 1), (by omega), (by omega), ⟨rfl, rfl, rfl, rfl, rfl, congrArg (Value.int .i64) (by rw [tk, if_neg (by omega), List.head?_eq_getElem?, hx]; rfl), rfl, rfl, rfl, trivial⟩, (ent_take 1 rfl (ent_take 0 rfl (ent_take 0 rfl (ent_nil _))))⟩
        · obtain rfl : k = (rowA S p).length := by omega
          rw [tk_end]
          refine TC.exit (et (et (eb (nb (nt ?_)))))
          refine TC.region ?_
          refine q rfl rfl (mv (v := .int _ _) rfl) ?_
          first | refine q rfl rfl (addI rfl rfl (by omega) (by omega)) ?_ | refine q rfl rfl (add rfl rfl rfl) ?_
          refine q rfl rfl (asg (v := .int _ _) rfl) ?_
          refine TL.nil (nt ?_)
          exact ⟨rfl, (p + 1), (by omega), (by omega), ⟨rfl, rfl, rfl, rfl, rfl, rfl, rfl, trivial⟩, (ent_take 1 rfl (ent_take 1 rfl (ent_nil _)))⟩
      · obtain rfl : p = 8 := by omega
        rw [topR_run hJ2.inv 8 (Nat.le_refl _) (fun x h1 h2 => by omega), sumR_len (fun t ht => (hJ2.inv.rg t ht).2.1)]
        refine TC.exit (et (et (eb (nt ?_))))
        refine TC.seq ?_
        refine TC.region ?_
        refine q rfl rfl (mv (v := .int _ _) rfl) ?_
        refine q rfl rfl (mv (v := .int _ _) rfl) ?_
        refine q rfl rfl (neI rfl rfl) ?_
        refine q rfl rfl (mv (v := .bool _) rfl) ?_
        refine TL.known 98 rfl (c := false) (by simp) ?_
        refine qg rfl rfl rfl (mv (v := .int _ _) rfl) ?_
        refine qg rfl rfl rfl (mv (v := .pointer _) rfl) ?_
        refine eg rfl rfl ?_
        refine cl (qlen_ok a S (by omega)) rfl (picked_cons 0 rfl (picked_nil _)) trivial ?_
        intro _ _
        change TL _ _ _ _ _ _ _ _ (sepL [_, _])
        refine qg rfl rfl rfl (neI rfl rfl) ?_
        first | refine q rfl rfl (pkT rfl rfl) ?_ | refine q rfl rfl (pkF rfl rfl) ?_
        refine TL.nil (nt ?_)
        refine TC.condD rfl (fun hc4 => absurd hc4 (by simp)) (fun hc4 => ?_)
        refine TC.skip (nb (nt ?_))
        refine TC.region ?_
        refine q rfl rfl (mv (v := .int _ _) rfl) ?_
        first | refine q rfl rfl (addI rfl rfl (by omega) (by omega)) ?_ | refine q rfl rfl (add rfl rfl rfl) ?_
        refine q rfl rfl (asg (v := .int _ _) rfl) ?_
        refine TL.nil (nt ?_)
        exact ⟨rfl, ⟨i + 1, S⟩, ⟨hJ2, by dsimp only; omega⟩, (by dsimp only; omega), ⟨rfl, rfl, rfl, trivial⟩, (ent_take 0 rfl (ent_take 0 rfl (ent_nil _)))⟩
    · refine TC.exit (et (et (eb (nt ?_))))
      refine TC.seq ?_
      refine TC.region ?_
      refine q rfl rfl (asg (v := .bool _) rfl) ?_
      refine TL.nil (nt ?_)
      refine TC.ret ?_
      exact Ret.i () [_] ⟨rfl, trivial⟩ rfl trivial (ent_take 1 rfl (ent_nil _))
  · rw [decide_eq_false hfit]
    first | refine q rfl rfl (notD rfl) ?_ | refine q rfl rfl (notB rfl) ?_
    refine TL.nil (nt ?_)
    refine TC.condT rfl ?_
    refine TC.seq ?_
    refine TC.region ?_
    refine q rfl rfl (asg (v := .bool _) rfl) ?_
    refine TL.nil (nt ?_)
    refine TC.ret (rt ?_)
    exact Ret.i () [_] ⟨rfl, trivial⟩ rfl trivial (ent_take 0 rfl (ent_nil _))

end Go.Proofs.Ytncafknmdmoaoaa
