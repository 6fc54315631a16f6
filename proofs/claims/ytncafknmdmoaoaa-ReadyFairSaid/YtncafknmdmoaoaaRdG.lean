/-
  Proved here: what functions of this program compute, each as a contract over symbolic states, under the premises that each theorem names (most lines printed by a program of the prover).
-/
import Derived.Test.YtncafknmdmoaoaaRdF
namespace Go.Proofs.Ytncafknmdmoaoaa
open Go Go.QM
theorem top_same {p : Int} : ∀ {S : List Th}, (∀ t ∈ S, t.prio = p) → topS S = S.head?
  | [], _ => rfl
  | t :: S, h => by
    rw [topS, List.find?_cons_of_pos]
    · rfl
    · rw [List.all_eq_true]; intro u hu; simp only [decide_eq_true_eq]; rw [h u hu, h t (by simp)]; exact Int.le_refl _
theorem rnd_head {t : Th} {S : List Th} (h : NdS (t :: S)) : rndS (t :: S) t = S ++ [⟨t.id, t.prio, t.whole, t.whole⟩] := by
  rw [rndS, offS, List.filter_cons_of_neg (by simp)]
  rw [List.filter_eq_self.2 fun u hu => by simp only [decide_eq_true_eq]; exact fun e => (List.nodup_cons.1 h).1 (List.mem_map.2 ⟨u, hu, e⟩)]
theorem setL_head {t : Th} {S : List Th} (h : NdS (t :: S)) (v : Int) : setL (t :: S) t.id v = ⟨t.id, t.prio, t.whole, v⟩ :: S := by
  rw [setL, List.map_cons, if_pos rfl]
  congr 1
  conv => rhs; rw [← List.map_id S]
  exact List.map_congr_left fun u hu => by rw [if_neg fun e => (List.nodup_cons.1 h).1 (List.mem_map.2 ⟨u, hu, e⟩)]; rfl
/-- Threads of one priority, gone round i times. -/
def yt (p : Int) (m i : Nat) : List Th := (List.range m).map fun j : Nat => ⟨(((j + i) % m : Nat) : Int), p, 2, 2⟩
def y0 (p : Int) (k : Nat) : List Th := (List.range k).map fun j : Nat => ⟨(j : Int), p, 2, 2⟩
theorem y0_snoc (p : Int) (k : Nat) : y0 p k ++ [⟨(k : Int), p, 2, 2⟩] = y0 p (k + 1) := by simp [y0, List.range_succ]
theorem y0_no (p : Int) (k : Nat) : ¬ hasS (y0 p k) (k : Int) := by
  rintro ⟨t, ht, h⟩
  obtain ⟨j, hj, rfl⟩ := List.mem_map.1 ht
  have := List.mem_range.1 hj
  dsimp only at h; omega
theorem y0_yt (p : Int) (m : Nat) : y0 p m = yt p m 0 := List.map_congr_left fun j hj => by
  have := List.mem_range.1 hj
  rw [Nat.add_zero, Nat.mod_eq_of_lt this]
theorem yt_prio {p : Int} {m i : Nat} : ∀ t ∈ yt p m i, t.prio = p := fun t ht => by
  obtain ⟨j, _, rfl⟩ := List.mem_map.1 ht; rfl
theorem yt_cons (p : Int) (m i : Nat) : yt p (m + 1) i = ⟨((i % (m + 1) : Nat) : Int), p, 2, 2⟩ :: (List.range m).map fun j => ⟨(((j + 1 + i) % (m + 1) : Nat) : Int), p, 2, 2⟩ := by
  rw [yt, List.range_succ_eq_map, List.map_cons, List.map_map, Nat.zero_add]
  rfl
theorem yt_next (p : Int) (m i : Nat) : ((List.range m).map fun j => (⟨(((j + 1 + i) % (m + 1) : Nat) : Int), p, 2, 2⟩ : Th)) ++ [⟨((i % (m + 1) : Nat) : Int), p, 2, 2⟩] = yt p (m + 1) (i + 1) := by
  rw [yt, List.range_succ, List.map_append]
  congr 1
  · exact List.map_congr_left fun j _ => by rw [show j + 1 + i = j + (i + 1) by omega]
  · simp only [List.map_cons, List.map_nil]
    rw [show m + (i + 1) = i + (m + 1) by omega, Nat.add_mod_right]
theorem yt_yield {p : Int} {m i : Nat} (hn : NdS (yt p (m + 1) i)) : yieldS (yt p (m + 1) i) = yt p (m + 1) (i + 1) := by
  rw [yieldS, top_same yt_prio]
  rw [yt_cons] at hn ⊢
  simp only [List.head?_cons]
  rw [rnd_head hn, yt_next]
theorem yt_run (p : Int) (m i : Nat) : runS (yt p (m + 1) i) = ((i % (m + 1) : Nat) : Int) := by
  rw [runS, top_same yt_prio, yt_cons]; rfl
theorem yt_row (p m i : Nat) : rowA (yt (p : Int) m i) p = (List.range m).map fun j => (((j + i) % m : Nat) : Int) := by
  rw [rowA, List.filter_eq_self.2 fun t ht => by simp only [decide_eq_true_eq]; exact yt_prio t ht]
  rw [yt, List.map_map]; rfl
theorem yt_get {m i j : Nat} (h : j < m) : ((List.range m).map fun j => (((j + i) % m : Nat) : Int))[j]? = some (((j + i) % m : Nat) : Int) := by
  rw [List.getElem?_map, List.getElem?_range h]; rfl

set_option maxHeartbeats 1000000 in
theorem yields_ok (n k r : Int) (hn : 0 ≤ n ∧ n ≤ 255) (hk : 0 ≤ k ∧ k ≤ 255) (hr : 0 ≤ r ∧ r ≤ 255) : FSpec Try.prog 7 [.int .u8 n, .int .u8 k, .int .u8 r] noRd [] (fun _ : Unit => .bool true) (fun _ => True) (fun _ => []) := by
  refine FSpec.intro (rs := [.tmp 6]) (by kernel_rfl) Try.func7 rfl Try.ntmps7 (by rfl) rfl ?_
  intro F _
  change TC _ _ _ _ _ _ _ (sepL [_])
  refine TC.seq ?_
  refine TC.region ?_
  refine q rfl rfl (asg (v := .bool _) rfl) ?_
  refine TL.nil (nt ?_)
  refine TC.seq ?_
  refine TC.seq ?_
  refine TC.region ?_
  refine e rfl ?_
  refine cl alive_ok rfl (picked_nil _) trivial ?_
  intro _ _
  change TL _ _ _ _ _ _ _ _ (sepL [_])
  first | refine q rfl rfl (notD rfl) ?_ | refine q rfl rfl (notB rfl) ?_
  refine TL.nil (nt ?_)
  refine TC.condF rfl ?_
  refine TC.skip (nt ?_)
  refine TC.seq ?_
  refine TC.region ?_
  refine q rfl rfl (mv (v := .int _ _) rfl) ?_
  first | refine q rfl rfl (conv .u8 .i64 rfl rfl rfl (wi64 (by omega) (by omega))) ?_ | refine q rfl rfl (conv .u8 .i64 rfl rfl rfl rfl) ?_
  first | refine q rfl rfl (remI rfl rfl (by omega) (by omega)) ?_ | refine q rfl rfl (rem rfl rfl (by omega) rfl) ?_
  first | refine q rfl rfl (addI rfl rfl (by omega) (by omega)) ?_ | refine q rfl rfl (add rfl rfl rfl) ?_
  refine q rfl rfl (mv (v := .int _ _) rfl) ?_
  first | refine q rfl rfl (conv .u8 .i64 rfl rfl rfl (wi64 (by omega) (by omega))) ?_ | refine q rfl rfl (conv .u8 .i64 rfl rfl rfl rfl) ?_
  first | refine q rfl rfl (remI rfl rfl (by omega) (by omega)) ?_ | refine q rfl rfl (rem rfl rfl (by omega) rfl) ?_
  refine q rfl rfl (asg (v := .int _ _) rfl) ?_
  refine q rfl rfl (asg (v := .int _ _) rfl) ?_
  refine TL.nil (nt ?_)
  refine TC.seq ?_
  obtain ⟨m, hm⟩ : ∃ m : Nat, 1 + n % 30 = ((m + 1 : Nat) : Int) := ⟨(n % 30).toNat, by omega⟩
  obtain ⟨p, hp⟩ : ∃ p : Nat, r % 8 = p := ⟨(r % 8).toNat, by omega⟩
  obtain ⟨K, hK⟩ : ∃ K : Nat, k % 100 = K := ⟨(k % 100).toNat, by omega⟩
  rw [hm, hp]
  have hm30 : m < 30 := by omega
  have hp8 : p < 8 := by omega
  refine TC.region ?_
  refine e rfl ?_
  refine cl rnew_ok rfl (picked_nil _) trivial ?_
  intro a _
  change TL _ _ _ _ _ _ _ _ (sepL [_, _])
  refine q rfl rfl (asg (v := .pointer _) rfl) ?_
  refine TL.nil (nt ?_)
  refine TC.seq ?_
  refine TC.seq ?_
  refine TC.region ?_
  refine q rfl rfl (asg (v := .int _ _) rfl) ?_
  refine TL.nil (nt ?_)
  refine TC.block ?_
  refine TC.loop (ι := Nat) (fun i => i ≤ m + 1 ∧ RJ (y0 p i) i) (fun i => [(1, .int .u8 k), (7, .int .i64 ((m + 1 : Nat) : Int)), (8, .int .i64 (p : Int)), (9, .pointer (some ⟨a, 0, none⟩)), (10, .int .i64 (i : Int))]) (fun i => sepL [isQ a (y0 p i), F]) (fun i => m + 1 - i) 0 ⟨by omega, RJ.nil 0⟩ ⟨rfl, rfl, rfl, rfl, rfl, trivial⟩ (ent_take 0 rfl (ent_take 0 rfl (ent_nil _))) ?_
  rintro i ⟨hi, hJ⟩ ρ0
  dsimp only [updL] at hi hJ ⊢
  refine TC.seq ?_
  refine TC.seq ?_
  refine TC.region ?_
  refine q rfl rfl (mv (v := .int _ _) rfl) ?_
  refine q rfl rfl (mv (v := .int _ _) rfl) ?_
  refine q rfl rfl (lss rfl rfl) ?_
  refine TL.nil (nt ?_)
  first | refine TC.condD rfl (fun hlt => ?_) (fun hlt => ?_) | refine TC.cond rfl (fun hlt => ?_) (fun hlt => ?_)
  · have hv : addS (y0 p i) i p 2 = (y0 p (i + 1), 0) := by rw [addS, if_neg (by omega), if_neg (y0_no _ _), y0_snoc]
    have hJ2 := hJ.add i p 2
    rw [hv] at hJ2
    have hlen := hJ.len
    refine TC.skip (nt ?_)
    refine TC.seq ?_
    refine TC.block ?_
    refine TC.seq ?_
    refine TC.region ?_
    refine q rfl rfl (mv (v := .pointer _) rfl) ?_
    refine q rfl rfl (mv (v := .int _ _) rfl) ?_
    refine q rfl rfl (mv (v := .int _ _) rfl) ?_
    refine e rfl ?_
    refine cl (add_ok a (y0 p i) (by omega) i p 2) rfl (picked_cons 0 rfl (picked_nil _)) trivial ?_
    intro _ _
    change TL _ _ _ _ _ _ _ _ (sepL [_, _])
    rw [hv]
    dsimp only
    refine q rfl rfl (neI rfl rfl) ?_
    refine TL.nil (nt ?_)
    refine TC.condD rfl (fun hc1 => absurd hc1 (by decide)) (fun hc1 => ?_)
    refine TC.skip (nb (nt ?_))
    refine TC.region ?_
    refine q rfl rfl (mv (v := .int _ _) rfl) ?_
    first | refine q rfl rfl (addI rfl rfl (by omega) (by omega)) ?_ | refine q rfl rfl (add rfl rfl rfl) ?_
    refine q rfl rfl (asg (v := .int _ _) rfl) ?_
    refine TL.nil (nt ?_)
    exact ⟨rfl, (i + 1), ⟨by omega, hJ2⟩, (by omega), ⟨rfl, rfl, rfl, rfl, rfl, trivial⟩, (ent_take 0 rfl (ent_take 0 rfl (ent_nil _)))⟩
  · obtain rfl : i = m + 1 := by omega
    rw [y0_yt] at hJ ⊢
    refine TC.exit (et (et (eb (nt ?_))))
    refine TC.seq ?_
    refine TC.seq ?_
    refine TC.region ?_
    refine q rfl rfl (asg (v := .int _ _) rfl) ?_
    refine TL.nil (nt ?_)
    refine TC.block ?_
    refine TC.loop (ι := Nat) (fun j => j ≤ K ∧ RJ (yt p (m + 1) j) (m + 1)) (fun j => [(1, .int .u8 k), (7, .int .i64 ((m + 1 : Nat) : Int)), (8, .int .i64 (p : Int)), (9, .pointer (some ⟨a, 0, none⟩)), (11, .int .i64 ((j : Int) + 1))]) (fun j => sepL [isQ a (yt p (m + 1) j), F]) (fun j => K - j) 0 ⟨Nat.zero_le _, hJ⟩ ⟨rfl, rfl, rfl, rfl, rfl, trivial⟩ (ent_take 0 rfl (ent_take 0 rfl (ent_nil _))) ?_
    rintro j ⟨hj, hJ1⟩ ρ1
    dsimp only [updL] at hj hJ1 ⊢
    refine TC.seq ?_
    refine TC.seq ?_
    refine TC.region ?_
    refine q rfl rfl (mv (v := .int _ _) rfl) ?_
    refine q rfl rfl (mv (v := .int _ _) rfl) ?_
    first | refine q rfl rfl (conv .u8 .i64 rfl rfl rfl (wi64 (by omega) (by omega))) ?_ | refine q rfl rfl (conv .u8 .i64 rfl rfl rfl rfl) ?_
    first | refine q rfl rfl (remI rfl rfl (by omega) (by omega)) ?_ | refine q rfl rfl (rem rfl rfl (by omega) rfl) ?_
    refine q rfl rfl (leq rfl rfl) ?_
    refine TL.nil (nt ?_)
    first | refine TC.condD rfl (fun hle => ?_) (fun hle => ?_) | refine TC.cond rfl (fun hle => ?_) (fun hle => ?_)
    · have hJ2 := hJ1.yield
      have hy := yt_yield hJ1.inv.nd
      rw [hy] at hJ2
      have hlen := hJ1.len
      refine TC.skip (nt ?_)
      refine TC.seq ?_
      refine TC.block ?_
      refine TC.seq ?_
      refine TC.draw _ [] [(0, false), (2, false), (3, false), (4, false), (1, true), (5, false)] (by kernel_rfl) (by kernel_rfl) (ent_nil _) ?_
      refine dq rfl rfl rfl (mv (v := .pointer _) rfl) ?_
      refine dq rfl rfl rfl (mv (v := .int _ _) rfl) ?_
      refine dq rfl rfl rfl (mv (v := .int _ _) rfl) ?_
      first | refine dq rfl rfl rfl (remI rfl rfl (by omega) (by omega)) ?_ | refine dq rfl rfl rfl (rem rfl rfl (by omega) rfl) ?_
      refine de rfl rfl ?_
      refine cl (yield_ok a (yt p (m + 1) j) (by omega) hJ1.inv) rfl (picked_cons 0 rfl (picked_nil _)) trivial ?_
      intro _ _
      change ent _ _ ∧ TD _ _ _ _ _ _ _ _ _ _ (sepL [_, _])
      refine ⟨(by repeat (first | exact ent_nil _ | refine ent_take 0 rfl ?_ | refine ent_take 1 rfl ?_ | refine ent_take 2 rfl ?_ | refine ent_take 3 rfl ?_ | refine ent_take 4 rfl ?_ | refine ent_take 5 rfl ?_ | refine ent_take 6 rfl ?_ | refine ent_take 7 rfl ?_)), ?_⟩
      rw [hy, yt_run]
      refine dq rfl rfl rfl (neI rfl rfl) ?_
      refine TD.nil (nt ?_)
      refine TC.condD rfl (fun hc2 => absurd hc2 (by simp)) (fun hc2 => ?_)
      refine TC.skip (nb (nt ?_))
      refine TC.region ?_
      refine q rfl rfl (mv (v := .int _ _) rfl) ?_
      first | refine q rfl rfl (addI rfl rfl (by omega) (by omega)) ?_ | refine q rfl rfl (add rfl rfl rfl) ?_
      refine q rfl rfl (asg (v := .int _ _) rfl) ?_
      refine TL.nil (nt ?_)
      exact ⟨rfl, (j + 1), ⟨by omega, hJ2⟩, (by omega), ⟨rfl, rfl, rfl, rfl, rfl, trivial⟩, (ent_take 0 rfl (ent_take 0 rfl (ent_nil _)))⟩
    · obtain rfl : j = K := by omega
      have hrR : rowR (yt p (m + 1) j) (p : Int) = (List.range (m + 1)).map fun i => (((i + j) % (m + 1) : Nat) : Int) := by rw [rowR, if_pos (by omega), Int.toNat_natCast, yt_row]
      have hlen := hJ1.len
      refine TC.exit (et (et (eb (nt ?_))))
      refine TC.seq ?_
      refine TC.region ?_
      refine q rfl rfl (mv (v := .pointer _) rfl) ?_
      refine q rfl rfl (mv (v := .int _ _) rfl) ?_
      refine e rfl ?_
      refine cl (row_ok a (yt p (m + 1) j) (by omega) p) rfl (picked_cons 0 rfl (picked_nil _)) trivial ?_
      intro y _
      change TL _ _ _ _ _ _ _ _ (sepL [_, _, _])
      rw [hrR, List.length_map, List.length_range]
      have hl : ((List.range (m + 1)).map fun i => (((i + j) % (m + 1) : Nat) : Int)).length = m + 1 := by rw [List.length_map, List.length_range]
      have hil := ints_length ((List.range (m + 1)).map fun i => (((i + j) % (m + 1) : Nat) : Int))
      refine q rfl rfl (asg (v := .slice _ _ _) rfl) ?_
      refine TL.nil (nt ?_)
      refine TC.seq ?_
      refine TC.seq ?_
      refine TC.region ?_
      refine q rfl rfl (mv (v := .slice _ _ _) rfl) ?_
      refine q rfl rfl (len 3 1 rfl rfl) ?_
      refine q rfl rfl (mv (v := .int _ _) rfl) ?_
      refine q rfl rfl (neI rfl rfl) ?_
      refine TL.nil (nt ?_)
      refine TC.condD rfl (fun hc3 => absurd hc3 (by simp)) (fun hc3 => ?_)
      refine TC.skip (nt ?_)
      refine TC.seq ?_
      refine TC.seq ?_
      refine TC.region ?_
      refine q rfl rfl (asg (v := .int _ _) rfl) ?_
      refine TL.nil (nt ?_)
      refine TC.block ?_
      refine TC.loop (ι := Nat) (fun i => i ≤ m + 1) (fun i => [(1, .int .u8 k), (7, .int .i64 ((m + 1 : Nat) : Int)), (12, .slice y.1 (m + 1) y.2), (13, .int .i64 (i : Int))]) (fun i => sepL [slc 3 1 y.1 (m + 1) y.2 (ints ((List.range (m + 1)).map fun i => (((i + j) % (m + 1) : Nat) : Int))), F]) (fun i => m + 1 - i) 0 (Nat.zero_le _) ⟨rfl, rfl, rfl, rfl, trivial⟩ (ent_take 0 rfl (ent_take 1 rfl (ent_nil _))) ?_
      rintro i hi ρ2
      dsimp only [updL] at hi ⊢
      refine TC.seq ?_
      refine TC.seq ?_
      refine TC.region ?_
      refine q rfl rfl (mv (v := .int _ _) rfl) ?_
      refine q rfl rfl (mv (v := .int _ _) rfl) ?_
      refine q rfl rfl (lss rfl rfl) ?_
      refine TL.nil (nt ?_)
      first | refine TC.condD rfl (fun hlt => ?_) (fun hlt => ?_) | refine TC.cond rfl (fun hlt => ?_) (fun hlt => ?_)
      · have hlt2 : i < m + 1 := by omega
        have hg := yt_get (i := j) hlt2
        have hpos : 0 < (ints ((List.range (m + 1)).map fun i => (((i + j) % (m + 1) : Nat) : Int))).length := by omega
        refine TC.skip (nt ?_)
        refine TC.seq ?_
        refine TC.block ?_
        refine TC.seq ?_
        refine TC.draw _ [] [(0, false), (1, false), (2, false), (3, false), (4, false), (5, false), (6, false), (7, false), (8, false), (9, false), (10, false), (11, false)] (by kernel_rfl) (by kernel_rfl) (ent.refl _) ?_
        refine dq rfl rfl rfl (mv (v := .slice _ _ _) rfl) ?_
        refine dq rfl rfl rfl (mv (v := .int _ _) rfl) ?_
        first | refine dq rfl rfl rfl (ixS 3 1 rfl rfl rfl (by omega) (by first | assumption | (simp [ints_length] <;> omega))) ?_ | refine dq rfl rfl rfl (ixJ 3 1 rfl rfl rfl (by omega) (by omega) (by first | assumption | (simp [ints_length] <;> omega))) ?_ | refine dq rfl rfl rfl (ix 3 1 rfl rfl rfl (by omega) (by omega) rfl) ?_
        first | refine dq rfl rfl rfl (ld rfl rfl rfl) ?_ | refine dq rfl rfl rfl (ldS rfl rfl (ints_get hg)) ?_ | refine dq rfl rfl rfl (ldS rfl rfl rfl) ?_
        refine dq rfl rfl rfl (mv (v := .int _ _) rfl) ?_
        refine dq rfl rfl rfl (mv (v := .int _ _) rfl) ?_
        first | refine dq rfl rfl rfl (conv .u8 .i64 rfl rfl rfl (wi64 (by omega) (by omega))) ?_ | refine dq rfl rfl rfl (conv .u8 .i64 rfl rfl rfl rfl) ?_
        first | refine dq rfl rfl rfl (remI rfl rfl (by omega) (by omega)) ?_ | refine dq rfl rfl rfl (rem rfl rfl (by omega) rfl) ?_
        rw [hK]
        first | refine dq rfl rfl rfl (addI rfl rfl (by omega) (by omega)) ?_ | refine dq rfl rfl rfl (add rfl rfl rfl) ?_
        refine dq rfl rfl rfl (mv (v := .int _ _) rfl) ?_
        first | refine dq rfl rfl rfl (remI rfl rfl (by omega) (by omega)) ?_ | refine dq rfl rfl rfl (rem rfl rfl (by omega) rfl) ?_
        refine dq rfl rfl rfl (neI rfl rfl) ?_
        refine TD.nil (nt ?_)
        refine TC.condD rfl (fun hc4 => absurd hc4 (by simp)) (fun hc4 => ?_)
        refine TC.skip (nb (nt ?_))
        refine TC.region ?_
        refine q rfl rfl (mv (v := .int _ _) rfl) ?_
        first | refine q rfl rfl (addI rfl rfl (by omega) (by omega)) ?_ | refine q rfl rfl (add rfl rfl rfl) ?_
        refine q rfl rfl (asg (v := .int _ _) rfl) ?_
        refine TL.nil (nt ?_)
        exact ⟨rfl, (i + 1), (by omega), (by omega), ⟨rfl, rfl, rfl, rfl, trivial⟩, (ent_take 0 rfl (ent_take 0 rfl (ent_nil _)))⟩
      · refine TC.exit (et (et (eb (nt ?_))))
        refine TC.seq ?_
        refine TC.region ?_
        refine q rfl rfl (asg (v := .bool _) rfl) ?_
        refine TL.nil (nt ?_)
        refine TC.ret ?_
        exact Ret.i () [_] ⟨rfl, trivial⟩ rfl trivial (ent_take 1 rfl (ent_nil _))

end Go.Proofs.Ytncafknmdmoaoaa
