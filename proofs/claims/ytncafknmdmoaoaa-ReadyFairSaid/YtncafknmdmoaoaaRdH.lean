/-
  Proved here: what functions of this program compute, each as a contract over symbolic states, under the premises that each theorem names (most lines printed by a program of the prover).
-/
import Derived.Test.YtncafknmdmoaoaaRdG
namespace Go.Proofs.Ytncafknmdmoaoaa
open Go Go.QM
def thW (W : Nat → Int) (p : Int) (j : Nat) : Th := ⟨(j : Int), p, W j, W j⟩
/-- The i-th one runs, of m + 1, and has n left. -/
def fl (W : Nat → Int) (p : Int) (m i : Nat) (n : Int) : List Th := ⟨((i % (m + 1) : Nat) : Int), p, W (i % (m + 1)), n⟩ :: (List.range m).map fun j : Nat => thW W p ((j + 1 + i) % (m + 1))
def f0 (W : Nat → Int) (p : Int) (k : Nat) : List Th := (List.range k).map (thW W p)
theorem f0_snoc (W : Nat → Int) (p : Int) (k : Nat) : f0 W p k ++ [thW W p k] = f0 W p (k + 1) := by simp [f0, List.range_succ]
theorem f0_no (W : Nat → Int) (p : Int) (k : Nat) : ¬ hasS (f0 W p k) (k : Int) := by
  rintro ⟨t, ht, h⟩
  obtain ⟨j, hj, rfl⟩ := List.mem_map.1 ht
  have := List.mem_range.1 hj
  simp only [thW] at h; omega
theorem f0_fl (W : Nat → Int) (p : Int) (m : Nat) : f0 W p (m + 1) = fl W p m 0 (W 0) := by
  rw [f0, List.range_succ_eq_map, List.map_cons, List.map_map, fl, Nat.zero_mod]
  congr 1
  refine List.map_congr_left fun j hj => ?_
  have := List.mem_range.1 hj
  rw [Function.comp_apply, Nat.add_zero, Nat.mod_eq_of_lt (by omega)]
theorem fl_prio {W : Nat → Int} {p : Int} {m i : Nat} {n : Int} : ∀ t ∈ fl W p m i n, t.prio = p := fun t ht => by
  rcases List.mem_cons.1 ht with rfl | ht
  · rfl
  · obtain ⟨j, _, rfl⟩ := List.mem_map.1 ht; rfl
theorem fl_run (W : Nat → Int) (p : Int) (m i : Nat) (n : Int) : runS (fl W p m i n) = ((i % (m + 1) : Nat) : Int) := by
  rw [runS, top_same fl_prio]; rfl
theorem fl_left {W : Nat → Int} {p : Int} {m i : Nat} {n : Int} (hn : NdS (fl W p m i n)) : leftS (fl W p m i n) ((i % (m + 1) : Nat) : Int) = n :=
  left_of hn (t := ⟨((i % (m + 1) : Nat) : Int), p, W (i % (m + 1)), n⟩) (by simp [fl])
theorem fl_next (W : Nat → Int) (p : Int) (m i : Nat) : ((List.range m).map fun j : Nat => thW W p ((j + 1 + i) % (m + 1))) ++ [thW W p (i % (m + 1))] = fl W p m (i + 1) (W ((i + 1) % (m + 1))) := by
  have h : fl W p m (i + 1) (W ((i + 1) % (m + 1))) = (List.range (m + 1)).map fun j : Nat => thW W p ((j + (i + 1)) % (m + 1)) := by
    rw [List.range_succ_eq_map, List.map_cons, List.map_map, fl, Nat.zero_add]
    rfl
  rw [h, List.range_succ, List.map_append]
  congr 1
  · exact List.map_congr_left fun j _ => by rw [show j + 1 + i = j + (i + 1) by omega]
  · simp only [List.map_cons, List.map_nil]
    rw [show m + (i + 1) = i + (m + 1) by omega, Nat.add_mod_right]
theorem fl_tick1 {W : Nat → Int} {p : Int} {m i : Nat} (hn : NdS (fl W p m i 1)) : tickS (fl W p m i 1) = fl W p m (i + 1) (W ((i + 1) % (m + 1))) := by
  rw [tickS, top_same fl_prio]
  rw [← fl_next]
  simp only [fl, List.head?_cons] at hn ⊢
  rw [if_pos trivial, rnd_head hn]; rfl
theorem fl_tick {W : Nat → Int} {p : Int} {m i : Nat} {n : Int} (hn : NdS (fl W p m i n)) (h1 : n ≠ 1) : tickS (fl W p m i n) = fl W p m i (n - 1) := by
  rw [tickS, top_same fl_prio]
  simp only [fl, List.head?_cons] at hn ⊢
  rw [if_neg h1, setL_head hn]
/-- The state while n ticks of the i-th one's slice are left. -/
def flx (W : Nat → Int) (p : Int) (m i : Nat) (n : Int) : List Th := if n = 0 then fl W p m (i + 1) (W ((i + 1) % (m + 1))) else fl W p m i n
theorem flx_tick {W : Nat → Int} {p : Int} {m i : Nat} {n : Int} (hn : NdS (fl W p m i n)) : tickS (fl W p m i n) = flx W p m i (n - 1) := by
  rw [flx]
  by_cases h : n = 1
  · rw [if_pos (by omega)]; subst h; exact fl_tick1 hn
  · rw [if_neg (by omega)]; exact fl_tick hn h
def wF (l : List Int) (j : Nat) : Int := 1 + l.getD j 0 % 16

set_option maxHeartbeats 1000000 in
theorem fair_ok (ad : Option Addr) (l : List Int) (cap : Nat) (r d : Int) (hl : ∀ x ∈ l, 0 ≤ x ∧ x ≤ 255) (hr : 0 ≤ r ∧ r ≤ 255) (hd : 0 ≤ d ∧ d ≤ 255) : FSpec Try.prog 5 [.slice ad l.length cap, .int .u8 r, .int .u8 d] (fun F => ∃ E, RdS F E ad (nums .u8 l)) [] (fun _ : Unit => .bool true) (fun _ => True) (fun _ => []) := by
  refine FSpec.intro (rs := [.tmp 6]) (by kernel_rfl) Try.func5 rfl Try.ntmps5 (by rfl) rfl ?_
  intro F ⟨E, hF⟩
  change TC _ _ _ _ _ _ _ (sepL [_])
  haveI : RdSI F ad E (nums .u8 l) := ⟨hF⟩
  have hnl := nums_length .u8 l
  refine TC.seq ?_
  refine TC.region ?_
  refine q rfl rfl (asg (v := .bool _) rfl) ?_
  refine TL.nil (nt ?_)
  refine TC.seq ?_
  refine TC.seq ?_
  refine TC.region ?_
  refine e rfl ?_
  refine cl alive_ok rfl (picked_nil _) trivial ?_
  intro _ _
  change TL _ _ _ _ _ _ _ _ (sepL [_])
  first | refine q rfl rfl (notD rfl) ?_ | refine q rfl rfl (notB rfl) ?_
  refine TL.nil (nt ?_)
  refine TC.condF rfl ?_
  refine TC.skip (nt ?_)
  refine TC.seq ?_
  refine TC.seq ?_
  refine TC.region ?_
  refine q rfl rfl (mv (v := .slice _ _ _) rfl) ?_
  refine q rfl rfl (len 5 1 rfl rfl) ?_
  refine q rfl rfl (eqI rfl rfl) ?_
  refine q rfl rfl (mv (v := .bool _) rfl) ?_
  refine TL.split 17 rfl (fun h0 => ?_) (fun h0 => ?_)
  · have h0 := of_decide_eq_true h0
    refine qs rfl rfl ?_
    refine qs rfl rfl ?_
    refine qs rfl rfl ?_
    first | refine q rfl rfl (pkT rfl rfl) ?_ | refine q rfl rfl (pkF rfl rfl) ?_
    refine TL.nil (nt ?_)
    refine TC.condT rfl ?_
    refine TC.seq ?_
    refine TC.region ?_
    refine q rfl rfl (asg (v := .bool _) rfl) ?_
    refine TL.nil (nt ?_)
    refine TC.ret (rt ?_)
    exact Ret.i () [_] ⟨rfl, trivial⟩ rfl trivial (ent_take 0 rfl (ent_nil _))
  · have h0 := of_decide_eq_false h0
    refine qg rfl rfl rfl (mv (v := .slice _ _ _) rfl) ?_
    refine qg rfl rfl rfl (len 5 1 rfl rfl) ?_
    refine qg rfl rfl rfl (gtr rfl rfl) ?_
    first | refine q rfl rfl (pkT rfl rfl) ?_ | refine q rfl rfl (pkF rfl rfl) ?_
    refine TL.nil (nt ?_)
    first | refine TC.condD rfl (fun h20 => ?_) (fun h20 => ?_) | refine TC.cond rfl (fun h20 => ?_) (fun h20 => ?_)
    · refine TC.seq ?_
      refine TC.region ?_
      refine q rfl rfl (asg (v := .bool _) rfl) ?_
      refine TL.nil (nt ?_)
      refine TC.ret (rt ?_)
      exact Ret.i () [_] ⟨rfl, trivial⟩ rfl trivial (ent_take 0 rfl (ent_nil _))
    · obtain ⟨m, hm⟩ : ∃ m, l.length = m + 1 := ⟨l.length - 1, by omega⟩
      obtain ⟨p, hp⟩ : ∃ p : Nat, r % 8 = p := ⟨(r % 8).toNat, by omega⟩
      obtain ⟨K, hK⟩ : ∃ K : Nat, d % 4 + 1 = K := ⟨(d % 4 + 1).toNat, by omega⟩
      have hp8 : p < 8 := by omega
      have hm20 : m < 20 := by omega
      have hw : ∀ j x, l[j]? = some x → wF l j = 1 + x % 16 := fun j x hx => by rw [wF, List.getD_eq_getElem?_getD, hx]; rfl
      have hwr : ∀ j, 1 ≤ wF l j ∧ wF l j ≤ 16 := fun j => by rw [wF]; omega
      rw [hm]
      refine TC.skip (nt ?_)
      refine TC.seq ?_
      refine TC.region ?_
      refine e rfl ?_
      refine cl rnew_ok rfl (picked_nil _) trivial ?_
      intro a _
      change TL _ _ _ _ _ _ _ _ (sepL [_, _])
      refine q rfl rfl (asg (v := .pointer _) rfl) ?_
      refine TL.nil (nt ?_)
      refine TC.seq ?_
      refine TC.seq ?_
      refine TC.region ?_
      refine q rfl rfl (asg (v := .int _ _) rfl) ?_
      refine TL.nil (nt ?_)
      refine TC.block ?_
      refine TC.loop (ι := Nat) (fun i => i ≤ m + 1 ∧ RJ (f0 (wF l) p i) i) (fun i => [(0, .slice ad (m + 1) cap), (1, .int .u8 r), (2, .int .u8 d), (7, .pointer (some ⟨a, 0, none⟩)), (8, .int .i64 (i : Int))]) (fun i => sepL [isQ a (f0 (wF l) p i), F]) (fun i => m + 1 - i) 0 ⟨by omega, RJ.nil 0⟩ ⟨rfl, rfl, rfl, rfl, rfl, trivial⟩ (ent_take 0 rfl (ent_take 0 rfl (ent_nil _))) ?_
      rintro i ⟨hi, hJ⟩ ρ0
      dsimp only [updL] at hi hJ ⊢
      refine TC.seq ?_
      refine TC.seq ?_
      refine TC.region ?_
      refine q rfl rfl (mv (v := .int _ _) rfl) ?_
      refine q rfl rfl (mv (v := .slice _ _ _) rfl) ?_
      refine q rfl rfl (len 5 1 rfl rfl) ?_
      refine q rfl rfl (lss rfl rfl) ?_
      refine TL.nil (nt ?_)
      first | refine TC.condD rfl (fun hlt => ?_) (fun hlt => ?_) | refine TC.cond rfl (fun hlt => ?_) (fun hlt => ?_)
      · have hlt2 : i < l.length := by omega
        obtain ⟨x, hx⟩ : ∃ x, l[i]? = some x := ⟨l[i], List.getElem?_eq_getElem hlt2⟩
        have hxr := hl x (List.mem_of_getElem? hx)
        have hpos : 0 < (nums .u8 l).length := by omega
        have hwx := hw i x hx
        have hv : addS (f0 (wF l) p i) i p (1 + x % 16) = (f0 (wF l) p (i + 1), 0) := by rw [addS, if_neg (by omega), if_neg (f0_no _ _ _), ← f0_snoc, thW, hwx]
        have hJ2 := hJ.add i p (1 + x % 16)
        rw [hv] at hJ2
        have hlen := hJ.len
        refine TC.skip (nt ?_)
        refine TC.seq ?_
        refine TC.block ?_
        refine TC.seq ?_
        refine TC.region ?_
        refine q rfl rfl (mv (v := .pointer _) rfl) ?_
        refine q rfl rfl (mv (v := .int _ _) rfl) ?_
        refine q rfl rfl (mv (v := .int _ _) rfl) ?_
        first | refine q rfl rfl (conv .u8 .i64 rfl rfl rfl (wi64 (by omega) (by omega))) ?_ | refine q rfl rfl (conv .u8 .i64 rfl rfl rfl rfl) ?_
        first | refine q rfl rfl (remI rfl rfl (by omega) (by omega)) ?_ | refine q rfl rfl (rem rfl rfl (by omega) rfl) ?_
        rw [hp]
        refine q rfl rfl (mv (v := .slice _ _ _) rfl) ?_
        refine q rfl rfl (mv (v := .int _ _) rfl) ?_
        first | refine q rfl rfl (ixS 5 1 rfl rfl rfl (by omega) (by first | assumption | (simp [ints_length] <;> omega))) ?_ | refine q rfl rfl (ixJ 5 1 rfl rfl rfl (by omega) (by omega) (by first | assumption | (simp [ints_length] <;> omega))) ?_ | refine q rfl rfl (ix 5 1 rfl rfl rfl (by omega) (by omega) rfl) ?_
        first | refine q rfl rfl (ld rfl rfl rfl) ?_ | refine q rfl rfl (ldS rfl rfl (nums_get hx)) ?_ | refine q rfl rfl (ldS rfl rfl rfl) ?_
        first | refine q rfl rfl (conv .u8 .i64 rfl rfl rfl (wi64 (by omega) (by omega))) ?_ | refine q rfl rfl (conv .u8 .i64 rfl rfl rfl rfl) ?_
        first | refine q rfl rfl (remI rfl rfl (by omega) (by omega)) ?_ | refine q rfl rfl (rem rfl rfl (by omega) rfl) ?_
        first | refine q rfl rfl (addI rfl rfl (by omega) (by omega)) ?_ | refine q rfl rfl (add rfl rfl rfl) ?_
        refine e rfl ?_
        refine cl (add_ok a (f0 (wF l) p i) (by omega) i p (1 + x % 16)) rfl (picked_cons 0 rfl (picked_nil _)) trivial ?_
        intro _ _
        change TL _ _ _ _ _ _ _ _ (sepL [_, _])
        rw [hv]
        dsimp only
        refine q rfl rfl (neI rfl rfl) ?_
        refine TL.nil (nt ?_)
        refine TC.condD rfl (fun hc1 => absurd hc1 (by decide)) (fun hc1 => ?_)
        refine TC.skip (nb (nt ?_))
        refine TC.region ?_
        refine q rfl rfl (mv (v := .int _ _) rfl) ?_
        first | refine q rfl rfl (addI rfl rfl (by omega) (by omega)) ?_ | refine q rfl rfl (add rfl rfl rfl) ?_
        refine q rfl rfl (asg (v := .int _ _) rfl) ?_
        refine TL.nil (nt ?_)
        exact ⟨rfl, (i + 1), ⟨by omega, hJ2⟩, (by omega), ⟨rfl, rfl, rfl, rfl, rfl, trivial⟩, (ent_take 0 rfl (ent_take 0 rfl (ent_nil _)))⟩
      · obtain rfl : i = m + 1 := by omega
        rw [f0_fl] at hJ ⊢
        refine TC.exit (et (et (eb (nt ?_))))
        refine TC.seq ?_
        refine TC.seq ?_
        refine TC.region ?_
        refine q rfl rfl (asg (v := .int _ _) rfl) ?_
        refine TL.nil (nt ?_)
        refine TC.block ?_
        refine TC.loop (ι := Nat) (fun k => k ≤ K ∧ RJ (fl (wF l) p m (k * (m + 1)) (wF l ((k * (m + 1)) % (m + 1)))) (m + 1)) (fun k => [(0, .slice ad (m + 1) cap), (1, .int .u8 r), (2, .int .u8 d), (7, .pointer (some ⟨a, 0, none⟩)), (9, .int .i64 (k : Int))]) (fun k => sepL [isQ a (fl (wF l) p m (k * (m + 1)) (wF l ((k * (m + 1)) % (m + 1)))), F]) (fun k => K - k) 0 ⟨by omega, by rw [Nat.zero_mul, Nat.zero_mod]; exact hJ⟩ ⟨rfl, rfl, rfl, rfl, rfl, trivial⟩ (ent_takeE 0 rfl (by rw [Nat.zero_mul, Nat.zero_mod]) (ent_take 0 rfl (ent_nil _))) ?_
        rintro k ⟨hk, hJ1⟩ ρ1
        dsimp only [updL] at hk hJ1 ⊢
        refine TC.seq ?_
        refine TC.seq ?_
        refine TC.region ?_
        refine q rfl rfl (mv (v := .int _ _) rfl) ?_
        refine q rfl rfl (mv (v := .int _ _) rfl) ?_
        first | refine q rfl rfl (conv .u8 .i64 rfl rfl rfl (wi64 (by omega) (by omega))) ?_ | refine q rfl rfl (conv .u8 .i64 rfl rfl rfl rfl) ?_
        first | refine q rfl rfl (remI rfl rfl (by omega) (by omega)) ?_ | refine q rfl rfl (rem rfl rfl (by omega) rfl) ?_
        first | refine q rfl rfl (addI rfl rfl (by omega) (by omega)) ?_ | refine q rfl rfl (add rfl rfl rfl) ?_
        rw [hK]
        refine q rfl rfl (lss rfl rfl) ?_
        refine TL.nil (nt ?_)
        first | refine TC.condD rfl (fun hkK => ?_) (fun hkK => ?_) | refine TC.cond rfl (fun hkK => ?_) (fun hkK => ?_)
        · refine TC.skip (nt ?_)
          refine TC.seq ?_
          refine TC.block ?_
          refine TC.seq ?_
          refine TC.region ?_
          refine q rfl rfl (asg (v := .int _ _) rfl) ?_
          refine TL.nil (nt ?_)
          refine TC.block ?_
          refine TC.loop (ι := Nat) (fun i => i ≤ m + 1 ∧ RJ (fl (wF l) p m (k * (m + 1) + i) (wF l ((k * (m + 1) + i) % (m + 1)))) (m + 1)) (fun i => [(0, .slice ad (m + 1) cap), (1, .int .u8 r), (2, .int .u8 d), (7, .pointer (some ⟨a, 0, none⟩)), (9, .int .i64 (k : Int)), (10, .int .i64 (i : Int))]) (fun i => sepL [isQ a (fl (wF l) p m (k * (m + 1) + i) (wF l ((k * (m + 1) + i) % (m + 1)))), F]) (fun i => m + 1 - i) 0 ⟨by omega, hJ1⟩ ⟨rfl, rfl, rfl, rfl, rfl, rfl, trivial⟩ (ent_take 0 rfl (ent_take 0 rfl (ent_nil _))) ?_
          rintro i ⟨hi, hJ2⟩ ρ2
          dsimp only [updL] at hi hJ2 ⊢
          refine TC.seq ?_
          refine TC.seq ?_
          refine TC.region ?_
          refine q rfl rfl (mv (v := .int _ _) rfl) ?_
          refine q rfl rfl (mv (v := .slice _ _ _) rfl) ?_
          refine q rfl rfl (len 5 1 rfl rfl) ?_
          refine q rfl rfl (lss rfl rfl) ?_
          refine TL.nil (nt ?_)
          first | refine TC.condD rfl (fun hlt => ?_) (fun hlt => ?_) | refine TC.cond rfl (fun hlt => ?_) (fun hlt => ?_)
          · have hlt2 : i < l.length := by omega
            obtain ⟨x, hx⟩ : ∃ x, l[i]? = some x := ⟨l[i], List.getElem?_eq_getElem hlt2⟩
            have hxr := hl x (List.mem_of_getElem? hx)
            have hpos : 0 < (nums .u8 l).length := by omega
            have hwx := hw i x hx
            have hmod : (k * (m + 1) + i) % (m + 1) = i := by rw [Nat.mul_comm, Nat.mul_add_mod, Nat.mod_eq_of_lt (by omega)]
            rw [hmod] at hJ2 ⊢
            have hfx : fl (wF l) p m (k * (m + 1) + i) (wF l i) = flx (wF l) p m (k * (m + 1) + i) (wF l i) := by rw [flx, if_neg (by have := hwr i; omega)]
            rw [hfx] at hJ2 ⊢
            refine TC.skip (nt ?_)
            refine TC.seq ?_
            refine TC.block ?_
            refine TC.seq ?_
            refine TC.region ?_
            refine q rfl rfl (mv (v := .slice _ _ _) rfl) ?_
            refine q rfl rfl (mv (v := .int _ _) rfl) ?_
            first | refine q rfl rfl (ixS 5 1 rfl rfl rfl (by omega) (by first | assumption | (simp [ints_length] <;> omega))) ?_ | refine q rfl rfl (ixJ 5 1 rfl rfl rfl (by omega) (by omega) (by first | assumption | (simp [ints_length] <;> omega))) ?_ | refine q rfl rfl (ix 5 1 rfl rfl rfl (by omega) (by omega) rfl) ?_
            first | refine q rfl rfl (ld rfl rfl rfl) ?_ | refine q rfl rfl (ldS rfl rfl (nums_get hx)) ?_ | refine q rfl rfl (ldS rfl rfl rfl) ?_
            first | refine q rfl rfl (conv .u8 .i64 rfl rfl rfl (wi64 (by omega) (by omega))) ?_ | refine q rfl rfl (conv .u8 .i64 rfl rfl rfl rfl) ?_
            first | refine q rfl rfl (remI rfl rfl (by omega) (by omega)) ?_ | refine q rfl rfl (rem rfl rfl (by omega) rfl) ?_
            first | refine q rfl rfl (addI rfl rfl (by omega) (by omega)) ?_ | refine q rfl rfl (add rfl rfl rfl) ?_
            rw [← hwx]
            refine q rfl rfl (asg (v := .int _ _) rfl) ?_
            refine TL.nil (nt ?_)
            refine TC.block ?_
            refine TC.loop (ι := Int) (fun n => 0 ≤ n ∧ n ≤ 16 ∧ RJ (flx (wF l) p m (k * (m + 1) + i) n) (m + 1)) (fun n => [(0, .slice ad (m + 1) cap), (1, .int .u8 r), (2, .int .u8 d), (7, .pointer (some ⟨a, 0, none⟩)), (9, .int .i64 (k : Int)), (10, .int .i64 (i : Int)), (11, .int .i64 n)]) (fun n => sepL [isQ a (flx (wF l) p m (k * (m + 1) + i) n), F]) (fun n => n.toNat) (wF l i) ⟨by have := hwr i; omega, (hwr i).2, hJ2⟩ ⟨rfl, rfl, rfl, rfl, rfl, rfl, rfl, trivial⟩ (ent_take 0 rfl (ent_take 0 rfl (ent_nil _))) ?_
            rintro n ⟨hn0, hn16, hJ3⟩ ρ3
            dsimp only [updL] at hn0 hn16 hJ3 ⊢
            refine TC.seq ?_
            refine TC.seq ?_
            refine TC.region ?_
            refine q rfl rfl (mv (v := .int _ _) rfl) ?_
            refine q rfl rfl (gtr rfl rfl) ?_
            refine TL.nil (nt ?_)
            first | refine TC.condD rfl (fun hn => ?_) (fun hn => ?_) | refine TC.cond rfl (fun hn => ?_) (fun hn => ?_)
            · rw [flx, if_neg (by omega)] at hJ3 ⊢
              have hlen := hJ3.len
              have hrun := fl_run (wF l) p m (k * (m + 1) + i) n
              have hlf := fl_left hJ3.inv.nd
              rw [hmod] at hrun hlf
              have htk := flx_tick hJ3.inv.nd
              have hJ4 := hJ3.tick
              rw [htk] at hJ4
              refine TC.skip (nt ?_)
              refine TC.seq ?_
              refine TC.block ?_
              refine TC.seq ?_
              refine TC.seq ?_
              refine TC.region ?_
              refine q rfl rfl (mv (v := .pointer _) rfl) ?_
              refine e rfl ?_
              refine cl (run_ok a (fl (wF l) p m (k * (m + 1) + i) n) (by omega)) rfl (picked_cons 0 rfl (picked_nil _)) trivial ?_
              intro _ _
              change TL _ _ _ _ _ _ _ _ (sepL [_, _])
              rw [hrun]
              refine q rfl rfl (mv (v := .int _ _) rfl) ?_
              refine q rfl rfl (neI rfl rfl) ?_
              refine q rfl rfl (mv (v := .bool _) rfl) ?_
              refine TL.known 72 rfl (c := false) (by simp) ?_
              refine qg rfl rfl rfl (mv (v := .pointer _) rfl) ?_
              refine qg rfl rfl rfl (mv (v := .int _ _) rfl) ?_
              refine eg rfl rfl ?_
              refine cl (qleft_ok a (fl (wF l) p m (k * (m + 1) + i) n) (by omega) i) rfl (picked_cons 0 rfl (picked_nil _)) trivial ?_
              intro _ _
              change TL _ _ _ _ _ _ _ _ (sepL [_, _])
              rw [hlf]
              refine qg rfl rfl rfl (mv (v := .int _ _) rfl) ?_
              refine qg rfl rfl rfl (neI rfl rfl) ?_
              first | refine q rfl rfl (pkT rfl rfl) ?_ | refine q rfl rfl (pkF rfl rfl) ?_
              refine TL.nil (nt ?_)
              refine TC.condD rfl (fun hc2 => absurd hc2 (by simp)) (fun hc2 => ?_)
              refine TC.skip (nt ?_)
              refine TC.region ?_
              refine q rfl rfl (mv (v := .pointer _) rfl) ?_
              refine e rfl ?_
              refine cl (qtick_ok a (fl (wF l) p m (k * (m + 1) + i) n) (by omega) hJ3.l1) rfl (picked_cons 0 rfl (picked_nil _)) trivial ?_
              intro _ _
              change TL _ _ _ _ _ _ _ _ (sepL [_, _])
              rw [htk]
              refine TL.nil (nb (nt ?_))
              refine TC.region ?_
              refine q rfl rfl (mv (v := .int _ _) rfl) ?_
              first | refine q rfl rfl (subI rfl rfl (by omega) (by omega)) ?_ | refine q rfl rfl (sub rfl rfl rfl) ?_
              refine q rfl rfl (asg (v := .int _ _) rfl) ?_
              refine TL.nil (nt ?_)
              exact ⟨rfl, (n - 1), ⟨by omega, by omega, hJ4⟩, (by omega), ⟨rfl, rfl, rfl, rfl, rfl, rfl, rfl, trivial⟩, (ent_take 0 rfl (ent_take 0 rfl (ent_nil _)))⟩
            · obtain rfl : n = 0 := by omega
              rw [flx, if_pos rfl] at hJ3 ⊢
              refine TC.exit (et (et (eb (nb (nt ?_)))))
              refine TC.region ?_
              refine q rfl rfl (mv (v := .int _ _) rfl) ?_
              first | refine q rfl rfl (addI rfl rfl (by omega) (by omega)) ?_ | refine q rfl rfl (add rfl rfl rfl) ?_
              refine q rfl rfl (asg (v := .int _ _) rfl) ?_
              refine TL.nil (nt ?_)
              exact ⟨rfl, (i + 1), ⟨by omega, hJ3⟩, (by omega), ⟨rfl, rfl, rfl, rfl, rfl, rfl, trivial⟩, (ent_take 0 rfl (ent_take 0 rfl (ent_nil _)))⟩
          · obtain rfl : i = m + 1 := by omega
            rw [show k * (m + 1) + (m + 1) = (k + 1) * (m + 1) from by rw [Nat.add_mul, Nat.one_mul]] at hJ2 ⊢
            refine TC.exit (et (et (eb (nb (nt ?_)))))
            refine TC.region ?_
            refine q rfl rfl (mv (v := .int _ _) rfl) ?_
            first | refine q rfl rfl (addI rfl rfl (by omega) (by omega)) ?_ | refine q rfl rfl (add rfl rfl rfl) ?_
            refine q rfl rfl (asg (v := .int _ _) rfl) ?_
            refine TL.nil (nt ?_)
            exact ⟨rfl, (k + 1), ⟨by omega, hJ2⟩, (by omega), ⟨rfl, rfl, rfl, rfl, rfl, trivial⟩, (ent_take 0 rfl (ent_take 0 rfl (ent_nil _)))⟩
        · rw [Nat.mul_mod_left] at hJ1 ⊢
          have hlen := hJ1.len
          have hll : (fl (wF l) p m (k * (m + 1)) (wF l 0)).length = m + 1 := by simp [fl]
          have hrun := fl_run (wF l) p m (k * (m + 1)) (wF l 0)
          rw [Nat.mul_mod_left] at hrun
          refine TC.exit (et (et (eb (nt ?_))))
          refine TC.seq ?_
          refine TC.region ?_
          refine q rfl rfl (mv (v := .pointer _) rfl) ?_
          refine e rfl ?_
          refine cl (run_ok a (fl (wF l) p m (k * (m + 1)) (wF l 0)) (by omega)) rfl (picked_cons 0 rfl (picked_nil _)) trivial ?_
          intro _ _
          change TL _ _ _ _ _ _ _ _ (sepL [_, _])
          rw [hrun]
          refine q rfl rfl (eqI rfl rfl) ?_
          refine q rfl rfl (mv (v := .bool _) rfl) ?_
          refine TL.known 84 rfl (c := true) (by simp) ?_
          refine qg rfl rfl rfl (mv (v := .pointer _) rfl) ?_
          refine eg rfl rfl ?_
          refine cl (qlen_ok a (fl (wF l) p m (k * (m + 1)) (wF l 0)) (by omega)) rfl (picked_cons 0 rfl (picked_nil _)) trivial ?_
          intro _ _
          change TL _ _ _ _ _ _ _ _ (sepL [_, _])
          rw [hll]
          refine qg rfl rfl rfl (mv (v := .slice _ _ _) rfl) ?_
          refine qg rfl rfl rfl (len 5 1 rfl rfl) ?_
          refine qg rfl rfl rfl (eqI rfl rfl) ?_
          first | refine q rfl rfl (pkT rfl rfl) ?_ | refine q rfl rfl (pkF rfl rfl) ?_
          refine q rfl rfl (asg (v := .bool _) rfl) ?_
          refine TL.nil (nt ?_)
          refine TC.ret ?_
          exact Ret.i () [_] ⟨rfl, trivial⟩ (congrArg Value.bool (decide_eq_true rfl)) trivial (ent_take 1 rfl (ent_nil _))

end Go.Proofs.Ytncafknmdmoaoaa
