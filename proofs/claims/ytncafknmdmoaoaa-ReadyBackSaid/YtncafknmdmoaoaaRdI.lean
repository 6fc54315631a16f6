/-
  Proved here: what functions of this program compute, each as a contract over symbolic states, under the premises that each theorem names (most lines printed by a program of the prover).
-/
import Derived.Test.YtncafknmdmoaoaaRdF
namespace Go.Proofs.Ytncafknmdmoaoaa
open Go Go.QM
def P6 (S : List Th) : Prop := ∀ t ∈ S, t.prio ≤ 6
theorem P6.rnd {S : List Th} (h : P6 S) {t : Th} (ht : t ∈ S) : P6 (rndS S t) := fun u hu => by
  rcases List.mem_append.1 hu with hu | hu
  · exact h u (List.mem_filter.1 hu).1
  · rw [List.mem_singleton.1 hu]; exact h t ht
theorem P6.act {S : List Th} (h : P6 S) {t : RAct} (ht : t.prio ≤ 6) : P6 (doS S t) := by
  rw [doS]
  split
  · rw [addS]
    split
    · exact h
    · split
      · exact h
      · intro u hu
        rcases List.mem_append.1 hu with hu | hu
        · exact h u hu
        · rw [List.mem_singleton.1 hu]; exact ht
  · split
    · exact fun u hu => h u ((dropS_sub S _).subset hu)
    · split
      · rw [tickS]
        cases h1 : topS S with
        | none => exact h
        | some u =>
          dsimp only
          split
          · exact h.rnd (top_mem h1).1
          · intro w hw
            obtain ⟨x, hx, rfl⟩ := List.mem_map.1 hw
            have := h x hx
            split <;> exact this
      · split
        · rw [yieldS]
          cases h1 : topS S with
          | none => exact h
          | some u => exact h.rnd (top_mem h1).1
        · exact h
def tM (v : Int) : Th := ⟨1000000, 7, 3, v⟩
theorem tM_top {S : List Th} (h : P6 S) (v : Int) : topS (S ++ [tM v]) = some (tM v) := by
  rw [topS, List.find?_append]
  have h1 : S.find? (fun t => (S ++ [tM v]).all fun u => decide (u.prio ≤ t.prio)) = none := by
    rw [List.find?_eq_none]
    intro t ht h2
    rw [List.all_eq_true] at h2
    have h5 : (tM v).prio ≤ t.prio := by simpa using h2 (tM v) (by simp)
    have h6 : t.prio ≤ 6 := h t ht
    have h7 : (tM v).prio = 7 := rfl
    omega
  have h3 : (S ++ [tM v]).all (fun u => decide (u.prio ≤ (tM v).prio)) = true := by
    rw [List.all_eq_true]
    intro u hu
    rcases List.mem_append.1 hu with hu | hu
    · have h5 : u.prio ≤ 6 := h u hu
      have h7 : (tM v).prio = 7 := rfl
      simp only [decide_eq_true_eq]; omega
    · rw [List.mem_singleton.1 hu]; simp
  rw [h1, Option.none_or]
  simp only [List.find?_cons, h3]
theorem tM_off {S : List Th} (hx : ¬ hasS S 1000000) (v : Int) : offS (S ++ [tM v]) 1000000 = S := by
  rw [offS, List.filter_append, List.filter_cons_of_neg (by simp [tM]), List.filter_nil, List.append_nil]
  exact offS_none hx
theorem tM_tick {S : List Th} (h : P6 S) (hx : ¬ hasS S 1000000) (v : Int) : tickS (S ++ [tM v]) = S ++ [tM (if v = 1 then 3 else v - 1)] := by
  rw [tickS, tM_top h]
  dsimp only
  by_cases e : v = 1
  · rw [if_pos (show (tM v).left = 1 from e), if_pos e, rndS, show (tM v).id = 1000000 from rfl, tM_off hx]; rfl
  · rw [if_neg (show ¬ (tM v).left = 1 from e), if_neg e, setL, List.map_append]
    congr 1
    conv => rhs; rw [← List.map_id S]
    exact List.map_congr_left fun u hu => by rw [if_neg (show ¬ u.id = (tM v).id from fun e2 => hx ⟨u, hu, e2⟩)]; rfl
theorem tmod7 (x : Int) : x.tmod 7 ≤ 6 := by have := Int.tmod_lt_of_pos x (show (0 : Int) < 7 by decide); omega

set_option maxHeartbeats 1000000 in
theorem back_ok (ad : Option Addr) (l : List RAct) (cap : Nat) (d : Int) (hD : ∀ t ∈ l, (-9223372036854775808 ≤ t.kind ∧ t.kind ≤ 9223372036854775807) ∧ (-9223372036854775808 ≤ t.id ∧ t.id ≤ 9223372036854775807) ∧ (-9223372036854775808 ≤ t.prio ∧ t.prio ≤ 9223372036854775807) ∧ (-9223372036854775808 ≤ t.sl ∧ t.sl ≤ 9223372036854775807)) (hd : 0 ≤ d ∧ d ≤ 255) : FSpec Try.prog 6 [.slice ad l.length cap, .int .u8 d] (fun F => (∃ E, RdS F E ad (ractsC l)) ∧ ∀ t ∈ l, ∃ E, RdS F E t.ad (ints t.xs)) [] (fun _ : Unit => .bool true) (fun _ => True) (fun _ => []) := by
  refine FSpec.intro (rs := [.tmp 4]) (by kernel_rfl) Try.func6 rfl Try.ntmps6 (by rfl) rfl ?_
  intro F ⟨⟨E, hF⟩, hin⟩
  change TC _ _ _ _ _ _ _ (sepL [_])
  haveI : RdSI F ad E (ractsC l) := ⟨hF⟩
  refine TC.seq ?_
  refine TC.region ?_
  refine q rfl rfl (asg (v := .bool _) rfl) ?_
  refine TL.nil (nt ?_)
  refine TC.seq ?_
  refine TC.seq ?_
  refine TC.region ?_
  refine e rfl ?_
  refine cl alive_ok rfl (picked_nil _) trivial ?_
  intro _ _
  change TL _ _ _ _ _ _ _ _ (sepL [_])
  first | refine q rfl rfl (notD rfl) ?_ | refine q rfl rfl (notB rfl) ?_
  refine TL.nil (nt ?_)
  refine TC.condF rfl ?_
  refine TC.skip (nt ?_)
  refine TC.seq ?_
  refine TC.seq ?_
  refine TC.region ?_
  refine q rfl rfl (mv (v := .slice _ _ _) rfl) ?_
  refine e rfl ?_
  refine cl (fits_ok ad l cap) rfl (picked_nil _) ⟨_, RdSI.rd (ad := ad)⟩ ?_
  intro _ _
  change TL _ _ _ _ _ _ _ _ (sepL [_])
  by_cases hfit : fitsL l
  · rw [decide_eq_true hfit]
    first | refine q rfl rfl (notD rfl) ?_ | refine q rfl rfl (notB rfl) ?_
    refine TL.nil (nt ?_)
    refine TC.condF rfl ?_
    refine TC.skip (nt ?_)
    refine TC.seq ?_
    refine TC.region ?_
    refine e rfl ?_
    refine cl rnew_ok rfl (picked_nil _) trivial ?_
    intro a _
    change TL _ _ _ _ _ _ _ _ (sepL [_, _])
    refine q rfl rfl (asg (v := .pointer _) rfl) ?_
    refine TL.nil (nt ?_)
    refine TC.seq ?_
    refine TC.seq ?_
    refine TC.region ?_
    refine q rfl rfl (asg (v := .int _ _) rfl) ?_
    refine TL.nil (nt ?_)
    refine TC.block ?_
    refine TC.loop (ι := Nat × List Th) (fun s => RJ s.2 s.1 ∧ P6 s.2 ∧ s.1 ≤ l.length) (fun s => [(0, .slice ad l.length cap), (1, .int .u8 d), (5, .pointer (some ⟨a, 0, none⟩)), (6, .int .i64 ((s.1 : Nat) : Int))]) (fun s => sepL [isQ a s.2, F]) (fun s => l.length - s.1) ⟨0, []⟩ ⟨RJ.nil 0, (fun t h => by cases h), Nat.zero_le _⟩ ⟨rfl, rfl, rfl, rfl, trivial⟩ (ent_take 0 rfl (ent_take 0 rfl (ent_nil _))) ?_
    rintro ⟨i, S⟩ ⟨hJ, h6, hi⟩ ρ0
    dsimp only [updL] at hJ h6 hi ⊢
    refine TC.seq ?_
    refine TC.seq ?_
    refine TC.region ?_
    refine q rfl rfl (mv (v := .int _ _) rfl) ?_
    refine q rfl rfl (mv (v := .slice _ _ _) rfl) ?_
    refine q rfl rfl (len 38 5 rfl rfl) ?_
    refine q rfl rfl (lss rfl rfl) ?_
    refine TL.nil (nt ?_)
    first | refine TC.condD rfl (fun hlt => ?_) (fun hlt => ?_) | refine TC.cond rfl (fun hlt => ?_) (fun hlt => ?_)
    · have hl150 := hfit.1
      have hlt2 : i < l.length := by omega
      obtain ⟨t, ht⟩ : ∃ t, l[i]? = some t := ⟨l[i], List.getElem?_eq_getElem hlt2⟩
      have htm := List.mem_of_getElem? ht
      have ht50 := hfit.2 t htm
      obtain ⟨E2, hE2⟩ := hin t htm
      haveI : RdSI F t.ad E2 (ints t.xs) := ⟨hE2⟩
      have hpos : 0 < (ractsC l).length := by rw [ractsC_length]; omega
      have hDt := hD t htm
      refine TC.skip (nt ?_)
      refine TC.seq ?_
      refine TC.block ?_
      refine TC.seq ?_
      refine TC.region ?_
      refine q rfl rfl (mv (v := .slice _ _ _) rfl) ?_
      refine q rfl rfl (mv (v := .int _ _) rfl) ?_
      first | refine q rfl rfl (ixS 38 5 rfl rfl rfl (by omega) (by first | assumption | (simp [ints_length] <;> omega))) ?_ | refine q rfl rfl (ixJ 38 5 rfl rfl rfl (by omega) (by omega) (by first | assumption | (simp [ints_length] <;> omega))) ?_ | refine q rfl rfl (ix 38 5 rfl rfl rfl (by omega) (by omega) rfl) ?_
      first | refine q rfl rfl (ldN (vs := [_, _, _, _, _]) 5 rfl rfl rfl rfl) ?_ | refine q rfl rfl (ldSN (vs := [_, _, _, _, _]) 5 rfl rfl (flat_get_rec ractC_sz ht) rfl (by decide)) ?_ | refine q rfl rfl (ldSN (vs := [_, _, _, _, _]) 5 rfl rfl rfl rfl (by decide)) ?_
      refine e rfl ?_
      refine al (l := [.int _ _, .int _ _, .int _ _, .int _ _, .slice _ _ _]) rfl rfl ?_
      intro b1
      refine e0 ?_
      refine st (v := .agg #[_, _, _, _, _]) (vs := [_, _, _, _, _]) 5 rfl rfl rfl rfl rfl rfl (Nat.le_of_ble_eq_true rfl) rfl ?_
      refine TL.nil (nt ?_)
      refine TC.seq ?_
      refine TC.region ?_
      first | refine q rfl rfl (fa 2 rfl rfl) ?_ | refine q rfl rfl (faS 2 rfl rfl (by first | assumption | (simp [ints_length] <;> omega))) ?_
      first | refine q rfl rfl (ld rfl rfl rfl) ?_ | refine q rfl rfl (ldS rfl rfl (flat_get_rec ractC_sz ht)) ?_ | refine q rfl rfl (ldS rfl rfl rfl) ?_
      first | refine q rfl rfl (remI rfl rfl (by omega) (by omega)) ?_ | refine q rfl rfl (rem rfl rfl (by omega) rfl) ?_
      first | refine q rfl rfl (fa 2 rfl rfl) ?_ | refine q rfl rfl (faS 2 rfl rfl (by first | assumption | (simp [ints_length] <;> omega))) ?_
      refine e0 ?_
      refine st (v := .int _ _) (vs := [_]) 1 rfl rfl rfl rfl rfl rfl (Nat.le_of_ble_eq_true rfl) rfl ?_
      refine TL.nil (nt ?_)
      refine TC.region ?_
      refine q rfl rfl (mv (v := .pointer _) rfl) ?_
      first | refine q rfl rfl (ldN (vs := [_, _, _, _, _]) 5 rfl rfl rfl rfl) ?_ | refine q rfl rfl (ldSN (vs := [_, _, _, _, _]) 5 rfl rfl (flat_get_rec ractC_sz ht) rfl (by decide)) ?_ | refine q rfl rfl (ldSN (vs := [_, _, _, _, _]) 5 rfl rfl rfl rfl (by decide)) ?_
      refine e rfl ?_
      refine cl (do_ok a S i ⟨t.kind, t.id, t.prio.tmod 7, t.sl, t.ad, t.cap, t.xs⟩ hJ (by omega) (by dsimp only; omega)) rfl (picked_cons 1 rfl (picked_nil _)) ⟨_, RdSI.rd (ad := t.ad)⟩ ?_
      intro _ _
      change TL _ _ _ _ _ _ _ _ (sepL [_, _, _])
      refine TL.nil (nb (nt ?_))
      refine TC.region ?_
      refine q rfl rfl (mv (v := .int _ _) rfl) ?_
      first | refine q rfl rfl (addI rfl rfl (by omega) (by omega)) ?_ | refine q rfl rfl (add rfl rfl rfl) ?_
      refine q rfl rfl (asg (v := .int _ _) rfl) ?_
      refine TL.nil (nt ?_)
      exact ⟨rfl, ⟨i + 1, _⟩, ⟨hJ.act ⟨t.kind, t.id, t.prio.tmod 7, t.sl, t.ad, t.cap, t.xs⟩, h6.act (tmod7 t.prio), by dsimp only; omega⟩, (by dsimp only; omega), ⟨rfl, rfl, rfl, rfl, trivial⟩, (ent_take 0 rfl (ent_take 1 rfl (ent_nil _)))⟩
    · have hl150 := hfit.1
      have hlen := hJ.len
      refine TC.exit (et (et (eb (nt ?_))))
      refine TC.seq ?_
      refine TC.region ?_
      refine q rfl rfl (mv (v := .pointer _) rfl) ?_
      refine e rfl ?_
      refine bs (cs := [.int _ _]) rfl ?_
      intro b2
      refine e rfl ?_
      refine cl (drop_ok a S (by omega) _ _ [1000000] (by simp)) rfl PkL.p ⟨_, RdSI.rd⟩ ?_
      intro _ _
      change TL _ _ _ _ _ _ _ _ (sepL [_, _, _])
      have hJ2 := hJ.drop [1000000]
      have hx : ¬ hasS (dropS S [1000000]) 1000000 := offS_not S 1000000
      have h62 : P6 (dropS S [1000000]) := fun u hu => h6 u ((dropS_sub S _).subset hu)
      generalize dropS S [1000000] = Z at hJ2 hx h62 ⊢
      have hZl := hJ2.len
      have hva : addS Z 1000000 7 3 = (Z ++ [tM 3], 0) := by rw [addS, if_neg (by omega), if_neg hx]; rfl
      have hJ3 := hJ2.add 1000000 7 3
      rw [hva] at hJ3
      dsimp only at hJ3
      refine TL.nil (nt ?_)
      refine TC.seq ?_
      refine TC.region ?_
      refine q rfl rfl (mv (v := .pointer _) rfl) ?_
      refine e rfl ?_
      refine cl (run_ok a Z (by omega)) rfl (picked_cons 0 rfl (picked_nil _)) trivial ?_
      intro _ _
      change TL _ _ _ _ _ _ _ _ (sepL [_, _, _])
      refine q rfl rfl (asg (v := .int _ _) rfl) ?_
      refine TL.nil (nt ?_)
      refine TC.seq ?_
      refine TC.region ?_
      refine q rfl rfl (mv (v := .pointer _) rfl) ?_
      refine q rfl rfl (mv (v := .int _ _) rfl) ?_
      refine e rfl ?_
      refine cl (qleft_ok a Z (by omega) (runS Z)) rfl (picked_cons 0 rfl (picked_nil _)) trivial ?_
      intro _ _
      change TL _ _ _ _ _ _ _ _ (sepL [_, _, _])
      refine q rfl rfl (mv (v := .pointer _) rfl) ?_
      refine e rfl ?_
      refine cl (qlen_ok a Z (by omega)) rfl (picked_cons 0 rfl (picked_nil _)) trivial ?_
      intro _ _
      change TL _ _ _ _ _ _ _ _ (sepL [_, _, _])
      refine q rfl rfl (asg (v := .int _ _) rfl) ?_
      refine q rfl rfl (asg (v := .int _ _) rfl) ?_
      refine TL.nil (nt ?_)
      refine TC.seq ?_
      refine TC.seq ?_
      refine TC.region ?_
      refine q rfl rfl (mv (v := .pointer _) rfl) ?_
      refine e rfl ?_
      refine cl (add_ok a Z (by omega) 1000000 7 3) rfl (picked_cons 0 rfl (picked_nil _)) trivial ?_
      intro _ _
      change TL _ _ _ _ _ _ _ _ (sepL [_, _, _])
      rw [hva]
      dsimp only
      refine q rfl rfl (neI rfl rfl) ?_
      refine q rfl rfl (mv (v := .bool _) rfl) ?_
      refine TL.known 48 rfl (c := false) (by decide) ?_
      refine qg rfl rfl rfl (mv (v := .pointer _) rfl) ?_
      refine eg rfl rfl ?_
      refine cl (run_ok a (Z ++ [tM 3]) (by simp; omega)) rfl (picked_cons 0 rfl (picked_nil _)) trivial ?_
      intro _ _
      change TL _ _ _ _ _ _ _ _ (sepL [_, _, _])
      rw [show runS (Z ++ [tM 3]) = 1000000 from by rw [runS, tM_top h62]; rfl]
      refine qg rfl rfl rfl (neI rfl rfl) ?_
      first | refine q rfl rfl (pkT rfl rfl) ?_ | refine q rfl rfl (pkF rfl rfl) ?_
      refine TL.nil (nt ?_)
      refine TC.condD rfl (fun hc1 => absurd hc1 (by decide)) (fun hc1 => ?_)
      refine TC.skip (nt ?_)
      refine TC.seq ?_
      refine TC.seq ?_
      refine TC.region ?_
      refine q rfl rfl (asg (v := .int _ _) rfl) ?_
      refine TL.nil (nt ?_)
      refine TC.block ?_
      obtain ⟨K, hK⟩ : ∃ K : Nat, d % 40 = K := ⟨(d % 40).toNat, by omega⟩
      refine TC.loop (ι := Nat) (fun k => k ≤ K ∧ RJ (Z ++ [tM (3 - (k : Int) % 3)]) (l.length + 1)) (fun k => [(1, .int .u8 d), (5, .pointer (some ⟨a, 0, none⟩)), (8, .int .i64 (runS Z)), (9, .int .i64 (leftS Z (runS Z))), (10, .int .i64 Z.length), (11, .int .i64 (k : Int))]) (fun k => sepL [isQ a (Z ++ [tM (3 - (k : Int) % 3)]), F]) (fun k => K - k) 0 ⟨Nat.zero_le _, by simpa using hJ3.next (by have := hi; omega)⟩ ⟨rfl, rfl, rfl, rfl, rfl, rfl, trivial⟩ (ent_takeE 0 rfl (by simp) (ent_take 1 rfl (ent_nil _))) ?_
      rintro k ⟨hk, hJ4⟩ ρ1
      dsimp only [updL] at hk hJ4 ⊢
      refine TC.seq ?_
      refine TC.seq ?_
      refine TC.region ?_
      refine q rfl rfl (mv (v := .int _ _) rfl) ?_
      refine q rfl rfl (mv (v := .int _ _) rfl) ?_
      first | refine q rfl rfl (conv .u8 .i64 rfl rfl rfl (wi64 (by omega) (by omega))) ?_ | refine q rfl rfl (conv .u8 .i64 rfl rfl rfl rfl) ?_
      first | refine q rfl rfl (remI rfl rfl (by omega) (by omega)) ?_ | refine q rfl rfl (rem rfl rfl (by omega) rfl) ?_
      rw [hK]
      refine q rfl rfl (lss rfl rfl) ?_
      refine TL.nil (nt ?_)
      first | refine TC.condD rfl (fun hkK => ?_) (fun hkK => ?_) | refine TC.cond rfl (fun hkK => ?_) (fun hkK => ?_)
      · have htk := tM_tick h62 hx (3 - (k : Int) % 3)
        rw [show (if 3 - (k : Int) % 3 = 1 then (3 : Int) else 3 - (k : Int) % 3 - 1) = 3 - ((k + 1 : Nat) : Int) % 3 from by split <;> omega] at htk
        have hJ5 := hJ4.tick
        rw [htk] at hJ5
        have hl4 := hJ4.len
        refine TC.skip (nt ?_)
        refine TC.seq ?_
        refine TC.block ?_
        refine TC.seq ?_
        refine TC.region ?_
        refine q rfl rfl (mv (v := .pointer _) rfl) ?_
        refine e rfl ?_
        refine cl (qtick_ok a (Z ++ [tM (3 - (k : Int) % 3)]) (by omega) hJ4.l1) rfl (picked_cons 0 rfl (picked_nil _)) trivial ?_
        intro _ _
        change TL _ _ _ _ _ _ _ _ (sepL [_, _])
        rw [htk, show runS (Z ++ [tM (3 - ((k + 1 : Nat) : Int) % 3)]) = 1000000 from by rw [runS, tM_top h62]; rfl]
        refine q rfl rfl (neI rfl rfl) ?_
        refine TL.nil (nt ?_)
        refine TC.condD rfl (fun hc2 => absurd hc2 (by decide)) (fun hc2 => ?_)
        refine TC.skip (nb (nt ?_))
        refine TC.region ?_
        refine q rfl rfl (mv (v := .int _ _) rfl) ?_
        first | refine q rfl rfl (addI rfl rfl (by omega) (by omega)) ?_ | refine q rfl rfl (add rfl rfl rfl) ?_
        refine q rfl rfl (asg (v := .int _ _) rfl) ?_
        refine TL.nil (nt ?_)
        exact ⟨rfl, (k + 1), ⟨by omega, hJ5⟩, (by omega), ⟨rfl, rfl, rfl, rfl, rfl, rfl, trivial⟩, (ent_take 0 rfl (ent_take 0 rfl (ent_nil _)))⟩
      · obtain rfl : k = K := by omega
        have hl4 := hJ4.len
        have hlf : leftS (Z ++ [tM (3 - (k : Int) % 3)]) 1000000 = 3 - (k : Int) % 3 := left_of hJ4.inv.nd (t := tM (3 - (k : Int) % 3)) (by simp)
        have hdr : dropS (Z ++ [tM (3 - (k : Int) % 3)]) [1000000] = Z := tM_off hx _
        refine TC.exit (et (et (eb (nt ?_))))
        refine TC.seq ?_
        refine TC.region ?_
        refine q rfl rfl (mv (v := .pointer _) rfl) ?_
        refine e rfl ?_
        refine cl (qleft_ok a (Z ++ [tM (3 - (k : Int) % 3)]) (by omega) 1000000) rfl (picked_cons 0 rfl (picked_nil _)) trivial ?_
        intro _ _
        change TL _ _ _ _ _ _ _ _ (sepL [_, _])
        rw [hlf]
        refine q rfl rfl (mv (v := .int _ _) rfl) ?_
        first | refine q rfl rfl (conv .u8 .i64 rfl rfl rfl (wi64 (by omega) (by omega))) ?_ | refine q rfl rfl (conv .u8 .i64 rfl rfl rfl rfl) ?_
        first | refine q rfl rfl (remI rfl rfl (by omega) (by omega)) ?_ | refine q rfl rfl (rem rfl rfl (by omega) rfl) ?_
        rw [hK]
        first | refine q rfl rfl (remI rfl rfl (by omega) (by omega)) ?_ | refine q rfl rfl (rem rfl rfl (by omega) rfl) ?_
        first | refine q rfl rfl (subI rfl rfl (by omega) (by omega)) ?_ | refine q rfl rfl (sub rfl rfl rfl) ?_
        refine q rfl rfl (eqI rfl rfl) ?_
        refine q rfl rfl (mv (v := .bool _) rfl) ?_
        refine TL.known 71 rfl (c := true) (by simp) ?_
        refine qg rfl rfl rfl (mv (v := .pointer _) rfl) ?_
        refine eg rfl rfl ?_
        refine bs (cs := [.int _ _]) rfl ?_
        intro b3
        refine eg rfl rfl ?_
        refine cl (drop_ok a (Z ++ [tM (3 - (k : Int) % 3)]) (by omega) _ _ [1000000] (by simp)) rfl PkL.p ⟨_, RdSI.rd⟩ ?_
        intro _ _
        change TL _ _ _ _ _ _ _ _ (sepL [_, _, _])
        rw [hdr, List.length_append]
        refine qg rfl rfl rfl (eqI rfl rfl) ?_
        first | refine q rfl rfl (pkT rfl rfl) ?_ | refine q rfl rfl (pkF rfl rfl) ?_
        refine q rfl rfl (mv (v := .bool _) rfl) ?_
        refine TL.known 77 rfl (c := true) (by simp; omega) ?_
        refine qg rfl rfl rfl (mv (v := .pointer _) rfl) ?_
        refine eg rfl rfl ?_
        refine cl (run_ok a Z (by omega)) rfl PkL.p trivial ?_
        intro _ _
        change TL _ _ _ _ _ _ _ _ (sepL [_, _, _])
        refine qg rfl rfl rfl (mv (v := .int _ _) rfl) ?_
        refine qg rfl rfl rfl (eqI rfl rfl) ?_
        first | refine q rfl rfl (pkT rfl rfl) ?_ | refine q rfl rfl (pkF rfl rfl) ?_
        refine q rfl rfl (mv (v := .bool _) rfl) ?_
        refine TL.known 83 rfl (c := true) (by simp) ?_
        refine qg rfl rfl rfl (mv (v := .pointer _) rfl) ?_
        refine qg rfl rfl rfl (mv (v := .int _ _) rfl) ?_
        refine eg rfl rfl ?_
        refine cl (qleft_ok a Z (by omega) (runS Z)) rfl PkL.p trivial ?_
        intro _ _
        change TL _ _ _ _ _ _ _ _ (sepL [_, _, _])
        refine qg rfl rfl rfl (mv (v := .int _ _) rfl) ?_
        refine qg rfl rfl rfl (eqI rfl rfl) ?_
        first | refine q rfl rfl (pkT rfl rfl) ?_ | refine q rfl rfl (pkF rfl rfl) ?_
        refine q rfl rfl (mv (v := .bool _) rfl) ?_
        refine TL.known 90 rfl (c := true) (by simp) ?_
        refine qg rfl rfl rfl (mv (v := .pointer _) rfl) ?_
        refine eg rfl rfl ?_
        refine cl (qlen_ok a Z (by omega)) rfl PkL.p trivial ?_
        intro _ _
        change TL _ _ _ _ _ _ _ _ (sepL [_, _, _])
        refine qg rfl rfl rfl (mv (v := .int _ _) rfl) ?_
        refine qg rfl rfl rfl (eqI rfl rfl) ?_
        first | refine q rfl rfl (pkT rfl rfl) ?_ | refine q rfl rfl (pkF rfl rfl) ?_
        refine q rfl rfl (asg (v := .bool _) rfl) ?_
        refine TL.nil (nt ?_)
        refine TC.ret ?_
        exact Ret.i () [_] ⟨rfl, trivial⟩ (congrArg Value.bool (decide_eq_true rfl)) trivial (ent_take 2 rfl (ent_nil _))
  · rw [decide_eq_false hfit]
    first | refine q rfl rfl (notD rfl) ?_ | refine q rfl rfl (notB rfl) ?_
    refine TL.nil (nt ?_)
    refine TC.condT rfl ?_
    refine TC.seq ?_
    refine TC.region ?_
    refine q rfl rfl (asg (v := .bool _) rfl) ?_
    refine TL.nil (nt ?_)
    refine TC.ret (rt ?_)
    exact Ret.i () [_] ⟨rfl, trivial⟩ rfl trivial (ent_take 0 rfl (ent_nil _))

end Go.Proofs.Ytncafknmdmoaoaa
