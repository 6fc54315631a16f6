/-
  Proved here: what functions of this program compute, each as a contract over symbolic states, under the premises that each theorem names (most lines printed by a program of the prover).
-/
import Derived.Test.YtgmniphegombhaaMtU
namespace Go.Proofs.Ytgmniphegombhaa
open Go Go.QM
theorem ths_take (r : Rf) (k : Nat) : (thsC r).take (k * 3) = (r.D.take k).flatMap (thC r) := flat_take (thC_sz r) r.D k
theorem ths_drop (r : Rf) (k : Nat) : ((thsC r).drop (k * 3)).take ((r.D.length - k) * 3) = (r.D.drop k).flatMap (thC r) := by
  rw [List.take_of_length_le (by rw [List.length_drop, thsC_length]; omega)]; exact flat_drop (thC_sz r) r.D k
theorem drop_D {D : List Int} (hn : D.Nodup) {i : Nat} {x : Int} (hx : D[i]? = some x) : D.filter (fun y => decide (y ≠ x)) = D.take i ++ D.drop (i + 1) := by
  have hp := perm_take hx
  have hs : ∀ a ∈ D.take i ++ D.drop (i + 1), a ≠ x := fun a ha e2 => (List.nodup_cons.1 (hp.nodup_iff.1 hn)).1 (e2 ▸ ha)
  obtain ⟨h1, h2⟩ := List.getElem?_eq_some_iff.1 hx
  have hQ : D = D.take i ++ x :: D.drop (i + 1) := by rw [← h2, ← List.drop_eq_getElem_cons h1, List.take_append_drop]
  conv => lhs; rw [hQ]
  rw [List.filter_append, List.filter_cons_of_neg (by simp)]
  rw [List.filter_eq_self.2 (fun a ha => by simpa using hs a (by simp [ha])), List.filter_eq_self.2 (fun a ha => by simpa using hs a (by simp [ha]))]
def joinF (r : Rf) (x : Int) : Rf := if x ∈ r.D ∨ x < 0 then r else ⟨sortI (r.D ++ [x]), updI r.st x 0, updI r.cl x (-1), r.S⟩
def joinNF (r : Rf) (x : Int) : Int := if x ∈ r.D ∨ x < 0 then 0 else 1
theorem ins_eq {D : List Int} {x : Int} (hs : D.Pairwise (· ≤ ·)) {k : Nat} (h1 : ∀ y ∈ D.take k, y ≤ x) (h2 : ∀ y ∈ D.drop k, x ≤ y) : D.take k ++ x :: D.drop k = sortI (D ++ [x]) := by
  refine List.Perm.eq_of_pairwise (le := fun a c => a ≤ c) (fun a c _ _ h1 h2 => by omega) ?_ (sortI_sorted _) ?_
  · rw [List.pairwise_append, List.pairwise_cons]
    refine ⟨hs.sublist (List.take_sublist _ _), ⟨h2, hs.sublist (List.drop_sublist _ _)⟩, fun a ha c hc => ?_⟩
    rcases List.mem_cons.1 hc with rfl | hc
    · exact h1 a ha
    · have := h1 a ha; have := h2 c hc; omega
  · refine List.Perm.trans ?_ (sortI_perm _).symm
    refine List.perm_middle.trans ?_
    rw [List.take_append_drop]
    exact (List.perm_append_singleton _ _).symm
theorem ths_join {r : Rf} {x : Int} (hx : x ∉ r.D) (h0 : ¬ x < 0) {k : Nat} (he : r.D.take k ++ x :: r.D.drop k = sortI (r.D ++ [x])) : (r.D.take k).flatMap (thC r) ++ (ints [x, 0, -1] ++ (r.D.drop k).flatMap (thC r)) = thsC (joinF r x) ∧ (joinF r x).D.length = r.D.length + 1 := by
  have hj : joinF r x = ⟨sortI (r.D ++ [x]), updI r.st x 0, updI r.cl x (-1), r.S⟩ := if_neg (fun h => h.elim hx h0)
  refine ⟨?_, by rw [hj, sortI_len, List.length_append]; rfl⟩
  have hc : ∀ y ∈ r.D, thC r y = thC (joinF r x) y := fun y hy => by
    have hne : y ≠ x := fun e => hx (e ▸ hy)
    rw [hj, thC, thC]; dsimp only; rw [updI_ne hne, updI_ne hne]
  have hD : (joinF r x).D = r.D.take k ++ x :: r.D.drop k := by rw [hj]; exact he.symm
  have hx1 : thC (joinF r x) x = ints [x, 0, -1] := by rw [hj, thC]; dsimp only; rw [updI_same, updI_same]
  rw [thsC, hD, List.flatMap_append, List.flatMap_cons, flat_congr fun y hy => hc y (List.mem_of_mem_take hy), flat_congr fun y hy => hc y (List.mem_of_mem_drop hy), hx1]
theorem out_len (r : Rf) (id : Int) : (outF r id).length ≤ r.S.length + 1 := by
  have := rowF_len r.S id
  rw [outF, List.length_append, List.length_map]
  split <;> simp <;> omega

set_option maxRecDepth 4000 in
set_option maxHeartbeats 1000000 in
theorem rclose_ok (b : Nat) (r : Rf) (hd : r.D.length ≤ 1000) (hs : r.S.length ≤ 100000) (hn : r.D.Nodup) (g : Int) (hrl : ∀ x ∈ r.D, (rowF r.S x).length ≤ 1000) : FSpec Try.prog 50 [.pointer (some ⟨b, 0, none⟩), .int .i64 g] noRd [isRm b r] (fun y : Option Addr × Nat => .slice y.1 (closeF r g).2.length y.2) (fun _ => True) (fun y => [slc 3 1 y.1 (closeF r g).2.length y.2 (ints (closeF r g).2), isRm b (closeF r g).1]) := by
  refine FSpec.intro (rs := [.tmp 4]) (by kernel_rfl) Try.func50 rfl Try.ntmps50 (by rfl) rfl ?_
  intro F _
  change TC _ _ _ _ _ _ _ (sepL [_, _])
  refine TC.seq ?_
  refine TC.region ?_
  refine q rfl rfl (asg (v := .slice _ _ _) rfl) ?_
  refine TL.nil (nt ?_)
  refine TC.seq ?_
  refine TC.region ?_
  refine q rfl rfl (asg (v := .slice _ _ _) rfl) ?_
  refine TL.nil (nt ?_)
  refine TC.seq ?_
  refine TC.seq ?_
  refine TC.region ?_
  refine q rfl rfl (asg (v := .int _ _) rfl) ?_
  refine TL.nil (nt ?_)
  refine TC.block ?_
  refine TC.loop (ι := Nat × (Option Addr × Nat)) (fun u => u.1 ≤ r.D.length) (fun u => [(0, .pointer (some ⟨b, 0, none⟩)), (1, .int .i64 g), (5, .slice u.2.1 (thrF r g (r.D.take u.1)).length u.2.2), (6, .int .i64 ((u.1 : Nat) : Int))]) (fun u => sepL [slc 3 1 u.2.1 (thrF r g (r.D.take u.1)).length u.2.2 (ints (thrF r g (r.D.take u.1))), isRm b r, F]) (fun u => r.D.length - u.1) ⟨0, (none, 0)⟩ (Nat.zero_le _) ⟨rfl, rfl, rfl, rfl, trivial⟩ ((slc_nil 3 1 _).trans (ent_take 0 rfl (ent_take 0 rfl (ent_take 0 rfl (ent_nil _))))) ?_
  rintro ⟨k, ⟨oa, oc⟩⟩ hk ρ0
  dsimp only [updL] at hk ⊢
  refine TC.open 1 rfl (fun x0 hx0 => ?_)
  obtain ⟨⟨a1, c1⟩, ⟨a2, c2⟩⟩ := x0
  clear hx0
  change TC _ _ _ _ _ _ _ (sepL [_, _, _, _, _])
  dsimp only
  have hil := thsC_length r
  have hsl := snsC_length r.S
  refine TC.seq ?_
  refine TC.seq ?_
  refine TC.region ?_
  refine q rfl rfl (mv (v := .int _ _) rfl) ?_
  refine q rfl rfl (mv (v := .pointer _) rfl) ?_
  first | refine q rfl rfl (nc rfl) ?_ | refine q rfl rfl (ncF rfl) ?_ | refine q rfl rfl (ncS rfl (by first | assumption | (simp [ints_length] <;> omega))) ?_
  first | refine q rfl rfl (fa 0 rfl rfl) ?_ | refine q rfl rfl (faS 0 rfl rfl (by first | assumption | (simp [ints_length] <;> omega))) ?_
  first | refine q rfl rfl (ld rfl rfl rfl) ?_ | refine q rfl rfl (ldS rfl rfl rfl) ?_
  refine q rfl rfl (len 65 3 rfl rfl) ?_
  refine q rfl rfl (lss rfl rfl) ?_
  refine TL.nil (nt ?_)
  first | refine TC.condD rfl (fun hlt => ?_) (fun hlt => ?_) | refine TC.cond rfl (fun hlt => ?_) (fun hlt => ?_)
  · have hlt2 : k < r.D.length := by omega
    obtain ⟨x, hx⟩ : ∃ x, r.D[k]? = some x := ⟨_, List.getElem?_eq_getElem hlt2⟩
    have hxm := List.mem_of_getElem? hx
    have hpos : 0 < (thsC r).length := by omega
    have hgs := thrF_snoc (r := r) (g := g) hx
    have hgl := thrF_len (r := r) (g := g) (b := 1000) (D := (r.D.take k)) (fun y hy => hrl y (List.mem_of_mem_take hy))
    have htl : (r.D.take k).length ≤ k := by rw [List.length_take]; omega
    have hxl := hrl x hxm
    refine TC.skip (nt ?_)
    refine TC.seq ?_
    refine TC.block ?_
    refine TC.seq ?_
    refine TC.region ?_
    refine q rfl rfl (mv (v := .pointer _) rfl) ?_
    refine q rfl rfl (mv (v := .pointer _) rfl) ?_
    first | refine q rfl rfl (nc rfl) ?_ | refine q rfl rfl (ncF rfl) ?_ | refine q rfl rfl (ncS rfl (by first | assumption | (simp [ints_length] <;> omega))) ?_
    first | refine q rfl rfl (fa 0 rfl rfl) ?_ | refine q rfl rfl (faS 0 rfl rfl (by first | assumption | (simp [ints_length] <;> omega))) ?_
    first | refine q rfl rfl (ld rfl rfl rfl) ?_ | refine q rfl rfl (ldS rfl rfl (flat_ld (thC_sz r) hx 0 (by omega) rfl)) ?_ | refine q rfl rfl (ldS rfl rfl rfl) ?_
    refine q rfl rfl (mv (v := .int _ _) rfl) ?_
    first | refine q rfl rfl (ixS 65 3 rfl rfl rfl (by omega) (by first | assumption | (simp [ints_length] <;> omega))) ?_ | refine q rfl rfl (ixJ 65 3 rfl rfl rfl (by omega) (by omega) (by first | assumption | (simp [ints_length] <;> omega))) ?_ | refine q rfl rfl (ix 65 3 rfl rfl rfl (by omega) (by omega) rfl) ?_
    first | refine q rfl rfl (fa 0 rfl rfl) ?_ | refine q rfl rfl (faS 0 rfl rfl (by first | assumption | (simp [ints_length] <;> omega))) ?_
    first | refine q rfl rfl (ld rfl rfl rfl) ?_ | refine q rfl rfl (ldS rfl rfl (flat_ld (thC_sz r) hx 0 (by omega) rfl)) ?_ | refine q rfl rfl (ldS rfl rfl rfl) ?_
    refine e rfl ?_
    refine cl (rrow_ok b r hd hs x) rfl (picked_nil _) (ent_of (ent_close (⟨(a1, c1), (a2, c2)⟩ : (Option Addr × Nat) × (Option Addr × Nat)) trivial (by repeat (first | exact ent_nil _ | refine ent_take 0 rfl ?_ | refine ent_take 1 rfl ?_ | refine ent_take 2 rfl ?_ | refine ent_take 3 rfl ?_ | refine ent_take 4 rfl ?_ | refine ent_take 5 rfl ?_ | refine ent_take 6 rfl ?_ | refine ent_take 7 rfl ?_ | refine ent_take 8 rfl ?_ | refine ent_take 9 rfl ?_ | refine ent_take 10 rfl ?_ | refine ent_take 11 rfl ?_ | refine ent_take 12 rfl ?_)))) ?_
    intro yr _
    change TL _ _ _ _ _ _ _ _ (sepL [_, _, _, _, _, _])
    generalize hR : rowF r.S x = R at hgs hxl ⊢
    have hRl := ofsC_length R
    refine q rfl rfl (asg (v := .slice _ _ _) rfl) ?_
    refine TL.nil (nt ?_)
    refine TC.seq ?_
    refine TC.region ?_
    refine q rfl rfl (asg (v := .int _ _) rfl) ?_
    refine TL.nil (nt ?_)
    refine TC.block ?_
    refine TC.loop (ι := Nat × (Option Addr × Nat)) (fun u => u.1 ≤ R.length) (fun u => [(0, .pointer (some ⟨b, 0, none⟩)), (1, .int .i64 g), (5, .slice u.2.1 ((thrF r g (r.D.take k)) ++ goneO (R.take u.1) (thru g)).length u.2.2), (6, .int .i64 ((k : Nat) : Int)), (7, .slice yr.1 R.length yr.2), (8, .int .i64 ((u.1 : Nat) : Int))]) (fun u => sepL [slc 3 1 u.2.1 ((thrF r g (r.D.take k)) ++ goneO (R.take u.1) (thru g)).length u.2.2 (ints ((thrF r g (r.D.take k)) ++ goneO (R.take u.1) (thru g))), slc 31 3 yr.1 R.length yr.2 (ofsC R), isRm b r, F]) (fun u => R.length - u.1) ⟨0, (oa, oc)⟩ (Nat.zero_le _) ⟨rfl, rfl, congrArg (fun n => Value.slice _ n _) (by rw [List.take_zero, show goneO [] (thru g) = [] from rfl, List.append_nil]), rfl, rfl, rfl, trivial⟩ (by rw [List.take_zero, show goneO [] (thru g) = [] from rfl, List.append_nil]; exact ent_take 4 rfl (ent_take 0 rfl (ent_close (⟨(a1, c1), (a2, c2)⟩ : (Option Addr × Nat) × (Option Addr × Nat)) trivial (by repeat (first | exact ent_nil _ | refine ent_take 0 rfl ?_ | refine ent_take 1 rfl ?_ | refine ent_take 2 rfl ?_ | refine ent_take 3 rfl ?_ | refine ent_take 4 rfl ?_ | refine ent_take 5 rfl ?_ | refine ent_take 6 rfl ?_ | refine ent_take 7 rfl ?_ | refine ent_take 8 rfl ?_ | refine ent_take 9 rfl ?_ | refine ent_take 10 rfl ?_ | refine ent_take 11 rfl ?_ | refine ent_take 12 rfl ?_))))) ?_
    rintro ⟨j, ⟨oa, oc⟩⟩ hj ρ1
    dsimp only [updL] at hj ⊢
    refine TC.seq ?_
    refine TC.seq ?_
    refine TC.region ?_
    refine q rfl rfl (mv (v := .int _ _) rfl) ?_
    refine q rfl rfl (mv (v := .slice _ _ _) rfl) ?_
    refine q rfl rfl (len 31 3 rfl rfl) ?_
    refine q rfl rfl (lss rfl rfl) ?_
    refine TL.nil (nt ?_)
    first | refine TC.condD rfl (fun hlj => ?_) (fun hlj => ?_) | refine TC.cond rfl (fun hlj => ?_) (fun hlj => ?_)
    · have hlj2 : j < R.length := by omega
      obtain ⟨o, ho⟩ : ∃ o, R[j]? = some o := ⟨_, List.getElem?_eq_getElem hlj2⟩
      have hpos2 : 0 < (ofsC R).length := by omega
      have hos := gone_snoc (pr := thru g) ho
      have hol := gone_len (R.take j) (thru g)
      have hrt : (R.take j).length ≤ j := by rw [List.length_take]; omega
      have hgi := ints_length ((thrF r g (r.D.take k)) ++ goneO (R.take j) (thru g))
      have hga : ((thrF r g (r.D.take k)) ++ goneO (R.take j) (thru g)).length = (thrF r g (r.D.take k)).length + (goneO (R.take j) (thru g)).length := List.length_append
      refine TC.skip (nt ?_)
      refine TC.seq ?_
      refine TC.block ?_
      refine TC.seq ?_
      refine TC.region ?_
      refine q rfl rfl (mv (v := .slice _ _ _) rfl) ?_
      refine q rfl rfl (mv (v := .int _ _) rfl) ?_
      first | refine q rfl rfl (ixS 31 3 rfl rfl rfl (by omega) (by first | assumption | (simp [ints_length] <;> omega))) ?_ | refine q rfl rfl (ixJ 31 3 rfl rfl rfl (by omega) (by omega) (by first | assumption | (simp [ints_length] <;> omega))) ?_ | refine q rfl rfl (ix 31 3 rfl rfl rfl (by omega) (by omega) rfl) ?_
      first | refine q rfl rfl (fa 1 rfl rfl) ?_ | refine q rfl rfl (faS 1 rfl rfl (by first | assumption | (simp [ints_length] <;> omega))) ?_
      first | refine q rfl rfl (ld rfl rfl rfl) ?_ | refine q rfl rfl (ldS rfl rfl (flat_ld ofC_sz ho 1 (by omega) rfl)) ?_ | refine q rfl rfl (ldS rfl rfl rfl) ?_
      refine q rfl rfl (mv (v := .int _ _) rfl) ?_
      refine q rfl rfl (eqI rfl rfl) ?_
      refine TL.nil (nt ?_)
      first | refine TC.condD rfl (fun hg => ?_) (fun hg => ?_) | refine TC.cond rfl (fun hg => ?_) (fun hg => ?_)
      · rw [if_pos (by simpa [thru] using hg)] at hos
        refine TC.region ?_
        refine q rfl rfl (mv (v := .slice _ _ _) rfl) ?_
        refine q rfl rfl (mv (v := .slice _ _ _) rfl) ?_
        refine q rfl rfl (mv (v := .int _ _) rfl) ?_
        first | refine q rfl rfl (ixS 31 3 rfl rfl rfl (by omega) (by first | assumption | (simp [ints_length] <;> omega))) ?_ | refine q rfl rfl (ixJ 31 3 rfl rfl rfl (by omega) (by omega) (by first | assumption | (simp [ints_length] <;> omega))) ?_ | refine q rfl rfl (ix 31 3 rfl rfl rfl (by omega) (by omega) rfl) ?_
        first | refine q rfl rfl (fa 0 rfl rfl) ?_ | refine q rfl rfl (faS 0 rfl rfl (by first | assumption | (simp [ints_length] <;> omega))) ?_
        first | refine q rfl rfl (ld rfl rfl rfl) ?_ | refine q rfl rfl (ldS rfl rfl (flat_ld ofC_sz ho 0 (by omega) rfl)) ?_ | refine q rfl rfl (ldS rfl rfl rfl) ?_
        refine e rfl ?_
        refine bs (cs := [.int _ _]) rfl ?_
        intro b1
        refine e rfl ?_
        refine ap 8 rfl rfl rfl rfl rfl (Nat.le_of_ble_eq_true rfl) (show _ = ints [o.fr] from rfl) rfl (by omega) (by simp only [maxLen]; omega) ?_
        intro ad1 cap1
        refine q rfl rfl (asg (v := .slice _ _ _) rfl) ?_
        refine TL.nil (nb (nt ?_))
        refine TC.region ?_
        refine q rfl rfl (mv (v := .int _ _) rfl) ?_
        first | refine q rfl rfl (addI rfl rfl (by omega) (by omega)) ?_ | refine q rfl rfl (add rfl rfl rfl) ?_
        refine q rfl rfl (asg (v := .int _ _) rfl) ?_
        refine TL.nil (nt ?_)
        exact ⟨rfl, ⟨j + 1, (ad1, cap1)⟩, (by dsimp only; omega), (by dsimp only; omega), ⟨rfl, rfl, congrArg (fun n => Value.slice _ n _) (by dsimp only; rw [hos, ← List.append_assoc]; simp only [List.length_append, List.length_singleton]), rfl, rfl, rfl, trivial⟩, (ent_takeE 0 rfl (by dsimp only; rw [hos, ← List.append_assoc]; simp only [List.length_append, List.length_singleton, ints_app1]) (by repeat (first | exact ent_nil _ | refine ent_take 0 rfl ?_ | refine ent_take 1 rfl ?_ | refine ent_take 2 rfl ?_ | refine ent_take 3 rfl ?_ | refine ent_take 4 rfl ?_ | refine ent_take 5 rfl ?_ | refine ent_take 6 rfl ?_ | refine ent_take 7 rfl ?_ | refine ent_take 8 rfl ?_ | refine ent_take 9 rfl ?_ | refine ent_take 10 rfl ?_ | refine ent_take 11 rfl ?_ | refine ent_take 12 rfl ?_)))⟩
      · rw [if_neg (by simpa [thru] using hg), List.append_nil] at hos
        refine TC.skip (nb (nt ?_))
        refine TC.region ?_
        refine q rfl rfl (mv (v := .int _ _) rfl) ?_
        first | refine q rfl rfl (addI rfl rfl (by omega) (by omega)) ?_ | refine q rfl rfl (add rfl rfl rfl) ?_
        refine q rfl rfl (asg (v := .int _ _) rfl) ?_
        refine TL.nil (nt ?_)
        exact ⟨rfl, ⟨j + 1, (oa, oc)⟩, (by dsimp only; omega), (by dsimp only; omega), ⟨rfl, rfl, congrArg (fun n => Value.slice _ n _) (by dsimp only; rw [hos]), rfl, rfl, rfl, trivial⟩, (ent_takeE 0 rfl (by dsimp only; rw [hos]) (by repeat (first | exact ent_nil _ | refine ent_take 0 rfl ?_ | refine ent_take 1 rfl ?_ | refine ent_take 2 rfl ?_ | refine ent_take 3 rfl ?_ | refine ent_take 4 rfl ?_ | refine ent_take 5 rfl ?_ | refine ent_take 6 rfl ?_ | refine ent_take 7 rfl ?_ | refine ent_take 8 rfl ?_ | refine ent_take 9 rfl ?_ | refine ent_take 10 rfl ?_ | refine ent_take 11 rfl ?_ | refine ent_take 12 rfl ?_)))⟩
    · obtain rfl : j = R.length := by omega
      rw [List.take_length, ← hgs]
      refine TC.exit (et (et (eb (nb (nt ?_)))))
      refine TC.region ?_
      refine q rfl rfl (mv (v := .int _ _) rfl) ?_
      first | refine q rfl rfl (addI rfl rfl (by omega) (by omega)) ?_ | refine q rfl rfl (add rfl rfl rfl) ?_
      refine q rfl rfl (asg (v := .int _ _) rfl) ?_
      refine TL.nil (nt ?_)
      exact ⟨rfl, ⟨k + 1, (oa, oc)⟩, (by dsimp only; omega), (by dsimp only; omega), ⟨rfl, rfl, rfl, rfl, trivial⟩, (by repeat (first | exact ent_nil _ | refine ent_take 0 rfl ?_ | refine ent_take 1 rfl ?_ | refine ent_take 2 rfl ?_ | refine ent_take 3 rfl ?_ | refine ent_take 4 rfl ?_ | refine ent_take 5 rfl ?_ | refine ent_take 6 rfl ?_ | refine ent_take 7 rfl ?_ | refine ent_take 8 rfl ?_ | refine ent_take 9 rfl ?_ | refine ent_take 10 rfl ?_ | refine ent_take 11 rfl ?_ | refine ent_take 12 rfl ?_))⟩
  · obtain rfl : k = r.D.length := by omega
    rw [List.take_length]
    refine TC.weak (B := sepL [isRm b r, slc 3 1 oa (thrF r g r.D).length oc (ints (thrF r g r.D)), F]) (ent_close (⟨(a1, c1), (a2, c2)⟩ : (Option Addr × Nat) × (Option Addr × Nat)) trivial (by repeat (first | exact ent_nil _ | refine ent_take 0 rfl ?_ | refine ent_take 1 rfl ?_ | refine ent_take 2 rfl ?_ | refine ent_take 3 rfl ?_ | refine ent_take 4 rfl ?_ | refine ent_take 5 rfl ?_ | refine ent_take 6 rfl ?_ | refine ent_take 7 rfl ?_ | refine ent_take 8 rfl ?_ | refine ent_take 9 rfl ?_ | refine ent_take 10 rfl ?_ | refine ent_take 11 rfl ?_ | refine ent_take 12 rfl ?_))) ?_
    have hcv : closeF r g = ((thrF r g r.D).foldl goF r, thrF r g r.D) := rfl
    rw [hcv]
    dsimp only
    have hGl := thrF_len (r := r) (g := g) hrl
    generalize thrF r g r.D = Gn at hGl ⊢
    refine TC.exit (et (et (eb (nt ?_))))
    refine TC.seq ?_
    refine TC.seq ?_
    refine TC.region ?_
    refine q rfl rfl (asg (v := .int _ _) rfl) ?_
    refine TL.nil (nt ?_)
    refine TC.block ?_
    refine TC.loop (ι := Nat) (fun k => k ≤ Gn.length) (fun k => [(0, .pointer (some ⟨b, 0, none⟩)), (5, .slice oa Gn.length oc), (9, .int .i64 ((k : Nat) : Int))]) (fun k => sepL [slc 3 1 oa Gn.length oc (ints Gn), isRm b ((Gn.take k).foldl goF r), F]) (fun k => Gn.length - k) 0 (Nat.zero_le _) ⟨rfl, rfl, rfl, trivial⟩ (by repeat (first | exact ent_nil _ | refine ent_take 0 rfl ?_ | refine ent_take 1 rfl ?_ | refine ent_take 2 rfl ?_ | refine ent_take 3 rfl ?_ | refine ent_take 4 rfl ?_ | refine ent_take 5 rfl ?_ | refine ent_take 6 rfl ?_ | refine ent_take 7 rfl ?_ | refine ent_take 8 rfl ?_ | refine ent_take 9 rfl ?_ | refine ent_take 10 rfl ?_ | refine ent_take 11 rfl ?_ | refine ent_take 12 rfl ?_)) ?_
    rintro k hk ρ2
    dsimp only [updL] at hk ⊢
    refine TC.seq ?_
    refine TC.seq ?_
    refine TC.region ?_
    refine q rfl rfl (mv (v := .int _ _) rfl) ?_
    refine q rfl rfl (mv (v := .slice _ _ _) rfl) ?_
    refine q rfl rfl (len 3 1 rfl rfl) ?_
    refine q rfl rfl (lss rfl rfl) ?_
    refine TL.nil (nt ?_)
    first | refine TC.condD rfl (fun hlt => ?_) (fun hlt => ?_) | refine TC.cond rfl (fun hlt => ?_) (fun hlt => ?_)
    · have hlt2 : k < Gn.length := by omega
      obtain ⟨x, hx⟩ : ∃ x, Gn[k]? = some x := ⟨_, List.getElem?_eq_getElem hlt2⟩
      have hpos : 0 < (ints Gn).length := by rw [ints_length]; omega
      have hsn := fold_snoc hx r
      obtain ⟨hfD, hfS⟩ := fold_D (Gn.take k) r
      have hd2 : ((Gn.take k).foldl goF r).D.length ≤ 1000 := by rw [hfD]; exact hd
      have hs2 : ((Gn.take k).foldl goF r).S.length ≤ 100000 := Nat.le_trans hfS hs
      have hn2 : ((Gn.take k).foldl goF r).D.Nodup := by rw [hfD]; exact hn
      have hs3 : (offF ((Gn.take k).foldl goF r) x).S.length ≤ 100000 := Nat.le_trans (List.length_filter_le _ _) hs2
      refine TC.skip (nt ?_)
      refine TC.seq ?_
      refine TC.block ?_
      refine TC.seq ?_
      refine TC.region ?_
      refine q rfl rfl (mv (v := .pointer _) rfl) ?_
      refine q rfl rfl (mv (v := .slice _ _ _) rfl) ?_
      refine q rfl rfl (mv (v := .int _ _) rfl) ?_
      first | refine q rfl rfl (ixS 3 1 rfl rfl rfl (by omega) (by first | assumption | (simp [ints_length] <;> omega))) ?_ | refine q rfl rfl (ixJ 3 1 rfl rfl rfl (by omega) (by omega) (by first | assumption | (simp [ints_length] <;> omega))) ?_ | refine q rfl rfl (ix 3 1 rfl rfl rfl (by omega) (by omega) rfl) ?_
      first | refine q rfl rfl (ld rfl rfl rfl) ?_ | refine q rfl rfl (ldS rfl rfl (ints_get hx)) ?_ | refine q rfl rfl (ldS rfl rfl rfl) ?_
      refine e rfl ?_
      refine cl (roff_ok b ((Gn.take k).foldl goF r) hd2 hs2 x) rfl PkL.p trivial ?_
      intro _ _
      change TL _ _ _ _ _ _ _ _ (sepL [_, _, _])
      refine TL.nil (nt ?_)
      refine TC.region ?_
      refine q rfl rfl (mv (v := .pointer _) rfl) ?_
      refine q rfl rfl (mv (v := .slice _ _ _) rfl) ?_
      refine q rfl rfl (mv (v := .int _ _) rfl) ?_
      first | refine q rfl rfl (ixS 3 1 rfl rfl rfl (by omega) (by first | assumption | (simp [ints_length] <;> omega))) ?_ | refine q rfl rfl (ixJ 3 1 rfl rfl rfl (by omega) (by omega) (by first | assumption | (simp [ints_length] <;> omega))) ?_ | refine q rfl rfl (ix 3 1 rfl rfl rfl (by omega) (by omega) rfl) ?_
      first | refine q rfl rfl (ld rfl rfl rfl) ?_ | refine q rfl rfl (ldS rfl rfl (ints_get hx)) ?_ | refine q rfl rfl (ldS rfl rfl rfl) ?_
      refine e rfl ?_
      refine cl (rset_ok b (offF ((Gn.take k).foldl goF r) x) hd2 hs3 hn2 x 0) rfl PkL.p trivial ?_
      intro _ _
      change TL _ _ _ _ _ _ _ _ (sepL [_, _, _])
      refine TL.nil (nb (nt ?_))
      refine TC.region ?_
      refine q rfl rfl (mv (v := .int _ _) rfl) ?_
      first | refine q rfl rfl (addI rfl rfl (by omega) (by omega)) ?_ | refine q rfl rfl (add rfl rfl rfl) ?_
      refine q rfl rfl (asg (v := .int _ _) rfl) ?_
      refine TL.nil (nt ?_)
      exact ⟨rfl, (k + 1), (by omega), (by omega), ⟨rfl, rfl, rfl, trivial⟩, (by rw [hsn]; exact (by repeat (first | exact ent_nil _ | refine ent_take 0 rfl ?_ | refine ent_take 1 rfl ?_ | refine ent_take 2 rfl ?_ | refine ent_take 3 rfl ?_ | refine ent_take 4 rfl ?_ | refine ent_take 5 rfl ?_ | refine ent_take 6 rfl ?_ | refine ent_take 7 rfl ?_ | refine ent_take 8 rfl ?_ | refine ent_take 9 rfl ?_ | refine ent_take 10 rfl ?_ | refine ent_take 11 rfl ?_ | refine ent_take 12 rfl ?_)))⟩
    · obtain rfl : k = Gn.length := by omega
      rw [List.take_length]
      clear hlt hk
      refine TC.exit (et (et (eb (nt ?_))))
      refine TC.seq ?_
      refine TC.region ?_
      refine q rfl rfl (mv (v := .slice _ _ _) rfl) ?_
      refine q rfl rfl (asg (v := .slice _ _ _) rfl) ?_
      refine TL.nil (nt ?_)
      refine TC.ret ?_
      exact Ret.i ⟨oa, oc⟩ [_] ⟨rfl, trivial⟩ rfl trivial (by repeat (first | exact ent_nil _ | refine ent_take 0 rfl ?_ | refine ent_take 1 rfl ?_ | refine ent_take 2 rfl ?_ | refine ent_take 3 rfl ?_ | refine ent_take 4 rfl ?_ | refine ent_take 5 rfl ?_ | refine ent_take 6 rfl ?_ | refine ent_take 7 rfl ?_ | refine ent_take 8 rfl ?_ | refine ent_take 9 rfl ?_ | refine ent_take 10 rfl ?_ | refine ent_take 11 rfl ?_ | refine ent_take 12 rfl ?_))

set_option maxRecDepth 4000 in
set_option maxHeartbeats 2000000 in
theorem rleave_ok (b : Nat) (r : Rf) (hd : r.D.length ≤ 1000) (hs : r.S.length ≤ 100000) (hn : r.D.Nodup) (id : Int) : FSpec Try.prog 49 [.pointer (some ⟨b, 0, none⟩), .int .i64 id] noRd [isRm b r] (fun y : Option Addr × Nat => .tuple #[.slice y.1 (leaveF r id).2.1.length y.2, .int .i64 (leaveF r id).2.2]) (fun _ => True) (fun y => [slc 3 1 y.1 (leaveF r id).2.1.length y.2 (ints (leaveF r id).2.1), isRm b (leaveF r id).1]) := by
  refine FSpec.intro (rs := [.tmp 4, .tmp 5]) (by kernel_rfl) Try.func49 rfl Try.ntmps49 (by rfl) rfl ?_
  intro F _
  change TC _ _ _ _ _ _ _ (sepL [_, _])
  refine TC.seq ?_
  refine TC.region ?_
  refine q rfl rfl (asg (v := .slice _ _ _) rfl) ?_
  refine q rfl rfl (asg (v := .int _ _) rfl) ?_
  refine TL.nil (nt ?_)
  refine TC.seq ?_
  refine TC.seq ?_
  refine TC.region ?_
  refine q rfl rfl (mv (v := .pointer _) rfl) ?_
  refine q rfl rfl (mv (v := .int _ _) rfl) ?_
  refine e rfl ?_
  refine cl (rat_ok b r hd hs id) rfl (picked_nil _) (ent_one 0 rfl) ?_
  intro _ _
  change TL _ _ _ _ _ _ _ _ (sepL [_, _])
  by_cases hy : id ∈ r.D
  · obtain ⟨i, h1, _⟩ := atD_yes hy
    rw [h1]
    have hh : ¬ id ∉ r.D := fun h => h hy
    refine q rfl rfl (lss rfl rfl) ?_
    refine TL.nil (nt ?_)
    refine TC.condD rfl (fun hc2 => absurd hc2 (by omega)) (fun hc2 => ?_)
    refine TC.skip (nt ?_)
    refine TC.seq ?_
    refine TC.region ?_
    refine q rfl rfl (mv (v := .pointer _) rfl) ?_
    refine q rfl rfl (mv (v := .int _ _) rfl) ?_
    refine e rfl ?_
    refine cl (rcall_ok b r hd hs hn id) rfl PkL.p trivial ?_
    intro _ _
    change TL _ _ _ _ _ _ _ _ (sepL [_, _])
    have hlv : leaveF r id = (dropF ((outF (callF r id).1 id).foldl goF (callF r id).1) id, outF (callF r id).1 id, 0) := if_neg hh
    rw [hlv]
    dsimp only
    obtain ⟨hcD, hcS⟩ := call_D r id
    have hd1 : (callF r id).1.D.length ≤ 1000 := by rw [hcD]; exact hd
    have hs1 : (callF r id).1.S.length ≤ 100000 := Nat.le_trans hcS hs
    have hn1 : (callF r id).1.D.Nodup := by rw [hcD]; exact hn
    have hy1 : id ∈ (callF r id).1.D := by rw [hcD]; exact hy
    clear hlv hcD hcS hy h1 hd hs hn hh
    generalize (callF r id).1 = r1 at hd1 hs1 hn1 hy1 ⊢
    refine TL.nil (nt ?_)
    refine TC.seq ?_
    refine TC.region ?_
    refine q rfl rfl (asg (v := .slice _ _ _) rfl) ?_
    refine TL.nil (nt ?_)
    refine TC.seq ?_
    refine TC.region ?_
    refine q rfl rfl (mv (v := .pointer _) rfl) ?_
    refine q rfl rfl (mv (v := .int _ _) rfl) ?_
    refine e rfl ?_
    refine cl (rrow_ok b r1 hd1 hs1 id) rfl (picked_nil _) (ent_one 0 rfl) ?_
    intro yr _
    change TL _ _ _ _ _ _ _ _ (sepL [_, _, _])
    have hou : outF r1 id = (rowF r1.S id).map (·.fr) ++ if 0 ≤ clF r1 id then [clF r1 id] else [] := rfl
    have hol := out_len r1 id
    have hrl := rowF_len r1.S id
    generalize hRg : rowF r1.S id = R at hou hrl ⊢
    have hRl := ofsC_length R
    refine q rfl rfl (asg (v := .slice _ _ _) rfl) ?_
    refine TL.nil (nt ?_)
    refine TC.seq ?_
    refine TC.seq ?_
    refine TC.region ?_
    refine q rfl rfl (asg (v := .int _ _) rfl) ?_
    refine TL.nil (nt ?_)
    refine TC.block ?_
    refine TC.loop (ι := Nat × (Option Addr × Nat)) (fun u => u.1 ≤ R.length) (fun u => [(0, .pointer (some ⟨b, 0, none⟩)), (1, .int .i64 id), (6, .slice u.2.1 ((R.take u.1).map (·.fr)).length u.2.2), (7, .slice yr.1 R.length yr.2), (8, .int .i64 ((u.1 : Nat) : Int))]) (fun u => sepL [slc 3 1 u.2.1 ((R.take u.1).map (·.fr)).length u.2.2 (ints ((R.take u.1).map (·.fr))), slc 31 3 yr.1 R.length yr.2 (ofsC R), isRm b r1, F]) (fun u => R.length - u.1) ⟨0, (none, 0)⟩ (Nat.zero_le _) ⟨rfl, rfl, rfl, rfl, rfl, trivial⟩ ((slc_nil 3 1 _).trans (by repeat (first | exact ent_nil _ | refine ent_take 0 rfl ?_ | refine ent_take 1 rfl ?_ | refine ent_take 2 rfl ?_ | refine ent_take 3 rfl ?_ | refine ent_take 4 rfl ?_ | refine ent_take 5 rfl ?_ | refine ent_take 6 rfl ?_ | refine ent_take 7 rfl ?_ | refine ent_take 8 rfl ?_ | refine ent_take 9 rfl ?_ | refine ent_take 10 rfl ?_ | refine ent_take 11 rfl ?_ | refine ent_take 12 rfl ?_))) ?_
    rintro ⟨k, ⟨oa, oc⟩⟩ hk ρ0
    dsimp only [updL] at hk ⊢
    refine TC.seq ?_
    refine TC.seq ?_
    refine TC.region ?_
    refine q rfl rfl (mv (v := .int _ _) rfl) ?_
    refine q rfl rfl (mv (v := .slice _ _ _) rfl) ?_
    refine q rfl rfl (len 31 3 rfl rfl) ?_
    refine q rfl rfl (lss rfl rfl) ?_
    refine TL.nil (nt ?_)
    first | refine TC.condD rfl (fun hlt => ?_) (fun hlt => ?_) | refine TC.cond rfl (fun hlt => ?_) (fun hlt => ?_)
    · have hlt2 : k < R.length := by omega
      obtain ⟨o, ho⟩ : ∃ o, R[k]? = some o := ⟨_, List.getElem?_eq_getElem hlt2⟩
      have hpos : 0 < (ofsC R).length := by omega
      have hsn : ((R.take (k + 1)).map (·.fr)) = ((R.take k).map (·.fr)) ++ [o.fr] := by rw [List.take_add_one, ho, Option.toList, List.map_append]; rfl
      have hgi := ints_length ((R.take k).map (·.fr))
      have hml : ((R.take k).map (·.fr)).length ≤ k := by rw [List.length_map, List.length_take]; omega
      refine TC.skip (nt ?_)
      refine TC.seq ?_
      refine TC.block ?_
      refine TC.region ?_
      refine q rfl rfl (mv (v := .slice _ _ _) rfl) ?_
      refine q rfl rfl (mv (v := .slice _ _ _) rfl) ?_
      refine q rfl rfl (mv (v := .int _ _) rfl) ?_
      first | refine q rfl rfl (ixS 31 3 rfl rfl rfl (by omega) (by first | assumption | (simp [ints_length] <;> omega))) ?_ | refine q rfl rfl (ixJ 31 3 rfl rfl rfl (by omega) (by omega) (by first | assumption | (simp [ints_length] <;> omega))) ?_ | refine q rfl rfl (ix 31 3 rfl rfl rfl (by omega) (by omega) rfl) ?_
      first | refine q rfl rfl (fa 0 rfl rfl) ?_ | refine q rfl rfl (faS 0 rfl rfl (by first | assumption | (simp [ints_length] <;> omega))) ?_
      first | refine q rfl rfl (ld rfl rfl rfl) ?_ | refine q rfl rfl (ldS rfl rfl (flat_ld ofC_sz ho 0 (by omega) rfl)) ?_ | refine q rfl rfl (ldS rfl rfl rfl) ?_
      refine e rfl ?_
      refine bs (cs := [.int _ _]) rfl ?_
      intro b2
      refine e rfl ?_
      refine ap 8 rfl rfl rfl rfl rfl (Nat.le_of_ble_eq_true rfl) (show _ = ints [o.fr] from rfl) rfl (by omega) (by simp only [maxLen]; omega) ?_
      intro ad2 cap2
      refine q rfl rfl (asg (v := .slice _ _ _) rfl) ?_
      refine TL.nil (nb (nt ?_))
      refine TC.region ?_
      refine q rfl rfl (mv (v := .int _ _) rfl) ?_
      first | refine q rfl rfl (addI rfl rfl (by omega) (by omega)) ?_ | refine q rfl rfl (add rfl rfl rfl) ?_
      refine q rfl rfl (asg (v := .int _ _) rfl) ?_
      refine TL.nil (nt ?_)
      exact ⟨rfl, ⟨k + 1, (ad2, cap2)⟩, (by dsimp only; omega), (by dsimp only; omega), ⟨rfl, rfl, congrArg (fun n => Value.slice _ n _) (by dsimp only; rw [hsn, List.length_append]; rfl), rfl, rfl, trivial⟩, (ent_takeE 0 rfl (by dsimp only; rw [hsn, List.length_append, ints_app1]; rfl) (by repeat (first | exact ent_nil _ | refine ent_take 0 rfl ?_ | refine ent_take 1 rfl ?_ | refine ent_take 2 rfl ?_ | refine ent_take 3 rfl ?_ | refine ent_take 4 rfl ?_ | refine ent_take 5 rfl ?_ | refine ent_take 6 rfl ?_ | refine ent_take 7 rfl ?_ | refine ent_take 8 rfl ?_ | refine ent_take 9 rfl ?_ | refine ent_take 10 rfl ?_ | refine ent_take 11 rfl ?_ | refine ent_take 12 rfl ?_)))⟩
    · obtain rfl : k = R.length := by omega
      rw [List.take_length]
      have hgi := ints_length (R.map (·.fr))
      have hml : (R.map (·.fr)).length = R.length := List.length_map _
      clear hlt hk
      refine TC.exit (et (et (eb (nt ?_))))
      refine TC.cut (ι := Option Addr × Nat) (fun u => True) (fun u => [(0, .pointer (some ⟨b, 0, none⟩)), (1, .int .i64 id), (6, .slice u.1 (outF r1 id).length u.2)]) (fun u => sepL [slc 3 1 u.1 (outF r1 id).length u.2 (ints (outF r1 id)), isRm b r1, F]) ?_ ?_
      · refine TC.seq ?_
        refine TC.region ?_
        refine q rfl rfl (mv (v := .pointer _) rfl) ?_
        refine q rfl rfl (mv (v := .int _ _) rfl) ?_
        refine e rfl ?_
        refine cl (rcaller_ok b r1 hd1 hs1 id) rfl (picked_nil _) (ent_one 2 rfl) ?_
        intro _ _
        change TL _ _ _ _ _ _ _ _ (sepL [_, _, _, _])
        refine q rfl rfl (geq rfl rfl) ?_
        refine TL.nil (nt ?_)
        first | refine TC.condD rfl (fun hc => ?_) (fun hc => ?_) | refine TC.cond rfl (fun hc => ?_) (fun hc => ?_)
        · have hoc : outF r1 id = R.map (·.fr) ++ [clF r1 id] := by rw [hou, if_pos (by omega)]
          refine TC.region ?_
          refine q rfl rfl (mv (v := .slice _ _ _) rfl) ?_
          refine q rfl rfl (mv (v := .pointer _) rfl) ?_
          refine q rfl rfl (mv (v := .int _ _) rfl) ?_
          refine e rfl ?_
          refine cl (rcaller_ok b r1 hd1 hs1 id) rfl (picked_nil _) (ent_one 2 rfl) ?_
          intro _ _
          change TL _ _ _ _ _ _ _ _ (sepL [_, _, _, _])
          refine e rfl ?_
          refine bs (cs := [.int _ _]) rfl ?_
          intro b3
          refine e rfl ?_
          refine ap 8 rfl rfl rfl rfl rfl (Nat.le_of_ble_eq_true rfl) (show _ = ints [clF r1 id] from rfl) rfl (by omega) (by simp only [maxLen]; omega) ?_
          intro ad3 cap3
          refine q rfl rfl (asg (v := .slice _ _ _) rfl) ?_
          refine TL.nil (nt ?_)
          exact ⟨rfl, ⟨ad3, cap3⟩, trivial, ⟨rfl, rfl, congrArg (fun n => Value.slice _ n _) (by rw [hoc, List.length_append]; rfl), trivial⟩, (ent_takeE 0 rfl (by rw [hoc, List.length_append, ints_app1]; rfl) (by repeat (first | exact ent_nil _ | refine ent_take 0 rfl ?_ | refine ent_take 1 rfl ?_ | refine ent_take 2 rfl ?_ | refine ent_take 3 rfl ?_ | refine ent_take 4 rfl ?_ | refine ent_take 5 rfl ?_ | refine ent_take 6 rfl ?_ | refine ent_take 7 rfl ?_ | refine ent_take 8 rfl ?_ | refine ent_take 9 rfl ?_ | refine ent_take 10 rfl ?_ | refine ent_take 11 rfl ?_ | refine ent_take 12 rfl ?_)))⟩
        · have hoc : outF r1 id = R.map (·.fr) := by rw [hou, if_neg (by omega), List.append_nil]
          refine TC.skip (nt ?_)
          exact ⟨rfl, ⟨oa, oc⟩, trivial, ⟨rfl, rfl, congrArg (fun n => Value.slice _ n _) (by rw [hoc]), trivial⟩, (ent_takeE 0 rfl (by rw [hoc]) (by repeat (first | exact ent_nil _ | refine ent_take 0 rfl ?_ | refine ent_take 1 rfl ?_ | refine ent_take 2 rfl ?_ | refine ent_take 3 rfl ?_ | refine ent_take 4 rfl ?_ | refine ent_take 5 rfl ?_ | refine ent_take 6 rfl ?_ | refine ent_take 7 rfl ?_ | refine ent_take 8 rfl ?_ | refine ent_take 9 rfl ?_ | refine ent_take 10 rfl ?_ | refine ent_take 11 rfl ?_ | refine ent_take 12 rfl ?_)))⟩
      · rintro ⟨oa, oc⟩ _ ρ1
        dsimp only [updL]
        clear hou hgi hml hRl hrl hRg
        generalize outF r1 id = Gn at hol ⊢
        refine TC.seq ?_
        refine TC.seq ?_
        refine TC.region ?_
        refine q rfl rfl (asg (v := .int _ _) rfl) ?_
        refine TL.nil (nt ?_)
        refine TC.block ?_
        refine TC.loop (ι := Nat) (fun k => k ≤ Gn.length) (fun k => [(0, .pointer (some ⟨b, 0, none⟩)), (1, .int .i64 id), (6, .slice oa Gn.length oc), (9, .int .i64 ((k : Nat) : Int))]) (fun k => sepL [slc 3 1 oa Gn.length oc (ints Gn), isRm b ((Gn.take k).foldl goF r1), F]) (fun k => Gn.length - k) 0 (Nat.zero_le _) ⟨rfl, rfl, rfl, rfl, trivial⟩ (by repeat (first | exact ent_nil _ | refine ent_take 0 rfl ?_ | refine ent_take 1 rfl ?_ | refine ent_take 2 rfl ?_ | refine ent_take 3 rfl ?_ | refine ent_take 4 rfl ?_ | refine ent_take 5 rfl ?_ | refine ent_take 6 rfl ?_ | refine ent_take 7 rfl ?_ | refine ent_take 8 rfl ?_ | refine ent_take 9 rfl ?_ | refine ent_take 10 rfl ?_ | refine ent_take 11 rfl ?_ | refine ent_take 12 rfl ?_)) ?_
        rintro k hk ρ2
        dsimp only [updL] at hk ⊢
        refine TC.seq ?_
        refine TC.seq ?_
        refine TC.region ?_
        refine q rfl rfl (mv (v := .int _ _) rfl) ?_
        refine q rfl rfl (mv (v := .slice _ _ _) rfl) ?_
        refine q rfl rfl (len 3 1 rfl rfl) ?_
        refine q rfl rfl (lss rfl rfl) ?_
        refine TL.nil (nt ?_)
        first | refine TC.condD rfl (fun hlt => ?_) (fun hlt => ?_) | refine TC.cond rfl (fun hlt => ?_) (fun hlt => ?_)
        · have hlt2 : k < Gn.length := by omega
          obtain ⟨x, hx⟩ : ∃ x, Gn[k]? = some x := ⟨_, List.getElem?_eq_getElem hlt2⟩
          have hpos : 0 < (ints Gn).length := by rw [ints_length]; omega
          have hsn := fold_snoc hx r1
          obtain ⟨hfD, hfS⟩ := fold_D (Gn.take k) r1
          have hd2 : ((Gn.take k).foldl goF r1).D.length ≤ 1000 := by rw [hfD]; exact hd1
          have hs2 : ((Gn.take k).foldl goF r1).S.length ≤ 100000 := Nat.le_trans hfS hs1
          have hn2 : ((Gn.take k).foldl goF r1).D.Nodup := by rw [hfD]; exact hn1
          have hs3 : (offF ((Gn.take k).foldl goF r1) x).S.length ≤ 100000 := Nat.le_trans (List.length_filter_le _ _) hs2
          refine TC.skip (nt ?_)
          refine TC.seq ?_
          refine TC.block ?_
          refine TC.seq ?_
          refine TC.region ?_
          refine q rfl rfl (mv (v := .pointer _) rfl) ?_
          refine q rfl rfl (mv (v := .slice _ _ _) rfl) ?_
          refine q rfl rfl (mv (v := .int _ _) rfl) ?_
          first | refine q rfl rfl (ixS 3 1 rfl rfl rfl (by omega) (by first | assumption | (simp [ints_length] <;> omega))) ?_ | refine q rfl rfl (ixJ 3 1 rfl rfl rfl (by omega) (by omega) (by first | assumption | (simp [ints_length] <;> omega))) ?_ | refine q rfl rfl (ix 3 1 rfl rfl rfl (by omega) (by omega) rfl) ?_
          first | refine q rfl rfl (ld rfl rfl rfl) ?_ | refine q rfl rfl (ldS rfl rfl (ints_get hx)) ?_ | refine q rfl rfl (ldS rfl rfl rfl) ?_
          refine e rfl ?_
          refine cl (roff_ok b ((Gn.take k).foldl goF r1) hd2 hs2 x) rfl PkL.p trivial ?_
          intro _ _
          change TL _ _ _ _ _ _ _ _ (sepL [_, _, _])
          refine TL.nil (nt ?_)
          refine TC.region ?_
          refine q rfl rfl (mv (v := .pointer _) rfl) ?_
          refine q rfl rfl (mv (v := .slice _ _ _) rfl) ?_
          refine q rfl rfl (mv (v := .int _ _) rfl) ?_
          first | refine q rfl rfl (ixS 3 1 rfl rfl rfl (by omega) (by first | assumption | (simp [ints_length] <;> omega))) ?_ | refine q rfl rfl (ixJ 3 1 rfl rfl rfl (by omega) (by omega) (by first | assumption | (simp [ints_length] <;> omega))) ?_ | refine q rfl rfl (ix 3 1 rfl rfl rfl (by omega) (by omega) rfl) ?_
          first | refine q rfl rfl (ld rfl rfl rfl) ?_ | refine q rfl rfl (ldS rfl rfl (ints_get hx)) ?_ | refine q rfl rfl (ldS rfl rfl rfl) ?_
          refine e rfl ?_
          refine cl (rset_ok b (offF ((Gn.take k).foldl goF r1) x) hd2 hs3 hn2 x 0) rfl PkL.p trivial ?_
          intro _ _
          change TL _ _ _ _ _ _ _ _ (sepL [_, _, _])
          refine TL.nil (nb (nt ?_))
          refine TC.region ?_
          refine q rfl rfl (mv (v := .int _ _) rfl) ?_
          first | refine q rfl rfl (addI rfl rfl (by omega) (by omega)) ?_ | refine q rfl rfl (add rfl rfl rfl) ?_
          refine q rfl rfl (asg (v := .int _ _) rfl) ?_
          refine TL.nil (nt ?_)
          exact ⟨rfl, (k + 1), (by omega), (by omega), ⟨rfl, rfl, rfl, rfl, trivial⟩, (by rw [hsn]; exact (by repeat (first | exact ent_nil _ | refine ent_take 0 rfl ?_ | refine ent_take 1 rfl ?_ | refine ent_take 2 rfl ?_ | refine ent_take 3 rfl ?_ | refine ent_take 4 rfl ?_ | refine ent_take 5 rfl ?_ | refine ent_take 6 rfl ?_ | refine ent_take 7 rfl ?_ | refine ent_take 8 rfl ?_ | refine ent_take 9 rfl ?_ | refine ent_take 10 rfl ?_ | refine ent_take 11 rfl ?_ | refine ent_take 12 rfl ?_)))⟩
        · obtain rfl : k = Gn.length := by omega
          rw [List.take_length]
          clear hlt hk
          obtain ⟨hfD, hfS⟩ := fold_D Gn r1
          have hd2 : (Gn.foldl goF r1).D.length ≤ 1000 := by rw [hfD]; exact hd1
          have hs2 : (Gn.foldl goF r1).S.length ≤ 100000 := Nat.le_trans hfS hs1
          have hn2 : (Gn.foldl goF r1).D.Nodup := by rw [hfD]; exact hn1
          have hy2 : id ∈ (Gn.foldl goF r1).D := by rw [hfD]; exact hy1
          generalize (Gn.foldl goF r1) = r2 at hd2 hs2 hn2 hy2 ⊢
          refine TC.exit (et (et (eb (nt ?_))))
          refine TC.seq ?_
          refine TC.region ?_
          refine q rfl rfl (mv (v := .pointer _) rfl) ?_
          refine q rfl rfl (mv (v := .int _ _) rfl) ?_
          refine e rfl ?_
          refine cl (rat_ok b r2 hd2 hs2 id) rfl (picked_nil _) (ent_one 1 rfl) ?_
          intro _ _
          change TL _ _ _ _ _ _ _ _ (sepL [_, _, _])
          obtain ⟨j, h3, h4⟩ := atD_yes hy2
          rw [h3]
          have hj := (List.getElem?_eq_some_iff.1 h4).1
          have hdd := drop_D hn2 h4
          refine q rfl rfl (asg (v := .int _ _) rfl) ?_
          refine TL.nil (nt ?_)
          refine TC.seq ?_
          refine TC.open 1 rfl (fun x0 hx0 => ?_)
          obtain ⟨⟨a1, c1⟩, ⟨a2, c2⟩⟩ := x0
          clear hx0
          change TC _ _ _ _ _ _ _ (sepL [_, _, _, _, _])
          dsimp only
          have hil := thsC_length r2
          have hsl := snsC_length r2.S
          refine TC.factSlc 1 rfl (fun _ hc1 _ => ?_)
          haveI : OffI (thsC r2) c1 (j + 1) 3 := ⟨r2.D.length, by omega, by omega, hc1⟩
          have hpos2 : 0 < (thsC r2).length := by omega
          refine TC.draw _ [19] [(0, false), (2, false), (3, false), (4, false), (5, false), (6, false), (7, false), (9, false), (10, false), (11, false), (12, false), (13, false), (14, false), (15, false), (1, true), (8, true), (16, true), (17, false), (18, false), (19, true)] (by kernel_rfl) (by kernel_rfl) (ent_take 0 rfl (ent_take 0 rfl (ent_nil _))) ?_
          refine dq rfl rfl rfl (mv (v := .pointer _) rfl) ?_
          refine dq rfl rfl rfl (mv (v := .pointer _) rfl) ?_
          first | refine dq rfl rfl rfl (nc rfl) ?_ | refine dq rfl rfl rfl (ncF rfl) ?_ | refine dq rfl rfl rfl (ncS rfl (by first | assumption | (simp [ints_length] <;> omega))) ?_
          first | refine dq rfl rfl rfl (fa 0 rfl rfl) ?_ | refine dq rfl rfl rfl (faS 0 rfl rfl (by first | assumption | (simp [ints_length] <;> omega))) ?_
          first | refine dq rfl rfl rfl (ld rfl rfl rfl) ?_ | refine dq rfl rfl rfl (ldS rfl rfl rfl) ?_
          refine dq rfl rfl rfl (mv (v := .int _ _) rfl) ?_
          refine dq rfl rfl rfl (slTn 65 3 (j) rfl rfl rfl (by omega) (by omega)) ?_
          refine dq rfl rfl rfl (mv (v := .pointer _) rfl) ?_
          first | refine dq rfl rfl rfl (nc rfl) ?_ | refine dq rfl rfl rfl (ncF rfl) ?_ | refine dq rfl rfl rfl (ncS rfl (by first | assumption | (simp [ints_length] <;> omega))) ?_
          first | refine dq rfl rfl rfl (fa 0 rfl rfl) ?_ | refine dq rfl rfl rfl (faS 0 rfl rfl (by first | assumption | (simp [ints_length] <;> omega))) ?_
          first | refine dq rfl rfl rfl (ld rfl rfl rfl) ?_ | refine dq rfl rfl rfl (ldS rfl rfl rfl) ?_
          refine dq rfl rfl rfl (mv (v := .int _ _) rfl) ?_
          first | refine dq rfl rfl rfl (addI rfl rfl (by omega) (by omega)) ?_ | refine dq rfl rfl rfl (add rfl rfl rfl) ?_
          refine dq rfl rfl rfl (slFn 65 3 (j + 1) rfl rfl rfl (by omega) (by omega)) ?_
          refine de rfl rfl ?_
          refine bs (cs := []) rfl ?_
          intro b4
          refine ⟨(by repeat (first | exact ent_nil _ | refine ent_take 0 rfl ?_ | refine ent_take 1 rfl ?_ | refine ent_take 2 rfl ?_ | refine ent_take 3 rfl ?_ | refine ent_take 4 rfl ?_ | refine ent_take 5 rfl ?_ | refine ent_take 6 rfl ?_ | refine ent_take 7 rfl ?_ | refine ent_take 8 rfl ?_ | refine ent_take 9 rfl ?_ | refine ent_take 10 rfl ?_ | refine ent_take 11 rfl ?_ | refine ent_take 12 rfl ?_)), ?_⟩
          refine de rfl rfl ?_
          refine ap 24 rfl rfl rfl rfl rfl (by omega) (ths_take r2 j) (flat_one (thC_one r2) _) (by omega) (by simp only [maxLen]; omega) ?_
          intro ad4 cap4
          refine ⟨(by repeat (first | exact ent_nil _ | refine ent_take 0 rfl ?_ | refine ent_take 1 rfl ?_ | refine ent_take 2 rfl ?_ | refine ent_take 3 rfl ?_ | refine ent_take 4 rfl ?_ | refine ent_take 5 rfl ?_ | refine ent_take 6 rfl ?_ | refine ent_take 7 rfl ?_ | refine ent_take 8 rfl ?_ | refine ent_take 9 rfl ?_ | refine ent_take 10 rfl ?_ | refine ent_take 11 rfl ?_ | refine ent_take 12 rfl ?_)), ?_⟩
          refine de rfl rfl ?_
          refine ap 24 rfl rfl rfl rfl rfl (by rw [List.length_drop]; omega) (ths_drop r2 (j + 1)) (flat_one (thC_one r2) _) (by omega) (by simp only [maxLen]; omega) ?_
          intro ad5 cap5
          refine ⟨(by repeat (first | exact ent_nil _ | refine ent_take 0 rfl ?_ | refine ent_take 1 rfl ?_ | refine ent_take 2 rfl ?_ | refine ent_take 3 rfl ?_ | refine ent_take 4 rfl ?_ | refine ent_take 5 rfl ?_ | refine ent_take 6 rfl ?_ | refine ent_take 7 rfl ?_ | refine ent_take 8 rfl ?_ | refine ent_take 9 rfl ?_ | refine ent_take 10 rfl ?_ | refine ent_take 11 rfl ?_ | refine ent_take 12 rfl ?_)), ?_⟩
          first | refine dq rfl rfl rfl (nc rfl) ?_ | refine dq rfl rfl rfl (ncF rfl) ?_ | refine dq rfl rfl rfl (ncS rfl (by first | assumption | (simp [ints_length] <;> omega))) ?_
          first | refine dq rfl rfl rfl (fa 0 rfl rfl) ?_ | refine dq rfl rfl rfl (faS 0 rfl rfl (by first | assumption | (simp [ints_length] <;> omega))) ?_
          refine dl0 rfl rfl rfl ?_
          refine st (v := .slice _ _ _) (vs := [_]) 1 rfl rfl rfl rfl rfl rfl (Nat.le_of_ble_eq_true rfl) rfl ?_
          refine TD.nil (nt ?_)
          refine TC.seq ?_
          refine TC.region ?_
          refine q rfl rfl (mv (v := .slice _ _ _) rfl) ?_
          refine q rfl rfl (asg (v := .slice _ _ _) rfl) ?_
          refine q rfl rfl (asg (v := .int _ _) rfl) ?_
          refine TL.nil (nt ?_)
          refine TC.ret ?_
          have hDl : (dropF r2 id).D = r2.D.take j ++ r2.D.drop (j + 1) := hdd
          have hDn : (dropF r2 id).D.length = 0 + j + (r2.D.length - (j + 1)) := by rw [hDl, List.length_append, List.length_take, List.length_drop]; omega
          have hDt : thsC (dropF r2 id) = (r2.D.take j).flatMap (thC r2) ++ (r2.D.drop (j + 1)).flatMap (thC r2) := by rw [thsC, hDl, List.flatMap_append]; rfl
          exact Ret.i ⟨oa, oc⟩ [_, _] ⟨rfl, rfl, trivial⟩ rfl trivial (ent_take 4 rfl (ent_close (⟨(ad5, cap5), (a2, c2)⟩ : (Option Addr × Nat) × (Option Addr × Nat)) trivial (ent_takeE 0 rfl (by rw [hDn] <;> rfl) (ent_takeE 0 rfl (by rw [hDn, hDt, List.nil_append] <;> rfl) (by repeat (first | exact ent_nil _ | refine ent_take 0 rfl ?_ | refine ent_take 1 rfl ?_ | refine ent_take 2 rfl ?_ | refine ent_take 3 rfl ?_ | refine ent_take 4 rfl ?_ | refine ent_take 5 rfl ?_ | refine ent_take 6 rfl ?_ | refine ent_take 7 rfl ?_ | refine ent_take 8 rfl ?_ | refine ent_take 9 rfl ?_ | refine ent_take 10 rfl ?_ | refine ent_take 11 rfl ?_ | refine ent_take 12 rfl ?_))))))
  · rw [atD_no hy, show leaveF r id = (r, [], 6) from if_pos hy]
    refine q rfl rfl (lss rfl rfl) ?_
    refine TL.nil (nt ?_)
    refine TC.condD rfl (fun hc1 => ?_) (fun hc1 => absurd (by decide) hc1)
    refine TC.seq ?_
    refine TC.region ?_
    refine q rfl rfl (asg (v := .slice _ _ _) rfl) ?_
    refine q rfl rfl (asg (v := .int _ _) rfl) ?_
    refine TL.nil (nt ?_)
    refine TC.ret (rt ?_)
    exact Ret.i ⟨none, 0⟩ [_, _] ⟨rfl, rfl, trivial⟩ rfl trivial ((slc_nil 3 1 _).trans (ent_take 0 rfl (ent_take 0 rfl (ent_take 0 rfl (ent_nil _)))))

set_option maxRecDepth 4000 in
set_option maxHeartbeats 2000000 in
theorem rjoin_ok (b : Nat) (r : Rf) (hd : r.D.length ≤ 1000) (hs : r.S.length ≤ 100000) (hn : r.D.Nodup) (hsd : r.D.Pairwise (· ≤ ·)) (x : Int) (ax : Option Addr) (cx : Nat) : FSpec Try.prog 43 [.pointer (some ⟨b, 0, none⟩), .slice ax 1 cx] (fun F => ∃ E, RdS F E ax (ints [x])) [isRm b r] (fun _ : Unit => .int .i64 (joinNF r x)) (fun _ => True) (fun _ => [isRm b (joinF r x)]) := by
  refine FSpec.intro (rs := [.tmp 4]) (by kernel_rfl) Try.func43 rfl Try.ntmps43 (by rfl) rfl ?_
  intro F ⟨E, hF⟩
  change TC _ _ _ _ _ _ _ (sepL [_, _])
  haveI : RdSI F ax E (ints [x]) := ⟨hF⟩
  have hxl : (ints [x]).length = 1 := rfl
  refine TC.seq ?_
  refine TC.region ?_
  refine q rfl rfl (asg (v := .int _ _) rfl) ?_
  refine TL.nil (nt ?_)
  refine TC.seq ?_
  refine TC.region ?_
  refine q rfl rfl (asg (v := .int _ _) rfl) ?_
  refine TL.nil (nt ?_)
  refine TC.seq ?_
  refine TC.seq ?_
  refine TC.region ?_
  refine q rfl rfl (asg (v := .int _ _) rfl) ?_
  refine TL.nil (nt ?_)
  refine TC.block ?_
  refine TC.loop (ι := Nat × Rf × Int) (fun u => (u.1 = 0 ∧ u.2.1 = r ∧ u.2.2 = 0) ∨ (u.1 = 1 ∧ u.2.1 = joinF r x ∧ u.2.2 = joinNF r x)) (fun u => [(0, .pointer (some ⟨b, 0, none⟩)), (1, .slice ax 1 cx), (5, .int .i64 u.2.2), (6, .int .i64 ((u.1 : Nat) : Int))]) (fun u => sepL [isRm b u.2.1, F]) (fun u => 1 - u.1) ⟨0, r, 0⟩ (.inl ⟨rfl, rfl, rfl⟩) ⟨rfl, rfl, rfl, rfl, trivial⟩ (by repeat (first | exact ent_nil _ | refine ent_take 0 rfl ?_ | refine ent_take 1 rfl ?_ | refine ent_take 2 rfl ?_ | refine ent_take 3 rfl ?_ | refine ent_take 4 rfl ?_ | refine ent_take 5 rfl ?_ | refine ent_take 6 rfl ?_ | refine ent_take 7 rfl ?_ | refine ent_take 8 rfl ?_ | refine ent_take 9 rfl ?_ | refine ent_take 10 rfl ?_ | refine ent_take 11 rfl ?_ | refine ent_take 12 rfl ?_)) ?_
  rintro ⟨k, r0, n⟩ hk ρ0
  dsimp only [updL] at hk ⊢
  refine TC.seq ?_
  refine TC.seq ?_
  refine TC.region ?_
  refine q rfl rfl (mv (v := .int _ _) rfl) ?_
  refine q rfl rfl (mv (v := .slice _ _ _) rfl) ?_
  refine q rfl rfl (len 3 1 rfl rfl) ?_
  refine q rfl rfl (lss rfl rfl) ?_
  refine TL.nil (nt ?_)
  first | refine TC.condD rfl (fun hlt => ?_) (fun hlt => ?_) | refine TC.cond rfl (fun hlt => ?_) (fun hlt => ?_)
  · obtain ⟨rfl, rfl, rfl⟩ : k = 0 ∧ r0 = r ∧ n = 0 := by
      rcases hk with h | ⟨h, _, _⟩
      · exact h
      · omega
    have hx0 : (ints [x])[0]? = some (.int .i64 x) := rfl
    refine TC.skip (nt ?_)
    refine TC.seq ?_
    refine TC.block ?_
    refine TC.seq ?_
    refine TC.seq ?_
    refine TC.region ?_
    refine q rfl rfl (mv (v := .slice _ _ _) rfl) ?_
    refine q rfl rfl (mv (v := .int _ _) rfl) ?_
    first | refine q rfl rfl (ixS 3 1 rfl rfl rfl (by omega) (by first | assumption | (simp [ints_length] <;> omega))) ?_ | refine q rfl rfl (ixJ 3 1 rfl rfl rfl (by omega) (by omega) (by first | assumption | (simp [ints_length] <;> omega))) ?_ | refine q rfl rfl (ix 3 1 rfl rfl rfl (by omega) (by omega) rfl) ?_
    first | refine q rfl rfl (ld rfl rfl rfl) ?_ | refine q rfl rfl (ldS rfl rfl (show (ints [x])[0]? = _ from rfl)) ?_ | refine q rfl rfl (ldS rfl rfl rfl) ?_
    refine q rfl rfl (lss rfl rfl) ?_
    refine q rfl rfl (mv (v := .bool _) rfl) ?_
    refine TL.split 19 rfl (fun h0 => ?_) (fun h0 => ?_)
    · have h0 := of_decide_eq_true h0
      have hj1 : joinF r0 x = r0 := if_pos (.inr h0)
      have hj2 : joinNF r0 x = 0 := if_pos (.inr h0)
      refine qs rfl rfl ?_
      refine qs rfl rfl ?_
      refine qs rfl rfl ?_
      refine qs rfl rfl ?_
      refine qs rfl rfl ?_
      refine qs rfl rfl ?_
      refine qs rfl rfl ?_
      first | refine q rfl rfl (pkT (v := .bool _) rfl rfl) ?_ | refine q rfl rfl (pkF (v := .bool _) rfl rfl) ?_
      refine TL.nil (nt ?_)
      refine TC.condT rfl ?_
      refine TC.exit (et (eb (nt ?_)))
      refine TC.region ?_
      refine q rfl rfl (mv (v := .int _ _) rfl) ?_
      first | refine q rfl rfl (addI rfl rfl (by omega) (by omega)) ?_ | refine q rfl rfl (add rfl rfl rfl) ?_
      refine q rfl rfl (asg (v := .int _ _) rfl) ?_
      refine TL.nil (nt ?_)
      exact ⟨rfl, ⟨1, r0, 0⟩, (.inr ⟨rfl, hj1.symm, hj2.symm⟩), (by dsimp only; omega), ⟨rfl, rfl, rfl, rfl, trivial⟩, (by repeat (first | exact ent_nil _ | refine ent_take 0 rfl ?_ | refine ent_take 1 rfl ?_ | refine ent_take 2 rfl ?_ | refine ent_take 3 rfl ?_ | refine ent_take 4 rfl ?_ | refine ent_take 5 rfl ?_ | refine ent_take 6 rfl ?_ | refine ent_take 7 rfl ?_ | refine ent_take 8 rfl ?_ | refine ent_take 9 rfl ?_ | refine ent_take 10 rfl ?_ | refine ent_take 11 rfl ?_ | refine ent_take 12 rfl ?_))⟩
    · have h0 := of_decide_eq_false h0
      refine qg rfl rfl rfl (mv (v := .pointer _) rfl) ?_
      refine qg rfl rfl rfl (mv (v := .slice _ _ _) rfl) ?_
      refine qg rfl rfl rfl (mv (v := .int _ _) rfl) ?_
      first | refine qg rfl rfl rfl (ixS 3 1 rfl rfl rfl (by omega) (by first | assumption | (simp [ints_length] <;> omega))) ?_ | refine qg rfl rfl rfl (ixJ 3 1 rfl rfl rfl (by omega) (by omega) (by first | assumption | (simp [ints_length] <;> omega))) ?_ | refine qg rfl rfl rfl (ix 3 1 rfl rfl rfl (by omega) (by omega) rfl) ?_
      first | refine qg rfl rfl rfl (ld rfl rfl rfl) ?_ | refine qg rfl rfl rfl (ldS rfl rfl (show (ints [x])[0]? = _ from rfl)) ?_ | refine qg rfl rfl rfl (ldS rfl rfl rfl) ?_
      refine eg rfl rfl ?_
      refine cl (rat_ok b r0 hd hs x) rfl (picked_nil _) (ent_one 0 rfl) ?_
      intro _ _
      change TL _ _ _ _ _ _ _ _ (sepL [_, _])
      by_cases hy : x ∈ r0.D
      · obtain ⟨i, h1, _⟩ := atD_yes hy
        rw [h1]
        have hj1 : joinF r0 x = r0 := if_pos (.inl hy)
        have hj2 : joinNF r0 x = 0 := if_pos (.inl hy)
        refine qg rfl rfl rfl (geq rfl rfl) ?_
        first | refine q rfl rfl (pkT (v := .bool _) rfl rfl) ?_ | refine q rfl rfl (pkF (v := .bool _) rfl rfl) ?_
        refine TL.nil (nt ?_)
        refine TC.condD rfl (fun hc3 => ?_) (fun hc3 => absurd (by omega) hc3)
        refine TC.exit (et (eb (nt ?_)))
        refine TC.region ?_
        refine q rfl rfl (mv (v := .int _ _) rfl) ?_
        first | refine q rfl rfl (addI rfl rfl (by omega) (by omega)) ?_ | refine q rfl rfl (add rfl rfl rfl) ?_
        refine q rfl rfl (asg (v := .int _ _) rfl) ?_
        refine TL.nil (nt ?_)
        exact ⟨rfl, ⟨1, r0, 0⟩, (.inr ⟨rfl, hj1.symm, hj2.symm⟩), (by dsimp only; omega), ⟨rfl, rfl, rfl, rfl, trivial⟩, (by repeat (first | exact ent_nil _ | refine ent_take 0 rfl ?_ | refine ent_take 1 rfl ?_ | refine ent_take 2 rfl ?_ | refine ent_take 3 rfl ?_ | refine ent_take 4 rfl ?_ | refine ent_take 5 rfl ?_ | refine ent_take 6 rfl ?_ | refine ent_take 7 rfl ?_ | refine ent_take 8 rfl ?_ | refine ent_take 9 rfl ?_ | refine ent_take 10 rfl ?_ | refine ent_take 11 rfl ?_ | refine ent_take 12 rfl ?_))⟩
      · rw [atD_no hy]
        have hj1 : joinNF r0 x = 1 := if_neg (fun h => h.elim hy h0)
        refine qg rfl rfl rfl (geq rfl rfl) ?_
        first | refine q rfl rfl (pkT (v := .bool _) rfl rfl) ?_ | refine q rfl rfl (pkF (v := .bool _) rfl rfl) ?_
        refine TL.nil (nt ?_)
        refine TC.condD rfl (fun hc4 => absurd hc4 (by decide)) (fun hc4 => ?_)
        refine TC.skip (nt ?_)
        refine TC.seq ?_
        refine TC.open 0 rfl (fun x0 hx0 => ?_)
        obtain ⟨⟨a1, c1⟩, ⟨a2, c2⟩⟩ := x0
        clear hx0
        change TC _ _ _ _ _ _ _ (sepL [_, _, _, _])
        dsimp only
        have hil := thsC_length r0
        have hsl := snsC_length r0.S
        refine TC.region ?_
        refine q rfl rfl (mv (v := .pointer _) rfl) ?_
        first | refine q rfl rfl (nc rfl) ?_ | refine q rfl rfl (ncF rfl) ?_ | refine q rfl rfl (ncS rfl (by first | assumption | (simp [ints_length] <;> omega))) ?_
        first | refine q rfl rfl (fa 0 rfl rfl) ?_ | refine q rfl rfl (faS 0 rfl rfl (by first | assumption | (simp [ints_length] <;> omega))) ?_
        first | refine q rfl rfl (ld rfl rfl rfl) ?_ | refine q rfl rfl (ldS rfl rfl (show (ints [x])[0]? = _ from rfl)) ?_ | refine q rfl rfl (ldS rfl rfl rfl) ?_
        refine q rfl rfl (len 65 3 rfl rfl) ?_
        refine q rfl rfl (asg (v := .int _ _) rfl) ?_
        refine TL.nil (nt ?_)
        refine TC.seq ?_
        refine TC.block ?_
        refine TC.loop (ι := Nat) (fun m => m ≤ r0.D.length ∧ ∀ y ∈ r0.D.drop m, x ≤ y) (fun m => [(0, .pointer (some ⟨b, 0, none⟩)), (1, .slice ax 1 cx), (5, .int .i64 0), (6, .int .i64 ((0 : Nat) : Int)), (7, .int .i64 ((m : Nat) : Int))]) (fun m => sepL [pts b 60 [.slice a1 r0.D.length c1, .slice a2 r0.S.length c2], slc 65 3 a1 r0.D.length c1 (thsC r0), slc 95 4 a2 r0.S.length c2 (snsC r0.S), F]) (fun m => m) r0.D.length ⟨Nat.le_refl _, fun y hy => by rw [List.drop_length] at hy; cases hy⟩ ⟨rfl, rfl, rfl, rfl, rfl, trivial⟩ (by repeat (first | exact ent_nil _ | refine ent_take 0 rfl ?_ | refine ent_take 1 rfl ?_ | refine ent_take 2 rfl ?_ | refine ent_take 3 rfl ?_ | refine ent_take 4 rfl ?_ | refine ent_take 5 rfl ?_ | refine ent_take 6 rfl ?_ | refine ent_take 7 rfl ?_ | refine ent_take 8 rfl ?_ | refine ent_take 9 rfl ?_ | refine ent_take 10 rfl ?_ | refine ent_take 11 rfl ?_ | refine ent_take 12 rfl ?_)) ?_
        rintro m ⟨hm, hmx⟩ ρ1
        dsimp only [updL] at hm hmx ⊢
        refine TC.seq ?_
        refine TC.seq ?_
        refine TC.draw _ [] [(0, false), (1, false), (2, false), (3, false), (4, false), (5, false), (6, false), (7, false), (8, false), (9, false), (10, false), (11, false), (12, false), (13, false), (14, false), (15, false), (16, false), (17, false)] (by kernel_rfl) (by kernel_rfl) (ent.refl _) ?_
        refine dq rfl rfl rfl (mv (v := .int _ _) rfl) ?_
        refine dq rfl rfl rfl (gtr rfl rfl) ?_
        refine dq rfl rfl rfl (mv (v := .bool _) rfl) ?_
        refine TD.split 35 rfl (fun hm0 => ?_) (fun hm0 => ?_)
        · have hm0 := of_decide_eq_true hm0
          obtain ⟨j, rfl⟩ : ∃ j, m = j + 1 := ⟨m - 1, by omega⟩
          obtain ⟨y, hyj⟩ : ∃ y, r0.D[j]? = some y := ⟨_, List.getElem?_eq_getElem (show j < r0.D.length by omega)⟩
          have hpos : 0 < (thsC r0).length := by omega
          have hjl := (List.getElem?_eq_some_iff.1 hyj)
          refine dg rfl rfl rfl rfl (mv (v := .pointer _) rfl) ?_
          first | refine dg rfl rfl rfl rfl (nc rfl) ?_ | refine dg rfl rfl rfl rfl (ncF rfl) ?_ | refine dg rfl rfl rfl rfl (ncS rfl (by first | assumption | (simp [ints_length] <;> omega))) ?_
          first | refine dg rfl rfl rfl rfl (fa 0 rfl rfl) ?_ | refine dg rfl rfl rfl rfl (faS 0 rfl rfl (by first | assumption | (simp [ints_length] <;> omega))) ?_
          first | refine dg rfl rfl rfl rfl (ld rfl rfl rfl) ?_ | refine dg rfl rfl rfl rfl (ldS rfl rfl (flat_ld (thC_sz r0) hyj 0 (by omega) rfl)) ?_ | refine dg rfl rfl rfl rfl (ldS rfl rfl (show (ints [x])[0]? = _ from rfl)) ?_ | refine dg rfl rfl rfl rfl (ldS rfl rfl rfl) ?_
          refine dg rfl rfl rfl rfl (mv (v := .int _ _) rfl) ?_
          first | refine dg rfl rfl rfl rfl (subI rfl rfl (by omega) (by omega)) ?_ | refine dg rfl rfl rfl rfl (sub rfl rfl rfl) ?_
          first | refine dg rfl rfl rfl rfl (ixS 65 3 rfl rfl rfl (by omega) (by first | assumption | (simp [ints_length] <;> omega))) ?_ | refine dg rfl rfl rfl rfl (ixJ 65 3 rfl rfl rfl (by omega) (by omega) (by first | assumption | (simp [ints_length] <;> omega))) ?_ | refine dg rfl rfl rfl rfl (ix 65 3 rfl rfl rfl (by omega) (by omega) rfl) ?_
          first | refine dg rfl rfl rfl rfl (fa 0 rfl rfl) ?_ | refine dg rfl rfl rfl rfl (faS 0 rfl rfl (by first | assumption | (simp [ints_length] <;> omega))) ?_
          first | refine dg rfl rfl rfl rfl (ld rfl rfl rfl) ?_ | refine dg rfl rfl rfl rfl (ldS rfl rfl (flat_ld (thC_sz r0) hyj 0 (by omega) rfl)) ?_ | refine dg rfl rfl rfl rfl (ldS rfl rfl (show (ints [x])[0]? = _ from rfl)) ?_ | refine dg rfl rfl rfl rfl (ldS rfl rfl rfl) ?_
          refine dg rfl rfl rfl rfl (mv (v := .slice _ _ _) rfl) ?_
          refine dg rfl rfl rfl rfl (mv (v := .int _ _) rfl) ?_
          first | refine dg rfl rfl rfl rfl (ixS 3 1 rfl rfl rfl (by omega) (by first | assumption | (simp [ints_length] <;> omega))) ?_ | refine dg rfl rfl rfl rfl (ixJ 3 1 rfl rfl rfl (by omega) (by omega) (by first | assumption | (simp [ints_length] <;> omega))) ?_ | refine dg rfl rfl rfl rfl (ix 3 1 rfl rfl rfl (by omega) (by omega) rfl) ?_
          first | refine dg rfl rfl rfl rfl (ld rfl rfl rfl) ?_ | refine dg rfl rfl rfl rfl (ldS rfl rfl (flat_ld (thC_sz r0) hyj 0 (by omega) rfl)) ?_ | refine dg rfl rfl rfl rfl (ldS rfl rfl (show (ints [x])[0]? = _ from rfl)) ?_ | refine dg rfl rfl rfl rfl (ldS rfl rfl rfl) ?_
          refine dg rfl rfl rfl rfl (gtr rfl rfl) ?_
          first | refine dq rfl rfl rfl (pkT (v := .bool _) rfl rfl) ?_ | refine dq rfl rfl rfl (pkF (v := .bool _) rfl rfl) ?_
          refine TD.nil (nt ?_)
          first | refine TC.condD rfl (fun hgt => ?_) (fun hgt => ?_) | refine TC.cond rfl (fun hgt => ?_) (fun hgt => ?_)
          · have hmx2 : ∀ z ∈ r0.D.drop j, x ≤ z := fun z hz => by
              obtain ⟨hj1, hj2⟩ := hjl
              rw [List.drop_eq_getElem_cons hj1, hj2] at hz
              rcases List.mem_cons.1 hz with rfl | hz
              · omega
              · exact hmx z hz
            refine TC.skip (nt ?_)
            refine TC.block ?_
            refine TC.region ?_
            refine q rfl rfl (mv (v := .int _ _) rfl) ?_
            first | refine q rfl rfl (subI rfl rfl (by omega) (by omega)) ?_ | refine q rfl rfl (sub rfl rfl rfl) ?_
            refine q rfl rfl (asg (v := .int _ _) rfl) ?_
            refine TL.nil (nb (nt ?_))
            exact ⟨rfl, j, ⟨by omega, hmx2⟩, (by omega), ⟨rfl, rfl, rfl, rfl, congrArg (Value.int .i64) (by omega), trivial⟩, (by repeat (first | exact ent_nil _ | refine ent_take 0 rfl ?_ | refine ent_take 1 rfl ?_ | refine ent_take 2 rfl ?_ | refine ent_take 3 rfl ?_ | refine ent_take 4 rfl ?_ | refine ent_take 5 rfl ?_ | refine ent_take 6 rfl ?_ | refine ent_take 7 rfl ?_ | refine ent_take 8 rfl ?_ | refine ent_take 9 rfl ?_ | refine ent_take 10 rfl ?_ | refine ent_take 11 rfl ?_ | refine ent_take 12 rfl ?_))⟩
          · have hlo : ∀ z ∈ r0.D.take (j + 1), z ≤ x := fun z hz => by
              rw [List.take_add_one, hyj, Option.toList] at hz
              rcases List.mem_append.1 hz with hz | hz
              · obtain ⟨hj1, hj2⟩ := hjl
                obtain ⟨i, hi⟩ := List.getElem?_of_mem hz
                rw [List.getElem?_take] at hi
                split at hi
                · obtain ⟨b1, b2⟩ := List.getElem?_eq_some_iff.1 hi
                  have := (List.pairwise_iff_getElem.1 hsd) i j b1 hj1 (by omega)
                  rw [b2, hj2] at this; omega
                · cases hi
              · rw [List.mem_singleton.1 hz]; omega
            have hins := ins_eq (x := x) hsd hlo hmx
            obtain ⟨hth, htl⟩ := ths_join hy h0 hins
            refine TC.exit (et (et (eb (nt ?_))))
            refine TC.seq ?_
            refine TC.factSlc 1 rfl (fun _ hc1 _ => ?_)
            haveI : OffI (thsC r0) c1 (j + 1) 3 := ⟨r0.D.length, by omega, by omega, hc1⟩
            refine TC.drawF _ [25] 26 rfl (by kernel_rfl) (by kernel_rfl) (ent_take 0 rfl (ent_take 0 rfl (ent_take 1 rfl (ent_nil _)))) ?_
            refine fq (i := 0) rfl rfl rfl (by kernel_rfl) (mv (v := .pointer _) rfl) ?_
            refine fq (i := 2) rfl rfl rfl (by kernel_rfl) (mv (v := .pointer _) rfl) ?_
            first | refine fq (i := 3) rfl rfl rfl (by kernel_rfl) (nc rfl) ?_ | refine fq (i := 3) rfl rfl rfl (by kernel_rfl) (ncF rfl) ?_ | refine fq (i := 3) rfl rfl rfl (by kernel_rfl) (ncS rfl (by first | assumption | (simp [ints_length] <;> omega))) ?_
            first | refine fq (i := 4) rfl rfl rfl (by kernel_rfl) (fa 0 rfl rfl) ?_ | refine fq (i := 4) rfl rfl rfl (by kernel_rfl) (faS 0 rfl rfl (by first | assumption | (simp [ints_length] <;> omega))) ?_
            first | refine fq (i := 5) rfl rfl rfl (by kernel_rfl) (ld rfl rfl rfl) ?_ | refine fq (i := 5) rfl rfl rfl (by kernel_rfl) (ldS rfl rfl (show (ints [x])[0]? = _ from rfl)) ?_ | refine fq (i := 5) rfl rfl rfl (by kernel_rfl) (ldS rfl rfl rfl) ?_
            refine fq (i := 6) rfl rfl rfl (by kernel_rfl) (mv (v := .int _ _) rfl) ?_
            refine fq (i := 7) rfl rfl rfl (by kernel_rfl) (slTn 65 3 (j + 1) rfl rfl rfl (by omega) (by omega)) ?_
            refine fq (i := 9) rfl rfl rfl (by kernel_rfl) (mv (v := .slice _ _ _) rfl) ?_
            refine fq (i := 10) rfl rfl rfl (by kernel_rfl) (mv (v := .int _ _) rfl) ?_
            first | refine fq (i := 11) rfl rfl rfl (by kernel_rfl) (ixS 3 1 rfl rfl rfl (by omega) (by first | assumption | (simp [ints_length] <;> omega))) ?_ | refine fq (i := 11) rfl rfl rfl (by kernel_rfl) (ixJ 3 1 rfl rfl rfl (by omega) (by omega) (by first | assumption | (simp [ints_length] <;> omega))) ?_ | refine fq (i := 11) rfl rfl rfl (by kernel_rfl) (ix 3 1 rfl rfl rfl (by omega) (by omega) rfl) ?_
            first | refine fq (i := 12) rfl rfl rfl (by kernel_rfl) (ld rfl rfl rfl) ?_ | refine fq (i := 12) rfl rfl rfl (by kernel_rfl) (ldS rfl rfl (show (ints [x])[0]? = _ from rfl)) ?_ | refine fq (i := 12) rfl rfl rfl (by kernel_rfl) (ldS rfl rfl rfl) ?_
            first | refine fq (i := 13) rfl rfl rfl (by kernel_rfl) (bld (cs := ints [_, _, _]) rfl) ?_ | refine fq (i := 13) rfl rfl rfl (by kernel_rfl) (bld (cs := [_, _, _]) rfl) ?_
            refine fq (i := 16) rfl rfl rfl (by kernel_rfl) (mv (v := .pointer _) rfl) ?_
            first | refine fq (i := 17) rfl rfl rfl (by kernel_rfl) (nc rfl) ?_ | refine fq (i := 17) rfl rfl rfl (by kernel_rfl) (ncF rfl) ?_ | refine fq (i := 17) rfl rfl rfl (by kernel_rfl) (ncS rfl (by first | assumption | (simp [ints_length] <;> omega))) ?_
            first | refine fq (i := 18) rfl rfl rfl (by kernel_rfl) (fa 0 rfl rfl) ?_ | refine fq (i := 18) rfl rfl rfl (by kernel_rfl) (faS 0 rfl rfl (by first | assumption | (simp [ints_length] <;> omega))) ?_
            first | refine fq (i := 19) rfl rfl rfl (by kernel_rfl) (ld rfl rfl rfl) ?_ | refine fq (i := 19) rfl rfl rfl (by kernel_rfl) (ldS rfl rfl (show (ints [x])[0]? = _ from rfl)) ?_ | refine fq (i := 19) rfl rfl rfl (by kernel_rfl) (ldS rfl rfl rfl) ?_
            refine fq (i := 20) rfl rfl rfl (by kernel_rfl) (mv (v := .int _ _) rfl) ?_
            refine fq (i := 21) rfl rfl rfl (by kernel_rfl) (slFn 65 3 (j + 1) rfl rfl rfl (by omega) (by omega)) ?_
            refine ff (i := 1) (j := 14) rfl rfl rfl rfl (by kernel_rfl) ?_ ?_
            · refine bs (cs := []) rfl ?_
              intro b10
              refine ⟨(by repeat (first | exact ent_nil _ | refine ent_take 0 rfl ?_ | refine ent_take 1 rfl ?_ | refine ent_take 2 rfl ?_ | refine ent_take 3 rfl ?_ | refine ent_take 4 rfl ?_ | refine ent_take 5 rfl ?_ | refine ent_take 6 rfl ?_ | refine ent_take 7 rfl ?_ | refine ent_take 8 rfl ?_ | refine ent_take 9 rfl ?_ | refine ent_take 10 rfl ?_ | refine ent_take 11 rfl ?_ | refine ent_take 12 rfl ?_)), ?_⟩
              refine ff (i := 8) (j := 14) rfl rfl rfl rfl (by kernel_rfl) ?_ ?_
              · refine ap 24 rfl rfl rfl rfl rfl (by omega) (ths_take r0 (j + 1)) (flat_one (thC_one r0) _) (by omega) (by simp only [maxLen]; omega) ?_
                intro ad15 cap15
                refine ⟨(by repeat (first | exact ent_nil _ | refine ent_take 0 rfl ?_ | refine ent_take 1 rfl ?_ | refine ent_take 2 rfl ?_ | refine ent_take 3 rfl ?_ | refine ent_take 4 rfl ?_ | refine ent_take 5 rfl ?_ | refine ent_take 6 rfl ?_ | refine ent_take 7 rfl ?_ | refine ent_take 8 rfl ?_ | refine ent_take 9 rfl ?_ | refine ent_take 10 rfl ?_ | refine ent_take 11 rfl ?_ | refine ent_take 12 rfl ?_)), ?_⟩
                refine TF.of [(14, true), (15, true), (22, true), (23, false), (24, false), (25, true)] (by kernel_rfl) rfl ?_
                refine de rfl rfl ?_
                refine bs (cs := ints [_, _, _]) rfl ?_
                intro b11
                refine ⟨(by repeat (first | exact ent_nil _ | refine ent_take 0 rfl ?_ | refine ent_take 1 rfl ?_ | refine ent_take 2 rfl ?_ | refine ent_take 3 rfl ?_ | refine ent_take 4 rfl ?_ | refine ent_take 5 rfl ?_ | refine ent_take 6 rfl ?_ | refine ent_take 7 rfl ?_ | refine ent_take 8 rfl ?_ | refine ent_take 9 rfl ?_ | refine ent_take 10 rfl ?_ | refine ent_take 11 rfl ?_ | refine ent_take 12 rfl ?_)), ?_⟩
                refine de rfl rfl ?_
                refine ap 24 rfl rfl rfl rfl rfl (Nat.le_of_ble_eq_true rfl) (show _ = ints [x, 0, -1] from rfl) rfl (by omega) (by simp only [maxLen]; omega) ?_
                intro ad16 cap16
                refine ⟨(by repeat (first | exact ent_nil _ | refine ent_take 0 rfl ?_ | refine ent_take 1 rfl ?_ | refine ent_take 2 rfl ?_ | refine ent_take 3 rfl ?_ | refine ent_take 4 rfl ?_ | refine ent_take 5 rfl ?_ | refine ent_take 6 rfl ?_ | refine ent_take 7 rfl ?_ | refine ent_take 8 rfl ?_ | refine ent_take 9 rfl ?_ | refine ent_take 10 rfl ?_ | refine ent_take 11 rfl ?_ | refine ent_take 12 rfl ?_)), ?_⟩
                refine de rfl rfl ?_
                refine ap 24 rfl rfl rfl rfl rfl (by rw [List.length_drop]; omega) (ths_drop r0 (j + 1)) (flat_one (thC_one r0) _) (by omega) (by simp only [maxLen]; omega) ?_
                intro ad17 cap17
                refine ⟨(by repeat (first | exact ent_nil _ | refine ent_take 0 rfl ?_ | refine ent_take 1 rfl ?_ | refine ent_take 2 rfl ?_ | refine ent_take 3 rfl ?_ | refine ent_take 4 rfl ?_ | refine ent_take 5 rfl ?_ | refine ent_take 6 rfl ?_ | refine ent_take 7 rfl ?_ | refine ent_take 8 rfl ?_ | refine ent_take 9 rfl ?_ | refine ent_take 10 rfl ?_ | refine ent_take 11 rfl ?_ | refine ent_take 12 rfl ?_)), ?_⟩
                first | refine dq rfl rfl rfl (nc rfl) ?_ | refine dq rfl rfl rfl (ncF rfl) ?_ | refine dq rfl rfl rfl (ncS rfl (by first | assumption | (simp [ints_length] <;> omega))) ?_
                first | refine dq rfl rfl rfl (fa 0 rfl rfl) ?_ | refine dq rfl rfl rfl (faS 0 rfl rfl (by first | assumption | (simp [ints_length] <;> omega))) ?_
                refine dl0 rfl rfl rfl ?_
                refine st (v := .slice _ _ _) (vs := [_]) 1 rfl rfl rfl rfl rfl rfl (Nat.le_of_ble_eq_true rfl) rfl ?_
                refine TD.nil (nt ?_)
                refine TC.region ?_
                refine q rfl rfl (mv (v := .int _ _) rfl) ?_
                first | refine q rfl rfl (addI rfl rfl (by omega) (by omega)) ?_ | refine q rfl rfl (add rfl rfl rfl) ?_
                refine q rfl rfl (asg (v := .int _ _) rfl) ?_
                refine TL.nil (nb (nt ?_))
                refine TC.region ?_
                refine q rfl rfl (mv (v := .int _ _) rfl) ?_
                first | refine q rfl rfl (addI rfl rfl (by omega) (by omega)) ?_ | refine q rfl rfl (add rfl rfl rfl) ?_
                refine q rfl rfl (asg (v := .int _ _) rfl) ?_
                refine TL.nil (nt ?_)
                have htn : (joinF r0 x).D.length = 0 + (j + 1) + 1 + (r0.D.length - (j + 1)) := by omega
                have hjS : (joinF r0 x).S = r0.S := by rw [joinF]; split <;> rfl
                exact ⟨rfl, ⟨1, joinF r0 x, 1⟩, (.inr ⟨rfl, rfl, hj1.symm⟩), (by dsimp only; omega), ⟨rfl, rfl, rfl, rfl, trivial⟩, (ent_close (⟨(ad17, cap17), (a2, c2)⟩ : (Option Addr × Nat) × (Option Addr × Nat)) trivial (ent_takeE 0 rfl (by dsimp only; rw [htn, hjS] <;> rfl) (ent_takeE 0 rfl (by dsimp only; rw [htn, ← hth, List.nil_append, List.append_assoc] <;> rfl) (by dsimp only; rw [hjS]; exact (by repeat (first | exact ent_nil _ | refine ent_take 0 rfl ?_ | refine ent_take 1 rfl ?_ | refine ent_take 2 rfl ?_ | refine ent_take 3 rfl ?_ | refine ent_take 4 rfl ?_ | refine ent_take 5 rfl ?_ | refine ent_take 6 rfl ?_ | refine ent_take 7 rfl ?_ | refine ent_take 8 rfl ?_ | refine ent_take 9 rfl ?_ | refine ent_take 10 rfl ?_ | refine ent_take 11 rfl ?_ | refine ent_take 12 rfl ?_))))))⟩
              · refine bs (cs := ints [_, _, _]) rfl ?_
                intro b12
                refine ⟨(by repeat (first | exact ent_nil _ | refine ent_take 0 rfl ?_ | refine ent_take 1 rfl ?_ | refine ent_take 2 rfl ?_ | refine ent_take 3 rfl ?_ | refine ent_take 4 rfl ?_ | refine ent_take 5 rfl ?_ | refine ent_take 6 rfl ?_ | refine ent_take 7 rfl ?_ | refine ent_take 8 rfl ?_ | refine ent_take 9 rfl ?_ | refine ent_take 10 rfl ?_ | refine ent_take 11 rfl ?_ | refine ent_take 12 rfl ?_)), ?_⟩
                refine TF.of [(8, true), (15, true), (22, true), (23, false), (24, false), (25, true)] (by kernel_rfl) rfl ?_
                refine de rfl rfl ?_
                refine ap 24 rfl rfl rfl rfl rfl (by omega) (ths_take r0 (j + 1)) (flat_one (thC_one r0) _) (by omega) (by simp only [maxLen]; omega) ?_
                intro ad18 cap18
                refine ⟨(by repeat (first | exact ent_nil _ | refine ent_take 0 rfl ?_ | refine ent_take 1 rfl ?_ | refine ent_take 2 rfl ?_ | refine ent_take 3 rfl ?_ | refine ent_take 4 rfl ?_ | refine ent_take 5 rfl ?_ | refine ent_take 6 rfl ?_ | refine ent_take 7 rfl ?_ | refine ent_take 8 rfl ?_ | refine ent_take 9 rfl ?_ | refine ent_take 10 rfl ?_ | refine ent_take 11 rfl ?_ | refine ent_take 12 rfl ?_)), ?_⟩
                refine de rfl rfl ?_
                refine ap 24 rfl rfl rfl rfl rfl (Nat.le_of_ble_eq_true rfl) (show _ = ints [x, 0, -1] from rfl) rfl (by omega) (by simp only [maxLen]; omega) ?_
                intro ad19 cap19
                refine ⟨(by repeat (first | exact ent_nil _ | refine ent_take 0 rfl ?_ | refine ent_take 1 rfl ?_ | refine ent_take 2 rfl ?_ | refine ent_take 3 rfl ?_ | refine ent_take 4 rfl ?_ | refine ent_take 5 rfl ?_ | refine ent_take 6 rfl ?_ | refine ent_take 7 rfl ?_ | refine ent_take 8 rfl ?_ | refine ent_take 9 rfl ?_ | refine ent_take 10 rfl ?_ | refine ent_take 11 rfl ?_ | refine ent_take 12 rfl ?_)), ?_⟩
                refine de rfl rfl ?_
                refine ap 24 rfl rfl rfl rfl rfl (by rw [List.length_drop]; omega) (ths_drop r0 (j + 1)) (flat_one (thC_one r0) _) (by omega) (by simp only [maxLen]; omega) ?_
                intro ad20 cap20
                refine ⟨(by repeat (first | exact ent_nil _ | refine ent_take 0 rfl ?_ | refine ent_take 1 rfl ?_ | refine ent_take 2 rfl ?_ | refine ent_take 3 rfl ?_ | refine ent_take 4 rfl ?_ | refine ent_take 5 rfl ?_ | refine ent_take 6 rfl ?_ | refine ent_take 7 rfl ?_ | refine ent_take 8 rfl ?_ | refine ent_take 9 rfl ?_ | refine ent_take 10 rfl ?_ | refine ent_take 11 rfl ?_ | refine ent_take 12 rfl ?_)), ?_⟩
                first | refine dq rfl rfl rfl (nc rfl) ?_ | refine dq rfl rfl rfl (ncF rfl) ?_ | refine dq rfl rfl rfl (ncS rfl (by first | assumption | (simp [ints_length] <;> omega))) ?_
                first | refine dq rfl rfl rfl (fa 0 rfl rfl) ?_ | refine dq rfl rfl rfl (faS 0 rfl rfl (by first | assumption | (simp [ints_length] <;> omega))) ?_
                refine dl0 rfl rfl rfl ?_
                refine st (v := .slice _ _ _) (vs := [_]) 1 rfl rfl rfl rfl rfl rfl (Nat.le_of_ble_eq_true rfl) rfl ?_
                refine TD.nil (nt ?_)
                refine TC.region ?_
                refine q rfl rfl (mv (v := .int _ _) rfl) ?_
                first | refine q rfl rfl (addI rfl rfl (by omega) (by omega)) ?_ | refine q rfl rfl (add rfl rfl rfl) ?_
                refine q rfl rfl (asg (v := .int _ _) rfl) ?_
                refine TL.nil (nb (nt ?_))
                refine TC.region ?_
                refine q rfl rfl (mv (v := .int _ _) rfl) ?_
                first | refine q rfl rfl (addI rfl rfl (by omega) (by omega)) ?_ | refine q rfl rfl (add rfl rfl rfl) ?_
                refine q rfl rfl (asg (v := .int _ _) rfl) ?_
                refine TL.nil (nt ?_)
                have htn : (joinF r0 x).D.length = 0 + (j + 1) + 1 + (r0.D.length - (j + 1)) := by omega
                have hjS : (joinF r0 x).S = r0.S := by rw [joinF]; split <;> rfl
                exact ⟨rfl, ⟨1, joinF r0 x, 1⟩, (.inr ⟨rfl, rfl, hj1.symm⟩), (by dsimp only; omega), ⟨rfl, rfl, rfl, rfl, trivial⟩, (ent_close (⟨(ad20, cap20), (a2, c2)⟩ : (Option Addr × Nat) × (Option Addr × Nat)) trivial (ent_takeE 0 rfl (by dsimp only; rw [htn, hjS] <;> rfl) (ent_takeE 0 rfl (by dsimp only; rw [htn, ← hth, List.nil_append, List.append_assoc] <;> rfl) (by dsimp only; rw [hjS]; exact (by repeat (first | exact ent_nil _ | refine ent_take 0 rfl ?_ | refine ent_take 1 rfl ?_ | refine ent_take 2 rfl ?_ | refine ent_take 3 rfl ?_ | refine ent_take 4 rfl ?_ | refine ent_take 5 rfl ?_ | refine ent_take 6 rfl ?_ | refine ent_take 7 rfl ?_ | refine ent_take 8 rfl ?_ | refine ent_take 9 rfl ?_ | refine ent_take 10 rfl ?_ | refine ent_take 11 rfl ?_ | refine ent_take 12 rfl ?_))))))⟩
            · refine bs (cs := ints [_, _, _]) rfl ?_
              intro b13
              refine ⟨(by repeat (first | exact ent_nil _ | refine ent_take 0 rfl ?_ | refine ent_take 1 rfl ?_ | refine ent_take 2 rfl ?_ | refine ent_take 3 rfl ?_ | refine ent_take 4 rfl ?_ | refine ent_take 5 rfl ?_ | refine ent_take 6 rfl ?_ | refine ent_take 7 rfl ?_ | refine ent_take 8 rfl ?_ | refine ent_take 9 rfl ?_ | refine ent_take 10 rfl ?_ | refine ent_take 11 rfl ?_ | refine ent_take 12 rfl ?_)), ?_⟩
              refine TF.of [(1, true), (8, true), (15, true), (22, true), (23, false), (24, false), (25, true)] (by kernel_rfl) rfl ?_
              refine de rfl rfl ?_
              refine bs (cs := []) rfl ?_
              intro b14
              refine ⟨(by repeat (first | exact ent_nil _ | refine ent_take 0 rfl ?_ | refine ent_take 1 rfl ?_ | refine ent_take 2 rfl ?_ | refine ent_take 3 rfl ?_ | refine ent_take 4 rfl ?_ | refine ent_take 5 rfl ?_ | refine ent_take 6 rfl ?_ | refine ent_take 7 rfl ?_ | refine ent_take 8 rfl ?_ | refine ent_take 9 rfl ?_ | refine ent_take 10 rfl ?_ | refine ent_take 11 rfl ?_ | refine ent_take 12 rfl ?_)), ?_⟩
              refine de rfl rfl ?_
              refine ap 24 rfl rfl rfl rfl rfl (by omega) (ths_take r0 (j + 1)) (flat_one (thC_one r0) _) (by omega) (by simp only [maxLen]; omega) ?_
              intro ad21 cap21
              refine ⟨(by repeat (first | exact ent_nil _ | refine ent_take 0 rfl ?_ | refine ent_take 1 rfl ?_ | refine ent_take 2 rfl ?_ | refine ent_take 3 rfl ?_ | refine ent_take 4 rfl ?_ | refine ent_take 5 rfl ?_ | refine ent_take 6 rfl ?_ | refine ent_take 7 rfl ?_ | refine ent_take 8 rfl ?_ | refine ent_take 9 rfl ?_ | refine ent_take 10 rfl ?_ | refine ent_take 11 rfl ?_ | refine ent_take 12 rfl ?_)), ?_⟩
              refine de rfl rfl ?_
              refine ap 24 rfl rfl rfl rfl rfl (Nat.le_of_ble_eq_true rfl) (show _ = ints [x, 0, -1] from rfl) rfl (by omega) (by simp only [maxLen]; omega) ?_
              intro ad22 cap22
              refine ⟨(by repeat (first | exact ent_nil _ | refine ent_take 0 rfl ?_ | refine ent_take 1 rfl ?_ | refine ent_take 2 rfl ?_ | refine ent_take 3 rfl ?_ | refine ent_take 4 rfl ?_ | refine ent_take 5 rfl ?_ | refine ent_take 6 rfl ?_ | refine ent_take 7 rfl ?_ | refine ent_take 8 rfl ?_ | refine ent_take 9 rfl ?_ | refine ent_take 10 rfl ?_ | refine ent_take 11 rfl ?_ | refine ent_take 12 rfl ?_)), ?_⟩
              refine de rfl rfl ?_
              refine ap 24 rfl rfl rfl rfl rfl (by rw [List.length_drop]; omega) (ths_drop r0 (j + 1)) (flat_one (thC_one r0) _) (by omega) (by simp only [maxLen]; omega) ?_
              intro ad23 cap23
              refine ⟨(by repeat (first | exact ent_nil _ | refine ent_take 0 rfl ?_ | refine ent_take 1 rfl ?_ | refine ent_take 2 rfl ?_ | refine ent_take 3 rfl ?_ | refine ent_take 4 rfl ?_ | refine ent_take 5 rfl ?_ | refine ent_take 6 rfl ?_ | refine ent_take 7 rfl ?_ | refine ent_take 8 rfl ?_ | refine ent_take 9 rfl ?_ | refine ent_take 10 rfl ?_ | refine ent_take 11 rfl ?_ | refine ent_take 12 rfl ?_)), ?_⟩
              first | refine dq rfl rfl rfl (nc rfl) ?_ | refine dq rfl rfl rfl (ncF rfl) ?_ | refine dq rfl rfl rfl (ncS rfl (by first | assumption | (simp [ints_length] <;> omega))) ?_
              first | refine dq rfl rfl rfl (fa 0 rfl rfl) ?_ | refine dq rfl rfl rfl (faS 0 rfl rfl (by first | assumption | (simp [ints_length] <;> omega))) ?_
              refine dl0 rfl rfl rfl ?_
              refine st (v := .slice _ _ _) (vs := [_]) 1 rfl rfl rfl rfl rfl rfl (Nat.le_of_ble_eq_true rfl) rfl ?_
              refine TD.nil (nt ?_)
              refine TC.region ?_
              refine q rfl rfl (mv (v := .int _ _) rfl) ?_
              first | refine q rfl rfl (addI rfl rfl (by omega) (by omega)) ?_ | refine q rfl rfl (add rfl rfl rfl) ?_
              refine q rfl rfl (asg (v := .int _ _) rfl) ?_
              refine TL.nil (nb (nt ?_))
              refine TC.region ?_
              refine q rfl rfl (mv (v := .int _ _) rfl) ?_
              first | refine q rfl rfl (addI rfl rfl (by omega) (by omega)) ?_ | refine q rfl rfl (add rfl rfl rfl) ?_
              refine q rfl rfl (asg (v := .int _ _) rfl) ?_
              refine TL.nil (nt ?_)
              have htn : (joinF r0 x).D.length = 0 + (j + 1) + 1 + (r0.D.length - (j + 1)) := by omega
              have hjS : (joinF r0 x).S = r0.S := by rw [joinF]; split <;> rfl
              exact ⟨rfl, ⟨1, joinF r0 x, 1⟩, (.inr ⟨rfl, rfl, hj1.symm⟩), (by dsimp only; omega), ⟨rfl, rfl, rfl, rfl, trivial⟩, (ent_close (⟨(ad23, cap23), (a2, c2)⟩ : (Option Addr × Nat) × (Option Addr × Nat)) trivial (ent_takeE 0 rfl (by dsimp only; rw [htn, hjS] <;> rfl) (ent_takeE 0 rfl (by dsimp only; rw [htn, ← hth, List.nil_append, List.append_assoc] <;> rfl) (by dsimp only; rw [hjS]; exact (by repeat (first | exact ent_nil _ | refine ent_take 0 rfl ?_ | refine ent_take 1 rfl ?_ | refine ent_take 2 rfl ?_ | refine ent_take 3 rfl ?_ | refine ent_take 4 rfl ?_ | refine ent_take 5 rfl ?_ | refine ent_take 6 rfl ?_ | refine ent_take 7 rfl ?_ | refine ent_take 8 rfl ?_ | refine ent_take 9 rfl ?_ | refine ent_take 10 rfl ?_ | refine ent_take 11 rfl ?_ | refine ent_take 12 rfl ?_))))))⟩
        · have hm0 := of_decide_eq_false hm0
          obtain rfl : m = 0 := by omega
          have hlo : ∀ y ∈ r0.D.take 0, y ≤ x := fun y hy2 => by rw [List.take_zero] at hy2; cases hy2
          have hins := ins_eq (x := x) hsd hlo hmx
          obtain ⟨hth, htl⟩ := ths_join hy h0 hins
          refine dk rfl rfl rfl rfl ?_
          refine dk rfl rfl rfl rfl ?_
          refine dk rfl rfl rfl rfl ?_
          refine dk rfl rfl rfl rfl ?_
          refine dk rfl rfl rfl rfl ?_
          refine dk rfl rfl rfl rfl ?_
          refine dk rfl rfl rfl rfl ?_
          refine dk rfl rfl rfl rfl ?_
          refine dk rfl rfl rfl rfl ?_
          refine dk rfl rfl rfl rfl ?_
          refine dk rfl rfl rfl rfl ?_
          refine dk rfl rfl rfl rfl ?_
          refine dk rfl rfl rfl rfl ?_
          refine dk rfl rfl rfl rfl ?_
          first | refine dq rfl rfl rfl (pkT (v := .bool _) rfl rfl) ?_ | refine dq rfl rfl rfl (pkF (v := .bool _) rfl rfl) ?_
          refine TD.nil (nt ?_)
          refine TC.condF rfl ?_
          refine TC.exit (et (et (eb (nt ?_))))
          refine TC.seq ?_
          refine TC.factSlc 1 rfl (fun _ hc1 _ => ?_)
          haveI : OffI (thsC r0) c1 0 3 := ⟨r0.D.length, by omega, by omega, hc1⟩
          refine TC.drawF _ [25] 26 rfl (by kernel_rfl) (by kernel_rfl) (ent_take 0 rfl (ent_take 0 rfl (ent_take 1 rfl (ent_nil _)))) ?_
          refine fq (i := 0) rfl rfl rfl (by kernel_rfl) (mv (v := .pointer _) rfl) ?_
          refine fq (i := 2) rfl rfl rfl (by kernel_rfl) (mv (v := .pointer _) rfl) ?_
          first | refine fq (i := 3) rfl rfl rfl (by kernel_rfl) (nc rfl) ?_ | refine fq (i := 3) rfl rfl rfl (by kernel_rfl) (ncF rfl) ?_ | refine fq (i := 3) rfl rfl rfl (by kernel_rfl) (ncS rfl (by first | assumption | (simp [ints_length] <;> omega))) ?_
          first | refine fq (i := 4) rfl rfl rfl (by kernel_rfl) (fa 0 rfl rfl) ?_ | refine fq (i := 4) rfl rfl rfl (by kernel_rfl) (faS 0 rfl rfl (by first | assumption | (simp [ints_length] <;> omega))) ?_
          first | refine fq (i := 5) rfl rfl rfl (by kernel_rfl) (ld rfl rfl rfl) ?_ | refine fq (i := 5) rfl rfl rfl (by kernel_rfl) (ldS rfl rfl (show (ints [x])[0]? = _ from rfl)) ?_ | refine fq (i := 5) rfl rfl rfl (by kernel_rfl) (ldS rfl rfl rfl) ?_
          refine fq (i := 6) rfl rfl rfl (by kernel_rfl) (mv (v := .int _ _) rfl) ?_
          refine fq (i := 7) rfl rfl rfl (by kernel_rfl) (slTn 65 3 (0) rfl rfl rfl (by omega) (by omega)) ?_
          refine fq (i := 9) rfl rfl rfl (by kernel_rfl) (mv (v := .slice _ _ _) rfl) ?_
          refine fq (i := 10) rfl rfl rfl (by kernel_rfl) (mv (v := .int _ _) rfl) ?_
          first | refine fq (i := 11) rfl rfl rfl (by kernel_rfl) (ixS 3 1 rfl rfl rfl (by omega) (by first | assumption | (simp [ints_length] <;> omega))) ?_ | refine fq (i := 11) rfl rfl rfl (by kernel_rfl) (ixJ 3 1 rfl rfl rfl (by omega) (by omega) (by first | assumption | (simp [ints_length] <;> omega))) ?_ | refine fq (i := 11) rfl rfl rfl (by kernel_rfl) (ix 3 1 rfl rfl rfl (by omega) (by omega) rfl) ?_
          first | refine fq (i := 12) rfl rfl rfl (by kernel_rfl) (ld rfl rfl rfl) ?_ | refine fq (i := 12) rfl rfl rfl (by kernel_rfl) (ldS rfl rfl (show (ints [x])[0]? = _ from rfl)) ?_ | refine fq (i := 12) rfl rfl rfl (by kernel_rfl) (ldS rfl rfl rfl) ?_
          first | refine fq (i := 13) rfl rfl rfl (by kernel_rfl) (bld (cs := ints [_, _, _]) rfl) ?_ | refine fq (i := 13) rfl rfl rfl (by kernel_rfl) (bld (cs := [_, _, _]) rfl) ?_
          refine fq (i := 16) rfl rfl rfl (by kernel_rfl) (mv (v := .pointer _) rfl) ?_
          first | refine fq (i := 17) rfl rfl rfl (by kernel_rfl) (nc rfl) ?_ | refine fq (i := 17) rfl rfl rfl (by kernel_rfl) (ncF rfl) ?_ | refine fq (i := 17) rfl rfl rfl (by kernel_rfl) (ncS rfl (by first | assumption | (simp [ints_length] <;> omega))) ?_
          first | refine fq (i := 18) rfl rfl rfl (by kernel_rfl) (fa 0 rfl rfl) ?_ | refine fq (i := 18) rfl rfl rfl (by kernel_rfl) (faS 0 rfl rfl (by first | assumption | (simp [ints_length] <;> omega))) ?_
          first | refine fq (i := 19) rfl rfl rfl (by kernel_rfl) (ld rfl rfl rfl) ?_ | refine fq (i := 19) rfl rfl rfl (by kernel_rfl) (ldS rfl rfl (show (ints [x])[0]? = _ from rfl)) ?_ | refine fq (i := 19) rfl rfl rfl (by kernel_rfl) (ldS rfl rfl rfl) ?_
          refine fq (i := 20) rfl rfl rfl (by kernel_rfl) (mv (v := .int _ _) rfl) ?_
          refine fq (i := 21) rfl rfl rfl (by kernel_rfl) (slFn 65 3 (0) rfl rfl rfl (by omega) (by omega)) ?_
          refine ff (i := 1) (j := 14) rfl rfl rfl rfl (by kernel_rfl) ?_ ?_
          · refine bs (cs := []) rfl ?_
            intro b5
            refine ⟨(by repeat (first | exact ent_nil _ | refine ent_take 0 rfl ?_ | refine ent_take 1 rfl ?_ | refine ent_take 2 rfl ?_ | refine ent_take 3 rfl ?_ | refine ent_take 4 rfl ?_ | refine ent_take 5 rfl ?_ | refine ent_take 6 rfl ?_ | refine ent_take 7 rfl ?_ | refine ent_take 8 rfl ?_ | refine ent_take 9 rfl ?_ | refine ent_take 10 rfl ?_ | refine ent_take 11 rfl ?_ | refine ent_take 12 rfl ?_)), ?_⟩
            refine ff (i := 8) (j := 14) rfl rfl rfl rfl (by kernel_rfl) ?_ ?_
            · refine ap 24 rfl rfl rfl rfl rfl (by omega) (ths_take r0 0) (flat_one (thC_one r0) _) (by omega) (by simp only [maxLen]; omega) ?_
              intro ad6 cap6
              refine ⟨(by repeat (first | exact ent_nil _ | refine ent_take 0 rfl ?_ | refine ent_take 1 rfl ?_ | refine ent_take 2 rfl ?_ | refine ent_take 3 rfl ?_ | refine ent_take 4 rfl ?_ | refine ent_take 5 rfl ?_ | refine ent_take 6 rfl ?_ | refine ent_take 7 rfl ?_ | refine ent_take 8 rfl ?_ | refine ent_take 9 rfl ?_ | refine ent_take 10 rfl ?_ | refine ent_take 11 rfl ?_ | refine ent_take 12 rfl ?_)), ?_⟩
              refine TF.of [(14, true), (15, true), (22, true), (23, false), (24, false), (25, true)] (by kernel_rfl) rfl ?_
              refine de rfl rfl ?_
              refine bs (cs := ints [_, _, _]) rfl ?_
              intro b6
              refine ⟨(by repeat (first | exact ent_nil _ | refine ent_take 0 rfl ?_ | refine ent_take 1 rfl ?_ | refine ent_take 2 rfl ?_ | refine ent_take 3 rfl ?_ | refine ent_take 4 rfl ?_ | refine ent_take 5 rfl ?_ | refine ent_take 6 rfl ?_ | refine ent_take 7 rfl ?_ | refine ent_take 8 rfl ?_ | refine ent_take 9 rfl ?_ | refine ent_take 10 rfl ?_ | refine ent_take 11 rfl ?_ | refine ent_take 12 rfl ?_)), ?_⟩
              refine de rfl rfl ?_
              refine ap 24 rfl rfl rfl rfl rfl (Nat.le_of_ble_eq_true rfl) (show _ = ints [x, 0, -1] from rfl) rfl (by omega) (by simp only [maxLen]; omega) ?_
              intro ad7 cap7
              refine ⟨(by repeat (first | exact ent_nil _ | refine ent_take 0 rfl ?_ | refine ent_take 1 rfl ?_ | refine ent_take 2 rfl ?_ | refine ent_take 3 rfl ?_ | refine ent_take 4 rfl ?_ | refine ent_take 5 rfl ?_ | refine ent_take 6 rfl ?_ | refine ent_take 7 rfl ?_ | refine ent_take 8 rfl ?_ | refine ent_take 9 rfl ?_ | refine ent_take 10 rfl ?_ | refine ent_take 11 rfl ?_ | refine ent_take 12 rfl ?_)), ?_⟩
              refine de rfl rfl ?_
              refine ap 24 rfl rfl rfl rfl rfl (by rw [List.length_drop]; omega) (ths_drop r0 0) (flat_one (thC_one r0) _) (by omega) (by simp only [maxLen]; omega) ?_
              intro ad8 cap8
              refine ⟨(by repeat (first | exact ent_nil _ | refine ent_take 0 rfl ?_ | refine ent_take 1 rfl ?_ | refine ent_take 2 rfl ?_ | refine ent_take 3 rfl ?_ | refine ent_take 4 rfl ?_ | refine ent_take 5 rfl ?_ | refine ent_take 6 rfl ?_ | refine ent_take 7 rfl ?_ | refine ent_take 8 rfl ?_ | refine ent_take 9 rfl ?_ | refine ent_take 10 rfl ?_ | refine ent_take 11 rfl ?_ | refine ent_take 12 rfl ?_)), ?_⟩
              first | refine dq rfl rfl rfl (nc rfl) ?_ | refine dq rfl rfl rfl (ncF rfl) ?_ | refine dq rfl rfl rfl (ncS rfl (by first | assumption | (simp [ints_length] <;> omega))) ?_
              first | refine dq rfl rfl rfl (fa 0 rfl rfl) ?_ | refine dq rfl rfl rfl (faS 0 rfl rfl (by first | assumption | (simp [ints_length] <;> omega))) ?_
              refine dl0 rfl rfl rfl ?_
              refine st (v := .slice _ _ _) (vs := [_]) 1 rfl rfl rfl rfl rfl rfl (Nat.le_of_ble_eq_true rfl) rfl ?_
              refine TD.nil (nt ?_)
              refine TC.region ?_
              refine q rfl rfl (mv (v := .int _ _) rfl) ?_
              first | refine q rfl rfl (addI rfl rfl (by omega) (by omega)) ?_ | refine q rfl rfl (add rfl rfl rfl) ?_
              refine q rfl rfl (asg (v := .int _ _) rfl) ?_
              refine TL.nil (nb (nt ?_))
              refine TC.region ?_
              refine q rfl rfl (mv (v := .int _ _) rfl) ?_
              first | refine q rfl rfl (addI rfl rfl (by omega) (by omega)) ?_ | refine q rfl rfl (add rfl rfl rfl) ?_
              refine q rfl rfl (asg (v := .int _ _) rfl) ?_
              refine TL.nil (nt ?_)
              have htn : (joinF r0 x).D.length = 0 + 0 + 1 + (r0.D.length - 0) := by omega
              have hjS : (joinF r0 x).S = r0.S := by rw [joinF]; split <;> rfl
              exact ⟨rfl, ⟨1, joinF r0 x, 1⟩, (.inr ⟨rfl, rfl, hj1.symm⟩), (by dsimp only; omega), ⟨rfl, rfl, rfl, rfl, trivial⟩, (ent_close (⟨(ad8, cap8), (a2, c2)⟩ : (Option Addr × Nat) × (Option Addr × Nat)) trivial (ent_takeE 0 rfl (by dsimp only; rw [htn, hjS] <;> rfl) (ent_takeE 0 rfl (by dsimp only; rw [htn, ← hth, List.nil_append, List.append_assoc] <;> rfl) (by dsimp only; rw [hjS]; exact (by repeat (first | exact ent_nil _ | refine ent_take 0 rfl ?_ | refine ent_take 1 rfl ?_ | refine ent_take 2 rfl ?_ | refine ent_take 3 rfl ?_ | refine ent_take 4 rfl ?_ | refine ent_take 5 rfl ?_ | refine ent_take 6 rfl ?_ | refine ent_take 7 rfl ?_ | refine ent_take 8 rfl ?_ | refine ent_take 9 rfl ?_ | refine ent_take 10 rfl ?_ | refine ent_take 11 rfl ?_ | refine ent_take 12 rfl ?_))))))⟩
            · refine bs (cs := ints [_, _, _]) rfl ?_
              intro b7
              refine ⟨(by repeat (first | exact ent_nil _ | refine ent_take 0 rfl ?_ | refine ent_take 1 rfl ?_ | refine ent_take 2 rfl ?_ | refine ent_take 3 rfl ?_ | refine ent_take 4 rfl ?_ | refine ent_take 5 rfl ?_ | refine ent_take 6 rfl ?_ | refine ent_take 7 rfl ?_ | refine ent_take 8 rfl ?_ | refine ent_take 9 rfl ?_ | refine ent_take 10 rfl ?_ | refine ent_take 11 rfl ?_ | refine ent_take 12 rfl ?_)), ?_⟩
              refine TF.of [(8, true), (15, true), (22, true), (23, false), (24, false), (25, true)] (by kernel_rfl) rfl ?_
              refine de rfl rfl ?_
              refine ap 24 rfl rfl rfl rfl rfl (by omega) (ths_take r0 0) (flat_one (thC_one r0) _) (by omega) (by simp only [maxLen]; omega) ?_
              intro ad9 cap9
              refine ⟨(by repeat (first | exact ent_nil _ | refine ent_take 0 rfl ?_ | refine ent_take 1 rfl ?_ | refine ent_take 2 rfl ?_ | refine ent_take 3 rfl ?_ | refine ent_take 4 rfl ?_ | refine ent_take 5 rfl ?_ | refine ent_take 6 rfl ?_ | refine ent_take 7 rfl ?_ | refine ent_take 8 rfl ?_ | refine ent_take 9 rfl ?_ | refine ent_take 10 rfl ?_ | refine ent_take 11 rfl ?_ | refine ent_take 12 rfl ?_)), ?_⟩
              refine de rfl rfl ?_
              refine ap 24 rfl rfl rfl rfl rfl (Nat.le_of_ble_eq_true rfl) (show _ = ints [x, 0, -1] from rfl) rfl (by omega) (by simp only [maxLen]; omega) ?_
              intro ad10 cap10
              refine ⟨(by repeat (first | exact ent_nil _ | refine ent_take 0 rfl ?_ | refine ent_take 1 rfl ?_ | refine ent_take 2 rfl ?_ | refine ent_take 3 rfl ?_ | refine ent_take 4 rfl ?_ | refine ent_take 5 rfl ?_ | refine ent_take 6 rfl ?_ | refine ent_take 7 rfl ?_ | refine ent_take 8 rfl ?_ | refine ent_take 9 rfl ?_ | refine ent_take 10 rfl ?_ | refine ent_take 11 rfl ?_ | refine ent_take 12 rfl ?_)), ?_⟩
              refine de rfl rfl ?_
              refine ap 24 rfl rfl rfl rfl rfl (by rw [List.length_drop]; omega) (ths_drop r0 0) (flat_one (thC_one r0) _) (by omega) (by simp only [maxLen]; omega) ?_
              intro ad11 cap11
              refine ⟨(by repeat (first | exact ent_nil _ | refine ent_take 0 rfl ?_ | refine ent_take 1 rfl ?_ | refine ent_take 2 rfl ?_ | refine ent_take 3 rfl ?_ | refine ent_take 4 rfl ?_ | refine ent_take 5 rfl ?_ | refine ent_take 6 rfl ?_ | refine ent_take 7 rfl ?_ | refine ent_take 8 rfl ?_ | refine ent_take 9 rfl ?_ | refine ent_take 10 rfl ?_ | refine ent_take 11 rfl ?_ | refine ent_take 12 rfl ?_)), ?_⟩
              first | refine dq rfl rfl rfl (nc rfl) ?_ | refine dq rfl rfl rfl (ncF rfl) ?_ | refine dq rfl rfl rfl (ncS rfl (by first | assumption | (simp [ints_length] <;> omega))) ?_
              first | refine dq rfl rfl rfl (fa 0 rfl rfl) ?_ | refine dq rfl rfl rfl (faS 0 rfl rfl (by first | assumption | (simp [ints_length] <;> omega))) ?_
              refine dl0 rfl rfl rfl ?_
              refine st (v := .slice _ _ _) (vs := [_]) 1 rfl rfl rfl rfl rfl rfl (Nat.le_of_ble_eq_true rfl) rfl ?_
              refine TD.nil (nt ?_)
              refine TC.region ?_
              refine q rfl rfl (mv (v := .int _ _) rfl) ?_
              first | refine q rfl rfl (addI rfl rfl (by omega) (by omega)) ?_ | refine q rfl rfl (add rfl rfl rfl) ?_
              refine q rfl rfl (asg (v := .int _ _) rfl) ?_
              refine TL.nil (nb (nt ?_))
              refine TC.region ?_
              refine q rfl rfl (mv (v := .int _ _) rfl) ?_
              first | refine q rfl rfl (addI rfl rfl (by omega) (by omega)) ?_ | refine q rfl rfl (add rfl rfl rfl) ?_
              refine q rfl rfl (asg (v := .int _ _) rfl) ?_
              refine TL.nil (nt ?_)
              have htn : (joinF r0 x).D.length = 0 + 0 + 1 + (r0.D.length - 0) := by omega
              have hjS : (joinF r0 x).S = r0.S := by rw [joinF]; split <;> rfl
              exact ⟨rfl, ⟨1, joinF r0 x, 1⟩, (.inr ⟨rfl, rfl, hj1.symm⟩), (by dsimp only; omega), ⟨rfl, rfl, rfl, rfl, trivial⟩, (ent_close (⟨(ad11, cap11), (a2, c2)⟩ : (Option Addr × Nat) × (Option Addr × Nat)) trivial (ent_takeE 0 rfl (by dsimp only; rw [htn, hjS] <;> rfl) (ent_takeE 0 rfl (by dsimp only; rw [htn, ← hth, List.nil_append, List.append_assoc] <;> rfl) (by dsimp only; rw [hjS]; exact (by repeat (first | exact ent_nil _ | refine ent_take 0 rfl ?_ | refine ent_take 1 rfl ?_ | refine ent_take 2 rfl ?_ | refine ent_take 3 rfl ?_ | refine ent_take 4 rfl ?_ | refine ent_take 5 rfl ?_ | refine ent_take 6 rfl ?_ | refine ent_take 7 rfl ?_ | refine ent_take 8 rfl ?_ | refine ent_take 9 rfl ?_ | refine ent_take 10 rfl ?_ | refine ent_take 11 rfl ?_ | refine ent_take 12 rfl ?_))))))⟩
          · refine bs (cs := ints [_, _, _]) rfl ?_
            intro b8
            refine ⟨(by repeat (first | exact ent_nil _ | refine ent_take 0 rfl ?_ | refine ent_take 1 rfl ?_ | refine ent_take 2 rfl ?_ | refine ent_take 3 rfl ?_ | refine ent_take 4 rfl ?_ | refine ent_take 5 rfl ?_ | refine ent_take 6 rfl ?_ | refine ent_take 7 rfl ?_ | refine ent_take 8 rfl ?_ | refine ent_take 9 rfl ?_ | refine ent_take 10 rfl ?_ | refine ent_take 11 rfl ?_ | refine ent_take 12 rfl ?_)), ?_⟩
            refine TF.of [(1, true), (8, true), (15, true), (22, true), (23, false), (24, false), (25, true)] (by kernel_rfl) rfl ?_
            refine de rfl rfl ?_
            refine bs (cs := []) rfl ?_
            intro b9
            refine ⟨(by repeat (first | exact ent_nil _ | refine ent_take 0 rfl ?_ | refine ent_take 1 rfl ?_ | refine ent_take 2 rfl ?_ | refine ent_take 3 rfl ?_ | refine ent_take 4 rfl ?_ | refine ent_take 5 rfl ?_ | refine ent_take 6 rfl ?_ | refine ent_take 7 rfl ?_ | refine ent_take 8 rfl ?_ | refine ent_take 9 rfl ?_ | refine ent_take 10 rfl ?_ | refine ent_take 11 rfl ?_ | refine ent_take 12 rfl ?_)), ?_⟩
            refine de rfl rfl ?_
            refine ap 24 rfl rfl rfl rfl rfl (by omega) (ths_take r0 0) (flat_one (thC_one r0) _) (by omega) (by simp only [maxLen]; omega) ?_
            intro ad12 cap12
            refine ⟨(by repeat (first | exact ent_nil _ | refine ent_take 0 rfl ?_ | refine ent_take 1 rfl ?_ | refine ent_take 2 rfl ?_ | refine ent_take 3 rfl ?_ | refine ent_take 4 rfl ?_ | refine ent_take 5 rfl ?_ | refine ent_take 6 rfl ?_ | refine ent_take 7 rfl ?_ | refine ent_take 8 rfl ?_ | refine ent_take 9 rfl ?_ | refine ent_take 10 rfl ?_ | refine ent_take 11 rfl ?_ | refine ent_take 12 rfl ?_)), ?_⟩
            refine de rfl rfl ?_
            refine ap 24 rfl rfl rfl rfl rfl (Nat.le_of_ble_eq_true rfl) (show _ = ints [x, 0, -1] from rfl) rfl (by omega) (by simp only [maxLen]; omega) ?_
            intro ad13 cap13
            refine ⟨(by repeat (first | exact ent_nil _ | refine ent_take 0 rfl ?_ | refine ent_take 1 rfl ?_ | refine ent_take 2 rfl ?_ | refine ent_take 3 rfl ?_ | refine ent_take 4 rfl ?_ | refine ent_take 5 rfl ?_ | refine ent_take 6 rfl ?_ | refine ent_take 7 rfl ?_ | refine ent_take 8 rfl ?_ | refine ent_take 9 rfl ?_ | refine ent_take 10 rfl ?_ | refine ent_take 11 rfl ?_ | refine ent_take 12 rfl ?_)), ?_⟩
            refine de rfl rfl ?_
            refine ap 24 rfl rfl rfl rfl rfl (by rw [List.length_drop]; omega) (ths_drop r0 0) (flat_one (thC_one r0) _) (by omega) (by simp only [maxLen]; omega) ?_
            intro ad14 cap14
            refine ⟨(by repeat (first | exact ent_nil _ | refine ent_take 0 rfl ?_ | refine ent_take 1 rfl ?_ | refine ent_take 2 rfl ?_ | refine ent_take 3 rfl ?_ | refine ent_take 4 rfl ?_ | refine ent_take 5 rfl ?_ | refine ent_take 6 rfl ?_ | refine ent_take 7 rfl ?_ | refine ent_take 8 rfl ?_ | refine ent_take 9 rfl ?_ | refine ent_take 10 rfl ?_ | refine ent_take 11 rfl ?_ | refine ent_take 12 rfl ?_)), ?_⟩
            first | refine dq rfl rfl rfl (nc rfl) ?_ | refine dq rfl rfl rfl (ncF rfl) ?_ | refine dq rfl rfl rfl (ncS rfl (by first | assumption | (simp [ints_length] <;> omega))) ?_
            first | refine dq rfl rfl rfl (fa 0 rfl rfl) ?_ | refine dq rfl rfl rfl (faS 0 rfl rfl (by first | assumption | (simp [ints_length] <;> omega))) ?_
            refine dl0 rfl rfl rfl ?_
            refine st (v := .slice _ _ _) (vs := [_]) 1 rfl rfl rfl rfl rfl rfl (Nat.le_of_ble_eq_true rfl) rfl ?_
            refine TD.nil (nt ?_)
            refine TC.region ?_
            refine q rfl rfl (mv (v := .int _ _) rfl) ?_
            first | refine q rfl rfl (addI rfl rfl (by omega) (by omega)) ?_ | refine q rfl rfl (add rfl rfl rfl) ?_
            refine q rfl rfl (asg (v := .int _ _) rfl) ?_
            refine TL.nil (nb (nt ?_))
            refine TC.region ?_
            refine q rfl rfl (mv (v := .int _ _) rfl) ?_
            first | refine q rfl rfl (addI rfl rfl (by omega) (by omega)) ?_ | refine q rfl rfl (add rfl rfl rfl) ?_
            refine q rfl rfl (asg (v := .int _ _) rfl) ?_
            refine TL.nil (nt ?_)
            have htn : (joinF r0 x).D.length = 0 + 0 + 1 + (r0.D.length - 0) := by omega
            have hjS : (joinF r0 x).S = r0.S := by rw [joinF]; split <;> rfl
            exact ⟨rfl, ⟨1, joinF r0 x, 1⟩, (.inr ⟨rfl, rfl, hj1.symm⟩), (by dsimp only; omega), ⟨rfl, rfl, rfl, rfl, trivial⟩, (ent_close (⟨(ad14, cap14), (a2, c2)⟩ : (Option Addr × Nat) × (Option Addr × Nat)) trivial (ent_takeE 0 rfl (by dsimp only; rw [htn, hjS] <;> rfl) (ent_takeE 0 rfl (by dsimp only; rw [htn, ← hth, List.nil_append, List.append_assoc] <;> rfl) (by dsimp only; rw [hjS]; exact (by repeat (first | exact ent_nil _ | refine ent_take 0 rfl ?_ | refine ent_take 1 rfl ?_ | refine ent_take 2 rfl ?_ | refine ent_take 3 rfl ?_ | refine ent_take 4 rfl ?_ | refine ent_take 5 rfl ?_ | refine ent_take 6 rfl ?_ | refine ent_take 7 rfl ?_ | refine ent_take 8 rfl ?_ | refine ent_take 9 rfl ?_ | refine ent_take 10 rfl ?_ | refine ent_take 11 rfl ?_ | refine ent_take 12 rfl ?_))))))⟩
  · obtain ⟨rfl, rfl, rfl⟩ : k = 1 ∧ r0 = joinF r x ∧ n = joinNF r x := by
      rcases hk with ⟨h, _, _⟩ | h
      · omega
      · exact h
    refine TC.exit (et (et (eb (nt ?_))))
    refine TC.seq ?_
    refine TC.region ?_
    refine q rfl rfl (mv (v := .int _ _) rfl) ?_
    refine q rfl rfl (asg (v := .int _ _) rfl) ?_
    refine TL.nil (nt ?_)
    refine TC.ret ?_
    exact Ret.i () [_] ⟨rfl, trivial⟩ rfl trivial (by repeat (first | exact ent_nil _ | refine ent_take 0 rfl ?_ | refine ent_take 1 rfl ?_ | refine ent_take 2 rfl ?_ | refine ent_take 3 rfl ?_ | refine ent_take 4 rfl ?_ | refine ent_take 5 rfl ?_ | refine ent_take 6 rfl ?_ | refine ent_take 7 rfl ?_ | refine ent_take 8 rfl ?_ | refine ent_take 9 rfl ?_ | refine ent_take 10 rfl ?_ | refine ent_take 11 rfl ?_ | refine ent_take 12 rfl ?_))

end Go.Proofs.Ytgmniphegombhaa
