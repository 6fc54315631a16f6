/-
  Proved here: what functions of this program compute, each as a contract over symbolic states, under the premises that each theorem names (most lines printed by a program of the prover).
-/
import Derived.Test.YtffoeolgjgpmjaaFoH
namespace Go.Proofs.Ytffoeolgjgpmjaa
open Go Go.QM
def gnV (b : List Int) (i v : Nat) : Value := .bool (decide ((v : Int) ∈ b.take i))
theorem gn_set {b : List Int} {n i : Nat} {x : Int} (hx : b[i]? = some x) (h0 : 0 ≤ x) (h1 : x < n) : splice x.toNat [.bool true] (fl n (gnV b i)) = fl n (gnV b (i + 1)) := by
  have hm : ∀ v : Nat, ((v : Int) ∈ b.take (i + 1) ↔ (v : Int) ∈ b.take i ∨ (v : Int) = x) := fun v => by rw [List.take_add_one, hx]; simp
  refine fl_set (by omega) ?_ fun u hu => ?_
  · rw [gnV, decide_eq_true ((hm _).2 (.inr (by omega)))]
  · rw [gnV, gnV]
    congr 1
    rw [Bool.eq_iff_iff, decide_eq_true_iff, decide_eq_true_iff, hm]
    exact ⟨fun h => h.elim id fun e => absurd e (by omega), .inl⟩
theorem nd_fresh {b : List Int} (h : b.Nodup) {i : Nat} {x : Int} (hx : b[i]? = some x) : x ∉ b.take i := fun h2 => by
  obtain ⟨j, hj⟩ := List.getElem?_of_mem h2
  rw [List.getElem?_take] at hj
  split at hj
  · obtain ⟨a1, b1⟩ := List.getElem?_eq_some_iff.1 hj
    obtain ⟨a2, b2⟩ := List.getElem?_eq_some_iff.1 hx
    exact (List.pairwise_iff_getElem.1 h) j i a1 a2 (by omega) (by rw [b1, b2])
  · cases hj

set_option maxHeartbeats 1000000 in
theorem cuts_ok (ad : Option Addr) (l : List Int) (cap : Nat) (y : Int) (hl8 : ∀ x ∈ l, 0 ≤ x ∧ x ≤ 255) (hy : 0 ≤ y ∧ y ≤ 255) : FSpec Try.prog 4 [.slice ad l.length cap, .int .u8 y] (fun F => ∃ E, RdS F E ad (nums .u8 l)) [] (fun _ : Unit => .bool true) (fun _ => True) (fun _ => []) := by
  refine FSpec.intro (rs := [.tmp 4]) (by kernel_rfl) Try.func4 rfl Try.ntmps4 (by rfl) rfl ?_
  intro F ⟨E, hF⟩
  change TC _ _ _ _ _ _ _ (sepL [_])
  haveI : RdSI F ad E (nums .u8 l) := ⟨hF⟩
  refine TC.seq ?_
  refine TC.region ?_
  refine q rfl rfl (asg (v := .bool _) rfl) ?_
  refine TL.nil (nt ?_)
  refine TC.seq ?_
  refine TC.seq ?_
  refine TC.region ?_
  refine e rfl ?_
  refine cl alive_ok rfl (picked_nil _) trivial ?_
  intro _ _
  change TL _ _ _ _ _ _ _ _ (sepL [_])
  first | refine q rfl rfl (notD rfl) ?_ | refine q rfl rfl (notB rfl) ?_
  refine TL.nil (nt ?_)
  refine TC.condF rfl ?_
  refine TC.skip (nt ?_)
  refine TC.seq ?_
  refine TC.seq ?_
  refine TC.region ?_
  refine q rfl rfl (mv (v := .slice _ _ _) rfl) ?_
  refine q rfl rfl (len 5 1 rfl rfl) ?_
  refine q rfl rfl (gtr rfl rfl) ?_
  refine TL.nil (nt ?_)
  first | refine TC.condD rfl (fun hbig => ?_) (fun hbig => ?_) | refine TC.cond rfl (fun hbig => ?_) (fun hbig => ?_)
  · refine TC.seq ?_
    refine TC.region ?_
    refine q rfl rfl (asg (v := .bool _) rfl) ?_
    refine TL.nil (nt ?_)
    refine TC.ret (rt ?_)
    exact Ret.i () [_] ⟨rfl, trivial⟩ rfl trivial (ent_take 0 rfl (ent_nil _))
  · have hl100 : l.length ≤ 100 := by omega
    refine TC.skip (nt ?_)
    refine TC.seq ?_
    refine TC.region ?_
    refine e rfl ?_
    refine cl fnew_ok rfl (picked_nil _) trivial ?_
    intro a _
    change TL _ _ _ _ _ _ _ _ (sepL [_, _])
    refine q rfl rfl (asg (v := .pointer _) rfl) ?_
    refine TL.nil (nt ?_)
    refine TC.seq ?_
    refine TC.seq ?_
    refine TC.region ?_
    refine q rfl rfl (asg (v := .int _ _) rfl) ?_
    refine TL.nil (nt ?_)
    refine TC.block ?_
    refine TC.loop (ι := Nat) (fun i => i ≤ l.length) (fun i => [(0, .slice ad l.length cap), (1, .int .u8 y), (5, .pointer (some ⟨a, 0, none⟩)), (6, .int .i64 ((i : Nat) : Int))]) (fun i => sepL [isF a (tr o7 l i) (i : Int), F]) (fun i => l.length - i) 0 (Nat.zero_le _) ⟨rfl, rfl, rfl, rfl, trivial⟩ (ent_take 0 rfl (ent_take 0 rfl (ent_nil _))) ?_
    rintro i hi ρ0
    dsimp only [updL] at hi ⊢
    refine TC.seq ?_
    refine TC.seq ?_
    refine TC.region ?_
    refine q rfl rfl (mv (v := .int _ _) rfl) ?_
    refine q rfl rfl (mv (v := .slice _ _ _) rfl) ?_
    refine q rfl rfl (len 5 1 rfl rfl) ?_
    refine q rfl rfl (lss rfl rfl) ?_
    refine TL.nil (nt ?_)
    first | refine TC.condD rfl (fun hlt => ?_) (fun hlt => ?_) | refine TC.cond rfl (fun hlt => ?_) (fun hlt => ?_)
    · have hlt2 : i < l.length := by omega
      obtain ⟨x, hx⟩ : ∃ x, l[i]? = some x := ⟨l[i], List.getElem?_eq_getElem hlt2⟩
      have hx8 := hl8 x (List.mem_of_getElem? hx)
      have hpos : 0 < (nums .u8 l).length := by rw [nums_length]; omega
      have hadd : addN (tr o7 l i) (i : Int) (x % ((i : Int) + 1)) ((i : Int) / 7, (i : Int) % 7) = (tr o7 l (i + 1), ((i + 1 : Nat) : Int), (i : Int) + 1, 0) := tr_add o7_inj l i hx
      refine TC.skip (nt ?_)
      refine TC.seq ?_
      refine TC.block ?_
      refine TC.seq ?_
      refine TC.region ?_
      refine q rfl rfl (mv (v := .pointer _) rfl) ?_
      refine q rfl rfl (mv (v := .slice _ _ _) rfl) ?_
      refine q rfl rfl (mv (v := .int _ _) rfl) ?_
      first | refine q rfl rfl (ixS 5 1 rfl rfl rfl (by omega) (by first | assumption | (simp [ints_length] <;> omega))) ?_ | refine q rfl rfl (ixJ 5 1 rfl rfl rfl (by omega) (by omega) (by first | assumption | (simp [ints_length] <;> omega))) ?_ | refine q rfl rfl (ix 5 1 rfl rfl rfl (by omega) (by omega) rfl) ?_
      first | refine q rfl rfl (ld rfl rfl rfl) ?_ | refine q rfl rfl (ldS rfl rfl (nums_get hx)) ?_ | refine q rfl rfl (ldS rfl rfl rfl) ?_
      first | refine q rfl rfl (conv .u8 .i64 rfl rfl rfl (wi64 (by omega) (by omega))) ?_ | refine q rfl rfl (conv .u8 .i64 rfl rfl rfl rfl) ?_
      refine q rfl rfl (mv (v := .int _ _) rfl) ?_
      first | refine q rfl rfl (addI rfl rfl (by omega) (by omega)) ?_ | refine q rfl rfl (add rfl rfl rfl) ?_
      first | refine q rfl rfl (remI rfl rfl (by omega) (by omega)) ?_ | refine q rfl rfl (rem rfl rfl (by omega) rfl) ?_
      refine q rfl rfl (mv (v := .int _ _) rfl) ?_
      first | refine q rfl rfl (quoI rfl rfl (by omega) (by omega) (by omega)) ?_ | refine q rfl rfl (quo rfl rfl (by omega) rfl) ?_
      refine q rfl rfl (mv (v := .int _ _) rfl) ?_
      first | refine q rfl rfl (remI rfl rfl (by omega) (by omega)) ?_ | refine q rfl rfl (rem rfl rfl (by omega) rfl) ?_
      refine e rfl ?_
      refine cl (fadd_ok a (tr o7 l i) (i : Int) (x % ((i : Int) + 1)) ((i : Int) / 7) ((i : Int) % 7) (by omega)) rfl PkL.p trivial ?_
      intro _ _
      change TL _ _ _ _ _ _ _ _ (sepL [_, _])
      rw [hadd]
      dsimp only
      refine q rfl rfl (mv (v := .tuple _) rfl) ?_
      refine q rfl rfl (pu (v := .int _ _) (fun _ => rfl)) ?_
      refine q rfl rfl (pu (v := .int _ _) (fun _ => rfl)) ?_
      refine q rfl rfl (asg (v := .int _ _) rfl) ?_
      refine q rfl rfl (asg (v := .int _ _) rfl) ?_
      refine TL.nil (nt ?_)
      refine TC.seq ?_
      refine TC.region ?_
      refine q rfl rfl (mv (v := .int _ _) rfl) ?_
      refine q rfl rfl (neI rfl rfl) ?_
      refine TL.nil (nt ?_)
      refine TC.condD rfl (fun hc1 => absurd hc1 (by decide)) (fun hc1 => ?_)
      refine TC.skip (nb (nt ?_))
      refine TC.region ?_
      refine q rfl rfl (mv (v := .int _ _) rfl) ?_
      first | refine q rfl rfl (addI rfl rfl (by omega) (by omega)) ?_ | refine q rfl rfl (add rfl rfl rfl) ?_
      refine q rfl rfl (asg (v := .int _ _) rfl) ?_
      refine TL.nil (nt ?_)
      exact ⟨rfl, (i + 1), (by omega), (by omega), ⟨rfl, rfl, rfl, rfl, trivial⟩, (ent_take 0 rfl (ent_take 0 rfl (ent_nil _)))⟩
    · obtain rfl : i = l.length := by omega
      clear hi hlt
      have hW := tr_wi o7_inj l l.length
      have hlen := tr_len o7 l l.length
      have hhas : ∀ x, hasN (tr o7 l l.length) x ↔ 1 ≤ x ∧ x ≤ (l.length : Int) := fun x => tr_has
      have hm0 := Int.emod_nonneg y (show (l.length : Int) + 1 ≠ 0 by omega)
      have hm1 := Int.emod_lt_of_pos y (show (0 : Int) < (l.length : Int) + 1 by omega)
      obtain ⟨id, hid, hi1, hi2⟩ : ∃ id, id = 1 + y % ((l.length : Int) + 1) ∧ 1 ≤ id ∧ id ≤ (l.length : Int) + 1 := ⟨_, rfl, by omega, by omega⟩
      have hfd : ∀ i : Nat, i < l.length → findO (cutN (tr o7 l l.length) l.length id) ((i : Int) / 7, (i : Int) % 7) = if (i : Int) + 1 ∈ belR (tr o7 l l.length) l.length id then 0 else (i : Int) + 1 := fun i h => cut_find o7_inj l h id
      generalize tr o7 l l.length = L at hW hlen hhas hfd ⊢
      have hcl := cut_len hW id
      have hck := cut_kids hW id
      have hbn := belR_nd hW id
      have hbm : ∀ x, x ∈ belR L l.length id → 1 ≤ x ∧ x ≤ (l.length : Int) ∧ x ≠ id := fun x hx => by
        have := belR_mem hW hx; omega
      have hcs : (cutS L l.length id).length = (belR L l.length id).length := by rw [cutS, List.length_map]
      have hbl := belR_len hW id
      refine TC.exit (et (et (eb (nt ?_))))
      refine TC.seq ?_
      refine TC.region ?_
      refine q rfl rfl (mv (v := .int _ _) rfl) ?_
      first | refine q rfl rfl (conv .u8 .i64 rfl rfl rfl (wi64 (by omega) (by omega))) ?_ | refine q rfl rfl (conv .u8 .i64 rfl rfl rfl rfl) ?_
      refine q rfl rfl (mv (v := .slice _ _ _) rfl) ?_
      refine q rfl rfl (len 5 1 rfl rfl) ?_
      first | refine q rfl rfl (addI rfl rfl (by omega) (by omega)) ?_ | refine q rfl rfl (add rfl rfl rfl) ?_
      first | refine q rfl rfl (remI rfl rfl (by omega) (by omega)) ?_ | refine q rfl rfl (rem rfl rfl (by omega) rfl) ?_
      first | refine q rfl rfl (addI rfl rfl (by omega) (by omega)) ?_ | refine q rfl rfl (add rfl rfl rfl) ?_
      refine q rfl rfl (asg (v := .int _ _) rfl) ?_
      refine TL.nil (nt ?_)
      refine TC.seq ?_
      refine TC.region ?_
      refine q rfl rfl (mv (v := .pointer _) rfl) ?_
      refine q rfl rfl (mv (v := .int _ _) rfl) ?_
      rw [← hid]
      refine e rfl ?_
      refine cl (fbelow_ok a L l.length id (by omega)) rfl PkL.p trivial ?_
      intro y1 _
      change TL _ _ _ _ _ _ _ _ (sepL [_, _, _])
      generalize hB : belR L l.length id = B at hfd hcl hbn hbm hcs hbl ⊢
      have hil := ints_length B
      refine q rfl rfl (asg (v := .slice _ _ _) rfl) ?_
      refine TL.nil (nt ?_)
      refine TC.seq ?_
      refine TC.region ?_
      refine e rfl ?_
      refine al (l := _) rfl rfl ?_
      intro b1
      refine TL.nil (nt ?_)
      refine TC.seq ?_
      refine TC.seq ?_
      refine TC.region ?_
      refine q rfl rfl (asg (v := .int _ _) rfl) ?_
      refine TL.nil (nt ?_)
      refine TC.block ?_
      refine TC.loop (ι := Nat) (fun i => i ≤ B.length) (fun i => [(0, .slice ad l.length cap), (1, .int .u8 y), (5, .pointer (some ⟨a, 0, none⟩)), (9, .int .i64 id), (10, .slice y1.1 B.length y1.2), (11, .pointer (some ⟨b1, 0, none⟩)), (12, .int .i64 ((i : Nat) : Int))]) (fun i => sepL [pts b1 56 (fl 110 (gnV B i)), slc 3 1 y1.1 B.length y1.2 (ints B), isF a L l.length, F]) (fun i => B.length - i) 0 (Nat.zero_le _) ⟨rfl, rfl, rfl, rfl, rfl, rfl, rfl, trivial⟩ (ent_takeE 0 rfl (by kernel_rfl) (ent_take 0 rfl (ent_take 0 rfl (ent_take 0 rfl (ent_nil _))))) ?_
      rintro i hi ρ1
      dsimp only [updL] at hi ⊢
      refine TC.seq ?_
      refine TC.seq ?_
      refine TC.region ?_
      refine q rfl rfl (mv (v := .int _ _) rfl) ?_
      refine q rfl rfl (mv (v := .slice _ _ _) rfl) ?_
      refine q rfl rfl (len 3 1 rfl rfl) ?_
      refine q rfl rfl (lss rfl rfl) ?_
      refine TL.nil (nt ?_)
      first | refine TC.condD rfl (fun hlt => ?_) (fun hlt => ?_) | refine TC.cond rfl (fun hlt => ?_) (fun hlt => ?_)
      · have hlt2 : i < B.length := by omega
        obtain ⟨x, hx⟩ : ∃ x, B[i]? = some x := ⟨B[i], List.getElem?_eq_getElem hlt2⟩
        have hxm := hbm x (List.mem_of_getElem? hx)
        have hfr := nd_fresh hbn hx
        have hpos : 0 < (ints B).length := by omega
        have hgx : (fl 110 (gnV B i))[x.toNat]? = some (.bool false) := by
          rw [fl_get _ (by omega), gnV, decide_eq_false (by rw [Int.toNat_of_nonneg (by omega)]; exact hfr)]
        refine TC.skip (nt ?_)
        refine TC.seq ?_
        refine TC.block ?_
        refine TC.seq ?_
        refine TC.seq ?_
        refine TC.region ?_
        refine q rfl rfl (mv (v := .slice _ _ _) rfl) ?_
        refine q rfl rfl (mv (v := .int _ _) rfl) ?_
        first | refine q rfl rfl (ixS 3 1 rfl rfl rfl (by omega) (by first | assumption | (simp [ints_length] <;> omega))) ?_ | refine q rfl rfl (ixJ 3 1 rfl rfl rfl (by omega) (by omega) (by first | assumption | (simp [ints_length] <;> omega))) ?_ | refine q rfl rfl (ix 3 1 rfl rfl rfl (by omega) (by omega) rfl) ?_
        first | refine q rfl rfl (ld rfl rfl rfl) ?_ | refine q rfl rfl (ld rfl rfl (by rw [Nat.zero_add, Nat.mul_one]; exact hgx)) ?_ | refine q rfl rfl (ldS rfl rfl (ints_get hx)) ?_ | refine q rfl rfl (ldS rfl rfl rfl) ?_
        refine q rfl rfl (mv (v := .int _ _) rfl) ?_
        refine q rfl rfl (eqI rfl rfl) ?_
        refine q rfl rfl (mv (v := .bool _) rfl) ?_
        refine TL.known 69 rfl (c := false) (decide_eq_false (by omega)) ?_
        refine qg rfl rfl rfl (mv (v := .slice _ _ _) rfl) ?_
        refine qg rfl rfl rfl (mv (v := .int _ _) rfl) ?_
        first | refine qg rfl rfl rfl (ixS 3 1 rfl rfl rfl (by omega) (by first | assumption | (simp [ints_length] <;> omega))) ?_ | refine qg rfl rfl rfl (ixJ 3 1 rfl rfl rfl (by omega) (by omega) (by first | assumption | (simp [ints_length] <;> omega))) ?_ | refine qg rfl rfl rfl (ix 3 1 rfl rfl rfl (by omega) (by omega) rfl) ?_
        first | refine qg rfl rfl rfl (ld rfl rfl rfl) ?_ | refine qg rfl rfl rfl (ld rfl rfl (by rw [Nat.zero_add, Nat.mul_one]; exact hgx)) ?_ | refine qg rfl rfl rfl (ldS rfl rfl (ints_get hx)) ?_ | refine qg rfl rfl rfl (ldS rfl rfl rfl) ?_
        refine qg rfl rfl rfl (ixAl 110 4 1 rfl rfl rfl (by omega) (by omega)) ?_
        first | refine qg rfl rfl rfl (ld rfl rfl rfl) ?_ | refine qg rfl rfl rfl (ld rfl rfl (by rw [Nat.zero_add, Nat.mul_one]; exact hgx)) ?_ | refine qg rfl rfl rfl (ldS rfl rfl (ints_get hx)) ?_ | refine qg rfl rfl rfl (ldS rfl rfl rfl) ?_
        first | refine q rfl rfl (pkT rfl rfl) ?_ | refine q rfl rfl (pkF rfl rfl) ?_
        refine TL.nil (nt ?_)
        refine TC.condF rfl ?_
        refine TC.skip (nt ?_)
        refine TC.region ?_
        refine q rfl rfl (mv (v := .slice _ _ _) rfl) ?_
        refine q rfl rfl (mv (v := .int _ _) rfl) ?_
        first | refine q rfl rfl (ixS 3 1 rfl rfl rfl (by omega) (by first | assumption | (simp [ints_length] <;> omega))) ?_ | refine q rfl rfl (ixJ 3 1 rfl rfl rfl (by omega) (by omega) (by first | assumption | (simp [ints_length] <;> omega))) ?_ | refine q rfl rfl (ix 3 1 rfl rfl rfl (by omega) (by omega) rfl) ?_
        first | refine q rfl rfl (ld rfl rfl rfl) ?_ | refine q rfl rfl (ld rfl rfl (by rw [Nat.zero_add, Nat.mul_one]; exact hgx)) ?_ | refine q rfl rfl (ldS rfl rfl (ints_get hx)) ?_ | refine q rfl rfl (ldS rfl rfl rfl) ?_
        refine q rfl rfl (ixAl 110 4 1 rfl rfl rfl (by omega) (by omega)) ?_
        refine e0 ?_
        first | refine st (v := .bool _) (vs := [_]) 1 rfl rfl rfl rfl rfl rfl (Nat.le_of_ble_eq_true rfl) rfl ?_ | refine st (v := .bool _) (vs := [_]) 1 rfl rfl rfl rfl rfl rfl (by rw [fl_length]; simp <;> omega) ((congrArg (fun n => splice n [.bool true] (fl 110 (gnV B i))) (by rw [Nat.zero_add, Nat.mul_one])).trans (gn_set hx (by omega) (by omega))) ?_
        refine TL.nil (nb (nt ?_))
        refine TC.region ?_
        refine q rfl rfl (mv (v := .int _ _) rfl) ?_
        first | refine q rfl rfl (addI rfl rfl (by omega) (by omega)) ?_ | refine q rfl rfl (add rfl rfl rfl) ?_
        refine q rfl rfl (asg (v := .int _ _) rfl) ?_
        refine TL.nil (nt ?_)
        exact ⟨rfl, (i + 1), (by omega), (by omega), ⟨rfl, rfl, rfl, rfl, rfl, rfl, rfl, trivial⟩, (by repeat (first | exact ent_nil _ | refine ent_take 0 rfl ?_ | refine ent_take 1 rfl ?_ | refine ent_take 2 rfl ?_ | refine ent_take 3 rfl ?_ | refine ent_take 4 rfl ?_ | refine ent_take 5 rfl ?_ | refine ent_take 6 rfl ?_ | refine ent_take 7 rfl ?_ | refine ent_take 8 rfl ?_ | refine ent_take 9 rfl ?_ | refine ent_take 10 rfl ?_ | refine ent_take 11 rfl ?_ | refine ent_take 12 rfl ?_))⟩
      · obtain rfl : i = B.length := by omega
        clear hi hlt
        refine TC.exit (et (et (eb (nt ?_))))
        refine TC.seq ?_
        refine TC.region ?_
        refine q rfl rfl (mv (v := .pointer _) rfl) ?_
        refine q rfl rfl (mv (v := .int _ _) rfl) ?_
        refine e rfl ?_
        refine cl (fcut_ok a L l.length id (by omega)) rfl PkL.p trivial ?_
        intro y2 _
        change TL _ _ _ _ _ _ _ _ (sepL [_, _, _, _, _])
        rw [hcs]
        refine q rfl rfl (asg (v := .slice _ _ _) rfl) ?_
        refine TL.nil (nt ?_)
        refine TC.seq ?_
        refine TC.seq ?_
        refine TC.region ?_
        refine q rfl rfl (mv (v := .slice _ _ _) rfl) ?_
        refine q rfl rfl (len 44 2 rfl rfl) ?_
        refine q rfl rfl (mv (v := .slice _ _ _) rfl) ?_
        refine q rfl rfl (len 3 1 rfl rfl) ?_
        refine q rfl rfl (neI rfl rfl) ?_
        refine q rfl rfl (mv (v := .bool _) rfl) ?_
        refine TL.known 90 rfl (c := false) (decide_eq_false (by omega)) ?_
        refine qg rfl rfl rfl (mv (v := .pointer _) rfl) ?_
        refine eg rfl rfl ?_
        refine cl (flen_ok a (cutN L l.length id) l.length) rfl PkL.p trivial ?_
        intro _ _
        change TL _ _ _ _ _ _ _ _ (sepL [_, _, _, _, _])
        refine qg rfl rfl rfl (mv (v := .slice _ _ _) rfl) ?_
        refine qg rfl rfl rfl (len 5 1 rfl rfl) ?_
        refine qg rfl rfl rfl (mv (v := .slice _ _ _) rfl) ?_
        refine qg rfl rfl rfl (len 3 1 rfl rfl) ?_
        first | refine qg rfl rfl rfl (subI rfl rfl (by omega) (by omega)) ?_ | refine qg rfl rfl rfl (sub rfl rfl rfl) ?_
        refine qg rfl rfl rfl (neI rfl rfl) ?_
        first | refine q rfl rfl (pkT rfl rfl) ?_ | refine q rfl rfl (pkF rfl rfl) ?_
        refine q rfl rfl (mv (v := .bool _) rfl) ?_
        refine TL.known 100 rfl (c := false) (decide_eq_false (by omega)) ?_
        refine qg rfl rfl rfl (mv (v := .pointer _) rfl) ?_
        refine qg rfl rfl rfl (mv (v := .int _ _) rfl) ?_
        refine eg rfl rfl ?_
        refine cl (fkids_ok a (cutN L l.length id) l.length id (by omega)) rfl PkL.p trivial ?_
        intro y3 _
        change TL _ _ _ _ _ _ _ _ (sepL [_, _, _, _, _, _])
        rw [hck]
        refine qg rfl rfl rfl (len 3 1 rfl rfl) ?_
        refine qg rfl rfl rfl (neI rfl rfl) ?_
        first | refine q rfl rfl (pkT rfl rfl) ?_ | refine q rfl rfl (pkF rfl rfl) ?_
        refine TL.nil (nt ?_)
        refine TC.condD rfl (fun hc2 => absurd hc2 (by simp)) (fun hc2 => ?_)
        refine TC.skip (nt ?_)
        refine TC.seq ?_
        refine TC.seq ?_
        refine TC.region ?_
        refine q rfl rfl (asg (v := .int _ _) rfl) ?_
        refine TL.nil (nt ?_)
        refine TC.block ?_
        refine TC.loop (ι := Nat) (fun k => k ≤ l.length) (fun k => [(0, .slice ad l.length cap), (1, .int .u8 y), (5, .pointer (some ⟨a, 0, none⟩)), (11, .pointer (some ⟨b1, 0, none⟩)), (14, .int .i64 ((k : Nat) : Int))]) (fun k => sepL [pts b1 56 (fl 110 (gnV B B.length)), isF a (cutN L l.length id) l.length, F]) (fun k => l.length - k) 0 (Nat.zero_le _) ⟨rfl, rfl, rfl, rfl, rfl, trivial⟩ (by repeat (first | exact ent_nil _ | refine ent_take 0 rfl ?_ | refine ent_take 1 rfl ?_ | refine ent_take 2 rfl ?_ | refine ent_take 3 rfl ?_ | refine ent_take 4 rfl ?_ | refine ent_take 5 rfl ?_ | refine ent_take 6 rfl ?_ | refine ent_take 7 rfl ?_ | refine ent_take 8 rfl ?_ | refine ent_take 9 rfl ?_ | refine ent_take 10 rfl ?_ | refine ent_take 11 rfl ?_ | refine ent_take 12 rfl ?_)) ?_
        rintro k hk ρ2
        dsimp only [updL] at hk ⊢
        refine TC.seq ?_
        refine TC.seq ?_
        refine TC.region ?_
        refine q rfl rfl (mv (v := .int _ _) rfl) ?_
        refine q rfl rfl (mv (v := .slice _ _ _) rfl) ?_
        refine q rfl rfl (len 5 1 rfl rfl) ?_
        refine q rfl rfl (lss rfl rfl) ?_
        refine TL.nil (nt ?_)
        first | refine TC.condD rfl (fun hlt => ?_) (fun hlt => ?_) | refine TC.cond rfl (fun hlt => ?_) (fun hlt => ?_)
        · have hlt2 : k < l.length := by omega
          have hg : (fl 110 (gnV B B.length))[((k : Int) + 1).toNat]? = some (.bool (decide ((k : Int) + 1 ∈ B))) := by
            rw [fl_get _ (by omega), gnV, List.take_length, Int.toNat_of_nonneg (by omega)]
          refine TC.skip (nt ?_)
          refine TC.seq ?_
          refine TC.block ?_
          refine TC.seq ?_
          refine TC.region ?_
          refine q rfl rfl (mv (v := .pointer _) rfl) ?_
          refine q rfl rfl (mv (v := .int _ _) rfl) ?_
          first | refine q rfl rfl (quoI rfl rfl (by omega) (by omega) (by omega)) ?_ | refine q rfl rfl (quo rfl rfl (by omega) rfl) ?_
          refine q rfl rfl (mv (v := .int _ _) rfl) ?_
          first | refine q rfl rfl (remI rfl rfl (by omega) (by omega)) ?_ | refine q rfl rfl (rem rfl rfl (by omega) rfl) ?_
          refine e rfl ?_
          refine cl (ffind_ok a (cutN L l.length id) l.length ((k : Int) / 7) ((k : Int) % 7)) rfl PkL.p trivial ?_
          intro _ _
          change TL _ _ _ _ _ _ _ _ (sepL [_, _, _])
          rw [hfd k hlt2]
          by_cases hin : (k : Int) + 1 ∈ B
          · rw [if_pos hin]
            rw [decide_eq_true hin] at hg
            refine q rfl rfl (asg (v := .int _ _) rfl) ?_
            refine TL.nil (nt ?_)
            refine TC.seq ?_
            refine TC.region ?_
            refine q rfl rfl (mv (v := .int _ _) rfl) ?_
            first | refine q rfl rfl (addI rfl rfl (by omega) (by omega)) ?_ | refine q rfl rfl (add rfl rfl rfl) ?_
            refine q rfl rfl (ixAl 110 4 1 rfl rfl rfl (by omega) (by omega)) ?_
            first | refine q rfl rfl (ld rfl rfl rfl) ?_ | refine q rfl rfl (ld rfl rfl (by rw [Nat.zero_add, Nat.mul_one]; exact hg)) ?_ | refine q rfl rfl (ldS rfl rfl rfl) ?_
            refine q rfl rfl (mv (v := .bool _) rfl) ?_
            refine TL.known 123 rfl (c := true) rfl ?_
            refine qg rfl rfl rfl (mv (v := .int _ _) rfl) ?_
            refine qg rfl rfl rfl (neI rfl rfl) ?_
            first | refine q rfl rfl (pkT rfl rfl) ?_ | refine q rfl rfl (pkF rfl rfl) ?_
            refine q rfl rfl (mv (v := .bool _) rfl) ?_
            refine TL.known 127 rfl (c := false) (by decide) ?_
            refine qg rfl rfl rfl (mv (v := .int _ _) rfl) ?_
            first | refine qg rfl rfl rfl (addI rfl rfl (by omega) (by omega)) ?_ | refine qg rfl rfl rfl (add rfl rfl rfl) ?_
            refine qg rfl rfl rfl (ixAl 110 4 1 rfl rfl rfl (by omega) (by omega)) ?_
            first | refine qg rfl rfl rfl (ld rfl rfl rfl) ?_ | refine qg rfl rfl rfl (ld rfl rfl (by rw [Nat.zero_add, Nat.mul_one]; exact hg)) ?_ | refine qg rfl rfl rfl (ldS rfl rfl rfl) ?_
            first | refine qg rfl rfl rfl (notD rfl) ?_ | refine qg rfl rfl rfl (notB rfl) ?_
            refine qg rfl rfl rfl (mv (v := .bool _) rfl) ?_
            refine TL.known 133 rfl (c := false) rfl ?_
            refine qs rfl rfl ?_
            refine qs rfl rfl ?_
            refine qs rfl rfl ?_
            refine qs rfl rfl ?_
            first | refine qg rfl rfl rfl (pkT rfl rfl) ?_ | refine qg rfl rfl rfl (pkF rfl rfl) ?_
            first | refine q rfl rfl (pkT rfl rfl) ?_ | refine q rfl rfl (pkF rfl rfl) ?_
            refine TL.nil (nt ?_)
            refine TC.condF rfl ?_
            refine TC.skip (nb (nt ?_))
            refine TC.region ?_
            refine q rfl rfl (mv (v := .int _ _) rfl) ?_
            first | refine q rfl rfl (addI rfl rfl (by omega) (by omega)) ?_ | refine q rfl rfl (add rfl rfl rfl) ?_
            refine q rfl rfl (asg (v := .int _ _) rfl) ?_
            refine TL.nil (nt ?_)
            exact ⟨rfl, (k + 1), (by omega), (by omega), ⟨rfl, rfl, rfl, rfl, rfl, trivial⟩, (by repeat (first | exact ent_nil _ | refine ent_take 0 rfl ?_ | refine ent_take 1 rfl ?_ | refine ent_take 2 rfl ?_ | refine ent_take 3 rfl ?_ | refine ent_take 4 rfl ?_ | refine ent_take 5 rfl ?_ | refine ent_take 6 rfl ?_ | refine ent_take 7 rfl ?_ | refine ent_take 8 rfl ?_ | refine ent_take 9 rfl ?_ | refine ent_take 10 rfl ?_ | refine ent_take 11 rfl ?_ | refine ent_take 12 rfl ?_))⟩
          · rw [if_neg hin]
            rw [decide_eq_false hin] at hg
            refine q rfl rfl (asg (v := .int _ _) rfl) ?_
            refine TL.nil (nt ?_)
            refine TC.seq ?_
            refine TC.region ?_
            refine q rfl rfl (mv (v := .int _ _) rfl) ?_
            first | refine q rfl rfl (addI rfl rfl (by omega) (by omega)) ?_ | refine q rfl rfl (add rfl rfl rfl) ?_
            refine q rfl rfl (ixAl 110 4 1 rfl rfl rfl (by omega) (by omega)) ?_
            first | refine q rfl rfl (ld rfl rfl rfl) ?_ | refine q rfl rfl (ld rfl rfl (by rw [Nat.zero_add, Nat.mul_one]; exact hg)) ?_ | refine q rfl rfl (ldS rfl rfl rfl) ?_
            refine q rfl rfl (mv (v := .bool _) rfl) ?_
            refine TL.known 123 rfl (c := false) rfl ?_
            refine qs rfl rfl ?_
            refine qs rfl rfl ?_
            first | refine q rfl rfl (pkT rfl rfl) ?_ | refine q rfl rfl (pkF rfl rfl) ?_
            refine q rfl rfl (mv (v := .bool _) rfl) ?_
            refine TL.known 127 rfl (c := false) rfl ?_
            refine qg rfl rfl rfl (mv (v := .int _ _) rfl) ?_
            first | refine qg rfl rfl rfl (addI rfl rfl (by omega) (by omega)) ?_ | refine qg rfl rfl rfl (add rfl rfl rfl) ?_
            refine qg rfl rfl rfl (ixAl 110 4 1 rfl rfl rfl (by omega) (by omega)) ?_
            first | refine qg rfl rfl rfl (ld rfl rfl rfl) ?_ | refine qg rfl rfl rfl (ld rfl rfl (by rw [Nat.zero_add, Nat.mul_one]; exact hg)) ?_ | refine qg rfl rfl rfl (ldS rfl rfl rfl) ?_
            first | refine qg rfl rfl rfl (notD rfl) ?_ | refine qg rfl rfl rfl (notB rfl) ?_
            refine qg rfl rfl rfl (mv (v := .bool _) rfl) ?_
            refine TL.known 133 rfl (c := true) rfl ?_
            refine qg rfl rfl rfl (mv (v := .int _ _) rfl) ?_
            refine qg rfl rfl rfl (mv (v := .int _ _) rfl) ?_
            first | refine qg rfl rfl rfl (addI rfl rfl (by omega) (by omega)) ?_ | refine qg rfl rfl rfl (add rfl rfl rfl) ?_
            refine qg rfl rfl rfl (neI rfl rfl) ?_
            first | refine qg rfl rfl rfl (pkT rfl rfl) ?_ | refine qg rfl rfl rfl (pkF rfl rfl) ?_
            first | refine q rfl rfl (pkT rfl rfl) ?_ | refine q rfl rfl (pkF rfl rfl) ?_
            refine TL.nil (nt ?_)
            refine TC.condD rfl (fun hc3 => absurd hc3 (by simp)) (fun hc3 => ?_)
            refine TC.skip (nb (nt ?_))
            refine TC.region ?_
            refine q rfl rfl (mv (v := .int _ _) rfl) ?_
            first | refine q rfl rfl (addI rfl rfl (by omega) (by omega)) ?_ | refine q rfl rfl (add rfl rfl rfl) ?_
            refine q rfl rfl (asg (v := .int _ _) rfl) ?_
            refine TL.nil (nt ?_)
            exact ⟨rfl, (k + 1), (by omega), (by omega), ⟨rfl, rfl, rfl, rfl, rfl, trivial⟩, (by repeat (first | exact ent_nil _ | refine ent_take 0 rfl ?_ | refine ent_take 1 rfl ?_ | refine ent_take 2 rfl ?_ | refine ent_take 3 rfl ?_ | refine ent_take 4 rfl ?_ | refine ent_take 5 rfl ?_ | refine ent_take 6 rfl ?_ | refine ent_take 7 rfl ?_ | refine ent_take 8 rfl ?_ | refine ent_take 9 rfl ?_ | refine ent_take 10 rfl ?_ | refine ent_take 11 rfl ?_ | refine ent_take 12 rfl ?_))⟩
        · refine TC.exit (et (et (eb (nt ?_))))
          refine TC.seq ?_
          refine TC.region ?_
          refine e rfl ?_
          refine cl alive_ok rfl (picked_nil _) trivial ?_
          intro _ _
          change TL _ _ _ _ _ _ _ _ (sepL [_, _, _])
          refine q rfl rfl (asg (v := .bool _) rfl) ?_
          refine TL.nil (nt ?_)
          refine TC.ret ?_
          exact Ret.i () [_] ⟨rfl, trivial⟩ rfl trivial (ent_take 2 rfl (ent_nil _))

end Go.Proofs.Ytffoeolgjgpmjaa
