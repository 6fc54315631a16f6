/-
  Proved here: what functions of this program compute, each as a contract over symbolic states, under the premises that each theorem names (most lines printed by a program of the prover).
-/
import Derived.Test.YtmffldmipddngaaQtF
namespace Go.Proofs.Ytmffldmipddngaa
open Go Go.QM
theorem ints_app1 (xs ys : List Int) : ints xs ++ ints ys = ints (xs ++ ys) := by simp [ints]
theorem setQ_back {L : List Qn} (h : NdQ L) {t : Qn} (ht : t ∈ L) (c : Int) : setQ (setQ L t.id c) t.id t.chg = L := by
  rw [setQ, setQ, List.map_map]
  conv => rhs; rw [← List.map_id L]
  refine List.map_congr_left fun u hu => ?_
  simp only [Function.comp, id]
  by_cases e : u.id = t.id
  · have := h.inj hu ht e
    subst this
    rw [if_pos rfl, if_pos rfl]
  · rw [if_neg e, if_neg e]
theorem charge_cases {L : List Qn} {nxt : Int} (hW : WQ L nxt) (id n : Int) : (∃ e : Int, e ≠ 0 ∧ chargeQ L id n = (L, e)) ∨ ∃ L2, chargeQ L id n = (L2, 0) ∧ refundQ L2 id n = (L, 0) := by
  rw [chargeQ]
  split
  · exact .inl ⟨6, by decide, rfl⟩
  · rename_i h1
    split
    · exact .inl ⟨1, by decide, rfl⟩
    · rename_i h2
      split
      · exact .inl ⟨5, by decide, rfl⟩
      · rename_i h3
        refine .inr ⟨_, rfl, ?_⟩
        obtain ⟨t, ht, rfl⟩ := Decidable.not_not.1 h1
        obtain ⟨e1, e2, e3, e4⟩ := use_yes hW.nd ht
        have hb := hW.big ht
        rw [e1, e2] at h3
        rw [e3]
        have hW2 := hW.set ht (c := t.chg + n) (by omega) (by omega)
        have hm : (⟨t.id, t.par, t.lim, t.chg + n⟩ : Qn) ∈ setQ L t.id (t.chg + n) := setQ_mem.2 ⟨t, ht, by rw [if_pos rfl]⟩
        obtain ⟨_, _, h5, _⟩ := use_yes hW2.nd hm
        have h6 : chgQ (setQ L t.id (t.chg + n)) t.id = t.chg + n := h5
        rw [refundQ, if_neg (fun h => h (setQ_has.2 ⟨t, ht, rfl⟩)), h6, if_neg (by omega), show t.chg + n - n = t.chg by omega, setQ_back hW.nd ht]
theorem carve_cases {L : List Qn} {nxt : Int} (hW : WQ L nxt) (p lim : Int) : (∃ e : Int, e ≠ 0 ∧ carveQ L nxt p lim = (L, nxt, 0, e)) ∨ ∃ L2, carveQ L nxt p lim = (L2, nxt + 1, nxt, 0) ∧ useQ L2 nxt = 0 ∧ closeQ L2 nxt = (L, 0) := by
  have hWc := hW.carve p lim
  rw [carveQ] at hWc ⊢
  split
  · exact .inl ⟨6, by decide, rfl⟩
  · rename_i h1
    rw [if_neg h1] at hWc
    split
    · exact .inl ⟨1, by decide, rfl⟩
    · rename_i h2
      rw [if_neg h2] at hWc
      split
      · exact .inl ⟨5, by decide, rfl⟩
      · rename_i h3
        rw [if_neg h3] at hWc
        split
        · exact .inl ⟨11, by decide, rfl⟩
        · rename_i h4
          rw [if_neg h4] at hWc
          refine .inr ⟨_, rfl, ?_⟩
          obtain ⟨u, hu, rfl⟩ := Decidable.not_not.1 h1
          have hur := hW.rg u hu
          have hm : (⟨nxt, u.id, lim, 0⟩ : Qn) ∈ L ++ [⟨nxt, u.id, lim, 0⟩] := by simp
          obtain ⟨e1, _, _, _⟩ := use_yes hWc.nd hm
          obtain ⟨hz1, hz2⟩ := giv_zero (L := L ++ [⟨nxt, u.id, lim, 0⟩]) (x := nxt) (fun t ht => by
            rcases List.mem_append.1 ht with ht | ht
            · have := hW.par_lt ht; omega
            · rw [List.mem_singleton.1 ht]; dsimp only; omega)
          have e2 : useQ (L ++ [⟨nxt, u.id, lim, 0⟩]) nxt = 0 := by
            have e3 : useQ (L ++ [⟨nxt, u.id, lim, 0⟩]) nxt = 0 + givQ (L ++ [⟨nxt, u.id, lim, 0⟩]) nxt := e1
            rw [e3, hz1]; rfl
          refine ⟨e2, ?_⟩
          rw [closeQ, if_neg (fun h => h ⟨_, hm, rfl⟩), if_neg (by omega), e2, hz2, if_neg (by decide), offQ, List.filter_append, List.filter_eq_self.2, List.filter_cons_of_neg (by simp)]
          · simp
          · intro t ht
            have := hW.rg t ht
            simp only [decide_eq_true_eq]; omega
theorem WQ.ne {L : List Qn} {nxt : Int} (h : WQ L nxt) : 0 < L.length := by
  obtain ⟨t, ht, _⟩ := h.root
  exact List.length_pos_of_mem ht
theorem uses_snoc {L : List Qn} {M : List Qn} {k : Nat} {t : Qn} (h : M[k]? = some t) : (M.take (k + 1)).map (fun u => useQ L u.id) = (M.take k).map (fun u => useQ L u.id) ++ [useQ L t.id] := by
  rw [List.take_add_one, h, Option.toList, List.map_append]; rfl

set_option maxRecDepth 4000 in
set_option maxHeartbeats 2000000 in
theorem back_ok (m : Int) (ad : Option Addr) (l : List QAct) (cap : Nat) (id n : Int) (hm : 0 ≤ m ∧ m ≤ 65535) : FSpec Try.prog 4 [.int .u16 m, .slice ad l.length cap, .int .i64 id, .int .i64 n] (fun F => ∃ E, RdS F E ad (qactsC l)) [] (fun _ : Unit => .bool true) (fun _ => True) (fun _ => []) := by
  refine FSpec.intro (rs := [.tmp 8]) (by kernel_rfl) Try.func4 rfl Try.ntmps4 (by rfl) rfl ?_
  intro F ⟨E, hF⟩
  change TC _ _ _ _ _ _ _ (sepL [_])
  haveI : RdSI F ad E (qactsC l) := ⟨hF⟩
  refine TC.seq ?_
  refine TC.region ?_
  refine q rfl rfl (asg (v := .bool _) rfl) ?_
  refine TL.nil (nt ?_)
  refine TC.seq ?_
  refine TC.seq ?_
  refine TC.region ?_
  refine e rfl ?_
  refine cl alive_ok rfl (picked_nil _) trivial ?_
  intro _ _
  change TL _ _ _ _ _ _ _ _ (sepL [_])
  first | refine q rfl rfl (notD rfl) ?_ | refine q rfl rfl (notB rfl) ?_
  refine TL.nil (nt ?_)
  refine TC.condF rfl ?_
  refine TC.skip (nt ?_)
  refine TC.seq ?_
  refine TC.seq ?_
  refine TC.region ?_
  refine q rfl rfl (mv (v := .slice _ _ _) rfl) ?_
  refine q rfl rfl (len 38 3 rfl rfl) ?_
  refine q rfl rfl (gtr rfl rfl) ?_
  refine TL.nil (nt ?_)
  first | refine TC.condD rfl (fun hb => ?_) (fun hb => ?_) | refine TC.cond rfl (fun hb => ?_) (fun hb => ?_)
  · refine TC.seq ?_
    refine TC.region ?_
    refine q rfl rfl (asg (v := .bool _) rfl) ?_
    refine TL.nil (nt ?_)
    refine TC.ret (rt ?_)
    exact Ret.i () [_] ⟨rfl, trivial⟩ rfl trivial (ent_take 0 rfl (ent_nil _))
  · have hl100 : l.length ≤ 100 := by omega
    have hm2 : 0 ≤ m ∧ m ≤ 1073741824 := by omega
    refine TC.skip (nt ?_)
    refine TC.seq ?_
    refine TC.region ?_
    refine q rfl rfl (mv (v := .int _ _) rfl) ?_
    first | refine q rfl rfl (conv .u16 .i64 rfl rfl rfl (wi64 (by omega) (by omega))) ?_ | refine q rfl rfl (conv .u16 .i64 rfl rfl rfl rfl) ?_
    refine e rfl ?_
    refine cl (qnew_ok m hm2) rfl (picked_nil _) trivial ?_
    intro a _
    change TL _ _ _ _ _ _ _ _ (sepL [_, _])
    refine q rfl rfl (asg (v := .pointer _) rfl) ?_
    refine TL.nil (nt ?_)
    refine TC.seq ?_
    refine TC.seq ?_
    refine TC.region ?_
    refine q rfl rfl (asg (v := .int _ _) rfl) ?_
    refine TL.nil (nt ?_)
    refine TC.block ?_
    refine TC.loop (ι := Nat × List Qn × Int) (fun s => s.1 ≤ l.length ∧ WQ s.2.1 s.2.2 ∧ s.2.2 ≤ (s.1 : Int) + 1) (fun s => [(1, .slice ad l.length cap), (2, .int .i64 id), (3, .int .i64 n), (9, .pointer (some ⟨a, 0, none⟩)), (10, .int .i64 ((s.1 : Nat) : Int))]) (fun s => sepL [isQ a s.2.1 s.2.2, F]) (fun s => l.length - s.1) ⟨0, [⟨0, -1, m, 0⟩], 1⟩ ⟨Nat.zero_le _, WQ.start hm2, Int.le_refl _⟩ ⟨rfl, rfl, rfl, rfl, rfl, trivial⟩ (ent_take 0 rfl (ent_take 0 rfl (ent_nil _))) ?_
    rintro ⟨i, L, nxt⟩ ⟨hi, hW, hnx⟩ ρ0
    dsimp only [updL] at hi hW hnx ⊢
    refine TC.seq ?_
    refine TC.seq ?_
    refine TC.region ?_
    refine q rfl rfl (mv (v := .int _ _) rfl) ?_
    refine q rfl rfl (mv (v := .slice _ _ _) rfl) ?_
    refine q rfl rfl (len 38 3 rfl rfl) ?_
    refine q rfl rfl (lss rfl rfl) ?_
    refine TL.nil (nt ?_)
    first | refine TC.condD rfl (fun hlt => ?_) (fun hlt => ?_) | refine TC.cond rfl (fun hlt => ?_) (fun hlt => ?_)
    · have hlt2 : i < l.length := by omega
      obtain ⟨t, ht⟩ : ∃ t, l[i]? = some t := ⟨l[i], List.getElem?_eq_getElem hlt2⟩
      have hpos : 0 < (qactsC l).length := by rw [qactsC_length]; omega
      have hcx := carve_nx L nxt t.id t.n
      refine TC.skip (nt ?_)
      refine TC.seq ?_
      refine TC.block ?_
      refine TC.seq ?_
      refine TC.region ?_
      refine q rfl rfl (mv (v := .slice _ _ _) rfl) ?_
      refine q rfl rfl (mv (v := .int _ _) rfl) ?_
      first | refine q rfl rfl (ixS 38 3 rfl rfl rfl (by omega) (by first | assumption | (simp [ints_length] <;> omega))) ?_ | refine q rfl rfl (ixJ 38 3 rfl rfl rfl (by omega) (by omega) (by first | assumption | (simp [ints_length] <;> omega))) ?_ | refine q rfl rfl (ix 38 3 rfl rfl rfl (by omega) (by omega) rfl) ?_
      first | refine q rfl rfl (fa 0 rfl rfl) ?_ | refine q rfl rfl (faS 0 rfl rfl (by first | assumption | (simp [ints_length] <;> omega))) ?_
      first | refine q rfl rfl (ld rfl rfl rfl) ?_ | refine q rfl rfl (ldS rfl rfl (flat_ld qactC_sz ht 0 (by omega) rfl)) ?_ | refine q rfl rfl (ldS rfl rfl (flat_ld qactC_sz ht 1 (by omega) rfl)) ?_ | refine q rfl rfl (ldS rfl rfl (flat_ld qactC_sz ht 2 (by omega) rfl)) ?_ | refine q rfl rfl (ldS rfl rfl rfl) ?_
      refine TL.nil (nt ?_)
      refine TC.block ?_
      refine TC.seq ?_
      refine TC.region ?_
      refine q rfl rfl (eqI rfl rfl) ?_
      refine q rfl rfl (asg (v := .bool _) rfl) ?_
      refine TL.nil (nt ?_)
      first | refine TC.condD rfl (fun hk0 => ?_) (fun hk0 => ?_) | refine TC.cond rfl (fun hk0 => ?_) (fun hk0 => ?_)
      · refine TC.draw _ [] [(0, false), (1, false), (2, false), (3, false), (4, false), (5, false), (6, false), (7, false), (8, false), (9, false), (10, false), (11, true)] (by kernel_rfl) (by kernel_rfl) (ent_take 1 rfl (ent_nil _)) ?_
        refine dq rfl rfl rfl (mv (v := .pointer _) rfl) ?_
        refine dq rfl rfl rfl (mv (v := .slice _ _ _) rfl) ?_
        refine dq rfl rfl rfl (mv (v := .int _ _) rfl) ?_
        first | refine dq rfl rfl rfl (ixS 38 3 rfl rfl rfl (by omega) (by first | assumption | (simp [ints_length] <;> omega))) ?_ | refine dq rfl rfl rfl (ixJ 38 3 rfl rfl rfl (by omega) (by omega) (by first | assumption | (simp [ints_length] <;> omega))) ?_ | refine dq rfl rfl rfl (ix 38 3 rfl rfl rfl (by omega) (by omega) rfl) ?_
        first | refine dq rfl rfl rfl (fa 1 rfl rfl) ?_ | refine dq rfl rfl rfl (faS 1 rfl rfl (by first | assumption | (simp [ints_length] <;> omega))) ?_
        first | refine dq rfl rfl rfl (ld rfl rfl rfl) ?_ | refine dq rfl rfl rfl (ldS rfl rfl (flat_ld qactC_sz ht 0 (by omega) rfl)) ?_ | refine dq rfl rfl rfl (ldS rfl rfl (flat_ld qactC_sz ht 1 (by omega) rfl)) ?_ | refine dq rfl rfl rfl (ldS rfl rfl (flat_ld qactC_sz ht 2 (by omega) rfl)) ?_ | refine dq rfl rfl rfl (ldS rfl rfl rfl) ?_
        refine dq rfl rfl rfl (mv (v := .slice _ _ _) rfl) ?_
        refine dq rfl rfl rfl (mv (v := .int _ _) rfl) ?_
        first | refine dq rfl rfl rfl (ixS 38 3 rfl rfl rfl (by omega) (by first | assumption | (simp [ints_length] <;> omega))) ?_ | refine dq rfl rfl rfl (ixJ 38 3 rfl rfl rfl (by omega) (by omega) (by first | assumption | (simp [ints_length] <;> omega))) ?_ | refine dq rfl rfl rfl (ix 38 3 rfl rfl rfl (by omega) (by omega) rfl) ?_
        first | refine dq rfl rfl rfl (fa 2 rfl rfl) ?_ | refine dq rfl rfl rfl (faS 2 rfl rfl (by first | assumption | (simp [ints_length] <;> omega))) ?_
        first | refine dq rfl rfl rfl (ld rfl rfl rfl) ?_ | refine dq rfl rfl rfl (ldS rfl rfl (flat_ld qactC_sz ht 0 (by omega) rfl)) ?_ | refine dq rfl rfl rfl (ldS rfl rfl (flat_ld qactC_sz ht 1 (by omega) rfl)) ?_ | refine dq rfl rfl rfl (ldS rfl rfl (flat_ld qactC_sz ht 2 (by omega) rfl)) ?_ | refine dq rfl rfl rfl (ldS rfl rfl rfl) ?_
        refine de rfl rfl ?_
        refine cl (qcarve_ok a L nxt t.id t.n (by omega)) rfl PkL.p trivial ?_
        intro _ _
        change ent _ _ ∧ TD _ _ _ _ _ _ _ _ _ _ (sepL [_, _])
        refine ⟨(by repeat (first | exact ent_nil _ | refine ent_take 0 rfl ?_ | refine ent_take 1 rfl ?_ | refine ent_take 2 rfl ?_ | refine ent_take 3 rfl ?_ | refine ent_take 4 rfl ?_ | refine ent_take 5 rfl ?_ | refine ent_take 6 rfl ?_ | refine ent_take 7 rfl ?_ | refine ent_take 8 rfl ?_ | refine ent_take 9 rfl ?_ | refine ent_take 10 rfl ?_ | refine ent_take 11 rfl ?_ | refine ent_take 12 rfl ?_)), ?_⟩
        refine TD.nil (nb (nb (nt ?_)))
        refine TC.region ?_
        refine q rfl rfl (mv (v := .int _ _) rfl) ?_
        first | refine q rfl rfl (addI rfl rfl (by omega) (by omega)) ?_ | refine q rfl rfl (add rfl rfl rfl) ?_
        refine q rfl rfl (asg (v := .int _ _) rfl) ?_
        refine TL.nil (nt ?_)
        exact ⟨rfl, ⟨i + 1, (carveQ L nxt t.id t.n).1, (carveQ L nxt t.id t.n).2.1⟩, ⟨by dsimp only; omega, hW.carve t.id t.n, by dsimp only; omega⟩, (by dsimp only; omega), ⟨rfl, rfl, rfl, rfl, rfl, trivial⟩, (by repeat (first | exact ent_nil _ | refine ent_take 0 rfl ?_ | refine ent_take 1 rfl ?_ | refine ent_take 2 rfl ?_ | refine ent_take 3 rfl ?_ | refine ent_take 4 rfl ?_ | refine ent_take 5 rfl ?_ | refine ent_take 6 rfl ?_ | refine ent_take 7 rfl ?_ | refine ent_take 8 rfl ?_ | refine ent_take 9 rfl ?_ | refine ent_take 10 rfl ?_ | refine ent_take 11 rfl ?_ | refine ent_take 12 rfl ?_))⟩
      · refine TC.seq ?_
        refine TC.region ?_
        refine q rfl rfl (eqI rfl rfl) ?_
        refine q rfl rfl (asg (v := .bool _) rfl) ?_
        refine TL.nil (nt ?_)
        first | refine TC.condD rfl (fun hk1 => ?_) (fun hk1 => ?_) | refine TC.cond rfl (fun hk1 => ?_) (fun hk1 => ?_)
        · refine TC.region ?_
          refine q rfl rfl (mv (v := .pointer _) rfl) ?_
          refine q rfl rfl (mv (v := .slice _ _ _) rfl) ?_
          refine q rfl rfl (mv (v := .int _ _) rfl) ?_
          first | refine q rfl rfl (ixS 38 3 rfl rfl rfl (by omega) (by first | assumption | (simp [ints_length] <;> omega))) ?_ | refine q rfl rfl (ixJ 38 3 rfl rfl rfl (by omega) (by omega) (by first | assumption | (simp [ints_length] <;> omega))) ?_ | refine q rfl rfl (ix 38 3 rfl rfl rfl (by omega) (by omega) rfl) ?_
          first | refine q rfl rfl (fa 1 rfl rfl) ?_ | refine q rfl rfl (faS 1 rfl rfl (by first | assumption | (simp [ints_length] <;> omega))) ?_
          first | refine q rfl rfl (ld rfl rfl rfl) ?_ | refine q rfl rfl (ldS rfl rfl (flat_ld qactC_sz ht 0 (by omega) rfl)) ?_ | refine q rfl rfl (ldS rfl rfl (flat_ld qactC_sz ht 1 (by omega) rfl)) ?_ | refine q rfl rfl (ldS rfl rfl (flat_ld qactC_sz ht 2 (by omega) rfl)) ?_ | refine q rfl rfl (ldS rfl rfl rfl) ?_
          refine e rfl ?_
          refine cl (qclose_ok a L nxt t.id) rfl PkL.p trivial ?_
          intro _ _
          change TL _ _ _ _ _ _ _ _ (sepL [_, _])
          refine TL.nil (nb (nb (nt ?_)))
          refine TC.region ?_
          refine q rfl rfl (mv (v := .int _ _) rfl) ?_
          first | refine q rfl rfl (addI rfl rfl (by omega) (by omega)) ?_ | refine q rfl rfl (add rfl rfl rfl) ?_
          refine q rfl rfl (asg (v := .int _ _) rfl) ?_
          refine TL.nil (nt ?_)
          exact ⟨rfl, ⟨i + 1, (closeQ L t.id).1, nxt⟩, ⟨by dsimp only; omega, hW.close t.id, by dsimp only; omega⟩, (by dsimp only; omega), ⟨rfl, rfl, rfl, rfl, rfl, trivial⟩, (by repeat (first | exact ent_nil _ | refine ent_take 0 rfl ?_ | refine ent_take 1 rfl ?_ | refine ent_take 2 rfl ?_ | refine ent_take 3 rfl ?_ | refine ent_take 4 rfl ?_ | refine ent_take 5 rfl ?_ | refine ent_take 6 rfl ?_ | refine ent_take 7 rfl ?_ | refine ent_take 8 rfl ?_ | refine ent_take 9 rfl ?_ | refine ent_take 10 rfl ?_ | refine ent_take 11 rfl ?_ | refine ent_take 12 rfl ?_))⟩
        · refine TC.seq ?_
          refine TC.region ?_
          refine q rfl rfl (eqI rfl rfl) ?_
          refine q rfl rfl (asg (v := .bool _) rfl) ?_
          refine TL.nil (nt ?_)
          first | refine TC.condD rfl (fun hk2 => ?_) (fun hk2 => ?_) | refine TC.cond rfl (fun hk2 => ?_) (fun hk2 => ?_)
          · refine TC.draw _ [] [(0, false), (1, false), (2, false), (3, false), (4, false), (5, false), (6, false), (7, false), (8, false), (9, false), (10, false), (11, true)] (by kernel_rfl) (by kernel_rfl) (ent_take 1 rfl (ent_nil _)) ?_
            refine dq rfl rfl rfl (mv (v := .pointer _) rfl) ?_
            refine dq rfl rfl rfl (mv (v := .slice _ _ _) rfl) ?_
            refine dq rfl rfl rfl (mv (v := .int _ _) rfl) ?_
            first | refine dq rfl rfl rfl (ixS 38 3 rfl rfl rfl (by omega) (by first | assumption | (simp [ints_length] <;> omega))) ?_ | refine dq rfl rfl rfl (ixJ 38 3 rfl rfl rfl (by omega) (by omega) (by first | assumption | (simp [ints_length] <;> omega))) ?_ | refine dq rfl rfl rfl (ix 38 3 rfl rfl rfl (by omega) (by omega) rfl) ?_
            first | refine dq rfl rfl rfl (fa 1 rfl rfl) ?_ | refine dq rfl rfl rfl (faS 1 rfl rfl (by first | assumption | (simp [ints_length] <;> omega))) ?_
            first | refine dq rfl rfl rfl (ld rfl rfl rfl) ?_ | refine dq rfl rfl rfl (ldS rfl rfl (flat_ld qactC_sz ht 0 (by omega) rfl)) ?_ | refine dq rfl rfl rfl (ldS rfl rfl (flat_ld qactC_sz ht 1 (by omega) rfl)) ?_ | refine dq rfl rfl rfl (ldS rfl rfl (flat_ld qactC_sz ht 2 (by omega) rfl)) ?_ | refine dq rfl rfl rfl (ldS rfl rfl rfl) ?_
            refine dq rfl rfl rfl (mv (v := .slice _ _ _) rfl) ?_
            refine dq rfl rfl rfl (mv (v := .int _ _) rfl) ?_
            first | refine dq rfl rfl rfl (ixS 38 3 rfl rfl rfl (by omega) (by first | assumption | (simp [ints_length] <;> omega))) ?_ | refine dq rfl rfl rfl (ixJ 38 3 rfl rfl rfl (by omega) (by omega) (by first | assumption | (simp [ints_length] <;> omega))) ?_ | refine dq rfl rfl rfl (ix 38 3 rfl rfl rfl (by omega) (by omega) rfl) ?_
            first | refine dq rfl rfl rfl (fa 2 rfl rfl) ?_ | refine dq rfl rfl rfl (faS 2 rfl rfl (by first | assumption | (simp [ints_length] <;> omega))) ?_
            first | refine dq rfl rfl rfl (ld rfl rfl rfl) ?_ | refine dq rfl rfl rfl (ldS rfl rfl (flat_ld qactC_sz ht 0 (by omega) rfl)) ?_ | refine dq rfl rfl rfl (ldS rfl rfl (flat_ld qactC_sz ht 1 (by omega) rfl)) ?_ | refine dq rfl rfl rfl (ldS rfl rfl (flat_ld qactC_sz ht 2 (by omega) rfl)) ?_ | refine dq rfl rfl rfl (ldS rfl rfl rfl) ?_
            refine de rfl rfl ?_
            refine cl (qcharge_ok a L nxt t.id t.n) rfl PkL.p trivial ?_
            intro _ _
            change ent _ _ ∧ TD _ _ _ _ _ _ _ _ _ _ (sepL [_, _])
            refine ⟨(by repeat (first | exact ent_nil _ | refine ent_take 0 rfl ?_ | refine ent_take 1 rfl ?_ | refine ent_take 2 rfl ?_ | refine ent_take 3 rfl ?_ | refine ent_take 4 rfl ?_ | refine ent_take 5 rfl ?_ | refine ent_take 6 rfl ?_ | refine ent_take 7 rfl ?_ | refine ent_take 8 rfl ?_ | refine ent_take 9 rfl ?_ | refine ent_take 10 rfl ?_ | refine ent_take 11 rfl ?_ | refine ent_take 12 rfl ?_)), ?_⟩
            refine TD.nil (nb (nb (nt ?_)))
            refine TC.region ?_
            refine q rfl rfl (mv (v := .int _ _) rfl) ?_
            first | refine q rfl rfl (addI rfl rfl (by omega) (by omega)) ?_ | refine q rfl rfl (add rfl rfl rfl) ?_
            refine q rfl rfl (asg (v := .int _ _) rfl) ?_
            refine TL.nil (nt ?_)
            exact ⟨rfl, ⟨i + 1, (chargeQ L t.id t.n).1, nxt⟩, ⟨by dsimp only; omega, hW.charge t.id t.n, by dsimp only; omega⟩, (by dsimp only; omega), ⟨rfl, rfl, rfl, rfl, rfl, trivial⟩, (by repeat (first | exact ent_nil _ | refine ent_take 0 rfl ?_ | refine ent_take 1 rfl ?_ | refine ent_take 2 rfl ?_ | refine ent_take 3 rfl ?_ | refine ent_take 4 rfl ?_ | refine ent_take 5 rfl ?_ | refine ent_take 6 rfl ?_ | refine ent_take 7 rfl ?_ | refine ent_take 8 rfl ?_ | refine ent_take 9 rfl ?_ | refine ent_take 10 rfl ?_ | refine ent_take 11 rfl ?_ | refine ent_take 12 rfl ?_))⟩
          · refine TC.skip (nb (nb (nt ?_)))
            refine TC.region ?_
            refine q rfl rfl (mv (v := .int _ _) rfl) ?_
            first | refine q rfl rfl (addI rfl rfl (by omega) (by omega)) ?_ | refine q rfl rfl (add rfl rfl rfl) ?_
            refine q rfl rfl (asg (v := .int _ _) rfl) ?_
            refine TL.nil (nt ?_)
            exact ⟨rfl, ⟨i + 1, L, nxt⟩, ⟨by dsimp only; omega, hW, by dsimp only; omega⟩, (by dsimp only; omega), ⟨rfl, rfl, rfl, rfl, rfl, trivial⟩, (by repeat (first | exact ent_nil _ | refine ent_take 0 rfl ?_ | refine ent_take 1 rfl ?_ | refine ent_take 2 rfl ?_ | refine ent_take 3 rfl ?_ | refine ent_take 4 rfl ?_ | refine ent_take 5 rfl ?_ | refine ent_take 6 rfl ?_ | refine ent_take 7 rfl ?_ | refine ent_take 8 rfl ?_ | refine ent_take 9 rfl ?_ | refine ent_take 10 rfl ?_ | refine ent_take 11 rfl ?_ | refine ent_take 12 rfl ?_))⟩
    · refine TC.exit (et (et (eb (nt ?_))))
      refine TC.seq ?_
      refine TC.region ?_
      refine q rfl rfl (mv (v := .pointer _) rfl) ?_
      refine e rfl ?_
      refine cl (qids_ok a L nxt) rfl PkL.p trivial ?_
      intro y1 _
      change TL _ _ _ _ _ _ _ _ (sepL [_, _, _])
      have hIl : (L.map (·.id)).length = L.length := List.length_map _
      have hil := ints_length (L.map (·.id))
      have hL32 := hW.len
      have hne := hW.ne
      have hul : (L.map (fun u => useQ L u.id)).length = L.length := List.length_map _
      have hua := ints_length (L.map (fun u => useQ L u.id))
      refine q rfl rfl (asg (v := .slice _ _ _) rfl) ?_
      refine TL.nil (nt ?_)
      refine TC.seq ?_
      refine TC.region ?_
      refine q rfl rfl (asg (v := .slice _ _ _) rfl) ?_
      refine TL.nil (nt ?_)
      refine TC.seq ?_
      refine TC.seq ?_
      refine TC.region ?_
      refine q rfl rfl (asg (v := .int _ _) rfl) ?_
      refine TL.nil (nt ?_)
      refine TC.block ?_
      refine TC.loop (ι := Nat × (Option Addr × Nat)) (fun s => s.1 ≤ L.length) (fun s => [(2, .int .i64 id), (3, .int .i64 n), (9, .pointer (some ⟨a, 0, none⟩)), (11, .slice y1.1 (L.map (·.id)).length y1.2), (12, .slice s.2.1 ((L.take s.1).map (fun u => useQ L u.id)).length s.2.2), (13, .int .i64 ((s.1 : Nat) : Int))]) (fun s => sepL [slc 3 1 s.2.1 ((L.take s.1).map (fun u => useQ L u.id)).length s.2.2 (ints ((L.take s.1).map (fun u => useQ L u.id))), slc 3 1 y1.1 (L.map (·.id)).length y1.2 (ints (L.map (·.id))), isQ a L nxt, F]) (fun s => L.length - s.1) ⟨0, (none, 0)⟩ (Nat.zero_le _) ⟨rfl, rfl, rfl, rfl, rfl, rfl, trivial⟩ ((slc_nil 3 1 _).trans (ent_take 0 rfl (ent_take 0 rfl (ent_take 0 rfl (ent_take 0 rfl (ent_nil _)))))) ?_
      rintro ⟨k, ⟨oa, oc⟩⟩ hk ρ1
      dsimp only [updL] at hk ⊢
      refine TC.seq ?_
      refine TC.seq ?_
      refine TC.region ?_
      refine q rfl rfl (mv (v := .int _ _) rfl) ?_
      refine q rfl rfl (mv (v := .slice _ _ _) rfl) ?_
      refine q rfl rfl (len 3 1 rfl rfl) ?_
      refine q rfl rfl (lss rfl rfl) ?_
      refine TL.nil (nt ?_)
      first | refine TC.condD rfl (fun hlk => ?_) (fun hlk => ?_) | refine TC.cond rfl (fun hlk => ?_) (fun hlk => ?_)
      · have hlk2 : k < L.length := by omega
        obtain ⟨u, hu⟩ : ∃ u, L[k]? = some u := ⟨L[k], List.getElem?_eq_getElem hlk2⟩
        have hpos2 : 0 < (ints (L.map (·.id))).length := by omega
        have hug := ids_get hu
        have hsn := uses_snoc (L := L) hu
        have hkl : ((L.take k).map (fun u => useQ L u.id)).length = k := by rw [List.length_map, List.length_take]; omega
        have hil2 := ints_length ((L.take k).map (fun u => useQ L u.id))
        refine TC.skip (nt ?_)
        refine TC.seq ?_
        refine TC.block ?_
        refine TC.region ?_
        refine q rfl rfl (mv (v := .slice _ _ _) rfl) ?_
        refine q rfl rfl (mv (v := .pointer _) rfl) ?_
        refine q rfl rfl (mv (v := .slice _ _ _) rfl) ?_
        refine q rfl rfl (mv (v := .int _ _) rfl) ?_
        first | refine q rfl rfl (ixS 3 1 rfl rfl rfl (by omega) (by first | assumption | (simp [ints_length] <;> omega))) ?_ | refine q rfl rfl (ixJ 3 1 rfl rfl rfl (by omega) (by omega) (by first | assumption | (simp [ints_length] <;> omega))) ?_ | refine q rfl rfl (ix 3 1 rfl rfl rfl (by omega) (by omega) rfl) ?_
        first | refine q rfl rfl (ld rfl rfl rfl) ?_ | refine q rfl rfl (ldS rfl rfl (ints_get hug)) ?_ | refine q rfl rfl (ldS rfl rfl rfl) ?_
        refine e rfl ?_
        refine cl (quses_ok a L nxt u.id) rfl PkL.p trivial ?_
        intro _ _
        change TL _ _ _ _ _ _ _ _ (sepL [_, _, _, _])
        refine e rfl ?_
        refine bs (cs := [.int _ _]) rfl ?_
        intro b1
        refine e rfl ?_
        refine ap 8 rfl rfl rfl rfl rfl (Nat.le_of_ble_eq_true rfl) (show _ = ints [useQ L u.id] from rfl) rfl (by omega) (by simp only [maxLen]; omega) ?_
        intro ad1 cap1
        refine q rfl rfl (asg (v := .slice _ _ _) rfl) ?_
        refine TL.nil (nb (nt ?_))
        refine TC.region ?_
        refine q rfl rfl (mv (v := .int _ _) rfl) ?_
        first | refine q rfl rfl (addI rfl rfl (by omega) (by omega)) ?_ | refine q rfl rfl (add rfl rfl rfl) ?_
        refine q rfl rfl (asg (v := .int _ _) rfl) ?_
        refine TL.nil (nt ?_)
        exact ⟨rfl, ⟨k + 1, (ad1, cap1)⟩, (by dsimp only; omega), (by dsimp only; omega), ⟨rfl, rfl, rfl, rfl, congrArg (fun n => Value.slice _ n _) (by dsimp only; rw [hsn, List.length_append]; rfl), rfl, trivial⟩, (ent_takeE 0 rfl (by dsimp only; rw [hsn, List.length_append, ints_app1]; rfl) (by repeat (first | exact ent_nil _ | refine ent_take 0 rfl ?_ | refine ent_take 1 rfl ?_ | refine ent_take 2 rfl ?_ | refine ent_take 3 rfl ?_ | refine ent_take 4 rfl ?_ | refine ent_take 5 rfl ?_ | refine ent_take 6 rfl ?_ | refine ent_take 7 rfl ?_ | refine ent_take 8 rfl ?_ | refine ent_take 9 rfl ?_ | refine ent_take 10 rfl ?_ | refine ent_take 11 rfl ?_ | refine ent_take 12 rfl ?_)))⟩
      · obtain rfl : k = L.length := by omega
        rw [List.take_length]
        refine TC.exit (et (et (eb (nt ?_))))
        refine TC.seq ?_
        refine TC.seq ?_
        refine TC.region ?_
        refine q rfl rfl (mv (v := .pointer _) rfl) ?_
        refine q rfl rfl (mv (v := .int _ _) rfl) ?_
        refine q rfl rfl (mv (v := .int _ _) rfl) ?_
        refine e rfl ?_
        refine cl (qcharge_ok a L nxt id n) rfl PkL.p trivial ?_
        intro _ _
        change TL _ _ _ _ _ _ _ _ (sepL [_, _, _, _])
        rcases charge_cases hW id n with ⟨e1, he, hv⟩ | ⟨L2, hv, hv2⟩
        · rw [hv]
          dsimp only
          refine q rfl rfl (eqI rfl rfl) ?_
          refine q rfl rfl (mv (v := .bool _) rfl) ?_
          refine TL.known 96 rfl (c := false) (decide_eq_false he) ?_
          refine qs rfl rfl ?_
          refine qs rfl rfl ?_
          refine qs rfl rfl ?_
          refine qs rfl rfl ?_
          refine qs rfl rfl ?_
          first | refine q rfl rfl (pkT (v := .bool _) rfl rfl) ?_ | refine q rfl rfl (pkF (v := .bool _) rfl rfl) ?_
          refine TL.nil (nt ?_)
          refine TC.condF rfl ?_
          refine TC.skip (nt ?_)
          refine TC.seq ?_
          refine TC.region ?_
          refine q rfl rfl (mv (v := .pointer _) rfl) ?_
          refine q rfl rfl (mv (v := .int _ _) rfl) ?_
          refine q rfl rfl (mv (v := .int _ _) rfl) ?_
          refine e rfl ?_
          refine cl (qcarve_ok a L nxt id n (by omega)) rfl PkL.p trivial ?_
          intro _ _
          change TL _ _ _ _ _ _ _ _ (sepL [_, _, _, _])
          rcases carve_cases hW id n with ⟨e2, he2, hc⟩ | ⟨L3, hc, hc2, hc3⟩
          · rw [hc]
            dsimp only
            refine q rfl rfl (mv (v := .tuple _) rfl) ?_
            refine q rfl rfl (pu (v := .int _ _) (fun _ => rfl)) ?_
            refine q rfl rfl (pu (v := .int _ _) (fun _ => rfl)) ?_
            refine q rfl rfl (asg (v := .int _ _) rfl) ?_
            refine q rfl rfl (asg (v := .int _ _) rfl) ?_
            refine TL.nil (nt ?_)
            refine TC.seq ?_
            refine TC.seq ?_
            refine TC.region ?_
            refine q rfl rfl (mv (v := .int _ _) rfl) ?_
            refine q rfl rfl (eqI rfl rfl) ?_
            refine q rfl rfl (mv (v := .bool _) rfl) ?_
            refine TL.known 112 rfl (c := false) (decide_eq_false he2) ?_
            refine qs rfl rfl ?_
            refine qs rfl rfl ?_
            refine qs rfl rfl ?_
            refine qs rfl rfl ?_
            refine qs rfl rfl ?_
            refine qsu rfl rfl ?_
            refine qsu rfl rfl ?_
            refine qsu rfl rfl ?_
            refine qsu rfl rfl ?_
            refine qs rfl rfl ?_
            first | refine q rfl rfl (pkT (v := .bool _) rfl rfl) ?_ | refine q rfl rfl (pkF (v := .bool _) rfl rfl) ?_
            refine TL.nil (nt ?_)
            refine TC.condF rfl ?_
            refine TC.skip (nt ?_)
            refine TC.seq ?_
            refine TC.region ?_
            refine q rfl rfl (mv (v := .pointer _) rfl) ?_
            refine e rfl ?_
            refine cl (qids_ok a L (nxt)) rfl PkL.p trivial ?_
            intro y2 _
            change TL _ _ _ _ _ _ _ _ (sepL [_, _, _, _, _])
            refine q rfl rfl (asg (v := .slice _ _ _) rfl) ?_
            refine TL.nil (nt ?_)
            refine TC.seq ?_
            refine TC.seq ?_
            refine TC.region ?_
            refine q rfl rfl (mv (v := .slice _ _ _) rfl) ?_
            refine q rfl rfl (len 3 1 rfl rfl) ?_
            refine q rfl rfl (mv (v := .slice _ _ _) rfl) ?_
            refine q rfl rfl (len 3 1 rfl rfl) ?_
            refine q rfl rfl (neI rfl rfl) ?_
            refine TL.nil (nt ?_)
            refine TC.condD rfl (fun hc1 => absurd hc1 (by simp)) (fun hc1 => ?_)
            refine TC.skip (nt ?_)
            refine TC.seq ?_
            refine TC.seq ?_
            refine TC.region ?_
            refine q rfl rfl (asg (v := .int _ _) rfl) ?_
            refine TL.nil (nt ?_)
            refine TC.block ?_
            refine TC.loop (ι := Nat) (fun k => k ≤ L.length) (fun k => [(9, .pointer (some ⟨a, 0, none⟩)), (11, .slice y1.1 (L.map (·.id)).length y1.2), (12, .slice oa (L.map (fun u => useQ L u.id)).length oc), (16, .slice y2.1 (L.map (·.id)).length y2.2), (17, .int .i64 ((k : Nat) : Int))]) (fun k => sepL [slc 3 1 y2.1 (L.map (·.id)).length y2.2 (ints (L.map (·.id))), slc 3 1 oa (L.map (fun u => useQ L u.id)).length oc (ints (L.map (fun u => useQ L u.id))), slc 3 1 y1.1 (L.map (·.id)).length y1.2 (ints (L.map (·.id))), isQ a L (nxt), F]) (fun k => L.length - k) 0 (Nat.zero_le _) ⟨rfl, rfl, rfl, rfl, rfl, trivial⟩ (by repeat (first | exact ent_nil _ | refine ent_take 0 rfl ?_ | refine ent_take 1 rfl ?_ | refine ent_take 2 rfl ?_ | refine ent_take 3 rfl ?_ | refine ent_take 4 rfl ?_ | refine ent_take 5 rfl ?_ | refine ent_take 6 rfl ?_ | refine ent_take 7 rfl ?_ | refine ent_take 8 rfl ?_ | refine ent_take 9 rfl ?_ | refine ent_take 10 rfl ?_ | refine ent_take 11 rfl ?_ | refine ent_take 12 rfl ?_)) ?_
            rintro k hk ρ2
            dsimp only [updL] at hk ⊢
            refine TC.seq ?_
            refine TC.seq ?_
            refine TC.region ?_
            refine q rfl rfl (mv (v := .int _ _) rfl) ?_
            refine q rfl rfl (mv (v := .slice _ _ _) rfl) ?_
            refine q rfl rfl (len 3 1 rfl rfl) ?_
            refine q rfl rfl (lss rfl rfl) ?_
            refine TL.nil (nt ?_)
            first | refine TC.condD rfl (fun hlk2 => ?_) (fun hlk2 => ?_) | refine TC.cond rfl (fun hlk2 => ?_) (fun hlk2 => ?_)
            · have hlk3 : k < L.length := by omega
              obtain ⟨u, hu⟩ : ∃ u, L[k]? = some u := ⟨L[k], List.getElem?_eq_getElem hlk3⟩
              have hpos2 : 0 < (ints (L.map (·.id))).length := by omega
              have hpos3 : 0 < (ints (L.map (fun u => useQ L u.id))).length := by omega
              have hug := ids_get hu
              have huu : (L.map (fun u => useQ L u.id))[k]? = some (useQ L u.id) := by rw [List.getElem?_map, hu]; rfl
              refine TC.skip (nt ?_)
              refine TC.seq ?_
              refine TC.block ?_
              refine TC.seq ?_
              refine TC.draw _ [] [(0, false), (1, false), (2, false), (3, false), (4, false), (5, false), (6, false), (7, false), (8, false), (9, false), (10, false), (11, false), (12, false), (13, false), (14, false), (16, false), (17, false), (18, false), (19, false), (15, true), (20, false), (21, false)] (by kernel_rfl) (by kernel_rfl) (ent_take 0 rfl (ent_take 0 rfl (ent_take 0 rfl (ent_nil _)))) ?_
              refine dq rfl rfl rfl (mv (v := .slice _ _ _) rfl) ?_
              refine dq rfl rfl rfl (mv (v := .int _ _) rfl) ?_
              first | refine dq rfl rfl rfl (ixS 3 1 rfl rfl rfl (by omega) (by first | assumption | (simp [ints_length] <;> omega))) ?_ | refine dq rfl rfl rfl (ixJ 3 1 rfl rfl rfl (by omega) (by omega) (by first | assumption | (simp [ints_length] <;> omega))) ?_ | refine dq rfl rfl rfl (ix 3 1 rfl rfl rfl (by omega) (by omega) rfl) ?_
              first | refine dq rfl rfl rfl (ld rfl rfl rfl) ?_ | refine dq rfl rfl rfl (ldS rfl rfl (ints_get hug)) ?_ | refine dq rfl rfl rfl (ldS rfl rfl (ints_get huu)) ?_ | refine dq rfl rfl rfl (ldS rfl rfl rfl) ?_
              refine dq rfl rfl rfl (mv (v := .slice _ _ _) rfl) ?_
              refine dq rfl rfl rfl (mv (v := .int _ _) rfl) ?_
              first | refine dq rfl rfl rfl (ixS 3 1 rfl rfl rfl (by omega) (by first | assumption | (simp [ints_length] <;> omega))) ?_ | refine dq rfl rfl rfl (ixJ 3 1 rfl rfl rfl (by omega) (by omega) (by first | assumption | (simp [ints_length] <;> omega))) ?_ | refine dq rfl rfl rfl (ix 3 1 rfl rfl rfl (by omega) (by omega) rfl) ?_
              first | refine dq rfl rfl rfl (ld rfl rfl rfl) ?_ | refine dq rfl rfl rfl (ldS rfl rfl (ints_get hug)) ?_ | refine dq rfl rfl rfl (ldS rfl rfl (ints_get huu)) ?_ | refine dq rfl rfl rfl (ldS rfl rfl rfl) ?_
              refine dq rfl rfl rfl (neI rfl rfl) ?_
              refine dq rfl rfl rfl (mv (v := .bool _) rfl) ?_
              refine TD.known 146 rfl (b' := false) (decide_eq_false (by simp)) ?_
              refine dg rfl rfl rfl rfl (mv (v := .pointer _) rfl) ?_
              refine dg rfl rfl rfl rfl (mv (v := .slice _ _ _) rfl) ?_
              refine dg rfl rfl rfl rfl (mv (v := .int _ _) rfl) ?_
              first | refine dg rfl rfl rfl rfl (ixS 3 1 rfl rfl rfl (by omega) (by first | assumption | (simp [ints_length] <;> omega))) ?_ | refine dg rfl rfl rfl rfl (ixJ 3 1 rfl rfl rfl (by omega) (by omega) (by first | assumption | (simp [ints_length] <;> omega))) ?_ | refine dg rfl rfl rfl rfl (ix 3 1 rfl rfl rfl (by omega) (by omega) rfl) ?_
              first | refine dg rfl rfl rfl rfl (ld rfl rfl rfl) ?_ | refine dg rfl rfl rfl rfl (ldS rfl rfl (ints_get hug)) ?_ | refine dg rfl rfl rfl rfl (ldS rfl rfl (ints_get huu)) ?_ | refine dg rfl rfl rfl rfl (ldS rfl rfl rfl) ?_
              refine dg rfl rfl rfl rfl (mv (v := .slice _ _ _) rfl) ?_
              refine dg rfl rfl rfl rfl (mv (v := .int _ _) rfl) ?_
              first | refine dg rfl rfl rfl rfl (ixS 3 1 rfl rfl rfl (by omega) (by first | assumption | (simp [ints_length] <;> omega))) ?_ | refine dg rfl rfl rfl rfl (ixJ 3 1 rfl rfl rfl (by omega) (by omega) (by first | assumption | (simp [ints_length] <;> omega))) ?_ | refine dg rfl rfl rfl rfl (ix 3 1 rfl rfl rfl (by omega) (by omega) rfl) ?_
              first | refine dg rfl rfl rfl rfl (ld rfl rfl rfl) ?_ | refine dg rfl rfl rfl rfl (ldS rfl rfl (ints_get hug)) ?_ | refine dg rfl rfl rfl rfl (ldS rfl rfl (ints_get huu)) ?_ | refine dg rfl rfl rfl rfl (ldS rfl rfl rfl) ?_
              refine deg rfl rfl rfl ?_
              refine cl (quses_ok a L (nxt) u.id) rfl PkL.p trivial ?_
              intro _ _
              change ent _ _ ∧ TD _ _ _ _ _ _ _ _ _ _ (sepL [_, _, _, _, _])
              refine ⟨(by repeat (first | exact ent_nil _ | refine ent_take 0 rfl ?_ | refine ent_take 1 rfl ?_ | refine ent_take 2 rfl ?_ | refine ent_take 3 rfl ?_ | refine ent_take 4 rfl ?_ | refine ent_take 5 rfl ?_ | refine ent_take 6 rfl ?_ | refine ent_take 7 rfl ?_ | refine ent_take 8 rfl ?_ | refine ent_take 9 rfl ?_ | refine ent_take 10 rfl ?_ | refine ent_take 11 rfl ?_ | refine ent_take 12 rfl ?_)), ?_⟩
              refine dg rfl rfl rfl rfl (neI rfl rfl) ?_
              first | refine dq rfl rfl rfl (pkT (v := .bool _) rfl rfl) ?_ | refine dq rfl rfl rfl (pkF (v := .bool _) rfl rfl) ?_
              refine TD.nil (nt ?_)
              refine TC.condD rfl (fun hc2 => absurd hc2 (by simp)) (fun hc2 => ?_)
              refine TC.skip (nb (nt ?_))
              refine TC.region ?_
              refine q rfl rfl (mv (v := .int _ _) rfl) ?_
              first | refine q rfl rfl (addI rfl rfl (by omega) (by omega)) ?_ | refine q rfl rfl (add rfl rfl rfl) ?_
              refine q rfl rfl (asg (v := .int _ _) rfl) ?_
              refine TL.nil (nt ?_)
              exact ⟨rfl, (k + 1), (by omega), (by omega), ⟨rfl, rfl, rfl, rfl, rfl, trivial⟩, (by repeat (first | exact ent_nil _ | refine ent_take 0 rfl ?_ | refine ent_take 1 rfl ?_ | refine ent_take 2 rfl ?_ | refine ent_take 3 rfl ?_ | refine ent_take 4 rfl ?_ | refine ent_take 5 rfl ?_ | refine ent_take 6 rfl ?_ | refine ent_take 7 rfl ?_ | refine ent_take 8 rfl ?_ | refine ent_take 9 rfl ?_ | refine ent_take 10 rfl ?_ | refine ent_take 11 rfl ?_ | refine ent_take 12 rfl ?_))⟩
            · refine TC.exit (et (et (eb (nt ?_))))
              refine TC.seq ?_
              refine TC.region ?_
              refine q rfl rfl (mv (v := .slice _ _ _) rfl) ?_
              refine q rfl rfl (len 3 1 rfl rfl) ?_
              refine q rfl rfl (gtr rfl rfl) ?_
              rw [decide_eq_true (show (0 : Int) < ((L.map (·.id)).length : Int) by omega)]
              refine q rfl rfl (asg (v := .bool _) rfl) ?_
              refine TL.nil (nt ?_)
              refine TC.ret ?_
              exact Ret.i () [_] ⟨rfl, trivial⟩ rfl trivial (ent_take 4 rfl (ent_nil _))
          · rw [hc]
            dsimp only
            refine q rfl rfl (mv (v := .tuple _) rfl) ?_
            refine q rfl rfl (pu (v := .int _ _) (fun _ => rfl)) ?_
            refine q rfl rfl (pu (v := .int _ _) (fun _ => rfl)) ?_
            refine q rfl rfl (asg (v := .int _ _) rfl) ?_
            refine q rfl rfl (asg (v := .int _ _) rfl) ?_
            refine TL.nil (nt ?_)
            refine TC.seq ?_
            refine TC.seq ?_
            refine TC.region ?_
            refine q rfl rfl (mv (v := .int _ _) rfl) ?_
            refine q rfl rfl (eqI rfl rfl) ?_
            refine q rfl rfl (mv (v := .bool _) rfl) ?_
            refine TL.known 112 rfl (c := true) (by decide) ?_
            refine qg rfl rfl rfl (mv (v := .pointer _) rfl) ?_
            refine qg rfl rfl rfl (mv (v := .int _ _) rfl) ?_
            refine eg rfl rfl ?_
            refine cl (quses_ok a L3 (nxt + 1) nxt) rfl PkL.p trivial ?_
            intro _ _
            change TL _ _ _ _ _ _ _ _ (sepL [_, _, _, _])
            rw [hc2]
            refine qg rfl rfl rfl (neI rfl rfl) ?_
            refine qg rfl rfl rfl (mv (v := .bool _) rfl) ?_
            refine TL.known 117 rfl (c := false) (by decide) ?_
            refine qg rfl rfl rfl (mv (v := .pointer _) rfl) ?_
            refine qg rfl rfl rfl (mv (v := .int _ _) rfl) ?_
            refine eg rfl rfl ?_
            refine cl (qclose_ok a L3 (nxt + 1) nxt) rfl PkL.p trivial ?_
            intro _ _
            change TL _ _ _ _ _ _ _ _ (sepL [_, _, _, _])
            rw [hc3]
            dsimp only
            refine qg rfl rfl rfl (neI rfl rfl) ?_
            first | refine qg rfl rfl rfl (pkT (v := .bool _) rfl rfl) ?_ | refine qg rfl rfl rfl (pkF (v := .bool _) rfl rfl) ?_
            first | refine q rfl rfl (pkT (v := .bool _) rfl rfl) ?_ | refine q rfl rfl (pkF (v := .bool _) rfl rfl) ?_
            refine TL.nil (nt ?_)
            refine TC.condD rfl (fun hc3 => absurd hc3 (by decide)) (fun hc3 => ?_)
            refine TC.skip (nt ?_)
            refine TC.seq ?_
            refine TC.region ?_
            refine q rfl rfl (mv (v := .pointer _) rfl) ?_
            refine e rfl ?_
            refine cl (qids_ok a L (nxt + 1)) rfl PkL.p trivial ?_
            intro y2 _
            change TL _ _ _ _ _ _ _ _ (sepL [_, _, _, _, _])
            refine q rfl rfl (asg (v := .slice _ _ _) rfl) ?_
            refine TL.nil (nt ?_)
            refine TC.seq ?_
            refine TC.seq ?_
            refine TC.region ?_
            refine q rfl rfl (mv (v := .slice _ _ _) rfl) ?_
            refine q rfl rfl (len 3 1 rfl rfl) ?_
            refine q rfl rfl (mv (v := .slice _ _ _) rfl) ?_
            refine q rfl rfl (len 3 1 rfl rfl) ?_
            refine q rfl rfl (neI rfl rfl) ?_
            refine TL.nil (nt ?_)
            refine TC.condD rfl (fun hc4 => absurd hc4 (by simp)) (fun hc4 => ?_)
            refine TC.skip (nt ?_)
            refine TC.seq ?_
            refine TC.seq ?_
            refine TC.region ?_
            refine q rfl rfl (asg (v := .int _ _) rfl) ?_
            refine TL.nil (nt ?_)
            refine TC.block ?_
            refine TC.loop (ι := Nat) (fun k => k ≤ L.length) (fun k => [(9, .pointer (some ⟨a, 0, none⟩)), (11, .slice y1.1 (L.map (·.id)).length y1.2), (12, .slice oa (L.map (fun u => useQ L u.id)).length oc), (16, .slice y2.1 (L.map (·.id)).length y2.2), (17, .int .i64 ((k : Nat) : Int))]) (fun k => sepL [slc 3 1 y2.1 (L.map (·.id)).length y2.2 (ints (L.map (·.id))), slc 3 1 oa (L.map (fun u => useQ L u.id)).length oc (ints (L.map (fun u => useQ L u.id))), slc 3 1 y1.1 (L.map (·.id)).length y1.2 (ints (L.map (·.id))), isQ a L (nxt + 1), F]) (fun k => L.length - k) 0 (Nat.zero_le _) ⟨rfl, rfl, rfl, rfl, rfl, trivial⟩ (by repeat (first | exact ent_nil _ | refine ent_take 0 rfl ?_ | refine ent_take 1 rfl ?_ | refine ent_take 2 rfl ?_ | refine ent_take 3 rfl ?_ | refine ent_take 4 rfl ?_ | refine ent_take 5 rfl ?_ | refine ent_take 6 rfl ?_ | refine ent_take 7 rfl ?_ | refine ent_take 8 rfl ?_ | refine ent_take 9 rfl ?_ | refine ent_take 10 rfl ?_ | refine ent_take 11 rfl ?_ | refine ent_take 12 rfl ?_)) ?_
            rintro k hk ρ2
            dsimp only [updL] at hk ⊢
            refine TC.seq ?_
            refine TC.seq ?_
            refine TC.region ?_
            refine q rfl rfl (mv (v := .int _ _) rfl) ?_
            refine q rfl rfl (mv (v := .slice _ _ _) rfl) ?_
            refine q rfl rfl (len 3 1 rfl rfl) ?_
            refine q rfl rfl (lss rfl rfl) ?_
            refine TL.nil (nt ?_)
            first | refine TC.condD rfl (fun hlk2 => ?_) (fun hlk2 => ?_) | refine TC.cond rfl (fun hlk2 => ?_) (fun hlk2 => ?_)
            · have hlk3 : k < L.length := by omega
              obtain ⟨u, hu⟩ : ∃ u, L[k]? = some u := ⟨L[k], List.getElem?_eq_getElem hlk3⟩
              have hpos2 : 0 < (ints (L.map (·.id))).length := by omega
              have hpos3 : 0 < (ints (L.map (fun u => useQ L u.id))).length := by omega
              have hug := ids_get hu
              have huu : (L.map (fun u => useQ L u.id))[k]? = some (useQ L u.id) := by rw [List.getElem?_map, hu]; rfl
              refine TC.skip (nt ?_)
              refine TC.seq ?_
              refine TC.block ?_
              refine TC.seq ?_
              refine TC.draw _ [] [(0, false), (1, false), (2, false), (3, false), (4, false), (5, false), (6, false), (7, false), (8, false), (9, false), (10, false), (11, false), (12, false), (13, false), (14, false), (16, false), (17, false), (18, false), (19, false), (15, true), (20, false), (21, false)] (by kernel_rfl) (by kernel_rfl) (ent_take 0 rfl (ent_take 0 rfl (ent_take 0 rfl (ent_nil _)))) ?_
              refine dq rfl rfl rfl (mv (v := .slice _ _ _) rfl) ?_
              refine dq rfl rfl rfl (mv (v := .int _ _) rfl) ?_
              first | refine dq rfl rfl rfl (ixS 3 1 rfl rfl rfl (by omega) (by first | assumption | (simp [ints_length] <;> omega))) ?_ | refine dq rfl rfl rfl (ixJ 3 1 rfl rfl rfl (by omega) (by omega) (by first | assumption | (simp [ints_length] <;> omega))) ?_ | refine dq rfl rfl rfl (ix 3 1 rfl rfl rfl (by omega) (by omega) rfl) ?_
              first | refine dq rfl rfl rfl (ld rfl rfl rfl) ?_ | refine dq rfl rfl rfl (ldS rfl rfl (ints_get hug)) ?_ | refine dq rfl rfl rfl (ldS rfl rfl (ints_get huu)) ?_ | refine dq rfl rfl rfl (ldS rfl rfl rfl) ?_
              refine dq rfl rfl rfl (mv (v := .slice _ _ _) rfl) ?_
              refine dq rfl rfl rfl (mv (v := .int _ _) rfl) ?_
              first | refine dq rfl rfl rfl (ixS 3 1 rfl rfl rfl (by omega) (by first | assumption | (simp [ints_length] <;> omega))) ?_ | refine dq rfl rfl rfl (ixJ 3 1 rfl rfl rfl (by omega) (by omega) (by first | assumption | (simp [ints_length] <;> omega))) ?_ | refine dq rfl rfl rfl (ix 3 1 rfl rfl rfl (by omega) (by omega) rfl) ?_
              first | refine dq rfl rfl rfl (ld rfl rfl rfl) ?_ | refine dq rfl rfl rfl (ldS rfl rfl (ints_get hug)) ?_ | refine dq rfl rfl rfl (ldS rfl rfl (ints_get huu)) ?_ | refine dq rfl rfl rfl (ldS rfl rfl rfl) ?_
              refine dq rfl rfl rfl (neI rfl rfl) ?_
              refine dq rfl rfl rfl (mv (v := .bool _) rfl) ?_
              refine TD.known 146 rfl (b' := false) (decide_eq_false (by simp)) ?_
              refine dg rfl rfl rfl rfl (mv (v := .pointer _) rfl) ?_
              refine dg rfl rfl rfl rfl (mv (v := .slice _ _ _) rfl) ?_
              refine dg rfl rfl rfl rfl (mv (v := .int _ _) rfl) ?_
              first | refine dg rfl rfl rfl rfl (ixS 3 1 rfl rfl rfl (by omega) (by first | assumption | (simp [ints_length] <;> omega))) ?_ | refine dg rfl rfl rfl rfl (ixJ 3 1 rfl rfl rfl (by omega) (by omega) (by first | assumption | (simp [ints_length] <;> omega))) ?_ | refine dg rfl rfl rfl rfl (ix 3 1 rfl rfl rfl (by omega) (by omega) rfl) ?_
              first | refine dg rfl rfl rfl rfl (ld rfl rfl rfl) ?_ | refine dg rfl rfl rfl rfl (ldS rfl rfl (ints_get hug)) ?_ | refine dg rfl rfl rfl rfl (ldS rfl rfl (ints_get huu)) ?_ | refine dg rfl rfl rfl rfl (ldS rfl rfl rfl) ?_
              refine dg rfl rfl rfl rfl (mv (v := .slice _ _ _) rfl) ?_
              refine dg rfl rfl rfl rfl (mv (v := .int _ _) rfl) ?_
              first | refine dg rfl rfl rfl rfl (ixS 3 1 rfl rfl rfl (by omega) (by first | assumption | (simp [ints_length] <;> omega))) ?_ | refine dg rfl rfl rfl rfl (ixJ 3 1 rfl rfl rfl (by omega) (by omega) (by first | assumption | (simp [ints_length] <;> omega))) ?_ | refine dg rfl rfl rfl rfl (ix 3 1 rfl rfl rfl (by omega) (by omega) rfl) ?_
              first | refine dg rfl rfl rfl rfl (ld rfl rfl rfl) ?_ | refine dg rfl rfl rfl rfl (ldS rfl rfl (ints_get hug)) ?_ | refine dg rfl rfl rfl rfl (ldS rfl rfl (ints_get huu)) ?_ | refine dg rfl rfl rfl rfl (ldS rfl rfl rfl) ?_
              refine deg rfl rfl rfl ?_
              refine cl (quses_ok a L (nxt + 1) u.id) rfl PkL.p trivial ?_
              intro _ _
              change ent _ _ ∧ TD _ _ _ _ _ _ _ _ _ _ (sepL [_, _, _, _, _])
              refine ⟨(by repeat (first | exact ent_nil _ | refine ent_take 0 rfl ?_ | refine ent_take 1 rfl ?_ | refine ent_take 2 rfl ?_ | refine ent_take 3 rfl ?_ | refine ent_take 4 rfl ?_ | refine ent_take 5 rfl ?_ | refine ent_take 6 rfl ?_ | refine ent_take 7 rfl ?_ | refine ent_take 8 rfl ?_ | refine ent_take 9 rfl ?_ | refine ent_take 10 rfl ?_ | refine ent_take 11 rfl ?_ | refine ent_take 12 rfl ?_)), ?_⟩
              refine dg rfl rfl rfl rfl (neI rfl rfl) ?_
              first | refine dq rfl rfl rfl (pkT (v := .bool _) rfl rfl) ?_ | refine dq rfl rfl rfl (pkF (v := .bool _) rfl rfl) ?_
              refine TD.nil (nt ?_)
              refine TC.condD rfl (fun hc5 => absurd hc5 (by simp)) (fun hc5 => ?_)
              refine TC.skip (nb (nt ?_))
              refine TC.region ?_
              refine q rfl rfl (mv (v := .int _ _) rfl) ?_
              first | refine q rfl rfl (addI rfl rfl (by omega) (by omega)) ?_ | refine q rfl rfl (add rfl rfl rfl) ?_
              refine q rfl rfl (asg (v := .int _ _) rfl) ?_
              refine TL.nil (nt ?_)
              exact ⟨rfl, (k + 1), (by omega), (by omega), ⟨rfl, rfl, rfl, rfl, rfl, trivial⟩, (by repeat (first | exact ent_nil _ | refine ent_take 0 rfl ?_ | refine ent_take 1 rfl ?_ | refine ent_take 2 rfl ?_ | refine ent_take 3 rfl ?_ | refine ent_take 4 rfl ?_ | refine ent_take 5 rfl ?_ | refine ent_take 6 rfl ?_ | refine ent_take 7 rfl ?_ | refine ent_take 8 rfl ?_ | refine ent_take 9 rfl ?_ | refine ent_take 10 rfl ?_ | refine ent_take 11 rfl ?_ | refine ent_take 12 rfl ?_))⟩
            · refine TC.exit (et (et (eb (nt ?_))))
              refine TC.seq ?_
              refine TC.region ?_
              refine q rfl rfl (mv (v := .slice _ _ _) rfl) ?_
              refine q rfl rfl (len 3 1 rfl rfl) ?_
              refine q rfl rfl (gtr rfl rfl) ?_
              rw [decide_eq_true (show (0 : Int) < ((L.map (·.id)).length : Int) by omega)]
              refine q rfl rfl (asg (v := .bool _) rfl) ?_
              refine TL.nil (nt ?_)
              refine TC.ret ?_
              exact Ret.i () [_] ⟨rfl, trivial⟩ rfl trivial (ent_take 4 rfl (ent_nil _))
        · rw [hv]
          dsimp only
          refine q rfl rfl (eqI rfl rfl) ?_
          refine q rfl rfl (mv (v := .bool _) rfl) ?_
          refine TL.known 96 rfl (c := true) (by decide) ?_
          refine qg rfl rfl rfl (mv (v := .pointer _) rfl) ?_
          refine qg rfl rfl rfl (mv (v := .int _ _) rfl) ?_
          refine qg rfl rfl rfl (mv (v := .int _ _) rfl) ?_
          refine eg rfl rfl ?_
          refine cl (qrefund_ok a L2 nxt id n) rfl PkL.p trivial ?_
          intro _ _
          change TL _ _ _ _ _ _ _ _ (sepL [_, _, _, _])
          rw [hv2]
          dsimp only
          refine qg rfl rfl rfl (neI rfl rfl) ?_
          first | refine q rfl rfl (pkT (v := .bool _) rfl rfl) ?_ | refine q rfl rfl (pkF (v := .bool _) rfl rfl) ?_
          refine TL.nil (nt ?_)
          refine TC.condD rfl (fun hc6 => absurd hc6 (by decide)) (fun hc6 => ?_)
          refine TC.skip (nt ?_)
          refine TC.seq ?_
          refine TC.region ?_
          refine q rfl rfl (mv (v := .pointer _) rfl) ?_
          refine q rfl rfl (mv (v := .int _ _) rfl) ?_
          refine q rfl rfl (mv (v := .int _ _) rfl) ?_
          refine e rfl ?_
          refine cl (qcarve_ok a L nxt id n (by omega)) rfl PkL.p trivial ?_
          intro _ _
          change TL _ _ _ _ _ _ _ _ (sepL [_, _, _, _])
          rcases carve_cases hW id n with ⟨e2, he2, hc⟩ | ⟨L3, hc, hc2, hc3⟩
          · rw [hc]
            dsimp only
            refine q rfl rfl (mv (v := .tuple _) rfl) ?_
            refine q rfl rfl (pu (v := .int _ _) (fun _ => rfl)) ?_
            refine q rfl rfl (pu (v := .int _ _) (fun _ => rfl)) ?_
            refine q rfl rfl (asg (v := .int _ _) rfl) ?_
            refine q rfl rfl (asg (v := .int _ _) rfl) ?_
            refine TL.nil (nt ?_)
            refine TC.seq ?_
            refine TC.seq ?_
            refine TC.region ?_
            refine q rfl rfl (mv (v := .int _ _) rfl) ?_
            refine q rfl rfl (eqI rfl rfl) ?_
            refine q rfl rfl (mv (v := .bool _) rfl) ?_
            refine TL.known 112 rfl (c := false) (decide_eq_false he2) ?_
            refine qs rfl rfl ?_
            refine qs rfl rfl ?_
            refine qs rfl rfl ?_
            refine qs rfl rfl ?_
            refine qs rfl rfl ?_
            refine qsu rfl rfl ?_
            refine qsu rfl rfl ?_
            refine qsu rfl rfl ?_
            refine qsu rfl rfl ?_
            refine qs rfl rfl ?_
            first | refine q rfl rfl (pkT (v := .bool _) rfl rfl) ?_ | refine q rfl rfl (pkF (v := .bool _) rfl rfl) ?_
            refine TL.nil (nt ?_)
            refine TC.condF rfl ?_
            refine TC.skip (nt ?_)
            refine TC.seq ?_
            refine TC.region ?_
            refine q rfl rfl (mv (v := .pointer _) rfl) ?_
            refine e rfl ?_
            refine cl (qids_ok a L (nxt)) rfl PkL.p trivial ?_
            intro y2 _
            change TL _ _ _ _ _ _ _ _ (sepL [_, _, _, _, _])
            refine q rfl rfl (asg (v := .slice _ _ _) rfl) ?_
            refine TL.nil (nt ?_)
            refine TC.seq ?_
            refine TC.seq ?_
            refine TC.region ?_
            refine q rfl rfl (mv (v := .slice _ _ _) rfl) ?_
            refine q rfl rfl (len 3 1 rfl rfl) ?_
            refine q rfl rfl (mv (v := .slice _ _ _) rfl) ?_
            refine q rfl rfl (len 3 1 rfl rfl) ?_
            refine q rfl rfl (neI rfl rfl) ?_
            refine TL.nil (nt ?_)
            refine TC.condD rfl (fun hc7 => absurd hc7 (by simp)) (fun hc7 => ?_)
            refine TC.skip (nt ?_)
            refine TC.seq ?_
            refine TC.seq ?_
            refine TC.region ?_
            refine q rfl rfl (asg (v := .int _ _) rfl) ?_
            refine TL.nil (nt ?_)
            refine TC.block ?_
            refine TC.loop (ι := Nat) (fun k => k ≤ L.length) (fun k => [(9, .pointer (some ⟨a, 0, none⟩)), (11, .slice y1.1 (L.map (·.id)).length y1.2), (12, .slice oa (L.map (fun u => useQ L u.id)).length oc), (16, .slice y2.1 (L.map (·.id)).length y2.2), (17, .int .i64 ((k : Nat) : Int))]) (fun k => sepL [slc 3 1 y2.1 (L.map (·.id)).length y2.2 (ints (L.map (·.id))), slc 3 1 oa (L.map (fun u => useQ L u.id)).length oc (ints (L.map (fun u => useQ L u.id))), slc 3 1 y1.1 (L.map (·.id)).length y1.2 (ints (L.map (·.id))), isQ a L (nxt), F]) (fun k => L.length - k) 0 (Nat.zero_le _) ⟨rfl, rfl, rfl, rfl, rfl, trivial⟩ (by repeat (first | exact ent_nil _ | refine ent_take 0 rfl ?_ | refine ent_take 1 rfl ?_ | refine ent_take 2 rfl ?_ | refine ent_take 3 rfl ?_ | refine ent_take 4 rfl ?_ | refine ent_take 5 rfl ?_ | refine ent_take 6 rfl ?_ | refine ent_take 7 rfl ?_ | refine ent_take 8 rfl ?_ | refine ent_take 9 rfl ?_ | refine ent_take 10 rfl ?_ | refine ent_take 11 rfl ?_ | refine ent_take 12 rfl ?_)) ?_
            rintro k hk ρ2
            dsimp only [updL] at hk ⊢
            refine TC.seq ?_
            refine TC.seq ?_
            refine TC.region ?_
            refine q rfl rfl (mv (v := .int _ _) rfl) ?_
            refine q rfl rfl (mv (v := .slice _ _ _) rfl) ?_
            refine q rfl rfl (len 3 1 rfl rfl) ?_
            refine q rfl rfl (lss rfl rfl) ?_
            refine TL.nil (nt ?_)
            first | refine TC.condD rfl (fun hlk2 => ?_) (fun hlk2 => ?_) | refine TC.cond rfl (fun hlk2 => ?_) (fun hlk2 => ?_)
            · have hlk3 : k < L.length := by omega
              obtain ⟨u, hu⟩ : ∃ u, L[k]? = some u := ⟨L[k], List.getElem?_eq_getElem hlk3⟩
              have hpos2 : 0 < (ints (L.map (·.id))).length := by omega
              have hpos3 : 0 < (ints (L.map (fun u => useQ L u.id))).length := by omega
              have hug := ids_get hu
              have huu : (L.map (fun u => useQ L u.id))[k]? = some (useQ L u.id) := by rw [List.getElem?_map, hu]; rfl
              refine TC.skip (nt ?_)
              refine TC.seq ?_
              refine TC.block ?_
              refine TC.seq ?_
              refine TC.draw _ [] [(0, false), (1, false), (2, false), (3, false), (4, false), (5, false), (6, false), (7, false), (8, false), (9, false), (10, false), (11, false), (12, false), (13, false), (14, false), (16, false), (17, false), (18, false), (19, false), (15, true), (20, false), (21, false)] (by kernel_rfl) (by kernel_rfl) (ent_take 0 rfl (ent_take 0 rfl (ent_take 0 rfl (ent_nil _)))) ?_
              refine dq rfl rfl rfl (mv (v := .slice _ _ _) rfl) ?_
              refine dq rfl rfl rfl (mv (v := .int _ _) rfl) ?_
              first | refine dq rfl rfl rfl (ixS 3 1 rfl rfl rfl (by omega) (by first | assumption | (simp [ints_length] <;> omega))) ?_ | refine dq rfl rfl rfl (ixJ 3 1 rfl rfl rfl (by omega) (by omega) (by first | assumption | (simp [ints_length] <;> omega))) ?_ | refine dq rfl rfl rfl (ix 3 1 rfl rfl rfl (by omega) (by omega) rfl) ?_
              first | refine dq rfl rfl rfl (ld rfl rfl rfl) ?_ | refine dq rfl rfl rfl (ldS rfl rfl (ints_get hug)) ?_ | refine dq rfl rfl rfl (ldS rfl rfl (ints_get huu)) ?_ | refine dq rfl rfl rfl (ldS rfl rfl rfl) ?_
              refine dq rfl rfl rfl (mv (v := .slice _ _ _) rfl) ?_
              refine dq rfl rfl rfl (mv (v := .int _ _) rfl) ?_
              first | refine dq rfl rfl rfl (ixS 3 1 rfl rfl rfl (by omega) (by first | assumption | (simp [ints_length] <;> omega))) ?_ | refine dq rfl rfl rfl (ixJ 3 1 rfl rfl rfl (by omega) (by omega) (by first | assumption | (simp [ints_length] <;> omega))) ?_ | refine dq rfl rfl rfl (ix 3 1 rfl rfl rfl (by omega) (by omega) rfl) ?_
              first | refine dq rfl rfl rfl (ld rfl rfl rfl) ?_ | refine dq rfl rfl rfl (ldS rfl rfl (ints_get hug)) ?_ | refine dq rfl rfl rfl (ldS rfl rfl (ints_get huu)) ?_ | refine dq rfl rfl rfl (ldS rfl rfl rfl) ?_
              refine dq rfl rfl rfl (neI rfl rfl) ?_
              refine dq rfl rfl rfl (mv (v := .bool _) rfl) ?_
              refine TD.known 146 rfl (b' := false) (decide_eq_false (by simp)) ?_
              refine dg rfl rfl rfl rfl (mv (v := .pointer _) rfl) ?_
              refine dg rfl rfl rfl rfl (mv (v := .slice _ _ _) rfl) ?_
              refine dg rfl rfl rfl rfl (mv (v := .int _ _) rfl) ?_
              first | refine dg rfl rfl rfl rfl (ixS 3 1 rfl rfl rfl (by omega) (by first | assumption | (simp [ints_length] <;> omega))) ?_ | refine dg rfl rfl rfl rfl (ixJ 3 1 rfl rfl rfl (by omega) (by omega) (by first | assumption | (simp [ints_length] <;> omega))) ?_ | refine dg rfl rfl rfl rfl (ix 3 1 rfl rfl rfl (by omega) (by omega) rfl) ?_
              first | refine dg rfl rfl rfl rfl (ld rfl rfl rfl) ?_ | refine dg rfl rfl rfl rfl (ldS rfl rfl (ints_get hug)) ?_ | refine dg rfl rfl rfl rfl (ldS rfl rfl (ints_get huu)) ?_ | refine dg rfl rfl rfl rfl (ldS rfl rfl rfl) ?_
              refine dg rfl rfl rfl rfl (mv (v := .slice _ _ _) rfl) ?_
              refine dg rfl rfl rfl rfl (mv (v := .int _ _) rfl) ?_
              first | refine dg rfl rfl rfl rfl (ixS 3 1 rfl rfl rfl (by omega) (by first | assumption | (simp [ints_length] <;> omega))) ?_ | refine dg rfl rfl rfl rfl (ixJ 3 1 rfl rfl rfl (by omega) (by omega) (by first | assumption | (simp [ints_length] <;> omega))) ?_ | refine dg rfl rfl rfl rfl (ix 3 1 rfl rfl rfl (by omega) (by omega) rfl) ?_
              first | refine dg rfl rfl rfl rfl (ld rfl rfl rfl) ?_ | refine dg rfl rfl rfl rfl (ldS rfl rfl (ints_get hug)) ?_ | refine dg rfl rfl rfl rfl (ldS rfl rfl (ints_get huu)) ?_ | refine dg rfl rfl rfl rfl (ldS rfl rfl rfl) ?_
              refine deg rfl rfl rfl ?_
              refine cl (quses_ok a L (nxt) u.id) rfl PkL.p trivial ?_
              intro _ _
              change ent _ _ ∧ TD _ _ _ _ _ _ _ _ _ _ (sepL [_, _, _, _, _])
              refine ⟨(by repeat (first | exact ent_nil _ | refine ent_take 0 rfl ?_ | refine ent_take 1 rfl ?_ | refine ent_take 2 rfl ?_ | refine ent_take 3 rfl ?_ | refine ent_take 4 rfl ?_ | refine ent_take 5 rfl ?_ | refine ent_take 6 rfl ?_ | refine ent_take 7 rfl ?_ | refine ent_take 8 rfl ?_ | refine ent_take 9 rfl ?_ | refine ent_take 10 rfl ?_ | refine ent_take 11 rfl ?_ | refine ent_take 12 rfl ?_)), ?_⟩
              refine dg rfl rfl rfl rfl (neI rfl rfl) ?_
              first | refine dq rfl rfl rfl (pkT (v := .bool _) rfl rfl) ?_ | refine dq rfl rfl rfl (pkF (v := .bool _) rfl rfl) ?_
              refine TD.nil (nt ?_)
              refine TC.condD rfl (fun hc8 => absurd hc8 (by simp)) (fun hc8 => ?_)
              refine TC.skip (nb (nt ?_))
              refine TC.region ?_
              refine q rfl rfl (mv (v := .int _ _) rfl) ?_
              first | refine q rfl rfl (addI rfl rfl (by omega) (by omega)) ?_ | refine q rfl rfl (add rfl rfl rfl) ?_
              refine q rfl rfl (asg (v := .int _ _) rfl) ?_
              refine TL.nil (nt ?_)
              exact ⟨rfl, (k + 1), (by omega), (by omega), ⟨rfl, rfl, rfl, rfl, rfl, trivial⟩, (by repeat (first | exact ent_nil _ | refine ent_take 0 rfl ?_ | refine ent_take 1 rfl ?_ | refine ent_take 2 rfl ?_ | refine ent_take 3 rfl ?_ | refine ent_take 4 rfl ?_ | refine ent_take 5 rfl ?_ | refine ent_take 6 rfl ?_ | refine ent_take 7 rfl ?_ | refine ent_take 8 rfl ?_ | refine ent_take 9 rfl ?_ | refine ent_take 10 rfl ?_ | refine ent_take 11 rfl ?_ | refine ent_take 12 rfl ?_))⟩
            · refine TC.exit (et (et (eb (nt ?_))))
              refine TC.seq ?_
              refine TC.region ?_
              refine q rfl rfl (mv (v := .slice _ _ _) rfl) ?_
              refine q rfl rfl (len 3 1 rfl rfl) ?_
              refine q rfl rfl (gtr rfl rfl) ?_
              rw [decide_eq_true (show (0 : Int) < ((L.map (·.id)).length : Int) by omega)]
              refine q rfl rfl (asg (v := .bool _) rfl) ?_
              refine TL.nil (nt ?_)
              refine TC.ret ?_
              exact Ret.i () [_] ⟨rfl, trivial⟩ rfl trivial (ent_take 4 rfl (ent_nil _))
          · rw [hc]
            dsimp only
            refine q rfl rfl (mv (v := .tuple _) rfl) ?_
            refine q rfl rfl (pu (v := .int _ _) (fun _ => rfl)) ?_
            refine q rfl rfl (pu (v := .int _ _) (fun _ => rfl)) ?_
            refine q rfl rfl (asg (v := .int _ _) rfl) ?_
            refine q rfl rfl (asg (v := .int _ _) rfl) ?_
            refine TL.nil (nt ?_)
            refine TC.seq ?_
            refine TC.seq ?_
            refine TC.region ?_
            refine q rfl rfl (mv (v := .int _ _) rfl) ?_
            refine q rfl rfl (eqI rfl rfl) ?_
            refine q rfl rfl (mv (v := .bool _) rfl) ?_
            refine TL.known 112 rfl (c := true) (by decide) ?_
            refine qg rfl rfl rfl (mv (v := .pointer _) rfl) ?_
            refine qg rfl rfl rfl (mv (v := .int _ _) rfl) ?_
            refine eg rfl rfl ?_
            refine cl (quses_ok a L3 (nxt + 1) nxt) rfl PkL.p trivial ?_
            intro _ _
            change TL _ _ _ _ _ _ _ _ (sepL [_, _, _, _])
            rw [hc2]
            refine qg rfl rfl rfl (neI rfl rfl) ?_
            refine qg rfl rfl rfl (mv (v := .bool _) rfl) ?_
            refine TL.known 117 rfl (c := false) (by decide) ?_
            refine qg rfl rfl rfl (mv (v := .pointer _) rfl) ?_
            refine qg rfl rfl rfl (mv (v := .int _ _) rfl) ?_
            refine eg rfl rfl ?_
            refine cl (qclose_ok a L3 (nxt + 1) nxt) rfl PkL.p trivial ?_
            intro _ _
            change TL _ _ _ _ _ _ _ _ (sepL [_, _, _, _])
            rw [hc3]
            dsimp only
            refine qg rfl rfl rfl (neI rfl rfl) ?_
            first | refine qg rfl rfl rfl (pkT (v := .bool _) rfl rfl) ?_ | refine qg rfl rfl rfl (pkF (v := .bool _) rfl rfl) ?_
            first | refine q rfl rfl (pkT (v := .bool _) rfl rfl) ?_ | refine q rfl rfl (pkF (v := .bool _) rfl rfl) ?_
            refine TL.nil (nt ?_)
            refine TC.condD rfl (fun hc9 => absurd hc9 (by decide)) (fun hc9 => ?_)
            refine TC.skip (nt ?_)
            refine TC.seq ?_
            refine TC.region ?_
            refine q rfl rfl (mv (v := .pointer _) rfl) ?_
            refine e rfl ?_
            refine cl (qids_ok a L (nxt + 1)) rfl PkL.p trivial ?_
            intro y2 _
            change TL _ _ _ _ _ _ _ _ (sepL [_, _, _, _, _])
            refine q rfl rfl (asg (v := .slice _ _ _) rfl) ?_
            refine TL.nil (nt ?_)
            refine TC.seq ?_
            refine TC.seq ?_
            refine TC.region ?_
            refine q rfl rfl (mv (v := .slice _ _ _) rfl) ?_
            refine q rfl rfl (len 3 1 rfl rfl) ?_
            refine q rfl rfl (mv (v := .slice _ _ _) rfl) ?_
            refine q rfl rfl (len 3 1 rfl rfl) ?_
            refine q rfl rfl (neI rfl rfl) ?_
            refine TL.nil (nt ?_)
            refine TC.condD rfl (fun hc10 => absurd hc10 (by simp)) (fun hc10 => ?_)
            refine TC.skip (nt ?_)
            refine TC.seq ?_
            refine TC.seq ?_
            refine TC.region ?_
            refine q rfl rfl (asg (v := .int _ _) rfl) ?_
            refine TL.nil (nt ?_)
            refine TC.block ?_
            refine TC.loop (ι := Nat) (fun k => k ≤ L.length) (fun k => [(9, .pointer (some ⟨a, 0, none⟩)), (11, .slice y1.1 (L.map (·.id)).length y1.2), (12, .slice oa (L.map (fun u => useQ L u.id)).length oc), (16, .slice y2.1 (L.map (·.id)).length y2.2), (17, .int .i64 ((k : Nat) : Int))]) (fun k => sepL [slc 3 1 y2.1 (L.map (·.id)).length y2.2 (ints (L.map (·.id))), slc 3 1 oa (L.map (fun u => useQ L u.id)).length oc (ints (L.map (fun u => useQ L u.id))), slc 3 1 y1.1 (L.map (·.id)).length y1.2 (ints (L.map (·.id))), isQ a L (nxt + 1), F]) (fun k => L.length - k) 0 (Nat.zero_le _) ⟨rfl, rfl, rfl, rfl, rfl, trivial⟩ (by repeat (first | exact ent_nil _ | refine ent_take 0 rfl ?_ | refine ent_take 1 rfl ?_ | refine ent_take 2 rfl ?_ | refine ent_take 3 rfl ?_ | refine ent_take 4 rfl ?_ | refine ent_take 5 rfl ?_ | refine ent_take 6 rfl ?_ | refine ent_take 7 rfl ?_ | refine ent_take 8 rfl ?_ | refine ent_take 9 rfl ?_ | refine ent_take 10 rfl ?_ | refine ent_take 11 rfl ?_ | refine ent_take 12 rfl ?_)) ?_
            rintro k hk ρ2
            dsimp only [updL] at hk ⊢
            refine TC.seq ?_
            refine TC.seq ?_
            refine TC.region ?_
            refine q rfl rfl (mv (v := .int _ _) rfl) ?_
            refine q rfl rfl (mv (v := .slice _ _ _) rfl) ?_
            refine q rfl rfl (len 3 1 rfl rfl) ?_
            refine q rfl rfl (lss rfl rfl) ?_
            refine TL.nil (nt ?_)
            first | refine TC.condD rfl (fun hlk2 => ?_) (fun hlk2 => ?_) | refine TC.cond rfl (fun hlk2 => ?_) (fun hlk2 => ?_)
            · have hlk3 : k < L.length := by omega
              obtain ⟨u, hu⟩ : ∃ u, L[k]? = some u := ⟨L[k], List.getElem?_eq_getElem hlk3⟩
              have hpos2 : 0 < (ints (L.map (·.id))).length := by omega
              have hpos3 : 0 < (ints (L.map (fun u => useQ L u.id))).length := by omega
              have hug := ids_get hu
              have huu : (L.map (fun u => useQ L u.id))[k]? = some (useQ L u.id) := by rw [List.getElem?_map, hu]; rfl
              refine TC.skip (nt ?_)
              refine TC.seq ?_
              refine TC.block ?_
              refine TC.seq ?_
              refine TC.draw _ [] [(0, false), (1, false), (2, false), (3, false), (4, false), (5, false), (6, false), (7, false), (8, false), (9, false), (10, false), (11, false), (12, false), (13, false), (14, false), (16, false), (17, false), (18, false), (19, false), (15, true), (20, false), (21, false)] (by kernel_rfl) (by kernel_rfl) (ent_take 0 rfl (ent_take 0 rfl (ent_take 0 rfl (ent_nil _)))) ?_
              refine dq rfl rfl rfl (mv (v := .slice _ _ _) rfl) ?_
              refine dq rfl rfl rfl (mv (v := .int _ _) rfl) ?_
              first | refine dq rfl rfl rfl (ixS 3 1 rfl rfl rfl (by omega) (by first | assumption | (simp [ints_length] <;> omega))) ?_ | refine dq rfl rfl rfl (ixJ 3 1 rfl rfl rfl (by omega) (by omega) (by first | assumption | (simp [ints_length] <;> omega))) ?_ | refine dq rfl rfl rfl (ix 3 1 rfl rfl rfl (by omega) (by omega) rfl) ?_
              first | refine dq rfl rfl rfl (ld rfl rfl rfl) ?_ | refine dq rfl rfl rfl (ldS rfl rfl (ints_get hug)) ?_ | refine dq rfl rfl rfl (ldS rfl rfl (ints_get huu)) ?_ | refine dq rfl rfl rfl (ldS rfl rfl rfl) ?_
              refine dq rfl rfl rfl (mv (v := .slice _ _ _) rfl) ?_
              refine dq rfl rfl rfl (mv (v := .int _ _) rfl) ?_
              first | refine dq rfl rfl rfl (ixS 3 1 rfl rfl rfl (by omega) (by first | assumption | (simp [ints_length] <;> omega))) ?_ | refine dq rfl rfl rfl (ixJ 3 1 rfl rfl rfl (by omega) (by omega) (by first | assumption | (simp [ints_length] <;> omega))) ?_ | refine dq rfl rfl rfl (ix 3 1 rfl rfl rfl (by omega) (by omega) rfl) ?_
              first | refine dq rfl rfl rfl (ld rfl rfl rfl) ?_ | refine dq rfl rfl rfl (ldS rfl rfl (ints_get hug)) ?_ | refine dq rfl rfl rfl (ldS rfl rfl (ints_get huu)) ?_ | refine dq rfl rfl rfl (ldS rfl rfl rfl) ?_
              refine dq rfl rfl rfl (neI rfl rfl) ?_
              refine dq rfl rfl rfl (mv (v := .bool _) rfl) ?_
              refine TD.known 146 rfl (b' := false) (decide_eq_false (by simp)) ?_
              refine dg rfl rfl rfl rfl (mv (v := .pointer _) rfl) ?_
              refine dg rfl rfl rfl rfl (mv (v := .slice _ _ _) rfl) ?_
              refine dg rfl rfl rfl rfl (mv (v := .int _ _) rfl) ?_
              first | refine dg rfl rfl rfl rfl (ixS 3 1 rfl rfl rfl (by omega) (by first | assumption | (simp [ints_length] <;> omega))) ?_ | refine dg rfl rfl rfl rfl (ixJ 3 1 rfl rfl rfl (by omega) (by omega) (by first | assumption | (simp [ints_length] <;> omega))) ?_ | refine dg rfl rfl rfl rfl (ix 3 1 rfl rfl rfl (by omega) (by omega) rfl) ?_
              first | refine dg rfl rfl rfl rfl (ld rfl rfl rfl) ?_ | refine dg rfl rfl rfl rfl (ldS rfl rfl (ints_get hug)) ?_ | refine dg rfl rfl rfl rfl (ldS rfl rfl (ints_get huu)) ?_ | refine dg rfl rfl rfl rfl (ldS rfl rfl rfl) ?_
              refine dg rfl rfl rfl rfl (mv (v := .slice _ _ _) rfl) ?_
              refine dg rfl rfl rfl rfl (mv (v := .int _ _) rfl) ?_
              first | refine dg rfl rfl rfl rfl (ixS 3 1 rfl rfl rfl (by omega) (by first | assumption | (simp [ints_length] <;> omega))) ?_ | refine dg rfl rfl rfl rfl (ixJ 3 1 rfl rfl rfl (by omega) (by omega) (by first | assumption | (simp [ints_length] <;> omega))) ?_ | refine dg rfl rfl rfl rfl (ix 3 1 rfl rfl rfl (by omega) (by omega) rfl) ?_
              first | refine dg rfl rfl rfl rfl (ld rfl rfl rfl) ?_ | refine dg rfl rfl rfl rfl (ldS rfl rfl (ints_get hug)) ?_ | refine dg rfl rfl rfl rfl (ldS rfl rfl (ints_get huu)) ?_ | refine dg rfl rfl rfl rfl (ldS rfl rfl rfl) ?_
              refine deg rfl rfl rfl ?_
              refine cl (quses_ok a L (nxt + 1) u.id) rfl PkL.p trivial ?_
              intro _ _
              change ent _ _ ∧ TD _ _ _ _ _ _ _ _ _ _ (sepL [_, _, _, _, _])
              refine ⟨(by repeat (first | exact ent_nil _ | refine ent_take 0 rfl ?_ | refine ent_take 1 rfl ?_ | refine ent_take 2 rfl ?_ | refine ent_take 3 rfl ?_ | refine ent_take 4 rfl ?_ | refine ent_take 5 rfl ?_ | refine ent_take 6 rfl ?_ | refine ent_take 7 rfl ?_ | refine ent_take 8 rfl ?_ | refine ent_take 9 rfl ?_ | refine ent_take 10 rfl ?_ | refine ent_take 11 rfl ?_ | refine ent_take 12 rfl ?_)), ?_⟩
              refine dg rfl rfl rfl rfl (neI rfl rfl) ?_
              first | refine dq rfl rfl rfl (pkT (v := .bool _) rfl rfl) ?_ | refine dq rfl rfl rfl (pkF (v := .bool _) rfl rfl) ?_
              refine TD.nil (nt ?_)
              refine TC.condD rfl (fun hc11 => absurd hc11 (by simp)) (fun hc11 => ?_)
              refine TC.skip (nb (nt ?_))
              refine TC.region ?_
              refine q rfl rfl (mv (v := .int _ _) rfl) ?_
              first | refine q rfl rfl (addI rfl rfl (by omega) (by omega)) ?_ | refine q rfl rfl (add rfl rfl rfl) ?_
              refine q rfl rfl (asg (v := .int _ _) rfl) ?_
              refine TL.nil (nt ?_)
              exact ⟨rfl, (k + 1), (by omega), (by omega), ⟨rfl, rfl, rfl, rfl, rfl, trivial⟩, (by repeat (first | exact ent_nil _ | refine ent_take 0 rfl ?_ | refine ent_take 1 rfl ?_ | refine ent_take 2 rfl ?_ | refine ent_take 3 rfl ?_ | refine ent_take 4 rfl ?_ | refine ent_take 5 rfl ?_ | refine ent_take 6 rfl ?_ | refine ent_take 7 rfl ?_ | refine ent_take 8 rfl ?_ | refine ent_take 9 rfl ?_ | refine ent_take 10 rfl ?_ | refine ent_take 11 rfl ?_ | refine ent_take 12 rfl ?_))⟩
            · refine TC.exit (et (et (eb (nt ?_))))
              refine TC.seq ?_
              refine TC.region ?_
              refine q rfl rfl (mv (v := .slice _ _ _) rfl) ?_
              refine q rfl rfl (len 3 1 rfl rfl) ?_
              refine q rfl rfl (gtr rfl rfl) ?_
              rw [decide_eq_true (show (0 : Int) < ((L.map (·.id)).length : Int) by omega)]
              refine q rfl rfl (asg (v := .bool _) rfl) ?_
              refine TL.nil (nt ?_)
              refine TC.ret ?_
              exact Ret.i () [_] ⟨rfl, trivial⟩ rfl trivial (ent_take 4 rfl (ent_nil _))

end Go.Proofs.Ytmffldmipddngaa
