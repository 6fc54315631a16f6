/-
  Proved here: what functions of this program compute, each as a contract over symbolic states, under the premises that each theorem names (most lines printed by a program of the prover).
-/
import Derived.Test.YtmffldmipddngaaQtC
namespace Go.Proofs.Ytmffldmipddngaa
open Go Go.QM
structure QAct where
  kind : Int
  id : Int
  n : Int
def qactC (t : QAct) : List Value := ints [t.kind, t.id, t.n]
theorem qactC_sz (t : QAct) : (qactC t).length = 3 := rfl
def qactsC (l : List QAct) : List Value := l.flatMap qactC
theorem qactsC_length (l : List QAct) : (qactsC l).length = l.length * 3 := flat_length qactC_sz l
def RtQ (L : List Qn) (m : Int) : Prop := ∃ r ∈ L, r.id = 0 ∧ r.lim = m
theorem RtQ.carve {L : List Qn} {m : Int} (h : RtQ L m) (nxt p lim : Int) : RtQ (carveQ L nxt p lim).1 m := by
  obtain ⟨r, hr, h1, h2⟩ := h
  rw [carveQ]
  split
  · exact ⟨r, hr, h1, h2⟩
  · split
    · exact ⟨r, hr, h1, h2⟩
    · split
      · exact ⟨r, hr, h1, h2⟩
      · split
        · exact ⟨r, hr, h1, h2⟩
        · exact ⟨r, List.mem_append.2 (.inl hr), h1, h2⟩
theorem RtQ.set {L : List Qn} {m : Int} (h : RtQ L m) (x c : Int) : RtQ (setQ L x c) m := by
  obtain ⟨r, hr, h1, h2⟩ := h
  refine ⟨_, setQ_mem.2 ⟨r, hr, rfl⟩, ?_, ?_⟩
  · split <;> exact h1
  · split <;> exact h2
theorem RtQ.close {L : List Qn} {m : Int} (h : RtQ L m) (id : Int) : RtQ (closeQ L id).1 m := by
  obtain ⟨r, hr, h1, h2⟩ := h
  rw [closeQ]
  split
  · exact ⟨r, hr, h1, h2⟩
  · split
    · exact ⟨r, hr, h1, h2⟩
    · rename_i h3
      split
      · exact ⟨r, hr, h1, h2⟩
      · exact ⟨r, offQ_mem.2 ⟨hr, by rw [h1]; exact fun e => h3 e.symm⟩, h1, h2⟩
theorem RtQ.charge {L : List Qn} {m : Int} (h : RtQ L m) (id n : Int) : RtQ (chargeQ L id n).1 m := by
  rw [chargeQ]
  split
  · exact h
  · split
    · exact h
    · split
      · exact h
      · exact h.set _ _
theorem RtQ.refund {L : List Qn} {m : Int} (h : RtQ L m) (id n : Int) : RtQ (refundQ L id n).1 m := by
  rw [refundQ]
  split
  · exact h
  · split
    · exact h
    · exact h.set _ _
theorem RtQ.start (m : Int) : RtQ [⟨0, -1, m, 0⟩] m := ⟨_, List.mem_singleton.2 rfl, rfl, rfl⟩
theorem carve_nx (L : List Qn) (nxt p lim : Int) : nxt ≤ (carveQ L nxt p lim).2.1 ∧ (carveQ L nxt p lim).2.1 ≤ nxt + 1 := by
  rw [carveQ]
  split
  · exact ⟨Int.le_refl _, by dsimp only; omega⟩
  · split
    · exact ⟨Int.le_refl _, by dsimp only; omega⟩
    · split
      · exact ⟨Int.le_refl _, by dsimp only; omega⟩
      · split
        · exact ⟨Int.le_refl _, by dsimp only; omega⟩
        · exact ⟨by dsimp only; omega, Int.le_refl _⟩
theorem givQ_snoc {L : List Qn} {k : Nat} {t : Qn} (h : L[k]? = some t) (x : Int) : givQ (L.take (k + 1)) x = givQ (L.take k) x + (if t.par = x then t.lim else 0) := by
  rw [List.take_add_one, h, Option.toList, givQ_app, givQ_one]
theorem chg_snoc {L : List Qn} {k : Nat} {t : Qn} (h : L[k]? = some t) : sumI ((L.take (k + 1)).map (·.chg)) = sumI ((L.take k).map (·.chg)) + t.chg := by
  rw [List.take_add_one, h, Option.toList, List.map_append, sumI_app]; simp [sumI]
theorem givQ_b {L : List Qn} {nxt : Int} (hW : WQ L nxt) (k : Nat) (x : Int) : 0 ≤ givQ (L.take k) x ∧ givQ (L.take k) x ≤ 34359738368 := by
  have h1 : ∀ y ∈ (kidsQ (L.take k) x).map (·.lim), 0 ≤ y ∧ y ≤ 1073741824 := fun y hy => by
    obtain ⟨t, ht, rfl⟩ := List.mem_map.1 hy
    have := hW.rg t (List.mem_of_mem_take (List.mem_filter.1 ht).1); omega
  have h2 := sumI_nonneg (l := (kidsQ (L.take k) x).map (·.lim)) fun y hy => (h1 y hy).1
  have h3 := sumI_le (l := (kidsQ (L.take k) x).map (·.lim)) fun y hy => (h1 y hy).2
  have h4 : ((kidsQ (L.take k) x).map (·.lim)).length ≤ 32 := by
    rw [List.length_map, kidsQ]
    have a1 := List.length_filter_le (fun t : Qn => decide (t.par = x)) (L.take k)
    have a2 : (L.take k).length ≤ L.length := by rw [List.length_take]; omega
    have := hW.len; omega
  rw [givQ]; omega
theorem chg_b {L : List Qn} {nxt : Int} (hW : WQ L nxt) (k : Nat) : 0 ≤ sumI ((L.take k).map (·.chg)) ∧ sumI ((L.take k).map (·.chg)) ≤ 34359738368 := by
  have h1 : ∀ y ∈ (L.take k).map (·.chg), 0 ≤ y ∧ y ≤ 1073741824 := fun y hy => by
    obtain ⟨t, ht, rfl⟩ := List.mem_map.1 hy
    have := hW.big (List.mem_of_mem_take ht); omega
  have h2 := sumI_nonneg (l := (L.take k).map (·.chg)) fun y hy => (h1 y hy).1
  have h3 := sumI_le (l := (L.take k).map (·.chg)) fun y hy => (h1 y hy).2
  have h4 : ((L.take k).map (·.chg)).length ≤ 32 := by
    rw [List.length_map, List.length_take]
    have := hW.len; omega
  omega
theorem ids_get {L : List Qn} {k : Nat} {t : Qn} (h : L[k]? = some t) : (L.map (·.id))[k]? = some t.id := by rw [List.getElem?_map, h]; rfl

set_option maxRecDepth 4000 in
set_option maxHeartbeats 2000000 in
theorem never_ok (m : Int) (ad : Option Addr) (l : List QAct) (cap : Nat) : FSpec Try.prog 6 [.int .i64 m, .slice ad l.length cap] (fun F => ∃ E, RdS F E ad (qactsC l)) [] (fun _ : Unit => .bool true) (fun _ => True) (fun _ => []) := by
  refine FSpec.intro (rs := [.tmp 4]) (by kernel_rfl) Try.func6 rfl Try.ntmps6 (by rfl) rfl ?_
  intro F ⟨E, hF⟩
  change TC _ _ _ _ _ _ _ (sepL [_])
  haveI : RdSI F ad E (qactsC l) := ⟨hF⟩
  refine TC.seq ?_
  refine TC.region ?_
  refine q rfl rfl (asg (v := .bool _) rfl) ?_
  refine TL.nil (nt ?_)
  refine TC.seq ?_
  refine TC.seq ?_
  refine TC.region ?_
  refine e rfl ?_
  refine cl alive_ok rfl (picked_nil _) trivial ?_
  intro _ _
  change TL _ _ _ _ _ _ _ _ (sepL [_])
  first | refine q rfl rfl (notD rfl) ?_ | refine q rfl rfl (notB rfl) ?_
  refine TL.nil (nt ?_)
  refine TC.condF rfl ?_
  by_cases hm : 0 ≤ m ∧ m ≤ 1073741824
  · refine TC.skip (nt ?_)
    refine TC.seq ?_
    refine TC.region ?_
    refine q rfl rfl (mv (v := .int _ _) rfl) ?_
    refine e rfl ?_
    refine cl (qnew_ok m hm) rfl (picked_nil _) trivial ?_
    intro a _
    change TL _ _ _ _ _ _ _ _ (sepL [_, _])
    refine q rfl rfl (asg (v := .pointer _) rfl) ?_
    refine TL.nil (nt ?_)
    refine TC.seq ?_
    refine TC.seq ?_
    refine TC.region ?_
    refine q rfl rfl (mv (v := .slice _ _ _) rfl) ?_
    refine q rfl rfl (len 38 3 rfl rfl) ?_
    refine q rfl rfl (gtr rfl rfl) ?_
    refine q rfl rfl (mv (v := .bool _) rfl) ?_
    refine TL.split 20 rfl (fun hb => ?_) (fun hb => ?_)
    · have hb := of_decide_eq_true hb
      refine qs rfl rfl ?_
      refine qs rfl rfl ?_
      first | refine q rfl rfl (pkT (v := .bool _) rfl rfl) ?_ | refine q rfl rfl (pkF (v := .bool _) rfl rfl) ?_
      refine TL.nil (nt ?_)
      refine TC.condT rfl ?_
      refine TC.seq ?_
      refine TC.region ?_
      refine q rfl rfl (asg (v := .bool _) rfl) ?_
      refine TL.nil (nt ?_)
      refine TC.ret (rt ?_)
      exact Ret.i () [_] ⟨rfl, trivial⟩ rfl trivial (ent_take 1 rfl (ent_nil _))
    · have hb := of_decide_eq_false hb
      have hl100 : l.length ≤ 100 := by omega
      refine qg rfl rfl rfl (mv (v := .pointer _) rfl) ?_
      refine qg rfl rfl rfl (eqNil rfl rfl rfl) ?_
      first | refine q rfl rfl (pkT (v := .bool _) rfl rfl) ?_ | refine q rfl rfl (pkF (v := .bool _) rfl rfl) ?_
      refine TL.nil (nt ?_)
      refine TC.condF rfl ?_
      refine TC.skip (nt ?_)
      refine TC.seq ?_
      refine TC.seq ?_
      refine TC.region ?_
      refine q rfl rfl (asg (v := .int _ _) rfl) ?_
      refine TL.nil (nt ?_)
      refine TC.block ?_
      refine TC.loop (ι := Nat × List Qn × Int) (fun s => s.1 ≤ l.length ∧ WQ s.2.1 s.2.2 ∧ RtQ s.2.1 m ∧ s.2.2 ≤ (s.1 : Int) + 1) (fun s => [(0, .int .i64 m), (1, .slice ad l.length cap), (5, .pointer (some ⟨a, 0, none⟩)), (6, .int .i64 ((s.1 : Nat) : Int))]) (fun s => sepL [isQ a s.2.1 s.2.2, F]) (fun s => l.length - s.1) ⟨0, [⟨0, -1, m, 0⟩], 1⟩ ⟨Nat.zero_le _, WQ.start hm, RtQ.start m, Int.le_refl _⟩ ⟨rfl, rfl, rfl, rfl, trivial⟩ (ent_take 0 rfl (ent_take 0 rfl (ent_nil _))) ?_
      rintro ⟨i, L, nxt⟩ ⟨hi, hW, hR, hnx⟩ ρ0
      dsimp only [updL] at hi hW hR hnx ⊢
      refine TC.seq ?_
      refine TC.seq ?_
      refine TC.region ?_
      refine q rfl rfl (mv (v := .int _ _) rfl) ?_
      refine q rfl rfl (mv (v := .slice _ _ _) rfl) ?_
      refine q rfl rfl (len 38 3 rfl rfl) ?_
      refine q rfl rfl (lss rfl rfl) ?_
      refine TL.nil (nt ?_)
      first | refine TC.condD rfl (fun hlt => ?_) (fun hlt => ?_) | refine TC.cond rfl (fun hlt => ?_) (fun hlt => ?_)
      · have hlt2 : i < l.length := by omega
        obtain ⟨t, ht⟩ : ∃ t, l[i]? = some t := ⟨l[i], List.getElem?_eq_getElem hlt2⟩
        have hpos : 0 < (qactsC l).length := by rw [qactsC_length]; omega
        have hcx := carve_nx L nxt t.id t.n
        refine TC.skip (nt ?_)
        refine TC.seq ?_
        refine TC.block ?_
        refine TC.seq ?_
        refine TC.region ?_
        refine q rfl rfl (mv (v := .slice _ _ _) rfl) ?_
        refine q rfl rfl (mv (v := .int _ _) rfl) ?_
        first | refine q rfl rfl (ixS 38 3 rfl rfl rfl (by omega) (by first | assumption | (simp [ints_length] <;> omega))) ?_ | refine q rfl rfl (ixJ 38 3 rfl rfl rfl (by omega) (by omega) (by first | assumption | (simp [ints_length] <;> omega))) ?_ | refine q rfl rfl (ix 38 3 rfl rfl rfl (by omega) (by omega) rfl) ?_
        first | refine q rfl rfl (ldN (vs := [_, _, _]) 3 rfl rfl rfl rfl) ?_ | refine q rfl rfl (ldSN (vs := [_, _, _]) 3 rfl rfl (flat_get_rec qactC_sz ht) rfl (by decide)) ?_ | refine q rfl rfl (ldSN (vs := [_, _, _]) 3 rfl rfl rfl rfl (by decide)) ?_
        refine e rfl ?_
        refine al (l := [.int _ _, .int _ _, .int _ _]) rfl rfl ?_
        intro b1
        refine e0 ?_
        refine st (v := .agg #[_, _, _]) (vs := [_, _, _]) 3 rfl rfl rfl rfl rfl rfl (Nat.le_of_ble_eq_true rfl) rfl ?_
        refine TL.nil (nt ?_)
        refine TC.cut (ι := List Qn × Int) (fun s => WQ s.1 s.2 ∧ RtQ s.1 m ∧ s.2 ≤ (i : Int) + 2) (fun s => [(0, .int .i64 m), (1, .slice ad l.length cap), (5, .pointer (some ⟨a, 0, none⟩)), (6, .int .i64 ((i : Nat) : Int)), (7, .pointer (some ⟨b1, 0, none⟩))]) (fun s => sepL [isQ a s.1 s.2, F]) ?_ ?_
        · refine TC.seq ?_
          refine TC.region ?_
          first | refine q rfl rfl (fa 0 rfl rfl) ?_ | refine q rfl rfl (faS 0 rfl rfl (by first | assumption | (simp [ints_length] <;> omega))) ?_
          first | refine q rfl rfl (ld rfl rfl rfl) ?_ | refine q rfl rfl (ldS rfl rfl rfl) ?_
          refine TL.nil (nt ?_)
          refine TC.block ?_
          refine TC.seq ?_
          refine TC.region ?_
          refine q rfl rfl (eqI rfl rfl) ?_
          refine q rfl rfl (asg (v := .bool _) rfl) ?_
          refine TL.nil (nt ?_)
          first | refine TC.condD rfl (fun hk0 => ?_) (fun hk0 => ?_) | refine TC.cond rfl (fun hk0 => ?_) (fun hk0 => ?_)
          · refine TC.region ?_
            refine q rfl rfl (mv (v := .pointer _) rfl) ?_
            first | refine q rfl rfl (fa 1 rfl rfl) ?_ | refine q rfl rfl (faS 1 rfl rfl (by first | assumption | (simp [ints_length] <;> omega))) ?_
            first | refine q rfl rfl (ld rfl rfl rfl) ?_ | refine q rfl rfl (ldS rfl rfl rfl) ?_
            first | refine q rfl rfl (fa 2 rfl rfl) ?_ | refine q rfl rfl (faS 2 rfl rfl (by first | assumption | (simp [ints_length] <;> omega))) ?_
            first | refine q rfl rfl (ld rfl rfl rfl) ?_ | refine q rfl rfl (ldS rfl rfl rfl) ?_
            refine e rfl ?_
            refine cl (qcarve_ok a L nxt t.id t.n (by omega)) rfl PkL.p trivial ?_
            intro _ _
            change TL _ _ _ _ _ _ _ _ (sepL [_, _, _])
            refine TL.nil (nb (nt ?_))
            exact ⟨rfl, ⟨(carveQ L nxt t.id t.n).1, (carveQ L nxt t.id t.n).2.1⟩, ⟨hW.carve t.id t.n, hR.carve nxt t.id t.n, by dsimp only; omega⟩, ⟨rfl, rfl, rfl, rfl, rfl, trivial⟩, (by repeat (first | exact ent_nil _ | refine ent_take 0 rfl ?_ | refine ent_take 1 rfl ?_ | refine ent_take 2 rfl ?_ | refine ent_take 3 rfl ?_ | refine ent_take 4 rfl ?_ | refine ent_take 5 rfl ?_ | refine ent_take 6 rfl ?_ | refine ent_take 7 rfl ?_ | refine ent_take 8 rfl ?_ | refine ent_take 9 rfl ?_ | refine ent_take 10 rfl ?_ | refine ent_take 11 rfl ?_ | refine ent_take 12 rfl ?_))⟩
          · refine TC.seq ?_
            refine TC.region ?_
            refine q rfl rfl (eqI rfl rfl) ?_
            refine q rfl rfl (asg (v := .bool _) rfl) ?_
            refine TL.nil (nt ?_)
            first | refine TC.condD rfl (fun hk1 => ?_) (fun hk1 => ?_) | refine TC.cond rfl (fun hk1 => ?_) (fun hk1 => ?_)
            · refine TC.region ?_
              refine q rfl rfl (mv (v := .pointer _) rfl) ?_
              first | refine q rfl rfl (fa 1 rfl rfl) ?_ | refine q rfl rfl (faS 1 rfl rfl (by first | assumption | (simp [ints_length] <;> omega))) ?_
              first | refine q rfl rfl (ld rfl rfl rfl) ?_ | refine q rfl rfl (ldS rfl rfl rfl) ?_
              refine e rfl ?_
              refine cl (qclose_ok a L nxt t.id) rfl PkL.p trivial ?_
              intro _ _
              change TL _ _ _ _ _ _ _ _ (sepL [_, _, _])
              refine TL.nil (nb (nt ?_))
              exact ⟨rfl, ⟨(closeQ L t.id).1, nxt⟩, ⟨hW.close t.id, hR.close t.id, by dsimp only; omega⟩, ⟨rfl, rfl, rfl, rfl, rfl, trivial⟩, (by repeat (first | exact ent_nil _ | refine ent_take 0 rfl ?_ | refine ent_take 1 rfl ?_ | refine ent_take 2 rfl ?_ | refine ent_take 3 rfl ?_ | refine ent_take 4 rfl ?_ | refine ent_take 5 rfl ?_ | refine ent_take 6 rfl ?_ | refine ent_take 7 rfl ?_ | refine ent_take 8 rfl ?_ | refine ent_take 9 rfl ?_ | refine ent_take 10 rfl ?_ | refine ent_take 11 rfl ?_ | refine ent_take 12 rfl ?_))⟩
            · refine TC.seq ?_
              refine TC.region ?_
              refine q rfl rfl (eqI rfl rfl) ?_
              refine q rfl rfl (asg (v := .bool _) rfl) ?_
              refine TL.nil (nt ?_)
              first | refine TC.condD rfl (fun hk2 => ?_) (fun hk2 => ?_) | refine TC.cond rfl (fun hk2 => ?_) (fun hk2 => ?_)
              · refine TC.region ?_
                refine q rfl rfl (mv (v := .pointer _) rfl) ?_
                first | refine q rfl rfl (fa 1 rfl rfl) ?_ | refine q rfl rfl (faS 1 rfl rfl (by first | assumption | (simp [ints_length] <;> omega))) ?_
                first | refine q rfl rfl (ld rfl rfl rfl) ?_ | refine q rfl rfl (ldS rfl rfl rfl) ?_
                first | refine q rfl rfl (fa 2 rfl rfl) ?_ | refine q rfl rfl (faS 2 rfl rfl (by first | assumption | (simp [ints_length] <;> omega))) ?_
                first | refine q rfl rfl (ld rfl rfl rfl) ?_ | refine q rfl rfl (ldS rfl rfl rfl) ?_
                refine e rfl ?_
                refine cl (qcharge_ok a L nxt t.id t.n) rfl PkL.p trivial ?_
                intro _ _
                change TL _ _ _ _ _ _ _ _ (sepL [_, _, _])
                refine TL.nil (nb (nt ?_))
                exact ⟨rfl, ⟨(chargeQ L t.id t.n).1, nxt⟩, ⟨hW.charge t.id t.n, hR.charge t.id t.n, by dsimp only; omega⟩, ⟨rfl, rfl, rfl, rfl, rfl, trivial⟩, (by repeat (first | exact ent_nil _ | refine ent_take 0 rfl ?_ | refine ent_take 1 rfl ?_ | refine ent_take 2 rfl ?_ | refine ent_take 3 rfl ?_ | refine ent_take 4 rfl ?_ | refine ent_take 5 rfl ?_ | refine ent_take 6 rfl ?_ | refine ent_take 7 rfl ?_ | refine ent_take 8 rfl ?_ | refine ent_take 9 rfl ?_ | refine ent_take 10 rfl ?_ | refine ent_take 11 rfl ?_ | refine ent_take 12 rfl ?_))⟩
              · refine TC.seq ?_
                refine TC.region ?_
                refine q rfl rfl (eqI rfl rfl) ?_
                refine q rfl rfl (asg (v := .bool _) rfl) ?_
                refine TL.nil (nt ?_)
                first | refine TC.condD rfl (fun hk3 => ?_) (fun hk3 => ?_) | refine TC.cond rfl (fun hk3 => ?_) (fun hk3 => ?_)
                · refine TC.region ?_
                  refine q rfl rfl (mv (v := .pointer _) rfl) ?_
                  first | refine q rfl rfl (fa 1 rfl rfl) ?_ | refine q rfl rfl (faS 1 rfl rfl (by first | assumption | (simp [ints_length] <;> omega))) ?_
                  first | refine q rfl rfl (ld rfl rfl rfl) ?_ | refine q rfl rfl (ldS rfl rfl rfl) ?_
                  first | refine q rfl rfl (fa 2 rfl rfl) ?_ | refine q rfl rfl (faS 2 rfl rfl (by first | assumption | (simp [ints_length] <;> omega))) ?_
                  first | refine q rfl rfl (ld rfl rfl rfl) ?_ | refine q rfl rfl (ldS rfl rfl rfl) ?_
                  refine e rfl ?_
                  refine cl (qrefund_ok a L nxt t.id t.n) rfl PkL.p trivial ?_
                  intro _ _
                  change TL _ _ _ _ _ _ _ _ (sepL [_, _, _])
                  refine TL.nil (nb (nt ?_))
                  exact ⟨rfl, ⟨(refundQ L t.id t.n).1, nxt⟩, ⟨hW.refund t.id t.n, hR.refund t.id t.n, by dsimp only; omega⟩, ⟨rfl, rfl, rfl, rfl, rfl, trivial⟩, (by repeat (first | exact ent_nil _ | refine ent_take 0 rfl ?_ | refine ent_take 1 rfl ?_ | refine ent_take 2 rfl ?_ | refine ent_take 3 rfl ?_ | refine ent_take 4 rfl ?_ | refine ent_take 5 rfl ?_ | refine ent_take 6 rfl ?_ | refine ent_take 7 rfl ?_ | refine ent_take 8 rfl ?_ | refine ent_take 9 rfl ?_ | refine ent_take 10 rfl ?_ | refine ent_take 11 rfl ?_ | refine ent_take 12 rfl ?_))⟩
                · refine TC.skip (nb (nt ?_))
                  exact ⟨rfl, ⟨L, nxt⟩, ⟨hW, hR, by dsimp only; omega⟩, ⟨rfl, rfl, rfl, rfl, rfl, trivial⟩, (by repeat (first | exact ent_nil _ | refine ent_take 0 rfl ?_ | refine ent_take 1 rfl ?_ | refine ent_take 2 rfl ?_ | refine ent_take 3 rfl ?_ | refine ent_take 4 rfl ?_ | refine ent_take 5 rfl ?_ | refine ent_take 6 rfl ?_ | refine ent_take 7 rfl ?_ | refine ent_take 8 rfl ?_ | refine ent_take 9 rfl ?_ | refine ent_take 10 rfl ?_ | refine ent_take 11 rfl ?_ | refine ent_take 12 rfl ?_))⟩
        · rintro ⟨Z, nz⟩ ⟨hW, hR, hnx⟩ ρ1
          dsimp only [updL] at hW hR hnx ⊢
          refine TC.seq ?_
          refine TC.region ?_
          refine q rfl rfl (mv (v := .pointer _) rfl) ?_
          refine e rfl ?_
          refine cl (qids_ok a Z nz) rfl PkL.p trivial ?_
          intro y1 _
          change TL _ _ _ _ _ _ _ _ (sepL [_, _, _])
          have hIl : (Z.map (·.id)).length = Z.length := List.length_map _
          have hil := ints_length (Z.map (·.id))
          have hZ32 := hW.len
          have hall := hW.all (r := hR.choose) hR.choose_spec.1 hR.choose_spec.2.1
          rw [hR.choose_spec.2.2] at hall
          refine q rfl rfl (asg (v := .slice _ _ _) rfl) ?_
          refine TL.nil (nt ?_)
          refine TC.seq ?_
          refine TC.region ?_
          refine q rfl rfl (asg (v := .int _ _) rfl) ?_
          refine TL.nil (nt ?_)
          refine TC.seq ?_
          refine TC.seq ?_
          refine TC.region ?_
          refine q rfl rfl (asg (v := .int _ _) rfl) ?_
          refine TL.nil (nt ?_)
          refine TC.block ?_
          refine TC.loop (ι := Nat) (fun k => k ≤ Z.length) (fun k => [(0, .int .i64 m), (1, .slice ad l.length cap), (5, .pointer (some ⟨a, 0, none⟩)), (6, .int .i64 ((i : Nat) : Int)), (8, .slice y1.1 (Z.map (·.id)).length y1.2), (9, .int .i64 (sumI ((Z.take k).map (·.chg)))), (10, .int .i64 ((k : Nat) : Int))]) (fun k => sepL [slc 3 1 y1.1 (Z.map (·.id)).length y1.2 (ints (Z.map (·.id))), isQ a Z nz, F]) (fun k => Z.length - k) 0 (Nat.zero_le _) ⟨rfl, rfl, rfl, rfl, rfl, rfl, rfl, trivial⟩ (by repeat (first | exact ent_nil _ | refine ent_take 0 rfl ?_ | refine ent_take 1 rfl ?_ | refine ent_take 2 rfl ?_ | refine ent_take 3 rfl ?_ | refine ent_take 4 rfl ?_ | refine ent_take 5 rfl ?_ | refine ent_take 6 rfl ?_ | refine ent_take 7 rfl ?_ | refine ent_take 8 rfl ?_ | refine ent_take 9 rfl ?_ | refine ent_take 10 rfl ?_ | refine ent_take 11 rfl ?_ | refine ent_take 12 rfl ?_)) ?_
          rintro k hk ρ2
          dsimp only [updL] at hk ⊢
          refine TC.seq ?_
          refine TC.seq ?_
          refine TC.region ?_
          refine q rfl rfl (mv (v := .int _ _) rfl) ?_
          refine q rfl rfl (mv (v := .slice _ _ _) rfl) ?_
          refine q rfl rfl (len 3 1 rfl rfl) ?_
          refine q rfl rfl (lss rfl rfl) ?_
          refine TL.nil (nt ?_)
          first | refine TC.condD rfl (fun hlk => ?_) (fun hlk => ?_) | refine TC.cond rfl (fun hlk => ?_) (fun hlk => ?_)
          · have hlk2 : k < Z.length := by omega
            obtain ⟨u, hu⟩ : ∃ u, Z[k]? = some u := ⟨Z[k], List.getElem?_eq_getElem hlk2⟩
            have hum := List.mem_of_getElem? hu
            have hpos2 : 0 < (ints (Z.map (·.id))).length := by omega
            have hug := ids_get hu
            have hub := hW.big hum
            obtain ⟨hu1, hu2, hu3, hu4⟩ := use_yes hW.nd hum
            have hcs := chg_snoc hu
            have hcb := chg_b hW k
            have hcb1 := chg_b hW (k + 1)
            refine TC.skip (nt ?_)
            refine TC.seq ?_
            refine TC.block ?_
            refine TC.seq ?_
            refine TC.region ?_
            refine q rfl rfl (mv (v := .pointer _) rfl) ?_
            refine q rfl rfl (mv (v := .slice _ _ _) rfl) ?_
            refine q rfl rfl (mv (v := .int _ _) rfl) ?_
            first | refine q rfl rfl (ixS 3 1 rfl rfl rfl (by omega) (by first | assumption | (simp [ints_length] <;> omega))) ?_ | refine q rfl rfl (ixJ 3 1 rfl rfl rfl (by omega) (by omega) (by first | assumption | (simp [ints_length] <;> omega))) ?_ | refine q rfl rfl (ix 3 1 rfl rfl rfl (by omega) (by omega) rfl) ?_
            first | refine q rfl rfl (ld rfl rfl rfl) ?_ | refine q rfl rfl (ldS rfl rfl (ints_get hug)) ?_ | refine q rfl rfl (ldS rfl rfl rfl) ?_
            refine e rfl ?_
            refine cl (qchg_ok a Z nz u.id) rfl PkL.p trivial ?_
            intro _ _
            change TL _ _ _ _ _ _ _ _ (sepL [_, _, _])
            rw [hu3]
            refine q rfl rfl (asg (v := .int _ _) rfl) ?_
            refine TL.nil (nt ?_)
            refine TC.seq ?_
            refine TC.region ?_
            refine q rfl rfl (mv (v := .int _ _) rfl) ?_
            refine q rfl rfl (mv (v := .int _ _) rfl) ?_
            first | refine q rfl rfl (addI rfl rfl (by omega) (by omega)) ?_ | refine q rfl rfl (add rfl rfl rfl) ?_
            refine q rfl rfl (asg (v := .int _ _) rfl) ?_
            refine TL.nil (nt ?_)
            refine TC.seq ?_
            refine TC.seq ?_
            refine TC.region ?_
            refine q rfl rfl (asg (v := .int _ _) rfl) ?_
            refine TL.nil (nt ?_)
            refine TC.block ?_
            refine TC.loop (ι := Nat) (fun j => j ≤ Z.length) (fun j => [(0, .int .i64 m), (1, .slice ad l.length cap), (5, .pointer (some ⟨a, 0, none⟩)), (6, .int .i64 ((i : Nat) : Int)), (8, .slice y1.1 (Z.map (·.id)).length y1.2), (9, .int .i64 (sumI ((Z.take (k + 1)).map (·.chg)))), (10, .int .i64 ((k : Nat) : Int)), (11, .int .i64 (u.chg + givQ (Z.take j) u.id)), (12, .int .i64 ((j : Nat) : Int))]) (fun j => sepL [slc 3 1 y1.1 (Z.map (·.id)).length y1.2 (ints (Z.map (·.id))), isQ a Z nz, F]) (fun j => Z.length - j) 0 (Nat.zero_le _) ⟨rfl, rfl, rfl, rfl, rfl, congrArg (Value.int .i64) (by rw [hcs]), rfl, congrArg (Value.int .i64) (by rw [List.take_zero]; exact (Int.add_zero _).symm), rfl, trivial⟩ (by repeat (first | exact ent_nil _ | refine ent_take 0 rfl ?_ | refine ent_take 1 rfl ?_ | refine ent_take 2 rfl ?_ | refine ent_take 3 rfl ?_ | refine ent_take 4 rfl ?_ | refine ent_take 5 rfl ?_ | refine ent_take 6 rfl ?_ | refine ent_take 7 rfl ?_ | refine ent_take 8 rfl ?_ | refine ent_take 9 rfl ?_ | refine ent_take 10 rfl ?_ | refine ent_take 11 rfl ?_ | refine ent_take 12 rfl ?_)) ?_
            rintro j hj ρ3
            dsimp only [updL] at hj ⊢
            refine TC.seq ?_
            refine TC.seq ?_
            refine TC.region ?_
            refine q rfl rfl (mv (v := .int _ _) rfl) ?_
            refine q rfl rfl (mv (v := .slice _ _ _) rfl) ?_
            refine q rfl rfl (len 3 1 rfl rfl) ?_
            refine q rfl rfl (lss rfl rfl) ?_
            refine TL.nil (nt ?_)
            first | refine TC.condD rfl (fun hlj => ?_) (fun hlj => ?_) | refine TC.cond rfl (fun hlj => ?_) (fun hlj => ?_)
            · have hlj2 : j < Z.length := by omega
              obtain ⟨v, hv⟩ : ∃ v, Z[j]? = some v := ⟨Z[j], List.getElem?_eq_getElem hlj2⟩
              have hvm := List.mem_of_getElem? hv
              have hvg := ids_get hv
              have hvb := hW.big hvm
              obtain ⟨hv1, hv2, hv3, hv4⟩ := use_yes hW.nd hvm
              have hgs := givQ_snoc hv u.id
              have hgb := givQ_b hW j u.id
              refine TC.skip (nt ?_)
              refine TC.seq ?_
              refine TC.block ?_
              refine TC.seq ?_
              refine TC.draw _ [] [(0, false), (1, false), (2, false), (3, false), (4, false), (6, false), (7, false), (8, false), (9, false), (5, true), (10, false)] (by kernel_rfl) (by kernel_rfl) (ent_take 0 rfl (ent_nil _)) ?_
              refine dq rfl rfl rfl (mv (v := .pointer _) rfl) ?_
              refine dq rfl rfl rfl (mv (v := .slice _ _ _) rfl) ?_
              refine dq rfl rfl rfl (mv (v := .int _ _) rfl) ?_
              first | refine dq rfl rfl rfl (ixS 3 1 rfl rfl rfl (by omega) (by first | assumption | (simp [ints_length] <;> omega))) ?_ | refine dq rfl rfl rfl (ixJ 3 1 rfl rfl rfl (by omega) (by omega) (by first | assumption | (simp [ints_length] <;> omega))) ?_ | refine dq rfl rfl rfl (ix 3 1 rfl rfl rfl (by omega) (by omega) rfl) ?_
              first | refine dq rfl rfl rfl (ld rfl rfl rfl) ?_ | refine dq rfl rfl rfl (ldS rfl rfl (ints_get hvg)) ?_ | refine dq rfl rfl rfl (ldS rfl rfl (ints_get hug)) ?_ | refine dq rfl rfl rfl (ldS rfl rfl rfl) ?_
              refine dq rfl rfl rfl (mv (v := .slice _ _ _) rfl) ?_
              refine dq rfl rfl rfl (mv (v := .int _ _) rfl) ?_
              first | refine dq rfl rfl rfl (ixS 3 1 rfl rfl rfl (by omega) (by first | assumption | (simp [ints_length] <;> omega))) ?_ | refine dq rfl rfl rfl (ixJ 3 1 rfl rfl rfl (by omega) (by omega) (by first | assumption | (simp [ints_length] <;> omega))) ?_ | refine dq rfl rfl rfl (ix 3 1 rfl rfl rfl (by omega) (by omega) rfl) ?_
              first | refine dq rfl rfl rfl (ld rfl rfl rfl) ?_ | refine dq rfl rfl rfl (ldS rfl rfl (ints_get hvg)) ?_ | refine dq rfl rfl rfl (ldS rfl rfl (ints_get hug)) ?_ | refine dq rfl rfl rfl (ldS rfl rfl rfl) ?_
              refine de rfl rfl ?_
              refine cl (qpar_ok a Z nz v.id) rfl PkL.p trivial ?_
              intro _ _
              change ent _ _ ∧ TD _ _ _ _ _ _ _ _ _ _ (sepL [_, _, _])
              refine ⟨(by repeat (first | exact ent_nil _ | refine ent_take 0 rfl ?_ | refine ent_take 1 rfl ?_ | refine ent_take 2 rfl ?_ | refine ent_take 3 rfl ?_ | refine ent_take 4 rfl ?_ | refine ent_take 5 rfl ?_ | refine ent_take 6 rfl ?_ | refine ent_take 7 rfl ?_ | refine ent_take 8 rfl ?_ | refine ent_take 9 rfl ?_ | refine ent_take 10 rfl ?_ | refine ent_take 11 rfl ?_ | refine ent_take 12 rfl ?_)), ?_⟩
              rw [hv4]
              refine dq rfl rfl rfl (eqI rfl rfl) ?_
              refine TD.nil (nt ?_)
              first | refine TC.condD rfl (fun heq => ?_) (fun heq => ?_) | refine TC.cond rfl (fun heq => ?_) (fun heq => ?_)
              · rw [if_pos heq] at hgs
                refine TC.region ?_
                refine q rfl rfl (mv (v := .int _ _) rfl) ?_
                refine q rfl rfl (mv (v := .pointer _) rfl) ?_
                refine q rfl rfl (mv (v := .slice _ _ _) rfl) ?_
                refine q rfl rfl (mv (v := .int _ _) rfl) ?_
                first | refine q rfl rfl (ixS 3 1 rfl rfl rfl (by omega) (by first | assumption | (simp [ints_length] <;> omega))) ?_ | refine q rfl rfl (ixJ 3 1 rfl rfl rfl (by omega) (by omega) (by first | assumption | (simp [ints_length] <;> omega))) ?_ | refine q rfl rfl (ix 3 1 rfl rfl rfl (by omega) (by omega) rfl) ?_
                first | refine q rfl rfl (ld rfl rfl rfl) ?_ | refine q rfl rfl (ldS rfl rfl (ints_get hvg)) ?_ | refine q rfl rfl (ldS rfl rfl (ints_get hug)) ?_ | refine q rfl rfl (ldS rfl rfl rfl) ?_
                refine e rfl ?_
                refine cl (qlim_ok a Z nz v.id) rfl PkL.p trivial ?_
                intro _ _
                change TL _ _ _ _ _ _ _ _ (sepL [_, _, _])
                rw [hv2]
                first | refine q rfl rfl (addI rfl rfl (by omega) (by omega)) ?_ | refine q rfl rfl (add rfl rfl rfl) ?_
                refine q rfl rfl (asg (v := .int _ _) rfl) ?_
                refine TL.nil (nb (nt ?_))
                refine TC.region ?_
                refine q rfl rfl (mv (v := .int _ _) rfl) ?_
                first | refine q rfl rfl (addI rfl rfl (by omega) (by omega)) ?_ | refine q rfl rfl (add rfl rfl rfl) ?_
                refine q rfl rfl (asg (v := .int _ _) rfl) ?_
                refine TL.nil (nt ?_)
                exact ⟨rfl, (j + 1), (by omega), (by omega), ⟨rfl, rfl, rfl, rfl, rfl, rfl, rfl, congrArg (Value.int .i64) (by rw [hgs]; omega), rfl, trivial⟩, (by repeat (first | exact ent_nil _ | refine ent_take 0 rfl ?_ | refine ent_take 1 rfl ?_ | refine ent_take 2 rfl ?_ | refine ent_take 3 rfl ?_ | refine ent_take 4 rfl ?_ | refine ent_take 5 rfl ?_ | refine ent_take 6 rfl ?_ | refine ent_take 7 rfl ?_ | refine ent_take 8 rfl ?_ | refine ent_take 9 rfl ?_ | refine ent_take 10 rfl ?_ | refine ent_take 11 rfl ?_ | refine ent_take 12 rfl ?_))⟩
              · rw [if_neg heq] at hgs
                refine TC.skip (nb (nt ?_))
                refine TC.region ?_
                refine q rfl rfl (mv (v := .int _ _) rfl) ?_
                first | refine q rfl rfl (addI rfl rfl (by omega) (by omega)) ?_ | refine q rfl rfl (add rfl rfl rfl) ?_
                refine q rfl rfl (asg (v := .int _ _) rfl) ?_
                refine TL.nil (nt ?_)
                exact ⟨rfl, (j + 1), (by omega), (by omega), ⟨rfl, rfl, rfl, rfl, rfl, rfl, rfl, congrArg (Value.int .i64) (by rw [hgs]; omega), rfl, trivial⟩, (by repeat (first | exact ent_nil _ | refine ent_take 0 rfl ?_ | refine ent_take 1 rfl ?_ | refine ent_take 2 rfl ?_ | refine ent_take 3 rfl ?_ | refine ent_take 4 rfl ?_ | refine ent_take 5 rfl ?_ | refine ent_take 6 rfl ?_ | refine ent_take 7 rfl ?_ | refine ent_take 8 rfl ?_ | refine ent_take 9 rfl ?_ | refine ent_take 10 rfl ?_ | refine ent_take 11 rfl ?_ | refine ent_take 12 rfl ?_))⟩
            · obtain rfl : j = Z.length := by omega
              rw [List.take_length]
              refine TC.exit (et (et (eb (nt ?_))))
              refine TC.seq ?_
              refine TC.region ?_
              refine q rfl rfl (mv (v := .int _ _) rfl) ?_
              refine q rfl rfl (mv (v := .pointer _) rfl) ?_
              refine q rfl rfl (mv (v := .slice _ _ _) rfl) ?_
              refine q rfl rfl (mv (v := .int _ _) rfl) ?_
              first | refine q rfl rfl (ixS 3 1 rfl rfl rfl (by omega) (by first | assumption | (simp [ints_length] <;> omega))) ?_ | refine q rfl rfl (ixJ 3 1 rfl rfl rfl (by omega) (by omega) (by first | assumption | (simp [ints_length] <;> omega))) ?_ | refine q rfl rfl (ix 3 1 rfl rfl rfl (by omega) (by omega) rfl) ?_
              first | refine q rfl rfl (ld rfl rfl rfl) ?_ | refine q rfl rfl (ldS rfl rfl (ints_get hug)) ?_ | refine q rfl rfl (ldS rfl rfl rfl) ?_
              refine e rfl ?_
              refine cl (quses_ok a Z nz u.id) rfl PkL.p trivial ?_
              intro _ _
              change TL _ _ _ _ _ _ _ _ (sepL [_, _, _])
              rw [hu1]
              refine q rfl rfl (neI rfl rfl) ?_
              refine q rfl rfl (mv (v := .bool _) rfl) ?_
              refine TL.known 116 rfl (c := false) (decide_eq_false (by omega)) ?_
              refine qg rfl rfl rfl (mv (v := .int _ _) rfl) ?_
              refine qg rfl rfl rfl (mv (v := .pointer _) rfl) ?_
              refine qg rfl rfl rfl (mv (v := .slice _ _ _) rfl) ?_
              refine qg rfl rfl rfl (mv (v := .int _ _) rfl) ?_
              first | refine qg rfl rfl rfl (ixS 3 1 rfl rfl rfl (by omega) (by first | assumption | (simp [ints_length] <;> omega))) ?_ | refine qg rfl rfl rfl (ixJ 3 1 rfl rfl rfl (by omega) (by omega) (by first | assumption | (simp [ints_length] <;> omega))) ?_ | refine qg rfl rfl rfl (ix 3 1 rfl rfl rfl (by omega) (by omega) rfl) ?_
              first | refine qg rfl rfl rfl (ld rfl rfl rfl) ?_ | refine qg rfl rfl rfl (ldS rfl rfl (ints_get hug)) ?_ | refine qg rfl rfl rfl (ldS rfl rfl rfl) ?_
              refine eg rfl rfl ?_
              refine cl (qlim_ok a Z nz u.id) rfl PkL.p trivial ?_
              intro _ _
              change TL _ _ _ _ _ _ _ _ (sepL [_, _, _])
              rw [hu2]
              refine qg rfl rfl rfl (gtr rfl rfl) ?_
              first | refine q rfl rfl (pkT (v := .bool _) rfl rfl) ?_ | refine q rfl rfl (pkF (v := .bool _) rfl rfl) ?_
              refine q rfl rfl (mv (v := .bool _) rfl) ?_
              refine TL.known 126 rfl (c := false) (decide_eq_false (by omega)) ?_
              refine qg rfl rfl rfl (mv (v := .pointer _) rfl) ?_
              refine qg rfl rfl rfl (mv (v := .slice _ _ _) rfl) ?_
              refine qg rfl rfl rfl (mv (v := .int _ _) rfl) ?_
              first | refine qg rfl rfl rfl (ixS 3 1 rfl rfl rfl (by omega) (by first | assumption | (simp [ints_length] <;> omega))) ?_ | refine qg rfl rfl rfl (ixJ 3 1 rfl rfl rfl (by omega) (by omega) (by first | assumption | (simp [ints_length] <;> omega))) ?_ | refine qg rfl rfl rfl (ix 3 1 rfl rfl rfl (by omega) (by omega) rfl) ?_
              first | refine qg rfl rfl rfl (ld rfl rfl rfl) ?_ | refine qg rfl rfl rfl (ldS rfl rfl (ints_get hug)) ?_ | refine qg rfl rfl rfl (ldS rfl rfl rfl) ?_
              refine eg rfl rfl ?_
              refine cl (qchg_ok a Z nz u.id) rfl PkL.p trivial ?_
              intro _ _
              change TL _ _ _ _ _ _ _ _ (sepL [_, _, _])
              rw [hu3]
              refine qg rfl rfl rfl (lss rfl rfl) ?_
              first | refine q rfl rfl (pkT (v := .bool _) rfl rfl) ?_ | refine q rfl rfl (pkF (v := .bool _) rfl rfl) ?_
              refine TL.nil (nt ?_)
              refine TC.condD rfl (fun hc2 => absurd hc2 (by omega)) (fun hc2 => ?_)
              refine TC.skip (nb (nt ?_))
              refine TC.region ?_
              refine q rfl rfl (mv (v := .int _ _) rfl) ?_
              first | refine q rfl rfl (addI rfl rfl (by omega) (by omega)) ?_ | refine q rfl rfl (add rfl rfl rfl) ?_
              refine q rfl rfl (asg (v := .int _ _) rfl) ?_
              refine TL.nil (nt ?_)
              exact ⟨rfl, (k + 1), (by omega), (by omega), ⟨rfl, rfl, rfl, rfl, rfl, rfl, rfl, trivial⟩, (by repeat (first | exact ent_nil _ | refine ent_take 0 rfl ?_ | refine ent_take 1 rfl ?_ | refine ent_take 2 rfl ?_ | refine ent_take 3 rfl ?_ | refine ent_take 4 rfl ?_ | refine ent_take 5 rfl ?_ | refine ent_take 6 rfl ?_ | refine ent_take 7 rfl ?_ | refine ent_take 8 rfl ?_ | refine ent_take 9 rfl ?_ | refine ent_take 10 rfl ?_ | refine ent_take 11 rfl ?_ | refine ent_take 12 rfl ?_))⟩
          · obtain rfl : k = Z.length := by omega
            rw [List.take_length]
            refine TC.exit (et (et (eb (nt ?_))))
            refine TC.seq ?_
            refine TC.region ?_
            refine q rfl rfl (mv (v := .int _ _) rfl) ?_
            refine q rfl rfl (mv (v := .int _ _) rfl) ?_
            refine q rfl rfl (gtr rfl rfl) ?_
            refine TL.nil (nt ?_)
            refine TC.condD rfl (fun hc1 => absurd hc1 (by omega)) (fun hc1 => ?_)
            refine TC.skip (nb (nt ?_))
            refine TC.region ?_
            refine q rfl rfl (mv (v := .int _ _) rfl) ?_
            first | refine q rfl rfl (addI rfl rfl (by omega) (by omega)) ?_ | refine q rfl rfl (add rfl rfl rfl) ?_
            refine q rfl rfl (asg (v := .int _ _) rfl) ?_
            refine TL.nil (nt ?_)
            exact ⟨rfl, ⟨i + 1, Z, nz⟩, ⟨by dsimp only; omega, hW, hR, by dsimp only; omega⟩, (by dsimp only; omega), ⟨rfl, rfl, rfl, rfl, trivial⟩, (by repeat (first | exact ent_nil _ | refine ent_take 0 rfl ?_ | refine ent_take 1 rfl ?_ | refine ent_take 2 rfl ?_ | refine ent_take 3 rfl ?_ | refine ent_take 4 rfl ?_ | refine ent_take 5 rfl ?_ | refine ent_take 6 rfl ?_ | refine ent_take 7 rfl ?_ | refine ent_take 8 rfl ?_ | refine ent_take 9 rfl ?_ | refine ent_take 10 rfl ?_ | refine ent_take 11 rfl ?_ | refine ent_take 12 rfl ?_))⟩
      · refine TC.exit (et (et (eb (nt ?_))))
        refine TC.seq ?_
        refine TC.region ?_
        refine e rfl ?_
        refine cl alive_ok rfl (picked_nil _) trivial ?_
        intro _ _
        change TL _ _ _ _ _ _ _ _ (sepL [_, _])
        refine q rfl rfl (asg (v := .bool _) rfl) ?_
        refine TL.nil (nt ?_)
        refine TC.ret ?_
        exact Ret.i () [_] ⟨rfl, trivial⟩ rfl trivial (ent_take 1 rfl (ent_nil _))
  · refine TC.skip (nt ?_)
    refine TC.seq ?_
    refine TC.region ?_
    refine q rfl rfl (mv (v := .int _ _) rfl) ?_
    refine e rfl ?_
    refine cl (qnew_no m hm) rfl (picked_nil _) trivial ?_
    intro _ _
    change TL _ _ _ _ _ _ _ _ (sepL [_])
    refine q rfl rfl (asg (v := .pointer _) rfl) ?_
    refine TL.nil (nt ?_)
    refine TC.seq ?_
    refine TC.seq ?_
    refine TC.region ?_
    refine q rfl rfl (mv (v := .slice _ _ _) rfl) ?_
    refine q rfl rfl (len 38 3 rfl rfl) ?_
    refine q rfl rfl (gtr rfl rfl) ?_
    refine q rfl rfl (mv (v := .bool _) rfl) ?_
    refine TL.split 20 rfl (fun hb => ?_) (fun hb => ?_)
    · have hb := of_decide_eq_true hb
      refine qs rfl rfl ?_
      refine qs rfl rfl ?_
      first | refine q rfl rfl (pkT (v := .bool _) rfl rfl) ?_ | refine q rfl rfl (pkF (v := .bool _) rfl rfl) ?_
      refine TL.nil (nt ?_)
      refine TC.condT rfl ?_
      refine TC.seq ?_
      refine TC.region ?_
      refine q rfl rfl (asg (v := .bool _) rfl) ?_
      refine TL.nil (nt ?_)
      refine TC.ret (rt ?_)
      exact Ret.i () [_] ⟨rfl, trivial⟩ rfl trivial (ent_take 0 rfl (ent_nil _))
    · have hb := of_decide_eq_false hb
      refine qg rfl rfl rfl (mv (v := .pointer _) rfl) ?_
      refine qg rfl rfl rfl (eqNil rfl rfl rfl) ?_
      first | refine q rfl rfl (pkT (v := .bool _) rfl rfl) ?_ | refine q rfl rfl (pkF (v := .bool _) rfl rfl) ?_
      refine TL.nil (nt ?_)
      refine TC.condT rfl ?_
      refine TC.seq ?_
      refine TC.region ?_
      refine q rfl rfl (asg (v := .bool _) rfl) ?_
      refine TL.nil (nt ?_)
      refine TC.ret (rt ?_)
      exact Ret.i () [_] ⟨rfl, trivial⟩ rfl trivial (ent_take 0 rfl (ent_nil _))

end Go.Proofs.Ytmffldmipddngaa
