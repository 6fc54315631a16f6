/-
  Proved here: what functions of this program compute, each as a contract over symbolic states, under the premises that each theorem names (most lines printed by a program of the prover).
-/
import Derived.Test.YtncafknmdmoaoaaRdD
namespace Go.Proofs.Ytncafknmdmoaoaa
open Go Go.QM
structure RAct where
  kind : Int
  id : Int
  prio : Int
  sl : Int
  ad : Option Addr
  cap : Nat
  xs : List Int
def ractC (t : RAct) : List Value := [.int .i64 t.kind, .int .i64 t.id, .int .i64 t.prio, .int .i64 t.sl, .slice t.ad t.xs.length t.cap]
def ractsC (l : List RAct) : List Value := l.flatMap ractC
theorem ractC_sz (t : RAct) : (ractC t).length = 5 := rfl
theorem ractsC_length (l : List RAct) : (ractsC l).length = l.length * 5 := flat_length ractC_sz l
/-- What holds of queues behind N acts. -/
structure RJ (S : List Th) (N : Nat) : Prop where
  inv : RInv S
  lf : ∀ t ∈ S, 1 ≤ t.left ∧ t.left ≤ t.whole
  len : S.length ≤ N
theorem RJ.nil (N : Nat) : RJ [] N := ⟨RInv.nil, (fun t h => by cases h), Nat.zero_le _⟩
theorem RJ.next {S : List Th} {N M : Nat} (h : RJ S N) (hM : N ≤ M) : RJ S M := ⟨h.inv, h.lf, Nat.le_trans h.len hM⟩
theorem RJ.l1 {S : List Th} {N : Nat} (h : RJ S N) : ∀ t ∈ S, 1 ≤ t.left := fun t ht => (h.lf t ht).1
theorem RJ.add {S : List Th} {N : Nat} (h : RJ S N) (id pr sl : Int) : RJ (addS S id pr sl).1 (N + 1) := by
  rw [addS]
  split
  · exact h.next (by omega)
  · split
    · exact h.next (by omega)
    · rename_i h1 h2
      refine ⟨h.inv.add h2 (by dsimp only; omega), fun t ht => ?_, by have := h.len; rw [List.length_append]; simp; omega⟩
      rcases List.mem_append.1 ht with ht | ht
      · exact h.lf t ht
      · rw [List.mem_singleton.1 ht]; dsimp only; omega
theorem RJ.drop {S : List Th} {N : Nat} (h : RJ S N) (xs : List Int) : RJ (dropS S xs) N :=
  ⟨h.inv.sub (dropS_sub S xs), fun t ht => h.lf t ((dropS_sub S xs).subset ht), Nat.le_trans (dropS_sub S xs).length_le h.len⟩
theorem RJ.rnd {S : List Th} {N : Nat} (h : RJ S N) {t : Th} (ht : t ∈ S) : RJ (rndS S t) N := by
  refine ⟨h.inv.rnd ht, fun u hu => ?_, by rw [rnd_len h.inv.nd ht]; exact h.len⟩
  rcases List.mem_append.1 hu with hu | hu
  · exact h.lf u (List.mem_filter.1 hu).1
  · rw [List.mem_singleton.1 hu]
    have := h.lf t ht
    dsimp only; omega
theorem RJ.setL {S : List Th} {N : Nat} (h : RJ S N) {t : Th} (ht : t ∈ S) {v : Int} (hv : 1 ≤ v ∧ v ≤ t.left) : RJ (setL S t.id v) N := by
  have h0 := h.lf t ht
  have h1 := h.inv.rg t ht
  refine ⟨h.inv.setL t.id (by omega), fun u hu => ?_, by rw [setL_len]; exact h.len⟩
  obtain ⟨w, hw, rfl⟩ := List.mem_map.1 hu
  split
  · rename_i e
    rw [h.inv.nd.inj hw ht e]
    dsimp only; omega
  · exact h.lf w hw
theorem RJ.tick {S : List Th} {N : Nat} (h : RJ S N) : RJ (tickS S) N := by
  rw [tickS]
  cases ht : topS S with
  | none => exact h
  | some t =>
    have hm := (top_mem ht).1
    have := h.lf t hm
    dsimp only
    split
    · exact h.rnd hm
    · exact h.setL hm (by omega)
theorem RJ.yield {S : List Th} {N : Nat} (h : RJ S N) : RJ (yieldS S) N := by
  rw [yieldS]
  cases ht : topS S with
  | none => exact h
  | some t => exact h.rnd (top_mem ht).1
def doS (S : List Th) (t : RAct) : List Th := if t.kind = 0 then (addS S t.id t.prio t.sl).1 else if t.kind = 1 then dropS S t.xs else if t.kind = 2 then tickS S else if t.kind = 3 then yieldS S else S
theorem RJ.act {S : List Th} {N : Nat} (h : RJ S N) (t : RAct) : RJ (doS S t) (N + 1) := by
  rw [doS]
  split
  · exact h.add _ _ _
  · split
    · exact (h.drop _).next (by omega)
    · split
      · exact h.tick.next (by omega)
      · split
        · exact h.yield.next (by omega)
        · exact h.next (by omega)
def fitsL (l : List RAct) : Prop := l.length ≤ 150 ∧ ∀ t ∈ l, t.xs.length ≤ 50
instance (l : List RAct) : Decidable (fitsL l) := inferInstanceAs (Decidable (l.length ≤ 150 ∧ ∀ t ∈ l, t.xs.length ≤ 50))

theorem s1 : addS [] 4 1 2 = ([⟨4, 1, 2, 2⟩], 0) := by kernel_rfl
theorem s2 : addS [⟨4, 1, 2, 2⟩] 5 1 1 = ([⟨4, 1, 2, 2⟩, ⟨5, 1, 1, 1⟩], 0) := by kernel_rfl
theorem s3 : addS [⟨4, 1, 2, 2⟩, ⟨5, 1, 1, 1⟩] 6 0 3 = ([⟨4, 1, 2, 2⟩, ⟨5, 1, 1, 1⟩, ⟨6, 0, 3, 3⟩], 0) := by kernel_rfl
theorem s4 : runS [⟨4, 1, 2, 2⟩, ⟨5, 1, 1, 1⟩, ⟨6, 0, 3, 3⟩] = 4 := by kernel_rfl
theorem s5 : tickS [⟨4, 1, 2, 2⟩, ⟨5, 1, 1, 1⟩, ⟨6, 0, 3, 3⟩] = [⟨4, 1, 2, 1⟩, ⟨5, 1, 1, 1⟩, ⟨6, 0, 3, 3⟩] ∧ runS [⟨4, 1, 2, 1⟩, ⟨5, 1, 1, 1⟩, ⟨6, 0, 3, 3⟩] = 4 := ⟨by kernel_rfl, by kernel_rfl⟩
theorem s6 : tickS [⟨4, 1, 2, 1⟩, ⟨5, 1, 1, 1⟩, ⟨6, 0, 3, 3⟩] = [⟨5, 1, 1, 1⟩, ⟨6, 0, 3, 3⟩, ⟨4, 1, 2, 2⟩] ∧ runS [⟨5, 1, 1, 1⟩, ⟨6, 0, 3, 3⟩, ⟨4, 1, 2, 2⟩] = 5 := ⟨by kernel_rfl, by kernel_rfl⟩
theorem s7 : tickS [⟨5, 1, 1, 1⟩, ⟨6, 0, 3, 3⟩, ⟨4, 1, 2, 2⟩] = [⟨6, 0, 3, 3⟩, ⟨4, 1, 2, 2⟩, ⟨5, 1, 1, 1⟩] ∧ runS [⟨6, 0, 3, 3⟩, ⟨4, 1, 2, 2⟩, ⟨5, 1, 1, 1⟩] = 4 := ⟨by kernel_rfl, by kernel_rfl⟩
theorem s8 : prioS [⟨6, 0, 3, 3⟩, ⟨4, 1, 2, 2⟩, ⟨5, 1, 1, 1⟩] 5 = 1 ∧ rowR [⟨6, 0, 3, 3⟩, ⟨4, 1, 2, 2⟩, ⟨5, 1, 1, 1⟩] 1 = [4, 5] ∧ leftS [⟨6, 0, 3, 3⟩, ⟨4, 1, 2, 2⟩, ⟨5, 1, 1, 1⟩] 4 = 2 := ⟨by kernel_rfl, by kernel_rfl, by kernel_rfl⟩
theorem s9 : dropS [⟨6, 0, 3, 3⟩, ⟨4, 1, 2, 2⟩, ⟨5, 1, 1, 1⟩] [4, 5, 9] = [⟨6, 0, 3, 3⟩] := by kernel_rfl
theorem s10 : runS [⟨6, 0, 3, 3⟩] = 6 ∧ yieldS [⟨6, 0, 3, 3⟩] = [⟨6, 0, 3, 3⟩] := ⟨by kernel_rfl, by kernel_rfl⟩
theorem s11 : addS [⟨6, 0, 3, 3⟩] 6 1 1 = ([⟨6, 0, 3, 3⟩], 7) ∧ addS [⟨6, 0, 3, 3⟩] 7 8 1 = ([⟨6, 0, 3, 3⟩], 1) := ⟨by kernel_rfl, by kernel_rfl⟩
theorem s12 : RInv [⟨6, 0, 3, 3⟩] := ⟨show (List.map _ _).Nodup by decide, by decide⟩

set_option maxHeartbeats 4000000 in
theorem alive_ok  : FSpec Try.prog 10 [] noRd [] (fun _ : Unit => .bool true) (fun _ => True) (fun _ => []) := by
  refine FSpec.intro (rs := [.tmp 0]) (by kernel_rfl) Try.func10 rfl Try.ntmps10 (by rfl) rfl ?_
  intro F _
  change TC _ _ _ _ _ _ _ (sepL [_])
  refine TC.seq ?_
  refine TC.region ?_
  refine q rfl rfl (asg (v := .bool _) rfl) ?_
  refine TL.nil (nt ?_)
  refine TC.seq ?_
  refine TC.region ?_
  refine e rfl ?_
  refine cl rnew_ok rfl (picked_nil _) trivial ?_
  intro a _
  change TL _ _ _ _ _ _ _ _ (sepL [_, _])
  refine q rfl rfl (asg (v := .pointer _) rfl) ?_
  refine TL.nil (nt ?_)
  refine TC.seq ?_
  refine TC.region ?_
  refine q rfl rfl (mv (v := .pointer _) rfl) ?_
  refine e rfl ?_
  refine cl (add_ok a [] (by decide) 4 1 2) rfl PkL.p trivial ?_
  intro _ _
  change TL _ _ _ _ _ _ _ _ (sepL [_, _])
  rw [s1]
  dsimp only
  refine q rfl rfl (mv (v := .pointer _) rfl) ?_
  refine e rfl ?_
  refine cl (add_ok a [⟨4, 1, 2, 2⟩] (by decide) 5 1 1) rfl PkL.p trivial ?_
  intro _ _
  change TL _ _ _ _ _ _ _ _ (sepL [_, _])
  rw [s2]
  dsimp only
  refine q rfl rfl (mv (v := .pointer _) rfl) ?_
  refine e rfl ?_
  refine cl (add_ok a [⟨4, 1, 2, 2⟩, ⟨5, 1, 1, 1⟩] (by decide) 6 0 3) rfl PkL.p trivial ?_
  intro _ _
  change TL _ _ _ _ _ _ _ _ (sepL [_, _])
  rw [s3]
  dsimp only
  refine q rfl rfl (asg (v := .int _ _) rfl) ?_
  refine q rfl rfl (asg (v := .int _ _) rfl) ?_
  refine q rfl rfl (asg (v := .int _ _) rfl) ?_
  refine TL.nil (nt ?_)
  refine TC.seq ?_
  refine TC.region ?_
  refine q rfl rfl (mv (v := .pointer _) rfl) ?_
  refine e rfl ?_
  refine cl (run_ok a [⟨4, 1, 2, 2⟩, ⟨5, 1, 1, 1⟩, ⟨6, 0, 3, 3⟩] (by decide)) rfl PkL.p trivial ?_
  intro _ _
  change TL _ _ _ _ _ _ _ _ (sepL [_, _])
  rw [s4]
  refine q rfl rfl (asg (v := .int _ _) rfl) ?_
  refine TL.nil (nt ?_)
  refine TC.seq ?_
  refine TC.region ?_
  refine q rfl rfl (mv (v := .pointer _) rfl) ?_
  refine e rfl ?_
  refine cl (qtick_ok a [⟨4, 1, 2, 2⟩, ⟨5, 1, 1, 1⟩, ⟨6, 0, 3, 3⟩] (by decide) (by decide)) rfl PkL.p trivial ?_
  intro _ _
  change TL _ _ _ _ _ _ _ _ (sepL [_, _])
  rw [s5.1, s5.2]
  refine q rfl rfl (mv (v := .pointer _) rfl) ?_
  refine e rfl ?_
  refine cl (qtick_ok a [⟨4, 1, 2, 1⟩, ⟨5, 1, 1, 1⟩, ⟨6, 0, 3, 3⟩] (by decide) (by decide)) rfl PkL.p trivial ?_
  intro _ _
  change TL _ _ _ _ _ _ _ _ (sepL [_, _])
  rw [s6.1, s6.2]
  refine q rfl rfl (mv (v := .pointer _) rfl) ?_
  refine e rfl ?_
  refine cl (qtick_ok a [⟨5, 1, 1, 1⟩, ⟨6, 0, 3, 3⟩, ⟨4, 1, 2, 2⟩] (by decide) (by decide)) rfl PkL.p trivial ?_
  intro _ _
  change TL _ _ _ _ _ _ _ _ (sepL [_, _])
  rw [s7.1, s7.2]
  refine q rfl rfl (asg (v := .int _ _) rfl) ?_
  refine q rfl rfl (asg (v := .int _ _) rfl) ?_
  refine q rfl rfl (asg (v := .int _ _) rfl) ?_
  refine TL.nil (nt ?_)
  refine TC.seq ?_
  refine TC.region ?_
  refine q rfl rfl (mv (v := .pointer _) rfl) ?_
  refine e rfl ?_
  refine cl (qlen_ok a [⟨6, 0, 3, 3⟩, ⟨4, 1, 2, 2⟩, ⟨5, 1, 1, 1⟩] (by decide)) rfl PkL.p trivial ?_
  intro _ _
  change TL _ _ _ _ _ _ _ _ (sepL [_, _])
  refine q rfl rfl (asg (v := .int _ _) rfl) ?_
  refine TL.nil (nt ?_)
  refine TC.seq ?_
  refine TC.region ?_
  refine q rfl rfl (mv (v := .pointer _) rfl) ?_
  refine e rfl ?_
  refine cl (qprio_ok a [⟨6, 0, 3, 3⟩, ⟨4, 1, 2, 2⟩, ⟨5, 1, 1, 1⟩] (by decide) 5) rfl PkL.p trivial ?_
  intro _ _
  change TL _ _ _ _ _ _ _ _ (sepL [_, _])
  rw [s8.1]
  refine q rfl rfl (mv (v := .pointer _) rfl) ?_
  refine e rfl ?_
  refine cl (row_ok a [⟨6, 0, 3, 3⟩, ⟨4, 1, 2, 2⟩, ⟨5, 1, 1, 1⟩] (by decide) 1) rfl PkL.p trivial ?_
  intro y1 _
  change TL _ _ _ _ _ _ _ _ (sepL [_, _, _])
  rw [s8.2.1]
  refine q rfl rfl (mv (v := .pointer _) rfl) ?_
  refine e rfl ?_
  refine cl (qleft_ok a [⟨6, 0, 3, 3⟩, ⟨4, 1, 2, 2⟩, ⟨5, 1, 1, 1⟩] (by decide) 4) rfl PkL.p trivial ?_
  intro _ _
  change TL _ _ _ _ _ _ _ _ (sepL [_, _, _])
  rw [s8.2.2]
  refine q rfl rfl (asg (v := .int _ _) rfl) ?_
  refine q rfl rfl (asg (v := .slice _ _ _) rfl) ?_
  refine q rfl rfl (asg (v := .int _ _) rfl) ?_
  refine TL.nil (nt ?_)
  refine TC.seq ?_
  refine TC.region ?_
  refine q rfl rfl (mv (v := .pointer _) rfl) ?_
  refine e rfl ?_
  refine bs (cs := [.int _ _, .int _ _, .int _ _]) rfl ?_
  intro b1
  refine e rfl ?_
  refine cl (drop_ok a [⟨6, 0, 3, 3⟩, ⟨4, 1, 2, 2⟩, ⟨5, 1, 1, 1⟩] (by decide) _ _ [4, 5, 9] (by decide)) rfl PkL.p ⟨_, RdSI.rd⟩ ?_
  intro _ _
  change TL _ _ _ _ _ _ _ _ (sepL [_, _, _, _])
  rw [s9]
  refine q rfl rfl (asg (v := .int _ _) rfl) ?_
  refine TL.nil (nt ?_)
  refine TC.seq ?_
  refine TC.region ?_
  refine q rfl rfl (mv (v := .int _ _) rfl) ?_
  refine q rfl rfl (eqI rfl rfl) ?_
  refine q rfl rfl (mv (v := .bool _) rfl) ?_
  refine TL.known 42 rfl (c := true) (by decide) ?_
  refine qg rfl rfl rfl (mv (v := .int _ _) rfl) ?_
  refine qg rfl rfl rfl (eqI rfl rfl) ?_
  first | refine q rfl rfl (pkT rfl rfl) ?_ | refine q rfl rfl (pkF rfl rfl) ?_
  refine q rfl rfl (mv (v := .bool _) rfl) ?_
  refine TL.known 46 rfl (c := true) (by decide) ?_
  refine qg rfl rfl rfl (mv (v := .int _ _) rfl) ?_
  refine qg rfl rfl rfl (eqI rfl rfl) ?_
  first | refine q rfl rfl (pkT rfl rfl) ?_ | refine q rfl rfl (pkF rfl rfl) ?_
  refine q rfl rfl (mv (v := .bool _) rfl) ?_
  refine TL.known 50 rfl (c := true) (by decide) ?_
  refine qg rfl rfl rfl (mv (v := .int _ _) rfl) ?_
  refine qg rfl rfl rfl (eqI rfl rfl) ?_
  first | refine q rfl rfl (pkT rfl rfl) ?_ | refine q rfl rfl (pkF rfl rfl) ?_
  refine q rfl rfl (mv (v := .bool _) rfl) ?_
  refine TL.known 54 rfl (c := true) (by decide) ?_
  refine qg rfl rfl rfl (mv (v := .int _ _) rfl) ?_
  refine qg rfl rfl rfl (eqI rfl rfl) ?_
  first | refine q rfl rfl (pkT rfl rfl) ?_ | refine q rfl rfl (pkF rfl rfl) ?_
  refine q rfl rfl (mv (v := .bool _) rfl) ?_
  refine TL.known 58 rfl (c := true) (by decide) ?_
  refine qg rfl rfl rfl (mv (v := .int _ _) rfl) ?_
  refine qg rfl rfl rfl (eqI rfl rfl) ?_
  first | refine q rfl rfl (pkT rfl rfl) ?_ | refine q rfl rfl (pkF rfl rfl) ?_
  refine q rfl rfl (mv (v := .bool _) rfl) ?_
  refine TL.known 62 rfl (c := true) (by decide) ?_
  refine qg rfl rfl rfl (mv (v := .int _ _) rfl) ?_
  refine qg rfl rfl rfl (eqI rfl rfl) ?_
  first | refine q rfl rfl (pkT rfl rfl) ?_ | refine q rfl rfl (pkF rfl rfl) ?_
  refine q rfl rfl (mv (v := .bool _) rfl) ?_
  refine TL.known 66 rfl (c := true) (by decide) ?_
  refine qg rfl rfl rfl (mv (v := .int _ _) rfl) ?_
  refine qg rfl rfl rfl (eqI rfl rfl) ?_
  first | refine q rfl rfl (pkT rfl rfl) ?_ | refine q rfl rfl (pkF rfl rfl) ?_
  refine q rfl rfl (mv (v := .bool _) rfl) ?_
  refine TL.known 70 rfl (c := true) (by decide) ?_
  refine qg rfl rfl rfl (mv (v := .int _ _) rfl) ?_
  refine qg rfl rfl rfl (eqI rfl rfl) ?_
  first | refine q rfl rfl (pkT rfl rfl) ?_ | refine q rfl rfl (pkF rfl rfl) ?_
  refine q rfl rfl (mv (v := .bool _) rfl) ?_
  refine TL.known 74 rfl (c := true) (by decide) ?_
  refine qg rfl rfl rfl (mv (v := .slice _ _ _) rfl) ?_
  refine eg rfl rfl ?_
  refine bs (cs := [.int _ _, .int _ _]) rfl ?_
  intro b2
  refine eg rfl rfl ?_
  refine cl (same_ok y1.1 _ [4, 5] (some ⟨b2, 0, none⟩) _ [4, 5] (by decide)) rfl (picked_nil _) ⟨⟨_, RdSI.rd (ad := y1.1)⟩, ⟨_, RdSI.rd (ad := some ⟨b2, 0, none⟩)⟩⟩ ?_
  intro _ _
  change TL _ _ _ _ _ _ _ _ (sepL [_, _, _, _, _])
  first | refine q rfl rfl (pkT rfl rfl) ?_ | refine q rfl rfl (pkF rfl rfl) ?_
  refine q rfl rfl (mv (v := .bool _) rfl) ?_
  refine TL.known 79 rfl (c := true) (by decide) ?_
  refine qg rfl rfl rfl (mv (v := .int _ _) rfl) ?_
  refine qg rfl rfl rfl (eqI rfl rfl) ?_
  first | refine q rfl rfl (pkT rfl rfl) ?_ | refine q rfl rfl (pkF rfl rfl) ?_
  refine q rfl rfl (mv (v := .bool _) rfl) ?_
  refine TL.known 83 rfl (c := true) (by decide) ?_
  refine qg rfl rfl rfl (mv (v := .int _ _) rfl) ?_
  refine qg rfl rfl rfl (eqI rfl rfl) ?_
  first | refine q rfl rfl (pkT rfl rfl) ?_ | refine q rfl rfl (pkF rfl rfl) ?_
  refine q rfl rfl (mv (v := .bool _) rfl) ?_
  refine TL.known 87 rfl (c := true) (by decide) ?_
  refine qg rfl rfl rfl (mv (v := .pointer _) rfl) ?_
  refine eg rfl rfl ?_
  refine cl (run_ok a [⟨6, 0, 3, 3⟩] (by decide)) rfl PkL.p trivial ?_
  intro _ _
  change TL _ _ _ _ _ _ _ _ (sepL [_, _, _, _, _])
  rw [s10.1]
  refine qg rfl rfl rfl (eqI rfl rfl) ?_
  first | refine q rfl rfl (pkT rfl rfl) ?_ | refine q rfl rfl (pkF rfl rfl) ?_
  refine q rfl rfl (mv (v := .bool _) rfl) ?_
  refine TL.known 92 rfl (c := true) (by decide) ?_
  refine qg rfl rfl rfl (mv (v := .pointer _) rfl) ?_
  refine eg rfl rfl ?_
  refine cl (yield_ok a [⟨6, 0, 3, 3⟩] (by decide) s12) rfl PkL.p trivial ?_
  intro _ _
  change TL _ _ _ _ _ _ _ _ (sepL [_, _, _, _, _])
  rw [s10.2, s10.1]
  refine qg rfl rfl rfl (eqI rfl rfl) ?_
  first | refine q rfl rfl (pkT rfl rfl) ?_ | refine q rfl rfl (pkF rfl rfl) ?_
  refine q rfl rfl (mv (v := .bool _) rfl) ?_
  refine TL.known 97 rfl (c := true) (by decide) ?_
  refine qg rfl rfl rfl (mv (v := .pointer _) rfl) ?_
  refine eg rfl rfl ?_
  refine cl (add_ok a [⟨6, 0, 3, 3⟩] (by decide) 6 1 1) rfl PkL.p trivial ?_
  intro _ _
  change TL _ _ _ _ _ _ _ _ (sepL [_, _, _, _, _])
  rw [s11.1]
  dsimp only
  refine qg rfl rfl rfl (eqI rfl rfl) ?_
  first | refine q rfl rfl (pkT rfl rfl) ?_ | refine q rfl rfl (pkF rfl rfl) ?_
  refine q rfl rfl (mv (v := .bool _) rfl) ?_
  refine TL.known 102 rfl (c := true) (by decide) ?_
  refine qg rfl rfl rfl (mv (v := .pointer _) rfl) ?_
  refine eg rfl rfl ?_
  refine cl (add_ok a [⟨6, 0, 3, 3⟩] (by decide) 7 8 1) rfl PkL.p trivial ?_
  intro _ _
  change TL _ _ _ _ _ _ _ _ (sepL [_, _, _, _, _])
  rw [s11.2]
  dsimp only
  refine qg rfl rfl rfl (eqI rfl rfl) ?_
  first | refine q rfl rfl (pkT rfl rfl) ?_ | refine q rfl rfl (pkF rfl rfl) ?_
  refine q rfl rfl (asg (v := .bool _) rfl) ?_
  refine TL.nil (nt ?_)
  refine TC.ret ?_
  exact Ret.i () [_] ⟨rfl, trivial⟩ rfl trivial (ent_take 4 rfl (ent_nil _))

theorem fits_ok (ad : Option Addr) (l : List RAct) (cap : Nat) : FSpec Try.prog 29 [.slice ad l.length cap] (fun F => ∃ E, RdS F E ad (ractsC l)) [] (fun _ : Unit => .bool (decide (fitsL l))) (fun _ => True) (fun _ => []) := by
  refine FSpec.intro (rs := [.tmp 2]) (by kernel_rfl) Try.func29 rfl Try.ntmps29 (by rfl) rfl ?_
  intro F ⟨E, hF⟩
  change TC _ _ _ _ _ _ _ (sepL [_])
  haveI : RdSI F ad E (ractsC l) := ⟨hF⟩
  refine TC.seq ?_
  refine TC.region ?_
  refine q rfl rfl (asg (v := .bool _) rfl) ?_
  refine TL.nil (nt ?_)
  refine TC.seq ?_
  refine TC.seq ?_
  refine TC.region ?_
  refine q rfl rfl (mv (v := .slice _ _ _) rfl) ?_
  refine q rfl rfl (len 38 5 rfl rfl) ?_
  refine q rfl rfl (gtr rfl rfl) ?_
  refine TL.nil (nt ?_)
  first | refine TC.condD rfl (fun hbig => ?_) (fun hbig => ?_) | refine TC.cond rfl (fun hbig => ?_) (fun hbig => ?_)
  · have hv : decide (fitsL l) = false := decide_eq_false (fun h => by have := h.1; omega)
    rw [hv]
    refine TC.seq ?_
    refine TC.region ?_
    refine q rfl rfl (asg (v := .bool _) rfl) ?_
    refine TL.nil (nt ?_)
    refine TC.ret (rt ?_)
    exact Ret.i () [_] ⟨rfl, trivial⟩ rfl trivial (ent_take 0 rfl (ent_nil _))
  · refine TC.skip (nt ?_)
    refine TC.seq ?_
    refine TC.seq ?_
    refine TC.region ?_
    refine q rfl rfl (asg (v := .int _ _) rfl) ?_
    refine TL.nil (nt ?_)
    refine TC.block ?_
    refine TC.loop (ι := Nat) (fun k => k ≤ l.length ∧ ∀ j t, j < k → l[j]? = some t → t.xs.length ≤ 50) (fun k => [(0, .slice ad l.length cap), (3, .int .i64 (k : Int))]) (fun k => sepL [F]) (fun k => l.length - k) 0 ⟨Nat.zero_le _, by intro j t h; omega⟩ ⟨rfl, rfl, trivial⟩ (ent_take 0 rfl (ent_nil _)) ?_
    rintro k ⟨hk, hall⟩ ρ0
    dsimp only [updL] at hk hall ⊢
    refine TC.seq ?_
    refine TC.seq ?_
    refine TC.region ?_
    refine q rfl rfl (mv (v := .int _ _) rfl) ?_
    refine q rfl rfl (mv (v := .slice _ _ _) rfl) ?_
    refine q rfl rfl (len 38 5 rfl rfl) ?_
    refine q rfl rfl (lss rfl rfl) ?_
    refine TL.nil (nt ?_)
    first | refine TC.condD rfl (fun hlt => ?_) (fun hlt => ?_) | refine TC.cond rfl (fun hlt => ?_) (fun hlt => ?_)
    · have hlt2 : k < l.length := by omega
      obtain ⟨t, ht⟩ : ∃ t, l[k]? = some t := ⟨l[k], List.getElem?_eq_getElem hlt2⟩
      have hpos : 0 < (ractsC l).length := by rw [ractsC_length]; omega
      refine TC.skip (nt ?_)
      refine TC.seq ?_
      refine TC.block ?_
      refine TC.seq ?_
      refine TC.region ?_
      refine q rfl rfl (mv (v := .slice _ _ _) rfl) ?_
      refine q rfl rfl (mv (v := .int _ _) rfl) ?_
      first | refine q rfl rfl (ixS 38 5 rfl rfl rfl (by omega) (by first | assumption | (simp [ints_length] <;> omega))) ?_ | refine q rfl rfl (ixJ 38 5 rfl rfl rfl (by omega) (by omega) (by first | assumption | (simp [ints_length] <;> omega))) ?_ | refine q rfl rfl (ix 38 5 rfl rfl rfl (by omega) (by omega) rfl) ?_
      first | refine q rfl rfl (fa 4 rfl rfl) ?_ | refine q rfl rfl (faS 4 rfl rfl (by first | assumption | (simp [ints_length] <;> omega))) ?_
      first | refine q rfl rfl (ld rfl rfl rfl) ?_ | refine q rfl rfl (ldS rfl rfl (flat_ld ractC_sz ht 4 (by omega) rfl)) ?_ | refine q rfl rfl (ldS rfl rfl rfl) ?_
      refine q rfl rfl (len 3 1 rfl rfl) ?_
      refine q rfl rfl (gtr rfl rfl) ?_
      refine TL.nil (nt ?_)
      first | refine TC.condD rfl (fun h50 => ?_) (fun h50 => ?_) | refine TC.cond rfl (fun h50 => ?_) (fun h50 => ?_)
      · have hv : decide (fitsL l) = false := decide_eq_false (fun h => by have := h.2 t (List.mem_of_getElem? ht); omega)
        rw [hv]
        refine TC.seq ?_
        refine TC.region ?_
        refine q rfl rfl (asg (v := .bool _) rfl) ?_
        refine TL.nil (nt ?_)
        refine TC.ret (rb (rt (rt (rb (rt ?_)))))
        exact Ret.i () [_] ⟨rfl, trivial⟩ rfl trivial (ent_take 0 rfl (ent_nil _))
      · refine TC.skip (nb (nt ?_))
        refine TC.region ?_
        refine q rfl rfl (mv (v := .int _ _) rfl) ?_
        first | refine q rfl rfl (addI rfl rfl (by omega) (by omega)) ?_ | refine q rfl rfl (add rfl rfl rfl) ?_
        refine q rfl rfl (asg (v := .int _ _) rfl) ?_
        refine TL.nil (nt ?_)
        exact ⟨rfl, (k + 1), ⟨by omega, fun j u hj hu => by rcases Nat.lt_succ_iff_lt_or_eq.1 hj with h | h; exact hall j u h hu; subst h; rw [ht] at hu; cases hu; omega⟩, (by omega), ⟨rfl, rfl, trivial⟩, (ent_take 0 rfl (ent_nil _))⟩
    · have hv : decide (fitsL l) = true := decide_eq_true ⟨by omega, fun t ht => by obtain ⟨j, hj⟩ := List.getElem?_of_mem ht; exact hall j t (by have := (List.getElem?_eq_some_iff.1 hj).1; omega) hj⟩
      rw [hv]
      refine TC.exit (et (et (eb (nt ?_))))
      refine TC.seq ?_
      refine TC.region ?_
      refine q rfl rfl (asg (v := .bool _) rfl) ?_
      refine TL.nil (nt ?_)
      refine TC.ret ?_
      exact Ret.i () [_] ⟨rfl, trivial⟩ rfl trivial (ent_take 0 rfl (ent_nil _))

theorem do_ok (qp : Nat) (S : List Th) (N : Nat) (t : RAct) (hJ : RJ S N) (hN : N ≤ 100000) (hx : t.xs.length ≤ 1000000) : FSpec Try.prog 30 [.pointer (some ⟨qp, 0, none⟩), .agg (ractC t).toArray] (fun F => ∃ E, RdS F E t.ad (ints t.xs)) [isQ qp S] (fun _ : Unit => .tuple #[]) (fun _ => True) (fun _ => [isQ qp (doS S t)]) := by
  refine FSpec.intro (rs := []) (by kernel_rfl) Try.func30 rfl Try.ntmps30 (by rfl) rfl ?_
  intro F ⟨E, hF⟩
  change TC _ _ _ _ _ _ _ (sepL [_, _])
  haveI : RdSI F t.ad E (ints t.xs) := ⟨hF⟩
  have hlen := hJ.len
  refine TC.seq ?_
  refine TC.region ?_
  refine e rfl ?_
  refine bx (v := .agg #[_, _, _, _, _]) (l := [.int _ _, .int _ _, .int _ _, .int _ _, .slice _ _ _]) rfl rfl ?_
  intro b3
  refine TL.nil (nt ?_)
  refine TC.seq ?_
  refine TC.region ?_
  first | refine q rfl rfl (fa 0 rfl rfl) ?_ | refine q rfl rfl (faS 0 rfl rfl (by first | assumption | (simp [ints_length] <;> omega))) ?_
  first | refine q rfl rfl (ld rfl rfl rfl) ?_ | refine q rfl rfl (ldS rfl rfl rfl) ?_
  refine TL.nil (nt ?_)
  refine TC.block ?_
  refine TC.seq ?_
  refine TC.region ?_
  refine q rfl rfl (eqI rfl rfl) ?_
  refine q rfl rfl (asg (v := .bool _) rfl) ?_
  refine TL.nil (nt ?_)
  first | refine TC.condD rfl (fun h0 => ?_) (fun h0 => ?_) | refine TC.cond rfl (fun h0 => ?_) (fun h0 => ?_)
  · have hv : doS S t = (addS S t.id t.prio t.sl).1 := by rw [doS, if_pos h0]
    rw [hv]
    refine TC.region ?_
    refine q rfl rfl (mv (v := .pointer _) rfl) ?_
    first | refine q rfl rfl (fa 1 rfl rfl) ?_ | refine q rfl rfl (faS 1 rfl rfl (by first | assumption | (simp [ints_length] <;> omega))) ?_
    first | refine q rfl rfl (ld rfl rfl rfl) ?_ | refine q rfl rfl (ldS rfl rfl rfl) ?_
    first | refine q rfl rfl (fa 2 rfl rfl) ?_ | refine q rfl rfl (faS 2 rfl rfl (by first | assumption | (simp [ints_length] <;> omega))) ?_
    first | refine q rfl rfl (ld rfl rfl rfl) ?_ | refine q rfl rfl (ldS rfl rfl rfl) ?_
    first | refine q rfl rfl (fa 3 rfl rfl) ?_ | refine q rfl rfl (faS 3 rfl rfl (by first | assumption | (simp [ints_length] <;> omega))) ?_
    first | refine q rfl rfl (ld rfl rfl rfl) ?_ | refine q rfl rfl (ldS rfl rfl rfl) ?_
    refine e rfl ?_
    refine cl (add_ok qp S (by omega) t.id t.prio t.sl) rfl (picked_cons 1 rfl (picked_nil _)) trivial ?_
    intro _ _
    change TL _ _ _ _ _ _ _ _ (sepL [_, _, _])
    refine TL.nil (nb ?_)
    exact Ret.n () [] trivial rfl trivial (ent_take 0 rfl (ent_take 1 rfl (ent_nil _)))
  · refine TC.seq ?_
    refine TC.region ?_
    refine q rfl rfl (eqI rfl rfl) ?_
    refine q rfl rfl (asg (v := .bool _) rfl) ?_
    refine TL.nil (nt ?_)
    first | refine TC.condD rfl (fun h1 => ?_) (fun h1 => ?_) | refine TC.cond rfl (fun h1 => ?_) (fun h1 => ?_)
    · have hv : doS S t = dropS S t.xs := by rw [doS, if_neg h0, if_pos h1]
      rw [hv]
      refine TC.region ?_
      refine q rfl rfl (mv (v := .pointer _) rfl) ?_
      first | refine q rfl rfl (fa 4 rfl rfl) ?_ | refine q rfl rfl (faS 4 rfl rfl (by first | assumption | (simp [ints_length] <;> omega))) ?_
      first | refine q rfl rfl (ld rfl rfl rfl) ?_ | refine q rfl rfl (ldS rfl rfl rfl) ?_
      refine e rfl ?_
      refine cl (drop_ok qp S (by omega) t.ad t.cap t.xs hx) rfl (picked_cons 1 rfl (picked_nil _)) ⟨_, RdSI.rd (ad := t.ad)⟩ ?_
      intro _ _
      change TL _ _ _ _ _ _ _ _ (sepL [_, _, _])
      refine TL.nil (nb ?_)
      exact Ret.n () [] trivial rfl trivial (ent_take 0 rfl (ent_take 1 rfl (ent_nil _)))
    · refine TC.seq ?_
      refine TC.region ?_
      refine q rfl rfl (eqI rfl rfl) ?_
      refine q rfl rfl (asg (v := .bool _) rfl) ?_
      refine TL.nil (nt ?_)
      first | refine TC.condD rfl (fun h2 => ?_) (fun h2 => ?_) | refine TC.cond rfl (fun h2 => ?_) (fun h2 => ?_)
      · have hv : doS S t = tickS S := by rw [doS, if_neg h0, if_neg h1, if_pos h2]
        rw [hv]
        refine TC.region ?_
        refine q rfl rfl (mv (v := .pointer _) rfl) ?_
        refine e rfl ?_
        refine cl (qtick_ok qp S (by omega) hJ.l1) rfl (picked_cons 1 rfl (picked_nil _)) trivial ?_
        intro _ _
        change TL _ _ _ _ _ _ _ _ (sepL [_, _, _])
        refine TL.nil (nb ?_)
        exact Ret.n () [] trivial rfl trivial (ent_take 0 rfl (ent_take 1 rfl (ent_nil _)))
      · refine TC.seq ?_
        refine TC.region ?_
        refine q rfl rfl (eqI rfl rfl) ?_
        refine q rfl rfl (asg (v := .bool _) rfl) ?_
        refine TL.nil (nt ?_)
        first | refine TC.condD rfl (fun h3 => ?_) (fun h3 => ?_) | refine TC.cond rfl (fun h3 => ?_) (fun h3 => ?_)
        · have hv : doS S t = yieldS S := by rw [doS, if_neg h0, if_neg h1, if_neg h2, if_pos h3]
          rw [hv]
          refine TC.region ?_
          refine q rfl rfl (mv (v := .pointer _) rfl) ?_
          refine e rfl ?_
          refine cl (yield_ok qp S (by omega) hJ.inv) rfl (picked_cons 1 rfl (picked_nil _)) trivial ?_
          intro _ _
          change TL _ _ _ _ _ _ _ _ (sepL [_, _, _])
          refine TL.nil (nb ?_)
          exact Ret.n () [] trivial rfl trivial (ent_take 0 rfl (ent_take 1 rfl (ent_nil _)))
        · have hv : doS S t = S := by rw [doS, if_neg h0, if_neg h1, if_neg h2, if_neg h3]
          rw [hv]
          refine TC.skip (nb ?_)
          exact Ret.n () [] trivial rfl trivial (ent_take 1 rfl (ent_take 1 rfl (ent_nil _)))

end Go.Proofs.Ytncafknmdmoaoaa
