/-
  Proved here: what functions of this program compute, each as a contract over symbolic states, under the premises that each theorem names (most lines printed by a program of the prover).
-/
import Derived.Test.YtmffldmipddngaaQtA
import Derived.Test.YtmffldmipddngaaQtK
import Derived.Test.YtmffldmipddngaaLay
import Derived.Test.YtmffldmipddngaaQLibH
namespace Go.Proofs.Ytmffldmipddngaa
open Go Go.QM
theorem qnew_ent (b mb nb : Nat) (lim : Int) (h : 0 ≤ lim ∧ lim ≤ 1073741824) (F : HP) : ent (sepL [pts b 61 [.map (some mb), .int .i64 1], mapF QM.encI mb (updF (fun _ => none) 0 (.pointer (some ⟨nb, 0, none⟩))) 1, pts nb 58 [.int .i64 lim, .int .i64 0, .int .i64 0, .int .i64 (-1), .int .i64 0], F]) (sepL [isQ b [⟨0, -1, lim, 0⟩] 1, F]) := by
  have hf : fQ (updI (fun _ => 0) 0 nb) [⟨0, -1, lim, 0⟩] = updF (fun _ => none) 0 (.pointer (some ⟨nb, 0, none⟩)) := by
    have := fQ_add (fun _ => 0) [] ⟨0, -1, lim, 0⟩ nb
    rw [List.nil_append] at this
    rw [this]
    congr 1
  have hp : tQ (updI (fun _ => 0) 0 nb) [⟨0, -1, lim, 0⟩] ⟨0, -1, lim, 0⟩ = pts nb 58 [.int .i64 lim, .int .i64 0, .int .i64 0, .int .i64 (-1), .int .i64 0] := by
    dsimp only [tQ]
    rw [updI_same, givQ_one, kidQ_one, if_neg (by dsimp only; omega), if_neg (by dsimp only; omega)]
  refine (bigS_nil (f := tQ (updI (fun _ => 0) 0 nb) [⟨0, -1, lim, 0⟩]) _).trans ?_
  refine ent_close (⟨updI (fun _ => 0) 0 nb, mb⟩ : QRep) (WQ.start h) ?_
  exact ent_take 1 rfl (ent_takeE 1 rfl (by dsimp only; rw [hf]; rfl) (ent_closeB 1 0 ⟨0, -1, lim, 0⟩ rfl rfl hp.symm (fun _ _ => rfl) (List.Perm.refl _) (ent_take 0 rfl (ent_nil _))))
theorem keys_qids {A : Int → Nat} {L : List Qn} {nxt : Int} {y : List Int} (hW : WQ L nxt) (h : KeysOf (fQ A L) L.length y) : sortI y = L.map (·.id) := by
  have hp : y.Perm (L.map (·.id)) := (List.perm_ext_iff_of_nodup h.1 hW.nd).2 fun x => by
    rw [h.2.2, fQ, ← hasQ_mem]
    by_cases hx : hasQ L x
    · rw [if_pos hx]; simp [hx]
    · rw [if_neg hx]; simp [hx]
  refine List.Perm.eq_of_pairwise (le := fun a c => a ≤ c) (fun a c _ _ h1 h2 => by omega) (sortI_sorted y) (hW.srt.imp fun h => by omega) ((sortI_perm y).trans hp)
theorem carve_lim {L : List Qn} {nxt : Int} (h : WQ L nxt) {p lim : Int} : (carveQ L nxt p lim).2.1 = nxt ∨ (carveQ L nxt p lim).2.1 = nxt + 1 := by
  rw [carveQ]
  split
  · exact .inl rfl
  · split
    · exact .inl rfl
    · split
      · exact .inl rfl
      · split
        · exact .inl rfl
        · exact .inr rfl

theorem qsort_ok (ad : Option Addr) (cap : Nat) (xs : List Int) (hl : xs.length ≤ 1000000) : FSpec Try.prog 35 [.slice ad xs.length cap] noRd [slc 3 1 ad xs.length cap (ints xs)] (fun _ : Unit => .tuple #[]) (fun _ => True) (fun _ => [slc 3 1 ad xs.length cap (ints (sortI xs))]) :=
  sort_ok laysSort (by kernel_rfl) 3 ad cap xs hl

set_option maxRecDepth 4000 in
theorem sorted_ok (cx mb n : Nat) (f : Int → Option Value) (hn : n ≤ 1000000) : FSpec Try.prog 30 [.func (.func 36) #[] #[.pointer (some ⟨cx, 0, none⟩)]] noRd [pts cx 59 [.map (some mb)], mapF QM.encI mb f n] (fun y : (Option Addr × Nat) × List Int => .slice y.1.1 (sortI y.2).length y.1.2) (fun y => KeysOf f n y.2) (fun y => [slc 3 1 y.1.1 (sortI y.2).length y.1.2 (ints (sortI y.2)), mapF QM.encI mb f n]) := by
  refine FSpec.intro (rs := [.tmp 2]) (by kernel_rfl) Try.func30 rfl Try.ntmps30 (by rfl) rfl ?_
  intro F _
  change TC _ _ _ _ _ _ _ (sepL [_, _, _])
  refine TC.seq ?_
  refine TC.region ?_
  refine q rfl rfl (asg (v := .slice _ _ _) rfl) ?_
  refine TL.nil (nt ?_)
  refine TC.seq ?_
  refine TC.region ?_
  refine q rfl rfl (mv rfl) ?_
  refine e rfl ?_
  refine cl (coll_ok cx mb n f hn) rfl PkL.p trivial ?_
  intro y hy
  change TL _ _ _ _ _ _ _ _ (sepL [_, _, _])
  refine q rfl rfl (asg (v := .slice _ _ _) rfl) ?_
  refine TL.nil (nt ?_)
  refine TC.seq ?_
  refine TC.region ?_
  refine q rfl rfl (mv (v := .slice _ _ _) rfl) ?_
  have hyl := hy.2.1
  refine e rfl ?_
  refine cl (qsort_ok y.1.1 y.1.2 y.2 (by omega)) rfl PkL.p trivial ?_
  intro _ _
  change TL _ _ _ _ _ _ _ _ (sepL [_, _, _])
  refine TL.nil (nt ?_)
  refine TC.seq ?_
  refine TC.region ?_
  refine q rfl rfl (mv (v := .slice _ _ _) rfl) ?_
  refine q rfl rfl (asg (v := .slice _ _ _) rfl) ?_
  refine TL.nil (nt ?_)
  refine TC.ret ?_
  exact Ret.i y [_] ⟨rfl, trivial⟩ (by rw [sortI_len]; rfl) hy (ent_takeE 0 rfl (by rw [sortI_len]) (by repeat (first | exact ent_nil _ | refine ent_take 0 rfl ?_ | refine ent_take 1 rfl ?_ | refine ent_take 2 rfl ?_ | refine ent_take 3 rfl ?_ | refine ent_take 4 rfl ?_ | refine ent_take 5 rfl ?_ | refine ent_take 6 rfl ?_ | refine ent_take 7 rfl ?_ | refine ent_take 8 rfl ?_ | refine ent_take 9 rfl ?_ | refine ent_take 10 rfl ?_ | refine ent_take 11 rfl ?_ | refine ent_take 12 rfl ?_)))

set_option maxRecDepth 4000 in
theorem qids_ok (b : Nat) (L : List Qn) (nxt : Int) : FSpec Try.prog 17 [.pointer (some ⟨b, 0, none⟩)] noRd [isQ b L nxt] (fun y : Option Addr × Nat => .slice y.1 (L.map (·.id)).length y.2) (fun _ => True) (fun y => [slc 3 1 y.1 (L.map (·.id)).length y.2 (ints (L.map (·.id))), isQ b L nxt]) := by
  refine FSpec.intro (rs := [.tmp 2]) (by kernel_rfl) Try.func17 rfl Try.ntmps17 (by rfl) rfl ?_
  intro F _
  change TC _ _ _ _ _ _ _ (sepL [_, _])
  refine TC.open 0 rfl (fun x0 hx0 => ?_)
  obtain ⟨A, mb⟩ := x0
  have hW := hx0
  change TC _ _ _ _ _ _ _ (sepL [_, _, _, _])
  dsimp only at hW ⊢
  have hll := hW.len
  refine TC.seq ?_
  refine TC.region ?_
  refine q rfl rfl (asg (v := .slice _ _ _) rfl) ?_
  refine TL.nil (nt ?_)
  refine TC.seq ?_
  refine TC.seq ?_
  refine TC.region ?_
  refine q rfl rfl (mv (v := .pointer _) rfl) ?_
  refine q rfl rfl (eqNil rfl rfl rfl) ?_
  refine TL.nil (nt ?_)
  refine TC.condF rfl ?_
  refine TC.skip (nt ?_)
  refine TC.seq ?_
  refine TC.region ?_
  refine q rfl rfl (mv (v := .pointer _) rfl) ?_
  first | refine q rfl rfl (nc rfl) ?_ | refine q rfl rfl (ncF rfl) ?_ | refine q rfl rfl (ncS rfl (by first | assumption | (simp [ints_length] <;> omega))) ?_
  first | refine q rfl rfl (fa 0 rfl rfl) ?_ | refine q rfl rfl (faS 0 rfl rfl (by first | assumption | (simp [ints_length] <;> omega))) ?_
  first | refine q rfl rfl (ld rfl rfl rfl) ?_ | refine q rfl rfl (ldS rfl rfl rfl) ?_
  refine e rfl ?_
  refine cl (keys_ok mb) rfl (picked_nil _) trivial ?_
  intro cx _
  change TL _ _ _ _ _ _ _ _ (sepL [_, _, _, _, _])
  refine e rfl ?_
  refine cl (sorted_ok cx mb L.length (fQ A L) (by omega)) rfl PkL.p trivial ?_
  intro y hy
  change TL _ _ _ _ _ _ _ _ (sepL [_, _, _, _, _])
  rw [keys_qids hW hy]
  refine q rfl rfl (asg (v := .slice _ _ _) rfl) ?_
  refine TL.nil (nt ?_)
  refine TC.ret ?_
  exact Ret.i y.1 [_] ⟨rfl, trivial⟩ rfl trivial (ent_take 0 rfl (ent_close ⟨A, mb⟩ hW (ent_take 1 rfl (ent_take 0 rfl (ent_take 0 rfl (ent_take 0 rfl (ent_nil _)))))))

set_option maxRecDepth 4000 in
theorem qids_nil  : FSpec Try.prog 17 [.pointer none] noRd [] (fun _ : Unit => .slice none 0 0) (fun _ => True) (fun _ => []) := by
  refine FSpec.intro (rs := [.tmp 2]) (by kernel_rfl) Try.func17 rfl Try.ntmps17 (by rfl) rfl ?_
  intro F _
  change TC _ _ _ _ _ _ _ (sepL [_])
  refine TC.seq ?_
  refine TC.region ?_
  refine q rfl rfl (asg (v := .slice _ _ _) rfl) ?_
  refine TL.nil (nt ?_)
  refine TC.seq ?_
  refine TC.seq ?_
  refine TC.region ?_
  refine q rfl rfl (mv (v := .pointer _) rfl) ?_
  refine q rfl rfl (eqNil rfl rfl rfl) ?_
  refine TL.nil (nt ?_)
  refine TC.condT rfl ?_
  refine TC.seq ?_
  refine TC.region ?_
  refine q rfl rfl (asg (v := .slice _ _ _) rfl) ?_
  refine TL.nil (nt ?_)
  refine TC.ret (rt ?_)
  exact Ret.i () [_] ⟨rfl, trivial⟩ rfl trivial (ent_take 0 rfl (ent_nil _))

set_option maxRecDepth 4000 in
theorem qnew_ok (lim : Int) (h : 0 ≤ lim ∧ lim ≤ 1073741824) : FSpec Try.prog 9 [.int .i64 lim] noRd [] (fun b : Nat => .pointer (some ⟨b, 0, none⟩)) (fun _ => True) (fun b => [isQ b [⟨0, -1, lim, 0⟩] 1]) := by
  refine FSpec.intro (rs := [.tmp 2]) (by kernel_rfl) Try.func9 rfl Try.ntmps9 (by rfl) rfl ?_
  intro F _
  change TC _ _ _ _ _ _ _ (sepL [_])
  refine TC.seq ?_
  refine TC.region ?_
  refine q rfl rfl (asg (v := .pointer _) rfl) ?_
  refine TL.nil (nt ?_)
  refine TC.seq ?_
  refine TC.seq ?_
  refine TC.region ?_
  refine q rfl rfl (mv (v := .int _ _) rfl) ?_
  refine q rfl rfl (lss rfl rfl) ?_
  refine q rfl rfl (mv (v := .bool _) rfl) ?_
  refine TL.known 5 rfl (c := false) (decide_eq_false (by omega)) ?_
  refine qg rfl rfl rfl (mv (v := .int _ _) rfl) ?_
  refine qg rfl rfl rfl (gtr rfl rfl) ?_
  first | refine q rfl rfl (pkT (v := .bool _) rfl rfl) ?_ | refine q rfl rfl (pkF (v := .bool _) rfl rfl) ?_
  refine TL.nil (nt ?_)
  refine TC.condD rfl (fun hc1 => absurd hc1 (by omega)) (fun hc1 => ?_)
  refine TC.skip (nt ?_)
  refine TC.seq ?_
  refine TC.region ?_
  refine e rfl ?_
  refine mkF QM.encI ?_
  intro b1
  refine q rfl rfl (mv (v := .int _ _) rfl) ?_
  first | refine q rfl rfl (bld (cs := [.int _ _, .int _ _, .int _ _]) rfl) ?_ | refine q rfl rfl (bld (cs := [_, _, _]) rfl) ?_
  first | refine q rfl rfl (bld (cs := [.int _ _, .int _ _, .int _ _, .int _ _, .int _ _]) rfl) ?_ | refine q rfl rfl (bld (cs := [_, _, _, _, _]) rfl) ?_
  refine e rfl ?_
  refine bx (v := .agg #[_, _, _, _, _]) (l := [.int _ _, .int _ _, .int _ _, .int _ _, .int _ _]) rfl rfl ?_
  intro b2
  refine e0 ?_
  refine insF 3 54 rfl (KL.int rfl) rfl rfl rfl ?_
  refine q rfl rfl (mv (v := .map _) rfl) ?_
  first | refine q rfl rfl (bld (cs := [.map _, .int _ _]) rfl) ?_ | refine q rfl rfl (bld (cs := [_, _]) rfl) ?_
  refine e rfl ?_
  refine bx (v := .agg #[_, _]) (l := [.map _, .int _ _]) rfl rfl ?_
  intro b3
  refine q rfl rfl (asg (v := .pointer _) rfl) ?_
  refine TL.nil (nt ?_)
  refine TC.ret ?_
  exact Ret.i b3 [_] ⟨rfl, trivial⟩ rfl trivial (qnew_ent b3 b1 b2 lim h F)

set_option maxRecDepth 4000 in
theorem qnew_no (lim : Int) (h : ¬ (0 ≤ lim ∧ lim ≤ 1073741824)) : FSpec Try.prog 9 [.int .i64 lim] noRd [] (fun _ : Unit => .pointer none) (fun _ => True) (fun _ => []) := by
  refine FSpec.intro (rs := [.tmp 2]) (by kernel_rfl) Try.func9 rfl Try.ntmps9 (by rfl) rfl ?_
  intro F _
  change TC _ _ _ _ _ _ _ (sepL [_])
  refine TC.seq ?_
  refine TC.region ?_
  refine q rfl rfl (asg (v := .pointer _) rfl) ?_
  refine TL.nil (nt ?_)
  refine TC.seq ?_
  refine TC.seq ?_
  refine TC.region ?_
  refine q rfl rfl (mv (v := .int _ _) rfl) ?_
  refine q rfl rfl (lss rfl rfl) ?_
  refine q rfl rfl (mv (v := .bool _) rfl) ?_
  refine TL.split 5 rfl (fun h0 => ?_) (fun h0 => ?_)
  · have h0 := of_decide_eq_true h0
    refine qs rfl rfl ?_
    refine qs rfl rfl ?_
    first | refine q rfl rfl (pkT (v := .bool _) rfl rfl) ?_ | refine q rfl rfl (pkF (v := .bool _) rfl rfl) ?_
    refine TL.nil (nt ?_)
    refine TC.condT rfl ?_
    refine TC.seq ?_
    refine TC.region ?_
    refine q rfl rfl (asg (v := .pointer _) rfl) ?_
    refine TL.nil (nt ?_)
    refine TC.ret (rt ?_)
    exact Ret.i () [_] ⟨rfl, trivial⟩ rfl trivial (by repeat (first | exact ent_nil _ | refine ent_take 0 rfl ?_ | refine ent_take 1 rfl ?_ | refine ent_take 2 rfl ?_ | refine ent_take 3 rfl ?_ | refine ent_take 4 rfl ?_ | refine ent_take 5 rfl ?_ | refine ent_take 6 rfl ?_ | refine ent_take 7 rfl ?_ | refine ent_take 8 rfl ?_ | refine ent_take 9 rfl ?_ | refine ent_take 10 rfl ?_ | refine ent_take 11 rfl ?_ | refine ent_take 12 rfl ?_))
  · have h0 := of_decide_eq_false h0
    refine qg rfl rfl rfl (mv (v := .int _ _) rfl) ?_
    refine qg rfl rfl rfl (gtr rfl rfl) ?_
    first | refine q rfl rfl (pkT (v := .bool _) rfl rfl) ?_ | refine q rfl rfl (pkF (v := .bool _) rfl rfl) ?_
    refine TL.nil (nt ?_)
    refine TC.condD rfl (fun hc2 => ?_) (fun hc2 => absurd (by omega) hc2)
    refine TC.seq ?_
    refine TC.region ?_
    refine q rfl rfl (asg (v := .pointer _) rfl) ?_
    refine TL.nil (nt ?_)
    refine TC.ret (rt ?_)
    exact Ret.i () [_] ⟨rfl, trivial⟩ rfl trivial (by repeat (first | exact ent_nil _ | refine ent_take 0 rfl ?_ | refine ent_take 1 rfl ?_ | refine ent_take 2 rfl ?_ | refine ent_take 3 rfl ?_ | refine ent_take 4 rfl ?_ | refine ent_take 5 rfl ?_ | refine ent_take 6 rfl ?_ | refine ent_take 7 rfl ?_ | refine ent_take 8 rfl ?_ | refine ent_take 9 rfl ?_ | refine ent_take 10 rfl ?_ | refine ent_take 11 rfl ?_ | refine ent_take 12 rfl ?_))

set_option maxRecDepth 4000 in
set_option maxHeartbeats 1000000 in
theorem qcarve_ok (b : Nat) (L : List Qn) (nxt : Int) (pr lim : Int) (hnx : nxt ≤ 1000000) : FSpec Try.prog 10 [.pointer (some ⟨b, 0, none⟩), .int .i64 pr, .int .i64 lim] noRd [isQ b L nxt] (fun _ : Unit => .tuple #[.int .i64 (carveQ L nxt pr lim).2.2.1, .int .i64 (carveQ L nxt pr lim).2.2.2]) (fun _ => True) (fun _ => [isQ b (carveQ L nxt pr lim).1 (carveQ L nxt pr lim).2.1]) := by
  refine FSpec.intro (rs := [.tmp 6, .tmp 7]) (by kernel_rfl) Try.func10 rfl Try.ntmps10 (by rfl) rfl ?_
  intro F _
  change TC _ _ _ _ _ _ _ (sepL [_, _])
  refine TC.open 0 rfl (fun x0 hx0 => ?_)
  obtain ⟨A, mb⟩ := x0
  have hW := hx0
  change TC _ _ _ _ _ _ _ (sepL [_, _, _, _])
  dsimp only at hW ⊢
  by_cases h : hasQ L pr
  · obtain ⟨t, ht, rfl⟩ := h
    have h : hasQ L t.id := ⟨t, ht, rfl⟩
    obtain ⟨e1, e2, e3, e4⟩ := use_yes hW.nd ht
    have hb := hW.big ht
    have hrt := hW.rg t ht
    obtain ⟨M, hM⟩ := perm_mem ht
    haveI := tQ_rd (A := A) ht
    refine TC.seq ?_
    refine TC.region ?_
    refine q rfl rfl (asg (v := .int _ _) rfl) ?_
    refine q rfl rfl (asg (v := .int _ _) rfl) ?_
    refine TL.nil (nt ?_)
    refine TC.seq ?_
    refine TC.region ?_
    refine q rfl rfl (mv (v := .pointer _) rfl) ?_
    refine q rfl rfl (mv (v := .int _ _) rfl) ?_
    refine e rfl ?_
    refine cl (qat_yes b mb L.length nxt A L t.id h) rfl PkL.p trivial ?_
    intro _ _
    change TL _ _ _ _ _ _ _ _ (sepL [_, _, _, _])
    refine q rfl rfl (mv (v := .tuple _) rfl) ?_
    refine q rfl rfl (pu (v := .pointer _) (fun _ => rfl)) ?_
    refine q rfl rfl (pu (v := .int _ _) (fun _ => rfl)) ?_
    refine q rfl rfl (asg (v := .pointer _) rfl) ?_
    refine q rfl rfl (asg (v := .int _ _) rfl) ?_
    refine TL.nil (nt ?_)
    refine TC.seq ?_
    refine TC.block ?_
    refine TC.seq ?_
    refine TC.region ?_
    refine q rfl rfl (mv (v := .int _ _) rfl) ?_
    refine q rfl rfl (neI rfl rfl) ?_
    refine q rfl rfl (asg (v := .bool _) rfl) ?_
    refine TL.nil (nt ?_)
    refine TC.condF rfl ?_
    refine TC.seq ?_
    refine TC.region ?_
    refine q rfl rfl (mv (v := .int _ _) rfl) ?_
    refine q rfl rfl (lss rfl rfl) ?_
    refine q rfl rfl (asg (v := .bool _) rfl) ?_
    refine TL.nil (nt ?_)
    first | refine TC.condD rfl (fun h0 => ?_) (fun h0 => ?_) | refine TC.cond rfl (fun h0 => ?_) (fun h0 => ?_)
    · have hv : carveQ L nxt t.id lim = (L, nxt, 0, 1) := by rw [carveQ, if_neg (fun h2 => h2 h), if_pos h0]
      rw [hv]
      dsimp only
      refine TC.seq ?_
      refine TC.region ?_
      refine q rfl rfl (asg (v := .int _ _) rfl) ?_
      refine q rfl rfl (asg (v := .int _ _) rfl) ?_
      refine TL.nil (nt ?_)
      refine TC.ret (rb (rt ?_))
      exact Ret.i () [_, _] ⟨rfl, rfl, trivial⟩ rfl trivial (ent_close (⟨A, mb⟩ : QRep) hW (by repeat (first | exact ent_nil _ | refine ent_take 0 rfl ?_ | refine ent_take 1 rfl ?_ | refine ent_take 2 rfl ?_ | refine ent_take 3 rfl ?_ | refine ent_take 4 rfl ?_ | refine ent_take 5 rfl ?_ | refine ent_take 6 rfl ?_ | refine ent_take 7 rfl ?_ | refine ent_take 8 rfl ?_ | refine ent_take 9 rfl ?_ | refine ent_take 10 rfl ?_ | refine ent_take 11 rfl ?_ | refine ent_take 12 rfl ?_)))
    · refine TC.seq ?_
      refine TC.region ?_
      refine q rfl rfl (mv (v := .pointer _) rfl) ?_
      first | refine q rfl rfl (nc rfl) ?_ | refine q rfl rfl (ncF rfl) ?_ | refine q rfl rfl (ncS rfl (by first | assumption | (simp [ints_length] <;> omega))) ?_
      first | refine q rfl rfl (fa 0 rfl rfl) ?_ | refine q rfl rfl (faS 0 rfl rfl (by first | assumption | (simp [ints_length] <;> omega))) ?_
      refine q rfl rfl (mv (v := .int _ _) rfl) ?_
      refine e rfl ?_
      refine cl (qfits_ok (A t.id) t.lim t.chg (givQ L t.id) t.par (kidQ L t.id) (by omega) (by omega) lim (by omega)) rfl (picked_nil _) RdI.rd ?_
      intro _ _
      change TL _ _ _ _ _ _ _ _ (sepL [_, _, _, _])
      first | refine q rfl rfl (notD rfl) ?_ | refine q rfl rfl (notB rfl) ?_
      refine q rfl rfl (asg (v := .bool _) rfl) ?_
      refine TL.nil (nt ?_)
      first | refine TC.condD rfl (fun h1 => ?_) (fun h1 => ?_) | refine TC.cond rfl (fun h1 => ?_) (fun h1 => ?_)
      · have hv : carveQ L nxt t.id lim = (L, nxt, 0, 5) := by rw [carveQ, if_neg (fun h2 => h2 h), if_neg h0, if_pos (by rw [e1, e2]; exact h1)]
        rw [hv]
        dsimp only
        refine TC.seq ?_
        refine TC.region ?_
        refine q rfl rfl (asg (v := .int _ _) rfl) ?_
        refine q rfl rfl (asg (v := .int _ _) rfl) ?_
        refine TL.nil (nt ?_)
        refine TC.ret (rb (rt ?_))
        exact Ret.i () [_, _] ⟨rfl, rfl, trivial⟩ rfl trivial (ent_close (⟨A, mb⟩ : QRep) hW (by repeat (first | exact ent_nil _ | refine ent_take 0 rfl ?_ | refine ent_take 1 rfl ?_ | refine ent_take 2 rfl ?_ | refine ent_take 3 rfl ?_ | refine ent_take 4 rfl ?_ | refine ent_take 5 rfl ?_ | refine ent_take 6 rfl ?_ | refine ent_take 7 rfl ?_ | refine ent_take 8 rfl ?_ | refine ent_take 9 rfl ?_ | refine ent_take 10 rfl ?_ | refine ent_take 11 rfl ?_ | refine ent_take 12 rfl ?_)))
      · have h2 : lim ≤ t.lim - (t.chg + givQ L t.id) := Decidable.not_not.1 h1
        have h1 : ¬ ¬ lim ≤ limQ L t.id - useQ L t.id := by rw [e1, e2]; exact fun h3 => h3 h2
        refine TC.seq ?_
        refine TC.region ?_
        refine q rfl rfl (mv (v := .pointer _) rfl) ?_
        first | refine q rfl rfl (nc rfl) ?_ | refine q rfl rfl (ncF rfl) ?_ | refine q rfl rfl (ncS rfl (by first | assumption | (simp [ints_length] <;> omega))) ?_
        first | refine q rfl rfl (fa 0 rfl rfl) ?_ | refine q rfl rfl (faS 0 rfl rfl (by first | assumption | (simp [ints_length] <;> omega))) ?_
        first | refine q rfl rfl (ld rfl rfl rfl) ?_ | refine q rfl rfl (ldS rfl rfl rfl) ?_
        refine q rfl rfl (lnF 3 54 rfl rfl) ?_
        refine q rfl rfl (eqI rfl rfl) ?_
        refine q rfl rfl (asg (v := .bool _) rfl) ?_
        refine TL.nil (nt ?_)
        first | refine TC.condD rfl (fun h3 => ?_) (fun h3 => ?_) | refine TC.cond rfl (fun h3 => ?_) (fun h3 => ?_)
        · have hv : carveQ L nxt t.id lim = (L, nxt, 0, 11) := by rw [carveQ, if_neg (fun h2 => h2 h), if_neg h0, if_neg h1, if_pos (by omega)]
          rw [hv]
          dsimp only
          refine TC.seq ?_
          refine TC.region ?_
          refine q rfl rfl (asg (v := .int _ _) rfl) ?_
          refine q rfl rfl (asg (v := .int _ _) rfl) ?_
          refine TL.nil (nt ?_)
          refine TC.ret (rb (rt ?_))
          exact Ret.i () [_, _] ⟨rfl, rfl, trivial⟩ rfl trivial (ent_close (⟨A, mb⟩ : QRep) hW (by repeat (first | exact ent_nil _ | refine ent_take 0 rfl ?_ | refine ent_take 1 rfl ?_ | refine ent_take 2 rfl ?_ | refine ent_take 3 rfl ?_ | refine ent_take 4 rfl ?_ | refine ent_take 5 rfl ?_ | refine ent_take 6 rfl ?_ | refine ent_take 7 rfl ?_ | refine ent_take 8 rfl ?_ | refine ent_take 9 rfl ?_ | refine ent_take 10 rfl ?_ | refine ent_take 11 rfl ?_ | refine ent_take 12 rfl ?_)))
        · have h4 : L.length ≠ 32 := by omega
          have hv : carveQ L nxt t.id lim = (L ++ [(⟨nxt, t.id, lim, 0⟩ : Qn)], nxt + 1, nxt, 0) := by rw [carveQ, if_neg (fun h2 => h2 h), if_neg h0, if_neg h1, if_neg h4]
          rw [hv]
          dsimp only
          have hW2 : WQ (L ++ [(⟨nxt, t.id, lim, 0⟩ : Qn)]) (nxt + 1) := hW.add h (by omega) (Decidable.not_not.1 h1) h4
          have hno : ¬ hasQ L nxt := fun ⟨u, hu, e⟩ => by have := hW.rg u hu; omega
          have hfn := fQ_no (A := A) hno
          have hlf : (L ++ [(⟨nxt, t.id, lim, 0⟩ : Qn)]).length = L.length + 1 := by rw [List.length_append, List.length_singleton]
          have hg : ∀ x, givQ (L ++ [(⟨nxt, t.id, lim, 0⟩ : Qn)]) x = givQ L x + (if t.id = x then lim else 0) := fun x => by rw [givQ_app, givQ_one]
          have hk : ∀ x, kidQ (L ++ [(⟨nxt, t.id, lim, 0⟩ : Qn)]) x = kidQ L x + (if t.id = x then 1 else 0) := fun x => by rw [kidQ_app, kidQ_one]
          have hz := giv_zero (L := L) (x := nxt) (fun u hu => by have := hW.par_lt hu; omega)
          have hne : t.id ≠ nxt := by omega
          refine TC.weak (ent_openB 2 rfl hM) ?_
          refine TC.skip (nb (nt ?_))
          refine TC.seq ?_
          refine TC.region ?_
          refine q rfl rfl (mv (v := .pointer _) rfl) ?_
          first | refine q rfl rfl (nc rfl) ?_ | refine q rfl rfl (ncF rfl) ?_ | refine q rfl rfl (ncS rfl (by first | assumption | (simp [ints_length] <;> omega))) ?_
          first | refine q rfl rfl (fa 1 rfl rfl) ?_ | refine q rfl rfl (faS 1 rfl rfl (by first | assumption | (simp [ints_length] <;> omega))) ?_
          first | refine q rfl rfl (ld rfl rfl rfl) ?_ | refine q rfl rfl (ldS rfl rfl rfl) ?_
          refine q rfl rfl (asg (v := .int _ _) rfl) ?_
          refine TL.nil (nt ?_)
          refine TC.seq ?_
          refine TC.region ?_
          refine q rfl rfl (mv (v := .pointer _) rfl) ?_
          first | refine q rfl rfl (nc rfl) ?_ | refine q rfl rfl (ncF rfl) ?_ | refine q rfl rfl (ncS rfl (by first | assumption | (simp [ints_length] <;> omega))) ?_
          first | refine q rfl rfl (fa 1 rfl rfl) ?_ | refine q rfl rfl (faS 1 rfl rfl (by first | assumption | (simp [ints_length] <;> omega))) ?_
          first | refine q rfl rfl (ld rfl rfl rfl) ?_ | refine q rfl rfl (ldS rfl rfl rfl) ?_
          first | refine q rfl rfl (addI rfl rfl (by omega) (by omega)) ?_ | refine q rfl rfl (add rfl rfl rfl) ?_
          first | refine q rfl rfl (nc rfl) ?_ | refine q rfl rfl (ncF rfl) ?_ | refine q rfl rfl (ncS rfl (by first | assumption | (simp [ints_length] <;> omega))) ?_
          first | refine q rfl rfl (fa 1 rfl rfl) ?_ | refine q rfl rfl (faS 1 rfl rfl (by first | assumption | (simp [ints_length] <;> omega))) ?_
          refine e0 ?_
          refine st (v := .int _ _) (vs := [_]) 1 rfl rfl rfl rfl rfl rfl (Nat.le_of_ble_eq_true rfl) rfl ?_
          refine TL.nil (nt ?_)
          refine TC.seq ?_
          refine TC.region ?_
          refine q rfl rfl (mv (v := .pointer _) rfl) ?_
          first | refine q rfl rfl (nc rfl) ?_ | refine q rfl rfl (ncF rfl) ?_ | refine q rfl rfl (ncS rfl (by first | assumption | (simp [ints_length] <;> omega))) ?_
          first | refine q rfl rfl (fa 0 rfl rfl) ?_ | refine q rfl rfl (faS 0 rfl rfl (by first | assumption | (simp [ints_length] <;> omega))) ?_
          first | refine q rfl rfl (ld rfl rfl rfl) ?_ | refine q rfl rfl (ldS rfl rfl rfl) ?_
          refine q rfl rfl (mv (v := .int _ _) rfl) ?_
          refine q rfl rfl (mv (v := .int _ _) rfl) ?_
          first | refine q rfl rfl (bld (cs := [.int _ _, .int _ _, .int _ _]) rfl) ?_ | refine q rfl rfl (bld (cs := [_, _, _]) rfl) ?_
          refine q rfl rfl (mv (v := .int _ _) rfl) ?_
          first | refine q rfl rfl (bld (cs := [.int _ _, .int _ _, .int _ _, .int _ _, .int _ _]) rfl) ?_ | refine q rfl rfl (bld (cs := [_, _, _, _, _]) rfl) ?_
          refine e rfl ?_
          refine bx (v := .agg #[_, _, _, _, _]) (l := [.int _ _, .int _ _, .int _ _, .int _ _, .int _ _]) rfl rfl ?_
          intro b4
          refine e0 ?_
          refine muF 3 54 rfl (KL.int rfl) rfl rfl rfl ?_
          refine TL.nil (nt ?_)
          refine TC.seq ?_
          refine TC.region ?_
          refine q rfl rfl (mv (v := .pointer _) rfl) ?_
          first | refine q rfl rfl (nc rfl) ?_ | refine q rfl rfl (ncF rfl) ?_ | refine q rfl rfl (ncS rfl (by first | assumption | (simp [ints_length] <;> omega))) ?_
          first | refine q rfl rfl (fa 0 rfl rfl) ?_ | refine q rfl rfl (faS 0 rfl rfl (by first | assumption | (simp [ints_length] <;> omega))) ?_
          first | refine q rfl rfl (fa 2 rfl rfl) ?_ | refine q rfl rfl (faS 2 rfl rfl (by first | assumption | (simp [ints_length] <;> omega))) ?_
          first | refine q rfl rfl (ld rfl rfl rfl) ?_ | refine q rfl rfl (ldS rfl rfl rfl) ?_
          refine q rfl rfl (mv (v := .int _ _) rfl) ?_
          first | refine q rfl rfl (addI rfl rfl (by omega) (by omega)) ?_ | refine q rfl rfl (add rfl rfl rfl) ?_
          first | refine q rfl rfl (nc rfl) ?_ | refine q rfl rfl (ncF rfl) ?_ | refine q rfl rfl (ncS rfl (by first | assumption | (simp [ints_length] <;> omega))) ?_
          first | refine q rfl rfl (fa 0 rfl rfl) ?_ | refine q rfl rfl (faS 0 rfl rfl (by first | assumption | (simp [ints_length] <;> omega))) ?_
          first | refine q rfl rfl (fa 2 rfl rfl) ?_ | refine q rfl rfl (faS 2 rfl rfl (by first | assumption | (simp [ints_length] <;> omega))) ?_
          refine e0 ?_
          refine st (v := .int _ _) (vs := [_]) 1 rfl rfl rfl rfl rfl rfl (Nat.le_of_ble_eq_true rfl) rfl ?_
          refine TL.nil (nt ?_)
          refine TC.seq ?_
          refine TC.region ?_
          refine q rfl rfl (mv (v := .pointer _) rfl) ?_
          first | refine q rfl rfl (nc rfl) ?_ | refine q rfl rfl (ncF rfl) ?_ | refine q rfl rfl (ncS rfl (by first | assumption | (simp [ints_length] <;> omega))) ?_
          first | refine q rfl rfl (fa 4 rfl rfl) ?_ | refine q rfl rfl (faS 4 rfl rfl (by first | assumption | (simp [ints_length] <;> omega))) ?_
          first | refine q rfl rfl (ld rfl rfl rfl) ?_ | refine q rfl rfl (ldS rfl rfl rfl) ?_
          first | refine q rfl rfl (addI rfl rfl (by omega) (by omega)) ?_ | refine q rfl rfl (add rfl rfl rfl) ?_
          first | refine q rfl rfl (nc rfl) ?_ | refine q rfl rfl (ncF rfl) ?_ | refine q rfl rfl (ncS rfl (by first | assumption | (simp [ints_length] <;> omega))) ?_
          first | refine q rfl rfl (fa 4 rfl rfl) ?_ | refine q rfl rfl (faS 4 rfl rfl (by first | assumption | (simp [ints_length] <;> omega))) ?_
          refine e0 ?_
          refine st (v := .int _ _) (vs := [_]) 1 rfl rfl rfl rfl rfl rfl (Nat.le_of_ble_eq_true rfl) rfl ?_
          refine TL.nil (nt ?_)
          refine TC.seq ?_
          refine TC.region ?_
          refine q rfl rfl (mv (v := .int _ _) rfl) ?_
          refine q rfl rfl (asg (v := .int _ _) rfl) ?_
          refine q rfl rfl (asg (v := .int _ _) rfl) ?_
          refine TL.nil (nt ?_)
          refine TC.ret ?_
          have hP2 : (t :: (⟨nxt, t.id, lim, 0⟩ : Qn) :: M).Perm (L ++ [(⟨nxt, t.id, lim, 0⟩ : Qn)]) := (List.Perm.swap _ _ _).trans ((hM.symm.cons _).trans (List.perm_append_singleton _ _).symm)
          have hcN : ∀ u ∈ M, tQ A L u = tQ (updI A nxt b4) (L ++ [(⟨nxt, t.id, lim, 0⟩ : Qn)]) u := fun u hu => by
            have h5 := hW.rg u (hM.mem_iff.2 (by simp [hu]))
            have h6 : t.id ≠ u.id := fun e => (List.nodup_cons.1 (hW.nd.perm hM.symm)).1 (List.mem_map.2 ⟨u, hu, e.symm⟩)
            dsimp only [tQ]
            rw [updI_ne (by omega), hg, hk, if_neg h6, if_neg h6, Int.add_zero, Int.add_zero]
          exact Ret.i () [_, _] ⟨rfl, rfl, trivial⟩ rfl trivial (ent_close (⟨updI A nxt b4, mb⟩ : QRep) hW2 (ent_take 3 rfl (ent_takeE 1 rfl (by dsimp only; rw [fQ_add (t := (⟨nxt, t.id, lim, 0⟩ : Qn)), hfn, hlf]; rfl) (ent_closeB2 0 0 0 t (⟨nxt, t.id, lim, 0⟩ : Qn) rfl rfl rfl (by dsimp only [tQ]; rw [updI_ne hne, hg, hk, if_pos rfl, if_pos rfl]; rfl) (by dsimp only [tQ]; rw [updI_same, hg, hk, if_neg hne, if_neg hne, hz.1, hz.2]; rfl) hcN hP2 (ent_take 0 rfl (ent_nil _))))))
  · have hv : carveQ L nxt pr lim = (L, nxt, 0, 6) := if_pos h
    rw [hv]
    dsimp only
    refine TC.seq ?_
    refine TC.region ?_
    refine q rfl rfl (asg (v := .int _ _) rfl) ?_
    refine q rfl rfl (asg (v := .int _ _) rfl) ?_
    refine TL.nil (nt ?_)
    refine TC.seq ?_
    refine TC.region ?_
    refine q rfl rfl (mv (v := .pointer _) rfl) ?_
    refine q rfl rfl (mv (v := .int _ _) rfl) ?_
    refine e rfl ?_
    refine cl (qat_no b mb L.length nxt A L pr h) rfl PkL.p trivial ?_
    intro _ _
    change TL _ _ _ _ _ _ _ _ (sepL [_, _, _, _])
    refine q rfl rfl (mv (v := .tuple _) rfl) ?_
    refine q rfl rfl (pu (v := .pointer _) (fun _ => rfl)) ?_
    refine q rfl rfl (pu (v := .int _ _) (fun _ => rfl)) ?_
    refine q rfl rfl (asg (v := .pointer _) rfl) ?_
    refine q rfl rfl (asg (v := .int _ _) rfl) ?_
    refine TL.nil (nt ?_)
    refine TC.seq ?_
    refine TC.block ?_
    refine TC.seq ?_
    refine TC.region ?_
    refine q rfl rfl (mv (v := .int _ _) rfl) ?_
    refine q rfl rfl (neI rfl rfl) ?_
    refine q rfl rfl (asg (v := .bool _) rfl) ?_
    refine TL.nil (nt ?_)
    refine TC.condT rfl ?_
    refine TC.seq ?_
    refine TC.region ?_
    refine q rfl rfl (mv (v := .int _ _) rfl) ?_
    refine q rfl rfl (asg (v := .int _ _) rfl) ?_
    refine q rfl rfl (asg (v := .int _ _) rfl) ?_
    refine TL.nil (nt ?_)
    refine TC.ret (rb (rt ?_))
    exact Ret.i () [_, _] ⟨rfl, rfl, trivial⟩ rfl trivial (ent_close ⟨A, mb⟩ hW (ent_take 0 rfl (ent_take 0 rfl (ent_take 0 rfl (ent_take 0 rfl (ent_nil _))))))

set_option maxRecDepth 4000 in
theorem qcarve_nil (pr lim : Int) : FSpec Try.prog 10 [.pointer none, .int .i64 pr, .int .i64 lim] noRd [] (fun _ : Unit => .tuple #[.int .i64 0, .int .i64 1]) (fun _ => True) (fun _ => []) := by
  refine FSpec.intro (rs := [.tmp 6, .tmp 7]) (by kernel_rfl) Try.func10 rfl Try.ntmps10 (by rfl) rfl ?_
  intro F _
  change TC _ _ _ _ _ _ _ (sepL [_])
  refine TC.seq ?_
  refine TC.region ?_
  refine q rfl rfl (asg (v := .int _ _) rfl) ?_
  refine q rfl rfl (asg (v := .int _ _) rfl) ?_
  refine TL.nil (nt ?_)
  refine TC.seq ?_
  refine TC.region ?_
  refine q rfl rfl (mv (v := .pointer _) rfl) ?_
  refine q rfl rfl (mv (v := .int _ _) rfl) ?_
  refine e rfl ?_
  refine cl (qat_nil pr) rfl (picked_nil _) trivial ?_
  intro _ _
  change TL _ _ _ _ _ _ _ _ (sepL [_])
  refine q rfl rfl (mv (v := .tuple _) rfl) ?_
  refine q rfl rfl (pu (v := .pointer _) (fun _ => rfl)) ?_
  refine q rfl rfl (pu (v := .int _ _) (fun _ => rfl)) ?_
  refine q rfl rfl (asg (v := .pointer _) rfl) ?_
  refine q rfl rfl (asg (v := .int _ _) rfl) ?_
  refine TL.nil (nt ?_)
  refine TC.seq ?_
  refine TC.block ?_
  refine TC.seq ?_
  refine TC.region ?_
  refine q rfl rfl (mv (v := .int _ _) rfl) ?_
  refine q rfl rfl (neI rfl rfl) ?_
  refine q rfl rfl (asg (v := .bool _) rfl) ?_
  refine TL.nil (nt ?_)
  refine TC.condT rfl ?_
  refine TC.seq ?_
  refine TC.region ?_
  refine q rfl rfl (mv (v := .int _ _) rfl) ?_
  refine q rfl rfl (asg (v := .int _ _) rfl) ?_
  refine q rfl rfl (asg (v := .int _ _) rfl) ?_
  refine TL.nil (nt ?_)
  refine TC.ret (rb (rt ?_))
  exact Ret.i () [_, _] ⟨rfl, rfl, trivial⟩ rfl trivial (ent_take 0 rfl (ent_nil _))

set_option maxRecDepth 4000 in
set_option maxHeartbeats 1000000 in
theorem qclose_ok (b : Nat) (L : List Qn) (nxt : Int) (id : Int) : FSpec Try.prog 15 [.pointer (some ⟨b, 0, none⟩), .int .i64 id] noRd [isQ b L nxt] (fun _ : Unit => .int .i64 (closeQ L id).2) (fun _ => True) (fun _ => [isQ b (closeQ L id).1 nxt]) := by
  refine FSpec.intro (rs := [.tmp 4]) (by kernel_rfl) Try.func15 rfl Try.ntmps15 (by rfl) rfl ?_
  intro F _
  change TC _ _ _ _ _ _ _ (sepL [_, _])
  refine TC.open 0 rfl (fun x0 hx0 => ?_)
  obtain ⟨A, mb⟩ := x0
  have hW := hx0
  change TC _ _ _ _ _ _ _ (sepL [_, _, _, _])
  dsimp only at hW ⊢
  by_cases h : hasQ L id
  · obtain ⟨t, ht, rfl⟩ := h
    have h : hasQ L t.id := ⟨t, ht, rfl⟩
    obtain ⟨e1, e2, e3, e4⟩ := use_yes hW.nd ht
    have hb := hW.big ht
    have hrt := hW.rg t ht
    haveI := tQ_rd (A := A) ht
    refine TC.seq ?_
    refine TC.region ?_
    refine q rfl rfl (asg (v := .int _ _) rfl) ?_
    refine TL.nil (nt ?_)
    refine TC.seq ?_
    refine TC.region ?_
    refine q rfl rfl (mv (v := .pointer _) rfl) ?_
    refine q rfl rfl (mv (v := .int _ _) rfl) ?_
    refine e rfl ?_
    refine cl (qat_yes b mb L.length nxt A L t.id h) rfl PkL.p trivial ?_
    intro _ _
    change TL _ _ _ _ _ _ _ _ (sepL [_, _, _, _])
    refine q rfl rfl (mv (v := .tuple _) rfl) ?_
    refine q rfl rfl (pu (v := .pointer _) (fun _ => rfl)) ?_
    refine q rfl rfl (pu (v := .int _ _) (fun _ => rfl)) ?_
    refine q rfl rfl (asg (v := .pointer _) rfl) ?_
    refine q rfl rfl (asg (v := .int _ _) rfl) ?_
    refine TL.nil (nt ?_)
    refine TC.seq ?_
    refine TC.block ?_
    refine TC.seq ?_
    refine TC.region ?_
    refine q rfl rfl (mv (v := .int _ _) rfl) ?_
    refine q rfl rfl (neI rfl rfl) ?_
    refine q rfl rfl (asg (v := .bool _) rfl) ?_
    refine TL.nil (nt ?_)
    refine TC.condF rfl ?_
    refine TC.seq ?_
    refine TC.region ?_
    refine q rfl rfl (mv (v := .int _ _) rfl) ?_
    refine q rfl rfl (eqI rfl rfl) ?_
    refine q rfl rfl (asg (v := .bool _) rfl) ?_
    refine TL.nil (nt ?_)
    first | refine TC.condD rfl (fun h0 => ?_) (fun h0 => ?_) | refine TC.cond rfl (fun h0 => ?_) (fun h0 => ?_)
    · have hv : closeQ L t.id = (L, 1) := by rw [closeQ, if_neg (fun h2 => h2 h), if_pos h0]
      rw [hv]
      dsimp only
      refine TC.seq ?_
      refine TC.region ?_
      refine q rfl rfl (asg (v := .int _ _) rfl) ?_
      refine TL.nil (nt ?_)
      refine TC.ret (rb (rt ?_))
      exact Ret.i () [_] ⟨rfl, trivial⟩ rfl trivial (ent_close (⟨A, mb⟩ : QRep) hW (by repeat (first | exact ent_nil _ | refine ent_take 0 rfl ?_ | refine ent_take 1 rfl ?_ | refine ent_take 2 rfl ?_ | refine ent_take 3 rfl ?_ | refine ent_take 4 rfl ?_ | refine ent_take 5 rfl ?_ | refine ent_take 6 rfl ?_ | refine ent_take 7 rfl ?_ | refine ent_take 8 rfl ?_ | refine ent_take 9 rfl ?_ | refine ent_take 10 rfl ?_ | refine ent_take 11 rfl ?_ | refine ent_take 12 rfl ?_)))
    · refine TC.seq ?_
      refine TC.region ?_
      refine q rfl rfl (mv (v := .pointer _) rfl) ?_
      first | refine q rfl rfl (nc rfl) ?_ | refine q rfl rfl (ncF rfl) ?_ | refine q rfl rfl (ncS rfl (by first | assumption | (simp [ints_length] <;> omega))) ?_
      first | refine q rfl rfl (fa 0 rfl rfl) ?_ | refine q rfl rfl (faS 0 rfl rfl (by first | assumption | (simp [ints_length] <;> omega))) ?_
      refine e rfl ?_
      refine cl (quse_ok (A t.id) t.lim t.chg (givQ L t.id) t.par (kidQ L t.id) (by omega) (by omega)) rfl (picked_nil _) RdI.rd ?_
      intro _ _
      change TL _ _ _ _ _ _ _ _ (sepL [_, _, _, _])
      refine q rfl rfl (neI rfl rfl) ?_
      refine q rfl rfl (mv (v := .bool _) rfl) ?_
      refine TL.split 27 rfl (fun h1 => ?_) (fun h1 => ?_)
      · have h1 := of_decide_eq_true h1
        refine qs rfl rfl ?_
        refine qs rfl rfl ?_
        refine qs rfl rfl ?_
        refine qs rfl rfl ?_
        refine qs rfl rfl ?_
        first | refine q rfl rfl (pkT (v := .bool _) rfl rfl) ?_ | refine q rfl rfl (pkF (v := .bool _) rfl rfl) ?_
        refine q rfl rfl (asg (v := .bool _) rfl) ?_
        refine TL.nil (nt ?_)
        refine TC.condT rfl ?_
        have hv : closeQ L t.id = (L, 12) := by rw [closeQ, if_neg (fun h2 => h2 h), if_neg h0, if_pos (.inl (by rw [e1]; exact h1))]
        rw [hv]
        dsimp only
        refine TC.seq ?_
        refine TC.region ?_
        refine q rfl rfl (asg (v := .int _ _) rfl) ?_
        refine TL.nil (nt ?_)
        refine TC.ret (rb (rt ?_))
        exact Ret.i () [_] ⟨rfl, trivial⟩ rfl trivial (ent_close (⟨A, mb⟩ : QRep) hW (by repeat (first | exact ent_nil _ | refine ent_take 0 rfl ?_ | refine ent_take 1 rfl ?_ | refine ent_take 2 rfl ?_ | refine ent_take 3 rfl ?_ | refine ent_take 4 rfl ?_ | refine ent_take 5 rfl ?_ | refine ent_take 6 rfl ?_ | refine ent_take 7 rfl ?_ | refine ent_take 8 rfl ?_ | refine ent_take 9 rfl ?_ | refine ent_take 10 rfl ?_ | refine ent_take 11 rfl ?_ | refine ent_take 12 rfl ?_)))
      · have h1 := of_decide_eq_false h1
        refine qg rfl rfl rfl (mv (v := .pointer _) rfl) ?_
        first | refine qg rfl rfl rfl (nc rfl) ?_ | refine qg rfl rfl rfl (ncF rfl) ?_ | refine qg rfl rfl rfl (ncS rfl (by first | assumption | (simp [ints_length] <;> omega))) ?_
        first | refine qg rfl rfl rfl (fa 4 rfl rfl) ?_ | refine qg rfl rfl rfl (faS 4 rfl rfl (by first | assumption | (simp [ints_length] <;> omega))) ?_
        first | refine qg rfl rfl rfl (ld rfl rfl rfl) ?_ | refine qg rfl rfl rfl (ldS rfl rfl rfl) ?_
        refine qg rfl rfl rfl (gtr rfl rfl) ?_
        first | refine q rfl rfl (pkT (v := .bool _) rfl rfl) ?_ | refine q rfl rfl (pkF (v := .bool _) rfl rfl) ?_
        refine q rfl rfl (asg (v := .bool _) rfl) ?_
        refine TL.nil (nt ?_)
        first | refine TC.condD rfl (fun h2 => ?_) (fun h2 => ?_) | refine TC.cond rfl (fun h2 => ?_) (fun h2 => ?_)
        · have hv : closeQ L t.id = (L, 12) := by rw [closeQ, if_neg (fun h2 => h2 h), if_neg h0, if_pos (.inr h2)]
          rw [hv]
          dsimp only
          refine TC.seq ?_
          refine TC.region ?_
          refine q rfl rfl (asg (v := .int _ _) rfl) ?_
          refine TL.nil (nt ?_)
          refine TC.ret (rb (rt ?_))
          exact Ret.i () [_] ⟨rfl, trivial⟩ rfl trivial (ent_close (⟨A, mb⟩ : QRep) hW (by repeat (first | exact ent_nil _ | refine ent_take 0 rfl ?_ | refine ent_take 1 rfl ?_ | refine ent_take 2 rfl ?_ | refine ent_take 3 rfl ?_ | refine ent_take 4 rfl ?_ | refine ent_take 5 rfl ?_ | refine ent_take 6 rfl ?_ | refine ent_take 7 rfl ?_ | refine ent_take 8 rfl ?_ | refine ent_take 9 rfl ?_ | refine ent_take 10 rfl ?_ | refine ent_take 11 rfl ?_ | refine ent_take 12 rfl ?_)))
        · have h3 : t.chg + givQ L t.id = 0 := Decidable.not_not.1 h1
          have hv : closeQ L t.id = (offQ L t.id, 0) := by rw [closeQ, if_neg (fun h2 => h2 h), if_neg h0, if_neg (fun h4 => h4.elim (fun h5 => h5 (by rw [e1]; exact h3)) (fun h5 => h2 h5))]
          rw [hv]
          dsimp only
          have hW2 : WQ (offQ L t.id) nxt := hW.off ht h0 h2
          obtain ⟨⟨pp, hpp, epp⟩, hlt⟩ := hW.par t ht h0
          have hpar : hasQ L t.par := ⟨pp, hpp, epp⟩
          have hbp := hW.big hpp
          obtain ⟨M0, hM0⟩ := perm_mem ht
          have hpm : pp ∈ M0 := by
            rcases List.mem_cons.1 (hM0.mem_iff.1 hpp) with e | e
            · exfalso; rw [e] at epp; omega
            · exact e
          obtain ⟨M, hM⟩ := perm_mem hpm
          have hM1 : (offQ L t.id).Perm M0 := offQ_perm hW.nd hM0
          have hMp : pp :: M |>.Perm (offQ L t.id) := (hM1.trans hM).symm
          have hln := offQ_len hW.nd ht
          have hgv := fun x => offQ_giv hW.nd ht x
          have hgp : t.lim ≤ givQ L pp.id ∧ 1 ≤ kidQ L pp.id := by
            have h8 := givQ_nonneg hW2 pp.id
            have h9 := (kidQ_le (offQ L t.id) pp.id).1
            have h10 := hgv pp.id
            rw [if_pos epp.symm, if_pos epp.symm] at h10; omega
          have hfy : fQ A L t.par = some (.pointer (some ⟨A pp.id, 0, none⟩)) := by rw [epp]; exact fQ_yes hpar
          have hft := fQ_yes (A := A) h
          refine TC.skip (nb (nt ?_))
          refine TC.seq ?_
          refine TC.draw _ [] [(0, false), (1, false), (2, false), (3, false), (4, false), (5, false), (6, false), (7, false), (8, false), (9, false)] (by kernel_rfl) (by kernel_rfl) (ent.refl _) ?_
          refine dq rfl rfl rfl (mv (v := .pointer _) rfl) ?_
          first | refine dq rfl rfl rfl (nc rfl) ?_ | refine dq rfl rfl rfl (ncF rfl) ?_ | refine dq rfl rfl rfl (ncS rfl (by first | assumption | (simp [ints_length] <;> omega))) ?_
          first | refine dq rfl rfl rfl (fa 0 rfl rfl) ?_ | refine dq rfl rfl rfl (faS 0 rfl rfl (by first | assumption | (simp [ints_length] <;> omega))) ?_
          first | refine dq rfl rfl rfl (ld rfl rfl rfl) ?_ | refine dq rfl rfl rfl (ldS rfl rfl rfl) ?_
          refine dq rfl rfl rfl (mv (v := .pointer _) rfl) ?_
          first | refine dq rfl rfl rfl (nc rfl) ?_ | refine dq rfl rfl rfl (ncF rfl) ?_ | refine dq rfl rfl rfl (ncS rfl (by first | assumption | (simp [ints_length] <;> omega))) ?_
          first | refine dq rfl rfl rfl (fa 3 rfl rfl) ?_ | refine dq rfl rfl rfl (faS 3 rfl rfl (by first | assumption | (simp [ints_length] <;> omega))) ?_
          first | refine dq rfl rfl rfl (ld rfl rfl rfl) ?_ | refine dq rfl rfl rfl (ldS rfl rfl rfl) ?_
          refine dq rfl rfl rfl (luF 3 54 rfl rfl (KL.int rfl) rfl rfl) ?_
          rw [hfy]
          refine dq rfl rfl rfl (asg (v := .pointer _) rfl) ?_
          refine TD.nil (nt ?_)
          refine TC.seq ?_
          refine TC.weak (ent_openB 2 rfl hM0) ?_
          refine TC.weak (ent_openB 1 rfl hM) ?_
          refine TC.draw _ [14] [(0, false), (1, false), (2, false), (3, false), (4, false), (5, false), (6, false), (7, false), (8, false), (9, false), (10, false), (11, false), (12, false), (13, false), (14, true)] (by kernel_rfl) (by kernel_rfl) (ent.refl _) ?_
          refine dq rfl rfl rfl (mv (v := .pointer _) rfl) ?_
          first | refine dq rfl rfl rfl (nc rfl) ?_ | refine dq rfl rfl rfl (ncF rfl) ?_ | refine dq rfl rfl rfl (ncS rfl (by first | assumption | (simp [ints_length] <;> omega))) ?_
          first | refine dq rfl rfl rfl (fa 0 rfl rfl) ?_ | refine dq rfl rfl rfl (faS 0 rfl rfl (by first | assumption | (simp [ints_length] <;> omega))) ?_
          first | refine dq rfl rfl rfl (fa 2 rfl rfl) ?_ | refine dq rfl rfl rfl (faS 2 rfl rfl (by first | assumption | (simp [ints_length] <;> omega))) ?_
          first | refine dq rfl rfl rfl (ld rfl rfl rfl) ?_ | refine dq rfl rfl rfl (ldS rfl rfl rfl) ?_
          refine dq rfl rfl rfl (mv (v := .pointer _) rfl) ?_
          first | refine dq rfl rfl rfl (nc rfl) ?_ | refine dq rfl rfl rfl (ncF rfl) ?_ | refine dq rfl rfl rfl (ncS rfl (by first | assumption | (simp [ints_length] <;> omega))) ?_
          first | refine dq rfl rfl rfl (fa 0 rfl rfl) ?_ | refine dq rfl rfl rfl (faS 0 rfl rfl (by first | assumption | (simp [ints_length] <;> omega))) ?_
          first | refine dq rfl rfl rfl (fa 0 rfl rfl) ?_ | refine dq rfl rfl rfl (faS 0 rfl rfl (by first | assumption | (simp [ints_length] <;> omega))) ?_
          first | refine dq rfl rfl rfl (ld rfl rfl rfl) ?_ | refine dq rfl rfl rfl (ldS rfl rfl rfl) ?_
          first | refine dq rfl rfl rfl (subI rfl rfl (by omega) (by omega)) ?_ | refine dq rfl rfl rfl (sub rfl rfl rfl) ?_
          first | refine dq rfl rfl rfl (nc rfl) ?_ | refine dq rfl rfl rfl (ncF rfl) ?_ | refine dq rfl rfl rfl (ncS rfl (by first | assumption | (simp [ints_length] <;> omega))) ?_
          first | refine dq rfl rfl rfl (fa 0 rfl rfl) ?_ | refine dq rfl rfl rfl (faS 0 rfl rfl (by first | assumption | (simp [ints_length] <;> omega))) ?_
          first | refine dq rfl rfl rfl (fa 2 rfl rfl) ?_ | refine dq rfl rfl rfl (faS 2 rfl rfl (by first | assumption | (simp [ints_length] <;> omega))) ?_
          refine dl0 rfl rfl rfl ?_
          refine st (v := .int _ _) (vs := [_]) 1 rfl rfl rfl rfl rfl rfl (Nat.le_of_ble_eq_true rfl) rfl ?_
          refine TD.nil (nt ?_)
          refine TC.seq ?_
          refine TC.region ?_
          refine q rfl rfl (mv (v := .pointer _) rfl) ?_
          first | refine q rfl rfl (nc rfl) ?_ | refine q rfl rfl (ncF rfl) ?_ | refine q rfl rfl (ncS rfl (by first | assumption | (simp [ints_length] <;> omega))) ?_
          first | refine q rfl rfl (fa 4 rfl rfl) ?_ | refine q rfl rfl (faS 4 rfl rfl (by first | assumption | (simp [ints_length] <;> omega))) ?_
          first | refine q rfl rfl (ld rfl rfl rfl) ?_ | refine q rfl rfl (ldS rfl rfl rfl) ?_
          first | refine q rfl rfl (subI rfl rfl (by omega) (by omega)) ?_ | refine q rfl rfl (sub rfl rfl rfl) ?_
          first | refine q rfl rfl (nc rfl) ?_ | refine q rfl rfl (ncF rfl) ?_ | refine q rfl rfl (ncS rfl (by first | assumption | (simp [ints_length] <;> omega))) ?_
          first | refine q rfl rfl (fa 4 rfl rfl) ?_ | refine q rfl rfl (faS 4 rfl rfl (by first | assumption | (simp [ints_length] <;> omega))) ?_
          refine e0 ?_
          refine st (v := .int _ _) (vs := [_]) 1 rfl rfl rfl rfl rfl rfl (Nat.le_of_ble_eq_true rfl) rfl ?_
          refine TL.nil (nt ?_)
          refine TC.seq ?_
          refine TC.region ?_
          refine q rfl rfl (mv (v := .pointer _) rfl) ?_
          first | refine q rfl rfl (nc rfl) ?_ | refine q rfl rfl (ncF rfl) ?_ | refine q rfl rfl (ncS rfl (by first | assumption | (simp [ints_length] <;> omega))) ?_
          first | refine q rfl rfl (fa 0 rfl rfl) ?_ | refine q rfl rfl (faS 0 rfl rfl (by first | assumption | (simp [ints_length] <;> omega))) ?_
          first | refine q rfl rfl (ld rfl rfl rfl) ?_ | refine q rfl rfl (ldS rfl rfl rfl) ?_
          refine q rfl rfl (mv (v := .int _ _) rfl) ?_
          refine e0 ?_
          refine deF 3 54 rfl (KL.int rfl) rfl rfl rfl ?_
          refine TL.nil (nt ?_)
          refine TC.seq ?_
          refine TC.region ?_
          refine q rfl rfl (asg (v := .int _ _) rfl) ?_
          refine TL.nil (nt ?_)
          refine TC.ret ?_
          have hcN : ∀ u ∈ M, tQ A L u = tQ A (offQ L t.id) u := fun u hu => by
            have h6 : t.par ≠ u.id := fun e2 => by
              rw [← epp] at e2
              have h7 := hW2.nd.perm hMp
              exact (List.nodup_cons.1 h7).1 (List.mem_map.2 ⟨u, hu, e2.symm⟩)
            dsimp only [tQ]
            rw [(hgv u.id).1, (hgv u.id).2, if_neg h6, if_neg h6, Int.sub_zero, Int.sub_zero]
          exact Ret.i () [_] ⟨rfl, trivial⟩ rfl trivial (ent_close (⟨A, mb⟩ : QRep) hW2 (ent_take 4 rfl (ent_takeE 0 rfl (by dsimp only; rw [fQ_off, hft, ← hln]; rfl) (ent_closeB 0 0 pp rfl rfl (by dsimp only [tQ]; rw [(hgv pp.id).1, (hgv pp.id).2, if_pos epp.symm, if_pos epp.symm]; rfl) hcN hMp (ent_take 1 rfl (ent_nil _))))))
  · have hv : closeQ L id = (L, 6) := if_pos h
    rw [hv]
    dsimp only
    refine TC.seq ?_
    refine TC.region ?_
    refine q rfl rfl (asg (v := .int _ _) rfl) ?_
    refine TL.nil (nt ?_)
    refine TC.seq ?_
    refine TC.region ?_
    refine q rfl rfl (mv (v := .pointer _) rfl) ?_
    refine q rfl rfl (mv (v := .int _ _) rfl) ?_
    refine e rfl ?_
    refine cl (qat_no b mb L.length nxt A L id h) rfl PkL.p trivial ?_
    intro _ _
    change TL _ _ _ _ _ _ _ _ (sepL [_, _, _, _])
    refine q rfl rfl (mv (v := .tuple _) rfl) ?_
    refine q rfl rfl (pu (v := .pointer _) (fun _ => rfl)) ?_
    refine q rfl rfl (pu (v := .int _ _) (fun _ => rfl)) ?_
    refine q rfl rfl (asg (v := .pointer _) rfl) ?_
    refine q rfl rfl (asg (v := .int _ _) rfl) ?_
    refine TL.nil (nt ?_)
    refine TC.seq ?_
    refine TC.block ?_
    refine TC.seq ?_
    refine TC.region ?_
    refine q rfl rfl (mv (v := .int _ _) rfl) ?_
    refine q rfl rfl (neI rfl rfl) ?_
    refine q rfl rfl (asg (v := .bool _) rfl) ?_
    refine TL.nil (nt ?_)
    refine TC.condT rfl ?_
    refine TC.seq ?_
    refine TC.region ?_
    refine q rfl rfl (mv (v := .int _ _) rfl) ?_
    refine q rfl rfl (asg (v := .int _ _) rfl) ?_
    refine TL.nil (nt ?_)
    refine TC.ret (rb (rt ?_))
    exact Ret.i () [_] ⟨rfl, trivial⟩ rfl trivial (ent_close ⟨A, mb⟩ hW (ent_take 0 rfl (ent_take 0 rfl (ent_take 0 rfl (ent_take 0 rfl (ent_nil _))))))

set_option maxRecDepth 4000 in
theorem qclose_nil (id : Int) : FSpec Try.prog 15 [.pointer none, .int .i64 id] noRd [] (fun _ : Unit => .int .i64 1) (fun _ => True) (fun _ => []) := by
  refine FSpec.intro (rs := [.tmp 4]) (by kernel_rfl) Try.func15 rfl Try.ntmps15 (by rfl) rfl ?_
  intro F _
  change TC _ _ _ _ _ _ _ (sepL [_])
  refine TC.seq ?_
  refine TC.region ?_
  refine q rfl rfl (asg (v := .int _ _) rfl) ?_
  refine TL.nil (nt ?_)
  refine TC.seq ?_
  refine TC.region ?_
  refine q rfl rfl (mv (v := .pointer _) rfl) ?_
  refine q rfl rfl (mv (v := .int _ _) rfl) ?_
  refine e rfl ?_
  refine cl (qat_nil id) rfl (picked_nil _) trivial ?_
  intro _ _
  change TL _ _ _ _ _ _ _ _ (sepL [_])
  refine q rfl rfl (mv (v := .tuple _) rfl) ?_
  refine q rfl rfl (pu (v := .pointer _) (fun _ => rfl)) ?_
  refine q rfl rfl (pu (v := .int _ _) (fun _ => rfl)) ?_
  refine q rfl rfl (asg (v := .pointer _) rfl) ?_
  refine q rfl rfl (asg (v := .int _ _) rfl) ?_
  refine TL.nil (nt ?_)
  refine TC.seq ?_
  refine TC.block ?_
  refine TC.seq ?_
  refine TC.region ?_
  refine q rfl rfl (mv (v := .int _ _) rfl) ?_
  refine q rfl rfl (neI rfl rfl) ?_
  refine q rfl rfl (asg (v := .bool _) rfl) ?_
  refine TL.nil (nt ?_)
  refine TC.condT rfl ?_
  refine TC.seq ?_
  refine TC.region ?_
  refine q rfl rfl (mv (v := .int _ _) rfl) ?_
  refine q rfl rfl (asg (v := .int _ _) rfl) ?_
  refine TL.nil (nt ?_)
  refine TC.ret (rb (rt ?_))
  exact Ret.i () [_] ⟨rfl, trivial⟩ rfl trivial (ent_take 0 rfl (ent_nil _))

end Go.Proofs.Ytmffldmipddngaa
