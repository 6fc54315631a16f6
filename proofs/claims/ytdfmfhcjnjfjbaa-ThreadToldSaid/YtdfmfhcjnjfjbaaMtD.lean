/-
  Proved here: what functions of this program compute, each as a contract over symbolic states, under the premises that each theorem names (most lines printed by a program of the prover).
-/
import Derived.Test.YtdfmfhcjnjfjbaaMtC
namespace Go.Proofs.Ytdfmfhcjnjfjbaa
open Go Go.QM
theorem ent_closeW {α : Type} {f g : α → HP} (i j : Nat) {hs r1 r2 gs : List HP} {L M : List α} {A A' : HP} (a : α) (h1 : take1 i hs = some (A, r1)) (h2 : take1 j r1 = some (bigS f L, r2)) (hw : ent A A') (hA : A' = g a) (hc : ∀ x ∈ L, f x = g x) (hp : (a :: L).Perm M)
    (k : ent (sepL r2) (sepL gs)) : ent (sepL hs) (sepL (bigS g M :: gs)) :=
  (take1_ent h1).trans ((sep_mono hw (ent.refl _)).trans (ent_closeB 0 j (hs := A' :: r1) a rfl h2 hA hc hp k))
set_option maxRecDepth 4000 in
set_option maxHeartbeats 1000000 in
theorem moffer_ok (b : Nat) (A : Int → Nat) (s : MS) (hW : WM s) (to : Int) (o : Off) (hl : s.ids.length ≤ 1000000) : FSpec Try.prog 43 [.pointer (some ⟨b, 0, none⟩), .int .i64 to, .agg (ofC o).toArray] noRd [isMa b A s] (fun _ : Unit => .int .i64 (offS s to o).2) (fun _ => True) (fun _ => [isMa b A (offS s to o).1]) := by
  refine FSpec.intro (rs := [.tmp 6]) (by kernel_rfl) Try.func43 rfl Try.ntmps43 (by rfl) rfl ?_
  intro F _
  change TC _ _ _ _ _ _ _ (sepL [_, _])
  refine TC.seq ?_
  refine TC.region ?_
  refine e rfl ?_
  refine bx (v := .agg #[_, _, _]) (l := [.int _ _, .int _ _, .bool _]) rfl rfl ?_
  intro b1
  refine q rfl rfl (asg (v := .int _ _) rfl) ?_
  refine TL.nil (nt ?_)
  refine TC.seq ?_
  refine TC.open 1 rfl (fun x0 hx0 => ?_)
  obtain ⟨ad, cap, mb⟩ := x0
  have hN := hx0
  change TC _ _ _ _ _ _ _ (sepL [_, _, _, _, _, _])
  dsimp only at hN ⊢
  by_cases ht : to ∈ s.ids
  · by_cases hf : o.fr ∈ s.ids
    · refine TC.region ?_
      refine q rfl rfl (mv (v := .pointer _) rfl) ?_
      refine q rfl rfl (mv (v := .int _ _) rfl) ?_
      refine e rfl ?_
      refine cl (mat_yes b mb s.ids.length A s.ids to ht) rfl PkL.p trivial ?_
      intro _ _
      change TL _ _ _ _ _ _ _ _ (sepL [_, _, _, _, _, _])
      refine q rfl rfl (mv (v := .tuple _) rfl) ?_
      refine q rfl rfl (pu (v := .pointer _) (fun _ => rfl)) ?_
      refine q rfl rfl (pu (v := .int _ _) (fun _ => rfl)) ?_
      refine q rfl rfl (asg (v := .pointer _) rfl) ?_
      refine q rfl rfl (asg (v := .int _ _) rfl) ?_
      refine TL.nil (nt ?_)
      refine TC.seq ?_
      refine TC.region ?_
      refine q rfl rfl (mv (v := .pointer _) rfl) ?_
      first | refine q rfl rfl (fa 0 rfl rfl) ?_ | refine q rfl rfl (faS 0 rfl rfl (by first | assumption | (simp [ints_length] <;> omega))) ?_
      first | refine q rfl rfl (ld rfl rfl rfl) ?_ | refine q rfl rfl (ldS rfl rfl rfl) ?_
      refine e rfl ?_
      refine cl (mat_yes b mb s.ids.length A s.ids o.fr hf) rfl PkL.p trivial ?_
      intro _ _
      change TL _ _ _ _ _ _ _ _ (sepL [_, _, _, _, _, _])
      refine q rfl rfl (mv (v := .tuple _) rfl) ?_
      refine q rfl rfl (pu (v := .pointer _) (fun _ => rfl)) ?_
      refine q rfl rfl (pu (v := .int _ _) (fun _ => rfl)) ?_
      refine q rfl rfl (asg (v := .pointer _) rfl) ?_
      refine q rfl rfl (asg (v := .int _ _) rfl) ?_
      refine TL.nil (nt ?_)
      refine TC.seq ?_
      refine TC.block ?_
      refine TC.seq ?_
      refine TC.region ?_
      refine q rfl rfl (mv (v := .int _ _) rfl) ?_
      refine q rfl rfl (neI rfl rfl) ?_
      refine q rfl rfl (asg (v := .bool _) rfl) ?_
      refine TL.nil (nt ?_)
      refine TC.condF rfl ?_
      refine TC.seq ?_
      refine TC.region ?_
      refine q rfl rfl (mv (v := .int _ _) rfl) ?_
      refine q rfl rfl (neI rfl rfl) ?_
      refine q rfl rfl (asg (v := .bool _) rfl) ?_
      refine TL.nil (nt ?_)
      refine TC.condF rfl ?_
      refine TC.seq ?_
      refine TC.region ?_
      first | refine q rfl rfl (fa 0 rfl rfl) ?_ | refine q rfl rfl (faS 0 rfl rfl (by first | assumption | (simp [ints_length] <;> omega))) ?_
      first | refine q rfl rfl (ld rfl rfl rfl) ?_ | refine q rfl rfl (ldS rfl rfl rfl) ?_
      refine q rfl rfl (mv (v := .int _ _) rfl) ?_
      refine q rfl rfl (eqI rfl rfl) ?_
      refine q rfl rfl (asg (v := .bool _) rfl) ?_
      refine TL.nil (nt ?_)
      have h1 : ¬ (to ∉ s.ids ∨ o.fr ∉ s.ids) := fun h => h.elim (fun h => h ht) (fun h => h hf)
      first | refine TC.condD rfl (fun he => ?_) (fun he => ?_) | refine TC.cond rfl (fun he => ?_) (fun he => ?_)
      · have hv : offS s to o = (s, 1) := by rw [offS, if_neg h1, if_pos he]
        rw [hv]
        refine TC.seq ?_
        refine TC.region ?_
        refine q rfl rfl (asg (v := .int _ _) rfl) ?_
        refine TL.nil (nt ?_)
        refine TC.ret (rb (rt ?_))
        exact Ret.i () [_] ⟨rfl, trivial⟩ rfl trivial (ent_close (⟨ad, cap, mb⟩ : MRep) hN (by repeat (first | exact ent_nil _ | refine ent_take 0 rfl ?_ | refine ent_take 1 rfl ?_ | refine ent_take 2 rfl ?_ | refine ent_take 3 rfl ?_ | refine ent_take 4 rfl ?_ | refine ent_take 5 rfl ?_ | refine ent_take 6 rfl ?_ | refine ent_take 7 rfl ?_ | refine ent_take 8 rfl ?_ | refine ent_take 9 rfl ?_ | refine ent_take 10 rfl ?_ | refine ent_take 11 rfl ?_ | refine ent_take 12 rfl ?_)))
      · haveI := tP_rd (A := A) (ad := ad) (cap := cap) (s := s) (x := o.fr) hf
        refine TC.seq ?_
        refine TC.region ?_
        refine q rfl rfl (mv (v := .pointer _) rfl) ?_
        first | refine q rfl rfl (nc rfl) ?_ | refine q rfl rfl (ncF rfl) ?_ | refine q rfl rfl (ncS rfl (by first | assumption | (simp [ints_length] <;> omega))) ?_
        first | refine q rfl rfl (fa 1 rfl rfl) ?_ | refine q rfl rfl (faS 1 rfl rfl (by first | assumption | (simp [ints_length] <;> omega))) ?_
        first | refine q rfl rfl (ld rfl rfl rfl) ?_ | refine q rfl rfl (ldS rfl rfl rfl) ?_
        refine q rfl rfl (neI rfl rfl) ?_
        refine q rfl rfl (asg (v := .bool _) rfl) ?_
        refine TL.nil (nt ?_)
        first | refine TC.condD rfl (fun hs => ?_) (fun hs => ?_) | refine TC.cond rfl (fun hs => ?_) (fun hs => ?_)
        · have hv : offS s to o = (s, 12) := by rw [offS, if_neg h1, if_neg he, if_pos hs]
          rw [hv]
          refine TC.seq ?_
          refine TC.region ?_
          refine q rfl rfl (asg (v := .int _ _) rfl) ?_
          refine TL.nil (nt ?_)
          refine TC.ret (rb (rt ?_))
          exact Ret.i () [_] ⟨rfl, trivial⟩ rfl trivial (ent_close (⟨ad, cap, mb⟩ : MRep) hN (by repeat (first | exact ent_nil _ | refine ent_take 0 rfl ?_ | refine ent_take 1 rfl ?_ | refine ent_take 2 rfl ?_ | refine ent_take 3 rfl ?_ | refine ent_take 4 rfl ?_ | refine ent_take 5 rfl ?_ | refine ent_take 6 rfl ?_ | refine ent_take 7 rfl ?_ | refine ent_take 8 rfl ?_ | refine ent_take 9 rfl ?_ | refine ent_take 10 rfl ?_ | refine ent_take 11 rfl ?_ | refine ent_take 12 rfl ?_)))
        · have hv : offS s to o = (pushS (wtS s o.fr 1 to) to o, 0) := by rw [offS, if_neg h1, if_neg he, if_neg hs]
          rw [hv]
          have hrl := rowlen hW ht
          refine TC.skip (nb (nt ?_))
          refine TC.seq ?_
          refine TC.region ?_
          refine q rfl rfl (mv (v := .pointer _) rfl) ?_
          refine q rfl rfl (mv (v := .int _ _) rfl) ?_
          refine e rfl ?_
          refine cl (mwaits_ok A ad cap s s.ids o.fr hf hN 1 to) rfl PkL.p trivial ?_
          intro _ _
          change TL _ _ _ _ _ _ _ _ (sepL [_, _, _, _, _, _])
          refine TL.nil (nt ?_)
          refine TC.seq ?_
          refine TC.weak (B := sepL [bigS (tP A ad cap (wtS s o.fr 1 to)) s.ids, bigS (rP ad cap (wtS s o.fr 1 to)) s.ids, pts b 96 [.map (some mb)], mapF encI mb (fM A s.ids) s.ids.length, pts b1 32 (ofC o), F]) (by repeat (first | exact ent_nil _ | refine ent_take 0 rfl ?_ | refine ent_take 1 rfl ?_ | refine ent_take 2 rfl ?_ | refine ent_take 3 rfl ?_ | refine ent_take 4 rfl ?_ | refine ent_take 5 rfl ?_ | refine ent_take 6 rfl ?_ | refine ent_take 7 rfl ?_ | refine ent_take 8 rfl ?_ | refine ent_take 9 rfl ?_ | refine ent_take 10 rfl ?_ | refine ent_take 11 rfl ?_ | refine ent_take 12 rfl ?_)) ?_
          refine TC.draw _ [] [(0, false), (1, false), (2, false), (3, false), (4, true)] (by kernel_rfl) (by kernel_rfl) (ent_take 4 rfl (ent_nil _)) ?_
          refine dq rfl rfl rfl (mv (v := .pointer _) rfl) ?_
          first | refine dq rfl rfl rfl (nc rfl) ?_ | refine dq rfl rfl rfl (ncF rfl) ?_ | refine dq rfl rfl rfl (ncS rfl (by first | assumption | (simp [ints_length] <;> omega))) ?_
          first | refine dq rfl rfl rfl (fa 0 rfl rfl) ?_ | refine dq rfl rfl rfl (faS 0 rfl rfl (by first | assumption | (simp [ints_length] <;> omega))) ?_
          first | refine dq rfl rfl rfl (ldN (vs := [_, _, _]) 3 rfl rfl rfl rfl) ?_ | refine dq rfl rfl rfl (ldSN (vs := [_, _, _]) 3 rfl rfl rfl rfl (by decide)) ?_
          refine de rfl rfl ?_
          refine cl (mpush_ok A ad cap (wtS s o.fr 1 to) s.ids to ht hN o (by show (s.row to).length ≤ 1000000; omega)) rfl PkL.p trivial ?_
          intro y _
          change ent _ _ ∧ TD _ _ _ _ _ _ _ _ _ _ (sepL [_, _, _, _, _, _])
          refine ⟨(by repeat (first | exact ent_nil _ | refine ent_take 0 rfl ?_ | refine ent_take 1 rfl ?_ | refine ent_take 2 rfl ?_ | refine ent_take 3 rfl ?_ | refine ent_take 4 rfl ?_ | refine ent_take 5 rfl ?_ | refine ent_take 6 rfl ?_ | refine ent_take 7 rfl ?_ | refine ent_take 8 rfl ?_ | refine ent_take 9 rfl ?_ | refine ent_take 10 rfl ?_ | refine ent_take 11 rfl ?_ | refine ent_take 12 rfl ?_)), ?_⟩
          refine TD.nil (nt ?_)
          refine TC.seq ?_
          refine TC.region ?_
          refine q rfl rfl (asg (v := .int _ _) rfl) ?_
          refine TL.nil (nt ?_)
          refine TC.ret ?_
          exact Ret.i () [_] ⟨rfl, trivial⟩ rfl trivial (ent_close (⟨(updI ad to y.1), (updI cap to y.2), mb⟩ : MRep) hN (by repeat (first | exact ent_nil _ | refine ent_take 0 rfl ?_ | refine ent_take 1 rfl ?_ | refine ent_take 2 rfl ?_ | refine ent_take 3 rfl ?_ | refine ent_take 4 rfl ?_ | refine ent_take 5 rfl ?_ | refine ent_take 6 rfl ?_ | refine ent_take 7 rfl ?_ | refine ent_take 8 rfl ?_ | refine ent_take 9 rfl ?_ | refine ent_take 10 rfl ?_ | refine ent_take 11 rfl ?_ | refine ent_take 12 rfl ?_)))
    · have hv : offS s to o = (s, 6) := if_pos (.inr hf)
      rw [hv]
      refine TC.region ?_
      refine q rfl rfl (mv (v := .pointer _) rfl) ?_
      refine q rfl rfl (mv (v := .int _ _) rfl) ?_
      refine e rfl ?_
      refine cl (mat_yes b mb s.ids.length A s.ids to ht) rfl PkL.p trivial ?_
      intro _ _
      change TL _ _ _ _ _ _ _ _ (sepL [_, _, _, _, _, _])
      refine q rfl rfl (mv (v := .tuple _) rfl) ?_
      refine q rfl rfl (pu (v := .pointer _) (fun _ => rfl)) ?_
      refine q rfl rfl (pu (v := .int _ _) (fun _ => rfl)) ?_
      refine q rfl rfl (asg (v := .pointer _) rfl) ?_
      refine q rfl rfl (asg (v := .int _ _) rfl) ?_
      refine TL.nil (nt ?_)
      refine TC.seq ?_
      refine TC.region ?_
      refine q rfl rfl (mv (v := .pointer _) rfl) ?_
      first | refine q rfl rfl (fa 0 rfl rfl) ?_ | refine q rfl rfl (faS 0 rfl rfl (by first | assumption | (simp [ints_length] <;> omega))) ?_
      first | refine q rfl rfl (ld rfl rfl rfl) ?_ | refine q rfl rfl (ldS rfl rfl rfl) ?_
      refine e rfl ?_
      refine cl (mat_no b mb s.ids.length A s.ids o.fr hf) rfl PkL.p trivial ?_
      intro _ _
      change TL _ _ _ _ _ _ _ _ (sepL [_, _, _, _, _, _])
      refine q rfl rfl (mv (v := .tuple _) rfl) ?_
      refine q rfl rfl (pu (v := .pointer _) (fun _ => rfl)) ?_
      refine q rfl rfl (pu (v := .int _ _) (fun _ => rfl)) ?_
      refine q rfl rfl (asg (v := .pointer _) rfl) ?_
      refine q rfl rfl (asg (v := .int _ _) rfl) ?_
      refine TL.nil (nt ?_)
      refine TC.seq ?_
      refine TC.block ?_
      refine TC.seq ?_
      refine TC.region ?_
      refine q rfl rfl (mv (v := .int _ _) rfl) ?_
      refine q rfl rfl (neI rfl rfl) ?_
      refine q rfl rfl (asg (v := .bool _) rfl) ?_
      refine TL.nil (nt ?_)
      refine TC.condF rfl ?_
      refine TC.seq ?_
      refine TC.region ?_
      refine q rfl rfl (mv (v := .int _ _) rfl) ?_
      refine q rfl rfl (neI rfl rfl) ?_
      refine q rfl rfl (asg (v := .bool _) rfl) ?_
      refine TL.nil (nt ?_)
      refine TC.condT rfl ?_
      refine TC.seq ?_
      refine TC.region ?_
      refine q rfl rfl (mv (v := .int _ _) rfl) ?_
      refine q rfl rfl (asg (v := .int _ _) rfl) ?_
      refine TL.nil (nt ?_)
      refine TC.ret (rb (rt ?_))
      exact Ret.i () [_] ⟨rfl, trivial⟩ rfl trivial (ent_close (⟨ad, cap, mb⟩ : MRep) hN (by repeat (first | exact ent_nil _ | refine ent_take 0 rfl ?_ | refine ent_take 1 rfl ?_ | refine ent_take 2 rfl ?_ | refine ent_take 3 rfl ?_ | refine ent_take 4 rfl ?_ | refine ent_take 5 rfl ?_ | refine ent_take 6 rfl ?_ | refine ent_take 7 rfl ?_ | refine ent_take 8 rfl ?_ | refine ent_take 9 rfl ?_ | refine ent_take 10 rfl ?_ | refine ent_take 11 rfl ?_ | refine ent_take 12 rfl ?_)))
  · have hv : offS s to o = (s, 6) := if_pos (.inl ht)
    rw [hv]
    by_cases hf : o.fr ∈ s.ids
    · refine TC.region ?_
      refine q rfl rfl (mv (v := .pointer _) rfl) ?_
      refine q rfl rfl (mv (v := .int _ _) rfl) ?_
      refine e rfl ?_
      refine cl (mat_no b mb s.ids.length A s.ids to ht) rfl PkL.p trivial ?_
      intro _ _
      change TL _ _ _ _ _ _ _ _ (sepL [_, _, _, _, _, _])
      refine q rfl rfl (mv (v := .tuple _) rfl) ?_
      refine q rfl rfl (pu (v := .pointer _) (fun _ => rfl)) ?_
      refine q rfl rfl (pu (v := .int _ _) (fun _ => rfl)) ?_
      refine q rfl rfl (asg (v := .pointer _) rfl) ?_
      refine q rfl rfl (asg (v := .int _ _) rfl) ?_
      refine TL.nil (nt ?_)
      refine TC.seq ?_
      refine TC.region ?_
      refine q rfl rfl (mv (v := .pointer _) rfl) ?_
      first | refine q rfl rfl (fa 0 rfl rfl) ?_ | refine q rfl rfl (faS 0 rfl rfl (by first | assumption | (simp [ints_length] <;> omega))) ?_
      first | refine q rfl rfl (ld rfl rfl rfl) ?_ | refine q rfl rfl (ldS rfl rfl rfl) ?_
      refine e rfl ?_
      refine cl (mat_yes b mb s.ids.length A s.ids o.fr hf) rfl PkL.p trivial ?_
      intro _ _
      change TL _ _ _ _ _ _ _ _ (sepL [_, _, _, _, _, _])
      refine q rfl rfl (mv (v := .tuple _) rfl) ?_
      refine q rfl rfl (pu (v := .pointer _) (fun _ => rfl)) ?_
      refine q rfl rfl (pu (v := .int _ _) (fun _ => rfl)) ?_
      refine q rfl rfl (asg (v := .pointer _) rfl) ?_
      refine q rfl rfl (asg (v := .int _ _) rfl) ?_
      refine TL.nil (nt ?_)
      refine TC.seq ?_
      refine TC.block ?_
      refine TC.seq ?_
      refine TC.region ?_
      refine q rfl rfl (mv (v := .int _ _) rfl) ?_
      refine q rfl rfl (neI rfl rfl) ?_
      refine q rfl rfl (asg (v := .bool _) rfl) ?_
      refine TL.nil (nt ?_)
      refine TC.condT rfl ?_
      refine TC.seq ?_
      refine TC.region ?_
      refine q rfl rfl (mv (v := .int _ _) rfl) ?_
      refine q rfl rfl (asg (v := .int _ _) rfl) ?_
      refine TL.nil (nt ?_)
      refine TC.ret (rb (rt ?_))
      exact Ret.i () [_] ⟨rfl, trivial⟩ rfl trivial (ent_close (⟨ad, cap, mb⟩ : MRep) hN (by repeat (first | exact ent_nil _ | refine ent_take 0 rfl ?_ | refine ent_take 1 rfl ?_ | refine ent_take 2 rfl ?_ | refine ent_take 3 rfl ?_ | refine ent_take 4 rfl ?_ | refine ent_take 5 rfl ?_ | refine ent_take 6 rfl ?_ | refine ent_take 7 rfl ?_ | refine ent_take 8 rfl ?_ | refine ent_take 9 rfl ?_ | refine ent_take 10 rfl ?_ | refine ent_take 11 rfl ?_ | refine ent_take 12 rfl ?_)))
    · refine TC.region ?_
      refine q rfl rfl (mv (v := .pointer _) rfl) ?_
      refine q rfl rfl (mv (v := .int _ _) rfl) ?_
      refine e rfl ?_
      refine cl (mat_no b mb s.ids.length A s.ids to ht) rfl PkL.p trivial ?_
      intro _ _
      change TL _ _ _ _ _ _ _ _ (sepL [_, _, _, _, _, _])
      refine q rfl rfl (mv (v := .tuple _) rfl) ?_
      refine q rfl rfl (pu (v := .pointer _) (fun _ => rfl)) ?_
      refine q rfl rfl (pu (v := .int _ _) (fun _ => rfl)) ?_
      refine q rfl rfl (asg (v := .pointer _) rfl) ?_
      refine q rfl rfl (asg (v := .int _ _) rfl) ?_
      refine TL.nil (nt ?_)
      refine TC.seq ?_
      refine TC.region ?_
      refine q rfl rfl (mv (v := .pointer _) rfl) ?_
      first | refine q rfl rfl (fa 0 rfl rfl) ?_ | refine q rfl rfl (faS 0 rfl rfl (by first | assumption | (simp [ints_length] <;> omega))) ?_
      first | refine q rfl rfl (ld rfl rfl rfl) ?_ | refine q rfl rfl (ldS rfl rfl rfl) ?_
      refine e rfl ?_
      refine cl (mat_no b mb s.ids.length A s.ids o.fr hf) rfl PkL.p trivial ?_
      intro _ _
      change TL _ _ _ _ _ _ _ _ (sepL [_, _, _, _, _, _])
      refine q rfl rfl (mv (v := .tuple _) rfl) ?_
      refine q rfl rfl (pu (v := .pointer _) (fun _ => rfl)) ?_
      refine q rfl rfl (pu (v := .int _ _) (fun _ => rfl)) ?_
      refine q rfl rfl (asg (v := .pointer _) rfl) ?_
      refine q rfl rfl (asg (v := .int _ _) rfl) ?_
      refine TL.nil (nt ?_)
      refine TC.seq ?_
      refine TC.block ?_
      refine TC.seq ?_
      refine TC.region ?_
      refine q rfl rfl (mv (v := .int _ _) rfl) ?_
      refine q rfl rfl (neI rfl rfl) ?_
      refine q rfl rfl (asg (v := .bool _) rfl) ?_
      refine TL.nil (nt ?_)
      refine TC.condT rfl ?_
      refine TC.seq ?_
      refine TC.region ?_
      refine q rfl rfl (mv (v := .int _ _) rfl) ?_
      refine q rfl rfl (asg (v := .int _ _) rfl) ?_
      refine TL.nil (nt ?_)
      refine TC.ret (rb (rt ?_))
      exact Ret.i () [_] ⟨rfl, trivial⟩ rfl trivial (ent_close (⟨ad, cap, mb⟩ : MRep) hN (by repeat (first | exact ent_nil _ | refine ent_take 0 rfl ?_ | refine ent_take 1 rfl ?_ | refine ent_take 2 rfl ?_ | refine ent_take 3 rfl ?_ | refine ent_take 4 rfl ?_ | refine ent_take 5 rfl ?_ | refine ent_take 6 rfl ?_ | refine ent_take 7 rfl ?_ | refine ent_take 8 rfl ?_ | refine ent_take 9 rfl ?_ | refine ent_take 10 rfl ?_ | refine ent_take 11 rfl ?_ | refine ent_take 12 rfl ?_)))

set_option maxRecDepth 4000 in
theorem moffer_nil (to : Int) (o : Off) : FSpec Try.prog 43 [.pointer none, .int .i64 to, .agg (ofC o).toArray] noRd [] (fun _ : Unit => .int .i64 1) (fun _ => True) (fun _ => []) := by
  refine FSpec.intro (rs := [.tmp 6]) (by kernel_rfl) Try.func43 rfl Try.ntmps43 (by rfl) rfl ?_
  intro F _
  change TC _ _ _ _ _ _ _ (sepL [_])
  refine TC.seq ?_
  refine TC.region ?_
  refine e rfl ?_
  refine bx (v := .agg #[_, _, _]) (l := [.int _ _, .int _ _, .bool _]) rfl rfl ?_
  intro b2
  refine q rfl rfl (asg (v := .int _ _) rfl) ?_
  refine TL.nil (nt ?_)
  refine TC.seq ?_
  refine TC.region ?_
  refine q rfl rfl (mv (v := .pointer _) rfl) ?_
  refine q rfl rfl (mv (v := .int _ _) rfl) ?_
  refine e rfl ?_
  refine cl (mat_nil to) rfl (picked_nil _) trivial ?_
  intro _ _
  change TL _ _ _ _ _ _ _ _ (sepL [_, _])
  refine q rfl rfl (mv (v := .tuple _) rfl) ?_
  refine q rfl rfl (pu (v := .pointer _) (fun _ => rfl)) ?_
  refine q rfl rfl (pu (v := .int _ _) (fun _ => rfl)) ?_
  refine q rfl rfl (asg (v := .pointer _) rfl) ?_
  refine q rfl rfl (asg (v := .int _ _) rfl) ?_
  refine TL.nil (nt ?_)
  refine TC.seq ?_
  refine TC.region ?_
  refine q rfl rfl (mv (v := .pointer _) rfl) ?_
  first | refine q rfl rfl (fa 0 rfl rfl) ?_ | refine q rfl rfl (faS 0 rfl rfl (by first | assumption | (simp [ints_length] <;> omega))) ?_
  first | refine q rfl rfl (ld rfl rfl rfl) ?_ | refine q rfl rfl (ldS rfl rfl rfl) ?_
  refine e rfl ?_
  refine cl (mat_nil o.fr) rfl (picked_nil _) trivial ?_
  intro _ _
  change TL _ _ _ _ _ _ _ _ (sepL [_, _])
  refine q rfl rfl (mv (v := .tuple _) rfl) ?_
  refine q rfl rfl (pu (v := .pointer _) (fun _ => rfl)) ?_
  refine q rfl rfl (pu (v := .int _ _) (fun _ => rfl)) ?_
  refine q rfl rfl (asg (v := .pointer _) rfl) ?_
  refine q rfl rfl (asg (v := .int _ _) rfl) ?_
  refine TL.nil (nt ?_)
  refine TC.seq ?_
  refine TC.block ?_
  refine TC.seq ?_
  refine TC.region ?_
  refine q rfl rfl (mv (v := .int _ _) rfl) ?_
  refine q rfl rfl (neI rfl rfl) ?_
  refine q rfl rfl (asg (v := .bool _) rfl) ?_
  refine TL.nil (nt ?_)
  refine TC.condT rfl ?_
  refine TC.seq ?_
  refine TC.region ?_
  refine q rfl rfl (mv (v := .int _ _) rfl) ?_
  refine q rfl rfl (asg (v := .int _ _) rfl) ?_
  refine TL.nil (nt ?_)
  refine TC.ret (rb (rt ?_))
  exact Ret.i () [_] ⟨rfl, trivial⟩ rfl trivial (by repeat (first | exact ent_nil _ | refine ent_take 0 rfl ?_ | refine ent_take 1 rfl ?_ | refine ent_take 2 rfl ?_ | refine ent_take 3 rfl ?_ | refine ent_take 4 rfl ?_ | refine ent_take 5 rfl ?_ | refine ent_take 6 rfl ?_ | refine ent_take 7 rfl ?_ | refine ent_take 8 rfl ?_ | refine ent_take 9 rfl ?_ | refine ent_take 10 rfl ?_ | refine ent_take 11 rfl ?_ | refine ent_take 12 rfl ?_))

set_option maxRecDepth 4000 in
theorem mopen_ok (b : Nat) (A : Int → Nat) (s : MS) (hW : WM s) (id : Int) : FSpec Try.prog 40 [.pointer (some ⟨b, 0, none⟩), .int .i64 id] noRd [isMa b A s] (fun _ : Unit => .int .i64 (openS s id).2) (fun _ => True) (fun _ => [isMa b A (openS s id).1]) := by
  refine FSpec.intro (rs := [.tmp 4]) (by kernel_rfl) Try.func40 rfl Try.ntmps40 (by rfl) rfl ?_
  intro F _
  change TC _ _ _ _ _ _ _ (sepL [_, _])
  refine TC.open 0 rfl (fun x0 hx0 => ?_)
  obtain ⟨ad, cap, mb⟩ := x0
  have hN := hx0
  change TC _ _ _ _ _ _ _ (sepL [_, _, _, _, _])
  dsimp only at hN ⊢
  by_cases h : id ∈ s.ids
  · obtain ⟨M, hM⟩ := perm_mem h
    have hne := nd_ne hN hM
    refine TC.weak (ent_openB 2 rfl hM) ?_
    refine TC.seq ?_
    refine TC.region ?_
    refine q rfl rfl (asg (v := .int _ _) rfl) ?_
    refine TL.nil (nt ?_)
    refine TC.seq ?_
    refine TC.region ?_
    refine q rfl rfl (mv (v := .pointer _) rfl) ?_
    refine q rfl rfl (mv (v := .int _ _) rfl) ?_
    refine e rfl ?_
    refine cl (mat_yes b mb s.ids.length A s.ids id h) rfl PkL.p trivial ?_
    intro _ _
    change TL _ _ _ _ _ _ _ _ (sepL [_, _, _, _, _, _])
    refine q rfl rfl (mv (v := .tuple _) rfl) ?_
    refine q rfl rfl (pu (v := .pointer _) (fun _ => rfl)) ?_
    refine q rfl rfl (pu (v := .int _ _) (fun _ => rfl)) ?_
    refine q rfl rfl (asg (v := .pointer _) rfl) ?_
    refine q rfl rfl (asg (v := .int _ _) rfl) ?_
    refine TL.nil (nt ?_)
    refine TC.seq ?_
    refine TC.block ?_
    refine TC.seq ?_
    refine TC.region ?_
    refine q rfl rfl (mv (v := .int _ _) rfl) ?_
    refine q rfl rfl (neI rfl rfl) ?_
    refine q rfl rfl (asg (v := .bool _) rfl) ?_
    refine TL.nil (nt ?_)
    refine TC.condF rfl ?_
    refine TC.seq ?_
    refine TC.region ?_
    refine q rfl rfl (mv (v := .pointer _) rfl) ?_
    first | refine q rfl rfl (nc rfl) ?_ | refine q rfl rfl (ncF rfl) ?_ | refine q rfl rfl (ncS rfl (by first | assumption | (simp [ints_length] <;> omega))) ?_
    first | refine q rfl rfl (fa 1 rfl rfl) ?_ | refine q rfl rfl (faS 1 rfl rfl (by first | assumption | (simp [ints_length] <;> omega))) ?_
    first | refine q rfl rfl (ld rfl rfl rfl) ?_ | refine q rfl rfl (ldS rfl rfl rfl) ?_
    refine q rfl rfl (neI rfl rfl) ?_
    refine q rfl rfl (mv (v := .bool _) rfl) ?_
    refine TL.split 23 rfl (fun hs => ?_) (fun hs => ?_)
    · have hs := of_decide_eq_true hs
      have hv : openS s id = (s, 12) := by rw [openS, if_neg (fun h2 => h2 h), if_pos (.inl hs)]
      rw [hv]
      refine qs rfl rfl ?_
      refine qs rfl rfl ?_
      refine qs rfl rfl ?_
      refine qs rfl rfl ?_
      refine qs rfl rfl ?_
      refine qs rfl rfl ?_
      refine qs rfl rfl ?_
      first | refine q rfl rfl (pkT (v := .bool _) rfl rfl) ?_ | refine q rfl rfl (pkF (v := .bool _) rfl rfl) ?_
      refine q rfl rfl (asg (v := .bool _) rfl) ?_
      refine TL.nil (nt ?_)
      refine TC.condT rfl ?_
      refine TC.seq ?_
      refine TC.region ?_
      refine q rfl rfl (asg (v := .int _ _) rfl) ?_
      refine TL.nil (nt ?_)
      refine TC.ret (rb (rt ?_))
      exact Ret.i () [_] ⟨rfl, trivial⟩ rfl trivial (ent_close (⟨ad, cap, mb⟩ : MRep) hN (ent_take 0 rfl (ent_take 0 rfl (ent_closeB 0 0 id rfl rfl rfl (fun _ _ => rfl) hM.symm (ent_take 0 rfl (ent_take 0 rfl (ent_nil _)))))))
    · have hs := of_decide_eq_false hs
      refine qg rfl rfl rfl (mv (v := .pointer _) rfl) ?_
      first | refine qg rfl rfl rfl (nc rfl) ?_ | refine qg rfl rfl rfl (ncF rfl) ?_ | refine qg rfl rfl rfl (ncS rfl (by first | assumption | (simp [ints_length] <;> omega))) ?_
      first | refine qg rfl rfl rfl (fa 0 rfl rfl) ?_ | refine qg rfl rfl rfl (faS 0 rfl rfl (by first | assumption | (simp [ints_length] <;> omega))) ?_
      first | refine qg rfl rfl rfl (fa 0 rfl rfl) ?_ | refine qg rfl rfl rfl (faS 0 rfl rfl (by first | assumption | (simp [ints_length] <;> omega))) ?_
      first | refine qg rfl rfl rfl (ld rfl rfl rfl) ?_ | refine qg rfl rfl rfl (ldS rfl rfl rfl) ?_
      refine qg rfl rfl rfl (len 32 3 rfl rfl) ?_
      refine qg rfl rfl rfl (gtr rfl rfl) ?_
      first | refine q rfl rfl (pkT (v := .bool _) rfl rfl) ?_ | refine q rfl rfl (pkF (v := .bool _) rfl rfl) ?_
      refine q rfl rfl (asg (v := .bool _) rfl) ?_
      refine TL.nil (nt ?_)
      first | refine TC.condD rfl (fun hr => ?_) (fun hr => ?_) | refine TC.cond rfl (fun hr => ?_) (fun hr => ?_)
      · have hv : openS s id = (s, 12) := by rw [openS, if_neg (fun h2 => h2 h), if_pos (.inr (by omega))]
        rw [hv]
        refine TC.seq ?_
        refine TC.region ?_
        refine q rfl rfl (asg (v := .int _ _) rfl) ?_
        refine TL.nil (nt ?_)
        refine TC.ret (rb (rt ?_))
        exact Ret.i () [_] ⟨rfl, trivial⟩ rfl trivial (ent_close (⟨ad, cap, mb⟩ : MRep) hN (ent_take 0 rfl (ent_take 0 rfl (ent_closeB 0 0 id rfl rfl rfl (fun _ _ => rfl) hM.symm (ent_take 0 rfl (ent_take 0 rfl (ent_nil _)))))))
      · have hv : openS s id = (stS s id 2, 0) := by rw [openS, if_neg (fun h2 => h2 h), if_neg (fun h2 => h2.elim (fun h3 => hs h3) (fun h3 => hr (by omega)))]
        rw [hv]
        refine TC.skip (nb (nt ?_))
        refine TC.seq ?_
        refine TC.region ?_
        refine q rfl rfl (mv (v := .pointer _) rfl) ?_
        first | refine q rfl rfl (nc rfl) ?_ | refine q rfl rfl (ncF rfl) ?_ | refine q rfl rfl (ncS rfl (by first | assumption | (simp [ints_length] <;> omega))) ?_
        first | refine q rfl rfl (fa 1 rfl rfl) ?_ | refine q rfl rfl (faS 1 rfl rfl (by first | assumption | (simp [ints_length] <;> omega))) ?_
        refine e0 ?_
        refine st (v := .int _ _) (vs := [_]) 1 rfl rfl rfl rfl rfl rfl (Nat.le_of_ble_eq_true rfl) rfl ?_
        refine TL.nil (nt ?_)
        refine TC.seq ?_
        refine TC.region ?_
        refine q rfl rfl (asg (v := .int _ _) rfl) ?_
        refine TL.nil (nt ?_)
        refine TC.ret ?_
        exact Ret.i () [_] ⟨rfl, trivial⟩ rfl trivial (ent_close (⟨ad, cap, mb⟩ : MRep) hN (ent_take 1 rfl (ent_take 1 rfl (ent_closeB 0 0 id rfl rfl (by dsimp only [tP, frS, wtS, pushS, rowS, cutMS, clS, stS]; simp only [updI_same]; rfl) (fun y hy => by have h := hne y hy; dsimp only [tP, frS, wtS, pushS, rowS, cutMS, clS, stS]; simp only [updI_ne h]) hM.symm (ent_take 0 rfl (ent_take 0 rfl (ent_nil _)))))))
  · have hv : openS s id = (s, 6) := if_pos h
    rw [hv]
    refine TC.seq ?_
    refine TC.region ?_
    refine q rfl rfl (asg (v := .int _ _) rfl) ?_
    refine TL.nil (nt ?_)
    refine TC.seq ?_
    refine TC.region ?_
    refine q rfl rfl (mv (v := .pointer _) rfl) ?_
    refine q rfl rfl (mv (v := .int _ _) rfl) ?_
    refine e rfl ?_
    refine cl (mat_no b mb s.ids.length A s.ids id h) rfl PkL.p trivial ?_
    intro _ _
    change TL _ _ _ _ _ _ _ _ (sepL [_, _, _, _, _])
    refine q rfl rfl (mv (v := .tuple _) rfl) ?_
    refine q rfl rfl (pu (v := .pointer _) (fun _ => rfl)) ?_
    refine q rfl rfl (pu (v := .int _ _) (fun _ => rfl)) ?_
    refine q rfl rfl (asg (v := .pointer _) rfl) ?_
    refine q rfl rfl (asg (v := .int _ _) rfl) ?_
    refine TL.nil (nt ?_)
    refine TC.seq ?_
    refine TC.block ?_
    refine TC.seq ?_
    refine TC.region ?_
    refine q rfl rfl (mv (v := .int _ _) rfl) ?_
    refine q rfl rfl (neI rfl rfl) ?_
    refine q rfl rfl (asg (v := .bool _) rfl) ?_
    refine TL.nil (nt ?_)
    refine TC.condT rfl ?_
    refine TC.seq ?_
    refine TC.region ?_
    refine q rfl rfl (mv (v := .int _ _) rfl) ?_
    refine q rfl rfl (asg (v := .int _ _) rfl) ?_
    refine TL.nil (nt ?_)
    refine TC.ret (rb (rt ?_))
    exact Ret.i () [_] ⟨rfl, trivial⟩ rfl trivial (ent_close (⟨ad, cap, mb⟩ : MRep) hN (by repeat (first | exact ent_nil _ | refine ent_take 0 rfl ?_ | refine ent_take 1 rfl ?_ | refine ent_take 2 rfl ?_ | refine ent_take 3 rfl ?_ | refine ent_take 4 rfl ?_ | refine ent_take 5 rfl ?_ | refine ent_take 6 rfl ?_ | refine ent_take 7 rfl ?_ | refine ent_take 8 rfl ?_ | refine ent_take 9 rfl ?_ | refine ent_take 10 rfl ?_ | refine ent_take 11 rfl ?_ | refine ent_take 12 rfl ?_)))

set_option maxRecDepth 4000 in
theorem mopen_nil (id : Int) : FSpec Try.prog 40 [.pointer none, .int .i64 id] noRd [] (fun _ : Unit => .int .i64 1) (fun _ => True) (fun _ => []) := by
  refine FSpec.intro (rs := [.tmp 4]) (by kernel_rfl) Try.func40 rfl Try.ntmps40 (by rfl) rfl ?_
  intro F _
  change TC _ _ _ _ _ _ _ (sepL [_])
  refine TC.seq ?_
  refine TC.region ?_
  refine q rfl rfl (asg (v := .int _ _) rfl) ?_
  refine TL.nil (nt ?_)
  refine TC.seq ?_
  refine TC.region ?_
  refine q rfl rfl (mv (v := .pointer _) rfl) ?_
  refine q rfl rfl (mv (v := .int _ _) rfl) ?_
  refine e rfl ?_
  refine cl (mat_nil id) rfl (picked_nil _) trivial ?_
  intro _ _
  change TL _ _ _ _ _ _ _ _ (sepL [_])
  refine q rfl rfl (mv (v := .tuple _) rfl) ?_
  refine q rfl rfl (pu (v := .pointer _) (fun _ => rfl)) ?_
  refine q rfl rfl (pu (v := .int _ _) (fun _ => rfl)) ?_
  refine q rfl rfl (asg (v := .pointer _) rfl) ?_
  refine q rfl rfl (asg (v := .int _ _) rfl) ?_
  refine TL.nil (nt ?_)
  refine TC.seq ?_
  refine TC.block ?_
  refine TC.seq ?_
  refine TC.region ?_
  refine q rfl rfl (mv (v := .int _ _) rfl) ?_
  refine q rfl rfl (neI rfl rfl) ?_
  refine q rfl rfl (asg (v := .bool _) rfl) ?_
  refine TL.nil (nt ?_)
  refine TC.condT rfl ?_
  refine TC.seq ?_
  refine TC.region ?_
  refine q rfl rfl (mv (v := .int _ _) rfl) ?_
  refine q rfl rfl (asg (v := .int _ _) rfl) ?_
  refine TL.nil (nt ?_)
  refine TC.ret (rb (rt ?_))
  exact Ret.i () [_] ⟨rfl, trivial⟩ rfl trivial (ent_take 0 rfl (ent_nil _))

set_option maxRecDepth 4000 in
set_option maxHeartbeats 2000000 in
theorem mtake_ok (b : Nat) (A : Int → Nat) (s : MS) (hW : WM s) (to : Int) : FSpec Try.prog 44 [.pointer (some ⟨b, 0, none⟩), .int .i64 to] noRd [isMa b A s] (fun _ : Unit => .tuple #[.agg (ofC (takeS s to).2.1).toArray, .int .i64 (takeS s to).2.2.1, .int .i64 (takeS s to).2.2.2]) (fun _ => True) (fun _ => [isMa b A (takeS s to).1]) := by
  refine FSpec.intro (rs := [.cell 4 32, .tmp 5, .tmp 6]) (by kernel_rfl) Try.func44 rfl Try.ntmps44 (by rfl) rfl ?_
  intro F _
  change TC _ _ _ _ _ _ _ (sepL [_, _])
  refine TC.seq ?_
  refine TC.region ?_
  refine e rfl ?_
  refine al (l := [.int _ _, .int _ _, .bool _]) rfl rfl ?_
  intro b3
  refine q rfl rfl (asg (v := .int _ _) rfl) ?_
  refine q rfl rfl (asg (v := .int _ _) rfl) ?_
  refine TL.nil (nt ?_)
  refine TC.seq ?_
  refine TC.open 1 rfl (fun x0 hx0 => ?_)
  obtain ⟨ad, cap, mb⟩ := x0
  have hN := hx0
  change TC _ _ _ _ _ _ _ (sepL [_, _, _, _, _, _])
  dsimp only at hN ⊢
  by_cases h : to ∈ s.ids
  · have hh : ¬ (to ∉ s.ids) := fun h2 => h2 h
    haveI := tP_rd (A := A) (ad := ad) (cap := cap) (s := s) (x := to) h
    refine TC.region ?_
    refine q rfl rfl (mv (v := .pointer _) rfl) ?_
    refine q rfl rfl (mv (v := .int _ _) rfl) ?_
    refine e rfl ?_
    refine cl (mat_yes b mb s.ids.length A s.ids to h) rfl PkL.p trivial ?_
    intro _ _
    change TL _ _ _ _ _ _ _ _ (sepL [_, _, _, _, _, _])
    refine q rfl rfl (mv (v := .tuple _) rfl) ?_
    refine q rfl rfl (pu (v := .pointer _) (fun _ => rfl)) ?_
    refine q rfl rfl (pu (v := .int _ _) (fun _ => rfl)) ?_
    refine q rfl rfl (asg (v := .pointer _) rfl) ?_
    refine q rfl rfl (asg (v := .int _ _) rfl) ?_
    refine TL.nil (nt ?_)
    refine TC.seq ?_
    refine TC.block ?_
    refine TC.seq ?_
    refine TC.region ?_
    refine q rfl rfl (mv (v := .int _ _) rfl) ?_
    refine q rfl rfl (neI rfl rfl) ?_
    refine q rfl rfl (asg (v := .bool _) rfl) ?_
    refine TL.nil (nt ?_)
    refine TC.condF rfl ?_
    refine TC.seq ?_
    refine TC.region ?_
    refine q rfl rfl (mv (v := .pointer _) rfl) ?_
    first | refine q rfl rfl (nc rfl) ?_ | refine q rfl rfl (ncF rfl) ?_ | refine q rfl rfl (ncS rfl (by first | assumption | (simp [ints_length] <;> omega))) ?_
    first | refine q rfl rfl (fa 1 rfl rfl) ?_ | refine q rfl rfl (faS 1 rfl rfl (by first | assumption | (simp [ints_length] <;> omega))) ?_
    first | refine q rfl rfl (ld rfl rfl rfl) ?_ | refine q rfl rfl (ldS rfl rfl rfl) ?_
    refine q rfl rfl (neI rfl rfl) ?_
    refine q rfl rfl (mv (v := .bool _) rfl) ?_
    refine TL.split 30 rfl (fun hs0 => ?_) (fun hs0 => ?_)
    · have hs0 := of_decide_eq_true hs0
      refine qg rfl rfl rfl (mv (v := .pointer _) rfl) ?_
      first | refine qg rfl rfl rfl (nc rfl) ?_ | refine qg rfl rfl rfl (ncF rfl) ?_ | refine qg rfl rfl rfl (ncS rfl (by first | assumption | (simp [ints_length] <;> omega))) ?_
      first | refine qg rfl rfl rfl (fa 1 rfl rfl) ?_ | refine qg rfl rfl rfl (faS 1 rfl rfl (by first | assumption | (simp [ints_length] <;> omega))) ?_
      first | refine qg rfl rfl rfl (ld rfl rfl rfl) ?_ | refine qg rfl rfl rfl (ldS rfl rfl rfl) ?_
      refine qg rfl rfl rfl (neI rfl rfl) ?_
      first | refine q rfl rfl (pkT (v := .bool _) rfl rfl) ?_ | refine q rfl rfl (pkF (v := .bool _) rfl rfl) ?_
      refine q rfl rfl (asg (v := .bool _) rfl) ?_
      refine TL.nil (nt ?_)
      first | refine TC.condD rfl (fun hs2 => ?_) (fun hs2 => ?_) | refine TC.cond rfl (fun hs2 => ?_) (fun hs2 => ?_)
      · have hv : takeS s to = (s, o0, 0, 12) := by rw [takeS, if_neg hh, if_pos ⟨hs0, hs2⟩]
        rw [hv]
        dsimp only
        refine TC.seq ?_
        refine TC.region ?_
        first | refine q rfl rfl (bld (cs := [.int _ _, .int _ _, .bool _]) rfl) ?_ | refine q rfl rfl (bld (cs := [_, _, _]) rfl) ?_
        refine e0 ?_
        refine st (v := .agg #[_, _, _]) (vs := [_, _, _]) 3 rfl rfl rfl rfl rfl rfl (Nat.le_of_ble_eq_true rfl) rfl ?_
        refine q rfl rfl (asg (v := .int _ _) rfl) ?_
        refine q rfl rfl (asg (v := .int _ _) rfl) ?_
        refine TL.nil (nt ?_)
        refine TC.ret (rb (rt ?_))
        exact Ret.i () [_, _, _] ⟨(rcN (n := 3) rfl rfl rfl rfl), rfl, rfl, trivial⟩ rfl trivial (ent_close (⟨ad, cap, mb⟩ : MRep) hN (by repeat (first | exact ent_nil _ | refine ent_take 0 rfl ?_ | refine ent_take 1 rfl ?_ | refine ent_take 2 rfl ?_ | refine ent_take 3 rfl ?_ | refine ent_take 4 rfl ?_ | refine ent_take 5 rfl ?_ | refine ent_take 6 rfl ?_ | refine ent_take 7 rfl ?_ | refine ent_take 8 rfl ?_ | refine ent_take 9 rfl ?_ | refine ent_take 10 rfl ?_ | refine ent_take 11 rfl ?_ | refine ent_take 12 rfl ?_)))
      · have hs : ¬ (s.st to ≠ 0 ∧ s.st to ≠ 2) := (fun h2 => hs2 h2.2)
        refine TC.skip (nb (nt ?_))
        refine TC.seq ?_
        refine TC.weak (B := sepL [bigS (tP A ad cap s) s.ids, bigS (rP ad cap s) s.ids, pts b 96 [.map (some mb)], mapF encI mb (fM A s.ids) s.ids.length, pts b3 32 (ofC o0), F]) (by repeat (first | exact ent_nil _ | refine ent_take 0 rfl ?_ | refine ent_take 1 rfl ?_ | refine ent_take 2 rfl ?_ | refine ent_take 3 rfl ?_ | refine ent_take 4 rfl ?_ | refine ent_take 5 rfl ?_ | refine ent_take 6 rfl ?_ | refine ent_take 7 rfl ?_ | refine ent_take 8 rfl ?_ | refine ent_take 9 rfl ?_ | refine ent_take 10 rfl ?_ | refine ent_take 11 rfl ?_ | refine ent_take 12 rfl ?_)) ?_
        refine TC.region ?_
        refine q rfl rfl (mv (v := .pointer _) rfl) ?_
        first | refine q rfl rfl (nc rfl) ?_ | refine q rfl rfl (ncF rfl) ?_ | refine q rfl rfl (ncS rfl (by first | assumption | (simp [ints_length] <;> omega))) ?_
        first | refine q rfl rfl (fa 0 rfl rfl) ?_ | refine q rfl rfl (faS 0 rfl rfl (by first | assumption | (simp [ints_length] <;> omega))) ?_
        refine e rfl ?_
        refine cl (mfirst_ok A ad cap s s.ids to h hN) rfl PkL.p trivial ?_
        intro _ _
        change TL _ _ _ _ _ _ _ _ (sepL [_, _, _, _, _, _])
        rcases row_cases (s.row to) with hr | ⟨o, r, hr⟩
        · have hv : takeS s to = (s, o0, 0, 6) := by rw [takeS, if_neg hh, if_neg hs, hr]
          rw [hv, hr]
          dsimp only [hdO, hdB]
          refine q rfl rfl (mv (v := .tuple _) rfl) ?_
          refine q rfl rfl (pu (v := .agg #[_, _, _]) (fun _ => rfl)) ?_
          refine q rfl rfl (pu (v := .bool _) (fun _ => rfl)) ?_
          refine e rfl ?_
          refine al (l := [.int _ _, .int _ _, .bool _]) rfl rfl ?_
          intro b4
          refine e0 ?_
          refine st (v := .agg #[_, _, _]) (vs := [_, _, _]) 3 rfl rfl rfl rfl rfl rfl (Nat.le_of_ble_eq_true rfl) rfl ?_
          refine q rfl rfl (asg (v := .bool _) rfl) ?_
          refine TL.nil (nt ?_)
          refine TC.seq ?_
          refine TC.seq ?_
          refine TC.region ?_
          refine q rfl rfl (mv (v := .bool _) rfl) ?_
          first | refine q rfl rfl (notD rfl) ?_ | refine q rfl rfl (notB rfl) ?_
          refine TL.nil (nt ?_)
          refine TC.condT rfl ?_
          refine TC.seq ?_
          refine TC.region ?_
          first | refine q rfl rfl (bld (cs := [.int _ _, .int _ _, .bool _]) rfl) ?_ | refine q rfl rfl (bld (cs := [_, _, _]) rfl) ?_
          refine e0 ?_
          refine st (v := .agg #[_, _, _]) (vs := [_, _, _]) 3 rfl rfl rfl rfl rfl rfl (Nat.le_of_ble_eq_true rfl) rfl ?_
          refine q rfl rfl (asg (v := .int _ _) rfl) ?_
          refine q rfl rfl (asg (v := .int _ _) rfl) ?_
          refine TL.nil (nt ?_)
          refine TC.ret (rt ?_)
          exact Ret.i () [_, _, _] ⟨(rcN (n := 3) rfl rfl rfl rfl), rfl, rfl, trivial⟩ rfl trivial (ent_close (⟨ad, cap, mb⟩ : MRep) hN (by repeat (first | exact ent_nil _ | refine ent_take 0 rfl ?_ | refine ent_take 1 rfl ?_ | refine ent_take 2 rfl ?_ | refine ent_take 3 rfl ?_ | refine ent_take 4 rfl ?_ | refine ent_take 5 rfl ?_ | refine ent_take 6 rfl ?_ | refine ent_take 7 rfl ?_ | refine ent_take 8 rfl ?_ | refine ent_take 9 rfl ?_ | refine ent_take 10 rfl ?_ | refine ent_take 11 rfl ?_ | refine ent_take 12 rfl ?_)))
        · obtain ⟨hf1, hf2, hf3, hf4⟩ := hW.row to h o (by rw [hr]; simp)
          have hol := ofsC_length (s.row to)
          have hrl : (s.row to).length = r.length + 1 := by rw [hr, List.length_cons]
          have hcal := hW.cal to h
          obtain ⟨M, hM⟩ := perm_mem h
          have hne := nd_ne hN hM
          rw [show hdO (s.row to) = o from by rw [hr]; rfl, show hdB (s.row to) = true from by rw [hr]; rfl]
          refine q rfl rfl (mv (v := .tuple _) rfl) ?_
          refine q rfl rfl (pu (v := .agg #[_, _, _]) (fun _ => rfl)) ?_
          refine q rfl rfl (pu (v := .bool _) (fun _ => rfl)) ?_
          refine e rfl ?_
          refine al (l := [.int _ _, .int _ _, .bool _]) rfl rfl ?_
          intro b5
          refine e0 ?_
          refine st (v := .agg #[_, _, _]) (vs := [_, _, _]) 3 rfl rfl rfl rfl rfl rfl (Nat.le_of_ble_eq_true rfl) rfl ?_
          refine q rfl rfl (asg (v := .bool _) rfl) ?_
          refine TL.nil (nt ?_)
          refine TC.seq ?_
          refine TC.seq ?_
          refine TC.region ?_
          refine q rfl rfl (mv (v := .bool _) rfl) ?_
          first | refine q rfl rfl (notD rfl) ?_ | refine q rfl rfl (notB rfl) ?_
          refine TL.nil (nt ?_)
          refine TC.condF rfl ?_
          refine TC.skip (nt ?_)
          refine TC.seq ?_
          refine TC.weak (B := sepL [bigS (tP A ad cap s) s.ids, bigS (rP ad cap s) s.ids, pts b 96 [.map (some mb)], mapF encI mb (fM A s.ids) s.ids.length, pts b3 32 (ofC o0), pts b5 32 (ofC o), F]) (by repeat (first | exact ent_nil _ | refine ent_take 0 rfl ?_ | refine ent_take 1 rfl ?_ | refine ent_take 2 rfl ?_ | refine ent_take 3 rfl ?_ | refine ent_take 4 rfl ?_ | refine ent_take 5 rfl ?_ | refine ent_take 6 rfl ?_ | refine ent_take 7 rfl ?_ | refine ent_take 8 rfl ?_ | refine ent_take 9 rfl ?_ | refine ent_take 10 rfl ?_ | refine ent_take 11 rfl ?_ | refine ent_take 12 rfl ?_)) ?_
          refine TC.weak (ent_openB 1 rfl hM) ?_
          refine TC.weak (ent_openB 2 rfl hM) ?_
          refine TC.region ?_
          refine q rfl rfl (mv (v := .pointer _) rfl) ?_
          refine q rfl rfl (mv (v := .pointer _) rfl) ?_
          first | refine q rfl rfl (nc rfl) ?_ | refine q rfl rfl (ncF rfl) ?_ | refine q rfl rfl (ncS rfl (by first | assumption | (simp [ints_length] <;> omega))) ?_
          first | refine q rfl rfl (fa 0 rfl rfl) ?_ | refine q rfl rfl (faS 0 rfl rfl (by first | assumption | (simp [ints_length] <;> omega))) ?_
          first | refine q rfl rfl (fa 0 rfl rfl) ?_ | refine q rfl rfl (faS 0 rfl rfl (by first | assumption | (simp [ints_length] <;> omega))) ?_
          first | refine q rfl rfl (ld rfl rfl rfl) ?_ | refine q rfl rfl (ldS rfl rfl rfl) ?_
          refine q rfl rfl (slFn 32 3 (1) rfl rfl rfl (by omega) (by omega)) ?_
          first | refine q rfl rfl (nc rfl) ?_ | refine q rfl rfl (ncF rfl) ?_ | refine q rfl rfl (ncS rfl (by first | assumption | (simp [ints_length] <;> omega))) ?_
          first | refine q rfl rfl (fa 0 rfl rfl) ?_ | refine q rfl rfl (faS 0 rfl rfl (by first | assumption | (simp [ints_length] <;> omega))) ?_
          first | refine q rfl rfl (fa 0 rfl rfl) ?_ | refine q rfl rfl (faS 0 rfl rfl (by first | assumption | (simp [ints_length] <;> omega))) ?_
          refine e0 ?_
          refine st (v := .slice _ _ _) (vs := [_]) 1 rfl rfl rfl rfl rfl rfl (Nat.le_of_ble_eq_true rfl) rfl ?_
          refine TL.nil (nt ?_)
          refine TC.seq ?_
          refine TC.weak (B := sepL [bigS (tP A (updI ad to (sliceOff (ad to) (cap to) 1 3)) (updI cap to (cap to - 1)) (rowS s to r)) s.ids, bigS (rP (updI ad to (sliceOff (ad to) (cap to) 1 3)) (updI cap to (cap to - 1)) (rowS s to r)) s.ids, pts b 96 [.map (some mb)], mapF encI mb (fM A s.ids) s.ids.length, pts b3 32 (ofC o0), pts b5 32 (ofC o), F]) (ent_closeB 0 0 to rfl rfl (by dsimp only [tP, frS, wtS, pushS, rowS, cutMS, clS, stS]; simp only [updI_same]; rw [hrl]; rfl) (fun y hy => by have h := hne y hy; dsimp only [tP, frS, wtS, pushS, rowS, cutMS, clS, stS]; simp only [updI_ne h]) hM.symm (ent_closeW 0 0 to rfl rfl (slc_from (j := 1) (by omega)) (by dsimp only [rP, frS, wtS, pushS, rowS, cutMS, clS, stS]; simp only [updI_same]; rw [hrl, hr]; rfl) (fun y hy => by have h := hne y hy; dsimp only [rP, frS, wtS, pushS, rowS, cutMS, clS, stS]; simp only [updI_ne h]) hM.symm (by repeat (first | exact ent_nil _ | refine ent_take 0 rfl ?_ | refine ent_take 1 rfl ?_ | refine ent_take 2 rfl ?_ | refine ent_take 3 rfl ?_ | refine ent_take 4 rfl ?_ | refine ent_take 5 rfl ?_ | refine ent_take 6 rfl ?_ | refine ent_take 7 rfl ?_ | refine ent_take 8 rfl ?_ | refine ent_take 9 rfl ?_ | refine ent_take 10 rfl ?_ | refine ent_take 11 rfl ?_ | refine ent_take 12 rfl ?_)))) ?_
          refine TC.region ?_
          refine q rfl rfl (mv (v := .pointer _) rfl) ?_
          refine e rfl ?_
          refine cl (mfree_ok A (updI ad to (sliceOff (ad to) (cap to) 1 3)) (updI cap to (cap to - 1)) (rowS s to r) s.ids to h hN) rfl PkL.p trivial ?_
          intro _ _
          change TL _ _ _ _ _ _ _ _ (sepL [_, _, _, _, _, _, _])
          refine TL.nil (nt ?_)
          refine TC.seq ?_
          refine TC.draw _ [] [(0, false), (1, false), (2, false), (3, false), (4, false), (5, false), (6, false), (7, false), (8, false)] (by kernel_rfl) (by kernel_rfl) (ent.refl _) ?_
          refine dq rfl rfl rfl (mv (v := .pointer _) rfl) ?_
          first | refine dq rfl rfl rfl (nc rfl) ?_ | refine dq rfl rfl rfl (ncF rfl) ?_ | refine dq rfl rfl rfl (ncS rfl (by first | assumption | (simp [ints_length] <;> omega))) ?_
          first | refine dq rfl rfl rfl (fa 0 rfl rfl) ?_ | refine dq rfl rfl rfl (faS 0 rfl rfl (by first | assumption | (simp [ints_length] <;> omega))) ?_
          first | refine dq rfl rfl rfl (ld rfl rfl rfl) ?_ | refine dq rfl rfl rfl (ldS rfl rfl rfl) ?_
          first | refine dq rfl rfl rfl (fa 0 rfl rfl) ?_ | refine dq rfl rfl rfl (faS 0 rfl rfl (by first | assumption | (simp [ints_length] <;> omega))) ?_
          first | refine dq rfl rfl rfl (ld rfl rfl rfl) ?_ | refine dq rfl rfl rfl (ldS rfl rfl rfl) ?_
          refine dq rfl rfl rfl (luF 3 97 rfl rfl (KL.int rfl) rfl rfl) ?_
          rw [fM_yes hf1]
          refine dq rfl rfl rfl (asg (v := .pointer _) rfl) ?_
          refine dq rfl rfl rfl (asg (v := .int _ _) rfl) ?_
          refine TD.nil (nt ?_)
          refine TC.seq ?_
          refine TC.region ?_
          refine q rfl rfl (mv (v := .pointer _) rfl) ?_
          refine e rfl ?_
          refine cl (mfree_ok A (updI ad to (sliceOff (ad to) (cap to) 1 3)) (updI cap to (cap to - 1)) (frS (rowS s to r) to) s.ids o.fr hf1 hN) rfl PkL.p trivial ?_
          intro _ _
          change TL _ _ _ _ _ _ _ _ (sepL [_, _, _, _, _, _, _])
          by_cases hcl : o.cl = true
          · refine TL.nil (nt ?_)
            refine TC.seq ?_
            refine TC.seq ?_
            refine TC.region ?_
            first | refine q rfl rfl (fa 2 rfl rfl) ?_ | refine q rfl rfl (faS 2 rfl rfl (by first | assumption | (simp [ints_length] <;> omega))) ?_
            first | refine q rfl rfl (ld rfl rfl rfl) ?_ | refine q rfl rfl (ldS rfl rfl rfl) ?_
            refine TL.nil (nt ?_)
            rw [hcl]
            refine TC.condT rfl ?_
            haveI := tP_rd (A := A) (ad := (updI ad to (sliceOff (ad to) (cap to) 1 3))) (cap := (updI cap to (cap to - 1))) (s := (frS (frS (rowS s to r) to) o.fr)) (x := to) h
            refine TC.seq ?_
            refine TC.region ?_
            refine q rfl rfl (mv (v := .pointer _) rfl) ?_
            first | refine q rfl rfl (nc rfl) ?_ | refine q rfl rfl (ncF rfl) ?_ | refine q rfl rfl (ncS rfl (by first | assumption | (simp [ints_length] <;> omega))) ?_
            first | refine q rfl rfl (fa 2 rfl rfl) ?_ | refine q rfl rfl (faS 2 rfl rfl (by first | assumption | (simp [ints_length] <;> omega))) ?_
            first | refine q rfl rfl (ld rfl rfl rfl) ?_ | refine q rfl rfl (ldS rfl rfl rfl) ?_
            refine q rfl rfl (asg (v := .int _ _) rfl) ?_
            refine TL.nil (nt ?_)
            refine TC.seq ?_
            refine TC.seq ?_
            refine TC.region ?_
            refine q rfl rfl (mv (v := .int _ _) rfl) ?_
            refine q rfl rfl (neI rfl rfl) ?_
            refine TL.nil (nt ?_)
            first | refine TC.condD rfl (fun hel => ?_) (fun hel => ?_) | refine TC.cond rfl (fun hel => ?_) (fun hel => ?_)
            · have hel : s.cl to ≠ -1 := hel
              obtain ⟨hc1, hc2, hc3, hc4⟩ := hcal hel
              refine TC.region ?_
              refine q rfl rfl (mv (v := .pointer _) rfl) ?_
              first | refine q rfl rfl (nc rfl) ?_ | refine q rfl rfl (ncF rfl) ?_ | refine q rfl rfl (ncS rfl (by first | assumption | (simp [ints_length] <;> omega))) ?_
              first | refine q rfl rfl (fa 0 rfl rfl) ?_ | refine q rfl rfl (faS 0 rfl rfl (by first | assumption | (simp [ints_length] <;> omega))) ?_
              first | refine q rfl rfl (ld rfl rfl rfl) ?_ | refine q rfl rfl (ldS rfl rfl rfl) ?_
              refine q rfl rfl (mv (v := .int _ _) rfl) ?_
              refine q rfl rfl (luF 3 97 rfl rfl (KL.int rfl) rfl rfl) ?_
              rw [show (frS (frS (rowS s to r) to) o.fr).cl to = s.cl to from rfl, fM_yes hc1]
              refine e rfl ?_
              refine cl (mfree_ok A (updI ad to (sliceOff (ad to) (cap to) 1 3)) (updI cap to (cap to - 1)) (frS (frS (rowS s to r) to) o.fr) s.ids (s.cl to) hc1 hN) rfl PkL.p trivial ?_
              intro _ _
              change TL _ _ _ _ _ _ _ _ (sepL [_, _, _, _, _, _, _])
              have hv : takeS s to = ((wtS (clS (frS (frS (frS (rowS s to r) to) o.fr) (s.cl to)) to o.fr) o.fr 3 to), o, s.cl to, 0) := by rw [takeS, if_neg hh, if_neg hs, hr]; dsimp only; rw [if_pos hcl, if_pos hel]
              rw [hv]
              dsimp only
              refine TL.nil (nt ?_)
              refine TC.seq ?_
              refine TC.weak (B := sepL [bigS (tP A (updI ad to (sliceOff (ad to) (cap to) 1 3)) (updI cap to (cap to - 1)) (frS (frS (frS (rowS s to r) to) o.fr) (s.cl to))) s.ids, bigS (rP (updI ad to (sliceOff (ad to) (cap to) 1 3)) (updI cap to (cap to - 1)) (frS (frS (frS (rowS s to r) to) o.fr) (s.cl to))) s.ids, pts b 96 [.map (some mb)], mapF encI mb (fM A s.ids) s.ids.length, pts b3 32 (ofC o0), pts b5 32 (ofC o), F]) (by repeat (first | exact ent_nil _ | refine ent_take 0 rfl ?_ | refine ent_take 1 rfl ?_ | refine ent_take 2 rfl ?_ | refine ent_take 3 rfl ?_ | refine ent_take 4 rfl ?_ | refine ent_take 5 rfl ?_ | refine ent_take 6 rfl ?_ | refine ent_take 7 rfl ?_ | refine ent_take 8 rfl ?_ | refine ent_take 9 rfl ?_ | refine ent_take 10 rfl ?_ | refine ent_take 11 rfl ?_ | refine ent_take 12 rfl ?_)) ?_
              refine TC.weak (ent_openB 0 rfl hM) ?_
              refine TC.region ?_
              refine q rfl rfl (mv (v := .pointer _) rfl) ?_
              first | refine q rfl rfl (fa 0 rfl rfl) ?_ | refine q rfl rfl (faS 0 rfl rfl (by first | assumption | (simp [ints_length] <;> omega))) ?_
              first | refine q rfl rfl (ld rfl rfl rfl) ?_ | refine q rfl rfl (ldS rfl rfl rfl) ?_
              first | refine q rfl rfl (nc rfl) ?_ | refine q rfl rfl (ncF rfl) ?_ | refine q rfl rfl (ncS rfl (by first | assumption | (simp [ints_length] <;> omega))) ?_
              first | refine q rfl rfl (fa 2 rfl rfl) ?_ | refine q rfl rfl (faS 2 rfl rfl (by first | assumption | (simp [ints_length] <;> omega))) ?_
              refine e0 ?_
              refine st (v := .int _ _) (vs := [_]) 1 rfl rfl rfl rfl rfl rfl (Nat.le_of_ble_eq_true rfl) rfl ?_
              refine TL.nil (nt ?_)
              refine TC.weak (B := sepL [bigS (tP A (updI ad to (sliceOff (ad to) (cap to) 1 3)) (updI cap to (cap to - 1)) (clS (frS (frS (frS (rowS s to r) to) o.fr) (s.cl to)) to o.fr)) s.ids, bigS (rP (updI ad to (sliceOff (ad to) (cap to) 1 3)) (updI cap to (cap to - 1)) (clS (frS (frS (frS (rowS s to r) to) o.fr) (s.cl to)) to o.fr)) s.ids, pts b 96 [.map (some mb)], mapF encI mb (fM A s.ids) s.ids.length, pts b3 32 (ofC o0), pts b5 32 (ofC o), F]) (ent_closeB 0 0 to rfl rfl (by dsimp only [tP, frS, wtS, pushS, rowS, cutMS, clS, stS]; simp only [updI_same]; rfl) (fun y hy => by have h := hne y hy; dsimp only [tP, frS, wtS, pushS, rowS, cutMS, clS, stS]; simp only [updI_ne h]) hM.symm (by repeat (first | exact ent_nil _ | refine ent_take 0 rfl ?_ | refine ent_take 1 rfl ?_ | refine ent_take 2 rfl ?_ | refine ent_take 3 rfl ?_ | refine ent_take 4 rfl ?_ | refine ent_take 5 rfl ?_ | refine ent_take 6 rfl ?_ | refine ent_take 7 rfl ?_ | refine ent_take 8 rfl ?_ | refine ent_take 9 rfl ?_ | refine ent_take 10 rfl ?_ | refine ent_take 11 rfl ?_ | refine ent_take 12 rfl ?_))) ?_
              refine TC.region ?_
              refine q rfl rfl (mv (v := .pointer _) rfl) ?_
              refine q rfl rfl (mv (v := .int _ _) rfl) ?_
              refine e rfl ?_
              refine cl (mwaits_ok A (updI ad to (sliceOff (ad to) (cap to) 1 3)) (updI cap to (cap to - 1)) (clS (frS (frS (frS (rowS s to r) to) o.fr) (s.cl to)) to o.fr) s.ids o.fr hf1 hN 3 to) rfl PkL.p trivial ?_
              intro _ _
              change TL _ _ _ _ _ _ _ _ (sepL [_, _, _, _, _, _, _])
              refine TL.nil (nt ?_)
              refine TC.seq ?_
              refine TC.region ?_
              first | refine q rfl rfl (ldN (vs := [_, _, _]) 3 rfl rfl rfl rfl) ?_ | refine q rfl rfl (ldSN (vs := [_, _, _]) 3 rfl rfl rfl rfl (by decide)) ?_
              refine q rfl rfl (mv (v := .int _ _) rfl) ?_
              refine e0 ?_
              refine st (v := .agg #[_, _, _]) (vs := [_, _, _]) 3 rfl rfl rfl rfl rfl rfl (Nat.le_of_ble_eq_true rfl) rfl ?_
              refine q rfl rfl (asg (v := .int _ _) rfl) ?_
              refine q rfl rfl (asg (v := .int _ _) rfl) ?_
              refine TL.nil (nt ?_)
              refine TC.ret ?_
              exact Ret.i () [_, _, _] ⟨(rcN (n := 3) rfl rfl rfl rfl), rfl, rfl, trivial⟩ rfl trivial (ent_close (⟨(updI ad to (sliceOff (ad to) (cap to) 1 3)), (updI cap to (cap to - 1)), mb⟩ : MRep) hN (by repeat (first | exact ent_nil _ | refine ent_take 0 rfl ?_ | refine ent_take 1 rfl ?_ | refine ent_take 2 rfl ?_ | refine ent_take 3 rfl ?_ | refine ent_take 4 rfl ?_ | refine ent_take 5 rfl ?_ | refine ent_take 6 rfl ?_ | refine ent_take 7 rfl ?_ | refine ent_take 8 rfl ?_ | refine ent_take 9 rfl ?_ | refine ent_take 10 rfl ?_ | refine ent_take 11 rfl ?_ | refine ent_take 12 rfl ?_)))
            · have hel : ¬ s.cl to ≠ -1 := hel
              have hv : takeS s to = ((wtS (clS (frS (frS (rowS s to r) to) o.fr) to o.fr) o.fr 3 to), o, s.cl to, 0) := by rw [takeS, if_neg hh, if_neg hs, hr]; dsimp only; rw [if_pos hcl, if_neg hel]
              rw [hv]
              dsimp only
              refine TC.skip (nt ?_)
              refine TC.seq ?_
              refine TC.weak (B := sepL [bigS (tP A (updI ad to (sliceOff (ad to) (cap to) 1 3)) (updI cap to (cap to - 1)) (frS (frS (rowS s to r) to) o.fr)) s.ids, bigS (rP (updI ad to (sliceOff (ad to) (cap to) 1 3)) (updI cap to (cap to - 1)) (frS (frS (rowS s to r) to) o.fr)) s.ids, pts b 96 [.map (some mb)], mapF encI mb (fM A s.ids) s.ids.length, pts b3 32 (ofC o0), pts b5 32 (ofC o), F]) (by repeat (first | exact ent_nil _ | refine ent_take 0 rfl ?_ | refine ent_take 1 rfl ?_ | refine ent_take 2 rfl ?_ | refine ent_take 3 rfl ?_ | refine ent_take 4 rfl ?_ | refine ent_take 5 rfl ?_ | refine ent_take 6 rfl ?_ | refine ent_take 7 rfl ?_ | refine ent_take 8 rfl ?_ | refine ent_take 9 rfl ?_ | refine ent_take 10 rfl ?_ | refine ent_take 11 rfl ?_ | refine ent_take 12 rfl ?_)) ?_
              refine TC.weak (ent_openB 0 rfl hM) ?_
              refine TC.region ?_
              refine q rfl rfl (mv (v := .pointer _) rfl) ?_
              first | refine q rfl rfl (fa 0 rfl rfl) ?_ | refine q rfl rfl (faS 0 rfl rfl (by first | assumption | (simp [ints_length] <;> omega))) ?_
              first | refine q rfl rfl (ld rfl rfl rfl) ?_ | refine q rfl rfl (ldS rfl rfl rfl) ?_
              first | refine q rfl rfl (nc rfl) ?_ | refine q rfl rfl (ncF rfl) ?_ | refine q rfl rfl (ncS rfl (by first | assumption | (simp [ints_length] <;> omega))) ?_
              first | refine q rfl rfl (fa 2 rfl rfl) ?_ | refine q rfl rfl (faS 2 rfl rfl (by first | assumption | (simp [ints_length] <;> omega))) ?_
              refine e0 ?_
              refine st (v := .int _ _) (vs := [_]) 1 rfl rfl rfl rfl rfl rfl (Nat.le_of_ble_eq_true rfl) rfl ?_
              refine TL.nil (nt ?_)
              refine TC.weak (B := sepL [bigS (tP A (updI ad to (sliceOff (ad to) (cap to) 1 3)) (updI cap to (cap to - 1)) (clS (frS (frS (rowS s to r) to) o.fr) to o.fr)) s.ids, bigS (rP (updI ad to (sliceOff (ad to) (cap to) 1 3)) (updI cap to (cap to - 1)) (clS (frS (frS (rowS s to r) to) o.fr) to o.fr)) s.ids, pts b 96 [.map (some mb)], mapF encI mb (fM A s.ids) s.ids.length, pts b3 32 (ofC o0), pts b5 32 (ofC o), F]) (ent_closeB 0 0 to rfl rfl (by dsimp only [tP, frS, wtS, pushS, rowS, cutMS, clS, stS]; simp only [updI_same]; rfl) (fun y hy => by have h := hne y hy; dsimp only [tP, frS, wtS, pushS, rowS, cutMS, clS, stS]; simp only [updI_ne h]) hM.symm (by repeat (first | exact ent_nil _ | refine ent_take 0 rfl ?_ | refine ent_take 1 rfl ?_ | refine ent_take 2 rfl ?_ | refine ent_take 3 rfl ?_ | refine ent_take 4 rfl ?_ | refine ent_take 5 rfl ?_ | refine ent_take 6 rfl ?_ | refine ent_take 7 rfl ?_ | refine ent_take 8 rfl ?_ | refine ent_take 9 rfl ?_ | refine ent_take 10 rfl ?_ | refine ent_take 11 rfl ?_ | refine ent_take 12 rfl ?_))) ?_
              refine TC.region ?_
              refine q rfl rfl (mv (v := .pointer _) rfl) ?_
              refine q rfl rfl (mv (v := .int _ _) rfl) ?_
              refine e rfl ?_
              refine cl (mwaits_ok A (updI ad to (sliceOff (ad to) (cap to) 1 3)) (updI cap to (cap to - 1)) (clS (frS (frS (rowS s to r) to) o.fr) to o.fr) s.ids o.fr hf1 hN 3 to) rfl PkL.p trivial ?_
              intro _ _
              change TL _ _ _ _ _ _ _ _ (sepL [_, _, _, _, _, _, _])
              refine TL.nil (nt ?_)
              refine TC.seq ?_
              refine TC.region ?_
              first | refine q rfl rfl (ldN (vs := [_, _, _]) 3 rfl rfl rfl rfl) ?_ | refine q rfl rfl (ldSN (vs := [_, _, _]) 3 rfl rfl rfl rfl (by decide)) ?_
              refine q rfl rfl (mv (v := .int _ _) rfl) ?_
              refine e0 ?_
              refine st (v := .agg #[_, _, _]) (vs := [_, _, _]) 3 rfl rfl rfl rfl rfl rfl (Nat.le_of_ble_eq_true rfl) rfl ?_
              refine q rfl rfl (asg (v := .int _ _) rfl) ?_
              refine q rfl rfl (asg (v := .int _ _) rfl) ?_
              refine TL.nil (nt ?_)
              refine TC.ret ?_
              exact Ret.i () [_, _, _] ⟨(rcN (n := 3) rfl rfl rfl rfl), rfl, rfl, trivial⟩ rfl trivial (ent_close (⟨(updI ad to (sliceOff (ad to) (cap to) 1 3)), (updI cap to (cap to - 1)), mb⟩ : MRep) hN (by repeat (first | exact ent_nil _ | refine ent_take 0 rfl ?_ | refine ent_take 1 rfl ?_ | refine ent_take 2 rfl ?_ | refine ent_take 3 rfl ?_ | refine ent_take 4 rfl ?_ | refine ent_take 5 rfl ?_ | refine ent_take 6 rfl ?_ | refine ent_take 7 rfl ?_ | refine ent_take 8 rfl ?_ | refine ent_take 9 rfl ?_ | refine ent_take 10 rfl ?_ | refine ent_take 11 rfl ?_ | refine ent_take 12 rfl ?_)))
          · have hcf : o.cl = false := by simpa using hcl
            have hv : takeS s to = ((frS (frS (rowS s to r) to) o.fr), o, -1, 0) := by rw [takeS, if_neg hh, if_neg hs, hr]; dsimp only; rw [if_neg hcl]
            rw [hv]
            dsimp only
            refine TL.nil (nt ?_)
            refine TC.seq ?_
            refine TC.seq ?_
            refine TC.region ?_
            first | refine q rfl rfl (fa 2 rfl rfl) ?_ | refine q rfl rfl (faS 2 rfl rfl (by first | assumption | (simp [ints_length] <;> omega))) ?_
            first | refine q rfl rfl (ld rfl rfl rfl) ?_ | refine q rfl rfl (ldS rfl rfl rfl) ?_
            refine TL.nil (nt ?_)
            rw [hcf]
            refine TC.condF rfl ?_
            refine TC.skip (nt ?_)
            refine TC.seq ?_
            refine TC.region ?_
            first | refine q rfl rfl (ldN (vs := [_, _, _]) 3 rfl rfl rfl rfl) ?_ | refine q rfl rfl (ldSN (vs := [_, _, _]) 3 rfl rfl rfl rfl (by decide)) ?_
            refine q rfl rfl (mv (v := .int _ _) rfl) ?_
            refine e0 ?_
            refine st (v := .agg #[_, _, _]) (vs := [_, _, _]) 3 rfl rfl rfl rfl rfl rfl (Nat.le_of_ble_eq_true rfl) rfl ?_
            refine q rfl rfl (asg (v := .int _ _) rfl) ?_
            refine q rfl rfl (asg (v := .int _ _) rfl) ?_
            refine TL.nil (nt ?_)
            refine TC.ret ?_
            exact Ret.i () [_, _, _] ⟨(rcN (n := 3) rfl rfl rfl rfl), rfl, rfl, trivial⟩ rfl trivial (ent_close (⟨(updI ad to (sliceOff (ad to) (cap to) 1 3)), (updI cap to (cap to - 1)), mb⟩ : MRep) hN (by repeat (first | exact ent_nil _ | refine ent_take 0 rfl ?_ | refine ent_take 1 rfl ?_ | refine ent_take 2 rfl ?_ | refine ent_take 3 rfl ?_ | refine ent_take 4 rfl ?_ | refine ent_take 5 rfl ?_ | refine ent_take 6 rfl ?_ | refine ent_take 7 rfl ?_ | refine ent_take 8 rfl ?_ | refine ent_take 9 rfl ?_ | refine ent_take 10 rfl ?_ | refine ent_take 11 rfl ?_ | refine ent_take 12 rfl ?_)))
    · have hs0 := of_decide_eq_false hs0
      refine qs rfl rfl ?_
      refine qs rfl rfl ?_
      refine qs rfl rfl ?_
      refine qs rfl rfl ?_
      refine qs rfl rfl ?_
      first | refine q rfl rfl (pkT (v := .bool _) rfl rfl) ?_ | refine q rfl rfl (pkF (v := .bool _) rfl rfl) ?_
      refine q rfl rfl (asg (v := .bool _) rfl) ?_
      refine TL.nil (nt ?_)
      refine TC.condF rfl ?_
      have hs : ¬ (s.st to ≠ 0 ∧ s.st to ≠ 2) := (fun h2 => hs0 h2.1)
      refine TC.skip (nb (nt ?_))
      refine TC.seq ?_
      refine TC.weak (B := sepL [bigS (tP A ad cap s) s.ids, bigS (rP ad cap s) s.ids, pts b 96 [.map (some mb)], mapF encI mb (fM A s.ids) s.ids.length, pts b3 32 (ofC o0), F]) (by repeat (first | exact ent_nil _ | refine ent_take 0 rfl ?_ | refine ent_take 1 rfl ?_ | refine ent_take 2 rfl ?_ | refine ent_take 3 rfl ?_ | refine ent_take 4 rfl ?_ | refine ent_take 5 rfl ?_ | refine ent_take 6 rfl ?_ | refine ent_take 7 rfl ?_ | refine ent_take 8 rfl ?_ | refine ent_take 9 rfl ?_ | refine ent_take 10 rfl ?_ | refine ent_take 11 rfl ?_ | refine ent_take 12 rfl ?_)) ?_
      refine TC.region ?_
      refine q rfl rfl (mv (v := .pointer _) rfl) ?_
      first | refine q rfl rfl (nc rfl) ?_ | refine q rfl rfl (ncF rfl) ?_ | refine q rfl rfl (ncS rfl (by first | assumption | (simp [ints_length] <;> omega))) ?_
      first | refine q rfl rfl (fa 0 rfl rfl) ?_ | refine q rfl rfl (faS 0 rfl rfl (by first | assumption | (simp [ints_length] <;> omega))) ?_
      refine e rfl ?_
      refine cl (mfirst_ok A ad cap s s.ids to h hN) rfl PkL.p trivial ?_
      intro _ _
      change TL _ _ _ _ _ _ _ _ (sepL [_, _, _, _, _, _])
      rcases row_cases (s.row to) with hr | ⟨o, r, hr⟩
      · have hv : takeS s to = (s, o0, 0, 6) := by rw [takeS, if_neg hh, if_neg hs, hr]
        rw [hv, hr]
        dsimp only [hdO, hdB]
        refine q rfl rfl (mv (v := .tuple _) rfl) ?_
        refine q rfl rfl (pu (v := .agg #[_, _, _]) (fun _ => rfl)) ?_
        refine q rfl rfl (pu (v := .bool _) (fun _ => rfl)) ?_
        refine e rfl ?_
        refine al (l := [.int _ _, .int _ _, .bool _]) rfl rfl ?_
        intro b6
        refine e0 ?_
        refine st (v := .agg #[_, _, _]) (vs := [_, _, _]) 3 rfl rfl rfl rfl rfl rfl (Nat.le_of_ble_eq_true rfl) rfl ?_
        refine q rfl rfl (asg (v := .bool _) rfl) ?_
        refine TL.nil (nt ?_)
        refine TC.seq ?_
        refine TC.seq ?_
        refine TC.region ?_
        refine q rfl rfl (mv (v := .bool _) rfl) ?_
        first | refine q rfl rfl (notD rfl) ?_ | refine q rfl rfl (notB rfl) ?_
        refine TL.nil (nt ?_)
        refine TC.condT rfl ?_
        refine TC.seq ?_
        refine TC.region ?_
        first | refine q rfl rfl (bld (cs := [.int _ _, .int _ _, .bool _]) rfl) ?_ | refine q rfl rfl (bld (cs := [_, _, _]) rfl) ?_
        refine e0 ?_
        refine st (v := .agg #[_, _, _]) (vs := [_, _, _]) 3 rfl rfl rfl rfl rfl rfl (Nat.le_of_ble_eq_true rfl) rfl ?_
        refine q rfl rfl (asg (v := .int _ _) rfl) ?_
        refine q rfl rfl (asg (v := .int _ _) rfl) ?_
        refine TL.nil (nt ?_)
        refine TC.ret (rt ?_)
        exact Ret.i () [_, _, _] ⟨(rcN (n := 3) rfl rfl rfl rfl), rfl, rfl, trivial⟩ rfl trivial (ent_close (⟨ad, cap, mb⟩ : MRep) hN (by repeat (first | exact ent_nil _ | refine ent_take 0 rfl ?_ | refine ent_take 1 rfl ?_ | refine ent_take 2 rfl ?_ | refine ent_take 3 rfl ?_ | refine ent_take 4 rfl ?_ | refine ent_take 5 rfl ?_ | refine ent_take 6 rfl ?_ | refine ent_take 7 rfl ?_ | refine ent_take 8 rfl ?_ | refine ent_take 9 rfl ?_ | refine ent_take 10 rfl ?_ | refine ent_take 11 rfl ?_ | refine ent_take 12 rfl ?_)))
      · obtain ⟨hf1, hf2, hf3, hf4⟩ := hW.row to h o (by rw [hr]; simp)
        have hol := ofsC_length (s.row to)
        have hrl : (s.row to).length = r.length + 1 := by rw [hr, List.length_cons]
        have hcal := hW.cal to h
        obtain ⟨M, hM⟩ := perm_mem h
        have hne := nd_ne hN hM
        rw [show hdO (s.row to) = o from by rw [hr]; rfl, show hdB (s.row to) = true from by rw [hr]; rfl]
        refine q rfl rfl (mv (v := .tuple _) rfl) ?_
        refine q rfl rfl (pu (v := .agg #[_, _, _]) (fun _ => rfl)) ?_
        refine q rfl rfl (pu (v := .bool _) (fun _ => rfl)) ?_
        refine e rfl ?_
        refine al (l := [.int _ _, .int _ _, .bool _]) rfl rfl ?_
        intro b7
        refine e0 ?_
        refine st (v := .agg #[_, _, _]) (vs := [_, _, _]) 3 rfl rfl rfl rfl rfl rfl (Nat.le_of_ble_eq_true rfl) rfl ?_
        refine q rfl rfl (asg (v := .bool _) rfl) ?_
        refine TL.nil (nt ?_)
        refine TC.seq ?_
        refine TC.seq ?_
        refine TC.region ?_
        refine q rfl rfl (mv (v := .bool _) rfl) ?_
        first | refine q rfl rfl (notD rfl) ?_ | refine q rfl rfl (notB rfl) ?_
        refine TL.nil (nt ?_)
        refine TC.condF rfl ?_
        refine TC.skip (nt ?_)
        refine TC.seq ?_
        refine TC.weak (B := sepL [bigS (tP A ad cap s) s.ids, bigS (rP ad cap s) s.ids, pts b 96 [.map (some mb)], mapF encI mb (fM A s.ids) s.ids.length, pts b3 32 (ofC o0), pts b7 32 (ofC o), F]) (by repeat (first | exact ent_nil _ | refine ent_take 0 rfl ?_ | refine ent_take 1 rfl ?_ | refine ent_take 2 rfl ?_ | refine ent_take 3 rfl ?_ | refine ent_take 4 rfl ?_ | refine ent_take 5 rfl ?_ | refine ent_take 6 rfl ?_ | refine ent_take 7 rfl ?_ | refine ent_take 8 rfl ?_ | refine ent_take 9 rfl ?_ | refine ent_take 10 rfl ?_ | refine ent_take 11 rfl ?_ | refine ent_take 12 rfl ?_)) ?_
        refine TC.weak (ent_openB 1 rfl hM) ?_
        refine TC.weak (ent_openB 2 rfl hM) ?_
        refine TC.region ?_
        refine q rfl rfl (mv (v := .pointer _) rfl) ?_
        refine q rfl rfl (mv (v := .pointer _) rfl) ?_
        first | refine q rfl rfl (nc rfl) ?_ | refine q rfl rfl (ncF rfl) ?_ | refine q rfl rfl (ncS rfl (by first | assumption | (simp [ints_length] <;> omega))) ?_
        first | refine q rfl rfl (fa 0 rfl rfl) ?_ | refine q rfl rfl (faS 0 rfl rfl (by first | assumption | (simp [ints_length] <;> omega))) ?_
        first | refine q rfl rfl (fa 0 rfl rfl) ?_ | refine q rfl rfl (faS 0 rfl rfl (by first | assumption | (simp [ints_length] <;> omega))) ?_
        first | refine q rfl rfl (ld rfl rfl rfl) ?_ | refine q rfl rfl (ldS rfl rfl rfl) ?_
        refine q rfl rfl (slFn 32 3 (1) rfl rfl rfl (by omega) (by omega)) ?_
        first | refine q rfl rfl (nc rfl) ?_ | refine q rfl rfl (ncF rfl) ?_ | refine q rfl rfl (ncS rfl (by first | assumption | (simp [ints_length] <;> omega))) ?_
        first | refine q rfl rfl (fa 0 rfl rfl) ?_ | refine q rfl rfl (faS 0 rfl rfl (by first | assumption | (simp [ints_length] <;> omega))) ?_
        first | refine q rfl rfl (fa 0 rfl rfl) ?_ | refine q rfl rfl (faS 0 rfl rfl (by first | assumption | (simp [ints_length] <;> omega))) ?_
        refine e0 ?_
        refine st (v := .slice _ _ _) (vs := [_]) 1 rfl rfl rfl rfl rfl rfl (Nat.le_of_ble_eq_true rfl) rfl ?_
        refine TL.nil (nt ?_)
        refine TC.seq ?_
        refine TC.weak (B := sepL [bigS (tP A (updI ad to (sliceOff (ad to) (cap to) 1 3)) (updI cap to (cap to - 1)) (rowS s to r)) s.ids, bigS (rP (updI ad to (sliceOff (ad to) (cap to) 1 3)) (updI cap to (cap to - 1)) (rowS s to r)) s.ids, pts b 96 [.map (some mb)], mapF encI mb (fM A s.ids) s.ids.length, pts b3 32 (ofC o0), pts b7 32 (ofC o), F]) (ent_closeB 0 0 to rfl rfl (by dsimp only [tP, frS, wtS, pushS, rowS, cutMS, clS, stS]; simp only [updI_same]; rw [hrl]; rfl) (fun y hy => by have h := hne y hy; dsimp only [tP, frS, wtS, pushS, rowS, cutMS, clS, stS]; simp only [updI_ne h]) hM.symm (ent_closeW 0 0 to rfl rfl (slc_from (j := 1) (by omega)) (by dsimp only [rP, frS, wtS, pushS, rowS, cutMS, clS, stS]; simp only [updI_same]; rw [hrl, hr]; rfl) (fun y hy => by have h := hne y hy; dsimp only [rP, frS, wtS, pushS, rowS, cutMS, clS, stS]; simp only [updI_ne h]) hM.symm (by repeat (first | exact ent_nil _ | refine ent_take 0 rfl ?_ | refine ent_take 1 rfl ?_ | refine ent_take 2 rfl ?_ | refine ent_take 3 rfl ?_ | refine ent_take 4 rfl ?_ | refine ent_take 5 rfl ?_ | refine ent_take 6 rfl ?_ | refine ent_take 7 rfl ?_ | refine ent_take 8 rfl ?_ | refine ent_take 9 rfl ?_ | refine ent_take 10 rfl ?_ | refine ent_take 11 rfl ?_ | refine ent_take 12 rfl ?_)))) ?_
        refine TC.region ?_
        refine q rfl rfl (mv (v := .pointer _) rfl) ?_
        refine e rfl ?_
        refine cl (mfree_ok A (updI ad to (sliceOff (ad to) (cap to) 1 3)) (updI cap to (cap to - 1)) (rowS s to r) s.ids to h hN) rfl PkL.p trivial ?_
        intro _ _
        change TL _ _ _ _ _ _ _ _ (sepL [_, _, _, _, _, _, _])
        refine TL.nil (nt ?_)
        refine TC.seq ?_
        refine TC.draw _ [] [(0, false), (1, false), (2, false), (3, false), (4, false), (5, false), (6, false), (7, false), (8, false)] (by kernel_rfl) (by kernel_rfl) (ent.refl _) ?_
        refine dq rfl rfl rfl (mv (v := .pointer _) rfl) ?_
        first | refine dq rfl rfl rfl (nc rfl) ?_ | refine dq rfl rfl rfl (ncF rfl) ?_ | refine dq rfl rfl rfl (ncS rfl (by first | assumption | (simp [ints_length] <;> omega))) ?_
        first | refine dq rfl rfl rfl (fa 0 rfl rfl) ?_ | refine dq rfl rfl rfl (faS 0 rfl rfl (by first | assumption | (simp [ints_length] <;> omega))) ?_
        first | refine dq rfl rfl rfl (ld rfl rfl rfl) ?_ | refine dq rfl rfl rfl (ldS rfl rfl rfl) ?_
        first | refine dq rfl rfl rfl (fa 0 rfl rfl) ?_ | refine dq rfl rfl rfl (faS 0 rfl rfl (by first | assumption | (simp [ints_length] <;> omega))) ?_
        first | refine dq rfl rfl rfl (ld rfl rfl rfl) ?_ | refine dq rfl rfl rfl (ldS rfl rfl rfl) ?_
        refine dq rfl rfl rfl (luF 3 97 rfl rfl (KL.int rfl) rfl rfl) ?_
        rw [fM_yes hf1]
        refine dq rfl rfl rfl (asg (v := .pointer _) rfl) ?_
        refine dq rfl rfl rfl (asg (v := .int _ _) rfl) ?_
        refine TD.nil (nt ?_)
        refine TC.seq ?_
        refine TC.region ?_
        refine q rfl rfl (mv (v := .pointer _) rfl) ?_
        refine e rfl ?_
        refine cl (mfree_ok A (updI ad to (sliceOff (ad to) (cap to) 1 3)) (updI cap to (cap to - 1)) (frS (rowS s to r) to) s.ids o.fr hf1 hN) rfl PkL.p trivial ?_
        intro _ _
        change TL _ _ _ _ _ _ _ _ (sepL [_, _, _, _, _, _, _])
        by_cases hcl : o.cl = true
        · refine TL.nil (nt ?_)
          refine TC.seq ?_
          refine TC.seq ?_
          refine TC.region ?_
          first | refine q rfl rfl (fa 2 rfl rfl) ?_ | refine q rfl rfl (faS 2 rfl rfl (by first | assumption | (simp [ints_length] <;> omega))) ?_
          first | refine q rfl rfl (ld rfl rfl rfl) ?_ | refine q rfl rfl (ldS rfl rfl rfl) ?_
          refine TL.nil (nt ?_)
          rw [hcl]
          refine TC.condT rfl ?_
          haveI := tP_rd (A := A) (ad := (updI ad to (sliceOff (ad to) (cap to) 1 3))) (cap := (updI cap to (cap to - 1))) (s := (frS (frS (rowS s to r) to) o.fr)) (x := to) h
          refine TC.seq ?_
          refine TC.region ?_
          refine q rfl rfl (mv (v := .pointer _) rfl) ?_
          first | refine q rfl rfl (nc rfl) ?_ | refine q rfl rfl (ncF rfl) ?_ | refine q rfl rfl (ncS rfl (by first | assumption | (simp [ints_length] <;> omega))) ?_
          first | refine q rfl rfl (fa 2 rfl rfl) ?_ | refine q rfl rfl (faS 2 rfl rfl (by first | assumption | (simp [ints_length] <;> omega))) ?_
          first | refine q rfl rfl (ld rfl rfl rfl) ?_ | refine q rfl rfl (ldS rfl rfl rfl) ?_
          refine q rfl rfl (asg (v := .int _ _) rfl) ?_
          refine TL.nil (nt ?_)
          refine TC.seq ?_
          refine TC.seq ?_
          refine TC.region ?_
          refine q rfl rfl (mv (v := .int _ _) rfl) ?_
          refine q rfl rfl (neI rfl rfl) ?_
          refine TL.nil (nt ?_)
          first | refine TC.condD rfl (fun hel => ?_) (fun hel => ?_) | refine TC.cond rfl (fun hel => ?_) (fun hel => ?_)
          · have hel : s.cl to ≠ -1 := hel
            obtain ⟨hc1, hc2, hc3, hc4⟩ := hcal hel
            refine TC.region ?_
            refine q rfl rfl (mv (v := .pointer _) rfl) ?_
            first | refine q rfl rfl (nc rfl) ?_ | refine q rfl rfl (ncF rfl) ?_ | refine q rfl rfl (ncS rfl (by first | assumption | (simp [ints_length] <;> omega))) ?_
            first | refine q rfl rfl (fa 0 rfl rfl) ?_ | refine q rfl rfl (faS 0 rfl rfl (by first | assumption | (simp [ints_length] <;> omega))) ?_
            first | refine q rfl rfl (ld rfl rfl rfl) ?_ | refine q rfl rfl (ldS rfl rfl rfl) ?_
            refine q rfl rfl (mv (v := .int _ _) rfl) ?_
            refine q rfl rfl (luF 3 97 rfl rfl (KL.int rfl) rfl rfl) ?_
            rw [show (frS (frS (rowS s to r) to) o.fr).cl to = s.cl to from rfl, fM_yes hc1]
            refine e rfl ?_
            refine cl (mfree_ok A (updI ad to (sliceOff (ad to) (cap to) 1 3)) (updI cap to (cap to - 1)) (frS (frS (rowS s to r) to) o.fr) s.ids (s.cl to) hc1 hN) rfl PkL.p trivial ?_
            intro _ _
            change TL _ _ _ _ _ _ _ _ (sepL [_, _, _, _, _, _, _])
            have hv : takeS s to = ((wtS (clS (frS (frS (frS (rowS s to r) to) o.fr) (s.cl to)) to o.fr) o.fr 3 to), o, s.cl to, 0) := by rw [takeS, if_neg hh, if_neg hs, hr]; dsimp only; rw [if_pos hcl, if_pos hel]
            rw [hv]
            dsimp only
            refine TL.nil (nt ?_)
            refine TC.seq ?_
            refine TC.weak (B := sepL [bigS (tP A (updI ad to (sliceOff (ad to) (cap to) 1 3)) (updI cap to (cap to - 1)) (frS (frS (frS (rowS s to r) to) o.fr) (s.cl to))) s.ids, bigS (rP (updI ad to (sliceOff (ad to) (cap to) 1 3)) (updI cap to (cap to - 1)) (frS (frS (frS (rowS s to r) to) o.fr) (s.cl to))) s.ids, pts b 96 [.map (some mb)], mapF encI mb (fM A s.ids) s.ids.length, pts b3 32 (ofC o0), pts b7 32 (ofC o), F]) (by repeat (first | exact ent_nil _ | refine ent_take 0 rfl ?_ | refine ent_take 1 rfl ?_ | refine ent_take 2 rfl ?_ | refine ent_take 3 rfl ?_ | refine ent_take 4 rfl ?_ | refine ent_take 5 rfl ?_ | refine ent_take 6 rfl ?_ | refine ent_take 7 rfl ?_ | refine ent_take 8 rfl ?_ | refine ent_take 9 rfl ?_ | refine ent_take 10 rfl ?_ | refine ent_take 11 rfl ?_ | refine ent_take 12 rfl ?_)) ?_
            refine TC.weak (ent_openB 0 rfl hM) ?_
            refine TC.region ?_
            refine q rfl rfl (mv (v := .pointer _) rfl) ?_
            first | refine q rfl rfl (fa 0 rfl rfl) ?_ | refine q rfl rfl (faS 0 rfl rfl (by first | assumption | (simp [ints_length] <;> omega))) ?_
            first | refine q rfl rfl (ld rfl rfl rfl) ?_ | refine q rfl rfl (ldS rfl rfl rfl) ?_
            first | refine q rfl rfl (nc rfl) ?_ | refine q rfl rfl (ncF rfl) ?_ | refine q rfl rfl (ncS rfl (by first | assumption | (simp [ints_length] <;> omega))) ?_
            first | refine q rfl rfl (fa 2 rfl rfl) ?_ | refine q rfl rfl (faS 2 rfl rfl (by first | assumption | (simp [ints_length] <;> omega))) ?_
            refine e0 ?_
            refine st (v := .int _ _) (vs := [_]) 1 rfl rfl rfl rfl rfl rfl (Nat.le_of_ble_eq_true rfl) rfl ?_
            refine TL.nil (nt ?_)
            refine TC.weak (B := sepL [bigS (tP A (updI ad to (sliceOff (ad to) (cap to) 1 3)) (updI cap to (cap to - 1)) (clS (frS (frS (frS (rowS s to r) to) o.fr) (s.cl to)) to o.fr)) s.ids, bigS (rP (updI ad to (sliceOff (ad to) (cap to) 1 3)) (updI cap to (cap to - 1)) (clS (frS (frS (frS (rowS s to r) to) o.fr) (s.cl to)) to o.fr)) s.ids, pts b 96 [.map (some mb)], mapF encI mb (fM A s.ids) s.ids.length, pts b3 32 (ofC o0), pts b7 32 (ofC o), F]) (ent_closeB 0 0 to rfl rfl (by dsimp only [tP, frS, wtS, pushS, rowS, cutMS, clS, stS]; simp only [updI_same]; rfl) (fun y hy => by have h := hne y hy; dsimp only [tP, frS, wtS, pushS, rowS, cutMS, clS, stS]; simp only [updI_ne h]) hM.symm (by repeat (first | exact ent_nil _ | refine ent_take 0 rfl ?_ | refine ent_take 1 rfl ?_ | refine ent_take 2 rfl ?_ | refine ent_take 3 rfl ?_ | refine ent_take 4 rfl ?_ | refine ent_take 5 rfl ?_ | refine ent_take 6 rfl ?_ | refine ent_take 7 rfl ?_ | refine ent_take 8 rfl ?_ | refine ent_take 9 rfl ?_ | refine ent_take 10 rfl ?_ | refine ent_take 11 rfl ?_ | refine ent_take 12 rfl ?_))) ?_
            refine TC.region ?_
            refine q rfl rfl (mv (v := .pointer _) rfl) ?_
            refine q rfl rfl (mv (v := .int _ _) rfl) ?_
            refine e rfl ?_
            refine cl (mwaits_ok A (updI ad to (sliceOff (ad to) (cap to) 1 3)) (updI cap to (cap to - 1)) (clS (frS (frS (frS (rowS s to r) to) o.fr) (s.cl to)) to o.fr) s.ids o.fr hf1 hN 3 to) rfl PkL.p trivial ?_
            intro _ _
            change TL _ _ _ _ _ _ _ _ (sepL [_, _, _, _, _, _, _])
            refine TL.nil (nt ?_)
            refine TC.seq ?_
            refine TC.region ?_
            first | refine q rfl rfl (ldN (vs := [_, _, _]) 3 rfl rfl rfl rfl) ?_ | refine q rfl rfl (ldSN (vs := [_, _, _]) 3 rfl rfl rfl rfl (by decide)) ?_
            refine q rfl rfl (mv (v := .int _ _) rfl) ?_
            refine e0 ?_
            refine st (v := .agg #[_, _, _]) (vs := [_, _, _]) 3 rfl rfl rfl rfl rfl rfl (Nat.le_of_ble_eq_true rfl) rfl ?_
            refine q rfl rfl (asg (v := .int _ _) rfl) ?_
            refine q rfl rfl (asg (v := .int _ _) rfl) ?_
            refine TL.nil (nt ?_)
            refine TC.ret ?_
            exact Ret.i () [_, _, _] ⟨(rcN (n := 3) rfl rfl rfl rfl), rfl, rfl, trivial⟩ rfl trivial (ent_close (⟨(updI ad to (sliceOff (ad to) (cap to) 1 3)), (updI cap to (cap to - 1)), mb⟩ : MRep) hN (by repeat (first | exact ent_nil _ | refine ent_take 0 rfl ?_ | refine ent_take 1 rfl ?_ | refine ent_take 2 rfl ?_ | refine ent_take 3 rfl ?_ | refine ent_take 4 rfl ?_ | refine ent_take 5 rfl ?_ | refine ent_take 6 rfl ?_ | refine ent_take 7 rfl ?_ | refine ent_take 8 rfl ?_ | refine ent_take 9 rfl ?_ | refine ent_take 10 rfl ?_ | refine ent_take 11 rfl ?_ | refine ent_take 12 rfl ?_)))
          · have hel : ¬ s.cl to ≠ -1 := hel
            have hv : takeS s to = ((wtS (clS (frS (frS (rowS s to r) to) o.fr) to o.fr) o.fr 3 to), o, s.cl to, 0) := by rw [takeS, if_neg hh, if_neg hs, hr]; dsimp only; rw [if_pos hcl, if_neg hel]
            rw [hv]
            dsimp only
            refine TC.skip (nt ?_)
            refine TC.seq ?_
            refine TC.weak (B := sepL [bigS (tP A (updI ad to (sliceOff (ad to) (cap to) 1 3)) (updI cap to (cap to - 1)) (frS (frS (rowS s to r) to) o.fr)) s.ids, bigS (rP (updI ad to (sliceOff (ad to) (cap to) 1 3)) (updI cap to (cap to - 1)) (frS (frS (rowS s to r) to) o.fr)) s.ids, pts b 96 [.map (some mb)], mapF encI mb (fM A s.ids) s.ids.length, pts b3 32 (ofC o0), pts b7 32 (ofC o), F]) (by repeat (first | exact ent_nil _ | refine ent_take 0 rfl ?_ | refine ent_take 1 rfl ?_ | refine ent_take 2 rfl ?_ | refine ent_take 3 rfl ?_ | refine ent_take 4 rfl ?_ | refine ent_take 5 rfl ?_ | refine ent_take 6 rfl ?_ | refine ent_take 7 rfl ?_ | refine ent_take 8 rfl ?_ | refine ent_take 9 rfl ?_ | refine ent_take 10 rfl ?_ | refine ent_take 11 rfl ?_ | refine ent_take 12 rfl ?_)) ?_
            refine TC.weak (ent_openB 0 rfl hM) ?_
            refine TC.region ?_
            refine q rfl rfl (mv (v := .pointer _) rfl) ?_
            first | refine q rfl rfl (fa 0 rfl rfl) ?_ | refine q rfl rfl (faS 0 rfl rfl (by first | assumption | (simp [ints_length] <;> omega))) ?_
            first | refine q rfl rfl (ld rfl rfl rfl) ?_ | refine q rfl rfl (ldS rfl rfl rfl) ?_
            first | refine q rfl rfl (nc rfl) ?_ | refine q rfl rfl (ncF rfl) ?_ | refine q rfl rfl (ncS rfl (by first | assumption | (simp [ints_length] <;> omega))) ?_
            first | refine q rfl rfl (fa 2 rfl rfl) ?_ | refine q rfl rfl (faS 2 rfl rfl (by first | assumption | (simp [ints_length] <;> omega))) ?_
            refine e0 ?_
            refine st (v := .int _ _) (vs := [_]) 1 rfl rfl rfl rfl rfl rfl (Nat.le_of_ble_eq_true rfl) rfl ?_
            refine TL.nil (nt ?_)
            refine TC.weak (B := sepL [bigS (tP A (updI ad to (sliceOff (ad to) (cap to) 1 3)) (updI cap to (cap to - 1)) (clS (frS (frS (rowS s to r) to) o.fr) to o.fr)) s.ids, bigS (rP (updI ad to (sliceOff (ad to) (cap to) 1 3)) (updI cap to (cap to - 1)) (clS (frS (frS (rowS s to r) to) o.fr) to o.fr)) s.ids, pts b 96 [.map (some mb)], mapF encI mb (fM A s.ids) s.ids.length, pts b3 32 (ofC o0), pts b7 32 (ofC o), F]) (ent_closeB 0 0 to rfl rfl (by dsimp only [tP, frS, wtS, pushS, rowS, cutMS, clS, stS]; simp only [updI_same]; rfl) (fun y hy => by have h := hne y hy; dsimp only [tP, frS, wtS, pushS, rowS, cutMS, clS, stS]; simp only [updI_ne h]) hM.symm (by repeat (first | exact ent_nil _ | refine ent_take 0 rfl ?_ | refine ent_take 1 rfl ?_ | refine ent_take 2 rfl ?_ | refine ent_take 3 rfl ?_ | refine ent_take 4 rfl ?_ | refine ent_take 5 rfl ?_ | refine ent_take 6 rfl ?_ | refine ent_take 7 rfl ?_ | refine ent_take 8 rfl ?_ | refine ent_take 9 rfl ?_ | refine ent_take 10 rfl ?_ | refine ent_take 11 rfl ?_ | refine ent_take 12 rfl ?_))) ?_
            refine TC.region ?_
            refine q rfl rfl (mv (v := .pointer _) rfl) ?_
            refine q rfl rfl (mv (v := .int _ _) rfl) ?_
            refine e rfl ?_
            refine cl (mwaits_ok A (updI ad to (sliceOff (ad to) (cap to) 1 3)) (updI cap to (cap to - 1)) (clS (frS (frS (rowS s to r) to) o.fr) to o.fr) s.ids o.fr hf1 hN 3 to) rfl PkL.p trivial ?_
            intro _ _
            change TL _ _ _ _ _ _ _ _ (sepL [_, _, _, _, _, _, _])
            refine TL.nil (nt ?_)
            refine TC.seq ?_
            refine TC.region ?_
            first | refine q rfl rfl (ldN (vs := [_, _, _]) 3 rfl rfl rfl rfl) ?_ | refine q rfl rfl (ldSN (vs := [_, _, _]) 3 rfl rfl rfl rfl (by decide)) ?_
            refine q rfl rfl (mv (v := .int _ _) rfl) ?_
            refine e0 ?_
            refine st (v := .agg #[_, _, _]) (vs := [_, _, _]) 3 rfl rfl rfl rfl rfl rfl (Nat.le_of_ble_eq_true rfl) rfl ?_
            refine q rfl rfl (asg (v := .int _ _) rfl) ?_
            refine q rfl rfl (asg (v := .int _ _) rfl) ?_
            refine TL.nil (nt ?_)
            refine TC.ret ?_
            exact Ret.i () [_, _, _] ⟨(rcN (n := 3) rfl rfl rfl rfl), rfl, rfl, trivial⟩ rfl trivial (ent_close (⟨(updI ad to (sliceOff (ad to) (cap to) 1 3)), (updI cap to (cap to - 1)), mb⟩ : MRep) hN (by repeat (first | exact ent_nil _ | refine ent_take 0 rfl ?_ | refine ent_take 1 rfl ?_ | refine ent_take 2 rfl ?_ | refine ent_take 3 rfl ?_ | refine ent_take 4 rfl ?_ | refine ent_take 5 rfl ?_ | refine ent_take 6 rfl ?_ | refine ent_take 7 rfl ?_ | refine ent_take 8 rfl ?_ | refine ent_take 9 rfl ?_ | refine ent_take 10 rfl ?_ | refine ent_take 11 rfl ?_ | refine ent_take 12 rfl ?_)))
        · have hcf : o.cl = false := by simpa using hcl
          have hv : takeS s to = ((frS (frS (rowS s to r) to) o.fr), o, -1, 0) := by rw [takeS, if_neg hh, if_neg hs, hr]; dsimp only; rw [if_neg hcl]
          rw [hv]
          dsimp only
          refine TL.nil (nt ?_)
          refine TC.seq ?_
          refine TC.seq ?_
          refine TC.region ?_
          first | refine q rfl rfl (fa 2 rfl rfl) ?_ | refine q rfl rfl (faS 2 rfl rfl (by first | assumption | (simp [ints_length] <;> omega))) ?_
          first | refine q rfl rfl (ld rfl rfl rfl) ?_ | refine q rfl rfl (ldS rfl rfl rfl) ?_
          refine TL.nil (nt ?_)
          rw [hcf]
          refine TC.condF rfl ?_
          refine TC.skip (nt ?_)
          refine TC.seq ?_
          refine TC.region ?_
          first | refine q rfl rfl (ldN (vs := [_, _, _]) 3 rfl rfl rfl rfl) ?_ | refine q rfl rfl (ldSN (vs := [_, _, _]) 3 rfl rfl rfl rfl (by decide)) ?_
          refine q rfl rfl (mv (v := .int _ _) rfl) ?_
          refine e0 ?_
          refine st (v := .agg #[_, _, _]) (vs := [_, _, _]) 3 rfl rfl rfl rfl rfl rfl (Nat.le_of_ble_eq_true rfl) rfl ?_
          refine q rfl rfl (asg (v := .int _ _) rfl) ?_
          refine q rfl rfl (asg (v := .int _ _) rfl) ?_
          refine TL.nil (nt ?_)
          refine TC.ret ?_
          exact Ret.i () [_, _, _] ⟨(rcN (n := 3) rfl rfl rfl rfl), rfl, rfl, trivial⟩ rfl trivial (ent_close (⟨(updI ad to (sliceOff (ad to) (cap to) 1 3)), (updI cap to (cap to - 1)), mb⟩ : MRep) hN (by repeat (first | exact ent_nil _ | refine ent_take 0 rfl ?_ | refine ent_take 1 rfl ?_ | refine ent_take 2 rfl ?_ | refine ent_take 3 rfl ?_ | refine ent_take 4 rfl ?_ | refine ent_take 5 rfl ?_ | refine ent_take 6 rfl ?_ | refine ent_take 7 rfl ?_ | refine ent_take 8 rfl ?_ | refine ent_take 9 rfl ?_ | refine ent_take 10 rfl ?_ | refine ent_take 11 rfl ?_ | refine ent_take 12 rfl ?_)))
  · have hv : takeS s to = (s, o0, 0, 6) := if_pos h
    rw [hv]
    dsimp only
    refine TC.region ?_
    refine q rfl rfl (mv (v := .pointer _) rfl) ?_
    refine q rfl rfl (mv (v := .int _ _) rfl) ?_
    refine e rfl ?_
    refine cl (mat_no b mb s.ids.length A s.ids to h) rfl PkL.p trivial ?_
    intro _ _
    change TL _ _ _ _ _ _ _ _ (sepL [_, _, _, _, _, _])
    refine q rfl rfl (mv (v := .tuple _) rfl) ?_
    refine q rfl rfl (pu (v := .pointer _) (fun _ => rfl)) ?_
    refine q rfl rfl (pu (v := .int _ _) (fun _ => rfl)) ?_
    refine q rfl rfl (asg (v := .pointer _) rfl) ?_
    refine q rfl rfl (asg (v := .int _ _) rfl) ?_
    refine TL.nil (nt ?_)
    refine TC.seq ?_
    refine TC.block ?_
    refine TC.seq ?_
    refine TC.region ?_
    refine q rfl rfl (mv (v := .int _ _) rfl) ?_
    refine q rfl rfl (neI rfl rfl) ?_
    refine q rfl rfl (asg (v := .bool _) rfl) ?_
    refine TL.nil (nt ?_)
    refine TC.condT rfl ?_
    refine TC.seq ?_
    refine TC.region ?_
    first | refine q rfl rfl (bld (cs := [.int _ _, .int _ _, .bool _]) rfl) ?_ | refine q rfl rfl (bld (cs := [_, _, _]) rfl) ?_
    refine q rfl rfl (mv (v := .int _ _) rfl) ?_
    refine e0 ?_
    refine st (v := .agg #[_, _, _]) (vs := [_, _, _]) 3 rfl rfl rfl rfl rfl rfl (Nat.le_of_ble_eq_true rfl) rfl ?_
    refine q rfl rfl (asg (v := .int _ _) rfl) ?_
    refine q rfl rfl (asg (v := .int _ _) rfl) ?_
    refine TL.nil (nt ?_)
    refine TC.ret (rb (rt ?_))
    exact Ret.i () [_, _, _] ⟨(rcN (n := 3) rfl rfl rfl rfl), rfl, rfl, trivial⟩ rfl trivial (ent_close (⟨ad, cap, mb⟩ : MRep) hN (by repeat (first | exact ent_nil _ | refine ent_take 0 rfl ?_ | refine ent_take 1 rfl ?_ | refine ent_take 2 rfl ?_ | refine ent_take 3 rfl ?_ | refine ent_take 4 rfl ?_ | refine ent_take 5 rfl ?_ | refine ent_take 6 rfl ?_ | refine ent_take 7 rfl ?_ | refine ent_take 8 rfl ?_ | refine ent_take 9 rfl ?_ | refine ent_take 10 rfl ?_ | refine ent_take 11 rfl ?_ | refine ent_take 12 rfl ?_)))

set_option maxRecDepth 4000 in
theorem mtake_nil (to : Int) : FSpec Try.prog 44 [.pointer none, .int .i64 to] noRd [] (fun _ : Unit => .tuple #[.agg (ofC o0).toArray, .int .i64 0, .int .i64 1]) (fun _ => True) (fun _ => []) := by
  refine FSpec.intro (rs := [.cell 4 32, .tmp 5, .tmp 6]) (by kernel_rfl) Try.func44 rfl Try.ntmps44 (by rfl) rfl ?_
  intro F _
  change TC _ _ _ _ _ _ _ (sepL [_])
  refine TC.seq ?_
  refine TC.region ?_
  refine e rfl ?_
  refine al (l := [.int _ _, .int _ _, .bool _]) rfl rfl ?_
  intro b8
  refine q rfl rfl (asg (v := .int _ _) rfl) ?_
  refine q rfl rfl (asg (v := .int _ _) rfl) ?_
  refine TL.nil (nt ?_)
  refine TC.seq ?_
  refine TC.region ?_
  refine q rfl rfl (mv (v := .pointer _) rfl) ?_
  refine q rfl rfl (mv (v := .int _ _) rfl) ?_
  refine e rfl ?_
  refine cl (mat_nil to) rfl (picked_nil _) trivial ?_
  intro _ _
  change TL _ _ _ _ _ _ _ _ (sepL [_, _])
  refine q rfl rfl (mv (v := .tuple _) rfl) ?_
  refine q rfl rfl (pu (v := .pointer _) (fun _ => rfl)) ?_
  refine q rfl rfl (pu (v := .int _ _) (fun _ => rfl)) ?_
  refine q rfl rfl (asg (v := .pointer _) rfl) ?_
  refine q rfl rfl (asg (v := .int _ _) rfl) ?_
  refine TL.nil (nt ?_)
  refine TC.seq ?_
  refine TC.block ?_
  refine TC.seq ?_
  refine TC.region ?_
  refine q rfl rfl (mv (v := .int _ _) rfl) ?_
  refine q rfl rfl (neI rfl rfl) ?_
  refine q rfl rfl (asg (v := .bool _) rfl) ?_
  refine TL.nil (nt ?_)
  refine TC.condT rfl ?_
  refine TC.seq ?_
  refine TC.region ?_
  first | refine q rfl rfl (bld (cs := [.int _ _, .int _ _, .bool _]) rfl) ?_ | refine q rfl rfl (bld (cs := [_, _, _]) rfl) ?_
  refine q rfl rfl (mv (v := .int _ _) rfl) ?_
  refine e0 ?_
  refine st (v := .agg #[_, _, _]) (vs := [_, _, _]) 3 rfl rfl rfl rfl rfl rfl (Nat.le_of_ble_eq_true rfl) rfl ?_
  refine q rfl rfl (asg (v := .int _ _) rfl) ?_
  refine q rfl rfl (asg (v := .int _ _) rfl) ?_
  refine TL.nil (nt ?_)
  refine TC.ret (rb (rt ?_))
  exact Ret.i () [_, _, _] ⟨(rcN (n := 3) rfl rfl rfl rfl), rfl, rfl, trivial⟩ rfl trivial (by repeat (first | exact ent_nil _ | refine ent_take 0 rfl ?_ | refine ent_take 1 rfl ?_ | refine ent_take 2 rfl ?_ | refine ent_take 3 rfl ?_ | refine ent_take 4 rfl ?_ | refine ent_take 5 rfl ?_ | refine ent_take 6 rfl ?_ | refine ent_take 7 rfl ?_ | refine ent_take 8 rfl ?_ | refine ent_take 9 rfl ?_ | refine ent_take 10 rfl ?_ | refine ent_take 11 rfl ?_ | refine ent_take 12 rfl ?_))

end Go.Proofs.Ytdfmfhcjnjfjbaa
