/-
  Proved here: what functions of this program compute, each as a contract over symbolic states, under the premises that each theorem names (most lines printed by a program of the prover).
-/
import Derived.Test.YtdfmfhcjnjfjbaaGreatYi
namespace Go.Proofs.YtdfmfhcjnjfjbaaGreat
open Go Go.QM
theorem ent_closeW {α : Type} {f g : α → HP} (i j : Nat) {hs r1 r2 gs : List HP} {L M : List α} {A A' : HP} (a : α) (h1 : take1 i hs = some (A, r1)) (h2 : take1 j r1 = some (bigS f L, r2)) (hw : ent A A') (hA : A' = g a) (hc : ∀ x ∈ L, f x = g x) (hp : (a :: L).Perm M)
    (k : ent (sepL r2) (sepL gs)) : ent (sepL hs) (sepL (bigS g M :: gs)) :=
  (take1_ent h1).trans ((sep_mono hw (ent.refl _)).trans (ent_closeB 0 j (hs := A' :: r1) a rfl h2 hA hc hp k))
set_option maxRecDepth 4000 in
set_option maxHeartbeats 1000000 in
theorem moffer_ok (b : Nat) (A : Int → Nat) (s : MS) (hW : WM s) (to : Int) (o : Off) (hl : s.ids.length ≤ 1000000) : FSpec Tryz.prog 53 [.pointer (some ⟨b, 0, none⟩), .int .i64 to, .agg (ofC o).toArray] noRd [isMa b A s] (fun _ : Unit => .int .i64 (offS s to o).2) (fun _ => True) (fun _ => [isMa b A (offS s to o).1]) := by
 refine FSpec.intro (rs := [.tmp 6]) (by kernel_rfl) Tryz.func53 rfl Tryz.ntmps53 (by rfl) rfl ?_
 intro F _
 change TC _ _ _ _ _ _ _ (sepL [_, _])
 refine TC.seq ?_
 refine TC.region ?_
 refine e rfl ?_
 refine bx (v := .agg #[_, _, _]) (l := [.int _ _, .int _ _, .bool _]) rfl rfl ?_
 intro b1
 refine wai rfl rfl ?_
 refine TL.nil (nt ?_)
 refine TC.seq ?_
 refine TC.open 1 rfl (fun x0 hx0 => ?_)
 obtain ⟨ad, cap, mb⟩ := x0
 have hN := hx0
 change TC _ _ _ _ _ _ _ (sepL [_, _, _, _, _, _])
 dsimp only at hN ⊢
 by_cases ht : to ∈ s.ids
 ·by_cases hf : o.fr ∈ s.ids
  ·refine TC.region ?_
   refine wmp rfl rfl ?_
   refine wmi rfl rfl ?_
   refine e rfl ?_
   refine cl (mat_yes b mb s.ids.length A s.ids to ht) rfl PkL.p trivial ?_
   intro _ _
   change TL _ _ _ _ _ _ _ _ (sepL [_, _, _, _, _, _])
   refine wmt rfl rfl ?_
   refine q rfl rfl (pu (v := .pointer _) (fun _ => rfl)) ?_
   refine q rfl rfl (pu (v := .int _ _) (fun _ => rfl)) ?_
   refine wap rfl rfl ?_
   refine wai rfl rfl ?_
   refine TL.nil (nt ?_)
   refine TC.seq ?_
   refine TC.region ?_
   refine wmp rfl rfl ?_
   refine wfa 0 rfl rfl rfl ?_
   refine wld rfl rfl rfl rfl ?_
   refine e rfl ?_
   refine cl (mat_yes b mb s.ids.length A s.ids o.fr hf) rfl PkL.p trivial ?_
   intro _ _
   change TL _ _ _ _ _ _ _ _ (sepL [_, _, _, _, _, _])
   refine wmt rfl rfl ?_
   refine q rfl rfl (pu (v := .pointer _) (fun _ => rfl)) ?_
   refine q rfl rfl (pu (v := .int _ _) (fun _ => rfl)) ?_
   refine wap rfl rfl ?_
   refine wai rfl rfl ?_
   refine TL.nil (nt ?_)
   refine TC.seq ?_
   refine TC.block ?_
   refine TC.seq ?_
   refine TC.region ?_
   refine wmi rfl rfl ?_
   refine q rfl rfl (neI rfl rfl) ?_
   refine wab rfl rfl ?_
   refine TL.nil (nt ?_)
   refine TC.condF rfl ?_
   refine TC.seq ?_
   refine TC.region ?_
   refine wmi rfl rfl ?_
   refine q rfl rfl (neI rfl rfl) ?_
   refine wab rfl rfl ?_
   refine TL.nil (nt ?_)
   refine TC.condF rfl ?_
   refine TC.seq ?_
   refine TC.region ?_
   refine wfa 0 rfl rfl rfl ?_
   refine wld rfl rfl rfl rfl ?_
   refine wmi rfl rfl ?_
   refine q rfl rfl (eqI rfl rfl) ?_
   refine wab rfl rfl ?_
   refine TL.nil (nt ?_)
   have h1 : ¬ (to ∉ s.ids ∨ o.fr ∉ s.ids) := fun h => h.elim (fun h => h ht) (fun h => h hf)
   refine TC.condD rfl (fun he => ?_) (fun he => ?_)
   ·have hv : offS s to o = (s, 1) := by rw [offS, if_neg h1, if_pos he]
    rw [hv]
    refine TC.seq ?_
    refine TC.region ?_
    refine wai rfl rfl ?_
    refine TL.nil (nt ?_)
    refine TC.ret (rb (rt ?_))
    exact Ret.i () [_] ⟨rfl, trivial⟩ rfl trivial (ent_close (⟨ad, cap, mb⟩ : MRep) hN (ent_take 0 rfl (ent_take 0 rfl (ent_take 0 rfl (ent_take 0 rfl (ent_take 1 rfl (ent_nil _)))))))
   ·haveI := tP_rd (A := A) (ad := ad) (cap := cap) (s := s) (x := o.fr) hf
    refine TC.seq ?_
    refine TC.region ?_
    refine wmp rfl rfl ?_
    refine wnc rfl rfl ?_
    refine wfa 1 rfl rfl rfl ?_
    refine wld rfl rfl rfl rfl ?_
    refine q rfl rfl (neI rfl rfl) ?_
    refine wab rfl rfl ?_
    refine TL.nil (nt ?_)
    refine TC.condD rfl (fun hs => ?_) (fun hs => ?_)
    ·have hv : offS s to o = (s, 12) := by rw [offS, if_neg h1, if_neg he, if_pos hs]
     rw [hv]
     refine TC.seq ?_
     refine TC.region ?_
     refine wai rfl rfl ?_
     refine TL.nil (nt ?_)
     refine TC.ret (rb (rt ?_))
     exact Ret.i () [_] ⟨rfl, trivial⟩ rfl trivial (ent_close (⟨ad, cap, mb⟩ : MRep) hN (ent_take 0 rfl (ent_take 0 rfl (ent_take 0 rfl (ent_take 0 rfl (ent_take 1 rfl (ent_nil _)))))))
    ·have hv : offS s to o = (pushS (wtS s o.fr 1 to) to o, 0) := by rw [offS, if_neg h1, if_neg he, if_neg hs]
     rw [hv]
     have hrl := rowlen hW ht
     refine TC.skip (nb (nt ?_))
     refine TC.seq ?_
     refine TC.region ?_
     refine wmp rfl rfl ?_
     refine wmi rfl rfl ?_
     refine e rfl ?_
     refine cl (mwaits_ok A ad cap s s.ids o.fr hf hN 1 to) rfl PkL.p trivial ?_
     intro _ _
     change TL _ _ _ _ _ _ _ _ (sepL [_, _, _, _, _, _])
     refine TL.nil (nt ?_)
     refine TC.seq ?_
     refine TC.weak (B := sepL [bigS (tP A ad cap (wtS s o.fr 1 to)) s.ids, bigS (rP ad cap (wtS s o.fr 1 to)) s.ids, pts b 128 [.map (some mb)], mapF encI mb (fM A s.ids) s.ids.length, pts b1 26 (ofC o), F]) (ent_take 0 rfl (ent_take 2 rfl (ent_take 0 rfl (ent_take 0 rfl (ent_take 0 rfl (ent_take 0 rfl (ent_nil _))))))) ?_
     refine TC.draw _ [] [(0, false), (1, false), (2, false), (3, false), (4, true)] (by kernel_rfl) (by kernel_rfl) (ent_take 4 rfl (ent_nil _)) ?_
     refine vmp rfl rfl rfl ?_
     refine vnc rfl rfl rfl ?_
     refine vfa 0 rfl rfl rfl rfl ?_
     refine dq rfl rfl rfl (ldN (vs := [_, _, _]) 3 rfl rfl rfl rfl) ?_
     refine de rfl rfl ?_
     refine cl (mpush_ok A ad cap (wtS s o.fr 1 to) s.ids to ht hN o (by show (s.row to).length ≤ 1000000; omega)) rfl PkL.p trivial ?_
     intro y _
     change ent _ _ ∧ TD _ _ _ _ _ _ _ _ _ _ (sepL [_, _, _, _, _, _])
     refine ⟨(ent_take 4 rfl (ent_nil _)), ?_⟩
     refine TD.nil (nt ?_)
     refine TC.seq ?_
     refine TC.region ?_
     refine wai rfl rfl ?_
     refine TL.nil (nt ?_)
     refine TC.ret ?_
     exact Ret.i () [_] ⟨rfl, trivial⟩ rfl trivial (ent_close (⟨(updI ad to y.1), (updI cap to y.2), mb⟩ : MRep) hN (ent_take 2 rfl (ent_take 2 rfl (ent_take 0 rfl (ent_take 0 rfl (ent_take 1 rfl (ent_nil _)))))))
  ·have hv : offS s to o = (s, 6) := if_pos (.inr hf)
   rw [hv]
   refine TC.region ?_
   refine wmp rfl rfl ?_
   refine wmi rfl rfl ?_
   refine e rfl ?_
   refine cl (mat_yes b mb s.ids.length A s.ids to ht) rfl PkL.p trivial ?_
   intro _ _
   change TL _ _ _ _ _ _ _ _ (sepL [_, _, _, _, _, _])
   refine wmt rfl rfl ?_
   refine q rfl rfl (pu (v := .pointer _) (fun _ => rfl)) ?_
   refine q rfl rfl (pu (v := .int _ _) (fun _ => rfl)) ?_
   refine wap rfl rfl ?_
   refine wai rfl rfl ?_
   refine TL.nil (nt ?_)
   refine TC.seq ?_
   refine TC.region ?_
   refine wmp rfl rfl ?_
   refine wfa 0 rfl rfl rfl ?_
   refine wld rfl rfl rfl rfl ?_
   refine e rfl ?_
   refine cl (mat_no b mb s.ids.length A s.ids o.fr hf) rfl PkL.p trivial ?_
   intro _ _
   change TL _ _ _ _ _ _ _ _ (sepL [_, _, _, _, _, _])
   refine wmt rfl rfl ?_
   refine q rfl rfl (pu (v := .pointer _) (fun _ => rfl)) ?_
   refine q rfl rfl (pu (v := .int _ _) (fun _ => rfl)) ?_
   refine wap rfl rfl ?_
   refine wai rfl rfl ?_
   refine TL.nil (nt ?_)
   refine TC.seq ?_
   refine TC.block ?_
   refine TC.seq ?_
   refine TC.region ?_
   refine wmi rfl rfl ?_
   refine q rfl rfl (neI rfl rfl) ?_
   refine wab rfl rfl ?_
   refine TL.nil (nt ?_)
   refine TC.condF rfl ?_
   refine TC.seq ?_
   refine TC.region ?_
   refine wmi rfl rfl ?_
   refine q rfl rfl (neI rfl rfl) ?_
   refine wab rfl rfl ?_
   refine TL.nil (nt ?_)
   refine TC.condT rfl ?_
   refine TC.seq ?_
   refine TC.region ?_
   refine wmi rfl rfl ?_
   refine wai rfl rfl ?_
   refine TL.nil (nt ?_)
   refine TC.ret (rb (rt ?_))
   exact Ret.i () [_] ⟨rfl, trivial⟩ rfl trivial (ent_close (⟨ad, cap, mb⟩ : MRep) hN (ent_take 0 rfl (ent_take 0 rfl (ent_take 0 rfl (ent_take 0 rfl (ent_take 1 rfl (ent_nil _)))))))
 ·have hv : offS s to o = (s, 6) := if_pos (.inl ht)
  rw [hv]
  by_cases hf : o.fr ∈ s.ids
  ·refine TC.region ?_
   refine wmp rfl rfl ?_
   refine wmi rfl rfl ?_
   refine e rfl ?_
   refine cl (mat_no b mb s.ids.length A s.ids to ht) rfl PkL.p trivial ?_
   intro _ _
   change TL _ _ _ _ _ _ _ _ (sepL [_, _, _, _, _, _])
   refine wmt rfl rfl ?_
   refine q rfl rfl (pu (v := .pointer _) (fun _ => rfl)) ?_
   refine q rfl rfl (pu (v := .int _ _) (fun _ => rfl)) ?_
   refine wap rfl rfl ?_
   refine wai rfl rfl ?_
   refine TL.nil (nt ?_)
   refine TC.seq ?_
   refine TC.region ?_
   refine wmp rfl rfl ?_
   refine wfa 0 rfl rfl rfl ?_
   refine wld rfl rfl rfl rfl ?_
   refine e rfl ?_
   refine cl (mat_yes b mb s.ids.length A s.ids o.fr hf) rfl PkL.p trivial ?_
   intro _ _
   change TL _ _ _ _ _ _ _ _ (sepL [_, _, _, _, _, _])
   refine wmt rfl rfl ?_
   refine q rfl rfl (pu (v := .pointer _) (fun _ => rfl)) ?_
   refine q rfl rfl (pu (v := .int _ _) (fun _ => rfl)) ?_
   refine wap rfl rfl ?_
   refine wai rfl rfl ?_
   refine TL.nil (nt ?_)
   refine TC.seq ?_
   refine TC.block ?_
   refine TC.seq ?_
   refine TC.region ?_
   refine wmi rfl rfl ?_
   refine q rfl rfl (neI rfl rfl) ?_
   refine wab rfl rfl ?_
   refine TL.nil (nt ?_)
   refine TC.condT rfl ?_
   refine TC.seq ?_
   refine TC.region ?_
   refine wmi rfl rfl ?_
   refine wai rfl rfl ?_
   refine TL.nil (nt ?_)
   refine TC.ret (rb (rt ?_))
   exact Ret.i () [_] ⟨rfl, trivial⟩ rfl trivial (ent_close (⟨ad, cap, mb⟩ : MRep) hN (ent_take 0 rfl (ent_take 0 rfl (ent_take 0 rfl (ent_take 0 rfl (ent_take 1 rfl (ent_nil _)))))))
  ·refine TC.region ?_
   refine wmp rfl rfl ?_
   refine wmi rfl rfl ?_
   refine e rfl ?_
   refine cl (mat_no b mb s.ids.length A s.ids to ht) rfl PkL.p trivial ?_
   intro _ _
   change TL _ _ _ _ _ _ _ _ (sepL [_, _, _, _, _, _])
   refine wmt rfl rfl ?_
   refine q rfl rfl (pu (v := .pointer _) (fun _ => rfl)) ?_
   refine q rfl rfl (pu (v := .int _ _) (fun _ => rfl)) ?_
   refine wap rfl rfl ?_
   refine wai rfl rfl ?_
   refine TL.nil (nt ?_)
   refine TC.seq ?_
   refine TC.region ?_
   refine wmp rfl rfl ?_
   refine wfa 0 rfl rfl rfl ?_
   refine wld rfl rfl rfl rfl ?_
   refine e rfl ?_
   refine cl (mat_no b mb s.ids.length A s.ids o.fr hf) rfl PkL.p trivial ?_
   intro _ _
   change TL _ _ _ _ _ _ _ _ (sepL [_, _, _, _, _, _])
   refine wmt rfl rfl ?_
   refine q rfl rfl (pu (v := .pointer _) (fun _ => rfl)) ?_
   refine q rfl rfl (pu (v := .int _ _) (fun _ => rfl)) ?_
   refine wap rfl rfl ?_
   refine wai rfl rfl ?_
   refine TL.nil (nt ?_)
   refine TC.seq ?_
   refine TC.block ?_
   refine TC.seq ?_
   refine TC.region ?_
   refine wmi rfl rfl ?_
   refine q rfl rfl (neI rfl rfl) ?_
   refine wab rfl rfl ?_
   refine TL.nil (nt ?_)
   refine TC.condT rfl ?_
   refine TC.seq ?_
   refine TC.region ?_
   refine wmi rfl rfl ?_
   refine wai rfl rfl ?_
   refine TL.nil (nt ?_)
   refine TC.ret (rb (rt ?_))
   exact Ret.i () [_] ⟨rfl, trivial⟩ rfl trivial (ent_close (⟨ad, cap, mb⟩ : MRep) hN (ent_take 0 rfl (ent_take 0 rfl (ent_take 0 rfl (ent_take 0 rfl (ent_take 1 rfl (ent_nil _)))))))
set_option maxRecDepth 4000 in
theorem mopen_ok (b : Nat) (A : Int → Nat) (s : MS) (hW : WM s) (id : Int) : FSpec Tryz.prog 55 [.pointer (some ⟨b, 0, none⟩), .int .i64 id] noRd [isMa b A s] (fun _ : Unit => .int .i64 (openS s id).2) (fun _ => True) (fun _ => [isMa b A (openS s id).1]) := by
 refine FSpec.intro (rs := [.tmp 4]) (by kernel_rfl) Tryz.func55 rfl Tryz.ntmps55 (by rfl) rfl ?_
 intro F _
 change TC _ _ _ _ _ _ _ (sepL [_, _])
 refine TC.open 0 rfl (fun x0 hx0 => ?_)
 obtain ⟨ad, cap, mb⟩ := x0
 have hN := hx0
 change TC _ _ _ _ _ _ _ (sepL [_, _, _, _, _])
 dsimp only at hN ⊢
 by_cases h : id ∈ s.ids
 ·obtain ⟨M, hM⟩ := perm_mem h
  have hne := nd_ne hN hM
  refine TC.weak (ent_openB 2 rfl hM) ?_
  refine TC.seq ?_
  refine TC.region ?_
  refine wai rfl rfl ?_
  refine TL.nil (nt ?_)
  refine TC.seq ?_
  refine TC.region ?_
  refine wmp rfl rfl ?_
  refine wmi rfl rfl ?_
  refine e rfl ?_
  refine cl (mat_yes b mb s.ids.length A s.ids id h) rfl PkL.p trivial ?_
  intro _ _
  change TL _ _ _ _ _ _ _ _ (sepL [_, _, _, _, _, _])
  refine wmt rfl rfl ?_
  refine q rfl rfl (pu (v := .pointer _) (fun _ => rfl)) ?_
  refine q rfl rfl (pu (v := .int _ _) (fun _ => rfl)) ?_
  refine wap rfl rfl ?_
  refine wai rfl rfl ?_
  refine TL.nil (nt ?_)
  refine TC.seq ?_
  refine TC.block ?_
  refine TC.seq ?_
  refine TC.region ?_
  refine wmi rfl rfl ?_
  refine q rfl rfl (neI rfl rfl) ?_
  refine wab rfl rfl ?_
  refine TL.nil (nt ?_)
  refine TC.condF rfl ?_
  refine TC.seq ?_
  refine TC.region ?_
  refine wmp rfl rfl ?_
  refine wnc rfl rfl ?_
  refine wfa 1 rfl rfl rfl ?_
  refine wld rfl rfl rfl rfl ?_
  refine q rfl rfl (neI rfl rfl) ?_
  refine wmb rfl rfl ?_
  refine TL.split 23 rfl (fun hs => ?_) (fun hs => ?_)
  ·have hs := of_decide_eq_true hs
   have hv : openS s id = (s, 12) := by rw [openS, if_neg (fun h2 => h2 h), if_pos (.inl hs)]
   rw [hv]
   refine qs rfl rfl ?_
   refine qs rfl rfl ?_
   refine qs rfl rfl ?_
   refine qs rfl rfl ?_
   refine qs rfl rfl ?_
   refine qs rfl rfl ?_
   refine qs rfl rfl ?_
   refine q rfl rfl (pkT (v := .bool _) rfl rfl) ?_
   refine wab rfl rfl ?_
   refine TL.nil (nt ?_)
   refine TC.condT rfl ?_
   refine TC.seq ?_
   refine TC.region ?_
   refine wai rfl rfl ?_
   refine TL.nil (nt ?_)
   refine TC.ret (rb (rt ?_))
   exact Ret.i () [_] ⟨rfl, trivial⟩ rfl trivial (ent_close (⟨ad, cap, mb⟩ : MRep) hN (ent_take 0 rfl (ent_take 0 rfl (ent_closeB 0 0 id rfl rfl rfl (fun _ _ => rfl) hM.symm (ent_take 0 rfl (ent_take 0 rfl (ent_nil _)))))))
  ·have hs := of_decide_eq_false hs
   refine qg rfl rfl rfl (mv (v := .pointer _) rfl) ?_
   refine qg rfl rfl rfl (nc rfl) ?_
   refine qg rfl rfl rfl (fa 0 rfl rfl) ?_
   refine qg rfl rfl rfl (fa 0 rfl rfl) ?_
   refine qg rfl rfl rfl (ld rfl rfl rfl) ?_
   refine qg rfl rfl rfl (len 26 3 rfl rfl) ?_
   refine qg rfl rfl rfl (gtr rfl rfl) ?_
   refine q rfl rfl (pkF (v := .bool _) rfl rfl) ?_
   refine wab rfl rfl ?_
   refine TL.nil (nt ?_)
   refine TC.condD rfl (fun hr => ?_) (fun hr => ?_)
   ·have hv : openS s id = (s, 12) := by rw [openS, if_neg (fun h2 => h2 h), if_pos (.inr (by omega))]
    rw [hv]
    refine TC.seq ?_
    refine TC.region ?_
    refine wai rfl rfl ?_
    refine TL.nil (nt ?_)
    refine TC.ret (rb (rt ?_))
    exact Ret.i () [_] ⟨rfl, trivial⟩ rfl trivial (ent_close (⟨ad, cap, mb⟩ : MRep) hN (ent_take 0 rfl (ent_take 0 rfl (ent_closeB 0 0 id rfl rfl rfl (fun _ _ => rfl) hM.symm (ent_take 0 rfl (ent_take 0 rfl (ent_nil _)))))))
   ·have hv : openS s id = (stS s id 2, 0) := by rw [openS, if_neg (fun h2 => h2 h), if_neg (fun h2 => h2.elim (fun h3 => hs h3) (fun h3 => hr (by omega)))]
    rw [hv]
    refine TC.skip (nb (nt ?_))
    refine TC.seq ?_
    refine TC.region ?_
    refine wmp rfl rfl ?_
    refine wnc rfl rfl ?_
    refine wfa 1 rfl rfl rfl ?_
    refine e0 ?_
    refine st (v := .int _ _) (vs := [_]) 1 rfl rfl rfl rfl rfl rfl (Nat.le_of_ble_eq_true rfl) rfl ?_
    refine TL.nil (nt ?_)
    refine TC.seq ?_
    refine TC.region ?_
    refine wai rfl rfl ?_
    refine TL.nil (nt ?_)
    refine TC.ret ?_
    exact Ret.i () [_] ⟨rfl, trivial⟩ rfl trivial (ent_close (⟨ad, cap, mb⟩ : MRep) hN (ent_take 1 rfl (ent_take 1 rfl (ent_closeB 0 0 id rfl rfl (by dsimp only [tP, frS, wtS, pushS, rowS, cutMS, clS, stS]; simp only [updI_same]; rfl) (fun y hy => by have h := hne y hy; dsimp only [tP, frS, wtS, pushS, rowS, cutMS, clS, stS]; simp only [updI_ne h]) hM.symm (ent_take 0 rfl (ent_take 0 rfl (ent_nil _)))))))
 ·have hv : openS s id = (s, 6) := if_pos h
  rw [hv]
  refine TC.seq ?_
  refine TC.region ?_
  refine wai rfl rfl ?_
  refine TL.nil (nt ?_)
  refine TC.seq ?_
  refine TC.region ?_
  refine wmp rfl rfl ?_
  refine wmi rfl rfl ?_
  refine e rfl ?_
  refine cl (mat_no b mb s.ids.length A s.ids id h) rfl PkL.p trivial ?_
  intro _ _
  change TL _ _ _ _ _ _ _ _ (sepL [_, _, _, _, _])
  refine wmt rfl rfl ?_
  refine q rfl rfl (pu (v := .pointer _) (fun _ => rfl)) ?_
  refine q rfl rfl (pu (v := .int _ _) (fun _ => rfl)) ?_
  refine wap rfl rfl ?_
  refine wai rfl rfl ?_
  refine TL.nil (nt ?_)
  refine TC.seq ?_
  refine TC.block ?_
  refine TC.seq ?_
  refine TC.region ?_
  refine wmi rfl rfl ?_
  refine q rfl rfl (neI rfl rfl) ?_
  refine wab rfl rfl ?_
  refine TL.nil (nt ?_)
  refine TC.condT rfl ?_
  refine TC.seq ?_
  refine TC.region ?_
  refine wmi rfl rfl ?_
  refine wai rfl rfl ?_
  refine TL.nil (nt ?_)
  refine TC.ret (rb (rt ?_))
  exact Ret.i () [_] ⟨rfl, trivial⟩ rfl trivial (ent_close (⟨ad, cap, mb⟩ : MRep) hN (ent_take 0 rfl (ent_take 0 rfl (ent_take 0 rfl (ent_take 0 rfl (ent_take 0 rfl (ent_nil _)))))))
set_option maxRecDepth 4000 in
set_option maxHeartbeats 2000000 in
theorem mtake_ok (b : Nat) (A : Int → Nat) (s : MS) (hW : WM s) (to : Int) : FSpec Tryz.prog 42 [.pointer (some ⟨b, 0, none⟩), .int .i64 to] noRd [isMa b A s] (fun _ : Unit => .tuple #[.agg (ofC (takeS s to).2.1).toArray, .int .i64 (takeS s to).2.2.1, .int .i64 (takeS s to).2.2.2]) (fun _ => True) (fun _ => [isMa b A (takeS s to).1]) := by
 refine FSpec.intro (rs := [.cell 4 26, .tmp 5, .tmp 6]) (by kernel_rfl) Tryz.func42 rfl Tryz.ntmps42 (by rfl) rfl ?_
 intro F _
 change TC _ _ _ _ _ _ _ (sepL [_, _])
 refine TC.seq ?_
 refine TC.region ?_
 refine e rfl ?_
 refine al (l := [.int _ _, .int _ _, .bool _]) rfl rfl ?_
 intro b3
 refine wai rfl rfl ?_
 refine wai rfl rfl ?_
 refine TL.nil (nt ?_)
 refine TC.seq ?_
 refine TC.open 1 rfl (fun x0 hx0 => ?_)
 obtain ⟨ad, cap, mb⟩ := x0
 have hN := hx0
 change TC _ _ _ _ _ _ _ (sepL [_, _, _, _, _, _])
 dsimp only at hN ⊢
 by_cases h : to ∈ s.ids
 ·have hh : ¬ (to ∉ s.ids) := fun h2 => h2 h
  haveI := tP_rd (A := A) (ad := ad) (cap := cap) (s := s) (x := to) h
  refine TC.region ?_
  refine wmp rfl rfl ?_
  refine wmi rfl rfl ?_
  refine e rfl ?_
  refine cl (mat_yes b mb s.ids.length A s.ids to h) rfl PkL.p trivial ?_
  intro _ _
  change TL _ _ _ _ _ _ _ _ (sepL [_, _, _, _, _, _])
  refine wmt rfl rfl ?_
  refine q rfl rfl (pu (v := .pointer _) (fun _ => rfl)) ?_
  refine q rfl rfl (pu (v := .int _ _) (fun _ => rfl)) ?_
  refine wap rfl rfl ?_
  refine wai rfl rfl ?_
  refine TL.nil (nt ?_)
  refine TC.seq ?_
  refine TC.block ?_
  refine TC.seq ?_
  refine TC.region ?_
  refine wmi rfl rfl ?_
  refine q rfl rfl (neI rfl rfl) ?_
  refine wab rfl rfl ?_
  refine TL.nil (nt ?_)
  refine TC.condF rfl ?_
  refine TC.seq ?_
  refine TC.region ?_
  refine wmp rfl rfl ?_
  refine wnc rfl rfl ?_
  refine wfa 1 rfl rfl rfl ?_
  refine wld rfl rfl rfl rfl ?_
  refine q rfl rfl (neI rfl rfl) ?_
  refine wmb rfl rfl ?_
  refine TL.split 30 rfl (fun hs0 => ?_) (fun hs0 => ?_)
  ·have hs0 := of_decide_eq_true hs0
   refine qg rfl rfl rfl (mv (v := .pointer _) rfl) ?_
   refine qg rfl rfl rfl (nc rfl) ?_
   refine qg rfl rfl rfl (fa 1 rfl rfl) ?_
   refine qg rfl rfl rfl (ld rfl rfl rfl) ?_
   refine qg rfl rfl rfl (neI rfl rfl) ?_
   refine q rfl rfl (pkT (v := .bool _) rfl rfl) ?_
   refine wab rfl rfl ?_
   refine TL.nil (nt ?_)
   refine TC.condD rfl (fun hs2 => ?_) (fun hs2 => ?_)
   ·have hv : takeS s to = (s, o0, 0, 12) := by rw [takeS, if_neg hh, if_pos ⟨hs0, hs2⟩]
    rw [hv]
    dsimp only
    refine TC.seq ?_
    refine TC.region ?_
    refine q rfl rfl (bld (cs := [.int _ _, .int _ _, .bool _]) rfl) ?_
    refine e0 ?_
    refine st (v := .agg #[_, _, _]) (vs := [_, _, _]) 3 rfl rfl rfl rfl rfl rfl (Nat.le_of_ble_eq_true rfl) rfl ?_
    refine wai rfl rfl ?_
    refine wai rfl rfl ?_
    refine TL.nil (nt ?_)
    refine TC.ret (rb (rt ?_))
    exact Ret.i () [_, _, _] ⟨(rcN (n := 3) rfl rfl rfl rfl), rfl, rfl, trivial⟩ rfl trivial (ent_close (⟨ad, cap, mb⟩ : MRep) hN (ent_take 1 rfl (ent_take 1 rfl (ent_take 1 rfl (ent_take 1 rfl (ent_take 1 rfl (ent_nil _)))))))
   ·have hs : ¬ (s.st to ≠ 0 ∧ s.st to ≠ 2) := (fun h2 => hs2 h2.2)
    refine TC.skip (nb (nt ?_))
    refine TC.seq ?_
    refine TC.weak (B := sepL [bigS (tP A ad cap s) s.ids, bigS (rP ad cap s) s.ids, pts b 128 [.map (some mb)], mapF encI mb (fM A s.ids) s.ids.length, pts b3 26 (ofC o0), F]) (ent_take 2 rfl (ent_take 2 rfl (ent_take 0 rfl (ent_take 0 rfl (ent_take 0 rfl (ent_take 0 rfl (ent_nil _))))))) ?_
    refine TC.region ?_
    refine wmp rfl rfl ?_
    refine wnc rfl rfl ?_
    refine wfa 0 rfl rfl rfl ?_
    refine e rfl ?_
    refine cl (mfirst_ok A ad cap s s.ids to h hN) rfl PkL.p trivial ?_
    intro _ _
    change TL _ _ _ _ _ _ _ _ (sepL [_, _, _, _, _, _])
    rcases row_cases (s.row to) with hr | ⟨o, r, hr⟩
    ·have hv : takeS s to = (s, o0, 0, 6) := by rw [takeS, if_neg hh, if_neg hs, hr]
     rw [hv, hr]
     dsimp only [hdO, hdB]
     refine wmt rfl rfl ?_
     refine q rfl rfl (pu (v := .agg #[_, _, _]) (fun _ => rfl)) ?_
     refine q rfl rfl (pu (v := .bool _) (fun _ => rfl)) ?_
     refine e rfl ?_
     refine al (l := [.int _ _, .int _ _, .bool _]) rfl rfl ?_
     intro b4
     refine e0 ?_
     refine st (v := .agg #[_, _, _]) (vs := [_, _, _]) 3 rfl rfl rfl rfl rfl rfl (Nat.le_of_ble_eq_true rfl) rfl ?_
     refine wab rfl rfl ?_
     refine TL.nil (nt ?_)
     refine TC.seq ?_
     refine TC.seq ?_
     refine TC.region ?_
     refine wmb rfl rfl ?_
     refine q rfl rfl (notB rfl) ?_
     refine TL.nil (nt ?_)
     refine TC.condT rfl ?_
     refine TC.seq ?_
     refine TC.region ?_
     refine q rfl rfl (bld (cs := [.int _ _, .int _ _, .bool _]) rfl) ?_
     refine e0 ?_
     refine st (v := .agg #[_, _, _]) (vs := [_, _, _]) 3 rfl rfl rfl rfl rfl rfl (Nat.le_of_ble_eq_true rfl) rfl ?_
     refine wai rfl rfl ?_
     refine wai rfl rfl ?_
     refine TL.nil (nt ?_)
     refine TC.ret (rt ?_)
     exact Ret.i () [_, _, _] ⟨(rcN (n := 3) rfl rfl rfl rfl), rfl, rfl, trivial⟩ rfl trivial (ent_close (⟨ad, cap, mb⟩ : MRep) hN (ent_take 4 rfl (ent_take 4 rfl (ent_take 2 rfl (ent_take 2 rfl (ent_take 2 rfl (ent_nil _)))))))
    ·obtain ⟨hf1, hf2, hf3, hf4⟩ := hW.row to h o (by rw [hr]; simp)
     have hol := ofsC_length (s.row to)
     have hrl : (s.row to).length = r.length + 1 := by rw [hr, List.length_cons]
     have hcal := hW.cal to h
     obtain ⟨M, hM⟩ := perm_mem h
     have hne := nd_ne hN hM
     rw [show hdO (s.row to) = o from by rw [hr]; rfl, show hdB (s.row to) = true from by rw [hr]; rfl]
     refine wmt rfl rfl ?_
     refine q rfl rfl (pu (v := .agg #[_, _, _]) (fun _ => rfl)) ?_
     refine q rfl rfl (pu (v := .bool _) (fun _ => rfl)) ?_
     refine e rfl ?_
     refine al (l := [.int _ _, .int _ _, .bool _]) rfl rfl ?_
     intro b5
     refine e0 ?_
     refine st (v := .agg #[_, _, _]) (vs := [_, _, _]) 3 rfl rfl rfl rfl rfl rfl (Nat.le_of_ble_eq_true rfl) rfl ?_
     refine wab rfl rfl ?_
     refine TL.nil (nt ?_)
     refine TC.seq ?_
     refine TC.seq ?_
     refine TC.region ?_
     refine wmb rfl rfl ?_
     refine q rfl rfl (notB rfl) ?_
     refine TL.nil (nt ?_)
     refine TC.condF rfl ?_
     refine TC.skip (nt ?_)
     refine TC.seq ?_
     refine TC.weak (B := sepL [bigS (tP A ad cap s) s.ids, bigS (rP ad cap s) s.ids, pts b 128 [.map (some mb)], mapF encI mb (fM A s.ids) s.ids.length, pts b3 26 (ofC o0), pts b5 26 (ofC o), F]) (ent_take 1 rfl (ent_take 1 rfl (ent_take 1 rfl (ent_take 1 rfl (ent_take 1 rfl (ent_take 0 rfl (ent_take 0 rfl (ent_nil _)))))))) ?_
     refine TC.weak (ent_openB 1 rfl hM) ?_
     refine TC.weak (ent_openB 2 rfl hM) ?_
     refine TC.region ?_
     refine wmp rfl rfl ?_
     refine wmp rfl rfl ?_
     refine wnc rfl rfl ?_
     refine wfa 0 rfl rfl rfl ?_
     refine wfa 0 rfl rfl rfl ?_
     refine wld rfl rfl rfl rfl ?_
     refine q rfl rfl (slFn 26 3 (1) rfl rfl rfl (by omega) (by omega)) ?_
     refine wnc rfl rfl ?_
     refine wfa 0 rfl rfl rfl ?_
     refine wfa 0 rfl rfl rfl ?_
     refine e0 ?_
     refine st (v := .slice _ _ _) (vs := [_]) 1 rfl rfl rfl rfl rfl rfl (Nat.le_of_ble_eq_true rfl) rfl ?_
     refine TL.nil (nt ?_)
     refine TC.seq ?_
     refine TC.weak (B := sepL [bigS (tP A (updI ad to (sliceOff (ad to) (cap to) 1 3)) (updI cap to (cap to - 1)) (rowS s to r)) s.ids, bigS (rP (updI ad to (sliceOff (ad to) (cap to) 1 3)) (updI cap to (cap to - 1)) (rowS s to r)) s.ids, pts b 128 [.map (some mb)], mapF encI mb (fM A s.ids) s.ids.length, pts b3 26 (ofC o0), pts b5 26 (ofC o), F]) (ent_closeB 0 0 to rfl rfl (by dsimp only [tP, frS, wtS, pushS, rowS, cutMS, clS, stS]; simp only [updI_same]; rw [hrl]; rfl) (fun y hy => by have h := hne y hy; dsimp only [tP, frS, wtS, pushS, rowS, cutMS, clS, stS]; simp only [updI_ne h]) hM.symm (ent_closeW 0 0 to rfl rfl (slc_from (j := 1) (by omega)) (by dsimp only [rP, frS, wtS, pushS, rowS, cutMS, clS, stS]; simp only [updI_same]; rw [hrl, hr]; rfl) (fun y hy => by have h := hne y hy; dsimp only [rP, frS, wtS, pushS, rowS, cutMS, clS, stS]; simp only [updI_ne h]) hM.symm (ent_take 0 rfl (ent_take 0 rfl (ent_take 0 rfl (ent_take 0 rfl (ent_take 0 rfl (ent_nil _)))))))) ?_
     refine TC.region ?_
     refine wmp rfl rfl ?_
     refine e rfl ?_
     refine cl (mfree_ok A (updI ad to (sliceOff (ad to) (cap to) 1 3)) (updI cap to (cap to - 1)) (rowS s to r) s.ids to h hN) rfl PkL.p trivial ?_
     intro _ _
     change TL _ _ _ _ _ _ _ _ (sepL [_, _, _, _, _, _, _])
     refine TL.nil (nt ?_)
     refine TC.seq ?_
     refine TC.draw _ [] [(0, false), (1, false), (2, false), (3, false), (4, false), (5, false), (6, false), (7, false), (8, false)] (by kernel_rfl) (by kernel_rfl) (ent.refl _) ?_
     refine vmp rfl rfl rfl ?_
     refine vnc rfl rfl rfl ?_
     refine vfa 0 rfl rfl rfl rfl ?_
     refine vld rfl rfl rfl rfl rfl ?_
     refine vfa 0 rfl rfl rfl rfl ?_
     refine vld rfl rfl rfl rfl rfl ?_
     refine dq rfl rfl rfl (luF 3 118 rfl rfl (KL.int rfl) rfl rfl) ?_
     rw [fM_yes hf1]
     refine vap rfl rfl rfl ?_
     refine vai rfl rfl rfl ?_
     refine TD.nil (nt ?_)
     refine TC.seq ?_
     refine TC.region ?_
     refine wmp rfl rfl ?_
     refine e rfl ?_
     refine cl (mfree_ok A (updI ad to (sliceOff (ad to) (cap to) 1 3)) (updI cap to (cap to - 1)) (frS (rowS s to r) to) s.ids o.fr hf1 hN) rfl PkL.p trivial ?_
     intro _ _
     change TL _ _ _ _ _ _ _ _ (sepL [_, _, _, _, _, _, _])
     by_cases hcl : o.cl = true
     ·refine TL.nil (nt ?_)
      refine TC.seq ?_
      refine TC.seq ?_
      refine TC.region ?_
      refine wfa 2 rfl rfl rfl ?_
      refine wld rfl rfl rfl rfl ?_
      refine TL.nil (nt ?_)
      rw [hcl]
      refine TC.condT rfl ?_
      haveI := tP_rd (A := A) (ad := (updI ad to (sliceOff (ad to) (cap to) 1 3))) (cap := (updI cap to (cap to - 1))) (s := (frS (frS (rowS s to r) to) o.fr)) (x := to) h
      refine TC.seq ?_
      refine TC.region ?_
      refine wmp rfl rfl ?_
      refine wnc rfl rfl ?_
      refine wfa 2 rfl rfl rfl ?_
      refine wld rfl rfl rfl rfl ?_
      refine wai rfl rfl ?_
      refine TL.nil (nt ?_)
      refine TC.seq ?_
      refine TC.seq ?_
      refine TC.region ?_
      refine wmi rfl rfl ?_
      refine q rfl rfl (neI rfl rfl) ?_
      refine TL.nil (nt ?_)
      refine TC.condD rfl (fun hel => ?_) (fun hel => ?_)
      ·have hel : s.cl to ≠ -1 := hel
       obtain ⟨hc1, hc2, hc3, hc4⟩ := hcal hel
       refine TC.region ?_
       refine wmp rfl rfl ?_
       refine wnc rfl rfl ?_
       refine wfa 0 rfl rfl rfl ?_
       refine wld rfl rfl rfl rfl ?_
       refine wmi rfl rfl ?_
       refine q rfl rfl (luF 3 118 rfl rfl (KL.int rfl) rfl rfl) ?_
       rw [show (frS (frS (rowS s to r) to) o.fr).cl to = s.cl to from rfl, fM_yes hc1]
       refine e rfl ?_
       refine cl (mfree_ok A (updI ad to (sliceOff (ad to) (cap to) 1 3)) (updI cap to (cap to - 1)) (frS (frS (rowS s to r) to) o.fr) s.ids (s.cl to) hc1 hN) rfl PkL.p trivial ?_
       intro _ _
       change TL _ _ _ _ _ _ _ _ (sepL [_, _, _, _, _, _, _])
       have hv : takeS s to = ((wtS (clS (frS (frS (frS (rowS s to r) to) o.fr) (s.cl to)) to o.fr) o.fr 3 to), o, s.cl to, 0) := by rw [takeS, if_neg hh, if_neg hs, hr]; dsimp only; rw [if_pos hcl, if_pos hel]
       rw [hv]
       dsimp only
       refine TL.nil (nt ?_)
       refine TC.seq ?_
       refine TC.weak (B := sepL [bigS (tP A (updI ad to (sliceOff (ad to) (cap to) 1 3)) (updI cap to (cap to - 1)) (frS (frS (frS (rowS s to r) to) o.fr) (s.cl to))) s.ids, bigS (rP (updI ad to (sliceOff (ad to) (cap to) 1 3)) (updI cap to (cap to - 1)) (frS (frS (frS (rowS s to r) to) o.fr) (s.cl to))) s.ids, pts b 128 [.map (some mb)], mapF encI mb (fM A s.ids) s.ids.length, pts b3 26 (ofC o0), pts b5 26 (ofC o), F]) (ent_take 0 rfl (ent_take 0 rfl (ent_take 0 rfl (ent_take 0 rfl (ent_take 0 rfl (ent_take 0 rfl (ent_take 0 rfl (ent_nil _)))))))) ?_
       refine TC.weak (ent_openB 0 rfl hM) ?_
       refine TC.region ?_
       refine wmp rfl rfl ?_
       refine wfa 0 rfl rfl rfl ?_
       refine wld rfl rfl rfl rfl ?_
       refine wnc rfl rfl ?_
       refine wfa 2 rfl rfl rfl ?_
       refine e0 ?_
       refine st (v := .int _ _) (vs := [_]) 1 rfl rfl rfl rfl rfl rfl (Nat.le_of_ble_eq_true rfl) rfl ?_
       refine TL.nil (nt ?_)
       refine TC.weak (B := sepL [bigS (tP A (updI ad to (sliceOff (ad to) (cap to) 1 3)) (updI cap to (cap to - 1)) (clS (frS (frS (frS (rowS s to r) to) o.fr) (s.cl to)) to o.fr)) s.ids, bigS (rP (updI ad to (sliceOff (ad to) (cap to) 1 3)) (updI cap to (cap to - 1)) (clS (frS (frS (frS (rowS s to r) to) o.fr) (s.cl to)) to o.fr)) s.ids, pts b 128 [.map (some mb)], mapF encI mb (fM A s.ids) s.ids.length, pts b3 26 (ofC o0), pts b5 26 (ofC o), F]) (ent_closeB 0 0 to rfl rfl (by dsimp only [tP, frS, wtS, pushS, rowS, cutMS, clS, stS]; simp only [updI_same]; rfl) (fun y hy => by have h := hne y hy; dsimp only [tP, frS, wtS, pushS, rowS, cutMS, clS, stS]; simp only [updI_ne h]) hM.symm (ent_take 0 rfl (ent_take 0 rfl (ent_take 0 rfl (ent_take 0 rfl (ent_take 0 rfl (ent_take 0 rfl (ent_nil _)))))))) ?_
       refine TC.region ?_
       refine wmp rfl rfl ?_
       refine wmi rfl rfl ?_
       refine e rfl ?_
       refine cl (mwaits_ok A (updI ad to (sliceOff (ad to) (cap to) 1 3)) (updI cap to (cap to - 1)) (clS (frS (frS (frS (rowS s to r) to) o.fr) (s.cl to)) to o.fr) s.ids o.fr hf1 hN 3 to) rfl PkL.p trivial ?_
       intro _ _
       change TL _ _ _ _ _ _ _ _ (sepL [_, _, _, _, _, _, _])
       refine TL.nil (nt ?_)
       refine TC.seq ?_
       refine TC.region ?_
       refine q rfl rfl (ldN (vs := [_, _, _]) 3 rfl rfl rfl rfl) ?_
       refine wmi rfl rfl ?_
       refine e0 ?_
       refine st (v := .agg #[_, _, _]) (vs := [_, _, _]) 3 rfl rfl rfl rfl rfl rfl (Nat.le_of_ble_eq_true rfl) rfl ?_
       refine wai rfl rfl ?_
       refine wai rfl rfl ?_
       refine TL.nil (nt ?_)
       refine TC.ret ?_
       exact Ret.i () [_, _, _] ⟨(rcN (n := 3) rfl rfl rfl rfl), rfl, rfl, trivial⟩ rfl trivial (ent_close (⟨(updI ad to (sliceOff (ad to) (cap to) 1 3)), (updI cap to (cap to - 1)), mb⟩ : MRep) hN (ent_take 3 rfl (ent_take 3 rfl (ent_take 1 rfl (ent_take 1 rfl (ent_take 2 rfl (ent_nil _)))))))
      ·have hel : ¬ s.cl to ≠ -1 := hel
       have hv : takeS s to = ((wtS (clS (frS (frS (rowS s to r) to) o.fr) to o.fr) o.fr 3 to), o, s.cl to, 0) := by rw [takeS, if_neg hh, if_neg hs, hr]; dsimp only; rw [if_pos hcl, if_neg hel]
       rw [hv]
       dsimp only
       refine TC.skip (nt ?_)
       refine TC.seq ?_
       refine TC.weak (B := sepL [bigS (tP A (updI ad to (sliceOff (ad to) (cap to) 1 3)) (updI cap to (cap to - 1)) (frS (frS (rowS s to r) to) o.fr)) s.ids, bigS (rP (updI ad to (sliceOff (ad to) (cap to) 1 3)) (updI cap to (cap to - 1)) (frS (frS (rowS s to r) to) o.fr)) s.ids, pts b 128 [.map (some mb)], mapF encI mb (fM A s.ids) s.ids.length, pts b3 26 (ofC o0), pts b5 26 (ofC o), F]) (ent_take 0 rfl (ent_take 0 rfl (ent_take 0 rfl (ent_take 0 rfl (ent_take 0 rfl (ent_take 0 rfl (ent_take 0 rfl (ent_nil _)))))))) ?_
       refine TC.weak (ent_openB 0 rfl hM) ?_
       refine TC.region ?_
       refine wmp rfl rfl ?_
       refine wfa 0 rfl rfl rfl ?_
       refine wld rfl rfl rfl rfl ?_
       refine wnc rfl rfl ?_
       refine wfa 2 rfl rfl rfl ?_
       refine e0 ?_
       refine st (v := .int _ _) (vs := [_]) 1 rfl rfl rfl rfl rfl rfl (Nat.le_of_ble_eq_true rfl) rfl ?_
       refine TL.nil (nt ?_)
       refine TC.weak (B := sepL [bigS (tP A (updI ad to (sliceOff (ad to) (cap to) 1 3)) (updI cap to (cap to - 1)) (clS (frS (frS (rowS s to r) to) o.fr) to o.fr)) s.ids, bigS (rP (updI ad to (sliceOff (ad to) (cap to) 1 3)) (updI cap to (cap to - 1)) (clS (frS (frS (rowS s to r) to) o.fr) to o.fr)) s.ids, pts b 128 [.map (some mb)], mapF encI mb (fM A s.ids) s.ids.length, pts b3 26 (ofC o0), pts b5 26 (ofC o), F]) (ent_closeB 0 0 to rfl rfl (by dsimp only [tP, frS, wtS, pushS, rowS, cutMS, clS, stS]; simp only [updI_same]; rfl) (fun y hy => by have h := hne y hy; dsimp only [tP, frS, wtS, pushS, rowS, cutMS, clS, stS]; simp only [updI_ne h]) hM.symm (ent_take 0 rfl (ent_take 0 rfl (ent_take 0 rfl (ent_take 0 rfl (ent_take 0 rfl (ent_take 0 rfl (ent_nil _)))))))) ?_
       refine TC.region ?_
       refine wmp rfl rfl ?_
       refine wmi rfl rfl ?_
       refine e rfl ?_
       refine cl (mwaits_ok A (updI ad to (sliceOff (ad to) (cap to) 1 3)) (updI cap to (cap to - 1)) (clS (frS (frS (rowS s to r) to) o.fr) to o.fr) s.ids o.fr hf1 hN 3 to) rfl PkL.p trivial ?_
       intro _ _
       change TL _ _ _ _ _ _ _ _ (sepL [_, _, _, _, _, _, _])
       refine TL.nil (nt ?_)
       refine TC.seq ?_
       refine TC.region ?_
       refine q rfl rfl (ldN (vs := [_, _, _]) 3 rfl rfl rfl rfl) ?_
       refine wmi rfl rfl ?_
       refine e0 ?_
       refine st (v := .agg #[_, _, _]) (vs := [_, _, _]) 3 rfl rfl rfl rfl rfl rfl (Nat.le_of_ble_eq_true rfl) rfl ?_
       refine wai rfl rfl ?_
       refine wai rfl rfl ?_
       refine TL.nil (nt ?_)
       refine TC.ret ?_
       exact Ret.i () [_, _, _] ⟨(rcN (n := 3) rfl rfl rfl rfl), rfl, rfl, trivial⟩ rfl trivial (ent_close (⟨(updI ad to (sliceOff (ad to) (cap to) 1 3)), (updI cap to (cap to - 1)), mb⟩ : MRep) hN (ent_take 3 rfl (ent_take 3 rfl (ent_take 1 rfl (ent_take 1 rfl (ent_take 2 rfl (ent_nil _)))))))
     ·have hcf : o.cl = false := by simpa using hcl
      have hv : takeS s to = ((frS (frS (rowS s to r) to) o.fr), o, -1, 0) := by rw [takeS, if_neg hh, if_neg hs, hr]; dsimp only; rw [if_neg hcl]
      rw [hv]
      dsimp only
      refine TL.nil (nt ?_)
      refine TC.seq ?_
      refine TC.seq ?_
      refine TC.region ?_
      refine wfa 2 rfl rfl rfl ?_
      refine wld rfl rfl rfl rfl ?_
      refine TL.nil (nt ?_)
      rw [hcf]
      refine TC.condF rfl ?_
      refine TC.skip (nt ?_)
      refine TC.seq ?_
      refine TC.region ?_
      refine q rfl rfl (ldN (vs := [_, _, _]) 3 rfl rfl rfl rfl) ?_
      refine wmi rfl rfl ?_
      refine e0 ?_
      refine st (v := .agg #[_, _, _]) (vs := [_, _, _]) 3 rfl rfl rfl rfl rfl rfl (Nat.le_of_ble_eq_true rfl) rfl ?_
      refine wai rfl rfl ?_
      refine wai rfl rfl ?_
      refine TL.nil (nt ?_)
      refine TC.ret ?_
      exact Ret.i () [_, _, _] ⟨(rcN (n := 3) rfl rfl rfl rfl), rfl, rfl, trivial⟩ rfl trivial (ent_close (⟨(updI ad to (sliceOff (ad to) (cap to) 1 3)), (updI cap to (cap to - 1)), mb⟩ : MRep) hN (ent_take 3 rfl (ent_take 3 rfl (ent_take 1 rfl (ent_take 1 rfl (ent_take 2 rfl (ent_nil _)))))))
  ·have hs0 := of_decide_eq_false hs0
   refine qs rfl rfl ?_
   refine qs rfl rfl ?_
   refine qs rfl rfl ?_
   refine qs rfl rfl ?_
   refine qs rfl rfl ?_
   refine q rfl rfl (pkF (v := .bool _) rfl rfl) ?_
   refine wab rfl rfl ?_
   refine TL.nil (nt ?_)
   refine TC.condF rfl ?_
   have hs : ¬ (s.st to ≠ 0 ∧ s.st to ≠ 2) := (fun h2 => hs0 h2.1)
   refine TC.skip (nb (nt ?_))
   refine TC.seq ?_
   refine TC.weak (B := sepL [bigS (tP A ad cap s) s.ids, bigS (rP ad cap s) s.ids, pts b 128 [.map (some mb)], mapF encI mb (fM A s.ids) s.ids.length, pts b3 26 (ofC o0), F]) (ent_take 2 rfl (ent_take 2 rfl (ent_take 0 rfl (ent_take 0 rfl (ent_take 0 rfl (ent_take 0 rfl (ent_nil _))))))) ?_
   refine TC.region ?_
   refine wmp rfl rfl ?_
   refine wnc rfl rfl ?_
   refine wfa 0 rfl rfl rfl ?_
   refine e rfl ?_
   refine cl (mfirst_ok A ad cap s s.ids to h hN) rfl PkL.p trivial ?_
   intro _ _
   change TL _ _ _ _ _ _ _ _ (sepL [_, _, _, _, _, _])
   rcases row_cases (s.row to) with hr | ⟨o, r, hr⟩
   ·have hv : takeS s to = (s, o0, 0, 6) := by rw [takeS, if_neg hh, if_neg hs, hr]
    rw [hv, hr]
    dsimp only [hdO, hdB]
    refine wmt rfl rfl ?_
    refine q rfl rfl (pu (v := .agg #[_, _, _]) (fun _ => rfl)) ?_
    refine q rfl rfl (pu (v := .bool _) (fun _ => rfl)) ?_
    refine e rfl ?_
    refine al (l := [.int _ _, .int _ _, .bool _]) rfl rfl ?_
    intro b6
    refine e0 ?_
    refine st (v := .agg #[_, _, _]) (vs := [_, _, _]) 3 rfl rfl rfl rfl rfl rfl (Nat.le_of_ble_eq_true rfl) rfl ?_
    refine wab rfl rfl ?_
    refine TL.nil (nt ?_)
    refine TC.seq ?_
    refine TC.seq ?_
    refine TC.region ?_
    refine wmb rfl rfl ?_
    refine q rfl rfl (notB rfl) ?_
    refine TL.nil (nt ?_)
    refine TC.condT rfl ?_
    refine TC.seq ?_
    refine TC.region ?_
    refine q rfl rfl (bld (cs := [.int _ _, .int _ _, .bool _]) rfl) ?_
    refine e0 ?_
    refine st (v := .agg #[_, _, _]) (vs := [_, _, _]) 3 rfl rfl rfl rfl rfl rfl (Nat.le_of_ble_eq_true rfl) rfl ?_
    refine wai rfl rfl ?_
    refine wai rfl rfl ?_
    refine TL.nil (nt ?_)
    refine TC.ret (rt ?_)
    exact Ret.i () [_, _, _] ⟨(rcN (n := 3) rfl rfl rfl rfl), rfl, rfl, trivial⟩ rfl trivial (ent_close (⟨ad, cap, mb⟩ : MRep) hN (ent_take 4 rfl (ent_take 4 rfl (ent_take 2 rfl (ent_take 2 rfl (ent_take 2 rfl (ent_nil _)))))))
   ·obtain ⟨hf1, hf2, hf3, hf4⟩ := hW.row to h o (by rw [hr]; simp)
    have hol := ofsC_length (s.row to)
    have hrl : (s.row to).length = r.length + 1 := by rw [hr, List.length_cons]
    have hcal := hW.cal to h
    obtain ⟨M, hM⟩ := perm_mem h
    have hne := nd_ne hN hM
    rw [show hdO (s.row to) = o from by rw [hr]; rfl, show hdB (s.row to) = true from by rw [hr]; rfl]
    refine wmt rfl rfl ?_
    refine q rfl rfl (pu (v := .agg #[_, _, _]) (fun _ => rfl)) ?_
    refine q rfl rfl (pu (v := .bool _) (fun _ => rfl)) ?_
    refine e rfl ?_
    refine al (l := [.int _ _, .int _ _, .bool _]) rfl rfl ?_
    intro b7
    refine e0 ?_
    refine st (v := .agg #[_, _, _]) (vs := [_, _, _]) 3 rfl rfl rfl rfl rfl rfl (Nat.le_of_ble_eq_true rfl) rfl ?_
    refine wab rfl rfl ?_
    refine TL.nil (nt ?_)
    refine TC.seq ?_
    refine TC.seq ?_
    refine TC.region ?_
    refine wmb rfl rfl ?_
    refine q rfl rfl (notB rfl) ?_
    refine TL.nil (nt ?_)
    refine TC.condF rfl ?_
    refine TC.skip (nt ?_)
    refine TC.seq ?_
    refine TC.weak (B := sepL [bigS (tP A ad cap s) s.ids, bigS (rP ad cap s) s.ids, pts b 128 [.map (some mb)], mapF encI mb (fM A s.ids) s.ids.length, pts b3 26 (ofC o0), pts b7 26 (ofC o), F]) (ent_take 1 rfl (ent_take 1 rfl (ent_take 1 rfl (ent_take 1 rfl (ent_take 1 rfl (ent_take 0 rfl (ent_take 0 rfl (ent_nil _)))))))) ?_
    refine TC.weak (ent_openB 1 rfl hM) ?_
    refine TC.weak (ent_openB 2 rfl hM) ?_
    refine TC.region ?_
    refine wmp rfl rfl ?_
    refine wmp rfl rfl ?_
    refine wnc rfl rfl ?_
    refine wfa 0 rfl rfl rfl ?_
    refine wfa 0 rfl rfl rfl ?_
    refine wld rfl rfl rfl rfl ?_
    refine q rfl rfl (slFn 26 3 (1) rfl rfl rfl (by omega) (by omega)) ?_
    refine wnc rfl rfl ?_
    refine wfa 0 rfl rfl rfl ?_
    refine wfa 0 rfl rfl rfl ?_
    refine e0 ?_
    refine st (v := .slice _ _ _) (vs := [_]) 1 rfl rfl rfl rfl rfl rfl (Nat.le_of_ble_eq_true rfl) rfl ?_
    refine TL.nil (nt ?_)
    refine TC.seq ?_
    refine TC.weak (B := sepL [bigS (tP A (updI ad to (sliceOff (ad to) (cap to) 1 3)) (updI cap to (cap to - 1)) (rowS s to r)) s.ids, bigS (rP (updI ad to (sliceOff (ad to) (cap to) 1 3)) (updI cap to (cap to - 1)) (rowS s to r)) s.ids, pts b 128 [.map (some mb)], mapF encI mb (fM A s.ids) s.ids.length, pts b3 26 (ofC o0), pts b7 26 (ofC o), F]) (ent_closeB 0 0 to rfl rfl (by dsimp only [tP, frS, wtS, pushS, rowS, cutMS, clS, stS]; simp only [updI_same]; rw [hrl]; rfl) (fun y hy => by have h := hne y hy; dsimp only [tP, frS, wtS, pushS, rowS, cutMS, clS, stS]; simp only [updI_ne h]) hM.symm (ent_closeW 0 0 to rfl rfl (slc_from (j := 1) (by omega)) (by dsimp only [rP, frS, wtS, pushS, rowS, cutMS, clS, stS]; simp only [updI_same]; rw [hrl, hr]; rfl) (fun y hy => by have h := hne y hy; dsimp only [rP, frS, wtS, pushS, rowS, cutMS, clS, stS]; simp only [updI_ne h]) hM.symm (ent_take 0 rfl (ent_take 0 rfl (ent_take 0 rfl (ent_take 0 rfl (ent_take 0 rfl (ent_nil _)))))))) ?_
    refine TC.region ?_
    refine wmp rfl rfl ?_
    refine e rfl ?_
    refine cl (mfree_ok A (updI ad to (sliceOff (ad to) (cap to) 1 3)) (updI cap to (cap to - 1)) (rowS s to r) s.ids to h hN) rfl PkL.p trivial ?_
    intro _ _
    change TL _ _ _ _ _ _ _ _ (sepL [_, _, _, _, _, _, _])
    refine TL.nil (nt ?_)
    refine TC.seq ?_
    refine TC.draw _ [] [(0, false), (1, false), (2, false), (3, false), (4, false), (5, false), (6, false), (7, false), (8, false)] (by kernel_rfl) (by kernel_rfl) (ent.refl _) ?_
    refine vmp rfl rfl rfl ?_
    refine vnc rfl rfl rfl ?_
    refine vfa 0 rfl rfl rfl rfl ?_
    refine vld rfl rfl rfl rfl rfl ?_
    refine vfa 0 rfl rfl rfl rfl ?_
    refine vld rfl rfl rfl rfl rfl ?_
    refine dq rfl rfl rfl (luF 3 118 rfl rfl (KL.int rfl) rfl rfl) ?_
    rw [fM_yes hf1]
    refine vap rfl rfl rfl ?_
    refine vai rfl rfl rfl ?_
    refine TD.nil (nt ?_)
    refine TC.seq ?_
    refine TC.region ?_
    refine wmp rfl rfl ?_
    refine e rfl ?_
    refine cl (mfree_ok A (updI ad to (sliceOff (ad to) (cap to) 1 3)) (updI cap to (cap to - 1)) (frS (rowS s to r) to) s.ids o.fr hf1 hN) rfl PkL.p trivial ?_
    intro _ _
    change TL _ _ _ _ _ _ _ _ (sepL [_, _, _, _, _, _, _])
    by_cases hcl : o.cl = true
    ·refine TL.nil (nt ?_)
     refine TC.seq ?_
     refine TC.seq ?_
     refine TC.region ?_
     refine wfa 2 rfl rfl rfl ?_
     refine wld rfl rfl rfl rfl ?_
     refine TL.nil (nt ?_)
     rw [hcl]
     refine TC.condT rfl ?_
     haveI := tP_rd (A := A) (ad := (updI ad to (sliceOff (ad to) (cap to) 1 3))) (cap := (updI cap to (cap to - 1))) (s := (frS (frS (rowS s to r) to) o.fr)) (x := to) h
     refine TC.seq ?_
     refine TC.region ?_
     refine wmp rfl rfl ?_
     refine wnc rfl rfl ?_
     refine wfa 2 rfl rfl rfl ?_
     refine wld rfl rfl rfl rfl ?_
     refine wai rfl rfl ?_
     refine TL.nil (nt ?_)
     refine TC.seq ?_
     refine TC.seq ?_
     refine TC.region ?_
     refine wmi rfl rfl ?_
     refine q rfl rfl (neI rfl rfl) ?_
     refine TL.nil (nt ?_)
     refine TC.condD rfl (fun hel => ?_) (fun hel => ?_)
     ·have hel : s.cl to ≠ -1 := hel
      obtain ⟨hc1, hc2, hc3, hc4⟩ := hcal hel
      refine TC.region ?_
      refine wmp rfl rfl ?_
      refine wnc rfl rfl ?_
      refine wfa 0 rfl rfl rfl ?_
      refine wld rfl rfl rfl rfl ?_
      refine wmi rfl rfl ?_
      refine q rfl rfl (luF 3 118 rfl rfl (KL.int rfl) rfl rfl) ?_
      rw [show (frS (frS (rowS s to r) to) o.fr).cl to = s.cl to from rfl, fM_yes hc1]
      refine e rfl ?_
      refine cl (mfree_ok A (updI ad to (sliceOff (ad to) (cap to) 1 3)) (updI cap to (cap to - 1)) (frS (frS (rowS s to r) to) o.fr) s.ids (s.cl to) hc1 hN) rfl PkL.p trivial ?_
      intro _ _
      change TL _ _ _ _ _ _ _ _ (sepL [_, _, _, _, _, _, _])
      have hv : takeS s to = ((wtS (clS (frS (frS (frS (rowS s to r) to) o.fr) (s.cl to)) to o.fr) o.fr 3 to), o, s.cl to, 0) := by rw [takeS, if_neg hh, if_neg hs, hr]; dsimp only; rw [if_pos hcl, if_pos hel]
      rw [hv]
      dsimp only
      refine TL.nil (nt ?_)
      refine TC.seq ?_
      refine TC.weak (B := sepL [bigS (tP A (updI ad to (sliceOff (ad to) (cap to) 1 3)) (updI cap to (cap to - 1)) (frS (frS (frS (rowS s to r) to) o.fr) (s.cl to))) s.ids, bigS (rP (updI ad to (sliceOff (ad to) (cap to) 1 3)) (updI cap to (cap to - 1)) (frS (frS (frS (rowS s to r) to) o.fr) (s.cl to))) s.ids, pts b 128 [.map (some mb)], mapF encI mb (fM A s.ids) s.ids.length, pts b3 26 (ofC o0), pts b7 26 (ofC o), F]) (ent_take 0 rfl (ent_take 0 rfl (ent_take 0 rfl (ent_take 0 rfl (ent_take 0 rfl (ent_take 0 rfl (ent_take 0 rfl (ent_nil _)))))))) ?_
      refine TC.weak (ent_openB 0 rfl hM) ?_
      refine TC.region ?_
      refine wmp rfl rfl ?_
      refine wfa 0 rfl rfl rfl ?_
      refine wld rfl rfl rfl rfl ?_
      refine wnc rfl rfl ?_
      refine wfa 2 rfl rfl rfl ?_
      refine e0 ?_
      refine st (v := .int _ _) (vs := [_]) 1 rfl rfl rfl rfl rfl rfl (Nat.le_of_ble_eq_true rfl) rfl ?_
      refine TL.nil (nt ?_)
      refine TC.weak (B := sepL [bigS (tP A (updI ad to (sliceOff (ad to) (cap to) 1 3)) (updI cap to (cap to - 1)) (clS (frS (frS (frS (rowS s to r) to) o.fr) (s.cl to)) to o.fr)) s.ids, bigS (rP (updI ad to (sliceOff (ad to) (cap to) 1 3)) (updI cap to (cap to - 1)) (clS (frS (frS (frS (rowS s to r) to) o.fr) (s.cl to)) to o.fr)) s.ids, pts b 128 [.map (some mb)], mapF encI mb (fM A s.ids) s.ids.length, pts b3 26 (ofC o0), pts b7 26 (ofC o), F]) (ent_closeB 0 0 to rfl rfl (by dsimp only [tP, frS, wtS, pushS, rowS, cutMS, clS, stS]; simp only [updI_same]; rfl) (fun y hy => by have h := hne y hy; dsimp only [tP, frS, wtS, pushS, rowS, cutMS, clS, stS]; simp only [updI_ne h]) hM.symm (ent_take 0 rfl (ent_take 0 rfl (ent_take 0 rfl (ent_take 0 rfl (ent_take 0 rfl (ent_take 0 rfl (ent_nil _)))))))) ?_
      refine TC.region ?_
      refine wmp rfl rfl ?_
      refine wmi rfl rfl ?_
      refine e rfl ?_
      refine cl (mwaits_ok A (updI ad to (sliceOff (ad to) (cap to) 1 3)) (updI cap to (cap to - 1)) (clS (frS (frS (frS (rowS s to r) to) o.fr) (s.cl to)) to o.fr) s.ids o.fr hf1 hN 3 to) rfl PkL.p trivial ?_
      intro _ _
      change TL _ _ _ _ _ _ _ _ (sepL [_, _, _, _, _, _, _])
      refine TL.nil (nt ?_)
      refine TC.seq ?_
      refine TC.region ?_
      refine q rfl rfl (ldN (vs := [_, _, _]) 3 rfl rfl rfl rfl) ?_
      refine wmi rfl rfl ?_
      refine e0 ?_
      refine st (v := .agg #[_, _, _]) (vs := [_, _, _]) 3 rfl rfl rfl rfl rfl rfl (Nat.le_of_ble_eq_true rfl) rfl ?_
      refine wai rfl rfl ?_
      refine wai rfl rfl ?_
      refine TL.nil (nt ?_)
      refine TC.ret ?_
      exact Ret.i () [_, _, _] ⟨(rcN (n := 3) rfl rfl rfl rfl), rfl, rfl, trivial⟩ rfl trivial (ent_close (⟨(updI ad to (sliceOff (ad to) (cap to) 1 3)), (updI cap to (cap to - 1)), mb⟩ : MRep) hN (ent_take 3 rfl (ent_take 3 rfl (ent_take 1 rfl (ent_take 1 rfl (ent_take 2 rfl (ent_nil _)))))))
     ·have hel : ¬ s.cl to ≠ -1 := hel
      have hv : takeS s to = ((wtS (clS (frS (frS (rowS s to r) to) o.fr) to o.fr) o.fr 3 to), o, s.cl to, 0) := by rw [takeS, if_neg hh, if_neg hs, hr]; dsimp only; rw [if_pos hcl, if_neg hel]
      rw [hv]
      dsimp only
      refine TC.skip (nt ?_)
      refine TC.seq ?_
      refine TC.weak (B := sepL [bigS (tP A (updI ad to (sliceOff (ad to) (cap to) 1 3)) (updI cap to (cap to - 1)) (frS (frS (rowS s to r) to) o.fr)) s.ids, bigS (rP (updI ad to (sliceOff (ad to) (cap to) 1 3)) (updI cap to (cap to - 1)) (frS (frS (rowS s to r) to) o.fr)) s.ids, pts b 128 [.map (some mb)], mapF encI mb (fM A s.ids) s.ids.length, pts b3 26 (ofC o0), pts b7 26 (ofC o), F]) (ent_take 0 rfl (ent_take 0 rfl (ent_take 0 rfl (ent_take 0 rfl (ent_take 0 rfl (ent_take 0 rfl (ent_take 0 rfl (ent_nil _)))))))) ?_
      refine TC.weak (ent_openB 0 rfl hM) ?_
      refine TC.region ?_
      refine wmp rfl rfl ?_
      refine wfa 0 rfl rfl rfl ?_
      refine wld rfl rfl rfl rfl ?_
      refine wnc rfl rfl ?_
      refine wfa 2 rfl rfl rfl ?_
      refine e0 ?_
      refine st (v := .int _ _) (vs := [_]) 1 rfl rfl rfl rfl rfl rfl (Nat.le_of_ble_eq_true rfl) rfl ?_
      refine TL.nil (nt ?_)
      refine TC.weak (B := sepL [bigS (tP A (updI ad to (sliceOff (ad to) (cap to) 1 3)) (updI cap to (cap to - 1)) (clS (frS (frS (rowS s to r) to) o.fr) to o.fr)) s.ids, bigS (rP (updI ad to (sliceOff (ad to) (cap to) 1 3)) (updI cap to (cap to - 1)) (clS (frS (frS (rowS s to r) to) o.fr) to o.fr)) s.ids, pts b 128 [.map (some mb)], mapF encI mb (fM A s.ids) s.ids.length, pts b3 26 (ofC o0), pts b7 26 (ofC o), F]) (ent_closeB 0 0 to rfl rfl (by dsimp only [tP, frS, wtS, pushS, rowS, cutMS, clS, stS]; simp only [updI_same]; rfl) (fun y hy => by have h := hne y hy; dsimp only [tP, frS, wtS, pushS, rowS, cutMS, clS, stS]; simp only [updI_ne h]) hM.symm (ent_take 0 rfl (ent_take 0 rfl (ent_take 0 rfl (ent_take 0 rfl (ent_take 0 rfl (ent_take 0 rfl (ent_nil _)))))))) ?_
      refine TC.region ?_
      refine wmp rfl rfl ?_
      refine wmi rfl rfl ?_
      refine e rfl ?_
      refine cl (mwaits_ok A (updI ad to (sliceOff (ad to) (cap to) 1 3)) (updI cap to (cap to - 1)) (clS (frS (frS (rowS s to r) to) o.fr) to o.fr) s.ids o.fr hf1 hN 3 to) rfl PkL.p trivial ?_
      intro _ _
      change TL _ _ _ _ _ _ _ _ (sepL [_, _, _, _, _, _, _])
      refine TL.nil (nt ?_)
      refine TC.seq ?_
      refine TC.region ?_
      refine q rfl rfl (ldN (vs := [_, _, _]) 3 rfl rfl rfl rfl) ?_
      refine wmi rfl rfl ?_
      refine e0 ?_
      refine st (v := .agg #[_, _, _]) (vs := [_, _, _]) 3 rfl rfl rfl rfl rfl rfl (Nat.le_of_ble_eq_true rfl) rfl ?_
      refine wai rfl rfl ?_
      refine wai rfl rfl ?_
      refine TL.nil (nt ?_)
      refine TC.ret ?_
      exact Ret.i () [_, _, _] ⟨(rcN (n := 3) rfl rfl rfl rfl), rfl, rfl, trivial⟩ rfl trivial (ent_close (⟨(updI ad to (sliceOff (ad to) (cap to) 1 3)), (updI cap to (cap to - 1)), mb⟩ : MRep) hN (ent_take 3 rfl (ent_take 3 rfl (ent_take 1 rfl (ent_take 1 rfl (ent_take 2 rfl (ent_nil _)))))))
    ·have hcf : o.cl = false := by simpa using hcl
     have hv : takeS s to = ((frS (frS (rowS s to r) to) o.fr), o, -1, 0) := by rw [takeS, if_neg hh, if_neg hs, hr]; dsimp only; rw [if_neg hcl]
     rw [hv]
     dsimp only
     refine TL.nil (nt ?_)
     refine TC.seq ?_
     refine TC.seq ?_
     refine TC.region ?_
     refine wfa 2 rfl rfl rfl ?_
     refine wld rfl rfl rfl rfl ?_
     refine TL.nil (nt ?_)
     rw [hcf]
     refine TC.condF rfl ?_
     refine TC.skip (nt ?_)
     refine TC.seq ?_
     refine TC.region ?_
     refine q rfl rfl (ldN (vs := [_, _, _]) 3 rfl rfl rfl rfl) ?_
     refine wmi rfl rfl ?_
     refine e0 ?_
     refine st (v := .agg #[_, _, _]) (vs := [_, _, _]) 3 rfl rfl rfl rfl rfl rfl (Nat.le_of_ble_eq_true rfl) rfl ?_
     refine wai rfl rfl ?_
     refine wai rfl rfl ?_
     refine TL.nil (nt ?_)
     refine TC.ret ?_
     exact Ret.i () [_, _, _] ⟨(rcN (n := 3) rfl rfl rfl rfl), rfl, rfl, trivial⟩ rfl trivial (ent_close (⟨(updI ad to (sliceOff (ad to) (cap to) 1 3)), (updI cap to (cap to - 1)), mb⟩ : MRep) hN (ent_take 3 rfl (ent_take 3 rfl (ent_take 1 rfl (ent_take 1 rfl (ent_take 2 rfl (ent_nil _)))))))
 ·have hv : takeS s to = (s, o0, 0, 6) := if_pos h
  rw [hv]
  dsimp only
  refine TC.region ?_
  refine wmp rfl rfl ?_
  refine wmi rfl rfl ?_
  refine e rfl ?_
  refine cl (mat_no b mb s.ids.length A s.ids to h) rfl PkL.p trivial ?_
  intro _ _
  change TL _ _ _ _ _ _ _ _ (sepL [_, _, _, _, _, _])
  refine wmt rfl rfl ?_
  refine q rfl rfl (pu (v := .pointer _) (fun _ => rfl)) ?_
  refine q rfl rfl (pu (v := .int _ _) (fun _ => rfl)) ?_
  refine wap rfl rfl ?_
  refine wai rfl rfl ?_
  refine TL.nil (nt ?_)
  refine TC.seq ?_
  refine TC.block ?_
  refine TC.seq ?_
  refine TC.region ?_
  refine wmi rfl rfl ?_
  refine q rfl rfl (neI rfl rfl) ?_
  refine wab rfl rfl ?_
  refine TL.nil (nt ?_)
  refine TC.condT rfl ?_
  refine TC.seq ?_
  refine TC.region ?_
  refine q rfl rfl (bld (cs := [.int _ _, .int _ _, .bool _]) rfl) ?_
  refine wmi rfl rfl ?_
  refine e0 ?_
  refine st (v := .agg #[_, _, _]) (vs := [_, _, _]) 3 rfl rfl rfl rfl rfl rfl (Nat.le_of_ble_eq_true rfl) rfl ?_
  refine wai rfl rfl ?_
  refine wai rfl rfl ?_
  refine TL.nil (nt ?_)
  refine TC.ret (rb (rt ?_))
  exact Ret.i () [_, _, _] ⟨(rcN (n := 3) rfl rfl rfl rfl), rfl, rfl, trivial⟩ rfl trivial (ent_close (⟨ad, cap, mb⟩ : MRep) hN (ent_take 1 rfl (ent_take 1 rfl (ent_take 1 rfl (ent_take 1 rfl (ent_take 1 rfl (ent_nil _)))))))
end Go.Proofs.YtdfmfhcjnjfjbaaGreat
namespace Go.Proofs.YtdfmfhcjnjfjbaaGreat
open Go Go.QM
set_option maxRecDepth 4000 in
set_option maxHeartbeats 1000000 in
theorem manswer_ok (b : Nat) (A : Int → Nat) (s : MS) (hW : WM s) (id : Int) : FSpec Tryz.prog 46 [.pointer (some ⟨b, 0, none⟩), .int .i64 id] noRd [isMa b A s] (fun _ : Unit => .tuple #[.int .i64 (ansS s id).2.1, .int .i64 (ansS s id).2.2]) (fun _ => True) (fun _ => [isMa b A (ansS s id).1]) := by
 refine FSpec.intro (rs := [.tmp 4, .tmp 5]) (by kernel_rfl) Tryz.func46 rfl Tryz.ntmps46 (by rfl) rfl ?_
 intro F _
 change TC _ _ _ _ _ _ _ (sepL [_, _])
 refine TC.open 0 rfl (fun x0 hx0 => ?_)
 obtain ⟨ad, cap, mb⟩ := x0
 have hN := hx0
 change TC _ _ _ _ _ _ _ (sepL [_, _, _, _, _])
 dsimp only at hN ⊢
 by_cases h : id ∈ s.ids
 ·have hh : ¬ (id ∉ s.ids) := fun h2 => h2 h
  haveI := tP_rd (A := A) (ad := ad) (cap := cap) (s := s) (x := id) h
  refine TC.seq ?_
  refine TC.region ?_
  refine wai rfl rfl ?_
  refine wai rfl rfl ?_
  refine TL.nil (nt ?_)
  refine TC.seq ?_
  refine TC.region ?_
  refine wmp rfl rfl ?_
  refine wmi rfl rfl ?_
  refine e rfl ?_
  refine cl (mat_yes b mb s.ids.length A s.ids id h) rfl PkL.p trivial ?_
  intro _ _
  change TL _ _ _ _ _ _ _ _ (sepL [_, _, _, _, _])
  refine wmt rfl rfl ?_
  refine q rfl rfl (pu (v := .pointer _) (fun _ => rfl)) ?_
  refine q rfl rfl (pu (v := .int _ _) (fun _ => rfl)) ?_
  refine wap rfl rfl ?_
  refine wai rfl rfl ?_
  refine TL.nil (nt ?_)
  refine TC.seq ?_
  refine TC.block ?_
  refine TC.seq ?_
  refine TC.region ?_
  refine wmi rfl rfl ?_
  refine q rfl rfl (neI rfl rfl) ?_
  refine wab rfl rfl ?_
  refine TL.nil (nt ?_)
  refine TC.condF rfl ?_
  refine TC.seq ?_
  refine TC.region ?_
  refine wmp rfl rfl ?_
  refine wnc rfl rfl ?_
  refine wfa 1 rfl rfl rfl ?_
  refine wld rfl rfl rfl rfl ?_
  refine q rfl rfl (neI rfl rfl) ?_
  refine wab rfl rfl ?_
  refine TL.nil (nt ?_)
  refine TC.condD rfl (fun hs => ?_) (fun hs => ?_)
  ·have hv : ansS s id = (s, 0, 12) := by rw [ansS, if_neg hh, if_pos hs]
   rw [hv]
   dsimp only
   refine TC.seq ?_
   refine TC.region ?_
   refine wai rfl rfl ?_
   refine wai rfl rfl ?_
   refine TL.nil (nt ?_)
   refine TC.ret (rb (rt ?_))
   exact Ret.i () [_, _] ⟨rfl, rfl, trivial⟩ rfl trivial (ent_close (⟨ad, cap, mb⟩ : MRep) hN (ent_take 0 rfl (ent_take 0 rfl (ent_take 0 rfl (ent_take 0 rfl (ent_take 0 rfl (ent_nil _)))))))
  ·refine TC.seq ?_
   refine TC.region ?_
   refine wmp rfl rfl ?_
   refine wnc rfl rfl ?_
   refine wfa 2 rfl rfl rfl ?_
   refine wld rfl rfl rfl rfl ?_
   refine q rfl rfl (eqI rfl rfl) ?_
   refine wab rfl rfl ?_
   refine TL.nil (nt ?_)
   refine TC.condD rfl (fun hc => ?_) (fun hc => ?_)
   ·have hv : ansS s id = (s, 0, 6) := by rw [ansS, if_neg hh, if_neg hs, if_pos hc]
    rw [hv]
    dsimp only
    refine TC.seq ?_
    refine TC.region ?_
    refine wai rfl rfl ?_
    refine wai rfl rfl ?_
    refine TL.nil (nt ?_)
    refine TC.ret (rb (rt ?_))
    exact Ret.i () [_, _] ⟨rfl, rfl, trivial⟩ rfl trivial (ent_close (⟨ad, cap, mb⟩ : MRep) hN (ent_take 0 rfl (ent_take 0 rfl (ent_take 0 rfl (ent_take 0 rfl (ent_take 0 rfl (ent_nil _)))))))
   ·have hv : ansS s id = (frS (clS s id (-1)) (s.cl id), s.cl id, 0) := by rw [ansS, if_neg hh, if_neg hs, if_neg hc]
    rw [hv]
    dsimp only
    obtain ⟨hc1, hc2, hc3, hc4⟩ := hW.cal id h hc
    obtain ⟨M, hM⟩ := perm_mem h
    have hne := nd_ne hN hM
    refine TC.skip (nb (nt ?_))
    refine TC.seq ?_
    refine TC.region ?_
    refine wmp rfl rfl ?_
    refine wnc rfl rfl ?_
    refine wfa 2 rfl rfl rfl ?_
    refine wld rfl rfl rfl rfl ?_
    refine wai rfl rfl ?_
    refine TL.nil (nt ?_)
    refine TC.seq ?_
    refine TC.weak (B := sepL [bigS (tP A ad cap s) s.ids, bigS (rP ad cap s) s.ids, pts b 128 [.map (some mb)], mapF encI mb (fM A s.ids) s.ids.length, F]) (ent_take 2 rfl (ent_take 2 rfl (ent_take 0 rfl (ent_take 0 rfl (ent_take 0 rfl (ent_nil _)))))) ?_
    refine TC.weak (ent_openB 0 rfl hM) ?_
    refine TC.region ?_
    refine wmp rfl rfl ?_
    refine wnc rfl rfl ?_
    refine wfa 2 rfl rfl rfl ?_
    refine e0 ?_
    refine st (v := .int _ _) (vs := [_]) 1 rfl rfl rfl rfl rfl rfl (Nat.le_of_ble_eq_true rfl) rfl ?_
    refine TL.nil (nt ?_)
    refine TC.seq ?_
    refine TC.weak (B := sepL [bigS (tP A ad cap (clS s id (-1))) s.ids, bigS (rP ad cap (clS s id (-1))) s.ids, pts b 128 [.map (some mb)], mapF encI mb (fM A s.ids) s.ids.length, F]) (ent_closeB 0 0 id rfl rfl (by dsimp only [tP, frS, wtS, pushS, rowS, cutMS, clS, stS]; simp only [updI_same]; rfl) (fun y hy => by have h := hne y hy; dsimp only [tP, frS, wtS, pushS, rowS, cutMS, clS, stS]; simp only [updI_ne h]) hM.symm (ent_take 0 rfl (ent_take 0 rfl (ent_take 0 rfl (ent_take 0 rfl (ent_nil _)))))) ?_
    refine TC.region ?_
    refine wmp rfl rfl ?_
    refine wnc rfl rfl ?_
    refine wfa 0 rfl rfl rfl ?_
    refine wld rfl rfl rfl rfl ?_
    refine wmi rfl rfl ?_
    refine q rfl rfl (luF 3 118 rfl rfl (KL.int rfl) rfl rfl) ?_
    rw [fM_yes hc1]
    refine e rfl ?_
    refine cl (mfree_ok A ad cap (clS s id (-1)) s.ids (s.cl id) hc1 hN) rfl PkL.p trivial ?_
    intro _ _
    change TL _ _ _ _ _ _ _ _ (sepL [_, _, _, _, _])
    refine TL.nil (nt ?_)
    refine TC.seq ?_
    refine TC.region ?_
    refine wmi rfl rfl ?_
    refine wai rfl rfl ?_
    refine wai rfl rfl ?_
    refine TL.nil (nt ?_)
    refine TC.ret ?_
    exact Ret.i () [_, _] ⟨rfl, rfl, trivial⟩ rfl trivial (ent_close (⟨ad, cap, mb⟩ : MRep) hN (ent_take 2 rfl (ent_take 2 rfl (ent_take 0 rfl (ent_take 0 rfl (ent_take 0 rfl (ent_nil _)))))))
 ·have hv : ansS s id = (s, 0, 6) := if_pos h
  rw [hv]
  dsimp only
  refine TC.seq ?_
  refine TC.region ?_
  refine wai rfl rfl ?_
  refine wai rfl rfl ?_
  refine TL.nil (nt ?_)
  refine TC.seq ?_
  refine TC.region ?_
  refine wmp rfl rfl ?_
  refine wmi rfl rfl ?_
  refine e rfl ?_
  refine cl (mat_no b mb s.ids.length A s.ids id h) rfl PkL.p trivial ?_
  intro _ _
  change TL _ _ _ _ _ _ _ _ (sepL [_, _, _, _, _])
  refine wmt rfl rfl ?_
  refine q rfl rfl (pu (v := .pointer _) (fun _ => rfl)) ?_
  refine q rfl rfl (pu (v := .int _ _) (fun _ => rfl)) ?_
  refine wap rfl rfl ?_
  refine wai rfl rfl ?_
  refine TL.nil (nt ?_)
  refine TC.seq ?_
  refine TC.block ?_
  refine TC.seq ?_
  refine TC.region ?_
  refine wmi rfl rfl ?_
  refine q rfl rfl (neI rfl rfl) ?_
  refine wab rfl rfl ?_
  refine TL.nil (nt ?_)
  refine TC.condT rfl ?_
  refine TC.seq ?_
  refine TC.region ?_
  refine wmi rfl rfl ?_
  refine wai rfl rfl ?_
  refine wai rfl rfl ?_
  refine TL.nil (nt ?_)
  refine TC.ret (rb (rt ?_))
  exact Ret.i () [_, _] ⟨rfl, rfl, trivial⟩ rfl trivial (ent_close (⟨ad, cap, mb⟩ : MRep) hN (ent_take 0 rfl (ent_take 0 rfl (ent_take 0 rfl (ent_take 0 rfl (ent_take 0 rfl (ent_nil _)))))))
set_option maxRecDepth 4000 in
theorem mcall1_ok (b : Nat) (id : Int) (o : Off) : FSpec Tryz.prog 92 [.agg (ofC o).toArray, .pointer (some ⟨b, 0, none⟩)] (fun F => Rd F b (.cells #[Value.int .i64 id] 3 (0, 0))) [] (fun _ : Unit => .bool (decide (o.fr = id))) (fun _ => True) (fun _ => []) := by
 refine FSpec.intro (rs := [.tmp 3]) (by kernel_rfl) Tryz.func92 rfl Tryz.ntmps92 (by rfl) rfl ?_
 intro F hF
 change TC _ _ _ _ _ _ _ (sepL [_])
 haveI : RdI F b (.cells #[Value.int .i64 id] 3 (0, 0)) := ⟨hF⟩
 refine TC.seq ?_
 refine TC.region ?_
 refine e rfl ?_
 refine bx (v := .agg #[_, _, _]) (l := [.int _ _, .int _ _, .bool _]) rfl rfl ?_
 intro b1
 refine wab rfl rfl ?_
 refine TL.nil (nt ?_)
 refine TC.seq ?_
 refine TC.region ?_
 refine wfa 0 rfl rfl rfl ?_
 refine wld rfl rfl rfl rfl ?_
 refine wld rfl rfl rfl rfl ?_
 refine q rfl rfl (eqI rfl rfl) ?_
 refine wab rfl rfl ?_
 refine TL.nil (nt ?_)
 refine TC.ret ?_
 exact Ret.i () [_] ⟨rfl, trivial⟩ rfl trivial (ent_take 1 rfl (ent_nil _))
set_option maxRecDepth 4000 in
set_option maxHeartbeats 1000000 in
theorem mcall_ok (b : Nat) (A : Int → Nat) (s : MS) (hW : WM s) (id : Int) (hl : s.ids.length ≤ 1000000) : FSpec Tryz.prog 45 [.pointer (some ⟨b, 0, none⟩), .int .i64 id] noRd [isMa b A s] (fun _ : Unit => .int .i64 (callS s id).2) (fun _ => True) (fun _ => [isMa b A (callS s id).1]) := by
 refine FSpec.intro (rs := [.tmp 4]) (by kernel_rfl) Tryz.func45 rfl Tryz.ntmps45 (by rfl) rfl ?_
 intro F _
 change TC _ _ _ _ _ _ _ (sepL [_, _])
 refine TC.seq ?_
 refine TC.region ?_
 refine e rfl ?_
 refine bx (v := .int _ _) (l := [.int _ _]) rfl rfl ?_
 intro b2
 refine wai rfl rfl ?_
 refine TL.nil (nt ?_)
 refine TC.seq ?_
 refine TC.open 1 rfl (fun x0 hx0 => ?_)
 obtain ⟨ad, cap, mb⟩ := x0
 have hN := hx0
 change TC _ _ _ _ _ _ _ (sepL [_, _, _, _, _, _])
 dsimp only at hN ⊢
 by_cases h : id ∈ s.ids
 ·have hh : ¬ (id ∉ s.ids) := fun h2 => h2 h
  haveI := tP_rd (A := A) (ad := ad) (cap := cap) (s := s) (x := id) h
  refine TC.region ?_
  refine wmp rfl rfl ?_
  refine wld rfl rfl rfl rfl ?_
  refine e rfl ?_
  refine cl (mat_yes b mb s.ids.length A s.ids id h) rfl PkL.p trivial ?_
  intro _ _
  change TL _ _ _ _ _ _ _ _ (sepL [_, _, _, _, _, _])
  refine wmt rfl rfl ?_
  refine q rfl rfl (pu (v := .pointer _) (fun _ => rfl)) ?_
  refine q rfl rfl (pu (v := .int _ _) (fun _ => rfl)) ?_
  refine wap rfl rfl ?_
  refine wai rfl rfl ?_
  refine TL.nil (nt ?_)
  refine TC.seq ?_
  refine TC.seq ?_
  refine TC.region ?_
  refine wmi rfl rfl ?_
  refine q rfl rfl (neI rfl rfl) ?_
  refine TL.nil (nt ?_)
  refine TC.condF rfl ?_
  refine TC.skip (nt ?_)
  refine TC.seq ?_
  refine TC.seq ?_
  refine TC.region ?_
  refine wmp rfl rfl ?_
  refine wnc rfl rfl ?_
  refine wfa 1 rfl rfl rfl ?_
  refine wld rfl rfl rfl rfl ?_
  refine TL.nil (nt ?_)
  refine TC.block ?_
  refine TC.seq ?_
  refine TC.region ?_
  refine q rfl rfl (eqI rfl rfl) ?_
  refine wab rfl rfl ?_
  refine TL.nil (nt ?_)
  refine TC.condD rfl (fun hs0 => ?_) (fun hs0 => ?_)
  ·have hv : callS s id = (s, 12) := by rw [callS, if_neg hh, if_pos hs0]
   rw [hv]
   refine TC.seq ?_
   refine TC.region ?_
   refine wai rfl rfl ?_
   refine TL.nil (nt ?_)
   refine TC.ret (rb (rt ?_))
   exact Ret.i () [_] ⟨rfl, trivial⟩ rfl trivial (ent_close (⟨ad, cap, mb⟩ : MRep) hN (ent_take 0 rfl (ent_take 0 rfl (ent_take 0 rfl (ent_take 0 rfl (ent_take 1 rfl (ent_nil _)))))))
  ·refine TC.seq ?_
   refine TC.region ?_
   refine q rfl rfl (eqI rfl rfl) ?_
   refine wab rfl rfl ?_
   refine TL.nil (nt ?_)
   refine TC.condD rfl (fun hs1 => ?_) (fun hs1 => ?_)
   ·have hv : callS s id = (frS (cutMS s (s.pn id) fun o => decide (o.fr = id)) id, 0) := by rw [callS, if_neg hh, if_neg hs0, if_pos hs1]
    rw [hv]
    dsimp only
    obtain ⟨hp, _⟩ := hW.snd id h hs1
    have hrl := rowlen hW hp
    refine TC.weak (B := sepL [bigS (tP A ad cap s) s.ids, bigS (rP ad cap s) s.ids, pts b 128 [.map (some mb)], mapF encI mb (fM A s.ids) s.ids.length, pts b2 3 [.int .i64 id], F]) (ent_take 2 rfl (ent_take 2 rfl (ent_take 0 rfl (ent_take 0 rfl (ent_take 0 rfl (ent_take 0 rfl (ent_nil _))))))) ?_
    refine TC.draw _ [12] [(0, false), (1, false), (2, false), (3, false), (4, false), (5, false), (6, false), (7, false), (8, false), (9, false), (10, false), (11, false), (12, true)] (by kernel_rfl) (by kernel_rfl) (ent.refl _) ?_
    refine vmp rfl rfl rfl ?_
    refine vnc rfl rfl rfl ?_
    refine vfa 0 rfl rfl rfl rfl ?_
    refine vld rfl rfl rfl rfl rfl ?_
    refine vmp rfl rfl rfl ?_
    refine vnc rfl rfl rfl ?_
    refine vfa 3 rfl rfl rfl rfl ?_
    refine vld rfl rfl rfl rfl rfl ?_
    refine dq rfl rfl rfl (luF 3 118 rfl rfl (KL.int rfl) rfl rfl) ?_
    rw [fM_yes hp]
    refine vnc rfl rfl rfl ?_
    refine vfa 0 rfl rfl rfl rfl ?_
    refine dq rfl rfl rfl (mkf (vf := []) (vc := [.pointer _]) rfl rfl) ?_
    refine dl rfl rfl rfl rfl ?_
    refine cl (mcut_ok A ad cap s s.ids (s.pn id) hp hN 92 [.pointer (some ⟨b2, 0, none⟩)] (fun o => decide (o.fr = id)) (fun F => Rd F b2 (.cells #[Value.int .i64 id] 3 (0, 0))) (mcall1_ok b2 id) (fun Bs _ h => Rd_end h Bs) (by omega)) rfl PkL.p RdI.rd ?_
    intro y _
    change TD _ _ _ _ _ _ _ _ _ _ (sepL [_, _, _, _, _, _, _])
    refine TD.nil (nb (nt ?_))
    refine TC.seq ?_
    refine TC.region ?_
    refine wmp rfl rfl ?_
    refine e rfl ?_
    refine cl (mfree_ok A (updI ad (s.pn id) y.2.1) (updI cap (s.pn id) y.2.2) (cutMS s (s.pn id) fun o => decide (o.fr = id)) s.ids id h hN) rfl PkL.p trivial ?_
    intro _ _
    change TL _ _ _ _ _ _ _ _ (sepL [_, _, _, _, _, _, _])
    refine TL.nil (nt ?_)
    refine TC.seq ?_
    refine TC.region ?_
    refine wai rfl rfl ?_
    refine TL.nil (nt ?_)
    refine TC.ret ?_
    exact Ret.i () [_] ⟨rfl, trivial⟩ rfl trivial (ent_close (⟨(updI ad (s.pn id) y.2.1), (updI cap (s.pn id) y.2.2), mb⟩ : MRep) hN (ent_take 3 rfl (ent_take 3 rfl (ent_take 0 rfl (ent_take 1 rfl (ent_take 2 rfl (ent_nil _)))))))
   ·refine TC.seq ?_
    refine TC.region ?_
    refine q rfl rfl (eqI rfl rfl) ?_
    refine wab rfl rfl ?_
    refine TL.nil (nt ?_)
    refine TC.condD rfl (fun hs3 => ?_) (fun hs3 => ?_)
    ·have hv : callS s id = (frS (clS s (s.pn id) (-1)) id, 0) := by rw [callS, if_neg hh, if_neg hs0, if_neg hs1, if_pos hs3]
     rw [hv]
     dsimp only
     obtain ⟨hp, _⟩ := hW.ask id h hs3
     obtain ⟨M, hM⟩ := perm_mem hp
     have hne := nd_ne hN hM
     refine TC.weak (B := sepL [bigS (tP A ad cap s) s.ids, bigS (rP ad cap s) s.ids, pts b 128 [.map (some mb)], mapF encI mb (fM A s.ids) s.ids.length, pts b2 3 [.int .i64 id], F]) (ent_take 2 rfl (ent_take 2 rfl (ent_take 0 rfl (ent_take 0 rfl (ent_take 0 rfl (ent_take 0 rfl (ent_nil _))))))) ?_
     refine TC.draw _ [11] [(0, false), (1, false), (2, false), (3, false), (4, false), (5, false), (6, false), (7, false), (8, false), (9, false), (10, false), (11, true)] (by kernel_rfl) (by kernel_rfl) (ent.refl _) ?_
     refine vmp rfl rfl rfl ?_
     refine vnc rfl rfl rfl ?_
     refine vfa 0 rfl rfl rfl rfl ?_
     refine vld rfl rfl rfl rfl rfl ?_
     refine vmp rfl rfl rfl ?_
     refine vnc rfl rfl rfl ?_
     refine vfa 3 rfl rfl rfl rfl ?_
     refine vld rfl rfl rfl rfl rfl ?_
     refine dq rfl rfl rfl (luF 3 118 rfl rfl (KL.int rfl) rfl rfl) ?_
     rw [fM_yes hp]
     refine TD.weak (ent_openB 0 rfl hM) ?_
     refine vnc rfl rfl rfl ?_
     refine vfa 2 rfl rfl rfl rfl ?_
     refine dl0 rfl rfl rfl ?_
     refine st (v := .int _ _) (vs := [_]) 1 rfl rfl rfl rfl rfl rfl (Nat.le_of_ble_eq_true rfl) rfl ?_
     refine TD.nil (nb (nt ?_))
     refine TC.seq ?_
     refine TC.weak (B := sepL [bigS (tP A ad cap (clS s (s.pn id) (-1))) s.ids, bigS (rP ad cap (clS s (s.pn id) (-1))) s.ids, pts b 128 [.map (some mb)], mapF encI mb (fM A s.ids) s.ids.length, F]) (ent_closeB 0 0 (s.pn id) rfl rfl (by dsimp only [tP, frS, wtS, pushS, rowS, cutMS, clS, stS]; simp only [updI_same]; rfl) (fun y hy => by have h := hne y hy; dsimp only [tP, frS, wtS, pushS, rowS, cutMS, clS, stS]; simp only [updI_ne h]) hM.symm (ent_take 0 rfl (ent_take 0 rfl (ent_take 0 rfl (ent_take 1 rfl (ent_nil _)))))) ?_
     refine TC.region ?_
     refine wmp rfl rfl ?_
     refine e rfl ?_
     refine cl (mfree_ok A ad cap (clS s (s.pn id) (-1)) s.ids id h hN) rfl PkL.p trivial ?_
     intro _ _
     change TL _ _ _ _ _ _ _ _ (sepL [_, _, _, _, _])
     refine TL.nil (nt ?_)
     refine TC.seq ?_
     refine TC.region ?_
     refine wai rfl rfl ?_
     refine TL.nil (nt ?_)
     refine TC.ret ?_
     exact Ret.i () [_] ⟨rfl, trivial⟩ rfl trivial (ent_close (⟨ad, cap, mb⟩ : MRep) hN (ent_take 2 rfl (ent_take 2 rfl (ent_take 0 rfl (ent_take 0 rfl (ent_take 0 rfl (ent_nil _)))))))
    ·have hv : callS s id = (frS s id, 0) := by rw [callS, if_neg hh, if_neg hs0, if_neg hs1, if_neg hs3]
     rw [hv]
     dsimp only
     refine TC.skip (nb (nt ?_))
     refine TC.seq ?_
     refine TC.region ?_
     refine wmp rfl rfl ?_
     refine e rfl ?_
     refine cl (mfree_ok A ad cap s s.ids id h hN) rfl PkL.p trivial ?_
     intro _ _
     change TL _ _ _ _ _ _ _ _ (sepL [_, _, _, _, _, _])
     refine TL.nil (nt ?_)
     refine TC.seq ?_
     refine TC.region ?_
     refine wai rfl rfl ?_
     refine TL.nil (nt ?_)
     refine TC.ret ?_
     exact Ret.i () [_] ⟨rfl, trivial⟩ rfl trivial (ent_close (⟨ad, cap, mb⟩ : MRep) hN (ent_take 1 rfl (ent_take 1 rfl (ent_take 0 rfl (ent_take 0 rfl (ent_take 1 rfl (ent_nil _)))))))
 ·have hv : callS s id = (s, 6) := if_pos h
  rw [hv]
  refine TC.region ?_
  refine wmp rfl rfl ?_
  refine wld rfl rfl rfl rfl ?_
  refine e rfl ?_
  refine cl (mat_no b mb s.ids.length A s.ids id h) rfl PkL.p trivial ?_
  intro _ _
  change TL _ _ _ _ _ _ _ _ (sepL [_, _, _, _, _, _])
  refine wmt rfl rfl ?_
  refine q rfl rfl (pu (v := .pointer _) (fun _ => rfl)) ?_
  refine q rfl rfl (pu (v := .int _ _) (fun _ => rfl)) ?_
  refine wap rfl rfl ?_
  refine wai rfl rfl ?_
  refine TL.nil (nt ?_)
  refine TC.seq ?_
  refine TC.seq ?_
  refine TC.region ?_
  refine wmi rfl rfl ?_
  refine q rfl rfl (neI rfl rfl) ?_
  refine TL.nil (nt ?_)
  refine TC.condT rfl ?_
  refine TC.seq ?_
  refine TC.region ?_
  refine wmi rfl rfl ?_
  refine wai rfl rfl ?_
  refine TL.nil (nt ?_)
  refine TC.ret (rt ?_)
  exact Ret.i () [_] ⟨rfl, trivial⟩ rfl trivial (ent_close (⟨ad, cap, mb⟩ : MRep) hN (ent_take 0 rfl (ent_take 0 rfl (ent_take 0 rfl (ent_take 0 rfl (ent_take 1 rfl (ent_nil _)))))))
set_option maxRecDepth 4000 in
theorem mleave1_ok (o : Off) : FSpec Tryz.prog 98 [.agg (ofC o).toArray] (fun _ => True) [] (fun _ : Unit => .bool true) (fun _ => True) (fun _ => []) := by
 refine FSpec.intro (rs := [.tmp 2]) (by kernel_rfl) Tryz.func98 rfl Tryz.ntmps98 (by rfl) rfl ?_
 intro F _
 change TC _ _ _ _ _ _ _ (sepL [_])
 refine TC.seq ?_
 refine TC.region ?_
 refine e rfl ?_
 refine bx (v := .agg #[_, _, _]) (l := [.int _ _, .int _ _, .bool _]) rfl rfl ?_
 intro b4
 refine wab rfl rfl ?_
 refine TL.nil (nt ?_)
 refine TC.seq ?_
 refine TC.region ?_
 refine wab rfl rfl ?_
 refine TL.nil (nt ?_)
 refine TC.ret ?_
 exact Ret.i () [_] ⟨rfl, trivial⟩ rfl trivial (ent_take 1 rfl (ent_nil _))
set_option maxRecDepth 4000 in
set_option maxHeartbeats 1000000 in
theorem mleave_ok (b : Nat) (A : Int → Nat) (s : MS) (hW : WM s) (id : Int) (hl : s.ids.length ≤ 1000000) : FSpec Tryz.prog 51 [.pointer (some ⟨b, 0, none⟩), .int .i64 id] noRd [isMa b A s] (fun y : Option Addr × Nat => .tuple #[.slice y.1 (leaveS s id).2.1.length y.2, .int .i64 (leaveS s id).2.2]) (fun _ => True) (fun y => [slc 3 1 y.1 (leaveS s id).2.1.length y.2 (ints (leaveS s id).2.1), isMa b A (leaveS s id).1]) := by
 refine FSpec.intro (rs := [.tmp 4, .tmp 5]) (by kernel_rfl) Tryz.func51 rfl Tryz.ntmps51 (by rfl) rfl ?_
 intro F _
 change TC _ _ _ _ _ _ _ (sepL [_, _])
 refine TC.open 0 rfl (fun x0 hx0 => ?_)
 obtain ⟨ad, cap, mb⟩ := x0
 have hN := hx0
 change TC _ _ _ _ _ _ _ (sepL [_, _, _, _, _])
 dsimp only at hN ⊢
 by_cases h : id ∈ s.ids
 ·have hv : leaveS s id = (dropS (frL (rowS (callS s id).1 id []) (goneL (callS s id).1 id)) id, goneL (callS s id).1 id, 0) := if_neg (fun h2 => h2 h)
  rw [hv]
  dsimp only
  obtain ⟨hz1, hz2⟩ := call_st s id h
  have hWz := hW.call id
  refine TC.seq ?_
  refine TC.region ?_
  refine was rfl rfl ?_
  refine wai rfl rfl ?_
  refine TL.nil (nt ?_)
  refine TC.seq ?_
  refine TC.region ?_
  refine wmp rfl rfl ?_
  refine wmi rfl rfl ?_
  refine e rfl ?_
  refine cl (mat_yes b mb s.ids.length A s.ids id h) rfl PkL.p trivial ?_
  intro _ _
  change TL _ _ _ _ _ _ _ _ (sepL [_, _, _, _, _])
  refine wmt rfl rfl ?_
  refine q rfl rfl (pu (v := .pointer _) (fun _ => rfl)) ?_
  refine q rfl rfl (pu (v := .int _ _) (fun _ => rfl)) ?_
  refine wap rfl rfl ?_
  refine wai rfl rfl ?_
  refine TL.nil (nt ?_)
  refine TC.seq ?_
  refine TC.seq ?_
  refine TC.region ?_
  refine wmi rfl rfl ?_
  refine q rfl rfl (neI rfl rfl) ?_
  refine TL.nil (nt ?_)
  refine TC.condF rfl ?_
  refine TC.skip (nt ?_)
  refine TC.seq ?_
  refine TC.weak (B := sepL [isMa b A s, F]) (ent_close (⟨ad, cap, mb⟩ : MRep) hN (ent_take 0 rfl (ent_take 0 rfl (ent_take 0 rfl (ent_take 0 rfl (ent_take 0 rfl (ent_nil _))))))) ?_
  refine TC.region ?_
  refine wmp rfl rfl ?_
  refine wmi rfl rfl ?_
  refine e rfl ?_
  refine cl (mcall_ok b A s hW id hl) rfl PkL.p trivial ?_
  intro _ _
  change TL _ _ _ _ _ _ _ _ (sepL [_, _])
  clear hv hN
  have hmz : id ∈ (callS s id).1.ids := by rw [hz2]; exact h
  have hlz : (callS s id).1.ids.length ≤ 1000000 := by rw [hz2]; exact hl
  generalize (callS s id).1 = Z at hz1 hz2 hWz hmz hlz ⊢
  clear hz2 hl h hW
  refine TL.nil (nt ?_)
  refine TC.seq ?_
  refine TC.open 0 rfl (fun x0 hx0 => ?_)
  obtain ⟨ad, cap, mb⟩ := x0
  have hN := hx0
  change TC _ _ _ _ _ _ _ (sepL [_, _, _, _, _])
  dsimp only at hN ⊢
  have hrl := rowlen hWz hmz
  have hgm := fun x (hx : x ∈ goneL Z id) => gone_mem hWz hmz hx
  refine TC.region ?_
  refine wmp rfl rfl ?_
  refine wnc rfl rfl ?_
  refine wfa 0 rfl rfl rfl ?_
  refine e rfl ?_
  refine cl (mcut_ok A ad cap Z Z.ids id hmz hN 98 [] (fun _ => true) (fun _ => True) mleave1_ok (fun _ _ _ => trivial) (by omega)) rfl PkL.p trivial ?_
  intro y _
  change TL _ _ _ _ _ _ _ _ (sepL [_, _, _, _, _, _])
  have hcm : (cutMS Z id fun _ => true) = rowS Z id [] := by rw [cutMS, List.filter_eq_nil_iff.2 (fun o _ => by simp [notO])]
  have hgo : goneO (Z.row id) (fun _ => true) = (Z.row id).map (·.fr) := by rw [goneO, List.filter_eq_self.2 (fun o _ => rfl)]
  have hgl : ((Z.row id).map (·.fr)).length = (Z.row id).length := List.length_map _
  have hgi := ints_length ((Z.row id).map (·.fr))
  rw [hcm, hgo]
  obtain ⟨⟨ga, gc⟩, ⟨ka, kc⟩⟩ := y
  dsimp only
  haveI := tP_rd (A := A) (ad := (updI ad id ka)) (cap := (updI cap id kc)) (s := (rowS Z id [])) (x := id) hmz
  refine was rfl rfl ?_
  refine TL.nil (nt ?_)
  refine TC.seq ?_
  refine TC.seq ?_
  refine TC.region ?_
  refine wmp rfl rfl ?_
  refine wnc rfl rfl ?_
  refine wfa 2 rfl rfl rfl ?_
  refine wld rfl rfl rfl rfl ?_
  refine q rfl rfl (neI rfl rfl) ?_
  refine TL.nil (nt ?_)
  refine TC.condD rfl (fun hc => ?_) (fun hc => ?_)
  ·have hc : Z.cl id ≠ -1 := hc
   have hG : goneL Z id = (Z.row id).map (·.fr) ++ [Z.cl id] := by rw [goneL, if_pos hc]
   refine TC.region ?_
   refine wms rfl rfl ?_
   refine wmp rfl rfl ?_
   refine wnc rfl rfl ?_
   refine wfa 2 rfl rfl rfl ?_
   refine wld rfl rfl rfl rfl ?_
   refine e rfl ?_
   refine bs (cs := [.int _ _]) rfl ?_
   intro b5
   refine e rfl ?_
   refine ap 8 rfl rfl rfl rfl rfl (Nat.le_of_ble_eq_true rfl) (show _ = ints [Z.cl id] from rfl) rfl (by omega) (by simp only [maxLen]; omega) ?_
   intro ad1 cap1
   refine was rfl rfl ?_
   refine TL.nil (nt ?_)
   refine TC.seq ?_
   refine TC.seq ?_
   have hGi := ints_length (goneL Z id)
   have hGl : (goneL Z id).length = (Z.row id).length + 1 := by rw [hG, List.length_append, hgl]; rfl
   refine TC.weak (B := sepL [slc 3 1 ad1 (goneL Z id).length cap1 (ints (goneL Z id)), bigS (tP A (updI ad id ka) (updI cap id kc) (rowS Z id [])) Z.ids, bigS (rP (updI ad id ka) (updI cap id kc) (rowS Z id [])) Z.ids, pts b 128 [.map (some mb)], mapF encI mb (fM A Z.ids) Z.ids.length, F]) (ent_takeE 0 rfl (by rw [hG, List.length_append]; simp [ints]) (ent_take 1 rfl (ent_take 1 rfl (ent_take 1 rfl (ent_take 1 rfl (ent_take 1 rfl (ent_nil _))))))) ?_
   rw [show ((Z.row id).map (·.fr)).length + 1 = (goneL Z id).length from by rw [hGl, hgl]]
   refine TC.region ?_
   refine wms rfl rfl ?_
   refine q rfl rfl (len 3 1 rfl rfl) ?_
   refine wmi rfl rfl ?_
   refine TL.nil (nt ?_)
   refine TC.block ?_
   refine TC.loop (ι := Nat) (fun k => k ≤ (goneL Z id).length) (fun k => [(0, .pointer (some ⟨b, 0, none⟩)), (1, .int .i64 id), (8, .slice ad1 (goneL Z id).length cap1), (39, .slice ad1 (goneL Z id).length cap1), (40, .int .i64 (goneL Z id).length), (41, .int .i64 ((k : Nat) : Int))]) (fun k => sepL [slc 3 1 ad1 (goneL Z id).length cap1 (ints (goneL Z id)), bigS (tP A (updI ad id ka) (updI cap id kc) (frL (rowS Z id []) ((goneL Z id).take k))) Z.ids, bigS (rP (updI ad id ka) (updI cap id kc) (frL (rowS Z id []) ((goneL Z id).take k))) Z.ids, pts b 128 [.map (some mb)], mapF encI mb (fM A Z.ids) Z.ids.length, F]) (fun k => (goneL Z id).length - k) 0 (Nat.zero_le _) ⟨rfl, rfl, rfl, rfl, rfl, rfl, trivial⟩ (ent_take 0 rfl (ent_takeE 0 rfl (by rw [List.take_zero, ← foldl_fr]; rfl) (ent_takeE 0 rfl (by rw [List.take_zero, ← foldl_fr]; rfl) (ent_take 0 rfl (ent_take 0 rfl (ent_take 0 rfl (ent_nil _))))))) ?_
   rintro k hk ρ0
   dsimp only [updL] at hk ⊢
   refine TC.seq ?_
   refine TC.region ?_
   refine q rfl rfl (lss rfl rfl) ?_
   refine TL.nil (nt ?_)
   refine TC.seq ?_
   refine TC.condD rfl (fun hlt => ?_) (fun hlt => ?_)
   ·have hlt2 : k < (goneL Z id).length := by omega
    obtain ⟨x, hx⟩ : ∃ x, (goneL Z id)[k]? = some x := ⟨_, List.getElem?_eq_getElem hlt2⟩
    have hpos : 0 < (ints (goneL Z id)).length := by omega
    obtain ⟨hx1, _⟩ := hgm x (List.mem_of_getElem? hx)
    have hst : frS (frL (rowS Z id []) ((goneL Z id).take k)) x = (frL (rowS Z id []) ((goneL Z id).take (k + 1))) := by rw [← foldl_fr, ← foldl_fr, List.take_add_one, hx, Option.toList, List.foldl_append]; rfl
    refine TC.skip (nt ?_)
    refine TC.seq ?_
    refine TC.block ?_
    refine TC.seq ?_
    refine TC.region ?_
    refine q rfl rfl (ixS 3 1 rfl rfl rfl (by omega) (by assumption)) ?_
    refine q rfl rfl (ldS rfl rfl (ints_get hx)) ?_
    refine wai rfl rfl ?_
    refine TL.nil (nt ?_)
    refine TC.region ?_
    refine wmp rfl rfl ?_
    refine wnc rfl rfl ?_
    refine wfa 0 rfl rfl rfl ?_
    refine wld rfl rfl rfl rfl ?_
    refine wmi rfl rfl ?_
    refine q rfl rfl (luF 3 118 rfl rfl (KL.int rfl) rfl rfl) ?_
    rw [fM_yes hx1]
    refine e rfl ?_
    refine cl (mfree_ok A (updI ad id ka) (updI cap id kc) (frL (rowS Z id []) ((goneL Z id).take k)) Z.ids x hx1 hN) rfl PkL.p trivial ?_
    intro _ _
    change TL _ _ _ _ _ _ _ _ (sepL [_, _, _, _, _, _])
    rw [hst]
    refine TL.nil (nb (nt ?_))
    refine TC.region ?_
    refine q rfl rfl (addI rfl rfl (by omega) (by omega)) ?_
    refine wmi rfl rfl ?_
    refine TL.nil (nt ?_)
    exact ⟨rfl, (k + 1), (by omega), (by omega), ⟨rfl, rfl, rfl, rfl, rfl, rfl, trivial⟩, (ent_take 1 rfl (ent_take 0 rfl (ent_takeE 0 rfl (by rw [← hst]; rfl) (ent_take 0 rfl (ent_take 0 rfl (ent_take 0 rfl (ent_nil _)))))))⟩
   ·obtain rfl : k = (goneL Z id).length := by omega
    rw [List.take_length]
    obtain ⟨M, hM⟩ := perm_mem hmz
    have hne := nd_ne hN hM
    have hfi : M.Perm (Z.ids.filter fun y => decide (y ≠ id)) := by
     have h1 := hM.filter fun y => decide (y ≠ id)
     have h2 : M.filter (fun y => decide (y ≠ id)) = M := List.filter_eq_self.2 (fun y hy => by simpa using hne y hy)
     rw [List.filter_cons_of_neg (by simp), h2] at h1
     exact h1.symm
    have hN2 : (Z.ids.filter fun y => decide (y ≠ id)).Nodup := hN.sublist List.filter_sublist
    have hlf : (Z.ids.filter fun y => decide (y ≠ id)).length = Z.ids.length - 1 := by rw [← hfi.length_eq, hM.length_eq]; rfl
    have hfm : fM A (Z.ids.filter fun y => decide (y ≠ id)) = delF (fM A Z.ids) id := by
     funext y
     simp only [fM, delF]
     by_cases e2 : y = id
     ·rw [if_pos e2, if_neg (by simp [e2])]
     ·rw [if_neg e2]
      by_cases h3 : y ∈ Z.ids
      ·rw [if_pos h3, if_pos (by simp [h3, e2])]
      ·rw [if_neg h3, if_neg (by simp [h3])]
    have hfy := fM_yes (A := A) hmz
    refine TC.exit (et (et (eb (nt ?_))))
    refine TC.seq ?_
    refine TC.region ?_
    refine wmp rfl rfl ?_
    refine wnc rfl rfl ?_
    refine wfa 0 rfl rfl rfl ?_
    refine wld rfl rfl rfl rfl ?_
    refine wmi rfl rfl ?_
    refine e0 ?_
    refine deF 3 118 rfl (KL.int rfl) rfl rfl rfl ?_
    refine TL.nil (nt ?_)
    refine TC.seq ?_
    refine TC.region ?_
    refine wms rfl rfl ?_
    refine was rfl rfl ?_
    refine wai rfl rfl ?_
    refine TL.nil (nt ?_)
    refine TC.ret ?_
    exact Ret.i ⟨ad1, cap1⟩ [_, _] ⟨rfl, rfl, trivial⟩ rfl trivial (ent_take 1 rfl (ent_close (⟨(updI ad id ka), (updI cap id kc), mb⟩ : MRep) hN2 (ent_take 3 rfl (ent_takeE 0 rfl (by dsimp only [dropS, frL, rowS]; rw [hfm, hlf, hfy]; rfl) ((ent_openB 0 rfl hM).trans (ent_takeB 1 rfl (fun _ _ => rfl) hfi ((ent_openB 1 rfl hM).trans (ent_takeB 1 rfl (fun _ _ => rfl) hfi (ent_take 2 rfl (ent_nil _))))))))))
  ·have hc : ¬ Z.cl id ≠ -1 := hc
   have hG : goneL Z id = (Z.row id).map (·.fr) := by rw [goneL, if_neg hc, List.append_nil]
   refine TC.skip (nt ?_)
   refine TC.seq ?_
   refine TC.seq ?_
   have hGi := ints_length (goneL Z id)
   have hGl : (goneL Z id).length = (Z.row id).length := by rw [hG, hgl]
   refine TC.weak (B := sepL [slc 3 1 ga (goneL Z id).length gc (ints (goneL Z id)), bigS (tP A (updI ad id ka) (updI cap id kc) (rowS Z id [])) Z.ids, bigS (rP (updI ad id ka) (updI cap id kc) (rowS Z id [])) Z.ids, pts b 128 [.map (some mb)], mapF encI mb (fM A Z.ids) Z.ids.length, F]) (ent_takeE 0 rfl (by rw [hG]) (ent_take 0 rfl (ent_take 0 rfl (ent_take 0 rfl (ent_take 0 rfl (ent_take 0 rfl (ent_nil _))))))) ?_
   rw [show ((Z.row id).map (·.fr)).length = (goneL Z id).length from by rw [hGl, hgl]]
   refine TC.region ?_
   refine wms rfl rfl ?_
   refine q rfl rfl (len 3 1 rfl rfl) ?_
   refine wmi rfl rfl ?_
   refine TL.nil (nt ?_)
   refine TC.block ?_
   refine TC.loop (ι := Nat) (fun k => k ≤ (goneL Z id).length) (fun k => [(0, .pointer (some ⟨b, 0, none⟩)), (1, .int .i64 id), (8, .slice ga (goneL Z id).length gc), (39, .slice ga (goneL Z id).length gc), (40, .int .i64 (goneL Z id).length), (41, .int .i64 ((k : Nat) : Int))]) (fun k => sepL [slc 3 1 ga (goneL Z id).length gc (ints (goneL Z id)), bigS (tP A (updI ad id ka) (updI cap id kc) (frL (rowS Z id []) ((goneL Z id).take k))) Z.ids, bigS (rP (updI ad id ka) (updI cap id kc) (frL (rowS Z id []) ((goneL Z id).take k))) Z.ids, pts b 128 [.map (some mb)], mapF encI mb (fM A Z.ids) Z.ids.length, F]) (fun k => (goneL Z id).length - k) 0 (Nat.zero_le _) ⟨rfl, rfl, rfl, rfl, rfl, rfl, trivial⟩ (ent_take 0 rfl (ent_takeE 0 rfl (by rw [List.take_zero, ← foldl_fr]; rfl) (ent_takeE 0 rfl (by rw [List.take_zero, ← foldl_fr]; rfl) (ent_take 0 rfl (ent_take 0 rfl (ent_take 0 rfl (ent_nil _))))))) ?_
   rintro k hk ρ0
   dsimp only [updL] at hk ⊢
   refine TC.seq ?_
   refine TC.region ?_
   refine q rfl rfl (lss rfl rfl) ?_
   refine TL.nil (nt ?_)
   refine TC.seq ?_
   refine TC.condD rfl (fun hlt => ?_) (fun hlt => ?_)
   ·have hlt2 : k < (goneL Z id).length := by omega
    obtain ⟨x, hx⟩ : ∃ x, (goneL Z id)[k]? = some x := ⟨_, List.getElem?_eq_getElem hlt2⟩
    have hpos : 0 < (ints (goneL Z id)).length := by omega
    obtain ⟨hx1, _⟩ := hgm x (List.mem_of_getElem? hx)
    have hst : frS (frL (rowS Z id []) ((goneL Z id).take k)) x = (frL (rowS Z id []) ((goneL Z id).take (k + 1))) := by rw [← foldl_fr, ← foldl_fr, List.take_add_one, hx, Option.toList, List.foldl_append]; rfl
    refine TC.skip (nt ?_)
    refine TC.seq ?_
    refine TC.block ?_
    refine TC.seq ?_
    refine TC.region ?_
    refine q rfl rfl (ixS 3 1 rfl rfl rfl (by omega) (by assumption)) ?_
    refine q rfl rfl (ldS rfl rfl (ints_get hx)) ?_
    refine wai rfl rfl ?_
    refine TL.nil (nt ?_)
    refine TC.region ?_
    refine wmp rfl rfl ?_
    refine wnc rfl rfl ?_
    refine wfa 0 rfl rfl rfl ?_
    refine wld rfl rfl rfl rfl ?_
    refine wmi rfl rfl ?_
    refine q rfl rfl (luF 3 118 rfl rfl (KL.int rfl) rfl rfl) ?_
    rw [fM_yes hx1]
    refine e rfl ?_
    refine cl (mfree_ok A (updI ad id ka) (updI cap id kc) (frL (rowS Z id []) ((goneL Z id).take k)) Z.ids x hx1 hN) rfl PkL.p trivial ?_
    intro _ _
    change TL _ _ _ _ _ _ _ _ (sepL [_, _, _, _, _, _])
    rw [hst]
    refine TL.nil (nb (nt ?_))
    refine TC.region ?_
    refine q rfl rfl (addI rfl rfl (by omega) (by omega)) ?_
    refine wmi rfl rfl ?_
    refine TL.nil (nt ?_)
    exact ⟨rfl, (k + 1), (by omega), (by omega), ⟨rfl, rfl, rfl, rfl, rfl, rfl, trivial⟩, (ent_take 1 rfl (ent_take 0 rfl (ent_takeE 0 rfl (by rw [← hst]; rfl) (ent_take 0 rfl (ent_take 0 rfl (ent_take 0 rfl (ent_nil _)))))))⟩
   ·obtain rfl : k = (goneL Z id).length := by omega
    rw [List.take_length]
    obtain ⟨M, hM⟩ := perm_mem hmz
    have hne := nd_ne hN hM
    have hfi : M.Perm (Z.ids.filter fun y => decide (y ≠ id)) := by
     have h1 := hM.filter fun y => decide (y ≠ id)
     have h2 : M.filter (fun y => decide (y ≠ id)) = M := List.filter_eq_self.2 (fun y hy => by simpa using hne y hy)
     rw [List.filter_cons_of_neg (by simp), h2] at h1
     exact h1.symm
    have hN2 : (Z.ids.filter fun y => decide (y ≠ id)).Nodup := hN.sublist List.filter_sublist
    have hlf : (Z.ids.filter fun y => decide (y ≠ id)).length = Z.ids.length - 1 := by rw [← hfi.length_eq, hM.length_eq]; rfl
    have hfm : fM A (Z.ids.filter fun y => decide (y ≠ id)) = delF (fM A Z.ids) id := by
     funext y
     simp only [fM, delF]
     by_cases e2 : y = id
     ·rw [if_pos e2, if_neg (by simp [e2])]
     ·rw [if_neg e2]
      by_cases h3 : y ∈ Z.ids
      ·rw [if_pos h3, if_pos (by simp [h3, e2])]
      ·rw [if_neg h3, if_neg (by simp [h3])]
    have hfy := fM_yes (A := A) hmz
    refine TC.exit (et (et (eb (nt ?_))))
    refine TC.seq ?_
    refine TC.region ?_
    refine wmp rfl rfl ?_
    refine wnc rfl rfl ?_
    refine wfa 0 rfl rfl rfl ?_
    refine wld rfl rfl rfl rfl ?_
    refine wmi rfl rfl ?_
    refine e0 ?_
    refine deF 3 118 rfl (KL.int rfl) rfl rfl rfl ?_
    refine TL.nil (nt ?_)
    refine TC.seq ?_
    refine TC.region ?_
    refine wms rfl rfl ?_
    refine was rfl rfl ?_
    refine wai rfl rfl ?_
    refine TL.nil (nt ?_)
    refine TC.ret ?_
    exact Ret.i ⟨ga, gc⟩ [_, _] ⟨rfl, rfl, trivial⟩ rfl trivial (ent_take 1 rfl (ent_close (⟨(updI ad id ka), (updI cap id kc), mb⟩ : MRep) hN2 (ent_take 3 rfl (ent_takeE 0 rfl (by dsimp only [dropS, frL, rowS]; rw [hfm, hlf, hfy]; rfl) ((ent_openB 0 rfl hM).trans (ent_takeB 1 rfl (fun _ _ => rfl) hfi ((ent_openB 1 rfl hM).trans (ent_takeB 1 rfl (fun _ _ => rfl) hfi (ent_take 2 rfl (ent_nil _))))))))))
 ·have hv : leaveS s id = (s, [], 6) := if_pos h
  rw [hv]
  dsimp only
  refine TC.seq ?_
  refine TC.region ?_
  refine was rfl rfl ?_
  refine wai rfl rfl ?_
  refine TL.nil (nt ?_)
  refine TC.seq ?_
  refine TC.region ?_
  refine wmp rfl rfl ?_
  refine wmi rfl rfl ?_
  refine e rfl ?_
  refine cl (mat_no b mb s.ids.length A s.ids id h) rfl PkL.p trivial ?_
  intro _ _
  change TL _ _ _ _ _ _ _ _ (sepL [_, _, _, _, _])
  refine wmt rfl rfl ?_
  refine q rfl rfl (pu (v := .pointer _) (fun _ => rfl)) ?_
  refine q rfl rfl (pu (v := .int _ _) (fun _ => rfl)) ?_
  refine wap rfl rfl ?_
  refine wai rfl rfl ?_
  refine TL.nil (nt ?_)
  refine TC.seq ?_
  refine TC.seq ?_
  refine TC.region ?_
  refine wmi rfl rfl ?_
  refine q rfl rfl (neI rfl rfl) ?_
  refine TL.nil (nt ?_)
  refine TC.condT rfl ?_
  refine TC.seq ?_
  refine TC.region ?_
  refine wmi rfl rfl ?_
  refine was rfl rfl ?_
  refine wai rfl rfl ?_
  refine TL.nil (nt ?_)
  refine TC.ret (rt ?_)
  exact Ret.i ⟨none, 0⟩ [_, _] ⟨rfl, rfl, trivial⟩ rfl trivial ((slc_nil 3 1 _).trans (ent_take 0 rfl (ent_close (⟨ad, cap, mb⟩ : MRep) hN (ent_take 0 rfl (ent_take 0 rfl (ent_take 0 rfl (ent_take 0 rfl (ent_take 0 rfl (ent_nil _)))))))))
end Go.Proofs.YtdfmfhcjnjfjbaaGreat
namespace Go.QM
open Go
def i64T (P : Program) (t : TypeId) : Bool := match P.underlying t with
  | some (.int .i64) => true
  | _ => false
theorem i64T_un {P : Program} {t : TypeId} (h : i64T P t = true) : P.underlying t = some (.int .i64) := by
  unfold i64T at h
  cases hu : P.underlying t with
  | none => rw [hu] at h; cases h
  | some u => rw [hu] at h; cases u <;> first | (cases h; done) | (rename_i k; cases k <;> first | (cases h; done) | rfl)
theorem booT_un {P : Program} {t : TypeId} (h : booT P t = true) : P.underlying t = some .bool := by
  unfold booT at h
  cases hu : P.underlying t with
  | none => rw [hu] at h; cases h
  | some u => rw [hu] at h; cases u <;> first | (cases h; done) | rfl
def oft (P : Program) (f1 f2 f3 : Field) : Bool :=
  !(f1.name == "_") && !(f2.name == "_") && !(f3.name == "_") && Nat.beq f1.offset 0 && Nat.beq f2.offset 1 && Nat.beq f3.offset 2 && i64T P f1.type && i64T P f2.type && booT P f3.type
def eqOT (P : Program) (t : TypeId) : Bool := match P.underlying t with
  | some (.struct fs) => (match fs.toList with
    | [f1, f2, f3] => oft P f1 f2 f3
    | _ => false) && !(P.stoodInHeld t) && !(P.eqGuardType P.depth t)
  | _ => false
theorem eqOT_run {P : Program} {t : TypeId} (h : eqOT P t = true) (a b a' b' : Int) (c c' : Bool) (w : World) :
    (Op.equalIn 10000 t (.agg #[.int .i64 a, .int .i64 b, .bool c]) (.agg #[.int .i64 a', .int .i64 b', .bool c'])).run P w = .ok (decide (a = a' ∧ b = b' ∧ c = c')) w ∧ P.eqGuardType P.depth t = false := by
  unfold eqOT at h
  cases hu : P.underlying t with
  | none => rw [hu] at h; cases h
  | some u =>
    rw [hu] at h
    cases u with
    | struct fs =>
      simp only [Bool.and_eq_true, Bool.not_eq_true'] at h
      obtain ⟨⟨h1, h2⟩, h3⟩ := h
      have hf : P.fieldsOf t = fs := by simp [Program.fieldsOf, hu]
      refine ⟨?_, h3⟩
      rw [run_equalIn_agg w 9999 t _ _ (by rw [hf]; exact hu) h2, hf]
      split at h1
      · rename_i f1 f2 f3 hl
        rw [hl]
        simp only [oft, Bool.and_eq_true, Bool.not_eq_true', beq_eq_false_iff_ne] at h1
        obtain ⟨⟨⟨⟨⟨⟨⟨⟨n1, n2⟩, n3⟩, o1⟩, o2⟩, o3⟩, t1⟩, t2⟩, t3⟩ := h1
        have o1 := Nat.eq_of_beq_eq_true o1
        have o2 := Nat.eq_of_beq_eq_true o2
        have o3 := Nat.eq_of_beq_eq_true o3
        have t1 := i64T_un t1
        have t2 := i64T_un t2
        have t3 := booT_un t3
        have s1 : oneT P f1.type = true := by simp [oneT, t1]
        have s2 : oneT P f2.type = true := by simp [oneT, t2]
        have s3 : oneT P f3.type = true := by simp [oneT, t3]
        have p1 : ∀ x y : Int, ∀ z : Bool, (part f1.type #[.int .i64 x, .int .i64 y, .bool z] f1.offset).run P w = .ok (.int .i64 x) w := fun x y z => by simp [part, isAgg_one s1, o1]
        have p2 : ∀ x y : Int, ∀ z : Bool, (part f2.type #[.int .i64 x, .int .i64 y, .bool z] f2.offset).run P w = .ok (.int .i64 y) w := fun x y z => by simp [part, isAgg_one s2, o2]
        have p3 : ∀ x y : Int, ∀ z : Bool, (part f3.type #[.int .i64 x, .int .i64 y, .bool z] f3.offset).run P w = .ok (.bool z) w := fun x y z => by simp [part, isAgg_one s3, o3]
        have e3 : ∀ d, (Op.equalIn (d + 1) f3.type (.bool c) (.bool c')).run P w = .ok (c == c') w := fun d => by
          simp [Op.equalIn, underlying, t3]
        have e1 : ∀ x y : Int, (Op.equalIn 9999 f1.type (.int .i64 x) (.int .i64 y)).run P w = .ok (decide (x = y)) w := fun x y => run_equalIn_int w 9998 f1.type .i64 .i64 x y t1
        have e2 : ∀ x y : Int, (Op.equalIn 9999 f2.type (.int .i64 x) (.int .i64 y)).run P w = .ok (decide (x = y)) w := fun x y => run_equalIn_int w 9998 f2.type .i64 .i64 x y t2
        have e4 := e3 9998
        simp only [Op.eqFields, ne_eq, n1, n2, n3, not_false_eq_true, if_true, Sem.run_bind, p1, p2, p3, Result.andThen_ok, e1]
        by_cases h1 : a = a'
        · by_cases h2 : b = b'
          · cases hc : (c == c')
            · have hn : c ≠ c' := by simpa using hc
              rw [hc] at e4
              simp [h1, h2, hn, p2, p3, e2, e4]
            · have hn : c = c' := by simpa using hc
              rw [hc] at e4
              simp [h1, h2, p2, p3, e2, e4, hn]
              rw [hn] at e4
              simp [e4]
          · simp [h1, h2, p2, e2]
        · simp [h1]
      · cases h1
    | _ => cases h
section
variable {P : Program} {ρ : Env} {A : HP} {d : Option Nat} {ty : TypeId} {ps : String} {af : Array Edge} {g : Option (Nat × Bool)} {t t' : TypeId} {x y : Operand}
theorem eqO {a b a' b' : Int} {c c' : Bool} (ht : eqOT P t = true) (hx : ev ρ x = .agg #[.int .i64 a, .int .i64 b, .bool c]) (hy : ev ρ y = .agg #[.int .i64 a', .int .i64 b', .bool c']) :
    OQ P ρ ⟨d, .binOp .eql t x y t', ty, ps, af, g⟩ A (.bool (decide (a = a' ∧ b = b' ∧ c = c'))) := fun w _ => by
  obtain ⟨h1, h2⟩ := eqOT_run ht a b a' b' c c' w
  simp [execOp, hx, hy, run_eqGuard_agg w .eql t x y _ _ h2, run_eql_struct w t, h1]
theorem neO {a b a' b' : Int} {c c' : Bool} (ht : eqOT P t = true) (hx : ev ρ x = .agg #[.int .i64 a, .int .i64 b, .bool c]) (hy : ev ρ y = .agg #[.int .i64 a', .int .i64 b', .bool c']) :
    OQ P ρ ⟨d, .binOp .neq t x y t', ty, ps, af, g⟩ A (.bool (decide (¬ (a = a' ∧ b = b' ∧ c = c')))) := fun w _ => by
  obtain ⟨h1, h2⟩ := eqOT_run ht a b a' b' c c' w
  simp [execOp, hx, hy, run_eqGuard_agg w .neq t x y _ _ h2, run_neq_struct w t, h1]
end
end Go.QM
