/-
  Proved here: what functions of this program compute, each as a contract over symbolic states, under the premises that each theorem names (most lines printed by a program of the prover).
-/
import Derived.Test.YtncafknmdmoaoaaRdL
import Derived.Test.YtncafknmdmoaoaaQLibW
namespace Go.Proofs.Ytncafknmdmoaoaa
open Go Go.QM
set_option maxHeartbeats 2000000 in
theorem racts_ok (ad : Option Addr) (l : List RAct) (cap : Nat) (hD : ∀ t ∈ l, (-9223372036854775808 ≤ t.kind ∧ t.kind ≤ 9223372036854775807) ∧ (-9223372036854775808 ≤ t.id ∧ t.id ≤ 9223372036854775807) ∧ (-9223372036854775808 ≤ t.prio ∧ t.prio ≤ 9223372036854775807) ∧ (-9223372036854775808 ≤ t.sl ∧ t.sl ≤ 9223372036854775807)) : FSpec Try.prog 3 [.slice ad l.length cap] (fun F => (∃ E, RdS F E ad (ractsC l)) ∧ ∀ t ∈ l, ∃ E, RdS F E t.ad (ints t.xs)) [] (fun _ : Unit => .bool true) (fun _ => True) (fun _ => []) := by
  refine FSpec.intro (rs := [.tmp 2]) (by kernel_rfl) Try.func3 rfl Try.ntmps3 (by rfl) rfl ?_
  intro F ⟨⟨E, hF⟩, hin⟩
  change TC _ _ _ _ _ _ _ (sepL [_])
  haveI : RdSI F ad E (ractsC l) := ⟨hF⟩
  refine TC.seq ?_
  refine TC.region ?_
  refine q rfl rfl (asg (v := .bool _) rfl) ?_
  refine TL.nil (nt ?_)
  refine TC.seq ?_
  refine TC.seq ?_
  refine TC.region ?_
  refine e rfl ?_
  refine cl alive_ok rfl (picked_nil _) trivial ?_
  intro _ _
  change TL _ _ _ _ _ _ _ _ (sepL [_])
  first | refine q rfl rfl (notD rfl) ?_ | refine q rfl rfl (notB rfl) ?_
  refine TL.nil (nt ?_)
  refine TC.condF rfl ?_
  refine TC.skip (nt ?_)
  refine TC.seq ?_
  refine TC.seq ?_
  refine TC.region ?_
  refine q rfl rfl (mv (v := .slice _ _ _) rfl) ?_
  refine q rfl rfl (len 38 5 rfl rfl) ?_
  refine q rfl rfl (gtr rfl rfl) ?_
  refine TL.nil (nt ?_)
  first | refine TC.condD rfl (fun hbig => ?_) (fun hbig => ?_) | refine TC.cond rfl (fun hbig => ?_) (fun hbig => ?_)
  · refine TC.seq ?_
    refine TC.region ?_
    refine q rfl rfl (asg (v := .bool _) rfl) ?_
    refine TL.nil (nt ?_)
    refine TC.ret (rt ?_)
    exact Ret.i () [_] ⟨rfl, trivial⟩ rfl trivial (ent_take 0 rfl (ent_nil _))
  · have hL : l.length ≤ 200 := by omega
    refine TC.skip (nt ?_)
    refine TC.seq ?_
    refine TC.region ?_
    refine q rfl rfl (asg (v := .pointer _) rfl) ?_
    refine TL.nil (nt ?_)
    refine TC.seq ?_
    refine TC.seq ?_
    refine TC.region ?_
    refine q rfl rfl (mv (v := .pointer _) rfl) ?_
    refine e rfl ?_
    refine cl (add_nil 1 1 1) rfl (picked_nil _) trivial ?_
    intro _ _
    change TL _ _ _ _ _ _ _ _ (sepL [_])
    refine q rfl rfl (neI rfl rfl) ?_
    refine q rfl rfl (mv (v := .bool _) rfl) ?_
    refine TL.known 20 rfl (c := false) (by first | decide | simp) ?_
    refine qg rfl rfl rfl (mv (v := .pointer _) rfl) ?_
    refine eg rfl rfl ?_
    refine bs (cs := [.int _ _]) rfl ?_
    intro b1
    refine eg rfl rfl ?_
    refine cl (drop_nil _ _ [1] (by decide)) rfl (picked_nil _) ⟨_, RdSI.rd⟩ ?_
    intro _ _
    change TL _ _ _ _ _ _ _ _ (sepL [_, _])
    refine qg rfl rfl rfl (neI rfl rfl) ?_
    first | refine q rfl rfl (pkT rfl rfl) ?_ | refine q rfl rfl (pkF rfl rfl) ?_
    refine q rfl rfl (mv (v := .bool _) rfl) ?_
    refine TL.known 26 rfl (c := false) (by first | decide | simp) ?_
    refine qg rfl rfl rfl (mv (v := .pointer _) rfl) ?_
    refine eg rfl rfl ?_
    refine cl run_nil rfl (picked_nil _) trivial ?_
    intro _ _
    change TL _ _ _ _ _ _ _ _ (sepL [_, _])
    refine qg rfl rfl rfl (neI rfl rfl) ?_
    first | refine q rfl rfl (pkT rfl rfl) ?_ | refine q rfl rfl (pkF rfl rfl) ?_
    refine q rfl rfl (mv (v := .bool _) rfl) ?_
    refine TL.known 31 rfl (c := false) (by first | decide | simp) ?_
    refine qg rfl rfl rfl (mv (v := .pointer _) rfl) ?_
    refine eg rfl rfl ?_
    refine cl qtick_nil rfl (picked_nil _) trivial ?_
    intro _ _
    change TL _ _ _ _ _ _ _ _ (sepL [_, _])
    refine qg rfl rfl rfl (neI rfl rfl) ?_
    first | refine q rfl rfl (pkT rfl rfl) ?_ | refine q rfl rfl (pkF rfl rfl) ?_
    refine q rfl rfl (mv (v := .bool _) rfl) ?_
    refine TL.known 36 rfl (c := false) (by first | decide | simp) ?_
    refine qg rfl rfl rfl (mv (v := .pointer _) rfl) ?_
    refine eg rfl rfl ?_
    refine cl yield_nil rfl (picked_nil _) trivial ?_
    intro _ _
    change TL _ _ _ _ _ _ _ _ (sepL [_, _])
    refine qg rfl rfl rfl (neI rfl rfl) ?_
    first | refine q rfl rfl (pkT rfl rfl) ?_ | refine q rfl rfl (pkF rfl rfl) ?_
    refine q rfl rfl (mv (v := .bool _) rfl) ?_
    refine TL.known 41 rfl (c := false) (by first | decide | simp) ?_
    refine qg rfl rfl rfl (mv (v := .pointer _) rfl) ?_
    refine eg rfl rfl ?_
    refine cl (row_nil 0) rfl (picked_nil _) trivial ?_
    intro _ _
    change TL _ _ _ _ _ _ _ _ (sepL [_, _])
    refine qg rfl rfl rfl (len 3 1 rfl rfl) ?_
    refine qg rfl rfl rfl (neI rfl rfl) ?_
    first | refine q rfl rfl (pkT rfl rfl) ?_ | refine q rfl rfl (pkF rfl rfl) ?_
    refine q rfl rfl (mv (v := .bool _) rfl) ?_
    refine TL.known 47 rfl (c := false) (by first | decide | simp) ?_
    refine qg rfl rfl rfl (mv (v := .pointer _) rfl) ?_
    refine eg rfl rfl ?_
    refine cl (qleft_nil 1) rfl (picked_nil _) trivial ?_
    intro _ _
    change TL _ _ _ _ _ _ _ _ (sepL [_, _])
    refine qg rfl rfl rfl (neI rfl rfl) ?_
    first | refine q rfl rfl (pkT rfl rfl) ?_ | refine q rfl rfl (pkF rfl rfl) ?_
    refine q rfl rfl (mv (v := .bool _) rfl) ?_
    refine TL.known 52 rfl (c := false) (by first | decide | simp) ?_
    refine qg rfl rfl rfl (mv (v := .pointer _) rfl) ?_
    refine eg rfl rfl ?_
    refine cl (qprio_nil 1) rfl (picked_nil _) trivial ?_
    intro _ _
    change TL _ _ _ _ _ _ _ _ (sepL [_, _])
    refine qg rfl rfl rfl (neI rfl rfl) ?_
    first | refine q rfl rfl (pkT rfl rfl) ?_ | refine q rfl rfl (pkF rfl rfl) ?_
    refine q rfl rfl (mv (v := .bool _) rfl) ?_
    refine TL.known 57 rfl (c := false) (by first | decide | simp) ?_
    refine qg rfl rfl rfl (mv (v := .pointer _) rfl) ?_
    refine eg rfl rfl ?_
    refine cl qlen_nil rfl (picked_nil _) trivial ?_
    intro _ _
    change TL _ _ _ _ _ _ _ _ (sepL [_, _])
    refine qg rfl rfl rfl (neI rfl rfl) ?_
    first | refine q rfl rfl (pkT rfl rfl) ?_ | refine q rfl rfl (pkF rfl rfl) ?_
    refine TL.nil (nt ?_)
    refine TC.condD rfl (fun hc1 => absurd hc1 (by decide)) (fun hc1 => ?_)
    refine TC.skip (nt ?_)
    refine TC.seq ?_
    refine TC.region ?_
    refine e rfl ?_
    refine cl rnew_ok rfl (picked_nil _) trivial ?_
    intro a _
    change TL _ _ _ _ _ _ _ _ (sepL [_, _, _])
    refine q rfl rfl (asg (v := .pointer _) rfl) ?_
    refine TL.nil (nt ?_)
    refine TC.seq ?_
    refine TC.region ?_
    first | refine q rfl rfl (bld (cs := [.slice _ _ _]) rfl) ?_ | refine q rfl rfl (bld (cs := [_]) rfl) ?_
    refine e rfl ?_
    refine bx (v := .agg #[_]) (l := [.slice _ _ _]) rfl rfl ?_
    intro b2
    refine q rfl rfl (asg (v := .pointer _) rfl) ?_
    refine TL.nil (nt ?_)
    refine TC.seq ?_
    refine TC.seq ?_
    refine TC.region ?_
    refine q rfl rfl (asg (v := .int _ _) rfl) ?_
    refine TL.nil (nt ?_)
    refine TC.block ?_
    refine TC.weak (B := sepL [isQ a [], isRq b2 [], F]) ((slc_nil 67 4 _).trans (ent_take 2 rfl (ent_close ⟨none, 0⟩ trivial (ent_take 1 rfl (ent_take 0 rfl (ent_take 1 rfl (ent_nil _))))))) ?_
    refine TC.loop (ι := Nat × List Th) (fun s => RJ s.2 s.1 ∧ s.1 ≤ l.length) (fun s => [(0, .slice ad l.length cap), (4, .pointer (some ⟨a, 0, none⟩)), (5, .pointer (some ⟨b2, 0, none⟩)), (6, .int .i64 ((s.1 : Nat) : Int))]) (fun s => sepL [isQ a s.2, isRq b2 s.2, F]) (fun s => l.length - s.1) ⟨0, []⟩ ⟨RJ.nil 0, Nat.zero_le _⟩ ⟨rfl, rfl, rfl, rfl, trivial⟩ (ent_take 0 rfl (ent_take 0 rfl (ent_take 0 rfl (ent_nil _)))) ?_
    rintro ⟨i, S⟩ ⟨hJ, hi⟩ ρ0
    dsimp only [updL] at hJ hi ⊢
    refine TC.seq ?_
    refine TC.seq ?_
    refine TC.region ?_
    refine q rfl rfl (mv (v := .int _ _) rfl) ?_
    refine q rfl rfl (mv (v := .slice _ _ _) rfl) ?_
    refine q rfl rfl (len 38 5 rfl rfl) ?_
    refine q rfl rfl (lss rfl rfl) ?_
    refine TL.nil (nt ?_)
    first | refine TC.condD rfl (fun hlt => ?_) (fun hlt => ?_) | refine TC.cond rfl (fun hlt => ?_) (fun hlt => ?_)
    · have hlt2 : i < l.length := by omega
      obtain ⟨t, ht⟩ : ∃ t, l[i]? = some t := ⟨l[i], List.getElem?_eq_getElem hlt2⟩
      obtain ⟨E2, hE2⟩ := hin t (List.mem_of_getElem? ht)
      haveI : RdSI F t.ad E2 (ints t.xs) := ⟨hE2⟩
      have hpos : 0 < (ractsC l).length := by rw [ractsC_length]; omega
      have hlen := hJ.len
      refine TC.skip (nt ?_)
      refine TC.seq ?_
      refine TC.block ?_
      refine TC.seq ?_
      refine TC.region ?_
      refine q rfl rfl (mv (v := .slice _ _ _) rfl) ?_
      refine q rfl rfl (mv (v := .int _ _) rfl) ?_
      first | refine q rfl rfl (ixS 38 5 rfl rfl rfl (by omega) (by first | assumption | (simp [ints_length] <;> omega))) ?_ | refine q rfl rfl (ixJ 38 5 rfl rfl rfl (by omega) (by omega) (by first | assumption | (simp [ints_length] <;> omega))) ?_ | refine q rfl rfl (ix 38 5 rfl rfl rfl (by omega) (by omega) rfl) ?_
      first | refine q rfl rfl (ldN (vs := [_, _, _, _, _]) 5 rfl rfl rfl rfl) ?_ | refine q rfl rfl (ldSN (vs := [_, _, _, _, _]) 5 rfl rfl (flat_get_rec ractC_sz ht) rfl (by decide)) ?_ | refine q rfl rfl (ldSN (vs := [_, _, _, _, _]) 5 rfl rfl rfl rfl (by decide)) ?_
      refine e rfl ?_
      refine al (l := [.int _ _, .int _ _, .int _ _, .int _ _, .slice _ _ _]) rfl rfl ?_
      intro b3
      refine e0 ?_
      refine st (v := .agg #[_, _, _, _, _]) (vs := [_, _, _, _, _]) 5 rfl rfl rfl rfl rfl rfl (Nat.le_of_ble_eq_true rfl) rfl ?_
      refine TL.nil (nt ?_)
      refine TC.seq ?_
      refine TC.seq ?_
      refine TC.region ?_
      first | refine q rfl rfl (fa 4 rfl rfl) ?_ | refine q rfl rfl (faS 4 rfl rfl (by first | assumption | (simp [ints_length] <;> omega))) ?_
      first | refine q rfl rfl (ld rfl rfl rfl) ?_ | refine q rfl rfl (ldS rfl rfl (flat_get_rec ractC_sz ht)) ?_ | refine q rfl rfl (ldS rfl rfl rfl) ?_
      refine q rfl rfl (len 3 1 rfl rfl) ?_
      refine q rfl rfl (gtr rfl rfl) ?_
      refine TL.nil (nt ?_)
      first | refine TC.condD rfl (fun hbx => ?_) (fun hbx => ?_) | refine TC.cond rfl (fun hbx => ?_) (fun hbx => ?_)
      · refine TC.seq ?_
        refine TC.region ?_
        refine q rfl rfl (asg (v := .bool _) rfl) ?_
        refine TL.nil (nt ?_)
        refine TC.ret (rt (rb (rt (rt (rb (rt ?_))))))
        exact Ret.i () [_] ⟨rfl, trivial⟩ rfl trivial (ent_take 3 rfl (ent_nil _))
      · have hxs : t.xs.length ≤ 50 := by omega
        refine TC.skip (nt ?_)
        refine TC.seq ?_
        refine TC.region ?_
        refine q rfl rfl (asg (v := .bool _) rfl) ?_
        refine TL.nil (nt ?_)
        refine TC.cut (ι := List Th) (fun Z => RJ Z (i + 1)) (fun Z => [(0, .slice ad l.length cap), (4, .pointer (some ⟨a, 0, none⟩)), (5, .pointer (some ⟨b2, 0, none⟩)), (6, .int .i64 ((i : Nat) : Int)), (7, .pointer (some ⟨b3, 0, none⟩)), (8, .bool true)]) (fun Z => sepL [isQ a Z, isRq b2 Z, pts b3 38 (ractC t), F]) ?_ ?_
        · refine TC.seq ?_
          refine TC.region ?_
          first | refine q rfl rfl (fa 0 rfl rfl) ?_ | refine q rfl rfl (faS 0 rfl rfl (by first | assumption | (simp [ints_length] <;> omega))) ?_
          first | refine q rfl rfl (ld rfl rfl rfl) ?_ | refine q rfl rfl (ldS rfl rfl rfl) ?_
          refine TL.nil (nt ?_)
          refine TC.block ?_
          refine TC.seq ?_
          refine TC.region ?_
          refine q rfl rfl (eqI rfl rfl) ?_
          refine q rfl rfl (asg (v := .bool _) rfl) ?_
          refine TL.nil (nt ?_)
          first | refine TC.condD rfl (fun hk0 => ?_) (fun hk0 => ?_) | refine TC.cond rfl (fun hk0 => ?_) (fun hk0 => ?_)
          · refine TC.draw _ [] [(0, false), (1, false), (2, false), (3, false), (4, false), (5, false), (6, false), (8, false), (9, false), (10, false), (11, false), (12, false), (13, false), (14, false), (7, true), (15, true), (16, false), (17, false)] (by kernel_rfl) (by kernel_rfl) (ent_take 0 rfl (ent_nil _)) ?_
            refine dq rfl rfl rfl (mv (v := .pointer _) rfl) ?_
            first | refine dq rfl rfl rfl (fa 1 rfl rfl) ?_ | refine dq rfl rfl rfl (faS 1 rfl rfl (by first | assumption | (simp [ints_length] <;> omega))) ?_
            first | refine dq rfl rfl rfl (ld rfl rfl rfl) ?_ | refine dq rfl rfl rfl (ldS rfl rfl rfl) ?_
            first | refine dq rfl rfl rfl (fa 2 rfl rfl) ?_ | refine dq rfl rfl rfl (faS 2 rfl rfl (by first | assumption | (simp [ints_length] <;> omega))) ?_
            first | refine dq rfl rfl rfl (ld rfl rfl rfl) ?_ | refine dq rfl rfl rfl (ldS rfl rfl rfl) ?_
            first | refine dq rfl rfl rfl (fa 3 rfl rfl) ?_ | refine dq rfl rfl rfl (faS 3 rfl rfl (by first | assumption | (simp [ints_length] <;> omega))) ?_
            first | refine dq rfl rfl rfl (ld rfl rfl rfl) ?_ | refine dq rfl rfl rfl (ldS rfl rfl rfl) ?_
            refine dq rfl rfl rfl (mv (v := .pointer _) rfl) ?_
            first | refine dq rfl rfl rfl (fa 1 rfl rfl) ?_ | refine dq rfl rfl rfl (faS 1 rfl rfl (by first | assumption | (simp [ints_length] <;> omega))) ?_
            first | refine dq rfl rfl rfl (ld rfl rfl rfl) ?_ | refine dq rfl rfl rfl (ldS rfl rfl rfl) ?_
            first | refine dq rfl rfl rfl (fa 2 rfl rfl) ?_ | refine dq rfl rfl rfl (faS 2 rfl rfl (by first | assumption | (simp [ints_length] <;> omega))) ?_
            first | refine dq rfl rfl rfl (ld rfl rfl rfl) ?_ | refine dq rfl rfl rfl (ldS rfl rfl rfl) ?_
            first | refine dq rfl rfl rfl (fa 3 rfl rfl) ?_ | refine dq rfl rfl rfl (faS 3 rfl rfl (by first | assumption | (simp [ints_length] <;> omega))) ?_
            first | refine dq rfl rfl rfl (ld rfl rfl rfl) ?_ | refine dq rfl rfl rfl (ldS rfl rfl rfl) ?_
            refine de rfl rfl ?_
            refine cl (add_ok a S (by omega) t.id t.prio t.sl) rfl (picked_cons 1 rfl (picked_nil _)) trivial ?_
            intro _ _
            change ent _ _ ∧ TD _ _ _ _ _ _ _ _ _ _ (sepL [_, _, _, _])
            refine ⟨(by repeat (first | exact ent_nil _ | refine ent_take 0 rfl ?_ | refine ent_take 1 rfl ?_ | refine ent_take 2 rfl ?_ | refine ent_take 3 rfl ?_ | refine ent_take 4 rfl ?_ | refine ent_take 5 rfl ?_ | refine ent_take 6 rfl ?_ | refine ent_take 7 rfl ?_)), ?_⟩
            refine de rfl rfl ?_
            refine cl (radd_ok b2 S (by omega) t.id t.prio t.sl) rfl (picked_cons 2 rfl (picked_nil _)) trivial ?_
            intro _ _
            change ent _ _ ∧ TD _ _ _ _ _ _ _ _ _ _ (sepL [_, _, _, _])
            refine ⟨(by repeat (first | exact ent_nil _ | refine ent_take 0 rfl ?_ | refine ent_take 1 rfl ?_ | refine ent_take 2 rfl ?_ | refine ent_take 3 rfl ?_ | refine ent_take 4 rfl ?_ | refine ent_take 5 rfl ?_ | refine ent_take 6 rfl ?_ | refine ent_take 7 rfl ?_)), ?_⟩
            refine dq rfl rfl rfl (eqI rfl rfl) ?_
            refine dq rfl rfl rfl (asg (v := .bool _) rfl) ?_
            refine TD.nil (nb (nt ?_))
            exact ⟨rfl, _, (hJ.add t.id t.prio t.sl), ⟨rfl, rfl, rfl, rfl, rfl, congrArg Value.bool (decide_eq_true rfl), trivial⟩, (ent_take 1 rfl (ent_take 0 rfl (ent_take 0 rfl (ent_take 0 rfl (ent_nil _)))))⟩
          · refine TC.seq ?_
            refine TC.region ?_
            refine q rfl rfl (eqI rfl rfl) ?_
            refine q rfl rfl (asg (v := .bool _) rfl) ?_
            refine TL.nil (nt ?_)
            first | refine TC.condD rfl (fun hk1 => ?_) (fun hk1 => ?_) | refine TC.cond rfl (fun hk1 => ?_) (fun hk1 => ?_)
            · refine TC.draw _ [] [(0, false), (1, false), (2, false), (4, false), (5, false), (6, false), (3, true), (7, true), (8, false), (9, false)] (by kernel_rfl) (by kernel_rfl) (ent_take 0 rfl (ent_nil _)) ?_
              refine dq rfl rfl rfl (mv (v := .pointer _) rfl) ?_
              first | refine dq rfl rfl rfl (fa 4 rfl rfl) ?_ | refine dq rfl rfl rfl (faS 4 rfl rfl (by first | assumption | (simp [ints_length] <;> omega))) ?_
              first | refine dq rfl rfl rfl (ld rfl rfl rfl) ?_ | refine dq rfl rfl rfl (ldS rfl rfl rfl) ?_
              refine dq rfl rfl rfl (mv (v := .pointer _) rfl) ?_
              first | refine dq rfl rfl rfl (fa 4 rfl rfl) ?_ | refine dq rfl rfl rfl (faS 4 rfl rfl (by first | assumption | (simp [ints_length] <;> omega))) ?_
              first | refine dq rfl rfl rfl (ld rfl rfl rfl) ?_ | refine dq rfl rfl rfl (ldS rfl rfl rfl) ?_
              refine de rfl rfl ?_
              refine cl (drop_ok a S (by omega) t.ad t.cap t.xs (by omega)) rfl (picked_cons 1 rfl (picked_nil _)) ⟨_, RdSI.rd (ad := t.ad)⟩ ?_
              intro _ _
              change ent _ _ ∧ TD _ _ _ _ _ _ _ _ _ _ (sepL [_, _, _, _])
              refine ⟨(by repeat (first | exact ent_nil _ | refine ent_take 0 rfl ?_ | refine ent_take 1 rfl ?_ | refine ent_take 2 rfl ?_ | refine ent_take 3 rfl ?_ | refine ent_take 4 rfl ?_ | refine ent_take 5 rfl ?_ | refine ent_take 6 rfl ?_ | refine ent_take 7 rfl ?_)), ?_⟩
              refine de rfl rfl ?_
              refine cl (rdrop_ok b2 S (by omega) t.ad t.cap t.xs (by omega) hJ.inv.nd) rfl (picked_cons 2 rfl (picked_nil _)) ⟨_, RdSI.rd (ad := t.ad)⟩ ?_
              intro _ _
              change ent _ _ ∧ TD _ _ _ _ _ _ _ _ _ _ (sepL [_, _, _, _])
              refine ⟨(by repeat (first | exact ent_nil _ | refine ent_take 0 rfl ?_ | refine ent_take 1 rfl ?_ | refine ent_take 2 rfl ?_ | refine ent_take 3 rfl ?_ | refine ent_take 4 rfl ?_ | refine ent_take 5 rfl ?_ | refine ent_take 6 rfl ?_ | refine ent_take 7 rfl ?_)), ?_⟩
              refine dq rfl rfl rfl (eqI rfl rfl) ?_
              refine dq rfl rfl rfl (asg (v := .bool _) rfl) ?_
              refine TD.nil (nb (nt ?_))
              exact ⟨rfl, _, ((hJ.drop t.xs).next (by omega)), ⟨rfl, rfl, rfl, rfl, rfl, congrArg Value.bool (decide_eq_true rfl), trivial⟩, (ent_take 1 rfl (ent_take 0 rfl (ent_take 0 rfl (ent_take 0 rfl (ent_nil _)))))⟩
            · refine TC.seq ?_
              refine TC.region ?_
              refine q rfl rfl (eqI rfl rfl) ?_
              refine q rfl rfl (asg (v := .bool _) rfl) ?_
              refine TL.nil (nt ?_)
              first | refine TC.condD rfl (fun hk2 => ?_) (fun hk2 => ?_) | refine TC.cond rfl (fun hk2 => ?_) (fun hk2 => ?_)
              · refine TC.region ?_
                refine q rfl rfl (mv (v := .pointer _) rfl) ?_
                refine e rfl ?_
                refine cl (qtick_ok a S (by omega) hJ.l1) rfl (picked_cons 1 rfl (picked_nil _)) trivial ?_
                intro _ _
                change TL _ _ _ _ _ _ _ _ (sepL [_, _, _, _])
                refine q rfl rfl (mv (v := .pointer _) rfl) ?_
                refine e rfl ?_
                refine cl (rtick_ok b2 S (by omega) hJ.inv) rfl (picked_cons 2 rfl (picked_nil _)) trivial ?_
                intro _ _
                change TL _ _ _ _ _ _ _ _ (sepL [_, _, _, _])
                refine q rfl rfl (eqI rfl rfl) ?_
                refine q rfl rfl (asg (v := .bool _) rfl) ?_
                refine TL.nil (nb (nt ?_))
                exact ⟨rfl, _, (hJ.tick.next (by omega)), ⟨rfl, rfl, rfl, rfl, rfl, congrArg Value.bool (decide_eq_true rfl), trivial⟩, (ent_take 1 rfl (ent_take 0 rfl (ent_take 0 rfl (ent_take 0 rfl (ent_nil _)))))⟩
              · refine TC.seq ?_
                refine TC.region ?_
                refine q rfl rfl (eqI rfl rfl) ?_
                refine q rfl rfl (asg (v := .bool _) rfl) ?_
                refine TL.nil (nt ?_)
                first | refine TC.condD rfl (fun hk3 => ?_) (fun hk3 => ?_) | refine TC.cond rfl (fun hk3 => ?_) (fun hk3 => ?_)
                · refine TC.region ?_
                  refine q rfl rfl (mv (v := .pointer _) rfl) ?_
                  refine e rfl ?_
                  refine cl (yield_ok a S (by omega) hJ.inv) rfl (picked_cons 1 rfl (picked_nil _)) trivial ?_
                  intro _ _
                  change TL _ _ _ _ _ _ _ _ (sepL [_, _, _, _])
                  refine q rfl rfl (mv (v := .pointer _) rfl) ?_
                  refine e rfl ?_
                  refine cl (ryield_ok b2 S (by omega) hJ.inv.nd) rfl (picked_cons 2 rfl (picked_nil _)) trivial ?_
                  intro _ _
                  change TL _ _ _ _ _ _ _ _ (sepL [_, _, _, _])
                  refine q rfl rfl (eqI rfl rfl) ?_
                  refine q rfl rfl (asg (v := .bool _) rfl) ?_
                  refine TL.nil (nb (nt ?_))
                  exact ⟨rfl, _, (hJ.yield.next (by omega)), ⟨rfl, rfl, rfl, rfl, rfl, congrArg Value.bool (decide_eq_true rfl), trivial⟩, (ent_take 1 rfl (ent_take 0 rfl (ent_take 0 rfl (ent_take 0 rfl (ent_nil _)))))⟩
                · refine TC.skip (nb (nt ?_))
                  exact ⟨rfl, _, (hJ.next (by omega)), ⟨rfl, rfl, rfl, rfl, rfl, rfl, trivial⟩, (ent_take 1 rfl (ent_take 1 rfl (ent_take 0 rfl (ent_take 0 rfl (ent_nil _)))))⟩
        · rintro Z hJ2 ρ1
          dsimp only [updL] at hJ2 ⊢
          have hzl := hJ2.len
          have hrw := rowI_R hJ2.inv t.prio
          have hrl := rowI_len Z t.prio
          refine TC.seq ?_
          refine TC.region ?_
          refine q rfl rfl (mv (v := .pointer _) rfl) ?_
          first | refine q rfl rfl (fa 1 rfl rfl) ?_ | refine q rfl rfl (faS 1 rfl rfl (by first | assumption | (simp [ints_length] <;> omega))) ?_
          first | refine q rfl rfl (ld rfl rfl rfl) ?_ | refine q rfl rfl (ldS rfl rfl rfl) ?_
          refine e rfl ?_
          refine cl (rof_ok b2 Z (by omega) t.id hJ2.inv.nd) rfl (picked_nil _) (ent_one 1 rfl) ?_
          intro _ _
          change TL _ _ _ _ _ _ _ _ (sepL [_, _, _, _])
          refine q rfl rfl (mv (v := .tuple _) rfl) ?_
          refine q rfl rfl (pu (v := .int _ _) (fun _ => rfl)) ?_
          refine q rfl rfl (pu (v := .int _ _) (fun _ => rfl)) ?_
          refine q rfl rfl (asg (v := .int _ _) rfl) ?_
          refine q rfl rfl (asg (v := .int _ _) rfl) ?_
          refine TL.nil (nt ?_)
          refine TC.seq ?_
          refine TC.open 1 rfl (fun x0 hx0 => ?_)
          obtain ⟨a1, c1⟩ := x0
          clear hx0
          change TC _ _ _ _ _ _ _ (sepL [_, _, _, _, _])
          dsimp only
          refine TC.draw _ [] [(0, false), (1, false), (2, false), (3, false), (5, false), (4, true), (6, true), (7, false), (8, false), (9, false), (10, false), (12, false), (13, false), (14, false), (15, false), (16, false), (11, true), (17, false), (18, false), (19, false), (20, false), (21, false), (22, false), (24, false), (23, true), (25, false), (26, false), (27, false), (28, false), (29, false), (30, false), (32, false), (31, true), (33, false), (34, false), (35, false), (36, false), (37, false), (38, false), (40, false), (41, false), (42, false), (39, true), (43, true), (44, true), (45, false), (46, false)] (by kernel_rfl) (by kernel_rfl) (ent_take 0 rfl (ent_take 2 rfl (ent_nil _))) ?_
          refine dq rfl rfl rfl (mv (v := .bool _) rfl) ?_
          first | refine dq rfl rfl rfl (notD rfl) ?_ | refine dq rfl rfl rfl (notB rfl) ?_
          refine dq rfl rfl rfl (mv (v := .bool _) rfl) ?_
          refine TD.known 134 rfl (b' := false) (by first | decide | simp) ?_
          refine dg rfl rfl rfl rfl (mv (v := .pointer _) rfl) ?_
          refine dg rfl rfl rfl rfl (mv (v := .pointer _) rfl) ?_
          refine deg rfl rfl rfl ?_
          refine cl (run_ok a Z (by omega)) rfl (picked_cons 2 rfl (picked_nil _)) trivial ?_
          intro _ _
          change ent _ _ ∧ TD _ _ _ _ _ _ _ _ _ _ (sepL [_, _, _, _, _])
          refine ⟨(by repeat (first | exact ent_nil _ | refine ent_take 0 rfl ?_ | refine ent_take 1 rfl ?_ | refine ent_take 2 rfl ?_ | refine ent_take 3 rfl ?_ | refine ent_take 4 rfl ?_ | refine ent_take 5 rfl ?_ | refine ent_take 6 rfl ?_ | refine ent_take 7 rfl ?_)), ?_⟩
          refine deg rfl rfl rfl ?_
          refine cl (rrun_ok b2 Z (by omega)) rfl (picked_nil _) (ent_of (ent_close ⟨a1, c1⟩ trivial (ent_take 1 rfl (ent_take 1 rfl (ent_nil _))))) ?_
          intro _ _
          change ent _ _ ∧ TD _ _ _ _ _ _ _ _ _ _ (sepL [_, _, _, _, _])
          refine ⟨(by repeat (first | exact ent_nil _ | refine ent_take 0 rfl ?_ | refine ent_take 1 rfl ?_ | refine ent_take 2 rfl ?_ | refine ent_take 3 rfl ?_ | refine ent_take 4 rfl ?_ | refine ent_take 5 rfl ?_ | refine ent_take 6 rfl ?_ | refine ent_take 7 rfl ?_)), ?_⟩
          refine dg rfl rfl rfl rfl (neI rfl rfl) ?_
          first | refine dq rfl rfl rfl (pkT rfl rfl) ?_ | refine dq rfl rfl rfl (pkF rfl rfl) ?_
          refine dq rfl rfl rfl (mv (v := .bool _) rfl) ?_
          refine TD.known 141 rfl (b' := false) (by first | decide | simp) ?_
          refine dg rfl rfl rfl rfl (mv (v := .pointer _) rfl) ?_
          refine dg rfl rfl rfl rfl (mv (v := .pointer _) rfl) ?_
          first | refine dg rfl rfl rfl rfl (nc rfl) ?_ | refine dg rfl rfl rfl rfl (ncF rfl) ?_ | refine dg rfl rfl rfl rfl (ncS rfl (by first | assumption | (simp [ints_length] <;> omega))) ?_
          first | refine dg rfl rfl rfl rfl (fa 0 rfl rfl) ?_ | refine dg rfl rfl rfl rfl (faS 0 rfl rfl (by first | assumption | (simp [ints_length] <;> omega))) ?_
          first | refine dg rfl rfl rfl rfl (ld rfl rfl rfl) ?_ | refine dg rfl rfl rfl rfl (ldS rfl rfl rfl) ?_
          refine dg rfl rfl rfl rfl (len 67 4 rfl rfl) ?_
          refine deg rfl rfl rfl ?_
          refine cl (qlen_ok a Z (by omega)) rfl (picked_cons 0 rfl (picked_nil _)) trivial ?_
          intro _ _
          change ent _ _ ∧ TD _ _ _ _ _ _ _ _ _ _ (sepL [_, _, _, _, _])
          refine ⟨(by repeat (first | exact ent_nil _ | refine ent_take 0 rfl ?_ | refine ent_take 1 rfl ?_ | refine ent_take 2 rfl ?_ | refine ent_take 3 rfl ?_ | refine ent_take 4 rfl ?_ | refine ent_take 5 rfl ?_ | refine ent_take 6 rfl ?_ | refine ent_take 7 rfl ?_)), ?_⟩
          refine dg rfl rfl rfl rfl (neI rfl rfl) ?_
          first | refine dq rfl rfl rfl (pkT rfl rfl) ?_ | refine dq rfl rfl rfl (pkF rfl rfl) ?_
          refine dq rfl rfl rfl (mv (v := .bool _) rfl) ?_
          refine TD.known 151 rfl (b' := false) (by first | decide | simp) ?_
          refine dg rfl rfl rfl rfl (mv (v := .pointer _) rfl) ?_
          first | refine dg rfl rfl rfl rfl (fa 1 rfl rfl) ?_ | refine dg rfl rfl rfl rfl (faS 1 rfl rfl (by first | assumption | (simp [ints_length] <;> omega))) ?_
          first | refine dg rfl rfl rfl rfl (ld rfl rfl rfl) ?_ | refine dg rfl rfl rfl rfl (ldS rfl rfl rfl) ?_
          refine dg rfl rfl rfl rfl (mv (v := .int _ _) rfl) ?_
          refine deg rfl rfl rfl ?_
          refine cl (qleft_ok a Z (by omega) t.id) rfl (picked_cons 0 rfl (picked_nil _)) trivial ?_
          intro _ _
          change ent _ _ ∧ TD _ _ _ _ _ _ _ _ _ _ (sepL [_, _, _, _, _])
          refine ⟨(by repeat (first | exact ent_nil _ | refine ent_take 0 rfl ?_ | refine ent_take 1 rfl ?_ | refine ent_take 2 rfl ?_ | refine ent_take 3 rfl ?_ | refine ent_take 4 rfl ?_ | refine ent_take 5 rfl ?_ | refine ent_take 6 rfl ?_ | refine ent_take 7 rfl ?_)), ?_⟩
          refine dg rfl rfl rfl rfl (neI rfl rfl) ?_
          first | refine dq rfl rfl rfl (pkT rfl rfl) ?_ | refine dq rfl rfl rfl (pkF rfl rfl) ?_
          refine dq rfl rfl rfl (mv (v := .bool _) rfl) ?_
          refine TD.known 159 rfl (b' := false) (by first | decide | simp) ?_
          refine dg rfl rfl rfl rfl (mv (v := .pointer _) rfl) ?_
          first | refine dg rfl rfl rfl rfl (fa 1 rfl rfl) ?_ | refine dg rfl rfl rfl rfl (faS 1 rfl rfl (by first | assumption | (simp [ints_length] <;> omega))) ?_
          first | refine dg rfl rfl rfl rfl (ld rfl rfl rfl) ?_ | refine dg rfl rfl rfl rfl (ldS rfl rfl rfl) ?_
          refine dg rfl rfl rfl rfl (mv (v := .int _ _) rfl) ?_
          refine deg rfl rfl rfl ?_
          refine cl (qprio_ok a Z (by omega) t.id) rfl (picked_cons 0 rfl (picked_nil _)) trivial ?_
          intro _ _
          change ent _ _ ∧ TD _ _ _ _ _ _ _ _ _ _ (sepL [_, _, _, _, _])
          refine ⟨(by repeat (first | exact ent_nil _ | refine ent_take 0 rfl ?_ | refine ent_take 1 rfl ?_ | refine ent_take 2 rfl ?_ | refine ent_take 3 rfl ?_ | refine ent_take 4 rfl ?_ | refine ent_take 5 rfl ?_ | refine ent_take 6 rfl ?_ | refine ent_take 7 rfl ?_)), ?_⟩
          refine dg rfl rfl rfl rfl (neI rfl rfl) ?_
          first | refine dq rfl rfl rfl (pkT rfl rfl) ?_ | refine dq rfl rfl rfl (pkF rfl rfl) ?_
          refine dq rfl rfl rfl (mv (v := .bool _) rfl) ?_
          refine TD.known 167 rfl (b' := false) (by first | decide | simp) ?_
          refine dg rfl rfl rfl rfl (mv (v := .pointer _) rfl) ?_
          first | refine dg rfl rfl rfl rfl (fa 2 rfl rfl) ?_ | refine dg rfl rfl rfl rfl (faS 2 rfl rfl (by first | assumption | (simp [ints_length] <;> omega))) ?_
          first | refine dg rfl rfl rfl rfl (ld rfl rfl rfl) ?_ | refine dg rfl rfl rfl rfl (ldS rfl rfl rfl) ?_
          refine dg rfl rfl rfl rfl (mv (v := .pointer _) rfl) ?_
          first | refine dg rfl rfl rfl rfl (fa 2 rfl rfl) ?_ | refine dg rfl rfl rfl rfl (faS 2 rfl rfl (by first | assumption | (simp [ints_length] <;> omega))) ?_
          first | refine dg rfl rfl rfl rfl (ld rfl rfl rfl) ?_ | refine dg rfl rfl rfl rfl (ldS rfl rfl rfl) ?_
          refine deg rfl rfl rfl ?_
          refine cl (row_ok a Z (by omega) t.prio) rfl (picked_cons 0 rfl (picked_nil _)) trivial ?_
          intro y1 _
          change ent _ _ ∧ TD _ _ _ _ _ _ _ _ _ _ (sepL [_, _, _, _, _, _])
          refine ⟨(by repeat (first | exact ent_nil _ | refine ent_take 0 rfl ?_ | refine ent_take 1 rfl ?_ | refine ent_take 2 rfl ?_ | refine ent_take 3 rfl ?_ | refine ent_take 4 rfl ?_ | refine ent_take 5 rfl ?_ | refine ent_take 6 rfl ?_ | refine ent_take 7 rfl ?_)), ?_⟩
          rw [hrw]
          refine deg rfl rfl rfl ?_
          refine cl (rrow_ok b2 Z (by omega) t.prio) rfl (picked_nil _) (ent_of (ent_close ⟨a1, c1⟩ trivial (ent_take 2 rfl (ent_take 2 rfl (ent_nil _))))) ?_
          intro y2 _
          change ent _ _ ∧ TD _ _ _ _ _ _ _ _ _ _ (sepL [_, _, _, _, _, _, _])
          refine ⟨(by repeat (first | exact ent_nil _ | refine ent_take 0 rfl ?_ | refine ent_take 1 rfl ?_ | refine ent_take 2 rfl ?_ | refine ent_take 3 rfl ?_ | refine ent_take 4 rfl ?_ | refine ent_take 5 rfl ?_ | refine ent_take 6 rfl ?_ | refine ent_take 7 rfl ?_)), ?_⟩
          refine deg rfl rfl rfl ?_
          refine cl (same_ok y1.1 _ (rowI Z t.prio) y2.1 _ (rowI Z t.prio) (by omega)) rfl (picked_nil _) ⟨⟨_, RdSI.rd (ad := y1.1)⟩, ⟨_, RdSI.rd (ad := y2.1)⟩⟩ ?_
          intro _ _
          change ent _ _ ∧ TD _ _ _ _ _ _ _ _ _ _ (sepL [_, _, _, _, _, _, _])
          refine ⟨(by repeat (first | exact ent_nil _ | refine ent_take 0 rfl ?_ | refine ent_take 1 rfl ?_ | refine ent_take 2 rfl ?_ | refine ent_take 3 rfl ?_ | refine ent_take 4 rfl ?_ | refine ent_take 5 rfl ?_ | refine ent_take 6 rfl ?_ | refine ent_take 7 rfl ?_)), ?_⟩
          rw [decide_eq_true rfl]
          first | refine dg rfl rfl rfl rfl (notD rfl) ?_ | refine dg rfl rfl rfl rfl (notB rfl) ?_
          first | refine dq rfl rfl rfl (pkT rfl rfl) ?_ | refine dq rfl rfl rfl (pkF rfl rfl) ?_
          refine TD.nil (nt ?_)
          refine TC.condF rfl ?_
          refine TC.skip (nb (nt ?_))
          refine TC.region ?_
          refine q rfl rfl (mv (v := .int _ _) rfl) ?_
          first | refine q rfl rfl (addI rfl rfl (by omega) (by omega)) ?_ | refine q rfl rfl (add rfl rfl rfl) ?_
          refine q rfl rfl (asg (v := .int _ _) rfl) ?_
          refine TL.nil (nt ?_)
          exact ⟨rfl, ⟨i + 1, Z⟩, ⟨hJ2, by dsimp only; omega⟩, (by dsimp only; omega), ⟨rfl, rfl, rfl, rfl, trivial⟩, (ent_take 2 rfl (ent_close ⟨a1, c1⟩ trivial (ent_take 2 rfl (ent_take 2 rfl (ent_take 3 rfl (ent_nil _))))))⟩
    · have hzl := hJ.len
      refine TC.exit (et (et (eb (nt ?_))))
      refine TC.seq ?_
      refine TC.seq ?_
      refine TC.region ?_
      refine q rfl rfl (asg (v := .int _ _) rfl) ?_
      refine TL.nil (nt ?_)
      refine TC.block ?_
      refine TC.loop (ι := Nat) (fun j => j ≤ 10) (fun j => [(4, .pointer (some ⟨a, 0, none⟩)), (5, .pointer (some ⟨b2, 0, none⟩)), (11, .int .i64 ((j : Int) - 1))]) (fun j => sepL [isQ a S, isRq b2 S, F]) (fun j => 10 - j) 0 (by omega) ⟨rfl, rfl, rfl, trivial⟩ (ent_take 0 rfl (ent_take 0 rfl (ent_take 0 rfl (ent_nil _)))) ?_
      rintro j hj ρ2
      dsimp only [updL] at hj ⊢
      refine TC.seq ?_
      refine TC.seq ?_
      refine TC.region ?_
      refine q rfl rfl (mv (v := .int _ _) rfl) ?_
      refine q rfl rfl (leq rfl rfl) ?_
      refine TL.nil (nt ?_)
      first | refine TC.condD rfl (fun hj8 => ?_) (fun hj8 => ?_) | refine TC.cond rfl (fun hj8 => ?_) (fun hj8 => ?_)
      · have hrw := rowI_R hJ.inv ((j : Int) - 1)
        have hrl := rowI_len S ((j : Int) - 1)
        refine TC.skip (nt ?_)
        refine TC.seq ?_
        refine TC.block ?_
        refine TC.seq ?_
        refine TC.region ?_
        refine q rfl rfl (mv (v := .pointer _) rfl) ?_
        refine q rfl rfl (mv (v := .int _ _) rfl) ?_
        refine e rfl ?_
        refine cl (row_ok a S (by omega) ((j : Int) - 1)) rfl (picked_cons 0 rfl (picked_nil _)) trivial ?_
        intro y1 _
        change TL _ _ _ _ _ _ _ _ (sepL [_, _, _, _])
        rw [hrw]
        refine q rfl rfl (mv (v := .pointer _) rfl) ?_
        refine q rfl rfl (mv (v := .int _ _) rfl) ?_
        refine e rfl ?_
        refine cl (rrow_ok b2 S (by omega) ((j : Int) - 1)) rfl (picked_nil _) (ent_one 2 rfl) ?_
        intro y2 _
        change TL _ _ _ _ _ _ _ _ (sepL [_, _, _, _, _])
        refine e rfl ?_
        refine cl (same_ok y1.1 _ (rowI S ((j : Int) - 1)) y2.1 _ (rowI S ((j : Int) - 1)) (by omega)) rfl (picked_nil _) ⟨⟨_, RdSI.rd (ad := y1.1)⟩, ⟨_, RdSI.rd (ad := y2.1)⟩⟩ ?_
        intro _ _
        change TL _ _ _ _ _ _ _ _ (sepL [_, _, _, _, _])
        rw [decide_eq_true rfl]
        first | refine q rfl rfl (notD rfl) ?_ | refine q rfl rfl (notB rfl) ?_
        refine q rfl rfl (mv (v := .bool _) rfl) ?_
        refine TL.known 191 rfl (c := false) rfl ?_
        refine qs rfl rfl ?_
        refine qs rfl rfl ?_
        first | refine q rfl rfl (pkT rfl rfl) ?_ | refine q rfl rfl (pkF rfl rfl) ?_
        refine q rfl rfl (mv (v := .bool _) rfl) ?_
        refine TL.known 195 rfl (c := false) rfl ?_
        refine qs rfl rfl ?_
        refine qs rfl rfl ?_
        first | refine q rfl rfl (pkT rfl rfl) ?_ | refine q rfl rfl (pkF rfl rfl) ?_
        refine q rfl rfl (mv (v := .bool _) rfl) ?_
        refine TL.known 199 rfl (c := false) rfl ?_
        refine qg rfl rfl rfl (mv (v := .int _ _) rfl) ?_
        refine qg rfl rfl rfl (lss rfl rfl) ?_
        refine qg rfl rfl rfl (mv (v := .bool _) rfl) ?_
        refine TL.split 202 rfl (fun hneg => ?_) (fun hneg => ?_)
        · have hneg := of_decide_eq_true hneg
          refine qs rfl rfl ?_
          refine qs rfl rfl ?_
          first | refine qg rfl rfl rfl (pkT rfl rfl) ?_ | refine qg rfl rfl rfl (pkF rfl rfl) ?_
          refine qg rfl rfl rfl (mv (v := .bool _) rfl) ?_
          refine TL.known 206 rfl (c := true) rfl ?_
          have hr0 : rowR S ((j : Int) - 1) = [] := by rw [rowR, if_neg (by omega)]
          refine qg rfl rfl rfl (mv (v := .pointer _) rfl) ?_
          refine qg rfl rfl rfl (mv (v := .int _ _) rfl) ?_
          refine eg rfl rfl ?_
          refine cl (row_ok a S (by omega) ((j : Int) - 1)) rfl (picked_cons 2 rfl (picked_nil _)) trivial ?_
          intro y3 _
          change TL _ _ _ _ _ _ _ _ (sepL [_, _, _, _, _, _])
          rw [hr0]
          refine qg rfl rfl rfl (len 3 1 rfl rfl) ?_
          refine qg rfl rfl rfl (neI rfl rfl) ?_
          first | refine qg rfl rfl rfl (pkT rfl rfl) ?_ | refine qg rfl rfl rfl (pkF rfl rfl) ?_
          first | refine q rfl rfl (pkT rfl rfl) ?_ | refine q rfl rfl (pkF rfl rfl) ?_
          refine TL.nil (nt ?_)
          refine TC.condD rfl (fun hc2 => absurd hc2 (by simp)) (fun hc2 => ?_)
          refine TC.skip (nb (nt ?_))
          refine TC.region ?_
          refine q rfl rfl (mv (v := .int _ _) rfl) ?_
          first | refine q rfl rfl (addI rfl rfl (by omega) (by omega)) ?_ | refine q rfl rfl (add rfl rfl rfl) ?_
          refine q rfl rfl (asg (v := .int _ _) rfl) ?_
          refine TL.nil (nt ?_)
          exact ⟨rfl, (j + 1), (by omega), (by omega), ⟨rfl, rfl, congrArg (Value.int .i64) (by omega), trivial⟩, (ent_take 1 rfl (ent_take 3 rfl (ent_take 3 rfl (ent_nil _))))⟩
        · have hneg := of_decide_eq_false hneg
          refine qg rfl rfl rfl (mv (v := .int _ _) rfl) ?_
          refine qg rfl rfl rfl (gtr rfl rfl) ?_
          first | refine qg rfl rfl rfl (pkT rfl rfl) ?_ | refine qg rfl rfl rfl (pkF rfl rfl) ?_
          refine qg rfl rfl rfl (mv (v := .bool _) rfl) ?_
          refine TL.split 206 rfl (fun h7 => ?_) (fun h7 => ?_)
          · have h7 := of_decide_eq_true h7
            have hr0 : rowR S ((j : Int) - 1) = [] := by rw [rowR, if_neg (by omega)]
            refine qg rfl rfl rfl (mv (v := .pointer _) rfl) ?_
            refine qg rfl rfl rfl (mv (v := .int _ _) rfl) ?_
            refine eg rfl rfl ?_
            refine cl (row_ok a S (by omega) ((j : Int) - 1)) rfl (picked_cons 2 rfl (picked_nil _)) trivial ?_
            intro y3 _
            change TL _ _ _ _ _ _ _ _ (sepL [_, _, _, _, _, _])
            rw [hr0]
            refine qg rfl rfl rfl (len 3 1 rfl rfl) ?_
            refine qg rfl rfl rfl (neI rfl rfl) ?_
            first | refine qg rfl rfl rfl (pkT rfl rfl) ?_ | refine qg rfl rfl rfl (pkF rfl rfl) ?_
            first | refine q rfl rfl (pkT rfl rfl) ?_ | refine q rfl rfl (pkF rfl rfl) ?_
            refine TL.nil (nt ?_)
            refine TC.condD rfl (fun hc3 => absurd hc3 (by simp)) (fun hc3 => ?_)
            refine TC.skip (nb (nt ?_))
            refine TC.region ?_
            refine q rfl rfl (mv (v := .int _ _) rfl) ?_
            first | refine q rfl rfl (addI rfl rfl (by omega) (by omega)) ?_ | refine q rfl rfl (add rfl rfl rfl) ?_
            refine q rfl rfl (asg (v := .int _ _) rfl) ?_
            refine TL.nil (nt ?_)
            exact ⟨rfl, (j + 1), (by omega), (by omega), ⟨rfl, rfl, congrArg (Value.int .i64) (by omega), trivial⟩, (ent_take 1 rfl (ent_take 3 rfl (ent_take 3 rfl (ent_nil _))))⟩
          · have h7 := of_decide_eq_false h7
            refine qs rfl rfl ?_
            refine qs rfl rfl ?_
            refine qs rfl rfl ?_
            refine qs rfl rfl ?_
            refine qs rfl rfl ?_
            first | refine qg rfl rfl rfl (pkT rfl rfl) ?_ | refine qg rfl rfl rfl (pkF rfl rfl) ?_
            first | refine q rfl rfl (pkT rfl rfl) ?_ | refine q rfl rfl (pkF rfl rfl) ?_
            refine TL.nil (nt ?_)
            refine TC.condF rfl ?_
            refine TC.skip (nb (nt ?_))
            refine TC.region ?_
            refine q rfl rfl (mv (v := .int _ _) rfl) ?_
            first | refine q rfl rfl (addI rfl rfl (by omega) (by omega)) ?_ | refine q rfl rfl (add rfl rfl rfl) ?_
            refine q rfl rfl (asg (v := .int _ _) rfl) ?_
            refine TL.nil (nt ?_)
            exact ⟨rfl, (j + 1), (by omega), (by omega), ⟨rfl, rfl, congrArg (Value.int .i64) (by omega), trivial⟩, (ent_take 2 rfl (ent_take 2 rfl (ent_take 2 rfl (ent_nil _))))⟩
      · refine TC.exit (et (et (eb (nt ?_))))
        refine TC.seq ?_
        refine TC.region ?_
        refine q rfl rfl (asg (v := .bool _) rfl) ?_
        refine TL.nil (nt ?_)
        refine TC.ret ?_
        exact Ret.i () [_] ⟨rfl, trivial⟩ rfl trivial (ent_take 2 rfl (ent_nil _))

end Go.Proofs.Ytncafknmdmoaoaa
