/-
  Proved here: what functions of this program compute, each as a contract over symbolic states, under the premises that each theorem names (most lines printed by a program of the prover).
-/
import Derived.Test.YtgmniphegombhaaMtW
import Derived.Test.YtgmniphegombhaaMtN
import Derived.Test.YtgmniphegombhaaQLibM
namespace Go.Proofs.Ytgmniphegombhaa
open Go Go.QM
def shiftD (s : MS) (r : Rf) (n : Nat) : Prop := WM s ∧ MR s r ∧ s.ids.length ≤ n ∧ r.S.length ≤ n
theorem shiftD.act {s : MS} {r : Rf} {n : Nat} (h : shiftD s r n) (t : MAct) : shiftD (actM s t) (actF r t) (n + 1) := by
  obtain ⟨h1, h2, h3, h4⟩ := h
  obtain ⟨a1, a2⟩ := h2.act h1 t
  have a3 := act_len s t
  have a4 := act_S r t
  exact ⟨a1, a2, by omega, by omega⟩

set_option maxRecDepth 4000 in
set_option maxHeartbeats 4000000 in
theorem mdoes_ok (a b : Nat) (A : Int → Nat) (s : MS) (r : Rf) (t : MAct) (n : Nat) (hn200 : n ≤ 200) (hJ : shiftD s r n) : FSpec Try.prog 27 [.pointer (some ⟨a, 0, none⟩), .pointer (some ⟨b, 0, none⟩), .agg (mactC t).toArray] noRd [isMa a A s, isRm b r] (fun _ : Int → Nat => .bool true) (fun _ => True) (fun y => [isMa a y (actM s t), isRm b (actF r t)]) := by
  refine FSpec.intro (rs := [.tmp 6]) (by kernel_rfl) Try.func27 rfl Try.ntmps27 (by rfl) rfl ?_
  intro F _
  change TC _ _ _ _ _ _ _ (sepL [_, _, _])
  obtain ⟨hW, hR, hsl, hrl⟩ := hJ
  have hd : r.D.length ≤ 1000 := by rw [hR.len]; omega
  have hs : r.S.length ≤ 100000 := by omega
  have hn := hR.nd hW
  have hsd := hR.srt
  have hil : s.ids.length ≤ 1000 := by omega
  refine TC.seq ?_
  refine TC.region ?_
  refine e rfl ?_
  refine bx (v := .agg #[_, _, _, _, _]) (l := [.int _ _, .int _ _, .int _ _, .int _ _, .bool _]) rfl rfl ?_
  intro b1
  refine q rfl rfl (asg (v := .bool _) rfl) ?_
  refine TL.nil (nt ?_)
  refine TC.seq ?_
  refine TC.seq ?_
  refine TC.region ?_
  first | refine q rfl rfl (fa 0 rfl rfl) ?_ | refine q rfl rfl (faS 0 rfl rfl (by first | assumption | (simp [ints_length] <;> omega))) ?_
  first | refine q rfl rfl (ld rfl rfl rfl) ?_ | refine q rfl rfl (ldS rfl rfl rfl) ?_
  refine TL.nil (nt ?_)
  refine TC.block ?_
  refine TC.seq ?_
  refine TC.region ?_
  refine q rfl rfl (eqI rfl rfl) ?_
  refine q rfl rfl (asg (v := .bool _) rfl) ?_
  refine TL.nil (nt ?_)
  first | refine TC.condD rfl (fun k0 => ?_) (fun k0 => ?_) | refine TC.cond rfl (fun k0 => ?_) (fun k0 => ?_)
  · have hA1 : actM s t = joinL s [t.id] := by rw [actM, if_pos k0]
    have hA2 : actF r t = joinF r t.id := by rw [actF, if_pos k0]
    rw [hA1, hA2]
    obtain ⟨hj1, hj2⟩ := hR.join t.id
    refine TC.seq ?_
    refine TC.drawF _ [] 12 rfl (by kernel_rfl) (by kernel_rfl) (ent_take 0 rfl (ent_nil _)) ?_
    refine fq (i := 0) rfl rfl rfl (by kernel_rfl) (mv (v := .pointer _) rfl) ?_
    first | refine fq (i := 1) rfl rfl rfl (by kernel_rfl) (fa 1 rfl rfl) ?_ | refine fq (i := 1) rfl rfl rfl (by kernel_rfl) (faS 1 rfl rfl (by first | assumption | (simp [ints_length] <;> omega))) ?_
    first | refine fq (i := 2) rfl rfl rfl (by kernel_rfl) (ld rfl rfl rfl) ?_ | refine fq (i := 2) rfl rfl rfl (by kernel_rfl) (ldS rfl rfl rfl) ?_
    refine fq (i := 5) rfl rfl rfl (by kernel_rfl) (mv (v := .pointer _) rfl) ?_
    first | refine fq (i := 6) rfl rfl rfl (by kernel_rfl) (fa 1 rfl rfl) ?_ | refine fq (i := 6) rfl rfl rfl (by kernel_rfl) (faS 1 rfl rfl (by first | assumption | (simp [ints_length] <;> omega))) ?_
    first | refine fq (i := 7) rfl rfl rfl (by kernel_rfl) (ld rfl rfl rfl) ?_ | refine fq (i := 7) rfl rfl rfl (by kernel_rfl) (ldS rfl rfl rfl) ?_
    refine ff (i := 3) (j := 8) rfl rfl rfl rfl (by kernel_rfl) ?_ ?_
    · refine bs (cs := [.int _ _]) rfl ?_
      intro b2
      refine ⟨(by repeat (first | exact ent_nil _ | refine ent_take 0 rfl ?_ | refine ent_take 1 rfl ?_ | refine ent_take 2 rfl ?_ | refine ent_take 3 rfl ?_ | refine ent_take 4 rfl ?_ | refine ent_take 5 rfl ?_ | refine ent_take 6 rfl ?_ | refine ent_take 7 rfl ?_ | refine ent_take 8 rfl ?_ | refine ent_take 9 rfl ?_ | refine ent_take 10 rfl ?_ | refine ent_take 11 rfl ?_ | refine ent_take 12 rfl ?_)), ?_⟩
      refine ff (i := 4) (j := 8) rfl rfl rfl rfl (by kernel_rfl) ?_ ?_
      · refine cl (mjoin_ok a A s (some ⟨b2, 0, none⟩) _ [t.id] (by simp) (by omega)) rfl PkL.p ⟨_, RdSI.rd (ad := some ⟨b2, 0, none⟩)⟩ ?_
        intro A2 _
        change ent _ _ ∧ TF _ _ _ _ _ _ _ _ _ _ _ (sepL [_, _, _, _, _])
        refine ⟨(by repeat (first | exact ent_nil _ | refine ent_take 0 rfl ?_ | refine ent_take 1 rfl ?_ | refine ent_take 2 rfl ?_ | refine ent_take 3 rfl ?_ | refine ent_take 4 rfl ?_ | refine ent_take 5 rfl ?_ | refine ent_take 6 rfl ?_ | refine ent_take 7 rfl ?_ | refine ent_take 8 rfl ?_ | refine ent_take 9 rfl ?_ | refine ent_take 10 rfl ?_ | refine ent_take 11 rfl ?_ | refine ent_take 12 rfl ?_)), ?_⟩
        refine TF.of [(8, true), (9, true), (10, false), (11, false)] (by kernel_rfl) rfl ?_
        refine de rfl rfl ?_
        refine bs (cs := [.int _ _]) rfl ?_
        intro b3
        refine ⟨(by repeat (first | exact ent_nil _ | refine ent_take 0 rfl ?_ | refine ent_take 1 rfl ?_ | refine ent_take 2 rfl ?_ | refine ent_take 3 rfl ?_ | refine ent_take 4 rfl ?_ | refine ent_take 5 rfl ?_ | refine ent_take 6 rfl ?_ | refine ent_take 7 rfl ?_ | refine ent_take 8 rfl ?_ | refine ent_take 9 rfl ?_ | refine ent_take 10 rfl ?_ | refine ent_take 11 rfl ?_ | refine ent_take 12 rfl ?_)), ?_⟩
        refine de rfl rfl ?_
        refine cl (rjoin_ok b r hd hs hn hsd t.id (some ⟨b3, 0, none⟩) _) rfl PkL.p ⟨_, RdSI.rd (ad := some ⟨b3, 0, none⟩)⟩ ?_
        intro _ _
        change ent _ _ ∧ TD _ _ _ _ _ _ _ _ _ _ (sepL [_, _, _, _, _, _])
        refine ⟨(by repeat (first | exact ent_nil _ | refine ent_take 0 rfl ?_ | refine ent_take 1 rfl ?_ | refine ent_take 2 rfl ?_ | refine ent_take 3 rfl ?_ | refine ent_take 4 rfl ?_ | refine ent_take 5 rfl ?_ | refine ent_take 6 rfl ?_ | refine ent_take 7 rfl ?_ | refine ent_take 8 rfl ?_ | refine ent_take 9 rfl ?_ | refine ent_take 10 rfl ?_ | refine ent_take 11 rfl ?_ | refine ent_take 12 rfl ?_)), ?_⟩
        refine dq rfl rfl rfl (eqI rfl rfl) ?_
        refine dq rfl rfl rfl (asg (v := .bool _) rfl) ?_
        refine TD.nil (nt ?_)
        refine TC.ret (rb (rt ?_))
        exact Ret.i A2 [_] ⟨rfl, trivial⟩ (congrArg Value.bool (decide_eq_true hj1)) trivial (by repeat (first | exact ent_nil _ | refine ent_take 0 rfl ?_ | refine ent_take 1 rfl ?_ | refine ent_take 2 rfl ?_ | refine ent_take 3 rfl ?_ | refine ent_take 4 rfl ?_ | refine ent_take 5 rfl ?_ | refine ent_take 6 rfl ?_ | refine ent_take 7 rfl ?_ | refine ent_take 8 rfl ?_ | refine ent_take 9 rfl ?_ | refine ent_take 10 rfl ?_ | refine ent_take 11 rfl ?_ | refine ent_take 12 rfl ?_))
      · refine bs (cs := [.int _ _]) rfl ?_
        intro b4
        refine ⟨(by repeat (first | exact ent_nil _ | refine ent_take 0 rfl ?_ | refine ent_take 1 rfl ?_ | refine ent_take 2 rfl ?_ | refine ent_take 3 rfl ?_ | refine ent_take 4 rfl ?_ | refine ent_take 5 rfl ?_ | refine ent_take 6 rfl ?_ | refine ent_take 7 rfl ?_ | refine ent_take 8 rfl ?_ | refine ent_take 9 rfl ?_ | refine ent_take 10 rfl ?_ | refine ent_take 11 rfl ?_ | refine ent_take 12 rfl ?_)), ?_⟩
        refine TF.of [(4, true), (9, true), (10, false), (11, false)] (by kernel_rfl) rfl ?_
        refine de rfl rfl ?_
        refine cl (mjoin_ok a A s (some ⟨b2, 0, none⟩) _ [t.id] (by simp) (by omega)) rfl PkL.p ⟨_, RdSI.rd (ad := some ⟨b2, 0, none⟩)⟩ ?_
        intro A2 _
        change ent _ _ ∧ TD _ _ _ _ _ _ _ _ _ _ (sepL [_, _, _, _, _, _])
        refine ⟨(by repeat (first | exact ent_nil _ | refine ent_take 0 rfl ?_ | refine ent_take 1 rfl ?_ | refine ent_take 2 rfl ?_ | refine ent_take 3 rfl ?_ | refine ent_take 4 rfl ?_ | refine ent_take 5 rfl ?_ | refine ent_take 6 rfl ?_ | refine ent_take 7 rfl ?_ | refine ent_take 8 rfl ?_ | refine ent_take 9 rfl ?_ | refine ent_take 10 rfl ?_ | refine ent_take 11 rfl ?_ | refine ent_take 12 rfl ?_)), ?_⟩
        refine de rfl rfl ?_
        refine cl (rjoin_ok b r hd hs hn hsd t.id (some ⟨b4, 0, none⟩) _) rfl PkL.p ⟨_, RdSI.rd (ad := some ⟨b4, 0, none⟩)⟩ ?_
        intro _ _
        change ent _ _ ∧ TD _ _ _ _ _ _ _ _ _ _ (sepL [_, _, _, _, _, _])
        refine ⟨(by repeat (first | exact ent_nil _ | refine ent_take 0 rfl ?_ | refine ent_take 1 rfl ?_ | refine ent_take 2 rfl ?_ | refine ent_take 3 rfl ?_ | refine ent_take 4 rfl ?_ | refine ent_take 5 rfl ?_ | refine ent_take 6 rfl ?_ | refine ent_take 7 rfl ?_ | refine ent_take 8 rfl ?_ | refine ent_take 9 rfl ?_ | refine ent_take 10 rfl ?_ | refine ent_take 11 rfl ?_ | refine ent_take 12 rfl ?_)), ?_⟩
        refine dq rfl rfl rfl (eqI rfl rfl) ?_
        refine dq rfl rfl rfl (asg (v := .bool _) rfl) ?_
        refine TD.nil (nt ?_)
        refine TC.ret (rb (rt ?_))
        exact Ret.i A2 [_] ⟨rfl, trivial⟩ (congrArg Value.bool (decide_eq_true hj1)) trivial (by repeat (first | exact ent_nil _ | refine ent_take 0 rfl ?_ | refine ent_take 1 rfl ?_ | refine ent_take 2 rfl ?_ | refine ent_take 3 rfl ?_ | refine ent_take 4 rfl ?_ | refine ent_take 5 rfl ?_ | refine ent_take 6 rfl ?_ | refine ent_take 7 rfl ?_ | refine ent_take 8 rfl ?_ | refine ent_take 9 rfl ?_ | refine ent_take 10 rfl ?_ | refine ent_take 11 rfl ?_ | refine ent_take 12 rfl ?_))
    · refine bs (cs := [.int _ _]) rfl ?_
      intro b5
      refine ⟨(by repeat (first | exact ent_nil _ | refine ent_take 0 rfl ?_ | refine ent_take 1 rfl ?_ | refine ent_take 2 rfl ?_ | refine ent_take 3 rfl ?_ | refine ent_take 4 rfl ?_ | refine ent_take 5 rfl ?_ | refine ent_take 6 rfl ?_ | refine ent_take 7 rfl ?_ | refine ent_take 8 rfl ?_ | refine ent_take 9 rfl ?_ | refine ent_take 10 rfl ?_ | refine ent_take 11 rfl ?_ | refine ent_take 12 rfl ?_)), ?_⟩
      refine TF.of [(3, true), (4, true), (9, true), (10, false), (11, false)] (by kernel_rfl) rfl ?_
      refine de rfl rfl ?_
      refine bs (cs := [.int _ _]) rfl ?_
      intro b6
      refine ⟨(by repeat (first | exact ent_nil _ | refine ent_take 0 rfl ?_ | refine ent_take 1 rfl ?_ | refine ent_take 2 rfl ?_ | refine ent_take 3 rfl ?_ | refine ent_take 4 rfl ?_ | refine ent_take 5 rfl ?_ | refine ent_take 6 rfl ?_ | refine ent_take 7 rfl ?_ | refine ent_take 8 rfl ?_ | refine ent_take 9 rfl ?_ | refine ent_take 10 rfl ?_ | refine ent_take 11 rfl ?_ | refine ent_take 12 rfl ?_)), ?_⟩
      refine de rfl rfl ?_
      refine cl (mjoin_ok a A s (some ⟨b6, 0, none⟩) _ [t.id] (by simp) (by omega)) rfl PkL.p ⟨_, RdSI.rd (ad := some ⟨b6, 0, none⟩)⟩ ?_
      intro A2 _
      change ent _ _ ∧ TD _ _ _ _ _ _ _ _ _ _ (sepL [_, _, _, _, _, _])
      refine ⟨(by repeat (first | exact ent_nil _ | refine ent_take 0 rfl ?_ | refine ent_take 1 rfl ?_ | refine ent_take 2 rfl ?_ | refine ent_take 3 rfl ?_ | refine ent_take 4 rfl ?_ | refine ent_take 5 rfl ?_ | refine ent_take 6 rfl ?_ | refine ent_take 7 rfl ?_ | refine ent_take 8 rfl ?_ | refine ent_take 9 rfl ?_ | refine ent_take 10 rfl ?_ | refine ent_take 11 rfl ?_ | refine ent_take 12 rfl ?_)), ?_⟩
      refine de rfl rfl ?_
      refine cl (rjoin_ok b r hd hs hn hsd t.id (some ⟨b5, 0, none⟩) _) rfl PkL.p ⟨_, RdSI.rd (ad := some ⟨b5, 0, none⟩)⟩ ?_
      intro _ _
      change ent _ _ ∧ TD _ _ _ _ _ _ _ _ _ _ (sepL [_, _, _, _, _, _])
      refine ⟨(by repeat (first | exact ent_nil _ | refine ent_take 0 rfl ?_ | refine ent_take 1 rfl ?_ | refine ent_take 2 rfl ?_ | refine ent_take 3 rfl ?_ | refine ent_take 4 rfl ?_ | refine ent_take 5 rfl ?_ | refine ent_take 6 rfl ?_ | refine ent_take 7 rfl ?_ | refine ent_take 8 rfl ?_ | refine ent_take 9 rfl ?_ | refine ent_take 10 rfl ?_ | refine ent_take 11 rfl ?_ | refine ent_take 12 rfl ?_)), ?_⟩
      refine dq rfl rfl rfl (eqI rfl rfl) ?_
      refine dq rfl rfl rfl (asg (v := .bool _) rfl) ?_
      refine TD.nil (nt ?_)
      refine TC.ret (rb (rt ?_))
      exact Ret.i A2 [_] ⟨rfl, trivial⟩ (congrArg Value.bool (decide_eq_true hj1)) trivial (by repeat (first | exact ent_nil _ | refine ent_take 0 rfl ?_ | refine ent_take 1 rfl ?_ | refine ent_take 2 rfl ?_ | refine ent_take 3 rfl ?_ | refine ent_take 4 rfl ?_ | refine ent_take 5 rfl ?_ | refine ent_take 6 rfl ?_ | refine ent_take 7 rfl ?_ | refine ent_take 8 rfl ?_ | refine ent_take 9 rfl ?_ | refine ent_take 10 rfl ?_ | refine ent_take 11 rfl ?_ | refine ent_take 12 rfl ?_))
  · refine TC.seq ?_
    refine TC.region ?_
    refine q rfl rfl (eqI rfl rfl) ?_
    refine q rfl rfl (asg (v := .bool _) rfl) ?_
    refine TL.nil (nt ?_)
    first | refine TC.condD rfl (fun k1 => ?_) (fun k1 => ?_) | refine TC.cond rfl (fun k1 => ?_) (fun k1 => ?_)
    · have hA1 : actM s t = (offS s t.id ⟨t.fr, t.gt, t.cl⟩).1 := by rw [actM, if_neg k0, if_pos k1]
      have hA2 : actF r t = (offerF r t.id ⟨t.fr, t.gt, t.cl⟩).1 := by rw [actF, if_neg k0, if_pos k1]
      rw [hA1, hA2]
      obtain ⟨hj1, hj2⟩ := hR.offer t.id ⟨t.fr, t.gt, t.cl⟩
      refine TC.seq ?_
      refine TC.draw _ [] [(0, false), (1, false), (2, false), (3, false), (4, false), (6, false), (7, false), (8, false), (9, false), (10, false), (5, true), (11, true), (12, false), (13, false)] (by kernel_rfl) (by kernel_rfl) (ent_take 0 rfl (ent_nil _)) ?_
      refine dq rfl rfl rfl (mv (v := .pointer _) rfl) ?_
      first | refine dq rfl rfl rfl (fa 1 rfl rfl) ?_ | refine dq rfl rfl rfl (faS 1 rfl rfl (by first | assumption | (simp [ints_length] <;> omega))) ?_
      first | refine dq rfl rfl rfl (ld rfl rfl rfl) ?_ | refine dq rfl rfl rfl (ldS rfl rfl rfl) ?_
      first | refine dq rfl rfl rfl (fa 2 rfl rfl) ?_ | refine dq rfl rfl rfl (faS 2 rfl rfl (by first | assumption | (simp [ints_length] <;> omega))) ?_
      first | refine dq rfl rfl rfl (ldN (vs := [_, _, _]) 3 rfl rfl rfl rfl) ?_ | refine dq rfl rfl rfl (ldSN (vs := [_, _, _]) 3 rfl rfl rfl rfl (by decide)) ?_
      refine dq rfl rfl rfl (mv (v := .pointer _) rfl) ?_
      first | refine dq rfl rfl rfl (fa 1 rfl rfl) ?_ | refine dq rfl rfl rfl (faS 1 rfl rfl (by first | assumption | (simp [ints_length] <;> omega))) ?_
      first | refine dq rfl rfl rfl (ld rfl rfl rfl) ?_ | refine dq rfl rfl rfl (ldS rfl rfl rfl) ?_
      first | refine dq rfl rfl rfl (fa 2 rfl rfl) ?_ | refine dq rfl rfl rfl (faS 2 rfl rfl (by first | assumption | (simp [ints_length] <;> omega))) ?_
      first | refine dq rfl rfl rfl (ldN (vs := [_, _, _]) 3 rfl rfl rfl rfl) ?_ | refine dq rfl rfl rfl (ldSN (vs := [_, _, _]) 3 rfl rfl rfl rfl (by decide)) ?_
      refine de rfl rfl ?_
      refine cl (moffer_ok a A s hW t.id ⟨t.fr, t.gt, t.cl⟩ (by omega)) rfl PkL.p trivial ?_
      intro _ _
      change ent _ _ ∧ TD _ _ _ _ _ _ _ _ _ _ (sepL [_, _, _, _])
      refine ⟨(by repeat (first | exact ent_nil _ | refine ent_take 0 rfl ?_ | refine ent_take 1 rfl ?_ | refine ent_take 2 rfl ?_ | refine ent_take 3 rfl ?_ | refine ent_take 4 rfl ?_ | refine ent_take 5 rfl ?_ | refine ent_take 6 rfl ?_ | refine ent_take 7 rfl ?_ | refine ent_take 8 rfl ?_ | refine ent_take 9 rfl ?_ | refine ent_take 10 rfl ?_ | refine ent_take 11 rfl ?_ | refine ent_take 12 rfl ?_)), ?_⟩
      refine de rfl rfl ?_
      refine cl (roffer_ok b r hd hs hn t.id ⟨t.fr, t.gt, t.cl⟩) rfl PkL.p trivial ?_
      intro _ _
      change ent _ _ ∧ TD _ _ _ _ _ _ _ _ _ _ (sepL [_, _, _, _])
      refine ⟨(by repeat (first | exact ent_nil _ | refine ent_take 0 rfl ?_ | refine ent_take 1 rfl ?_ | refine ent_take 2 rfl ?_ | refine ent_take 3 rfl ?_ | refine ent_take 4 rfl ?_ | refine ent_take 5 rfl ?_ | refine ent_take 6 rfl ?_ | refine ent_take 7 rfl ?_ | refine ent_take 8 rfl ?_ | refine ent_take 9 rfl ?_ | refine ent_take 10 rfl ?_ | refine ent_take 11 rfl ?_ | refine ent_take 12 rfl ?_)), ?_⟩
      refine dq rfl rfl rfl (eqI rfl rfl) ?_
      refine dq rfl rfl rfl (asg (v := .bool _) rfl) ?_
      refine TD.nil (nt ?_)
      refine TC.ret (rb (rt ?_))
      exact Ret.i A [_] ⟨rfl, trivial⟩ (congrArg Value.bool (decide_eq_true hj1)) trivial (by repeat (first | exact ent_nil _ | refine ent_take 0 rfl ?_ | refine ent_take 1 rfl ?_ | refine ent_take 2 rfl ?_ | refine ent_take 3 rfl ?_ | refine ent_take 4 rfl ?_ | refine ent_take 5 rfl ?_ | refine ent_take 6 rfl ?_ | refine ent_take 7 rfl ?_ | refine ent_take 8 rfl ?_ | refine ent_take 9 rfl ?_ | refine ent_take 10 rfl ?_ | refine ent_take 11 rfl ?_ | refine ent_take 12 rfl ?_))
    · refine TC.seq ?_
      refine TC.region ?_
      refine q rfl rfl (eqI rfl rfl) ?_
      refine q rfl rfl (asg (v := .bool _) rfl) ?_
      refine TL.nil (nt ?_)
      first | refine TC.condD rfl (fun k2 => ?_) (fun k2 => ?_) | refine TC.cond rfl (fun k2 => ?_) (fun k2 => ?_)
      · have hA1 : actM s t = (openS s t.id).1 := by rw [actM, if_neg k0, if_neg k1, if_pos k2]
        have hA2 : actF r t = (openF r t.id).1 := by rw [actF, if_neg k0, if_neg k1, if_pos k2]
        rw [hA1, hA2]
        obtain ⟨hj1, hj2⟩ := hR.opens t.id
        refine TC.seq ?_
        refine TC.draw _ [] [(0, false), (1, false), (2, false), (4, false), (5, false), (6, false), (3, true), (7, true), (8, false), (9, false)] (by kernel_rfl) (by kernel_rfl) (ent_take 0 rfl (ent_nil _)) ?_
        refine dq rfl rfl rfl (mv (v := .pointer _) rfl) ?_
        first | refine dq rfl rfl rfl (fa 1 rfl rfl) ?_ | refine dq rfl rfl rfl (faS 1 rfl rfl (by first | assumption | (simp [ints_length] <;> omega))) ?_
        first | refine dq rfl rfl rfl (ld rfl rfl rfl) ?_ | refine dq rfl rfl rfl (ldS rfl rfl rfl) ?_
        refine dq rfl rfl rfl (mv (v := .pointer _) rfl) ?_
        first | refine dq rfl rfl rfl (fa 1 rfl rfl) ?_ | refine dq rfl rfl rfl (faS 1 rfl rfl (by first | assumption | (simp [ints_length] <;> omega))) ?_
        first | refine dq rfl rfl rfl (ld rfl rfl rfl) ?_ | refine dq rfl rfl rfl (ldS rfl rfl rfl) ?_
        refine de rfl rfl ?_
        refine cl (mopen_ok a A s hW t.id) rfl PkL.p trivial ?_
        intro _ _
        change ent _ _ ∧ TD _ _ _ _ _ _ _ _ _ _ (sepL [_, _, _, _])
        refine ⟨(by repeat (first | exact ent_nil _ | refine ent_take 0 rfl ?_ | refine ent_take 1 rfl ?_ | refine ent_take 2 rfl ?_ | refine ent_take 3 rfl ?_ | refine ent_take 4 rfl ?_ | refine ent_take 5 rfl ?_ | refine ent_take 6 rfl ?_ | refine ent_take 7 rfl ?_ | refine ent_take 8 rfl ?_ | refine ent_take 9 rfl ?_ | refine ent_take 10 rfl ?_ | refine ent_take 11 rfl ?_ | refine ent_take 12 rfl ?_)), ?_⟩
        refine de rfl rfl ?_
        refine cl (ropen_ok b r hd hs hn t.id) rfl PkL.p trivial ?_
        intro _ _
        change ent _ _ ∧ TD _ _ _ _ _ _ _ _ _ _ (sepL [_, _, _, _])
        refine ⟨(by repeat (first | exact ent_nil _ | refine ent_take 0 rfl ?_ | refine ent_take 1 rfl ?_ | refine ent_take 2 rfl ?_ | refine ent_take 3 rfl ?_ | refine ent_take 4 rfl ?_ | refine ent_take 5 rfl ?_ | refine ent_take 6 rfl ?_ | refine ent_take 7 rfl ?_ | refine ent_take 8 rfl ?_ | refine ent_take 9 rfl ?_ | refine ent_take 10 rfl ?_ | refine ent_take 11 rfl ?_ | refine ent_take 12 rfl ?_)), ?_⟩
        refine dq rfl rfl rfl (eqI rfl rfl) ?_
        refine dq rfl rfl rfl (asg (v := .bool _) rfl) ?_
        refine TD.nil (nt ?_)
        refine TC.ret (rb (rt ?_))
        exact Ret.i A [_] ⟨rfl, trivial⟩ (congrArg Value.bool (decide_eq_true hj1)) trivial (by repeat (first | exact ent_nil _ | refine ent_take 0 rfl ?_ | refine ent_take 1 rfl ?_ | refine ent_take 2 rfl ?_ | refine ent_take 3 rfl ?_ | refine ent_take 4 rfl ?_ | refine ent_take 5 rfl ?_ | refine ent_take 6 rfl ?_ | refine ent_take 7 rfl ?_ | refine ent_take 8 rfl ?_ | refine ent_take 9 rfl ?_ | refine ent_take 10 rfl ?_ | refine ent_take 11 rfl ?_ | refine ent_take 12 rfl ?_))
      · refine TC.seq ?_
        refine TC.region ?_
        refine q rfl rfl (eqI rfl rfl) ?_
        refine q rfl rfl (asg (v := .bool _) rfl) ?_
        refine TL.nil (nt ?_)
        first | refine TC.condD rfl (fun k3 => ?_) (fun k3 => ?_) | refine TC.cond rfl (fun k3 => ?_) (fun k3 => ?_)
        · have hA1 : actM s t = (takeS s t.id).1 := by rw [actM, if_neg k0, if_neg k1, if_neg k2, if_pos k3]
          have hA2 : actF r t = (takeF r t.id).1 := by rw [actF, if_neg k0, if_neg k1, if_neg k2, if_pos k3]
          rw [hA1, hA2]
          obtain ⟨hj1, hj2⟩ := hR.take hW t.id
          refine TC.seq ?_
          refine TC.region ?_
          refine q rfl rfl (mv (v := .pointer _) rfl) ?_
          first | refine q rfl rfl (fa 1 rfl rfl) ?_ | refine q rfl rfl (faS 1 rfl rfl (by first | assumption | (simp [ints_length] <;> omega))) ?_
          first | refine q rfl rfl (ld rfl rfl rfl) ?_ | refine q rfl rfl (ldS rfl rfl rfl) ?_
          refine e rfl ?_
          refine cl (mtake_ok a A s hW t.id) rfl PkL.p trivial ?_
          intro _ _
          change TL _ _ _ _ _ _ _ _ (sepL [_, _, _, _])
          refine q rfl rfl (mv (v := .tuple _) rfl) ?_
          refine q rfl rfl (pu (v := .agg #[_, _, _]) (fun _ => rfl)) ?_
          refine q rfl rfl (pu (v := .int _ _) (fun _ => rfl)) ?_
          refine q rfl rfl (pu (v := .int _ _) (fun _ => rfl)) ?_
          refine e rfl ?_
          refine al (l := [.int _ _, .int _ _, .bool _]) rfl rfl ?_
          intro b7
          refine e0 ?_
          refine st (v := .agg #[_, _, _]) (vs := [_, _, _]) 3 rfl rfl rfl rfl rfl rfl (Nat.le_of_ble_eq_true rfl) rfl ?_
          refine q rfl rfl (asg (v := .int _ _) rfl) ?_
          refine q rfl rfl (asg (v := .int _ _) rfl) ?_
          refine TL.nil (nt ?_)
          refine TC.seq ?_
          refine TC.region ?_
          refine q rfl rfl (mv (v := .pointer _) rfl) ?_
          first | refine q rfl rfl (fa 1 rfl rfl) ?_ | refine q rfl rfl (faS 1 rfl rfl (by first | assumption | (simp [ints_length] <;> omega))) ?_
          first | refine q rfl rfl (ld rfl rfl rfl) ?_ | refine q rfl rfl (ldS rfl rfl rfl) ?_
          refine e rfl ?_
          refine cl (rtake_ok b r hd hs hn t.id) rfl PkL.p trivial ?_
          intro _ _
          change TL _ _ _ _ _ _ _ _ (sepL [_, _, _, _, _])
          rw [← hj1]
          generalize (takeS s t.id).2 = z
          refine q rfl rfl (mv (v := .tuple _) rfl) ?_
          refine q rfl rfl (pu (v := .agg #[_, _, _]) (fun _ => rfl)) ?_
          refine q rfl rfl (pu (v := .int _ _) (fun _ => rfl)) ?_
          refine q rfl rfl (pu (v := .int _ _) (fun _ => rfl)) ?_
          refine e rfl ?_
          refine al (l := [.int _ _, .int _ _, .bool _]) rfl rfl ?_
          intro b8
          refine e0 ?_
          refine st (v := .agg #[_, _, _]) (vs := [_, _, _]) 3 rfl rfl rfl rfl rfl rfl (Nat.le_of_ble_eq_true rfl) rfl ?_
          refine q rfl rfl (asg (v := .int _ _) rfl) ?_
          refine q rfl rfl (asg (v := .int _ _) rfl) ?_
          refine TL.nil (nt ?_)
          refine TC.seq ?_
          refine TC.region ?_
          first | refine q rfl rfl (ldN (vs := [_, _, _]) 3 rfl rfl rfl rfl) ?_ | refine q rfl rfl (ldSN (vs := [_, _, _]) 3 rfl rfl rfl rfl (by decide)) ?_
          first | refine q rfl rfl (ldN (vs := [_, _, _]) 3 rfl rfl rfl rfl) ?_ | refine q rfl rfl (ldSN (vs := [_, _, _]) 3 rfl rfl rfl rfl (by decide)) ?_
          refine q rfl rfl (eqO (by kernel_rfl) rfl rfl) ?_
          refine q rfl rfl (mv (v := .bool _) rfl) ?_
          refine TL.known 83 rfl (c := true) (decide_eq_true ⟨rfl, rfl, rfl⟩) ?_
          refine qg rfl rfl rfl (mv (v := .int _ _) rfl) ?_
          refine qg rfl rfl rfl (mv (v := .int _ _) rfl) ?_
          refine qg rfl rfl rfl (eqI rfl rfl) ?_
          first | refine q rfl rfl (pkT (v := .bool _) rfl rfl) ?_ | refine q rfl rfl (pkF (v := .bool _) rfl rfl) ?_
          refine q rfl rfl (mv (v := .bool _) rfl) ?_
          refine TL.known 88 rfl (c := true) (decide_eq_true rfl) ?_
          refine qg rfl rfl rfl (mv (v := .int _ _) rfl) ?_
          refine qg rfl rfl rfl (mv (v := .int _ _) rfl) ?_
          refine qg rfl rfl rfl (eqI rfl rfl) ?_
          first | refine q rfl rfl (pkT (v := .bool _) rfl rfl) ?_ | refine q rfl rfl (pkF (v := .bool _) rfl rfl) ?_
          refine q rfl rfl (asg (v := .bool _) rfl) ?_
          refine TL.nil (nt ?_)
          refine TC.ret (rb (rt ?_))
          exact Ret.i A [_] ⟨rfl, trivial⟩ (congrArg Value.bool (decide_eq_true rfl)) trivial (by repeat (first | exact ent_nil _ | refine ent_take 0 rfl ?_ | refine ent_take 1 rfl ?_ | refine ent_take 2 rfl ?_ | refine ent_take 3 rfl ?_ | refine ent_take 4 rfl ?_ | refine ent_take 5 rfl ?_ | refine ent_take 6 rfl ?_ | refine ent_take 7 rfl ?_ | refine ent_take 8 rfl ?_ | refine ent_take 9 rfl ?_ | refine ent_take 10 rfl ?_ | refine ent_take 11 rfl ?_ | refine ent_take 12 rfl ?_))
        · refine TC.seq ?_
          refine TC.region ?_
          refine q rfl rfl (eqI rfl rfl) ?_
          refine q rfl rfl (asg (v := .bool _) rfl) ?_
          refine TL.nil (nt ?_)
          first | refine TC.condD rfl (fun k4 => ?_) (fun k4 => ?_) | refine TC.cond rfl (fun k4 => ?_) (fun k4 => ?_)
          · have hA1 : actM s t = (ansS s t.id).1 := by rw [actM, if_neg k0, if_neg k1, if_neg k2, if_neg k3, if_pos k4]
            have hA2 : actF r t = (answerF r t.id).1 := by rw [actF, if_neg k0, if_neg k1, if_neg k2, if_neg k3, if_pos k4]
            rw [hA1, hA2]
            obtain ⟨hj1, hj2⟩ := hR.answer hW t.id
            refine TC.seq ?_
            refine TC.region ?_
            refine q rfl rfl (mv (v := .pointer _) rfl) ?_
            first | refine q rfl rfl (fa 1 rfl rfl) ?_ | refine q rfl rfl (faS 1 rfl rfl (by first | assumption | (simp [ints_length] <;> omega))) ?_
            first | refine q rfl rfl (ld rfl rfl rfl) ?_ | refine q rfl rfl (ldS rfl rfl rfl) ?_
            refine e rfl ?_
            refine cl (manswer_ok a A s hW t.id) rfl PkL.p trivial ?_
            intro _ _
            change TL _ _ _ _ _ _ _ _ (sepL [_, _, _, _])
            refine q rfl rfl (mv (v := .tuple _) rfl) ?_
            refine q rfl rfl (pu (v := .int _ _) (fun _ => rfl)) ?_
            refine q rfl rfl (pu (v := .int _ _) (fun _ => rfl)) ?_
            refine q rfl rfl (asg (v := .int _ _) rfl) ?_
            refine q rfl rfl (asg (v := .int _ _) rfl) ?_
            refine TL.nil (nt ?_)
            refine TC.seq ?_
            refine TC.region ?_
            refine q rfl rfl (mv (v := .pointer _) rfl) ?_
            first | refine q rfl rfl (fa 1 rfl rfl) ?_ | refine q rfl rfl (faS 1 rfl rfl (by first | assumption | (simp [ints_length] <;> omega))) ?_
            first | refine q rfl rfl (ld rfl rfl rfl) ?_ | refine q rfl rfl (ldS rfl rfl rfl) ?_
            refine e rfl ?_
            refine cl (ranswer_ok b r hd hs hn t.id) rfl PkL.p trivial ?_
            intro _ _
            change TL _ _ _ _ _ _ _ _ (sepL [_, _, _, _])
            rw [← hj1]
            generalize (ansS s t.id).2 = z
            refine q rfl rfl (mv (v := .tuple _) rfl) ?_
            refine q rfl rfl (pu (v := .int _ _) (fun _ => rfl)) ?_
            refine q rfl rfl (pu (v := .int _ _) (fun _ => rfl)) ?_
            refine q rfl rfl (asg (v := .int _ _) rfl) ?_
            refine q rfl rfl (asg (v := .int _ _) rfl) ?_
            refine TL.nil (nt ?_)
            refine TC.seq ?_
            refine TC.region ?_
            refine q rfl rfl (mv (v := .int _ _) rfl) ?_
            refine q rfl rfl (mv (v := .int _ _) rfl) ?_
            refine q rfl rfl (eqI rfl rfl) ?_
            refine q rfl rfl (mv (v := .bool _) rfl) ?_
            refine TL.known 112 rfl (c := true) (decide_eq_true rfl) ?_
            refine qg rfl rfl rfl (mv (v := .int _ _) rfl) ?_
            refine qg rfl rfl rfl (mv (v := .int _ _) rfl) ?_
            refine qg rfl rfl rfl (eqI rfl rfl) ?_
            first | refine q rfl rfl (pkT (v := .bool _) rfl rfl) ?_ | refine q rfl rfl (pkF (v := .bool _) rfl rfl) ?_
            refine q rfl rfl (asg (v := .bool _) rfl) ?_
            refine TL.nil (nt ?_)
            refine TC.ret (rb (rt ?_))
            exact Ret.i A [_] ⟨rfl, trivial⟩ (congrArg Value.bool (decide_eq_true rfl)) trivial (by repeat (first | exact ent_nil _ | refine ent_take 0 rfl ?_ | refine ent_take 1 rfl ?_ | refine ent_take 2 rfl ?_ | refine ent_take 3 rfl ?_ | refine ent_take 4 rfl ?_ | refine ent_take 5 rfl ?_ | refine ent_take 6 rfl ?_ | refine ent_take 7 rfl ?_ | refine ent_take 8 rfl ?_ | refine ent_take 9 rfl ?_ | refine ent_take 10 rfl ?_ | refine ent_take 11 rfl ?_ | refine ent_take 12 rfl ?_))
          · refine TC.seq ?_
            refine TC.region ?_
            refine q rfl rfl (eqI rfl rfl) ?_
            refine q rfl rfl (asg (v := .bool _) rfl) ?_
            refine TL.nil (nt ?_)
            first | refine TC.condD rfl (fun k5 => ?_) (fun k5 => ?_) | refine TC.cond rfl (fun k5 => ?_) (fun k5 => ?_)
            · have hA1 : actM s t = (callS s t.id).1 := by rw [actM, if_neg k0, if_neg k1, if_neg k2, if_neg k3, if_neg k4, if_pos k5]
              have hA2 : actF r t = (callF r t.id).1 := by rw [actF, if_neg k0, if_neg k1, if_neg k2, if_neg k3, if_neg k4, if_pos k5]
              rw [hA1, hA2]
              obtain ⟨hj1, hj2⟩ := hR.call hW t.id
              refine TC.seq ?_
              refine TC.draw _ [] [(0, false), (1, false), (2, false), (4, false), (5, false), (6, false), (3, true), (7, true), (8, false), (9, false)] (by kernel_rfl) (by kernel_rfl) (ent_take 0 rfl (ent_nil _)) ?_
              refine dq rfl rfl rfl (mv (v := .pointer _) rfl) ?_
              first | refine dq rfl rfl rfl (fa 1 rfl rfl) ?_ | refine dq rfl rfl rfl (faS 1 rfl rfl (by first | assumption | (simp [ints_length] <;> omega))) ?_
              first | refine dq rfl rfl rfl (ld rfl rfl rfl) ?_ | refine dq rfl rfl rfl (ldS rfl rfl rfl) ?_
              refine dq rfl rfl rfl (mv (v := .pointer _) rfl) ?_
              first | refine dq rfl rfl rfl (fa 1 rfl rfl) ?_ | refine dq rfl rfl rfl (faS 1 rfl rfl (by first | assumption | (simp [ints_length] <;> omega))) ?_
              first | refine dq rfl rfl rfl (ld rfl rfl rfl) ?_ | refine dq rfl rfl rfl (ldS rfl rfl rfl) ?_
              refine de rfl rfl ?_
              refine cl (mcall_ok a A s hW t.id (by omega)) rfl PkL.p trivial ?_
              intro _ _
              change ent _ _ ∧ TD _ _ _ _ _ _ _ _ _ _ (sepL [_, _, _, _])
              refine ⟨(by repeat (first | exact ent_nil _ | refine ent_take 0 rfl ?_ | refine ent_take 1 rfl ?_ | refine ent_take 2 rfl ?_ | refine ent_take 3 rfl ?_ | refine ent_take 4 rfl ?_ | refine ent_take 5 rfl ?_ | refine ent_take 6 rfl ?_ | refine ent_take 7 rfl ?_ | refine ent_take 8 rfl ?_ | refine ent_take 9 rfl ?_ | refine ent_take 10 rfl ?_ | refine ent_take 11 rfl ?_ | refine ent_take 12 rfl ?_)), ?_⟩
              refine de rfl rfl ?_
              refine cl (rcall_ok b r hd hs hn t.id) rfl PkL.p trivial ?_
              intro _ _
              change ent _ _ ∧ TD _ _ _ _ _ _ _ _ _ _ (sepL [_, _, _, _])
              refine ⟨(by repeat (first | exact ent_nil _ | refine ent_take 0 rfl ?_ | refine ent_take 1 rfl ?_ | refine ent_take 2 rfl ?_ | refine ent_take 3 rfl ?_ | refine ent_take 4 rfl ?_ | refine ent_take 5 rfl ?_ | refine ent_take 6 rfl ?_ | refine ent_take 7 rfl ?_ | refine ent_take 8 rfl ?_ | refine ent_take 9 rfl ?_ | refine ent_take 10 rfl ?_ | refine ent_take 11 rfl ?_ | refine ent_take 12 rfl ?_)), ?_⟩
              refine dq rfl rfl rfl (eqI rfl rfl) ?_
              refine dq rfl rfl rfl (asg (v := .bool _) rfl) ?_
              refine TD.nil (nt ?_)
              refine TC.ret (rb (rt ?_))
              exact Ret.i A [_] ⟨rfl, trivial⟩ (congrArg Value.bool (decide_eq_true hj1)) trivial (by repeat (first | exact ent_nil _ | refine ent_take 0 rfl ?_ | refine ent_take 1 rfl ?_ | refine ent_take 2 rfl ?_ | refine ent_take 3 rfl ?_ | refine ent_take 4 rfl ?_ | refine ent_take 5 rfl ?_ | refine ent_take 6 rfl ?_ | refine ent_take 7 rfl ?_ | refine ent_take 8 rfl ?_ | refine ent_take 9 rfl ?_ | refine ent_take 10 rfl ?_ | refine ent_take 11 rfl ?_ | refine ent_take 12 rfl ?_))
            · refine TC.seq ?_
              refine TC.region ?_
              refine q rfl rfl (eqI rfl rfl) ?_
              refine q rfl rfl (asg (v := .bool _) rfl) ?_
              refine TL.nil (nt ?_)
              first | refine TC.condD rfl (fun k6 => ?_) (fun k6 => ?_) | refine TC.cond rfl (fun k6 => ?_) (fun k6 => ?_)
              · have hA1 : actM s t = (leaveS s t.id).1 := by rw [actM, if_neg k0, if_neg k1, if_neg k2, if_neg k3, if_neg k4, if_neg k5, if_pos k6]
                have hA2 : actF r t = (leaveF r t.id).1 := by rw [actF, if_neg k0, if_neg k1, if_neg k2, if_neg k3, if_neg k4, if_neg k5, if_pos k6]
                rw [hA1, hA2]
                obtain ⟨hj1, hj2⟩ := hR.leave hW t.id
                have hgl : (leaveS s t.id).2.1.length ≤ 1000000 := by
                  rw [hj1, leaveF]; split
                  · exact Nat.zero_le _
                  · have h1 := out_len (callF r t.id).1 t.id
                    have h2 := (call_D r t.id).2
                    show (outF (callF r t.id).1 t.id).length ≤ _
                    omega
                refine TC.seq ?_
                refine TC.region ?_
                refine q rfl rfl (mv (v := .pointer _) rfl) ?_
                first | refine q rfl rfl (fa 1 rfl rfl) ?_ | refine q rfl rfl (faS 1 rfl rfl (by first | assumption | (simp [ints_length] <;> omega))) ?_
                first | refine q rfl rfl (ld rfl rfl rfl) ?_ | refine q rfl rfl (ldS rfl rfl rfl) ?_
                refine e rfl ?_
                refine cl (mleave_ok a A s hW t.id (by omega)) rfl PkL.p trivial ?_
                intro y1 _
                change TL _ _ _ _ _ _ _ _ (sepL [_, _, _, _, _])
                refine q rfl rfl (mv (v := .tuple _) rfl) ?_
                refine q rfl rfl (pu (v := .slice _ _ _) (fun _ => rfl)) ?_
                refine q rfl rfl (pu (v := .int _ _) (fun _ => rfl)) ?_
                refine q rfl rfl (asg (v := .slice _ _ _) rfl) ?_
                refine q rfl rfl (asg (v := .int _ _) rfl) ?_
                refine TL.nil (nt ?_)
                refine TC.seq ?_
                refine TC.region ?_
                refine q rfl rfl (mv (v := .pointer _) rfl) ?_
                first | refine q rfl rfl (fa 1 rfl rfl) ?_ | refine q rfl rfl (faS 1 rfl rfl (by first | assumption | (simp [ints_length] <;> omega))) ?_
                first | refine q rfl rfl (ld rfl rfl rfl) ?_ | refine q rfl rfl (ldS rfl rfl rfl) ?_
                refine e rfl ?_
                refine cl (rleave_ok b r hd hs hn t.id) rfl PkL.p trivial ?_
                intro y2 _
                change TL _ _ _ _ _ _ _ _ (sepL [_, _, _, _, _, _])
                rw [← hj1]
                generalize (leaveS s t.id).2 = z at hgl ⊢
                refine q rfl rfl (mv (v := .tuple _) rfl) ?_
                refine q rfl rfl (pu (v := .slice _ _ _) (fun _ => rfl)) ?_
                refine q rfl rfl (pu (v := .int _ _) (fun _ => rfl)) ?_
                refine q rfl rfl (asg (v := .slice _ _ _) rfl) ?_
                refine q rfl rfl (asg (v := .int _ _) rfl) ?_
                refine TL.nil (nt ?_)
                refine TC.seq ?_
                refine TC.region ?_
                refine q rfl rfl (mv (v := .int _ _) rfl) ?_
                refine q rfl rfl (mv (v := .int _ _) rfl) ?_
                refine q rfl rfl (eqI rfl rfl) ?_
                refine q rfl rfl (mv (v := .bool _) rfl) ?_
                refine TL.known 147 rfl (c := true) (decide_eq_true rfl) ?_
                refine qg rfl rfl rfl (mv (v := .slice _ _ _) rfl) ?_
                refine qg rfl rfl rfl (mv (v := .slice _ _ _) rfl) ?_
                refine eg rfl rfl ?_
                refine cl (same_ok y1.1 _ z.1 y2.1 _ z.1 (by omega)) rfl (picked_nil _) ⟨⟨_, RdSI.rd (ad := y1.1)⟩, ⟨_, RdSI.rd (ad := y2.1)⟩⟩ ?_
                intro _ _
                change TL _ _ _ _ _ _ _ _ (sepL [_, _, _, _, _, _])
                first | refine q rfl rfl (pkT (v := .bool _) rfl rfl) ?_ | refine q rfl rfl (pkF (v := .bool _) rfl rfl) ?_
                refine q rfl rfl (asg (v := .bool _) rfl) ?_
                refine TL.nil (nt ?_)
                refine TC.ret (rb (rt ?_))
                exact Ret.i A [_] ⟨rfl, trivial⟩ (congrArg Value.bool (decide_eq_true rfl)) trivial (by repeat (first | exact ent_nil _ | refine ent_take 0 rfl ?_ | refine ent_take 1 rfl ?_ | refine ent_take 2 rfl ?_ | refine ent_take 3 rfl ?_ | refine ent_take 4 rfl ?_ | refine ent_take 5 rfl ?_ | refine ent_take 6 rfl ?_ | refine ent_take 7 rfl ?_ | refine ent_take 8 rfl ?_ | refine ent_take 9 rfl ?_ | refine ent_take 10 rfl ?_ | refine ent_take 11 rfl ?_ | refine ent_take 12 rfl ?_))
              · refine TC.seq ?_
                refine TC.region ?_
                refine q rfl rfl (eqI rfl rfl) ?_
                refine q rfl rfl (asg (v := .bool _) rfl) ?_
                refine TL.nil (nt ?_)
                first | refine TC.condD rfl (fun k7 => ?_) (fun k7 => ?_) | refine TC.cond rfl (fun k7 => ?_) (fun k7 => ?_)
                · have hA1 : actM s t = (closeS s t.id).1 := by rw [actM, if_neg k0, if_neg k1, if_neg k2, if_neg k3, if_neg k4, if_neg k5, if_neg k6, if_pos k7]
                  have hA2 : actF r t = (closeF r t.id).1 := by rw [actF, if_neg k0, if_neg k1, if_neg k2, if_neg k3, if_neg k4, if_neg k5, if_neg k6, if_pos k7]
                  rw [hA1, hA2]
                  obtain ⟨hj1, hj2⟩ := hR.close hW t.id
                  have hcl : ∀ x ∈ r.D, (rowF r.S x).length ≤ 200 := fun x _ => by have := rowF_len r.S x; omega
                  have hgl : (closeS s t.id).2.length ≤ 1000000 := by
                    have h1 := thrF_len (r := r) (g := t.id) (b := 200) (D := r.D) hcl
                    rw [hj1]; show (thrF r t.id r.D).length ≤ _
                    have : 200 * r.D.length ≤ 200 * 1000 := Nat.mul_le_mul_left _ hd
                    omega
                  refine TC.seq ?_
                  refine TC.draw _ [] [(0, false), (1, false), (2, false), (4, false), (5, false), (6, false), (3, true), (7, true), (8, true), (9, false)] (by kernel_rfl) (by kernel_rfl) (ent_take 0 rfl (ent_nil _)) ?_
                  refine dq rfl rfl rfl (mv (v := .pointer _) rfl) ?_
                  first | refine dq rfl rfl rfl (fa 1 rfl rfl) ?_ | refine dq rfl rfl rfl (faS 1 rfl rfl (by first | assumption | (simp [ints_length] <;> omega))) ?_
                  first | refine dq rfl rfl rfl (ld rfl rfl rfl) ?_ | refine dq rfl rfl rfl (ldS rfl rfl rfl) ?_
                  refine dq rfl rfl rfl (mv (v := .pointer _) rfl) ?_
                  first | refine dq rfl rfl rfl (fa 1 rfl rfl) ?_ | refine dq rfl rfl rfl (faS 1 rfl rfl (by first | assumption | (simp [ints_length] <;> omega))) ?_
                  first | refine dq rfl rfl rfl (ld rfl rfl rfl) ?_ | refine dq rfl rfl rfl (ldS rfl rfl rfl) ?_
                  refine de rfl rfl ?_
                  refine cl (mclose_ok a A s hW t.id (by omega)) rfl PkL.p trivial ?_
                  intro y1 _
                  change ent _ _ ∧ TD _ _ _ _ _ _ _ _ _ _ (sepL [_, _, _, _, _])
                  refine ⟨(by repeat (first | exact ent_nil _ | refine ent_take 0 rfl ?_ | refine ent_take 1 rfl ?_ | refine ent_take 2 rfl ?_ | refine ent_take 3 rfl ?_ | refine ent_take 4 rfl ?_ | refine ent_take 5 rfl ?_ | refine ent_take 6 rfl ?_ | refine ent_take 7 rfl ?_ | refine ent_take 8 rfl ?_ | refine ent_take 9 rfl ?_ | refine ent_take 10 rfl ?_ | refine ent_take 11 rfl ?_ | refine ent_take 12 rfl ?_)), ?_⟩
                  refine de rfl rfl ?_
                  refine cl (rclose_ok b r hd hs hn t.id (fun x hx => by have := hcl x hx; omega)) rfl PkL.p trivial ?_
                  intro y2 _
                  change ent _ _ ∧ TD _ _ _ _ _ _ _ _ _ _ (sepL [_, _, _, _, _, _])
                  refine ⟨(by repeat (first | exact ent_nil _ | refine ent_take 0 rfl ?_ | refine ent_take 1 rfl ?_ | refine ent_take 2 rfl ?_ | refine ent_take 3 rfl ?_ | refine ent_take 4 rfl ?_ | refine ent_take 5 rfl ?_ | refine ent_take 6 rfl ?_ | refine ent_take 7 rfl ?_ | refine ent_take 8 rfl ?_ | refine ent_take 9 rfl ?_ | refine ent_take 10 rfl ?_ | refine ent_take 11 rfl ?_ | refine ent_take 12 rfl ?_)), ?_⟩
                  rw [← hj1]
                  generalize (closeS s t.id).2 = z at hgl ⊢
                  refine de rfl rfl ?_
                  refine cl (same_ok y1.1 _ z y2.1 _ z (by omega)) rfl (picked_nil _) ⟨⟨_, RdSI.rd (ad := y1.1)⟩, ⟨_, RdSI.rd (ad := y2.1)⟩⟩ ?_
                  intro _ _
                  change ent _ _ ∧ TD _ _ _ _ _ _ _ _ _ _ (sepL [_, _, _, _, _, _])
                  refine ⟨(by repeat (first | exact ent_nil _ | refine ent_take 0 rfl ?_ | refine ent_take 1 rfl ?_ | refine ent_take 2 rfl ?_ | refine ent_take 3 rfl ?_ | refine ent_take 4 rfl ?_ | refine ent_take 5 rfl ?_ | refine ent_take 6 rfl ?_ | refine ent_take 7 rfl ?_ | refine ent_take 8 rfl ?_ | refine ent_take 9 rfl ?_ | refine ent_take 10 rfl ?_ | refine ent_take 11 rfl ?_ | refine ent_take 12 rfl ?_)), ?_⟩
                  refine dq rfl rfl rfl (asg (v := .bool _) rfl) ?_
                  refine TD.nil (nt ?_)
                  refine TC.ret (rb (rt ?_))
                  exact Ret.i A [_] ⟨rfl, trivial⟩ (congrArg Value.bool (decide_eq_true rfl)) trivial (by repeat (first | exact ent_nil _ | refine ent_take 0 rfl ?_ | refine ent_take 1 rfl ?_ | refine ent_take 2 rfl ?_ | refine ent_take 3 rfl ?_ | refine ent_take 4 rfl ?_ | refine ent_take 5 rfl ?_ | refine ent_take 6 rfl ?_ | refine ent_take 7 rfl ?_ | refine ent_take 8 rfl ?_ | refine ent_take 9 rfl ?_ | refine ent_take 10 rfl ?_ | refine ent_take 11 rfl ?_ | refine ent_take 12 rfl ?_))
                · have hA1 : actM s t = s := by rw [actM, if_neg k0, if_neg k1, if_neg k2, if_neg k3, if_neg k4, if_neg k5, if_neg k6, if_neg k7]
                  have hA2 : actF r t = r := by rw [actF, if_neg k0, if_neg k1, if_neg k2, if_neg k3, if_neg k4, if_neg k5, if_neg k6, if_neg k7]
                  rw [hA1, hA2]
                  refine TC.skip (nb (nt ?_))
                  refine TC.seq ?_
                  refine TC.region ?_
                  refine q rfl rfl (asg (v := .bool _) rfl) ?_
                  refine TL.nil (nt ?_)
                  refine TC.ret ?_
                  exact Ret.i A [_] ⟨rfl, trivial⟩ rfl trivial (by repeat (first | exact ent_nil _ | refine ent_take 0 rfl ?_ | refine ent_take 1 rfl ?_ | refine ent_take 2 rfl ?_ | refine ent_take 3 rfl ?_ | refine ent_take 4 rfl ?_ | refine ent_take 5 rfl ?_ | refine ent_take 6 rfl ?_ | refine ent_take 7 rfl ?_ | refine ent_take 8 rfl ?_ | refine ent_take 9 rfl ?_ | refine ent_take 10 rfl ?_ | refine ent_take 11 rfl ?_ | refine ent_take 12 rfl ?_))

end Go.Proofs.Ytgmniphegombhaa
