/-
  Proved here: what functions of this program compute, each as a contract over symbolic states, under the premises that each theorem names (most lines printed by a program of the prover).
-/
import Derived.Test.YtffoeolgjgpmjaaFoF
import Derived.Test.YtffoeolgjgpmjaaQLibX
import Derived.Test.YtffoeolgjgpmjaaFoG
namespace Go.Proofs.Ytffoeolgjgpmjaa
open Go Go.QM
set_option maxHeartbeats 1000000 in
theorem lifts_ok (ad : Option Addr) (l : List Int) (cap : Nat) (y : Int) (hl8 : ∀ x ∈ l, 0 ≤ x ∧ x ≤ 255) (hy : 0 ≤ y ∧ y ≤ 255) : FSpec Try.prog 5 [.slice ad l.length cap, .int .u8 y] (fun F => ∃ E, RdS F E ad (nums .u8 l)) [] (fun _ : Unit => .bool true) (fun _ => True) (fun _ => []) := by
  refine FSpec.intro (rs := [.tmp 4]) (by kernel_rfl) Try.func5 rfl Try.ntmps5 (by rfl) rfl ?_
  intro F ⟨E, hF⟩
  change TC _ _ _ _ _ _ _ (sepL [_])
  haveI : RdSI F ad E (nums .u8 l) := ⟨hF⟩
  refine TC.seq ?_
  refine TC.region ?_
  refine q rfl rfl (asg (v := .bool _) rfl) ?_
  refine TL.nil (nt ?_)
  refine TC.seq ?_
  refine TC.seq ?_
  refine TC.region ?_
  refine e rfl ?_
  refine cl alive_ok rfl (picked_nil _) trivial ?_
  intro _ _
  change TL _ _ _ _ _ _ _ _ (sepL [_])
  first | refine q rfl rfl (notD rfl) ?_ | refine q rfl rfl (notB rfl) ?_
  refine TL.nil (nt ?_)
  refine TC.condF rfl ?_
  refine TC.skip (nt ?_)
  refine TC.seq ?_
  refine TC.seq ?_
  refine TC.region ?_
  refine q rfl rfl (mv (v := .slice _ _ _) rfl) ?_
  refine q rfl rfl (len 5 1 rfl rfl) ?_
  refine q rfl rfl (eqI rfl rfl) ?_
  refine q rfl rfl (mv (v := .bool _) rfl) ?_
  refine TL.split 17 rfl (fun h0 => ?_) (fun h0 => ?_)
  · have h0 := of_decide_eq_true h0
    refine qs rfl rfl ?_
    refine qs rfl rfl ?_
    refine qs rfl rfl ?_
    first | refine q rfl rfl (pkT rfl rfl) ?_ | refine q rfl rfl (pkF rfl rfl) ?_
    refine TL.nil (nt ?_)
    refine TC.condT rfl ?_
    refine TC.seq ?_
    refine TC.region ?_
    refine q rfl rfl (asg (v := .bool _) rfl) ?_
    refine TL.nil (nt ?_)
    refine TC.ret (rt ?_)
    exact Ret.i () [_] ⟨rfl, trivial⟩ rfl trivial (ent_take 0 rfl (ent_nil _))
  · have h0 := of_decide_eq_false h0
    refine qg rfl rfl rfl (mv (v := .slice _ _ _) rfl) ?_
    refine qg rfl rfl rfl (len 5 1 rfl rfl) ?_
    refine qg rfl rfl rfl (gtr rfl rfl) ?_
    first | refine q rfl rfl (pkT rfl rfl) ?_ | refine q rfl rfl (pkF rfl rfl) ?_
    refine TL.nil (nt ?_)
    first | refine TC.condD rfl (fun hbig => ?_) (fun hbig => ?_) | refine TC.cond rfl (fun hbig => ?_) (fun hbig => ?_)
    · refine TC.seq ?_
      refine TC.region ?_
      refine q rfl rfl (asg (v := .bool _) rfl) ?_
      refine TL.nil (nt ?_)
      refine TC.ret (rt ?_)
      exact Ret.i () [_] ⟨rfl, trivial⟩ rfl trivial (ent_take 0 rfl (ent_nil _))
    · have hl60 : l.length ≤ 60 := by omega
      have hl0 : 0 < l.length := by omega
      refine TC.skip (nt ?_)
      refine TC.seq ?_
      refine TC.region ?_
      refine e rfl ?_
      refine cl fnew_ok rfl (picked_nil _) trivial ?_
      intro a _
      change TL _ _ _ _ _ _ _ _ (sepL [_, _])
      refine q rfl rfl (asg (v := .pointer _) rfl) ?_
      refine TL.nil (nt ?_)
      refine TC.seq ?_
      refine TC.seq ?_
      refine TC.region ?_
      refine q rfl rfl (asg (v := .int _ _) rfl) ?_
      refine TL.nil (nt ?_)
      refine TC.block ?_
      refine TC.loop (ι := Nat) (fun i => i ≤ l.length) (fun i => [(0, .slice ad l.length cap), (1, .int .u8 y), (5, .pointer (some ⟨a, 0, none⟩)), (6, .int .i64 ((i : Nat) : Int))]) (fun i => sepL [isF a (tr o0 l i) (i : Int), F]) (fun i => l.length - i) 0 (Nat.zero_le _) ⟨rfl, rfl, rfl, rfl, trivial⟩ (ent_take 0 rfl (ent_take 0 rfl (ent_nil _))) ?_
      rintro i hi ρ0
      dsimp only [updL] at hi ⊢
      refine TC.seq ?_
      refine TC.seq ?_
      refine TC.region ?_
      refine q rfl rfl (mv (v := .int _ _) rfl) ?_
      refine q rfl rfl (mv (v := .slice _ _ _) rfl) ?_
      refine q rfl rfl (len 5 1 rfl rfl) ?_
      refine q rfl rfl (lss rfl rfl) ?_
      refine TL.nil (nt ?_)
      first | refine TC.condD rfl (fun hlt => ?_) (fun hlt => ?_) | refine TC.cond rfl (fun hlt => ?_) (fun hlt => ?_)
      · have hlt2 : i < l.length := by omega
        obtain ⟨x, hx⟩ : ∃ x, l[i]? = some x := ⟨l[i], List.getElem?_eq_getElem hlt2⟩
        have hx8 := hl8 x (List.mem_of_getElem? hx)
        have hpos : 0 < (nums .u8 l).length := by rw [nums_length]; omega
        have hadd : addN (tr o0 l i) (i : Int) (x % ((i : Int) + 1)) (0, (i : Int)) = (tr o0 l (i + 1), ((i + 1 : Nat) : Int), (i : Int) + 1, 0) := tr_add o0_inj l i hx
        refine TC.skip (nt ?_)
        refine TC.seq ?_
        refine TC.block ?_
        refine TC.region ?_
        refine q rfl rfl (mv (v := .pointer _) rfl) ?_
        refine q rfl rfl (mv (v := .slice _ _ _) rfl) ?_
        refine q rfl rfl (mv (v := .int _ _) rfl) ?_
        first | refine q rfl rfl (ixS 5 1 rfl rfl rfl (by omega) (by first | assumption | (simp [ints_length] <;> omega))) ?_ | refine q rfl rfl (ixJ 5 1 rfl rfl rfl (by omega) (by omega) (by first | assumption | (simp [ints_length] <;> omega))) ?_ | refine q rfl rfl (ix 5 1 rfl rfl rfl (by omega) (by omega) rfl) ?_
        first | refine q rfl rfl (ld rfl rfl rfl) ?_ | refine q rfl rfl (ldS rfl rfl (nums_get hx)) ?_ | refine q rfl rfl (ldS rfl rfl rfl) ?_
        first | refine q rfl rfl (conv .u8 .i64 rfl rfl rfl (wi64 (by omega) (by omega))) ?_ | refine q rfl rfl (conv .u8 .i64 rfl rfl rfl rfl) ?_
        refine q rfl rfl (mv (v := .int _ _) rfl) ?_
        first | refine q rfl rfl (addI rfl rfl (by omega) (by omega)) ?_ | refine q rfl rfl (add rfl rfl rfl) ?_
        first | refine q rfl rfl (remI rfl rfl (by omega) (by omega)) ?_ | refine q rfl rfl (rem rfl rfl (by omega) rfl) ?_
        refine q rfl rfl (mv (v := .int _ _) rfl) ?_
        refine e rfl ?_
        refine cl (fadd_ok a (tr o0 l i) (i : Int) (x % ((i : Int) + 1)) 0 i (by omega)) rfl PkL.p trivial ?_
        intro _ _
        change TL _ _ _ _ _ _ _ _ (sepL [_, _])
        rw [hadd]
        dsimp only
        refine TL.nil (nb (nt ?_))
        refine TC.region ?_
        refine q rfl rfl (mv (v := .int _ _) rfl) ?_
        first | refine q rfl rfl (addI rfl rfl (by omega) (by omega)) ?_ | refine q rfl rfl (add rfl rfl rfl) ?_
        refine q rfl rfl (asg (v := .int _ _) rfl) ?_
        refine TL.nil (nt ?_)
        exact ⟨rfl, (i + 1), (by omega), (by omega), ⟨rfl, rfl, rfl, rfl, trivial⟩, (ent_take 0 rfl (ent_take 0 rfl (ent_nil _)))⟩
      · obtain rfl : i = l.length := by omega
        clear hi hlt
        have hW := tr_wi o0_inj l l.length
        have hlen := tr_len o0 l l.length
        have hhas : ∀ x, hasN (tr o0 l l.length) x ↔ 1 ≤ x ∧ x ≤ (l.length : Int) := fun x => tr_has
        have hm0 := Int.emod_nonneg y (show (l.length : Int) ≠ 0 by omega)
        have hm1 := Int.emod_lt_of_pos y (show (0 : Int) < (l.length : Int) by omega)
        obtain ⟨t, ht, hid⟩ := (hhas (1 + y % (l.length : Int))).2 ⟨by omega, by omega⟩
        have hsp : spN t = (0, t.id - 1) := by
          obtain ⟨j, _, rfl⟩ := tr_mem.1 ht
          dsimp only [spN, o0]; rw [show (j : Int) + 1 - 1 = j by omega]
        have hg := hW.rg t ht
        have hpv : parN (tr o0 l l.length) t.id = t.par := by rw [parN, findN_yes hW.nd ht]
        generalize tr o0 l l.length = L at hW hlen hhas ht hpv ⊢
        have hA := lift_all hW ht
        have hAl := hA.len
        have hE : liftE L t.id = 0 := if_pos ⟨t, ht, rfl⟩
        have hfd : findO (liftN L t.id) (0, t.id - 1) = 0 := by rw [← hsp]; exact lift_find hW ht
        have hkr : kidsR L t.id = kidsN L t.id := if_pos ⟨t, ht, rfl⟩
        have hbl := belR_len hW t.par
        have hkl := kidsN_len L t.id
        have hkp : (kidsR L t.par).length ≤ L.length := by rw [kidsR]; split; exact kidsN_len _ _; simp
        refine TC.exit (et (et (eb (nt ?_))))
        refine TC.seq ?_
        refine TC.region ?_
        refine q rfl rfl (mv (v := .int _ _) rfl) ?_
        first | refine q rfl rfl (conv .u8 .i64 rfl rfl rfl (wi64 (by omega) (by omega))) ?_ | refine q rfl rfl (conv .u8 .i64 rfl rfl rfl rfl) ?_
        refine q rfl rfl (mv (v := .slice _ _ _) rfl) ?_
        refine q rfl rfl (len 5 1 rfl rfl) ?_
        first | refine q rfl rfl (remI rfl rfl (by omega) (by omega)) ?_ | refine q rfl rfl (rem rfl rfl (by omega) rfl) ?_
        first | refine q rfl rfl (addI rfl rfl (by omega) (by omega)) ?_ | refine q rfl rfl (add rfl rfl rfl) ?_
        refine q rfl rfl (asg (v := .int _ _) rfl) ?_
        refine TL.nil (nt ?_)
        refine TC.seq ?_
        refine TC.region ?_
        refine q rfl rfl (mv (v := .pointer _) rfl) ?_
        refine q rfl rfl (mv (v := .int _ _) rfl) ?_
        rw [← hid]
        refine e rfl ?_
        refine cl (fpar_ok a L l.length t.id) rfl PkL.p trivial ?_
        intro _ _
        change TL _ _ _ _ _ _ _ _ (sepL [_, _])
        rw [hpv]
        refine q rfl rfl (asg (v := .int _ _) rfl) ?_
        refine TL.nil (nt ?_)
        refine TC.seq ?_
        refine TC.region ?_
        refine q rfl rfl (mv (v := .pointer _) rfl) ?_
        refine q rfl rfl (mv (v := .int _ _) rfl) ?_
        refine e rfl ?_
        refine cl (fbelow_ok a L l.length t.par (by omega)) rfl PkL.p trivial ?_
        intro y1 _
        change TL _ _ _ _ _ _ _ _ (sepL [_, _, _])
        refine q rfl rfl (len 3 1 rfl rfl) ?_
        refine q rfl rfl (mv (v := .pointer _) rfl) ?_
        refine q rfl rfl (mv (v := .int _ _) rfl) ?_
        refine e rfl ?_
        refine cl (fkids_ok a L l.length t.id (by omega)) rfl PkL.p trivial ?_
        intro y2 _
        change TL _ _ _ _ _ _ _ _ (sepL [_, _, _, _])
        rw [hkr]
        refine q rfl rfl (len 3 1 rfl rfl) ?_
        refine q rfl rfl (asg (v := .int _ _) rfl) ?_
        refine q rfl rfl (asg (v := .int _ _) rfl) ?_
        refine TL.nil (nt ?_)
        refine TC.seq ?_
        refine TC.region ?_
        refine q rfl rfl (mv (v := .pointer _) rfl) ?_
        refine q rfl rfl (mv (v := .int _ _) rfl) ?_
        refine e rfl ?_
        refine cl (fkids_ok a L l.length t.par (by omega)) rfl PkL.p trivial ?_
        intro y3 _
        change TL _ _ _ _ _ _ _ _ (sepL [_, _, _, _, _])
        refine q rfl rfl (len 3 1 rfl rfl) ?_
        refine q rfl rfl (asg (v := .int _ _) rfl) ?_
        refine TL.nil (nt ?_)
        refine TC.seq ?_
        refine TC.seq ?_
        refine TC.region ?_
        refine q rfl rfl (mv (v := .pointer _) rfl) ?_
        refine q rfl rfl (mv (v := .int _ _) rfl) ?_
        refine e rfl ?_
        refine cl (flift_ok a L l.length t.id (by omega)) rfl PkL.p trivial ?_
        intro _ _
        change TL _ _ _ _ _ _ _ _ (sepL [_, _, _, _, _])
        rw [hE]
        refine q rfl rfl (neI rfl rfl) ?_
        refine q rfl rfl (mv (v := .bool _) rfl) ?_
        refine TL.known 65 rfl (c := false) rfl ?_
        refine qg rfl rfl rfl (mv (v := .pointer _) rfl) ?_
        refine eg rfl rfl ?_
        refine cl (flen_ok a (liftN L t.id) l.length) rfl PkL.p trivial ?_
        intro _ _
        change TL _ _ _ _ _ _ _ _ (sepL [_, _, _, _, _])
        refine qg rfl rfl rfl (mv (v := .slice _ _ _) rfl) ?_
        refine qg rfl rfl rfl (len 5 1 rfl rfl) ?_
        first | refine qg rfl rfl rfl (subI rfl rfl (by omega) (by omega)) ?_ | refine qg rfl rfl rfl (sub rfl rfl rfl) ?_
        refine qg rfl rfl rfl (neI rfl rfl) ?_
        first | refine q rfl rfl (pkT rfl rfl) ?_ | refine q rfl rfl (pkF rfl rfl) ?_
        refine q rfl rfl (mv (v := .bool _) rfl) ?_
        refine TL.known 73 rfl (c := false) (decide_eq_false (by omega)) ?_
        refine qg rfl rfl rfl (mv (v := .pointer _) rfl) ?_
        refine qg rfl rfl rfl (mv (v := .int _ _) rfl) ?_
        first | refine qg rfl rfl rfl (subI rfl rfl (by omega) (by omega)) ?_ | refine qg rfl rfl rfl (sub rfl rfl rfl) ?_
        refine eg rfl rfl ?_
        refine cl (ffind_ok a (liftN L t.id) l.length 0 (t.id - 1)) rfl PkL.p trivial ?_
        intro _ _
        change TL _ _ _ _ _ _ _ _ (sepL [_, _, _, _, _])
        rw [hfd]
        refine qg rfl rfl rfl (neI rfl rfl) ?_
        first | refine q rfl rfl (pkT rfl rfl) ?_ | refine q rfl rfl (pkF rfl rfl) ?_
        refine TL.nil (nt ?_)
        refine TC.condD rfl (fun hc1 => absurd hc1 (by decide)) (fun hc1 => ?_)
        refine TC.skip (nt ?_)
        refine TC.seq ?_
        refine TC.region ?_
        refine e rfl ?_
        refine cl alive_ok rfl (picked_nil _) trivial ?_
        intro _ _
        change TL _ _ _ _ _ _ _ _ (sepL [_, _, _, _, _])
        refine q rfl rfl (mv (v := .bool _) rfl) ?_
        refine TL.known 81 rfl (c := true) rfl ?_
        refine qg rfl rfl rfl (mv (v := .int _ _) rfl) ?_
        refine qg rfl rfl rfl (eqI rfl rfl) ?_
        refine qg rfl rfl rfl (mv (v := .bool _) rfl) ?_
        refine TL.split 84 rfl (fun hp0 => ?_) (fun hp0 => ?_)
        · have hp0 := of_decide_eq_true hp0
          refine qs rfl rfl ?_
          refine qs rfl rfl ?_
          refine qs rfl rfl ?_
          refine qs rfl rfl ?_
          refine qs rfl rfl ?_
          refine qs rfl rfl ?_
          refine qs rfl rfl ?_
          refine qs rfl rfl ?_
          refine qsu rfl rfl ?_
          refine qsu rfl rfl ?_
          refine qsu rfl rfl ?_
          refine qsu rfl rfl ?_
          refine qsu rfl rfl ?_
          refine qsu rfl rfl ?_
          refine qsu rfl rfl ?_
          refine qsu rfl rfl ?_
          refine qsu rfl rfl ?_
          refine qs rfl rfl ?_
          first | refine qg rfl rfl rfl (pkT rfl rfl) ?_ | refine qg rfl rfl rfl (pkF rfl rfl) ?_
          first | refine q rfl rfl (pkT rfl rfl) ?_ | refine q rfl rfl (pkF rfl rfl) ?_
          refine q rfl rfl (asg (v := .bool _) rfl) ?_
          refine TL.nil (nt ?_)
          refine TC.ret ?_
          exact Ret.i () [_] ⟨rfl, trivial⟩ rfl trivial (ent_take 4 rfl (ent_nil _))
        · have hp0 := of_decide_eq_false hp0
          have hpar : hasN L t.par := (hhas _).2 ⟨by omega, by omega⟩
          have hpar2 : hasN (liftN L t.id) t.par := (lift_has hA).2 ⟨hpar, by omega⟩
          have hb := lift_bel hW ht hp0
          have hk := lift_kids hW ht hp0
          have e1 : belR L l.length t.par = belL L l.length t.par := if_pos hpar
          have e2 : belR (liftN L t.id) l.length t.par = belL (liftN L t.id) l.length t.par := if_pos hpar2
          have e3 : kidsR L t.par = kidsN L t.par := if_pos hpar
          have e4 : kidsR (liftN L t.id) t.par = kidsN (liftN L t.id) t.par := if_pos hpar2
          rw [← e1, ← e2] at hb
          rw [← e3, ← e4] at hk
          clear e1 e2 e3 e4
          refine qg rfl rfl rfl (mv (v := .pointer _) rfl) ?_
          refine qg rfl rfl rfl (mv (v := .int _ _) rfl) ?_
          refine eg rfl rfl ?_
          refine cl (fbelow_ok a (liftN L t.id) l.length t.par (by omega)) rfl PkL.p trivial ?_
          intro y4 _
          change TL _ _ _ _ _ _ _ _ (sepL [_, _, _, _, _, _])
          refine qg rfl rfl rfl (len 3 1 rfl rfl) ?_
          refine qg rfl rfl rfl (mv (v := .int _ _) rfl) ?_
          first | refine qg rfl rfl rfl (subI rfl rfl (by omega) (by omega)) ?_ | refine qg rfl rfl rfl (sub rfl rfl rfl) ?_
          refine qg rfl rfl rfl (eqI rfl rfl) ?_
          refine qg rfl rfl rfl (mv (v := .bool _) rfl) ?_
          refine TL.known 92 rfl (c := true) (decide_eq_true (by omega)) ?_
          refine qg rfl rfl rfl (mv (v := .pointer _) rfl) ?_
          refine qg rfl rfl rfl (mv (v := .int _ _) rfl) ?_
          refine eg rfl rfl ?_
          refine cl (fkids_ok a (liftN L t.id) l.length t.par (by omega)) rfl PkL.p trivial ?_
          intro y5 _
          change TL _ _ _ _ _ _ _ _ (sepL [_, _, _, _, _, _, _])
          have hfin : decide (((kidsR (liftN L t.id) t.par).length : Int) = ((kidsR L t.par).length : Int) - 1 + ((kidsN L t.id).length : Int)) = true := decide_eq_true (by omega)
          refine qg rfl rfl rfl (len 3 1 rfl rfl) ?_
          refine qg rfl rfl rfl (mv (v := .int _ _) rfl) ?_
          first | refine qg rfl rfl rfl (subI rfl rfl (by omega) (by omega)) ?_ | refine qg rfl rfl rfl (sub rfl rfl rfl) ?_
          refine qg rfl rfl rfl (mv (v := .int _ _) rfl) ?_
          first | refine qg rfl rfl rfl (addI rfl rfl (by omega) (by omega)) ?_ | refine qg rfl rfl rfl (add rfl rfl rfl) ?_
          refine qg rfl rfl rfl (eqI rfl rfl) ?_
          first | refine qg rfl rfl rfl (pkT rfl rfl) ?_ | refine qg rfl rfl rfl (pkF rfl rfl) ?_
          first | refine qg rfl rfl rfl (pkT rfl rfl) ?_ | refine qg rfl rfl rfl (pkF rfl rfl) ?_
          first | refine q rfl rfl (pkT rfl rfl) ?_ | refine q rfl rfl (pkF rfl rfl) ?_
          refine q rfl rfl (asg (v := .bool _) rfl) ?_
          refine TL.nil (nt ?_)
          refine TC.ret ?_
          exact Ret.i () [_] ⟨rfl, trivial⟩ (by rw [hfin]; rfl) trivial (ent_take 6 rfl (ent_nil _))

end Go.Proofs.Ytffoeolgjgpmjaa
