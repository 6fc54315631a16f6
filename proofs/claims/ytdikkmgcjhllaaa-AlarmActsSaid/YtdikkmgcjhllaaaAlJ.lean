/-
  Proved here: what functions of this program compute, each as a contract over symbolic states, under the premises that each theorem names (most lines printed by a program of the prover).
-/
import Derived.Test.YtdikkmgcjhllaaaAlI
import Derived.Test.YtdikkmgcjhllaaaQLibW
namespace Go.Proofs.Ytdikkmgcjhllaaa
open Go Go.QM
theorem set_nd {Q : List En} (h : Nd Q) (now tn id ticks : Int) : Nd (setA Q now tn id ticks).1 := by
  rw [setA]
  split
  · exact h
  · split
    · exact h
    · rename_i h1
      exact snoc_nd h fun a ha e2 => h1 ⟨a, ha, e2⟩
theorem clr_nd {Q : List En} (h : Nd Q) (xs : List Int) : Nd (clrA Q xs) := h.sublist ((clrA_sub Q xs).map _)
theorem rest_nd {Q : List En} (h : Nd Q) (t : Int) : Nd (restA t Q) := h.sublist (List.filter_sublist.map _)

set_option maxHeartbeats 1000000 in
theorem actslaw_ok (ad : Option Addr) (l : List AAct) (cap : Nat) (hD : ∀ t ∈ l, (-9223372036854775808 ≤ t.kind ∧ t.kind ≤ 9223372036854775807) ∧ (-9223372036854775808 ≤ t.id ∧ t.id ≤ 9223372036854775807) ∧ (-9223372036854775808 ≤ t.n ∧ t.n ≤ 9223372036854775807)) : FSpec Try.prog 6 [.slice ad l.length cap] (fun F => (∃ E, RdS F E ad (aactsC l)) ∧ ∀ t ∈ l, ∃ E, RdS F E t.ad (ints t.xs)) [] (fun _ : Unit => .bool true) (fun _ => True) (fun _ => []) := by
  refine FSpec.intro (rs := [.tmp 2]) (by kernel_rfl) Try.func6 rfl Try.ntmps6 (by rfl) rfl ?_
  intro F ⟨⟨E, hF⟩, hin⟩
  change TC _ _ _ _ _ _ _ (sepL [_])
  haveI : RdSI F ad E (aactsC l) := ⟨hF⟩
  refine TC.seq ?_
  refine TC.region ?_
  refine q rfl rfl (asg (v := .bool _) rfl) ?_
  refine TL.nil (nt ?_)
  refine TC.seq ?_
  refine TC.seq ?_
  refine TC.region ?_
  refine e rfl ?_
  refine cl alive_ok rfl (picked_nil _) trivial ?_
  intro _ _
  change TL _ _ _ _ _ _ _ _ (sepL [_])
  first | refine q rfl rfl (notD rfl) ?_ | refine q rfl rfl (notB rfl) ?_
  refine TL.nil (nt ?_)
  refine TC.condF rfl ?_
  refine TC.skip (nt ?_)
  refine TC.seq ?_
  refine TC.seq ?_
  refine TC.region ?_
  refine q rfl rfl (mv (v := .slice _ _ _) rfl) ?_
  refine q rfl rfl (len 36 4 rfl rfl) ?_
  refine q rfl rfl (gtr rfl rfl) ?_
  refine TL.nil (nt ?_)
  first | refine TC.condD rfl (fun hbig => ?_) (fun hbig => ?_) | refine TC.cond rfl (fun hbig => ?_) (fun hbig => ?_)
  · refine TC.seq ?_
    refine TC.region ?_
    refine q rfl rfl (asg (v := .bool _) rfl) ?_
    refine TL.nil (nt ?_)
    refine TC.ret (rt ?_)
    exact Ret.i () [_] ⟨rfl, trivial⟩ rfl trivial (ent_take 0 rfl (ent_nil _))
  · have hL : l.length ≤ 100 := by omega
    refine TC.skip (nt ?_)
    refine TC.seq ?_
    refine TC.region ?_
    refine q rfl rfl (asg (v := .pointer _) rfl) ?_
    refine TL.nil (nt ?_)
    refine TC.seq ?_
    refine TC.seq ?_
    refine TC.region ?_
    refine q rfl rfl (mv (v := .pointer _) rfl) ?_
    refine e rfl ?_
    refine cl (set_nil 1 1) rfl (picked_nil _) trivial ?_
    intro _ _
    change TL _ _ _ _ _ _ _ _ (sepL [_])
    refine q rfl rfl (neI rfl rfl) ?_
    refine q rfl rfl (mv (v := .bool _) rfl) ?_
    refine TL.known 17 rfl (c := false) (by first | decide | simp) ?_
    refine qg rfl rfl rfl (mv (v := .pointer _) rfl) ?_
    refine eg rfl rfl ?_
    refine bs (cs := [.int _ _]) rfl ?_
    intro b1
    refine eg rfl rfl ?_
    refine cl (clear_nil _ _ [1] (by decide)) rfl (picked_nil _) ⟨_, RdSI.rd⟩ ?_
    intro _ _
    change TL _ _ _ _ _ _ _ _ (sepL [_, _])
    refine qg rfl rfl rfl (mv (v := .pointer _) rfl) ?_
    refine eg rfl rfl ?_
    refine cl (left_nil 1) rfl (picked_nil _) trivial ?_
    intro _ _
    change TL _ _ _ _ _ _ _ _ (sepL [_, _])
    first | refine qg rfl rfl rfl (addI rfl rfl (by omega) (by omega)) ?_ | refine qg rfl rfl rfl (add rfl rfl rfl) ?_
    refine qg rfl rfl rfl (mv (v := .pointer _) rfl) ?_
    refine eg rfl rfl ?_
    refine cl next_nil rfl (picked_nil _) trivial ?_
    intro _ _
    change TL _ _ _ _ _ _ _ _ (sepL [_, _])
    first | refine qg rfl rfl rfl (addI rfl rfl (by omega) (by omega)) ?_ | refine qg rfl rfl rfl (add rfl rfl rfl) ?_
    refine qg rfl rfl rfl (mv (v := .pointer _) rfl) ?_
    refine eg rfl rfl ?_
    refine cl len_nil rfl (picked_nil _) trivial ?_
    intro _ _
    change TL _ _ _ _ _ _ _ _ (sepL [_, _])
    first | refine qg rfl rfl rfl (addI rfl rfl (by omega) (by omega)) ?_ | refine qg rfl rfl rfl (add rfl rfl rfl) ?_
    refine qg rfl rfl rfl (mv (v := .pointer _) rfl) ?_
    refine eg rfl rfl ?_
    refine cl now_nil rfl (picked_nil _) trivial ?_
    intro _ _
    change TL _ _ _ _ _ _ _ _ (sepL [_, _])
    first | refine qg rfl rfl rfl (addI rfl rfl (by omega) (by omega)) ?_ | refine qg rfl rfl rfl (add rfl rfl rfl) ?_
    refine qg rfl rfl rfl (mv (v := .pointer _) rfl) ?_
    refine eg rfl rfl ?_
    refine cl tick_nil rfl (picked_nil _) trivial ?_
    intro _ _
    change TL _ _ _ _ _ _ _ _ (sepL [_, _])
    refine qg rfl rfl rfl (len 3 1 rfl rfl) ?_
    first | refine qg rfl rfl rfl (addI rfl rfl (by omega) (by omega)) ?_ | refine qg rfl rfl rfl (add rfl rfl rfl) ?_
    refine qg rfl rfl rfl (neI rfl rfl) ?_
    first | refine q rfl rfl (pkT rfl rfl) ?_ | refine q rfl rfl (pkF rfl rfl) ?_
    refine TL.nil (nt ?_)
    refine TC.condD rfl (fun hc1 => absurd hc1 (by decide)) (fun hc1 => ?_)
    refine TC.skip (nt ?_)
    refine TC.seq ?_
    refine TC.region ?_
    refine e rfl ?_
    refine cl new_ok rfl (picked_nil _) trivial ?_
    intro a _
    change TL _ _ _ _ _ _ _ _ (sepL [_, _, _])
    refine q rfl rfl (asg (v := .pointer _) rfl) ?_
    refine TL.nil (nt ?_)
    refine TC.seq ?_
    refine TC.region ?_
    first | refine q rfl rfl (bld (cs := [.int _ _, .slice _ _ _, .slice _ _ _]) rfl) ?_ | refine q rfl rfl (bld (cs := [_, _, _]) rfl) ?_
    refine e rfl ?_
    refine bx (v := .agg #[_, _, _]) (l := [.int _ _, .slice _ _ _, .slice _ _ _]) rfl rfl ?_
    intro b2
    refine q rfl rfl (asg (v := .pointer _) rfl) ?_
    refine TL.nil (nt ?_)
    refine TC.seq ?_
    refine TC.seq ?_
    refine TC.region ?_
    refine q rfl rfl (asg (v := .int _ _) rfl) ?_
    refine TL.nil (nt ?_)
    refine TC.block ?_
    refine TC.weak (B := sepL [isAl a 0 0 [], isRf b2 0 [], F]) ((slc_nil 3 1 _).trans ((slc_nil 3 1 _).trans (ent_take 3 rfl (ent_close ⟨(none, 0), (none, 0)⟩ trivial (ent_take 2 rfl (ent_take 0 rfl (ent_take 0 rfl (ent_take 1 rfl (ent_nil _))))))))) ?_
    refine TC.loop (ι := Nat × List En × Int × Int) (fun s => QI s.2.1 s.2.2.1 s.2.2.2 (41 * s.1) ∧ Nd s.2.1 ∧ s.1 ≤ l.length) (fun s => [(0, .slice ad l.length cap), (4, .pointer (some ⟨a, 0, none⟩)), (5, .pointer (some ⟨b2, 0, none⟩)), (6, .int .i64 ((s.1 : Nat) : Int))]) (fun s => sepL [isAl a s.2.2.1 s.2.2.2 s.2.1, isRf b2 s.2.2.1 s.2.1, F]) (fun s => l.length - s.1) ⟨0, [], 0, 0⟩ ⟨QI.start, List.nodup_nil, Nat.zero_le _⟩ ⟨rfl, rfl, rfl, rfl, trivial⟩ (ent_take 0 rfl (ent_take 0 rfl (ent_take 0 rfl (ent_nil _)))) ?_
    rintro ⟨i, Q, now, tn⟩ ⟨hinv, hnd, hi⟩ ρ0
    dsimp only [updL] at hinv hnd hi ⊢
    refine TC.seq ?_
    refine TC.seq ?_
    refine TC.region ?_
    refine q rfl rfl (mv (v := .int _ _) rfl) ?_
    refine q rfl rfl (mv (v := .slice _ _ _) rfl) ?_
    refine q rfl rfl (len 36 4 rfl rfl) ?_
    refine q rfl rfl (lss rfl rfl) ?_
    refine TL.nil (nt ?_)
    first | refine TC.condD rfl (fun hlt => ?_) (fun hlt => ?_) | refine TC.cond rfl (fun hlt => ?_) (fun hlt => ?_)
    · have hlt2 : i < l.length := by omega
      obtain ⟨t, ht⟩ : ∃ t, l[i]? = some t := ⟨l[i], List.getElem?_eq_getElem hlt2⟩
      obtain ⟨E2, hE2⟩ := hin t (List.mem_of_getElem? ht)
      haveI : RdSI F t.ad E2 (ints t.xs) := ⟨hE2⟩
      have hpos : 0 < (aactsC l).length := by rw [aactsC_length]; omega
      have hbd := hinv.bd (by omega)
      have hat := hinv.at2 (by omega)
      have hlen := hinv.len
      refine TC.skip (nt ?_)
      refine TC.seq ?_
      refine TC.block ?_
      refine TC.seq ?_
      refine TC.region ?_
      refine q rfl rfl (mv (v := .slice _ _ _) rfl) ?_
      refine q rfl rfl (mv (v := .int _ _) rfl) ?_
      first | refine q rfl rfl (ixS 36 4 rfl rfl rfl (by omega) (by first | assumption | (simp [ints_length] <;> omega))) ?_ | refine q rfl rfl (ixJ 36 4 rfl rfl rfl (by omega) (by omega) (by first | assumption | (simp [ints_length] <;> omega))) ?_ | refine q rfl rfl (ix 36 4 rfl rfl rfl (by omega) (by omega) rfl) ?_
      first | refine q rfl rfl (ldN (vs := [_, _, _, _]) 4 rfl rfl rfl rfl) ?_ | refine q rfl rfl (ldSN (vs := [_, _, _, _]) 4 rfl rfl (flat_get_rec aactC_sz ht) rfl (by decide)) ?_ | refine q rfl rfl (ldSN (vs := [_, _, _, _]) 4 rfl rfl rfl rfl (by decide)) ?_
      refine e rfl ?_
      refine al (l := [.int _ _, .int _ _, .int _ _, .slice _ _ _]) rfl rfl ?_
      intro b3
      refine e0 ?_
      refine st (v := .agg #[_, _, _, _]) (vs := [_, _, _, _]) 4 rfl rfl rfl rfl rfl rfl (Nat.le_of_ble_eq_true rfl) rfl ?_
      refine TL.nil (nt ?_)
      refine TC.seq ?_
      refine TC.seq ?_
      refine TC.region ?_
      first | refine q rfl rfl (fa 3 rfl rfl) ?_ | refine q rfl rfl (faS 3 rfl rfl (by first | assumption | (simp [ints_length] <;> omega))) ?_
      first | refine q rfl rfl (ld rfl rfl rfl) ?_ | refine q rfl rfl (ldS rfl rfl (flat_get_rec aactC_sz ht)) ?_ | refine q rfl rfl (ldS rfl rfl rfl) ?_
      refine q rfl rfl (len 3 1 rfl rfl) ?_
      refine q rfl rfl (gtr rfl rfl) ?_
      refine TL.nil (nt ?_)
      first | refine TC.condD rfl (fun hbx => ?_) (fun hbx => ?_) | refine TC.cond rfl (fun hbx => ?_) (fun hbx => ?_)
      · refine TC.seq ?_
        refine TC.region ?_
        refine q rfl rfl (asg (v := .bool _) rfl) ?_
        refine TL.nil (nt ?_)
        refine TC.ret (rt (rb (rt (rt (rb (rt ?_))))))
        exact Ret.i () [_] ⟨rfl, trivial⟩ rfl trivial (ent_take 3 rfl (ent_nil _))
      · have hxs : t.xs.length ≤ 50 := by omega
        refine TC.skip (nt ?_)
        refine TC.cut (ι := List En × Int × Int) (fun s => QI s.1 s.2.1 s.2.2 (41 * i + 41) ∧ Nd s.1) (fun s => [(0, .slice ad l.length cap), (4, .pointer (some ⟨a, 0, none⟩)), (5, .pointer (some ⟨b2, 0, none⟩)), (6, .int .i64 ((i : Nat) : Int)), (7, .pointer (some ⟨b3, 0, none⟩))]) (fun s => sepL [isAl a s.2.1 s.2.2 s.1, isRf b2 s.2.1 s.1, pts b3 36 (aactC t), F]) ?_ ?_
        · refine TC.seq ?_
          refine TC.region ?_
          first | refine q rfl rfl (fa 0 rfl rfl) ?_ | refine q rfl rfl (faS 0 rfl rfl (by first | assumption | (simp [ints_length] <;> omega))) ?_
          first | refine q rfl rfl (ld rfl rfl rfl) ?_ | refine q rfl rfl (ldS rfl rfl rfl) ?_
          refine TL.nil (nt ?_)
          refine TC.block ?_
          refine TC.seq ?_
          refine TC.region ?_
          refine q rfl rfl (eqI rfl rfl) ?_
          refine q rfl rfl (asg (v := .bool _) rfl) ?_
          refine TL.nil (nt ?_)
          first | refine TC.condD rfl (fun hk0 => ?_) (fun hk0 => ?_) | refine TC.cond rfl (fun hk0 => ?_) (fun hk0 => ?_)
          · refine TC.seq ?_
            refine TC.draw _ [] [(0, false), (1, false), (2, false), (3, false), (4, false), (6, false), (7, false), (8, false), (9, false), (10, false), (5, true), (11, true), (12, false)] (by kernel_rfl) (by kernel_rfl) (ent_take 0 rfl (ent_nil _)) ?_
            refine dq rfl rfl rfl (mv (v := .pointer _) rfl) ?_
            first | refine dq rfl rfl rfl (fa 1 rfl rfl) ?_ | refine dq rfl rfl rfl (faS 1 rfl rfl (by first | assumption | (simp [ints_length] <;> omega))) ?_
            first | refine dq rfl rfl rfl (ld rfl rfl rfl) ?_ | refine dq rfl rfl rfl (ldS rfl rfl rfl) ?_
            first | refine dq rfl rfl rfl (fa 2 rfl rfl) ?_ | refine dq rfl rfl rfl (faS 2 rfl rfl (by first | assumption | (simp [ints_length] <;> omega))) ?_
            first | refine dq rfl rfl rfl (ld rfl rfl rfl) ?_ | refine dq rfl rfl rfl (ldS rfl rfl rfl) ?_
            refine dq rfl rfl rfl (mv (v := .pointer _) rfl) ?_
            first | refine dq rfl rfl rfl (fa 1 rfl rfl) ?_ | refine dq rfl rfl rfl (faS 1 rfl rfl (by first | assumption | (simp [ints_length] <;> omega))) ?_
            first | refine dq rfl rfl rfl (ld rfl rfl rfl) ?_ | refine dq rfl rfl rfl (ldS rfl rfl rfl) ?_
            first | refine dq rfl rfl rfl (fa 2 rfl rfl) ?_ | refine dq rfl rfl rfl (faS 2 rfl rfl (by first | assumption | (simp [ints_length] <;> omega))) ?_
            first | refine dq rfl rfl rfl (ld rfl rfl rfl) ?_ | refine dq rfl rfl rfl (ldS rfl rfl rfl) ?_
            refine de rfl rfl ?_
            refine cl (set_ok a now tn Q hbd t.id t.n) rfl (picked_cons 1 rfl (picked_nil _)) trivial ?_
            intro _ _
            change ent _ _ ∧ TD _ _ _ _ _ _ _ _ _ _ (sepL [_, _, _, _])
            refine ⟨(by repeat (first | exact ent_nil _ | refine ent_take 0 rfl ?_ | refine ent_take 1 rfl ?_ | refine ent_take 2 rfl ?_ | refine ent_take 3 rfl ?_ | refine ent_take 4 rfl ?_ | refine ent_take 5 rfl ?_ | refine ent_take 6 rfl ?_ | refine ent_take 7 rfl ?_)), ?_⟩
            refine de rfl rfl ?_
            refine cl (rset_ok b2 now tn Q t.id t.n (by omega)) rfl (picked_cons 2 rfl (picked_nil _)) trivial ?_
            intro _ _
            change ent _ _ ∧ TD _ _ _ _ _ _ _ _ _ _ (sepL [_, _, _, _])
            refine ⟨(by repeat (first | exact ent_nil _ | refine ent_take 0 rfl ?_ | refine ent_take 1 rfl ?_ | refine ent_take 2 rfl ?_ | refine ent_take 3 rfl ?_ | refine ent_take 4 rfl ?_ | refine ent_take 5 rfl ?_ | refine ent_take 6 rfl ?_ | refine ent_take 7 rfl ?_)), ?_⟩
            refine dq rfl rfl rfl (neI rfl rfl) ?_
            refine TD.nil (nt ?_)
            refine TC.condD rfl (fun hc2 => absurd hc2 (by simp)) (fun hc2 => ?_)
            refine TC.skip (nb (nt ?_))
            exact ⟨rfl, ⟨_, now, _⟩, ⟨(hinv.set t.id t.n).next (by first | omega | (dsimp only; omega)), set_nd hnd _ _ _ _⟩, ⟨rfl, rfl, rfl, rfl, rfl, trivial⟩, (ent_take 1 rfl (ent_take 0 rfl (ent_take 0 rfl (ent_take 0 rfl (ent_nil _)))))⟩
          · refine TC.seq ?_
            refine TC.region ?_
            refine q rfl rfl (eqI rfl rfl) ?_
            refine q rfl rfl (asg (v := .bool _) rfl) ?_
            refine TL.nil (nt ?_)
            first | refine TC.condD rfl (fun hk1 => ?_) (fun hk1 => ?_) | refine TC.cond rfl (fun hk1 => ?_) (fun hk1 => ?_)
            · refine TC.seq ?_
              refine TC.draw _ [] [(0, false), (1, false), (2, false), (4, false), (5, false), (6, false), (3, true), (7, true), (8, false)] (by kernel_rfl) (by kernel_rfl) (ent_take 0 rfl (ent_nil _)) ?_
              refine dq rfl rfl rfl (mv (v := .pointer _) rfl) ?_
              first | refine dq rfl rfl rfl (fa 3 rfl rfl) ?_ | refine dq rfl rfl rfl (faS 3 rfl rfl (by first | assumption | (simp [ints_length] <;> omega))) ?_
              first | refine dq rfl rfl rfl (ld rfl rfl rfl) ?_ | refine dq rfl rfl rfl (ldS rfl rfl rfl) ?_
              refine dq rfl rfl rfl (mv (v := .pointer _) rfl) ?_
              first | refine dq rfl rfl rfl (fa 3 rfl rfl) ?_ | refine dq rfl rfl rfl (faS 3 rfl rfl (by first | assumption | (simp [ints_length] <;> omega))) ?_
              first | refine dq rfl rfl rfl (ld rfl rfl rfl) ?_ | refine dq rfl rfl rfl (ldS rfl rfl rfl) ?_
              refine de rfl rfl ?_
              refine cl (clear_ok a now tn Q hbd t.ad t.cap t.xs (by omega)) rfl (picked_cons 1 rfl (picked_nil _)) ⟨_, RdSI.rd (ad := t.ad)⟩ ?_
              intro _ _
              change ent _ _ ∧ TD _ _ _ _ _ _ _ _ _ _ (sepL [_, _, _, _])
              refine ⟨(by repeat (first | exact ent_nil _ | refine ent_take 0 rfl ?_ | refine ent_take 1 rfl ?_ | refine ent_take 2 rfl ?_ | refine ent_take 3 rfl ?_ | refine ent_take 4 rfl ?_ | refine ent_take 5 rfl ?_ | refine ent_take 6 rfl ?_ | refine ent_take 7 rfl ?_)), ?_⟩
              refine de rfl rfl ?_
              refine cl (rclear_ok b2 now Q t.ad t.cap t.xs (by omega) (by omega) hnd) rfl (picked_cons 2 rfl (picked_nil _)) ⟨_, RdSI.rd (ad := t.ad)⟩ ?_
              intro _ _
              change ent _ _ ∧ TD _ _ _ _ _ _ _ _ _ _ (sepL [_, _, _, _])
              refine ⟨(by repeat (first | exact ent_nil _ | refine ent_take 0 rfl ?_ | refine ent_take 1 rfl ?_ | refine ent_take 2 rfl ?_ | refine ent_take 3 rfl ?_ | refine ent_take 4 rfl ?_ | refine ent_take 5 rfl ?_ | refine ent_take 6 rfl ?_ | refine ent_take 7 rfl ?_)), ?_⟩
              refine dq rfl rfl rfl (neI rfl rfl) ?_
              refine TD.nil (nt ?_)
              refine TC.condD rfl (fun hc3 => absurd hc3 (by simp)) (fun hc3 => ?_)
              refine TC.skip (nb (nt ?_))
              exact ⟨rfl, ⟨_, now, tn⟩, ⟨(hinv.clr t.xs).next (by first | omega | (dsimp only; omega)), clr_nd hnd _⟩, ⟨rfl, rfl, rfl, rfl, rfl, trivial⟩, (ent_take 1 rfl (ent_take 0 rfl (ent_take 0 rfl (ent_take 0 rfl (ent_nil _)))))⟩
            · refine TC.seq ?_
              refine TC.region ?_
              refine q rfl rfl (eqI rfl rfl) ?_
              refine q rfl rfl (asg (v := .bool _) rfl) ?_
              refine TL.nil (nt ?_)
              first | refine TC.condD rfl (fun hk2 => ?_) (fun hk2 => ?_) | refine TC.cond rfl (fun hk2 => ?_) (fun hk2 => ?_)
              · refine TC.seq ?_
                refine TC.region ?_
                refine q rfl rfl (asg (v := .int _ _) rfl) ?_
                refine TL.nil (nt ?_)
                refine TC.block ?_
                refine TC.loop (ι := Nat × List En × Int) (fun s => QI s.2.1 s.2.2 tn (41 * i + s.1) ∧ Nd s.2.1 ∧ s.1 ≤ 40) (fun s => [(0, .slice ad l.length cap), (4, .pointer (some ⟨a, 0, none⟩)), (5, .pointer (some ⟨b2, 0, none⟩)), (6, .int .i64 ((i : Nat) : Int)), (7, .pointer (some ⟨b3, 0, none⟩)), (8, .int .i64 ((s.1 : Nat) : Int))]) (fun s => sepL [isAl a s.2.2 tn s.2.1, isRf b2 s.2.2 s.2.1, pts b3 36 (aactC t), F]) (fun s => 40 - s.1) ⟨0, Q, now⟩ ⟨hinv, hnd, by omega⟩ ⟨rfl, rfl, rfl, rfl, rfl, rfl, trivial⟩ (ent_take 1 rfl (ent_take 1 rfl (ent_take 0 rfl (ent_take 0 rfl (ent_nil _))))) ?_
                rintro ⟨k, Z, nw⟩ ⟨hz, hzn, hk⟩ ρ2
                dsimp only [updL] at hz hzn hk ⊢
                refine TC.seq ?_
                refine TC.seq ?_
                refine TC.region ?_
                refine q rfl rfl (mv (v := .int _ _) rfl) ?_
                first | refine q rfl rfl (fa 2 rfl rfl) ?_ | refine q rfl rfl (faS 2 rfl rfl (by first | assumption | (simp [ints_length] <;> omega))) ?_
                first | refine q rfl rfl (ld rfl rfl rfl) ?_ | refine q rfl rfl (ldS rfl rfl rfl) ?_
                refine q rfl rfl (lss rfl rfl) ?_
                refine q rfl rfl (mv (v := .bool _) rfl) ?_
                refine TL.split 90 rfl (fun hkn => ?_) (fun hkn => ?_)
                · have hkn := of_decide_eq_true hkn
                  refine qg rfl rfl rfl (mv (v := .int _ _) rfl) ?_
                  refine qg rfl rfl rfl (lss rfl rfl) ?_
                  first | refine q rfl rfl (pkT rfl rfl) ?_ | refine q rfl rfl (pkF rfl rfl) ?_
                  refine TL.nil (nt ?_)
                  first | refine TC.condD rfl (fun hk40 => ?_) (fun hk40 => ?_) | refine TC.cond rfl (fun hk40 => ?_) (fun hk40 => ?_)
                  · have hdl := due_le (nw + 1) Z
                    have hzl := hz.len
                    have hzw := hz.nw
                    refine TC.skip (nt ?_)
                    refine TC.seq ?_
                    refine TC.block ?_
                    refine TC.seq ?_
                    refine TC.region ?_
                    refine q rfl rfl (mv (v := .pointer _) rfl) ?_
                    refine e rfl ?_
                    refine cl (tick_ok a nw tn Z (hz.bd (by omega)) (hz.at2 (by omega))) rfl (picked_cons 0 rfl (picked_nil _)) trivial ?_
                    intro y1 _
                    change TL _ _ _ _ _ _ _ _ (sepL [_, _, _, _, _])
                    refine q rfl rfl (mv (v := .pointer _) rfl) ?_
                    refine e rfl ?_
                    refine cl (rtick_ok b2 nw Z (by omega) (by omega) (hz.at2 (by omega)) hzn) rfl (picked_cons 2 rfl (picked_nil _)) trivial ?_
                    intro y2 _
                    change TL _ _ _ _ _ _ _ _ (sepL [_, _, _, _, _, _])
                    refine e rfl ?_
                    refine cl (same_ok y1.1 _ (ids (dueA (nw + 1) Z)) y2.1 _ (ids (dueA (nw + 1) Z)) (by omega)) rfl (picked_nil _) ⟨⟨_, RdSI.rd (ad := y1.1)⟩, ⟨_, RdSI.rd (ad := y2.1)⟩⟩ ?_
                    intro _ _
                    change TL _ _ _ _ _ _ _ _ (sepL [_, _, _, _, _, _])
                    rw [decide_eq_true rfl]
                    first | refine q rfl rfl (notD rfl) ?_ | refine q rfl rfl (notB rfl) ?_
                    refine TL.nil (nt ?_)
                    refine TC.condF rfl ?_
                    refine TC.skip (nb (nt ?_))
                    refine TC.region ?_
                    refine q rfl rfl (mv (v := .int _ _) rfl) ?_
                    first | refine q rfl rfl (addI rfl rfl (by omega) (by omega)) ?_ | refine q rfl rfl (add rfl rfl rfl) ?_
                    refine q rfl rfl (asg (v := .int _ _) rfl) ?_
                    refine TL.nil (nt ?_)
                    exact ⟨rfl, ⟨k + 1, restA (nw + 1) Z, nw + 1⟩, ⟨hz.tick, rest_nd hzn _, by dsimp only; omega⟩, (by dsimp only; omega), ⟨rfl, rfl, rfl, rfl, rfl, rfl, trivial⟩, (ent_take 3 rfl (ent_take 0 rfl (ent_take 2 rfl (ent_take 2 rfl (ent_nil _)))))⟩
                  · refine TC.exit (et (et (eb (nb (nt ?_)))))
                    exact ⟨rfl, ⟨Z, nw, tn⟩, ⟨hz.next (by first | omega | (dsimp only; omega)), hzn⟩, ⟨rfl, rfl, rfl, rfl, rfl, trivial⟩, (ent_take 0 rfl (ent_take 0 rfl (ent_take 0 rfl (ent_take 0 rfl (ent_nil _)))))⟩
                · have hkn := of_decide_eq_false hkn
                  refine qs rfl rfl ?_
                  refine qs rfl rfl ?_
                  first | refine q rfl rfl (pkT rfl rfl) ?_ | refine q rfl rfl (pkF rfl rfl) ?_
                  refine TL.nil (nt ?_)
                  refine TC.condF rfl ?_
                  refine TC.exit (et (et (eb (nb (nt ?_)))))
                  exact ⟨rfl, ⟨Z, nw, tn⟩, ⟨hz.next (by first | omega | (dsimp only; omega)), hzn⟩, ⟨rfl, rfl, rfl, rfl, rfl, trivial⟩, (ent_take 0 rfl (ent_take 0 rfl (ent_take 0 rfl (ent_take 0 rfl (ent_nil _)))))⟩
              · refine TC.skip (nb (nt ?_))
                exact ⟨rfl, ⟨Q, now, tn⟩, ⟨hinv.next (by first | omega | (dsimp only; omega)), hnd⟩, ⟨rfl, rfl, rfl, rfl, rfl, trivial⟩, (ent_take 1 rfl (ent_take 1 rfl (ent_take 0 rfl (ent_take 0 rfl (ent_nil _)))))⟩
        · rintro ⟨Q2, now2, tn2⟩ ⟨hinv2, hnd2⟩ ρ1
          dsimp only [updL] at hinv2 hnd2 ⊢
          have hbd2 := hinv2.bd (by omega)
          have hat2 := hinv2.at1 (by omega)
          have hlen2 := hinv2.len
          have hgt2 : ∀ x ∈ Q2, now2 < x.at_ := fun x hx => (hinv2.rg x hx).1
          refine TC.seq ?_
          refine TC.open 1 rfl (fun x0 hx0 => ?_)
          obtain ⟨⟨a1, c1⟩, ⟨a2, c2⟩⟩ := x0
          clear hx0
          change TC _ _ _ _ _ _ _ (sepL [_, _, _, _, _, _])
          refine TC.draw _ [] [(0, false), (2, false), (3, false), (4, false), (5, false), (1, true), (6, false), (7, false), (8, false), (10, false), (9, true), (11, true), (12, false), (13, false), (14, false), (15, false), (17, false), (18, false), (19, false), (20, false), (21, false), (16, true), (22, false), (23, false), (24, false), (25, false), (26, false), (27, false), (29, false), (30, false), (31, false), (28, true), (32, true), (33, false), (34, false)] (by kernel_rfl) (by kernel_rfl) (ent_take 0 rfl (ent_take 3 rfl (ent_nil _))) ?_
          refine dq rfl rfl rfl (mv (v := .pointer _) rfl) ?_
          refine dq rfl rfl rfl (mv (v := .pointer _) rfl) ?_
          first | refine dq rfl rfl rfl (nc rfl) ?_ | refine dq rfl rfl rfl (ncF rfl) ?_ | refine dq rfl rfl rfl (ncS rfl (by first | assumption | (simp [ints_length] <;> omega))) ?_
          first | refine dq rfl rfl rfl (fa 0 rfl rfl) ?_ | refine dq rfl rfl rfl (faS 0 rfl rfl (by first | assumption | (simp [ints_length] <;> omega))) ?_
          first | refine dq rfl rfl rfl (ld rfl rfl rfl) ?_ | refine dq rfl rfl rfl (ldS rfl rfl rfl) ?_
          refine de rfl rfl ?_
          refine cl (now_ok a now2 tn2 Q2) rfl (picked_cons 3 rfl (picked_nil _)) trivial ?_
          intro _ _
          change ent _ _ ∧ TD _ _ _ _ _ _ _ _ _ _ (sepL [_, _, _, _, _, _])
          refine ⟨(by repeat (first | exact ent_nil _ | refine ent_take 0 rfl ?_ | refine ent_take 1 rfl ?_ | refine ent_take 2 rfl ?_ | refine ent_take 3 rfl ?_ | refine ent_take 4 rfl ?_ | refine ent_take 5 rfl ?_ | refine ent_take 6 rfl ?_ | refine ent_take 7 rfl ?_)), ?_⟩
          refine dq rfl rfl rfl (neI rfl rfl) ?_
          refine dq rfl rfl rfl (mv (v := .bool _) rfl) ?_
          refine TD.known 109 rfl (b' := false) (by first | decide | simp) ?_
          refine dg rfl rfl rfl rfl (mv (v := .pointer _) rfl) ?_
          refine dg rfl rfl rfl rfl (mv (v := .pointer _) rfl) ?_
          refine deg rfl rfl rfl ?_
          refine cl (next_ok a now2 tn2 Q2 hbd2 hat2) rfl (picked_cons 0 rfl (picked_nil _)) trivial ?_
          intro _ _
          change ent _ _ ∧ TD _ _ _ _ _ _ _ _ _ _ (sepL [_, _, _, _, _, _])
          refine ⟨(by repeat (first | exact ent_nil _ | refine ent_take 0 rfl ?_ | refine ent_take 1 rfl ?_ | refine ent_take 2 rfl ?_ | refine ent_take 3 rfl ?_ | refine ent_take 4 rfl ?_ | refine ent_take 5 rfl ?_ | refine ent_take 6 rfl ?_ | refine ent_take 7 rfl ?_)), ?_⟩
          refine deg rfl rfl rfl ?_
          refine cl (rnext_ok b2 now2 Q2 (by omega) hgt2) rfl (picked_nil _) (ent_of (ent_close ⟨(a1, c1), (a2, c2)⟩ trivial (ent_take 1 rfl (ent_take 1 rfl (ent_take 1 rfl (ent_nil _)))))) ?_
          intro _ _
          change ent _ _ ∧ TD _ _ _ _ _ _ _ _ _ _ (sepL [_, _, _, _, _, _])
          refine ⟨(by repeat (first | exact ent_nil _ | refine ent_take 0 rfl ?_ | refine ent_take 1 rfl ?_ | refine ent_take 2 rfl ?_ | refine ent_take 3 rfl ?_ | refine ent_take 4 rfl ?_ | refine ent_take 5 rfl ?_ | refine ent_take 6 rfl ?_ | refine ent_take 7 rfl ?_)), ?_⟩
          refine dg rfl rfl rfl rfl (neI rfl rfl) ?_
          first | refine dq rfl rfl rfl (pkT rfl rfl) ?_ | refine dq rfl rfl rfl (pkF rfl rfl) ?_
          refine dq rfl rfl rfl (mv (v := .bool _) rfl) ?_
          refine TD.known 116 rfl (b' := false) (by first | decide | simp) ?_
          refine dg rfl rfl rfl rfl (mv (v := .pointer _) rfl) ?_
          refine dg rfl rfl rfl rfl (mv (v := .pointer _) rfl) ?_
          first | refine dg rfl rfl rfl rfl (nc rfl) ?_ | refine dg rfl rfl rfl rfl (ncF rfl) ?_ | refine dg rfl rfl rfl rfl (ncS rfl (by first | assumption | (simp [ints_length] <;> omega))) ?_
          first | refine dg rfl rfl rfl rfl (fa 1 rfl rfl) ?_ | refine dg rfl rfl rfl rfl (faS 1 rfl rfl (by first | assumption | (simp [ints_length] <;> omega))) ?_
          first | refine dg rfl rfl rfl rfl (ld rfl rfl rfl) ?_ | refine dg rfl rfl rfl rfl (ldS rfl rfl rfl) ?_
          refine dg rfl rfl rfl rfl (len 3 1 rfl rfl) ?_
          refine deg rfl rfl rfl ?_
          refine cl (len_ok a now2 tn2 Q2) rfl (picked_cons 0 rfl (picked_nil _)) trivial ?_
          intro _ _
          change ent _ _ ∧ TD _ _ _ _ _ _ _ _ _ _ (sepL [_, _, _, _, _, _])
          refine ⟨(by repeat (first | exact ent_nil _ | refine ent_take 0 rfl ?_ | refine ent_take 1 rfl ?_ | refine ent_take 2 rfl ?_ | refine ent_take 3 rfl ?_ | refine ent_take 4 rfl ?_ | refine ent_take 5 rfl ?_ | refine ent_take 6 rfl ?_ | refine ent_take 7 rfl ?_)), ?_⟩
          refine dg rfl rfl rfl rfl (neI rfl rfl) ?_
          first | refine dq rfl rfl rfl (pkT rfl rfl) ?_ | refine dq rfl rfl rfl (pkF rfl rfl) ?_
          refine dq rfl rfl rfl (mv (v := .bool _) rfl) ?_
          refine TD.known 126 rfl (b' := false) (by first | decide | simp) ?_
          refine dg rfl rfl rfl rfl (mv (v := .pointer _) rfl) ?_
          first | refine dg rfl rfl rfl rfl (fa 1 rfl rfl) ?_ | refine dg rfl rfl rfl rfl (faS 1 rfl rfl (by first | assumption | (simp [ints_length] <;> omega))) ?_
          first | refine dg rfl rfl rfl rfl (ld rfl rfl rfl) ?_ | refine dg rfl rfl rfl rfl (ldS rfl rfl rfl) ?_
          refine dg rfl rfl rfl rfl (mv (v := .pointer _) rfl) ?_
          first | refine dg rfl rfl rfl rfl (fa 1 rfl rfl) ?_ | refine dg rfl rfl rfl rfl (faS 1 rfl rfl (by first | assumption | (simp [ints_length] <;> omega))) ?_
          first | refine dg rfl rfl rfl rfl (ld rfl rfl rfl) ?_ | refine dg rfl rfl rfl rfl (ldS rfl rfl rfl) ?_
          refine deg rfl rfl rfl ?_
          refine cl (left_ok a now2 tn2 Q2 hbd2 t.id hat2) rfl (picked_cons 0 rfl (picked_nil _)) trivial ?_
          intro _ _
          change ent _ _ ∧ TD _ _ _ _ _ _ _ _ _ _ (sepL [_, _, _, _, _, _])
          refine ⟨(by repeat (first | exact ent_nil _ | refine ent_take 0 rfl ?_ | refine ent_take 1 rfl ?_ | refine ent_take 2 rfl ?_ | refine ent_take 3 rfl ?_ | refine ent_take 4 rfl ?_ | refine ent_take 5 rfl ?_ | refine ent_take 6 rfl ?_ | refine ent_take 7 rfl ?_)), ?_⟩
          refine deg rfl rfl rfl ?_
          refine cl (rof_ok b2 now2 Q2 t.id (by omega) hnd2) rfl (picked_nil _) (ent_of (ent_close ⟨(a1, c1), (a2, c2)⟩ trivial (ent_take 1 rfl (ent_take 1 rfl (ent_take 1 rfl (ent_nil _)))))) ?_
          intro _ _
          change ent _ _ ∧ TD _ _ _ _ _ _ _ _ _ _ (sepL [_, _, _, _, _, _])
          refine ⟨(by repeat (first | exact ent_nil _ | refine ent_take 0 rfl ?_ | refine ent_take 1 rfl ?_ | refine ent_take 2 rfl ?_ | refine ent_take 3 rfl ?_ | refine ent_take 4 rfl ?_ | refine ent_take 5 rfl ?_ | refine ent_take 6 rfl ?_ | refine ent_take 7 rfl ?_)), ?_⟩
          refine dg rfl rfl rfl rfl (neI rfl rfl) ?_
          first | refine dq rfl rfl rfl (pkT rfl rfl) ?_ | refine dq rfl rfl rfl (pkF rfl rfl) ?_
          refine TD.nil (nt ?_)
          refine TC.condD rfl (fun hc4 => absurd hc4 (by simp)) (fun hc4 => ?_)
          refine TC.skip (nb (nt ?_))
          refine TC.region ?_
          refine q rfl rfl (mv (v := .int _ _) rfl) ?_
          first | refine q rfl rfl (addI rfl rfl (by omega) (by omega)) ?_ | refine q rfl rfl (add rfl rfl rfl) ?_
          refine q rfl rfl (asg (v := .int _ _) rfl) ?_
          refine TL.nil (nt ?_)
          exact ⟨rfl, ⟨i + 1, Q2, now2, tn2⟩, ⟨hinv2.next (by first | omega | (dsimp only; omega)), hnd2, by dsimp only; omega⟩, (by dsimp only; omega), ⟨rfl, rfl, rfl, rfl, trivial⟩, (ent_take 0 rfl (ent_close ⟨(a1, c1), (a2, c2)⟩ trivial (ent_take 0 rfl (ent_take 0 rfl (ent_take 0 rfl (ent_take 1 rfl (ent_nil _)))))))⟩
    · refine TC.exit (et (et (eb (nt ?_))))
      refine TC.seq ?_
      refine TC.region ?_
      refine q rfl rfl (asg (v := .bool _) rfl) ?_
      refine TL.nil (nt ?_)
      refine TC.ret ?_
      exact Ret.i () [_] ⟨rfl, trivial⟩ rfl trivial (ent_take 2 rfl (ent_nil _))

end Go.Proofs.Ytdikkmgcjhllaaa
