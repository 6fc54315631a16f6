/-
  Proved here: what functions of this program compute, each as a contract over symbolic states, under the premises that each theorem names (most lines printed by a program of the prover).
-/
import Derived.Test.YtdpadbhfhlhnlaaGraceC
namespace Go.Proofs.Ytdpadbhfhlhnlaa
open Go Go.QM
theorem al_add (b : Nat) (ad : Option Addr) (cap : Nat) : FSpec Try.prog 10 [.pointer (some ⟨b, 0, none⟩), .slice ad 1 cap] (fun F => ∃ E, RdS F E ad [.int .i64 7]) [isQ b 2 0 []] (fun _ : Unit => .int .i64 1) (fun _ => True) (fun _ => [isQ b 2 0 [(7, 2)]]) := add_ok b 2 0 [] ad cap [7] (by decide) (by decide) (by decide) (by decide)
theorem al_tick1 (b : Nat) : FSpec Try.prog 11 [.pointer (some ⟨b, 0, none⟩)] noRd [isQ b 2 0 [(7, 2)]] (fun y : Option Addr × Nat => .slice y.1 0 y.2) (fun _ => True) (fun y => [isQ b 2 1 [(7, 2)], slc 3 1 y.1 0 y.2 []]) := tick_ok b 2 0 [(7, 2)] (by decide) (by decide)
theorem al_left (b : Nat) : FSpec Try.prog 13 [.pointer (some ⟨b, 0, none⟩), .int .i64 7] (fun F => ent F (isQ b 2 1 [(7, 2)])) [] (fun _ : Unit => .int .i64 1) (fun _ => True) (fun _ => []) := left_ok b 2 1 [(7, 2)] 7 (by decide) (by decide) (by simp)
theorem al_tick2 (b : Nat) : FSpec Try.prog 11 [.pointer (some ⟨b, 0, none⟩)] noRd [isQ b 2 1 [(7, 2)]] (fun y : Option Addr × Nat => .slice y.1 1 y.2) (fun _ => True) (fun y => [isQ b 2 2 [], slc 3 1 y.1 1 y.2 [.int .i64 7]]) := tick_ok b 2 1 [(7, 2)] (by decide) (by decide)
theorem al_list (b : Nat) : FSpec Try.prog 12 [.pointer (some ⟨b, 0, none⟩)] (fun F => ent F (isQ b 2 2 [])) [] (fun y : Option Addr × Nat => .slice y.1 0 y.2) (fun _ => True) (fun y => [slc 3 1 y.1 0 y.2 []]) := list_ok b 2 2 [] (by decide)

theorem alive_ok  : FSpec Try.prog 6 [] noRd [] (fun _ : Unit => .bool true) (fun _ => True) (fun _ => []) := by
  refine FSpec.intro (rs := [.tmp 0]) (by kernel_rfl) Try.func6 rfl Try.ntmps6 (by rfl) rfl ?_
  intro F _
  change TC _ _ _ _ _ _ _ (sepL [_])
  refine TC.seq ?_
  refine TC.region ?_
  refine q rfl rfl (asg (v := .bool _) rfl) ?_
  refine TL.nil (nt ?_)
  refine TC.seq ?_
  refine TC.region ?_
  refine e rfl ?_
  refine cl (new_ok 2 (by decide) (by decide)) rfl (picked_nil _) trivial ?_
  intro qb _
  change TL _ _ _ _ _ _ _ _ (sepL [_, _])
  refine q rfl rfl (asg (v := .pointer _) rfl) ?_
  refine TL.nil (nt ?_)
  refine TC.seq ?_
  refine TC.region ?_
  refine q rfl rfl (mv (v := .pointer _) rfl) ?_
  refine e rfl ?_
  refine bs (cs := [.int _ _]) rfl ?_
  intro b1
  refine e rfl ?_
  refine cl (al_add qb _ _) rfl (picked_cons 1 rfl (picked_nil _)) ⟨_, RdSI.rd⟩ ?_
  intro _ _
  change TL _ _ _ _ _ _ _ _ (sepL [_, _, _])
  refine q rfl rfl (asg (v := .int _ _) rfl) ?_
  refine TL.nil (nt ?_)
  refine TC.seq ?_
  refine TC.region ?_
  refine q rfl rfl (mv (v := .pointer _) rfl) ?_
  refine e rfl ?_
  refine cl (al_tick1 qb) rfl (picked_cons 0 rfl (picked_nil _)) trivial ?_
  intro y1 _
  change TL _ _ _ _ _ _ _ _ (sepL [_, _, _, _])
  refine q rfl rfl (asg (v := .slice _ _ _) rfl) ?_
  refine TL.nil (nt ?_)
  refine TC.seq ?_
  refine TC.region ?_
  refine q rfl rfl (mv (v := .pointer _) rfl) ?_
  refine e rfl ?_
  refine cl (al_left qb) rfl (picked_nil _) (ent_one 0 rfl) ?_
  intro _ _
  change TL _ _ _ _ _ _ _ _ (sepL [_, _, _, _])
  refine q rfl rfl (asg (v := .int _ _) rfl) ?_
  refine TL.nil (nt ?_)
  refine TC.seq ?_
  refine TC.region ?_
  refine q rfl rfl (mv (v := .pointer _) rfl) ?_
  refine e rfl ?_
  refine cl (al_tick2 qb) rfl (picked_cons 0 rfl (picked_nil _)) trivial ?_
  intro y2 _
  change TL _ _ _ _ _ _ _ _ (sepL [_, _, _, _, _])
  refine q rfl rfl (asg (v := .slice _ _ _) rfl) ?_
  refine TL.nil (nt ?_)
  refine TC.seq ?_
  refine TC.region ?_
  refine q rfl rfl (mv (v := .int _ _) rfl) ?_
  refine q rfl rfl (eqI rfl rfl) ?_
  refine q rfl rfl (mv (v := .bool _) rfl) ?_
  refine TL.known 18 rfl (c := true) (by decide) ?_
  refine qg rfl rfl rfl (mv (v := .slice _ _ _) rfl) ?_
  refine qg rfl rfl rfl (len 3 1 rfl rfl) ?_
  refine qg rfl rfl rfl (eqI rfl rfl) ?_
  first | refine q rfl rfl (pkT rfl rfl) ?_ | refine q rfl rfl (pkF rfl rfl) ?_
  refine q rfl rfl (mv (v := .bool _) rfl) ?_
  refine TL.known 23 rfl (c := true) (by decide) ?_
  refine qg rfl rfl rfl (mv (v := .int _ _) rfl) ?_
  refine qg rfl rfl rfl (eqI rfl rfl) ?_
  first | refine q rfl rfl (pkT rfl rfl) ?_ | refine q rfl rfl (pkF rfl rfl) ?_
  refine q rfl rfl (mv (v := .bool _) rfl) ?_
  refine TL.known 27 rfl (c := true) (by decide) ?_
  refine qg rfl rfl rfl (mv (v := .slice _ _ _) rfl) ?_
  refine qg rfl rfl rfl (len 3 1 rfl rfl) ?_
  refine qg rfl rfl rfl (eqI rfl rfl) ?_
  first | refine q rfl rfl (pkT rfl rfl) ?_ | refine q rfl rfl (pkF rfl rfl) ?_
  refine q rfl rfl (mv (v := .bool _) rfl) ?_
  refine TL.known 32 rfl (c := true) (by decide) ?_
  refine qg rfl rfl rfl (mv (v := .slice _ _ _) rfl) ?_
  first | refine qg rfl rfl rfl (ixS 3 1 rfl rfl rfl (by omega) (by first | assumption | (simp [ints_length] <;> omega))) ?_ | refine qg rfl rfl rfl (ixJ 3 1 rfl rfl rfl (by omega) (by omega) (by first | assumption | (simp [ints_length] <;> omega))) ?_ | refine qg rfl rfl rfl (ix 3 1 rfl rfl rfl (by omega) (by omega) rfl) ?_
  first | refine qg rfl rfl rfl (ld rfl rfl rfl) ?_ | refine qg rfl rfl rfl (ldS rfl rfl (show [Value.int .i64 7][0]? = some (.int .i64 7) from rfl)) ?_ | refine qg rfl rfl rfl (ldS rfl rfl rfl) ?_
  refine qg rfl rfl rfl (eqI rfl rfl) ?_
  first | refine q rfl rfl (pkT rfl rfl) ?_ | refine q rfl rfl (pkF rfl rfl) ?_
  refine q rfl rfl (mv (v := .bool _) rfl) ?_
  refine TL.known 38 rfl (c := true) (by decide) ?_
  refine qg rfl rfl rfl (mv (v := .pointer _) rfl) ?_
  refine eg rfl rfl ?_
  refine cl (period_ok qb 2 2 []) rfl (picked_nil _) (ent_one 0 rfl) ?_
  intro _ _
  change TL _ _ _ _ _ _ _ _ (sepL [_, _, _, _, _])
  refine qg rfl rfl rfl (eqI rfl rfl) ?_
  first | refine q rfl rfl (pkT rfl rfl) ?_ | refine q rfl rfl (pkF rfl rfl) ?_
  refine q rfl rfl (mv (v := .bool _) rfl) ?_
  refine TL.known 43 rfl (c := true) (by decide) ?_
  refine qg rfl rfl rfl (mv (v := .pointer _) rfl) ?_
  refine eg rfl rfl ?_
  refine cl (al_list qb) rfl (picked_nil _) (ent_one 0 rfl) ?_
  intro y3 _
  change TL _ _ _ _ _ _ _ _ (sepL [_, _, _, _, _, _])
  refine qg rfl rfl rfl (len 3 1 rfl rfl) ?_
  refine qg rfl rfl rfl (eqI rfl rfl) ?_
  first | refine q rfl rfl (pkT rfl rfl) ?_ | refine q rfl rfl (pkF rfl rfl) ?_
  refine q rfl rfl (mv (v := .bool _) rfl) ?_
  refine TL.known 49 rfl (c := true) (by decide) ?_
  refine eg rfl rfl ?_
  refine cl (new_no 0 (by decide)) rfl (picked_nil _) trivial ?_
  intro _ _
  change TL _ _ _ _ _ _ _ _ (sepL [_, _, _, _, _, _])
  refine qg rfl rfl rfl (eqNil rfl rfl rfl) ?_
  first | refine q rfl rfl (pkT rfl rfl) ?_ | refine q rfl rfl (pkF rfl rfl) ?_
  refine q rfl rfl (asg (v := .bool _) rfl) ?_
  refine TL.nil (nt ?_)
  refine TC.ret ?_
  exact Ret.i () [_] ⟨rfl, trivial⟩ rfl trivial (ent_take 5 rfl (ent_nil _))

end Go.Proofs.Ytdpadbhfhlhnlaa
