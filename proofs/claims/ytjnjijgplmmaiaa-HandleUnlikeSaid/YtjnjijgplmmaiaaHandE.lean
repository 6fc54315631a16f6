/-
  Proved here: what functions of this program compute, each as a contract over symbolic states, under the premises that each theorem names (most lines printed by a program of the prover).
-/
import Derived.Test.YtjnjijgplmmaiaaHandD
namespace Go.Proofs.Ytjnjijgplmmaiaa
open Go Go.QM
def oneT1 (p : Pl) : List Pl := p :: List.replicate 255 zeroPl
theorem ok_new : OkT (List.replicate 256 zeroPl) := ⟨List.length_replicate, fun p hp => by rw [List.eq_of_mem_replicate hp]; decide⟩
theorem ok_one1 (p : Pl) (h : 0 ≤ p.age ∧ p.age ≤ 1048575) : OkT (oneT1 p) := ok_new.set 0 h
def ob4 : Ob := ⟨4, 64, 0⟩
theorem al_put1 (b : Nat) : FSpec Try.prog 9 [.pointer (some ⟨b, 0, none⟩), .agg (ints [4, 64, 0]).toArray] noRd [slc 63 5 (some ⟨b, 0, none⟩) 256 256 (tabC (List.replicate 256 zeroPl))] (fun _ : Unit => .tuple #[.int .u32 0, .int .i64 0]) (fun _ => True) (fun _ => [slc 63 5 (some ⟨b, 0, none⟩) 256 256 (tabC (oneT1 ⟨ob4, 1, 0⟩))]) := put_ok b _ ob4 ok_new
theorem al_get1 (b : Nat) : FSpec Try.prog 10 [.pointer (some ⟨b, 0, none⟩), .int .u32 0] (fun F => ∃ E, RdS F E (some ⟨b, 0, none⟩) (tabC (oneT1 ⟨ob4, 1, 0⟩))) [] (fun _ : Unit => .tuple #[.agg (ints [4, 64, 0]).toArray, .int .i64 0]) (fun _ => True) (fun _ => []) := get_ok b _ 0 (ok_one1 _ (by decide)) (by decide)
theorem al_kill (b : Nat) : FSpec Try.prog 11 [.pointer (some ⟨b, 0, none⟩), .int .u32 0] noRd [slc 63 5 (some ⟨b, 0, none⟩) 256 256 (tabC (oneT1 ⟨ob4, 1, 0⟩))] (fun _ : Unit => .int .i64 0) (fun _ => True) (fun _ => [slc 63 5 (some ⟨b, 0, none⟩) 256 256 (tabC (oneT1 ⟨ob4, 2, 0⟩))]) := kill_ok b _ 0 (ok_one1 _ (by decide)) (by decide)
theorem al_get2 (b : Nat) : FSpec Try.prog 10 [.pointer (some ⟨b, 0, none⟩), .int .u32 0] (fun F => ∃ E, RdS F E (some ⟨b, 0, none⟩) (tabC (oneT1 ⟨ob4, 2, 0⟩))) [] (fun _ : Unit => .tuple #[.agg (ints [0, 0, 0]).toArray, .int .i64 8]) (fun _ => True) (fun _ => []) := get_ok b _ 0 (ok_one1 _ (by decide)) (by decide)
theorem al_free (b : Nat) : FSpec Try.prog 12 [.pointer (some ⟨b, 0, none⟩), .int .u32 0] noRd [slc 63 5 (some ⟨b, 0, none⟩) 256 256 (tabC (oneT1 ⟨ob4, 2, 0⟩))] (fun _ : Unit => .tuple #[.agg (ints [4, 64, 0]).toArray, .int .i64 0]) (fun _ => True) (fun _ => [slc 63 5 (some ⟨b, 0, none⟩) 256 256 (tabC (oneT1 ⟨zeroOb, 0, 1⟩))]) := free_ok b _ 0 (ok_one1 _ (by decide)) (by decide)
theorem al_put2 (b : Nat) : FSpec Try.prog 9 [.pointer (some ⟨b, 0, none⟩), .agg (ints [4, 64, 0]).toArray] noRd [slc 63 5 (some ⟨b, 0, none⟩) 256 256 (tabC (oneT1 ⟨zeroOb, 0, 1⟩))] (fun _ : Unit => .tuple #[.int .u32 256, .int .i64 0]) (fun _ => True) (fun _ => [slc 63 5 (some ⟨b, 0, none⟩) 256 256 (tabC (oneT1 ⟨ob4, 1, 1⟩))]) := put_ok b _ ob4 (ok_one1 _ (by decide))
theorem al_get3 (b : Nat) : FSpec Try.prog 10 [.pointer (some ⟨b, 0, none⟩), .int .u32 0] (fun F => ∃ E, RdS F E (some ⟨b, 0, none⟩) (tabC (oneT1 ⟨ob4, 1, 1⟩))) [] (fun _ : Unit => .tuple #[.agg (ints [0, 0, 0]).toArray, .int .i64 8]) (fun _ => True) (fun _ => []) := get_ok b _ 0 (ok_one1 _ (by decide)) (by decide)
theorem al_l1 : (allL (oneT1 ⟨ob4, 1, 1⟩) 1).length = 1 := by kernel_rfl
theorem al_l2 : (allL (oneT1 ⟨ob4, 1, 1⟩) 2).length = 0 := by kernel_rfl
theorem al_age : (ageR (oneT1 ⟨ob4, 1, 1⟩) 3 9).2 = true := by kernel_rfl

theorem alive_ok  : FSpec Try.prog 7 [] noRd [] (fun _ : Unit => .bool true) (fun _ => True) (fun _ => []) := by
  refine FSpec.intro (rs := [.tmp 0]) (by kernel_rfl) Try.func7 rfl Try.ntmps7 (by rfl) rfl ?_
  intro F _
  change TC _ _ _ _ _ _ _ (sepL [_])
  refine TC.seq ?_
  refine TC.region ?_
  refine q rfl rfl (asg (v := .bool _) rfl) ?_
  refine TL.nil (nt ?_)
  refine TC.seq ?_
  refine TC.region ?_
  refine e rfl ?_
  refine cl new_ok rfl (picked_nil _) trivial ?_
  intro tb _
  change TL _ _ _ _ _ _ _ _ (sepL [_, _])
  refine q rfl rfl (asg (v := .pointer _) rfl) ?_
  refine TL.nil (nt ?_)
  refine TC.seq ?_
  refine TC.region ?_
  first | refine q rfl rfl (bld (cs := ints [_, _, _]) rfl) ?_ | refine q rfl rfl (bld (cs := [_, _, _]) rfl) ?_
  refine e rfl ?_
  refine al (l := ints [_, _, _]) rfl rfl ?_
  intro b1
  refine e0 ?_
  refine st (v := .agg (List.toArray (ints [_, _, _]))) (vs := ints [_, _, _]) 3 rfl rfl rfl rfl rfl rfl (Nat.le_of_ble_eq_true rfl) rfl ?_
  refine TL.nil (nt ?_)
  refine TC.seq ?_
  refine TC.region ?_
  refine q rfl rfl (mv (v := .pointer _) rfl) ?_
  first | refine q rfl rfl (ldN (vs := ints [_, _, _]) 3 rfl rfl rfl rfl) ?_ | refine q rfl rfl (ldSN (vs := ints [_, _, _]) 3 rfl rfl rfl rfl (by decide)) ?_
  refine e rfl ?_
  refine cl (al_put1 tb) rfl (picked_cons 1 rfl (picked_nil _)) trivial ?_
  intro _ _
  change TL _ _ _ _ _ _ _ _ (sepL [_, _, _])
  refine q rfl rfl (mv (v := .tuple _) rfl) ?_
  refine q rfl rfl (pu (v := .int _ _) (fun _ => rfl)) ?_
  refine q rfl rfl (pu (v := .int _ _) (fun _ => rfl)) ?_
  refine q rfl rfl (asg (v := .int _ _) rfl) ?_
  refine q rfl rfl (asg (v := .int _ _) rfl) ?_
  refine TL.nil (nt ?_)
  refine TC.seq ?_
  refine TC.region ?_
  refine q rfl rfl (mv (v := .pointer _) rfl) ?_
  refine q rfl rfl (mv (v := .int _ _) rfl) ?_
  refine e rfl ?_
  refine cl (al_get1 tb) rfl (picked_nil _) ⟨_, RdSI.rd⟩ ?_
  intro _ _
  change TL _ _ _ _ _ _ _ _ (sepL [_, _, _])
  refine q rfl rfl (mv (v := .tuple _) rfl) ?_
  refine q rfl rfl (pu (v := .agg (List.toArray (ints [_, _, _]))) (fun _ => rfl)) ?_
  refine q rfl rfl (pu (v := .int _ _) (fun _ => rfl)) ?_
  refine e rfl ?_
  refine al (l := ints [_, _, _]) rfl rfl ?_
  intro b2
  refine e0 ?_
  refine st (v := .agg (List.toArray (ints [_, _, _]))) (vs := ints [_, _, _]) 3 rfl rfl rfl rfl rfl rfl (Nat.le_of_ble_eq_true rfl) rfl ?_
  refine q rfl rfl (asg (v := .int _ _) rfl) ?_
  refine TL.nil (nt ?_)
  refine TC.seq ?_
  refine TC.region ?_
  refine q rfl rfl (mv (v := .pointer _) rfl) ?_
  refine q rfl rfl (mv (v := .int _ _) rfl) ?_
  refine e rfl ?_
  refine cl (al_kill tb) rfl (picked_cons 1 rfl (picked_nil _)) trivial ?_
  intro _ _
  change TL _ _ _ _ _ _ _ _ (sepL [_, _, _, _])
  refine q rfl rfl (asg (v := .int _ _) rfl) ?_
  refine TL.nil (nt ?_)
  refine TC.seq ?_
  refine TC.region ?_
  refine q rfl rfl (mv (v := .pointer _) rfl) ?_
  refine q rfl rfl (mv (v := .int _ _) rfl) ?_
  refine e rfl ?_
  refine cl (al_get2 tb) rfl (picked_nil _) ⟨_, RdSI.rd⟩ ?_
  intro _ _
  change TL _ _ _ _ _ _ _ _ (sepL [_, _, _, _])
  refine q rfl rfl (mv (v := .tuple _) rfl) ?_
  refine q rfl rfl (pu (v := .agg (List.toArray (ints [_, _, _]))) (fun _ => rfl)) ?_
  refine q rfl rfl (pu (v := .int _ _) (fun _ => rfl)) ?_
  refine e rfl ?_
  refine al (l := ints [_, _, _]) rfl rfl ?_
  intro b3
  refine e0 ?_
  refine st (v := .agg (List.toArray (ints [_, _, _]))) (vs := ints [_, _, _]) 3 rfl rfl rfl rfl rfl rfl (Nat.le_of_ble_eq_true rfl) rfl ?_
  refine q rfl rfl (asg (v := .int _ _) rfl) ?_
  refine TL.nil (nt ?_)
  refine TC.seq ?_
  refine TC.region ?_
  refine q rfl rfl (mv (v := .pointer _) rfl) ?_
  refine q rfl rfl (mv (v := .int _ _) rfl) ?_
  refine e rfl ?_
  refine cl (al_free tb) rfl (picked_cons 1 rfl (picked_nil _)) trivial ?_
  intro _ _
  change TL _ _ _ _ _ _ _ _ (sepL [_, _, _, _, _])
  refine q rfl rfl (mv (v := .tuple _) rfl) ?_
  refine q rfl rfl (pu (v := .agg (List.toArray (ints [_, _, _]))) (fun _ => rfl)) ?_
  refine q rfl rfl (pu (v := .int _ _) (fun _ => rfl)) ?_
  refine e rfl ?_
  refine al (l := ints [_, _, _]) rfl rfl ?_
  intro b4
  refine e0 ?_
  refine st (v := .agg (List.toArray (ints [_, _, _]))) (vs := ints [_, _, _]) 3 rfl rfl rfl rfl rfl rfl (Nat.le_of_ble_eq_true rfl) rfl ?_
  refine q rfl rfl (asg (v := .int _ _) rfl) ?_
  refine TL.nil (nt ?_)
  refine TC.seq ?_
  refine TC.region ?_
  refine q rfl rfl (mv (v := .pointer _) rfl) ?_
  first | refine q rfl rfl (ldN (vs := ints [_, _, _]) 3 rfl rfl rfl rfl) ?_ | refine q rfl rfl (ldSN (vs := ints [_, _, _]) 3 rfl rfl rfl rfl (by decide)) ?_
  refine e rfl ?_
  refine cl (al_put2 tb) rfl (picked_cons 1 rfl (picked_nil _)) trivial ?_
  intro _ _
  change TL _ _ _ _ _ _ _ _ (sepL [_, _, _, _, _, _])
  refine q rfl rfl (mv (v := .tuple _) rfl) ?_
  refine q rfl rfl (pu (v := .int _ _) (fun _ => rfl)) ?_
  refine q rfl rfl (pu (v := .int _ _) (fun _ => rfl)) ?_
  refine q rfl rfl (asg (v := .int _ _) rfl) ?_
  refine q rfl rfl (asg (v := .int _ _) rfl) ?_
  refine TL.nil (nt ?_)
  refine TC.seq ?_
  refine TC.region ?_
  refine q rfl rfl (mv (v := .pointer _) rfl) ?_
  refine q rfl rfl (mv (v := .int _ _) rfl) ?_
  refine e rfl ?_
  refine cl (al_get3 tb) rfl (picked_nil _) ⟨_, RdSI.rd⟩ ?_
  intro _ _
  change TL _ _ _ _ _ _ _ _ (sepL [_, _, _, _, _, _])
  refine q rfl rfl (mv (v := .tuple _) rfl) ?_
  refine q rfl rfl (pu (v := .agg (List.toArray (ints [_, _, _]))) (fun _ => rfl)) ?_
  refine q rfl rfl (pu (v := .int _ _) (fun _ => rfl)) ?_
  refine e rfl ?_
  refine al (l := ints [_, _, _]) rfl rfl ?_
  intro b5
  refine e0 ?_
  refine st (v := .agg (List.toArray (ints [_, _, _]))) (vs := ints [_, _, _]) 3 rfl rfl rfl rfl rfl rfl (Nat.le_of_ble_eq_true rfl) rfl ?_
  refine q rfl rfl (asg (v := .int _ _) rfl) ?_
  refine TL.nil (nt ?_)
  refine TC.seq ?_
  refine TC.region ?_
  refine q rfl rfl (mv (v := .int _ _) rfl) ?_
  refine q rfl rfl (eqI rfl rfl) ?_
  refine q rfl rfl (mv (v := .bool _) rfl) ?_
  refine TL.known 59 rfl (c := true) (by decide) ?_
  refine qg rfl rfl rfl (mv (v := .int _ _) rfl) ?_
  refine qg rfl rfl rfl (eqI rfl rfl) ?_
  first | refine q rfl rfl (pkT rfl rfl) ?_ | refine q rfl rfl (pkF rfl rfl) ?_
  refine q rfl rfl (mv (v := .bool _) rfl) ?_
  refine TL.known 63 rfl (c := true) (by decide) ?_
  refine qg rfl rfl rfl (mv (v := .int _ _) rfl) ?_
  refine qg rfl rfl rfl (eqI rfl rfl) ?_
  first | refine q rfl rfl (pkT rfl rfl) ?_ | refine q rfl rfl (pkF rfl rfl) ?_
  refine q rfl rfl (mv (v := .bool _) rfl) ?_
  refine TL.known 67 rfl (c := true) (by decide) ?_
  first | refine qg rfl rfl rfl (ldN (vs := ints [_, _, _]) 3 rfl rfl rfl rfl) ?_ | refine qg rfl rfl rfl (ldSN (vs := ints [_, _, _]) 3 rfl rfl rfl rfl (by decide)) ?_
  first | refine qg rfl rfl rfl (ldN (vs := ints [_, _, _]) 3 rfl rfl rfl rfl) ?_ | refine qg rfl rfl rfl (ldSN (vs := ints [_, _, _]) 3 rfl rfl rfl rfl (by decide)) ?_
  refine qg rfl rfl rfl (eqS 3 (by kernel_rfl) rfl rfl rfl rfl) ?_
  first | refine q rfl rfl (pkT rfl rfl) ?_ | refine q rfl rfl (pkF rfl rfl) ?_
  refine q rfl rfl (mv (v := .bool _) rfl) ?_
  refine TL.known 72 rfl (c := true) (by decide) ?_
  refine qg rfl rfl rfl (mv (v := .int _ _) rfl) ?_
  refine qg rfl rfl rfl (eqI rfl rfl) ?_
  first | refine q rfl rfl (pkT rfl rfl) ?_ | refine q rfl rfl (pkF rfl rfl) ?_
  refine q rfl rfl (mv (v := .bool _) rfl) ?_
  refine TL.known 76 rfl (c := true) (by decide) ?_
  refine qg rfl rfl rfl (mv (v := .int _ _) rfl) ?_
  refine qg rfl rfl rfl (eqI rfl rfl) ?_
  first | refine q rfl rfl (pkT rfl rfl) ?_ | refine q rfl rfl (pkF rfl rfl) ?_
  refine q rfl rfl (mv (v := .bool _) rfl) ?_
  refine TL.known 80 rfl (c := true) (by decide) ?_
  refine qg rfl rfl rfl (mv (v := .int _ _) rfl) ?_
  refine qg rfl rfl rfl (eqI rfl rfl) ?_
  first | refine q rfl rfl (pkT rfl rfl) ?_ | refine q rfl rfl (pkF rfl rfl) ?_
  refine q rfl rfl (mv (v := .bool _) rfl) ?_
  refine TL.known 84 rfl (c := true) (by decide) ?_
  first | refine qg rfl rfl rfl (ldN (vs := ints [_, _, _]) 3 rfl rfl rfl rfl) ?_ | refine qg rfl rfl rfl (ldSN (vs := ints [_, _, _]) 3 rfl rfl rfl rfl (by decide)) ?_
  first | refine qg rfl rfl rfl (ldN (vs := ints [_, _, _]) 3 rfl rfl rfl rfl) ?_ | refine qg rfl rfl rfl (ldSN (vs := ints [_, _, _]) 3 rfl rfl rfl rfl (by decide)) ?_
  refine qg rfl rfl rfl (eqS 3 (by kernel_rfl) rfl rfl rfl rfl) ?_
  first | refine q rfl rfl (pkT rfl rfl) ?_ | refine q rfl rfl (pkF rfl rfl) ?_
  refine q rfl rfl (mv (v := .bool _) rfl) ?_
  refine TL.known 89 rfl (c := true) (by decide) ?_
  refine qg rfl rfl rfl (mv (v := .int _ _) rfl) ?_
  refine qg rfl rfl rfl (eqI rfl rfl) ?_
  first | refine q rfl rfl (pkT rfl rfl) ?_ | refine q rfl rfl (pkF rfl rfl) ?_
  refine q rfl rfl (mv (v := .bool _) rfl) ?_
  refine TL.known 93 rfl (c := true) (by decide) ?_
  refine qg rfl rfl rfl (mv (v := .int _ _) rfl) ?_
  refine qg rfl rfl rfl (eqI rfl rfl) ?_
  first | refine q rfl rfl (pkT rfl rfl) ?_ | refine q rfl rfl (pkF rfl rfl) ?_
  refine q rfl rfl (mv (v := .bool _) rfl) ?_
  refine TL.known 97 rfl (c := true) (by decide) ?_
  refine qg rfl rfl rfl (mv (v := .int _ _) rfl) ?_
  refine qg rfl rfl rfl (eqI rfl rfl) ?_
  first | refine q rfl rfl (pkT rfl rfl) ?_ | refine q rfl rfl (pkF rfl rfl) ?_
  refine q rfl rfl (mv (v := .bool _) rfl) ?_
  refine TL.known 101 rfl (c := true) (by decide) ?_
  refine qg rfl rfl rfl (mv (v := .pointer _) rfl) ?_
  refine eg rfl rfl ?_
  refine cl (live_ok tb _ (ok_one1 _ (by decide))) rfl (picked_nil _) ⟨_, RdSI.rd⟩ ?_
  intro y1 _
  change TL _ _ _ _ _ _ _ _ (sepL [_, _, _, _, _, _, _, _])
  rw [al_l1]
  refine qg rfl rfl rfl (len 27 1 rfl rfl) ?_
  refine qg rfl rfl rfl (eqI rfl rfl) ?_
  first | refine q rfl rfl (pkT rfl rfl) ?_ | refine q rfl rfl (pkF rfl rfl) ?_
  refine q rfl rfl (mv (v := .bool _) rfl) ?_
  refine TL.known 107 rfl (c := true) (by decide) ?_
  refine qg rfl rfl rfl (mv (v := .pointer _) rfl) ?_
  refine eg rfl rfl ?_
  refine cl (zombies_ok tb _ (ok_one1 _ (by decide))) rfl (picked_nil _) ⟨_, RdSI.rd⟩ ?_
  intro y2 _
  change TL _ _ _ _ _ _ _ _ (sepL [_, _, _, _, _, _, _, _, _])
  rw [al_l2]
  refine qg rfl rfl rfl (len 27 1 rfl rfl) ?_
  refine qg rfl rfl rfl (eqI rfl rfl) ?_
  first | refine q rfl rfl (pkT rfl rfl) ?_ | refine q rfl rfl (pkF rfl rfl) ?_
  refine q rfl rfl (mv (v := .bool _) rfl) ?_
  refine TL.known 113 rfl (c := true) (by decide) ?_
  refine qg rfl rfl rfl (mv (v := .pointer _) rfl) ?_
  refine eg rfl rfl ?_
  refine cl (age_ok tb _ 3 9 (ok_one1 ⟨ob4, 1, 1⟩ (by decide))) rfl (picked_cons 3 rfl (picked_nil _)) trivial ?_
  intro _ _
  change TL _ _ _ _ _ _ _ _ (sepL [_, _, _, _, _, _, _, _, _])
  rw [al_age]
  first | refine q rfl rfl (pkT rfl rfl) ?_ | refine q rfl rfl (pkF rfl rfl) ?_
  refine q rfl rfl (asg (v := .bool _) rfl) ?_
  refine TL.nil (nt ?_)
  refine TC.ret ?_
  exact Ret.i () [_] ⟨rfl, trivial⟩ rfl trivial (ent_take 8 rfl (ent_nil _))

end Go.Proofs.Ytjnjijgplmmaiaa
