/-
  Proved here: what functions of this program compute, each as a contract over symbolic states, under the premises that each theorem names (most lines printed by a program of the prover).
-/
import Derived.Test.YtdfmfhcjnjfjbaaThF
namespace Go.Proofs.Ytdfmfhcjnjfjbaa
open Go Go.QM
open Al (En hasA Nd clrA setA offA dueA restA leftA)
open Rd (hasS NdS addS RInv topS runS tickS yieldS rndS)
def SA : TS := addL t0 [1, 2]
theorem SA_n : (SA.m.ids.length : Int) - (t0.m.ids.length : Int) = 2 := by kernel_rfl
theorem SA_g : TG SA 0 := TG.zero.adds _ (by decide)
def SB (p : Int) : TS := (startS SA 1 p 2).1
def SC (p : Int) : TS := (startS (SB p) 2 0 4).1
def SU (h p : Int) : TS := if h = 0 then (waitS (SC p) 1 3).1 else if h = 1 then (sendS (SC p) 1 2 5 true 3).1 else SC p
def SV (h p : Int) : TS := (stopS (SU h p) 1).1
def SX (h p v w : Int) : TS := { SV h p with S := [⟨2, 0, 4, v⟩], now := w, A := [] }
def SY (h p v w : Int) : TS := (startS (toldT (SX h p v w)) 1 p 1).1
theorem p7 {p : Int} (hp : 1 ≤ p ∧ p ≤ 7) : p = 1 ∨ p = 2 ∨ p = 3 ∨ p = 4 ∨ p = 5 ∨ p = 6 ∨ p = 7 := by omega
theorem st_a {p : Int} (hp : 1 ≤ p ∧ p ≤ 7) : startS SA 1 p 2 = (SB p, 0) ∧ startS (SB p) 2 0 4 = (SC p, 0) ∧ runS (SC p).S = 1 ∧ waitS (SC p) 1 3 = (SU 0 p, 0) ∧ sendS (SC p) 1 2 5 true 3 = (SU 1 p, 0) := by
  rcases p7 hp with rfl | rfl | rfl | rfl | rfl | rfl | rfl <;> exact ⟨by kernel_rfl, by kernel_rfl, by kernel_rfl, by kernel_rfl, by kernel_rfl⟩
theorem st_b {h p : Int} (hh : h = 0 ∨ h = 1 ∨ h = 2) (hp : 1 ≤ p ∧ p ≤ 7) : stopS (SU h p) 1 = (SV h p, 0) ∧ stopS (SV h p) 1 = (SV h p, 12) ∧ stT (SV h p) 1 = 4 ∧ rowR (SV h p).m 2 = [] ∧ leftA (SV h p).A (SV h p).now 1 = 0 ∧ SV h p = SX h p 4 0 := by
  rcases hh with rfl | rfl | rfl <;> rcases p7 hp with rfl | rfl | rfl | rfl | rfl | rfl | rfl <;> exact ⟨by kernel_rfl, by kernel_rfl, by kernel_rfl, by kernel_rfl, by kernel_rfl, by kernel_rfl⟩
theorem st_c {h p : Int} (hh : h = 0 ∨ h = 1 ∨ h = 2) (hp : 1 ≤ p ∧ p ≤ 7) (v w : Int) : takeT (SX h p v w) 1 = (SX h p v w, o0, 12) ∧ sendS (SX h p v w) 1 2 0 false 0 = (SX h p v w, 12) ∧ waitS (SX h p v w) 1 0 = (SX h p v w, 12) ∧ wakeS (SX h p v w) 0 1 = (SX h p v w, 12) ∧
    (SX h p v w).told = [] ∧ startS (toldT (SX h p v w)) 1 0 17 = (toldT (SX h p v w), 1) ∧ startS (toldT (SX h p v w)) 1 p 1 = (SY h p v w, 0) ∧ runS (SY h p v w).S = 1 ∧ startS (SY h p v w) 1 p 1 = (SY h p v w, 12) := by
  rcases hh with rfl | rfl | rfl <;> rcases p7 hp with rfl | rfl | rfl | rfl | rfl | rfl | rfl <;> exact ⟨by kernel_rfl, by kernel_rfl, by kernel_rfl, by kernel_rfl, by kernel_rfl, by kernel_rfl, by kernel_rfl, by kernel_rfl, by kernel_rfl⟩
theorem tick_noA {T : TS} (hA : T.A = []) : tickT T = { T with S := tickS T.S, now := T.now + 1, A := [] } := by
  obtain ⟨S, now, tn, A, m, pr, sl, on, told⟩ := T
  dsimp only at hA
  subst hA
  rfl
theorem SX_tick (h p w : Int) {v : Int} (hv : 1 ≤ v ∧ v ≤ 4) : ∃ v', (1 ≤ v' ∧ v' ≤ 4) ∧ tickT (SX h p v w) = SX h p v' (w + 1) ∧ runS (SX h p v' (w + 1)).S = 2 := by
  rw [tick_noA (T := SX h p v w) rfl]
  have : v = 1 ∨ v = 2 ∨ v = 3 ∨ v = 4 := by omega
  rcases this with rfl | rfl | rfl | rfl
  · exact ⟨4, by omega, by kernel_rfl, by kernel_rfl⟩
  · exact ⟨1, by omega, by kernel_rfl, by kernel_rfl⟩
  · exact ⟨2, by omega, by kernel_rfl, by kernel_rfl⟩
  · exact ⟨3, by omega, by kernel_rfl, by kernel_rfl⟩

set_option maxRecDepth 4000 in
set_option maxHeartbeats 4000000 in
theorem stops_ok (h n y : Int) (hh : 0 ≤ h ∧ h ≤ 255) (hn : 0 ≤ n ∧ n ≤ 255) (hy : 0 ≤ y ∧ y ≤ 255) : FSpec Try.prog 6 [.int .u8 h, .int .u8 n, .int .u8 y] noRd [] (fun _ : Unit => .bool true) (fun _ => True) (fun _ => []) := by
  refine FSpec.intro (rs := [.tmp 6]) (by kernel_rfl) Try.func6 rfl Try.ntmps6 (by rfl) rfl ?_
  intro F _
  change TC _ _ _ _ _ _ _ (sepL [_])
  refine TC.seq ?_
  refine TC.region ?_
  refine q rfl rfl (asg (v := .bool _) rfl) ?_
  refine TL.nil (nt ?_)
  refine TC.seq ?_
  refine TC.seq ?_
  refine TC.region ?_
  refine e rfl ?_
  refine cl alive_ok rfl (picked_nil _) trivial ?_
  intro _ _
  change TL _ _ _ _ _ _ _ _ (sepL [_])
  first | refine q rfl rfl (notD rfl) ?_ | refine q rfl rfl (notB rfl) ?_
  refine TL.nil (nt ?_)
  refine TC.condF rfl ?_
  refine TC.skip (nt ?_)
  refine TC.seq ?_
  refine TC.region ?_
  refine e rfl ?_
  refine cl tnew_ok rfl (picked_nil _) trivial ?_
  intro a _
  change TL _ _ _ _ _ _ _ _ (sepL [_, _])
  refine q rfl rfl (asg (v := .pointer _) rfl) ?_
  refine TL.nil (nt ?_)
  refine TC.seq ?_
  refine TC.region ?_
  refine q rfl rfl (mv (v := .int _ _) rfl) ?_
  first | refine q rfl rfl (conv .u8 .i64 rfl rfl rfl (wi64 (by omega) (by omega))) ?_ | refine q rfl rfl (conv .u8 .i64 rfl rfl rfl rfl) ?_
  first | refine q rfl rfl (remI rfl rfl (by omega) (by omega)) ?_ | refine q rfl rfl (rem rfl rfl (by omega) rfl) ?_
  first | refine q rfl rfl (addI rfl rfl (by omega) (by omega)) ?_ | refine q rfl rfl (add rfl rfl rfl) ?_
  refine q rfl rfl (asg (v := .int _ _) rfl) ?_
  refine TL.nil (nt ?_)
  refine TC.seq ?_
  refine TC.seq ?_
  refine TC.region ?_
  refine q rfl rfl (mv (v := .pointer _) rfl) ?_
  refine e rfl ?_
  refine bs (cs := [.int _ _, .int _ _]) rfl ?_
  intro b1
  have hp : 1 ≤ 1 + y % 7 ∧ 1 + y % 7 ≤ 7 := by omega
  generalize 1 + y % 7 = pr at hp ⊢
  obtain ⟨e1, e2, e3, e4, e5⟩ := st_a hp
  refine e rfl ?_
  refine cl (tadd_ok a t0 (some ⟨b1, 0, none⟩) _ [1, 2] (by decide) (by decide)) rfl PkL.p ⟨_, RdSI.rd (ad := some ⟨b1, 0, none⟩)⟩ ?_
  intro _ _
  change TL _ _ _ _ _ _ _ _ (sepL [_, _, _])
  rw [show addL t0 [1, 2] = SA from rfl, SA_n]
  have g1 := SA_g
  refine q rfl rfl (neI rfl rfl) ?_
  refine q rfl rfl (mv (v := .bool _) rfl) ?_
  refine TL.known 23 rfl (c := false) (by decide) ?_
  refine qg rfl rfl rfl (mv (v := .pointer _) rfl) ?_
  refine qg rfl rfl rfl (mv (v := .int _ _) rfl) ?_
  refine eg rfl rfl ?_
  refine cl (tstart_ok a SA g1.p (g1.tb (by omega)) 1 pr 2) rfl PkL.p trivial ?_
  intro _ _
  change TL _ _ _ _ _ _ _ _ (sepL [_, _, _])
  rw [e1]
  dsimp only
  have g2 := g1.start 1 pr 2
  rw [e1] at g2
  dsimp only at g2
  refine qg rfl rfl rfl (neI rfl rfl) ?_
  first | refine q rfl rfl (pkT (v := .bool _) rfl rfl) ?_ | refine q rfl rfl (pkF (v := .bool _) rfl rfl) ?_
  refine q rfl rfl (mv (v := .bool _) rfl) ?_
  refine TL.known 29 rfl (c := false) (by decide) ?_
  refine qg rfl rfl rfl (mv (v := .pointer _) rfl) ?_
  refine eg rfl rfl ?_
  refine cl (tstart_ok a (SB pr) g2.p (g2.tb (by omega)) 2 0 4) rfl PkL.p trivial ?_
  intro _ _
  change TL _ _ _ _ _ _ _ _ (sepL [_, _, _])
  rw [e2]
  dsimp only
  have g3 := g2.start 2 0 4
  rw [e2] at g3
  dsimp only at g3
  refine qg rfl rfl rfl (neI rfl rfl) ?_
  first | refine q rfl rfl (pkT (v := .bool _) rfl rfl) ?_ | refine q rfl rfl (pkF (v := .bool _) rfl rfl) ?_
  refine q rfl rfl (mv (v := .bool _) rfl) ?_
  refine TL.known 34 rfl (c := false) (by decide) ?_
  refine qg rfl rfl rfl (mv (v := .pointer _) rfl) ?_
  refine eg rfl rfl ?_
  refine cl (trun_ok a (SC pr) g3.p (g3.tb (by omega))) rfl PkL.p trivial ?_
  intro _ _
  change TL _ _ _ _ _ _ _ _ (sepL [_, _, _])
  rw [e3]
  refine qg rfl rfl rfl (neI rfl rfl) ?_
  first | refine q rfl rfl (pkT (v := .bool _) rfl rfl) ?_ | refine q rfl rfl (pkF (v := .bool _) rfl rfl) ?_
  refine TL.nil (nt ?_)
  refine TC.condF rfl ?_
  refine TC.skip (nt ?_)
  refine TC.seq ?_
  refine TC.seq ?_
  refine TC.region ?_
  refine q rfl rfl (mv (v := .int _ _) rfl) ?_
  first | refine q rfl rfl (remI rfl rfl (by omega) (by omega)) ?_ | refine q rfl rfl (rem rfl rfl (by omega) rfl) ?_
  refine TL.nil (nt ?_)
  refine TC.block ?_
  refine TC.seq ?_
  refine TC.region ?_
  refine q rfl rfl (eqI rfl rfl) ?_
  refine q rfl rfl (asg (v := .bool _) rfl) ?_
  refine TL.nil (nt ?_)
  first | refine TC.condD rfl (fun k0 => ?_) (fun k0 => ?_) | refine TC.cond rfl (fun k0 => ?_) (fun k0 => ?_)
  · refine TC.seq ?_
    refine TC.region ?_
    refine q rfl rfl (mv (v := .pointer _) rfl) ?_
    refine e rfl ?_
    refine cl (twait_ok a (SC pr) g3.p (g3.tb (by omega)) 1 3) rfl PkL.p trivial ?_
    intro _ _
    change TL _ _ _ _ _ _ _ _ (sepL [_, _, _])
    rw [e4]
    dsimp only
    have g4 := g3.wait 1 3
    rw [e4] at g4
    dsimp only at g4
    refine q rfl rfl (neI rfl rfl) ?_
    refine TL.nil (nt ?_)
    refine TC.condF rfl ?_
    have hh3 : (0 : Int) = 0 ∨ (0 : Int) = 1 ∨ (0 : Int) = 2 := .inl rfl
    obtain ⟨f1, f2, f3, f4, f5, f6⟩ := st_b hh3 hp
    refine TC.skip (nb (nt ?_))
    refine TC.seq ?_
    refine TC.seq ?_
    refine TC.region ?_
    refine q rfl rfl (mv (v := .pointer _) rfl) ?_
    refine e rfl ?_
    refine cl (tstop_ok a (SU 0 pr) g4.p (g4.tb (by omega)) 1) rfl PkL.p trivial ?_
    intro _ _
    change TL _ _ _ _ _ _ _ _ (sepL [_, _, _])
    rw [f1]
    dsimp only
    have g5 := g4.stop 1
    rw [f1] at g5
    dsimp only at g5
    refine q rfl rfl (neI rfl rfl) ?_
    refine q rfl rfl (mv (v := .bool _) rfl) ?_
    refine TL.known 54 rfl (c := false) (by decide) ?_
    refine qg rfl rfl rfl (mv (v := .pointer _) rfl) ?_
    refine eg rfl rfl ?_
    refine cl (tstop_ok a (SV 0 pr) g5.p (g5.tb (by omega)) 1) rfl PkL.p trivial ?_
    intro _ _
    change TL _ _ _ _ _ _ _ _ (sepL [_, _, _])
    rw [f2]
    dsimp only
    refine qg rfl rfl rfl (neI rfl rfl) ?_
    first | refine q rfl rfl (pkT (v := .bool _) rfl rfl) ?_ | refine q rfl rfl (pkF (v := .bool _) rfl rfl) ?_
    refine q rfl rfl (mv (v := .bool _) rfl) ?_
    refine TL.known 59 rfl (c := false) (by decide) ?_
    refine qg rfl rfl rfl (mv (v := .pointer _) rfl) ?_
    refine eg rfl rfl ?_
    refine cl (tstate_ok a (SV 0 pr) 1) rfl PkL.p trivial ?_
    intro _ _
    change TL _ _ _ _ _ _ _ _ (sepL [_, _, _])
    rw [f3]
    refine qg rfl rfl rfl (neI rfl rfl) ?_
    first | refine q rfl rfl (pkT (v := .bool _) rfl rfl) ?_ | refine q rfl rfl (pkF (v := .bool _) rfl rfl) ?_
    refine q rfl rfl (mv (v := .bool _) rfl) ?_
    refine TL.known 64 rfl (c := false) (by decide) ?_
    refine qg rfl rfl rfl (mv (v := .pointer _) rfl) ?_
    refine eg rfl rfl ?_
    refine cl (trow_ok a (SV 0 pr) g5.p (g5.tb (by omega)) 2) rfl PkL.p trivial ?_
    intro yr _
    change TL _ _ _ _ _ _ _ _ (sepL [_, _, _, _])
    rw [f4]
    refine qg rfl rfl rfl (len 32 3 rfl rfl) ?_
    refine qg rfl rfl rfl (neI rfl rfl) ?_
    first | refine q rfl rfl (pkT (v := .bool _) rfl rfl) ?_ | refine q rfl rfl (pkF (v := .bool _) rfl rfl) ?_
    refine q rfl rfl (mv (v := .bool _) rfl) ?_
    refine TL.known 70 rfl (c := false) (by decide) ?_
    refine qg rfl rfl rfl (mv (v := .pointer _) rfl) ?_
    refine eg rfl rfl ?_
    refine cl (tleft_ok a (SV 0 pr) g5.p (g5.tb (by omega)) 1) rfl PkL.p trivial ?_
    intro _ _
    change TL _ _ _ _ _ _ _ _ (sepL [_, _, _, _])
    rw [f5]
    refine qg rfl rfl rfl (neI rfl rfl) ?_
    first | refine q rfl rfl (pkT (v := .bool _) rfl rfl) ?_ | refine q rfl rfl (pkF (v := .bool _) rfl rfl) ?_
    refine TL.nil (nt ?_)
    refine TC.condF rfl ?_
    refine TC.skip (nt ?_)
    refine TC.seq ?_
    refine TC.seq ?_
    refine TC.region ?_
    refine q rfl rfl (asg (v := .int _ _) rfl) ?_
    refine TL.nil (nt ?_)
    refine TC.block ?_
    rw [f6] at g5 ⊢
    refine TC.loop (ι := Nat × Int × Int) (fun u => (1 ≤ u.2.1 ∧ u.2.1 ≤ 4) ∧ TG (SX 0 pr u.2.1 u.2.2) (10 + u.1) ∧ u.1 ≤ 20) (fun u => [(1, .int .u8 n), (7, .pointer (some ⟨a, 0, none⟩)), (8, .int .i64 pr), (9, .int .i64 ((u.1 : Nat) : Int))]) (fun u => sepL [isT a (SX 0 pr u.2.1 u.2.2), F]) (fun u => 20 - u.1) ⟨0, 4, 0⟩ ⟨by decide, g5.up (by decide), by decide⟩ ⟨rfl, rfl, rfl, rfl, trivial⟩ (by repeat (first | exact ent_nil _ | refine ent_take 0 rfl ?_ | refine ent_take 1 rfl ?_ | refine ent_take 2 rfl ?_ | refine ent_take 3 rfl ?_ | refine ent_take 4 rfl ?_ | refine ent_take 5 rfl ?_ | refine ent_take 6 rfl ?_ | refine ent_take 7 rfl ?_ | refine ent_take 8 rfl ?_ | refine ent_take 9 rfl ?_ | refine ent_take 10 rfl ?_ | refine ent_take 11 rfl ?_ | refine ent_take 12 rfl ?_)) ?_
    rintro ⟨i, v, w⟩ ⟨hv, hg, hi⟩ ρ0
    dsimp only [updL] at hv hg hi ⊢
    refine TC.seq ?_
    refine TC.seq ?_
    refine TC.region ?_
    refine q rfl rfl (mv (v := .int _ _) rfl) ?_
    refine q rfl rfl (mv (v := .int _ _) rfl) ?_
    first | refine q rfl rfl (conv .u8 .i64 rfl rfl rfl (wi64 (by omega) (by omega))) ?_ | refine q rfl rfl (conv .u8 .i64 rfl rfl rfl rfl) ?_
    first | refine q rfl rfl (remI rfl rfl (by omega) (by omega)) ?_ | refine q rfl rfl (rem rfl rfl (by omega) rfl) ?_
    refine q rfl rfl (lss rfl rfl) ?_
    refine TL.nil (nt ?_)
    first | refine TC.condD rfl (fun hlt => ?_) (fun hlt => ?_) | refine TC.cond rfl (fun hlt => ?_) (fun hlt => ?_)
    · obtain ⟨v2, hv2, ht, hr⟩ := SX_tick 0 pr w hv
      have hg2 := hg.tick
      rw [ht] at hg2
      refine TC.skip (nt ?_)
      refine TC.seq ?_
      refine TC.block ?_
      refine TC.seq ?_
      refine TC.region ?_
      refine q rfl rfl (mv (v := .pointer _) rfl) ?_
      refine e rfl ?_
      refine cl (ttick_ok a (SX 0 pr v w) hg.p (hg.tb (by omega)) (hg.tl (by omega)) (hg.nw (by omega))) rfl PkL.p trivial ?_
      intro _ _
      change TL _ _ _ _ _ _ _ _ (sepL [_, _])
      rw [ht]
      rw [hr]
      refine q rfl rfl (neI rfl rfl) ?_
      refine TL.nil (nt ?_)
      refine TC.condF rfl ?_
      refine TC.skip (nb (nt ?_))
      refine TC.region ?_
      refine q rfl rfl (mv (v := .int _ _) rfl) ?_
      first | refine q rfl rfl (addI rfl rfl (by omega) (by omega)) ?_ | refine q rfl rfl (add rfl rfl rfl) ?_
      refine q rfl rfl (asg (v := .int _ _) rfl) ?_
      refine TL.nil (nt ?_)
      exact ⟨rfl, ⟨i + 1, v2, w + 1⟩, ⟨hv2, hg2.up (by omega), by omega⟩, (by dsimp only; omega), ⟨rfl, rfl, rfl, rfl, trivial⟩, (by repeat (first | exact ent_nil _ | refine ent_take 0 rfl ?_ | refine ent_take 1 rfl ?_ | refine ent_take 2 rfl ?_ | refine ent_take 3 rfl ?_ | refine ent_take 4 rfl ?_ | refine ent_take 5 rfl ?_ | refine ent_take 6 rfl ?_ | refine ent_take 7 rfl ?_ | refine ent_take 8 rfl ?_ | refine ent_take 9 rfl ?_ | refine ent_take 10 rfl ?_ | refine ent_take 11 rfl ?_ | refine ent_take 12 rfl ?_))⟩
    · obtain ⟨q1, q2, q3, q4, q5, q6, q7, q8, q9⟩ := st_c hh3 hp v w
      refine TC.exit (et (et (eb (nt ?_))))
      refine TC.seq ?_
      refine TC.region ?_
      refine q rfl rfl (mv (v := .pointer _) rfl) ?_
      refine e rfl ?_
      refine cl (ttake_ok a (SX 0 pr v w) hg.p (hg.tb (by omega)) 1 (hg.tl (by omega))) rfl PkL.p trivial ?_
      intro _ _
      change TL _ _ _ _ _ _ _ _ (sepL [_, _])
      rw [q1]
      dsimp only
      refine q rfl rfl (mv (v := .tuple _) rfl) ?_
      refine q rfl rfl (pu (v := .agg #[_, _, _]) (fun _ => rfl)) ?_
      refine q rfl rfl (pu (v := .int _ _) (fun _ => rfl)) ?_
      refine e rfl ?_
      refine al (l := [.int _ _, .int _ _, .bool _]) rfl rfl ?_
      intro b2
      refine e0 ?_
      refine st (v := .agg #[_, _, _]) (vs := [_, _, _]) 3 rfl rfl rfl rfl rfl rfl (Nat.le_of_ble_eq_true rfl) rfl ?_
      refine q rfl rfl (asg (v := .int _ _) rfl) ?_
      refine TL.nil (nt ?_)
      refine TC.seq ?_
      refine TC.region ?_
      refine q rfl rfl (mv (v := .int _ _) rfl) ?_
      refine q rfl rfl (eqI rfl rfl) ?_
      refine q rfl rfl (mv (v := .bool _) rfl) ?_
      refine TL.known 92 rfl (c := true) (by decide) ?_
      refine qg rfl rfl rfl (mv (v := .pointer _) rfl) ?_
      refine eg rfl rfl ?_
      refine cl (tsend_ok a (SX 0 pr v w) hg.p (hg.tb (by omega)) 1 2 0 false 0) rfl PkL.p trivial ?_
      intro _ _
      change TL _ _ _ _ _ _ _ _ (sepL [_, _, _])
      rw [q2]
      dsimp only
      refine qg rfl rfl rfl (eqI rfl rfl) ?_
      first | refine q rfl rfl (pkT (v := .bool _) rfl rfl) ?_ | refine q rfl rfl (pkF (v := .bool _) rfl rfl) ?_
      refine q rfl rfl (mv (v := .bool _) rfl) ?_
      refine TL.known 97 rfl (c := true) (by decide) ?_
      refine qg rfl rfl rfl (mv (v := .pointer _) rfl) ?_
      refine eg rfl rfl ?_
      refine cl (twait_ok a (SX 0 pr v w) hg.p (hg.tb (by omega)) 1 0) rfl PkL.p trivial ?_
      intro _ _
      change TL _ _ _ _ _ _ _ _ (sepL [_, _, _])
      rw [q3]
      dsimp only
      refine qg rfl rfl rfl (eqI rfl rfl) ?_
      first | refine q rfl rfl (pkT (v := .bool _) rfl rfl) ?_ | refine q rfl rfl (pkF (v := .bool _) rfl rfl) ?_
      refine q rfl rfl (mv (v := .bool _) rfl) ?_
      refine TL.known 102 rfl (c := true) (by decide) ?_
      refine qg rfl rfl rfl (mv (v := .pointer _) rfl) ?_
      refine eg rfl rfl ?_
      refine cl (twake_ok a (SX 0 pr v w) hg.p (hg.tb (by omega)) 1 0) rfl PkL.p trivial ?_
      intro _ _
      change TL _ _ _ _ _ _ _ _ (sepL [_, _, _])
      rw [q4]
      dsimp only
      refine qg rfl rfl rfl (eqI rfl rfl) ?_
      first | refine q rfl rfl (pkT (v := .bool _) rfl rfl) ?_ | refine q rfl rfl (pkF (v := .bool _) rfl rfl) ?_
      refine q rfl rfl (mv (v := .bool _) rfl) ?_
      refine TL.known 107 rfl (c := true) (by decide) ?_
      refine qg rfl rfl rfl (mv (v := .pointer _) rfl) ?_
      refine eg rfl rfl ?_
      refine cl (ttold_ok a (SX 0 pr v w)) rfl PkL.p trivial ?_
      intro yt _
      change TL _ _ _ _ _ _ _ _ (sepL [_, _, _, _])
      rw [q5]
      have hg3 := hg.tolds
      refine qg rfl rfl rfl (len 39 2 rfl rfl) ?_
      refine qg rfl rfl rfl (eqI rfl rfl) ?_
      first | refine q rfl rfl (pkT (v := .bool _) rfl rfl) ?_ | refine q rfl rfl (pkF (v := .bool _) rfl rfl) ?_
      refine q rfl rfl (mv (v := .bool _) rfl) ?_
      refine TL.known 113 rfl (c := true) (by decide) ?_
      refine qg rfl rfl rfl (mv (v := .pointer _) rfl) ?_
      refine eg rfl rfl ?_
      refine cl (tstart_ok a (toldT (SX 0 pr v w)) hg3.p (hg3.tb (by omega)) 1 0 17) rfl PkL.p trivial ?_
      intro _ _
      change TL _ _ _ _ _ _ _ _ (sepL [_, _, _, _])
      rw [q6]
      dsimp only
      refine qg rfl rfl rfl (eqI rfl rfl) ?_
      first | refine q rfl rfl (pkT (v := .bool _) rfl rfl) ?_ | refine q rfl rfl (pkF (v := .bool _) rfl rfl) ?_
      refine q rfl rfl (mv (v := .bool _) rfl) ?_
      refine TL.known 118 rfl (c := true) (by decide) ?_
      refine qg rfl rfl rfl (mv (v := .pointer _) rfl) ?_
      refine qg rfl rfl rfl (mv (v := .int _ _) rfl) ?_
      refine eg rfl rfl ?_
      refine cl (tstart_ok a (toldT (SX 0 pr v w)) hg3.p (hg3.tb (by omega)) 1 pr 1) rfl PkL.p trivial ?_
      intro _ _
      change TL _ _ _ _ _ _ _ _ (sepL [_, _, _, _])
      rw [q7]
      dsimp only
      have hg4 := hg3.start 1 pr 1
      rw [q7] at hg4
      dsimp only at hg4
      refine qg rfl rfl rfl (eqI rfl rfl) ?_
      first | refine q rfl rfl (pkT (v := .bool _) rfl rfl) ?_ | refine q rfl rfl (pkF (v := .bool _) rfl rfl) ?_
      refine q rfl rfl (mv (v := .bool _) rfl) ?_
      refine TL.known 124 rfl (c := true) (by decide) ?_
      refine qg rfl rfl rfl (mv (v := .pointer _) rfl) ?_
      refine eg rfl rfl ?_
      refine cl (trun_ok a (SY 0 pr v w) hg4.p (hg4.tb (by omega))) rfl PkL.p trivial ?_
      intro _ _
      change TL _ _ _ _ _ _ _ _ (sepL [_, _, _, _])
      rw [q8]
      refine qg rfl rfl rfl (eqI rfl rfl) ?_
      first | refine q rfl rfl (pkT (v := .bool _) rfl rfl) ?_ | refine q rfl rfl (pkF (v := .bool _) rfl rfl) ?_
      refine q rfl rfl (mv (v := .bool _) rfl) ?_
      refine TL.known 129 rfl (c := true) (by decide) ?_
      refine qg rfl rfl rfl (mv (v := .pointer _) rfl) ?_
      refine qg rfl rfl rfl (mv (v := .int _ _) rfl) ?_
      refine eg rfl rfl ?_
      refine cl (tstart_ok a (SY 0 pr v w) hg4.p (hg4.tb (by omega)) 1 pr 1) rfl PkL.p trivial ?_
      intro _ _
      change TL _ _ _ _ _ _ _ _ (sepL [_, _, _, _])
      rw [q9]
      dsimp only
      refine qg rfl rfl rfl (eqI rfl rfl) ?_
      first | refine q rfl rfl (pkT (v := .bool _) rfl rfl) ?_ | refine q rfl rfl (pkF (v := .bool _) rfl rfl) ?_
      refine q rfl rfl (asg (v := .bool _) rfl) ?_
      refine TL.nil (nt ?_)
      refine TC.ret ?_
      exact Ret.i () [_] ⟨rfl, trivial⟩ rfl trivial (by repeat (first | exact ent_nil _ | refine ent_take 0 rfl ?_ | refine ent_take 1 rfl ?_ | refine ent_take 2 rfl ?_ | refine ent_take 3 rfl ?_ | refine ent_take 4 rfl ?_ | refine ent_take 5 rfl ?_ | refine ent_take 6 rfl ?_ | refine ent_take 7 rfl ?_ | refine ent_take 8 rfl ?_ | refine ent_take 9 rfl ?_ | refine ent_take 10 rfl ?_ | refine ent_take 11 rfl ?_ | refine ent_take 12 rfl ?_))
  · refine TC.seq ?_
    refine TC.region ?_
    refine q rfl rfl (eqI rfl rfl) ?_
    refine q rfl rfl (asg (v := .bool _) rfl) ?_
    refine TL.nil (nt ?_)
    first | refine TC.condD rfl (fun k1 => ?_) (fun k1 => ?_) | refine TC.cond rfl (fun k1 => ?_) (fun k1 => ?_)
    · refine TC.seq ?_
      refine TC.region ?_
      refine q rfl rfl (mv (v := .pointer _) rfl) ?_
      refine e rfl ?_
      refine cl (tsend_ok a (SC pr) g3.p (g3.tb (by omega)) 1 2 5 true 3) rfl PkL.p trivial ?_
      intro _ _
      change TL _ _ _ _ _ _ _ _ (sepL [_, _, _])
      rw [e5]
      dsimp only
      have g4 := g3.send 1 2 5 true 3
      rw [e5] at g4
      dsimp only at g4
      refine q rfl rfl (neI rfl rfl) ?_
      refine TL.nil (nt ?_)
      refine TC.condF rfl ?_
      have hh3 : (1 : Int) = 0 ∨ (1 : Int) = 1 ∨ (1 : Int) = 2 := .inr (.inl rfl)
      obtain ⟨f1, f2, f3, f4, f5, f6⟩ := st_b hh3 hp
      refine TC.skip (nb (nt ?_))
      refine TC.seq ?_
      refine TC.seq ?_
      refine TC.region ?_
      refine q rfl rfl (mv (v := .pointer _) rfl) ?_
      refine e rfl ?_
      refine cl (tstop_ok a (SU 1 pr) g4.p (g4.tb (by omega)) 1) rfl PkL.p trivial ?_
      intro _ _
      change TL _ _ _ _ _ _ _ _ (sepL [_, _, _])
      rw [f1]
      dsimp only
      have g5 := g4.stop 1
      rw [f1] at g5
      dsimp only at g5
      refine q rfl rfl (neI rfl rfl) ?_
      refine q rfl rfl (mv (v := .bool _) rfl) ?_
      refine TL.known 54 rfl (c := false) (by decide) ?_
      refine qg rfl rfl rfl (mv (v := .pointer _) rfl) ?_
      refine eg rfl rfl ?_
      refine cl (tstop_ok a (SV 1 pr) g5.p (g5.tb (by omega)) 1) rfl PkL.p trivial ?_
      intro _ _
      change TL _ _ _ _ _ _ _ _ (sepL [_, _, _])
      rw [f2]
      dsimp only
      refine qg rfl rfl rfl (neI rfl rfl) ?_
      first | refine q rfl rfl (pkT (v := .bool _) rfl rfl) ?_ | refine q rfl rfl (pkF (v := .bool _) rfl rfl) ?_
      refine q rfl rfl (mv (v := .bool _) rfl) ?_
      refine TL.known 59 rfl (c := false) (by decide) ?_
      refine qg rfl rfl rfl (mv (v := .pointer _) rfl) ?_
      refine eg rfl rfl ?_
      refine cl (tstate_ok a (SV 1 pr) 1) rfl PkL.p trivial ?_
      intro _ _
      change TL _ _ _ _ _ _ _ _ (sepL [_, _, _])
      rw [f3]
      refine qg rfl rfl rfl (neI rfl rfl) ?_
      first | refine q rfl rfl (pkT (v := .bool _) rfl rfl) ?_ | refine q rfl rfl (pkF (v := .bool _) rfl rfl) ?_
      refine q rfl rfl (mv (v := .bool _) rfl) ?_
      refine TL.known 64 rfl (c := false) (by decide) ?_
      refine qg rfl rfl rfl (mv (v := .pointer _) rfl) ?_
      refine eg rfl rfl ?_
      refine cl (trow_ok a (SV 1 pr) g5.p (g5.tb (by omega)) 2) rfl PkL.p trivial ?_
      intro yr _
      change TL _ _ _ _ _ _ _ _ (sepL [_, _, _, _])
      rw [f4]
      refine qg rfl rfl rfl (len 32 3 rfl rfl) ?_
      refine qg rfl rfl rfl (neI rfl rfl) ?_
      first | refine q rfl rfl (pkT (v := .bool _) rfl rfl) ?_ | refine q rfl rfl (pkF (v := .bool _) rfl rfl) ?_
      refine q rfl rfl (mv (v := .bool _) rfl) ?_
      refine TL.known 70 rfl (c := false) (by decide) ?_
      refine qg rfl rfl rfl (mv (v := .pointer _) rfl) ?_
      refine eg rfl rfl ?_
      refine cl (tleft_ok a (SV 1 pr) g5.p (g5.tb (by omega)) 1) rfl PkL.p trivial ?_
      intro _ _
      change TL _ _ _ _ _ _ _ _ (sepL [_, _, _, _])
      rw [f5]
      refine qg rfl rfl rfl (neI rfl rfl) ?_
      first | refine q rfl rfl (pkT (v := .bool _) rfl rfl) ?_ | refine q rfl rfl (pkF (v := .bool _) rfl rfl) ?_
      refine TL.nil (nt ?_)
      refine TC.condF rfl ?_
      refine TC.skip (nt ?_)
      refine TC.seq ?_
      refine TC.seq ?_
      refine TC.region ?_
      refine q rfl rfl (asg (v := .int _ _) rfl) ?_
      refine TL.nil (nt ?_)
      refine TC.block ?_
      rw [f6] at g5 ⊢
      refine TC.loop (ι := Nat × Int × Int) (fun u => (1 ≤ u.2.1 ∧ u.2.1 ≤ 4) ∧ TG (SX 1 pr u.2.1 u.2.2) (10 + u.1) ∧ u.1 ≤ 20) (fun u => [(1, .int .u8 n), (7, .pointer (some ⟨a, 0, none⟩)), (8, .int .i64 pr), (9, .int .i64 ((u.1 : Nat) : Int))]) (fun u => sepL [isT a (SX 1 pr u.2.1 u.2.2), F]) (fun u => 20 - u.1) ⟨0, 4, 0⟩ ⟨by decide, g5.up (by decide), by decide⟩ ⟨rfl, rfl, rfl, rfl, trivial⟩ (by repeat (first | exact ent_nil _ | refine ent_take 0 rfl ?_ | refine ent_take 1 rfl ?_ | refine ent_take 2 rfl ?_ | refine ent_take 3 rfl ?_ | refine ent_take 4 rfl ?_ | refine ent_take 5 rfl ?_ | refine ent_take 6 rfl ?_ | refine ent_take 7 rfl ?_ | refine ent_take 8 rfl ?_ | refine ent_take 9 rfl ?_ | refine ent_take 10 rfl ?_ | refine ent_take 11 rfl ?_ | refine ent_take 12 rfl ?_)) ?_
      rintro ⟨i, v, w⟩ ⟨hv, hg, hi⟩ ρ0
      dsimp only [updL] at hv hg hi ⊢
      refine TC.seq ?_
      refine TC.seq ?_
      refine TC.region ?_
      refine q rfl rfl (mv (v := .int _ _) rfl) ?_
      refine q rfl rfl (mv (v := .int _ _) rfl) ?_
      first | refine q rfl rfl (conv .u8 .i64 rfl rfl rfl (wi64 (by omega) (by omega))) ?_ | refine q rfl rfl (conv .u8 .i64 rfl rfl rfl rfl) ?_
      first | refine q rfl rfl (remI rfl rfl (by omega) (by omega)) ?_ | refine q rfl rfl (rem rfl rfl (by omega) rfl) ?_
      refine q rfl rfl (lss rfl rfl) ?_
      refine TL.nil (nt ?_)
      first | refine TC.condD rfl (fun hlt => ?_) (fun hlt => ?_) | refine TC.cond rfl (fun hlt => ?_) (fun hlt => ?_)
      · obtain ⟨v2, hv2, ht, hr⟩ := SX_tick 1 pr w hv
        have hg2 := hg.tick
        rw [ht] at hg2
        refine TC.skip (nt ?_)
        refine TC.seq ?_
        refine TC.block ?_
        refine TC.seq ?_
        refine TC.region ?_
        refine q rfl rfl (mv (v := .pointer _) rfl) ?_
        refine e rfl ?_
        refine cl (ttick_ok a (SX 1 pr v w) hg.p (hg.tb (by omega)) (hg.tl (by omega)) (hg.nw (by omega))) rfl PkL.p trivial ?_
        intro _ _
        change TL _ _ _ _ _ _ _ _ (sepL [_, _])
        rw [ht]
        rw [hr]
        refine q rfl rfl (neI rfl rfl) ?_
        refine TL.nil (nt ?_)
        refine TC.condF rfl ?_
        refine TC.skip (nb (nt ?_))
        refine TC.region ?_
        refine q rfl rfl (mv (v := .int _ _) rfl) ?_
        first | refine q rfl rfl (addI rfl rfl (by omega) (by omega)) ?_ | refine q rfl rfl (add rfl rfl rfl) ?_
        refine q rfl rfl (asg (v := .int _ _) rfl) ?_
        refine TL.nil (nt ?_)
        exact ⟨rfl, ⟨i + 1, v2, w + 1⟩, ⟨hv2, hg2.up (by omega), by omega⟩, (by dsimp only; omega), ⟨rfl, rfl, rfl, rfl, trivial⟩, (by repeat (first | exact ent_nil _ | refine ent_take 0 rfl ?_ | refine ent_take 1 rfl ?_ | refine ent_take 2 rfl ?_ | refine ent_take 3 rfl ?_ | refine ent_take 4 rfl ?_ | refine ent_take 5 rfl ?_ | refine ent_take 6 rfl ?_ | refine ent_take 7 rfl ?_ | refine ent_take 8 rfl ?_ | refine ent_take 9 rfl ?_ | refine ent_take 10 rfl ?_ | refine ent_take 11 rfl ?_ | refine ent_take 12 rfl ?_))⟩
      · obtain ⟨q1, q2, q3, q4, q5, q6, q7, q8, q9⟩ := st_c hh3 hp v w
        refine TC.exit (et (et (eb (nt ?_))))
        refine TC.seq ?_
        refine TC.region ?_
        refine q rfl rfl (mv (v := .pointer _) rfl) ?_
        refine e rfl ?_
        refine cl (ttake_ok a (SX 1 pr v w) hg.p (hg.tb (by omega)) 1 (hg.tl (by omega))) rfl PkL.p trivial ?_
        intro _ _
        change TL _ _ _ _ _ _ _ _ (sepL [_, _])
        rw [q1]
        dsimp only
        refine q rfl rfl (mv (v := .tuple _) rfl) ?_
        refine q rfl rfl (pu (v := .agg #[_, _, _]) (fun _ => rfl)) ?_
        refine q rfl rfl (pu (v := .int _ _) (fun _ => rfl)) ?_
        refine e rfl ?_
        refine al (l := [.int _ _, .int _ _, .bool _]) rfl rfl ?_
        intro b3
        refine e0 ?_
        refine st (v := .agg #[_, _, _]) (vs := [_, _, _]) 3 rfl rfl rfl rfl rfl rfl (Nat.le_of_ble_eq_true rfl) rfl ?_
        refine q rfl rfl (asg (v := .int _ _) rfl) ?_
        refine TL.nil (nt ?_)
        refine TC.seq ?_
        refine TC.region ?_
        refine q rfl rfl (mv (v := .int _ _) rfl) ?_
        refine q rfl rfl (eqI rfl rfl) ?_
        refine q rfl rfl (mv (v := .bool _) rfl) ?_
        refine TL.known 92 rfl (c := true) (by decide) ?_
        refine qg rfl rfl rfl (mv (v := .pointer _) rfl) ?_
        refine eg rfl rfl ?_
        refine cl (tsend_ok a (SX 1 pr v w) hg.p (hg.tb (by omega)) 1 2 0 false 0) rfl PkL.p trivial ?_
        intro _ _
        change TL _ _ _ _ _ _ _ _ (sepL [_, _, _])
        rw [q2]
        dsimp only
        refine qg rfl rfl rfl (eqI rfl rfl) ?_
        first | refine q rfl rfl (pkT (v := .bool _) rfl rfl) ?_ | refine q rfl rfl (pkF (v := .bool _) rfl rfl) ?_
        refine q rfl rfl (mv (v := .bool _) rfl) ?_
        refine TL.known 97 rfl (c := true) (by decide) ?_
        refine qg rfl rfl rfl (mv (v := .pointer _) rfl) ?_
        refine eg rfl rfl ?_
        refine cl (twait_ok a (SX 1 pr v w) hg.p (hg.tb (by omega)) 1 0) rfl PkL.p trivial ?_
        intro _ _
        change TL _ _ _ _ _ _ _ _ (sepL [_, _, _])
        rw [q3]
        dsimp only
        refine qg rfl rfl rfl (eqI rfl rfl) ?_
        first | refine q rfl rfl (pkT (v := .bool _) rfl rfl) ?_ | refine q rfl rfl (pkF (v := .bool _) rfl rfl) ?_
        refine q rfl rfl (mv (v := .bool _) rfl) ?_
        refine TL.known 102 rfl (c := true) (by decide) ?_
        refine qg rfl rfl rfl (mv (v := .pointer _) rfl) ?_
        refine eg rfl rfl ?_
        refine cl (twake_ok a (SX 1 pr v w) hg.p (hg.tb (by omega)) 1 0) rfl PkL.p trivial ?_
        intro _ _
        change TL _ _ _ _ _ _ _ _ (sepL [_, _, _])
        rw [q4]
        dsimp only
        refine qg rfl rfl rfl (eqI rfl rfl) ?_
        first | refine q rfl rfl (pkT (v := .bool _) rfl rfl) ?_ | refine q rfl rfl (pkF (v := .bool _) rfl rfl) ?_
        refine q rfl rfl (mv (v := .bool _) rfl) ?_
        refine TL.known 107 rfl (c := true) (by decide) ?_
        refine qg rfl rfl rfl (mv (v := .pointer _) rfl) ?_
        refine eg rfl rfl ?_
        refine cl (ttold_ok a (SX 1 pr v w)) rfl PkL.p trivial ?_
        intro yt _
        change TL _ _ _ _ _ _ _ _ (sepL [_, _, _, _])
        rw [q5]
        have hg3 := hg.tolds
        refine qg rfl rfl rfl (len 39 2 rfl rfl) ?_
        refine qg rfl rfl rfl (eqI rfl rfl) ?_
        first | refine q rfl rfl (pkT (v := .bool _) rfl rfl) ?_ | refine q rfl rfl (pkF (v := .bool _) rfl rfl) ?_
        refine q rfl rfl (mv (v := .bool _) rfl) ?_
        refine TL.known 113 rfl (c := true) (by decide) ?_
        refine qg rfl rfl rfl (mv (v := .pointer _) rfl) ?_
        refine eg rfl rfl ?_
        refine cl (tstart_ok a (toldT (SX 1 pr v w)) hg3.p (hg3.tb (by omega)) 1 0 17) rfl PkL.p trivial ?_
        intro _ _
        change TL _ _ _ _ _ _ _ _ (sepL [_, _, _, _])
        rw [q6]
        dsimp only
        refine qg rfl rfl rfl (eqI rfl rfl) ?_
        first | refine q rfl rfl (pkT (v := .bool _) rfl rfl) ?_ | refine q rfl rfl (pkF (v := .bool _) rfl rfl) ?_
        refine q rfl rfl (mv (v := .bool _) rfl) ?_
        refine TL.known 118 rfl (c := true) (by decide) ?_
        refine qg rfl rfl rfl (mv (v := .pointer _) rfl) ?_
        refine qg rfl rfl rfl (mv (v := .int _ _) rfl) ?_
        refine eg rfl rfl ?_
        refine cl (tstart_ok a (toldT (SX 1 pr v w)) hg3.p (hg3.tb (by omega)) 1 pr 1) rfl PkL.p trivial ?_
        intro _ _
        change TL _ _ _ _ _ _ _ _ (sepL [_, _, _, _])
        rw [q7]
        dsimp only
        have hg4 := hg3.start 1 pr 1
        rw [q7] at hg4
        dsimp only at hg4
        refine qg rfl rfl rfl (eqI rfl rfl) ?_
        first | refine q rfl rfl (pkT (v := .bool _) rfl rfl) ?_ | refine q rfl rfl (pkF (v := .bool _) rfl rfl) ?_
        refine q rfl rfl (mv (v := .bool _) rfl) ?_
        refine TL.known 124 rfl (c := true) (by decide) ?_
        refine qg rfl rfl rfl (mv (v := .pointer _) rfl) ?_
        refine eg rfl rfl ?_
        refine cl (trun_ok a (SY 1 pr v w) hg4.p (hg4.tb (by omega))) rfl PkL.p trivial ?_
        intro _ _
        change TL _ _ _ _ _ _ _ _ (sepL [_, _, _, _])
        rw [q8]
        refine qg rfl rfl rfl (eqI rfl rfl) ?_
        first | refine q rfl rfl (pkT (v := .bool _) rfl rfl) ?_ | refine q rfl rfl (pkF (v := .bool _) rfl rfl) ?_
        refine q rfl rfl (mv (v := .bool _) rfl) ?_
        refine TL.known 129 rfl (c := true) (by decide) ?_
        refine qg rfl rfl rfl (mv (v := .pointer _) rfl) ?_
        refine qg rfl rfl rfl (mv (v := .int _ _) rfl) ?_
        refine eg rfl rfl ?_
        refine cl (tstart_ok a (SY 1 pr v w) hg4.p (hg4.tb (by omega)) 1 pr 1) rfl PkL.p trivial ?_
        intro _ _
        change TL _ _ _ _ _ _ _ _ (sepL [_, _, _, _])
        rw [q9]
        dsimp only
        refine qg rfl rfl rfl (eqI rfl rfl) ?_
        first | refine q rfl rfl (pkT (v := .bool _) rfl rfl) ?_ | refine q rfl rfl (pkF (v := .bool _) rfl rfl) ?_
        refine q rfl rfl (asg (v := .bool _) rfl) ?_
        refine TL.nil (nt ?_)
        refine TC.ret ?_
        exact Ret.i () [_] ⟨rfl, trivial⟩ rfl trivial (by repeat (first | exact ent_nil _ | refine ent_take 0 rfl ?_ | refine ent_take 1 rfl ?_ | refine ent_take 2 rfl ?_ | refine ent_take 3 rfl ?_ | refine ent_take 4 rfl ?_ | refine ent_take 5 rfl ?_ | refine ent_take 6 rfl ?_ | refine ent_take 7 rfl ?_ | refine ent_take 8 rfl ?_ | refine ent_take 9 rfl ?_ | refine ent_take 10 rfl ?_ | refine ent_take 11 rfl ?_ | refine ent_take 12 rfl ?_))
    · have hh3 : (2 : Int) = 0 ∨ (2 : Int) = 1 ∨ (2 : Int) = 2 := .inr (.inr rfl)
      have g4 : TG (SU 2 pr) 2 := g3
      rw [show SC pr = SU 2 pr from rfl]
      obtain ⟨f1, f2, f3, f4, f5, f6⟩ := st_b hh3 hp
      refine TC.skip (nb (nt ?_))
      refine TC.seq ?_
      refine TC.seq ?_
      refine TC.region ?_
      refine q rfl rfl (mv (v := .pointer _) rfl) ?_
      refine e rfl ?_
      refine cl (tstop_ok a (SU 2 pr) g4.p (g4.tb (by omega)) 1) rfl PkL.p trivial ?_
      intro _ _
      change TL _ _ _ _ _ _ _ _ (sepL [_, _, _])
      rw [f1]
      dsimp only
      have g5 := g4.stop 1
      rw [f1] at g5
      dsimp only at g5
      refine q rfl rfl (neI rfl rfl) ?_
      refine q rfl rfl (mv (v := .bool _) rfl) ?_
      refine TL.known 54 rfl (c := false) (by decide) ?_
      refine qg rfl rfl rfl (mv (v := .pointer _) rfl) ?_
      refine eg rfl rfl ?_
      refine cl (tstop_ok a (SV 2 pr) g5.p (g5.tb (by omega)) 1) rfl PkL.p trivial ?_
      intro _ _
      change TL _ _ _ _ _ _ _ _ (sepL [_, _, _])
      rw [f2]
      dsimp only
      refine qg rfl rfl rfl (neI rfl rfl) ?_
      first | refine q rfl rfl (pkT (v := .bool _) rfl rfl) ?_ | refine q rfl rfl (pkF (v := .bool _) rfl rfl) ?_
      refine q rfl rfl (mv (v := .bool _) rfl) ?_
      refine TL.known 59 rfl (c := false) (by decide) ?_
      refine qg rfl rfl rfl (mv (v := .pointer _) rfl) ?_
      refine eg rfl rfl ?_
      refine cl (tstate_ok a (SV 2 pr) 1) rfl PkL.p trivial ?_
      intro _ _
      change TL _ _ _ _ _ _ _ _ (sepL [_, _, _])
      rw [f3]
      refine qg rfl rfl rfl (neI rfl rfl) ?_
      first | refine q rfl rfl (pkT (v := .bool _) rfl rfl) ?_ | refine q rfl rfl (pkF (v := .bool _) rfl rfl) ?_
      refine q rfl rfl (mv (v := .bool _) rfl) ?_
      refine TL.known 64 rfl (c := false) (by decide) ?_
      refine qg rfl rfl rfl (mv (v := .pointer _) rfl) ?_
      refine eg rfl rfl ?_
      refine cl (trow_ok a (SV 2 pr) g5.p (g5.tb (by omega)) 2) rfl PkL.p trivial ?_
      intro yr _
      change TL _ _ _ _ _ _ _ _ (sepL [_, _, _, _])
      rw [f4]
      refine qg rfl rfl rfl (len 32 3 rfl rfl) ?_
      refine qg rfl rfl rfl (neI rfl rfl) ?_
      first | refine q rfl rfl (pkT (v := .bool _) rfl rfl) ?_ | refine q rfl rfl (pkF (v := .bool _) rfl rfl) ?_
      refine q rfl rfl (mv (v := .bool _) rfl) ?_
      refine TL.known 70 rfl (c := false) (by decide) ?_
      refine qg rfl rfl rfl (mv (v := .pointer _) rfl) ?_
      refine eg rfl rfl ?_
      refine cl (tleft_ok a (SV 2 pr) g5.p (g5.tb (by omega)) 1) rfl PkL.p trivial ?_
      intro _ _
      change TL _ _ _ _ _ _ _ _ (sepL [_, _, _, _])
      rw [f5]
      refine qg rfl rfl rfl (neI rfl rfl) ?_
      first | refine q rfl rfl (pkT (v := .bool _) rfl rfl) ?_ | refine q rfl rfl (pkF (v := .bool _) rfl rfl) ?_
      refine TL.nil (nt ?_)
      refine TC.condF rfl ?_
      refine TC.skip (nt ?_)
      refine TC.seq ?_
      refine TC.seq ?_
      refine TC.region ?_
      refine q rfl rfl (asg (v := .int _ _) rfl) ?_
      refine TL.nil (nt ?_)
      refine TC.block ?_
      rw [f6] at g5 ⊢
      refine TC.loop (ι := Nat × Int × Int) (fun u => (1 ≤ u.2.1 ∧ u.2.1 ≤ 4) ∧ TG (SX 2 pr u.2.1 u.2.2) (10 + u.1) ∧ u.1 ≤ 20) (fun u => [(1, .int .u8 n), (7, .pointer (some ⟨a, 0, none⟩)), (8, .int .i64 pr), (9, .int .i64 ((u.1 : Nat) : Int))]) (fun u => sepL [isT a (SX 2 pr u.2.1 u.2.2), F]) (fun u => 20 - u.1) ⟨0, 4, 0⟩ ⟨by decide, g5.up (by decide), by decide⟩ ⟨rfl, rfl, rfl, rfl, trivial⟩ (by repeat (first | exact ent_nil _ | refine ent_take 0 rfl ?_ | refine ent_take 1 rfl ?_ | refine ent_take 2 rfl ?_ | refine ent_take 3 rfl ?_ | refine ent_take 4 rfl ?_ | refine ent_take 5 rfl ?_ | refine ent_take 6 rfl ?_ | refine ent_take 7 rfl ?_ | refine ent_take 8 rfl ?_ | refine ent_take 9 rfl ?_ | refine ent_take 10 rfl ?_ | refine ent_take 11 rfl ?_ | refine ent_take 12 rfl ?_)) ?_
      rintro ⟨i, v, w⟩ ⟨hv, hg, hi⟩ ρ0
      dsimp only [updL] at hv hg hi ⊢
      refine TC.seq ?_
      refine TC.seq ?_
      refine TC.region ?_
      refine q rfl rfl (mv (v := .int _ _) rfl) ?_
      refine q rfl rfl (mv (v := .int _ _) rfl) ?_
      first | refine q rfl rfl (conv .u8 .i64 rfl rfl rfl (wi64 (by omega) (by omega))) ?_ | refine q rfl rfl (conv .u8 .i64 rfl rfl rfl rfl) ?_
      first | refine q rfl rfl (remI rfl rfl (by omega) (by omega)) ?_ | refine q rfl rfl (rem rfl rfl (by omega) rfl) ?_
      refine q rfl rfl (lss rfl rfl) ?_
      refine TL.nil (nt ?_)
      first | refine TC.condD rfl (fun hlt => ?_) (fun hlt => ?_) | refine TC.cond rfl (fun hlt => ?_) (fun hlt => ?_)
      · obtain ⟨v2, hv2, ht, hr⟩ := SX_tick 2 pr w hv
        have hg2 := hg.tick
        rw [ht] at hg2
        refine TC.skip (nt ?_)
        refine TC.seq ?_
        refine TC.block ?_
        refine TC.seq ?_
        refine TC.region ?_
        refine q rfl rfl (mv (v := .pointer _) rfl) ?_
        refine e rfl ?_
        refine cl (ttick_ok a (SX 2 pr v w) hg.p (hg.tb (by omega)) (hg.tl (by omega)) (hg.nw (by omega))) rfl PkL.p trivial ?_
        intro _ _
        change TL _ _ _ _ _ _ _ _ (sepL [_, _])
        rw [ht]
        rw [hr]
        refine q rfl rfl (neI rfl rfl) ?_
        refine TL.nil (nt ?_)
        refine TC.condF rfl ?_
        refine TC.skip (nb (nt ?_))
        refine TC.region ?_
        refine q rfl rfl (mv (v := .int _ _) rfl) ?_
        first | refine q rfl rfl (addI rfl rfl (by omega) (by omega)) ?_ | refine q rfl rfl (add rfl rfl rfl) ?_
        refine q rfl rfl (asg (v := .int _ _) rfl) ?_
        refine TL.nil (nt ?_)
        exact ⟨rfl, ⟨i + 1, v2, w + 1⟩, ⟨hv2, hg2.up (by omega), by omega⟩, (by dsimp only; omega), ⟨rfl, rfl, rfl, rfl, trivial⟩, (by repeat (first | exact ent_nil _ | refine ent_take 0 rfl ?_ | refine ent_take 1 rfl ?_ | refine ent_take 2 rfl ?_ | refine ent_take 3 rfl ?_ | refine ent_take 4 rfl ?_ | refine ent_take 5 rfl ?_ | refine ent_take 6 rfl ?_ | refine ent_take 7 rfl ?_ | refine ent_take 8 rfl ?_ | refine ent_take 9 rfl ?_ | refine ent_take 10 rfl ?_ | refine ent_take 11 rfl ?_ | refine ent_take 12 rfl ?_))⟩
      · obtain ⟨q1, q2, q3, q4, q5, q6, q7, q8, q9⟩ := st_c hh3 hp v w
        refine TC.exit (et (et (eb (nt ?_))))
        refine TC.seq ?_
        refine TC.region ?_
        refine q rfl rfl (mv (v := .pointer _) rfl) ?_
        refine e rfl ?_
        refine cl (ttake_ok a (SX 2 pr v w) hg.p (hg.tb (by omega)) 1 (hg.tl (by omega))) rfl PkL.p trivial ?_
        intro _ _
        change TL _ _ _ _ _ _ _ _ (sepL [_, _])
        rw [q1]
        dsimp only
        refine q rfl rfl (mv (v := .tuple _) rfl) ?_
        refine q rfl rfl (pu (v := .agg #[_, _, _]) (fun _ => rfl)) ?_
        refine q rfl rfl (pu (v := .int _ _) (fun _ => rfl)) ?_
        refine e rfl ?_
        refine al (l := [.int _ _, .int _ _, .bool _]) rfl rfl ?_
        intro b4
        refine e0 ?_
        refine st (v := .agg #[_, _, _]) (vs := [_, _, _]) 3 rfl rfl rfl rfl rfl rfl (Nat.le_of_ble_eq_true rfl) rfl ?_
        refine q rfl rfl (asg (v := .int _ _) rfl) ?_
        refine TL.nil (nt ?_)
        refine TC.seq ?_
        refine TC.region ?_
        refine q rfl rfl (mv (v := .int _ _) rfl) ?_
        refine q rfl rfl (eqI rfl rfl) ?_
        refine q rfl rfl (mv (v := .bool _) rfl) ?_
        refine TL.known 92 rfl (c := true) (by decide) ?_
        refine qg rfl rfl rfl (mv (v := .pointer _) rfl) ?_
        refine eg rfl rfl ?_
        refine cl (tsend_ok a (SX 2 pr v w) hg.p (hg.tb (by omega)) 1 2 0 false 0) rfl PkL.p trivial ?_
        intro _ _
        change TL _ _ _ _ _ _ _ _ (sepL [_, _, _])
        rw [q2]
        dsimp only
        refine qg rfl rfl rfl (eqI rfl rfl) ?_
        first | refine q rfl rfl (pkT (v := .bool _) rfl rfl) ?_ | refine q rfl rfl (pkF (v := .bool _) rfl rfl) ?_
        refine q rfl rfl (mv (v := .bool _) rfl) ?_
        refine TL.known 97 rfl (c := true) (by decide) ?_
        refine qg rfl rfl rfl (mv (v := .pointer _) rfl) ?_
        refine eg rfl rfl ?_
        refine cl (twait_ok a (SX 2 pr v w) hg.p (hg.tb (by omega)) 1 0) rfl PkL.p trivial ?_
        intro _ _
        change TL _ _ _ _ _ _ _ _ (sepL [_, _, _])
        rw [q3]
        dsimp only
        refine qg rfl rfl rfl (eqI rfl rfl) ?_
        first | refine q rfl rfl (pkT (v := .bool _) rfl rfl) ?_ | refine q rfl rfl (pkF (v := .bool _) rfl rfl) ?_
        refine q rfl rfl (mv (v := .bool _) rfl) ?_
        refine TL.known 102 rfl (c := true) (by decide) ?_
        refine qg rfl rfl rfl (mv (v := .pointer _) rfl) ?_
        refine eg rfl rfl ?_
        refine cl (twake_ok a (SX 2 pr v w) hg.p (hg.tb (by omega)) 1 0) rfl PkL.p trivial ?_
        intro _ _
        change TL _ _ _ _ _ _ _ _ (sepL [_, _, _])
        rw [q4]
        dsimp only
        refine qg rfl rfl rfl (eqI rfl rfl) ?_
        first | refine q rfl rfl (pkT (v := .bool _) rfl rfl) ?_ | refine q rfl rfl (pkF (v := .bool _) rfl rfl) ?_
        refine q rfl rfl (mv (v := .bool _) rfl) ?_
        refine TL.known 107 rfl (c := true) (by decide) ?_
        refine qg rfl rfl rfl (mv (v := .pointer _) rfl) ?_
        refine eg rfl rfl ?_
        refine cl (ttold_ok a (SX 2 pr v w)) rfl PkL.p trivial ?_
        intro yt _
        change TL _ _ _ _ _ _ _ _ (sepL [_, _, _, _])
        rw [q5]
        have hg3 := hg.tolds
        refine qg rfl rfl rfl (len 39 2 rfl rfl) ?_
        refine qg rfl rfl rfl (eqI rfl rfl) ?_
        first | refine q rfl rfl (pkT (v := .bool _) rfl rfl) ?_ | refine q rfl rfl (pkF (v := .bool _) rfl rfl) ?_
        refine q rfl rfl (mv (v := .bool _) rfl) ?_
        refine TL.known 113 rfl (c := true) (by decide) ?_
        refine qg rfl rfl rfl (mv (v := .pointer _) rfl) ?_
        refine eg rfl rfl ?_
        refine cl (tstart_ok a (toldT (SX 2 pr v w)) hg3.p (hg3.tb (by omega)) 1 0 17) rfl PkL.p trivial ?_
        intro _ _
        change TL _ _ _ _ _ _ _ _ (sepL [_, _, _, _])
        rw [q6]
        dsimp only
        refine qg rfl rfl rfl (eqI rfl rfl) ?_
        first | refine q rfl rfl (pkT (v := .bool _) rfl rfl) ?_ | refine q rfl rfl (pkF (v := .bool _) rfl rfl) ?_
        refine q rfl rfl (mv (v := .bool _) rfl) ?_
        refine TL.known 118 rfl (c := true) (by decide) ?_
        refine qg rfl rfl rfl (mv (v := .pointer _) rfl) ?_
        refine qg rfl rfl rfl (mv (v := .int _ _) rfl) ?_
        refine eg rfl rfl ?_
        refine cl (tstart_ok a (toldT (SX 2 pr v w)) hg3.p (hg3.tb (by omega)) 1 pr 1) rfl PkL.p trivial ?_
        intro _ _
        change TL _ _ _ _ _ _ _ _ (sepL [_, _, _, _])
        rw [q7]
        dsimp only
        have hg4 := hg3.start 1 pr 1
        rw [q7] at hg4
        dsimp only at hg4
        refine qg rfl rfl rfl (eqI rfl rfl) ?_
        first | refine q rfl rfl (pkT (v := .bool _) rfl rfl) ?_ | refine q rfl rfl (pkF (v := .bool _) rfl rfl) ?_
        refine q rfl rfl (mv (v := .bool _) rfl) ?_
        refine TL.known 124 rfl (c := true) (by decide) ?_
        refine qg rfl rfl rfl (mv (v := .pointer _) rfl) ?_
        refine eg rfl rfl ?_
        refine cl (trun_ok a (SY 2 pr v w) hg4.p (hg4.tb (by omega))) rfl PkL.p trivial ?_
        intro _ _
        change TL _ _ _ _ _ _ _ _ (sepL [_, _, _, _])
        rw [q8]
        refine qg rfl rfl rfl (eqI rfl rfl) ?_
        first | refine q rfl rfl (pkT (v := .bool _) rfl rfl) ?_ | refine q rfl rfl (pkF (v := .bool _) rfl rfl) ?_
        refine q rfl rfl (mv (v := .bool _) rfl) ?_
        refine TL.known 129 rfl (c := true) (by decide) ?_
        refine qg rfl rfl rfl (mv (v := .pointer _) rfl) ?_
        refine qg rfl rfl rfl (mv (v := .int _ _) rfl) ?_
        refine eg rfl rfl ?_
        refine cl (tstart_ok a (SY 2 pr v w) hg4.p (hg4.tb (by omega)) 1 pr 1) rfl PkL.p trivial ?_
        intro _ _
        change TL _ _ _ _ _ _ _ _ (sepL [_, _, _, _])
        rw [q9]
        dsimp only
        refine qg rfl rfl rfl (eqI rfl rfl) ?_
        first | refine q rfl rfl (pkT (v := .bool _) rfl rfl) ?_ | refine q rfl rfl (pkF (v := .bool _) rfl rfl) ?_
        refine q rfl rfl (asg (v := .bool _) rfl) ?_
        refine TL.nil (nt ?_)
        refine TC.ret ?_
        exact Ret.i () [_] ⟨rfl, trivial⟩ rfl trivial (by repeat (first | exact ent_nil _ | refine ent_take 0 rfl ?_ | refine ent_take 1 rfl ?_ | refine ent_take 2 rfl ?_ | refine ent_take 3 rfl ?_ | refine ent_take 4 rfl ?_ | refine ent_take 5 rfl ?_ | refine ent_take 6 rfl ?_ | refine ent_take 7 rfl ?_ | refine ent_take 8 rfl ?_ | refine ent_take 9 rfl ?_ | refine ent_take 10 rfl ?_ | refine ent_take 11 rfl ?_ | refine ent_take 12 rfl ?_))

end Go.Proofs.Ytdfmfhcjnjfjbaa
