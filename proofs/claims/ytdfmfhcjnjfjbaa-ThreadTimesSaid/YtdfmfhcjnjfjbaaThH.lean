/-
  Proved here: what functions of this program compute, each as a contract over symbolic states, under the premises that each theorem names (most lines printed by a program of the prover).
-/
import Derived.Test.YtdfmfhcjnjfjbaaThF
namespace Go.Proofs.Ytdfmfhcjnjfjbaa
open Go Go.QM
open Al (En hasA Nd clrA setA offA dueA restA leftA)
open Rd (hasS NdS addS RInv topS runS tickS yieldS rndS)
theorem wait_go {T : TS} {id ticks : Int} (h1 : id ∈ T.m.ids) (h2 : ¬ badT ticks) (h3 : stT T id = 0) (h4 : (openS T.m id).2 = 0) : waitS T id ticks = (blockS (mS T (openS T.m id).1) id ticks, 0) := by
  rw [waitS, if_neg (fun h => h h1), if_neg h2, if_neg (fun h => h h3), if_neg (fun h => h h4)]
theorem send_go {T : TS} {fr to gt : Int} {cl : Bool} {ticks : Int} (h1 : fr ∈ T.m.ids) (h0 : to ∈ T.m.ids) (hne : fr ≠ to) (h2 : ¬ badT ticks) (h3 : stT T fr = 0) : sendS T fr to gt cl ticks = (blockS (mS T (offS T.m to ⟨fr, gt, cl⟩).1) fr ticks, 0) := by
  rw [sendS, if_neg (fun h => h.elim (fun h => h h1) (fun h => h h0)), if_neg (fun h => h.elim hne h2), if_neg (fun h => h h3)]
theorem block_set {T : TS} {id ticks : Int} (h0 : 0 ≤ id) (ht : 1 ≤ ticks ∧ ticks ≤ 1048576) (hA : T.A = []) : blockS T id ticks = { T with S := Rd.dropS T.S [id], tn := T.tn + 1, A := [⟨T.now + ticks, T.tn + 1, id⟩] } := by
  have hs : setA T.A T.now T.tn id ticks = ([⟨T.now + ticks, T.tn + 1, id⟩], T.tn + 1, 0) := by
    rw [hA, setA, if_neg (by omega), if_neg (fun ⟨e, he, _⟩ => by cases he)]; rfl
  rw [blockS, if_pos (by omega), hs]
theorem tick_none {T : TS} {e : En} (hA : T.A = [e]) (h : ¬ e.at_ ≤ T.now + 1) : tickT T = { T with S := tickS T.S, now := T.now + 1 } := by
  obtain ⟨S, now, tn, A, m, pr, sl, on, told⟩ := T
  dsimp only at hA h
  subst hA
  have h1 : dueA (now + 1) [e] = [] := by rw [dueA, List.filter_cons_of_neg (by simpa using h), List.filter_nil]
  have h2 : restA (now + 1) [e] = [e] := by rw [restA, List.filter_cons_of_pos (by simpa using h), List.filter_nil]
  rw [tickT, tickT1]
  dsimp only
  rw [h1, h2]; rfl
theorem tick_one {T : TS} {e : En} (hA : T.A = [e]) (h : e.at_ ≤ T.now + 1) : tickT T = (wakeS { T with S := tickS T.S, now := T.now + 1, A := [] } 14 e.id).1 := by
  obtain ⟨S, now, tn, A, m, pr, sl, on, told⟩ := T
  dsimp only at hA h
  subst hA
  have h1 : dueA (now + 1) [e] = [e] := by rw [dueA, List.filter_cons_of_pos (by simpa using h), List.filter_nil]
  have h2 : restA (now + 1) [e] = [] := by rw [restA, List.filter_cons_of_neg (by simpa using h), List.filter_nil]
  rw [tickT, tickT1]
  dsimp only
  rw [h1, h2]; rfl
def MA : TS := addL t0 [1, 2]
theorem MA_n : (MA.m.ids.length : Int) - (t0.m.ids.length : Int) = 2 := by kernel_rfl
theorem MA_g : TG MA 0 := TG.zero.adds _ (by decide)
def MB (p : Int) : TS := (startS MA 1 p 2).1
def MC (p : Int) : TS := (startS (MB p) 2 3 4).1
def mblk (T : TS) (M : Int) : TS := { T with S := Rd.dropS T.S [1], tn := T.tn + 1, A := [⟨T.now + M, T.tn + 1, 1⟩] }
def MD (p M : Int) : TS := mblk (mS (MC p) (offS (MC p).m 2 ⟨1, 5, true⟩).1) M
def MU (h p M : Int) : TS := if h = 0 then mblk (mS (MC p) (openS (MC p).m 1).1) M else if h = 1 then mblk (mS (MC p) (offS (MC p).m 2 ⟨1, 5, false⟩).1) M else (takeT (MD p M) 2).1
def MX (h p M v k : Int) : TS := { MU h p M with S := [⟨2, 3, 4, v⟩], now := k, A := [⟨0 + M, 1, 1⟩] }
def MY (h p M v k : Int) : TS := { MU h p M with S := [⟨2, 3, 4, v⟩], now := k, A := [] }
def MZ (h p M v k : Int) : TS := (wakeS (MY h p M v k) 14 1).1
theorem p8 {p : Int} (hp : 0 ≤ p ∧ p ≤ 7) : p = 0 ∨ p = 1 ∨ p = 2 ∨ p = 3 ∨ p = 4 ∨ p = 5 ∨ p = 6 ∨ p = 7 := by omega
theorem tm_a {p : Int} (hp : 0 ≤ p ∧ p ≤ 7) : startS MA 1 p 2 = (MB p, 0) ∧ startS (MB p) 2 3 4 = (MC p, 0) ∧ takeT (MC p) 2 = (MC p, o0, 6) ∧ 1 ∈ (MC p).m.ids ∧ 2 ∈ (MC p).m.ids ∧ stT (MC p) 1 = 0 ∧ (openS (MC p).m 1).2 = 0 ∧ (MC p).A = [] := by
  rcases p8 hp with rfl | rfl | rfl | rfl | rfl | rfl | rfl | rfl <;> exact ⟨by kernel_rfl, by kernel_rfl, by kernel_rfl, by decide +kernel, by decide +kernel, by kernel_rfl, by kernel_rfl, by kernel_rfl⟩
theorem tm_wait {p M : Int} (hp : 0 ≤ p ∧ p ≤ 7) (hM : 1 ≤ M ∧ M ≤ 256) : waitS (MC p) 1 M = (MU 0 p M, 0) := by
  obtain ⟨_, _, _, h1, h2, h3, h4, h5⟩ := tm_a hp
  rw [wait_go h1 (by rw [badT]; omega) h3 h4, block_set (T := mS (MC p) (openS (MC p).m 1).1) (by decide) (by omega) h5]; rfl
theorem tm_send {p M : Int} (hp : 0 ≤ p ∧ p ≤ 7) (hM : 1 ≤ M ∧ M ≤ 256) (c : Bool) : sendS (MC p) 1 2 5 c M = (mblk (mS (MC p) (offS (MC p).m 2 ⟨1, 5, c⟩).1) M, 0) := by
  obtain ⟨_, _, _, h1, h2, h3, h4, h5⟩ := tm_a hp
  rw [send_go h1 h2 (by decide) (by rw [badT]; omega) h3, block_set (T := mS (MC p) (offS (MC p).m 2 ⟨1, 5, c⟩).1) (by decide) (by omega) h5]; rfl
theorem tm_take {p : Int} (hp : 0 ≤ p ∧ p ≤ 7) (M : Int) : takeT (MD p M) 2 = (MU 2 p M, ⟨1, 5, true⟩, 0) := by
  rcases p8 hp with rfl | rfl | rfl | rfl | rfl | rfl | rfl | rfl <;> kernel_rfl
theorem tm_b {h p : Int} (hh : h = 0 ∨ h = 1 ∨ h = 2) (hp : 0 ≤ p ∧ p ≤ 7) (M : Int) : MU h p M = MX h p M 4 0 := by
  rcases hh with rfl | rfl | rfl <;> rcases p8 hp with rfl | rfl | rfl | rfl | rfl | rfl | rfl | rfl <;> kernel_rfl
def sM (h : Int) : Int := if h = 0 then 2 else if h = 1 then 1 else 3
theorem tm_c {h p : Int} (hh : h = 0 ∨ h = 1 ∨ h = 2) (hp : 0 ≤ p ∧ p ≤ 7) (M v k : Int) : stT (MX h p M v k) 1 = sM h ∧ (MX h p M v k).told = [] ∧ runS (MX h p M v k).S = 2 ∧ toldT (MX h p M v k) = MX h p M v k ∧ leftA (MX h p M v k).A (MX h p M v k).now 1 = 0 + M - k := by
  rcases hh with rfl | rfl | rfl <;> rcases p8 hp with rfl | rfl | rfl | rfl | rfl | rfl | rfl | rfl <;> exact ⟨by kernel_rfl, by kernel_rfl, by kernel_rfl, by kernel_rfl, by kernel_rfl⟩
theorem tm_v {v : Int} (hv : 1 ≤ v ∧ v ≤ 4) : ∃ v', (1 ≤ v' ∧ v' ≤ 4) ∧ tickS [⟨2, 3, 4, v⟩] = [⟨2, 3, 4, v'⟩] := by
  have : v = 1 ∨ v = 2 ∨ v = 3 ∨ v = 4 := by omega
  rcases this with rfl | rfl | rfl | rfl
  · exact ⟨4, by omega, by kernel_rfl⟩
  · exact ⟨1, by omega, by kernel_rfl⟩
  · exact ⟨2, by omega, by kernel_rfl⟩
  · exact ⟨3, by omega, by kernel_rfl⟩
theorem tm_tick (h p M k : Int) {v : Int} (hv : 1 ≤ v ∧ v ≤ 4) : ∃ v', (1 ≤ v' ∧ v' ≤ 4) ∧ tickT (MX h p M v k) = if k + 1 < M then MX h p M v' (k + 1) else MZ h p M v' (k + 1) := by
  obtain ⟨v', h1, h2⟩ := tm_v hv
  refine ⟨v', h1, ?_⟩
  split
  · rename_i hk
    rw [tick_none (T := MX h p M v k) rfl (by show ¬ (0 + M ≤ k + 1); omega)]
    show ({ MX h p M v k with S := tickS [⟨2, 3, 4, v⟩], now := k + 1 } : TS) = _
    rw [h2]; rfl
  · rename_i hk
    rw [tick_one (T := MX h p M v k) rfl (by show 0 + M ≤ k + 1; omega)]
    show (wakeS ({ MX h p M v k with S := tickS [⟨2, 3, 4, v⟩], now := k + 1, A := [] } : TS) 14 1).1 = _
    rw [h2]; rfl
theorem tm_d {h p : Int} (hh : h = 0 ∨ h = 1 ∨ h = 2) (hp : 0 ≤ p ∧ p ≤ 7) (M v k : Int) : stT (MZ h p M v k) 1 = 0 ∧ (MZ h p M v k).told = [⟨1, 14⟩] ∧ answerS (MZ h p M v k) 2 = (MZ h p M v k, 0, 6) ∧ leftA (MZ h p M v k).A (MZ h p M v k).now 1 = 0 ∧ rowR (toldT (MZ h p M v k)).m 2 = [] := by
  rcases hh with rfl | rfl | rfl <;> rcases p8 hp with rfl | rfl | rfl | rfl | rfl | rfl | rfl | rfl <;> exact ⟨by kernel_rfl, by kernel_rfl, by kernel_rfl, by kernel_rfl, by kernel_rfl⟩
def MW (h p M v k : Int) : TS := if k < M then MX h p M v k else MZ h p M v k

set_option maxRecDepth 4000 in
set_option maxHeartbeats 4000000 in
theorem times_ok (n h y : Int) (hn : 0 ≤ n ∧ n ≤ 255) (hh : 0 ≤ h ∧ h ≤ 255) (hy : 0 ≤ y ∧ y ≤ 255) : FSpec Try.prog 5 [.int .u8 n, .int .u8 h, .int .u8 y] noRd [] (fun _ : Unit => .bool true) (fun _ => True) (fun _ => []) := by
  refine FSpec.intro (rs := [.tmp 6]) (by kernel_rfl) Try.func5 rfl Try.ntmps5 (by rfl) rfl ?_
  intro F _
  change TC _ _ _ _ _ _ _ (sepL [_])
  refine TC.seq ?_
  refine TC.region ?_
  refine q rfl rfl (asg (v := .bool _) rfl) ?_
  refine TL.nil (nt ?_)
  refine TC.seq ?_
  refine TC.seq ?_
  refine TC.region ?_
  refine e rfl ?_
  refine cl alive_ok rfl (picked_nil _) trivial ?_
  intro _ _
  change TL _ _ _ _ _ _ _ _ (sepL [_])
  first | refine q rfl rfl (notD rfl) ?_ | refine q rfl rfl (notB rfl) ?_
  refine TL.nil (nt ?_)
  refine TC.condF rfl ?_
  refine TC.skip (nt ?_)
  refine TC.seq ?_
  refine TC.region ?_
  refine e rfl ?_
  refine cl tnew_ok rfl (picked_nil _) trivial ?_
  intro a _
  change TL _ _ _ _ _ _ _ _ (sepL [_, _])
  refine q rfl rfl (asg (v := .pointer _) rfl) ?_
  refine TL.nil (nt ?_)
  refine TC.seq ?_
  refine TC.region ?_
  refine q rfl rfl (mv (v := .int _ _) rfl) ?_
  first | refine q rfl rfl (conv .u8 .i64 rfl rfl rfl (wi64 (by omega) (by omega))) ?_ | refine q rfl rfl (conv .u8 .i64 rfl rfl rfl rfl) ?_
  first | refine q rfl rfl (addI rfl rfl (by omega) (by omega)) ?_ | refine q rfl rfl (add rfl rfl rfl) ?_
  refine q rfl rfl (asg (v := .int _ _) rfl) ?_
  refine TL.nil (nt ?_)
  refine TC.seq ?_
  refine TC.seq ?_
  refine TC.region ?_
  refine q rfl rfl (mv (v := .pointer _) rfl) ?_
  refine e rfl ?_
  refine bs (cs := [.int _ _, .int _ _]) rfl ?_
  intro b1
  have hM : 1 ≤ 1 + n ∧ 1 + n ≤ 256 := by omega
  generalize 1 + n = M at hM ⊢
  have hp : 0 ≤ y % 8 ∧ y % 8 ≤ 7 := by omega
  obtain ⟨e1, e2, e3, _⟩ := tm_a hp
  have e4 := tm_wait hp hM
  have e5 := tm_send hp hM false
  have e6 := tm_send hp hM true
  have e7 := tm_take hp M
  refine e rfl ?_
  refine cl (tadd_ok a t0 (some ⟨b1, 0, none⟩) _ [1, 2] (by decide) (by decide)) rfl PkL.p ⟨_, RdSI.rd (ad := some ⟨b1, 0, none⟩)⟩ ?_
  intro _ _
  change TL _ _ _ _ _ _ _ _ (sepL [_, _, _])
  rw [show addL t0 [1, 2] = MA from rfl, MA_n]
  have g1 := MA_g
  refine q rfl rfl (neI rfl rfl) ?_
  refine q rfl rfl (mv (v := .bool _) rfl) ?_
  refine TL.known 26 rfl (c := false) (by decide) ?_
  refine qg rfl rfl rfl (mv (v := .pointer _) rfl) ?_
  refine qg rfl rfl rfl (mv (v := .int _ _) rfl) ?_
  first | refine qg rfl rfl rfl (conv .u8 .i64 rfl rfl rfl (wi64 (by omega) (by omega))) ?_ | refine qg rfl rfl rfl (conv .u8 .i64 rfl rfl rfl rfl) ?_
  first | refine qg rfl rfl rfl (remI rfl rfl (by omega) (by omega)) ?_ | refine qg rfl rfl rfl (rem rfl rfl (by omega) rfl) ?_
  generalize y % 8 = pr at hp e1 e2 e3 e4 e5 e6 e7 ⊢
  refine eg rfl rfl ?_
  refine cl (tstart_ok a MA g1.p (g1.tb (by omega)) 1 pr 2) rfl PkL.p trivial ?_
  intro _ _
  change TL _ _ _ _ _ _ _ _ (sepL [_, _, _])
  rw [e1]
  dsimp only
  have g2 := g1.start 1 pr 2
  rw [e1] at g2
  dsimp only at g2
  refine qg rfl rfl rfl (neI rfl rfl) ?_
  first | refine q rfl rfl (pkT (v := .bool _) rfl rfl) ?_ | refine q rfl rfl (pkF (v := .bool _) rfl rfl) ?_
  refine q rfl rfl (mv (v := .bool _) rfl) ?_
  refine TL.known 34 rfl (c := false) (by decide) ?_
  refine qg rfl rfl rfl (mv (v := .pointer _) rfl) ?_
  refine eg rfl rfl ?_
  refine cl (tstart_ok a (MB pr) g2.p (g2.tb (by omega)) 2 3 4) rfl PkL.p trivial ?_
  intro _ _
  change TL _ _ _ _ _ _ _ _ (sepL [_, _, _])
  rw [e2]
  dsimp only
  have g3 := g2.start 2 3 4
  rw [e2] at g3
  dsimp only at g3
  refine qg rfl rfl rfl (neI rfl rfl) ?_
  first | refine q rfl rfl (pkT (v := .bool _) rfl rfl) ?_ | refine q rfl rfl (pkF (v := .bool _) rfl rfl) ?_
  refine TL.nil (nt ?_)
  refine TC.condF rfl ?_
  refine TC.skip (nt ?_)
  refine TC.seq ?_
  refine TC.seq ?_
  refine TC.region ?_
  refine q rfl rfl (mv (v := .int _ _) rfl) ?_
  first | refine q rfl rfl (remI rfl rfl (by omega) (by omega)) ?_ | refine q rfl rfl (rem rfl rfl (by omega) rfl) ?_
  refine TL.nil (nt ?_)
  refine TC.block ?_
  refine TC.seq ?_
  refine TC.region ?_
  refine q rfl rfl (eqI rfl rfl) ?_
  refine q rfl rfl (asg (v := .bool _) rfl) ?_
  refine TL.nil (nt ?_)
  first | refine TC.condD rfl (fun k0 => ?_) (fun k0 => ?_) | refine TC.cond rfl (fun k0 => ?_) (fun k0 => ?_)
  · have hh3 : (0 : Int) = 0 ∨ (0 : Int) = 1 ∨ (0 : Int) = 2 := .inl rfl
    refine TC.seq ?_
    refine TC.region ?_
    refine q rfl rfl (mv (v := .pointer _) rfl) ?_
    refine q rfl rfl (mv (v := .int _ _) rfl) ?_
    refine e rfl ?_
    refine cl (twait_ok a (MC pr) g3.p (g3.tb (by omega)) 1 M) rfl PkL.p trivial ?_
    intro _ _
    change TL _ _ _ _ _ _ _ _ (sepL [_, _, _])
    rw [e4]
    dsimp only
    have g4 := g3.wait 1 M
    rw [e4] at g4
    dsimp only at g4
    refine q rfl rfl (neI rfl rfl) ?_
    refine TL.nil (nt ?_)
    refine TC.condF rfl ?_
    rw [tm_b hh3 hp] at g4 ⊢
    refine TC.skip (nb (nt ?_))
    refine TC.seq ?_
    refine TC.seq ?_
    refine TC.region ?_
    refine q rfl rfl (mv (v := .int _ _) rfl) ?_
    refine q rfl rfl (asg (v := .int _ _) rfl) ?_
    refine TL.nil (nt ?_)
    refine TC.block ?_
    have hW0 : MX 0 pr M 4 0 = (MW 0 pr M 4 0) := (if_pos (by omega)).symm
    rw [hW0] at g4 ⊢
    refine TC.loop (ι := Nat × Int) (fun u => ((u.1 : Int) ≤ M) ∧ (1 ≤ u.2 ∧ u.2 ≤ 4) ∧ TG (MW 0 pr M u.2 u.1) (10 + u.1)) (fun u => [(7, .pointer (some ⟨a, 0, none⟩)), (13, .int .i64 (M - (u.1 : Nat) : Int))]) (fun u => sepL [isT a (MW 0 pr M u.2 u.1), F]) (fun u => 300 - u.1) ⟨0, 4⟩ ⟨by dsimp only; omega, by decide, g4.up (by decide)⟩ ⟨rfl, congrArg (Value.int .i64) (by dsimp only; omega), trivial⟩ (by repeat (first | exact ent_nil _ | refine ent_take 0 rfl ?_ | refine ent_take 1 rfl ?_ | refine ent_take 2 rfl ?_ | refine ent_take 3 rfl ?_ | refine ent_take 4 rfl ?_ | refine ent_take 5 rfl ?_ | refine ent_take 6 rfl ?_ | refine ent_take 7 rfl ?_ | refine ent_take 8 rfl ?_ | refine ent_take 9 rfl ?_ | refine ent_take 10 rfl ?_ | refine ent_take 11 rfl ?_ | refine ent_take 12 rfl ?_)) ?_
    rintro ⟨k, v⟩ ⟨hk, hv, hg⟩ ρ0
    dsimp only [updL] at hk hv hg ⊢
    refine TC.seq ?_
    refine TC.seq ?_
    refine TC.region ?_
    refine q rfl rfl (mv (v := .int _ _) rfl) ?_
    refine q rfl rfl (gtr rfl rfl) ?_
    refine TL.nil (nt ?_)
    first | refine TC.condD rfl (fun hlt => ?_) (fun hlt => ?_) | refine TC.cond rfl (fun hlt => ?_) (fun hlt => ?_)
    · have hkM : (k : Int) < M := by omega
      have hWX : (MW 0 pr M v k) = (MX 0 pr M v k) := if_pos hkM
      rw [hWX] at hg ⊢
      obtain ⟨c1, c2, c3, c4, c5⟩ := tm_c hh3 hp M v k
      obtain ⟨v2, hv2, ht⟩ := tm_tick 0 pr M k hv
      have ht2 : tickT (MX 0 pr M v k) = MW 0 pr M v2 ((k + 1 : Nat) : Int) := ht
      have hg2 := hg.tick
      rw [ht2] at hg2
      refine TC.skip (nt ?_)
      refine TC.seq ?_
      refine TC.block ?_
      refine TC.seq ?_
      refine TC.seq ?_
      refine TC.region ?_
      refine q rfl rfl (mv (v := .pointer _) rfl) ?_
      refine e rfl ?_
      refine cl (tleft_ok a (MX 0 pr M v k) hg.p (hg.tb (by omega)) 1) rfl PkL.p trivial ?_
      intro _ _
      change TL _ _ _ _ _ _ _ _ (sepL [_, _])
      rw [c5]
      refine q rfl rfl (mv (v := .int _ _) rfl) ?_
      refine q rfl rfl (neI rfl rfl) ?_
      refine q rfl rfl (mv (v := .bool _) rfl) ?_
      refine TL.known 92 rfl (c := false) (decide_eq_false (by omega)) ?_
      refine qg rfl rfl rfl (mv (v := .pointer _) rfl) ?_
      refine eg rfl rfl ?_
      refine cl (tstate_ok a (MX 0 pr M v k) 1) rfl PkL.p trivial ?_
      intro _ _
      change TL _ _ _ _ _ _ _ _ (sepL [_, _])
      rw [c1]
      refine qg rfl rfl rfl (eqI rfl rfl) ?_
      first | refine q rfl rfl (pkT (v := .bool _) rfl rfl) ?_ | refine q rfl rfl (pkF (v := .bool _) rfl rfl) ?_
      refine q rfl rfl (mv (v := .bool _) rfl) ?_
      refine TL.known 97 rfl (c := false) (by decide +kernel) ?_
      refine qg rfl rfl rfl (mv (v := .pointer _) rfl) ?_
      refine eg rfl rfl ?_
      refine cl (ttold_ok a (MX 0 pr M v k)) rfl PkL.p trivial ?_
      intro yt _
      change TL _ _ _ _ _ _ _ _ (sepL [_, _, _])
      rw [c2]
      rw [c4]
      refine qg rfl rfl rfl (len 39 2 rfl rfl) ?_
      refine qg rfl rfl rfl (neI rfl rfl) ?_
      first | refine q rfl rfl (pkT (v := .bool _) rfl rfl) ?_ | refine q rfl rfl (pkF (v := .bool _) rfl rfl) ?_
      refine q rfl rfl (mv (v := .bool _) rfl) ?_
      refine TL.known 103 rfl (c := false) (by decide) ?_
      refine qg rfl rfl rfl (mv (v := .pointer _) rfl) ?_
      refine eg rfl rfl ?_
      refine cl (trun_ok a (MX 0 pr M v k) hg.p (hg.tb (by omega))) rfl PkL.p trivial ?_
      intro _ _
      change TL _ _ _ _ _ _ _ _ (sepL [_, _, _])
      rw [c3]
      refine qg rfl rfl rfl (neI rfl rfl) ?_
      first | refine q rfl rfl (pkT (v := .bool _) rfl rfl) ?_ | refine q rfl rfl (pkF (v := .bool _) rfl rfl) ?_
      refine TL.nil (nt ?_)
      refine TC.condF rfl ?_
      refine TC.skip (nt ?_)
      refine TC.region ?_
      refine q rfl rfl (mv (v := .pointer _) rfl) ?_
      refine e rfl ?_
      refine cl (ttick_ok a (MX 0 pr M v k) hg.p (hg.tb (by omega)) (hg.tl (by omega)) (hg.nw (by omega))) rfl PkL.p trivial ?_
      intro _ _
      change TL _ _ _ _ _ _ _ _ (sepL [_, _, _])
      rw [ht2]
      refine TL.nil (nb (nt ?_))
      refine TC.region ?_
      refine q rfl rfl (mv (v := .int _ _) rfl) ?_
      first | refine q rfl rfl (subI rfl rfl (by omega) (by omega)) ?_ | refine q rfl rfl (sub rfl rfl rfl) ?_
      refine q rfl rfl (asg (v := .int _ _) rfl) ?_
      refine TL.nil (nt ?_)
      exact ⟨rfl, ⟨k + 1, v2⟩, ⟨by dsimp only; omega, hv2, hg2.up (by omega)⟩, (by dsimp only; omega), ⟨rfl, congrArg (Value.int .i64) (by dsimp only; omega), trivial⟩, (by repeat (first | exact ent_nil _ | refine ent_take 0 rfl ?_ | refine ent_take 1 rfl ?_ | refine ent_take 2 rfl ?_ | refine ent_take 3 rfl ?_ | refine ent_take 4 rfl ?_ | refine ent_take 5 rfl ?_ | refine ent_take 6 rfl ?_ | refine ent_take 7 rfl ?_ | refine ent_take 8 rfl ?_ | refine ent_take 9 rfl ?_ | refine ent_take 10 rfl ?_ | refine ent_take 11 rfl ?_ | refine ent_take 12 rfl ?_))⟩
    · have hWZ : (MW 0 pr M v k) = (MZ 0 pr M v k) := if_neg (by omega)
      rw [hWZ] at hg ⊢
      obtain ⟨d1, d2, d3, d4, d5⟩ := tm_d hh3 hp M v k
      have hk3 : k ≤ 256 := by omega
      refine TC.exit (et (et (eb (nt ?_))))
      refine TC.seq ?_
      refine TC.region ?_
      refine q rfl rfl (mv (v := .pointer _) rfl) ?_
      refine e rfl ?_
      refine cl (tanswer_ok a (MZ 0 pr M v k) hg.p (hg.tb (by omega)) 2) rfl PkL.p trivial ?_
      intro _ _
      change TL _ _ _ _ _ _ _ _ (sepL [_, _])
      rw [d3]
      dsimp only
      refine q rfl rfl (mv (v := .tuple _) rfl) ?_
      refine q rfl rfl (pu (v := .int _ _) (fun _ => rfl)) ?_
      refine q rfl rfl (pu (v := .int _ _) (fun _ => rfl)) ?_
      refine q rfl rfl (asg (v := .int _ _) rfl) ?_
      refine q rfl rfl (asg (v := .int _ _) rfl) ?_
      refine TL.nil (nt ?_)
      refine TC.seq ?_
      refine TC.region ?_
      refine q rfl rfl (mv (v := .pointer _) rfl) ?_
      refine e rfl ?_
      refine cl (tstate_ok a (MZ 0 pr M v k) 1) rfl PkL.p trivial ?_
      intro _ _
      change TL _ _ _ _ _ _ _ _ (sepL [_, _])
      rw [d1]
      refine q rfl rfl (eqI rfl rfl) ?_
      refine q rfl rfl (mv (v := .bool _) rfl) ?_
      refine TL.known 118 rfl (c := true) (by decide) ?_
      refine qg rfl rfl rfl (mv (v := .pointer _) rfl) ?_
      refine eg rfl rfl ?_
      refine cl (tleft_ok a (MZ 0 pr M v k) hg.p (hg.tb (by omega)) 1) rfl PkL.p trivial ?_
      intro _ _
      change TL _ _ _ _ _ _ _ _ (sepL [_, _])
      rw [d4]
      refine qg rfl rfl rfl (eqI rfl rfl) ?_
      first | refine q rfl rfl (pkT (v := .bool _) rfl rfl) ?_ | refine q rfl rfl (pkF (v := .bool _) rfl rfl) ?_
      refine q rfl rfl (mv (v := .bool _) rfl) ?_
      refine TL.known 123 rfl (c := true) (by decide) ?_
      refine qg rfl rfl rfl (mv (v := .pointer _) rfl) ?_
      refine eg rfl rfl ?_
      refine cl (ttold_ok a (MZ 0 pr M v k)) rfl PkL.p trivial ?_
      intro yt _
      change TL _ _ _ _ _ _ _ _ (sepL [_, _, _])
      rw [d2]
      have hg3 := hg.tolds
      first | refine qg rfl rfl rfl (bld (cs := [.int _ _, .int _ _]) rfl) ?_ | refine qg rfl rfl rfl (bld (cs := [_, _]) rfl) ?_
      refine eg rfl rfl ?_
      refine bs (cs := [.int _ _, .int _ _]) rfl ?_
      intro b2
      refine eg rfl rfl ?_
      refine cl (tsame_ok yt.1 _ [⟨1, 14⟩] (some ⟨b2, 0, none⟩) _ [⟨1, 14⟩] (by decide)) rfl (picked_nil _) ⟨⟨_, RdSI.rd (ad := yt.1)⟩, ⟨_, RdSI.rd (ad := some ⟨b2, 0, none⟩)⟩⟩ ?_
      intro _ _
      change TL _ _ _ _ _ _ _ _ (sepL [_, _, _, _])
      rw [decide_eq_true (rfl : ([⟨1, 14⟩] : List Tg) = [⟨1, 14⟩])]
      first | refine q rfl rfl (pkT (v := .bool _) rfl rfl) ?_ | refine q rfl rfl (pkF (v := .bool _) rfl rfl) ?_
      refine q rfl rfl (mv (v := .bool _) rfl) ?_
      refine TL.known 130 rfl (c := true) (by decide) ?_
      refine qg rfl rfl rfl (mv (v := .int _ _) rfl) ?_
      refine qg rfl rfl rfl (eqI rfl rfl) ?_
      first | refine q rfl rfl (pkT (v := .bool _) rfl rfl) ?_ | refine q rfl rfl (pkF (v := .bool _) rfl rfl) ?_
      refine q rfl rfl (mv (v := .bool _) rfl) ?_
      refine TL.known 134 rfl (c := true) (by decide) ?_
      refine qg rfl rfl rfl (mv (v := .pointer _) rfl) ?_
      refine eg rfl rfl ?_
      refine cl (trow_ok a (toldT (MZ 0 pr M v k)) hg3.p (hg3.tb (by omega)) 2) rfl PkL.p trivial ?_
      intro yr _
      change TL _ _ _ _ _ _ _ _ (sepL [_, _, _, _, _])
      rw [d5]
      refine qg rfl rfl rfl (len 32 3 rfl rfl) ?_
      refine qg rfl rfl rfl (eqI rfl rfl) ?_
      first | refine q rfl rfl (pkT (v := .bool _) rfl rfl) ?_ | refine q rfl rfl (pkF (v := .bool _) rfl rfl) ?_
      refine q rfl rfl (asg (v := .bool _) rfl) ?_
      refine TL.nil (nt ?_)
      refine TC.ret ?_
      exact Ret.i () [_] ⟨rfl, trivial⟩ rfl trivial (by repeat (first | exact ent_nil _ | refine ent_take 0 rfl ?_ | refine ent_take 1 rfl ?_ | refine ent_take 2 rfl ?_ | refine ent_take 3 rfl ?_ | refine ent_take 4 rfl ?_ | refine ent_take 5 rfl ?_ | refine ent_take 6 rfl ?_ | refine ent_take 7 rfl ?_ | refine ent_take 8 rfl ?_ | refine ent_take 9 rfl ?_ | refine ent_take 10 rfl ?_ | refine ent_take 11 rfl ?_ | refine ent_take 12 rfl ?_))
  · refine TC.seq ?_
    refine TC.region ?_
    refine q rfl rfl (eqI rfl rfl) ?_
    refine q rfl rfl (asg (v := .bool _) rfl) ?_
    refine TL.nil (nt ?_)
    first | refine TC.condD rfl (fun k1 => ?_) (fun k1 => ?_) | refine TC.cond rfl (fun k1 => ?_) (fun k1 => ?_)
    · have hh3 : (1 : Int) = 0 ∨ (1 : Int) = 1 ∨ (1 : Int) = 2 := .inr (.inl rfl)
      have e9 : sendS (MC pr) 1 2 5 false M = (MU 1 pr M, 0) := e5
      refine TC.seq ?_
      refine TC.region ?_
      refine q rfl rfl (mv (v := .pointer _) rfl) ?_
      refine q rfl rfl (mv (v := .int _ _) rfl) ?_
      refine e rfl ?_
      refine cl (tsend_ok a (MC pr) g3.p (g3.tb (by omega)) 1 2 5 false M) rfl PkL.p trivial ?_
      intro _ _
      change TL _ _ _ _ _ _ _ _ (sepL [_, _, _])
      rw [e9]
      dsimp only
      have g4 := g3.send 1 2 5 false M
      rw [e9] at g4
      dsimp only at g4
      refine q rfl rfl (neI rfl rfl) ?_
      refine TL.nil (nt ?_)
      refine TC.condF rfl ?_
      rw [tm_b hh3 hp] at g4 ⊢
      refine TC.skip (nb (nt ?_))
      refine TC.seq ?_
      refine TC.seq ?_
      refine TC.region ?_
      refine q rfl rfl (mv (v := .int _ _) rfl) ?_
      refine q rfl rfl (asg (v := .int _ _) rfl) ?_
      refine TL.nil (nt ?_)
      refine TC.block ?_
      have hW0 : MX 1 pr M 4 0 = (MW 1 pr M 4 0) := (if_pos (by omega)).symm
      rw [hW0] at g4 ⊢
      refine TC.loop (ι := Nat × Int) (fun u => ((u.1 : Int) ≤ M) ∧ (1 ≤ u.2 ∧ u.2 ≤ 4) ∧ TG (MW 1 pr M u.2 u.1) (10 + u.1)) (fun u => [(7, .pointer (some ⟨a, 0, none⟩)), (13, .int .i64 (M - (u.1 : Nat) : Int))]) (fun u => sepL [isT a (MW 1 pr M u.2 u.1), F]) (fun u => 300 - u.1) ⟨0, 4⟩ ⟨by dsimp only; omega, by decide, g4.up (by decide)⟩ ⟨rfl, congrArg (Value.int .i64) (by dsimp only; omega), trivial⟩ (by repeat (first | exact ent_nil _ | refine ent_take 0 rfl ?_ | refine ent_take 1 rfl ?_ | refine ent_take 2 rfl ?_ | refine ent_take 3 rfl ?_ | refine ent_take 4 rfl ?_ | refine ent_take 5 rfl ?_ | refine ent_take 6 rfl ?_ | refine ent_take 7 rfl ?_ | refine ent_take 8 rfl ?_ | refine ent_take 9 rfl ?_ | refine ent_take 10 rfl ?_ | refine ent_take 11 rfl ?_ | refine ent_take 12 rfl ?_)) ?_
      rintro ⟨k, v⟩ ⟨hk, hv, hg⟩ ρ0
      dsimp only [updL] at hk hv hg ⊢
      refine TC.seq ?_
      refine TC.seq ?_
      refine TC.region ?_
      refine q rfl rfl (mv (v := .int _ _) rfl) ?_
      refine q rfl rfl (gtr rfl rfl) ?_
      refine TL.nil (nt ?_)
      first | refine TC.condD rfl (fun hlt => ?_) (fun hlt => ?_) | refine TC.cond rfl (fun hlt => ?_) (fun hlt => ?_)
      · have hkM : (k : Int) < M := by omega
        have hWX : (MW 1 pr M v k) = (MX 1 pr M v k) := if_pos hkM
        rw [hWX] at hg ⊢
        obtain ⟨c1, c2, c3, c4, c5⟩ := tm_c hh3 hp M v k
        obtain ⟨v2, hv2, ht⟩ := tm_tick 1 pr M k hv
        have ht2 : tickT (MX 1 pr M v k) = MW 1 pr M v2 ((k + 1 : Nat) : Int) := ht
        have hg2 := hg.tick
        rw [ht2] at hg2
        refine TC.skip (nt ?_)
        refine TC.seq ?_
        refine TC.block ?_
        refine TC.seq ?_
        refine TC.seq ?_
        refine TC.region ?_
        refine q rfl rfl (mv (v := .pointer _) rfl) ?_
        refine e rfl ?_
        refine cl (tleft_ok a (MX 1 pr M v k) hg.p (hg.tb (by omega)) 1) rfl PkL.p trivial ?_
        intro _ _
        change TL _ _ _ _ _ _ _ _ (sepL [_, _])
        rw [c5]
        refine q rfl rfl (mv (v := .int _ _) rfl) ?_
        refine q rfl rfl (neI rfl rfl) ?_
        refine q rfl rfl (mv (v := .bool _) rfl) ?_
        refine TL.known 92 rfl (c := false) (decide_eq_false (by omega)) ?_
        refine qg rfl rfl rfl (mv (v := .pointer _) rfl) ?_
        refine eg rfl rfl ?_
        refine cl (tstate_ok a (MX 1 pr M v k) 1) rfl PkL.p trivial ?_
        intro _ _
        change TL _ _ _ _ _ _ _ _ (sepL [_, _])
        rw [c1]
        refine qg rfl rfl rfl (eqI rfl rfl) ?_
        first | refine q rfl rfl (pkT (v := .bool _) rfl rfl) ?_ | refine q rfl rfl (pkF (v := .bool _) rfl rfl) ?_
        refine q rfl rfl (mv (v := .bool _) rfl) ?_
        refine TL.known 97 rfl (c := false) (by decide +kernel) ?_
        refine qg rfl rfl rfl (mv (v := .pointer _) rfl) ?_
        refine eg rfl rfl ?_
        refine cl (ttold_ok a (MX 1 pr M v k)) rfl PkL.p trivial ?_
        intro yt _
        change TL _ _ _ _ _ _ _ _ (sepL [_, _, _])
        rw [c2]
        rw [c4]
        refine qg rfl rfl rfl (len 39 2 rfl rfl) ?_
        refine qg rfl rfl rfl (neI rfl rfl) ?_
        first | refine q rfl rfl (pkT (v := .bool _) rfl rfl) ?_ | refine q rfl rfl (pkF (v := .bool _) rfl rfl) ?_
        refine q rfl rfl (mv (v := .bool _) rfl) ?_
        refine TL.known 103 rfl (c := false) (by decide) ?_
        refine qg rfl rfl rfl (mv (v := .pointer _) rfl) ?_
        refine eg rfl rfl ?_
        refine cl (trun_ok a (MX 1 pr M v k) hg.p (hg.tb (by omega))) rfl PkL.p trivial ?_
        intro _ _
        change TL _ _ _ _ _ _ _ _ (sepL [_, _, _])
        rw [c3]
        refine qg rfl rfl rfl (neI rfl rfl) ?_
        first | refine q rfl rfl (pkT (v := .bool _) rfl rfl) ?_ | refine q rfl rfl (pkF (v := .bool _) rfl rfl) ?_
        refine TL.nil (nt ?_)
        refine TC.condF rfl ?_
        refine TC.skip (nt ?_)
        refine TC.region ?_
        refine q rfl rfl (mv (v := .pointer _) rfl) ?_
        refine e rfl ?_
        refine cl (ttick_ok a (MX 1 pr M v k) hg.p (hg.tb (by omega)) (hg.tl (by omega)) (hg.nw (by omega))) rfl PkL.p trivial ?_
        intro _ _
        change TL _ _ _ _ _ _ _ _ (sepL [_, _, _])
        rw [ht2]
        refine TL.nil (nb (nt ?_))
        refine TC.region ?_
        refine q rfl rfl (mv (v := .int _ _) rfl) ?_
        first | refine q rfl rfl (subI rfl rfl (by omega) (by omega)) ?_ | refine q rfl rfl (sub rfl rfl rfl) ?_
        refine q rfl rfl (asg (v := .int _ _) rfl) ?_
        refine TL.nil (nt ?_)
        exact ⟨rfl, ⟨k + 1, v2⟩, ⟨by dsimp only; omega, hv2, hg2.up (by omega)⟩, (by dsimp only; omega), ⟨rfl, congrArg (Value.int .i64) (by dsimp only; omega), trivial⟩, (by repeat (first | exact ent_nil _ | refine ent_take 0 rfl ?_ | refine ent_take 1 rfl ?_ | refine ent_take 2 rfl ?_ | refine ent_take 3 rfl ?_ | refine ent_take 4 rfl ?_ | refine ent_take 5 rfl ?_ | refine ent_take 6 rfl ?_ | refine ent_take 7 rfl ?_ | refine ent_take 8 rfl ?_ | refine ent_take 9 rfl ?_ | refine ent_take 10 rfl ?_ | refine ent_take 11 rfl ?_ | refine ent_take 12 rfl ?_))⟩
      · have hWZ : (MW 1 pr M v k) = (MZ 1 pr M v k) := if_neg (by omega)
        rw [hWZ] at hg ⊢
        obtain ⟨d1, d2, d3, d4, d5⟩ := tm_d hh3 hp M v k
        have hk3 : k ≤ 256 := by omega
        refine TC.exit (et (et (eb (nt ?_))))
        refine TC.seq ?_
        refine TC.region ?_
        refine q rfl rfl (mv (v := .pointer _) rfl) ?_
        refine e rfl ?_
        refine cl (tanswer_ok a (MZ 1 pr M v k) hg.p (hg.tb (by omega)) 2) rfl PkL.p trivial ?_
        intro _ _
        change TL _ _ _ _ _ _ _ _ (sepL [_, _])
        rw [d3]
        dsimp only
        refine q rfl rfl (mv (v := .tuple _) rfl) ?_
        refine q rfl rfl (pu (v := .int _ _) (fun _ => rfl)) ?_
        refine q rfl rfl (pu (v := .int _ _) (fun _ => rfl)) ?_
        refine q rfl rfl (asg (v := .int _ _) rfl) ?_
        refine q rfl rfl (asg (v := .int _ _) rfl) ?_
        refine TL.nil (nt ?_)
        refine TC.seq ?_
        refine TC.region ?_
        refine q rfl rfl (mv (v := .pointer _) rfl) ?_
        refine e rfl ?_
        refine cl (tstate_ok a (MZ 1 pr M v k) 1) rfl PkL.p trivial ?_
        intro _ _
        change TL _ _ _ _ _ _ _ _ (sepL [_, _])
        rw [d1]
        refine q rfl rfl (eqI rfl rfl) ?_
        refine q rfl rfl (mv (v := .bool _) rfl) ?_
        refine TL.known 118 rfl (c := true) (by decide) ?_
        refine qg rfl rfl rfl (mv (v := .pointer _) rfl) ?_
        refine eg rfl rfl ?_
        refine cl (tleft_ok a (MZ 1 pr M v k) hg.p (hg.tb (by omega)) 1) rfl PkL.p trivial ?_
        intro _ _
        change TL _ _ _ _ _ _ _ _ (sepL [_, _])
        rw [d4]
        refine qg rfl rfl rfl (eqI rfl rfl) ?_
        first | refine q rfl rfl (pkT (v := .bool _) rfl rfl) ?_ | refine q rfl rfl (pkF (v := .bool _) rfl rfl) ?_
        refine q rfl rfl (mv (v := .bool _) rfl) ?_
        refine TL.known 123 rfl (c := true) (by decide) ?_
        refine qg rfl rfl rfl (mv (v := .pointer _) rfl) ?_
        refine eg rfl rfl ?_
        refine cl (ttold_ok a (MZ 1 pr M v k)) rfl PkL.p trivial ?_
        intro yt _
        change TL _ _ _ _ _ _ _ _ (sepL [_, _, _])
        rw [d2]
        have hg3 := hg.tolds
        first | refine qg rfl rfl rfl (bld (cs := [.int _ _, .int _ _]) rfl) ?_ | refine qg rfl rfl rfl (bld (cs := [_, _]) rfl) ?_
        refine eg rfl rfl ?_
        refine bs (cs := [.int _ _, .int _ _]) rfl ?_
        intro b3
        refine eg rfl rfl ?_
        refine cl (tsame_ok yt.1 _ [⟨1, 14⟩] (some ⟨b3, 0, none⟩) _ [⟨1, 14⟩] (by decide)) rfl (picked_nil _) ⟨⟨_, RdSI.rd (ad := yt.1)⟩, ⟨_, RdSI.rd (ad := some ⟨b3, 0, none⟩)⟩⟩ ?_
        intro _ _
        change TL _ _ _ _ _ _ _ _ (sepL [_, _, _, _])
        rw [decide_eq_true (rfl : ([⟨1, 14⟩] : List Tg) = [⟨1, 14⟩])]
        first | refine q rfl rfl (pkT (v := .bool _) rfl rfl) ?_ | refine q rfl rfl (pkF (v := .bool _) rfl rfl) ?_
        refine q rfl rfl (mv (v := .bool _) rfl) ?_
        refine TL.known 130 rfl (c := true) (by decide) ?_
        refine qg rfl rfl rfl (mv (v := .int _ _) rfl) ?_
        refine qg rfl rfl rfl (eqI rfl rfl) ?_
        first | refine q rfl rfl (pkT (v := .bool _) rfl rfl) ?_ | refine q rfl rfl (pkF (v := .bool _) rfl rfl) ?_
        refine q rfl rfl (mv (v := .bool _) rfl) ?_
        refine TL.known 134 rfl (c := true) (by decide) ?_
        refine qg rfl rfl rfl (mv (v := .pointer _) rfl) ?_
        refine eg rfl rfl ?_
        refine cl (trow_ok a (toldT (MZ 1 pr M v k)) hg3.p (hg3.tb (by omega)) 2) rfl PkL.p trivial ?_
        intro yr _
        change TL _ _ _ _ _ _ _ _ (sepL [_, _, _, _, _])
        rw [d5]
        refine qg rfl rfl rfl (len 32 3 rfl rfl) ?_
        refine qg rfl rfl rfl (eqI rfl rfl) ?_
        first | refine q rfl rfl (pkT (v := .bool _) rfl rfl) ?_ | refine q rfl rfl (pkF (v := .bool _) rfl rfl) ?_
        refine q rfl rfl (asg (v := .bool _) rfl) ?_
        refine TL.nil (nt ?_)
        refine TC.ret ?_
        exact Ret.i () [_] ⟨rfl, trivial⟩ rfl trivial (by repeat (first | exact ent_nil _ | refine ent_take 0 rfl ?_ | refine ent_take 1 rfl ?_ | refine ent_take 2 rfl ?_ | refine ent_take 3 rfl ?_ | refine ent_take 4 rfl ?_ | refine ent_take 5 rfl ?_ | refine ent_take 6 rfl ?_ | refine ent_take 7 rfl ?_ | refine ent_take 8 rfl ?_ | refine ent_take 9 rfl ?_ | refine ent_take 10 rfl ?_ | refine ent_take 11 rfl ?_ | refine ent_take 12 rfl ?_))
    · have hh3 : (2 : Int) = 0 ∨ (2 : Int) = 1 ∨ (2 : Int) = 2 := .inr (.inr rfl)
      have e9 : sendS (MC pr) 1 2 5 true M = (MD pr M, 0) := e6
      refine TC.seq ?_
      refine TC.region ?_
      refine q rfl rfl (mv (v := .pointer _) rfl) ?_
      refine e rfl ?_
      refine cl (ttake_ok a (MC pr) g3.p (g3.tb (by omega)) 2 (g3.tl (by omega))) rfl PkL.p trivial ?_
      intro _ _
      change TL _ _ _ _ _ _ _ _ (sepL [_, _, _])
      rw [e3]
      dsimp only
      refine q rfl rfl (mv (v := .tuple _) rfl) ?_
      refine q rfl rfl (pu (v := .agg #[_, _, _]) (fun _ => rfl)) ?_
      refine q rfl rfl (pu (v := .int _ _) (fun _ => rfl)) ?_
      refine e rfl ?_
      refine al (l := [.int _ _, .int _ _, .bool _]) rfl rfl ?_
      intro b4
      refine e0 ?_
      refine st (v := .agg #[_, _, _]) (vs := [_, _, _]) 3 rfl rfl rfl rfl rfl rfl (Nat.le_of_ble_eq_true rfl) rfl ?_
      refine q rfl rfl (asg (v := .int _ _) rfl) ?_
      refine TL.nil (nt ?_)
      refine TC.seq ?_
      refine TC.seq ?_
      refine TC.region ?_
      refine q rfl rfl (mv (v := .pointer _) rfl) ?_
      refine q rfl rfl (mv (v := .int _ _) rfl) ?_
      refine e rfl ?_
      refine cl (tsend_ok a (MC pr) g3.p (g3.tb (by omega)) 1 2 5 true M) rfl PkL.p trivial ?_
      intro _ _
      change TL _ _ _ _ _ _ _ _ (sepL [_, _, _, _])
      rw [e9]
      dsimp only
      have g3b := g3.send 1 2 5 true M
      rw [e9] at g3b
      dsimp only at g3b
      refine q rfl rfl (neI rfl rfl) ?_
      refine q rfl rfl (mv (v := .bool _) rfl) ?_
      refine TL.known 50 rfl (c := false) (by decide) ?_
      refine qg rfl rfl rfl (mv (v := .int _ _) rfl) ?_
      refine qg rfl rfl rfl (neI rfl rfl) ?_
      first | refine q rfl rfl (pkT (v := .bool _) rfl rfl) ?_ | refine q rfl rfl (pkF (v := .bool _) rfl rfl) ?_
      refine TL.nil (nt ?_)
      refine TC.condF rfl ?_
      refine TC.skip (nt ?_)
      refine TC.seq ?_
      refine TC.region ?_
      refine q rfl rfl (mv (v := .pointer _) rfl) ?_
      refine e rfl ?_
      refine cl (ttake_ok a (MD pr M) g3b.p (g3b.tb (by omega)) 2 (g3b.tl (by omega))) rfl PkL.p trivial ?_
      intro _ _
      change TL _ _ _ _ _ _ _ _ (sepL [_, _, _, _])
      rw [e7]
      dsimp only
      have g4 := g3b.take 2
      rw [e7] at g4
      dsimp only at g4
      refine q rfl rfl (mv (v := .tuple _) rfl) ?_
      refine q rfl rfl (pu (v := .agg #[_, _, _]) (fun _ => rfl)) ?_
      refine q rfl rfl (pu (v := .int _ _) (fun _ => rfl)) ?_
      refine e rfl ?_
      refine al (l := [.int _ _, .int _ _, .bool _]) rfl rfl ?_
      intro b5
      refine e0 ?_
      refine st (v := .agg #[_, _, _]) (vs := [_, _, _]) 3 rfl rfl rfl rfl rfl rfl (Nat.le_of_ble_eq_true rfl) rfl ?_
      refine q rfl rfl (asg (v := .int _ _) rfl) ?_
      refine TL.nil (nt ?_)
      refine TC.seq ?_
      refine TC.region ?_
      refine q rfl rfl (mv (v := .int _ _) rfl) ?_
      refine q rfl rfl (neI rfl rfl) ?_
      refine q rfl rfl (mv (v := .bool _) rfl) ?_
      refine TL.known 61 rfl (c := false) (by decide) ?_
      first | refine qg rfl rfl rfl (fa 0 rfl rfl) ?_ | refine qg rfl rfl rfl (faS 0 rfl rfl (by first | assumption | (simp [ints_length] <;> omega))) ?_
      first | refine qg rfl rfl rfl (ld rfl rfl rfl) ?_ | refine qg rfl rfl rfl (ldS rfl rfl rfl) ?_
      refine qg rfl rfl rfl (neI rfl rfl) ?_
      first | refine q rfl rfl (pkT (v := .bool _) rfl rfl) ?_ | refine q rfl rfl (pkF (v := .bool _) rfl rfl) ?_
      refine q rfl rfl (mv (v := .bool _) rfl) ?_
      refine TL.known 66 rfl (c := false) (by decide) ?_
      refine qg rfl rfl rfl (mv (v := .pointer _) rfl) ?_
      have hs3 : stT (MU 2 pr M) 1 = 3 := by rw [tm_b hh3 hp]; exact (tm_c hh3 hp M 4 0).1
      refine eg rfl rfl ?_
      refine cl (tstate_ok a (MU 2 pr M) 1) rfl PkL.p trivial ?_
      intro _ _
      change TL _ _ _ _ _ _ _ _ (sepL [_, _, _, _, _])
      rw [hs3]
      refine qg rfl rfl rfl (neI rfl rfl) ?_
      first | refine q rfl rfl (pkT (v := .bool _) rfl rfl) ?_ | refine q rfl rfl (pkF (v := .bool _) rfl rfl) ?_
      refine TL.nil (nt ?_)
      refine TC.condF rfl ?_
      rw [tm_b hh3 hp] at g4 ⊢
      refine TC.skip (nb (nt ?_))
      refine TC.seq ?_
      refine TC.seq ?_
      refine TC.region ?_
      refine q rfl rfl (mv (v := .int _ _) rfl) ?_
      refine q rfl rfl (asg (v := .int _ _) rfl) ?_
      refine TL.nil (nt ?_)
      refine TC.block ?_
      have hW0 : MX 2 pr M 4 0 = (MW 2 pr M 4 0) := (if_pos (by omega)).symm
      rw [hW0] at g4 ⊢
      refine TC.loop (ι := Nat × Int) (fun u => ((u.1 : Int) ≤ M) ∧ (1 ≤ u.2 ∧ u.2 ≤ 4) ∧ TG (MW 2 pr M u.2 u.1) (10 + u.1)) (fun u => [(7, .pointer (some ⟨a, 0, none⟩)), (13, .int .i64 (M - (u.1 : Nat) : Int))]) (fun u => sepL [isT a (MW 2 pr M u.2 u.1), F]) (fun u => 300 - u.1) ⟨0, 4⟩ ⟨by dsimp only; omega, by decide, g4.up (by decide)⟩ ⟨rfl, congrArg (Value.int .i64) (by dsimp only; omega), trivial⟩ (by repeat (first | exact ent_nil _ | refine ent_take 0 rfl ?_ | refine ent_take 1 rfl ?_ | refine ent_take 2 rfl ?_ | refine ent_take 3 rfl ?_ | refine ent_take 4 rfl ?_ | refine ent_take 5 rfl ?_ | refine ent_take 6 rfl ?_ | refine ent_take 7 rfl ?_ | refine ent_take 8 rfl ?_ | refine ent_take 9 rfl ?_ | refine ent_take 10 rfl ?_ | refine ent_take 11 rfl ?_ | refine ent_take 12 rfl ?_)) ?_
      rintro ⟨k, v⟩ ⟨hk, hv, hg⟩ ρ0
      dsimp only [updL] at hk hv hg ⊢
      refine TC.seq ?_
      refine TC.seq ?_
      refine TC.region ?_
      refine q rfl rfl (mv (v := .int _ _) rfl) ?_
      refine q rfl rfl (gtr rfl rfl) ?_
      refine TL.nil (nt ?_)
      first | refine TC.condD rfl (fun hlt => ?_) (fun hlt => ?_) | refine TC.cond rfl (fun hlt => ?_) (fun hlt => ?_)
      · have hkM : (k : Int) < M := by omega
        have hWX : (MW 2 pr M v k) = (MX 2 pr M v k) := if_pos hkM
        rw [hWX] at hg ⊢
        obtain ⟨c1, c2, c3, c4, c5⟩ := tm_c hh3 hp M v k
        obtain ⟨v2, hv2, ht⟩ := tm_tick 2 pr M k hv
        have ht2 : tickT (MX 2 pr M v k) = MW 2 pr M v2 ((k + 1 : Nat) : Int) := ht
        have hg2 := hg.tick
        rw [ht2] at hg2
        refine TC.skip (nt ?_)
        refine TC.seq ?_
        refine TC.block ?_
        refine TC.seq ?_
        refine TC.seq ?_
        refine TC.region ?_
        refine q rfl rfl (mv (v := .pointer _) rfl) ?_
        refine e rfl ?_
        refine cl (tleft_ok a (MX 2 pr M v k) hg.p (hg.tb (by omega)) 1) rfl PkL.p trivial ?_
        intro _ _
        change TL _ _ _ _ _ _ _ _ (sepL [_, _])
        rw [c5]
        refine q rfl rfl (mv (v := .int _ _) rfl) ?_
        refine q rfl rfl (neI rfl rfl) ?_
        refine q rfl rfl (mv (v := .bool _) rfl) ?_
        refine TL.known 92 rfl (c := false) (decide_eq_false (by omega)) ?_
        refine qg rfl rfl rfl (mv (v := .pointer _) rfl) ?_
        refine eg rfl rfl ?_
        refine cl (tstate_ok a (MX 2 pr M v k) 1) rfl PkL.p trivial ?_
        intro _ _
        change TL _ _ _ _ _ _ _ _ (sepL [_, _])
        rw [c1]
        refine qg rfl rfl rfl (eqI rfl rfl) ?_
        first | refine q rfl rfl (pkT (v := .bool _) rfl rfl) ?_ | refine q rfl rfl (pkF (v := .bool _) rfl rfl) ?_
        refine q rfl rfl (mv (v := .bool _) rfl) ?_
        refine TL.known 97 rfl (c := false) (by decide +kernel) ?_
        refine qg rfl rfl rfl (mv (v := .pointer _) rfl) ?_
        refine eg rfl rfl ?_
        refine cl (ttold_ok a (MX 2 pr M v k)) rfl PkL.p trivial ?_
        intro yt _
        change TL _ _ _ _ _ _ _ _ (sepL [_, _, _])
        rw [c2]
        rw [c4]
        refine qg rfl rfl rfl (len 39 2 rfl rfl) ?_
        refine qg rfl rfl rfl (neI rfl rfl) ?_
        first | refine q rfl rfl (pkT (v := .bool _) rfl rfl) ?_ | refine q rfl rfl (pkF (v := .bool _) rfl rfl) ?_
        refine q rfl rfl (mv (v := .bool _) rfl) ?_
        refine TL.known 103 rfl (c := false) (by decide) ?_
        refine qg rfl rfl rfl (mv (v := .pointer _) rfl) ?_
        refine eg rfl rfl ?_
        refine cl (trun_ok a (MX 2 pr M v k) hg.p (hg.tb (by omega))) rfl PkL.p trivial ?_
        intro _ _
        change TL _ _ _ _ _ _ _ _ (sepL [_, _, _])
        rw [c3]
        refine qg rfl rfl rfl (neI rfl rfl) ?_
        first | refine q rfl rfl (pkT (v := .bool _) rfl rfl) ?_ | refine q rfl rfl (pkF (v := .bool _) rfl rfl) ?_
        refine TL.nil (nt ?_)
        refine TC.condF rfl ?_
        refine TC.skip (nt ?_)
        refine TC.region ?_
        refine q rfl rfl (mv (v := .pointer _) rfl) ?_
        refine e rfl ?_
        refine cl (ttick_ok a (MX 2 pr M v k) hg.p (hg.tb (by omega)) (hg.tl (by omega)) (hg.nw (by omega))) rfl PkL.p trivial ?_
        intro _ _
        change TL _ _ _ _ _ _ _ _ (sepL [_, _, _])
        rw [ht2]
        refine TL.nil (nb (nt ?_))
        refine TC.region ?_
        refine q rfl rfl (mv (v := .int _ _) rfl) ?_
        first | refine q rfl rfl (subI rfl rfl (by omega) (by omega)) ?_ | refine q rfl rfl (sub rfl rfl rfl) ?_
        refine q rfl rfl (asg (v := .int _ _) rfl) ?_
        refine TL.nil (nt ?_)
        exact ⟨rfl, ⟨k + 1, v2⟩, ⟨by dsimp only; omega, hv2, hg2.up (by omega)⟩, (by dsimp only; omega), ⟨rfl, congrArg (Value.int .i64) (by dsimp only; omega), trivial⟩, (by repeat (first | exact ent_nil _ | refine ent_take 0 rfl ?_ | refine ent_take 1 rfl ?_ | refine ent_take 2 rfl ?_ | refine ent_take 3 rfl ?_ | refine ent_take 4 rfl ?_ | refine ent_take 5 rfl ?_ | refine ent_take 6 rfl ?_ | refine ent_take 7 rfl ?_ | refine ent_take 8 rfl ?_ | refine ent_take 9 rfl ?_ | refine ent_take 10 rfl ?_ | refine ent_take 11 rfl ?_ | refine ent_take 12 rfl ?_))⟩
      · have hWZ : (MW 2 pr M v k) = (MZ 2 pr M v k) := if_neg (by omega)
        rw [hWZ] at hg ⊢
        obtain ⟨d1, d2, d3, d4, d5⟩ := tm_d hh3 hp M v k
        have hk3 : k ≤ 256 := by omega
        refine TC.exit (et (et (eb (nt ?_))))
        refine TC.seq ?_
        refine TC.region ?_
        refine q rfl rfl (mv (v := .pointer _) rfl) ?_
        refine e rfl ?_
        refine cl (tanswer_ok a (MZ 2 pr M v k) hg.p (hg.tb (by omega)) 2) rfl PkL.p trivial ?_
        intro _ _
        change TL _ _ _ _ _ _ _ _ (sepL [_, _])
        rw [d3]
        dsimp only
        refine q rfl rfl (mv (v := .tuple _) rfl) ?_
        refine q rfl rfl (pu (v := .int _ _) (fun _ => rfl)) ?_
        refine q rfl rfl (pu (v := .int _ _) (fun _ => rfl)) ?_
        refine q rfl rfl (asg (v := .int _ _) rfl) ?_
        refine q rfl rfl (asg (v := .int _ _) rfl) ?_
        refine TL.nil (nt ?_)
        refine TC.seq ?_
        refine TC.region ?_
        refine q rfl rfl (mv (v := .pointer _) rfl) ?_
        refine e rfl ?_
        refine cl (tstate_ok a (MZ 2 pr M v k) 1) rfl PkL.p trivial ?_
        intro _ _
        change TL _ _ _ _ _ _ _ _ (sepL [_, _])
        rw [d1]
        refine q rfl rfl (eqI rfl rfl) ?_
        refine q rfl rfl (mv (v := .bool _) rfl) ?_
        refine TL.known 118 rfl (c := true) (by decide) ?_
        refine qg rfl rfl rfl (mv (v := .pointer _) rfl) ?_
        refine eg rfl rfl ?_
        refine cl (tleft_ok a (MZ 2 pr M v k) hg.p (hg.tb (by omega)) 1) rfl PkL.p trivial ?_
        intro _ _
        change TL _ _ _ _ _ _ _ _ (sepL [_, _])
        rw [d4]
        refine qg rfl rfl rfl (eqI rfl rfl) ?_
        first | refine q rfl rfl (pkT (v := .bool _) rfl rfl) ?_ | refine q rfl rfl (pkF (v := .bool _) rfl rfl) ?_
        refine q rfl rfl (mv (v := .bool _) rfl) ?_
        refine TL.known 123 rfl (c := true) (by decide) ?_
        refine qg rfl rfl rfl (mv (v := .pointer _) rfl) ?_
        refine eg rfl rfl ?_
        refine cl (ttold_ok a (MZ 2 pr M v k)) rfl PkL.p trivial ?_
        intro yt _
        change TL _ _ _ _ _ _ _ _ (sepL [_, _, _])
        rw [d2]
        have hg3 := hg.tolds
        first | refine qg rfl rfl rfl (bld (cs := [.int _ _, .int _ _]) rfl) ?_ | refine qg rfl rfl rfl (bld (cs := [_, _]) rfl) ?_
        refine eg rfl rfl ?_
        refine bs (cs := [.int _ _, .int _ _]) rfl ?_
        intro b6
        refine eg rfl rfl ?_
        refine cl (tsame_ok yt.1 _ [⟨1, 14⟩] (some ⟨b6, 0, none⟩) _ [⟨1, 14⟩] (by decide)) rfl (picked_nil _) ⟨⟨_, RdSI.rd (ad := yt.1)⟩, ⟨_, RdSI.rd (ad := some ⟨b6, 0, none⟩)⟩⟩ ?_
        intro _ _
        change TL _ _ _ _ _ _ _ _ (sepL [_, _, _, _])
        rw [decide_eq_true (rfl : ([⟨1, 14⟩] : List Tg) = [⟨1, 14⟩])]
        first | refine q rfl rfl (pkT (v := .bool _) rfl rfl) ?_ | refine q rfl rfl (pkF (v := .bool _) rfl rfl) ?_
        refine q rfl rfl (mv (v := .bool _) rfl) ?_
        refine TL.known 130 rfl (c := true) (by decide) ?_
        refine qg rfl rfl rfl (mv (v := .int _ _) rfl) ?_
        refine qg rfl rfl rfl (eqI rfl rfl) ?_
        first | refine q rfl rfl (pkT (v := .bool _) rfl rfl) ?_ | refine q rfl rfl (pkF (v := .bool _) rfl rfl) ?_
        refine q rfl rfl (mv (v := .bool _) rfl) ?_
        refine TL.known 134 rfl (c := true) (by decide) ?_
        refine qg rfl rfl rfl (mv (v := .pointer _) rfl) ?_
        refine eg rfl rfl ?_
        refine cl (trow_ok a (toldT (MZ 2 pr M v k)) hg3.p (hg3.tb (by omega)) 2) rfl PkL.p trivial ?_
        intro yr _
        change TL _ _ _ _ _ _ _ _ (sepL [_, _, _, _, _])
        rw [d5]
        refine qg rfl rfl rfl (len 32 3 rfl rfl) ?_
        refine qg rfl rfl rfl (eqI rfl rfl) ?_
        first | refine q rfl rfl (pkT (v := .bool _) rfl rfl) ?_ | refine q rfl rfl (pkF (v := .bool _) rfl rfl) ?_
        refine q rfl rfl (asg (v := .bool _) rfl) ?_
        refine TL.nil (nt ?_)
        refine TC.ret ?_
        exact Ret.i () [_] ⟨rfl, trivial⟩ rfl trivial (by repeat (first | exact ent_nil _ | refine ent_take 0 rfl ?_ | refine ent_take 1 rfl ?_ | refine ent_take 2 rfl ?_ | refine ent_take 3 rfl ?_ | refine ent_take 4 rfl ?_ | refine ent_take 5 rfl ?_ | refine ent_take 6 rfl ?_ | refine ent_take 7 rfl ?_ | refine ent_take 8 rfl ?_ | refine ent_take 9 rfl ?_ | refine ent_take 10 rfl ?_ | refine ent_take 11 rfl ?_ | refine ent_take 12 rfl ?_))

end Go.Proofs.Ytdfmfhcjnjfjbaa
