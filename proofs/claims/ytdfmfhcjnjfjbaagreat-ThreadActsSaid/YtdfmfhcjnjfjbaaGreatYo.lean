/-
  Proved here: what functions of this program compute, each as a contract over symbolic states, under the premises that each theorem names (most lines printed by a program of the prover).
-/
import Derived.Test.YtdfmfhcjnjfjbaaGreatYn
namespace Go.Proofs.YtdfmfhcjnjfjbaaGreat
open Go Go.QM
theorem Nd_tell (why : Int) : ∀ (l : List Int) (T : TS), Al.Nd T.A → Al.Nd (tellS T why l).A
 | [], _, h => h
 | x :: l, T, h => Nd_tell why l (tell1 why T x) (clr_Nd h [x])
theorem clr_len (A : List Al.En) (l : List Int) : (Al.clrA A l).length ≤ A.length := (Al.clrA_sub A l).length_le
set_option maxRecDepth 4000 in
theorem xat_ok (b : Nat) (D : List Int) (T : TS) (hD : D.length ≤ 1000) (id : Int) : FSpec Tryz.prog 36 [.pointer (some ⟨b, 0, none⟩), .int .i64 id] (fun F => ent F (RX b D T)) [] (fun _ : Unit => .int .i64 (atD D id)) (fun _ => True) (fun _ => []) := by
 refine FSpec.intro (rs := [.tmp 4]) (by kernel_rfl) Tryz.func36 rfl Tryz.ntmps36 (by rfl) rfl ?_
 intro F hF
 change TC _ _ _ _ _ _ _ (sepL [_])
 refine TC.openR hF (fun x0 hx0 => ?_)
 obtain ⟨⟨l1, l2⟩, ⟨k1, k2⟩, ⟨a1, a2⟩, ⟨i1, i2⟩, ⟨p1, p2⟩, ⟨s1, s2⟩, ⟨u1, u2⟩, rr⟩ := x0
 have hm := hx0
 dsimp only [XP]
 have htl := tcsR_length D T
 have hgl := tgsC_length T.told
 refine TC.seq ?_
 refine TC.region ?_
 refine wai rfl rfl ?_
 refine TL.nil (nt ?_)
 refine TC.seq ?_
 refine TC.seq ?_
 refine TC.region ?_
 refine wai rfl rfl ?_
 refine TL.nil (nt ?_)
 refine TC.block ?_
 refine TC.loop (ι := Nat) (fun i => i ≤ D.length ∧ ∀ j t, j < i → D[j]? = some t → t ≠ id) (fun i => [(0, .pointer (some ⟨b, 0, none⟩)), (1, .int .i64 id), (5, .int .i64 ((i : Nat) : Int))]) (fun i => sepL [restr F (sepL [pts b 60 [.slice l1 D.length l2, .slice k1 T.S.length k2, .int .i64 T.now, .slice a1 T.A.length a2, .slice i1 T.A.length i2, .slice p1 rr.D.length p2, .slice s1 rr.S.length s2, .slice u1 T.told.length u2], slc 66 4 l1 D.length l2 (tcsR D T), slc 111 4 k1 T.S.length k2 (Rd.rthsC T.S), slc 3 1 a1 T.A.length a2 (ints (Al.ids T.A)), slc 3 1 i1 T.A.length i2 (ints (Al.lf T.now T.A)), slc 115 3 p1 rr.D.length p2 (thsC rr), slc 117 4 s1 rr.S.length s2 (snsC rr.S), slc 74 2 u1 T.told.length u2 (tgsC T.told)])]) (fun i => D.length - i) 0 ⟨Nat.zero_le _, by intro j t h; omega⟩ ⟨rfl, rfl, rfl, trivial⟩ (ent_take 0 rfl (ent_nil _)) ?_
 rintro k ⟨hk, hno⟩ ρ0
 dsimp only [updL] at hk hno ⊢
 refine TC.seq ?_
 refine TC.seq ?_
 refine TC.region ?_
 refine wmi rfl rfl ?_
 refine wmp rfl rfl ?_
 refine wnc rfl rfl ?_
 refine wfa 0 rfl rfl rfl ?_
 refine wld rfl rfl rfl rfl ?_
 refine q rfl rfl (len 66 4 rfl rfl) ?_
 refine q rfl rfl (lss rfl rfl) ?_
 refine TL.nil (nt ?_)
 refine TC.condD rfl (fun hlt => ?_) (fun hlt => ?_)
 ·have hlt2 : k < D.length := by omega
  obtain ⟨x, hx⟩ : ∃ x, D[k]? = some x := ⟨D[k], List.getElem?_eq_getElem hlt2⟩
  have hpos : 0 < (tcsR D T).length := by omega
  refine TC.skip (nt ?_)
  refine TC.seq ?_
  refine TC.block ?_
  refine TC.seq ?_
  refine TC.region ?_
  refine wmp rfl rfl ?_
  refine wnc rfl rfl ?_
  refine wfa 0 rfl rfl rfl ?_
  refine wld rfl rfl rfl rfl ?_
  refine wmi rfl rfl ?_
  refine q rfl rfl (ixS 66 4 rfl rfl rfl (by omega) (by assumption)) ?_
  refine q rfl rfl (faS 0 rfl rfl (by assumption)) ?_
  refine q rfl rfl (ldS rfl rfl (flat_ld (tcR_sz T) hx 0 (by omega) rfl)) ?_
  refine wmi rfl rfl ?_
  refine q rfl rfl (eqI rfl rfl) ?_
  refine TL.nil (nt ?_)
  refine TC.condD rfl (fun he => ?_) (fun he => ?_)
  ·have hr : atD D id = (k : Int) := by
    rw [atD, findIdx_at (p := fun x : Int => decide (x = id)) hx (by simpa using he) (fun j t hj ht => by simpa using hno j t hj ht)]
   refine TC.seq ?_
   refine TC.region ?_
   refine wmi rfl rfl ?_
   refine wai rfl rfl ?_
   refine TL.nil (nt ?_)
   refine TC.ret (rb (rt (rt (rb (rt ?_)))))
   exact Ret.i () [_] ⟨rfl, trivial⟩ (by rw [hr]; rfl) trivial (ent_takeF 0 rfl (ent_nil _))
  ·refine TC.skip (nb (nt ?_))
   refine TC.region ?_
   refine wmi rfl rfl ?_
   refine q rfl rfl (addI rfl rfl (by omega) (by omega)) ?_
   refine wai rfl rfl ?_
   refine TL.nil (nt ?_)
   exact ⟨rfl, (k + 1), ⟨by omega, fun j t hj ht => by rcases Nat.lt_succ_iff_lt_or_eq.1 hj with h | h; exact hno j t h ht; subst h; rw [hx] at ht; cases ht; exact he⟩, (by omega), ⟨rfl, rfl, rfl, trivial⟩, (ent_take 0 rfl (ent_nil _))⟩
 ·have hr : atD D id = -1 := atD_no (fun he1 => by
   obtain ⟨j, hj⟩ := List.getElem?_of_mem he1
   exact hno j id (by have := (List.getElem?_eq_some_iff.1 hj).1; omega) hj rfl)
  refine TC.exit (et (et (eb (nt ?_))))
  refine TC.seq ?_
  refine TC.region ?_
  refine wai rfl rfl ?_
  refine TL.nil (nt ?_)
  refine TC.ret ?_
  exact Ret.i () [_] ⟨rfl, trivial⟩ (by rw [hr]; rfl) trivial (ent_takeF 0 rfl (ent_nil _))
set_option maxRecDepth 4000 in
theorem xstate_ok (b : Nat) (T : TS) (hW : WM T.m) (hi : T.m.ids.length ≤ 1000) (id : Int) : FSpec Tryz.prog 31 [.pointer (some ⟨b, 0, none⟩), .int .i64 id] (fun F => ent F (RX b T.m.ids T)) [] (fun _ : Unit => .int .i64 (stT T id)) (fun _ => True) (fun _ => []) := by
 refine FSpec.intro (rs := [.tmp 4]) (by kernel_rfl) Tryz.func31 rfl Tryz.ntmps31 (by rfl) rfl ?_
 intro F hF
 change TC _ _ _ _ _ _ _ (sepL [_])
 refine TC.seq ?_
 refine TC.region ?_
 refine wai rfl rfl ?_
 refine TL.nil (nt ?_)
 refine TC.seq ?_
 refine TC.region ?_
 refine wmp rfl rfl ?_
 refine wmi rfl rfl ?_
 refine e rfl ?_
 refine cl (xat_ok b T.m.ids T hi id) rfl (picked_nil _) ((ent_one 0 rfl).trans hF) ?_
 intro _ _
 change TL _ _ _ _ _ _ _ _ (sepL [_])
 by_cases hy : id ∈ T.m.ids
 ·obtain ⟨i, h1, h2⟩ := atD_yes hy
  rw [h1]
  have hi2 := (List.getElem?_eq_some_iff.1 h2).1
  rw [show stT T id = if T.on id = true then T.m.st id else 4 from if_pos hy]
  have hst : stR T.m id = T.m.st id := if_pos hy
  refine wai rfl rfl ?_
  refine TL.nil (nt ?_)
  refine TC.seq ?_
  refine TC.seq ?_
  refine TC.region ?_
  refine wmi rfl rfl ?_
  refine q rfl rfl (lss rfl rfl) ?_
  refine TL.nil (nt ?_)
  refine TC.condD rfl (fun hc1 => absurd hc1 (by omega)) (fun hc1 => ?_)
  refine TC.skip (nt ?_)
  refine TC.seq ?_
  refine TC.seq ?_
  refine TC.openR hF (fun x0 hx0 => ?_)
  obtain ⟨⟨l1, l2⟩, ⟨k1, k2⟩, ⟨a1, a2⟩, ⟨i1, i2⟩, ⟨p1, p2⟩, ⟨s1, s2⟩, ⟨u1, u2⟩, rr⟩ := x0
  have hm := hx0
  dsimp only [XP]
  have htl := tcsR_length T.m.ids T
  have hgl := tgsC_length T.told
  have hpos : 0 < (tcsR T.m.ids T).length := by omega
  refine TC.region ?_
  refine wmp rfl rfl ?_
  refine wnc rfl rfl ?_
  refine wfa 0 rfl rfl rfl ?_
  refine wld rfl rfl rfl rfl ?_
  refine wmi rfl rfl ?_
  refine q rfl rfl (ixS 66 4 rfl rfl rfl (by omega) (by assumption)) ?_
  refine q rfl rfl (faS 3 rfl rfl (by assumption)) ?_
  refine q rfl rfl (ldS rfl rfl (flat_ld (tcR_sz T) h2 3 (by omega) rfl)) ?_
  refine q rfl rfl (notB rfl) ?_
  refine TL.nil (nt ?_)
  refine TC.cond rfl (fun hon => ?_) (fun hon => ?_)
  ·rw [if_neg (show ¬ T.on id = true from fun h => by simp [h] at hon)]
   refine TC.seq ?_
   refine TC.region ?_
   refine wai rfl rfl ?_
   refine TL.nil (nt ?_)
   refine TC.ret (rt ?_)
   exact Ret.i () [_] ⟨rfl, trivial⟩ rfl trivial (ent_takeF 0 rfl (ent_nil _))
  ·have hon2 : T.on id = true := by cases hh : T.on id <;> simp [hh] at hon ⊢
   rw [if_pos hon2]
   refine TC.skip (nt ?_)
   refine TC.seq ?_
   refine TC.region ?_
   refine wmp rfl rfl ?_
   refine wnc rfl rfl ?_
   refine wfa 5 rfl rfl rfl ?_
   refine wmi rfl rfl ?_
   refine e rfl ?_
   refine cl (xpstate b T.m.ids T hW hi id) rfl (picked_nil _) ((ent_one 0 rfl).trans ((restr_ent _ _).trans hF)) ?_
   intro _ _
   change TL _ _ _ _ _ _ _ _ (sepL [_])
   rw [hst]
   refine wai rfl rfl ?_
   refine TL.nil (nt ?_)
   refine TC.ret ?_
   exact Ret.i () [_] ⟨rfl, trivial⟩ rfl trivial (ent_takeF 0 rfl (ent_nil _))
 ·rw [atD_no hy, show stT T id = -1 from if_neg hy]
  refine wai rfl rfl ?_
  refine TL.nil (nt ?_)
  refine TC.seq ?_
  refine TC.seq ?_
  refine TC.region ?_
  refine wmi rfl rfl ?_
  refine q rfl rfl (lss rfl rfl) ?_
  refine TL.nil (nt ?_)
  refine TC.condD rfl (fun hc2 => ?_) (fun hc2 => absurd (by decide) hc2)
  refine TC.seq ?_
  refine TC.region ?_
  refine wai rfl rfl ?_
  refine TL.nil (nt ?_)
  refine TC.ret (rt ?_)
  exact Ret.i () [_] ⟨rfl, trivial⟩ rfl trivial (ent_take 0 rfl (ent_nil _))
set_option maxRecDepth 4000 in
theorem xmay_ok (t : Int) : FSpec Tryz.prog 116 [.int .i64 t] noRd [] (fun _ : Unit => .bool (decide (¬ badT t))) (fun _ => True) (fun _ => []) := by
 refine FSpec.intro (rs := [.tmp 2]) (by kernel_rfl) Tryz.func116 rfl Tryz.ntmps116 (by rfl) rfl ?_
 intro F _
 change TC _ _ _ _ _ _ _ (sepL [_])
 refine TC.seq ?_
 refine TC.region ?_
 refine wab rfl rfl ?_
 refine TL.nil (nt ?_)
 refine TC.seq ?_
 refine TC.region ?_
 refine wmi rfl rfl ?_
 refine q rfl rfl (geq rfl rfl) ?_
 refine wmb rfl rfl ?_
 refine TL.split 5 rfl (fun h1 => ?_) (fun h1 => ?_)
 ·have h1 := of_decide_eq_true h1
  refine qg rfl rfl rfl (mv (v := .int _ _) rfl) ?_
  refine qg rfl rfl rfl (leq rfl rfl) ?_
  refine q rfl rfl (pkT (v := .bool _) rfl rfl) ?_
  refine wab rfl rfl ?_
  refine TL.nil (nt ?_)
  refine TC.ret ?_
  exact Ret.i () [_] ⟨rfl, trivial⟩ (congrArg Value.bool (by rw [decide_eq_decide, badT]; omega)) trivial (ent_take 0 rfl (ent_nil _))
 ·have h1 := of_decide_eq_false h1
  refine qs rfl rfl ?_
  refine qs rfl rfl ?_
  refine q rfl rfl (pkF (v := .bool _) rfl rfl) ?_
  refine wab rfl rfl ?_
  refine TL.nil (nt ?_)
  refine TC.ret ?_
  exact Ret.i () [_] ⟨rfl, trivial⟩ (congrArg Value.bool (by rw [eq_comm, decide_eq_false_iff_not, badT]; omega)) trivial (ent_take 0 rfl (ent_nil _))
set_option maxRecDepth 4000 in
theorem xout_ok (b : Nat) (D : List Int) (T : TS) (hS : T.S.length ≤ 1000000) (hA : T.A.length ≤ 1000000) (hn : Rd.NdS T.S) (id ticks : Int) : FSpec Tryz.prog 113 [.pointer (some ⟨b, 0, none⟩), .int .i64 id, .int .i64 ticks] noRd [RX b D T] (fun _ : Unit => .tuple #[]) (fun _ => True) (fun _ => [RX b D (blockS T id ticks)]) := by
 refine FSpec.intro (rs := []) (by kernel_rfl) Tryz.func113 rfl Tryz.ntmps113 (by rfl) rfl ?_
 intro F _
 change TC _ _ _ _ _ _ _ (sepL [_, _])
 refine TC.seq ?_
 refine TC.region ?_
 refine wmp rfl rfl ?_
 refine wnc rfl rfl ?_
 refine wfa 1 rfl rfl rfl ?_
 refine wmi rfl rfl ?_
 refine e rfl ?_
 refine bs (cs := [.int _ _]) rfl ?_
 intro b1
 refine e rfl ?_
 refine cl (xqdrop b D T hS (some ⟨b1, 0, none⟩) _ [id] (by simp) hn) rfl PkL.p ⟨_, RdSI.rd (ad := some ⟨b1, 0, none⟩)⟩ ?_
 intro _ _
 change TL _ _ _ _ _ _ _ _ (sepL [_, _, _])
 refine TL.nil (nt ?_)
 refine TC.seq ?_
 refine TC.region ?_
 refine wmi rfl rfl ?_
 refine q rfl rfl (gtr rfl rfl) ?_
 refine TL.nil (nt ?_)
 refine TC.condD rfl (fun ht => ?_) (fun ht => ?_)
 ·have hv : blockS T id ticks = { T with S := Rd.dropS T.S [id], tn := (Al.setA T.A T.now T.tn id ticks).2.1, A := (Al.setA T.A T.now T.tn id ticks).1 } := if_pos ht
  rw [hv]
  refine TC.region ?_
  refine wmp rfl rfl ?_
  refine wnc rfl rfl ?_
  refine wfa 2 rfl rfl rfl ?_
  refine wmi rfl rfl ?_
  refine wmi rfl rfl ?_
  refine e rfl ?_
  refine cl (xaset b D { T with S := Rd.dropS T.S [id] } hA id ticks) rfl PkL.p trivial ?_
  intro _ _
  change TL _ _ _ _ _ _ _ _ (sepL [_, _, _])
  refine TL.nil ?_
  exact Ret.n () [] trivial rfl trivial (ent_take 0 rfl (ent_take 1 rfl (ent_nil _)))
 ·have hv : blockS T id ticks = { T with S := Rd.dropS T.S [id] } := if_neg ht
  rw [hv]
  refine TC.skip ?_
  exact Ret.n () [] trivial rfl trivial (ent_take 0 rfl (ent_take 1 rfl (ent_nil _)))
end Go.Proofs.YtdfmfhcjnjfjbaaGreat
namespace Go.Proofs.YtdfmfhcjnjfjbaaGreat
open Go Go.QM
def zT (T : TS) (x : Int) : TS := { T with pr := updI T.pr x 0, sl := updI T.sl x 0, on := updI T.on x false }
theorem tcs_cong {D : List Int} {T T' : TS} (h : ∀ x ∈ D, T'.pr x = T.pr x ∧ T'.sl x = T.sl x ∧ T'.on x = T.on x) : tcsR D T' = tcsR D T := flat_congr fun x hx => by
 obtain ⟨h1, h2, h3⟩ := h x hx
 rw [tcR, tcR, h1, h2, h3]
theorem tcs_add {T : TS} {D : List Int} {x : Int} (hx : x ∉ D) : tcsR D T ++ [.int .i64 x, .int .i64 0, .int .i64 0, .bool false] = tcsR (D ++ [x]) (zT T x) := by
 have h1 : tcsR D (zT T x) = tcsR D T := tcs_cong fun y hy => by
  have e : y ≠ x := fun e => hx (e ▸ hy)
  exact ⟨updI_ne e, updI_ne e, updI_ne e⟩
 have h2 : tcsR (D ++ [x]) (zT T x) = tcsR D (zT T x) ++ tcR (zT T x) x := by rw [tcsR, List.flatMap_append]; simp [tcsR]
 rw [h2, h1]
 congr 1
 rw [tcR]
 simp only [zT, updI_same]
theorem add_RX {b : Nat} {T : TS} {x : Int} (h : ¬ (x ∈ T.m.ids ∨ x < 0)) : RX b (T.m.ids ++ [x]) (mS (zT T x) (joinL (zT T x).m [x])) = RX b (addT T x).m.ids (addT T x) ∧ ((addL T [x]).m.ids.length - T.m.ids.length : Int) = 1 := by
 have e : addT T x = mS (zT T x) (joinL T.m [x]) := if_neg h
 have e2 : (joinL T.m [x]).ids = T.m.ids ++ [x] := by
  show (joinS T.m x).ids = _
  rw [joinS, if_neg h]
 refine ⟨by rw [e]; exact congrArg (RX b · _) e2.symm, ?_⟩
 show ((addT T x).m.ids.length - T.m.ids.length : Int) = 1
 rw [e]
 show ((joinL T.m [x]).ids.length - T.m.ids.length : Int) = 1
 rw [e2, List.length_append, List.length_singleton]; omega
theorem add_RX0 {T : TS} {x : Int} (h : x ∈ T.m.ids ∨ x < 0) : addL T [x] = T ∧ ((addL T [x]).m.ids.length - T.m.ids.length : Int) = 0 := by
 have e : addL T [x] = T := if_pos h
 exact ⟨e, by rw [e]; omega⟩
set_option maxRecDepth 4000 in
set_option maxHeartbeats 1000000 in
theorem xsay_ok (b : Nat) (D : List Int) (T : TS) (hD : D.length ≤ 1000) (why : Int) (av : Option Addr) (cv : Nat) (l : List Int) (hl : ∀ x ∈ l, x ∈ D) (hS : T.S.length + l.length ≤ 1000000) (hA : T.A.length ≤ 1000000) (hn : Al.Nd T.A) (ht : T.told.length + l.length ≤ 200000000) : FSpec Tryz.prog 115 [.pointer (some ⟨b, 0, none⟩), .int .i64 why, .slice av l.length cv] (fun F => ∃ E, RdS F E av (ints l)) [RX b D T] (fun _ : Unit => .tuple #[]) (fun _ => True) (fun _ => [RX b D (tellS T why l)]) := by
 refine FSpec.intro (rs := []) (by kernel_rfl) Tryz.func115 rfl Tryz.ntmps115 (by rfl) rfl ?_
 intro F ⟨E, hF⟩
 change TC _ _ _ _ _ _ _ (sepL [_, _])
 haveI : RdSI F av E (ints l) := ⟨hF⟩
 have hxl := ints_length l
 refine TC.seq ?_
 refine TC.region ?_
 refine wai rfl rfl ?_
 refine TL.nil (nt ?_)
 refine TC.block ?_
 refine TC.loop (ι := Nat) (fun k => k ≤ l.length) (fun k => [(0, .pointer (some ⟨b, 0, none⟩)), (1, .int .i64 why), (2, .slice av l.length cv), (6, .int .i64 ((k : Nat) : Int))]) (fun k => sepL [RX b D (tellS T why (l.take k)), F]) (fun k => l.length - k) 0 (Nat.zero_le _) ⟨rfl, rfl, rfl, rfl, trivial⟩ (ent_take 0 rfl (ent_take 0 rfl (ent_nil _))) ?_
 rintro k hk ρ0
 dsimp only [updL] at hk ⊢
 refine TC.seq ?_
 refine TC.seq ?_
 refine TC.region ?_
 refine wmi rfl rfl ?_
 refine wms rfl rfl ?_
 refine q rfl rfl (len 3 1 rfl rfl) ?_
 refine q rfl rfl (lss rfl rfl) ?_
 refine TL.nil (nt ?_)
 refine TC.condD rfl (fun hlt => ?_) (fun hlt => ?_)
 ·have hlt2 : k < l.length := by omega
  obtain ⟨x, hx⟩ : ∃ x, l[k]? = some x := ⟨l[k], List.getElem?_eq_getElem hlt2⟩
  have hpos : 0 < (ints l).length := by omega
  have hsn := tell_snoc T why l hx
  obtain ⟨e1, e2, e3, e4, e5, e6, e7⟩ := tell_m why (l.take k) T
  have hjt : (l.take k).length ≤ k := by rw [List.length_take]; omega
  obtain ⟨hl1, hl2⟩ := tell_len why (l.take k) T
  have hzn := Nd_tell why (l.take k) T hn
  have hzt : (tellS T why (l.take k)).told.length ≤ 200000000 := by omega
  have hzs : (tellS T why (l.take k)).S.length ≤ 1000000 := by omega
  have hza : (tellS T why (l.take k)).A.length ≤ 1000000 := by omega
  clear e1 e2 e3 e4 e5 e6 e7 hl1 hl2
  generalize (tellS T why (l.take k)) = Z at hsn hzn hzt hzs hza ⊢
  obtain ⟨i, hi1, hi2⟩ := atD_yes (hl x (List.mem_of_getElem? hx))
  have hi3 := (List.getElem?_eq_some_iff.1 hi2).1
  refine TC.open 0 rfl (fun x0 hx0 => ?_)
  obtain ⟨⟨l1, l2⟩, ⟨k1, k2⟩, ⟨a1, a2⟩, ⟨i1, i2⟩, ⟨p1, p2⟩, ⟨s1, s2⟩, ⟨u1, u2⟩, rr⟩ := x0
  have hm := hx0
  change TC _ _ _ _ _ _ _ (sepL [_, _, _, _, _, _, _, _, _])
  dsimp only [XP, List.cons_append, List.nil_append]
  change TC _ _ _ _ _ _ _ (sepL [_, _, _, _, _, _, _, _, _])
  have htl := tcsR_length D Z
  have hgl := tgsC_length Z.told
  have hpos2 : 0 < (tcsR D Z).length := by omega
  refine TC.skip (nt ?_)
  refine TC.seq ?_
  refine TC.block ?_
  refine TC.seq ?_
  refine TC.drawF _ [13] 14 rfl (by kernel_rfl) (by kernel_rfl) (ent_take 0 rfl (ent_take 0 rfl (ent_take 6 rfl (ent_nil _)))) ?_
  refine fq (i := 0) rfl rfl rfl (by kernel_rfl) (mv (v := .pointer _) rfl) ?_
  refine fq (i := 1) rfl rfl rfl (by kernel_rfl) (nc rfl) ?_
  refine fq (i := 2) rfl rfl rfl (by kernel_rfl) (fa 0 rfl rfl) ?_
  refine fq (i := 3) rfl rfl rfl (by kernel_rfl) (ld rfl rfl rfl) ?_
  refine fq (i := 4) rfl rfl rfl (by kernel_rfl) (mv (v := .pointer _) rfl) ?_
  refine fq (i := 5) rfl rfl rfl (by kernel_rfl) (mv (v := .slice _ _ _) rfl) ?_
  refine fq (i := 6) rfl rfl rfl (by kernel_rfl) (mv (v := .int _ _) rfl) ?_
  refine fq (i := 7) rfl rfl rfl (by kernel_rfl) (ixS 3 1 rfl rfl rfl (by omega) (by assumption)) ?_
  refine fq (i := 8) rfl rfl rfl (by kernel_rfl) (ldS rfl rfl (ints_get hx)) ?_
  refine ff (i := 9) (j := 12) rfl rfl rfl rfl (by kernel_rfl) ?_ ?_
  ·refine cl (xat_ok b D Z hD x) rfl (picked_nil _) (RXrd (⟨(l1, l2), (k1, k2), (a1, a2), (i1, i2), (p1, p2), (s1, s2), (u1, u2), rr⟩ : RY) hm (ent_take 0 rfl (ent_take 0 rfl (ent_take 0 rfl (ent_take 0 rfl (ent_take 0 rfl (ent_take 0 rfl (ent_take 0 rfl (ent_take 0 rfl (ent_nil _)))))))))) ?_
   intro _ _
   change ent _ _ ∧ TF _ _ _ _ _ _ _ _ _ _ _ (sepL [_, _, _, _, _, _, _, _, _])
   refine ⟨(ent_take 0 rfl (ent_take 0 rfl (ent_take 6 rfl (ent_nil _)))), ?_⟩
   rw [hi1]
   refine TF.of [(10, false), (11, false), (12, true), (13, true)] (by kernel_rfl) rfl ?_
   refine dq rfl rfl rfl (ixS 66 4 rfl rfl rfl (by omega) (by assumption)) ?_
   refine dq rfl rfl rfl (ldSN (vs := [.int _ _, .int _ _, .int _ _, .bool _]) 4 rfl rfl (flat_get_rec (tcR_sz Z) hi2) rfl (by decide)) ?_
   refine de rfl rfl ?_
   refine al (l := [.int _ _, .int _ _, .int _ _, .bool _]) rfl rfl ?_
   intro b1
   refine ⟨(ent_take 1 rfl (ent_take 1 rfl (ent_take 7 rfl (ent_nil _)))), ?_⟩
   refine dl0 rfl rfl rfl ?_
   refine st (v := .agg (List.toArray ([.int _ _, .int _ _, .int _ _, .bool _]))) (vs := [.int _ _, .int _ _, .int _ _, .bool _]) 4 rfl rfl rfl rfl rfl rfl (Nat.le_of_ble_eq_true rfl) rfl ?_
   refine TD.nil (nt ?_)
   refine TC.seq ?_
   refine TC.RXc (b := b) (D := D) (⟨(l1, l2), (k1, k2), (a1, a2), (i1, i2), (p1, p2), (s1, s2), (u1, u2), rr⟩ : RY) hm PkL.p ?_
   change TC _ _ _ _ _ _ _ (sepL [_, _, _])
   refine TC.draw _ [] [(0, false), (1, false), (2, false), (3, false), (4, false), (5, true), (6, true)] (by kernel_rfl) (by kernel_rfl) (ent_take 1 rfl (ent_nil _)) ?_
   refine vmp rfl rfl rfl ?_
   refine vnc rfl rfl rfl ?_
   refine vfa 2 rfl rfl rfl rfl ?_
   refine vfa 0 rfl rfl rfl rfl ?_
   refine vld rfl rfl rfl rfl rfl ?_
   refine de rfl rfl ?_
   refine bs (cs := [.int _ _]) rfl ?_
   intro b2
   refine ⟨(ent_take 2 rfl (ent_nil _)), ?_⟩
   refine de rfl rfl ?_
   refine cl (xaclear b D Z hza (some ⟨b2, 0, none⟩) _ [x] (by simp) hzn) rfl PkL.p ⟨_, RdSI.rd (ad := some ⟨b2, 0, none⟩)⟩ ?_
   intro _ _
   change ent _ _ ∧ TD _ _ _ _ _ _ _ _ _ _ (sepL [_, _, _, _])
   refine ⟨(ent_take 2 rfl (ent_nil _)), ?_⟩
   refine TD.nil (nt ?_)
   refine TC.seq ?_
   refine TC.draw _ [] [(0, false), (1, false), (2, false), (3, false), (4, false), (5, false), (6, false), (7, false), (8, false), (9, true)] (by kernel_rfl) (by kernel_rfl) (ent_take 2 rfl (ent_nil _)) ?_
   refine vmp rfl rfl rfl ?_
   refine vnc rfl rfl rfl ?_
   refine vfa 1 rfl rfl rfl rfl ?_
   refine vfa 0 rfl rfl rfl rfl ?_
   refine vld rfl rfl rfl rfl rfl ?_
   refine vfa 1 rfl rfl rfl rfl ?_
   refine vld rfl rfl rfl rfl rfl ?_
   refine vfa 2 rfl rfl rfl rfl ?_
   refine vld rfl rfl rfl rfl rfl ?_
   refine de rfl rfl ?_
   refine cl (xqadd b D { Z with A := Al.clrA Z.A [x] } hzs x (Z.pr x) (Z.sl x)) rfl PkL.p trivial ?_
   intro _ _
   change ent _ _ ∧ TD _ _ _ _ _ _ _ _ _ _ (sepL [_, _, _, _])
   refine ⟨(ent_take 2 rfl (ent_nil _)), ?_⟩
   refine TD.nil (nt ?_)
   change TC _ _ _ _ _ _ _ (sepL (RX b D { Z with S := (Rd.addS Z.S x (Z.pr x) (Z.sl x)).1, A := Al.clrA Z.A [x] } :: _))
   refine TC.open 0 rfl (fun x0 hx0 => ?_)
   obtain ⟨⟨l1, l2⟩, ⟨k1, k2⟩, ⟨a1, a2⟩, ⟨i1, i2⟩, ⟨p1, p2⟩, ⟨s1, s2⟩, ⟨u1, u2⟩, rr⟩ := x0
   have hm := hx0
   change TC _ _ _ _ _ _ _ (sepL [_, _, _, _, _, _, _, _, _, _, _])
   dsimp only [XP, List.cons_append, List.nil_append]
   change TC _ _ _ _ _ _ _ (sepL [_, _, _, _, _, _, _, _, _, _, _])
   have htl := tcsR_length D ({ Z with S := (Rd.addS Z.S x (Z.pr x) (Z.sl x)).1, A := Al.clrA Z.A [x] })
   have hgl := tgsC_length ({ Z with S := (Rd.addS Z.S x (Z.pr x) (Z.sl x)).1, A := Al.clrA Z.A [x] }).told
   refine TC.draw _ [13] [(0, false), (1, false), (2, false), (3, false), (4, false), (5, false), (6, false), (7, false), (8, false), (9, true), (10, true), (11, false), (12, false), (13, true)] (by kernel_rfl) (by kernel_rfl) (ent_take 0 rfl (ent_take 8 rfl (ent_nil _))) ?_
   refine vmp rfl rfl rfl ?_
   refine vmp rfl rfl rfl ?_
   refine vnc rfl rfl rfl ?_
   refine vfa 7 rfl rfl rfl rfl ?_
   refine vld rfl rfl rfl rfl rfl ?_
   refine vfa 0 rfl rfl rfl rfl ?_
   refine vld rfl rfl rfl rfl rfl ?_
   refine vmi rfl rfl rfl ?_
   refine dq rfl rfl rfl (bld (cs := [.int _ _, .int _ _]) rfl) ?_
   refine de rfl rfl ?_
   refine bs (cs := [.int _ _, .int _ _]) rfl ?_
   intro b3
   refine ⟨(ent_take 1 rfl (ent_take 9 rfl (ent_nil _))), ?_⟩
   refine de rfl rfl ?_
   refine ap 16 rfl rfl rfl rfl rfl (Nat.le_of_ble_eq_true rfl) (show _ = tgsC [⟨x, why⟩] from rfl) rfl (by omega) (by simp only [maxLen]; omega) ?_
   intro ad1 cap1
   refine ⟨(ent_take 2 rfl (ent_take 9 rfl (ent_nil _))), ?_⟩
   refine vnc rfl rfl rfl ?_
   refine vfa 7 rfl rfl rfl rfl ?_
   refine dl0 rfl rfl rfl ?_
   refine st (v := .slice _ _ _) (vs := [_]) 1 rfl rfl rfl rfl rfl rfl (Nat.le_of_ble_eq_true rfl) rfl ?_
   refine TD.nil (nb (nt ?_))
   refine TC.region ?_
   refine wmi rfl rfl ?_
   refine q rfl rfl (addI rfl rfl (by omega) (by omega)) ?_
   refine wai rfl rfl ?_
   refine TL.nil (nt ?_)
   exact ⟨rfl, (k + 1), (by omega), (by omega), ⟨rfl, rfl, rfl, rfl, trivial⟩, (by rw [hsn]; exact RXcl (b := b) (D := D) (T := tell1 why Z x) (⟨(l1, l2), (k1, k2), (a1, a2), (i1, i2), (p1, p2), (s1, s2), (ad1, cap1), rr⟩ : RY) hm (ent_takeE 0 rfl (by simp [tell1] <;> rfl) (by (repeat (first | refine ent_take 0 rfl ?_ | refine ent_take 1 rfl ?_ | refine ent_take 2 rfl ?_ | refine ent_take 3 rfl ?_ | refine ent_take 4 rfl ?_ | refine ent_take 5 rfl ?_ | refine ent_take 6 rfl ?_ | refine ent_take 7 rfl ?_ | refine ent_take 8 rfl ?_ | refine ent_take 9 rfl ?_)); refine ent_takeE 0 rfl (by simp [tell1, tgs_app]) ?_; exact (ent_take 3 rfl (ent_nil _)))))⟩
  ·refine al (l := [.int _ _, .int _ _, .int _ _, .bool _]) rfl rfl ?_
   intro b4
   refine ⟨(ent_take 1 rfl (ent_take 1 rfl (ent_take 7 rfl (ent_nil _)))), ?_⟩
   refine TF.of [(9, true), (10, false), (11, false), (13, true)] (by kernel_rfl) rfl ?_
   refine de rfl rfl ?_
   refine cl (xat_ok b D Z hD x) rfl (picked_nil _) (RXrd (⟨(l1, l2), (k1, k2), (a1, a2), (i1, i2), (p1, p2), (s1, s2), (u1, u2), rr⟩ : RY) hm (ent_take 1 rfl (ent_take 1 rfl (ent_take 1 rfl (ent_take 1 rfl (ent_take 1 rfl (ent_take 1 rfl (ent_take 1 rfl (ent_take 1 rfl (ent_nil _)))))))))) ?_
   intro _ _
   change ent _ _ ∧ TD _ _ _ _ _ _ _ _ _ _ (sepL [_, _, _, _, _, _, _, _, _, _])
   refine ⟨(ent_take 1 rfl (ent_take 1 rfl (ent_take 7 rfl (ent_nil _)))), ?_⟩
   rw [hi1]
   refine dq rfl rfl rfl (ixS 66 4 rfl rfl rfl (by omega) (by assumption)) ?_
   refine dq rfl rfl rfl (ldSN (vs := [.int _ _, .int _ _, .int _ _, .bool _]) 4 rfl rfl (flat_get_rec (tcR_sz Z) hi2) rfl (by decide)) ?_
   refine dl0 rfl rfl rfl ?_
   refine st (v := .agg (List.toArray ([.int _ _, .int _ _, .int _ _, .bool _]))) (vs := [.int _ _, .int _ _, .int _ _, .bool _]) 4 rfl rfl rfl rfl rfl rfl (Nat.le_of_ble_eq_true rfl) rfl ?_
   refine TD.nil (nt ?_)
   refine TC.seq ?_
   refine TC.RXc (b := b) (D := D) (⟨(l1, l2), (k1, k2), (a1, a2), (i1, i2), (p1, p2), (s1, s2), (u1, u2), rr⟩ : RY) hm PkL.p ?_
   change TC _ _ _ _ _ _ _ (sepL [_, _, _])
   refine TC.draw _ [] [(0, false), (1, false), (2, false), (3, false), (4, false), (5, true), (6, true)] (by kernel_rfl) (by kernel_rfl) (ent_take 1 rfl (ent_nil _)) ?_
   refine vmp rfl rfl rfl ?_
   refine vnc rfl rfl rfl ?_
   refine vfa 2 rfl rfl rfl rfl ?_
   refine vfa 0 rfl rfl rfl rfl ?_
   refine vld rfl rfl rfl rfl rfl ?_
   refine de rfl rfl ?_
   refine bs (cs := [.int _ _]) rfl ?_
   intro b5
   refine ⟨(ent_take 2 rfl (ent_nil _)), ?_⟩
   refine de rfl rfl ?_
   refine cl (xaclear b D Z hza (some ⟨b5, 0, none⟩) _ [x] (by simp) hzn) rfl PkL.p ⟨_, RdSI.rd (ad := some ⟨b5, 0, none⟩)⟩ ?_
   intro _ _
   change ent _ _ ∧ TD _ _ _ _ _ _ _ _ _ _ (sepL [_, _, _, _])
   refine ⟨(ent_take 2 rfl (ent_nil _)), ?_⟩
   refine TD.nil (nt ?_)
   refine TC.seq ?_
   refine TC.draw _ [] [(0, false), (1, false), (2, false), (3, false), (4, false), (5, false), (6, false), (7, false), (8, false), (9, true)] (by kernel_rfl) (by kernel_rfl) (ent_take 2 rfl (ent_nil _)) ?_
   refine vmp rfl rfl rfl ?_
   refine vnc rfl rfl rfl ?_
   refine vfa 1 rfl rfl rfl rfl ?_
   refine vfa 0 rfl rfl rfl rfl ?_
   refine vld rfl rfl rfl rfl rfl ?_
   refine vfa 1 rfl rfl rfl rfl ?_
   refine vld rfl rfl rfl rfl rfl ?_
   refine vfa 2 rfl rfl rfl rfl ?_
   refine vld rfl rfl rfl rfl rfl ?_
   refine de rfl rfl ?_
   refine cl (xqadd b D { Z with A := Al.clrA Z.A [x] } hzs x (Z.pr x) (Z.sl x)) rfl PkL.p trivial ?_
   intro _ _
   change ent _ _ ∧ TD _ _ _ _ _ _ _ _ _ _ (sepL [_, _, _, _])
   refine ⟨(ent_take 2 rfl (ent_nil _)), ?_⟩
   refine TD.nil (nt ?_)
   change TC _ _ _ _ _ _ _ (sepL (RX b D { Z with S := (Rd.addS Z.S x (Z.pr x) (Z.sl x)).1, A := Al.clrA Z.A [x] } :: _))
   refine TC.open 0 rfl (fun x0 hx0 => ?_)
   obtain ⟨⟨l1, l2⟩, ⟨k1, k2⟩, ⟨a1, a2⟩, ⟨i1, i2⟩, ⟨p1, p2⟩, ⟨s1, s2⟩, ⟨u1, u2⟩, rr⟩ := x0
   have hm := hx0
   change TC _ _ _ _ _ _ _ (sepL [_, _, _, _, _, _, _, _, _, _, _])
   dsimp only [XP, List.cons_append, List.nil_append]
   change TC _ _ _ _ _ _ _ (sepL [_, _, _, _, _, _, _, _, _, _, _])
   have htl := tcsR_length D ({ Z with S := (Rd.addS Z.S x (Z.pr x) (Z.sl x)).1, A := Al.clrA Z.A [x] })
   have hgl := tgsC_length ({ Z with S := (Rd.addS Z.S x (Z.pr x) (Z.sl x)).1, A := Al.clrA Z.A [x] }).told
   refine TC.draw _ [13] [(0, false), (1, false), (2, false), (3, false), (4, false), (5, false), (6, false), (7, false), (8, false), (9, true), (10, true), (11, false), (12, false), (13, true)] (by kernel_rfl) (by kernel_rfl) (ent_take 0 rfl (ent_take 8 rfl (ent_nil _))) ?_
   refine vmp rfl rfl rfl ?_
   refine vmp rfl rfl rfl ?_
   refine vnc rfl rfl rfl ?_
   refine vfa 7 rfl rfl rfl rfl ?_
   refine vld rfl rfl rfl rfl rfl ?_
   refine vfa 0 rfl rfl rfl rfl ?_
   refine vld rfl rfl rfl rfl rfl ?_
   refine vmi rfl rfl rfl ?_
   refine dq rfl rfl rfl (bld (cs := [.int _ _, .int _ _]) rfl) ?_
   refine de rfl rfl ?_
   refine bs (cs := [.int _ _, .int _ _]) rfl ?_
   intro b6
   refine ⟨(ent_take 1 rfl (ent_take 9 rfl (ent_nil _))), ?_⟩
   refine de rfl rfl ?_
   refine ap 16 rfl rfl rfl rfl rfl (Nat.le_of_ble_eq_true rfl) (show _ = tgsC [⟨x, why⟩] from rfl) rfl (by omega) (by simp only [maxLen]; omega) ?_
   intro ad2 cap2
   refine ⟨(ent_take 2 rfl (ent_take 9 rfl (ent_nil _))), ?_⟩
   refine vnc rfl rfl rfl ?_
   refine vfa 7 rfl rfl rfl rfl ?_
   refine dl0 rfl rfl rfl ?_
   refine st (v := .slice _ _ _) (vs := [_]) 1 rfl rfl rfl rfl rfl rfl (Nat.le_of_ble_eq_true rfl) rfl ?_
   refine TD.nil (nb (nt ?_))
   refine TC.region ?_
   refine wmi rfl rfl ?_
   refine q rfl rfl (addI rfl rfl (by omega) (by omega)) ?_
   refine wai rfl rfl ?_
   refine TL.nil (nt ?_)
   exact ⟨rfl, (k + 1), (by omega), (by omega), ⟨rfl, rfl, rfl, rfl, trivial⟩, (by rw [hsn]; exact RXcl (b := b) (D := D) (T := tell1 why Z x) (⟨(l1, l2), (k1, k2), (a1, a2), (i1, i2), (p1, p2), (s1, s2), (ad2, cap2), rr⟩ : RY) hm (ent_takeE 0 rfl (by simp [tell1] <;> rfl) (by (repeat (first | refine ent_take 0 rfl ?_ | refine ent_take 1 rfl ?_ | refine ent_take 2 rfl ?_ | refine ent_take 3 rfl ?_ | refine ent_take 4 rfl ?_ | refine ent_take 5 rfl ?_ | refine ent_take 6 rfl ?_ | refine ent_take 7 rfl ?_ | refine ent_take 8 rfl ?_ | refine ent_take 9 rfl ?_)); refine ent_takeE 0 rfl (by simp [tell1, tgs_app]) ?_; exact (ent_take 3 rfl (ent_nil _)))))⟩
 ·obtain rfl : k = l.length := by omega
  rw [List.take_length]
  refine TC.exit (et (et (eb ?_)))
  exact Ret.n () [] trivial rfl trivial (ent_take 0 rfl (ent_take 0 rfl (ent_nil _)))
set_option maxRecDepth 4000 in
set_option maxHeartbeats 1000000 in
theorem xadd_ok (b : Nat) (T : TS) (hW : WM T.m) (hi : T.m.ids.length ≤ 1000) (x : Int) (ax : Option Addr) (cx : Nat) : FSpec Tryz.prog 69 [.pointer (some ⟨b, 0, none⟩), .slice ax 1 cx] (fun F => ∃ E, RdS F E ax (ints [x])) [RX b T.m.ids T] (fun _ : Unit => .int .i64 ((addL T [x]).m.ids.length - T.m.ids.length : Int)) (fun _ => True) (fun _ => [RX b (addL T [x]).m.ids (addL T [x])]) := by
 refine FSpec.intro (rs := [.tmp 4]) (by kernel_rfl) Tryz.func69 rfl Tryz.ntmps69 (by rfl) rfl ?_
 intro F ⟨E, hF⟩
 change TC _ _ _ _ _ _ _ (sepL [_, _])
 haveI : RdSI F ax E (ints [x]) := ⟨hF⟩
 have hxl : (ints [x]).length = 1 := rfl
 refine TC.seq ?_
 refine TC.region ?_
 refine wai rfl rfl ?_
 refine TL.nil (nt ?_)
 refine TC.seq ?_
 refine TC.region ?_
 refine wai rfl rfl ?_
 refine TL.nil (nt ?_)
 refine TC.seq ?_
 refine TC.seq ?_
 refine TC.region ?_
 refine wai rfl rfl ?_
 refine TL.nil (nt ?_)
 refine TC.block ?_
 refine TC.loop (ι := Nat × TS × Int) (fun u => (u.1 = 0 ∧ u.2.1 = T ∧ u.2.2 = 0) ∨ (u.1 = 1 ∧ u.2.1 = (addL T [x]) ∧ u.2.2 = ((addL T [x]).m.ids.length - T.m.ids.length : Int))) (fun u => [(0, .pointer (some ⟨b, 0, none⟩)), (1, .slice ax 1 cx), (5, .int .i64 u.2.2), (6, .int .i64 ((u.1 : Nat) : Int))]) (fun u => sepL [RX b u.2.1.m.ids u.2.1, F]) (fun u => 1 - u.1) ⟨0, T, 0⟩ (.inl ⟨rfl, rfl, rfl⟩) ⟨rfl, rfl, rfl, rfl, trivial⟩ (ent_take 0 rfl (ent_take 0 rfl (ent_nil _))) ?_
 rintro ⟨k, r0, n⟩ hk ρ0
 dsimp only [updL] at hk ⊢
 refine TC.seq ?_
 refine TC.seq ?_
 refine TC.region ?_
 refine wmi rfl rfl ?_
 refine wms rfl rfl ?_
 refine q rfl rfl (len 3 1 rfl rfl) ?_
 refine q rfl rfl (lss rfl rfl) ?_
 refine TL.nil (nt ?_)
 refine TC.condD rfl (fun hlt => ?_) (fun hlt => ?_)
 ·obtain ⟨rfl, rfl, rfl⟩ : k = 0 ∧ r0 = T ∧ n = 0 := by
   rcases hk with h | ⟨h, _, _⟩
   ·exact h
   ·omega
  have hx0 : (ints [x])[0]? = some (.int .i64 x) := rfl
  refine TC.skip (nt ?_)
  refine TC.seq ?_
  refine TC.block ?_
  refine TC.seq ?_
  refine TC.region ?_
  refine wms rfl rfl ?_
  refine wmi rfl rfl ?_
  refine q rfl rfl (ixS 3 1 rfl rfl rfl (by omega) (by simp [ints_length] <;> omega)) ?_
  refine q rfl rfl (ldS rfl rfl (show (ints [x])[0]? = _ from rfl)) ?_
  refine q rfl rfl (geq rfl rfl) ?_
  refine wmb rfl rfl ?_
  refine TL.split 18 rfl (fun h0 => ?_) (fun h0 => ?_)
  ·have h0 := of_decide_eq_true h0
   refine qg rfl rfl rfl (mv (v := .pointer _) rfl) ?_
   refine qg rfl rfl rfl (mv (v := .slice _ _ _) rfl) ?_
   refine qg rfl rfl rfl (mv (v := .int _ _) rfl) ?_
   refine qg rfl rfl rfl (ixS 3 1 rfl rfl rfl (by omega) (by simp [ints_length] <;> omega)) ?_
   refine qg rfl rfl rfl (ldS rfl rfl (show (ints [x])[0]? = _ from rfl)) ?_
   refine eg rfl rfl ?_
   refine cl (xat_ok b r0.m.ids r0 hi x) rfl (picked_nil _) (ent_one 0 rfl) ?_
   intro _ _
   change TL _ _ _ _ _ _ _ _ (sepL [_, _])
   by_cases hy : x ∈ r0.m.ids
   ·obtain ⟨i, h1, _⟩ := atD_yes hy
    rw [h1]
    obtain ⟨hj1, hj2⟩ := add_RX0 (T := r0) (x := x) (.inl hy)
    refine qg rfl rfl rfl (lss rfl rfl) ?_
    refine q rfl rfl (pkT (v := .bool _) rfl rfl) ?_
    refine TL.nil (nt ?_)
    refine TC.condD rfl (fun hc1 => absurd hc1 (by omega)) (fun hc1 => ?_)
    refine TC.skip (nb (nt ?_))
    refine TC.region ?_
    refine wmi rfl rfl ?_
    refine q rfl rfl (addI rfl rfl (by omega) (by omega)) ?_
    refine wai rfl rfl ?_
    refine TL.nil (nt ?_)
    exact ⟨rfl, ⟨1, r0, 0⟩, (.inr ⟨rfl, hj1.symm, hj2.symm⟩), (by dsimp only; omega), ⟨rfl, rfl, rfl, rfl, trivial⟩, (ent_take 0 rfl (ent_take 0 rfl (ent_nil _)))⟩
   ·rw [atD_no hy]
    obtain ⟨hj1, hj2⟩ := add_RX (b := b) (T := r0) (x := x) (fun h => h.elim hy (by omega))
    have hca := tcs_add (T := r0) hy
    refine qg rfl rfl rfl (lss rfl rfl) ?_
    refine q rfl rfl (pkT (v := .bool _) rfl rfl) ?_
    refine TL.nil (nt ?_)
    refine TC.condD rfl (fun hc2 => ?_) (fun hc2 => absurd (by decide) hc2)
    refine TC.seq ?_
    refine TC.open 0 rfl (fun x0 hx0 => ?_)
    obtain ⟨⟨l1, l2⟩, ⟨k1, k2⟩, ⟨a1, a2⟩, ⟨i1, i2⟩, ⟨p1, p2⟩, ⟨s1, s2⟩, ⟨u1, u2⟩, rr⟩ := x0
    have hm := hx0
    change TC _ _ _ _ _ _ _ (sepL [_, _, _, _, _, _, _, _, _])
    dsimp only [XP, List.cons_append, List.nil_append]
    change TC _ _ _ _ _ _ _ (sepL [_, _, _, _, _, _, _, _, _])
    have htl := tcsR_length r0.m.ids r0
    have hgl := tgsC_length r0.told
    refine TC.draw _ [14] [(0, false), (1, false), (2, false), (3, false), (4, false), (5, false), (6, false), (7, false), (8, false), (9, false), (10, true), (11, true), (12, false), (13, false), (14, true)] (by kernel_rfl) (by kernel_rfl) (ent_take 0 rfl (ent_take 7 rfl (ent_nil _))) ?_
    refine vmp rfl rfl rfl ?_
    refine vmp rfl rfl rfl ?_
    refine vnc rfl rfl rfl ?_
    refine vfa 0 rfl rfl rfl rfl ?_
    refine vld rfl rfl rfl rfl rfl ?_
    refine vms rfl rfl rfl ?_
    refine vmi rfl rfl rfl ?_
    refine dq rfl rfl rfl (ixS 3 1 rfl rfl rfl (by omega) (by simp [ints_length] <;> omega)) ?_
    refine dq rfl rfl rfl (ldS rfl rfl (show (ints [x])[0]? = _ from rfl)) ?_
    refine dq rfl rfl rfl (bld (cs := [.int _ _, .int _ _, .int _ _, .bool _]) rfl) ?_
    refine de rfl rfl ?_
    refine bs (cs := [.int _ _, .int _ _, .int _ _, .bool _]) rfl ?_
    intro b7
    refine ⟨(ent_take 1 rfl (ent_take 8 rfl (ent_nil _))), ?_⟩
    refine de rfl rfl ?_
    refine ap 32 rfl rfl rfl rfl rfl (Nat.le_of_ble_eq_true rfl) rfl rfl (by omega) (by simp only [maxLen]; omega) ?_
    intro ad3 cap3
    refine ⟨(ent_take 2 rfl (ent_take 8 rfl (ent_nil _))), ?_⟩
    refine vnc rfl rfl rfl ?_
    refine vfa 0 rfl rfl rfl rfl ?_
    refine dl0 rfl rfl rfl ?_
    refine st (v := .slice _ _ _) (vs := [_]) 1 rfl rfl rfl rfl rfl rfl (Nat.le_of_ble_eq_true rfl) rfl ?_
    refine TD.nil (nt ?_)
    refine TC.seq ?_
    refine TC.weak (B := sepL [RX b (r0.m.ids ++ [x]) (zT r0 x), F]) (RXcl (b := b) (D := r0.m.ids ++ [x]) (T := zT r0 x) (⟨(ad3, cap3), (k1, k2), (a1, a2), (i1, i2), (p1, p2), (s1, s2), (u1, u2), rr⟩ : RY) hm (ent_takeE 0 rfl (by rw [List.length_append] <;> rfl) (by (first | refine ent_takeE 0 rfl (by rw [List.length_append, ← hca] <;> rfl) ?_ | refine ent_takeE 7 rfl (by rw [List.length_append, ← hca] <;> rfl) ?_ | refine ent_takeE 8 rfl (by rw [List.length_append, ← hca] <;> rfl) ?_); exact (ent_take 1 rfl (ent_take 1 rfl (ent_take 1 rfl (ent_take 1 rfl (ent_take 1 rfl (ent_take 1 rfl (ent_take 1 rfl (ent_nil _))))))))))) ?_
    refine TC.draw _ [] [(0, false), (1, false), (2, false), (3, false), (4, false), (5, false), (6, false), (7, true), (8, true)] (by kernel_rfl) (by kernel_rfl) (ent_take 1 rfl (ent_nil _)) ?_
    refine vmp rfl rfl rfl ?_
    refine vnc rfl rfl rfl ?_
    refine vfa 5 rfl rfl rfl rfl ?_
    refine vms rfl rfl rfl ?_
    refine vmi rfl rfl rfl ?_
    refine dq rfl rfl rfl (ixS 3 1 rfl rfl rfl (by omega) (by simp [ints_length] <;> omega)) ?_
    refine dq rfl rfl rfl (ldS rfl rfl (show (ints [x])[0]? = _ from rfl)) ?_
    refine de rfl rfl ?_
    refine bs (cs := [.int _ _]) rfl ?_
    intro b8
    refine ⟨(ent_take 2 rfl (ent_nil _)), ?_⟩
    refine de rfl rfl ?_
    refine cl (xpjoin b (r0.m.ids ++ [x]) (zT r0 x) hW hi x (some ⟨b8, 0, none⟩) _) rfl PkL.p ⟨_, RdSI.rd (ad := some ⟨b8, 0, none⟩)⟩ ?_
    intro _ _
    change ent _ _ ∧ TD _ _ _ _ _ _ _ _ _ _ (sepL [_, _, _])
    refine ⟨(ent_take 2 rfl (ent_nil _)), ?_⟩
    rw [hj1]
    refine TD.nil (nt ?_)
    refine TC.region ?_
    refine wmi rfl rfl ?_
    refine q rfl rfl (addI rfl rfl (by omega) (by omega)) ?_
    refine wai rfl rfl ?_
    refine TL.nil (nb (nt ?_))
    refine TC.region ?_
    refine wmi rfl rfl ?_
    refine q rfl rfl (addI rfl rfl (by omega) (by omega)) ?_
    refine wai rfl rfl ?_
    refine TL.nil (nt ?_)
    exact ⟨rfl, ⟨1, addL r0 [x], 1⟩, (.inr ⟨rfl, rfl, hj2.symm⟩), (by dsimp only; omega), ⟨rfl, rfl, rfl, rfl, trivial⟩, (ent_take 0 rfl (ent_take 1 rfl (ent_nil _)))⟩
  ·have h0 := of_decide_eq_false h0
   obtain ⟨hj1, hj2⟩ := add_RX0 (T := r0) (x := x) (.inr (by omega))
   refine qs rfl rfl ?_
   refine qs rfl rfl ?_
   refine qs rfl rfl ?_
   refine qs rfl rfl ?_
   refine qs rfl rfl ?_
   refine qs rfl rfl ?_
   refine qs rfl rfl ?_
   refine q rfl rfl (pkF (v := .bool _) rfl rfl) ?_
   refine TL.nil (nt ?_)
   refine TC.condF rfl ?_
   refine TC.skip (nb (nt ?_))
   refine TC.region ?_
   refine wmi rfl rfl ?_
   refine q rfl rfl (addI rfl rfl (by omega) (by omega)) ?_
   refine wai rfl rfl ?_
   refine TL.nil (nt ?_)
   exact ⟨rfl, ⟨1, r0, 0⟩, (.inr ⟨rfl, hj1.symm, hj2.symm⟩), (by dsimp only; omega), ⟨rfl, rfl, rfl, rfl, trivial⟩, (ent_take 0 rfl (ent_take 0 rfl (ent_nil _)))⟩
 ·obtain ⟨rfl, rfl, rfl⟩ : k = 1 ∧ r0 = (addL T [x]) ∧ n = ((addL T [x]).m.ids.length - T.m.ids.length : Int) := by
   rcases hk with ⟨h, _, _⟩ | h
   ·omega
   ·exact h
  refine TC.exit (et (et (eb (nt ?_))))
  refine TC.seq ?_
  refine TC.region ?_
  refine wmi rfl rfl ?_
  refine wai rfl rfl ?_
  refine TL.nil (nt ?_)
  refine TC.ret ?_
  exact Ret.i () [_] ⟨rfl, trivial⟩ rfl trivial (ent_take 0 rfl (ent_take 0 rfl (ent_nil _)))
end Go.Proofs.YtdfmfhcjnjfjbaaGreat
namespace Go.Proofs.YtdfmfhcjnjfjbaaGreat
open Go Go.QM
theorem tcs_set {T T' : TS} {D : List Int} (hn : D.Nodup) {i : Nat} {id : Int} (hi : D[i]? = some id) {o j : Nat} {vs : List Value} (ho : o = i * 4 + j) (hj : splice j vs (tcR T id) = tcR T' id) (hl : j + vs.length ≤ 4) (h : ∀ x ∈ D, x ≠ id → tcR T x = tcR T' x) : splice o vs (tcsR D T) = tcsR D T' := by
 obtain ⟨h1, h2⟩ := List.getElem?_eq_some_iff.1 hi
 have hQ : D = D.take i ++ id :: D.drop (i + 1) := by rw [← h2, ← List.drop_eq_getElem_cons h1, List.take_append_drop]
 have hp := perm_take hi
 have hne : ∀ x ∈ D.take i ++ D.drop (i + 1), x ≠ id := fun x hx e => (List.nodup_cons.1 (hp.nodup_iff.1 hn)).1 (e ▸ hx)
 have ht : (D.take i).length = i := by rw [List.length_take]; omega
 rw [tcsR, tcsR, hQ, List.flatMap_append, List.flatMap_cons, List.flatMap_append, List.flatMap_cons]
 have e1 : (D.take i).flatMap (tcR T) = (D.take i).flatMap (tcR T') := flat_congr fun x hx => h x (List.mem_of_mem_take hx) (hne x (List.mem_append.2 (.inl hx)))
 have e2 : (D.drop (i + 1)).flatMap (tcR T) = (D.drop (i + 1)).flatMap (tcR T') := flat_congr fun x hx => h x (List.mem_of_mem_drop hx) (hne x (List.mem_append.2 (.inr hx)))
 have hl2 : ((D.take i).flatMap (tcR T)).length = i * 4 := by rw [flat_length (tcR_sz T), ht]
 rw [← e1, ← e2, ← hj, ho, ← hl2, splice_r, splice_l (by rw [tcR_sz]; exact hl)]
theorem tcs_take (D : List Int) (T : TS) (k : Nat) : (tcsR D T).take (k * 4) = (D.take k).flatMap (tcR T) := flat_take (tcR_sz T) D k
theorem tcs_drop (D : List Int) (T : TS) (k : Nat) : ((tcsR D T).drop (k * 4)).take ((D.length - k) * 4) = (D.drop k).flatMap (tcR T) := by
 rw [List.take_of_length_le (by rw [List.length_drop, tcsR_length]; omega)]; exact flat_drop (tcR_sz T) D k
set_option maxRecDepth 4000 in
theorem xstart_ok (b : Nat) (T : TS) (hP : TP T []) (hb : TB T) (id pr sl : Int) : FSpec Tryz.prog 70 [.pointer (some ⟨b, 0, none⟩), .int .i64 id, .int .i64 pr, .int .i64 sl] noRd [RX b T.m.ids T] (fun _ : Unit => .int .i64 (startS T id pr sl).2) (fun _ => True) (fun _ => [RX b (startS T id pr sl).1.m.ids (startS T id pr sl).1]) := by
 refine FSpec.intro (rs := [.tmp 8]) (by kernel_rfl) Tryz.func70 rfl Tryz.ntmps70 (by rfl) rfl ?_
 intro F _
 change TC _ _ _ _ _ _ _ (sepL [_, _])
 obtain ⟨hSl, hAl, _, hil⟩ := hP.bds hb
 have hW := hP.wm
 have hnow := hb.now
 have htn := hb.tn
 have htold := hb.told
 have hNS := hP.rj.nd
 have hNA := hP.na
 refine TC.seq ?_
 refine TC.region ?_
 refine wai rfl rfl ?_
 refine TL.nil (nt ?_)
 refine TC.seq ?_
 refine TC.region ?_
 refine wmp rfl rfl ?_
 refine wmi rfl rfl ?_
 refine e rfl ?_
 refine cl (xat_ok b T.m.ids T hil id) rfl (picked_nil _) (ent_one 0 rfl) ?_
 intro _ _
 change TL _ _ _ _ _ _ _ _ (sepL [_, _])
 by_cases h : id ∈ T.m.ids
 ·obtain ⟨i, g1, g2⟩ := atD_yes h
  rw [g1]
  have g3 := (List.getElem?_eq_some_iff.1 g2).1
  have hh : ¬ id ∉ T.m.ids := fun h2 => h2 h
  refine wai rfl rfl ?_
  refine TL.nil (nt ?_)
  refine TC.seq ?_
  refine TC.seq ?_
  refine TC.region ?_
  refine wmi rfl rfl ?_
  refine q rfl rfl (lss rfl rfl) ?_
  refine TL.nil (nt ?_)
  refine TC.condD rfl (fun hc2 => absurd hc2 (by omega)) (fun hc2 => ?_)
  refine TC.skip (nt ?_)
  refine TC.seq ?_
  refine TC.seq ?_
  refine TC.region ?_
  refine wmi rfl rfl ?_
  refine wmi rfl rfl ?_
  refine e rfl ?_
  refine cl (Rd.may_ok 0 pr sl) rfl (picked_nil _) trivial ?_
  intro _ _
  change TL _ _ _ _ _ _ _ _ (sepL [_, _])
  refine q rfl rfl (notD rfl) ?_
  refine TL.nil (nt ?_)
  by_cases hbad : pr < 0 ∨ 7 < pr ∨ sl < 1 ∨ 16 < sl
  ·have hv : startS T id pr sl = (T, 1) := by rw [startS, if_neg hh, if_pos hbad]
   rw [hv]
   refine TC.condD rfl (fun hc3 => ?_) (fun hc3 => absurd (fun h2 => h2 (.inr hbad)) hc3)
   refine TC.seq ?_
   refine TC.region ?_
   refine wai rfl rfl ?_
   refine TL.nil (nt ?_)
   refine TC.ret (rt ?_)
   exact Ret.i () [_] ⟨rfl, trivial⟩ rfl trivial (ent_take 0 rfl (ent_take 0 rfl (ent_nil _)))
  ·refine TC.condD rfl (fun hc4 => absurd hc4 (fun h2 => h2 (fun h3 => h3.elim (by decide) hbad))) (fun hc4 => ?_)
   refine TC.skip (nt ?_)
   refine TC.seq ?_
   refine TC.seq ?_
   refine TC.open 0 rfl (fun x0 hx0 => ?_)
   obtain ⟨⟨l1, l2⟩, ⟨k1, k2⟩, ⟨a1, a2⟩, ⟨i1, i2⟩, ⟨p1, p2⟩, ⟨s1, s2⟩, ⟨u1, u2⟩, rr⟩ := x0
   have hm := hx0
   change TC _ _ _ _ _ _ _ (sepL [_, _, _, _, _, _, _, _, _])
   dsimp only [XP, List.cons_append, List.nil_append]
   change TC _ _ _ _ _ _ _ (sepL [_, _, _, _, _, _, _, _, _])
   have htl := tcsR_length T.m.ids T
   have hgl := tgsC_length T.told
   have hpos : 0 < (tcsR T.m.ids T).length := by omega
   refine TC.region ?_
   refine wmp rfl rfl ?_
   refine wnc rfl rfl ?_
   refine wfa 0 rfl rfl rfl ?_
   refine wld rfl rfl rfl rfl ?_
   refine wmi rfl rfl ?_
   refine q rfl rfl (ixS 66 4 rfl rfl rfl (by omega) (by assumption)) ?_
   refine q rfl rfl (faS 3 rfl rfl (by assumption)) ?_
   refine q rfl rfl (ldS rfl rfl (flat_ld (tcR_sz T) g2 3 (by omega) rfl)) ?_
   refine TL.nil (nt ?_)
   refine TC.cond rfl (fun hon => ?_) (fun hon => ?_)
   ·have hv : startS T id pr sl = (T, 12) := by rw [startS, if_neg hh, if_neg hbad, if_pos hon]
    rw [hv]
    refine TC.seq ?_
    refine TC.region ?_
    refine wai rfl rfl ?_
    refine TL.nil (nt ?_)
    refine TC.ret (rt ?_)
    exact Ret.i () [_] ⟨rfl, trivial⟩ rfl trivial (RXcl (b := b) (D := T.m.ids) (T := T) (⟨(l1, l2), (k1, k2), (a1, a2), (i1, i2), (p1, p2), (s1, s2), (u1, u2), rr⟩ : RY) hm (ent_take 0 rfl (ent_take 0 rfl (ent_take 0 rfl (ent_take 0 rfl (ent_take 0 rfl (ent_take 0 rfl (ent_take 0 rfl (ent_take 0 rfl (ent_take 0 rfl (ent_nil _)))))))))))
   ·have hv : startS T id pr sl = ({ T with S := (Rd.addS T.S id pr sl).1, pr := updI T.pr id pr, sl := updI T.sl id sl, on := updI T.on id true }, (Rd.addS T.S id pr sl).2) := by rw [startS, if_neg hh, if_neg hbad, if_neg (by rw [hon]; decide)]
    rw [hv]
    dsimp only
    have hst : ∀ o, o = i * 4 → splice o [.int .i64 id, .int .i64 pr, .int .i64 sl, .bool true] (tcsR T.m.ids T) = tcsR T.m.ids { T with pr := updI T.pr id pr, sl := updI T.sl id sl, on := updI T.on id true } := fun o ho => tcs_set hW.nd g2 (j := 0) (by omega) (by rw [tcR, tcR]; dsimp only; rw [updI_same, updI_same, updI_same]; rfl) (Nat.le_of_ble_eq_true rfl) (fun x _ hx => by rw [tcR, tcR]; dsimp only; rw [updI_ne hx, updI_ne hx, updI_ne hx])
    refine TC.skip (nt ?_)
    refine TC.seq ?_
    refine TC.region ?_
    refine wmp rfl rfl ?_
    refine wnc rfl rfl ?_
    refine wfa 0 rfl rfl rfl ?_
    refine wld rfl rfl rfl rfl ?_
    refine wmi rfl rfl ?_
    refine wmi rfl rfl ?_
    refine wmi rfl rfl ?_
    refine wmi rfl rfl ?_
    refine q rfl rfl (bld (cs := [.int _ _, .int _ _, .int _ _, .bool _]) rfl) ?_
    refine q rfl rfl (ixS 66 4 rfl rfl rfl (by omega) (by assumption)) ?_
    refine e0 ?_
    refine QM.stS (v := .agg (List.toArray ([.int _ _, .int _ _, .int _ _, .bool _]))) (vs := [.int _ _, .int _ _, .int _ _, .bool _]) 4 rfl rfl rfl rfl rfl rfl (by decide) (by omega) (hst _ (by omega)) ?_
    refine TL.nil (nt ?_)
    refine TC.seq ?_
    refine TC.weak (B := sepL [RX b T.m.ids ({ T with pr := updI T.pr id pr, sl := updI T.sl id sl, on := updI T.on id true }), F]) (RXcl (b := b) (D := T.m.ids) (T := { T with pr := updI T.pr id pr, sl := updI T.sl id sl, on := updI T.on id true }) (⟨(l1, l2), (k1, k2), (a1, a2), (i1, i2), (p1, p2), (s1, s2), (u1, u2), rr⟩ : RY) hm (ent_take 1 rfl (ent_take 0 rfl (ent_take 0 rfl (ent_take 0 rfl (ent_take 0 rfl (ent_take 0 rfl (ent_take 0 rfl (ent_take 0 rfl (ent_take 0 rfl (ent_nil _))))))))))) ?_
    refine TC.region ?_
    refine wmp rfl rfl ?_
    refine wnc rfl rfl ?_
    refine wfa 1 rfl rfl rfl ?_
    refine wmi rfl rfl ?_
    refine wmi rfl rfl ?_
    refine wmi rfl rfl ?_
    refine e rfl ?_
    refine cl (xqadd b T.m.ids { T with pr := updI T.pr id pr, sl := updI T.sl id sl, on := updI T.on id true } (by show T.S.length ≤ _; omega) id pr sl) rfl PkL.p trivial ?_
    intro _ _
    change TL _ _ _ _ _ _ _ _ (sepL [_, _])
    refine wai rfl rfl ?_
    refine TL.nil (nt ?_)
    refine TC.ret ?_
    exact Ret.i () [_] ⟨rfl, trivial⟩ rfl trivial (ent_take 0 rfl (ent_take 0 rfl (ent_nil _)))
 ·rw [atD_no h]
  have hv : startS T id pr sl = (T, 6) := if_pos h
  rw [hv]
  refine wai rfl rfl ?_
  refine TL.nil (nt ?_)
  refine TC.seq ?_
  refine TC.seq ?_
  refine TC.region ?_
  refine wmi rfl rfl ?_
  refine q rfl rfl (lss rfl rfl) ?_
  refine TL.nil (nt ?_)
  refine TC.condD rfl (fun hc1 => ?_) (fun hc1 => absurd (by decide) hc1)
  refine TC.seq ?_
  refine TC.region ?_
  refine wai rfl rfl ?_
  refine TL.nil (nt ?_)
  refine TC.ret (rt ?_)
  exact Ret.i () [_] ⟨rfl, trivial⟩ rfl trivial (ent_take 0 rfl (ent_take 0 rfl (ent_nil _)))
set_option maxRecDepth 4000 in
theorem xstop_ok (b : Nat) (T : TS) (hP : TP T []) (hb : TB T) (id : Int) : FSpec Tryz.prog 71 [.pointer (some ⟨b, 0, none⟩), .int .i64 id] noRd [RX b T.m.ids T] (fun _ : Unit => .int .i64 (stopS T id).2) (fun _ => True) (fun _ => [RX b (stopS T id).1.m.ids (stopS T id).1]) := by
 refine FSpec.intro (rs := [.tmp 4]) (by kernel_rfl) Tryz.func71 rfl Tryz.ntmps71 (by rfl) rfl ?_
 intro F _
 change TC _ _ _ _ _ _ _ (sepL [_, _])
 obtain ⟨hSl, hAl, _, hil⟩ := hP.bds hb
 have hW := hP.wm
 have hnow := hb.now
 have htn := hb.tn
 have htold := hb.told
 have hNS := hP.rj.nd
 have hNA := hP.na
 refine TC.seq ?_
 refine TC.region ?_
 refine wai rfl rfl ?_
 refine TL.nil (nt ?_)
 refine TC.seq ?_
 refine TC.region ?_
 refine wmp rfl rfl ?_
 refine wmi rfl rfl ?_
 refine e rfl ?_
 refine cl (xat_ok b T.m.ids T hil id) rfl (picked_nil _) (ent_one 0 rfl) ?_
 intro _ _
 change TL _ _ _ _ _ _ _ _ (sepL [_, _])
 by_cases h : id ∈ T.m.ids
 ·obtain ⟨i, g1, g2⟩ := atD_yes h
  rw [g1]
  have g3 := (List.getElem?_eq_some_iff.1 g2).1
  have hh : ¬ id ∉ T.m.ids := fun h2 => h2 h
  refine wai rfl rfl ?_
  refine TL.nil (nt ?_)
  refine TC.seq ?_
  refine TC.seq ?_
  refine TC.region ?_
  refine wmi rfl rfl ?_
  refine q rfl rfl (lss rfl rfl) ?_
  refine TL.nil (nt ?_)
  refine TC.condD rfl (fun hc6 => absurd hc6 (by omega)) (fun hc6 => ?_)
  refine TC.skip (nt ?_)
  refine TC.seq ?_
  refine TC.seq ?_
  refine TC.open 0 rfl (fun x0 hx0 => ?_)
  obtain ⟨⟨l1, l2⟩, ⟨k1, k2⟩, ⟨a1, a2⟩, ⟨i1, i2⟩, ⟨p1, p2⟩, ⟨s1, s2⟩, ⟨u1, u2⟩, rr⟩ := x0
  have hm := hx0
  change TC _ _ _ _ _ _ _ (sepL [_, _, _, _, _, _, _, _, _])
  dsimp only [XP, List.cons_append, List.nil_append]
  change TC _ _ _ _ _ _ _ (sepL [_, _, _, _, _, _, _, _, _])
  have htl := tcsR_length T.m.ids T
  have hgl := tgsC_length T.told
  have hpos : 0 < (tcsR T.m.ids T).length := by omega
  refine TC.region ?_
  refine wmp rfl rfl ?_
  refine wnc rfl rfl ?_
  refine wfa 0 rfl rfl rfl ?_
  refine wld rfl rfl rfl rfl ?_
  refine wmi rfl rfl ?_
  refine q rfl rfl (ixS 66 4 rfl rfl rfl (by omega) (by assumption)) ?_
  refine q rfl rfl (faS 3 rfl rfl (by assumption)) ?_
  refine q rfl rfl (ldS rfl rfl (flat_ld (tcR_sz T) g2 3 (by omega) rfl)) ?_
  refine q rfl rfl (notB rfl) ?_
  refine TL.nil (nt ?_)
  refine TC.cond rfl (fun hon => ?_) (fun hon => ?_)
  ·have hv : stopS T id = (T, 12) := by rw [stopS, if_neg hh, if_pos (by simpa using hon)]
   rw [hv]
   refine TC.seq ?_
   refine TC.region ?_
   refine wai rfl rfl ?_
   refine TL.nil (nt ?_)
   refine TC.ret (rt ?_)
   exact Ret.i () [_] ⟨rfl, trivial⟩ rfl trivial (RXcl (b := b) (D := T.m.ids) (T := T) (⟨(l1, l2), (k1, k2), (a1, a2), (i1, i2), (p1, p2), (s1, s2), (u1, u2), rr⟩ : RY) hm (ent_take 0 rfl (ent_take 0 rfl (ent_take 0 rfl (ent_take 0 rfl (ent_take 0 rfl (ent_take 0 rfl (ent_take 0 rfl (ent_take 0 rfl (ent_take 0 rfl (ent_nil _)))))))))))
  ·refine TC.skip (nt ?_)
   refine TC.seq ?_
   have hon2 : T.on id = true := by simpa using hon
   have hv : stopS T id = ({ T with S := Rd.dropS T.S [id], A := Al.clrA T.A [id], m := (callS T.m id).1, on := updI T.on id false }, 0) := by rw [stopS, if_neg hh, if_neg (fun h2 => h2 hon2)]
   rw [hv]
   dsimp only
   refine TC.RXc (b := b) (D := T.m.ids) (⟨(l1, l2), (k1, k2), (a1, a2), (i1, i2), (p1, p2), (s1, s2), (u1, u2), rr⟩ : RY) hm PkL.p ?_
   change TC _ _ _ _ _ _ _ (sepL [_, _])
   refine TC.region ?_
   refine wmp rfl rfl ?_
   refine wnc rfl rfl ?_
   refine wfa 5 rfl rfl rfl ?_
   refine wmi rfl rfl ?_
   refine e rfl ?_
   refine cl (xpcall b T.m.ids T hW hil id) rfl PkL.p trivial ?_
   intro _ _
   change TL _ _ _ _ _ _ _ _ (sepL [_, _])
   have hi9 := call_ids T.m id
   generalize (callS T.m id).1 = m9 at hi9 ⊢
   refine TL.nil (nt ?_)
   refine TC.seq ?_
   refine TC.region ?_
   refine wmp rfl rfl ?_
   refine wnc rfl rfl ?_
   refine wfa 2 rfl rfl rfl ?_
   refine wmi rfl rfl ?_
   refine e rfl ?_
   refine bs (cs := [.int _ _]) rfl ?_
   intro b1
   refine e rfl ?_
   refine cl (xaclear b T.m.ids (mS T m9) (by show T.A.length ≤ _; omega) (some ⟨b1, 0, none⟩) _ [id] (by simp) hNA) rfl PkL.p ⟨_, RdSI.rd (ad := some ⟨b1, 0, none⟩)⟩ ?_
   intro _ _
   change TL _ _ _ _ _ _ _ _ (sepL [_, _, _])
   change TL _ _ _ _ _ _ _ _ (sepL (RX b T.m.ids { T with A := Al.clrA T.A [id], m := m9 } :: _))
   refine TL.nil (nt ?_)
   refine TC.seq ?_
   refine TC.region ?_
   refine wmp rfl rfl ?_
   refine wmi rfl rfl ?_
   refine e rfl ?_
   refine cl (xout_ok b T.m.ids { T with A := Al.clrA T.A [id], m := m9 } (by show T.S.length ≤ _; omega) (Nat.le_trans (clr_len T.A [id]) (by omega)) hNS id 0) rfl PkL.p trivial ?_
   intro _ _
   change TL _ _ _ _ _ _ _ _ (sepL [_, _, _])
   rw [show blockS { T with A := Al.clrA T.A [id], m := m9 } id 0 = { T with S := Rd.dropS T.S [id], A := Al.clrA T.A [id], m := m9 } from if_neg (by decide)]
   refine TL.nil (nt ?_)
   refine TC.seq ?_
   refine TC.open 0 rfl (fun x0 hx0 => ?_)
   obtain ⟨⟨l1, l2⟩, ⟨k1, k2⟩, ⟨a1, a2⟩, ⟨i1, i2⟩, ⟨p1, p2⟩, ⟨s1, s2⟩, ⟨u1, u2⟩, rr⟩ := x0
   have hm := hx0
   change TC _ _ _ _ _ _ _ (sepL [_, _, _, _, _, _, _, _, _, _])
   dsimp only [XP, List.cons_append, List.nil_append]
   change TC _ _ _ _ _ _ _ (sepL [_, _, _, _, _, _, _, _, _, _])
   have htl := tcsR_length T.m.ids ({ T with S := Rd.dropS T.S [id], A := Al.clrA T.A [id], m := m9 })
   have hgl := tgsC_length ({ T with S := Rd.dropS T.S [id], A := Al.clrA T.A [id], m := m9 }).told
   have hpos3 : 0 < (tcsR T.m.ids { T with S := Rd.dropS T.S [id], A := Al.clrA T.A [id], m := m9 }).length := by omega
   have hst : ∀ o, o = i * 4 + 3 → splice o [.bool false] (tcsR T.m.ids { T with S := Rd.dropS T.S [id], A := Al.clrA T.A [id], m := m9 }) = tcsR T.m.ids { T with S := Rd.dropS T.S [id], A := Al.clrA T.A [id], m := m9, on := updI T.on id false } := fun o ho => tcs_set hW.nd g2 ho (by rw [tcR, tcR]; dsimp only; rw [updI_same]; rfl) (by decide) (fun x _ hx => by rw [tcR, tcR]; dsimp only; rw [updI_ne hx])
   refine TC.region ?_
   refine wmp rfl rfl ?_
   refine wnc rfl rfl ?_
   refine wfa 0 rfl rfl rfl ?_
   refine wld rfl rfl rfl rfl ?_
   refine wmi rfl rfl ?_
   refine q rfl rfl (ixS 66 4 rfl rfl rfl (by omega) (by assumption)) ?_
   refine q rfl rfl (faS 3 rfl rfl (by assumption)) ?_
   refine e0 ?_
   refine QM.stS (v := .bool _) (vs := [_]) 1 rfl rfl rfl rfl rfl rfl (by decide) (by omega) (hst _ (by omega)) ?_
   refine TL.nil (nt ?_)
   refine TC.seq ?_
   refine TC.region ?_
   refine wai rfl rfl ?_
   refine TL.nil (nt ?_)
   refine TC.ret ?_
   rw [hi9]
   exact Ret.i () [_] ⟨rfl, trivial⟩ rfl trivial (RXcl (b := b) (D := T.m.ids) (T := { T with S := Rd.dropS T.S [id], A := Al.clrA T.A [id], m := m9, on := updI T.on id false }) (⟨(l1, l2), (k1, k2), (a1, a2), (i1, i2), (p1, p2), (s1, s2), (u1, u2), rr⟩ : RY) hm (ent_take 1 rfl (ent_take 0 rfl (ent_take 0 rfl (ent_take 0 rfl (ent_take 0 rfl (ent_take 0 rfl (ent_take 0 rfl (ent_take 0 rfl (ent_take 1 rfl (ent_nil _)))))))))))
 ·rw [atD_no h]
  have hv : stopS T id = (T, 6) := if_pos h
  rw [hv]
  refine wai rfl rfl ?_
  refine TL.nil (nt ?_)
  refine TC.seq ?_
  refine TC.seq ?_
  refine TC.region ?_
  refine wmi rfl rfl ?_
  refine q rfl rfl (lss rfl rfl) ?_
  refine TL.nil (nt ?_)
  refine TC.condD rfl (fun hc5 => ?_) (fun hc5 => absurd (by decide) hc5)
  refine TC.seq ?_
  refine TC.region ?_
  refine wai rfl rfl ?_
  refine TL.nil (nt ?_)
  refine TC.ret (rt ?_)
  exact Ret.i () [_] ⟨rfl, trivial⟩ rfl trivial (ent_take 0 rfl (ent_take 0 rfl (ent_nil _)))
set_option maxRecDepth 4000 in
set_option maxHeartbeats 1000000 in
theorem xremove_ok (b : Nat) (T : TS) (hP : TP T []) (hb : TB T) (id : Int) (hto : T.told.length ≤ 90000000) : FSpec Tryz.prog 72 [.pointer (some ⟨b, 0, none⟩), .int .i64 id] noRd [RX b T.m.ids T] (fun _ : Unit => .int .i64 (removeS T id).2) (fun _ => True) (fun _ => [RX b (removeS T id).1.m.ids (removeS T id).1]) := by
 refine FSpec.intro (rs := [.tmp 4]) (by kernel_rfl) Tryz.func72 rfl Tryz.ntmps72 (by rfl) rfl ?_
 intro F _
 change TC _ _ _ _ _ _ _ (sepL [_, _])
 obtain ⟨hSl, hAl, _, hil⟩ := hP.bds hb
 have hW := hP.wm
 have hnow := hb.now
 have htn := hb.tn
 have htold := hb.told
 have hNS := hP.rj.nd
 have hNA := hP.na
 refine TC.seq ?_
 refine TC.region ?_
 refine wai rfl rfl ?_
 refine TL.nil (nt ?_)
 refine TC.seq ?_
 refine TC.region ?_
 refine wmp rfl rfl ?_
 refine wmi rfl rfl ?_
 refine e rfl ?_
 refine cl (xat_ok b T.m.ids T hil id) rfl (picked_nil _) (ent_one 0 rfl) ?_
 intro _ _
 change TL _ _ _ _ _ _ _ _ (sepL [_, _])
 by_cases h : id ∈ T.m.ids
 ·obtain ⟨i, g1, g2⟩ := atD_yes h
  rw [g1]
  have g3 := (List.getElem?_eq_some_iff.1 g2).1
  have hv : removeS T id = (tellS (outS T id) 13 (leaveS T.m id).2.1, 0) := if_neg (fun h2 => h2 h)
  rw [hv]
  dsimp only
  have hPo := hP.out h
  have hgi := fun x (hx : x ∈ (leaveS T.m id).2.1) => (hPo.L1 x hx).1
  have hgl := hPo.lenL
  have hSo := hPo.lenS
  have hAo := hPo.lenA
  have hids := leave_ids h
  have hol : (leaveS T.m id).1.ids.length ≤ 1000 := by rw [hids]; exact Nat.le_trans (List.length_filter_le _ _) hil
  have hom : (outS T id).m = (leaveS T.m id).1 := rfl
  rw [hom] at hgi hgl hSo hAo
  have hdd := hids.trans (drop_D hW.nd g2)
  rw [show (tellS (outS T id) 13 (leaveS T.m id).2.1).m.ids = (leaveS T.m id).1.ids from by rw [(tell_m _ _ _).1]; rfl]
  have hGi := ints_length (leaveS T.m id).2.1
  refine wai rfl rfl ?_
  refine TL.nil (nt ?_)
  refine TC.seq ?_
  refine TC.seq ?_
  refine TC.region ?_
  refine wmi rfl rfl ?_
  refine q rfl rfl (lss rfl rfl) ?_
  refine TL.nil (nt ?_)
  refine TC.condD rfl (fun hc8 => absurd hc8 (by omega)) (fun hc8 => ?_)
  refine TC.skip (nt ?_)
  refine TC.seq ?_
  refine TC.region ?_
  refine wmp rfl rfl ?_
  refine wnc rfl rfl ?_
  refine wfa 5 rfl rfl rfl ?_
  refine wmi rfl rfl ?_
  refine e rfl ?_
  refine cl (xpleave b T.m.ids T hW hil id) rfl PkL.p trivial ?_
  intro yl _
  change TL _ _ _ _ _ _ _ _ (sepL [_, _, _])
  refine wmt rfl rfl ?_
  refine q rfl rfl (pu (v := .slice _ _ _) (fun _ => rfl)) ?_
  refine q rfl rfl (pu (v := .int _ _) (fun _ => rfl)) ?_
  refine was rfl rfl ?_
  refine wai rfl rfl ?_
  refine TL.nil (nt ?_)
  refine TC.seq ?_
  refine TC.region ?_
  refine wmp rfl rfl ?_
  refine wnc rfl rfl ?_
  refine wfa 2 rfl rfl rfl ?_
  refine wmi rfl rfl ?_
  refine e rfl ?_
  refine bs (cs := [.int _ _]) rfl ?_
  intro b2
  refine e rfl ?_
  refine cl (xaclear b T.m.ids (mS T (leaveS T.m id).1) (by show T.A.length ≤ _; omega) (some ⟨b2, 0, none⟩) _ [id] (by simp) hNA) rfl PkL.p ⟨_, RdSI.rd (ad := some ⟨b2, 0, none⟩)⟩ ?_
  intro _ _
  change TL _ _ _ _ _ _ _ _ (sepL [_, _, _, _])
  change TL _ _ _ _ _ _ _ _ (sepL (RX b T.m.ids { T with A := Al.clrA T.A [id], m := (leaveS T.m id).1 } :: _))
  refine TL.nil (nt ?_)
  refine TC.seq ?_
  refine TC.region ?_
  refine wmp rfl rfl ?_
  refine wmi rfl rfl ?_
  refine e rfl ?_
  refine cl (xout_ok b T.m.ids { T with A := Al.clrA T.A [id], m := (leaveS T.m id).1 } (by show T.S.length ≤ _; omega) (Nat.le_trans (clr_len T.A [id]) (by omega)) hNS id 0) rfl PkL.p trivial ?_
  intro _ _
  change TL _ _ _ _ _ _ _ _ (sepL [_, _, _, _])
  rw [show blockS { T with A := Al.clrA T.A [id], m := (leaveS T.m id).1 } id 0 = outS T id from if_neg (by decide)]
  refine TL.nil (nt ?_)
  refine TC.seq ?_
  refine TC.open 0 rfl (fun x0 hx0 => ?_)
  obtain ⟨⟨l1, l2⟩, ⟨k1, k2⟩, ⟨a1, a2⟩, ⟨i1, i2⟩, ⟨p1, p2⟩, ⟨s1, s2⟩, ⟨u1, u2⟩, rr⟩ := x0
  have hm := hx0
  change TC _ _ _ _ _ _ _ (sepL [_, _, _, _, _, _, _, _, _, _, _])
  dsimp only [XP, List.cons_append, List.nil_append]
  change TC _ _ _ _ _ _ _ (sepL [_, _, _, _, _, _, _, _, _, _, _])
  have htl := tcsR_length T.m.ids (outS T id)
  have hgl := tgsC_length (outS T id).told
  refine TC.factSlc 1 rfl (fun _ hc1 _ => ?_)
  haveI : OffI (tcsR T.m.ids (outS T id)) l2 (i + 1) 4 := ⟨T.m.ids.length, by omega, by omega, hc1⟩
  have hpos2 : 0 < (tcsR T.m.ids (outS T id)).length := by omega
  refine TC.draw _ [19] [(0, false), (2, false), (3, false), (4, false), (5, false), (6, false), (7, false), (9, false), (10, false), (11, false), (12, false), (13, false), (14, false), (15, false), (1, true), (8, true), (16, true), (17, false), (18, false), (19, true)] (by kernel_rfl) (by kernel_rfl) (ent_take 0 rfl (ent_take 0 rfl (ent_nil _))) ?_
  refine vmp rfl rfl rfl ?_
  refine vmp rfl rfl rfl ?_
  refine vnc rfl rfl rfl ?_
  refine vfa 0 rfl rfl rfl rfl ?_
  refine vld rfl rfl rfl rfl rfl ?_
  refine vmi rfl rfl rfl ?_
  refine dq rfl rfl rfl (slTn 66 4 (i) rfl rfl rfl (by omega) (by omega)) ?_
  refine vmp rfl rfl rfl ?_
  refine vnc rfl rfl rfl ?_
  refine vfa 0 rfl rfl rfl rfl ?_
  refine vld rfl rfl rfl rfl rfl ?_
  refine vmi rfl rfl rfl ?_
  refine dq rfl rfl rfl (addI rfl rfl (by omega) (by omega)) ?_
  refine dq rfl rfl rfl (slFn 66 4 (i + 1) rfl rfl rfl (by omega) (by omega)) ?_
  refine de rfl rfl ?_
  refine bs (cs := []) rfl ?_
  intro b3
  refine ⟨(ent_take 1 rfl (ent_take 1 rfl (ent_nil _))), ?_⟩
  refine de rfl rfl ?_
  refine ap 32 rfl rfl rfl rfl rfl (by omega) (tcs_take T.m.ids (outS T id) i) (flat_one (tcR_one (outS T id)) _) (by omega) (by simp only [maxLen]; omega) ?_
  intro ad1 cap1
  refine ⟨(ent_take 1 rfl (ent_take 1 rfl (ent_nil _))), ?_⟩
  refine de rfl rfl ?_
  refine ap 32 rfl rfl rfl rfl rfl (by rw [List.length_drop]; omega) (tcs_drop T.m.ids (outS T id) (i + 1)) (flat_one (tcR_one (outS T id)) _) (by omega) (by simp only [maxLen]; omega) ?_
  intro ad2 cap2
  refine ⟨(ent_take 1 rfl (ent_take 1 rfl (ent_nil _))), ?_⟩
  refine vnc rfl rfl rfl ?_
  refine vfa 0 rfl rfl rfl rfl ?_
  refine dl0 rfl rfl rfl ?_
  refine st (v := .slice _ _ _) (vs := [_]) 1 rfl rfl rfl rfl rfl rfl (Nat.le_of_ble_eq_true rfl) rfl ?_
  refine TD.nil (nt ?_)
  refine TC.seq ?_
  have hDn : (leaveS T.m id).1.ids.length = 0 + i + (T.m.ids.length - (i + 1)) := by rw [hdd, List.length_append, List.length_take, List.length_drop]; omega
  have hDt : tcsR (leaveS T.m id).1.ids (outS T id) = (T.m.ids.take i).flatMap (tcR (outS T id)) ++ (T.m.ids.drop (i + 1)).flatMap (tcR (outS T id)) := by rw [tcsR, hdd, List.flatMap_append]
  refine TC.weak (B := sepL [RX b (leaveS T.m id).1.ids (outS T id), slc 3 1 yl.1 (leaveS T.m id).2.1.length yl.2 (ints (leaveS T.m id).2.1), F]) (RXcl (b := b) (D := (leaveS T.m id).1.ids) (T := outS T id) (⟨(ad2, cap2), (k1, k2), (a1, a2), (i1, i2), (p1, p2), (s1, s2), (u1, u2), rr⟩ : RY) hm (ent_takeE 0 rfl (by rw [hDn] <;> rfl) (ent_takeE 0 rfl (by rw [hDn, hDt, List.nil_append] <;> rfl) (ent_take 1 rfl (ent_take 1 rfl (ent_take 1 rfl (ent_take 1 rfl (ent_take 1 rfl (ent_take 1 rfl (ent_take 2 rfl (ent_take 2 rfl (ent_nil _)))))))))))) ?_
  refine TC.region ?_
  refine wmp rfl rfl ?_
  refine wms rfl rfl ?_
  refine e rfl ?_
  refine cl (xsay_ok b (leaveS T.m id).1.ids (outS T id) hol 13 yl.1 yl.2 (leaveS T.m id).2.1 hgi (by omega) (by omega) hPo.na (by show T.told.length + _ ≤ _; omega)) rfl PkL.p ⟨_, RdSI.rd (ad := yl.1)⟩ ?_
  intro _ _
  change TL _ _ _ _ _ _ _ _ (sepL [_, _, _])
  refine TL.nil (nt ?_)
  refine TC.seq ?_
  refine TC.region ?_
  refine wai rfl rfl ?_
  refine TL.nil (nt ?_)
  refine TC.ret ?_
  exact Ret.i () [_] ⟨rfl, trivial⟩ rfl trivial (ent_take 0 rfl (ent_take 1 rfl (ent_nil _)))
 ·rw [atD_no h]
  have hv : removeS T id = (T, 6) := if_pos h
  rw [hv]
  refine wai rfl rfl ?_
  refine TL.nil (nt ?_)
  refine TC.seq ?_
  refine TC.seq ?_
  refine TC.region ?_
  refine wmi rfl rfl ?_
  refine q rfl rfl (lss rfl rfl) ?_
  refine TL.nil (nt ?_)
  refine TC.condD rfl (fun hc7 => ?_) (fun hc7 => absurd (by decide) hc7)
  refine TC.seq ?_
  refine TC.region ?_
  refine wai rfl rfl ?_
  refine TL.nil (nt ?_)
  refine TC.ret (rt ?_)
  exact Ret.i () [_] ⟨rfl, trivial⟩ rfl trivial (ent_take 0 rfl (ent_take 0 rfl (ent_nil _)))
end Go.Proofs.YtdfmfhcjnjfjbaaGreat
namespace Go.Proofs.YtdfmfhcjnjfjbaaGreat
open Go Go.QM
theorem block_m (T : TS) (id ticks : Int) : (blockS T id ticks).m = T.m := (block_f T id ticks).1
theorem tells_m (why : Int) (l : List Int) (T : TS) : (tellS T why l).m = T.m := (tell_m why l T).1
set_option maxRecDepth 4000 in
set_option maxHeartbeats 1000000 in
theorem xsend_ok (b : Nat) (T : TS) (hP : TP T []) (hb : TB T) (fr to gt : Int) (cv : Bool) (ticks : Int) : FSpec Tryz.prog 73 [.pointer (some ⟨b, 0, none⟩), .int .i64 fr, .int .i64 to, .int .i64 gt, .bool cv, .int .i64 ticks] noRd [RX b T.m.ids T] (fun _ : Unit => .int .i64 (sendS T fr to gt cv ticks).2) (fun _ => True) (fun _ => [RX b (sendS T fr to gt cv ticks).1.m.ids (sendS T fr to gt cv ticks).1]) := by
 refine FSpec.intro (rs := [.tmp 12]) (by kernel_rfl) Tryz.func73 rfl Tryz.ntmps73 (by rfl) rfl ?_
 intro F _
 change TC _ _ _ _ _ _ _ (sepL [_, _])
 obtain ⟨hSl, hAl, _, hil⟩ := hP.bds hb
 have hW := hP.wm
 have hnow := hb.now
 have htn := hb.tn
 have htold := hb.told
 have hNS := hP.rj.nd
 have hNA := hP.na
 refine TC.seq ?_
 refine TC.region ?_
 refine wai rfl rfl ?_
 refine TL.nil (nt ?_)
 refine TC.seq ?_
 refine TC.seq ?_
 refine TC.region ?_
 refine wmp rfl rfl ?_
 refine wmi rfl rfl ?_
 refine e rfl ?_
 refine cl (xat_ok b T.m.ids T hil fr) rfl (picked_nil _) (ent_one 0 rfl) ?_
 intro _ _
 change TL _ _ _ _ _ _ _ _ (sepL [_, _])
 by_cases h1 : fr ∈ T.m.ids
 ·obtain ⟨i, g1, _⟩ := atD_yes h1
  rw [g1]
  refine q rfl rfl (lss rfl rfl) ?_
  refine wmb rfl rfl ?_
  refine TL.known 17 rfl (c := false) (decide_eq_false (by omega)) ?_
  refine qg rfl rfl rfl (mv (v := .pointer _) rfl) ?_
  refine qg rfl rfl rfl (mv (v := .int _ _) rfl) ?_
  refine eg rfl rfl ?_
  refine cl (xat_ok b T.m.ids T hil to) rfl (picked_nil _) (ent_one 0 rfl) ?_
  intro _ _
  change TL _ _ _ _ _ _ _ _ (sepL [_, _])
  by_cases h2 : to ∈ T.m.ids
  ·obtain ⟨j, g2, _⟩ := atD_yes h2
   rw [g2]
   have hh : ¬ (fr ∉ T.m.ids ∨ to ∉ T.m.ids) := fun h3 => h3.elim (fun h4 => h4 h1) (fun h4 => h4 h2)
   refine qg rfl rfl rfl (lss rfl rfl) ?_
   refine q rfl rfl (pkF (v := .bool _) rfl rfl) ?_
   refine TL.nil (nt ?_)
   refine TC.condD rfl (fun hc2 => absurd hc2 (by omega)) (fun hc2 => ?_)
   refine TC.skip (nt ?_)
   refine TC.seq ?_
   refine TC.seq ?_
   refine TC.region ?_
   refine wmi rfl rfl ?_
   refine wmi rfl rfl ?_
   refine q rfl rfl (eqI rfl rfl) ?_
   refine wmb rfl rfl ?_
   refine TL.split 26 rfl (fun he => ?_) (fun he => ?_)
   ·have he := of_decide_eq_true he
    have hv : sendS T fr to gt cv ticks = (T, 1) := by rw [sendS, if_neg hh, if_pos (.inl he)]
    rw [hv]
    refine qs rfl rfl ?_
    refine qs rfl rfl ?_
    refine qs rfl rfl ?_
    refine q rfl rfl (pkT (v := .bool _) rfl rfl) ?_
    refine TL.nil (nt ?_)
    refine TC.condT rfl ?_
    refine TC.seq ?_
    refine TC.region ?_
    refine wai rfl rfl ?_
    refine TL.nil (nt ?_)
    refine TC.ret (rt ?_)
    exact Ret.i () [_] ⟨rfl, trivial⟩ rfl trivial (ent_take 0 rfl (ent_take 0 rfl (ent_nil _)))
   ·have he := of_decide_eq_false he
    refine qg rfl rfl rfl (mv (v := .int _ _) rfl) ?_
    refine eg rfl rfl ?_
    refine cl (xmay_ok ticks) rfl (picked_nil _) trivial ?_
    intro _ _
    change TL _ _ _ _ _ _ _ _ (sepL [_, _])
    refine qg rfl rfl rfl (notD rfl) ?_
    refine q rfl rfl (pkF (v := .bool _) rfl rfl) ?_
    refine TL.nil (nt ?_)
    by_cases ht : badT ticks
    ·have hv : sendS T fr to gt cv ticks = (T, 1) := by rw [sendS, if_neg hh, if_pos (.inr ht)]
     rw [hv]
     refine TC.condD rfl (fun hc3 => ?_) (fun hc3 => absurd (fun h2 => h2 ht) hc3)
     refine TC.seq ?_
     refine TC.region ?_
     refine wai rfl rfl ?_
     refine TL.nil (nt ?_)
     refine TC.ret (rt ?_)
     exact Ret.i () [_] ⟨rfl, trivial⟩ rfl trivial (ent_take 0 rfl (ent_take 0 rfl (ent_nil _)))
    ·have hh2 : ¬ (fr = to ∨ badT ticks) := fun h3 => h3.elim he ht
     refine TC.condD rfl (fun hc4 => absurd hc4 (fun h2 => h2 ht)) (fun hc4 => ?_)
     refine TC.skip (nt ?_)
     refine TC.seq ?_
     refine TC.seq ?_
     refine TC.region ?_
     refine wmp rfl rfl ?_
     refine wmi rfl rfl ?_
     refine e rfl ?_
     refine cl (xstate_ok b T hW hil fr) rfl (picked_nil _) (ent_one 0 rfl) ?_
     intro _ _
     change TL _ _ _ _ _ _ _ _ (sepL [_, _])
     refine q rfl rfl (neI rfl rfl) ?_
     refine TL.nil (nt ?_)
     refine TC.condD rfl (fun h0 => ?_) (fun h0 => ?_)
     ·have hv : sendS T fr to gt cv ticks = (T, 12) := by rw [sendS, if_neg hh, if_neg hh2, if_pos h0]
      rw [hv]
      refine TC.seq ?_
      refine TC.region ?_
      refine wai rfl rfl ?_
      refine TL.nil (nt ?_)
      refine TC.ret (rt ?_)
      exact Ret.i () [_] ⟨rfl, trivial⟩ rfl trivial (ent_take 0 rfl (ent_take 0 rfl (ent_nil _)))
     ·have hv : sendS T fr to gt cv ticks = (blockS (mS T (offS T.m to ⟨fr, gt, cv⟩).1) fr ticks, 0) := by rw [sendS, if_neg hh, if_neg hh2, if_neg h0]
      rw [hv]
      dsimp only
      refine TC.skip (nt ?_)
      refine TC.seq ?_
      refine TC.region ?_
      refine wmp rfl rfl ?_
      refine wnc rfl rfl ?_
      refine wfa 5 rfl rfl rfl ?_
      refine wmi rfl rfl ?_
      refine wmi rfl rfl ?_
      refine wmi rfl rfl ?_
      refine wmb rfl rfl ?_
      refine q rfl rfl (bld (cs := [.int _ _, .int _ _, .bool _]) rfl) ?_
      refine e rfl ?_
      refine cl (xpoffer b T.m.ids T hW hil to ⟨fr, gt, cv⟩) rfl PkL.p trivial ?_
      intro _ _
      change TL _ _ _ _ _ _ _ _ (sepL [_, _])
      have hi9 := off_ids T.m to ⟨fr, gt, cv⟩
      generalize (offS T.m to ⟨fr, gt, cv⟩).1 = m9 at hi9 ⊢
      rw [show (blockS (mS T m9) fr ticks).m.ids = T.m.ids from by rw [block_m]; exact hi9]
      refine TL.nil (nt ?_)
      refine TC.seq ?_
      refine TC.region ?_
      refine wmp rfl rfl ?_
      refine wmi rfl rfl ?_
      refine wmi rfl rfl ?_
      refine e rfl ?_
      refine cl (xout_ok b T.m.ids (mS T m9) (by show T.S.length ≤ _; omega) (by show T.A.length ≤ _; omega) hNS fr ticks) rfl PkL.p trivial ?_
      intro _ _
      change TL _ _ _ _ _ _ _ _ (sepL [_, _])
      refine TL.nil (nt ?_)
      refine TC.seq ?_
      refine TC.region ?_
      refine wai rfl rfl ?_
      refine TL.nil (nt ?_)
      refine TC.ret ?_
      exact Ret.i () [_] ⟨rfl, trivial⟩ rfl trivial (ent_take 0 rfl (ent_take 0 rfl (ent_nil _)))
  ·rw [atD_no h2]
   have hv : sendS T fr to gt cv ticks = (T, 6) := if_pos (.inr h2)
   rw [hv]
   refine qg rfl rfl rfl (lss rfl rfl) ?_
   refine q rfl rfl (pkF (v := .bool _) rfl rfl) ?_
   refine TL.nil (nt ?_)
   refine TC.condD rfl (fun hc1 => ?_) (fun hc1 => absurd (by decide) hc1)
   refine TC.seq ?_
   refine TC.region ?_
   refine wai rfl rfl ?_
   refine TL.nil (nt ?_)
   refine TC.ret (rt ?_)
   exact Ret.i () [_] ⟨rfl, trivial⟩ rfl trivial (ent_take 0 rfl (ent_take 0 rfl (ent_nil _)))
 ·rw [atD_no h1]
  have hv : sendS T fr to gt cv ticks = (T, 6) := if_pos (.inl h1)
  rw [hv]
  refine q rfl rfl (lss rfl rfl) ?_
  refine wmb rfl rfl ?_
  refine TL.known 17 rfl (c := true) (by decide) ?_
  refine qs rfl rfl ?_
  refine qs rfl rfl ?_
  refine qs rfl rfl ?_
  refine qs rfl rfl ?_
  refine q rfl rfl (pkT (v := .bool _) rfl rfl) ?_
  refine TL.nil (nt ?_)
  refine TC.condT rfl ?_
  refine TC.seq ?_
  refine TC.region ?_
  refine wai rfl rfl ?_
  refine TL.nil (nt ?_)
  refine TC.ret (rt ?_)
  exact Ret.i () [_] ⟨rfl, trivial⟩ rfl trivial (ent_take 0 rfl (ent_take 0 rfl (ent_nil _)))
set_option maxRecDepth 4000 in
set_option maxHeartbeats 1000000 in
theorem xwait_ok (b : Nat) (T : TS) (hP : TP T []) (hb : TB T) (id ticks : Int) : FSpec Tryz.prog 74 [.pointer (some ⟨b, 0, none⟩), .int .i64 id, .int .i64 ticks] noRd [RX b T.m.ids T] (fun _ : Unit => .int .i64 (waitS T id ticks).2) (fun _ => True) (fun _ => [RX b (waitS T id ticks).1.m.ids (waitS T id ticks).1]) := by
 refine FSpec.intro (rs := [.tmp 6]) (by kernel_rfl) Tryz.func74 rfl Tryz.ntmps74 (by rfl) rfl ?_
 intro F _
 change TC _ _ _ _ _ _ _ (sepL [_, _])
 obtain ⟨hSl, hAl, _, hil⟩ := hP.bds hb
 have hW := hP.wm
 have hnow := hb.now
 have htn := hb.tn
 have htold := hb.told
 have hNS := hP.rj.nd
 have hNA := hP.na
 refine TC.seq ?_
 refine TC.region ?_
 refine wai rfl rfl ?_
 refine TL.nil (nt ?_)
 refine TC.seq ?_
 refine TC.seq ?_
 refine TC.region ?_
 refine wmp rfl rfl ?_
 refine wmi rfl rfl ?_
 refine e rfl ?_
 refine cl (xat_ok b T.m.ids T hil id) rfl (picked_nil _) (ent_one 0 rfl) ?_
 intro _ _
 change TL _ _ _ _ _ _ _ _ (sepL [_, _])
 by_cases h1 : id ∈ T.m.ids
 ·obtain ⟨i, g1, g2⟩ := atD_yes h1
  rw [g1]
  have g3 := (List.getElem?_eq_some_iff.1 g2).1
  have hh : ¬ id ∉ T.m.ids := fun h => h h1
  refine q rfl rfl (lss rfl rfl) ?_
  refine TL.nil (nt ?_)
  refine TC.condD rfl (fun hc6 => absurd hc6 (by omega)) (fun hc6 => ?_)
  refine TC.skip (nt ?_)
  refine TC.seq ?_
  refine TC.seq ?_
  refine TC.region ?_
  refine wmi rfl rfl ?_
  refine e rfl ?_
  refine cl (xmay_ok ticks) rfl (picked_nil _) trivial ?_
  intro _ _
  change TL _ _ _ _ _ _ _ _ (sepL [_, _])
  refine q rfl rfl (notD rfl) ?_
  refine TL.nil (nt ?_)
  by_cases ht : badT ticks
  ·have hv : waitS T id ticks = (T, 1) := by rw [waitS, if_neg hh, if_pos ht]
   rw [hv]
   refine TC.condD rfl (fun hc7 => ?_) (fun hc7 => absurd (fun h2 => h2 ht) hc7)
   refine TC.seq ?_
   refine TC.region ?_
   refine wai rfl rfl ?_
   refine TL.nil (nt ?_)
   refine TC.ret (rt ?_)
   exact Ret.i () [_] ⟨rfl, trivial⟩ rfl trivial (ent_take 0 rfl (ent_take 0 rfl (ent_nil _)))
  ·refine TC.condD rfl (fun hc8 => absurd hc8 (fun h2 => h2 ht)) (fun hc8 => ?_)
   refine TC.skip (nt ?_)
   refine TC.seq ?_
   refine TC.seq ?_
   refine TC.region ?_
   refine wmp rfl rfl ?_
   refine wmi rfl rfl ?_
   refine e rfl ?_
   refine cl (xstate_ok b T hW hil id) rfl (picked_nil _) (ent_one 0 rfl) ?_
   intro _ _
   change TL _ _ _ _ _ _ _ _ (sepL [_, _])
   refine q rfl rfl (neI rfl rfl) ?_
   refine wmb rfl rfl ?_
   refine TL.split 18 rfl (fun h0 => ?_) (fun h0 => ?_)
   ·have h0 := of_decide_eq_true h0
    have hv : waitS T id ticks = (T, 12) := by rw [waitS, if_neg hh, if_neg ht, if_pos h0]
    rw [hv]
    refine qs rfl rfl ?_
    refine qs rfl rfl ?_
    refine qs rfl rfl ?_
    refine qs rfl rfl ?_
    refine qs rfl rfl ?_
    refine qs rfl rfl ?_
    refine qs rfl rfl ?_
    refine q rfl rfl (pkT (v := .bool _) rfl rfl) ?_
    refine TL.nil (nt ?_)
    refine TC.condT rfl ?_
    refine TC.seq ?_
    refine TC.region ?_
    refine wai rfl rfl ?_
    refine TL.nil (nt ?_)
    refine TC.ret (rt ?_)
    exact Ret.i () [_] ⟨rfl, trivial⟩ rfl trivial (ent_take 0 rfl (ent_take 0 rfl (ent_nil _)))
   ·have h0 := of_decide_eq_false h0
    have hrr : rowR T.m id = T.m.row id := if_pos h1
    have hs0 : T.m.st id = 0 := by
     have h3 := Decidable.not_not.1 h0
     rw [stT, if_pos h1] at h3
     split at h3
     ·exact h3
     ·exact absurd h3 (by decide)
    refine qg rfl rfl rfl (mv (v := .pointer _) rfl) ?_
    refine qg rfl rfl rfl (nc rfl) ?_
    refine qg rfl rfl rfl (fa 5 rfl rfl) ?_
    refine qg rfl rfl rfl (mv (v := .int _ _) rfl) ?_
    refine eg rfl rfl ?_
    refine cl (xprow b T.m.ids T hW hil id) rfl (picked_nil _) (ent_one 0 rfl) ?_
    intro yr _
    change TL _ _ _ _ _ _ _ _ (sepL [_, _, _])
    refine qg rfl rfl rfl (len 26 3 rfl rfl) ?_
    refine qg rfl rfl rfl (gtr rfl rfl) ?_
    refine q rfl rfl (pkF (v := .bool _) rfl rfl) ?_
    refine TL.nil (nt ?_)
    refine TC.condD rfl (fun hr => ?_) (fun hr => ?_)
    ·have he : openS T.m id = (T.m, 12) := by rw [openS, if_neg hh, if_pos (.inr (by rw [← hrr]; omega))]
     have hv : waitS T id ticks = (T, 12) := by rw [waitS, if_neg hh, if_neg ht, if_neg h0, he, if_pos (show (12 : Int) ≠ 0 by decide)]
     rw [hv]
     refine TC.seq ?_
     refine TC.region ?_
     refine wai rfl rfl ?_
     refine TL.nil (nt ?_)
     refine TC.ret (rt ?_)
     exact Ret.i () [_] ⟨rfl, trivial⟩ rfl trivial (ent_take 1 rfl (ent_take 1 rfl (ent_nil _)))
    ·have he : (openS T.m id).2 = 0 := by rw [openS, if_neg hh, if_neg (fun h => h.elim (fun h => h hs0) (fun h => by rw [← hrr] at h; omega))]
     have hv : waitS T id ticks = (blockS (mS T (openS T.m id).1) id ticks, 0) := by rw [waitS, if_neg hh, if_neg ht, if_neg h0, if_neg (fun h => h he)]
     rw [hv]
     dsimp only
     refine TC.skip (nt ?_)
     refine TC.seq ?_
     refine TC.region ?_
     refine wmp rfl rfl ?_
     refine wnc rfl rfl ?_
     refine wfa 5 rfl rfl rfl ?_
     refine wmi rfl rfl ?_
     refine e rfl ?_
     refine cl (xpopen b T.m.ids T hW hil id) rfl PkL.p trivial ?_
     intro _ _
     change TL _ _ _ _ _ _ _ _ (sepL [_, _, _])
     clear hv he
     have hi9 := open_ids T.m id
     generalize (openS T.m id).1 = m9 at hi9 ⊢
     rw [show (blockS (mS T m9) id ticks).m.ids = T.m.ids from by rw [block_m]; exact hi9]
     refine TL.nil (nt ?_)
     refine TC.seq ?_
     refine TC.region ?_
     refine wmp rfl rfl ?_
     refine wmi rfl rfl ?_
     refine wmi rfl rfl ?_
     refine e rfl ?_
     refine cl (xout_ok b T.m.ids (mS T m9) (by show T.S.length ≤ _; omega) (by show T.A.length ≤ _; omega) hNS id ticks) rfl PkL.p trivial ?_
     intro _ _
     change TL _ _ _ _ _ _ _ _ (sepL [_, _, _])
     refine TL.nil (nt ?_)
     refine TC.seq ?_
     refine TC.region ?_
     refine wai rfl rfl ?_
     refine TL.nil (nt ?_)
     refine TC.ret ?_
     exact Ret.i () [_] ⟨rfl, trivial⟩ rfl trivial (ent_take 0 rfl (ent_take 1 rfl (ent_nil _)))
 ·rw [atD_no h1]
  have hv : waitS T id ticks = (T, 6) := if_pos h1
  rw [hv]
  refine q rfl rfl (lss rfl rfl) ?_
  refine TL.nil (nt ?_)
  refine TC.condD rfl (fun hc5 => ?_) (fun hc5 => absurd (by decide) hc5)
  refine TC.seq ?_
  refine TC.region ?_
  refine wai rfl rfl ?_
  refine TL.nil (nt ?_)
  refine TC.ret (rt ?_)
  exact Ret.i () [_] ⟨rfl, trivial⟩ rfl trivial (ent_take 0 rfl (ent_take 0 rfl (ent_nil _)))
set_option maxRecDepth 4000 in
set_option maxHeartbeats 1000000 in
theorem xwake_ok (b : Nat) (T : TS) (hP : TP T []) (hb : TB T) (id why : Int) : FSpec Tryz.prog 78 [.pointer (some ⟨b, 0, none⟩), .int .i64 id, .int .i64 why] noRd [RX b T.m.ids T] (fun _ : Unit => .int .i64 (wakeS T why id).2) (fun _ => True) (fun _ => [RX b (wakeS T why id).1.m.ids (wakeS T why id).1]) := by
 refine FSpec.intro (rs := [.tmp 6]) (by kernel_rfl) Tryz.func78 rfl Tryz.ntmps78 (by rfl) rfl ?_
 intro F _
 change TC _ _ _ _ _ _ _ (sepL [_, _])
 obtain ⟨hSl, hAl, _, hil⟩ := hP.bds hb
 have hW := hP.wm
 have hnow := hb.now
 have htn := hb.tn
 have htold := hb.told
 have hNS := hP.rj.nd
 have hNA := hP.na
 refine TC.seq ?_
 refine TC.region ?_
 refine wai rfl rfl ?_
 refine TL.nil (nt ?_)
 refine TC.seq ?_
 refine TC.region ?_
 refine wmp rfl rfl ?_
 refine wmi rfl rfl ?_
 refine e rfl ?_
 refine cl (xstate_ok b T hW hil id) rfl (picked_nil _) (ent_one 0 rfl) ?_
 intro _ _
 change TL _ _ _ _ _ _ _ _ (sepL [_, _])
 by_cases h1 : id ∈ T.m.ids
 ·have hh : ¬ id ∉ T.m.ids := fun h => h h1
  have hge : 0 ≤ stT T id := by
   rw [stT, if_pos h1]
   split
   ·have := hW.rg id h1; omega
   ·decide
  refine wai rfl rfl ?_
  refine TL.nil (nt ?_)
  refine TC.seq ?_
  refine TC.seq ?_
  refine TC.region ?_
  refine wmi rfl rfl ?_
  refine q rfl rfl (lss rfl rfl) ?_
  refine TL.nil (nt ?_)
  refine TC.condD rfl (fun hc10 => absurd hc10 (by omega)) (fun hc10 => ?_)
  refine TC.skip (nt ?_)
  refine TC.seq ?_
  refine TC.seq ?_
  refine TC.region ?_
  refine wmi rfl rfl ?_
  refine q rfl rfl (eqI rfl rfl) ?_
  refine wmb rfl rfl ?_
  refine TL.split 15 rfl (fun h0 => ?_) (fun h0 => ?_)
  ·have h0 := of_decide_eq_true h0
   have hv : wakeS T why id = (T, 12) := by rw [wakeS, if_neg hh, if_pos (.inl h0)]
   rw [hv]
   refine qs rfl rfl ?_
   refine qs rfl rfl ?_
   refine q rfl rfl (pkT (v := .bool _) rfl rfl) ?_
   refine TL.nil (nt ?_)
   refine TC.condT rfl ?_
   refine TC.seq ?_
   refine TC.region ?_
   refine wai rfl rfl ?_
   refine TL.nil (nt ?_)
   refine TC.ret (rt ?_)
   exact Ret.i () [_] ⟨rfl, trivial⟩ rfl trivial (ent_take 0 rfl (ent_take 0 rfl (ent_nil _)))
  ·have h0 := of_decide_eq_false h0
   refine qg rfl rfl rfl (mv (v := .int _ _) rfl) ?_
   refine qg rfl rfl rfl (eqI rfl rfl) ?_
   refine q rfl rfl (pkF (v := .bool _) rfl rfl) ?_
   refine TL.nil (nt ?_)
   refine TC.condD rfl (fun h4 => ?_) (fun h4 => ?_)
   ·have hv : wakeS T why id = (T, 12) := by rw [wakeS, if_neg hh, if_pos (.inr h4)]
    rw [hv]
    refine TC.seq ?_
    refine TC.region ?_
    refine wai rfl rfl ?_
    refine TL.nil (nt ?_)
    refine TC.ret (rt ?_)
    exact Ret.i () [_] ⟨rfl, trivial⟩ rfl trivial (ent_take 0 rfl (ent_take 0 rfl (ent_nil _)))
   ·have hv : wakeS T why id = (tellS (mS T (callS T.m id).1) why [id], 0) := by rw [wakeS, if_neg hh, if_neg (fun h => h.elim h0 h4)]
    rw [hv]
    dsimp only
    refine TC.skip (nt ?_)
    refine TC.seq ?_
    refine TC.region ?_
    refine wmp rfl rfl ?_
    refine wnc rfl rfl ?_
    refine wfa 5 rfl rfl rfl ?_
    refine wmi rfl rfl ?_
    refine e rfl ?_
    refine cl (xpcall b T.m.ids T hW hil id) rfl PkL.p trivial ?_
    intro _ _
    change TL _ _ _ _ _ _ _ _ (sepL [_, _])
    have hi9 := call_ids T.m id
    generalize (callS T.m id).1 = m9 at hi9 ⊢
    rw [show (tellS (mS T m9) why [id]).m.ids = T.m.ids from by rw [tells_m]; exact hi9]
    refine TL.nil (nt ?_)
    refine TC.seq ?_
    refine TC.region ?_
    refine wmp rfl rfl ?_
    refine wmi rfl rfl ?_
    refine wmi rfl rfl ?_
    refine e rfl ?_
    refine bs (cs := [.int _ _]) rfl ?_
    intro b1
    refine e rfl ?_
    refine cl (xsay_ok b T.m.ids (mS T m9) hil (why) (some ⟨b1, 0, none⟩) _ [id] (fun x hx => by rw [List.mem_singleton.1 hx]; exact h1) (by show T.S.length + _ ≤ _; first | omega | (simp <;> omega)) (by show T.A.length ≤ _; omega) hNA (by show T.told.length + _ ≤ _; first | omega | (simp <;> omega))) rfl PkL.p ⟨_, RdSI.rd (ad := (some ⟨b1, 0, none⟩))⟩ ?_
    intro _ _
    change TL _ _ _ _ _ _ _ _ (sepL [_, _, _])
    refine TL.nil (nt ?_)
    refine TC.seq ?_
    refine TC.region ?_
    refine wai rfl rfl ?_
    refine TL.nil (nt ?_)
    refine TC.ret ?_
    exact Ret.i () [_] ⟨rfl, trivial⟩ rfl trivial (ent_take 0 rfl (ent_take 1 rfl (ent_nil _)))
 ·have hv : wakeS T why id = (T, 6) := if_pos h1
  rw [hv]
  rw [show stT T id = -1 from if_neg h1]
  refine wai rfl rfl ?_
  refine TL.nil (nt ?_)
  refine TC.seq ?_
  refine TC.seq ?_
  refine TC.region ?_
  refine wmi rfl rfl ?_
  refine q rfl rfl (lss rfl rfl) ?_
  refine TL.nil (nt ?_)
  refine TC.condD rfl (fun hc9 => ?_) (fun hc9 => absurd (by decide) hc9)
  refine TC.seq ?_
  refine TC.region ?_
  refine wai rfl rfl ?_
  refine TL.nil (nt ?_)
  refine TC.ret (rt ?_)
  exact Ret.i () [_] ⟨rfl, trivial⟩ rfl trivial (ent_take 0 rfl (ent_take 0 rfl (ent_nil _)))
set_option maxRecDepth 4000 in
set_option maxHeartbeats 1000000 in
theorem xanswer_ok (b : Nat) (T : TS) (hP : TP T []) (hb : TB T) (id : Int) : FSpec Tryz.prog 77 [.pointer (some ⟨b, 0, none⟩), .int .i64 id] noRd [RX b T.m.ids T] (fun _ : Unit => .tuple #[.int .i64 (answerS T id).2.1, .int .i64 (answerS T id).2.2]) (fun _ => True) (fun _ => [RX b (answerS T id).1.m.ids (answerS T id).1]) := by
 refine FSpec.intro (rs := [.tmp 4, .tmp 5]) (by kernel_rfl) Tryz.func77 rfl Tryz.ntmps77 (by rfl) rfl ?_
 intro F _
 change TC _ _ _ _ _ _ _ (sepL [_, _])
 obtain ⟨hSl, hAl, _, hil⟩ := hP.bds hb
 have hW := hP.wm
 have hnow := hb.now
 have htn := hb.tn
 have htold := hb.told
 have hNS := hP.rj.nd
 have hNA := hP.na
 refine TC.seq ?_
 refine TC.region ?_
 refine wai rfl rfl ?_
 refine wai rfl rfl ?_
 refine TL.nil (nt ?_)
 refine TC.seq ?_
 refine TC.seq ?_
 refine TC.region ?_
 refine wmp rfl rfl ?_
 refine wmi rfl rfl ?_
 refine e rfl ?_
 refine cl (xat_ok b T.m.ids T hil id) rfl (picked_nil _) (ent_one 0 rfl) ?_
 intro _ _
 change TL _ _ _ _ _ _ _ _ (sepL [_, _])
 by_cases h1 : id ∈ T.m.ids
 ·obtain ⟨i, g1, g2⟩ := atD_yes h1
  rw [g1]
  have g3 := (List.getElem?_eq_some_iff.1 g2).1
  have hh : ¬ id ∉ T.m.ids := fun h => h h1
  refine q rfl rfl (lss rfl rfl) ?_
  refine TL.nil (nt ?_)
  refine TC.condD rfl (fun hc12 => absurd hc12 (by omega)) (fun hc12 => ?_)
  refine TC.skip (nt ?_)
  refine TC.seq ?_
  refine TC.seq ?_
  refine TC.region ?_
  refine wmp rfl rfl ?_
  refine wmi rfl rfl ?_
  refine e rfl ?_
  refine cl (xstate_ok b T hW hil id) rfl (picked_nil _) (ent_one 0 rfl) ?_
  intro _ _
  change TL _ _ _ _ _ _ _ _ (sepL [_, _])
  refine q rfl rfl (neI rfl rfl) ?_
  refine TL.nil (nt ?_)
  refine TC.condD rfl (fun h0 => ?_) (fun h0 => ?_)
  ·have hv : answerS T id = (T, 0, 12) := by rw [answerS, if_neg hh, if_pos h0]
   rw [hv]
   refine TC.seq ?_
   refine TC.region ?_
   refine wai rfl rfl ?_
   refine wai rfl rfl ?_
   refine TL.nil (nt ?_)
   refine TC.ret (rt ?_)
   exact Ret.i () [_, _] ⟨rfl, rfl, trivial⟩ rfl trivial (ent_take 0 rfl (ent_take 0 rfl (ent_nil _)))
  ·refine TC.skip (nt ?_)
   refine TC.seq ?_
   refine TC.region ?_
   refine wmp rfl rfl ?_
   refine wnc rfl rfl ?_
   refine wfa 5 rfl rfl rfl ?_
   refine wmi rfl rfl ?_
   refine e rfl ?_
   refine cl (xpanswer b T.m.ids T hW hil id) rfl PkL.p trivial ?_
   intro _ _
   change TL _ _ _ _ _ _ _ _ (sepL [_, _])
   refine wmt rfl rfl ?_
   refine q rfl rfl (pu (v := .int _ _) (fun _ => rfl)) ?_
   refine q rfl rfl (pu (v := .int _ _) (fun _ => rfl)) ?_
   refine wai rfl rfl ?_
   refine wai rfl rfl ?_
   refine TL.nil (nt ?_)
   refine TC.seq ?_
   refine TC.seq ?_
   refine TC.region ?_
   refine wmi rfl rfl ?_
   refine q rfl rfl (eqI rfl rfl) ?_
   refine TL.nil (nt ?_)
   refine TC.condD rfl (fun he => ?_) (fun he => ?_)
   ·have hv : answerS T id = (tellS (mS T (ansS T.m id).1) 0 [(ansS T.m id).2.1], (ansS T.m id).2.1, 0) := by rw [answerS, if_neg hh, if_neg h0, if_pos he]
    rw [hv, he]
    dsimp only
    have hof : (ansS T.m id).2.1 ∈ T.m.ids := by
     rw [ansS] at he ⊢
     split at he
     ·cases he
     ·rename_i h3
      rw [if_neg h3]
      split at he
      ·cases he
      ·rename_i h4
       rw [if_neg h4]
       split at he
       ·cases he
       ·rename_i h5; rw [if_neg h5]; exact (hW.cal id h1 h5).1
    clear he hv
    generalize (ansS T.m id).2.1 = w9 at hof ⊢
    have hi9 := ans_ids T.m id
    generalize (ansS T.m id).1 = m9 at hi9 ⊢
    rw [show (tellS (mS T m9) 0 [w9]).m.ids = T.m.ids from by rw [tells_m]; exact hi9]
    refine TC.region ?_
    refine wmp rfl rfl ?_
    refine wmi rfl rfl ?_
    refine e rfl ?_
    refine bs (cs := [.int _ _]) rfl ?_
    intro b2
    refine e rfl ?_
    refine cl (xsay_ok b T.m.ids (mS T m9) hil (0) (some ⟨b2, 0, none⟩) _ [w9] (fun x hx => by rw [List.mem_singleton.1 hx]; exact hof) (by show T.S.length + _ ≤ _; first | omega | (simp <;> omega)) (by show T.A.length ≤ _; omega) hNA (by show T.told.length + _ ≤ _; first | omega | (simp <;> omega))) rfl PkL.p ⟨_, RdSI.rd (ad := (some ⟨b2, 0, none⟩))⟩ ?_
    intro _ _
    change TL _ _ _ _ _ _ _ _ (sepL [_, _, _])
    refine TL.nil (nt ?_)
    refine TC.seq ?_
    refine TC.region ?_
    refine wmi rfl rfl ?_
    refine wmi rfl rfl ?_
    refine wai rfl rfl ?_
    refine wai rfl rfl ?_
    refine TL.nil (nt ?_)
    refine TC.ret ?_
    exact Ret.i () [_, _] ⟨rfl, rfl, trivial⟩ rfl trivial (ent_take 0 rfl (ent_take 1 rfl (ent_nil _)))
   ·have ho : (ansS T.m id).1 = T.m := by
     rw [ansS] at he ⊢
     split at he
     ·rename_i h3; rw [if_pos h3]
     ·rename_i h3
      rw [if_neg h3]
      split at he
      ·rename_i h4; rw [if_pos h4]
      ·rename_i h4
       rw [if_neg h4]
       split at he
       ·rename_i h5; rw [if_pos h5]
       ·exact absurd rfl he
    have hv : answerS T id = (T, (ansS T.m id).2.1, (ansS T.m id).2.2) := by rw [answerS, if_neg hh, if_neg h0, if_neg he]
    have hX : RX b T.m.ids (mS T (ansS T.m id).1) = RX b T.m.ids T := by rw [ho]; rfl
    rw [hv, hX]
    refine TC.skip (nt ?_)
    refine TC.seq ?_
    refine TC.region ?_
    refine wmi rfl rfl ?_
    refine wmi rfl rfl ?_
    refine wai rfl rfl ?_
    refine wai rfl rfl ?_
    refine TL.nil (nt ?_)
    refine TC.ret ?_
    exact Ret.i () [_, _] ⟨rfl, rfl, trivial⟩ rfl trivial (ent_take 0 rfl (ent_take 0 rfl (ent_nil _)))
 ·rw [atD_no h1]
  have hv : answerS T id = (T, 0, 6) := if_pos h1
  rw [hv]
  refine q rfl rfl (lss rfl rfl) ?_
  refine TL.nil (nt ?_)
  refine TC.condD rfl (fun hc11 => ?_) (fun hc11 => absurd (by decide) hc11)
  refine TC.seq ?_
  refine TC.region ?_
  refine wai rfl rfl ?_
  refine wai rfl rfl ?_
  refine TL.nil (nt ?_)
  refine TC.ret (rt ?_)
  exact Ret.i () [_, _] ⟨rfl, rfl, trivial⟩ rfl trivial (ent_take 0 rfl (ent_take 0 rfl (ent_nil _)))
set_option maxRecDepth 4000 in
set_option maxHeartbeats 1000000 in
theorem xclose_ok (b : Nat) (T : TS) (hP : TP T []) (hb : TB T) (gt : Int) : FSpec Tryz.prog 79 [.pointer (some ⟨b, 0, none⟩), .int .i64 gt] noRd [RX b T.m.ids T] (fun _ : Unit => .int .i64 (closeT T gt).2) (fun _ => True) (fun _ => [RX b (closeT T gt).1.m.ids (closeT T gt).1]) := by
 refine FSpec.intro (rs := [.tmp 4]) (by kernel_rfl) Tryz.func79 rfl Tryz.ntmps79 (by rfl) rfl ?_
 intro F _
 change TC _ _ _ _ _ _ _ (sepL [_, _])
 obtain ⟨hSl, hAl, _, hil⟩ := hP.bds hb
 have hW := hP.wm
 have hnow := hb.now
 have htn := hb.tn
 have htold := hb.told
 have hNS := hP.rj.nd
 have hNA := hP.na
 refine TC.seq ?_
 refine TC.region ?_
 refine wai rfl rfl ?_
 refine TL.nil (nt ?_)
 refine TC.seq ?_
 refine TC.region ?_
 refine wmp rfl rfl ?_
 refine wnc rfl rfl ?_
 refine wfa 5 rfl rfl rfl ?_
 refine wmi rfl rfl ?_
 refine e rfl ?_
 refine cl (xpclose b T.m.ids T hW hil gt) rfl PkL.p trivial ?_
 intro yl _
 change TL _ _ _ _ _ _ _ _ (sepL [_, _, _])
 have hgn : ∀ x ∈ (closeS T.m gt).2, x ∈ T.m.ids := fun x hx => (gone_in hW hx).1
 have hgl := nodup_sub_len (close_nd hW gt) hgn
 have hv : closeT T gt = (tellS (mS T (closeS T.m gt).1) 13 (closeS T.m gt).2, ((closeS T.m gt).2.length : Int)) := rfl
 rw [hv]
 dsimp only
 clear hv
 generalize (closeS T.m gt).2 = G9 at hgn hgl ⊢
 have hgi := ints_length G9
 have hi9 := (show (closeS T.m gt).1.ids = T.m.ids from rfl)
 generalize (closeS T.m gt).1 = m9 at hi9 ⊢
 rw [show (tellS (mS T m9) 13 G9).m.ids = T.m.ids from by rw [tells_m]; exact hi9]
 refine was rfl rfl ?_
 refine TL.nil (nt ?_)
 refine TC.seq ?_
 refine TC.region ?_
 refine wmp rfl rfl ?_
 refine wms rfl rfl ?_
 refine e rfl ?_
 refine cl (xsay_ok b T.m.ids (mS T m9) hil (13) yl.1 _ G9 hgn (by show T.S.length + _ ≤ _; first | omega | (simp <;> omega)) (by show T.A.length ≤ _; omega) hNA (by show T.told.length + _ ≤ _; first | omega | (simp <;> omega))) rfl PkL.p ⟨_, RdSI.rd (ad := yl.1)⟩ ?_
 intro _ _
 change TL _ _ _ _ _ _ _ _ (sepL [_, _, _])
 refine TL.nil (nt ?_)
 refine TC.seq ?_
 refine TC.region ?_
 refine wms rfl rfl ?_
 refine q rfl rfl (len 3 1 rfl rfl) ?_
 refine wai rfl rfl ?_
 refine TL.nil (nt ?_)
 refine TC.ret ?_
 exact Ret.i () [_] ⟨rfl, trivial⟩ rfl trivial (ent_take 0 rfl (ent_take 1 rfl (ent_nil _)))
end Go.Proofs.YtdfmfhcjnjfjbaaGreat
namespace Go.Proofs.YtdfmfhcjnjfjbaaGreat
open Go Go.QM
theorem RdS_nil9 (F : HP) : ∃ E, RdS F E none (ints []) := ⟨0, fun _ _ => .inl rfl⟩
set_option maxRecDepth 4000 in
theorem xtold_ok (b : Nat) (T : TS) : FSpec Tryz.prog 30 [.pointer (some ⟨b, 0, none⟩)] noRd [RX b T.m.ids T] (fun y : Option Addr × Nat => .slice y.1 T.told.length y.2) (fun _ => True) (fun y => [slc 74 2 y.1 T.told.length y.2 (tgsC T.told), RX b T.m.ids (toldT T)]) := by
 refine FSpec.intro (rs := [.tmp 2]) (by kernel_rfl) Tryz.func30 rfl Tryz.ntmps30 (by rfl) rfl ?_
 intro F _
 change TC _ _ _ _ _ _ _ (sepL [_, _])
 refine TC.open 0 rfl (fun x0 hx0 => ?_)
 obtain ⟨⟨l1, l2⟩, ⟨k1, k2⟩, ⟨a1, a2⟩, ⟨i1, i2⟩, ⟨p1, p2⟩, ⟨s1, s2⟩, ⟨u1, u2⟩, rr⟩ := x0
 have hm := hx0
 change TC _ _ _ _ _ _ _ (sepL [_, _, _, _, _, _, _, _, _])
 dsimp only [XP, List.cons_append, List.nil_append]
 change TC _ _ _ _ _ _ _ (sepL [_, _, _, _, _, _, _, _, _])
 have htl := tcsR_length T.m.ids T
 have hgl := tgsC_length T.told
 refine TC.seq ?_
 refine TC.region ?_
 refine was rfl rfl ?_
 refine TL.nil (nt ?_)
 refine TC.seq ?_
 refine TC.region ?_
 refine wmp rfl rfl ?_
 refine wnc rfl rfl ?_
 refine wfa 7 rfl rfl rfl ?_
 refine wld rfl rfl rfl rfl ?_
 refine was rfl rfl ?_
 refine TL.nil (nt ?_)
 refine TC.seq ?_
 refine TC.region ?_
 refine wmp rfl rfl ?_
 refine wnc rfl rfl ?_
 refine wfa 7 rfl rfl rfl ?_
 refine e0 ?_
 refine st (v := .slice _ _ _) (vs := [_]) 1 rfl rfl rfl rfl rfl rfl (Nat.le_of_ble_eq_true rfl) rfl ?_
 refine TL.nil (nt ?_)
 refine TC.seq ?_
 refine TC.region ?_
 refine wms rfl rfl ?_
 refine was rfl rfl ?_
 refine TL.nil (nt ?_)
 refine TC.ret ?_
 exact Ret.i ⟨u1, u2⟩ [_] ⟨rfl, trivial⟩ rfl trivial (ent_take 7 rfl (RXcl (b := b) (D := T.m.ids) (T := toldT T) (⟨(l1, l2), (k1, k2), (a1, a2), (i1, i2), (p1, p2), (s1, s2), (none, 0), rr⟩ : RY) hm ((slc_nil 74 2 _).trans (ent_take 1 rfl (ent_take 1 rfl (ent_take 1 rfl (ent_take 1 rfl (ent_take 1 rfl (ent_take 1 rfl (ent_take 1 rfl (ent_take 0 rfl (ent_take 0 rfl (ent_nil _)))))))))))))
set_option maxRecDepth 4000 in
set_option maxHeartbeats 1000000 in
theorem xrefuse_ok (b : Nat) (T : TS) (hP : TP T []) (hb : TB T) (id why : Int) : FSpec Tryz.prog 76 [.pointer (some ⟨b, 0, none⟩), .int .i64 id, .int .i64 why] noRd [RX b T.m.ids T] (fun _ : Unit => .tuple #[.agg (ofC (refuseS T id why).2.1).toArray, .int .i64 (refuseS T id why).2.2]) (fun _ => True) (fun _ => [RX b (refuseS T id why).1.m.ids (refuseS T id why).1]) := by
 refine FSpec.intro (rs := [.cell 6 26, .tmp 7]) (by kernel_rfl) Tryz.func76 rfl Tryz.ntmps76 (by rfl) rfl ?_
 intro F _
 change TC _ _ _ _ _ _ _ (sepL [_, _])
 obtain ⟨hSl, hAl, _, hil⟩ := hP.bds hb
 have hW := hP.wm
 have hnow := hb.now
 have htn := hb.tn
 have htold := hb.told
 have hNS := hP.rj.nd
 have hNA := hP.na
 refine TC.seq ?_
 refine TC.region ?_
 refine e rfl ?_
 refine al (l := [.int _ _, .int _ _, .bool _]) rfl rfl ?_
 intro b1
 refine wai rfl rfl ?_
 refine TL.nil (nt ?_)
 refine TC.seq ?_
 refine TC.region ?_
 refine wmp rfl rfl ?_
 refine wnc rfl rfl ?_
 refine wfa 5 rfl rfl rfl ?_
 refine wmi rfl rfl ?_
 refine e rfl ?_
 refine cl (xprow b T.m.ids T hW hil id) rfl (picked_nil _) (ent_one 1 rfl) ?_
 intro yr _
 change TL _ _ _ _ _ _ _ _ (sepL [_, _, _, _])
 refine was rfl rfl ?_
 refine TL.nil (nt ?_)
 refine TC.seq ?_
 refine TC.seq ?_
 refine TC.region ?_
 refine wmp rfl rfl ?_
 refine wmi rfl rfl ?_
 refine e rfl ?_
 refine cl (xat_ok b T.m.ids T hil id) rfl (picked_nil _) (ent_one 2 rfl) ?_
 intro _ _
 change TL _ _ _ _ _ _ _ _ (sepL [_, _, _, _])
 by_cases h1 : id ∈ T.m.ids
 ·obtain ⟨i, g1, g2⟩ := atD_yes h1
  rw [g1]
  have g3 := (List.getElem?_eq_some_iff.1 g2).1
  have hh : ¬ id ∉ T.m.ids := fun h => h h1
  have hrr : rowR T.m id = T.m.row id := if_pos h1
  rw [hrr]
  refine q rfl rfl (lss rfl rfl) ?_
  refine wmb rfl rfl ?_
  refine TL.known 18 rfl (c := false) (decide_eq_false (by omega)) ?_
  rcases row_cases (T.m.row id) with hr | ⟨o, r9, hr⟩
  ·have hv : refuseS T id why = (T, o0, 6) := by rw [refuseS, if_neg hh, hr]
   rw [hv, hr]
   refine qg rfl rfl rfl (mv (v := .slice _ _ _) rfl) ?_
   refine qg rfl rfl rfl (len 26 3 rfl rfl) ?_
   refine qg rfl rfl rfl (eqI rfl rfl) ?_
   refine q rfl rfl (pkF (v := .bool _) rfl rfl) ?_
   refine TL.nil (nt ?_)
   refine TC.condD rfl (fun hc1 => ?_) (fun hc1 => absurd (rfl) hc1)
   refine TC.seq ?_
   refine TC.region ?_
   refine q rfl rfl (bld (cs := [.int _ _, .int _ _, .bool _]) rfl) ?_
   refine e0 ?_
   refine st (v := .agg #[_, _, _]) (vs := [_, _, _]) 3 rfl rfl rfl rfl rfl rfl (Nat.le_of_ble_eq_true rfl) rfl ?_
   refine wai rfl rfl ?_
   refine TL.nil (nt ?_)
   refine TC.ret (rt ?_)
   exact Ret.i () [_, _] ⟨(rcN (n := 3) rfl rfl rfl rfl), rfl, trivial⟩ rfl trivial (ent_take 2 rfl (ent_take 2 rfl (ent_nil _)))
  ·have hv : refuseS T id why = (tellS (mS T (callS T.m o.fr).1) why [o.fr], o, 0) := by rw [refuseS, if_neg hh, hr]
   rw [hv, hr]
   dsimp only
   have hof := (hW.row id h1 o (by rw [hr]; simp)).1
   have hk0 : (o :: r9)[0]? = some o := rfl
   have hoc := ofsC_length (o :: r9)
   have hrl : (o :: r9).length = r9.length + 1 := rfl
   have hpos : 0 < (ofsC (o :: r9)).length := by omega
   refine qg rfl rfl rfl (mv (v := .slice _ _ _) rfl) ?_
   refine qg rfl rfl rfl (len 26 3 rfl rfl) ?_
   refine qg rfl rfl rfl (eqI rfl rfl) ?_
   refine q rfl rfl (pkF (v := .bool _) rfl rfl) ?_
   refine TL.nil (nt ?_)
   refine TC.condD rfl (fun hc2 => absurd hc2 (by omega)) (fun hc2 => ?_)
   refine TC.skip (nt ?_)
   refine TC.seq ?_
   refine TC.draw _ [] [(0, false), (1, false), (2, false), (3, false), (4, false), (5, false), (6, false), (7, true)] (by kernel_rfl) (by kernel_rfl) (ent_take 0 rfl (ent_nil _)) ?_
   refine vmp rfl rfl rfl ?_
   refine vnc rfl rfl rfl ?_
   refine vfa 5 rfl rfl rfl rfl ?_
   refine vms rfl rfl rfl ?_
   refine dq rfl rfl rfl (ixJ 26 3 rfl rfl rfl (by omega) (by omega) (by assumption)) ?_
   refine dq rfl rfl rfl (faS 0 rfl rfl (by assumption)) ?_
   refine dq rfl rfl rfl (ldS rfl rfl (flat_ld ofC_sz hk0 0 (by omega) rfl)) ?_
   refine de rfl rfl ?_
   refine cl (xpcall b T.m.ids T hW hil o.fr) rfl PkL.p trivial ?_
   intro _ _
   change ent _ _ ∧ TD _ _ _ _ _ _ _ _ _ _ (sepL [_, _, _, _])
   refine ⟨(ent_take 1 rfl (ent_nil _)), ?_⟩
   have hi9 := call_ids T.m o.fr
   generalize (callS T.m o.fr).1 = m9 at hi9 ⊢
   rw [show (tellS (mS T m9) why [o.fr]).m.ids = T.m.ids from by rw [tells_m]; exact hi9]
   refine TD.nil (nt ?_)
   refine TC.seq ?_
   refine TC.region ?_
   refine wmp rfl rfl ?_
   refine wmi rfl rfl ?_
   refine wms rfl rfl ?_
   refine q rfl rfl (ixJ 26 3 rfl rfl rfl (by omega) (by omega) (by assumption)) ?_
   refine q rfl rfl (faS 0 rfl rfl (by assumption)) ?_
   refine q rfl rfl (ldS rfl rfl (flat_ld ofC_sz hk0 0 (by omega) rfl)) ?_
   refine e rfl ?_
   refine bs (cs := [.int _ _]) rfl ?_
   intro b2
   refine e rfl ?_
   refine cl (xsay_ok b T.m.ids (mS T m9) hil (why) (some ⟨b2, 0, none⟩) _ [o.fr] (fun x hx => by rw [List.mem_singleton.1 hx]; exact hof) (by show T.S.length + _ ≤ _; first | omega | (simp <;> omega)) (by show T.A.length ≤ _; omega) hNA (by show T.told.length + _ ≤ _; first | omega | (simp <;> omega))) rfl PkL.p ⟨_, RdSI.rd (ad := (some ⟨b2, 0, none⟩))⟩ ?_
   intro _ _
   change TL _ _ _ _ _ _ _ _ (sepL [_, _, _, _, _])
   refine TL.nil (nt ?_)
   refine TC.seq ?_
   refine TC.region ?_
   refine wms rfl rfl ?_
   refine q rfl rfl (ixJ 26 3 rfl rfl rfl (by omega) (by omega) (by assumption)) ?_
   refine q rfl rfl (ldSN (vs := [_, _, _]) 3 rfl rfl (flat_get_rec ofC_sz hk0) rfl (by decide)) ?_
   refine e0 ?_
   refine st (v := .agg #[_, _, _]) (vs := [_, _, _]) 3 rfl rfl rfl rfl rfl rfl (Nat.le_of_ble_eq_true rfl) rfl ?_
   refine wai rfl rfl ?_
   refine TL.nil (nt ?_)
   refine TC.ret ?_
   exact Ret.i () [_, _] ⟨(rcN (n := 3) rfl rfl rfl rfl), rfl, trivial⟩ rfl trivial (ent_take 1 rfl (ent_take 3 rfl (ent_nil _)))
 ·rw [atD_no h1]
  have hv : refuseS T id why = (T, o0, 6) := if_pos h1
  rw [hv]
  refine q rfl rfl (lss rfl rfl) ?_
  refine wmb rfl rfl ?_
  refine TL.known 18 rfl (c := true) (by decide) ?_
  refine qs rfl rfl ?_
  refine qs rfl rfl ?_
  refine qs rfl rfl ?_
  refine q rfl rfl (pkT (v := .bool _) rfl rfl) ?_
  refine TL.nil (nt ?_)
  refine TC.condT rfl ?_
  refine TC.seq ?_
  refine TC.region ?_
  refine q rfl rfl (bld (cs := [.int _ _, .int _ _, .bool _]) rfl) ?_
  refine e0 ?_
  refine st (v := .agg #[_, _, _]) (vs := [_, _, _]) 3 rfl rfl rfl rfl rfl rfl (Nat.le_of_ble_eq_true rfl) rfl ?_
  refine wai rfl rfl ?_
  refine TL.nil (nt ?_)
  refine TC.ret (rt ?_)
  exact Ret.i () [_, _] ⟨(rcN (n := 3) rfl rfl rfl rfl), rfl, trivial⟩ rfl trivial (ent_take 2 rfl (ent_take 2 rfl (ent_nil _)))
set_option maxRecDepth 4000 in
set_option maxHeartbeats 1000000 in
theorem xtick_ok (b : Nat) (T : TS) (hP : TP T []) (hb : TB T) (hto : T.told.length ≤ 90000000) (hnw : T.now ≤ 900000000) : FSpec Tryz.prog 81 [.pointer (some ⟨b, 0, none⟩)] noRd [RX b T.m.ids T] (fun _ : Unit => .int .i64 (Rd.runS (tickT T).S)) (fun _ => True) (fun _ => [RX b (tickT T).m.ids (tickT T)]) := by
 refine FSpec.intro (rs := [.tmp 2]) (by kernel_rfl) Tryz.func81 rfl Tryz.ntmps81 (by rfl) rfl ?_
 intro F _
 change TC _ _ _ _ _ _ _ (sepL [_, _])
 obtain ⟨hSl, hAl, _, hil⟩ := hP.bds hb
 have hW := hP.wm
 have hnow := hb.now
 have htn := hb.tn
 have htold := hb.told
 have hNS := hP.rj.nd
 have hNA := hP.na
 refine TC.seq ?_
 refine TC.region ?_
 refine wai rfl rfl ?_
 refine TL.nil (nt ?_)
 refine TC.seq ?_
 refine TC.region ?_
 refine wmp rfl rfl ?_
 refine wnc rfl rfl ?_
 refine wfa 1 rfl rfl rfl ?_
 refine e rfl ?_
 refine cl (xqtick b T.m.ids T (by omega) hP.rj) rfl PkL.p trivial ?_
 intro _ _
 change TL _ _ _ _ _ _ _ _ (sepL [_, _])
 refine TL.nil (nt ?_)
 refine TC.seq ?_
 refine TC.region ?_
 refine wmp rfl rfl ?_
 refine wnc rfl rfl ?_
 refine wfa 2 rfl rfl rfl ?_
 refine e rfl ?_
 refine cl (xatick b T.m.ids { T with S := Rd.tickS T.S } (by show T.A.length ≤ _; omega) (by show 0 ≤ T.now ∧ T.now ≤ _; omega) (fun e he => by have := hP.tm e he; show T.now < e.at_ ∧ _; omega) hNA) rfl PkL.p trivial ?_
 intro yt _
 change TL _ _ _ _ _ _ _ _ (sepL [_, _, _])
 have hdl := due_len (T.now + 1) T.A
 have hv : tickT T = wakeL (tickT1 T) (Al.ids (Al.dueA (T.now + 1) T.A)) := rfl
 rw [hv]
 clear hv
 change TL _ _ _ _ _ _ _ _ (sepL [slc 3 1 yt.1 (Al.ids (Al.dueA (T.now + 1) T.A)).length yt.2 (ints (Al.ids (Al.dueA (T.now + 1) T.A))), RX b (tickT1 T).m.ids (tickT1 T), F])
 generalize Al.ids (Al.dueA (T.now + 1) T.A) = l at hdl ⊢
 have hli := ints_length l
 refine was rfl rfl ?_
 refine TL.nil (nt ?_)
 refine TC.seq ?_
 refine TC.seq ?_
 refine TC.region ?_
 refine wai rfl rfl ?_
 refine TL.nil (nt ?_)
 refine TC.block ?_
 refine TC.loop (ι := Nat) (fun k => k ≤ l.length) (fun k => [(0, .pointer (some ⟨b, 0, none⟩)), (3, .slice yt.1 l.length yt.2), (4, .int .i64 ((k : Nat) : Int))]) (fun k => sepL [RX b (wakeL (tickT1 T) (l.take k)).m.ids (wakeL (tickT1 T) (l.take k)), slc 3 1 yt.1 l.length yt.2 (ints l), F]) (fun k => l.length - k) 0 (Nat.zero_le _) ⟨rfl, rfl, rfl, trivial⟩ (ent_take 1 rfl (ent_take 0 rfl (ent_take 0 rfl (ent_nil _)))) ?_
 rintro k hk ρ0
 dsimp only [updL] at hk ⊢
 refine TC.seq ?_
 refine TC.seq ?_
 refine TC.region ?_
 refine wmi rfl rfl ?_
 refine wms rfl rfl ?_
 refine q rfl rfl (len 3 1 rfl rfl) ?_
 refine q rfl rfl (lss rfl rfl) ?_
 refine TL.nil (nt ?_)
 refine TC.condD rfl (fun hlt => ?_) (fun hlt => ?_)
 ·have hlt2 : k < l.length := by omega
  obtain ⟨x, hx⟩ : ∃ x, l[k]? = some x := ⟨l[k], List.getElem?_eq_getElem hlt2⟩
  have hpos : 0 < (ints l).length := by omega
  have hsn := wakeL_snoc (tickT1 T) l hx
  have hP2 := wakeL_TP (l.take k) hP.tick1
  obtain ⟨f1, f2, f3, f4⟩ := wakeL_f (l.take k) (tickT1 T)
  have hjt : (l.take k).length ≤ k := by rw [List.length_take]; omega
  have hb2 : TB (wakeL (tickT1 T) (l.take k)) := ⟨by rw [f1]; exact hb.ids, by rw [f2]; show 0 ≤ T.now + 1 ∧ T.now + 1 ≤ _; omega, by rw [f3]; exact hb.tn, by have e : (tickT1 T).told = T.told := rfl; rw [e] at f4; omega⟩
  refine TC.skip (nt ?_)
  refine TC.seq ?_
  refine TC.block ?_
  refine TC.region ?_
  refine wmp rfl rfl ?_
  refine wms rfl rfl ?_
  refine wmi rfl rfl ?_
  refine q rfl rfl (ixS 3 1 rfl rfl rfl (by omega) (by assumption)) ?_
  refine q rfl rfl (ldS rfl rfl (ints_get hx)) ?_
  refine e rfl ?_
  refine cl (xwake_ok b (wakeL (tickT1 T) (l.take k)) hP2 hb2 x 14) rfl PkL.p trivial ?_
  intro _ _
  change TL _ _ _ _ _ _ _ _ (sepL [_, _, _])
  refine TL.nil (nb (nt ?_))
  refine TC.region ?_
  refine wmi rfl rfl ?_
  refine q rfl rfl (addI rfl rfl (by omega) (by omega)) ?_
  refine wai rfl rfl ?_
  refine TL.nil (nt ?_)
  exact ⟨rfl, (k + 1), (by omega), (by omega), ⟨rfl, rfl, rfl, trivial⟩, (by rw [hsn]; exact (ent_take 0 rfl (ent_take 0 rfl (ent_take 0 rfl (ent_nil _)))))⟩
 ·obtain rfl : k = l.length := by omega
  rw [List.take_length]
  have hP2 := wakeL_TP l hP.tick1
  obtain ⟨f1, f2, f3, f4⟩ := wakeL_f l (tickT1 T)
  have hb2 : TB (wakeL (tickT1 T) l) := ⟨by rw [f1]; exact hb.ids, by rw [f2]; show 0 ≤ T.now + 1 ∧ T.now + 1 ≤ _; omega, by rw [f3]; exact hb.tn, by have e : (tickT1 T).told = T.told := rfl; rw [e] at f4; omega⟩
  have hS2 := hP2.lenS
  have hi2 := hb2.ids
  refine TC.exit (et (et (eb (nt ?_))))
  refine TC.seq ?_
  refine TC.region ?_
  refine wmp rfl rfl ?_
  refine wnc rfl rfl ?_
  refine wfa 1 rfl rfl rfl ?_
  refine e rfl ?_
  refine cl (xqrun b (wakeL (tickT1 T) l).m.ids (wakeL (tickT1 T) l) (by omega)) rfl (picked_nil _) (ent_one 0 rfl) ?_
  intro _ _
  change TL _ _ _ _ _ _ _ _ (sepL [_, _, _])
  refine wai rfl rfl ?_
  refine TL.nil (nt ?_)
  refine TC.ret ?_
  exact Ret.i () [_] ⟨rfl, trivial⟩ rfl trivial (ent_take 0 rfl (ent_take 1 rfl (ent_nil _)))
set_option maxRecDepth 4000 in
set_option maxHeartbeats 2000000 in
theorem xtake_ok (b : Nat) (T : TS) (hP : TP T []) (hb : TB T) (id : Int) (hto : T.told.length ≤ 90000000) : FSpec Tryz.prog 75 [.pointer (some ⟨b, 0, none⟩), .int .i64 id] noRd [RX b T.m.ids T] (fun _ : Unit => .tuple #[.agg (ofC (takeT T id).2.1).toArray, .int .i64 (takeT T id).2.2]) (fun _ => True) (fun _ => [RX b (takeT T id).1.m.ids (takeT T id).1]) := by
 refine FSpec.intro (rs := [.cell 4 26, .tmp 5]) (by kernel_rfl) Tryz.func75 rfl Tryz.ntmps75 (by rfl) rfl ?_
 intro F _
 change TC _ _ _ _ _ _ _ (sepL [_, _])
 obtain ⟨hSl, hAl, _, hil⟩ := hP.bds hb
 have hW := hP.wm
 have hnow := hb.now
 have htn := hb.tn
 have htold := hb.told
 have hNS := hP.rj.nd
 have hNA := hP.na
 refine TC.seq ?_
 refine TC.region ?_
 refine e rfl ?_
 refine al (l := [.int _ _, .int _ _, .bool _]) rfl rfl ?_
 intro b3
 refine wai rfl rfl ?_
 refine TL.nil (nt ?_)
 refine TC.seq ?_
 refine TC.region ?_
 refine wmp rfl rfl ?_
 refine wmi rfl rfl ?_
 refine e rfl ?_
 refine cl (xstate_ok b T hW hil id) rfl (picked_nil _) (ent_one 1 rfl) ?_
 intro _ _
 change TL _ _ _ _ _ _ _ _ (sepL [_, _, _])
 by_cases h1 : id ∈ T.m.ids
 ·have hh : ¬ id ∉ T.m.ids := fun h => h h1
  have hge : 0 ≤ stT T id := by
   rw [stT, if_pos h1]
   split
   ·have := hW.rg id h1; omega
   ·decide
  refine wai rfl rfl ?_
  refine TL.nil (nt ?_)
  refine TC.seq ?_
  refine TC.seq ?_
  refine TC.region ?_
  refine wmi rfl rfl ?_
  refine q rfl rfl (lss rfl rfl) ?_
  refine TL.nil (nt ?_)
  refine TC.condD rfl (fun hc4 => absurd hc4 (by omega)) (fun hc4 => ?_)
  refine TC.skip (nt ?_)
  refine TC.seq ?_
  refine TC.seq ?_
  refine TC.region ?_
  refine wmi rfl rfl ?_
  refine q rfl rfl (neI rfl rfl) ?_
  refine wmb rfl rfl ?_
  refine TL.split 19 rfl (fun hs0 => ?_) (fun hs0 => ?_)
  ·have hs0 := of_decide_eq_true hs0
   refine qg rfl rfl rfl (mv (v := .int _ _) rfl) ?_
   refine qg rfl rfl rfl (neI rfl rfl) ?_
   refine q rfl rfl (pkT (v := .bool _) rfl rfl) ?_
   refine TL.nil (nt ?_)
   refine TC.condD rfl (fun hs2 => ?_) (fun hs2 => ?_)
   ·have hv : takeT T id = (T, o0, 12) := by rw [takeT, if_neg hh, if_pos ⟨hs0, hs2⟩]
    rw [hv]
    refine TC.seq ?_
    refine TC.region ?_
    refine q rfl rfl (bld (cs := [.int _ _, .int _ _, .bool _]) rfl) ?_
    refine e0 ?_
    refine st (v := .agg #[_, _, _]) (vs := [_, _, _]) 3 rfl rfl rfl rfl rfl rfl (Nat.le_of_ble_eq_true rfl) rfl ?_
    refine wai rfl rfl ?_
    refine TL.nil (nt ?_)
    refine TC.ret (rt ?_)
    exact Ret.i () [_, _] ⟨(rcN (n := 3) rfl rfl rfl rfl), rfl, trivial⟩ rfl trivial (ent_take 1 rfl (ent_take 1 rfl (ent_nil _)))
   ·have hs3 : ¬ (stT T id ≠ 0 ∧ stT T id ≠ 2) := fun h => hs2 h.2
    refine TC.skip (nt ?_)
    refine TC.seq ?_
    refine TC.region ?_
    refine wmp rfl rfl ?_
    refine wnc rfl rfl ?_
    refine wfa 5 rfl rfl rfl ?_
    refine wmi rfl rfl ?_
    refine e rfl ?_
    refine cl (xptake b T.m.ids T hW hil id) rfl PkL.p trivial ?_
    intro _ _
    change TL _ _ _ _ _ _ _ _ (sepL [_, _, _])
    refine wmt rfl rfl ?_
    refine q rfl rfl (pu (v := .agg #[_, _, _]) (fun _ => rfl)) ?_
    refine q rfl rfl (pu (v := .int _ _) (fun _ => rfl)) ?_
    refine q rfl rfl (pu (v := .int _ _) (fun _ => rfl)) ?_
    refine e rfl ?_
    refine al (l := [.int _ _, .int _ _, .bool _]) rfl rfl ?_
    intro b4
    refine e0 ?_
    refine st (v := .agg #[_, _, _]) (vs := [_, _, _]) 3 rfl rfl rfl rfl rfl rfl (Nat.le_of_ble_eq_true rfl) rfl ?_
    refine wai rfl rfl ?_
    refine wai rfl rfl ?_
    refine TL.nil (nt ?_)
    refine TC.seq ?_
    refine TC.seq ?_
    refine TC.region ?_
    refine wmi rfl rfl ?_
    refine q rfl rfl (neI rfl rfl) ?_
    refine TL.nil (nt ?_)
    refine TC.condD rfl (fun he => ?_) (fun he => ?_)
    ·have ho := take_err he
     have hv : takeT T id = (T, o0, (takeS T.m id).2.2.2) := by rw [takeT, if_neg hh, if_neg hs3, if_pos he]
     have hX : RX b T.m.ids (mS T (takeS T.m id).1) = RX b T.m.ids T := by rw [ho]; rfl
     rw [hv, hX]
     refine TC.seq ?_
     refine TC.region ?_
     refine q rfl rfl (bld (cs := [.int _ _, .int _ _, .bool _]) rfl) ?_
     refine wmi rfl rfl ?_
     refine e0 ?_
     refine st (v := .agg #[_, _, _]) (vs := [_, _, _]) 3 rfl rfl rfl rfl rfl rfl (Nat.le_of_ble_eq_true rfl) rfl ?_
     refine wai rfl rfl ?_
     refine TL.nil (nt ?_)
     refine TC.ret (rt ?_)
     exact Ret.i () [_, _] ⟨(rcN (n := 3) rfl rfl rfl rfl), rfl, trivial⟩ rfl trivial (ent_take 2 rfl (ent_take 2 rfl (ent_nil _)))
    ·have he := Decidable.not_not.1 he
     have hv : takeT T id = (takeT1 (mS T (takeS T.m id).1) (takeS T.m id).2.1 (takeS T.m id).2.2.1 (stT T id) id, (takeS T.m id).2.1, 0) := by rw [takeT, if_neg hh, if_neg hs3, if_neg (fun h => h he)]
     rw [hv]
     dsimp only
     obtain ⟨o, r9, hr, ho, f1, f2, f3, f4, f5⟩ := take_form hW h1 he
     have hel : (takeS T.m id).2.2.1 ≠ -1 → (takeS T.m id).2.2.1 ∈ T.m.ids := fun hne => by
      rcases f5 with ⟨_, e, _⟩ | ⟨_, e, _, g, _⟩
      ·exact absurd e hne
      ·rw [e] at hne ⊢; exact (g hne).1
     have hcl0 : o.cl = false → (takeS T.m id).2.2.1 = -1 := fun hc => by
      rcases f5 with ⟨_, e, _⟩ | ⟨e, _⟩
      ·exact e
      ·rw [hc] at e; cases e
     rw [ho]
     clear hv he f5 ho hr
     generalize (takeS T.m id).2.2.1 = el at hel hcl0 ⊢
     have hi9 := take_ids T.m id
     generalize (takeS T.m id).1 = m9 at hi9 ⊢
     refine TC.skip (nt ?_)
     refine TC.seq ?_
     refine TC.region ?_
     refine was rfl rfl ?_
     refine TL.nil (nt ?_)
     refine TC.seq ?_
     refine TC.seq ?_
     have hZ : TZ (mS T m9) 0 := ⟨by show m9.ids.length ≤ 1000; rw [hi9]; exact hil, hnow, htn, hto, hSl, hAl⟩
     have hm9 : (mS T m9).m.ids = T.m.ids := hi9
     have hmi : ∀ (W : TS) (w y : Int), W.m.ids = T.m.ids → (tellS W w [y]).m.ids = T.m.ids := fun W w y e => by rw [(tells_f W w [y]).1, e]
     refine TC.region ?_
     refine wfa 2 rfl rfl rfl ?_
     refine wld rfl rfl rfl rfl ?_
     refine q rfl rfl (notB rfl) ?_
     refine TL.nil (nt ?_)
     cases hc : o.cl with
     | true => ?_
     | false => ?_
     ·refine TC.condF rfl ?_
      refine TC.skip (nt ?_)
      refine TC.seq ?_
      refine TC.region ?_
      refine wmp rfl rfl ?_
      refine wms rfl rfl ?_
      refine e rfl ?_
      refine cl (xsay_ok b T.m.ids (mS T m9) hil 0 none 0 [] (fun x hx => (List.not_mem_nil hx).elim) (by have := (TZ.S hZ); simp <;> omega) (by have := (TZ.A hZ); omega) hNA (by have := (TZ.told hZ); simp <;> omega)) rfl PkL.p (RdS_nil9 _) ?_
      intro _ _
      change TL _ _ _ _ _ _ _ _ (sepL [_, _, _, _])
      change TL _ _ _ _ _ _ _ _ (sepL (RX b T.m.ids (mS T m9) :: _))
      refine TL.nil (nt ?_)
      refine TC.seq ?_
      refine TC.seq ?_
      refine TC.region ?_
      refine wmi rfl rfl ?_
      refine q rfl rfl (geq rfl rfl) ?_
      refine TL.nil (nt ?_)
      rcases Decidable.em (el = -1) with hl | hl
      ·subst hl
       refine TC.condD rfl (fun hc5 => absurd hc5 (by decide)) (fun hc5 => ?_)
       refine TC.skip (nt ?_)
       refine TC.seq ?_
       refine TC.seq ?_
       refine TC.region ?_
       refine wmi rfl rfl ?_
       refine q rfl rfl (eqI rfl rfl) ?_
       refine TL.nil (nt ?_)
       refine TC.condD rfl (fun hs9 => ?_) (fun hs9 => ?_)
       ·have hv : takeT1 (mS T m9) o (-1) (stT T id) id = tellS (mS T m9) 0 [id] := by rw [takeT1, if_pos hc, if_pos (show (-1 : Int) = -1 from rfl), if_pos hs9]
        rw [hv, show (tellS (mS T m9) 0 [id]).m.ids = T.m.ids from hmi (mS T m9) 0 id hm9]
        refine TC.region ?_
        refine wmp rfl rfl ?_
        refine wmi rfl rfl ?_
        refine e rfl ?_
        refine bs (cs := [.int _ _]) rfl ?_
        intro b5
        refine e rfl ?_
        refine cl (xsay_ok b T.m.ids (mS T m9) hil (0) (some ⟨b5, 0, none⟩) _ [id] (fun x hx => by rw [List.mem_singleton.1 hx]; exact h1) (by have := (TZ.S hZ); simp <;> omega) (by have := (TZ.A hZ); omega) hNA (by have := (TZ.told hZ); simp <;> omega)) rfl PkL.p ⟨_, RdSI.rd (ad := some ⟨b5, 0, none⟩)⟩ ?_
        intro _ _
        change TL _ _ _ _ _ _ _ _ (sepL [_, _, _, _, _])
        refine TL.nil (nt ?_)
        refine TC.seq ?_
        refine TC.region ?_
        refine q rfl rfl (ldN (vs := [_, _, _]) 3 rfl rfl rfl rfl) ?_
        refine e0 ?_
        refine st (v := .agg #[_, _, _]) (vs := [_, _, _]) 3 rfl rfl rfl rfl rfl rfl (Nat.le_of_ble_eq_true rfl) rfl ?_
        refine wai rfl rfl ?_
        refine TL.nil (nt ?_)
        refine TC.ret ?_
        exact Ret.i () [_, _] ⟨(rcN (n := 3) rfl rfl rfl rfl), rfl, trivial⟩ (by rw [ofC, hc]; rfl) trivial (ent_take 1 rfl (ent_take 3 rfl (ent_nil _)))
       ·have hv : takeT1 (mS T m9) o (-1) (stT T id) id = (mS T m9) := by rw [takeT1, if_pos hc, if_pos (show (-1 : Int) = -1 from rfl), if_neg hs9]
        rw [hv, show (mS T m9).m.ids = T.m.ids from hm9]
        refine TC.skip (nt ?_)
        refine TC.seq ?_
        refine TC.region ?_
        refine q rfl rfl (ldN (vs := [_, _, _]) 3 rfl rfl rfl rfl) ?_
        refine e0 ?_
        refine st (v := .agg #[_, _, _]) (vs := [_, _, _]) 3 rfl rfl rfl rfl rfl rfl (Nat.le_of_ble_eq_true rfl) rfl ?_
        refine wai rfl rfl ?_
        refine TL.nil (nt ?_)
        refine TC.ret ?_
        exact Ret.i () [_, _] ⟨(rcN (n := 3) rfl rfl rfl rfl), rfl, trivial⟩ (by rw [ofC, hc]; rfl) trivial (ent_take 1 rfl (ent_take 2 rfl (ent_nil _)))
      ·have hl0 := hW.ge el (hel hl)
       refine TC.condD rfl (fun hc6 => ?_) (fun hc6 => absurd (hl0) hc6)
       refine TC.region ?_
       refine wmp rfl rfl ?_
       refine wmi rfl rfl ?_
       refine e rfl ?_
       refine bs (cs := [.int _ _]) rfl ?_
       intro b6
       refine e rfl ?_
       refine cl (xsay_ok b T.m.ids (mS T m9) hil (13) (some ⟨b6, 0, none⟩) _ [el] (fun x hx => by rw [List.mem_singleton.1 hx]; exact (hel hl)) (by have := (TZ.S hZ); simp <;> omega) (by have := (TZ.A hZ); omega) hNA (by have := (TZ.told hZ); simp <;> omega)) rfl PkL.p ⟨_, RdSI.rd (ad := some ⟨b6, 0, none⟩)⟩ ?_
       intro _ _
       change TL _ _ _ _ _ _ _ _ (sepL [_, _, _, _, _])
       refine TL.nil (nt ?_)
       refine TC.seq ?_
       refine TC.seq ?_
       refine TC.region ?_
       refine wmi rfl rfl ?_
       refine q rfl rfl (eqI rfl rfl) ?_
       refine TL.nil (nt ?_)
       refine TC.condD rfl (fun hs9 => ?_) (fun hs9 => ?_)
       ·have hv : takeT1 (mS T m9) o el (stT T id) id = tellS (tellS (mS T m9) 13 [el]) 0 [id] := by rw [takeT1, if_pos hc, if_neg hl, if_pos hs9]
        rw [hv, show (tellS (tellS (mS T m9) 13 [el]) 0 [id]).m.ids = T.m.ids from hmi (tellS (mS T m9) 13 [el]) 0 id (hmi (mS T m9) 13 el hm9)]
        refine TC.region ?_
        refine wmp rfl rfl ?_
        refine wmi rfl rfl ?_
        refine e rfl ?_
        refine bs (cs := [.int _ _]) rfl ?_
        intro b7
        refine e rfl ?_
        refine cl (xsay_ok b T.m.ids (tellS (mS T m9) 13 [el]) hil (0) (some ⟨b7, 0, none⟩) _ [id] (fun x hx => by rw [List.mem_singleton.1 hx]; exact h1) (by have := (TZ.S (TZ.tell hZ 13 el)); simp <;> omega) (by have := (TZ.A (TZ.tell hZ 13 el)); omega) (Nd_tell 13 [el] (mS T m9) hNA) (by have := (TZ.told (TZ.tell hZ 13 el)); simp <;> omega)) rfl PkL.p ⟨_, RdSI.rd (ad := some ⟨b7, 0, none⟩)⟩ ?_
        intro _ _
        change TL _ _ _ _ _ _ _ _ (sepL [_, _, _, _, _, _])
        refine TL.nil (nt ?_)
        refine TC.seq ?_
        refine TC.region ?_
        refine q rfl rfl (ldN (vs := [_, _, _]) 3 rfl rfl rfl rfl) ?_
        refine e0 ?_
        refine st (v := .agg #[_, _, _]) (vs := [_, _, _]) 3 rfl rfl rfl rfl rfl rfl (Nat.le_of_ble_eq_true rfl) rfl ?_
        refine wai rfl rfl ?_
        refine TL.nil (nt ?_)
        refine TC.ret ?_
        exact Ret.i () [_, _] ⟨(rcN (n := 3) rfl rfl rfl rfl), rfl, trivial⟩ (by rw [ofC, hc]; rfl) trivial (ent_take 1 rfl (ent_take 4 rfl (ent_nil _)))
       ·have hv : takeT1 (mS T m9) o el (stT T id) id = (tellS (mS T m9) 13 [el]) := by rw [takeT1, if_pos hc, if_neg hl, if_neg hs9]
        rw [hv, show (tellS (mS T m9) 13 [el]).m.ids = T.m.ids from (hmi (mS T m9) 13 el hm9)]
        refine TC.skip (nt ?_)
        refine TC.seq ?_
        refine TC.region ?_
        refine q rfl rfl (ldN (vs := [_, _, _]) 3 rfl rfl rfl rfl) ?_
        refine e0 ?_
        refine st (v := .agg #[_, _, _]) (vs := [_, _, _]) 3 rfl rfl rfl rfl rfl rfl (Nat.le_of_ble_eq_true rfl) rfl ?_
        refine wai rfl rfl ?_
        refine TL.nil (nt ?_)
        refine TC.ret ?_
        exact Ret.i () [_, _] ⟨(rcN (n := 3) rfl rfl rfl rfl), rfl, trivial⟩ (by rw [ofC, hc]; rfl) trivial (ent_take 1 rfl (ent_take 3 rfl (ent_nil _)))
     ·obtain rfl := hcl0 hc
      refine TC.condT rfl ?_
      refine TC.region ?_
      refine wfa 0 rfl rfl rfl ?_
      refine wld rfl rfl rfl rfl ?_
      refine e rfl ?_
      refine bs (cs := [.int _ _]) rfl ?_
      intro b8
      refine was rfl rfl ?_
      refine TL.nil (nt ?_)
      refine TC.seq ?_
      refine TC.region ?_
      refine wmp rfl rfl ?_
      refine wms rfl rfl ?_
      refine e rfl ?_
      refine cl (xsay_ok b T.m.ids (mS T m9) hil (0) (some ⟨b8, 0, none⟩) _ [o.fr] (fun x hx => by rw [List.mem_singleton.1 hx]; exact f1) (by have := (TZ.S hZ); simp <;> omega) (by have := (TZ.A hZ); omega) hNA (by have := (TZ.told hZ); simp <;> omega)) rfl PkL.p ⟨_, RdSI.rd (ad := some ⟨b8, 0, none⟩)⟩ ?_
      intro _ _
      change TL _ _ _ _ _ _ _ _ (sepL [_, _, _, _, _])
      refine TL.nil (nt ?_)
      refine TC.seq ?_
      refine TC.seq ?_
      refine TC.region ?_
      refine wmi rfl rfl ?_
      refine q rfl rfl (geq rfl rfl) ?_
      refine TL.nil (nt ?_)
      refine TC.condD rfl (fun hc7 => absurd hc7 (by decide)) (fun hc7 => ?_)
      refine TC.skip (nt ?_)
      refine TC.seq ?_
      refine TC.seq ?_
      refine TC.region ?_
      refine wmi rfl rfl ?_
      refine q rfl rfl (eqI rfl rfl) ?_
      refine TL.nil (nt ?_)
      refine TC.condD rfl (fun hs9 => ?_) (fun hs9 => ?_)
      ·have hv : takeT1 (mS T m9) o (-1) (stT T id) id = tellS (tellS (mS T m9) 0 [o.fr]) 0 [id] := by rw [takeT1, if_neg (show ¬ (o.cl = true) by rw [hc]; decide), if_pos (show (-1 : Int) = -1 from rfl), if_pos hs9]
       rw [hv, show (tellS (tellS (mS T m9) 0 [o.fr]) 0 [id]).m.ids = T.m.ids from hmi (tellS (mS T m9) 0 [o.fr]) 0 id (hmi (mS T m9) 0 o.fr hm9)]
       refine TC.region ?_
       refine wmp rfl rfl ?_
       refine wmi rfl rfl ?_
       refine e rfl ?_
       refine bs (cs := [.int _ _]) rfl ?_
       intro b9
       refine e rfl ?_
       refine cl (xsay_ok b T.m.ids (tellS (mS T m9) 0 [o.fr]) hil (0) (some ⟨b9, 0, none⟩) _ [id] (fun x hx => by rw [List.mem_singleton.1 hx]; exact h1) (by have := (TZ.S (TZ.tell hZ 0 o.fr)); simp <;> omega) (by have := (TZ.A (TZ.tell hZ 0 o.fr)); omega) (Nd_tell 0 [o.fr] (mS T m9) hNA) (by have := (TZ.told (TZ.tell hZ 0 o.fr)); simp <;> omega)) rfl PkL.p ⟨_, RdSI.rd (ad := some ⟨b9, 0, none⟩)⟩ ?_
       intro _ _
       change TL _ _ _ _ _ _ _ _ (sepL [_, _, _, _, _, _])
       refine TL.nil (nt ?_)
       refine TC.seq ?_
       refine TC.region ?_
       refine q rfl rfl (ldN (vs := [_, _, _]) 3 rfl rfl rfl rfl) ?_
       refine e0 ?_
       refine st (v := .agg #[_, _, _]) (vs := [_, _, _]) 3 rfl rfl rfl rfl rfl rfl (Nat.le_of_ble_eq_true rfl) rfl ?_
       refine wai rfl rfl ?_
       refine TL.nil (nt ?_)
       refine TC.ret ?_
       exact Ret.i () [_, _] ⟨(rcN (n := 3) rfl rfl rfl rfl), rfl, trivial⟩ (by rw [ofC, hc]; rfl) trivial (ent_take 1 rfl (ent_take 4 rfl (ent_nil _)))
      ·have hv : takeT1 (mS T m9) o (-1) (stT T id) id = (tellS (mS T m9) 0 [o.fr]) := by rw [takeT1, if_neg (show ¬ (o.cl = true) by rw [hc]; decide), if_pos (show (-1 : Int) = -1 from rfl), if_neg hs9]
       rw [hv, show (tellS (mS T m9) 0 [o.fr]).m.ids = T.m.ids from (hmi (mS T m9) 0 o.fr hm9)]
       refine TC.skip (nt ?_)
       refine TC.seq ?_
       refine TC.region ?_
       refine q rfl rfl (ldN (vs := [_, _, _]) 3 rfl rfl rfl rfl) ?_
       refine e0 ?_
       refine st (v := .agg #[_, _, _]) (vs := [_, _, _]) 3 rfl rfl rfl rfl rfl rfl (Nat.le_of_ble_eq_true rfl) rfl ?_
       refine wai rfl rfl ?_
       refine TL.nil (nt ?_)
       refine TC.ret ?_
       exact Ret.i () [_, _] ⟨(rcN (n := 3) rfl rfl rfl rfl), rfl, trivial⟩ (by rw [ofC, hc]; rfl) trivial (ent_take 1 rfl (ent_take 3 rfl (ent_nil _)))
  ·have hs0 := of_decide_eq_false hs0
   have hs3 : ¬ (stT T id ≠ 0 ∧ stT T id ≠ 2) := fun h => hs0 h.1
   refine qs rfl rfl ?_
   refine qs rfl rfl ?_
   refine q rfl rfl (pkF (v := .bool _) rfl rfl) ?_
   refine TL.nil (nt ?_)
   refine TC.condF rfl ?_
   refine TC.skip (nt ?_)
   refine TC.seq ?_
   refine TC.region ?_
   refine wmp rfl rfl ?_
   refine wnc rfl rfl ?_
   refine wfa 5 rfl rfl rfl ?_
   refine wmi rfl rfl ?_
   refine e rfl ?_
   refine cl (xptake b T.m.ids T hW hil id) rfl PkL.p trivial ?_
   intro _ _
   change TL _ _ _ _ _ _ _ _ (sepL [_, _, _])
   refine wmt rfl rfl ?_
   refine q rfl rfl (pu (v := .agg #[_, _, _]) (fun _ => rfl)) ?_
   refine q rfl rfl (pu (v := .int _ _) (fun _ => rfl)) ?_
   refine q rfl rfl (pu (v := .int _ _) (fun _ => rfl)) ?_
   refine e rfl ?_
   refine al (l := [.int _ _, .int _ _, .bool _]) rfl rfl ?_
   intro b10
   refine e0 ?_
   refine st (v := .agg #[_, _, _]) (vs := [_, _, _]) 3 rfl rfl rfl rfl rfl rfl (Nat.le_of_ble_eq_true rfl) rfl ?_
   refine wai rfl rfl ?_
   refine wai rfl rfl ?_
   refine TL.nil (nt ?_)
   refine TC.seq ?_
   refine TC.seq ?_
   refine TC.region ?_
   refine wmi rfl rfl ?_
   refine q rfl rfl (neI rfl rfl) ?_
   refine TL.nil (nt ?_)
   refine TC.condD rfl (fun he => ?_) (fun he => ?_)
   ·have ho := take_err he
    have hv : takeT T id = (T, o0, (takeS T.m id).2.2.2) := by rw [takeT, if_neg hh, if_neg hs3, if_pos he]
    have hX : RX b T.m.ids (mS T (takeS T.m id).1) = RX b T.m.ids T := by rw [ho]; rfl
    rw [hv, hX]
    refine TC.seq ?_
    refine TC.region ?_
    refine q rfl rfl (bld (cs := [.int _ _, .int _ _, .bool _]) rfl) ?_
    refine wmi rfl rfl ?_
    refine e0 ?_
    refine st (v := .agg #[_, _, _]) (vs := [_, _, _]) 3 rfl rfl rfl rfl rfl rfl (Nat.le_of_ble_eq_true rfl) rfl ?_
    refine wai rfl rfl ?_
    refine TL.nil (nt ?_)
    refine TC.ret (rt ?_)
    exact Ret.i () [_, _] ⟨(rcN (n := 3) rfl rfl rfl rfl), rfl, trivial⟩ rfl trivial (ent_take 2 rfl (ent_take 2 rfl (ent_nil _)))
   ·have he := Decidable.not_not.1 he
    have hv : takeT T id = (takeT1 (mS T (takeS T.m id).1) (takeS T.m id).2.1 (takeS T.m id).2.2.1 (stT T id) id, (takeS T.m id).2.1, 0) := by rw [takeT, if_neg hh, if_neg hs3, if_neg (fun h => h he)]
    rw [hv]
    dsimp only
    obtain ⟨o, r9, hr, ho, f1, f2, f3, f4, f5⟩ := take_form hW h1 he
    have hel : (takeS T.m id).2.2.1 ≠ -1 → (takeS T.m id).2.2.1 ∈ T.m.ids := fun hne => by
     rcases f5 with ⟨_, e, _⟩ | ⟨_, e, _, g, _⟩
     ·exact absurd e hne
     ·rw [e] at hne ⊢; exact (g hne).1
    have hcl0 : o.cl = false → (takeS T.m id).2.2.1 = -1 := fun hc => by
     rcases f5 with ⟨_, e, _⟩ | ⟨e, _⟩
     ·exact e
     ·rw [hc] at e; cases e
    rw [ho]
    clear hv he f5 ho hr
    generalize (takeS T.m id).2.2.1 = el at hel hcl0 ⊢
    have hi9 := take_ids T.m id
    generalize (takeS T.m id).1 = m9 at hi9 ⊢
    refine TC.skip (nt ?_)
    refine TC.seq ?_
    refine TC.region ?_
    refine was rfl rfl ?_
    refine TL.nil (nt ?_)
    refine TC.seq ?_
    refine TC.seq ?_
    have hZ : TZ (mS T m9) 0 := ⟨by show m9.ids.length ≤ 1000; rw [hi9]; exact hil, hnow, htn, hto, hSl, hAl⟩
    have hm9 : (mS T m9).m.ids = T.m.ids := hi9
    have hmi : ∀ (W : TS) (w y : Int), W.m.ids = T.m.ids → (tellS W w [y]).m.ids = T.m.ids := fun W w y e => by rw [(tells_f W w [y]).1, e]
    refine TC.region ?_
    refine wfa 2 rfl rfl rfl ?_
    refine wld rfl rfl rfl rfl ?_
    refine q rfl rfl (notB rfl) ?_
    refine TL.nil (nt ?_)
    cases hc : o.cl with
    | true => ?_
    | false => ?_
    ·refine TC.condF rfl ?_
     refine TC.skip (nt ?_)
     refine TC.seq ?_
     refine TC.region ?_
     refine wmp rfl rfl ?_
     refine wms rfl rfl ?_
     refine e rfl ?_
     refine cl (xsay_ok b T.m.ids (mS T m9) hil 0 none 0 [] (fun x hx => (List.not_mem_nil hx).elim) (by have := (TZ.S hZ); simp <;> omega) (by have := (TZ.A hZ); omega) hNA (by have := (TZ.told hZ); simp <;> omega)) rfl PkL.p (RdS_nil9 _) ?_
     intro _ _
     change TL _ _ _ _ _ _ _ _ (sepL [_, _, _, _])
     change TL _ _ _ _ _ _ _ _ (sepL (RX b T.m.ids (mS T m9) :: _))
     refine TL.nil (nt ?_)
     refine TC.seq ?_
     refine TC.seq ?_
     refine TC.region ?_
     refine wmi rfl rfl ?_
     refine q rfl rfl (geq rfl rfl) ?_
     refine TL.nil (nt ?_)
     rcases Decidable.em (el = -1) with hl | hl
     ·subst hl
      refine TC.condD rfl (fun hc8 => absurd hc8 (by decide)) (fun hc8 => ?_)
      refine TC.skip (nt ?_)
      refine TC.seq ?_
      refine TC.seq ?_
      refine TC.region ?_
      refine wmi rfl rfl ?_
      refine q rfl rfl (eqI rfl rfl) ?_
      refine TL.nil (nt ?_)
      refine TC.condD rfl (fun hs9 => ?_) (fun hs9 => ?_)
      ·have hv : takeT1 (mS T m9) o (-1) (stT T id) id = tellS (mS T m9) 0 [id] := by rw [takeT1, if_pos hc, if_pos (show (-1 : Int) = -1 from rfl), if_pos hs9]
       rw [hv, show (tellS (mS T m9) 0 [id]).m.ids = T.m.ids from hmi (mS T m9) 0 id hm9]
       refine TC.region ?_
       refine wmp rfl rfl ?_
       refine wmi rfl rfl ?_
       refine e rfl ?_
       refine bs (cs := [.int _ _]) rfl ?_
       intro b11
       refine e rfl ?_
       refine cl (xsay_ok b T.m.ids (mS T m9) hil (0) (some ⟨b11, 0, none⟩) _ [id] (fun x hx => by rw [List.mem_singleton.1 hx]; exact h1) (by have := (TZ.S hZ); simp <;> omega) (by have := (TZ.A hZ); omega) hNA (by have := (TZ.told hZ); simp <;> omega)) rfl PkL.p ⟨_, RdSI.rd (ad := some ⟨b11, 0, none⟩)⟩ ?_
       intro _ _
       change TL _ _ _ _ _ _ _ _ (sepL [_, _, _, _, _])
       refine TL.nil (nt ?_)
       refine TC.seq ?_
       refine TC.region ?_
       refine q rfl rfl (ldN (vs := [_, _, _]) 3 rfl rfl rfl rfl) ?_
       refine e0 ?_
       refine st (v := .agg #[_, _, _]) (vs := [_, _, _]) 3 rfl rfl rfl rfl rfl rfl (Nat.le_of_ble_eq_true rfl) rfl ?_
       refine wai rfl rfl ?_
       refine TL.nil (nt ?_)
       refine TC.ret ?_
       exact Ret.i () [_, _] ⟨(rcN (n := 3) rfl rfl rfl rfl), rfl, trivial⟩ (by rw [ofC, hc]; rfl) trivial (ent_take 1 rfl (ent_take 3 rfl (ent_nil _)))
      ·have hv : takeT1 (mS T m9) o (-1) (stT T id) id = (mS T m9) := by rw [takeT1, if_pos hc, if_pos (show (-1 : Int) = -1 from rfl), if_neg hs9]
       rw [hv, show (mS T m9).m.ids = T.m.ids from hm9]
       refine TC.skip (nt ?_)
       refine TC.seq ?_
       refine TC.region ?_
       refine q rfl rfl (ldN (vs := [_, _, _]) 3 rfl rfl rfl rfl) ?_
       refine e0 ?_
       refine st (v := .agg #[_, _, _]) (vs := [_, _, _]) 3 rfl rfl rfl rfl rfl rfl (Nat.le_of_ble_eq_true rfl) rfl ?_
       refine wai rfl rfl ?_
       refine TL.nil (nt ?_)
       refine TC.ret ?_
       exact Ret.i () [_, _] ⟨(rcN (n := 3) rfl rfl rfl rfl), rfl, trivial⟩ (by rw [ofC, hc]; rfl) trivial (ent_take 1 rfl (ent_take 2 rfl (ent_nil _)))
     ·have hl0 := hW.ge el (hel hl)
      refine TC.condD rfl (fun hc9 => ?_) (fun hc9 => absurd (hl0) hc9)
      refine TC.region ?_
      refine wmp rfl rfl ?_
      refine wmi rfl rfl ?_
      refine e rfl ?_
      refine bs (cs := [.int _ _]) rfl ?_
      intro b12
      refine e rfl ?_
      refine cl (xsay_ok b T.m.ids (mS T m9) hil (13) (some ⟨b12, 0, none⟩) _ [el] (fun x hx => by rw [List.mem_singleton.1 hx]; exact (hel hl)) (by have := (TZ.S hZ); simp <;> omega) (by have := (TZ.A hZ); omega) hNA (by have := (TZ.told hZ); simp <;> omega)) rfl PkL.p ⟨_, RdSI.rd (ad := some ⟨b12, 0, none⟩)⟩ ?_
      intro _ _
      change TL _ _ _ _ _ _ _ _ (sepL [_, _, _, _, _])
      refine TL.nil (nt ?_)
      refine TC.seq ?_
      refine TC.seq ?_
      refine TC.region ?_
      refine wmi rfl rfl ?_
      refine q rfl rfl (eqI rfl rfl) ?_
      refine TL.nil (nt ?_)
      refine TC.condD rfl (fun hs9 => ?_) (fun hs9 => ?_)
      ·have hv : takeT1 (mS T m9) o el (stT T id) id = tellS (tellS (mS T m9) 13 [el]) 0 [id] := by rw [takeT1, if_pos hc, if_neg hl, if_pos hs9]
       rw [hv, show (tellS (tellS (mS T m9) 13 [el]) 0 [id]).m.ids = T.m.ids from hmi (tellS (mS T m9) 13 [el]) 0 id (hmi (mS T m9) 13 el hm9)]
       refine TC.region ?_
       refine wmp rfl rfl ?_
       refine wmi rfl rfl ?_
       refine e rfl ?_
       refine bs (cs := [.int _ _]) rfl ?_
       intro b13
       refine e rfl ?_
       refine cl (xsay_ok b T.m.ids (tellS (mS T m9) 13 [el]) hil (0) (some ⟨b13, 0, none⟩) _ [id] (fun x hx => by rw [List.mem_singleton.1 hx]; exact h1) (by have := (TZ.S (TZ.tell hZ 13 el)); simp <;> omega) (by have := (TZ.A (TZ.tell hZ 13 el)); omega) (Nd_tell 13 [el] (mS T m9) hNA) (by have := (TZ.told (TZ.tell hZ 13 el)); simp <;> omega)) rfl PkL.p ⟨_, RdSI.rd (ad := some ⟨b13, 0, none⟩)⟩ ?_
       intro _ _
       change TL _ _ _ _ _ _ _ _ (sepL [_, _, _, _, _, _])
       refine TL.nil (nt ?_)
       refine TC.seq ?_
       refine TC.region ?_
       refine q rfl rfl (ldN (vs := [_, _, _]) 3 rfl rfl rfl rfl) ?_
       refine e0 ?_
       refine st (v := .agg #[_, _, _]) (vs := [_, _, _]) 3 rfl rfl rfl rfl rfl rfl (Nat.le_of_ble_eq_true rfl) rfl ?_
       refine wai rfl rfl ?_
       refine TL.nil (nt ?_)
       refine TC.ret ?_
       exact Ret.i () [_, _] ⟨(rcN (n := 3) rfl rfl rfl rfl), rfl, trivial⟩ (by rw [ofC, hc]; rfl) trivial (ent_take 1 rfl (ent_take 4 rfl (ent_nil _)))
      ·have hv : takeT1 (mS T m9) o el (stT T id) id = (tellS (mS T m9) 13 [el]) := by rw [takeT1, if_pos hc, if_neg hl, if_neg hs9]
       rw [hv, show (tellS (mS T m9) 13 [el]).m.ids = T.m.ids from (hmi (mS T m9) 13 el hm9)]
       refine TC.skip (nt ?_)
       refine TC.seq ?_
       refine TC.region ?_
       refine q rfl rfl (ldN (vs := [_, _, _]) 3 rfl rfl rfl rfl) ?_
       refine e0 ?_
       refine st (v := .agg #[_, _, _]) (vs := [_, _, _]) 3 rfl rfl rfl rfl rfl rfl (Nat.le_of_ble_eq_true rfl) rfl ?_
       refine wai rfl rfl ?_
       refine TL.nil (nt ?_)
       refine TC.ret ?_
       exact Ret.i () [_, _] ⟨(rcN (n := 3) rfl rfl rfl rfl), rfl, trivial⟩ (by rw [ofC, hc]; rfl) trivial (ent_take 1 rfl (ent_take 3 rfl (ent_nil _)))
    ·obtain rfl := hcl0 hc
     refine TC.condT rfl ?_
     refine TC.region ?_
     refine wfa 0 rfl rfl rfl ?_
     refine wld rfl rfl rfl rfl ?_
     refine e rfl ?_
     refine bs (cs := [.int _ _]) rfl ?_
     intro b14
     refine was rfl rfl ?_
     refine TL.nil (nt ?_)
     refine TC.seq ?_
     refine TC.region ?_
     refine wmp rfl rfl ?_
     refine wms rfl rfl ?_
     refine e rfl ?_
     refine cl (xsay_ok b T.m.ids (mS T m9) hil (0) (some ⟨b14, 0, none⟩) _ [o.fr] (fun x hx => by rw [List.mem_singleton.1 hx]; exact f1) (by have := (TZ.S hZ); simp <;> omega) (by have := (TZ.A hZ); omega) hNA (by have := (TZ.told hZ); simp <;> omega)) rfl PkL.p ⟨_, RdSI.rd (ad := some ⟨b14, 0, none⟩)⟩ ?_
     intro _ _
     change TL _ _ _ _ _ _ _ _ (sepL [_, _, _, _, _])
     refine TL.nil (nt ?_)
     refine TC.seq ?_
     refine TC.seq ?_
     refine TC.region ?_
     refine wmi rfl rfl ?_
     refine q rfl rfl (geq rfl rfl) ?_
     refine TL.nil (nt ?_)
     refine TC.condD rfl (fun hc10 => absurd hc10 (by decide)) (fun hc10 => ?_)
     refine TC.skip (nt ?_)
     refine TC.seq ?_
     refine TC.seq ?_
     refine TC.region ?_
     refine wmi rfl rfl ?_
     refine q rfl rfl (eqI rfl rfl) ?_
     refine TL.nil (nt ?_)
     refine TC.condD rfl (fun hs9 => ?_) (fun hs9 => ?_)
     ·have hv : takeT1 (mS T m9) o (-1) (stT T id) id = tellS (tellS (mS T m9) 0 [o.fr]) 0 [id] := by rw [takeT1, if_neg (show ¬ (o.cl = true) by rw [hc]; decide), if_pos (show (-1 : Int) = -1 from rfl), if_pos hs9]
      rw [hv, show (tellS (tellS (mS T m9) 0 [o.fr]) 0 [id]).m.ids = T.m.ids from hmi (tellS (mS T m9) 0 [o.fr]) 0 id (hmi (mS T m9) 0 o.fr hm9)]
      refine TC.region ?_
      refine wmp rfl rfl ?_
      refine wmi rfl rfl ?_
      refine e rfl ?_
      refine bs (cs := [.int _ _]) rfl ?_
      intro b15
      refine e rfl ?_
      refine cl (xsay_ok b T.m.ids (tellS (mS T m9) 0 [o.fr]) hil (0) (some ⟨b15, 0, none⟩) _ [id] (fun x hx => by rw [List.mem_singleton.1 hx]; exact h1) (by have := (TZ.S (TZ.tell hZ 0 o.fr)); simp <;> omega) (by have := (TZ.A (TZ.tell hZ 0 o.fr)); omega) (Nd_tell 0 [o.fr] (mS T m9) hNA) (by have := (TZ.told (TZ.tell hZ 0 o.fr)); simp <;> omega)) rfl PkL.p ⟨_, RdSI.rd (ad := some ⟨b15, 0, none⟩)⟩ ?_
      intro _ _
      change TL _ _ _ _ _ _ _ _ (sepL [_, _, _, _, _, _])
      refine TL.nil (nt ?_)
      refine TC.seq ?_
      refine TC.region ?_
      refine q rfl rfl (ldN (vs := [_, _, _]) 3 rfl rfl rfl rfl) ?_
      refine e0 ?_
      refine st (v := .agg #[_, _, _]) (vs := [_, _, _]) 3 rfl rfl rfl rfl rfl rfl (Nat.le_of_ble_eq_true rfl) rfl ?_
      refine wai rfl rfl ?_
      refine TL.nil (nt ?_)
      refine TC.ret ?_
      exact Ret.i () [_, _] ⟨(rcN (n := 3) rfl rfl rfl rfl), rfl, trivial⟩ (by rw [ofC, hc]; rfl) trivial (ent_take 1 rfl (ent_take 4 rfl (ent_nil _)))
     ·have hv : takeT1 (mS T m9) o (-1) (stT T id) id = (tellS (mS T m9) 0 [o.fr]) := by rw [takeT1, if_neg (show ¬ (o.cl = true) by rw [hc]; decide), if_pos (show (-1 : Int) = -1 from rfl), if_neg hs9]
      rw [hv, show (tellS (mS T m9) 0 [o.fr]).m.ids = T.m.ids from (hmi (mS T m9) 0 o.fr hm9)]
      refine TC.skip (nt ?_)
      refine TC.seq ?_
      refine TC.region ?_
      refine q rfl rfl (ldN (vs := [_, _, _]) 3 rfl rfl rfl rfl) ?_
      refine e0 ?_
      refine st (v := .agg #[_, _, _]) (vs := [_, _, _]) 3 rfl rfl rfl rfl rfl rfl (Nat.le_of_ble_eq_true rfl) rfl ?_
      refine wai rfl rfl ?_
      refine TL.nil (nt ?_)
      refine TC.ret ?_
      exact Ret.i () [_, _] ⟨(rcN (n := 3) rfl rfl rfl rfl), rfl, trivial⟩ (by rw [ofC, hc]; rfl) trivial (ent_take 1 rfl (ent_take 3 rfl (ent_nil _)))
 ·have hv : takeT T id = (T, o0, 6) := if_pos h1
  rw [hv]
  rw [show stT T id = -1 from if_neg h1]
  refine wai rfl rfl ?_
  refine TL.nil (nt ?_)
  refine TC.seq ?_
  refine TC.seq ?_
  refine TC.region ?_
  refine wmi rfl rfl ?_
  refine q rfl rfl (lss rfl rfl) ?_
  refine TL.nil (nt ?_)
  refine TC.condD rfl (fun hc3 => ?_) (fun hc3 => absurd (by decide) hc3)
  refine TC.seq ?_
  refine TC.region ?_
  refine q rfl rfl (bld (cs := [.int _ _, .int _ _, .bool _]) rfl) ?_
  refine e0 ?_
  refine st (v := .agg #[_, _, _]) (vs := [_, _, _]) 3 rfl rfl rfl rfl rfl rfl (Nat.le_of_ble_eq_true rfl) rfl ?_
  refine wai rfl rfl ?_
  refine TL.nil (nt ?_)
  refine TC.ret (rt ?_)
  exact Ret.i () [_, _] ⟨(rcN (n := 3) rfl rfl rfl rfl), rfl, trivial⟩ rfl trivial (ent_take 1 rfl (ent_take 1 rfl (ent_nil _)))
end Go.Proofs.YtdfmfhcjnjfjbaaGreat
namespace Go.Proofs.YtdfmfhcjnjfjbaaGreat
open Go Go.QM
structure TAct where
 kind : Int
 id : Int
 to : Int
 n : Int
 m : Int
 cl : Bool
def tactC (t : TAct) : List Value := [.int .i64 t.kind, .int .i64 t.id, .int .i64 t.to, .int .i64 t.n, .int .i64 t.m, .bool t.cl]
theorem tactC_sz (t : TAct) : (tactC t).length = 6 := rfl
def tactsC (l : List TAct) : List Value := l.flatMap tactC
theorem tactsC_length (l : List TAct) : (tactsC l).length = l.length * 6 := flat_length tactC_sz l
def tkN (t : TAct) : Int := if t.m < 0 ∨ 40 < t.m then 1 else t.m
structure DG (T : TS) (n k : Nat) : Prop where
 g : TG T n
 ln : T.m.ids.length ≤ k
theorem DG.of {T : TS} {n k : Nat} (h : DG T n k) {T' : TS} (hg : TG T' (n + 1)) (hl : T'.m.ids.length ≤ T.m.ids.length) : DG T' (n + 50) (k + 1) := ⟨hg.up (by omega), by have := h.ln; omega⟩
theorem DG.up {T : TS} {n k n2 k2 : Nat} (h : DG T n k) (hn : n ≤ n2) (hk : k ≤ k2) : DG T n2 k2 := ⟨h.g.up hn, by have := h.ln; omega⟩
theorem i_start (T : TS) (id p s : Int) : (startS T id p s).1.m.ids.length ≤ T.m.ids.length := by
 rw [startS]; repeat' split
 all_goals exact Nat.le_refl _
theorem i_stop (T : TS) (id : Int) : (stopS T id).1.m.ids.length ≤ T.m.ids.length := by
 rw [stopS]; split
 ·exact Nat.le_refl _
 ·split
  ·exact Nat.le_refl _
  ·show (callS T.m id).1.ids.length ≤ _
   rw [call_ids]; exact Nat.le_refl _
theorem i_remove (T : TS) (id : Int) : (removeS T id).1.m.ids.length ≤ T.m.ids.length := by
 rw [removeS]; split
 ·exact Nat.le_refl _
 ·rename_i h
  show (tellS (outS T id) 13 _).m.ids.length ≤ _
  rw [tells_m]
  show (leaveS T.m id).1.ids.length ≤ _
  rw [leave_ids (Decidable.not_not.1 h)]; exact List.length_filter_le _ _
theorem i_send (T : TS) (fr to gt : Int) (cv : Bool) (ticks : Int) : (sendS T fr to gt cv ticks).1.m.ids.length ≤ T.m.ids.length := by
 rw [sendS]; repeat' split
 all_goals first | exact Nat.le_refl _ | skip
 show (blockS _ fr ticks).m.ids.length ≤ _
 rw [block_m]
 show (offS T.m to _).1.ids.length ≤ _
 rw [off_ids]; exact Nat.le_refl _
theorem i_wait (T : TS) (id ticks : Int) : (waitS T id ticks).1.m.ids.length ≤ T.m.ids.length := by
 rw [waitS]; repeat' split
 all_goals first | exact Nat.le_refl _ | skip
 show (blockS _ id ticks).m.ids.length ≤ _
 rw [block_m]
 show (openS T.m id).1.ids.length ≤ _
 rw [open_ids]; exact Nat.le_refl _
theorem takeT1_m (T : TS) (o : Off) (el s id : Int) : (takeT1 T o el s id).m = T.m := by
 rw [takeT1]; repeat' split
 all_goals first | rfl | simp only [tells_m]
theorem i_take (T : TS) (id : Int) : (takeT T id).1.m.ids.length ≤ T.m.ids.length := by
 rw [takeT]; repeat' split
 all_goals first | exact Nat.le_refl _ | skip
 show (takeT1 _ _ _ _ id).m.ids.length ≤ _
 rw [takeT1_m]
 show (takeS T.m id).1.ids.length ≤ _
 rw [take_ids]; exact Nat.le_refl _
theorem i_refuse (T : TS) (id why : Int) : (refuseS T id why).1.m.ids.length ≤ T.m.ids.length := by
 rw [refuseS]; split
 ·exact Nat.le_refl _
 ·split
  ·exact Nat.le_refl _
  ·show (tellS _ why _).m.ids.length ≤ _
   rw [tells_m]
   show (callS T.m _).1.ids.length ≤ _
   rw [call_ids]; exact Nat.le_refl _
theorem i_answer (T : TS) (id : Int) : (answerS T id).1.m.ids.length ≤ T.m.ids.length := by
 rw [answerS]; split
 ·exact Nat.le_refl _
 ·split
  ·exact Nat.le_refl _
  ·split
   ·show (tellS _ 0 _).m.ids.length ≤ _
    rw [tells_m]
    show (ansS T.m id).1.ids.length ≤ _
    rw [ans_ids]; exact Nat.le_refl _
   ·exact Nat.le_refl _
theorem i_wake (T : TS) (why id : Int) : (wakeS T why id).1.m.ids.length ≤ T.m.ids.length := by rw [(wake_f T why id).1]; exact Nat.le_refl _
theorem i_close (T : TS) (g : Int) : (closeT T g).1.m.ids.length ≤ T.m.ids.length := by
 show (tellS _ 13 _).m.ids.length ≤ _
 rw [tells_m]; exact Nat.le_refl _
theorem i_tick (T : TS) : (tickT T).m.ids.length ≤ T.m.ids.length := by
 show (wakeL (tickT1 T) _).m.ids.length ≤ _
 rw [(wakeL_f _ _).1]; exact Nat.le_refl _
theorem DG.add {T : TS} {n k : Nat} (h : DG T n k) (hk : k ≤ 190) (x : Int) : DG (addL T [x]) (n + 50) (k + 1) := by
 have h1 := h.ln
 have h2 := (addL_len [x] T).2
 simp only [List.length_singleton] at h2
 exact ⟨(h.g.adds [x] (by simp; omega)).up (by omega), by omega⟩
set_option maxRecDepth 4000 in
theorem ticks_ok (t : TAct) : FSpec Tryz.prog 80 [.agg (tactC t).toArray] noRd [] (fun _ : Unit => .int .i64 (tkN t)) (fun _ => True) (fun _ => []) := by
 refine FSpec.intro (rs := [.tmp 2]) (by kernel_rfl) Tryz.func80 rfl Tryz.ntmps80 (by rfl) rfl ?_
 intro F _
 change TC _ _ _ _ _ _ _ (sepL [_])
 refine TC.seq ?_
 refine TC.region ?_
 refine e rfl ?_
 refine bx (v := .agg #[_, _, _, _, _, _]) (l := [.int _ _, .int _ _, .int _ _, .int _ _, .int _ _, .bool _]) rfl rfl ?_
 intro b1
 refine wai rfl rfl ?_
 refine TL.nil (nt ?_)
 refine TC.seq ?_
 refine TC.seq ?_
 refine TC.region ?_
 refine wfa 4 rfl rfl rfl ?_
 refine wld rfl rfl rfl rfl ?_
 refine q rfl rfl (lss rfl rfl) ?_
 refine wmb rfl rfl ?_
 refine TL.split 6 rfl (fun h0 => ?_) (fun h0 => ?_)
 ·have h0 := of_decide_eq_true h0
  have hv : tkN t = 1 := if_pos (.inl h0)
  rw [hv]
  refine qs rfl rfl ?_
  refine qs rfl rfl ?_
  refine qs rfl rfl ?_
  refine q rfl rfl (pkT (v := .bool _) rfl rfl) ?_
  refine TL.nil (nt ?_)
  refine TC.condT rfl ?_
  refine TC.seq ?_
  refine TC.region ?_
  refine wai rfl rfl ?_
  refine TL.nil (nt ?_)
  refine TC.ret (rt ?_)
  exact Ret.i () [_] ⟨rfl, trivial⟩ rfl trivial (ent_take 1 rfl (ent_nil _))
 ·have h0 := of_decide_eq_false h0
  refine qg rfl rfl rfl (fa 4 rfl rfl) ?_
  refine qg rfl rfl rfl (ld rfl rfl rfl) ?_
  refine qg rfl rfl rfl (gtr rfl rfl) ?_
  refine q rfl rfl (pkF (v := .bool _) rfl rfl) ?_
  refine TL.nil (nt ?_)
  refine TC.condD rfl (fun h1 => ?_) (fun h1 => ?_)
  ·have hv : tkN t = 1 := if_pos (.inr h1)
   rw [hv]
   refine TC.seq ?_
   refine TC.region ?_
   refine wai rfl rfl ?_
   refine TL.nil (nt ?_)
   refine TC.ret (rt ?_)
   exact Ret.i () [_] ⟨rfl, trivial⟩ rfl trivial (ent_take 1 rfl (ent_nil _))
  ·have hv : tkN t = t.m := if_neg (fun h => h.elim h0 h1)
   rw [hv]
   refine TC.skip (nt ?_)
   refine TC.seq ?_
   refine TC.region ?_
   refine wfa 4 rfl rfl rfl ?_
   refine wld rfl rfl rfl rfl ?_
   refine wai rfl rfl ?_
   refine TL.nil (nt ?_)
   refine TC.ret ?_
   exact Ret.i () [_] ⟨rfl, trivial⟩ rfl trivial (ent_take 1 rfl (ent_nil _))
set_option maxRecDepth 4000 in
set_option maxHeartbeats 4000000 in
theorem xdoes_ok (a b : Nat) (T : TS) (n k : Nat) (h : DG T n k) (hn : n ≤ 300000) (hk : k ≤ 190) (t : TAct) : FSpec Tryz.prog 27 [.pointer (some ⟨a, 0, none⟩), .pointer (some ⟨b, 0, none⟩), .agg (tactC t).toArray] noRd [isT a T, RX b T.m.ids T] (fun _ : TS => .bool true) (fun y => DG y (n + 50) (k + 1)) (fun y => [isT a y, RX b y.m.ids y]) := by
 refine FSpec.intro (rs := [.tmp 6]) (by kernel_rfl) Tryz.func27 rfl Tryz.ntmps27 (by rfl) rfl ?_
 intro F _
 change TC _ _ _ _ _ _ _ (sepL [_, _, _])
 have hg := h.g
 have hP := hg.p
 have hb := hg.tb (by omega)
 have hW := hP.wm
 have htl := hg.tl (by omega)
 have hnw := hg.nw (by omega)
 have hil : T.m.ids.length ≤ 1000 := hb.ids
 refine TC.seq ?_
 refine TC.region ?_
 refine e rfl ?_
 refine bx (v := .agg #[_, _, _, _, _, _]) (l := [.int _ _, .int _ _, .int _ _, .int _ _, .int _ _, .bool _]) rfl rfl ?_
 intro b2
 refine wab rfl rfl ?_
 refine TL.nil (nt ?_)
 refine TC.seq ?_
 refine TC.seq ?_
 refine TC.region ?_
 refine wfa 0 rfl rfl rfl ?_
 refine wld rfl rfl rfl rfl ?_
 refine TL.nil (nt ?_)
 refine TC.block ?_
 refine TC.seq ?_
 refine TC.region ?_
 refine q rfl rfl (eqI rfl rfl) ?_
 refine wab rfl rfl ?_
 refine TL.nil (nt ?_)
 refine TC.condD rfl (fun k0 => ?_) (fun k0 => ?_)
 ·refine TC.seq ?_
  refine TC.drawF _ [] 12 rfl (by kernel_rfl) (by kernel_rfl) (ent_take 0 rfl (ent_nil _)) ?_
  refine fq (i := 0) rfl rfl rfl (by kernel_rfl) (mv (v := .pointer _) rfl) ?_
  refine fq (i := 1) rfl rfl rfl (by kernel_rfl) (fa 1 rfl rfl) ?_
  refine fq (i := 2) rfl rfl rfl (by kernel_rfl) (ld rfl rfl rfl) ?_
  refine fq (i := 5) rfl rfl rfl (by kernel_rfl) (mv (v := .pointer _) rfl) ?_
  refine fq (i := 6) rfl rfl rfl (by kernel_rfl) (fa 1 rfl rfl) ?_
  refine fq (i := 7) rfl rfl rfl (by kernel_rfl) (ld rfl rfl rfl) ?_
  refine ff (i := 3) (j := 8) rfl rfl rfl rfl (by kernel_rfl) ?_ ?_
  ·refine bs (cs := [.int _ _]) rfl ?_
   intro b3
   refine ⟨(ent_take 1 rfl (ent_nil _)), ?_⟩
   refine ff (i := 4) (j := 8) rfl rfl rfl rfl (by kernel_rfl) ?_ ?_
   ·refine cl (tadd_ok a T (some ⟨b3, 0, none⟩) _ [t.id] (by simp) (by omega)) rfl PkL.p ⟨_, RdSI.rd (ad := some ⟨b3, 0, none⟩)⟩ ?_
    intro _ _
    change ent _ _ ∧ TF _ _ _ _ _ _ _ _ _ _ _ (sepL [_, _, _, _, _])
    refine ⟨(ent_take 2 rfl (ent_nil _)), ?_⟩
    refine TF.of [(8, true), (9, true), (10, false), (11, false)] (by kernel_rfl) rfl ?_
    refine de rfl rfl ?_
    refine bs (cs := [.int _ _]) rfl ?_
    intro b4
    refine ⟨(ent_take 3 rfl (ent_nil _)), ?_⟩
    refine de rfl rfl ?_
    refine cl (xadd_ok b T hW hil t.id (some ⟨b4, 0, none⟩) _) rfl PkL.p ⟨_, RdSI.rd (ad := some ⟨b4, 0, none⟩)⟩ ?_
    intro _ _
    change ent _ _ ∧ TD _ _ _ _ _ _ _ _ _ _ (sepL [_, _, _, _, _, _])
    refine ⟨(ent_take 4 rfl (ent_nil _)), ?_⟩
    refine dq rfl rfl rfl (eqI rfl rfl) ?_
    refine vab rfl rfl rfl ?_
    refine TD.nil (nt ?_)
    refine TC.ret (rb (rt ?_))
    exact Ret.i (addL T [t.id]) [_] ⟨rfl, trivial⟩ (congrArg Value.bool (decide_eq_true rfl)) (h.add hk t.id) (ent_take 2 rfl (ent_take 0 rfl (ent_take 3 rfl (ent_nil _))))
   ·refine bs (cs := [.int _ _]) rfl ?_
    intro b5
    refine ⟨(ent_take 2 rfl (ent_nil _)), ?_⟩
    refine TF.of [(4, true), (9, true), (10, false), (11, false)] (by kernel_rfl) rfl ?_
    refine de rfl rfl ?_
    refine cl (tadd_ok a T (some ⟨b3, 0, none⟩) _ [t.id] (by simp) (by omega)) rfl PkL.p ⟨_, RdSI.rd (ad := some ⟨b3, 0, none⟩)⟩ ?_
    intro _ _
    change ent _ _ ∧ TD _ _ _ _ _ _ _ _ _ _ (sepL [_, _, _, _, _, _])
    refine ⟨(ent_take 3 rfl (ent_nil _)), ?_⟩
    refine de rfl rfl ?_
    refine cl (xadd_ok b T hW hil t.id (some ⟨b5, 0, none⟩) _) rfl PkL.p ⟨_, RdSI.rd (ad := some ⟨b5, 0, none⟩)⟩ ?_
    intro _ _
    change ent _ _ ∧ TD _ _ _ _ _ _ _ _ _ _ (sepL [_, _, _, _, _, _])
    refine ⟨(ent_take 4 rfl (ent_nil _)), ?_⟩
    refine dq rfl rfl rfl (eqI rfl rfl) ?_
    refine vab rfl rfl rfl ?_
    refine TD.nil (nt ?_)
    refine TC.ret (rb (rt ?_))
    exact Ret.i (addL T [t.id]) [_] ⟨rfl, trivial⟩ (congrArg Value.bool (decide_eq_true rfl)) (h.add hk t.id) (ent_take 1 rfl (ent_take 0 rfl (ent_take 3 rfl (ent_nil _))))
  ·refine bs (cs := [.int _ _]) rfl ?_
   intro b6
   refine ⟨(ent_take 1 rfl (ent_nil _)), ?_⟩
   refine TF.of [(3, true), (4, true), (9, true), (10, false), (11, false)] (by kernel_rfl) rfl ?_
   refine de rfl rfl ?_
   refine bs (cs := [.int _ _]) rfl ?_
   intro b7
   refine ⟨(ent_take 2 rfl (ent_nil _)), ?_⟩
   refine de rfl rfl ?_
   refine cl (tadd_ok a T (some ⟨b7, 0, none⟩) _ [t.id] (by simp) (by omega)) rfl PkL.p ⟨_, RdSI.rd (ad := some ⟨b7, 0, none⟩)⟩ ?_
   intro _ _
   change ent _ _ ∧ TD _ _ _ _ _ _ _ _ _ _ (sepL [_, _, _, _, _, _])
   refine ⟨(ent_take 3 rfl (ent_nil _)), ?_⟩
   refine de rfl rfl ?_
   refine cl (xadd_ok b T hW hil t.id (some ⟨b6, 0, none⟩) _) rfl PkL.p ⟨_, RdSI.rd (ad := some ⟨b6, 0, none⟩)⟩ ?_
   intro _ _
   change ent _ _ ∧ TD _ _ _ _ _ _ _ _ _ _ (sepL [_, _, _, _, _, _])
   refine ⟨(ent_take 4 rfl (ent_nil _)), ?_⟩
   refine dq rfl rfl rfl (eqI rfl rfl) ?_
   refine vab rfl rfl rfl ?_
   refine TD.nil (nt ?_)
   refine TC.ret (rb (rt ?_))
   exact Ret.i (addL T [t.id]) [_] ⟨rfl, trivial⟩ (congrArg Value.bool (decide_eq_true rfl)) (h.add hk t.id) (ent_take 1 rfl (ent_take 0 rfl (ent_take 3 rfl (ent_nil _))))
 ·refine TC.seq ?_
  refine TC.region ?_
  refine q rfl rfl (eqI rfl rfl) ?_
  refine wab rfl rfl ?_
  refine TL.nil (nt ?_)
  refine TC.condD rfl (fun k1 => ?_) (fun k1 => ?_)
  ·refine TC.seq ?_
   refine TC.draw _ [] [(0, false), (1, false), (2, false), (3, false), (4, false), (5, false), (6, false), (8, false), (9, false), (10, false), (11, false), (12, false), (13, false), (14, false), (7, true), (15, true), (16, false), (17, false)] (by kernel_rfl) (by kernel_rfl) (ent_take 0 rfl (ent_nil _)) ?_
   refine vmp rfl rfl rfl ?_
   refine vfa 1 rfl rfl rfl rfl ?_
   refine vld rfl rfl rfl rfl rfl ?_
   refine vfa 3 rfl rfl rfl rfl ?_
   refine vld rfl rfl rfl rfl rfl ?_
   refine vfa 4 rfl rfl rfl rfl ?_
   refine vld rfl rfl rfl rfl rfl ?_
   refine vmp rfl rfl rfl ?_
   refine vfa 1 rfl rfl rfl rfl ?_
   refine vld rfl rfl rfl rfl rfl ?_
   refine vfa 3 rfl rfl rfl rfl ?_
   refine vld rfl rfl rfl rfl rfl ?_
   refine vfa 4 rfl rfl rfl rfl ?_
   refine vld rfl rfl rfl rfl rfl ?_
   refine de rfl rfl ?_
   refine cl (tstart_ok a T hP hb t.id t.n t.m) rfl PkL.p trivial ?_
   intro _ _
   change ent _ _ ∧ TD _ _ _ _ _ _ _ _ _ _ (sepL [_, _, _, _])
   refine ⟨(ent_take 1 rfl (ent_nil _)), ?_⟩
   refine de rfl rfl ?_
   refine cl (xstart_ok b T hP hb t.id t.n t.m) rfl PkL.p trivial ?_
   intro _ _
   change ent _ _ ∧ TD _ _ _ _ _ _ _ _ _ _ (sepL [_, _, _, _])
   refine ⟨(ent_take 2 rfl (ent_nil _)), ?_⟩
   refine dq rfl rfl rfl (eqI rfl rfl) ?_
   refine vab rfl rfl rfl ?_
   refine TD.nil (nt ?_)
   refine TC.ret (rb (rt ?_))
   exact Ret.i _ [_] ⟨rfl, trivial⟩ (congrArg Value.bool (decide_eq_true rfl)) (h.of (hg.start t.id t.n t.m) (i_start T t.id t.n t.m)) (ent_take 1 rfl (ent_take 0 rfl (ent_take 1 rfl (ent_nil _))))
  ·refine TC.seq ?_
   refine TC.region ?_
   refine q rfl rfl (eqI rfl rfl) ?_
   refine wab rfl rfl ?_
   refine TL.nil (nt ?_)
   refine TC.condD rfl (fun k2 => ?_) (fun k2 => ?_)
   ·refine TC.seq ?_
    refine TC.draw _ [] [(0, false), (1, false), (2, false), (4, false), (5, false), (6, false), (3, true), (7, true), (8, false), (9, false)] (by kernel_rfl) (by kernel_rfl) (ent_take 0 rfl (ent_nil _)) ?_
    refine vmp rfl rfl rfl ?_
    refine vfa 1 rfl rfl rfl rfl ?_
    refine vld rfl rfl rfl rfl rfl ?_
    refine vmp rfl rfl rfl ?_
    refine vfa 1 rfl rfl rfl rfl ?_
    refine vld rfl rfl rfl rfl rfl ?_
    refine de rfl rfl ?_
    refine cl (tstop_ok a T hP hb t.id) rfl PkL.p trivial ?_
    intro _ _
    change ent _ _ ∧ TD _ _ _ _ _ _ _ _ _ _ (sepL [_, _, _, _])
    refine ⟨(ent_take 1 rfl (ent_nil _)), ?_⟩
    refine de rfl rfl ?_
    refine cl (xstop_ok b T hP hb t.id) rfl PkL.p trivial ?_
    intro _ _
    change ent _ _ ∧ TD _ _ _ _ _ _ _ _ _ _ (sepL [_, _, _, _])
    refine ⟨(ent_take 2 rfl (ent_nil _)), ?_⟩
    refine dq rfl rfl rfl (eqI rfl rfl) ?_
    refine vab rfl rfl rfl ?_
    refine TD.nil (nt ?_)
    refine TC.ret (rb (rt ?_))
    exact Ret.i _ [_] ⟨rfl, trivial⟩ (congrArg Value.bool (decide_eq_true rfl)) (h.of (hg.stop t.id) (i_stop T t.id)) (ent_take 1 rfl (ent_take 0 rfl (ent_take 1 rfl (ent_nil _))))
   ·refine TC.seq ?_
    refine TC.region ?_
    refine q rfl rfl (eqI rfl rfl) ?_
    refine wab rfl rfl ?_
    refine TL.nil (nt ?_)
    refine TC.condD rfl (fun k3 => ?_) (fun k3 => ?_)
    ·refine TC.seq ?_
     refine TC.draw _ [] [(0, false), (1, false), (2, false), (4, false), (5, false), (6, false), (3, true), (7, true), (8, false), (9, false)] (by kernel_rfl) (by kernel_rfl) (ent_take 0 rfl (ent_nil _)) ?_
     refine vmp rfl rfl rfl ?_
     refine vfa 1 rfl rfl rfl rfl ?_
     refine vld rfl rfl rfl rfl rfl ?_
     refine vmp rfl rfl rfl ?_
     refine vfa 1 rfl rfl rfl rfl ?_
     refine vld rfl rfl rfl rfl rfl ?_
     refine de rfl rfl ?_
     refine cl (tremove_ok a T hP hb t.id htl) rfl PkL.p trivial ?_
     intro _ _
     change ent _ _ ∧ TD _ _ _ _ _ _ _ _ _ _ (sepL [_, _, _, _])
     refine ⟨(ent_take 1 rfl (ent_nil _)), ?_⟩
     refine de rfl rfl ?_
     refine cl (xremove_ok b T hP hb t.id htl) rfl PkL.p trivial ?_
     intro _ _
     change ent _ _ ∧ TD _ _ _ _ _ _ _ _ _ _ (sepL [_, _, _, _])
     refine ⟨(ent_take 2 rfl (ent_nil _)), ?_⟩
     refine dq rfl rfl rfl (eqI rfl rfl) ?_
     refine vab rfl rfl rfl ?_
     refine TD.nil (nt ?_)
     refine TC.ret (rb (rt ?_))
     exact Ret.i _ [_] ⟨rfl, trivial⟩ (congrArg Value.bool (decide_eq_true rfl)) (h.of (hg.remove t.id) (i_remove T t.id)) (ent_take 1 rfl (ent_take 0 rfl (ent_take 1 rfl (ent_nil _))))
    ·refine TC.seq ?_
     refine TC.region ?_
     refine q rfl rfl (eqI rfl rfl) ?_
     refine wab rfl rfl ?_
     refine TL.nil (nt ?_)
     refine TC.condD rfl (fun k4 => ?_) (fun k4 => ?_)
     ·refine TC.seq ?_
      refine TC.draw _ [] [(0, false), (1, false), (2, false), (3, false), (4, false), (5, false), (6, false), (7, false), (8, false), (9, false), (10, false), (12, false), (13, false), (14, false), (15, false), (16, false), (17, false), (18, false), (19, false), (20, false), (21, false), (22, false), (11, true), (23, true), (24, false), (25, false)] (by kernel_rfl) (by kernel_rfl) (ent_take 0 rfl (ent_nil _)) ?_
      refine vmp rfl rfl rfl ?_
      refine vfa 1 rfl rfl rfl rfl ?_
      refine vld rfl rfl rfl rfl rfl ?_
      refine vfa 2 rfl rfl rfl rfl ?_
      refine vld rfl rfl rfl rfl rfl ?_
      refine vfa 3 rfl rfl rfl rfl ?_
      refine vld rfl rfl rfl rfl rfl ?_
      refine vfa 5 rfl rfl rfl rfl ?_
      refine vld rfl rfl rfl rfl rfl ?_
      refine vfa 4 rfl rfl rfl rfl ?_
      refine vld rfl rfl rfl rfl rfl ?_
      refine vmp rfl rfl rfl ?_
      refine vfa 1 rfl rfl rfl rfl ?_
      refine vld rfl rfl rfl rfl rfl ?_
      refine vfa 2 rfl rfl rfl rfl ?_
      refine vld rfl rfl rfl rfl rfl ?_
      refine vfa 3 rfl rfl rfl rfl ?_
      refine vld rfl rfl rfl rfl rfl ?_
      refine vfa 5 rfl rfl rfl rfl ?_
      refine vld rfl rfl rfl rfl rfl ?_
      refine vfa 4 rfl rfl rfl rfl ?_
      refine vld rfl rfl rfl rfl rfl ?_
      refine de rfl rfl ?_
      refine cl (tsend_ok a T hP hb t.id t.to t.n t.cl t.m) rfl PkL.p trivial ?_
      intro _ _
      change ent _ _ ∧ TD _ _ _ _ _ _ _ _ _ _ (sepL [_, _, _, _])
      refine ⟨(ent_take 1 rfl (ent_nil _)), ?_⟩
      refine de rfl rfl ?_
      refine cl (xsend_ok b T hP hb t.id t.to t.n t.cl t.m) rfl PkL.p trivial ?_
      intro _ _
      change ent _ _ ∧ TD _ _ _ _ _ _ _ _ _ _ (sepL [_, _, _, _])
      refine ⟨(ent_take 2 rfl (ent_nil _)), ?_⟩
      refine dq rfl rfl rfl (eqI rfl rfl) ?_
      refine vab rfl rfl rfl ?_
      refine TD.nil (nt ?_)
      refine TC.ret (rb (rt ?_))
      exact Ret.i _ [_] ⟨rfl, trivial⟩ (congrArg Value.bool (decide_eq_true rfl)) (h.of (hg.send t.id t.to t.n t.cl t.m) (i_send T t.id t.to t.n t.cl t.m)) (ent_take 1 rfl (ent_take 0 rfl (ent_take 1 rfl (ent_nil _))))
     ·refine TC.seq ?_
      refine TC.region ?_
      refine q rfl rfl (eqI rfl rfl) ?_
      refine wab rfl rfl ?_
      refine TL.nil (nt ?_)
      refine TC.condD rfl (fun k5 => ?_) (fun k5 => ?_)
      ·refine TC.seq ?_
       refine TC.draw _ [] [(0, false), (1, false), (2, false), (3, false), (4, false), (6, false), (7, false), (8, false), (9, false), (10, false), (5, true), (11, true), (12, false), (13, false)] (by kernel_rfl) (by kernel_rfl) (ent_take 0 rfl (ent_nil _)) ?_
       refine vmp rfl rfl rfl ?_
       refine vfa 1 rfl rfl rfl rfl ?_
       refine vld rfl rfl rfl rfl rfl ?_
       refine vfa 4 rfl rfl rfl rfl ?_
       refine vld rfl rfl rfl rfl rfl ?_
       refine vmp rfl rfl rfl ?_
       refine vfa 1 rfl rfl rfl rfl ?_
       refine vld rfl rfl rfl rfl rfl ?_
       refine vfa 4 rfl rfl rfl rfl ?_
       refine vld rfl rfl rfl rfl rfl ?_
       refine de rfl rfl ?_
       refine cl (twait_ok a T hP hb t.id t.m) rfl PkL.p trivial ?_
       intro _ _
       change ent _ _ ∧ TD _ _ _ _ _ _ _ _ _ _ (sepL [_, _, _, _])
       refine ⟨(ent_take 1 rfl (ent_nil _)), ?_⟩
       refine de rfl rfl ?_
       refine cl (xwait_ok b T hP hb t.id t.m) rfl PkL.p trivial ?_
       intro _ _
       change ent _ _ ∧ TD _ _ _ _ _ _ _ _ _ _ (sepL [_, _, _, _])
       refine ⟨(ent_take 2 rfl (ent_nil _)), ?_⟩
       refine dq rfl rfl rfl (eqI rfl rfl) ?_
       refine vab rfl rfl rfl ?_
       refine TD.nil (nt ?_)
       refine TC.ret (rb (rt ?_))
       exact Ret.i _ [_] ⟨rfl, trivial⟩ (congrArg Value.bool (decide_eq_true rfl)) (h.of (hg.wait t.id t.m) (i_wait T t.id t.m)) (ent_take 1 rfl (ent_take 0 rfl (ent_take 1 rfl (ent_nil _))))
      ·refine TC.seq ?_
       refine TC.region ?_
       refine q rfl rfl (eqI rfl rfl) ?_
       refine wab rfl rfl ?_
       refine TL.nil (nt ?_)
       refine TC.condD rfl (fun k6 => ?_) (fun k6 => ?_)
       ·refine TC.seq ?_
        refine TC.region ?_
        refine wmp rfl rfl ?_
        refine wfa 1 rfl rfl rfl ?_
        refine wld rfl rfl rfl rfl ?_
        refine e rfl ?_
        refine cl (ttake_ok a T hP hb t.id htl) rfl PkL.p trivial ?_
        intro _ _
        change TL _ _ _ _ _ _ _ _ (sepL [_, _, _, _])
        refine wmt rfl rfl ?_
        refine q rfl rfl (pu (v := .agg #[_, _, _]) (fun _ => rfl)) ?_
        refine q rfl rfl (pu (v := .int _ _) (fun _ => rfl)) ?_
        refine e rfl ?_
        refine al (l := [.int _ _, .int _ _, .bool _]) rfl rfl ?_
        intro b8
        refine e0 ?_
        refine st (v := .agg #[_, _, _]) (vs := [_, _, _]) 3 rfl rfl rfl rfl rfl rfl (Nat.le_of_ble_eq_true rfl) rfl ?_
        refine wai rfl rfl ?_
        refine TL.nil (nt ?_)
        refine TC.seq ?_
        refine TC.region ?_
        refine wmp rfl rfl ?_
        refine wfa 1 rfl rfl rfl ?_
        refine wld rfl rfl rfl rfl ?_
        refine e rfl ?_
        refine cl (xtake_ok b T hP hb t.id htl) rfl PkL.p trivial ?_
        intro _ _
        change TL _ _ _ _ _ _ _ _ (sepL [_, _, _, _, _])
        generalize (takeT T t.id).2 = z9
        refine wmt rfl rfl ?_
        refine q rfl rfl (pu (v := .agg #[_, _, _]) (fun _ => rfl)) ?_
        refine q rfl rfl (pu (v := .int _ _) (fun _ => rfl)) ?_
        refine e rfl ?_
        refine al (l := [.int _ _, .int _ _, .bool _]) rfl rfl ?_
        intro b9
        refine e0 ?_
        refine st (v := .agg #[_, _, _]) (vs := [_, _, _]) 3 rfl rfl rfl rfl rfl rfl (Nat.le_of_ble_eq_true rfl) rfl ?_
        refine wai rfl rfl ?_
        refine TL.nil (nt ?_)
        refine TC.seq ?_
        refine TC.region ?_
        refine q rfl rfl (ldN (vs := [_, _, _]) 3 rfl rfl rfl rfl) ?_
        refine q rfl rfl (ldN (vs := [_, _, _]) 3 rfl rfl rfl rfl) ?_
        refine q rfl rfl (eqO (by kernel_rfl) rfl rfl) ?_
        refine wmb rfl rfl ?_
        refine TL.known 137 rfl (c := true) (decide_eq_true ⟨rfl, rfl, rfl⟩) ?_
        refine qg rfl rfl rfl (mv (v := .int _ _) rfl) ?_
        refine qg rfl rfl rfl (mv (v := .int _ _) rfl) ?_
        refine qg rfl rfl rfl (eqI rfl rfl) ?_
        refine q rfl rfl (pkT (v := .bool _) rfl rfl) ?_
        refine wab rfl rfl ?_
        refine TL.nil (nt ?_)
        refine TC.ret (rb (rt ?_))
        exact Ret.i _ [_] ⟨rfl, trivial⟩ (congrArg Value.bool (decide_eq_true rfl)) (h.of (hg.take t.id) (i_take T t.id)) (ent_take 3 rfl (ent_take 1 rfl (ent_take 3 rfl (ent_nil _))))
       ·refine TC.seq ?_
        refine TC.region ?_
        refine q rfl rfl (eqI rfl rfl) ?_
        refine wab rfl rfl ?_
        refine TL.nil (nt ?_)
        refine TC.condD rfl (fun k7 => ?_) (fun k7 => ?_)
        ·refine TC.seq ?_
         refine TC.region ?_
         refine wmp rfl rfl ?_
         refine wfa 1 rfl rfl rfl ?_
         refine wld rfl rfl rfl rfl ?_
         refine wfa 3 rfl rfl rfl ?_
         refine wld rfl rfl rfl rfl ?_
         refine e rfl ?_
         refine cl (trefuse_ok a T hP hb t.id t.n) rfl PkL.p trivial ?_
         intro _ _
         change TL _ _ _ _ _ _ _ _ (sepL [_, _, _, _])
         refine wmt rfl rfl ?_
         refine q rfl rfl (pu (v := .agg #[_, _, _]) (fun _ => rfl)) ?_
         refine q rfl rfl (pu (v := .int _ _) (fun _ => rfl)) ?_
         refine e rfl ?_
         refine al (l := [.int _ _, .int _ _, .bool _]) rfl rfl ?_
         intro b10
         refine e0 ?_
         refine st (v := .agg #[_, _, _]) (vs := [_, _, _]) 3 rfl rfl rfl rfl rfl rfl (Nat.le_of_ble_eq_true rfl) rfl ?_
         refine wai rfl rfl ?_
         refine TL.nil (nt ?_)
         refine TC.seq ?_
         refine TC.region ?_
         refine wmp rfl rfl ?_
         refine wfa 1 rfl rfl rfl ?_
         refine wld rfl rfl rfl rfl ?_
         refine wfa 3 rfl rfl rfl ?_
         refine wld rfl rfl rfl rfl ?_
         refine e rfl ?_
         refine cl (xrefuse_ok b T hP hb t.id t.n) rfl PkL.p trivial ?_
         intro _ _
         change TL _ _ _ _ _ _ _ _ (sepL [_, _, _, _, _])
         generalize (refuseS T t.id t.n).2 = z9
         refine wmt rfl rfl ?_
         refine q rfl rfl (pu (v := .agg #[_, _, _]) (fun _ => rfl)) ?_
         refine q rfl rfl (pu (v := .int _ _) (fun _ => rfl)) ?_
         refine e rfl ?_
         refine al (l := [.int _ _, .int _ _, .bool _]) rfl rfl ?_
         intro b11
         refine e0 ?_
         refine st (v := .agg #[_, _, _]) (vs := [_, _, _]) 3 rfl rfl rfl rfl rfl rfl (Nat.le_of_ble_eq_true rfl) rfl ?_
         refine wai rfl rfl ?_
         refine TL.nil (nt ?_)
         refine TC.seq ?_
         refine TC.region ?_
         refine q rfl rfl (ldN (vs := [_, _, _]) 3 rfl rfl rfl rfl) ?_
         refine q rfl rfl (ldN (vs := [_, _, _]) 3 rfl rfl rfl rfl) ?_
         refine q rfl rfl (eqO (by kernel_rfl) rfl rfl) ?_
         refine wmb rfl rfl ?_
         refine TL.known 165 rfl (c := true) (decide_eq_true ⟨rfl, rfl, rfl⟩) ?_
         refine qg rfl rfl rfl (mv (v := .int _ _) rfl) ?_
         refine qg rfl rfl rfl (mv (v := .int _ _) rfl) ?_
         refine qg rfl rfl rfl (eqI rfl rfl) ?_
         refine q rfl rfl (pkT (v := .bool _) rfl rfl) ?_
         refine wab rfl rfl ?_
         refine TL.nil (nt ?_)
         refine TC.ret (rb (rt ?_))
         exact Ret.i _ [_] ⟨rfl, trivial⟩ (congrArg Value.bool (decide_eq_true rfl)) (h.of (hg.refuse t.id t.n) (i_refuse T t.id t.n)) (ent_take 3 rfl (ent_take 1 rfl (ent_take 3 rfl (ent_nil _))))
        ·refine TC.seq ?_
         refine TC.region ?_
         refine q rfl rfl (eqI rfl rfl) ?_
         refine wab rfl rfl ?_
         refine TL.nil (nt ?_)
         refine TC.condD rfl (fun k8 => ?_) (fun k8 => ?_)
         ·refine TC.seq ?_
          refine TC.region ?_
          refine wmp rfl rfl ?_
          refine wfa 1 rfl rfl rfl ?_
          refine wld rfl rfl rfl rfl ?_
          refine e rfl ?_
          refine cl (tanswer_ok a T hP hb t.id) rfl PkL.p trivial ?_
          intro _ _
          change TL _ _ _ _ _ _ _ _ (sepL [_, _, _, _])
          refine wmt rfl rfl ?_
          refine q rfl rfl (pu (v := .int _ _) (fun _ => rfl)) ?_
          refine q rfl rfl (pu (v := .int _ _) (fun _ => rfl)) ?_
          refine wai rfl rfl ?_
          refine wai rfl rfl ?_
          refine TL.nil (nt ?_)
          refine TC.seq ?_
          refine TC.region ?_
          refine wmp rfl rfl ?_
          refine wfa 1 rfl rfl rfl ?_
          refine wld rfl rfl rfl rfl ?_
          refine e rfl ?_
          refine cl (xanswer_ok b T hP hb t.id) rfl PkL.p trivial ?_
          intro _ _
          change TL _ _ _ _ _ _ _ _ (sepL [_, _, _, _])
          generalize (answerS T t.id).2 = z9
          refine wmt rfl rfl ?_
          refine q rfl rfl (pu (v := .int _ _) (fun _ => rfl)) ?_
          refine q rfl rfl (pu (v := .int _ _) (fun _ => rfl)) ?_
          refine wai rfl rfl ?_
          refine wai rfl rfl ?_
          refine TL.nil (nt ?_)
          refine TC.seq ?_
          refine TC.region ?_
          refine wmi rfl rfl ?_
          refine wmi rfl rfl ?_
          refine q rfl rfl (eqI rfl rfl) ?_
          refine wmb rfl rfl ?_
          refine TL.known 189 rfl (c := true) (decide_eq_true rfl) ?_
          refine qg rfl rfl rfl (mv (v := .int _ _) rfl) ?_
          refine qg rfl rfl rfl (mv (v := .int _ _) rfl) ?_
          refine qg rfl rfl rfl (eqI rfl rfl) ?_
          refine q rfl rfl (pkT (v := .bool _) rfl rfl) ?_
          refine wab rfl rfl ?_
          refine TL.nil (nt ?_)
          refine TC.ret (rb (rt ?_))
          exact Ret.i _ [_] ⟨rfl, trivial⟩ (congrArg Value.bool (decide_eq_true rfl)) (h.of (hg.answer t.id) (i_answer T t.id)) (ent_take 1 rfl (ent_take 0 rfl (ent_take 1 rfl (ent_nil _))))
         ·refine TC.seq ?_
          refine TC.region ?_
          refine q rfl rfl (eqI rfl rfl) ?_
          refine wab rfl rfl ?_
          refine TL.nil (nt ?_)
          refine TC.condD rfl (fun k9 => ?_) (fun k9 => ?_)
          ·refine TC.seq ?_
           refine TC.draw _ [] [(0, false), (1, false), (2, false), (3, false), (4, false), (6, false), (7, false), (8, false), (9, false), (10, false), (5, true), (11, true), (12, false), (13, false)] (by kernel_rfl) (by kernel_rfl) (ent_take 0 rfl (ent_nil _)) ?_
           refine vmp rfl rfl rfl ?_
           refine vfa 1 rfl rfl rfl rfl ?_
           refine vld rfl rfl rfl rfl rfl ?_
           refine vfa 3 rfl rfl rfl rfl ?_
           refine vld rfl rfl rfl rfl rfl ?_
           refine vmp rfl rfl rfl ?_
           refine vfa 1 rfl rfl rfl rfl ?_
           refine vld rfl rfl rfl rfl rfl ?_
           refine vfa 3 rfl rfl rfl rfl ?_
           refine vld rfl rfl rfl rfl rfl ?_
           refine de rfl rfl ?_
           refine cl (twake_ok a T hP hb t.id t.n) rfl PkL.p trivial ?_
           intro _ _
           change ent _ _ ∧ TD _ _ _ _ _ _ _ _ _ _ (sepL [_, _, _, _])
           refine ⟨(ent_take 1 rfl (ent_nil _)), ?_⟩
           refine de rfl rfl ?_
           refine cl (xwake_ok b T hP hb t.id t.n) rfl PkL.p trivial ?_
           intro _ _
           change ent _ _ ∧ TD _ _ _ _ _ _ _ _ _ _ (sepL [_, _, _, _])
           refine ⟨(ent_take 2 rfl (ent_nil _)), ?_⟩
           refine dq rfl rfl rfl (eqI rfl rfl) ?_
           refine vab rfl rfl rfl ?_
           refine TD.nil (nt ?_)
           refine TC.ret (rb (rt ?_))
           exact Ret.i _ [_] ⟨rfl, trivial⟩ (congrArg Value.bool (decide_eq_true rfl)) (h.of (hg.wake t.n t.id) (i_wake T t.n t.id)) (ent_take 1 rfl (ent_take 0 rfl (ent_take 1 rfl (ent_nil _))))
          ·refine TC.seq ?_
           refine TC.region ?_
           refine q rfl rfl (eqI rfl rfl) ?_
           refine wab rfl rfl ?_
           refine TL.nil (nt ?_)
           refine TC.condD rfl (fun k10 => ?_) (fun k10 => ?_)
           ·refine TC.seq ?_
            refine TC.draw _ [] [(0, false), (1, false), (2, false), (4, false), (5, false), (6, false), (3, true), (7, true), (8, false), (9, false)] (by kernel_rfl) (by kernel_rfl) (ent_take 0 rfl (ent_nil _)) ?_
            refine vmp rfl rfl rfl ?_
            refine vfa 3 rfl rfl rfl rfl ?_
            refine vld rfl rfl rfl rfl rfl ?_
            refine vmp rfl rfl rfl ?_
            refine vfa 3 rfl rfl rfl rfl ?_
            refine vld rfl rfl rfl rfl rfl ?_
            refine de rfl rfl ?_
            refine cl (tclose_ok a T hP hb t.n) rfl PkL.p trivial ?_
            intro _ _
            change ent _ _ ∧ TD _ _ _ _ _ _ _ _ _ _ (sepL [_, _, _, _])
            refine ⟨(ent_take 1 rfl (ent_nil _)), ?_⟩
            refine de rfl rfl ?_
            refine cl (xclose_ok b T hP hb t.n) rfl PkL.p trivial ?_
            intro _ _
            change ent _ _ ∧ TD _ _ _ _ _ _ _ _ _ _ (sepL [_, _, _, _])
            refine ⟨(ent_take 2 rfl (ent_nil _)), ?_⟩
            refine dq rfl rfl rfl (eqI rfl rfl) ?_
            refine vab rfl rfl rfl ?_
            refine TD.nil (nt ?_)
            refine TC.ret (rb (rt ?_))
            exact Ret.i _ [_] ⟨rfl, trivial⟩ (congrArg Value.bool (decide_eq_true rfl)) (h.of (hg.close t.n) (i_close T t.n)) (ent_take 1 rfl (ent_take 0 rfl (ent_take 1 rfl (ent_nil _))))
           ·refine TC.seq ?_
            refine TC.region ?_
            refine q rfl rfl (eqI rfl rfl) ?_
            refine wab rfl rfl ?_
            refine TL.nil (nt ?_)
            refine TC.condD rfl (fun k11 => ?_) (fun k11 => ?_)
            ·refine TC.seq ?_
             refine TC.region ?_
             refine q rfl rfl (ldN (vs := [_, _, _, _, _, _]) 6 rfl rfl rfl rfl) ?_
             refine e rfl ?_
             refine cl (ticks_ok t) rfl (picked_nil _) trivial ?_
             intro _ _
             change TL _ _ _ _ _ _ _ _ (sepL [_, _, _, _])
             have htk : 0 ≤ tkN t ∧ tkN t ≤ 40 := by rw [tkN]; split <;> omega
             generalize tkN t = tk at htk ⊢
             refine wai rfl rfl ?_
             refine TL.nil (nt ?_)
             refine TC.block ?_
             refine TC.loop (ι := Nat × TS) (fun u => (u.1 : Int) ≤ tk ∧ TG u.2 (n + u.1) ∧ u.2.m.ids.length ≤ k) (fun u => [(0, .pointer (some ⟨a, 0, none⟩)), (1, .pointer (some ⟨b, 0, none⟩)), (19, .int .i64 (tk - (u.1 : Nat) : Int))]) (fun u => sepL [isT a u.2, RX b u.2.m.ids u.2, F]) (fun u => 50 - u.1) ⟨0, T⟩ ⟨by dsimp only; omega, hg, h.ln⟩ ⟨rfl, rfl, congrArg (Value.int .i64) (by dsimp only; omega), trivial⟩ (ent_take 1 rfl (ent_take 1 rfl (ent_take 1 rfl (ent_nil _)))) ?_
             rintro ⟨i, V⟩ ⟨hi, hV, hm⟩ ρ0
             dsimp only [updL] at hi hV hm ⊢
             refine TC.seq ?_
             refine TC.seq ?_
             refine TC.region ?_
             refine wmi rfl rfl ?_
             refine q rfl rfl (gtr rfl rfl) ?_
             refine TL.nil (nt ?_)
             refine TC.condD rfl (fun hlt => ?_) (fun hlt => ?_)
             ·refine TC.skip (nt ?_)
              refine TC.seq ?_
              refine TC.block ?_
              refine TC.seq ?_
              refine TC.region ?_
              refine wmp rfl rfl ?_
              refine e rfl ?_
              refine cl (ttick_ok a V hV.p (hV.tb (by omega)) (hV.tl (by omega)) (hV.nw (by omega))) rfl PkL.p trivial ?_
              intro _ _
              change TL _ _ _ _ _ _ _ _ (sepL [_, _, _])
              refine wmp rfl rfl ?_
              refine e rfl ?_
              refine cl (xtick_ok b V hV.p (hV.tb (by omega)) (hV.tl (by omega)) (hV.nw (by omega))) rfl PkL.p trivial ?_
              intro _ _
              change TL _ _ _ _ _ _ _ _ (sepL [_, _, _])
              refine q rfl rfl (neI rfl rfl) ?_
              refine TL.nil (nt ?_)
              refine TC.condD rfl (fun hc1 => absurd hc1 (fun h9 => h9 rfl)) (fun hc1 => ?_)
              refine TC.skip (nb (nt ?_))
              refine TC.region ?_
              refine wmi rfl rfl ?_
              refine q rfl rfl (subI rfl rfl (by omega) (by omega)) ?_
              refine wai rfl rfl ?_
              refine TL.nil (nt ?_)
              exact ⟨rfl, ⟨i + 1, tickT V⟩, ⟨by dsimp only; omega, hV.tick, Nat.le_trans (i_tick V) hm⟩, (by dsimp only; omega), ⟨rfl, rfl, congrArg (Value.int .i64) (by dsimp only; omega), trivial⟩, (ent_take 1 rfl (ent_take 0 rfl (ent_take 0 rfl (ent_nil _))))⟩
             ·refine TC.exit (et (et (eb (nb (nt ?_)))))
              refine TC.seq ?_
              refine TC.region ?_
              refine wab rfl rfl ?_
              refine TL.nil (nt ?_)
              refine TC.ret ?_
              exact Ret.i V [_] ⟨rfl, trivial⟩ rfl ⟨hV.up (by omega), by omega⟩ (ent_take 0 rfl (ent_take 0 rfl (ent_take 0 rfl (ent_nil _))))
            ·refine TC.seq ?_
             refine TC.region ?_
             refine q rfl rfl (eqI rfl rfl) ?_
             refine wab rfl rfl ?_
             refine TL.nil (nt ?_)
             refine TC.condD rfl (fun k12 => ?_) (fun k12 => ?_)
             ·have hSl := hP.lenS
              refine TC.seq ?_
              refine TC.draw _ [] [(0, false), (2, false), (3, false), (4, false), (1, true), (5, true), (6, false), (7, false)] (by kernel_rfl) (by kernel_rfl) (ent_take 0 rfl (ent_nil _)) ?_
              refine vmp rfl rfl rfl ?_
              refine vmp rfl rfl rfl ?_
              refine vnc rfl rfl rfl ?_
              refine vfa 1 rfl rfl rfl rfl ?_
              refine de rfl rfl ?_
              refine cl (tyield_ok a T hP hb) rfl PkL.p trivial ?_
              intro _ _
              change ent _ _ ∧ TD _ _ _ _ _ _ _ _ _ _ (sepL [_, _, _, _])
              refine ⟨(ent_take 1 rfl (ent_nil _)), ?_⟩
              refine de rfl rfl ?_
              refine cl (xqyield b T.m.ids T (by omega) hP.rj.nd) rfl PkL.p trivial ?_
              intro _ _
              change ent _ _ ∧ TD _ _ _ _ _ _ _ _ _ _ (sepL [_, _, _, _])
              refine ⟨(ent_take 2 rfl (ent_nil _)), ?_⟩
              refine dq rfl rfl rfl (eqI rfl rfl) ?_
              refine vab rfl rfl rfl ?_
              refine TD.nil (nt ?_)
              refine TC.ret (rb (rt ?_))
              exact Ret.i (yieldT T) [_] ⟨rfl, trivial⟩ (congrArg Value.bool (decide_eq_true rfl)) (h.of hg.yield (Nat.le_refl _)) (ent_take 1 rfl (ent_take 0 rfl (ent_take 1 rfl (ent_nil _))))
             ·refine TC.skip (nb (nt ?_))
              refine TC.seq ?_
              refine TC.region ?_
              refine wab rfl rfl ?_
              refine TL.nil (nt ?_)
              refine TC.ret ?_
              exact Ret.i T [_] ⟨rfl, trivial⟩ rfl (h.up (by omega) (by omega)) (ent_take 1 rfl (ent_take 1 rfl (ent_take 1 rfl (ent_nil _))))
end Go.Proofs.YtdfmfhcjnjfjbaaGreat
namespace Go.Proofs.YtdfmfhcjnjfjbaaGreat
open Go Go.QM
set_option maxRecDepth 4000 in
theorem same_ok (a1 : Option Addr) (c1 : Nat) (xs : List Int) (a2 : Option Addr) (c2 : Nat) (ys : List Int) (hl : xs.length ≤ 1000000000) : FSpec Tryz.prog 37 [.slice a1 xs.length c1, .slice a2 ys.length c2] (fun F => (∃ E, RdS F E a1 (ints xs)) ∧ ∃ E, RdS F E a2 (ints ys)) [] (fun _ : Unit => .bool (decide (xs = ys))) (fun _ => True) (fun _ => []) := by
 refine FSpec.intro (rs := [.tmp 4]) (by kernel_rfl) Tryz.func37 rfl Tryz.ntmps37 (by rfl) rfl ?_
 intro F ⟨⟨E1, hF1⟩, ⟨E2, hF2⟩⟩
 change TC _ _ _ _ _ _ _ (sepL [_])
 haveI : RdSI F a1 E1 (ints xs) := ⟨hF1⟩
 haveI : RdSI F a2 E2 (ints ys) := ⟨hF2⟩
 refine TC.seq ?_
 refine TC.region ?_
 refine wab rfl rfl ?_
 refine TL.nil (nt ?_)
 refine TC.seq ?_
 refine TC.seq ?_
 refine TC.region ?_
 refine wms rfl rfl ?_
 refine q rfl rfl (len 3 1 rfl rfl) ?_
 refine wms rfl rfl ?_
 refine q rfl rfl (len 3 1 rfl rfl) ?_
 refine q rfl rfl (neI rfl rfl) ?_
 refine TL.nil (nt ?_)
 refine TC.condD rfl (fun hne => ?_) (fun hne => ?_)
 ·refine TC.seq ?_
  refine TC.region ?_
  refine wab rfl rfl ?_
  refine TL.nil (nt ?_)
  refine TC.ret (rt ?_)
  have hd : decide (xs = ys) = false := decide_eq_false (fun e => hne (by rw [e]))
  exact Ret.i () [_] ⟨rfl, trivial⟩ (by rw [hd]; rfl) trivial (ent_take 0 rfl (ent_nil _))
 ·have hle : xs.length = ys.length := by omega
  refine TC.skip (nt ?_)
  refine TC.seq ?_
  refine TC.seq ?_
  refine TC.region ?_
  refine wai rfl rfl ?_
  refine TL.nil (nt ?_)
  refine TC.block ?_
  refine TC.loop (ι := Nat) (fun i => i ≤ xs.length ∧ xs.take i = ys.take i) (fun i => [(0, .slice a1 xs.length c1), (1, .slice a2 ys.length c2), (5, .int .i64 i)]) (fun i => sepL [F]) (fun i => xs.length - i) 0 ⟨Nat.zero_le _, rfl⟩ ⟨rfl, rfl, rfl, trivial⟩ (ent_take 0 rfl (ent_nil _)) ?_
  rintro k ⟨hinv, hsame⟩ ρ0
  dsimp only [updL] at hinv hsame ⊢
  refine TC.seq ?_
  refine TC.seq ?_
  refine TC.region ?_
  refine wmi rfl rfl ?_
  refine wms rfl rfl ?_
  refine q rfl rfl (len 3 1 rfl rfl) ?_
  refine q rfl rfl (lss rfl rfl) ?_
  refine TL.nil (nt ?_)
  refine TC.condD rfl (fun hlt => ?_) (fun hlt => ?_)
  ·have hlt : k < xs.length := by omega
   have hlt2 : k < ys.length := by omega
   obtain ⟨u, hu⟩ : ∃ u, xs[k]? = some u := ⟨xs[k], List.getElem?_eq_getElem hlt⟩
   obtain ⟨v, hv⟩ : ∃ v, ys[k]? = some v := ⟨ys[k], List.getElem?_eq_getElem hlt2⟩
   have hil : 0 < (ints xs).length := by rw [ints_length]; omega
   have hil2 : 0 < (ints ys).length := by rw [ints_length]; omega
   refine TC.skip (nt ?_)
   refine TC.seq ?_
   refine TC.block ?_
   refine TC.seq ?_
   refine TC.draw _ [] [(0, false), (1, false), (2, false), (3, false), (4, false), (5, false), (6, false), (7, false), (8, false)] (by kernel_rfl) (by kernel_rfl) (ent.refl _) ?_
   refine vms rfl rfl rfl ?_
   refine vmi rfl rfl rfl ?_
   refine dq rfl rfl rfl (ixS 3 1 rfl rfl rfl (by omega) (by assumption)) ?_
   refine dq rfl rfl rfl (ldS rfl rfl (ints_get hu)) ?_
   refine vms rfl rfl rfl ?_
   refine vmi rfl rfl rfl ?_
   refine dq rfl rfl rfl (ixS 3 1 rfl rfl rfl (by omega) (by assumption)) ?_
   refine dq rfl rfl rfl (ldS rfl rfl (ints_get hv)) ?_
   refine dq rfl rfl rfl (neI rfl rfl) ?_
   refine TD.nil (nt ?_)
   refine TC.condD rfl (fun hd => ?_) (fun hd => ?_)
   ·refine TC.seq ?_
    refine TC.region ?_
    refine wab rfl rfl ?_
    refine TL.nil (nt ?_)
    refine TC.ret (rb (rt (rt (rb (rt ?_)))))
    have hdd : decide (xs = ys) = false := decide_eq_false (fun e => by subst e; rw [hu] at hv; cases hv; exact hd rfl)
    exact Ret.i () [_] ⟨rfl, trivial⟩ (by rw [hdd]; rfl) trivial (ent_take 0 rfl (ent_nil _))
   ·refine TC.skip (nb (nt ?_))
    refine TC.region ?_
    refine wmi rfl rfl ?_
    refine q rfl rfl (addI rfl rfl (by omega) (by omega)) ?_
    refine wai rfl rfl ?_
    refine TL.nil (nt ?_)
    exact ⟨rfl, (k + 1), ⟨by omega, by rw [List.take_add_one, List.take_add_one, hsame, hu, hv, Decidable.not_not.1 hd]⟩, (by omega), ⟨rfl, rfl, rfl, trivial⟩, (ent_take 0 rfl (ent_nil _))⟩
  ·obtain rfl : k = xs.length := by omega
   have hdd : decide (xs = ys) = true := decide_eq_true (by rw [List.take_length, hle, List.take_length] at hsame; exact hsame)
   refine TC.exit (et (et (eb (nt ?_))))
   refine TC.seq ?_
   refine TC.region ?_
   refine wab rfl rfl ?_
   refine TL.nil (nt ?_)
   refine TC.ret ?_
   exact Ret.i () [_] ⟨rfl, trivial⟩ (by rw [hdd]; rfl) trivial (ent_take 0 rfl (ent_nil _))
set_option maxRecDepth 4000 in
theorem offers_ok (a1 : Option Addr) (c1 : Nat) (a2 : Option Addr) (c2 : Nat) (xs : List Off) (hl : xs.length ≤ 1000000) : FSpec Tryz.prog 34 [.slice a1 xs.length c1, .slice a2 xs.length c2] (fun F => (∃ E, RdS F E a1 (ofsC xs)) ∧ ∃ E, RdS F E a2 (ofsC xs)) [] (fun _ : Unit => .bool true) (fun _ => True) (fun _ => []) := by
 refine FSpec.intro (rs := [.tmp 4]) (by kernel_rfl) Tryz.func34 rfl Tryz.ntmps34 (by rfl) rfl ?_
 intro F ⟨⟨E1, hF1⟩, ⟨E2, hF2⟩⟩
 change TC _ _ _ _ _ _ _ (sepL [_])
 haveI : RdSI F a1 E1 (ofsC xs) := ⟨hF1⟩
 haveI : RdSI F a2 E2 (ofsC xs) := ⟨hF2⟩
 have hil := ofsC_length xs
 refine TC.seq ?_
 refine TC.region ?_
 refine wab rfl rfl ?_
 refine TL.nil (nt ?_)
 refine TC.seq ?_
 refine TC.seq ?_
 refine TC.region ?_
 refine wms rfl rfl ?_
 refine q rfl rfl (len 26 3 rfl rfl) ?_
 refine wms rfl rfl ?_
 refine q rfl rfl (len 26 3 rfl rfl) ?_
 refine q rfl rfl (neI rfl rfl) ?_
 refine TL.nil (nt ?_)
 refine TC.condD rfl (fun hc1 => absurd hc1 (by simp)) (fun hc1 => ?_)
 refine TC.skip (nt ?_)
 refine TC.seq ?_
 refine TC.seq ?_
 refine TC.region ?_
 refine wai rfl rfl ?_
 refine TL.nil (nt ?_)
 refine TC.block ?_
 refine TC.loop (ι := Nat) (fun i => i ≤ xs.length) (fun i => [(0, .slice a1 xs.length c1), (1, .slice a2 xs.length c2), (5, .int .i64 ((i : Nat) : Int))]) (fun i => sepL [F]) (fun i => xs.length - i) 0 (Nat.zero_le _) ⟨rfl, rfl, rfl, trivial⟩ (ent_take 0 rfl (ent_nil _)) ?_
 rintro k hk ρ0
 dsimp only [updL] at hk ⊢
 refine TC.seq ?_
 refine TC.seq ?_
 refine TC.region ?_
 refine wmi rfl rfl ?_
 refine wms rfl rfl ?_
 refine q rfl rfl (len 26 3 rfl rfl) ?_
 refine q rfl rfl (lss rfl rfl) ?_
 refine TL.nil (nt ?_)
 refine TC.condD rfl (fun hlt => ?_) (fun hlt => ?_)
 ·have hlt2 : k < xs.length := by omega
  obtain ⟨o, ho⟩ : ∃ o, xs[k]? = some o := ⟨xs[k], List.getElem?_eq_getElem hlt2⟩
  have hpos : 0 < (ofsC xs).length := by omega
  refine TC.skip (nt ?_)
  refine TC.seq ?_
  refine TC.block ?_
  refine TC.seq ?_
  refine TC.draw _ [] [(0, false), (1, false), (2, false), (3, false), (4, false), (5, false), (6, false), (7, false), (8, false)] (by kernel_rfl) (by kernel_rfl) (ent.refl _) ?_
  refine vms rfl rfl rfl ?_
  refine vmi rfl rfl rfl ?_
  refine dq rfl rfl rfl (ixS 26 3 rfl rfl rfl (by omega) (by assumption)) ?_
  refine dq rfl rfl rfl (ldSN (vs := [_, _, _]) 3 rfl rfl (flat_get_rec ofC_sz ho) rfl (by decide)) ?_
  refine vms rfl rfl rfl ?_
  refine vmi rfl rfl rfl ?_
  refine dq rfl rfl rfl (ixS 26 3 rfl rfl rfl (by omega) (by assumption)) ?_
  refine dq rfl rfl rfl (ldSN (vs := [_, _, _]) 3 rfl rfl (flat_get_rec ofC_sz ho) rfl (by decide)) ?_
  refine dq rfl rfl rfl (neO (by kernel_rfl) rfl rfl) ?_
  refine TD.nil (nt ?_)
  refine TC.condD rfl (fun hc2 => absurd hc2 (by simp)) (fun hc2 => ?_)
  refine TC.skip (nb (nt ?_))
  refine TC.region ?_
  refine wmi rfl rfl ?_
  refine q rfl rfl (addI rfl rfl (by omega) (by omega)) ?_
  refine wai rfl rfl ?_
  refine TL.nil (nt ?_)
  exact ⟨rfl, (k + 1), (by omega), (by omega), ⟨rfl, rfl, rfl, trivial⟩, (ent_take 0 rfl (ent_nil _))⟩
 ·refine TC.exit (et (et (eb (nt ?_))))
  refine TC.seq ?_
  refine TC.region ?_
  refine wab rfl rfl ?_
  refine TL.nil (nt ?_)
  refine TC.ret ?_
  exact Ret.i () [_] ⟨rfl, trivial⟩ rfl trivial (ent_take 0 rfl (ent_nil _))
set_option maxRecDepth 4000 in
theorem ttake_nil (id : Int) : FSpec Tryz.prog 6 [.pointer none, .int .i64 id] noRd [] (fun _ : Unit => .tuple #[.agg (ofC o0).toArray, .int .i64 1]) (fun _ => True) (fun _ => []) := by
 refine FSpec.intro (rs := [.cell 4 26, .tmp 5]) (by kernel_rfl) Tryz.func6 rfl Tryz.ntmps6 (by rfl) rfl ?_
 intro F _
 change TC _ _ _ _ _ _ _ (sepL [_])
 refine TC.seq ?_
 refine TC.region ?_
 refine e rfl ?_
 refine al (l := [.int _ _, .int _ _, .bool _]) rfl rfl ?_
 intro b1
 refine wai rfl rfl ?_
 refine TL.nil (nt ?_)
 refine TC.seq ?_
 refine TC.region ?_
 refine wmp rfl rfl ?_
 refine wmi rfl rfl ?_
 refine e rfl ?_
 refine cl (tat_nil id) rfl (picked_nil _) trivial ?_
 intro _ _
 change TL _ _ _ _ _ _ _ _ (sepL [_, _])
 refine wmt rfl rfl ?_
 refine q rfl rfl (pu (v := .pointer _) (fun _ => rfl)) ?_
 refine q rfl rfl (pu (v := .int _ _) (fun _ => rfl)) ?_
 refine wap rfl rfl ?_
 refine wai rfl rfl ?_
 refine TL.nil (nt ?_)
 refine TC.seq ?_
 refine TC.region ?_
 refine wmp rfl rfl ?_
 refine wmi rfl rfl ?_
 refine e rfl ?_
 refine cl (tstate_nil id) rfl (picked_nil _) trivial ?_
 intro _ _
 change TL _ _ _ _ _ _ _ _ (sepL [_, _])
 refine wai rfl rfl ?_
 refine TL.nil (nt ?_)
 refine TC.seq ?_
 refine TC.block ?_
 refine TC.seq ?_
 refine TC.region ?_
 refine wmi rfl rfl ?_
 refine q rfl rfl (neI rfl rfl) ?_
 refine wab rfl rfl ?_
 refine TL.nil (nt ?_)
 refine TC.condT rfl ?_
 refine TC.seq ?_
 refine TC.region ?_
 refine q rfl rfl (bld (cs := [.int _ _, .int _ _, .bool _]) rfl) ?_
 refine wmi rfl rfl ?_
 refine e0 ?_
 refine st (v := .agg #[_, _, _]) (vs := [_, _, _]) 3 rfl rfl rfl rfl rfl rfl (Nat.le_of_ble_eq_true rfl) rfl ?_
 refine wai rfl rfl ?_
 refine TL.nil (nt ?_)
 refine TC.ret (rb (rt ?_))
 exact Ret.i () [_, _] ⟨(rcN (n := 3) rfl rfl rfl rfl), rfl, trivial⟩ rfl trivial (ent_take 1 rfl (ent_nil _))
set_option maxRecDepth 4000 in
theorem trefuse_nil (id why : Int) : FSpec Tryz.prog 7 [.pointer none, .int .i64 id, .int .i64 why] noRd [] (fun _ : Unit => .tuple #[.agg (ofC o0).toArray, .int .i64 1]) (fun _ => True) (fun _ => []) := by
 refine FSpec.intro (rs := [.cell 6 26, .tmp 7]) (by kernel_rfl) Tryz.func7 rfl Tryz.ntmps7 (by rfl) rfl ?_
 intro F _
 change TC _ _ _ _ _ _ _ (sepL [_])
 refine TC.seq ?_
 refine TC.region ?_
 refine e rfl ?_
 refine al (l := [.int _ _, .int _ _, .bool _]) rfl rfl ?_
 intro b2
 refine wai rfl rfl ?_
 refine TL.nil (nt ?_)
 refine TC.seq ?_
 refine TC.region ?_
 refine wmp rfl rfl ?_
 refine wmi rfl rfl ?_
 refine e rfl ?_
 refine cl (tat_nil id) rfl (picked_nil _) trivial ?_
 intro _ _
 change TL _ _ _ _ _ _ _ _ (sepL [_, _])
 refine wmt rfl rfl ?_
 refine q rfl rfl (pu (v := .pointer _) (fun _ => rfl)) ?_
 refine q rfl rfl (pu (v := .int _ _) (fun _ => rfl)) ?_
 refine wap rfl rfl ?_
 refine wai rfl rfl ?_
 refine TL.nil (nt ?_)
 refine TC.seq ?_
 refine TC.seq ?_
 refine TC.region ?_
 refine wmi rfl rfl ?_
 refine q rfl rfl (neI rfl rfl) ?_
 refine TL.nil (nt ?_)
 refine TC.condT rfl ?_
 refine TC.seq ?_
 refine TC.region ?_
 refine q rfl rfl (bld (cs := [.int _ _, .int _ _, .bool _]) rfl) ?_
 refine wmi rfl rfl ?_
 refine e0 ?_
 refine st (v := .agg #[_, _, _]) (vs := [_, _, _]) 3 rfl rfl rfl rfl rfl rfl (Nat.le_of_ble_eq_true rfl) rfl ?_
 refine wai rfl rfl ?_
 refine TL.nil (nt ?_)
 refine TC.ret (rt ?_)
 exact Ret.i () [_, _] ⟨(rcN (n := 3) rfl rfl rfl rfl), rfl, trivial⟩ rfl trivial (ent_take 1 rfl (ent_nil _))
set_option maxRecDepth 4000 in
theorem tanswer_nil (id : Int) : FSpec Tryz.prog 8 [.pointer none, .int .i64 id] noRd [] (fun _ : Unit => .tuple #[.int .i64 0, .int .i64 1]) (fun _ => True) (fun _ => []) := by
 refine FSpec.intro (rs := [.tmp 4, .tmp 5]) (by kernel_rfl) Tryz.func8 rfl Tryz.ntmps8 (by rfl) rfl ?_
 intro F _
 change TC _ _ _ _ _ _ _ (sepL [_])
 refine TC.seq ?_
 refine TC.region ?_
 refine wai rfl rfl ?_
 refine wai rfl rfl ?_
 refine TL.nil (nt ?_)
 refine TC.seq ?_
 refine TC.region ?_
 refine wmp rfl rfl ?_
 refine wmi rfl rfl ?_
 refine e rfl ?_
 refine cl (tat_nil id) rfl (picked_nil _) trivial ?_
 intro _ _
 change TL _ _ _ _ _ _ _ _ (sepL [_])
 refine wmt rfl rfl ?_
 refine q rfl rfl (pu (v := .pointer _) (fun _ => rfl)) ?_
 refine q rfl rfl (pu (v := .int _ _) (fun _ => rfl)) ?_
 refine wap rfl rfl ?_
 refine wai rfl rfl ?_
 refine TL.nil (nt ?_)
 refine TC.seq ?_
 refine TC.block ?_
 refine TC.seq ?_
 refine TC.region ?_
 refine wmi rfl rfl ?_
 refine q rfl rfl (neI rfl rfl) ?_
 refine wab rfl rfl ?_
 refine TL.nil (nt ?_)
 refine TC.condT rfl ?_
 refine TC.seq ?_
 refine TC.region ?_
 refine wmi rfl rfl ?_
 refine wai rfl rfl ?_
 refine wai rfl rfl ?_
 refine TL.nil (nt ?_)
 refine TC.ret (rb (rt ?_))
 exact Ret.i () [_, _] ⟨rfl, rfl, trivial⟩ rfl trivial (ent_take 0 rfl (ent_nil _))
set_option maxRecDepth 4000 in
theorem tstart_nil (id pr sl : Int) : FSpec Tryz.prog 10 [.pointer none, .int .i64 id, .int .i64 pr, .int .i64 sl] noRd [] (fun _ : Unit => .int .i64 1) (fun _ => True) (fun _ => []) := by
 refine FSpec.intro (rs := [.tmp 8]) (by kernel_rfl) Tryz.func10 rfl Tryz.ntmps10 (by rfl) rfl ?_
 intro F _
 change TC _ _ _ _ _ _ _ (sepL [_])
 refine TC.seq ?_
 refine TC.region ?_
 refine wai rfl rfl ?_
 refine TL.nil (nt ?_)
 refine TC.seq ?_
 refine TC.region ?_
 refine wmp rfl rfl ?_
 refine wmi rfl rfl ?_
 refine e rfl ?_
 refine cl (tat_nil id) rfl (picked_nil _) trivial ?_
 intro _ _
 change TL _ _ _ _ _ _ _ _ (sepL [_])
 refine wmt rfl rfl ?_
 refine q rfl rfl (pu (v := .pointer _) (fun _ => rfl)) ?_
 refine q rfl rfl (pu (v := .int _ _) (fun _ => rfl)) ?_
 refine wap rfl rfl ?_
 refine wai rfl rfl ?_
 refine TL.nil (nt ?_)
 refine TC.seq ?_
 refine TC.block ?_
 refine TC.seq ?_
 refine TC.region ?_
 refine wmi rfl rfl ?_
 refine q rfl rfl (neI rfl rfl) ?_
 refine wab rfl rfl ?_
 refine TL.nil (nt ?_)
 refine TC.condT rfl ?_
 refine TC.seq ?_
 refine TC.region ?_
 refine wmi rfl rfl ?_
 refine wai rfl rfl ?_
 refine TL.nil (nt ?_)
 refine TC.ret (rb (rt ?_))
 exact Ret.i () [_] ⟨rfl, trivial⟩ rfl trivial (ent_take 0 rfl (ent_nil _))
set_option maxRecDepth 4000 in
theorem tstop_nil (id : Int) : FSpec Tryz.prog 11 [.pointer none, .int .i64 id] noRd [] (fun _ : Unit => .int .i64 1) (fun _ => True) (fun _ => []) := by
 refine FSpec.intro (rs := [.tmp 4]) (by kernel_rfl) Tryz.func11 rfl Tryz.ntmps11 (by rfl) rfl ?_
 intro F _
 change TC _ _ _ _ _ _ _ (sepL [_])
 refine TC.seq ?_
 refine TC.region ?_
 refine wai rfl rfl ?_
 refine TL.nil (nt ?_)
 refine TC.seq ?_
 refine TC.region ?_
 refine wmp rfl rfl ?_
 refine wmi rfl rfl ?_
 refine e rfl ?_
 refine cl (tat_nil id) rfl (picked_nil _) trivial ?_
 intro _ _
 change TL _ _ _ _ _ _ _ _ (sepL [_])
 refine wmt rfl rfl ?_
 refine q rfl rfl (pu (v := .pointer _) (fun _ => rfl)) ?_
 refine q rfl rfl (pu (v := .int _ _) (fun _ => rfl)) ?_
 refine wap rfl rfl ?_
 refine wai rfl rfl ?_
 refine TL.nil (nt ?_)
 refine TC.seq ?_
 refine TC.block ?_
 refine TC.seq ?_
 refine TC.region ?_
 refine wmi rfl rfl ?_
 refine q rfl rfl (neI rfl rfl) ?_
 refine wab rfl rfl ?_
 refine TL.nil (nt ?_)
 refine TC.condT rfl ?_
 refine TC.seq ?_
 refine TC.region ?_
 refine wmi rfl rfl ?_
 refine wai rfl rfl ?_
 refine TL.nil (nt ?_)
 refine TC.ret (rb (rt ?_))
 exact Ret.i () [_] ⟨rfl, trivial⟩ rfl trivial (ent_take 0 rfl (ent_nil _))
set_option maxRecDepth 4000 in
theorem tremove_nil (id : Int) : FSpec Tryz.prog 12 [.pointer none, .int .i64 id] noRd [] (fun _ : Unit => .int .i64 1) (fun _ => True) (fun _ => []) := by
 refine FSpec.intro (rs := [.tmp 4]) (by kernel_rfl) Tryz.func12 rfl Tryz.ntmps12 (by rfl) rfl ?_
 intro F _
 change TC _ _ _ _ _ _ _ (sepL [_])
 refine TC.seq ?_
 refine TC.region ?_
 refine wai rfl rfl ?_
 refine TL.nil (nt ?_)
 refine TC.seq ?_
 refine TC.region ?_
 refine wmp rfl rfl ?_
 refine wmi rfl rfl ?_
 refine e rfl ?_
 refine cl (tat_nil id) rfl (picked_nil _) trivial ?_
 intro _ _
 change TL _ _ _ _ _ _ _ _ (sepL [_])
 refine wmt rfl rfl ?_
 refine q rfl rfl (pu (v := .pointer _) (fun _ => rfl)) ?_
 refine q rfl rfl (pu (v := .int _ _) (fun _ => rfl)) ?_
 refine wap rfl rfl ?_
 refine wai rfl rfl ?_
 refine TL.nil (nt ?_)
 refine TC.seq ?_
 refine TC.seq ?_
 refine TC.region ?_
 refine wmi rfl rfl ?_
 refine q rfl rfl (neI rfl rfl) ?_
 refine TL.nil (nt ?_)
 refine TC.condT rfl ?_
 refine TC.seq ?_
 refine TC.region ?_
 refine wmi rfl rfl ?_
 refine wai rfl rfl ?_
 refine TL.nil (nt ?_)
 refine TC.ret (rt ?_)
 exact Ret.i () [_] ⟨rfl, trivial⟩ rfl trivial (ent_take 0 rfl (ent_nil _))
set_option maxRecDepth 4000 in
theorem tsend_nil (id to gt : Int) (cv : Bool) (ticks : Int) : FSpec Tryz.prog 13 [.pointer none, .int .i64 id, .int .i64 to, .int .i64 gt, .bool cv, .int .i64 ticks] noRd [] (fun _ : Unit => .int .i64 1) (fun _ => True) (fun _ => []) := by
 refine FSpec.intro (rs := [.tmp 12]) (by kernel_rfl) Tryz.func13 rfl Tryz.ntmps13 (by rfl) rfl ?_
 intro F _
 change TC _ _ _ _ _ _ _ (sepL [_])
 refine TC.seq ?_
 refine TC.region ?_
 refine wai rfl rfl ?_
 refine TL.nil (nt ?_)
 refine TC.seq ?_
 refine TC.region ?_
 refine wmp rfl rfl ?_
 refine wmi rfl rfl ?_
 refine e rfl ?_
 refine cl (tat_nil id) rfl (picked_nil _) trivial ?_
 intro _ _
 change TL _ _ _ _ _ _ _ _ (sepL [_])
 refine wmt rfl rfl ?_
 refine q rfl rfl (pu (v := .pointer _) (fun _ => rfl)) ?_
 refine q rfl rfl (pu (v := .int _ _) (fun _ => rfl)) ?_
 refine wap rfl rfl ?_
 refine wai rfl rfl ?_
 refine TL.nil (nt ?_)
 refine TC.seq ?_
 refine TC.region ?_
 refine wmp rfl rfl ?_
 refine wmi rfl rfl ?_
 refine e rfl ?_
 refine cl (tat_nil to) rfl (picked_nil _) trivial ?_
 intro _ _
 change TL _ _ _ _ _ _ _ _ (sepL [_])
 refine wmt rfl rfl ?_
 refine q rfl rfl (pu (v := .pointer _) (fun _ => rfl)) ?_
 refine q rfl rfl (pu (v := .int _ _) (fun _ => rfl)) ?_
 refine wap rfl rfl ?_
 refine wai rfl rfl ?_
 refine TL.nil (nt ?_)
 refine TC.seq ?_
 refine TC.block ?_
 refine TC.seq ?_
 refine TC.region ?_
 refine wmi rfl rfl ?_
 refine q rfl rfl (neI rfl rfl) ?_
 refine wab rfl rfl ?_
 refine TL.nil (nt ?_)
 refine TC.condT rfl ?_
 refine TC.seq ?_
 refine TC.region ?_
 refine wmi rfl rfl ?_
 refine wai rfl rfl ?_
 refine TL.nil (nt ?_)
 refine TC.ret (rb (rt ?_))
 exact Ret.i () [_] ⟨rfl, trivial⟩ rfl trivial (ent_take 0 rfl (ent_nil _))
set_option maxRecDepth 4000 in
theorem twait_nil (id ticks : Int) : FSpec Tryz.prog 14 [.pointer none, .int .i64 id, .int .i64 ticks] noRd [] (fun _ : Unit => .int .i64 1) (fun _ => True) (fun _ => []) := by
 refine FSpec.intro (rs := [.tmp 6]) (by kernel_rfl) Tryz.func14 rfl Tryz.ntmps14 (by rfl) rfl ?_
 intro F _
 change TC _ _ _ _ _ _ _ (sepL [_])
 refine TC.seq ?_
 refine TC.region ?_
 refine wai rfl rfl ?_
 refine TL.nil (nt ?_)
 refine TC.seq ?_
 refine TC.region ?_
 refine wmp rfl rfl ?_
 refine wmi rfl rfl ?_
 refine e rfl ?_
 refine cl (tat_nil id) rfl (picked_nil _) trivial ?_
 intro _ _
 change TL _ _ _ _ _ _ _ _ (sepL [_])
 refine wmt rfl rfl ?_
 refine q rfl rfl (pu (v := .pointer _) (fun _ => rfl)) ?_
 refine q rfl rfl (pu (v := .int _ _) (fun _ => rfl)) ?_
 refine wap rfl rfl ?_
 refine wai rfl rfl ?_
 refine TL.nil (nt ?_)
 refine TC.seq ?_
 refine TC.block ?_
 refine TC.seq ?_
 refine TC.region ?_
 refine wmi rfl rfl ?_
 refine q rfl rfl (neI rfl rfl) ?_
 refine wab rfl rfl ?_
 refine TL.nil (nt ?_)
 refine TC.condT rfl ?_
 refine TC.seq ?_
 refine TC.region ?_
 refine wmi rfl rfl ?_
 refine wai rfl rfl ?_
 refine TL.nil (nt ?_)
 refine TC.ret (rb (rt ?_))
 exact Ret.i () [_] ⟨rfl, trivial⟩ rfl trivial (ent_take 0 rfl (ent_nil _))
set_option maxRecDepth 4000 in
theorem twake_nil (id why : Int) : FSpec Tryz.prog 15 [.pointer none, .int .i64 id, .int .i64 why] noRd [] (fun _ : Unit => .int .i64 1) (fun _ => True) (fun _ => []) := by
 refine FSpec.intro (rs := [.tmp 6]) (by kernel_rfl) Tryz.func15 rfl Tryz.ntmps15 (by rfl) rfl ?_
 intro F _
 change TC _ _ _ _ _ _ _ (sepL [_])
 refine TC.seq ?_
 refine TC.region ?_
 refine wai rfl rfl ?_
 refine TL.nil (nt ?_)
 refine TC.seq ?_
 refine TC.region ?_
 refine wmp rfl rfl ?_
 refine wmi rfl rfl ?_
 refine e rfl ?_
 refine cl (tat_nil id) rfl (picked_nil _) trivial ?_
 intro _ _
 change TL _ _ _ _ _ _ _ _ (sepL [_])
 refine wmt rfl rfl ?_
 refine q rfl rfl (pu (v := .pointer _) (fun _ => rfl)) ?_
 refine q rfl rfl (pu (v := .int _ _) (fun _ => rfl)) ?_
 refine wap rfl rfl ?_
 refine wai rfl rfl ?_
 refine TL.nil (nt ?_)
 refine TC.seq ?_
 refine TC.region ?_
 refine wmp rfl rfl ?_
 refine wmi rfl rfl ?_
 refine e rfl ?_
 refine cl (tstate_nil id) rfl (picked_nil _) trivial ?_
 intro _ _
 change TL _ _ _ _ _ _ _ _ (sepL [_])
 refine wai rfl rfl ?_
 refine TL.nil (nt ?_)
 refine TC.seq ?_
 refine TC.block ?_
 refine TC.seq ?_
 refine TC.region ?_
 refine wmi rfl rfl ?_
 refine q rfl rfl (neI rfl rfl) ?_
 refine wab rfl rfl ?_
 refine TL.nil (nt ?_)
 refine TC.condT rfl ?_
 refine TC.seq ?_
 refine TC.region ?_
 refine wmi rfl rfl ?_
 refine wai rfl rfl ?_
 refine TL.nil (nt ?_)
 refine TC.ret (rb (rt ?_))
 exact Ret.i () [_] ⟨rfl, trivial⟩ rfl trivial (ent_take 0 rfl (ent_nil _))
end Go.Proofs.YtdfmfhcjnjfjbaaGreat
namespace Go.Proofs.YtdfmfhcjnjfjbaaGreat
open Go Go.QM
set_option maxRecDepth 4000 in
set_option maxHeartbeats 4000000 in
theorem tacts_ok (ad : Option Addr) (l : List TAct) (cap : Nat) : FSpec Tryz.prog 3 [.slice ad l.length cap] (fun F => ∃ E, RdS F E ad (tactsC l)) [] (fun _ : Unit => .bool true) (fun _ => True) (fun _ => []) := by
 refine FSpec.intro (rs := [.tmp 2]) (by kernel_rfl) Tryz.func3 rfl Tryz.ntmps3 (by rfl) rfl ?_
 intro F ⟨E, hF⟩
 change TC _ _ _ _ _ _ _ (sepL [_])
 haveI : RdSI F ad E (tactsC l) := ⟨hF⟩
 have hll := tactsC_length l
 refine TC.seq ?_
 refine TC.region ?_
 refine wab rfl rfl ?_
 refine TL.nil (nt ?_)
 refine TC.seq ?_
 refine TC.seq ?_
 refine TC.region ?_
 refine e rfl ?_
 refine cl alive_ok rfl (picked_nil _) trivial ?_
 intro _ _
 change TL _ _ _ _ _ _ _ _ (sepL [_])
 refine q rfl rfl (notB rfl) ?_
 refine TL.nil (nt ?_)
 refine TC.condF rfl ?_
 refine TC.skip (nt ?_)
 refine TC.seq ?_
 refine TC.seq ?_
 refine TC.region ?_
 refine wms rfl rfl ?_
 refine q rfl rfl (len 63 6 rfl rfl) ?_
 refine q rfl rfl (gtr rfl rfl) ?_
 refine TL.nil (nt ?_)
 refine TC.condD rfl (fun hbig => ?_) (fun hbig => ?_)
 ·refine TC.seq ?_
  refine TC.region ?_
  refine wab rfl rfl ?_
  refine TL.nil (nt ?_)
  refine TC.ret (rt ?_)
  exact Ret.i () [_] ⟨rfl, trivial⟩ rfl trivial (ent_take 0 rfl (ent_nil _))
 ·refine TC.skip (nt ?_)
  refine TC.seq ?_
  refine TC.region ?_
  refine wap rfl rfl ?_
  refine TL.nil (nt ?_)
  refine TC.seq ?_
  refine TC.region ?_
  refine wmp rfl rfl ?_
  refine e rfl ?_
  refine cl (ttake_nil 1) rfl (picked_nil _) trivial ?_
  intro _ _
  change TL _ _ _ _ _ _ _ _ (sepL [_])
  refine wmt rfl rfl ?_
  refine q rfl rfl (pu (v := .agg #[_, _, _]) (fun _ => rfl)) ?_
  refine q rfl rfl (pu (v := .int _ _) (fun _ => rfl)) ?_
  refine e rfl ?_
  refine al (l := [.int _ _, .int _ _, .bool _]) rfl rfl ?_
  intro b1
  refine e0 ?_
  refine st (v := .agg #[_, _, _]) (vs := [_, _, _]) 3 rfl rfl rfl rfl rfl rfl (Nat.le_of_ble_eq_true rfl) rfl ?_
  refine wai rfl rfl ?_
  refine TL.nil (nt ?_)
  refine TC.seq ?_
  refine TC.region ?_
  refine wmp rfl rfl ?_
  refine e rfl ?_
  refine cl (trefuse_nil 1 1) rfl (picked_nil _) trivial ?_
  intro _ _
  change TL _ _ _ _ _ _ _ _ (sepL [_, _])
  refine wmt rfl rfl ?_
  refine q rfl rfl (pu (v := .agg #[_, _, _]) (fun _ => rfl)) ?_
  refine q rfl rfl (pu (v := .int _ _) (fun _ => rfl)) ?_
  refine e rfl ?_
  refine al (l := [.int _ _, .int _ _, .bool _]) rfl rfl ?_
  intro b2
  refine e0 ?_
  refine st (v := .agg #[_, _, _]) (vs := [_, _, _]) 3 rfl rfl rfl rfl rfl rfl (Nat.le_of_ble_eq_true rfl) rfl ?_
  refine wai rfl rfl ?_
  refine TL.nil (nt ?_)
  refine TC.seq ?_
  refine TC.region ?_
  refine wmp rfl rfl ?_
  refine e rfl ?_
  refine cl (tanswer_nil 1) rfl (picked_nil _) trivial ?_
  intro _ _
  change TL _ _ _ _ _ _ _ _ (sepL [_, _, _])
  refine wmt rfl rfl ?_
  refine q rfl rfl (pu (v := .int _ _) (fun _ => rfl)) ?_
  refine q rfl rfl (pu (v := .int _ _) (fun _ => rfl)) ?_
  refine wai rfl rfl ?_
  refine wai rfl rfl ?_
  refine TL.nil (nt ?_)
  refine TC.seq ?_
  refine TC.seq ?_
  refine TC.region ?_
  refine wmi rfl rfl ?_
  refine q rfl rfl (neI rfl rfl) ?_
  refine wmb rfl rfl ?_
  refine TL.known 38 rfl (c := false) (by decide) ?_
  refine qg rfl rfl rfl (mv (v := .int _ _) rfl) ?_
  refine qg rfl rfl rfl (neI rfl rfl) ?_
  refine q rfl rfl (pkF (v := .bool _) rfl rfl) ?_
  refine wmb rfl rfl ?_
  refine TL.known 42 rfl (c := false) (by decide) ?_
  refine qg rfl rfl rfl (mv (v := .int _ _) rfl) ?_
  refine qg rfl rfl rfl (neI rfl rfl) ?_
  refine q rfl rfl (pkF (v := .bool _) rfl rfl) ?_
  refine wmb rfl rfl ?_
  refine TL.known 46 rfl (c := false) (by decide) ?_
  refine qg rfl rfl rfl (mv (v := .pointer _) rfl) ?_
  refine eg rfl rfl ?_
  refine bs (cs := [.int _ _]) rfl ?_
  intro b3
  refine eg rfl rfl ?_
  refine cl (tadd_nil (some ⟨b3, 0, none⟩) _ 1) rfl (picked_nil _) ⟨_, RdSI.rd (ad := some ⟨b3, 0, none⟩)⟩ ?_
  intro _ _
  change TL _ _ _ _ _ _ _ _ (sepL [_, _, _, _])
  refine qg rfl rfl rfl (neI rfl rfl) ?_
  refine q rfl rfl (pkF (v := .bool _) rfl rfl) ?_
  refine wmb rfl rfl ?_
  refine TL.known 52 rfl (c := false) (by decide) ?_
  refine qg rfl rfl rfl (mv (v := .pointer _) rfl) ?_
  refine eg rfl rfl ?_
  refine cl (tstart_nil 1 1 1) rfl (picked_nil _) trivial ?_
  intro _ _
  change TL _ _ _ _ _ _ _ _ (sepL [_, _, _, _])
  refine qg rfl rfl rfl (neI rfl rfl) ?_
  refine q rfl rfl (pkF (v := .bool _) rfl rfl) ?_
  refine wmb rfl rfl ?_
  refine TL.known 57 rfl (c := false) (by decide) ?_
  refine qg rfl rfl rfl (mv (v := .pointer _) rfl) ?_
  refine eg rfl rfl ?_
  refine cl (tstop_nil 1) rfl (picked_nil _) trivial ?_
  intro _ _
  change TL _ _ _ _ _ _ _ _ (sepL [_, _, _, _])
  refine qg rfl rfl rfl (neI rfl rfl) ?_
  refine q rfl rfl (pkF (v := .bool _) rfl rfl) ?_
  refine wmb rfl rfl ?_
  refine TL.known 62 rfl (c := false) (by decide) ?_
  refine qg rfl rfl rfl (mv (v := .pointer _) rfl) ?_
  refine eg rfl rfl ?_
  refine cl (tremove_nil 1) rfl (picked_nil _) trivial ?_
  intro _ _
  change TL _ _ _ _ _ _ _ _ (sepL [_, _, _, _])
  refine qg rfl rfl rfl (neI rfl rfl) ?_
  refine q rfl rfl (pkF (v := .bool _) rfl rfl) ?_
  refine wmb rfl rfl ?_
  refine TL.known 67 rfl (c := false) (by decide) ?_
  refine qg rfl rfl rfl (mv (v := .pointer _) rfl) ?_
  refine eg rfl rfl ?_
  refine cl (tsend_nil 1 2 0 true 0) rfl (picked_nil _) trivial ?_
  intro _ _
  change TL _ _ _ _ _ _ _ _ (sepL [_, _, _, _])
  refine qg rfl rfl rfl (neI rfl rfl) ?_
  refine q rfl rfl (pkF (v := .bool _) rfl rfl) ?_
  refine wmb rfl rfl ?_
  refine TL.known 72 rfl (c := false) (by decide) ?_
  refine qg rfl rfl rfl (mv (v := .pointer _) rfl) ?_
  refine eg rfl rfl ?_
  refine cl (twait_nil 1 0) rfl (picked_nil _) trivial ?_
  intro _ _
  change TL _ _ _ _ _ _ _ _ (sepL [_, _, _, _])
  refine qg rfl rfl rfl (neI rfl rfl) ?_
  refine q rfl rfl (pkF (v := .bool _) rfl rfl) ?_
  refine wmb rfl rfl ?_
  refine TL.known 77 rfl (c := false) (by decide) ?_
  refine qg rfl rfl rfl (mv (v := .pointer _) rfl) ?_
  refine eg rfl rfl ?_
  refine cl (twake_nil 1 1) rfl (picked_nil _) trivial ?_
  intro _ _
  change TL _ _ _ _ _ _ _ _ (sepL [_, _, _, _])
  refine qg rfl rfl rfl (neI rfl rfl) ?_
  refine q rfl rfl (pkF (v := .bool _) rfl rfl) ?_
  refine wmb rfl rfl ?_
  refine TL.known 82 rfl (c := false) (by decide) ?_
  refine qg rfl rfl rfl (mv (v := .pointer _) rfl) ?_
  refine eg rfl rfl ?_
  refine cl (tclose_nil 1) rfl (picked_nil _) trivial ?_
  intro _ _
  change TL _ _ _ _ _ _ _ _ (sepL [_, _, _, _])
  refine qg rfl rfl rfl (neI rfl rfl) ?_
  refine q rfl rfl (pkF (v := .bool _) rfl rfl) ?_
  refine wmb rfl rfl ?_
  refine TL.known 87 rfl (c := false) (by decide) ?_
  refine qg rfl rfl rfl (mv (v := .pointer _) rfl) ?_
  refine eg rfl rfl ?_
  refine cl (ttick_nil) rfl (picked_nil _) trivial ?_
  intro _ _
  change TL _ _ _ _ _ _ _ _ (sepL [_, _, _, _])
  refine qg rfl rfl rfl (neI rfl rfl) ?_
  refine q rfl rfl (pkF (v := .bool _) rfl rfl) ?_
  refine wmb rfl rfl ?_
  refine TL.known 92 rfl (c := false) (by decide) ?_
  refine qg rfl rfl rfl (mv (v := .pointer _) rfl) ?_
  refine eg rfl rfl ?_
  refine cl (tyield_nil) rfl (picked_nil _) trivial ?_
  intro _ _
  change TL _ _ _ _ _ _ _ _ (sepL [_, _, _, _])
  refine qg rfl rfl rfl (neI rfl rfl) ?_
  refine q rfl rfl (pkF (v := .bool _) rfl rfl) ?_
  refine wmb rfl rfl ?_
  refine TL.known 97 rfl (c := false) (by decide) ?_
  refine qg rfl rfl rfl (mv (v := .pointer _) rfl) ?_
  refine eg rfl rfl ?_
  refine cl (trun_nil) rfl (picked_nil _) trivial ?_
  intro _ _
  change TL _ _ _ _ _ _ _ _ (sepL [_, _, _, _])
  refine qg rfl rfl rfl (neI rfl rfl) ?_
  refine q rfl rfl (pkF (v := .bool _) rfl rfl) ?_
  refine wmb rfl rfl ?_
  refine TL.known 102 rfl (c := false) (by decide) ?_
  refine qg rfl rfl rfl (mv (v := .pointer _) rfl) ?_
  refine eg rfl rfl ?_
  refine cl (tstate_nil 1) rfl (picked_nil _) trivial ?_
  intro _ _
  change TL _ _ _ _ _ _ _ _ (sepL [_, _, _, _])
  refine qg rfl rfl rfl (neI rfl rfl) ?_
  refine q rfl rfl (pkF (v := .bool _) rfl rfl) ?_
  refine wmb rfl rfl ?_
  refine TL.known 107 rfl (c := false) (by decide) ?_
  refine qg rfl rfl rfl (mv (v := .pointer _) rfl) ?_
  refine eg rfl rfl ?_
  refine cl (tready_nil 1) rfl (picked_nil _) trivial ?_
  intro _ _
  change TL _ _ _ _ _ _ _ _ (sepL [_, _, _, _])
  refine qg rfl rfl rfl (len 3 1 rfl rfl) ?_
  refine qg rfl rfl rfl (mv (v := .pointer _) rfl) ?_
  refine eg rfl rfl ?_
  refine cl (trow_nil 1) rfl (picked_nil _) trivial ?_
  intro _ _
  change TL _ _ _ _ _ _ _ _ (sepL [_, _, _, _])
  refine qg rfl rfl rfl (len 26 3 rfl rfl) ?_
  refine qg rfl rfl rfl (addI rfl rfl (by omega) (by omega)) ?_
  refine qg rfl rfl rfl (mv (v := .pointer _) rfl) ?_
  refine eg rfl rfl ?_
  refine cl (tleft_nil 1) rfl (picked_nil _) trivial ?_
  intro _ _
  change TL _ _ _ _ _ _ _ _ (sepL [_, _, _, _])
  refine qg rfl rfl rfl (addI rfl rfl (by omega) (by omega)) ?_
  refine qg rfl rfl rfl (mv (v := .pointer _) rfl) ?_
  refine eg rfl rfl ?_
  refine cl (ttold_nil) rfl (picked_nil _) trivial ?_
  intro _ _
  change TL _ _ _ _ _ _ _ _ (sepL [_, _, _, _])
  refine qg rfl rfl rfl (len 74 2 rfl rfl) ?_
  refine qg rfl rfl rfl (addI rfl rfl (by omega) (by omega)) ?_
  refine qg rfl rfl rfl (neI rfl rfl) ?_
  refine q rfl rfl (pkF (v := .bool _) rfl rfl) ?_
  refine wmb rfl rfl ?_
  refine TL.known 124 rfl (c := false) (by decide) ?_
  refine qg rfl rfl rfl (mv (v := .pointer _) rfl) ?_
  refine eg rfl rfl ?_
  refine cl (tcaller_nil 1) rfl (picked_nil _) trivial ?_
  intro _ _
  change TL _ _ _ _ _ _ _ _ (sepL [_, _, _, _])
  refine qg rfl rfl rfl (neI rfl rfl) ?_
  refine q rfl rfl (pkF (v := .bool _) rfl rfl) ?_
  refine TL.nil (nt ?_)
  refine TC.condD rfl (fun hc1 => absurd hc1 (by decide)) (fun hc1 => ?_)
  refine TC.skip (nt ?_)
  refine TC.seq ?_
  refine TC.region ?_
  refine e rfl ?_
  refine cl tnew_ok rfl (picked_nil _) trivial ?_
  intro a _
  change TL _ _ _ _ _ _ _ _ (sepL [_, _, _, _, _])
  refine wap rfl rfl ?_
  refine TL.nil (nt ?_)
  refine TC.seq ?_
  refine TC.region ?_
  refine q rfl rfl (bld (cs := [.slice _ _ _, .slice _ _ _, .int _ _, .slice _ _ _, .slice _ _ _, .slice _ _ _, .slice _ _ _, .slice _ _ _]) rfl) ?_
  refine e rfl ?_
  refine bx (v := .agg #[_, _, _, _, _, _, _, _]) (l := [.slice _ _ _, .slice _ _ _, .int _ _, .slice _ _ _, .slice _ _ _, .slice _ _ _, .slice _ _ _, .slice _ _ _]) rfl rfl ?_
  intro b4
  refine wap rfl rfl ?_
  refine TL.nil (nt ?_)
  refine TC.seq ?_
  refine TC.seq ?_
  refine TC.region ?_
  refine wai rfl rfl ?_
  refine TL.nil (nt ?_)
  refine TC.block ?_
  refine TC.weak (B := sepL [RX b4 t0.m.ids t0, isT a t0, F]) ((slc_nil 66 4 _).trans ((slc_nil 111 4 _).trans ((slc_nil 3 1 _).trans ((slc_nil 3 1 _).trans ((slc_nil 115 3 _).trans ((slc_nil 117 4 _).trans ((slc_nil 74 2 _).trans (RXcl (b := b4) (D := t0.m.ids) (T := t0) (⟨(none, 0), (none, 0), (none, 0), (none, 0), (none, 0), (none, 0), (none, 0), r0F⟩ : RY) MR.zero (ent_take 7 rfl (ent_take 0 rfl (ent_take 0 rfl (ent_take 0 rfl (ent_take 0 rfl (ent_take 0 rfl (ent_take 0 rfl (ent_take 0 rfl (ent_take 0 rfl (ent_take 3 rfl (ent_nil _))))))))))))))))))) ?_
  refine TC.loop (ι := Nat × TS) (fun u => u.1 ≤ l.length ∧ DG u.2 (50 * u.1) u.1) (fun u => [(0, .slice ad l.length cap), (10, .pointer (some ⟨a, 0, none⟩)), (11, .pointer (some ⟨b4, 0, none⟩)), (12, .int .i64 ((u.1 : Nat) : Int))]) (fun u => sepL [isT a u.2, RX b4 u.2.m.ids u.2, F]) (fun u => l.length - u.1) ⟨0, t0⟩ ⟨Nat.zero_le _, TG.zero, Nat.le_refl _⟩ ⟨rfl, rfl, rfl, rfl, trivial⟩ (ent_take 1 rfl (ent_take 0 rfl (ent_take 0 rfl (ent_nil _)))) ?_
  rintro ⟨i, V0⟩ ⟨hi, hJ0⟩ ρ0
  dsimp only [updL] at hi hJ0 ⊢
  refine TC.seq ?_
  refine TC.seq ?_
  refine TC.region ?_
  refine wmi rfl rfl ?_
  refine wms rfl rfl ?_
  refine q rfl rfl (len 63 6 rfl rfl) ?_
  refine q rfl rfl (lss rfl rfl) ?_
  refine TL.nil (nt ?_)
  refine TC.condD rfl (fun hlt => ?_) (fun hlt => ?_)
  ·have hlt2 : i < l.length := by omega
   obtain ⟨t, ht⟩ : ∃ t, l[i]? = some t := ⟨l[i], List.getElem?_eq_getElem hlt2⟩
   have hpos : 0 < (tactsC l).length := by omega
   refine TC.skip (nt ?_)
   refine TC.seq ?_
   refine TC.block ?_
   refine TC.seq ?_
   refine TC.seq ?_
   refine TC.draw _ [] [(0, false), (1, false), (2, false), (3, false), (4, false), (5, false), (6, true), (7, false), (8, false), (9, false), (11, false), (12, false), (13, false), (10, true), (14, true), (15, false), (16, false)] (by kernel_rfl) (by kernel_rfl) (ent_take 2 rfl (ent_nil _)) ?_
   refine vmp rfl rfl rfl ?_
   refine vmp rfl rfl rfl ?_
   refine vms rfl rfl rfl ?_
   refine vmi rfl rfl rfl ?_
   refine dq rfl rfl rfl (ixS 63 6 rfl rfl rfl (by omega) (by assumption)) ?_
   refine dq rfl rfl rfl (ldSN (vs := [_, _, _, _, _, _]) 6 rfl rfl (flat_get_rec tactC_sz ht) rfl (by decide)) ?_
   refine de rfl rfl ?_
   refine cl (xdoes_ok a b4 V0 (50 * i) i hJ0 (by omega) (by omega) t) rfl PkL.p trivial ?_
   intro V hJ
   change ent _ _ ∧ TD _ _ _ _ _ _ _ _ _ _ (sepL [_, _, _])
   refine ⟨(ent_take 2 rfl (ent_nil _)), ?_⟩
   clear hJ0
   have hP := hJ.g.p
   have hb := hJ.g.tb (by omega)
   have hW := hP.wm
   have hil := hb.ids
   obtain ⟨hSl, hAl, _, _⟩ := hP.bds hb
   refine dq rfl rfl rfl (notB rfl) ?_
   refine vmb rfl rfl rfl ?_
   refine dg rfl rfl rfl rfl (mv (v := .pointer _) rfl) ?_
   refine dg rfl rfl rfl rfl (mv (v := .pointer _) rfl) ?_
   refine dg rfl rfl rfl rfl (nc rfl) ?_
   refine dg rfl rfl rfl rfl (fa 1 rfl rfl) ?_
   refine deg rfl rfl rfl ?_
   refine cl (trun_ok a V hP hb) rfl PkL.p trivial ?_
   intro _ _
   change ent _ _ ∧ TD _ _ _ _ _ _ _ _ _ _ (sepL [_, _, _])
   refine ⟨(ent_take 2 rfl (ent_nil _)), ?_⟩
   refine deg rfl rfl rfl ?_
   refine cl (xqrun b4 V.m.ids V (by omega)) rfl (picked_nil _) (ent_one 1 rfl) ?_
   intro _ _
   change ent _ _ ∧ TD _ _ _ _ _ _ _ _ _ _ (sepL [_, _, _])
   refine ⟨(ent_take 2 rfl (ent_nil _)), ?_⟩
   refine dg rfl rfl rfl rfl (neI rfl rfl) ?_
   refine dq rfl rfl rfl (pkF (v := .bool _) rfl rfl) ?_
   refine TD.nil (nt ?_)
   refine TC.condD rfl (fun hc2 => absurd hc2 (fun h9 => h9 rfl)) (fun hc2 => ?_)
   refine TC.skip (nt ?_)
   refine TC.cut (ι := TS) (fun W => DG W (50 * i + 50) (i + 1)) (fun W => [(0, .slice ad l.length cap), (10, .pointer (some ⟨a, 0, none⟩)), (11, .pointer (some ⟨b4, 0, none⟩)), (12, .int .i64 (i : Int))]) (fun W => sepL [isT a W, RX b4 W.m.ids W, F]) ?_ ?_
   ·refine TC.seq ?_
    refine TC.region ?_
    refine wms rfl rfl ?_
    refine wmi rfl rfl ?_
    refine q rfl rfl (ixS 63 6 rfl rfl rfl (by omega) (by assumption)) ?_
    refine q rfl rfl (faS 3 rfl rfl (by assumption)) ?_
    refine q rfl rfl (ldS rfl rfl (flat_ld tactC_sz ht 3 (by omega) rfl)) ?_
    refine q rfl rfl (rem rfl rfl (by omega) rfl) ?_
    refine q rfl rfl (eqI rfl rfl) ?_
    refine wmb rfl rfl ?_
    refine TL.split 162 rfl (fun hev => ?_) (fun hev => ?_)
    ·have hev := of_decide_eq_true hev
     refine qg rfl rfl rfl (mv (v := .pointer _) rfl) ?_
     refine eg rfl rfl ?_
     refine cl (ttold_ok a V) rfl PkL.p trivial ?_
     intro yp _
     change TL _ _ _ _ _ _ _ _ (sepL [_, _, _, _])
     refine qg rfl rfl rfl (mv (v := .pointer _) rfl) ?_
     refine eg rfl rfl ?_
     refine cl (xtold_ok b4 V) rfl PkL.p trivial ?_
     intro yx _
     change TL _ _ _ _ _ _ _ _ (sepL [_, _, _, _, _])
     have htl9 := hJ.g.told
     have hJ3 : DG (toldT V) (50 * i + 50) (i + 1) := ⟨hJ.g.tolds, hJ.ln⟩
     refine eg rfl rfl ?_
     refine cl (tsame_ok yp.1 _ V.told yx.1 _ V.told (by omega)) rfl (picked_nil _) ⟨⟨_, RdSI.rd (ad := yp.1)⟩, ⟨_, RdSI.rd (ad := yx.1)⟩⟩ ?_
     intro _ _
     change TL _ _ _ _ _ _ _ _ (sepL [_, _, _, _, _])
     refine qg rfl rfl rfl (notD rfl) ?_
     refine q rfl rfl (pkT (v := .bool _) rfl rfl) ?_
     refine TL.nil (nt ?_)
     refine TC.condD rfl (fun hc3 => absurd hc3 (fun h9 => h9 rfl)) (fun hc3 => ?_)
     refine TC.skip (nt ?_)
     exact ⟨rfl, (toldT V), hJ3, ⟨rfl, rfl, rfl, rfl, trivial⟩, (ent_take 3 rfl (ent_take 1 rfl (ent_take 2 rfl (ent_nil _))))⟩
    ·have hev := of_decide_eq_false hev
     refine qs rfl rfl ?_
     refine qs rfl rfl ?_
     refine qs rfl rfl ?_
     refine qs rfl rfl ?_
     refine qs rfl rfl ?_
     refine qs rfl rfl ?_
     refine q rfl rfl (pkF (v := .bool _) rfl rfl) ?_
     refine TL.nil (nt ?_)
     refine TC.condF rfl ?_
     refine TC.skip (nt ?_)
     exact ⟨rfl, V, hJ, ⟨rfl, rfl, rfl, rfl, trivial⟩, (ent_take 0 rfl (ent_take 0 rfl (ent_take 0 rfl (ent_nil _))))⟩
   ·rintro V2 hJ2 ρ2
    dsimp only [updL] at hJ2 ⊢
    have hJ := hJ2
    clear hJ2
    clear hP hb hW hil hSl hAl
    have hP := hJ.g.p
    have hb := hJ.g.tb (by omega)
    have hW := hP.wm
    have hil := hb.ids
    obtain ⟨hSl, hAl, _, _⟩ := hP.bds hb
    refine TC.seq ?_
    refine TC.seq ?_
    refine TC.region ?_
    refine wai rfl rfl ?_
    refine TL.nil (nt ?_)
    refine TC.block ?_
    refine TC.loop (ι := Nat) (fun k => k ≤ V2.m.ids.length) (fun k => [(0, .slice ad l.length cap), (10, .pointer (some ⟨a, 0, none⟩)), (11, .pointer (some ⟨b4, 0, none⟩)), (12, .int .i64 (i : Int)), (13, .int .i64 ((k : Nat) : Int))]) (fun k => sepL [isT a V2, RX b4 V2.m.ids V2, F]) (fun k => V2.m.ids.length - k) 0 (Nat.zero_le _) ⟨rfl, rfl, rfl, rfl, rfl, trivial⟩ (ent_take 0 rfl (ent_take 0 rfl (ent_take 0 rfl (ent_nil _)))) ?_
    rintro k hk ρ1
    dsimp only [updL] at hk ⊢
    refine TC.open 1 rfl (fun x0 hx0 => ?_)
    obtain ⟨⟨l1, l2⟩, ⟨k1, k2⟩, ⟨a1, a2⟩, ⟨i1, i2⟩, ⟨p1, p2⟩, ⟨s1, s2⟩, ⟨u1, u2⟩, rr⟩ := x0
    have hm := hx0
    change TC _ _ _ _ _ _ _ (sepL [_, _, _, _, _, _, _, _, _, _])
    dsimp only [XP, List.cons_append, List.nil_append]
    change TC _ _ _ _ _ _ _ (sepL [_, _, _, _, _, _, _, _, _, _])
    have htl := tcsR_length V2.m.ids V2
    have hgl := tgsC_length V2.told
    refine TC.seq ?_
    refine TC.seq ?_
    refine TC.region ?_
    refine wmi rfl rfl ?_
    refine wmp rfl rfl ?_
    refine wnc rfl rfl ?_
    refine wfa 0 rfl rfl rfl ?_
    refine wld rfl rfl rfl rfl ?_
    refine q rfl rfl (len 66 4 rfl rfl) ?_
    refine q rfl rfl (lss rfl rfl) ?_
    refine TL.nil (nt ?_)
    refine TC.condD rfl (fun hlk => ?_) (fun hlk => ?_)
    ·have hk2 : k < V2.m.ids.length := by omega
     obtain ⟨x, hx⟩ : ∃ x, V2.m.ids[k]? = some x := ⟨_, List.getElem?_eq_getElem hk2⟩
     have hxm := List.mem_of_getElem? hx
     have hposx : 0 < (tcsR V2.m.ids V2).length := by omega
     have hrl9 := rowRlen hW x
     refine TC.skip (nt ?_)
     refine TC.seq ?_
     refine TC.block ?_
     refine TC.seq ?_
     refine TC.region ?_
     refine wmp rfl rfl ?_
     refine wnc rfl rfl ?_
     refine wfa 0 rfl rfl rfl ?_
     refine wld rfl rfl rfl rfl ?_
     refine wmi rfl rfl ?_
     refine q rfl rfl (ixS 66 4 rfl rfl rfl (by omega) (by assumption)) ?_
     refine q rfl rfl (faS 0 rfl rfl (by assumption)) ?_
     refine q rfl rfl (ldS rfl rfl (flat_ld (tcR_sz V2) hx 0 (by omega) rfl)) ?_
     refine wai rfl rfl ?_
     refine TL.nil (nt ?_)
     refine TC.seq ?_
     refine TC.RXc (b := b4) (D := V2.m.ids) (⟨(l1, l2), (k1, k2), (a1, a2), (i1, i2), (p1, p2), (s1, s2), (u1, u2), rr⟩ : RY) hm PkL.p ?_
     change TC _ _ _ _ _ _ _ (sepL [_, _, _])
     refine TC.draw _ [] [(0, false), (1, false), (3, false), (4, false), (2, true), (5, true), (6, false), (7, false), (8, false), (9, false), (11, false), (12, false), (13, false), (14, false), (10, true), (15, true), (16, false), (17, false), (18, false), (19, false), (20, false), (22, false), (23, false), (24, false), (25, false), (21, true), (26, true), (27, false), (28, false), (29, false), (30, false), (31, false), (33, false), (34, false), (35, false), (36, false), (32, true), (37, true), (38, true), (39, false), (40, false)] (by kernel_rfl) (by kernel_rfl) (ent_nil _) ?_
     refine vmp rfl rfl rfl ?_
     refine vmi rfl rfl rfl ?_
     refine vmp rfl rfl rfl ?_
     refine vmi rfl rfl rfl ?_
     refine de rfl rfl ?_
     refine cl (tstate_ok a V2 x) rfl PkL.p trivial ?_
     intro _ _
     change ent _ _ ∧ TD _ _ _ _ _ _ _ _ _ _ (sepL [_, _, _])
     refine ⟨(ent_nil _), ?_⟩
     refine de rfl rfl ?_
     refine cl (xstate_ok b4 V2 hW hil x) rfl (picked_nil _) (ent_one 1 rfl) ?_
     intro _ _
     change ent _ _ ∧ TD _ _ _ _ _ _ _ _ _ _ (sepL [_, _, _])
     refine ⟨(ent_nil _), ?_⟩
     refine dq rfl rfl rfl (neI rfl rfl) ?_
     refine vmb rfl rfl rfl ?_
     refine TD.known 194 rfl (b' := false) (decide_eq_false (fun h9 => h9 rfl)) ?_
     refine dg rfl rfl rfl rfl (mv (v := .pointer _) rfl) ?_
     refine dg rfl rfl rfl rfl (mv (v := .int _ _) rfl) ?_
     refine dg rfl rfl rfl rfl (mv (v := .pointer _) rfl) ?_
     refine dg rfl rfl rfl rfl (nc rfl) ?_
     refine dg rfl rfl rfl rfl (fa 2 rfl rfl) ?_
     refine dg rfl rfl rfl rfl (mv (v := .int _ _) rfl) ?_
     refine deg rfl rfl rfl ?_
     refine cl (tleft_ok a V2 hP hb x) rfl PkL.p trivial ?_
     intro _ _
     change ent _ _ ∧ TD _ _ _ _ _ _ _ _ _ _ (sepL [_, _, _])
     refine ⟨(ent_nil _), ?_⟩
     refine deg rfl rfl rfl ?_
     refine cl (xaof b4 V2.m.ids V2 (by omega) hP.na x) rfl (picked_nil _) (ent_one 1 rfl) ?_
     intro _ _
     change ent _ _ ∧ TD _ _ _ _ _ _ _ _ _ _ (sepL [_, _, _])
     refine ⟨(ent_nil _), ?_⟩
     refine dg rfl rfl rfl rfl (neI rfl rfl) ?_
     refine dq rfl rfl rfl (pkF (v := .bool _) rfl rfl) ?_
     refine vmb rfl rfl rfl ?_
     refine TD.known 205 rfl (b' := false) (decide_eq_false (fun h9 => h9 rfl)) ?_
     refine dg rfl rfl rfl rfl (mv (v := .pointer _) rfl) ?_
     refine dg rfl rfl rfl rfl (mv (v := .int _ _) rfl) ?_
     refine dg rfl rfl rfl rfl (mv (v := .pointer _) rfl) ?_
     refine dg rfl rfl rfl rfl (nc rfl) ?_
     refine dg rfl rfl rfl rfl (fa 5 rfl rfl) ?_
     refine dg rfl rfl rfl rfl (mv (v := .int _ _) rfl) ?_
     refine deg rfl rfl rfl ?_
     refine cl (tcaller_ok a V2 hP hb x) rfl PkL.p trivial ?_
     intro _ _
     change ent _ _ ∧ TD _ _ _ _ _ _ _ _ _ _ (sepL [_, _, _])
     refine ⟨(ent_nil _), ?_⟩
     refine deg rfl rfl rfl ?_
     refine cl (xpcaller b4 V2.m.ids V2 hW hil x) rfl (picked_nil _) (ent_one 1 rfl) ?_
     intro _ _
     change ent _ _ ∧ TD _ _ _ _ _ _ _ _ _ _ (sepL [_, _, _])
     refine ⟨(ent_nil _), ?_⟩
     refine dg rfl rfl rfl rfl (neI rfl rfl) ?_
     refine dq rfl rfl rfl (pkF (v := .bool _) rfl rfl) ?_
     refine vmb rfl rfl rfl ?_
     refine TD.known 216 rfl (b' := false) (decide_eq_false (fun h9 => h9 rfl)) ?_
     refine dg rfl rfl rfl rfl (mv (v := .pointer _) rfl) ?_
     refine dg rfl rfl rfl rfl (mv (v := .int _ _) rfl) ?_
     refine dg rfl rfl rfl rfl (mv (v := .pointer _) rfl) ?_
     refine dg rfl rfl rfl rfl (nc rfl) ?_
     refine dg rfl rfl rfl rfl (fa 5 rfl rfl) ?_
     refine dg rfl rfl rfl rfl (mv (v := .int _ _) rfl) ?_
     refine deg rfl rfl rfl ?_
     refine cl (trow_ok a V2 hP hb x) rfl PkL.p trivial ?_
     intro yp _
     change ent _ _ ∧ TD _ _ _ _ _ _ _ _ _ _ (sepL [_, _, _, _])
     refine ⟨(ent_nil _), ?_⟩
     refine deg rfl rfl rfl ?_
     refine cl (xprow b4 V2.m.ids V2 hW hil x) rfl (picked_nil _) (ent_one 2 rfl) ?_
     intro yx _
     change ent _ _ ∧ TD _ _ _ _ _ _ _ _ _ _ (sepL [_, _, _, _, _])
     refine ⟨(ent_nil _), ?_⟩
     refine deg rfl rfl rfl ?_
     refine cl (offers_ok yp.1 _ yx.1 _ (rowR V2.m x) (by omega)) rfl (picked_nil _) ⟨⟨_, RdSI.rd (ad := yp.1)⟩, ⟨_, RdSI.rd (ad := yx.1)⟩⟩ ?_
     intro _ _
     change ent _ _ ∧ TD _ _ _ _ _ _ _ _ _ _ (sepL [_, _, _, _, _])
     refine ⟨(ent_nil _), ?_⟩
     refine dg rfl rfl rfl rfl (notB rfl) ?_
     refine dq rfl rfl rfl (pkF (v := .bool _) rfl rfl) ?_
     refine TD.nil (nt ?_)
     refine TC.condF rfl ?_
     refine TC.skip (nb (nt ?_))
     refine TC.region ?_
     refine wmi rfl rfl ?_
     refine q rfl rfl (addI rfl rfl (by omega) (by omega)) ?_
     refine wai rfl rfl ?_
     refine TL.nil (nt ?_)
     exact ⟨rfl, (k + 1), (by omega), (by omega), ⟨rfl, rfl, rfl, rfl, rfl, trivial⟩, (ent_take 2 rfl (ent_take 2 rfl (ent_take 2 rfl (ent_nil _))))⟩
    ·refine TC.RXc (b := b4) (D := V2.m.ids) (⟨(l1, l2), (k1, k2), (a1, a2), (i1, i2), (p1, p2), (s1, s2), (u1, u2), rr⟩ : RY) hm PkL.p ?_
     change TC _ _ _ _ _ _ _ (sepL [_, _, _])
     have hposl : 0 < (tactsC l).length := by omega
     refine TC.exit (et (et (eb (nt ?_))))
     refine TC.seq ?_
     refine TC.region ?_
     refine wmp rfl rfl ?_
     refine wms rfl rfl ?_
     refine wmi rfl rfl ?_
     refine q rfl rfl (ixS 63 6 rfl rfl rfl (by omega) (by assumption)) ?_
     refine q rfl rfl (faS 1 rfl rfl (by assumption)) ?_
     refine q rfl rfl (ldS rfl rfl (flat_ld tactC_sz ht 1 (by omega) rfl)) ?_
     refine e rfl ?_
     refine cl (xat_ok b4 V2.m.ids V2 hil t.id) rfl (picked_nil _) (ent_one 0 rfl) ?_
     intro _ _
     change TL _ _ _ _ _ _ _ _ (sepL [_, _, _])
     by_cases hin : t.id ∈ V2.m.ids
     ·obtain ⟨j, g1, g2⟩ := atD_yes hin
      rw [g1]
      refine q rfl rfl (lss rfl rfl) ?_
      refine wmb rfl rfl ?_
      refine TL.known 236 rfl (c := false) (decide_eq_false (by omega)) ?_
      refine qs rfl rfl ?_
      refine qs rfl rfl ?_
      refine qs rfl rfl ?_
      refine qs rfl rfl ?_
      refine qs rfl rfl ?_
      refine qs rfl rfl ?_
      refine qs rfl rfl ?_
      refine qs rfl rfl ?_
      refine qs rfl rfl ?_
      refine qsu rfl rfl ?_
      refine qsu rfl rfl ?_
      refine qsu rfl rfl ?_
      refine qsu rfl rfl ?_
      refine qsu rfl rfl ?_
      refine qsu rfl rfl ?_
      refine qsu rfl rfl ?_
      refine qsu rfl rfl ?_
      refine qs rfl rfl ?_
      refine qs rfl rfl ?_
      refine qsu rfl rfl ?_
      refine qsu rfl rfl ?_
      refine qsu rfl rfl ?_
      refine qsu rfl rfl ?_
      refine qsu rfl rfl ?_
      refine qsu rfl rfl ?_
      refine qsu rfl rfl ?_
      refine qsu rfl rfl ?_
      refine qs rfl rfl ?_
      refine qs rfl rfl ?_
      refine qsu rfl rfl ?_
      refine qsu rfl rfl ?_
      refine qsu rfl rfl ?_
      refine qsu rfl rfl ?_
      refine qsu rfl rfl ?_
      refine qsu rfl rfl ?_
      refine qsu rfl rfl ?_
      refine qsu rfl rfl ?_
      refine qsu rfl rfl ?_
      refine qs rfl rfl ?_
      refine q rfl rfl (pkF (v := .bool _) rfl rfl) ?_
      refine TL.nil (nt ?_)
      refine TC.condF rfl ?_
      refine TC.skip (nb (nt ?_))
      refine TC.region ?_
      refine wmi rfl rfl ?_
      refine q rfl rfl (addI rfl rfl (by omega) (by omega)) ?_
      refine wai rfl rfl ?_
      refine TL.nil (nt ?_)
      exact ⟨rfl, ⟨i + 1, V2⟩, ⟨by dsimp only; omega, hJ.up (by dsimp only; omega) (Nat.le_refl _)⟩, (by dsimp only; omega), ⟨rfl, rfl, rfl, rfl, trivial⟩, (ent_take 1 rfl (ent_take 0 rfl (ent_take 0 rfl (ent_nil _))))⟩
     ·rw [atD_no hin]
      have g1 : stT V2 t.id = -1 := if_neg hin
      have g2 : Al.leftA V2.A V2.now t.id = 0 := Al.left_no (fun h9 => hin (hP.al t.id h9).1) _
      have g3 : clR V2.m t.id = -1 := if_neg hin
      have g4 : rowR V2.m t.id = [] := if_neg hin
      refine q rfl rfl (lss rfl rfl) ?_
      refine wmb rfl rfl ?_
      refine TL.known 236 rfl (c := true) (by decide) ?_
      refine qg rfl rfl rfl (mv (v := .pointer _) rfl) ?_
      refine qg rfl rfl rfl (mv (v := .slice _ _ _) rfl) ?_
      refine qg rfl rfl rfl (mv (v := .int _ _) rfl) ?_
      refine qg rfl rfl rfl (ixS 63 6 rfl rfl rfl (by omega) (by assumption)) ?_
      refine qg rfl rfl rfl (faS 1 rfl rfl (by assumption)) ?_
      refine qg rfl rfl rfl (ldS rfl rfl (flat_ld tactC_sz ht 1 (by omega) rfl)) ?_
      refine eg rfl rfl ?_
      refine cl (tstate_ok a V2 t.id) rfl PkL.p trivial ?_
      intro _ _
      change TL _ _ _ _ _ _ _ _ (sepL [_, _, _])
      rw [g1]
      refine qg rfl rfl rfl (neI rfl rfl) ?_
      refine qg rfl rfl rfl (mv (v := .bool _) rfl) ?_
      refine TL.known 245 rfl (c := false) (by decide) ?_
      refine qg rfl rfl rfl (mv (v := .pointer _) rfl) ?_
      refine qg rfl rfl rfl (mv (v := .slice _ _ _) rfl) ?_
      refine qg rfl rfl rfl (mv (v := .int _ _) rfl) ?_
      refine qg rfl rfl rfl (ixS 63 6 rfl rfl rfl (by omega) (by assumption)) ?_
      refine qg rfl rfl rfl (faS 1 rfl rfl (by assumption)) ?_
      refine qg rfl rfl rfl (ldS rfl rfl (flat_ld tactC_sz ht 1 (by omega) rfl)) ?_
      refine eg rfl rfl ?_
      refine cl (tleft_ok a V2 hP hb t.id) rfl PkL.p trivial ?_
      intro _ _
      change TL _ _ _ _ _ _ _ _ (sepL [_, _, _])
      rw [g2]
      refine qg rfl rfl rfl (neI rfl rfl) ?_
      refine qg rfl rfl rfl (pkF (v := .bool _) rfl rfl) ?_
      refine qg rfl rfl rfl (mv (v := .bool _) rfl) ?_
      refine TL.known 255 rfl (c := false) (by decide) ?_
      refine qg rfl rfl rfl (mv (v := .pointer _) rfl) ?_
      refine qg rfl rfl rfl (mv (v := .slice _ _ _) rfl) ?_
      refine qg rfl rfl rfl (mv (v := .int _ _) rfl) ?_
      refine qg rfl rfl rfl (ixS 63 6 rfl rfl rfl (by omega) (by assumption)) ?_
      refine qg rfl rfl rfl (faS 1 rfl rfl (by assumption)) ?_
      refine qg rfl rfl rfl (ldS rfl rfl (flat_ld tactC_sz ht 1 (by omega) rfl)) ?_
      refine eg rfl rfl ?_
      refine cl (tcaller_ok a V2 hP hb t.id) rfl PkL.p trivial ?_
      intro _ _
      change TL _ _ _ _ _ _ _ _ (sepL [_, _, _])
      rw [g3]
      refine qg rfl rfl rfl (neI rfl rfl) ?_
      refine qg rfl rfl rfl (pkF (v := .bool _) rfl rfl) ?_
      refine qg rfl rfl rfl (mv (v := .bool _) rfl) ?_
      refine TL.known 265 rfl (c := false) (by decide) ?_
      refine qg rfl rfl rfl (mv (v := .pointer _) rfl) ?_
      refine qg rfl rfl rfl (mv (v := .slice _ _ _) rfl) ?_
      refine qg rfl rfl rfl (mv (v := .int _ _) rfl) ?_
      refine qg rfl rfl rfl (ixS 63 6 rfl rfl rfl (by omega) (by assumption)) ?_
      refine qg rfl rfl rfl (faS 1 rfl rfl (by assumption)) ?_
      refine qg rfl rfl rfl (ldS rfl rfl (flat_ld tactC_sz ht 1 (by omega) rfl)) ?_
      refine eg rfl rfl ?_
      refine cl (trow_ok a V2 hP hb t.id) rfl PkL.p trivial ?_
      intro yp _
      change TL _ _ _ _ _ _ _ _ (sepL [_, _, _, _])
      rw [g4]
      refine qg rfl rfl rfl (len 26 3 rfl rfl) ?_
      refine qg rfl rfl rfl (neI rfl rfl) ?_
      refine qg rfl rfl rfl (pkF (v := .bool _) rfl rfl) ?_
      refine q rfl rfl (pkT (v := .bool _) rfl rfl) ?_
      refine TL.nil (nt ?_)
      refine TC.condF rfl ?_
      refine TC.skip (nb (nt ?_))
      refine TC.region ?_
      refine wmi rfl rfl ?_
      refine q rfl rfl (addI rfl rfl (by omega) (by omega)) ?_
      refine wai rfl rfl ?_
      refine TL.nil (nt ?_)
      exact ⟨rfl, ⟨i + 1, V2⟩, ⟨by dsimp only; omega, hJ.up (by dsimp only; omega) (Nat.le_refl _)⟩, (by dsimp only; omega), ⟨rfl, rfl, rfl, rfl, trivial⟩, (ent_take 1 rfl (ent_take 1 rfl (ent_take 1 rfl (ent_nil _))))⟩
  ·have hJ := hJ0
   clear hJ0
   have hP := hJ.g.p
   have hb := hJ.g.tb (by omega)
   have hW := hP.wm
   have hil := hb.ids
   obtain ⟨hSl, hAl, _, _⟩ := hP.bds hb
   refine TC.exit (et (et (eb (nt ?_))))
   refine TC.seq ?_
   refine TC.seq ?_
   refine TC.region ?_
   refine wai rfl rfl ?_
   refine TL.nil (nt ?_)
   refine TC.block ?_
   refine TC.loop (ι := Nat) (fun v => v ≤ 8) (fun v => [(10, .pointer (some ⟨a, 0, none⟩)), (11, .pointer (some ⟨b4, 0, none⟩)), (15, .int .i64 ((v : Nat) : Int))]) (fun v => sepL [isT a V0, RX b4 V0.m.ids V0, F]) (fun v => 8 - v) 0 (by decide) ⟨rfl, rfl, rfl, trivial⟩ (ent_take 0 rfl (ent_take 0 rfl (ent_take 0 rfl (ent_nil _)))) ?_
   rintro v hv ρ3
   dsimp only [updL] at hv ⊢
   refine TC.seq ?_
   refine TC.seq ?_
   refine TC.region ?_
   refine wmi rfl rfl ?_
   refine q rfl rfl (lss rfl rfl) ?_
   refine TL.nil (nt ?_)
   refine TC.condD rfl (fun hlv => ?_) (fun hlv => ?_)
   ·have hrw := Rd.rowI_R hP.rj (v : Int)
    have hrl := Rd.rowI_len V0.S (v : Int)
    refine TC.skip (nt ?_)
    refine TC.seq ?_
    refine TC.block ?_
    refine TC.seq ?_
    refine TC.draw _ [] [(0, false), (1, false), (3, false), (4, false), (5, false), (6, false), (2, true), (7, true), (8, true), (9, false)] (by kernel_rfl) (by kernel_rfl) (ent_nil _) ?_
    refine vmp rfl rfl rfl ?_
    refine vmi rfl rfl rfl ?_
    refine vmp rfl rfl rfl ?_
    refine vnc rfl rfl rfl ?_
    refine vfa 1 rfl rfl rfl rfl ?_
    refine vmi rfl rfl rfl ?_
    refine de rfl rfl ?_
    refine cl (tready_ok a V0 hP hb (v : Int)) rfl PkL.p trivial ?_
    intro yp _
    change ent _ _ ∧ TD _ _ _ _ _ _ _ _ _ _ (sepL [_, _, _, _])
    refine ⟨(ent_nil _), ?_⟩
    rw [hrw]
    refine de rfl rfl ?_
    refine cl (xqrow b4 V0.m.ids V0 (by omega) (v : Int)) rfl (picked_nil _) (ent_one 2 rfl) ?_
    intro yx _
    change ent _ _ ∧ TD _ _ _ _ _ _ _ _ _ _ (sepL [_, _, _, _, _])
    refine ⟨(ent_nil _), ?_⟩
    refine de rfl rfl ?_
    refine cl (same_ok yp.1 _ (Rd.rowI V0.S (v : Int)) yx.1 _ (Rd.rowI V0.S (v : Int)) (by omega)) rfl (picked_nil _) ⟨⟨_, RdSI.rd (ad := yp.1)⟩, ⟨_, RdSI.rd (ad := yx.1)⟩⟩ ?_
    intro _ _
    change ent _ _ ∧ TD _ _ _ _ _ _ _ _ _ _ (sepL [_, _, _, _, _])
    refine ⟨(ent_nil _), ?_⟩
    refine dq rfl rfl rfl (notD rfl) ?_
    refine TD.nil (nt ?_)
    refine TC.condD rfl (fun hc4 => absurd hc4 (fun h9 => h9 rfl)) (fun hc4 => ?_)
    refine TC.skip (nb (nt ?_))
    refine TC.region ?_
    refine wmi rfl rfl ?_
    refine q rfl rfl (addI rfl rfl (by omega) (by omega)) ?_
    refine wai rfl rfl ?_
    refine TL.nil (nt ?_)
    exact ⟨rfl, (v + 1), (by omega), (by omega), ⟨rfl, rfl, rfl, trivial⟩, (ent_take 2 rfl (ent_take 2 rfl (ent_take 2 rfl (ent_nil _))))⟩
   ·refine TC.exit (et (et (eb (nt ?_))))
    refine TC.seq ?_
    refine TC.region ?_
    refine wmp rfl rfl ?_
    refine e rfl ?_
    refine cl (ttold_ok a V0) rfl PkL.p trivial ?_
    intro yp _
    change TL _ _ _ _ _ _ _ _ (sepL [_, _, _, _])
    refine wmp rfl rfl ?_
    refine e rfl ?_
    refine cl (xtold_ok b4 V0) rfl PkL.p trivial ?_
    intro yx _
    change TL _ _ _ _ _ _ _ _ (sepL [_, _, _, _, _])
    have htl9 := hJ.g.told
    refine e rfl ?_
    refine cl (tsame_ok yp.1 _ V0.told yx.1 _ V0.told (by omega)) rfl (picked_nil _) ⟨⟨_, RdSI.rd (ad := yp.1)⟩, ⟨_, RdSI.rd (ad := yx.1)⟩⟩ ?_
    intro _ _
    change TL _ _ _ _ _ _ _ _ (sepL [_, _, _, _, _])
    refine wab rfl rfl ?_
    refine TL.nil (nt ?_)
    refine TC.ret ?_
    exact Ret.i () [_] ⟨rfl, trivial⟩ (congrArg Value.bool (decide_eq_true rfl)) trivial (ent_take 4 rfl (ent_nil _))
end Go.Proofs.YtdfmfhcjnjfjbaaGreat
