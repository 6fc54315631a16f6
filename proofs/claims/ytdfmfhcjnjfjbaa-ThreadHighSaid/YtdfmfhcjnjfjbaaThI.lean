/-
  Proved here: what functions of this program compute, each as a contract over symbolic states, under the premises that each theorem names (most lines printed by a program of the prover).
-/
import Derived.Test.YtdfmfhcjnjfjbaaThF
namespace Go.Proofs.Ytdfmfhcjnjfjbaa
open Go Go.QM
open Al (En hasA Nd clrA setA offA dueA restA leftA)
open Rd (hasS NdS addS RInv topS runS tickS yieldS rndS)
def qL (q : Int) (k : Nat) : List Rd.Th := (List.range k).map fun j : Nat => ⟨(j : Int), q, 2, 2⟩
theorem qL_snoc (q : Int) (k : Nat) : qL q k ++ [⟨(k : Int), q, 2, 2⟩] = qL q (k + 1) := by simp [qL, List.range_succ]
theorem qL_has {q : Int} {k : Nat} {x : Int} (h : hasS (qL q k) x) : 0 ≤ x ∧ x < k := by
  obtain ⟨t, ht, rfl⟩ := h
  obtain ⟨j, hj, rfl⟩ := List.mem_map.1 ht
  have := List.mem_range.1 hj; dsimp only; omega
theorem qL_len (q : Int) (k : Nat) : (qL q k).length = k := by simp [qL]
theorem qL_cons (q : Int) (k : Nat) : qL q (k + 1) = ⟨0, q, 2, 2⟩ :: (List.range k).map fun j : Nat => (⟨((j + 1 : Nat) : Int), q, 2, 2⟩ : Rd.Th) := by
  simp [qL, List.range_succ_eq_map]
structure HJ (T : TS) (p q : Int) (i : Nat) : Prop where
  g : TG T (2 + 2 * i)
  ids : ∀ x, x ∈ T.m.ids ↔ x = 100 ∨ (0 ≤ x ∧ x < i)
  len : T.m.ids.length = i + 1
  S : T.S = qL q i
  hun : T.on 100 = true ∧ T.m.st 100 = 2 ∧ T.pr 100 = p ∧ T.sl 100 = 3
def HA : TS := addL t0 [100]
theorem HA_n : (HA.m.ids.length : Int) - (t0.m.ids.length : Int) = 1 := by kernel_rfl
theorem HA_g : TG HA 0 := TG.zero.adds _ (by decide)
def HB (p : Int) : TS := (startS HA 100 p 3).1
def HC (p : Int) : TS := (waitS (HB p) 100 0).1
theorem p8 {p : Int} (hp : 0 ≤ p ∧ p ≤ 7) : p = 0 ∨ p = 1 ∨ p = 2 ∨ p = 3 ∨ p = 4 ∨ p = 5 ∨ p = 6 ∨ p = 7 := by omega
theorem hg_a {p : Int} (hp : 0 ≤ p ∧ p ≤ 7) : startS HA 100 p 3 = (HB p, 0) ∧ waitS (HB p) 100 0 = (HC p, 0) ∧ runS (HC p).S = -1 ∧ (HC p).m.ids = [100] ∧ (HC p).S = [] ∧ (HC p).on 100 = true ∧ (HC p).m.st 100 = 2 ∧ (HC p).pr 100 = p ∧ (HC p).sl 100 = 3 := by
  rcases p8 hp with rfl | rfl | rfl | rfl | rfl | rfl | rfl | rfl <;> exact ⟨by kernel_rfl, by kernel_rfl, by kernel_rfl, by kernel_rfl, by kernel_rfl, by kernel_rfl, by kernel_rfl, by kernel_rfl, by kernel_rfl⟩
theorem HJ.start {p : Int} (hp : 0 ≤ p ∧ p ≤ 7) (q : Int) (hg : TG (HC p) 2) : HJ (HC p) p q 0 := by
  obtain ⟨_, _, _, h4, h5, h6, h7, h8, h9⟩ := hg_a hp
  refine ⟨hg, fun x => ?_, by rw [h4]; rfl, h5, h6, h7, h8, h9⟩
  rw [h4, List.mem_singleton]
  exact ⟨.inl, fun h => h.resolve_right fun h => by omega⟩
def hN (T : TS) (i : Nat) : TS := addL T [(i : Int)]
theorem HJ.add {T : TS} {p q : Int} {i : Nat} (h : HJ T p q i) (hi : i < 10) : TG (hN T i) (2 + 2 * i) ∧ ((hN T i).m.ids.length : Int) - (T.m.ids.length : Int) = 1 ∧ hN T i = { T with m := joinS T.m i, pr := updI T.pr i 0, sl := updI T.sl i 0, on := updI T.on i false } ∧ (joinS T.m i).ids = T.m.ids ++ [(i : Int)] := by
  have hn : ¬ ((i : Int) ∈ T.m.ids ∨ (i : Int) < 0) := fun h2 => by
    rcases h2 with h2 | h2
    · have := (h.ids _).1 h2; omega
    · omega
  have hj : (joinS T.m i).ids = T.m.ids ++ [(i : Int)] := by rw [joinS, if_neg hn]
  have he : hN T i = { T with m := joinS T.m i, pr := updI T.pr i 0, sl := updI T.sl i 0, on := updI T.on i false } := by
    show addT T i = _
    rw [addT, if_neg hn]
  refine ⟨h.g.adds _ ?_, ?_, he, hj⟩
  · rw [h.len]; simp; omega
  · rw [he, hj, List.length_append, List.length_singleton]; omega
theorem HJ.next {T : TS} {p q : Int} {i : Nat} (h : HJ T p q i) (hi : i < 10) (hq : 0 ≤ q ∧ q ≤ 7) : (startS (hN T i) i q 2).2 = 0 ∧ HJ (startS (hN T i) i q 2).1 p q (i + 1) := by
  obtain ⟨h1, h2, h3, h4⟩ := h.add hi
  have hg := h1.start i q 2
  have hm : (i : Int) ∈ (hN T i).m.ids := by rw [h3, h4]; simp
  have hon : ¬ ((hN T i).on i = true) := by rw [h3]; show ¬ (updI T.on i false i = true); rw [updI_same]; decide
  have hS : (hN T i).S = qL q i := by rw [h3]; exact h.S
  have hx : ¬ hasS (qL q i) (i : Int) := fun h5 => by have := qL_has h5; omega
  have hv : startS (hN T i) i q 2 = ({ (hN T i) with S := qL q (i + 1), pr := updI (hN T i).pr i q, sl := updI (hN T i).sl i 2, on := updI (hN T i).on i true }, 0) := by
    rw [startS, if_neg (fun h5 => h5 hm), if_neg (by omega), if_neg hon, hS, add_yes (by omega) hq (by decide) hx, qL_snoc]
  rw [hv] at hg ⊢
  have hne : (100 : Int) ≠ (i : Int) := by omega
  refine ⟨rfl, hg.up (by omega), fun x => ?_, ?_, rfl, ?_⟩
  · show x ∈ (hN T i).m.ids ↔ _
    rw [h3, h4, List.mem_append, h.ids, List.mem_singleton]
    omega
  · show (hN T i).m.ids.length = _
    rw [h3, h4, List.length_append, h.len]; rfl
  · show updI (hN T i).on i true 100 = true ∧ (hN T i).m.st 100 = 2 ∧ updI (hN T i).pr i q 100 = p ∧ updI (hN T i).sl i 2 100 = 3
    rw [updI_ne hne, updI_ne hne, updI_ne hne, h3]
    show updI T.on i false 100 = true ∧ (joinS T.m i).st 100 = 2 ∧ updI T.pr i 0 100 = p ∧ updI T.sl i 0 100 = 3
    have hn : ¬ ((i : Int) ∈ T.m.ids ∨ (i : Int) < 0) := fun h2 => by
      rcases h2 with h2 | h2
      · have := (h.ids _).1 h2; omega
      · omega
    rw [updI_ne hne, updI_ne hne, updI_ne hne, joinS, if_neg hn]
    show _ ∧ updI T.m.st i 0 100 = 2 ∧ _
    rw [updI_ne hne]; exact h.hun
def hW (T : TS) : TS := (wakeS T 13 100).1
theorem HJ.wake {T : TS} {p q : Int} {i : Nat} (h : HJ T p q i) : wakeS T 13 100 = (hW T, 0) ∧ (hW T).S = qL q i ++ [⟨100, p, 3, 3⟩] := by
  have hm : (100 : Int) ∈ T.m.ids := (h.ids _).2 (.inl rfl)
  obtain ⟨h1, h2, h3, h4⟩ := h.hun
  have hs : stT T 100 = 2 := by rw [stT, if_pos hm, if_pos h1, h2]
  have hv : wakeS T 13 100 = (tellS (mS T (callS T.m 100).1) 13 [100], 0) := by rw [wakeS, if_neg (fun h5 => h5 hm), if_neg (by rw [hs]; decide)]
  have hP := h.g.p.callM hm (by rw [h2]; decide)
  have ha := hP.add1
  refine ⟨by rw [hW, hv], ?_⟩
  rw [hW, hv]
  show (addS (mS T (callS T.m 100).1).S 100 (T.pr 100) (T.sl 100)).1 = _
  rw [show (mS T (callS T.m 100).1).pr 100 = T.pr 100 from rfl, show (mS T (callS T.m 100).1).sl 100 = T.sl 100 from rfl] at ha
  rw [ha, h3, h4]
  show T.S ++ _ = _
  rw [h.S]
/-- Who runs, of rows of one priority and one more. -/
theorem top_head {t : Rd.Th} {S : List Rd.Th} (h : ∀ u ∈ S, u.prio ≤ t.prio) : topS (t :: S) = some t := by
  rw [topS, List.find?_cons_of_pos]
  simp only [List.all_eq_true, decide_eq_true_eq, List.mem_cons]
  rintro u (rfl | hu)
  · exact Int.le_refl _
  · exact h u hu
theorem run_head {t : Rd.Th} {S : List Rd.Th} (h : ∀ u ∈ S, u.prio ≤ t.prio) : runS (t :: S) = t.id := by rw [runS, top_head h]
theorem top_last {t : Rd.Th} {S : List Rd.Th} (h : ∀ u ∈ S, u.prio < t.prio) : topS (S ++ [t]) = some t := by
  rw [topS, List.find?_append]
  have h1 : S.find? (fun u => (S ++ [t]).all fun v => decide (v.prio ≤ u.prio)) = none := by
    rw [List.find?_eq_none]
    intro u hu hc
    simp only [List.all_eq_true, decide_eq_true_eq] at hc
    have := hc t (by simp)
    have := h u hu
    omega
  rw [h1, Option.none_or, List.find?_cons_of_pos]
  simp only [List.all_eq_true, decide_eq_true_eq, List.mem_append, List.mem_singleton]
  rintro u (hu | rfl)
  · have := h u hu; omega
  · exact Int.le_refl _
theorem run_last {t : Rd.Th} {S : List Rd.Th} (h : ∀ u ∈ S, u.prio < t.prio) : runS (S ++ [t]) = t.id := by rw [runS, top_last h]
theorem off_head {t : Rd.Th} {S : List Rd.Th} (hn : NdS (t :: S)) : Rd.offS (t :: S) t.id = S := by
  have h1 := List.nodup_cons.1 (show ((t :: S).map (·.id)).Nodup from hn)
  rw [Rd.offS, List.filter_cons_of_neg (by simp), List.filter_eq_self.2]
  intro u hu
  simp only [decide_eq_true_eq]
  exact fun e => h1.1 (List.mem_map.2 ⟨u, hu, e⟩)
theorem yield_head {t : Rd.Th} {S : List Rd.Th} (hn : NdS (t :: S)) (h : ∀ u ∈ S, u.prio ≤ t.prio) (hl : t.left = t.whole) : yieldS (t :: S) = S ++ [t] := by
  rw [yieldS, top_head h]
  show rndS (t :: S) t = _
  rw [rndS, off_head hn]
  obtain ⟨a, b, c, d⟩ := t
  dsimp only at hl
  rw [hl]
def tH (p : Int) : Rd.Th := ⟨100, p, 3, 3⟩
def rot (q p : Int) (m i : Nat) : List Rd.Th := (qL q m ++ [tH p]).drop i ++ (qL q m ++ [tH p]).take i
theorem rot_zero (q p : Int) (m : Nat) : rot q p m 0 = qL q m ++ [tH p] := by simp [rot]
theorem qL_get {q : Int} {m i : Nat} (h : i < m) : (qL q m)[i]? = some ⟨(i : Int), q, 2, 2⟩ := by
  rw [qL, List.getElem?_map, List.getElem?_range h]; rfl
theorem mem_rot {q p : Int} {m i : Nat} {t : Rd.Th} (h : t ∈ rot q p m i) : (t ∈ qL q m) ∨ t = tH p := by
  have : t ∈ qL q m ++ [tH p] := by
    rcases List.mem_append.1 h with h | h
    · exact List.mem_of_mem_drop h
    · exact List.mem_of_mem_take h
  rcases List.mem_append.1 this with h | h
  · exact .inl h
  · exact .inr (List.mem_singleton.1 h)
theorem qL_prio {q : Int} {m : Nat} {t : Rd.Th} (h : t ∈ qL q m) : t.prio = q := by
  obtain ⟨j, _, rfl⟩ := List.mem_map.1 h; rfl
theorem rot_cons {q p : Int} {m i : Nat} {t : Rd.Th} (h : (qL q m ++ [tH p])[i]? = some t) : ∃ R, rot q p m i = t :: R ∧ rot q p m (i + 1) = R ++ [t] := by
  obtain ⟨h1, h2⟩ := List.getElem?_eq_some_iff.1 h
  refine ⟨(qL q m ++ [tH p]).drop (i + 1) ++ (qL q m ++ [tH p]).take i, ?_, ?_⟩
  · rw [rot, List.drop_eq_getElem_cons h1, h2]; rfl
  · rw [rot, List.take_add_one, h]; simp
theorem rot_step {q : Int} {m i : Nat} (hn : NdS (rot q q m i)) {t : Rd.Th} (h : (qL q m ++ [tH q])[i]? = some t) : runS (rot q q m i) = t.id ∧ yieldS (rot q q m i) = rot q q m (i + 1) := by
  obtain ⟨R, h1, h2⟩ := rot_cons h
  have hp : ∀ u ∈ rot q q m i, u.prio = q := fun u hu => by
    rcases mem_rot hu with hu | rfl
    · exact qL_prio hu
    · rfl
  have ht : t ∈ rot q q m i := by rw [h1]; simp
  have hl : t.left = t.whole := by
    rcases mem_rot ht with hu | rfl
    · obtain ⟨j, _, rfl⟩ := List.mem_map.1 hu; rfl
    · rfl
  have hpr : ∀ u ∈ R, u.prio ≤ t.prio := fun u hu => by
    rw [hp u (by rw [h1]; simp [hu]), hp t ht]; exact Int.le_refl _
  rw [h1] at hn ⊢
  rw [h2]
  exact ⟨run_head hpr, yield_head hn hpr hl⟩
theorem rot_end (q : Int) (m : Nat) : rot q q m (m + 1) = rot q q m 0 := by
  have : (qL q m ++ [tH q]).length = m + 1 := by simp [qL]
  rw [rot, rot, List.drop_of_length_le (by omega), List.take_of_length_le (by omega)]; simp
theorem hgh_row {T : TS} {p q : Int} {m : Nat} (hR : RInv T.S) (hS : T.S = qL q m ++ [tH p] ∨ ∃ a R, qL q m = a :: R ∧ T.S = (R ++ [tH p]) ++ [a]) (hne : p ≠ q) (hp : 0 ≤ p ∧ p ≤ 7) : (Rd.rowR T.S p).length = 1 := by
  have h1 : ∀ L : List Rd.Th, (∀ t ∈ L, t.prio = q) → L.filter (fun t => decide (t.prio = ((p.toNat : Nat) : Int))) = [] := fun L hL => by
    rw [List.filter_eq_nil_iff]
    intro t ht
    simp only [decide_eq_true_eq]
    rw [hL t ht]; omega
  have h2 : [tH p].filter (fun t => decide (t.prio = ((p.toNat : Nat) : Int))) = [tH p] := by
    rw [List.filter_cons_of_pos]
    · rfl
    · simp only [decide_eq_true_eq]; show p = _; omega
  have h3 : Rd.rowR T.S p = Rd.rowA T.S p.toNat := by
    rw [Rd.rowR, if_pos (by omega)]
  rw [h3, Rd.rowA, List.length_map]
  rcases hS with hS | ⟨a, R, hq, hS⟩
  · rw [hS, List.filter_append, h1 _ (fun t ht => qL_prio ht), h2]; rfl
  · have ha : ∀ t ∈ a :: R, t.prio = q := fun t ht => by rw [← hq] at ht; exact qL_prio ht
    rw [hS, List.filter_append, List.filter_append, h1 R (fun t ht => ha t (by simp [ht])), h2, h1 [a] (fun t ht => ha t (by simp [List.mem_singleton.1 ht]))]; rfl

set_option maxRecDepth 4000 in
set_option maxHeartbeats 4000000 in
theorem high_ok (h y n : Int) (hh : 0 ≤ h ∧ h ≤ 255) (hy : 0 ≤ y ∧ y ≤ 255) (hn : 0 ≤ n ∧ n ≤ 255) : FSpec Try.prog 4 [.int .u8 h, .int .u8 y, .int .u8 n] noRd [] (fun _ : Unit => .bool true) (fun _ => True) (fun _ => []) := by
  refine FSpec.intro (rs := [.tmp 6]) (by kernel_rfl) Try.func4 rfl Try.ntmps4 (by rfl) rfl ?_
  intro F _
  change TC _ _ _ _ _ _ _ (sepL [_])
  refine TC.seq ?_
  refine TC.region ?_
  refine q rfl rfl (asg (v := .bool _) rfl) ?_
  refine TL.nil (nt ?_)
  refine TC.seq ?_
  refine TC.seq ?_
  refine TC.region ?_
  refine e rfl ?_
  refine cl alive_ok rfl (picked_nil _) trivial ?_
  intro _ _
  change TL _ _ _ _ _ _ _ _ (sepL [_])
  first | refine q rfl rfl (notD rfl) ?_ | refine q rfl rfl (notB rfl) ?_
  refine TL.nil (nt ?_)
  refine TC.condF rfl ?_
  refine TC.skip (nt ?_)
  refine TC.seq ?_
  refine TC.region ?_
  refine e rfl ?_
  refine cl tnew_ok rfl (picked_nil _) trivial ?_
  intro a _
  change TL _ _ _ _ _ _ _ _ (sepL [_, _])
  refine q rfl rfl (asg (v := .pointer _) rfl) ?_
  refine TL.nil (nt ?_)
  refine TC.seq ?_
  refine TC.region ?_
  refine q rfl rfl (mv (v := .int _ _) rfl) ?_
  first | refine q rfl rfl (conv .u8 .i64 rfl rfl rfl (wi64 (by omega) (by omega))) ?_ | refine q rfl rfl (conv .u8 .i64 rfl rfl rfl rfl) ?_
  first | refine q rfl rfl (remI rfl rfl (by omega) (by omega)) ?_ | refine q rfl rfl (rem rfl rfl (by omega) rfl) ?_
  refine q rfl rfl (mv (v := .int _ _) rfl) ?_
  first | refine q rfl rfl (conv .u8 .i64 rfl rfl rfl (wi64 (by omega) (by omega))) ?_ | refine q rfl rfl (conv .u8 .i64 rfl rfl rfl rfl) ?_
  first | refine q rfl rfl (remI rfl rfl (by omega) (by omega)) ?_ | refine q rfl rfl (rem rfl rfl (by omega) rfl) ?_
  refine q rfl rfl (mv (v := .int _ _) rfl) ?_
  first | refine q rfl rfl (conv .u8 .i64 rfl rfl rfl (wi64 (by omega) (by omega))) ?_ | refine q rfl rfl (conv .u8 .i64 rfl rfl rfl rfl) ?_
  first | refine q rfl rfl (remI rfl rfl (by omega) (by omega)) ?_ | refine q rfl rfl (rem rfl rfl (by omega) rfl) ?_
  first | refine q rfl rfl (addI rfl rfl (by omega) (by omega)) ?_ | refine q rfl rfl (add rfl rfl rfl) ?_
  refine q rfl rfl (asg (v := .int _ _) rfl) ?_
  refine q rfl rfl (asg (v := .int _ _) rfl) ?_
  refine q rfl rfl (asg (v := .int _ _) rfl) ?_
  refine TL.nil (nt ?_)
  refine TC.seq ?_
  refine TC.seq ?_
  refine TC.region ?_
  refine q rfl rfl (mv (v := .pointer _) rfl) ?_
  refine e rfl ?_
  refine bs (cs := [.int _ _]) rfl ?_
  intro b1
  have hp : 0 ≤ h % 8 ∧ h % 8 ≤ 7 := by omega
  have hq : 0 ≤ y % 8 ∧ y % 8 ≤ 7 := by omega
  have hM : 1 ≤ 1 + n % 10 ∧ 1 + n % 10 ≤ 10 := by omega
  generalize h % 8 = pp at hp ⊢
  generalize y % 8 = qq at hq ⊢
  generalize 1 + n % 10 = MI at hM ⊢
  obtain ⟨m, rfl⟩ : ∃ m : Nat, MI = (m : Int) := ⟨MI.toNat, by omega⟩
  have hm1 : 1 ≤ m ∧ m ≤ 10 := by omega
  obtain ⟨e1, e2, e3, _⟩ := hg_a hp
  refine e rfl ?_
  refine cl (tadd_ok a t0 (some ⟨b1, 0, none⟩) _ [100] (by decide) (by decide)) rfl PkL.p ⟨_, RdSI.rd (ad := some ⟨b1, 0, none⟩)⟩ ?_
  intro _ _
  change TL _ _ _ _ _ _ _ _ (sepL [_, _, _])
  rw [show addL t0 [100] = HA from rfl, HA_n]
  have g1 := HA_g
  refine q rfl rfl (neI rfl rfl) ?_
  refine q rfl rfl (mv (v := .bool _) rfl) ?_
  refine TL.known 30 rfl (c := false) (by decide) ?_
  refine qg rfl rfl rfl (mv (v := .pointer _) rfl) ?_
  refine qg rfl rfl rfl (mv (v := .int _ _) rfl) ?_
  refine eg rfl rfl ?_
  refine cl (tstart_ok a HA g1.p (g1.tb (by omega)) 100 pp 3) rfl PkL.p trivial ?_
  intro _ _
  change TL _ _ _ _ _ _ _ _ (sepL [_, _, _])
  rw [e1]
  dsimp only
  have g2 := g1.start 100 pp 3
  rw [e1] at g2
  dsimp only at g2
  refine qg rfl rfl rfl (neI rfl rfl) ?_
  first | refine q rfl rfl (pkT (v := .bool _) rfl rfl) ?_ | refine q rfl rfl (pkF (v := .bool _) rfl rfl) ?_
  refine q rfl rfl (mv (v := .bool _) rfl) ?_
  refine TL.known 36 rfl (c := false) (by decide) ?_
  refine qg rfl rfl rfl (mv (v := .pointer _) rfl) ?_
  refine eg rfl rfl ?_
  refine cl (twait_ok a (HB pp) g2.p (g2.tb (by omega)) 100 0) rfl PkL.p trivial ?_
  intro _ _
  change TL _ _ _ _ _ _ _ _ (sepL [_, _, _])
  rw [e2]
  dsimp only
  have g3 := g2.wait 100 0
  rw [e2] at g3
  dsimp only at g3
  refine qg rfl rfl rfl (neI rfl rfl) ?_
  first | refine q rfl rfl (pkT (v := .bool _) rfl rfl) ?_ | refine q rfl rfl (pkF (v := .bool _) rfl rfl) ?_
  refine q rfl rfl (mv (v := .bool _) rfl) ?_
  refine TL.known 41 rfl (c := false) (by decide) ?_
  refine qg rfl rfl rfl (mv (v := .pointer _) rfl) ?_
  refine eg rfl rfl ?_
  refine cl (trun_ok a (HC pp) g3.p (g3.tb (by omega))) rfl PkL.p trivial ?_
  intro _ _
  change TL _ _ _ _ _ _ _ _ (sepL [_, _, _])
  rw [e3]
  refine qg rfl rfl rfl (neI rfl rfl) ?_
  first | refine q rfl rfl (pkT (v := .bool _) rfl rfl) ?_ | refine q rfl rfl (pkF (v := .bool _) rfl rfl) ?_
  refine TL.nil (nt ?_)
  refine TC.condF rfl ?_
  refine TC.skip (nt ?_)
  refine TC.seq ?_
  refine TC.seq ?_
  refine TC.region ?_
  refine q rfl rfl (asg (v := .int _ _) rfl) ?_
  refine TL.nil (nt ?_)
  refine TC.block ?_
  refine TC.loop (ι := Nat × TS) (fun u => u.1 ≤ m ∧ HJ u.2 pp qq u.1) (fun u => [(7, .pointer (some ⟨a, 0, none⟩)), (8, .int .i64 pp), (9, .int .i64 qq), (10, .int .i64 (m : Int)), (11, .int .i64 ((u.1 : Nat) : Int))]) (fun u => sepL [isT a u.2, F]) (fun u => m - u.1) ⟨0, HC pp⟩ ⟨Nat.zero_le _, HJ.start hp qq g3⟩ ⟨rfl, rfl, rfl, rfl, rfl, trivial⟩ (by repeat (first | exact ent_nil _ | refine ent_take 0 rfl ?_ | refine ent_take 1 rfl ?_ | refine ent_take 2 rfl ?_ | refine ent_take 3 rfl ?_ | refine ent_take 4 rfl ?_ | refine ent_take 5 rfl ?_ | refine ent_take 6 rfl ?_ | refine ent_take 7 rfl ?_ | refine ent_take 8 rfl ?_ | refine ent_take 9 rfl ?_ | refine ent_take 10 rfl ?_ | refine ent_take 11 rfl ?_ | refine ent_take 12 rfl ?_)) ?_
  rintro ⟨i, T⟩ ⟨hi, hJ⟩ ρ0
  dsimp only [updL] at hi hJ ⊢
  refine TC.seq ?_
  refine TC.seq ?_
  refine TC.region ?_
  refine q rfl rfl (mv (v := .int _ _) rfl) ?_
  refine q rfl rfl (mv (v := .int _ _) rfl) ?_
  refine q rfl rfl (lss rfl rfl) ?_
  refine TL.nil (nt ?_)
  first | refine TC.condD rfl (fun hlt => ?_) (fun hlt => ?_) | refine TC.cond rfl (fun hlt => ?_) (fun hlt => ?_)
  · have hi2 : i < 10 := by omega
    obtain ⟨a1, a2, _⟩ := hJ.add hi2
    obtain ⟨hz1, hz2⟩ := hJ.next hi2 hq
    have hil := hJ.len
    refine TC.skip (nt ?_)
    refine TC.seq ?_
    refine TC.block ?_
    refine TC.seq ?_
    refine TC.region ?_
    refine q rfl rfl (mv (v := .pointer _) rfl) ?_
    refine q rfl rfl (mv (v := .int _ _) rfl) ?_
    refine e rfl ?_
    refine bs (cs := [.int _ _]) rfl ?_
    intro b2
    refine e rfl ?_
    refine cl (tadd_ok a T (some ⟨b2, 0, none⟩) _ [(i : Int)] (by simp) (by omega)) rfl PkL.p ⟨_, RdSI.rd (ad := some ⟨b2, 0, none⟩)⟩ ?_
    intro _ _
    change TL _ _ _ _ _ _ _ _ (sepL [_, _, _])
    rw [show addL T [(i : Int)] = hN T i from rfl, a2]
    refine q rfl rfl (neI rfl rfl) ?_
    refine q rfl rfl (mv (v := .bool _) rfl) ?_
    refine TL.known 56 rfl (c := false) (by decide) ?_
    refine qg rfl rfl rfl (mv (v := .pointer _) rfl) ?_
    refine qg rfl rfl rfl (mv (v := .int _ _) rfl) ?_
    refine qg rfl rfl rfl (mv (v := .int _ _) rfl) ?_
    refine eg rfl rfl ?_
    refine cl (tstart_ok a (hN T i) a1.p (a1.tb (by omega)) i qq 2) rfl PkL.p trivial ?_
    intro _ _
    change TL _ _ _ _ _ _ _ _ (sepL [_, _, _])
    rw [hz1]
    refine qg rfl rfl rfl (neI rfl rfl) ?_
    first | refine q rfl rfl (pkT (v := .bool _) rfl rfl) ?_ | refine q rfl rfl (pkF (v := .bool _) rfl rfl) ?_
    refine TL.nil (nt ?_)
    refine TC.condF rfl ?_
    refine TC.skip (nb (nt ?_))
    refine TC.region ?_
    refine q rfl rfl (mv (v := .int _ _) rfl) ?_
    first | refine q rfl rfl (addI rfl rfl (by omega) (by omega)) ?_ | refine q rfl rfl (add rfl rfl rfl) ?_
    refine q rfl rfl (asg (v := .int _ _) rfl) ?_
    refine TL.nil (nt ?_)
    exact ⟨rfl, ⟨i + 1, _⟩, ⟨by dsimp only; omega, hz2⟩, (by dsimp only; omega), ⟨rfl, rfl, rfl, rfl, rfl, trivial⟩, (by repeat (first | exact ent_nil _ | refine ent_take 0 rfl ?_ | refine ent_take 1 rfl ?_ | refine ent_take 2 rfl ?_ | refine ent_take 3 rfl ?_ | refine ent_take 4 rfl ?_ | refine ent_take 5 rfl ?_ | refine ent_take 6 rfl ?_ | refine ent_take 7 rfl ?_ | refine ent_take 8 rfl ?_ | refine ent_take 9 rfl ?_ | refine ent_take 10 rfl ?_ | refine ent_take 11 rfl ?_ | refine ent_take 12 rfl ?_))⟩
  · obtain rfl : i = m := by omega
    obtain ⟨w1, w2⟩ := hJ.wake
    have hg := hJ.g
    have hg2 := hg.wake 13 100
    rw [w1] at hg2
    dsimp only at hg2
    have hr0 : runS T.S = 0 := by
      rw [hJ.S]
      obtain ⟨k, rfl⟩ : ∃ k, i = k + 1 := ⟨i - 1, by omega⟩
      rw [qL_cons]
      refine run_head fun u hu => ?_
      obtain ⟨j, _, rfl⟩ := List.mem_map.1 hu; exact Int.le_refl _
    refine TC.exit (et (et (eb (nt ?_))))
    refine TC.seq ?_
    refine TC.seq ?_
    refine TC.region ?_
    refine q rfl rfl (mv (v := .pointer _) rfl) ?_
    refine e rfl ?_
    refine cl (trun_ok a T hg.p (hg.tb (by omega))) rfl PkL.p trivial ?_
    intro _ _
    change TL _ _ _ _ _ _ _ _ (sepL [_, _])
    rw [hr0]
    refine q rfl rfl (neI rfl rfl) ?_
    refine q rfl rfl (mv (v := .bool _) rfl) ?_
    refine TL.known 66 rfl (c := false) (by decide) ?_
    refine qg rfl rfl rfl (mv (v := .pointer _) rfl) ?_
    refine eg rfl rfl ?_
    refine cl (twake_ok a T hg.p (hg.tb (by omega)) 100 13) rfl PkL.p trivial ?_
    intro _ _
    change TL _ _ _ _ _ _ _ _ (sepL [_, _])
    rw [w1]
    dsimp only
    rw [show (⟨100, pp, 3, 3⟩ : Rd.Th) = tH pp from rfl] at w2
    refine qg rfl rfl rfl (neI rfl rfl) ?_
    first | refine q rfl rfl (pkT (v := .bool _) rfl rfl) ?_ | refine q rfl rfl (pkF (v := .bool _) rfl rfl) ?_
    refine TL.nil (nt ?_)
    refine TC.condF rfl ?_
    refine TC.skip (nt ?_)
    refine TC.seq ?_
    refine TC.seq ?_
    refine TC.region ?_
    refine q rfl rfl (mv (v := .int _ _) rfl) ?_
    refine q rfl rfl (mv (v := .int _ _) rfl) ?_
    refine q rfl rfl (gtr rfl rfl) ?_
    refine TL.nil (nt ?_)
    first | refine TC.condD rfl (fun hpq => ?_) (fun hpq => ?_) | refine TC.cond rfl (fun hpq => ?_) (fun hpq => ?_)
    · have hr1 : runS (hW T).S = 100 := by rw [w2]; exact run_last (t := tH pp) fun u hu => by rw [qL_prio hu]; exact hpq
      refine TC.seq ?_
      refine TC.region ?_
      refine q rfl rfl (mv (v := .pointer _) rfl) ?_
      refine e rfl ?_
      refine cl (trun_ok a (hW T) hg2.p (hg2.tb (by omega))) rfl PkL.p trivial ?_
      intro _ _
      change TL _ _ _ _ _ _ _ _ (sepL [_, _])
      rw [hr1]
      refine q rfl rfl (eqI rfl rfl) ?_
      refine q rfl rfl (asg (v := .bool _) rfl) ?_
      refine TL.nil (nt ?_)
      refine TC.ret (rt ?_)
      exact Ret.i () [_] ⟨rfl, trivial⟩ rfl trivial (by repeat (first | exact ent_nil _ | refine ent_take 0 rfl ?_ | refine ent_take 1 rfl ?_ | refine ent_take 2 rfl ?_ | refine ent_take 3 rfl ?_ | refine ent_take 4 rfl ?_ | refine ent_take 5 rfl ?_ | refine ent_take 6 rfl ?_ | refine ent_take 7 rfl ?_ | refine ent_take 8 rfl ?_ | refine ent_take 9 rfl ?_ | refine ent_take 10 rfl ?_ | refine ent_take 11 rfl ?_ | refine ent_take 12 rfl ?_))
    · obtain ⟨k, hk⟩ : ∃ k, i = k + 1 := ⟨i - 1, by omega⟩
      obtain ⟨aR, hqc, hid, hpa, hla⟩ : ∃ R, qL qq i = ⟨0, qq, 2, 2⟩ :: R ∧ True ∧ True ∧ True := by
        subst hk; exact ⟨_, qL_cons qq k, trivial, trivial, trivial⟩
      have hnd := hg2.p.rj.nd
      have hpl : ∀ u ∈ aR ++ [tH pp], u.prio ≤ (⟨0, qq, 2, 2⟩ : Rd.Th).prio := fun u hu => by
        rcases List.mem_append.1 hu with hu | hu
        · rw [qL_prio (q := qq) (m := i) (by rw [hqc]; simp [hu])]; exact Int.le_refl _
        · rw [List.mem_singleton.1 hu]; show pp ≤ qq; omega
      have hr1 : runS (hW T).S = 0 := by rw [w2, hqc]; exact run_head hpl
      refine TC.skip (nt ?_)
      refine TC.seq ?_
      refine TC.seq ?_
      refine TC.region ?_
      refine q rfl rfl (mv (v := .pointer _) rfl) ?_
      refine e rfl ?_
      refine cl (trun_ok a (hW T) hg2.p (hg2.tb (by omega))) rfl PkL.p trivial ?_
      intro _ _
      change TL _ _ _ _ _ _ _ _ (sepL [_, _])
      rw [hr1]
      refine q rfl rfl (neI rfl rfl) ?_
      refine TL.nil (nt ?_)
      refine TC.condF rfl ?_
      refine TC.skip (nt ?_)
      refine TC.seq ?_
      refine TC.seq ?_
      refine TC.region ?_
      refine q rfl rfl (mv (v := .int _ _) rfl) ?_
      refine q rfl rfl (mv (v := .int _ _) rfl) ?_
      refine q rfl rfl (lss rfl rfl) ?_
      refine TL.nil (nt ?_)
      first | refine TC.condD rfl (fun hlq => ?_) (fun hlq => ?_) | refine TC.cond rfl (fun hlq => ?_) (fun hlq => ?_)
      · have hg3 := hg2.yield
        have hyS : (yieldT (hW T)).S = (aR ++ [tH pp]) ++ [⟨0, qq, 2, 2⟩] := by
          show yieldS (hW T).S = _
          rw [w2, hqc] at hnd ⊢
          exact yield_head hnd hpl rfl
        have hry : runS (yieldT (hW T)).S = 1 % (i : Int) := by
          rw [hyS]
          cases aR with
          | nil =>
            have h1 : i = 1 := by have := congrArg List.length hqc; rw [qL_len] at this; simpa using this
            rw [h1]
            show runS ([tH pp] ++ [⟨0, qq, 2, 2⟩]) = 0
            exact run_last (t := (⟨0, qq, 2, 2⟩ : Rd.Th)) fun u hu => by rw [List.mem_singleton.1 hu]; exact hlq
          | cons a2 R2 =>
            have h1 : (qL qq i)[1]? = some a2 := by rw [hqc]; rfl
            have h2 : 1 < i := by
              have := (List.getElem?_eq_some_iff.1 h1).1; rw [qL_len] at this; exact this
            rw [qL_get h2] at h1
            have h3 : a2 = ⟨1, qq, 2, 2⟩ := (Option.some.inj h1).symm
            rw [Int.emod_eq_of_lt (by decide) (by omega)]
            show runS (a2 :: (R2 ++ [tH pp] ++ [⟨0, qq, 2, 2⟩])) = 1
            rw [h3]
            refine run_head (t := (⟨1, qq, 2, 2⟩ : Rd.Th)) fun u hu => ?_
            rcases List.mem_append.1 hu with hu | hu
            · exact hpl u (by rw [List.cons_append]; exact List.mem_cons_of_mem _ hu)
            · rw [List.mem_singleton.1 hu]; exact Int.le_refl _
        have hro := hgh_row (T := yieldT (hW T)) hg3.p.rj (.inr ⟨_, aR, hqc, hyS⟩) (by omega) hp
        refine TC.seq ?_
        refine TC.draw _ [] [(0, false), (2, false), (3, false), (1, true), (4, false), (5, false), (6, false), (7, false), (8, true), (9, false), (10, false), (11, false), (12, false)] (by kernel_rfl) (by kernel_rfl) (ent_nil _) ?_
        refine dq rfl rfl rfl (mv (v := .pointer _) rfl) ?_
        refine dq rfl rfl rfl (mv (v := .int _ _) rfl) ?_
        first | refine dq rfl rfl rfl (remI rfl rfl (by omega) (by omega)) ?_ | refine dq rfl rfl rfl (rem rfl rfl (by omega) rfl) ?_
        refine de rfl rfl ?_
        refine cl (tyield_ok a (hW T) hg2.p (hg2.tb (by omega))) rfl PkL.p trivial ?_
        intro _ _
        change ent _ _ ∧ TD _ _ _ _ _ _ _ _ _ _ (sepL [_, _])
        refine ⟨(by repeat (first | exact ent_nil _ | refine ent_take 0 rfl ?_ | refine ent_take 1 rfl ?_ | refine ent_take 2 rfl ?_ | refine ent_take 3 rfl ?_ | refine ent_take 4 rfl ?_ | refine ent_take 5 rfl ?_ | refine ent_take 6 rfl ?_ | refine ent_take 7 rfl ?_ | refine ent_take 8 rfl ?_ | refine ent_take 9 rfl ?_ | refine ent_take 10 rfl ?_ | refine ent_take 11 rfl ?_ | refine ent_take 12 rfl ?_)), ?_⟩
        rw [hry]
        refine dq rfl rfl rfl (eqI rfl rfl) ?_
        refine dq rfl rfl rfl (mv (v := .bool _) rfl) ?_
        refine TD.known 88 rfl (b' := true) (decide_eq_true rfl) ?_
        refine dg rfl rfl rfl rfl (mv (v := .pointer _) rfl) ?_
        refine dg rfl rfl rfl rfl (mv (v := .int _ _) rfl) ?_
        refine deg rfl rfl rfl ?_
        refine cl (tready_ok a (yieldT (hW T)) hg3.p (hg3.tb (by omega)) pp) rfl PkL.p trivial ?_
        intro yr _
        change ent _ _ ∧ TD _ _ _ _ _ _ _ _ _ _ (sepL [_, _, _])
        refine ⟨(by repeat (first | exact ent_nil _ | refine ent_take 0 rfl ?_ | refine ent_take 1 rfl ?_ | refine ent_take 2 rfl ?_ | refine ent_take 3 rfl ?_ | refine ent_take 4 rfl ?_ | refine ent_take 5 rfl ?_ | refine ent_take 6 rfl ?_ | refine ent_take 7 rfl ?_ | refine ent_take 8 rfl ?_ | refine ent_take 9 rfl ?_ | refine ent_take 10 rfl ?_ | refine ent_take 11 rfl ?_ | refine ent_take 12 rfl ?_)), ?_⟩
        rw [hro]
        refine dg rfl rfl rfl rfl (len 3 1 rfl rfl) ?_
        refine dg rfl rfl rfl rfl (eqI rfl rfl) ?_
        first | refine dq rfl rfl rfl (pkT (v := .bool _) rfl rfl) ?_ | refine dq rfl rfl rfl (pkF (v := .bool _) rfl rfl) ?_
        refine dq rfl rfl rfl (asg (v := .bool _) rfl) ?_
        refine TD.nil (nt ?_)
        refine TC.ret (rt ?_)
        exact Ret.i () [_] ⟨rfl, trivial⟩ rfl trivial (by repeat (first | exact ent_nil _ | refine ent_take 0 rfl ?_ | refine ent_take 1 rfl ?_ | refine ent_take 2 rfl ?_ | refine ent_take 3 rfl ?_ | refine ent_take 4 rfl ?_ | refine ent_take 5 rfl ?_ | refine ent_take 6 rfl ?_ | refine ent_take 7 rfl ?_ | refine ent_take 8 rfl ?_ | refine ent_take 9 rfl ?_ | refine ent_take 10 rfl ?_ | refine ent_take 11 rfl ?_ | refine ent_take 12 rfl ?_))
      · obtain rfl : pp = qq := by omega
        have w3 : (hW T).S = rot pp pp i 0 := by rw [rot_zero]; exact w2
        refine TC.skip (nt ?_)
        refine TC.seq ?_
        refine TC.seq ?_
        refine TC.region ?_
        refine q rfl rfl (asg (v := .int _ _) rfl) ?_
        refine TL.nil (nt ?_)
        refine TC.block ?_
        refine TC.loop (ι := Nat × TS) (fun u => u.1 ≤ i ∧ 1 ≤ u.1 ∧ TG u.2 (40 + u.1) ∧ u.2.S = rot pp pp i (u.1 - 1)) (fun u => [(7, .pointer (some ⟨a, 0, none⟩)), (8, .int .i64 pp), (9, .int .i64 pp), (10, .int .i64 (i : Int)), (12, .int .i64 ((u.1 : Nat) : Int))]) (fun u => sepL [isT a u.2, F]) (fun u => i - u.1) ⟨1, hW T⟩ ⟨hm1.1, Nat.le_refl _, hg2.up (by dsimp only; omega), w3⟩ ⟨rfl, rfl, rfl, rfl, rfl, trivial⟩ (by repeat (first | exact ent_nil _ | refine ent_take 0 rfl ?_ | refine ent_take 1 rfl ?_ | refine ent_take 2 rfl ?_ | refine ent_take 3 rfl ?_ | refine ent_take 4 rfl ?_ | refine ent_take 5 rfl ?_ | refine ent_take 6 rfl ?_ | refine ent_take 7 rfl ?_ | refine ent_take 8 rfl ?_ | refine ent_take 9 rfl ?_ | refine ent_take 10 rfl ?_ | refine ent_take 11 rfl ?_ | refine ent_take 12 rfl ?_)) ?_
        rintro ⟨j, W⟩ ⟨hj, hj1, hgW, hSW⟩ ρ0
        dsimp only [updL] at hj hj1 hgW hSW ⊢
        refine TC.seq ?_
        refine TC.seq ?_
        refine TC.region ?_
        refine q rfl rfl (mv (v := .int _ _) rfl) ?_
        refine q rfl rfl (mv (v := .int _ _) rfl) ?_
        refine q rfl rfl (lss rfl rfl) ?_
        refine TL.nil (nt ?_)
        first | refine TC.condD rfl (fun hlt => ?_) (fun hlt => ?_) | refine TC.cond rfl (fun hlt => ?_) (fun hlt => ?_)
        · have hg3 := hgW.yield
          have hjl : j < i := by omega
          obtain ⟨s1, s2⟩ := rot_step (q := pp) (m := i) (i := j - 1) (by rw [← hSW]; exact hgW.p.rj.nd) (t := ⟨((j - 1 : Nat) : Int), pp, 2, 2⟩) (by rw [List.getElem?_append_left (by rw [qL_len]; omega)]; exact qL_get (by omega))
          have hyS : (yieldT W).S = rot pp pp i j := by show yieldS W.S = _; rw [hSW, s2, Nat.sub_add_cancel hj1]
          obtain ⟨s3, _⟩ := rot_step (q := pp) (m := i) (i := j) (by rw [← hyS]; exact hg3.p.rj.nd) (t := ⟨(j : Int), pp, 2, 2⟩) (by rw [List.getElem?_append_left (by rw [qL_len]; omega)]; exact qL_get (by omega))
          rw [← hyS] at s3
          refine TC.skip (nt ?_)
          refine TC.seq ?_
          refine TC.block ?_
          refine TC.seq ?_
          refine TC.region ?_
          refine q rfl rfl (mv (v := .pointer _) rfl) ?_
          refine e rfl ?_
          refine cl (tyield_ok a W hgW.p (hgW.tb (by omega))) rfl PkL.p trivial ?_
          intro _ _
          change TL _ _ _ _ _ _ _ _ (sepL [_, _])
          rw [s3]
          dsimp only
          refine q rfl rfl (mv (v := .int _ _) rfl) ?_
          refine q rfl rfl (neI rfl rfl) ?_
          refine TL.nil (nt ?_)
          refine TC.condD rfl (fun hc1 => absurd hc1 (fun h9 => h9 rfl)) (fun hc1 => ?_)
          refine TC.skip (nb (nt ?_))
          refine TC.region ?_
          refine q rfl rfl (mv (v := .int _ _) rfl) ?_
          first | refine q rfl rfl (addI rfl rfl (by omega) (by omega)) ?_ | refine q rfl rfl (add rfl rfl rfl) ?_
          refine q rfl rfl (asg (v := .int _ _) rfl) ?_
          refine TL.nil (nt ?_)
          exact ⟨rfl, ⟨j + 1, yieldT W⟩, ⟨by dsimp only; omega, by dsimp only; omega, hg3, hyS⟩, (by dsimp only; omega), ⟨rfl, rfl, rfl, rfl, rfl, trivial⟩, (by repeat (first | exact ent_nil _ | refine ent_take 0 rfl ?_ | refine ent_take 1 rfl ?_ | refine ent_take 2 rfl ?_ | refine ent_take 3 rfl ?_ | refine ent_take 4 rfl ?_ | refine ent_take 5 rfl ?_ | refine ent_take 6 rfl ?_ | refine ent_take 7 rfl ?_ | refine ent_take 8 rfl ?_ | refine ent_take 9 rfl ?_ | refine ent_take 10 rfl ?_ | refine ent_take 11 rfl ?_ | refine ent_take 12 rfl ?_))⟩
        · obtain rfl : j = i := by omega
          have hg3 := hgW.yield
          have hg4 := hg3.yield
          obtain ⟨s1, s2⟩ := rot_step (q := pp) (m := j) (i := j - 1) (by rw [← hSW]; exact hgW.p.rj.nd) (t := ⟨((j - 1 : Nat) : Int), pp, 2, 2⟩) (by rw [List.getElem?_append_left (by rw [qL_len]; omega)]; exact qL_get (by omega))
          have hyS : (yieldT W).S = rot pp pp j j := by show yieldS W.S = _; rw [hSW, s2, Nat.sub_add_cancel hj1]
          obtain ⟨s3, s4⟩ := rot_step (q := pp) (m := j) (i := j) (by rw [← hyS]; exact hg3.p.rj.nd) (t := tH pp) (by rw [List.getElem?_append_right (by rw [qL_len]; exact Nat.le_refl _), qL_len, Nat.sub_self]; rfl)
          rw [← hyS] at s3
          have hyS2 : (yieldT (yieldT W)).S = rot pp pp j 0 := by show yieldS (yieldT W).S = _; rw [hyS, s4, rot_end]
          obtain ⟨s5, _⟩ := rot_step (q := pp) (m := j) (i := 0) (by rw [← hyS2]; exact hg4.p.rj.nd) (t := ⟨((0 : Nat) : Int), pp, 2, 2⟩) (by rw [List.getElem?_append_left (by rw [qL_len]; omega)]; exact qL_get (by omega))
          rw [← hyS2] at s5
          have s6 : runS (yieldT W).S = 100 := s3
          have s7 : runS (yieldT (yieldT W)).S = 0 := s5
          refine TC.exit (et (et (eb (nt ?_))))
          refine TC.seq ?_
          refine TC.region ?_
          refine q rfl rfl (mv (v := .pointer _) rfl) ?_
          refine e rfl ?_
          refine cl (tyield_ok a W hgW.p (hgW.tb (by omega))) rfl PkL.p trivial ?_
          intro _ _
          change TL _ _ _ _ _ _ _ _ (sepL [_, _])
          rw [s6]
          refine q rfl rfl (eqI rfl rfl) ?_
          refine q rfl rfl (mv (v := .bool _) rfl) ?_
          refine TL.known 107 rfl (c := true) (by decide) ?_
          refine qg rfl rfl rfl (mv (v := .pointer _) rfl) ?_
          refine eg rfl rfl ?_
          refine cl (tyield_ok a (yieldT W) hg3.p (hg3.tb (by omega))) rfl PkL.p trivial ?_
          intro _ _
          change TL _ _ _ _ _ _ _ _ (sepL [_, _])
          rw [s7]
          refine qg rfl rfl rfl (eqI rfl rfl) ?_
          first | refine q rfl rfl (pkT (v := .bool _) rfl rfl) ?_ | refine q rfl rfl (pkF (v := .bool _) rfl rfl) ?_
          refine q rfl rfl (asg (v := .bool _) rfl) ?_
          refine TL.nil (nt ?_)
          refine TC.ret ?_
          exact Ret.i () [_] ⟨rfl, trivial⟩ rfl trivial (by repeat (first | exact ent_nil _ | refine ent_take 0 rfl ?_ | refine ent_take 1 rfl ?_ | refine ent_take 2 rfl ?_ | refine ent_take 3 rfl ?_ | refine ent_take 4 rfl ?_ | refine ent_take 5 rfl ?_ | refine ent_take 6 rfl ?_ | refine ent_take 7 rfl ?_ | refine ent_take 8 rfl ?_ | refine ent_take 9 rfl ?_ | refine ent_take 10 rfl ?_ | refine ent_take 11 rfl ?_ | refine ent_take 12 rfl ?_))

end Go.Proofs.Ytdfmfhcjnjfjbaa
