/-
  Proved here: what functions of this program compute, each as a contract over symbolic states, under the premises that each theorem names (most lines printed by a program of the prover).
-/
import Derived.Test.YtmffldmipddngaaQtC
namespace Go.Proofs.Ytmffldmipddngaa
open Go Go.QM
/-- Factories one below the other. -/
def chQ (lm : Nat → Int) : Nat → List Qn
  | 0 => [⟨0, -1, lm 0, 0⟩]
  | i + 1 => chQ lm i ++ [⟨(i : Int) + 1, i, lm (i + 1), 0⟩]
theorem ch_mem {lm : Nat → Int} {t : Qn} : ∀ {i : Nat}, t ∈ chQ lm i ↔ ∃ j : Nat, j ≤ i ∧ t = ⟨j, (j : Int) - 1, lm j, 0⟩
  | 0 => by
    rw [chQ, List.mem_singleton]
    constructor
    · rintro rfl; exact ⟨0, Nat.le_refl _, rfl⟩
    · rintro ⟨j, hj, rfl⟩; obtain rfl : j = 0 := by omega
      rfl
  | i + 1 => by
    rw [chQ, List.mem_append, List.mem_singleton, ch_mem]
    constructor
    · rintro (⟨j, hj, rfl⟩ | rfl)
      · exact ⟨j, by omega, rfl⟩
      · exact ⟨i + 1, Nat.le_refl _, by simp only [Qn.mk.injEq]; refine ⟨rfl, by omega, trivial, trivial⟩⟩
    · rintro ⟨j, hj, rfl⟩
      by_cases h : j ≤ i
      · exact .inl ⟨j, h, rfl⟩
      · obtain rfl : j = i + 1 := by omega
        exact .inr (by simp only [Qn.mk.injEq]; refine ⟨rfl, by omega, trivial, trivial⟩)
theorem ch_len (lm : Nat → Int) (i : Nat) : (chQ lm i).length = i + 1 := by
  induction i with
  | zero => rfl
  | succ i ih => rw [chQ, List.length_append, ih]; rfl
theorem ch_has {lm : Nat → Int} {i j : Nat} (h : j ≤ i) : (⟨j, (j : Int) - 1, lm j, 0⟩ : Qn) ∈ chQ lm i := ch_mem.2 ⟨j, h, rfl⟩
theorem ch_top (lm : Nat → Int) (i : Nat) : givQ (chQ lm i) i = 0 ∧ kidQ (chQ lm i) i = 0 := giv_zero fun t ht => by
  obtain ⟨j, hj, rfl⟩ := ch_mem.1 ht
  dsimp only; omega
theorem ch_nxt (lm : Nat → Int) (i : Nat) : givQ (chQ lm (i + 1)) i = lm (i + 1) ∧ kidQ (chQ lm (i + 1)) i = 1 := by
  obtain ⟨h1, h2⟩ := ch_top lm i
  rw [chQ, givQ_app, kidQ_app, h1, h2, givQ_one, kidQ_one, if_pos rfl, if_pos rfl]; exact ⟨Int.zero_add _, rfl⟩
structure LmQ (lm : Nat → Int) (n : Nat) : Prop where
  z : lm 0 = 1048576
  st : ∀ i, i < n → 65535 ≤ lm (i + 1) ∧ lm (i + 1) ≤ lm i
theorem LmQ.rg {lm : Nat → Int} {n : Nat} (h : LmQ lm n) {i : Nat} (hi : i ≤ n) : 65535 ≤ lm i ∧ lm i ≤ 1048576 := by
  induction i with
  | zero => rw [h.z]; decide
  | succ i ih => have := ih (by omega); have := h.st i (by omega); omega
theorem ch_use {lm : Nat → Int} {i : Nat} {nxt : Int} (hW : WQ (chQ lm i) nxt) : useQ (chQ lm i) i = 0 ∧ limQ (chQ lm i) i = lm i ∧ chgQ (chQ lm i) i = 0 ∧ parQ (chQ lm i) i = (i : Int) - 1 := by
  obtain ⟨h1, h2, h3, h4⟩ := use_yes hW.nd (ch_has (lm := lm) (Nat.le_refl i))
  refine ⟨?_, h2, h3, h4⟩
  rw [h1, (ch_top lm i).1]; rfl
theorem ch_hasQ (lm : Nat → Int) (i : Nat) : hasQ (chQ lm i) i := ⟨_, ch_has (Nat.le_refl i), rfl⟩
theorem ch_wq {lm : Nat → Int} {n : Nat} (h : LmQ lm n) (hn : n ≤ 30) : ∀ {i : Nat}, i ≤ n → WQ (chQ lm i) (i + 1)
  | 0, _ => WQ.start (by have := h.z; omega)
  | i + 1, hi => by
    have hW := ch_wq h hn (i := i) (by omega)
    obtain ⟨h1, h2, _, _⟩ := ch_use hW
    have h3 := h.st i (by omega)
    have h4 := hW.add (p := i) (lim := lm (i + 1)) (ch_hasQ lm i) (by omega) (by rw [h1, h2]; omega) (by rw [ch_len]; omega)
    rw [chQ]; exact h4
theorem ch_carve {lm : Nat → Int} {n : Nat} (h : LmQ lm n) (hn : n ≤ 30) {i : Nat} (hi : i < n) : carveQ (chQ lm i) ((i : Int) + 1) i (lm (i + 1)) = (chQ lm (i + 1), (i : Int) + 1 + 1, (i : Int) + 1, 0) := by
  obtain ⟨h1, h2, _, _⟩ := ch_use (ch_wq h hn (i := i) (by omega))
  have h3 := h.st i hi
  rw [carveQ, if_neg (fun e => e (ch_hasQ lm i)), if_neg (by omega), h1, h2, if_neg (by omega), if_neg (by rw [ch_len]; omega)]; rfl
theorem ch_up {lm : Nat → Int} {n : Nat} (h : LmQ lm n) (hn : n ≤ 30) {i : Nat} (hi : i < n) : useQ (chQ lm (i + 1)) i = lm (i + 1) ∧ limQ (chQ lm (i + 1)) ((i : Int) + 1) = lm (i + 1) ∧ parQ (chQ lm (i + 1)) ((i : Int) + 1) = i := by
  have hW := ch_wq h hn (i := i + 1) (by omega)
  obtain ⟨_, h2, _, h4⟩ := ch_use hW
  obtain ⟨h5, _, _, _⟩ := use_yes hW.nd (ch_has (lm := lm) (i := i + 1) (j := i) (by omega))
  refine ⟨?_, h2, ?_⟩
  · rw [h5, (ch_nxt lm i).1]; exact Int.zero_add _
  · rw [show ((i : Int) + 1) = ((i + 1 : Nat) : Int) from rfl, h4]; omega
theorem ch_set (lm : Nat → Int) (i : Nat) (m : Int) : setQ (setQ (chQ lm i) i m) i 0 = chQ lm i := by
  rw [setQ, setQ, List.map_map]
  conv => rhs; rw [← List.map_id (chQ lm i)]
  refine List.map_congr_left fun t ht => ?_
  obtain ⟨j, hj, rfl⟩ := ch_mem.1 ht
  simp only [Function.comp, id]
  by_cases e : (j : Int) = i
  · rw [if_pos e, if_pos e]
  · rw [if_neg e, if_neg e]
theorem ch_charge {lm : Nat → Int} {n : Nat} (h : LmQ lm n) (hn : n ≤ 30) {i : Nat} (hi : i ≤ n) {m : Int} (hm : 0 ≤ m ∧ m ≤ 65535) : chargeQ (chQ lm i) i m = (setQ (chQ lm i) i m, 0) := by
  obtain ⟨h1, h2, h3, _⟩ := ch_use (ch_wq h hn hi)
  have := h.rg hi
  rw [chargeQ, if_neg (fun e => e (ch_hasQ lm i)), if_neg (by omega), h1, h2, if_neg (by omega), h3, Int.zero_add]
theorem ch_setuse {lm : Nat → Int} {n : Nat} (h : LmQ lm n) (hn : n ≤ 30) {i : Nat} (hi : i ≤ n) {m : Int} (hm : 0 ≤ m ∧ m ≤ 65535) : useQ (setQ (chQ lm i) i m) i = m ∧ chgQ (setQ (chQ lm i) i m) i = m := by
  have hW := ch_wq h hn hi
  have hr := h.rg hi
  have hz := ch_top lm i
  have hW2 := hW.set (ch_has (lm := lm) (Nat.le_refl i)) (c := m) hm.1 (by dsimp only; rw [hz.1]; omega)
  have hm2 : (⟨i, (i : Int) - 1, lm i, m⟩ : Qn) ∈ setQ (chQ lm i) i m := setQ_mem.2 ⟨_, ch_has (Nat.le_refl i), by rw [if_pos rfl]⟩
  obtain ⟨h1, _, h3, _⟩ := use_yes hW2.nd hm2
  refine ⟨?_, h3⟩
  rw [h1, (setQ_giv _ _ _ _).1, hz.1]; exact Int.add_zero _
theorem ch_setclose {lm : Nat → Int} {n : Nat} (h : LmQ lm n) (hn : n ≤ 30) {i : Nat} (hi : i ≤ n) {m : Int} (hm : 0 ≤ m ∧ m ≤ 65535) (h0 : (i : Int) ≠ 0) (hp : 0 < m) : closeQ (setQ (chQ lm i) i m) i = (setQ (chQ lm i) i m, 12) := by
  rw [closeQ, if_neg (fun e => e (setQ_has.2 (ch_hasQ lm i))), if_neg h0, if_pos (.inl (by rw [(ch_setuse h hn hi hm).1]; omega))]
theorem ch_refund {lm : Nat → Int} {n : Nat} (h : LmQ lm n) (hn : n ≤ 30) {i : Nat} (hi : i ≤ n) {m : Int} (hm : 0 ≤ m ∧ m ≤ 65535) : refundQ (setQ (chQ lm i) i m) i m = (chQ lm i, 0) := by
  rw [refundQ, if_neg (fun e => e (setQ_has.2 (ch_hasQ lm i))), (ch_setuse h hn hi hm).2, if_neg (by omega), Int.sub_self, ch_set]
theorem ch_close {lm : Nat → Int} {n : Nat} (h : LmQ lm n) (hn : n ≤ 30) {i : Nat} (hi : i < n) : closeQ (chQ lm (i + 1)) ((i : Int) + 1) = (chQ lm i, 0) := by
  have hW := ch_wq h hn (i := i + 1) (by omega)
  have h1 := (ch_use hW).1
  have h2 := (ch_top lm (i + 1)).2
  have hh := ch_hasQ lm (i + 1)
  rw [show (((i + 1 : Nat) : Int)) = (i : Int) + 1 from rfl] at h1 h2 hh
  rw [closeQ, if_neg (fun e => e hh), if_neg (by omega), h1, h2, if_neg (by decide), chQ, offQ, List.filter_append, List.filter_eq_self.2, List.filter_cons_of_neg (by simp)]
  · simp
  · intro t ht
    obtain ⟨j, hj, rfl⟩ := ch_mem.1 ht
    simp only [decide_eq_true_eq]; omega
theorem ch_closeup {lm : Nat → Int} {n : Nat} (h : LmQ lm n) (hn : n ≤ 30) {i : Nat} (hi : i < n) (h0 : (i : Int) ≠ 0) : closeQ (chQ lm (i + 1)) i = (chQ lm (i + 1), 12) := by
  rw [closeQ, if_neg (fun e => e ⟨_, ch_has (lm := lm) (i := i + 1) (j := i) (by omega), rfl⟩), if_neg h0, if_pos (.inr (by rw [(ch_nxt lm i).2]; decide))]
theorem ch_gone (lm : Nat → Int) (i : Nat) : closeQ (chQ lm i) ((i : Int) + 1) = (chQ lm i, 6) := by
  rw [closeQ, if_pos]
  rintro ⟨t, ht, e⟩
  obtain ⟨j, hj, rfl⟩ := ch_mem.1 ht
  dsimp only at e; omega
/-- The limits: each step takes a little. -/
def lmQ (l : List Int) (i : Nat) : Int := 1048576 - sumI (l.take i)
theorem lmQ_snoc {l : List Int} {i : Nat} {x : Int} (h : l[i]? = some x) : lmQ l (i + 1) = lmQ l i - x := by
  rw [lmQ, lmQ, sumI_snoc h]; omega
theorem lmQ_ok {l : List Int} (h : ∀ x ∈ l, 0 ≤ x ∧ x ≤ 255) (hl : l.length ≤ 25) : LmQ (lmQ l) l.length where
  z := rfl
  st := fun i hi => by
    obtain ⟨x, hx⟩ : ∃ x, l[i]? = some x := ⟨l[i], List.getElem?_eq_getElem hi⟩
    have h1 := h x (List.mem_of_getElem? hx)
    have h2 := sumI_le (l := l.take (i + 1)) (b := 255) (fun y hy => (h y (List.mem_of_mem_take hy)).2)
    have h3 : (l.take (i + 1)).length ≤ 25 := by rw [List.length_take]; omega
    refine ⟨?_, by rw [lmQ_snoc hx]; omega⟩
    rw [lmQ]; omega

set_option maxRecDepth 4000 in
set_option maxHeartbeats 1000000 in
theorem chain_ok (ad : Option Addr) (l : List Int) (cap : Nat) (n : Int) (hx : ∀ x ∈ l, 0 ≤ x ∧ x ≤ 255) (hn : 0 ≤ n ∧ n ≤ 65535) : FSpec Try.prog 3 [.slice ad l.length cap, .int .u16 n] (fun F => ∃ E, RdS F E ad (nums .u8 l)) [] (fun _ : Unit => .bool true) (fun _ => True) (fun _ => []) := by
  refine FSpec.intro (rs := [.tmp 4]) (by kernel_rfl) Try.func3 rfl Try.ntmps3 (by rfl) rfl ?_
  intro F ⟨E, hF⟩
  change TC _ _ _ _ _ _ _ (sepL [_])
  haveI : RdSI F ad E (nums .u8 l) := ⟨hF⟩
  refine TC.seq ?_
  refine TC.region ?_
  refine q rfl rfl (asg (v := .bool _) rfl) ?_
  refine TL.nil (nt ?_)
  refine TC.seq ?_
  refine TC.seq ?_
  refine TC.region ?_
  refine e rfl ?_
  refine cl alive_ok rfl (picked_nil _) trivial ?_
  intro _ _
  change TL _ _ _ _ _ _ _ _ (sepL [_])
  first | refine q rfl rfl (notD rfl) ?_ | refine q rfl rfl (notB rfl) ?_
  refine TL.nil (nt ?_)
  refine TC.condF rfl ?_
  refine TC.skip (nt ?_)
  refine TC.seq ?_
  refine TC.seq ?_
  refine TC.region ?_
  refine q rfl rfl (mv (v := .slice _ _ _) rfl) ?_
  refine q rfl rfl (len 5 1 rfl rfl) ?_
  refine q rfl rfl (gtr rfl rfl) ?_
  refine TL.nil (nt ?_)
  first | refine TC.condD rfl (fun hbig => ?_) (fun hbig => ?_) | refine TC.cond rfl (fun hbig => ?_) (fun hbig => ?_)
  · refine TC.seq ?_
    refine TC.region ?_
    refine q rfl rfl (asg (v := .bool _) rfl) ?_
    refine TL.nil (nt ?_)
    refine TC.ret (rt ?_)
    exact Ret.i () [_] ⟨rfl, trivial⟩ rfl trivial (ent_take 0 rfl (ent_nil _))
  · have hl25 : l.length ≤ 25 := by omega
    have hL := lmQ_ok hx hl25
    have hl30 : l.length ≤ 30 := by omega
    refine TC.skip (nt ?_)
    refine TC.seq ?_
    refine TC.region ?_
    refine e rfl ?_
    refine cl (qnew_ok 1048576 (by decide)) rfl (picked_nil _) trivial ?_
    intro a _
    change TL _ _ _ _ _ _ _ _ (sepL [_, _])
    refine q rfl rfl (asg (v := .pointer _) rfl) ?_
    refine TL.nil (nt ?_)
    refine TC.seq ?_
    refine TC.region ?_
    refine q rfl rfl (asg (v := .int _ _) rfl) ?_
    refine q rfl rfl (asg (v := .int _ _) rfl) ?_
    refine TL.nil (nt ?_)
    refine TC.seq ?_
    refine TC.seq ?_
    refine TC.region ?_
    refine q rfl rfl (asg (v := .int _ _) rfl) ?_
    refine TL.nil (nt ?_)
    refine TC.block ?_
    refine TC.loop (ι := Nat) (fun i => i ≤ l.length) (fun i => [(0, .slice ad l.length cap), (1, .int .u16 n), (5, .pointer (some ⟨a, 0, none⟩)), (6, .int .i64 (lmQ l i)), (7, .int .i64 ((i : Nat) : Int)), (8, .int .i64 ((i : Nat) : Int))]) (fun i => sepL [isQ a (chQ (lmQ l) i) ((i : Nat) + 1 : Int), F]) (fun i => l.length - i) 0 (Nat.zero_le _) ⟨rfl, rfl, rfl, rfl, rfl, rfl, trivial⟩ (ent_takeE 0 rfl rfl (by repeat (first | exact ent_nil _ | refine ent_take 0 rfl ?_ | refine ent_take 1 rfl ?_ | refine ent_take 2 rfl ?_ | refine ent_take 3 rfl ?_ | refine ent_take 4 rfl ?_ | refine ent_take 5 rfl ?_ | refine ent_take 6 rfl ?_ | refine ent_take 7 rfl ?_ | refine ent_take 8 rfl ?_ | refine ent_take 9 rfl ?_ | refine ent_take 10 rfl ?_ | refine ent_take 11 rfl ?_ | refine ent_take 12 rfl ?_))) ?_
    rintro i hi ρ0
    dsimp only [updL] at hi ⊢
    refine TC.seq ?_
    refine TC.seq ?_
    refine TC.region ?_
    refine q rfl rfl (mv (v := .int _ _) rfl) ?_
    refine q rfl rfl (mv (v := .slice _ _ _) rfl) ?_
    refine q rfl rfl (len 5 1 rfl rfl) ?_
    refine q rfl rfl (lss rfl rfl) ?_
    refine TL.nil (nt ?_)
    first | refine TC.condD rfl (fun hlt => ?_) (fun hlt => ?_) | refine TC.cond rfl (fun hlt => ?_) (fun hlt => ?_)
    · have hlt2 : i < l.length := by omega
      obtain ⟨x, hx2⟩ : ∃ x, l[i]? = some x := ⟨l[i], List.getElem?_eq_getElem hlt2⟩
      have hxb := hx x (List.mem_of_getElem? hx2)
      have hpos : 0 < (nums .u8 l).length := by rw [nums_length]; omega
      have hrg := hL.rg (i := i) (by omega)
      have hsn := lmQ_snoc hx2
      obtain ⟨hu1, hu2, hu3⟩ := ch_up hL hl30 hlt2
      have hcv := ch_carve hL hl30 hlt2
      rw [hsn] at hcv hu1 hu2
      refine TC.skip (nt ?_)
      refine TC.seq ?_
      refine TC.block ?_
      refine TC.seq ?_
      refine TC.region ?_
      refine q rfl rfl (mv (v := .int _ _) rfl) ?_
      refine q rfl rfl (mv (v := .slice _ _ _) rfl) ?_
      refine q rfl rfl (mv (v := .int _ _) rfl) ?_
      first | refine q rfl rfl (ixS 5 1 rfl rfl rfl (by omega) (by first | assumption | (simp [ints_length] <;> omega))) ?_ | refine q rfl rfl (ixJ 5 1 rfl rfl rfl (by omega) (by omega) (by first | assumption | (simp [ints_length] <;> omega))) ?_ | refine q rfl rfl (ix 5 1 rfl rfl rfl (by omega) (by omega) rfl) ?_
      first | refine q rfl rfl (ld rfl rfl rfl) ?_ | refine q rfl rfl (ldS rfl rfl (nums_get hx2)) ?_ | refine q rfl rfl (ldS rfl rfl rfl) ?_
      first | refine q rfl rfl (conv .u8 .i64 rfl rfl rfl (wi64 (by omega) (by omega))) ?_ | refine q rfl rfl (conv .u8 .i64 rfl rfl rfl rfl) ?_
      first | refine q rfl rfl (subI rfl rfl (by omega) (by omega)) ?_ | refine q rfl rfl (sub rfl rfl rfl) ?_
      refine q rfl rfl (asg (v := .int _ _) rfl) ?_
      refine TL.nil (nt ?_)
      refine TC.seq ?_
      refine TC.region ?_
      refine q rfl rfl (mv (v := .pointer _) rfl) ?_
      refine q rfl rfl (mv (v := .int _ _) rfl) ?_
      refine q rfl rfl (mv (v := .int _ _) rfl) ?_
      refine e rfl ?_
      refine cl (qcarve_ok a (chQ (lmQ l) i) ((i : Int) + 1) i (lmQ l i - x) (by omega)) rfl PkL.p trivial ?_
      intro _ _
      change TL _ _ _ _ _ _ _ _ (sepL [_, _])
      rw [hcv]
      dsimp only
      refine q rfl rfl (mv (v := .tuple _) rfl) ?_
      refine q rfl rfl (pu (v := .int _ _) (fun _ => rfl)) ?_
      refine q rfl rfl (pu (v := .int _ _) (fun _ => rfl)) ?_
      refine q rfl rfl (asg (v := .int _ _) rfl) ?_
      refine q rfl rfl (asg (v := .int _ _) rfl) ?_
      refine TL.nil (nt ?_)
      refine TC.seq ?_
      refine TC.seq ?_
      refine TC.region ?_
      refine q rfl rfl (mv (v := .int _ _) rfl) ?_
      refine q rfl rfl (neI rfl rfl) ?_
      refine q rfl rfl (mv (v := .bool _) rfl) ?_
      refine TL.known 41 rfl (c := false) (by decide) ?_
      refine qg rfl rfl rfl (mv (v := .pointer _) rfl) ?_
      refine qg rfl rfl rfl (mv (v := .int _ _) rfl) ?_
      refine eg rfl rfl ?_
      refine cl (qpar_ok a (chQ (lmQ l) (i + 1)) ((i : Int) + 1 + 1) ((i : Int) + 1)) rfl PkL.p trivial ?_
      intro _ _
      change TL _ _ _ _ _ _ _ _ (sepL [_, _])
      rw [hu3]
      refine qg rfl rfl rfl (mv (v := .int _ _) rfl) ?_
      refine qg rfl rfl rfl (neI rfl rfl) ?_
      first | refine q rfl rfl (pkT (v := .bool _) rfl rfl) ?_ | refine q rfl rfl (pkF (v := .bool _) rfl rfl) ?_
      refine q rfl rfl (mv (v := .bool _) rfl) ?_
      refine TL.known 48 rfl (c := false) (decide_eq_false (by omega)) ?_
      refine qg rfl rfl rfl (mv (v := .pointer _) rfl) ?_
      refine qg rfl rfl rfl (mv (v := .int _ _) rfl) ?_
      refine eg rfl rfl ?_
      refine cl (quses_ok a (chQ (lmQ l) (i + 1)) ((i : Int) + 1 + 1) i) rfl PkL.p trivial ?_
      intro _ _
      change TL _ _ _ _ _ _ _ _ (sepL [_, _])
      rw [hu1]
      refine qg rfl rfl rfl (mv (v := .int _ _) rfl) ?_
      refine qg rfl rfl rfl (neI rfl rfl) ?_
      first | refine q rfl rfl (pkT (v := .bool _) rfl rfl) ?_ | refine q rfl rfl (pkF (v := .bool _) rfl rfl) ?_
      refine q rfl rfl (mv (v := .bool _) rfl) ?_
      refine TL.known 55 rfl (c := false) (decide_eq_false (by omega)) ?_
      refine qg rfl rfl rfl (mv (v := .pointer _) rfl) ?_
      refine qg rfl rfl rfl (mv (v := .int _ _) rfl) ?_
      refine eg rfl rfl ?_
      refine cl (qlim_ok a (chQ (lmQ l) (i + 1)) ((i : Int) + 1 + 1) ((i : Int) + 1)) rfl PkL.p trivial ?_
      intro _ _
      change TL _ _ _ _ _ _ _ _ (sepL [_, _])
      rw [hu2]
      refine qg rfl rfl rfl (mv (v := .int _ _) rfl) ?_
      refine qg rfl rfl rfl (neI rfl rfl) ?_
      first | refine q rfl rfl (pkT (v := .bool _) rfl rfl) ?_ | refine q rfl rfl (pkF (v := .bool _) rfl rfl) ?_
      refine TL.nil (nt ?_)
      refine TC.condD rfl (fun hc1 => absurd hc1 (by omega)) (fun hc1 => ?_)
      refine TC.skip (nt ?_)
      refine TC.region ?_
      refine q rfl rfl (mv (v := .int _ _) rfl) ?_
      refine q rfl rfl (asg (v := .int _ _) rfl) ?_
      refine TL.nil (nb (nt ?_))
      refine TC.region ?_
      refine q rfl rfl (mv (v := .int _ _) rfl) ?_
      first | refine q rfl rfl (addI rfl rfl (by omega) (by omega)) ?_ | refine q rfl rfl (add rfl rfl rfl) ?_
      refine q rfl rfl (asg (v := .int _ _) rfl) ?_
      refine TL.nil (nt ?_)
      exact ⟨rfl, (i + 1), (by omega), (by omega), ⟨rfl, rfl, rfl, congrArg (Value.int .i64) hsn.symm, rfl, rfl, trivial⟩, (by repeat (first | exact ent_nil _ | refine ent_take 0 rfl ?_ | refine ent_take 1 rfl ?_ | refine ent_take 2 rfl ?_ | refine ent_take 3 rfl ?_ | refine ent_take 4 rfl ?_ | refine ent_take 5 rfl ?_ | refine ent_take 6 rfl ?_ | refine ent_take 7 rfl ?_ | refine ent_take 8 rfl ?_ | refine ent_take 9 rfl ?_ | refine ent_take 10 rfl ?_ | refine ent_take 11 rfl ?_ | refine ent_take 12 rfl ?_))⟩
    · obtain rfl : i = l.length := by omega
      have hcg := ch_charge hL hl30 (Nat.le_refl _) hn
      have hsu := (ch_setuse hL hl30 (Nat.le_refl _) hn).1
      have hrf := ch_refund hL hl30 (Nat.le_refl _) hn
      refine TC.exit (et (et (eb (nt ?_))))
      refine TC.seq ?_
      refine TC.seq ?_
      refine TC.region ?_
      refine q rfl rfl (mv (v := .pointer _) rfl) ?_
      refine q rfl rfl (mv (v := .int _ _) rfl) ?_
      refine q rfl rfl (mv (v := .int _ _) rfl) ?_
      first | refine q rfl rfl (conv .u16 .i64 rfl rfl rfl (wi64 (by omega) (by omega))) ?_ | refine q rfl rfl (conv .u16 .i64 rfl rfl rfl rfl) ?_
      refine e rfl ?_
      refine cl (qcharge_ok a (chQ (lmQ l) l.length) ((l.length : Nat) + 1 : Int) l.length n) rfl PkL.p trivial ?_
      intro _ _
      change TL _ _ _ _ _ _ _ _ (sepL [_, _])
      rw [hcg]
      dsimp only
      refine q rfl rfl (neI rfl rfl) ?_
      refine q rfl rfl (mv (v := .bool _) rfl) ?_
      refine TL.known 69 rfl (c := false) (by decide) ?_
      refine qg rfl rfl rfl (mv (v := .pointer _) rfl) ?_
      refine qg rfl rfl rfl (mv (v := .int _ _) rfl) ?_
      refine eg rfl rfl ?_
      refine cl (quses_ok a (setQ (chQ (lmQ l) l.length) l.length n) ((l.length : Nat) + 1 : Int) l.length) rfl PkL.p trivial ?_
      intro _ _
      change TL _ _ _ _ _ _ _ _ (sepL [_, _])
      rw [hsu]
      refine qg rfl rfl rfl (mv (v := .int _ _) rfl) ?_
      first | refine qg rfl rfl rfl (conv .u16 .i64 rfl rfl rfl (wi64 (by omega) (by omega))) ?_ | refine qg rfl rfl rfl (conv .u16 .i64 rfl rfl rfl rfl) ?_
      refine qg rfl rfl rfl (neI rfl rfl) ?_
      first | refine q rfl rfl (pkT (v := .bool _) rfl rfl) ?_ | refine q rfl rfl (pkF (v := .bool _) rfl rfl) ?_
      refine TL.nil (nt ?_)
      refine TC.condD rfl (fun hc2 => absurd hc2 (by omega)) (fun hc2 => ?_)
      refine TC.skip (nt ?_)
      refine TC.seq ?_
      refine TC.seq ?_
      refine TC.region ?_
      refine q rfl rfl (mv (v := .int _ _) rfl) ?_
      refine q rfl rfl (neI rfl rfl) ?_
      refine q rfl rfl (mv (v := .bool _) rfl) ?_
      refine TL.split 79 rfl (fun h1 => ?_) (fun h1 => ?_)
      · have h1 := of_decide_eq_true h1
        refine qg rfl rfl rfl (mv (v := .int _ _) rfl) ?_
        refine qg rfl rfl rfl (gtr rfl rfl) ?_
        first | refine q rfl rfl (pkT (v := .bool _) rfl rfl) ?_ | refine q rfl rfl (pkF (v := .bool _) rfl rfl) ?_
        refine q rfl rfl (mv (v := .bool _) rfl) ?_
        refine TL.split 83 rfl (fun h2 => ?_) (fun h2 => ?_)
        · have h2 := of_decide_eq_true h2
          have hsc := ch_setclose hL hl30 (Nat.le_refl _) hn h1 h2
          refine qg rfl rfl rfl (mv (v := .pointer _) rfl) ?_
          refine qg rfl rfl rfl (mv (v := .int _ _) rfl) ?_
          refine TL.known 83 rfl (c := true) rfl ?_
          refine eg rfl rfl ?_
          refine cl (qclose_ok a (setQ (chQ (lmQ l) l.length) l.length n) ((l.length : Nat) + 1 : Int) l.length) rfl PkL.p trivial ?_
          intro _ _
          change TL _ _ _ _ _ _ _ _ (sepL [_, _])
          rw [hsc]
          dsimp only
          refine qg rfl rfl rfl (neI rfl rfl) ?_
          first | refine q rfl rfl (pkT (v := .bool _) rfl rfl) ?_ | refine q rfl rfl (pkF (v := .bool _) rfl rfl) ?_
          refine q rfl rfl (mv (v := .bool _) rfl) ?_
          refine TL.known 89 rfl (c := false) (by decide) ?_
          refine qg rfl rfl rfl (mv (v := .pointer _) rfl) ?_
          refine qg rfl rfl rfl (mv (v := .int _ _) rfl) ?_
          refine qg rfl rfl rfl (mv (v := .int _ _) rfl) ?_
          first | refine qg rfl rfl rfl (conv .u16 .i64 rfl rfl rfl (wi64 (by omega) (by omega))) ?_ | refine qg rfl rfl rfl (conv .u16 .i64 rfl rfl rfl rfl) ?_
          refine eg rfl rfl ?_
          refine cl (qrefund_ok a (setQ (chQ (lmQ l) l.length) l.length n) ((l.length : Nat) + 1 : Int) l.length n) rfl PkL.p trivial ?_
          intro _ _
          change TL _ _ _ _ _ _ _ _ (sepL [_, _])
          rw [hrf]
          dsimp only
          refine qg rfl rfl rfl (neI rfl rfl) ?_
          first | refine q rfl rfl (pkT (v := .bool _) rfl rfl) ?_ | refine q rfl rfl (pkF (v := .bool _) rfl rfl) ?_
          refine TL.nil (nt ?_)
          refine TC.condD rfl (fun hc3 => absurd hc3 (by decide)) (fun hc3 => ?_)
          refine TC.skip (nt ?_)
          refine TC.seq ?_
          refine TC.seq ?_
          refine TC.region ?_
          refine q rfl rfl (mv (v := .slice _ _ _) rfl) ?_
          refine q rfl rfl (len 5 1 rfl rfl) ?_
          refine q rfl rfl (asg (v := .int _ _) rfl) ?_
          refine TL.nil (nt ?_)
          refine TC.block ?_
          refine TC.loop (ι := Nat) (fun i => i ≤ l.length) (fun i => [(5, .pointer (some ⟨a, 0, none⟩)), (7, .int .i64 ((i : Nat) : Int)), (11, .int .i64 ((i : Nat) : Int))]) (fun i => sepL [isQ a (chQ (lmQ l) i) ((l.length : Nat) + 1 : Int), F]) (fun i => i) l.length (Nat.le_refl _) ⟨rfl, rfl, rfl, trivial⟩ (by repeat (first | exact ent_nil _ | refine ent_take 0 rfl ?_ | refine ent_take 1 rfl ?_ | refine ent_take 2 rfl ?_ | refine ent_take 3 rfl ?_ | refine ent_take 4 rfl ?_ | refine ent_take 5 rfl ?_ | refine ent_take 6 rfl ?_ | refine ent_take 7 rfl ?_ | refine ent_take 8 rfl ?_ | refine ent_take 9 rfl ?_ | refine ent_take 10 rfl ?_ | refine ent_take 11 rfl ?_ | refine ent_take 12 rfl ?_)) ?_
          rintro i hi ρ1
          dsimp only [updL] at hi ⊢
          refine TC.seq ?_
          refine TC.seq ?_
          refine TC.region ?_
          refine q rfl rfl (mv (v := .int _ _) rfl) ?_
          refine q rfl rfl (gtr rfl rfl) ?_
          refine TL.nil (nt ?_)
          first | refine TC.condD rfl (fun hlt3 => ?_) (fun hlt3 => ?_) | refine TC.cond rfl (fun hlt3 => ?_) (fun hlt3 => ?_)
          · obtain ⟨j, rfl⟩ : ∃ j, i = j + 1 := ⟨i - 1, by omega⟩
            have hj : j < l.length := by omega
            obtain ⟨hu1, hu2, hu3⟩ := ch_up hL hl30 hj
            have hcl := ch_close hL hl30 hj
            have hgo := ch_gone (lmQ l) j
            have huz := (ch_use (ch_wq hL hl30 (i := j) (by omega))).1
            have hjn : ((j + 1 : Nat) : Int) = (j : Int) + 1 := rfl
            rw [hjn]
            refine TC.skip (nt ?_)
            refine TC.seq ?_
            refine TC.block ?_
            refine TC.seq ?_
            refine TC.region ?_
            refine q rfl rfl (mv (v := .pointer _) rfl) ?_
            refine q rfl rfl (mv (v := .int _ _) rfl) ?_
            refine e rfl ?_
            refine cl (qpar_ok a (chQ (lmQ l) (j + 1)) ((l.length : Nat) + 1 : Int) ((j : Int) + 1)) rfl PkL.p trivial ?_
            intro _ _
            change TL _ _ _ _ _ _ _ _ (sepL [_, _])
            rw [hu3]
            refine q rfl rfl (asg (v := .int _ _) rfl) ?_
            refine TL.nil (nt ?_)
            refine TC.seq ?_
            refine TC.seq ?_
            refine TC.region ?_
            refine q rfl rfl (mv (v := .int _ _) rfl) ?_
            refine q rfl rfl (gtr rfl rfl) ?_
            refine q rfl rfl (mv (v := .bool _) rfl) ?_
            refine TL.split 108 rfl (fun h5 => ?_) (fun h5 => ?_)
            · have h5 := of_decide_eq_true h5
              have hup := ch_closeup hL hl30 hj (by omega)
              refine qg rfl rfl rfl (mv (v := .pointer _) rfl) ?_
              refine qg rfl rfl rfl (mv (v := .int _ _) rfl) ?_
              refine eg rfl rfl ?_
              refine cl (qclose_ok a (chQ (lmQ l) (j + 1)) ((l.length : Nat) + 1 : Int) j) rfl PkL.p trivial ?_
              intro _ _
              change TL _ _ _ _ _ _ _ _ (sepL [_, _])
              rw [hup]
              dsimp only
              refine qg rfl rfl rfl (neI rfl rfl) ?_
              first | refine q rfl rfl (pkT (v := .bool _) rfl rfl) ?_ | refine q rfl rfl (pkF (v := .bool _) rfl rfl) ?_
              refine q rfl rfl (mv (v := .bool _) rfl) ?_
              refine TL.known 114 rfl (c := false) (by decide) ?_
              refine qg rfl rfl rfl (mv (v := .pointer _) rfl) ?_
              refine qg rfl rfl rfl (mv (v := .int _ _) rfl) ?_
              refine eg rfl rfl ?_
              refine cl (qclose_ok a (chQ (lmQ l) (j + 1)) ((l.length : Nat) + 1 : Int) ((j : Int) + 1)) rfl PkL.p trivial ?_
              intro _ _
              change TL _ _ _ _ _ _ _ _ (sepL [_, _])
              rw [hcl]
              dsimp only
              refine qg rfl rfl rfl (neI rfl rfl) ?_
              first | refine q rfl rfl (pkT (v := .bool _) rfl rfl) ?_ | refine q rfl rfl (pkF (v := .bool _) rfl rfl) ?_
              refine q rfl rfl (mv (v := .bool _) rfl) ?_
              refine TL.known 120 rfl (c := false) (by decide) ?_
              refine qg rfl rfl rfl (mv (v := .pointer _) rfl) ?_
              refine qg rfl rfl rfl (mv (v := .int _ _) rfl) ?_
              refine eg rfl rfl ?_
              refine cl (qclose_ok a (chQ (lmQ l) j) ((l.length : Nat) + 1 : Int) ((j : Int) + 1)) rfl PkL.p trivial ?_
              intro _ _
              change TL _ _ _ _ _ _ _ _ (sepL [_, _])
              rw [hgo]
              dsimp only
              refine qg rfl rfl rfl (neI rfl rfl) ?_
              first | refine q rfl rfl (pkT (v := .bool _) rfl rfl) ?_ | refine q rfl rfl (pkF (v := .bool _) rfl rfl) ?_
              refine q rfl rfl (mv (v := .bool _) rfl) ?_
              refine TL.known 126 rfl (c := false) (by decide) ?_
              refine qg rfl rfl rfl (mv (v := .pointer _) rfl) ?_
              refine qg rfl rfl rfl (mv (v := .int _ _) rfl) ?_
              refine eg rfl rfl ?_
              refine cl (quses_ok a (chQ (lmQ l) j) ((l.length : Nat) + 1 : Int) j) rfl PkL.p trivial ?_
              intro _ _
              change TL _ _ _ _ _ _ _ _ (sepL [_, _])
              rw [huz]
              refine qg rfl rfl rfl (neI rfl rfl) ?_
              first | refine q rfl rfl (pkT (v := .bool _) rfl rfl) ?_ | refine q rfl rfl (pkF (v := .bool _) rfl rfl) ?_
              refine TL.nil (nt ?_)
              refine TC.condD rfl (fun hc4 => absurd hc4 (by decide)) (fun hc4 => ?_)
              refine TC.skip (nt ?_)
              refine TC.region ?_
              refine q rfl rfl (mv (v := .int _ _) rfl) ?_
              refine q rfl rfl (asg (v := .int _ _) rfl) ?_
              refine TL.nil (nb (nt ?_))
              refine TC.region ?_
              refine q rfl rfl (mv (v := .int _ _) rfl) ?_
              first | refine q rfl rfl (subI rfl rfl (by omega) (by omega)) ?_ | refine q rfl rfl (sub rfl rfl rfl) ?_
              refine q rfl rfl (asg (v := .int _ _) rfl) ?_
              refine TL.nil (nt ?_)
              exact ⟨rfl, j, (by omega), (by omega), ⟨rfl, rfl, congrArg (Value.int .i64) (by omega), trivial⟩, (by repeat (first | exact ent_nil _ | refine ent_take 0 rfl ?_ | refine ent_take 1 rfl ?_ | refine ent_take 2 rfl ?_ | refine ent_take 3 rfl ?_ | refine ent_take 4 rfl ?_ | refine ent_take 5 rfl ?_ | refine ent_take 6 rfl ?_ | refine ent_take 7 rfl ?_ | refine ent_take 8 rfl ?_ | refine ent_take 9 rfl ?_ | refine ent_take 10 rfl ?_ | refine ent_take 11 rfl ?_ | refine ent_take 12 rfl ?_))⟩
            · have h5 := of_decide_eq_false h5
              refine qs rfl rfl ?_
              refine qs rfl rfl ?_
              refine qs rfl rfl ?_
              refine qs rfl rfl ?_
              first | refine q rfl rfl (pkT (v := .bool _) rfl rfl) ?_ | refine q rfl rfl (pkF (v := .bool _) rfl rfl) ?_
              refine q rfl rfl (mv (v := .bool _) rfl) ?_
              refine TL.known 114 rfl (c := false) rfl ?_
              refine qg rfl rfl rfl (mv (v := .pointer _) rfl) ?_
              refine qg rfl rfl rfl (mv (v := .int _ _) rfl) ?_
              refine eg rfl rfl ?_
              refine cl (qclose_ok a (chQ (lmQ l) (j + 1)) ((l.length : Nat) + 1 : Int) ((j : Int) + 1)) rfl PkL.p trivial ?_
              intro _ _
              change TL _ _ _ _ _ _ _ _ (sepL [_, _])
              rw [hcl]
              dsimp only
              refine qg rfl rfl rfl (neI rfl rfl) ?_
              first | refine q rfl rfl (pkT (v := .bool _) rfl rfl) ?_ | refine q rfl rfl (pkF (v := .bool _) rfl rfl) ?_
              refine q rfl rfl (mv (v := .bool _) rfl) ?_
              refine TL.known 120 rfl (c := false) (by decide) ?_
              refine qg rfl rfl rfl (mv (v := .pointer _) rfl) ?_
              refine qg rfl rfl rfl (mv (v := .int _ _) rfl) ?_
              refine eg rfl rfl ?_
              refine cl (qclose_ok a (chQ (lmQ l) j) ((l.length : Nat) + 1 : Int) ((j : Int) + 1)) rfl PkL.p trivial ?_
              intro _ _
              change TL _ _ _ _ _ _ _ _ (sepL [_, _])
              rw [hgo]
              dsimp only
              refine qg rfl rfl rfl (neI rfl rfl) ?_
              first | refine q rfl rfl (pkT (v := .bool _) rfl rfl) ?_ | refine q rfl rfl (pkF (v := .bool _) rfl rfl) ?_
              refine q rfl rfl (mv (v := .bool _) rfl) ?_
              refine TL.known 126 rfl (c := false) (by decide) ?_
              refine qg rfl rfl rfl (mv (v := .pointer _) rfl) ?_
              refine qg rfl rfl rfl (mv (v := .int _ _) rfl) ?_
              refine eg rfl rfl ?_
              refine cl (quses_ok a (chQ (lmQ l) j) ((l.length : Nat) + 1 : Int) j) rfl PkL.p trivial ?_
              intro _ _
              change TL _ _ _ _ _ _ _ _ (sepL [_, _])
              rw [huz]
              refine qg rfl rfl rfl (neI rfl rfl) ?_
              first | refine q rfl rfl (pkT (v := .bool _) rfl rfl) ?_ | refine q rfl rfl (pkF (v := .bool _) rfl rfl) ?_
              refine TL.nil (nt ?_)
              refine TC.condD rfl (fun hc5 => absurd hc5 (by decide)) (fun hc5 => ?_)
              refine TC.skip (nt ?_)
              refine TC.region ?_
              refine q rfl rfl (mv (v := .int _ _) rfl) ?_
              refine q rfl rfl (asg (v := .int _ _) rfl) ?_
              refine TL.nil (nb (nt ?_))
              refine TC.region ?_
              refine q rfl rfl (mv (v := .int _ _) rfl) ?_
              first | refine q rfl rfl (subI rfl rfl (by omega) (by omega)) ?_ | refine q rfl rfl (sub rfl rfl rfl) ?_
              refine q rfl rfl (asg (v := .int _ _) rfl) ?_
              refine TL.nil (nt ?_)
              exact ⟨rfl, j, (by omega), (by omega), ⟨rfl, rfl, congrArg (Value.int .i64) (by omega), trivial⟩, (by repeat (first | exact ent_nil _ | refine ent_take 0 rfl ?_ | refine ent_take 1 rfl ?_ | refine ent_take 2 rfl ?_ | refine ent_take 3 rfl ?_ | refine ent_take 4 rfl ?_ | refine ent_take 5 rfl ?_ | refine ent_take 6 rfl ?_ | refine ent_take 7 rfl ?_ | refine ent_take 8 rfl ?_ | refine ent_take 9 rfl ?_ | refine ent_take 10 rfl ?_ | refine ent_take 11 rfl ?_ | refine ent_take 12 rfl ?_))⟩
          · obtain rfl : i = 0 := by omega
            refine TC.exit (et (et (eb (nt ?_))))
            refine TC.seq ?_
            refine TC.region ?_
            refine q rfl rfl (mv (v := .int _ _) rfl) ?_
            refine q rfl rfl (eqI rfl rfl) ?_
            refine q rfl rfl (mv (v := .bool _) rfl) ?_
            refine TL.known 135 rfl (c := true) (by decide) ?_
            refine qg rfl rfl rfl (mv (v := .pointer _) rfl) ?_
            refine eg rfl rfl ?_
            refine cl (qids_ok a (chQ (lmQ l) 0) ((l.length : Nat) + 1 : Int)) rfl PkL.p trivial ?_
            intro y1 _
            change TL _ _ _ _ _ _ _ _ (sepL [_, _, _])
            refine qg rfl rfl rfl (len 3 1 rfl rfl) ?_
            refine qg rfl rfl rfl (eqI rfl rfl) ?_
            first | refine q rfl rfl (pkT (v := .bool _) rfl rfl) ?_ | refine q rfl rfl (pkF (v := .bool _) rfl rfl) ?_
            refine q rfl rfl (asg (v := .bool _) rfl) ?_
            refine TL.nil (nt ?_)
            refine TC.ret ?_
            exact Ret.i () [_] ⟨rfl, trivial⟩ rfl trivial (ent_take 2 rfl (ent_nil _))
        · have h2 := of_decide_eq_false h2
          refine qs rfl rfl ?_
          refine qs rfl rfl ?_
          refine qs rfl rfl ?_
          refine qs rfl rfl ?_
          first | refine q rfl rfl (pkT (v := .bool _) rfl rfl) ?_ | refine q rfl rfl (pkF (v := .bool _) rfl rfl) ?_
          refine q rfl rfl (mv (v := .bool _) rfl) ?_
          refine TL.known 89 rfl (c := false) rfl ?_
          refine qg rfl rfl rfl (mv (v := .pointer _) rfl) ?_
          refine qg rfl rfl rfl (mv (v := .int _ _) rfl) ?_
          refine qg rfl rfl rfl (mv (v := .int _ _) rfl) ?_
          first | refine qg rfl rfl rfl (conv .u16 .i64 rfl rfl rfl (wi64 (by omega) (by omega))) ?_ | refine qg rfl rfl rfl (conv .u16 .i64 rfl rfl rfl rfl) ?_
          refine TL.known 89 rfl (c := false) rfl ?_
          refine eg rfl rfl ?_
          refine cl (qrefund_ok a (setQ (chQ (lmQ l) l.length) l.length n) ((l.length : Nat) + 1 : Int) l.length n) rfl PkL.p trivial ?_
          intro _ _
          change TL _ _ _ _ _ _ _ _ (sepL [_, _])
          rw [hrf]
          dsimp only
          refine qg rfl rfl rfl (neI rfl rfl) ?_
          first | refine q rfl rfl (pkT (v := .bool _) rfl rfl) ?_ | refine q rfl rfl (pkF (v := .bool _) rfl rfl) ?_
          refine TL.nil (nt ?_)
          refine TC.condD rfl (fun hc6 => absurd hc6 (by decide)) (fun hc6 => ?_)
          refine TC.skip (nt ?_)
          refine TC.seq ?_
          refine TC.seq ?_
          refine TC.region ?_
          refine q rfl rfl (mv (v := .slice _ _ _) rfl) ?_
          refine q rfl rfl (len 5 1 rfl rfl) ?_
          refine q rfl rfl (asg (v := .int _ _) rfl) ?_
          refine TL.nil (nt ?_)
          refine TC.block ?_
          refine TC.loop (ι := Nat) (fun i => i ≤ l.length) (fun i => [(5, .pointer (some ⟨a, 0, none⟩)), (7, .int .i64 ((i : Nat) : Int)), (11, .int .i64 ((i : Nat) : Int))]) (fun i => sepL [isQ a (chQ (lmQ l) i) ((l.length : Nat) + 1 : Int), F]) (fun i => i) l.length (Nat.le_refl _) ⟨rfl, rfl, rfl, trivial⟩ (by repeat (first | exact ent_nil _ | refine ent_take 0 rfl ?_ | refine ent_take 1 rfl ?_ | refine ent_take 2 rfl ?_ | refine ent_take 3 rfl ?_ | refine ent_take 4 rfl ?_ | refine ent_take 5 rfl ?_ | refine ent_take 6 rfl ?_ | refine ent_take 7 rfl ?_ | refine ent_take 8 rfl ?_ | refine ent_take 9 rfl ?_ | refine ent_take 10 rfl ?_ | refine ent_take 11 rfl ?_ | refine ent_take 12 rfl ?_)) ?_
          rintro i hi ρ1
          dsimp only [updL] at hi ⊢
          refine TC.seq ?_
          refine TC.seq ?_
          refine TC.region ?_
          refine q rfl rfl (mv (v := .int _ _) rfl) ?_
          refine q rfl rfl (gtr rfl rfl) ?_
          refine TL.nil (nt ?_)
          first | refine TC.condD rfl (fun hlt3 => ?_) (fun hlt3 => ?_) | refine TC.cond rfl (fun hlt3 => ?_) (fun hlt3 => ?_)
          · obtain ⟨j, rfl⟩ : ∃ j, i = j + 1 := ⟨i - 1, by omega⟩
            have hj : j < l.length := by omega
            obtain ⟨hu1, hu2, hu3⟩ := ch_up hL hl30 hj
            have hcl := ch_close hL hl30 hj
            have hgo := ch_gone (lmQ l) j
            have huz := (ch_use (ch_wq hL hl30 (i := j) (by omega))).1
            have hjn : ((j + 1 : Nat) : Int) = (j : Int) + 1 := rfl
            rw [hjn]
            refine TC.skip (nt ?_)
            refine TC.seq ?_
            refine TC.block ?_
            refine TC.seq ?_
            refine TC.region ?_
            refine q rfl rfl (mv (v := .pointer _) rfl) ?_
            refine q rfl rfl (mv (v := .int _ _) rfl) ?_
            refine e rfl ?_
            refine cl (qpar_ok a (chQ (lmQ l) (j + 1)) ((l.length : Nat) + 1 : Int) ((j : Int) + 1)) rfl PkL.p trivial ?_
            intro _ _
            change TL _ _ _ _ _ _ _ _ (sepL [_, _])
            rw [hu3]
            refine q rfl rfl (asg (v := .int _ _) rfl) ?_
            refine TL.nil (nt ?_)
            refine TC.seq ?_
            refine TC.seq ?_
            refine TC.region ?_
            refine q rfl rfl (mv (v := .int _ _) rfl) ?_
            refine q rfl rfl (gtr rfl rfl) ?_
            refine q rfl rfl (mv (v := .bool _) rfl) ?_
            refine TL.split 108 rfl (fun h5 => ?_) (fun h5 => ?_)
            · have h5 := of_decide_eq_true h5
              have hup := ch_closeup hL hl30 hj (by omega)
              refine qg rfl rfl rfl (mv (v := .pointer _) rfl) ?_
              refine qg rfl rfl rfl (mv (v := .int _ _) rfl) ?_
              refine eg rfl rfl ?_
              refine cl (qclose_ok a (chQ (lmQ l) (j + 1)) ((l.length : Nat) + 1 : Int) j) rfl PkL.p trivial ?_
              intro _ _
              change TL _ _ _ _ _ _ _ _ (sepL [_, _])
              rw [hup]
              dsimp only
              refine qg rfl rfl rfl (neI rfl rfl) ?_
              first | refine q rfl rfl (pkT (v := .bool _) rfl rfl) ?_ | refine q rfl rfl (pkF (v := .bool _) rfl rfl) ?_
              refine q rfl rfl (mv (v := .bool _) rfl) ?_
              refine TL.known 114 rfl (c := false) (by decide) ?_
              refine qg rfl rfl rfl (mv (v := .pointer _) rfl) ?_
              refine qg rfl rfl rfl (mv (v := .int _ _) rfl) ?_
              refine eg rfl rfl ?_
              refine cl (qclose_ok a (chQ (lmQ l) (j + 1)) ((l.length : Nat) + 1 : Int) ((j : Int) + 1)) rfl PkL.p trivial ?_
              intro _ _
              change TL _ _ _ _ _ _ _ _ (sepL [_, _])
              rw [hcl]
              dsimp only
              refine qg rfl rfl rfl (neI rfl rfl) ?_
              first | refine q rfl rfl (pkT (v := .bool _) rfl rfl) ?_ | refine q rfl rfl (pkF (v := .bool _) rfl rfl) ?_
              refine q rfl rfl (mv (v := .bool _) rfl) ?_
              refine TL.known 120 rfl (c := false) (by decide) ?_
              refine qg rfl rfl rfl (mv (v := .pointer _) rfl) ?_
              refine qg rfl rfl rfl (mv (v := .int _ _) rfl) ?_
              refine eg rfl rfl ?_
              refine cl (qclose_ok a (chQ (lmQ l) j) ((l.length : Nat) + 1 : Int) ((j : Int) + 1)) rfl PkL.p trivial ?_
              intro _ _
              change TL _ _ _ _ _ _ _ _ (sepL [_, _])
              rw [hgo]
              dsimp only
              refine qg rfl rfl rfl (neI rfl rfl) ?_
              first | refine q rfl rfl (pkT (v := .bool _) rfl rfl) ?_ | refine q rfl rfl (pkF (v := .bool _) rfl rfl) ?_
              refine q rfl rfl (mv (v := .bool _) rfl) ?_
              refine TL.known 126 rfl (c := false) (by decide) ?_
              refine qg rfl rfl rfl (mv (v := .pointer _) rfl) ?_
              refine qg rfl rfl rfl (mv (v := .int _ _) rfl) ?_
              refine eg rfl rfl ?_
              refine cl (quses_ok a (chQ (lmQ l) j) ((l.length : Nat) + 1 : Int) j) rfl PkL.p trivial ?_
              intro _ _
              change TL _ _ _ _ _ _ _ _ (sepL [_, _])
              rw [huz]
              refine qg rfl rfl rfl (neI rfl rfl) ?_
              first | refine q rfl rfl (pkT (v := .bool _) rfl rfl) ?_ | refine q rfl rfl (pkF (v := .bool _) rfl rfl) ?_
              refine TL.nil (nt ?_)
              refine TC.condD rfl (fun hc7 => absurd hc7 (by decide)) (fun hc7 => ?_)
              refine TC.skip (nt ?_)
              refine TC.region ?_
              refine q rfl rfl (mv (v := .int _ _) rfl) ?_
              refine q rfl rfl (asg (v := .int _ _) rfl) ?_
              refine TL.nil (nb (nt ?_))
              refine TC.region ?_
              refine q rfl rfl (mv (v := .int _ _) rfl) ?_
              first | refine q rfl rfl (subI rfl rfl (by omega) (by omega)) ?_ | refine q rfl rfl (sub rfl rfl rfl) ?_
              refine q rfl rfl (asg (v := .int _ _) rfl) ?_
              refine TL.nil (nt ?_)
              exact ⟨rfl, j, (by omega), (by omega), ⟨rfl, rfl, congrArg (Value.int .i64) (by omega), trivial⟩, (by repeat (first | exact ent_nil _ | refine ent_take 0 rfl ?_ | refine ent_take 1 rfl ?_ | refine ent_take 2 rfl ?_ | refine ent_take 3 rfl ?_ | refine ent_take 4 rfl ?_ | refine ent_take 5 rfl ?_ | refine ent_take 6 rfl ?_ | refine ent_take 7 rfl ?_ | refine ent_take 8 rfl ?_ | refine ent_take 9 rfl ?_ | refine ent_take 10 rfl ?_ | refine ent_take 11 rfl ?_ | refine ent_take 12 rfl ?_))⟩
            · have h5 := of_decide_eq_false h5
              refine qs rfl rfl ?_
              refine qs rfl rfl ?_
              refine qs rfl rfl ?_
              refine qs rfl rfl ?_
              first | refine q rfl rfl (pkT (v := .bool _) rfl rfl) ?_ | refine q rfl rfl (pkF (v := .bool _) rfl rfl) ?_
              refine q rfl rfl (mv (v := .bool _) rfl) ?_
              refine TL.known 114 rfl (c := false) rfl ?_
              refine qg rfl rfl rfl (mv (v := .pointer _) rfl) ?_
              refine qg rfl rfl rfl (mv (v := .int _ _) rfl) ?_
              refine eg rfl rfl ?_
              refine cl (qclose_ok a (chQ (lmQ l) (j + 1)) ((l.length : Nat) + 1 : Int) ((j : Int) + 1)) rfl PkL.p trivial ?_
              intro _ _
              change TL _ _ _ _ _ _ _ _ (sepL [_, _])
              rw [hcl]
              dsimp only
              refine qg rfl rfl rfl (neI rfl rfl) ?_
              first | refine q rfl rfl (pkT (v := .bool _) rfl rfl) ?_ | refine q rfl rfl (pkF (v := .bool _) rfl rfl) ?_
              refine q rfl rfl (mv (v := .bool _) rfl) ?_
              refine TL.known 120 rfl (c := false) (by decide) ?_
              refine qg rfl rfl rfl (mv (v := .pointer _) rfl) ?_
              refine qg rfl rfl rfl (mv (v := .int _ _) rfl) ?_
              refine eg rfl rfl ?_
              refine cl (qclose_ok a (chQ (lmQ l) j) ((l.length : Nat) + 1 : Int) ((j : Int) + 1)) rfl PkL.p trivial ?_
              intro _ _
              change TL _ _ _ _ _ _ _ _ (sepL [_, _])
              rw [hgo]
              dsimp only
              refine qg rfl rfl rfl (neI rfl rfl) ?_
              first | refine q rfl rfl (pkT (v := .bool _) rfl rfl) ?_ | refine q rfl rfl (pkF (v := .bool _) rfl rfl) ?_
              refine q rfl rfl (mv (v := .bool _) rfl) ?_
              refine TL.known 126 rfl (c := false) (by decide) ?_
              refine qg rfl rfl rfl (mv (v := .pointer _) rfl) ?_
              refine qg rfl rfl rfl (mv (v := .int _ _) rfl) ?_
              refine eg rfl rfl ?_
              refine cl (quses_ok a (chQ (lmQ l) j) ((l.length : Nat) + 1 : Int) j) rfl PkL.p trivial ?_
              intro _ _
              change TL _ _ _ _ _ _ _ _ (sepL [_, _])
              rw [huz]
              refine qg rfl rfl rfl (neI rfl rfl) ?_
              first | refine q rfl rfl (pkT (v := .bool _) rfl rfl) ?_ | refine q rfl rfl (pkF (v := .bool _) rfl rfl) ?_
              refine TL.nil (nt ?_)
              refine TC.condD rfl (fun hc8 => absurd hc8 (by decide)) (fun hc8 => ?_)
              refine TC.skip (nt ?_)
              refine TC.region ?_
              refine q rfl rfl (mv (v := .int _ _) rfl) ?_
              refine q rfl rfl (asg (v := .int _ _) rfl) ?_
              refine TL.nil (nb (nt ?_))
              refine TC.region ?_
              refine q rfl rfl (mv (v := .int _ _) rfl) ?_
              first | refine q rfl rfl (subI rfl rfl (by omega) (by omega)) ?_ | refine q rfl rfl (sub rfl rfl rfl) ?_
              refine q rfl rfl (asg (v := .int _ _) rfl) ?_
              refine TL.nil (nt ?_)
              exact ⟨rfl, j, (by omega), (by omega), ⟨rfl, rfl, congrArg (Value.int .i64) (by omega), trivial⟩, (by repeat (first | exact ent_nil _ | refine ent_take 0 rfl ?_ | refine ent_take 1 rfl ?_ | refine ent_take 2 rfl ?_ | refine ent_take 3 rfl ?_ | refine ent_take 4 rfl ?_ | refine ent_take 5 rfl ?_ | refine ent_take 6 rfl ?_ | refine ent_take 7 rfl ?_ | refine ent_take 8 rfl ?_ | refine ent_take 9 rfl ?_ | refine ent_take 10 rfl ?_ | refine ent_take 11 rfl ?_ | refine ent_take 12 rfl ?_))⟩
          · obtain rfl : i = 0 := by omega
            refine TC.exit (et (et (eb (nt ?_))))
            refine TC.seq ?_
            refine TC.region ?_
            refine q rfl rfl (mv (v := .int _ _) rfl) ?_
            refine q rfl rfl (eqI rfl rfl) ?_
            refine q rfl rfl (mv (v := .bool _) rfl) ?_
            refine TL.known 135 rfl (c := true) (by decide) ?_
            refine qg rfl rfl rfl (mv (v := .pointer _) rfl) ?_
            refine eg rfl rfl ?_
            refine cl (qids_ok a (chQ (lmQ l) 0) ((l.length : Nat) + 1 : Int)) rfl PkL.p trivial ?_
            intro y1 _
            change TL _ _ _ _ _ _ _ _ (sepL [_, _, _])
            refine qg rfl rfl rfl (len 3 1 rfl rfl) ?_
            refine qg rfl rfl rfl (eqI rfl rfl) ?_
            first | refine q rfl rfl (pkT (v := .bool _) rfl rfl) ?_ | refine q rfl rfl (pkF (v := .bool _) rfl rfl) ?_
            refine q rfl rfl (asg (v := .bool _) rfl) ?_
            refine TL.nil (nt ?_)
            refine TC.ret ?_
            exact Ret.i () [_] ⟨rfl, trivial⟩ rfl trivial (ent_take 2 rfl (ent_nil _))
      · have h1 := of_decide_eq_false h1
        refine qs rfl rfl ?_
        refine qs rfl rfl ?_
        first | refine q rfl rfl (pkT (v := .bool _) rfl rfl) ?_ | refine q rfl rfl (pkF (v := .bool _) rfl rfl) ?_
        refine q rfl rfl (mv (v := .bool _) rfl) ?_
        refine TL.known 83 rfl (c := false) rfl ?_
        refine qs rfl rfl ?_
        refine qs rfl rfl ?_
        refine qs rfl rfl ?_
        refine qs rfl rfl ?_
        first | refine q rfl rfl (pkT (v := .bool _) rfl rfl) ?_ | refine q rfl rfl (pkF (v := .bool _) rfl rfl) ?_
        refine q rfl rfl (mv (v := .bool _) rfl) ?_
        refine TL.known 89 rfl (c := false) rfl ?_
        refine qg rfl rfl rfl (mv (v := .pointer _) rfl) ?_
        refine qg rfl rfl rfl (mv (v := .int _ _) rfl) ?_
        refine qg rfl rfl rfl (mv (v := .int _ _) rfl) ?_
        first | refine qg rfl rfl rfl (conv .u16 .i64 rfl rfl rfl (wi64 (by omega) (by omega))) ?_ | refine qg rfl rfl rfl (conv .u16 .i64 rfl rfl rfl rfl) ?_
        refine eg rfl rfl ?_
        refine cl (qrefund_ok a (setQ (chQ (lmQ l) l.length) l.length n) ((l.length : Nat) + 1 : Int) l.length n) rfl PkL.p trivial ?_
        intro _ _
        change TL _ _ _ _ _ _ _ _ (sepL [_, _])
        rw [hrf]
        dsimp only
        refine qg rfl rfl rfl (neI rfl rfl) ?_
        first | refine q rfl rfl (pkT (v := .bool _) rfl rfl) ?_ | refine q rfl rfl (pkF (v := .bool _) rfl rfl) ?_
        refine TL.nil (nt ?_)
        refine TC.condD rfl (fun hc9 => absurd hc9 (by decide)) (fun hc9 => ?_)
        refine TC.skip (nt ?_)
        refine TC.seq ?_
        refine TC.seq ?_
        refine TC.region ?_
        refine q rfl rfl (mv (v := .slice _ _ _) rfl) ?_
        refine q rfl rfl (len 5 1 rfl rfl) ?_
        refine q rfl rfl (asg (v := .int _ _) rfl) ?_
        refine TL.nil (nt ?_)
        refine TC.block ?_
        refine TC.loop (ι := Nat) (fun i => i ≤ l.length) (fun i => [(5, .pointer (some ⟨a, 0, none⟩)), (7, .int .i64 ((i : Nat) : Int)), (11, .int .i64 ((i : Nat) : Int))]) (fun i => sepL [isQ a (chQ (lmQ l) i) ((l.length : Nat) + 1 : Int), F]) (fun i => i) l.length (Nat.le_refl _) ⟨rfl, rfl, rfl, trivial⟩ (by repeat (first | exact ent_nil _ | refine ent_take 0 rfl ?_ | refine ent_take 1 rfl ?_ | refine ent_take 2 rfl ?_ | refine ent_take 3 rfl ?_ | refine ent_take 4 rfl ?_ | refine ent_take 5 rfl ?_ | refine ent_take 6 rfl ?_ | refine ent_take 7 rfl ?_ | refine ent_take 8 rfl ?_ | refine ent_take 9 rfl ?_ | refine ent_take 10 rfl ?_ | refine ent_take 11 rfl ?_ | refine ent_take 12 rfl ?_)) ?_
        rintro i hi ρ1
        dsimp only [updL] at hi ⊢
        refine TC.seq ?_
        refine TC.seq ?_
        refine TC.region ?_
        refine q rfl rfl (mv (v := .int _ _) rfl) ?_
        refine q rfl rfl (gtr rfl rfl) ?_
        refine TL.nil (nt ?_)
        first | refine TC.condD rfl (fun hlt3 => ?_) (fun hlt3 => ?_) | refine TC.cond rfl (fun hlt3 => ?_) (fun hlt3 => ?_)
        · obtain ⟨j, rfl⟩ : ∃ j, i = j + 1 := ⟨i - 1, by omega⟩
          have hj : j < l.length := by omega
          obtain ⟨hu1, hu2, hu3⟩ := ch_up hL hl30 hj
          have hcl := ch_close hL hl30 hj
          have hgo := ch_gone (lmQ l) j
          have huz := (ch_use (ch_wq hL hl30 (i := j) (by omega))).1
          have hjn : ((j + 1 : Nat) : Int) = (j : Int) + 1 := rfl
          rw [hjn]
          refine TC.skip (nt ?_)
          refine TC.seq ?_
          refine TC.block ?_
          refine TC.seq ?_
          refine TC.region ?_
          refine q rfl rfl (mv (v := .pointer _) rfl) ?_
          refine q rfl rfl (mv (v := .int _ _) rfl) ?_
          refine e rfl ?_
          refine cl (qpar_ok a (chQ (lmQ l) (j + 1)) ((l.length : Nat) + 1 : Int) ((j : Int) + 1)) rfl PkL.p trivial ?_
          intro _ _
          change TL _ _ _ _ _ _ _ _ (sepL [_, _])
          rw [hu3]
          refine q rfl rfl (asg (v := .int _ _) rfl) ?_
          refine TL.nil (nt ?_)
          refine TC.seq ?_
          refine TC.seq ?_
          refine TC.region ?_
          refine q rfl rfl (mv (v := .int _ _) rfl) ?_
          refine q rfl rfl (gtr rfl rfl) ?_
          refine q rfl rfl (mv (v := .bool _) rfl) ?_
          refine TL.split 108 rfl (fun h5 => ?_) (fun h5 => ?_)
          · have h5 := of_decide_eq_true h5
            have hup := ch_closeup hL hl30 hj (by omega)
            refine qg rfl rfl rfl (mv (v := .pointer _) rfl) ?_
            refine qg rfl rfl rfl (mv (v := .int _ _) rfl) ?_
            refine eg rfl rfl ?_
            refine cl (qclose_ok a (chQ (lmQ l) (j + 1)) ((l.length : Nat) + 1 : Int) j) rfl PkL.p trivial ?_
            intro _ _
            change TL _ _ _ _ _ _ _ _ (sepL [_, _])
            rw [hup]
            dsimp only
            refine qg rfl rfl rfl (neI rfl rfl) ?_
            first | refine q rfl rfl (pkT (v := .bool _) rfl rfl) ?_ | refine q rfl rfl (pkF (v := .bool _) rfl rfl) ?_
            refine q rfl rfl (mv (v := .bool _) rfl) ?_
            refine TL.known 114 rfl (c := false) (by decide) ?_
            refine qg rfl rfl rfl (mv (v := .pointer _) rfl) ?_
            refine qg rfl rfl rfl (mv (v := .int _ _) rfl) ?_
            refine eg rfl rfl ?_
            refine cl (qclose_ok a (chQ (lmQ l) (j + 1)) ((l.length : Nat) + 1 : Int) ((j : Int) + 1)) rfl PkL.p trivial ?_
            intro _ _
            change TL _ _ _ _ _ _ _ _ (sepL [_, _])
            rw [hcl]
            dsimp only
            refine qg rfl rfl rfl (neI rfl rfl) ?_
            first | refine q rfl rfl (pkT (v := .bool _) rfl rfl) ?_ | refine q rfl rfl (pkF (v := .bool _) rfl rfl) ?_
            refine q rfl rfl (mv (v := .bool _) rfl) ?_
            refine TL.known 120 rfl (c := false) (by decide) ?_
            refine qg rfl rfl rfl (mv (v := .pointer _) rfl) ?_
            refine qg rfl rfl rfl (mv (v := .int _ _) rfl) ?_
            refine eg rfl rfl ?_
            refine cl (qclose_ok a (chQ (lmQ l) j) ((l.length : Nat) + 1 : Int) ((j : Int) + 1)) rfl PkL.p trivial ?_
            intro _ _
            change TL _ _ _ _ _ _ _ _ (sepL [_, _])
            rw [hgo]
            dsimp only
            refine qg rfl rfl rfl (neI rfl rfl) ?_
            first | refine q rfl rfl (pkT (v := .bool _) rfl rfl) ?_ | refine q rfl rfl (pkF (v := .bool _) rfl rfl) ?_
            refine q rfl rfl (mv (v := .bool _) rfl) ?_
            refine TL.known 126 rfl (c := false) (by decide) ?_
            refine qg rfl rfl rfl (mv (v := .pointer _) rfl) ?_
            refine qg rfl rfl rfl (mv (v := .int _ _) rfl) ?_
            refine eg rfl rfl ?_
            refine cl (quses_ok a (chQ (lmQ l) j) ((l.length : Nat) + 1 : Int) j) rfl PkL.p trivial ?_
            intro _ _
            change TL _ _ _ _ _ _ _ _ (sepL [_, _])
            rw [huz]
            refine qg rfl rfl rfl (neI rfl rfl) ?_
            first | refine q rfl rfl (pkT (v := .bool _) rfl rfl) ?_ | refine q rfl rfl (pkF (v := .bool _) rfl rfl) ?_
            refine TL.nil (nt ?_)
            refine TC.condD rfl (fun hc10 => absurd hc10 (by decide)) (fun hc10 => ?_)
            refine TC.skip (nt ?_)
            refine TC.region ?_
            refine q rfl rfl (mv (v := .int _ _) rfl) ?_
            refine q rfl rfl (asg (v := .int _ _) rfl) ?_
            refine TL.nil (nb (nt ?_))
            refine TC.region ?_
            refine q rfl rfl (mv (v := .int _ _) rfl) ?_
            first | refine q rfl rfl (subI rfl rfl (by omega) (by omega)) ?_ | refine q rfl rfl (sub rfl rfl rfl) ?_
            refine q rfl rfl (asg (v := .int _ _) rfl) ?_
            refine TL.nil (nt ?_)
            exact ⟨rfl, j, (by omega), (by omega), ⟨rfl, rfl, congrArg (Value.int .i64) (by omega), trivial⟩, (by repeat (first | exact ent_nil _ | refine ent_take 0 rfl ?_ | refine ent_take 1 rfl ?_ | refine ent_take 2 rfl ?_ | refine ent_take 3 rfl ?_ | refine ent_take 4 rfl ?_ | refine ent_take 5 rfl ?_ | refine ent_take 6 rfl ?_ | refine ent_take 7 rfl ?_ | refine ent_take 8 rfl ?_ | refine ent_take 9 rfl ?_ | refine ent_take 10 rfl ?_ | refine ent_take 11 rfl ?_ | refine ent_take 12 rfl ?_))⟩
          · have h5 := of_decide_eq_false h5
            refine qs rfl rfl ?_
            refine qs rfl rfl ?_
            refine qs rfl rfl ?_
            refine qs rfl rfl ?_
            first | refine q rfl rfl (pkT (v := .bool _) rfl rfl) ?_ | refine q rfl rfl (pkF (v := .bool _) rfl rfl) ?_
            refine q rfl rfl (mv (v := .bool _) rfl) ?_
            refine TL.known 114 rfl (c := false) rfl ?_
            refine qg rfl rfl rfl (mv (v := .pointer _) rfl) ?_
            refine qg rfl rfl rfl (mv (v := .int _ _) rfl) ?_
            refine eg rfl rfl ?_
            refine cl (qclose_ok a (chQ (lmQ l) (j + 1)) ((l.length : Nat) + 1 : Int) ((j : Int) + 1)) rfl PkL.p trivial ?_
            intro _ _
            change TL _ _ _ _ _ _ _ _ (sepL [_, _])
            rw [hcl]
            dsimp only
            refine qg rfl rfl rfl (neI rfl rfl) ?_
            first | refine q rfl rfl (pkT (v := .bool _) rfl rfl) ?_ | refine q rfl rfl (pkF (v := .bool _) rfl rfl) ?_
            refine q rfl rfl (mv (v := .bool _) rfl) ?_
            refine TL.known 120 rfl (c := false) (by decide) ?_
            refine qg rfl rfl rfl (mv (v := .pointer _) rfl) ?_
            refine qg rfl rfl rfl (mv (v := .int _ _) rfl) ?_
            refine eg rfl rfl ?_
            refine cl (qclose_ok a (chQ (lmQ l) j) ((l.length : Nat) + 1 : Int) ((j : Int) + 1)) rfl PkL.p trivial ?_
            intro _ _
            change TL _ _ _ _ _ _ _ _ (sepL [_, _])
            rw [hgo]
            dsimp only
            refine qg rfl rfl rfl (neI rfl rfl) ?_
            first | refine q rfl rfl (pkT (v := .bool _) rfl rfl) ?_ | refine q rfl rfl (pkF (v := .bool _) rfl rfl) ?_
            refine q rfl rfl (mv (v := .bool _) rfl) ?_
            refine TL.known 126 rfl (c := false) (by decide) ?_
            refine qg rfl rfl rfl (mv (v := .pointer _) rfl) ?_
            refine qg rfl rfl rfl (mv (v := .int _ _) rfl) ?_
            refine eg rfl rfl ?_
            refine cl (quses_ok a (chQ (lmQ l) j) ((l.length : Nat) + 1 : Int) j) rfl PkL.p trivial ?_
            intro _ _
            change TL _ _ _ _ _ _ _ _ (sepL [_, _])
            rw [huz]
            refine qg rfl rfl rfl (neI rfl rfl) ?_
            first | refine q rfl rfl (pkT (v := .bool _) rfl rfl) ?_ | refine q rfl rfl (pkF (v := .bool _) rfl rfl) ?_
            refine TL.nil (nt ?_)
            refine TC.condD rfl (fun hc11 => absurd hc11 (by decide)) (fun hc11 => ?_)
            refine TC.skip (nt ?_)
            refine TC.region ?_
            refine q rfl rfl (mv (v := .int _ _) rfl) ?_
            refine q rfl rfl (asg (v := .int _ _) rfl) ?_
            refine TL.nil (nb (nt ?_))
            refine TC.region ?_
            refine q rfl rfl (mv (v := .int _ _) rfl) ?_
            first | refine q rfl rfl (subI rfl rfl (by omega) (by omega)) ?_ | refine q rfl rfl (sub rfl rfl rfl) ?_
            refine q rfl rfl (asg (v := .int _ _) rfl) ?_
            refine TL.nil (nt ?_)
            exact ⟨rfl, j, (by omega), (by omega), ⟨rfl, rfl, congrArg (Value.int .i64) (by omega), trivial⟩, (by repeat (first | exact ent_nil _ | refine ent_take 0 rfl ?_ | refine ent_take 1 rfl ?_ | refine ent_take 2 rfl ?_ | refine ent_take 3 rfl ?_ | refine ent_take 4 rfl ?_ | refine ent_take 5 rfl ?_ | refine ent_take 6 rfl ?_ | refine ent_take 7 rfl ?_ | refine ent_take 8 rfl ?_ | refine ent_take 9 rfl ?_ | refine ent_take 10 rfl ?_ | refine ent_take 11 rfl ?_ | refine ent_take 12 rfl ?_))⟩
        · obtain rfl : i = 0 := by omega
          refine TC.exit (et (et (eb (nt ?_))))
          refine TC.seq ?_
          refine TC.region ?_
          refine q rfl rfl (mv (v := .int _ _) rfl) ?_
          refine q rfl rfl (eqI rfl rfl) ?_
          refine q rfl rfl (mv (v := .bool _) rfl) ?_
          refine TL.known 135 rfl (c := true) (by decide) ?_
          refine qg rfl rfl rfl (mv (v := .pointer _) rfl) ?_
          refine eg rfl rfl ?_
          refine cl (qids_ok a (chQ (lmQ l) 0) ((l.length : Nat) + 1 : Int)) rfl PkL.p trivial ?_
          intro y1 _
          change TL _ _ _ _ _ _ _ _ (sepL [_, _, _])
          refine qg rfl rfl rfl (len 3 1 rfl rfl) ?_
          refine qg rfl rfl rfl (eqI rfl rfl) ?_
          first | refine q rfl rfl (pkT (v := .bool _) rfl rfl) ?_ | refine q rfl rfl (pkF (v := .bool _) rfl rfl) ?_
          refine q rfl rfl (asg (v := .bool _) rfl) ?_
          refine TL.nil (nt ?_)
          refine TC.ret ?_
          exact Ret.i () [_] ⟨rfl, trivial⟩ rfl trivial (ent_take 2 rfl (ent_nil _))

end Go.Proofs.Ytmffldmipddngaa
