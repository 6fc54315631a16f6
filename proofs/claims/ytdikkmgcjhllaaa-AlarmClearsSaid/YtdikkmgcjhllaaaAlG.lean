/-
  Proved here: what functions of this program compute, each as a contract over symbolic states, under the premises that each theorem names (most lines printed by a program of the prover).
-/
import Derived.Test.YtdikkmgcjhllaaaAlF
import Derived.Test.YtdikkmgcjhllaaaQLibW
namespace Go.Proofs.Ytdikkmgcjhllaaa
open Go Go.QM
def kE (Q : List En) : List (Int × Int) := Q.map fun e => (e.at_, e.id)
theorem kE_length (Q : List En) : (kE Q).length = Q.length := by simp [kE]
theorem kE_ids (Q : List En) : (kE Q).map (·.2) = ids Q := by simp [kE, ids, List.map_map, Function.comp_def]
theorem kE_ats (Q : List En) : (kE Q).map (·.1) = Q.map (·.at_) := by simp [kE, List.map_map, Function.comp_def]
theorem kE_filter (Q : List En) (f : Int × Int → Bool) : (kE Q).filter f = kE (Q.filter fun e => f (e.at_, e.id)) := by
  rw [kE, List.filter_map]; rfl
theorem kE_due (t : Int) (Q : List En) : ids (dueA t Q) = ((kE Q).filter fun x => decide (x.1 ≤ t)).map (·.2) := by rw [kE_filter, kE_ids]; rfl
theorem kE_rest (t : Int) (Q : List En) : kE (restA t Q) = (kE Q).filter fun x => decide (¬ x.1 ≤ t) := by rw [kE_filter]; rfl
theorem kE_off (Q : List En) (x : Int) : kE (offA Q x) = (kE Q).filter fun y => decide (y.2 ≠ x) := by rw [kE_filter]; rfl
theorem kE_next {Q Z : List En} (h : kE Q = kE Z) (now : Int) : nextA Q now = nextA Z now := by
  have h1 := kE_ats Q
  rw [h, kE_ats] at h1
  have h2 := kE_length Q
  rw [h, kE_length] at h2
  rw [nextA, nextA, h1]
  have : (Q = []) = (Z = []) := by rw [← List.length_eq_zero_iff, ← List.length_eq_zero_iff, h2]
  simp only [this]
theorem kE_mem {Q : List En} {a i : Int} : (a, i) ∈ kE Q ↔ ∃ e ∈ Q, e.at_ = a ∧ e.id = i := by simp [kE]
theorem kE_has {Q : List En} {i : Int} : hasA Q i ↔ ∃ a, (a, i) ∈ kE Q := by
  simp only [kE_mem, hasA]
  exact ⟨fun ⟨e, h1, h2⟩ => ⟨e.at_, e, h1, rfl, h2⟩, fun ⟨_, e, h1, _, h2⟩ => ⟨e, h1, h2⟩⟩
/-- What holds while things are set. -/
structure CI (kk : Int) (i : Nat) (Q Z : List En) : Prop where
  k : kE Z = (kE Q).filter fun x : Int × Int => decide (x.2 % kk ≠ 0)
  rg : ∀ e ∈ Q, 0 ≤ e.id ∧ e.id < i ∧ e.at_ ≤ 256
  all : ∀ j : Nat, j < i → hasA Q (j : Int)
  nd : Nd Q
theorem CI.start (kk : Int) : CI kk 0 [] [] := ⟨rfl, (fun e h => by cases h), (fun j h => by omega), List.nodup_nil⟩
theorem CI.noQ {kk : Int} {i : Nat} {Q Z : List En} (h : CI kk i Q Z) : ¬ hasA Q (i : Int) := by
  rintro ⟨e, he, h1⟩
  have := h.rg e he; omega
theorem CI.noZ {kk : Int} {i : Nat} {Q Z : List En} (h : CI kk i Q Z) : ¬ hasA Z (i : Int) := by
  rw [kE_has]
  rintro ⟨a, ha⟩
  rw [h.k] at ha
  exact h.noQ (kE_has.2 ⟨a, (List.mem_filter.1 ha).1⟩)
theorem CI.both {kk : Int} {i : Nat} {Q Z : List En} (h : CI kk i Q Z) {u t1 t2 : Int} (hu : u ≤ 256) : ((i : Int) % kk ≠ 0 → CI kk (i + 1) (Q ++ [⟨u, t1, i⟩]) (Z ++ [⟨u, t2, i⟩])) ∧ ((i : Int) % kk = 0 → CI kk (i + 1) (Q ++ [⟨u, t1, i⟩]) Z) := by
  have hrg : ∀ e ∈ Q ++ [⟨u, t1, i⟩], 0 ≤ e.id ∧ e.id < ((i + 1 : Nat) : Int) ∧ e.at_ ≤ 256 := fun e he => by
    rcases List.mem_append.1 he with he | he
    · have := h.rg e he; omega
    · obtain rfl := List.mem_singleton.1 he; dsimp only; omega
  have hall : ∀ j : Nat, j < i + 1 → hasA (Q ++ [⟨u, t1, i⟩]) (j : Int) := fun j hj => by
    by_cases e : j = i
    · subst e; exact ⟨⟨u, t1, j⟩, by simp, rfl⟩
    · obtain ⟨x, hx, h2⟩ := h.all j (by omega)
      exact ⟨x, by simp [hx], h2⟩
  have hnd : Nd (Q ++ [⟨u, t1, i⟩]) := snoc_nd h.nd fun a ha e => h.noQ ⟨a, ha, e⟩
  refine ⟨fun hm => ⟨?_, hrg, hall, hnd⟩, fun hm => ⟨?_, hrg, hall, hnd⟩⟩
  · simp only [kE, List.map_append, List.filter_append, List.map_cons, List.map_nil] at *
    rw [List.filter_cons_of_pos (by simpa using hm)]
    have := h.k
    simp only [kE] at this
    rw [this]; rfl
  · simp only [kE, List.map_append, List.filter_append, List.map_cons, List.map_nil] at *
    rw [List.filter_cons_of_neg (by simpa using hm)]
    have := h.k
    simp only [kE] at this
    rw [this]; simp
/-- What holds while things are cleared: those below j are there still. -/
structure CJ (kk : Int) (Q : List En) (j : Nat) (Z : List En) : Prop where
  k : kE Z = (kE Q).filter fun x : Int × Int => decide (x.2 < (j : Int) ∨ x.2 % kk ≠ 0)
  nd : Nd Z
theorem CJ.start {kk : Int} {i : Nat} {Q Z : List En} (h : CI kk i Q Z) : CJ kk Q i Q := ⟨by
  rw [List.filter_eq_self.2]
  rintro ⟨a, x⟩ hx
  obtain ⟨e, he, _, rfl⟩ := kE_mem.1 hx
  have := h.rg e he
  simp; omega, h.nd⟩
theorem CJ.keep {kk : Int} {Q Z : List En} {j : Nat} (h : CJ kk Q (j + 1) Z) (hm : (j : Int) % kk ≠ 0) : CJ kk Q j Z := ⟨by
  rw [h.k]
  refine List.filter_congr fun x _ => ?_
  rw [decide_eq_decide]
  by_cases e : x.2 = j
  · rw [e]; simp [hm]
  · omega, h.nd⟩
theorem CJ.cut {kk : Int} {Q Z : List En} {j : Nat} (h : CJ kk Q (j + 1) Z) (hm : (j : Int) % kk = 0) : CJ kk Q j (offA Z j) := ⟨by
  rw [kE_off, h.k, List.filter_filter]
  refine List.filter_congr fun x _ => ?_
  rw [Bool.eq_iff_iff]
  simp only [Bool.and_eq_true, decide_eq_true_eq]
  by_cases e : x.2 = j
  · rw [e]; simp [hm]
  · omega, h.nd.sublist (List.filter_sublist.map _)⟩
theorem CJ.has {kk : Int} {i j : Nat} {Q Z Y : List En} (h : CI kk i Q Z) (hj : CJ kk Q (j + 1) Y) (hlt : j < i) : hasA Y (j : Int) := by
  obtain ⟨a, ha⟩ := kE_has.1 (h.all j hlt)
  refine kE_has.2 ⟨a, ?_⟩
  rw [hj.k]
  exact List.mem_filter.2 ⟨ha, by simp; omega⟩
theorem CJ.done {kk : Int} {i : Nat} {Q Z Y : List En} (h : CI kk i Q Z) (hj : CJ kk Q 0 Y) : kE Y = kE Z ∧ ∀ e ∈ Y, e.at_ ≤ 256 := by
  constructor
  · rw [hj.k, h.k]
    refine List.filter_congr fun x hx => ?_
    obtain ⟨a, y⟩ := x
    obtain ⟨e, he, _, rfl⟩ := kE_mem.1 hx
    have := h.rg e he
    rw [decide_eq_decide]; dsimp only; omega
  · intro e he
    have : (e.at_, e.id) ∈ kE Y := kE_mem.2 ⟨e, he, rfl, rfl⟩
    rw [hj.k] at this
    obtain ⟨x, hx, h1, _⟩ := kE_mem.1 (List.mem_filter.1 this).1
    have := h.rg x hx; omega

set_option maxHeartbeats 1000000 in
theorem clears_ok (ad : Option Addr) (l : List Int) (cap : Nat) (g : Int) (hl : ∀ x ∈ l, 0 ≤ x ∧ x ≤ 255) (hg : 0 ≤ g ∧ g ≤ 255) : FSpec Try.prog 3 [.slice ad l.length cap, .int .u8 g] (fun F => ∃ E, RdS F E ad (nums .u8 l)) [] (fun _ : Unit => .bool true) (fun _ => True) (fun _ => []) := by
  refine FSpec.intro (rs := [.tmp 4]) (by kernel_rfl) Try.func3 rfl Try.ntmps3 (by rfl) rfl ?_
  intro F ⟨E, hF⟩
  change TC _ _ _ _ _ _ _ (sepL [_])
  haveI : RdSI F ad E (nums .u8 l) := ⟨hF⟩
  have hnl := nums_length .u8 l
  refine TC.seq ?_
  refine TC.region ?_
  refine q rfl rfl (asg (v := .bool _) rfl) ?_
  refine TL.nil (nt ?_)
  refine TC.seq ?_
  refine TC.seq ?_
  refine TC.region ?_
  refine e rfl ?_
  refine cl alive_ok rfl (picked_nil _) trivial ?_
  intro _ _
  change TL _ _ _ _ _ _ _ _ (sepL [_])
  first | refine q rfl rfl (notD rfl) ?_ | refine q rfl rfl (notB rfl) ?_
  refine TL.nil (nt ?_)
  refine TC.condF rfl ?_
  refine TC.skip (nt ?_)
  refine TC.seq ?_
  refine TC.seq ?_
  refine TC.region ?_
  refine q rfl rfl (mv (v := .slice _ _ _) rfl) ?_
  refine q rfl rfl (len 5 1 rfl rfl) ?_
  refine q rfl rfl (gtr rfl rfl) ?_
  refine TL.nil (nt ?_)
  first | refine TC.condD rfl (fun hbig => ?_) (fun hbig => ?_) | refine TC.cond rfl (fun hbig => ?_) (fun hbig => ?_)
  · refine TC.seq ?_
    refine TC.region ?_
    refine q rfl rfl (asg (v := .bool _) rfl) ?_
    refine TL.nil (nt ?_)
    refine TC.ret (rt ?_)
    exact Ret.i () [_] ⟨rfl, trivial⟩ rfl trivial (ent_take 0 rfl (ent_nil _))
  · have hL : l.length ≤ 100 := by omega
    refine TC.skip (nt ?_)
    refine TC.seq ?_
    refine TC.region ?_
    refine e rfl ?_
    refine cl new_ok rfl (picked_nil _) trivial ?_
    intro a _
    change TL _ _ _ _ _ _ _ _ (sepL [_, _])
    refine e rfl ?_
    refine cl new_ok rfl (picked_nil _) trivial ?_
    intro c _
    change TL _ _ _ _ _ _ _ _ (sepL [_, _, _])
    refine q rfl rfl (asg (v := .pointer _) rfl) ?_
    refine q rfl rfl (asg (v := .pointer _) rfl) ?_
    refine TL.nil (nt ?_)
    refine TC.seq ?_
    refine TC.region ?_
    refine q rfl rfl (mv (v := .int _ _) rfl) ?_
    first | refine q rfl rfl (conv .u8 .i64 rfl rfl rfl (wi64 (by omega) (by omega))) ?_ | refine q rfl rfl (conv .u8 .i64 rfl rfl rfl rfl) ?_
    first | refine q rfl rfl (remI rfl rfl (by omega) (by omega)) ?_ | refine q rfl rfl (rem rfl rfl (by omega) rfl) ?_
    first | refine q rfl rfl (addI rfl rfl (by omega) (by omega)) ?_ | refine q rfl rfl (add rfl rfl rfl) ?_
    refine q rfl rfl (asg (v := .int _ _) rfl) ?_
    refine TL.nil (nt ?_)
    refine TC.seq ?_
    refine TC.seq ?_
    obtain ⟨kk, hkk⟩ : ∃ kk, 1 + g % 7 = kk := ⟨_, rfl⟩
    rw [hkk]
    have hk1 : 1 ≤ kk ∧ kk ≤ 7 := by omega
    refine TC.region ?_
    refine q rfl rfl (asg (v := .int _ _) rfl) ?_
    refine TL.nil (nt ?_)
    refine TC.block ?_
    refine TC.loop (ι := Nat × (List En × Int) × (List En × Int)) (fun s => CI kk s.1 s.2.1.1 s.2.2.1 ∧ QI s.2.1.1 0 s.2.1.2 s.1 ∧ QI s.2.2.1 0 s.2.2.2 s.1 ∧ s.1 ≤ l.length) (fun s => [(0, .slice ad l.length cap), (5, .pointer (some ⟨a, 0, none⟩)), (6, .pointer (some ⟨c, 0, none⟩)), (7, .int .i64 kk), (8, .int .i64 ((s.1 : Nat) : Int))]) (fun s => sepL [isAl a 0 s.2.1.2 s.2.1.1, isAl c 0 s.2.2.2 s.2.2.1, F]) (fun s => l.length - s.1) ⟨0, ([], 0), ([], 0)⟩ ⟨CI.start kk, QI.start, QI.start, Nat.zero_le _⟩ ⟨rfl, rfl, rfl, rfl, rfl, trivial⟩ (ent_take 1 rfl (ent_take 0 rfl (ent_take 0 rfl (ent_nil _)))) ?_
    rintro ⟨i, ⟨Q, tq⟩, ⟨Z, tz⟩⟩ ⟨hC, hQ, hZ, hi⟩ ρ0
    dsimp only [updL] at hC hQ hZ hi ⊢
    refine TC.seq ?_
    refine TC.seq ?_
    refine TC.region ?_
    refine q rfl rfl (mv (v := .int _ _) rfl) ?_
    refine q rfl rfl (mv (v := .slice _ _ _) rfl) ?_
    refine q rfl rfl (len 5 1 rfl rfl) ?_
    refine q rfl rfl (lss rfl rfl) ?_
    refine TL.nil (nt ?_)
    first | refine TC.condD rfl (fun hlt => ?_) (fun hlt => ?_) | refine TC.cond rfl (fun hlt => ?_) (fun hlt => ?_)
    · have hlt2 : i < l.length := by omega
      obtain ⟨x, hx⟩ : ∃ x, l[i]? = some x := ⟨l[i], List.getElem?_eq_getElem hlt2⟩
      have hpos : 0 < (nums .u8 l).length := by omega
      have hxr := hl x (List.mem_of_getElem? hx)
      have hQ2 := hQ.set (i : Int) (1 + x)
      have hZ2 := hZ.set (i : Int) (1 + x)
      have hsq := set_new (now := 0) (tn := tq) (ticks := 1 + x) hC.noQ (by omega) (by omega) (by omega)
      have hsz := set_new (now := 0) (tn := tz) (ticks := 1 + x) hC.noZ (by omega) (by omega) (by omega)
      rw [hsq] at hQ2; rw [hsz] at hZ2
      dsimp only at hQ2 hZ2
      obtain ⟨hC2, hC3⟩ := hC.both (u := 0 + (1 + x)) (t1 := tq + 1) (t2 := tz + 1) (by omega)
      refine TC.skip (nt ?_)
      refine TC.seq ?_
      refine TC.block ?_
      refine TC.seq ?_
      refine TC.region ?_
      refine q rfl rfl (mv (v := .pointer _) rfl) ?_
      refine q rfl rfl (mv (v := .int _ _) rfl) ?_
      refine q rfl rfl (mv (v := .slice _ _ _) rfl) ?_
      refine q rfl rfl (mv (v := .int _ _) rfl) ?_
      first | refine q rfl rfl (ixS 5 1 rfl rfl rfl (by omega) (by first | assumption | (simp [ints_length] <;> omega))) ?_ | refine q rfl rfl (ixJ 5 1 rfl rfl rfl (by omega) (by omega) (by first | assumption | (simp [ints_length] <;> omega))) ?_ | refine q rfl rfl (ix 5 1 rfl rfl rfl (by omega) (by omega) rfl) ?_
      first | refine q rfl rfl (ld rfl rfl rfl) ?_ | refine q rfl rfl (ldS rfl rfl (nums_get hx)) ?_ | refine q rfl rfl (ldS rfl rfl rfl) ?_
      first | refine q rfl rfl (conv .u8 .i64 rfl rfl rfl (wi64 (by omega) (by omega))) ?_ | refine q rfl rfl (conv .u8 .i64 rfl rfl rfl rfl) ?_
      first | refine q rfl rfl (addI rfl rfl (by omega) (by omega)) ?_ | refine q rfl rfl (add rfl rfl rfl) ?_
      refine e rfl ?_
      refine cl (set_ok a 0 tq Q (hQ.bd (by omega)) (i : Int) (1 + x)) rfl (picked_cons 0 rfl (picked_nil _)) trivial ?_
      intro _ _
      change TL _ _ _ _ _ _ _ _ (sepL [_, _, _])
      rw [hsq]
      dsimp only
      refine q rfl rfl (asg (v := .int _ _) rfl) ?_
      refine TL.nil (nt ?_)
      refine TC.seq ?_
      refine TC.region ?_
      refine q rfl rfl (asg (v := .int _ _) rfl) ?_
      refine TL.nil (nt ?_)
      refine TC.seq ?_
      refine TC.seq ?_
      refine TC.region ?_
      refine q rfl rfl (mv (v := .int _ _) rfl) ?_
      refine q rfl rfl (mv (v := .int _ _) rfl) ?_
      first | refine q rfl rfl (remI rfl rfl (by omega) (by omega)) ?_ | refine q rfl rfl (rem rfl rfl (by omega) rfl) ?_
      refine q rfl rfl (neI rfl rfl) ?_
      refine TL.nil (nt ?_)
      first | refine TC.condD rfl (fun hm => ?_) (fun hm => ?_) | refine TC.cond rfl (fun hm => ?_) (fun hm => ?_)
      · refine TC.region ?_
        refine q rfl rfl (mv (v := .pointer _) rfl) ?_
        refine q rfl rfl (mv (v := .int _ _) rfl) ?_
        refine q rfl rfl (mv (v := .slice _ _ _) rfl) ?_
        refine q rfl rfl (mv (v := .int _ _) rfl) ?_
        first | refine q rfl rfl (ixS 5 1 rfl rfl rfl (by omega) (by first | assumption | (simp [ints_length] <;> omega))) ?_ | refine q rfl rfl (ixJ 5 1 rfl rfl rfl (by omega) (by omega) (by first | assumption | (simp [ints_length] <;> omega))) ?_ | refine q rfl rfl (ix 5 1 rfl rfl rfl (by omega) (by omega) rfl) ?_
        first | refine q rfl rfl (ld rfl rfl rfl) ?_ | refine q rfl rfl (ldS rfl rfl (nums_get hx)) ?_ | refine q rfl rfl (ldS rfl rfl rfl) ?_
        first | refine q rfl rfl (conv .u8 .i64 rfl rfl rfl (wi64 (by omega) (by omega))) ?_ | refine q rfl rfl (conv .u8 .i64 rfl rfl rfl rfl) ?_
        first | refine q rfl rfl (addI rfl rfl (by omega) (by omega)) ?_ | refine q rfl rfl (add rfl rfl rfl) ?_
        refine e rfl ?_
        refine cl (set_ok c 0 tz Z (hZ.bd (by omega)) (i : Int) (1 + x)) rfl (picked_cons 1 rfl (picked_nil _)) trivial ?_
        intro _ _
        change TL _ _ _ _ _ _ _ _ (sepL [_, _, _])
        rw [hsz]
        dsimp only
        refine q rfl rfl (asg (v := .int _ _) rfl) ?_
        refine TL.nil (nt ?_)
        refine TC.seq ?_
        refine TC.region ?_
        refine q rfl rfl (mv (v := .int _ _) rfl) ?_
        refine q rfl rfl (neI rfl rfl) ?_
        refine q rfl rfl (mv (v := .bool _) rfl) ?_
        refine TL.known 54 rfl (c := false) (by decide) ?_
        refine qg rfl rfl rfl (mv (v := .int _ _) rfl) ?_
        refine qg rfl rfl rfl (neI rfl rfl) ?_
        first | refine q rfl rfl (pkT rfl rfl) ?_ | refine q rfl rfl (pkF rfl rfl) ?_
        refine TL.nil (nt ?_)
        refine TC.condD rfl (fun hc1 => absurd hc1 (by decide)) (fun hc1 => ?_)
        refine TC.skip (nb (nt ?_))
        refine TC.region ?_
        refine q rfl rfl (mv (v := .int _ _) rfl) ?_
        first | refine q rfl rfl (addI rfl rfl (by omega) (by omega)) ?_ | refine q rfl rfl (add rfl rfl rfl) ?_
        refine q rfl rfl (asg (v := .int _ _) rfl) ?_
        refine TL.nil (nt ?_)
        exact ⟨rfl, ⟨i + 1, (_, _), (_, _)⟩, ⟨hC2 hm, hQ2, hZ2, by dsimp only; omega⟩, (by dsimp only; omega), ⟨rfl, rfl, rfl, rfl, rfl, trivial⟩, (ent_take 1 rfl (ent_take 0 rfl (ent_take 0 rfl (ent_nil _))))⟩
      · refine TC.skip (nt ?_)
        refine TC.seq ?_
        refine TC.region ?_
        refine q rfl rfl (mv (v := .int _ _) rfl) ?_
        refine q rfl rfl (neI rfl rfl) ?_
        refine q rfl rfl (mv (v := .bool _) rfl) ?_
        refine TL.known 54 rfl (c := false) (by decide) ?_
        refine qg rfl rfl rfl (mv (v := .int _ _) rfl) ?_
        refine qg rfl rfl rfl (neI rfl rfl) ?_
        first | refine q rfl rfl (pkT rfl rfl) ?_ | refine q rfl rfl (pkF rfl rfl) ?_
        refine TL.nil (nt ?_)
        refine TC.condD rfl (fun hc2 => absurd hc2 (by decide)) (fun hc2 => ?_)
        refine TC.skip (nb (nt ?_))
        refine TC.region ?_
        refine q rfl rfl (mv (v := .int _ _) rfl) ?_
        first | refine q rfl rfl (addI rfl rfl (by omega) (by omega)) ?_ | refine q rfl rfl (add rfl rfl rfl) ?_
        refine q rfl rfl (asg (v := .int _ _) rfl) ?_
        refine TL.nil (nt ?_)
        exact ⟨rfl, ⟨i + 1, (_, _), (Z, tz)⟩, ⟨hC3 (Decidable.not_not.1 hm), hQ2, hZ.next (by dsimp only; omega), by dsimp only; omega⟩, (by dsimp only; omega), ⟨rfl, rfl, rfl, rfl, rfl, trivial⟩, (ent_take 0 rfl (ent_take 0 rfl (ent_take 0 rfl (ent_nil _))))⟩
    · obtain rfl : i = l.length := by omega
      have hJ := CJ.start hC
      refine TC.exit (et (et (eb (nt ?_))))
      refine TC.seq ?_
      refine TC.seq ?_
      refine TC.region ?_
      refine q rfl rfl (mv (v := .slice _ _ _) rfl) ?_
      refine q rfl rfl (len 5 1 rfl rfl) ?_
      first | refine q rfl rfl (subI rfl rfl (by omega) (by omega)) ?_ | refine q rfl rfl (sub rfl rfl rfl) ?_
      refine q rfl rfl (asg (v := .int _ _) rfl) ?_
      refine TL.nil (nt ?_)
      refine TC.block ?_
      refine TC.loop (ι := Nat × List En) (fun s => CJ kk Q s.1 s.2 ∧ QI s.2 0 tq l.length ∧ s.1 ≤ l.length) (fun s => [(5, .pointer (some ⟨a, 0, none⟩)), (6, .pointer (some ⟨c, 0, none⟩)), (7, .int .i64 kk), (11, .int .i64 ((s.1 : Nat) - 1 : Int))]) (fun s => sepL [isAl a 0 tq s.2, isAl c 0 tz Z, F]) (fun s => s.1) ⟨l.length, Q⟩ ⟨hJ, hQ, Nat.le_refl _⟩ ⟨rfl, rfl, rfl, rfl, trivial⟩ (ent_take 0 rfl (ent_take 0 rfl (ent_take 0 rfl (ent_nil _)))) ?_
      rintro ⟨j, Y⟩ ⟨hJ1, hY, hj⟩ ρ1
      dsimp only [updL] at hJ1 hY hj ⊢
      refine TC.seq ?_
      refine TC.seq ?_
      refine TC.region ?_
      refine q rfl rfl (mv (v := .int _ _) rfl) ?_
      refine q rfl rfl (geq rfl rfl) ?_
      refine TL.nil (nt ?_)
      first | refine TC.condD rfl (fun hge => ?_) (fun hge => ?_) | refine TC.cond rfl (fun hge => ?_) (fun hge => ?_)
      · obtain ⟨j, rfl⟩ : ∃ z, j = z + 1 := ⟨j - 1, by omega⟩
        rw [show (((j + 1 : Nat) : Int) - 1) = (j : Int) from by omega]
        have hh := CJ.has hC hJ1 (by omega)
        have hol := off_length hh hJ1.nd
        refine TC.skip (nt ?_)
        refine TC.seq ?_
        refine TC.block ?_
        refine TC.seq ?_
        refine TC.region ?_
        refine q rfl rfl (mv (v := .int _ _) rfl) ?_
        refine q rfl rfl (mv (v := .int _ _) rfl) ?_
        first | refine q rfl rfl (remI rfl rfl (by omega) (by omega)) ?_ | refine q rfl rfl (rem rfl rfl (by omega) rfl) ?_
        refine q rfl rfl (eqI rfl rfl) ?_
        refine q rfl rfl (mv (v := .bool _) rfl) ?_
        refine TL.split 69 rfl (fun hm => ?_) (fun hm => ?_)
        · have hm := of_decide_eq_true hm
          refine qg rfl rfl rfl (mv (v := .pointer _) rfl) ?_
          refine qg rfl rfl rfl (mv (v := .int _ _) rfl) ?_
          refine eg rfl rfl ?_
          refine bs (cs := [.int _ _]) rfl ?_
          intro b1
          refine eg rfl rfl ?_
          refine cl (clear_ok a 0 tq Y (hY.bd (by omega)) _ _ [(j : Int)] (by simp)) rfl PkL.p ⟨_, RdSI.rd⟩ ?_
          intro _ _
          change TL _ _ _ _ _ _ _ _ (sepL [_, _, _, _])
          rw [clr_one]
          have hY2 := hY.clr [(j : Int)]
          rw [clr_one] at hY2
          refine qg rfl rfl rfl (neI rfl rfl) ?_
          first | refine q rfl rfl (pkT rfl rfl) ?_ | refine q rfl rfl (pkF rfl rfl) ?_
          refine TL.nil (nt ?_)
          refine TC.condD rfl (fun hc3 => absurd hc3 (by omega)) (fun hc3 => ?_)
          refine TC.skip (nb (nt ?_))
          refine TC.region ?_
          refine q rfl rfl (mv (v := .int _ _) rfl) ?_
          first | refine q rfl rfl (subI rfl rfl (by omega) (by omega)) ?_ | refine q rfl rfl (sub rfl rfl rfl) ?_
          refine q rfl rfl (asg (v := .int _ _) rfl) ?_
          refine TL.nil (nt ?_)
          exact ⟨rfl, ⟨j, offA Y j⟩, ⟨hJ1.cut hm, hY2, by dsimp only; omega⟩, (by dsimp only; omega), ⟨rfl, rfl, rfl, rfl, trivial⟩, (ent_take 0 rfl (ent_take 1 rfl (ent_take 1 rfl (ent_nil _))))⟩
        · have hm := of_decide_eq_false hm
          refine qs rfl rfl ?_
          refine qs rfl rfl ?_
          refine qs rfl rfl ?_
          refine qs rfl rfl ?_
          refine qs rfl rfl ?_
          first | refine q rfl rfl (pkT rfl rfl) ?_ | refine q rfl rfl (pkF rfl rfl) ?_
          refine TL.nil (nt ?_)
          refine TC.condF rfl ?_
          refine TC.skip (nb (nt ?_))
          refine TC.region ?_
          refine q rfl rfl (mv (v := .int _ _) rfl) ?_
          first | refine q rfl rfl (subI rfl rfl (by omega) (by omega)) ?_ | refine q rfl rfl (sub rfl rfl rfl) ?_
          refine q rfl rfl (asg (v := .int _ _) rfl) ?_
          refine TL.nil (nt ?_)
          exact ⟨rfl, ⟨j, Y⟩, ⟨hJ1.keep hm, hY, by dsimp only; omega⟩, (by dsimp only; omega), ⟨rfl, rfl, rfl, rfl, trivial⟩, (ent_take 0 rfl (ent_take 0 rfl (ent_take 0 rfl (ent_nil _))))⟩
      · obtain rfl : j = 0 := by omega
        obtain ⟨hK, hat⟩ := CJ.done hC hJ1
        refine TC.exit (et (et (eb (nt ?_))))
        refine TC.seq ?_
        refine TC.seq ?_
        refine TC.region ?_
        refine q rfl rfl (asg (v := .int _ _) rfl) ?_
        refine TL.nil (nt ?_)
        refine TC.block ?_
        refine TC.loop (ι := Nat × List En × List En) (fun s => kE s.2.1 = kE s.2.2 ∧ (∀ e ∈ s.2.1, e.at_ ≤ 256) ∧ QI s.2.1 s.1 tq (l.length + s.1) ∧ QI s.2.2 s.1 tz (l.length + s.1) ∧ s.1 ≤ 260) (fun s => [(5, .pointer (some ⟨a, 0, none⟩)), (6, .pointer (some ⟨c, 0, none⟩)), (12, .int .i64 ((s.1 : Nat) : Int))]) (fun s => sepL [isAl a s.1 tq s.2.1, isAl c s.1 tz s.2.2, F]) (fun s => 260 - s.1) ⟨0, Y, Z⟩ ⟨hK, hat, hY, hZ, by omega⟩ ⟨rfl, rfl, rfl, trivial⟩ (ent_take 0 rfl (ent_take 0 rfl (ent_take 0 rfl (ent_nil _)))) ?_
        rintro ⟨n, U, V⟩ ⟨hK1, hU, hq1, hq2, hn⟩ ρ2
        dsimp only [updL] at hK1 hU hq1 hq2 hn ⊢
        refine TC.seq ?_
        refine TC.seq ?_
        refine TC.region ?_
        refine q rfl rfl (mv (v := .int _ _) rfl) ?_
        refine q rfl rfl (lss rfl rfl) ?_
        refine TL.nil (nt ?_)
        first | refine TC.condD rfl (fun hlt => ?_) (fun hlt => ?_) | refine TC.cond rfl (fun hlt => ?_) (fun hlt => ?_)
        · have hl2 := kE_length U
          rw [hK1, kE_length] at hl2
          have hdu := kE_due ((n : Int) + 1) U
          rw [hK1, ← kE_due] at hdu
          have hre := kE_rest ((n : Int) + 1) U
          rw [hK1, ← kE_rest] at hre
          have hdl := due_le ((n : Int) + 1) V
          have hlv := hq2.len
          refine TC.skip (nt ?_)
          refine TC.seq ?_
          refine TC.block ?_
          refine TC.seq ?_
          refine TC.region ?_
          refine q rfl rfl (mv (v := .pointer _) rfl) ?_
          refine e rfl ?_
          refine cl (next_ok a n tq U (hq1.bd (by omega)) (hq1.at1 (by omega))) rfl PkL.p trivial ?_
          intro _ _
          change TL _ _ _ _ _ _ _ _ (sepL [_, _, _])
          refine q rfl rfl (mv (v := .pointer _) rfl) ?_
          refine e rfl ?_
          refine cl (next_ok c n tz V (hq2.bd (by omega)) (hq2.at1 (by omega))) rfl PkL.p trivial ?_
          intro _ _
          change TL _ _ _ _ _ _ _ _ (sepL [_, _, _])
          rw [kE_next hK1]
          refine q rfl rfl (neI rfl rfl) ?_
          refine q rfl rfl (mv (v := .bool _) rfl) ?_
          refine TL.known 85 rfl (c := false) (by simp) ?_
          refine qg rfl rfl rfl (mv (v := .pointer _) rfl) ?_
          refine eg rfl rfl ?_
          refine cl (len_ok a n tq U) rfl PkL.p trivial ?_
          intro _ _
          change TL _ _ _ _ _ _ _ _ (sepL [_, _, _])
          refine qg rfl rfl rfl (mv (v := .pointer _) rfl) ?_
          refine eg rfl rfl ?_
          refine cl (len_ok c n tz V) rfl PkL.p trivial ?_
          intro _ _
          change TL _ _ _ _ _ _ _ _ (sepL [_, _, _])
          refine qg rfl rfl rfl (neI rfl rfl) ?_
          first | refine q rfl rfl (pkT rfl rfl) ?_ | refine q rfl rfl (pkF rfl rfl) ?_
          refine q rfl rfl (mv (v := .bool _) rfl) ?_
          refine TL.known 92 rfl (c := false) (by simp; omega) ?_
          refine qg rfl rfl rfl (mv (v := .pointer _) rfl) ?_
          refine eg rfl rfl ?_
          refine cl (tick_ok a n tq U (hq1.bd (by omega)) (hq1.at2 (by omega))) rfl PkL.p trivial ?_
          intro y1 _
          change TL _ _ _ _ _ _ _ _ (sepL [_, _, _, _])
          refine qg rfl rfl rfl (mv (v := .pointer _) rfl) ?_
          refine eg rfl rfl ?_
          refine cl (tick_ok c n tz V (hq2.bd (by omega)) (hq2.at2 (by omega))) rfl PkL.p trivial ?_
          intro y2 _
          change TL _ _ _ _ _ _ _ _ (sepL [_, _, _, _, _])
          rw [hdu]
          refine eg rfl rfl ?_
          refine cl (same_ok y1.1 _ (ids (dueA ((n : Int) + 1) V)) y2.1 _ (ids (dueA ((n : Int) + 1) V)) (by omega)) rfl (picked_nil _) ⟨⟨_, RdSI.rd (ad := y1.1)⟩, ⟨_, RdSI.rd (ad := y2.1)⟩⟩ ?_
          intro _ _
          change TL _ _ _ _ _ _ _ _ (sepL [_, _, _, _, _])
          rw [decide_eq_true rfl]
          first | refine qg rfl rfl rfl (notD rfl) ?_ | refine qg rfl rfl rfl (notB rfl) ?_
          first | refine q rfl rfl (pkT rfl rfl) ?_ | refine q rfl rfl (pkF rfl rfl) ?_
          refine TL.nil (nt ?_)
          refine TC.condF rfl ?_
          refine TC.skip (nb (nt ?_))
          refine TC.region ?_
          refine q rfl rfl (mv (v := .int _ _) rfl) ?_
          first | refine q rfl rfl (addI rfl rfl (by omega) (by omega)) ?_ | refine q rfl rfl (add rfl rfl rfl) ?_
          refine q rfl rfl (asg (v := .int _ _) rfl) ?_
          refine TL.nil (nt ?_)
          exact ⟨rfl, ⟨n + 1, restA ((n : Int) + 1) U, restA ((n : Int) + 1) V⟩, ⟨hre, fun e he => hU e (List.mem_filter.1 he).1, hq1.tick, hq2.tick, by dsimp only; omega⟩, (by dsimp only; omega), ⟨rfl, rfl, rfl, trivial⟩, (ent_take 3 rfl (ent_take 1 rfl (ent_take 2 rfl (ent_nil _))))⟩
        · obtain rfl : n = 260 := by omega
          have hU0 : U.length = 0 := by
            rcases U with _ | ⟨u, U⟩
            · rfl
            · have h1 := hU u (by simp); have h2 := hq1.rg u (by simp); omega
          refine TC.exit (et (et (eb (nt ?_))))
          refine TC.seq ?_
          refine TC.region ?_
          refine q rfl rfl (mv (v := .pointer _) rfl) ?_
          refine e rfl ?_
          refine cl (len_ok a _ tq U) rfl (picked_cons 0 rfl (picked_nil _)) trivial ?_
          intro _ _
          change TL _ _ _ _ _ _ _ _ (sepL [_, _, _])
          refine q rfl rfl (eqI rfl rfl) ?_
          refine q rfl rfl (asg (v := .bool _) rfl) ?_
          refine TL.nil (nt ?_)
          refine TC.ret ?_
          exact Ret.i () [_] ⟨rfl, trivial⟩ (congrArg Value.bool (decide_eq_true (by omega))) trivial (ent_take 2 rfl (ent_nil _))

end Go.Proofs.Ytdikkmgcjhllaaa
