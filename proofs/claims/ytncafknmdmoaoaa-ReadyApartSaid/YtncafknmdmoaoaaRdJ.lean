/-
  Proved here: what functions of this program compute, each as a contract over symbolic states, under the premises that each theorem names (most lines printed by a program of the prover).
-/
import Derived.Test.YtncafknmdmoaoaaRdF
namespace Go.Proofs.Ytncafknmdmoaoaa
open Go Go.QM
def hi (S : List Th) : List Th := S.filter fun t => decide (t.prio ≠ 0)
def lo (S : List Th) : List Th := S.filter fun t => decide (¬ t.prio ≠ 0)
structure AP (S Z : List Th) (L : Nat) : Prop where
  h : hi Z = S
  l : (lo Z).length = L
  rl : ∀ t ∈ Z, t.prio = 0 → 2000000 ≤ t.id
  rh : ∀ t ∈ S, t.id < 2000000
theorem hi_lo (Z : List Th) : Z.length = (hi Z).length + (lo Z).length := by
  induction Z with
  | nil => rfl
  | cons t Z ih =>
    simp only [hi, lo] at ih ⊢
    by_cases e : t.prio ≠ 0
    · rw [List.filter_cons_of_pos (by simpa using e), List.filter_cons_of_neg (by simpa using e)]; simp only [List.length_cons]; omega
    · rw [List.filter_cons_of_neg (by simpa using e), List.filter_cons_of_pos (by simpa using e)]; simp only [List.length_cons]; omega
theorem AP.has {S Z : List Th} {L : Nat} (h : AP S Z L) {x : Int} (hx : x < 2000000) : hasS Z x ↔ hasS S x := by
  rw [← h.h]
  constructor
  · rintro ⟨t, ht, rfl⟩
    refine ⟨t, List.mem_filter.2 ⟨ht, ?_⟩, rfl⟩
    simp only [decide_eq_true_eq]
    intro e; have := h.rl t ht e; omega
  · rintro ⟨t, ht, rfl⟩
    exact ⟨t, (List.mem_filter.1 ht).1, rfl⟩
theorem hi_off (Z : List Th) (x : Int) : hi (offS Z x) = offS (hi Z) x := by
  rw [hi, hi, offS, offS, List.filter_filter, List.filter_filter]
  exact List.filter_congr fun t _ => Bool.and_comm _ _
theorem AP.lo_off {S Z : List Th} {L : Nat} (h : AP S Z L) {x : Int} (hx : x < 2000000) : lo (offS Z x) = lo Z := by
  rw [lo, lo, offS, List.filter_filter]
  refine List.filter_congr fun t ht => ?_
  rw [Bool.eq_iff_iff]
  simp only [Bool.and_eq_true, decide_eq_true_eq]
  constructor
  · exact fun h1 => h1.1
  · intro h1
    refine ⟨h1, fun e => ?_⟩
    have := h.rl t ht (by omega); omega
theorem AP.off {S Z : List Th} {L : Nat} (h : AP S Z L) {x : Int} (hx : x < 2000000) : AP (offS S x) (offS Z x) L where
  h := by rw [hi_off, h.h]
  l := by rw [h.lo_off hx, h.l]
  rl := fun t ht => h.rl t (List.mem_filter.1 ht).1
  rh := fun t ht => h.rh t (List.mem_filter.1 ht).1
theorem AP.app {S Z : List Th} {L : Nat} (h : AP S Z L) {t : Th} (hp : t.prio ≠ 0) (hx : t.id < 2000000) : AP (S ++ [t]) (Z ++ [t]) L where
  h := by rw [hi, List.filter_append, List.filter_cons_of_pos (by simpa using hp)]; have := h.h; rw [hi] at this; rw [this]; rfl
  l := by rw [lo, List.filter_append, List.filter_cons_of_neg (by simpa using hp)]; have := h.l; rw [lo] at this; simpa using this
  rl := fun u hu => by
    rcases List.mem_append.1 hu with hu | hu
    · exact h.rl u hu
    · rw [List.mem_singleton.1 hu]; exact fun e => absurd e hp
  rh := fun u hu => by
    rcases List.mem_append.1 hu with hu | hu
    · exact h.rh u hu
    · rw [List.mem_singleton.1 hu]; exact hx
theorem AP.setL {S Z : List Th} {L : Nat} (h : AP S Z L) (x v : Int) : AP (setL S x v) (setL Z x v) L where
  h := by
    rw [← h.h, hi, hi, Go.Proofs.Ytncafknmdmoaoaa.setL, Go.Proofs.Ytncafknmdmoaoaa.setL, List.filter_map]
    congr 1
    exact List.filter_congr fun t _ => by simp only [Function.comp_apply]; split <;> rfl
  l := by
    rw [← h.l, lo, lo, Go.Proofs.Ytncafknmdmoaoaa.setL, List.filter_map, List.length_map]
    congr 1
    exact List.filter_congr fun t _ => by simp only [Function.comp_apply]; split <;> rfl
  rl := fun u hu => by
    obtain ⟨t, ht, rfl⟩ := List.mem_map.1 hu
    have := h.rl t ht
    split
    · dsimp only; exact this
    · exact this
  rh := fun u hu => by
    obtain ⟨t, ht, rfl⟩ := List.mem_map.1 hu
    have := h.rh t ht
    split
    · dsimp only; exact this
    · exact this
theorem AP.top {S Z : List Th} {L : Nat} (h : AP S Z L) (hp : ∀ t ∈ Z, 0 ≤ t.prio) {t : Th} (ht : topS S = some t) : topS Z = some t := by
  obtain ⟨hm, _⟩ := top_mem ht
  rw [← h.h] at hm
  obtain ⟨hz, hne⟩ := List.mem_filter.1 hm
  have hne : t.prio ≠ 0 := by simpa using hne
  have hpos := hp t hz
  rw [← ht, ← h.h, topS, topS, hi, List.find?_filter]
  refine top_row.find_congr fun u hu => ?_
  rw [Bool.eq_iff_iff]
  simp only [Bool.and_eq_true, List.all_eq_true, decide_eq_true_eq, List.mem_filter, Bool.decide_and, Bool.decide_eq_true]
  constructor
  · intro h1
    exact ⟨by have := h1 t hz; omega, fun w hw => h1 w hw.1⟩
  · rintro ⟨h1, h2⟩ w hw
    by_cases e : w.prio = 0
    · have := hp u hu; omega
    · exact h2 w ⟨hw, e⟩
theorem AP.lows {Z : List Th} {L : Nat} (h : AP [] Z L) : ∀ t ∈ Z, t.prio = 0 := fun t ht => by
  have h1 := h.h
  rw [hi, List.filter_eq_nil_iff] at h1
  simpa using h1 t ht
theorem AP.of_low {Z : List Th} {L : Nat} (h : AP [] Z L) {Y : List Th} (h0 : ∀ t ∈ Y, t.prio = 0) (hid : ∀ t ∈ Y, hasS Z t.id) (hl : Y.length = Z.length) : AP [] Y L where
  h := List.filter_eq_nil_iff.2 fun t ht => by simp [h0 t ht]
  l := by
    rw [lo, List.filter_eq_self.2 fun t ht => by simp [h0 t ht], hl]
    have h1 := hi_lo Z
    rw [h.h, h.l] at h1
    simpa using h1
  rl := fun t ht _ => by
    obtain ⟨u, hu, e⟩ := hid t ht
    have := h.rl u hu (h.lows u hu); omega
  rh := fun t ht => by cases ht
theorem top_nil {S : List Th} (h : RInv S) (ht : topS S = none) : S = [] := by
  rcases Classical.em (S = []) with h1 | h1
  · exact h1
  · exfalso
    apply h1
    refine top_none h fun x hx => ?_
    have key : ∀ n x, n + x = 8 → rowA S x = [] := by
      intro n
      induction n using Nat.strongRecOn with
      | _ n ih =>
        intro x hx
        cases hr : rowA S x with
        | nil => rfl
        | cons y rest =>
          by_cases hn : n = 0
          · have hx8 : x = 8 := by omega
            have hm : y ∈ rowA S x := by rw [hr]; simp
            obtain ⟨t, ht1, ht2, _⟩ := rowA_mem.1 hm
            have := h.rg t ht1; omega
          · obtain ⟨t, h2, _⟩ := top_row h (fun z hz1 hz2 => ih (8 - z) (by omega) z (by omega)) hr
            rw [ht] at h2; cases h2
    exact key (8 - x) x (by omega)
theorem AP.act {S Z : List Th} {L N M : Nat} (h : AP S Z L) (hS : RJ S N) (hZ : RJ Z M) {t : RAct} (hp : t.prio ≠ 0) (hx : t.id < 2000000) (hxs : t.kind = 1 → t.xs = [t.id]) : AP (doS S t) (doS Z t) L := by
  have hpz : ∀ u ∈ Z, 0 ≤ u.prio := fun u hu => (hZ.inv.rg u hu).2.1.1
  rw [doS, doS]
  split
  · rw [addS, addS]
    split
    · exact h
    · rename_i h1 h2
      by_cases hh : hasS S t.id
      · rw [if_pos hh, if_pos ((h.has hx).2 hh)]; exact h
      · rw [if_neg hh, if_neg fun h3 => hh ((h.has hx).1 h3)]
        exact h.app hp hx
  · split
    · rename_i h1
      rw [hxs h1]; exact h.off hx
    · split
      · rw [tickS, tickS]
        cases ht : topS S with
        | none =>
          dsimp only
          have hS0 := top_nil hS.inv ht
          subst hS0
          cases hz : topS Z with
          | none => exact h
          | some u =>
            have hum := (top_mem hz).1
            dsimp only
            split
            · refine h.of_low (fun w hw => ?_) (fun w hw => ?_) (rnd_len hZ.inv.nd hum)
              · rcases List.mem_append.1 hw with hw | hw
                · exact h.lows w (List.mem_filter.1 hw).1
                · rw [List.mem_singleton.1 hw]; exact h.lows u hum
              · exact (rnd_has hum w.id).1 ⟨w, hw, rfl⟩
            · refine h.of_low (fun w hw => ?_) (fun w hw => ?_) (setL_len _ _ _)
              · obtain ⟨x, hx1, rfl⟩ := List.mem_map.1 hw
                have := h.lows x hx1
                split <;> exact this
              · exact (setL_has Z u.id (u.left - 1) w.id).1 ⟨w, hw, rfl⟩
        | some u =>
          rw [h.top hpz ht]
          dsimp only
          have hum := (top_mem ht).1
          split
          · exact (h.off (h.rh u hum)).app (t := ⟨u.id, u.prio, u.whole, u.whole⟩) (by
              have := hum; rw [← h.h] at this; simpa using (List.mem_filter.1 this).2) (h.rh u hum)
          · exact h.setL _ _
      · split
        · rw [yieldS, yieldS]
          cases ht : topS S with
          | none =>
            dsimp only
            have hS0 := top_nil hS.inv ht
            subst hS0
            cases hz : topS Z with
            | none => exact h
            | some u =>
              have hum := (top_mem hz).1
              dsimp only
              refine h.of_low (fun w hw => ?_) (fun w hw => ?_) (rnd_len hZ.inv.nd hum)
              · rcases List.mem_append.1 hw with hw | hw
                · exact h.lows w (List.mem_filter.1 hw).1
                · rw [List.mem_singleton.1 hw]; exact h.lows u hum
              · exact (rnd_has hum w.id).1 ⟨w, hw, rfl⟩
          | some u =>
            rw [h.top hpz ht]
            dsimp only
            have hum := (top_mem ht).1
            exact (h.off (h.rh u hum)).app (t := ⟨u.id, u.prio, u.whole, u.whole⟩) (by
              have := hum; rw [← h.h] at this; simpa using (List.mem_filter.1 this).2) (h.rh u hum)
        · exact h
/-- The low ones. -/
def zL (k : Nat) : List Th := (List.range k).map fun i : Nat => ⟨2000000 + (i : Int), 0, 1 + (i : Int) % 16, 1 + (i : Int) % 16⟩
theorem zL_snoc (k : Nat) : zL k ++ [⟨2000000 + (k : Int), 0, 1 + (k : Int) % 16, 1 + (k : Int) % 16⟩] = zL (k + 1) := by simp [zL, List.range_succ]
theorem zL_no (k : Nat) : ¬ hasS (zL k) (2000000 + (k : Int)) := by
  rintro ⟨t, ht, h⟩
  obtain ⟨j, hj, rfl⟩ := List.mem_map.1 ht
  have := List.mem_range.1 hj
  dsimp only at h; omega
theorem zL_AP (k : Nat) : AP [] (zL k) k where
  h := List.filter_eq_nil_iff.2 fun t ht => by obtain ⟨j, _, rfl⟩ := List.mem_map.1 ht; simp
  l := by rw [lo, List.filter_eq_self.2 fun t ht => by obtain ⟨j, _, rfl⟩ := List.mem_map.1 ht; simp]; simp [zL]
  rl := fun t ht _ => by obtain ⟨j, _, rfl⟩ := List.mem_map.1 ht; dsimp only; omega
  rh := fun t ht => by cases ht
theorem run_prio {Z : List Th} (h : RInv Z) (h0 : ∀ t ∈ Z, t.prio = 0) : prioS Z (runS Z) ≤ 0 := by
  cases ht : topS Z with
  | none => rw [runS, ht]; dsimp only; rw [prioS, findS_no (not_neg h)]; decide
  | some t =>
    rw [runS, ht]
    dsimp only
    have hm := (top_mem ht).1
    rw [prio_of h.nd hm, h0 t hm]; exact Int.le_refl _

set_option maxHeartbeats 2000000 in
theorem apart_ok (ad : Option Addr) (l : List RAct) (cap : Nat) (d : Int) (hd : 0 ≤ d ∧ d ≤ 255) : FSpec Try.prog 8 [.slice ad l.length cap, .int .u8 d] (fun F => (∃ E, RdS F E ad (ractsC l)) ∧ ∀ t ∈ l, ∃ E, RdS F E t.ad (ints t.xs)) [] (fun _ : Unit => .bool true) (fun _ => True) (fun _ => []) := by
  refine FSpec.intro (rs := [.tmp 4]) (by kernel_rfl) Try.func8 rfl Try.ntmps8 (by rfl) rfl ?_
  intro F ⟨⟨E, hF⟩, hin⟩
  change TC _ _ _ _ _ _ _ (sepL [_])
  haveI : RdSI F ad E (ractsC l) := ⟨hF⟩
  refine TC.seq ?_
  refine TC.region ?_
  refine q rfl rfl (asg (v := .bool _) rfl) ?_
  refine TL.nil (nt ?_)
  refine TC.seq ?_
  refine TC.seq ?_
  refine TC.region ?_
  refine e rfl ?_
  refine cl alive_ok rfl (picked_nil _) trivial ?_
  intro _ _
  change TL _ _ _ _ _ _ _ _ (sepL [_])
  first | refine q rfl rfl (notD rfl) ?_ | refine q rfl rfl (notB rfl) ?_
  refine TL.nil (nt ?_)
  refine TC.condF rfl ?_
  refine TC.skip (nt ?_)
  refine TC.seq ?_
  refine TC.seq ?_
  refine TC.region ?_
  refine q rfl rfl (mv (v := .slice _ _ _) rfl) ?_
  refine e rfl ?_
  refine cl (fits_ok ad l cap) rfl (picked_nil _) ⟨_, RdSI.rd (ad := ad)⟩ ?_
  intro _ _
  change TL _ _ _ _ _ _ _ _ (sepL [_])
  by_cases hfit : fitsL l
  · rw [decide_eq_true hfit]
    first | refine q rfl rfl (notD rfl) ?_ | refine q rfl rfl (notB rfl) ?_
    refine TL.nil (nt ?_)
    refine TC.condF rfl ?_
    refine TC.skip (nt ?_)
    refine TC.seq ?_
    refine TC.region ?_
    refine e rfl ?_
    refine cl rnew_ok rfl (picked_nil _) trivial ?_
    intro a _
    change TL _ _ _ _ _ _ _ _ (sepL [_, _])
    refine e rfl ?_
    refine cl rnew_ok rfl (picked_nil _) trivial ?_
    intro c _
    change TL _ _ _ _ _ _ _ _ (sepL [_, _, _])
    refine q rfl rfl (asg (v := .pointer _) rfl) ?_
    refine q rfl rfl (asg (v := .pointer _) rfl) ?_
    refine TL.nil (nt ?_)
    refine TC.seq ?_
    refine TC.seq ?_
    refine TC.region ?_
    refine q rfl rfl (asg (v := .int _ _) rfl) ?_
    refine TL.nil (nt ?_)
    refine TC.block ?_
    obtain ⟨K, hK⟩ : ∃ K : Nat, d % 20 = K := ⟨(d % 20).toNat, by omega⟩
    have hK20 : K < 20 := by omega
    refine TC.loop (ι := Nat) (fun k => k ≤ K ∧ RJ (zL k) k) (fun k => [(0, .slice ad l.length cap), (1, .int .u8 d), (5, .pointer (some ⟨a, 0, none⟩)), (6, .pointer (some ⟨c, 0, none⟩)), (7, .int .i64 (k : Int))]) (fun k => sepL [isQ c (zL k), isQ a [], F]) (fun k => K - k) 0 ⟨Nat.zero_le _, RJ.nil 0⟩ ⟨rfl, rfl, rfl, rfl, rfl, trivial⟩ (ent_take 0 rfl (ent_take 0 rfl (ent_take 0 rfl (ent_nil _)))) ?_
    rintro k ⟨hk, hJ⟩ ρ0
    dsimp only [updL] at hk hJ ⊢
    refine TC.seq ?_
    refine TC.seq ?_
    refine TC.region ?_
    refine q rfl rfl (mv (v := .int _ _) rfl) ?_
    refine q rfl rfl (mv (v := .int _ _) rfl) ?_
    first | refine q rfl rfl (conv .u8 .i64 rfl rfl rfl (wi64 (by omega) (by omega))) ?_ | refine q rfl rfl (conv .u8 .i64 rfl rfl rfl rfl) ?_
    first | refine q rfl rfl (remI rfl rfl (by omega) (by omega)) ?_ | refine q rfl rfl (rem rfl rfl (by omega) rfl) ?_
    rw [hK]
    refine q rfl rfl (lss rfl rfl) ?_
    refine TL.nil (nt ?_)
    first | refine TC.condD rfl (fun hkK => ?_) (fun hkK => ?_) | refine TC.cond rfl (fun hkK => ?_) (fun hkK => ?_)
    · have hv : addS (zL k) (2000000 + (k : Int)) 0 (1 + (k : Int) % 16) = (zL (k + 1), 0) := by rw [addS, if_neg (by omega), if_neg (zL_no k), zL_snoc]
      have hJ2 := hJ.add (2000000 + (k : Int)) 0 (1 + (k : Int) % 16)
      rw [hv] at hJ2
      have hlen := hJ.len
      refine TC.skip (nt ?_)
      refine TC.seq ?_
      refine TC.block ?_
      refine TC.seq ?_
      refine TC.region ?_
      refine q rfl rfl (mv (v := .pointer _) rfl) ?_
      refine q rfl rfl (mv (v := .int _ _) rfl) ?_
      first | refine q rfl rfl (addI rfl rfl (by omega) (by omega)) ?_ | refine q rfl rfl (add rfl rfl rfl) ?_
      refine q rfl rfl (mv (v := .int _ _) rfl) ?_
      first | refine q rfl rfl (remI rfl rfl (by omega) (by omega)) ?_ | refine q rfl rfl (rem rfl rfl (by omega) rfl) ?_
      first | refine q rfl rfl (addI rfl rfl (by omega) (by omega)) ?_ | refine q rfl rfl (add rfl rfl rfl) ?_
      refine e rfl ?_
      refine cl (add_ok c (zL k) (by omega) (2000000 + (k : Int)) 0 (1 + (k : Int) % 16)) rfl (picked_cons 0 rfl (picked_nil _)) trivial ?_
      intro _ _
      change TL _ _ _ _ _ _ _ _ (sepL [_, _, _])
      rw [hv]
      dsimp only
      refine q rfl rfl (neI rfl rfl) ?_
      refine TL.nil (nt ?_)
      refine TC.condD rfl (fun hc1 => absurd hc1 (by decide)) (fun hc1 => ?_)
      refine TC.skip (nb (nt ?_))
      refine TC.region ?_
      refine q rfl rfl (mv (v := .int _ _) rfl) ?_
      first | refine q rfl rfl (addI rfl rfl (by omega) (by omega)) ?_ | refine q rfl rfl (add rfl rfl rfl) ?_
      refine q rfl rfl (asg (v := .int _ _) rfl) ?_
      refine TL.nil (nt ?_)
      exact ⟨rfl, (k + 1), ⟨by omega, hJ2⟩, (by omega), ⟨rfl, rfl, rfl, rfl, rfl, trivial⟩, (ent_take 0 rfl (ent_take 0 rfl (ent_take 0 rfl (ent_nil _))))⟩
    · obtain rfl : k = K := by omega
      have hAP := zL_AP k
      refine TC.exit (et (et (eb (nt ?_))))
      refine TC.seq ?_
      refine TC.seq ?_
      refine TC.region ?_
      refine q rfl rfl (asg (v := .int _ _) rfl) ?_
      refine TL.nil (nt ?_)
      refine TC.block ?_
      refine TC.loop (ι := Nat × List Th × List Th) (fun s => RJ s.2.1 s.1 ∧ RJ s.2.2 (20 + s.1) ∧ AP s.2.1 s.2.2 k ∧ s.1 ≤ l.length) (fun s => [(0, .slice ad l.length cap), (1, .int .u8 d), (5, .pointer (some ⟨a, 0, none⟩)), (6, .pointer (some ⟨c, 0, none⟩)), (8, .int .i64 ((s.1 : Nat) : Int))]) (fun s => sepL [isQ c s.2.2, isQ a s.2.1, F]) (fun s => l.length - s.1) ⟨0, [], zL k⟩ ⟨RJ.nil 0, hJ.next (by dsimp only; omega), hAP, Nat.zero_le _⟩ ⟨rfl, rfl, rfl, rfl, rfl, trivial⟩ (ent_take 0 rfl (ent_take 0 rfl (ent_take 0 rfl (ent_nil _)))) ?_
      rintro ⟨i, S, Z⟩ ⟨hS, hZ, hA, hi⟩ ρ1
      dsimp only [updL] at hS hZ hA hi ⊢
      refine TC.seq ?_
      refine TC.seq ?_
      refine TC.region ?_
      refine q rfl rfl (mv (v := .int _ _) rfl) ?_
      refine q rfl rfl (mv (v := .slice _ _ _) rfl) ?_
      refine q rfl rfl (len 38 5 rfl rfl) ?_
      refine q rfl rfl (lss rfl rfl) ?_
      refine TL.nil (nt ?_)
      first | refine TC.condD rfl (fun hlt => ?_) (fun hlt => ?_) | refine TC.cond rfl (fun hlt => ?_) (fun hlt => ?_)
      · have hl150 := hfit.1
        have hlt2 : i < l.length := by omega
        obtain ⟨t, ht⟩ : ∃ t, l[i]? = some t := ⟨l[i], List.getElem?_eq_getElem hlt2⟩
        have htm := List.mem_of_getElem? ht
        have ht50 := hfit.2 t htm
        obtain ⟨E2, hE2⟩ := hin t htm
        haveI : RdSI F t.ad E2 (ints t.xs) := ⟨hE2⟩
        have hpos : 0 < (ractsC l).length := by rw [ractsC_length]; omega
        refine TC.skip (nt ?_)
        refine TC.seq ?_
        refine TC.block ?_
        refine TC.seq ?_
        refine TC.region ?_
        refine q rfl rfl (mv (v := .slice _ _ _) rfl) ?_
        refine q rfl rfl (mv (v := .int _ _) rfl) ?_
        first | refine q rfl rfl (ixS 38 5 rfl rfl rfl (by omega) (by first | assumption | (simp [ints_length] <;> omega))) ?_ | refine q rfl rfl (ixJ 38 5 rfl rfl rfl (by omega) (by omega) (by first | assumption | (simp [ints_length] <;> omega))) ?_ | refine q rfl rfl (ix 38 5 rfl rfl rfl (by omega) (by omega) rfl) ?_
        first | refine q rfl rfl (ldN (vs := [_, _, _, _, _]) 5 rfl rfl rfl rfl) ?_ | refine q rfl rfl (ldSN (vs := [_, _, _, _, _]) 5 rfl rfl (flat_get_rec ractC_sz ht) rfl (by decide)) ?_ | refine q rfl rfl (ldSN (vs := [_, _, _, _, _]) 5 rfl rfl rfl rfl (by decide)) ?_
        refine e rfl ?_
        refine al (l := [.int _ _, .int _ _, .int _ _, .int _ _, .slice _ _ _]) rfl rfl ?_
        intro b1
        refine e0 ?_
        refine st (v := .agg #[_, _, _, _, _]) (vs := [_, _, _, _, _]) 5 rfl rfl rfl rfl rfl rfl (Nat.le_of_ble_eq_true rfl) rfl ?_
        refine TL.nil (nt ?_)
        refine TC.seq ?_
        refine TC.seq ?_
        refine TC.region ?_
        first | refine q rfl rfl (fa 2 rfl rfl) ?_ | refine q rfl rfl (faS 2 rfl rfl (by first | assumption | (simp [ints_length] <;> omega))) ?_
        first | refine q rfl rfl (ld rfl rfl rfl) ?_ | refine q rfl rfl (ldS rfl rfl (flat_get_rec ractC_sz ht)) ?_ | refine q rfl rfl (ldS rfl rfl rfl) ?_
        refine q rfl rfl (eqI rfl rfl) ?_
        refine q rfl rfl (mv (v := .bool _) rfl) ?_
        refine TL.split 46 rfl (fun hp0 => ?_) (fun hp0 => ?_)
        · have hp0 := of_decide_eq_true hp0
          refine qs rfl rfl ?_
          refine qs rfl rfl ?_
          refine qs rfl rfl ?_
          first | refine q rfl rfl (pkT rfl rfl) ?_ | refine q rfl rfl (pkF rfl rfl) ?_
          refine TL.nil (nt ?_)
          refine TC.condT rfl ?_
          refine TC.exit (et (eb (nt ?_)))
          refine TC.region ?_
          refine q rfl rfl (mv (v := .int _ _) rfl) ?_
          first | refine q rfl rfl (addI rfl rfl (by omega) (by omega)) ?_ | refine q rfl rfl (add rfl rfl rfl) ?_
          refine q rfl rfl (asg (v := .int _ _) rfl) ?_
          refine TL.nil (nt ?_)
          exact ⟨rfl, ⟨i + 1, S, Z⟩, ⟨hS.next (by dsimp only; omega), hZ.next (by dsimp only; omega), hA, by dsimp only; omega⟩, (by dsimp only; omega), ⟨rfl, rfl, rfl, rfl, rfl, trivial⟩, (ent_take 1 rfl (ent_take 1 rfl (ent_take 1 rfl (ent_nil _))))⟩
        · have hp0 := of_decide_eq_false hp0
          first | refine qg rfl rfl rfl (fa 1 rfl rfl) ?_ | refine qg rfl rfl rfl (faS 1 rfl rfl (by first | assumption | (simp [ints_length] <;> omega))) ?_
          first | refine qg rfl rfl rfl (ld rfl rfl rfl) ?_ | refine qg rfl rfl rfl (ldS rfl rfl (flat_get_rec ractC_sz ht)) ?_ | refine qg rfl rfl rfl (ldS rfl rfl rfl) ?_
          refine qg rfl rfl rfl (geq rfl rfl) ?_
          first | refine q rfl rfl (pkT rfl rfl) ?_ | refine q rfl rfl (pkF rfl rfl) ?_
          refine TL.nil (nt ?_)
          first | refine TC.condD rfl (fun hid => ?_) (fun hid => ?_) | refine TC.cond rfl (fun hid => ?_) (fun hid => ?_)
          · refine TC.exit (et (eb (nt ?_)))
            refine TC.region ?_
            refine q rfl rfl (mv (v := .int _ _) rfl) ?_
            first | refine q rfl rfl (addI rfl rfl (by omega) (by omega)) ?_ | refine q rfl rfl (add rfl rfl rfl) ?_
            refine q rfl rfl (asg (v := .int _ _) rfl) ?_
            refine TL.nil (nt ?_)
            exact ⟨rfl, ⟨i + 1, S, Z⟩, ⟨hS.next (by dsimp only; omega), hZ.next (by dsimp only; omega), hA, by dsimp only; omega⟩, (by dsimp only; omega), ⟨rfl, rfl, rfl, rfl, rfl, trivial⟩, (ent_take 1 rfl (ent_take 1 rfl (ent_take 1 rfl (ent_nil _))))⟩
          · refine TC.skip (nt ?_)
            refine TC.seq ?_
            refine TC.region ?_
            first | refine q rfl rfl (fa 4 rfl rfl) ?_ | refine q rfl rfl (faS 4 rfl rfl (by first | assumption | (simp [ints_length] <;> omega))) ?_
            refine e0 ?_
            refine st (v := .slice _ _ _) (vs := [_]) 1 rfl rfl rfl rfl rfl rfl (Nat.le_of_ble_eq_true rfl) rfl ?_
            refine TL.nil (nt ?_)
            refine TC.seq ?_
            refine TC.seq ?_
            refine TC.region ?_
            first | refine q rfl rfl (fa 0 rfl rfl) ?_ | refine q rfl rfl (faS 0 rfl rfl (by first | assumption | (simp [ints_length] <;> omega))) ?_
            first | refine q rfl rfl (ld rfl rfl rfl) ?_ | refine q rfl rfl (ldS rfl rfl rfl) ?_
            refine q rfl rfl (eqI rfl rfl) ?_
            refine TL.nil (nt ?_)
            first | refine TC.condD rfl (fun hk1 => ?_) (fun hk1 => ?_) | refine TC.cond rfl (fun hk1 => ?_) (fun hk1 => ?_)
            · refine TC.region ?_
              first | refine q rfl rfl (fa 1 rfl rfl) ?_ | refine q rfl rfl (faS 1 rfl rfl (by first | assumption | (simp [ints_length] <;> omega))) ?_
              first | refine q rfl rfl (ld rfl rfl rfl) ?_ | refine q rfl rfl (ldS rfl rfl rfl) ?_
              refine e rfl ?_
              refine bs (cs := [.int _ _]) rfl ?_
              intro b2
              first | refine q rfl rfl (fa 4 rfl rfl) ?_ | refine q rfl rfl (faS 4 rfl rfl (by first | assumption | (simp [ints_length] <;> omega))) ?_
              refine e0 ?_
              refine st (v := .slice _ _ _) (vs := [_]) 1 rfl rfl rfl rfl rfl rfl (Nat.le_of_ble_eq_true rfl) rfl ?_
              refine TL.nil (nt ?_)
              refine TC.seq ?_
              refine TC.region ?_
              refine q rfl rfl (mv (v := .pointer _) rfl) ?_
              first | refine q rfl rfl (ldN (vs := [_, _, _, _, _]) 5 rfl rfl rfl rfl) ?_ | refine q rfl rfl (ldSN (vs := [_, _, _, _, _]) 5 rfl rfl rfl rfl (by decide)) ?_
              refine e rfl ?_
              refine cl (do_ok a S i ⟨t.kind, t.id, t.prio, t.sl, (some ⟨b2, 0, none⟩), 1, [t.id]⟩ hS (by omega) (by simp)) rfl PkL.p ⟨_, RdSI.rd (ad := (some ⟨b2, 0, none⟩))⟩ ?_
              intro _ _
              change TL _ _ _ _ _ _ _ _ (sepL [_, _, _, _, _])
              refine TL.nil (nt ?_)
              refine TC.seq ?_
              refine TC.region ?_
              refine q rfl rfl (mv (v := .pointer _) rfl) ?_
              first | refine q rfl rfl (ldN (vs := [_, _, _, _, _]) 5 rfl rfl rfl rfl) ?_ | refine q rfl rfl (ldSN (vs := [_, _, _, _, _]) 5 rfl rfl rfl rfl (by decide)) ?_
              refine e rfl ?_
              refine cl (do_ok c Z (20 + i) ⟨t.kind, t.id, t.prio, t.sl, (some ⟨b2, 0, none⟩), 1, [t.id]⟩ hZ (by omega) (by simp)) rfl PkL.p ⟨_, RdSI.rd (ad := (some ⟨b2, 0, none⟩))⟩ ?_
              intro _ _
              change TL _ _ _ _ _ _ _ _ (sepL [_, _, _, _, _])
              have hS2 := hS.act ⟨t.kind, t.id, t.prio, t.sl, (some ⟨b2, 0, none⟩), 1, [t.id]⟩
              have hZ2 := hZ.act ⟨t.kind, t.id, t.prio, t.sl, (some ⟨b2, 0, none⟩), 1, [t.id]⟩
              have hA2 := hA.act hS hZ (t := ⟨t.kind, t.id, t.prio, t.sl, (some ⟨b2, 0, none⟩), 1, [t.id]⟩) hp0 (by dsimp only; omega) (fun _ => rfl)
              generalize doS S ⟨t.kind, t.id, t.prio, t.sl, (some ⟨b2, 0, none⟩), 1, [t.id]⟩ = S at hS2 hA2 ⊢
              generalize doS Z ⟨t.kind, t.id, t.prio, t.sl, (some ⟨b2, 0, none⟩), 1, [t.id]⟩ = Z at hZ2 hA2 ⊢
              clear hS hZ hA
              have hSl := hS2.len
              have hZl := hZ2.len
              have hrz := run_prio hZ2.inv
              refine TL.nil (nt ?_)
              refine TC.seq ?_
              refine TC.region ?_
              refine q rfl rfl (mv (v := .pointer _) rfl) ?_
              refine e rfl ?_
              refine cl (run_ok a S (by omega)) rfl PkL.p trivial ?_
              intro _ _
              change TL _ _ _ _ _ _ _ _ (sepL [_, _, _, _, _])
              cases htop : topS S with
              | none => ?_
              | some u => ?_
              · have hr : runS S = -1 := by rw [runS, htop]
                obtain rfl := top_nil hS2.inv htop
                have hpz := hrz hA2.lows
                rw [hr]
                refine q rfl rfl (asg (v := .int _ _) rfl) ?_
                refine TL.nil (nt ?_)
                refine TC.seq ?_
                refine TC.region ?_
                refine q rfl rfl (mv (v := .int _ _) rfl) ?_
                refine q rfl rfl (geq rfl rfl) ?_
                refine q rfl rfl (mv (v := .bool _) rfl) ?_
                refine TL.known 69 rfl (c := false) (by decide) ?_
                refine qs rfl rfl ?_
                refine qs rfl rfl ?_
                refine qs rfl rfl ?_
                refine qs rfl rfl ?_
                refine qs rfl rfl ?_
                refine qsu rfl rfl ?_
                refine qsu rfl rfl ?_
                refine qsu rfl rfl ?_
                refine qsu rfl rfl ?_
                refine qsu rfl rfl ?_
                refine qsu rfl rfl ?_
                refine qsu rfl rfl ?_
                refine qs rfl rfl ?_
                first | refine q rfl rfl (pkT rfl rfl) ?_ | refine q rfl rfl (pkF rfl rfl) ?_
                refine q rfl rfl (mv (v := .bool _) rfl) ?_
                refine TL.known 84 rfl (c := false) rfl ?_
                refine qg rfl rfl rfl (mv (v := .int _ _) rfl) ?_
                refine qg rfl rfl rfl (lss rfl rfl) ?_
                refine qg rfl rfl rfl (mv (v := .bool _) rfl) ?_
                refine TL.known 87 rfl (c := true) (by decide) ?_
                refine qg rfl rfl rfl (mv (v := .pointer _) rfl) ?_
                refine qg rfl rfl rfl (mv (v := .pointer _) rfl) ?_
                refine eg rfl rfl ?_
                refine cl (run_ok c Z (by omega)) rfl PkL.p trivial ?_
                intro _ _
                change TL _ _ _ _ _ _ _ _ (sepL [_, _, _, _, _])
                refine eg rfl rfl ?_
                refine cl (qprio_ok c Z (by omega) (runS Z)) rfl PkL.p trivial ?_
                intro _ _
                change TL _ _ _ _ _ _ _ _ (sepL [_, _, _, _, _])
                refine qg rfl rfl rfl (gtr rfl rfl) ?_
                first | refine qg rfl rfl rfl (pkT rfl rfl) ?_ | refine qg rfl rfl rfl (pkF rfl rfl) ?_
                first | refine q rfl rfl (pkT rfl rfl) ?_ | refine q rfl rfl (pkF rfl rfl) ?_
                refine TL.nil (nt ?_)
                refine TC.condD rfl (fun hc2 => absurd hc2 (by omega)) (fun hc2 => ?_)
                refine TC.skip (nb (nt ?_))
                refine TC.region ?_
                refine q rfl rfl (mv (v := .int _ _) rfl) ?_
                first | refine q rfl rfl (addI rfl rfl (by omega) (by omega)) ?_ | refine q rfl rfl (add rfl rfl rfl) ?_
                refine q rfl rfl (asg (v := .int _ _) rfl) ?_
                refine TL.nil (nt ?_)
                have hfin : True := trivial
                exact ⟨rfl, ⟨i + 1, [], Z⟩, ⟨hS2, hZ2.next (by dsimp only; omega), hA2, by dsimp only; omega⟩, (by dsimp only; omega), ⟨rfl, rfl, rfl, rfl, rfl, trivial⟩, EnL.e⟩
              · have hum := (top_mem htop).1
                have hr : runS S = u.id := by rw [runS, htop]
                have hz := hA2.top (fun w hw => (hZ2.inv.rg w hw).2.1.1) htop
                have hr2 : runS Z = u.id := by rw [runS, hz]
                have huz := (top_mem hz).1
                have hl1 := left_of hS2.inv.nd hum
                have hl2 := left_of hZ2.inv.nd huz
                have hur := hS2.inv.rg u hum
                rw [hr]
                refine q rfl rfl (asg (v := .int _ _) rfl) ?_
                refine TL.nil (nt ?_)
                refine TC.seq ?_
                refine TC.region ?_
                refine q rfl rfl (mv (v := .int _ _) rfl) ?_
                refine q rfl rfl (geq rfl rfl) ?_
                refine q rfl rfl (mv (v := .bool _) rfl) ?_
                refine TL.known 69 rfl (c := true) (decide_eq_true (by omega)) ?_
                refine qg rfl rfl rfl (mv (v := .pointer _) rfl) ?_
                refine eg rfl rfl ?_
                refine cl (run_ok c Z (by omega)) rfl PkL.p trivial ?_
                intro _ _
                change TL _ _ _ _ _ _ _ _ (sepL [_, _, _, _, _])
                rw [hr2]
                refine qg rfl rfl rfl (mv (v := .int _ _) rfl) ?_
                refine qg rfl rfl rfl (neI rfl rfl) ?_
                refine qg rfl rfl rfl (mv (v := .bool _) rfl) ?_
                refine TL.known 74 rfl (c := false) (by simp) ?_
                refine qg rfl rfl rfl (mv (v := .pointer _) rfl) ?_
                refine qg rfl rfl rfl (mv (v := .int _ _) rfl) ?_
                refine eg rfl rfl ?_
                refine cl (qleft_ok c Z (by omega) u.id) rfl PkL.p trivial ?_
                intro _ _
                change TL _ _ _ _ _ _ _ _ (sepL [_, _, _, _, _])
                rw [hl2]
                refine qg rfl rfl rfl (mv (v := .pointer _) rfl) ?_
                refine qg rfl rfl rfl (mv (v := .int _ _) rfl) ?_
                refine eg rfl rfl ?_
                refine cl (qleft_ok a S (by omega) u.id) rfl PkL.p trivial ?_
                intro _ _
                change TL _ _ _ _ _ _ _ _ (sepL [_, _, _, _, _])
                rw [hl1]
                refine qg rfl rfl rfl (neI rfl rfl) ?_
                first | refine qg rfl rfl rfl (pkT rfl rfl) ?_ | refine qg rfl rfl rfl (pkF rfl rfl) ?_
                first | refine q rfl rfl (pkT rfl rfl) ?_ | refine q rfl rfl (pkF rfl rfl) ?_
                refine q rfl rfl (mv (v := .bool _) rfl) ?_
                refine TL.known 84 rfl (c := false) (by simp) ?_
                refine qg rfl rfl rfl (mv (v := .int _ _) rfl) ?_
                refine qg rfl rfl rfl (lss rfl rfl) ?_
                refine qg rfl rfl rfl (mv (v := .bool _) rfl) ?_
                refine TL.known 87 rfl (c := false) (decide_eq_false (by omega)) ?_
                refine qs rfl rfl ?_
                refine qs rfl rfl ?_
                refine qs rfl rfl ?_
                refine qs rfl rfl ?_
                refine qs rfl rfl ?_
                first | refine qg rfl rfl rfl (pkT rfl rfl) ?_ | refine qg rfl rfl rfl (pkF rfl rfl) ?_
                first | refine q rfl rfl (pkT rfl rfl) ?_ | refine q rfl rfl (pkF rfl rfl) ?_
                refine TL.nil (nt ?_)
                refine TC.condF rfl ?_
                refine TC.skip (nb (nt ?_))
                refine TC.region ?_
                refine q rfl rfl (mv (v := .int _ _) rfl) ?_
                first | refine q rfl rfl (addI rfl rfl (by omega) (by omega)) ?_ | refine q rfl rfl (add rfl rfl rfl) ?_
                refine q rfl rfl (asg (v := .int _ _) rfl) ?_
                refine TL.nil (nt ?_)
                have hfin : True := trivial
                exact ⟨rfl, ⟨i + 1, S, Z⟩, ⟨hS2, hZ2.next (by dsimp only; omega), hA2, by dsimp only; omega⟩, (by dsimp only; omega), ⟨rfl, rfl, rfl, rfl, rfl, trivial⟩, EnL.e⟩
            · refine TC.skip (nt ?_)
              refine TC.seq ?_
              refine TC.region ?_
              refine q rfl rfl (mv (v := .pointer _) rfl) ?_
              first | refine q rfl rfl (ldN (vs := [_, _, _, _, _]) 5 rfl rfl rfl rfl) ?_ | refine q rfl rfl (ldSN (vs := [_, _, _, _, _]) 5 rfl rfl rfl rfl (by decide)) ?_
              refine e rfl ?_
              refine cl (do_ok a S i ⟨t.kind, t.id, t.prio, t.sl, none, 0, []⟩ hS (by omega) (by simp)) rfl PkL.p ⟨0, fun _ _ => .inl rfl⟩ ?_
              intro _ _
              change TL _ _ _ _ _ _ _ _ (sepL [_, _, _, _])
              refine TL.nil (nt ?_)
              refine TC.seq ?_
              refine TC.region ?_
              refine q rfl rfl (mv (v := .pointer _) rfl) ?_
              first | refine q rfl rfl (ldN (vs := [_, _, _, _, _]) 5 rfl rfl rfl rfl) ?_ | refine q rfl rfl (ldSN (vs := [_, _, _, _, _]) 5 rfl rfl rfl rfl (by decide)) ?_
              refine e rfl ?_
              refine cl (do_ok c Z (20 + i) ⟨t.kind, t.id, t.prio, t.sl, none, 0, []⟩ hZ (by omega) (by simp)) rfl PkL.p ⟨0, fun _ _ => .inl rfl⟩ ?_
              intro _ _
              change TL _ _ _ _ _ _ _ _ (sepL [_, _, _, _])
              have hS2 := hS.act ⟨t.kind, t.id, t.prio, t.sl, none, 0, []⟩
              have hZ2 := hZ.act ⟨t.kind, t.id, t.prio, t.sl, none, 0, []⟩
              have hA2 := hA.act hS hZ (t := ⟨t.kind, t.id, t.prio, t.sl, none, 0, []⟩) hp0 (by dsimp only; omega) (fun e2 => absurd e2 hk1)
              generalize doS S ⟨t.kind, t.id, t.prio, t.sl, none, 0, []⟩ = S at hS2 hA2 ⊢
              generalize doS Z ⟨t.kind, t.id, t.prio, t.sl, none, 0, []⟩ = Z at hZ2 hA2 ⊢
              clear hS hZ hA
              have hSl := hS2.len
              have hZl := hZ2.len
              have hrz := run_prio hZ2.inv
              refine TL.nil (nt ?_)
              refine TC.seq ?_
              refine TC.region ?_
              refine q rfl rfl (mv (v := .pointer _) rfl) ?_
              refine e rfl ?_
              refine cl (run_ok a S (by omega)) rfl PkL.p trivial ?_
              intro _ _
              change TL _ _ _ _ _ _ _ _ (sepL [_, _, _, _])
              cases htop : topS S with
              | none => ?_
              | some u => ?_
              · have hr : runS S = -1 := by rw [runS, htop]
                obtain rfl := top_nil hS2.inv htop
                have hpz := hrz hA2.lows
                rw [hr]
                refine q rfl rfl (asg (v := .int _ _) rfl) ?_
                refine TL.nil (nt ?_)
                refine TC.seq ?_
                refine TC.region ?_
                refine q rfl rfl (mv (v := .int _ _) rfl) ?_
                refine q rfl rfl (geq rfl rfl) ?_
                refine q rfl rfl (mv (v := .bool _) rfl) ?_
                refine TL.known 69 rfl (c := false) (by decide) ?_
                refine qs rfl rfl ?_
                refine qs rfl rfl ?_
                refine qs rfl rfl ?_
                refine qs rfl rfl ?_
                refine qs rfl rfl ?_
                refine qsu rfl rfl ?_
                refine qsu rfl rfl ?_
                refine qsu rfl rfl ?_
                refine qsu rfl rfl ?_
                refine qsu rfl rfl ?_
                refine qsu rfl rfl ?_
                refine qsu rfl rfl ?_
                refine qs rfl rfl ?_
                first | refine q rfl rfl (pkT rfl rfl) ?_ | refine q rfl rfl (pkF rfl rfl) ?_
                refine q rfl rfl (mv (v := .bool _) rfl) ?_
                refine TL.known 84 rfl (c := false) rfl ?_
                refine qg rfl rfl rfl (mv (v := .int _ _) rfl) ?_
                refine qg rfl rfl rfl (lss rfl rfl) ?_
                refine qg rfl rfl rfl (mv (v := .bool _) rfl) ?_
                refine TL.known 87 rfl (c := true) (by decide) ?_
                refine qg rfl rfl rfl (mv (v := .pointer _) rfl) ?_
                refine qg rfl rfl rfl (mv (v := .pointer _) rfl) ?_
                refine eg rfl rfl ?_
                refine cl (run_ok c Z (by omega)) rfl PkL.p trivial ?_
                intro _ _
                change TL _ _ _ _ _ _ _ _ (sepL [_, _, _, _])
                refine eg rfl rfl ?_
                refine cl (qprio_ok c Z (by omega) (runS Z)) rfl PkL.p trivial ?_
                intro _ _
                change TL _ _ _ _ _ _ _ _ (sepL [_, _, _, _])
                refine qg rfl rfl rfl (gtr rfl rfl) ?_
                first | refine qg rfl rfl rfl (pkT rfl rfl) ?_ | refine qg rfl rfl rfl (pkF rfl rfl) ?_
                first | refine q rfl rfl (pkT rfl rfl) ?_ | refine q rfl rfl (pkF rfl rfl) ?_
                refine TL.nil (nt ?_)
                refine TC.condD rfl (fun hc3 => absurd hc3 (by omega)) (fun hc3 => ?_)
                refine TC.skip (nb (nt ?_))
                refine TC.region ?_
                refine q rfl rfl (mv (v := .int _ _) rfl) ?_
                first | refine q rfl rfl (addI rfl rfl (by omega) (by omega)) ?_ | refine q rfl rfl (add rfl rfl rfl) ?_
                refine q rfl rfl (asg (v := .int _ _) rfl) ?_
                refine TL.nil (nt ?_)
                have hfin : True := trivial
                exact ⟨rfl, ⟨i + 1, [], Z⟩, ⟨hS2, hZ2.next (by dsimp only; omega), hA2, by dsimp only; omega⟩, (by dsimp only; omega), ⟨rfl, rfl, rfl, rfl, rfl, trivial⟩, EnL.e⟩
              · have hum := (top_mem htop).1
                have hr : runS S = u.id := by rw [runS, htop]
                have hz := hA2.top (fun w hw => (hZ2.inv.rg w hw).2.1.1) htop
                have hr2 : runS Z = u.id := by rw [runS, hz]
                have huz := (top_mem hz).1
                have hl1 := left_of hS2.inv.nd hum
                have hl2 := left_of hZ2.inv.nd huz
                have hur := hS2.inv.rg u hum
                rw [hr]
                refine q rfl rfl (asg (v := .int _ _) rfl) ?_
                refine TL.nil (nt ?_)
                refine TC.seq ?_
                refine TC.region ?_
                refine q rfl rfl (mv (v := .int _ _) rfl) ?_
                refine q rfl rfl (geq rfl rfl) ?_
                refine q rfl rfl (mv (v := .bool _) rfl) ?_
                refine TL.known 69 rfl (c := true) (decide_eq_true (by omega)) ?_
                refine qg rfl rfl rfl (mv (v := .pointer _) rfl) ?_
                refine eg rfl rfl ?_
                refine cl (run_ok c Z (by omega)) rfl PkL.p trivial ?_
                intro _ _
                change TL _ _ _ _ _ _ _ _ (sepL [_, _, _, _])
                rw [hr2]
                refine qg rfl rfl rfl (mv (v := .int _ _) rfl) ?_
                refine qg rfl rfl rfl (neI rfl rfl) ?_
                refine qg rfl rfl rfl (mv (v := .bool _) rfl) ?_
                refine TL.known 74 rfl (c := false) (by simp) ?_
                refine qg rfl rfl rfl (mv (v := .pointer _) rfl) ?_
                refine qg rfl rfl rfl (mv (v := .int _ _) rfl) ?_
                refine eg rfl rfl ?_
                refine cl (qleft_ok c Z (by omega) u.id) rfl PkL.p trivial ?_
                intro _ _
                change TL _ _ _ _ _ _ _ _ (sepL [_, _, _, _])
                rw [hl2]
                refine qg rfl rfl rfl (mv (v := .pointer _) rfl) ?_
                refine qg rfl rfl rfl (mv (v := .int _ _) rfl) ?_
                refine eg rfl rfl ?_
                refine cl (qleft_ok a S (by omega) u.id) rfl PkL.p trivial ?_
                intro _ _
                change TL _ _ _ _ _ _ _ _ (sepL [_, _, _, _])
                rw [hl1]
                refine qg rfl rfl rfl (neI rfl rfl) ?_
                first | refine qg rfl rfl rfl (pkT rfl rfl) ?_ | refine qg rfl rfl rfl (pkF rfl rfl) ?_
                first | refine q rfl rfl (pkT rfl rfl) ?_ | refine q rfl rfl (pkF rfl rfl) ?_
                refine q rfl rfl (mv (v := .bool _) rfl) ?_
                refine TL.known 84 rfl (c := false) (by simp) ?_
                refine qg rfl rfl rfl (mv (v := .int _ _) rfl) ?_
                refine qg rfl rfl rfl (lss rfl rfl) ?_
                refine qg rfl rfl rfl (mv (v := .bool _) rfl) ?_
                refine TL.known 87 rfl (c := false) (decide_eq_false (by omega)) ?_
                refine qs rfl rfl ?_
                refine qs rfl rfl ?_
                refine qs rfl rfl ?_
                refine qs rfl rfl ?_
                refine qs rfl rfl ?_
                first | refine qg rfl rfl rfl (pkT rfl rfl) ?_ | refine qg rfl rfl rfl (pkF rfl rfl) ?_
                first | refine q rfl rfl (pkT rfl rfl) ?_ | refine q rfl rfl (pkF rfl rfl) ?_
                refine TL.nil (nt ?_)
                refine TC.condF rfl ?_
                refine TC.skip (nb (nt ?_))
                refine TC.region ?_
                refine q rfl rfl (mv (v := .int _ _) rfl) ?_
                first | refine q rfl rfl (addI rfl rfl (by omega) (by omega)) ?_ | refine q rfl rfl (add rfl rfl rfl) ?_
                refine q rfl rfl (asg (v := .int _ _) rfl) ?_
                refine TL.nil (nt ?_)
                have hfin : True := trivial
                exact ⟨rfl, ⟨i + 1, S, Z⟩, ⟨hS2, hZ2.next (by dsimp only; omega), hA2, by dsimp only; omega⟩, (by dsimp only; omega), ⟨rfl, rfl, rfl, rfl, rfl, trivial⟩, EnL.e⟩
      · have hl150 := hfit.1
        have hSl := hS.len
        have hZl := hZ.len
        have hhl := hi_lo Z
        rw [hA.h, hA.l] at hhl
        refine TC.exit (et (et (eb (nt ?_))))
        refine TC.seq ?_
        refine TC.region ?_
        refine q rfl rfl (mv (v := .pointer _) rfl) ?_
        refine e rfl ?_
        refine cl (qlen_ok c Z (by omega)) rfl PkL.p trivial ?_
        intro _ _
        change TL _ _ _ _ _ _ _ _ (sepL [_, _, _])
        refine q rfl rfl (mv (v := .pointer _) rfl) ?_
        refine e rfl ?_
        refine cl (qlen_ok a S (by omega)) rfl PkL.p trivial ?_
        intro _ _
        change TL _ _ _ _ _ _ _ _ (sepL [_, _, _])
        refine q rfl rfl (mv (v := .int _ _) rfl) ?_
        first | refine q rfl rfl (conv .u8 .i64 rfl rfl rfl (wi64 (by omega) (by omega))) ?_ | refine q rfl rfl (conv .u8 .i64 rfl rfl rfl rfl) ?_
        first | refine q rfl rfl (remI rfl rfl (by omega) (by omega)) ?_ | refine q rfl rfl (rem rfl rfl (by omega) rfl) ?_
        rw [hK]
        first | refine q rfl rfl (addI rfl rfl (by omega) (by omega)) ?_ | refine q rfl rfl (add rfl rfl rfl) ?_
        refine q rfl rfl (eqI rfl rfl) ?_
        refine q rfl rfl (asg (v := .bool _) rfl) ?_
        refine TL.nil (nt ?_)
        refine TC.ret ?_
        exact Ret.i () [_] ⟨rfl, trivial⟩ (congrArg Value.bool (decide_eq_true (by omega))) trivial (ent_take 2 rfl (ent_nil _))
  · rw [decide_eq_false hfit]
    first | refine q rfl rfl (notD rfl) ?_ | refine q rfl rfl (notB rfl) ?_
    refine TL.nil (nt ?_)
    refine TC.condT rfl ?_
    refine TC.seq ?_
    refine TC.region ?_
    refine q rfl rfl (asg (v := .bool _) rfl) ?_
    refine TL.nil (nt ?_)
    refine TC.ret (rt ?_)
    exact Ret.i () [_] ⟨rfl, trivial⟩ rfl trivial (ent_take 0 rfl (ent_nil _))

end Go.Proofs.Ytncafknmdmoaoaa
