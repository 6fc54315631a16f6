/-
  Proved here: what functions of this program compute, each as a contract over symbolic states, under the premises that each theorem names (most lines printed by a program of the prover).
-/
import Derived.Test.YtdikkmgcjhllaaaAlF
import Derived.Test.YtdikkmgcjhllaaaQLibW
namespace Go.Proofs.Ytdikkmgcjhllaaa
open Go Go.QM
theorem ints_splice {xs : List Int} {i : Nat} (h : i < xs.length) {o : Nat} (ho : o = i * 1) (v : Int) : splice o [.int .i64 v] (ints xs) = ints (xs.set i v) := by
  subst ho
  rw [Nat.mul_one, List.set_eq_take_append_cons_drop, if_pos h]
  simp [splice, ints]
structure OI (L cnt N : Nat) (ex : Int) (Q : List En) (now tn : Int) (due : List Int) (off : Nat) : Prop where
  q : QI Q now tn N
  dl : due.length = L
  cl : cnt ≤ L
  pw : Q.Pairwise fun a b => a.id < b.id
  rg : ∀ e ∈ Q, 0 ≤ e.id ∧ e.id < cnt ∧ due[e.id.toNat]? = some e.at_ ∧ e.at_ + ex ≤ now + 256
  of : off + Q.length = cnt
theorem OI.start (L : Nat) : OI L 0 0 0 [] 0 0 (List.replicate L 0) 0 := ⟨QI.start, List.length_replicate, Nat.zero_le _, List.Pairwise.nil, (fun e h => by cases h), rfl⟩
theorem OI.mono {L cnt N N' : Nat} {ex ex' : Int} {Q : List En} {now tn : Int} {due : List Int} {off : Nat} (h : OI L cnt N ex Q now tn due off) (hN : N ≤ N') (he : ex' ≤ ex) : OI L cnt N' ex' Q now tn due off :=
  { h with q := h.q.next hN, rg := fun e hm => by obtain ⟨a, b, c, d⟩ := h.rg e hm; exact ⟨a, b, c, by omega⟩ }
theorem pw_nd {Q : List En} (h : Q.Pairwise fun a b => a.id < b.id) : Nd Q := by
  rw [Nd, List.Nodup, List.pairwise_map]
  exact h.imp fun h => by omega
theorem OI.no {L cnt N : Nat} {ex : Int} {Q : List En} {now tn : Int} {due : List Int} {off : Nat} (h : OI L cnt N ex Q now tn due off) : ¬ hasA Q (cnt : Int) := by
  rintro ⟨e, he, h1⟩
  have := h.rg e he; omega
theorem OI.set {L cnt N : Nat} {ex : Int} {Q : List En} {now tn : Int} {due : List Int} {off : Nat} (h : OI L cnt N ex Q now tn due off) (hc : cnt < L) (hex : ex ≤ 0) {x : Int} (hx : 0 ≤ x ∧ x ≤ 255) :
    OI L (cnt + 1) (N + 1) ex (Q ++ [⟨now + (1 + x), tn + 1, cnt⟩]) now (tn + 1) (due.set cnt (now + 1 + x)) off ∧ leftA (Q ++ [⟨now + (1 + x), tn + 1, cnt⟩]) now cnt = 1 + x := by
  have h1 := h.q.set (cnt : Int) (1 + x)
  rw [set_new h.no (by omega) (by omega) (by omega)] at h1
  have hpw : (Q ++ [(⟨now + (1 + x), tn + 1, (cnt : Int)⟩ : En)]).Pairwise (fun a b : En => a.id < b.id) := by
    rw [List.pairwise_append]
    refine ⟨h.pw, List.pairwise_singleton _ _, fun a ha b hb => ?_⟩
    obtain rfl := List.mem_singleton.1 hb
    exact (h.rg a ha).2.1
  refine ⟨⟨h1, by rw [List.length_set]; exact h.dl, by omega, hpw, fun e he => ?_, ?_⟩, ?_⟩
  · rcases List.mem_append.1 he with he | he
    · obtain ⟨a, b, c, d⟩ := h.rg e he
      exact ⟨a, by omega, by rw [List.getElem?_set_ne (by omega)]; exact c, d⟩
    · obtain rfl := List.mem_singleton.1 he
      refine ⟨by dsimp only; omega, by dsimp only; omega, ?_, by dsimp only; omega⟩
      dsimp only
      rw [Int.toNat_natCast, List.getElem?_set_self (by rw [h.dl]; exact hc)]
      congr 1; omega
  · have := h.of
    rw [List.length_append, List.length_singleton]; omega
  · have := left_yes (pw_nd hpw) (e := ⟨now + (1 + x), tn + 1, (cnt : Int)⟩) (by simp) now
    dsimp only at this
    rw [this]; omega
/-- While those that are due are struck. -/
structure OJ (L : Nat) (D R : List En) (t : Int) (k : Nat) (due : List Int) : Prop where
  dl : due.length = L
  a : ∀ e ∈ D.drop k, due[e.id.toNat]? = some t
  b : ∀ e ∈ R, due[e.id.toNat]? = some e.at_
theorem OI.due {L cnt N : Nat} {ex : Int} {Q : List En} {now tn : Int} {due : List Int} {off : Nat} (h : OI L cnt N ex Q now tn due off) : OJ L (dueA (now + 1) Q) (restA (now + 1) Q) (now + 1) 0 due :=
  ⟨h.dl, fun e he => by
    obtain ⟨h1, h2⟩ := List.mem_filter.1 (List.mem_of_mem_drop he)
    have h3 := h.q.rg e h1
    obtain ⟨_, _, h4, _⟩ := h.rg e h1
    rw [h4]; congr 1; simp at h2; omega, fun e he => (h.rg e (List.mem_filter.1 he).1).2.2.1⟩
theorem due_rest_len (t : Int) : ∀ (Q : List En), (dueA t Q).length + (restA t Q).length = Q.length
  | [] => rfl
  | e :: Q => by
    have := due_rest_len t Q
    simp only [dueA, restA] at this ⊢
    by_cases h : e.at_ ≤ t
    · rw [List.filter_cons_of_pos (by simpa using h), List.filter_cons_of_neg (by simpa using h)]; simp only [List.length_cons]; omega
    · rw [List.filter_cons_of_neg (by simpa using h), List.filter_cons_of_pos (by simpa using h)]; simp only [List.length_cons]; omega
theorem OI.at {L cnt N : Nat} {ex : Int} {Q : List En} {now tn : Int} {due : List Int} {off : Nat} (h : OI L cnt N ex Q now tn due off) {k : Nat} {u : En} (hu : (dueA (now + 1) Q)[k]? = some u) :
    (0 ≤ u.id ∧ u.id < L) ∧ ∀ v, 0 < k → (dueA (now + 1) Q)[k - 1]? = some v → v.id < u.id := by
  have hm := List.mem_of_getElem? hu
  have h1 := h.rg u (List.mem_filter.1 hm).1
  have hc := h.cl
  refine ⟨by omega, fun v hk hv => ?_⟩
  have hp : (dueA (now + 1) Q).Pairwise fun a b => a.id < b.id := h.pw.sublist List.filter_sublist
  have hp2 := List.pairwise_iff_getElem.1 hp
  obtain ⟨a1, b1⟩ := List.getElem?_eq_some_iff.1 hu
  obtain ⟨a2, b2⟩ := List.getElem?_eq_some_iff.1 hv
  have := hp2 (k - 1) k a2 a1 (by omega)
  rw [b1, b2] at this; exact this
theorem OI.step {L cnt N : Nat} {ex : Int} {Q : List En} {now tn : Int} {due d2 : List Int} {off : Nat} (h : OI L cnt N ex Q now tn due off) {k : Nat} (hj : OJ L (dueA (now + 1) Q) (restA (now + 1) Q) (now + 1) k d2) {u : En} (hu : (dueA (now + 1) Q)[k]? = some u) :
    OJ L (dueA (now + 1) Q) (restA (now + 1) Q) (now + 1) (k + 1) (d2.set u.id.toNat (-1)) := by
  have hp : (dueA (now + 1) Q).Pairwise fun a b => a.id < b.id := h.pw.sublist List.filter_sublist
  have hum := List.mem_of_getElem? hu
  obtain ⟨hu1, hu2⟩ := List.mem_filter.1 hum
  have hur := h.rg u hu1
  refine ⟨by rw [List.length_set]; exact hj.dl, fun e he => ?_, fun e he => ?_⟩
  · have he1 := (List.mem_filter.1 (List.mem_of_mem_drop he)).1
    have her := h.rg e he1
    have hd : (dueA (now + 1) Q).drop k = u :: (dueA (now + 1) Q).drop (k + 1) := by
      obtain ⟨a1, b1⟩ := List.getElem?_eq_some_iff.1 hu
      rw [← b1]; exact List.drop_eq_getElem_cons a1
    have hlt : u.id < e.id := by
      have := hp.sublist (List.drop_sublist k _)
      rw [hd, List.pairwise_cons] at this
      exact this.1 e he
    rw [List.getElem?_set_ne (by omega)]
    exact hj.a e (by rw [hd]; simp [he])
  · obtain ⟨he1, he2⟩ := List.mem_filter.1 he
    have her := h.rg e he1
    have hne : u.id ≠ e.id := fun e2 => by
      have hi := pw_nd h.pw
      obtain ⟨j1, hj1⟩ := List.getElem?_of_mem hu1
      obtain ⟨j2, hj2⟩ := List.getElem?_of_mem he1
      have := hi.inj (List.getElem?_eq_some_iff.1 hj1).1 (List.getElem?_eq_some_iff.1 hj2).1 (by rw [gE_of hj1, gE_of hj2, e2])
      subst this
      rw [hj1] at hj2; cases hj2
      simp at hu2 he2; omega
    rw [List.getElem?_set_ne (by omega)]
    exact hj.b e he
theorem OI.tick {L cnt N : Nat} {ex : Int} {Q : List En} {now tn : Int} {due d2 : List Int} {off : Nat} (h : OI L cnt N ex Q now tn due off) (hj : OJ L (dueA (now + 1) Q) (restA (now + 1) Q) (now + 1) (dueA (now + 1) Q).length d2) :
    OI L cnt (N + 1) (ex + 1) (restA (now + 1) Q) (now + 1) tn d2 (off + (dueA (now + 1) Q).length) where
  q := h.q.tick
  dl := hj.dl
  cl := h.cl
  pw := h.pw.sublist List.filter_sublist
  rg := fun e he => by
    obtain ⟨a, b, _, d⟩ := h.rg e (List.mem_filter.1 he).1
    exact ⟨a, b, hj.b e he, by omega⟩
  of := by have := h.of; have := due_rest_len (now + 1) Q; omega

set_option maxHeartbeats 1000000 in
theorem once_ok (ad : Option Addr) (l : List Int) (cap : Nat) (g : Int) (hl : ∀ x ∈ l, 0 ≤ x ∧ x ≤ 255) (hg : 0 ≤ g ∧ g ≤ 255) : FSpec Try.prog 7 [.slice ad l.length cap, .int .u8 g] (fun F => ∃ E, RdS F E ad (nums .u8 l)) [] (fun _ : Unit => .bool true) (fun _ => True) (fun _ => []) := by
  refine FSpec.intro (rs := [.tmp 4]) (by kernel_rfl) Try.func7 rfl Try.ntmps7 (by rfl) rfl ?_
  intro F ⟨E, hF⟩
  change TC _ _ _ _ _ _ _ (sepL [_])
  haveI : RdSI F ad E (nums .u8 l) := ⟨hF⟩
  have hnl := nums_length .u8 l
  refine TC.seq ?_
  refine TC.region ?_
  refine q rfl rfl (asg (v := .bool _) rfl) ?_
  refine TL.nil (nt ?_)
  refine TC.seq ?_
  refine TC.seq ?_
  refine TC.region ?_
  refine e rfl ?_
  refine cl alive_ok rfl (picked_nil _) trivial ?_
  intro _ _
  change TL _ _ _ _ _ _ _ _ (sepL [_])
  first | refine q rfl rfl (notD rfl) ?_ | refine q rfl rfl (notB rfl) ?_
  refine TL.nil (nt ?_)
  refine TC.condF rfl ?_
  refine TC.skip (nt ?_)
  refine TC.seq ?_
  refine TC.seq ?_
  refine TC.region ?_
  refine q rfl rfl (mv (v := .slice _ _ _) rfl) ?_
  refine q rfl rfl (len 5 1 rfl rfl) ?_
  refine q rfl rfl (gtr rfl rfl) ?_
  refine TL.nil (nt ?_)
  first | refine TC.condD rfl (fun hbig => ?_) (fun hbig => ?_) | refine TC.cond rfl (fun hbig => ?_) (fun hbig => ?_)
  · refine TC.seq ?_
    refine TC.region ?_
    refine q rfl rfl (asg (v := .bool _) rfl) ?_
    refine TL.nil (nt ?_)
    refine TC.ret (rt ?_)
    exact Ret.i () [_] ⟨rfl, trivial⟩ rfl trivial (ent_take 0 rfl (ent_nil _))
  · have hL : l.length ≤ 200 := by omega
    refine TC.skip (nt ?_)
    refine TC.seq ?_
    refine TC.region ?_
    refine e rfl ?_
    refine cl new_ok rfl (picked_nil _) trivial ?_
    intro a _
    change TL _ _ _ _ _ _ _ _ (sepL [_, _])
    refine q rfl rfl (asg (v := .pointer _) rfl) ?_
    refine TL.nil (nt ?_)
    refine TC.seq ?_
    refine TC.region ?_
    refine q rfl rfl (mv (v := .slice _ _ _) rfl) ?_
    refine q rfl rfl (len 5 1 rfl rfl) ?_
    refine e rfl ?_
    refine mk1 (E := 3) (n := l.length) (z := .int .i64 0) 8 rfl rfl rfl rfl rfl rfl (by omega) (by simp only [maxLen]; omega) ?_
    intro cb
    change TL _ _ _ _ _ _ _ _ (sepL [_, _, _])
    refine q rfl rfl (asg (v := .slice _ _ _) rfl) ?_
    refine TL.nil (nt ?_)
    refine TC.seq ?_
    refine TC.region ?_
    refine q rfl rfl (asg (v := .int _ _) rfl) ?_
    refine q rfl rfl (asg (v := .int _ _) rfl) ?_
    refine TL.nil (nt ?_)
    refine TC.seq ?_
    refine TC.seq ?_
    refine TC.region ?_
    refine q rfl rfl (asg (v := .int _ _) rfl) ?_
    refine TL.nil (nt ?_)
    refine TC.block ?_
    refine TC.loop (ι := Nat × List En × Int × Int × List Int × Nat) (fun s => OI l.length (min s.1 l.length) (2 * s.1) (max 0 ((s.1 : Int) - l.length)) s.2.1 s.2.2.1 s.2.2.2.1 s.2.2.2.2.1 s.2.2.2.2.2 ∧ s.1 ≤ l.length + 300) (fun s => [(0, .slice ad l.length cap), (1, .int .u8 g), (5, .pointer (some ⟨a, 0, none⟩)), (6, .slice (some ⟨cb, 0, none⟩) l.length l.length), (7, .int .i64 s.2.2.1), (8, .int .i64 ((s.2.2.2.2.2 : Nat) : Int)), (9, .int .i64 ((s.1 : Nat) : Int))]) (fun s => sepL [slc 3 1 (some ⟨cb, 0, none⟩) l.length l.length (ints s.2.2.2.2.1), isAl a s.2.2.1 s.2.2.2.1 s.2.1, F]) (fun s => l.length + 300 - s.1) ⟨0, [], 0, 0, List.replicate l.length 0, 0⟩ ⟨by dsimp only; rw [Nat.zero_min, show max 0 (((0 : Nat) : Int) - l.length) = 0 from by omega]; exact OI.start l.length, by dsimp only; omega⟩ ⟨rfl, rfl, rfl, rfl, rfl, rfl, rfl, trivial⟩ (ent_takeE 0 rfl (by simp [ints]) (ent_take 0 rfl (ent_take 0 rfl (ent_nil _)))) ?_
    rintro ⟨i, Q, now, tn, due, off⟩ ⟨hinv, hi⟩ ρ0
    dsimp only [updL] at hinv hi ⊢
    have hdl := hinv.dl
    have hil := ints_length due
    have hnw := hinv.q.nw
    have htu := hinv.q.tu
    have hle := hinv.q.len
    refine TC.seq ?_
    refine TC.seq ?_
    refine TC.region ?_
    refine q rfl rfl (mv (v := .int _ _) rfl) ?_
    refine q rfl rfl (mv (v := .slice _ _ _) rfl) ?_
    refine q rfl rfl (len 5 1 rfl rfl) ?_
    first | refine q rfl rfl (addI rfl rfl (by omega) (by omega)) ?_ | refine q rfl rfl (add rfl rfl rfl) ?_
    refine q rfl rfl (lss rfl rfl) ?_
    refine TL.nil (nt ?_)
    first | refine TC.condD rfl (fun hlt => ?_) (fun hlt => ?_) | refine TC.cond rfl (fun hlt => ?_) (fun hlt => ?_)
    · refine TC.skip (nt ?_)
      refine TC.seq ?_
      refine TC.block ?_
      refine TC.cut (ι := List En × Int × List Int) (fun s => OI l.length (min (i + 1) l.length) (2 * i + 1) (max 0 ((i : Int) - l.length)) s.1 now s.2.1 s.2.2 off) (fun s => [(0, .slice ad l.length cap), (1, .int .u8 g), (5, .pointer (some ⟨a, 0, none⟩)), (6, .slice (some ⟨cb, 0, none⟩) l.length l.length), (7, .int .i64 now), (8, .int .i64 ((off : Nat) : Int)), (9, .int .i64 ((i : Nat) : Int))]) (fun s => sepL [slc 3 1 (some ⟨cb, 0, none⟩) l.length l.length (ints s.2.2), isAl a now s.2.1 s.1, F]) ?_ ?_
      · refine TC.seq ?_
        refine TC.region ?_
        refine q rfl rfl (mv (v := .int _ _) rfl) ?_
        refine q rfl rfl (mv (v := .slice _ _ _) rfl) ?_
        refine q rfl rfl (len 5 1 rfl rfl) ?_
        refine q rfl rfl (lss rfl rfl) ?_
        refine TL.nil (nt ?_)
        first | refine TC.condD rfl (fun hil2 => ?_) (fun hil2 => ?_) | refine TC.cond rfl (fun hil2 => ?_) (fun hil2 => ?_)
        · have hlt2 : i < l.length := by omega
          obtain ⟨x, hx⟩ : ∃ x, l[i]? = some x := ⟨l[i], List.getElem?_eq_getElem hlt2⟩
          have hpos : 0 < (nums .u8 l).length := by omega
          have hposd : 0 < (ints due).length := by omega
          have hxr := hl x (List.mem_of_getElem? hx)
          rw [show min i l.length = i from by omega, show max 0 ((i : Int) - l.length) = 0 from by omega] at hinv
          obtain ⟨hs1, hs2⟩ := hinv.set hlt2 (Int.le_refl 0) hxr
          have hsn := set_new (now := now) (tn := tn) (ticks := 1 + x) hinv.no (by omega) (by omega) (by omega)
          refine TC.seq ?_
          refine TC.region ?_
          refine q rfl rfl (mv (v := .slice _ _ _) rfl) ?_
          refine q rfl rfl (mv (v := .int _ _) rfl) ?_
          refine q rfl rfl (mv (v := .int _ _) rfl) ?_
          first | refine q rfl rfl (addI rfl rfl (by omega) (by omega)) ?_ | refine q rfl rfl (add rfl rfl rfl) ?_
          refine q rfl rfl (mv (v := .slice _ _ _) rfl) ?_
          refine q rfl rfl (mv (v := .int _ _) rfl) ?_
          first | refine q rfl rfl (ixS 5 1 rfl rfl rfl (by omega) (by first | assumption | (simp [ints_length] <;> omega))) ?_ | refine q rfl rfl (ixJ 5 1 rfl rfl rfl (by omega) (by omega) (by first | assumption | (simp [ints_length] <;> omega))) ?_ | refine q rfl rfl (ix 5 1 rfl rfl rfl (by omega) (by omega) rfl) ?_
          first | refine q rfl rfl (ld rfl rfl rfl) ?_ | refine q rfl rfl (ldS rfl rfl (nums_get hx)) ?_ | refine q rfl rfl (ldS rfl rfl rfl) ?_
          first | refine q rfl rfl (conv .u8 .i64 rfl rfl rfl (wi64 (by omega) (by omega))) ?_ | refine q rfl rfl (conv .u8 .i64 rfl rfl rfl rfl) ?_
          first | refine q rfl rfl (addI rfl rfl (by omega) (by omega)) ?_ | refine q rfl rfl (add rfl rfl rfl) ?_
          first | refine q rfl rfl (ixS 3 1 rfl rfl rfl (by omega) (by first | assumption | (simp [ints_length] <;> omega))) ?_ | refine q rfl rfl (ixJ 3 1 rfl rfl rfl (by omega) (by omega) (by first | assumption | (simp [ints_length] <;> omega))) ?_ | refine q rfl rfl (ix 3 1 rfl rfl rfl (by omega) (by omega) rfl) ?_
          refine e0 ?_
          first | refine st (v := .int _ _) (vs := [_]) 1 rfl rfl rfl rfl rfl rfl (Nat.le_of_ble_eq_true rfl) rfl ?_ | refine stS (v := .int _ _) (vs := [_]) 1 rfl rfl rfl rfl rfl rfl (by decide) (by omega) (ints_splice (i := i) (by omega) (by omega) _) ?_
          refine TL.nil (nt ?_)
          refine TC.seq ?_
          refine TC.seq ?_
          refine TC.draw _ [] [(0, false), (1, false), (2, false), (3, false), (4, false), (5, false), (6, false), (7, false), (8, true), (9, false), (10, false), (11, false), (12, false), (14, false), (15, false), (16, false), (17, false), (18, false), (19, false), (13, true), (20, false), (21, false)] (by kernel_rfl) (by kernel_rfl) (ent_take 2 rfl (ent_nil _)) ?_
          refine dq rfl rfl rfl (mv (v := .pointer _) rfl) ?_
          refine dq rfl rfl rfl (mv (v := .int _ _) rfl) ?_
          refine dq rfl rfl rfl (mv (v := .slice _ _ _) rfl) ?_
          refine dq rfl rfl rfl (mv (v := .int _ _) rfl) ?_
          first | refine dq rfl rfl rfl (ixS 5 1 rfl rfl rfl (by omega) (by first | assumption | (simp [ints_length] <;> omega))) ?_ | refine dq rfl rfl rfl (ixJ 5 1 rfl rfl rfl (by omega) (by omega) (by first | assumption | (simp [ints_length] <;> omega))) ?_ | refine dq rfl rfl rfl (ix 5 1 rfl rfl rfl (by omega) (by omega) rfl) ?_
          first | refine dq rfl rfl rfl (ld rfl rfl rfl) ?_ | refine dq rfl rfl rfl (ldS rfl rfl (nums_get hx)) ?_ | refine dq rfl rfl rfl (ldS rfl rfl rfl) ?_
          first | refine dq rfl rfl rfl (conv .u8 .i64 rfl rfl rfl (wi64 (by omega) (by omega))) ?_ | refine dq rfl rfl rfl (conv .u8 .i64 rfl rfl rfl rfl) ?_
          first | refine dq rfl rfl rfl (addI rfl rfl (by omega) (by omega)) ?_ | refine dq rfl rfl rfl (add rfl rfl rfl) ?_
          refine de rfl rfl ?_
          refine cl (set_ok a now tn Q (hinv.q.bd (by omega)) (i : Int) (1 + x)) rfl (picked_cons 1 rfl (picked_nil _)) trivial ?_
          intro _ _
          change ent _ _ ∧ TD _ _ _ _ _ _ _ _ _ _ (sepL [_, _, _])
          refine ⟨(by repeat (first | exact ent_nil _ | refine ent_take 0 rfl ?_ | refine ent_take 1 rfl ?_ | refine ent_take 2 rfl ?_ | refine ent_take 3 rfl ?_ | refine ent_take 4 rfl ?_ | refine ent_take 5 rfl ?_ | refine ent_take 6 rfl ?_ | refine ent_take 7 rfl ?_)), ?_⟩
          rw [hsn]
          dsimp only
          refine dq rfl rfl rfl (neI rfl rfl) ?_
          refine dq rfl rfl rfl (mv (v := .bool _) rfl) ?_
          refine TD.known 53 rfl (b' := false) (by decide) ?_
          refine dg rfl rfl rfl rfl (mv (v := .pointer _) rfl) ?_
          refine dg rfl rfl rfl rfl (mv (v := .int _ _) rfl) ?_
          refine dg rfl rfl rfl rfl (mv (v := .slice _ _ _) rfl) ?_
          refine dg rfl rfl rfl rfl (mv (v := .int _ _) rfl) ?_
          first | refine dg rfl rfl rfl rfl (ixS 5 1 rfl rfl rfl (by omega) (by first | assumption | (simp [ints_length] <;> omega))) ?_ | refine dg rfl rfl rfl rfl (ixJ 5 1 rfl rfl rfl (by omega) (by omega) (by first | assumption | (simp [ints_length] <;> omega))) ?_ | refine dg rfl rfl rfl rfl (ix 5 1 rfl rfl rfl (by omega) (by omega) rfl) ?_
          first | refine dg rfl rfl rfl rfl (ld rfl rfl rfl) ?_ | refine dg rfl rfl rfl rfl (ldS rfl rfl (nums_get hx)) ?_ | refine dg rfl rfl rfl rfl (ldS rfl rfl rfl) ?_
          first | refine dg rfl rfl rfl rfl (conv .u8 .i64 rfl rfl rfl (wi64 (by omega) (by omega))) ?_ | refine dg rfl rfl rfl rfl (conv .u8 .i64 rfl rfl rfl rfl) ?_
          first | refine dg rfl rfl rfl rfl (addI rfl rfl (by omega) (by omega)) ?_ | refine dg rfl rfl rfl rfl (add rfl rfl rfl) ?_
          refine deg rfl rfl rfl ?_
          refine cl (left_ok a now (tn + 1) _ (hs1.q.bd (by omega)) (i : Int) (hs1.q.at1 (by omega))) rfl (picked_cons 0 rfl (picked_nil _)) trivial ?_
          intro _ _
          change ent _ _ ∧ TD _ _ _ _ _ _ _ _ _ _ (sepL [_, _, _])
          refine ⟨(by repeat (first | exact ent_nil _ | refine ent_take 0 rfl ?_ | refine ent_take 1 rfl ?_ | refine ent_take 2 rfl ?_ | refine ent_take 3 rfl ?_ | refine ent_take 4 rfl ?_ | refine ent_take 5 rfl ?_ | refine ent_take 6 rfl ?_ | refine ent_take 7 rfl ?_)), ?_⟩
          rw [hs2]
          refine dg rfl rfl rfl rfl (neI rfl rfl) ?_
          first | refine dq rfl rfl rfl (pkT rfl rfl) ?_ | refine dq rfl rfl rfl (pkF rfl rfl) ?_
          refine TD.nil (nt ?_)
          refine TC.condD rfl (fun hc1 => absurd hc1 (by simp)) (fun hc1 => ?_)
          refine TC.skip (nt ?_)
          refine TC.seq ?_
          refine TC.region ?_
          refine q rfl rfl (mv (v := .int _ _) rfl) ?_
          refine q rfl rfl (mv (v := .int _ _) rfl) ?_
          first | refine q rfl rfl (conv .u8 .i64 rfl rfl rfl (wi64 (by omega) (by omega))) ?_ | refine q rfl rfl (conv .u8 .i64 rfl rfl rfl rfl) ?_
          first | refine q rfl rfl (remI rfl rfl (by omega) (by omega)) ?_ | refine q rfl rfl (rem rfl rfl (by omega) rfl) ?_
          first | refine q rfl rfl (addI rfl rfl (by omega) (by omega)) ?_ | refine q rfl rfl (add rfl rfl rfl) ?_
          first | refine q rfl rfl (remI rfl rfl (by omega) (by omega)) ?_ | refine q rfl rfl (rem rfl rfl (by omega) rfl) ?_
          refine q rfl rfl (neI rfl rfl) ?_
          refine TL.nil (nt ?_)
          first | refine TC.condD rfl (fun hskip => ?_) (fun hskip => ?_) | refine TC.cond rfl (fun hskip => ?_) (fun hskip => ?_)
          · refine TC.exit (et (eb (nt ?_)))
            refine TC.region ?_
            refine q rfl rfl (mv (v := .int _ _) rfl) ?_
            first | refine q rfl rfl (addI rfl rfl (by omega) (by omega)) ?_ | refine q rfl rfl (add rfl rfl rfl) ?_
            refine q rfl rfl (asg (v := .int _ _) rfl) ?_
            refine TL.nil (nt ?_)
            exact ⟨rfl, ⟨i + 1, _, now, tn + 1, _, off⟩, ⟨by dsimp only; rw [show min (i + 1) l.length = i + 1 from by omega]; exact hs1.mono (by omega) (by omega), by dsimp only; omega⟩, (by dsimp only; omega), ⟨rfl, rfl, rfl, rfl, rfl, rfl, rfl, trivial⟩, (ent_take 1 rfl (ent_take 0 rfl (ent_take 0 rfl (ent_nil _))))⟩
          · refine TC.skip (nt ?_)
            exact ⟨rfl, ⟨_, tn + 1, _⟩, (by dsimp only; rw [show min (i + 1) l.length = i + 1 from by omega, show max 0 ((i : Int) - l.length) = 0 from by omega]; exact hs1.mono (by omega) (by omega)), ⟨rfl, rfl, rfl, rfl, rfl, rfl, rfl, trivial⟩, (ent_take 1 rfl (ent_take 0 rfl (ent_take 0 rfl (ent_nil _))))⟩
        · refine TC.skip (nt ?_)
          exact ⟨rfl, ⟨Q, tn, due⟩, (by dsimp only; rw [show min (i + 1) l.length = min i l.length from by omega]; exact hinv.mono (by omega) (Int.le_refl _)), ⟨rfl, rfl, rfl, rfl, rfl, rfl, rfl, trivial⟩, (ent_take 0 rfl (ent_take 0 rfl (ent_take 0 rfl (ent_nil _))))⟩
      · rintro ⟨Q1, tn1, due1⟩ hinv1 ρ1
        dsimp only [updL] at hinv1 ⊢
        have hdl1 := due_le (now + 1) Q1
        have hq1 := hinv1.q.len
        have hoj := hinv1.due
        have hdd : (ids (dueA (now + 1) Q1)).length = (dueA (now + 1) Q1).length := by rw [ids, List.length_map]
        have hof := hinv1.of
        refine TC.seq ?_
        refine TC.region ?_
        refine q rfl rfl (mv (v := .pointer _) rfl) ?_
        refine e rfl ?_
        refine cl (tick_ok a now tn1 Q1 (hinv1.q.bd (by omega)) (hinv1.q.at2 (by omega))) rfl PkL.p trivial ?_
        intro y _
        change TL _ _ _ _ _ _ _ _ (sepL [_, _, _, _])
        refine q rfl rfl (asg (v := .slice _ _ _) rfl) ?_
        refine TL.nil (nt ?_)
        refine TC.seq ?_
        refine TC.region ?_
        refine q rfl rfl (mv (v := .int _ _) rfl) ?_
        first | refine q rfl rfl (addI rfl rfl (by omega) (by omega)) ?_ | refine q rfl rfl (add rfl rfl rfl) ?_
        refine q rfl rfl (asg (v := .int _ _) rfl) ?_
        refine TL.nil (nt ?_)
        refine TC.seq ?_
        refine TC.region ?_
        refine q rfl rfl (asg (v := .int _ _) rfl) ?_
        refine TL.nil (nt ?_)
        refine TC.block ?_
        refine TC.loop (ι := Nat × List Int) (fun s => OJ l.length (dueA (now + 1) Q1) (restA (now + 1) Q1) (now + 1) s.1 s.2 ∧ s.1 ≤ (dueA (now + 1) Q1).length) (fun s => [(0, .slice ad l.length cap), (1, .int .u8 g), (5, .pointer (some ⟨a, 0, none⟩)), (6, .slice (some ⟨cb, 0, none⟩) l.length l.length), (7, .int .i64 (now + 1)), (8, .int .i64 (((off + s.1) : Nat) : Int)), (9, .int .i64 (i : Int)), (10, .slice y.1 (ids (dueA (now + 1) Q1)).length y.2), (11, .int .i64 ((s.1 : Nat) : Int))]) (fun s => sepL [slc 3 1 (some ⟨cb, 0, none⟩) l.length l.length (ints s.2), isAl a (now + 1) tn1 (restA (now + 1) Q1), slc 3 1 y.1 (ids (dueA (now + 1) Q1)).length y.2 (ints (ids (dueA (now + 1) Q1))), F]) (fun s => (dueA (now + 1) Q1).length - s.1) ⟨0, due1⟩ ⟨hoj, Nat.zero_le _⟩ ⟨rfl, rfl, rfl, rfl, rfl, rfl, rfl, rfl, rfl, trivial⟩ (ent_take 2 rfl (ent_take 1 rfl (ent_take 0 rfl (ent_take 0 rfl (ent_nil _))))) ?_
        rintro ⟨k, d2⟩ ⟨hj, hk⟩ ρ2
        dsimp only [updL] at hj hk ⊢
        refine TC.seq ?_
        refine TC.seq ?_
        refine TC.region ?_
        refine q rfl rfl (mv (v := .int _ _) rfl) ?_
        refine q rfl rfl (mv (v := .slice _ _ _) rfl) ?_
        refine q rfl rfl (len 3 1 rfl rfl) ?_
        refine q rfl rfl (lss rfl rfl) ?_
        refine TL.nil (nt ?_)
        first | refine TC.condD rfl (fun hkl => ?_) (fun hkl => ?_) | refine TC.cond rfl (fun hkl => ?_) (fun hkl => ?_)
        · have hkl2 : k < (dueA (now + 1) Q1).length := by omega
          obtain ⟨u, hu⟩ : ∃ u, (dueA (now + 1) Q1)[k]? = some u := ⟨_, List.getElem?_eq_getElem hkl2⟩
          obtain ⟨hur, huv⟩ := hinv1.at hu
          have hju := hj.a u (List.mem_of_getElem? (i := 0) (by rw [List.getElem?_drop]; exact hu))
          have hiu : (ids (dueA (now + 1) Q1))[k]? = some u.id := by rw [ids, List.getElem?_map, hu]; rfl
          have hd2 := hj.dl
          have hd2l := ints_length d2
          have hpos1 : 0 < (ints (ids (dueA (now + 1) Q1))).length := by rw [ints_length]; omega
          have hpos2 : 0 < (ints d2).length := by omega
          refine TC.skip (nt ?_)
          refine TC.seq ?_
          refine TC.block ?_
          refine TC.seq ?_
          refine TC.seq ?_
          refine TC.draw _ [] [(0, false), (1, false), (2, false), (3, false), (4, false), (5, false), (6, false), (7, false), (8, false), (9, false), (10, false), (11, false), (12, false), (13, false), (14, false), (15, false), (16, false), (17, false), (18, false), (19, false), (20, false), (21, false), (22, false), (23, false), (24, false), (25, false), (26, false), (27, false), (28, false), (29, false), (30, false), (31, false), (32, false), (33, false), (34, false), (35, false), (36, false), (37, false), (38, false), (39, false), (40, false)] (by kernel_rfl) (by kernel_rfl) (ent.refl _) ?_
          refine dq rfl rfl rfl (mv (v := .slice _ _ _) rfl) ?_
          refine dq rfl rfl rfl (mv (v := .int _ _) rfl) ?_
          first | refine dq rfl rfl rfl (ixS 3 1 rfl rfl rfl (by omega) (by first | assumption | (simp [ints_length] <;> omega))) ?_ | refine dq rfl rfl rfl (ixJ 3 1 rfl rfl rfl (by omega) (by omega) (by first | assumption | (simp [ints_length] <;> omega))) ?_ | refine dq rfl rfl rfl (ix 3 1 rfl rfl rfl (by omega) (by omega) rfl) ?_
          first | refine dq rfl rfl rfl (ld rfl rfl rfl) ?_ | refine dq rfl rfl rfl (ldS rfl rfl (ints_get hiu)) ?_ | refine dq rfl rfl rfl (ldS rfl rfl (ints_get hju)) ?_ | refine dq rfl rfl rfl (ldS rfl rfl rfl) ?_
          refine dq rfl rfl rfl (lss rfl rfl) ?_
          refine dq rfl rfl rfl (mv (v := .bool _) rfl) ?_
          refine TD.known 87 rfl (b' := false) (decide_eq_false (by omega)) ?_
          refine dg rfl rfl rfl rfl (mv (v := .slice _ _ _) rfl) ?_
          refine dg rfl rfl rfl rfl (mv (v := .int _ _) rfl) ?_
          first | refine dg rfl rfl rfl rfl (ixS 3 1 rfl rfl rfl (by omega) (by first | assumption | (simp [ints_length] <;> omega))) ?_ | refine dg rfl rfl rfl rfl (ixJ 3 1 rfl rfl rfl (by omega) (by omega) (by first | assumption | (simp [ints_length] <;> omega))) ?_ | refine dg rfl rfl rfl rfl (ix 3 1 rfl rfl rfl (by omega) (by omega) rfl) ?_
          first | refine dg rfl rfl rfl rfl (ld rfl rfl rfl) ?_ | refine dg rfl rfl rfl rfl (ldS rfl rfl (ints_get hiu)) ?_ | refine dg rfl rfl rfl rfl (ldS rfl rfl (ints_get hju)) ?_ | refine dg rfl rfl rfl rfl (ldS rfl rfl rfl) ?_
          refine dg rfl rfl rfl rfl (mv (v := .slice _ _ _) rfl) ?_
          refine dg rfl rfl rfl rfl (len 3 1 rfl rfl) ?_
          refine dg rfl rfl rfl rfl (geq rfl rfl) ?_
          first | refine dq rfl rfl rfl (pkT rfl rfl) ?_ | refine dq rfl rfl rfl (pkF rfl rfl) ?_
          refine dq rfl rfl rfl (mv (v := .bool _) rfl) ?_
          refine TD.known 96 rfl (b' := false) (decide_eq_false (by omega)) ?_
          refine dg rfl rfl rfl rfl (mv (v := .slice _ _ _) rfl) ?_
          refine dg rfl rfl rfl rfl (mv (v := .slice _ _ _) rfl) ?_
          refine dg rfl rfl rfl rfl (mv (v := .int _ _) rfl) ?_
          first | refine dg rfl rfl rfl rfl (ixS 3 1 rfl rfl rfl (by omega) (by first | assumption | (simp [ints_length] <;> omega))) ?_ | refine dg rfl rfl rfl rfl (ixJ 3 1 rfl rfl rfl (by omega) (by omega) (by first | assumption | (simp [ints_length] <;> omega))) ?_ | refine dg rfl rfl rfl rfl (ix 3 1 rfl rfl rfl (by omega) (by omega) rfl) ?_
          first | refine dg rfl rfl rfl rfl (ld rfl rfl rfl) ?_ | refine dg rfl rfl rfl rfl (ldS rfl rfl (ints_get hiu)) ?_ | refine dg rfl rfl rfl rfl (ldS rfl rfl (ints_get hju)) ?_ | refine dg rfl rfl rfl rfl (ldS rfl rfl rfl) ?_
          first | refine dg rfl rfl rfl rfl (ixS 3 1 rfl rfl rfl (by omega) (by first | assumption | (simp [ints_length] <;> omega))) ?_ | refine dg rfl rfl rfl rfl (ixJ 3 1 rfl rfl rfl (by omega) (by omega) (by first | assumption | (simp [ints_length] <;> omega))) ?_ | refine dg rfl rfl rfl rfl (ix 3 1 rfl rfl rfl (by omega) (by omega) rfl) ?_
          first | refine dg rfl rfl rfl rfl (ld rfl rfl rfl) ?_ | refine dg rfl rfl rfl rfl (ldS rfl rfl (ints_get hiu)) ?_ | refine dg rfl rfl rfl rfl (ldS rfl rfl (ints_get hju)) ?_ | refine dg rfl rfl rfl rfl (ldS rfl rfl rfl) ?_
          refine dg rfl rfl rfl rfl (mv (v := .int _ _) rfl) ?_
          refine dg rfl rfl rfl rfl (neI rfl rfl) ?_
          first | refine dq rfl rfl rfl (pkT rfl rfl) ?_ | refine dq rfl rfl rfl (pkF rfl rfl) ?_
          refine dq rfl rfl rfl (mv (v := .bool _) rfl) ?_
          refine TD.known 107 rfl (b' := false) (by simp) ?_
          refine dg rfl rfl rfl rfl (mv (v := .int _ _) rfl) ?_
          refine dg rfl rfl rfl rfl (gtr rfl rfl) ?_
          refine dg rfl rfl rfl rfl (mv (v := .bool _) rfl) ?_
          refine TD.split 110 rfl (fun hk0 => ?_) (fun hk0 => ?_)
          · have hk0 := of_decide_eq_true hk0
            obtain ⟨v, hv⟩ : ∃ v, (dueA (now + 1) Q1)[k - 1]? = some v := ⟨_, List.getElem?_eq_getElem (by omega)⟩
            have hlv := huv v (by omega) hv
            have hiv : (ids (dueA (now + 1) Q1))[((k : Int) - 1).toNat]? = some v.id := by rw [show ((k : Int) - 1).toNat = k - 1 from by omega, ids, List.getElem?_map, hv]; rfl
            refine dg rfl rfl rfl rfl (mv (v := .slice _ _ _) rfl) ?_
            refine dg rfl rfl rfl rfl (mv (v := .int _ _) rfl) ?_
            first | refine dg rfl rfl rfl rfl (ixS 3 1 rfl rfl rfl (by omega) (by first | assumption | (simp [ints_length] <;> omega))) ?_ | refine dg rfl rfl rfl rfl (ixJ 3 1 rfl rfl rfl (by omega) (by omega) (by first | assumption | (simp [ints_length] <;> omega))) ?_ | refine dg rfl rfl rfl rfl (ix 3 1 rfl rfl rfl (by omega) (by omega) rfl) ?_
            first | refine dg rfl rfl rfl rfl (ld rfl rfl rfl) ?_ | refine dg rfl rfl rfl rfl (ldS rfl rfl (ints_get hiu)) ?_ | refine dg rfl rfl rfl rfl (ldS rfl rfl (ints_get hju)) ?_ | refine dg rfl rfl rfl rfl (ldS rfl rfl (ints_get hiv)) ?_ | refine dg rfl rfl rfl rfl (ldS rfl rfl rfl) ?_
            refine dg rfl rfl rfl rfl (mv (v := .slice _ _ _) rfl) ?_
            refine dg rfl rfl rfl rfl (mv (v := .int _ _) rfl) ?_
            first | refine dg rfl rfl rfl rfl (subI rfl rfl (by omega) (by omega)) ?_ | refine dg rfl rfl rfl rfl (sub rfl rfl rfl) ?_
            first | refine dg rfl rfl rfl rfl (ixS 3 1 rfl rfl rfl (by omega) (by first | assumption | (simp [ints_length] <;> omega))) ?_ | refine dg rfl rfl rfl rfl (ixJ 3 1 rfl rfl rfl (by omega) (by omega) (by first | assumption | (simp [ints_length] <;> omega))) ?_ | refine dg rfl rfl rfl rfl (ix 3 1 rfl rfl rfl (by omega) (by omega) rfl) ?_
            first | refine dg rfl rfl rfl rfl (ld rfl rfl rfl) ?_ | refine dg rfl rfl rfl rfl (ldS rfl rfl (ints_get hiu)) ?_ | refine dg rfl rfl rfl rfl (ldS rfl rfl (ints_get hju)) ?_ | refine dg rfl rfl rfl rfl (ldS rfl rfl (ints_get hiv)) ?_ | refine dg rfl rfl rfl rfl (ldS rfl rfl rfl) ?_
            refine dg rfl rfl rfl rfl (leq rfl rfl) ?_
            first | refine dg rfl rfl rfl rfl (pkT rfl rfl) ?_ | refine dg rfl rfl rfl rfl (pkF rfl rfl) ?_
            first | refine dq rfl rfl rfl (pkT rfl rfl) ?_ | refine dq rfl rfl rfl (pkF rfl rfl) ?_
            refine TD.nil (nt ?_)
            refine TC.condD rfl (fun hc2 => absurd hc2 (by omega)) (fun hc2 => ?_)
            refine TC.skip (nt ?_)
            refine TC.seq ?_
            refine TC.region ?_
            refine q rfl rfl (mv (v := .slice _ _ _) rfl) ?_
            refine q rfl rfl (mv (v := .slice _ _ _) rfl) ?_
            refine q rfl rfl (mv (v := .int _ _) rfl) ?_
            first | refine q rfl rfl (ixS 3 1 rfl rfl rfl (by omega) (by first | assumption | (simp [ints_length] <;> omega))) ?_ | refine q rfl rfl (ixJ 3 1 rfl rfl rfl (by omega) (by omega) (by first | assumption | (simp [ints_length] <;> omega))) ?_ | refine q rfl rfl (ix 3 1 rfl rfl rfl (by omega) (by omega) rfl) ?_
            first | refine q rfl rfl (ld rfl rfl rfl) ?_ | refine q rfl rfl (ldS rfl rfl (ints_get hiu)) ?_ | refine q rfl rfl (ldS rfl rfl (ints_get hju)) ?_ | refine q rfl rfl (ldS rfl rfl (ints_get hiv)) ?_ | refine q rfl rfl (ldS rfl rfl rfl) ?_
            first | refine q rfl rfl (ixS 3 1 rfl rfl rfl (by omega) (by first | assumption | (simp [ints_length] <;> omega))) ?_ | refine q rfl rfl (ixJ 3 1 rfl rfl rfl (by omega) (by omega) (by first | assumption | (simp [ints_length] <;> omega))) ?_ | refine q rfl rfl (ix 3 1 rfl rfl rfl (by omega) (by omega) rfl) ?_
            refine e0 ?_
            first | refine st (v := .int _ _) (vs := [_]) 1 rfl rfl rfl rfl rfl rfl (Nat.le_of_ble_eq_true rfl) rfl ?_ | refine stS (v := .int _ _) (vs := [_]) 1 rfl rfl rfl rfl rfl rfl (by decide) (by omega) (ints_splice (i := u.id.toNat) (by omega) (by omega) _) ?_
            refine TL.nil (nt ?_)
            refine TC.region ?_
            refine q rfl rfl (mv (v := .int _ _) rfl) ?_
            first | refine q rfl rfl (addI rfl rfl (by omega) (by omega)) ?_ | refine q rfl rfl (add rfl rfl rfl) ?_
            refine q rfl rfl (asg (v := .int _ _) rfl) ?_
            refine TL.nil (nb (nt ?_))
            refine TC.region ?_
            refine q rfl rfl (mv (v := .int _ _) rfl) ?_
            first | refine q rfl rfl (addI rfl rfl (by omega) (by omega)) ?_ | refine q rfl rfl (add rfl rfl rfl) ?_
            refine q rfl rfl (asg (v := .int _ _) rfl) ?_
            refine TL.nil (nt ?_)
            exact ⟨rfl, ⟨k + 1, _⟩, ⟨hinv1.step hj hu, by dsimp only; omega⟩, (by dsimp only; omega), ⟨rfl, rfl, rfl, rfl, rfl, rfl, rfl, rfl, rfl, trivial⟩, (ent_take 0 rfl (ent_take 0 rfl (ent_take 0 rfl (ent_take 0 rfl (ent_nil _)))))⟩
          · have hk0 := of_decide_eq_false hk0
            refine dk rfl rfl rfl rfl ?_
            refine dk rfl rfl rfl rfl ?_
            refine dk rfl rfl rfl rfl ?_
            refine dk rfl rfl rfl rfl ?_
            refine dk rfl rfl rfl rfl ?_
            refine dk rfl rfl rfl rfl ?_
            refine dk rfl rfl rfl rfl ?_
            refine dk rfl rfl rfl rfl ?_
            refine dk rfl rfl rfl rfl ?_
            refine dk rfl rfl rfl rfl ?_
            first | refine dg rfl rfl rfl rfl (pkT rfl rfl) ?_ | refine dg rfl rfl rfl rfl (pkF rfl rfl) ?_
            first | refine dq rfl rfl rfl (pkT rfl rfl) ?_ | refine dq rfl rfl rfl (pkF rfl rfl) ?_
            refine TD.nil (nt ?_)
            refine TC.condF rfl ?_
            refine TC.skip (nt ?_)
            refine TC.seq ?_
            refine TC.region ?_
            refine q rfl rfl (mv (v := .slice _ _ _) rfl) ?_
            refine q rfl rfl (mv (v := .slice _ _ _) rfl) ?_
            refine q rfl rfl (mv (v := .int _ _) rfl) ?_
            first | refine q rfl rfl (ixS 3 1 rfl rfl rfl (by omega) (by first | assumption | (simp [ints_length] <;> omega))) ?_ | refine q rfl rfl (ixJ 3 1 rfl rfl rfl (by omega) (by omega) (by first | assumption | (simp [ints_length] <;> omega))) ?_ | refine q rfl rfl (ix 3 1 rfl rfl rfl (by omega) (by omega) rfl) ?_
            first | refine q rfl rfl (ld rfl rfl rfl) ?_ | refine q rfl rfl (ldS rfl rfl (ints_get hiu)) ?_ | refine q rfl rfl (ldS rfl rfl (ints_get hju)) ?_ | refine q rfl rfl (ldS rfl rfl rfl) ?_
            first | refine q rfl rfl (ixS 3 1 rfl rfl rfl (by omega) (by first | assumption | (simp [ints_length] <;> omega))) ?_ | refine q rfl rfl (ixJ 3 1 rfl rfl rfl (by omega) (by omega) (by first | assumption | (simp [ints_length] <;> omega))) ?_ | refine q rfl rfl (ix 3 1 rfl rfl rfl (by omega) (by omega) rfl) ?_
            refine e0 ?_
            first | refine st (v := .int _ _) (vs := [_]) 1 rfl rfl rfl rfl rfl rfl (Nat.le_of_ble_eq_true rfl) rfl ?_ | refine stS (v := .int _ _) (vs := [_]) 1 rfl rfl rfl rfl rfl rfl (by decide) (by omega) (ints_splice (i := u.id.toNat) (by omega) (by omega) _) ?_
            refine TL.nil (nt ?_)
            refine TC.region ?_
            refine q rfl rfl (mv (v := .int _ _) rfl) ?_
            first | refine q rfl rfl (addI rfl rfl (by omega) (by omega)) ?_ | refine q rfl rfl (add rfl rfl rfl) ?_
            refine q rfl rfl (asg (v := .int _ _) rfl) ?_
            refine TL.nil (nb (nt ?_))
            refine TC.region ?_
            refine q rfl rfl (mv (v := .int _ _) rfl) ?_
            first | refine q rfl rfl (addI rfl rfl (by omega) (by omega)) ?_ | refine q rfl rfl (add rfl rfl rfl) ?_
            refine q rfl rfl (asg (v := .int _ _) rfl) ?_
            refine TL.nil (nt ?_)
            exact ⟨rfl, ⟨k + 1, _⟩, ⟨hinv1.step hj hu, by dsimp only; omega⟩, (by dsimp only; omega), ⟨rfl, rfl, rfl, rfl, rfl, rfl, rfl, rfl, rfl, trivial⟩, (ent_take 0 rfl (ent_take 0 rfl (ent_take 0 rfl (ent_take 0 rfl (ent_nil _)))))⟩
        · obtain rfl : k = (dueA (now + 1) Q1).length := by omega
          have hinv2 := hinv1.tick hj
          refine TC.exit (et (et (eb (nb (nt ?_)))))
          refine TC.region ?_
          refine q rfl rfl (mv (v := .int _ _) rfl) ?_
          first | refine q rfl rfl (addI rfl rfl (by omega) (by omega)) ?_ | refine q rfl rfl (add rfl rfl rfl) ?_
          refine q rfl rfl (asg (v := .int _ _) rfl) ?_
          refine TL.nil (nt ?_)
          exact ⟨rfl, ⟨i + 1, _, now + 1, tn1, d2, _⟩, ⟨hinv2.mono (by dsimp only; omega) (by dsimp only; omega), by dsimp only; omega⟩, (by dsimp only; omega), ⟨rfl, rfl, rfl, rfl, rfl, rfl, rfl, trivial⟩, (ent_take 0 rfl (ent_take 0 rfl (ent_take 1 rfl (ent_nil _))))⟩
    · obtain rfl : i = l.length + 300 := by omega
      have hQ0 : Q.length = 0 := by
        rcases Q with _ | ⟨u, U⟩
        · rfl
        · have h1 := hinv.rg u (by simp); have h2 := hinv.q.rg u (by simp); omega
      have hof := hinv.of
      refine TC.exit (et (et (eb (nt ?_))))
      refine TC.seq ?_
      refine TC.region ?_
      refine q rfl rfl (mv (v := .int _ _) rfl) ?_
      refine q rfl rfl (mv (v := .slice _ _ _) rfl) ?_
      refine q rfl rfl (len 5 1 rfl rfl) ?_
      refine q rfl rfl (eqI rfl rfl) ?_
      refine q rfl rfl (mv (v := .bool _) rfl) ?_
      refine TL.known 135 rfl (c := true) (decide_eq_true (by omega)) ?_
      refine qg rfl rfl rfl (mv (v := .pointer _) rfl) ?_
      refine eg rfl rfl ?_
      refine cl (len_ok a now tn Q) rfl (picked_cons 1 rfl (picked_nil _)) trivial ?_
      intro _ _
      change TL _ _ _ _ _ _ _ _ (sepL [_, _, _])
      refine qg rfl rfl rfl (eqI rfl rfl) ?_
      first | refine q rfl rfl (pkT rfl rfl) ?_ | refine q rfl rfl (pkF rfl rfl) ?_
      refine q rfl rfl (mv (v := .bool _) rfl) ?_
      refine TL.known 140 rfl (c := true) (decide_eq_true (by omega)) ?_
      refine qg rfl rfl rfl (mv (v := .pointer _) rfl) ?_
      refine eg rfl rfl ?_
      refine cl (now_ok a now tn Q) rfl (picked_cons 0 rfl (picked_nil _)) trivial ?_
      intro _ _
      change TL _ _ _ _ _ _ _ _ (sepL [_, _, _])
      refine qg rfl rfl rfl (mv (v := .int _ _) rfl) ?_
      refine qg rfl rfl rfl (eqI rfl rfl) ?_
      first | refine q rfl rfl (pkT rfl rfl) ?_ | refine q rfl rfl (pkF rfl rfl) ?_
      refine q rfl rfl (asg (v := .bool _) rfl) ?_
      refine TL.nil (nt ?_)
      refine TC.ret ?_
      exact Ret.i () [_] ⟨rfl, trivial⟩ (congrArg Value.bool (decide_eq_true rfl)) trivial (ent_take 2 rfl (ent_nil _))

end Go.Proofs.Ytdikkmgcjhllaaa
