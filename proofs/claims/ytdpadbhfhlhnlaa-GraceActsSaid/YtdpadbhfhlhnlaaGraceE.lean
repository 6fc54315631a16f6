/-
  Proved here: what functions of this program compute, each as a contract over symbolic states, under the premises that each theorem names (most lines printed by a program of the prover).
-/
import Derived.Test.YtdpadbhfhlhnlaaGraceD
import Derived.Test.YtdpadbhfhlhnlaaQLibW
namespace Go.Proofs.Ytdpadbhfhlhnlaa
open Go Go.QM
theorem due_rest (n : Int) (l : List (Int × Int)) : dueL n l ++ restL n l = l := List.takeWhile_append_dropWhile
theorem due_le {n : Int} {l : List (Int × Int)} : ∀ t ∈ dueL n l, t.2 ≤ n := by
  induction l with
  | nil => intro t h; cases h
  | cons a l ih =>
    intro t h
    rw [dueL, List.takeWhile_cons] at h
    split at h
    · rename_i hd
      rcases List.mem_cons.1 h with rfl | h
      · simpa using hd
      · exact ih t h
    · cases h
theorem rest_gt {n : Int} {l : List (Int × Int)} (hs : l.Pairwise fun a b => a.2 ≤ b.2) : ∀ t ∈ restL n l, n < t.2 := by
  induction l with
  | nil => intro t h; cases h
  | cons a l ih =>
    intro t h
    rw [List.pairwise_cons] at hs
    rw [restL, List.dropWhile_cons] at h
    split at h
    · exact ih hs.2 t h
    · rename_i hd
      have ha : n < a.2 := by simpa using hd
      rcases List.mem_cons.1 h with rfl | h
      · exact ha
      · have := hs.1 t h; omega
structure OnceInv (p : Int) (L e : Nat) (now : Int) (due : Nat) (all : List (Int × Int)) (came : List Int) : Prop where
  hd : due ≤ all.length
  hm : all.length ≤ L
  hc : came.length = L
  hx : ∀ (j : Nat) (t : Int × Int), all[j]? = some t → t.1 = j ∧ came[j]? = some (t.2 - p)
  hw : ∀ t ∈ all.drop due, now < t.2
  hs : all.Pairwise fun a b => a.2 ≤ b.2
  hu : ∀ t ∈ all, t.2 ≤ now + p
  he : ∀ t ∈ all, t.2 - p + e ≤ now
  n0 : 0 ≤ now
theorem OnceInv.mono {p : Int} {L e e' : Nat} {now : Int} {due : Nat} {all : List (Int × Int)} {came : List Int} (h : OnceInv p L e now due all came) (he : e' ≤ e) : OnceInv p L e' now due all came :=
  ⟨h.hd, h.hm, h.hc, h.hx, h.hw, h.hs, h.hu, fun t ht => by have := h.he t ht; omega, h.n0⟩
theorem OnceInv.start (p : Int) (L : Nat) : OnceInv p L 0 0 0 [] (List.replicate L 0) :=
  ⟨by simp, by simp, by simp, by simp, by simp, by simp, by simp, by simp, by simp⟩
theorem OnceInv.add {p : Int} {L : Nat} {now : Int} {due : Nat} {all : List (Int × Int)} {came : List Int} (h : OnceInv p L 0 now due all came) (hp : 1 ≤ p) (hm : all.length < L) :
    OnceInv p L 0 now due (all ++ [((all.length : Int), now + p)]) (came.set all.length now) where
  hd := by simp; have := h.hd; omega
  hm := by simp; omega
  hc := by simp [h.hc]
  hx := fun j t hj => by
    rw [List.getElem?_append] at hj
    split at hj
    · rename_i hlt
      obtain ⟨h1, h2⟩ := h.hx j t hj
      exact ⟨h1, by rw [List.getElem?_set_ne (by omega)]; exact h2⟩
    · rename_i hge
      have hj0 : j = all.length := by
        have := (List.getElem?_eq_some_iff.1 hj).1
        simp at this; omega
      subst hj0
      simp at hj
      subst hj
      exact ⟨rfl, by rw [List.getElem?_set_self (by rw [h.hc]; omega)]; simp⟩
  hw := fun t ht => by
    rw [List.drop_append_of_le_length h.hd] at ht
    rcases List.mem_append.1 ht with ht | ht
    · exact h.hw t ht
    · rw [List.mem_singleton.1 ht]; show now < now + p; omega
  hs := by
    rw [List.pairwise_append]
    exact ⟨h.hs, by simp, fun a ha b hb => by rw [List.mem_singleton.1 hb]; exact h.hu a ha⟩
  hu := fun t ht => by
    rcases List.mem_append.1 ht with ht | ht
    · exact h.hu t ht
    · rw [List.mem_singleton.1 ht]; show now + p ≤ now + p; omega
  he := fun t ht => by
    rcases List.mem_append.1 ht with ht | ht
    · exact h.he t ht
    · rw [List.mem_singleton.1 ht]; show now + p - p + (0 : Nat) ≤ now; omega
  n0 := h.n0
theorem drop_split {α : Type} {l x r : List α} {k : Nat} (h : l.drop k = x ++ r) : l.drop (k + x.length) = r := by
  rw [← List.drop_drop, h, List.drop_left]
theorem OnceInv.tick {p : Int} {L e : Nat} {now : Int} {due : Nat} {all : List (Int × Int)} {came : List Int} (h : OnceInv p L e now due all came) :
    OnceInv p L (e + 1) (now + 1) (due + (dueL (now + 1) (all.drop due)).length) all came ∧ restL (now + 1) (all.drop due) = all.drop (due + (dueL (now + 1) (all.drop due)).length) ∧
    ∀ j, j < (dueL (now + 1) (all.drop due)).length → ∃ t, (dueL (now + 1) (all.drop due))[j]? = some t ∧ t.1 = ((due + j : Nat) : Int) ∧ came[due + j]? = some (now + 1 - p) := by
  have hsp := due_rest (now + 1) (all.drop due)
  have hdr : all.drop (due + (dueL (now + 1) (all.drop due)).length) = restL (now + 1) (all.drop due) := drop_split hsp.symm
  have hpw : (all.drop due).Pairwise fun a b => a.2 ≤ b.2 := h.hs.sublist (List.drop_sublist _ _)
  refine ⟨⟨?_, h.hm, h.hc, h.hx, ?_, h.hs, fun t ht => by have := h.hu t ht; omega, fun t ht => by have := h.he t ht; omega, by have := h.n0; omega⟩, hdr.symm, ?_⟩
  · have := congrArg List.length hsp
    simp only [List.length_append, List.length_drop] at this
    have := h.hd
    omega
  · rw [hdr]; exact rest_gt hpw
  · intro j hj
    have hg : (all.drop due)[j]? = some (dueL (now + 1) (all.drop due))[j] := by
      conv => lhs; rw [← hsp]
      rw [List.getElem?_append_left hj, List.getElem?_eq_getElem hj]
    rw [List.getElem?_drop] at hg
    obtain ⟨h1, h2⟩ := h.hx _ _ hg
    refine ⟨_, List.getElem?_eq_getElem hj, h1, ?_⟩
    rw [h2]
    have a1 := due_le _ (List.getElem_mem hj)
    have a2 := h.hw _ (List.mem_of_getElem? (by rw [List.getElem?_drop]; exact hg) : (dueL (now + 1) (all.drop due))[j] ∈ all.drop due)
    congr 1
    omega
theorem OnceInv.done {p : Int} {L : Nat} {now : Int} {due : Nat} {all : List (Int × Int)} {came : List Int} (h : OnceInv p L 20 now due all came) (hp : p ≤ 16) : due = all.length := by
  have := h.hd
  rcases Nat.lt_or_ge due all.length with hlt | hge
  · have hm : all[due] ∈ all.drop due := by rw [List.mem_drop_iff_getElem]; exact ⟨0, by omega, by simp⟩
    have a1 := h.hw _ hm
    have a2 := h.he _ (List.mem_of_mem_drop hm)
    omega
  · omega

theorem once_ok (a : Int) (ad : Option Addr) (l : List Int) (cap : Nat) (ha : 0 ≤ a ∧ a ≤ 255) (hl : ∀ x ∈ l, 0 ≤ x ∧ x ≤ 255) : FSpec Try.prog 4 [.int .u8 a, .slice ad l.length cap] (fun F => ∃ E, RdS F E ad (nums .u8 l)) [] (fun _ : Unit => .bool true) (fun _ => True) (fun _ => []) := by
  refine FSpec.intro (rs := [.tmp 4]) (by kernel_rfl) Try.func4 rfl Try.ntmps4 (by rfl) rfl ?_
  intro F ⟨E, hF⟩
  change TC _ _ _ _ _ _ _ (sepL [_])
  haveI : RdSI F ad E (nums .u8 l) := ⟨hF⟩
  refine TC.seq ?_
  refine TC.region ?_
  refine q rfl rfl (asg (v := .bool _) rfl) ?_
  refine TL.nil (nt ?_)
  refine TC.seq ?_
  refine TC.seq ?_
  refine TC.region ?_
  refine e rfl ?_
  refine cl alive_ok rfl (picked_nil _) trivial ?_
  intro _ _
  change TL _ _ _ _ _ _ _ _ (sepL [_])
  first | refine q rfl rfl (notD rfl) ?_ | refine q rfl rfl (notB rfl) ?_
  refine TL.nil (nt ?_)
  refine TC.condF rfl ?_
  refine TC.skip (nt ?_)
  refine TC.seq ?_
  refine TC.seq ?_
  refine TC.region ?_
  refine q rfl rfl (mv (v := .slice _ _ _) rfl) ?_
  refine q rfl rfl (len 5 1 rfl rfl) ?_
  refine q rfl rfl (gtr rfl rfl) ?_
  refine TL.nil (nt ?_)
  first | refine TC.condD rfl (fun hbig => ?_) (fun hbig => ?_) | refine TC.cond rfl (fun hbig => ?_) (fun hbig => ?_)
  · refine TC.seq ?_
    refine TC.region ?_
    refine q rfl rfl (asg (v := .bool _) rfl) ?_
    refine TL.nil (nt ?_)
    refine TC.ret (rt ?_)
    exact Ret.i () [_] ⟨rfl, trivial⟩ rfl trivial (ent_take 0 rfl (ent_nil _))
  · have hL : l.length ≤ 100 := by omega
    refine TC.skip (nt ?_)
    refine TC.seq ?_
    refine TC.region ?_
    refine q rfl rfl (mv (v := .int _ _) rfl) ?_
    first | refine q rfl rfl (conv .u8 .i64 rfl rfl rfl (wi64 (by omega) (by omega))) ?_ | refine q rfl rfl (conv .u8 .i64 rfl rfl rfl rfl) ?_
    first | refine q rfl rfl (remI rfl rfl (by omega) (by omega)) ?_ | refine q rfl rfl (rem rfl rfl (by omega) rfl) ?_
    first | refine q rfl rfl (addI rfl rfl (by omega) (by omega)) ?_ | refine q rfl rfl (add rfl rfl rfl) ?_
    refine q rfl rfl (asg (v := .int _ _) rfl) ?_
    refine TL.nil (nt ?_)
    refine TC.seq ?_
    refine TC.region ?_
    refine q rfl rfl (mv (v := .int _ _) rfl) ?_
    obtain ⟨pp, hpp⟩ : ∃ pp, pp = 1 + a % 16 := ⟨_, rfl⟩
    have hp1 : 1 ≤ pp ∧ pp ≤ 16 := by omega
    rw [← hpp]
    refine e rfl ?_
    refine cl (new_ok pp hp1.1 hp1.2) rfl (picked_nil _) trivial ?_
    intro qb _
    change TL _ _ _ _ _ _ _ _ (sepL [_, _])
    refine q rfl rfl (asg (v := .pointer _) rfl) ?_
    refine TL.nil (nt ?_)
    refine TC.seq ?_
    refine TC.region ?_
    refine q rfl rfl (mv (v := .slice _ _ _) rfl) ?_
    refine q rfl rfl (len 5 1 rfl rfl) ?_
    refine e rfl ?_
    refine mk1 (E := 3) (n := l.length) (z := .int .i64 0) 8 rfl rfl rfl rfl rfl rfl (by omega) (by simp only [maxLen]; omega) ?_
    intro cb
    change TL _ _ _ _ _ _ _ _ (sepL [_, _, _])
    refine q rfl rfl (asg (v := .slice _ _ _) rfl) ?_
    refine TL.nil (nt ?_)
    refine TC.seq ?_
    refine TC.region ?_
    refine q rfl rfl (asg (v := .int _ _) rfl) ?_
    refine q rfl rfl (asg (v := .int _ _) rfl) ?_
    refine TL.nil (nt ?_)
    refine TC.seq ?_
    refine TC.seq ?_
    refine TC.region ?_
    refine q rfl rfl (asg (v := .int _ _) rfl) ?_
    refine TL.nil (nt ?_)
    refine TC.block ?_
    refine TC.loop (ι := Nat × Int × Nat × List (Int × Int) × List Int) (fun s => OnceInv pp l.length (s.1 - l.length) s.2.1 s.2.2.1 s.2.2.2.1 s.2.2.2.2 ∧ s.2.2.2.1.length = min s.1 l.length ∧ s.1 ≤ l.length + 20 ∧ s.2.1 ≤ 3 * s.1) (fun s => [(1, .slice ad l.length cap), (5, .int .i64 pp), (6, .pointer (some ⟨qb, 0, none⟩)), (7, .slice (some ⟨cb, 0, none⟩) l.length l.length), (8, .int .i64 s.2.1), (9, .int .i64 ((s.2.2.1 : Nat) : Int)), (10, .int .i64 ((s.1 : Nat) : Int))]) (fun s => sepL [isQ qb pp s.2.1 ((s.2.2.2.1).drop (s.2.2.1)), slc 3 1 (some ⟨cb, 0, none⟩) l.length l.length (ints (s.2.2.2.2)), F]) (fun s => l.length + 20 - s.1) ⟨0, 0, 0, [], List.replicate l.length 0⟩ ⟨by simpa using OnceInv.start pp l.length, by simp, by dsimp only; omega, by dsimp only; omega⟩ ⟨rfl, rfl, rfl, rfl, rfl, rfl, rfl, trivial⟩ (ent_take 1 rfl (ent_takeE 0 rfl (by simp [ints]) (ent_take 0 rfl (ent_nil _)))) ?_
    rintro ⟨i, now, due, all, came⟩ ⟨hinv, hmin, hi, hnow⟩ ρ0
    dsimp only [updL] at hinv hmin hi hnow ⊢
    refine TC.seq ?_
    refine TC.seq ?_
    refine TC.region ?_
    refine q rfl rfl (mv (v := .int _ _) rfl) ?_
    refine q rfl rfl (mv (v := .slice _ _ _) rfl) ?_
    refine q rfl rfl (len 5 1 rfl rfl) ?_
    first | refine q rfl rfl (addI rfl rfl (by omega) (by omega)) ?_ | refine q rfl rfl (add rfl rfl rfl) ?_
    refine q rfl rfl (lss rfl rfl) ?_
    refine TL.nil (nt ?_)
    first | refine TC.condD rfl (fun hlt => ?_) (fun hlt => ?_) | refine TC.cond rfl (fun hlt => ?_) (fun hlt => ?_)
    · have hlt : i < l.length + 20 := by omega
      have hcl := hinv.hc
      have hn0 := hinv.n0
      have hdm := hinv.hd
      refine TC.skip (nt ?_)
      refine TC.seq ?_
      refine TC.block ?_
      refine TC.cut (ι := List (Int × Int) × List Int) (fun s => OnceInv pp l.length (i - l.length) now due s.1 s.2 ∧ s.1.length = min (i + 1) l.length) (fun s => [(1, .slice ad l.length cap), (5, .int .i64 pp), (6, .pointer (some ⟨qb, 0, none⟩)), (7, .slice (some ⟨cb, 0, none⟩) l.length l.length), (8, .int .i64 now), (9, .int .i64 ((due : Nat) : Int)), (10, .int .i64 ((i : Nat) : Int))]) (fun s => sepL [isQ qb pp now ((s.1).drop (due)), slc 3 1 (some ⟨cb, 0, none⟩) l.length l.length (ints (s.2)), F]) ?_ ?_
      · refine TC.seq ?_
        refine TC.region ?_
        refine q rfl rfl (mv (v := .int _ _) rfl) ?_
        refine q rfl rfl (mv (v := .slice _ _ _) rfl) ?_
        refine q rfl rfl (len 5 1 rfl rfl) ?_
        refine q rfl rfl (lss rfl rfl) ?_
        refine TL.nil (nt ?_)
        first | refine TC.condD rfl (fun hil => ?_) (fun hil => ?_) | refine TC.cond rfl (fun hil => ?_) (fun hil => ?_)
        · have hil : i < l.length := by omega
          have hml : all.length = i := by omega
          have h0 : i - l.length = 0 := by omega
          rw [h0] at hinv
          refine TC.seq ?_
          refine TC.region ?_
          refine q rfl rfl (mv (v := .pointer _) rfl) ?_
          refine q rfl rfl (mv (v := .int _ _) rfl) ?_
          refine e rfl ?_
          refine bs (cs := [.int _ _]) rfl ?_
          intro b1
          refine e rfl ?_
          refine cl (add_ok qb pp now (all.drop due) _ _ [(i : Int)] hp1 (by omega) (by simp; omega) (by simp)) rfl (picked_cons 1 rfl (picked_nil _)) ⟨_, RdSI.rd⟩ ?_
          intro _ _
          change TL _ _ _ _ _ _ _ _ (sepL [_, _, _, _])
          refine TL.nil (nt ?_)
          refine TC.region ?_
          refine q rfl rfl (mv (v := .slice _ _ _) rfl) ?_
          refine q rfl rfl (mv (v := .int _ _) rfl) ?_
          refine q rfl rfl (mv (v := .int _ _) rfl) ?_
          first | refine q rfl rfl (ixS 3 1 rfl rfl rfl (by omega) (by first | assumption | (simp [ints_length] <;> omega))) ?_ | refine q rfl rfl (ixJ 3 1 rfl rfl rfl (by omega) (by omega) (by first | assumption | (simp [ints_length] <;> omega))) ?_ | refine q rfl rfl (ix 3 1 rfl rfl rfl (by omega) (by omega) rfl) ?_
          refine e0 ?_
          first | refine st (v := .int _ _) (vs := [_]) 1 rfl rfl rfl rfl rfl rfl (Nat.le_of_ble_eq_true rfl) rfl ?_ | refine stS (v := .int _ _) (vs := [_]) 1 rfl rfl rfl rfl rfl rfl (by decide) (by rw [ints_length]; omega) rfl ?_
          refine TL.nil (nt ?_)
          exact ⟨rfl, ⟨all ++ [((all.length : Int), now + pp)], came.set all.length now⟩, ⟨by rw [h0]; exact hinv.add hp1.1 (by omega), by simp; omega⟩, ⟨rfl, rfl, rfl, rfl, rfl, rfl, rfl, trivial⟩, (ent_takeE 1 rfl (by rw [List.drop_append_of_le_length hinv.hd, hml]; rfl) (ent_takeE 0 rfl (by simp [ints, splice, hml, Value.cells, List.set_eq_take_append_cons_drop, hcl, hil]) (ent_take 1 rfl (ent_nil _))))⟩
        · refine TC.skip (nt ?_)
          exact ⟨rfl, ⟨all, came⟩, ⟨hinv, by dsimp only; omega⟩, ⟨rfl, rfl, rfl, rfl, rfl, rfl, rfl, trivial⟩, (ent_take 0 rfl (ent_take 0 rfl (ent_take 0 rfl (ent_nil _))))⟩
      · rintro ⟨all1, came1⟩ ⟨hinv1, hmin1⟩ ρ1
        dsimp only [updL] at hinv1 hmin1 ⊢
        refine TC.seq ?_
        refine TC.region ?_
        refine q rfl rfl (asg (v := .int _ _) rfl) ?_
        refine TL.nil (nt ?_)
        refine TC.cut (ι := Int) (fun tk => 0 ≤ tk ∧ tk ≤ 3 ∧ (l.length ≤ i → tk = 1)) (fun tk => [(1, .slice ad l.length cap), (5, .int .i64 pp), (6, .pointer (some ⟨qb, 0, none⟩)), (7, .slice (some ⟨cb, 0, none⟩) l.length l.length), (8, .int .i64 now), (9, .int .i64 ((due : Nat) : Int)), (10, .int .i64 ((i : Nat) : Int)), (11, .int .i64 tk)]) (fun tk => sepL [isQ qb pp now ((all1).drop (due)), slc 3 1 (some ⟨cb, 0, none⟩) l.length l.length (ints (came1)), F]) ?_ ?_
        · refine TC.seq ?_
          refine TC.region ?_
          refine q rfl rfl (mv (v := .int _ _) rfl) ?_
          refine q rfl rfl (mv (v := .slice _ _ _) rfl) ?_
          refine q rfl rfl (len 5 1 rfl rfl) ?_
          refine q rfl rfl (lss rfl rfl) ?_
          refine TL.nil (nt ?_)
          first | refine TC.condD rfl (fun hil => ?_) (fun hil => ?_) | refine TC.cond rfl (fun hil => ?_) (fun hil => ?_)
          · have hil : i < l.length := by omega
            obtain ⟨u, hu⟩ : ∃ u, l[i]? = some u := ⟨l[i], List.getElem?_eq_getElem hil⟩
            have hub := hl u (List.mem_of_getElem? hu)
            have hpos : 0 < (nums .u8 l).length := by rw [nums_length]; omega
            refine TC.region ?_
            refine q rfl rfl (mv (v := .slice _ _ _) rfl) ?_
            refine q rfl rfl (mv (v := .int _ _) rfl) ?_
            first | refine q rfl rfl (ixS 5 1 rfl rfl rfl (by omega) (by first | assumption | (simp [ints_length] <;> omega))) ?_ | refine q rfl rfl (ixJ 5 1 rfl rfl rfl (by omega) (by omega) (by first | assumption | (simp [ints_length] <;> omega))) ?_ | refine q rfl rfl (ix 5 1 rfl rfl rfl (by omega) (by omega) rfl) ?_
            first | refine q rfl rfl (ld rfl rfl rfl) ?_ | refine q rfl rfl (ldS rfl rfl (nums_get hu)) ?_ | refine q rfl rfl (ldS rfl rfl rfl) ?_
            first | refine q rfl rfl (conv .u8 .i64 rfl rfl rfl (wi64 (by omega) (by omega))) ?_ | refine q rfl rfl (conv .u8 .i64 rfl rfl rfl rfl) ?_
            first | refine q rfl rfl (remI rfl rfl (by omega) (by omega)) ?_ | refine q rfl rfl (rem rfl rfl (by omega) rfl) ?_
            refine q rfl rfl (asg (v := .int _ _) rfl) ?_
            refine TL.nil (nt ?_)
            exact ⟨rfl, (u % 4), ⟨by omega, by omega, fun h => by omega⟩, ⟨rfl, rfl, rfl, rfl, rfl, rfl, rfl, rfl, trivial⟩, (ent_take 0 rfl (ent_take 0 rfl (ent_take 0 rfl (ent_nil _))))⟩
          · refine TC.skip (nt ?_)
            exact ⟨rfl, 1, ⟨by omega, by omega, fun _ => rfl⟩, ⟨rfl, rfl, rfl, rfl, rfl, rfl, rfl, rfl, trivial⟩, (ent_take 0 rfl (ent_take 0 rfl (ent_take 0 rfl (ent_nil _))))⟩
        · rintro tk ⟨htk0, htk3, htk1⟩ ρ2
          dsimp only [updL] at htk0 htk3 htk1 ⊢
          refine TC.seq ?_
          refine TC.region ?_
          refine q rfl rfl (asg (v := .int _ _) rfl) ?_
          refine TL.nil (nt ?_)
          refine TC.block ?_
          refine TC.loop (ι := Nat × Int × Nat) (fun s => OnceInv pp l.length (i - l.length + s.1) s.2.1 s.2.2 all1 came1 ∧ s.2.1 ≤ now + s.1 ∧ (s.1 : Int) ≤ tk) (fun s => [(1, .slice ad l.length cap), (5, .int .i64 pp), (6, .pointer (some ⟨qb, 0, none⟩)), (7, .slice (some ⟨cb, 0, none⟩) l.length l.length), (8, .int .i64 s.2.1), (9, .int .i64 ((s.2.2 : Nat) : Int)), (10, .int .i64 ((i : Nat) : Int)), (11, .int .i64 tk), (12, .int .i64 ((s.1 : Nat) : Int))]) (fun s => sepL [isQ qb pp s.2.1 ((all1).drop (s.2.2)), slc 3 1 (some ⟨cb, 0, none⟩) l.length l.length (ints (came1)), F]) (fun s => (tk - s.1).toNat) ⟨0, now, due⟩ ⟨by simpa using hinv1, by dsimp only; omega, by dsimp only; omega⟩ ⟨rfl, rfl, rfl, rfl, rfl, rfl, rfl, rfl, rfl, trivial⟩ (ent_take 0 rfl (ent_take 0 rfl (ent_take 0 rfl (ent_nil _)))) ?_
          rintro ⟨k, now2, due2⟩ ⟨hinv2, hnow2, hk⟩ ρ3
          dsimp only [updL] at hinv2 hnow2 hk ⊢
          refine TC.seq ?_
          refine TC.seq ?_
          refine TC.region ?_
          refine q rfl rfl (mv (v := .int _ _) rfl) ?_
          refine q rfl rfl (mv (v := .int _ _) rfl) ?_
          refine q rfl rfl (lss rfl rfl) ?_
          refine TL.nil (nt ?_)
          first | refine TC.condD rfl (fun hkt => ?_) (fun hkt => ?_) | refine TC.cond rfl (fun hkt => ?_) (fun hkt => ?_)
          · have hn2 := hinv2.n0
            have hd2 := hinv2.hd
            have hm2 := hinv2.hm
            have hc2 := hinv2.hc
            obtain ⟨hinv3, hrest, hdue⟩ := hinv2.tick
            refine TC.skip (nt ?_)
            refine TC.seq ?_
            refine TC.block ?_
            refine TC.seq ?_
            refine TC.region ?_
            refine q rfl rfl (mv (v := .pointer _) rfl) ?_
            refine e rfl ?_
            refine cl (tick_ok qb pp now2 (all1.drop due2) (by omega) (by simp; omega)) rfl (picked_cons 0 rfl (picked_nil _)) trivial ?_
            intro y1 _
            change TL _ _ _ _ _ _ _ _ (sepL [_, _, _, _])
            rw [hrest]
            generalize dueL (now2 + 1) (all1.drop due2) = X at hinv3 hrest hdue ⊢
            have hd3 := hinv3.hd
            rw [show (X.map (·.1)).length = X.length from by simp]
            refine q rfl rfl (asg (v := .slice _ _ _) rfl) ?_
            refine TL.nil (nt ?_)
            refine TC.seq ?_
            refine TC.region ?_
            refine q rfl rfl (mv (v := .int _ _) rfl) ?_
            first | refine q rfl rfl (addI rfl rfl (by omega) (by omega)) ?_ | refine q rfl rfl (add rfl rfl rfl) ?_
            refine q rfl rfl (asg (v := .int _ _) rfl) ?_
            refine TL.nil (nt ?_)
            refine TC.seq ?_
            refine TC.region ?_
            refine q rfl rfl (asg (v := .int _ _) rfl) ?_
            refine TL.nil (nt ?_)
            refine TC.block ?_
            refine TC.loop (ι := Nat) (fun m => m ≤ X.length) (fun m => [(1, .slice ad l.length cap), (5, .int .i64 pp), (6, .pointer (some ⟨qb, 0, none⟩)), (7, .slice (some ⟨cb, 0, none⟩) l.length l.length), (8, .int .i64 (now2 + 1)), (9, .int .i64 ((due2 + m : Nat) : Int)), (10, .int .i64 ((i : Nat) : Int)), (11, .int .i64 tk), (12, .int .i64 (k : Int)), (13, .slice y1.1 X.length y1.2), (14, .int .i64 (m : Int))]) (fun m => sepL [isQ qb pp (now2 + 1) (all1.drop (due2 + X.length)), slc 3 1 y1.1 X.length y1.2 (ints (X.map (·.1))), slc 3 1 (some ⟨cb, 0, none⟩) l.length l.length (ints came1), F]) (fun m => X.length - m) 0 (Nat.zero_le _) ⟨rfl, rfl, rfl, rfl, rfl, rfl, rfl, rfl, rfl, rfl, rfl, trivial⟩ (ent_take 0 rfl (ent_take 0 rfl (ent_take 0 rfl (ent_take 0 rfl (ent_nil _))))) ?_
            rintro m hm ρ4
            dsimp only [updL] at hm ⊢
            refine TC.seq ?_
            refine TC.seq ?_
            refine TC.region ?_
            refine q rfl rfl (mv (v := .int _ _) rfl) ?_
            refine q rfl rfl (mv (v := .slice _ _ _) rfl) ?_
            refine q rfl rfl (len 3 1 rfl rfl) ?_
            refine q rfl rfl (lss rfl rfl) ?_
            refine TL.nil (nt ?_)
            first | refine TC.condD rfl (fun hmx => ?_) (fun hmx => ?_) | refine TC.cond rfl (fun hmx => ?_) (fun hmx => ?_)
            · have hmx : m < X.length := by omega
              obtain ⟨t, ht, ht1, htc⟩ := hdue m hmx
              have hX : (X.map (·.1))[m]? = some ((due2 + m : Nat) : Int) := by rw [List.getElem?_map, ht, Option.map_some, ht1]
              have hpos : 0 < (ints (X.map (·.1))).length := by rw [ints_length]; simp; omega
              have hpos2 : 0 < (ints came1).length := by rw [ints_length]; omega
              have hltc := (List.getElem?_eq_some_iff.1 htc).1
              refine TC.skip (nt ?_)
              refine TC.seq ?_
              refine TC.block ?_
              refine TC.seq ?_
              refine TC.seq ?_
              refine TC.region ?_
              refine q rfl rfl (mv (v := .slice _ _ _) rfl) ?_
              refine q rfl rfl (mv (v := .int _ _) rfl) ?_
              first | refine q rfl rfl (ixS 3 1 rfl rfl rfl (by omega) (by first | assumption | (simp [ints_length] <;> omega))) ?_ | refine q rfl rfl (ixJ 3 1 rfl rfl rfl (by omega) (by omega) (by first | assumption | (simp [ints_length] <;> omega))) ?_ | refine q rfl rfl (ix 3 1 rfl rfl rfl (by omega) (by omega) rfl) ?_
              first | refine q rfl rfl (ld rfl rfl rfl) ?_ | refine q rfl rfl (ldS rfl rfl (ints_get hX)) ?_ | refine q rfl rfl (ldS rfl rfl (ints_get htc)) ?_ | refine q rfl rfl (ldS rfl rfl rfl) ?_
              refine q rfl rfl (mv (v := .int _ _) rfl) ?_
              refine q rfl rfl (neI rfl rfl) ?_
              refine q rfl rfl (mv (v := .bool _) rfl) ?_
              refine TL.known 79 rfl (c := false) (decide_eq_false (by omega)) ?_
              refine qg rfl rfl rfl (mv (v := .int _ _) rfl) ?_
              refine qg rfl rfl rfl (mv (v := .slice _ _ _) rfl) ?_
              refine qg rfl rfl rfl (mv (v := .slice _ _ _) rfl) ?_
              refine qg rfl rfl rfl (mv (v := .int _ _) rfl) ?_
              first | refine qg rfl rfl rfl (ixS 3 1 rfl rfl rfl (by omega) (by first | assumption | (simp [ints_length] <;> omega))) ?_ | refine qg rfl rfl rfl (ixJ 3 1 rfl rfl rfl (by omega) (by omega) (by first | assumption | (simp [ints_length] <;> omega))) ?_ | refine qg rfl rfl rfl (ix 3 1 rfl rfl rfl (by omega) (by omega) rfl) ?_
              first | refine qg rfl rfl rfl (ld rfl rfl rfl) ?_ | refine qg rfl rfl rfl (ldS rfl rfl (ints_get hX)) ?_ | refine qg rfl rfl rfl (ldS rfl rfl (ints_get htc)) ?_ | refine qg rfl rfl rfl (ldS rfl rfl rfl) ?_
              first | refine qg rfl rfl rfl (ixS 3 1 rfl rfl rfl (by omega) (by first | assumption | (simp [ints_length] <;> omega))) ?_ | refine qg rfl rfl rfl (ixJ 3 1 rfl rfl rfl (by omega) (by omega) (by first | assumption | (simp [ints_length] <;> omega))) ?_ | refine qg rfl rfl rfl (ix 3 1 rfl rfl rfl (by omega) (by omega) rfl) ?_
              first | refine qg rfl rfl rfl (ld rfl rfl rfl) ?_ | refine qg rfl rfl rfl (ldS rfl rfl (ints_get hX)) ?_ | refine qg rfl rfl rfl (ldS rfl rfl (ints_get htc)) ?_ | refine qg rfl rfl rfl (ldS rfl rfl rfl) ?_
              refine qg rfl rfl rfl (mv (v := .int _ _) rfl) ?_
              first | refine qg rfl rfl rfl (addI rfl rfl (by omega) (by omega)) ?_ | refine qg rfl rfl rfl (add rfl rfl rfl) ?_
              refine qg rfl rfl rfl (neI rfl rfl) ?_
              first | refine q rfl rfl (pkT rfl rfl) ?_ | refine q rfl rfl (pkF rfl rfl) ?_
              refine TL.nil (nt ?_)
              refine TC.condD rfl (fun hc1 => absurd hc1 (by omega)) (fun hc1 => ?_)
              refine TC.skip (nt ?_)
              refine TC.region ?_
              refine q rfl rfl (mv (v := .int _ _) rfl) ?_
              first | refine q rfl rfl (addI rfl rfl (by omega) (by omega)) ?_ | refine q rfl rfl (add rfl rfl rfl) ?_
              refine q rfl rfl (asg (v := .int _ _) rfl) ?_
              refine TL.nil (nb (nt ?_))
              refine TC.region ?_
              refine q rfl rfl (mv (v := .int _ _) rfl) ?_
              first | refine q rfl rfl (addI rfl rfl (by omega) (by omega)) ?_ | refine q rfl rfl (add rfl rfl rfl) ?_
              refine q rfl rfl (asg (v := .int _ _) rfl) ?_
              refine TL.nil (nt ?_)
              exact ⟨rfl, (m + 1), (by omega), (by omega), ⟨rfl, rfl, rfl, rfl, rfl, rfl, rfl, rfl, rfl, rfl, rfl, trivial⟩, (ent_take 0 rfl (ent_take 0 rfl (ent_take 0 rfl (ent_take 0 rfl (ent_nil _)))))⟩
            · obtain rfl : m = X.length := by omega
              refine TC.exit (et (et (eb (nb (nt ?_)))))
              refine TC.region ?_
              refine q rfl rfl (mv (v := .int _ _) rfl) ?_
              first | refine q rfl rfl (addI rfl rfl (by omega) (by omega)) ?_ | refine q rfl rfl (add rfl rfl rfl) ?_
              refine q rfl rfl (asg (v := .int _ _) rfl) ?_
              refine TL.nil (nt ?_)
              exact ⟨rfl, ⟨k + 1, now2 + 1, due2 + X.length⟩, ⟨hinv3, by dsimp only; omega, by dsimp only; omega⟩, (by dsimp only; omega), ⟨rfl, rfl, rfl, rfl, rfl, rfl, rfl, rfl, rfl, trivial⟩, (ent_take 0 rfl (ent_take 1 rfl (ent_take 1 rfl (ent_nil _))))⟩
          · have hke : tk = k := by omega
            refine TC.exit (et (et (eb (nb (nt ?_)))))
            refine TC.region ?_
            refine q rfl rfl (mv (v := .int _ _) rfl) ?_
            first | refine q rfl rfl (addI rfl rfl (by omega) (by omega)) ?_ | refine q rfl rfl (add rfl rfl rfl) ?_
            refine q rfl rfl (asg (v := .int _ _) rfl) ?_
            refine TL.nil (nt ?_)
            exact ⟨rfl, ⟨i + 1, now2, due2, all1, came1⟩, ⟨hinv2.mono (by dsimp only; omega), hmin1, by dsimp only; omega, by dsimp only; omega⟩, (by dsimp only; omega), ⟨rfl, rfl, rfl, rfl, rfl, rfl, rfl, trivial⟩, (ent_take 0 rfl (ent_take 0 rfl (ent_take 0 rfl (ent_nil _))))⟩
    · obtain rfl : i = l.length + 20 := by omega
      have hdn : due = all.length := OnceInv.done (by simpa using hinv) hp1.2
      have hall : all.length = l.length := by omega
      have hdr : all.drop due = [] := by rw [hdn]; simp
      rw [hdr]
      have hn0 := hinv.n0
      refine TC.exit (et (et (eb (nt ?_))))
      refine TC.seq ?_
      refine TC.region ?_
      refine e rfl ?_
      refine cl alive_ok rfl (picked_nil _) trivial ?_
      intro _ _
      change TL _ _ _ _ _ _ _ _ (sepL [_, _, _])
      refine q rfl rfl (mv (v := .bool _) rfl) ?_
      refine TL.known 95 rfl (c := true) rfl ?_
      refine qg rfl rfl rfl (mv (v := .int _ _) rfl) ?_
      refine qg rfl rfl rfl (mv (v := .slice _ _ _) rfl) ?_
      refine qg rfl rfl rfl (len 5 1 rfl rfl) ?_
      refine qg rfl rfl rfl (eqI rfl rfl) ?_
      first | refine q rfl rfl (pkT rfl rfl) ?_ | refine q rfl rfl (pkF rfl rfl) ?_
      refine q rfl rfl (mv (v := .bool _) rfl) ?_
      refine TL.known 101 rfl (c := true) (decide_eq_true (by omega)) ?_
      refine qg rfl rfl rfl (mv (v := .pointer _) rfl) ?_
      refine eg rfl rfl ?_
      refine cl (list_ok qb pp now [] (by decide)) rfl (picked_nil _) (ent_one 0 rfl) ?_
      intro y3 _
      change TL _ _ _ _ _ _ _ _ (sepL [_, _, _, _])
      refine qg rfl rfl rfl (len 3 1 rfl rfl) ?_
      refine qg rfl rfl rfl (eqI rfl rfl) ?_
      first | refine q rfl rfl (pkT rfl rfl) ?_ | refine q rfl rfl (pkF rfl rfl) ?_
      refine q rfl rfl (asg (v := .bool _) rfl) ?_
      refine TL.nil (nt ?_)
      refine TC.ret ?_
      exact Ret.i () [_] ⟨rfl, trivial⟩ rfl trivial (ent_take 3 rfl (ent_nil _))

end Go.Proofs.Ytdpadbhfhlhnlaa
