/-
  Proved here: what functions of this program compute, each as a contract over symbolic states, under the premises that each theorem names (most lines printed by a program of the prover).
-/
import Derived.Test.YtgmniphegombhaaMtL
namespace Go.Proofs.Ytgmniphegombhaa
open Go Go.QM
def frs (s : MS) (y : Int) : List Int := (rowR s y).map (·.fr)
def Fr (s : MS) : Nat → List Int
  | 0 => []
  | n + 1 => Fr s n ++ frs s n
def Cl (s : MS) : Nat → List Int
  | 0 => []
  | n + 1 => Cl s n ++ if clR s n ≠ -1 then [clR s n] else []
theorem frs_in {s : MS} (h : WM s) {y : Int} {o : Off} (ho : o ∈ rowR s y) : y ∈ s.ids ∧ o.fr ∈ s.ids ∧ o.fr ≠ y ∧ s.st o.fr = 1 ∧ s.pn o.fr = y := by
  rw [rowR] at ho
  split at ho
  · rename_i hy; exact ⟨hy, h.row y hy o ho⟩
  · cases ho
theorem frs_mem {s : MS} (h : WM s) {y x : Int} : x ∈ frs s y ↔ x ∈ s.ids ∧ s.st x = 1 ∧ s.pn x = y := by
  constructor
  · intro hx
    obtain ⟨o, ho, rfl⟩ := List.mem_map.1 hx
    have := frs_in h ho
    exact ⟨this.2.1, this.2.2.2⟩
  · rintro ⟨h1, h2, rfl⟩
    obtain ⟨h3, o, h4, h5⟩ := h.snd x h1 h2
    exact List.mem_map.2 ⟨o, by rw [rowR, if_pos h3]; exact h4, h5⟩
theorem frs_nd {s : MS} (h : WM s) (y : Int) : (frs s y).Nodup := by
  rw [frs, rowR]; split
  · rename_i hy; exact h.nr y hy
  · simp
theorem Fr_mem {s : MS} (h : WM s) {x : Int} : ∀ {n : Nat}, x ∈ Fr s n ↔ x ∈ s.ids ∧ s.st x = 1 ∧ 0 ≤ s.pn x ∧ s.pn x < n
  | 0 => ⟨(fun h => by cases h), (fun h => by omega)⟩
  | n + 1 => by
    rw [Fr, List.mem_append, Fr_mem h, frs_mem h]
    constructor
    · rintro (h1 | h1)
      · exact ⟨h1.1, h1.2.1, by omega⟩
      · exact ⟨h1.1, h1.2.1, by omega⟩
    · rintro ⟨h1, h2, h3⟩
      by_cases e : s.pn x = (n : Int)
      · exact .inr ⟨h1, h2, e⟩
      · exact .inl ⟨h1, h2, by omega⟩
theorem clR_in {s : MS} (h : WM s) {y : Int} (hc : clR s y ≠ -1) : y ∈ s.ids ∧ clR s y ∈ s.ids ∧ clR s y ≠ y ∧ s.st (clR s y) = 3 ∧ s.pn (clR s y) = y := by
  rw [clR] at hc
  split at hc
  · rename_i hy
    rw [clR, if_pos hy]; exact ⟨hy, h.cal y hy hc⟩
  · exact absurd rfl hc
theorem Cl_mem {s : MS} (h : WM s) {x : Int} : ∀ {n : Nat}, x ∈ Cl s n ↔ x ∈ s.ids ∧ s.st x = 3 ∧ 0 ≤ s.pn x ∧ s.pn x < n
  | 0 => ⟨(fun h => by cases h), (fun h => by omega)⟩
  | n + 1 => by
    rw [Cl, List.mem_append, Cl_mem h]
    constructor
    · rintro (h1 | h1)
      · exact ⟨h1.1, h1.2.1, by omega⟩
      · split at h1
        · rename_i hc
          have := clR_in h hc
          rw [List.mem_singleton.1 h1]; exact ⟨this.2.1, this.2.2.2.1, by omega⟩
        · cases h1
    · rintro ⟨h1, h2, h3⟩
      by_cases e : s.pn x = (n : Int)
      · right
        obtain ⟨h4, h5⟩ := h.ask x h1 h2
        rw [e] at h4 h5
        have h6 : clR s n = x := by rw [clR, if_pos h4]; exact h5
        have := h.ge x h1
        rw [h6, if_pos (by omega)]; simp
      · exact .inl ⟨h1, h2, by omega⟩
def gO (Q : List Int) (v : Nat) : Value := .int .i64 (if (v : Int) ∈ Q then 1 else 0)
theorem gO_set {n : Nat} {Q Q' : List Int} {x : Int} (h0 : 0 ≤ x) (h1 : x < n) (hQ : ∀ y, y ∈ Q' ↔ y ∈ Q ∨ y = x) : splice x.toNat [.int .i64 (0 + 1)] (fl n (gO Q)) = fl n (gO Q') := by
  refine fl_set (by omega) ?_ fun u hu => ?_
  · rw [gO, if_pos ((hQ _).2 (.inr (by omega)))]; rfl
  · rw [gO, gO]
    by_cases hm : (u : Int) ∈ Q
    · rw [if_pos hm, if_pos ((hQ _).2 (.inl hm))]
    · rw [if_neg hm, if_neg (fun h => ((hQ _).1 h).elim hm (by omega))]
theorem gO_no {n : Nat} {Q : List Int} {x : Int} (h0 : 0 ≤ x) (h1 : x < n) (hx : x ∉ Q) : (fl n (gO Q))[x.toNat]? = some (.int .i64 0) := by
  rw [fl_get _ (by omega), gO, Int.toNat_of_nonneg h0, if_neg hx]
theorem gO_yes {n : Nat} {Q : List Int} {x : Int} (h0 : 0 ≤ x) (h1 : x < n) (hx : x ∈ Q) : (fl n (gO Q))[x.toNat]? = some (.int .i64 1) := by
  rw [fl_get _ (by omega), gO, Int.toNat_of_nonneg h0, if_pos hx]
theorem gO_ext {n : Nat} {Q Q' : List Int} (h : ∀ y, y ∈ Q ↔ y ∈ Q') : fl n (gO Q) = fl n (gO Q') := fl_congr fun v _ => by rw [gO, gO]; simp only [h]

set_option maxRecDepth 4000 in
set_option maxHeartbeats 2000000 in
theorem one_ok (ad : Option Addr) (l : List MAct) (cap : Nat) : FSpec Try.prog 6 [.slice ad l.length cap] (fun F => ∃ E, RdS F E ad (mactsC l)) [] (fun _ : Unit => .bool true) (fun _ => True) (fun _ => []) := by
  refine FSpec.intro (rs := [.tmp 2]) (by kernel_rfl) Try.func6 rfl Try.ntmps6 (by rfl) rfl ?_
  intro F ⟨E, hF⟩
  change TC _ _ _ _ _ _ _ (sepL [_])
  haveI : RdSI F ad E (mactsC l) := ⟨hF⟩
  refine TC.seq ?_
  refine TC.region ?_
  refine q rfl rfl (asg (v := .bool _) rfl) ?_
  refine TL.nil (nt ?_)
  refine TC.seq ?_
  refine TC.seq ?_
  refine TC.region ?_
  refine e rfl ?_
  refine cl alive_ok rfl (picked_nil _) trivial ?_
  intro _ _
  change TL _ _ _ _ _ _ _ _ (sepL [_])
  first | refine q rfl rfl (notD rfl) ?_ | refine q rfl rfl (notB rfl) ?_
  refine TL.nil (nt ?_)
  refine TC.condF rfl ?_
  refine TC.skip (nt ?_)
  refine TC.seq ?_
  refine TC.seq ?_
  refine TC.region ?_
  refine q rfl rfl (mv (v := .slice _ _ _) rfl) ?_
  refine q rfl rfl (len 63 5 rfl rfl) ?_
  refine q rfl rfl (gtr rfl rfl) ?_
  refine TL.nil (nt ?_)
  first | refine TC.condD rfl (fun hbig => ?_) (fun hbig => ?_) | refine TC.cond rfl (fun hbig => ?_) (fun hbig => ?_)
  · refine TC.seq ?_
    refine TC.region ?_
    refine q rfl rfl (asg (v := .bool _) rfl) ?_
    refine TL.nil (nt ?_)
    refine TC.ret (rt ?_)
    exact Ret.i () [_] ⟨rfl, trivial⟩ rfl trivial (ent_take 0 rfl (ent_nil _))
  · refine TC.skip (nt ?_)
    refine TC.seq ?_
    refine TC.region ?_
    refine e rfl ?_
    refine cl (mnew_ok (fun _ => 0)) rfl (picked_nil _) trivial ?_
    intro a _
    change TL _ _ _ _ _ _ _ _ (sepL [_, _])
    refine q rfl rfl (asg (v := .pointer _) rfl) ?_
    refine TL.nil (nt ?_)
    refine TC.seq ?_
    refine TC.seq ?_
    refine TC.region ?_
    refine q rfl rfl (mv (v := .pointer _) rfl) ?_
    refine e rfl ?_
    refine bs (E := 3) (sz := 1) (cs := ints [0, 1, 2, 3, 4, 5, 6, 7]) (by kernel_rfl) ?_
    intro b1
    refine e rfl ?_
    refine cl (mjoin_ok a (fun _ => 0) s0 (some ⟨b1, 0, none⟩) _ [0, 1, 2, 3, 4, 5, 6, 7] (by decide) (by decide)) rfl PkL.p ⟨_, RdSI.rd (ad := some ⟨b1, 0, none⟩)⟩ ?_
    intro A0 _
    change TL _ _ _ _ _ _ _ _ (sepL [_, _, _])
    rw [show ((joinL s0 [0, 1, 2, 3, 4, 5, 6, 7]).ids.length : Int) - (s0.ids.length : Int) = 8 from by kernel_rfl]
    refine q rfl rfl (neI rfl rfl) ?_
    refine TL.nil (nt ?_)
    refine TC.condD rfl (fun hc1 => absurd hc1 (by decide)) (fun hc1 => ?_)
    refine TC.skip (nt ?_)
    refine TC.seq ?_
    refine TC.region ?_
    refine q rfl rfl (mv (v := .pointer _) rfl) ?_
    refine q rfl rfl (mv (v := .slice _ _ _) rfl) ?_
    refine e rfl ?_
    refine cl (play_ok a A0 _ P8.start ad l cap (by omega)) rfl PkL.p ⟨_, RdSI.rd (ad := ad)⟩ ?_
    intro ys hP
    change TL _ _ _ _ _ _ _ _ (sepL [_, _, _])
    obtain ⟨A, s⟩ := ys
    dsimp only at hP ⊢
    have hsl := hP.len
    have hW := hP.wm
    refine TL.nil (nt ?_)
    refine TC.seq ?_
    refine TC.region ?_
    refine e rfl ?_
    refine al (l := [.int _ _, .int _ _, .int _ _, .int _ _, .int _ _, .int _ _, .int _ _, .int _ _]) rfl rfl ?_
    intro b2
    refine e rfl ?_
    refine al (l := [.int _ _, .int _ _, .int _ _, .int _ _, .int _ _, .int _ _, .int _ _, .int _ _]) rfl rfl ?_
    intro b3
    refine TL.nil (nt ?_)
    refine TC.seq ?_
    refine TC.seq ?_
    refine TC.region ?_
    refine q rfl rfl (asg (v := .int _ _) rfl) ?_
    refine TL.nil (nt ?_)
    refine TC.block ?_
    refine TC.loop (ι := Nat) (fun j => j ≤ 8) (fun j => [(3, .pointer (some ⟨a, 0, none⟩)), (4, .pointer (some ⟨b2, 0, none⟩)), (5, .pointer (some ⟨b3, 0, none⟩)), (6, .int .i64 ((j : Nat) : Int))]) (fun j => sepL [pts b2 44 (fl 8 (gO (Fr s j))), pts b3 44 (fl 8 (gO (Cl s j))), isMa a A s, F]) (fun j => 8 - j) 0 (Nat.zero_le _) ⟨rfl, rfl, rfl, rfl, trivial⟩ (ent_takeE 1 rfl (by kernel_rfl) (ent_takeE 0 rfl (by kernel_rfl) (by repeat (first | exact ent_nil _ | refine ent_take 0 rfl ?_ | refine ent_take 1 rfl ?_ | refine ent_take 2 rfl ?_ | refine ent_take 3 rfl ?_ | refine ent_take 4 rfl ?_ | refine ent_take 5 rfl ?_ | refine ent_take 6 rfl ?_ | refine ent_take 7 rfl ?_ | refine ent_take 8 rfl ?_ | refine ent_take 9 rfl ?_ | refine ent_take 10 rfl ?_ | refine ent_take 11 rfl ?_ | refine ent_take 12 rfl ?_)))) ?_
    rintro j hj ρ1
    dsimp only [updL] at hj ⊢
    refine TC.seq ?_
    refine TC.seq ?_
    refine TC.region ?_
    refine q rfl rfl (mv (v := .int _ _) rfl) ?_
    refine q rfl rfl (lss rfl rfl) ?_
    refine TL.nil (nt ?_)
    first | refine TC.condD rfl (fun hlt => ?_) (fun hlt => ?_) | refine TC.cond rfl (fun hlt => ?_) (fun hlt => ?_)
    · have hj8 : j < 8 := by omega
      have hrl := rowRlen hW (j : Int)
      refine TC.skip (nt ?_)
      refine TC.seq ?_
      refine TC.block ?_
      refine TC.seq ?_
      refine TC.region ?_
      refine q rfl rfl (mv (v := .pointer _) rfl) ?_
      refine q rfl rfl (mv (v := .int _ _) rfl) ?_
      refine e rfl ?_
      refine cl (mrow_ok a A s j (by omega)) rfl PkL.p trivial ?_
      intro yr _
      change TL _ _ _ _ _ _ _ _ (sepL [_, _, _, _, _])
      refine q rfl rfl (asg (v := .slice _ _ _) rfl) ?_
      refine TL.nil (nt ?_)
      refine TC.seq ?_
      refine TC.seq ?_
      refine TC.region ?_
      refine q rfl rfl (asg (v := .int _ _) rfl) ?_
      refine TL.nil (nt ?_)
      refine TC.block ?_
      refine TC.loop (ι := Nat) (fun k => k ≤ (rowR s j).length) (fun k => [(3, .pointer (some ⟨a, 0, none⟩)), (4, .pointer (some ⟨b2, 0, none⟩)), (5, .pointer (some ⟨b3, 0, none⟩)), (6, .int .i64 (j : Int)), (7, .slice yr.1 (rowR s j).length yr.2), (8, .int .i64 ((k : Nat) : Int))]) (fun k => sepL [pts b2 44 (fl 8 (gO (Fr s j ++ (frs s j).take k))), pts b3 44 (fl 8 (gO (Cl s j))), slc 31 3 yr.1 (rowR s j).length yr.2 (ofsC (rowR s j)), isMa a A s, F]) (fun k => (rowR s j).length - k) 0 (Nat.zero_le _) ⟨rfl, rfl, rfl, rfl, rfl, rfl, trivial⟩ (ent_takeE 2 rfl (congrArg (pts b2 44) (gO_ext (fun y => by simp))) (by repeat (first | exact ent_nil _ | refine ent_take 0 rfl ?_ | refine ent_take 1 rfl ?_ | refine ent_take 2 rfl ?_ | refine ent_take 3 rfl ?_ | refine ent_take 4 rfl ?_ | refine ent_take 5 rfl ?_ | refine ent_take 6 rfl ?_ | refine ent_take 7 rfl ?_ | refine ent_take 8 rfl ?_ | refine ent_take 9 rfl ?_ | refine ent_take 10 rfl ?_ | refine ent_take 11 rfl ?_ | refine ent_take 12 rfl ?_))) ?_
      rintro k hk ρ2
      dsimp only [updL] at hk ⊢
      refine TC.seq ?_
      refine TC.seq ?_
      refine TC.region ?_
      refine q rfl rfl (mv (v := .int _ _) rfl) ?_
      refine q rfl rfl (mv (v := .slice _ _ _) rfl) ?_
      refine q rfl rfl (len 31 3 rfl rfl) ?_
      refine q rfl rfl (lss rfl rfl) ?_
      refine TL.nil (nt ?_)
      first | refine TC.condD rfl (fun hlk => ?_) (fun hlk => ?_) | refine TC.cond rfl (fun hlk => ?_) (fun hlk => ?_)
      · have hk2 : k < (rowR s j).length := by omega
        obtain ⟨o, ho⟩ : ∃ o, (rowR s j)[k]? = some o := ⟨_, List.getElem?_eq_getElem hk2⟩
        obtain ⟨hji, f1, f2, f3, f4⟩ := frs_in hW (List.mem_of_getElem? ho)
        have f5 := hP.rg _ f1
        have e1 : stR s o.fr = 1 := by rw [stR, if_pos f1]; exact f3
        have e2 : pnR s o.fr = (j : Int) := by rw [pnR, if_pos f1]; exact f4
        have hof : (frs s j)[k]? = some o.fr := by rw [frs, List.getElem?_map, ho]; rfl
        have hpos : 0 < (ofsC (rowR s j)).length := by rw [ofsC_length]; omega
        have hfr : o.fr ∉ Fr s j ++ (frs s j).take k := fun h => by
          rcases List.mem_append.1 h with h | h
          · have := (Fr_mem hW).1 h; omega
          · exact take_fresh (frs_nd hW j) hof h
        have hQ : ∀ y, y ∈ Fr s j ++ (frs s j).take (k + 1) ↔ y ∈ Fr s j ++ (frs s j).take k ∨ y = o.fr := fun y => by
          rw [List.take_add_one, hof]; simp [or_assoc]
        refine TC.skip (nt ?_)
        refine TC.seq ?_
        refine TC.block ?_
        refine TC.seq ?_
        refine TC.region ?_
        refine q rfl rfl (mv (v := .slice _ _ _) rfl) ?_
        refine q rfl rfl (mv (v := .int _ _) rfl) ?_
        first | refine q rfl rfl (ixS 31 3 rfl rfl rfl (by omega) (by first | assumption | (simp [ints_length] <;> omega))) ?_ | refine q rfl rfl (ixJ 31 3 rfl rfl rfl (by omega) (by omega) (by first | assumption | (simp [ints_length] <;> omega))) ?_ | refine q rfl rfl (ix 31 3 rfl rfl rfl (by omega) (by omega) rfl) ?_
        first | refine q rfl rfl (fa 0 rfl rfl) ?_ | refine q rfl rfl (faS 0 rfl rfl (by first | assumption | (simp [ints_length] <;> omega))) ?_
        first | refine q rfl rfl (ld rfl rfl rfl) ?_ | refine q rfl rfl (ldS rfl rfl (flat_ld ofC_sz ho 0 (by omega) rfl)) ?_ | refine q rfl rfl (ldS rfl rfl rfl) ?_
        refine q rfl rfl (asg (v := .int _ _) rfl) ?_
        refine TL.nil (nt ?_)
        refine TC.seq ?_
        refine TC.seq ?_
        refine TC.region ?_
        refine q rfl rfl (mv (v := .int _ _) rfl) ?_
        refine q rfl rfl (lss rfl rfl) ?_
        refine q rfl rfl (mv (v := .bool _) rfl) ?_
        refine TL.known 47 rfl (c := false) (decide_eq_false (by omega)) ?_
        refine qg rfl rfl rfl (mv (v := .int _ _) rfl) ?_
        refine qg rfl rfl rfl (gtr rfl rfl) ?_
        first | refine q rfl rfl (pkT (v := .bool _) rfl rfl) ?_ | refine q rfl rfl (pkF (v := .bool _) rfl rfl) ?_
        refine q rfl rfl (mv (v := .bool _) rfl) ?_
        refine TL.known 51 rfl (c := false) (decide_eq_false (by omega)) ?_
        refine qg rfl rfl rfl (mv (v := .int _ _) rfl) ?_
        refine qg rfl rfl rfl (mv (v := .int _ _) rfl) ?_
        refine qg rfl rfl rfl (eqI rfl rfl) ?_
        first | refine q rfl rfl (pkT (v := .bool _) rfl rfl) ?_ | refine q rfl rfl (pkF (v := .bool _) rfl rfl) ?_
        refine q rfl rfl (mv (v := .bool _) rfl) ?_
        refine TL.known 56 rfl (c := false) (decide_eq_false f2) ?_
        refine qg rfl rfl rfl (mv (v := .pointer _) rfl) ?_
        refine qg rfl rfl rfl (mv (v := .int _ _) rfl) ?_
        refine eg rfl rfl ?_
        refine cl (mstate_ok a A s o.fr) rfl PkL.p trivial ?_
        intro _ _
        change TL _ _ _ _ _ _ _ _ (sepL [_, _, _, _, _])
        rw [e1]
        refine qg rfl rfl rfl (neI rfl rfl) ?_
        first | refine q rfl rfl (pkT (v := .bool _) rfl rfl) ?_ | refine q rfl rfl (pkF (v := .bool _) rfl rfl) ?_
        refine q rfl rfl (mv (v := .bool _) rfl) ?_
        refine TL.known 62 rfl (c := false) (by decide) ?_
        refine qg rfl rfl rfl (mv (v := .pointer _) rfl) ?_
        refine qg rfl rfl rfl (mv (v := .int _ _) rfl) ?_
        refine eg rfl rfl ?_
        refine cl (mpartner_ok a A s o.fr) rfl PkL.p trivial ?_
        intro _ _
        change TL _ _ _ _ _ _ _ _ (sepL [_, _, _, _, _])
        rw [e2]
        refine qg rfl rfl rfl (mv (v := .int _ _) rfl) ?_
        refine qg rfl rfl rfl (neI rfl rfl) ?_
        first | refine q rfl rfl (pkT (v := .bool _) rfl rfl) ?_ | refine q rfl rfl (pkF (v := .bool _) rfl rfl) ?_
        refine TL.nil (nt ?_)
        refine TC.condD rfl (fun hc2 => absurd hc2 (by simp)) (fun hc2 => ?_)
        refine TC.skip (nt ?_)
        refine TC.region ?_
        refine q rfl rfl (mv (v := .int _ _) rfl) ?_
        refine q rfl rfl (ixAl 8 3 1 rfl rfl rfl (by omega) (by omega)) ?_
        first | refine q rfl rfl (ld rfl rfl rfl) ?_ | refine q rfl rfl (ld rfl rfl (by rw [Nat.zero_add, Nat.mul_one]; exact gO_no (by omega) (by omega) hfr)) ?_ | refine q rfl rfl (ldS rfl rfl (flat_ld ofC_sz ho 0 (by omega) rfl)) ?_ | refine q rfl rfl (ldS rfl rfl rfl) ?_
        first | refine q rfl rfl (addI rfl rfl (by omega) (by omega)) ?_ | refine q rfl rfl (add rfl rfl rfl) ?_
        refine q rfl rfl (ixAl 8 3 1 rfl rfl rfl (by omega) (by omega)) ?_
        refine e0 ?_
        first | refine st (v := .int _ _) (vs := [_]) 1 rfl rfl rfl rfl rfl rfl (Nat.le_of_ble_eq_true rfl) rfl ?_ | refine st (v := .int _ _) (vs := [_]) 1 rfl rfl rfl rfl rfl rfl (by rw [fl_length]; simp <;> omega) ((congrArg (fun n => splice n [.int .i64 (0 + 1)] (fl 8 (gO (Fr s j ++ (frs s j).take k)))) (by rw [Nat.zero_add, Nat.mul_one])).trans (gO_set (by omega) (by omega) hQ)) ?_
        refine TL.nil (nb (nt ?_))
        refine TC.region ?_
        refine q rfl rfl (mv (v := .int _ _) rfl) ?_
        first | refine q rfl rfl (addI rfl rfl (by omega) (by omega)) ?_ | refine q rfl rfl (add rfl rfl rfl) ?_
        refine q rfl rfl (asg (v := .int _ _) rfl) ?_
        refine TL.nil (nt ?_)
        exact ⟨rfl, (k + 1), (by omega), (by omega), ⟨rfl, rfl, rfl, rfl, rfl, rfl, trivial⟩, (by repeat (first | exact ent_nil _ | refine ent_take 0 rfl ?_ | refine ent_take 1 rfl ?_ | refine ent_take 2 rfl ?_ | refine ent_take 3 rfl ?_ | refine ent_take 4 rfl ?_ | refine ent_take 5 rfl ?_ | refine ent_take 6 rfl ?_ | refine ent_take 7 rfl ?_ | refine ent_take 8 rfl ?_ | refine ent_take 9 rfl ?_ | refine ent_take 10 rfl ?_ | refine ent_take 11 rfl ?_ | refine ent_take 12 rfl ?_))⟩
      · obtain rfl : k = (rowR s j).length := by omega
        have hQe : Fr s j ++ (frs s j).take (rowR s j).length = Fr s (j + 1) := by rw [Fr, List.take_of_length_le (by rw [frs, List.length_map]; exact Nat.le_refl _)]
        rw [hQe]
        refine TC.exit (et (et (eb (nt ?_))))
        refine TC.seq ?_
        refine TC.region ?_
        refine q rfl rfl (mv (v := .pointer _) rfl) ?_
        refine q rfl rfl (mv (v := .int _ _) rfl) ?_
        refine e rfl ?_
        refine cl (mcaller_ok a A s j) rfl PkL.p trivial ?_
        intro _ _
        change TL _ _ _ _ _ _ _ _ (sepL [_, _, _, _, _])
        refine q rfl rfl (asg (v := .int _ _) rfl) ?_
        refine TL.nil (nt ?_)
        refine TC.seq ?_
        refine TC.seq ?_
        refine TC.region ?_
        refine q rfl rfl (mv (v := .int _ _) rfl) ?_
        refine q rfl rfl (eqI rfl rfl) ?_
        refine TL.nil (nt ?_)
        first | refine TC.condD rfl (fun hc => ?_) (fun hc => ?_) | refine TC.cond rfl (fun hc => ?_) (fun hc => ?_)
        · have hCe : Cl s (j + 1) = Cl s j := by rw [Cl, if_neg (fun h => h hc), List.append_nil]
          refine TC.exit (et (eb (nt ?_)))
          refine TC.region ?_
          refine q rfl rfl (mv (v := .int _ _) rfl) ?_
          first | refine q rfl rfl (addI rfl rfl (by omega) (by omega)) ?_ | refine q rfl rfl (add rfl rfl rfl) ?_
          refine q rfl rfl (asg (v := .int _ _) rfl) ?_
          refine TL.nil (nt ?_)
          exact ⟨rfl, (j + 1), (by omega), (by omega), ⟨rfl, rfl, rfl, rfl, trivial⟩, (ent_take 1 rfl (ent_takeE 1 rfl (by rw [hCe]) (by repeat (first | exact ent_nil _ | refine ent_take 0 rfl ?_ | refine ent_take 1 rfl ?_ | refine ent_take 2 rfl ?_ | refine ent_take 3 rfl ?_ | refine ent_take 4 rfl ?_ | refine ent_take 5 rfl ?_ | refine ent_take 6 rfl ?_ | refine ent_take 7 rfl ?_ | refine ent_take 8 rfl ?_ | refine ent_take 9 rfl ?_ | refine ent_take 10 rfl ?_ | refine ent_take 11 rfl ?_ | refine ent_take 12 rfl ?_))))⟩
        · obtain ⟨hji, f1, f2, f3, f4⟩ := clR_in hW hc
          have hCe : Cl s (j + 1) = Cl s j ++ [clR s j] := by rw [Cl, if_pos hc]
          generalize clR s j = cc at hc f1 f2 f3 f4 hCe ⊢
          have f5 := hP.rg _ f1
          have e1 : stR s cc = 3 := by rw [stR, if_pos f1]; exact f3
          have e2 : pnR s cc = (j : Int) := by rw [pnR, if_pos f1]; exact f4
          have hfr : cc ∉ Cl s j := fun h => by have := (Cl_mem hW).1 h; omega
          have hQ : ∀ y, y ∈ Cl s (j + 1) ↔ y ∈ Cl s j ∨ y = cc := fun y => by rw [hCe]; simp
          refine TC.skip (nt ?_)
          refine TC.seq ?_
          refine TC.seq ?_
          refine TC.region ?_
          refine q rfl rfl (mv (v := .int _ _) rfl) ?_
          refine q rfl rfl (lss rfl rfl) ?_
          refine q rfl rfl (mv (v := .bool _) rfl) ?_
          refine TL.known 81 rfl (c := false) (decide_eq_false (by omega)) ?_
          refine qg rfl rfl rfl (mv (v := .int _ _) rfl) ?_
          refine qg rfl rfl rfl (gtr rfl rfl) ?_
          first | refine q rfl rfl (pkT (v := .bool _) rfl rfl) ?_ | refine q rfl rfl (pkF (v := .bool _) rfl rfl) ?_
          refine q rfl rfl (mv (v := .bool _) rfl) ?_
          refine TL.known 85 rfl (c := false) (decide_eq_false (by omega)) ?_
          refine qg rfl rfl rfl (mv (v := .int _ _) rfl) ?_
          refine qg rfl rfl rfl (mv (v := .int _ _) rfl) ?_
          refine qg rfl rfl rfl (eqI rfl rfl) ?_
          first | refine q rfl rfl (pkT (v := .bool _) rfl rfl) ?_ | refine q rfl rfl (pkF (v := .bool _) rfl rfl) ?_
          refine q rfl rfl (mv (v := .bool _) rfl) ?_
          refine TL.known 90 rfl (c := false) (decide_eq_false f2) ?_
          refine qg rfl rfl rfl (mv (v := .pointer _) rfl) ?_
          refine qg rfl rfl rfl (mv (v := .int _ _) rfl) ?_
          refine eg rfl rfl ?_
          refine cl (mstate_ok a A s cc) rfl PkL.p trivial ?_
          intro _ _
          change TL _ _ _ _ _ _ _ _ (sepL [_, _, _, _, _])
          rw [e1]
          refine qg rfl rfl rfl (neI rfl rfl) ?_
          first | refine q rfl rfl (pkT (v := .bool _) rfl rfl) ?_ | refine q rfl rfl (pkF (v := .bool _) rfl rfl) ?_
          refine q rfl rfl (mv (v := .bool _) rfl) ?_
          refine TL.known 96 rfl (c := false) (by decide) ?_
          refine qg rfl rfl rfl (mv (v := .pointer _) rfl) ?_
          refine qg rfl rfl rfl (mv (v := .int _ _) rfl) ?_
          refine eg rfl rfl ?_
          refine cl (mpartner_ok a A s cc) rfl PkL.p trivial ?_
          intro _ _
          change TL _ _ _ _ _ _ _ _ (sepL [_, _, _, _, _])
          rw [e2]
          refine qg rfl rfl rfl (mv (v := .int _ _) rfl) ?_
          refine qg rfl rfl rfl (neI rfl rfl) ?_
          first | refine q rfl rfl (pkT (v := .bool _) rfl rfl) ?_ | refine q rfl rfl (pkF (v := .bool _) rfl rfl) ?_
          refine TL.nil (nt ?_)
          refine TC.condD rfl (fun hc3 => absurd hc3 (by simp)) (fun hc3 => ?_)
          refine TC.skip (nt ?_)
          refine TC.region ?_
          refine q rfl rfl (mv (v := .int _ _) rfl) ?_
          refine q rfl rfl (ixAl 8 3 1 rfl rfl rfl (by omega) (by omega)) ?_
          first | refine q rfl rfl (ld rfl rfl rfl) ?_ | refine q rfl rfl (ld rfl rfl (by rw [Nat.zero_add, Nat.mul_one]; exact gO_no (by omega) (by omega) hfr)) ?_ | refine q rfl rfl (ldS rfl rfl rfl) ?_
          first | refine q rfl rfl (addI rfl rfl (by omega) (by omega)) ?_ | refine q rfl rfl (add rfl rfl rfl) ?_
          refine q rfl rfl (ixAl 8 3 1 rfl rfl rfl (by omega) (by omega)) ?_
          refine e0 ?_
          first | refine st (v := .int _ _) (vs := [_]) 1 rfl rfl rfl rfl rfl rfl (Nat.le_of_ble_eq_true rfl) rfl ?_ | refine st (v := .int _ _) (vs := [_]) 1 rfl rfl rfl rfl rfl rfl (by rw [fl_length]; simp <;> omega) ((congrArg (fun n => splice n [.int .i64 (0 + 1)] (fl 8 (gO (Cl s j)))) (by rw [Nat.zero_add, Nat.mul_one])).trans (gO_set (by omega) (by omega) hQ)) ?_
          refine TL.nil (nb (nt ?_))
          refine TC.region ?_
          refine q rfl rfl (mv (v := .int _ _) rfl) ?_
          first | refine q rfl rfl (addI rfl rfl (by omega) (by omega)) ?_ | refine q rfl rfl (add rfl rfl rfl) ?_
          refine q rfl rfl (asg (v := .int _ _) rfl) ?_
          refine TL.nil (nt ?_)
          exact ⟨rfl, (j + 1), (by omega), (by omega), ⟨rfl, rfl, rfl, rfl, trivial⟩, (by repeat (first | exact ent_nil _ | refine ent_take 0 rfl ?_ | refine ent_take 1 rfl ?_ | refine ent_take 2 rfl ?_ | refine ent_take 3 rfl ?_ | refine ent_take 4 rfl ?_ | refine ent_take 5 rfl ?_ | refine ent_take 6 rfl ?_ | refine ent_take 7 rfl ?_ | refine ent_take 8 rfl ?_ | refine ent_take 9 rfl ?_ | refine ent_take 10 rfl ?_ | refine ent_take 11 rfl ?_ | refine ent_take 12 rfl ?_))⟩
    · obtain rfl : j = 8 := by omega
      refine TC.exit (et (et (eb (nt ?_))))
      refine TC.seq ?_
      refine TC.seq ?_
      refine TC.region ?_
      refine q rfl rfl (asg (v := .int _ _) rfl) ?_
      refine TL.nil (nt ?_)
      refine TC.block ?_
      refine TC.loop (ι := Nat) (fun k => k ≤ 8) (fun k => [(3, .pointer (some ⟨a, 0, none⟩)), (4, .pointer (some ⟨b2, 0, none⟩)), (5, .pointer (some ⟨b3, 0, none⟩)), (11, .int .i64 ((k : Nat) : Int))]) (fun k => sepL [pts b2 44 (fl 8 (gO (Fr s 8))), pts b3 44 (fl 8 (gO (Cl s 8))), isMa a A s, F]) (fun k => 8 - k) 0 (Nat.zero_le _) ⟨rfl, rfl, rfl, rfl, trivial⟩ (by repeat (first | exact ent_nil _ | refine ent_take 0 rfl ?_ | refine ent_take 1 rfl ?_ | refine ent_take 2 rfl ?_ | refine ent_take 3 rfl ?_ | refine ent_take 4 rfl ?_ | refine ent_take 5 rfl ?_ | refine ent_take 6 rfl ?_ | refine ent_take 7 rfl ?_ | refine ent_take 8 rfl ?_ | refine ent_take 9 rfl ?_ | refine ent_take 10 rfl ?_ | refine ent_take 11 rfl ?_ | refine ent_take 12 rfl ?_)) ?_
      rintro k hk ρ3
      dsimp only [updL] at hk ⊢
      refine TC.seq ?_
      refine TC.seq ?_
      refine TC.region ?_
      refine q rfl rfl (mv (v := .int _ _) rfl) ?_
      refine q rfl rfl (lss rfl rfl) ?_
      refine TL.nil (nt ?_)
      first | refine TC.condD rfl (fun hlt => ?_) (fun hlt => ?_) | refine TC.cond rfl (fun hlt => ?_) (fun hlt => ?_)
      · have hk8 : k < 8 := by omega
        have hF : (k : Int) ∈ Fr s 8 ↔ stR s k = 1 := by
          rw [Fr_mem hW, stR]
          constructor
          · rintro ⟨h1, h2, _⟩; rw [if_pos h1]; exact h2
          · intro h
            split at h
            · rename_i h1
              have h3 := hP.rg _ (hW.snd k h1 h).1
              exact ⟨h1, h, by omega⟩
            · omega
        have hC : (k : Int) ∈ Cl s 8 ↔ stR s k = 3 := by
          rw [Cl_mem hW, stR]
          constructor
          · rintro ⟨h1, h2, _⟩; rw [if_pos h1]; exact h2
          · intro h
            split at h
            · rename_i h1
              have h3 := hP.rg _ (hW.ask k h1 h).1
              exact ⟨h1, h, by omega⟩
            · omega
        have hpo : stR s k = 1 ∨ stR s k = 3 → pnR s k ≠ -1 ∧ stR s (pnR s k) ≠ -1 := fun h => by
          rw [stR] at h
          split at h
          · rename_i h1
            have h2 : s.pn k ∈ s.ids := h.elim (fun h => (hW.snd k h1 h).1) (fun h => (hW.ask k h1 h).1)
            have h3 := hP.rg _ h2
            have h4 := hW.rg _ h2
            rw [pnR, if_pos h1, stR, if_pos h2]; omega
          · omega
        have hpn : stR s k ≠ 1 → stR s k ≠ 3 → pnR s k = -1 := fun h2 h3 => by
          rw [pnR]
          split
          · rename_i h1
            rw [stR, if_pos h1] at h2 h3
            exact hW.idle k h1 h2 h3
          · rfl
        rcases Decidable.em (stR s k = 1) with h1 | h1
        · have hg1 := gO_yes (n := 8) (Q := Fr s 8) (x := (k : Int)) (by omega) (by omega) (hF.2 h1)
          have hg2 := gO_no (n := 8) (Q := Cl s 8) (x := (k : Int)) (by omega) (by omega) (fun h => absurd (hC.1 h) (by omega))
          rw [Int.toNat_natCast] at hg1 hg2
          obtain ⟨hp1, hp2⟩ := hpo (.inl h1)
          refine TC.skip (nt ?_)
          refine TC.seq ?_
          refine TC.block ?_
          refine TC.seq ?_
          refine TC.region ?_
          refine q rfl rfl (mv (v := .pointer _) rfl) ?_
          refine q rfl rfl (mv (v := .int _ _) rfl) ?_
          refine e rfl ?_
          refine cl (mstate_ok a A s k) rfl PkL.p trivial ?_
          intro _ _
          change TL _ _ _ _ _ _ _ _ (sepL [_, _, _, _])
          rw [h1]
          refine q rfl rfl (mv (v := .pointer _) rfl) ?_
          refine q rfl rfl (mv (v := .int _ _) rfl) ?_
          refine e rfl ?_
          refine cl (mpartner_ok a A s k) rfl PkL.p trivial ?_
          intro _ _
          change TL _ _ _ _ _ _ _ _ (sepL [_, _, _, _])
          refine q rfl rfl (asg (v := .int _ _) rfl) ?_
          refine q rfl rfl (asg (v := .int _ _) rfl) ?_
          refine TL.nil (nt ?_)
          refine TC.seq ?_
          refine TC.draw _ [] [(0, false), (1, false), (2, false), (3, false), (4, false), (5, false), (6, false), (7, false), (8, false), (9, false), (10, false), (11, false), (12, false), (13, false), (14, false), (15, false), (16, false), (17, false), (18, false), (19, false), (20, false), (21, false), (22, false), (23, false), (24, false), (25, false), (26, false), (27, false), (28, false), (29, false), (30, false), (31, false), (32, false), (33, false), (34, false), (35, false), (36, false), (37, false), (38, false), (39, false), (40, false), (41, false), (42, false), (43, true), (44, false), (45, false), (46, false)] (by kernel_rfl) (by kernel_rfl) (ent_take 1 rfl (ent_take 1 rfl (ent_nil _))) ?_
          refine dq rfl rfl rfl (mv (v := .int _ _) rfl) ?_
          refine dq rfl rfl rfl (eqI rfl rfl) ?_
          refine dq rfl rfl rfl (mv (v := .int _ _) rfl) ?_
          refine dq rfl rfl rfl (ixAl 8 3 1 rfl rfl rfl (by omega) (by omega)) ?_
          first | refine dq rfl rfl rfl (ld rfl rfl rfl) ?_ | refine dq rfl rfl rfl (ld rfl rfl (by rw [Nat.zero_add, Nat.mul_one, Int.toNat_natCast]; exact hg1)) ?_ | refine dq rfl rfl rfl (ld rfl rfl (by rw [Nat.zero_add, Nat.mul_one, Int.toNat_natCast]; exact hg2)) ?_ | refine dq rfl rfl rfl (ldS rfl rfl rfl) ?_
          refine dq rfl rfl rfl (eqI rfl rfl) ?_
          refine dq rfl rfl rfl (neBo rfl rfl rfl) ?_
          refine dq rfl rfl rfl (mv (v := .bool _) rfl) ?_
          refine TD.known 125 rfl (b' := false) (by decide) ?_
          refine dg rfl rfl rfl rfl (mv (v := .int _ _) rfl) ?_
          refine dg rfl rfl rfl rfl (eqI rfl rfl) ?_
          refine dg rfl rfl rfl rfl (mv (v := .int _ _) rfl) ?_
          refine dg rfl rfl rfl rfl (ixAl 8 3 1 rfl rfl rfl (by omega) (by omega)) ?_
          first | refine dg rfl rfl rfl rfl (ld rfl rfl rfl) ?_ | refine dg rfl rfl rfl rfl (ld rfl rfl (by rw [Nat.zero_add, Nat.mul_one, Int.toNat_natCast]; exact hg1)) ?_ | refine dg rfl rfl rfl rfl (ld rfl rfl (by rw [Nat.zero_add, Nat.mul_one, Int.toNat_natCast]; exact hg2)) ?_ | refine dg rfl rfl rfl rfl (ldS rfl rfl rfl) ?_
          refine dg rfl rfl rfl rfl (eqI rfl rfl) ?_
          refine dg rfl rfl rfl rfl (neBo rfl rfl rfl) ?_
          first | refine dq rfl rfl rfl (pkT (v := .bool _) rfl rfl) ?_ | refine dq rfl rfl rfl (pkF (v := .bool _) rfl rfl) ?_
          refine dq rfl rfl rfl (mv (v := .bool _) rfl) ?_
          refine TD.known 134 rfl (b' := false) (by decide) ?_
          refine dg rfl rfl rfl rfl (mv (v := .int _ _) rfl) ?_
          refine dg rfl rfl rfl rfl (ixAl 8 3 1 rfl rfl rfl (by omega) (by omega)) ?_
          first | refine dg rfl rfl rfl rfl (ld rfl rfl rfl) ?_ | refine dg rfl rfl rfl rfl (ld rfl rfl (by rw [Nat.zero_add, Nat.mul_one, Int.toNat_natCast]; exact hg1)) ?_ | refine dg rfl rfl rfl rfl (ld rfl rfl (by rw [Nat.zero_add, Nat.mul_one, Int.toNat_natCast]; exact hg2)) ?_ | refine dg rfl rfl rfl rfl (ldS rfl rfl rfl) ?_
          refine dg rfl rfl rfl rfl (mv (v := .int _ _) rfl) ?_
          refine dg rfl rfl rfl rfl (ixAl 8 3 1 rfl rfl rfl (by omega) (by omega)) ?_
          first | refine dg rfl rfl rfl rfl (ld rfl rfl rfl) ?_ | refine dg rfl rfl rfl rfl (ld rfl rfl (by rw [Nat.zero_add, Nat.mul_one, Int.toNat_natCast]; exact hg1)) ?_ | refine dg rfl rfl rfl rfl (ld rfl rfl (by rw [Nat.zero_add, Nat.mul_one, Int.toNat_natCast]; exact hg2)) ?_ | refine dg rfl rfl rfl rfl (ldS rfl rfl rfl) ?_
          first | refine dg rfl rfl rfl rfl (addI rfl rfl (by omega) (by omega)) ?_ | refine dg rfl rfl rfl rfl (add rfl rfl rfl) ?_
          refine dg rfl rfl rfl rfl (gtr rfl rfl) ?_
          first | refine dq rfl rfl rfl (pkT (v := .bool _) rfl rfl) ?_ | refine dq rfl rfl rfl (pkF (v := .bool _) rfl rfl) ?_
          refine dq rfl rfl rfl (mv (v := .bool _) rfl) ?_
          refine TD.known 144 rfl (b' := false) (by decide) ?_
          refine dg rfl rfl rfl rfl (mv (v := .int _ _) rfl) ?_
          refine dg rfl rfl rfl rfl (eqI rfl rfl) ?_
          refine dg rfl rfl rfl rfl (mv (v := .bool _) rfl) ?_
          refine TD.known 147 rfl (b' := true) (by decide) ?_
          refine dk rfl rfl rfl rfl ?_
          refine dk rfl rfl rfl rfl ?_
          first | refine dg rfl rfl rfl rfl (pkT (v := .bool _) rfl rfl) ?_ | refine dg rfl rfl rfl rfl (pkF (v := .bool _) rfl rfl) ?_
          refine dg rfl rfl rfl rfl (mv (v := .int _ _) rfl) ?_
          refine dg rfl rfl rfl rfl (neI rfl rfl) ?_
          refine dg rfl rfl rfl rfl (neBo rfl rfl rfl) ?_
          first | refine dq rfl rfl rfl (pkT (v := .bool _) rfl rfl) ?_ | refine dq rfl rfl rfl (pkF (v := .bool _) rfl rfl) ?_
          refine dq rfl rfl rfl (mv (v := .bool _) rfl) ?_
          refine TD.known 155 rfl (b' := false) (by simp [hp1]) ?_
          refine dg rfl rfl rfl rfl (mv (v := .int _ _) rfl) ?_
          refine dg rfl rfl rfl rfl (neI rfl rfl) ?_
          refine dg rfl rfl rfl rfl (mv (v := .bool _) rfl) ?_
          refine TD.known 158 rfl (b' := true) (decide_eq_true hp1) ?_
          refine dg rfl rfl rfl rfl (mv (v := .pointer _) rfl) ?_
          refine dg rfl rfl rfl rfl (mv (v := .int _ _) rfl) ?_
          refine deg rfl rfl rfl ?_
          refine cl (mstate_ok a A s (pnR s k)) rfl PkL.p trivial ?_
          intro _ _
          change ent _ _ ∧ TD _ _ _ _ _ _ _ _ _ _ (sepL [_, _, _, _])
          refine ⟨(by repeat (first | exact ent_nil _ | refine ent_take 0 rfl ?_ | refine ent_take 1 rfl ?_ | refine ent_take 2 rfl ?_ | refine ent_take 3 rfl ?_ | refine ent_take 4 rfl ?_ | refine ent_take 5 rfl ?_ | refine ent_take 6 rfl ?_ | refine ent_take 7 rfl ?_ | refine ent_take 8 rfl ?_ | refine ent_take 9 rfl ?_ | refine ent_take 10 rfl ?_ | refine ent_take 11 rfl ?_ | refine ent_take 12 rfl ?_)), ?_⟩
          refine dg rfl rfl rfl rfl (eqI rfl rfl) ?_
          first | refine dg rfl rfl rfl rfl (pkT (v := .bool _) rfl rfl) ?_ | refine dg rfl rfl rfl rfl (pkF (v := .bool _) rfl rfl) ?_
          first | refine dq rfl rfl rfl (pkT (v := .bool _) rfl rfl) ?_ | refine dq rfl rfl rfl (pkF (v := .bool _) rfl rfl) ?_
          refine TD.nil (nt ?_)
          refine TC.condD rfl (fun hc4 => absurd hc4 (hp2)) (fun hc4 => ?_)
          refine TC.skip (nb (nt ?_))
          refine TC.region ?_
          refine q rfl rfl (mv (v := .int _ _) rfl) ?_
          first | refine q rfl rfl (addI rfl rfl (by omega) (by omega)) ?_ | refine q rfl rfl (add rfl rfl rfl) ?_
          refine q rfl rfl (asg (v := .int _ _) rfl) ?_
          refine TL.nil (nt ?_)
          exact ⟨rfl, (k + 1), (by omega), (by omega), ⟨rfl, rfl, rfl, rfl, trivial⟩, (by repeat (first | exact ent_nil _ | refine ent_take 0 rfl ?_ | refine ent_take 1 rfl ?_ | refine ent_take 2 rfl ?_ | refine ent_take 3 rfl ?_ | refine ent_take 4 rfl ?_ | refine ent_take 5 rfl ?_ | refine ent_take 6 rfl ?_ | refine ent_take 7 rfl ?_ | refine ent_take 8 rfl ?_ | refine ent_take 9 rfl ?_ | refine ent_take 10 rfl ?_ | refine ent_take 11 rfl ?_ | refine ent_take 12 rfl ?_))⟩
        · rcases Decidable.em (stR s k = 3) with h3 | h3
          · have hg1 := gO_no (n := 8) (Q := Fr s 8) (x := (k : Int)) (by omega) (by omega) (fun h => absurd (hF.1 h) (by omega))
            have hg2 := gO_yes (n := 8) (Q := Cl s 8) (x := (k : Int)) (by omega) (by omega) (hC.2 h3)
            rw [Int.toNat_natCast] at hg1 hg2
            obtain ⟨hp1, hp2⟩ := hpo (.inr h3)
            refine TC.skip (nt ?_)
            refine TC.seq ?_
            refine TC.block ?_
            refine TC.seq ?_
            refine TC.region ?_
            refine q rfl rfl (mv (v := .pointer _) rfl) ?_
            refine q rfl rfl (mv (v := .int _ _) rfl) ?_
            refine e rfl ?_
            refine cl (mstate_ok a A s k) rfl PkL.p trivial ?_
            intro _ _
            change TL _ _ _ _ _ _ _ _ (sepL [_, _, _, _])
            rw [h3]
            refine q rfl rfl (mv (v := .pointer _) rfl) ?_
            refine q rfl rfl (mv (v := .int _ _) rfl) ?_
            refine e rfl ?_
            refine cl (mpartner_ok a A s k) rfl PkL.p trivial ?_
            intro _ _
            change TL _ _ _ _ _ _ _ _ (sepL [_, _, _, _])
            refine q rfl rfl (asg (v := .int _ _) rfl) ?_
            refine q rfl rfl (asg (v := .int _ _) rfl) ?_
            refine TL.nil (nt ?_)
            refine TC.seq ?_
            refine TC.draw _ [] [(0, false), (1, false), (2, false), (3, false), (4, false), (5, false), (6, false), (7, false), (8, false), (9, false), (10, false), (11, false), (12, false), (13, false), (14, false), (15, false), (16, false), (17, false), (18, false), (19, false), (20, false), (21, false), (22, false), (23, false), (24, false), (25, false), (26, false), (27, false), (28, false), (29, false), (30, false), (31, false), (32, false), (33, false), (34, false), (35, false), (36, false), (37, false), (38, false), (39, false), (40, false), (41, false), (42, false), (43, true), (44, false), (45, false), (46, false)] (by kernel_rfl) (by kernel_rfl) (ent_take 1 rfl (ent_take 1 rfl (ent_nil _))) ?_
            refine dq rfl rfl rfl (mv (v := .int _ _) rfl) ?_
            refine dq rfl rfl rfl (eqI rfl rfl) ?_
            refine dq rfl rfl rfl (mv (v := .int _ _) rfl) ?_
            refine dq rfl rfl rfl (ixAl 8 3 1 rfl rfl rfl (by omega) (by omega)) ?_
            first | refine dq rfl rfl rfl (ld rfl rfl rfl) ?_ | refine dq rfl rfl rfl (ld rfl rfl (by rw [Nat.zero_add, Nat.mul_one, Int.toNat_natCast]; exact hg1)) ?_ | refine dq rfl rfl rfl (ld rfl rfl (by rw [Nat.zero_add, Nat.mul_one, Int.toNat_natCast]; exact hg2)) ?_ | refine dq rfl rfl rfl (ldS rfl rfl rfl) ?_
            refine dq rfl rfl rfl (eqI rfl rfl) ?_
            refine dq rfl rfl rfl (neBo rfl rfl rfl) ?_
            refine dq rfl rfl rfl (mv (v := .bool _) rfl) ?_
            refine TD.known 125 rfl (b' := false) (by decide) ?_
            refine dg rfl rfl rfl rfl (mv (v := .int _ _) rfl) ?_
            refine dg rfl rfl rfl rfl (eqI rfl rfl) ?_
            refine dg rfl rfl rfl rfl (mv (v := .int _ _) rfl) ?_
            refine dg rfl rfl rfl rfl (ixAl 8 3 1 rfl rfl rfl (by omega) (by omega)) ?_
            first | refine dg rfl rfl rfl rfl (ld rfl rfl rfl) ?_ | refine dg rfl rfl rfl rfl (ld rfl rfl (by rw [Nat.zero_add, Nat.mul_one, Int.toNat_natCast]; exact hg1)) ?_ | refine dg rfl rfl rfl rfl (ld rfl rfl (by rw [Nat.zero_add, Nat.mul_one, Int.toNat_natCast]; exact hg2)) ?_ | refine dg rfl rfl rfl rfl (ldS rfl rfl rfl) ?_
            refine dg rfl rfl rfl rfl (eqI rfl rfl) ?_
            refine dg rfl rfl rfl rfl (neBo rfl rfl rfl) ?_
            first | refine dq rfl rfl rfl (pkT (v := .bool _) rfl rfl) ?_ | refine dq rfl rfl rfl (pkF (v := .bool _) rfl rfl) ?_
            refine dq rfl rfl rfl (mv (v := .bool _) rfl) ?_
            refine TD.known 134 rfl (b' := false) (by decide) ?_
            refine dg rfl rfl rfl rfl (mv (v := .int _ _) rfl) ?_
            refine dg rfl rfl rfl rfl (ixAl 8 3 1 rfl rfl rfl (by omega) (by omega)) ?_
            first | refine dg rfl rfl rfl rfl (ld rfl rfl rfl) ?_ | refine dg rfl rfl rfl rfl (ld rfl rfl (by rw [Nat.zero_add, Nat.mul_one, Int.toNat_natCast]; exact hg1)) ?_ | refine dg rfl rfl rfl rfl (ld rfl rfl (by rw [Nat.zero_add, Nat.mul_one, Int.toNat_natCast]; exact hg2)) ?_ | refine dg rfl rfl rfl rfl (ldS rfl rfl rfl) ?_
            refine dg rfl rfl rfl rfl (mv (v := .int _ _) rfl) ?_
            refine dg rfl rfl rfl rfl (ixAl 8 3 1 rfl rfl rfl (by omega) (by omega)) ?_
            first | refine dg rfl rfl rfl rfl (ld rfl rfl rfl) ?_ | refine dg rfl rfl rfl rfl (ld rfl rfl (by rw [Nat.zero_add, Nat.mul_one, Int.toNat_natCast]; exact hg1)) ?_ | refine dg rfl rfl rfl rfl (ld rfl rfl (by rw [Nat.zero_add, Nat.mul_one, Int.toNat_natCast]; exact hg2)) ?_ | refine dg rfl rfl rfl rfl (ldS rfl rfl rfl) ?_
            first | refine dg rfl rfl rfl rfl (addI rfl rfl (by omega) (by omega)) ?_ | refine dg rfl rfl rfl rfl (add rfl rfl rfl) ?_
            refine dg rfl rfl rfl rfl (gtr rfl rfl) ?_
            first | refine dq rfl rfl rfl (pkT (v := .bool _) rfl rfl) ?_ | refine dq rfl rfl rfl (pkF (v := .bool _) rfl rfl) ?_
            refine dq rfl rfl rfl (mv (v := .bool _) rfl) ?_
            refine TD.known 144 rfl (b' := false) (by decide) ?_
            refine dg rfl rfl rfl rfl (mv (v := .int _ _) rfl) ?_
            refine dg rfl rfl rfl rfl (eqI rfl rfl) ?_
            refine dg rfl rfl rfl rfl (mv (v := .bool _) rfl) ?_
            refine TD.known 147 rfl (b' := false) (by decide) ?_
            refine dg rfl rfl rfl rfl (mv (v := .int _ _) rfl) ?_
            refine dg rfl rfl rfl rfl (eqI rfl rfl) ?_
            first | refine dg rfl rfl rfl rfl (pkT (v := .bool _) rfl rfl) ?_ | refine dg rfl rfl rfl rfl (pkF (v := .bool _) rfl rfl) ?_
            refine dg rfl rfl rfl rfl (mv (v := .int _ _) rfl) ?_
            refine dg rfl rfl rfl rfl (neI rfl rfl) ?_
            refine dg rfl rfl rfl rfl (neBo rfl rfl rfl) ?_
            first | refine dq rfl rfl rfl (pkT (v := .bool _) rfl rfl) ?_ | refine dq rfl rfl rfl (pkF (v := .bool _) rfl rfl) ?_
            refine dq rfl rfl rfl (mv (v := .bool _) rfl) ?_
            refine TD.known 155 rfl (b' := false) (by simp [hp1]) ?_
            refine dg rfl rfl rfl rfl (mv (v := .int _ _) rfl) ?_
            refine dg rfl rfl rfl rfl (neI rfl rfl) ?_
            refine dg rfl rfl rfl rfl (mv (v := .bool _) rfl) ?_
            refine TD.known 158 rfl (b' := true) (decide_eq_true hp1) ?_
            refine dg rfl rfl rfl rfl (mv (v := .pointer _) rfl) ?_
            refine dg rfl rfl rfl rfl (mv (v := .int _ _) rfl) ?_
            refine deg rfl rfl rfl ?_
            refine cl (mstate_ok a A s (pnR s k)) rfl PkL.p trivial ?_
            intro _ _
            change ent _ _ ∧ TD _ _ _ _ _ _ _ _ _ _ (sepL [_, _, _, _])
            refine ⟨(by repeat (first | exact ent_nil _ | refine ent_take 0 rfl ?_ | refine ent_take 1 rfl ?_ | refine ent_take 2 rfl ?_ | refine ent_take 3 rfl ?_ | refine ent_take 4 rfl ?_ | refine ent_take 5 rfl ?_ | refine ent_take 6 rfl ?_ | refine ent_take 7 rfl ?_ | refine ent_take 8 rfl ?_ | refine ent_take 9 rfl ?_ | refine ent_take 10 rfl ?_ | refine ent_take 11 rfl ?_ | refine ent_take 12 rfl ?_)), ?_⟩
            refine dg rfl rfl rfl rfl (eqI rfl rfl) ?_
            first | refine dg rfl rfl rfl rfl (pkT (v := .bool _) rfl rfl) ?_ | refine dg rfl rfl rfl rfl (pkF (v := .bool _) rfl rfl) ?_
            first | refine dq rfl rfl rfl (pkT (v := .bool _) rfl rfl) ?_ | refine dq rfl rfl rfl (pkF (v := .bool _) rfl rfl) ?_
            refine TD.nil (nt ?_)
            refine TC.condD rfl (fun hc5 => absurd hc5 (hp2)) (fun hc5 => ?_)
            refine TC.skip (nb (nt ?_))
            refine TC.region ?_
            refine q rfl rfl (mv (v := .int _ _) rfl) ?_
            first | refine q rfl rfl (addI rfl rfl (by omega) (by omega)) ?_ | refine q rfl rfl (add rfl rfl rfl) ?_
            refine q rfl rfl (asg (v := .int _ _) rfl) ?_
            refine TL.nil (nt ?_)
            exact ⟨rfl, (k + 1), (by omega), (by omega), ⟨rfl, rfl, rfl, rfl, trivial⟩, (by repeat (first | exact ent_nil _ | refine ent_take 0 rfl ?_ | refine ent_take 1 rfl ?_ | refine ent_take 2 rfl ?_ | refine ent_take 3 rfl ?_ | refine ent_take 4 rfl ?_ | refine ent_take 5 rfl ?_ | refine ent_take 6 rfl ?_ | refine ent_take 7 rfl ?_ | refine ent_take 8 rfl ?_ | refine ent_take 9 rfl ?_ | refine ent_take 10 rfl ?_ | refine ent_take 11 rfl ?_ | refine ent_take 12 rfl ?_))⟩
          · have hg1 := gO_no (n := 8) (Q := Fr s 8) (x := (k : Int)) (by omega) (by omega) (fun h => absurd (hF.1 h) (by omega))
            have hg2 := gO_no (n := 8) (Q := Cl s 8) (x := (k : Int)) (by omega) (by omega) (fun h => absurd (hC.1 h) (by omega))
            rw [Int.toNat_natCast] at hg1 hg2
            have hp1 := hpn h1 h3
            refine TC.skip (nt ?_)
            refine TC.seq ?_
            refine TC.block ?_
            refine TC.seq ?_
            refine TC.region ?_
            refine q rfl rfl (mv (v := .pointer _) rfl) ?_
            refine q rfl rfl (mv (v := .int _ _) rfl) ?_
            refine e rfl ?_
            refine cl (mstate_ok a A s k) rfl PkL.p trivial ?_
            intro _ _
            change TL _ _ _ _ _ _ _ _ (sepL [_, _, _, _])
            refine q rfl rfl (mv (v := .pointer _) rfl) ?_
            refine q rfl rfl (mv (v := .int _ _) rfl) ?_
            refine e rfl ?_
            refine cl (mpartner_ok a A s k) rfl PkL.p trivial ?_
            intro _ _
            change TL _ _ _ _ _ _ _ _ (sepL [_, _, _, _])
            rw [hp1]
            refine q rfl rfl (asg (v := .int _ _) rfl) ?_
            refine q rfl rfl (asg (v := .int _ _) rfl) ?_
            refine TL.nil (nt ?_)
            refine TC.seq ?_
            refine TC.draw _ [] [(0, false), (1, false), (2, false), (3, false), (4, false), (5, false), (6, false), (7, false), (8, false), (9, false), (10, false), (11, false), (12, false), (13, false), (14, false), (15, false), (16, false), (17, false), (18, false), (19, false), (20, false), (21, false), (22, false), (23, false), (24, false), (25, false), (26, false), (27, false), (28, false), (29, false), (30, false), (31, false), (32, false), (33, false), (34, false), (35, false), (36, false), (37, false), (38, false), (39, false), (40, false), (41, false), (42, false), (43, true), (44, false), (45, false), (46, false)] (by kernel_rfl) (by kernel_rfl) (ent_take 1 rfl (ent_take 1 rfl (ent_nil _))) ?_
            refine dq rfl rfl rfl (mv (v := .int _ _) rfl) ?_
            refine dq rfl rfl rfl (eqI rfl rfl) ?_
            refine dq rfl rfl rfl (mv (v := .int _ _) rfl) ?_
            refine dq rfl rfl rfl (ixAl 8 3 1 rfl rfl rfl (by omega) (by omega)) ?_
            first | refine dq rfl rfl rfl (ld rfl rfl rfl) ?_ | refine dq rfl rfl rfl (ld rfl rfl (by rw [Nat.zero_add, Nat.mul_one, Int.toNat_natCast]; exact hg1)) ?_ | refine dq rfl rfl rfl (ld rfl rfl (by rw [Nat.zero_add, Nat.mul_one, Int.toNat_natCast]; exact hg2)) ?_ | refine dq rfl rfl rfl (ldS rfl rfl rfl) ?_
            refine dq rfl rfl rfl (eqI rfl rfl) ?_
            refine dq rfl rfl rfl (neBo rfl rfl rfl) ?_
            refine dq rfl rfl rfl (mv (v := .bool _) rfl) ?_
            refine TD.known 125 rfl (b' := false) (by simp [h1, h3]) ?_
            refine dg rfl rfl rfl rfl (mv (v := .int _ _) rfl) ?_
            refine dg rfl rfl rfl rfl (eqI rfl rfl) ?_
            refine dg rfl rfl rfl rfl (mv (v := .int _ _) rfl) ?_
            refine dg rfl rfl rfl rfl (ixAl 8 3 1 rfl rfl rfl (by omega) (by omega)) ?_
            first | refine dg rfl rfl rfl rfl (ld rfl rfl rfl) ?_ | refine dg rfl rfl rfl rfl (ld rfl rfl (by rw [Nat.zero_add, Nat.mul_one, Int.toNat_natCast]; exact hg1)) ?_ | refine dg rfl rfl rfl rfl (ld rfl rfl (by rw [Nat.zero_add, Nat.mul_one, Int.toNat_natCast]; exact hg2)) ?_ | refine dg rfl rfl rfl rfl (ldS rfl rfl rfl) ?_
            refine dg rfl rfl rfl rfl (eqI rfl rfl) ?_
            refine dg rfl rfl rfl rfl (neBo rfl rfl rfl) ?_
            first | refine dq rfl rfl rfl (pkT (v := .bool _) rfl rfl) ?_ | refine dq rfl rfl rfl (pkF (v := .bool _) rfl rfl) ?_
            refine dq rfl rfl rfl (mv (v := .bool _) rfl) ?_
            refine TD.known 134 rfl (b' := false) (by simp [h1, h3]) ?_
            refine dg rfl rfl rfl rfl (mv (v := .int _ _) rfl) ?_
            refine dg rfl rfl rfl rfl (ixAl 8 3 1 rfl rfl rfl (by omega) (by omega)) ?_
            first | refine dg rfl rfl rfl rfl (ld rfl rfl rfl) ?_ | refine dg rfl rfl rfl rfl (ld rfl rfl (by rw [Nat.zero_add, Nat.mul_one, Int.toNat_natCast]; exact hg1)) ?_ | refine dg rfl rfl rfl rfl (ld rfl rfl (by rw [Nat.zero_add, Nat.mul_one, Int.toNat_natCast]; exact hg2)) ?_ | refine dg rfl rfl rfl rfl (ldS rfl rfl rfl) ?_
            refine dg rfl rfl rfl rfl (mv (v := .int _ _) rfl) ?_
            refine dg rfl rfl rfl rfl (ixAl 8 3 1 rfl rfl rfl (by omega) (by omega)) ?_
            first | refine dg rfl rfl rfl rfl (ld rfl rfl rfl) ?_ | refine dg rfl rfl rfl rfl (ld rfl rfl (by rw [Nat.zero_add, Nat.mul_one, Int.toNat_natCast]; exact hg1)) ?_ | refine dg rfl rfl rfl rfl (ld rfl rfl (by rw [Nat.zero_add, Nat.mul_one, Int.toNat_natCast]; exact hg2)) ?_ | refine dg rfl rfl rfl rfl (ldS rfl rfl rfl) ?_
            first | refine dg rfl rfl rfl rfl (addI rfl rfl (by omega) (by omega)) ?_ | refine dg rfl rfl rfl rfl (add rfl rfl rfl) ?_
            refine dg rfl rfl rfl rfl (gtr rfl rfl) ?_
            first | refine dq rfl rfl rfl (pkT (v := .bool _) rfl rfl) ?_ | refine dq rfl rfl rfl (pkF (v := .bool _) rfl rfl) ?_
            refine dq rfl rfl rfl (mv (v := .bool _) rfl) ?_
            refine TD.known 144 rfl (b' := false) (by decide) ?_
            refine dg rfl rfl rfl rfl (mv (v := .int _ _) rfl) ?_
            refine dg rfl rfl rfl rfl (eqI rfl rfl) ?_
            refine dg rfl rfl rfl rfl (mv (v := .bool _) rfl) ?_
            refine TD.known 147 rfl (b' := false) (by simp [h1, h3]) ?_
            refine dg rfl rfl rfl rfl (mv (v := .int _ _) rfl) ?_
            refine dg rfl rfl rfl rfl (eqI rfl rfl) ?_
            first | refine dg rfl rfl rfl rfl (pkT (v := .bool _) rfl rfl) ?_ | refine dg rfl rfl rfl rfl (pkF (v := .bool _) rfl rfl) ?_
            refine dg rfl rfl rfl rfl (mv (v := .int _ _) rfl) ?_
            refine dg rfl rfl rfl rfl (neI rfl rfl) ?_
            refine dg rfl rfl rfl rfl (neBo rfl rfl rfl) ?_
            first | refine dq rfl rfl rfl (pkT (v := .bool _) rfl rfl) ?_ | refine dq rfl rfl rfl (pkF (v := .bool _) rfl rfl) ?_
            refine dq rfl rfl rfl (mv (v := .bool _) rfl) ?_
            refine TD.known 155 rfl (b' := false) (by simp [h1, h3]) ?_
            refine dg rfl rfl rfl rfl (mv (v := .int _ _) rfl) ?_
            refine dg rfl rfl rfl rfl (neI rfl rfl) ?_
            refine dg rfl rfl rfl rfl (mv (v := .bool _) rfl) ?_
            refine TD.known 158 rfl (b' := false) (by decide) ?_
            refine dk rfl rfl rfl rfl ?_
            refine dk rfl rfl rfl rfl ?_
            refine dke rfl rfl rfl (by repeat (first | exact ent_nil _ | refine ent_take 0 rfl ?_ | refine ent_take 1 rfl ?_ | refine ent_take 2 rfl ?_ | refine ent_take 3 rfl ?_ | refine ent_take 4 rfl ?_ | refine ent_take 5 rfl ?_ | refine ent_take 6 rfl ?_ | refine ent_take 7 rfl ?_ | refine ent_take 8 rfl ?_ | refine ent_take 9 rfl ?_ | refine ent_take 10 rfl ?_ | refine ent_take 11 rfl ?_ | refine ent_take 12 rfl ?_)) ?_
            refine dk rfl rfl rfl rfl ?_
            first | refine dg rfl rfl rfl rfl (pkT (v := .bool _) rfl rfl) ?_ | refine dg rfl rfl rfl rfl (pkF (v := .bool _) rfl rfl) ?_
            first | refine dq rfl rfl rfl (pkT (v := .bool _) rfl rfl) ?_ | refine dq rfl rfl rfl (pkF (v := .bool _) rfl rfl) ?_
            refine TD.nil (nt ?_)
            refine TC.condF rfl ?_
            refine TC.skip (nb (nt ?_))
            refine TC.region ?_
            refine q rfl rfl (mv (v := .int _ _) rfl) ?_
            first | refine q rfl rfl (addI rfl rfl (by omega) (by omega)) ?_ | refine q rfl rfl (add rfl rfl rfl) ?_
            refine q rfl rfl (asg (v := .int _ _) rfl) ?_
            refine TL.nil (nt ?_)
            exact ⟨rfl, (k + 1), (by omega), (by omega), ⟨rfl, rfl, rfl, rfl, trivial⟩, (by repeat (first | exact ent_nil _ | refine ent_take 0 rfl ?_ | refine ent_take 1 rfl ?_ | refine ent_take 2 rfl ?_ | refine ent_take 3 rfl ?_ | refine ent_take 4 rfl ?_ | refine ent_take 5 rfl ?_ | refine ent_take 6 rfl ?_ | refine ent_take 7 rfl ?_ | refine ent_take 8 rfl ?_ | refine ent_take 9 rfl ?_ | refine ent_take 10 rfl ?_ | refine ent_take 11 rfl ?_ | refine ent_take 12 rfl ?_))⟩
      · refine TC.exit (et (et (eb (nt ?_))))
        refine TC.seq ?_
        refine TC.region ?_
        refine q rfl rfl (asg (v := .bool _) rfl) ?_
        refine TL.nil (nt ?_)
        refine TC.ret ?_
        exact Ret.i () [_] ⟨rfl, trivial⟩ rfl trivial (by repeat (first | exact ent_nil _ | refine ent_take 0 rfl ?_ | refine ent_take 1 rfl ?_ | refine ent_take 2 rfl ?_ | refine ent_take 3 rfl ?_ | refine ent_take 4 rfl ?_ | refine ent_take 5 rfl ?_ | refine ent_take 6 rfl ?_ | refine ent_take 7 rfl ?_ | refine ent_take 8 rfl ?_ | refine ent_take 9 rfl ?_ | refine ent_take 10 rfl ?_ | refine ent_take 11 rfl ?_ | refine ent_take 12 rfl ?_))

end Go.Proofs.Ytgmniphegombhaa
