/-
  Proved here: what functions of this program compute, each as a contract over symbolic states, under the premises that each theorem names (most lines printed by a program of the prover).
-/
import Derived.Test.YtgmniphegombhaaMtG
namespace Go.Proofs.Ytgmniphegombhaa
open Go Go.QM
structure CI (Z : MS) (i : Nat) (last : Int) : Prop where
  wm : WM Z
  ids : ∀ x, x ∈ Z.ids ↔ 0 ≤ x ∧ x ≤ (i : Int)
  st : Z.st 0 = 0
  cl : Z.cl 0 = last
  off : ∀ o ∈ Z.row 0, o.cl = true
  len : Z.ids.length ≤ i + 1
theorem CI.start : CI (joinL s0 [0]) 0 (-1) where
  wm := WM.zero.join 0
  ids := fun x => by
    have : x ∈ (joinL s0 [0]).ids ↔ x ∈ [(0 : Int)] := Iff.rfl
    rw [this, List.mem_singleton]; omega
  st := by kernel_rfl
  cl := by kernel_rfl
  off := fun o ho => by
    have : o ∈ ([] : List Off) := ho
    cases this
  len := Nat.le_refl 1
theorem CI.me {Z : MS} {i : Nat} {last : Int} (h : CI Z i last) : (0 : Int) ∈ Z.ids := (h.ids 0).2 (by omega)
theorem CI.lst {Z : MS} {i : Nat} {last : Int} (h : CI Z i last) : last = -1 ∨ (0 ≤ last ∧ last ∈ Z.ids ∧ last ≠ 0) := by
  by_cases e : last = -1
  · exact .inl e
  · have := h.wm.cal 0 h.me (by rw [h.cl]; exact e)
    rw [h.cl] at this
    exact .inr ⟨h.wm.ge _ this.1, this.1, this.2.1⟩
theorem CI.next {Z : MS} {i : Nat} {last : Int} (h : CI Z i last) : ((joinS Z ((i : Int) + 1)).ids.length = Z.ids.length + 1 ∧ WM (joinS Z ((i : Int) + 1))) ∧ ∃ Z2, offS (joinS Z ((i : Int) + 1)) 0 ⟨(i : Int) + 1, 0, true⟩ = (Z2, 0) ∧ stR Z2 ((i : Int) + 1) = 1 ∧ CI Z2 (i + 1) last := by
  have hx : (i : Int) + 1 ∉ Z.ids := fun h2 => by have := (h.ids _).1 h2; omega
  have e : joinS Z ((i : Int) + 1) = ⟨Z.ids ++ [(i : Int) + 1], updI Z.st ((i : Int) + 1) 0, updI Z.cl ((i : Int) + 1) (-1), updI Z.pn ((i : Int) + 1) (-1), updI Z.row ((i : Int) + 1) []⟩ := by rw [joinS, if_neg (fun h2 => h2.elim hx (by omega))]
  have hw := h.wm.join ((i : Int) + 1)
  refine ⟨⟨by rw [e]; simp, hw⟩, ?_⟩
  have hids : ∀ x, x ∈ (joinS Z ((i : Int) + 1)).ids ↔ 0 ≤ x ∧ x ≤ ((i + 1 : Nat) : Int) := fun x => by
    rw [e]; dsimp only
    rw [List.mem_append, h.ids, List.mem_singleton]; omega
  have n0 : (0 : Int) ≠ (i : Int) + 1 := by omega
  have hm : (i : Int) + 1 ∈ (joinS Z ((i : Int) + 1)).ids := (hids _).2 (by omega)
  have h0 : (0 : Int) ∈ (joinS Z ((i : Int) + 1)).ids := (hids _).2 (by omega)
  have hs : (joinS Z ((i : Int) + 1)).st ((i : Int) + 1) = 0 := by rw [e]; exact updI_same _ _ _
  have hsd := hw.send (to := 0) (o := ⟨(i : Int) + 1, 0, true⟩) hm h0 (Ne.symm n0) hs
  refine ⟨_, by rw [offS, if_neg (fun h2 => h2.elim (fun h3 => h3 h0) (fun h3 => h3 hm)), if_neg (Ne.symm n0), if_neg (fun h2 => h2 hs)], ?_, hsd, hids, ?_, ?_, fun o ho => ?_, ?_⟩
  · rw [stR, if_pos (show (i : Int) + 1 ∈ (pushS (wtS (joinS Z ((i : Int) + 1)) ((i : Int) + 1) 1 0) 0 ⟨(i : Int) + 1, 0, true⟩).ids from hm)]
    simp only [wtS, clS, frS, rowS, pushS, updI_same]
  · dsimp only [pushS, wtS]; rw [updI_ne n0, e]; dsimp only; rw [updI_ne n0]; exact h.st
  · dsimp only [pushS, wtS]; rw [e]; dsimp only; rw [updI_ne n0]; exact h.cl
  · dsimp only [pushS, wtS] at ho
    rw [updI_same] at ho
    rcases List.mem_append.1 ho with ho | ho
    · rw [e] at ho; dsimp only at ho; rw [updI_ne n0] at ho; exact h.off o ho
    · rw [List.mem_singleton.1 ho]
  · dsimp only [pushS, wtS]; rw [e]; have := h.len; simp; omega
theorem CI.take {Z : MS} {i : Nat} {last : Int} (h : CI Z i last) {o : Off} {r : List Off} (hr : Z.row 0 = o :: r) : ∃ Z2, takeS Z 0 = (Z2, o, last, 0) ∧ (0 ≤ last → stR Z2 last = 0) ∧ stR Z2 o.fr = 3 ∧ clR Z2 0 = o.fr ∧ Z2.row 0 = r ∧ CI Z2 i o.fr := by
  have hw := h.wm.take 0
  obtain ⟨f1, f2, f3, f4⟩ := h.wm.row 0 h.me o (by rw [hr]; simp)
  have hc := h.off o (by rw [hr]; simp)
  have hv : takeS Z 0 = (if last ≠ -1 then wtS (clS (frS (frS (frS (rowS Z 0 r) 0) o.fr) last) 0 o.fr) o.fr 3 0 else wtS (clS (frS (frS (rowS Z 0 r) 0) o.fr) 0 o.fr) o.fr 3 0, o, last, 0) := by
    rw [takeS, if_neg (fun h2 => h2 h.me), if_neg (by rw [h.st]; omega), hr]
    dsimp only
    rw [if_pos hc, h.cl]
  rw [hv] at hw ⊢
  dsimp only at hw
  have hoff : ∀ u ∈ r, u.cl = true := fun u hu => h.off u (by rw [hr]; simp [hu])
  rcases h.lst with he | ⟨l1, l2, l3⟩
  · rw [if_neg (fun h2 => h2 he)] at hw ⊢
    refine ⟨_, rfl, fun h2 => by omega, ?_, ?_, ?_, hw, h.ids, ?_, ?_, ?_, h.len⟩
    · rw [stR, if_pos (show o.fr ∈ (wtS (clS (frS (frS (rowS Z 0 r) 0) o.fr) 0 o.fr) o.fr 3 0).ids from f1)]; simp only [wtS, clS, frS, rowS, pushS, updI_same]
    · rw [clR, if_pos (show (0 : Int) ∈ (wtS (clS (frS (frS (rowS Z 0 r) 0) o.fr) 0 o.fr) o.fr 3 0).ids from h.me)]; simp only [wtS, clS, frS, rowS, pushS, updI_same]
    · simp only [wtS, clS, frS, rowS, pushS, updI_same]
    · dsimp only [wtS, clS, frS, rowS]; rw [updI_ne (Ne.symm f2), updI_ne (Ne.symm f2), updI_same]
    · simp only [wtS, clS, frS, rowS, pushS, updI_same]
    · dsimp only [wtS, clS, frS, rowS]; rw [updI_same]; exact hoff
  · rw [if_pos (by omega)] at hw ⊢
    have c3 := (h.wm.cal 0 h.me (by rw [h.cl]; omega)).2.2.1
    rw [h.cl] at c3
    have ne : last ≠ o.fr := fun e => by rw [e] at c3; omega
    refine ⟨_, rfl, fun _ => ?_, ?_, ?_, ?_, hw, h.ids, ?_, ?_, ?_, h.len⟩
    · rw [stR, if_pos (show last ∈ (wtS (clS (frS (frS (frS (rowS Z 0 r) 0) o.fr) last) 0 o.fr) o.fr 3 0).ids from l2)]
      dsimp only [wtS, clS, frS, rowS]; rw [updI_ne ne, updI_same]
    · rw [stR, if_pos (show o.fr ∈ (wtS (clS (frS (frS (frS (rowS Z 0 r) 0) o.fr) last) 0 o.fr) o.fr 3 0).ids from f1)]; simp only [wtS, clS, frS, rowS, pushS, updI_same]
    · rw [clR, if_pos (show (0 : Int) ∈ (wtS (clS (frS (frS (frS (rowS Z 0 r) 0) o.fr) last) 0 o.fr) o.fr 3 0).ids from h.me)]; simp only [wtS, clS, frS, rowS, pushS, updI_same]
    · simp only [wtS, clS, frS, rowS, pushS, updI_same]
    · dsimp only [wtS, clS, frS, rowS]; rw [updI_ne (Ne.symm f2), updI_ne (Ne.symm l3), updI_ne (Ne.symm f2), updI_same]
    · simp only [wtS, clS, frS, rowS, pushS, updI_same]
    · dsimp only [wtS, clS, frS, rowS]; rw [updI_same]; exact hoff
theorem CI.none {Z : MS} {i : Nat} (h : CI Z i (-1)) : ansS Z 0 = (Z, 0, 6) := by
  rw [ansS, if_neg (fun h2 => h2 h.me), if_neg (fun h2 => h2 h.st), if_pos h.cl]
theorem CI.ans {Z : MS} {i : Nat} {last : Int} (h : CI Z i last) (h0 : 0 ≤ last) : ∃ Z2, ansS Z 0 = (Z2, last, 0) ∧ WM Z2 ∧ ansS Z2 0 = (Z2, 0, 6) ∧ stR Z2 last = 0 ∧ clR Z2 0 = -1 := by
  have hl := h.lst.resolve_left (by omega)
  have hw := h.wm.answer 0
  have hv : ansS Z 0 = (frS (clS Z 0 (-1)) last, last, 0) := by
    rw [ansS, if_neg (fun h2 => h2 h.me), if_neg (fun h2 => h2 h.st), if_neg (by rw [h.cl]; omega), h.cl]
  rw [hv] at hw ⊢
  have hme : (0 : Int) ∈ (frS (clS Z 0 (-1)) last).ids := h.me
  have hc : (frS (clS Z 0 (-1)) last).cl 0 = -1 := by simp only [wtS, clS, frS, rowS, pushS, updI_same]
  refine ⟨_, rfl, hw, ?_, ?_, ?_⟩
  · rw [ansS, if_neg (fun h2 => h2 hme), if_neg, if_pos hc]
    intro h2
    apply h2
    dsimp only [frS, clS]; rw [updI_ne (Ne.symm hl.2.2)]; exact h.st
  · rw [stR, if_pos (show last ∈ (frS (clS Z 0 (-1)) last).ids from hl.2.1)]; simp only [wtS, clS, frS, rowS, pushS, updI_same]
  · rw [clR, if_pos hme]; exact hc

set_option maxRecDepth 4000 in
set_option maxHeartbeats 1000000 in
theorem calls_ok (n y : Int) (hn : 0 ≤ n ∧ n ≤ 255) (hy : 0 ≤ y ∧ y ≤ 255) : FSpec Try.prog 4 [.int .u8 n, .int .u8 y] noRd [] (fun _ : Unit => .bool true) (fun _ => True) (fun _ => []) := by
  refine FSpec.intro (rs := [.tmp 4]) (by kernel_rfl) Try.func4 rfl Try.ntmps4 (by rfl) rfl ?_
  intro F _
  change TC _ _ _ _ _ _ _ (sepL [_])
  refine TC.seq ?_
  refine TC.region ?_
  refine q rfl rfl (asg (v := .bool _) rfl) ?_
  refine TL.nil (nt ?_)
  refine TC.seq ?_
  refine TC.seq ?_
  refine TC.region ?_
  refine e rfl ?_
  refine cl alive_ok rfl (picked_nil _) trivial ?_
  intro _ _
  change TL _ _ _ _ _ _ _ _ (sepL [_])
  first | refine q rfl rfl (notD rfl) ?_ | refine q rfl rfl (notB rfl) ?_
  refine TL.nil (nt ?_)
  refine TC.condF rfl ?_
  refine TC.skip (nt ?_)
  refine TC.seq ?_
  refine TC.region ?_
  refine e rfl ?_
  refine cl (mnew_ok (fun _ => 0)) rfl (picked_nil _) trivial ?_
  intro a _
  change TL _ _ _ _ _ _ _ _ (sepL [_, _])
  refine q rfl rfl (asg (v := .pointer _) rfl) ?_
  refine TL.nil (nt ?_)
  refine TC.seq ?_
  refine TC.region ?_
  refine q rfl rfl (mv (v := .int _ _) rfl) ?_
  first | refine q rfl rfl (conv .u8 .i64 rfl rfl rfl (wi64 (by omega) (by omega))) ?_ | refine q rfl rfl (conv .u8 .i64 rfl rfl rfl rfl) ?_
  first | refine q rfl rfl (remI rfl rfl (by omega) (by omega)) ?_ | refine q rfl rfl (rem rfl rfl (by omega) rfl) ?_
  first | refine q rfl rfl (addI rfl rfl (by omega) (by omega)) ?_ | refine q rfl rfl (add rfl rfl rfl) ?_
  refine q rfl rfl (asg (v := .int _ _) rfl) ?_
  refine TL.nil (nt ?_)
  refine TC.seq ?_
  refine TC.seq ?_
  refine TC.region ?_
  refine q rfl rfl (mv (v := .pointer _) rfl) ?_
  refine e rfl ?_
  refine bs (cs := [.int _ _]) rfl ?_
  intro b1
  refine e rfl ?_
  refine cl (mjoin_ok a (fun _ => 0) s0 (some ⟨b1, 0, none⟩) _ [0] (by decide) (by decide)) rfl PkL.p ⟨_, RdSI.rd (ad := some ⟨b1, 0, none⟩)⟩ ?_
  intro A0 _
  change TL _ _ _ _ _ _ _ _ (sepL [_, _, _])
  have hO := CI.start
  obtain ⟨m, hm, hm20⟩ : ∃ m : Nat, 1 + n % 20 = (m : Int) ∧ m ≤ 20 := ⟨(1 + n % 20).toNat, by omega, by omega⟩
  rw [hm]
  refine q rfl rfl (neI rfl rfl) ?_
  refine TL.nil (nt ?_)
  refine TC.condD rfl (fun hc1 => absurd hc1 (by decide)) (fun hc1 => ?_)
  refine TC.skip (nt ?_)
  refine TC.seq ?_
  refine TC.region ?_
  refine q rfl rfl (asg (v := .int _ _) rfl) ?_
  refine TL.nil (nt ?_)
  refine TC.seq ?_
  refine TC.seq ?_
  refine TC.region ?_
  refine q rfl rfl (asg (v := .int _ _) rfl) ?_
  refine TL.nil (nt ?_)
  refine TC.block ?_
  refine TC.loop (ι := Nat × (Int → Nat) × MS × Int) (fun s => s.1 ≤ m ∧ CI s.2.2.1 s.1 s.2.2.2) (fun s => [(1, .int .u8 y), (5, .pointer (some ⟨a, 0, none⟩)), (6, .int .i64 (m : Int)), (7, .int .i64 s.2.2.2), (8, .int .i64 ((s.1 : Int) + 1))]) (fun s => sepL [isMa a s.2.1 s.2.2.1, F]) (fun s => m - s.1) ⟨0, A0, joinL s0 [0], -1⟩ ⟨Nat.zero_le _, hO⟩ ⟨rfl, rfl, rfl, rfl, rfl, trivial⟩ (by repeat (first | exact ent_nil _ | refine ent_take 0 rfl ?_ | refine ent_take 1 rfl ?_ | refine ent_take 2 rfl ?_ | refine ent_take 3 rfl ?_ | refine ent_take 4 rfl ?_ | refine ent_take 5 rfl ?_ | refine ent_take 6 rfl ?_ | refine ent_take 7 rfl ?_ | refine ent_take 8 rfl ?_ | refine ent_take 9 rfl ?_ | refine ent_take 10 rfl ?_ | refine ent_take 11 rfl ?_ | refine ent_take 12 rfl ?_)) ?_
  rintro ⟨i, A, Z, last⟩ ⟨hi, hI⟩ ρ0
  dsimp only [updL] at hi hI ⊢
  refine TC.seq ?_
  refine TC.seq ?_
  refine TC.region ?_
  refine q rfl rfl (mv (v := .int _ _) rfl) ?_
  refine q rfl rfl (mv (v := .int _ _) rfl) ?_
  refine q rfl rfl (leq rfl rfl) ?_
  refine TL.nil (nt ?_)
  first | refine TC.condD rfl (fun hle => ?_) (fun hle => ?_) | refine TC.cond rfl (fun hle => ?_) (fun hle => ?_)
  · obtain ⟨⟨hjl, hjw⟩, Z2, hv, hst, hI2⟩ := hI.next
    have hil := hI.len
    refine TC.skip (nt ?_)
    refine TC.seq ?_
    refine TC.block ?_
    refine TC.seq ?_
    refine TC.seq ?_
    refine TC.region ?_
    refine q rfl rfl (mv (v := .pointer _) rfl) ?_
    refine q rfl rfl (mv (v := .int _ _) rfl) ?_
    refine e rfl ?_
    refine bs (cs := [.int _ _]) rfl ?_
    intro b2
    refine e rfl ?_
    refine cl (mjoin_ok a A Z (some ⟨b2, 0, none⟩) _ [(i : Int) + 1] (by simp) (by omega)) rfl PkL.p ⟨_, RdSI.rd (ad := some ⟨b2, 0, none⟩)⟩ ?_
    intro A1 _
    change TL _ _ _ _ _ _ _ _ (sepL [_, _, _])
    rw [show joinL Z [(i : Int) + 1] = joinS Z ((i : Int) + 1) from rfl]
    refine q rfl rfl (neI rfl rfl) ?_
    refine q rfl rfl (mv (v := .bool _) rfl) ?_
    refine TL.known 37 rfl (c := false) (decide_eq_false (by omega)) ?_
    refine qg rfl rfl rfl (mv (v := .pointer _) rfl) ?_
    refine qg rfl rfl rfl (mv (v := .int _ _) rfl) ?_
    first | refine qg rfl rfl rfl (bld (cs := [.int _ _, .int _ _, .bool _]) rfl) ?_ | refine qg rfl rfl rfl (bld (cs := [_, _, _]) rfl) ?_
    refine eg rfl rfl ?_
    refine cl (moffer_ok a A1 (joinS Z ((i : Int) + 1)) hjw 0 ⟨(i : Int) + 1, 0, true⟩ (by omega)) rfl PkL.p trivial ?_
    intro _ _
    change TL _ _ _ _ _ _ _ _ (sepL [_, _, _])
    rw [hv]
    dsimp only
    refine qg rfl rfl rfl (neI rfl rfl) ?_
    first | refine q rfl rfl (pkT (v := .bool _) rfl rfl) ?_ | refine q rfl rfl (pkF (v := .bool _) rfl rfl) ?_
    refine q rfl rfl (mv (v := .bool _) rfl) ?_
    refine TL.known 44 rfl (c := false) (by decide) ?_
    refine qg rfl rfl rfl (mv (v := .pointer _) rfl) ?_
    refine qg rfl rfl rfl (mv (v := .int _ _) rfl) ?_
    refine eg rfl rfl ?_
    refine cl (mstate_ok a A1 Z2 ((i : Int) + 1)) rfl PkL.p trivial ?_
    intro _ _
    change TL _ _ _ _ _ _ _ _ (sepL [_, _, _])
    rw [hst]
    refine qg rfl rfl rfl (neI rfl rfl) ?_
    first | refine q rfl rfl (pkT (v := .bool _) rfl rfl) ?_ | refine q rfl rfl (pkF (v := .bool _) rfl rfl) ?_
    refine TL.nil (nt ?_)
    refine TC.condD rfl (fun hc2 => absurd hc2 (by decide)) (fun hc2 => ?_)
    refine TC.skip (nt ?_)
    refine TC.seq ?_
    refine TC.seq ?_
    refine TC.region ?_
    refine q rfl rfl (mv (v := .int _ _) rfl) ?_
    refine q rfl rfl (mv (v := .int _ _) rfl) ?_
    first | refine q rfl rfl (conv .u8 .i64 rfl rfl rfl (wi64 (by omega) (by omega))) ?_ | refine q rfl rfl (conv .u8 .i64 rfl rfl rfl rfl) ?_
    first | refine q rfl rfl (remI rfl rfl (by omega) (by omega)) ?_ | refine q rfl rfl (rem rfl rfl (by omega) rfl) ?_
    first | refine q rfl rfl (addI rfl rfl (by omega) (by omega)) ?_ | refine q rfl rfl (add rfl rfl rfl) ?_
    first | refine q rfl rfl (remI rfl rfl (by omega) (by omega)) ?_ | refine q rfl rfl (rem rfl rfl (by omega) rfl) ?_
    refine q rfl rfl (neI rfl rfl) ?_
    refine TL.nil (nt ?_)
    first | refine TC.condD rfl (fun hmod => ?_) (fun hmod => ?_) | refine TC.cond rfl (fun hmod => ?_) (fun hmod => ?_)
    · refine TC.exit (et (eb (nt ?_)))
      refine TC.region ?_
      refine q rfl rfl (mv (v := .int _ _) rfl) ?_
      first | refine q rfl rfl (addI rfl rfl (by omega) (by omega)) ?_ | refine q rfl rfl (add rfl rfl rfl) ?_
      refine q rfl rfl (asg (v := .int _ _) rfl) ?_
      refine TL.nil (nt ?_)
      exact ⟨rfl, ⟨i + 1, A1, Z2, last⟩, ⟨by dsimp only; omega, hI2⟩, (by dsimp only; omega), ⟨rfl, rfl, rfl, rfl, congrArg (Value.int .i64) (by dsimp only; omega), trivial⟩, (by repeat (first | exact ent_nil _ | refine ent_take 0 rfl ?_ | refine ent_take 1 rfl ?_ | refine ent_take 2 rfl ?_ | refine ent_take 3 rfl ?_ | refine ent_take 4 rfl ?_ | refine ent_take 5 rfl ?_ | refine ent_take 6 rfl ?_ | refine ent_take 7 rfl ?_ | refine ent_take 8 rfl ?_ | refine ent_take 9 rfl ?_ | refine ent_take 10 rfl ?_ | refine ent_take 11 rfl ?_ | refine ent_take 12 rfl ?_))⟩
    · refine TC.skip (nt ?_)
      refine TC.block ?_
      refine TC.loop (ι := MS × Int) (fun s => CI s.1 (i + 1) s.2) (fun s => [(1, .int .u8 y), (5, .pointer (some ⟨a, 0, none⟩)), (6, .int .i64 (m : Int)), (7, .int .i64 s.2), (8, .int .i64 ((i : Int) + 1))]) (fun s => sepL [isMa a A1 s.1, F]) (fun s => (s.1.row 0).length) ⟨Z2, last⟩ hI2 ⟨rfl, rfl, rfl, rfl, rfl, trivial⟩ (by repeat (first | exact ent_nil _ | refine ent_take 0 rfl ?_ | refine ent_take 1 rfl ?_ | refine ent_take 2 rfl ?_ | refine ent_take 3 rfl ?_ | refine ent_take 4 rfl ?_ | refine ent_take 5 rfl ?_ | refine ent_take 6 rfl ?_ | refine ent_take 7 rfl ?_ | refine ent_take 8 rfl ?_ | refine ent_take 9 rfl ?_ | refine ent_take 10 rfl ?_ | refine ent_take 11 rfl ?_ | refine ent_take 12 rfl ?_)) ?_
      rintro ⟨Z, last⟩ hI ρ1
      dsimp only [updL] at hI ⊢
      have hil2 := hI.len
      have hrl := rowlen hI.wm hI.me
      have hrr : rowR Z 0 = Z.row 0 := if_pos hI.me
      refine TC.seq ?_
      refine TC.seq ?_
      refine TC.region ?_
      refine q rfl rfl (mv (v := .pointer _) rfl) ?_
      refine e rfl ?_
      refine cl (mrow_ok a A1 Z 0 (by rw [hrr]; omega)) rfl PkL.p trivial ?_
      intro y1 _
      change TL _ _ _ _ _ _ _ _ (sepL [_, _, _])
      rw [hrr]
      refine q rfl rfl (len 31 3 rfl rfl) ?_
      refine q rfl rfl (gtr rfl rfl) ?_
      refine TL.nil (nt ?_)
      first | refine TC.condD rfl (fun hrow => ?_) (fun hrow => ?_) | refine TC.cond rfl (fun hrow => ?_) (fun hrow => ?_)
      · rcases row_cases (Z.row 0) with hr | ⟨o, r, hr⟩
        · rw [hr] at hrow; exact absurd hrow (by decide)
        obtain ⟨W, hv2, hs1, hs2, hs3, hs4, hW⟩ := hI.take hr
        have hlr : (Z.row 0).length = r.length + 1 := by rw [hr, List.length_cons]
        have hls := hI.lst
        refine TC.skip (nt ?_)
        refine TC.block ?_
        refine TC.seq ?_
        refine TC.region ?_
        refine q rfl rfl (mv (v := .pointer _) rfl) ?_
        refine e rfl ?_
        refine cl (mtake_ok a A1 Z hI.wm 0) rfl PkL.p trivial ?_
        intro _ _
        change TL _ _ _ _ _ _ _ _ (sepL [_, _, _])
        rw [hv2]
        dsimp only
        refine q rfl rfl (mv (v := .tuple _) rfl) ?_
        refine q rfl rfl (pu (v := .agg #[_, _, _]) (fun _ => rfl)) ?_
        refine q rfl rfl (pu (v := .int _ _) (fun _ => rfl)) ?_
        refine q rfl rfl (pu (v := .int _ _) (fun _ => rfl)) ?_
        refine e rfl ?_
        refine al (l := [.int _ _, .int _ _, .bool _]) rfl rfl ?_
        intro b3
        refine e0 ?_
        refine st (v := .agg #[_, _, _]) (vs := [_, _, _]) 3 rfl rfl rfl rfl rfl rfl (Nat.le_of_ble_eq_true rfl) rfl ?_
        refine q rfl rfl (asg (v := .int _ _) rfl) ?_
        refine q rfl rfl (asg (v := .int _ _) rfl) ?_
        refine TL.nil (nt ?_)
        refine TC.seq ?_
        refine TC.seq ?_
        refine TC.draw _ [] [(0, false), (1, false), (2, false), (3, false), (4, false), (5, false), (6, false), (7, false), (8, false), (9, false), (10, false), (11, false), (12, false), (13, true), (14, false), (15, false), (16, false), (17, false), (18, false), (19, false), (20, false), (21, true), (22, false), (23, false), (24, false), (25, false), (27, false), (28, false), (26, true), (29, false), (30, false)] (by kernel_rfl) (by kernel_rfl) (ent_take 0 rfl (ent_nil _)) ?_
        refine dq rfl rfl rfl (mv (v := .int _ _) rfl) ?_
        refine dq rfl rfl rfl (neI rfl rfl) ?_
        refine dq rfl rfl rfl (mv (v := .bool _) rfl) ?_
        refine TD.known 69 rfl (b' := false) (by decide) ?_
        refine dg rfl rfl rfl rfl (mv (v := .int _ _) rfl) ?_
        refine dg rfl rfl rfl rfl (mv (v := .int _ _) rfl) ?_
        refine dg rfl rfl rfl rfl (neI rfl rfl) ?_
        first | refine dq rfl rfl rfl (pkT (v := .bool _) rfl rfl) ?_ | refine dq rfl rfl rfl (pkF (v := .bool _) rfl rfl) ?_
        refine dq rfl rfl rfl (mv (v := .bool _) rfl) ?_
        refine TD.known 74 rfl (b' := false) (by simp) ?_
        refine dg rfl rfl rfl rfl (mv (v := .int _ _) rfl) ?_
        refine dg rfl rfl rfl rfl (geq rfl rfl) ?_
        refine dg rfl rfl rfl rfl (mv (v := .bool _) rfl) ?_
        refine TD.split 77 rfl (fun hge => ?_) (fun hge => ?_)
        · have hge := of_decide_eq_true hge
          refine dg rfl rfl rfl rfl (mv (v := .pointer _) rfl) ?_
          refine dg rfl rfl rfl rfl (mv (v := .int _ _) rfl) ?_
          refine deg rfl rfl rfl ?_
          refine cl (mstate_ok a A1 W last) rfl PkL.p trivial ?_
          intro _ _
          change ent _ _ ∧ TD _ _ _ _ _ _ _ _ _ _ (sepL [_, _, _, _])
          refine ⟨(by repeat (first | exact ent_nil _ | refine ent_take 0 rfl ?_ | refine ent_take 1 rfl ?_ | refine ent_take 2 rfl ?_ | refine ent_take 3 rfl ?_ | refine ent_take 4 rfl ?_ | refine ent_take 5 rfl ?_ | refine ent_take 6 rfl ?_ | refine ent_take 7 rfl ?_ | refine ent_take 8 rfl ?_ | refine ent_take 9 rfl ?_ | refine ent_take 10 rfl ?_ | refine ent_take 11 rfl ?_ | refine ent_take 12 rfl ?_)), ?_⟩
          rw [hs1 hge]
          refine dg rfl rfl rfl rfl (neI rfl rfl) ?_
          first | refine dg rfl rfl rfl rfl (pkT (v := .bool _) rfl rfl) ?_ | refine dg rfl rfl rfl rfl (pkF (v := .bool _) rfl rfl) ?_
          first | refine dq rfl rfl rfl (pkT (v := .bool _) rfl rfl) ?_ | refine dq rfl rfl rfl (pkF (v := .bool _) rfl rfl) ?_
          refine dq rfl rfl rfl (mv (v := .bool _) rfl) ?_
          refine TD.known 84 rfl (b' := false) (by decide) ?_
          refine dg rfl rfl rfl rfl (mv (v := .pointer _) rfl) ?_
          first | refine dg rfl rfl rfl rfl (fa 0 rfl rfl) ?_ | refine dg rfl rfl rfl rfl (faS 0 rfl rfl (by first | assumption | (simp [ints_length] <;> omega))) ?_
          first | refine dg rfl rfl rfl rfl (ld rfl rfl rfl) ?_ | refine dg rfl rfl rfl rfl (ldS rfl rfl rfl) ?_
          refine deg rfl rfl rfl ?_
          refine cl (mstate_ok a A1 W o.fr) rfl PkL.p trivial ?_
          intro _ _
          change ent _ _ ∧ TD _ _ _ _ _ _ _ _ _ _ (sepL [_, _, _, _])
          refine ⟨(by repeat (first | exact ent_nil _ | refine ent_take 0 rfl ?_ | refine ent_take 1 rfl ?_ | refine ent_take 2 rfl ?_ | refine ent_take 3 rfl ?_ | refine ent_take 4 rfl ?_ | refine ent_take 5 rfl ?_ | refine ent_take 6 rfl ?_ | refine ent_take 7 rfl ?_ | refine ent_take 8 rfl ?_ | refine ent_take 9 rfl ?_ | refine ent_take 10 rfl ?_ | refine ent_take 11 rfl ?_ | refine ent_take 12 rfl ?_)), ?_⟩
          rw [hs2]
          refine dg rfl rfl rfl rfl (neI rfl rfl) ?_
          first | refine dq rfl rfl rfl (pkT (v := .bool _) rfl rfl) ?_ | refine dq rfl rfl rfl (pkF (v := .bool _) rfl rfl) ?_
          refine dq rfl rfl rfl (mv (v := .bool _) rfl) ?_
          refine TD.known 91 rfl (b' := false) (by decide) ?_
          refine dg rfl rfl rfl rfl (mv (v := .pointer _) rfl) ?_
          first | refine dg rfl rfl rfl rfl (fa 0 rfl rfl) ?_ | refine dg rfl rfl rfl rfl (faS 0 rfl rfl (by first | assumption | (simp [ints_length] <;> omega))) ?_
          first | refine dg rfl rfl rfl rfl (ld rfl rfl rfl) ?_ | refine dg rfl rfl rfl rfl (ldS rfl rfl rfl) ?_
          refine deg rfl rfl rfl ?_
          refine cl (mcaller_ok a A1 W 0) rfl PkL.p trivial ?_
          intro _ _
          change ent _ _ ∧ TD _ _ _ _ _ _ _ _ _ _ (sepL [_, _, _, _])
          refine ⟨(by repeat (first | exact ent_nil _ | refine ent_take 0 rfl ?_ | refine ent_take 1 rfl ?_ | refine ent_take 2 rfl ?_ | refine ent_take 3 rfl ?_ | refine ent_take 4 rfl ?_ | refine ent_take 5 rfl ?_ | refine ent_take 6 rfl ?_ | refine ent_take 7 rfl ?_ | refine ent_take 8 rfl ?_ | refine ent_take 9 rfl ?_ | refine ent_take 10 rfl ?_ | refine ent_take 11 rfl ?_ | refine ent_take 12 rfl ?_)), ?_⟩
          rw [hs3]
          refine dg rfl rfl rfl rfl (neI rfl rfl) ?_
          first | refine dq rfl rfl rfl (pkT (v := .bool _) rfl rfl) ?_ | refine dq rfl rfl rfl (pkF (v := .bool _) rfl rfl) ?_
          refine TD.nil (nt ?_)
          refine TC.condD rfl (fun hc3 => absurd hc3 (by simp)) (fun hc3 => ?_)
          refine TC.skip (nt ?_)
          refine TC.region ?_
          first | refine q rfl rfl (fa 0 rfl rfl) ?_ | refine q rfl rfl (faS 0 rfl rfl (by first | assumption | (simp [ints_length] <;> omega))) ?_
          first | refine q rfl rfl (ld rfl rfl rfl) ?_ | refine q rfl rfl (ldS rfl rfl rfl) ?_
          refine q rfl rfl (asg (v := .int _ _) rfl) ?_
          refine TL.nil (nb (nt ?_))
          exact ⟨rfl, ⟨W, o.fr⟩, hW, (by dsimp only; rw [hs4]; omega), ⟨rfl, rfl, rfl, rfl, rfl, trivial⟩, (by repeat (first | exact ent_nil _ | refine ent_take 0 rfl ?_ | refine ent_take 1 rfl ?_ | refine ent_take 2 rfl ?_ | refine ent_take 3 rfl ?_ | refine ent_take 4 rfl ?_ | refine ent_take 5 rfl ?_ | refine ent_take 6 rfl ?_ | refine ent_take 7 rfl ?_ | refine ent_take 8 rfl ?_ | refine ent_take 9 rfl ?_ | refine ent_take 10 rfl ?_ | refine ent_take 11 rfl ?_ | refine ent_take 12 rfl ?_))⟩
        · have hge := of_decide_eq_false hge
          refine dk rfl rfl rfl rfl ?_
          refine dk rfl rfl rfl rfl ?_
          refine dke rfl rfl rfl (by repeat (first | exact ent_nil _ | refine ent_take 0 rfl ?_ | refine ent_take 1 rfl ?_ | refine ent_take 2 rfl ?_ | refine ent_take 3 rfl ?_ | refine ent_take 4 rfl ?_ | refine ent_take 5 rfl ?_ | refine ent_take 6 rfl ?_ | refine ent_take 7 rfl ?_ | refine ent_take 8 rfl ?_ | refine ent_take 9 rfl ?_ | refine ent_take 10 rfl ?_ | refine ent_take 11 rfl ?_ | refine ent_take 12 rfl ?_)) ?_
          refine dk rfl rfl rfl rfl ?_
          first | refine dg rfl rfl rfl rfl (pkT (v := .bool _) rfl rfl) ?_ | refine dg rfl rfl rfl rfl (pkF (v := .bool _) rfl rfl) ?_
          first | refine dq rfl rfl rfl (pkT (v := .bool _) rfl rfl) ?_ | refine dq rfl rfl rfl (pkF (v := .bool _) rfl rfl) ?_
          refine dq rfl rfl rfl (mv (v := .bool _) rfl) ?_
          refine TD.known 84 rfl (b' := false) rfl ?_
          refine dg rfl rfl rfl rfl (mv (v := .pointer _) rfl) ?_
          first | refine dg rfl rfl rfl rfl (fa 0 rfl rfl) ?_ | refine dg rfl rfl rfl rfl (faS 0 rfl rfl (by first | assumption | (simp [ints_length] <;> omega))) ?_
          first | refine dg rfl rfl rfl rfl (ld rfl rfl rfl) ?_ | refine dg rfl rfl rfl rfl (ldS rfl rfl rfl) ?_
          refine deg rfl rfl rfl ?_
          refine cl (mstate_ok a A1 W o.fr) rfl PkL.p trivial ?_
          intro _ _
          change ent _ _ ∧ TD _ _ _ _ _ _ _ _ _ _ (sepL [_, _, _, _])
          refine ⟨(by repeat (first | exact ent_nil _ | refine ent_take 0 rfl ?_ | refine ent_take 1 rfl ?_ | refine ent_take 2 rfl ?_ | refine ent_take 3 rfl ?_ | refine ent_take 4 rfl ?_ | refine ent_take 5 rfl ?_ | refine ent_take 6 rfl ?_ | refine ent_take 7 rfl ?_ | refine ent_take 8 rfl ?_ | refine ent_take 9 rfl ?_ | refine ent_take 10 rfl ?_ | refine ent_take 11 rfl ?_ | refine ent_take 12 rfl ?_)), ?_⟩
          rw [hs2]
          refine dg rfl rfl rfl rfl (neI rfl rfl) ?_
          first | refine dq rfl rfl rfl (pkT (v := .bool _) rfl rfl) ?_ | refine dq rfl rfl rfl (pkF (v := .bool _) rfl rfl) ?_
          refine dq rfl rfl rfl (mv (v := .bool _) rfl) ?_
          refine TD.known 91 rfl (b' := false) (by decide) ?_
          refine dg rfl rfl rfl rfl (mv (v := .pointer _) rfl) ?_
          first | refine dg rfl rfl rfl rfl (fa 0 rfl rfl) ?_ | refine dg rfl rfl rfl rfl (faS 0 rfl rfl (by first | assumption | (simp [ints_length] <;> omega))) ?_
          first | refine dg rfl rfl rfl rfl (ld rfl rfl rfl) ?_ | refine dg rfl rfl rfl rfl (ldS rfl rfl rfl) ?_
          refine deg rfl rfl rfl ?_
          refine cl (mcaller_ok a A1 W 0) rfl PkL.p trivial ?_
          intro _ _
          change ent _ _ ∧ TD _ _ _ _ _ _ _ _ _ _ (sepL [_, _, _, _])
          refine ⟨(by repeat (first | exact ent_nil _ | refine ent_take 0 rfl ?_ | refine ent_take 1 rfl ?_ | refine ent_take 2 rfl ?_ | refine ent_take 3 rfl ?_ | refine ent_take 4 rfl ?_ | refine ent_take 5 rfl ?_ | refine ent_take 6 rfl ?_ | refine ent_take 7 rfl ?_ | refine ent_take 8 rfl ?_ | refine ent_take 9 rfl ?_ | refine ent_take 10 rfl ?_ | refine ent_take 11 rfl ?_ | refine ent_take 12 rfl ?_)), ?_⟩
          rw [hs3]
          refine dg rfl rfl rfl rfl (neI rfl rfl) ?_
          first | refine dq rfl rfl rfl (pkT (v := .bool _) rfl rfl) ?_ | refine dq rfl rfl rfl (pkF (v := .bool _) rfl rfl) ?_
          refine TD.nil (nt ?_)
          refine TC.condD rfl (fun hc4 => absurd hc4 (by simp)) (fun hc4 => ?_)
          refine TC.skip (nt ?_)
          refine TC.region ?_
          first | refine q rfl rfl (fa 0 rfl rfl) ?_ | refine q rfl rfl (faS 0 rfl rfl (by first | assumption | (simp [ints_length] <;> omega))) ?_
          first | refine q rfl rfl (ld rfl rfl rfl) ?_ | refine q rfl rfl (ldS rfl rfl rfl) ?_
          refine q rfl rfl (asg (v := .int _ _) rfl) ?_
          refine TL.nil (nb (nt ?_))
          exact ⟨rfl, ⟨W, o.fr⟩, hW, (by dsimp only; rw [hs4]; omega), ⟨rfl, rfl, rfl, rfl, rfl, trivial⟩, (by repeat (first | exact ent_nil _ | refine ent_take 0 rfl ?_ | refine ent_take 1 rfl ?_ | refine ent_take 2 rfl ?_ | refine ent_take 3 rfl ?_ | refine ent_take 4 rfl ?_ | refine ent_take 5 rfl ?_ | refine ent_take 6 rfl ?_ | refine ent_take 7 rfl ?_ | refine ent_take 8 rfl ?_ | refine ent_take 9 rfl ?_ | refine ent_take 10 rfl ?_ | refine ent_take 11 rfl ?_ | refine ent_take 12 rfl ?_))⟩
      · refine TC.exit (et (et (eb (nb (nt ?_)))))
        refine TC.region ?_
        refine q rfl rfl (mv (v := .int _ _) rfl) ?_
        first | refine q rfl rfl (addI rfl rfl (by omega) (by omega)) ?_ | refine q rfl rfl (add rfl rfl rfl) ?_
        refine q rfl rfl (asg (v := .int _ _) rfl) ?_
        refine TL.nil (nt ?_)
        exact ⟨rfl, ⟨i + 1, A1, Z, last⟩, ⟨by dsimp only; omega, hI⟩, (by dsimp only; omega), ⟨rfl, rfl, rfl, rfl, congrArg (Value.int .i64) (by dsimp only; omega), trivial⟩, (by repeat (first | exact ent_nil _ | refine ent_take 0 rfl ?_ | refine ent_take 1 rfl ?_ | refine ent_take 2 rfl ?_ | refine ent_take 3 rfl ?_ | refine ent_take 4 rfl ?_ | refine ent_take 5 rfl ?_ | refine ent_take 6 rfl ?_ | refine ent_take 7 rfl ?_ | refine ent_take 8 rfl ?_ | refine ent_take 9 rfl ?_ | refine ent_take 10 rfl ?_ | refine ent_take 11 rfl ?_ | refine ent_take 12 rfl ?_))⟩
  · have hls := hI.lst
    rcases hls with rfl | ⟨l0, l1, l2⟩
    · have hv := hI.none
      refine TC.exit (et (et (eb (nt ?_))))
      refine TC.seq ?_
      refine TC.region ?_
      refine q rfl rfl (mv (v := .pointer _) rfl) ?_
      refine e rfl ?_
      refine cl (manswer_ok a A Z hI.wm 0) rfl PkL.p trivial ?_
      intro _ _
      change TL _ _ _ _ _ _ _ _ (sepL [_, _])
      rw [hv]
      dsimp only
      refine q rfl rfl (mv (v := .tuple _) rfl) ?_
      refine q rfl rfl (pu (v := .int _ _) (fun _ => rfl)) ?_
      refine q rfl rfl (pu (v := .int _ _) (fun _ => rfl)) ?_
      refine q rfl rfl (asg (v := .int _ _) rfl) ?_
      refine q rfl rfl (asg (v := .int _ _) rfl) ?_
      refine TL.nil (nt ?_)
      refine TC.seq ?_
      refine TC.seq ?_
      refine TC.region ?_
      refine q rfl rfl (mv (v := .int _ _) rfl) ?_
      refine q rfl rfl (lss rfl rfl) ?_
      refine TL.nil (nt ?_)
      refine TC.condD rfl (fun hc5 => ?_) (fun hc5 => absurd (by decide) hc5)
      refine TC.seq ?_
      refine TC.region ?_
      refine q rfl rfl (mv (v := .int _ _) rfl) ?_
      refine q rfl rfl (eqI rfl rfl) ?_
      refine q rfl rfl (asg (v := .bool _) rfl) ?_
      refine TL.nil (nt ?_)
      refine TC.ret (rt ?_)
      exact Ret.i () [_] ⟨rfl, trivial⟩ rfl trivial (by repeat (first | exact ent_nil _ | refine ent_take 0 rfl ?_ | refine ent_take 1 rfl ?_ | refine ent_take 2 rfl ?_ | refine ent_take 3 rfl ?_ | refine ent_take 4 rfl ?_ | refine ent_take 5 rfl ?_ | refine ent_take 6 rfl ?_ | refine ent_take 7 rfl ?_ | refine ent_take 8 rfl ?_ | refine ent_take 9 rfl ?_ | refine ent_take 10 rfl ?_ | refine ent_take 11 rfl ?_ | refine ent_take 12 rfl ?_))
    · obtain ⟨Z2, hv, hW2, hv2, hs1, hs2⟩ := hI.ans l0
      refine TC.exit (et (et (eb (nt ?_))))
      refine TC.seq ?_
      refine TC.region ?_
      refine q rfl rfl (mv (v := .pointer _) rfl) ?_
      refine e rfl ?_
      refine cl (manswer_ok a A Z hI.wm 0) rfl PkL.p trivial ?_
      intro _ _
      change TL _ _ _ _ _ _ _ _ (sepL [_, _])
      rw [hv]
      dsimp only
      refine q rfl rfl (mv (v := .tuple _) rfl) ?_
      refine q rfl rfl (pu (v := .int _ _) (fun _ => rfl)) ?_
      refine q rfl rfl (pu (v := .int _ _) (fun _ => rfl)) ?_
      refine q rfl rfl (asg (v := .int _ _) rfl) ?_
      refine q rfl rfl (asg (v := .int _ _) rfl) ?_
      refine TL.nil (nt ?_)
      refine TC.seq ?_
      refine TC.seq ?_
      refine TC.region ?_
      refine q rfl rfl (mv (v := .int _ _) rfl) ?_
      refine q rfl rfl (lss rfl rfl) ?_
      refine TL.nil (nt ?_)
      refine TC.condD rfl (fun hc6 => absurd hc6 (by omega)) (fun hc6 => ?_)
      refine TC.skip (nt ?_)
      refine TC.seq ?_
      refine TC.region ?_
      refine q rfl rfl (mv (v := .pointer _) rfl) ?_
      refine e rfl ?_
      refine cl (manswer_ok a A Z2 hW2 0) rfl PkL.p trivial ?_
      intro _ _
      change TL _ _ _ _ _ _ _ _ (sepL [_, _])
      rw [hv2]
      dsimp only
      refine q rfl rfl (mv (v := .tuple _) rfl) ?_
      refine q rfl rfl (pu (v := .int _ _) (fun _ => rfl)) ?_
      refine q rfl rfl (pu (v := .int _ _) (fun _ => rfl)) ?_
      refine q rfl rfl (asg (v := .int _ _) rfl) ?_
      refine q rfl rfl (asg (v := .int _ _) rfl) ?_
      refine TL.nil (nt ?_)
      refine TC.seq ?_
      refine TC.region ?_
      refine q rfl rfl (mv (v := .int _ _) rfl) ?_
      refine q rfl rfl (eqI rfl rfl) ?_
      refine q rfl rfl (mv (v := .bool _) rfl) ?_
      refine TL.known 116 rfl (c := true) (by decide) ?_
      refine qg rfl rfl rfl (mv (v := .int _ _) rfl) ?_
      refine qg rfl rfl rfl (mv (v := .int _ _) rfl) ?_
      refine qg rfl rfl rfl (eqI rfl rfl) ?_
      first | refine q rfl rfl (pkT (v := .bool _) rfl rfl) ?_ | refine q rfl rfl (pkF (v := .bool _) rfl rfl) ?_
      refine q rfl rfl (mv (v := .bool _) rfl) ?_
      refine TL.known 121 rfl (c := true) (by simp) ?_
      refine qg rfl rfl rfl (mv (v := .pointer _) rfl) ?_
      refine qg rfl rfl rfl (mv (v := .int _ _) rfl) ?_
      refine eg rfl rfl ?_
      refine cl (mstate_ok a A Z2 last) rfl PkL.p trivial ?_
      intro _ _
      change TL _ _ _ _ _ _ _ _ (sepL [_, _])
      rw [hs1]
      refine qg rfl rfl rfl (eqI rfl rfl) ?_
      first | refine q rfl rfl (pkT (v := .bool _) rfl rfl) ?_ | refine q rfl rfl (pkF (v := .bool _) rfl rfl) ?_
      refine q rfl rfl (mv (v := .bool _) rfl) ?_
      refine TL.known 127 rfl (c := true) (by decide) ?_
      refine qg rfl rfl rfl (mv (v := .pointer _) rfl) ?_
      refine eg rfl rfl ?_
      refine cl (mcaller_ok a A Z2 0) rfl PkL.p trivial ?_
      intro _ _
      change TL _ _ _ _ _ _ _ _ (sepL [_, _])
      rw [hs2]
      refine qg rfl rfl rfl (eqI rfl rfl) ?_
      first | refine q rfl rfl (pkT (v := .bool _) rfl rfl) ?_ | refine q rfl rfl (pkF (v := .bool _) rfl rfl) ?_
      refine q rfl rfl (mv (v := .bool _) rfl) ?_
      refine TL.known 132 rfl (c := true) (by decide) ?_
      refine qg rfl rfl rfl (mv (v := .int _ _) rfl) ?_
      refine qg rfl rfl rfl (eqI rfl rfl) ?_
      first | refine q rfl rfl (pkT (v := .bool _) rfl rfl) ?_ | refine q rfl rfl (pkF (v := .bool _) rfl rfl) ?_
      refine q rfl rfl (asg (v := .bool _) rfl) ?_
      refine TL.nil (nt ?_)
      refine TC.ret ?_
      exact Ret.i () [_] ⟨rfl, trivial⟩ rfl trivial (by repeat (first | exact ent_nil _ | refine ent_take 0 rfl ?_ | refine ent_take 1 rfl ?_ | refine ent_take 2 rfl ?_ | refine ent_take 3 rfl ?_ | refine ent_take 4 rfl ?_ | refine ent_take 5 rfl ?_ | refine ent_take 6 rfl ?_ | refine ent_take 7 rfl ?_ | refine ent_take 8 rfl ?_ | refine ent_take 9 rfl ?_ | refine ent_take 10 rfl ?_ | refine ent_take 11 rfl ?_ | refine ent_take 12 rfl ?_))

end Go.Proofs.Ytgmniphegombhaa
