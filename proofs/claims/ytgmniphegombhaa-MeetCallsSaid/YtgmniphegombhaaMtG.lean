/-
  Proved here: what functions of this program compute, each as a contract over symbolic states, under the premises that each theorem names (most lines printed by a program of the prover).
-/
import Derived.Test.YtgmniphegombhaaMtF
import Derived.Test.YtgmniphegombhaaQLibX
namespace Go.Proofs.Ytgmniphegombhaa
open Go Go.QM
structure OI (Z : MS) (m : Nat) (C : List Int) : Prop where
  wm : WM Z
  me : (1000 : Int) ∈ Z.ids
  st : Z.st 1000 = 0
  id : ∀ x ∈ Z.ids, x = 1000 ∨ (0 ≤ x ∧ x ≤ 255)
  s01 : ∀ x ∈ Z.ids, Z.st x = 0 ∨ Z.st x = 1
  off : ∀ o ∈ Z.row 1000, o.cl = decide (o.gt % 2 = 0) ∧ 0 ≤ o.gt ∧ o.gt ≤ 1000
  er : ∀ x ∈ Z.ids, x ≠ 1000 → Z.row x = []
  eq : C = (Z.row 1000).map (·.fr)
  len : Z.ids.length ≤ m + 1
theorem OI.start : OI (joinL s0 [1000]) 0 [] where
  wm := WM.zero.join 1000
  me := by simp [joinL, joinS, s0]
  st := by kernel_rfl
  id := fun x hx => by
    have : x ∈ [(1000 : Int)] := hx
    exact .inl (List.mem_singleton.1 this)
  s01 := fun x hx => by
    have : x ∈ [(1000 : Int)] := hx
    rw [List.mem_singleton.1 this]; exact .inl (by kernel_rfl)
  off := fun o ho => by
    have : o ∈ ([] : List Off) := ho
    cases this
  er := fun x hx hn => by
    have : x ∈ [(1000 : Int)] := hx
    exact absurd (List.mem_singleton.1 this) hn
  eq := by kernel_rfl
  len := Nat.le_refl 1
theorem OI.pn {Z : MS} {m : Nat} {C : List Int} (h : OI Z m C) {x : Int} (hx : x ∈ Z.ids) (hs : Z.st x = 1) : Z.pn x = 1000 := by
  obtain ⟨h1, o, h2, h3⟩ := h.wm.snd x hx hs
  by_cases e : Z.pn x = 1000
  · exact e
  · rw [h.er _ h1 e] at h2; cases h2
theorem OI.join {Z : MS} {m : Nat} {C : List Int} (h : OI Z m C) {k : Int} (hk : 0 ≤ k ∧ k ≤ 255) : OI (joinS Z k) (m + 1) C ∧ (k ∉ Z.ids → (joinS Z k).st k = 0) ∧ k ∈ (joinS Z k).ids ∧ (k ∈ Z.ids → joinS Z k = Z) := by
  by_cases hx : k ∈ Z.ids
  · have e : joinS Z k = Z := by rw [joinS, if_pos (.inl hx)]
    rw [e]
    exact ⟨{ h with len := by have := h.len; omega }, fun h2 => absurd hx h2, hx, fun _ => rfl⟩
  · have e : joinS Z k = ⟨Z.ids ++ [k], updI Z.st k 0, updI Z.cl k (-1), updI Z.pn k (-1), updI Z.row k []⟩ := by rw [joinS, if_neg (fun h2 => h2.elim hx (by omega))]
    have ne : ∀ y ∈ Z.ids, y ≠ k := fun y hy e2 => hx (e2 ▸ hy)
    have n1 : (1000 : Int) ≠ k := by omega
    have cs : ∀ y, y ∈ Z.ids ++ [k] → y ∈ Z.ids ∨ y = k := fun y hy => by simpa using hy
    have hw := h.wm.join k
    rw [e] at hw ⊢
    refine ⟨⟨hw, by simp [h.me], by dsimp only; rw [updI_ne n1]; exact h.st, fun y hy => ?_, fun y hy => ?_, by dsimp only; rw [updI_ne n1]; exact h.off, fun y hy hn => ?_, by dsimp only; rw [updI_ne n1]; exact h.eq, by have := h.len; simp; omega⟩, fun _ => updI_same _ _ _, by simp, fun h2 => absurd h2 hx⟩
    · rcases cs y hy with hy | rfl
      · exact h.id y hy
      · exact .inr hk
    · dsimp only
      rcases cs y hy with hy | rfl
      · rw [updI_ne (ne y hy)]; exact h.s01 y hy
      · rw [updI_same]; exact .inl rfl
    · dsimp only
      rcases cs y hy with hy | rfl
      · rw [updI_ne (ne y hy)]; exact h.er y hy hn
      · exact updI_same _ _ _
theorem OI.offer {Z : MS} {m : Nat} {C : List Int} (h : OI Z m C) {k : Int} (hk : 0 ≤ k ∧ k ≤ 255) (hx : k ∈ Z.ids) (i : Nat) (hi : i ≤ 1000) :
    (Z.st k = 0 ∧ ∃ Z2, offS Z 1000 ⟨k, i, decide ((i : Int) % 2 = 0)⟩ = (Z2, 0) ∧ OI Z2 m (C ++ [k])) ∨ (Z.st k ≠ 0 ∧ offS Z 1000 ⟨k, i, decide ((i : Int) % 2 = 0)⟩ = (Z, 12)) := by
  have n1 : (1000 : Int) ≠ k := by omega
  have hno : ¬ ((1000 : Int) ∉ Z.ids ∨ k ∉ Z.ids) := fun h2 => h2.elim (fun h3 => h3 h.me) (fun h3 => h3 hx)
  by_cases hs : Z.st k = 0
  · left
    refine ⟨hs, pushS (wtS Z k 1 1000) 1000 ⟨k, i, decide ((i : Int) % 2 = 0)⟩, by rw [offS, if_neg hno, if_neg (Ne.symm n1), if_neg (fun h2 => h2 hs)], ?_⟩
    have hw := h.wm.send (o := ⟨k, i, decide ((i : Int) % 2 = 0)⟩) hx h.me (Ne.symm n1) hs
    refine ⟨hw, h.me, by dsimp only [pushS, wtS]; rw [updI_ne n1]; exact h.st, h.id, fun y hy => ?_, fun o ho => ?_, fun y hy hn => ?_, ?_, h.len⟩
    · dsimp only [pushS, wtS]
      by_cases e : y = k
      · rw [e, updI_same]; exact .inr rfl
      · rw [updI_ne e]; exact h.s01 y hy
    · dsimp only [pushS, wtS] at ho
      rw [updI_same] at ho
      rcases List.mem_append.1 ho with ho | ho
      · exact h.off o ho
      · rw [List.mem_singleton.1 ho]; exact ⟨rfl, by dsimp only; omega, by dsimp only; omega⟩
    · dsimp only [pushS, wtS]; rw [updI_ne hn]; exact h.er y hy hn
    · dsimp only [pushS, wtS]; rw [updI_same, List.map_append, ← h.eq]; rfl
  · exact .inr ⟨hs, by rw [offS, if_neg hno, if_neg (Ne.symm n1), if_pos hs]⟩
theorem filter_lt {C : List Int} {x : Int} (h : x ∈ C) : (C.filter fun y => decide (y ≠ x)).length < C.length := by
  induction C with
  | nil => cases h
  | cons a C ih =>
    by_cases e : a = x
    · rw [List.filter_cons_of_neg (by simp [e])]; have := List.length_filter_le (fun y => decide (y ≠ x)) C; rw [List.length_cons]; omega
    · rw [List.filter_cons_of_pos (by simpa using e), List.length_cons, List.length_cons]
      have := ih (by rcases List.mem_cons.1 h with h | h; exact absurd h.symm e; exact h); omega
theorem OI.off2 {Z : MS} {m : Nat} {C : List Int} (h : OI Z m C) {x : Int} (hx : 0 ≤ x ∧ x ≤ 255) : OI (callS Z x).1 m (C.filter fun y => decide (y ≠ x)) ∧ ((callS Z x).2 = 0 ↔ (C.filter fun y => decide (y ≠ x)).length < C.length) := by
  have key : ∀ e, e ≠ 0 → callS Z x = (Z, e) → x ∉ C → OI (callS Z x).1 m (C.filter fun y => decide (y ≠ x)) ∧ ((callS Z x).2 = 0 ↔ (C.filter fun y => decide (y ≠ x)).length < C.length) := fun e he hv hn => by
    have hf : (C.filter fun y => decide (y ≠ x)) = C := List.filter_eq_self.2 fun y hy => by simp only [decide_eq_true_eq]; exact fun e2 => hn (e2 ▸ hy)
    rw [hv, hf]
    exact ⟨h, fun h2 => absurd h2 he, fun h2 => absurd h2 (Nat.lt_irrefl _)⟩
  have hC : ∀ y ∈ C, y ∈ Z.ids ∧ Z.st y = 1 := fun y hy => by
    rw [h.eq] at hy
    obtain ⟨o, ho, rfl⟩ := List.mem_map.1 hy
    have := h.wm.row 1000 h.me o ho
    exact ⟨this.1, this.2.2.1⟩
  by_cases h1 : x ∈ Z.ids
  · by_cases h2 : Z.st x = 0
    · exact key 12 (by decide) (by rw [callS, if_neg (fun h3 => h3 h1), if_pos h2]) (fun h3 => by have := (hC x h3).2; omega)
    · have h3 : Z.st x = 1 := (h.s01 x h1).resolve_left h2
      have hp := h.pn h1 h3
      have hv : callS Z x = (frS (cutMS Z 1000 fun o => decide (o.fr = x)) x, 0) := by rw [callS, if_neg (fun h3 => h3 h1), if_neg h2, if_pos h3, hp]
      have hw := h.wm.call x
      have n1 : (1000 : Int) ≠ x := by omega
      have hrow : (cutMS Z 1000 fun o => decide (o.fr = x)).row 1000 = (Z.row 1000).filter fun o => decide (o.fr ≠ x) := by
        dsimp only [cutMS, rowS]; rw [updI_same]
        refine List.filter_congr fun o _ => ?_
        simp [notO]
      have heq : (C.filter fun y => decide (y ≠ x)) = ((Z.row 1000).filter fun o => decide (o.fr ≠ x)).map (·.fr) := by
        rw [h.eq, List.filter_map]; rfl
      rw [hv] at hw ⊢
      refine ⟨⟨hw, h.me, by dsimp only [frS, cutMS, rowS]; rw [updI_ne n1]; exact h.st, h.id, fun y hy => ?_, fun o ho => ?_, fun y hy hn => ?_, ?_, h.len⟩, fun _ => filter_lt ?_, fun _ => rfl⟩
      · dsimp only [frS, cutMS, rowS]
        by_cases e : y = x
        · rw [e, updI_same]; exact .inl rfl
        · rw [updI_ne e]; exact h.s01 y hy
      · have ho : o ∈ (cutMS Z 1000 fun o => decide (o.fr = x)).row 1000 := ho
        rw [hrow] at ho
        exact h.off o (List.mem_filter.1 ho).1
      · dsimp only [frS, cutMS, rowS]; rw [updI_ne hn]; exact h.er y hy hn
      · show _ = ((cutMS Z 1000 fun o => decide (o.fr = x)).row 1000).map (·.fr)
        rw [hrow]; exact heq
      · obtain ⟨_, o, ho, e⟩ := h.wm.snd x h1 h3
        rw [hp] at ho
        rw [h.eq]; exact List.mem_map.2 ⟨o, ho, e⟩
  · exact key 6 (by decide) (by rw [callS, if_pos h1]) (fun h3 => h1 (hC x h3).1)
structure O3 (Z : MS) (C : List Int) (i : Nat) : Prop where
  wm : WM Z
  me : (1000 : Int) ∈ Z.ids
  st : Z.st 1000 = 0
  off : ∀ o ∈ Z.row 1000, o.cl = decide (o.gt % 2 = 0) ∧ 0 ≤ o.gt ∧ o.gt ≤ 1000
  eq : (Z.row 1000).map (·.fr) = C.drop i
  len : Z.ids.length ≤ 1000
theorem OI.turn {Z : MS} {m : Nat} {C : List Int} (h : OI Z m C) (hm : m ≤ 900) : O3 Z C 0 := ⟨h.wm, h.me, h.st, h.off, h.eq.symm, by have := h.len; omega⟩
theorem O3.step {Z : MS} {C : List Int} {i : Nat} (h : O3 Z C i) {x : Int} (hx : C[i]? = some x) : ∃ Z2 o el, takeS Z 1000 = (Z2, o, el, 0) ∧ o.fr = x ∧ o.cl = decide (o.gt % 2 = 0) ∧ 0 ≤ o.gt ∧ o.gt ≤ 1000 ∧ stR Z2 x = (if o.cl = true then 3 else 0) ∧ O3 Z2 C (i + 1) := by
  have hd : C.drop i = x :: C.drop (i + 1) := by
    obtain ⟨g1, g2⟩ := List.getElem?_eq_some_iff.1 hx
    rw [← g2]; exact List.drop_eq_getElem_cons g1
  rcases row_cases (Z.row 1000) with hr | ⟨o, r, hr⟩
  · have := h.eq; rw [hr, hd] at this; cases this
  have he := h.eq
  rw [hr, hd, List.map_cons] at he
  obtain ⟨he1, he2⟩ := List.cons.inj he
  obtain ⟨f1, f2, f3, f4⟩ := h.wm.row 1000 h.me o (by rw [hr]; simp)
  obtain ⟨g1, g2, g3⟩ := h.off o (by rw [hr]; simp)
  have hw := h.wm.take 1000
  have hv : takeS Z 1000 = if o.cl = true then
      (if Z.cl 1000 ≠ -1 then wtS (clS (frS (frS (frS (rowS Z 1000 r) 1000) o.fr) (Z.cl 1000)) 1000 o.fr) o.fr 3 1000 else wtS (clS (frS (frS (rowS Z 1000 r) 1000) o.fr) 1000 o.fr) o.fr 3 1000, o, Z.cl 1000, 0)
    else (frS (frS (rowS Z 1000 r) 1000) o.fr, o, -1, 0) := by
    rw [takeS, if_neg (fun h2 => h2 h.me), if_neg (by rw [h.st]; omega), hr]
  have n1 : (1000 : Int) ≠ o.fr := Ne.symm f2
  have hoff : ∀ u ∈ r, u.cl = decide (u.gt % 2 = 0) ∧ 0 ≤ u.gt ∧ u.gt ≤ 1000 := fun u hu => h.off u (by rw [hr]; simp [hu])
  rw [hv] at hw ⊢
  subst he1
  by_cases hc : o.cl = true
  · rw [if_pos hc] at hw ⊢
    dsimp only at hw
    refine ⟨_, _, _, rfl, rfl, g1, g2, g3, ?_, hw, ?_, ?_, ?_, ?_, ?_⟩
    · rw [if_pos hc]
      by_cases hz : Z.cl 1000 ≠ -1
      · rw [if_pos hz, stR, if_pos (show o.fr ∈ (wtS (clS (frS (frS (frS (rowS Z 1000 r) 1000) o.fr) (Z.cl 1000)) 1000 o.fr) o.fr 3 1000).ids from f1)]
        exact updI_same _ _ _
      · rw [if_neg hz, stR, if_pos (show o.fr ∈ (wtS (clS (frS (frS (rowS Z 1000 r) 1000) o.fr) 1000 o.fr) o.fr 3 1000).ids from f1)]
        exact updI_same _ _ _
    · split <;> exact h.me
    · split
      · dsimp only [wtS, clS, frS, rowS]; rw [updI_ne n1]
        by_cases e : (1000 : Int) = Z.cl 1000
        · rw [← e, updI_same]
        · rw [updI_ne e, updI_ne n1, updI_same]
      · dsimp only [wtS, clS, frS, rowS]; rw [updI_ne n1, updI_ne n1, updI_same]
    · split
      · dsimp only [wtS, clS, frS, rowS]; rw [updI_same]; exact hoff
      · dsimp only [wtS, clS, frS, rowS]; rw [updI_same]; exact hoff
    · split
      · dsimp only [wtS, clS, frS, rowS]; rw [updI_same]; exact he2
      · dsimp only [wtS, clS, frS, rowS]; rw [updI_same]; exact he2
    · split <;> exact h.len
  · rw [if_neg hc] at hw ⊢
    refine ⟨_, _, _, rfl, rfl, g1, g2, g3, ?_, hw, h.me, ?_, ?_, ?_, h.len⟩
    · rw [if_neg hc, stR, if_pos (show o.fr ∈ (frS (frS (rowS Z 1000 r) 1000) o.fr).ids from f1)]; exact updI_same _ _ _
    · dsimp only [frS, rowS]; rw [updI_ne n1, updI_same]
    · dsimp only [frS, rowS]; rw [updI_same]; exact hoff
    · dsimp only [frS, rowS]; rw [updI_same]; exact he2
theorem O3.done {Z : MS} {C : List Int} (h : O3 Z C C.length) : takeS Z 1000 = (Z, o0, 0, 6) ∧ rowR Z 1000 = [] := by
  have he := h.eq
  rw [List.drop_length] at he
  have hr : Z.row 1000 = [] := List.map_eq_nil_iff.1 he
  exact ⟨by rw [takeS, if_neg (fun h2 => h2 h.me), if_neg (by rw [h.st]; omega), hr], by rw [rowR, if_pos h.me, hr]⟩
theorem fil_ne {C : List Int} {k : Nat} {y : Int} (h : C[k]? = some y) (x : Int) : (C.take (k + 1)).filter (fun z => decide (z ≠ x)) = (C.take k).filter (fun z => decide (z ≠ x)) ++ if y ≠ x then [y] else [] := by
  rw [List.take_add_one, h, Option.toList, List.filter_append]
  split
  · rename_i h2; rw [List.filter_cons_of_pos (by simpa using h2)]; rfl
  · rename_i h2; rw [List.filter_cons_of_neg (by simpa using h2)]; rfl

set_option maxRecDepth 4000 in
set_option maxHeartbeats 1000000 in
theorem order_ok (ad : Option Addr) (l : List Int) (cap : Nat) (ad2 : Option Addr) (l2 : List Int) (cap2 : Nat) (h8 : ∀ x ∈ l, 0 ≤ x ∧ x ≤ 255) (h9 : ∀ x ∈ l2, 0 ≤ x ∧ x ≤ 255) : FSpec Try.prog 3 [.slice ad l.length cap, .slice ad2 l2.length cap2] (fun F => (∃ E, RdS F E ad (nums .u8 l)) ∧ ∃ E, RdS F E ad2 (nums .u8 l2)) [] (fun _ : Unit => .bool true) (fun _ => True) (fun _ => []) := by
  refine FSpec.intro (rs := [.tmp 4]) (by kernel_rfl) Try.func3 rfl Try.ntmps3 (by rfl) rfl ?_
  intro F ⟨⟨E, hF⟩, ⟨E2, hF2⟩⟩
  change TC _ _ _ _ _ _ _ (sepL [_])
  haveI : RdSI F ad E (nums .u8 l) := ⟨hF⟩
  haveI : RdSI F ad2 E2 (nums .u8 l2) := ⟨hF2⟩
  refine TC.seq ?_
  refine TC.region ?_
  refine q rfl rfl (asg (v := .bool _) rfl) ?_
  refine TL.nil (nt ?_)
  refine TC.seq ?_
  refine TC.seq ?_
  refine TC.region ?_
  refine e rfl ?_
  refine cl alive_ok rfl (picked_nil _) trivial ?_
  intro _ _
  change TL _ _ _ _ _ _ _ _ (sepL [_])
  first | refine q rfl rfl (notD rfl) ?_ | refine q rfl rfl (notB rfl) ?_
  refine TL.nil (nt ?_)
  refine TC.condF rfl ?_
  refine TC.skip (nt ?_)
  refine TC.seq ?_
  refine TC.seq ?_
  refine TC.region ?_
  refine q rfl rfl (mv (v := .slice _ _ _) rfl) ?_
  refine q rfl rfl (len 5 1 rfl rfl) ?_
  refine q rfl rfl (gtr rfl rfl) ?_
  refine q rfl rfl (mv (v := .bool _) rfl) ?_
  refine TL.split 25 rfl (fun hb1 => ?_) (fun hb1 => ?_)
  · have hb1 := of_decide_eq_true hb1
    refine qs rfl rfl ?_
    refine qs rfl rfl ?_
    refine qs rfl rfl ?_
    first | refine q rfl rfl (pkT (v := .bool _) rfl rfl) ?_ | refine q rfl rfl (pkF (v := .bool _) rfl rfl) ?_
    refine TL.nil (nt ?_)
    refine TC.condT rfl ?_
    refine TC.seq ?_
    refine TC.region ?_
    refine q rfl rfl (asg (v := .bool _) rfl) ?_
    refine TL.nil (nt ?_)
    refine TC.ret (rt ?_)
    exact Ret.i () [_] ⟨rfl, trivial⟩ rfl trivial (ent_take 0 rfl (ent_nil _))
  · have hb1 := of_decide_eq_false hb1
    refine qg rfl rfl rfl (mv (v := .slice _ _ _) rfl) ?_
    refine qg rfl rfl rfl (len 5 1 rfl rfl) ?_
    refine qg rfl rfl rfl (gtr rfl rfl) ?_
    first | refine q rfl rfl (pkT (v := .bool _) rfl rfl) ?_ | refine q rfl rfl (pkF (v := .bool _) rfl rfl) ?_
    refine TL.nil (nt ?_)
    first | refine TC.condD rfl (fun hb2 => ?_) (fun hb2 => ?_) | refine TC.cond rfl (fun hb2 => ?_) (fun hb2 => ?_)
    · refine TC.seq ?_
      refine TC.region ?_
      refine q rfl rfl (asg (v := .bool _) rfl) ?_
      refine TL.nil (nt ?_)
      refine TC.ret (rt ?_)
      exact Ret.i () [_] ⟨rfl, trivial⟩ rfl trivial (ent_take 0 rfl (ent_nil _))
    · refine TC.skip (nt ?_)
      refine TC.seq ?_
      refine TC.region ?_
      refine e rfl ?_
      refine cl (mnew_ok (fun _ => 0)) rfl (picked_nil _) trivial ?_
      intro a _
      change TL _ _ _ _ _ _ _ _ (sepL [_, _])
      refine q rfl rfl (asg (v := .pointer _) rfl) ?_
      refine TL.nil (nt ?_)
      refine TC.seq ?_
      refine TC.seq ?_
      refine TC.region ?_
      refine q rfl rfl (mv (v := .pointer _) rfl) ?_
      refine e rfl ?_
      refine bs (cs := [.int _ _]) rfl ?_
      intro b1
      refine e rfl ?_
      refine cl (mjoin_ok a (fun _ => 0) s0 (some ⟨b1, 0, none⟩) _ [1000] (by decide) (by decide)) rfl PkL.p ⟨_, RdSI.rd (ad := some ⟨b1, 0, none⟩)⟩ ?_
      intro A0 _
      change TL _ _ _ _ _ _ _ _ (sepL [_, _, _])
      have hO := OI.start
      refine q rfl rfl (neI rfl rfl) ?_
      refine TL.nil (nt ?_)
      refine TC.condD rfl (fun hc1 => absurd hc1 (by decide)) (fun hc1 => ?_)
      refine TC.skip (nt ?_)
      refine TC.seq ?_
      refine TC.region ?_
      refine q rfl rfl (asg (v := .slice _ _ _) rfl) ?_
      refine TL.nil (nt ?_)
      refine TC.seq ?_
      refine TC.seq ?_
      refine TC.region ?_
      refine q rfl rfl (asg (v := .int _ _) rfl) ?_
      refine TL.nil (nt ?_)
      refine TC.block ?_
      refine TC.loop (ι := Nat × (Int → Nat) × MS × List Int × (Option Addr × Nat)) (fun s => s.1 ≤ l.length ∧ OI s.2.2.1 s.1 s.2.2.2.1) (fun s => [(0, .slice ad l.length cap), (1, .slice ad2 l2.length cap2), (5, .pointer (some ⟨a, 0, none⟩)), (6, .slice s.2.2.2.2.1 s.2.2.2.1.length s.2.2.2.2.2), (7, .int .i64 ((s.1 : Nat) : Int))]) (fun s => sepL [isMa a s.2.1 s.2.2.1, slc 3 1 s.2.2.2.2.1 s.2.2.2.1.length s.2.2.2.2.2 (ints s.2.2.2.1), F]) (fun s => l.length - s.1) ⟨0, A0, joinL s0 [1000], [], (none, 0)⟩ ⟨Nat.zero_le _, hO⟩ ⟨rfl, rfl, rfl, rfl, rfl, trivial⟩ ((slc_nil 3 1 _).trans (by repeat (first | exact ent_nil _ | refine ent_take 0 rfl ?_ | refine ent_take 1 rfl ?_ | refine ent_take 2 rfl ?_ | refine ent_take 3 rfl ?_ | refine ent_take 4 rfl ?_ | refine ent_take 5 rfl ?_ | refine ent_take 6 rfl ?_ | refine ent_take 7 rfl ?_ | refine ent_take 8 rfl ?_ | refine ent_take 9 rfl ?_ | refine ent_take 10 rfl ?_ | refine ent_take 11 rfl ?_ | refine ent_take 12 rfl ?_))) ?_
      rintro ⟨i, A, Z, C, ⟨ca, cc⟩⟩ ⟨hi, hI⟩ ρ0
      dsimp only [updL] at hi hI ⊢
      refine TC.seq ?_
      refine TC.seq ?_
      refine TC.region ?_
      refine q rfl rfl (mv (v := .int _ _) rfl) ?_
      refine q rfl rfl (mv (v := .slice _ _ _) rfl) ?_
      refine q rfl rfl (len 5 1 rfl rfl) ?_
      refine q rfl rfl (lss rfl rfl) ?_
      refine TL.nil (nt ?_)
      first | refine TC.condD rfl (fun hlt => ?_) (fun hlt => ?_) | refine TC.cond rfl (fun hlt => ?_) (fun hlt => ?_)
      · have hlt2 : i < l.length := by omega
        obtain ⟨k, hx⟩ : ∃ x, l[i]? = some x := ⟨l[i], List.getElem?_eq_getElem hlt2⟩
        have hk8 := h8 k (List.mem_of_getElem? hx)
        have hpos : 0 < (nums .u8 l).length := by rw [nums_length]; omega
        obtain ⟨hJ, hj0, hjm, hje⟩ := hI.join hk8
        have hil := hI.len
        have hjl := hJ.len
        have hCl : C.length ≤ Z.ids.length := by rw [hI.eq, List.length_map]; exact rowlen hI.wm hI.me
        have hci := ints_length C
        refine TC.skip (nt ?_)
        refine TC.seq ?_
        refine TC.block ?_
        refine TC.seq ?_
        refine TC.region ?_
        refine q rfl rfl (mv (v := .slice _ _ _) rfl) ?_
        refine q rfl rfl (mv (v := .int _ _) rfl) ?_
        first | refine q rfl rfl (ixS 5 1 rfl rfl rfl (by omega) (by first | assumption | (simp [ints_length] <;> omega))) ?_ | refine q rfl rfl (ixJ 5 1 rfl rfl rfl (by omega) (by omega) (by first | assumption | (simp [ints_length] <;> omega))) ?_ | refine q rfl rfl (ix 5 1 rfl rfl rfl (by omega) (by omega) rfl) ?_
        first | refine q rfl rfl (ld rfl rfl rfl) ?_ | refine q rfl rfl (ldS rfl rfl (nums_get hx)) ?_ | refine q rfl rfl (ldS rfl rfl rfl) ?_
        first | refine q rfl rfl (conv .u8 .i64 rfl rfl rfl (wi64 (by omega) (by omega))) ?_ | refine q rfl rfl (conv .u8 .i64 rfl rfl rfl rfl) ?_
        refine q rfl rfl (asg (v := .int _ _) rfl) ?_
        refine TL.nil (nt ?_)
        refine TC.seq ?_
        refine TC.region ?_
        refine q rfl rfl (mv (v := .pointer _) rfl) ?_
        refine q rfl rfl (mv (v := .int _ _) rfl) ?_
        refine e rfl ?_
        refine bs (cs := [.int _ _]) rfl ?_
        intro b2
        refine e rfl ?_
        refine cl (mjoin_ok a A Z (some ⟨b2, 0, none⟩) _ [k] (by simp) (by omega)) rfl PkL.p ⟨_, RdSI.rd (ad := some ⟨b2, 0, none⟩)⟩ ?_
        intro A1 _
        change TL _ _ _ _ _ _ _ _ (sepL [_, _, _, _])
        rw [show joinL Z [k] = joinS Z k from rfl]
        have hoc := hJ.offer hk8 hjm i (by omega)
        have hnn : k ∉ Z.ids → (joinS Z k).st k = 0 := hj0
        have hne2 : k ∈ Z.ids → joinS Z k = Z := hje
        obtain ⟨W, hW⟩ : ∃ W, W = joinS Z k := ⟨_, rfl⟩
        rw [← hW] at hJ hjm hjl hoc hnn hne2 ⊢
        refine q rfl rfl (asg (v := .int _ _) rfl) ?_
        refine TL.nil (nt ?_)
        refine TC.seq ?_
        refine TC.region ?_
        refine q rfl rfl (mv (v := .pointer _) rfl) ?_
        refine q rfl rfl (mv (v := .int _ _) rfl) ?_
        refine q rfl rfl (mv (v := .int _ _) rfl) ?_
        refine q rfl rfl (mv (v := .int _ _) rfl) ?_
        first | refine q rfl rfl (remI rfl rfl (by omega) (by omega)) ?_ | refine q rfl rfl (rem rfl rfl (by omega) rfl) ?_
        refine q rfl rfl (eqI rfl rfl) ?_
        first | refine q rfl rfl (bld (cs := [.int _ _, .int _ _, .bool _]) rfl) ?_ | refine q rfl rfl (bld (cs := [_, _, _]) rfl) ?_
        refine e rfl ?_
        refine cl (moffer_ok a A1 W hJ.wm 1000 ⟨k, i, decide ((i : Int) % 2 = 0)⟩ (by omega)) rfl PkL.p trivial ?_
        intro _ _
        change TL _ _ _ _ _ _ _ _ (sepL [_, _, _, _])
        rcases hoc with ⟨hs0, Z2, hv, hO2⟩ | ⟨hs0, hv⟩
        · rw [hv]
          dsimp only
          refine q rfl rfl (eqI rfl rfl) ?_
          refine TL.nil (nt ?_)
          refine TC.condD rfl (fun hc2 => ?_) (fun hc2 => absurd (rfl) hc2)
          refine TC.region ?_
          refine q rfl rfl (mv (v := .slice _ _ _) rfl) ?_
          refine q rfl rfl (mv (v := .int _ _) rfl) ?_
          refine e rfl ?_
          refine bs (cs := [.int _ _]) rfl ?_
          intro b3
          refine e rfl ?_
          refine ap 8 rfl rfl rfl rfl rfl (Nat.le_of_ble_eq_true rfl) (show _ = ints [k] from rfl) rfl (by omega) (by simp only [maxLen]; omega) ?_
          intro ad1 cap1
          refine q rfl rfl (asg (v := .slice _ _ _) rfl) ?_
          refine TL.nil (nb (nt ?_))
          refine TC.region ?_
          refine q rfl rfl (mv (v := .int _ _) rfl) ?_
          first | refine q rfl rfl (addI rfl rfl (by omega) (by omega)) ?_ | refine q rfl rfl (add rfl rfl rfl) ?_
          refine q rfl rfl (asg (v := .int _ _) rfl) ?_
          refine TL.nil (nt ?_)
          exact ⟨rfl, ⟨i + 1, A1, Z2, C ++ [k], (ad1, cap1)⟩, ⟨by dsimp only; omega, hO2⟩, (by dsimp only; omega), ⟨rfl, rfl, rfl, congrArg (fun n => Value.slice _ n _) (by dsimp only; rw [List.length_append]; rfl), rfl, trivial⟩, (ent_take 2 rfl (ent_takeE 0 rfl (by dsimp only; rw [List.length_append]; simp [ints]) (by repeat (first | exact ent_nil _ | refine ent_take 0 rfl ?_ | refine ent_take 1 rfl ?_ | refine ent_take 2 rfl ?_ | refine ent_take 3 rfl ?_ | refine ent_take 4 rfl ?_ | refine ent_take 5 rfl ?_ | refine ent_take 6 rfl ?_ | refine ent_take 7 rfl ?_ | refine ent_take 8 rfl ?_ | refine ent_take 9 rfl ?_ | refine ent_take 10 rfl ?_ | refine ent_take 11 rfl ?_ | refine ent_take 12 rfl ?_))))⟩
        · rw [hv]
          dsimp only
          have hkZ : k ∈ Z.ids := by
            by_cases h2 : k ∈ Z.ids
            · exact h2
            · exact absurd (hnn h2) hs0
          obtain rfl : W = Z := hne2 hkZ
          refine q rfl rfl (eqI rfl rfl) ?_
          refine TL.nil (nt ?_)
          refine TC.condD rfl (fun hc3 => absurd hc3 (by decide)) (fun hc3 => ?_)
          refine TC.seq ?_
          refine TC.region ?_
          refine q rfl rfl (mv (v := .int _ _) rfl) ?_
          refine q rfl rfl (eqI rfl rfl) ?_
          refine TL.nil (nt ?_)
          refine TC.condD rfl (fun hc4 => absurd hc4 (by omega)) (fun hc4 => ?_)
          refine TC.skip (nb (nt ?_))
          refine TC.region ?_
          refine q rfl rfl (mv (v := .int _ _) rfl) ?_
          first | refine q rfl rfl (addI rfl rfl (by omega) (by omega)) ?_ | refine q rfl rfl (add rfl rfl rfl) ?_
          refine q rfl rfl (asg (v := .int _ _) rfl) ?_
          refine TL.nil (nt ?_)
          exact ⟨rfl, ⟨i + 1, A1, W, C, (ca, cc)⟩, ⟨by dsimp only; omega, hJ⟩, (by dsimp only; omega), ⟨rfl, rfl, rfl, rfl, rfl, trivial⟩, (by repeat (first | exact ent_nil _ | refine ent_take 0 rfl ?_ | refine ent_take 1 rfl ?_ | refine ent_take 2 rfl ?_ | refine ent_take 3 rfl ?_ | refine ent_take 4 rfl ?_ | refine ent_take 5 rfl ?_ | refine ent_take 6 rfl ?_ | refine ent_take 7 rfl ?_ | refine ent_take 8 rfl ?_ | refine ent_take 9 rfl ?_ | refine ent_take 10 rfl ?_ | refine ent_take 11 rfl ?_ | refine ent_take 12 rfl ?_))⟩
      · obtain rfl : i = l.length := by omega
        clear hi hlt
        have hm100 : l.length ≤ 100 := by omega
        generalize l.length = m at hI hm100 ⊢
        refine TC.exit (et (et (eb (nt ?_))))
        refine TC.seq ?_
        refine TC.seq ?_
        refine TC.region ?_
        refine q rfl rfl (asg (v := .int _ _) rfl) ?_
        refine TL.nil (nt ?_)
        refine TC.block ?_
        refine TC.loop (ι := Nat × MS × List Int × (Option Addr × Nat)) (fun s => s.1 ≤ l2.length ∧ OI s.2.1 m s.2.2.1) (fun s => [(1, .slice ad2 l2.length cap2), (5, .pointer (some ⟨a, 0, none⟩)), (6, .slice s.2.2.2.1 s.2.2.1.length s.2.2.2.2), (10, .int .i64 ((s.1 : Nat) : Int))]) (fun s => sepL [isMa a A s.2.1, slc 3 1 s.2.2.2.1 s.2.2.1.length s.2.2.2.2 (ints s.2.2.1), F]) (fun s => l2.length - s.1) ⟨0, Z, C, (ca, cc)⟩ ⟨Nat.zero_le _, hI⟩ ⟨rfl, rfl, rfl, rfl, trivial⟩ (by repeat (first | exact ent_nil _ | refine ent_take 0 rfl ?_ | refine ent_take 1 rfl ?_ | refine ent_take 2 rfl ?_ | refine ent_take 3 rfl ?_ | refine ent_take 4 rfl ?_ | refine ent_take 5 rfl ?_ | refine ent_take 6 rfl ?_ | refine ent_take 7 rfl ?_ | refine ent_take 8 rfl ?_ | refine ent_take 9 rfl ?_ | refine ent_take 10 rfl ?_ | refine ent_take 11 rfl ?_ | refine ent_take 12 rfl ?_)) ?_
        rintro ⟨i, Z, C, ⟨ca, cc⟩⟩ ⟨hi, hI⟩ ρ1
        dsimp only [updL] at hi hI ⊢
        refine TC.seq ?_
        refine TC.seq ?_
        refine TC.region ?_
        refine q rfl rfl (mv (v := .int _ _) rfl) ?_
        refine q rfl rfl (mv (v := .slice _ _ _) rfl) ?_
        refine q rfl rfl (len 5 1 rfl rfl) ?_
        refine q rfl rfl (lss rfl rfl) ?_
        refine TL.nil (nt ?_)
        first | refine TC.condD rfl (fun hlt => ?_) (fun hlt => ?_) | refine TC.cond rfl (fun hlt => ?_) (fun hlt => ?_)
        · have hlt2 : i < l2.length := by omega
          obtain ⟨x, hx⟩ : ∃ x, l2[i]? = some x := ⟨l2[i], List.getElem?_eq_getElem hlt2⟩
          have hx8 := h9 x (List.mem_of_getElem? hx)
          have hpos : 0 < (nums .u8 l2).length := by rw [nums_length]; omega
          obtain ⟨hO2, hiff⟩ := hI.off2 hx8
          have hCl : C.length ≤ Z.ids.length := by rw [hI.eq, List.length_map]; exact rowlen hI.wm hI.me
          have hci := ints_length C
          have hil := hI.len
          refine TC.skip (nt ?_)
          refine TC.seq ?_
          refine TC.block ?_
          refine TC.seq ?_
          refine TC.region ?_
          refine q rfl rfl (asg (v := .slice _ _ _) rfl) ?_
          refine TL.nil (nt ?_)
          refine TC.seq ?_
          refine TC.seq ?_
          refine TC.region ?_
          refine q rfl rfl (asg (v := .int _ _) rfl) ?_
          refine TL.nil (nt ?_)
          refine TC.block ?_
          refine TC.loop (ι := Nat × (Option Addr × Nat)) (fun s => s.1 ≤ C.length) (fun s => [(1, .slice ad2 l2.length cap2), (5, .pointer (some ⟨a, 0, none⟩)), (6, .slice ca C.length cc), (10, .int .i64 (i : Int)), (11, .slice s.2.1 ((C.take s.1).filter fun z => decide (z ≠ x)).length s.2.2), (12, .int .i64 ((s.1 : Nat) : Int))]) (fun s => sepL [slc 3 1 s.2.1 ((C.take s.1).filter fun z => decide (z ≠ x)).length s.2.2 (ints ((C.take s.1).filter fun z => decide (z ≠ x))), isMa a A Z, slc 3 1 ca C.length cc (ints C), F]) (fun s => C.length - s.1) ⟨0, (none, 0)⟩ (Nat.zero_le _) ⟨rfl, rfl, rfl, rfl, rfl, rfl, trivial⟩ ((slc_nil 3 1 _).trans (ent_takeE 0 rfl rfl (by repeat (first | exact ent_nil _ | refine ent_take 0 rfl ?_ | refine ent_take 1 rfl ?_ | refine ent_take 2 rfl ?_ | refine ent_take 3 rfl ?_ | refine ent_take 4 rfl ?_ | refine ent_take 5 rfl ?_ | refine ent_take 6 rfl ?_ | refine ent_take 7 rfl ?_ | refine ent_take 8 rfl ?_ | refine ent_take 9 rfl ?_ | refine ent_take 10 rfl ?_ | refine ent_take 11 rfl ?_ | refine ent_take 12 rfl ?_)))) ?_
          rintro ⟨k, ⟨ka, kc⟩⟩ hk ρ2
          dsimp only [updL] at hk ⊢
          refine TC.seq ?_
          refine TC.seq ?_
          refine TC.region ?_
          refine q rfl rfl (mv (v := .int _ _) rfl) ?_
          refine q rfl rfl (mv (v := .slice _ _ _) rfl) ?_
          refine q rfl rfl (len 3 1 rfl rfl) ?_
          refine q rfl rfl (lss rfl rfl) ?_
          refine TL.nil (nt ?_)
          first | refine TC.condD rfl (fun hlk => ?_) (fun hlk => ?_) | refine TC.cond rfl (fun hlk => ?_) (fun hlk => ?_)
          · have hlk2 : k < C.length := by omega
            obtain ⟨y, hy⟩ : ∃ y, C[k]? = some y := ⟨C[k], List.getElem?_eq_getElem hlk2⟩
            have hpos2 : 0 < (ints C).length := by omega
            have hsn := fil_ne hy x
            have hfl : ((C.take k).filter fun z => decide (z ≠ x)).length ≤ (C.take k).length := List.length_filter_le _ _
            have htl : (C.take k).length ≤ k := by rw [List.length_take]; omega
            have hfi := ints_length ((C.take k).filter fun z => decide (z ≠ x))
            refine TC.skip (nt ?_)
            refine TC.seq ?_
            refine TC.block ?_
            refine TC.seq ?_
            refine TC.draw _ [] [(0, false), (1, false), (2, false), (3, false), (4, false), (5, false), (6, false), (7, false), (8, false), (9, false)] (by kernel_rfl) (by kernel_rfl) (ent.refl _) ?_
            refine dq rfl rfl rfl (mv (v := .slice _ _ _) rfl) ?_
            refine dq rfl rfl rfl (mv (v := .int _ _) rfl) ?_
            first | refine dq rfl rfl rfl (ixS 3 1 rfl rfl rfl (by omega) (by first | assumption | (simp [ints_length] <;> omega))) ?_ | refine dq rfl rfl rfl (ixJ 3 1 rfl rfl rfl (by omega) (by omega) (by first | assumption | (simp [ints_length] <;> omega))) ?_ | refine dq rfl rfl rfl (ix 3 1 rfl rfl rfl (by omega) (by omega) rfl) ?_
            first | refine dq rfl rfl rfl (ld rfl rfl rfl) ?_ | refine dq rfl rfl rfl (ldS rfl rfl (ints_get hy)) ?_ | refine dq rfl rfl rfl (ldS rfl rfl (nums_get hx)) ?_ | refine dq rfl rfl rfl (ldS rfl rfl rfl) ?_
            refine dq rfl rfl rfl (mv (v := .slice _ _ _) rfl) ?_
            refine dq rfl rfl rfl (mv (v := .int _ _) rfl) ?_
            first | refine dq rfl rfl rfl (ixS 5 1 rfl rfl rfl (by omega) (by first | assumption | (simp [ints_length] <;> omega))) ?_ | refine dq rfl rfl rfl (ixJ 5 1 rfl rfl rfl (by omega) (by omega) (by first | assumption | (simp [ints_length] <;> omega))) ?_ | refine dq rfl rfl rfl (ix 5 1 rfl rfl rfl (by omega) (by omega) rfl) ?_
            first | refine dq rfl rfl rfl (ld rfl rfl rfl) ?_ | refine dq rfl rfl rfl (ldS rfl rfl (ints_get hy)) ?_ | refine dq rfl rfl rfl (ldS rfl rfl (nums_get hx)) ?_ | refine dq rfl rfl rfl (ldS rfl rfl rfl) ?_
            first | refine dq rfl rfl rfl (conv .u8 .i64 rfl rfl rfl (wi64 (by omega) (by omega))) ?_ | refine dq rfl rfl rfl (conv .u8 .i64 rfl rfl rfl rfl) ?_
            refine dq rfl rfl rfl (neI rfl rfl) ?_
            refine TD.nil (nt ?_)
            first | refine TC.condD rfl (fun hne => ?_) (fun hne => ?_) | refine TC.cond rfl (fun hne => ?_) (fun hne => ?_)
            · rw [if_pos hne] at hsn
              refine TC.region ?_
              refine q rfl rfl (mv (v := .slice _ _ _) rfl) ?_
              refine q rfl rfl (mv (v := .slice _ _ _) rfl) ?_
              refine q rfl rfl (mv (v := .int _ _) rfl) ?_
              first | refine q rfl rfl (ixS 3 1 rfl rfl rfl (by omega) (by first | assumption | (simp [ints_length] <;> omega))) ?_ | refine q rfl rfl (ixJ 3 1 rfl rfl rfl (by omega) (by omega) (by first | assumption | (simp [ints_length] <;> omega))) ?_ | refine q rfl rfl (ix 3 1 rfl rfl rfl (by omega) (by omega) rfl) ?_
              first | refine q rfl rfl (ld rfl rfl rfl) ?_ | refine q rfl rfl (ldS rfl rfl (ints_get hy)) ?_ | refine q rfl rfl (ldS rfl rfl rfl) ?_
              refine e rfl ?_
              refine bs (cs := [.int _ _]) rfl ?_
              intro b4
              refine e rfl ?_
              refine ap 8 rfl rfl rfl rfl rfl (Nat.le_of_ble_eq_true rfl) (show _ = ints [y] from rfl) rfl (by omega) (by simp only [maxLen]; omega) ?_
              intro ad2 cap2
              refine q rfl rfl (asg (v := .slice _ _ _) rfl) ?_
              refine TL.nil (nb (nt ?_))
              refine TC.region ?_
              refine q rfl rfl (mv (v := .int _ _) rfl) ?_
              first | refine q rfl rfl (addI rfl rfl (by omega) (by omega)) ?_ | refine q rfl rfl (add rfl rfl rfl) ?_
              refine q rfl rfl (asg (v := .int _ _) rfl) ?_
              refine TL.nil (nt ?_)
              exact ⟨rfl, ⟨k + 1, (ad2, cap2)⟩, (by dsimp only; omega), (by dsimp only; omega), ⟨rfl, rfl, rfl, rfl, congrArg (fun n => Value.slice _ n _) (by dsimp only; rw [hsn, List.length_append]; rfl), rfl, trivial⟩, (ent_takeE 0 rfl (by dsimp only; rw [hsn, List.length_append]; simp [ints]) (by repeat (first | exact ent_nil _ | refine ent_take 0 rfl ?_ | refine ent_take 1 rfl ?_ | refine ent_take 2 rfl ?_ | refine ent_take 3 rfl ?_ | refine ent_take 4 rfl ?_ | refine ent_take 5 rfl ?_ | refine ent_take 6 rfl ?_ | refine ent_take 7 rfl ?_ | refine ent_take 8 rfl ?_ | refine ent_take 9 rfl ?_ | refine ent_take 10 rfl ?_ | refine ent_take 11 rfl ?_ | refine ent_take 12 rfl ?_)))⟩
            · rw [if_neg hne, List.append_nil] at hsn
              refine TC.skip (nb (nt ?_))
              refine TC.region ?_
              refine q rfl rfl (mv (v := .int _ _) rfl) ?_
              first | refine q rfl rfl (addI rfl rfl (by omega) (by omega)) ?_ | refine q rfl rfl (add rfl rfl rfl) ?_
              refine q rfl rfl (asg (v := .int _ _) rfl) ?_
              refine TL.nil (nt ?_)
              exact ⟨rfl, ⟨k + 1, (ka, kc)⟩, (by dsimp only; omega), (by dsimp only; omega), ⟨rfl, rfl, rfl, rfl, congrArg (fun n => Value.slice _ n _) (by dsimp only; rw [hsn]), rfl, trivial⟩, (ent_takeE 0 rfl (by dsimp only; rw [hsn]) (by repeat (first | exact ent_nil _ | refine ent_take 0 rfl ?_ | refine ent_take 1 rfl ?_ | refine ent_take 2 rfl ?_ | refine ent_take 3 rfl ?_ | refine ent_take 4 rfl ?_ | refine ent_take 5 rfl ?_ | refine ent_take 6 rfl ?_ | refine ent_take 7 rfl ?_ | refine ent_take 8 rfl ?_ | refine ent_take 9 rfl ?_ | refine ent_take 10 rfl ?_ | refine ent_take 11 rfl ?_ | refine ent_take 12 rfl ?_)))⟩
          · obtain rfl : k = C.length := by omega
            rw [List.take_length]
            refine TC.exit (et (et (eb (nt ?_))))
            refine TC.seq ?_
            refine TC.seq ?_
            refine TC.region ?_
            refine q rfl rfl (mv (v := .pointer _) rfl) ?_
            refine q rfl rfl (mv (v := .slice _ _ _) rfl) ?_
            refine q rfl rfl (mv (v := .int _ _) rfl) ?_
            first | refine q rfl rfl (ixS 5 1 rfl rfl rfl (by omega) (by first | assumption | (simp [ints_length] <;> omega))) ?_ | refine q rfl rfl (ixJ 5 1 rfl rfl rfl (by omega) (by omega) (by first | assumption | (simp [ints_length] <;> omega))) ?_ | refine q rfl rfl (ix 5 1 rfl rfl rfl (by omega) (by omega) rfl) ?_
            first | refine q rfl rfl (ld rfl rfl rfl) ?_ | refine q rfl rfl (ldS rfl rfl (nums_get hx)) ?_ | refine q rfl rfl (ldS rfl rfl rfl) ?_
            first | refine q rfl rfl (conv .u8 .i64 rfl rfl rfl (wi64 (by omega) (by omega))) ?_ | refine q rfl rfl (conv .u8 .i64 rfl rfl rfl rfl) ?_
            refine e rfl ?_
            refine cl (mcall_ok a A Z hI.wm x (by omega)) rfl PkL.p trivial ?_
            intro _ _
            change TL _ _ _ _ _ _ _ _ (sepL [_, _, _, _])
            refine q rfl rfl (eqI rfl rfl) ?_
            refine q rfl rfl (mv (v := .slice _ _ _) rfl) ?_
            refine q rfl rfl (len 3 1 rfl rfl) ?_
            refine q rfl rfl (mv (v := .slice _ _ _) rfl) ?_
            refine q rfl rfl (len 3 1 rfl rfl) ?_
            refine q rfl rfl (lss rfl rfl) ?_
            refine q rfl rfl (neBo rfl rfl rfl) ?_
            refine TL.nil (nt ?_)
            have hd : decide ((callS Z x).2 = 0) = decide (((C.filter fun z => decide (z ≠ x)).length : Int) < (C.length : Int)) := decide_eq_decide.2 (hiff.trans (by omega))
            rw [hd, bne_self_eq_false]
            refine TC.condF rfl ?_
            refine TC.skip (nt ?_)
            refine TC.region ?_
            refine q rfl rfl (mv (v := .slice _ _ _) rfl) ?_
            refine q rfl rfl (asg (v := .slice _ _ _) rfl) ?_
            refine TL.nil (nb (nt ?_))
            refine TC.region ?_
            refine q rfl rfl (mv (v := .int _ _) rfl) ?_
            first | refine q rfl rfl (addI rfl rfl (by omega) (by omega)) ?_ | refine q rfl rfl (add rfl rfl rfl) ?_
            refine q rfl rfl (asg (v := .int _ _) rfl) ?_
            refine TL.nil (nt ?_)
            exact ⟨rfl, ⟨i + 1, (callS Z x).1, (C.filter fun z => decide (z ≠ x)), (ka, kc)⟩, ⟨by dsimp only; omega, hO2⟩, (by dsimp only; omega), ⟨rfl, rfl, rfl, rfl, trivial⟩, (by repeat (first | exact ent_nil _ | refine ent_take 0 rfl ?_ | refine ent_take 1 rfl ?_ | refine ent_take 2 rfl ?_ | refine ent_take 3 rfl ?_ | refine ent_take 4 rfl ?_ | refine ent_take 5 rfl ?_ | refine ent_take 6 rfl ?_ | refine ent_take 7 rfl ?_ | refine ent_take 8 rfl ?_ | refine ent_take 9 rfl ?_ | refine ent_take 10 rfl ?_ | refine ent_take 11 rfl ?_ | refine ent_take 12 rfl ?_))⟩
        · clear hi hlt
          have hI3 := hI.turn (by omega)
          have hCl : C.length ≤ Z.ids.length := by rw [hI.eq, List.length_map]; exact rowlen hI.wm hI.me
          have hil := hI.len
          have hci := ints_length C
          refine TC.exit (et (et (eb (nt ?_))))
          refine TC.seq ?_
          refine TC.seq ?_
          refine TC.region ?_
          refine q rfl rfl (asg (v := .int _ _) rfl) ?_
          refine TL.nil (nt ?_)
          refine TC.block ?_
          refine TC.loop (ι := Nat × MS) (fun s => s.1 ≤ C.length ∧ O3 s.2 C s.1) (fun s => [(5, .pointer (some ⟨a, 0, none⟩)), (6, .slice ca C.length cc), (13, .int .i64 ((s.1 : Nat) : Int))]) (fun s => sepL [isMa a A s.2, slc 3 1 ca C.length cc (ints C), F]) (fun s => C.length - s.1) ⟨0, Z⟩ ⟨Nat.zero_le _, hI3⟩ ⟨rfl, rfl, rfl, trivial⟩ (by repeat (first | exact ent_nil _ | refine ent_take 0 rfl ?_ | refine ent_take 1 rfl ?_ | refine ent_take 2 rfl ?_ | refine ent_take 3 rfl ?_ | refine ent_take 4 rfl ?_ | refine ent_take 5 rfl ?_ | refine ent_take 6 rfl ?_ | refine ent_take 7 rfl ?_ | refine ent_take 8 rfl ?_ | refine ent_take 9 rfl ?_ | refine ent_take 10 rfl ?_ | refine ent_take 11 rfl ?_ | refine ent_take 12 rfl ?_)) ?_
          rintro ⟨i, Z⟩ ⟨hi, hI⟩ ρ1
          dsimp only [updL] at hi hI ⊢
          refine TC.seq ?_
          refine TC.seq ?_
          refine TC.region ?_
          refine q rfl rfl (mv (v := .int _ _) rfl) ?_
          refine q rfl rfl (mv (v := .slice _ _ _) rfl) ?_
          refine q rfl rfl (len 3 1 rfl rfl) ?_
          refine q rfl rfl (lss rfl rfl) ?_
          refine TL.nil (nt ?_)
          first | refine TC.condD rfl (fun hlt => ?_) (fun hlt => ?_) | refine TC.cond rfl (fun hlt => ?_) (fun hlt => ?_)
          · have hlt2 : i < C.length := by omega
            obtain ⟨x, hx⟩ : ∃ x, C[i]? = some x := ⟨C[i], List.getElem?_eq_getElem hlt2⟩
            have hpos : 0 < (ints C).length := by omega
            obtain ⟨Z2, o, el, hv, ho1, ho2, ho3, ho4, hst, hO2⟩ := hI.step hx
            refine TC.skip (nt ?_)
            refine TC.seq ?_
            refine TC.block ?_
            refine TC.seq ?_
            refine TC.region ?_
            refine q rfl rfl (mv (v := .pointer _) rfl) ?_
            refine e rfl ?_
            refine cl (mtake_ok a A Z hI.wm 1000) rfl PkL.p trivial ?_
            intro _ _
            change TL _ _ _ _ _ _ _ _ (sepL [_, _, _])
            rw [hv]
            dsimp only
            refine q rfl rfl (mv (v := .tuple _) rfl) ?_
            refine q rfl rfl (pu (v := .agg #[_, _, _]) (fun _ => rfl)) ?_
            refine q rfl rfl (pu (v := .int _ _) (fun _ => rfl)) ?_
            refine q rfl rfl (pu (v := .int _ _) (fun _ => rfl)) ?_
            refine e rfl ?_
            refine al (l := [.int _ _, .int _ _, .bool _]) rfl rfl ?_
            intro b5
            refine e0 ?_
            refine st (v := .agg #[_, _, _]) (vs := [_, _, _]) 3 rfl rfl rfl rfl rfl rfl (Nat.le_of_ble_eq_true rfl) rfl ?_
            refine q rfl rfl (asg (v := .int _ _) rfl) ?_
            refine q rfl rfl (asg (v := .int _ _) rfl) ?_
            refine TL.nil (nt ?_)
            refine TC.seq ?_
            refine TC.draw _ [] [(0, false), (1, false), (2, false), (3, false), (4, false), (5, false), (6, false), (7, false), (8, false), (9, false), (10, false), (11, false), (12, false), (13, false), (14, false), (15, false), (16, false), (17, false), (18, false), (19, false), (20, false), (21, false), (22, false), (23, false), (24, false), (25, false), (26, false), (27, false), (28, true), (29, false), (30, false), (31, false)] (by kernel_rfl) (by kernel_rfl) (ent_take 0 rfl (ent_take 1 rfl (ent_nil _))) ?_
            refine dq rfl rfl rfl (mv (v := .int _ _) rfl) ?_
            refine dq rfl rfl rfl (neI rfl rfl) ?_
            refine dq rfl rfl rfl (mv (v := .bool _) rfl) ?_
            refine TD.known 123 rfl (b' := false) (by decide) ?_
            first | refine dg rfl rfl rfl rfl (fa 0 rfl rfl) ?_ | refine dg rfl rfl rfl rfl (faS 0 rfl rfl (by first | assumption | (simp [ints_length] <;> omega))) ?_
            first | refine dg rfl rfl rfl rfl (ld rfl rfl rfl) ?_ | refine dg rfl rfl rfl rfl (ldS rfl rfl (ints_get hx)) ?_ | refine dg rfl rfl rfl rfl (ldS rfl rfl rfl) ?_
            refine dg rfl rfl rfl rfl (mv (v := .slice _ _ _) rfl) ?_
            refine dg rfl rfl rfl rfl (mv (v := .int _ _) rfl) ?_
            first | refine dg rfl rfl rfl rfl (ixS 3 1 rfl rfl rfl (by omega) (by first | assumption | (simp [ints_length] <;> omega))) ?_ | refine dg rfl rfl rfl rfl (ixJ 3 1 rfl rfl rfl (by omega) (by omega) (by first | assumption | (simp [ints_length] <;> omega))) ?_ | refine dg rfl rfl rfl rfl (ix 3 1 rfl rfl rfl (by omega) (by omega) rfl) ?_
            first | refine dg rfl rfl rfl rfl (ld rfl rfl rfl) ?_ | refine dg rfl rfl rfl rfl (ldS rfl rfl (ints_get hx)) ?_ | refine dg rfl rfl rfl rfl (ldS rfl rfl rfl) ?_
            refine dg rfl rfl rfl rfl (neI rfl rfl) ?_
            first | refine dq rfl rfl rfl (pkT (v := .bool _) rfl rfl) ?_ | refine dq rfl rfl rfl (pkF (v := .bool _) rfl rfl) ?_
            refine dq rfl rfl rfl (mv (v := .bool _) rfl) ?_
            refine TD.known 132 rfl (b' := false) (decide_eq_false (fun h => h ho1)) ?_
            first | refine dg rfl rfl rfl rfl (fa 2 rfl rfl) ?_ | refine dg rfl rfl rfl rfl (faS 2 rfl rfl (by first | assumption | (simp [ints_length] <;> omega))) ?_
            first | refine dg rfl rfl rfl rfl (ld rfl rfl rfl) ?_ | refine dg rfl rfl rfl rfl (ldS rfl rfl (ints_get hx)) ?_ | refine dg rfl rfl rfl rfl (ldS rfl rfl rfl) ?_
            first | refine dg rfl rfl rfl rfl (fa 1 rfl rfl) ?_ | refine dg rfl rfl rfl rfl (faS 1 rfl rfl (by first | assumption | (simp [ints_length] <;> omega))) ?_
            first | refine dg rfl rfl rfl rfl (ld rfl rfl rfl) ?_ | refine dg rfl rfl rfl rfl (ldS rfl rfl (ints_get hx)) ?_ | refine dg rfl rfl rfl rfl (ldS rfl rfl rfl) ?_
            first | refine dg rfl rfl rfl rfl (remI rfl rfl (by omega) (by omega)) ?_ | refine dg rfl rfl rfl rfl (rem rfl rfl (by omega) rfl) ?_
            refine dg rfl rfl rfl rfl (eqI rfl rfl) ?_
            refine dg rfl rfl rfl rfl (neBo rfl rfl rfl) ?_
            first | refine dq rfl rfl rfl (pkT (v := .bool _) rfl rfl) ?_ | refine dq rfl rfl rfl (pkF (v := .bool _) rfl rfl) ?_
            refine dq rfl rfl rfl (mv (v := .bool _) rfl) ?_
            refine TD.known 141 rfl (b' := false) (by rw [ho2]; exact bne_self_eq_false _) ?_
            first | refine dg rfl rfl rfl rfl (fa 2 rfl rfl) ?_ | refine dg rfl rfl rfl rfl (faS 2 rfl rfl (by first | assumption | (simp [ints_length] <;> omega))) ?_
            first | refine dg rfl rfl rfl rfl (ld rfl rfl rfl) ?_ | refine dg rfl rfl rfl rfl (ldS rfl rfl (ints_get hx)) ?_ | refine dg rfl rfl rfl rfl (ldS rfl rfl rfl) ?_
            refine dg rfl rfl rfl rfl (mv (v := .pointer _) rfl) ?_
            refine dg rfl rfl rfl rfl (mv (v := .slice _ _ _) rfl) ?_
            refine dg rfl rfl rfl rfl (mv (v := .int _ _) rfl) ?_
            first | refine dg rfl rfl rfl rfl (ixS 3 1 rfl rfl rfl (by omega) (by first | assumption | (simp [ints_length] <;> omega))) ?_ | refine dg rfl rfl rfl rfl (ixJ 3 1 rfl rfl rfl (by omega) (by omega) (by first | assumption | (simp [ints_length] <;> omega))) ?_ | refine dg rfl rfl rfl rfl (ix 3 1 rfl rfl rfl (by omega) (by omega) rfl) ?_
            first | refine dg rfl rfl rfl rfl (ld rfl rfl rfl) ?_ | refine dg rfl rfl rfl rfl (ldS rfl rfl (ints_get hx)) ?_ | refine dg rfl rfl rfl rfl (ldS rfl rfl rfl) ?_
            refine deg rfl rfl rfl ?_
            refine cl (mstate_ok a A Z2 x) rfl PkL.p trivial ?_
            intro _ _
            change ent _ _ ∧ TD _ _ _ _ _ _ _ _ _ _ (sepL [_, _, _, _])
            refine ⟨(by repeat (first | exact ent_nil _ | refine ent_take 0 rfl ?_ | refine ent_take 1 rfl ?_ | refine ent_take 2 rfl ?_ | refine ent_take 3 rfl ?_ | refine ent_take 4 rfl ?_ | refine ent_take 5 rfl ?_ | refine ent_take 6 rfl ?_ | refine ent_take 7 rfl ?_ | refine ent_take 8 rfl ?_ | refine ent_take 9 rfl ?_ | refine ent_take 10 rfl ?_ | refine ent_take 11 rfl ?_ | refine ent_take 12 rfl ?_)), ?_⟩
            rw [hst]
            refine dg rfl rfl rfl rfl (eqI rfl rfl) ?_
            refine dg rfl rfl rfl rfl (neBo rfl rfl rfl) ?_
            first | refine dq rfl rfl rfl (pkT (v := .bool _) rfl rfl) ?_ | refine dq rfl rfl rfl (pkF (v := .bool _) rfl rfl) ?_
            refine TD.nil (nt ?_)
            have hz : (o.cl != decide ((if o.cl = true then (3 : Int) else 0) = 3)) = false := by cases o.cl <;> rfl
            rw [hz]
            refine TC.condF rfl ?_
            refine TC.skip (nb (nt ?_))
            refine TC.region ?_
            refine q rfl rfl (mv (v := .int _ _) rfl) ?_
            first | refine q rfl rfl (addI rfl rfl (by omega) (by omega)) ?_ | refine q rfl rfl (add rfl rfl rfl) ?_
            refine q rfl rfl (asg (v := .int _ _) rfl) ?_
            refine TL.nil (nt ?_)
            exact ⟨rfl, ⟨i + 1, Z2⟩, ⟨by dsimp only; omega, hO2⟩, (by dsimp only; omega), ⟨rfl, rfl, rfl, trivial⟩, (by repeat (first | exact ent_nil _ | refine ent_take 0 rfl ?_ | refine ent_take 1 rfl ?_ | refine ent_take 2 rfl ?_ | refine ent_take 3 rfl ?_ | refine ent_take 4 rfl ?_ | refine ent_take 5 rfl ?_ | refine ent_take 6 rfl ?_ | refine ent_take 7 rfl ?_ | refine ent_take 8 rfl ?_ | refine ent_take 9 rfl ?_ | refine ent_take 10 rfl ?_ | refine ent_take 11 rfl ?_ | refine ent_take 12 rfl ?_))⟩
          · obtain rfl : i = C.length := by omega
            obtain ⟨hv, hr⟩ := hI.done
            refine TC.exit (et (et (eb (nt ?_))))
            refine TC.seq ?_
            refine TC.region ?_
            refine q rfl rfl (mv (v := .pointer _) rfl) ?_
            refine e rfl ?_
            refine cl (mtake_ok a A Z hI.wm 1000) rfl PkL.p trivial ?_
            intro _ _
            change TL _ _ _ _ _ _ _ _ (sepL [_, _, _])
            rw [hv]
            dsimp only
            refine q rfl rfl (mv (v := .tuple _) rfl) ?_
            refine q rfl rfl (pu (v := .agg #[_, _, _]) (fun _ => rfl)) ?_
            refine q rfl rfl (pu (v := .int _ _) (fun _ => rfl)) ?_
            refine q rfl rfl (pu (v := .int _ _) (fun _ => rfl)) ?_
            refine e rfl ?_
            refine al (l := [.int _ _, .int _ _, .bool _]) rfl rfl ?_
            intro b6
            refine e0 ?_
            refine st (v := .agg #[_, _, _]) (vs := [_, _, _]) 3 rfl rfl rfl rfl rfl rfl (Nat.le_of_ble_eq_true rfl) rfl ?_
            refine q rfl rfl (asg (v := .int _ _) rfl) ?_
            refine q rfl rfl (asg (v := .int _ _) rfl) ?_
            refine TL.nil (nt ?_)
            refine TC.seq ?_
            refine TC.region ?_
            refine q rfl rfl (mv (v := .int _ _) rfl) ?_
            refine q rfl rfl (eqI rfl rfl) ?_
            refine q rfl rfl (mv (v := .bool _) rfl) ?_
            refine TL.known 161 rfl (c := true) (by decide) ?_
            refine qg rfl rfl rfl (mv (v := .pointer _) rfl) ?_
            refine eg rfl rfl ?_
            refine cl (mrow_ok a A Z 1000 (by rw [hr]; decide)) rfl PkL.p trivial ?_
            intro y _
            change TL _ _ _ _ _ _ _ _ (sepL [_, _, _, _, _])
            rw [hr]
            refine qg rfl rfl rfl (len 31 3 rfl rfl) ?_
            refine qg rfl rfl rfl (eqI rfl rfl) ?_
            first | refine q rfl rfl (pkT (v := .bool _) rfl rfl) ?_ | refine q rfl rfl (pkF (v := .bool _) rfl rfl) ?_
            refine q rfl rfl (asg (v := .bool _) rfl) ?_
            refine TL.nil (nt ?_)
            refine TC.ret ?_
            exact Ret.i () [_] ⟨rfl, trivial⟩ rfl trivial (by repeat (first | exact ent_nil _ | refine ent_take 0 rfl ?_ | refine ent_take 1 rfl ?_ | refine ent_take 2 rfl ?_ | refine ent_take 3 rfl ?_ | refine ent_take 4 rfl ?_ | refine ent_take 5 rfl ?_ | refine ent_take 6 rfl ?_ | refine ent_take 7 rfl ?_ | refine ent_take 8 rfl ?_ | refine ent_take 9 rfl ?_ | refine ent_take 10 rfl ?_ | refine ent_take 11 rfl ?_ | refine ent_take 12 rfl ?_))

end Go.Proofs.Ytgmniphegombhaa
