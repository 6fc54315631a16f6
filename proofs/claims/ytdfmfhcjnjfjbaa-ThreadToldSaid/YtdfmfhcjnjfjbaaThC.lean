/-
  Proved here: what functions of this program compute, each as a contract over symbolic states, under the premises that each theorem names (most lines printed by a program of the prover).
-/
import Derived.Test.YtdfmfhcjnjfjbaaThB
namespace Go.Proofs.Ytdfmfhcjnjfjbaa
open Go Go.QM
open Al (En hasA Nd clrA setA offA dueA restA leftA ids)
open Rd (hasS NdS addS RInv topS runS tickS yieldS rndS)
theorem off_ids (s : MS) (to : Int) (o : Off) : (offS s to o).1.ids = s.ids := by rw [offS]; (repeat' split) <;> rfl
theorem open_ids (s : MS) (id : Int) : (openS s id).1.ids = s.ids := by rw [openS]; (repeat' split) <;> rfl
theorem take_ids (s : MS) (to : Int) : (takeS s to).1.ids = s.ids := by
  rw [takeS]; split
  · rfl
  · split
    · rfl
    · split
      · rfl
      · split
        · dsimp only; split <;> rfl
        · rfl
theorem ans_ids (s : MS) (id : Int) : (ansS s id).1.ids = s.ids := by rw [ansS]; (repeat' split) <;> rfl
theorem call_ids (s : MS) (id : Int) : (callS s id).1.ids = s.ids := by
  by_cases h : id ∈ s.ids
  · exact (call_st s id h).2
  · rw [callS, if_pos h]
theorem call_ne (s : MS) (id : Int) {x : Int} (hx : x ≠ id) : (callS s id).1.st x = s.st x := by
  rw [callS]; split
  · rfl
  · split
    · rfl
    · split
      · exact updI_ne hx
      · split
        · exact updI_ne hx
        · exact updI_ne hx
theorem leave_ids {s : MS} {id : Int} (h : id ∈ s.ids) : (leaveS s id).1.ids = s.ids.filter fun y => decide (y ≠ id) := by
  rw [leaveS, if_neg (fun h2 => h2 h)]
  show ((callS s id).1.ids.filter _) = _
  rw [call_ids]
theorem leave_gone {s : MS} (hW : WM s) {id : Int} (h : id ∈ s.ids) {x : Int} (hx : x ∈ (leaveS s id).2.1) : x ∈ s.ids ∧ x ≠ id ∧ s.st x ≠ 0 ∧ (leaveS s id).1.st x = 0 := by
  rw [leaveS, if_neg (fun h2 => h2 h)] at hx ⊢
  have hx : x ∈ goneL (callS s id).1 id := hx
  have hi : id ∈ (callS s id).1.ids := by rw [call_ids]; exact h
  obtain ⟨h1, h2, h3, h4⟩ := gone_mem (hW.call id) hi hx
  rw [call_ids] at h1
  rw [call_ne s id h2] at h4
  refine ⟨h1, h2, by omega, ?_⟩
  show (if x ∈ goneL (callS s id).1 id then (0 : Int) else _) = 0
  rw [if_pos hx]
theorem leave_nd {s : MS} (hW : WM s) {id : Int} (h : id ∈ s.ids) : (leaveS s id).2.1.Nodup := by
  rw [leaveS, if_neg (fun h2 => h2 h)]
  show (goneL (callS s id).1 id).Nodup
  have hi : id ∈ (callS s id).1.ids := by rw [call_ids]; exact h
  have hZ := hW.call id
  generalize (callS s id).1 = Z at hi hZ ⊢
  rw [goneL]
  split
  · rename_i hc
    refine List.nodup_append.2 ⟨hZ.nr id hi, by simp, fun a ha c hc2 e => ?_⟩
    rw [List.mem_singleton] at hc2
    obtain ⟨o, ho, rfl⟩ := List.mem_map.1 ha
    have h1 := hZ.row id hi o ho
    have h2 := hZ.cal id hi hc
    rw [e, hc2] at h1; omega
  · rw [List.append_nil]; exact hZ.nr id hi
theorem leave_st {s : MS} {id : Int} (h : id ∈ s.ids) {x : Int} (hx : x ∉ (leaveS s id).2.1) (hne : x ≠ id) : (leaveS s id).1.st x = s.st x := by
  rw [leaveS, if_neg (fun h2 => h2 h)] at hx ⊢
  have hx : x ∉ goneL (callS s id).1 id := hx
  show (if x ∈ goneL (callS s id).1 id then (0 : Int) else (callS s id).1.st x) = _
  rw [if_neg hx, call_ne s id hne]
theorem close_nd {s : MS} (hW : WM s) (g : Int) : (closeS s g).2.Nodup := by
  show (goneC s g (sortI s.ids)).Nodup
  have hn : (sortI s.ids).Nodup := (sortI_perm _).nodup_iff.2 hW.nd
  have hs : ∀ x ∈ sortI s.ids, x ∈ s.ids := fun x hx => sortI_mem.1 hx
  generalize sortI s.ids = D at hn hs
  induction D with
  | nil => exact List.nodup_nil
  | cons x D ih =>
    obtain ⟨h1, h2⟩ := List.nodup_cons.1 hn
    rw [show goneC s g (x :: D) = goneO (s.row x) (thru g) ++ goneC s g D by rw [goneC, goneC, List.flatMap_cons]]
    refine List.nodup_append.2 ⟨(hW.nr x (hs x (by simp))).sublist (List.filter_sublist.map _), ih h2 fun y hy => hs y (by simp [hy]), fun a ha c hc e => ?_⟩
    obtain ⟨o, ho, rfl⟩ := List.mem_map.1 ha
    obtain ⟨y, hy, u, hu, _, h3⟩ := goneC_mem.1 hc
    have := hW.one (hs x (by simp)) (hs y (by simp [hy])) (List.mem_filter.1 ho).1 hu (by rw [h3]; exact e)
    exact h1 (this.1 ▸ hy)
theorem close_st (s : MS) (g : Int) (x : Int) : (closeS s g).1.st x = if x ∈ (closeS s g).2 then 0 else s.st x := rfl
/-- Who begins to wait. -/
theorem TP.block {T : TS} (h : TP T []) {m : MS} (hW : WM m) (hi : m.ids = T.m.ids) {x : Int} (hx : x ∈ T.m.ids) (hs : stT T x = 0) (h1 : m.st x ≠ 0) (hn : ∀ y, y ≠ x → m.st y = T.m.st y) {ticks : Int} (ht : ¬ badT ticks) : TP (blockS (mS T m) x ticks) [] := by
  obtain ⟨hon, h0⟩ : T.on x = true ∧ T.m.st x = 0 := by
    rw [stT, if_pos hx] at hs
    split at hs
    · exact ⟨‹_›, hs⟩
    · cases hs
  have hna : ¬ hasA T.A x := fun h2 => ((h.al x h2).2.resolve_right List.not_mem_nil) h0
  have hge := h.wm.ge x hx
  have key : ∀ A tn, Nd A → (∀ y, hasA A y → hasA T.A y ∨ y = x) → (∀ e ∈ A, T.now < e.at_ ∧ e.at_ ≤ T.now + 1048576) → TP { T with S := Rd.dropS T.S [x], tn := tn, A := A, m := m } [] := fun A tn a1 a2 a3 => by
    refine ⟨hW, h.rj.sub (Rd.dropS_sub _ _), fun t ht => h.lf t ((Rd.dropS_sub _ _).subset ht), fun t ht => h.sp t ((Rd.dropS_sub _ _).subset ht), fun y => ?_, a1, fun y hy => ?_, fun y hy hs2 => ?_, fun y hy => h.ps y (hi ▸ hy), a3, fun y hy => (List.not_mem_nil hy).elim, List.nodup_nil⟩
    · show hasS (Rd.dropS T.S [x]) y ↔ (y ∈ m.ids ∧ T.on y = true ∧ m.st y = 0) ∧ y ∉ []
      rw [drop_has, h.rdy, hi, List.mem_singleton]
      constructor
      · rintro ⟨⟨⟨b1, b2, b3⟩, _⟩, b4⟩
        exact ⟨⟨b1, b2, by rw [hn y b4]; exact b3⟩, List.not_mem_nil⟩
      · rintro ⟨⟨b1, b2, b3⟩, _⟩
        have b4 : y ≠ x := fun e => h1 (e ▸ b3)
        exact ⟨⟨⟨b1, b2, by rw [← hn y b4]; exact b3⟩, List.not_mem_nil⟩, b4⟩
    · show y ∈ m.ids ∧ (m.st y ≠ 0 ∨ y ∈ [])
      rw [hi]
      by_cases e : y = x
      · rw [e]; exact ⟨hx, .inl h1⟩
      · have h2 := h.al y ((a2 y hy).resolve_right e)
        exact ⟨h2.1, .inl (by rw [hn y e]; exact h2.2.resolve_right List.not_mem_nil)⟩
    · have hy : y ∈ m.ids := hy
      have hs2 : m.st y ≠ 0 := hs2
      show T.on y = true
      by_cases e : y = x
      · rw [e]; exact hon
      · rw [hn y e] at hs2; exact h.off y (hi ▸ hy) hs2
  rw [blockS]
  split
  · rename_i hp
    have hse : setA T.A T.now T.tn x ticks = (T.A ++ [⟨T.now + ticks, T.tn + 1, x⟩], T.tn + 1, 0) := by
      rw [badT] at ht
      rw [setA, if_neg (by omega), if_neg hna]
    show TP { T with S := Rd.dropS T.S [x], tn := (setA T.A T.now T.tn x ticks).2.1, A := (setA T.A T.now T.tn x ticks).1, m := m } []
    rw [hse]
    refine key _ _ ?_ (fun y hy => ?_) fun e he => ?_
    · exact Al.snoc_nd (e := (⟨T.now + ticks, T.tn + 1, x⟩ : En)) h.na (fun a ha e => hna ⟨a, ha, e⟩)
    · obtain ⟨e, he, rfl⟩ := hy
      rcases List.mem_append.1 he with he | he
      · exact .inl ⟨e, he, rfl⟩
      · rw [List.mem_singleton.1 he]; exact .inr rfl
    · rcases List.mem_append.1 he with he | he
      · exact h.tm e he
      · rw [badT] at ht; rw [List.mem_singleton.1 he]; dsimp only; omega
  · exact key _ _ h.na (fun y hy => .inl hy) h.tm
theorem st_on {T : TS} {x : Int} (hs : stT T x = 0) : x ∈ T.m.ids ∧ T.on x = true ∧ T.m.st x = 0 := by
  rw [stT] at hs
  split at hs
  · split at hs
    · exact ⟨‹_›, ‹_›, hs⟩
    · cases hs
  · cases hs
theorem TP.send {T : TS} (h : TP T []) (fr to gt : Int) (cl : Bool) (ticks : Int) : TP (sendS T fr to gt cl ticks).1 [] := by
  rw [sendS]
  split
  · exact h
  · rename_i h1
    split
    · exact h
    · rename_i h2
      split
      · exact h
      · rename_i h3
        have hf : fr ∈ T.m.ids := Decidable.not_not.1 fun h4 => h1 (.inl h4)
        have ht : to ∈ T.m.ids := Decidable.not_not.1 fun h4 => h1 (.inr h4)
        have h3 := Decidable.not_not.1 h3
        have hs := (st_on h3).2.2
        have ho : offS T.m to ⟨fr, gt, cl⟩ = (pushS (wtS T.m fr 1 to) to ⟨fr, gt, cl⟩, 0) := by
          rw [offS, if_neg (fun h4 => h4.elim (fun h5 => h5 ht) (fun h5 => h5 hf)), if_neg (fun h4 => h2 (.inl h4)), if_neg (fun h4 => h4 hs)]
        refine TP.block h (h.wm.offer to ⟨fr, gt, cl⟩) (off_ids _ _ _) hf h3 ?_ (fun y hy => ?_) (fun h4 => h2 (.inr h4))
        · rw [ho]; show updI T.m.st fr 1 fr ≠ 0
          rw [updI_same]; decide
        · rw [ho]; exact updI_ne hy
theorem TP.wait {T : TS} (h : TP T []) (id ticks : Int) : TP (waitS T id ticks).1 [] := by
  rw [waitS]
  split
  · exact h
  · rename_i h1
    split
    · exact h
    · rename_i h2
      split
      · exact h
      · rename_i h3
        split
        · exact h
        · rename_i h4
          have h1 := Decidable.not_not.1 h1
          have h3 := Decidable.not_not.1 h3
          have hs := (st_on h3).2.2
          have h4 := Decidable.not_not.1 h4
          have ho : (openS T.m id).1 = stS T.m id 2 := by
            rw [openS, if_neg (fun h5 => h5 h1)] at h4 ⊢
            split at h4
            · cases h4
            · rename_i h5; rw [if_neg h5]
          refine TP.block h (h.wm.opens id) (open_ids _ _) h1 h3 ?_ (fun y hy => ?_) h2
          · rw [ho]; show updI T.m.st id 2 id ≠ 0
            rw [updI_same]; decide
          · rw [ho]; exact updI_ne hy
theorem TP.callM {T : TS} (h : TP T []) {id : Int} (hi : id ∈ T.m.ids) (hs : T.m.st id ≠ 0) : TP (mS T (callS T.m id).1) [id] :=
  h.meet (h.wm.call id) (call_ids _ _) [id] (fun x hx => by rw [List.mem_singleton.1 hx]; exact ⟨hi, hs, (call_st _ _ hi).1⟩) (fun x hx hn => by rw [call_ne _ _ (fun e => hn (by simp [e]))]) (by simp)
theorem TP.wake {T : TS} (h : TP T []) (why id : Int) : TP (wakeS T why id).1 [] := by
  rw [wakeS]
  split
  · exact h
  · rename_i h1
    split
    · exact h
    · rename_i h2
      have h1 := Decidable.not_not.1 h1
      refine TP.tells (L := [id]) (M := []) why (h.callM h1 fun h3 => h2 ?_)
      rw [stT, if_pos h1]
      split
      · exact .inl h3
      · exact .inr rfl
theorem TP.refuse {T : TS} (h : TP T []) (id why : Int) : TP (refuseS T id why).1 [] := by
  rw [refuseS]
  split
  · exact h
  · rename_i h1
    have h1 := Decidable.not_not.1 h1
    split
    · exact h
    · rename_i o r hr
      have ho := h.wm.row id h1 o (by rw [hr]; simp)
      exact TP.tells (L := [o.fr]) (M := []) why (h.callM ho.1 (by omega))
theorem TP.answer {T : TS} (h : TP T []) (id : Int) : TP (answerS T id).1 [] := by
  rw [answerS]
  split
  · exact h
  · rename_i h1
    split
    · exact h
    · rename_i h2
      split
      · rename_i h3
        have h1 := Decidable.not_not.1 h1
        have h2 := Decidable.not_not.1 h2
        have hs := (st_on h2).2.2
        have hc : T.m.cl id ≠ -1 := fun hc => by rw [ansS, if_neg (fun h5 => h5 h1), if_neg (fun h5 => h5 hs), if_pos hc] at h3; cases h3
        have ha : ansS T.m id = (frS (clS T.m id (-1)) (T.m.cl id), T.m.cl id, 0) := by rw [ansS, if_neg (fun h5 => h5 h1), if_neg (fun h5 => h5 hs), if_neg hc]
        have hcl := h.wm.cal id h1 hc
        refine TP.tells (L := [(ansS T.m id).2.1]) (M := []) 0 (h.meet (h.wm.answer id) (ans_ids _ _) [(ansS T.m id).2.1] (fun x hx => ?_) (fun x hx hn => ?_) (by simp))
        · rw [List.mem_singleton.1 hx, ha]
          exact ⟨hcl.1, by dsimp only; omega, updI_same _ _ _⟩
        · rw [ha] at hn ⊢
          show updI T.m.st (T.m.cl id) 0 x = 0 ↔ _
          rw [updI_ne (fun e => hn (by simp [e]))]
      · exact h
theorem TP.close {T : TS} (h : TP T []) (g : Int) : TP (closeT T g).1 [] := by
  rw [closeT]
  refine TP.tells (L := (closeS T.m g).2) (M := []) 13 ?_
  rw [List.append_nil]
  refine h.meet (h.wm.close g) rfl _ (fun x hx => ?_) (fun x hx hn => ?_) (close_nd h.wm g)
  · have := gone_in h.wm hx
    exact ⟨this.1, by omega, by rw [close_st, if_pos hx]⟩
  · rw [close_st, if_neg hn]
theorem TP.out {T : TS} (h : TP T []) {id : Int} (hi : id ∈ T.m.ids) : TP (outS T id) (leaveS T.m id).2.1 := by
  have hW := h.wm.leave id
  have hids := leave_ids hi
  have hm : ∀ y, y ∈ (leaveS T.m id).1.ids ↔ y ∈ T.m.ids ∧ y ≠ id := fun y => by rw [hids]; simp
  have hg := fun x (hx : x ∈ (leaveS T.m id).2.1) => leave_gone h.wm hi hx
  refine ⟨hW, h.rj.sub (Rd.dropS_sub _ _), fun t ht => h.lf t ((Rd.dropS_sub _ _).subset ht), fun t ht => h.sp t ((Rd.dropS_sub _ _).subset ht), fun y => ?_, clr_Nd h.na _, fun y hy => ?_, fun y hy hs => ?_, fun y hy => h.ps y ((hm y).1 hy).1, fun e he => h.tm e (clr_mem he), fun x hx => ?_, leave_nd h.wm hi⟩
  · show hasS (Rd.dropS T.S [id]) y ↔ (y ∈ (leaveS T.m id).1.ids ∧ T.on y = true ∧ (leaveS T.m id).1.st y = 0) ∧ y ∉ (leaveS T.m id).2.1
    rw [drop_has, h.rdy, hm, List.mem_singleton]
    constructor
    · rintro ⟨⟨⟨b1, b2, b3⟩, _⟩, b4⟩
      have b5 : y ∉ (leaveS T.m id).2.1 := fun b5 => (hg y b5).2.2.1 b3
      exact ⟨⟨⟨b1, b4⟩, b2, by rw [leave_st hi b5 b4]; exact b3⟩, b5⟩
    · rintro ⟨⟨⟨b1, b4⟩, b2, b3⟩, b5⟩
      exact ⟨⟨⟨b1, b2, by rw [← leave_st hi b5 b4]; exact b3⟩, List.not_mem_nil⟩, b4⟩
  · obtain ⟨h1, h2⟩ := clr_has.1 hy
    have h2 : y ≠ id := by simpa using h2
    obtain ⟨h3, h4⟩ := h.al y h1
    refine ⟨(hm y).2 ⟨h3, h2⟩, ?_⟩
    by_cases h5 : y ∈ (leaveS T.m id).2.1
    · exact .inr h5
    · exact .inl (by show (leaveS T.m id).1.st y ≠ 0; rw [leave_st hi h5 h2]; exact h4.resolve_right List.not_mem_nil)
  · have hy := (hm y).1 hy
    have hs : (leaveS T.m id).1.st y ≠ 0 := hs
    by_cases h5 : y ∈ (leaveS T.m id).2.1
    · exact absurd (hg y h5).2.2.2 hs
    · rw [leave_st hi h5 hy.2] at hs; exact h.off y hy.1 hs
  · obtain ⟨h1, h2, h3, h4⟩ := hg x hx
    exact ⟨(hm x).2 ⟨h1, h2⟩, h.off x h1 h3, h4⟩
theorem TP.remove {T : TS} (h : TP T []) (id : Int) : TP (removeS T id).1 [] := by
  rw [removeS]
  split
  · exact h
  · rename_i h1
    refine TP.tells (L := (leaveS T.m id).2.1) (M := []) 13 ?_
    rw [List.append_nil]
    exact h.out (Decidable.not_not.1 h1)
/-- What a Take yields. -/
theorem take_form {s : MS} (hW : WM s) {id : Int} (hi : id ∈ s.ids) (he : (takeS s id).2.2.2 = 0) : ∃ o r, s.row id = o :: r ∧ (takeS s id).2.1 = o ∧ o.fr ∈ s.ids ∧ o.fr ≠ id ∧ s.st o.fr = 1 ∧ (takeS s id).1.st id = 0 ∧
    ((o.cl = false ∧ (takeS s id).2.2.1 = -1 ∧ (takeS s id).1.st o.fr = 0 ∧ ∀ x, x ≠ id → x ≠ o.fr → (takeS s id).1.st x = s.st x) ∨
     (o.cl = true ∧ (takeS s id).2.2.1 = s.cl id ∧ (takeS s id).1.st o.fr = 3 ∧ (s.cl id ≠ -1 → s.cl id ∈ s.ids ∧ s.cl id ≠ id ∧ s.cl id ≠ o.fr ∧ s.st (s.cl id) = 3 ∧ (takeS s id).1.st (s.cl id) = 0) ∧ ∀ x, x ≠ id → x ≠ o.fr → x ≠ s.cl id → (takeS s id).1.st x = s.st x)) := by
  rw [takeS, if_neg (fun h => h hi)] at he ⊢
  split at he
  · cases he
  · rename_i hs
    rw [if_neg hs]
    cases hr : s.row id with
    | nil => rw [hr] at he; cases he
    | cons o r =>
      obtain ⟨h1, h2, h3, h4⟩ := hW.row id hi o (by rw [hr]; simp)
      refine ⟨o, r, rfl, ?_⟩
      dsimp only
      cases hc : o.cl with
      | false =>
        rw [if_neg (by simp)]
        refine ⟨rfl, h1, h2, h3, ?_, .inl ⟨rfl, rfl, updI_same _ _ _, fun x hx hy => ?_⟩⟩
        · show updI (updI s.st id 0) o.fr 0 id = 0
          rw [updI_ne (Ne.symm h2), updI_same]
        · show updI (updI s.st id 0) o.fr 0 x = _
          rw [updI_ne hy, updI_ne hx]
      | true =>
        rw [if_pos rfl]
        have hcl : s.cl id ≠ -1 → s.cl id ∈ s.ids ∧ s.cl id ≠ id ∧ s.cl id ≠ o.fr ∧ s.st (s.cl id) = 3 := fun hn => by
          obtain ⟨c1, c2, c3, c4⟩ := hW.cal id hi hn
          exact ⟨c1, c2, fun e => by rw [e] at c3; omega, c3⟩
        by_cases hn : s.cl id = -1
        · refine ⟨?_, h1, h2, h3, ?_, .inr ⟨rfl, ?_, ?_, fun h => absurd hn h, fun x hx hy hz => ?_⟩⟩
          all_goals (first | (split <;> rfl) | skip)
          · first | (rw [if_neg (fun h => h hn)]) | skip
            show updI (updI (updI s.st id 0) o.fr 0) o.fr 3 id = 0
            rw [updI_ne (Ne.symm h2), updI_ne (Ne.symm h2), updI_same]
          · first | (rw [if_neg (fun h => h hn)]) | skip
            exact updI_same _ _ _
          · first | (rw [if_neg (fun h => h hn)]) | skip
            show updI (updI (updI s.st id 0) o.fr 0) o.fr 3 x = _
            rw [updI_ne hy, updI_ne hy, updI_ne hx]
        · obtain ⟨c1, c2, c3, c4⟩ := hcl hn
          refine ⟨?_, h1, h2, h3, ?_, .inr ⟨rfl, ?_, ?_, fun _ => ⟨c1, c2, c3, c4, ?_⟩, fun x hx hy hz => ?_⟩⟩
          all_goals (first | (split <;> rfl) | skip)
          · first | (rw [if_pos hn]) | skip
            show updI (updI (updI (updI s.st id 0) o.fr 0) (s.cl id) 0) o.fr 3 id = 0
            rw [updI_ne (Ne.symm h2), updI_ne (Ne.symm c2), updI_ne (Ne.symm h2), updI_same]
          · first | (rw [if_pos hn]) | skip
            exact updI_same _ _ _
          · first | (rw [if_pos hn]) | skip
            show updI (updI (updI (updI s.st id 0) o.fr 0) (s.cl id) 0) o.fr 3 (s.cl id) = 0
            rw [updI_ne c3, updI_same]
          · first | (rw [if_pos hn]) | skip
            show updI (updI (updI (updI s.st id 0) o.fr 0) (s.cl id) 0) o.fr 3 x = _
            rw [updI_ne hy, updI_ne hz, updI_ne hy, updI_ne hx]
theorem TP.take {T : TS} (h : TP T []) (id : Int) : TP (takeT T id).1 [] := by
  rw [takeT]
  split
  · exact h
  · rename_i h1
    split
    · exact h
    · rename_i h2
      split
      · exact h
      · rename_i h3
        have h1 := Decidable.not_not.1 h1
        have h3 := Decidable.not_not.1 h3
        obtain ⟨o, r, hr, ho, f1, f2, f3, f4, f5⟩ := take_form h.wm h1 h3
        have hW := h.wm.take id
        have hids := take_ids T.m id
        have hst : stT T id = T.m.st id := by
          rw [stT, if_pos h1]
          split
          · rfl
          · rename_i h4; exfalso; apply h2; rw [stT, if_pos h1, if_neg h4]; decide
        have hs02 : T.m.st id = 0 ∨ T.m.st id = 2 := by rw [hst] at h2; omega
        dsimp only
        rw [ho, takeT1]
        have go : ∀ (L1 L2 : List Int), TP (mS T (takeS T.m id).1) (L1 ++ (L2 ++ (if T.m.st id = 2 then [id] else []))) → TP (let T2 := tellS (tellS (mS T (takeS T.m id).1) 0 L1) 13 L2; if stT T id = 2 then tellS T2 0 [id] else T2) [] := fun L1 L2 hh => by
          have h5 := TP.tells 0 hh
          have h6 := TP.tells 13 h5
          rw [hst]
          dsimp only
          split
          · rename_i e; rw [if_pos e] at h6; exact TP.tells (L := [id]) (M := []) 0 h6
          · rename_i e; rw [if_neg e] at h6; exact h6
        rcases f5 with ⟨g1, g2, g3, g4⟩ | ⟨g1, g2, g3, g5, g4⟩
        · rw [if_neg (show ¬ (o.cl = true) by rw [g1]; decide), g2, if_pos (show (-1 : Int) = -1 from rfl)]
          have := go [o.fr] [] ?_
          · exact this
          refine h.meet hW hids _ (fun x hx => ?_) (fun x hx hn => ?_) ?_
          · simp only [List.nil_append, List.cons_append, List.mem_cons] at hx
            rcases hx with rfl | hx
            · exact ⟨f1, by omega, g3⟩
            · split at hx
              · rename_i e; rw [List.mem_singleton.1 hx]; exact ⟨h1, by omega, f4⟩
              · cases hx
          · simp only [List.nil_append, List.cons_append, List.mem_cons, not_or] at hn
            by_cases e : x = id
            · subst e
              have : T.m.st x = 0 := hs02.resolve_right fun e => hn.2 (by rw [if_pos e]; simp)
              rw [f4, this]
            · rw [g4 x e hn.1]
          · rw [List.nil_append, List.singleton_append, List.nodup_cons]
            split
            · exact ⟨by simpa using f2, by simp⟩
            · simp
        · rw [if_pos g1, g2]
          have hno : ∀ x, x ∈ T.m.ids → x ≠ o.fr → x ≠ id → x ≠ T.m.cl id → ((takeS T.m id).1.st x = 0 ↔ T.m.st x = 0) := fun x hx a c d => by rw [g4 x c a d]
          have hfo : (takeS T.m id).1.st o.fr = 0 ↔ T.m.st o.fr = 0 := by rw [g3, f3]; decide
          by_cases hc : T.m.cl id = -1
          · rw [if_pos hc]
            have := go [] [] ?_
            · exact this
            refine h.meet hW hids _ (fun x hx => ?_) (fun x hx hn => ?_) ?_
            · simp only [List.nil_append] at hx
              split at hx
              · rename_i e; rw [List.mem_singleton.1 hx]; exact ⟨h1, by omega, f4⟩
              · cases hx
            · simp only [List.nil_append] at hn
              by_cases e : x = id
              · subst e
                have : T.m.st x = 0 := hs02.resolve_right fun e => hn (by rw [if_pos e]; simp)
                rw [f4, this]
              · by_cases e2 : x = o.fr
                · rw [e2]; exact hfo
                · exact hno x hx e2 e (fun e3 => by have := h.wm.ge x hx; omega)
            · rw [List.nil_append, List.nil_append]; split <;> simp
          · rw [if_neg hc]
            obtain ⟨c1, c2, c3, c4, c5⟩ := g5 hc
            have := go [] [T.m.cl id] ?_
            · exact this
            refine h.meet hW hids _ (fun x hx => ?_) (fun x hx hn => ?_) ?_
            · simp only [List.nil_append, List.cons_append, List.mem_cons] at hx
              rcases hx with rfl | hx
              · exact ⟨c1, by omega, c5⟩
              · split at hx
                · rename_i e; rw [List.mem_singleton.1 hx]; exact ⟨h1, by omega, f4⟩
                · cases hx
            · simp only [List.nil_append, List.cons_append, List.mem_cons, not_or] at hn
              by_cases e : x = id
              · subst e
                have : T.m.st x = 0 := hs02.resolve_right fun e => hn.2 (by rw [if_pos e]; simp)
                rw [f4, this]
              · by_cases e2 : x = o.fr
                · rw [e2]; exact hfo
                · exact hno x hx e2 e hn.1
            · rw [List.nil_append, List.singleton_append, List.nodup_cons]
              split
              · exact ⟨by simpa using c2, by simp⟩
              · simp
end Go.Proofs.Ytdfmfhcjnjfjbaa
