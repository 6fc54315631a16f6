/-
  Proved here: what functions of this program compute, each as a contract over symbolic states, under the premises that each theorem names (most lines printed by a program of the prover).
-/
import Derived.Test.YtgmniphegombhaaMtV
import Derived.Test.YtgmniphegombhaaMtK
namespace Go.Proofs.Ytgmniphegombhaa
open Go Go.QM
structure MR (s : MS) (r : Rf) : Prop where
  D : r.D = sortI s.ids
  st : ∀ x ∈ s.ids, r.st x = s.st x
  cl : ∀ x ∈ s.ids, r.cl x = s.cl x
  to : ∀ u ∈ r.S, u.to ∈ s.ids
  row : ∀ x ∈ s.ids, rowF r.S x = s.row x
def r0F : Rf := ⟨[], fun _ => 0, fun _ => 0, []⟩
theorem MR.zero : MR s0 r0F := ⟨(List.eq_nil_of_length_eq_zero (by rw [sortI_len]; rfl)).symm, fun _ h => (List.not_mem_nil h).elim, fun _ h => (List.not_mem_nil h).elim, fun _ h => (List.not_mem_nil h).elim, fun _ h => (List.not_mem_nil h).elim⟩
theorem MR.mem {s : MS} {r : Rf} (h : MR s r) {x : Int} : x ∈ r.D ↔ x ∈ s.ids := by rw [h.D]; exact sortI_mem
theorem MR.nd {s : MS} {r : Rf} (h : MR s r) (hW : WM s) : r.D.Nodup := by rw [h.D]; exact (sortI_perm _).nodup_iff.2 hW.nd
theorem MR.len {s : MS} {r : Rf} (h : MR s r) : r.D.length = s.ids.length := by rw [h.D]; exact sortI_len _
theorem MR.srt {s : MS} {r : Rf} (h : MR s r) : r.D.Pairwise (· ≤ ·) := by rw [h.D]; exact sortI_sorted _
theorem rowF_fil (p : Off → Bool) (x : Int) : ∀ S : List Sn, rowF (S.filter fun u => p u.o) x = (rowF S x).filter p
  | [] => rfl
  | u :: S => by
    have ih := rowF_fil p x S
    have e : ∀ T : List Sn, rowF (u :: T) x = (if u.to = x then [u.o] else []) ++ rowF T x := fun T => by
      rw [rowF, rowF]
      split
      · rename_i h; rw [List.filter_cons_of_pos (by simpa using h)]; rfl
      · rename_i h; rw [List.filter_cons_of_neg (by simpa using h)]; rfl
    rw [e, List.filter_append, ← ih]
    by_cases hp : p u.o = true
    · rw [List.filter_cons_of_pos (p := fun u : Sn => p u.o) hp, e]
      congr 1
      split
      · rw [List.filter_cons_of_pos hp]; rfl
      · rfl
    · rw [List.filter_cons_of_neg (p := fun u : Sn => p u.o) hp]
      split
      · rw [List.filter_cons_of_neg hp]; rfl
      · rfl
theorem rowF_app (S : List Sn) (u : Sn) (x : Int) : rowF (S ++ [u]) x = rowF S x ++ if u.to = x then [u.o] else [] := by
  rw [rowF, List.filter_append, List.map_append, rowF]
  split
  · rename_i h; rw [List.filter_cons_of_pos (by simpa using h)]; rfl
  · rename_i h; rw [List.filter_cons_of_neg (by simpa using h)]; rfl
theorem rowF_mem {S : List Sn} {u : Sn} (h : u ∈ S) : u.o ∈ rowF S u.to := List.mem_map.2 ⟨u, List.mem_filter.2 ⟨h, by simp⟩, rfl⟩
theorem updI_eq {f g : Int → Int} {a x v : Int} (h : x ≠ a → f x = g x) : updI f a v x = updI g a v x := by
  by_cases e : x = a
  · rw [e, updI_same, updI_same]
  · rw [updI_ne e, updI_ne e]; exact h e
theorem MR.stE {s : MS} {r : Rf} (h : MR s r) (id : Int) : stR s id = stF r id := by
  rw [stR, stF]
  by_cases hi : id ∈ s.ids
  · rw [if_pos hi, if_pos (h.mem.2 hi), h.st id hi]
  · rw [if_neg hi, if_neg (fun h2 => hi (h.mem.1 h2))]
theorem MR.clE {s : MS} {r : Rf} (h : MR s r) (id : Int) : clR s id = clF r id := by
  rw [clR, clF]
  by_cases hi : id ∈ s.ids
  · rw [if_pos hi, if_pos (h.mem.2 hi), h.cl id hi]
  · rw [if_neg hi, if_neg (fun h2 => hi (h.mem.1 h2))]
theorem MR.rowE {s : MS} {r : Rf} (h : MR s r) {id : Int} (hi : id ∈ s.ids) : rowR s id = rowF r.S id := by
  rw [rowR, if_pos hi, h.row id hi]
theorem MR.opens {s : MS} {r : Rf} (h : MR s r) (id : Int) : (openS s id).2 = (openF r id).2 ∧ MR (openS s id).1 (openF r id).1 := by
  rw [openS, openF]
  by_cases hi : id ∈ s.ids
  · rw [if_neg (show ¬ (id ∉ s.ids) from fun h2 => h2 hi), if_neg (show ¬ (id ∉ r.D) from fun h2 => h2 (h.mem.2 hi)), h.st id hi, h.row id hi]
    split
    · exact ⟨rfl, h⟩
    · exact ⟨rfl, h.D, fun x hx => updI_eq fun _ => h.st x hx, h.cl, h.to, h.row⟩
  · rw [if_pos hi, if_pos (show id ∉ r.D from fun h2 => hi (h.mem.1 h2))]; exact ⟨rfl, h⟩
theorem MR.offer {s : MS} {r : Rf} (h : MR s r) (to : Int) (o : Off) : (offS s to o).2 = (offerF r to o).2 ∧ MR (offS s to o).1 (offerF r to o).1 := by
  rw [offS, offerF]
  by_cases hi : to ∉ s.ids ∨ o.fr ∉ s.ids
  · rw [if_pos hi, if_pos (hi.imp (fun h2 h3 => h2 (h.mem.1 h3)) (fun h2 h3 => h2 (h.mem.1 h3)))]; exact ⟨rfl, h⟩
  · have hi2 : ¬ (to ∉ r.D ∨ o.fr ∉ r.D) := fun h2 => hi (h2.imp (fun h3 h4 => h3 (h.mem.2 h4)) (fun h3 h4 => h3 (h.mem.2 h4)))
    rw [if_neg hi, if_neg hi2]
    have ht : to ∈ s.ids := Decidable.not_not.1 fun h2 => hi (.inl h2)
    have hf : o.fr ∈ s.ids := Decidable.not_not.1 fun h2 => hi (.inr h2)
    split
    · exact ⟨rfl, h⟩
    · rw [h.st _ hf]
      split
      · exact ⟨rfl, h⟩
      · refine ⟨rfl, h.D, fun x hx => updI_eq fun _ => h.st x hx, h.cl, fun u hu => ?_, fun x hx => ?_⟩
        · rcases List.mem_append.1 hu with hu | hu
          · exact h.to u hu
          · rw [List.mem_singleton.1 hu]; exact ht
        · show rowF (r.S ++ [(⟨to, o⟩ : Sn)]) x = updI s.row to (s.row to ++ [o]) x
          rw [rowF_app]
          by_cases e : to = x
          · rw [if_pos e, ← e, updI_same, h.row to ht]
          · rw [if_neg e, List.append_nil, updI_ne (Ne.symm e), h.row x hx]
theorem WM.cl_neg {s : MS} (h : WM s) {x : Int} (hx : x ∈ s.ids) : s.cl x = -1 ∨ 0 ≤ s.cl x := by
  by_cases hc : s.cl x = -1
  · exact .inl hc
  · exact .inr (h.ge _ (h.cal x hx hc).1)
theorem MR.answer {s : MS} {r : Rf} (hW : WM s) (h : MR s r) (id : Int) : (ansS s id).2 = (answerF r id).2 ∧ MR (ansS s id).1 (answerF r id).1 := by
  rw [ansS, answerF]
  by_cases hi : id ∈ s.ids
  · rw [if_neg (show ¬ (id ∉ s.ids) from fun h2 => h2 hi), if_neg (show ¬ (id ∉ r.D) from fun h2 => h2 (h.mem.2 hi)), h.st id hi, h.cl id hi]
    split
    · exact ⟨rfl, h⟩
    · rcases hW.cl_neg hi with hc | hc
      · rw [if_pos hc, if_pos (by omega)]; exact ⟨rfl, h⟩
      · rw [if_neg (by omega), if_neg (by omega)]
        exact ⟨rfl, h.D, fun x hx => updI_eq fun _ => h.st x hx, fun x hx => updI_eq fun _ => h.cl x hx, h.to, h.row⟩
  · rw [if_pos hi, if_pos (show id ∉ r.D from fun h2 => hi (h.mem.1 h2))]; exact ⟨rfl, h⟩
theorem fil_self {R : List Off} {id : Int} (h : ∀ o ∈ R, o.fr ≠ id) : R.filter (fun o => decide (o.fr ≠ id)) = R := List.filter_eq_self.2 fun o ho => by simpa using h o ho
theorem MR.call {s : MS} {r : Rf} (hW : WM s) (h : MR s r) (id : Int) : (callS s id).2 = (callF r id).2 ∧ MR (callS s id).1 (callF r id).1 := by
  rw [callS, callF]
  by_cases hi : id ∈ s.ids
  · rw [if_neg (show ¬ (id ∉ s.ids) from fun h2 => h2 hi), if_neg (show ¬ (id ∉ r.D) from fun h2 => h2 (h.mem.2 hi)), h.st id hi]
    by_cases h0 : s.st id = 0
    · rw [if_pos h0, if_pos h0]; exact ⟨rfl, h⟩
    · rw [if_neg h0, if_neg h0]
      have hge := hW.ge id hi
      have hst : ∀ x ∈ s.ids, (setF (clrF (offF r id) id r.D) id 0).st x = updI s.st id 0 x := fun x hx => updI_eq fun _ => h.st x hx
      have hto : ∀ u ∈ (setF (clrF (offF r id) id r.D) id 0).S, u.to ∈ s.ids := fun u hu => h.to u (List.mem_filter.1 hu).1
      have hrow : ∀ x ∈ s.ids, rowF (setF (clrF (offF r id) id r.D) id 0).S x = (s.row x).filter (fun o => decide (o.fr ≠ id)) := fun x hx => by
        show rowF (r.S.filter fun u => decide (u.o.fr ≠ id)) x = _
        rw [rowF_fil (fun o => decide (o.fr ≠ id)), h.row x hx]
      have hcl : ∀ x ∈ s.ids, (setF (clrF (offF r id) id r.D) id 0).cl x = if s.cl x = id then -1 else s.cl x := fun x hx => by
        show (if x ∈ r.D ∧ r.cl x = id then (-1 : Int) else r.cl x) = _
        rw [h.cl x hx]
        by_cases e : s.cl x = id
        · rw [if_pos ⟨h.mem.2 hx, e⟩, if_pos e]
        · rw [if_neg (fun h2 => e h2.2), if_neg e]
      have hask : ∀ x ∈ s.ids, s.cl x = id → s.st id = 3 ∧ s.pn id = x := fun x hx e => by
        have := hW.cal x hx (by omega)
        rw [e] at this; exact this.2.2
      have hsnd : ∀ x ∈ s.ids, ∀ o ∈ s.row x, o.fr = id → s.st id = 1 ∧ s.pn id = x := fun x hx o ho e => by
        have := hW.row x hx o ho
        rw [e] at this; exact this.2.2
      by_cases h1 : s.st id = 1
      · rw [if_pos h1]
        refine ⟨rfl, h.D, hst, fun x hx => ?_, hto, fun x hx => ?_⟩
        · rw [hcl x hx, if_neg (fun e => by have := hask x hx e; omega)]; rfl
        · rw [hrow x hx]
          show _ = updI s.row (s.pn id) ((s.row (s.pn id)).filter (notO fun o => decide (o.fr = id))) x
          by_cases e : x = s.pn id
          · rw [e, updI_same]
            refine List.filter_congr fun o _ => ?_
            by_cases e2 : o.fr = id
            · rw [notO, decide_eq_true e2, decide_eq_false (fun h => h e2)]; rfl
            · rw [notO, decide_eq_false e2, decide_eq_true e2]; rfl
          · rw [updI_ne e, fil_self fun o ho e2 => e (hsnd x hx o ho e2).2.symm]
      · rw [if_neg h1]
        have hr2 : ∀ x ∈ s.ids, (s.row x).filter (fun o => decide (o.fr ≠ id)) = s.row x := fun x hx => fil_self fun o ho e2 => h1 (hsnd x hx o ho e2).1
        by_cases h3 : s.st id = 3
        · rw [if_pos h3]
          refine ⟨rfl, h.D, hst, fun x hx => ?_, hto, fun x hx => by rw [hrow x hx]; exact hr2 x hx⟩
          rw [hcl x hx]
          show _ = updI s.cl (s.pn id) (-1) x
          by_cases e : x = s.pn id
          · rw [e, updI_same, if_pos (hW.ask id hi h3).2]
          · rw [updI_ne e, if_neg (fun e2 => e (hask x hx e2).2.symm)]
        · rw [if_neg h3]
          refine ⟨rfl, h.D, hst, fun x hx => ?_, hto, fun x hx => by rw [hrow x hx]; exact hr2 x hx⟩
          rw [hcl x hx, if_neg (fun e => h3 (hask x hx e).1)]; rfl
  · rw [if_pos hi, if_pos (show id ∉ r.D from fun h2 => hi (h.mem.1 h2))]; exact ⟨rfl, h⟩
theorem MR.take {s : MS} {r : Rf} (hW : WM s) (h : MR s r) (to : Int) : (takeS s to).2 = (takeF r to).2 ∧ MR (takeS s to).1 (takeF r to).1 := by
  rw [takeS, takeF]
  by_cases hi : to ∈ s.ids
  · rw [if_neg (show ¬ (to ∉ s.ids) from fun h2 => h2 hi), if_neg (show ¬ (to ∉ r.D) from fun h2 => h2 (h.mem.2 hi)), h.st to hi, h.row to hi]
    split
    · exact ⟨rfl, h⟩
    · cases hr : s.row to with
      | nil => exact ⟨rfl, h⟩
      | cons o R =>
        dsimp only
        have hom : o ∈ s.row to := by rw [hr]; exact List.mem_cons_self
        have ho := hW.row to hi o hom
        have hnr := hW.nr to hi
        rw [hr] at hnr
        have hrow : ∀ x ∈ s.ids, rowF (r.S.filter fun u => decide (u.o.fr ≠ o.fr)) x = updI s.row to R x := fun x hx => by
          rw [rowF_fil (fun u => decide (u.fr ≠ o.fr)), h.row x hx]
          by_cases e : x = to
          · rw [e, updI_same, hr]
            have := filter_head hnr
            simpa using this
          · rw [updI_ne e]
            exact fil_self fun u hu e2 => by
              have := hW.row x hx u hu
              rw [e2] at this
              exact e (this.2.2.2.symm.trans ho.2.2.2)
        have hto : ∀ u ∈ r.S.filter (fun u => decide (u.o.fr ≠ o.fr)), u.to ∈ s.ids := fun u hu => h.to u (List.mem_filter.1 hu).1
        split
        · rw [h.cl to hi]
          split
          · refine ⟨rfl, h.D, fun x hx => ?_, fun x hx => updI_eq fun _ => h.cl x hx, hto, hrow⟩
            exact updI_eq fun _ => updI_eq fun _ => updI_eq fun _ => updI_eq fun _ => h.st x hx
          · rename_i hc
            refine ⟨rfl, h.D, fun x hx => ?_, fun x hx => updI_eq fun _ => h.cl x hx, hto, hrow⟩
            refine updI_eq fun _ => ?_
            have hne : x ≠ s.cl to := fun e => by have := hW.ge x hx; omega
            show updI _ (s.cl to) 0 x = _
            rw [updI_ne hne]
            exact updI_eq fun _ => updI_eq fun _ => h.st x hx
        · refine ⟨rfl, h.D, fun x hx => ?_, h.cl, hto, hrow⟩
          exact updI_eq fun _ => updI_eq fun _ => h.st x hx
  · rw [if_pos hi, if_pos (show to ∉ r.D from fun h2 => hi (h.mem.1 h2))]; exact ⟨rfl, h⟩
theorem fold_go : ∀ (l : List Int) (r : Rf), l.foldl goF r = ⟨r.D, fun x => if x ∈ l then 0 else r.st x, r.cl, r.S.filter fun u => decide (u.o.fr ∉ l)⟩
  | [], r => by
    have h1 : (fun x => if x ∈ ([] : List Int) then (0 : Int) else r.st x) = r.st := funext fun x => if_neg List.not_mem_nil
    have h2 : r.S.filter (fun u => decide (u.o.fr ∉ ([] : List Int))) = r.S := List.filter_eq_self.2 fun u _ => by simp
    rw [h1, h2]; rfl
  | y :: l, r => by
    rw [List.foldl_cons, fold_go l]
    simp only [goF, setF, offF, Rf.mk.injEq, true_and, List.filter_filter]
    constructor
    · funext x
      by_cases h : x ∈ l
      · rw [if_pos h, if_pos (by simp [h])]
      · rw [if_neg h]
        by_cases e : x = y
        · rw [if_pos (by simp [e]), e, updI_same]
        · rw [if_neg (by simp [e, h]), updI_ne e]
    · refine List.filter_congr fun u _ => ?_
      simp only [List.mem_cons, not_or]
      by_cases h1 : u.o.fr = y <;> by_cases h2 : u.o.fr ∈ l <;> simp [h1, h2]
theorem MR.goneE {s : MS} {r : Rf} (hW : WM s) (h : MR s r) {id : Int} (hi : id ∈ s.ids) : outF r id = goneL s id := by
  rw [outF, goneL, h.row id hi, clF, if_pos (h.mem.2 hi), h.cl id hi]
  rcases hW.cl_neg hi with hc | hc
  · rw [if_neg (by omega), if_neg (fun h2 => h2 hc)]
  · rw [if_pos hc, if_pos (by omega)]
theorem MR.leave1 {s : MS} {r : Rf} (hW : WM s) (h : MR s r) {id : Int} (hi : id ∈ s.ids) : MR (dropS (frL (rowS s id []) (goneL s id)) id) (dropF ((goneL s id).foldl goF r) id) := by
  rw [fold_go]
  have hp : ∀ z ∈ goneL s id, s.pn z = id := fun z hz => (gone_mem hW hi hz).2.2.1
  have hm : ∀ {x : Int}, x ∈ (dropS (frL (rowS s id []) (goneL s id)) id).ids → x ∈ s.ids ∧ x ≠ id := fun hx => by simpa [dropS, frL, rowS] using hx
  refine ⟨?_, fun x hx => ?_, fun x hx => h.cl x (hm hx).1, fun u hu => ?_, fun x hx => ?_⟩
  · show r.D.filter _ = sortI (s.ids.filter _)
    rw [h.D]
    refine List.Perm.eq_of_pairwise (le := fun a c => a ≤ c) (fun a c _ _ h1 h2 => by omega) ((sortI_sorted _).sublist List.filter_sublist) (sortI_sorted _) ?_
    exact ((sortI_perm _).filter _).trans (sortI_perm _).symm
  · show (if x ∈ goneL s id then (0 : Int) else r.st x) = if x ∈ goneL s id then 0 else s.st x
    rw [h.st x (hm hx).1]
  · obtain ⟨hu1, hu2⟩ := List.mem_filter.1 hu
    have hut := h.to u hu1
    refine List.mem_filter.2 ⟨hut, ?_⟩
    simp only [decide_eq_true_eq] at hu2 ⊢
    intro e
    refine hu2 (List.mem_append.2 (.inl (List.mem_map.2 ⟨u.o, ?_, rfl⟩)))
    have := rowF_mem hu1
    rw [e, h.row id hi] at this; exact this
  · obtain ⟨hx1, hx2⟩ := hm hx
    show rowF (r.S.filter fun u => decide (u.o.fr ∉ goneL s id)) x = updI s.row id [] x
    rw [rowF_fil (fun o => decide (o.fr ∉ goneL s id)), h.row x hx1, updI_ne hx2]
    exact hW.others hx1 hp hx2
theorem MR.leave {s : MS} {r : Rf} (hW : WM s) (h : MR s r) (id : Int) : (leaveS s id).2 = (leaveF r id).2 ∧ MR (leaveS s id).1 (leaveF r id).1 := by
  rw [leaveS, leaveF]
  by_cases hi : id ∈ s.ids
  · rw [if_neg (show ¬ (id ∉ s.ids) from fun h2 => h2 hi), if_neg (show ¬ (id ∉ r.D) from fun h2 => h2 (h.mem.2 hi))]
    obtain ⟨_, hi2⟩ := call_st s id hi
    have hW1 := hW.call id
    have h1 := (h.call hW id).2
    have hi1 : id ∈ (callS s id).1.ids := by rw [hi2]; exact hi
    have hg := h1.goneE hW1 hi1
    rw [hg]
    exact ⟨rfl, h1.leave1 hW1 hi1⟩
  · rw [if_pos hi, if_pos (show id ∉ r.D from fun h2 => hi (h.mem.1 h2))]; exact ⟨rfl, h⟩
theorem flat_cong {α β : Type} {f g : α → List β} : ∀ {l : List α}, (∀ a ∈ l, f a = g a) → l.flatMap f = l.flatMap g
  | [], _ => rfl
  | a :: l, h => by rw [List.flatMap_cons, List.flatMap_cons, h a (by simp), flat_cong fun b hb => h b (by simp [hb])]
theorem MR.close {s : MS} {r : Rf} (hW : WM s) (h : MR s r) (g : Int) : (closeS s g).2 = (closeF r g).2 ∧ MR (closeS s g).1 (closeF r g).1 := by
  have hg : thrF r g r.D = goneC s g (sortI s.ids) := by
    rw [thrF, goneC, h.D]
    exact flat_cong fun x hx => by rw [h.row x (sortI_mem.1 hx)]
  rw [closeS, closeF, hg]
  refine ⟨rfl, ?_⟩
  dsimp only
  rw [fold_go]
  refine ⟨h.D, fun x hx => ?_, h.cl, fun u hu => h.to u (List.mem_filter.1 hu).1, fun x hx => ?_⟩
  · show (if x ∈ goneC s g (sortI s.ids) then (0 : Int) else r.st x) = if x ∈ goneC s g (sortI s.ids) then 0 else s.st x
    rw [h.st x hx]
  · have hx : x ∈ s.ids := hx
    show rowF (r.S.filter fun u => decide (u.o.fr ∉ goneC s g (sortI s.ids))) x = if x ∈ sortI s.ids then (s.row x).filter (notO (thru g)) else s.row x
    rw [rowF_fil (fun o => decide (o.fr ∉ goneC s g (sortI s.ids))), h.row x hx, if_pos (sortI_mem.2 hx)]
    refine List.filter_congr fun o ho => ?_
    rw [notO, thru, Bool.eq_iff_iff]
    simp only [Bool.not_eq_true', decide_eq_false_iff_not, decide_eq_true_eq, goneC_mem]
    constructor
    · intro h1 h2
      exact h1 ⟨x, sortI_mem.2 hx, o, ho, h2, rfl⟩
    · rintro h1 ⟨y, hy, u, hu, h2, h3⟩
      have := hW.one hx (sortI_mem.1 hy) ho hu h3.symm
      rw [this.2] at h1; exact h1 h2
theorem MR.join {s : MS} {r : Rf} (h : MR s r) (x : Int) : ((joinL s [x]).ids.length - s.ids.length : Int) = joinNF r x ∧ MR (joinL s [x]) (joinF r x) := by
  show (((joinS s x).ids.length : Int) - s.ids.length = joinNF r x) ∧ MR (joinS s x) (joinF r x)
  rw [joinS, joinF, joinNF]
  by_cases hi : x ∈ s.ids ∨ x < 0
  · have hi2 : x ∈ r.D ∨ x < 0 := hi.imp h.mem.2 id
    rw [if_pos hi, if_pos hi2, if_pos hi2]; exact ⟨Int.sub_self _, h⟩
  · have hi2 : ¬ (x ∈ r.D ∨ x < 0) := fun h2 => hi (h2.imp h.mem.1 id)
    rw [if_neg hi, if_neg hi2, if_neg hi2]
    have hx : x ∉ s.ids := fun h2 => hi (.inl h2)
    refine ⟨by rw [List.length_append, List.length_singleton]; omega, ?_, fun y hy => updI_eq fun hn => ?_, fun y hy => updI_eq fun hn => ?_, fun u hu => List.mem_append.2 (.inl (h.to u hu)), fun y hy => ?_⟩
    · show sortI (r.D ++ [x]) = sortI (s.ids ++ [x])
      rw [h.D]; exact sortI_uniq ((sortI_perm _).append_right _)
    · exact h.st y ((List.mem_append.1 hy).resolve_right fun h2 => hn (List.mem_singleton.1 h2))
    · exact h.cl y ((List.mem_append.1 hy).resolve_right fun h2 => hn (List.mem_singleton.1 h2))
    · show rowF r.S y = updI s.row x [] y
      by_cases e : y = x
      · rw [e, updI_same, rowF, List.filter_eq_nil_iff.2, List.map_nil]
        intro u hu
        simp only [decide_eq_true_eq]
        exact fun e2 => hx (e2 ▸ h.to u hu)
      · rw [updI_ne e]
        exact h.row y ((List.mem_append.1 hy).resolve_right fun h2 => e (List.mem_singleton.1 h2))
theorem MR.pn {s : MS} {r : Rf} (hW : WM s) (h : MR s r) {id : Int} (hi : id ∈ s.ids) : pnR s id = prF r id := by
  rw [pnR, if_pos hi, prF]
  have hge := hW.ge id hi
  cases hf : r.S.find? fun u => decide (u.o.fr = id) with
  | some u =>
    have h1 := List.find?_some hf
    have h2 := List.mem_of_find?_eq_some hf
    have h1 : u.o.fr = id := by simpa using h1
    have hut := h.to u h2
    have h3 := rowF_mem h2
    rw [h.row _ hut] at h3
    have := hW.row _ hut _ h3
    rw [h1] at this
    exact this.2.2.2
  | none =>
    dsimp only
    rw [if_pos hge]
    rw [List.find?_eq_none] at hf
    have h1 : s.st id ≠ 1 := fun h1 => by
      obtain ⟨hp, o, ho, e⟩ := hW.snd id hi h1
      rw [← h.row _ hp] at ho
      obtain ⟨u, hu, rfl⟩ := List.mem_map.1 ho
      exact hf u (List.mem_filter.1 hu).1 (by simpa using e)
    by_cases h3 : s.st id = 3
    · obtain ⟨hp, hc⟩ := hW.ask id hi h3
      cases hg : r.D.find? fun x => decide (r.cl x = id) with
      | some x =>
        have g1 := List.find?_some hg
        have g2 := h.mem.1 (List.mem_of_find?_eq_some hg)
        have g1 : r.cl x = id := by simpa using g1
        rw [h.cl x g2] at g1
        have := hW.cal x g2 (by omega)
        rw [g1] at this
        exact this.2.2.2
      | none =>
        rw [List.find?_eq_none] at hg
        exact absurd (by rw [h.cl _ hp, hc]; simp) (hg (s.pn id) (h.mem.2 hp))
    · rw [hW.idle id hi h1 h3]
      cases hg : r.D.find? fun x => decide (r.cl x = id) with
      | some x =>
        have g1 := List.find?_some hg
        have g2 := h.mem.1 (List.mem_of_find?_eq_some hg)
        have g1 : r.cl x = id := by simpa using g1
        rw [h.cl x g2] at g1
        have := hW.cal x g2 (by omega)
        rw [g1] at this
        exact absurd this.2.2.1 h3
      | none => rfl
def actM (s : MS) (t : MAct) : MS :=
  if t.kind = 0 then joinL s [t.id] else if t.kind = 1 then (offS s t.id ⟨t.fr, t.gt, t.cl⟩).1 else if t.kind = 2 then (openS s t.id).1 else if t.kind = 3 then (takeS s t.id).1 else if t.kind = 4 then (ansS s t.id).1 else if t.kind = 5 then (callS s t.id).1 else if t.kind = 6 then (leaveS s t.id).1 else if t.kind = 7 then (closeS s t.id).1 else s
def actF (r : Rf) (t : MAct) : Rf :=
  if t.kind = 0 then joinF r t.id else if t.kind = 1 then (offerF r t.id ⟨t.fr, t.gt, t.cl⟩).1 else if t.kind = 2 then (openF r t.id).1 else if t.kind = 3 then (takeF r t.id).1 else if t.kind = 4 then (answerF r t.id).1 else if t.kind = 5 then (callF r t.id).1 else if t.kind = 6 then (leaveF r t.id).1 else if t.kind = 7 then (closeF r t.id).1 else r
theorem MR.act {s : MS} {r : Rf} (hW : WM s) (h : MR s r) (t : MAct) : WM (actM s t) ∧ MR (actM s t) (actF r t) := by
  rw [actM, actF]
  split
  · exact ⟨WM.joinL _ hW, (h.join _).2⟩
  · split
    · exact ⟨hW.offer _ _, (h.offer _ _).2⟩
    · split
      · exact ⟨hW.opens _, (h.opens _).2⟩
      · split
        · exact ⟨hW.take _, (h.take hW _).2⟩
        · split
          · exact ⟨hW.answer _, (h.answer hW _).2⟩
          · split
            · exact ⟨hW.call _, (h.call hW _).2⟩
            · split
              · exact ⟨hW.leave _, (h.leave hW _).2⟩
              · split
                · exact ⟨hW.close _, (h.close hW _).2⟩
                · exact ⟨hW, h⟩
theorem take_S (r : Rf) (x : Int) : (takeF r x).1.S.length ≤ r.S.length := by
  rw [takeF]
  split
  · exact Nat.le_refl _
  · split
    · exact Nat.le_refl _
    · split
      · exact Nat.le_refl _
      · split
        · exact List.length_filter_le _ _
        · exact List.length_filter_le _ _
theorem act_S (r : Rf) (t : MAct) : (actF r t).S.length ≤ r.S.length + 1 := by
  rw [actF]
  split
  · rw [joinF]; split
    · first | omega | exact Nat.le_add_right _ _ | exact Nat.le_refl _
    · exact Nat.le_add_right _ _
  · split
    · rw [offerF]; split
      · first | omega | exact Nat.le_add_right _ _ | exact Nat.le_refl _
      · split
        · first | omega | exact Nat.le_add_right _ _ | exact Nat.le_refl _
        · split
          · first | omega | exact Nat.le_add_right _ _ | exact Nat.le_refl _
          · show (r.S ++ [_]).length ≤ _
            rw [List.length_append]; exact Nat.le_refl _
    · split
      · rw [openF]; split
        · first | omega | exact Nat.le_add_right _ _ | exact Nat.le_refl _
        · split
          · first | omega | exact Nat.le_add_right _ _ | exact Nat.le_refl _
          · exact Nat.le_add_right _ _
      · split
        · have := take_S r t.id; omega
        · split
          · rw [answerF]; split
            · first | omega | exact Nat.le_add_right _ _ | exact Nat.le_refl _
            · split
              · first | omega | exact Nat.le_add_right _ _ | exact Nat.le_refl _
              · split
                · first | omega | exact Nat.le_add_right _ _ | exact Nat.le_refl _
                · exact Nat.le_add_right _ _
          · split
            · have := (call_D r t.id).2; omega
            · split
              · rw [leaveF]; split
                · first | omega | exact Nat.le_add_right _ _ | exact Nat.le_refl _
                · have h1 := (call_D r t.id).2
                  have h2 := (fold_D (outF (callF r t.id).1 t.id) (callF r t.id).1).2
                  show ((outF (callF r t.id).1 t.id).foldl goF (callF r t.id).1).S.length ≤ _
                  omega
              · split
                · have h2 := (fold_D (thrF r t.id r.D) r).2
                  show ((thrF r t.id r.D).foldl goF r).S.length ≤ _
                  omega
                · first | omega | exact Nat.le_add_right _ _ | exact Nat.le_refl _
theorem act_len (s : MS) (t : MAct) : (actM s t).ids.length ≤ s.ids.length + 1 := by
  rw [actM]
  split
  · exact (join_len s t.id).2
  · split
    · rw [off_ids]; omega
    · split
      · rw [open_ids]; omega
      · split
        · rw [take_ids]; omega
        · split
          · rw [ans_ids]; omega
          · split
            · rw [call_ids]; omega
            · split
              · rw [leaveS]; split
                · first | omega | exact Nat.le_add_right _ _ | exact Nat.le_refl _
                · have h1 := call_ids s t.id
                  show ((callS s t.id).1.ids.filter _).length ≤ _
                  rw [h1]
                  exact Nat.le_trans (List.length_filter_le _ _) (Nat.le_add_right _ _)
              · split
                · show s.ids.length ≤ _
                  omega
                · first | omega | exact Nat.le_add_right _ _ | exact Nat.le_refl _
end Go.Proofs.Ytgmniphegombhaa
