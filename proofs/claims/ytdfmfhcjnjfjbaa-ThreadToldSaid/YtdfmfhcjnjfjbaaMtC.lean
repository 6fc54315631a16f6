/-
  Proved here: what functions of this program compute, each as a contract over symbolic states, under the premises that each theorem names (most lines printed by a program of the prover).
-/
import Derived.Test.YtdfmfhcjnjfjbaaMtB
namespace Go.Proofs.Ytdfmfhcjnjfjbaa
open Go Go.QM
theorem nodup_sub_len {l m : List Int} (h : l.Nodup) (hs : ∀ x ∈ l, x ∈ m) : l.length ≤ m.length := by
  induction l generalizing m with
  | nil => simp
  | cons a l ih =>
    obtain ⟨h1, h2⟩ := List.nodup_cons.1 h
    obtain ⟨s, t, rfl⟩ := List.append_of_mem (hs a (by simp))
    have := ih (m := s ++ t) h2 (fun x hx => by
      have h3 := hs x (by simp [hx])
      have h4 : x ≠ a := fun e => h1 (e ▸ hx)
      simp at h3 ⊢
      rcases h3 with h3 | h3 | h3
      · exact .inl h3
      · exact absurd h3 h4
      · exact .inr h3)
    simp at this ⊢; omega
structure WM (s : MS) : Prop where
  nd : s.ids.Nodup
  ge : ∀ x ∈ s.ids, 0 ≤ x
  rg : ∀ x ∈ s.ids, s.st x = 0 ∨ s.st x = 1 ∨ s.st x = 2 ∨ s.st x = 3
  row : ∀ x ∈ s.ids, ∀ o ∈ s.row x, o.fr ∈ s.ids ∧ o.fr ≠ x ∧ s.st o.fr = 1 ∧ s.pn o.fr = x
  nr : ∀ x ∈ s.ids, ((s.row x).map (·.fr)).Nodup
  snd : ∀ x ∈ s.ids, s.st x = 1 → s.pn x ∈ s.ids ∧ ∃ o ∈ s.row (s.pn x), o.fr = x
  cal : ∀ x ∈ s.ids, s.cl x ≠ -1 → s.cl x ∈ s.ids ∧ s.cl x ≠ x ∧ s.st (s.cl x) = 3 ∧ s.pn (s.cl x) = x
  ask : ∀ x ∈ s.ids, s.st x = 3 → s.pn x ∈ s.ids ∧ s.cl (s.pn x) = x
  idle : ∀ x ∈ s.ids, s.st x ≠ 1 → s.st x ≠ 3 → s.pn x = -1
theorem WM.zero : WM s0 := ⟨List.nodup_nil, fun _ h => (List.not_mem_nil h).elim, fun _ h => (List.not_mem_nil h).elim, fun _ h => (List.not_mem_nil h).elim, fun _ h => (List.not_mem_nil h).elim, fun _ h => (List.not_mem_nil h).elim, fun _ h => (List.not_mem_nil h).elim, fun _ h => (List.not_mem_nil h).elim, fun _ h => (List.not_mem_nil h).elim⟩
theorem WM.ext {s t : MS} (h : WM s) (hi : t.ids = s.ids) (h1 : ∀ x ∈ s.ids, t.st x = s.st x ∧ t.cl x = s.cl x ∧ t.pn x = s.pn x ∧ t.row x = s.row x) : WM t where
  nd := by rw [hi]; exact h.nd
  ge := by rw [hi]; exact h.ge
  rg := fun x hx => by rw [hi] at hx; rw [(h1 x hx).1]; exact h.rg x hx
  row := fun x hx o ho => by
    rw [hi] at hx; rw [(h1 x hx).2.2.2] at ho
    have := h.row x hx o ho
    rw [hi, (h1 _ this.1).1, (h1 _ this.1).2.2.1]; exact this
  nr := fun x hx => by rw [hi] at hx; rw [(h1 x hx).2.2.2]; exact h.nr x hx
  snd := fun x hx hs => by
    rw [hi] at hx; rw [(h1 x hx).1] at hs
    have := h.snd x hx hs
    rw [hi, (h1 x hx).2.2.1, (h1 _ this.1).2.2.2]; exact this
  cal := fun x hx hc => by
    rw [hi] at hx; rw [(h1 x hx).2.1] at hc
    have := h.cal x hx hc
    rw [hi, (h1 x hx).2.1, (h1 _ this.1).1, (h1 _ this.1).2.2.1]; exact this
  ask := fun x hx hs => by
    rw [hi] at hx; rw [(h1 x hx).1] at hs
    have := h.ask x hx hs
    rw [hi, (h1 x hx).2.2.1, (h1 _ this.1).2.1]; exact this
  idle := fun x hx a b => by
    rw [hi] at hx; rw [(h1 x hx).1] at a b
    rw [(h1 x hx).2.2.1]; exact h.idle x hx a b
def frL (s : MS) (Y : List Int) : MS := { s with st := fun x => if x ∈ Y then 0 else s.st x, pn := fun x => if x ∈ Y then -1 else s.pn x }
theorem foldl_fr (Y : List Int) : ∀ s : MS, Y.foldl frS s = frL s Y := by
  induction Y with
  | nil => intro s; simp [frL]
  | cons y Y ih =>
    intro s
    rw [List.foldl_cons, ih, frL, frL]
    simp only [frS, MS.mk.injEq, true_and]
    constructor
    · funext x
      by_cases h : x ∈ Y
      · rw [if_pos h, if_pos (by simp [h])]
      · rw [if_neg h]
        by_cases e : x = y
        · rw [if_pos (by simp [e]), e, updI_same]
        · rw [if_neg (by simp [e, h]), updI_ne e]
    · constructor
      · funext x
        by_cases h : x ∈ Y
        · rw [if_pos h, if_pos (by simp [h])]
        · rw [if_neg h]
          by_cases e : x = y
          · rw [if_pos (by simp [e]), e, updI_same]
          · rw [if_neg (by simp [e, h]), updI_ne e]
      · trivial
def unL (s : MS) (Y : List Int) : MS := { frL s Y with row := fun x => (s.row x).filter fun o => decide (o.fr ∉ Y) }
theorem WM.un {s : MS} (h : WM s) (Y : List Int) (hY : ∀ y ∈ Y, y ∈ s.ids ∧ s.st y = 1) : WM (unL s Y) where
  nd := h.nd
  ge := h.ge
  rg := fun x hx => by
    show (if x ∈ Y then (0 : Int) else s.st x) = 0 ∨ _
    have := h.rg x hx
    dsimp only [unL, frL]
    split
    · exact .inl rfl
    · exact this
  row := fun x hx o ho => by
    obtain ⟨ho1, ho2⟩ := List.mem_filter.1 ho
    have ho2 : o.fr ∉ Y := by simpa using ho2
    have := h.row x hx o ho1
    dsimp only [unL, frL]
    rw [if_neg ho2, if_neg ho2]; exact this
  nr := fun x hx => (h.nr x hx).sublist (List.filter_sublist.map _)
  snd := fun x hx hs => by
    dsimp only [unL, frL] at hs ⊢
    by_cases hm : x ∈ Y
    · rw [if_pos hm] at hs; cases hs
    · rw [if_neg hm] at hs ⊢
      obtain ⟨h1, o, h2, h3⟩ := h.snd x hx hs
      exact ⟨h1, o, List.mem_filter.2 ⟨h2, by rw [h3]; simpa using hm⟩, h3⟩
  cal := fun x hx hc => by
    obtain ⟨h1, h2, h3, h4⟩ := h.cal x hx hc
    have hm : s.cl x ∉ Y := fun hm => by have := (hY _ hm).2; omega
    dsimp only [unL, frL]
    rw [if_neg hm, if_neg hm]; exact ⟨h1, h2, h3, h4⟩
  ask := fun x hx hs => by
    dsimp only [unL, frL] at hs ⊢
    by_cases hm : x ∈ Y
    · rw [if_pos hm] at hs; cases hs
    · rw [if_neg hm] at hs ⊢; exact h.ask x hx hs
  idle := fun x hx a b => by
    dsimp only [unL, frL] at a b ⊢
    by_cases hm : x ∈ Y
    · rw [if_pos hm]
    · rw [if_neg hm] at a b ⊢; exact h.idle x hx a b
theorem WM.unask {s : MS} (h : WM s) {y : Int} (hy : y ∈ s.ids) (hs : s.st y = 3) : WM ⟨s.ids, updI s.st y 0, updI s.cl (s.pn y) (-1), updI s.pn y (-1), s.row⟩ where
  nd := h.nd
  ge := h.ge
  rg := fun x hx => by
    dsimp only
    by_cases e : x = y
    · rw [e, updI_same]; exact .inl rfl
    · rw [updI_ne e]; exact h.rg x hx
  row := fun x hx o ho => by
    have := h.row x hx o ho
    have e : o.fr ≠ y := fun e => by rw [e] at this; omega
    dsimp only
    rw [updI_ne e, updI_ne e]; exact this
  nr := h.nr
  snd := fun x hx hst => by
    dsimp only at hst ⊢
    by_cases e : x = y
    · rw [e, updI_same] at hst; cases hst
    · rw [updI_ne e] at hst ⊢; exact h.snd x hx hst
  cal := fun x hx hc => by
    dsimp only at hc ⊢
    by_cases e : x = s.pn y
    · rw [e, updI_same] at hc; exact absurd rfl hc
    · rw [updI_ne e] at hc ⊢
      have := h.cal x hx hc
      have e2 : s.cl x ≠ y := fun e2 => by rw [e2] at this; exact e this.2.2.2.symm
      rw [updI_ne e2, updI_ne e2]; exact this
  ask := fun x hx hst => by
    dsimp only at hst ⊢
    by_cases e : x = y
    · rw [e, updI_same] at hst; cases hst
    · rw [updI_ne e] at hst ⊢
      have h1 := h.ask x hx hst
      have h2 := h.ask y hy hs
      have e2 : s.pn x ≠ s.pn y := fun e2 => e (by rw [← h1.2, e2, h2.2])
      rw [updI_ne e2]; exact h1
  idle := fun x hx a b => by
    dsimp only at a b ⊢
    by_cases e : x = y
    · rw [e, updI_same]
    · rw [updI_ne e] at a b ⊢; exact h.idle x hx a b
theorem WM.set {s : MS} (h : WM s) {y v : Int} (hs : s.st y ≠ 1 ∧ s.st y ≠ 3) (hp : s.pn y = -1) (hv : v = 0 ∨ v = 2) : WM (stS s y v) where
  nd := h.nd
  ge := h.ge
  rg := fun x hx => by
    dsimp only [stS]
    by_cases e : x = y
    · rw [e, updI_same]; omega
    · rw [updI_ne e]; exact h.rg x hx
  row := fun x hx o ho => by
    have := h.row x hx o ho
    have e : o.fr ≠ y := fun e => by rw [e] at this; omega
    dsimp only [stS]
    rw [updI_ne e]; exact this
  nr := h.nr
  snd := fun x hx hst => by
    dsimp only [stS] at hst ⊢
    by_cases e : x = y
    · rw [e, updI_same] at hst; omega
    · rw [updI_ne e] at hst; exact h.snd x hx hst
  cal := fun x hx hc => by
    have := h.cal x hx hc
    have e : s.cl x ≠ y := fun e => by rw [e] at this; omega
    dsimp only [stS]
    rw [updI_ne e]; exact this
  ask := fun x hx hst => by
    dsimp only [stS] at hst ⊢
    by_cases e : x = y
    · rw [e, updI_same] at hst; omega
    · rw [updI_ne e] at hst; exact h.ask x hx hst
  idle := fun x hx a b => by
    dsimp only [stS] at a b ⊢
    by_cases e : x = y
    · rw [e]; exact hp
    · rw [updI_ne e] at a b; exact h.idle x hx a b
theorem WM.send {s : MS} (h : WM s) {to : Int} {o : Off} (hf : o.fr ∈ s.ids) (ht : to ∈ s.ids) (hne : o.fr ≠ to) (hs : s.st o.fr = 0) : WM (pushS (wtS s o.fr 1 to) to o) where
  nd := h.nd
  ge := h.ge
  rg := fun x hx => by
    dsimp only [pushS, wtS]
    by_cases e : x = o.fr
    · rw [e, updI_same]; omega
    · rw [updI_ne e]; exact h.rg x hx
  row := fun x hx u hu => by
    dsimp only [pushS, wtS] at hu ⊢
    have old : u ∈ s.row x → u.fr ∈ s.ids ∧ u.fr ≠ x ∧ updI s.st o.fr 1 u.fr = 1 ∧ updI s.pn o.fr to u.fr = x := fun hu => by
      have := h.row x hx u hu
      have e : u.fr ≠ o.fr := fun e => by rw [e] at this; omega
      rw [updI_ne e, updI_ne e]; exact this
    by_cases e : x = to
    · subst e
      rw [updI_same] at hu
      rcases List.mem_append.1 hu with hu | hu
      · exact old hu
      · rw [List.mem_singleton.1 hu, updI_same, updI_same]; exact ⟨hf, hne, rfl, rfl⟩
    · rw [updI_ne e] at hu; exact old hu
  nr := fun x hx => by
    dsimp only [pushS, wtS]
    by_cases e : x = to
    · subst e
      rw [updI_same, List.map_append, List.nodup_append]
      refine ⟨h.nr x hx, by simp, fun a ha c hc e2 => ?_⟩
      obtain ⟨u, hu, rfl⟩ := List.mem_map.1 ha
      have := h.row x hx u hu
      simp only [List.map_cons, List.map_nil, List.mem_singleton] at hc
      rw [e2, hc] at this; omega
    · rw [updI_ne e]; exact h.nr x hx
  snd := fun x hx hst => by
    dsimp only [pushS, wtS] at hst ⊢
    by_cases e : x = o.fr
    · subst e
      rw [updI_same, updI_same]; exact ⟨ht, o, by simp, rfl⟩
    · rw [updI_ne e] at hst ⊢
      obtain ⟨h1, u, h2, h3⟩ := h.snd x hx hst
      refine ⟨h1, u, ?_, h3⟩
      by_cases e2 : s.pn x = to
      · rw [e2, updI_same]; rw [e2] at h2; exact List.mem_append.2 (.inl h2)
      · rw [updI_ne e2]; exact h2
  cal := fun x hx hc => by
    have := h.cal x hx hc
    have e : s.cl x ≠ o.fr := fun e => by rw [e] at this; omega
    dsimp only [pushS, wtS]
    rw [updI_ne e, updI_ne e]; exact this
  ask := fun x hx hst => by
    dsimp only [pushS, wtS] at hst ⊢
    by_cases e : x = o.fr
    · rw [e, updI_same] at hst; omega
    · rw [updI_ne e] at hst ⊢; exact h.ask x hx hst
  idle := fun x hx a b => by
    dsimp only [pushS, wtS] at a b ⊢
    by_cases e : x = o.fr
    · rw [e, updI_same] at a; exact absurd rfl a
    · rw [updI_ne e] at a b ⊢; exact h.idle x hx a b
theorem WM.link {s : MS} (h : WM s) {to f : Int} (hf : f ∈ s.ids) (ht : to ∈ s.ids) (hne : f ≠ to) (hs : s.st f = 0) (hc : s.cl to = -1) : WM (wtS (clS s to f) f 3 to) where
  nd := h.nd
  ge := h.ge
  rg := fun x hx => by
    dsimp only [clS, wtS]
    by_cases e : x = f
    · rw [e, updI_same]; omega
    · rw [updI_ne e]; exact h.rg x hx
  row := fun x hx u hu => by
    have := h.row x hx u hu
    have e : u.fr ≠ f := fun e => by rw [e] at this; omega
    dsimp only [clS, wtS]
    rw [updI_ne e, updI_ne e]; exact this
  nr := h.nr
  snd := fun x hx hst => by
    dsimp only [clS, wtS] at hst ⊢
    by_cases e : x = f
    · rw [e, updI_same] at hst; omega
    · rw [updI_ne e] at hst ⊢; exact h.snd x hx hst
  cal := fun x hx hc2 => by
    dsimp only [clS, wtS] at hc2 ⊢
    by_cases e : x = to
    · subst e
      rw [updI_same, updI_same, updI_same]; exact ⟨hf, hne, rfl, rfl⟩
    · rw [updI_ne e] at hc2 ⊢
      have := h.cal x hx hc2
      have e2 : s.cl x ≠ f := fun e2 => by rw [e2] at this; omega
      rw [updI_ne e2, updI_ne e2]; exact this
  ask := fun x hx hst => by
    dsimp only [clS, wtS] at hst ⊢
    by_cases e : x = f
    · subst e; rw [updI_same, updI_same]; exact ⟨ht, rfl⟩
    · rw [updI_ne e] at hst ⊢
      have h1 := h.ask x hx hst
      have e2 : s.pn x ≠ to := fun e2 => by have := h.ge x hx; rw [e2] at h1; omega
      rw [updI_ne e2]; exact h1
  idle := fun x hx a b => by
    dsimp only [clS, wtS] at a b ⊢
    by_cases e : x = f
    · rw [e, updI_same] at b; exact absurd rfl b
    · rw [updI_ne e] at a b ⊢; exact h.idle x hx a b
theorem WM.join {s : MS} (h : WM s) (x : Int) : WM (joinS s x) := by
  rw [joinS]
  split
  · exact h
  · rename_i hx
    have hn : x ∉ s.ids := fun h2 => hx (.inl h2)
    have h0 : 0 ≤ x := by omega
    have ne : ∀ y ∈ s.ids, y ≠ x := fun y hy e => hn (e ▸ hy)
    have cases_ : ∀ y, y ∈ s.ids ++ [x] → y ∈ s.ids ∨ y = x := fun y hy => by simpa using hy
    have mem : ∀ y, y ∈ s.ids → y ∈ s.ids ++ [x] := fun y hy => by simp [hy]
    refine ⟨List.nodup_append.2 ⟨h.nd, by simp, fun a ha c hc e => ne a ha (by rw [e]; simpa using hc)⟩, fun y hy => ?_, fun y hy => ?_, fun y hy o ho => ?_, fun y hy => ?_, fun y hy hst => ?_, fun y hy hc => ?_, fun y hy hst => ?_, fun y hy a b => ?_⟩
    · rcases cases_ y hy with hy | rfl
      · exact h.ge y hy
      · exact h0
    · dsimp only
      rcases cases_ y hy with hy | rfl
      · rw [updI_ne (ne y hy)]; exact h.rg y hy
      · rw [updI_same]; exact .inl rfl
    · dsimp only at ho ⊢
      rcases cases_ y hy with hy | rfl
      · rw [updI_ne (ne y hy)] at ho
        have := h.row y hy o ho
        rw [updI_ne (ne _ this.1), updI_ne (ne _ this.1)]; exact ⟨mem _ this.1, this.2⟩
      · rw [updI_same] at ho; cases ho
    · dsimp only
      rcases cases_ y hy with hy | rfl
      · rw [updI_ne (ne y hy)]; exact h.nr y hy
      · rw [updI_same]; exact List.nodup_nil
    · dsimp only at hst ⊢
      rcases cases_ y hy with hy | rfl
      · rw [updI_ne (ne y hy)] at hst ⊢
        have := h.snd y hy hst
        rw [updI_ne (ne _ this.1)]; exact ⟨mem _ this.1, this.2⟩
      · rw [updI_same] at hst; cases hst
    · dsimp only at hc ⊢
      rcases cases_ y hy with hy | rfl
      · rw [updI_ne (ne y hy)] at hc ⊢
        have := h.cal y hy hc
        rw [updI_ne (ne _ this.1), updI_ne (ne _ this.1)]; exact ⟨mem _ this.1, this.2⟩
      · rw [updI_same] at hc; exact absurd rfl hc
    · dsimp only at hst ⊢
      rcases cases_ y hy with hy | rfl
      · rw [updI_ne (ne y hy)] at hst ⊢
        have := h.ask y hy hst
        rw [updI_ne (ne _ this.1)]; exact ⟨mem _ this.1, this.2⟩
      · rw [updI_same] at hst; cases hst
    · dsimp only at a b ⊢
      rcases cases_ y hy with hy | rfl
      · rw [updI_ne (ne y hy)] at a b ⊢; exact h.idle y hy a b
      · rw [updI_same]
theorem WM.drop {s : MS} (h : WM s) {x : Int} (hs : s.st x ≠ 1) (hr : s.row x = []) (hc : s.cl x = -1) (hs3 : s.st x ≠ 3) : WM { s with ids := s.ids.filter fun y => decide (y ≠ x) } := by
  have m1 : ∀ y, y ∈ s.ids.filter (fun y => decide (y ≠ x)) → y ∈ s.ids ∧ y ≠ x := fun y hy => by simpa using hy
  have m2 : ∀ y, y ∈ s.ids → y ≠ x → y ∈ s.ids.filter (fun y => decide (y ≠ x)) := fun y hy e => by simp [hy, e]
  refine ⟨h.nd.sublist List.filter_sublist, fun y hy => h.ge y (m1 y hy).1, fun y hy => h.rg y (m1 y hy).1, fun y hy o ho => ?_, fun y hy => h.nr y (m1 y hy).1, fun y hy hst => ?_, fun y hy hcl => ?_, fun y hy hst => ?_, fun y hy a b => h.idle y (m1 y hy).1 a b⟩
  · have := h.row y (m1 y hy).1 o ho
    exact ⟨m2 _ this.1 (fun e => by rw [e] at this; exact hs this.2.2.1), this.2⟩
  · have := h.snd y (m1 y hy).1 hst
    refine ⟨m2 _ this.1 (fun e => ?_), this.2⟩
    obtain ⟨_, o, ho, _⟩ := this
    rw [e, hr] at ho; cases ho
  · have := h.cal y (m1 y hy).1 hcl
    exact ⟨m2 _ this.1 (fun e => by dsimp only at e; rw [e] at this; exact hs3 this.2.2.1), this.2⟩
  · have := h.ask y (m1 y hy).1 hst
    refine ⟨m2 _ this.1 (fun e => ?_), this.2⟩
    have h0 := h.ge y (m1 y hy).1
    dsimp only at e
    rw [e, hc] at this; omega
theorem rowlen {s : MS} (h : WM s) {x : Int} (hx : x ∈ s.ids) : (s.row x).length ≤ s.ids.length := by
  have : ((s.row x).map (·.fr)).length ≤ s.ids.length := by
    refine nodup_sub_len (h.nr x hx) fun y hy => ?_
    obtain ⟨o, ho, rfl⟩ := List.mem_map.1 hy
    exact (h.row x hx o ho).1
  simpa using this
theorem rowRlen {s : MS} (h : WM s) (x : Int) : (rowR s x).length ≤ s.ids.length := by
  rw [rowR]; split
  · rename_i hx; exact rowlen h hx
  · simp
theorem WM.offer {s : MS} (h : WM s) (to : Int) (o : Off) : WM (offS s to o).1 := by
  rw [offS]
  split
  · exact h
  · rename_i h1
    simp only [not_or, Decidable.not_not] at h1
    split
    · exact h
    · rename_i h2
      split
      · exact h
      · rename_i h3
        exact h.send h1.2 h1.1 h2 (Decidable.not_not.1 h3)
theorem WM.opens {s : MS} (h : WM s) (id : Int) : WM (openS s id).1 := by
  rw [openS]
  split
  · exact h
  · rename_i h1
    split
    · exact h
    · rename_i h2
      have h1 := Decidable.not_not.1 h1
      simp only [not_or, Decidable.not_not] at h2
      exact h.set (by omega) (h.idle id h1 (by omega) (by omega)) (.inr rfl)
def takeS (s : MS) (to : Int) : MS × Off × Int × Int :=
  if to ∉ s.ids then (s, o0, 0, 6) else if s.st to ≠ 0 ∧ s.st to ≠ 2 then (s, o0, 0, 12) else
  match s.row to with
  | [] => (s, o0, 0, 6)
  | o :: r =>
    if o.cl = true then
      (if s.cl to ≠ -1 then wtS (clS (frS (frS (frS (rowS s to r) to) o.fr) (s.cl to)) to o.fr) o.fr 3 to else wtS (clS (frS (frS (rowS s to r) to) o.fr) to o.fr) o.fr 3 to, o, s.cl to, 0)
    else (frS (frS (rowS s to r) to) o.fr, o, -1, 0)
theorem filter_head {o : Off} {r : List Off} (h : ((o :: r).map (·.fr)).Nodup) : (o :: r).filter (fun u => decide (u.fr ∉ [o.fr])) = r := by
  rw [List.map_cons, List.nodup_cons] at h
  rw [List.filter_cons_of_neg (by simp)]
  refine List.filter_eq_self.2 fun u hu => ?_
  simp only [List.mem_singleton, decide_eq_true_eq]
  exact fun e => h.1 (List.mem_map.2 ⟨u, hu, e⟩)
theorem WM.others {s : MS} (h : WM s) {x y : Int} (hx : x ∈ s.ids) {Y : List Int} (hY : ∀ z ∈ Y, s.pn z = y) (hne : x ≠ y) : (s.row x).filter (fun u => decide (u.fr ∉ Y)) = s.row x := by
  refine List.filter_eq_self.2 fun u hu => ?_
  simp only [decide_eq_true_eq]
  intro hm
  have h1 := (h.row x hx u hu).2.2.2
  have h2 := hY _ hm
  exact hne (by rw [← h1, h2])
theorem take_base {s : MS} (h : WM s) {to : Int} (ht : to ∈ s.ids) (hs : s.st to = 0 ∨ s.st to = 2) {o : Off} {r : List Off} (hr : s.row to = o :: r) : WM (frS (frS (rowS s to r) to) o.fr) := by
  obtain ⟨h1, h2, h3, h4⟩ := h.row to ht o (by rw [hr]; simp)
  have hp := h.idle to ht (by omega) (by omega)
  have hu := h.un [o.fr] (fun y hy => by rw [List.mem_singleton.1 hy]; exact ⟨h1, h3⟩)
  have hne : to ∉ [o.fr] := by simpa using fun e => h2 e.symm
  have hv := hu.set (y := to) (v := 0) (by dsimp only [unL, frL]; rw [if_neg hne]; omega) (by dsimp only [unL, frL]; rw [if_neg hne]; exact hp) (.inl rfl)
  refine hv.ext rfl fun x hx => ?_
  have hx : x ∈ s.ids := hx
  dsimp only [frS, rowS, stS, unL, frL]
  refine ⟨?_, rfl, ?_, ?_⟩
  · by_cases e1 : x = o.fr
    · subst e1; rw [updI_same, updI_ne h2, if_pos (by simp)]
    · rw [updI_ne e1]
      by_cases e2 : x = to
      · subst e2; rw [updI_same, updI_same]
      · rw [updI_ne e2, updI_ne e2, if_neg (by simpa using e1)]
  · by_cases e1 : x = o.fr
    · subst e1; rw [updI_same, if_pos (by simp)]
    · rw [updI_ne e1, if_neg (by simpa using e1)]
      by_cases e2 : x = to
      · subst e2; rw [updI_same, hp]
      · rw [updI_ne e2]
  · by_cases e2 : x = to
    · subst e2; rw [updI_same, hr]
      have := h.nr x hx
      rw [hr] at this
      exact (filter_head this).symm
    · rw [updI_ne e2]
      exact (h.others hx (fun z hz => by rw [List.mem_singleton.1 hz]; exact h4) e2).symm
theorem WM.take {s : MS} (h : WM s) (to : Int) : WM (takeS s to).1 := by
  rw [takeS]
  split
  · exact h
  · rename_i ht
    have ht := Decidable.not_not.1 ht
    split
    · exact h
    · rename_i hs
      have hs : s.st to = 0 ∨ s.st to = 2 := by omega
      split
      · exact h
      · rename_i o r hr
        have hb := take_base h ht hs hr
        obtain ⟨h1, h2, h3, h4⟩ := h.row to ht o (by rw [hr]; simp)
        split
        · split
          · rename_i hc
            obtain ⟨c1, c2, c3, c4⟩ := h.cal to ht hc
            have ce : s.cl to ≠ o.fr := fun e => by rw [e] at c3; omega
            have hst : (frS (frS (rowS s to r) to) o.fr).st (s.cl to) = 3 := by
              dsimp only [frS, rowS]; rw [updI_ne ce, updI_ne c2]; exact c3
            have hpn : (frS (frS (rowS s to r) to) o.fr).pn (s.cl to) = to := by
              dsimp only [frS, rowS]; rw [updI_ne ce, updI_ne c2]; exact c4
            have hk := hb.unask (y := s.cl to) c1 hst
            rw [hpn] at hk
            have hl := hk.link (to := to) (f := o.fr) h1 ht h2 (by dsimp only [frS, rowS]; rw [updI_ne (Ne.symm ce), updI_same]) (by dsimp only; rw [updI_same])
            refine hl.ext rfl fun x hx => ⟨rfl, ?_, rfl, rfl⟩
            dsimp only [wtS, clS, frS, rowS]
            by_cases e : x = to
            · rw [e, updI_same, updI_same]
            · rw [updI_ne e, updI_ne e, updI_ne e]
          · rename_i hc
            have hc : s.cl to = -1 := Decidable.not_not.1 hc
            exact hb.link h1 ht h2 (by dsimp only [frS, rowS]; rw [updI_same]) hc
        · exact hb
def ansS (s : MS) (id : Int) : MS × Int × Int :=
  if id ∉ s.ids then (s, 0, 6) else if s.st id ≠ 0 then (s, 0, 12) else if s.cl id = -1 then (s, 0, 6) else (frS (clS s id (-1)) (s.cl id), s.cl id, 0)
theorem WM.answer {s : MS} (h : WM s) (id : Int) : WM (ansS s id).1 := by
  rw [ansS]
  split
  · exact h
  · rename_i hi
    split
    · exact h
    · split
      · exact h
      · rename_i hc
        obtain ⟨c1, c2, c3, c4⟩ := h.cal id (Decidable.not_not.1 hi) hc
        have hk := h.unask c1 c3
        rw [c4] at hk
        exact hk
def callS (s : MS) (id : Int) : MS × Int :=
  if id ∉ s.ids then (s, 6) else if s.st id = 0 then (s, 12) else
  if s.st id = 1 then (frS (cutMS s (s.pn id) fun o => decide (o.fr = id)) id, 0) else if s.st id = 3 then (frS (clS s (s.pn id) (-1)) id, 0) else (frS s id, 0)
theorem WM.call {s : MS} (h : WM s) (id : Int) : WM (callS s id).1 := by
  rw [callS]
  split
  · exact h
  · rename_i hi
    have hi := Decidable.not_not.1 hi
    split
    · exact h
    · rename_i h0
      split
      · rename_i h1
        have hu := h.un [id] (fun y hy => by rw [List.mem_singleton.1 hy]; exact ⟨hi, h1⟩)
        refine hu.ext rfl fun x hx => ?_
        have hx : x ∈ s.ids := hx
        dsimp only [frS, cutMS, rowS, unL, frL]
        refine ⟨?_, rfl, ?_, ?_⟩
        · by_cases e : x = id
          · rw [e, updI_same, if_pos (by simp)]
          · rw [updI_ne e, if_neg (by simpa using e)]
        · by_cases e : x = id
          · rw [e, updI_same, if_pos (by simp)]
          · rw [updI_ne e, if_neg (by simpa using e)]
        · by_cases e : x = s.pn id
          · rw [e, updI_same]
            refine List.filter_congr fun u _ => ?_
            simp [notO]
          · rw [updI_ne e]
            exact (h.others hx (fun z hz => by rw [List.mem_singleton.1 hz]) e).symm
      · rename_i h1
        split
        · rename_i h3
          exact h.unask hi h3
        · rename_i h3
          have hp := h.idle id hi h1 h3
          refine (h.set (y := id) (v := 0) ⟨h1, h3⟩ hp (.inl rfl)).ext rfl fun x _ => ⟨rfl, rfl, ?_, rfl⟩
          dsimp only [frS, stS]
          by_cases e : x = id
          · rw [e, updI_same, hp]
          · rw [updI_ne e]
theorem call_st (s : MS) (id : Int) (h : id ∈ s.ids) : (callS s id).1.st id = 0 ∧ (callS s id).1.ids = s.ids := by
  rw [callS, if_neg (fun h2 => h2 h)]
  split
  · rename_i h0; exact ⟨h0, rfl⟩
  · split
    · exact ⟨updI_same _ _ _, rfl⟩
    · split
      · exact ⟨updI_same _ _ _, rfl⟩
      · exact ⟨updI_same _ _ _, rfl⟩
def goneL (s : MS) (id : Int) : List Int := (s.row id).map (·.fr) ++ if s.cl id ≠ -1 then [s.cl id] else []
def dropS (s : MS) (id : Int) : MS := { s with ids := s.ids.filter fun y => decide (y ≠ id) }
def leaveS (s : MS) (id : Int) : MS × List Int × Int :=
  if id ∉ s.ids then (s, [], 6) else (dropS (frL (rowS (callS s id).1 id []) (goneL (callS s id).1 id)) id, goneL (callS s id).1 id, 0)
theorem gone_mem {s : MS} (h : WM s) {id : Int} (hi : id ∈ s.ids) {x : Int} (hx : x ∈ goneL s id) : x ∈ s.ids ∧ x ≠ id ∧ s.pn x = id ∧ (s.st x = 1 ∨ s.st x = 3) := by
  rcases List.mem_append.1 hx with hx | hx
  · obtain ⟨o, ho, rfl⟩ := List.mem_map.1 hx
    have := h.row id hi o ho
    exact ⟨this.1, this.2.1, this.2.2.2, .inl this.2.2.1⟩
  · split at hx
    · rename_i hc
      rw [List.mem_singleton.1 hx]
      have := h.cal id hi hc
      exact ⟨this.1, this.2.1, this.2.2.2, .inr this.2.2.1⟩
    · cases hx
theorem WM.leave1 {s : MS} (h : WM s) {id : Int} (hi : id ∈ s.ids) (hs : s.st id = 0) : WM (dropS (frL (rowS s id []) (goneL s id)) id) := by
  have hY : ∀ y ∈ (s.row id).map (·.fr), y ∈ s.ids ∧ s.st y = 1 := fun y hy => by
    obtain ⟨o, ho, rfl⟩ := List.mem_map.1 hy
    have := h.row id hi o ho
    exact ⟨this.1, this.2.2.1⟩
  have hYp : ∀ y ∈ (s.row id).map (·.fr), s.pn y = id := fun y hy => by
    obtain ⟨o, ho, rfl⟩ := List.mem_map.1 hy
    exact (h.row id hi o ho).2.2.2
  have hu := h.un _ hY
  have hin : id ∉ (s.row id).map (·.fr) := fun hm => by have := (hY _ hm).2; omega
  have hr0 : (unL s ((s.row id).map (·.fr))).row id = [] := by
    dsimp only [unL]
    refine List.filter_eq_nil_iff.2 fun o ho => ?_
    simp only [decide_eq_true_eq, Decidable.not_not]
    exact List.mem_map.2 ⟨o, ho, rfl⟩
  have hst0 : (unL s ((s.row id).map (·.fr))).st id = 0 := by dsimp only [unL, frL]; rw [if_neg hin]; exact hs
  by_cases hc : s.cl id = -1
  · have hd := hu.drop (x := id) (by omega) hr0 hc (by omega)
    have hg : goneL s id = (s.row id).map (·.fr) := by rw [goneL, if_neg (fun h => h hc), List.append_nil]
    rw [hg]
    refine hd.ext rfl fun x hx => ⟨rfl, rfl, rfl, ?_⟩
    have hx : x ∈ s.ids ∧ x ≠ id := by simpa [unL, frL] using hx
    dsimp only [dropS, frL, rowS, unL]
    rw [updI_ne hx.2]
    exact (h.others hx.1 hYp hx.2).symm
  · obtain ⟨c1, c2, c3, c4⟩ := h.cal id hi hc
    have hcY : s.cl id ∉ (s.row id).map (·.fr) := fun hm => by have := (hY _ hm).2; omega
    have hst3 : (unL s ((s.row id).map (·.fr))).st (s.cl id) = 3 := by dsimp only [unL, frL]; rw [if_neg hcY]; exact c3
    have hpn3 : (unL s ((s.row id).map (·.fr))).pn (s.cl id) = id := by dsimp only [unL, frL]; rw [if_neg hcY]; exact c4
    have hk := hu.unask (y := s.cl id) c1 hst3
    rw [hpn3] at hk
    have hd := hk.drop (x := id) (by dsimp only; rw [updI_ne (Ne.symm c2)]; omega) hr0 (by dsimp only; rw [updI_same]) (by dsimp only; rw [updI_ne (Ne.symm c2)]; omega)
    have hg : goneL s id = (s.row id).map (·.fr) ++ [s.cl id] := by rw [goneL, if_pos hc]
    rw [hg]
    refine hd.ext rfl fun x hx => ?_
    have hx : x ∈ s.ids ∧ x ≠ id := by simpa [unL, frL] using hx
    dsimp only [dropS, frL, rowS, unL]
    refine ⟨?_, ?_, ?_, ?_⟩
    · by_cases e : x = s.cl id
      · rw [e, updI_same, if_pos (by simp)]
      · rw [updI_ne e]
        by_cases hm : x ∈ (s.row id).map (·.fr)
        · rw [if_pos (List.mem_append.2 (.inl hm)), if_pos hm]
        · rw [if_neg (fun h2 => (List.mem_append.1 h2).elim hm fun h3 => e (List.mem_singleton.1 h3)), if_neg hm]
    · rw [updI_ne hx.2]
    · by_cases e : x = s.cl id
      · rw [e, updI_same, if_pos (by simp)]
      · rw [updI_ne e]
        by_cases hm : x ∈ (s.row id).map (·.fr)
        · rw [if_pos (List.mem_append.2 (.inl hm)), if_pos hm]
        · rw [if_neg (fun h2 => (List.mem_append.1 h2).elim hm fun h3 => e (List.mem_singleton.1 h3)), if_neg hm]
    · rw [updI_ne hx.2]
      exact (h.others hx.1 hYp hx.2).symm
theorem WM.leave {s : MS} (h : WM s) (id : Int) : WM (leaveS s id).1 := by
  rw [leaveS]
  split
  · exact h
  · rename_i hi
    have hi := Decidable.not_not.1 hi
    have h2 := call_st s id hi
    exact (h.call id).leave1 (by rw [h2.2]; exact hi) h2.1
end Go.Proofs.Ytdfmfhcjnjfjbaa
