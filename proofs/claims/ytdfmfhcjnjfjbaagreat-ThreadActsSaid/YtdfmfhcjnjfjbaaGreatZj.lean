/-
  Proved here: what functions of this program compute, each as a contract over symbolic states, under the premises that each theorem names (most lines printed by a program of the prover).
-/
import Derived.Test.YtdfmfhcjnjfjbaaGreatZi
namespace Go.Proofs.YtdfmfhcjnjfjbaaGreat
open Go Go.QM
theorem nodup_sub_len {l m : List Int} (h : l.Nodup) (hs : ∀ x ∈ l, x ∈ m) : l.length ≤ m.length := by
  induction l generalizing m with
  | nil => simp
  | cons a l ih =>
    obtain ⟨h1, h2⟩ := List.nodup_cons.1 h
    obtain ⟨s, t, rfl⟩ := List.append_of_mem (hs a (by simp))
    have := ih (m := s ++ t) h2 (fun x hx => by
      have h3 := hs x (by simp [hx])
      have h4 : x ≠ a := fun e => h1 (e ▸ hx)
      simp at h3 ⊢
      rcases h3 with h3 | h3 | h3
      · exact .inl h3
      · exact absurd h3 h4
      · exact .inr h3)
    simp at this ⊢; omega
structure WM (s : MS) : Prop where
  nd : s.ids.Nodup
  ge : ∀ x ∈ s.ids, 0 ≤ x
  rg : ∀ x ∈ s.ids, s.st x = 0 ∨ s.st x = 1 ∨ s.st x = 2 ∨ s.st x = 3
  row : ∀ x ∈ s.ids, ∀ o ∈ s.row x, o.fr ∈ s.ids ∧ o.fr ≠ x ∧ s.st o.fr = 1 ∧ s.pn o.fr = x
  nr : ∀ x ∈ s.ids, ((s.row x).map (·.fr)).Nodup
  snd : ∀ x ∈ s.ids, s.st x = 1 → s.pn x ∈ s.ids ∧ ∃ o ∈ s.row (s.pn x), o.fr = x
  cal : ∀ x ∈ s.ids, s.cl x ≠ -1 → s.cl x ∈ s.ids ∧ s.cl x ≠ x ∧ s.st (s.cl x) = 3 ∧ s.pn (s.cl x) = x
  ask : ∀ x ∈ s.ids, s.st x = 3 → s.pn x ∈ s.ids ∧ s.cl (s.pn x) = x
  idle : ∀ x ∈ s.ids, s.st x ≠ 1 → s.st x ≠ 3 → s.pn x = -1
theorem WM.zero : WM s0 := ⟨List.nodup_nil, fun _ h => (List.not_mem_nil h).elim, fun _ h => (List.not_mem_nil h).elim, fun _ h => (List.not_mem_nil h).elim, fun _ h => (List.not_mem_nil h).elim, fun _ h => (List.not_mem_nil h).elim, fun _ h => (List.not_mem_nil h).elim, fun _ h => (List.not_mem_nil h).elim, fun _ h => (List.not_mem_nil h).elim⟩
theorem WM.ext {s t : MS} (h : WM s) (hi : t.ids = s.ids) (h1 : ∀ x ∈ s.ids, t.st x = s.st x ∧ t.cl x = s.cl x ∧ t.pn x = s.pn x ∧ t.row x = s.row x) : WM t where
  nd := by rw [hi]; exact h.nd
  ge := by rw [hi]; exact h.ge
  rg := fun x hx => by rw [hi] at hx; rw [(h1 x hx).1]; exact h.rg x hx
  row := fun x hx o ho => by
    rw [hi] at hx; rw [(h1 x hx).2.2.2] at ho
    have := h.row x hx o ho
    rw [hi, (h1 _ this.1).1, (h1 _ this.1).2.2.1]; exact this
  nr := fun x hx => by rw [hi] at hx; rw [(h1 x hx).2.2.2]; exact h.nr x hx
  snd := fun x hx hs => by
    rw [hi] at hx; rw [(h1 x hx).1] at hs
    have := h.snd x hx hs
    rw [hi, (h1 x hx).2.2.1, (h1 _ this.1).2.2.2]; exact this
  cal := fun x hx hc => by
    rw [hi] at hx; rw [(h1 x hx).2.1] at hc
    have := h.cal x hx hc
    rw [hi, (h1 x hx).2.1, (h1 _ this.1).1, (h1 _ this.1).2.2.1]; exact this
  ask := fun x hx hs => by
    rw [hi] at hx; rw [(h1 x hx).1] at hs
    have := h.ask x hx hs
    rw [hi, (h1 x hx).2.2.1, (h1 _ this.1).2.1]; exact this
  idle := fun x hx a b => by
    rw [hi] at hx; rw [(h1 x hx).1] at a b
    rw [(h1 x hx).2.2.1]; exact h.idle x hx a b
def frL (s : MS) (Y : List Int) : MS := { s with st := fun x => if x ∈ Y then 0 else s.st x, pn := fun x => if x ∈ Y then -1 else s.pn x }
theorem foldl_fr (Y : List Int) : ∀ s : MS, Y.foldl frS s = frL s Y := by
  induction Y with
  | nil => intro s; simp [frL]
  | cons y Y ih =>
    intro s
    rw [List.foldl_cons, ih, frL, frL]
    simp only [frS, MS.mk.injEq, true_and]
    constructor
    · funext x
      by_cases h : x ∈ Y
      · rw [if_pos h, if_pos (by simp [h])]
      · rw [if_neg h]
        by_cases e : x = y
        · rw [if_pos (by simp [e]), e, updI_same]
        · rw [if_neg (by simp [e, h]), updI_ne e]
    · constructor
      · funext x
        by_cases h : x ∈ Y
        · rw [if_pos h, if_pos (by simp [h])]
        · rw [if_neg h]
          by_cases e : x = y
          · rw [if_pos (by simp [e]), e, updI_same]
          · rw [if_neg (by simp [e, h]), updI_ne e]
      · trivial
def unL (s : MS) (Y : List Int) : MS := { frL s Y with row := fun x => (s.row x).filter fun o => decide (o.fr ∉ Y) }
theorem WM.un {s : MS} (h : WM s) (Y : List Int) (hY : ∀ y ∈ Y, y ∈ s.ids ∧ s.st y = 1) : WM (unL s Y) where
  nd := h.nd
  ge := h.ge
  rg := fun x hx => by
    show (if x ∈ Y then (0 : Int) else s.st x) = 0 ∨ _
    have := h.rg x hx
    dsimp only [unL, frL]
    split
    · exact .inl rfl
    · exact this
  row := fun x hx o ho => by
    obtain ⟨ho1, ho2⟩ := List.mem_filter.1 ho
    have ho2 : o.fr ∉ Y := by simpa using ho2
    have := h.row x hx o ho1
    dsimp only [unL, frL]
    rw [if_neg ho2, if_neg ho2]; exact this
  nr := fun x hx => (h.nr x hx).sublist (List.filter_sublist.map _)
  snd := fun x hx hs => by
    dsimp only [unL, frL] at hs ⊢
    by_cases hm : x ∈ Y
    · rw [if_pos hm] at hs; cases hs
    · rw [if_neg hm] at hs ⊢
      obtain ⟨h1, o, h2, h3⟩ := h.snd x hx hs
      exact ⟨h1, o, List.mem_filter.2 ⟨h2, by rw [h3]; simpa using hm⟩, h3⟩
  cal := fun x hx hc => by
    obtain ⟨h1, h2, h3, h4⟩ := h.cal x hx hc
    have hm : s.cl x ∉ Y := fun hm => by have := (hY _ hm).2; omega
    dsimp only [unL, frL]
    rw [if_neg hm, if_neg hm]; exact ⟨h1, h2, h3, h4⟩
  ask := fun x hx hs => by
    dsimp only [unL, frL] at hs ⊢
    by_cases hm : x ∈ Y
    · rw [if_pos hm] at hs; cases hs
    · rw [if_neg hm] at hs ⊢; exact h.ask x hx hs
  idle := fun x hx a b => by
    dsimp only [unL, frL] at a b ⊢
    by_cases hm : x ∈ Y
    · rw [if_pos hm]
    · rw [if_neg hm] at a b ⊢; exact h.idle x hx a b
theorem WM.unask {s : MS} (h : WM s) {y : Int} (hy : y ∈ s.ids) (hs : s.st y = 3) : WM ⟨s.ids, updI s.st y 0, updI s.cl (s.pn y) (-1), updI s.pn y (-1), s.row⟩ where
  nd := h.nd
  ge := h.ge
  rg := fun x hx => by
    dsimp only
    by_cases e : x = y
    · rw [e, updI_same]; exact .inl rfl
    · rw [updI_ne e]; exact h.rg x hx
  row := fun x hx o ho => by
    have := h.row x hx o ho
    have e : o.fr ≠ y := fun e => by rw [e] at this; omega
    dsimp only
    rw [updI_ne e, updI_ne e]; exact this
  nr := h.nr
  snd := fun x hx hst => by
    dsimp only at hst ⊢
    by_cases e : x = y
    · rw [e, updI_same] at hst; cases hst
    · rw [updI_ne e] at hst ⊢; exact h.snd x hx hst
  cal := fun x hx hc => by
    dsimp only at hc ⊢
    by_cases e : x = s.pn y
    · rw [e, updI_same] at hc; exact absurd rfl hc
    · rw [updI_ne e] at hc ⊢
      have := h.cal x hx hc
      have e2 : s.cl x ≠ y := fun e2 => by rw [e2] at this; exact e this.2.2.2.symm
      rw [updI_ne e2, updI_ne e2]; exact this
  ask := fun x hx hst => by
    dsimp only at hst ⊢
    by_cases e : x = y
    · rw [e, updI_same] at hst; cases hst
    · rw [updI_ne e] at hst ⊢
      have h1 := h.ask x hx hst
      have h2 := h.ask y hy hs
      have e2 : s.pn x ≠ s.pn y := fun e2 => e (by rw [← h1.2, e2, h2.2])
      rw [updI_ne e2]; exact h1
  idle := fun x hx a b => by
    dsimp only at a b ⊢
    by_cases e : x = y
    · rw [e, updI_same]
    · rw [updI_ne e] at a b ⊢; exact h.idle x hx a b
theorem WM.set {s : MS} (h : WM s) {y v : Int} (hs : s.st y ≠ 1 ∧ s.st y ≠ 3) (hp : s.pn y = -1) (hv : v = 0 ∨ v = 2) : WM (stS s y v) where
  nd := h.nd
  ge := h.ge
  rg := fun x hx => by
    dsimp only [stS]
    by_cases e : x = y
    · rw [e, updI_same]; omega
    · rw [updI_ne e]; exact h.rg x hx
  row := fun x hx o ho => by
    have := h.row x hx o ho
    have e : o.fr ≠ y := fun e => by rw [e] at this; omega
    dsimp only [stS]
    rw [updI_ne e]; exact this
  nr := h.nr
  snd := fun x hx hst => by
    dsimp only [stS] at hst ⊢
    by_cases e : x = y
    · rw [e, updI_same] at hst; omega
    · rw [updI_ne e] at hst; exact h.snd x hx hst
  cal := fun x hx hc => by
    have := h.cal x hx hc
    have e : s.cl x ≠ y := fun e => by rw [e] at this; omega
    dsimp only [stS]
    rw [updI_ne e]; exact this
  ask := fun x hx hst => by
    dsimp only [stS] at hst ⊢
    by_cases e : x = y
    · rw [e, updI_same] at hst; omega
    · rw [updI_ne e] at hst; exact h.ask x hx hst
  idle := fun x hx a b => by
    dsimp only [stS] at a b ⊢
    by_cases e : x = y
    · rw [e]; exact hp
    · rw [updI_ne e] at a b; exact h.idle x hx a b
theorem WM.send {s : MS} (h : WM s) {to : Int} {o : Off} (hf : o.fr ∈ s.ids) (ht : to ∈ s.ids) (hne : o.fr ≠ to) (hs : s.st o.fr = 0) : WM (pushS (wtS s o.fr 1 to) to o) where
  nd := h.nd
  ge := h.ge
  rg := fun x hx => by
    dsimp only [pushS, wtS]
    by_cases e : x = o.fr
    · rw [e, updI_same]; omega
    · rw [updI_ne e]; exact h.rg x hx
  row := fun x hx u hu => by
    dsimp only [pushS, wtS] at hu ⊢
    have old : u ∈ s.row x → u.fr ∈ s.ids ∧ u.fr ≠ x ∧ updI s.st o.fr 1 u.fr = 1 ∧ updI s.pn o.fr to u.fr = x := fun hu => by
      have := h.row x hx u hu
      have e : u.fr ≠ o.fr := fun e => by rw [e] at this; omega
      rw [updI_ne e, updI_ne e]; exact this
    by_cases e : x = to
    · subst e
      rw [updI_same] at hu
      rcases List.mem_append.1 hu with hu | hu
      · exact old hu
      · rw [List.mem_singleton.1 hu, updI_same, updI_same]; exact ⟨hf, hne, rfl, rfl⟩
    · rw [updI_ne e] at hu; exact old hu
  nr := fun x hx => by
    dsimp only [pushS, wtS]
    by_cases e : x = to
    · subst e
      rw [updI_same, List.map_append, List.nodup_append]
      refine ⟨h.nr x hx, by simp, fun a ha c hc e2 => ?_⟩
      obtain ⟨u, hu, rfl⟩ := List.mem_map.1 ha
      have := h.row x hx u hu
      simp only [List.map_cons, List.map_nil, List.mem_singleton] at hc
      rw [e2, hc] at this; omega
    · rw [updI_ne e]; exact h.nr x hx
  snd := fun x hx hst => by
    dsimp only [pushS, wtS] at hst ⊢
    by_cases e : x = o.fr
    · subst e
      rw [updI_same, updI_same]; exact ⟨ht, o, by simp, rfl⟩
    · rw [updI_ne e] at hst ⊢
      obtain ⟨h1, u, h2, h3⟩ := h.snd x hx hst
      refine ⟨h1, u, ?_, h3⟩
      by_cases e2 : s.pn x = to
      · rw [e2, updI_same]; rw [e2] at h2; exact List.mem_append.2 (.inl h2)
      · rw [updI_ne e2]; exact h2
  cal := fun x hx hc => by
    have := h.cal x hx hc
    have e : s.cl x ≠ o.fr := fun e => by rw [e] at this; omega
    dsimp only [pushS, wtS]
    rw [updI_ne e, updI_ne e]; exact this
  ask := fun x hx hst => by
    dsimp only [pushS, wtS] at hst ⊢
    by_cases e : x = o.fr
    · rw [e, updI_same] at hst; omega
    · rw [updI_ne e] at hst ⊢; exact h.ask x hx hst
  idle := fun x hx a b => by
    dsimp only [pushS, wtS] at a b ⊢
    by_cases e : x = o.fr
    · rw [e, updI_same] at a; exact absurd rfl a
    · rw [updI_ne e] at a b ⊢; exact h.idle x hx a b
theorem WM.link {s : MS} (h : WM s) {to f : Int} (hf : f ∈ s.ids) (ht : to ∈ s.ids) (hne : f ≠ to) (hs : s.st f = 0) (hc : s.cl to = -1) : WM (wtS (clS s to f) f 3 to) where
  nd := h.nd
  ge := h.ge
  rg := fun x hx => by
    dsimp only [clS, wtS]
    by_cases e : x = f
    · rw [e, updI_same]; omega
    · rw [updI_ne e]; exact h.rg x hx
  row := fun x hx u hu => by
    have := h.row x hx u hu
    have e : u.fr ≠ f := fun e => by rw [e] at this; omega
    dsimp only [clS, wtS]
    rw [updI_ne e, updI_ne e]; exact this
  nr := h.nr
  snd := fun x hx hst => by
    dsimp only [clS, wtS] at hst ⊢
    by_cases e : x = f
    · rw [e, updI_same] at hst; omega
    · rw [updI_ne e] at hst ⊢; exact h.snd x hx hst
  cal := fun x hx hc2 => by
    dsimp only [clS, wtS] at hc2 ⊢
    by_cases e : x = to
    · subst e
      rw [updI_same, updI_same, updI_same]; exact ⟨hf, hne, rfl, rfl⟩
    · rw [updI_ne e] at hc2 ⊢
      have := h.cal x hx hc2
      have e2 : s.cl x ≠ f := fun e2 => by rw [e2] at this; omega
      rw [updI_ne e2, updI_ne e2]; exact this
  ask := fun x hx hst => by
    dsimp only [clS, wtS] at hst ⊢
    by_cases e : x = f
    · subst e; rw [updI_same, updI_same]; exact ⟨ht, rfl⟩
    · rw [updI_ne e] at hst ⊢
      have h1 := h.ask x hx hst
      have e2 : s.pn x ≠ to := fun e2 => by have := h.ge x hx; rw [e2] at h1; omega
      rw [updI_ne e2]; exact h1
  idle := fun x hx a b => by
    dsimp only [clS, wtS] at a b ⊢
    by_cases e : x = f
    · rw [e, updI_same] at b; exact absurd rfl b
    · rw [updI_ne e] at a b ⊢; exact h.idle x hx a b
theorem WM.join {s : MS} (h : WM s) (x : Int) : WM (joinS s x) := by
  rw [joinS]
  split
  · exact h
  · rename_i hx
    have hn : x ∉ s.ids := fun h2 => hx (.inl h2)
    have h0 : 0 ≤ x := by omega
    have ne : ∀ y ∈ s.ids, y ≠ x := fun y hy e => hn (e ▸ hy)
    have cases_ : ∀ y, y ∈ s.ids ++ [x] → y ∈ s.ids ∨ y = x := fun y hy => by simpa using hy
    have mem : ∀ y, y ∈ s.ids → y ∈ s.ids ++ [x] := fun y hy => by simp [hy]
    refine ⟨List.nodup_append.2 ⟨h.nd, by simp, fun a ha c hc e => ne a ha (by rw [e]; simpa using hc)⟩, fun y hy => ?_, fun y hy => ?_, fun y hy o ho => ?_, fun y hy => ?_, fun y hy hst => ?_, fun y hy hc => ?_, fun y hy hst => ?_, fun y hy a b => ?_⟩
    · rcases cases_ y hy with hy | rfl
      · exact h.ge y hy
      · exact h0
    · dsimp only
      rcases cases_ y hy with hy | rfl
      · rw [updI_ne (ne y hy)]; exact h.rg y hy
      · rw [updI_same]; exact .inl rfl
    · dsimp only at ho ⊢
      rcases cases_ y hy with hy | rfl
      · rw [updI_ne (ne y hy)] at ho
        have := h.row y hy o ho
        rw [updI_ne (ne _ this.1), updI_ne (ne _ this.1)]; exact ⟨mem _ this.1, this.2⟩
      · rw [updI_same] at ho; cases ho
    · dsimp only
      rcases cases_ y hy with hy | rfl
      · rw [updI_ne (ne y hy)]; exact h.nr y hy
      · rw [updI_same]; exact List.nodup_nil
    · dsimp only at hst ⊢
      rcases cases_ y hy with hy | rfl
      · rw [updI_ne (ne y hy)] at hst ⊢
        have := h.snd y hy hst
        rw [updI_ne (ne _ this.1)]; exact ⟨mem _ this.1, this.2⟩
      · rw [updI_same] at hst; cases hst
    · dsimp only at hc ⊢
      rcases cases_ y hy with hy | rfl
      · rw [updI_ne (ne y hy)] at hc ⊢
        have := h.cal y hy hc
        rw [updI_ne (ne _ this.1), updI_ne (ne _ this.1)]; exact ⟨mem _ this.1, this.2⟩
      · rw [updI_same] at hc; exact absurd rfl hc
    · dsimp only at hst ⊢
      rcases cases_ y hy with hy | rfl
      · rw [updI_ne (ne y hy)] at hst ⊢
        have := h.ask y hy hst
        rw [updI_ne (ne _ this.1)]; exact ⟨mem _ this.1, this.2⟩
      · rw [updI_same] at hst; cases hst
    · dsimp only at a b ⊢
      rcases cases_ y hy with hy | rfl
      · rw [updI_ne (ne y hy)] at a b ⊢; exact h.idle y hy a b
      · rw [updI_same]
theorem WM.drop {s : MS} (h : WM s) {x : Int} (hs : s.st x ≠ 1) (hr : s.row x = []) (hc : s.cl x = -1) (hs3 : s.st x ≠ 3) : WM { s with ids := s.ids.filter fun y => decide (y ≠ x) } := by
  have m1 : ∀ y, y ∈ s.ids.filter (fun y => decide (y ≠ x)) → y ∈ s.ids ∧ y ≠ x := fun y hy => by simpa using hy
  have m2 : ∀ y, y ∈ s.ids → y ≠ x → y ∈ s.ids.filter (fun y => decide (y ≠ x)) := fun y hy e => by simp [hy, e]
  refine ⟨h.nd.sublist List.filter_sublist, fun y hy => h.ge y (m1 y hy).1, fun y hy => h.rg y (m1 y hy).1, fun y hy o ho => ?_, fun y hy => h.nr y (m1 y hy).1, fun y hy hst => ?_, fun y hy hcl => ?_, fun y hy hst => ?_, fun y hy a b => h.idle y (m1 y hy).1 a b⟩
  · have := h.row y (m1 y hy).1 o ho
    exact ⟨m2 _ this.1 (fun e => by rw [e] at this; exact hs this.2.2.1), this.2⟩
  · have := h.snd y (m1 y hy).1 hst
    refine ⟨m2 _ this.1 (fun e => ?_), this.2⟩
    obtain ⟨_, o, ho, _⟩ := this
    rw [e, hr] at ho; cases ho
  · have := h.cal y (m1 y hy).1 hcl
    exact ⟨m2 _ this.1 (fun e => by dsimp only at e; rw [e] at this; exact hs3 this.2.2.1), this.2⟩
  · have := h.ask y (m1 y hy).1 hst
    refine ⟨m2 _ this.1 (fun e => ?_), this.2⟩
    have h0 := h.ge y (m1 y hy).1
    dsimp only at e
    rw [e, hc] at this; omega
theorem rowlen {s : MS} (h : WM s) {x : Int} (hx : x ∈ s.ids) : (s.row x).length ≤ s.ids.length := by
  have : ((s.row x).map (·.fr)).length ≤ s.ids.length := by
    refine nodup_sub_len (h.nr x hx) fun y hy => ?_
    obtain ⟨o, ho, rfl⟩ := List.mem_map.1 hy
    exact (h.row x hx o ho).1
  simpa using this
theorem rowRlen {s : MS} (h : WM s) (x : Int) : (rowR s x).length ≤ s.ids.length := by
  rw [rowR]; split
  · rename_i hx; exact rowlen h hx
  · simp
theorem WM.offer {s : MS} (h : WM s) (to : Int) (o : Off) : WM (offS s to o).1 := by
  rw [offS]
  split
  · exact h
  · rename_i h1
    simp only [not_or, Decidable.not_not] at h1
    split
    · exact h
    · rename_i h2
      split
      · exact h
      · rename_i h3
        exact h.send h1.2 h1.1 h2 (Decidable.not_not.1 h3)
theorem WM.opens {s : MS} (h : WM s) (id : Int) : WM (openS s id).1 := by
  rw [openS]
  split
  · exact h
  · rename_i h1
    split
    · exact h
    · rename_i h2
      have h1 := Decidable.not_not.1 h1
      simp only [not_or, Decidable.not_not] at h2
      exact h.set (by omega) (h.idle id h1 (by omega) (by omega)) (.inr rfl)
def takeS (s : MS) (to : Int) : MS × Off × Int × Int :=
  if to ∉ s.ids then (s, o0, 0, 6) else if s.st to ≠ 0 ∧ s.st to ≠ 2 then (s, o0, 0, 12) else
  match s.row to with
  | [] => (s, o0, 0, 6)
  | o :: r =>
    if o.cl = true then
      (if s.cl to ≠ -1 then wtS (clS (frS (frS (frS (rowS s to r) to) o.fr) (s.cl to)) to o.fr) o.fr 3 to else wtS (clS (frS (frS (rowS s to r) to) o.fr) to o.fr) o.fr 3 to, o, s.cl to, 0)
    else (frS (frS (rowS s to r) to) o.fr, o, -1, 0)
theorem filter_head {o : Off} {r : List Off} (h : ((o :: r).map (·.fr)).Nodup) : (o :: r).filter (fun u => decide (u.fr ∉ [o.fr])) = r := by
  rw [List.map_cons, List.nodup_cons] at h
  rw [List.filter_cons_of_neg (by simp)]
  refine List.filter_eq_self.2 fun u hu => ?_
  simp only [List.mem_singleton, decide_eq_true_eq]
  exact fun e => h.1 (List.mem_map.2 ⟨u, hu, e⟩)
theorem WM.others {s : MS} (h : WM s) {x y : Int} (hx : x ∈ s.ids) {Y : List Int} (hY : ∀ z ∈ Y, s.pn z = y) (hne : x ≠ y) : (s.row x).filter (fun u => decide (u.fr ∉ Y)) = s.row x := by
  refine List.filter_eq_self.2 fun u hu => ?_
  simp only [decide_eq_true_eq]
  intro hm
  have h1 := (h.row x hx u hu).2.2.2
  have h2 := hY _ hm
  exact hne (by rw [← h1, h2])
theorem take_base {s : MS} (h : WM s) {to : Int} (ht : to ∈ s.ids) (hs : s.st to = 0 ∨ s.st to = 2) {o : Off} {r : List Off} (hr : s.row to = o :: r) : WM (frS (frS (rowS s to r) to) o.fr) := by
  obtain ⟨h1, h2, h3, h4⟩ := h.row to ht o (by rw [hr]; simp)
  have hp := h.idle to ht (by omega) (by omega)
  have hu := h.un [o.fr] (fun y hy => by rw [List.mem_singleton.1 hy]; exact ⟨h1, h3⟩)
  have hne : to ∉ [o.fr] := by simpa using fun e => h2 e.symm
  have hv := hu.set (y := to) (v := 0) (by dsimp only [unL, frL]; rw [if_neg hne]; omega) (by dsimp only [unL, frL]; rw [if_neg hne]; exact hp) (.inl rfl)
  refine hv.ext rfl fun x hx => ?_
  have hx : x ∈ s.ids := hx
  dsimp only [frS, rowS, stS, unL, frL]
  refine ⟨?_, rfl, ?_, ?_⟩
  · by_cases e1 : x = o.fr
    · subst e1; rw [updI_same, updI_ne h2, if_pos (by simp)]
    · rw [updI_ne e1]
      by_cases e2 : x = to
      · subst e2; rw [updI_same, updI_same]
      · rw [updI_ne e2, updI_ne e2, if_neg (by simpa using e1)]
  · by_cases e1 : x = o.fr
    · subst e1; rw [updI_same, if_pos (by simp)]
    · rw [updI_ne e1, if_neg (by simpa using e1)]
      by_cases e2 : x = to
      · subst e2; rw [updI_same, hp]
      · rw [updI_ne e2]
  · by_cases e2 : x = to
    · subst e2; rw [updI_same, hr]
      have := h.nr x hx
      rw [hr] at this
      exact (filter_head this).symm
    · rw [updI_ne e2]
      exact (h.others hx (fun z hz => by rw [List.mem_singleton.1 hz]; exact h4) e2).symm
theorem WM.take {s : MS} (h : WM s) (to : Int) : WM (takeS s to).1 := by
  rw [takeS]
  split
  · exact h
  · rename_i ht
    have ht := Decidable.not_not.1 ht
    split
    · exact h
    · rename_i hs
      have hs : s.st to = 0 ∨ s.st to = 2 := by omega
      split
      · exact h
      · rename_i o r hr
        have hb := take_base h ht hs hr
        obtain ⟨h1, h2, h3, h4⟩ := h.row to ht o (by rw [hr]; simp)
        split
        · split
          · rename_i hc
            obtain ⟨c1, c2, c3, c4⟩ := h.cal to ht hc
            have ce : s.cl to ≠ o.fr := fun e => by rw [e] at c3; omega
            have hst : (frS (frS (rowS s to r) to) o.fr).st (s.cl to) = 3 := by
              dsimp only [frS, rowS]; rw [updI_ne ce, updI_ne c2]; exact c3
            have hpn : (frS (frS (rowS s to r) to) o.fr).pn (s.cl to) = to := by
              dsimp only [frS, rowS]; rw [updI_ne ce, updI_ne c2]; exact c4
            have hk := hb.unask (y := s.cl to) c1 hst
            rw [hpn] at hk
            have hl := hk.link (to := to) (f := o.fr) h1 ht h2 (by dsimp only [frS, rowS]; rw [updI_ne (Ne.symm ce), updI_same]) (by dsimp only; rw [updI_same])
            refine hl.ext rfl fun x hx => ⟨rfl, ?_, rfl, rfl⟩
            dsimp only [wtS, clS, frS, rowS]
            by_cases e : x = to
            · rw [e, updI_same, updI_same]
            · rw [updI_ne e, updI_ne e, updI_ne e]
          · rename_i hc
            have hc : s.cl to = -1 := Decidable.not_not.1 hc
            exact hb.link h1 ht h2 (by dsimp only [frS, rowS]; rw [updI_same]) hc
        · exact hb
def ansS (s : MS) (id : Int) : MS × Int × Int :=
  if id ∉ s.ids then (s, 0, 6) else if s.st id ≠ 0 then (s, 0, 12) else if s.cl id = -1 then (s, 0, 6) else (frS (clS s id (-1)) (s.cl id), s.cl id, 0)
theorem WM.answer {s : MS} (h : WM s) (id : Int) : WM (ansS s id).1 := by
  rw [ansS]
  split
  · exact h
  · rename_i hi
    split
    · exact h
    · split
      · exact h
      · rename_i hc
        obtain ⟨c1, c2, c3, c4⟩ := h.cal id (Decidable.not_not.1 hi) hc
        have hk := h.unask c1 c3
        rw [c4] at hk
        exact hk
def callS (s : MS) (id : Int) : MS × Int :=
  if id ∉ s.ids then (s, 6) else if s.st id = 0 then (s, 12) else
  if s.st id = 1 then (frS (cutMS s (s.pn id) fun o => decide (o.fr = id)) id, 0) else if s.st id = 3 then (frS (clS s (s.pn id) (-1)) id, 0) else (frS s id, 0)
theorem WM.call {s : MS} (h : WM s) (id : Int) : WM (callS s id).1 := by
  rw [callS]
  split
  · exact h
  · rename_i hi
    have hi := Decidable.not_not.1 hi
    split
    · exact h
    · rename_i h0
      split
      · rename_i h1
        have hu := h.un [id] (fun y hy => by rw [List.mem_singleton.1 hy]; exact ⟨hi, h1⟩)
        refine hu.ext rfl fun x hx => ?_
        have hx : x ∈ s.ids := hx
        dsimp only [frS, cutMS, rowS, unL, frL]
        refine ⟨?_, rfl, ?_, ?_⟩
        · by_cases e : x = id
          · rw [e, updI_same, if_pos (by simp)]
          · rw [updI_ne e, if_neg (by simpa using e)]
        · by_cases e : x = id
          · rw [e, updI_same, if_pos (by simp)]
          · rw [updI_ne e, if_neg (by simpa using e)]
        · by_cases e : x = s.pn id
          · rw [e, updI_same]
            refine List.filter_congr fun u _ => ?_
            simp [notO]
          · rw [updI_ne e]
            exact (h.others hx (fun z hz => by rw [List.mem_singleton.1 hz]) e).symm
      · rename_i h1
        split
        · rename_i h3
          exact h.unask hi h3
        · rename_i h3
          have hp := h.idle id hi h1 h3
          refine (h.set (y := id) (v := 0) ⟨h1, h3⟩ hp (.inl rfl)).ext rfl fun x _ => ⟨rfl, rfl, ?_, rfl⟩
          dsimp only [frS, stS]
          by_cases e : x = id
          · rw [e, updI_same, hp]
          · rw [updI_ne e]
theorem call_st (s : MS) (id : Int) (h : id ∈ s.ids) : (callS s id).1.st id = 0 ∧ (callS s id).1.ids = s.ids := by
  rw [callS, if_neg (fun h2 => h2 h)]
  split
  · rename_i h0; exact ⟨h0, rfl⟩
  · split
    · exact ⟨updI_same _ _ _, rfl⟩
    · split
      · exact ⟨updI_same _ _ _, rfl⟩
      · exact ⟨updI_same _ _ _, rfl⟩
def goneL (s : MS) (id : Int) : List Int := (s.row id).map (·.fr) ++ if s.cl id ≠ -1 then [s.cl id] else []
def dropS (s : MS) (id : Int) : MS := { s with ids := s.ids.filter fun y => decide (y ≠ id) }
def leaveS (s : MS) (id : Int) : MS × List Int × Int :=
  if id ∉ s.ids then (s, [], 6) else (dropS (frL (rowS (callS s id).1 id []) (goneL (callS s id).1 id)) id, goneL (callS s id).1 id, 0)
theorem gone_mem {s : MS} (h : WM s) {id : Int} (hi : id ∈ s.ids) {x : Int} (hx : x ∈ goneL s id) : x ∈ s.ids ∧ x ≠ id ∧ s.pn x = id ∧ (s.st x = 1 ∨ s.st x = 3) := by
  rcases List.mem_append.1 hx with hx | hx
  · obtain ⟨o, ho, rfl⟩ := List.mem_map.1 hx
    have := h.row id hi o ho
    exact ⟨this.1, this.2.1, this.2.2.2, .inl this.2.2.1⟩
  · split at hx
    · rename_i hc
      rw [List.mem_singleton.1 hx]
      have := h.cal id hi hc
      exact ⟨this.1, this.2.1, this.2.2.2, .inr this.2.2.1⟩
    · cases hx
theorem WM.leave1 {s : MS} (h : WM s) {id : Int} (hi : id ∈ s.ids) (hs : s.st id = 0) : WM (dropS (frL (rowS s id []) (goneL s id)) id) := by
  have hY : ∀ y ∈ (s.row id).map (·.fr), y ∈ s.ids ∧ s.st y = 1 := fun y hy => by
    obtain ⟨o, ho, rfl⟩ := List.mem_map.1 hy
    have := h.row id hi o ho
    exact ⟨this.1, this.2.2.1⟩
  have hYp : ∀ y ∈ (s.row id).map (·.fr), s.pn y = id := fun y hy => by
    obtain ⟨o, ho, rfl⟩ := List.mem_map.1 hy
    exact (h.row id hi o ho).2.2.2
  have hu := h.un _ hY
  have hin : id ∉ (s.row id).map (·.fr) := fun hm => by have := (hY _ hm).2; omega
  have hr0 : (unL s ((s.row id).map (·.fr))).row id = [] := by
    dsimp only [unL]
    refine List.filter_eq_nil_iff.2 fun o ho => ?_
    simp only [decide_eq_true_eq, Decidable.not_not]
    exact List.mem_map.2 ⟨o, ho, rfl⟩
  have hst0 : (unL s ((s.row id).map (·.fr))).st id = 0 := by dsimp only [unL, frL]; rw [if_neg hin]; exact hs
  by_cases hc : s.cl id = -1
  · have hd := hu.drop (x := id) (by omega) hr0 hc (by omega)
    have hg : goneL s id = (s.row id).map (·.fr) := by rw [goneL, if_neg (fun h => h hc), List.append_nil]
    rw [hg]
    refine hd.ext rfl fun x hx => ⟨rfl, rfl, rfl, ?_⟩
    have hx : x ∈ s.ids ∧ x ≠ id := by simpa [unL, frL] using hx
    dsimp only [dropS, frL, rowS, unL]
    rw [updI_ne hx.2]
    exact (h.others hx.1 hYp hx.2).symm
  · obtain ⟨c1, c2, c3, c4⟩ := h.cal id hi hc
    have hcY : s.cl id ∉ (s.row id).map (·.fr) := fun hm => by have := (hY _ hm).2; omega
    have hst3 : (unL s ((s.row id).map (·.fr))).st (s.cl id) = 3 := by dsimp only [unL, frL]; rw [if_neg hcY]; exact c3
    have hpn3 : (unL s ((s.row id).map (·.fr))).pn (s.cl id) = id := by dsimp only [unL, frL]; rw [if_neg hcY]; exact c4
    have hk := hu.unask (y := s.cl id) c1 hst3
    rw [hpn3] at hk
    have hd := hk.drop (x := id) (by dsimp only; rw [updI_ne (Ne.symm c2)]; omega) hr0 (by dsimp only; rw [updI_same]) (by dsimp only; rw [updI_ne (Ne.symm c2)]; omega)
    have hg : goneL s id = (s.row id).map (·.fr) ++ [s.cl id] := by rw [goneL, if_pos hc]
    rw [hg]
    refine hd.ext rfl fun x hx => ?_
    have hx : x ∈ s.ids ∧ x ≠ id := by simpa [unL, frL] using hx
    dsimp only [dropS, frL, rowS, unL]
    refine ⟨?_, ?_, ?_, ?_⟩
    · by_cases e : x = s.cl id
      · rw [e, updI_same, if_pos (by simp)]
      · rw [updI_ne e]
        by_cases hm : x ∈ (s.row id).map (·.fr)
        · rw [if_pos (List.mem_append.2 (.inl hm)), if_pos hm]
        · rw [if_neg (fun h2 => (List.mem_append.1 h2).elim hm fun h3 => e (List.mem_singleton.1 h3)), if_neg hm]
    · rw [updI_ne hx.2]
    · by_cases e : x = s.cl id
      · rw [e, updI_same, if_pos (by simp)]
      · rw [updI_ne e]
        by_cases hm : x ∈ (s.row id).map (·.fr)
        · rw [if_pos (List.mem_append.2 (.inl hm)), if_pos hm]
        · rw [if_neg (fun h2 => (List.mem_append.1 h2).elim hm fun h3 => e (List.mem_singleton.1 h3)), if_neg hm]
    · rw [updI_ne hx.2]
      exact (h.others hx.1 hYp hx.2).symm
theorem WM.leave {s : MS} (h : WM s) (id : Int) : WM (leaveS s id).1 := by
  rw [leaveS]
  split
  · exact h
  · rename_i hi
    have hi := Decidable.not_not.1 hi
    have h2 := call_st s id hi
    exact (h.call id).leave1 (by rw [h2.2]; exact hi) h2.1
end Go.Proofs.YtdfmfhcjnjfjbaaGreat
namespace Go.Proofs.YtdfmfhcjnjfjbaaGreat
open Go Go.QM
theorem ent_closeW {α : Type} {f g : α → HP} (i j : Nat) {hs r1 r2 gs : List HP} {L M : List α} {A A' : HP} (a : α) (h1 : take1 i hs = some (A, r1)) (h2 : take1 j r1 = some (bigS f L, r2)) (hw : ent A A') (hA : A' = g a) (hc : ∀ x ∈ L, f x = g x) (hp : (a :: L).Perm M)
    (k : ent (sepL r2) (sepL gs)) : ent (sepL hs) (sepL (bigS g M :: gs)) :=
  (take1_ent h1).trans ((sep_mono hw (ent.refl _)).trans (ent_closeB 0 j (hs := A' :: r1) a rfl h2 hA hc hp k))
set_option maxRecDepth 4000 in
set_option maxHeartbeats 1000000 in
theorem moffer_ok (b : Nat) (A : Int → Nat) (s : MS) (hW : WM s) (to : Int) (o : Off) (hl : s.ids.length ≤ 1000000) : FSpec Tryz.prog 53 [.pointer (some ⟨b, 0, none⟩), .int .i64 to, .agg (ofC o).toArray] noRd [isMa b A s] (fun _ : Unit => .int .i64 (offS s to o).2) (fun _ => True) (fun _ => [isMa b A (offS s to o).1]) := by
 refine FSpec.intro (rs := [.tmp 6]) (by kernel_rfl) Tryz.func53 rfl Tryz.ntmps53 (by rfl) rfl ?_
 intro F _
 refine z70 ?_
 refine bx (v := .agg #[_, _, _]) (l := [.int _ _, .int _ _, .bool _]) rfl rfl ?_
 intro b1
 refine z3j ?_
 refine TC.open 1 rfl (fun x0 hx0 => ?_)
 obtain ⟨ad, cap, mb⟩ := x0
 have hN := hx0
 refine z3y ?_
 dsimp only at hN ⊢
 by_cases ht : to ∈ s.ids
 ·by_cases hf : o.fr ∈ s.ids
  ·refine TC.region ?_
   refine z76 ?_
   refine cl (mat_yes b mb s.ids.length A s.ids to ht) rfl PkL.p trivial ?_
   intro _ _
   refine z71 ?_
   refine q rfl rfl (pu (v := .pointer _) (fun _ => rfl)) ?_
   refine q rfl rfl (pu (v := .int _ _) (fun _ => rfl)) ?_
   refine z77 ?_
   refine cl (mat_yes b mb s.ids.length A s.ids o.fr hf) rfl PkL.p trivial ?_
   intro _ _
   refine z71 ?_
   refine q rfl rfl (pu (v := .pointer _) (fun _ => rfl)) ?_
   refine q rfl rfl (pu (v := .int _ _) (fun _ => rfl)) ?_
   refine z78 ?_
   refine z2v ?_
   refine zq ?_
   refine z1r ?_
   refine z2x ?_
   refine z1w ?_
   have h1 : ¬ (to ∉ s.ids ∨ o.fr ∉ s.ids) := fun h => h.elim (fun h => h ht) (fun h => h hf)
   first | refine TC.condD rfl (fun he => ?_) (fun he => ?_) | refine TC.cond rfl (fun he => ?_) (fun he => ?_)
   ·have hv : offS s to o = (s, 1) := by rw [offS, if_neg h1, if_pos he]
    rw [hv]
    refine z2q ?_
    exact Ret.i () [_] ⟨rfl, trivial⟩ rfl trivial (ent_close (⟨ad, cap, mb⟩ : MRep) hN entS)
   ·haveI := tP_rd (A := A) (ad := ad) (cap := cap) (s := s) (x := o.fr) hf
    refine z1u ?_
    refine z79 ?_
    first | refine TC.condD rfl (fun hs => ?_) (fun hs => ?_) | refine TC.cond rfl (fun hs => ?_) (fun hs => ?_)
    ·have hv : offS s to o = (s, 12) := by rw [offS, if_neg h1, if_neg he, if_pos hs]
     rw [hv]
     refine z2q ?_
     exact Ret.i () [_] ⟨rfl, trivial⟩ rfl trivial (ent_close (⟨ad, cap, mb⟩ : MRep) hN entS)
    ·have hv : offS s to o = (pushS (wtS s o.fr 1 to) to o, 0) := by rw [offS, if_neg h1, if_neg he, if_neg hs]
     rw [hv]
     have hrl := rowlen hW ht
     refine zw ?_
     refine z2r ?_
     refine cl (mwaits_ok A ad cap s s.ids o.fr hf hN 1 to) rfl PkL.p trivial ?_
     intro _ _
     refine z2u ?_
     refine z31 ?_
     refine TC.weak (B := sepL [bigS (tP A ad cap (wtS s o.fr 1 to)) s.ids, bigS (rP ad cap (wtS s o.fr 1 to)) s.ids, pts b 128 [.map (some mb)], mapF encI mb (fM A s.ids) s.ids.length, pts b1 26 (ofC o), F]) entS ?_
     refine TC.draw _ [] [(0, false), (1, false), (2, false), (3, false), (4, true)] (by kernel_rfl) (by kernel_rfl) (ent_take 4 rfl (ent_nil _)) ?_
     refine z5m ?_
     refine z6f ?_
     refine z41 ?_
     refine cl (mpush_ok A ad cap (wtS s o.fr 1 to) s.ids to ht hN o (by show (s.row to).length ≤ 1000000; omega)) rfl PkL.p trivial ?_
     intro y _
     refine z7a ?_
     refine z3a ?_
     exact Ret.i () [_] ⟨rfl, trivial⟩ rfl trivial (ent_close (⟨(updI ad to y.1), (updI cap to y.2), mb⟩ : MRep) hN entS)
  ·have hv : offS s to o = (s, 6) := if_pos (.inr hf)
   rw [hv]
   refine z3k ?_
   refine cl (mat_yes b mb s.ids.length A s.ids to ht) rfl PkL.p trivial ?_
   intro _ _
   refine z71 ?_
   refine q rfl rfl (pu (v := .pointer _) (fun _ => rfl)) ?_
   refine q rfl rfl (pu (v := .int _ _) (fun _ => rfl)) ?_
   refine z77 ?_
   refine cl (mat_no b mb s.ids.length A s.ids o.fr hf) rfl PkL.p trivial ?_
   intro _ _
   refine z71 ?_
   refine q rfl rfl (pu (v := .pointer _) (fun _ => rfl)) ?_
   refine q rfl rfl (pu (v := .int _ _) (fun _ => rfl)) ?_
   refine z78 ?_
   refine z7b ?_
   exact Ret.i () [_] ⟨rfl, trivial⟩ rfl trivial (ent_close (⟨ad, cap, mb⟩ : MRep) hN entS)
 ·have hv : offS s to o = (s, 6) := if_pos (.inl ht)
  rw [hv]
  by_cases hf : o.fr ∈ s.ids
  ·refine TC.region ?_
   refine z76 ?_
   refine cl (mat_no b mb s.ids.length A s.ids to ht) rfl PkL.p trivial ?_
   intro _ _
   refine z71 ?_
   refine q rfl rfl (pu (v := .pointer _) (fun _ => rfl)) ?_
   refine q rfl rfl (pu (v := .int _ _) (fun _ => rfl)) ?_
   refine z77 ?_
   refine cl (mat_yes b mb s.ids.length A s.ids o.fr hf) rfl PkL.p trivial ?_
   intro _ _
   refine z71 ?_
   refine q rfl rfl (pu (v := .pointer _) (fun _ => rfl)) ?_
   refine q rfl rfl (pu (v := .int _ _) (fun _ => rfl)) ?_
   refine z7c ?_
   exact Ret.i () [_] ⟨rfl, trivial⟩ rfl trivial (ent_close (⟨ad, cap, mb⟩ : MRep) hN entS)
  ·refine TC.region ?_
   refine z76 ?_
   refine cl (mat_no b mb s.ids.length A s.ids to ht) rfl PkL.p trivial ?_
   intro _ _
   refine z71 ?_
   refine q rfl rfl (pu (v := .pointer _) (fun _ => rfl)) ?_
   refine q rfl rfl (pu (v := .int _ _) (fun _ => rfl)) ?_
   refine z77 ?_
   refine cl (mat_no b mb s.ids.length A s.ids o.fr hf) rfl PkL.p trivial ?_
   intro _ _
   refine z71 ?_
   refine q rfl rfl (pu (v := .pointer _) (fun _ => rfl)) ?_
   refine q rfl rfl (pu (v := .int _ _) (fun _ => rfl)) ?_
   refine z7c ?_
   exact Ret.i () [_] ⟨rfl, trivial⟩ rfl trivial (ent_close (⟨ad, cap, mb⟩ : MRep) hN entS)
set_option maxRecDepth 4000 in
theorem mopen_ok (b : Nat) (A : Int → Nat) (s : MS) (hW : WM s) (id : Int) : FSpec Tryz.prog 55 [.pointer (some ⟨b, 0, none⟩), .int .i64 id] noRd [isMa b A s] (fun _ : Unit => .int .i64 (openS s id).2) (fun _ => True) (fun _ => [isMa b A (openS s id).1]) := by
 refine FSpec.intro (rs := [.tmp 4]) (by kernel_rfl) Tryz.func55 rfl Tryz.ntmps55 (by rfl) rfl ?_
 intro F _
 refine zz ?_
 refine TC.open 0 rfl (fun x0 hx0 => ?_)
 obtain ⟨ad, cap, mb⟩ := x0
 have hN := hx0
 refine z1y ?_
 dsimp only at hN ⊢
 by_cases h : id ∈ s.ids
 ·obtain ⟨M, hM⟩ := perm_mem h
  have hne := nd_ne hN hM
  refine TC.weak (ent_openB 2 rfl hM) ?_
  refine z6v ?_
  refine cl (mat_yes b mb s.ids.length A s.ids id h) rfl PkL.p trivial ?_
  intro _ _
  refine z71 ?_
  refine q rfl rfl (pu (v := .pointer _) (fun _ => rfl)) ?_
  refine q rfl rfl (pu (v := .int _ _) (fun _ => rfl)) ?_
  refine z7d ?_
  refine z1u ?_
  refine z7e ?_
  refine TL.split 23 rfl (fun hs => ?_) (fun hs => ?_)
  ·have hs := of_decide_eq_true hs
   have hv : openS s id = (s, 12) := by rw [openS, if_neg (fun h2 => h2 h), if_pos (.inl hs)]
   rw [hv]
   refine z3l ?_
   refine z2j ?_
   refine qs rfl rfl ?_
   refine z2p ?_
   refine z2t ?_
   exact Ret.i () [_] ⟨rfl, trivial⟩ rfl trivial (ent_close (⟨ad, cap, mb⟩ : MRep) hN (ent_take 0 rfl (ent_take 0 rfl (ent_closeB 0 0 id rfl rfl rfl (fun _ _ => rfl) hM.symm (ent_take 0 rfl (ent_take 0 rfl (ent_nil _)))))))
  ·have hs := of_decide_eq_false hs
   refine z3q ?_
   refine z3r ?_
   refine z49 ?_
   refine z7f ?_
   refine z7g ?_
   refine z2p ?_
   first | refine TC.condD rfl (fun hr => ?_) (fun hr => ?_) | refine TC.cond rfl (fun hr => ?_) (fun hr => ?_)
   ·have hv : openS s id = (s, 12) := by rw [openS, if_neg (fun h2 => h2 h), if_pos (.inr (by omega))]
    rw [hv]
    refine z2q ?_
    exact Ret.i () [_] ⟨rfl, trivial⟩ rfl trivial (ent_close (⟨ad, cap, mb⟩ : MRep) hN (ent_take 0 rfl (ent_take 0 rfl (ent_closeB 0 0 id rfl rfl rfl (fun _ _ => rfl) hM.symm (ent_take 0 rfl (ent_take 0 rfl (ent_nil _)))))))
   ·have hv : openS s id = (stS s id 2, 0) := by rw [openS, if_neg (fun h2 => h2 h), if_neg (fun h2 => h2.elim (fun h3 => hs h3) (fun h3 => hr (by omega)))]
    rw [hv]
    refine zw ?_
    refine z2z ?_
    refine z6a ?_
    refine st (v := .int _ _) (vs := [_]) 1 rfl rfl rfl rfl rfl rfl (Nat.le_of_ble_eq_true rfl) rfl ?_
    refine z5y ?_
    exact Ret.i () [_] ⟨rfl, trivial⟩ rfl trivial (ent_close (⟨ad, cap, mb⟩ : MRep) hN (ent_take 1 rfl (ent_take 1 rfl (ent_closeB 0 0 id rfl rfl (by dsimp only [tP, frS, wtS, pushS, rowS, cutMS, clS, stS]; simp only [updI_same]; rfl) (fun y hy => by have h := hne y hy; dsimp only [tP, frS, wtS, pushS, rowS, cutMS, clS, stS]; simp only [updI_ne h]) hM.symm (ent_take 0 rfl (ent_take 0 rfl (ent_nil _)))))))
 ·have hv : openS s id = (s, 6) := if_pos h
  rw [hv]
  refine z6v ?_
  refine cl (mat_no b mb s.ids.length A s.ids id h) rfl PkL.p trivial ?_
  intro _ _
  refine z6w ?_
  refine q rfl rfl (pu (v := .pointer _) (fun _ => rfl)) ?_
  refine q rfl rfl (pu (v := .int _ _) (fun _ => rfl)) ?_
  refine z7c ?_
  exact Ret.i () [_] ⟨rfl, trivial⟩ rfl trivial (ent_close (⟨ad, cap, mb⟩ : MRep) hN entS)
set_option maxRecDepth 4000 in
set_option maxHeartbeats 2000000 in
theorem mtake_ok (b : Nat) (A : Int → Nat) (s : MS) (hW : WM s) (to : Int) : FSpec Tryz.prog 42 [.pointer (some ⟨b, 0, none⟩), .int .i64 to] noRd [isMa b A s] (fun _ : Unit => .tuple #[.agg (ofC (takeS s to).2.1).toArray, .int .i64 (takeS s to).2.2.1, .int .i64 (takeS s to).2.2.2]) (fun _ => True) (fun _ => [isMa b A (takeS s to).1]) := by
 refine FSpec.intro (rs := [.cell 4 26, .tmp 5, .tmp 6]) (by kernel_rfl) Tryz.func42 rfl Tryz.ntmps42 (by rfl) rfl ?_
 intro F _
 refine z70 ?_
 refine al (l := [.int _ _, .int _ _, .bool _]) rfl rfl ?_
 intro b3
 refine z7h ?_
 refine zk ?_
 refine TC.open 1 rfl (fun x0 hx0 => ?_)
 obtain ⟨ad, cap, mb⟩ := x0
 have hN := hx0
 refine z3y ?_
 dsimp only at hN ⊢
 by_cases h : to ∈ s.ids
 ·have hh : ¬ (to ∉ s.ids) := fun h2 => h2 h
  haveI := tP_rd (A := A) (ad := ad) (cap := cap) (s := s) (x := to) h
  refine z3k ?_
  refine cl (mat_yes b mb s.ids.length A s.ids to h) rfl PkL.p trivial ?_
  intro _ _
  refine z71 ?_
  refine q rfl rfl (pu (v := .pointer _) (fun _ => rfl)) ?_
  refine q rfl rfl (pu (v := .int _ _) (fun _ => rfl)) ?_
  refine z7d ?_
  refine z1u ?_
  refine z7e ?_
  refine TL.split 30 rfl (fun hs0 => ?_) (fun hs0 => ?_)
  ·have hs0 := of_decide_eq_true hs0
   refine z3q ?_
   refine z4c ?_
   refine z4d ?_
   refine z7i ?_
   refine z2p ?_
   first | refine TC.condD rfl (fun hs2 => ?_) (fun hs2 => ?_) | refine TC.cond rfl (fun hs2 => ?_) (fun hs2 => ?_)
   ·have hv : takeS s to = (s, o0, 0, 12) := by rw [takeS, if_neg hh, if_pos ⟨hs0, hs2⟩]
    rw [hv]
    dsimp only
    refine z6j ?_
    refine st (v := .agg #[_, _, _]) (vs := [_, _, _]) 3 rfl rfl rfl rfl rfl rfl (Nat.le_of_ble_eq_true rfl) rfl ?_
    refine z7j ?_
    exact Ret.i () [_, _, _] ⟨(rcN (n := 3) rfl rfl rfl rfl), rfl, rfl, trivial⟩ rfl trivial (ent_close (⟨ad, cap, mb⟩ : MRep) hN entS)
   ·have hs : ¬ (s.st to ≠ 0 ∧ s.st to ≠ 2) := (fun h2 => hs2 h2.2)
    refine z7k ?_
    refine TC.weak (B := sepL [bigS (tP A ad cap s) s.ids, bigS (rP ad cap s) s.ids, pts b 128 [.map (some mb)], mapF encI mb (fM A s.ids) s.ids.length, pts b3 26 (ofC o0), F]) entS ?_
    refine z7l ?_
    refine zs ?_
    refine cl (mfirst_ok A ad cap s s.ids to h hN) rfl PkL.p trivial ?_
    intro _ _
    refine z2u ?_
    rcases row_cases (s.row to) with hr | ⟨o, r, hr⟩
    ·have hv : takeS s to = (s, o0, 0, 6) := by rw [takeS, if_neg hh, if_neg hs, hr]
     rw [hv, hr]
     dsimp only [hdO, hdB]
     refine z5j ?_
     refine q rfl rfl (pu (v := .agg #[_, _, _]) (fun _ => rfl)) ?_
     refine q rfl rfl (pu (v := .bool _) (fun _ => rfl)) ?_
     refine zs ?_
     refine al (l := [.int _ _, .int _ _, .bool _]) rfl rfl ?_
     intro b4
     refine e0 ?_
     refine st (v := .agg #[_, _, _]) (vs := [_, _, _]) 3 rfl rfl rfl rfl rfl rfl (Nat.le_of_ble_eq_true rfl) rfl ?_
     refine z5k ?_
     refine z2c ?_
     refine z6j ?_
     refine st (v := .agg #[_, _, _]) (vs := [_, _, _]) 3 rfl rfl rfl rfl rfl rfl (Nat.le_of_ble_eq_true rfl) rfl ?_
     refine z7m ?_
     exact Ret.i () [_, _, _] ⟨(rcN (n := 3) rfl rfl rfl rfl), rfl, rfl, trivial⟩ rfl trivial (ent_close (⟨ad, cap, mb⟩ : MRep) hN entS)
    ·obtain ⟨hf1, hf2, hf3, hf4⟩ := hW.row to h o (by rw [hr]; simp)
     have hol := ofsC_length (s.row to)
     have hrl : (s.row to).length = r.length + 1 := by rw [hr, List.length_cons]
     have hcal := hW.cal to h
     obtain ⟨M, hM⟩ := perm_mem h
     have hne := nd_ne hN hM
     rw [show hdO (s.row to) = o from by rw [hr]; rfl, show hdB (s.row to) = true from by rw [hr]; rfl]
     refine z5j ?_
     refine q rfl rfl (pu (v := .agg #[_, _, _]) (fun _ => rfl)) ?_
     refine q rfl rfl (pu (v := .bool _) (fun _ => rfl)) ?_
     refine zs ?_
     refine al (l := [.int _ _, .int _ _, .bool _]) rfl rfl ?_
     intro b5
     refine e0 ?_
     refine st (v := .agg #[_, _, _]) (vs := [_, _, _]) 3 rfl rfl rfl rfl rfl rfl (Nat.le_of_ble_eq_true rfl) rfl ?_
     refine z5k ?_
     refine z40 ?_
     refine TC.weak (B := sepL [bigS (tP A ad cap s) s.ids, bigS (rP ad cap s) s.ids, pts b 128 [.map (some mb)], mapF encI mb (fM A s.ids) s.ids.length, pts b3 26 (ofC o0), pts b5 26 (ofC o), F]) entS ?_
     refine TC.weak (ent_openB 1 rfl hM) ?_
     refine TC.weak (ent_openB 2 rfl hM) ?_
     refine z1p ?_
     refine z1q ?_
     refine z3d ?_
     refine z1r ?_
     refine q rfl rfl (slFn 26 3 (1) rfl rfl rfl (by omega) (by omega)) ?_
     refine z24 ?_
     refine z3d ?_
     refine e0 ?_
     refine st (v := .slice _ _ _) (vs := [_]) 1 rfl rfl rfl rfl rfl rfl (Nat.le_of_ble_eq_true rfl) rfl ?_
     refine z31 ?_
     refine TC.weak (B := sepL [bigS (tP A (updI ad to (sliceOff (ad to) (cap to) 1 3)) (updI cap to (cap to - 1)) (rowS s to r)) s.ids, bigS (rP (updI ad to (sliceOff (ad to) (cap to) 1 3)) (updI cap to (cap to - 1)) (rowS s to r)) s.ids, pts b 128 [.map (some mb)], mapF encI mb (fM A s.ids) s.ids.length, pts b3 26 (ofC o0), pts b5 26 (ofC o), F]) (ent_closeB 0 0 to rfl rfl (by dsimp only [tP, frS, wtS, pushS, rowS, cutMS, clS, stS]; simp only [updI_same]; rw [hrl]; rfl) (fun y hy => by have h := hne y hy; dsimp only [tP, frS, wtS, pushS, rowS, cutMS, clS, stS]; simp only [updI_ne h]) hM.symm (ent_closeW 0 0 to rfl rfl (slc_from (j := 1) (by omega)) (by dsimp only [rP, frS, wtS, pushS, rowS, cutMS, clS, stS]; simp only [updI_same]; rw [hrl, hr]; rfl) (fun y hy => by have h := hne y hy; dsimp only [rP, frS, wtS, pushS, rowS, cutMS, clS, stS]; simp only [updI_ne h]) hM.symm entS)) ?_
     refine z1p ?_
     refine zs ?_
     refine cl (mfree_ok A (updI ad to (sliceOff (ad to) (cap to) 1 3)) (updI cap to (cap to - 1)) (rowS s to r) s.ids to h hN) rfl PkL.p trivial ?_
     intro _ _
     refine z2f ?_
     refine z31 ?_
     refine z7n ?_
     refine z5t ?_
     refine z5l ?_
     refine z4k ?_
     refine z7o ?_
     rw [fM_yes hf1]
     refine dq rfl rfl rfl (asg (v := .pointer _) rfl) ?_
     refine z5a ?_
     refine zc ?_
     refine z3i ?_
     refine cl (mfree_ok A (updI ad to (sliceOff (ad to) (cap to) 1 3)) (updI cap to (cap to - 1)) (frS (rowS s to r) to) s.ids o.fr hf1 hN) rfl PkL.p trivial ?_
     intro _ _
     refine z2f ?_
     by_cases hcl : o.cl = true
     ·refine TL.nil (nt ?_)
      refine zk ?_
      refine zq ?_
      refine z5x ?_
      refine zu ?_
      rw [hcl]
      refine z1g ?_
      haveI := tP_rd (A := A) (ad := (updI ad to (sliceOff (ad to) (cap to) 1 3))) (cap := (updI cap to (cap to - 1))) (s := (frS (frS (rowS s to r) to) o.fr)) (x := to) h
      refine z7p ?_
      refine z13 ?_
      refine z5 ?_
      first | refine TC.condD rfl (fun hel => ?_) (fun hel => ?_) | refine TC.cond rfl (fun hel => ?_) (fun hel => ?_)
      ·have hel : s.cl to ≠ -1 := hel
       obtain ⟨hc1, hc2, hc3, hc4⟩ := hcal hel
       refine z63 ?_
       refine z1r ?_
       refine z7q ?_
       rw [show (frS (frS (rowS s to r) to) o.fr).cl to = s.cl to from rfl, fM_yes hc1]
       refine zs ?_
       refine cl (mfree_ok A (updI ad to (sliceOff (ad to) (cap to) 1 3)) (updI cap to (cap to - 1)) (frS (frS (rowS s to r) to) o.fr) s.ids (s.cl to) hc1 hN) rfl PkL.p trivial ?_
       intro _ _
       refine z2f ?_
       have hv : takeS s to = ((wtS (clS (frS (frS (frS (rowS s to r) to) o.fr) (s.cl to)) to o.fr) o.fr 3 to), o, s.cl to, 0) := by rw [takeS, if_neg hh, if_neg hs, hr]; dsimp only; rw [if_pos hcl, if_pos hel]
       rw [hv]
       dsimp only
       refine z31 ?_
       refine TC.weak (B := sepL [bigS (tP A (updI ad to (sliceOff (ad to) (cap to) 1 3)) (updI cap to (cap to - 1)) (frS (frS (frS (rowS s to r) to) o.fr) (s.cl to))) s.ids, bigS (rP (updI ad to (sliceOff (ad to) (cap to) 1 3)) (updI cap to (cap to - 1)) (frS (frS (frS (rowS s to r) to) o.fr) (s.cl to))) s.ids, pts b 128 [.map (some mb)], mapF encI mb (fM A s.ids) s.ids.length, pts b3 26 (ofC o0), pts b5 26 (ofC o), F]) entS ?_
       refine TC.weak (ent_openB 0 rfl hM) ?_
       refine z7r ?_
       refine st (v := .int _ _) (vs := [_]) 1 rfl rfl rfl rfl rfl rfl (Nat.le_of_ble_eq_true rfl) rfl ?_
       refine zu ?_
       refine TC.weak (B := sepL [bigS (tP A (updI ad to (sliceOff (ad to) (cap to) 1 3)) (updI cap to (cap to - 1)) (clS (frS (frS (frS (rowS s to r) to) o.fr) (s.cl to)) to o.fr)) s.ids, bigS (rP (updI ad to (sliceOff (ad to) (cap to) 1 3)) (updI cap to (cap to - 1)) (clS (frS (frS (frS (rowS s to r) to) o.fr) (s.cl to)) to o.fr)) s.ids, pts b 128 [.map (some mb)], mapF encI mb (fM A s.ids) s.ids.length, pts b3 26 (ofC o0), pts b5 26 (ofC o), F]) (ent_closeB 0 0 to rfl rfl (by dsimp only [tP, frS, wtS, pushS, rowS, cutMS, clS, stS]; simp only [updI_same]; rfl) (fun y hy => by have h := hne y hy; dsimp only [tP, frS, wtS, pushS, rowS, cutMS, clS, stS]; simp only [updI_ne h]) hM.symm entS) ?_
       refine z3k ?_
       refine cl (mwaits_ok A (updI ad to (sliceOff (ad to) (cap to) 1 3)) (updI cap to (cap to - 1)) (clS (frS (frS (frS (rowS s to r) to) o.fr) (s.cl to)) to o.fr) s.ids o.fr hf1 hN 3 to) rfl PkL.p trivial ?_
       intro _ _
       refine z7s ?_
       refine st (v := .agg #[_, _, _]) (vs := [_, _, _]) 3 rfl rfl rfl rfl rfl rfl (Nat.le_of_ble_eq_true rfl) rfl ?_
       refine z7t ?_
       exact Ret.i () [_, _, _] ⟨(rcN (n := 3) rfl rfl rfl rfl), rfl, rfl, trivial⟩ rfl trivial (ent_close (⟨(updI ad to (sliceOff (ad to) (cap to) 1 3)), (updI cap to (cap to - 1)), mb⟩ : MRep) hN entS)
      ·have hel : ¬ s.cl to ≠ -1 := hel
       have hv : takeS s to = ((wtS (clS (frS (frS (rowS s to r) to) o.fr) to o.fr) o.fr 3 to), o, s.cl to, 0) := by rw [takeS, if_neg hh, if_neg hs, hr]; dsimp only; rw [if_pos hcl, if_neg hel]
       rw [hv]
       dsimp only
       refine z7 ?_
       refine TC.weak (B := sepL [bigS (tP A (updI ad to (sliceOff (ad to) (cap to) 1 3)) (updI cap to (cap to - 1)) (frS (frS (rowS s to r) to) o.fr)) s.ids, bigS (rP (updI ad to (sliceOff (ad to) (cap to) 1 3)) (updI cap to (cap to - 1)) (frS (frS (rowS s to r) to) o.fr)) s.ids, pts b 128 [.map (some mb)], mapF encI mb (fM A s.ids) s.ids.length, pts b3 26 (ofC o0), pts b5 26 (ofC o), F]) entS ?_
       refine TC.weak (ent_openB 0 rfl hM) ?_
       refine z7r ?_
       refine st (v := .int _ _) (vs := [_]) 1 rfl rfl rfl rfl rfl rfl (Nat.le_of_ble_eq_true rfl) rfl ?_
       refine zu ?_
       refine TC.weak (B := sepL [bigS (tP A (updI ad to (sliceOff (ad to) (cap to) 1 3)) (updI cap to (cap to - 1)) (clS (frS (frS (rowS s to r) to) o.fr) to o.fr)) s.ids, bigS (rP (updI ad to (sliceOff (ad to) (cap to) 1 3)) (updI cap to (cap to - 1)) (clS (frS (frS (rowS s to r) to) o.fr) to o.fr)) s.ids, pts b 128 [.map (some mb)], mapF encI mb (fM A s.ids) s.ids.length, pts b3 26 (ofC o0), pts b5 26 (ofC o), F]) (ent_closeB 0 0 to rfl rfl (by dsimp only [tP, frS, wtS, pushS, rowS, cutMS, clS, stS]; simp only [updI_same]; rfl) (fun y hy => by have h := hne y hy; dsimp only [tP, frS, wtS, pushS, rowS, cutMS, clS, stS]; simp only [updI_ne h]) hM.symm entS) ?_
       refine z3k ?_
       refine cl (mwaits_ok A (updI ad to (sliceOff (ad to) (cap to) 1 3)) (updI cap to (cap to - 1)) (clS (frS (frS (rowS s to r) to) o.fr) to o.fr) s.ids o.fr hf1 hN 3 to) rfl PkL.p trivial ?_
       intro _ _
       refine z7s ?_
       refine st (v := .agg #[_, _, _]) (vs := [_, _, _]) 3 rfl rfl rfl rfl rfl rfl (Nat.le_of_ble_eq_true rfl) rfl ?_
       refine z7t ?_
       exact Ret.i () [_, _, _] ⟨(rcN (n := 3) rfl rfl rfl rfl), rfl, rfl, trivial⟩ rfl trivial (ent_close (⟨(updI ad to (sliceOff (ad to) (cap to) 1 3)), (updI cap to (cap to - 1)), mb⟩ : MRep) hN entS)
     ·have hcf : o.cl = false := by simpa using hcl
      have hv : takeS s to = ((frS (frS (rowS s to r) to) o.fr), o, -1, 0) := by rw [takeS, if_neg hh, if_neg hs, hr]; dsimp only; rw [if_neg hcl]
      rw [hv]
      dsimp only
      refine z31 ?_
      refine zq ?_
      refine z5x ?_
      refine zu ?_
      rw [hcf]
      refine z2v ?_
      refine z1i ?_
      refine z7u ?_
      refine z7v ?_
      refine st (v := .agg #[_, _, _]) (vs := [_, _, _]) 3 rfl rfl rfl rfl rfl rfl (Nat.le_of_ble_eq_true rfl) rfl ?_
      refine z7t ?_
      exact Ret.i () [_, _, _] ⟨(rcN (n := 3) rfl rfl rfl rfl), rfl, rfl, trivial⟩ rfl trivial (ent_close (⟨(updI ad to (sliceOff (ad to) (cap to) 1 3)), (updI cap to (cap to - 1)), mb⟩ : MRep) hN entS)
  ·have hs0 := of_decide_eq_false hs0
   refine z3l ?_
   refine qs rfl rfl ?_
   refine z2p ?_
   refine z2v ?_
   have hs : ¬ (s.st to ≠ 0 ∧ s.st to ≠ 2) := (fun h2 => hs0 h2.1)
   refine z7k ?_
   refine TC.weak (B := sepL [bigS (tP A ad cap s) s.ids, bigS (rP ad cap s) s.ids, pts b 128 [.map (some mb)], mapF encI mb (fM A s.ids) s.ids.length, pts b3 26 (ofC o0), F]) entS ?_
   refine z7l ?_
   refine zs ?_
   refine cl (mfirst_ok A ad cap s s.ids to h hN) rfl PkL.p trivial ?_
   intro _ _
   refine z2u ?_
   rcases row_cases (s.row to) with hr | ⟨o, r, hr⟩
   ·have hv : takeS s to = (s, o0, 0, 6) := by rw [takeS, if_neg hh, if_neg hs, hr]
    rw [hv, hr]
    dsimp only [hdO, hdB]
    refine z5j ?_
    refine q rfl rfl (pu (v := .agg #[_, _, _]) (fun _ => rfl)) ?_
    refine q rfl rfl (pu (v := .bool _) (fun _ => rfl)) ?_
    refine zs ?_
    refine al (l := [.int _ _, .int _ _, .bool _]) rfl rfl ?_
    intro b6
    refine e0 ?_
    refine st (v := .agg #[_, _, _]) (vs := [_, _, _]) 3 rfl rfl rfl rfl rfl rfl (Nat.le_of_ble_eq_true rfl) rfl ?_
    refine z5k ?_
    refine z2c ?_
    refine z6j ?_
    refine st (v := .agg #[_, _, _]) (vs := [_, _, _]) 3 rfl rfl rfl rfl rfl rfl (Nat.le_of_ble_eq_true rfl) rfl ?_
    refine z7m ?_
    exact Ret.i () [_, _, _] ⟨(rcN (n := 3) rfl rfl rfl rfl), rfl, rfl, trivial⟩ rfl trivial (ent_close (⟨ad, cap, mb⟩ : MRep) hN entS)
   ·obtain ⟨hf1, hf2, hf3, hf4⟩ := hW.row to h o (by rw [hr]; simp)
    have hol := ofsC_length (s.row to)
    have hrl : (s.row to).length = r.length + 1 := by rw [hr, List.length_cons]
    have hcal := hW.cal to h
    obtain ⟨M, hM⟩ := perm_mem h
    have hne := nd_ne hN hM
    rw [show hdO (s.row to) = o from by rw [hr]; rfl, show hdB (s.row to) = true from by rw [hr]; rfl]
    refine z5j ?_
    refine q rfl rfl (pu (v := .agg #[_, _, _]) (fun _ => rfl)) ?_
    refine q rfl rfl (pu (v := .bool _) (fun _ => rfl)) ?_
    refine zs ?_
    refine al (l := [.int _ _, .int _ _, .bool _]) rfl rfl ?_
    intro b7
    refine e0 ?_
    refine st (v := .agg #[_, _, _]) (vs := [_, _, _]) 3 rfl rfl rfl rfl rfl rfl (Nat.le_of_ble_eq_true rfl) rfl ?_
    refine z5k ?_
    refine z40 ?_
    refine TC.weak (B := sepL [bigS (tP A ad cap s) s.ids, bigS (rP ad cap s) s.ids, pts b 128 [.map (some mb)], mapF encI mb (fM A s.ids) s.ids.length, pts b3 26 (ofC o0), pts b7 26 (ofC o), F]) entS ?_
    refine TC.weak (ent_openB 1 rfl hM) ?_
    refine TC.weak (ent_openB 2 rfl hM) ?_
    refine z1p ?_
    refine z1q ?_
    refine z3d ?_
    refine z1r ?_
    refine q rfl rfl (slFn 26 3 (1) rfl rfl rfl (by omega) (by omega)) ?_
    refine z24 ?_
    refine z3d ?_
    refine e0 ?_
    refine st (v := .slice _ _ _) (vs := [_]) 1 rfl rfl rfl rfl rfl rfl (Nat.le_of_ble_eq_true rfl) rfl ?_
    refine z31 ?_
    refine TC.weak (B := sepL [bigS (tP A (updI ad to (sliceOff (ad to) (cap to) 1 3)) (updI cap to (cap to - 1)) (rowS s to r)) s.ids, bigS (rP (updI ad to (sliceOff (ad to) (cap to) 1 3)) (updI cap to (cap to - 1)) (rowS s to r)) s.ids, pts b 128 [.map (some mb)], mapF encI mb (fM A s.ids) s.ids.length, pts b3 26 (ofC o0), pts b7 26 (ofC o), F]) (ent_closeB 0 0 to rfl rfl (by dsimp only [tP, frS, wtS, pushS, rowS, cutMS, clS, stS]; simp only [updI_same]; rw [hrl]; rfl) (fun y hy => by have h := hne y hy; dsimp only [tP, frS, wtS, pushS, rowS, cutMS, clS, stS]; simp only [updI_ne h]) hM.symm (ent_closeW 0 0 to rfl rfl (slc_from (j := 1) (by omega)) (by dsimp only [rP, frS, wtS, pushS, rowS, cutMS, clS, stS]; simp only [updI_same]; rw [hrl, hr]; rfl) (fun y hy => by have h := hne y hy; dsimp only [rP, frS, wtS, pushS, rowS, cutMS, clS, stS]; simp only [updI_ne h]) hM.symm entS)) ?_
    refine z1p ?_
    refine zs ?_
    refine cl (mfree_ok A (updI ad to (sliceOff (ad to) (cap to) 1 3)) (updI cap to (cap to - 1)) (rowS s to r) s.ids to h hN) rfl PkL.p trivial ?_
    intro _ _
    refine z2f ?_
    refine z31 ?_
    refine z7n ?_
    refine z5t ?_
    refine z5l ?_
    refine z4k ?_
    refine z7o ?_
    rw [fM_yes hf1]
    refine dq rfl rfl rfl (asg (v := .pointer _) rfl) ?_
    refine z5a ?_
    refine zc ?_
    refine z3i ?_
    refine cl (mfree_ok A (updI ad to (sliceOff (ad to) (cap to) 1 3)) (updI cap to (cap to - 1)) (frS (rowS s to r) to) s.ids o.fr hf1 hN) rfl PkL.p trivial ?_
    intro _ _
    refine z2f ?_
    by_cases hcl : o.cl = true
    ·refine TL.nil (nt ?_)
     refine zk ?_
     refine zq ?_
     refine z5x ?_
     refine zu ?_
     rw [hcl]
     refine z1g ?_
     haveI := tP_rd (A := A) (ad := (updI ad to (sliceOff (ad to) (cap to) 1 3))) (cap := (updI cap to (cap to - 1))) (s := (frS (frS (rowS s to r) to) o.fr)) (x := to) h
     refine z7p ?_
     refine z13 ?_
     refine z5 ?_
     first | refine TC.condD rfl (fun hel => ?_) (fun hel => ?_) | refine TC.cond rfl (fun hel => ?_) (fun hel => ?_)
     ·have hel : s.cl to ≠ -1 := hel
      obtain ⟨hc1, hc2, hc3, hc4⟩ := hcal hel
      refine z63 ?_
      refine z1r ?_
      refine z7q ?_
      rw [show (frS (frS (rowS s to r) to) o.fr).cl to = s.cl to from rfl, fM_yes hc1]
      refine zs ?_
      refine cl (mfree_ok A (updI ad to (sliceOff (ad to) (cap to) 1 3)) (updI cap to (cap to - 1)) (frS (frS (rowS s to r) to) o.fr) s.ids (s.cl to) hc1 hN) rfl PkL.p trivial ?_
      intro _ _
      refine z2f ?_
      have hv : takeS s to = ((wtS (clS (frS (frS (frS (rowS s to r) to) o.fr) (s.cl to)) to o.fr) o.fr 3 to), o, s.cl to, 0) := by rw [takeS, if_neg hh, if_neg hs, hr]; dsimp only; rw [if_pos hcl, if_pos hel]
      rw [hv]
      dsimp only
      refine z31 ?_
      refine TC.weak (B := sepL [bigS (tP A (updI ad to (sliceOff (ad to) (cap to) 1 3)) (updI cap to (cap to - 1)) (frS (frS (frS (rowS s to r) to) o.fr) (s.cl to))) s.ids, bigS (rP (updI ad to (sliceOff (ad to) (cap to) 1 3)) (updI cap to (cap to - 1)) (frS (frS (frS (rowS s to r) to) o.fr) (s.cl to))) s.ids, pts b 128 [.map (some mb)], mapF encI mb (fM A s.ids) s.ids.length, pts b3 26 (ofC o0), pts b7 26 (ofC o), F]) entS ?_
      refine TC.weak (ent_openB 0 rfl hM) ?_
      refine z7r ?_
      refine st (v := .int _ _) (vs := [_]) 1 rfl rfl rfl rfl rfl rfl (Nat.le_of_ble_eq_true rfl) rfl ?_
      refine zu ?_
      refine TC.weak (B := sepL [bigS (tP A (updI ad to (sliceOff (ad to) (cap to) 1 3)) (updI cap to (cap to - 1)) (clS (frS (frS (frS (rowS s to r) to) o.fr) (s.cl to)) to o.fr)) s.ids, bigS (rP (updI ad to (sliceOff (ad to) (cap to) 1 3)) (updI cap to (cap to - 1)) (clS (frS (frS (frS (rowS s to r) to) o.fr) (s.cl to)) to o.fr)) s.ids, pts b 128 [.map (some mb)], mapF encI mb (fM A s.ids) s.ids.length, pts b3 26 (ofC o0), pts b7 26 (ofC o), F]) (ent_closeB 0 0 to rfl rfl (by dsimp only [tP, frS, wtS, pushS, rowS, cutMS, clS, stS]; simp only [updI_same]; rfl) (fun y hy => by have h := hne y hy; dsimp only [tP, frS, wtS, pushS, rowS, cutMS, clS, stS]; simp only [updI_ne h]) hM.symm entS) ?_
      refine z3k ?_
      refine cl (mwaits_ok A (updI ad to (sliceOff (ad to) (cap to) 1 3)) (updI cap to (cap to - 1)) (clS (frS (frS (frS (rowS s to r) to) o.fr) (s.cl to)) to o.fr) s.ids o.fr hf1 hN 3 to) rfl PkL.p trivial ?_
      intro _ _
      refine z7s ?_
      refine st (v := .agg #[_, _, _]) (vs := [_, _, _]) 3 rfl rfl rfl rfl rfl rfl (Nat.le_of_ble_eq_true rfl) rfl ?_
      refine z7t ?_
      exact Ret.i () [_, _, _] ⟨(rcN (n := 3) rfl rfl rfl rfl), rfl, rfl, trivial⟩ rfl trivial (ent_close (⟨(updI ad to (sliceOff (ad to) (cap to) 1 3)), (updI cap to (cap to - 1)), mb⟩ : MRep) hN entS)
     ·have hel : ¬ s.cl to ≠ -1 := hel
      have hv : takeS s to = ((wtS (clS (frS (frS (rowS s to r) to) o.fr) to o.fr) o.fr 3 to), o, s.cl to, 0) := by rw [takeS, if_neg hh, if_neg hs, hr]; dsimp only; rw [if_pos hcl, if_neg hel]
      rw [hv]
      dsimp only
      refine z7 ?_
      refine TC.weak (B := sepL [bigS (tP A (updI ad to (sliceOff (ad to) (cap to) 1 3)) (updI cap to (cap to - 1)) (frS (frS (rowS s to r) to) o.fr)) s.ids, bigS (rP (updI ad to (sliceOff (ad to) (cap to) 1 3)) (updI cap to (cap to - 1)) (frS (frS (rowS s to r) to) o.fr)) s.ids, pts b 128 [.map (some mb)], mapF encI mb (fM A s.ids) s.ids.length, pts b3 26 (ofC o0), pts b7 26 (ofC o), F]) entS ?_
      refine TC.weak (ent_openB 0 rfl hM) ?_
      refine z7r ?_
      refine st (v := .int _ _) (vs := [_]) 1 rfl rfl rfl rfl rfl rfl (Nat.le_of_ble_eq_true rfl) rfl ?_
      refine zu ?_
      refine TC.weak (B := sepL [bigS (tP A (updI ad to (sliceOff (ad to) (cap to) 1 3)) (updI cap to (cap to - 1)) (clS (frS (frS (rowS s to r) to) o.fr) to o.fr)) s.ids, bigS (rP (updI ad to (sliceOff (ad to) (cap to) 1 3)) (updI cap to (cap to - 1)) (clS (frS (frS (rowS s to r) to) o.fr) to o.fr)) s.ids, pts b 128 [.map (some mb)], mapF encI mb (fM A s.ids) s.ids.length, pts b3 26 (ofC o0), pts b7 26 (ofC o), F]) (ent_closeB 0 0 to rfl rfl (by dsimp only [tP, frS, wtS, pushS, rowS, cutMS, clS, stS]; simp only [updI_same]; rfl) (fun y hy => by have h := hne y hy; dsimp only [tP, frS, wtS, pushS, rowS, cutMS, clS, stS]; simp only [updI_ne h]) hM.symm entS) ?_
      refine z3k ?_
      refine cl (mwaits_ok A (updI ad to (sliceOff (ad to) (cap to) 1 3)) (updI cap to (cap to - 1)) (clS (frS (frS (rowS s to r) to) o.fr) to o.fr) s.ids o.fr hf1 hN 3 to) rfl PkL.p trivial ?_
      intro _ _
      refine z7s ?_
      refine st (v := .agg #[_, _, _]) (vs := [_, _, _]) 3 rfl rfl rfl rfl rfl rfl (Nat.le_of_ble_eq_true rfl) rfl ?_
      refine z7t ?_
      exact Ret.i () [_, _, _] ⟨(rcN (n := 3) rfl rfl rfl rfl), rfl, rfl, trivial⟩ rfl trivial (ent_close (⟨(updI ad to (sliceOff (ad to) (cap to) 1 3)), (updI cap to (cap to - 1)), mb⟩ : MRep) hN entS)
    ·have hcf : o.cl = false := by simpa using hcl
     have hv : takeS s to = ((frS (frS (rowS s to r) to) o.fr), o, -1, 0) := by rw [takeS, if_neg hh, if_neg hs, hr]; dsimp only; rw [if_neg hcl]
     rw [hv]
     dsimp only
     refine z31 ?_
     refine zq ?_
     refine z5x ?_
     refine zu ?_
     rw [hcf]
     refine z2v ?_
     refine z1i ?_
     refine z7u ?_
     refine z7v ?_
     refine st (v := .agg #[_, _, _]) (vs := [_, _, _]) 3 rfl rfl rfl rfl rfl rfl (Nat.le_of_ble_eq_true rfl) rfl ?_
     refine z7t ?_
     exact Ret.i () [_, _, _] ⟨(rcN (n := 3) rfl rfl rfl rfl), rfl, rfl, trivial⟩ rfl trivial (ent_close (⟨(updI ad to (sliceOff (ad to) (cap to) 1 3)), (updI cap to (cap to - 1)), mb⟩ : MRep) hN entS)
 ·have hv : takeS s to = (s, o0, 0, 6) := if_pos h
  rw [hv]
  dsimp only
  refine z3k ?_
  refine cl (mat_no b mb s.ids.length A s.ids to h) rfl PkL.p trivial ?_
  intro _ _
  refine z71 ?_
  refine q rfl rfl (pu (v := .pointer _) (fun _ => rfl)) ?_
  refine q rfl rfl (pu (v := .int _ _) (fun _ => rfl)) ?_
  refine z7w ?_
  refine z7x ?_
  refine st (v := .agg #[_, _, _]) (vs := [_, _, _]) 3 rfl rfl rfl rfl rfl rfl (Nat.le_of_ble_eq_true rfl) rfl ?_
  refine z7j ?_
  exact Ret.i () [_, _, _] ⟨(rcN (n := 3) rfl rfl rfl rfl), rfl, rfl, trivial⟩ rfl trivial (ent_close (⟨ad, cap, mb⟩ : MRep) hN entS)
end Go.Proofs.YtdfmfhcjnjfjbaaGreat
namespace Go.Proofs.YtdfmfhcjnjfjbaaGreat
open Go Go.QM
set_option maxRecDepth 4000 in
set_option maxHeartbeats 1000000 in
theorem manswer_ok (b : Nat) (A : Int → Nat) (s : MS) (hW : WM s) (id : Int) : FSpec Tryz.prog 46 [.pointer (some ⟨b, 0, none⟩), .int .i64 id] noRd [isMa b A s] (fun _ : Unit => .tuple #[.int .i64 (ansS s id).2.1, .int .i64 (ansS s id).2.2]) (fun _ => True) (fun _ => [isMa b A (ansS s id).1]) := by
 refine FSpec.intro (rs := [.tmp 4, .tmp 5]) (by kernel_rfl) Tryz.func46 rfl Tryz.ntmps46 (by rfl) rfl ?_
 intro F _
 refine zz ?_
 refine TC.open 0 rfl (fun x0 hx0 => ?_)
 obtain ⟨ad, cap, mb⟩ := x0
 have hN := hx0
 refine z1y ?_
 dsimp only at hN ⊢
 by_cases h : id ∈ s.ids
 ·have hh : ¬ (id ∉ s.ids) := fun h2 => h2 h
  haveI := tP_rd (A := A) (ad := ad) (cap := cap) (s := s) (x := id) h
  refine z7y ?_
  refine z2r ?_
  refine cl (mat_yes b mb s.ids.length A s.ids id h) rfl PkL.p trivial ?_
  intro _ _
  refine z6w ?_
  refine q rfl rfl (pu (v := .pointer _) (fun _ => rfl)) ?_
  refine q rfl rfl (pu (v := .int _ _) (fun _ => rfl)) ?_
  refine z7d ?_
  refine z1u ?_
  refine z79 ?_
  first | refine TC.condD rfl (fun hs => ?_) (fun hs => ?_) | refine TC.cond rfl (fun hs => ?_) (fun hs => ?_)
  ·have hv : ansS s id = (s, 0, 12) := by rw [ansS, if_neg hh, if_pos hs]
   rw [hv]
   dsimp only
   refine z7y ?_
   refine z7z ?_
   exact Ret.i () [_, _] ⟨rfl, rfl, trivial⟩ rfl trivial (ent_close (⟨ad, cap, mb⟩ : MRep) hN entS)
  ·refine TC.seq ?_
   refine z63 ?_
   refine z5x ?_
   refine z1w ?_
   first | refine TC.condD rfl (fun hc => ?_) (fun hc => ?_) | refine TC.cond rfl (fun hc => ?_) (fun hc => ?_)
   ·have hv : ansS s id = (s, 0, 6) := by rw [ansS, if_neg hh, if_neg hs, if_pos hc]
    rw [hv]
    dsimp only
    refine z7y ?_
    refine z7z ?_
    exact Ret.i () [_, _] ⟨rfl, rfl, trivial⟩ rfl trivial (ent_close (⟨ad, cap, mb⟩ : MRep) hN entS)
   ·have hv : ansS s id = (frS (clS s id (-1)) (s.cl id), s.cl id, 0) := by rw [ansS, if_neg hh, if_neg hs, if_neg hc]
    rw [hv]
    dsimp only
    obtain ⟨hc1, hc2, hc3, hc4⟩ := hW.cal id h hc
    obtain ⟨M, hM⟩ := perm_mem h
    have hne := nd_ne hN hM
    refine zw ?_
    refine z7p ?_
    refine z3j ?_
    refine TC.weak (B := sepL [bigS (tP A ad cap s) s.ids, bigS (rP ad cap s) s.ids, pts b 128 [.map (some mb)], mapF encI mb (fM A s.ids) s.ids.length, F]) entS ?_
    refine TC.weak (ent_openB 0 rfl hM) ?_
    refine z63 ?_
    refine z80 ?_
    refine st (v := .int _ _) (vs := [_]) 1 rfl rfl rfl rfl rfl rfl (Nat.le_of_ble_eq_true rfl) rfl ?_
    refine z31 ?_
    refine TC.weak (B := sepL [bigS (tP A ad cap (clS s id (-1))) s.ids, bigS (rP ad cap (clS s id (-1))) s.ids, pts b 128 [.map (some mb)], mapF encI mb (fM A s.ids) s.ids.length, F]) (ent_closeB 0 0 id rfl rfl (by dsimp only [tP, frS, wtS, pushS, rowS, cutMS, clS, stS]; simp only [updI_same]; rfl) (fun y hy => by have h := hne y hy; dsimp only [tP, frS, wtS, pushS, rowS, cutMS, clS, stS]; simp only [updI_ne h]) hM.symm entS) ?_
    refine z63 ?_
    refine z1r ?_
    refine z7q ?_
    rw [fM_yes hc1]
    refine zs ?_
    refine cl (mfree_ok A ad cap (clS s id (-1)) s.ids (s.cl id) hc1 hN) rfl PkL.p trivial ?_
    intro _ _
    refine z4z ?_
    refine zo ?_
    refine z7t ?_
    exact Ret.i () [_, _] ⟨rfl, rfl, trivial⟩ rfl trivial (ent_close (⟨ad, cap, mb⟩ : MRep) hN entS)
 ·have hv : ansS s id = (s, 0, 6) := if_pos h
  rw [hv]
  dsimp only
  refine z7y ?_
  refine z2r ?_
  refine cl (mat_no b mb s.ids.length A s.ids id h) rfl PkL.p trivial ?_
  intro _ _
  refine z6w ?_
  refine q rfl rfl (pu (v := .pointer _) (fun _ => rfl)) ?_
  refine q rfl rfl (pu (v := .int _ _) (fun _ => rfl)) ?_
  refine z7w ?_
  refine zo ?_
  refine z7j ?_
  exact Ret.i () [_, _] ⟨rfl, rfl, trivial⟩ rfl trivial (ent_close (⟨ad, cap, mb⟩ : MRep) hN entS)
set_option maxRecDepth 4000 in
theorem mcall1_ok (b : Nat) (id : Int) (o : Off) : FSpec Tryz.prog 92 [.agg (ofC o).toArray, .pointer (some ⟨b, 0, none⟩)] (fun F => Rd F b (.cells #[Value.int .i64 id] 3 (0, 0))) [] (fun _ : Unit => .bool (decide (o.fr = id))) (fun _ => True) (fun _ => []) := by
 refine FSpec.intro (rs := [.tmp 3]) (by kernel_rfl) Tryz.func92 rfl Tryz.ntmps92 (by rfl) rfl ?_
 intro F hF
 refine z0 ?_
 haveI : RdI F b (.cells #[Value.int .i64 id] 3 (0, 0)) := ⟨hF⟩
 refine z1j ?_
 refine bx (v := .agg #[_, _, _]) (l := [.int _ _, .int _ _, .bool _]) rfl rfl ?_
 intro b1
 refine ze ?_
 refine zq ?_
 refine z1r ?_
 refine z1o ?_
 refine z1w ?_
 refine TC.ret ?_
 exact z81
set_option maxRecDepth 4000 in
set_option maxHeartbeats 1000000 in
theorem mcall_ok (b : Nat) (A : Int → Nat) (s : MS) (hW : WM s) (id : Int) (hl : s.ids.length ≤ 1000000) : FSpec Tryz.prog 45 [.pointer (some ⟨b, 0, none⟩), .int .i64 id] noRd [isMa b A s] (fun _ : Unit => .int .i64 (callS s id).2) (fun _ => True) (fun _ => [isMa b A (callS s id).1]) := by
 refine FSpec.intro (rs := [.tmp 4]) (by kernel_rfl) Tryz.func45 rfl Tryz.ntmps45 (by rfl) rfl ?_
 intro F _
 refine z70 ?_
 refine bx (v := .int _ _) (l := [.int _ _]) rfl rfl ?_
 intro b2
 refine z3j ?_
 refine TC.open 1 rfl (fun x0 hx0 => ?_)
 obtain ⟨ad, cap, mb⟩ := x0
 have hN := hx0
 refine z3y ?_
 dsimp only at hN ⊢
 by_cases h : id ∈ s.ids
 ·have hh : ¬ (id ∉ s.ids) := fun h2 => h2 h
  haveI := tP_rd (A := A) (ad := ad) (cap := cap) (s := s) (x := id) h
  refine z1p ?_
  refine z1o ?_
  refine zs ?_
  refine cl (mat_yes b mb s.ids.length A s.ids id h) rfl PkL.p trivial ?_
  intro _ _
  refine z71 ?_
  refine q rfl rfl (pu (v := .pointer _) (fun _ => rfl)) ?_
  refine q rfl rfl (pu (v := .int _ _) (fun _ => rfl)) ?_
  refine z6x ?_
  refine z40 ?_
  refine z1u ?_
  refine zu ?_
  refine TC.block ?_
  refine zq ?_
  refine z1w ?_
  first | refine TC.condD rfl (fun hs0 => ?_) (fun hs0 => ?_) | refine TC.cond rfl (fun hs0 => ?_) (fun hs0 => ?_)
  ·have hv : callS s id = (s, 12) := by rw [callS, if_neg hh, if_pos hs0]
   rw [hv]
   refine z2q ?_
   exact Ret.i () [_] ⟨rfl, trivial⟩ rfl trivial (ent_close (⟨ad, cap, mb⟩ : MRep) hN entS)
  ·refine TC.seq ?_
   refine z82 ?_
   first | refine TC.condD rfl (fun hs1 => ?_) (fun hs1 => ?_) | refine TC.cond rfl (fun hs1 => ?_) (fun hs1 => ?_)
   ·have hv : callS s id = (frS (cutMS s (s.pn id) fun o => decide (o.fr = id)) id, 0) := by rw [callS, if_neg hh, if_neg hs0, if_pos hs1]
    rw [hv]
    dsimp only
    obtain ⟨hp, _⟩ := hW.snd id h hs1
    have hrl := rowlen hW hp
    refine TC.weak (B := sepL [bigS (tP A ad cap s) s.ids, bigS (rP ad cap s) s.ids, pts b 128 [.map (some mb)], mapF encI mb (fM A s.ids) s.ids.length, pts b2 3 [.int .i64 id], F]) entS ?_
    refine TC.draw _ [12] [(0, false), (1, false), (2, false), (3, false), (4, false), (5, false), (6, false), (7, false), (8, false), (9, false), (10, false), (11, false), (12, true)] (by kernel_rfl) (by kernel_rfl) (ent.refl _) ?_
    refine z5t ?_
    refine z42 ?_
    refine z4i ?_
    refine z7o ?_
    rw [fM_yes hp]
    refine z33 ?_
    first | refine dq rfl rfl rfl (mkf (vf := []) (vc := [.pointer _]) rfl rfl) ?_ | refine dq rfl rfl rfl (mkf rfl rfl) ?_
    refine dl rfl rfl rfl rfl ?_
    refine cl (mcut_ok A ad cap s s.ids (s.pn id) hp hN 92 [.pointer (some ⟨b2, 0, none⟩)] (fun o => decide (o.fr = id)) (fun F => Rd F b2 (.cells #[Value.int .i64 id] 3 (0, 0))) (mcall1_ok b2 id) (fun Bs _ h => Rd_end h Bs) (by omega)) rfl PkL.p RdI.rd ?_
    intro y _
    change TD _ _ _ _ _ _ _ _ _ _ (sepL [_, _, _, _, _, _, _])
    refine TD.nil (nb (nt ?_))
    refine z3i ?_
    refine cl (mfree_ok A (updI ad (s.pn id) y.2.1) (updI cap (s.pn id) y.2.2) (cutMS s (s.pn id) fun o => decide (o.fr = id)) s.ids id h hN) rfl PkL.p trivial ?_
    intro _ _
    refine z2f ?_
    refine z5y ?_
    exact Ret.i () [_] ⟨rfl, trivial⟩ rfl trivial (ent_close (⟨(updI ad (s.pn id) y.2.1), (updI cap (s.pn id) y.2.2), mb⟩ : MRep) hN entS)
   ·refine TC.seq ?_
    refine z82 ?_
    first | refine TC.condD rfl (fun hs3 => ?_) (fun hs3 => ?_) | refine TC.cond rfl (fun hs3 => ?_) (fun hs3 => ?_)
    ·have hv : callS s id = (frS (clS s (s.pn id) (-1)) id, 0) := by rw [callS, if_neg hh, if_neg hs0, if_neg hs1, if_pos hs3]
     rw [hv]
     dsimp only
     obtain ⟨hp, _⟩ := hW.ask id h hs3
     obtain ⟨M, hM⟩ := perm_mem hp
     have hne := nd_ne hN hM
     refine TC.weak (B := sepL [bigS (tP A ad cap s) s.ids, bigS (rP ad cap s) s.ids, pts b 128 [.map (some mb)], mapF encI mb (fM A s.ids) s.ids.length, pts b2 3 [.int .i64 id], F]) entS ?_
     refine TC.draw _ [11] [(0, false), (1, false), (2, false), (3, false), (4, false), (5, false), (6, false), (7, false), (8, false), (9, false), (10, false), (11, true)] (by kernel_rfl) (by kernel_rfl) (ent.refl _) ?_
     refine z5t ?_
     refine z42 ?_
     refine z4i ?_
     refine z7o ?_
     rw [fM_yes hp]
     refine TD.weak (ent_openB 0 rfl hM) ?_
     refine z83 ?_
     refine z5w ?_
     refine st (v := .int _ _) (vs := [_]) 1 rfl rfl rfl rfl rfl rfl (Nat.le_of_ble_eq_true rfl) rfl ?_
     refine TD.nil (nb (nt ?_))
     refine zk ?_
     refine TC.weak (B := sepL [bigS (tP A ad cap (clS s (s.pn id) (-1))) s.ids, bigS (rP ad cap (clS s (s.pn id) (-1))) s.ids, pts b 128 [.map (some mb)], mapF encI mb (fM A s.ids) s.ids.length, F]) (ent_closeB 0 0 (s.pn id) rfl rfl (by dsimp only [tP, frS, wtS, pushS, rowS, cutMS, clS, stS]; simp only [updI_same]; rfl) (fun y hy => by have h := hne y hy; dsimp only [tP, frS, wtS, pushS, rowS, cutMS, clS, stS]; simp only [updI_ne h]) hM.symm entS) ?_
     refine z1p ?_
     refine zs ?_
     refine cl (mfree_ok A ad cap (clS s (s.pn id) (-1)) s.ids id h hN) rfl PkL.p trivial ?_
     intro _ _
     refine z4z ?_
     refine zj ?_
     refine TC.ret ?_
     exact Ret.i () [_] ⟨rfl, trivial⟩ rfl trivial (ent_close (⟨ad, cap, mb⟩ : MRep) hN entS)
    ·have hv : callS s id = (frS s id, 0) := by rw [callS, if_neg hh, if_neg hs0, if_neg hs1, if_neg hs3]
     rw [hv]
     dsimp only
     refine zw ?_
     refine z3i ?_
     refine cl (mfree_ok A ad cap s s.ids id h hN) rfl PkL.p trivial ?_
     intro _ _
     refine z2u ?_
     refine z5y ?_
     exact Ret.i () [_] ⟨rfl, trivial⟩ rfl trivial (ent_close (⟨ad, cap, mb⟩ : MRep) hN entS)
 ·have hv : callS s id = (s, 6) := if_pos h
  rw [hv]
  refine z1p ?_
  refine z1o ?_
  refine zs ?_
  refine cl (mat_no b mb s.ids.length A s.ids id h) rfl PkL.p trivial ?_
  intro _ _
  refine z71 ?_
  refine q rfl rfl (pu (v := .pointer _) (fun _ => rfl)) ?_
  refine q rfl rfl (pu (v := .int _ _) (fun _ => rfl)) ?_
  refine z6z ?_
  refine z84 ?_
  exact Ret.i () [_] ⟨rfl, trivial⟩ rfl trivial (ent_close (⟨ad, cap, mb⟩ : MRep) hN entS)
set_option maxRecDepth 4000 in
theorem mleave1_ok (o : Off) : FSpec Tryz.prog 98 [.agg (ofC o).toArray] (fun _ => True) [] (fun _ : Unit => .bool true) (fun _ => True) (fun _ => []) := by
 refine FSpec.intro (rs := [.tmp 2]) (by kernel_rfl) Tryz.func98 rfl Tryz.ntmps98 (by rfl) rfl ?_
 intro F _
 refine z45 ?_
 refine bx (v := .agg #[_, _, _]) (l := [.int _ _, .int _ _, .bool _]) rfl rfl ?_
 intro b4
 refine ze ?_
 refine zi ?_
 exact z81
set_option maxRecDepth 4000 in
set_option maxHeartbeats 1000000 in
theorem mleave_ok (b : Nat) (A : Int → Nat) (s : MS) (hW : WM s) (id : Int) (hl : s.ids.length ≤ 1000000) : FSpec Tryz.prog 51 [.pointer (some ⟨b, 0, none⟩), .int .i64 id] noRd [isMa b A s] (fun y : Option Addr × Nat => .tuple #[.slice y.1 (leaveS s id).2.1.length y.2, .int .i64 (leaveS s id).2.2]) (fun _ => True) (fun y => [slc 3 1 y.1 (leaveS s id).2.1.length y.2 (ints (leaveS s id).2.1), isMa b A (leaveS s id).1]) := by
 refine FSpec.intro (rs := [.tmp 4, .tmp 5]) (by kernel_rfl) Tryz.func51 rfl Tryz.ntmps51 (by rfl) rfl ?_
 intro F _
 refine zz ?_
 refine TC.open 0 rfl (fun x0 hx0 => ?_)
 obtain ⟨ad, cap, mb⟩ := x0
 have hN := hx0
 refine z1y ?_
 dsimp only at hN ⊢
 by_cases h : id ∈ s.ids
 ·have hv : leaveS s id = (dropS (frL (rowS (callS s id).1 id []) (goneL (callS s id).1 id)) id, goneL (callS s id).1 id, 0) := if_neg (fun h2 => h2 h)
  rw [hv]
  dsimp only
  obtain ⟨hz1, hz2⟩ := call_st s id h
  have hWz := hW.call id
  refine z85 ?_
  refine z72 ?_
  refine cl (mat_yes b mb s.ids.length A s.ids id h) rfl PkL.p trivial ?_
  intro _ _
  refine z6w ?_
  refine q rfl rfl (pu (v := .pointer _) (fun _ => rfl)) ?_
  refine q rfl rfl (pu (v := .int _ _) (fun _ => rfl)) ?_
  refine z6x ?_
  refine z40 ?_
  refine TC.weak (B := sepL [isMa b A s, F]) (ent_close (⟨ad, cap, mb⟩ : MRep) hN entS) ?_
  refine z3k ?_
  refine cl (mcall_ok b A s hW id hl) rfl PkL.p trivial ?_
  intro _ _
  refine z12 ?_
  clear hv hN
  have hmz : id ∈ (callS s id).1.ids := by rw [hz2]; exact h
  have hlz : (callS s id).1.ids.length ≤ 1000000 := by rw [hz2]; exact hl
  generalize (callS s id).1 = Z at hz1 hz2 hWz hmz hlz ⊢
  clear hz2 hl h hW
  refine z31 ?_
  refine TC.open 0 rfl (fun x0 hx0 => ?_)
  obtain ⟨ad, cap, mb⟩ := x0
  have hN := hx0
  refine z1y ?_
  dsimp only at hN ⊢
  have hrl := rowlen hWz hmz
  have hgm := fun x (hx : x ∈ goneL Z id) => gone_mem hWz hmz hx
  refine z7l ?_
  refine zs ?_
  refine cl (mcut_ok A ad cap Z Z.ids id hmz hN 98 [] (fun _ => true) (fun _ => True) mleave1_ok (fun _ _ _ => trivial) (by omega)) rfl PkL.p trivial ?_
  intro y _
  refine z2u ?_
  have hcm : (cutMS Z id fun _ => true) = rowS Z id [] := by rw [cutMS, List.filter_eq_nil_iff.2 (fun o _ => by simp [notO])]
  have hgo : goneO (Z.row id) (fun _ => true) = (Z.row id).map (·.fr) := by rw [goneO, List.filter_eq_self.2 (fun o _ => rfl)]
  have hgl : ((Z.row id).map (·.fr)).length = (Z.row id).length := List.length_map _
  have hgi := ints_length ((Z.row id).map (·.fr))
  rw [hcm, hgo]
  obtain ⟨⟨ga, gc⟩, ⟨ka, kc⟩⟩ := y
  dsimp only
  haveI := tP_rd (A := A) (ad := (updI ad id ka)) (cap := (updI cap id kc)) (s := (rowS Z id [])) (x := id) hmz
  refine z86 ?_
  refine z7p ?_
  refine z5 ?_
  first | refine TC.condD rfl (fun hc => ?_) (fun hc => ?_) | refine TC.cond rfl (fun hc => ?_) (fun hc => ?_)
  ·have hc : Z.cl id ≠ -1 := hc
   have hG : goneL Z id = (Z.row id).map (·.fr) ++ [Z.cl id] := by rw [goneL, if_pos hc]
   refine z66 ?_
   refine z1q ?_
   refine z5x ?_
   refine z67 ?_
   intro b5
   refine zs ?_
   refine ap 8 rfl rfl rfl rfl rfl (Nat.le_of_ble_eq_true rfl) (show _ = ints [Z.cl id] from rfl) rfl (by omega) (by simp only [maxLen]; omega) ?_
   intro ad1 cap1
   refine z86 ?_
   refine zk ?_
   have hGi := ints_length (goneL Z id)
   have hGl : (goneL Z id).length = (Z.row id).length + 1 := by rw [hG, List.length_append, hgl]; rfl
   refine TC.weak (B := sepL [slc 3 1 ad1 (goneL Z id).length cap1 (ints (goneL Z id)), bigS (tP A (updI ad id ka) (updI cap id kc) (rowS Z id [])) Z.ids, bigS (rP (updI ad id ka) (updI cap id kc) (rowS Z id [])) Z.ids, pts b 128 [.map (some mb)], mapF encI mb (fM A Z.ids) Z.ids.length, F]) (ent_takeE 0 rfl (by rw [hG, List.length_append]; simp [ints]) entS) ?_
   rw [show ((Z.row id).map (·.fr)).length + 1 = (goneL Z id).length from by rw [hGl, hgl]]
   refine z66 ?_
   refine z87 ?_
   refine TC.loop (ι := Nat) (fun k => k ≤ (goneL Z id).length) (fun k => [(0, .pointer (some ⟨b, 0, none⟩)), (1, .int .i64 id), (8, .slice ad1 (goneL Z id).length cap1), (39, .slice ad1 (goneL Z id).length cap1), (40, .int .i64 (goneL Z id).length), (41, .int .i64 ((k : Nat) : Int))]) (fun k => sepL [slc 3 1 ad1 (goneL Z id).length cap1 (ints (goneL Z id)), bigS (tP A (updI ad id ka) (updI cap id kc) (frL (rowS Z id []) ((goneL Z id).take k))) Z.ids, bigS (rP (updI ad id ka) (updI cap id kc) (frL (rowS Z id []) ((goneL Z id).take k))) Z.ids, pts b 128 [.map (some mb)], mapF encI mb (fM A Z.ids) Z.ids.length, F]) (fun k => (goneL Z id).length - k) 0 (Nat.zero_le _) ⟨rfl, rfl, rfl, rfl, rfl, rfl, trivial⟩ (ent_take 0 rfl (ent_takeE 0 rfl (by rw [List.take_zero, ← foldl_fr]; rfl) (ent_takeE 0 rfl (by rw [List.take_zero, ← foldl_fr]; rfl) entS))) ?_
   rintro k hk ρ0
   dsimp only [updL] at hk ⊢
   refine zm ?_
   first | refine TC.condD rfl (fun hlt => ?_) (fun hlt => ?_) | refine TC.cond rfl (fun hlt => ?_) (fun hlt => ?_)
   ·have hlt2 : k < (goneL Z id).length := by omega
    obtain ⟨x, hx⟩ : ∃ x, (goneL Z id)[k]? = some x := ⟨_, List.getElem?_eq_getElem hlt2⟩
    have hpos : 0 < (ints (goneL Z id)).length := by omega
    obtain ⟨hx1, _⟩ := hgm x (List.mem_of_getElem? hx)
    have hst : frS (frL (rowS Z id []) ((goneL Z id).take k)) x = (frL (rowS Z id []) ((goneL Z id).take (k + 1))) := by rw [← foldl_fr, ← foldl_fr, List.take_add_one, hx, Option.toList, List.foldl_append]; rfl
    refine z3x ?_
    first | refine q rfl rfl (ld rfl rfl rfl) ?_ | refine q rfl rfl (ldS rfl rfl (ints_get hx)) ?_ | refine q rfl rfl (ldS rfl rfl rfl) ?_
    refine zp ?_
    refine z7l ?_
    first | refine q rfl rfl (ld rfl rfl rfl) ?_ | refine q rfl rfl (ldS rfl rfl (ints_get hx)) ?_ | refine q rfl rfl (ldS rfl rfl rfl) ?_
    refine z7q ?_
    rw [fM_yes hx1]
    refine zs ?_
    refine cl (mfree_ok A (updI ad id ka) (updI cap id kc) (frL (rowS Z id []) ((goneL Z id).take k)) Z.ids x hx1 hN) rfl PkL.p trivial ?_
    intro _ _
    refine z2u ?_
    rw [hst]
    refine z6m ?_
    exact ⟨rfl, (k + 1), (by omega), (by omega), ⟨rfl, rfl, rfl, rfl, rfl, rfl, trivial⟩, (ent_take 1 rfl (ent_take 0 rfl (ent_takeE 0 rfl (by rw [← hst]; rfl) entS)))⟩
   ·obtain rfl : k = (goneL Z id).length := by omega
    rw [List.take_length]
    obtain ⟨M, hM⟩ := perm_mem hmz
    have hne := nd_ne hN hM
    have hfi : M.Perm (Z.ids.filter fun y => decide (y ≠ id)) := by
     have h1 := hM.filter fun y => decide (y ≠ id)
     have h2 : M.filter (fun y => decide (y ≠ id)) = M := List.filter_eq_self.2 (fun y hy => by simpa using hne y hy)
     rw [List.filter_cons_of_neg (by simp), h2] at h1
     exact h1.symm
    have hN2 : (Z.ids.filter fun y => decide (y ≠ id)).Nodup := hN.sublist List.filter_sublist
    have hlf : (Z.ids.filter fun y => decide (y ≠ id)).length = Z.ids.length - 1 := by rw [← hfi.length_eq, hM.length_eq]; rfl
    have hfm : fM A (Z.ids.filter fun y => decide (y ≠ id)) = delF (fM A Z.ids) id := by
     funext y
     simp only [fM, delF]
     by_cases e2 : y = id
     ·rw [if_pos e2, if_neg (by simp [e2])]
     ·rw [if_neg e2]
      by_cases h3 : y ∈ Z.ids
      ·rw [if_pos h3, if_pos (by simp [h3, e2])]
      ·rw [if_neg h3, if_neg (by simp [h3])]
    have hfy := fM_yes (A := A) hmz
    refine zh ?_
    refine z6h ?_
    refine z7v ?_
    refine deF 3 118 rfl (KL.int rfl) rfl rfl rfl ?_
    refine zu ?_
    refine z11 ?_
    refine z68 ?_
    refine z6s ?_
    exact Ret.i ⟨ad1, cap1⟩ [_, _] ⟨rfl, rfl, trivial⟩ rfl trivial (ent_take 1 rfl (ent_close (⟨(updI ad id ka), (updI cap id kc), mb⟩ : MRep) hN2 (ent_take 3 rfl (ent_takeE 0 rfl (by dsimp only [dropS, frL, rowS]; rw [hfm, hlf, hfy]; rfl) ((ent_openB 0 rfl hM).trans (ent_takeB 1 rfl (fun _ _ => rfl) hfi ((ent_openB 1 rfl hM).trans (ent_takeB 1 rfl (fun _ _ => rfl) hfi (ent_take 2 rfl (ent_nil _))))))))))
  ·have hc : ¬ Z.cl id ≠ -1 := hc
   have hG : goneL Z id = (Z.row id).map (·.fr) := by rw [goneL, if_neg hc, List.append_nil]
   refine z88 ?_
   have hGi := ints_length (goneL Z id)
   have hGl : (goneL Z id).length = (Z.row id).length := by rw [hG, hgl]
   refine TC.weak (B := sepL [slc 3 1 ga (goneL Z id).length gc (ints (goneL Z id)), bigS (tP A (updI ad id ka) (updI cap id kc) (rowS Z id [])) Z.ids, bigS (rP (updI ad id ka) (updI cap id kc) (rowS Z id [])) Z.ids, pts b 128 [.map (some mb)], mapF encI mb (fM A Z.ids) Z.ids.length, F]) (ent_takeE 0 rfl (by rw [hG]) entS) ?_
   rw [show ((Z.row id).map (·.fr)).length = (goneL Z id).length from by rw [hGl, hgl]]
   refine z66 ?_
   refine z87 ?_
   refine TC.loop (ι := Nat) (fun k => k ≤ (goneL Z id).length) (fun k => [(0, .pointer (some ⟨b, 0, none⟩)), (1, .int .i64 id), (8, .slice ga (goneL Z id).length gc), (39, .slice ga (goneL Z id).length gc), (40, .int .i64 (goneL Z id).length), (41, .int .i64 ((k : Nat) : Int))]) (fun k => sepL [slc 3 1 ga (goneL Z id).length gc (ints (goneL Z id)), bigS (tP A (updI ad id ka) (updI cap id kc) (frL (rowS Z id []) ((goneL Z id).take k))) Z.ids, bigS (rP (updI ad id ka) (updI cap id kc) (frL (rowS Z id []) ((goneL Z id).take k))) Z.ids, pts b 128 [.map (some mb)], mapF encI mb (fM A Z.ids) Z.ids.length, F]) (fun k => (goneL Z id).length - k) 0 (Nat.zero_le _) ⟨rfl, rfl, rfl, rfl, rfl, rfl, trivial⟩ (ent_take 0 rfl (ent_takeE 0 rfl (by rw [List.take_zero, ← foldl_fr]; rfl) (ent_takeE 0 rfl (by rw [List.take_zero, ← foldl_fr]; rfl) entS))) ?_
   rintro k hk ρ0
   dsimp only [updL] at hk ⊢
   refine zm ?_
   first | refine TC.condD rfl (fun hlt => ?_) (fun hlt => ?_) | refine TC.cond rfl (fun hlt => ?_) (fun hlt => ?_)
   ·have hlt2 : k < (goneL Z id).length := by omega
    obtain ⟨x, hx⟩ : ∃ x, (goneL Z id)[k]? = some x := ⟨_, List.getElem?_eq_getElem hlt2⟩
    have hpos : 0 < (ints (goneL Z id)).length := by omega
    obtain ⟨hx1, _⟩ := hgm x (List.mem_of_getElem? hx)
    have hst : frS (frL (rowS Z id []) ((goneL Z id).take k)) x = (frL (rowS Z id []) ((goneL Z id).take (k + 1))) := by rw [← foldl_fr, ← foldl_fr, List.take_add_one, hx, Option.toList, List.foldl_append]; rfl
    refine z3x ?_
    first | refine q rfl rfl (ld rfl rfl rfl) ?_ | refine q rfl rfl (ldS rfl rfl (ints_get hx)) ?_ | refine q rfl rfl (ldS rfl rfl rfl) ?_
    refine zp ?_
    refine z7l ?_
    first | refine q rfl rfl (ld rfl rfl rfl) ?_ | refine q rfl rfl (ldS rfl rfl (ints_get hx)) ?_ | refine q rfl rfl (ldS rfl rfl rfl) ?_
    refine z7q ?_
    rw [fM_yes hx1]
    refine zs ?_
    refine cl (mfree_ok A (updI ad id ka) (updI cap id kc) (frL (rowS Z id []) ((goneL Z id).take k)) Z.ids x hx1 hN) rfl PkL.p trivial ?_
    intro _ _
    refine z2u ?_
    rw [hst]
    refine z6m ?_
    exact ⟨rfl, (k + 1), (by omega), (by omega), ⟨rfl, rfl, rfl, rfl, rfl, rfl, trivial⟩, (ent_take 1 rfl (ent_take 0 rfl (ent_takeE 0 rfl (by rw [← hst]; rfl) entS)))⟩
   ·obtain rfl : k = (goneL Z id).length := by omega
    rw [List.take_length]
    obtain ⟨M, hM⟩ := perm_mem hmz
    have hne := nd_ne hN hM
    have hfi : M.Perm (Z.ids.filter fun y => decide (y ≠ id)) := by
     have h1 := hM.filter fun y => decide (y ≠ id)
     have h2 : M.filter (fun y => decide (y ≠ id)) = M := List.filter_eq_self.2 (fun y hy => by simpa using hne y hy)
     rw [List.filter_cons_of_neg (by simp), h2] at h1
     exact h1.symm
    have hN2 : (Z.ids.filter fun y => decide (y ≠ id)).Nodup := hN.sublist List.filter_sublist
    have hlf : (Z.ids.filter fun y => decide (y ≠ id)).length = Z.ids.length - 1 := by rw [← hfi.length_eq, hM.length_eq]; rfl
    have hfm : fM A (Z.ids.filter fun y => decide (y ≠ id)) = delF (fM A Z.ids) id := by
     funext y
     simp only [fM, delF]
     by_cases e2 : y = id
     ·rw [if_pos e2, if_neg (by simp [e2])]
     ·rw [if_neg e2]
      by_cases h3 : y ∈ Z.ids
      ·rw [if_pos h3, if_pos (by simp [h3, e2])]
      ·rw [if_neg h3, if_neg (by simp [h3])]
    have hfy := fM_yes (A := A) hmz
    refine zh ?_
    refine z6h ?_
    refine z7v ?_
    refine deF 3 118 rfl (KL.int rfl) rfl rfl rfl ?_
    refine zu ?_
    refine z11 ?_
    refine z68 ?_
    refine z6s ?_
    exact Ret.i ⟨ga, gc⟩ [_, _] ⟨rfl, rfl, trivial⟩ rfl trivial (ent_take 1 rfl (ent_close (⟨(updI ad id ka), (updI cap id kc), mb⟩ : MRep) hN2 (ent_take 3 rfl (ent_takeE 0 rfl (by dsimp only [dropS, frL, rowS]; rw [hfm, hlf, hfy]; rfl) ((ent_openB 0 rfl hM).trans (ent_takeB 1 rfl (fun _ _ => rfl) hfi ((ent_openB 1 rfl hM).trans (ent_takeB 1 rfl (fun _ _ => rfl) hfi (ent_take 2 rfl (ent_nil _))))))))))
 ·have hv : leaveS s id = (s, [], 6) := if_pos h
  rw [hv]
  dsimp only
  refine z85 ?_
  refine z72 ?_
  refine cl (mat_no b mb s.ids.length A s.ids id h) rfl PkL.p trivial ?_
  intro _ _
  refine z6w ?_
  refine q rfl rfl (pu (v := .pointer _) (fun _ => rfl)) ?_
  refine q rfl rfl (pu (v := .int _ _) (fun _ => rfl)) ?_
  refine z6z ?_
  refine zo ?_
  refine z68 ?_
  refine z89 ?_
  exact Ret.i ⟨none, 0⟩ [_, _] ⟨rfl, rfl, trivial⟩ rfl trivial ((slc_nil 3 1 _).trans (ent_take 0 rfl (ent_close (⟨ad, cap, mb⟩ : MRep) hN entS)))
end Go.Proofs.YtdfmfhcjnjfjbaaGreat
namespace Go.QM
open Go
def i64T (P : Program) (t : TypeId) : Bool := match P.underlying t with
  | some (.int .i64) => true
  | _ => false
theorem i64T_un {P : Program} {t : TypeId} (h : i64T P t = true) : P.underlying t = some (.int .i64) := by
  unfold i64T at h
  cases hu : P.underlying t with
  | none => rw [hu] at h; cases h
  | some u => rw [hu] at h; cases u <;> first | (cases h; done) | (rename_i k; cases k <;> first | (cases h; done) | rfl)
theorem booT_un {P : Program} {t : TypeId} (h : booT P t = true) : P.underlying t = some .bool := by
  unfold booT at h
  cases hu : P.underlying t with
  | none => rw [hu] at h; cases h
  | some u => rw [hu] at h; cases u <;> first | (cases h; done) | rfl
def oft (P : Program) (f1 f2 f3 : Field) : Bool :=
  !(f1.name == "_") && !(f2.name == "_") && !(f3.name == "_") && Nat.beq f1.offset 0 && Nat.beq f2.offset 1 && Nat.beq f3.offset 2 && i64T P f1.type && i64T P f2.type && booT P f3.type
def eqOT (P : Program) (t : TypeId) : Bool := match P.underlying t with
  | some (.struct fs) => (match fs.toList with
    | [f1, f2, f3] => oft P f1 f2 f3
    | _ => false) && !(P.stoodInHeld t) && !(P.eqGuardType P.depth t)
  | _ => false
theorem eqOT_run {P : Program} {t : TypeId} (h : eqOT P t = true) (a b a' b' : Int) (c c' : Bool) (w : World) :
    (Op.equalIn 10000 t (.agg #[.int .i64 a, .int .i64 b, .bool c]) (.agg #[.int .i64 a', .int .i64 b', .bool c'])).run P w = .ok (decide (a = a' ∧ b = b' ∧ c = c')) w ∧ P.eqGuardType P.depth t = false := by
  unfold eqOT at h
  cases hu : P.underlying t with
  | none => rw [hu] at h; cases h
  | some u =>
    rw [hu] at h
    cases u with
    | struct fs =>
      simp only [Bool.and_eq_true, Bool.not_eq_true'] at h
      obtain ⟨⟨h1, h2⟩, h3⟩ := h
      have hf : P.fieldsOf t = fs := by simp [Program.fieldsOf, hu]
      refine ⟨?_, h3⟩
      rw [run_equalIn_agg w 9999 t _ _ (by rw [hf]; exact hu) h2, hf]
      split at h1
      · rename_i f1 f2 f3 hl
        rw [hl]
        simp only [oft, Bool.and_eq_true, Bool.not_eq_true', beq_eq_false_iff_ne] at h1
        obtain ⟨⟨⟨⟨⟨⟨⟨⟨n1, n2⟩, n3⟩, o1⟩, o2⟩, o3⟩, t1⟩, t2⟩, t3⟩ := h1
        have o1 := Nat.eq_of_beq_eq_true o1
        have o2 := Nat.eq_of_beq_eq_true o2
        have o3 := Nat.eq_of_beq_eq_true o3
        have t1 := i64T_un t1
        have t2 := i64T_un t2
        have t3 := booT_un t3
        have s1 : oneT P f1.type = true := by simp [oneT, t1]
        have s2 : oneT P f2.type = true := by simp [oneT, t2]
        have s3 : oneT P f3.type = true := by simp [oneT, t3]
        have p1 : ∀ x y : Int, ∀ z : Bool, (part f1.type #[.int .i64 x, .int .i64 y, .bool z] f1.offset).run P w = .ok (.int .i64 x) w := fun x y z => by simp [part, isAgg_one s1, o1]
        have p2 : ∀ x y : Int, ∀ z : Bool, (part f2.type #[.int .i64 x, .int .i64 y, .bool z] f2.offset).run P w = .ok (.int .i64 y) w := fun x y z => by simp [part, isAgg_one s2, o2]
        have p3 : ∀ x y : Int, ∀ z : Bool, (part f3.type #[.int .i64 x, .int .i64 y, .bool z] f3.offset).run P w = .ok (.bool z) w := fun x y z => by simp [part, isAgg_one s3, o3]
        have e3 : ∀ d, (Op.equalIn (d + 1) f3.type (.bool c) (.bool c')).run P w = .ok (c == c') w := fun d => by
          simp [Op.equalIn, underlying, t3]
        have e1 : ∀ x y : Int, (Op.equalIn 9999 f1.type (.int .i64 x) (.int .i64 y)).run P w = .ok (decide (x = y)) w := fun x y => run_equalIn_int w 9998 f1.type .i64 .i64 x y t1
        have e2 : ∀ x y : Int, (Op.equalIn 9999 f2.type (.int .i64 x) (.int .i64 y)).run P w = .ok (decide (x = y)) w := fun x y => run_equalIn_int w 9998 f2.type .i64 .i64 x y t2
        have e4 := e3 9998
        simp only [Op.eqFields, ne_eq, n1, n2, n3, not_false_eq_true, if_true, Sem.run_bind, p1, p2, p3, Result.andThen_ok, e1]
        by_cases h1 : a = a'
        · by_cases h2 : b = b'
          · cases hc : (c == c')
            · have hn : c ≠ c' := by simpa using hc
              rw [hc] at e4
              simp [h1, h2, hn, p2, p3, e2, e4]
            · have hn : c = c' := by simpa using hc
              rw [hc] at e4
              simp [h1, h2, p2, p3, e2, e4, hn]
              rw [hn] at e4
              simp [e4]
          · simp [h1, h2, p2, e2]
        · simp [h1]
      · cases h1
    | _ => cases h
section
variable {P : Program} {ρ : Env} {A : HP} {d : Option Nat} {ty : TypeId} {ps : String} {af : Array Edge} {g : Option (Nat × Bool)} {t t' : TypeId} {x y : Operand}
theorem eqO {a b a' b' : Int} {c c' : Bool} (ht : eqOT P t = true) (hx : ev ρ x = .agg #[.int .i64 a, .int .i64 b, .bool c]) (hy : ev ρ y = .agg #[.int .i64 a', .int .i64 b', .bool c']) :
    OQ P ρ ⟨d, .binOp .eql t x y t', ty, ps, af, g⟩ A (.bool (decide (a = a' ∧ b = b' ∧ c = c'))) := fun w _ => by
  obtain ⟨h1, h2⟩ := eqOT_run ht a b a' b' c c' w
  simp [execOp, hx, hy, run_eqGuard_agg w .eql t x y _ _ h2, run_eql_struct w t, h1]
theorem neO {a b a' b' : Int} {c c' : Bool} (ht : eqOT P t = true) (hx : ev ρ x = .agg #[.int .i64 a, .int .i64 b, .bool c]) (hy : ev ρ y = .agg #[.int .i64 a', .int .i64 b', .bool c']) :
    OQ P ρ ⟨d, .binOp .neq t x y t', ty, ps, af, g⟩ A (.bool (decide (¬ (a = a' ∧ b = b' ∧ c = c')))) := fun w _ => by
  obtain ⟨h1, h2⟩ := eqOT_run ht a b a' b' c c' w
  simp [execOp, hx, hy, run_eqGuard_agg w .neq t x y _ _ h2, run_neq_struct w t, h1]
end
end Go.QM
