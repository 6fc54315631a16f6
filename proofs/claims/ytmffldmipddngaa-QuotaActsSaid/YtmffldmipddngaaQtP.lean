/-
  Proved here: what functions of this program compute, each as a contract over symbolic states, under the premises that each theorem names (most lines printed by a program of the prover).
-/
import Derived.Test.YtmffldmipddngaaProg
import Derived.Test.YtmffldmipddngaaQLibG
namespace Go.Proofs.Ytmffldmipddngaa
open Go Go.QM
theorem nodup_sub_len {l m : List Int} (h : l.Nodup) (hs : ∀ x ∈ l, x ∈ m) : l.length ≤ m.length := by
  induction l generalizing m with
  | nil => simp
  | cons a l ih =>
    obtain ⟨h1, h2⟩ := List.nodup_cons.1 h
    obtain ⟨s, t, rfl⟩ := List.append_of_mem (hs a (by simp))
    have := ih (m := s ++ t) h2 (fun x hx => by
      have h3 := hs x (by simp [hx])
      have h4 : x ≠ a := fun e => h1 (e ▸ hx)
      simp at h3 ⊢
      rcases h3 with h3 | h3 | h3
      · exact .inl h3
      · exact absurd h3 h4
      · exact .inr h3)
    simp at this ⊢; omega
structure Qn where
  id : Int
  par : Int
  lim : Int
  chg : Int
def sumI : List Int → Int
  | [] => 0
  | x :: l => x + sumI l
theorem sumI_app (l m : List Int) : sumI (l ++ m) = sumI l + sumI m := by
  induction l with
  | nil => simp [sumI]
  | cons x l ih => rw [List.cons_append, sumI, sumI, ih]; omega
theorem sumI_perm {l m : List Int} (h : l.Perm m) : sumI l = sumI m := by
  induction h with
  | nil => rfl
  | cons x _ ih => rw [sumI, sumI, ih]
  | swap x y l => simp only [sumI]; omega
  | trans _ _ h1 h2 => exact h1.trans h2
theorem sumI_nonneg {l : List Int} (h : ∀ x ∈ l, 0 ≤ x) : 0 ≤ sumI l := by
  induction l with
  | nil => exact Int.le_refl _
  | cons x l ih => have := h x (by simp); have := ih (fun y hy => h y (by simp [hy])); rw [sumI]; omega
theorem sumI_le {l : List Int} {b : Int} (h : ∀ x ∈ l, x ≤ b) : sumI l ≤ b * l.length := by
  induction l with
  | nil => simp [sumI]
  | cons x l ih => have := h x (by simp); have := ih (fun y hy => h y (by simp [hy])); rw [sumI, List.length_cons, Int.natCast_add, Int.mul_add]; omega
def kidsQ (L : List Qn) (x : Int) : List Qn := L.filter fun t => decide (t.par = x)
def givQ (L : List Qn) (x : Int) : Int := sumI ((kidsQ L x).map (·.lim))
def kidQ (L : List Qn) (x : Int) : Int := ((kidsQ L x).length : Int)
def hasQ (L : List Qn) (x : Int) : Prop := ∃ t ∈ L, t.id = x
instance (L : List Qn) (id : Int) : Decidable (hasQ L id) := inferInstanceAs (Decidable (∃ t ∈ L, t.id = id))
def findQ (L : List Qn) (id : Int) : Option Qn := L.find? fun t => decide (t.id = id)
def NdQ (L : List Qn) : Prop := (L.map (·.id)).Nodup
theorem NdQ.perm {S T : List Qn} (h : NdQ S) (p : T.Perm S) : NdQ T := (p.map _).nodup_iff.2 h
theorem NdQ.inj {S : List Qn} (h : NdQ S) {t u : Qn} (ht : t ∈ S) (hu : u ∈ S) (e : t.id = u.id) : t = u := by
  obtain ⟨L, hL⟩ := perm_mem ht
  rcases List.mem_cons.1 (hL.mem_iff.1 hu) with h1 | h1
  · exact h1.symm
  · exact absurd (List.mem_map.2 ⟨u, h1, e.symm⟩) (List.nodup_cons.1 (h.perm hL.symm)).1
theorem findQ_yes {S : List Qn} (h : NdQ S) {t : Qn} (ht : t ∈ S) : findQ S t.id = some t := by
  rw [findQ]
  cases hf : S.find? fun u => decide (u.id = t.id) with
  | none => rw [List.find?_eq_none] at hf; exact absurd (decide_eq_true rfl) (hf t ht)
  | some u =>
    have h1 := List.find?_some hf
    have h2 := List.mem_of_find?_eq_some hf
    rw [h.inj h2 ht (by simpa using h1)]
theorem findQ_no {S : List Qn} {id : Int} (h : ¬ hasQ S id) : findQ S id = none := by
  rw [findQ, List.find?_eq_none]; intro u hu; simp only [decide_eq_true_eq]; exact fun e => h ⟨u, hu, e⟩
def useQ (L : List Qn) (id : Int) : Int := match findQ L id with
  | some t => t.chg + givQ L id
  | none => 0
def limQ (L : List Qn) (id : Int) : Int := match findQ L id with
  | some t => t.lim
  | none => 0
def chgQ (L : List Qn) (id : Int) : Int := match findQ L id with
  | some t => t.chg
  | none => 0
def parQ (L : List Qn) (id : Int) : Int := match findQ L id with
  | some t => t.par
  | none => -1
def setQ (L : List Qn) (id c : Int) : List Qn := L.map fun t => if t.id = id then ⟨t.id, t.par, t.lim, c⟩ else t
def offQ (L : List Qn) (id : Int) : List Qn := L.filter fun t => decide (t.id ≠ id)
def carveQ (L : List Qn) (nxt p lim : Int) : List Qn × Int × Int × Int :=
  if ¬ hasQ L p then (L, nxt, 0, 6) else if lim < 0 then (L, nxt, 0, 1) else if ¬ lim ≤ limQ L p - useQ L p then (L, nxt, 0, 5) else if L.length = 32 then (L, nxt, 0, 11) else (L ++ [⟨nxt, p, lim, 0⟩], nxt + 1, nxt, 0)
def closeQ (L : List Qn) (id : Int) : List Qn × Int :=
  if ¬ hasQ L id then (L, 6) else if id = 0 then (L, 1) else if useQ L id ≠ 0 ∨ 0 < kidQ L id then (L, 12) else (offQ L id, 0)
def chargeQ (L : List Qn) (id n : Int) : List Qn × Int :=
  if ¬ hasQ L id then (L, 6) else if n < 0 then (L, 1) else if ¬ n ≤ limQ L id - useQ L id then (L, 5) else (setQ L id (chgQ L id + n), 0)
def refundQ (L : List Qn) (id n : Int) : List Qn × Int :=
  if ¬ hasQ L id then (L, 6) else if n < 0 ∨ chgQ L id < n then (L, 1) else (setQ L id (chgQ L id - n), 0)
structure WQ (L : List Qn) (nxt : Int) : Prop where
  nd : NdQ L
  srt : (L.map (·.id)).Pairwise (· < ·)
  rg : ∀ t ∈ L, 0 ≤ t.id ∧ t.id < nxt ∧ 0 ≤ t.lim ∧ t.lim ≤ 1073741824 ∧ 0 ≤ t.chg ∧ t.chg + givQ L t.id ≤ t.lim
  root : hasQ L 0
  rp : ∀ t ∈ L, t.id = 0 → t.par = -1
  par : ∀ t ∈ L, t.id ≠ 0 → hasQ L t.par ∧ t.par < t.id
  len : L.length ≤ 32
theorem kidsQ_app (S T : List Qn) (p : Int) : kidsQ (S ++ T) p = kidsQ S p ++ kidsQ T p := by simp [kidsQ]
theorem givQ_app (S T : List Qn) (p : Int) : givQ (S ++ T) p = givQ S p + givQ T p := by rw [givQ, kidsQ_app, List.map_append, sumI_app]; rfl
theorem kidQ_app (S T : List Qn) (p : Int) : kidQ (S ++ T) p = kidQ S p + kidQ T p := by rw [kidQ, kidsQ_app, List.length_append]; rfl
theorem givQ_one {t : Qn} {p : Int} : givQ [t] p = if t.par = p then t.lim else 0 := by
  by_cases h : t.par = p
  · rw [if_pos h, givQ, kidsQ, List.filter_cons_of_pos (by simpa using h)]; simp [sumI]
  · rw [if_neg h, givQ, kidsQ, List.filter_cons_of_neg (by simpa using h)]; rfl
theorem kidQ_one {t : Qn} {p : Int} : kidQ [t] p = if t.par = p then 1 else 0 := by
  by_cases h : t.par = p
  · rw [if_pos h, kidQ, kidsQ, List.filter_cons_of_pos (by simpa using h)]; rfl
  · rw [if_neg h, kidQ, kidsQ, List.filter_cons_of_neg (by simpa using h)]; rfl
theorem givQ_perm {S T : List Qn} (h : S.Perm T) (p : Int) : givQ S p = givQ T p := sumI_perm ((h.filter _).map _)
theorem kidQ_perm {S T : List Qn} (h : S.Perm T) (p : Int) : kidQ S p = kidQ T p := congrArg (fun n : Nat => (n : Int)) (h.filter _).length_eq
theorem setQ_ids (L : List Qn) (id c : Int) : (setQ L id c).map (·.id) = L.map (·.id) := by
  rw [setQ, List.map_map]; exact List.map_congr_left fun t _ => by simp only [Function.comp]; split <;> rfl
theorem setQ_has {L : List Qn} {id c x : Int} : hasQ (setQ L id c) x ↔ hasQ L x := by
  have h : ∀ S : List Qn, hasQ S x ↔ x ∈ S.map (·.id) := fun S => by simp [hasQ]
  rw [h, h, setQ_ids]
theorem setQ_giv (L : List Qn) (id c p : Int) : givQ (setQ L id c) p = givQ L p ∧ kidQ (setQ L id c) p = kidQ L p := by
  induction L with
  | nil => exact ⟨rfl, rfl⟩
  | cons t L ih =>
    have e : setQ (t :: L) id c = (if t.id = id then ⟨t.id, t.par, t.lim, c⟩ else t) :: setQ L id c := rfl
    have h1 := givQ_app [if t.id = id then (⟨t.id, t.par, t.lim, c⟩ : Qn) else t] (setQ L id c) p
    have h2 := givQ_app [t] L p
    have h3 := kidQ_app [if t.id = id then (⟨t.id, t.par, t.lim, c⟩ : Qn) else t] (setQ L id c) p
    have h4 := kidQ_app [t] L p
    rw [List.singleton_append] at h1 h2 h3 h4
    rw [e, h1, h2, h3, h4, ih.1, ih.2, givQ_one, givQ_one, kidQ_one, kidQ_one]
    constructor <;> (congr 1; split <;> rfl)
theorem givQ_nonneg {L : List Qn} {nxt : Int} (h : WQ L nxt) (x : Int) : 0 ≤ givQ L x := sumI_nonneg fun y hy => by
  obtain ⟨t, ht, rfl⟩ := List.mem_map.1 hy
  exact (h.rg t (List.mem_filter.1 ht).1).2.2.1
theorem kidQ_le (L : List Qn) (x : Int) : 0 ≤ kidQ L x ∧ kidQ L x ≤ L.length := by
  have : (kidsQ L x).length ≤ L.length := List.length_filter_le _ _
  rw [kidQ]; omega
theorem use_yes {L : List Qn} (h : NdQ L) {t : Qn} (ht : t ∈ L) : useQ L t.id = t.chg + givQ L t.id ∧ limQ L t.id = t.lim ∧ chgQ L t.id = t.chg ∧ parQ L t.id = t.par := by
  rw [useQ, limQ, chgQ, parQ, findQ_yes h ht]; exact ⟨rfl, rfl, rfl, rfl⟩
theorem use_no {L : List Qn} {id : Int} (h : ¬ hasQ L id) : useQ L id = 0 ∧ limQ L id = 0 ∧ chgQ L id = 0 ∧ parQ L id = -1 := by
  rw [useQ, limQ, chgQ, parQ, findQ_no h]; exact ⟨rfl, rfl, rfl, rfl⟩
/-- What is charged to all. -/
theorem all_giv {L : List Qn} (hn : NdQ L) : ∀ M : List Qn, (∀ t ∈ M, t.par ≠ -1 → hasQ L t.par) → (∀ t ∈ L, t.id ≠ -1) → sumI (L.map fun t => givQ M t.id) = sumI ((M.filter fun t => decide (t.par ≠ -1)).map (·.lim))
  | [], _, _ => by
    have : ∀ S : List Qn, sumI (S.map fun t => givQ [] t.id) = 0 := fun S => by
      induction S with
      | nil => rfl
      | cons a S ih => rw [List.map_cons, sumI, ih]; rfl
    exact this L
  | u :: M, hp, h1 => by
    have ih := all_giv hn M (fun t ht => hp t (by simp [ht])) h1
    have e1 : ∀ t : Qn, givQ (u :: M) t.id = (if u.par = t.id then u.lim else 0) + givQ M t.id := fun t => by
      have := givQ_app [u] M t.id
      rw [List.singleton_append] at this
      rw [this, givQ_one]
    have e2 : ∀ S : List Qn, sumI (S.map fun t => givQ (u :: M) t.id) = sumI (S.map fun t => if u.par = t.id then u.lim else 0) + sumI (S.map fun t => givQ M t.id) := fun S => by
      induction S with
      | nil => rfl
      | cons a S ih => rw [List.map_cons, List.map_cons, List.map_cons, sumI, sumI, sumI, ih, e1]; omega
    rw [e2, ih]
    have zero : ∀ S : List Qn, (∀ t ∈ S, u.par ≠ t.id) → sumI (S.map fun t => if u.par = t.id then u.lim else 0) = 0 := fun S hS => by
      induction S with
      | nil => rfl
      | cons a S ih => rw [List.map_cons, sumI, if_neg (hS a (by simp)), ih fun t ht => hS t (by simp [ht])]; rfl
    by_cases hu : u.par = -1
    · rw [zero L (fun t ht e => h1 t ht (by rw [← e]; exact hu)), List.filter_cons_of_neg (by simpa using hu)]; omega
    · rw [List.filter_cons_of_pos (by simpa using hu), List.map_cons, sumI]
      obtain ⟨t, ht, e⟩ := hp u (by simp) hu
      obtain ⟨S, hS⟩ := perm_mem ht
      have e3 : sumI (L.map fun t => if u.par = t.id then u.lim else 0) = u.lim := by
        rw [sumI_perm (hS.map _), List.map_cons, sumI, if_pos e.symm, zero S (fun v hv e2 => (List.nodup_cons.1 (hn.perm hS.symm)).1 (List.mem_map.2 ⟨v, hv, (e2.symm.trans e.symm)⟩))]; omega
      rw [e3]
theorem sum_split (L : List Qn) : sumI (L.map fun t => t.chg + givQ L t.id) = sumI (L.map (·.chg)) + sumI (L.map fun t => givQ L t.id) := by
  have : ∀ S : List Qn, sumI (S.map fun t => t.chg + givQ L t.id) = sumI (S.map (·.chg)) + sumI (S.map fun t => givQ L t.id) := fun S => by
    induction S with
    | nil => rfl
    | cons a S ih => simp only [List.map_cons, sumI, ih]; omega
  exact this L
theorem sum_mono {f g : Qn → Int} : ∀ {S : List Qn}, (∀ t ∈ S, f t ≤ g t) → sumI (S.map f) ≤ sumI (S.map g)
  | [], _ => Int.le_refl _
  | a :: S, h => by have := h a (by simp); have := sum_mono (S := S) (f := f) (g := g) (fun t ht => h t (by simp [ht])); simp only [List.map_cons, sumI]; omega
theorem WQ.all {L : List Qn} {nxt : Int} (h : WQ L nxt) {r : Qn} (hr : r ∈ L) (h0 : r.id = 0) : sumI (L.map (·.chg)) ≤ r.lim := by
  have h1 := all_giv h.nd L (fun t ht hp => (h.par t ht (fun e => hp (h.rp t ht e))).1) (fun t ht => by have := h.rg t ht; omega)
  have h2 := sum_split L
  have h3 := sum_mono (S := L) (f := fun t => t.chg + givQ L t.id) (g := fun t => t.lim) (fun t ht => (h.rg t ht).2.2.2.2.2)
  obtain ⟨M, hM⟩ := perm_mem hr
  have h4 : sumI (L.map (·.lim)) = r.lim + sumI (M.map (·.lim)) := by rw [sumI_perm (hM.map _)]; rfl
  have h5 : sumI ((L.filter fun t => decide (t.par ≠ -1)).map (·.lim)) = sumI (M.map (·.lim)) := by
    rw [sumI_perm ((hM.filter _).map _), List.filter_cons_of_neg (by simpa using h.rp r hr h0), List.filter_eq_self.2]
    intro t ht
    have htL : t ∈ L := hM.mem_iff.2 (by simp [ht])
    have hne : t.id ≠ 0 := fun e => (List.nodup_cons.1 (h.nd.perm hM.symm)).1 (List.mem_map.2 ⟨t, ht, (e.trans h0.symm)⟩)
    obtain ⟨⟨u, hu, e⟩, _⟩ := h.par t htL hne
    have := h.rg u hu
    simp only [decide_eq_true_eq]; omega
  have h3' : sumI (L.map fun t => t.chg + givQ L t.id) ≤ sumI (L.map (·.lim)) := h3
  omega
theorem hasQ_mem {L : List Qn} {x : Int} : hasQ L x ↔ x ∈ L.map (·.id) := by simp [hasQ]
theorem giv_zero {L : List Qn} {x : Int} (h : ∀ t ∈ L, t.par ≠ x) : givQ L x = 0 ∧ kidQ L x = 0 := by
  have e : kidsQ L x = [] := List.filter_eq_nil_iff.2 fun t ht => by simpa using h t ht
  rw [givQ, kidQ, e]; exact ⟨rfl, rfl⟩
theorem WQ.par_lt {L : List Qn} {nxt : Int} (h : WQ L nxt) {t : Qn} (ht : t ∈ L) : t.par < nxt ∧ -1 ≤ t.par ∧ t.par ≠ t.id := by
  have h1 := h.rg t ht
  by_cases e : t.id = 0
  · have := h.rp t ht e; omega
  · obtain ⟨⟨u, hu, e2⟩, h3⟩ := h.par t ht e
    have := h.rg u hu; omega
theorem WQ.start {lim : Int} (h : 0 ≤ lim ∧ lim ≤ 1073741824) : WQ [⟨0, -1, lim, 0⟩] 1 where
  nd := by simp [NdQ]
  srt := by simp
  rg := fun t ht => by
    rw [List.mem_singleton.1 ht]
    have : givQ [(⟨0, -1, lim, 0⟩ : Qn)] 0 = 0 := by rw [givQ_one, if_neg (by dsimp only; omega)]
    dsimp only; rw [this]; omega
  root := ⟨_, List.mem_singleton.2 rfl, rfl⟩
  rp := fun t ht _ => by rw [List.mem_singleton.1 ht]
  par := fun t ht hn => by rw [List.mem_singleton.1 ht] at hn; exact absurd rfl hn
  len := by simp
theorem WQ.add {L : List Qn} {nxt : Int} (h : WQ L nxt) {p lim : Int} (hp : hasQ L p) (h0 : 0 ≤ lim) (hf : lim ≤ limQ L p - useQ L p) (hl : L.length ≠ 32) : WQ (L ++ [⟨nxt, p, lim, 0⟩]) (nxt + 1) := by
  obtain ⟨u, hu, rfl⟩ := hp
  have hur := h.rg u hu
  obtain ⟨e1, e2, _⟩ := use_yes h.nd hu
  rw [e1, e2] at hf
  have hgv := givQ_nonneg h u.id
  have hz : givQ L nxt = 0 := (giv_zero fun t ht => by have := h.par_lt ht; omega).1
  have hmem : ∀ x, hasQ L x → hasQ (L ++ [(⟨nxt, u.id, lim, 0⟩ : Qn)]) x := fun x ⟨t, ht, e⟩ => ⟨t, List.mem_append.2 (.inl ht), e⟩
  have hlt : ∀ x ∈ L.map (·.id), x < nxt := fun x hx => by
    obtain ⟨t, ht, rfl⟩ := List.mem_map.1 hx
    exact (h.rg t ht).2.1
  have hnx : 0 ≤ nxt := by omega
  refine ⟨?_, ?_, fun t ht => ?_, hmem 0 h.root, fun t ht e => ?_, fun t ht e => ?_, ?_⟩
  · rw [NdQ, List.map_append, List.nodup_append]
    exact ⟨h.nd, by simp, fun a ha c hc e => by
      have := hlt a ha
      simp only [List.map_cons, List.map_nil, List.mem_singleton] at hc; omega⟩
  · rw [List.map_append, List.pairwise_append]
    exact ⟨h.srt, by simp, fun a ha c hc => by
      have := hlt a ha
      simp only [List.map_cons, List.map_nil, List.mem_singleton] at hc; omega⟩
  · rw [givQ_app, givQ_one]
    dsimp only
    rcases List.mem_append.1 ht with ht | ht
    · have h1 := h.rg t ht
      by_cases e : u.id = t.id
      · have := h.nd.inj hu ht e
        subst this
        rw [if_pos rfl]; omega
      · rw [if_neg e]; omega
    · rw [List.mem_singleton.1 ht]
      dsimp only
      rw [hz, if_neg (by omega)]; omega
  · rcases List.mem_append.1 ht with ht | ht
    · exact h.rp t ht e
    · rw [List.mem_singleton.1 ht] at e
      dsimp only at e; omega
  · rcases List.mem_append.1 ht with ht | ht
    · exact ⟨hmem _ (h.par t ht e).1, (h.par t ht e).2⟩
    · rw [List.mem_singleton.1 ht]
      exact ⟨hmem _ ⟨u, hu, rfl⟩, hur.2.1⟩
  · have := h.len
    rw [List.length_append, List.length_singleton]; omega
theorem offQ_perm {L M : List Qn} {t : Qn} (h : NdQ L) (hL : L.Perm (t :: M)) : (offQ L t.id).Perm M := by
  have h1 := hL.filter fun u => decide (u.id ≠ t.id)
  rw [List.filter_cons_of_neg (by simp)] at h1
  have h2 : M.filter (fun u => decide (u.id ≠ t.id)) = M := List.filter_eq_self.2 fun u hu => by
    have := (List.nodup_cons.1 (h.perm hL.symm)).1
    simp only [decide_eq_true_eq]
    exact fun e => this (List.mem_map.2 ⟨u, hu, e⟩)
  rw [h2] at h1; exact h1
theorem offQ_giv {L : List Qn} (h : NdQ L) {t : Qn} (ht : t ∈ L) (x : Int) : givQ (offQ L t.id) x = givQ L x - (if t.par = x then t.lim else 0) ∧ kidQ (offQ L t.id) x = kidQ L x - (if t.par = x then 1 else 0) := by
  obtain ⟨M, hM⟩ := perm_mem ht
  have h1 := offQ_perm h hM
  have a1 := givQ_app [t] M x
  have a2 := kidQ_app [t] M x
  rw [List.singleton_append, givQ_one] at a1
  rw [List.singleton_append, kidQ_one] at a2
  rw [givQ_perm h1, kidQ_perm h1, givQ_perm hM, kidQ_perm hM, a1, a2]; omega
theorem offQ_mem {L : List Qn} {x : Int} {t : Qn} : t ∈ offQ L x ↔ t ∈ L ∧ t.id ≠ x := by simp [offQ]
theorem offQ_len {L : List Qn} (h : NdQ L) {t : Qn} (ht : t ∈ L) : (offQ L t.id).length + 1 = L.length := by
  obtain ⟨M, hM⟩ := perm_mem ht
  rw [(offQ_perm h hM).length_eq, hM.length_eq]; rfl
theorem kid_none {L : List Qn} {x : Int} (h : ¬ 0 < kidQ L x) : ∀ t ∈ L, t.par ≠ x := fun t ht e => h (by
  have : t ∈ kidsQ L x := List.mem_filter.2 ⟨ht, by simpa using e⟩
  have := List.length_pos_of_mem this
  rw [kidQ]; omega)
theorem WQ.off {L : List Qn} {nxt : Int} (h : WQ L nxt) {t : Qn} (ht : t ∈ L) (h0 : t.id ≠ 0) (hk : ¬ 0 < kidQ L t.id) : WQ (offQ L t.id) nxt where
  nd := h.nd.sublist (List.filter_sublist.map _)
  srt := h.srt.sublist (List.filter_sublist.map _)
  rg := fun u hu => by
    have h1 := h.rg u (offQ_mem.1 hu).1
    have h2 := (h.rg t ht).2.2.1
    rw [(offQ_giv h.nd ht u.id).1]
    split <;> omega
  root := by
    obtain ⟨r, hr, e⟩ := h.root
    exact ⟨r, offQ_mem.2 ⟨hr, by rw [e]; exact fun e2 => h0 e2.symm⟩, e⟩
  rp := fun u hu => h.rp u (offQ_mem.1 hu).1
  par := fun u hu e => by
    obtain ⟨⟨v, hv, e2⟩, h3⟩ := h.par u (offQ_mem.1 hu).1 e
    have := kid_none hk u (offQ_mem.1 hu).1
    exact ⟨⟨v, offQ_mem.2 ⟨hv, by rw [e2]; exact this⟩, e2⟩, h3⟩
  len := Nat.le_trans (List.length_filter_le _ _) h.len
theorem setQ_mem {L : List Qn} {id c : Int} {u : Qn} : u ∈ setQ L id c ↔ ∃ t ∈ L, u = if t.id = id then ⟨t.id, t.par, t.lim, c⟩ else t := by
  rw [setQ, List.mem_map]
  exact ⟨fun ⟨t, h1, h2⟩ => ⟨t, h1, h2.symm⟩, fun ⟨t, h1, h2⟩ => ⟨t, h1, h2.symm⟩⟩
theorem WQ.set {L : List Qn} {nxt : Int} (h : WQ L nxt) {t : Qn} (ht : t ∈ L) {c : Int} (h0 : 0 ≤ c) (hc : c + givQ L t.id ≤ t.lim) : WQ (setQ L t.id c) nxt where
  nd := by rw [NdQ, setQ_ids]; exact h.nd
  srt := by rw [setQ_ids]; exact h.srt
  rg := fun u hu => by
    obtain ⟨v, hv, rfl⟩ := setQ_mem.1 hu
    have h1 := h.rg v hv
    by_cases e : v.id = t.id
    · have := h.nd.inj hv ht e
      subst this
      rw [if_pos rfl, (setQ_giv L _ c _).1]
      dsimp only; omega
    · rw [if_neg e, (setQ_giv L _ c _).1]; exact h1
  root := setQ_has.2 h.root
  rp := fun u hu e => by
    obtain ⟨v, hv, rfl⟩ := setQ_mem.1 hu
    split at e
    · rename_i e2; rw [if_pos e2]; exact h.rp v hv e
    · rename_i e2; rw [if_neg e2]; exact h.rp v hv e
  par := fun u hu e => by
    obtain ⟨v, hv, rfl⟩ := setQ_mem.1 hu
    split at e
    · rename_i e2; rw [if_pos e2]; exact ⟨setQ_has.2 (h.par v hv e).1, (h.par v hv e).2⟩
    · rename_i e2; rw [if_neg e2]; exact ⟨setQ_has.2 (h.par v hv e).1, (h.par v hv e).2⟩
  len := by rw [setQ, List.length_map]; exact h.len
theorem WQ.carve {L : List Qn} {nxt : Int} (h : WQ L nxt) (p lim : Int) : WQ (carveQ L nxt p lim).1 (carveQ L nxt p lim).2.1 := by
  rw [carveQ]
  split
  · exact h
  · rename_i h1
    split
    · exact h
    · rename_i h2
      split
      · exact h
      · rename_i h3
        split
        · exact h
        · rename_i h4
          exact h.add (Decidable.not_not.1 h1) (by omega) (Decidable.not_not.1 h3) h4
theorem WQ.close {L : List Qn} {nxt : Int} (h : WQ L nxt) (id : Int) : WQ (closeQ L id).1 nxt := by
  rw [closeQ]
  split
  · exact h
  · rename_i h1
    obtain ⟨t, ht, rfl⟩ := Decidable.not_not.1 h1
    split
    · exact h
    · rename_i h2
      split
      · exact h
      · rename_i h3
        exact h.off ht h2 (fun h4 => h3 (.inr h4))
theorem WQ.charge {L : List Qn} {nxt : Int} (h : WQ L nxt) (id n : Int) : WQ (chargeQ L id n).1 nxt := by
  rw [chargeQ]
  split
  · exact h
  · rename_i h1
    obtain ⟨t, ht, rfl⟩ := Decidable.not_not.1 h1
    obtain ⟨e1, e2, e3, _⟩ := use_yes h.nd ht
    have hr := h.rg t ht
    split
    · exact h
    · split
      · exact h
      · rename_i h2 h3
        rw [e1, e2] at h3
        rw [e3]
        exact h.set ht (by omega) (by omega)
theorem WQ.refund {L : List Qn} {nxt : Int} (h : WQ L nxt) (id n : Int) : WQ (refundQ L id n).1 nxt := by
  rw [refundQ]
  split
  · exact h
  · rename_i h1
    obtain ⟨t, ht, rfl⟩ := Decidable.not_not.1 h1
    obtain ⟨_, _, e3, _⟩ := use_yes h.nd ht
    have hr := h.rg t ht
    split
    · exact h
    · rename_i h2
      rw [e3] at h2 ⊢
      exact h.set ht (by omega) (by omega)
end Go.Proofs.Ytmffldmipddngaa
