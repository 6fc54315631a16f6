/-
  Proved here: what functions of this program compute, each as a contract over symbolic states, under the premises that each theorem names (most lines printed by a program of the prover).
-/
import Derived.Test.YtdfmfhcjnjfjbaaRdA
namespace Go.Proofs.Ytdfmfhcjnjfjbaa.Rd
open Go Go.QM
structure Th where
  id : Int
  prio : Int
  whole : Int
  left : Int
def thC (t : Th) : List Value := [.int .i64 t.whole, .int .i64 t.left, .int .i64 t.prio]
def rowA (S : List Th) (p : Nat) : List Int := (S.filter fun t => decide (t.prio = (p : Int))).map (·.id)
def hasS (S : List Th) (id : Int) : Prop := ∃ t ∈ S, t.id = id
instance (S : List Th) (id : Int) : Decidable (hasS S id) := inferInstanceAs (Decidable (∃ t ∈ S, t.id = id))
def fS (A : Int → Nat) (S : List Th) : Int → Option Value := fun id => if hasS S id then some (.pointer (some ⟨A id, 0, none⟩)) else none
def NdS (S : List Th) : Prop := (S.map (·.id)).Nodup
structure RInv (S : List Th) : Prop where
  nd : NdS S
  rg : ∀ t ∈ S, 0 ≤ t.id ∧ (0 ≤ t.prio ∧ t.prio ≤ 7) ∧ (0 ≤ t.whole ∧ t.whole ≤ 16) ∧ 0 ≤ t.left ∧ t.left ≤ 16
structure RRep where
  ad : Nat → Option Addr
  cap : Nat → Nat
  mb : Nat
  A : Int → Nat
abbrev rowP (ad : Nat → Option Addr) (cap : Nat → Nat) (S : List Th) (p : Nat) : HP := slc 3 1 (ad p) (rowA S p).length (cap p) (ints (rowA S p))
abbrev thP (A : Int → Nat) (t : Th) : HP := pts (A t.id) 109 (thC t)
abbrev hdS (ad : Nat → Option Addr) (cap : Nat → Nat) (mb : Nat) (S : List Th) : List Value := rowsC (fun p => .slice (ad p) (rowA S p).length (cap p)) [.map (some mb)]
def isQ (q : Nat) (S : List Th) : HP := EX fun y : RRep => pure' (RInv S) (sepL [pts q 89 (hdS y.ad y.cap y.mb S), bigS (rowP y.ad y.cap S) (List.range 8), mapF encI y.mb (fS y.A S) S.length, bigS (thP y.A) S])
theorem NdS.perm {S T : List Th} (h : NdS S) (p : T.Perm S) : NdS T := (p.map _).nodup_iff.2 h
theorem NdS.inj {S : List Th} (h : NdS S) {t u : Th} (ht : t ∈ S) (hu : u ∈ S) (e : t.id = u.id) : t = u := by
  obtain ⟨L, hL⟩ := perm_mem ht
  rcases List.mem_cons.1 (hL.mem_iff.1 hu) with h1 | h1
  · exact h1.symm
  · exact absurd (List.mem_map.2 ⟨u, h1, e.symm⟩) (List.nodup_cons.1 (h.perm hL.symm)).1
def offS (S : List Th) (id : Int) : List Th := S.filter fun t => decide (t.id ≠ id)
theorem off_perm {S L : List Th} {t : Th} (h : NdS S) (hL : S.Perm (t :: L)) : (offS S t.id).Perm L := by
  have h1 := hL.filter fun u => decide (u.id ≠ t.id)
  rw [List.filter_cons_of_neg (by simp)] at h1
  have h2 : L.filter (fun u => decide (u.id ≠ t.id)) = L := List.filter_eq_self.2 fun u hu => by
    have := (List.nodup_cons.1 (h.perm hL.symm)).1
    simp only [decide_eq_true_eq]
    exact fun e => this (List.mem_map.2 ⟨u, hu, e⟩)
  rw [h2] at h1; exact h1
theorem fS_congr {A : Int → Nat} {S T : List Th} (h : ∀ x, hasS T x ↔ hasS S x) : fS A T = fS A S := by
  funext x; simp only [fS, h x]
theorem fS_yes {A : Int → Nat} {S : List Th} {id : Int} (h : hasS S id) : fS A S id = some (.pointer (some ⟨A id, 0, none⟩)) := if_pos h
theorem fS_no {A : Int → Nat} {S : List Th} {id : Int} (h : ¬ hasS S id) : fS A S id = none := if_neg h
theorem offS_not (S : List Th) (x : Int) : ¬ hasS (offS S x) x := by
  rintro ⟨t, ht, h⟩
  have := (List.mem_filter.1 ht).2
  simp at this; exact this h
theorem offS_has {S : List Th} {x y : Int} : hasS (offS S x) y ↔ hasS S y ∧ y ≠ x := by
  constructor
  · rintro ⟨t, ht, rfl⟩
    obtain ⟨h1, h2⟩ := List.mem_filter.1 ht
    exact ⟨⟨t, h1, rfl⟩, by simpa using h2⟩
  · rintro ⟨⟨t, ht, rfl⟩, h⟩
    exact ⟨t, List.mem_filter.2 ⟨ht, by simpa using h⟩, rfl⟩
theorem offS_none {S : List Th} {x : Int} (h : ¬ hasS S x) : offS S x = S := List.filter_eq_self.2 fun t ht => by
  simp only [decide_eq_true_eq]; exact fun e => h ⟨t, ht, e⟩
theorem offS_len {S : List Th} {x : Int} (hn : NdS S) (h : hasS S x) : (offS S x).length + 1 = S.length := by
  obtain ⟨t, ht, rfl⟩ := h
  obtain ⟨L, hL⟩ := perm_mem ht
  rw [(off_perm hn hL).length_eq, hL.length_eq]; rfl
theorem RInv.sub {S T : List Th} (h : RInv S) (hs : T.Sublist S) : RInv T := ⟨h.nd.sublist (hs.map _), fun t ht => h.rg t (hs.subset ht)⟩
theorem RInv.off {S : List Th} (h : RInv S) (x : Int) : RInv (offS S x) := h.sub List.filter_sublist
/-- What Add does. -/
def addS (S : List Th) (id prio sl : Int) : List Th × Int := if id < 0 ∨ prio < 0 ∨ 7 < prio ∨ sl < 1 ∨ 16 < sl then (S, 1) else if hasS S id then (S, 7) else (S ++ [⟨id, prio, sl, sl⟩], 0)
theorem RInv.add {S : List Th} (h : RInv S) {t : Th} (hx : ¬ hasS S t.id) (hr : 0 ≤ t.id ∧ (0 ≤ t.prio ∧ t.prio ≤ 7) ∧ (0 ≤ t.whole ∧ t.whole ≤ 16) ∧ 0 ≤ t.left ∧ t.left ≤ 16) : RInv (S ++ [t]) where
  nd := by
    rw [NdS, List.map_append, List.nodup_append]
    refine ⟨h.nd, by simp, fun x hx1 y hy => ?_⟩
    obtain ⟨a, ha, rfl⟩ := List.mem_map.1 hx1
    simp only [List.map_cons, List.map_nil, List.mem_singleton] at hy
    rw [hy]; exact fun e => hx ⟨a, ha, e⟩
  rg := fun u hu => by
    rcases List.mem_append.1 hu with hu | hu
    · exact h.rg u hu
    · rw [List.mem_singleton.1 hu]; exact hr
theorem rowA_app (S T : List Th) (p : Nat) : rowA (S ++ T) p = rowA S p ++ rowA T p := by simp [rowA]
theorem rowA_one {t : Th} {p : Nat} (h : t.prio = p) : rowA [t] p = [t.id] := by simp [rowA, h]
theorem rowA_one_ne {t : Th} {p : Nat} (h : t.prio ≠ p) : rowA [t] p = [] := by simp [rowA, h]
theorem fS_add {A : Int → Nat} {S : List Th} {t : Th} (b : Nat) : fS (updI A t.id b) (S ++ [t]) = updF (fS A S) t.id (.pointer (some ⟨b, 0, none⟩)) := by
  funext x
  simp only [fS, updF]
  have hh : hasS (S ++ [t]) x ↔ hasS S x ∨ t.id = x := by simp [hasS, or_and_right, exists_or]
  by_cases e : x = t.id
  · rw [if_pos (hh.2 (.inr e.symm)), if_pos e, e, updI_same]
  · rw [if_neg e, updI_ne e]
    by_cases h : hasS S x
    · rw [if_pos (hh.2 (.inl h)), if_pos h]
    · rw [if_neg (fun h2 => (hh.1 h2).elim h (fun e2 => e e2.symm)), if_neg h]
theorem fS_off {A : Int → Nat} {S : List Th} (x : Int) : fS A (offS S x) = delF (fS A S) x := by
  funext y
  simp only [fS, delF]
  by_cases e : y = x
  · rw [if_pos e, if_neg (fun h => (offS_has.1 h).2 e)]
  · rw [if_neg e]
    by_cases h : hasS S y
    · rw [if_pos h, if_pos (offS_has.2 ⟨h, e⟩)]
    · rw [if_neg h, if_neg (fun h2 => h (offS_has.1 h2).1)]
theorem rowA_mem {S : List Th} {p : Nat} {x : Int} : x ∈ rowA S p ↔ ∃ t ∈ S, t.prio = p ∧ t.id = x := by simp [rowA, and_assoc]
theorem rowA_len (S : List Th) (p : Nat) : (rowA S p).length ≤ S.length := by rw [rowA, List.length_map]; exact List.length_filter_le _ _
theorem rowA_off (S : List Th) (p : Nat) (x : Int) : rowA (offS S x) p = (rowA S p).filter fun y => decide (y ≠ x) := by
  rw [rowA, rowA, List.filter_map, offS, List.filter_filter, List.filter_filter]
  congr 1
  refine List.filter_congr fun t _ => ?_
  simp only [Function.comp_apply, Bool.and_comm]
theorem rowA_off_ne {S : List Th} (hn : NdS S) {t : Th} (ht : t ∈ S) {p : Nat} (hp : t.prio ≠ p) : rowA (offS S t.id) p = rowA S p := by
  rw [rowA_off]
  refine List.filter_eq_self.2 fun y hy => ?_
  obtain ⟨u, hu, h1, rfl⟩ := rowA_mem.1 hy
  simp only [decide_eq_true_eq]
  intro e
  rw [hn.inj hu ht e] at h1; exact hp h1
theorem rows_ne {ad : Nat → Option Addr} {cap : Nat → Nat} {S T : List Th} {p : Nat} {L : List Nat} {a : Option Addr} {c : Nat} (hL : ∀ x ∈ L, x ≠ p ∧ x < 8) (h : ∀ x, x ≠ p → rowA T x = rowA S x) : ∀ x ∈ L, rowP ad cap S x = rowP (updN ad p a) (updN cap p c) T x := fun x hx => by
  have := (hL x hx).1
  simp only [rowP, updN_ne this, h x this]
theorem rows_eq {ad : Nat → Option Addr} {cap : Nat → Nat} {S T : List Th} {p : Nat} {L : List Nat} (hL : ∀ x ∈ L, x ≠ p ∧ x < 8) (h : ∀ x, x ≠ p → rowA T x = rowA S x) : ∀ x ∈ L, rowP ad cap S x = rowP ad cap T x := fun x hx => by
  have := (hL x hx).1
  simp only [rowP, h x this]
theorem hd_upd {ad : Nat → Option Addr} {cap : Nat → Nat} {mb : Nat} {S T : List Th} {p n c : Nat} {a : Option Addr} (h : ∀ x, x ≠ p → rowA T x = rowA S x) (hp : (rowA T p).length = n) :
    rowsC (fun x => if x = p then Value.slice a n c else .slice (ad x) (rowA S x).length (cap x)) [.map (some mb)] = hdS (updN ad p a) (updN cap p c) mb T := rows_congr fun x _ => by
  by_cases e : x = p
  · rw [if_pos e, e, updN_same, updN_same, hp]
  · rw [if_neg e, updN_ne e, updN_ne e, h x e]
theorem hd_same {ad : Nat → Option Addr} {cap : Nat → Nat} {mb : Nat} {S T : List Th} (h : ∀ x, (rowA T x).length = (rowA S x).length) : hdS ad cap mb S = hdS ad cap mb T := rows_congr fun x _ => by rw [h x]
/-- What Drop does. -/
def dropS (S : List Th) (ids : List Int) : List Th := ids.foldl offS S
theorem dropS_snoc (S : List Th) (ids : List Int) (x : Int) : dropS S (ids ++ [x]) = offS (dropS S ids) x := by simp [dropS]
theorem dropS_sub (S : List Th) : ∀ ids, (dropS S ids).Sublist S
  | [] => List.Sublist.refl _
  | x :: l => by rw [dropS, List.foldl_cons]; exact (dropS_sub (offS S x) l).trans List.filter_sublist
theorem dropS_eq (S : List Th) (ids : List Int) : dropS S ids = S.filter fun t => decide (t.id ∉ ids) := by
  induction ids generalizing S with
  | nil => exact (List.filter_eq_self.2 fun a _ => by simp).symm
  | cons x l ih =>
    rw [dropS, List.foldl_cons]
    have := ih (offS S x)
    rw [dropS] at this
    rw [this, offS, List.filter_filter]
    congr 1; funext e
    rw [Bool.eq_iff_iff]
    simp only [Bool.and_eq_true, decide_eq_true_eq, List.mem_cons, not_or]
    exact ⟨fun h => ⟨h.2, h.1⟩, fun h => ⟨h.2, h.1⟩⟩
/-- Who runs. -/
def topS (S : List Th) : Option Th := S.find? fun t => S.all fun u => decide (u.prio ≤ t.prio)
def runS (S : List Th) : Int := match topS S with
  | some t => t.id
  | none => -1
theorem top_mem {S : List Th} {t : Th} (h : topS S = some t) : t ∈ S ∧ ∀ u ∈ S, u.prio ≤ t.prio := by
  refine ⟨List.mem_of_find?_eq_some h, fun u hu => ?_⟩
  have := List.find?_some h
  rw [List.all_eq_true] at this
  simpa using this u hu
theorem top_row {S : List Th} (h : RInv S) {p : Nat} (hn : ∀ x, p < x → x < 8 → rowA S x = []) {x : Int} {rest : List Int} (hr : rowA S p = x :: rest) : ∃ t, topS S = some t ∧ t.id = x ∧ t.prio = p := by
  have hle : ∀ u ∈ S, u.prio ≤ p := fun u hu => by
    have h1 := h.rg u hu
    obtain ⟨k, hk⟩ := Int.eq_ofNat_of_zero_le h1.2.1.1
    by_cases hpk : p < k
    · have := hn k hpk (by omega)
      have hm : u.id ∈ rowA S k := rowA_mem.2 ⟨u, hu, hk, rfl⟩
      rw [this] at hm; cases hm
    · omega
  obtain ⟨t, T, hf⟩ : ∃ t T, S.filter (fun t => decide (t.prio = (p : Int))) = t :: T := by
    cases hS : S.filter (fun t => decide (t.prio = (p : Int))) with
    | nil => rw [rowA, hS] at hr; cases hr
    | cons t T => exact ⟨t, T, rfl⟩
  have hid : t.id = x := by rw [rowA, hf] at hr; simpa using (List.cons.inj hr).1
  have hmt := List.mem_filter.1 (show t ∈ S.filter (fun t => decide (t.prio = (p : Int))) by rw [hf]; simp)
  have htp : t.prio = p := by simpa using hmt.2
  refine ⟨t, ?_, hid, htp⟩
  have h2 : topS S = S.find? fun t => decide (t.prio = (p : Int)) := by
    rw [topS]
    have : ∀ u ∈ S, (S.all fun v => decide (v.prio ≤ u.prio)) = decide (u.prio = (p : Int)) := fun u hu => by
      rw [Bool.eq_iff_iff, List.all_eq_true]
      simp only [decide_eq_true_eq]
      constructor
      · intro h3
        have h4 := h3 t hmt.1; have h5 := hle u hu; omega
      · intro h3 v hv
        have := hle v hv; omega
    induction S with
    | nil => rfl
    | cons a l _ => exact find_congr this
  rw [h2, ← List.head?_filter, hf]; rfl
where find_congr {f g : Th → Bool} : ∀ {l : List Th}, (∀ u ∈ l, f u = g u) → l.find? f = l.find? g
  | [], _ => rfl
  | a :: l, h => by
    rw [List.find?_cons, List.find?_cons, h a (by simp), find_congr fun u hu => h u (by simp [hu])]
theorem top_none {S : List Th} (h : RInv S) (hn : ∀ x, x < 8 → rowA S x = []) : S = [] := by
  rcases S with _ | ⟨t, T⟩
  · rfl
  · have h1 := h.rg t (by simp)
    obtain ⟨k, hk⟩ := Int.eq_ofNat_of_zero_le h1.2.1.1
    have hm : t.id ∈ rowA (t :: T) k := rowA_mem.2 ⟨t, by simp, hk, rfl⟩
    rw [hn k (by omega)] at hm; cases hm
/-- A thread goes round. -/
def rndS (S : List Th) (t : Th) : List Th := offS S t.id ++ [⟨t.id, t.prio, t.whole, t.whole⟩]
def setL (S : List Th) (id v : Int) : List Th := S.map fun t => if t.id = id then ⟨t.id, t.prio, t.whole, v⟩ else t
def tickS (S : List Th) : List Th := match topS S with
  | none => S
  | some t => if t.left = 1 then rndS S t else setL S t.id (t.left - 1)
def yieldS (S : List Th) : List Th := match topS S with
  | none => S
  | some t => rndS S t
theorem rnd_has {S : List Th} {t : Th} (ht : t ∈ S) (x : Int) : hasS (rndS S t) x ↔ hasS S x := by
  have hh : hasS (rndS S t) x ↔ hasS (offS S t.id) x ∨ t.id = x := by simp [rndS, hasS, or_and_right, exists_or]
  rw [hh, offS_has]
  constructor
  · rintro (h | h)
    · exact h.1
    · exact ⟨t, ht, h⟩
  · intro h
    by_cases e : x = t.id
    · exact .inr e.symm
    · exact .inl ⟨h, e⟩
theorem RInv.rnd {S : List Th} (h : RInv S) {t : Th} (ht : t ∈ S) : RInv (rndS S t) :=
  (h.off t.id).add (t := ⟨t.id, t.prio, t.whole, t.whole⟩) (offS_not S t.id) (by have := h.rg t ht; dsimp only; omega)
theorem rnd_len {S : List Th} (h : NdS S) {t : Th} (ht : t ∈ S) : (rndS S t).length = S.length := by
  have := offS_len h ⟨t, ht, rfl⟩
  rw [rndS, List.length_append, List.length_singleton]; omega
theorem rnd_row_ne {S : List Th} (hn : NdS S) {t : Th} (ht : t ∈ S) {p x : Nat} (hp : t.prio = p) (hx : x ≠ p) : rowA (rndS S t) x = rowA S x := by
  have h1 : t.prio ≠ (x : Int) := by omega
  rw [rndS, rowA_app, rowA_one_ne (by dsimp only; exact h1), List.append_nil, rowA_off_ne hn ht h1]
theorem rowA_nd {S : List Th} (hn : NdS S) (p : Nat) : (rowA S p).Nodup := hn.sublist (List.filter_sublist.map _)
theorem rnd_row {S : List Th} (hn : NdS S) {t : Th} {p : Nat} (hp : t.prio = p) {rest : List Int} (hr : rowA S p = t.id :: rest) : rowA (rndS S t) p = rest ++ [t.id] := by
  rw [rndS, rowA_app, rowA_one (by dsimp only; exact hp), rowA_off, hr, List.filter_cons_of_neg (by simp)]
  have h1 := rowA_nd hn p
  rw [hr, List.nodup_cons] at h1
  rw [List.filter_eq_self.2 fun y hy => by simp only [decide_eq_true_eq]; exact fun e => h1.1 (by rw [← e]; exact hy)]
theorem top_first {S : List Th} {t : Th} (h : topS S = some t) {p : Nat} (hp : t.prio = p) : ∃ rest, rowA S p = t.id :: rest := by
  obtain ⟨hm, hle⟩ := top_mem h
  have h2 : topS S = S.find? fun t => decide (t.prio = (p : Int)) := by
    rw [topS]
    refine top_row.find_congr fun u hu => ?_
    rw [Bool.eq_iff_iff, List.all_eq_true]
    simp only [decide_eq_true_eq]
    constructor
    · intro h3
      have h4 := h3 t hm; have h5 := hle u hu; omega
    · intro h3 v hv
      have := hle v hv; omega
  rw [h2, ← List.head?_filter] at h
  cases hf : S.filter (fun t => decide (t.prio = (p : Int))) with
  | nil => rw [hf] at h; cases h
  | cons a l =>
    rw [hf] at h
    simp only [List.head?_cons, Option.some.injEq] at h
    exact ⟨l.map (·.id), by rw [rowA, hf, h]; rfl⟩
theorem row_copy (x : Int) (rest : List Int) : splice 0 (((ints (x :: rest)).drop (1 * 1)).take (rest.length * 1)) (ints (x :: rest)) = ints (rest ++ (x :: rest).drop rest.length) := by
  simp [splice, ints, List.map_drop]
  exact List.take_of_length_le (by simp)
theorem row_set (x : Int) (rest : List Int) : (rest ++ (x :: rest).drop rest.length).set rest.length x = rest ++ [x] := by
  rw [List.set_append_right _ _ (Nat.le_refl _), Nat.sub_self]
  have hl : ((x :: rest).drop rest.length).length = 1 := by simp
  obtain ⟨y, hy⟩ : ∃ y, (x :: rest).drop rest.length = [y] := List.length_eq_one_iff.1 hl
  rw [hy]; rfl
theorem setL_has (S : List Th) (id v x : Int) : hasS (setL S id v) x ↔ hasS S x := by
  simp only [hasS, setL, List.mem_map]
  constructor
  · rintro ⟨_, ⟨t, ht, rfl⟩, h⟩
    exact ⟨t, ht, by split at h <;> exact h⟩
  · rintro ⟨t, ht, h⟩
    exact ⟨_, ⟨t, ht, rfl⟩, by split <;> exact h⟩
theorem setL_row (S : List Th) (id v : Int) (p : Nat) : rowA (setL S id v) p = rowA S p := by
  rw [rowA, rowA, setL, List.filter_map, List.map_map]
  have h1 : ((fun t : Th => decide (t.prio = (p : Int))) ∘ fun t : Th => if t.id = id then (⟨t.id, t.prio, t.whole, v⟩ : Th) else t) = fun t => decide (t.prio = (p : Int)) := by
    funext t; simp only [Function.comp_apply]; split <;> rfl
  rw [h1]
  exact List.map_congr_left fun t _ => by simp only [Function.comp_apply]; split <;> rfl
theorem setL_ids (S : List Th) (id v : Int) : (setL S id v).map (·.id) = S.map (·.id) := by
  rw [setL, List.map_map]
  exact List.map_congr_left fun t _ => by simp only [Function.comp_apply]; split <;> rfl
theorem setL_len (S : List Th) (id v : Int) : (setL S id v).length = S.length := by simp [setL]
theorem RInv.setL {S : List Th} (h : RInv S) (id : Int) {v : Int} (hv : 0 ≤ v ∧ v ≤ 16) : RInv (setL S id v) where
  nd := by rw [NdS, setL_ids]; exact h.nd
  rg := fun t ht => by
    obtain ⟨u, hu, rfl⟩ := List.mem_map.1 ht
    have := h.rg u hu
    split
    · dsimp only; omega
    · exact this
theorem setL_perm {S L : List Th} {t : Th} (hn : NdS S) (hL : S.Perm (t :: L)) (v : Int) : (⟨t.id, t.prio, t.whole, v⟩ :: L : List Th).Perm (setL S t.id v) := by
  have h1 := hL.map fun u : Th => if u.id = t.id then (⟨u.id, u.prio, u.whole, v⟩ : Th) else u
  rw [List.map_cons, if_pos rfl] at h1
  have h2 : L.map (fun u : Th => if u.id = t.id then (⟨u.id, u.prio, u.whole, v⟩ : Th) else u) = L := by
    conv => rhs; rw [← List.map_id L]
    refine List.map_congr_left fun u hu => ?_
    have := (List.nodup_cons.1 (hn.perm hL.symm)).1
    rw [if_neg (fun e => this (List.mem_map.2 ⟨u, hu, e⟩))]; rfl
  rw [h2] at h1
  exact h1.symm
theorem setL_top {S : List Th} {t : Th} (h : topS S = some t) (v : Int) : topS (setL S t.id v) = some ⟨t.id, t.prio, t.whole, v⟩ := by
  have hf : ∀ u : Th, (if u.id = t.id then (⟨u.id, u.prio, u.whole, v⟩ : Th) else u).prio = u.prio := fun u => by split <;> rfl
  rw [topS, setL, List.find?_map]
  have h1 : ((fun a : Th => (S.map fun u : Th => if u.id = t.id then (⟨u.id, u.prio, u.whole, v⟩ : Th) else u).all fun w => decide (w.prio ≤ a.prio)) ∘ fun u : Th => if u.id = t.id then (⟨u.id, u.prio, u.whole, v⟩ : Th) else u) = fun a => S.all fun w => decide (w.prio ≤ a.prio) := by
    funext a
    simp only [Function.comp_apply, hf, List.all_map]
    congr 1; funext w; simp only [Function.comp_apply, hf]
  rw [h1]
  have h2 : S.find? (fun a => S.all fun w => decide (w.prio ≤ a.prio)) = some t := h
  rw [h2, Option.map_some, if_pos rfl]
theorem setL_off (S : List Th) (id v : Int) : offS (setL S id v) id = offS S id := by
  rw [offS, offS, setL, List.filter_map]
  have h1 : ((fun u : Th => decide (u.id ≠ id)) ∘ fun t : Th => if t.id = id then (⟨t.id, t.prio, t.whole, v⟩ : Th) else t) = fun u => decide (u.id ≠ id) := by
    funext u; simp only [Function.comp_apply]; split <;> rfl
  rw [h1]
  conv => rhs; rw [← List.map_id (S.filter _)]
  refine List.map_congr_left fun u hu => ?_
  have := (List.mem_filter.1 hu).2
  rw [if_neg (by simpa using this)]; rfl
/-- What is left of a thread; its priority. -/
def leftS (S : List Th) (id : Int) : Int := match S.find? fun t => decide (t.id = id) with
  | some t => t.left
  | none => 0
def prioS (S : List Th) (id : Int) : Int := match S.find? fun t => decide (t.id = id) with
  | some t => t.prio
  | none => -1
theorem findS_yes {S : List Th} (hn : NdS S) {t : Th} (ht : t ∈ S) : S.find? (fun u => decide (u.id = t.id)) = some t := by
  cases hf : S.find? (fun u => decide (u.id = t.id)) with
  | none => rw [List.find?_eq_none] at hf; have := hf t ht; simp at this
  | some u =>
    have h1 := List.find?_some hf
    rw [hn.inj (List.mem_of_find?_eq_some hf) ht (by simpa using h1)]
theorem findS_no {S : List Th} {id : Int} (h : ¬ hasS S id) : S.find? (fun u => decide (u.id = id)) = none := by
  rw [List.find?_eq_none]; intro u hu; simp only [decide_eq_true_eq]; exact fun e => h ⟨u, hu, e⟩
theorem RInv.nil : RInv [] := ⟨List.nodup_nil, fun t h => by cases h⟩
theorem not_neg {S : List Th} (h : RInv S) : ¬ hasS S (-1) := by
  rintro ⟨t, ht, h1⟩
  have := h.rg t ht; omega

end Go.Proofs.Ytdfmfhcjnjfjbaa.Rd
