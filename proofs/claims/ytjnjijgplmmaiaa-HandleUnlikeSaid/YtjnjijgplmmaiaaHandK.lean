/-
  Proved here: what functions of this program compute, each as a contract over symbolic states, under the premises that each theorem names (most lines printed by a program of the prover).
-/
import Derived.Test.YtjnjijgplmmaiaaHandJ
namespace Go.Proofs.Ytjnjijgplmmaiaa
open Go Go.QM
theorem lookL_set {l : List Pl} {h st : Int} {m' m : Nat} {p' q : Pl} (hh : 0 ≤ h) (e : lookL l h st = some (m', p')) (hne : m ≠ m') : lookL (l.set m q) h st = some (m', p') := by
  obtain ⟨h1, h2, h3, h4⟩ := lookL_some hh e
  subst h4
  exact lookL_at (by rw [set_ne hne]; exact h1) h3 h2
theorem count_set {l : List Pl} {m : Nat} {p : Pl} (q : Pl) (h : l[m]? = some p) (f : Pl → Bool) : (l.set m q).countP f + (if f p then 1 else 0) = l.countP f + (if f q then 1 else 0) := by
  have hl := (List.getElem?_eq_some_iff.1 h).1
  have he : l[m] = p := (List.getElem?_eq_some_iff.1 h).2
  have := List.countP_set (p := f) (a := q) hl
  rw [he] at this
  have h2 : (if f p = true then 1 else 0) ≤ l.countP f := by
    split
    · rename_i hp; exact List.countP_pos_iff.2 ⟨p, List.mem_of_getElem? h, hp⟩
    · exact Nat.zero_le _
  omega
structure U1 (l : List Pl) (z : List (Int × Ob)) (i : Nat) : Prop where
  ok : OkT l
  nd : (z.map (·.1)).Nodup
  look : ∀ t ∈ z, ∃ m p, lookL l t.1 1 = some (m, p) ∧ p.o = t.2
  rg : ∀ t ∈ z, 0 ≤ t.1 ∧ t.1 ≤ 4294967295
  cnt : l.countP (fun p => decide (p.st = 1)) = z.length
  st : ∀ p ∈ l, (p.st = 0 ∨ p.st = 1 ∨ p.st = 2) ∧ p.age ≤ i
  le : z.length ≤ i
theorem U1.start : U1 (List.replicate 256 zeroPl) [] 0 where
  ok := ok_new
  nd := List.nodup_nil
  look := fun t ht => by cases ht
  rg := fun t ht => by cases ht
  cnt := by rw [List.countP_replicate]; rfl
  st := fun p hp => by rw [List.eq_of_mem_replicate hp]; exact ⟨.inl rfl, by decide⟩
  le := Nat.le_refl _
theorem U1.next {l : List Pl} {z : List (Int × Ob)} {i : Nat} (h : U1 l z i) : U1 l z (i + 1) :=
  { h with st := fun p hp => ⟨(h.st p hp).1, by have := (h.st p hp).2; omega⟩, le := by have := h.le; omega }
theorem U1.put {l : List Pl} {z : List (Int × Ob)} {i : Nat} (h : U1 l z i) (o : Ob) : ((putR l o).2.2 = 11 ∧ (putR l o).1 = l) ∨
    ((putR l o).2.2 = 0 ∧ U1 (putR l o).1 (z ++ [((putR l o).2.1, o)]) (i + 1) ∧ ∀ t ∈ z, t.1 ≠ (putR l o).2.1) := by
  unfold putR
  split
  · rename_i j hf
    obtain ⟨p, hj, hst⟩ := find_empty hf
    rw [hj]
    dsimp only
    have hlt := h.ok.lt hj
    have ha := h.ok.age p (List.mem_of_getElem? hj)
    have hne : ∀ t ∈ z, ∃ m q, lookL l t.1 1 = some (m, q) ∧ q.o = t.2 ∧ j ≠ m ∧ t.1 ≠ p.age * 256 + j := fun t ht => by
      obtain ⟨m, q, h1, h2⟩ := h.look t ht
      obtain ⟨k1, k2, k3, k4⟩ := lookL_some (h.rg t ht).1 h1
      have hjm : j ≠ m := fun e => by subst e; rw [hj] at k1; cases k1; omega
      exact ⟨m, q, h1, h2, hjm, by omega⟩
    have hs := set_at (q := (⟨o, 1, p.age⟩ : Pl)) hj
    refine .inr ⟨rfl, ⟨h.ok.set j ha, ?_, ?_, ?_, ?_, ?_, ?_⟩, fun t ht => (hne t ht).choose_spec.choose_spec.2.2.2⟩
    · rw [List.map_append, List.nodup_append]
      refine ⟨h.nd, by simp, ?_⟩
      intro x hx y hy e
      simp only [List.map_cons, List.map_nil, List.mem_singleton] at hy
      obtain ⟨t, ht, rfl⟩ := List.mem_map.1 hx
      obtain ⟨_, _, _, _, _, k⟩ := hne t ht
      exact k (by rw [e, hy])
    · intro t ht
      rcases List.mem_append.1 ht with ht | ht
      · obtain ⟨m, q, h1, h2, h3, _⟩ := hne t ht
        exact ⟨m, q, lookL_set (h.rg t ht).1 h1 h3, h2⟩
      · obtain rfl := List.mem_singleton.1 ht
        exact ⟨j, ⟨o, 1, p.age⟩, lookL_at (l := l.set j ⟨o, 1, p.age⟩) (p := ⟨o, 1, p.age⟩) hs hlt rfl, rfl⟩
    · intro t ht
      rcases List.mem_append.1 ht with ht | ht
      · exact h.rg t ht
      · obtain rfl := List.mem_singleton.1 ht
        dsimp only; omega
    · have := count_set ⟨o, 1, p.age⟩ hj (fun p => decide (p.st = 1))
      simp only [hst, h.cnt, List.length_append, List.length_cons, List.length_nil] at this ⊢
      simpa using this
    · intro q hq
      rcases List.mem_or_eq_of_mem_set hq with hq | rfl
      · exact ⟨(h.st q hq).1, by have := (h.st q hq).2; omega⟩
      · exact ⟨.inr (.inl rfl), by have := (h.st p (List.mem_of_getElem? hj)).2; dsimp only; omega⟩
    · have := h.le
      simp only [List.length_append, List.length_cons, List.length_nil]; omega
  · exact .inl ⟨rfl, rfl⟩
def cutZ (z : List (Int × Ob)) (n : Nat) : List (Int × Ob) := z.take n ++ z.drop (n + 1)
theorem cutZ_mem {z : List (Int × Ob)} {n : Nat} {t u : Int × Ob} (hn : z[n]? = some t) (hd : (z.map (·.1)).Nodup) (h : u ∈ cutZ z n) : u ∈ z ∧ u.1 ≠ t.1 := by
  have hz : z = z.take n ++ t :: z.drop (n + 1) := by
    obtain ⟨hl, he⟩ := List.getElem?_eq_some_iff.1 hn
    rw [← he, List.getElem_cons_drop, List.take_append_drop]
  rw [hz, List.map_append, List.nodup_append] at hd
  obtain ⟨_, h2, h3⟩ := hd
  rw [List.map_cons, List.nodup_cons] at h2
  rcases List.mem_append.1 h with h | h
  · exact ⟨List.mem_of_mem_take h, h3 _ (List.mem_map_of_mem h) _ (by simp)⟩
  · exact ⟨List.mem_of_mem_drop h, fun e => h2.1 (by rw [← e]; exact List.mem_map_of_mem h)⟩
theorem cutZ_sub (z : List (Int × Ob)) (n : Nat) : (cutZ z n).Sublist z := by
  conv => rhs; rw [← List.take_append_drop n z]
  exact (List.Sublist.refl _).append (by rw [← List.drop_drop]; exact List.drop_sublist _ _)
theorem cutZ_length {z : List (Int × Ob)} {n : Nat} (h : n < z.length) : (cutZ z n).length = z.length - 1 := by simp [cutZ]; omega
theorem U1.cut {l : List Pl} {z : List (Int × Ob)} {i n : Nat} {t : Int × Ob} (h : U1 l z i) (hn : z[n]? = some t) (hi : i ≤ 200) : ∃ m o a,
    killR l t.1 = (l.set m ⟨o, 2, a⟩, 0) ∧ OkT (l.set m ⟨o, 2, a⟩) ∧ U1 (l.set m ⟨o, 2, a⟩) (cutZ z n) (i + 1) ∧
    freeR (l.set m ⟨o, 2, a⟩) t.1 = (l.set m ⟨zeroOb, 0, a + 1⟩, t.2, 0) ∧ U1 (l.set m ⟨zeroOb, 0, a + 1⟩) (cutZ z n) (i + 1) := by
  have ht := List.mem_of_getElem? hn
  have hnl := (List.getElem?_eq_some_iff.1 hn).1
  obtain ⟨m, p, h1, h2⟩ := h.look t ht
  have hr := h.rg t ht
  obtain ⟨k1, k2, k3, k4⟩ := lookL_some hr.1 h1
  have ha := h.ok.age p (List.mem_of_getElem? k1)
  have hpi := (h.st p (List.mem_of_getElem? k1)).2
  have gen : ∀ q : Pl, (q.st = 0 ∨ q.st = 2) → (0 ≤ q.age ∧ q.age ≤ i + 1) → U1 (l.set m q) (cutZ z n) (i + 1) := fun q hq hqa =>
    { ok := h.ok.set m (by omega)
      nd := h.nd.sublist ((cutZ_sub z n).map _)
      look := fun u hu => by
        obtain ⟨hu1, hu2⟩ := cutZ_mem hn h.nd hu
        obtain ⟨m', p', e1, e2⟩ := h.look u hu1
        obtain ⟨g1, g2, _, _⟩ := lookL_some (h.rg u hu1).1 e1
        exact ⟨m', p', lookL_set (h.rg u hu1).1 e1 (fun e => by subst e; rw [k1] at g1; cases g1; exact hu2 (by omega)), e2⟩
      rg := fun u hu => h.rg u (cutZ_mem hn h.nd hu).1
      cnt := by
        have := count_set q k1 (fun p => decide (p.st = 1))
        have e : decide (q.st = 1) = false := by rw [decide_eq_false_iff_not]; omega
        rw [cutZ_length hnl]
        simp only [k4, e, h.cnt] at this
        simp at this
        omega
      st := fun x hx => by
        rcases List.mem_or_eq_of_mem_set hx with hx | rfl
        · exact ⟨(h.st x hx).1, by have := (h.st x hx).2; omega⟩
        · exact ⟨by omega, by omega⟩
      le := by rw [cutZ_length hnl]; have := h.le; omega }
  have hs := set_at (q := (⟨p.o, 2, p.age⟩ : Pl)) k1
  have hl2 : lookL (l.set m ⟨p.o, 2, p.age⟩) t.1 2 = some (m, ⟨p.o, 2, p.age⟩) := lookL_at (l := l.set m ⟨p.o, 2, p.age⟩) (p := ⟨p.o, 2, p.age⟩) hs k3 k2
  refine ⟨m, p.o, p.age, by rw [killR, h1], h.ok.set m ha, gen _ (.inr rfl) ⟨ha.1, by dsimp only; omega⟩, ?_, gen _ (.inl rfl) ⟨by dsimp only; omega, by dsimp only; omega⟩⟩
  rw [freeR, hl2]
  simp only [List.set_set]
  have : freeP ⟨p.o, 2, p.age⟩ = ⟨zeroOb, 0, p.age + 1⟩ := by rw [freeP, if_neg (by dsimp only; omega)]
  rw [this, h2]
theorem U1.get {l : List Pl} {z : List (Int × Ob)} {i : Nat} (h : U1 l z i) {t : Int × Ob} (ht : t ∈ z) : getR l t.1 = (t.2, 0) ∧ peekR l t.1 = (t.2, 0) := by
  obtain ⟨m, p, h1, h2⟩ := h.look t ht
  have hg : getR l t.1 = (t.2, 0) := by rw [getR, h1]; simp only [h2]
  refine ⟨hg, ?_⟩
  obtain ⟨k1, k2, k3, k4⟩ := lookL_some (h.rg t ht).1 h1
  have hn : lookL l t.1 2 = none := by
    cases hl : lookL l t.1 2 with
    | none => rfl
    | some x =>
      obtain ⟨m', p'⟩ := x
      obtain ⟨g1, g2, g3, g4⟩ := lookL_some (h.rg t ht).1 hl
      have h5 := h.ok.age p (List.mem_of_getElem? k1)
      have h6 := h.ok.age p' (List.mem_of_getElem? g1)
      have e : m = m' := by omega
      subst e
      rw [k1] at g1; cases g1; omega
  rw [peekR, hn]; exact hg
theorem three_counts : ∀ (l : List Pl), (∀ p ∈ l, p.st = 0 ∨ p.st = 1 ∨ p.st = 2) → (l.countP fun p => decide (p.st = 0)) + (l.countP fun p => decide (p.st = 1)) + (l.countP fun p => decide (p.st = 2)) = l.length
  | [], _ => rfl
  | p :: l, h => by
    have ih := three_counts l (fun q hq => h q (by simp [hq]))
    simp only [List.countP_cons, List.length_cons]
    rcases h p (by simp) with e | e | e <;> simp [e] <;> omega
theorem U1.sum {l : List Pl} {z : List (Int × Ob)} {i : Nat} (h : U1 l z i) : (allL l 1).length = z.length ∧ (allL l 0).length + (allL l 1).length + (allL l 2).length = 256 := by
  refine ⟨by rw [allL_count, h.cnt], ?_⟩
  have := three_counts l (fun p hp => (h.st p hp).1)
  rw [h.ok.n] at this
  rw [allL_count, allL_count, allL_count]; exact this

end Go.Proofs.Ytjnjijgplmmaiaa
