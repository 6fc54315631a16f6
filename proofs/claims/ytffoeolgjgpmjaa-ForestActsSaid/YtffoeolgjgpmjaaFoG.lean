/-
  Proved here: what functions of this program compute, each as a contract over symbolic states, under the premises that each theorem names (most lines printed by a program of the prover).
-/
import Derived.Test.YtffoeolgjgpmjaaFoE
namespace Go.Proofs.Ytffoeolgjgpmjaa
open Go Go.QM
/-- A list told by its places. -/
def fl (n : Nat) (g : Nat → Value) : List Value := (List.range n).map g
theorem fl_length (n : Nat) (g : Nat → Value) : (fl n g).length = n := by simp [fl]
theorem fl_get {n v : Nat} (g : Nat → Value) (h : v < n) : (fl n g)[v]? = some (g v) := by
  rw [fl, List.getElem?_map, List.getElem?_range h]; rfl
theorem fl_set {n v : Nat} {g g' : Nat → Value} {x : Value} (h : v < n) (h1 : g' v = x) (h2 : ∀ u, u ≠ v → g' u = g u) : splice v [x] (fl n g) = fl n g' := by
  have h3 : splice v [x] (fl n g) = (fl n g).set v x := by
    rw [List.set_eq_take_append_cons_drop, if_pos (by rw [fl_length]; exact h)]; simp [splice]
  rw [h3]
  apply List.ext_getElem?
  intro u
  by_cases hu : u < n
  · by_cases e : u = v
    · subst e; rw [List.getElem?_set_self (by rw [fl_length]; exact h), fl_get _ h, h1]
    · rw [List.getElem?_set_ne (fun e2 => e e2.symm), fl_get _ hu, fl_get _ hu, h2 u e]
  · rw [List.getElem?_eq_none (by rw [List.length_set, fl_length]; omega), List.getElem?_eq_none (by rw [fl_length]; omega)]
def tr (o : Nat → Int × Int) (l : List Int) : Nat → List Fn
  | 0 => []
  | n + 1 => tr o l n ++ [⟨(n : Int) + 1, l.getD n 0 % ((n : Int) + 1), (o n).1, (o n).2⟩]
theorem tr_len (o : Nat → Int × Int) (l : List Int) : ∀ n, (tr o l n).length = n
  | 0 => rfl
  | n + 1 => by rw [tr, List.length_append, tr_len o l n]; rfl
theorem tr_mem {o : Nat → Int × Int} {l : List Int} {t : Fn} : ∀ {n : Nat}, t ∈ tr o l n ↔ ∃ i, i < n ∧ t = ⟨(i : Int) + 1, l.getD i 0 % ((i : Int) + 1), (o i).1, (o i).2⟩
  | 0 => ⟨(fun h => by cases h), (fun ⟨i, h, _⟩ => by omega)⟩
  | n + 1 => by
    rw [tr, List.mem_append, List.mem_singleton, tr_mem (n := n)]
    constructor
    · rintro (⟨i, h1, h2⟩ | h)
      · exact ⟨i, by omega, h2⟩
      · exact ⟨n, by omega, h⟩
    · rintro ⟨i, h1, h2⟩
      rcases Nat.lt_succ_iff_lt_or_eq.1 h1 with h3 | h3
      · exact .inl ⟨i, h3, h2⟩
      · subst h3; exact .inr h2
theorem tr_has {o : Nat → Int × Int} {l : List Int} {n : Nat} {x : Int} : hasN (tr o l n) x ↔ 1 ≤ x ∧ x ≤ n := by
  constructor
  · rintro ⟨t, ht, rfl⟩
    obtain ⟨i, hi, rfl⟩ := tr_mem.1 ht
    dsimp only; omega
  · rintro ⟨h1, h2⟩
    exact ⟨_, tr_mem.2 ⟨(x - 1).toNat, by omega, rfl⟩, by dsimp only; omega⟩
theorem tr_hasO {o : Nat → Int × Int} {l : List Int} {n : Nat} {p : Int × Int} : hasO (tr o l n) p ↔ ∃ i, i < n ∧ o i = p := by
  constructor
  · rintro ⟨t, ht, rfl⟩
    obtain ⟨i, hi, rfl⟩ := tr_mem.1 ht
    exact ⟨i, hi, rfl⟩
  · rintro ⟨i, hi, rfl⟩
    exact ⟨_, tr_mem.2 ⟨i, hi, rfl⟩, rfl⟩
theorem tr_new {o : Nat → Int × Int} (ho : ∀ i j, o i = o j → i = j) (l : List Int) (n : Nat) : ¬ hasO (tr o l n) (o n) := fun h => by
  obtain ⟨i, h1, h2⟩ := tr_hasO.1 h
  have := ho i n h2; omega
theorem tr_wi {o : Nat → Int × Int} (ho : ∀ i j, o i = o j → i = j) (l : List Int) : ∀ n : Nat, WI (tr o l n) n
  | 0 => WI.nil
  | n + 1 => by
    have h1 := Int.emod_nonneg (l.getD n 0) (show (n : Int) + 1 ≠ 0 by omega)
    have h2 := Int.emod_lt_of_pos (l.getD n 0) (show (0 : Int) < (n : Int) + 1 by omega)
    exact (tr_wi ho l n).add rfl ⟨h1, by dsimp only; omega⟩ (tr_new ho l n)
theorem tr_add {o : Nat → Int × Int} (ho : ∀ i j, o i = o j → i = j) (l : List Int) (n : Nat) {x : Int} (hx : l[n]? = some x) : addN (tr o l n) n (x % ((n : Int) + 1)) ((o n).1, (o n).2) = (tr o l (n + 1), ((n + 1 : Nat) : Int), (n : Int) + 1, 0) := by
  have h0 : l.getD n 0 = x := by rw [List.getD_eq_getElem?_getD, hx]; rfl
  have h1 := Int.emod_nonneg x (show (n : Int) + 1 ≠ 0 by omega)
  have h2 := Int.emod_lt_of_pos x (show (0 : Int) < (n : Int) + 1 by omega)
  rw [addN, if_neg, if_neg]
  · rw [tr, h0]; rfl
  · exact fun h => h (findO_no (tr_new ho l n))
  · rw [tr_has]; omega
theorem tr_find {o : Nat → Int × Int} (ho : ∀ i j, o i = o j → i = j) (l : List Int) {n i : Nat} (h : i < n) : findO (tr o l n) (o i) = (i : Int) + 1 :=
  findO_yes (tr_wi ho l n).no (t := ⟨(i : Int) + 1, l.getD i 0 % ((i : Int) + 1), (o i).1, (o i).2⟩) (tr_mem.2 ⟨i, h, rfl⟩)
def o7 (i : Nat) : Int × Int := ((i : Int) / 7, (i : Int) % 7)
def o0 (i : Nat) : Int × Int := (0, (i : Int))
theorem o7_inj (i j : Nat) (h : o7 i = o7 j) : i = j := by
  have h1 : (i : Int) / 7 = (j : Int) / 7 := congrArg Prod.fst h
  have h2 : (i : Int) % 7 = (j : Int) % 7 := congrArg Prod.snd h
  omega
theorem o0_inj (i j : Nat) (h : o0 i = o0 j) : i = j := by
  have h2 : (i : Int) = (j : Int) := congrArg Prod.snd h
  omega
/-- Cut. -/
theorem offL_take {L : List Fn} {last : Int} (h : WI L last) (p : Int) : ∀ i, i ≤ (belR L last p).length → (offL L ((belR L last p).take i)).length + i = L.length
  | 0, _ => by rw [List.take_zero]; rfl
  | i + 1, hi => by
    have ih := offL_take h p i (by omega)
    obtain ⟨x, hx⟩ : ∃ x, (belR L last p)[i]? = some x := ⟨_, List.getElem?_eq_getElem (by omega)⟩
    obtain ⟨t, _, rfl, ht⟩ := cut_next h hx
    have := offN_len (h.offL ((belR L last p).take i)).nd ht
    rw [List.take_add_one, hx, Option.toList, offL_snoc]; omega
theorem cut_len {L : List Fn} {last : Int} (h : WI L last) (p : Int) : (cutN L last p).length + (belR L last p).length = L.length := by
  have := offL_take h p (belR L last p).length (Nat.le_refl _)
  rw [List.take_length] at this; exact this
theorem cut_kids {L : List Fn} {last : Int} (h : WI L last) (p : Int) : kidsR (cutN L last p) p = [] := by
  rw [kidsR]
  split
  · rename_i hp
    rw [cut_self h] at hp
    rw [List.eq_nil_iff_forall_not_mem]
    intro k hk
    obtain ⟨h0, t, ht, h1, rfl⟩ := kidsN_mem.1 hk
    obtain ⟨ht, h2⟩ := offL_mem.1 ht
    refine h2 ?_
    rw [belR, if_pos hp, mem_bel h h0]
    have := h.rg t ht
    exact ⟨.step ht (by rw [h1]; exact .refl), by omega⟩
  · rfl
theorem cut_find {o : Nat → Int × Int} (ho : ∀ i j, o i = o j → i = j) (l : List Int) {n i : Nat} (h : i < n) (p : Int) : findO (cutN (tr o l n) n p) (o i) = if (i : Int) + 1 ∈ belR (tr o l n) n p then 0 else (i : Int) + 1 := by
  have hW := tr_wi ho l n
  have hm : (⟨(i : Int) + 1, l.getD i 0 % ((i : Int) + 1), (o i).1, (o i).2⟩ : Fn) ∈ tr o l n := tr_mem.2 ⟨i, h, rfl⟩
  split
  · rename_i h1
    refine findO_no ?_
    rintro ⟨t, ht, h2⟩
    obtain ⟨ht, h3⟩ := offL_mem.1 ht
    have := hW.no.inj ht hm h2
    rw [this] at h3; exact h3 h1
  · rename_i h1
    exact findO_yes (hW.cut p).no (t := ⟨(i : Int) + 1, l.getD i 0 % ((i : Int) + 1), (o i).1, (o i).2⟩) (offL_mem.2 ⟨hm, h1⟩)
/-- Lift. -/
theorem li_ex {L : List Fn} {last : Int} (h : WI L last) {t : Fn} (ht : t ∈ L) : ∀ i, i ≤ (kidsN L t.id).length → ∃ Z, LI L last t i Z ∧ ∀ u, u ∈ Z ↔ ∃ v ∈ L, v.id ≠ t.id ∧ u = if v.id ∈ (kidsN L t.id).take i then ⟨v.id, t.par, v.sp, v.sl⟩ else v
  | 0, _ => ⟨offN L t.id, LI.start h ht, fun u => by
      rw [offN_mem]
      constructor
      · rintro ⟨h1, h2⟩; exact ⟨u, h1, h2, by simp⟩
      · rintro ⟨v, h1, h2, h3⟩; simp at h3; rw [h3]; exact ⟨h1, h2⟩⟩
  | i + 1, hi => by
    obtain ⟨Z, hI, hm⟩ := li_ex h ht i (by omega)
    obtain ⟨k, hk⟩ : ∃ k, (kidsN L t.id)[i]? = some k := ⟨_, List.getElem?_eq_getElem (by omega)⟩
    obtain ⟨w, hw, rfl, hwp⟩ := hI.todo i k (Nat.le_refl _) hk
    have hg := hI.wi.rg w hw
    have hrt := h.rg t ht
    have hkg := kids_gt h (List.mem_of_getElem? hk)
    have htk : (kidsN L t.id).take (i + 1) = (kidsN L t.id).take i ++ [w.id] := by rw [List.take_add_one, hk]; rfl
    refine ⟨_, hI.next h ht hw hk (by omega), fun u => ?_⟩
    obtain ⟨v0, hv0, hv1, hv2⟩ := (hm w).1 hw
    have e0 : v0.id = w.id ∧ v0.sp = w.sp ∧ v0.sl = w.sl := by
      rw [hv2]; split <;> exact ⟨rfl, rfl, rfl⟩
    have hmv : u ∈ moveN Z w t.par ↔ (u ∈ Z ∧ u.id ≠ w.id) ∨ u = ⟨w.id, t.par, w.sp, w.sl⟩ := by rw [moveN, List.mem_append, List.mem_singleton, offN_mem]
    rw [hmv]
    constructor
    · rintro (⟨h1, h2⟩ | rfl)
      · obtain ⟨v, h3, h4, h5⟩ := (hm u).1 h1
        have e1 : v.id = u.id := by rw [h5]; split <;> rfl
        refine ⟨v, h3, h4, ?_⟩
        rw [h5, htk]
        have h6 : v.id ∈ (kidsN L t.id).take i ++ [w.id] ↔ v.id ∈ (kidsN L t.id).take i := by
          rw [List.mem_append, List.mem_singleton]
          exact ⟨fun hh => hh.elim id fun e => absurd (e1.symm.trans e) h2, .inl⟩
        by_cases h7 : v.id ∈ (kidsN L t.id).take i
        · rw [if_pos h7, if_pos (h6.2 h7)]
        · rw [if_neg h7, if_neg (fun hh => h7 (h6.1 hh))]
      · refine ⟨v0, hv0, hv1, ?_⟩
        rw [if_pos (by rw [htk, e0.1]; simp), e0.1, e0.2.1, e0.2.2]
    · rintro ⟨v, h3, h4, h5⟩
      by_cases e : v.id = w.id
      · right
        obtain rfl := h.nd.inj h3 hv0 (e.trans e0.1.symm)
        rw [h5, if_pos (by rw [htk, e]; simp), e0.1, e0.2.1, e0.2.2]
      · left
        have h6 : v.id ∈ (kidsN L t.id).take i ++ [w.id] ↔ v.id ∈ (kidsN L t.id).take i := by
          rw [List.mem_append, List.mem_singleton]
          exact ⟨fun hh => hh.elim id fun e2 => absurd e2 e, .inl⟩
        have h7 : u = if v.id ∈ (kidsN L t.id).take i then ⟨v.id, t.par, v.sp, v.sl⟩ else v := by
          rw [h5, htk]
          by_cases h7 : v.id ∈ (kidsN L t.id).take i
          · rw [if_pos h7, if_pos (h6.2 h7)]
          · rw [if_neg h7, if_neg (fun hh => h7 (h6.1 hh))]
        refine ⟨(hm u).2 ⟨v, h3, h4, h7⟩, ?_⟩
        rw [h7]; split <;> exact e
/-- Where a node stands behind a lift. -/
def lfN (t v : Fn) : Fn := ⟨v.id, if v.par = t.id then t.par else v.par, v.sp, v.sl⟩
structure LftI (L : List Fn) (last : Int) (t : Fn) : Prop where
  wi : WI (liftN L t.id) last
  len : (liftN L t.id).length + 1 = L.length
  mem : ∀ u, u ∈ liftN L t.id ↔ ∃ v ∈ L, v.id ≠ t.id ∧ u = lfN t v
theorem lift_all {L : List Fn} {last : Int} (h : WI L last) {t : Fn} (ht : t ∈ L) : LftI L last t := by
  obtain ⟨Z, hI, hm⟩ := li_ex h ht _ (Nat.le_refl _)
  have e := hI.done h ht
  have hl := offN_len h.nd ht
  have hg := h.rg t ht
  refine ⟨by rw [e]; exact hI.wi, by rw [e, hI.len]; exact hl, fun u => ?_⟩
  rw [e, hm, List.take_length]
  have hv : ∀ v ∈ L, (if v.id ∈ kidsN L t.id then (⟨v.id, t.par, v.sp, v.sl⟩ : Fn) else v) = lfN t v := fun v hv => by
    have hk : v.id ∈ kidsN L t.id ↔ v.par = t.id := by
      rw [kidsN_mem]
      constructor
      · rintro ⟨_, w, hw, h1, h2⟩; rw [← h.nd.inj hw hv h2]; exact h1
      · intro h1; exact ⟨by omega, v, hv, h1, rfl⟩
    rw [lfN]
    by_cases e2 : v.par = t.id
    · rw [if_pos (hk.2 e2), if_pos e2]
    · rw [if_neg (fun hh => e2 (hk.1 hh)), if_neg e2]
  constructor
  · rintro ⟨v, h1, h2, h3⟩; exact ⟨v, h1, h2, h3.trans (hv v h1)⟩
  · rintro ⟨v, h1, h2, h3⟩; exact ⟨v, h1, h2, h3.trans (hv v h1).symm⟩
theorem lift_has {L : List Fn} {last : Int} {t : Fn} (h : LftI L last t) {x : Int} : hasN (liftN L t.id) x ↔ hasN L x ∧ x ≠ t.id := by
  constructor
  · rintro ⟨u, hu, rfl⟩
    obtain ⟨v, h1, h2, rfl⟩ := (h.mem u).1 hu
    exact ⟨⟨v, h1, rfl⟩, h2⟩
  · rintro ⟨⟨v, h1, rfl⟩, h2⟩
    exact ⟨_, (h.mem _).2 ⟨v, h1, h2, rfl⟩, rfl⟩
theorem lift_find {L : List Fn} {last : Int} (hW : WI L last) {t : Fn} (ht : t ∈ L) : findO (liftN L t.id) (spN t) = 0 := by
  have h := lift_all hW ht
  refine findO_no ?_
  rintro ⟨u, hu, h2⟩
  obtain ⟨v, h3, h4, rfl⟩ := (h.mem u).1 hu
  exact h4 (by rw [hW.no.inj h3 ht h2])
theorem lift_anc {L : List Fn} {last : Int} (hW : WI L last) {t : Fn} (ht : t ∈ L) {p : Int} (hp : p ≠ t.id) {x : Int} : Anc (liftN L t.id) p x ↔ Anc L p x ∧ x ≠ t.id := by
  have h := lift_all hW ht
  have hg := hW.rg t ht
  constructor
  · intro a
    induction a with
    | refl => exact ⟨.refl, hp⟩
    | step hu _ ih =>
      obtain ⟨v, h3, h4, rfl⟩ := (h.mem _).1 hu
      refine ⟨.step (t := v) h3 ?_, h4⟩
      have ih := ih.1
      rw [lfN] at ih; dsimp only at ih
      by_cases e : v.par = t.id
      · rw [if_pos e] at ih; rw [e]; exact .step ht ih
      · rw [if_neg e] at ih; exact ih
  · rintro ⟨a, hx⟩
    have key : (x ≠ t.id → Anc (liftN L t.id) p x) ∧ (x = t.id → Anc (liftN L t.id) p t.par) := by
      clear hx
      induction a with
      | refl => exact ⟨fun _ => .refl, fun e => absurd e hp⟩
      | @step v hv _ ih =>
        refine ⟨fun e => ?_, fun e => ?_⟩
        · refine Anc.step (t := lfN t v) ((h.mem _).2 ⟨v, hv, e, rfl⟩) ?_
          rw [lfN]; dsimp only
          by_cases e2 : v.par = t.id
          · rw [if_pos e2]; exact ih.2 e2
          · rw [if_neg e2]; exact ih.1 e2
        · have := hW.nd.inj hv ht e
          rw [this] at ih
          exact ih.1 (by omega)
    exact key.1 hx
theorem lift_bel {L : List Fn} {last : Int} (hW : WI L last) {t : Fn} (ht : t ∈ L) (hp : t.par ≠ 0) : (belL (liftN L t.id) last t.par).length + 1 = (belL L last t.par).length := by
  have h := lift_all hW ht
  have hg := hW.rg t ht
  have hm : ∀ x, x ∈ t.id :: belL (liftN L t.id) last t.par ↔ x ∈ belL L last t.par := fun x => by
    rw [List.mem_cons, mem_bel h.wi hp, mem_bel hW hp, lift_anc hW ht (show t.par ≠ t.id by omega)]
    constructor
    · rintro (rfl | ⟨⟨h1, h2⟩, h3⟩)
      · exact ⟨.step ht .refl, by omega⟩
      · exact ⟨h1, h3⟩
    · rintro ⟨h1, h2⟩
      by_cases e : x = t.id
      · exact .inl e
      · exact .inr ⟨⟨h1, e⟩, h2⟩
  have hn : (t.id :: belL (liftN L t.id) last t.par).Nodup := List.nodup_cons.2 ⟨fun h2 => ((lift_has h).1 (bel_mem h.wi h2).1).2 rfl, bel_nd h.wi _⟩
  have h1 := nodup_sub_len hn (fun x hx => (hm x).1 hx)
  have h2 := nodup_sub_len (bel_nd hW t.par) (fun x hx => (hm x).2 hx)
  rw [List.length_cons] at h1 h2; omega
theorem lift_kids {L : List Fn} {last : Int} (hW : WI L last) {t : Fn} (ht : t ∈ L) (hp : t.par ≠ 0) : (kidsN (liftN L t.id) t.par).length + 1 = (kidsN L t.par).length + (kidsN L t.id).length := by
  have h := lift_all hW ht
  have hg := hW.rg t ht
  have hm : ∀ x, x ∈ t.id :: kidsN (liftN L t.id) t.par ↔ x ∈ kidsN L t.par ++ kidsN L t.id := fun x => by
    rw [List.mem_cons, List.mem_append, kidsN_mem, kidsN_mem, kidsN_mem]
    constructor
    · rintro (rfl | ⟨_, u, hu, h1, rfl⟩)
      · exact .inl ⟨hp, t, ht, rfl, rfl⟩
      · obtain ⟨v, h3, h4, rfl⟩ := (h.mem u).1 hu
        rw [lfN] at h1; dsimp only at h1
        by_cases e : v.par = t.id
        · exact .inr ⟨by omega, v, h3, e, rfl⟩
        · rw [if_neg e] at h1; exact .inl ⟨hp, v, h3, h1, rfl⟩
    · rintro (⟨_, v, hv, h1, rfl⟩ | ⟨_, v, hv, h1, rfl⟩)
      · by_cases e : v.id = t.id
        · exact .inl e
        · refine .inr ⟨hp, lfN t v, (h.mem _).2 ⟨v, hv, e, rfl⟩, ?_, rfl⟩
          rw [lfN]; dsimp only; rw [if_neg (by omega)]; exact h1
      · have := hW.rg v hv
        refine .inr ⟨hp, lfN t v, (h.mem _).2 ⟨v, hv, by omega, rfl⟩, ?_, rfl⟩
        rw [lfN]; dsimp only; rw [if_pos h1]
  have hn : (t.id :: kidsN (liftN L t.id) t.par).Nodup := List.nodup_cons.2 ⟨fun h2 => by
    obtain ⟨_, u, hu, _, h4⟩ := kidsN_mem.1 h2
    exact ((lift_has h).1 ⟨u, hu, rfl⟩).2 h4, kidsN_nd h.wi.nd _⟩
  have hn2 : (kidsN L t.par ++ kidsN L t.id).Nodup := List.nodup_append.2 ⟨kidsN_nd hW.nd _, kidsN_nd hW.nd _, fun x hx y hy e => by
    obtain ⟨_, u, hu, h1, h2⟩ := kidsN_mem.1 hx
    obtain ⟨_, v, hv, h3, h4⟩ := kidsN_mem.1 hy
    have := hW.nd.inj hu hv (by omega)
    rw [this] at h1; omega⟩
  have h1 := nodup_sub_len hn (fun x hx => (hm x).1 hx)
  have h2 := nodup_sub_len hn2 (fun x hx => (hm x).2 hx)
  rw [List.length_append] at h1 h2; rw [List.length_cons] at h1 h2; omega
/-- The order in which what is below is told: nobody behind one that is below it. -/
theorem post_ord {L : List Fn} {last : Int} (h : WI L last) : ∀ (n : Nat) (p : Int), (last - p).toNat ≤ n → (postL L last p).Pairwise fun a b => ∀ t ∈ L, t.id = b → t.par ≠ a := by
  intro n
  induction n with
  | zero => intro p hp; rw [postL, belL_eq h, kids_big h (by omega)]; simp
  | succ n ih =>
    intro p hp
    rw [postL, List.pairwise_append]
    refine ⟨?_, by simp, fun x hx y hy t ht e1 e2 => ?_⟩
    · rw [belL_eq h, List.pairwise_flatMap]
      refine ⟨fun k hk => ?_, ?_⟩
      · have := kids_gt h hk
        exact ih k (by omega)
      · refine (kidsN_nd h.nd p).imp_of_mem (fun {k1 k2} hk1 hk2 hne x hx y hy t ht e1 e2 => ?_)
        have a1 := post_anc h _ k1 (Nat.le_refl _) x hx
        have a2 := post_anc h _ k2 (Nat.le_refl _) y hy
        have a3 : Anc L k1 y := by rw [← e1]; exact .step ht (by rw [e2]; exact a1)
        obtain ⟨_, t1, ht1, hp1, he1⟩ := kidsN_mem.1 hk1
        obtain ⟨_, t2, ht2, hp2, he2⟩ := kidsN_mem.1 hk2
        have g1 := kids_gt h hk1
        have g2 := kids_gt h hk2
        rcases anc_lin h.nd a3 a2 with e | ⟨t', ht', e, a⟩ | ⟨t', ht', e, a⟩
        · exact hne e
        · rw [h.nd.inj ht' ht1 (e.trans he1.symm), hp1] at a
          have := a.le h; omega
        · rw [h.nd.inj ht' ht2 (e.trans he2.symm), hp2] at a
          have := a.le h; omega
    · rw [List.mem_singleton] at hy
      have := (bel_mem h hx).2.1
      have := h.rg t ht
      omega
theorem bel_ord {L : List Fn} {last : Int} (h : WI L last) {p : Int} {i j : Nat} {t : Fn} (ht : t ∈ L) (hi : (belR L last p)[i]? = some t.id) (hj : (belR L last p)[j]? = some t.par) : i < j := by
  rw [belR] at hi hj
  split at hi
  · rename_i hp
    rw [if_pos hp] at hj
    have h1 := (List.pairwise_append.1 (post_ord h _ p (Nat.le_refl _))).1
    obtain ⟨a1, b1⟩ := List.getElem?_eq_some_iff.1 hi
    obtain ⟨a2, b2⟩ := List.getElem?_eq_some_iff.1 hj
    rcases Nat.lt_or_ge i j with h2 | h2
    · exact h2
    · exfalso
      rcases Nat.lt_or_eq_of_le h2 with h3 | h3
      · exact List.pairwise_iff_getElem.1 h1 j i a2 a1 h3 t ht b1.symm b2.symm
      · subst h3
        rw [b1] at b2
        have := h.rg t ht; omega
  · cases hi
end Go.Proofs.Ytffoeolgjgpmjaa
