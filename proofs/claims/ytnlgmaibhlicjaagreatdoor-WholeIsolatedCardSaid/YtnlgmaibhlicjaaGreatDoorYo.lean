/- Proved here: contracts of functions of this program, under the premises that each theorem names. -/
import Derived.Maps.RangeRun
import Derived.Test.YtnlgmaibhlicjaaGreatDoorYn
set_option maxRecDepth 4000
namespace Go.QM
open Go
section
variable {r : Option Nat} {P : Program} {N : Nat} {ρ : Env} {A : HP} {K : Value → HP → Prop}
variable {d : Option Tmp} {ty : TypeId} {ps : String} {af : Array Edge} {g : Option (Nat × Bool)} {t : TypeId} {x : Operand}
theorem rgM {hs : List HP} (kt e : TypeId) {b : Nat} {es : Array MapEntry} {cl : Nat} (ht : mapT P t kt e = true) (hx : ev ρ x = .map (some b)) [hr : RdI (sepL hs) b (.map es cl)]
    (k : ∀ i, K (.pointer (some ⟨i, 0, none⟩)) (sepL (obj i (.mapIter (some b) cl #[] cl) :: hs))) : OW r P ρ ⟨d, .range t x, ty, ps, af, g⟩ (sepL hs) K :=
  OW.run rfl fun w hsat => ⟨.pointer (some ⟨w.heap.size, 0, none⟩), w.alloc (.mapIter (some b) cl #[] cl), _, .inl (by
      have h1 : w.heap[b]? = some (.map es cl) := hr.rd.sat hsat
      simp [execOp, Instr.range, hx, mapT_run ht, MapKept.run_getObj_map h1]), ⟨rfl, rfl, rfl, by simp⟩, sat_alloc _ hsat, k w.heap.size⟩
theorem nxM (i : Nat) {hs rest : List HP} {it b : Nat} {es : Array MapEntry} {cl : Nat} {seen : Array Nat} (hx : ev ρ x = .pointer (some ⟨it, 0, none⟩)) (hi : take1 i hs = some (obj it (.mapIter (some b) cl seen cl), rest))
    (hr : Rd (sepL rest) b (.map es cl)) (hb : BoM es cl)
    (k1 : (∀ e ∈ es.toList, e.born ∈ seen) → K (.tuple #[.bool false]) (sepL (obj it (.mapIter (some b) cl seen cl) :: rest)))
    (k2 : ∀ e ∈ es.toList, e.born ∉ seen → K (.tuple #[.bool true, e.key, e.val]) (sepL (obj it (.mapIter (some b) cl (seen.push e.born) cl) :: rest))) :
    OW r P ρ ⟨d, .next x false, ty, ps, af, g⟩ (sepL hs) K := by
  refine OW.run rfl fun w hsat => ?_
  have hs1 := hsat.weak (take1_ent hi)
  have h1 : w.heap[it]? = some (.mapIter (some b) cl seen cl) := (Rd_l (Rd_obj it _)).sat hs1
  have h2 : w.heap[b]? = some (.map es cl) := (Rd_r hr).sat hs1
  rcases run_next_at (P := P) w ty it b cl cl seen es cl h1 h2 hb.1 (Nat.le_refl _) with ⟨h0, hrun⟩ | ⟨e, he, w1, hw, hrun⟩
  · refine ⟨.tuple #[.bool false], w, _, .inl ?_, Same.refl w, hs1, k1 fun e he => ?_⟩
    · simp only [execOp, hx]; exact (by simp [hrun])
    · by_cases hm : e.born ∈ seen
      · exact hm
      · exfalso
        have hl : e ∈ (leftOf es seen).toList := by simp [leftOf, hm, Array.mem_toList_iff.1 he]
        have : (leftOf es seen).toList = [] := List.eq_nil_of_length_eq_zero (by simpa using h0)
        rw [this] at hl; cases hl
  · have hl : e ∈ es.toList ∧ e.born ∉ seen := by simpa [leftOf] using he
    refine ⟨.tuple #[.bool true, e.key, e.val], _, _, .inl (by simp only [execOp, hx]; exact (by simp [hrun]; rfl)), ?_, ?_, k2 e hl.1 hl.2⟩
    · rcases hw with rfl | rfl <;> exact ⟨rfl, rfl, rfl, by simp [ChangeMaps.setBlock]⟩
    · have hs2 : sat w1 (sep (obj it (.mapIter (some b) cl seen cl)) (sepL rest)) := by rcases hw with rfl | rfl <;> exact hs1
      have h3 : w1.heap[it]? = some (.mapIter (some b) cl seen cl) := by rcases hw with rfl | rfl <;> exact h1
      have hlt : it < w1.heap.size := (Array.getElem?_eq_some_iff.1 h3).1
      exact sat_set hs2 (by show (w1.heap.setIfInBounds it _)[it]? = _; rw [Array.getElem?_setIfInBounds_self_of_lt hlt]) (fun j hj => by show (w1.heap.setIfInBounds it _)[j]? = _; rw [Array.getElem?_setIfInBounds_ne (Ne.symm hj)])
theorem enM {it b : Nat} {es : Array MapEntry} {cl since : Nat} {seen : Array Nat} (e : MapEntry) (hx : ev ρ x = .pointer (some ⟨it, 0, none⟩)) [hi : RdI A it (.mapIter (some b) since (seen.push e.born) cl)] (hr : Rd A b (.map es cl))
    (he : e ∈ es.toList) (hb : BoM es cl) : OQ P ρ ⟨d, .entry x, ty, ps, af, g⟩ A (.tuple #[e.key, e.val]) := fun w hs => by
  have := run_entry_at (P := P) w it b since seen es cl e (hi.rd.sat hs) (hr.sat hs) he hb.2
  simp only [execOp, hx]
  simp [this]
end
def kOf (e : MapEntry) : Int := match e.key with
  | .int _ k => k
  | _ => 0
theorem isM_int {m : List (Int × Value)} {es : Array MapEntry} (h : es.toList.map (fun e => (e.key, e.val)) = m.map (fun t => (encI t.1, t.2))) : (∀ e ∈ es.toList, e.key = .int .i64 (kOf e)) ∧ es.toList.map kOf = m.map (·.1) := by
  have h1 : es.toList.map (·.key) = m.map fun t => encI t.1 := by
    have := congrArg (List.map Prod.fst) h
    simpa [List.map_map, Function.comp_def] using this
  have h2 : ∀ e ∈ es.toList, e.key = .int .i64 (kOf e) := fun e he => by
    have h3 : e.key ∈ es.toList.map (·.key) := List.mem_map.2 ⟨e, he, rfl⟩
    rw [h1] at h3
    obtain ⟨u, _, hu⟩ := List.mem_map.1 h3
    rw [kOf, ← hu]; rfl
  refine ⟨h2, ?_⟩
  have h4 : es.toList.map (fun e => encI (kOf e)) = m.map fun t => encI t.1 := by
    rw [← h1]; exact List.map_congr_left fun e he => (h2 e he).symm
  have h5 := congrArg (List.map fun v => match v with | Value.int _ k => k | _ => 0) h4
  simpa [List.map_map, Function.comp_def, encI] using h5
theorem all_keys {es : Array MapEntry} {cl : Nat} (hb : BoM es cl) {ks : List MapEntry} (h1 : ∀ e ∈ ks, e ∈ es.toList) (h2 : (ks.map (·.born)).Nodup) (h3 : ∀ e ∈ es.toList, e.born ∈ ks.map (·.born)) : ks.Perm es.toList := by
  have inj : ∀ a ∈ es.toList, ∀ c ∈ es.toList, a.born = c.born → a = c := fun a ha c hc e => by
    obtain ⟨i, hi⟩ := List.getElem?_of_mem ha
    obtain ⟨j, hj⟩ := List.getElem?_of_mem hc
    obtain ⟨a1, b1⟩ := List.getElem?_eq_some_iff.1 hi
    obtain ⟨a2, b2⟩ := List.getElem?_eq_some_iff.1 hj
    have hp := List.pairwise_iff_getElem.1 hb.2
    by_cases eij : i = j
    · subst eij; rw [← b1, ← b2]
    · exfalso
      rcases Nat.lt_or_gt_of_ne eij with h | h
      · have := hp i j (by simpa using a1) (by simpa using a2) h
        rw [List.getElem_map, List.getElem_map, b1, b2] at this; exact this e
      · have := hp j i (by simpa using a2) (by simpa using a1) h
        rw [List.getElem_map, List.getElem_map, b1, b2] at this; exact this e.symm
  have n1 : ks.Nodup := (List.pairwise_map.1 h2).imp fun hab e2 => hab (congrArg _ e2)
  have n2 : es.toList.Nodup := (List.pairwise_map.1 hb.2).imp fun hab e2 => hab (congrArg _ e2)
  exact (List.perm_ext_iff_of_nodup n1 n2).2 fun e => ⟨h1 e, fun he => by
    obtain ⟨u, hu, e2⟩ := List.mem_map.1 (h3 e he)
    rw [← inj u (h1 u hu) e he e2]; exact hu⟩
end Go.QM
namespace Go.Proofs.YtnlgmaibhlicjaaGreatDoor.Qt
open Go Go.QM
structure Qn where
  id : Int
  par : Int
  lim : Int
  chg : Int
def sumI : List Int → Int
  | [] => 0
  | x :: l => x + sumI l
theorem sumI_app (l m : List Int) : sumI (l ++ m) = sumI l + sumI m := by
 induction l with
 | nil => simp [sumI]
 | cons x l ih => rw [List.cons_append, sumI, sumI, ih]; omega
theorem sumI_nonneg {l : List Int} (h : ∀ x ∈ l, 0 ≤ x) : 0 ≤ sumI l := by
 induction l with
 | nil => exact Int.le_refl _
 | cons x l ih => have := h x (by simp); have := ih (fun y hy => h y (by simp [hy])); rw [sumI]; omega
theorem sumI_le {l : List Int} {b : Int} (h : ∀ x ∈ l, x ≤ b) : sumI l ≤ b * l.length := by
 induction l with
 | nil => simp [sumI]
 | cons x l ih => have := h x (by simp); have := ih (fun y hy => h y (by simp [hy])); rw [sumI, List.length_cons, Int.natCast_add, Int.mul_add]; omega
def kidsQ (L : List Qn) (x : Int) : List Qn := L.filter fun t => decide (t.par = x)
def givQ (L : List Qn) (x : Int) : Int := sumI ((kidsQ L x).map (·.lim))
def kidQ (L : List Qn) (x : Int) : Int := ((kidsQ L x).length : Int)
def hasQ (L : List Qn) (x : Int) : Prop := ∃ t ∈ L, t.id = x
instance (L : List Qn) (id : Int) : Decidable (hasQ L id) := inferInstanceAs (Decidable (∃ t ∈ L, t.id = id))
def findQ (L : List Qn) (id : Int) : Option Qn := L.find? fun t => decide (t.id = id)
def NdQ (L : List Qn) : Prop := (L.map (·.id)).Nodup
theorem NdQ.perm {S T : List Qn} (h : NdQ S) (p : T.Perm S) : NdQ T := (p.map _).nodup_iff.2 h
theorem NdQ.inj {S : List Qn} (h : NdQ S) {t u : Qn} (ht : t ∈ S) (hu : u ∈ S) (e : t.id = u.id) : t = u := by
 obtain ⟨L, hL⟩ := perm_mem ht
 rcases List.mem_cons.1 (hL.mem_iff.1 hu) with h1 | h1
 ·exact h1.symm
 ·exact absurd (List.mem_map.2 ⟨u, h1, e.symm⟩) (List.nodup_cons.1 (h.perm hL.symm)).1
theorem findQ_yes {S : List Qn} (h : NdQ S) {t : Qn} (ht : t ∈ S) : findQ S t.id = some t := by
 rw [findQ]
 cases hf : S.find? fun u => decide (u.id = t.id) with
 | none => rw [List.find?_eq_none] at hf; exact absurd (decide_eq_true rfl) (hf t ht)
 | some u =>
  have h1 := List.find?_some hf
  have h2 := List.mem_of_find?_eq_some hf
  rw [h.inj h2 ht (by simpa using h1)]
theorem findQ_no {S : List Qn} {id : Int} (h : ¬ hasQ S id) : findQ S id = none := by
 rw [findQ, List.find?_eq_none]; intro u hu; simp only [decide_eq_true_eq]; exact fun e => h ⟨u, hu, e⟩
def useQ (L : List Qn) (id : Int) : Int := match findQ L id with
  | some t => t.chg + givQ L id
  | none => 0
def limQ (L : List Qn) (id : Int) : Int := match findQ L id with
  | some t => t.lim
  | none => 0
def chgQ (L : List Qn) (id : Int) : Int := match findQ L id with
  | some t => t.chg
  | none => 0
def parQ (L : List Qn) (id : Int) : Int := match findQ L id with
  | some t => t.par
  | none => -1
def setQ (L : List Qn) (id c : Int) : List Qn := L.map fun t => if t.id = id then ⟨t.id, t.par, t.lim, c⟩ else t
def carveQ (L : List Qn) (nxt p lim : Int) : List Qn × Int × Int × Int :=
  if ¬ hasQ L p then (L, nxt, 0, 6) else if lim < 0 then (L, nxt, 0, 1) else if ¬ lim ≤ limQ L p - useQ L p then (L, nxt, 0, 5) else if L.length = 32 then (L, nxt, 0, 11) else (L ++ [⟨nxt, p, lim, 0⟩], nxt + 1, nxt, 0)
def chargeQ (L : List Qn) (id n : Int) : List Qn × Int :=
  if ¬ hasQ L id then (L, 6) else if n < 0 then (L, 1) else if ¬ n ≤ limQ L id - useQ L id then (L, 5) else (setQ L id (chgQ L id + n), 0)
def refundQ (L : List Qn) (id n : Int) : List Qn × Int :=
  if ¬ hasQ L id then (L, 6) else if n < 0 ∨ chgQ L id < n then (L, 1) else (setQ L id (chgQ L id - n), 0)
structure WQ (L : List Qn) (nxt : Int) : Prop where
  nd : NdQ L
  srt : (L.map (·.id)).Pairwise (· < ·)
  rg : ∀ t ∈ L, 0 ≤ t.id ∧ t.id < nxt ∧ 0 ≤ t.lim ∧ t.lim ≤ 1073741824 ∧ 0 ≤ t.chg ∧ t.chg + givQ L t.id ≤ t.lim
  root : hasQ L 0
  rp : ∀ t ∈ L, t.id = 0 → t.par = -1
  par : ∀ t ∈ L, t.id ≠ 0 → hasQ L t.par ∧ t.par < t.id
  len : L.length ≤ 32
theorem kidsQ_app (S T : List Qn) (p : Int) : kidsQ (S ++ T) p = kidsQ S p ++ kidsQ T p := by simp [kidsQ]
theorem givQ_app (S T : List Qn) (p : Int) : givQ (S ++ T) p = givQ S p + givQ T p := by rw [givQ, kidsQ_app, List.map_append, sumI_app]; rfl
theorem kidQ_app (S T : List Qn) (p : Int) : kidQ (S ++ T) p = kidQ S p + kidQ T p := by rw [kidQ, kidsQ_app, List.length_append]; rfl
theorem givQ_one {t : Qn} {p : Int} : givQ [t] p = if t.par = p then t.lim else 0 := by
 by_cases h : t.par = p
 ·rw [if_pos h, givQ, kidsQ, List.filter_cons_of_pos (by simpa using h)]; simp [sumI]
 ·rw [if_neg h, givQ, kidsQ, List.filter_cons_of_neg (by simpa using h)]; rfl
theorem kidQ_one {t : Qn} {p : Int} : kidQ [t] p = if t.par = p then 1 else 0 := by
 by_cases h : t.par = p
 ·rw [if_pos h, kidQ, kidsQ, List.filter_cons_of_pos (by simpa using h)]; rfl
 ·rw [if_neg h, kidQ, kidsQ, List.filter_cons_of_neg (by simpa using h)]; rfl
theorem setQ_ids (L : List Qn) (id c : Int) : (setQ L id c).map (·.id) = L.map (·.id) := by
 rw [setQ, List.map_map]; exact List.map_congr_left fun t _ => by simp only [Function.comp]; split <;> rfl
theorem setQ_has {L : List Qn} {id c x : Int} : hasQ (setQ L id c) x ↔ hasQ L x := by
 have h : ∀ S : List Qn, hasQ S x ↔ x ∈ S.map (·.id) := fun S => by simp [hasQ]
 rw [h, h, setQ_ids]
theorem setQ_giv (L : List Qn) (id c p : Int) : givQ (setQ L id c) p = givQ L p ∧ kidQ (setQ L id c) p = kidQ L p := by
 induction L with
 | nil => exact ⟨rfl, rfl⟩
 | cons t L ih =>
  have e : setQ (t :: L) id c = (if t.id = id then ⟨t.id, t.par, t.lim, c⟩ else t) :: setQ L id c := rfl
  have h1 := givQ_app [if t.id = id then (⟨t.id, t.par, t.lim, c⟩ : Qn) else t] (setQ L id c) p
  have h2 := givQ_app [t] L p
  have h3 := kidQ_app [if t.id = id then (⟨t.id, t.par, t.lim, c⟩ : Qn) else t] (setQ L id c) p
  have h4 := kidQ_app [t] L p
  rw [List.singleton_append] at h1 h2 h3 h4
  rw [e, h1, h2, h3, h4, ih.1, ih.2, givQ_one, givQ_one, kidQ_one, kidQ_one]
  constructor <;> (congr 1; split <;> rfl)
theorem givQ_nonneg {L : List Qn} {nxt : Int} (h : WQ L nxt) (x : Int) : 0 ≤ givQ L x := sumI_nonneg fun y hy => by
 obtain ⟨t, ht, rfl⟩ := List.mem_map.1 hy
 exact (h.rg t (List.mem_filter.1 ht).1).2.2.1
theorem kidQ_le (L : List Qn) (x : Int) : 0 ≤ kidQ L x ∧ kidQ L x ≤ L.length := by
 have : (kidsQ L x).length ≤ L.length := List.length_filter_le _ _
 rw [kidQ]; omega
theorem use_yes {L : List Qn} (h : NdQ L) {t : Qn} (ht : t ∈ L) : useQ L t.id = t.chg + givQ L t.id ∧ limQ L t.id = t.lim ∧ chgQ L t.id = t.chg ∧ parQ L t.id = t.par := by
 rw [useQ, limQ, chgQ, parQ, findQ_yes h ht]; exact ⟨rfl, rfl, rfl, rfl⟩
theorem use_no {L : List Qn} {id : Int} (h : ¬ hasQ L id) : useQ L id = 0 ∧ limQ L id = 0 ∧ chgQ L id = 0 ∧ parQ L id = -1 := by
 rw [useQ, limQ, chgQ, parQ, findQ_no h]; exact ⟨rfl, rfl, rfl, rfl⟩
theorem giv_zero {L : List Qn} {x : Int} (h : ∀ t ∈ L, t.par ≠ x) : givQ L x = 0 ∧ kidQ L x = 0 := by
 have e : kidsQ L x = [] := List.filter_eq_nil_iff.2 fun t ht => by simpa using h t ht
 rw [givQ, kidQ, e]; exact ⟨rfl, rfl⟩
theorem WQ.par_lt {L : List Qn} {nxt : Int} (h : WQ L nxt) {t : Qn} (ht : t ∈ L) : t.par < nxt ∧ -1 ≤ t.par ∧ t.par ≠ t.id := by
 have h1 := h.rg t ht
 by_cases e : t.id = 0
 ·have := h.rp t ht e; omega
 ·obtain ⟨⟨u, hu, e2⟩, h3⟩ := h.par t ht e
  have := h.rg u hu; omega
theorem WQ.start {lim : Int} (h : 0 ≤ lim ∧ lim ≤ 1073741824) : WQ [⟨0, -1, lim, 0⟩] 1 where
 nd := by simp [NdQ]
 srt := by simp
 rg := fun t ht => by
  rw [List.mem_singleton.1 ht]
  have : givQ [(⟨0, -1, lim, 0⟩ : Qn)] 0 = 0 := by rw [givQ_one, if_neg (by dsimp only; omega)]
  dsimp only; rw [this]; omega
 root := ⟨_, List.mem_singleton.2 rfl, rfl⟩
 rp := fun t ht _ => by rw [List.mem_singleton.1 ht]
 par := fun t ht hn => by rw [List.mem_singleton.1 ht] at hn; exact absurd rfl hn
 len := by simp
theorem WQ.add {L : List Qn} {nxt : Int} (h : WQ L nxt) {p lim : Int} (hp : hasQ L p) (h0 : 0 ≤ lim) (hf : lim ≤ limQ L p - useQ L p) (hl : L.length ≠ 32) : WQ (L ++ [⟨nxt, p, lim, 0⟩]) (nxt + 1) := by
 obtain ⟨u, hu, rfl⟩ := hp
 have hur := h.rg u hu
 obtain ⟨e1, e2, _⟩ := use_yes h.nd hu
 rw [e1, e2] at hf
 have hgv := givQ_nonneg h u.id
 have hz : givQ L nxt = 0 := (giv_zero fun t ht => by have := h.par_lt ht; omega).1
 have hmem : ∀ x, hasQ L x → hasQ (L ++ [(⟨nxt, u.id, lim, 0⟩ : Qn)]) x := fun x ⟨t, ht, e⟩ => ⟨t, List.mem_append.2 (.inl ht), e⟩
 have hlt : ∀ x ∈ L.map (·.id), x < nxt := fun x hx => by
  obtain ⟨t, ht, rfl⟩ := List.mem_map.1 hx
  exact (h.rg t ht).2.1
 have hnx : 0 ≤ nxt := by omega
 refine ⟨?_, ?_, fun t ht => ?_, hmem 0 h.root, fun t ht e => ?_, fun t ht e => ?_, ?_⟩
 ·rw [NdQ, List.map_append, List.nodup_append]
  exact ⟨h.nd, by simp, fun a ha c hc e => by
   have := hlt a ha
   simp only [List.map_cons, List.map_nil, List.mem_singleton] at hc; omega⟩
 ·rw [List.map_append, List.pairwise_append]
  exact ⟨h.srt, by simp, fun a ha c hc => by
   have := hlt a ha
   simp only [List.map_cons, List.map_nil, List.mem_singleton] at hc; omega⟩
 ·rw [givQ_app, givQ_one]
  dsimp only
  rcases List.mem_append.1 ht with ht | ht
  ·have h1 := h.rg t ht
   by_cases e : u.id = t.id
   ·have := h.nd.inj hu ht e
    subst this
    rw [if_pos rfl]; omega
   ·rw [if_neg e]; omega
  ·rw [List.mem_singleton.1 ht]
   dsimp only
   rw [hz, if_neg (by omega)]; omega
 ·rcases List.mem_append.1 ht with ht | ht
  ·exact h.rp t ht e
  ·rw [List.mem_singleton.1 ht] at e
   dsimp only at e; omega
 ·rcases List.mem_append.1 ht with ht | ht
  ·exact ⟨hmem _ (h.par t ht e).1, (h.par t ht e).2⟩
  ·rw [List.mem_singleton.1 ht]
   exact ⟨hmem _ ⟨u, hu, rfl⟩, hur.2.1⟩
 ·have := h.len
  rw [List.length_append, List.length_singleton]; omega
theorem setQ_mem {L : List Qn} {id c : Int} {u : Qn} : u ∈ setQ L id c ↔ ∃ t ∈ L, u = if t.id = id then ⟨t.id, t.par, t.lim, c⟩ else t := by
 rw [setQ, List.mem_map]
 exact ⟨fun ⟨t, h1, h2⟩ => ⟨t, h1, h2.symm⟩, fun ⟨t, h1, h2⟩ => ⟨t, h1, h2.symm⟩⟩
theorem WQ.set {L : List Qn} {nxt : Int} (h : WQ L nxt) {t : Qn} (ht : t ∈ L) {c : Int} (h0 : 0 ≤ c) (hc : c + givQ L t.id ≤ t.lim) : WQ (setQ L t.id c) nxt where
 nd := by rw [NdQ, setQ_ids]; exact h.nd
 srt := by rw [setQ_ids]; exact h.srt
 rg := fun u hu => by
  obtain ⟨v, hv, rfl⟩ := setQ_mem.1 hu
  have h1 := h.rg v hv
  by_cases e : v.id = t.id
  ·have := h.nd.inj hv ht e
   subst this
   rw [if_pos rfl, (setQ_giv L _ c _).1]
   dsimp only; omega
  ·rw [if_neg e, (setQ_giv L _ c _).1]; exact h1
 root := setQ_has.2 h.root
 rp := fun u hu e => by
  obtain ⟨v, hv, rfl⟩ := setQ_mem.1 hu
  split at e
  ·rename_i e2; rw [if_pos e2]; exact h.rp v hv e
  ·rename_i e2; rw [if_neg e2]; exact h.rp v hv e
 par := fun u hu e => by
  obtain ⟨v, hv, rfl⟩ := setQ_mem.1 hu
  split at e
  ·rename_i e2; rw [if_pos e2]; exact ⟨setQ_has.2 (h.par v hv e).1, (h.par v hv e).2⟩
  ·rename_i e2; rw [if_neg e2]; exact ⟨setQ_has.2 (h.par v hv e).1, (h.par v hv e).2⟩
 len := by rw [setQ, List.length_map]; exact h.len
end Go.Proofs.YtnlgmaibhlicjaaGreatDoor.Qt
namespace Go.Proofs.YtnlgmaibhlicjaaGreatDoor.Qt
open Go Go.QM
section
variable {α : Type} [DecidableEq α] {enc : α → Value} {f : α → Option Value} {n : Nat}
variable {r : Option Nat} {P : Program} {ρ : Env} {K : Value → HP → Prop}
variable {d : Option Tmp} {ty : TypeId} {ps : String} {af : Array Edge} {g : Option (Nat × Bool)}
variable {t : TypeId} {x y z : Operand}
theorem insF {hs rest : List HP} (kt e : TypeId) {b : Nat} {a : α} {v : Value} (ht : mapT P t kt e = true) (hk : KL P kt enc) (hx : ev ρ x = .map (some b)) (hy : ev ρ y = enc a) (hv : ev ρ z = v) [hi : TkF hs b enc f n rest]
 (k : K undef (sepL (mapF enc b (updF f a v) (if (f a).isSome then n else n + 1) :: rest))) : OW r P ρ ⟨d, .insert t x y z, ty, ps, af, g⟩ (sepL hs) K := fun w0 w he hs => by
 have h := ((muF (d := d) (ty := ty) (ps := ps) (af := af) (g := g) kt e ht hk hx hy hv k : OW r P ρ ⟨d, .mapUpdate t x y z, ty, ps, af, g⟩ (sepL _) K) w0 w he hs).2
 refine ⟨fun _ _ => trivial, ?_⟩
 rw [semAt_nd _ rfl] at h ⊢
 exact h
end
abbrev tQ (A : Int → Nat) (L : List Qn) (t : Qn) : HP := pts (A t.id) 100 [.int .i64 t.lim, .int .i64 t.chg, .int .i64 (givQ L t.id), .int .i64 t.par, .int .i64 (kidQ L t.id)]
def fQ (A : Int → Nat) (L : List Qn) : Int → Option Value := fun x => if hasQ L x then some (.pointer (some ⟨A x, 0, none⟩)) else none
theorem fQ_yes {A : Int → Nat} {L : List Qn} {x : Int} (h : hasQ L x) : fQ A L x = some (.pointer (some ⟨A x, 0, none⟩)) := if_pos h
theorem fQ_no {A : Int → Nat} {L : List Qn} {x : Int} (h : ¬ hasQ L x) : fQ A L x = none := if_neg h
structure QRep where
  A : Int → Nat
  mb : Nat
def isQ (b : Nat) (L : List Qn) (nxt : Int) : HP := EX fun y : QRep => pure' (WQ L nxt) (sepL [pts b 161 [.map (some y.mb), .int .i64 nxt], mapF QM.encI y.mb (fQ y.A L) L.length, bigS (tQ y.A L) L])
theorem Rd_big {α : Type} {f : α → HP} {b : Nat} {o : Obj} : ∀ {L : List α} {x : α}, x ∈ L → Rd (f x) b o → Rd (bigS f L) b o
 | a :: L, x, h, r => by
  rcases List.mem_cons.1 h with rfl | h
  ·exact Rd_here r
  ·exact Rd_next (Rd_big h r)
theorem tQ_rd {A : Int → Nat} {L : List Qn} {t : Qn} (h : t ∈ L) : RdI (bigS (tQ A L) L) (A t.id) (.cells (List.toArray [.int .i64 t.lim, .int .i64 t.chg, .int .i64 (givQ L t.id), .int .i64 t.par, .int .i64 (kidQ L t.id)]) 100 (0, 0)) := ⟨Rd_big h (Rd_pts _ _ _)⟩
theorem sumI_snoc {xs : List Int} {k : Nat} {x : Int} (h : xs[k]? = some x) : sumI (xs.take (k + 1)) = sumI (xs.take k) + x := by
 rw [List.take_add_one, h, Option.toList, sumI_app]; simp [sumI]
theorem fQ_add (A : Int → Nat) (L : List Qn) (t : Qn) (b : Nat) : fQ (updI A t.id b) (L ++ [t]) = updF (fQ A L) t.id (.pointer (some ⟨b, 0, none⟩)) := by
 funext y
 simp only [fQ, updF]
 by_cases e : y = t.id
 ·rw [if_pos e, if_pos ⟨t, by simp, e.symm⟩, e, updI_same]
 ·rw [if_neg e, updI_ne e]
  by_cases h : hasQ L y
  ·rw [if_pos h, if_pos]; obtain ⟨u, hu, hh⟩ := h; exact ⟨u, by simp [hu], hh⟩
  ·rw [if_neg h, if_neg]
   rintro ⟨u, hu, hh⟩
   rcases List.mem_append.1 hu with hu | hu
   ·exact h ⟨u, hu, hh⟩
   ·rw [List.mem_singleton.1 hu] at hh; exact e hh.symm
theorem fQ_set (A : Int → Nat) (L : List Qn) (x c : Int) : fQ A (setQ L x c) = fQ A L := by
 funext y
 simp only [fQ, setQ_has]
theorem setQ_len (L : List Qn) (x c : Int) : (setQ L x c).length = L.length := by rw [setQ, List.length_map]
theorem setQ_perm {L M : List Qn} {t : Qn} (h : NdQ L) (hM : L.Perm (t :: M)) (c : Int) : ((⟨t.id, t.par, t.lim, c⟩ : Qn) :: M).Perm (setQ L t.id c) := by
 have h1 := hM.map fun u : Qn => if u.id = t.id then ⟨u.id, u.par, u.lim, c⟩ else u
 rw [List.map_cons, if_pos rfl] at h1
 have h2 : M.map (fun u : Qn => if u.id = t.id then (⟨u.id, u.par, u.lim, c⟩ : Qn) else u) = M := by
  conv => rhs; rw [← List.map_id M]
  refine List.map_congr_left fun u hu => ?_
  have := (List.nodup_cons.1 (h.perm hM.symm)).1
  rw [if_neg (fun e => this (List.mem_map.2 ⟨u, hu, e⟩))]; rfl
 rw [h2] at h1
 exact h1.symm
theorem setQ_one {A : Int → Nat} {L : List Qn} (x c : Int) (u : Qn) : tQ A L u = tQ A (setQ L x c) u := by
 dsimp only [tQ]; rw [(setQ_giv L x c u.id).1, (setQ_giv L x c u.id).2]
theorem WQ.big {L : List Qn} {nxt : Int} (h : WQ L nxt) {t : Qn} (ht : t ∈ L) : 0 ≤ t.lim ∧ t.lim ≤ 1073741824 ∧ 0 ≤ t.chg ∧ t.chg + givQ L t.id ≤ t.lim ∧ 0 ≤ givQ L t.id ∧ 0 ≤ kidQ L t.id ∧ kidQ L t.id ≤ 32 := by
 have h1 := h.rg t ht
 have h2 := givQ_nonneg h t.id
 have h3 := kidQ_le L t.id
 have h4 := h.len
 omega
theorem qsum_ok (ax : Option Addr) (cx : Nat) (xs : List Int) (hx : ∀ x ∈ xs, 0 ≤ x ∧ x ≤ 1073741824) (hl : xs.length ≤ 1000) : FSpec Tryz.prog 67 [.slice ax xs.length cx] (fun F => ∃ E, RdS F E ax (ints xs)) [] (fun _ : Unit => .int .i64 (sumI xs)) (fun _ => True) (fun _ => []) := by
 refine fI Tryz.func67 Tryz.ntmps67 ?_
 intro F ⟨E, hF⟩
 refine zz [37] ?_
 haveI : RdSI F ax E (ints xs) := ⟨hF⟩
 have hxl := ints_length xs
 refine zz [0,1,4,2,0,1,4,2,0,0,1,29,91,3,2,17] ?_
 refine TC.loop (ι := Nat) (fun k => k ≤ xs.length) (fun k => [(3, .int .i64 (sumI (xs.take k))), (6, .slice ax xs.length cx), (7, .int .i64 xs.length), (8, .int .i64 ((k : Nat) : Int))]) (fun k => sepL [F]) (fun k => xs.length - k) 0 (Nat.zero_le _) ⟨rfl, rfl, rfl, rfl, trivial⟩ (ent_take 0 rfl (ent_nil _)) ?_
 rintro k hk ρ0
 dsimp only [updL] at hk ⊢
 refine zz [0,1,38,2,0] ?_
 first | refine TC.condD rfl (fun hlt => ?_) (fun hlt => ?_) | refine TC.cond rfl (fun hlt => ?_) (fun hlt => ?_)
 ·have hlt2 : k < xs.length := by omega
  obtain ⟨x, hx2⟩ : ∃ x, xs[k]? = some x := ⟨xs[k], List.getElem?_eq_getElem hlt2⟩
  have hpos : 0 < (ints xs).length := by omega
  have hsn := sumI_snoc hx2
  have hxb := hx x (List.mem_of_getElem? hx2)
  have hs0 := sumI_nonneg (l := xs.take k) (fun y hy => (hx y (List.mem_of_mem_take hy)).1)
  have hs1 := sumI_le (l := xs.take k) (fun y hy => (hx y (List.mem_of_mem_take hy)).2)
  have htl : (xs.take k).length ≤ k := by rw [List.length_take]; omega
  refine zz [7,0,17,0,1,81] ?_
  first | refine q rfl rfl (ld rfl rfl rfl) ?_ | refine q rfl rfl (ldS rfl rfl (ints_get hx2)) ?_ | refine q rfl rfl (ldS rfl rfl rfl) ?_
  refine zz [4,2,1,3,3,36,4,63,1,36,3,2] ?_
  exact ⟨rfl, (k + 1), (by omega), (by omega), ⟨by rw [hsn]; rfl, rfl, rfl, rfl, trivial⟩, entS⟩
 ·obtain rfl : k = xs.length := by omega
  rw [List.take_length]
  refine zz [50,0,1,3,4,2,11] ?_
  exact zc2
theorem quse_ok (b : Nat) (l c g pr k : Int) (hc : 0 ≤ c ∧ c ≤ 1073741824) (hg : 0 ≤ g ∧ g ≤ 1073741824) : FSpec Tryz.prog 32 [.pointer (some ⟨b, 0, none⟩)] (fun F => Rd F b (.cells (List.toArray [.int .i64 l, .int .i64 c, .int .i64 g, .int .i64 pr, .int .i64 k]) 100 (0, 0))) [] (fun _ : Unit => .int .i64 (c + g)) (fun _ => True) (fun _ => []) := by
 refine fI Tryz.func32 Tryz.ntmps32 ?_
 intro F hF
 refine zz [37] ?_
 haveI : RdI F b (.cells (List.toArray [.int .i64 l, .int .i64 c, .int .i64 g, .int .i64 pr, .int .i64 k]) 100 (0, 0)) := ⟨hF⟩
 refine zz [0,1,4,2,0] ?_
 refine TC.draw _ [] [(0, false), (1, false), (2, false), (3, false), (4, false), (5, false), (6, false), (7, false), (8, true), (9, true), (10, false)] (by kernel_rfl) (by kernel_rfl) (ent_take 0 rfl (ent_nil _)) ?_
 refine zz [28,31,60,18,28,31,58,18,16,114] ?_
 intro b1
 refine zz [8,16] ?_
 refine cl (qsum_ok (some ⟨b1, 0, none⟩) _ [c, g] (by simp; omega) (by simp)) rfl (picked_nil _) ⟨_, RdSI.rd (ad := some ⟨b1, 0, none⟩)⟩ ?_
 intro _ _
 change ent _ _ ∧ TD _ _ _ _ _ _ _ _ _ _ (sepL [_, _])
 refine ⟨entS, ?_⟩
 rw [show sumI [c, g] = c + g by simp [sumI]]
 refine zz [41,27,11] ?_
 exact zc0
theorem qfits_ok (b : Nat) (l c g pr k : Int) (hc : 0 ≤ c ∧ c ≤ 1073741824) (hg : 0 ≤ g ∧ g ≤ 1073741824) (n : Int) (hl : 0 ≤ l ∧ l ≤ 1073741824) : FSpec Tryz.prog 120 [.pointer (some ⟨b, 0, none⟩), .int .i64 n] (fun F => Rd F b (.cells (List.toArray [.int .i64 l, .int .i64 c, .int .i64 g, .int .i64 pr, .int .i64 k]) 100 (0, 0))) [] (fun _ : Unit => .bool (decide (n ≤ l - (c + g)))) (fun _ => True) (fun _ => []) := by
 refine fI Tryz.func120 Tryz.ntmps120 ?_
 intro F hF
 refine zz [37] ?_
 haveI : RdI F b (.cells (List.toArray [.int .i64 l, .int .i64 c, .int .i64 g, .int .i64 pr, .int .i64 k]) 100 (0, 0)) := ⟨hF⟩
 refine zz [0,1,9,2,0] ?_
 refine TC.draw _ [] [(0, false), (1, false), (2, false), (3, false), (4, false), (5, false), (6, true), (7, false), (8, false), (9, false)] (by kernel_rfl) (by kernel_rfl) (ent_take 0 rfl (ent_nil _)) ?_
 refine zz [33,28,31,25,18,28,16] ?_
 refine cl (quse_ok b l c g pr k hc hg) rfl (picked_nil _) RdI.rd ?_
 intro _ _
 change ent _ _ ∧ TD _ _ _ _ _ _ _ _ _ _ (sepL [_])
 refine zz [8,207] ?_
 refine dq rfl rfl rfl (leq rfl rfl) ?_
 refine zz [124,27,11] ?_
 exact zc0
theorem qat_yes (b mb n : Nat) (nxt : Int) (A : Int → Nat) (L : List Qn) (id : Int) (h : hasQ L id) : FSpec Tryz.prog 31 [.pointer (some ⟨b, 0, none⟩), .int .i64 id] noRd [pts b 161 [.map (some mb), .int .i64 nxt], mapF QM.encI mb (fQ A L) n] (fun _ : Unit => .tuple #[.pointer (some ⟨(A id), 0, none⟩), .int .i64 0]) (fun _ => True) (fun _ => [pts b 161 [.map (some mb), .int .i64 nxt], mapF QM.encI mb (fQ A L) n]) := by
 refine fI Tryz.func31 Tryz.ntmps31 ?_
 intro F _
 refine zz [44,0,1,87,87,2,0,0,1,71,34,2,10,7,0,1,71,13,14,12,71] ?_
 refine q rfl rfl (luF 3 94 rfl rfl (KL.int rfl) rfl rfl) ?_
 rw [fQ_yes h]
 refine zz [24,2,0,0,1,6,34,2,10,7,0,1,6,24,4,2,11] ?_
 exact zc5
theorem qat_no (b mb n : Nat) (nxt : Int) (A : Int → Nat) (L : List Qn) (id : Int) (h : ¬ hasQ L id) : FSpec Tryz.prog 31 [.pointer (some ⟨b, 0, none⟩), .int .i64 id] noRd [pts b 161 [.map (some mb), .int .i64 nxt], mapF QM.encI mb (fQ A L) n] (fun _ : Unit => .tuple #[.pointer none, .int .i64 6]) (fun _ => True) (fun _ => [pts b 161 [.map (some mb), .int .i64 nxt], mapF QM.encI mb (fQ A L) n]) := by
 refine fI Tryz.func31 Tryz.ntmps31 ?_
 intro F _
 refine zz [44,0,1,87,87,2,0,0,1,71,34,2,10,7,0,1,71,13,14,12,71] ?_
 refine q rfl rfl (luF 3 94 rfl rfl (KL.int rfl) rfl rfl) ?_
 rw [fQ_no h]
 refine zz [24,2,0,0,1,6,34,2,40,0,1,24,4,2,51] ?_
 exact zc5
theorem qlim_ok (b : Nat) (L : List Qn) (nxt : Int) (id : Int) : FSpec Tryz.prog 12 [.pointer (some ⟨b, 0, none⟩), .int .i64 id] noRd [isQ b L nxt] (fun _ : Unit => .int .i64 (limQ L id)) (fun _ => True) (fun _ => [isQ b L nxt]) := by
 refine fI Tryz.func12 Tryz.ntmps12 ?_
 intro F _
 refine zz [39] ?_
 refine TC.open 0 rfl (fun x0 hx0 => ?_)
 obtain ⟨A, mb⟩ := x0
 have hW := hx0
 refine zz [77] ?_
 dsimp only at hW ⊢
 by_cases h : hasQ L id
 ·obtain ⟨t, ht, rfl⟩ := h
  have h : hasQ L t.id := ⟨t, ht, rfl⟩
  obtain ⟨e1, e2, e3, e4⟩ := use_yes hW.nd ht
  have hb := hW.big ht
  rw [e2]
  haveI := tQ_rd (A := A) ht
  refine zz [0,1,4,2,0,1,6,3,5] ?_
  refine cl (qat_yes b mb L.length nxt A L t.id h) rfl PkL.p trivial ?_
  intro _ _
  refine zz [46,26,79,15,24,4,2,0,0,1,3,23,2,10,7,0,1,6,13,14,14,12,4,2,11] ?_
  exact Ret.i () [_] ⟨rfl, trivial⟩ rfl trivial (ent_close ⟨A, mb⟩ hW (ent_take 0 rfl (ent_take 0 rfl (ent_take 0 rfl (ent_take 0 rfl (ent_nil _))))))
 ·obtain ⟨e1, e2, e3, e4⟩ := use_no h
  rw [e2]
  refine zz [0,1,4,2,0,1,6,3,5] ?_
  refine cl (qat_no b mb L.length nxt A L id h) rfl PkL.p trivial ?_
  intro _ _
  refine zz [46,26,79,15,24,4,2,0,0,1,3,23,2,40,0,1,4,2,51] ?_
  exact Ret.i () [_] ⟨rfl, trivial⟩ rfl trivial (ent_close ⟨A, mb⟩ hW (ent_take 0 rfl (ent_take 0 rfl (ent_take 0 rfl (ent_take 0 rfl (ent_nil _))))))
theorem quses_ok (b : Nat) (L : List Qn) (nxt : Int) (id : Int) : FSpec Tryz.prog 11 [.pointer (some ⟨b, 0, none⟩), .int .i64 id] noRd [isQ b L nxt] (fun _ : Unit => .int .i64 (useQ L id)) (fun _ => True) (fun _ => [isQ b L nxt]) := by
 refine fI Tryz.func11 Tryz.ntmps11 ?_
 intro F _
 refine zz [39] ?_
 refine TC.open 0 rfl (fun x0 hx0 => ?_)
 obtain ⟨A, mb⟩ := x0
 have hW := hx0
 refine zz [77] ?_
 dsimp only at hW ⊢
 by_cases h : hasQ L id
 ·obtain ⟨t, ht, rfl⟩ := h
  have h : hasQ L t.id := ⟨t, ht, rfl⟩
  obtain ⟨e1, e2, e3, e4⟩ := use_yes hW.nd ht
  have hb := hW.big ht
  rw [e1]
  haveI := tQ_rd (A := A) ht
  refine zz [0,1,4,2,0,1,6,3,5] ?_
  refine cl (qat_yes b mb L.length nxt A L t.id h) rfl PkL.p trivial ?_
  intro _ _
  refine zz [46,26,79,15,24,4,2,0,0,1,3,23,2,10,7,0,1,6,13,14,5] ?_
  refine cl (quse_ok (A t.id) t.lim t.chg (givQ L t.id) t.par (kidQ L t.id) (by omega) (by omega)) rfl (picked_nil _) RdI.rd ?_
  intro _ _
  refine zz [46,4,2,11] ?_
  exact Ret.i () [_] ⟨rfl, trivial⟩ rfl trivial (ent_close ⟨A, mb⟩ hW (ent_take 0 rfl (ent_take 0 rfl (ent_take 0 rfl (ent_take 0 rfl (ent_nil _))))))
 ·obtain ⟨e1, e2, e3, e4⟩ := use_no h
  rw [e1]
  refine zz [0,1,4,2,0,1,6,3,5] ?_
  refine cl (qat_no b mb L.length nxt A L id h) rfl PkL.p trivial ?_
  intro _ _
  refine zz [46,26,79,15,24,4,2,0,0,1,3,23,2,40,0,1,4,2,51] ?_
  exact Ret.i () [_] ⟨rfl, trivial⟩ rfl trivial (ent_close ⟨A, mb⟩ hW (ent_take 0 rfl (ent_take 0 rfl (ent_take 0 rfl (ent_take 0 rfl (ent_nil _))))))
set_option maxHeartbeats 1000000 in
theorem qcharge_ok (b : Nat) (L : List Qn) (nxt : Int) (id n : Int) : FSpec Tryz.prog 73 [.pointer (some ⟨b, 0, none⟩), .int .i64 id, .int .i64 n] noRd [isQ b L nxt] (fun _ : Unit => .int .i64 (chargeQ L id n).2) (fun _ => True) (fun _ => [isQ b (chargeQ L id n).1 nxt]) := by
 refine fI Tryz.func73 Tryz.ntmps73 ?_
 intro F _
 refine zz [39] ?_
 refine TC.open 0 rfl (fun x0 hx0 => ?_)
 obtain ⟨A, mb⟩ := x0
 have hW := hx0
 refine zz [77] ?_
 dsimp only at hW ⊢
 by_cases h : hasQ L id
 ·obtain ⟨t, ht, rfl⟩ := h
  have h : hasQ L t.id := ⟨t, ht, rfl⟩
  obtain ⟨e1, e2, e3, e4⟩ := use_yes hW.nd ht
  have hb := hW.big ht
  obtain ⟨M, hM⟩ := perm_mem ht
  haveI := tQ_rd (A := A) ht
  refine zz [0,1,4,2,0,1,6,3,5] ?_
  refine cl (qat_yes b mb L.length nxt A L t.id h) rfl PkL.p trivial ?_
  intro _ _
  refine zz [46,26,79,15,24,4,2,0,17,0,1,3,23,9,2,10,0,1,3,38,9,2] ?_
  first | refine TC.condD rfl (fun h0 => ?_) (fun h0 => ?_) | refine TC.cond rfl (fun h0 => ?_) (fun h0 => ?_)
  ·have hv : chargeQ L t.id n = (L, 1) := by rw [chargeQ, if_neg (fun h2 => h2 h), if_pos h0]
   rw [hv]
   dsimp only
   refine zz [0,1,4,2,56] ?_
   exact Ret.i () [_] ⟨rfl, trivial⟩ rfl trivial (ent_close (⟨A, mb⟩ : QRep) hW entS)
  ·refine zz [0,1,6,13,14,3,5] ?_
   refine cl (qfits_ok (A t.id) t.lim t.chg (givQ L t.id) t.par (kidQ L t.id) (by omega) (by omega) n (by omega)) rfl (picked_nil _) RdI.rd ?_
   intro _ _
   refine zz [46,64,9,2] ?_
   first | refine TC.condD rfl (fun h1 => ?_) (fun h1 => ?_) | refine TC.cond rfl (fun h1 => ?_) (fun h1 => ?_)
   ·have hv : chargeQ L t.id n = (L, 5) := by rw [chargeQ, if_neg (fun h2 => h2 h), if_neg h0, if_pos (by rw [e1, e2]; exact h1)]
    rw [hv]
    dsimp only
    refine zz [0,1,4,2,56] ?_
    exact Ret.i () [_] ⟨rfl, trivial⟩ rfl trivial (ent_close (⟨A, mb⟩ : QRep) hW entS)
   ·have h2 : n ≤ t.lim - (t.chg + givQ L t.id) := Decidable.not_not.1 h1
    have hv : chargeQ L t.id n = (setQ L t.id (t.chg + n), 0) := by rw [chargeQ, if_neg (fun h2 => h2 h), if_neg h0, if_neg (by rw [e1, e2]; exact fun h3 => h3 h2), e3]
    rw [hv]
    dsimp only
    have hW2 : WQ (setQ L t.id (t.chg + n)) nxt := hW.set ht (by omega) (by omega)
    refine TC.weak (ent_openB 2 rfl hM) ?_
    refine zz [42,0,1,6,13,14,47,12,3,36,13,14,47,21,105,2,0,1,4,2,11] ?_
    exact Ret.i () [_] ⟨rfl, trivial⟩ rfl trivial (ent_close (⟨A, mb⟩ : QRep) hW2 (ent_take 2 rfl (ent_takeE 2 rfl (by dsimp only; rw [fQ_set, setQ_len]) (ent_closeB 0 0 (⟨t.id, t.par, t.lim, t.chg + n⟩ : Qn) rfl rfl (by dsimp only [tQ]; rw [(setQ_giv L t.id (t.chg + n) t.id).1, (setQ_giv L t.id (t.chg + n) t.id).2]; rfl) (fun u _ => setQ_one t.id (t.chg + n) u) (setQ_perm hW.nd hM (t.chg + n)) (ent_take 0 rfl (ent_nil _))))))
 ·have hv : chargeQ L id n = (L, 6) := if_pos h
  rw [hv]
  dsimp only
  refine zz [0,1,4,2,0,1,6,3,5] ?_
  refine cl (qat_no b mb L.length nxt A L id h) rfl PkL.p trivial ?_
  intro _ _
  refine zz [46,26,79,15,24,4,2,0,17,0,1,3,23,9,2,40,0,1,3,4,2,56] ?_
  exact Ret.i () [_] ⟨rfl, trivial⟩ rfl trivial (ent_close ⟨A, mb⟩ hW (ent_take 0 rfl (ent_take 0 rfl (ent_take 0 rfl (ent_take 0 rfl (ent_nil _))))))
set_option maxHeartbeats 1000000 in
theorem qrefund_ok (b : Nat) (L : List Qn) (nxt : Int) (id n : Int) : FSpec Tryz.prog 75 [.pointer (some ⟨b, 0, none⟩), .int .i64 id, .int .i64 n] noRd [isQ b L nxt] (fun _ : Unit => .int .i64 (refundQ L id n).2) (fun _ => True) (fun _ => [isQ b (refundQ L id n).1 nxt]) := by
 refine fI Tryz.func75 Tryz.ntmps75 ?_
 intro F _
 refine zz [39] ?_
 refine TC.open 0 rfl (fun x0 hx0 => ?_)
 obtain ⟨A, mb⟩ := x0
 have hW := hx0
 refine zz [77] ?_
 dsimp only at hW ⊢
 by_cases h : hasQ L id
 ·obtain ⟨t, ht, rfl⟩ := h
  have h : hasQ L t.id := ⟨t, ht, rfl⟩
  obtain ⟨e1, e2, e3, e4⟩ := use_yes hW.nd ht
  have hb := hW.big ht
  obtain ⟨M, hM⟩ := perm_mem ht
  haveI := tQ_rd (A := A) ht
  refine zz [0,1,4,2,0,1,6,3,5] ?_
  refine cl (qat_yes b mb L.length nxt A L t.id h) rfl PkL.p trivial ?_
  intro _ _
  refine zz [46,26,79,15,24,4,2,0,17,0,1,3,23,9,2,10,0,1,3,38,20] ?_
  refine TL.split 22 rfl (fun h0 => ?_) (fun h0 => ?_)
  ·have h0 := of_decide_eq_true h0
   refine zz [22,22,22,22,22,22,22,19,9,2,40] ?_
   have hv : refundQ L t.id n = (L, 1) := by rw [refundQ, if_neg (fun h2 => h2 h), if_pos (.inl h0)]
   rw [hv]
   dsimp only
   refine zz [0,1,4,2,56] ?_
   exact Ret.i () [_] ⟨rfl, trivial⟩ rfl trivial (ent_close (⟨A, mb⟩ : QRep) hW entS)
  ·have h0 := of_decide_eq_false h0
   refine zz [32,85,112,96,97,52,84,19,9,2] ?_
   first | refine TC.condD rfl (fun h1 => ?_) (fun h1 => ?_) | refine TC.cond rfl (fun h1 => ?_) (fun h1 => ?_)
   ·have hv : refundQ L t.id n = (L, 1) := by rw [refundQ, if_neg (fun h2 => h2 h), e3, if_pos (.inr h1)]
    rw [hv]
    dsimp only
    refine zz [0,1,4,2,56] ?_
    exact Ret.i () [_] ⟨rfl, trivial⟩ rfl trivial (ent_close (⟨A, mb⟩ : QRep) hW entS)
   ·have hv : refundQ L t.id n = (setQ L t.id (t.chg - n), 0) := by rw [refundQ, if_neg (fun h2 => h2 h), e3, if_neg (fun h3 => h3.elim (fun h4 => h0 h4) (fun h4 => h1 h4))]
    rw [hv]
    dsimp only
    have hW2 : WQ (setQ L t.id (t.chg - n)) nxt := hW.set ht (by omega) (by omega)
    refine TC.weak (ent_openB 2 rfl hM) ?_
    refine zz [42,0,1,6,13,14,47,12,3,128,13,14,47,21,105,2,0,1,4,2,11] ?_
    exact Ret.i () [_] ⟨rfl, trivial⟩ rfl trivial (ent_close (⟨A, mb⟩ : QRep) hW2 (ent_take 2 rfl (ent_takeE 2 rfl (by dsimp only; rw [fQ_set, setQ_len]) (ent_closeB 0 0 (⟨t.id, t.par, t.lim, t.chg - n⟩ : Qn) rfl rfl (by dsimp only [tQ]; rw [(setQ_giv L t.id (t.chg - n) t.id).1, (setQ_giv L t.id (t.chg - n) t.id).2]; rfl) (fun u _ => setQ_one t.id (t.chg - n) u) (setQ_perm hW.nd hM (t.chg - n)) (ent_take 0 rfl (ent_nil _))))))
 ·have hv : refundQ L id n = (L, 6) := if_pos h
  rw [hv]
  dsimp only
  refine zz [0,1,4,2,0,1,6,3,5] ?_
  refine cl (qat_no b mb L.length nxt A L id h) rfl PkL.p trivial ?_
  intro _ _
  refine zz [46,26,79,15,24,4,2,0,17,0,1,3,23,9,2,40,0,1,3,4,2,56] ?_
  exact Ret.i () [_] ⟨rfl, trivial⟩ rfl trivial (ent_close ⟨A, mb⟩ hW (ent_take 0 rfl (ent_take 0 rfl (ent_take 0 rfl (ent_take 0 rfl (ent_nil _))))))
end Go.Proofs.YtnlgmaibhlicjaaGreatDoor.Qt
