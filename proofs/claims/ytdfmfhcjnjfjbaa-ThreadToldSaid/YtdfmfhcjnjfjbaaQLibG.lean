/-
  A range over a map, over symbolic states. Nothing of a program stands here.
-/
import Derived.Test.YtdfmfhcjnjfjbaaQLibM
import Derived.Maps.RangeRun
namespace Go.QM
open Go
section
variable {r : Option Nat} {P : Program} {N : Nat} {ρ : Env} {A : HP} {K : Value → HP → Prop}
variable {d : Option Tmp} {ty : TypeId} {ps : String} {af : Array Edge} {g : Option (Nat × Bool)} {t : TypeId} {x : Operand}
theorem rgM {hs : List HP} (kt e : TypeId) {b : Nat} {es : Array MapEntry} {cl : Nat} (ht : mapT P t kt e = true) (hx : ev ρ x = .map (some b)) [hr : RdI (sepL hs) b (.map es cl)]
    (k : ∀ i, K (.pointer (some ⟨i, 0, none⟩)) (sepL (obj i (.mapIter (some b) cl #[] cl) :: hs))) : OW r P ρ ⟨d, .range t x, ty, ps, af, g⟩ (sepL hs) K :=
  OW.run rfl fun w hsat => ⟨.pointer (some ⟨w.heap.size, 0, none⟩), w.alloc (.mapIter (some b) cl #[] cl), _, .inl (by
      have h1 : w.heap[b]? = some (.map es cl) := hr.rd.sat hsat
      simp [execOp, Instr.range, hx, mapT_run ht, MapKept.run_getObj_map h1]), ⟨rfl, rfl, rfl, by simp⟩, sat_alloc _ hsat, k w.heap.size⟩
theorem nxM (i : Nat) {hs rest : List HP} {it b : Nat} {es : Array MapEntry} {cl : Nat} {seen : Array Nat} (hx : ev ρ x = .pointer (some ⟨it, 0, none⟩)) (hi : take1 i hs = some (obj it (.mapIter (some b) cl seen cl), rest))
    (hr : Rd (sepL rest) b (.map es cl)) (hb : BoM es cl)
    (k1 : (∀ e ∈ es.toList, e.born ∈ seen) → K (.tuple #[.bool false]) (sepL (obj it (.mapIter (some b) cl seen cl) :: rest)))
    (k2 : ∀ e ∈ es.toList, e.born ∉ seen → K (.tuple #[.bool true, e.key, e.val]) (sepL (obj it (.mapIter (some b) cl (seen.push e.born) cl) :: rest))) :
    OW r P ρ ⟨d, .next x false, ty, ps, af, g⟩ (sepL hs) K := by
  refine OW.run rfl fun w hsat => ?_
  have hs1 := hsat.weak (take1_ent hi)
  have h1 : w.heap[it]? = some (.mapIter (some b) cl seen cl) := (Rd_l (Rd_obj it _)).sat hs1
  have h2 : w.heap[b]? = some (.map es cl) := (Rd_r hr).sat hs1
  rcases run_next_at (P := P) w ty it b cl cl seen es cl h1 h2 hb.1 (Nat.le_refl _) with ⟨h0, hrun⟩ | ⟨e, he, w1, hw, hrun⟩
  · refine ⟨.tuple #[.bool false], w, _, .inl ?_, Same.refl w, hs1, k1 fun e he => ?_⟩
    · simp only [execOp, hx]; exact (by simp [hrun])
    · by_cases hm : e.born ∈ seen
      · exact hm
      · exfalso
        have hl : e ∈ (leftOf es seen).toList := by simp [leftOf, hm, Array.mem_toList_iff.1 he]
        have : (leftOf es seen).toList = [] := List.eq_nil_of_length_eq_zero (by simpa using h0)
        rw [this] at hl; cases hl
  · have hl : e ∈ es.toList ∧ e.born ∉ seen := by simpa [leftOf] using he
    refine ⟨.tuple #[.bool true, e.key, e.val], _, _, .inl (by simp only [execOp, hx]; exact (by simp [hrun]; rfl)), ?_, ?_, k2 e hl.1 hl.2⟩
    · rcases hw with rfl | rfl <;> exact ⟨rfl, rfl, rfl, by simp [ChangeMaps.setBlock]⟩
    · have hs2 : sat w1 (sep (obj it (.mapIter (some b) cl seen cl)) (sepL rest)) := by rcases hw with rfl | rfl <;> exact hs1
      have h3 : w1.heap[it]? = some (.mapIter (some b) cl seen cl) := by rcases hw with rfl | rfl <;> exact h1
      have hlt : it < w1.heap.size := (Array.getElem?_eq_some_iff.1 h3).1
      exact sat_set hs2 (by show (w1.heap.setIfInBounds it _)[it]? = _; rw [Array.getElem?_setIfInBounds_self_of_lt hlt]) (fun j hj => by show (w1.heap.setIfInBounds it _)[j]? = _; rw [Array.getElem?_setIfInBounds_ne (Ne.symm hj)])
theorem enM {it b : Nat} {es : Array MapEntry} {cl since : Nat} {seen : Array Nat} (e : MapEntry) (hx : ev ρ x = .pointer (some ⟨it, 0, none⟩)) [hi : RdI A it (.mapIter (some b) since (seen.push e.born) cl)] (hr : Rd A b (.map es cl))
    (he : e ∈ es.toList) (hb : BoM es cl) : OQ P ρ ⟨d, .entry x, ty, ps, af, g⟩ A (.tuple #[e.key, e.val]) := fun w hs => by
  have := run_entry_at (P := P) w it b since seen es cl e (hi.rd.sat hs) (hr.sat hs) he hb.2
  simp only [execOp, hx]
  simp [this]
end
/-- The number that a key is. -/
def kOf (e : MapEntry) : Int := match e.key with
  | .int _ k => k
  | _ => 0
theorem isM_int {m : List (Int × Value)} {es : Array MapEntry} (h : es.toList.map (fun e => (e.key, e.val)) = m.map (fun t => (encI t.1, t.2))) : (∀ e ∈ es.toList, e.key = .int .i64 (kOf e)) ∧ es.toList.map kOf = m.map (·.1) := by
  have h1 : es.toList.map (·.key) = m.map fun t => encI t.1 := by
    have := congrArg (List.map Prod.fst) h
    simpa [List.map_map, Function.comp_def] using this
  have h2 : ∀ e ∈ es.toList, e.key = .int .i64 (kOf e) := fun e he => by
    have h3 : e.key ∈ es.toList.map (·.key) := List.mem_map.2 ⟨e, he, rfl⟩
    rw [h1] at h3
    obtain ⟨u, _, hu⟩ := List.mem_map.1 h3
    rw [kOf, ← hu]; rfl
  refine ⟨h2, ?_⟩
  have h4 : es.toList.map (fun e => encI (kOf e)) = m.map fun t => encI t.1 := by
    rw [← h1]; exact List.map_congr_left fun e he => (h2 e he).symm
  have h5 := congrArg (List.map fun v => match v with | Value.int _ k => k | _ => 0) h4
  simpa [List.map_map, Function.comp_def, encI] using h5
/-- All that is there was handed over. -/
theorem all_keys {es : Array MapEntry} {cl : Nat} (hb : BoM es cl) {ks : List MapEntry} (h1 : ∀ e ∈ ks, e ∈ es.toList) (h2 : (ks.map (·.born)).Nodup) (h3 : ∀ e ∈ es.toList, e.born ∈ ks.map (·.born)) : ks.Perm es.toList := by
  have inj : ∀ a ∈ es.toList, ∀ c ∈ es.toList, a.born = c.born → a = c := fun a ha c hc e => by
    obtain ⟨i, hi⟩ := List.getElem?_of_mem ha
    obtain ⟨j, hj⟩ := List.getElem?_of_mem hc
    obtain ⟨a1, b1⟩ := List.getElem?_eq_some_iff.1 hi
    obtain ⟨a2, b2⟩ := List.getElem?_eq_some_iff.1 hj
    have hp := List.pairwise_iff_getElem.1 hb.2
    by_cases eij : i = j
    · subst eij; rw [← b1, ← b2]
    · exfalso
      rcases Nat.lt_or_gt_of_ne eij with h | h
      · have := hp i j (by simpa using a1) (by simpa using a2) h
        rw [List.getElem_map, List.getElem_map, b1, b2] at this; exact this e
      · have := hp j i (by simpa using a2) (by simpa using a1) h
        rw [List.getElem_map, List.getElem_map, b1, b2] at this; exact this e.symm
  have n1 : ks.Nodup := (List.pairwise_map.1 h2).imp fun hab e2 => hab (congrArg _ e2)
  have n2 : es.toList.Nodup := (List.pairwise_map.1 hb.2).imp fun hab e2 => hab (congrArg _ e2)
  exact (List.perm_ext_iff_of_nodup n1 n2).2 fun e => ⟨h1 e, fun he => by
    obtain ⟨u, hu, e2⟩ := List.mem_map.1 (h3 e he)
    rw [← inj u (h1 u hu) e he e2]; exact hu⟩
end Go.QM
