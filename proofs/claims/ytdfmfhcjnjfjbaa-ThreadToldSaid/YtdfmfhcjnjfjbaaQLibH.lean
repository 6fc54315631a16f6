/-
  The library's sort of numbers, as a contract over symbolic states. Nothing of a program stands here.
-/
import Derived.Test.YtdfmfhcjnjfjbaaQLibG
import Derived.Shelf.Sort.Plain
import Derived.Shelf.Slices.In.SortNone
namespace Go.QM
open Go Go.Sort Go.Shelf Go.Proofs
def sortI (xs : List Int) : List Int := xs.mergeSort fun x y => decide (x ≤ y)
theorem sortI_perm (xs : List Int) : (sortI xs).Perm xs := List.mergeSort_perm _ _
theorem sortI_len (xs : List Int) : (sortI xs).length = xs.length := (sortI_perm xs).length_eq
theorem sortI_sorted (xs : List Int) : (sortI xs).Pairwise fun x y => x ≤ y := by
  have := List.pairwise_mergeSort (le := fun x y : Int => decide (x ≤ y)) (fun a b c h1 h2 => by simp at h1 h2 ⊢; omega) (fun a b => by simp; omega) xs
  exact this.imp fun h => by simpa using h
theorem sat_grow {w : World} {A : HP} (h : sat w A) (os : Array Obj) : sat (grow w os) A := by
  obtain ⟨x, hx, ha⟩ := h
  refine ⟨x, fun i o hi => ?_, ha⟩
  have := hx i o hi
  have hlt : i < w.heap.size := (Array.getElem?_eq_some_iff.1 this).1
  show (w.heap ++ os)[i]? = some o
  rw [Array.getElem?_append_left hlt]; exact this
theorem put_ints (pre suf : List Value) (xs ys : List Int) (h : ys.length = xs.length) : putCells (Value.int .i64) pre.length ys.toArray (pre ++ ints xs ++ suf).toArray = (pre ++ ints ys ++ suf).toArray := by
  have hx := ints_length xs
  have hy := ints_length ys
  apply Array.ext
  · simp [putCells, hx, hy, h]
  · intro i h1 h2
    simp only [putCells, Array.getElem_mapIdx, List.getElem_toArray, List.size_toArray]
    split
    · rename_i hc
      have h3 : (pre ++ ints ys ++ suf)[i]? = some (.int .i64 ys[i - pre.length]) := by
        rw [List.append_assoc, List.getElem?_append_right hc.1, List.getElem?_append_left (by omega), ints, List.getElem?_map, List.getElem?_eq_getElem (by omega)]; rfl
      have h4 := List.getElem?_eq_some_iff.1 h3
      obtain ⟨h5, h6⟩ := h4
      rw [h6]
      rw [getElem!_pos ys.toArray (i - pre.length) (by simp; omega), List.getElem_toArray]
    · rename_i hc
      have e1 : (pre ++ ints xs ++ suf)[i]? = (pre ++ ints ys ++ suf)[i]? := by
        rw [List.append_assoc, List.append_assoc]
        by_cases hp : i < pre.length
        · rw [List.getElem?_append_left hp, List.getElem?_append_left hp]
        · rw [List.getElem?_append_right (by omega), List.getElem?_append_right (by omega), List.getElem?_append_right (by omega), List.getElem?_append_right (by omega), hx, hy, h]
      have h1' : i < (pre ++ ints xs ++ suf).length := by simpa [putCells] using h1
      have h2' : i < (pre ++ ints ys ++ suf).length := by simpa using h2
      rw [List.getElem?_eq_getElem h1', List.getElem?_eq_getElem h2'] at e1
      exact Option.some.inj e1
theorem sort_ok {P : Program} {ρ : Ren} (Ly : Lays.n189 P ρ) (he : enterT P (ρ.f 189) = true) (E : Nat) (ad : Option Addr) (cap : Nat) (xs : List Int) (hl : xs.length ≤ 1000000) :
    FSpec P (ρ.f 189) [.slice ad xs.length cap] noRd [slc E 1 ad xs.length cap (ints xs)] (fun _ : Unit => .tuple #[]) (fun _ => True) (fun _ => [slc E 1 ad xs.length cap (ints (sortI xs))]) := by
  refine ⟨he, fun F _ w hs => ?_⟩
  by_cases hx : xs = []
  · subst hx
    refine (callsIn_wide.2 (Any.slices_Sort_int_none Ly ad cap w)).mono ?_
    rintro e w' ⟨rfl, rfl⟩
    exact ⟨(), rfl, trivial, Same.refl w', by have h0 : sortI [] = [] := List.eq_nil_of_length_eq_zero (sortI_len []); dsimp only; rw [h0]; exact hs⟩
  · cases ad with
    | none =>
      exfalso
      obtain ⟨h, _, a, b, _, rfl, ha, _⟩ := hs
      obtain ⟨c, d, _, rfl, hc, _⟩ := ha
      have := hc.1.1
      exact hx (List.eq_nil_of_length_eq_zero this)
    | some p =>
      obtain ⟨hh, hx2, hp1, hq1, d1, rfl, h1, h2⟩ := hs
      obtain ⟨hp2, hq2, d2, rfl, h3, h4⟩ := h1
      obtain ⟨⟨pre, suf⟩, ⟨g1, g2, g3, g4, g5⟩, h5⟩ := h3
      have hs0 : sat w (sep (sep (pts p.block E (pre ++ ints xs ++ suf)) emp) F) := ⟨_, hx2, _, hq1, d1, rfl, ⟨hp2, hq2, d2, rfl, h5, h4⟩, h2⟩
      have hs1 : sat w (sep (obj p.block (.cells (pre ++ ints xs ++ suf).toArray E (0, 0))) (sep emp F)) := hs0.weak sep_assoc
      have hb : w.heap[p.block]? = some (.cells (pre ++ ints xs ++ suf).toArray E (0, 0)) := (Rd_l (Rd_obj _ _)).sat hs1
      have hlt : p.block < w.heap.size := (Array.getElem?_eq_some_iff.1 hb).1
      have hil := ints_length xs
      have hH : Holds (Value.int .i64) w p.block pre.length xs.toArray := fun j hj => by
        have hj' : j < xs.length := by simpa using hj
        refine ⟨?_, by simp [World.frozen?, hb]⟩
        have h6 : (pre ++ ints xs ++ suf)[pre.length + j]? = some (.int .i64 xs[j]) := by
          rw [List.append_assoc, List.getElem?_append_right (by omega), Nat.add_sub_cancel_left, List.getElem?_append_left (by omega), ints, List.getElem?_map, List.getElem?_eq_getElem hj']; rfl
        rw [getElem!_pos xs.toArray j hj, List.getElem_toArray]
        simp [World.cell?, hb]
        simpa using h6
      have g1' : (some p : Option Addr) = some ⟨p.block, pre.length, none⟩ := congrArg some g1
      rw [g1']
      refine (callsIn_wide.2 (Any.slices_Sort_int Ly p.block pre.length cap xs w hH hlt (by omega))).mono ?_
      rintro e w' ⟨rfl, n, os, rfl⟩
      refine ⟨(), rfl, trivial, ⟨rfl, rfl, rfl, ?_⟩, sat_grow ?_ os⟩
      · simp [grow]
      · have hn : (putRow (Value.int .i64) (Go.Sort.ahead w n) p.block pre.length (sortI xs).toArray).heap[p.block]? = some (.cells (pre ++ ints (sortI xs) ++ suf).toArray E (0, 0)) := by
          show (w.heap.modify p.block (onCells _))[p.block]? = _
          rw [Array.getElem?_modify, if_pos rfl, hb]
          simp only [Option.map_some, onCells]
          rw [put_ints pre suf xs (sortI xs) (sortI_len xs)]
        have hs2 := sat_set hs1 hn (fun i hi => by
          show (w.heap.modify p.block (onCells _))[i]? = _
          rw [Array.getElem?_modify, if_neg (Ne.symm hi)])
        have hs3 : sat _ (sep (sep (pts p.block E (pre ++ ints (sortI xs) ++ suf)) emp) F) := hs2.weak sep_assoc'
        refine hs3.weak (sep_mono (sep_mono ?_ (ent.refl _)) (ent.refl _))
        exact ent_of_imp fun h ho => ⟨(pre, suf), ⟨rfl, by rw [ints_length, sortI_len]; omega, g3, g4, by rw [ints_length, sortI_len]; omega⟩, ho⟩
end Go.QM
