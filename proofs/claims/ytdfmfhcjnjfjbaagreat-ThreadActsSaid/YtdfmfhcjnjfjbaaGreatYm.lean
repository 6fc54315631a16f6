/-
  Proved here: what functions of this program compute, each as a contract over symbolic states, under the premises that each theorem names (most lines printed by a program of the prover).
-/
import Derived.Shelf.Sort.Plain
import Derived.Shelf.Slices.In.SortNone
import Derived.Test.YtdfmfhcjnjfjbaaGreatYl
namespace Go.QM
open Go Go.Sort Go.Shelf Go.Proofs
def sortI (xs : List Int) : List Int := xs.mergeSort fun x y => decide (x ≤ y)
theorem sortI_perm (xs : List Int) : (sortI xs).Perm xs := List.mergeSort_perm _ _
theorem sortI_len (xs : List Int) : (sortI xs).length = xs.length := (sortI_perm xs).length_eq
theorem sortI_sorted (xs : List Int) : (sortI xs).Pairwise fun x y => x ≤ y := by
  have := List.pairwise_mergeSort (le := fun x y : Int => decide (x ≤ y)) (fun a b c h1 h2 => by simp at h1 h2 ⊢; omega) (fun a b => by simp; omega) xs
  exact this.imp fun h => by simpa using h
theorem sat_grow {w : World} {A : HP} (h : sat w A) (os : Array Obj) : sat (grow w os) A := by
  obtain ⟨x, hx, ha⟩ := h
  refine ⟨x, fun i o hi => ?_, ha⟩
  have := hx i o hi
  have hlt : i < w.heap.size := (Array.getElem?_eq_some_iff.1 this).1
  show (w.heap ++ os)[i]? = some o
  rw [Array.getElem?_append_left hlt]; exact this
theorem put_ints (pre suf : List Value) (xs ys : List Int) (h : ys.length = xs.length) : putCells (Value.int .i64) pre.length ys.toArray (pre ++ ints xs ++ suf).toArray = (pre ++ ints ys ++ suf).toArray := by
  have hx := ints_length xs
  have hy := ints_length ys
  apply Array.ext
  · simp [putCells, hx, hy, h]
  · intro i h1 h2
    simp only [putCells, Array.getElem_mapIdx, List.getElem_toArray, List.size_toArray]
    split
    · rename_i hc
      have h3 : (pre ++ ints ys ++ suf)[i]? = some (.int .i64 ys[i - pre.length]) := by
        rw [List.append_assoc, List.getElem?_append_right hc.1, List.getElem?_append_left (by omega), ints, List.getElem?_map, List.getElem?_eq_getElem (by omega)]; rfl
      have h4 := List.getElem?_eq_some_iff.1 h3
      obtain ⟨h5, h6⟩ := h4
      rw [h6]
      rw [getElem!_pos ys.toArray (i - pre.length) (by simp; omega), List.getElem_toArray]
    · rename_i hc
      have e1 : (pre ++ ints xs ++ suf)[i]? = (pre ++ ints ys ++ suf)[i]? := by
        rw [List.append_assoc, List.append_assoc]
        by_cases hp : i < pre.length
        · rw [List.getElem?_append_left hp, List.getElem?_append_left hp]
        · rw [List.getElem?_append_right (by omega), List.getElem?_append_right (by omega), List.getElem?_append_right (by omega), List.getElem?_append_right (by omega), hx, hy, h]
      have h1' : i < (pre ++ ints xs ++ suf).length := by simpa [putCells] using h1
      have h2' : i < (pre ++ ints ys ++ suf).length := by simpa using h2
      rw [List.getElem?_eq_getElem h1', List.getElem?_eq_getElem h2'] at e1
      exact Option.some.inj e1
theorem sort_ok {P : Program} {ρ : Ren} (Ly : Lays.n189 P ρ) (he : enterT P (ρ.f 189) = true) (E : Nat) (ad : Option Addr) (cap : Nat) (xs : List Int) (hl : xs.length ≤ 1000000) :
    FSpec P (ρ.f 189) [.slice ad xs.length cap] noRd [slc E 1 ad xs.length cap (ints xs)] (fun _ : Unit => .tuple #[]) (fun _ => True) (fun _ => [slc E 1 ad xs.length cap (ints (sortI xs))]) := by
  refine ⟨he, fun F _ w hs => ?_⟩
  by_cases hx : xs = []
  · subst hx
    refine (callsIn_wide.2 (Any.slices_Sort_int_none Ly ad cap w)).mono ?_
    rintro e w' ⟨rfl, rfl⟩
    exact ⟨(), rfl, trivial, Same.refl w', by have h0 : sortI [] = [] := List.eq_nil_of_length_eq_zero (sortI_len []); dsimp only; rw [h0]; exact hs⟩
  · cases ad with
    | none =>
      exfalso
      obtain ⟨h, _, a, b, _, rfl, ha, _⟩ := hs
      obtain ⟨c, d, _, rfl, hc, _⟩ := ha
      have := hc.1.1
      exact hx (List.eq_nil_of_length_eq_zero this)
    | some p =>
      obtain ⟨hh, hx2, hp1, hq1, d1, rfl, h1, h2⟩ := hs
      obtain ⟨hp2, hq2, d2, rfl, h3, h4⟩ := h1
      obtain ⟨⟨pre, suf⟩, ⟨g1, g2, g3, g4, g5⟩, h5⟩ := h3
      have hs0 : sat w (sep (sep (pts p.block E (pre ++ ints xs ++ suf)) emp) F) := ⟨_, hx2, _, hq1, d1, rfl, ⟨hp2, hq2, d2, rfl, h5, h4⟩, h2⟩
      have hs1 : sat w (sep (obj p.block (.cells (pre ++ ints xs ++ suf).toArray E (0, 0))) (sep emp F)) := hs0.weak sep_assoc
      have hb : w.heap[p.block]? = some (.cells (pre ++ ints xs ++ suf).toArray E (0, 0)) := (Rd_l (Rd_obj _ _)).sat hs1
      have hlt : p.block < w.heap.size := (Array.getElem?_eq_some_iff.1 hb).1
      have hil := ints_length xs
      have hH : Holds (Value.int .i64) w p.block pre.length xs.toArray := fun j hj => by
        have hj' : j < xs.length := by simpa using hj
        refine ⟨?_, by simp [World.frozen?, hb]⟩
        have h6 : (pre ++ ints xs ++ suf)[pre.length + j]? = some (.int .i64 xs[j]) := by
          rw [List.append_assoc, List.getElem?_append_right (by omega), Nat.add_sub_cancel_left, List.getElem?_append_left (by omega), ints, List.getElem?_map, List.getElem?_eq_getElem hj']; rfl
        rw [getElem!_pos xs.toArray j hj, List.getElem_toArray]
        simp [World.cell?, hb]
        simpa using h6
      have g1' : (some p : Option Addr) = some ⟨p.block, pre.length, none⟩ := congrArg some g1
      rw [g1']
      refine (callsIn_wide.2 (Any.slices_Sort_int Ly p.block pre.length cap xs w hH hlt (by omega))).mono ?_
      rintro e w' ⟨rfl, n, os, rfl⟩
      refine ⟨(), rfl, trivial, ⟨rfl, rfl, rfl, ?_⟩, sat_grow ?_ os⟩
      · simp [grow]
      · have hn : (putRow (Value.int .i64) (Go.Sort.ahead w n) p.block pre.length (sortI xs).toArray).heap[p.block]? = some (.cells (pre ++ ints (sortI xs) ++ suf).toArray E (0, 0)) := by
          show (w.heap.modify p.block (onCells _))[p.block]? = _
          rw [Array.getElem?_modify, if_pos rfl, hb]
          simp only [Option.map_some, onCells]
          rw [put_ints pre suf xs (sortI xs) (sortI_len xs)]
        have hs2 := sat_set hs1 hn (fun i hi => by
          show (w.heap.modify p.block (onCells _))[i]? = _
          rw [Array.getElem?_modify, if_neg (Ne.symm hi)])
        have hs3 : sat _ (sep (sep (pts p.block E (pre ++ ints (sortI xs) ++ suf)) emp) F) := hs2.weak sep_assoc'
        refine hs3.weak (sep_mono (sep_mono ?_ (ent.refl _)) (ent.refl _))
        exact ent_of_imp fun h ho => ⟨(pre, suf), ⟨rfl, by rw [ints_length, sortI_len]; omega, g3, g4, by rw [ints_length, sortI_len]; omega⟩, ho⟩
end Go.QM
namespace Go.Proofs.YtdfmfhcjnjfjbaaGreat
open Go Go.QM
theorem sortI_uniq {y z : List Int} (hp : y.Perm z) : sortI y = sortI z :=
  List.Perm.eq_of_pairwise (le := fun a c => a ≤ c) (fun a c _ _ h1 h2 => by omega) (sortI_sorted y) (sortI_sorted z) ((sortI_perm y).trans (hp.trans (sortI_perm z).symm))
theorem keys_ids {A : Int → Nat} {ids y : List Int} (hn : ids.Nodup) (h : KeysOf (fM A ids) ids.length y) : sortI y = sortI ids := by
  refine sortI_uniq ((List.perm_ext_iff_of_nodup h.1 hn).2 fun x => ?_)
  rw [h.2.2, fM]
  by_cases hx : x ∈ ids
  · rw [if_pos hx]; simp [hx]
  · rw [if_neg hx]; simp [hx]
def thru (g : Int) : Off → Bool := fun o => decide (o.gt = g)
def goneC (s : MS) (g : Int) (D : List Int) : List Int := D.flatMap fun x => goneO (s.row x) (thru g)
def rowsC (s : MS) (g : Int) (D : List Int) : MS := { s with row := fun x => if x ∈ D then (s.row x).filter (notO (thru g)) else s.row x }
def closeS (s : MS) (g : Int) : MS × List Int := (frL (rowsC s g (sortI s.ids)) (goneC s g (sortI s.ids)), goneC s g (sortI s.ids))
theorem rowsC_nil (s : MS) (g : Int) : rowsC s g [] = s := by simp [rowsC]
theorem rowsC_snoc {s : MS} {g : Int} {D : List Int} (hn : D.Nodup) {k : Nat} {x : Int} (hx : D[k]? = some x) : cutMS (rowsC s g (D.take k)) x (thru g) = rowsC s g (D.take (k + 1)) ∧ (rowsC s g (D.take k)).row x = s.row x := by
  have hm : x ∉ D.take k := fun h2 => by
    obtain ⟨j, hj⟩ := List.getElem?_of_mem h2
    rw [List.getElem?_take] at hj
    split at hj
    · obtain ⟨a1, b1⟩ := List.getElem?_eq_some_iff.1 hj
      obtain ⟨a2, b2⟩ := List.getElem?_eq_some_iff.1 hx
      exact (List.pairwise_iff_getElem.1 hn) j k a1 a2 (by omega) (by rw [b1, b2])
    · cases hj
  have ht : ∀ y, y ∈ D.take (k + 1) ↔ y ∈ D.take k ∨ y = x := fun y => by rw [List.take_add_one, hx]; simp
  refine ⟨?_, if_neg hm⟩
  simp only [cutMS, rowS, rowsC, MS.mk.injEq, true_and]
  funext y
  by_cases e2 : y = x
  · subst e2; rw [updI_same, if_neg hm, if_pos ((ht y).2 (.inr rfl))]
  · rw [updI_ne e2]
    by_cases h : y ∈ D.take k
    · rw [if_pos h, if_pos ((ht y).2 (.inl h))]
    · rw [if_neg h, if_neg (fun h2 => ((ht y).1 h2).elim h e2)]
theorem goneC_snoc {s : MS} {g : Int} {D : List Int} {k : Nat} {x : Int} (hx : D[k]? = some x) : goneC s g (D.take (k + 1)) = goneC s g (D.take k) ++ goneO (s.row x) (thru g) := by
  rw [goneC, goneC, List.take_add_one, hx, Option.toList, List.flatMap_append, List.flatMap_cons, List.flatMap_nil, List.append_nil]
theorem goneC_len {s : MS} {g : Int} : ∀ {D : List Int}, (∀ x ∈ D, (s.row x).length ≤ 1000) → (goneC s g D).length ≤ 1000 * D.length
  | [], _ => Nat.zero_le _
  | x :: D, h => by
    have h1 := goneC_len (g := g) (D := D) fun y hy => h y (by simp [hy])
    have h2 := h x (by simp)
    have h3 := gone_len (s.row x) (thru g)
    have e : goneC s g (x :: D) = goneO (s.row x) (thru g) ++ goneC s g D := by rw [goneC, goneC, List.flatMap_cons]
    rw [e, List.length_append, List.length_cons]; omega
theorem goneC_mem {s : MS} {g : Int} {D : List Int} {y : Int} : y ∈ goneC s g D ↔ ∃ x ∈ D, ∃ o ∈ s.row x, o.gt = g ∧ o.fr = y := by
  rw [goneC, List.mem_flatMap]
  constructor
  · rintro ⟨x, hx, hy⟩
    obtain ⟨o, ho, rfl⟩ := List.mem_map.1 hy
    obtain ⟨ho1, ho2⟩ := List.mem_filter.1 ho
    exact ⟨x, hx, o, ho1, by simpa [thru] using ho2, rfl⟩
  · rintro ⟨x, hx, o, ho, h1, h2⟩
    exact ⟨x, hx, List.mem_map.2 ⟨o, List.mem_filter.2 ⟨ho, by simpa [thru] using h1⟩, h2⟩⟩
theorem sortI_mem {x : Int} {y : List Int} : x ∈ sortI y ↔ x ∈ y := (sortI_perm y).mem_iff
theorem WM.one {s : MS} (h : WM s) {x y : Int} (hx : x ∈ s.ids) (hy : y ∈ s.ids) {o u : Off} (ho : o ∈ s.row x) (hu : u ∈ s.row y) (e : o.fr = u.fr) : x = y ∧ o = u := by
  have h1 := (h.row x hx o ho).2.2.2
  have h2 := (h.row y hy u hu).2.2.2
  have hxy : x = y := by rw [← h1, ← h2, e]
  subst hxy
  refine ⟨rfl, ?_⟩
  obtain ⟨i, hi⟩ := List.getElem?_of_mem ho
  obtain ⟨j, hj⟩ := List.getElem?_of_mem hu
  obtain ⟨a1, b1⟩ := List.getElem?_eq_some_iff.1 hi
  obtain ⟨a2, b2⟩ := List.getElem?_eq_some_iff.1 hj
  have hp := List.pairwise_iff_getElem.1 (h.nr x hx)
  by_cases eij : i = j
  · subst eij; rw [← b1, ← b2]
  · exfalso
    rcases Nat.lt_or_gt_of_ne eij with h3 | h3
    · have := hp i j (by simpa using a1) (by simpa using a2) h3
      rw [List.getElem_map, List.getElem_map, b1, b2] at this; exact this e
    · have := hp j i (by simpa using a2) (by simpa using a1) h3
      rw [List.getElem_map, List.getElem_map, b1, b2] at this; exact this e.symm
theorem gone_in {s : MS} (h : WM s) {g y : Int} (hy : y ∈ goneC s g (sortI s.ids)) : y ∈ s.ids ∧ s.st y = 1 := by
  obtain ⟨x, hx, o, ho, _, rfl⟩ := goneC_mem.1 hy
  have := h.row x (sortI_mem.1 hx) o ho
  exact ⟨this.1, this.2.2.1⟩
theorem WM.close {s : MS} (h : WM s) (g : Int) : WM (closeS s g).1 := by
  refine (h.un (goneC s g (sortI s.ids)) fun y hy => gone_in h hy).ext rfl fun x hx => ⟨rfl, rfl, rfl, ?_⟩
  have hx : x ∈ s.ids := hx
  dsimp only [closeS, frL, rowsC, unL]
  rw [if_pos (sortI_mem.2 hx)]
  refine List.filter_congr fun o ho => ?_
  rw [notO, thru, Bool.eq_iff_iff]
  simp only [Bool.not_eq_true', decide_eq_false_iff_not, decide_eq_true_eq, goneC_mem]
  constructor
  · rintro h1 ⟨y, hy, u, hu, h2, h3⟩
    have := h.one hx (sortI_mem.1 hy) ho hu h3.symm
    rw [this.2] at h1; exact h1 h2
  · intro h1 h2
    exact h1 ⟨x, sortI_mem.2 hx, o, ho, h2, rfl⟩
theorem msort_ok (ad : Option Addr) (cap : Nat) (xs : List Int) (hl : xs.length ≤ 1000000) : FSpec Tryz.prog 130 [.slice ad xs.length cap] noRd [slc 3 1 ad xs.length cap (ints xs)] (fun _ : Unit => .tuple #[]) (fun _ => True) (fun _ => [slc 3 1 ad xs.length cap (ints (sortI xs))]) :=
  sort_ok laysSort (by kernel_rfl) 3 ad cap xs hl
set_option maxRecDepth 4000 in
theorem sorted_ok (cx mb n : Nat) (f : Int → Option Value) (hn : n ≤ 1000000) : FSpec Tryz.prog 101 [.func (.func 131) #[] #[.pointer (some ⟨cx, 0, none⟩)]] noRd [pts cx 126 [.map (some mb)], mapF QM.encI mb f n] (fun y : (Option Addr × Nat) × List Int => .slice y.1.1 (sortI y.2).length y.1.2) (fun y => KeysOf f n y.2) (fun y => [slc 3 1 y.1.1 (sortI y.2).length y.1.2 (ints (sortI y.2)), mapF QM.encI mb f n]) := by
 refine FSpec.intro (rs := [.tmp 2]) (by kernel_rfl) Tryz.func101 rfl Tryz.ntmps101 (by rfl) rfl ?_
 intro F _
 change TC _ _ _ _ _ _ _ (sepL [_, _, _])
 refine TC.seq ?_
 refine TC.region ?_
 refine was rfl rfl ?_
 refine TL.nil (nt ?_)
 refine TC.seq ?_
 refine TC.region ?_
 refine q rfl rfl (mv rfl) ?_
 refine e rfl ?_
 refine cl (coll_ok cx mb n f hn) rfl PkL.p trivial ?_
 intro y hy
 change TL _ _ _ _ _ _ _ _ (sepL [_, _, _])
 refine was rfl rfl ?_
 refine TL.nil (nt ?_)
 refine TC.seq ?_
 refine TC.region ?_
 refine wms rfl rfl ?_
 have hyl := hy.2.1
 refine e rfl ?_
 refine cl (msort_ok y.1.1 y.1.2 y.2 (by omega)) rfl PkL.p trivial ?_
 intro _ _
 change TL _ _ _ _ _ _ _ _ (sepL [_, _, _])
 refine TL.nil (nt ?_)
 refine TC.seq ?_
 refine TC.region ?_
 refine wms rfl rfl ?_
 refine was rfl rfl ?_
 refine TL.nil (nt ?_)
 refine TC.ret ?_
 exact Ret.i y [_] ⟨rfl, trivial⟩ (by rw [sortI_len]; rfl) hy (ent_takeE 0 rfl (by rw [sortI_len]) (ent_take 0 rfl (ent_take 0 rfl (ent_nil _))))
set_option maxRecDepth 4000 in
theorem mclose1_ok (b : Nat) (gt : Int) (o : Off) : FSpec Tryz.prog 103 [.agg (ofC o).toArray, .pointer (some ⟨b, 0, none⟩)] (fun F => Rd F b (.cells #[Value.int .i64 gt] 3 (0, 0))) [] (fun _ : Unit => .bool (thru gt o)) (fun _ => True) (fun _ => []) := by
 refine FSpec.intro (rs := [.tmp 3]) (by kernel_rfl) Tryz.func103 rfl Tryz.ntmps103 (by rfl) rfl ?_
 intro F hF
 change TC _ _ _ _ _ _ _ (sepL [_])
 haveI : RdI F b (.cells #[Value.int .i64 gt] 3 (0, 0)) := ⟨hF⟩
 refine TC.seq ?_
 refine TC.region ?_
 refine e rfl ?_
 refine bx (v := .agg #[_, _, _]) (l := [.int _ _, .int _ _, .bool _]) rfl rfl ?_
 intro b1
 refine wab rfl rfl ?_
 refine TL.nil (nt ?_)
 refine TC.seq ?_
 refine TC.region ?_
 refine wfa 1 rfl rfl rfl ?_
 refine wld rfl rfl rfl rfl ?_
 refine wld rfl rfl rfl rfl ?_
 refine q rfl rfl (eqI rfl rfl) ?_
 refine wab rfl rfl ?_
 refine TL.nil (nt ?_)
 refine TC.ret ?_
 exact Ret.i () [_] ⟨rfl, trivial⟩ rfl trivial (ent_take 1 rfl (ent_nil _))
set_option maxRecDepth 4000 in
set_option maxHeartbeats 1000000 in
theorem mclose_ok (b : Nat) (A : Int → Nat) (s : MS) (hW : WM s) (gt : Int) (hl : s.ids.length ≤ 1000) : FSpec Tryz.prog 56 [.pointer (some ⟨b, 0, none⟩), .int .i64 gt] noRd [isMa b A s] (fun y : Option Addr × Nat => .slice y.1 (closeS s gt).2.length y.2) (fun _ => True) (fun y => [slc 3 1 y.1 (closeS s gt).2.length y.2 (ints (closeS s gt).2), isMa b A (closeS s gt).1]) := by
 refine FSpec.intro (rs := [.tmp 4]) (by kernel_rfl) Tryz.func56 rfl Tryz.ntmps56 (by rfl) rfl ?_
 intro F _
 change TC _ _ _ _ _ _ _ (sepL [_, _])
 refine TC.seq ?_
 refine TC.region ?_
 refine e rfl ?_
 refine bx (v := .int _ _) (l := [.int _ _]) rfl rfl ?_
 intro b2
 refine was rfl rfl ?_
 refine TL.nil (nt ?_)
 refine TC.seq ?_
 refine TC.open 1 rfl (fun x0 hx0 => ?_)
 obtain ⟨ad, cap, mb⟩ := x0
 have hN := hx0
 change TC _ _ _ _ _ _ _ (sepL [_, _, _, _, _, _])
 dsimp only at hN ⊢
 refine TC.region ?_
 refine was rfl rfl ?_
 refine TL.nil (nt ?_)
 refine TC.seq ?_
 refine TC.seq ?_
 refine TC.region ?_
 refine wmp rfl rfl ?_
 refine q rfl rfl (eqNil rfl rfl rfl) ?_
 refine TL.nil (nt ?_)
 refine TC.condF rfl ?_
 refine TC.skip (nt ?_)
 refine TC.seq ?_
 refine TC.seq ?_
 refine TC.region ?_
 refine wmp rfl rfl ?_
 refine wnc rfl rfl ?_
 refine wfa 0 rfl rfl rfl ?_
 refine wld rfl rfl rfl rfl ?_
 refine e rfl ?_
 refine cl (keys_ok mb) rfl (picked_nil _) trivial ?_
 intro cx _
 change TL _ _ _ _ _ _ _ _ (sepL [_, _, _, _, _, _, _])
 refine e rfl ?_
 refine cl (sorted_ok cx mb s.ids.length (fM A s.ids) (by omega)) rfl PkL.p trivial ?_
 intro y hy
 change TL _ _ _ _ _ _ _ _ (sepL [_, _, _, _, _, _, _])
 rw [keys_ids hN hy]
 have hDl : (sortI s.ids).length = s.ids.length := sortI_len _
 have hDn : (sortI s.ids).Nodup := (sortI_perm _).nodup_iff.2 hN
 have hDm : ∀ x, x ∈ sortI s.ids ↔ x ∈ s.ids := fun x => sortI_mem
 have hrl : ∀ x ∈ sortI s.ids, (s.row x).length ≤ 1000 := fun x hx => Nat.le_trans (rowlen hW ((hDm x).1 hx)) hl
 have hgi := fun x hx => gone_in hW (g := gt) (y := x) hx
 have hcv : closeS s gt = (frL (rowsC s gt (sortI s.ids)) (goneC s gt (sortI s.ids)), goneC s gt (sortI s.ids)) := rfl
 rw [hcv]
 dsimp only
 generalize sortI s.ids = D at hDl hDn hDm hrl hgi ⊢
 obtain ⟨⟨da, dc⟩, yy⟩ := y
 dsimp only
 have hdi := ints_length D
 clear hcv hy
 refine q rfl rfl (len 3 1 rfl rfl) ?_
 refine wmi rfl rfl ?_
 refine TL.nil (nt ?_)
 refine TC.block ?_
 refine TC.loop (ι := Nat × (Int → Option Addr) × (Int → Nat) × (Option Addr × Nat)) (fun u => u.1 ≤ D.length) (fun u => [(0, .pointer (some ⟨b, 0, none⟩)), (3, .pointer (some ⟨b2, 0, none⟩)), (5, .slice u.2.2.2.1 (goneC s gt (D.take u.1)).length u.2.2.2.2), (17, .slice da D.length dc), (18, .int .i64 D.length), (19, .int .i64 ((u.1 : Nat) : Int))]) (fun u => sepL [slc 3 1 u.2.2.2.1 (goneC s gt (D.take u.1)).length u.2.2.2.2 (ints (goneC s gt (D.take u.1))), bigS (tP A u.2.1 u.2.2.1 (rowsC s gt (D.take u.1))) s.ids, bigS (rP u.2.1 u.2.2.1 (rowsC s gt (D.take u.1))) s.ids, slc 3 1 da D.length dc (ints D), pts b 128 [.map (some mb)], mapF QM.encI mb (fM A s.ids) s.ids.length, pts b2 3 [.int .i64 gt], F]) (fun u => D.length - u.1) ⟨0, ad, cap, (none, 0)⟩ (Nat.zero_le _) ⟨rfl, rfl, rfl, rfl, rfl, rfl, trivial⟩ ((slc_nil 3 1 _).trans (ent_take 0 rfl (ent_takeE 3 rfl (by dsimp only; rw [List.take_zero, rowsC_nil]) (ent_takeE 3 rfl (by dsimp only; rw [List.take_zero, rowsC_nil]) (ent_take 0 rfl (ent_take 1 rfl (ent_take 0 rfl (ent_take 0 rfl (ent_take 0 rfl (ent_nil _)))))))))) ?_
 rintro ⟨k, ad, cap, ⟨oa, oc⟩⟩ hk ρ0
 dsimp only [updL] at hk ⊢
 refine TC.seq ?_
 refine TC.region ?_
 refine q rfl rfl (lss rfl rfl) ?_
 refine TL.nil (nt ?_)
 refine TC.seq ?_
 refine TC.condD rfl (fun hlt => ?_) (fun hlt => ?_)
 ·have hlt2 : k < D.length := by omega
  obtain ⟨x, hx⟩ : ∃ x, D[k]? = some x := ⟨D[k], List.getElem?_eq_getElem hlt2⟩
  have hxm := List.mem_of_getElem? hx
  have hxi := (hDm x).1 hxm
  have hpos : 0 < (ints D).length := by omega
  obtain ⟨hcs, hrw⟩ := rowsC_snoc (s := s) (g := gt) hDn hx
  have hgs := goneC_snoc (s := s) (g := gt) hx
  have hgl := goneC_len (s := s) (g := gt) (D := D.take k) (fun y hy => hrl y (List.mem_of_mem_take hy))
  have htl : (D.take k).length ≤ k := by rw [List.length_take]; omega
  have hxl := hrl x hxm
  have hgx := gone_len (s.row x) (thru gt)
  have hi1 := ints_length (goneC s gt (D.take k))
  have hi2 := ints_length (goneO (s.row x) (thru gt))
  refine TC.skip (nt ?_)
  refine TC.seq ?_
  refine TC.block ?_
  refine TC.seq ?_
  refine TC.region ?_
  refine q rfl rfl (ixS 3 1 rfl rfl rfl (by omega) (by assumption)) ?_
  refine q rfl rfl (ldS rfl rfl (ints_get hx)) ?_
  refine wai rfl rfl ?_
  refine TL.nil (nt ?_)
  refine TC.region ?_
  refine wms rfl rfl ?_
  refine wmp rfl rfl ?_
  refine wnc rfl rfl ?_
  refine wfa 0 rfl rfl rfl ?_
  refine wld rfl rfl rfl rfl ?_
  refine wmi rfl rfl ?_
  refine q rfl rfl (luF 3 118 rfl rfl (KL.int rfl) rfl rfl) ?_
  rw [fM_yes hxi]
  refine wnc rfl rfl ?_
  refine wfa 0 rfl rfl rfl ?_
  refine q rfl rfl (mkf (vf := []) (vc := [.pointer _]) rfl rfl) ?_
  refine e rfl ?_
  refine cl (mcut_ok A ad cap (rowsC s gt (D.take k)) s.ids x hxi hN 103 [.pointer (some ⟨b2, 0, none⟩)] (thru gt) (fun F => Rd F b2 (.cells #[Value.int .i64 gt] 3 (0, 0))) (mclose1_ok b2 gt) (fun Bs _ h => Rd_end h Bs) (by rw [hrw]; omega)) rfl PkL.p RdI.rd ?_
  intro y _
  change TL _ _ _ _ _ _ _ _ (sepL [_, _, _, _, _, _, _, _, _])
  rw [hcs, hrw]
  refine e rfl ?_
  refine ap 8 rfl rfl rfl rfl rfl (by omega) (ints_all1 rfl) (ints_one1 _) (by omega) (by simp only [maxLen]; omega) ?_
  intro ad1 cap1
  refine was rfl rfl ?_
  refine TL.nil (nb (nt ?_))
  refine TC.region ?_
  refine q rfl rfl (addI rfl rfl (by omega) (by omega)) ?_
  refine wmi rfl rfl ?_
  refine TL.nil (nt ?_)
  exact ⟨rfl, ⟨k + 1, updI ad x y.2.1, updI cap x y.2.2, (ad1, cap1)⟩, (by dsimp only; omega), (by dsimp only; omega), ⟨rfl, rfl, congrArg (fun n => Value.slice _ n _) (by dsimp only; rw [hgs, List.length_append]), rfl, rfl, rfl, trivial⟩, (ent_takeE 0 rfl (by dsimp only; rw [hgs, List.length_append, ints_app1]) (ent_take 1 rfl (ent_take 1 rfl (ent_take 1 rfl (ent_take 1 rfl (ent_take 1 rfl (ent_take 1 rfl (ent_take 1 rfl (ent_nil _)))))))))⟩
 ·obtain rfl : k = D.length := by omega
  rw [List.take_length]
  have hgl := goneC_len (s := s) (g := gt) hrl
  generalize hG : goneC s gt D = Gn at hgi hgl ⊢
  have hGi := ints_length Gn
  refine TC.exit (et (et (eb (nt ?_))))
  refine TC.seq ?_
  refine TC.seq ?_
  refine TC.region ?_
  refine wms rfl rfl ?_
  refine q rfl rfl (len 3 1 rfl rfl) ?_
  refine wmi rfl rfl ?_
  refine TL.nil (nt ?_)
  refine TC.block ?_
  refine TC.loop (ι := Nat) (fun k => k ≤ Gn.length) (fun k => [(0, .pointer (some ⟨b, 0, none⟩)), (5, .slice oa Gn.length oc), (36, .slice oa Gn.length oc), (37, .int .i64 Gn.length), (38, .int .i64 ((k : Nat) : Int))]) (fun k => sepL [slc 3 1 oa Gn.length oc (ints Gn), bigS (tP A ad cap (frL (rowsC s gt D) (Gn.take k))) s.ids, bigS (rP ad cap (frL (rowsC s gt D) (Gn.take k))) s.ids, pts b 128 [.map (some mb)], mapF QM.encI mb (fM A s.ids) s.ids.length, F]) (fun k => Gn.length - k) 0 (Nat.zero_le _) ⟨rfl, rfl, rfl, rfl, rfl, trivial⟩ (ent_take 0 rfl (ent_takeE 0 rfl (by rw [List.take_zero, ← foldl_fr]; rfl) (ent_takeE 0 rfl (by rw [List.take_zero, ← foldl_fr]; rfl) (ent_take 1 rfl (ent_take 1 rfl (ent_take 2 rfl (ent_nil _))))))) ?_
  rintro k hk ρ1
  dsimp only [updL] at hk ⊢
  refine TC.seq ?_
  refine TC.region ?_
  refine q rfl rfl (lss rfl rfl) ?_
  refine TL.nil (nt ?_)
  refine TC.seq ?_
  refine TC.condD rfl (fun hlt2 => ?_) (fun hlt2 => ?_)
  ·have hlt3 : k < Gn.length := by omega
   obtain ⟨x, hx⟩ : ∃ x, Gn[k]? = some x := ⟨_, List.getElem?_eq_getElem hlt3⟩
   have hpos : 0 < (ints Gn).length := by omega
   obtain ⟨hx1, _⟩ := hgi x (List.mem_of_getElem? hx)
   have hst : frS (frL (rowsC s gt D) (Gn.take k)) x = (frL (rowsC s gt D) (Gn.take (k + 1))) := by rw [← foldl_fr, ← foldl_fr, List.take_add_one, hx, Option.toList, List.foldl_append]; rfl
   refine TC.skip (nt ?_)
   refine TC.seq ?_
   refine TC.block ?_
   refine TC.seq ?_
   refine TC.region ?_
   refine q rfl rfl (ixS 3 1 rfl rfl rfl (by omega) (by assumption)) ?_
   refine q rfl rfl (ldS rfl rfl (ints_get hx)) ?_
   refine wai rfl rfl ?_
   refine TL.nil (nt ?_)
   refine TC.region ?_
   refine wmp rfl rfl ?_
   refine wnc rfl rfl ?_
   refine wfa 0 rfl rfl rfl ?_
   refine wld rfl rfl rfl rfl ?_
   refine wmi rfl rfl ?_
   refine q rfl rfl (luF 3 118 rfl rfl (KL.int rfl) rfl rfl) ?_
   rw [fM_yes hx1]
   refine e rfl ?_
   refine cl (mfree_ok A ad cap (frL (rowsC s gt D) (Gn.take k)) s.ids x hx1 hN) rfl PkL.p trivial ?_
   intro _ _
   change TL _ _ _ _ _ _ _ _ (sepL [_, _, _, _, _, _])
   rw [hst]
   refine TL.nil (nb (nt ?_))
   refine TC.region ?_
   refine q rfl rfl (addI rfl rfl (by omega) (by omega)) ?_
   refine wmi rfl rfl ?_
   refine TL.nil (nt ?_)
   exact ⟨rfl, (k + 1), (by omega), (by omega), ⟨rfl, rfl, rfl, rfl, rfl, trivial⟩, (ent_take 1 rfl (ent_take 0 rfl (ent_takeE 0 rfl (by rw [← hst]; rfl) (ent_take 0 rfl (ent_take 0 rfl (ent_take 0 rfl (ent_nil _)))))))⟩
  ·obtain rfl : k = Gn.length := by omega
   rw [List.take_length]
   refine TC.exit (et (et (eb (nt ?_))))
   refine TC.seq ?_
   refine TC.region ?_
   refine wms rfl rfl ?_
   refine was rfl rfl ?_
   refine TL.nil (nt ?_)
   refine TC.ret ?_
   exact Ret.i ⟨oa, oc⟩ [_] ⟨rfl, trivial⟩ rfl trivial (ent_take 0 rfl (ent_close (⟨ad, cap, mb⟩ : MRep) hN (ent_take 2 rfl (ent_take 2 rfl (ent_take 0 rfl (ent_take 0 rfl (ent_take 0 rfl (ent_nil _))))))))
end Go.Proofs.YtdfmfhcjnjfjbaaGreat
namespace Go.Proofs.YtdfmfhcjnjfjbaaGreat
open Go Go.QM
open Al (En hasA Nd clrA setA offA dueA restA leftA ids)
open Rd (hasS NdS addS RInv topS runS tickS yieldS rndS)
structure Tg where
  th : Int
  er : Int
deriving DecidableEq
def tgC (t : Tg) : List Value := [.int .i64 t.th, .int .i64 t.er]
theorem tgC_sz (t : Tg) : (tgC t).length = 2 := rfl
def tgsC (L : List Tg) : List Value := L.flatMap tgC
theorem tgsC_length (L : List Tg) : (tgsC L).length = L.length * 2 := flat_length tgC_sz L
theorem tgs_app (S T : List Tg) : tgsC S ++ tgsC T = tgsC (S ++ T) := by simp [tgsC]
structure TS where
  S : List Rd.Th
  now : Int
  tn : Int
  A : List En
  m : MS
  pr : Int → Int
  sl : Int → Int
  on : Int → Bool
  told : List Tg
def t0 : TS := ⟨[], 0, 0, [], s0, fun _ => 0, fun _ => 0, fun _ => false, []⟩
def stT (T : TS) (id : Int) : Int := if id ∈ T.m.ids then (if T.on id = true then T.m.st id else 4) else -1
def tell1 (why : Int) (T : TS) (id : Int) : TS := { T with S := (addS T.S id (T.pr id) (T.sl id)).1, A := clrA T.A [id], told := T.told ++ [⟨id, why⟩] }
def tellS (T : TS) (why : Int) (l : List Int) : TS := l.foldl (tell1 why) T
def mS (T : TS) (m : MS) : TS := { T with m := m }
def blockS (T : TS) (id ticks : Int) : TS :=
  if 0 < ticks then { T with S := Rd.dropS T.S [id], tn := (setA T.A T.now T.tn id ticks).2.1, A := (setA T.A T.now T.tn id ticks).1 } else { T with S := Rd.dropS T.S [id] }
def badT (ticks : Int) : Prop := ticks < 0 ∨ 1048576 < ticks
instance (t : Int) : Decidable (badT t) := inferInstanceAs (Decidable (_ ∨ _))
def addT (T : TS) (id : Int) : TS := if id ∈ T.m.ids ∨ id < 0 then T else { T with m := joinS T.m id, pr := updI T.pr id 0, sl := updI T.sl id 0, on := updI T.on id false }
def addL (T : TS) (l : List Int) : TS := l.foldl addT T
def startS (T : TS) (id p s : Int) : TS × Int :=
  if id ∉ T.m.ids then (T, 6) else if p < 0 ∨ 7 < p ∨ s < 1 ∨ 16 < s then (T, 1) else if T.on id = true then (T, 12) else
  ({ T with S := (addS T.S id p s).1, pr := updI T.pr id p, sl := updI T.sl id s, on := updI T.on id true }, (addS T.S id p s).2)
def stopS (T : TS) (id : Int) : TS × Int :=
  if id ∉ T.m.ids then (T, 6) else if T.on id ≠ true then (T, 12) else
  ({ T with S := Rd.dropS T.S [id], A := clrA T.A [id], m := (callS T.m id).1, on := updI T.on id false }, 0)
def outS (T : TS) (id : Int) : TS := { T with S := Rd.dropS T.S [id], A := clrA T.A [id], m := (leaveS T.m id).1 }
def removeS (T : TS) (id : Int) : TS × Int :=
  if id ∉ T.m.ids then (T, 6) else (tellS (outS T id) 13 (leaveS T.m id).2.1, 0)
def sendS (T : TS) (fr to gt : Int) (cl : Bool) (ticks : Int) : TS × Int :=
  if fr ∉ T.m.ids ∨ to ∉ T.m.ids then (T, 6) else if fr = to ∨ badT ticks then (T, 1) else if stT T fr ≠ 0 then (T, 12) else
  (blockS (mS T (offS T.m to ⟨fr, gt, cl⟩).1) fr ticks, 0)
def waitS (T : TS) (id ticks : Int) : TS × Int :=
  if id ∉ T.m.ids then (T, 6) else if badT ticks then (T, 1) else if stT T id ≠ 0 then (T, 12) else
  if (openS T.m id).2 ≠ 0 then (T, (openS T.m id).2) else (blockS (mS T (openS T.m id).1) id ticks, 0)
def takeT1 (T : TS) (o : Off) (el s id : Int) : TS :=
  let T1 := if o.cl = true then T else tellS T 0 [o.fr]
  let T2 := if el = -1 then T1 else tellS T1 13 [el]
  if s = 2 then tellS T2 0 [id] else T2
def takeT (T : TS) (id : Int) : TS × Off × Int :=
  if id ∉ T.m.ids then (T, o0, 6) else if stT T id ≠ 0 ∧ stT T id ≠ 2 then (T, o0, 12) else
  if (takeS T.m id).2.2.2 ≠ 0 then (T, o0, (takeS T.m id).2.2.2) else
  (takeT1 (mS T (takeS T.m id).1) (takeS T.m id).2.1 (takeS T.m id).2.2.1 (stT T id) id, (takeS T.m id).2.1, 0)
def refuseS (T : TS) (id why : Int) : TS × Off × Int :=
  if id ∉ T.m.ids then (T, o0, 6) else match T.m.row id with
  | [] => (T, o0, 6)
  | o :: _ => (tellS (mS T (callS T.m o.fr).1) why [o.fr], o, 0)
def answerS (T : TS) (id : Int) : TS × Int × Int :=
  if id ∉ T.m.ids then (T, 0, 6) else if stT T id ≠ 0 then (T, 0, 12) else
  if (ansS T.m id).2.2 = 0 then (tellS (mS T (ansS T.m id).1) 0 [(ansS T.m id).2.1], (ansS T.m id).2.1, 0) else (T, (ansS T.m id).2.1, (ansS T.m id).2.2)
def wakeS (T : TS) (why id : Int) : TS × Int :=
  if id ∉ T.m.ids then (T, 6) else if stT T id = 0 ∨ stT T id = 4 then (T, 12) else (tellS (mS T (callS T.m id).1) why [id], 0)
def closeT (T : TS) (g : Int) : TS × Int := (tellS (mS T (closeS T.m g).1) 13 (closeS T.m g).2, (closeS T.m g).2.length)
def tickT1 (T : TS) : TS := { T with S := tickS T.S, now := T.now + 1, A := restA (T.now + 1) T.A }
def wakeL (T : TS) (l : List Int) : TS := l.foldl (fun T id => (wakeS T 14 id).1) T
def tickT (T : TS) : TS := wakeL (tickT1 T) (ids (dueA (T.now + 1) T.A))
def yieldT (T : TS) : TS := { T with S := yieldS T.S }
def toldT (T : TS) : TS := { T with told := [] }
structure TP (T : TS) (L : List Int) : Prop where
  wm : WM T.m
  rj : RInv T.S
  lf : ∀ t ∈ T.S, 1 ≤ t.left ∧ t.left ≤ t.whole
  sp : ∀ t ∈ T.S, t.prio = T.pr t.id ∧ t.whole = T.sl t.id
  rdy : ∀ x, hasS T.S x ↔ (x ∈ T.m.ids ∧ T.on x = true ∧ T.m.st x = 0) ∧ x ∉ L
  na : Nd T.A
  al : ∀ x, hasA T.A x → x ∈ T.m.ids ∧ (T.m.st x ≠ 0 ∨ x ∈ L)
  off : ∀ x ∈ T.m.ids, T.m.st x ≠ 0 → T.on x = true
  ps : ∀ x ∈ T.m.ids, T.on x = true → (0 ≤ T.pr x ∧ T.pr x ≤ 7) ∧ 1 ≤ T.sl x ∧ T.sl x ≤ 16
  tm : ∀ e ∈ T.A, T.now < e.at_ ∧ e.at_ ≤ T.now + 1048576
  L1 : ∀ x ∈ L, x ∈ T.m.ids ∧ T.on x = true ∧ T.m.st x = 0
  Ln : L.Nodup
theorem has_app {S : List Rd.Th} {t : Rd.Th} {x : Int} : hasS (S ++ [t]) x ↔ hasS S x ∨ t.id = x := by simp [hasS, or_and_right, exists_or]
theorem clr_has {A : List En} {l : List Int} {x : Int} : hasA (clrA A l) x ↔ hasA A x ∧ x ∉ l := by
  rw [Al.clrA_eq]
  constructor
  · rintro ⟨e, he, rfl⟩
    obtain ⟨h1, h2⟩ := List.mem_filter.1 he
    exact ⟨⟨e, h1, rfl⟩, by simpa using h2⟩
  · rintro ⟨⟨e, he, rfl⟩, h⟩
    exact ⟨e, List.mem_filter.2 ⟨he, by simpa using h⟩, rfl⟩
theorem clr_mem {A : List En} {l : List Int} {e : En} (h : e ∈ clrA A l) : e ∈ A := by rw [Al.clrA_eq] at h; exact (List.mem_filter.1 h).1
theorem clr_Nd {A : List En} (h : Nd A) (l : List Int) : Nd (clrA A l) := h.sublist ((Al.clrA_sub A l).map _)
theorem drop_has {S : List Rd.Th} {l : List Int} {x : Int} : hasS (Rd.dropS S l) x ↔ hasS S x ∧ x ∉ l := by
  rw [Rd.dropS_eq]
  constructor
  · rintro ⟨e, he, rfl⟩
    obtain ⟨h1, h2⟩ := List.mem_filter.1 he
    exact ⟨⟨e, h1, rfl⟩, by simpa using h2⟩
  · rintro ⟨⟨e, he, rfl⟩, h⟩
    exact ⟨e, List.mem_filter.2 ⟨he, by simpa using h⟩, rfl⟩
theorem add_yes {S : List Rd.Th} {id p s : Int} (h0 : 0 ≤ id) (hp : 0 ≤ p ∧ p ≤ 7) (hs : 1 ≤ s ∧ s ≤ 16) (hn : ¬ hasS S id) : addS S id p s = (S ++ [⟨id, p, s, s⟩], 0) := by
  rw [addS, if_neg (by omega), if_neg hn]
theorem TP.add1 {T : TS} {x : Int} {L : List Int} (h : TP T (x :: L)) : addS T.S x (T.pr x) (T.sl x) = (T.S ++ [⟨x, T.pr x, T.sl x, T.sl x⟩], 0) := by
  obtain ⟨h1, h2, h3⟩ := h.L1 x (by simp)
  have h4 := h.ps x h1 h2
  exact add_yes (h.wm.ge x h1) h4.1 h4.2 (fun h5 => ((h.rdy x).1 h5).2 (by simp))
theorem TP.tell {T : TS} {x : Int} {L : List Int} (h : TP T (x :: L)) (why : Int) : TP (tell1 why T x) L := by
  obtain ⟨h1, h2, h3⟩ := h.L1 x (by simp)
  have h4 := h.ps x h1 h2
  have h0 := h.wm.ge x h1
  have hx : ¬ hasS T.S x := fun h5 => ((h.rdy x).1 h5).2 (by simp)
  have hL := List.nodup_cons.1 h.Ln
  have e : tell1 why T x = { T with S := T.S ++ [⟨x, T.pr x, T.sl x, T.sl x⟩], A := clrA T.A [x], told := T.told ++ [⟨x, why⟩] } := by rw [tell1, h.add1]
  rw [e]
  refine ⟨h.wm, h.rj.add (t := ⟨x, T.pr x, T.sl x, T.sl x⟩) hx (by dsimp only; omega), fun t ht => ?_, fun t ht => ?_, fun y => ?_, clr_Nd h.na _, fun y hy => ?_, h.off, h.ps, fun e he => h.tm e (clr_mem he), fun y hy => h.L1 y (by simp [hy]), hL.2⟩
  · rcases List.mem_append.1 ht with ht | ht
    · exact h.lf t ht
    · rw [List.mem_singleton.1 ht]; dsimp only; omega
  · rcases List.mem_append.1 ht with ht | ht
    · exact h.sp t ht
    · rw [List.mem_singleton.1 ht]; exact ⟨rfl, rfl⟩
  · dsimp only
    rw [has_app, h.rdy]
    simp only [List.mem_cons, not_or]
    constructor
    · rintro (⟨h5, h6, h7⟩ | rfl)
      · exact ⟨h5, h7⟩
      · exact ⟨⟨h1, h2, h3⟩, hL.1⟩
    · rintro ⟨h5, h6⟩
      by_cases e2 : y = x
      · exact .inr e2.symm
      · exact .inl ⟨h5, e2, h6⟩
  · obtain ⟨h5, h6⟩ := clr_has.1 hy
    obtain ⟨h7, h8⟩ := h.al y h5
    refine ⟨h7, h8.imp id fun h9 => ?_⟩
    rcases List.mem_cons.1 h9 with h9 | h9
    · exact absurd (by simp [h9]) h6
    · exact h9
theorem TP.tells : ∀ {L M : List Int} {T : TS} (why : Int), TP T (L ++ M) → TP (tellS T why L) M
  | [], _, _, _, h => h
  | x :: L, M, T, why, h => TP.tells (L := L) (M := M) why (TP.tell (L := L ++ M) h why)
theorem tell_m (why : Int) : ∀ (l : List Int) (T : TS), (tellS T why l).m = T.m ∧ (tellS T why l).now = T.now ∧ (tellS T why l).tn = T.tn ∧ (tellS T why l).pr = T.pr ∧ (tellS T why l).sl = T.sl ∧ (tellS T why l).on = T.on ∧ (tellS T why l).told.length = T.told.length + l.length
  | [], _ => ⟨rfl, rfl, rfl, rfl, rfl, rfl, rfl⟩
  | x :: l, T => by
    obtain ⟨h1, h2, h3, h4, h5, h6, h7⟩ := tell_m why l (tell1 why T x)
    refine ⟨h1, h2, h3, h4, h5, h6, ?_⟩
    rw [show tellS T why (x :: l) = tellS (tell1 why T x) why l from rfl, h7]
    simp [tell1]; omega
theorem TP.meet {T : TS} (h : TP T []) {m : MS} (hW : WM m) (hi : m.ids = T.m.ids) (M : List Int) (hM : ∀ x ∈ M, x ∈ T.m.ids ∧ T.m.st x ≠ 0 ∧ m.st x = 0) (hn : ∀ x ∈ T.m.ids, x ∉ M → (m.st x = 0 ↔ T.m.st x = 0)) (hd : M.Nodup) : TP (mS T m) M := by
  refine ⟨hW, h.rj, h.lf, h.sp, fun x => ?_, h.na, fun x hx => ?_, fun x hx hs => ?_, fun x hx => h.ps x (hi ▸ hx), h.tm, fun x hx => ?_, hd⟩
  · show hasS T.S x ↔ (x ∈ m.ids ∧ T.on x = true ∧ m.st x = 0) ∧ x ∉ M
    rw [h.rdy, hi]
    constructor
    · rintro ⟨⟨h1, h2, h3⟩, _⟩
      have h4 : x ∉ M := fun h4 => (hM x h4).2.1 h3
      exact ⟨⟨h1, h2, (hn x h1 h4).2 h3⟩, h4⟩
    · rintro ⟨⟨h1, h2, h3⟩, h4⟩
      exact ⟨⟨h1, h2, (hn x h1 h4).1 h3⟩, List.not_mem_nil⟩
  · obtain ⟨h1, h2⟩ := h.al x hx
    refine ⟨hi ▸ h1, ?_⟩
    by_cases h4 : x ∈ M
    · exact .inr h4
    · exact .inl fun h5 => (h2.resolve_right List.not_mem_nil) ((hn x h1 h4).1 h5)
  · have hx : x ∈ T.m.ids := hi ▸ hx
    have hs : m.st x ≠ 0 := hs
    have h4 : x ∉ M := fun h4 => hs (hM x h4).2.2
    exact h.off x hx fun h5 => hs ((hn x hx h4).2 h5)
  · obtain ⟨h1, h2, h3⟩ := hM x hx
    exact ⟨hi ▸ h1, h.off x h1 h2, h3⟩
end Go.Proofs.YtdfmfhcjnjfjbaaGreat
namespace Go.Proofs.YtdfmfhcjnjfjbaaGreat
open Go Go.QM
open Al (En hasA Nd clrA setA offA dueA restA leftA ids)
open Rd (hasS NdS addS RInv topS runS tickS yieldS rndS)
structure TRep where
  q : Nat
  a : Nat
  p : Nat
  tb : Nat
  B : Int → Nat
  M : Int → Nat
  ad : Option Addr
  cap : Nat
abbrev xP (B : Int → Nat) (T : TS) (x : Int) : HP := pts (B x) 90 [.int .i64 (T.pr x), .int .i64 (T.sl x), .bool (T.on x)]
def isT (b : Nat) (T : TS) : HP := EX fun y : TRep => pure' T.m.ids.Nodup (sepL [pts b 84 [.pointer (some ⟨y.q, 0, none⟩), .pointer (some ⟨y.a, 0, none⟩), .pointer (some ⟨y.p, 0, none⟩), .map (some y.tb), .slice y.ad T.told.length y.cap], Rd.isQ y.q T.S, Al.isAl y.a T.now T.tn T.A, isMa y.p y.M T.m, mapF QM.encI y.tb (fM y.B T.m.ids) T.m.ids.length, bigS (xP y.B T) T.m.ids, slc 74 2 y.ad T.told.length y.cap (tgsC T.told)])
theorem xP_rd {B : Int → Nat} {T : TS} {L : List Int} {x : Int} (h : x ∈ L) : RdI (bigS (xP B T) L) (B x) (.cells (List.toArray [.int .i64 (T.pr x), .int .i64 (T.sl x), .bool (T.on x)]) 90 (0, 0)) := ⟨Rd_big h (Rd_pts _ _ _)⟩
theorem tell_snoc (T : TS) (why : Int) (l : List Int) {k : Nat} {x : Int} (h : l[k]? = some x) : tellS T why (l.take (k + 1)) = tell1 why (tellS T why (l.take k)) x := by
  rw [List.take_add_one, h, Option.toList, tellS, List.foldl_append, tellS]; rfl
theorem add_len (S : List Rd.Th) (id p s : Int) : (addS S id p s).1.length ≤ S.length + 1 := by
  rw [addS]; split
  · exact Nat.le_add_right _ _
  · split
    · exact Nat.le_add_right _ _
    · rw [List.length_append]; exact Nat.le_refl _
theorem tell_len (why : Int) : ∀ (l : List Int) (T : TS), (tellS T why l).S.length ≤ T.S.length + l.length ∧ (tellS T why l).A.length ≤ T.A.length
  | [], _ => ⟨Nat.le_refl _, Nat.le_refl _⟩
  | x :: l, T => by
    obtain ⟨h1, h2⟩ := tell_len why l (tell1 why T x)
    have h3 := add_len T.S x (T.pr x) (T.sl x)
    have h4 : (clrA T.A [x]).length ≤ T.A.length := (Al.clrA_sub _ _).length_le
    have e : tellS T why (x :: l) = tellS (tell1 why T x) why l := rfl
    have e1 : (tell1 why T x).S = (addS T.S x (T.pr x) (T.sl x)).1 := rfl
    have e2 : (tell1 why T x).A = clrA T.A [x] := rfl
    rw [e1] at h1; rw [e2] at h2
    rw [e, List.length_cons]; omega
structure TB (T : TS) : Prop where
  ids : T.m.ids.length ≤ 1000
  now : 0 ≤ T.now ∧ T.now ≤ 1000000000
  tn : 0 ≤ T.tn ∧ T.tn ≤ 1000000000
  told : T.told.length ≤ 100000000
theorem ids_of {S : List Rd.Th} (hn : NdS S) {L : List Int} (h : ∀ x, hasS S x → x ∈ L) : S.length ≤ L.length := by
  have := nodup_sub_len hn (m := L) fun x hx => by
    obtain ⟨t, ht, rfl⟩ := List.mem_map.1 hx
    exact h _ ⟨t, ht, rfl⟩
  simpa using this
theorem ids_ofA {S : List En} (hn : Nd S) {L : List Int} (h : ∀ x, hasA S x → x ∈ L) : S.length ≤ L.length := by
  have := nodup_sub_len hn (m := L) fun x hx => by
    obtain ⟨t, ht, rfl⟩ := List.mem_map.1 hx
    exact h _ ⟨t, ht, rfl⟩
  simpa using this
theorem TP.lenS {T : TS} {L : List Int} (h : TP T L) : T.S.length ≤ T.m.ids.length := ids_of h.rj.nd fun x hx => ((h.rdy x).1 hx).1.1
theorem TP.lenA {T : TS} {L : List Int} (h : TP T L) : T.A.length ≤ T.m.ids.length := ids_ofA h.na fun x hx => (h.al x hx).1
theorem TP.lenL {T : TS} {L : List Int} (h : TP T L) : L.length ≤ T.m.ids.length := nodup_sub_len h.Ln fun x hx => (h.L1 x hx).1
theorem al_bd {T : TS} (hb : TB T) (hA : T.A.length ≤ 500000) : (0 ≤ T.now ∧ T.now ≤ 1000000000000) ∧ (0 ≤ T.tn ∧ T.tn ≤ 1000000000000) ∧ T.A.length ≤ 500000 := by
  have h1 := hb.now; have h2 := hb.tn; omega
theorem add_ids (T : TS) (x : Int) : (addT T x).m = joinS T.m x := by
  rw [addT]; split
  · rename_i h; rw [joinS, if_pos h]
  · rfl
theorem addL_snoc (T : TS) (l : List Int) {k : Nat} {x : Int} (h : l[k]? = some x) : addL T (l.take (k + 1)) = addT (addL T (l.take k)) x := by
  rw [List.take_add_one, h, Option.toList, addL, List.foldl_append, addL]; rfl
theorem addL_len (l : List Int) : ∀ T : TS, T.m.ids.length ≤ (addL T l).m.ids.length ∧ (addL T l).m.ids.length ≤ T.m.ids.length + l.length := by
  induction l with
  | nil => exact fun T => ⟨Nat.le_refl _, Nat.le_refl _⟩
  | cons x l ih => intro T; have h1 := join_len T.m x; have h2 := ih (addT T x); rw [add_ids] at h2; rw [show addL T (x :: l) = addL (addT T x) l from rfl, List.length_cons]; omega
set_option maxRecDepth 4000 in
theorem tat_yes (b tb n : Nat) (B : Int → Nat) (ids : List Int) (id : Int) (h : id ∈ ids) (c0 c1 c2 c4 : Value) : FSpec Tryz.prog 41 [.pointer (some ⟨b, 0, none⟩), .int .i64 id] noRd [pts b 84 [c0, c1, c2, .map (some tb), c4], mapF QM.encI tb (fM B ids) n] (fun _ : Unit => .tuple #[.pointer (some ⟨(B id), 0, none⟩), .int .i64 0]) (fun _ => True) (fun _ => [pts b 84 [c0, c1, c2, .map (some tb), c4], mapF QM.encI tb (fM B ids) n]) := by
 refine FSpec.intro (rs := [.tmp 4, .tmp 5]) (by kernel_rfl) Tryz.func41 rfl Tryz.ntmps41 (by rfl) rfl ?_
 intro F _
 change TC _ _ _ _ _ _ _ (sepL [_, _, _])
 refine TC.seq ?_
 refine TC.region ?_
 refine q rfl rfl (asg rfl) ?_
 refine q rfl rfl (asg rfl) ?_
 refine TL.nil (nt ?_)
 refine TC.seq ?_
 refine TC.seq ?_
 refine TC.region ?_
 refine q rfl rfl (mv rfl) ?_
 refine q rfl rfl (eqNil rfl rfl rfl) ?_
 refine TL.nil (nt ?_)
 refine TC.condF rfl ?_
 refine TC.skip (nt ?_)
 refine TC.seq ?_
 refine TC.region ?_
 refine q rfl rfl (mv rfl) ?_
 refine wnc rfl rfl ?_
 refine wfa 3 rfl rfl rfl ?_
 refine wld rfl rfl rfl rfl ?_
 refine q rfl rfl (mv rfl) ?_
 refine q rfl rfl (luF 3 75 rfl rfl (KL.int rfl) rfl rfl) ?_
 rw [fM_yes h]
 refine wap rfl rfl ?_
 refine TL.nil (nt ?_)
 refine TC.seq ?_
 refine TC.seq ?_
 refine TC.region ?_
 refine wmp rfl rfl ?_
 refine q rfl rfl (eqNil rfl rfl rfl) ?_
 refine TL.nil (nt ?_)
 refine TC.condF rfl ?_
 refine TC.skip (nt ?_)
 refine TC.seq ?_
 refine TC.region ?_
 refine wmp rfl rfl ?_
 refine wap rfl rfl ?_
 refine wai rfl rfl ?_
 refine TL.nil (nt ?_)
 refine TC.ret ?_
 exact Ret.i () [_, _] ⟨rfl, rfl, trivial⟩ rfl trivial (ent_take 0 rfl (ent_take 0 rfl (ent_take 0 rfl (ent_nil _))))
set_option maxRecDepth 4000 in
theorem tat_no (b tb n : Nat) (B : Int → Nat) (ids : List Int) (id : Int) (h : id ∉ ids) (c0 c1 c2 c4 : Value) : FSpec Tryz.prog 41 [.pointer (some ⟨b, 0, none⟩), .int .i64 id] noRd [pts b 84 [c0, c1, c2, .map (some tb), c4], mapF QM.encI tb (fM B ids) n] (fun _ : Unit => .tuple #[.pointer none, .int .i64 6]) (fun _ => True) (fun _ => [pts b 84 [c0, c1, c2, .map (some tb), c4], mapF QM.encI tb (fM B ids) n]) := by
 refine FSpec.intro (rs := [.tmp 4, .tmp 5]) (by kernel_rfl) Tryz.func41 rfl Tryz.ntmps41 (by rfl) rfl ?_
 intro F _
 change TC _ _ _ _ _ _ _ (sepL [_, _, _])
 refine TC.seq ?_
 refine TC.region ?_
 refine q rfl rfl (asg rfl) ?_
 refine q rfl rfl (asg rfl) ?_
 refine TL.nil (nt ?_)
 refine TC.seq ?_
 refine TC.seq ?_
 refine TC.region ?_
 refine q rfl rfl (mv rfl) ?_
 refine q rfl rfl (eqNil rfl rfl rfl) ?_
 refine TL.nil (nt ?_)
 refine TC.condF rfl ?_
 refine TC.skip (nt ?_)
 refine TC.seq ?_
 refine TC.region ?_
 refine q rfl rfl (mv rfl) ?_
 refine wnc rfl rfl ?_
 refine wfa 3 rfl rfl rfl ?_
 refine wld rfl rfl rfl rfl ?_
 refine q rfl rfl (mv rfl) ?_
 refine q rfl rfl (luF 3 75 rfl rfl (KL.int rfl) rfl rfl) ?_
 rw [fM_no h]
 refine wap rfl rfl ?_
 refine TL.nil (nt ?_)
 refine TC.seq ?_
 refine TC.seq ?_
 refine TC.region ?_
 refine wmp rfl rfl ?_
 refine q rfl rfl (eqNil rfl rfl rfl) ?_
 refine TL.nil (nt ?_)
 refine TC.condT rfl ?_
 refine TC.seq ?_
 refine TC.region ?_
 refine wap rfl rfl ?_
 refine wai rfl rfl ?_
 refine TL.nil (nt ?_)
 refine TC.ret (rt ?_)
 exact Ret.i () [_, _] ⟨rfl, rfl, trivial⟩ rfl trivial (ent_take 0 rfl (ent_take 0 rfl (ent_take 0 rfl (ent_nil _))))
set_option maxRecDepth 4000 in
theorem tat_nil (id : Int) : FSpec Tryz.prog 41 [.pointer none, .int .i64 id] noRd [] (fun _ : Unit => .tuple #[.pointer none, .int .i64 1]) (fun _ => True) (fun _ => []) := by
 refine FSpec.intro (rs := [.tmp 4, .tmp 5]) (by kernel_rfl) Tryz.func41 rfl Tryz.ntmps41 (by rfl) rfl ?_
 intro F _
 change TC _ _ _ _ _ _ _ (sepL [_])
 refine TC.seq ?_
 refine TC.region ?_
 refine wap rfl rfl ?_
 refine wai rfl rfl ?_
 refine TL.nil (nt ?_)
 refine TC.seq ?_
 refine TC.seq ?_
 refine TC.region ?_
 refine wmp rfl rfl ?_
 refine q rfl rfl (eqNil rfl rfl rfl) ?_
 refine TL.nil (nt ?_)
 refine TC.condT rfl ?_
 refine TC.seq ?_
 refine TC.region ?_
 refine wap rfl rfl ?_
 refine wai rfl rfl ?_
 refine TL.nil (nt ?_)
 refine TC.ret (rt ?_)
 exact Ret.i () [_, _] ⟨rfl, rfl, trivial⟩ rfl trivial (ent_take 0 rfl (ent_nil _))
set_option maxRecDepth 4000 in
theorem tnew_ok  : FSpec Tryz.prog 26 [] noRd [] (fun b : Nat => .pointer (some ⟨b, 0, none⟩)) (fun _ => True) (fun b => [isT b t0]) := by
 refine FSpec.intro (rs := [.tmp 0]) (by kernel_rfl) Tryz.func26 rfl Tryz.ntmps26 (by rfl) rfl ?_
 intro F _
 change TC _ _ _ _ _ _ _ (sepL [_])
 refine TC.seq ?_
 refine TC.region ?_
 refine wap rfl rfl ?_
 refine TL.nil (nt ?_)
 refine TC.seq ?_
 refine TC.region ?_
 refine e rfl ?_
 refine cl Rd.rnew_ok rfl (picked_nil _) trivial ?_
 intro qb _
 change TL _ _ _ _ _ _ _ _ (sepL [_, _])
 refine e rfl ?_
 refine cl Al.new_ok rfl (picked_nil _) trivial ?_
 intro a _
 change TL _ _ _ _ _ _ _ _ (sepL [_, _, _])
 refine e rfl ?_
 refine cl (mnew_ok (fun _ => 0)) rfl (picked_nil _) trivial ?_
 intro pb _
 change TL _ _ _ _ _ _ _ _ (sepL [_, _, _, _])
 refine e rfl ?_
 refine mkF QM.encI ?_
 intro b1
 refine q rfl rfl (bld (cs := [.pointer _, .pointer _, .pointer _, .map _, .slice _ _ _]) rfl) ?_
 refine e rfl ?_
 refine bx (v := .agg #[_, _, _, _, _]) (l := [.pointer _, .pointer _, .pointer _, .map _, .slice _ _ _]) rfl rfl ?_
 intro b2
 refine wap rfl rfl ?_
 refine TL.nil (nt ?_)
 refine TC.ret ?_
 have hf : fM (fun _ => 0) [] = fun _ => none := funext fun _ => if_neg (by simp)
 exact Ret.i b2 [_] ⟨rfl, trivial⟩ rfl trivial ((slc_nil 74 2 _).trans ((bigS_nil (f := xP (fun _ => 0) t0) _).trans (ent_close (⟨qb, a, pb, b1, fun _ => 0, fun _ => 0, none, 0⟩ : TRep) List.nodup_nil (ent_take 2 rfl (ent_take 5 rfl (ent_take 4 rfl (ent_take 3 rfl (ent_takeE 2 rfl (by dsimp only [t0, s0]; rw [hf]; rfl) (ent_take 0 rfl (ent_take 0 rfl (ent_take 0 rfl (ent_nil _))))))))))))
set_option maxRecDepth 4000 in
theorem tmay_ok (t : Int) : FSpec Tryz.prog 52 [.int .i64 t] noRd [] (fun _ : Unit => .bool (decide (¬ badT t))) (fun _ => True) (fun _ => []) := by
 refine FSpec.intro (rs := [.tmp 2]) (by kernel_rfl) Tryz.func52 rfl Tryz.ntmps52 (by rfl) rfl ?_
 intro F _
 change TC _ _ _ _ _ _ _ (sepL [_])
 refine TC.seq ?_
 refine TC.region ?_
 refine wab rfl rfl ?_
 refine TL.nil (nt ?_)
 refine TC.seq ?_
 refine TC.region ?_
 refine wmi rfl rfl ?_
 refine q rfl rfl (geq rfl rfl) ?_
 refine wmb rfl rfl ?_
 refine TL.split 5 rfl (fun h0 => ?_) (fun h0 => ?_)
 ·have h0 := of_decide_eq_true h0
  refine qg rfl rfl rfl (mv (v := .int _ _) rfl) ?_
  refine qg rfl rfl rfl (leq rfl rfl) ?_
  refine q rfl rfl (pkT (v := .bool _) rfl rfl) ?_
  refine wab rfl rfl ?_
  refine TL.nil (nt ?_)
  refine TC.ret ?_
  have hd : decide (t ≤ 1048576) = decide (¬ badT t) := decide_eq_decide.2 (by rw [badT]; omega)
  exact Ret.i () [_] ⟨rfl, trivial⟩ (by rw [← hd]; rfl) trivial (ent_take 0 rfl (ent_nil _))
 ·have h0 := of_decide_eq_false h0
  refine qs rfl rfl ?_
  refine qs rfl rfl ?_
  refine q rfl rfl (pkF (v := .bool _) rfl rfl) ?_
  refine wab rfl rfl ?_
  refine TL.nil (nt ?_)
  refine TC.ret ?_
  have hd : decide (¬ badT t) = false := decide_eq_false (by rw [badT]; omega)
  exact Ret.i () [_] ⟨rfl, trivial⟩ (by rw [hd]; rfl) trivial (ent_take 0 rfl (ent_nil _))
set_option maxRecDepth 4000 in
theorem tstate_ok (b : Nat) (T : TS) (id : Int) : FSpec Tryz.prog 20 [.pointer (some ⟨b, 0, none⟩), .int .i64 id] noRd [isT b T] (fun _ : Unit => .int .i64 (stT T id)) (fun _ => True) (fun _ => [isT b T]) := by
 refine FSpec.intro (rs := [.tmp 4]) (by kernel_rfl) Tryz.func20 rfl Tryz.ntmps20 (by rfl) rfl ?_
 intro F _
 change TC _ _ _ _ _ _ _ (sepL [_, _])
 refine TC.open 0 rfl (fun x0 hx0 => ?_)
 obtain ⟨qb, a, pb, tb, B, M, ad, cap⟩ := x0
 have hN := hx0
 change TC _ _ _ _ _ _ _ (sepL [_, _, _, _, _, _, _, _])
 dsimp only at hN ⊢
 by_cases h : id ∈ T.m.ids
 ·haveI := xP_rd (B := B) (T := T) (x := id) h
  refine TC.seq ?_
  refine TC.region ?_
  refine wai rfl rfl ?_
  refine TL.nil (nt ?_)
  refine TC.seq ?_
  refine TC.region ?_
  refine wmp rfl rfl ?_
  refine wmi rfl rfl ?_
  refine e rfl ?_
  refine cl (tat_yes b tb T.m.ids.length B T.m.ids id h (.pointer (some ⟨qb, 0, none⟩)) (.pointer (some ⟨a, 0, none⟩)) (.pointer (some ⟨pb, 0, none⟩)) (.slice ad T.told.length cap)) rfl PkL.p trivial ?_
  intro _ _
  change TL _ _ _ _ _ _ _ _ (sepL [_, _, _, _, _, _, _, _])
  refine wmt rfl rfl ?_
  refine q rfl rfl (pu (v := .pointer _) (fun _ => rfl)) ?_
  refine q rfl rfl (pu (v := .int _ _) (fun _ => rfl)) ?_
  refine wap rfl rfl ?_
  refine wai rfl rfl ?_
  refine TL.nil (nt ?_)
  refine TC.seq ?_
  refine TC.block ?_
  refine TC.seq ?_
  refine TC.region ?_
  refine wmi rfl rfl ?_
  refine q rfl rfl (neI rfl rfl) ?_
  refine wab rfl rfl ?_
  refine TL.nil (nt ?_)
  refine TC.condF rfl ?_
  refine TC.seq ?_
  refine TC.region ?_
  refine wmp rfl rfl ?_
  refine wnc rfl rfl ?_
  refine wfa 2 rfl rfl rfl ?_
  refine wld rfl rfl rfl rfl ?_
  refine q rfl rfl (notB rfl) ?_
  refine wab rfl rfl ?_
  refine TL.nil (nt ?_)
  cases hon : T.on id with
  | true => ?_
  | false => ?_
  ·have hv : stT T id = stR T.m id := by rw [stT, if_pos h, stR, if_pos h, hon]; rfl
   rw [hv]
   refine TC.condF rfl ?_
   refine TC.skip (nb (nt ?_))
   refine TC.seq ?_
   refine TC.region ?_
   refine wmp rfl rfl ?_
   refine wnc rfl rfl ?_
   refine wfa 2 rfl rfl rfl ?_
   refine wld rfl rfl rfl rfl ?_
   refine wmi rfl rfl ?_
   refine e rfl ?_
   refine cl (mstate_ok pb M T.m id) rfl PkL.p trivial ?_
   intro _ _
   change TL _ _ _ _ _ _ _ _ (sepL [_, _, _, _, _, _, _, _])
   refine wai rfl rfl ?_
   refine TL.nil (nt ?_)
   refine TC.ret ?_
   exact Ret.i () [_] ⟨rfl, trivial⟩ rfl trivial (ent_close (⟨qb, a, pb, tb, B, M, ad, cap⟩ : TRep) hN (ent_take 1 rfl (ent_take 2 rfl (ent_take 2 rfl (ent_take 0 rfl (ent_take 0 rfl (ent_take 0 rfl (ent_take 0 rfl (ent_take 0 rfl (ent_nil _))))))))))
  ·have hv : stT T id = 4 := by rw [stT, if_pos h, hon]; rfl
   rw [hv]
   refine TC.condT rfl ?_
   refine TC.seq ?_
   refine TC.region ?_
   refine wai rfl rfl ?_
   refine TL.nil (nt ?_)
   refine TC.ret (rb (rt ?_))
   exact Ret.i () [_] ⟨rfl, trivial⟩ rfl trivial (ent_close (⟨qb, a, pb, tb, B, M, ad, cap⟩ : TRep) hN (ent_take 0 rfl (ent_take 1 rfl (ent_take 1 rfl (ent_take 1 rfl (ent_take 0 rfl (ent_take 0 rfl (ent_take 0 rfl (ent_take 0 rfl (ent_nil _))))))))))
 ·have hv : stT T id = -1 := if_neg h
  rw [hv]
  refine TC.seq ?_
  refine TC.region ?_
  refine wai rfl rfl ?_
  refine TL.nil (nt ?_)
  refine TC.seq ?_
  refine TC.region ?_
  refine wmp rfl rfl ?_
  refine wmi rfl rfl ?_
  refine e rfl ?_
  refine cl (tat_no b tb T.m.ids.length B T.m.ids id h (.pointer (some ⟨qb, 0, none⟩)) (.pointer (some ⟨a, 0, none⟩)) (.pointer (some ⟨pb, 0, none⟩)) (.slice ad T.told.length cap)) rfl PkL.p trivial ?_
  intro _ _
  change TL _ _ _ _ _ _ _ _ (sepL [_, _, _, _, _, _, _, _])
  refine wmt rfl rfl ?_
  refine q rfl rfl (pu (v := .pointer _) (fun _ => rfl)) ?_
  refine q rfl rfl (pu (v := .int _ _) (fun _ => rfl)) ?_
  refine wap rfl rfl ?_
  refine wai rfl rfl ?_
  refine TL.nil (nt ?_)
  refine TC.seq ?_
  refine TC.block ?_
  refine TC.seq ?_
  refine TC.region ?_
  refine wmi rfl rfl ?_
  refine q rfl rfl (neI rfl rfl) ?_
  refine wab rfl rfl ?_
  refine TL.nil (nt ?_)
  refine TC.condT rfl ?_
  refine TC.seq ?_
  refine TC.region ?_
  refine wai rfl rfl ?_
  refine TL.nil (nt ?_)
  refine TC.ret (rb (rt ?_))
  exact Ret.i () [_] ⟨rfl, trivial⟩ rfl trivial (ent_close (⟨qb, a, pb, tb, B, M, ad, cap⟩ : TRep) hN (ent_take 0 rfl (ent_take 1 rfl (ent_take 1 rfl (ent_take 1 rfl (ent_take 0 rfl (ent_take 0 rfl (ent_take 0 rfl (ent_take 0 rfl (ent_nil _))))))))))
set_option maxRecDepth 4000 in
theorem tstate_nil (id : Int) : FSpec Tryz.prog 20 [.pointer none, .int .i64 id] noRd [] (fun _ : Unit => .int .i64 (-1)) (fun _ => True) (fun _ => []) := by
 refine FSpec.intro (rs := [.tmp 4]) (by kernel_rfl) Tryz.func20 rfl Tryz.ntmps20 (by rfl) rfl ?_
 intro F _
 change TC _ _ _ _ _ _ _ (sepL [_])
 refine TC.seq ?_
 refine TC.region ?_
 refine wai rfl rfl ?_
 refine TL.nil (nt ?_)
 refine TC.seq ?_
 refine TC.region ?_
 refine wmp rfl rfl ?_
 refine wmi rfl rfl ?_
 refine e rfl ?_
 refine cl (tat_nil id) rfl (picked_nil _) trivial ?_
 intro _ _
 change TL _ _ _ _ _ _ _ _ (sepL [_])
 refine wmt rfl rfl ?_
 refine q rfl rfl (pu (v := .pointer _) (fun _ => rfl)) ?_
 refine q rfl rfl (pu (v := .int _ _) (fun _ => rfl)) ?_
 refine wap rfl rfl ?_
 refine wai rfl rfl ?_
 refine TL.nil (nt ?_)
 refine TC.seq ?_
 refine TC.block ?_
 refine TC.seq ?_
 refine TC.region ?_
 refine wmi rfl rfl ?_
 refine q rfl rfl (neI rfl rfl) ?_
 refine wab rfl rfl ?_
 refine TL.nil (nt ?_)
 refine TC.condT rfl ?_
 refine TC.seq ?_
 refine TC.region ?_
 refine wai rfl rfl ?_
 refine TL.nil (nt ?_)
 refine TC.ret (rb (rt ?_))
 exact Ret.i () [_] ⟨rfl, trivial⟩ rfl trivial (ent_take 0 rfl (ent_nil _))
set_option maxRecDepth 4000 in
theorem tadd_ok (b : Nat) (T : TS) (ax : Option Addr) (cx : Nat) (xs : List Int) (hl : xs.length ≤ 100000) (hl2 : T.m.ids.length ≤ 100000) : FSpec Tryz.prog 9 [.pointer (some ⟨b, 0, none⟩), .slice ax xs.length cx] (fun F => ∃ E, RdS F E ax (ints xs)) [isT b T] (fun _ : Unit => .int .i64 ((addL T xs).m.ids.length - T.m.ids.length : Int)) (fun _ => True) (fun _ => [isT b (addL T xs)]) := by
 refine FSpec.intro (rs := [.tmp 4]) (by kernel_rfl) Tryz.func9 rfl Tryz.ntmps9 (by rfl) rfl ?_
 intro F ⟨E, hF⟩
 change TC _ _ _ _ _ _ _ (sepL [_, _])
 haveI : RdSI F ax E (ints xs) := ⟨hF⟩
 have hxl := ints_length xs
 refine TC.seq ?_
 refine TC.region ?_
 refine wai rfl rfl ?_
 refine TL.nil (nt ?_)
 refine TC.seq ?_
 refine TC.region ?_
 refine wai rfl rfl ?_
 refine TL.nil (nt ?_)
 refine TC.seq ?_
 refine TC.seq ?_
 refine TC.region ?_
 refine wms rfl rfl ?_
 refine q rfl rfl (len 3 1 rfl rfl) ?_
 refine wmi rfl rfl ?_
 refine TL.nil (nt ?_)
 refine TC.block ?_
 refine TC.loop (ι := Nat) (fun k => k ≤ xs.length) (fun k => [(0, .pointer (some ⟨b, 0, none⟩)), (5, .int .i64 ((addL T (xs.take k)).m.ids.length - T.m.ids.length : Int)), (8, .slice ax xs.length cx), (9, .int .i64 xs.length), (10, .int .i64 ((k : Nat) : Int))]) (fun k => sepL [isT b (addL T (xs.take k)), F]) (fun k => xs.length - k) 0 (Nat.zero_le _) ⟨rfl, congrArg (Value.int .i64) (Int.sub_self _).symm, rfl, rfl, rfl, trivial⟩ (ent_take 0 rfl (ent_take 0 rfl (ent_nil _))) ?_
 rintro k hk ρ0
 dsimp only [updL] at hk ⊢
 refine TC.seq ?_
 refine TC.region ?_
 refine q rfl rfl (lss rfl rfl) ?_
 refine TL.nil (nt ?_)
 refine TC.seq ?_
 refine TC.condD rfl (fun hlt => ?_) (fun hlt => ?_)
 ·have hlt2 : k < xs.length := by omega
  obtain ⟨x, hx⟩ : ∃ x, xs[k]? = some x := ⟨xs[k], List.getElem?_eq_getElem hlt2⟩
  have hpos : 0 < (ints xs).length := by omega
  have hsn := addL_snoc T xs hx
  have hjl := addL_len (xs.take k) T
  have hjt : (xs.take k).length ≤ k := by rw [List.length_take]; omega
  generalize (addL T (xs.take k)) = Z at hsn hjl ⊢
  have hzi : Z.m.ids.length ≤ 1000000 := by omega
  refine TC.open 0 rfl (fun x0 hx0 => ?_)
  obtain ⟨qb, a, pb, tb, B, M, ad, cap⟩ := x0
  have hN := hx0
  change TC _ _ _ _ _ _ _ (sepL [_, _, _, _, _, _, _, _])
  dsimp only at hN ⊢
  refine TC.skip (nt ?_)
  refine TC.seq ?_
  refine TC.block ?_
  refine TC.seq ?_
  refine TC.region ?_
  refine q rfl rfl (ixS 3 1 rfl rfl rfl (by omega) (by assumption)) ?_
  refine q rfl rfl (ldS rfl rfl (ints_get hx)) ?_
  refine wai rfl rfl ?_
  refine TL.nil (nt ?_)
  refine TC.seq ?_
  refine TC.region ?_
  refine wmp rfl rfl ?_
  refine q rfl rfl (neNil rfl rfl rfl) ?_
  refine wmb rfl rfl ?_
  refine qg rfl rfl rfl (mv (v := .pointer _) rfl) ?_
  refine qg rfl rfl rfl (nc rfl) ?_
  refine qg rfl rfl rfl (fa 2 rfl rfl) ?_
  refine qg rfl rfl rfl (ld rfl rfl rfl) ?_
  refine qg rfl rfl rfl (mv (v := .int _ _) rfl) ?_
  refine eg rfl rfl ?_
  refine bs (cs := [.int _ _]) rfl ?_
  intro b3
  refine eg rfl rfl ?_
  refine cl (mjoin_ok pb M Z.m (some ⟨b3, 0, none⟩) _ [x] (by simp) hzi) rfl PkL.p ⟨_, RdSI.rd (ad := some ⟨b3, 0, none⟩)⟩ ?_
  intro M2 _
  change TL _ _ _ _ _ _ _ _ (sepL [_, _, _, _, _, _, _, _, _])
  rw [show joinL Z.m [x] = joinS Z.m x from rfl]
  by_cases h : x ∈ Z.m.ids ∨ x < 0
  ·have hz : addT Z x = Z := if_pos h
   have hj : joinS Z.m x = Z.m := if_pos h
   rw [hz] at hsn
   rw [hj, Int.sub_self]
   refine qg rfl rfl rfl (eqI rfl rfl) ?_
   refine q rfl rfl (pkT (v := .bool _) rfl rfl) ?_
   refine TL.nil (nt ?_)
   refine TC.condF rfl ?_
   refine TC.skip (nb (nt ?_))
   refine TC.region ?_
   refine q rfl rfl (addI rfl rfl (by omega) (by omega)) ?_
   refine wmi rfl rfl ?_
   refine TL.nil (nt ?_)
   exact ⟨rfl, (k + 1), (by omega), (by omega), ⟨rfl, congrArg (fun z : TS => Value.int .i64 ((z.m.ids.length : Int) - T.m.ids.length)) hsn.symm, rfl, rfl, rfl, trivial⟩, (by rw [hsn]; exact (ent_close (⟨qb, a, pb, tb, B, M2, ad, cap⟩ : TRep) hN (ent_take 2 rfl (ent_take 2 rfl (ent_take 2 rfl (ent_take 0 rfl (ent_take 1 rfl (ent_take 1 rfl (ent_take 1 rfl (ent_take 1 rfl (ent_nil _)))))))))))⟩
  ·have hz : addT Z x = { Z with m := joinS Z.m x, pr := updI Z.pr x 0, sl := updI Z.sl x 0, on := updI Z.on x false } := if_neg h
   have hj : (joinS Z.m x).ids = Z.m.ids ++ [x] := by rw [joinS, if_neg h]
   have hxi : x ∉ Z.m.ids := fun h2 => h (.inl h2)
   rw [hz] at hsn
   have h1 : ((joinS Z.m x).ids.length : Int) - (Z.m.ids.length : Int) = 1 := by rw [hj, List.length_append, List.length_singleton]; omega
   rw [h1]
   have hfx := fM_no (A := B) hxi
   have hN2 : (joinS Z.m x).ids.Nodup := join_nd hN x
   refine qg rfl rfl rfl (eqI rfl rfl) ?_
   refine q rfl rfl (pkT (v := .bool _) rfl rfl) ?_
   refine TL.nil (nt ?_)
   refine TC.condT rfl ?_
   refine TC.seq ?_
   refine TC.region ?_
   refine wmp rfl rfl ?_
   refine wnc rfl rfl ?_
   refine wfa 3 rfl rfl rfl ?_
   refine wld rfl rfl rfl rfl ?_
   refine wmi rfl rfl ?_
   refine q rfl rfl (bld (cs := [.int _ _, .int _ _, .bool _]) rfl) ?_
   refine e rfl ?_
   refine bx (v := .agg #[_, _, _]) (l := [.int _ _, .int _ _, .bool _]) rfl rfl ?_
   intro b4
   refine e0 ?_
   refine muF 3 75 rfl (KL.int rfl) rfl rfl rfl ?_
   refine TL.nil (nt ?_)
   refine TC.region ?_
   refine wmi rfl rfl ?_
   refine q rfl rfl (addI rfl rfl (by omega) (by omega)) ?_
   refine wai rfl rfl ?_
   refine TL.nil (nb (nt ?_))
   refine TC.region ?_
   refine q rfl rfl (addI rfl rfl (by omega) (by omega)) ?_
   refine wmi rfl rfl ?_
   refine TL.nil (nt ?_)
   have hne : ∀ y ∈ Z.m.ids, y ≠ x := fun y hy e2 => hxi (e2 ▸ hy)
   have hP2 : (x :: Z.m.ids).Perm (joinS Z.m x).ids := by rw [hj]; exact (List.perm_append_singleton _ _).symm
   have hcN : ∀ y ∈ Z.m.ids, xP B Z y = xP (updI B x b4) { Z with m := joinS Z.m x, pr := updI Z.pr x 0, sl := updI Z.sl x 0, on := updI Z.on x false } y := fun y hy => by
    have h2 := hne y hy
    dsimp only [xP]; simp only [updI_ne h2]
   have hAx : pts b4 90 [.int .i64 0, .int .i64 0, .bool false] = xP (updI B x b4) { Z with m := joinS Z.m x, pr := updI Z.pr x 0, sl := updI Z.sl x 0, on := updI Z.on x false } x := by dsimp only [xP]; simp only [updI_same]
   have hMF : mapF QM.encI tb (updF (fM B Z.m.ids) x (.pointer (some ⟨b4, 0, none⟩))) (if ((fM B Z.m.ids) x).isSome then Z.m.ids.length else Z.m.ids.length + 1) = mapF QM.encI tb (fM (updI B x b4) (joinS Z.m x).ids) (joinS Z.m x).ids.length := by
    rw [hj, fM_add, hfx, List.length_append]; rfl
   exact ⟨rfl, (k + 1), (by omega), (by omega), ⟨rfl, congrArg (Value.int .i64) (by rw [hsn]; show _ = ((joinS Z.m x).ids.length : Int) - _; omega), rfl, rfl, rfl, trivial⟩, (by rw [hsn]; exact (ent_close (⟨qb, a, pb, tb, updI B x b4, M2, ad, cap⟩ : TRep) hN2 (ent_take 4 rfl (ent_take 4 rfl (ent_take 4 rfl (ent_take 2 rfl (ent_takeE 0 rfl (hMF) (ent_closeB 0 1 x rfl rfl hAx hcN hP2 (ent_take 1 rfl (ent_take 1 rfl (ent_nil _)))))))))))⟩
 ·obtain rfl : k = xs.length := by omega
  rw [List.take_length]
  refine TC.exit (et (et (eb (nt ?_))))
  refine TC.seq ?_
  refine TC.region ?_
  refine wmi rfl rfl ?_
  refine wai rfl rfl ?_
  refine TL.nil (nt ?_)
  refine TC.ret ?_
  exact Ret.i () [_] ⟨rfl, trivial⟩ rfl trivial (ent_take 0 rfl (ent_take 0 rfl (ent_nil _)))
set_option maxRecDepth 4000 in
theorem tadd_nil (ax : Option Addr) (cx : Nat) (x : Int) : FSpec Tryz.prog 9 [.pointer none, .slice ax 1 cx] (fun F => ∃ E, RdS F E ax (ints [x])) [] (fun _ : Unit => .int .i64 0) (fun _ => True) (fun _ => []) := by
 refine FSpec.intro (rs := [.tmp 4]) (by kernel_rfl) Tryz.func9 rfl Tryz.ntmps9 (by rfl) rfl ?_
 intro F ⟨E, hF⟩
 change TC _ _ _ _ _ _ _ (sepL [_])
 haveI : RdSI F ax E (ints [x]) := ⟨hF⟩
 refine TC.seq ?_
 refine TC.region ?_
 refine wai rfl rfl ?_
 refine TL.nil (nt ?_)
 refine TC.seq ?_
 refine TC.region ?_
 refine wai rfl rfl ?_
 refine TL.nil (nt ?_)
 refine TC.seq ?_
 refine TC.seq ?_
 refine TC.region ?_
 refine wms rfl rfl ?_
 refine q rfl rfl (len 3 1 rfl rfl) ?_
 refine wmi rfl rfl ?_
 refine TL.nil (nt ?_)
 refine TC.block ?_
 refine TC.loop (ι := Nat) (fun k => k ≤ 1) (fun k => [(0, .pointer none), (5, .int .i64 0), (8, .slice ax 1 cx), (9, .int .i64 1), (10, .int .i64 ((k : Nat) : Int))]) (fun k => sepL [F]) (fun k => 1 - k) 0 (by omega) ⟨rfl, rfl, rfl, rfl, rfl, trivial⟩ (ent_take 0 rfl (ent_nil _)) ?_
 rintro k hk ρ0
 dsimp only [updL] at hk ⊢
 refine TC.seq ?_
 refine TC.region ?_
 refine q rfl rfl (lss rfl rfl) ?_
 refine TL.nil (nt ?_)
 refine TC.seq ?_
 refine TC.condD rfl (fun hlt => ?_) (fun hlt => ?_)
 ·obtain rfl : k = 0 := by omega
  have hpos : 0 < (ints [x]).length := by simp [ints]
  refine TC.skip (nt ?_)
  refine TC.seq ?_
  refine TC.block ?_
  refine TC.seq ?_
  refine TC.region ?_
  refine q rfl rfl (ixS 3 1 rfl rfl rfl (by omega) (by assumption)) ?_
  refine q rfl rfl (ldS rfl rfl (ints_get (xs := [x]) (i := 0) rfl)) ?_
  refine wai rfl rfl ?_
  refine TL.nil (nt ?_)
  refine TC.seq ?_
  refine TC.region ?_
  refine wmp rfl rfl ?_
  refine q rfl rfl (neNil rfl rfl rfl) ?_
  refine wmb rfl rfl ?_
  refine qs rfl rfl ?_
  refine qs rfl rfl ?_
  refine qs rfl rfl ?_
  refine qs rfl rfl ?_
  refine qs rfl rfl ?_
  refine qs rfl rfl ?_
  refine qs rfl rfl ?_
  refine qs rfl rfl ?_
  refine q rfl rfl (pkF (v := .bool _) rfl rfl) ?_
  refine TL.nil (nt ?_)
  refine TC.condF rfl ?_
  refine TC.skip (nb (nt ?_))
  refine TC.region ?_
  refine q rfl rfl (addI rfl rfl (by omega) (by omega)) ?_
  refine wmi rfl rfl ?_
  refine TL.nil (nt ?_)
  exact ⟨rfl, (0 + 1), (by omega), (by omega), ⟨rfl, rfl, rfl, rfl, rfl, trivial⟩, (ent_take 0 rfl (ent_nil _))⟩
 ·refine TC.exit (et (et (eb (nt ?_))))
  refine TC.seq ?_
  refine TC.region ?_
  refine wmi rfl rfl ?_
  refine wai rfl rfl ?_
  refine TL.nil (nt ?_)
  refine TC.ret ?_
  exact Ret.i () [_] ⟨rfl, trivial⟩ rfl trivial (ent_take 0 rfl (ent_nil _))
set_option maxRecDepth 4000 in
theorem tblock_ok (b : Nat) (T : TS) (hb : TB T) (hA : T.A.length ≤ 500000) (hS : T.S.length ≤ 1000000) (id ticks : Int) : FSpec Tryz.prog 54 [.pointer (some ⟨b, 0, none⟩), .int .i64 id, .int .i64 ticks] noRd [isT b T] (fun _ : Unit => .tuple #[]) (fun _ => True) (fun _ => [isT b (blockS T id ticks)]) := by
 refine FSpec.intro (rs := []) (by kernel_rfl) Tryz.func54 rfl Tryz.ntmps54 (by rfl) rfl ?_
 intro F _
 change TC _ _ _ _ _ _ _ (sepL [_, _])
 refine TC.open 0 rfl (fun x0 hx0 => ?_)
 obtain ⟨qb, a, pb, tb, B, M, ad, cap⟩ := x0
 have hN := hx0
 change TC _ _ _ _ _ _ _ (sepL [_, _, _, _, _, _, _, _])
 dsimp only at hN ⊢
 refine TC.seq ?_
 refine TC.region ?_
 refine wmp rfl rfl ?_
 refine wnc rfl rfl ?_
 refine wfa 0 rfl rfl rfl ?_
 refine wld rfl rfl rfl rfl ?_
 refine wmi rfl rfl ?_
 refine e rfl ?_
 refine bs (cs := [.int _ _]) rfl ?_
 intro b5
 refine e rfl ?_
 refine cl (Rd.drop_ok qb T.S hS (some ⟨b5, 0, none⟩) _ [id] (by simp)) rfl PkL.p ⟨_, RdSI.rd (ad := some ⟨b5, 0, none⟩)⟩ ?_
 intro _ _
 change TL _ _ _ _ _ _ _ _ (sepL [_, _, _, _, _, _, _, _, _])
 refine TL.nil (nt ?_)
 refine TC.seq ?_
 refine TC.region ?_
 refine wmi rfl rfl ?_
 refine q rfl rfl (gtr rfl rfl) ?_
 refine TL.nil (nt ?_)
 refine TC.condD rfl (fun ht => ?_) (fun ht => ?_)
 ·have hv : blockS T id ticks = { T with S := Rd.dropS T.S [id], tn := (setA T.A T.now T.tn id ticks).2.1, A := (setA T.A T.now T.tn id ticks).1 } := if_pos ht
  rw [hv]
  refine TC.region ?_
  refine wmp rfl rfl ?_
  refine wnc rfl rfl ?_
  refine wfa 1 rfl rfl rfl ?_
  refine wld rfl rfl rfl rfl ?_
  refine wmi rfl rfl ?_
  refine wmi rfl rfl ?_
  refine e rfl ?_
  refine cl (Al.set_ok a T.now T.tn T.A (al_bd hb hA) id ticks) rfl PkL.p trivial ?_
  intro _ _
  change TL _ _ _ _ _ _ _ _ (sepL [_, _, _, _, _, _, _, _, _])
  refine TL.nil ?_
  exact Ret.n () [] trivial rfl trivial (ent_close (⟨qb, a, pb, tb, B, M, ad, cap⟩ : TRep) hN (ent_take 3 rfl (ent_take 1 rfl (ent_take 0 rfl (ent_take 1 rfl (ent_take 1 rfl (ent_take 1 rfl (ent_take 1 rfl (ent_take 1 rfl (ent_nil _))))))))))
 ·have hv : blockS T id ticks = { T with S := Rd.dropS T.S [id] } := if_neg ht
  rw [hv]
  refine TC.skip ?_
  exact Ret.n () [] trivial rfl trivial (ent_close (⟨qb, a, pb, tb, B, M, ad, cap⟩ : TRep) hN (ent_take 2 rfl (ent_take 0 rfl (ent_take 1 rfl (ent_take 1 rfl (ent_take 1 rfl (ent_take 1 rfl (ent_take 1 rfl (ent_take 1 rfl (ent_nil _))))))))))
set_option maxRecDepth 4000 in
theorem ttell_ok (b : Nat) (T : TS) (hb : TB T) (why : Int) (av : Option Addr) (cv : Nat) (l : List Int) (hl : ∀ x ∈ l, x ∈ T.m.ids) (hS : T.S.length + l.length ≤ 1000000) (hA : T.A.length ≤ 500000) : FSpec Tryz.prog 43 [.pointer (some ⟨b, 0, none⟩), .int .i64 why, .slice av l.length cv] (fun F => ∃ E, RdS F E av (ints l)) [isT b T] (fun _ : Unit => .tuple #[]) (fun _ => True) (fun _ => [isT b (tellS T why l)]) := by
 refine FSpec.intro (rs := []) (by kernel_rfl) Tryz.func43 rfl Tryz.ntmps43 (by rfl) rfl ?_
 intro F ⟨E, hF⟩
 change TC _ _ _ _ _ _ _ (sepL [_, _])
 haveI : RdSI F av E (ints l) := ⟨hF⟩
 have hxl := ints_length l
 refine TC.seq ?_
 refine TC.region ?_
 refine wms rfl rfl ?_
 refine q rfl rfl (len 3 1 rfl rfl) ?_
 refine wmi rfl rfl ?_
 refine TL.nil (nt ?_)
 refine TC.block ?_
 refine TC.loop (ι := Nat) (fun k => k ≤ l.length) (fun k => [(0, .pointer (some ⟨b, 0, none⟩)), (1, .int .i64 why), (9, .slice av l.length cv), (10, .int .i64 l.length), (11, .int .i64 ((k : Nat) : Int))]) (fun k => sepL [isT b (tellS T why (l.take k)), F]) (fun k => l.length - k) 0 (Nat.zero_le _) ⟨rfl, rfl, rfl, rfl, rfl, trivial⟩ (ent_take 0 rfl (ent_take 0 rfl (ent_nil _))) ?_
 rintro k hk ρ0
 dsimp only [updL] at hk ⊢
 refine TC.seq ?_
 refine TC.region ?_
 refine q rfl rfl (lss rfl rfl) ?_
 refine TL.nil (nt ?_)
 refine TC.seq ?_
 refine TC.condD rfl (fun hlt => ?_) (fun hlt => ?_)
 ·have hlt2 : k < l.length := by omega
  obtain ⟨x, hx⟩ : ∃ x, l[k]? = some x := ⟨l[k], List.getElem?_eq_getElem hlt2⟩
  have hpos : 0 < (ints l).length := by omega
  have hsn := tell_snoc T why l hx
  obtain ⟨e1, e2, e3, e4, e5, e6, e7⟩ := tell_m why (l.take k) T
  have hjt : (l.take k).length ≤ k := by rw [List.length_take]; omega
  obtain ⟨hl1, hl2⟩ := tell_len why (l.take k) T
  have hxi : x ∈ (tellS T why (l.take k)).m.ids := by rw [e1]; exact hl x (List.mem_of_getElem? hx)
  have hnow := hb.now
  have htn := hb.tn
  have htold := hb.told
  rw [← e2] at hnow
  rw [← e3] at htn
  have hzt : (tellS T why (l.take k)).told.length ≤ 200000000 := by omega
  have hzs : (tellS T why (l.take k)).S.length ≤ 1000000 := by omega
  have hza : (tellS T why (l.take k)).A.length ≤ 500000 := by omega
  clear e1 e2 e3 e4 e5 e6 e7 hl1 hl2
  generalize (tellS T why (l.take k)) = Z at hsn hxi hnow htn hzt hzs hza ⊢
  have htl := tgsC_length Z.told
  refine TC.open 0 rfl (fun x0 hx0 => ?_)
  obtain ⟨qb, a, pb, tb, B, M, ad, cap⟩ := x0
  have hN := hx0
  change TC _ _ _ _ _ _ _ (sepL [_, _, _, _, _, _, _, _])
  dsimp only at hN ⊢
  haveI := xP_rd (B := B) (T := Z) (x := x) hxi
  refine TC.skip (nt ?_)
  refine TC.seq ?_
  refine TC.block ?_
  refine TC.seq ?_
  refine TC.region ?_
  refine q rfl rfl (ixS 3 1 rfl rfl rfl (by omega) (by assumption)) ?_
  refine q rfl rfl (ldS rfl rfl (ints_get hx)) ?_
  refine wai rfl rfl ?_
  refine TL.nil (nt ?_)
  refine TC.seq ?_
  refine TC.region ?_
  refine wmp rfl rfl ?_
  refine wnc rfl rfl ?_
  refine wfa 3 rfl rfl rfl ?_
  refine wld rfl rfl rfl rfl ?_
  refine wmi rfl rfl ?_
  refine q rfl rfl (luF 3 75 rfl rfl (KL.int rfl) rfl rfl) ?_
  rw [fM_yes hxi]
  refine wap rfl rfl ?_
  refine TL.nil (nt ?_)
  refine TC.seq ?_
  refine TC.region ?_
  refine wmp rfl rfl ?_
  refine wnc rfl rfl ?_
  refine wfa 1 rfl rfl rfl ?_
  refine wld rfl rfl rfl rfl ?_
  refine wmi rfl rfl ?_
  refine e rfl ?_
  refine bs (cs := [.int _ _]) rfl ?_
  intro b6
  refine e rfl ?_
  refine cl (Al.clear_ok a Z.now Z.tn Z.A (by omega) (some ⟨b6, 0, none⟩) _ [x] (by simp)) rfl PkL.p ⟨_, RdSI.rd (ad := some ⟨b6, 0, none⟩)⟩ ?_
  intro _ _
  change TL _ _ _ _ _ _ _ _ (sepL [_, _, _, _, _, _, _, _, _])
  refine TL.weak (B := sepL [Al.isAl a Z.now Z.tn (clrA Z.A [x]), pts b 84 [.pointer (some ⟨qb, 0, none⟩), .pointer (some ⟨a, 0, none⟩), .pointer (some ⟨pb, 0, none⟩), .map (some tb), .slice ad Z.told.length cap], Rd.isQ qb Z.S, isMa pb M Z.m, mapF QM.encI tb (fM B Z.m.ids) Z.m.ids.length, bigS (xP B Z) Z.m.ids, slc 74 2 ad Z.told.length cap (tgsC Z.told), F]) (ent_take 0 rfl (ent_take 1 rfl (ent_take 1 rfl (ent_take 1 rfl (ent_take 1 rfl (ent_take 1 rfl (ent_take 1 rfl (ent_take 1 rfl (ent_nil _))))))))) ?_
  refine TL.nil (nt ?_)
  refine TC.seq ?_
  refine TC.draw _ [] [(0, false), (1, false), (2, false), (3, false), (4, false), (5, false), (6, false), (7, false), (8, false), (9, false), (10, false), (11, false), (12, false), (13, true)] (by kernel_rfl) (by kernel_rfl) (ent_take 1 rfl (ent_take 4 rfl (ent_nil _))) ?_
  refine vmp rfl rfl rfl ?_
  refine vnc rfl rfl rfl ?_
  refine vfa 0 rfl rfl rfl rfl ?_
  refine vld rfl rfl rfl rfl rfl ?_
  refine vmi rfl rfl rfl ?_
  refine vmp rfl rfl rfl ?_
  refine vnc rfl rfl rfl ?_
  refine vfa 0 rfl rfl rfl rfl ?_
  refine vld rfl rfl rfl rfl rfl ?_
  refine vmp rfl rfl rfl ?_
  refine vnc rfl rfl rfl ?_
  refine vfa 1 rfl rfl rfl rfl ?_
  refine vld rfl rfl rfl rfl rfl ?_
  refine de rfl rfl ?_
  refine cl (Rd.add_ok qb Z.S hzs x (Z.pr x) (Z.sl x)) rfl PkL.p trivial ?_
  intro _ _
  change ent _ _ ∧ TD _ _ _ _ _ _ _ _ _ _ (sepL [_, _, _, _, _, _, _, _])
  refine ⟨(ent_take 2 rfl (ent_take 4 rfl (ent_nil _))), ?_⟩
  refine TD.nil (nt ?_)
  refine TC.region ?_
  refine wmp rfl rfl ?_
  refine wmp rfl rfl ?_
  refine wnc rfl rfl ?_
  refine wfa 4 rfl rfl rfl ?_
  refine wld rfl rfl rfl rfl ?_
  refine wmi rfl rfl ?_
  refine wmi rfl rfl ?_
  refine q rfl rfl (bld (cs := [.int _ _, .int _ _]) rfl) ?_
  refine e rfl ?_
  refine bs (cs := [.int _ _, .int _ _]) rfl ?_
  intro b7
  refine e rfl ?_
  refine ap 16 rfl rfl rfl rfl rfl (Nat.le_of_ble_eq_true rfl) (show _ = tgsC [⟨x, why⟩] from rfl) rfl (by omega) (by simp only [maxLen]; omega) ?_
  intro ad1 cap1
  refine wnc rfl rfl ?_
  refine wfa 4 rfl rfl rfl ?_
  refine e0 ?_
  refine st (v := .slice _ _ _) (vs := [_]) 1 rfl rfl rfl rfl rfl rfl (Nat.le_of_ble_eq_true rfl) rfl ?_
  refine TL.nil (nb (nt ?_))
  refine TC.region ?_
  refine q rfl rfl (addI rfl rfl (by omega) (by omega)) ?_
  refine wmi rfl rfl ?_
  refine TL.nil (nt ?_)
  exact ⟨rfl, (k + 1), (by omega), (by omega), ⟨rfl, rfl, rfl, rfl, rfl, trivial⟩, (by rw [hsn]; exact (ent_close (⟨qb, a, pb, tb, B, M, ad1, cap1⟩ : TRep) hN (ent_takeE 0 rfl (by dsimp only [tell1]; rw [List.length_append]; rfl) (by (repeat (first | refine ent_take 0 rfl ?_ | refine ent_take 1 rfl ?_ | refine ent_take 2 rfl ?_ | refine ent_take 3 rfl ?_ | refine ent_take 4 rfl ?_ | refine ent_take 5 rfl ?_ | refine ent_take 6 rfl ?_ | refine ent_take 7 rfl ?_ | refine ent_take 8 rfl ?_ | refine ent_take 9 rfl ?_)); refine ent_takeE 0 rfl (by dsimp only [tell1]; rw [List.length_append, tgs_app]; rfl) ?_; exact (ent_take 1 rfl (ent_nil _))))))⟩
 ·obtain rfl : k = l.length := by omega
  rw [List.take_length]
  refine TC.exit (et (et (eb ?_)))
  exact Ret.n () [] trivial rfl trivial (ent_take 0 rfl (ent_take 0 rfl (ent_nil _)))
end Go.Proofs.YtdfmfhcjnjfjbaaGreat
namespace Go.Proofs.YtdfmfhcjnjfjbaaGreat
open Go Go.QM
open Al (En hasA Nd clrA setA offA dueA restA leftA ids)
open Rd (hasS NdS addS RInv topS runS tickS yieldS rndS)
theorem off_ids (s : MS) (to : Int) (o : Off) : (offS s to o).1.ids = s.ids := by rw [offS]; (repeat' split) <;> rfl
theorem open_ids (s : MS) (id : Int) : (openS s id).1.ids = s.ids := by rw [openS]; (repeat' split) <;> rfl
theorem take_ids (s : MS) (to : Int) : (takeS s to).1.ids = s.ids := by
  rw [takeS]; split
  · rfl
  · split
    · rfl
    · split
      · rfl
      · split
        · dsimp only; split <;> rfl
        · rfl
theorem ans_ids (s : MS) (id : Int) : (ansS s id).1.ids = s.ids := by rw [ansS]; (repeat' split) <;> rfl
theorem call_ids (s : MS) (id : Int) : (callS s id).1.ids = s.ids := by
  by_cases h : id ∈ s.ids
  · exact (call_st s id h).2
  · rw [callS, if_pos h]
theorem call_ne (s : MS) (id : Int) {x : Int} (hx : x ≠ id) : (callS s id).1.st x = s.st x := by
  rw [callS]; split
  · rfl
  · split
    · rfl
    · split
      · exact updI_ne hx
      · split
        · exact updI_ne hx
        · exact updI_ne hx
theorem leave_ids {s : MS} {id : Int} (h : id ∈ s.ids) : (leaveS s id).1.ids = s.ids.filter fun y => decide (y ≠ id) := by
  rw [leaveS, if_neg (fun h2 => h2 h)]
  show ((callS s id).1.ids.filter _) = _
  rw [call_ids]
theorem leave_gone {s : MS} (hW : WM s) {id : Int} (h : id ∈ s.ids) {x : Int} (hx : x ∈ (leaveS s id).2.1) : x ∈ s.ids ∧ x ≠ id ∧ s.st x ≠ 0 ∧ (leaveS s id).1.st x = 0 := by
  rw [leaveS, if_neg (fun h2 => h2 h)] at hx ⊢
  have hx : x ∈ goneL (callS s id).1 id := hx
  have hi : id ∈ (callS s id).1.ids := by rw [call_ids]; exact h
  obtain ⟨h1, h2, h3, h4⟩ := gone_mem (hW.call id) hi hx
  rw [call_ids] at h1
  rw [call_ne s id h2] at h4
  refine ⟨h1, h2, by omega, ?_⟩
  show (if x ∈ goneL (callS s id).1 id then (0 : Int) else _) = 0
  rw [if_pos hx]
theorem leave_nd {s : MS} (hW : WM s) {id : Int} (h : id ∈ s.ids) : (leaveS s id).2.1.Nodup := by
  rw [leaveS, if_neg (fun h2 => h2 h)]
  show (goneL (callS s id).1 id).Nodup
  have hi : id ∈ (callS s id).1.ids := by rw [call_ids]; exact h
  have hZ := hW.call id
  generalize (callS s id).1 = Z at hi hZ ⊢
  rw [goneL]
  split
  · rename_i hc
    refine List.nodup_append.2 ⟨hZ.nr id hi, by simp, fun a ha c hc2 e => ?_⟩
    rw [List.mem_singleton] at hc2
    obtain ⟨o, ho, rfl⟩ := List.mem_map.1 ha
    have h1 := hZ.row id hi o ho
    have h2 := hZ.cal id hi hc
    rw [e, hc2] at h1; omega
  · rw [List.append_nil]; exact hZ.nr id hi
theorem leave_st {s : MS} {id : Int} (h : id ∈ s.ids) {x : Int} (hx : x ∉ (leaveS s id).2.1) (hne : x ≠ id) : (leaveS s id).1.st x = s.st x := by
  rw [leaveS, if_neg (fun h2 => h2 h)] at hx ⊢
  have hx : x ∉ goneL (callS s id).1 id := hx
  show (if x ∈ goneL (callS s id).1 id then (0 : Int) else (callS s id).1.st x) = _
  rw [if_neg hx, call_ne s id hne]
theorem close_nd {s : MS} (hW : WM s) (g : Int) : (closeS s g).2.Nodup := by
  show (goneC s g (sortI s.ids)).Nodup
  have hn : (sortI s.ids).Nodup := (sortI_perm _).nodup_iff.2 hW.nd
  have hs : ∀ x ∈ sortI s.ids, x ∈ s.ids := fun x hx => sortI_mem.1 hx
  generalize sortI s.ids = D at hn hs
  induction D with
  | nil => exact List.nodup_nil
  | cons x D ih =>
    obtain ⟨h1, h2⟩ := List.nodup_cons.1 hn
    rw [show goneC s g (x :: D) = goneO (s.row x) (thru g) ++ goneC s g D by rw [goneC, goneC, List.flatMap_cons]]
    refine List.nodup_append.2 ⟨(hW.nr x (hs x (by simp))).sublist (List.filter_sublist.map _), ih h2 fun y hy => hs y (by simp [hy]), fun a ha c hc e => ?_⟩
    obtain ⟨o, ho, rfl⟩ := List.mem_map.1 ha
    obtain ⟨y, hy, u, hu, _, h3⟩ := goneC_mem.1 hc
    have := hW.one (hs x (by simp)) (hs y (by simp [hy])) (List.mem_filter.1 ho).1 hu (by rw [h3]; exact e)
    exact h1 (this.1 ▸ hy)
theorem close_st (s : MS) (g : Int) (x : Int) : (closeS s g).1.st x = if x ∈ (closeS s g).2 then 0 else s.st x := rfl
theorem TP.block {T : TS} (h : TP T []) {m : MS} (hW : WM m) (hi : m.ids = T.m.ids) {x : Int} (hx : x ∈ T.m.ids) (hs : stT T x = 0) (h1 : m.st x ≠ 0) (hn : ∀ y, y ≠ x → m.st y = T.m.st y) {ticks : Int} (ht : ¬ badT ticks) : TP (blockS (mS T m) x ticks) [] := by
  obtain ⟨hon, h0⟩ : T.on x = true ∧ T.m.st x = 0 := by
    rw [stT, if_pos hx] at hs
    split at hs
    · exact ⟨‹_›, hs⟩
    · cases hs
  have hna : ¬ hasA T.A x := fun h2 => ((h.al x h2).2.resolve_right List.not_mem_nil) h0
  have hge := h.wm.ge x hx
  have key : ∀ A tn, Nd A → (∀ y, hasA A y → hasA T.A y ∨ y = x) → (∀ e ∈ A, T.now < e.at_ ∧ e.at_ ≤ T.now + 1048576) → TP { T with S := Rd.dropS T.S [x], tn := tn, A := A, m := m } [] := fun A tn a1 a2 a3 => by
    refine ⟨hW, h.rj.sub (Rd.dropS_sub _ _), fun t ht => h.lf t ((Rd.dropS_sub _ _).subset ht), fun t ht => h.sp t ((Rd.dropS_sub _ _).subset ht), fun y => ?_, a1, fun y hy => ?_, fun y hy hs2 => ?_, fun y hy => h.ps y (hi ▸ hy), a3, fun y hy => (List.not_mem_nil hy).elim, List.nodup_nil⟩
    · show hasS (Rd.dropS T.S [x]) y ↔ (y ∈ m.ids ∧ T.on y = true ∧ m.st y = 0) ∧ y ∉ []
      rw [drop_has, h.rdy, hi, List.mem_singleton]
      constructor
      · rintro ⟨⟨⟨b1, b2, b3⟩, _⟩, b4⟩
        exact ⟨⟨b1, b2, by rw [hn y b4]; exact b3⟩, List.not_mem_nil⟩
      · rintro ⟨⟨b1, b2, b3⟩, _⟩
        have b4 : y ≠ x := fun e => h1 (e ▸ b3)
        exact ⟨⟨⟨b1, b2, by rw [← hn y b4]; exact b3⟩, List.not_mem_nil⟩, b4⟩
    · show y ∈ m.ids ∧ (m.st y ≠ 0 ∨ y ∈ [])
      rw [hi]
      by_cases e : y = x
      · rw [e]; exact ⟨hx, .inl h1⟩
      · have h2 := h.al y ((a2 y hy).resolve_right e)
        exact ⟨h2.1, .inl (by rw [hn y e]; exact h2.2.resolve_right List.not_mem_nil)⟩
    · have hy : y ∈ m.ids := hy
      have hs2 : m.st y ≠ 0 := hs2
      show T.on y = true
      by_cases e : y = x
      · rw [e]; exact hon
      · rw [hn y e] at hs2; exact h.off y (hi ▸ hy) hs2
  rw [blockS]
  split
  · rename_i hp
    have hse : setA T.A T.now T.tn x ticks = (T.A ++ [⟨T.now + ticks, T.tn + 1, x⟩], T.tn + 1, 0) := by
      rw [badT] at ht
      rw [setA, if_neg (by omega), if_neg hna]
    show TP { T with S := Rd.dropS T.S [x], tn := (setA T.A T.now T.tn x ticks).2.1, A := (setA T.A T.now T.tn x ticks).1, m := m } []
    rw [hse]
    refine key _ _ ?_ (fun y hy => ?_) fun e he => ?_
    · exact Al.snoc_nd (e := (⟨T.now + ticks, T.tn + 1, x⟩ : En)) h.na (fun a ha e => hna ⟨a, ha, e⟩)
    · obtain ⟨e, he, rfl⟩ := hy
      rcases List.mem_append.1 he with he | he
      · exact .inl ⟨e, he, rfl⟩
      · rw [List.mem_singleton.1 he]; exact .inr rfl
    · rcases List.mem_append.1 he with he | he
      · exact h.tm e he
      · rw [badT] at ht; rw [List.mem_singleton.1 he]; dsimp only; omega
  · exact key _ _ h.na (fun y hy => .inl hy) h.tm
theorem st_on {T : TS} {x : Int} (hs : stT T x = 0) : x ∈ T.m.ids ∧ T.on x = true ∧ T.m.st x = 0 := by
  rw [stT] at hs
  split at hs
  · split at hs
    · exact ⟨‹_›, ‹_›, hs⟩
    · cases hs
  · cases hs
theorem TP.send {T : TS} (h : TP T []) (fr to gt : Int) (cl : Bool) (ticks : Int) : TP (sendS T fr to gt cl ticks).1 [] := by
  rw [sendS]
  split
  · exact h
  · rename_i h1
    split
    · exact h
    · rename_i h2
      split
      · exact h
      · rename_i h3
        have hf : fr ∈ T.m.ids := Decidable.not_not.1 fun h4 => h1 (.inl h4)
        have ht : to ∈ T.m.ids := Decidable.not_not.1 fun h4 => h1 (.inr h4)
        have h3 := Decidable.not_not.1 h3
        have hs := (st_on h3).2.2
        have ho : offS T.m to ⟨fr, gt, cl⟩ = (pushS (wtS T.m fr 1 to) to ⟨fr, gt, cl⟩, 0) := by
          rw [offS, if_neg (fun h4 => h4.elim (fun h5 => h5 ht) (fun h5 => h5 hf)), if_neg (fun h4 => h2 (.inl h4)), if_neg (fun h4 => h4 hs)]
        refine TP.block h (h.wm.offer to ⟨fr, gt, cl⟩) (off_ids _ _ _) hf h3 ?_ (fun y hy => ?_) (fun h4 => h2 (.inr h4))
        · rw [ho]; show updI T.m.st fr 1 fr ≠ 0
          rw [updI_same]; decide
        · rw [ho]; exact updI_ne hy
theorem TP.wait {T : TS} (h : TP T []) (id ticks : Int) : TP (waitS T id ticks).1 [] := by
  rw [waitS]
  split
  · exact h
  · rename_i h1
    split
    · exact h
    · rename_i h2
      split
      · exact h
      · rename_i h3
        split
        · exact h
        · rename_i h4
          have h1 := Decidable.not_not.1 h1
          have h3 := Decidable.not_not.1 h3
          have hs := (st_on h3).2.2
          have h4 := Decidable.not_not.1 h4
          have ho : (openS T.m id).1 = stS T.m id 2 := by
            rw [openS, if_neg (fun h5 => h5 h1)] at h4 ⊢
            split at h4
            · cases h4
            · rename_i h5; rw [if_neg h5]
          refine TP.block h (h.wm.opens id) (open_ids _ _) h1 h3 ?_ (fun y hy => ?_) h2
          · rw [ho]; show updI T.m.st id 2 id ≠ 0
            rw [updI_same]; decide
          · rw [ho]; exact updI_ne hy
theorem TP.callM {T : TS} (h : TP T []) {id : Int} (hi : id ∈ T.m.ids) (hs : T.m.st id ≠ 0) : TP (mS T (callS T.m id).1) [id] :=
  h.meet (h.wm.call id) (call_ids _ _) [id] (fun x hx => by rw [List.mem_singleton.1 hx]; exact ⟨hi, hs, (call_st _ _ hi).1⟩) (fun x hx hn => by rw [call_ne _ _ (fun e => hn (by simp [e]))]) (by simp)
theorem TP.wake {T : TS} (h : TP T []) (why id : Int) : TP (wakeS T why id).1 [] := by
  rw [wakeS]
  split
  · exact h
  · rename_i h1
    split
    · exact h
    · rename_i h2
      have h1 := Decidable.not_not.1 h1
      refine TP.tells (L := [id]) (M := []) why (h.callM h1 fun h3 => h2 ?_)
      rw [stT, if_pos h1]
      split
      · exact .inl h3
      · exact .inr rfl
theorem TP.refuse {T : TS} (h : TP T []) (id why : Int) : TP (refuseS T id why).1 [] := by
  rw [refuseS]
  split
  · exact h
  · rename_i h1
    have h1 := Decidable.not_not.1 h1
    split
    · exact h
    · rename_i o r hr
      have ho := h.wm.row id h1 o (by rw [hr]; simp)
      exact TP.tells (L := [o.fr]) (M := []) why (h.callM ho.1 (by omega))
theorem TP.answer {T : TS} (h : TP T []) (id : Int) : TP (answerS T id).1 [] := by
  rw [answerS]
  split
  · exact h
  · rename_i h1
    split
    · exact h
    · rename_i h2
      split
      · rename_i h3
        have h1 := Decidable.not_not.1 h1
        have h2 := Decidable.not_not.1 h2
        have hs := (st_on h2).2.2
        have hc : T.m.cl id ≠ -1 := fun hc => by rw [ansS, if_neg (fun h5 => h5 h1), if_neg (fun h5 => h5 hs), if_pos hc] at h3; cases h3
        have ha : ansS T.m id = (frS (clS T.m id (-1)) (T.m.cl id), T.m.cl id, 0) := by rw [ansS, if_neg (fun h5 => h5 h1), if_neg (fun h5 => h5 hs), if_neg hc]
        have hcl := h.wm.cal id h1 hc
        refine TP.tells (L := [(ansS T.m id).2.1]) (M := []) 0 (h.meet (h.wm.answer id) (ans_ids _ _) [(ansS T.m id).2.1] (fun x hx => ?_) (fun x hx hn => ?_) (by simp))
        · rw [List.mem_singleton.1 hx, ha]
          exact ⟨hcl.1, by dsimp only; omega, updI_same _ _ _⟩
        · rw [ha] at hn ⊢
          show updI T.m.st (T.m.cl id) 0 x = 0 ↔ _
          rw [updI_ne (fun e => hn (by simp [e]))]
      · exact h
theorem TP.close {T : TS} (h : TP T []) (g : Int) : TP (closeT T g).1 [] := by
  rw [closeT]
  refine TP.tells (L := (closeS T.m g).2) (M := []) 13 ?_
  rw [List.append_nil]
  refine h.meet (h.wm.close g) rfl _ (fun x hx => ?_) (fun x hx hn => ?_) (close_nd h.wm g)
  · have := gone_in h.wm hx
    exact ⟨this.1, by omega, by rw [close_st, if_pos hx]⟩
  · rw [close_st, if_neg hn]
theorem TP.out {T : TS} (h : TP T []) {id : Int} (hi : id ∈ T.m.ids) : TP (outS T id) (leaveS T.m id).2.1 := by
  have hW := h.wm.leave id
  have hids := leave_ids hi
  have hm : ∀ y, y ∈ (leaveS T.m id).1.ids ↔ y ∈ T.m.ids ∧ y ≠ id := fun y => by rw [hids]; simp
  have hg := fun x (hx : x ∈ (leaveS T.m id).2.1) => leave_gone h.wm hi hx
  refine ⟨hW, h.rj.sub (Rd.dropS_sub _ _), fun t ht => h.lf t ((Rd.dropS_sub _ _).subset ht), fun t ht => h.sp t ((Rd.dropS_sub _ _).subset ht), fun y => ?_, clr_Nd h.na _, fun y hy => ?_, fun y hy hs => ?_, fun y hy => h.ps y ((hm y).1 hy).1, fun e he => h.tm e (clr_mem he), fun x hx => ?_, leave_nd h.wm hi⟩
  · show hasS (Rd.dropS T.S [id]) y ↔ (y ∈ (leaveS T.m id).1.ids ∧ T.on y = true ∧ (leaveS T.m id).1.st y = 0) ∧ y ∉ (leaveS T.m id).2.1
    rw [drop_has, h.rdy, hm, List.mem_singleton]
    constructor
    · rintro ⟨⟨⟨b1, b2, b3⟩, _⟩, b4⟩
      have b5 : y ∉ (leaveS T.m id).2.1 := fun b5 => (hg y b5).2.2.1 b3
      exact ⟨⟨⟨b1, b4⟩, b2, by rw [leave_st hi b5 b4]; exact b3⟩, b5⟩
    · rintro ⟨⟨⟨b1, b4⟩, b2, b3⟩, b5⟩
      exact ⟨⟨⟨b1, b2, by rw [← leave_st hi b5 b4]; exact b3⟩, List.not_mem_nil⟩, b4⟩
  · obtain ⟨h1, h2⟩ := clr_has.1 hy
    have h2 : y ≠ id := by simpa using h2
    obtain ⟨h3, h4⟩ := h.al y h1
    refine ⟨(hm y).2 ⟨h3, h2⟩, ?_⟩
    by_cases h5 : y ∈ (leaveS T.m id).2.1
    · exact .inr h5
    · exact .inl (by show (leaveS T.m id).1.st y ≠ 0; rw [leave_st hi h5 h2]; exact h4.resolve_right List.not_mem_nil)
  · have hy := (hm y).1 hy
    have hs : (leaveS T.m id).1.st y ≠ 0 := hs
    by_cases h5 : y ∈ (leaveS T.m id).2.1
    · exact absurd (hg y h5).2.2.2 hs
    · rw [leave_st hi h5 hy.2] at hs; exact h.off y hy.1 hs
  · obtain ⟨h1, h2, h3, h4⟩ := hg x hx
    exact ⟨(hm x).2 ⟨h1, h2⟩, h.off x h1 h3, h4⟩
theorem TP.remove {T : TS} (h : TP T []) (id : Int) : TP (removeS T id).1 [] := by
  rw [removeS]
  split
  · exact h
  · rename_i h1
    refine TP.tells (L := (leaveS T.m id).2.1) (M := []) 13 ?_
    rw [List.append_nil]
    exact h.out (Decidable.not_not.1 h1)
theorem take_form {s : MS} (hW : WM s) {id : Int} (hi : id ∈ s.ids) (he : (takeS s id).2.2.2 = 0) : ∃ o r, s.row id = o :: r ∧ (takeS s id).2.1 = o ∧ o.fr ∈ s.ids ∧ o.fr ≠ id ∧ s.st o.fr = 1 ∧ (takeS s id).1.st id = 0 ∧
    ((o.cl = false ∧ (takeS s id).2.2.1 = -1 ∧ (takeS s id).1.st o.fr = 0 ∧ ∀ x, x ≠ id → x ≠ o.fr → (takeS s id).1.st x = s.st x) ∨
     (o.cl = true ∧ (takeS s id).2.2.1 = s.cl id ∧ (takeS s id).1.st o.fr = 3 ∧ (s.cl id ≠ -1 → s.cl id ∈ s.ids ∧ s.cl id ≠ id ∧ s.cl id ≠ o.fr ∧ s.st (s.cl id) = 3 ∧ (takeS s id).1.st (s.cl id) = 0) ∧ ∀ x, x ≠ id → x ≠ o.fr → x ≠ s.cl id → (takeS s id).1.st x = s.st x)) := by
  rw [takeS, if_neg (fun h => h hi)] at he ⊢
  split at he
  · cases he
  · rename_i hs
    rw [if_neg hs]
    cases hr : s.row id with
    | nil => rw [hr] at he; cases he
    | cons o r =>
      obtain ⟨h1, h2, h3, h4⟩ := hW.row id hi o (by rw [hr]; simp)
      refine ⟨o, r, rfl, ?_⟩
      dsimp only
      cases hc : o.cl with
      | false =>
        rw [if_neg (by simp)]
        refine ⟨rfl, h1, h2, h3, ?_, .inl ⟨rfl, rfl, updI_same _ _ _, fun x hx hy => ?_⟩⟩
        · show updI (updI s.st id 0) o.fr 0 id = 0
          rw [updI_ne (Ne.symm h2), updI_same]
        · show updI (updI s.st id 0) o.fr 0 x = _
          rw [updI_ne hy, updI_ne hx]
      | true =>
        rw [if_pos rfl]
        have hcl : s.cl id ≠ -1 → s.cl id ∈ s.ids ∧ s.cl id ≠ id ∧ s.cl id ≠ o.fr ∧ s.st (s.cl id) = 3 := fun hn => by
          obtain ⟨c1, c2, c3, c4⟩ := hW.cal id hi hn
          exact ⟨c1, c2, fun e => by rw [e] at c3; omega, c3⟩
        by_cases hn : s.cl id = -1
        · refine ⟨?_, h1, h2, h3, ?_, .inr ⟨rfl, ?_, ?_, fun h => absurd hn h, fun x hx hy hz => ?_⟩⟩
          all_goals (first | (split <;> rfl) | skip)
          · first | (rw [if_neg (fun h => h hn)]) | skip
            show updI (updI (updI s.st id 0) o.fr 0) o.fr 3 id = 0
            rw [updI_ne (Ne.symm h2), updI_ne (Ne.symm h2), updI_same]
          · first | (rw [if_neg (fun h => h hn)]) | skip
            exact updI_same _ _ _
          · first | (rw [if_neg (fun h => h hn)]) | skip
            show updI (updI (updI s.st id 0) o.fr 0) o.fr 3 x = _
            rw [updI_ne hy, updI_ne hy, updI_ne hx]
        · obtain ⟨c1, c2, c3, c4⟩ := hcl hn
          refine ⟨?_, h1, h2, h3, ?_, .inr ⟨rfl, ?_, ?_, fun _ => ⟨c1, c2, c3, c4, ?_⟩, fun x hx hy hz => ?_⟩⟩
          all_goals (first | (split <;> rfl) | skip)
          · first | (rw [if_pos hn]) | skip
            show updI (updI (updI (updI s.st id 0) o.fr 0) (s.cl id) 0) o.fr 3 id = 0
            rw [updI_ne (Ne.symm h2), updI_ne (Ne.symm c2), updI_ne (Ne.symm h2), updI_same]
          · first | (rw [if_pos hn]) | skip
            exact updI_same _ _ _
          · first | (rw [if_pos hn]) | skip
            show updI (updI (updI (updI s.st id 0) o.fr 0) (s.cl id) 0) o.fr 3 (s.cl id) = 0
            rw [updI_ne c3, updI_same]
          · first | (rw [if_pos hn]) | skip
            show updI (updI (updI (updI s.st id 0) o.fr 0) (s.cl id) 0) o.fr 3 x = _
            rw [updI_ne hy, updI_ne hz, updI_ne hy, updI_ne hx]
theorem TP.take {T : TS} (h : TP T []) (id : Int) : TP (takeT T id).1 [] := by
  rw [takeT]
  split
  · exact h
  · rename_i h1
    split
    · exact h
    · rename_i h2
      split
      · exact h
      · rename_i h3
        have h1 := Decidable.not_not.1 h1
        have h3 := Decidable.not_not.1 h3
        obtain ⟨o, r, hr, ho, f1, f2, f3, f4, f5⟩ := take_form h.wm h1 h3
        have hW := h.wm.take id
        have hids := take_ids T.m id
        have hst : stT T id = T.m.st id := by
          rw [stT, if_pos h1]
          split
          · rfl
          · rename_i h4; exfalso; apply h2; rw [stT, if_pos h1, if_neg h4]; decide
        have hs02 : T.m.st id = 0 ∨ T.m.st id = 2 := by rw [hst] at h2; omega
        dsimp only
        rw [ho, takeT1]
        have go : ∀ (L1 L2 : List Int), TP (mS T (takeS T.m id).1) (L1 ++ (L2 ++ (if T.m.st id = 2 then [id] else []))) → TP (let T2 := tellS (tellS (mS T (takeS T.m id).1) 0 L1) 13 L2; if stT T id = 2 then tellS T2 0 [id] else T2) [] := fun L1 L2 hh => by
          have h5 := TP.tells 0 hh
          have h6 := TP.tells 13 h5
          rw [hst]
          dsimp only
          split
          · rename_i e; rw [if_pos e] at h6; exact TP.tells (L := [id]) (M := []) 0 h6
          · rename_i e; rw [if_neg e] at h6; exact h6
        rcases f5 with ⟨g1, g2, g3, g4⟩ | ⟨g1, g2, g3, g5, g4⟩
        · rw [if_neg (show ¬ (o.cl = true) by rw [g1]; decide), g2, if_pos (show (-1 : Int) = -1 from rfl)]
          have := go [o.fr] [] ?_
          · exact this
          refine h.meet hW hids _ (fun x hx => ?_) (fun x hx hn => ?_) ?_
          · simp only [List.nil_append, List.cons_append, List.mem_cons] at hx
            rcases hx with rfl | hx
            · exact ⟨f1, by omega, g3⟩
            · split at hx
              · rename_i e; rw [List.mem_singleton.1 hx]; exact ⟨h1, by omega, f4⟩
              · cases hx
          · simp only [List.nil_append, List.cons_append, List.mem_cons, not_or] at hn
            by_cases e : x = id
            · subst e
              have : T.m.st x = 0 := hs02.resolve_right fun e => hn.2 (by rw [if_pos e]; simp)
              rw [f4, this]
            · rw [g4 x e hn.1]
          · rw [List.nil_append, List.singleton_append, List.nodup_cons]
            split
            · exact ⟨by simpa using f2, by simp⟩
            · simp
        · rw [if_pos g1, g2]
          have hno : ∀ x, x ∈ T.m.ids → x ≠ o.fr → x ≠ id → x ≠ T.m.cl id → ((takeS T.m id).1.st x = 0 ↔ T.m.st x = 0) := fun x hx a c d => by rw [g4 x c a d]
          have hfo : (takeS T.m id).1.st o.fr = 0 ↔ T.m.st o.fr = 0 := by rw [g3, f3]; decide
          by_cases hc : T.m.cl id = -1
          · rw [if_pos hc]
            have := go [] [] ?_
            · exact this
            refine h.meet hW hids _ (fun x hx => ?_) (fun x hx hn => ?_) ?_
            · simp only [List.nil_append] at hx
              split at hx
              · rename_i e; rw [List.mem_singleton.1 hx]; exact ⟨h1, by omega, f4⟩
              · cases hx
            · simp only [List.nil_append] at hn
              by_cases e : x = id
              · subst e
                have : T.m.st x = 0 := hs02.resolve_right fun e => hn (by rw [if_pos e]; simp)
                rw [f4, this]
              · by_cases e2 : x = o.fr
                · rw [e2]; exact hfo
                · exact hno x hx e2 e (fun e3 => by have := h.wm.ge x hx; omega)
            · rw [List.nil_append, List.nil_append]; split <;> simp
          · rw [if_neg hc]
            obtain ⟨c1, c2, c3, c4, c5⟩ := g5 hc
            have := go [] [T.m.cl id] ?_
            · exact this
            refine h.meet hW hids _ (fun x hx => ?_) (fun x hx hn => ?_) ?_
            · simp only [List.nil_append, List.cons_append, List.mem_cons] at hx
              rcases hx with rfl | hx
              · exact ⟨c1, by omega, c5⟩
              · split at hx
                · rename_i e; rw [List.mem_singleton.1 hx]; exact ⟨h1, by omega, f4⟩
                · cases hx
            · simp only [List.nil_append, List.cons_append, List.mem_cons, not_or] at hn
              by_cases e : x = id
              · subst e
                have : T.m.st x = 0 := hs02.resolve_right fun e => hn.2 (by rw [if_pos e]; simp)
                rw [f4, this]
              · by_cases e2 : x = o.fr
                · rw [e2]; exact hfo
                · exact hno x hx e2 e hn.1
            · rw [List.nil_append, List.singleton_append, List.nodup_cons]
              split
              · exact ⟨by simpa using c2, by simp⟩
              · simp
end Go.Proofs.YtdfmfhcjnjfjbaaGreat
namespace Go.Proofs.YtdfmfhcjnjfjbaaGreat
open Go Go.QM
open Al (En hasA Nd clrA setA offA dueA restA leftA ids)
open Rd (hasS NdS addS RInv topS runS tickS yieldS rndS)
theorem TP.bds {T : TS} {L : List Int} (h : TP T L) (hb : TB T) : T.S.length ≤ 1000 ∧ T.A.length ≤ 1000 ∧ L.length ≤ 1000 ∧ T.m.ids.length ≤ 1000 := by
  have h1 := h.lenS; have h2 := h.lenA; have h3 := h.lenL; have h4 := hb.ids; omega
theorem fM_drop {B : Int → Nat} {D : List Int} {id : Int} : fM B (D.filter fun y => decide (y ≠ id)) = delF (fM B D) id := by
  funext y
  simp only [fM, delF]
  by_cases e2 : y = id
  · rw [if_pos e2, if_neg (by simp [e2])]
  · rw [if_neg e2]
    by_cases h3 : y ∈ D
    · rw [if_pos h3, if_pos (by simp [h3, e2])]
    · rw [if_neg h3, if_neg (by simp [h3])]
theorem TB.tells {T : TS} (h : TB T) (why : Int) (l : List Int) (hl : T.told.length + l.length ≤ 100000000) : TB (tellS T why l) := by
  obtain ⟨e1, e2, e3, e4, e5, e6, e7⟩ := tell_m why l T
  exact ⟨by rw [e1]; exact h.ids, by rw [e2]; exact h.now, by rw [e3]; exact h.tn, by omega⟩
set_option maxRecDepth 4000 in
theorem tstart_ok (b : Nat) (T : TS) (hP : TP T []) (hb : TB T) (id pr sl : Int) : FSpec Tryz.prog 10 [.pointer (some ⟨b, 0, none⟩), .int .i64 id, .int .i64 pr, .int .i64 sl] noRd [isT b T] (fun _ : Unit => .int .i64 (startS T id pr sl).2) (fun _ => True) (fun _ => [isT b (startS T id pr sl).1]) := by
 refine FSpec.intro (rs := [.tmp 8]) (by kernel_rfl) Tryz.func10 rfl Tryz.ntmps10 (by rfl) rfl ?_
 intro F _
 change TC _ _ _ _ _ _ _ (sepL [_, _])
 obtain ⟨hSl, hAl, _, hil⟩ := hP.bds hb
 have hW := hP.wm
 have hnow := hb.now
 have htn := hb.tn
 have htold := hb.told
 refine TC.open 0 rfl (fun x0 hx0 => ?_)
 obtain ⟨qb, a, pb, tb, B, M, ad, cap⟩ := x0
 have hN := hx0
 change TC _ _ _ _ _ _ _ (sepL [_, _, _, _, _, _, _, _])
 dsimp only at hN ⊢
 by_cases h : id ∈ T.m.ids
 ·haveI := xP_rd (B := B) (T := T) (x := id) h
  have hh : ¬ id ∉ T.m.ids := fun h2 => h2 h
  refine TC.seq ?_
  refine TC.region ?_
  refine wai rfl rfl ?_
  refine TL.nil (nt ?_)
  refine TC.seq ?_
  refine TC.region ?_
  refine wmp rfl rfl ?_
  refine wmi rfl rfl ?_
  refine e rfl ?_
  refine cl (tat_yes b tb T.m.ids.length B T.m.ids id h (.pointer (some ⟨qb, 0, none⟩)) (.pointer (some ⟨a, 0, none⟩)) (.pointer (some ⟨pb, 0, none⟩)) (.slice ad T.told.length cap)) rfl PkL.p trivial ?_
  intro _ _
  change TL _ _ _ _ _ _ _ _ (sepL [_, _, _, _, _, _, _, _])
  refine wmt rfl rfl ?_
  refine q rfl rfl (pu (v := .pointer _) (fun _ => rfl)) ?_
  refine q rfl rfl (pu (v := .int _ _) (fun _ => rfl)) ?_
  refine wap rfl rfl ?_
  refine wai rfl rfl ?_
  refine TL.nil (nt ?_)
  refine TC.seq ?_
  refine TC.block ?_
  refine TC.seq ?_
  refine TC.region ?_
  refine wmi rfl rfl ?_
  refine q rfl rfl (neI rfl rfl) ?_
  refine wab rfl rfl ?_
  refine TL.nil (nt ?_)
  refine TC.condF rfl ?_
  refine TC.seq ?_
  refine TC.region ?_
  refine wmi rfl rfl ?_
  refine q rfl rfl (lss rfl rfl) ?_
  refine wmb rfl rfl ?_
  refine TL.split 24 rfl (fun g1 => ?_) (fun g1 => ?_)
  ·have g1 := of_decide_eq_true g1
   refine qs rfl rfl ?_
   refine qs rfl rfl ?_
   refine q rfl rfl (pkT (v := .bool _) rfl rfl) ?_
   refine wmb rfl rfl ?_
   refine qs rfl rfl ?_
   refine qs rfl rfl ?_
   refine q rfl rfl (pkT (v := .bool _) rfl rfl) ?_
   refine wmb rfl rfl ?_
   refine qs rfl rfl ?_
   refine qs rfl rfl ?_
   refine q rfl rfl (pkT (v := .bool _) rfl rfl) ?_
   refine wab rfl rfl ?_
   refine TL.nil (nt ?_)
   refine TC.condT rfl ?_
   have hv : startS T id pr sl = (T, 1) := by rw [startS, if_neg hh, if_pos (by omega)]
   rw [hv]
   refine TC.seq ?_
   refine TC.region ?_
   refine wai rfl rfl ?_
   refine TL.nil (nt ?_)
   refine TC.ret (rb (rt ?_))
   exact Ret.i () [_] ⟨rfl, trivial⟩ rfl trivial (ent_close (⟨qb, a, pb, tb, B, M, ad, cap⟩ : TRep) hN (ent_take 0 rfl (ent_take 1 rfl (ent_take 1 rfl (ent_take 1 rfl (ent_take 0 rfl (ent_take 0 rfl (ent_take 0 rfl (ent_take 0 rfl (ent_nil _))))))))))
  ·have g1 := of_decide_eq_false g1
   refine qg rfl rfl rfl (mv (v := .int _ _) rfl) ?_
   refine qg rfl rfl rfl (gtr rfl rfl) ?_
   refine q rfl rfl (pkF (v := .bool _) rfl rfl) ?_
   refine wmb rfl rfl ?_
   refine TL.split 28 rfl (fun g2 => ?_) (fun g2 => ?_)
   ·have g2 := of_decide_eq_true g2
    refine qs rfl rfl ?_
    refine qs rfl rfl ?_
    refine q rfl rfl (pkT (v := .bool _) rfl rfl) ?_
    refine wmb rfl rfl ?_
    refine qs rfl rfl ?_
    refine qs rfl rfl ?_
    refine q rfl rfl (pkT (v := .bool _) rfl rfl) ?_
    refine wab rfl rfl ?_
    refine TL.nil (nt ?_)
    refine TC.condT rfl ?_
    have hv : startS T id pr sl = (T, 1) := by rw [startS, if_neg hh, if_pos (by omega)]
    rw [hv]
    refine TC.seq ?_
    refine TC.region ?_
    refine wai rfl rfl ?_
    refine TL.nil (nt ?_)
    refine TC.ret (rb (rt ?_))
    exact Ret.i () [_] ⟨rfl, trivial⟩ rfl trivial (ent_close (⟨qb, a, pb, tb, B, M, ad, cap⟩ : TRep) hN (ent_take 0 rfl (ent_take 1 rfl (ent_take 1 rfl (ent_take 1 rfl (ent_take 0 rfl (ent_take 0 rfl (ent_take 0 rfl (ent_take 0 rfl (ent_nil _))))))))))
   ·have g2 := of_decide_eq_false g2
    refine qg rfl rfl rfl (mv (v := .int _ _) rfl) ?_
    refine qg rfl rfl rfl (lss rfl rfl) ?_
    refine q rfl rfl (pkF (v := .bool _) rfl rfl) ?_
    refine wmb rfl rfl ?_
    refine TL.split 32 rfl (fun g3 => ?_) (fun g3 => ?_)
    ·have g3 := of_decide_eq_true g3
     refine qs rfl rfl ?_
     refine qs rfl rfl ?_
     refine q rfl rfl (pkT (v := .bool _) rfl rfl) ?_
     refine wab rfl rfl ?_
     refine TL.nil (nt ?_)
     refine TC.condT rfl ?_
     have hv : startS T id pr sl = (T, 1) := by rw [startS, if_neg hh, if_pos (by omega)]
     rw [hv]
     refine TC.seq ?_
     refine TC.region ?_
     refine wai rfl rfl ?_
     refine TL.nil (nt ?_)
     refine TC.ret (rb (rt ?_))
     exact Ret.i () [_] ⟨rfl, trivial⟩ rfl trivial (ent_close (⟨qb, a, pb, tb, B, M, ad, cap⟩ : TRep) hN (ent_take 0 rfl (ent_take 1 rfl (ent_take 1 rfl (ent_take 1 rfl (ent_take 0 rfl (ent_take 0 rfl (ent_take 0 rfl (ent_take 0 rfl (ent_nil _))))))))))
    ·have g3 := of_decide_eq_false g3
     refine qg rfl rfl rfl (mv (v := .int _ _) rfl) ?_
     refine qg rfl rfl rfl (gtr rfl rfl) ?_
     refine q rfl rfl (pkF (v := .bool _) rfl rfl) ?_
     refine wab rfl rfl ?_
     refine TL.nil (nt ?_)
     refine TC.condD rfl (fun g4 => ?_) (fun g4 => ?_)
     ·have hv : startS T id pr sl = (T, 1) := by rw [startS, if_neg hh, if_pos (by omega)]
      rw [hv]
      refine TC.seq ?_
      refine TC.region ?_
      refine wai rfl rfl ?_
      refine TL.nil (nt ?_)
      refine TC.ret (rb (rt ?_))
      exact Ret.i () [_] ⟨rfl, trivial⟩ rfl trivial (ent_close (⟨qb, a, pb, tb, B, M, ad, cap⟩ : TRep) hN (ent_take 0 rfl (ent_take 1 rfl (ent_take 1 rfl (ent_take 1 rfl (ent_take 0 rfl (ent_take 0 rfl (ent_take 0 rfl (ent_take 0 rfl (ent_nil _))))))))))
     ·have hbad : ¬ (pr < 0 ∨ 7 < pr ∨ sl < 1 ∨ 16 < sl) := by omega
      refine TC.seq ?_
      refine TC.region ?_
      refine wmp rfl rfl ?_
      refine wnc rfl rfl ?_
      refine wfa 2 rfl rfl rfl ?_
      refine wld rfl rfl rfl rfl ?_
      refine wab rfl rfl ?_
      refine TL.nil (nt ?_)
      cases hon : T.on id with
      | true => ?_
      | false => ?_
      ·have hv : startS T id pr sl = (T, 12) := by rw [startS, if_neg hh, if_neg hbad, if_pos hon]
       rw [hv]
       refine TC.condT rfl ?_
       refine TC.seq ?_
       refine TC.region ?_
       refine wai rfl rfl ?_
       refine TL.nil (nt ?_)
       refine TC.ret (rb (rt ?_))
       exact Ret.i () [_] ⟨rfl, trivial⟩ rfl trivial (ent_close (⟨qb, a, pb, tb, B, M, ad, cap⟩ : TRep) hN (ent_take 0 rfl (ent_take 1 rfl (ent_take 1 rfl (ent_take 1 rfl (ent_take 0 rfl (ent_take 0 rfl (ent_take 0 rfl (ent_take 0 rfl (ent_nil _))))))))))
      ·have hv : startS T id pr sl = ({ T with S := (addS T.S id pr sl).1, pr := updI T.pr id pr, sl := updI T.sl id sl, on := updI T.on id true }, (addS T.S id pr sl).2) := by rw [startS, if_neg hh, if_neg hbad, if_neg (by rw [hon]; decide)]
       rw [hv]
       dsimp only
       refine TC.condF rfl ?_
       refine TC.skip (nb (nt ?_))
       refine TC.seq ?_
       clear this
       obtain ⟨L9, hL9⟩ := perm_mem h
       have hne9 := nd_ne hN hL9
       refine TC.weak (ent_openB 5 rfl hL9) ?_
       refine TC.region ?_
       refine wmp rfl rfl ?_
       refine wmi rfl rfl ?_
       refine wmi rfl rfl ?_
       refine q rfl rfl (bld (cs := [.int _ _, .int _ _, .bool _]) rfl) ?_
       refine wnc rfl rfl ?_
       refine e0 ?_
       refine st (v := .agg #[_, _, _]) (vs := [_, _, _]) 3 rfl rfl rfl rfl rfl rfl (Nat.le_of_ble_eq_true rfl) rfl ?_
       refine TL.nil (nt ?_)
       refine TC.seq ?_
       refine TC.weak (ent_closeB (g := xP B { T with S := (addS T.S id pr sl).1, pr := updI T.pr id pr, sl := updI T.sl id sl, on := updI T.on id true }) 0 0 id rfl rfl (by dsimp only [xP]; simp only [updI_same]; try rfl) (fun y hy => by have h2 := hne9 y hy; dsimp only [xP]; simp only [updI_ne h2]) hL9.symm (ent.refl _)) ?_
       refine TC.region ?_
       refine wmp rfl rfl ?_
       refine wnc rfl rfl ?_
       refine wfa 0 rfl rfl rfl ?_
       refine wld rfl rfl rfl rfl ?_
       refine wmi rfl rfl ?_
       refine wmi rfl rfl ?_
       refine wmi rfl rfl ?_
       refine e rfl ?_
       refine cl (Rd.add_ok qb T.S (by omega) id pr sl) rfl PkL.p trivial ?_
       intro _ _
       change TL _ _ _ _ _ _ _ _ (sepL [_, _, _, _, _, _, _, _])
       refine wai rfl rfl ?_
       refine TL.nil (nt ?_)
       refine TC.ret ?_
       exact Ret.i () [_] ⟨rfl, trivial⟩ rfl trivial (ent_close (⟨qb, a, pb, tb, B, M, ad, cap⟩ : TRep) hN (ent_take 2 rfl (ent_take 0 rfl (ent_take 2 rfl (ent_take 2 rfl (ent_take 1 rfl (ent_take 0 rfl (ent_take 0 rfl (ent_take 0 rfl (ent_nil _))))))))))
 ·have hv : startS T id pr sl = (T, 6) := if_pos h
  rw [hv]
  refine TC.seq ?_
  refine TC.region ?_
  refine wai rfl rfl ?_
  refine TL.nil (nt ?_)
  refine TC.seq ?_
  refine TC.region ?_
  refine wmp rfl rfl ?_
  refine wmi rfl rfl ?_
  refine e rfl ?_
  refine cl (tat_no b tb T.m.ids.length B T.m.ids id h (.pointer (some ⟨qb, 0, none⟩)) (.pointer (some ⟨a, 0, none⟩)) (.pointer (some ⟨pb, 0, none⟩)) (.slice ad T.told.length cap)) rfl PkL.p trivial ?_
  intro _ _
  change TL _ _ _ _ _ _ _ _ (sepL [_, _, _, _, _, _, _, _])
  refine wmt rfl rfl ?_
  refine q rfl rfl (pu (v := .pointer _) (fun _ => rfl)) ?_
  refine q rfl rfl (pu (v := .int _ _) (fun _ => rfl)) ?_
  refine wap rfl rfl ?_
  refine wai rfl rfl ?_
  refine TL.nil (nt ?_)
  refine TC.seq ?_
  refine TC.block ?_
  refine TC.seq ?_
  refine TC.region ?_
  refine wmi rfl rfl ?_
  refine q rfl rfl (neI rfl rfl) ?_
  refine wab rfl rfl ?_
  refine TL.nil (nt ?_)
  refine TC.condT rfl ?_
  refine TC.seq ?_
  refine TC.region ?_
  refine wmi rfl rfl ?_
  refine wai rfl rfl ?_
  refine TL.nil (nt ?_)
  refine TC.ret (rb (rt ?_))
  exact Ret.i () [_] ⟨rfl, trivial⟩ rfl trivial (ent_close (⟨qb, a, pb, tb, B, M, ad, cap⟩ : TRep) hN (ent_take 0 rfl (ent_take 1 rfl (ent_take 1 rfl (ent_take 1 rfl (ent_take 0 rfl (ent_take 0 rfl (ent_take 0 rfl (ent_take 0 rfl (ent_nil _))))))))))
set_option maxRecDepth 4000 in
theorem tstop_ok (b : Nat) (T : TS) (hP : TP T []) (hb : TB T) (id : Int) : FSpec Tryz.prog 11 [.pointer (some ⟨b, 0, none⟩), .int .i64 id] noRd [isT b T] (fun _ : Unit => .int .i64 (stopS T id).2) (fun _ => True) (fun _ => [isT b (stopS T id).1]) := by
 refine FSpec.intro (rs := [.tmp 4]) (by kernel_rfl) Tryz.func11 rfl Tryz.ntmps11 (by rfl) rfl ?_
 intro F _
 change TC _ _ _ _ _ _ _ (sepL [_, _])
 obtain ⟨hSl, hAl, _, hil⟩ := hP.bds hb
 have hW := hP.wm
 have hnow := hb.now
 have htn := hb.tn
 have htold := hb.told
 refine TC.open 0 rfl (fun x0 hx0 => ?_)
 obtain ⟨qb, a, pb, tb, B, M, ad, cap⟩ := x0
 have hN := hx0
 change TC _ _ _ _ _ _ _ (sepL [_, _, _, _, _, _, _, _])
 dsimp only at hN ⊢
 by_cases h : id ∈ T.m.ids
 ·haveI := xP_rd (B := B) (T := T) (x := id) h
  have hh : ¬ id ∉ T.m.ids := fun h2 => h2 h
  refine TC.seq ?_
  refine TC.region ?_
  refine wai rfl rfl ?_
  refine TL.nil (nt ?_)
  refine TC.seq ?_
  refine TC.region ?_
  refine wmp rfl rfl ?_
  refine wmi rfl rfl ?_
  refine e rfl ?_
  refine cl (tat_yes b tb T.m.ids.length B T.m.ids id h (.pointer (some ⟨qb, 0, none⟩)) (.pointer (some ⟨a, 0, none⟩)) (.pointer (some ⟨pb, 0, none⟩)) (.slice ad T.told.length cap)) rfl PkL.p trivial ?_
  intro _ _
  change TL _ _ _ _ _ _ _ _ (sepL [_, _, _, _, _, _, _, _])
  refine wmt rfl rfl ?_
  refine q rfl rfl (pu (v := .pointer _) (fun _ => rfl)) ?_
  refine q rfl rfl (pu (v := .int _ _) (fun _ => rfl)) ?_
  refine wap rfl rfl ?_
  refine wai rfl rfl ?_
  refine TL.nil (nt ?_)
  refine TC.seq ?_
  refine TC.block ?_
  refine TC.seq ?_
  refine TC.region ?_
  refine wmi rfl rfl ?_
  refine q rfl rfl (neI rfl rfl) ?_
  refine wab rfl rfl ?_
  refine TL.nil (nt ?_)
  refine TC.condF rfl ?_
  refine TC.seq ?_
  refine TC.region ?_
  refine wmp rfl rfl ?_
  refine wnc rfl rfl ?_
  refine wfa 2 rfl rfl rfl ?_
  refine wld rfl rfl rfl rfl ?_
  refine q rfl rfl (notB rfl) ?_
  refine wab rfl rfl ?_
  refine TL.nil (nt ?_)
  cases hon : T.on id with
  | true => ?_
  | false => ?_
  ·have hv : stopS T id = ({ T with S := Rd.dropS T.S [id], A := clrA T.A [id], m := (callS T.m id).1, on := updI T.on id false }, 0) := by rw [stopS, if_neg hh, if_neg (fun h2 => h2 hon)]
   rw [hv]
   dsimp only
   clear this
   refine TC.condF rfl ?_
   refine TC.skip (nb (nt ?_))
   refine TC.seq ?_
   refine TC.region ?_
   refine wmp rfl rfl ?_
   refine wnc rfl rfl ?_
   refine wfa 2 rfl rfl rfl ?_
   refine wld rfl rfl rfl rfl ?_
   refine wmi rfl rfl ?_
   refine e rfl ?_
   refine cl (mcall_ok pb M T.m hW id (by omega)) rfl PkL.p trivial ?_
   intro _ _
   change TL _ _ _ _ _ _ _ _ (sepL [_, _, _, _, _, _, _, _])
   have hi9 := call_ids T.m id
   generalize (callS T.m id).1 = m9 at hi9 ⊢
   rw [← hi9] at hN h
   rw [← hi9]
   refine TL.nil (nt ?_)
   refine TC.seq ?_
   refine TC.region ?_
   refine wmp rfl rfl ?_
   refine wnc rfl rfl ?_
   refine wfa 1 rfl rfl rfl ?_
   refine wld rfl rfl rfl rfl ?_
   refine wmi rfl rfl ?_
   refine e rfl ?_
   refine bs (cs := [.int _ _]) rfl ?_
   intro b1
   refine e rfl ?_
   refine cl (Al.clear_ok a T.now T.tn T.A (by omega) (some ⟨b1, 0, none⟩) _ [id] (by simp)) rfl PkL.p ⟨_, RdSI.rd (ad := some ⟨b1, 0, none⟩)⟩ ?_
   intro _ _
   change TL _ _ _ _ _ _ _ _ (sepL [_, _, _, _, _, _, _, _, _])
   refine TL.nil (nt ?_)
   refine TC.seq ?_
   refine TC.region ?_
   refine wmp rfl rfl ?_
   refine wnc rfl rfl ?_
   refine wfa 0 rfl rfl rfl ?_
   refine wld rfl rfl rfl rfl ?_
   refine wmi rfl rfl ?_
   refine e rfl ?_
   refine bs (cs := [.int _ _]) rfl ?_
   intro b2
   refine e rfl ?_
   refine cl (Rd.drop_ok qb T.S (by omega) (some ⟨b2, 0, none⟩) _ [id] (by simp)) rfl PkL.p ⟨_, RdSI.rd (ad := some ⟨b2, 0, none⟩)⟩ ?_
   intro _ _
   change TL _ _ _ _ _ _ _ _ (sepL [_, _, _, _, _, _, _, _, _, _])
   refine TL.nil (nt ?_)
   refine TC.seq ?_
   obtain ⟨L9, hL9⟩ := perm_mem h
   have hne9 := nd_ne hN hL9
   refine TC.weak (ent_openB 7 rfl hL9) ?_
   refine TC.region ?_
   refine wmp rfl rfl ?_
   refine wnc rfl rfl ?_
   refine wfa 2 rfl rfl rfl ?_
   refine e0 ?_
   refine st (v := .bool _) (vs := [_]) 1 rfl rfl rfl rfl rfl rfl (Nat.le_of_ble_eq_true rfl) rfl ?_
   refine TL.nil (nt ?_)
   refine TC.seq ?_
   refine TC.weak (ent_closeB (g := xP B { T with on := updI T.on id false }) 0 0 id rfl rfl (by dsimp only [xP]; simp only [updI_same]; try rfl) (fun y hy => by have h2 := hne9 y hy; dsimp only [xP]; simp only [updI_ne h2]) hL9.symm (ent.refl _)) ?_
   refine TC.region ?_
   refine wai rfl rfl ?_
   refine TL.nil (nt ?_)
   refine TC.ret ?_
   exact Ret.i () [_] ⟨rfl, trivial⟩ rfl trivial (ent_close (⟨qb, a, pb, tb, B, M, ad, cap⟩ : TRep) hN (ent_take 6 rfl (ent_take 1 rfl (ent_take 2 rfl (ent_take 3 rfl (ent_take 3 rfl (ent_take 0 rfl (ent_take 2 rfl (ent_take 2 rfl (ent_nil _))))))))))
  ·have hv : stopS T id = (T, 12) := by rw [stopS, if_neg hh, if_pos (by rw [hon]; decide)]
   rw [hv]
   refine TC.condT rfl ?_
   refine TC.seq ?_
   refine TC.region ?_
   refine wai rfl rfl ?_
   refine TL.nil (nt ?_)
   refine TC.ret (rb (rt ?_))
   exact Ret.i () [_] ⟨rfl, trivial⟩ rfl trivial (ent_close (⟨qb, a, pb, tb, B, M, ad, cap⟩ : TRep) hN (ent_take 0 rfl (ent_take 1 rfl (ent_take 1 rfl (ent_take 1 rfl (ent_take 0 rfl (ent_take 0 rfl (ent_take 0 rfl (ent_take 0 rfl (ent_nil _))))))))))
 ·have hv : stopS T id = (T, 6) := if_pos h
  rw [hv]
  refine TC.seq ?_
  refine TC.region ?_
  refine wai rfl rfl ?_
  refine TL.nil (nt ?_)
  refine TC.seq ?_
  refine TC.region ?_
  refine wmp rfl rfl ?_
  refine wmi rfl rfl ?_
  refine e rfl ?_
  refine cl (tat_no b tb T.m.ids.length B T.m.ids id h (.pointer (some ⟨qb, 0, none⟩)) (.pointer (some ⟨a, 0, none⟩)) (.pointer (some ⟨pb, 0, none⟩)) (.slice ad T.told.length cap)) rfl PkL.p trivial ?_
  intro _ _
  change TL _ _ _ _ _ _ _ _ (sepL [_, _, _, _, _, _, _, _])
  refine wmt rfl rfl ?_
  refine q rfl rfl (pu (v := .pointer _) (fun _ => rfl)) ?_
  refine q rfl rfl (pu (v := .int _ _) (fun _ => rfl)) ?_
  refine wap rfl rfl ?_
  refine wai rfl rfl ?_
  refine TL.nil (nt ?_)
  refine TC.seq ?_
  refine TC.block ?_
  refine TC.seq ?_
  refine TC.region ?_
  refine wmi rfl rfl ?_
  refine q rfl rfl (neI rfl rfl) ?_
  refine wab rfl rfl ?_
  refine TL.nil (nt ?_)
  refine TC.condT rfl ?_
  refine TC.seq ?_
  refine TC.region ?_
  refine wmi rfl rfl ?_
  refine wai rfl rfl ?_
  refine TL.nil (nt ?_)
  refine TC.ret (rb (rt ?_))
  exact Ret.i () [_] ⟨rfl, trivial⟩ rfl trivial (ent_close (⟨qb, a, pb, tb, B, M, ad, cap⟩ : TRep) hN (ent_take 0 rfl (ent_take 1 rfl (ent_take 1 rfl (ent_take 1 rfl (ent_take 0 rfl (ent_take 0 rfl (ent_take 0 rfl (ent_take 0 rfl (ent_nil _))))))))))
set_option maxRecDepth 4000 in
set_option maxHeartbeats 1000000 in
theorem tremove_ok (b : Nat) (T : TS) (hP : TP T []) (hb : TB T) (id : Int) (hto : T.told.length ≤ 90000000) : FSpec Tryz.prog 12 [.pointer (some ⟨b, 0, none⟩), .int .i64 id] noRd [isT b T] (fun _ : Unit => .int .i64 (removeS T id).2) (fun _ => True) (fun _ => [isT b (removeS T id).1]) := by
 refine FSpec.intro (rs := [.tmp 4]) (by kernel_rfl) Tryz.func12 rfl Tryz.ntmps12 (by rfl) rfl ?_
 intro F _
 change TC _ _ _ _ _ _ _ (sepL [_, _])
 obtain ⟨hSl, hAl, _, hil⟩ := hP.bds hb
 have hW := hP.wm
 have hnow := hb.now
 have htn := hb.tn
 have htold := hb.told
 refine TC.open 0 rfl (fun x0 hx0 => ?_)
 obtain ⟨qb, a, pb, tb, B, M, ad, cap⟩ := x0
 have hN := hx0
 change TC _ _ _ _ _ _ _ (sepL [_, _, _, _, _, _, _, _])
 dsimp only at hN ⊢
 by_cases h : id ∈ T.m.ids
 ·have hv : removeS T id = (tellS (outS T id) 13 (leaveS T.m id).2.1, 0) := if_neg (fun h2 => h2 h)
  rw [hv]
  dsimp only
  have hPo := hP.out h
  have hgi := fun x (hx : x ∈ (leaveS T.m id).2.1) => (hPo.L1 x hx).1
  have hgl := hPo.lenL
  have hSo := hPo.lenS
  have hAo := hPo.lenA
  have hids := leave_ids h
  have hol : (leaveS T.m id).1.ids.length ≤ 1000 := by rw [hids]; exact Nat.le_trans (List.length_filter_le _ _) hil
  have hom : (outS T id).m = (leaveS T.m id).1 := rfl
  rw [hom] at hgi hgl hSo hAo
  have hbo : TB (outS T id) := ⟨hol, hb.now, hb.tn, hb.told⟩
  refine TC.seq ?_
  refine TC.region ?_
  refine wai rfl rfl ?_
  refine TL.nil (nt ?_)
  refine TC.seq ?_
  refine TC.region ?_
  refine wmp rfl rfl ?_
  refine wmi rfl rfl ?_
  refine e rfl ?_
  refine cl (tat_yes b tb T.m.ids.length B T.m.ids id h (.pointer (some ⟨qb, 0, none⟩)) (.pointer (some ⟨a, 0, none⟩)) (.pointer (some ⟨pb, 0, none⟩)) (.slice ad T.told.length cap)) rfl PkL.p trivial ?_
  intro _ _
  change TL _ _ _ _ _ _ _ _ (sepL [_, _, _, _, _, _, _, _])
  refine wmt rfl rfl ?_
  refine q rfl rfl (pu (v := .pointer _) (fun _ => rfl)) ?_
  refine q rfl rfl (pu (v := .int _ _) (fun _ => rfl)) ?_
  refine wap rfl rfl ?_
  refine wai rfl rfl ?_
  refine TL.nil (nt ?_)
  refine TC.seq ?_
  refine TC.seq ?_
  refine TC.region ?_
  refine wmi rfl rfl ?_
  refine q rfl rfl (neI rfl rfl) ?_
  refine TL.nil (nt ?_)
  refine TC.condF rfl ?_
  refine TC.skip (nt ?_)
  refine TC.seq ?_
  refine TC.region ?_
  refine wmp rfl rfl ?_
  refine wnc rfl rfl ?_
  refine wfa 2 rfl rfl rfl ?_
  refine wld rfl rfl rfl rfl ?_
  refine wmi rfl rfl ?_
  refine e rfl ?_
  refine cl (mleave_ok pb M T.m hW id (by omega)) rfl PkL.p trivial ?_
  intro yl _
  change TL _ _ _ _ _ _ _ _ (sepL [_, _, _, _, _, _, _, _, _])
  refine wmt rfl rfl ?_
  refine q rfl rfl (pu (v := .slice _ _ _) (fun _ => rfl)) ?_
  refine q rfl rfl (pu (v := .int _ _) (fun _ => rfl)) ?_
  refine was rfl rfl ?_
  refine wai rfl rfl ?_
  refine TL.nil (nt ?_)
  refine TC.seq ?_
  refine TC.region ?_
  refine wmp rfl rfl ?_
  refine wnc rfl rfl ?_
  refine wfa 1 rfl rfl rfl ?_
  refine wld rfl rfl rfl rfl ?_
  refine wmi rfl rfl ?_
  refine e rfl ?_
  refine bs (cs := [.int _ _]) rfl ?_
  intro b3
  refine e rfl ?_
  refine cl (Al.clear_ok a T.now T.tn T.A (by omega) (some ⟨b3, 0, none⟩) _ [id] (by simp)) rfl PkL.p ⟨_, RdSI.rd (ad := some ⟨b3, 0, none⟩)⟩ ?_
  intro _ _
  change TL _ _ _ _ _ _ _ _ (sepL [_, _, _, _, _, _, _, _, _, _])
  refine TL.nil (nt ?_)
  refine TC.seq ?_
  refine TC.region ?_
  refine wmp rfl rfl ?_
  refine wnc rfl rfl ?_
  refine wfa 0 rfl rfl rfl ?_
  refine wld rfl rfl rfl rfl ?_
  refine wmi rfl rfl ?_
  refine e rfl ?_
  refine bs (cs := [.int _ _]) rfl ?_
  intro b4
  refine e rfl ?_
  refine cl (Rd.drop_ok qb T.S (by omega) (some ⟨b4, 0, none⟩) _ [id] (by simp)) rfl PkL.p ⟨_, RdSI.rd (ad := some ⟨b4, 0, none⟩)⟩ ?_
  intro _ _
  change TL _ _ _ _ _ _ _ _ (sepL [_, _, _, _, _, _, _, _, _, _, _])
  refine TL.nil (nt ?_)
  refine TC.seq ?_
  refine TC.region ?_
  refine wmp rfl rfl ?_
  refine wnc rfl rfl ?_
  refine wfa 3 rfl rfl rfl ?_
  refine wld rfl rfl rfl rfl ?_
  refine wmi rfl rfl ?_
  refine e0 ?_
  refine deF 3 75 rfl (KL.int rfl) rfl rfl rfl ?_
  refine TL.nil (nt ?_)
  refine TC.seq ?_
  obtain ⟨L9, hL9⟩ := perm_mem h
  have hne9 := nd_ne hN hL9
  have hfi : L9.Perm (leaveS T.m id).1.ids := by
   have h1 := hL9.filter fun y => decide (y ≠ id)
   have h2 : L9.filter (fun y => decide (y ≠ id)) = L9 := List.filter_eq_self.2 (fun y hy => by simpa using hne9 y hy)
   rw [List.filter_cons_of_neg (by simp), h2] at h1
   rw [hids]; exact h1.symm
  have hN2 : (leaveS T.m id).1.ids.Nodup := by rw [hids]; exact hN.sublist List.filter_sublist
  have hlf : (leaveS T.m id).1.ids.length = T.m.ids.length - 1 := by rw [← hfi.length_eq, hL9.length_eq]; rfl
  have hfm : fM B (leaveS T.m id).1.ids = delF (fM B T.m.ids) id := by rw [hids, fM_drop]
  have hfy := fM_yes (A := B) h
  refine TC.weak ((ent_openB 8 rfl hL9).trans (ent_takeB 1 rfl (g := xP B (outS T id)) (fun _ _ => rfl) hfi (ent.refl _))) ?_
  refine TC.weak (B := sepL [isT b (outS T id), slc 3 1 yl.1 (leaveS T.m id).2.1.length yl.2 (ints (leaveS T.m id).2.1), F]) (ent_close (⟨qb, a, pb, tb, B, M, ad, cap⟩ : TRep) hN2 (by (repeat (first | refine ent_take 0 rfl ?_ | refine ent_take 1 rfl ?_ | refine ent_take 2 rfl ?_ | refine ent_take 3 rfl ?_ | refine ent_take 4 rfl ?_ | refine ent_take 5 rfl ?_ | refine ent_take 6 rfl ?_ | refine ent_take 7 rfl ?_ | refine ent_take 8 rfl ?_ | refine ent_take 9 rfl ?_ | refine ent_take 10 rfl ?_ | refine ent_take 11 rfl ?_ | refine ent_take 12 rfl ?_)); refine ent_takeE 2 rfl (by dsimp only [outS]; rw [hfm, hlf, hfy]; rfl) ?_; exact (ent_take 0 rfl (ent_take 4 rfl (ent_take 3 rfl (ent_take 3 rfl (ent_nil _))))))) ?_
  refine TC.region ?_
  refine wmp rfl rfl ?_
  refine wms rfl rfl ?_
  refine e rfl ?_
  refine cl (ttell_ok b (outS T id) hbo 13 yl.1 yl.2 (leaveS T.m id).2.1 hgi (by omega) (by omega)) rfl PkL.p ⟨_, RdSI.rd (ad := yl.1)⟩ ?_
  intro _ _
  change TL _ _ _ _ _ _ _ _ (sepL [_, _, _])
  refine TL.nil (nt ?_)
  refine TC.seq ?_
  refine TC.region ?_
  refine wai rfl rfl ?_
  refine TL.nil (nt ?_)
  refine TC.ret ?_
  exact Ret.i () [_] ⟨rfl, trivial⟩ rfl trivial (ent_take 0 rfl (ent_take 1 rfl (ent_nil _)))
 ·have hv : removeS T id = (T, 6) := if_pos h
  rw [hv]
  refine TC.seq ?_
  refine TC.region ?_
  refine wai rfl rfl ?_
  refine TL.nil (nt ?_)
  refine TC.seq ?_
  refine TC.region ?_
  refine wmp rfl rfl ?_
  refine wmi rfl rfl ?_
  refine e rfl ?_
  refine cl (tat_no b tb T.m.ids.length B T.m.ids id h (.pointer (some ⟨qb, 0, none⟩)) (.pointer (some ⟨a, 0, none⟩)) (.pointer (some ⟨pb, 0, none⟩)) (.slice ad T.told.length cap)) rfl PkL.p trivial ?_
  intro _ _
  change TL _ _ _ _ _ _ _ _ (sepL [_, _, _, _, _, _, _, _])
  refine wmt rfl rfl ?_
  refine q rfl rfl (pu (v := .pointer _) (fun _ => rfl)) ?_
  refine q rfl rfl (pu (v := .int _ _) (fun _ => rfl)) ?_
  refine wap rfl rfl ?_
  refine wai rfl rfl ?_
  refine TL.nil (nt ?_)
  refine TC.seq ?_
  refine TC.seq ?_
  refine TC.region ?_
  refine wmi rfl rfl ?_
  refine q rfl rfl (neI rfl rfl) ?_
  refine TL.nil (nt ?_)
  refine TC.condT rfl ?_
  refine TC.seq ?_
  refine TC.region ?_
  refine wmi rfl rfl ?_
  refine wai rfl rfl ?_
  refine TL.nil (nt ?_)
  refine TC.ret (rt ?_)
  exact Ret.i () [_] ⟨rfl, trivial⟩ rfl trivial (ent_close (⟨qb, a, pb, tb, B, M, ad, cap⟩ : TRep) hN (ent_take 0 rfl (ent_take 1 rfl (ent_take 1 rfl (ent_take 1 rfl (ent_take 0 rfl (ent_take 0 rfl (ent_take 0 rfl (ent_take 0 rfl (ent_nil _))))))))))
set_option maxRecDepth 4000 in
theorem tatc_yes (b : Nat) (T : TS) (id : Int) (h : id ∈ T.m.ids) : FSpec Tryz.prog 41 [.pointer (some ⟨b, 0, none⟩), .int .i64 id] noRd [isT b T] (fun y : Option Addr => .tuple #[.pointer y, .int .i64 0]) (fun _ => True) (fun _ => [isT b T]) := by
 refine FSpec.intro (rs := [.tmp 4, .tmp 5]) (by kernel_rfl) Tryz.func41 rfl Tryz.ntmps41 (by rfl) rfl ?_
 intro F _
 change TC _ _ _ _ _ _ _ (sepL [_, _])
 refine TC.open 0 rfl (fun x0 hx0 => ?_)
 obtain ⟨qb, a, pb, tb, B, M, ad, cap⟩ := x0
 have hN := hx0
 change TC _ _ _ _ _ _ _ (sepL [_, _, _, _, _, _, _, _])
 dsimp only at hN ⊢
 refine TC.seq ?_
 refine TC.region ?_
 refine q rfl rfl (asg rfl) ?_
 refine q rfl rfl (asg rfl) ?_
 refine TL.nil (nt ?_)
 refine TC.seq ?_
 refine TC.seq ?_
 refine TC.region ?_
 refine q rfl rfl (mv rfl) ?_
 refine q rfl rfl (eqNil rfl rfl rfl) ?_
 refine TL.nil (nt ?_)
 refine TC.condF rfl ?_
 refine TC.skip (nt ?_)
 refine TC.seq ?_
 refine TC.region ?_
 refine q rfl rfl (mv rfl) ?_
 refine wnc rfl rfl ?_
 refine wfa 3 rfl rfl rfl ?_
 refine wld rfl rfl rfl rfl ?_
 refine q rfl rfl (mv rfl) ?_
 refine q rfl rfl (luF 3 75 rfl rfl (KL.int rfl) rfl rfl) ?_
 rw [fM_yes h]
 refine wap rfl rfl ?_
 refine TL.nil (nt ?_)
 refine TC.seq ?_
 refine TC.seq ?_
 refine TC.region ?_
 refine wmp rfl rfl ?_
 refine q rfl rfl (eqNil rfl rfl rfl) ?_
 refine TL.nil (nt ?_)
 refine TC.condF rfl ?_
 refine TC.skip (nt ?_)
 refine TC.seq ?_
 refine TC.region ?_
 refine wmp rfl rfl ?_
 refine wap rfl rfl ?_
 refine wai rfl rfl ?_
 refine TL.nil (nt ?_)
 refine TC.ret ?_
 exact Ret.i (some ⟨B id, 0, none⟩) [_, _] ⟨rfl, rfl, trivial⟩ rfl trivial (ent_close (⟨qb, a, pb, tb, B, M, ad, cap⟩ : TRep) hN (ent_take 0 rfl (ent_take 0 rfl (ent_take 0 rfl (ent_take 0 rfl (ent_take 0 rfl (ent_take 0 rfl (ent_take 0 rfl (ent_take 0 rfl (ent_nil _))))))))))
set_option maxRecDepth 4000 in
theorem tatc_no (b : Nat) (T : TS) (id : Int) (h : id ∉ T.m.ids) : FSpec Tryz.prog 41 [.pointer (some ⟨b, 0, none⟩), .int .i64 id] noRd [isT b T] (fun y : Option Addr => .tuple #[.pointer y, .int .i64 6]) (fun _ => True) (fun _ => [isT b T]) := by
 refine FSpec.intro (rs := [.tmp 4, .tmp 5]) (by kernel_rfl) Tryz.func41 rfl Tryz.ntmps41 (by rfl) rfl ?_
 intro F _
 change TC _ _ _ _ _ _ _ (sepL [_, _])
 refine TC.open 0 rfl (fun x0 hx0 => ?_)
 obtain ⟨qb, a, pb, tb, B, M, ad, cap⟩ := x0
 have hN := hx0
 change TC _ _ _ _ _ _ _ (sepL [_, _, _, _, _, _, _, _])
 dsimp only at hN ⊢
 refine TC.seq ?_
 refine TC.region ?_
 refine q rfl rfl (asg rfl) ?_
 refine q rfl rfl (asg rfl) ?_
 refine TL.nil (nt ?_)
 refine TC.seq ?_
 refine TC.seq ?_
 refine TC.region ?_
 refine q rfl rfl (mv rfl) ?_
 refine q rfl rfl (eqNil rfl rfl rfl) ?_
 refine TL.nil (nt ?_)
 refine TC.condF rfl ?_
 refine TC.skip (nt ?_)
 refine TC.seq ?_
 refine TC.region ?_
 refine q rfl rfl (mv rfl) ?_
 refine wnc rfl rfl ?_
 refine wfa 3 rfl rfl rfl ?_
 refine wld rfl rfl rfl rfl ?_
 refine q rfl rfl (mv rfl) ?_
 refine q rfl rfl (luF 3 75 rfl rfl (KL.int rfl) rfl rfl) ?_
 rw [fM_no h]
 refine wap rfl rfl ?_
 refine TL.nil (nt ?_)
 refine TC.seq ?_
 refine TC.seq ?_
 refine TC.region ?_
 refine wmp rfl rfl ?_
 refine q rfl rfl (eqNil rfl rfl rfl) ?_
 refine TL.nil (nt ?_)
 refine TC.condT rfl ?_
 refine TC.seq ?_
 refine TC.region ?_
 refine wap rfl rfl ?_
 refine wai rfl rfl ?_
 refine TL.nil (nt ?_)
 refine TC.ret (rt ?_)
 exact Ret.i none [_, _] ⟨rfl, rfl, trivial⟩ rfl trivial (ent_close (⟨qb, a, pb, tb, B, M, ad, cap⟩ : TRep) hN (ent_take 0 rfl (ent_take 0 rfl (ent_take 0 rfl (ent_take 0 rfl (ent_take 0 rfl (ent_take 0 rfl (ent_take 0 rfl (ent_take 0 rfl (ent_nil _))))))))))
set_option maxRecDepth 4000 in
set_option maxHeartbeats 1000000 in
theorem tsend_ok (b : Nat) (T : TS) (hP : TP T []) (hb : TB T) (fr to gt : Int) (cv : Bool) (ticks : Int) : FSpec Tryz.prog 13 [.pointer (some ⟨b, 0, none⟩), .int .i64 fr, .int .i64 to, .int .i64 gt, .bool cv, .int .i64 ticks] noRd [isT b T] (fun _ : Unit => .int .i64 (sendS T fr to gt cv ticks).2) (fun _ => True) (fun _ => [isT b (sendS T fr to gt cv ticks).1]) := by
 refine FSpec.intro (rs := [.tmp 12]) (by kernel_rfl) Tryz.func13 rfl Tryz.ntmps13 (by rfl) rfl ?_
 intro F _
 change TC _ _ _ _ _ _ _ (sepL [_, _])
 obtain ⟨hSl, hAl, _, hil⟩ := hP.bds hb
 have hW := hP.wm
 have hnow := hb.now
 have htn := hb.tn
 have htold := hb.told
 refine TC.seq ?_
 refine TC.region ?_
 refine wai rfl rfl ?_
 refine TL.nil (nt ?_)
 refine TC.seq ?_
 refine TC.region ?_
 refine wmp rfl rfl ?_
 refine wmi rfl rfl ?_
 by_cases h1 : fr ∈ T.m.ids
 ·refine e rfl ?_
  refine cl (tatc_yes b T fr h1) rfl PkL.p trivial ?_
  intro y0 _
  change TL _ _ _ _ _ _ _ _ (sepL [_, _])
  refine wmt rfl rfl ?_
  refine q rfl rfl (pu (v := .pointer _) (fun _ => rfl)) ?_
  refine q rfl rfl (pu (v := .int _ _) (fun _ => rfl)) ?_
  refine wap rfl rfl ?_
  refine wai rfl rfl ?_
  refine TL.nil (nt ?_)
  refine TC.seq ?_
  refine TC.region ?_
  refine wmp rfl rfl ?_
  refine wmi rfl rfl ?_
  by_cases h2 : to ∈ T.m.ids
  ·refine e rfl ?_
   refine cl (tatc_yes b T to h2) rfl PkL.p trivial ?_
   intro y0 _
   change TL _ _ _ _ _ _ _ _ (sepL [_, _])
   have hh : ¬ (fr ∉ T.m.ids ∨ to ∉ T.m.ids) := fun h3 => h3.elim (fun h4 => h4 h1) (fun h4 => h4 h2)
   refine wmt rfl rfl ?_
   refine q rfl rfl (pu (v := .pointer _) (fun _ => rfl)) ?_
   refine q rfl rfl (pu (v := .int _ _) (fun _ => rfl)) ?_
   refine wap rfl rfl ?_
   refine wai rfl rfl ?_
   refine TL.nil (nt ?_)
   refine TC.seq ?_
   refine TC.block ?_
   refine TC.seq ?_
   refine TC.region ?_
   refine wmi rfl rfl ?_
   refine q rfl rfl (neI rfl rfl) ?_
   refine wab rfl rfl ?_
   refine TL.nil (nt ?_)
   refine TC.condF rfl ?_
   refine TC.seq ?_
   refine TC.region ?_
   refine wmi rfl rfl ?_
   refine q rfl rfl (neI rfl rfl) ?_
   refine wab rfl rfl ?_
   refine TL.nil (nt ?_)
   refine TC.condF rfl ?_
   refine TC.seq ?_
   refine TC.region ?_
   refine wmi rfl rfl ?_
   refine wmi rfl rfl ?_
   refine q rfl rfl (eqI rfl rfl) ?_
   refine wmb rfl rfl ?_
   refine TL.split 41 rfl (fun he => ?_) (fun he => ?_)
   ·have he := of_decide_eq_true he
    have hv : sendS T fr to gt cv ticks = (T, 1) := by rw [sendS, if_neg hh, if_pos (.inl he)]
    rw [hv]
    refine qs rfl rfl ?_
    refine qs rfl rfl ?_
    refine qs rfl rfl ?_
    refine q rfl rfl (pkT (v := .bool _) rfl rfl) ?_
    refine wab rfl rfl ?_
    refine TL.nil (nt ?_)
    refine TC.condT rfl ?_
    refine TC.seq ?_
    refine TC.region ?_
    refine wai rfl rfl ?_
    refine TL.nil (nt ?_)
    refine TC.ret (rb (rt ?_))
    exact Ret.i () [_] ⟨rfl, trivial⟩ rfl trivial (ent_take 0 rfl (ent_take 0 rfl (ent_nil _)))
   ·have he := of_decide_eq_false he
    refine qg rfl rfl rfl (mv (v := .int _ _) rfl) ?_
    refine eg rfl rfl ?_
    refine cl (tmay_ok ticks) rfl (picked_nil _) trivial ?_
    intro _ _
    change TL _ _ _ _ _ _ _ _ (sepL [_, _])
    refine qg rfl rfl rfl (notD rfl) ?_
    refine q rfl rfl (pkF (v := .bool _) rfl rfl) ?_
    refine wab rfl rfl ?_
    refine TL.nil (nt ?_)
    by_cases ht : badT ticks
    ·have hv : sendS T fr to gt cv ticks = (T, 1) := by rw [sendS, if_neg hh, if_pos (.inr ht)]
     rw [hv]
     refine TC.condD rfl (fun hc1 => ?_) (fun hc1 => absurd (fun h2 => h2 ht) hc1)
     refine TC.seq ?_
     refine TC.region ?_
     refine wai rfl rfl ?_
     refine TL.nil (nt ?_)
     refine TC.ret (rb (rt ?_))
     exact Ret.i () [_] ⟨rfl, trivial⟩ rfl trivial (ent_take 0 rfl (ent_take 0 rfl (ent_nil _)))
    ·have hh2 : ¬ (fr = to ∨ badT ticks) := fun h3 => h3.elim he ht
     refine TC.condD rfl (fun hc2 => absurd hc2 (fun h2 => h2 ht)) (fun hc2 => ?_)
     refine TC.seq ?_
     refine TC.region ?_
     refine wmp rfl rfl ?_
     refine wmi rfl rfl ?_
     refine e rfl ?_
     refine cl (tstate_ok b T fr) rfl PkL.p trivial ?_
     intro _ _
     change TL _ _ _ _ _ _ _ _ (sepL [_, _])
     refine q rfl rfl (neI rfl rfl) ?_
     refine wab rfl rfl ?_
     refine TL.nil (nt ?_)
     refine TC.condD rfl (fun h0 => ?_) (fun h0 => ?_)
     ·have hv : sendS T fr to gt cv ticks = (T, 12) := by rw [sendS, if_neg hh, if_neg hh2, if_pos h0]
      rw [hv]
      refine TC.seq ?_
      refine TC.region ?_
      refine wai rfl rfl ?_
      refine TL.nil (nt ?_)
      refine TC.ret (rb (rt ?_))
      exact Ret.i () [_] ⟨rfl, trivial⟩ rfl trivial (ent_take 0 rfl (ent_take 0 rfl (ent_nil _)))
     ·have hv : sendS T fr to gt cv ticks = (blockS (mS T (offS T.m to ⟨fr, gt, cv⟩).1) fr ticks, 0) := by rw [sendS, if_neg hh, if_neg hh2, if_neg h0]
      rw [hv]
      dsimp only
      refine TC.skip (nb (nt ?_))
      refine TC.seq ?_
      refine TC.open 0 rfl (fun x0 hx0 => ?_)
      obtain ⟨qb, a, pb, tb, B, M, ad, cap⟩ := x0
      have hN := hx0
      change TC _ _ _ _ _ _ _ (sepL [_, _, _, _, _, _, _, _])
      dsimp only at hN ⊢
      refine TC.region ?_
      refine wmp rfl rfl ?_
      refine wnc rfl rfl ?_
      refine wfa 2 rfl rfl rfl ?_
      refine wld rfl rfl rfl rfl ?_
      refine wmi rfl rfl ?_
      refine wmi rfl rfl ?_
      refine wmi rfl rfl ?_
      refine wmb rfl rfl ?_
      refine q rfl rfl (bld (cs := [.int _ _, .int _ _, .bool _]) rfl) ?_
      refine e rfl ?_
      refine cl (moffer_ok pb M T.m hW to ⟨fr, gt, cv⟩ (by omega)) rfl PkL.p trivial ?_
      intro _ _
      change TL _ _ _ _ _ _ _ _ (sepL [_, _, _, _, _, _, _, _])
      have hi9 := off_ids T.m to ⟨fr, gt, cv⟩
      generalize (offS T.m to ⟨fr, gt, cv⟩).1 = m9 at hi9 ⊢
      rw [← hi9] at hN
      rw [← hi9]
      refine TL.nil (nt ?_)
      refine TC.seq ?_
      refine TC.weak (B := sepL [isT b (mS T m9), F]) ((ent_close (⟨qb, a, pb, tb, B, M, ad, cap⟩ : TRep) hN (ent_take 1 rfl (ent_take 1 rfl (ent_take 1 rfl (ent_take 0 rfl (ent_take 0 rfl (ent_take 0 rfl (ent_take 0 rfl (ent_take 0 rfl (ent_nil _))))))))))) ?_
      have hb9 : TB (mS T m9) := ⟨by rw [show (mS T m9).m = m9 from rfl, hi9]; exact hb.ids, hb.now, hb.tn, hb.told⟩
      refine TC.region ?_
      refine wmp rfl rfl ?_
      refine wmi rfl rfl ?_
      refine wmi rfl rfl ?_
      refine e rfl ?_
      refine cl (tblock_ok b (mS T m9) hb9 (by show T.A.length ≤ _; omega) (by show T.S.length ≤ _; omega) fr ticks) rfl PkL.p trivial ?_
      intro _ _
      change TL _ _ _ _ _ _ _ _ (sepL [_, _])
      refine TL.nil (nt ?_)
      refine TC.seq ?_
      refine TC.region ?_
      refine wai rfl rfl ?_
      refine TL.nil (nt ?_)
      refine TC.ret ?_
      exact Ret.i () [_] ⟨rfl, trivial⟩ rfl trivial (ent_take 0 rfl (ent_take 0 rfl (ent_nil _)))
  ·refine e rfl ?_
   refine cl (tatc_no b T to h2) rfl PkL.p trivial ?_
   intro _ _
   change TL _ _ _ _ _ _ _ _ (sepL [_, _])
   have hv : sendS T fr to gt cv ticks = (T, 6) := if_pos (.inr h2)
   rw [hv]
   refine wmt rfl rfl ?_
   refine q rfl rfl (pu (v := .pointer _) (fun _ => rfl)) ?_
   refine q rfl rfl (pu (v := .int _ _) (fun _ => rfl)) ?_
   refine wap rfl rfl ?_
   refine wai rfl rfl ?_
   refine TL.nil (nt ?_)
   refine TC.seq ?_
   refine TC.block ?_
   refine TC.seq ?_
   refine TC.region ?_
   refine wmi rfl rfl ?_
   refine q rfl rfl (neI rfl rfl) ?_
   refine wab rfl rfl ?_
   refine TL.nil (nt ?_)
   refine TC.condF rfl ?_
   refine TC.seq ?_
   refine TC.region ?_
   refine wmi rfl rfl ?_
   refine q rfl rfl (neI rfl rfl) ?_
   refine wab rfl rfl ?_
   refine TL.nil (nt ?_)
   refine TC.condT rfl ?_
   refine TC.seq ?_
   refine TC.region ?_
   refine wmi rfl rfl ?_
   refine wai rfl rfl ?_
   refine TL.nil (nt ?_)
   refine TC.ret (rb (rt ?_))
   exact Ret.i () [_] ⟨rfl, trivial⟩ rfl trivial (ent_take 0 rfl (ent_take 0 rfl (ent_nil _)))
 ·refine e rfl ?_
  refine cl (tatc_no b T fr h1) rfl PkL.p trivial ?_
  intro _ _
  change TL _ _ _ _ _ _ _ _ (sepL [_, _])
  refine wmt rfl rfl ?_
  refine q rfl rfl (pu (v := .pointer _) (fun _ => rfl)) ?_
  refine q rfl rfl (pu (v := .int _ _) (fun _ => rfl)) ?_
  refine wap rfl rfl ?_
  refine wai rfl rfl ?_
  refine TL.nil (nt ?_)
  refine TC.seq ?_
  refine TC.region ?_
  refine wmp rfl rfl ?_
  refine wmi rfl rfl ?_
  by_cases h2 : to ∈ T.m.ids
  ·refine e rfl ?_
   refine cl (tatc_yes b T to h2) rfl PkL.p trivial ?_
   intro y0 _
   change TL _ _ _ _ _ _ _ _ (sepL [_, _])
   have hv : sendS T fr to gt cv ticks = (T, 6) := if_pos (.inl h1)
   rw [hv]
   refine wmt rfl rfl ?_
   refine q rfl rfl (pu (v := .pointer _) (fun _ => rfl)) ?_
   refine q rfl rfl (pu (v := .int _ _) (fun _ => rfl)) ?_
   refine wap rfl rfl ?_
   refine wai rfl rfl ?_
   refine TL.nil (nt ?_)
   refine TC.seq ?_
   refine TC.block ?_
   refine TC.seq ?_
   refine TC.region ?_
   refine wmi rfl rfl ?_
   refine q rfl rfl (neI rfl rfl) ?_
   refine wab rfl rfl ?_
   refine TL.nil (nt ?_)
   refine TC.condT rfl ?_
   refine TC.seq ?_
   refine TC.region ?_
   refine wmi rfl rfl ?_
   refine wai rfl rfl ?_
   refine TL.nil (nt ?_)
   refine TC.ret (rb (rt ?_))
   exact Ret.i () [_] ⟨rfl, trivial⟩ rfl trivial (ent_take 0 rfl (ent_take 0 rfl (ent_nil _)))
  ·refine e rfl ?_
   refine cl (tatc_no b T to h2) rfl PkL.p trivial ?_
   intro _ _
   change TL _ _ _ _ _ _ _ _ (sepL [_, _])
   have hv : sendS T fr to gt cv ticks = (T, 6) := if_pos (.inl h1)
   rw [hv]
   refine wmt rfl rfl ?_
   refine q rfl rfl (pu (v := .pointer _) (fun _ => rfl)) ?_
   refine q rfl rfl (pu (v := .int _ _) (fun _ => rfl)) ?_
   refine wap rfl rfl ?_
   refine wai rfl rfl ?_
   refine TL.nil (nt ?_)
   refine TC.seq ?_
   refine TC.block ?_
   refine TC.seq ?_
   refine TC.region ?_
   refine wmi rfl rfl ?_
   refine q rfl rfl (neI rfl rfl) ?_
   refine wab rfl rfl ?_
   refine TL.nil (nt ?_)
   refine TC.condT rfl ?_
   refine TC.seq ?_
   refine TC.region ?_
   refine wmi rfl rfl ?_
   refine wai rfl rfl ?_
   refine TL.nil (nt ?_)
   refine TC.ret (rb (rt ?_))
   exact Ret.i () [_] ⟨rfl, trivial⟩ rfl trivial (ent_take 0 rfl (ent_take 0 rfl (ent_nil _)))
set_option maxRecDepth 4000 in
set_option maxHeartbeats 1000000 in
theorem twait_ok (b : Nat) (T : TS) (hP : TP T []) (hb : TB T) (id ticks : Int) : FSpec Tryz.prog 14 [.pointer (some ⟨b, 0, none⟩), .int .i64 id, .int .i64 ticks] noRd [isT b T] (fun _ : Unit => .int .i64 (waitS T id ticks).2) (fun _ => True) (fun _ => [isT b (waitS T id ticks).1]) := by
 refine FSpec.intro (rs := [.tmp 6]) (by kernel_rfl) Tryz.func14 rfl Tryz.ntmps14 (by rfl) rfl ?_
 intro F _
 change TC _ _ _ _ _ _ _ (sepL [_, _])
 obtain ⟨hSl, hAl, _, hil⟩ := hP.bds hb
 have hW := hP.wm
 have hnow := hb.now
 have htn := hb.tn
 have htold := hb.told
 refine TC.seq ?_
 refine TC.region ?_
 refine wai rfl rfl ?_
 refine TL.nil (nt ?_)
 refine TC.seq ?_
 refine TC.region ?_
 refine wmp rfl rfl ?_
 refine wmi rfl rfl ?_
 by_cases h1 : id ∈ T.m.ids
 ·refine e rfl ?_
  refine cl (tatc_yes b T id h1) rfl PkL.p trivial ?_
  intro y0 _
  change TL _ _ _ _ _ _ _ _ (sepL [_, _])
  have hh : ¬ id ∉ T.m.ids := fun h => h h1
  refine wmt rfl rfl ?_
  refine q rfl rfl (pu (v := .pointer _) (fun _ => rfl)) ?_
  refine q rfl rfl (pu (v := .int _ _) (fun _ => rfl)) ?_
  refine wap rfl rfl ?_
  refine wai rfl rfl ?_
  refine TL.nil (nt ?_)
  refine TC.seq ?_
  refine TC.block ?_
  refine TC.seq ?_
  refine TC.region ?_
  refine wmi rfl rfl ?_
  refine q rfl rfl (neI rfl rfl) ?_
  refine wab rfl rfl ?_
  refine TL.nil (nt ?_)
  refine TC.condF rfl ?_
  refine TC.seq ?_
  refine TC.region ?_
  refine wmi rfl rfl ?_
  refine e rfl ?_
  refine cl (tmay_ok ticks) rfl (picked_nil _) trivial ?_
  intro _ _
  change TL _ _ _ _ _ _ _ _ (sepL [_, _])
  refine q rfl rfl (notD rfl) ?_
  refine wab rfl rfl ?_
  refine TL.nil (nt ?_)
  by_cases ht : badT ticks
  ·have hv : waitS T id ticks = (T, 1) := by rw [waitS, if_neg hh, if_pos ht]
   rw [hv]
   refine TC.condD rfl (fun hc3 => ?_) (fun hc3 => absurd (fun h2 => h2 ht) hc3)
   refine TC.seq ?_
   refine TC.region ?_
   refine wai rfl rfl ?_
   refine TL.nil (nt ?_)
   refine TC.ret (rb (rt ?_))
   exact Ret.i () [_] ⟨rfl, trivial⟩ rfl trivial (ent_take 0 rfl (ent_take 0 rfl (ent_nil _)))
  ·refine TC.condD rfl (fun hc4 => absurd hc4 (fun h2 => h2 ht)) (fun hc4 => ?_)
   refine TC.seq ?_
   refine TC.region ?_
   refine wmp rfl rfl ?_
   refine wmi rfl rfl ?_
   refine e rfl ?_
   refine cl (tstate_ok b T id) rfl PkL.p trivial ?_
   intro _ _
   change TL _ _ _ _ _ _ _ _ (sepL [_, _])
   refine q rfl rfl (neI rfl rfl) ?_
   refine wab rfl rfl ?_
   refine TL.nil (nt ?_)
   refine TC.condD rfl (fun h0 => ?_) (fun h0 => ?_)
   ·have hv : waitS T id ticks = (T, 12) := by rw [waitS, if_neg hh, if_neg ht, if_pos h0]
    rw [hv]
    refine TC.seq ?_
    refine TC.region ?_
    refine wai rfl rfl ?_
    refine TL.nil (nt ?_)
    refine TC.ret (rb (rt ?_))
    exact Ret.i () [_] ⟨rfl, trivial⟩ rfl trivial (ent_take 0 rfl (ent_take 0 rfl (ent_nil _)))
   ·refine TC.skip (nb (nt ?_))
    refine TC.seq ?_
    refine TC.seq ?_
    refine TC.open 0 rfl (fun x0 hx0 => ?_)
    obtain ⟨qb, a, pb, tb, B, M, ad, cap⟩ := x0
    have hN := hx0
    change TC _ _ _ _ _ _ _ (sepL [_, _, _, _, _, _, _, _])
    dsimp only at hN ⊢
    refine TC.region ?_
    refine wmp rfl rfl ?_
    refine wnc rfl rfl ?_
    refine wfa 2 rfl rfl rfl ?_
    refine wld rfl rfl rfl rfl ?_
    refine wmi rfl rfl ?_
    refine e rfl ?_
    refine cl (mopen_ok pb M T.m hW id) rfl PkL.p trivial ?_
    intro _ _
    change TL _ _ _ _ _ _ _ _ (sepL [_, _, _, _, _, _, _, _])
    refine wai rfl rfl ?_
    refine TL.nil (nt ?_)
    refine TC.seq ?_
    refine TC.region ?_
    refine wmi rfl rfl ?_
    refine q rfl rfl (neI rfl rfl) ?_
    refine TL.nil (nt ?_)
    refine TC.condD rfl (fun he => ?_) (fun he => ?_)
    ·have ho : (openS T.m id).1 = T.m := by
      rw [openS] at he ⊢
      split at he
      ·rename_i h3; rw [if_pos h3]
      ·rename_i h3
       rw [if_neg h3]
       split at he
       ·rename_i h4; rw [if_pos h4]
       ·exact absurd rfl he
     have hv : waitS T id ticks = (T, (openS T.m id).2) := by rw [waitS, if_neg hh, if_neg ht, if_neg h0, if_pos he]
     rw [hv, ho]
     refine TC.seq ?_
     refine TC.region ?_
     refine wmi rfl rfl ?_
     refine wai rfl rfl ?_
     refine TL.nil (nt ?_)
     refine TC.ret (rt ?_)
     exact Ret.i () [_] ⟨rfl, trivial⟩ rfl trivial (ent_close (⟨qb, a, pb, tb, B, M, ad, cap⟩ : TRep) hN (ent_take 1 rfl (ent_take 1 rfl (ent_take 1 rfl (ent_take 0 rfl (ent_take 0 rfl (ent_take 0 rfl (ent_take 0 rfl (ent_take 0 rfl (ent_nil _))))))))))
    ·have hv : waitS T id ticks = (blockS (mS T (openS T.m id).1) id ticks, 0) := by rw [waitS, if_neg hh, if_neg ht, if_neg h0, if_neg he]
     rw [hv]
     dsimp only
     clear he
     have hi9 := open_ids T.m id
     generalize (openS T.m id).1 = m9 at hi9 ⊢
     rw [← hi9] at hN
     rw [← hi9]
     refine TC.skip (nt ?_)
     refine TC.seq ?_
     refine TC.weak (B := sepL [isT b (mS T m9), F]) ((ent_close (⟨qb, a, pb, tb, B, M, ad, cap⟩ : TRep) hN (ent_take 1 rfl (ent_take 1 rfl (ent_take 1 rfl (ent_take 0 rfl (ent_take 0 rfl (ent_take 0 rfl (ent_take 0 rfl (ent_take 0 rfl (ent_nil _))))))))))) ?_
     have hb9 : TB (mS T m9) := ⟨by rw [show (mS T m9).m = m9 from rfl, hi9]; exact hb.ids, hb.now, hb.tn, hb.told⟩
     refine TC.region ?_
     refine wmp rfl rfl ?_
     refine wmi rfl rfl ?_
     refine wmi rfl rfl ?_
     refine e rfl ?_
     refine cl (tblock_ok b (mS T m9) hb9 (by show T.A.length ≤ _; omega) (by show T.S.length ≤ _; omega) id ticks) rfl PkL.p trivial ?_
     intro _ _
     change TL _ _ _ _ _ _ _ _ (sepL [_, _])
     refine TL.nil (nt ?_)
     refine TC.seq ?_
     refine TC.region ?_
     refine wai rfl rfl ?_
     refine TL.nil (nt ?_)
     refine TC.ret ?_
     exact Ret.i () [_] ⟨rfl, trivial⟩ rfl trivial (ent_take 0 rfl (ent_take 0 rfl (ent_nil _)))
 ·refine e rfl ?_
  refine cl (tatc_no b T id h1) rfl PkL.p trivial ?_
  intro _ _
  change TL _ _ _ _ _ _ _ _ (sepL [_, _])
  have hv : waitS T id ticks = (T, 6) := if_pos h1
  rw [hv]
  refine wmt rfl rfl ?_
  refine q rfl rfl (pu (v := .pointer _) (fun _ => rfl)) ?_
  refine q rfl rfl (pu (v := .int _ _) (fun _ => rfl)) ?_
  refine wap rfl rfl ?_
  refine wai rfl rfl ?_
  refine TL.nil (nt ?_)
  refine TC.seq ?_
  refine TC.block ?_
  refine TC.seq ?_
  refine TC.region ?_
  refine wmi rfl rfl ?_
  refine q rfl rfl (neI rfl rfl) ?_
  refine wab rfl rfl ?_
  refine TL.nil (nt ?_)
  refine TC.condT rfl ?_
  refine TC.seq ?_
  refine TC.region ?_
  refine wmi rfl rfl ?_
  refine wai rfl rfl ?_
  refine TL.nil (nt ?_)
  refine TC.ret (rb (rt ?_))
  exact Ret.i () [_] ⟨rfl, trivial⟩ rfl trivial (ent_take 0 rfl (ent_take 0 rfl (ent_nil _)))
set_option maxRecDepth 4000 in
set_option maxHeartbeats 1000000 in
theorem twake_ok (b : Nat) (T : TS) (hP : TP T []) (hb : TB T) (id why : Int) : FSpec Tryz.prog 15 [.pointer (some ⟨b, 0, none⟩), .int .i64 id, .int .i64 why] noRd [isT b T] (fun _ : Unit => .int .i64 (wakeS T why id).2) (fun _ => True) (fun _ => [isT b (wakeS T why id).1]) := by
 refine FSpec.intro (rs := [.tmp 6]) (by kernel_rfl) Tryz.func15 rfl Tryz.ntmps15 (by rfl) rfl ?_
 intro F _
 change TC _ _ _ _ _ _ _ (sepL [_, _])
 obtain ⟨hSl, hAl, _, hil⟩ := hP.bds hb
 have hW := hP.wm
 have hnow := hb.now
 have htn := hb.tn
 have htold := hb.told
 refine TC.seq ?_
 refine TC.region ?_
 refine wai rfl rfl ?_
 refine TL.nil (nt ?_)
 refine TC.seq ?_
 refine TC.region ?_
 refine wmp rfl rfl ?_
 refine wmi rfl rfl ?_
 by_cases h1 : id ∈ T.m.ids
 ·refine e rfl ?_
  refine cl (tatc_yes b T id h1) rfl PkL.p trivial ?_
  intro y0 _
  change TL _ _ _ _ _ _ _ _ (sepL [_, _])
  have hh : ¬ id ∉ T.m.ids := fun h => h h1
  refine wmt rfl rfl ?_
  refine q rfl rfl (pu (v := .pointer _) (fun _ => rfl)) ?_
  refine q rfl rfl (pu (v := .int _ _) (fun _ => rfl)) ?_
  refine wap rfl rfl ?_
  refine wai rfl rfl ?_
  refine TL.nil (nt ?_)
  refine TC.seq ?_
  refine TC.region ?_
  refine wmp rfl rfl ?_
  refine wmi rfl rfl ?_
  refine e rfl ?_
  refine cl (tstate_ok b T id) rfl PkL.p trivial ?_
  intro _ _
  change TL _ _ _ _ _ _ _ _ (sepL [_, _])
  refine wai rfl rfl ?_
  refine TL.nil (nt ?_)
  refine TC.seq ?_
  refine TC.block ?_
  refine TC.seq ?_
  refine TC.region ?_
  refine wmi rfl rfl ?_
  refine q rfl rfl (neI rfl rfl) ?_
  refine wab rfl rfl ?_
  refine TL.nil (nt ?_)
  refine TC.condF rfl ?_
  refine TC.seq ?_
  refine TC.region ?_
  refine wmi rfl rfl ?_
  refine q rfl rfl (eqI rfl rfl) ?_
  refine wmb rfl rfl ?_
  refine TL.split 26 rfl (fun h0 => ?_) (fun h0 => ?_)
  ·have h0 := of_decide_eq_true h0
   have hv : wakeS T why id = (T, 12) := by rw [wakeS, if_neg hh, if_pos (.inl h0)]
   rw [hv]
   refine qs rfl rfl ?_
   refine qs rfl rfl ?_
   refine q rfl rfl (pkT (v := .bool _) rfl rfl) ?_
   refine wab rfl rfl ?_
   refine TL.nil (nt ?_)
   refine TC.condT rfl ?_
   refine TC.seq ?_
   refine TC.region ?_
   refine wai rfl rfl ?_
   refine TL.nil (nt ?_)
   refine TC.ret (rb (rt ?_))
   exact Ret.i () [_] ⟨rfl, trivial⟩ rfl trivial (ent_take 0 rfl (ent_take 0 rfl (ent_nil _)))
  ·have h0 := of_decide_eq_false h0
   refine qg rfl rfl rfl (mv (v := .int _ _) rfl) ?_
   refine qg rfl rfl rfl (eqI rfl rfl) ?_
   refine q rfl rfl (pkF (v := .bool _) rfl rfl) ?_
   refine wab rfl rfl ?_
   refine TL.nil (nt ?_)
   refine TC.condD rfl (fun h4 => ?_) (fun h4 => ?_)
   ·have hv : wakeS T why id = (T, 12) := by rw [wakeS, if_neg hh, if_pos (.inr h4)]
    rw [hv]
    refine TC.seq ?_
    refine TC.region ?_
    refine wai rfl rfl ?_
    refine TL.nil (nt ?_)
    refine TC.ret (rb (rt ?_))
    exact Ret.i () [_] ⟨rfl, trivial⟩ rfl trivial (ent_take 0 rfl (ent_take 0 rfl (ent_nil _)))
   ·have hv : wakeS T why id = (tellS (mS T (callS T.m id).1) why [id], 0) := by rw [wakeS, if_neg hh, if_neg (fun h => h.elim h0 h4)]
    rw [hv]
    dsimp only
    refine TC.skip (nb (nt ?_))
    refine TC.seq ?_
    refine TC.open 0 rfl (fun x0 hx0 => ?_)
    obtain ⟨qb, a, pb, tb, B, M, ad, cap⟩ := x0
    have hN := hx0
    change TC _ _ _ _ _ _ _ (sepL [_, _, _, _, _, _, _, _])
    dsimp only at hN ⊢
    refine TC.region ?_
    refine wmp rfl rfl ?_
    refine wnc rfl rfl ?_
    refine wfa 2 rfl rfl rfl ?_
    refine wld rfl rfl rfl rfl ?_
    refine wmi rfl rfl ?_
    refine e rfl ?_
    refine cl (mcall_ok pb M T.m hW id (by omega)) rfl PkL.p trivial ?_
    intro _ _
    change TL _ _ _ _ _ _ _ _ (sepL [_, _, _, _, _, _, _, _])
    have hi9 := call_ids T.m id
    generalize (callS T.m id).1 = m9 at hi9 ⊢
    rw [← hi9] at hN
    rw [← hi9]
    refine TL.nil (nt ?_)
    refine TC.seq ?_
    refine TC.weak (B := sepL [isT b (mS T m9), F]) ((ent_close (⟨qb, a, pb, tb, B, M, ad, cap⟩ : TRep) hN (ent_take 1 rfl (ent_take 1 rfl (ent_take 1 rfl (ent_take 0 rfl (ent_take 0 rfl (ent_take 0 rfl (ent_take 0 rfl (ent_take 0 rfl (ent_nil _))))))))))) ?_
    have hb9 : TB (mS T m9) := ⟨by rw [show (mS T m9).m = m9 from rfl, hi9]; exact hb.ids, hb.now, hb.tn, hb.told⟩
    refine TC.region ?_
    refine wmp rfl rfl ?_
    refine wmi rfl rfl ?_
    refine wmi rfl rfl ?_
    refine e rfl ?_
    refine bs (cs := [.int _ _]) rfl ?_
    intro b5
    refine e rfl ?_
    refine cl (ttell_ok b (mS T m9) hb9 (why) (some ⟨b5, 0, none⟩) _ [id] (fun x hx => by rw [List.mem_singleton.1 hx]; show id ∈ m9.ids; rw [hi9]; exact h1) (by show T.S.length + _ ≤ _; first | omega | (simp <;> omega)) (by show T.A.length ≤ _; omega)) rfl PkL.p ⟨_, RdSI.rd (ad := (some ⟨b5, 0, none⟩))⟩ ?_
    intro _ _
    change TL _ _ _ _ _ _ _ _ (sepL [_, _, _])
    refine TL.nil (nt ?_)
    refine TC.seq ?_
    refine TC.region ?_
    refine wai rfl rfl ?_
    refine TL.nil (nt ?_)
    refine TC.ret ?_
    exact Ret.i () [_] ⟨rfl, trivial⟩ rfl trivial (ent_take 0 rfl (ent_take 1 rfl (ent_nil _)))
 ·refine e rfl ?_
  refine cl (tatc_no b T id h1) rfl PkL.p trivial ?_
  intro _ _
  change TL _ _ _ _ _ _ _ _ (sepL [_, _])
  have hv : wakeS T why id = (T, 6) := if_pos h1
  rw [hv]
  refine wmt rfl rfl ?_
  refine q rfl rfl (pu (v := .pointer _) (fun _ => rfl)) ?_
  refine q rfl rfl (pu (v := .int _ _) (fun _ => rfl)) ?_
  refine wap rfl rfl ?_
  refine wai rfl rfl ?_
  refine TL.nil (nt ?_)
  refine TC.seq ?_
  refine TC.region ?_
  refine wmp rfl rfl ?_
  refine wmi rfl rfl ?_
  refine e rfl ?_
  refine cl (tstate_ok b T id) rfl PkL.p trivial ?_
  intro _ _
  change TL _ _ _ _ _ _ _ _ (sepL [_, _])
  refine wai rfl rfl ?_
  refine TL.nil (nt ?_)
  refine TC.seq ?_
  refine TC.block ?_
  refine TC.seq ?_
  refine TC.region ?_
  refine wmi rfl rfl ?_
  refine q rfl rfl (neI rfl rfl) ?_
  refine wab rfl rfl ?_
  refine TL.nil (nt ?_)
  refine TC.condT rfl ?_
  refine TC.seq ?_
  refine TC.region ?_
  refine wmi rfl rfl ?_
  refine wai rfl rfl ?_
  refine TL.nil (nt ?_)
  refine TC.ret (rb (rt ?_))
  exact Ret.i () [_] ⟨rfl, trivial⟩ rfl trivial (ent_take 0 rfl (ent_take 0 rfl (ent_nil _)))
set_option maxRecDepth 4000 in
set_option maxHeartbeats 1000000 in
theorem trefuse_ok (b : Nat) (T : TS) (hP : TP T []) (hb : TB T) (id why : Int) : FSpec Tryz.prog 7 [.pointer (some ⟨b, 0, none⟩), .int .i64 id, .int .i64 why] noRd [isT b T] (fun _ : Unit => .tuple #[.agg (ofC (refuseS T id why).2.1).toArray, .int .i64 (refuseS T id why).2.2]) (fun _ => True) (fun _ => [isT b (refuseS T id why).1]) := by
 refine FSpec.intro (rs := [.cell 6 26, .tmp 7]) (by kernel_rfl) Tryz.func7 rfl Tryz.ntmps7 (by rfl) rfl ?_
 intro F _
 change TC _ _ _ _ _ _ _ (sepL [_, _])
 obtain ⟨hSl, hAl, _, hil⟩ := hP.bds hb
 have hW := hP.wm
 have hnow := hb.now
 have htn := hb.tn
 have htold := hb.told
 refine TC.seq ?_
 refine TC.region ?_
 refine e rfl ?_
 refine al (l := [.int _ _, .int _ _, .bool _]) rfl rfl ?_
 intro b6
 refine wai rfl rfl ?_
 refine TL.nil (nt ?_)
 refine TC.seq ?_
 refine TC.region ?_
 refine wmp rfl rfl ?_
 refine wmi rfl rfl ?_
 by_cases h1 : id ∈ T.m.ids
 ·refine e rfl ?_
  refine cl (tatc_yes b T id h1) rfl PkL.p trivial ?_
  intro y0 _
  change TL _ _ _ _ _ _ _ _ (sepL [_, _, _])
  have hh : ¬ id ∉ T.m.ids := fun h => h h1
  have hrr : rowR T.m id = T.m.row id := if_pos h1
  refine wmt rfl rfl ?_
  refine q rfl rfl (pu (v := .pointer _) (fun _ => rfl)) ?_
  refine q rfl rfl (pu (v := .int _ _) (fun _ => rfl)) ?_
  refine wap rfl rfl ?_
  refine wai rfl rfl ?_
  refine TL.nil (nt ?_)
  refine TC.seq ?_
  refine TC.seq ?_
  refine TC.region ?_
  refine wmi rfl rfl ?_
  refine q rfl rfl (neI rfl rfl) ?_
  refine TL.nil (nt ?_)
  refine TC.condF rfl ?_
  refine TC.skip (nt ?_)
  refine TC.seq ?_
  refine TC.open 0 rfl (fun x0 hx0 => ?_)
  obtain ⟨qb, a, pb, tb, B, M, ad, cap⟩ := x0
  have hN := hx0
  change TC _ _ _ _ _ _ _ (sepL [_, _, _, _, _, _, _, _, _])
  dsimp only at hN ⊢
  refine TC.region ?_
  refine wmp rfl rfl ?_
  refine wnc rfl rfl ?_
  refine wfa 2 rfl rfl rfl ?_
  refine wld rfl rfl rfl rfl ?_
  refine wmi rfl rfl ?_
  refine e rfl ?_
  refine cl (mfirst_at pb M T.m id) rfl PkL.p trivial ?_
  intro _ _
  change TL _ _ _ _ _ _ _ _ (sepL [_, _, _, _, _, _, _, _, _])
  rw [hrr]
  rcases row_cases (T.m.row id) with hr | ⟨o, r9, hr⟩
  ·have hv : refuseS T id why = (T, o0, 6) := by rw [refuseS, if_neg hh, hr]
   rw [hv, hr]
   refine wmt rfl rfl ?_
   refine q rfl rfl (pu (v := .agg #[_, _, _]) (fun _ => rfl)) ?_
   refine q rfl rfl (pu (v := .bool _) (fun _ => rfl)) ?_
   refine e rfl ?_
   refine al (l := [.int _ _, .int _ _, .bool _]) rfl rfl ?_
   intro b7
   refine e0 ?_
   refine st (v := .agg #[_, _, _]) (vs := [_, _, _]) 3 rfl rfl rfl rfl rfl rfl (Nat.le_of_ble_eq_true rfl) rfl ?_
   refine wab rfl rfl ?_
   refine TL.nil (nt ?_)
   refine TC.seq ?_
   refine TC.seq ?_
   refine TC.region ?_
   refine wmb rfl rfl ?_
   refine q rfl rfl (notB rfl) ?_
   refine TL.nil (nt ?_)
   refine TC.condT rfl ?_
   refine TC.seq ?_
   refine TC.region ?_
   refine q rfl rfl (bld (cs := [.int _ _, .int _ _, .bool _]) rfl) ?_
   refine e0 ?_
   refine st (v := .agg #[_, _, _]) (vs := [_, _, _]) 3 rfl rfl rfl rfl rfl rfl (Nat.le_of_ble_eq_true rfl) rfl ?_
   refine wai rfl rfl ?_
   refine TL.nil (nt ?_)
   refine TC.ret (rt ?_)
   exact Ret.i () [_, _] ⟨(rcN (n := 3) rfl rfl rfl rfl), rfl, trivial⟩ rfl trivial (ent_close (⟨qb, a, pb, tb, B, M, ad, cap⟩ : TRep) hN (ent_take 3 rfl (ent_take 3 rfl (ent_take 3 rfl (ent_take 2 rfl (ent_take 2 rfl (ent_take 2 rfl (ent_take 2 rfl (ent_take 2 rfl (ent_nil _))))))))))
  ·have hv : refuseS T id why = (tellS (mS T (callS T.m o.fr).1) why [o.fr], o, 0) := by rw [refuseS, if_neg hh, hr]
   rw [hv, hr]
   dsimp only
   have hof := (hW.row id h1 o (by rw [hr]; simp)).1
   refine wmt rfl rfl ?_
   refine q rfl rfl (pu (v := .agg #[_, _, _]) (fun _ => rfl)) ?_
   refine q rfl rfl (pu (v := .bool _) (fun _ => rfl)) ?_
   refine e rfl ?_
   refine al (l := [.int _ _, .int _ _, .bool _]) rfl rfl ?_
   intro b8
   refine e0 ?_
   refine st (v := .agg #[_, _, _]) (vs := [_, _, _]) 3 rfl rfl rfl rfl rfl rfl (Nat.le_of_ble_eq_true rfl) rfl ?_
   refine wab rfl rfl ?_
   refine TL.nil (nt ?_)
   refine TC.seq ?_
   refine TC.seq ?_
   refine TC.region ?_
   refine wmb rfl rfl ?_
   refine q rfl rfl (notB rfl) ?_
   refine TL.nil (nt ?_)
   refine TC.condF rfl ?_
   refine TC.skip (nt ?_)
   refine TC.seq ?_
   refine TC.draw _ [] [(0, false), (1, false), (2, false), (3, false), (4, false), (5, false), (6, true)] (by kernel_rfl) (by kernel_rfl) (ent_take 0 rfl (ent_take 1 rfl (ent_nil _))) ?_
   refine vmp rfl rfl rfl ?_
   refine vnc rfl rfl rfl ?_
   refine vfa 2 rfl rfl rfl rfl ?_
   refine vld rfl rfl rfl rfl rfl ?_
   refine vfa 0 rfl rfl rfl rfl ?_
   refine vld rfl rfl rfl rfl rfl ?_
   refine de rfl rfl ?_
   refine cl (mcall_ok pb M T.m hW o.fr (by omega)) rfl PkL.p trivial ?_
   intro _ _
   change ent _ _ ∧ TD _ _ _ _ _ _ _ _ _ _ (sepL [_, _, _, _, _, _, _, _, _, _])
   refine ⟨(ent_take 1 rfl (ent_take 1 rfl (ent_nil _))), ?_⟩
   have hi9 := call_ids T.m o.fr
   generalize (callS T.m o.fr).1 = m9 at hi9 ⊢
   rw [← hi9] at hN
   rw [← hi9]
   refine TD.nil (nt ?_)
   refine TC.seq ?_
   refine TC.weak (B := sepL [isT b (mS T m9), pts b8 26 (ofC o), pts b6 26 (ofC o0), F]) ((ent_close (⟨qb, a, pb, tb, B, M, ad, cap⟩ : TRep) hN (ent_take 2 rfl (ent_take 2 rfl (ent_take 2 rfl (ent_take 0 rfl (ent_take 1 rfl (ent_take 1 rfl (ent_take 1 rfl (ent_take 0 rfl (ent_take 0 rfl (ent_take 0 rfl (ent_nil _))))))))))))) ?_
   have hb9 : TB (mS T m9) := ⟨by rw [show (mS T m9).m = m9 from rfl, hi9]; exact hb.ids, hb.now, hb.tn, hb.told⟩
   refine TC.region ?_
   refine wmp rfl rfl ?_
   refine wmi rfl rfl ?_
   refine wfa 0 rfl rfl rfl ?_
   refine wld rfl rfl rfl rfl ?_
   refine e rfl ?_
   refine bs (cs := [.int _ _]) rfl ?_
   intro b9
   refine e rfl ?_
   refine cl (ttell_ok b (mS T m9) hb9 (why) (some ⟨b9, 0, none⟩) _ [o.fr] (fun x hx => by rw [List.mem_singleton.1 hx]; show o.fr ∈ m9.ids; rw [hi9]; exact hof) (by show T.S.length + _ ≤ _; first | omega | (simp <;> omega)) (by show T.A.length ≤ _; omega)) rfl PkL.p ⟨_, RdSI.rd (ad := (some ⟨b9, 0, none⟩))⟩ ?_
   intro _ _
   change TL _ _ _ _ _ _ _ _ (sepL [_, _, _, _, _])
   refine TL.nil (nt ?_)
   refine TC.seq ?_
   refine TC.region ?_
   refine q rfl rfl (ldN (vs := [_, _, _]) 3 rfl rfl rfl rfl) ?_
   refine e0 ?_
   refine st (v := .agg #[_, _, _]) (vs := [_, _, _]) 3 rfl rfl rfl rfl rfl rfl (Nat.le_of_ble_eq_true rfl) rfl ?_
   refine wai rfl rfl ?_
   refine TL.nil (nt ?_)
   refine TC.ret ?_
   exact Ret.i () [_, _] ⟨(rcN (n := 3) rfl rfl rfl rfl), rfl, trivial⟩ rfl trivial (ent_take 1 rfl (ent_take 3 rfl (ent_nil _)))
 ·refine e rfl ?_
  refine cl (tatc_no b T id h1) rfl PkL.p trivial ?_
  intro _ _
  change TL _ _ _ _ _ _ _ _ (sepL [_, _, _])
  have hv : refuseS T id why = (T, o0, 6) := if_pos h1
  rw [hv]
  refine wmt rfl rfl ?_
  refine q rfl rfl (pu (v := .pointer _) (fun _ => rfl)) ?_
  refine q rfl rfl (pu (v := .int _ _) (fun _ => rfl)) ?_
  refine wap rfl rfl ?_
  refine wai rfl rfl ?_
  refine TL.nil (nt ?_)
  refine TC.seq ?_
  refine TC.seq ?_
  refine TC.region ?_
  refine wmi rfl rfl ?_
  refine q rfl rfl (neI rfl rfl) ?_
  refine TL.nil (nt ?_)
  refine TC.condT rfl ?_
  refine TC.seq ?_
  refine TC.region ?_
  refine q rfl rfl (bld (cs := [.int _ _, .int _ _, .bool _]) rfl) ?_
  refine wmi rfl rfl ?_
  refine e0 ?_
  refine st (v := .agg #[_, _, _]) (vs := [_, _, _]) 3 rfl rfl rfl rfl rfl rfl (Nat.le_of_ble_eq_true rfl) rfl ?_
  refine wai rfl rfl ?_
  refine TL.nil (nt ?_)
  refine TC.ret (rt ?_)
  exact Ret.i () [_, _] ⟨(rcN (n := 3) rfl rfl rfl rfl), rfl, trivial⟩ rfl trivial (ent_take 1 rfl (ent_take 1 rfl (ent_nil _)))
set_option maxRecDepth 4000 in
set_option maxHeartbeats 1000000 in
theorem tanswer_ok (b : Nat) (T : TS) (hP : TP T []) (hb : TB T) (id : Int) : FSpec Tryz.prog 8 [.pointer (some ⟨b, 0, none⟩), .int .i64 id] noRd [isT b T] (fun _ : Unit => .tuple #[.int .i64 (answerS T id).2.1, .int .i64 (answerS T id).2.2]) (fun _ => True) (fun _ => [isT b (answerS T id).1]) := by
 refine FSpec.intro (rs := [.tmp 4, .tmp 5]) (by kernel_rfl) Tryz.func8 rfl Tryz.ntmps8 (by rfl) rfl ?_
 intro F _
 change TC _ _ _ _ _ _ _ (sepL [_, _])
 obtain ⟨hSl, hAl, _, hil⟩ := hP.bds hb
 have hW := hP.wm
 have hnow := hb.now
 have htn := hb.tn
 have htold := hb.told
 refine TC.seq ?_
 refine TC.region ?_
 refine wai rfl rfl ?_
 refine wai rfl rfl ?_
 refine TL.nil (nt ?_)
 refine TC.seq ?_
 refine TC.region ?_
 refine wmp rfl rfl ?_
 refine wmi rfl rfl ?_
 by_cases h1 : id ∈ T.m.ids
 ·refine e rfl ?_
  refine cl (tatc_yes b T id h1) rfl PkL.p trivial ?_
  intro y0 _
  change TL _ _ _ _ _ _ _ _ (sepL [_, _])
  have hh : ¬ id ∉ T.m.ids := fun h => h h1
  refine wmt rfl rfl ?_
  refine q rfl rfl (pu (v := .pointer _) (fun _ => rfl)) ?_
  refine q rfl rfl (pu (v := .int _ _) (fun _ => rfl)) ?_
  refine wap rfl rfl ?_
  refine wai rfl rfl ?_
  refine TL.nil (nt ?_)
  refine TC.seq ?_
  refine TC.block ?_
  refine TC.seq ?_
  refine TC.region ?_
  refine wmi rfl rfl ?_
  refine q rfl rfl (neI rfl rfl) ?_
  refine wab rfl rfl ?_
  refine TL.nil (nt ?_)
  refine TC.condF rfl ?_
  refine TC.seq ?_
  refine TC.region ?_
  refine wmp rfl rfl ?_
  refine wmi rfl rfl ?_
  refine e rfl ?_
  refine cl (tstate_ok b T id) rfl PkL.p trivial ?_
  intro _ _
  change TL _ _ _ _ _ _ _ _ (sepL [_, _])
  refine q rfl rfl (neI rfl rfl) ?_
  refine wab rfl rfl ?_
  refine TL.nil (nt ?_)
  refine TC.condD rfl (fun h0 => ?_) (fun h0 => ?_)
  ·have hv : answerS T id = (T, 0, 12) := by rw [answerS, if_neg hh, if_pos h0]
   rw [hv]
   refine TC.seq ?_
   refine TC.region ?_
   refine wai rfl rfl ?_
   refine wai rfl rfl ?_
   refine TL.nil (nt ?_)
   refine TC.ret (rb (rt ?_))
   exact Ret.i () [_, _] ⟨rfl, rfl, trivial⟩ rfl trivial (ent_take 0 rfl (ent_take 0 rfl (ent_nil _)))
  ·refine TC.skip (nb (nt ?_))
   refine TC.seq ?_
   refine TC.open 0 rfl (fun x0 hx0 => ?_)
   obtain ⟨qb, a, pb, tb, B, M, ad, cap⟩ := x0
   have hN := hx0
   change TC _ _ _ _ _ _ _ (sepL [_, _, _, _, _, _, _, _])
   dsimp only at hN ⊢
   refine TC.region ?_
   refine wmp rfl rfl ?_
   refine wnc rfl rfl ?_
   refine wfa 2 rfl rfl rfl ?_
   refine wld rfl rfl rfl rfl ?_
   refine wmi rfl rfl ?_
   refine e rfl ?_
   refine cl (manswer_ok pb M T.m hW id) rfl PkL.p trivial ?_
   intro _ _
   change TL _ _ _ _ _ _ _ _ (sepL [_, _, _, _, _, _, _, _])
   refine wmt rfl rfl ?_
   refine q rfl rfl (pu (v := .int _ _) (fun _ => rfl)) ?_
   refine q rfl rfl (pu (v := .int _ _) (fun _ => rfl)) ?_
   refine wai rfl rfl ?_
   refine wai rfl rfl ?_
   refine TL.nil (nt ?_)
   refine TC.seq ?_
   refine TC.seq ?_
   refine TC.region ?_
   refine wmi rfl rfl ?_
   refine q rfl rfl (eqI rfl rfl) ?_
   refine TL.nil (nt ?_)
   refine TC.condD rfl (fun he => ?_) (fun he => ?_)
   ·have hv : answerS T id = (tellS (mS T (ansS T.m id).1) 0 [(ansS T.m id).2.1], (ansS T.m id).2.1, 0) := by rw [answerS, if_neg hh, if_neg h0, if_pos he]
    rw [hv, he]
    dsimp only
    have hof : (ansS T.m id).2.1 ∈ T.m.ids := by
     rw [ansS] at he ⊢
     split at he
     ·cases he
     ·rename_i h3
      rw [if_neg h3]
      split at he
      ·cases he
      ·rename_i h4
       rw [if_neg h4]
       split at he
       ·cases he
       ·rename_i h5; rw [if_neg h5]; exact (hW.cal id h1 h5).1
    clear he hv
    generalize (ansS T.m id).2.1 = w9 at hof ⊢
    have hi9 := ans_ids T.m id
    generalize (ansS T.m id).1 = m9 at hi9 ⊢
    rw [← hi9] at hN
    rw [← hi9]
    refine TC.weak (B := sepL [isT b (mS T m9), F]) ((ent_close (⟨qb, a, pb, tb, B, M, ad, cap⟩ : TRep) hN (ent_take 1 rfl (ent_take 1 rfl (ent_take 1 rfl (ent_take 0 rfl (ent_take 0 rfl (ent_take 0 rfl (ent_take 0 rfl (ent_take 0 rfl (ent_nil _))))))))))) ?_
    have hb9 : TB (mS T m9) := ⟨by rw [show (mS T m9).m = m9 from rfl, hi9]; exact hb.ids, hb.now, hb.tn, hb.told⟩
    refine TC.region ?_
    refine wmp rfl rfl ?_
    refine wmi rfl rfl ?_
    refine e rfl ?_
    refine bs (cs := [.int _ _]) rfl ?_
    intro b10
    refine e rfl ?_
    refine cl (ttell_ok b (mS T m9) hb9 (0) (some ⟨b10, 0, none⟩) _ [w9] (fun x hx => by rw [List.mem_singleton.1 hx]; show w9 ∈ m9.ids; rw [hi9]; exact hof) (by show T.S.length + _ ≤ _; first | omega | (simp <;> omega)) (by show T.A.length ≤ _; omega)) rfl PkL.p ⟨_, RdSI.rd (ad := (some ⟨b10, 0, none⟩))⟩ ?_
    intro _ _
    change TL _ _ _ _ _ _ _ _ (sepL [_, _, _])
    refine TL.nil (nt ?_)
    refine TC.seq ?_
    refine TC.region ?_
    refine wmi rfl rfl ?_
    refine wmi rfl rfl ?_
    refine wai rfl rfl ?_
    refine wai rfl rfl ?_
    refine TL.nil (nt ?_)
    refine TC.ret ?_
    exact Ret.i () [_, _] ⟨rfl, rfl, trivial⟩ rfl trivial (ent_take 0 rfl (ent_take 1 rfl (ent_nil _)))
   ·have ho : (ansS T.m id).1 = T.m := by
     rw [ansS] at he ⊢
     split at he
     ·rename_i h3; rw [if_pos h3]
     ·rename_i h3
      rw [if_neg h3]
      split at he
      ·rename_i h4; rw [if_pos h4]
      ·rename_i h4
       rw [if_neg h4]
       split at he
       ·rename_i h5; rw [if_pos h5]
       ·exact absurd rfl he
    have hv : answerS T id = (T, (ansS T.m id).2.1, (ansS T.m id).2.2) := by rw [answerS, if_neg hh, if_neg h0, if_neg he]
    rw [hv, ho]
    refine TC.skip (nt ?_)
    refine TC.seq ?_
    refine TC.region ?_
    refine wmi rfl rfl ?_
    refine wmi rfl rfl ?_
    refine wai rfl rfl ?_
    refine wai rfl rfl ?_
    refine TL.nil (nt ?_)
    refine TC.ret ?_
    exact Ret.i () [_, _] ⟨rfl, rfl, trivial⟩ rfl trivial (ent_close (⟨qb, a, pb, tb, B, M, ad, cap⟩ : TRep) hN (ent_take 1 rfl (ent_take 1 rfl (ent_take 1 rfl (ent_take 0 rfl (ent_take 0 rfl (ent_take 0 rfl (ent_take 0 rfl (ent_take 0 rfl (ent_nil _))))))))))
 ·refine e rfl ?_
  refine cl (tatc_no b T id h1) rfl PkL.p trivial ?_
  intro _ _
  change TL _ _ _ _ _ _ _ _ (sepL [_, _])
  have hv : answerS T id = (T, 0, 6) := if_pos h1
  rw [hv]
  refine wmt rfl rfl ?_
  refine q rfl rfl (pu (v := .pointer _) (fun _ => rfl)) ?_
  refine q rfl rfl (pu (v := .int _ _) (fun _ => rfl)) ?_
  refine wap rfl rfl ?_
  refine wai rfl rfl ?_
  refine TL.nil (nt ?_)
  refine TC.seq ?_
  refine TC.block ?_
  refine TC.seq ?_
  refine TC.region ?_
  refine wmi rfl rfl ?_
  refine q rfl rfl (neI rfl rfl) ?_
  refine wab rfl rfl ?_
  refine TL.nil (nt ?_)
  refine TC.condT rfl ?_
  refine TC.seq ?_
  refine TC.region ?_
  refine wmi rfl rfl ?_
  refine wai rfl rfl ?_
  refine wai rfl rfl ?_
  refine TL.nil (nt ?_)
  refine TC.ret (rb (rt ?_))
  exact Ret.i () [_, _] ⟨rfl, rfl, trivial⟩ rfl trivial (ent_take 0 rfl (ent_take 0 rfl (ent_nil _)))
set_option maxRecDepth 4000 in
theorem tclose_ok (b : Nat) (T : TS) (hP : TP T []) (hb : TB T) (gt : Int) : FSpec Tryz.prog 16 [.pointer (some ⟨b, 0, none⟩), .int .i64 gt] noRd [isT b T] (fun _ : Unit => .int .i64 (closeT T gt).2) (fun _ => True) (fun _ => [isT b (closeT T gt).1]) := by
 refine FSpec.intro (rs := [.tmp 4]) (by kernel_rfl) Tryz.func16 rfl Tryz.ntmps16 (by rfl) rfl ?_
 intro F _
 change TC _ _ _ _ _ _ _ (sepL [_, _])
 obtain ⟨hSl, hAl, _, hil⟩ := hP.bds hb
 have hW := hP.wm
 have hnow := hb.now
 have htn := hb.tn
 have htold := hb.told
 refine TC.seq ?_
 refine TC.region ?_
 refine wai rfl rfl ?_
 refine TL.nil (nt ?_)
 refine TC.seq ?_
 refine TC.seq ?_
 refine TC.region ?_
 refine wmp rfl rfl ?_
 refine q rfl rfl (eqNil rfl rfl rfl) ?_
 refine TL.nil (nt ?_)
 refine TC.condF rfl ?_
 refine TC.skip (nt ?_)
 refine TC.seq ?_
 refine TC.open 0 rfl (fun x0 hx0 => ?_)
 obtain ⟨qb, a, pb, tb, B, M, ad, cap⟩ := x0
 have hN := hx0
 change TC _ _ _ _ _ _ _ (sepL [_, _, _, _, _, _, _, _])
 dsimp only at hN ⊢
 refine TC.region ?_
 refine wmp rfl rfl ?_
 refine wnc rfl rfl ?_
 refine wfa 2 rfl rfl rfl ?_
 refine wld rfl rfl rfl rfl ?_
 refine wmi rfl rfl ?_
 refine e rfl ?_
 refine cl (mclose_ok pb M T.m hW gt (by omega)) rfl PkL.p trivial ?_
 intro yl _
 change TL _ _ _ _ _ _ _ _ (sepL [_, _, _, _, _, _, _, _, _])
 have hgn : ∀ x ∈ (closeS T.m gt).2, x ∈ T.m.ids := fun x hx => (gone_in hW hx).1
 have hgl := nodup_sub_len (close_nd hW gt) hgn
 have hv : closeT T gt = (tellS (mS T (closeS T.m gt).1) 13 (closeS T.m gt).2, ((closeS T.m gt).2.length : Int)) := rfl
 rw [hv]
 dsimp only
 clear hv
 generalize (closeS T.m gt).2 = G9 at hgn hgl ⊢
 have hgi := ints_length G9
 have hi9 := (show (closeS T.m gt).1.ids = T.m.ids from rfl)
 generalize (closeS T.m gt).1 = m9 at hi9 ⊢
 rw [← hi9] at hN
 rw [← hi9]
 refine was rfl rfl ?_
 refine TL.nil (nt ?_)
 refine TC.seq ?_
 refine TC.weak (B := sepL [isT b (mS T m9), slc 3 1 yl.1 G9.length yl.2 (ints G9), F]) ((ent_close (⟨qb, a, pb, tb, B, M, ad, cap⟩ : TRep) hN (ent_take 2 rfl (ent_take 2 rfl (ent_take 2 rfl (ent_take 1 rfl (ent_take 1 rfl (ent_take 1 rfl (ent_take 1 rfl (ent_take 0 rfl (ent_take 0 rfl (ent_nil _)))))))))))) ?_
 have hb9 : TB (mS T m9) := ⟨by rw [show (mS T m9).m = m9 from rfl, hi9]; exact hb.ids, hb.now, hb.tn, hb.told⟩
 refine TC.region ?_
 refine wmp rfl rfl ?_
 refine wms rfl rfl ?_
 refine e rfl ?_
 refine cl (ttell_ok b (mS T m9) hb9 (13) yl.1 _ G9 (fun x hx => by show x ∈ m9.ids; rw [hi9]; exact hgn x hx) (by show T.S.length + _ ≤ _; first | omega | (simp <;> omega)) (by show T.A.length ≤ _; omega)) rfl PkL.p ⟨_, RdSI.rd (ad := yl.1)⟩ ?_
 intro _ _
 change TL _ _ _ _ _ _ _ _ (sepL [_, _, _])
 refine TL.nil (nt ?_)
 refine TC.seq ?_
 refine TC.region ?_
 refine wms rfl rfl ?_
 refine q rfl rfl (len 3 1 rfl rfl) ?_
 refine wai rfl rfl ?_
 refine TL.nil (nt ?_)
 refine TC.ret ?_
 exact Ret.i () [_] ⟨rfl, trivial⟩ rfl trivial (ent_take 0 rfl (ent_take 1 rfl (ent_nil _)))
end Go.Proofs.YtdfmfhcjnjfjbaaGreat
namespace Go.Proofs.YtdfmfhcjnjfjbaaGreat
open Go Go.QM
open Al (En hasA Nd clrA setA offA dueA restA leftA ids)
open Rd (hasS NdS addS RInv topS runS tickS yieldS rndS)
theorem tick_mem {S : List Rd.Th} (hn : NdS S) (hl : ∀ t ∈ S, 1 ≤ t.left ∧ t.left ≤ t.whole) {t : Rd.Th} (ht : t ∈ tickS S) : ∃ u ∈ S, u.id = t.id ∧ u.prio = t.prio ∧ u.whole = t.whole ∧ 1 ≤ t.left ∧ t.left ≤ t.whole := by
  rw [tickS] at ht
  cases htop : topS S with
  | none => rw [htop] at ht; exact ⟨t, ht, rfl, rfl, rfl, hl t ht⟩
  | some v =>
    rw [htop] at ht
    have hv := (Rd.top_mem htop).1
    have h1 := hl v hv
    dsimp only at ht
    split at ht
    · rcases List.mem_append.1 ht with h | h
      · have := (List.mem_filter.1 h).1
        exact ⟨t, this, rfl, rfl, rfl, hl t this⟩
      · rw [List.mem_singleton.1 h]; exact ⟨v, hv, rfl, rfl, rfl, by dsimp only; omega, Int.le_refl _⟩
    · obtain ⟨u, hu, rfl⟩ := List.mem_map.1 ht
      have h2 := hl u hu
      refine ⟨u, hu, ?_⟩
      split
      · rename_i hne e
        refine ⟨rfl, rfl, rfl, ?_⟩
        dsimp only
        have e2 := Rd.NdS.inj hn hu hv e
        rw [e2]; omega
      · exact ⟨rfl, rfl, rfl, h2⟩
theorem yield_mem {S : List Rd.Th} (hl : ∀ t ∈ S, 1 ≤ t.left ∧ t.left ≤ t.whole) {t : Rd.Th} (ht : t ∈ yieldS S) : ∃ u ∈ S, u.id = t.id ∧ u.prio = t.prio ∧ u.whole = t.whole ∧ 1 ≤ t.left ∧ t.left ≤ t.whole := by
  rw [yieldS] at ht
  cases htop : topS S with
  | none => rw [htop] at ht; exact ⟨t, ht, rfl, rfl, rfl, hl t ht⟩
  | some v =>
    rw [htop] at ht
    have hv := (Rd.top_mem htop).1
    have h1 := hl v hv
    rcases List.mem_append.1 ht with h | h
    · have := (List.mem_filter.1 h).1
      exact ⟨t, this, rfl, rfl, rfl, hl t this⟩
    · rw [List.mem_singleton.1 h]; exact ⟨v, hv, rfl, rfl, rfl, by dsimp only; omega, Int.le_refl _⟩
theorem tick_has (S : List Rd.Th) (x : Int) : hasS (tickS S) x ↔ hasS S x := by
  rw [tickS]
  cases htop : topS S with
  | none => exact Iff.rfl
  | some v =>
    dsimp only
    split
    · exact Rd.rnd_has (Rd.top_mem htop).1 x
    · exact Rd.setL_has S _ _ x
theorem yield_has (S : List Rd.Th) (x : Int) : hasS (yieldS S) x ↔ hasS S x := by
  rw [yieldS]
  cases htop : topS S with
  | none => exact Iff.rfl
  | some v => exact Rd.rnd_has (Rd.top_mem htop).1 x
theorem RInv_yield {S : List Rd.Th} (h : RInv S) : RInv (yieldS S) := by
  rw [yieldS]
  cases htop : topS S with
  | none => exact h
  | some v => exact h.rnd (Rd.top_mem htop).1
theorem TP.queue {T : TS} (h : TP T []) {S' : List Rd.Th} (hR : RInv S') (hm : ∀ t ∈ S', ∃ u ∈ T.S, u.id = t.id ∧ u.prio = t.prio ∧ u.whole = t.whole ∧ 1 ≤ t.left ∧ t.left ≤ t.whole) (hh : ∀ x, hasS S' x ↔ hasS T.S x) : TP { T with S := S' } [] := by
  refine ⟨h.wm, hR, fun t ht => ?_, fun t ht => ?_, fun x => ?_, h.na, h.al, h.off, h.ps, h.tm, h.L1, h.Ln⟩
  · obtain ⟨u, _, _, _, _, h5⟩ := hm t ht; exact h5
  · obtain ⟨u, h1, h2, h3, h4, _⟩ := hm t ht
    have := h.sp u h1
    rw [← h2, ← h3, ← h4]; exact this
  · show hasS S' x ↔ _
    rw [hh]; exact h.rdy x
theorem TP.yield {T : TS} (h : TP T []) : TP (yieldT T) [] := h.queue (RInv_yield h.rj) (fun t ht => yield_mem h.lf ht) (yield_has T.S)
theorem rest_sub (t : Int) (A : List En) : (restA t A).Sublist A := List.filter_sublist
theorem TP.tick1 {T : TS} (h : TP T []) : TP (tickT1 T) [] := by
  have h1 := h.queue (h.rj.tick fun t ht => (h.lf t ht).1) (fun t ht => tick_mem h.rj.nd h.lf ht) (tick_has T.S)
  refine ⟨h1.wm, h1.rj, h1.lf, h1.sp, h1.rdy, h.na.sublist ((rest_sub _ _).map _), fun x hx => ?_, h1.off, h1.ps, fun e he => ?_, h1.L1, h1.Ln⟩
  · obtain ⟨e, he, rfl⟩ := hx
    exact h.al e.id ⟨e, (rest_sub _ _).subset he, rfl⟩
  · have h2 := h.tm e ((rest_sub _ _).subset he)
    have h3 : ¬ e.at_ ≤ T.now + 1 := by simpa using (List.mem_filter.1 he).2
    show T.now + 1 < e.at_ ∧ e.at_ ≤ T.now + 1 + 1048576
    omega
theorem wakeL_TP : ∀ (l : List Int) {T : TS}, TP T [] → TP (wakeL T l) []
  | [], _, h => h
  | x :: l, _, h => wakeL_TP l (h.wake 14 x)
theorem TP.tick {T : TS} (h : TP T []) : TP (tickT T) [] := wakeL_TP _ h.tick1
theorem TP.told {T : TS} (h : TP T []) : TP (toldT T) [] := ⟨h.wm, h.rj, h.lf, h.sp, h.rdy, h.na, h.al, h.off, h.ps, h.tm, h.L1, h.Ln⟩
theorem TP.start {T : TS} (h : TP T []) (id p s : Int) : TP (startS T id p s).1 [] := by
  rw [startS]
  split
  · exact h
  · rename_i h1
    have h1 := Decidable.not_not.1 h1
    split
    · exact h
    · rename_i h2
      split
      · exact h
      · rename_i h3
        have hx : ¬ hasS T.S id := fun h4 => h3 ((h.rdy id).1 h4).1.2.1
        have h0 := h.wm.ge id h1
        have hs : T.m.st id = 0 := Decidable.byContradiction fun h4 => h3 (h.off id h1 h4)
        rw [add_yes h0 (by omega) (by omega) hx]
        refine ⟨h.wm, h.rj.add (t := ⟨id, p, s, s⟩) hx (by dsimp only; omega), fun t ht => ?_, fun t ht => ?_, fun y => ?_, h.na, h.al, fun y hy hst => ?_, fun y hy hon => ?_, h.tm, fun y hy => (List.not_mem_nil hy).elim, List.nodup_nil⟩
        · rcases List.mem_append.1 ht with ht | ht
          · exact h.lf t ht
          · rw [List.mem_singleton.1 ht]; dsimp only; omega
        · show t.prio = updI T.pr id p t.id ∧ t.whole = updI T.sl id s t.id
          rcases List.mem_append.1 ht with ht | ht
          · have hne : t.id ≠ id := fun e => hx ⟨t, ht, e⟩
            rw [updI_ne hne, updI_ne hne]; exact h.sp t ht
          · rw [List.mem_singleton.1 ht]; dsimp only; rw [updI_same, updI_same]; exact ⟨rfl, rfl⟩
        · show hasS (T.S ++ [⟨id, p, s, s⟩]) y ↔ (y ∈ T.m.ids ∧ updI T.on id true y = true ∧ T.m.st y = 0) ∧ y ∉ []
          rw [has_app, h.rdy]
          by_cases e : y = id
          · rw [e, updI_same]
            exact ⟨fun _ => ⟨⟨h1, rfl, hs⟩, List.not_mem_nil⟩, fun _ => .inr rfl⟩
          · rw [updI_ne e]
            exact ⟨fun h4 => h4.resolve_right fun e2 => e e2.symm, .inl⟩
        · show updI T.on id true y = true
          by_cases e : y = id
          · rw [e, updI_same]
          · rw [updI_ne e]; exact h.off y hy hst
        · have hon : updI T.on id true y = true := hon
          show (0 ≤ updI T.pr id p y ∧ updI T.pr id p y ≤ 7) ∧ 1 ≤ updI T.sl id s y ∧ updI T.sl id s y ≤ 16
          by_cases e : y = id
          · rw [e, updI_same, updI_same]; omega
          · rw [updI_ne e] at hon
            rw [updI_ne e, updI_ne e]; exact h.ps y hy hon
theorem TP.stop {T : TS} (h : TP T []) (id : Int) : TP (stopS T id).1 [] := by
  rw [stopS]
  split
  · exact h
  · rename_i h1
    have h1 := Decidable.not_not.1 h1
    split
    · exact h
    · have hc := call_st T.m id h1
      have hm : ∀ y, y ∈ (callS T.m id).1.ids ↔ y ∈ T.m.ids := fun y => by rw [hc.2]
      refine ⟨h.wm.call id, h.rj.sub (Rd.dropS_sub _ _), fun t ht => h.lf t ((Rd.dropS_sub _ _).subset ht), fun t ht => h.sp t ((Rd.dropS_sub _ _).subset ht), fun y => ?_, clr_Nd h.na _, fun y hy => ?_, fun y hy hs => ?_, fun y hy hon => ?_, fun e he => h.tm e (clr_mem he), fun y hy => (List.not_mem_nil hy).elim, List.nodup_nil⟩
      · show hasS (Rd.dropS T.S [id]) y ↔ (y ∈ (callS T.m id).1.ids ∧ updI T.on id false y = true ∧ (callS T.m id).1.st y = 0) ∧ y ∉ []
        rw [drop_has, h.rdy, hm, List.mem_singleton]
        by_cases e : y = id
        · rw [e, updI_same]
          exact ⟨fun h4 => absurd rfl h4.2, fun h4 => by cases h4.1.2.1⟩
        · rw [updI_ne e, call_ne _ _ e]
          exact ⟨fun h4 => h4.1, fun h4 => ⟨h4, e⟩⟩
      · obtain ⟨h4, h5⟩ := clr_has.1 hy
        have h5 : y ≠ id := by simpa using h5
        have h6 := h.al y h4
        exact ⟨(hm y).2 h6.1, .inl (by show (callS T.m id).1.st y ≠ 0; rw [call_ne _ _ h5]; exact h6.2.resolve_right List.not_mem_nil)⟩
      · have hs : (callS T.m id).1.st y ≠ 0 := hs
        have e : y ≠ id := fun e => hs (by rw [e]; exact hc.1)
        show updI T.on id false y = true
        rw [updI_ne e]
        rw [call_ne _ _ e] at hs
        exact h.off y ((hm y).1 hy) hs
      · have hon : updI T.on id false y = true := hon
        have e : y ≠ id := fun e => by rw [e, updI_same] at hon; cases hon
        rw [updI_ne e] at hon
        exact h.ps y ((hm y).1 hy) hon
theorem TP.add {T : TS} (h : TP T []) (id : Int) : TP (addT T id) [] := by
  rw [addT]
  split
  · exact h
  · rename_i hn
    have hx : id ∉ T.m.ids := fun h2 => hn (.inl h2)
    have hj : joinS T.m id = ⟨T.m.ids ++ [id], updI T.m.st id 0, updI T.m.cl id (-1), updI T.m.pn id (-1), updI T.m.row id []⟩ := if_neg hn
    have hW := h.wm.join id
    have hne : ∀ y ∈ T.m.ids, y ≠ id := fun y hy e => hx (e ▸ hy)
    have hm : ∀ y, y ∈ (joinS T.m id).ids ↔ y ∈ T.m.ids ∨ y = id := fun y => by rw [hj]; simp
    have hst : ∀ y, y ≠ id → (joinS T.m id).st y = T.m.st y := fun y hy => by rw [hj]; exact updI_ne hy
    refine ⟨hW, h.rj, h.lf, fun t ht => ?_, fun y => ?_, h.na, fun y hy => ?_, fun y hy hs => ?_, fun y hy hon => ?_, h.tm, fun y hy => (List.not_mem_nil hy).elim, List.nodup_nil⟩
    · have h2 := ((h.rdy t.id).1 ⟨t, ht, rfl⟩).1.1
      show t.prio = updI T.pr id 0 t.id ∧ t.whole = updI T.sl id 0 t.id
      rw [updI_ne (hne _ h2), updI_ne (hne _ h2)]; exact h.sp t ht
    · show hasS T.S y ↔ (y ∈ (joinS T.m id).ids ∧ updI T.on id false y = true ∧ (joinS T.m id).st y = 0) ∧ y ∉ []
      rw [h.rdy, hm]
      by_cases e : y = id
      · rw [e, updI_same]
        exact ⟨fun h4 => absurd h4.1.1 hx, fun h4 => by cases h4.1.2.1⟩
      · rw [updI_ne e, hst y e]
        exact ⟨fun h4 => ⟨⟨.inl h4.1.1, h4.1.2⟩, h4.2⟩, fun h4 => ⟨⟨h4.1.1.resolve_right e, h4.1.2⟩, h4.2⟩⟩
    · have h2 := h.al y hy
      exact ⟨(hm y).2 (.inl h2.1), .inl (by show (joinS T.m id).st y ≠ 0; rw [hst y (hne y h2.1)]; exact h2.2.resolve_right List.not_mem_nil)⟩
    · have hs : (joinS T.m id).st y ≠ 0 := hs
      have e : y ≠ id := fun e => hs (by rw [e, hj]; exact updI_same _ _ _)
      show updI T.on id false y = true
      rw [updI_ne e]
      rw [hst y e] at hs
      exact h.off y (((hm y).1 hy).resolve_right e) hs
    · have hon : updI T.on id false y = true := hon
      have e : y ≠ id := fun e => by rw [e, updI_same] at hon; cases hon
      rw [updI_ne e] at hon
      show (0 ≤ updI T.pr id 0 y ∧ updI T.pr id 0 y ≤ 7) ∧ 1 ≤ updI T.sl id 0 y ∧ updI T.sl id 0 y ≤ 16
      rw [updI_ne e, updI_ne e]
      exact h.ps y (((hm y).1 hy).resolve_right e) hon
theorem TP.adds (l : List Int) : ∀ {T : TS}, TP T [] → TP (addL T l) [] := by
  induction l with
  | nil => exact fun h => h
  | cons x l ih => intro T h; exact ih (h.add x)
theorem TP.zero : TP t0 [] := ⟨WM.zero, Rd.RInv.nil, (fun t h => by cases h), (fun t h => by cases h), fun x => ⟨(fun ⟨t, h, _⟩ => (by cases h)), (fun h => (List.not_mem_nil h.1.1).elim)⟩, List.nodup_nil, (fun x ⟨t, h, _⟩ => by cases h), fun x h => (List.not_mem_nil h).elim, fun x h => (List.not_mem_nil h).elim, (fun e h => by cases h), fun x h => (List.not_mem_nil h).elim, List.nodup_nil⟩
structure TG (T : TS) (n : Nat) : Prop where
  p : TP T []
  ids : T.m.ids.length ≤ 200
  now : 0 ≤ T.now ∧ T.now ≤ n
  tn : 0 ≤ T.tn ∧ T.tn ≤ n
  told : T.told.length ≤ 200 * n
theorem TG.tb {T : TS} {n : Nat} (h : TG T n) (hn : n ≤ 400000) : TB T := by
  obtain ⟨_, h1, h2, h3, h4⟩ := h
  exact ⟨by omega, by omega, by omega, by omega⟩
theorem TG.tl {T : TS} {n : Nat} (h : TG T n) (hn : n ≤ 400000) : T.told.length ≤ 90000000 := by
  have := h.told; omega
theorem TG.nw {T : TS} {n : Nat} (h : TG T n) (hn : n ≤ 400000) : T.now ≤ 900000000 := by
  have := h.now; omega
theorem TG.up {T : TS} {n m : Nat} (h : TG T n) (hm : n ≤ m) : TG T m := by
  obtain ⟨h0, h1, h2, h3, h4⟩ := h
  exact ⟨h0, h1, by omega, by omega, by omega⟩
theorem TG.next {T : TS} {n : Nat} (h : TG T n) {T' : TS} (hp : TP T' []) (hi : T'.m.ids.length ≤ 200) (h1 : T'.now = T.now ∨ T'.now = T.now + 1) (h2 : T'.tn = T.tn ∨ T'.tn = T.tn + 1) (h3 : T'.told.length ≤ T.told.length + 200) : TG T' (n + 1) := by
  obtain ⟨a0, a1, a2, a3, a4⟩ := h
  exact ⟨hp, hi, by omega, by omega, by omega⟩
theorem tells_f (T : TS) (why : Int) (l : List Int) : (tellS T why l).m = T.m ∧ (tellS T why l).now = T.now ∧ (tellS T why l).tn = T.tn ∧ (tellS T why l).told.length = T.told.length + l.length := by
  obtain ⟨e1, e2, e3, _, _, _, e7⟩ := tell_m why l T
  exact ⟨e1, e2, e3, e7⟩
theorem block_f (T : TS) (id ticks : Int) : (blockS T id ticks).m = T.m ∧ (blockS T id ticks).now = T.now ∧ ((blockS T id ticks).tn = T.tn ∨ (blockS T id ticks).tn = T.tn + 1) ∧ (blockS T id ticks).told = T.told := by
  rw [blockS]
  split
  · refine ⟨rfl, rfl, ?_, rfl⟩
    show (setA T.A T.now T.tn id ticks).2.1 = T.tn ∨ _
    rw [setA]; split
    · exact .inl rfl
    · split
      · exact .inl rfl
      · exact .inr rfl
  · exact ⟨rfl, rfl, .inl rfl, rfl⟩
theorem TG.start {T : TS} {n : Nat} (h : TG T n) (id p s : Int) : TG (startS T id p s).1 (n + 1) := by
  have hp := h.p.start id p s
  refine h.next hp ?_ (.inl ?_) (.inl ?_) ?_ <;> rw [startS] <;> (repeat' split) <;> first | exact h.ids | rfl | exact Nat.le_add_right _ _
theorem TG.stop {T : TS} {n : Nat} (h : TG T n) (id : Int) : TG (stopS T id).1 (n + 1) := by
  have hp := h.p.stop id
  refine h.next hp ?_ (.inl ?_) (.inl ?_) ?_ <;> rw [stopS] <;> (repeat' split) <;> first | exact h.ids | rfl | exact Nat.le_add_right _ _ | (show (callS T.m id).1.ids.length ≤ 200; rw [call_ids]; exact h.ids)
theorem TG.tells1 {T : TS} {n : Nat} (h : TG T n) {m : MS} (hi : m.ids.length ≤ 200) {l : List Int} (hl : l.length ≤ 200) {why : Int} {T' : TS} (e1 : T'.m = m) (e2 : T'.now = T.now) (e3 : T'.tn = T.tn) (e4 : T'.told = T.told) (hp : TP (tellS T' why l) []) : TG (tellS T' why l) (n + 1) := by
  obtain ⟨f1, f2, f3, f4⟩ := tells_f T' why l
  exact h.next hp (by rw [f1, e1]; exact hi) (.inl (by rw [f2, e2])) (.inl (by rw [f3, e3])) (by rw [f4, e4]; omega)
theorem TG.remove {T : TS} {n : Nat} (h : TG T n) (id : Int) : TG (removeS T id).1 (n + 1) := by
  have hp := h.p.remove id
  by_cases hi : id ∈ T.m.ids
  · have hv : removeS T id = (tellS (outS T id) 13 (leaveS T.m id).2.1, 0) := if_neg (fun h2 => h2 hi)
    rw [hv] at hp ⊢
    have hl := (h.p.out hi).lenL
    have hids : (outS T id).m.ids.length ≤ 200 := by
      show (leaveS T.m id).1.ids.length ≤ 200
      rw [leave_ids hi]; exact Nat.le_trans (List.length_filter_le _ _) h.ids
    exact h.tells1 (T' := outS T id) hids (by omega) rfl rfl rfl rfl hp
  · rw [show removeS T id = (T, 6) from if_pos hi]; exact h.up (Nat.le_succ _)
theorem TG.send {T : TS} {n : Nat} (h : TG T n) (fr to gt : Int) (cl : Bool) (ticks : Int) : TG (sendS T fr to gt cl ticks).1 (n + 1) := by
  have hp := h.p.send fr to gt cl ticks
  rw [sendS] at hp ⊢
  split
  · exact h.up (Nat.le_succ _)
  · rename_i h1
    rw [if_neg h1] at hp
    split
    · exact h.up (Nat.le_succ _)
    · rename_i h2
      rw [if_neg h2] at hp
      split
      · exact h.up (Nat.le_succ _)
      · rename_i h3
        rw [if_neg h3] at hp
        obtain ⟨f1, f2, f3, f4⟩ := block_f (mS T (offS T.m to ⟨fr, gt, cl⟩).1) fr ticks
        refine h.next hp ?_ (.inl f2) f3 (by rw [f4]; exact Nat.le_add_right _ _)
        rw [f1]; show (offS T.m to ⟨fr, gt, cl⟩).1.ids.length ≤ 200
        rw [off_ids]; exact h.ids
theorem TG.wait {T : TS} {n : Nat} (h : TG T n) (id ticks : Int) : TG (waitS T id ticks).1 (n + 1) := by
  have hp := h.p.wait id ticks
  rw [waitS] at hp ⊢
  split
  · exact h.up (Nat.le_succ _)
  · rename_i h1
    rw [if_neg h1] at hp
    split
    · exact h.up (Nat.le_succ _)
    · rename_i h2
      rw [if_neg h2] at hp
      split
      · exact h.up (Nat.le_succ _)
      · rename_i h3
        rw [if_neg h3] at hp
        split
        · exact h.up (Nat.le_succ _)
        · rename_i h4
          rw [if_neg h4] at hp
          obtain ⟨f1, f2, f3, f4⟩ := block_f (mS T (openS T.m id).1) id ticks
          refine h.next hp ?_ (.inl f2) f3 (by rw [f4]; exact Nat.le_add_right _ _)
          rw [f1]; show (openS T.m id).1.ids.length ≤ 200
          rw [open_ids]; exact h.ids
theorem wake_f (T : TS) (why id : Int) : (wakeS T why id).1.m.ids = T.m.ids ∧ (wakeS T why id).1.now = T.now ∧ (wakeS T why id).1.tn = T.tn ∧ T.told.length ≤ (wakeS T why id).1.told.length ∧ (wakeS T why id).1.told.length ≤ T.told.length + 1 := by
  rw [wakeS]
  split
  · exact ⟨rfl, rfl, rfl, Nat.le_refl _, Nat.le_add_right _ _⟩
  · split
    · exact ⟨rfl, rfl, rfl, Nat.le_refl _, Nat.le_add_right _ _⟩
    · obtain ⟨f1, f2, f3, f4⟩ := tells_f (mS T (callS T.m id).1) why [id]
      refine ⟨?_, f2, f3, by rw [f4]; exact Nat.le_add_right _ _, by rw [f4]; exact Nat.le_refl _⟩
      rw [f1]; exact call_ids _ _
theorem TG.wake {T : TS} {n : Nat} (h : TG T n) (why id : Int) : TG (wakeS T why id).1 (n + 1) := by
  obtain ⟨f1, f2, f3, _, f4⟩ := wake_f T why id
  exact h.next (h.p.wake why id) (by rw [f1]; exact h.ids) (.inl f2) (.inl f3) (by omega)
theorem wakeL_f : ∀ (l : List Int) (T : TS), (wakeL T l).m.ids = T.m.ids ∧ (wakeL T l).now = T.now ∧ (wakeL T l).tn = T.tn ∧ (wakeL T l).told.length ≤ T.told.length + l.length
  | [], _ => ⟨rfl, rfl, rfl, Nat.le_refl _⟩
  | x :: l, T => by
    obtain ⟨g1, g2, g3, g4⟩ := wakeL_f l (wakeS T 14 x).1
    obtain ⟨f1, f2, f3, _, f4⟩ := wake_f T 14 x
    rw [show wakeL T (x :: l) = wakeL (wakeS T 14 x).1 l from rfl, List.length_cons]
    exact ⟨g1.trans f1, g2.trans f2, g3.trans f3, by omega⟩
theorem wakeL_snoc (T : TS) (l : List Int) {k : Nat} {x : Int} (h : l[k]? = some x) : wakeL T (l.take (k + 1)) = (wakeS (wakeL T (l.take k)) 14 x).1 := by
  rw [List.take_add_one, h, Option.toList, wakeL, List.foldl_append, wakeL]; rfl
theorem due_len (t : Int) (A : List En) : (ids (dueA t A)).length ≤ A.length := by rw [ids, List.length_map]; exact List.length_filter_le _ _
theorem TG.tick {T : TS} {n : Nat} (h : TG T n) : TG (tickT T) (n + 1) := by
  obtain ⟨f1, f2, f3, f4⟩ := wakeL_f (Al.ids (dueA (T.now + 1) T.A)) (tickT1 T)
  have h1 := due_len (T.now + 1) T.A
  have h2 := h.p.lenA
  have h3 := h.ids
  refine h.next h.p.tick (by rw [tickT, f1]; exact h.ids) (.inr f2) (.inl f3) ?_
  have : (tickT1 T).told = T.told := rfl
  rw [tickT]; rw [this] at f4; omega
theorem TG.yield {T : TS} {n : Nat} (h : TG T n) : TG (yieldT T) (n + 1) := h.next h.p.yield h.ids (.inl rfl) (.inl rfl) (Nat.le_add_right _ _)
theorem TG.tolds {T : TS} {n : Nat} (h : TG T n) : TG (toldT T) n := ⟨h.p.told, h.ids, h.now, h.tn, Nat.zero_le _⟩
theorem TG.refuse {T : TS} {n : Nat} (h : TG T n) (id why : Int) : TG (refuseS T id why).1 (n + 1) := by
  have hp := h.p.refuse id why
  rw [refuseS] at hp ⊢
  split
  · exact h.up (Nat.le_succ _)
  · rename_i h1
    rw [if_neg h1] at hp
    split
    · exact h.up (Nat.le_succ _)
    · rename_i o r hr
      rw [hr] at hp
      exact h.tells1 (T' := mS T (callS T.m o.fr).1) (m := (callS T.m o.fr).1) (by rw [call_ids]; exact h.ids) (by simp) rfl rfl rfl rfl hp
theorem TG.answer {T : TS} {n : Nat} (h : TG T n) (id : Int) : TG (answerS T id).1 (n + 1) := by
  have hp := h.p.answer id
  rw [answerS] at hp ⊢
  split
  · exact h.up (Nat.le_succ _)
  · rename_i h1
    rw [if_neg h1] at hp
    split
    · exact h.up (Nat.le_succ _)
    · rename_i h2
      rw [if_neg h2] at hp
      split
      · rename_i h3
        rw [if_pos h3] at hp
        exact h.tells1 (T' := mS T (ansS T.m id).1) (m := (ansS T.m id).1) (by rw [ans_ids]; exact h.ids) (by simp) rfl rfl rfl rfl hp
      · exact h.up (Nat.le_succ _)
theorem TG.close {T : TS} {n : Nat} (h : TG T n) (g : Int) : TG (closeT T g).1 (n + 1) := by
  have hp := h.p.close g
  have h1 := nodup_sub_len (close_nd h.p.wm g) (fun x hx => (gone_in h.p.wm hx).1)
  have h2 := h.ids
  exact h.tells1 (T' := mS T (closeS T.m g).1) (m := (closeS T.m g).1) h.ids (by omega) rfl rfl rfl rfl hp
theorem takeT1_f (T : TS) (o : Off) (el s id : Int) : (takeT1 T o el s id).m = T.m ∧ (takeT1 T o el s id).now = T.now ∧ (takeT1 T o el s id).tn = T.tn ∧ (takeT1 T o el s id).told.length ≤ T.told.length + 3 := by
  have h1 : ∀ (c : Prop) [Decidable c] (T2 : TS) (w x : Int), T2.m = T.m → T2.now = T.now → T2.tn = T.tn → (if c then T2 else tellS T2 w [x]).m = T.m ∧ (if c then T2 else tellS T2 w [x]).now = T.now ∧ (if c then T2 else tellS T2 w [x]).tn = T.tn ∧ (if c then T2 else tellS T2 w [x]).told.length ≤ T2.told.length + 1 := fun c _ T2 w x e1 e2 e3 => by
    obtain ⟨f1, f2, f3, f4⟩ := tells_f T2 w [x]
    split
    · exact ⟨e1, e2, e3, Nat.le_add_right _ _⟩
    · exact ⟨f1.trans e1, f2.trans e2, f3.trans e3, by rw [f4]; exact Nat.le_refl _⟩
  rw [takeT1]
  obtain ⟨a1, a2, a3, a4⟩ := h1 (o.cl = true) T 0 o.fr rfl rfl rfl
  obtain ⟨b1, b2, b3, b4⟩ := h1 (el = -1) _ 13 el a1 a2 a3
  split
  · obtain ⟨f1, f2, f3, f4⟩ := tells_f (if el = -1 then if o.cl = true then T else tellS T 0 [o.fr] else tellS (if o.cl = true then T else tellS T 0 [o.fr]) 13 [el]) 0 [id]
    refine ⟨f1.trans b1, f2.trans b2, f3.trans b3, ?_⟩
    rw [f4, List.length_singleton]; omega
  · exact ⟨b1, b2, b3, by omega⟩
theorem TG.take {T : TS} {n : Nat} (h : TG T n) (id : Int) : TG (takeT T id).1 (n + 1) := by
  have hp := h.p.take id
  rw [takeT] at hp ⊢
  split
  · exact h.up (Nat.le_succ _)
  · rename_i h1
    rw [if_neg h1] at hp
    split
    · exact h.up (Nat.le_succ _)
    · rename_i h2
      rw [if_neg h2] at hp
      split
      · exact h.up (Nat.le_succ _)
      · rename_i h3
        rw [if_neg h3] at hp
        obtain ⟨f1, f2, f3, f4⟩ := takeT1_f (mS T (takeS T.m id).1) (takeS T.m id).2.1 (takeS T.m id).2.2.1 (stT T id) id
        refine h.next hp ?_ (.inl f2) (.inl f3) ?_
        · dsimp only; rw [f1]; show (takeS T.m id).1.ids.length ≤ 200
          rw [take_ids]; exact h.ids
        · have : (mS T (takeS T.m id).1).told = T.told := rfl
          rw [this] at f4; dsimp only; omega
theorem addL_f : ∀ (l : List Int) (T : TS), (addL T l).now = T.now ∧ (addL T l).tn = T.tn ∧ (addL T l).told = T.told
  | [], _ => ⟨rfl, rfl, rfl⟩
  | x :: l, T => by
    obtain ⟨h1, h2, h3⟩ := addL_f l (addT T x)
    have e : (addT T x).now = T.now ∧ (addT T x).tn = T.tn ∧ (addT T x).told = T.told := by rw [addT]; split <;> exact ⟨rfl, rfl, rfl⟩
    exact ⟨h1.trans e.1, h2.trans e.2.1, h3.trans e.2.2⟩
theorem TG.adds {T : TS} {n : Nat} (h : TG T n) (l : List Int) (hl : T.m.ids.length + l.length ≤ 200) : TG (addL T l) n := by
  obtain ⟨h1, h2, h3⟩ := addL_f l T
  have h4 := (addL_len l T).2
  exact ⟨h.p.adds l, by omega, by rw [h1]; exact h.now, by rw [h2]; exact h.tn, by rw [h3]; exact h.told⟩
theorem TG.zero : TG t0 0 := ⟨TP.zero, Nat.zero_le _, ⟨Int.le_refl _, Int.le_refl _⟩, ⟨Int.le_refl _, Int.le_refl _⟩, Nat.zero_le _⟩
structure TZ (T : TS) (n : Nat) : Prop where
  ids : T.m.ids.length ≤ 1000
  now : 0 ≤ T.now ∧ T.now ≤ 1000000000
  tn : 0 ≤ T.tn ∧ T.tn ≤ 1000000000
  told : T.told.length ≤ 90000000 + n
  S : T.S.length ≤ 1000 + n
  A : T.A.length ≤ 1000
theorem TZ.tb {T : TS} {n : Nat} (h : TZ T n) (hn : n ≤ 1000) : TB T := ⟨h.ids, h.now, h.tn, by have := h.told; omega⟩
theorem TZ.tell {T : TS} {n : Nat} (h : TZ T n) (why x : Int) : TZ (tellS T why [x]) (n + 1) := by
  obtain ⟨f1, f2, f3, f4⟩ := tells_f T why [x]
  obtain ⟨g1, g2⟩ := tell_len why [x] T
  have h1 := h.told; have h2 := h.S; have h3 := h.A
  simp only [List.length_singleton] at f4 g1
  exact ⟨by rw [f1]; exact h.ids, by rw [f2]; exact h.now, by rw [f3]; exact h.tn, by omega, by omega, by omega⟩
theorem take_err {s : MS} {id : Int} (h : (takeS s id).2.2.2 ≠ 0) : (takeS s id).1 = s := by
  rw [takeS] at h ⊢
  split at h
  · rename_i h1; rw [if_pos h1]
  · rename_i h1
    rw [if_neg h1]
    split at h
    · rename_i h2; rw [if_pos h2]
    · rename_i h2
      rw [if_neg h2]
      split at h
      · rfl
      · split at h
        · exact absurd rfl h
        · exact absurd rfl h
set_option maxRecDepth 4000 in
set_option maxHeartbeats 2000000 in
theorem ttake_ok (b : Nat) (T : TS) (hP : TP T []) (hb : TB T) (id : Int) (hto : T.told.length ≤ 90000000) : FSpec Tryz.prog 6 [.pointer (some ⟨b, 0, none⟩), .int .i64 id] noRd [isT b T] (fun _ : Unit => .tuple #[.agg (ofC (takeT T id).2.1).toArray, .int .i64 (takeT T id).2.2]) (fun _ => True) (fun _ => [isT b (takeT T id).1]) := by
 refine FSpec.intro (rs := [.cell 4 26, .tmp 5]) (by kernel_rfl) Tryz.func6 rfl Tryz.ntmps6 (by rfl) rfl ?_
 intro F _
 change TC _ _ _ _ _ _ _ (sepL [_, _])
 obtain ⟨hSl, hAl, _, hil⟩ := hP.bds hb
 have hW := hP.wm
 have hnow := hb.now
 have htn := hb.tn
 have htold := hb.told
 refine TC.seq ?_
 refine TC.region ?_
 refine e rfl ?_
 refine al (l := [.int _ _, .int _ _, .bool _]) rfl rfl ?_
 intro b1
 refine wai rfl rfl ?_
 refine TL.nil (nt ?_)
 refine TC.seq ?_
 refine TC.region ?_
 refine wmp rfl rfl ?_
 refine wmi rfl rfl ?_
 by_cases h1 : id ∈ T.m.ids
 ·refine e rfl ?_
  refine cl (tatc_yes b T id h1) rfl PkL.p trivial ?_
  intro y0 _
  change TL _ _ _ _ _ _ _ _ (sepL [_, _, _])
  have hh : ¬ id ∉ T.m.ids := fun h => h h1
  refine wmt rfl rfl ?_
  refine q rfl rfl (pu (v := .pointer _) (fun _ => rfl)) ?_
  refine q rfl rfl (pu (v := .int _ _) (fun _ => rfl)) ?_
  refine wap rfl rfl ?_
  refine wai rfl rfl ?_
  refine TL.nil (nt ?_)
  refine TC.seq ?_
  refine TC.region ?_
  refine wmp rfl rfl ?_
  refine wmi rfl rfl ?_
  refine e rfl ?_
  refine cl (tstate_ok b T id) rfl PkL.p trivial ?_
  intro _ _
  change TL _ _ _ _ _ _ _ _ (sepL [_, _, _])
  refine wai rfl rfl ?_
  refine TL.nil (nt ?_)
  refine TC.seq ?_
  refine TC.block ?_
  refine TC.seq ?_
  refine TC.region ?_
  refine wmi rfl rfl ?_
  refine q rfl rfl (neI rfl rfl) ?_
  refine wab rfl rfl ?_
  refine TL.nil (nt ?_)
  refine TC.condF rfl ?_
  refine TC.seq ?_
  refine TC.region ?_
  refine wmi rfl rfl ?_
  refine q rfl rfl (neI rfl rfl) ?_
  refine wmb rfl rfl ?_
  refine TL.split 28 rfl (fun hs0 => ?_) (fun hs0 => ?_)
  ·have hs0 := of_decide_eq_true hs0
   refine qg rfl rfl rfl (mv (v := .int _ _) rfl) ?_
   refine qg rfl rfl rfl (neI rfl rfl) ?_
   refine q rfl rfl (pkT (v := .bool _) rfl rfl) ?_
   refine wab rfl rfl ?_
   refine TL.nil (nt ?_)
   refine TC.condD rfl (fun hs2 => ?_) (fun hs2 => ?_)
   ·have hv : takeT T id = (T, o0, 12) := by rw [takeT, if_neg hh, if_pos ⟨hs0, hs2⟩]
    rw [hv]
    refine TC.seq ?_
    refine TC.region ?_
    refine q rfl rfl (bld (cs := [.int _ _, .int _ _, .bool _]) rfl) ?_
    refine e0 ?_
    refine st (v := .agg #[_, _, _]) (vs := [_, _, _]) 3 rfl rfl rfl rfl rfl rfl (Nat.le_of_ble_eq_true rfl) rfl ?_
    refine wai rfl rfl ?_
    refine TL.nil (nt ?_)
    refine TC.ret (rb (rt ?_))
    exact Ret.i () [_, _] ⟨(rcN (n := 3) rfl rfl rfl rfl), rfl, trivial⟩ rfl trivial (ent_take 1 rfl (ent_take 1 rfl (ent_nil _)))
   ·have hs3 : ¬ (stT T id ≠ 0 ∧ stT T id ≠ 2) := fun h => hs2 h.2
    refine TC.skip (nb (nt ?_))
    refine TC.seq ?_
    refine TC.open 0 rfl (fun x0 hx0 => ?_)
    obtain ⟨qb, a, pb, tb, B, M, ad, cap⟩ := x0
    have hN := hx0
    change TC _ _ _ _ _ _ _ (sepL [_, _, _, _, _, _, _, _, _])
    dsimp only at hN ⊢
    refine TC.region ?_
    refine wmp rfl rfl ?_
    refine wnc rfl rfl ?_
    refine wfa 2 rfl rfl rfl ?_
    refine wld rfl rfl rfl rfl ?_
    refine wmi rfl rfl ?_
    refine e rfl ?_
    refine cl (mtake_ok pb M T.m hW id) rfl PkL.p trivial ?_
    intro _ _
    change TL _ _ _ _ _ _ _ _ (sepL [_, _, _, _, _, _, _, _, _])
    refine wmt rfl rfl ?_
    refine q rfl rfl (pu (v := .agg #[_, _, _]) (fun _ => rfl)) ?_
    refine q rfl rfl (pu (v := .int _ _) (fun _ => rfl)) ?_
    refine q rfl rfl (pu (v := .int _ _) (fun _ => rfl)) ?_
    refine e rfl ?_
    refine al (l := [.int _ _, .int _ _, .bool _]) rfl rfl ?_
    intro b2
    refine e0 ?_
    refine st (v := .agg #[_, _, _]) (vs := [_, _, _]) 3 rfl rfl rfl rfl rfl rfl (Nat.le_of_ble_eq_true rfl) rfl ?_
    refine wai rfl rfl ?_
    refine wai rfl rfl ?_
    refine TL.nil (nt ?_)
    refine TC.seq ?_
    refine TC.seq ?_
    refine TC.region ?_
    refine wmi rfl rfl ?_
    refine q rfl rfl (neI rfl rfl) ?_
    refine TL.nil (nt ?_)
    refine TC.condD rfl (fun he => ?_) (fun he => ?_)
    ·have ho := take_err he
     have hv : takeT T id = (T, o0, (takeS T.m id).2.2.2) := by rw [takeT, if_neg hh, if_neg hs3, if_pos he]
     rw [hv, ho]
     refine TC.seq ?_
     refine TC.region ?_
     refine q rfl rfl (bld (cs := [.int _ _, .int _ _, .bool _]) rfl) ?_
     refine wmi rfl rfl ?_
     refine e0 ?_
     refine st (v := .agg #[_, _, _]) (vs := [_, _, _]) 3 rfl rfl rfl rfl rfl rfl (Nat.le_of_ble_eq_true rfl) rfl ?_
     refine wai rfl rfl ?_
     refine TL.nil (nt ?_)
     refine TC.ret (rt ?_)
     exact Ret.i () [_, _] ⟨(rcN (n := 3) rfl rfl rfl rfl), rfl, trivial⟩ rfl trivial (ent_close (⟨qb, a, pb, tb, B, M, ad, cap⟩ : TRep) hN (ent_take 3 rfl (ent_take 3 rfl (ent_take 3 rfl (ent_take 2 rfl (ent_take 2 rfl (ent_take 2 rfl (ent_take 2 rfl (ent_take 2 rfl (ent_nil _))))))))))
    ·have he := Decidable.not_not.1 he
     have hv : takeT T id = (takeT1 (mS T (takeS T.m id).1) (takeS T.m id).2.1 (takeS T.m id).2.2.1 (stT T id) id, (takeS T.m id).2.1, 0) := by rw [takeT, if_neg hh, if_neg hs3, if_neg (fun h => h he)]
     rw [hv]
     dsimp only
     obtain ⟨o, r9, hr, ho, f1, f2, f3, f4, f5⟩ := take_form hW h1 he
     have hel : (takeS T.m id).2.2.1 ≠ -1 → (takeS T.m id).2.2.1 ∈ T.m.ids := fun hne => by
      rcases f5 with ⟨_, e, _⟩ | ⟨_, e, _, g, _⟩
      ·exact absurd e hne
      ·rw [e] at hne ⊢; exact (g hne).1
     have hcl0 : o.cl = false → (takeS T.m id).2.2.1 = -1 := fun hc => by
      rcases f5 with ⟨_, e, _⟩ | ⟨e, _⟩
      ·exact e
      ·rw [hc] at e; cases e
     rw [ho]
     clear hv he f5 ho hr
     generalize (takeS T.m id).2.2.1 = el at hel hcl0 ⊢
     refine TC.skip (nt ?_)
     refine TC.seq ?_
     refine TC.seq ?_
     have hi9 := take_ids T.m id
     generalize (takeS T.m id).1 = m9 at hi9 ⊢
     rw [← hi9] at hN
     rw [← hi9]
     refine TC.weak (B := sepL [isT b (mS T m9), pts b2 26 (ofC o), pts b1 26 (ofC o0), F]) ((ent_close (⟨qb, a, pb, tb, B, M, ad, cap⟩ : TRep) hN (ent_take 2 rfl (ent_take 2 rfl (ent_take 2 rfl (ent_take 1 rfl (ent_take 1 rfl (ent_take 1 rfl (ent_take 1 rfl (ent_take 0 rfl (ent_take 0 rfl (ent_take 0 rfl (ent_nil _))))))))))))) ?_
     have hZ : TZ (mS T m9) 0 := ⟨by show m9.ids.length ≤ 1000; rw [hi9]; exact hil, hnow, htn, hto, hSl, hAl⟩
     have hmi : ∀ (W : TS) (w y : Int), W.m.ids = T.m.ids → (tellS W w [y]).m.ids = T.m.ids := fun W w y e => by rw [(tells_f W w [y]).1, e]
     have hm9 : (mS T m9).m.ids = T.m.ids := hi9
     refine TC.region ?_
     refine wfa 2 rfl rfl rfl ?_
     refine wld rfl rfl rfl rfl ?_
     refine q rfl rfl (notB rfl) ?_
     refine TL.nil (nt ?_)
     cases hc : o.cl with
     | true => ?_
     | false => ?_
     ·refine TC.condF rfl ?_
      refine TC.skip (nt ?_)
      refine TC.seq ?_
      refine TC.seq ?_
      refine TC.region ?_
      refine wmi rfl rfl ?_
      refine q rfl rfl (neI rfl rfl) ?_
      refine TL.nil (nt ?_)
      rcases Decidable.em (el = -1) with hl | hl
      ·subst hl
       refine TC.condF rfl ?_
       refine TC.skip (nt ?_)
       refine TC.seq ?_
       refine TC.seq ?_
       refine TC.region ?_
       refine wmi rfl rfl ?_
       refine q rfl rfl (eqI rfl rfl) ?_
       refine TL.nil (nt ?_)
       refine TC.condD rfl (fun hs9 => ?_) (fun hs9 => ?_)
       ·have hv : takeT1 (mS T m9) o (-1) (stT T id) id = tellS (mS T m9) 0 [id] := by rw [takeT1, if_pos hc, if_pos (show (-1 : Int) = -1 from rfl), if_pos hs9]
        rw [hv]
        refine TC.region ?_
        refine wmp rfl rfl ?_
        refine wmi rfl rfl ?_
        refine e rfl ?_
        refine bs (cs := [.int _ _]) rfl ?_
        intro b3
        refine e rfl ?_
        refine cl (ttell_ok b (mS T m9) (TZ.tb (n := 0) hZ (by decide)) (0) (some ⟨b3, 0, none⟩) _ [id] (fun x hx => by rw [List.mem_singleton.1 hx, hm9]; exact h1) (by have := (TZ.S hZ); simp <;> omega) (by have := (TZ.A hZ); omega)) rfl PkL.p ⟨_, RdSI.rd (ad := some ⟨b3, 0, none⟩)⟩ ?_
        intro _ _
        change TL _ _ _ _ _ _ _ _ (sepL [_, _, _, _, _])
        refine TL.nil (nt ?_)
        refine TC.seq ?_
        refine TC.region ?_
        refine q rfl rfl (ldN (vs := [_, _, _]) 3 rfl rfl rfl rfl) ?_
        refine e0 ?_
        refine st (v := .agg #[_, _, _]) (vs := [_, _, _]) 3 rfl rfl rfl rfl rfl rfl (Nat.le_of_ble_eq_true rfl) rfl ?_
        refine wai rfl rfl ?_
        refine TL.nil (nt ?_)
        refine TC.ret ?_
        exact Ret.i () [_, _] ⟨(rcN (n := 3) rfl rfl rfl rfl), rfl, trivial⟩ rfl trivial (ent_take 1 rfl (ent_take 3 rfl (ent_nil _)))
       ·have hv : takeT1 (mS T m9) o (-1) (stT T id) id = (mS T m9) := by rw [takeT1, if_pos hc, if_pos (show (-1 : Int) = -1 from rfl), if_neg hs9]
        rw [hv]
        refine TC.skip (nt ?_)
        refine TC.seq ?_
        refine TC.region ?_
        refine q rfl rfl (ldN (vs := [_, _, _]) 3 rfl rfl rfl rfl) ?_
        refine e0 ?_
        refine st (v := .agg #[_, _, _]) (vs := [_, _, _]) 3 rfl rfl rfl rfl rfl rfl (Nat.le_of_ble_eq_true rfl) rfl ?_
        refine wai rfl rfl ?_
        refine TL.nil (nt ?_)
        refine TC.ret ?_
        exact Ret.i () [_, _] ⟨(rcN (n := 3) rfl rfl rfl rfl), rfl, trivial⟩ rfl trivial (ent_take 1 rfl (ent_take 2 rfl (ent_nil _)))
      ·refine TC.condD rfl (fun hc1 => ?_) (fun hc1 => absurd (hl) hc1)
       refine TC.region ?_
       refine wmp rfl rfl ?_
       refine wmi rfl rfl ?_
       refine e rfl ?_
       refine bs (cs := [.int _ _]) rfl ?_
       intro b4
       refine e rfl ?_
       refine cl (ttell_ok b (mS T m9) (TZ.tb (n := 0) hZ (by decide)) (13) (some ⟨b4, 0, none⟩) _ [el] (fun x hx => by rw [List.mem_singleton.1 hx, hm9]; exact (hel hl)) (by have := (TZ.S hZ); simp <;> omega) (by have := (TZ.A hZ); omega)) rfl PkL.p ⟨_, RdSI.rd (ad := some ⟨b4, 0, none⟩)⟩ ?_
       intro _ _
       change TL _ _ _ _ _ _ _ _ (sepL [_, _, _, _, _])
       refine TL.nil (nt ?_)
       refine TC.seq ?_
       refine TC.seq ?_
       refine TC.region ?_
       refine wmi rfl rfl ?_
       refine q rfl rfl (eqI rfl rfl) ?_
       refine TL.nil (nt ?_)
       refine TC.condD rfl (fun hs9 => ?_) (fun hs9 => ?_)
       ·have hv : takeT1 (mS T m9) o el (stT T id) id = tellS (tellS (mS T m9) 13 [el]) 0 [id] := by rw [takeT1, if_pos hc, if_neg hl, if_pos hs9]
        rw [hv]
        refine TC.region ?_
        refine wmp rfl rfl ?_
        refine wmi rfl rfl ?_
        refine e rfl ?_
        refine bs (cs := [.int _ _]) rfl ?_
        intro b5
        refine e rfl ?_
        refine cl (ttell_ok b (tellS (mS T m9) 13 [el]) (TZ.tb (n := 1) (TZ.tell hZ 13 el) (by decide)) (0) (some ⟨b5, 0, none⟩) _ [id] (fun x hx => by rw [List.mem_singleton.1 hx, (hmi (mS T m9) 13 el hm9)]; exact h1) (by have := (TZ.S (TZ.tell hZ 13 el)); simp <;> omega) (by have := (TZ.A (TZ.tell hZ 13 el)); omega)) rfl PkL.p ⟨_, RdSI.rd (ad := some ⟨b5, 0, none⟩)⟩ ?_
        intro _ _
        change TL _ _ _ _ _ _ _ _ (sepL [_, _, _, _, _, _])
        refine TL.nil (nt ?_)
        refine TC.seq ?_
        refine TC.region ?_
        refine q rfl rfl (ldN (vs := [_, _, _]) 3 rfl rfl rfl rfl) ?_
        refine e0 ?_
        refine st (v := .agg #[_, _, _]) (vs := [_, _, _]) 3 rfl rfl rfl rfl rfl rfl (Nat.le_of_ble_eq_true rfl) rfl ?_
        refine wai rfl rfl ?_
        refine TL.nil (nt ?_)
        refine TC.ret ?_
        exact Ret.i () [_, _] ⟨(rcN (n := 3) rfl rfl rfl rfl), rfl, trivial⟩ rfl trivial (ent_take 1 rfl (ent_take 4 rfl (ent_nil _)))
       ·have hv : takeT1 (mS T m9) o el (stT T id) id = (tellS (mS T m9) 13 [el]) := by rw [takeT1, if_pos hc, if_neg hl, if_neg hs9]
        rw [hv]
        refine TC.skip (nt ?_)
        refine TC.seq ?_
        refine TC.region ?_
        refine q rfl rfl (ldN (vs := [_, _, _]) 3 rfl rfl rfl rfl) ?_
        refine e0 ?_
        refine st (v := .agg #[_, _, _]) (vs := [_, _, _]) 3 rfl rfl rfl rfl rfl rfl (Nat.le_of_ble_eq_true rfl) rfl ?_
        refine wai rfl rfl ?_
        refine TL.nil (nt ?_)
        refine TC.ret ?_
        exact Ret.i () [_, _] ⟨(rcN (n := 3) rfl rfl rfl rfl), rfl, trivial⟩ rfl trivial (ent_take 1 rfl (ent_take 3 rfl (ent_nil _)))
     ·obtain rfl := hcl0 hc
      refine TC.condT rfl ?_
      refine TC.region ?_
      refine wmp rfl rfl ?_
      refine wfa 0 rfl rfl rfl ?_
      refine wld rfl rfl rfl rfl ?_
      refine e rfl ?_
      refine bs (cs := [.int _ _]) rfl ?_
      intro b6
      refine e rfl ?_
      refine cl (ttell_ok b (mS T m9) (TZ.tb (n := 0) hZ (by decide)) (0) (some ⟨b6, 0, none⟩) _ [o.fr] (fun x hx => by rw [List.mem_singleton.1 hx, hm9]; exact f1) (by have := (TZ.S hZ); simp <;> omega) (by have := (TZ.A hZ); omega)) rfl PkL.p ⟨_, RdSI.rd (ad := some ⟨b6, 0, none⟩)⟩ ?_
      intro _ _
      change TL _ _ _ _ _ _ _ _ (sepL [_, _, _, _, _])
      refine TL.nil (nt ?_)
      refine TC.seq ?_
      refine TC.seq ?_
      refine TC.region ?_
      refine wmi rfl rfl ?_
      refine q rfl rfl (neI rfl rfl) ?_
      refine TL.nil (nt ?_)
      refine TC.condF rfl ?_
      refine TC.skip (nt ?_)
      refine TC.seq ?_
      refine TC.seq ?_
      refine TC.region ?_
      refine wmi rfl rfl ?_
      refine q rfl rfl (eqI rfl rfl) ?_
      refine TL.nil (nt ?_)
      refine TC.condD rfl (fun hs9 => ?_) (fun hs9 => ?_)
      ·have hv : takeT1 (mS T m9) o (-1) (stT T id) id = tellS (tellS (mS T m9) 0 [o.fr]) 0 [id] := by rw [takeT1, if_neg (show ¬ (o.cl = true) by rw [hc]; decide), if_pos (show (-1 : Int) = -1 from rfl), if_pos hs9]
       rw [hv]
       refine TC.region ?_
       refine wmp rfl rfl ?_
       refine wmi rfl rfl ?_
       refine e rfl ?_
       refine bs (cs := [.int _ _]) rfl ?_
       intro b7
       refine e rfl ?_
       refine cl (ttell_ok b (tellS (mS T m9) 0 [o.fr]) (TZ.tb (n := 1) (TZ.tell hZ 0 o.fr) (by decide)) (0) (some ⟨b7, 0, none⟩) _ [id] (fun x hx => by rw [List.mem_singleton.1 hx, (hmi (mS T m9) 0 o.fr hm9)]; exact h1) (by have := (TZ.S (TZ.tell hZ 0 o.fr)); simp <;> omega) (by have := (TZ.A (TZ.tell hZ 0 o.fr)); omega)) rfl PkL.p ⟨_, RdSI.rd (ad := some ⟨b7, 0, none⟩)⟩ ?_
       intro _ _
       change TL _ _ _ _ _ _ _ _ (sepL [_, _, _, _, _, _])
       refine TL.nil (nt ?_)
       refine TC.seq ?_
       refine TC.region ?_
       refine q rfl rfl (ldN (vs := [_, _, _]) 3 rfl rfl rfl rfl) ?_
       refine e0 ?_
       refine st (v := .agg #[_, _, _]) (vs := [_, _, _]) 3 rfl rfl rfl rfl rfl rfl (Nat.le_of_ble_eq_true rfl) rfl ?_
       refine wai rfl rfl ?_
       refine TL.nil (nt ?_)
       refine TC.ret ?_
       exact Ret.i () [_, _] ⟨(rcN (n := 3) rfl rfl rfl rfl), rfl, trivial⟩ rfl trivial (ent_take 1 rfl (ent_take 4 rfl (ent_nil _)))
      ·have hv : takeT1 (mS T m9) o (-1) (stT T id) id = (tellS (mS T m9) 0 [o.fr]) := by rw [takeT1, if_neg (show ¬ (o.cl = true) by rw [hc]; decide), if_pos (show (-1 : Int) = -1 from rfl), if_neg hs9]
       rw [hv]
       refine TC.skip (nt ?_)
       refine TC.seq ?_
       refine TC.region ?_
       refine q rfl rfl (ldN (vs := [_, _, _]) 3 rfl rfl rfl rfl) ?_
       refine e0 ?_
       refine st (v := .agg #[_, _, _]) (vs := [_, _, _]) 3 rfl rfl rfl rfl rfl rfl (Nat.le_of_ble_eq_true rfl) rfl ?_
       refine wai rfl rfl ?_
       refine TL.nil (nt ?_)
       refine TC.ret ?_
       exact Ret.i () [_, _] ⟨(rcN (n := 3) rfl rfl rfl rfl), rfl, trivial⟩ rfl trivial (ent_take 1 rfl (ent_take 3 rfl (ent_nil _)))
  ·have hs0 := of_decide_eq_false hs0
   have hs3 : ¬ (stT T id ≠ 0 ∧ stT T id ≠ 2) := fun h => hs0 h.1
   refine qs rfl rfl ?_
   refine qs rfl rfl ?_
   refine q rfl rfl (pkF (v := .bool _) rfl rfl) ?_
   refine wab rfl rfl ?_
   refine TL.nil (nt ?_)
   refine TC.condF rfl ?_
   refine TC.skip (nb (nt ?_))
   refine TC.seq ?_
   refine TC.open 0 rfl (fun x0 hx0 => ?_)
   obtain ⟨qb, a, pb, tb, B, M, ad, cap⟩ := x0
   have hN := hx0
   change TC _ _ _ _ _ _ _ (sepL [_, _, _, _, _, _, _, _, _])
   dsimp only at hN ⊢
   refine TC.region ?_
   refine wmp rfl rfl ?_
   refine wnc rfl rfl ?_
   refine wfa 2 rfl rfl rfl ?_
   refine wld rfl rfl rfl rfl ?_
   refine wmi rfl rfl ?_
   refine e rfl ?_
   refine cl (mtake_ok pb M T.m hW id) rfl PkL.p trivial ?_
   intro _ _
   change TL _ _ _ _ _ _ _ _ (sepL [_, _, _, _, _, _, _, _, _])
   refine wmt rfl rfl ?_
   refine q rfl rfl (pu (v := .agg #[_, _, _]) (fun _ => rfl)) ?_
   refine q rfl rfl (pu (v := .int _ _) (fun _ => rfl)) ?_
   refine q rfl rfl (pu (v := .int _ _) (fun _ => rfl)) ?_
   refine e rfl ?_
   refine al (l := [.int _ _, .int _ _, .bool _]) rfl rfl ?_
   intro b8
   refine e0 ?_
   refine st (v := .agg #[_, _, _]) (vs := [_, _, _]) 3 rfl rfl rfl rfl rfl rfl (Nat.le_of_ble_eq_true rfl) rfl ?_
   refine wai rfl rfl ?_
   refine wai rfl rfl ?_
   refine TL.nil (nt ?_)
   refine TC.seq ?_
   refine TC.seq ?_
   refine TC.region ?_
   refine wmi rfl rfl ?_
   refine q rfl rfl (neI rfl rfl) ?_
   refine TL.nil (nt ?_)
   refine TC.condD rfl (fun he => ?_) (fun he => ?_)
   ·have ho := take_err he
    have hv : takeT T id = (T, o0, (takeS T.m id).2.2.2) := by rw [takeT, if_neg hh, if_neg hs3, if_pos he]
    rw [hv, ho]
    refine TC.seq ?_
    refine TC.region ?_
    refine q rfl rfl (bld (cs := [.int _ _, .int _ _, .bool _]) rfl) ?_
    refine wmi rfl rfl ?_
    refine e0 ?_
    refine st (v := .agg #[_, _, _]) (vs := [_, _, _]) 3 rfl rfl rfl rfl rfl rfl (Nat.le_of_ble_eq_true rfl) rfl ?_
    refine wai rfl rfl ?_
    refine TL.nil (nt ?_)
    refine TC.ret (rt ?_)
    exact Ret.i () [_, _] ⟨(rcN (n := 3) rfl rfl rfl rfl), rfl, trivial⟩ rfl trivial (ent_close (⟨qb, a, pb, tb, B, M, ad, cap⟩ : TRep) hN (ent_take 3 rfl (ent_take 3 rfl (ent_take 3 rfl (ent_take 2 rfl (ent_take 2 rfl (ent_take 2 rfl (ent_take 2 rfl (ent_take 2 rfl (ent_nil _))))))))))
   ·have he := Decidable.not_not.1 he
    have hv : takeT T id = (takeT1 (mS T (takeS T.m id).1) (takeS T.m id).2.1 (takeS T.m id).2.2.1 (stT T id) id, (takeS T.m id).2.1, 0) := by rw [takeT, if_neg hh, if_neg hs3, if_neg (fun h => h he)]
    rw [hv]
    dsimp only
    obtain ⟨o, r9, hr, ho, f1, f2, f3, f4, f5⟩ := take_form hW h1 he
    have hel : (takeS T.m id).2.2.1 ≠ -1 → (takeS T.m id).2.2.1 ∈ T.m.ids := fun hne => by
     rcases f5 with ⟨_, e, _⟩ | ⟨_, e, _, g, _⟩
     ·exact absurd e hne
     ·rw [e] at hne ⊢; exact (g hne).1
    have hcl0 : o.cl = false → (takeS T.m id).2.2.1 = -1 := fun hc => by
     rcases f5 with ⟨_, e, _⟩ | ⟨e, _⟩
     ·exact e
     ·rw [hc] at e; cases e
    rw [ho]
    clear hv he f5 ho hr
    generalize (takeS T.m id).2.2.1 = el at hel hcl0 ⊢
    refine TC.skip (nt ?_)
    refine TC.seq ?_
    refine TC.seq ?_
    have hi9 := take_ids T.m id
    generalize (takeS T.m id).1 = m9 at hi9 ⊢
    rw [← hi9] at hN
    rw [← hi9]
    refine TC.weak (B := sepL [isT b (mS T m9), pts b8 26 (ofC o), pts b1 26 (ofC o0), F]) ((ent_close (⟨qb, a, pb, tb, B, M, ad, cap⟩ : TRep) hN (ent_take 2 rfl (ent_take 2 rfl (ent_take 2 rfl (ent_take 1 rfl (ent_take 1 rfl (ent_take 1 rfl (ent_take 1 rfl (ent_take 0 rfl (ent_take 0 rfl (ent_take 0 rfl (ent_nil _))))))))))))) ?_
    have hZ : TZ (mS T m9) 0 := ⟨by show m9.ids.length ≤ 1000; rw [hi9]; exact hil, hnow, htn, hto, hSl, hAl⟩
    have hmi : ∀ (W : TS) (w y : Int), W.m.ids = T.m.ids → (tellS W w [y]).m.ids = T.m.ids := fun W w y e => by rw [(tells_f W w [y]).1, e]
    have hm9 : (mS T m9).m.ids = T.m.ids := hi9
    refine TC.region ?_
    refine wfa 2 rfl rfl rfl ?_
    refine wld rfl rfl rfl rfl ?_
    refine q rfl rfl (notB rfl) ?_
    refine TL.nil (nt ?_)
    cases hc : o.cl with
    | true => ?_
    | false => ?_
    ·refine TC.condF rfl ?_
     refine TC.skip (nt ?_)
     refine TC.seq ?_
     refine TC.seq ?_
     refine TC.region ?_
     refine wmi rfl rfl ?_
     refine q rfl rfl (neI rfl rfl) ?_
     refine TL.nil (nt ?_)
     rcases Decidable.em (el = -1) with hl | hl
     ·subst hl
      refine TC.condF rfl ?_
      refine TC.skip (nt ?_)
      refine TC.seq ?_
      refine TC.seq ?_
      refine TC.region ?_
      refine wmi rfl rfl ?_
      refine q rfl rfl (eqI rfl rfl) ?_
      refine TL.nil (nt ?_)
      refine TC.condD rfl (fun hs9 => ?_) (fun hs9 => ?_)
      ·have hv : takeT1 (mS T m9) o (-1) (stT T id) id = tellS (mS T m9) 0 [id] := by rw [takeT1, if_pos hc, if_pos (show (-1 : Int) = -1 from rfl), if_pos hs9]
       rw [hv]
       refine TC.region ?_
       refine wmp rfl rfl ?_
       refine wmi rfl rfl ?_
       refine e rfl ?_
       refine bs (cs := [.int _ _]) rfl ?_
       intro b9
       refine e rfl ?_
       refine cl (ttell_ok b (mS T m9) (TZ.tb (n := 0) hZ (by decide)) (0) (some ⟨b9, 0, none⟩) _ [id] (fun x hx => by rw [List.mem_singleton.1 hx, hm9]; exact h1) (by have := (TZ.S hZ); simp <;> omega) (by have := (TZ.A hZ); omega)) rfl PkL.p ⟨_, RdSI.rd (ad := some ⟨b9, 0, none⟩)⟩ ?_
       intro _ _
       change TL _ _ _ _ _ _ _ _ (sepL [_, _, _, _, _])
       refine TL.nil (nt ?_)
       refine TC.seq ?_
       refine TC.region ?_
       refine q rfl rfl (ldN (vs := [_, _, _]) 3 rfl rfl rfl rfl) ?_
       refine e0 ?_
       refine st (v := .agg #[_, _, _]) (vs := [_, _, _]) 3 rfl rfl rfl rfl rfl rfl (Nat.le_of_ble_eq_true rfl) rfl ?_
       refine wai rfl rfl ?_
       refine TL.nil (nt ?_)
       refine TC.ret ?_
       exact Ret.i () [_, _] ⟨(rcN (n := 3) rfl rfl rfl rfl), rfl, trivial⟩ rfl trivial (ent_take 1 rfl (ent_take 3 rfl (ent_nil _)))
      ·have hv : takeT1 (mS T m9) o (-1) (stT T id) id = (mS T m9) := by rw [takeT1, if_pos hc, if_pos (show (-1 : Int) = -1 from rfl), if_neg hs9]
       rw [hv]
       refine TC.skip (nt ?_)
       refine TC.seq ?_
       refine TC.region ?_
       refine q rfl rfl (ldN (vs := [_, _, _]) 3 rfl rfl rfl rfl) ?_
       refine e0 ?_
       refine st (v := .agg #[_, _, _]) (vs := [_, _, _]) 3 rfl rfl rfl rfl rfl rfl (Nat.le_of_ble_eq_true rfl) rfl ?_
       refine wai rfl rfl ?_
       refine TL.nil (nt ?_)
       refine TC.ret ?_
       exact Ret.i () [_, _] ⟨(rcN (n := 3) rfl rfl rfl rfl), rfl, trivial⟩ rfl trivial (ent_take 1 rfl (ent_take 2 rfl (ent_nil _)))
     ·refine TC.condD rfl (fun hc2 => ?_) (fun hc2 => absurd (hl) hc2)
      refine TC.region ?_
      refine wmp rfl rfl ?_
      refine wmi rfl rfl ?_
      refine e rfl ?_
      refine bs (cs := [.int _ _]) rfl ?_
      intro b10
      refine e rfl ?_
      refine cl (ttell_ok b (mS T m9) (TZ.tb (n := 0) hZ (by decide)) (13) (some ⟨b10, 0, none⟩) _ [el] (fun x hx => by rw [List.mem_singleton.1 hx, hm9]; exact (hel hl)) (by have := (TZ.S hZ); simp <;> omega) (by have := (TZ.A hZ); omega)) rfl PkL.p ⟨_, RdSI.rd (ad := some ⟨b10, 0, none⟩)⟩ ?_
      intro _ _
      change TL _ _ _ _ _ _ _ _ (sepL [_, _, _, _, _])
      refine TL.nil (nt ?_)
      refine TC.seq ?_
      refine TC.seq ?_
      refine TC.region ?_
      refine wmi rfl rfl ?_
      refine q rfl rfl (eqI rfl rfl) ?_
      refine TL.nil (nt ?_)
      refine TC.condD rfl (fun hs9 => ?_) (fun hs9 => ?_)
      ·have hv : takeT1 (mS T m9) o el (stT T id) id = tellS (tellS (mS T m9) 13 [el]) 0 [id] := by rw [takeT1, if_pos hc, if_neg hl, if_pos hs9]
       rw [hv]
       refine TC.region ?_
       refine wmp rfl rfl ?_
       refine wmi rfl rfl ?_
       refine e rfl ?_
       refine bs (cs := [.int _ _]) rfl ?_
       intro b11
       refine e rfl ?_
       refine cl (ttell_ok b (tellS (mS T m9) 13 [el]) (TZ.tb (n := 1) (TZ.tell hZ 13 el) (by decide)) (0) (some ⟨b11, 0, none⟩) _ [id] (fun x hx => by rw [List.mem_singleton.1 hx, (hmi (mS T m9) 13 el hm9)]; exact h1) (by have := (TZ.S (TZ.tell hZ 13 el)); simp <;> omega) (by have := (TZ.A (TZ.tell hZ 13 el)); omega)) rfl PkL.p ⟨_, RdSI.rd (ad := some ⟨b11, 0, none⟩)⟩ ?_
       intro _ _
       change TL _ _ _ _ _ _ _ _ (sepL [_, _, _, _, _, _])
       refine TL.nil (nt ?_)
       refine TC.seq ?_
       refine TC.region ?_
       refine q rfl rfl (ldN (vs := [_, _, _]) 3 rfl rfl rfl rfl) ?_
       refine e0 ?_
       refine st (v := .agg #[_, _, _]) (vs := [_, _, _]) 3 rfl rfl rfl rfl rfl rfl (Nat.le_of_ble_eq_true rfl) rfl ?_
       refine wai rfl rfl ?_
       refine TL.nil (nt ?_)
       refine TC.ret ?_
       exact Ret.i () [_, _] ⟨(rcN (n := 3) rfl rfl rfl rfl), rfl, trivial⟩ rfl trivial (ent_take 1 rfl (ent_take 4 rfl (ent_nil _)))
      ·have hv : takeT1 (mS T m9) o el (stT T id) id = (tellS (mS T m9) 13 [el]) := by rw [takeT1, if_pos hc, if_neg hl, if_neg hs9]
       rw [hv]
       refine TC.skip (nt ?_)
       refine TC.seq ?_
       refine TC.region ?_
       refine q rfl rfl (ldN (vs := [_, _, _]) 3 rfl rfl rfl rfl) ?_
       refine e0 ?_
       refine st (v := .agg #[_, _, _]) (vs := [_, _, _]) 3 rfl rfl rfl rfl rfl rfl (Nat.le_of_ble_eq_true rfl) rfl ?_
       refine wai rfl rfl ?_
       refine TL.nil (nt ?_)
       refine TC.ret ?_
       exact Ret.i () [_, _] ⟨(rcN (n := 3) rfl rfl rfl rfl), rfl, trivial⟩ rfl trivial (ent_take 1 rfl (ent_take 3 rfl (ent_nil _)))
    ·obtain rfl := hcl0 hc
     refine TC.condT rfl ?_
     refine TC.region ?_
     refine wmp rfl rfl ?_
     refine wfa 0 rfl rfl rfl ?_
     refine wld rfl rfl rfl rfl ?_
     refine e rfl ?_
     refine bs (cs := [.int _ _]) rfl ?_
     intro b12
     refine e rfl ?_
     refine cl (ttell_ok b (mS T m9) (TZ.tb (n := 0) hZ (by decide)) (0) (some ⟨b12, 0, none⟩) _ [o.fr] (fun x hx => by rw [List.mem_singleton.1 hx, hm9]; exact f1) (by have := (TZ.S hZ); simp <;> omega) (by have := (TZ.A hZ); omega)) rfl PkL.p ⟨_, RdSI.rd (ad := some ⟨b12, 0, none⟩)⟩ ?_
     intro _ _
     change TL _ _ _ _ _ _ _ _ (sepL [_, _, _, _, _])
     refine TL.nil (nt ?_)
     refine TC.seq ?_
     refine TC.seq ?_
     refine TC.region ?_
     refine wmi rfl rfl ?_
     refine q rfl rfl (neI rfl rfl) ?_
     refine TL.nil (nt ?_)
     refine TC.condF rfl ?_
     refine TC.skip (nt ?_)
     refine TC.seq ?_
     refine TC.seq ?_
     refine TC.region ?_
     refine wmi rfl rfl ?_
     refine q rfl rfl (eqI rfl rfl) ?_
     refine TL.nil (nt ?_)
     refine TC.condD rfl (fun hs9 => ?_) (fun hs9 => ?_)
     ·have hv : takeT1 (mS T m9) o (-1) (stT T id) id = tellS (tellS (mS T m9) 0 [o.fr]) 0 [id] := by rw [takeT1, if_neg (show ¬ (o.cl = true) by rw [hc]; decide), if_pos (show (-1 : Int) = -1 from rfl), if_pos hs9]
      rw [hv]
      refine TC.region ?_
      refine wmp rfl rfl ?_
      refine wmi rfl rfl ?_
      refine e rfl ?_
      refine bs (cs := [.int _ _]) rfl ?_
      intro b13
      refine e rfl ?_
      refine cl (ttell_ok b (tellS (mS T m9) 0 [o.fr]) (TZ.tb (n := 1) (TZ.tell hZ 0 o.fr) (by decide)) (0) (some ⟨b13, 0, none⟩) _ [id] (fun x hx => by rw [List.mem_singleton.1 hx, (hmi (mS T m9) 0 o.fr hm9)]; exact h1) (by have := (TZ.S (TZ.tell hZ 0 o.fr)); simp <;> omega) (by have := (TZ.A (TZ.tell hZ 0 o.fr)); omega)) rfl PkL.p ⟨_, RdSI.rd (ad := some ⟨b13, 0, none⟩)⟩ ?_
      intro _ _
      change TL _ _ _ _ _ _ _ _ (sepL [_, _, _, _, _, _])
      refine TL.nil (nt ?_)
      refine TC.seq ?_
      refine TC.region ?_
      refine q rfl rfl (ldN (vs := [_, _, _]) 3 rfl rfl rfl rfl) ?_
      refine e0 ?_
      refine st (v := .agg #[_, _, _]) (vs := [_, _, _]) 3 rfl rfl rfl rfl rfl rfl (Nat.le_of_ble_eq_true rfl) rfl ?_
      refine wai rfl rfl ?_
      refine TL.nil (nt ?_)
      refine TC.ret ?_
      exact Ret.i () [_, _] ⟨(rcN (n := 3) rfl rfl rfl rfl), rfl, trivial⟩ rfl trivial (ent_take 1 rfl (ent_take 4 rfl (ent_nil _)))
     ·have hv : takeT1 (mS T m9) o (-1) (stT T id) id = (tellS (mS T m9) 0 [o.fr]) := by rw [takeT1, if_neg (show ¬ (o.cl = true) by rw [hc]; decide), if_pos (show (-1 : Int) = -1 from rfl), if_neg hs9]
      rw [hv]
      refine TC.skip (nt ?_)
      refine TC.seq ?_
      refine TC.region ?_
      refine q rfl rfl (ldN (vs := [_, _, _]) 3 rfl rfl rfl rfl) ?_
      refine e0 ?_
      refine st (v := .agg #[_, _, _]) (vs := [_, _, _]) 3 rfl rfl rfl rfl rfl rfl (Nat.le_of_ble_eq_true rfl) rfl ?_
      refine wai rfl rfl ?_
      refine TL.nil (nt ?_)
      refine TC.ret ?_
      exact Ret.i () [_, _] ⟨(rcN (n := 3) rfl rfl rfl rfl), rfl, trivial⟩ rfl trivial (ent_take 1 rfl (ent_take 3 rfl (ent_nil _)))
 ·refine e rfl ?_
  refine cl (tatc_no b T id h1) rfl PkL.p trivial ?_
  intro _ _
  change TL _ _ _ _ _ _ _ _ (sepL [_, _, _])
  have hv : takeT T id = (T, o0, 6) := if_pos h1
  rw [hv]
  refine wmt rfl rfl ?_
  refine q rfl rfl (pu (v := .pointer _) (fun _ => rfl)) ?_
  refine q rfl rfl (pu (v := .int _ _) (fun _ => rfl)) ?_
  refine wap rfl rfl ?_
  refine wai rfl rfl ?_
  refine TL.nil (nt ?_)
  refine TC.seq ?_
  refine TC.region ?_
  refine wmp rfl rfl ?_
  refine wmi rfl rfl ?_
  refine e rfl ?_
  refine cl (tstate_ok b T id) rfl PkL.p trivial ?_
  intro _ _
  change TL _ _ _ _ _ _ _ _ (sepL [_, _, _])
  refine wai rfl rfl ?_
  refine TL.nil (nt ?_)
  refine TC.seq ?_
  refine TC.block ?_
  refine TC.seq ?_
  refine TC.region ?_
  refine wmi rfl rfl ?_
  refine q rfl rfl (neI rfl rfl) ?_
  refine wab rfl rfl ?_
  refine TL.nil (nt ?_)
  refine TC.condT rfl ?_
  refine TC.seq ?_
  refine TC.region ?_
  refine q rfl rfl (bld (cs := [.int _ _, .int _ _, .bool _]) rfl) ?_
  refine wmi rfl rfl ?_
  refine e0 ?_
  refine st (v := .agg #[_, _, _]) (vs := [_, _, _]) 3 rfl rfl rfl rfl rfl rfl (Nat.le_of_ble_eq_true rfl) rfl ?_
  refine wai rfl rfl ?_
  refine TL.nil (nt ?_)
  refine TC.ret (rb (rt ?_))
  exact Ret.i () [_, _] ⟨(rcN (n := 3) rfl rfl rfl rfl), rfl, trivial⟩ rfl trivial (ent_take 1 rfl (ent_take 1 rfl (ent_nil _)))
set_option maxRecDepth 4000 in
theorem trun_ok (b : Nat) (T : TS) (hP : TP T []) (hb : TB T) : FSpec Tryz.prog 19 [.pointer (some ⟨b, 0, none⟩)] noRd [isT b T] (fun _ : Unit => .int .i64 (runS T.S)) (fun _ => True) (fun _ => [isT b T]) := by
 refine FSpec.intro (rs := [.tmp 2]) (by kernel_rfl) Tryz.func19 rfl Tryz.ntmps19 (by rfl) rfl ?_
 intro F _
 change TC _ _ _ _ _ _ _ (sepL [_, _])
 obtain ⟨hSl, hAl, _, hil⟩ := hP.bds hb
 have hW := hP.wm
 have hnow := hb.now
 have htn := hb.tn
 have htold := hb.told
 refine TC.open 0 rfl (fun x0 hx0 => ?_)
 obtain ⟨qb, a, pb, tb, B, M, ad, cap⟩ := x0
 have hN := hx0
 change TC _ _ _ _ _ _ _ (sepL [_, _, _, _, _, _, _, _])
 dsimp only at hN ⊢
 refine TC.seq ?_
 refine TC.region ?_
 refine wai rfl rfl ?_
 refine TL.nil (nt ?_)
 refine TC.seq ?_
 refine TC.seq ?_
 refine TC.region ?_
 refine wmp rfl rfl ?_
 refine q rfl rfl (eqNil rfl rfl rfl) ?_
 refine TL.nil (nt ?_)
 refine TC.condF rfl ?_
 refine TC.skip (nt ?_)
 refine TC.seq ?_
 refine TC.region ?_
 refine wmp rfl rfl ?_
 refine wnc rfl rfl ?_
 refine wfa 0 rfl rfl rfl ?_
 refine wld rfl rfl rfl rfl ?_
 refine e rfl ?_
 refine cl (Rd.run_ok qb T.S (by omega)) rfl PkL.p trivial ?_
 intro _ _
 change TL _ _ _ _ _ _ _ _ (sepL [_, _, _, _, _, _, _, _])
 refine wai rfl rfl ?_
 refine TL.nil (nt ?_)
 refine TC.ret ?_
 exact Ret.i () [_] ⟨rfl, trivial⟩ rfl trivial (ent_close (⟨qb, a, pb, tb, B, M, ad, cap⟩ : TRep) hN (ent_take 1 rfl (ent_take 0 rfl (ent_take 0 rfl (ent_take 0 rfl (ent_take 0 rfl (ent_take 0 rfl (ent_take 0 rfl (ent_take 0 rfl (ent_nil _))))))))))
set_option maxRecDepth 4000 in
theorem trun_nil  : FSpec Tryz.prog 19 [.pointer none] noRd [] (fun _ : Unit => .int .i64 (-1)) (fun _ => True) (fun _ => []) := by
 refine FSpec.intro (rs := [.tmp 2]) (by kernel_rfl) Tryz.func19 rfl Tryz.ntmps19 (by rfl) rfl ?_
 intro F _
 change TC _ _ _ _ _ _ _ (sepL [_])
 refine TC.seq ?_
 refine TC.region ?_
 refine wai rfl rfl ?_
 refine TL.nil (nt ?_)
 refine TC.seq ?_
 refine TC.seq ?_
 refine TC.region ?_
 refine wmp rfl rfl ?_
 refine q rfl rfl (eqNil rfl rfl rfl) ?_
 refine TL.nil (nt ?_)
 refine TC.condT rfl ?_
 refine TC.seq ?_
 refine TC.region ?_
 refine wai rfl rfl ?_
 refine TL.nil (nt ?_)
 refine TC.ret (rt ?_)
 exact Ret.i () [_] ⟨rfl, trivial⟩ rfl trivial (ent_take 0 rfl (ent_nil _))
set_option maxRecDepth 4000 in
theorem tyield_ok (b : Nat) (T : TS) (hP : TP T []) (hb : TB T) : FSpec Tryz.prog 18 [.pointer (some ⟨b, 0, none⟩)] noRd [isT b T] (fun _ : Unit => .int .i64 (runS (yieldT T).S)) (fun _ => True) (fun _ => [isT b (yieldT T)]) := by
 refine FSpec.intro (rs := [.tmp 2]) (by kernel_rfl) Tryz.func18 rfl Tryz.ntmps18 (by rfl) rfl ?_
 intro F _
 change TC _ _ _ _ _ _ _ (sepL [_, _])
 obtain ⟨hSl, hAl, _, hil⟩ := hP.bds hb
 have hW := hP.wm
 have hnow := hb.now
 have htn := hb.tn
 have htold := hb.told
 refine TC.open 0 rfl (fun x0 hx0 => ?_)
 obtain ⟨qb, a, pb, tb, B, M, ad, cap⟩ := x0
 have hN := hx0
 change TC _ _ _ _ _ _ _ (sepL [_, _, _, _, _, _, _, _])
 dsimp only at hN ⊢
 refine TC.seq ?_
 refine TC.region ?_
 refine wai rfl rfl ?_
 refine TL.nil (nt ?_)
 refine TC.seq ?_
 refine TC.seq ?_
 refine TC.region ?_
 refine wmp rfl rfl ?_
 refine q rfl rfl (eqNil rfl rfl rfl) ?_
 refine TL.nil (nt ?_)
 refine TC.condF rfl ?_
 refine TC.skip (nt ?_)
 refine TC.seq ?_
 refine TC.region ?_
 refine wmp rfl rfl ?_
 refine wnc rfl rfl ?_
 refine wfa 0 rfl rfl rfl ?_
 refine wld rfl rfl rfl rfl ?_
 refine e rfl ?_
 refine cl (Rd.yield_ok qb T.S (by omega) hP.rj) rfl PkL.p trivial ?_
 intro _ _
 change TL _ _ _ _ _ _ _ _ (sepL [_, _, _, _, _, _, _, _])
 refine wai rfl rfl ?_
 refine TL.nil (nt ?_)
 refine TC.ret ?_
 exact Ret.i () [_] ⟨rfl, trivial⟩ rfl trivial (ent_close (⟨qb, a, pb, tb, B, M, ad, cap⟩ : TRep) hN (ent_take 1 rfl (ent_take 0 rfl (ent_take 0 rfl (ent_take 0 rfl (ent_take 0 rfl (ent_take 0 rfl (ent_take 0 rfl (ent_take 0 rfl (ent_nil _))))))))))
set_option maxRecDepth 4000 in
theorem tyield_nil  : FSpec Tryz.prog 18 [.pointer none] noRd [] (fun _ : Unit => .int .i64 (-1)) (fun _ => True) (fun _ => []) := by
 refine FSpec.intro (rs := [.tmp 2]) (by kernel_rfl) Tryz.func18 rfl Tryz.ntmps18 (by rfl) rfl ?_
 intro F _
 change TC _ _ _ _ _ _ _ (sepL [_])
 refine TC.seq ?_
 refine TC.region ?_
 refine wai rfl rfl ?_
 refine TL.nil (nt ?_)
 refine TC.seq ?_
 refine TC.seq ?_
 refine TC.region ?_
 refine wmp rfl rfl ?_
 refine q rfl rfl (eqNil rfl rfl rfl) ?_
 refine TL.nil (nt ?_)
 refine TC.condT rfl ?_
 refine TC.seq ?_
 refine TC.region ?_
 refine wai rfl rfl ?_
 refine TL.nil (nt ?_)
 refine TC.ret (rt ?_)
 exact Ret.i () [_] ⟨rfl, trivial⟩ rfl trivial (ent_take 0 rfl (ent_nil _))
set_option maxRecDepth 4000 in
theorem tcaller_ok (b : Nat) (T : TS) (hP : TP T []) (hb : TB T) (id : Int) : FSpec Tryz.prog 25 [.pointer (some ⟨b, 0, none⟩), .int .i64 id] noRd [isT b T] (fun _ : Unit => .int .i64 (clR T.m id)) (fun _ => True) (fun _ => [isT b T]) := by
 refine FSpec.intro (rs := [.tmp 4]) (by kernel_rfl) Tryz.func25 rfl Tryz.ntmps25 (by rfl) rfl ?_
 intro F _
 change TC _ _ _ _ _ _ _ (sepL [_, _])
 obtain ⟨hSl, hAl, _, hil⟩ := hP.bds hb
 have hW := hP.wm
 have hnow := hb.now
 have htn := hb.tn
 have htold := hb.told
 refine TC.open 0 rfl (fun x0 hx0 => ?_)
 obtain ⟨qb, a, pb, tb, B, M, ad, cap⟩ := x0
 have hN := hx0
 change TC _ _ _ _ _ _ _ (sepL [_, _, _, _, _, _, _, _])
 dsimp only at hN ⊢
 refine TC.seq ?_
 refine TC.region ?_
 refine wai rfl rfl ?_
 refine TL.nil (nt ?_)
 refine TC.seq ?_
 refine TC.seq ?_
 refine TC.region ?_
 refine wmp rfl rfl ?_
 refine q rfl rfl (eqNil rfl rfl rfl) ?_
 refine TL.nil (nt ?_)
 refine TC.condF rfl ?_
 refine TC.skip (nt ?_)
 refine TC.seq ?_
 refine TC.region ?_
 refine wmp rfl rfl ?_
 refine wnc rfl rfl ?_
 refine wfa 2 rfl rfl rfl ?_
 refine wld rfl rfl rfl rfl ?_
 refine wmi rfl rfl ?_
 refine e rfl ?_
 refine cl (mcaller_ok pb M T.m id) rfl PkL.p trivial ?_
 intro _ _
 change TL _ _ _ _ _ _ _ _ (sepL [_, _, _, _, _, _, _, _])
 refine wai rfl rfl ?_
 refine TL.nil (nt ?_)
 refine TC.ret ?_
 exact Ret.i () [_] ⟨rfl, trivial⟩ rfl trivial (ent_close (⟨qb, a, pb, tb, B, M, ad, cap⟩ : TRep) hN (ent_take 1 rfl (ent_take 1 rfl (ent_take 1 rfl (ent_take 0 rfl (ent_take 0 rfl (ent_take 0 rfl (ent_take 0 rfl (ent_take 0 rfl (ent_nil _))))))))))
set_option maxRecDepth 4000 in
theorem tcaller_nil (id : Int) : FSpec Tryz.prog 25 [.pointer none, .int .i64 id] noRd [] (fun _ : Unit => .int .i64 (-1)) (fun _ => True) (fun _ => []) := by
 refine FSpec.intro (rs := [.tmp 4]) (by kernel_rfl) Tryz.func25 rfl Tryz.ntmps25 (by rfl) rfl ?_
 intro F _
 change TC _ _ _ _ _ _ _ (sepL [_])
 refine TC.seq ?_
 refine TC.region ?_
 refine wai rfl rfl ?_
 refine TL.nil (nt ?_)
 refine TC.seq ?_
 refine TC.seq ?_
 refine TC.region ?_
 refine wmp rfl rfl ?_
 refine q rfl rfl (eqNil rfl rfl rfl) ?_
 refine TL.nil (nt ?_)
 refine TC.condT rfl ?_
 refine TC.seq ?_
 refine TC.region ?_
 refine wai rfl rfl ?_
 refine TL.nil (nt ?_)
 refine TC.ret (rt ?_)
 exact Ret.i () [_] ⟨rfl, trivial⟩ rfl trivial (ent_take 0 rfl (ent_nil _))
set_option maxRecDepth 4000 in
theorem tleft_ok (b : Nat) (T : TS) (hP : TP T []) (hb : TB T) (id : Int) : FSpec Tryz.prog 23 [.pointer (some ⟨b, 0, none⟩), .int .i64 id] noRd [isT b T] (fun _ : Unit => .int .i64 (leftA T.A T.now id)) (fun _ => True) (fun _ => [isT b T]) := by
 refine FSpec.intro (rs := [.tmp 4]) (by kernel_rfl) Tryz.func23 rfl Tryz.ntmps23 (by rfl) rfl ?_
 intro F _
 change TC _ _ _ _ _ _ _ (sepL [_, _])
 obtain ⟨hSl, hAl, _, hil⟩ := hP.bds hb
 have hW := hP.wm
 have hnow := hb.now
 have htn := hb.tn
 have htold := hb.told
 refine TC.open 0 rfl (fun x0 hx0 => ?_)
 obtain ⟨qb, a, pb, tb, B, M, ad, cap⟩ := x0
 have hN := hx0
 change TC _ _ _ _ _ _ _ (sepL [_, _, _, _, _, _, _, _])
 dsimp only at hN ⊢
 refine TC.seq ?_
 refine TC.region ?_
 refine wai rfl rfl ?_
 refine TL.nil (nt ?_)
 refine TC.seq ?_
 refine TC.seq ?_
 refine TC.region ?_
 refine wmp rfl rfl ?_
 refine q rfl rfl (eqNil rfl rfl rfl) ?_
 refine TL.nil (nt ?_)
 refine TC.condF rfl ?_
 refine TC.skip (nt ?_)
 refine TC.seq ?_
 refine TC.region ?_
 refine wmp rfl rfl ?_
 refine wnc rfl rfl ?_
 refine wfa 1 rfl rfl rfl ?_
 refine wld rfl rfl rfl rfl ?_
 refine wmi rfl rfl ?_
 refine e rfl ?_
 refine cl (Al.left_ok a T.now T.tn T.A (al_bd hb (by omega)) id (fun e he => by have := hP.tm e he; omega)) rfl PkL.p trivial ?_
 intro _ _
 change TL _ _ _ _ _ _ _ _ (sepL [_, _, _, _, _, _, _, _])
 refine wai rfl rfl ?_
 refine TL.nil (nt ?_)
 refine TC.ret ?_
 exact Ret.i () [_] ⟨rfl, trivial⟩ rfl trivial (ent_close (⟨qb, a, pb, tb, B, M, ad, cap⟩ : TRep) hN (ent_take 1 rfl (ent_take 1 rfl (ent_take 0 rfl (ent_take 0 rfl (ent_take 0 rfl (ent_take 0 rfl (ent_take 0 rfl (ent_take 0 rfl (ent_nil _))))))))))
set_option maxRecDepth 4000 in
theorem tleft_nil (id : Int) : FSpec Tryz.prog 23 [.pointer none, .int .i64 id] noRd [] (fun _ : Unit => .int .i64 0) (fun _ => True) (fun _ => []) := by
 refine FSpec.intro (rs := [.tmp 4]) (by kernel_rfl) Tryz.func23 rfl Tryz.ntmps23 (by rfl) rfl ?_
 intro F _
 change TC _ _ _ _ _ _ _ (sepL [_])
 refine TC.seq ?_
 refine TC.region ?_
 refine wai rfl rfl ?_
 refine TL.nil (nt ?_)
 refine TC.seq ?_
 refine TC.seq ?_
 refine TC.region ?_
 refine wmp rfl rfl ?_
 refine q rfl rfl (eqNil rfl rfl rfl) ?_
 refine TL.nil (nt ?_)
 refine TC.condT rfl ?_
 refine TC.seq ?_
 refine TC.region ?_
 refine wai rfl rfl ?_
 refine TL.nil (nt ?_)
 refine TC.ret (rt ?_)
 exact Ret.i () [_] ⟨rfl, trivial⟩ rfl trivial (ent_take 0 rfl (ent_nil _))
set_option maxRecDepth 4000 in
theorem tready_ok (b : Nat) (T : TS) (hP : TP T []) (hb : TB T) (id : Int) : FSpec Tryz.prog 21 [.pointer (some ⟨b, 0, none⟩), .int .i64 id] noRd [isT b T] (fun y : Option Addr × Nat => .slice y.1 (Rd.rowR T.S id).length y.2) (fun _ => True) (fun y => [slc 3 1 y.1 (Rd.rowR T.S id).length y.2 (ints (Rd.rowR T.S id)), isT b T]) := by
 refine FSpec.intro (rs := [.tmp 4]) (by kernel_rfl) Tryz.func21 rfl Tryz.ntmps21 (by rfl) rfl ?_
 intro F _
 change TC _ _ _ _ _ _ _ (sepL [_, _])
 obtain ⟨hSl, hAl, _, hil⟩ := hP.bds hb
 have hW := hP.wm
 have hnow := hb.now
 have htn := hb.tn
 have htold := hb.told
 refine TC.open 0 rfl (fun x0 hx0 => ?_)
 obtain ⟨qb, a, pb, tb, B, M, ad, cap⟩ := x0
 have hN := hx0
 change TC _ _ _ _ _ _ _ (sepL [_, _, _, _, _, _, _, _])
 dsimp only at hN ⊢
 refine TC.seq ?_
 refine TC.region ?_
 refine was rfl rfl ?_
 refine TL.nil (nt ?_)
 refine TC.seq ?_
 refine TC.seq ?_
 refine TC.region ?_
 refine wmp rfl rfl ?_
 refine q rfl rfl (eqNil rfl rfl rfl) ?_
 refine TL.nil (nt ?_)
 refine TC.condF rfl ?_
 refine TC.skip (nt ?_)
 refine TC.seq ?_
 refine TC.region ?_
 refine wmp rfl rfl ?_
 refine wnc rfl rfl ?_
 refine wfa 0 rfl rfl rfl ?_
 refine wld rfl rfl rfl rfl ?_
 refine wmi rfl rfl ?_
 refine e rfl ?_
 refine cl (Rd.row_ok qb T.S (by omega) id) rfl PkL.p trivial ?_
 intro yr _
 change TL _ _ _ _ _ _ _ _ (sepL [_, _, _, _, _, _, _, _, _])
 refine was rfl rfl ?_
 refine TL.nil (nt ?_)
 refine TC.ret ?_
 exact Ret.i yr [_] ⟨rfl, trivial⟩ rfl trivial (ent_take 0 rfl (ent_close (⟨qb, a, pb, tb, B, M, ad, cap⟩ : TRep) hN (ent_take 1 rfl (ent_take 0 rfl (ent_take 0 rfl (ent_take 0 rfl (ent_take 0 rfl (ent_take 0 rfl (ent_take 0 rfl (ent_take 0 rfl (ent_nil _)))))))))))
set_option maxRecDepth 4000 in
theorem tready_nil (id : Int) : FSpec Tryz.prog 21 [.pointer none, .int .i64 id] noRd [] (fun _ : Unit => .slice none 0 0) (fun _ => True) (fun _ => []) := by
 refine FSpec.intro (rs := [.tmp 4]) (by kernel_rfl) Tryz.func21 rfl Tryz.ntmps21 (by rfl) rfl ?_
 intro F _
 change TC _ _ _ _ _ _ _ (sepL [_])
 refine TC.seq ?_
 refine TC.region ?_
 refine was rfl rfl ?_
 refine TL.nil (nt ?_)
 refine TC.seq ?_
 refine TC.seq ?_
 refine TC.region ?_
 refine wmp rfl rfl ?_
 refine q rfl rfl (eqNil rfl rfl rfl) ?_
 refine TL.nil (nt ?_)
 refine TC.condT rfl ?_
 refine TC.seq ?_
 refine TC.region ?_
 refine was rfl rfl ?_
 refine TL.nil (nt ?_)
 refine TC.ret (rt ?_)
 exact Ret.i () [_] ⟨rfl, trivial⟩ rfl trivial (ent_take 0 rfl (ent_nil _))
set_option maxRecDepth 4000 in
theorem trow_ok (b : Nat) (T : TS) (hP : TP T []) (hb : TB T) (id : Int) : FSpec Tryz.prog 22 [.pointer (some ⟨b, 0, none⟩), .int .i64 id] noRd [isT b T] (fun y : Option Addr × Nat => .slice y.1 (rowR T.m id).length y.2) (fun _ => True) (fun y => [slc 26 3 y.1 (rowR T.m id).length y.2 (ofsC (rowR T.m id)), isT b T]) := by
 refine FSpec.intro (rs := [.tmp 4]) (by kernel_rfl) Tryz.func22 rfl Tryz.ntmps22 (by rfl) rfl ?_
 intro F _
 change TC _ _ _ _ _ _ _ (sepL [_, _])
 obtain ⟨hSl, hAl, _, hil⟩ := hP.bds hb
 have hW := hP.wm
 have hnow := hb.now
 have htn := hb.tn
 have htold := hb.told
 refine TC.open 0 rfl (fun x0 hx0 => ?_)
 obtain ⟨qb, a, pb, tb, B, M, ad, cap⟩ := x0
 have hN := hx0
 change TC _ _ _ _ _ _ _ (sepL [_, _, _, _, _, _, _, _])
 dsimp only at hN ⊢
 refine TC.seq ?_
 refine TC.region ?_
 refine was rfl rfl ?_
 refine TL.nil (nt ?_)
 refine TC.seq ?_
 refine TC.seq ?_
 refine TC.region ?_
 refine wmp rfl rfl ?_
 refine q rfl rfl (eqNil rfl rfl rfl) ?_
 refine TL.nil (nt ?_)
 refine TC.condF rfl ?_
 refine TC.skip (nt ?_)
 refine TC.seq ?_
 refine TC.region ?_
 refine wmp rfl rfl ?_
 refine wnc rfl rfl ?_
 refine wfa 2 rfl rfl rfl ?_
 refine wld rfl rfl rfl rfl ?_
 refine wmi rfl rfl ?_
 refine e rfl ?_
 refine cl (mrow_ok pb M T.m id (by have := rowRlen hW id; omega)) rfl PkL.p trivial ?_
 intro yr _
 change TL _ _ _ _ _ _ _ _ (sepL [_, _, _, _, _, _, _, _, _])
 refine was rfl rfl ?_
 refine TL.nil (nt ?_)
 refine TC.ret ?_
 exact Ret.i yr [_] ⟨rfl, trivial⟩ rfl trivial (ent_take 0 rfl (ent_close (⟨qb, a, pb, tb, B, M, ad, cap⟩ : TRep) hN (ent_take 1 rfl (ent_take 1 rfl (ent_take 1 rfl (ent_take 0 rfl (ent_take 0 rfl (ent_take 0 rfl (ent_take 0 rfl (ent_take 0 rfl (ent_nil _)))))))))))
set_option maxRecDepth 4000 in
theorem trow_nil (id : Int) : FSpec Tryz.prog 22 [.pointer none, .int .i64 id] noRd [] (fun _ : Unit => .slice none 0 0) (fun _ => True) (fun _ => []) := by
 refine FSpec.intro (rs := [.tmp 4]) (by kernel_rfl) Tryz.func22 rfl Tryz.ntmps22 (by rfl) rfl ?_
 intro F _
 change TC _ _ _ _ _ _ _ (sepL [_])
 refine TC.seq ?_
 refine TC.region ?_
 refine was rfl rfl ?_
 refine TL.nil (nt ?_)
 refine TC.seq ?_
 refine TC.seq ?_
 refine TC.region ?_
 refine wmp rfl rfl ?_
 refine q rfl rfl (eqNil rfl rfl rfl) ?_
 refine TL.nil (nt ?_)
 refine TC.condT rfl ?_
 refine TC.seq ?_
 refine TC.region ?_
 refine was rfl rfl ?_
 refine TL.nil (nt ?_)
 refine TC.ret (rt ?_)
 exact Ret.i () [_] ⟨rfl, trivial⟩ rfl trivial (ent_take 0 rfl (ent_nil _))
set_option maxRecDepth 4000 in
theorem ttold_ok (b : Nat) (T : TS) : FSpec Tryz.prog 24 [.pointer (some ⟨b, 0, none⟩)] noRd [isT b T] (fun y : Option Addr × Nat => .slice y.1 T.told.length y.2) (fun _ => True) (fun y => [slc 74 2 y.1 T.told.length y.2 (tgsC T.told), isT b (toldT T)]) := by
 refine FSpec.intro (rs := [.tmp 2]) (by kernel_rfl) Tryz.func24 rfl Tryz.ntmps24 (by rfl) rfl ?_
 intro F _
 change TC _ _ _ _ _ _ _ (sepL [_, _])
 refine TC.open 0 rfl (fun x0 hx0 => ?_)
 obtain ⟨qb, a, pb, tb, B, M, ad, cap⟩ := x0
 have hN := hx0
 change TC _ _ _ _ _ _ _ (sepL [_, _, _, _, _, _, _, _])
 dsimp only at hN ⊢
 refine TC.seq ?_
 refine TC.region ?_
 refine was rfl rfl ?_
 refine TL.nil (nt ?_)
 refine TC.seq ?_
 refine TC.seq ?_
 refine TC.region ?_
 refine wmp rfl rfl ?_
 refine q rfl rfl (eqNil rfl rfl rfl) ?_
 refine TL.nil (nt ?_)
 refine TC.condF rfl ?_
 refine TC.skip (nt ?_)
 refine TC.seq ?_
 refine TC.region ?_
 refine wmp rfl rfl ?_
 refine wnc rfl rfl ?_
 refine wfa 4 rfl rfl rfl ?_
 refine wld rfl rfl rfl rfl ?_
 refine was rfl rfl ?_
 refine TL.nil (nt ?_)
 refine TC.seq ?_
 refine TC.region ?_
 refine wmp rfl rfl ?_
 refine wnc rfl rfl ?_
 refine wfa 4 rfl rfl rfl ?_
 refine e0 ?_
 refine st (v := .slice _ _ _) (vs := [_]) 1 rfl rfl rfl rfl rfl rfl (Nat.le_of_ble_eq_true rfl) rfl ?_
 refine TL.nil (nt ?_)
 refine TC.seq ?_
 refine TC.region ?_
 refine wms rfl rfl ?_
 refine was rfl rfl ?_
 refine TL.nil (nt ?_)
 refine TC.ret ?_
 exact Ret.i ⟨ad, cap⟩ [_] ⟨rfl, trivial⟩ rfl trivial ((slc_nil 74 2 _).trans (ent_take 7 rfl (ent_close (⟨qb, a, pb, tb, B, M, none, 0⟩ : TRep) hN (ent_take 1 rfl (ent_take 1 rfl (ent_take 1 rfl (ent_take 1 rfl (ent_take 1 rfl (ent_take 1 rfl (ent_take 0 rfl (ent_take 0 rfl (ent_nil _))))))))))))
set_option maxRecDepth 4000 in
theorem ttold_nil  : FSpec Tryz.prog 24 [.pointer none] noRd [] (fun _ : Unit => .slice none 0 0) (fun _ => True) (fun _ => []) := by
 refine FSpec.intro (rs := [.tmp 2]) (by kernel_rfl) Tryz.func24 rfl Tryz.ntmps24 (by rfl) rfl ?_
 intro F _
 change TC _ _ _ _ _ _ _ (sepL [_])
 refine TC.seq ?_
 refine TC.region ?_
 refine was rfl rfl ?_
 refine TL.nil (nt ?_)
 refine TC.seq ?_
 refine TC.seq ?_
 refine TC.region ?_
 refine wmp rfl rfl ?_
 refine q rfl rfl (eqNil rfl rfl rfl) ?_
 refine TL.nil (nt ?_)
 refine TC.condT rfl ?_
 refine TC.seq ?_
 refine TC.region ?_
 refine was rfl rfl ?_
 refine TL.nil (nt ?_)
 refine TC.ret (rt ?_)
 exact Ret.i () [_] ⟨rfl, trivial⟩ rfl trivial (ent_take 0 rfl (ent_nil _))
set_option maxRecDepth 4000 in
theorem tclose_nil (gt : Int) : FSpec Tryz.prog 16 [.pointer none, .int .i64 gt] noRd [] (fun _ : Unit => .int .i64 0) (fun _ => True) (fun _ => []) := by
 refine FSpec.intro (rs := [.tmp 4]) (by kernel_rfl) Tryz.func16 rfl Tryz.ntmps16 (by rfl) rfl ?_
 intro F _
 change TC _ _ _ _ _ _ _ (sepL [_])
 refine TC.seq ?_
 refine TC.region ?_
 refine wai rfl rfl ?_
 refine TL.nil (nt ?_)
 refine TC.seq ?_
 refine TC.seq ?_
 refine TC.region ?_
 refine wmp rfl rfl ?_
 refine q rfl rfl (eqNil rfl rfl rfl) ?_
 refine TL.nil (nt ?_)
 refine TC.condT rfl ?_
 refine TC.seq ?_
 refine TC.region ?_
 refine wai rfl rfl ?_
 refine TL.nil (nt ?_)
 refine TC.ret (rt ?_)
 exact Ret.i () [_] ⟨rfl, trivial⟩ rfl trivial (ent_take 0 rfl (ent_nil _))
set_option maxRecDepth 4000 in
set_option maxHeartbeats 1000000 in
theorem ttick_ok (b : Nat) (T : TS) (hP : TP T []) (hb : TB T) (hto : T.told.length ≤ 90000000) (hnw : T.now ≤ 900000000) : FSpec Tryz.prog 17 [.pointer (some ⟨b, 0, none⟩)] noRd [isT b T] (fun _ : Unit => .int .i64 (runS (tickT T).S)) (fun _ => True) (fun _ => [isT b (tickT T)]) := by
 refine FSpec.intro (rs := [.tmp 2]) (by kernel_rfl) Tryz.func17 rfl Tryz.ntmps17 (by rfl) rfl ?_
 intro F _
 change TC _ _ _ _ _ _ _ (sepL [_, _])
 obtain ⟨hSl, hAl, _, hil⟩ := hP.bds hb
 have hW := hP.wm
 have hnow := hb.now
 have htn := hb.tn
 have htold := hb.told
 refine TC.open 0 rfl (fun x0 hx0 => ?_)
 obtain ⟨qb, a, pb, tb, B, M, ad, cap⟩ := x0
 have hN := hx0
 change TC _ _ _ _ _ _ _ (sepL [_, _, _, _, _, _, _, _])
 dsimp only at hN ⊢
 refine TC.seq ?_
 refine TC.region ?_
 refine wai rfl rfl ?_
 refine TL.nil (nt ?_)
 refine TC.seq ?_
 refine TC.seq ?_
 refine TC.region ?_
 refine wmp rfl rfl ?_
 refine q rfl rfl (eqNil rfl rfl rfl) ?_
 refine TL.nil (nt ?_)
 refine TC.condF rfl ?_
 refine TC.skip (nt ?_)
 refine TC.seq ?_
 refine TC.region ?_
 refine wmp rfl rfl ?_
 refine wnc rfl rfl ?_
 refine wfa 0 rfl rfl rfl ?_
 refine wld rfl rfl rfl rfl ?_
 refine e rfl ?_
 refine cl (Rd.qtick_ok qb T.S (by omega) (fun t ht => (hP.lf t ht).1)) rfl PkL.p trivial ?_
 intro _ _
 change TL _ _ _ _ _ _ _ _ (sepL [_, _, _, _, _, _, _, _])
 refine TL.nil (nt ?_)
 refine TC.seq ?_
 refine TC.seq ?_
 refine TC.region ?_
 refine wmp rfl rfl ?_
 refine wnc rfl rfl ?_
 refine wfa 1 rfl rfl rfl ?_
 refine wld rfl rfl rfl rfl ?_
 refine e rfl ?_
 refine cl (Al.tick_ok a T.now T.tn T.A (al_bd hb (by omega)) (fun e he => by have := hP.tm e he; omega)) rfl PkL.p trivial ?_
 intro yt _
 change TL _ _ _ _ _ _ _ _ (sepL [_, _, _, _, _, _, _, _, _])
 have hdl := due_len (T.now + 1) T.A
 have hv : tickT T = wakeL (tickT1 T) (ids (dueA (T.now + 1) T.A)) := rfl
 rw [hv]
 clear hv
 generalize ids (dueA (T.now + 1) T.A) = l at hdl ⊢
 have hli := ints_length l
 refine q rfl rfl (len 3 1 rfl rfl) ?_
 refine wmi rfl rfl ?_
 refine TL.nil (nt ?_)
 refine TC.block ?_
 refine TC.weak (B := sepL [isT b (tickT1 T), slc 3 1 yt.1 l.length yt.2 (ints l), F]) ((ent_close (⟨qb, a, pb, tb, B, M, ad, cap⟩ : TRep) hN (ent_take 3 rfl (ent_take 2 rfl (ent_take 1 rfl (ent_take 1 rfl (ent_take 1 rfl (ent_take 1 rfl (ent_take 1 rfl (ent_take 0 rfl (ent_take 0 rfl (ent_nil _)))))))))))) ?_
 refine TC.loop (ι := Nat) (fun k => k ≤ l.length) (fun k => [(0, .pointer (some ⟨b, 0, none⟩)), (16, .slice yt.1 l.length yt.2), (17, .int .i64 l.length), (18, .int .i64 ((k : Nat) : Int))]) (fun k => sepL [isT b (wakeL (tickT1 T) (l.take k)), slc 3 1 yt.1 l.length yt.2 (ints l), F]) (fun k => l.length - k) 0 (Nat.zero_le _) ⟨rfl, rfl, rfl, rfl, trivial⟩ (ent_take 0 rfl (ent_take 0 rfl (ent_take 0 rfl (ent_nil _)))) ?_
 rintro k hk ρ0
 dsimp only [updL] at hk ⊢
 refine TC.seq ?_
 refine TC.region ?_
 refine q rfl rfl (lss rfl rfl) ?_
 refine TL.nil (nt ?_)
 refine TC.seq ?_
 refine TC.condD rfl (fun hlt => ?_) (fun hlt => ?_)
 ·have hlt2 : k < l.length := by omega
  obtain ⟨x, hx⟩ : ∃ x, l[k]? = some x := ⟨l[k], List.getElem?_eq_getElem hlt2⟩
  have hpos : 0 < (ints l).length := by omega
  have hsn := wakeL_snoc (tickT1 T) l hx
  have hP2 := wakeL_TP (l.take k) hP.tick1
  obtain ⟨f1, f2, f3, f4⟩ := wakeL_f (l.take k) (tickT1 T)
  have hjt : (l.take k).length ≤ k := by rw [List.length_take]; omega
  have hb2 : TB (wakeL (tickT1 T) (l.take k)) := ⟨by rw [f1]; exact hb.ids, by rw [f2]; show 0 ≤ T.now + 1 ∧ T.now + 1 ≤ _; omega, by rw [f3]; exact hb.tn, by have e : (tickT1 T).told = T.told := rfl; rw [e] at f4; omega⟩
  refine TC.skip (nt ?_)
  refine TC.seq ?_
  refine TC.block ?_
  refine TC.seq ?_
  refine TC.region ?_
  refine q rfl rfl (ixS 3 1 rfl rfl rfl (by omega) (by assumption)) ?_
  refine q rfl rfl (ldS rfl rfl (ints_get hx)) ?_
  refine wai rfl rfl ?_
  refine TL.nil (nt ?_)
  refine TC.region ?_
  refine wmp rfl rfl ?_
  refine wmi rfl rfl ?_
  refine e rfl ?_
  refine cl (twake_ok b (wakeL (tickT1 T) (l.take k)) hP2 hb2 x 14) rfl PkL.p trivial ?_
  intro _ _
  change TL _ _ _ _ _ _ _ _ (sepL [_, _, _])
  refine TL.nil (nb (nt ?_))
  refine TC.region ?_
  refine q rfl rfl (addI rfl rfl (by omega) (by omega)) ?_
  refine wmi rfl rfl ?_
  refine TL.nil (nt ?_)
  exact ⟨rfl, (k + 1), (by omega), (by omega), ⟨rfl, rfl, rfl, rfl, trivial⟩, (by rw [hsn]; exact (ent_take 0 rfl (ent_take 0 rfl (ent_take 0 rfl (ent_nil _)))))⟩
 ·obtain rfl : k = l.length := by omega
  rw [List.take_length]
  have hP2 := wakeL_TP l hP.tick1
  obtain ⟨f1, f2, f3, f4⟩ := wakeL_f l (tickT1 T)
  have hb2 : TB (wakeL (tickT1 T) l) := ⟨by rw [f1]; exact hb.ids, by rw [f2]; show 0 ≤ T.now + 1 ∧ T.now + 1 ≤ _; omega, by rw [f3]; exact hb.tn, by have e : (tickT1 T).told = T.told := rfl; rw [e] at f4; omega⟩
  refine TC.exit (et (et (eb (nt ?_))))
  refine TC.seq ?_
  refine TC.region ?_
  refine wmp rfl rfl ?_
  refine e rfl ?_
  refine cl (trun_ok b (wakeL (tickT1 T) l) hP2 hb2) rfl PkL.p trivial ?_
  intro _ _
  change TL _ _ _ _ _ _ _ _ (sepL [_, _, _])
  refine wai rfl rfl ?_
  refine TL.nil (nt ?_)
  refine TC.ret ?_
  exact Ret.i () [_] ⟨rfl, trivial⟩ rfl trivial (ent_take 0 rfl (ent_take 1 rfl (ent_nil _)))
set_option maxRecDepth 4000 in
theorem ttick_nil  : FSpec Tryz.prog 17 [.pointer none] noRd [] (fun _ : Unit => .int .i64 (-1)) (fun _ => True) (fun _ => []) := by
 refine FSpec.intro (rs := [.tmp 2]) (by kernel_rfl) Tryz.func17 rfl Tryz.ntmps17 (by rfl) rfl ?_
 intro F _
 change TC _ _ _ _ _ _ _ (sepL [_])
 refine TC.seq ?_
 refine TC.region ?_
 refine wai rfl rfl ?_
 refine TL.nil (nt ?_)
 refine TC.seq ?_
 refine TC.seq ?_
 refine TC.region ?_
 refine wmp rfl rfl ?_
 refine q rfl rfl (eqNil rfl rfl rfl) ?_
 refine TL.nil (nt ?_)
 refine TC.condT rfl ?_
 refine TC.seq ?_
 refine TC.region ?_
 refine wai rfl rfl ?_
 refine TL.nil (nt ?_)
 refine TC.ret (rt ?_)
 exact Ret.i () [_] ⟨rfl, trivial⟩ rfl trivial (ent_take 0 rfl (ent_nil _))
set_option maxRecDepth 4000 in
theorem tsame_ok (a1 : Option Addr) (c1 : Nat) (xs : List Tg) (a2 : Option Addr) (c2 : Nat) (ys : List Tg) (hl : xs.length ≤ 100000000) : FSpec Tryz.prog 29 [.slice a1 xs.length c1, .slice a2 ys.length c2] (fun F => (∃ E, RdS F E a1 (tgsC xs)) ∧ ∃ E, RdS F E a2 (tgsC ys)) [] (fun _ : Unit => .bool (decide (xs = ys))) (fun _ => True) (fun _ => []) := by
 refine FSpec.intro (rs := [.tmp 4]) (by kernel_rfl) Tryz.func29 rfl Tryz.ntmps29 (by rfl) rfl ?_
 intro F ⟨⟨E1, hF1⟩, ⟨E2, hF2⟩⟩
 change TC _ _ _ _ _ _ _ (sepL [_])
 haveI : RdSI F a1 E1 (tgsC xs) := ⟨hF1⟩
 haveI : RdSI F a2 E2 (tgsC ys) := ⟨hF2⟩
 have hil1 := tgsC_length xs
 have hil2 := tgsC_length ys
 refine TC.seq ?_
 refine TC.region ?_
 refine wab rfl rfl ?_
 refine TL.nil (nt ?_)
 refine TC.seq ?_
 refine TC.seq ?_
 refine TC.region ?_
 refine wms rfl rfl ?_
 refine q rfl rfl (len 74 2 rfl rfl) ?_
 refine wms rfl rfl ?_
 refine q rfl rfl (len 74 2 rfl rfl) ?_
 refine q rfl rfl (neI rfl rfl) ?_
 refine TL.nil (nt ?_)
 refine TC.condD rfl (fun hne => ?_) (fun hne => ?_)
 ·refine TC.seq ?_
  refine TC.region ?_
  refine wab rfl rfl ?_
  refine TL.nil (nt ?_)
  refine TC.ret (rt ?_)
  have hd : decide (xs = ys) = false := decide_eq_false (fun e => hne (by rw [e]))
  exact Ret.i () [_] ⟨rfl, trivial⟩ (by rw [hd]; rfl) trivial (ent_take 0 rfl (ent_nil _))
 ·have hle : xs.length = ys.length := by omega
  refine TC.skip (nt ?_)
  refine TC.seq ?_
  refine TC.seq ?_
  refine TC.region ?_
  refine wai rfl rfl ?_
  refine TL.nil (nt ?_)
  refine TC.block ?_
  refine TC.loop (ι := Nat) (fun i => i ≤ xs.length ∧ xs.take i = ys.take i) (fun i => [(0, .slice a1 xs.length c1), (1, .slice a2 ys.length c2), (5, .int .i64 ((i : Nat) : Int))]) (fun i => sepL [F]) (fun i => xs.length - i) 0 ⟨Nat.zero_le _, rfl⟩ ⟨rfl, rfl, rfl, trivial⟩ (ent_take 0 rfl (ent_nil _)) ?_
  rintro k ⟨hinv, hsame⟩ ρ0
  dsimp only [updL] at hinv hsame ⊢
  refine TC.seq ?_
  refine TC.seq ?_
  refine TC.region ?_
  refine wmi rfl rfl ?_
  refine wms rfl rfl ?_
  refine q rfl rfl (len 74 2 rfl rfl) ?_
  refine q rfl rfl (lss rfl rfl) ?_
  refine TL.nil (nt ?_)
  refine TC.condD rfl (fun hlt => ?_) (fun hlt => ?_)
  ·have hlt : k < xs.length := by omega
   have hlt2 : k < ys.length := by omega
   obtain ⟨u, hu⟩ : ∃ u, xs[k]? = some u := ⟨xs[k], List.getElem?_eq_getElem hlt⟩
   obtain ⟨v, hv⟩ : ∃ v, ys[k]? = some v := ⟨ys[k], List.getElem?_eq_getElem hlt2⟩
   have hp1 : 0 < (tgsC xs).length := by omega
   have hp2 : 0 < (tgsC ys).length := by omega
   refine TC.skip (nt ?_)
   refine TC.seq ?_
   refine TC.block ?_
   refine TC.seq ?_
   refine TC.draw _ [] [(0, false), (1, false), (2, false), (3, false), (4, false), (5, false), (6, false), (7, false), (8, false)] (by kernel_rfl) (by kernel_rfl) (ent.refl _) ?_
   refine vms rfl rfl rfl ?_
   refine vmi rfl rfl rfl ?_
   refine dq rfl rfl rfl (ixS 74 2 rfl rfl rfl (by omega) (by assumption)) ?_
   refine dq rfl rfl rfl (ldSN (vs := ints [_, _]) 2 rfl rfl (flat_get_rec tgC_sz hu) rfl (by decide)) ?_
   refine vms rfl rfl rfl ?_
   refine vmi rfl rfl rfl ?_
   refine dq rfl rfl rfl (ixS 74 2 rfl rfl rfl (by omega) (by assumption)) ?_
   refine dq rfl rfl rfl (ldSN (vs := ints [_, _]) 2 rfl rfl (flat_get_rec tgC_sz hv) rfl (by decide)) ?_
   refine dq rfl rfl rfl (neS 2 (by kernel_rfl) rfl rfl rfl rfl) ?_
   refine TD.nil (nt ?_)
   refine TC.condD rfl (fun hd => ?_) (fun hd => ?_)
   ·refine TC.seq ?_
    refine TC.region ?_
    refine wab rfl rfl ?_
    refine TL.nil (nt ?_)
    refine TC.ret (rb (rt (rt (rb (rt ?_)))))
    have hdd : decide (xs = ys) = false := decide_eq_false (fun e => by subst e; rw [hu] at hv; cases hv; exact hd rfl)
    exact Ret.i () [_] ⟨rfl, trivial⟩ (by rw [hdd]; rfl) trivial (ent_take 0 rfl (ent_nil _))
   ·have huv : u = v := by
     obtain ⟨a9, b9⟩ := u; obtain ⟨c9, d9⟩ := v
     have := Decidable.not_not.1 hd
     simp at this
     rw [this.1, this.2]
    refine TC.skip (nb (nt ?_))
    refine TC.region ?_
    refine wmi rfl rfl ?_
    refine q rfl rfl (addI rfl rfl (by omega) (by omega)) ?_
    refine wai rfl rfl ?_
    refine TL.nil (nt ?_)
    exact ⟨rfl, (k + 1), ⟨by omega, by rw [List.take_add_one, List.take_add_one, hsame, hu, hv, huv]⟩, (by omega), ⟨rfl, rfl, rfl, trivial⟩, (ent_take 0 rfl (ent_nil _))⟩
  ·obtain rfl : k = xs.length := by omega
   have hdd : decide (xs = ys) = true := decide_eq_true (by rw [List.take_length, hle, List.take_length] at hsame; exact hsame)
   refine TC.exit (et (et (eb (nt ?_))))
   refine TC.seq ?_
   refine TC.region ?_
   refine wab rfl rfl ?_
   refine TL.nil (nt ?_)
   refine TC.ret ?_
   exact Ret.i () [_] ⟨rfl, trivial⟩ (by rw [hdd]; rfl) trivial (ent_take 0 rfl (ent_nil _))
end Go.Proofs.YtdfmfhcjnjfjbaaGreat
namespace Go.Proofs.YtdfmfhcjnjfjbaaGreat
open Go Go.QM
open Al (En hasA Nd clrA setA offA dueA restA leftA)
open Rd (hasS NdS addS RInv topS runS tickS yieldS rndS)
def T1 : TS := addL t0 [1, 2, 2]
theorem g1 : TG T1 0 := TG.zero.adds _ (by decide)
theorem n1 : T1.m.ids.length = 2 := by kernel_rfl
def T2 : TS := (startS T1 1 3 5).1
theorem r0 : startS T1 1 3 5 = (T2, 0) := by kernel_rfl
theorem g2 : TG T2 1 := g1.start _ _ _
def T3 : TS := (startS T2 2 3 5).1
theorem r1 : startS T2 2 3 5 = (T3, 0) := by kernel_rfl
theorem g3 : TG T3 2 := g2.start _ _ _
def T4 : TS := (waitS T3 1 0).1
theorem r2 : waitS T3 1 0 = (T4, 0) := by kernel_rfl
theorem g4 : TG T4 3 := g3.wait _ _
theorem r3 : runS T4.S = 2 := by kernel_rfl
def T5 : TS := (sendS T4 2 1 9 true 2).1
theorem r4 : sendS T4 2 1 9 true 2 = (T5, 0) := by kernel_rfl
theorem g5 : TG T5 4 := g4.send _ _ _ _ _
theorem r5 : runS T5.S = -1 := by kernel_rfl
def T6 : TS := (takeT T5 1).1
theorem r6 : takeT T5 1 = (T6, ⟨2, 9, true⟩, 0) := by kernel_rfl
theorem g6 : TG T6 5 := g5.take _
theorem r7 : runS T6.S = 1 := by kernel_rfl
theorem r8 : T6.told = [⟨1, 0⟩] := by kernel_rfl
def T7 : TS := toldT T6
theorem g7 : TG T7 5 := g6.tolds
def T8 : TS := tickT T7
theorem r9 : runS T8.S = 1 := by kernel_rfl
theorem g8 : TG T8 6 := g7.tick
def T9 : TS := tickT T8
theorem r10 : runS T9.S = 1 := by kernel_rfl
theorem g9 : TG T9 7 := g8.tick
theorem r11 : T9.told = [⟨2, 14⟩] := by kernel_rfl
def T10 : TS := toldT T9
theorem g10 : TG T10 7 := g9.tolds
def T11 : TS := (sendS T10 2 1 9 true 0).1
theorem r12 : sendS T10 2 1 9 true 0 = (T11, 0) := by kernel_rfl
theorem g11 : TG T11 8 := g10.send _ _ _ _ _
def T12 : TS := (takeT T11 1).1
theorem r13 : takeT T11 1 = (T12, ⟨2, 9, true⟩, 0) := by kernel_rfl
theorem g12 : TG T12 9 := g11.take _
def T13 : TS := (answerS T12 1).1
theorem r14 : answerS T12 1 = (T13, 2, 0) := by kernel_rfl
theorem g13 : TG T13 10 := g12.answer _
def T14 : TS := (sendS T13 2 1 9 false 0).1
theorem r15 : sendS T13 2 1 9 false 0 = (T14, 0) := by kernel_rfl
theorem g14 : TG T14 11 := g13.send _ _ _ _ _
def T15 : TS := (removeS T14 1).1
theorem r16 : removeS T14 1 = (T15, 0) := by kernel_rfl
theorem g15 : TG T15 12 := g14.remove _
theorem r17 : T15.told = [⟨2, 0⟩, ⟨2, 13⟩] := by kernel_rfl
def T16 : TS := toldT T15
theorem g16 : TG T16 12 := g15.tolds
def T17 : TS := (stopS T16 2).1
theorem r18 : stopS T16 2 = (T17, 0) := by kernel_rfl
theorem s1 : stT T16 1 = -1 := by kernel_rfl
theorem s2 : stT T16 2 = 0 := by kernel_rfl
theorem s3 : stT T17 2 = 4 := by kernel_rfl
set_option maxRecDepth 4000 in
set_option maxHeartbeats 4000000 in
theorem alive_ok  : FSpec Tryz.prog 5 [] noRd [] (fun _ : Unit => .bool true) (fun _ => True) (fun _ => []) := by
 refine FSpec.intro (rs := [.tmp 0]) (by kernel_rfl) Tryz.func5 rfl Tryz.ntmps5 (by rfl) rfl ?_
 intro F _
 change TC _ _ _ _ _ _ _ (sepL [_])
 refine TC.seq ?_
 refine TC.region ?_
 refine wab rfl rfl ?_
 refine TL.nil (nt ?_)
 refine TC.seq ?_
 refine TC.region ?_
 refine e rfl ?_
 refine cl tnew_ok rfl (picked_nil _) trivial ?_
 intro a _
 change TL _ _ _ _ _ _ _ _ (sepL [_, _])
 refine wap rfl rfl ?_
 refine TL.nil (nt ?_)
 refine TC.seq ?_
 refine TC.region ?_
 refine wmp rfl rfl ?_
 refine e rfl ?_
 refine bs (cs := [.int _ _, .int _ _, .int _ _]) rfl ?_
 intro b1
 refine e rfl ?_
 refine cl (tadd_ok a t0 (some ⟨b1, 0, none⟩) _ [1, 2, 2] (by decide) (by decide)) rfl PkL.p ⟨_, RdSI.rd (ad := some ⟨b1, 0, none⟩)⟩ ?_
 intro _ _
 change TL _ _ _ _ _ _ _ _ (sepL [_, _, _])
 rw [show addL t0 [1, 2, 2] = T1 from rfl, n1, show t0.m.ids.length = 0 from rfl]
 refine wai rfl rfl ?_
 refine TL.nil (nt ?_)
 refine TC.seq ?_
 refine TC.region ?_
 refine wmp rfl rfl ?_
 refine e rfl ?_
 refine cl (tstart_ok a T1 g1.p (g1.tb (by decide)) 1 3 5) rfl PkL.p trivial ?_
 intro _ _
 change TL _ _ _ _ _ _ _ _ (sepL [_, _, _])
 rw [r0]
 dsimp only
 refine wmp rfl rfl ?_
 refine e rfl ?_
 refine cl (tstart_ok a T2 g2.p (g2.tb (by decide)) 2 3 5) rfl PkL.p trivial ?_
 intro _ _
 change TL _ _ _ _ _ _ _ _ (sepL [_, _, _])
 rw [r1]
 dsimp only
 refine wai rfl rfl ?_
 refine wai rfl rfl ?_
 refine TL.nil (nt ?_)
 refine TC.seq ?_
 refine TC.region ?_
 refine wmp rfl rfl ?_
 refine e rfl ?_
 refine cl (twait_ok a T3 g3.p (g3.tb (by decide)) 1 0) rfl PkL.p trivial ?_
 intro _ _
 change TL _ _ _ _ _ _ _ _ (sepL [_, _, _])
 rw [r2]
 dsimp only
 refine wai rfl rfl ?_
 refine TL.nil (nt ?_)
 refine TC.seq ?_
 refine TC.region ?_
 refine wmp rfl rfl ?_
 refine e rfl ?_
 refine cl (trun_ok a T4 g4.p (g4.tb (by decide))) rfl PkL.p trivial ?_
 intro _ _
 change TL _ _ _ _ _ _ _ _ (sepL [_, _, _])
 rw [r3]
 refine wai rfl rfl ?_
 refine TL.nil (nt ?_)
 refine TC.seq ?_
 refine TC.region ?_
 refine wmp rfl rfl ?_
 refine e rfl ?_
 refine cl (tsend_ok a T4 g4.p (g4.tb (by decide)) 2 1 9 true 2) rfl PkL.p trivial ?_
 intro _ _
 change TL _ _ _ _ _ _ _ _ (sepL [_, _, _])
 rw [r4]
 dsimp only
 refine wai rfl rfl ?_
 refine TL.nil (nt ?_)
 refine TC.seq ?_
 refine TC.region ?_
 refine wmp rfl rfl ?_
 refine e rfl ?_
 refine cl (trun_ok a T5 g5.p (g5.tb (by decide))) rfl PkL.p trivial ?_
 intro _ _
 change TL _ _ _ _ _ _ _ _ (sepL [_, _, _])
 rw [r5]
 refine wai rfl rfl ?_
 refine TL.nil (nt ?_)
 refine TC.seq ?_
 refine TC.region ?_
 refine wmp rfl rfl ?_
 refine e rfl ?_
 refine cl (ttake_ok a T5 g5.p (g5.tb (by decide)) 1 (g5.tl (by decide))) rfl PkL.p trivial ?_
 intro _ _
 change TL _ _ _ _ _ _ _ _ (sepL [_, _, _])
 rw [r6]
 dsimp only
 refine wmt rfl rfl ?_
 refine q rfl rfl (pu (v := .agg #[_, _, _]) (fun _ => rfl)) ?_
 refine q rfl rfl (pu (v := .int _ _) (fun _ => rfl)) ?_
 refine e rfl ?_
 refine al (l := [.int _ _, .int _ _, .bool _]) rfl rfl ?_
 intro b2
 refine e0 ?_
 refine st (v := .agg #[_, _, _]) (vs := [_, _, _]) 3 rfl rfl rfl rfl rfl rfl (Nat.le_of_ble_eq_true rfl) rfl ?_
 refine wai rfl rfl ?_
 refine TL.nil (nt ?_)
 refine TC.seq ?_
 refine TC.region ?_
 refine wmp rfl rfl ?_
 refine e rfl ?_
 refine cl (trun_ok a T6 g6.p (g6.tb (by decide))) rfl PkL.p trivial ?_
 intro _ _
 change TL _ _ _ _ _ _ _ _ (sepL [_, _, _, _])
 rw [r7]
 refine wai rfl rfl ?_
 refine TL.nil (nt ?_)
 refine TC.seq ?_
 refine TC.region ?_
 refine wmp rfl rfl ?_
 refine e rfl ?_
 refine cl (ttold_ok a T6) rfl PkL.p trivial ?_
 intro y6 _
 change TL _ _ _ _ _ _ _ _ (sepL [_, _, _, _, _])
 rw [r8, show toldT T6 = T7 from rfl]
 refine was rfl rfl ?_
 refine TL.nil (nt ?_)
 refine TC.seq ?_
 refine TC.region ?_
 refine wmp rfl rfl ?_
 refine e rfl ?_
 refine cl (ttick_ok a T7 g7.p (g7.tb (by decide)) (g7.tl (by decide)) (g7.nw (by decide))) rfl PkL.p trivial ?_
 intro _ _
 change TL _ _ _ _ _ _ _ _ (sepL [_, _, _, _, _])
 rw [show tickT T7 = T8 from rfl, r9]
 refine wmp rfl rfl ?_
 refine e rfl ?_
 refine cl (ttick_ok a T8 g8.p (g8.tb (by decide)) (g8.tl (by decide)) (g8.nw (by decide))) rfl PkL.p trivial ?_
 intro _ _
 change TL _ _ _ _ _ _ _ _ (sepL [_, _, _, _, _])
 rw [show tickT T8 = T9 from rfl, r10]
 refine wai rfl rfl ?_
 refine wai rfl rfl ?_
 refine TL.nil (nt ?_)
 refine TC.seq ?_
 refine TC.region ?_
 refine wmp rfl rfl ?_
 refine e rfl ?_
 refine cl (ttold_ok a T9) rfl PkL.p trivial ?_
 intro y9 _
 change TL _ _ _ _ _ _ _ _ (sepL [_, _, _, _, _, _])
 rw [r11, show toldT T9 = T10 from rfl]
 refine was rfl rfl ?_
 refine TL.nil (nt ?_)
 refine TC.seq ?_
 refine TC.region ?_
 refine wmp rfl rfl ?_
 refine e rfl ?_
 refine cl (tsend_ok a T10 g10.p (g10.tb (by decide)) 2 1 9 true 0) rfl PkL.p trivial ?_
 intro _ _
 change TL _ _ _ _ _ _ _ _ (sepL [_, _, _, _, _, _])
 rw [r12]
 dsimp only
 refine wai rfl rfl ?_
 refine TL.nil (nt ?_)
 refine TC.seq ?_
 refine TC.region ?_
 refine wmp rfl rfl ?_
 refine e rfl ?_
 refine cl (ttake_ok a T11 g11.p (g11.tb (by decide)) 1 (g11.tl (by decide))) rfl PkL.p trivial ?_
 intro _ _
 change TL _ _ _ _ _ _ _ _ (sepL [_, _, _, _, _, _])
 rw [r13]
 dsimp only
 refine wmt rfl rfl ?_
 refine q rfl rfl (pu (v := .agg #[_, _, _]) (fun _ => rfl)) ?_
 refine q rfl rfl (pu (v := .int _ _) (fun _ => rfl)) ?_
 refine e rfl ?_
 refine al (l := [.int _ _, .int _ _, .bool _]) rfl rfl ?_
 intro b3
 refine e0 ?_
 refine st (v := .agg #[_, _, _]) (vs := [_, _, _]) 3 rfl rfl rfl rfl rfl rfl (Nat.le_of_ble_eq_true rfl) rfl ?_
 refine wai rfl rfl ?_
 refine TL.nil (nt ?_)
 refine TC.seq ?_
 refine TC.region ?_
 refine wmp rfl rfl ?_
 refine e rfl ?_
 refine cl (tanswer_ok a T12 g12.p (g12.tb (by decide)) 1) rfl PkL.p trivial ?_
 intro _ _
 change TL _ _ _ _ _ _ _ _ (sepL [_, _, _, _, _, _, _])
 rw [r14]
 dsimp only
 refine wmt rfl rfl ?_
 refine q rfl rfl (pu (v := .int _ _) (fun _ => rfl)) ?_
 refine q rfl rfl (pu (v := .int _ _) (fun _ => rfl)) ?_
 refine wai rfl rfl ?_
 refine wai rfl rfl ?_
 refine TL.nil (nt ?_)
 refine TC.seq ?_
 refine TC.region ?_
 refine wmp rfl rfl ?_
 refine e rfl ?_
 refine cl (tsend_ok a T13 g13.p (g13.tb (by decide)) 2 1 9 false 0) rfl PkL.p trivial ?_
 intro _ _
 change TL _ _ _ _ _ _ _ _ (sepL [_, _, _, _, _, _, _])
 rw [r15]
 dsimp only
 refine wai rfl rfl ?_
 refine TL.nil (nt ?_)
 refine TC.seq ?_
 refine TC.region ?_
 refine wmp rfl rfl ?_
 refine e rfl ?_
 refine cl (tremove_ok a T14 g14.p (g14.tb (by decide)) 1 (g14.tl (by decide))) rfl PkL.p trivial ?_
 intro _ _
 change TL _ _ _ _ _ _ _ _ (sepL [_, _, _, _, _, _, _])
 rw [r16]
 dsimp only
 refine wai rfl rfl ?_
 refine TL.nil (nt ?_)
 refine TC.seq ?_
 refine TC.region ?_
 refine wmp rfl rfl ?_
 refine e rfl ?_
 refine cl (ttold_ok a T15) rfl PkL.p trivial ?_
 intro y15 _
 change TL _ _ _ _ _ _ _ _ (sepL [_, _, _, _, _, _, _, _])
 rw [r17, show toldT T15 = T16 from rfl]
 refine was rfl rfl ?_
 refine TL.nil (nt ?_)
 refine TC.seq ?_
 refine TC.region ?_
 refine wmi rfl rfl ?_
 refine q rfl rfl (eqI rfl rfl) ?_
 refine wmb rfl rfl ?_
 refine TL.known 75 rfl (c := true) (by decide) ?_
 refine qg rfl rfl rfl (mv (v := .int _ _) rfl) ?_
 refine qg rfl rfl rfl (eqI rfl rfl) ?_
 refine q rfl rfl (pkT (v := .bool _) rfl rfl) ?_
 refine wmb rfl rfl ?_
 refine TL.known 79 rfl (c := true) (by decide) ?_
 refine qg rfl rfl rfl (mv (v := .int _ _) rfl) ?_
 refine qg rfl rfl rfl (eqI rfl rfl) ?_
 refine q rfl rfl (pkT (v := .bool _) rfl rfl) ?_
 refine wmb rfl rfl ?_
 refine TL.known 83 rfl (c := true) (by decide) ?_
 refine qg rfl rfl rfl (mv (v := .int _ _) rfl) ?_
 refine qg rfl rfl rfl (eqI rfl rfl) ?_
 refine q rfl rfl (pkT (v := .bool _) rfl rfl) ?_
 refine wmb rfl rfl ?_
 refine TL.known 87 rfl (c := true) (by decide) ?_
 refine qg rfl rfl rfl (mv (v := .int _ _) rfl) ?_
 refine qg rfl rfl rfl (eqI rfl rfl) ?_
 refine q rfl rfl (pkT (v := .bool _) rfl rfl) ?_
 refine wmb rfl rfl ?_
 refine TL.known 91 rfl (c := true) (by decide) ?_
 refine qg rfl rfl rfl (mv (v := .int _ _) rfl) ?_
 refine qg rfl rfl rfl (eqI rfl rfl) ?_
 refine q rfl rfl (pkT (v := .bool _) rfl rfl) ?_
 refine wmb rfl rfl ?_
 refine TL.known 95 rfl (c := true) (by decide) ?_
 refine qg rfl rfl rfl (mv (v := .int _ _) rfl) ?_
 refine qg rfl rfl rfl (eqI rfl rfl) ?_
 refine q rfl rfl (pkT (v := .bool _) rfl rfl) ?_
 refine wmb rfl rfl ?_
 refine TL.known 99 rfl (c := true) (by decide) ?_
 refine qg rfl rfl rfl (mv (v := .int _ _) rfl) ?_
 refine qg rfl rfl rfl (eqI rfl rfl) ?_
 refine q rfl rfl (pkT (v := .bool _) rfl rfl) ?_
 refine wmb rfl rfl ?_
 refine TL.known 103 rfl (c := true) (by decide) ?_
 refine qg rfl rfl rfl (ldN (vs := [_, _, _]) 3 rfl rfl rfl rfl) ?_
 refine qg rfl rfl rfl (bld (cs := [.int _ _, .int _ _, .bool _]) rfl) ?_
 refine qg rfl rfl rfl (eqO (by kernel_rfl) rfl rfl) ?_
 refine q rfl rfl (pkT (v := .bool _) rfl rfl) ?_
 refine wmb rfl rfl ?_
 refine TL.known 108 rfl (c := true) (by decide) ?_
 refine qg rfl rfl rfl (mv (v := .int _ _) rfl) ?_
 refine qg rfl rfl rfl (eqI rfl rfl) ?_
 refine q rfl rfl (pkT (v := .bool _) rfl rfl) ?_
 refine wmb rfl rfl ?_
 refine TL.known 112 rfl (c := true) (by decide) ?_
 refine qg rfl rfl rfl (mv (v := .slice _ _ _) rfl) ?_
 refine qg rfl rfl rfl (bld (cs := [.int _ _, .int _ _]) rfl) ?_
 refine eg rfl rfl ?_
 refine bs (cs := [.int _ _, .int _ _]) rfl ?_
 intro b4
 refine eg rfl rfl ?_
 refine cl (tsame_ok y6.1 _ [⟨1, 0⟩] (some ⟨b4, 0, none⟩) _ [⟨1, 0⟩] (by decide)) rfl (picked_nil _) ⟨⟨_, RdSI.rd (ad := y6.1)⟩, ⟨_, RdSI.rd (ad := some ⟨b4, 0, none⟩)⟩⟩ ?_
 intro _ _
 change TL _ _ _ _ _ _ _ _ (sepL [_, _, _, _, _, _, _, _, _])
 rw [decide_eq_true (rfl : ([⟨1, 0⟩] : List Tg) = [⟨1, 0⟩])]
 refine q rfl rfl (pkT (v := .bool _) rfl rfl) ?_
 refine wmb rfl rfl ?_
 refine TL.known 118 rfl (c := true) (by decide) ?_
 refine qg rfl rfl rfl (mv (v := .int _ _) rfl) ?_
 refine qg rfl rfl rfl (eqI rfl rfl) ?_
 refine q rfl rfl (pkT (v := .bool _) rfl rfl) ?_
 refine wmb rfl rfl ?_
 refine TL.known 122 rfl (c := true) (by decide) ?_
 refine qg rfl rfl rfl (mv (v := .int _ _) rfl) ?_
 refine qg rfl rfl rfl (eqI rfl rfl) ?_
 refine q rfl rfl (pkT (v := .bool _) rfl rfl) ?_
 refine wmb rfl rfl ?_
 refine TL.known 126 rfl (c := true) (by decide) ?_
 refine qg rfl rfl rfl (mv (v := .slice _ _ _) rfl) ?_
 refine qg rfl rfl rfl (bld (cs := [.int _ _, .int _ _]) rfl) ?_
 refine eg rfl rfl ?_
 refine bs (cs := [.int _ _, .int _ _]) rfl ?_
 intro b5
 refine eg rfl rfl ?_
 refine cl (tsame_ok y9.1 _ [⟨2, 14⟩] (some ⟨b5, 0, none⟩) _ [⟨2, 14⟩] (by decide)) rfl (picked_nil _) ⟨⟨_, RdSI.rd (ad := y9.1)⟩, ⟨_, RdSI.rd (ad := some ⟨b5, 0, none⟩)⟩⟩ ?_
 intro _ _
 change TL _ _ _ _ _ _ _ _ (sepL [_, _, _, _, _, _, _, _, _, _])
 rw [decide_eq_true (rfl : ([⟨2, 14⟩] : List Tg) = [⟨2, 14⟩])]
 refine q rfl rfl (pkT (v := .bool _) rfl rfl) ?_
 refine wmb rfl rfl ?_
 refine TL.known 132 rfl (c := true) (by decide) ?_
 refine qg rfl rfl rfl (mv (v := .int _ _) rfl) ?_
 refine qg rfl rfl rfl (eqI rfl rfl) ?_
 refine q rfl rfl (pkT (v := .bool _) rfl rfl) ?_
 refine wmb rfl rfl ?_
 refine TL.known 136 rfl (c := true) (by decide) ?_
 refine qg rfl rfl rfl (mv (v := .int _ _) rfl) ?_
 refine qg rfl rfl rfl (eqI rfl rfl) ?_
 refine q rfl rfl (pkT (v := .bool _) rfl rfl) ?_
 refine wmb rfl rfl ?_
 refine TL.known 140 rfl (c := true) (by decide) ?_
 refine qg rfl rfl rfl (mv (v := .int _ _) rfl) ?_
 refine qg rfl rfl rfl (eqI rfl rfl) ?_
 refine q rfl rfl (pkT (v := .bool _) rfl rfl) ?_
 refine wmb rfl rfl ?_
 refine TL.known 144 rfl (c := true) (by decide) ?_
 refine qg rfl rfl rfl (mv (v := .int _ _) rfl) ?_
 refine qg rfl rfl rfl (eqI rfl rfl) ?_
 refine q rfl rfl (pkT (v := .bool _) rfl rfl) ?_
 refine wmb rfl rfl ?_
 refine TL.known 148 rfl (c := true) (by decide) ?_
 refine qg rfl rfl rfl (mv (v := .int _ _) rfl) ?_
 refine qg rfl rfl rfl (eqI rfl rfl) ?_
 refine q rfl rfl (pkT (v := .bool _) rfl rfl) ?_
 refine wmb rfl rfl ?_
 refine TL.known 152 rfl (c := true) (by decide) ?_
 refine qg rfl rfl rfl (mv (v := .int _ _) rfl) ?_
 refine qg rfl rfl rfl (eqI rfl rfl) ?_
 refine q rfl rfl (pkT (v := .bool _) rfl rfl) ?_
 refine wmb rfl rfl ?_
 refine TL.known 156 rfl (c := true) (by decide) ?_
 refine qg rfl rfl rfl (mv (v := .slice _ _ _) rfl) ?_
 refine qg rfl rfl rfl (bld (cs := [.int _ _, .int _ _]) rfl) ?_
 refine qg rfl rfl rfl (bld (cs := [.int _ _, .int _ _]) rfl) ?_
 refine eg rfl rfl ?_
 refine bs (cs := [.int _ _, .int _ _, .int _ _, .int _ _]) rfl ?_
 intro b6
 refine eg rfl rfl ?_
 refine cl (tsame_ok y15.1 _ [⟨2, 0⟩, ⟨2, 13⟩] (some ⟨b6, 0, none⟩) _ [⟨2, 0⟩, ⟨2, 13⟩] (by decide)) rfl (picked_nil _) ⟨⟨_, RdSI.rd (ad := y15.1)⟩, ⟨_, RdSI.rd (ad := some ⟨b6, 0, none⟩)⟩⟩ ?_
 intro _ _
 change TL _ _ _ _ _ _ _ _ (sepL [_, _, _, _, _, _, _, _, _, _, _])
 rw [decide_eq_true (rfl : ([⟨2, 0⟩, ⟨2, 13⟩] : List Tg) = [⟨2, 0⟩, ⟨2, 13⟩])]
 refine q rfl rfl (pkT (v := .bool _) rfl rfl) ?_
 refine wmb rfl rfl ?_
 refine TL.known 163 rfl (c := true) (by decide) ?_
 refine qg rfl rfl rfl (mv (v := .pointer _) rfl) ?_
 refine eg rfl rfl ?_
 refine cl (tstate_ok a T16 1) rfl PkL.p trivial ?_
 intro _ _
 change TL _ _ _ _ _ _ _ _ (sepL [_, _, _, _, _, _, _, _, _, _, _])
 rw [s1]
 refine qg rfl rfl rfl (eqI rfl rfl) ?_
 refine q rfl rfl (pkT (v := .bool _) rfl rfl) ?_
 refine wmb rfl rfl ?_
 refine TL.known 168 rfl (c := true) (by decide) ?_
 refine qg rfl rfl rfl (mv (v := .pointer _) rfl) ?_
 refine eg rfl rfl ?_
 refine cl (tstate_ok a T16 2) rfl PkL.p trivial ?_
 intro _ _
 change TL _ _ _ _ _ _ _ _ (sepL [_, _, _, _, _, _, _, _, _, _, _])
 rw [s2]
 refine qg rfl rfl rfl (eqI rfl rfl) ?_
 refine q rfl rfl (pkT (v := .bool _) rfl rfl) ?_
 refine wmb rfl rfl ?_
 refine TL.known 173 rfl (c := true) (by decide) ?_
 refine qg rfl rfl rfl (mv (v := .pointer _) rfl) ?_
 refine eg rfl rfl ?_
 refine cl (tstop_ok a T16 g16.p (g16.tb (by decide)) 2) rfl PkL.p trivial ?_
 intro _ _
 change TL _ _ _ _ _ _ _ _ (sepL [_, _, _, _, _, _, _, _, _, _, _])
 rw [r18]
 dsimp only
 refine qg rfl rfl rfl (eqI rfl rfl) ?_
 refine q rfl rfl (pkT (v := .bool _) rfl rfl) ?_
 refine wmb rfl rfl ?_
 refine TL.known 178 rfl (c := true) (by decide) ?_
 refine qg rfl rfl rfl (mv (v := .pointer _) rfl) ?_
 refine eg rfl rfl ?_
 refine cl (tstate_ok a T17 2) rfl PkL.p trivial ?_
 intro _ _
 change TL _ _ _ _ _ _ _ _ (sepL [_, _, _, _, _, _, _, _, _, _, _])
 rw [s3]
 refine qg rfl rfl rfl (eqI rfl rfl) ?_
 refine q rfl rfl (pkT (v := .bool _) rfl rfl) ?_
 refine wab rfl rfl ?_
 refine TL.nil (nt ?_)
 refine TC.ret ?_
 exact Ret.i () [_] ⟨rfl, trivial⟩ rfl trivial (ent_take 10 rfl (ent_nil _))
end Go.Proofs.YtdfmfhcjnjfjbaaGreat
namespace Go.Proofs.YtdfmfhcjnjfjbaaGreat
open Go Go.QM
structure LC where
  n : Nat
  x0 : Value
  x1 : Value
  x2 : Value
  x3 : Value
  x4 : Value
  x5 : Value
  x6 : Value
  x7 : Value
end Go.Proofs.YtdfmfhcjnjfjbaaGreat
