/- Proved here: contracts of functions of this program, under the premises that each theorem names. -/
import Derived.Shelf.Sort.Plain
import Derived.Shelf.Slices.In.SortNone
import Derived.Test.YtnlgmaibhlicjaaGreatDoorYo
set_option maxRecDepth 4000
namespace Go.QM
open Go Go.Sort Go.Shelf Go.Proofs
def sortI (xs : List Int) : List Int := xs.mergeSort fun x y => decide (x ≤ y)
theorem sortI_perm (xs : List Int) : (sortI xs).Perm xs := List.mergeSort_perm _ _
theorem sortI_len (xs : List Int) : (sortI xs).length = xs.length := (sortI_perm xs).length_eq
theorem sortI_sorted (xs : List Int) : (sortI xs).Pairwise fun x y => x ≤ y := by
  have := List.pairwise_mergeSort (le := fun x y : Int => decide (x ≤ y)) (fun a b c h1 h2 => by simp at h1 h2 ⊢; omega) (fun a b => by simp; omega) xs
  exact this.imp fun h => by simpa using h
theorem sat_grow {w : World} {A : HP} (h : sat w A) (os : Array Obj) : sat (grow w os) A := by
  obtain ⟨x, hx, ha⟩ := h
  refine ⟨x, fun i o hi => ?_, ha⟩
  have := hx i o hi
  have hlt : i < w.heap.size := (Array.getElem?_eq_some_iff.1 this).1
  show (w.heap ++ os)[i]? = some o
  rw [Array.getElem?_append_left hlt]; exact this
theorem put_ints (pre suf : List Value) (xs ys : List Int) (h : ys.length = xs.length) : putCells (Value.int .i64) pre.length ys.toArray (pre ++ ints xs ++ suf).toArray = (pre ++ ints ys ++ suf).toArray := by
  have hx := ints_length xs
  have hy := ints_length ys
  apply Array.ext
  · simp [putCells, hx, hy, h]
  · intro i h1 h2
    simp only [putCells, Array.getElem_mapIdx, List.getElem_toArray, List.size_toArray]
    split
    · rename_i hc
      have h3 : (pre ++ ints ys ++ suf)[i]? = some (.int .i64 ys[i - pre.length]) := by
        rw [List.append_assoc, List.getElem?_append_right hc.1, List.getElem?_append_left (by omega), ints, List.getElem?_map, List.getElem?_eq_getElem (by omega)]; rfl
      have h4 := List.getElem?_eq_some_iff.1 h3
      obtain ⟨h5, h6⟩ := h4
      rw [h6]
      rw [getElem!_pos ys.toArray (i - pre.length) (by simp; omega), List.getElem_toArray]
    · rename_i hc
      have e1 : (pre ++ ints xs ++ suf)[i]? = (pre ++ ints ys ++ suf)[i]? := by
        rw [List.append_assoc, List.append_assoc]
        by_cases hp : i < pre.length
        · rw [List.getElem?_append_left hp, List.getElem?_append_left hp]
        · rw [List.getElem?_append_right (by omega), List.getElem?_append_right (by omega), List.getElem?_append_right (by omega), List.getElem?_append_right (by omega), hx, hy, h]
      have h1' : i < (pre ++ ints xs ++ suf).length := by simpa [putCells] using h1
      have h2' : i < (pre ++ ints ys ++ suf).length := by simpa using h2
      rw [List.getElem?_eq_getElem h1', List.getElem?_eq_getElem h2'] at e1
      exact Option.some.inj e1
theorem sort_ok {P : Program} {ρ : Ren} (Ly : Lays.n189 P ρ) (he : enterT P (ρ.f 189) = true) (E : Nat) (ad : Option Addr) (cap : Nat) (xs : List Int) (hl : xs.length ≤ 1000000) :
    FSpec P (ρ.f 189) [.slice ad xs.length cap] noRd [slc E 1 ad xs.length cap (ints xs)] (fun _ : Unit => .tuple #[]) (fun _ => True) (fun _ => [slc E 1 ad xs.length cap (ints (sortI xs))]) := by
  refine ⟨he, fun F _ w hs => ?_⟩
  by_cases hx : xs = []
  · subst hx
    refine (callsIn_wide.2 (Any.slices_Sort_int_none Ly ad cap w)).mono ?_
    rintro e w' ⟨rfl, rfl⟩
    exact ⟨(), rfl, trivial, Same.refl w', by have h0 : sortI [] = [] := List.eq_nil_of_length_eq_zero (sortI_len []); dsimp only; rw [h0]; exact hs⟩
  · cases ad with
    | none =>
      exfalso
      obtain ⟨h, _, a, b, _, rfl, ha, _⟩ := hs
      obtain ⟨c, d, _, rfl, hc, _⟩ := ha
      have := hc.1.1
      exact hx (List.eq_nil_of_length_eq_zero this)
    | some p =>
      obtain ⟨hh, hx2, hp1, hq1, d1, rfl, h1, h2⟩ := hs
      obtain ⟨hp2, hq2, d2, rfl, h3, h4⟩ := h1
      obtain ⟨⟨pre, suf⟩, ⟨g1, g2, g3, g4, g5⟩, h5⟩ := h3
      have hs0 : sat w (sep (sep (pts p.block E (pre ++ ints xs ++ suf)) emp) F) := ⟨_, hx2, _, hq1, d1, rfl, ⟨hp2, hq2, d2, rfl, h5, h4⟩, h2⟩
      have hs1 : sat w (sep (obj p.block (.cells (pre ++ ints xs ++ suf).toArray E (0, 0))) (sep emp F)) := hs0.weak sep_assoc
      have hb : w.heap[p.block]? = some (.cells (pre ++ ints xs ++ suf).toArray E (0, 0)) := (Rd_l (Rd_obj _ _)).sat hs1
      have hlt : p.block < w.heap.size := (Array.getElem?_eq_some_iff.1 hb).1
      have hil := ints_length xs
      have hH : Holds (Value.int .i64) w p.block pre.length xs.toArray := fun j hj => by
        have hj' : j < xs.length := by simpa using hj
        refine ⟨?_, by simp [World.frozen?, hb]⟩
        have h6 : (pre ++ ints xs ++ suf)[pre.length + j]? = some (.int .i64 xs[j]) := by
          rw [List.append_assoc, List.getElem?_append_right (by omega), Nat.add_sub_cancel_left, List.getElem?_append_left (by omega), ints, List.getElem?_map, List.getElem?_eq_getElem hj']; rfl
        rw [getElem!_pos xs.toArray j hj, List.getElem_toArray]
        simp [World.cell?, hb]
        simpa using h6
      have g1' : (some p : Option Addr) = some ⟨p.block, pre.length, none⟩ := congrArg some g1
      rw [g1']
      refine (callsIn_wide.2 (Any.slices_Sort_int Ly p.block pre.length cap xs w hH hlt (by omega))).mono ?_
      rintro e w' ⟨rfl, n, os, rfl⟩
      refine ⟨(), rfl, trivial, ⟨rfl, rfl, rfl, ?_⟩, sat_grow ?_ os⟩
      · simp [grow]
      · have hn : (putRow (Value.int .i64) (Go.Sort.ahead w n) p.block pre.length (sortI xs).toArray).heap[p.block]? = some (.cells (pre ++ ints (sortI xs) ++ suf).toArray E (0, 0)) := by
          show (w.heap.modify p.block (onCells _))[p.block]? = _
          rw [Array.getElem?_modify, if_pos rfl, hb]
          simp only [Option.map_some, onCells]
          rw [put_ints pre suf xs (sortI xs) (sortI_len xs)]
        have hs2 := sat_set hs1 hn (fun i hi => by
          show (w.heap.modify p.block (onCells _))[i]? = _
          rw [Array.getElem?_modify, if_neg (Ne.symm hi)])
        have hs3 : sat _ (sep (sep (pts p.block E (pre ++ ints (sortI xs) ++ suf)) emp) F) := hs2.weak sep_assoc'
        refine hs3.weak (sep_mono (sep_mono ?_ (ent.refl _)) (ent.refl _))
        exact ent_of_imp fun h ho => ⟨(pre, suf), ⟨rfl, by rw [ints_length, sortI_len]; omega, g3, g4, by rw [ints_length, sortI_len]; omega⟩, ho⟩
end Go.QM
namespace Go.Proofs.YtnlgmaibhlicjaaGreatDoor.Qt
open Go Go.QM
theorem qnew_ent (b mb nb : Nat) (lim : Int) (h : 0 ≤ lim ∧ lim ≤ 1073741824) (F : HP) : ent (sepL [pts b 161 [.map (some mb), .int .i64 1], mapF QM.encI mb (updF (fun _ => none) 0 (.pointer (some ⟨nb, 0, none⟩))) 1, pts nb 100 [.int .i64 lim, .int .i64 0, .int .i64 0, .int .i64 (-1), .int .i64 0], F]) (sepL [isQ b [⟨0, -1, lim, 0⟩] 1, F]) := by
 have hf : fQ (updI (fun _ => 0) 0 nb) [⟨0, -1, lim, 0⟩] = updF (fun _ => none) 0 (.pointer (some ⟨nb, 0, none⟩)) := by
  have := fQ_add (fun _ => 0) [] ⟨0, -1, lim, 0⟩ nb
  rw [List.nil_append] at this
  rw [this]
  congr 1
 have hp : tQ (updI (fun _ => 0) 0 nb) [⟨0, -1, lim, 0⟩] ⟨0, -1, lim, 0⟩ = pts nb 100 [.int .i64 lim, .int .i64 0, .int .i64 0, .int .i64 (-1), .int .i64 0] := by
  dsimp only [tQ]
  rw [updI_same, givQ_one, kidQ_one, if_neg (by dsimp only; omega), if_neg (by dsimp only; omega)]
 refine (bigS_nil (f := tQ (updI (fun _ => 0) 0 nb) [⟨0, -1, lim, 0⟩]) _).trans ?_
 refine ent_close (⟨updI (fun _ => 0) 0 nb, mb⟩ : QRep) (WQ.start h) ?_
 exact ent_take 1 rfl (ent_takeE 1 rfl (by dsimp only; rw [hf]; rfl) (ent_closeB 1 0 ⟨0, -1, lim, 0⟩ rfl rfl hp.symm (fun _ _ => rfl) (List.Perm.refl _) (ent_take 0 rfl (ent_nil _))))
theorem qnew_ok (lim : Int) (h : 0 ≤ lim ∧ lim ≤ 1073741824) : FSpec Tryz.prog 68 [.int .i64 lim] noRd [] (fun b : Nat => .pointer (some ⟨b, 0, none⟩)) (fun _ => True) (fun b => [isQ b [⟨0, -1, lim, 0⟩] 1]) := by
 refine fI Tryz.func68 Tryz.ntmps68 ?_
 intro F _
 refine zz [37,0,1,24,2,0,0,1,3,38,20] ?_
 refine TL.known 5 rfl (c := false) (decide_eq_false (by omega)) ?_
 refine zz [32,84,19,2] ?_
 refine TC.condD rfl (fun hc1 => absurd hc1 (by omega)) (fun hc1 => ?_)
 refine zz [7,0,1,5] ?_
 refine mkF QM.encI ?_
 intro b1
 refine zz [3,89,246,5] ?_
 refine bx (v := .agg #[_, _, _, _, _]) (l := [.int _ _, .int _ _, .int _ _, .int _ _, .int _ _]) rfl rfl ?_
 intro b2
 refine e0 ?_
 refine insF 3 94 rfl (KL.int rfl) rfl rfl rfl ?_
 refine q rfl rfl (mv (v := .map _) rfl) ?_
 first | refine q rfl rfl (bld (cs := [.map _, .int _ _]) rfl) ?_ | refine q rfl rfl (bld (cs := [_, _]) rfl) ?_
 refine e rfl ?_
 refine bx (v := .agg #[_, _]) (l := [.map _, .int _ _]) rfl rfl ?_
 intro b3
 refine zz [24,2,11] ?_
 exact Ret.i b3 [_] ⟨rfl, trivial⟩ rfl trivial (qnew_ent b3 b1 b2 lim h F)
set_option maxHeartbeats 1000000 in
theorem qcarve_ok (b : Nat) (L : List Qn) (nxt : Int) (pr lim : Int) (hnx : nxt ≤ 1000000) : FSpec Tryz.prog 84 [.pointer (some ⟨b, 0, none⟩), .int .i64 pr, .int .i64 lim] noRd [isQ b L nxt] (fun _ : Unit => .tuple #[.int .i64 (carveQ L nxt pr lim).2.2.1, .int .i64 (carveQ L nxt pr lim).2.2.2]) (fun _ => True) (fun _ => [isQ b (carveQ L nxt pr lim).1 (carveQ L nxt pr lim).2.1]) := by
 refine fI Tryz.func84 Tryz.ntmps84 ?_
 intro F _
 refine zz [39] ?_
 refine TC.open 0 rfl (fun x0 hx0 => ?_)
 obtain ⟨A, mb⟩ := x0
 have hW := hx0
 refine zz [77] ?_
 dsimp only at hW ⊢
 by_cases h : hasQ L pr
 ·obtain ⟨t, ht, rfl⟩ := h
  have h : hasQ L t.id := ⟨t, ht, rfl⟩
  obtain ⟨e1, e2, e3, e4⟩ := use_yes hW.nd ht
  have hb := hW.big ht
  have hrt := hW.rg t ht
  obtain ⟨M, hM⟩ := perm_mem ht
  haveI := tQ_rd (A := A) ht
  refine zz [0,1,4,4,2,0,1,6,3,5] ?_
  refine cl (qat_yes b mb L.length nxt A L t.id h) rfl PkL.p trivial ?_
  intro _ _
  refine zz [46,26,79,15,24,4,2,0,17,0,1,3,23,9,2,10,0,1,3,38,9,2] ?_
  first | refine TC.condD rfl (fun h0 => ?_) (fun h0 => ?_) | refine TC.cond rfl (fun h0 => ?_) (fun h0 => ?_)
  ·have hv : carveQ L nxt t.id lim = (L, nxt, 0, 1) := by rw [carveQ, if_neg (fun h2 => h2 h), if_pos h0]
   rw [hv]
   dsimp only
   refine zz [0,1,4,4,2,56] ?_
   exact Ret.i () [_, _] ⟨rfl, rfl, trivial⟩ rfl trivial (ent_close (⟨A, mb⟩ : QRep) hW entS)
  ·refine zz [0,1,6,13,14,3,5] ?_
   refine cl (qfits_ok (A t.id) t.lim t.chg (givQ L t.id) t.par (kidQ L t.id) (by omega) (by omega) lim (by omega)) rfl (picked_nil _) RdI.rd ?_
   intro _ _
   refine zz [46,64,9,2] ?_
   first | refine TC.condD rfl (fun h1 => ?_) (fun h1 => ?_) | refine TC.cond rfl (fun h1 => ?_) (fun h1 => ?_)
   ·have hv : carveQ L nxt t.id lim = (L, nxt, 0, 5) := by rw [carveQ, if_neg (fun h2 => h2 h), if_neg h0, if_pos (by rw [e1, e2]; exact h1)]
    rw [hv]
    dsimp only
    refine zz [0,1,4,4,2,56] ?_
    exact Ret.i () [_, _] ⟨rfl, rfl, trivial⟩ rfl trivial (ent_close (⟨A, mb⟩ : QRep) hW entS)
   ·have h2 : lim ≤ t.lim - (t.chg + givQ L t.id) := Decidable.not_not.1 h1
    have h1 : ¬ ¬ lim ≤ limQ L t.id - useQ L t.id := by rw [e1, e2]; exact fun h3 => h3 h2
    refine zz [0,1,6,13,14,12] ?_
    refine q rfl rfl (lnF 3 94 rfl rfl) ?_
    refine zz [30,9,2] ?_
    first | refine TC.condD rfl (fun h3 => ?_) (fun h3 => ?_) | refine TC.cond rfl (fun h3 => ?_) (fun h3 => ?_)
    ·have hv : carveQ L nxt t.id lim = (L, nxt, 0, 11) := by rw [carveQ, if_neg (fun h2 => h2 h), if_neg h0, if_neg h1, if_pos (by omega)]
     rw [hv]
     dsimp only
     refine zz [0,1,4,4,2,56] ?_
     exact Ret.i () [_, _] ⟨rfl, rfl, trivial⟩ rfl trivial (ent_close (⟨A, mb⟩ : QRep) hW entS)
    ·have h4 : L.length ≠ 32 := by omega
     have hv : carveQ L nxt t.id lim = (L ++ [(⟨nxt, t.id, lim, 0⟩ : Qn)], nxt + 1, nxt, 0) := by rw [carveQ, if_neg (fun h2 => h2 h), if_neg h0, if_neg h1, if_neg h4]
     rw [hv]
     dsimp only
     have hW2 : WQ (L ++ [(⟨nxt, t.id, lim, 0⟩ : Qn)]) (nxt + 1) := hW.add h (by omega) (Decidable.not_not.1 h1) h4
     have hno : ¬ hasQ L nxt := fun ⟨u, hu, e⟩ => by have := hW.rg u hu; omega
     have hfn := fQ_no (A := A) hno
     have hlf : (L ++ [(⟨nxt, t.id, lim, 0⟩ : Qn)]).length = L.length + 1 := by rw [List.length_append, List.length_singleton]
     have hg : ∀ x, givQ (L ++ [(⟨nxt, t.id, lim, 0⟩ : Qn)]) x = givQ L x + (if t.id = x then lim else 0) := fun x => by rw [givQ_app, givQ_one]
     have hk : ∀ x, kidQ (L ++ [(⟨nxt, t.id, lim, 0⟩ : Qn)]) x = kidQ L x + (if t.id = x then 1 else 0) := fun x => by rw [kidQ_app, kidQ_one]
     have hz := giv_zero (L := L) (x := nxt) (fun u hu => by have := hW.par_lt hu; omega)
     have hne : t.id ≠ nxt := by omega
     refine TC.weak (ent_openB 2 rfl hM) ?_
     refine zz [42,0,1,6,13,47,12,4,2,0,1,6,13,47,12,36,13,47,21,105,2,0,1,6,13,14,12,3,3,89,3,246,5] ?_
     refine bx (v := .agg #[_, _, _, _, _]) (l := [.int _ _, .int _ _, .int _ _, .int _ _, .int _ _]) rfl rfl ?_
     intro b4
     refine e0 ?_
     refine muF 3 94 rfl (KL.int rfl) rfl rfl rfl ?_
     refine zz [2,0,1,6,13,14,62,12,3,36,13,14,62,21,105,2,0,1,6,13,125,12,36,13,125,21,105,2,0,1,3,4,4,2,11] ?_
     have hP2 : (t :: (⟨nxt, t.id, lim, 0⟩ : Qn) :: M).Perm (L ++ [(⟨nxt, t.id, lim, 0⟩ : Qn)]) := (List.Perm.swap _ _ _).trans ((hM.symm.cons _).trans (List.perm_append_singleton _ _).symm)
     have hcN : ∀ u ∈ M, tQ A L u = tQ (updI A nxt b4) (L ++ [(⟨nxt, t.id, lim, 0⟩ : Qn)]) u := fun u hu => by
      have h5 := hW.rg u (hM.mem_iff.2 (by simp [hu]))
      have h6 : t.id ≠ u.id := fun e => (List.nodup_cons.1 (hW.nd.perm hM.symm)).1 (List.mem_map.2 ⟨u, hu, e.symm⟩)
      dsimp only [tQ]
      rw [updI_ne (by omega), hg, hk, if_neg h6, if_neg h6, Int.add_zero, Int.add_zero]
     exact Ret.i () [_, _] ⟨rfl, rfl, trivial⟩ rfl trivial (ent_close (⟨updI A nxt b4, mb⟩ : QRep) hW2 (ent_take 3 rfl (ent_takeE 1 rfl (by dsimp only; rw [fQ_add (t := (⟨nxt, t.id, lim, 0⟩ : Qn)), hfn, hlf]; rfl) (ent_closeB2 0 0 0 t (⟨nxt, t.id, lim, 0⟩ : Qn) rfl rfl rfl (by dsimp only [tQ]; rw [updI_ne hne, hg, hk, if_pos rfl, if_pos rfl]; rfl) (by dsimp only [tQ]; rw [updI_same, hg, hk, if_neg hne, if_neg hne, hz.1, hz.2]; rfl) hcN hP2 (ent_take 0 rfl (ent_nil _))))))
 ·have hv : carveQ L nxt pr lim = (L, nxt, 0, 6) := if_pos h
  rw [hv]
  dsimp only
  refine zz [0,1,4,4,2,0,1,6,3,5] ?_
  refine cl (qat_no b mb L.length nxt A L pr h) rfl PkL.p trivial ?_
  intro _ _
  refine zz [46,26,79,15,24,4,2,0,17,0,1,3,23,9,2,40,0,1,3,4,4,2,56] ?_
  exact Ret.i () [_, _] ⟨rfl, rfl, trivial⟩ rfl trivial (ent_close ⟨A, mb⟩ hW (ent_take 0 rfl (ent_take 0 rfl (ent_take 0 rfl (ent_take 0 rfl (ent_nil _))))))
end Go.Proofs.YtnlgmaibhlicjaaGreatDoor.Qt
namespace Go.Proofs.YtnlgmaibhlicjaaGreatDoor
open Go Go.QM
def clsz (c : Nat) : Nat := [0, 64, 128, 256, 32, 32, 48, 256].getD c 0
def cls : List Nat := List.range' 1 7
theorem cls_mem {c : Nat} : c ∈ cls ↔ 1 ≤ c ∧ c ≤ 7 := by rw [cls, List.mem_range'_1]; omega
theorem cls_lt {c : Nat} (h : c ∈ cls) : c < 8 := by have := cls_mem.1 h; omega
theorem cls_cases {c : Nat} (h : c ∈ cls) : c = 1 ∨ c = 2 ∨ c = 3 ∨ c = 4 ∨ c = 5 ∨ c = 6 ∨ c = 7 := by rw [cls_mem] at h; omega
theorem clsz_ok {c : Nat} (h : c ∈ cls) : ((16 ≤ clsz c ∧ clsz c ≤ 512) ∧ clsz c % 16 = 0) ∧ clsz c ≠ 0 := by
 rcases cls_cases h with rfl | rfl | rfl | rfl | rfl | rfl | rfl <;> decide
theorem clsz_many {c : Nat} (h : c ∈ cls) : 3 ≤ 960 / clsz c := by
 rcases cls_cases h with rfl | rfl | rfl | rfl | rfl | rfl | rfl <;> decide
theorem cost_get {c : Nat} (h : c < 8) : costsC[0 + ((c : Nat) : Int).toNat * 1]? = some (.int .i64 (clsz c : Int)) := by
 have : c = 0 ∨ c = 1 ∨ c = 2 ∨ c = 3 ∨ c = 4 ∨ c = 5 ∨ c = 6 ∨ c = 7 := by omega
 rcases this with rfl | rfl | rfl | rfl | rfl | rfl | rfl | rfl <;> rfl
theorem cost_get2 {c : Nat} (h : c < 8) : costsC[((c : Nat) : Int).toNat * 1]? = some (.int .i64 (clsz c : Int)) := by
 have := cost_get h; rwa [Nat.zero_add] at this
structure PS where
  Q : List Qt.Qn
  nx : Int
  C : Nat → List Pg
  Fr : List Nat
  m : Nat → Nat
def updN {α : Type} (f : Nat → α) (c : Nat) (v : α) : Nat → α := fun x => if x = c then v else f x
theorem updN_same {α : Type} (f : Nat → α) (c : Nat) (v : α) : updN f c v c = v := if_pos rfl
theorem updN_ne {α : Type} (f : Nat → α) {c x : Nat} (v : α) (h : x ≠ c) : updN f c v x = f x := if_neg h
def cpg (C : Nat → List Pg) (c : Nat) : List Nat := (C c).map (·.pn)
def pgs (C : Nat → List Pg) (Fr : List Nat) : List Nat := cls.flatMap (cpg C) ++ Fr
theorem flat_perm {C : Nat → List Pg} {c : Nat} {L' : List Pg} {add : List Nat} (h : (L'.map (·.pn)).Perm (add ++ cpg C c)) : ∀ {l : List Nat}, l.Nodup → c ∈ l → (l.flatMap (cpg (updN C c L'))).Perm (add ++ l.flatMap (cpg C))
 | [], _, hc => by cases hc
 | x :: l, hn, hc => by
  obtain ⟨h1, h2⟩ := List.nodup_cons.1 hn
  rw [List.flatMap_cons, List.flatMap_cons]
  by_cases e : x = c
  ·subst e
   have hl : l.flatMap (cpg (updN C x L')) = l.flatMap (cpg C) := by
    have : ∀ y ∈ l, cpg (updN C x L') y = cpg C y := fun y hy => by rw [cpg, cpg, updN_ne _ _ (fun e : y = x => h1 (e ▸ hy))]
    rw [List.flatMap_def, List.flatMap_def, List.map_congr_left this]
   rw [hl, cpg, updN_same, ← List.append_assoc]
   exact h.append_right _
  ·have hm : c ∈ l := by
    rcases List.mem_cons.1 hc with hc | hc
    ·exact absurd hc.symm e
    ·exact hc
   rw [show cpg (updN C c L') x = cpg C x by rw [cpg, cpg, updN_ne _ _ e]]
   refine (List.Perm.append_left _ (flat_perm h h2 hm)).trans ?_
   rw [← List.append_assoc, ← List.append_assoc]
   exact List.Perm.append_right _ List.perm_append_comm
theorem cls_nodup : cls.Nodup := by decide
theorem pgs_add {C : Nat → List Pg} {Fr : List Nat} {c pn : Nat} {L' : List Pg} (hc : c ∈ cls) (h : (L'.map (·.pn)).Perm (pn :: cpg C c)) : (pgs (updN C c L') Fr).Perm (pn :: pgs C Fr) := by
 have := flat_perm (add := [pn]) h cls_nodup hc
 exact this.append_right Fr
theorem pgs_same {C : Nat → List Pg} {Fr : List Nat} {c : Nat} {L' : List Pg} (hc : c ∈ cls) (h : L'.map (·.pn) = cpg C c) : (pgs (updN C c L') Fr).Perm (pgs C Fr) := by
 have := flat_perm (C := C) (add := []) (L' := L') (by rw [h]; exact List.Perm.refl _) cls_nodup hc
 exact this.append_right Fr
theorem pgs_mem {C : Nat → List Pg} {Fr : List Nat} {p : Nat} : p ∈ pgs C Fr ↔ (∃ c ∈ cls, ∃ q ∈ C c, q.pn = p) ∨ p ∈ Fr := by
 rw [pgs, List.mem_append, List.mem_flatMap]
 simp only [cpg, List.mem_map]
structure PInv (top : Nat) (S : PS) : Prop where
  tp : 6 ≤ top ∧ top ≤ 7
  ok : ∀ c ∈ cls, COK (clsz c) (S.C c)
  one : ∀ c ∈ cls, ∃ q, OneAt (960 / clsz c) (S.C c) q
  nd : (pgs S.C S.Fr).Nodup
  lt : ∀ p ∈ pgs S.C S.Fr, p < 2 ^ top
def plC (j t bd ar : Nat) (ca : Nat → Nat) : List Value := [.pointer (some ⟨t, 0, none⟩), .pointer (some ⟨bd, 0, none⟩), .pointer (some ⟨ar, 0, none⟩)] ++ (List.range 8).map (fun c => if 1 ≤ c ∧ c < j then .pointer (some ⟨(ca c), 0, none⟩) else .pointer none)
theorem plC_len (j t bd ar : Nat) (ca : Nat → Nat) : (plC j t bd ar ca).length = 11 := by simp [plC]
theorem pl_get {t bd ar c : Nat} (ca : Nat → Nat) (h : c ∈ cls) : (plC 8 t bd ar ca)[0 + 3 + ((c : Nat) : Int).toNat * 1]? = some (.pointer (some ⟨(ca c), 0, none⟩)) := by
 rcases cls_cases h with rfl | rfl | rfl | rfl | rfl | rfl | rfl <;> rfl
theorem plC_at {j t bd ar i : Nat} (ca : Nat → Nat) (h : i < 8) : (plC j t bd ar ca)[3 + i]? = some (if 1 ≤ i ∧ i < j then .pointer (some ⟨(ca i), 0, none⟩) else .pointer none) := by
 rw [plC, List.getElem?_append_right (by simp)]
 show (List.map _ (List.range 8))[3 + i - 3]? = _
 rw [Nat.add_sub_cancel_left, List.getElem?_map, List.getElem?_range h, Option.map_some]
theorem plC_set {j t bd ar x : Nat} (ca : Nat → Nat) (h : j < 8) (h1 : 1 ≤ j) : splice (0 + 3 + ((j : Nat) : Int).toNat * 1) [.pointer (some ⟨x, 0, none⟩)] (plC j t bd ar ca) = plC (j + 1) t bd ar (updN ca j x) := by
 have e : splice (0 + 3 + ((j : Nat) : Int).toNat * 1) [.pointer (some ⟨x, 0, none⟩)] (plC j t bd ar ca) = (plC j t bd ar ca).set (3 + j) (.pointer (some ⟨x, 0, none⟩)) := by
  rw [List.set_eq_take_append_cons_drop, if_pos (by rw [plC_len]; omega), Int.toNat_natCast, Nat.mul_one, Nat.zero_add]
  simp [splice]
 rw [e]
 apply List.ext_getElem?
 intro i
 rw [List.getElem?_set, plC_len]
 by_cases h3 : i < 3
 ·rw [if_neg (by omega), plC, plC, List.getElem?_append_left (by simpa using h3), List.getElem?_append_left (by simpa using h3)]
 ·obtain ⟨i, rfl⟩ : ∃ k, i = 3 + k := ⟨i - 3, by omega⟩
  by_cases hi : i < 8
  ·rw [plC_at _ hi, plC_at _ hi]
   by_cases e2 : i = j
   ·subst e2; rw [if_pos rfl, if_pos (by omega), if_pos (by omega), updN_same]
   ·rw [if_neg (by omega), updN_ne _ _ e2]
    by_cases e3 : 1 ≤ i ∧ i < j
    ·rw [if_pos e3, if_pos (by omega)]
    ·rw [if_neg e3, if_neg (by omega)]
  ·rw [if_neg (by omega), List.getElem?_eq_none (by rw [plC_len]; omega), List.getElem?_eq_none (by rw [plC_len]; omega)]
structure PlRep where
  t : Nat
  bd : Nat
  ar : Nat
  ca : Nat → Nat
def isPl (b top : Nat) (S : PS) : HP := EX fun y : PlRep => pure' (PInv top S) (sepL [pts b 93 (plC 8 y.t y.bd y.ar y.ca), Qt.isQ y.t S.Q S.nx, isBd y.bd top (pgs S.C S.Fr), isAr y.ar S.m (1024 * 2 ^ top), bigS (fun c => isCa (y.ca c) y.bd (clsz c) (S.C c)) cls])
theorem cls_open {c : Nat} (h : c ∈ cls) : ∃ L, cls.Perm (c :: L) ∧ ∀ x ∈ L, x ≠ c := by
 obtain ⟨L, hL⟩ := perm_mem h
 exact ⟨L, hL, fun x hx e => (List.nodup_cons.1 (hL.nodup_iff.1 cls_nodup)).1 (e ▸ hx)⟩
def S0 (lim : Int) : PS := ⟨[⟨0, -1, lim, 0⟩], 1, fun _ => [], [], fun _ => 0⟩
theorem pgs_nil (C : Nat → List Pg) (h : ∀ c, C c = []) : pgs C [] = [] := by
 have : cpg C = fun _ => [] := funext fun c => by rw [cpg, h]; rfl
 rw [pgs, this]; rfl
theorem PInv.zero {top : Nat} (lim : Int) (h : 6 ≤ top ∧ top ≤ 7) : PInv top (S0 lim) :=
 ⟨h, fun c hc => ⟨(clsz_ok hc).1.1, ⟨List.Pairwise.nil, fun _ h => (by cases h)⟩, fun _ h => (by cases h)⟩, fun _ _ => ⟨0, fun _ h => (by cases h)⟩, by rw [S0, pgs_nil _ fun _ => rfl]; exact List.nodup_nil, by rw [S0, pgs_nil _ fun _ => rfl]; exact fun _ h => (by cases h)⟩
structure GotP (top : Nat) (S : PS) (c : Nat) (y : Nat × Nat × List Pg) : Prop where
  got : Got (960 / clsz c) (S.C c) y.2.2 y.1 y.2.1
  i : y.2.1 < 960 / clsz c
  lt : y.1 < 2 ^ top
  inv : ∀ Q nx m, PInv top ⟨Q, nx, updN S.C c y.2.2, S.Fr, m⟩
  one : OneAt (960 / clsz c) y.2.2 y.1
  new : (∀ q ∈ S.C c, q.pn ≠ y.1) → y.1 ∉ pgs S.C S.Fr
theorem PInv.got {top : Nat} {S : PS} (h : PInv top S) {c : Nat} (hc : c ∈ cls) {y : Nat × Nat × List Pg × Bool} (ht : TkR (clsz c) top (pgs S.C S.Fr) (S.C c) y) : GotP top S c (y.1, y.2.1, y.2.2.1) ∧ (pgs (updN S.C c y.2.2.1) S.Fr).Perm (if y.2.2.2 = true then y.1 :: pgs S.C S.Fr else pgs S.C S.Fr) := by
 obtain ⟨q0, h0⟩ := h.one c hc
 have hck := h.ok c hc
 have hmp : 0 < 960 / clsz c := by have := clsz_many hc; omega
 have htp : 2 ^ top ≤ 128 := Nat.pow_le_pow_right (n := 2) (by decide) h.tp.2
 have key : (pgs (updN S.C c y.2.2.1) S.Fr).Perm (if y.2.2.2 = true then y.1 :: pgs S.C S.Fr else pgs S.C S.Fr) ∧ y.1 < 2 ^ top ∧ (y.2.2.2 = true → y.1 ∉ pgs S.C S.Fr) ∧ (y.2.2.2 ≠ true → y.1 ∈ cpg S.C c) := by
  have hp := ht.pn
  by_cases e : y.2.2.2 = true
  ·rw [if_pos e] at hp ⊢
   exact ⟨pgs_add hc hp.1, hp.2.2, fun _ => hp.2.1, fun h => absurd e h⟩
  ·rw [if_neg e] at hp ⊢
   refine ⟨pgs_same hc hp.1, ?_, fun h => absurd h e, fun _ => hp.2⟩
   obtain ⟨q, hq, e2⟩ := List.mem_map.1 hp.2
   exact h.lt _ (pgs_mem.2 (.inl ⟨c, hc, q, hq, e2⟩))
 obtain ⟨k1, k2, k3, k4⟩ := key
 refine ⟨⟨ht.got, ht.i, k2, fun Q nx m => ?_, ht.got.one hck.inv h0, fun hn hm => ?_⟩, k1⟩
 ·refine ⟨h.tp, fun d hd => ?_, fun d hd => ?_, k1.nodup_iff.2 ?_, fun p hp => ?_⟩
  ·dsimp only
   by_cases e : d = c
   ·subst e; rw [updN_same]; exact hck.got ht.got (by omega)
   ·rw [updN_ne _ _ e]; exact h.ok d hd
  ·dsimp only
   by_cases e : d = c
   ·subst e; rw [updN_same]; exact ⟨_, ht.got.one hck.inv h0⟩
   ·rw [updN_ne _ _ e]; exact h.one d hd
  ·split
   ·rename_i e; exact List.nodup_cons.2 ⟨k3 e, h.nd⟩
   ·exact h.nd
  ·have := k1.mem_iff.1 hp
   split at this
   ·rcases List.mem_cons.1 this with rfl | this
    ·exact k2
    ·exact h.lt _ this
   ·exact h.lt _ this
 ·by_cases e : y.2.2.2 = true
  ·exact k3 e hm
  ·obtain ⟨q, hq, e2⟩ := List.mem_map.1 (k4 e)
   exact hn q hq e2
structure GaveP (top : Nat) (S : PS) (c pn i : Nat) (L' : List Pg) : Prop where
  gave : Gave (960 / clsz c) (S.C c) L' pn i
  inv : ∀ Q nx m, PInv top ⟨Q, nx, updN S.C c L', S.Fr, m⟩
theorem PInv.gave {top : Nat} {S : PS} (h : PInv top S) {c pn i : Nat} (hc : c ∈ cls) (h1 : OneAt (960 / clsz c) (S.C c) pn) {y : List Pg × Bool} (ht : GvR (clsz c) (S.C c) pn i y) (hm : pn ∈ pgs S.C S.Fr) : GaveP top S c pn i y.1 ∧ (pgs (updN S.C c y.1) S.Fr).Perm (if y.2 = true then (pgs S.C S.Fr).erase pn else pgs S.C S.Fr) := by
 have hck := h.ok c hc
 have key : (pgs (updN S.C c y.1) S.Fr).Perm (if y.2 = true then (pgs S.C S.Fr).erase pn else pgs S.C S.Fr) := by
  have hp := ht.pn
  by_cases e : y.2 = true
  ·rw [if_pos e] at hp ⊢
   have h2 : (updN (updN S.C c y.1) c (S.C c)) = S.C := funext fun x => by
    by_cases e : x = c
    ·subst e; rw [updN_same]
    ·rw [updN_ne _ _ e, updN_ne _ _ e]
   have := pgs_add (C := updN S.C c y.1) (Fr := S.Fr) (L' := S.C c) hc (by rw [cpg, updN_same]; exact hp)
   rw [h2] at this
   have h3 := this.erase pn
   rw [List.erase_cons_head] at h3
   exact h3.symm
  ·rw [if_neg e] at hp ⊢
   exact pgs_same hc hp
 refine ⟨⟨ht.gave, fun Q nx m => ⟨h.tp, fun d hd => ?_, fun d hd => ?_, key.nodup_iff.2 ?_, fun p hp => ?_⟩⟩, key⟩
 ·dsimp only
  by_cases e : d = c
  ·subst e; rw [updN_same]; exact hck.gave ht.gave
  ·rw [updN_ne _ _ e]; exact h.ok d hd
 ·dsimp only
  by_cases e : d = c
  ·subst e; rw [updN_same]; exact ⟨_, ht.gave.one h1⟩
  ·rw [updN_ne _ _ e]; exact h.one d hd
 ·split
  ·exact h.nd.erase _
  ·exact h.nd
 ·have := key.mem_iff.1 hp
  split at this
  ·exact h.lt _ (List.mem_of_mem_erase this)
  ·exact h.lt _ this
theorem charge_no {Q : List Qt.Qn} {a n : Int} (h : (Qt.chargeQ Q a n).2 ≠ 0) : (Qt.chargeQ Q a n).1 = Q := by
 unfold Qt.chargeQ at h ⊢
 split
 ·rfl
 ·split
  ·rfl
  ·split
   ·rfl
   ·rename_i h1 h2 h3; rw [if_neg h1, if_neg h2, if_neg h3] at h; exact absurd rfl h
theorem plcost_ok (c : Nat) (h : c < 8) : FSpec Tryz.prog 72 [.int .i64 (c : Int)] GV [] (fun _ : Unit => .int .i64 (clsz c : Int)) (fun _ => True) (fun _ => []) := by
 refine fI Tryz.func72 Tryz.ntmps72 ?_
 intro F hF
 refine zz [37] ?_
 obtain ⟨E, fz, hT⟩ := hF.co
 haveI : RdI F 0 (.cells costsC.toArray E fz) := ⟨hT⟩
 refine zz [0,1,4,2,0,0,1,3,38,20] ?_
 refine TL.known 5 rfl (c := false) (decide_eq_false (by omega)) ?_
 refine zz [32,139,19,2] ?_
 refine TC.condD rfl (fun hc1 => absurd hc1 (by omega)) (fun hc1 => ?_)
 refine zz [7,0,1,3] ?_
 refine q rfl rfl (ixAl 8 3 1 rfl rfl rfl (by omega) (by omega)) ?_
 refine q rfl rfl (ld rfl rfl (cost_get h)) ?_
 refine zz [4,2,11] ?_
 exact zc2
theorem plarena_ok (b t bd ar : Nat) (ca : Nat → Nat) : FSpec Tryz.prog 82 [.pointer (some ⟨b, 0, none⟩)] noRd [pts b 93 (plC 8 t bd ar ca)] (fun _ : Unit => .pointer (some ⟨ar, 0, none⟩)) (fun _ => True) (fun _ => [pts b 93 (plC 8 t bd ar ca)]) := by
 refine fI Tryz.func82 Tryz.ntmps82 ?_
 intro F _
 refine zz [39,0,1,24,2,0,0,1,6,34,2,10,7,0,1,6,13,62,12,24,2,11] ?_
 exact zc1
theorem plquota_ok (b t bd ar : Nat) (ca : Nat → Nat) : FSpec Tryz.prog 10 [.pointer (some ⟨b, 0, none⟩)] noRd [pts b 93 (plC 8 t bd ar ca)] (fun _ : Unit => .pointer (some ⟨t, 0, none⟩)) (fun _ => True) (fun _ => [pts b 93 (plC 8 t bd ar ca)]) := by
 refine fI Tryz.func10 Tryz.ntmps10 ?_
 intro F _
 refine zz [39,0,1,24,2,0,0,1,6,34,2,10,7,0,1,6,13,14,12,24,2,11] ?_
 exact zc1
theorem plget_ok (b top : Nat) (S : PS) (a : Int) (c : Nat) (hc : c ∈ cls) (hroom : (pgs S.C S.Fr).length < 2 ^ top) (hq : (Qt.chargeQ S.Q a (clsz c : Int)).2 = 0) : FSpec Tryz.prog 37 [.pointer (some ⟨b, 0, none⟩), .int .i64 a, .int .i64 (c : Int)] GV [isPl b top S] (fun y : Nat × Nat × List Pg => .tuple #[.int .i64 ((y.1 * 1024 + 64 + y.2.1 * clsz c : Nat) : Int), .int .i64 0]) (fun y => GotP top S c y) (fun y => [isPl b top ⟨(Qt.chargeQ S.Q a (clsz c : Int)).1, S.nx, updN S.C c y.2.2, S.Fr, zB S.m (y.1 * 1024 + 64 + y.2.1 * clsz c) (clsz c)⟩]) := by
 refine fI Tryz.func37 Tryz.ntmps37 ?_
 intro F hF
 refine zz [39] ?_
 haveI : GVI F := ⟨hF⟩
 obtain ⟨hz1, hz0⟩ := clsz_ok hc
 have hz9 : ((clsz c : Nat) : Int) ≠ 0 := by omega
 have hc8 := cls_lt hc
 refine TC.open 0 rfl (fun x0 hx0 => ?_)
 obtain ⟨t, bd, ar, ca⟩ := x0
 have hP := hx0
 refine zz [82] ?_
 dsimp only at hP ⊢
 refine zz [0,1,4,4,2,0,0,1,6,34,20,32,59] ?_
 refine cl (plcost_ok c (cls_lt hc)) rfl (picked_nil _) GVI.gv ?_
 intro _ _
 refine zz [69,74,19,2] ?_
 refine TC.condD rfl (fun hc2 => absurd hc2 (by omega)) (fun hc2 => ?_)
 refine zz [7,0,0,215,28,31,25,18,33,33,16] ?_
 refine cl (plcost_ok c (cls_lt hc)) rfl (picked_nil _) GVI.gv ?_
 intro _ _
 refine zz [99,8,16] ?_
 refine cl (Qt.qcharge_ok t S.Q S.nx a (clsz c : Int)) rfl PkL.p trivial ?_
 intro _ _
 refine zz [99,8,41,27,0,1,3,23,2] ?_
 refine TC.condD rfl (fun hc3 => absurd hc3 (by omega)) (fun hc3 => ?_)
 refine zz [7,0,1,6,3,13,78] ?_
 refine q rfl rfl (ixAl 8 90 1 rfl rfl rfl (by omega) (by omega)) ?_
 first | refine q rfl rfl (ld rfl rfl rfl) ?_ | refine q rfl rfl (ld rfl rfl (pl_get ca hc)) ?_ | refine q rfl rfl (ldS rfl rfl rfl) ?_
 obtain ⟨L0, hp0, hne0⟩ := cls_open hc
 have htp := hP.tp
 have htq : 2 ^ top ≤ 128 := Nat.pow_le_pow_right (n := 2) (by decide) htp.2
 refine TL.weak (ent_openB 4 rfl hp0) ?_
 refine e rfl ?_
 refine cl (sltake_ok (ca c) bd top (clsz c) (S.C c) (pgs S.C S.Fr) (by omega) hroom (fun q2 h2 => pgs_mem.2 (.inl ⟨c, hc, q2, h2, rfl⟩))) rfl PkL.p GVI.gv ?_
 intro y hy
 refine zz [49] ?_
 obtain ⟨hG, hpm⟩ := hP.got hc hy
 obtain ⟨pn, i, L', fr⟩ := y
 dsimp only at hG hpm ⊢
 have hpl := (hP.ok c hc).place hG.i
 have hlt := hG.lt
 dsimp only at hpl hlt
 clear hy
 refine zz [26,15,15,4,4,2,0,0,1,3,23,2,10,7,0] ?_
 refine TC.draw _ [] [(0, false), (1, false), (2, false), (3, false), (4, false), (5, false), (6, true), (7, true)] (by kernel_rfl) (by kernel_rfl) (ent_take 4 rfl (ent_nil _)) ?_
 refine zz [28,31,58] ?_
 first | refine dq rfl rfl rfl (ld rfl rfl rfl) ?_ | refine dq rfl rfl rfl (ld rfl rfl (pl_get ca hc)) ?_ | refine dq rfl rfl rfl (ldS rfl rfl rfl) ?_
 refine zz [33,33,16] ?_
 refine cl (plcost_ok c (cls_lt hc)) rfl (picked_nil _) GVI.gv ?_
 intro _ _
 refine zz [126,8,16] ?_
 refine cl (arfill_ok ar (1024 * 2 ^ top) (pn * 1024 + 64 + i * clsz c) (clsz c) S.m (by omega) (by omega) (by omega)) rfl PkL.p trivial ?_
 intro _ _
 refine zz [126,8,27,0,1,3,4,4,2,11] ?_
 exact Ret.i (pn, i, L') [_, _] ⟨rfl, rfl, trivial⟩ rfl hG (ent_close (⟨t, bd, ar, ca⟩ : PlRep) (hG.inv _ _ _) (ent_take 5 rfl (ent_take 4 rfl (ent_takeW 2 rfl (bd_perm _ _ hpm.symm) (ent_take 0 rfl (ent_closeB 0 0 c rfl rfl (by dsimp only; rw [updN_same]) (fun x hx => by dsimp only; rw [updN_ne _ _ (hne0 x hx)]) hp0.symm entS))))))
theorem plget_no (b top : Nat) (S : PS) (a : Int) (c : Nat) (hc : c ∈ cls) (hq : (Qt.chargeQ S.Q a (clsz c : Int)).2 ≠ 0) : FSpec Tryz.prog 37 [.pointer (some ⟨b, 0, none⟩), .int .i64 a, .int .i64 (c : Int)] GV [isPl b top S] (fun _ : Unit => .tuple #[.int .i64 0, .int .i64 (Qt.chargeQ S.Q a (clsz c : Int)).2]) (fun _ => True) (fun _ => [isPl b top S]) := by
 refine fI Tryz.func37 Tryz.ntmps37 ?_
 intro F hF
 refine zz [39] ?_
 haveI : GVI F := ⟨hF⟩
 obtain ⟨hz1, hz0⟩ := clsz_ok hc
 have hz9 : ((clsz c : Nat) : Int) ≠ 0 := by omega
 have hc8 := cls_lt hc
 refine TC.open 0 rfl (fun x0 hx0 => ?_)
 obtain ⟨t, bd, ar, ca⟩ := x0
 have hP := hx0
 refine zz [82] ?_
 dsimp only at hP ⊢
 refine zz [0,1,4,4,2,0,0,1,6,34,20,32,59] ?_
 refine cl (plcost_ok c (cls_lt hc)) rfl (picked_nil _) GVI.gv ?_
 intro _ _
 refine zz [69,74,19,2] ?_
 refine TC.condD rfl (fun hc4 => absurd hc4 (by omega)) (fun hc4 => ?_)
 refine zz [7,0,0,215,28,31,25,18,33,33,16] ?_
 refine cl (plcost_ok c (cls_lt hc)) rfl (picked_nil _) GVI.gv ?_
 intro _ _
 refine zz [99,8,16] ?_
 refine cl (Qt.qcharge_ok t S.Q S.nx a (clsz c : Int)) rfl PkL.p trivial ?_
 intro _ _
 refine zz [99,8,41,27,0,1,3,23,2] ?_
 refine TC.condD rfl (fun hc5 => ?_) (fun hc5 => absurd (by omega) hc5)
 refine zz [0,1,3,4,4,2,51] ?_
 have hqn := charge_no hq
 exact Ret.i () [_, _] ⟨rfl, rfl, trivial⟩ rfl trivial (ent_close (⟨t, bd, ar, ca⟩ : PlRep) hP (by rw [hqn]; exact entS))
theorem plhas_ok (b top : Nat) (S : PS) (c : Nat) (hc : c ∈ cls) (k pn i : Nat) (f : Nat → Bool) (hk : (S.C c)[k]? = some ⟨pn, f⟩) (hi : f i = true) : FSpec Tryz.prog 130 [.pointer (some ⟨b, 0, none⟩), .int .i64 (c : Int), .int .i64 ((pn * 1024 + 64 + i * clsz c : Nat) : Int)] GV [isPl b top S] (fun _ : Unit => .bool true) (fun _ => True) (fun _ => [isPl b top S]) := by
 refine fI Tryz.func130 Tryz.ntmps130 ?_
 intro F hF
 refine zz [39] ?_
 haveI : GVI F := ⟨hF⟩
 obtain ⟨hz1, hz0⟩ := clsz_ok hc
 have hc8 := cls_lt hc
 refine TC.open 0 rfl (fun x0 hx0 => ?_)
 obtain ⟨t, bd, ar, ca⟩ := x0
 have hP := hx0
 refine zz [82] ?_
 dsimp only at hP ⊢
 refine zz [0,1,9,2,0,1,6,106,20,32,59] ?_
 refine cl (plcost_ok c (cls_lt hc)) rfl (picked_nil _) GVI.gv ?_
 intro _ _
 refine zz [69,84,19,20] ?_
 refine TL.known 14 rfl (c := true) (decide_eq_true (by omega)) ?_
 refine zz [85,32,112,164] ?_
 refine qg rfl rfl rfl (ixAl 8 90 1 rfl rfl rfl (by omega) (by omega)) ?_
 first | refine qg rfl rfl rfl (ld rfl rfl rfl) ?_ | refine qg rfl rfl rfl (ld rfl rfl (pl_get ca hc)) ?_ | refine qg rfl rfl rfl (ldS rfl rfl rfl) ?_
 refine zz [32] ?_
 obtain ⟨L0, hp0, hne0⟩ := cls_open hc
 refine TL.weak (ent_openB 4 rfl hp0) ?_
 refine eg rfl rfl ?_
 refine cl (slhas_ok (ca c) bd (clsz c) (S.C c) k pn i f hk hi) rfl PkL.p trivial ?_
 intro _ _
 refine zz [49,19,9,2,11] ?_
 exact Ret.i () [_] ⟨rfl, trivial⟩ rfl trivial (ent_close (⟨t, bd, ar, ca⟩ : PlRep) hP (ent_take 2 rfl (ent_take 2 rfl (ent_take 2 rfl (ent_take 2 rfl (ent_closeB 0 0 c rfl rfl rfl (fun _ _ => rfl) hp0.symm entS))))))
theorem plput_ok (b top : Nat) (S : PS) (c : Nat) (hc : c ∈ cls) (k pn i : Nat) (f : Nat → Bool) (hk : (S.C c)[k]? = some ⟨pn, f⟩) (hi : f i = true) (a : Int) (hq : (Qt.refundQ S.Q a (clsz c : Int)).2 = 0) (h1 : OneAt (960 / clsz c) (S.C c) pn) : FSpec Tryz.prog 86 [.pointer (some ⟨b, 0, none⟩), .int .i64 a, .int .i64 (c : Int), .int .i64 ((pn * 1024 + 64 + i * clsz c : Nat) : Int)] GV [isPl b top S] (fun _ : List Pg => .int .i64 0) (fun L' => GaveP top S c pn i L') (fun L' => [isPl b top ⟨(Qt.refundQ S.Q a (clsz c : Int)).1, S.nx, updN S.C c L', S.Fr, S.m⟩]) := by
 refine fI Tryz.func86 Tryz.ntmps86 ?_
 intro F hF
 refine zz [39] ?_
 haveI : GVI F := ⟨hF⟩
 obtain ⟨hz1, hz0⟩ := clsz_ok hc
 have hc8 := cls_lt hc
 have hpU : pn ∈ pgs S.C S.Fr := pgs_mem.2 (.inl ⟨c, hc, _, List.mem_of_getElem? hk, rfl⟩)
 refine zz [0,1,4,2,0,17,0,1,6,34,20,32,59] ?_
 refine cl (plcost_ok c (cls_lt hc)) rfl (picked_nil _) GVI.gv ?_
 intro _ _
 refine zz [66,74,19,9,2] ?_
 refine TC.condD rfl (fun hc6 => absurd hc6 (by omega)) (fun hc6 => ?_)
 refine zz [0,1,6,3,3,5] ?_
 refine cl (plhas_ok b top S c hc k pn i f hk hi) rfl PkL.p GVI.gv ?_
 intro _ _
 refine zz [66,64,9,2,10] ?_
 refine TC.open 0 rfl (fun x0 hx0 => ?_)
 obtain ⟨t, bd, ar, ca⟩ := x0
 have hP := hx0
 refine zz [82] ?_
 dsimp only at hP ⊢
 refine zz [42,0,0,215,28,31,25] ?_
 first | refine dq rfl rfl rfl (ld rfl rfl rfl) ?_ | refine dq rfl rfl rfl (ld rfl rfl (pl_get ca hc)) ?_ | refine dq rfl rfl rfl (ldS rfl rfl rfl) ?_
 refine zz [33,33,16] ?_
 refine cl (plcost_ok c (cls_lt hc)) rfl (picked_nil _) GVI.gv ?_
 intro _ _
 refine zz [99,8,16] ?_
 refine cl (Qt.qrefund_ok t S.Q S.nx a (clsz c : Int)) rfl PkL.p trivial ?_
 intro _ _
 refine zz [99,8,41,27,0,1,3,23,2] ?_
 refine TC.condD rfl (fun hc7 => absurd hc7 (by omega)) (fun hc7 => ?_)
 refine zz [7,0,1,6,3,13,78] ?_
 refine q rfl rfl (ixAl 8 90 1 rfl rfl rfl (by omega) (by omega)) ?_
 first | refine q rfl rfl (ld rfl rfl rfl) ?_ | refine q rfl rfl (ld rfl rfl (pl_get ca hc)) ?_ | refine q rfl rfl (ldS rfl rfl rfl) ?_
 refine zz [3] ?_
 obtain ⟨L0, hp0, hne0⟩ := cls_open hc
 refine TL.weak (ent_openB 4 rfl hp0) ?_
 refine e rfl ?_
 refine cl (slgive_ok (ca c) bd (clsz c) (S.C c) k pn i f hk hi top (pgs S.C S.Fr) hpU) rfl PkL.p trivial ?_
 intro y hy
 refine zz [49] ?_
 obtain ⟨hG, hpm⟩ := hP.gave hc h1 hy hpU
 refine zz [4,2,11] ?_
 exact Ret.i y.1 [_] ⟨rfl, trivial⟩ rfl hG (ent_close (⟨t, bd, ar, ca⟩ : PlRep) (hG.inv _ _ _) (ent_take 4 rfl (ent_take 3 rfl (ent_takeW 1 rfl (bd_perm _ _ hpm.symm) (ent_take 2 rfl (ent_closeB 0 0 c rfl rfl (by dsimp only; rw [updN_same]) (fun x hx => by dsimp only; rw [updN_ne _ _ (hne0 x hx)]) hp0.symm entS))))))
theorem plC_set0 (t bd ar : Nat) (ca : Nat → Nat) : splice (0 + 3 + ((0 : Nat) : Int).toNat * 1) [Value.pointer none] (plC 0 t bd ar ca) = plC 1 t bd ar ca := rfl
theorem rng_add (j : Nat) (h : 1 ≤ j) : List.range' 1 (j + 1 - 1) = List.range' 1 (j - 1) ++ [j] := by
 obtain ⟨k, rfl⟩ : ∃ k, j = k + 1 := ⟨j - 1, by omega⟩
 rw [Nat.add_sub_cancel, Nat.add_sub_cancel]
 rw [List.range'_concat, Nat.one_mul, Nat.add_comm 1 k]
set_option maxHeartbeats 1000000 in
theorem plnew_ok (n top : Nat) (lim : Int) (h : n = 65536 ∧ top = 6 ∨ n = 131072 ∧ top = 7) (hl : 0 ≤ lim ∧ lim ≤ n) : FSpec Tryz.prog 34 [.int .i64 (n : Int), .int .i64 lim] GV [] (fun b : Nat => .pointer (some ⟨b, 0, none⟩)) (fun _ => True) (fun b => [isPl b top (S0 lim)]) := by
 refine fI Tryz.func34 Tryz.ntmps34 ?_
 intro F hF
 refine zz [37] ?_
 haveI : GVI F := ⟨hF⟩
 have hnt : n = 1024 * 2 ^ top := by rcases h with ⟨rfl, rfl⟩ | ⟨rfl, rfl⟩ <;> rfl
 have hn : n = 65536 ∨ n = 131072 := by omega
 have htp : 6 ≤ top ∧ top ≤ 7 := by omega
 have hnb : n ≤ 131072 := by omega
 obtain ⟨E, fz, hT⟩ := hF.co
 haveI : RdI F 0 (.cells costsC.toArray E fz) := ⟨hT⟩
 refine zz [0,1,24,2,0,1,3,5] ?_
 refine cl (Qt.qnew_ok lim (by omega)) rfl (picked_nil _) trivial ?_
 intro t _
 refine zz [66,3,5] ?_
 refine cl (bdnew_ok n top h) rfl (picked_nil _) GVI.gv ?_
 intro bd _
 refine zz [43,3,5] ?_
 refine cl (arnew_ok n hn) rfl (picked_nil _) trivial ?_
 intro ar _
 refine zz [46] ?_
 refine q rfl rfl (bld (cs := plC 0 t bd ar (fun _ => 0)) rfl) ?_
 refine e rfl ?_
 refine bx (v := .agg (List.toArray (plC 0 t bd ar (fun _ => 0)))) (l := plC 0 t bd ar (fun _ => 0)) rfl rfl ?_
 intro b
 refine zz [24,2,0,0,1,6,13,62,12,34,20,85,112,96,52] ?_
 refine qg rfl rfl rfl (eqNil rfl rfl rfl) ?_
 refine zz [19,20,32,32,84,19,2] ?_
 refine TC.condD rfl (fun hc1 => absurd hc1 (by omega)) (fun hc1 => ?_)
 refine zz [7,0,0,1] ?_
 refine q rfl rfl (ldN (vs := costsC) 8 rfl rfl rfl rfl) ?_
 refine zz [3,2,17] ?_
 refine TC.loop (ι := Nat × (Nat → Nat)) (fun x => x.1 ≤ 8) (fun x => [(5, .pointer (some ⟨b, 0, none⟩)), (33, .agg (List.toArray costsC)), (34, .int .i64 ((x.1 : Nat) : Int))]) (fun x => sepL [pts b 93 (plC x.1 t bd ar x.2), bigS (fun c => isCa (x.2 c) bd (clsz c) []) (List.range' 1 (x.1 - 1)), Qt.isQ t [⟨0, -1, lim, 0⟩] 1, isBd bd top [], isAr ar (fun _ => 0) n, F]) (fun x => 8 - x.1) (0, fun _ => 0) (by decide) ⟨rfl, rfl, rfl, trivial⟩ ((bigS_nil (f := fun c => isCa 0 bd (clsz c) []) _).trans (ent_take 1 rfl (ent_take 0 rfl (ent_take 2 rfl (ent_take 1 rfl (ent_take 0 rfl (ent_take 0 rfl (ent_nil _)))))))) ?_
 rintro ⟨j, ca⟩ hj ρ0
 dsimp only [updL] at hj ⊢
 refine zz [0,1,38,2,0] ?_
 first | refine TC.condD rfl (fun hlt => ?_) (fun hlt => ?_) | refine TC.cond rfl (fun hlt => ?_) (fun hlt => ?_)
 ·have hlt2 : j < 8 := by omega
  have hcg := cost_get2 hlt2
  refine zz [7,0,17,0,1,3] ?_
  refine q rfl rfl (idA1 8 3 1 rfl rfl rfl rfl (by omega) (by omega) hcg) ?_
  refine zz [4,4,2] ?_
  by_cases h0 : j = 0
  ·subst h0
   have hst := plC_set0 t bd ar ca
   have hcl := plC_len 0 t bd ar ca
   refine zz [247,28,33,28,31,60,18,33,31,90,16] ?_
   refine cl (slnew_nil bd) rfl (picked_nil _) trivial ?_
   intro _ _
   refine zz [99,8,248,70] ?_
   first | refine st (v := .pointer _) (vs := [_]) 1 rfl rfl rfl rfl rfl rfl (Nat.le_of_ble_eq_true rfl) rfl ?_ | refine st (v := .pointer _) (vs := [_]) 1 rfl rfl rfl rfl rfl rfl (by omega) hst ?_
   refine zz [163,1,36,3,2] ?_
   exact ⟨rfl, (1, ca), (by dsimp only; omega), (by dsimp only; omega), ⟨rfl, rfl, rfl, trivial⟩, entS⟩
  ·have h1 : 1 ≤ j := by omega
   have hc : j ∈ cls := cls_mem.2 (by omega)
   refine zz [247,28,33,28,31,60,18,33,31,90,16] ?_
   refine cl (slnew_ok bd (clsz j) (clsz_ok hc).1) rfl (picked_nil _) trivial ?_
   intro nca _
   refine zz [126,8] ?_
   have hst := plC_set (t := t) (bd := bd) (ar := ar) (x := nca) ca hlt2 h1
   have hcl := plC_len j t bd ar ca
   refine zz [248,70] ?_
   first | refine st (v := .pointer _) (vs := [_]) 1 rfl rfl rfl rfl rfl rfl (Nat.le_of_ble_eq_true rfl) rfl ?_ | refine st (v := .pointer _) (vs := [_]) 1 rfl rfl rfl rfl rfl rfl (by omega) hst ?_
   refine zz [163,1,36,3,2] ?_
   exact ⟨rfl, (j + 1, updN ca j nca), (by dsimp only; omega), (by dsimp only; omega), ⟨rfl, rfl, rfl, trivial⟩, (ent_take 0 rfl (ent_closeB 0 0 j rfl rfl (by dsimp only; rw [updN_same]) (fun x hx => by dsimp only; rw [updN_ne _ _ (by have := List.mem_range'_1.1 hx; omega)]) (by dsimp only; rw [rng_add j h1]; exact (List.perm_append_singleton _ _).symm) entS))⟩
 ·obtain rfl : j = 8 := by omega
  have hpn : pgs (fun _ => ([] : List Pg)) [] = [] := pgs_nil _ fun _ => rfl
  refine zz [50,0,1,6,24,2,11] ?_
  exact Ret.i b [_] ⟨rfl, trivial⟩ rfl trivial (ent_close (⟨t, bd, ar, ca⟩ : PlRep) (PInv.zero lim htp) (by dsimp only [S0]; rw [hpn, ← hnt]; exact entS))
theorem tmay2_ok (s : Nat) (h : s < 256) : FSpec Tryz.prog 133 [.int .i64 (s : Int)] noRd [] (fun _ : Unit => .bool true) (fun _ => True) (fun _ => []) := by
 refine fI Tryz.func133 Tryz.ntmps133 ?_
 intro F _
 refine zz [37,0,1,9,2,0,1,3,111,20] ?_
 refine TL.known 5 rfl (c := true) (decide_eq_true (by omega)) ?_
 refine zz [32,88,19,9,2,11] ?_
 exact Ret.i () [_] ⟨rfl, trivial⟩ (congrArg Value.bool (decide_eq_true (by omega))) trivial (ent_take 0 rfl (ent_nil _))
theorem tspot_ok (l s : Nat) (h : s < 256) (hl : l ≤ 1073741824) : FSpec Tryz.prog 135 [.int .i64 (l : Int), .int .i64 (s : Int)] noRd [] (fun _ : Unit => .int .i64 ((l + s % 16 * 16 : Nat) : Int)) (fun _ => True) (fun _ => []) := by
 refine fI Tryz.func135 Tryz.ntmps135 ?_
 intro F _
 refine zz [37,0,1,4,2,0,1,3,3] ?_
 refine q rfl rfl (OQ.to (v := ((s % 16 : Nat) : Int)) (remI rfl rfl (by omega) (by omega)) (by omega)) ?_
 refine q rfl rfl (OQ.to (v := ((s % 16 * 16 : Nat) : Int)) (mulI rfl rfl (by omega) (by omega)) (by omega)) ?_
 refine q rfl rfl (OQ.to (v := ((l + s % 16 * 16 : Nat) : Int)) (addI rfl rfl (by omega) (by omega)) (by omega)) ?_
 refine zz [4,2,11] ?_
 exact zc2
theorem troot_ok (tb pb : Nat) (fac : Int) (t s : Nat) (h : s < 256) (hl : t ≤ 1073741824) : FSpec Tryz.prog 137 [.pointer (some ⟨tb, 0, none⟩), .int .i64 (s : Int)] noRd [pts tb 285 [.pointer (some ⟨pb, 0, none⟩), .int .i64 fac, .int .i64 (t : Int)]] (fun _ : Unit => .int .i64 ((t + s / 16 * 8 : Nat) : Int)) (fun _ => True) (fun _ => [pts tb 285 [.pointer (some ⟨pb, 0, none⟩), .int .i64 fac, .int .i64 (t : Int)]]) := by
 refine fI Tryz.func137 Tryz.ntmps137 ?_
 intro F _
 refine zz [39,0,1,4,2,0,1,6,13,62,12,3] ?_
 refine q rfl rfl (OQ.to (v := ((s / 16 : Nat) : Int)) (quoI rfl rfl (by omega) (by omega) (by omega)) (by omega)) ?_
 refine q rfl rfl (OQ.to (v := ((s / 16 * 8 : Nat) : Int)) (mulI rfl rfl (by omega) (by omega)) (by omega)) ?_
 refine q rfl rfl (OQ.to (v := ((t + s / 16 * 8 : Nat) : Int)) (addI rfl rfl (by omega) (by omega)) (by omega)) ?_
 refine zz [4,2,11] ?_
 exact zc1
theorem tword_ok (tb pb top : Nat) (fac : Int) (t : Nat) (S : PS) (o : Nat) (h : o + 8 ≤ 1024 * 2 ^ top) (h8 : o % 8 = 0) : FSpec Tryz.prog 136 [.pointer (some ⟨tb, 0, none⟩), .int .i64 (o : Int)] noRd [pts tb 285 [.pointer (some ⟨pb, 0, none⟩), .int .i64 fac, .int .i64 (t : Int)], isPl pb top S] (fun _ : Unit => .int .u64 (ldW S.m o : Int)) (fun _ => True) (fun _ => [pts tb 285 [.pointer (some ⟨pb, 0, none⟩), .int .i64 fac, .int .i64 (t : Int)], isPl pb top S]) := by
 refine fI Tryz.func136 Tryz.ntmps136 ?_
 intro F _
 refine zz [44] ?_
 refine TC.open 1 rfl (fun x0 hx0 => ?_)
 obtain ⟨tt, bd, ar, ca⟩ := x0
 have hP := hx0
 refine zz [104] ?_
 dsimp only at hP ⊢
 have htp := hP.tp
 have htq : 2 ^ top ≤ 128 := Nat.pow_le_pow_right (n := 2) (by decide) htp.2
 refine zz [0,1,4,2,0,1,6,13,14,12,5] ?_
 refine cl (plarena_ok pb tt bd ar ca) rfl PkL.p trivial ?_
 intro _ _
 refine zz [49,3,5] ?_
 refine cl (arload_ok ar (1024 * 2 ^ top) o S.m (by omega) h h8) rfl PkL.p trivial ?_
 intro _ _
 refine zz [49,26,15,15,4,4,2,0,1,3,4,2,11] ?_
 exact Ret.i () [_] ⟨rfl, trivial⟩ rfl trivial (ent_take 5 rfl (ent_close (⟨tt, bd, ar, ca⟩ : PlRep) hP entS))
theorem tleaf_ok (tb pb top : Nat) (fac : Int) (t : Nat) (S : PS) (s : Nat) (hs : s < 256) (ht : t + 128 ≤ 1024 * 2 ^ top ∧ t % 8 = 0 ∧ top ≤ 7) (hl : ldW S.m (t + s / 16 * 8) < 1073741824) : FSpec Tryz.prog 134 [.pointer (some ⟨tb, 0, none⟩), .int .i64 (s : Int)] noRd [pts tb 285 [.pointer (some ⟨pb, 0, none⟩), .int .i64 fac, .int .i64 (t : Int)], isPl pb top S] (fun _ : Unit => .int .i64 (ldW S.m (t + s / 16 * 8) : Int)) (fun _ => True) (fun _ => [pts tb 285 [.pointer (some ⟨pb, 0, none⟩), .int .i64 fac, .int .i64 (t : Int)], isPl pb top S]) := by
 refine fI Tryz.func134 Tryz.ntmps134 ?_
 intro F _
 refine zz [44] ?_
 have htq : 2 ^ top ≤ 128 := Nat.pow_le_pow_right (n := 2) (by decide) ht.2.2
 refine zz [0,1,4,2,0,1,6,6,3,5] ?_
 refine cl (troot_ok tb pb fac t s hs (by omega)) rfl PkL.p trivial ?_
 intro _ _
 refine zz [43,5] ?_
 refine cl (tword_ok tb pb top fac t S (t + s / 16 * 8) (by omega) (by omega)) rfl PkL.p trivial ?_
 intro _ _
 refine zz [43,188,4,2,11] ?_
 exact zc0
theorem cpg_disj {C : Nat → List Pg} : ∀ {l : List Nat}, (l.flatMap (cpg C)).Nodup → l.Nodup → ∀ {c d p : Nat}, c ∈ l → d ∈ l → p ∈ cpg C c → p ∈ cpg C d → c = d
 | [], _, _, _, _, _, h, _, _, _ => by cases h
 | x :: l, hn, hl, c, d, p, hc, hd, h1, h2 => by
  rw [List.flatMap_cons] at hn
  obtain ⟨n1, n2, n3⟩ := List.nodup_append.1 hn
  obtain ⟨l1, l2⟩ := List.nodup_cons.1 hl
  rcases List.mem_cons.1 hc with e1 | hc2 <;> rcases List.mem_cons.1 hd with e2 | hd2
  ·rw [e1, e2]
  ·subst e1; exact absurd rfl (n3 p h1 p (List.mem_flatMap.2 ⟨d, hd2, h2⟩))
  ·subst e2; exact absurd rfl (n3 p h2 p (List.mem_flatMap.2 ⟨c, hc2, h1⟩))
  ·exact cpg_disj n2 l2 hc2 hd2 h1 h2
theorem PInv.disj {top : Nat} {S : PS} (h : PInv top S) {c d : Nat} (hc : c ∈ cls) (hd : d ∈ cls) {p q : Pg} (hp : p ∈ S.C c) (hq : q ∈ S.C d) (e : p.pn = q.pn) : c = d :=
 cpg_disj (List.nodup_append.1 h.nd).1 cls_nodup hc hd (List.mem_map.2 ⟨p, hp, rfl⟩) (List.mem_map.2 ⟨q, hq, e.symm⟩)
theorem cinv_uni {many : Nat} {L : List Pg} (h : CInv many L) {p q : Pg} (hp : p ∈ L) (hq : q ∈ L) (e : p.pn = q.pn) : p = q := by
 obtain ⟨i, hi⟩ := List.getElem?_of_mem hp
 obtain ⟨j, hj⟩ := List.getElem?_of_mem hq
 obtain ⟨h1, h2⟩ := List.getElem?_eq_some_iff.1 hi
 obtain ⟨h3, h4⟩ := List.getElem?_eq_some_iff.1 hj
 have key : i = j := by
  rcases Nat.lt_trichotomy i j with h5 | h5 | h5
  ·have := (List.pairwise_iff_getElem.1 h.srt) i j h1 h3 h5; rw [h2, h4] at this; omega
  ·exact h5
  ·have := (List.pairwise_iff_getElem.1 h.srt) j i h3 h1 h5; rw [h2, h4] at this; omega
 subst key; rw [← h2, ← h4]
theorem Plc.bd {top : Nat} {S : PS} (hP : PInv top S) {c a : Nat} (hc : c ∈ cls) (h : Plc (clsz c) (S.C c) a) : a % 16 = 0 ∧ 64 ≤ a ∧ a + clsz c ≤ 1024 * 2 ^ top := by
 obtain ⟨p, hp, i, hi, rfl⟩ := h
 have hk := hP.ok c hc
 have h1 := hk.place (hk.inv.bd p hp i hi)
 have h2 := hP.lt p.pn (pgs_mem.2 (.inl ⟨c, hc, p, hp, rfl⟩))
 obtain ⟨h3, h4⟩ := clsz_ok hc
 obtain ⟨q, hq⟩ : ∃ q, clsz c = 16 * q := ⟨clsz c / 16, by omega⟩
 have h5 : i * clsz c = 16 * (i * q) := by rw [hq, Nat.mul_left_comm]
 omega
theorem Plc.apart {top : Nat} {S : PS} (hP : PInv top S) {c d a b : Nat} (hc : c ∈ cls) (hd : d ∈ cls) (h : Plc (clsz c) (S.C c) a) (k : Plc (clsz d) (S.C d) b) (hne : c ≠ d ∨ a ≠ b) : a + clsz c ≤ b ∨ b + clsz d ≤ a := by
 obtain ⟨p, hp, i, hi, rfl⟩ := h
 obtain ⟨q, hq, j, hj, rfl⟩ := k
 have h1 := (hP.ok c hc).place ((hP.ok c hc).inv.bd p hp i hi)
 have h2 := (hP.ok d hd).place ((hP.ok d hd).inv.bd q hq j hj)
 by_cases e : p.pn = q.pn
 ·have e2 := hP.disj hc hd hp hq e
  subst e2
  have e3 := cinv_uni (hP.ok c hc).inv hp hq e
  subst e3
  rcases Nat.lt_trichotomy i j with h5 | h5 | h5
  ·have := Nat.mul_le_mul_right (clsz c) (show i + 1 ≤ j from h5); rw [Nat.add_mul] at this; omega
  ·subst h5; rcases hne with h | h <;> exact absurd rfl h
  ·have := Nat.mul_le_mul_right (clsz c) (show j + 1 ≤ i from h5); rw [Nat.add_mul] at this; omega
 ·omega
theorem Plc.frame {top : Nat} {S : PS} (hP : PInv top S) {c a p : Nat} (hc : c ∈ cls) (h : Plc (clsz c) (S.C c) a) (hp : p ∉ cls.flatMap (cpg S.C)) : a + clsz c ≤ p * 1024 ∨ p * 1024 + 1024 ≤ a := by
 obtain ⟨q, hq, i, hi, rfl⟩ := h
 have h1 := (hP.ok c hc).place ((hP.ok c hc).inv.bd q hq i hi)
 have : q.pn ≠ p := fun e => hp (List.mem_flatMap.2 ⟨c, hc, List.mem_map.2 ⟨q, hq, e⟩⟩)
 omega
theorem got_fresh {many pn i sz : Nat} {L L' : List Pg} (g : Got many L L' pn i) (h : CInv many L) (hs : 0 < sz) (hm : many * sz ≤ 960) (hi : i < many) : ¬ Plc sz L (pn * 1024 + 64 + i * sz) := by
 rintro ⟨q, hq, j, hj, e⟩
 have b1 : i * sz + sz ≤ 960 := by have := Nat.mul_le_mul_right sz (show i + 1 ≤ many from hi); rw [Nat.add_mul] at this; omega
 have b2 : j * sz + sz ≤ 960 := by have := Nat.mul_le_mul_right sz (show j + 1 ≤ many from h.bd q hq j hj); rw [Nat.add_mul] at this; omega
 have e1 : q.pn = pn := by omega
 have e2 : i = j := Nat.eq_of_mul_eq_mul_right hs (by omega)
 cases g with
 | old A B f h1 h2 h3 h4 =>
  have hp : (⟨pn, f⟩ : Pg) ∈ L := by rw [h1]; simp
  have := cinv_uni h hq hp e1
  subst this; subst e2; dsimp only at hj; rw [h3] at hj; cases hj
 | new A B h1 h2 h3 h4 h5 h6 =>
  rw [h1] at hq
  rcases List.mem_append.1 hq with hq | hq
  ·have := h5 q hq; omega
  ·have := h6 q hq; omega
def addr (c : Nat) (y : Nat × Nat × List Pg) : Nat := y.1 * 1024 + 64 + y.2.1 * clsz c
theorem GotP.fresh {top : Nat} {S : PS} {c : Nat} {y : Nat × Nat × List Pg} (hP : PInv top S) (hc : c ∈ cls) (g : GotP top S c y) : ¬ Plc (clsz c) (S.C c) (addr c y) :=
 got_fresh g.got (hP.ok c hc).inv (by have := clsz_ok hc; omega) (hP.ok c hc).many.2.2 g.i
theorem GotP.plc {top : Nat} {S : PS} {c : Nat} {y : Nat × Nat × List Pg} (hc : c ∈ cls) (g : GotP top S c y) {d a : Nat} : Plc (clsz d) (updN S.C c y.2.2 d) a ↔ Plc (clsz d) (S.C d) a ∨ (d = c ∧ a = addr c y) := by
 by_cases e : d = c
 ·subst e; rw [updN_same, g.got.plc (by have := clsz_ok hc; omega)]
  constructor
  ·rintro (h | h)
   ·exact .inl h
   ·exact .inr ⟨rfl, h⟩
  ·rintro (h | ⟨_, h⟩)
   ·exact .inl h
   ·exact .inr h
 ·rw [updN_ne _ _ e]; exact ⟨.inl, fun h => h.elim id fun h => absurd h.1 e⟩
theorem GotP.apart {top : Nat} {S : PS} {c : Nat} {y : Nat × Nat × List Pg} (hP : PInv top S) (hc : c ∈ cls) (g : GotP top S c y) {d a : Nat} (hd : d ∈ cls) (h : Plc (clsz d) (S.C d) a) : a + clsz d ≤ addr c y ∨ addr c y + clsz c ≤ a :=
 Plc.apart (g.inv S.Q S.nx S.m) hd hc ((g.plc hc).2 (.inl h)) ((g.plc hc).2 (.inr ⟨rfl, rfl⟩)) (by
  by_cases e : d = c
  ·subst e; exact .inr fun e2 => g.fresh hP hc (e2 ▸ h)
  ·exact .inl e)
theorem GaveP.plc {top : Nat} {S : PS} {c pn i : Nat} {L' : List Pg} (hP : PInv top S) (hc : c ∈ cls) (g : GaveP top S c pn i L') {d a : Nat} (h : Plc (clsz d) (S.C d) a) (hne : d ≠ c ∨ a ≠ pn * 1024 + 64 + i * clsz c) : Plc (clsz d) (updN S.C c L' d) a := by
 by_cases e : d = c
 ·subst e; rw [updN_same]
  exact g.gave.plc (hP.ok d hc).inv (by have := clsz_ok hc; omega) h (hne.resolve_left fun h => h rfl)
 ·rw [updN_ne _ _ e]; exact h
def rtW (m : Nat → Nat) (t j : Nat) : Nat := ldW m (t + j * 8)
def enA (m : Nat → Nat) (t s : Nat) : Nat := if rtW m t (s / 16) = 0 then 0 else ldW m (rtW m t (s / 16) + s % 16 * 16)
def enB (m : Nat → Nat) (t s : Nat) : Nat := if rtW m t (s / 16) = 0 then 0 else ldW m (rtW m t (s / 16) + s % 16 * 16 + 8)
structure TI (top : Nat) (S : PS) (t : Nat) : Prop where
  tk : Plc 128 (S.C 2) t
  lf : ∀ j, j < 16 → rtW S.m t j ≠ 0 → Plc 256 (S.C 7) (rtW S.m t j)
  nd : ∀ j k, j < 16 → k < 16 → j ≠ k → rtW S.m t j ≠ 0 → rtW S.m t j ≠ rtW S.m t k
  ne : ∀ j, j < 16 → rtW S.m t j ≠ 0 → ∃ i, i < 16 ∧ ldW S.m (rtW S.m t j + i * 16) ≠ 0
def TWord (m : Nat → Nat) (t o : Nat) : Prop := (t ≤ o ∧ o + 8 ≤ t + 128) ∨ ∃ j, j < 16 ∧ rtW m t j ≠ 0 ∧ rtW m t j ≤ o ∧ o + 8 ≤ rtW m t j + 256
theorem c2 : (2 : Nat) ∈ cls := by decide
theorem c7 : (7 : Nat) ∈ cls := by decide
theorem TI.bd {top t : Nat} {S : PS} (hP : PInv top S) (h : TI top S t) : t % 16 = 0 ∧ 64 ≤ t ∧ t + 128 ≤ 1024 * 2 ^ top := Plc.bd hP c2 h.tk
theorem TI.lbd {top t : Nat} {S : PS} (hP : PInv top S) (h : TI top S t) {j : Nat} (hj : j < 16) (h0 : rtW S.m t j ≠ 0) : rtW S.m t j % 16 = 0 ∧ 64 ≤ rtW S.m t j ∧ rtW S.m t j + 256 ≤ 1024 * 2 ^ top := Plc.bd hP c7 (h.lf j hj h0)
theorem TI.keep {top t : Nat} {S S' : PS} (h : TI top S t) (h2 : Plc 128 (S'.C 2) t) (h7 : ∀ j, j < 16 → rtW S.m t j ≠ 0 → Plc 256 (S'.C 7) (rtW S.m t j)) (hm : ∀ o, TWord S.m t o → ldW S'.m o = ldW S.m o) :
 TI top S' t ∧ (∀ j, j < 16 → rtW S'.m t j = rtW S.m t j) ∧ ∀ s, s < 256 → enA S'.m t s = enA S.m t s ∧ enB S'.m t s = enB S.m t s := by
 have hr : ∀ j, j < 16 → rtW S'.m t j = rtW S.m t j := fun j hj => hm _ (.inl ⟨by omega, by omega⟩)
 refine ⟨⟨h2, fun j hj h0 => ?_, fun j k hj hk hne h0 => ?_, fun j hj h0 => ?_⟩, hr, fun s hs => ?_⟩
 ·rw [hr j hj] at h0 ⊢; exact h7 j hj h0
 ·rw [hr j hj] at h0 ⊢; rw [hr k hk]; exact h.nd j k hj hk hne h0
 ·rw [hr j hj] at h0 ⊢
  obtain ⟨i, hi, h1⟩ := h.ne j hj h0
  exact ⟨i, hi, by rw [hm _ (.inr ⟨j, hj, h0, by omega, by omega⟩)]; exact h1⟩
 ·have hq : s / 16 < 16 := by omega
  rw [enA, enA, enB, enB, hr _ hq]
  by_cases h0 : rtW S.m t (s / 16) = 0
  ·rw [if_pos h0, if_pos h0, if_pos h0, if_pos h0]; exact ⟨rfl, rfl⟩
  ·rw [if_neg h0, if_neg h0, if_neg h0, if_neg h0]
   exact ⟨hm _ (.inr ⟨_, hq, h0, by omega, by omega⟩), hm _ (.inr ⟨_, hq, h0, by omega, by omega⟩)⟩
theorem w2_ne {m : Nat → Nat} {o o' a b : Nat} (h : o' + 8 ≤ o ∨ o + 16 ≤ o') : ldW (stWs m o [a, b]) o' = ldW m o' := stWs_ne (L := [a, b]) h
theorem w2_a {m : Nat → Nat} {o a b : Nat} (h : a < 2 ^ 64) : ldW (stWs m o [a, b]) o = a := stWs_at (L := [a, b]) (j := 0) rfl h
theorem w2_b {m : Nat → Nat} {o a b : Nat} (h : b < 2 ^ 64) : ldW (stWs m o [a, b]) (o + 8) = b := stWs_at (L := [a, b]) (j := 1) rfl h
theorem w1_ne {m : Nat → Nat} {o o' a : Nat} (h : o' + 8 ≤ o ∨ o + 8 ≤ o') : ldW (stWs m o [a]) o' = ldW m o' := stWs_ne (L := [a]) h
theorem w1_a {m : Nat → Nat} {o a : Nat} (h : a < 2 ^ 64) : ldW (stWs m o [a]) o = a := stWs_at (L := [a]) (j := 0) rfl h
theorem TI.setOld {top t : Nat} {S : PS} (hP : PInv top S) (h : TI top S t) {s a b : Nat} (hs : s < 256) (h0 : rtW S.m t (s / 16) ≠ 0) (ha : a < 2 ^ 64) (hb : b < 2 ^ 64)
 (hz : a ≠ 0 ∨ ∃ i, i < 16 ∧ i ≠ s % 16 ∧ ldW S.m (rtW S.m t (s / 16) + i * 16) ≠ 0) {S' : PS} (h2 : S'.C = S.C) (hm : S'.m = stWs S.m (rtW S.m t (s / 16) + s % 16 * 16) [a, b]) :
 TI top S' t ∧ (∀ j, j < 16 → rtW S'.m t j = rtW S.m t j) ∧ enA S'.m t s = a ∧ enB S'.m t s = b ∧ ∀ r, r < 256 → r ≠ s → enA S'.m t r = enA S.m t r ∧ enB S'.m t r = enB S.m t r := by
 have hq : s / 16 < 16 := by omega
 have hbt := h.bd hP
 have hr : ∀ j, j < 16 → rtW S'.m t j = rtW S.m t j := fun j hj => by
  have := Plc.apart hP c2 c7 h.tk (h.lf _ hq h0) (.inl (by decide))
  have e : clsz 2 = 128 := rfl
  have e2 : clsz 7 = 256 := rfl
  rw [rtW, hm, w2_ne (by omega)]; rfl
 have hw : ∀ j i, j < 16 → i < 16 → rtW S.m t j ≠ 0 → (j ≠ s / 16 ∨ i ≠ s % 16) → ldW S'.m (rtW S.m t j + i * 16) = ldW S.m (rtW S.m t j + i * 16) ∧ ldW S'.m (rtW S.m t j + i * 16 + 8) = ldW S.m (rtW S.m t j + i * 16 + 8) := fun j i hj hi hj0 hne => by
  rw [hm]
  by_cases e : j = s / 16
  ·subst e
   have := hne.resolve_left fun h => h rfl
   exact ⟨w2_ne (by omega), w2_ne (by omega)⟩
  ·have := Plc.apart hP c7 c7 (h.lf j hj hj0) (h.lf _ hq h0) (.inr (h.nd j _ hj hq e hj0))
   have e2 : clsz 7 = 256 := rfl
   exact ⟨w2_ne (by omega), w2_ne (by omega)⟩
 refine ⟨⟨by rw [h2]; exact h.tk, fun j hj hj0 => ?_, fun j k hj hk hne hj0 => ?_, fun j hj hj0 => ?_⟩, hr, ?_, ?_, fun r hr2 hrs => ?_⟩
 ·rw [hr j hj] at hj0 ⊢; rw [h2]; exact h.lf j hj hj0
 ·rw [hr j hj] at hj0 ⊢; rw [hr k hk]; exact h.nd j k hj hk hne hj0
 ·rw [hr j hj] at hj0 ⊢
  by_cases e : j = s / 16
  ·subst e
   rcases hz with hz | ⟨i, hi, hne, h9⟩
   ·exact ⟨s % 16, by omega, by rw [hm, w2_a ha]; exact hz⟩
   ·exact ⟨i, hi, by rw [(hw _ i hj hi hj0 (.inr hne)).1]; exact h9⟩
  ·obtain ⟨i, hi, h9⟩ := h.ne j hj hj0
   exact ⟨i, hi, by rw [(hw j i hj hi hj0 (.inl e)).1]; exact h9⟩
 ·rw [enA, hr _ hq, if_neg h0, hm, w2_a ha]
 ·rw [enB, hr _ hq, if_neg h0, hm, w2_b hb]
 ·have hrq : r / 16 < 16 := by omega
  rw [enA, enA, enB, enB, hr _ hrq]
  by_cases hr0 : rtW S.m t (r / 16) = 0
  ·rw [if_pos hr0, if_pos hr0, if_pos hr0, if_pos hr0]; exact ⟨rfl, rfl⟩
  ·rw [if_neg hr0, if_neg hr0, if_neg hr0, if_neg hr0]
   exact hw _ _ hrq (by omega) hr0 (by omega)
theorem TI.setNew {top t : Nat} {S : PS} (hP : PInv top S) (h : TI top S t) {s a b : Nat} (hs : s < 256) (h0 : rtW S.m t (s / 16) = 0) (ha : a < 2 ^ 64) (hb : b < 2 ^ 64) (ha0 : a ≠ 0) {y : Nat × Nat × List Pg} (g : GotP top S 7 y)
 {S' : PS} (h2 : S'.C = updN S.C 7 y.2.2) (hm : S'.m = stWs (stWs (zB S.m (addr 7 y) 256) (t + s / 16 * 8) [addr 7 y]) (addr 7 y + s % 16 * 16) [a, b]) :
 TI top S' t ∧ rtW S'.m t (s / 16) = addr 7 y ∧ (∀ j, j < 16 → j ≠ s / 16 → rtW S'.m t j = rtW S.m t j) ∧ enA S'.m t s = a ∧ enB S'.m t s = b ∧ (∀ r, r < 256 → r ≠ s → enA S'.m t r = enA S.m t r ∧ enB S'.m t r = enB S.m t r) ∧
  ∀ i, i < 16 → i ≠ s % 16 → ldW S'.m (addr 7 y + i * 16) = 0 := by
 have hq : s / 16 < 16 := by omega
 have hbt := h.bd hP
 have e2 : clsz 2 = 128 := rfl
 have e7 : clsz 7 = 256 := rfl
 have hap := g.apart hP c7 c2 h.tk
 have hnew : Plc 256 (updN S.C 7 y.2.2 7) (addr 7 y) := (g.plc c7).2 (.inr ⟨rfl, rfl⟩)
 have hbn := Plc.bd (g.inv S.Q S.nx S.m) c7 hnew
 have htp : 2 ^ top ≤ 128 := Nat.pow_le_pow_right (n := 2) (by decide) hP.tp.2
 generalize hA : addr 7 y = A at *
 rw [e2, e7] at hap
 rw [e7] at hbn
 have hrt : ∀ j, j < 16 → j ≠ s / 16 → rtW S'.m t j = rtW S.m t j := fun j hj hne => by
  rw [rtW, hm, w2_ne (by omega), w1_ne (by omega), ldW_zB_ne (by omega)]; rfl
 have hrs : rtW S'.m t (s / 16) = A := by rw [rtW, hm, w2_ne (by omega), w1_a (by omega)]
 have hlap : ∀ j, j < 16 → rtW S.m t j ≠ 0 → rtW S.m t j + 256 ≤ A ∨ A + 256 ≤ rtW S.m t j := fun j hj hj0 => by
  have := g.apart hP c7 c7 (h.lf j hj hj0)
  rw [hA] at this; exact this
 have hlt : ∀ j, j < 16 → rtW S.m t j ≠ 0 → t + 128 ≤ rtW S.m t j ∨ rtW S.m t j + 256 ≤ t := fun j hj hj0 => Plc.apart hP c2 c7 h.tk (h.lf j hj hj0) (.inl (by decide))
 have hw : ∀ j i, j < 16 → i < 16 → rtW S.m t j ≠ 0 → ldW S'.m (rtW S.m t j + i * 16) = ldW S.m (rtW S.m t j + i * 16) ∧ ldW S'.m (rtW S.m t j + i * 16 + 8) = ldW S.m (rtW S.m t j + i * 16 + 8) := fun j i hj hi hj0 => by
  have g1 := hlap j hj hj0
  have g2 := hlt j hj hj0
  rw [hm]
  exact ⟨by rw [w2_ne (by omega), w1_ne (by omega), ldW_zB_ne (by omega)], by rw [w2_ne (by omega), w1_ne (by omega), ldW_zB_ne (by omega)]⟩
 have hz : ∀ i, i < 16 → i ≠ s % 16 → ldW S'.m (A + i * 16) = 0 ∧ ldW S'.m (A + i * 16 + 8) = 0 := fun i hi hne => by
  rw [hm]
  exact ⟨by rw [w2_ne (by omega), w1_ne (by omega), ldW_zB (by omega) (by omega)], by rw [w2_ne (by omega), w1_ne (by omega), ldW_zB (by omega) (by omega)]⟩
 have hAs : ldW S'.m (A + s % 16 * 16) = a ∧ ldW S'.m (A + s % 16 * 16 + 8) = b := by rw [hm]; exact ⟨w2_a ha, w2_b hb⟩
 have hA0 : A ≠ 0 := by omega
 refine ⟨⟨by rw [h2]; exact (g.plc c7).2 (.inl h.tk), fun j hj hj0 => ?_, fun j k hj hk hne hj0 => ?_, fun j hj hj0 => ?_⟩, hrs, hrt, ?_, ?_, fun r hr hne => ?_, fun i hi hne => (hz i hi hne).1⟩
 ·rw [h2]
  by_cases e : j = s / 16
  ·subst e; rw [hrs]; exact hnew
  ·rw [hrt j hj e] at hj0 ⊢; exact (g.plc c7).2 (.inl (h.lf j hj hj0))
 ·by_cases e : j = s / 16
  ·subst e
   rw [hrs, hrt k hk (fun e => hne e.symm)]
   intro e3
   have := hlap k hk (by omega); omega
  ·rw [hrt j hj e] at hj0 ⊢
   by_cases e3 : k = s / 16
   ·subst e3; rw [hrs]; have := hlap j hj hj0; omega
   ·rw [hrt k hk e3]; exact h.nd j k hj hk hne hj0
 ·by_cases e : j = s / 16
  ·subst e; rw [hrs]; exact ⟨s % 16, by omega, by rw [hAs.1]; exact ha0⟩
  ·rw [hrt j hj e] at hj0 ⊢
   obtain ⟨i, hi, h9⟩ := h.ne j hj hj0
   exact ⟨i, hi, by rw [(hw j i hj hi hj0).1]; exact h9⟩
 ·rw [enA, hrs, if_neg hA0]; exact hAs.1
 ·rw [enB, hrs, if_neg hA0]; exact hAs.2
 ·have hrq : r / 16 < 16 := by omega
  rw [enA, enA, enB, enB]
  by_cases e : r / 16 = s / 16
  ·rw [e, hrs, if_neg hA0, if_neg hA0, if_pos h0, if_pos h0]
   exact hz _ (by omega) (by omega)
  ·rw [hrt _ hrq e]
   by_cases hr0 : rtW S.m t (r / 16) = 0
   ·rw [if_pos hr0, if_pos hr0, if_pos hr0, if_pos hr0]; exact ⟨rfl, rfl⟩
   ·rw [if_neg hr0, if_neg hr0, if_neg hr0, if_neg hr0]; exact hw _ _ hrq (by omega) hr0
theorem TI.clearGone {top t : Nat} {S : PS} (hP : PInv top S) (h : TI top S t) {s pn i0 : Nat} {L' : List Pg} (hs : s < 256) (h0 : rtW S.m t (s / 16) ≠ 0) (hz : ∀ i, i < 16 → i ≠ s % 16 → ldW S.m (rtW S.m t (s / 16) + i * 16) = 0)
 (hl : rtW S.m t (s / 16) = pn * 1024 + 64 + i0 * 256) (g : GaveP top S 7 pn i0 L') {S' : PS} (h2 : S'.C = updN S.C 7 L') (hm : S'.m = stWs (stWs S.m (rtW S.m t (s / 16) + s % 16 * 16) [0, 0]) (t + s / 16 * 8) [0]) :
 TI top S' t ∧ rtW S'.m t (s / 16) = 0 ∧ (∀ j, j < 16 → j ≠ s / 16 → rtW S'.m t j = rtW S.m t j) ∧ enA S'.m t s = 0 ∧ ∀ r, r < 256 → r ≠ s → enA S'.m t r = enA S.m t r ∧ (enA S.m t r ≠ 0 → enB S'.m t r = enB S.m t r) := by
 have hq : s / 16 < 16 := by omega
 have hlt : ∀ j, j < 16 → rtW S.m t j ≠ 0 → t + 128 ≤ rtW S.m t j ∨ rtW S.m t j + 256 ≤ t := fun j hj hj0 => Plc.apart hP c2 c7 h.tk (h.lf j hj hj0) (.inl (by decide))
 have hll : ∀ j, j < 16 → j ≠ s / 16 → rtW S.m t j ≠ 0 → rtW S.m t j + 256 ≤ rtW S.m t (s / 16) ∨ rtW S.m t (s / 16) + 256 ≤ rtW S.m t j := fun j hj hne hj0 => Plc.apart hP c7 c7 (h.lf j hj hj0) (h.lf _ hq h0) (.inr (h.nd j _ hj hq hne hj0))
 have hl0 := hlt _ hq h0
 have hrt : ∀ j, j < 16 → j ≠ s / 16 → rtW S'.m t j = rtW S.m t j := fun j hj hne => by
  rw [rtW, hm, w1_ne (by omega), w2_ne (by omega)]; rfl
 have hrs : rtW S'.m t (s / 16) = 0 := by rw [rtW, hm, w1_a (by omega)]
 have hw : ∀ j i, j < 16 → j ≠ s / 16 → i < 16 → rtW S.m t j ≠ 0 → ldW S'.m (rtW S.m t j + i * 16) = ldW S.m (rtW S.m t j + i * 16) ∧ ldW S'.m (rtW S.m t j + i * 16 + 8) = ldW S.m (rtW S.m t j + i * 16 + 8) := fun j i hj hne hi hj0 => by
  have g1 := hll j hj hne hj0
  have g2 := hlt j hj hj0
  rw [hm]
  exact ⟨by rw [w1_ne (by omega), w2_ne (by omega)], by rw [w1_ne (by omega), w2_ne (by omega)]⟩
 refine ⟨⟨by rw [h2]; exact g.plc hP c7 h.tk (.inl (by decide)), fun j hj hj0 => ?_, fun j k hj hk hne hj0 => ?_, fun j hj hj0 => ?_⟩, hrs, hrt, by rw [enA, if_pos hrs], fun r hr hne => ?_⟩
 ·have e : j ≠ s / 16 := fun e => by subst e; exact hj0 hrs
  rw [hrt j hj e] at hj0 ⊢
  rw [h2]
  exact g.plc hP c7 (h.lf j hj hj0) (.inr fun e3 => h.nd j _ hj hq e hj0 (by rw [hl]; exact e3))
 ·have e : j ≠ s / 16 := fun e => by subst e; exact hj0 hrs
  rw [hrt j hj e] at hj0 ⊢
  by_cases e3 : k = s / 16
  ·subst e3; rw [hrs]; exact hj0
  ·rw [hrt k hk e3]; exact h.nd j k hj hk hne hj0
 ·have e : j ≠ s / 16 := fun e => by subst e; exact hj0 hrs
  rw [hrt j hj e] at hj0 ⊢
  obtain ⟨i, hi, h9⟩ := h.ne j hj hj0
  exact ⟨i, hi, by rw [(hw j i hj e hi hj0).1]; exact h9⟩
 ·have hrq : r / 16 < 16 := by omega
  rw [enA, enA, enB, enB]
  by_cases e : r / 16 = s / 16
  ·have hzr := hz (r % 16) (by omega) (by omega)
   rw [e, if_pos hrs, if_neg h0, hzr]; exact ⟨rfl, fun h => absurd rfl h⟩
  ·rw [hrt _ hrq e]
   by_cases hr0 : rtW S.m t (r / 16) = 0
   ·rw [if_pos hr0, if_pos hr0, if_pos hr0, if_pos hr0]; exact ⟨rfl, fun _ => rfl⟩
   ·rw [if_neg hr0, if_neg hr0, if_neg hr0, if_neg hr0]; exact ⟨(hw _ _ hrq e (by omega) hr0).1, fun _ => (hw _ _ hrq e (by omega) hr0).2⟩
theorem enA_old {m : Nat → Nat} {t s : Nat} (h : rtW m t (s / 16) ≠ 0) : enA m t s = ldW m (rtW m t (s / 16) + s % 16 * 16) ∧ enB m t s = ldW m (rtW m t (s / 16) + s % 16 * 16 + 8) := ⟨if_neg h, if_neg h⟩
theorem enA_new {m : Nat → Nat} {t s : Nat} (h : rtW m t (s / 16) = 0) : enA m t s = 0 ∧ enB m t s = 0 := ⟨if_pos h, if_pos h⟩
theorem GaveP.re {top : Nat} {S S' : PS} {c pn i : Nat} {L' : List Pg} (g : GaveP top S c pn i L') (hC : S.C = S'.C := by rfl) (hF : S.Fr = S'.Fr := by rfl) : GaveP top S' c pn i L' := ⟨by rw [← hC]; exact g.gave, fun Q nx m => by rw [← hC, ← hF]; exact g.inv Q nx m⟩
theorem tat9_ok (pb top : Nat) (fac : Int) (t : Nat) (S : PS) (hP : PInv top S) (ht : Plc 128 (S.C 2) t) : FSpec Tryz.prog 91 [.pointer (some ⟨pb, 0, none⟩), .int .i64 fac, .int .i64 (t : Int)] GV [isPl pb top S] (fun tb : Nat => .pointer (some ⟨tb, 0, none⟩)) (fun _ => True) (fun tb => [pts tb 285 [.pointer (some ⟨pb, 0, none⟩), .int .i64 fac, .int .i64 (t : Int)], isPl pb top S]) := by
 refine fI Tryz.func91 Tryz.ntmps91 ?_
 intro F hF
 refine zz [39] ?_
 haveI : GVI F := ⟨hF⟩
 obtain ⟨k, pn, i, f, hk, hi, rfl⟩ := ht.at
 refine zz [0,1,24,2,0,0,1,6,3,5] ?_
 refine cl (plhas_ok pb top S 2 c2 k pn i f hk hi) rfl PkL.p GVI.gv ?_
 intro _ _
 refine zz [66,64,2,10,7,0,1,6,3,3,249,5] ?_
 refine bx (v := .agg #[_, _, _]) (l := [.pointer _, .int _ _, .int _ _]) rfl rfl ?_
 intro b1
 refine zz [24,2,11] ?_
 exact Ret.i b1 [_] ⟨rfl, trivial⟩ rfl trivial entS
theorem tget_ok (tb pb top : Nat) (fac : Int) (t : Nat) (S : PS) (hP : PInv top S) (hT : TI top S t) (s : Nat) (hs : s < 256) : FSpec Tryz.prog 93 [.pointer (some ⟨tb, 0, none⟩), .int .i64 (s : Int)] noRd [pts tb 285 [.pointer (some ⟨pb, 0, none⟩), .int .i64 fac, .int .i64 (t : Int)], isPl pb top S] (fun _ : Unit => .tuple #[.int .u64 (enA S.m t s : Int), .int .u64 (enB S.m t s : Int)]) (fun _ => True) (fun _ => [pts tb 285 [.pointer (some ⟨pb, 0, none⟩), .int .i64 fac, .int .i64 (t : Int)], isPl pb top S]) := by
 refine fI Tryz.func93 Tryz.ntmps93 ?_
 intro F _
 refine zz [44] ?_
 have htb := hT.bd hP
 have htp := hP.tp
 have htq : 2 ^ top ≤ 128 := Nat.pow_le_pow_right (n := 2) (by decide) htp.2
 have hq : s / 16 < 16 := by omega
 have hlt : ldW S.m (t + s / 16 * 8) < 1073741824 := by
  by_cases h0 : rtW S.m t (s / 16) = 0
  ·rw [show ldW S.m (t + s / 16 * 8) = 0 from h0]; decide
  ·have := hT.lbd hP hq h0; rw [show ldW S.m (t + s / 16 * 8) = rtW S.m t (s / 16) from rfl]; omega
 refine zz [0,1,4,4,2,0,0,1,6,34,20,32,59] ?_
 refine cl (tmay2_ok s hs) rfl (picked_nil _) trivial ?_
 intro _ _
 refine zz [43] ?_
 first | refine qg rfl rfl rfl (notD rfl) ?_ | refine qg rfl rfl rfl (notB rfl) ?_
 refine zz [19,20,85,32,59] ?_
 refine cl (tleaf_ok tb pb top fac t S s hs ⟨htb.2.2, by omega, htp.2⟩ hlt) rfl PkL.p trivial ?_
 intro _ _
 refine zz [43] ?_
 rw [show ldW S.m (t + s / 16 * 8) = rtW S.m t (s / 16) from rfl] at hlt ⊢
 refine zz [74,19,2] ?_
 first | refine TC.condD rfl (fun h0 => ?_) (fun h0 => ?_) | refine TC.cond rfl (fun h0 => ?_) (fun h0 => ?_)
 ·obtain ⟨e1, e2⟩ := enA_new (m := S.m) (t := t) (s := s) (by omega)
  rw [e1, e2]
  refine zz [0,1,4,4,2,51] ?_
  exact zc3
 ·have h0 : rtW S.m t (s / 16) ≠ 0 := by omega
  obtain ⟨e1, e2⟩ := enA_old (m := S.m) h0
  have hlb := hT.lbd hP hq h0
  rw [e1, e2]
  refine zz [7,0,1,6,3,5] ?_
  refine cl (tleaf_ok tb pb top fac t S s hs ⟨htb.2.2, by omega, htp.2⟩ hlt) rfl PkL.p trivial ?_
  intro _ _
  refine zz [43] ?_
  rw [show ldW S.m (t + s / 16 * 8) = rtW S.m t (s / 16) from rfl]
  refine zz [3,5] ?_
  refine cl (tspot_ok (rtW S.m t (s / 16)) s hs (by omega)) rfl (picked_nil _) trivial ?_
  intro _ _
  refine zz [43,4,2,0,1,6,3,5] ?_
  refine cl (tword_ok tb pb top fac t S (rtW S.m t (s / 16) + s % 16 * 16) (by omega) (by omega)) rfl PkL.p trivial ?_
  intro _ _
  refine zz [43,6,3] ?_
  refine q rfl rfl (OQ.to (v := ((rtW S.m t (s / 16) + s % 16 * 16 + 8 : Nat) : Int)) (addI rfl rfl (by omega) (by omega)) (by omega)) ?_
  refine e rfl ?_
  refine cl (tword_ok tb pb top fac t S (rtW S.m t (s / 16) + s % 16 * 16 + 8) (by omega) (by omega)) rfl PkL.p trivial ?_
  intro _ _
  refine zz [43,4,4,2,11] ?_
  exact zc3
theorem tset_old (tb pb top : Nat) (fac : Int) (t : Nat) (S : PS) (hP : PInv top S) (hT : TI top S t) (s : Nat) (hs : s < 256) (a b : Nat) (ha : a < 2 ^ 64) (hb : b < 2 ^ 64) (ha0 : a ≠ 0) (h0 : rtW S.m t (s / 16) ≠ 0) : FSpec Tryz.prog 94 [.pointer (some ⟨tb, 0, none⟩), .int .i64 (s : Int), .int .u64 (a : Int), .int .u64 (b : Int)] noRd [pts tb 285 [.pointer (some ⟨pb, 0, none⟩), .int .i64 fac, .int .i64 (t : Int)], isPl pb top S] (fun _ : Unit => .int .i64 0) (fun _ => True) (fun _ => [pts tb 285 [.pointer (some ⟨pb, 0, none⟩), .int .i64 fac, .int .i64 (t : Int)], isPl pb top ⟨S.Q, S.nx, S.C, S.Fr, stWs S.m (rtW S.m t (s / 16) + s % 16 * 16) [a, b]⟩]) := by
 refine fI Tryz.func94 Tryz.ntmps94 ?_
 intro F _
 refine zz [44] ?_
 have htb := hT.bd hP
 have htp := hP.tp
 have htq : 2 ^ top ≤ 128 := Nat.pow_le_pow_right (n := 2) (by decide) htp.2
 have hq : s / 16 < 16 := by omega
 have hlb := hT.lbd hP hq h0
 have hlt : ldW S.m (t + s / 16 * 8) < 1073741824 := by rw [show ldW S.m (t + s / 16 * 8) = rtW S.m t (s / 16) from rfl]; omega
 refine zz [0,1,4,2,0,17,0,1,6,34,9,2,10,0,1,3,5] ?_
 refine cl (tmay2_ok s hs) rfl (picked_nil _) trivial ?_
 intro _ _
 refine zz [43,64,9,2,10,0,1,3,30,9,2] ?_
 refine TC.condD rfl (fun hc1 => absurd hc1 (by omega)) (fun hc1 => ?_)
 refine zz [42,0,1,6,3,5] ?_
 refine cl (tleaf_ok tb pb top fac t S s hs ⟨htb.2.2, by omega, htp.2⟩ hlt) rfl PkL.p trivial ?_
 intro _ _
 refine zz [43] ?_
 rw [show ldW S.m (t + s / 16 * 8) = rtW S.m t (s / 16) from rfl]
 refine zz [4,2,0,0,1,3,30,2] ?_
 refine TC.condD rfl (fun hc2 => absurd hc2 (by omega)) (fun hc2 => ?_)
 refine TC.open 1 rfl (fun x0 hx0 => ?_)
 obtain ⟨tt, bd, ar, ca⟩ := x0
 have hP := hx0
 refine zz [104] ?_
 dsimp only at hP ⊢
 refine zz [7,0,1,6,13,14,12,5] ?_
 refine cl (plarena_ok pb tt bd ar ca) rfl PkL.p trivial ?_
 intro _ _
 refine zz [49,3,3,5] ?_
 refine cl (tspot_ok (rtW S.m t (s / 16)) s hs (by omega)) rfl (picked_nil _) trivial ?_
 intro _ _
 refine zz [49,3,3,5,114] ?_
 intro b2
 refine e rfl ?_
 refine cl (arstore_ok ar (1024 * 2 ^ top) (rtW S.m t (s / 16) + s % 16 * 16) S.m [a, b] (some ⟨b2, 0, none⟩) 2 (by omega) (by simp) (by simp only [List.length_cons, List.length_nil]; omega) (by omega) (by intro x hx; simp only [List.mem_cons, List.not_mem_nil, or_false] at hx; rcases hx with rfl | rfl <;> assumption)) rfl PkL.p ⟨_, RdSI.rd (ad := some ⟨b2, 0, none⟩)⟩ ?_
 intro _ _
 refine zz [53,4,2,11] ?_
 have hP2 : PInv top ⟨S.Q, S.nx, S.C, S.Fr, stWs S.m (rtW S.m t (s / 16) + s % 16 * 16) [a, b]⟩ := ⟨hP.tp, hP.ok, hP.one, hP.nd, hP.lt⟩
 exact Ret.i () [_] ⟨rfl, trivial⟩ rfl trivial (ent_take 6 rfl (ent_close (⟨tt, bd, ar, ca⟩ : PlRep) hP2 entS))
theorem tset_new (tb pb top : Nat) (fac : Int) (t : Nat) (S : PS) (hP : PInv top S) (hT : TI top S t) (s : Nat) (hs : s < 256) (a b : Nat) (ha : a < 2 ^ 64) (hb : b < 2 ^ 64) (ha0 : a ≠ 0) (h0 : rtW S.m t (s / 16) = 0) (hroom : (pgs S.C S.Fr).length < 2 ^ top) (hqc : (Qt.chargeQ S.Q fac (clsz 7 : Int)).2 = 0) : FSpec Tryz.prog 94 [.pointer (some ⟨tb, 0, none⟩), .int .i64 (s : Int), .int .u64 (a : Int), .int .u64 (b : Int)] GV [pts tb 285 [.pointer (some ⟨pb, 0, none⟩), .int .i64 fac, .int .i64 (t : Int)], isPl pb top S] (fun _ : Nat × Nat × List Pg => .int .i64 0) (fun y => GotP top S 7 y) (fun y => [pts tb 285 [.pointer (some ⟨pb, 0, none⟩), .int .i64 fac, .int .i64 (t : Int)], isPl pb top ⟨(Qt.chargeQ S.Q fac (clsz 7 : Int)).1, S.nx, updN S.C 7 y.2.2, S.Fr, stWs (stWs (zB S.m (addr 7 y) 256) (t + s / 16 * 8) [addr 7 y]) (addr 7 y + s % 16 * 16) [a, b]⟩]) := by
 refine fI Tryz.func94 Tryz.ntmps94 ?_
 intro F hF
 refine zz [44] ?_
 haveI : GVI F := ⟨hF⟩
 have htb := hT.bd hP
 have htp := hP.tp
 have htq : 2 ^ top ≤ 128 := Nat.pow_le_pow_right (n := 2) (by decide) htp.2
 have hq : s / 16 < 16 := by omega
 have hlt : ldW S.m (t + s / 16 * 8) < 1073741824 := by rw [show ldW S.m (t + s / 16 * 8) = 0 from h0]; decide
 refine zz [0,1,4,2,0,17,0,1,6,34,9,2,10,0,1,3,5] ?_
 refine cl (tmay2_ok s hs) rfl (picked_nil _) trivial ?_
 intro _ _
 refine zz [43,64,9,2,10,0,1,3,30,9,2] ?_
 refine TC.condD rfl (fun hc3 => absurd hc3 (by omega)) (fun hc3 => ?_)
 refine zz [42,0,1,6,3,5] ?_
 refine cl (tleaf_ok tb pb top fac t S s hs ⟨htb.2.2, by omega, htp.2⟩ hlt) rfl PkL.p trivial ?_
 intro _ _
 refine zz [43] ?_
 rw [show ldW S.m (t + s / 16 * 8) = 0 from h0]
 refine zz [4,2,0,0,1,3,30,2,40,0] ?_
 refine TC.draw _ [] [(0, false), (1, false), (2, false), (3, false), (4, false), (5, false), (6, false), (7, false), (8, true), (9, false), (10, false), (11, false), (12, false), (13, false)] (by kernel_rfl) (by kernel_rfl) (ent_take 0 rfl (ent_nil _)) ?_
 refine zz [28,31,25,18,28,31,60,18,16] ?_
 refine cl (plget_ok pb top S fac 7 c7 hroom hqc) rfl PkL.p GVI.gv ?_
 intro y hG
 refine zz [115,8] ?_
 have hnew : Plc 256 (updN S.C 7 y.2.2 7) (addr 7 y) := (hG.plc c7).2 (.inr ⟨rfl, rfl⟩)
 have hbn := Plc.bd (hG.inv (Qt.chargeQ S.Q fac (clsz 7 : Int)).1 S.nx (zB S.m (addr 7 y) 256)) c7 hnew
 have e7 : clsz 7 = 256 := rfl
 rw [e7] at hbn
 rw [show y.1 * 1024 + 64 + y.2.1 * clsz 7 = addr 7 y from rfl, e7]
 have hP2 := hG.inv (Qt.chargeQ S.Q fac (clsz 7 : Int)).1 S.nx (zB S.m (addr 7 y) 256)
 have hPf := fun mm => hG.inv (Qt.chargeQ S.Q fac (clsz 7 : Int)).1 S.nx mm
 generalize hA : addr 7 y = AA at *
 refine zz [83,55,55,41,41,27,0,0,1,3,23,2,10,7,0,1,3,4,2,1,6,13,14,12] ?_
 refine TL.open 0 rfl (fun x0 hx0 => ?_)
 obtain ⟨tt, bd, ar, ca⟩ := x0
 have hPx := hx0
 refine zz [49] ?_
 dsimp only at hPx ⊢
 refine e rfl ?_
 refine cl (plarena_ok pb tt bd ar ca) rfl PkL.p trivial ?_
 intro _ _
 refine zz [49,6,3,5] ?_
 refine cl (troot_ok tb pb fac t s hs (by omega)) rfl PkL.p trivial ?_
 intro _ _
 refine zz [49,3,131,5,72] ?_
 intro b3
 refine e rfl ?_
 refine cl (arstore_ok ar (1024 * 2 ^ top) (t + s / 16 * 8) (zB S.m AA 256) [AA] (some ⟨b3, 0, none⟩) 1 (by omega) (by simp) (by simp only [List.length_cons, List.length_nil]; omega) (by omega) (by intro x hx; simp only [List.mem_cons, List.not_mem_nil, or_false] at hx; subst hx; omega)) rfl PkL.p ⟨_, RdSI.rd (ad := some ⟨b3, 0, none⟩)⟩ ?_
 intro _ _
 refine zz [53,2,0,1,6,13,14,12,5] ?_
 refine cl (plarena_ok pb tt bd ar ca) rfl PkL.p trivial ?_
 intro _ _
 refine zz [53,3,3,5] ?_
 refine cl (tspot_ok AA s hs (by omega)) rfl (picked_nil _) trivial ?_
 intro _ _
 refine zz [53,3,3,5,114] ?_
 intro b4
 refine e rfl ?_
 refine cl (arstore_ok ar (1024 * 2 ^ top) (AA + s % 16 * 16) (stWs (zB S.m AA 256) (t + s / 16 * 8) [AA]) [a, b] (some ⟨b4, 0, none⟩) 2 (by omega) (by simp) (by simp only [List.length_cons, List.length_nil]; omega) (by omega) (by intro x hx; simp only [List.mem_cons, List.not_mem_nil, or_false] at hx; rcases hx with rfl | rfl <;> assumption)) rfl PkL.p ⟨_, RdSI.rd (ad := some ⟨b4, 0, none⟩)⟩ ?_
 intro _ _
 refine zz [45,4,2,11] ?_
 exact Ret.i y [_] ⟨rfl, trivial⟩ rfl hG (by subst hA; exact (ent_take 4 rfl (ent_close (⟨tt, bd, ar, ca⟩ : PlRep) (hPf _) entS)))
theorem tempty_ok (tb pb top : Nat) (fac : Int) (t : Nat) (S : PS) (l : Nat) (hl : l + 256 ≤ 1024 * 2 ^ top) (hl8 : l % 8 = 0) (htp : top ≤ 7) (em : Bool) (he : em = true ↔ ∀ i, i < 16 → ldW S.m (l + i * 16) = 0) : FSpec Tryz.prog 186 [.pointer (some ⟨tb, 0, none⟩), .int .i64 (l : Int)] noRd [pts tb 285 [.pointer (some ⟨pb, 0, none⟩), .int .i64 fac, .int .i64 (t : Int)], isPl pb top S] (fun _ : Unit => .bool em) (fun _ => True) (fun _ => [pts tb 285 [.pointer (some ⟨pb, 0, none⟩), .int .i64 fac, .int .i64 (t : Int)], isPl pb top S]) := by
 refine fI Tryz.func186 Tryz.ntmps186 ?_
 intro F _
 refine zz [44] ?_
 have htq : 2 ^ top ≤ 128 := Nat.pow_le_pow_right (n := 2) (by decide) htp
 refine zz [0,1,9,2,0,0,1,3,2,17] ?_
 refine TC.loop (ι := Nat) (fun i => i ≤ 16 ∧ ∀ j, j < i → ldW S.m (l + j * 16) = 0) (fun i => [(0, .pointer (some ⟨tb, 0, none⟩)), (1, .int .i64 (l : Int)), (6, .int .i64 ((i : Nat) : Int))]) (fun i => sepL [pts tb 285 [.pointer (some ⟨pb, 0, none⟩), .int .i64 fac, .int .i64 (t : Int)], isPl pb top S, F]) (fun i => 16 - i) 0 ⟨by omega, fun j h => by omega⟩ ⟨rfl, rfl, rfl, trivial⟩ (ent_take 0 rfl (ent_take 0 rfl (ent_take 0 rfl (ent_nil _)))) ?_
 rintro i ⟨hi, hz⟩ ρ0
 dsimp only [updL] at hi hz ⊢
 refine zz [0,1,38,2,0] ?_
 first | refine TC.condD rfl (fun hlt => ?_) (fun hlt => ?_) | refine TC.cond rfl (fun hlt => ?_) (fun hlt => ?_)
 ·have hi2 : i < 16 := by omega
  have e16 : i % 16 = i := Nat.mod_eq_of_lt hi2
  refine zz [7,0,17,0,1,3,4,2,0,1,6,3,3,5] ?_
  refine cl (tspot_ok l i (by omega) (by omega)) rfl (picked_nil _) trivial ?_
  intro _ _
  refine zz [43] ?_
  rw [e16]
  refine e rfl ?_
  refine cl (tword_ok tb pb top fac t S (l + i * 16) (by omega) (by omega)) rfl PkL.p trivial ?_
  intro _ _
  refine zz [43,23,2] ?_
  first | refine TC.condD rfl (fun h0 => ?_) (fun h0 => ?_) | refine TC.cond rfl (fun h0 => ?_) (fun h0 => ?_)
  ·have hv : em = false := by
    cases em with
    | false => rfl
    | true => exact absurd (by rw [he.1 rfl i hi2]; rfl) h0
   rw [hv]
   refine zz [0,1,9,2,143] ?_
   exact zc0
  ·have h0 : ldW S.m (l + i * 16) = 0 := by omega
   refine zz [42,1,36,3,2] ?_
   exact ⟨rfl, (i + 1), ⟨by omega, fun j hj => by
    by_cases e2 : j = i
    ·subst e2; exact h0
    ·exact hz j (by omega)⟩, (by omega), ⟨rfl, rfl, rfl, trivial⟩, entS⟩
 ·obtain rfl : i = 16 := by omega
  rw [he.2 hz]
  refine zz [50,0,1,9,2,11] ?_
  exact zc0
theorem tclear_stay (tb pb top : Nat) (fac : Int) (t : Nat) (S : PS) (hP : PInv top S) (hT : TI top S t) (s : Nat) (hs : s < 256) (h0 : rtW S.m t (s / 16) ≠ 0) (ha0 : enA S.m t s ≠ 0) (hz : ∃ i, i < 16 ∧ i ≠ s % 16 ∧ ldW S.m (rtW S.m t (s / 16) + i * 16) ≠ 0) : FSpec Tryz.prog 138 [.pointer (some ⟨tb, 0, none⟩), .int .i64 (s : Int)] GV [pts tb 285 [.pointer (some ⟨pb, 0, none⟩), .int .i64 fac, .int .i64 (t : Int)], isPl pb top S] (fun _ : Unit => .int .i64 0) (fun _ => True) (fun _ => [pts tb 285 [.pointer (some ⟨pb, 0, none⟩), .int .i64 fac, .int .i64 (t : Int)], isPl pb top ⟨S.Q, S.nx, S.C, S.Fr, (stWs S.m (rtW S.m t (s / 16) + s % 16 * 16) [0, 0])⟩]) := by
 refine fI Tryz.func138 Tryz.ntmps138 ?_
 intro F hF
 refine zz [44] ?_
 haveI : GVI F := ⟨hF⟩
 have htb := hT.bd hP
 have htp := hP.tp
 have htq : 2 ^ top ≤ 128 := Nat.pow_le_pow_right (n := 2) (by decide) htp.2
 have hq : s / 16 < 16 := by omega
 have hlb := hT.lbd hP hq h0
 have hlt : ldW S.m (t + s / 16 * 8) < 1073741824 := by rw [show ldW S.m (t + s / 16 * 8) = rtW S.m t (s / 16) from rfl]; omega
 have hPf : ∀ mm, PInv top ⟨S.Q, S.nx, S.C, S.Fr, mm⟩ := fun mm => ⟨hP.tp, hP.ok, hP.one, hP.nd, hP.lt⟩
 refine zz [0,1,4,2,0,0,1,6,3,5] ?_
 refine cl (tget_ok tb pb top fac t S hP hT s hs) rfl PkL.p trivial ?_
 intro _ _
 refine zz [43,26,15,15,4,4,2,17,0,1,6,34,9,2,10,0,1,3,5] ?_
 refine cl (tmay2_ok s hs) rfl (picked_nil _) trivial ?_
 intro _ _
 refine zz [43,64,9,2,10,0,1,3,30,9,2] ?_
 refine TC.condD rfl (fun hc4 => absurd hc4 (by omega)) (fun hc4 => ?_)
 refine zz [42,0,1,6,3,5] ?_
 refine cl (tleaf_ok tb pb top fac t S s hs ⟨htb.2.2, by omega, htp.2⟩ hlt) rfl PkL.p trivial ?_
 intro _ _
 refine zz [43] ?_
 rw [show ldW S.m (t + s / 16 * 8) = rtW S.m t (s / 16) from rfl]
 refine TL.open 1 rfl (fun x0 hx0 => ?_)
 obtain ⟨tt, bd, ar, ca⟩ := x0
 have hP := hx0
 refine zz [49] ?_
 dsimp only at hP ⊢
 refine zz [4,2,0,1,6,13,14,12,5] ?_
 refine cl (plarena_ok pb tt bd ar ca) rfl PkL.p trivial ?_
 intro _ _
 refine zz [49,3,3,5] ?_
 refine cl (tspot_ok (rtW S.m t (s / 16)) s hs (by omega)) rfl (picked_nil _) trivial ?_
 intro _ _
 refine zz [49,5,114] ?_
 intro b5
 refine e rfl ?_
 refine cl (arstore_ok ar (1024 * 2 ^ top) (rtW S.m t (s / 16) + s % 16 * 16) S.m [0, 0] (some ⟨b5, 0, none⟩) 2 (by omega) (by simp) (by simp only [List.length_cons, List.length_nil]; omega) (by omega) (by intro x hx; simp only [List.mem_cons, List.not_mem_nil, or_false] at hx; rcases hx with rfl | rfl <;> decide)) rfl PkL.p ⟨_, RdSI.rd (ad := some ⟨b5, 0, none⟩)⟩ ?_
 intro _ _
 refine zz [53,2,0,0,1,6,3] ?_
 refine TL.weak (B := sepL [pts tb 285 [.pointer (some ⟨pb, 0, none⟩), .int .i64 fac, .int .i64 (t : Int)], isPl pb top ⟨S.Q, S.nx, S.C, S.Fr, (stWs S.m (rtW S.m t (s / 16) + s % 16 * 16) [0, 0])⟩, F]) (ent_take 6 rfl (ent_close (⟨tt, bd, ar, ca⟩ : PlRep) (hPf _) entS)) ?_
 have hw : ∀ i, i < 16 → i ≠ s % 16 → ldW (stWs S.m (rtW S.m t (s / 16) + s % 16 * 16) [0, 0]) (rtW S.m t (s / 16) + i * 16) = ldW S.m (rtW S.m t (s / 16) + i * 16) := fun i hi hne => w2_ne (by omega)
 have hws : ldW (stWs S.m (rtW S.m t (s / 16) + s % 16 * 16) [0, 0]) (rtW S.m t (s / 16) + s % 16 * 16) = 0 := w2_a (by decide)
 have he : false = true ↔ ∀ i, i < 16 → ldW (stWs S.m (rtW S.m t (s / 16) + s % 16 * 16) [0, 0]) (rtW S.m t (s / 16) + i * 16) = 0 := ⟨fun h => (by cases h), fun h => by
  obtain ⟨i, hi, hne, h9⟩ := hz
  exact absurd (by rw [← hw i hi hne]; exact h i hi) h9⟩
 refine e rfl ?_
 refine cl (tempty_ok tb pb top fac t ⟨S.Q, S.nx, S.C, S.Fr, (stWs S.m (rtW S.m t (s / 16) + s % 16 * 16) [0, 0])⟩ (rtW S.m t (s / 16)) hlb.2.2 (by omega) htp.2 false he) rfl PkL.p trivial ?_
 intro _ _
 refine zz [43,2,10,7,0,1,4,2,11] ?_
 exact zc0
theorem tclear_gone (tb pb top : Nat) (fac : Int) (t : Nat) (S : PS) (hP : PInv top S) (hT : TI top S t) (s : Nat) (hs : s < 256) (h0 : rtW S.m t (s / 16) ≠ 0) (ha0 : enA S.m t s ≠ 0) (k pn i0 : Nat) (f : Nat → Bool) (hk : (S.C 7)[k]? = some ⟨pn, f⟩) (hi0 : f i0 = true) (hl0 : rtW S.m t (s / 16) = pn * 1024 + 64 + i0 * 256) (hz : ∀ i, i < 16 → i ≠ s % 16 → ldW S.m (rtW S.m t (s / 16) + i * 16) = 0) (hone : OneAt (960 / clsz 7) (S.C 7) pn) (hqr : (Qt.refundQ S.Q fac (clsz 7 : Int)).2 = 0) : FSpec Tryz.prog 138 [.pointer (some ⟨tb, 0, none⟩), .int .i64 (s : Int)] GV [pts tb 285 [.pointer (some ⟨pb, 0, none⟩), .int .i64 fac, .int .i64 (t : Int)], isPl pb top S] (fun _ : List Pg => .int .i64 0) (fun L' => GaveP top S 7 pn i0 L') (fun L' => [pts tb 285 [.pointer (some ⟨pb, 0, none⟩), .int .i64 fac, .int .i64 (t : Int)], isPl pb top ⟨(Qt.refundQ S.Q fac (clsz 7 : Int)).1, S.nx, updN S.C 7 L', S.Fr, (stWs (stWs S.m (rtW S.m t (s / 16) + s % 16 * 16) [0, 0]) (t + s / 16 * 8) [0])⟩]) := by
 refine fI Tryz.func138 Tryz.ntmps138 ?_
 intro F hF
 refine zz [44] ?_
 haveI : GVI F := ⟨hF⟩
 have htb := hT.bd hP
 have htp := hP.tp
 have htq : 2 ^ top ≤ 128 := Nat.pow_le_pow_right (n := 2) (by decide) htp.2
 have hq : s / 16 < 16 := by omega
 have hlb := hT.lbd hP hq h0
 have hlt : ldW S.m (t + s / 16 * 8) < 1073741824 := by rw [show ldW S.m (t + s / 16 * 8) = rtW S.m t (s / 16) from rfl]; omega
 have hPf : ∀ mm, PInv top ⟨S.Q, S.nx, S.C, S.Fr, mm⟩ := fun mm => ⟨hP.tp, hP.ok, hP.one, hP.nd, hP.lt⟩
 refine zz [0,1,4,2,0,0,1,6,3,5] ?_
 refine cl (tget_ok tb pb top fac t S hP hT s hs) rfl PkL.p trivial ?_
 intro _ _
 refine zz [43,26,15,15,4,4,2,17,0,1,6,34,9,2,10,0,1,3,5] ?_
 refine cl (tmay2_ok s hs) rfl (picked_nil _) trivial ?_
 intro _ _
 refine zz [43,64,9,2,10,0,1,3,30,9,2] ?_
 refine TC.condD rfl (fun hc5 => absurd hc5 (by omega)) (fun hc5 => ?_)
 refine zz [42,0,1,6,3,5] ?_
 refine cl (tleaf_ok tb pb top fac t S s hs ⟨htb.2.2, by omega, htp.2⟩ hlt) rfl PkL.p trivial ?_
 intro _ _
 refine zz [43] ?_
 rw [show ldW S.m (t + s / 16 * 8) = rtW S.m t (s / 16) from rfl]
 refine TL.open 1 rfl (fun x0 hx0 => ?_)
 obtain ⟨tt, bd, ar, ca⟩ := x0
 have hP := hx0
 refine zz [49] ?_
 dsimp only at hP ⊢
 refine zz [4,2,0,1,6,13,14,12,5] ?_
 refine cl (plarena_ok pb tt bd ar ca) rfl PkL.p trivial ?_
 intro _ _
 refine zz [49,3,3,5] ?_
 refine cl (tspot_ok (rtW S.m t (s / 16)) s hs (by omega)) rfl (picked_nil _) trivial ?_
 intro _ _
 refine zz [49,5,114] ?_
 intro b6
 refine e rfl ?_
 refine cl (arstore_ok ar (1024 * 2 ^ top) (rtW S.m t (s / 16) + s % 16 * 16) S.m [0, 0] (some ⟨b6, 0, none⟩) 2 (by omega) (by simp) (by simp only [List.length_cons, List.length_nil]; omega) (by omega) (by intro x hx; simp only [List.mem_cons, List.not_mem_nil, or_false] at hx; rcases hx with rfl | rfl <;> decide)) rfl PkL.p ⟨_, RdSI.rd (ad := some ⟨b6, 0, none⟩)⟩ ?_
 intro _ _
 refine zz [53,2,0,0,1,6,3] ?_
 refine TL.weak (B := sepL [pts tb 285 [.pointer (some ⟨pb, 0, none⟩), .int .i64 fac, .int .i64 (t : Int)], isPl pb top ⟨S.Q, S.nx, S.C, S.Fr, (stWs S.m (rtW S.m t (s / 16) + s % 16 * 16) [0, 0])⟩, F]) (ent_take 6 rfl (ent_close (⟨tt, bd, ar, ca⟩ : PlRep) (hPf _) entS)) ?_
 have hw : ∀ i, i < 16 → i ≠ s % 16 → ldW (stWs S.m (rtW S.m t (s / 16) + s % 16 * 16) [0, 0]) (rtW S.m t (s / 16) + i * 16) = ldW S.m (rtW S.m t (s / 16) + i * 16) := fun i hi hne => w2_ne (by omega)
 have hws : ldW (stWs S.m (rtW S.m t (s / 16) + s % 16 * 16) [0, 0]) (rtW S.m t (s / 16) + s % 16 * 16) = 0 := w2_a (by decide)
 have he : true = true ↔ ∀ i, i < 16 → ldW (stWs S.m (rtW S.m t (s / 16) + s % 16 * 16) [0, 0]) (rtW S.m t (s / 16) + i * 16) = 0 := ⟨fun _ i hi => by
  by_cases e : i = s % 16
  ·rw [e]; exact hws
  ·rw [hw i hi e]; exact hz i hi e, fun _ => rfl⟩
 refine e rfl ?_
 refine cl (tempty_ok tb pb top fac t ⟨S.Q, S.nx, S.C, S.Fr, (stWs S.m (rtW S.m t (s / 16) + s % 16 * 16) [0, 0])⟩ (rtW S.m t (s / 16)) hlb.2.2 (by omega) htp.2 true he) rfl PkL.p trivial ?_
 intro _ _
 refine zz [43,2,40] ?_
 refine TC.open 1 rfl (fun x0 hx0 => ?_)
 obtain ⟨tt, bd, ar, ca⟩ := x0
 have hP3 := hx0
 refine zz [104] ?_
 dsimp only at hP3 ⊢
 refine zz [0,1,6,13,14,12,5] ?_
 refine cl (plarena_ok pb tt bd ar ca) rfl PkL.p trivial ?_
 intro _ _
 refine zz [49,6,3,5] ?_
 refine cl (troot_ok tb pb fac t s hs (by omega)) rfl PkL.p trivial ?_
 intro _ _
 refine zz [49,5,72] ?_
 intro b7
 refine e rfl ?_
 refine cl (arstore_ok ar (1024 * 2 ^ top) (t + s / 16 * 8) (stWs S.m (rtW S.m t (s / 16) + s % 16 * 16) [0, 0]) [0] (some ⟨b7, 0, none⟩) 1 (by omega) (by simp) (by simp only [List.length_cons, List.length_nil]; omega) (by omega) (by intro x hx; simp only [List.mem_cons, List.not_mem_nil, or_false] at hx; subst hx; decide)) rfl PkL.p ⟨_, RdSI.rd (ad := some ⟨b7, 0, none⟩)⟩ ?_
 intro _ _
 refine zz [53,2] ?_
 refine TC.weak (B := sepL [pts tb 285 [.pointer (some ⟨pb, 0, none⟩), .int .i64 fac, .int .i64 (t : Int)], isPl pb top ⟨S.Q, S.nx, S.C, S.Fr, (stWs (stWs S.m (rtW S.m t (s / 16) + s % 16 * 16) [0, 0]) (t + s / 16 * 8) [0])⟩, F]) (ent_take 2 rfl (ent_close (⟨tt, bd, ar, ca⟩ : PlRep) (hPf _) entS)) ?_
 refine TC.draw _ [] [(0, false), (1, false), (2, false), (3, false), (4, false), (5, false), (6, false), (7, false), (8, false), (9, true)] (by kernel_rfl) (by kernel_rfl) (ent_take 0 rfl (ent_nil _)) ?_
 refine zz [28,31,25,18,28,31,60,18,33] ?_
 have e7 : clsz 7 = 256 := rfl
 refine de rfl rfl ?_
 refine cl (plput_ok pb top ⟨S.Q, S.nx, S.C, S.Fr, (stWs (stWs S.m (rtW S.m t (s / 16) + s % 16 * 16) [0, 0]) (t + s / 16 * 8) [0])⟩ 7 c7 k pn i0 f hk hi0 fac hqr hone) (congrArg (fun z : Nat => [Value.pointer (some ⟨pb, 0, none⟩), .int .i64 fac, .int .i64 7, .int .i64 ((z : Nat) : Int)]) hl0) PkL.p GVI.gv ?_
 intro L' hG
 refine zz [115,8,27,0,1,4,2,11] ?_
 exact Ret.i L' [_] ⟨rfl, trivial⟩ rfl hG.re entS
end Go.Proofs.YtnlgmaibhlicjaaGreatDoor
namespace Go.Proofs.YtnlgmaibhlicjaaGreatDoor.Hd
open Go Go.QM
structure Ob where
  k : Int
  a : Int
  f : Int
def Ob.l (o : Ob) : List Int := [o.k, o.a, o.f]
structure Pl where
  o : Ob
  st : Int
  age : Int
def zeroPl : Pl := ⟨⟨0, 0, 0⟩, 0, 0⟩
def placeC (p : Pl) : List Value := ints p.o.l ++ [.int .i64 p.st, .int .u32 p.age]
theorem placeC_sz (p : Pl) : (placeC p).length = 5 := rfl
def tabC (l : List Pl) : List Value := l.flatMap placeC
theorem tabC_length (l : List Pl) : (tabC l).length = l.length * 5 := flat_length placeC_sz l
theorem tabC_pos {l : List Pl} {i : Nat} {p : Pl} (h : l[i]? = some p) : 0 < (tabC l).length := by
 rw [tabC_length]; have := (List.getElem?_eq_some_iff.1 h).1; omega
structure OkT (l : List Pl) : Prop where
  n : l.length = 256
  age : ∀ p ∈ l, 0 ≤ p.age ∧ p.age ≤ 1048575
theorem OkT.at {l : List Pl} (h : OkT l) {i : Nat} (hi : i < 256) : ∃ p, l[i]? = some p ∧ 0 ≤ p.age ∧ p.age ≤ 1048575 := by
 have hl : i < l.length := by rw [h.n]; exact hi
 exact ⟨l[i], List.getElem?_eq_getElem hl, h.age _ (List.getElem_mem hl)⟩
theorem new_ok  : FSpec Tryz.prog 35 [] noRd [] (fun b : Nat => .pointer (some ⟨b, 0, none⟩)) (fun _ => True) (fun b => [slc 174 5 (some ⟨b, 0, none⟩) 256 256 (tabC (List.replicate 256 zeroPl))]) := by
 refine fI Tryz.func35 Tryz.ntmps35 ?_
 intro F _
 refine zz [37,0,1,24,2,0,1] ?_
 refine q rfl rfl (bld (cs := tabC (List.replicate 256 zeroPl)) (by kernel_rfl)) ?_
 refine e rfl ?_
 refine bx (v := .agg (List.toArray (tabC (List.replicate 256 zeroPl)))) (l := tabC (List.replicate 256 zeroPl)) rfl (by kernel_rfl) ?_
 intro b1
 refine zz [24,2,11] ?_
 exact Ret.i b1 [_] ⟨rfl, trivial⟩ rfl trivial (ent_takeW 0 rfl (slc_of_pts (by kernel_rfl) (by decide)) (ent_take 0 rfl (ent_nil _)))
theorem name_ok (b : Nat) (l : List Pl) (i : Nat) (p : Pl) (hi : l[i]? = some p) (hl : i < 256) (ha : 0 ≤ p.age ∧ p.age ≤ 16777215) : FSpec Tryz.prog 79 [.pointer (some ⟨b, 0, none⟩), .int .i64 (i : Int)] (fun F => ∃ E, RdS F E (some ⟨b, 0, none⟩) (tabC l)) [] (fun _ : Unit => .int .u32 (p.age * 256 + i)) (fun _ => True) (fun _ => []) := by
 refine fI Tryz.func79 Tryz.ntmps79 ?_
 intro F ⟨E, hF⟩
 refine zz [37] ?_
 haveI : RdSI F (some ⟨b, 0, none⟩) E (tabC l) := ⟨hF⟩
 refine zz [0,1,4,2,0,1,6,3,189,174,250] ?_
 refine q rfl rfl (faQ 4 rfl rfl) ?_
 first | refine q rfl rfl (ld rfl rfl rfl) ?_ | refine q rfl rfl (ldS rfl rfl (flat_ld placeC_sz hi 4 (by omega) rfl)) ?_ | refine q rfl rfl (ldS rfl rfl rfl) ?_
 refine q rfl rfl (shlR rfl rfl (by omega) (shl8_u32 (by omega) (by omega))) ?_
 refine zz [3,251] ?_
 refine q rfl rfl (orR rfl rfl (or8_u32 (by omega) (by omega) (by omega) (by omega))) ?_
 refine zz [4,2,11] ?_
 exact zc2
theorem put1_ok (p : Pl) : FSpec Tryz.prog 78 [.agg (placeC p).toArray] noRd [] (fun _ : Unit => .bool (decide (p.st = 0))) (fun _ => True) (fun _ => []) := by
 refine fI Tryz.func78 Tryz.ntmps78 ?_
 intro F _
 refine zz [37,0,1,5] ?_
 refine bx (v := .agg #[_, _, _, _, _]) (l := [.int _ _, .int _ _, .int _ _, .int _ _, .int _ _]) rfl rfl ?_
 intro b2
 refine zz [9,2,0,1,78,12,30,9,2,11] ?_
 exact Ret.i () [_] ⟨rfl, trivial⟩ rfl trivial (ent_take 1 rfl (ent_nil _))
end Go.Proofs.YtnlgmaibhlicjaaGreatDoor.Hd
namespace Go.Proofs.YtnlgmaibhlicjaaGreatDoor.Hd
open Go Go.QM
theorem indexFunc_ok (ad : Option Addr) (cap : Nat) (l : List Pl) (fc : FuncId) (lb : List Value) (pr : Pl → Bool) (rdc : HP → Prop) (hl : l.length ≤ 100000000) (hclo : ∀ t, FSpec Tryz.prog fc ([.agg (placeC t).toArray] ++ lb) rdc [] (fun _ : Unit => .bool (pr t)) (fun _ => True) (fun _ => [])) : FSpec Tryz.prog 77 [.slice ad l.length cap, .func (.func fc) #[] lb.toArray] (fun F => (∃ E, RdS F E ad (tabC l)) ∧ rdc (sepL [F])) [] (fun _ : Unit => .int .i64 (match l.findIdx? pr with | some i => (i : Int) | none => -1)) (fun _ => True) (fun _ => []) := by
 refine fI Tryz.func77 Tryz.ntmps77 ?_
 intro F ⟨⟨E, hF⟩, hFc⟩
 refine zz [37] ?_
 haveI : RdSI F ad E (tabC l) := ⟨hF⟩
 refine zz [0,1,4,2,0,0,1,29] ?_
 refine q rfl rfl (len 171 5 rfl rfl) ?_
 refine zz [3,2,17] ?_
 refine TC.loop (ι := Nat) (fun i => i ≤ l.length ∧ ∀ j t, j < i → l[j]? = some t → pr t = false) (fun i => [(0, .slice ad l.length cap), (1, .func (.func fc) #[] lb.toArray), (7, .int .i64 l.length), (8, .int .i64 i)]) (fun i => sepL [F]) (fun i => l.length - i) 0 ⟨Nat.zero_le _, by intro j t h; omega⟩ ⟨rfl, rfl, rfl, rfl, trivial⟩ (ent_take 0 rfl (ent_nil _)) ?_
 rintro k ⟨hinv, hno⟩ ρ0
 dsimp only [updL] at hinv hno ⊢
 refine zz [0,1,38,2,0] ?_
 first | refine TC.condD rfl (fun hlt => ?_) (fun hlt => ?_) | refine TC.cond rfl (fun hlt => ?_) (fun hlt => ?_)
 ·have hlt : k < l.length := by omega
  obtain ⟨t, hk⟩ : ∃ t, l[k]? = some t := ⟨l[k], List.getElem?_eq_getElem hlt⟩
  have hil := tabC_pos hk
  refine zz [7,0,17,0,1,3,4,2,0,1] ?_
  refine q rfl rfl (mv (v := .func (.func fc) #[] lb.toArray) rfl) ?_
  refine zz [29,3] ?_
  first | refine q rfl rfl (ixS 171 5 rfl rfl rfl (by omega) asm0) ?_ | refine q rfl rfl (ixJ 171 5 rfl rfl rfl (by omega) (by omega) asm0) ?_ | refine q rfl rfl (ix 171 5 rfl rfl rfl (by omega) (by omega) rfl) ?_
  first | refine q rfl rfl (ldN (vs := [_, _, _, _, _]) 5 rfl rfl rfl rfl) ?_ | refine q rfl rfl (ldSN (vs := [_, _, _, _, _]) 5 rfl rfl (flat_get_rec placeC_sz hk) rfl (by decide)) ?_ | refine q rfl rfl (ldSN (vs := [_, _, _, _, _]) 5 rfl rfl rfl rfl (by decide)) ?_
  refine e rfl ?_
  refine clC (hclo t) rfl rfl (picked_nil _) hFc ?_
  intro _ _
  refine zz [98,2] ?_
  cases hpr : pr t with
  | true => ?_
  | false => ?_
  ·refine zz [40,0,1,3,4,2,143] ?_
   have hf : l.findIdx? pr = some k := findIdx_at hk hpr hno
   exact Ret.i () [_] ⟨rfl, trivial⟩ (by rw [hf]; rfl) trivial entS
  ·refine zz [10,42,1,36,3,2] ?_
   exact ⟨rfl, (k + 1), ⟨by omega, fun j u hj hu => by rcases Nat.lt_succ_iff_lt_or_eq.1 hj with h | h; exact hno j u h hu; subst h; rw [hk] at hu; cases hu; exact hpr⟩, (by omega), ⟨rfl, rfl, rfl, rfl, trivial⟩, (ent_take 0 rfl (ent_nil _))⟩
 ·obtain rfl : k = l.length := by omega
  have hf : l.findIdx? pr = none := findIdx_no hno
  refine zz [50,0,1,4,2,11] ?_
  exact Ret.i () [_] ⟨rfl, trivial⟩ (by rw [hf]; rfl) trivial (ent_take 0 rfl (ent_nil _))
def lookL (l : List Pl) (h st : Int) : Option (Nat × Pl) := match l[(h % 256).toNat]? with
  | some p => if p.age * 256 + h % 256 = h ∧ p.st = st then some ((h % 256).toNat, p) else none
  | none => none
theorem lookL_some {l : List Pl} {h st : Int} {i : Nat} {p : Pl} (hh : 0 ≤ h) (e : lookL l h st = some (i, p)) : l[i]? = some p ∧ h = p.age * 256 + i ∧ i < 256 ∧ p.st = st := by
 unfold lookL at e
 split at e
 ·rename_i q hq
  split at e
  ·rename_i hc
   simp only [Option.some.injEq, Prod.mk.injEq] at e
   obtain ⟨rfl, rfl⟩ := e
   exact ⟨hq, by omega, by omega, hc.2⟩
  ·cases e
 ·cases e
theorem lookL_none {l : List Pl} {h st : Int} {p : Pl} (e : lookL l h st = none) (hp : l[(h % 256).toNat]? = some p) : ¬ (p.age * 256 + h % 256 = h ∧ p.st = st) := by
 unfold lookL at e
 rw [hp] at e
 simp only at e
 split at e
 ·cases e
 ·assumption
theorem at_yes (b : Nat) (l : List Pl) (i : Nat) (p : Pl) (h st : Int) (ho : OkT l) (h0 : 0 ≤ h) (hk : lookL l h st = some (i, p)) : FSpec Tryz.prog 132 [.pointer (some ⟨b, 0, none⟩), .int .u32 h, .int .i64 st] (fun F => ∃ E, RdS F E (some ⟨b, 0, none⟩) (tabC l)) [] (fun _ : Unit => .tuple #[pa (some ⟨b, 0, none⟩) (i * 5), .int .i64 0]) (fun _ => True) (fun _ => []) := by
 refine fI Tryz.func132 Tryz.ntmps132 ?_
 intro F ⟨E, hF⟩
 refine zz [37] ?_
 haveI : RdSI F (some ⟨b, 0, none⟩) E (tabC l) := ⟨hF⟩
 obtain ⟨hi, rfl, hl, rfl⟩ := lookL_some h0 hk
 have ha := ho.age p (List.mem_of_getElem? hi)
 refine zz [0,1,24,4,2,0,0,1,6,34,2,10,7,0,1,3] ?_
 refine q rfl rfl (andR rfl rfl (and8_u32 (by omega) (by omega))) ?_
 refine zz [149,4,2,0,0] ?_
 rw [show (p.age * 256 + (i : Int)) % 256 = (i : Int) from by omega]
 refine zz [1,6,3,5] ?_
 refine cl (name_ok b l i p hi hl (by omega)) rfl (picked_nil _) ⟨_, RdSI.rd⟩ ?_
 intro _ _
 refine zz [98,3,23,20] ?_
 refine TL.known 19 rfl (c := false) (decide_eq_false (by omega)) ?_
 refine zz [85,32,252] ?_
 refine qg rfl rfl rfl (faQ 0 rfl rfl) ?_
 refine zz [253] ?_
 refine qg rfl rfl rfl (faQ 3 rfl rfl) ?_
 first | refine qg rfl rfl rfl (ld rfl rfl rfl) ?_ | refine qg rfl rfl rfl (ldS rfl rfl (flat_ld placeC_sz hi 3 (by omega) rfl)) ?_ | refine qg rfl rfl rfl (ldS rfl rfl rfl) ?_
 refine zz [32,92,19,2] ?_
 refine TC.condD rfl (fun hc1 => absurd hc1 (by omega)) (fun hc1 => ?_)
 refine zz [7,0,1,6,3,189,174,250,24,4,2,11] ?_
 exact Ret.i () [_, _] ⟨rfl, rfl, trivial⟩ (congrArg (fun o => Value.tuple #[pa (some ⟨b, 0, none⟩) o, .int .i64 0]) (by omega)) trivial (ent_take 0 rfl (ent_nil _))
theorem at_no (b : Nat) (l : List Pl) (h st : Int) (ho : OkT l) (h0 : 0 ≤ h ∧ h ≤ 4294967295) (hk : lookL l h st = none) : FSpec Tryz.prog 132 [.pointer (some ⟨b, 0, none⟩), .int .u32 h, .int .i64 st] (fun F => ∃ E, RdS F E (some ⟨b, 0, none⟩) (tabC l)) [] (fun _ : Unit => .tuple #[.pointer none, .int .i64 8]) (fun _ => True) (fun _ => []) := by
 refine fI Tryz.func132 Tryz.ntmps132 ?_
 intro F ⟨E, hF⟩
 refine zz [37] ?_
 haveI : RdSI F (some ⟨b, 0, none⟩) E (tabC l) := ⟨hF⟩
 obtain ⟨i, hi0⟩ : ∃ i : Nat, h % 256 = i := ⟨(h % 256).toNat, by omega⟩
 have hl : i < 256 := by omega
 obtain ⟨p, hi, ha⟩ := ho.at hl
 have hno := lookL_none hk (show l[(h % 256).toNat]? = some p from by rw [hi0]; exact hi)
 refine zz [0,1,24,4,2,0,0,1,6,34,2,10,7,0,1,3] ?_
 refine q rfl rfl (andR rfl rfl (and8_u32 (by omega) (by omega))) ?_
 refine zz [149,4,2,0,0] ?_
 rw [hi0]
 refine zz [1,6,3,5] ?_
 refine cl (name_ok b l i p hi hl (by omega)) rfl (picked_nil _) ⟨_, RdSI.rd⟩ ?_
 intro _ _
 refine zz [98,3,23,20] ?_
 refine TL.split 19 rfl (fun hn => ?_) (fun hn => ?_)
 ·have hn := of_decide_eq_true hn
  refine zz [22,22,22,22,22,22,22,22,22,19,2,40,0,1,24,4,2,51] ?_
  exact zc10
 ·have hn := of_decide_eq_false hn
  refine zz [85,32,252] ?_
  refine qg rfl rfl rfl (faQ 0 rfl rfl) ?_
  refine zz [253] ?_
  refine qg rfl rfl rfl (faQ 3 rfl rfl) ?_
  first | refine qg rfl rfl rfl (ld rfl rfl rfl) ?_ | refine qg rfl rfl rfl (ldS rfl rfl (flat_ld placeC_sz hi 3 (by omega) rfl)) ?_ | refine qg rfl rfl rfl (ldS rfl rfl rfl) ?_
  refine zz [32,92,19,2] ?_
  refine TC.condD rfl (fun hc2 => ?_) (fun hc2 => absurd (by omega) hc2)
  refine zz [0,1,24,4,2,51] ?_
  exact zc10
def zeroOb : Ob := ⟨0, 0, 0⟩
def getR (l : List Pl) (h : Int) : Ob × Int := match lookL l h 1 with
  | some (_, p) => (p.o, 0)
  | none => (zeroOb, 8)
theorem get_ok (b : Nat) (l : List Pl) (h : Int) (ho : OkT l) (h0 : 0 ≤ h ∧ h ≤ 4294967295) : FSpec Tryz.prog 92 [.pointer (some ⟨b, 0, none⟩), .int .u32 h] (fun F => ∃ E, RdS F E (some ⟨b, 0, none⟩) (tabC l)) [] (fun _ : Unit => .tuple #[.agg (ints (getR l h).1.l).toArray, .int .i64 (getR l h).2]) (fun _ => True) (fun _ => []) := by
 refine fI Tryz.func92 Tryz.ntmps92 ?_
 intro F ⟨E, hF⟩
 refine zz [37] ?_
 haveI : RdSI F (some ⟨b, 0, none⟩) E (tabC l) := ⟨hF⟩
 refine zz [0,1,5] ?_
 refine al (l := ints [_, _, _]) rfl rfl ?_
 intro b1
 refine zz [4,2,0,1,6,3] ?_
 cases hk : lookL l h 1 with
 | none => ?_
 | some t => ?_
 ·have hR : getR l h = (zeroOb, 8) := by rw [getR, hk]
  refine e rfl ?_
  refine cl (at_no b l h 1 ho h0 hk) rfl (picked_nil _) ⟨_, RdSI.rd⟩ ?_
  intro _ _
  refine zz [66,26,79,15,24,4,2,0,0,1,3,23,2] ?_
  refine TC.condD rfl (fun hc3 => ?_) (fun hc3 => absurd (by decide) hc3)
  refine zz [0,1] ?_
  first | refine q rfl rfl (bld (cs := ints [_, _, _]) rfl) ?_ | refine q rfl rfl (bld (cs := [_, _, _]) rfl) ?_
  refine zz [3,21,140,4,2,51] ?_
  exact Ret.i () [_, _] ⟨(rcN (n := 3) rfl rfl rfl rfl), rfl, trivial⟩ (by rw [hR]; rfl) trivial (ent_take 1 rfl (ent_nil _))
 ·obtain ⟨i, p⟩ := t
  obtain ⟨hi, hh, hl, hst⟩ := lookL_some h0.1 hk
  have hR : getR l h = (p.o, 0) := by rw [getR, hk]
  refine e rfl ?_
  refine cl (at_yes b l i p h 1 ho h0.1 hk) rfl (picked_nil _) ⟨_, RdSI.rd⟩ ?_
  intro _ _
  refine zz [66,26,79,15,24,4,2,0,0,1,3,23,2] ?_
  refine TC.condD rfl (fun hc4 => absurd hc4 (by decide)) (fun hc4 => ?_)
  refine zz [7,0,1,6] ?_
  refine q rfl rfl (ncQ rfl) ?_
  refine zz [174] ?_
  first | refine q rfl rfl (ldN (vs := ints [_, _, _]) 3 rfl rfl rfl rfl) ?_ | refine q rfl rfl (ldSN (vs := ints [_, _, _]) 3 rfl rfl (flat_ldN placeC_sz hi 0 3 (by omega) (by omega) rfl) rfl (by decide)) ?_ | refine q rfl rfl (ldSN (vs := ints [_, _, _]) 3 rfl rfl rfl rfl (by decide)) ?_
  refine zz [21,140,4,2,11] ?_
  exact Ret.i () [_, _] ⟨(rcN (n := 3) rfl rfl rfl rfl), rfl, trivial⟩ (by rw [hR]; rfl) trivial (ent_take 1 rfl (ent_nil _))
end Go.Proofs.YtnlgmaibhlicjaaGreatDoor.Hd
namespace Go.Proofs.YtnlgmaibhlicjaaGreatDoor.Hd
open Go Go.QM
def isEmpty (p : Pl) : Bool := decide (p.st = 0)
def putR (l : List Pl) (o : Ob) : List Pl × Int × Int := match l.findIdx? isEmpty with
  | some i => match l[i]? with
    | some p => (l.set i ⟨o, 1, p.age⟩, p.age * 256 + i, 0)
    | none => (l, 0, 11)
  | none => (l, 0, 11)
theorem find_empty {l : List Pl} {i : Nat} (h : l.findIdx? isEmpty = some i) : ∃ p, l[i]? = some p ∧ p.st = 0 := by
 rw [List.findIdx?_eq_some_iff_getElem] at h
 obtain ⟨hl, hp, _⟩ := h
 exact ⟨l[i], List.getElem?_eq_getElem hl, by simpa [isEmpty] using hp⟩
theorem set_at {l : List Pl} {i : Nat} {p q : Pl} (h : l[i]? = some p) : (l.set i q)[i]? = some q := List.getElem?_set_self (List.getElem?_eq_some_iff.1 h).1
theorem OkT.lt {l : List Pl} (h : OkT l) {i : Nat} {p : Pl} (hi : l[i]? = some p) : i < 256 := by rw [← h.n]; exact (List.getElem?_eq_some_iff.1 hi).1
theorem put_ok (b : Nat) (l : List Pl) (o : Ob) (ho : OkT l) : FSpec Tryz.prog 38 [.pointer (some ⟨b, 0, none⟩), .agg (ints o.l).toArray] noRd [slc 174 5 (some ⟨b, 0, none⟩) 256 256 (tabC l)] (fun _ : Unit => .tuple #[.int .u32 (putR l o).2.1, .int .i64 (putR l o).2.2]) (fun _ => True) (fun _ => [slc 174 5 (some ⟨b, 0, none⟩) 256 256 (tabC (putR l o).1)]) := by
 refine fI Tryz.func38 Tryz.ntmps38 ?_
 intro F _
 refine zz [39] ?_
 have hln := ho.n
 refine zz [0,1,5] ?_
 refine bx (v := .agg (List.toArray (ints [_, _, _]))) (l := ints [_, _, _]) rfl rfl ?_
 intro b1
 refine zz [4,4,2,0,0,1,6,34,2,10,7,0,1,6,189,174] ?_
 refine q rfl rfl (slA 256 171 5 rfl rfl (by rfl)) ?_
 refine e rfl ?_
 refine cl (indexFunc_ok (some ⟨b, 0, none⟩) 256 l 78 [] isEmpty noRd (by omega) (fun t => put1_ok t)) (by rw [hln]; rfl) (picked_nil _) ⟨⟨_, RdSI.rd⟩, trivial⟩ ?_
 intro _ _
 refine zz [43] ?_
 cases hf : l.findIdx? isEmpty with
 | none => ?_
 | some i => ?_
 ·have hR : putR l o = (l, 0, 11) := by rw [putR, hf]
  rw [hR]
  dsimp only
  refine zz [4,2,0,0,1,3,38,2] ?_
  refine TC.condD rfl (fun hc1 => ?_) (fun hc1 => absurd (by decide) hc1)
  refine zz [0,1,4,4,2,51] ?_
  exact Ret.i () [_, _] ⟨rfl, rfl, trivial⟩ rfl trivial (ent_take 1 rfl (ent_take 1 rfl (ent_nil _)))
 ·obtain ⟨p, hi, hst⟩ := find_empty hf
  have hlt := ho.lt hi
  have ha := ho.age p (List.mem_of_getElem? hi)
  have hR : putR l o = (l.set i ⟨o, 1, p.age⟩, p.age * 256 + i, 0) := by rw [putR, hf]; simp only; rw [hi]
  rw [hR]
  dsimp only
  have hi2 := set_at (q := ⟨o, p.st, p.age⟩) hi
  have hi3 := set_at (q := ⟨o, 1, p.age⟩) hi
  refine zz [4,2,0,0,1,3,38,2] ?_
  refine TC.condD rfl (fun hc2 => absurd hc2 (by omega)) (fun hc2 => ?_)
  refine zz [7,0] ?_
  refine TC.draw _ [] [(0, false), (1, false), (2, false), (3, false), (4, false), (5, false), (6, false), (7, false), (8, false), (10, false), (11, false), (9, true), (12, false), (13, false), (14, true)] (by kernel_rfl) (by kernel_rfl) (ent_take 0 rfl (ent_take 1 rfl (ent_nil _))) ?_
  refine zz [28,33,28,33,236,254,216,255,216,254,216,61] ?_
  first | refine st (v := .agg (List.toArray (ints [_, _, _]))) (vs := ints [_, _, _]) 3 rfl rfl rfl rfl rfl rfl (Nat.le_of_ble_eq_true rfl) rfl ?_ | refine stS (v := .agg (List.toArray (ints [_, _, _]))) (vs := ints [_, _, _]) 3 rfl rfl rfl rfl rfl rfl (by decide) (by rw [flat_length placeC_sz]; omega) (flat_set (a' := ⟨o, p.st, p.age⟩) placeC_sz hi 0 (by omega) (Nat.le_of_ble_eq_true rfl) rfl) ?_ | refine stS (v := .agg (List.toArray (ints [_, _, _]))) (vs := ints [_, _, _]) 3 rfl rfl rfl rfl rfl rfl (by decide) (by rw [flat_length placeC_sz, List.length_set]; omega) (flat_set (a' := ⟨o, 1, p.age⟩) placeC_sz hi2 3 (by omega) (Nat.le_of_ble_eq_true rfl) rfl) ?_
  refine zz [8,255] ?_
  refine dq rfl rfl rfl (faQ 3 rfl rfl) ?_
  refine de0 rfl ?_
  first | refine st (v := .int _ _) (vs := [_]) 1 rfl rfl rfl rfl rfl rfl (Nat.le_of_ble_eq_true rfl) rfl ?_ | refine stS (v := .int _ _) (vs := [_]) 1 rfl rfl rfl rfl rfl rfl (by decide) (by rw [flat_length placeC_sz]; omega) (flat_set (a' := ⟨o, p.st, p.age⟩) placeC_sz hi 0 (by omega) (Nat.le_of_ble_eq_true rfl) rfl) ?_ | refine stS (v := .int _ _) (vs := [_]) 1 rfl rfl rfl rfl rfl rfl (by decide) (by rw [flat_length placeC_sz, List.length_set]; omega) (flat_set (a' := ⟨o, 1, p.age⟩) placeC_sz hi2 3 (by omega) (Nat.le_of_ble_eq_true rfl) rfl) ?_
  refine zz [8,27,0,1,6,3,5] ?_
  refine cl (name_ok b (l.set i ⟨o, 1, p.age⟩) i ⟨o, 1, p.age⟩ hi3 hlt (by dsimp only; omega)) rfl (picked_nil _) (by rw [List.set_set]; exact ⟨_, RdSI.rd⟩) ?_
  intro _ _
  refine zz [43,4,4,2,11] ?_
  exact Ret.i () [_, _] ⟨rfl, rfl, trivial⟩ rfl trivial (ent_takeE 0 rfl (by rw [List.set_set]; rfl) (ent_take 1 rfl (ent_nil _)))
def killR (l : List Pl) (h : Int) : List Pl × Int := match lookL l h 1 with
  | some (i, p) => (l.set i ⟨p.o, 2, p.age⟩, 0)
  | none => (l, 8)
theorem kill_ok (b : Nat) (l : List Pl) (h : Int) (ho : OkT l) (h0 : 0 ≤ h ∧ h ≤ 4294967295) : FSpec Tryz.prog 306 [.pointer (some ⟨b, 0, none⟩), .int .u32 h] noRd [slc 174 5 (some ⟨b, 0, none⟩) 256 256 (tabC l)] (fun _ : Unit => .int .i64 (killR l h).2) (fun _ => True) (fun _ => [slc 174 5 (some ⟨b, 0, none⟩) 256 256 (tabC (killR l h).1)]) := by
 refine fI Tryz.func306 Tryz.ntmps306 ?_
 intro F _
 refine zz [39,0,1,4,2,0,1,6,3] ?_
 cases hk : lookL l h 1 with
 | none => ?_
 | some t => ?_
 ·have hR : killR l h = (l, 8) := by rw [killR, hk]
  refine e rfl ?_
  refine cl (at_no b l h 1 ho h0 hk) rfl (picked_nil _) ⟨_, RdSI.rd⟩ ?_
  intro _ _
  refine zz [66] ?_
  rw [hR]
  dsimp only
  refine zz [26,79,15,24,4,2,0,0,1,3,30,2] ?_
  refine TC.condD rfl (fun hc3 => absurd hc3 (by decide)) (fun hc3 => ?_)
  refine zz [7,0,1,3,4,2,11] ?_
  exact zc1
 ·obtain ⟨i, p⟩ := t
  obtain ⟨hi, hh, hlt, hst⟩ := lookL_some h0.1 hk
  have hR : killR l h = (l.set i ⟨p.o, 2, p.age⟩, 0) := by rw [killR, hk]
  have ha := ho.age p (List.mem_of_getElem? hi)
  have hln := ho.n
  refine e rfl ?_
  refine cl (at_yes b l i p h 1 ho h0.1 hk) rfl (picked_nil _) ⟨_, RdSI.rd⟩ ?_
  intro _ _
  refine zz [66] ?_
  rw [hR]
  dsimp only
  refine zz [26,79,15,24,4,2,0,0,1,3,30,2] ?_
  refine TC.condD rfl (fun hc4 => ?_) (fun hc4 => absurd (by decide) hc4)
  refine zz [1,6] ?_
  refine q rfl rfl (ncQ rfl) ?_
  refine q rfl rfl (faQ 3 rfl rfl) ?_
  refine e0 ?_
  first | refine st (v := .int _ _) (vs := [_]) 1 rfl rfl rfl rfl rfl rfl (Nat.le_of_ble_eq_true rfl) rfl ?_ | refine stS (v := .int _ _) (vs := [_]) 1 rfl rfl rfl rfl rfl rfl (by decide) (by rw [flat_length placeC_sz]; omega) (flat_set (a' := ⟨p.o, 2, p.age⟩) placeC_sz hi 3 (by omega) (Nat.le_of_ble_eq_true rfl) rfl) ?_
  refine zz [2,0,1,3,4,2,11] ?_
  exact zc1
end Go.Proofs.YtnlgmaibhlicjaaGreatDoor.Hd
namespace Go.Proofs.YtnlgmaibhlicjaaGreatDoor.Hd
open Go Go.QM
def allT (s : Int) (z : List (Pl × Nat)) : List Int := (z.filter fun t => decide (t.1.st = s)).map fun t => t.1.age * 256 + (t.2 : Int)
def allL (l : List Pl) (s : Int) : List Int := allT s l.zipIdx
theorem allT_snoc (s : Int) (z : List (Pl × Nat)) (t : Pl × Nat) : allT s (z ++ [t]) = if t.1.st = s then allT s z ++ [t.1.age * 256 + (t.2 : Int)] else allT s z := by
 rw [allT, allT, List.filter_append]
 split
 ·rename_i h; simp [h]
 ·rename_i h; simp [h]
theorem zip_take {l : List Pl} {k : Nat} {p : Pl} (h : l[k]? = some p) : l.zipIdx.take (k + 1) = l.zipIdx.take k ++ [(p, k)] := by
 rw [List.take_add_one, List.getElem?_zipIdx, h]; simp
theorem allT_le (s : Int) (z : List (Pl × Nat)) : (allT s z).length ≤ z.length := by rw [allT, List.length_map]; exact List.length_filter_le _ _
theorem all_ok (b : Nat) (l : List Pl) (s : Int) (ho : OkT l) : FSpec Tryz.prog 128 [.pointer (some ⟨b, 0, none⟩), .int .i64 s] (fun F => ∃ E, RdS F E (some ⟨b, 0, none⟩) (tabC l)) [] (fun y : Option Addr × Nat => .slice y.1 (allL l s).length y.2) (fun _ => True) (fun y => [slc 56 1 y.1 (allL l s).length y.2 (nums .u32 (allL l s))]) := by
 refine fI Tryz.func128 Tryz.ntmps128 ?_
 intro F ⟨E, hF⟩
 refine zz [37] ?_
 haveI : RdSI F (some ⟨b, 0, none⟩) E (tabC l) := ⟨hF⟩
 have hln := ho.n
 have hlc : (tabC l).length = 1280 := by rw [tabC_length, hln]
 refine zz [0,1,35,2,0,1,35,2,0,0,1,6,34,2,10,7,0,0,1,6,189,174] ?_
 refine q rfl rfl (ldSN (vs := _) 1280 rfl rfl (by rw [List.drop_zero, ← hlc]; exact List.take_length) hlc (by decide)) ?_
 refine zz [3,2,17] ?_
 refine TC.loop (ι := Nat × Option Addr × Nat) (fun i => i.1 ≤ 256) (fun i => [(0, .pointer (some ⟨b, 0, none⟩)), (1, .int .i64 s), (5, .slice i.2.1 (allT s (l.zipIdx.take i.1)).length i.2.2), (13, .agg (tabC l).toArray), (14, .int .i64 ((i.1 : Nat) : Int))]) (fun i => sepL [slc 56 1 i.2.1 (allT s (l.zipIdx.take i.1)).length i.2.2 (nums .u32 (allT s (l.zipIdx.take i.1))), F]) (fun i => 256 - i.1) ⟨0, none, 0⟩ (Nat.zero_le _) ⟨rfl, rfl, rfl, rfl, rfl, trivial⟩ ((slc_nil 56 1 _).trans (ent_takeE 0 rfl (by rfl) (ent_take 0 rfl (ent_nil _)))) ?_
 rintro ⟨k, ad, cap⟩ hinv ρ0
 dsimp only [updL] at hinv ⊢
 refine zz [0,1,38,2,0] ?_
 first | refine TC.condD rfl (fun hlt => ?_) (fun hlt => ?_) | refine TC.cond rfl (fun hlt => ?_) (fun hlt => ?_)
 ·have hlt : k < 256 := by omega
  obtain ⟨p, hi, ha⟩ := ho.at hlt
  have hzt := zip_take hi
  have hle := allT_le s (l.zipIdx.take k)
  rw [List.length_take] at hle
  refine zz [7,0,17,0,1,3] ?_
  first | refine q rfl rfl (idA 256 171 5 rfl rfl rfl rfl (by omega) (by omega) (flat_ldN placeC_sz hi 0 5 (by omega) (by omega) rfl)) ?_ | refine q rfl rfl (idA 256 171 5 rfl rfl rfl rfl (by omega) (by omega) rfl) ?_
  refine e rfl ?_
  refine al (l := [.int _ _, .int _ _, .int _ _, .int _ _, .int _ _]) rfl rfl ?_
  intro b1
  refine zz [4,21] ?_
  refine st (v := .agg #[_, _, _, _, _]) (vs := [_, _, _, _, _]) 5 rfl rfl rfl rfl rfl rfl (Nat.le_of_ble_eq_true rfl) rfl ?_
  refine zz [2,0,1,78,12,3,30,2] ?_
  first | refine TC.condD rfl (fun hst => ?_) (fun hst => ?_) | refine TC.cond rfl (fun hst => ?_) (fun hst => ?_)
  ·refine zz [1,29,6,3,5] ?_
   refine cl (name_ok b l k p hi hlt (by omega)) rfl (picked_nil _) ⟨_, RdSI.rd⟩ ?_
   intro _ _
   refine zz [43,5,72] ?_
   intro b2
   refine zz [5,175] ?_
   intro ad1 cap1
   refine zz [35,63,1,36,3,2] ?_
   exact ⟨rfl, ⟨k + 1, ad1, cap1⟩, (by dsimp only; omega), (by dsimp only; omega), ⟨rfl, rfl, congrArg (fun n => Value.slice _ n _) (by rw [hzt, allT_snoc, if_pos hst]; simp), rfl, rfl, trivial⟩, (ent_takeE 0 rfl (by rw [hzt, allT_snoc, if_pos hst]; simp [nums]) (ent_take 2 rfl (ent_nil _)))⟩
  ·refine zz [42,1,36,3,2] ?_
   exact ⟨rfl, ⟨k + 1, ad, cap⟩, (by dsimp only; omega), (by dsimp only; omega), ⟨rfl, rfl, congrArg (fun n => Value.slice _ n _) (by rw [hzt, allT_snoc, if_neg hst]), rfl, rfl, trivial⟩, (ent_takeE 1 rfl (by rw [hzt, allT_snoc, if_neg hst]) (ent_take 1 rfl (ent_nil _)))⟩
 ·obtain rfl : k = 256 := by omega
  rw [List.take_of_length_le (by rw [List.length_zipIdx]; omega)]
  refine zz [50,0,1,29,35,2,11] ?_
  exact Ret.i ⟨ad, cap⟩ [_] ⟨rfl, trivial⟩ rfl trivial (ent_take 0 rfl (ent_take 0 rfl (ent_nil _)))
theorem live_ok (b : Nat) (l : List Pl) (ho : OkT l) : FSpec Tryz.prog 275 [.pointer (some ⟨b, 0, none⟩)] (fun F => ∃ E, RdS F E (some ⟨b, 0, none⟩) (tabC l)) [] (fun y : Option Addr × Nat => .slice y.1 (allL l 1).length y.2) (fun _ => True) (fun y => [slc 56 1 y.1 (allL l 1).length y.2 (nums .u32 (allL l 1))]) := by
 refine fI Tryz.func275 Tryz.ntmps275 ?_
 intro F hF
 refine zz [37,0,1,35,2,0,1,6,5] ?_
 refine cl (all_ok b l 1 ho) rfl (picked_nil _) (hF.imp fun _ h => RdS_l h) ?_
 intro y _
 refine zz [66,35,2,11] ?_
 exact Ret.i y [_] ⟨rfl, trivial⟩ rfl trivial (ent_take 0 rfl (ent_take 0 rfl (ent_nil _)))
theorem room_ok (b : Nat) (l : List Pl) (ho : OkT l) : FSpec Tryz.prog 83 [.pointer (some ⟨b, 0, none⟩)] (fun F => ∃ E, RdS F E (some ⟨b, 0, none⟩) (tabC l)) [] (fun _ : Unit => .int .i64 (allL l 0).length) (fun _ => True) (fun _ => []) := by
 refine fI Tryz.func83 Tryz.ntmps83 ?_
 intro F hF
 refine zz [37,0,1,4,2,0,1,6,5] ?_
 refine cl (all_ok b l 0 ho) rfl (picked_nil _) (hF.imp fun _ h => RdS_l h) ?_
 intro y _
 refine zz [66,116,4,2,11] ?_
 exact Ret.i () [_] ⟨rfl, trivial⟩ rfl trivial (ent_take 1 rfl (ent_nil _))
end Go.Proofs.YtnlgmaibhlicjaaGreatDoor.Hd
namespace Go.Proofs.YtnlgmaibhlicjaaGreatDoor.Gr
open Go Go.QM
def thing (t : Int × Int) : List Value := [.int .i64 t.1, .int .i64 t.2]
def things (l : List (Int × Int)) : List Value := l.flatMap thing
def isQ (b : Nat) (p n : Int) (l : List (Int × Int)) : HP := EX fun x : Option Addr × Nat => pure' True (sepL [pts b 177 [.int .i64 p, .int .i64 n, .slice x.1 l.length x.2], slc 398 2 x.1 l.length x.2 (things l)])
theorem new_ok (p : Int) (h1 : 1 ≤ p) (h2 : p ≤ 16) : FSpec Tryz.prog 36 [.int .i64 p] noRd [] (fun b : Nat => .pointer (some ⟨b, 0, none⟩)) (fun _ => True) (fun b => [isQ b p 0 []]) := by
 refine fI Tryz.func36 Tryz.ntmps36 ?_
 intro F _
 refine zz [37,0,1,24,2,0,0,1,3,38,20] ?_
 refine TL.known 5 rfl (c := false) (decide_eq_false (by omega)) ?_
 refine zz [32,84,19,2] ?_
 refine TC.condD rfl (fun hc1 => absurd hc1 (by omega)) (fun hc1 => ?_)
 refine zz [7,0,1,3,256,5] ?_
 refine bx (v := .agg #[_, _, _]) (l := [.int _ _, .int _ _, .slice _ _ _]) rfl rfl ?_
 intro b1
 refine zz [24,2,11] ?_
 exact Ret.i b1 [_] ⟨rfl, trivial⟩ rfl trivial ((slc_nil 398 2 _).trans (ent_close ⟨none, 0⟩ trivial (ent_take 1 rfl (ent_take 0 rfl (ent_take 0 rfl (ent_nil _))))))
theorem add_ok (b : Nat) (p n : Int) (l : List (Int × Int)) (ad : Option Addr) (cap : Nat) (xs : List Int) (hp : 1 ≤ p ∧ p ≤ 16) (hn : 0 ≤ n ∧ n ≤ 1000000000) (hl : l.length ≤ 1000000) (hx : xs.length ≤ 1000000) : FSpec Tryz.prog 307 [.pointer (some ⟨b, 0, none⟩), .slice ad xs.length cap] (fun F => ∃ E, RdS F E ad (ints xs)) [isQ b p n l] (fun _ : Unit => .int .i64 ((l.length + xs.length : Nat) : Int)) (fun _ => True) (fun _ => [isQ b p n (l ++ xs.map (fun x => (x, n + p)))]) := by
 refine fI Tryz.func307 Tryz.ntmps307 ?_
 intro F ⟨E, hF⟩
 refine zz [39] ?_
 haveI : RdSI F ad E (ints xs) := ⟨hF⟩
 refine TC.open 0 rfl (fun x0 hx0 => ?_)
 obtain ⟨ad0, cap0⟩ := x0
 clear hx0
 refine zz [44,0,1,4,2,0,0,1,6,34,2,10,7,0,0,1,29,91,3,2,17] ?_
 refine TC.loop (ι := Nat × Option Addr × Nat) (fun i => i.1 ≤ xs.length) (fun i => [(0, .pointer (some ⟨b, 0, none⟩)), (9, .slice ad xs.length cap), (10, .int .i64 xs.length), (11, .int .i64 i.1)]) (fun i => sepL [pts b 177 [.int .i64 p, .int .i64 n, .slice i.2.1 (l.length + i.1) i.2.2], slc 398 2 i.2.1 (l.length + i.1) i.2.2 (things (l ++ (xs.take i.1).map (fun x => (x, n + p)))), F]) (fun i => xs.length - i.1) ⟨0, ad0, cap0⟩ (Nat.zero_le _) ⟨rfl, rfl, rfl, rfl, trivial⟩ (ent_take 0 rfl (ent_takeE 0 rfl (by simp) (ent_take 0 rfl (ent_nil _)))) ?_
 rintro ⟨k, ad1, cap1⟩ hinv ρ0
 dsimp only [updL] at hinv ⊢
 refine zz [0,1,38,2,0] ?_
 first | refine TC.condD rfl (fun hlt => ?_) (fun hlt => ?_) | refine TC.cond rfl (fun hlt => ?_) (fun hlt => ?_)
 ·have hlt : k < xs.length := by omega
  obtain ⟨x, hxk⟩ : ∃ x, xs[k]? = some x := ⟨xs[k], List.getElem?_eq_getElem hlt⟩
  have hil : 0 < (ints xs).length := by rw [ints_length]; omega
  refine zz [7,0,17,0,1,81] ?_
  first | refine q rfl rfl (ld rfl rfl rfl) ?_ | refine q rfl rfl (ldS rfl rfl (ints_get hxk)) ?_ | refine q rfl rfl (ldS rfl rfl rfl) ?_
  refine zz [4,2] ?_
  refine TC.draw _ [20] [(0, false), (1, false), (2, false), (3, false), (4, false), (5, false), (6, false), (7, false), (8, false), (9, false), (10, false), (11, false), (12, false), (13, false), (14, false), (15, false), (16, true), (17, true), (18, false), (19, false), (20, true)] (by kernel_rfl) (by kernel_rfl) (ent_take 0 rfl (ent_nil _)) ?_
  refine zz [28,28,31,58] ?_
  first | refine dq rfl rfl rfl (ld rfl rfl rfl) ?_ | refine dq rfl rfl rfl (ldS rfl rfl (ints_get hxk)) ?_ | refine dq rfl rfl rfl (ldS rfl rfl rfl) ?_
  refine zz [33,28,31,60] ?_
  first | refine dq rfl rfl rfl (ld rfl rfl rfl) ?_ | refine dq rfl rfl rfl (ldS rfl rfl (ints_get hxk)) ?_ | refine dq rfl rfl rfl (ldS rfl rfl rfl) ?_
  refine zz [28,31,25] ?_
  first | refine dq rfl rfl rfl (ld rfl rfl rfl) ?_ | refine dq rfl rfl rfl (ldS rfl rfl (ints_get hxk)) ?_ | refine dq rfl rfl rfl (ldS rfl rfl rfl) ?_
  refine zz [161,176,16,114] ?_
  intro b2
  refine zz [8,16,257] ?_
  intro ad1 cap1
  refine zz [8,31,58,70,110,163,1,36,3,2] ?_
  exact ⟨rfl, ⟨k + 1, ad1, cap1⟩, (by dsimp only; omega), (by dsimp only; omega), ⟨rfl, rfl, rfl, rfl, trivial⟩, (ent_take 0 rfl (ent_takeE 0 rfl (by simp [things, thing, List.take_add_one, hxk, Nat.add_assoc]) (ent_take 1 rfl (ent_nil _))))⟩
 ·obtain rfl : k = xs.length := by omega
  refine zz [50,0,1,6,13,62,12] ?_
  refine q rfl rfl (len 398 2 rfl rfl) ?_
  refine zz [4,2,11] ?_
  exact Ret.i () [_] ⟨rfl, trivial⟩ rfl trivial (ent_close ⟨ad1, cap1⟩ trivial (ent_takeE 0 rfl (by simp) (ent_takeE 0 rfl (by simp) (ent_take 0 rfl (ent_nil _)))))
end Go.Proofs.YtnlgmaibhlicjaaGreatDoor.Gr
