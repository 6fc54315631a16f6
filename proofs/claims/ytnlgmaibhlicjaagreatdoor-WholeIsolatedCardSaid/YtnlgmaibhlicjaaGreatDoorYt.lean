/- Proved here: contracts of functions of this program, under the premises that each theorem names. -/
import Derived.Shelf.Lays
import Derived.Test.YtnlgmaibhlicjaaGreatDoorYs
set_option maxRecDepth 4000
namespace Go.Proofs.YtnlgmaibhlicjaaGreatDoor
open Go Go.Shelf
def laysSort_ren : Go.Shelf.Ren := ⟨fun | 189 => 324 | 125 => 339 | 257 => 338 | 128 => 349 | 129 => 350 | 294 => 340 | 295 => 341 | 296 => 342 | 297 => 343 | 298 => 344 | 299 => 345 | 216 => 346 | 300 => 347 | 301 => 348 | 328 => 351 | 329 => 352 | 330 => 353 | 331 => 354 | 332 => 355 | 215 => 223 | 343 => 356 | n => n, fun | 28 => 43 | 3 => 3 | 46 => 210 | 0 => 0 | 51 => 55 | 53 => 31 | 4 => 4 | 183 => 446 | 182 => 445 | 131 => 266 | 5 => 5 | 9 => 9 | 218 => 451 | 222 => 454 | 228 => 456 | 229 => 457 | n => n, fun | n => n⟩
theorem laysSort : Go.Proofs.Lays.n189 Tryz.prog laysSort_ren := {
 mixed := by kernel_rfl
 f125 := Tryz.func339.trans (congrArg some (by kernel_rfl))
 f128 := Tryz.func349.trans (congrArg some (by kernel_rfl))
 f129 := Tryz.func350.trans (congrArg some (by kernel_rfl))
 f189 := Tryz.func324.trans (congrArg some (by kernel_rfl))
 f215 := Tryz.func223.trans (congrArg some (by kernel_rfl))
 f216 := Tryz.func346.trans (congrArg some (by kernel_rfl))
 f257 := Tryz.func338.trans (congrArg some (by kernel_rfl))
 f294 := Tryz.func340.trans (congrArg some (by kernel_rfl))
 f295 := Tryz.func341.trans (congrArg some (by kernel_rfl))
 f296 := Tryz.func342.trans (congrArg some (by kernel_rfl))
 f297 := Tryz.func343.trans (congrArg some (by kernel_rfl))
 f298 := Tryz.func344.trans (congrArg some (by kernel_rfl))
 f299 := Tryz.func345.trans (congrArg some (by kernel_rfl))
 f300 := Tryz.func347.trans (congrArg some (by kernel_rfl))
 f301 := Tryz.func348.trans (congrArg some (by kernel_rfl))
 f328 := Tryz.func351.trans (congrArg some (by kernel_rfl))
 f329 := Tryz.func352.trans (congrArg some (by kernel_rfl))
 f330 := Tryz.func353.trans (congrArg some (by kernel_rfl))
 f331 := Tryz.func354.trans (congrArg some (by kernel_rfl))
 f332 := Tryz.func355.trans (congrArg some (by kernel_rfl))
 f343 := Tryz.func356.trans (congrArg some (by kernel_rfl))
 t0 := Tryz.underlying0
 a0 := Tryz.isAgg0
 z0 := Tryz.sizeOf0
 v0 := Tryz.zeroValue0
 t3 := Tryz.underlying3
 a3 := Tryz.isAgg3
 z3 := Tryz.sizeOf3
 v3 := Tryz.zeroValue3
 t4 := Tryz.underlying4
 a4 := Tryz.isAgg4
 z4 := Tryz.sizeOf4
 v4 := Tryz.zeroValue4
 t5 := Tryz.underlying5
 a5 := Tryz.isAgg5
 z5 := Tryz.sizeOf5
 v5 := Tryz.zeroValue5
 t9 := Tryz.underlying9
 a9 := Tryz.isAgg9
 z9 := Tryz.sizeOf9
 v9 := Tryz.zeroValue9
 t28 := Tryz.underlying43
 a28 := Tryz.isAgg43
 z28 := Tryz.sizeOf43
 v28 := Tryz.zeroValue43
 t46 := Tryz.underlying210
 a46 := Tryz.isAgg210
 z46 := Tryz.sizeOf210
 v46 := Tryz.zeroValue210
 t51 := Tryz.underlying55
 a51 := Tryz.isAgg55
 z51 := Tryz.sizeOf55
 v51 := Tryz.zeroValue55
 t53 := Tryz.underlying31
 a53 := Tryz.isAgg31
 z53 := Tryz.sizeOf31
 v53 := Tryz.zeroValue31
 t131 := Tryz.underlying266
 a131 := Tryz.isAgg266
 z131 := Tryz.sizeOf266
 v131 := Tryz.zeroValue266
 t182 := Tryz.underlying445
 a182 := Tryz.isAgg445
 z182 := Tryz.sizeOf445
 v182 := Tryz.zeroValue445
 t183 := Tryz.underlying446
 a183 := Tryz.isAgg446
 z183 := Tryz.sizeOf446
 v183 := Tryz.zeroValue446
 t218 := Tryz.underlying451
 a218 := Tryz.isAgg451
 z218 := Tryz.sizeOf451
 v218 := Tryz.zeroValue451
 t222 := Tryz.underlying454
 a222 := Tryz.isAgg454
 z222 := Tryz.sizeOf454
 v222 := Tryz.zeroValue454
 t228 := Tryz.underlying456
 a228 := Tryz.isAgg456
 z228 := Tryz.sizeOf456
 v228 := Tryz.zeroValue456
 t229 := Tryz.underlying457
 a229 := Tryz.isAgg457
 z229 := Tryz.sizeOf457
 v229 := Tryz.zeroValue457 }
end Go.Proofs.YtnlgmaibhlicjaaGreatDoor
namespace Go.Proofs.YtnlgmaibhlicjaaGreatDoor
open Go Go.QM
theorem sortI_uniq {y z : List Int} (hp : y.Perm z) : sortI y = sortI z :=
 List.Perm.eq_of_pairwise (le := fun a c => a ≤ c) (fun a c _ _ h1 h2 => by omega) (sortI_sorted y) (sortI_sorted z) ((sortI_perm y).trans (hp.trans (sortI_perm z).symm))
theorem keys_ids {A : Int → Nat} {ids y : List Int} (hn : ids.Nodup) (h : KeysOf (fM A ids) ids.length y) : sortI y = sortI ids := by
 refine sortI_uniq ((List.perm_ext_iff_of_nodup h.1 hn).2 fun x => ?_)
 rw [h.2.2, fM]
 by_cases hx : x ∈ ids
 ·rw [if_pos hx]; simp [hx]
 ·rw [if_neg hx]; simp [hx]
def thru (g : Int) : Off → Bool := fun o => decide (o.gt = g)
def goneC (s : MS) (g : Int) (D : List Int) : List Int := D.flatMap fun x => goneO (s.row x) (thru g)
def rowsC (s : MS) (g : Int) (D : List Int) : MS := { s with row := fun x => if x ∈ D then (s.row x).filter (notO (thru g)) else s.row x }
def closeS (s : MS) (g : Int) : MS × List Int := (frL (rowsC s g (sortI s.ids)) (goneC s g (sortI s.ids)), goneC s g (sortI s.ids))
theorem rowsC_nil (s : MS) (g : Int) : rowsC s g [] = s := by simp [rowsC]
theorem rowsC_snoc {s : MS} {g : Int} {D : List Int} (hn : D.Nodup) {k : Nat} {x : Int} (hx : D[k]? = some x) : cutMS (rowsC s g (D.take k)) x (thru g) = rowsC s g (D.take (k + 1)) ∧ (rowsC s g (D.take k)).row x = s.row x := by
 have hm : x ∉ D.take k := fun h2 => by
  obtain ⟨j, hj⟩ := List.getElem?_of_mem h2
  rw [List.getElem?_take] at hj
  split at hj
  ·obtain ⟨a1, b1⟩ := List.getElem?_eq_some_iff.1 hj
   obtain ⟨a2, b2⟩ := List.getElem?_eq_some_iff.1 hx
   exact (List.pairwise_iff_getElem.1 hn) j k a1 a2 (by omega) (by rw [b1, b2])
  ·cases hj
 have ht : ∀ y, y ∈ D.take (k + 1) ↔ y ∈ D.take k ∨ y = x := fun y => by rw [List.take_add_one, hx]; simp
 refine ⟨?_, if_neg hm⟩
 simp only [cutMS, rowS, rowsC, MS.mk.injEq, true_and]
 funext y
 by_cases e2 : y = x
 ·subst e2; rw [updI_same, if_neg hm, if_pos ((ht y).2 (.inr rfl))]
 ·rw [updI_ne e2]
  by_cases h : y ∈ D.take k
  ·rw [if_pos h, if_pos ((ht y).2 (.inl h))]
  ·rw [if_neg h, if_neg (fun h2 => ((ht y).1 h2).elim h e2)]
theorem goneC_snoc {s : MS} {g : Int} {D : List Int} {k : Nat} {x : Int} (hx : D[k]? = some x) : goneC s g (D.take (k + 1)) = goneC s g (D.take k) ++ goneO (s.row x) (thru g) := by
 rw [goneC, goneC, List.take_add_one, hx, Option.toList, List.flatMap_append, List.flatMap_cons, List.flatMap_nil, List.append_nil]
theorem goneC_len {s : MS} {g : Int} : ∀ {D : List Int}, (∀ x ∈ D, (s.row x).length ≤ 1000) → (goneC s g D).length ≤ 1000 * D.length
 | [], _ => Nat.zero_le _
 | x :: D, h => by
  have h1 := goneC_len (g := g) (D := D) fun y hy => h y (by simp [hy])
  have h2 := h x (by simp)
  have h3 := gone_len (s.row x) (thru g)
  have e : goneC s g (x :: D) = goneO (s.row x) (thru g) ++ goneC s g D := by rw [goneC, goneC, List.flatMap_cons]
  rw [e, List.length_append, List.length_cons]; omega
theorem goneC_mem {s : MS} {g : Int} {D : List Int} {y : Int} : y ∈ goneC s g D ↔ ∃ x ∈ D, ∃ o ∈ s.row x, o.gt = g ∧ o.fr = y := by
 rw [goneC, List.mem_flatMap]
 constructor
 ·rintro ⟨x, hx, hy⟩
  obtain ⟨o, ho, rfl⟩ := List.mem_map.1 hy
  obtain ⟨ho1, ho2⟩ := List.mem_filter.1 ho
  exact ⟨x, hx, o, ho1, by simpa [thru] using ho2, rfl⟩
 ·rintro ⟨x, hx, o, ho, h1, h2⟩
  exact ⟨x, hx, List.mem_map.2 ⟨o, List.mem_filter.2 ⟨ho, by simpa [thru] using h1⟩, h2⟩⟩
theorem sortI_mem {x : Int} {y : List Int} : x ∈ sortI y ↔ x ∈ y := (sortI_perm y).mem_iff
theorem WM.one {s : MS} (h : WM s) {x y : Int} (hx : x ∈ s.ids) (hy : y ∈ s.ids) {o u : Off} (ho : o ∈ s.row x) (hu : u ∈ s.row y) (e : o.fr = u.fr) : x = y ∧ o = u := by
 have h1 := (h.row x hx o ho).2.2.2
 have h2 := (h.row y hy u hu).2.2.2
 have hxy : x = y := by rw [← h1, ← h2, e]
 subst hxy
 refine ⟨rfl, ?_⟩
 obtain ⟨i, hi⟩ := List.getElem?_of_mem ho
 obtain ⟨j, hj⟩ := List.getElem?_of_mem hu
 obtain ⟨a1, b1⟩ := List.getElem?_eq_some_iff.1 hi
 obtain ⟨a2, b2⟩ := List.getElem?_eq_some_iff.1 hj
 have hp := List.pairwise_iff_getElem.1 (h.nr x hx)
 by_cases eij : i = j
 ·subst eij; rw [← b1, ← b2]
 ·exfalso
  rcases Nat.lt_or_gt_of_ne eij with h3 | h3
  ·have := hp i j (by simpa using a1) (by simpa using a2) h3
   rw [List.getElem_map, List.getElem_map, b1, b2] at this; exact this e
  ·have := hp j i (by simpa using a2) (by simpa using a1) h3
   rw [List.getElem_map, List.getElem_map, b1, b2] at this; exact this e.symm
theorem gone_in {s : MS} (h : WM s) {g y : Int} (hy : y ∈ goneC s g (sortI s.ids)) : y ∈ s.ids ∧ s.st y = 1 := by
 obtain ⟨x, hx, o, ho, _, rfl⟩ := goneC_mem.1 hy
 have := h.row x (sortI_mem.1 hx) o ho
 exact ⟨this.1, this.2.2.1⟩
theorem WM.close {s : MS} (h : WM s) (g : Int) : WM (closeS s g).1 := by
 refine (h.un (goneC s g (sortI s.ids)) fun y hy => gone_in h hy).ext rfl fun x hx => ⟨rfl, rfl, rfl, ?_⟩
 have hx : x ∈ s.ids := hx
 dsimp only [closeS, frL, rowsC, unL]
 rw [if_pos (sortI_mem.2 hx)]
 refine List.filter_congr fun o ho => ?_
 rw [notO, thru, Bool.eq_iff_iff]
 simp only [Bool.not_eq_true', decide_eq_false_iff_not, decide_eq_true_eq, goneC_mem]
 constructor
 ·rintro h1 ⟨y, hy, u, hu, h2, h3⟩
  have := h.one hx (sortI_mem.1 hy) ho hu h3.symm
  rw [this.2] at h1; exact h1 h2
 ·intro h1 h2
  exact h1 ⟨x, sortI_mem.2 hx, o, ho, h2, rfl⟩
theorem msort_ok (ad : Option Addr) (cap : Nat) (xs : List Int) (hl : xs.length ≤ 1000000) : FSpec Tryz.prog 324 [.slice ad xs.length cap] noRd [slc 3 1 ad xs.length cap (ints xs)] (fun _ : Unit => .tuple #[]) (fun _ => True) (fun _ => [slc 3 1 ad xs.length cap (ints (sortI xs))]) :=
 sort_ok laysSort (by kernel_rfl) 3 ad cap xs hl
theorem sorted_ok (cx mb n : Nat) (f : Int → Option Value) (hn : n ≤ 1000000) : FSpec Tryz.prog 301 [.func (.func 325) #[] #[.pointer (some ⟨cx, 0, none⟩)]] noRd [pts cx 281 [.map (some mb)], mapF QM.encI mb f n] (fun y : (Option Addr × Nat) × List Int => .slice y.1.1 (sortI y.2).length y.1.2) (fun y => KeysOf f n y.2) (fun y => [slc 3 1 y.1.1 (sortI y.2).length y.1.2 (ints (sortI y.2)), mapF QM.encI mb f n]) := by
 refine fI Tryz.func301 Tryz.ntmps301 ?_
 intro F _
 refine zz [44,0,1,35,2,0,1,71,5] ?_
 refine cl (coll_ok cx mb n f hn) rfl PkL.p trivial ?_
 intro y hy
 refine zz [43,35,2,0,1,29] ?_
 have hyl := hy.2.1
 refine e rfl ?_
 refine cl (msort_ok y.1.1 y.1.2 y.2 (by omega)) rfl PkL.p trivial ?_
 intro _ _
 refine zz [43,2,0,1,29,35,2,11] ?_
 exact Ret.i y [_] ⟨rfl, trivial⟩ (by rw [sortI_len]; rfl) hy (ent_takeE 0 rfl (by rw [sortI_len]) entS)
theorem mclose1_ok (b : Nat) (gt : Int) (o : Off) : FSpec Tryz.prog 303 [.agg (ofC o).toArray, .pointer (some ⟨b, 0, none⟩)] (fun F => Rd F b (.cells #[Value.int .i64 gt] 3 (0, 0))) [] (fun _ : Unit => .bool (thru gt o)) (fun _ => True) (fun _ => []) := by
 refine fI Tryz.func303 Tryz.ntmps303 ?_
 intro F hF
 refine zz [37] ?_
 haveI : RdI F b (.cells #[Value.int .i64 gt] 3 (0, 0)) := ⟨hF⟩
 refine zz [0,1,5] ?_
 refine bx (v := .agg #[_, _, _]) (l := [.int _ _, .int _ _, .bool _]) rfl rfl ?_
 intro b1
 refine zz [9,2,0,1,47,12,12,30,9,2,11] ?_
 exact zc0
set_option maxHeartbeats 1000000 in
theorem mclose_ok (b : Nat) (A : Int → Nat) (s : MS) (hW : WM s) (gt : Int) (hl : s.ids.length ≤ 1000) : FSpec Tryz.prog 270 [.pointer (some ⟨b, 0, none⟩), .int .i64 gt] noRd [isMa b A s] (fun y : Option Addr × Nat => .slice y.1 (closeS s gt).2.length y.2) (fun _ => True) (fun y => [slc 3 1 y.1 (closeS s gt).2.length y.2 (ints (closeS s gt).2), isMa b A (closeS s gt).1]) := by
 refine fI Tryz.func270 Tryz.ntmps270 ?_
 intro F _
 refine zz [39,0,1,5] ?_
 refine bx (v := .int _ _) (l := [.int _ _]) rfl rfl ?_
 intro b2
 refine zz [35,2,0] ?_
 refine TC.open 1 rfl (fun x0 hx0 => ?_)
 obtain ⟨ad, cap, mb⟩ := x0
 have hN := hx0
 refine zz [82] ?_
 dsimp only at hN ⊢
 refine zz [1,35,2,0,0,1,6,34,2,10,7,0,0,1,6,13,14,12,5] ?_
 refine cl (keys_ok mb) rfl (picked_nil _) trivial ?_
 intro cx _
 refine zz [49,5] ?_
 refine cl (sorted_ok cx mb s.ids.length (fM A s.ids) (by omega)) rfl PkL.p trivial ?_
 intro y hy
 refine zz [49] ?_
 rw [keys_ids hN hy]
 have hDl : (sortI s.ids).length = s.ids.length := sortI_len _
 have hDn : (sortI s.ids).Nodup := (sortI_perm _).nodup_iff.2 hN
 have hDm : ∀ x, x ∈ sortI s.ids ↔ x ∈ s.ids := fun x => sortI_mem
 have hrl : ∀ x ∈ sortI s.ids, (s.row x).length ≤ 1000 := fun x hx => Nat.le_trans (rowlen hW ((hDm x).1 hx)) hl
 have hgi := fun x hx => gone_in hW (g := gt) (y := x) hx
 have hcv : closeS s gt = (frL (rowsC s gt (sortI s.ids)) (goneC s gt (sortI s.ids)), goneC s gt (sortI s.ids)) := rfl
 rw [hcv]
 dsimp only
 generalize sortI s.ids = D at hDl hDn hDm hrl hgi ⊢
 obtain ⟨⟨da, dc⟩, yy⟩ := y
 dsimp only
 have hdi := ints_length D
 clear hcv hy
 refine zz [91,3,2,17] ?_
 refine TC.loop (ι := Nat × (Int → Option Addr) × (Int → Nat) × (Option Addr × Nat)) (fun u => u.1 ≤ D.length) (fun u => [(0, .pointer (some ⟨b, 0, none⟩)), (3, .pointer (some ⟨b2, 0, none⟩)), (5, .slice u.2.2.2.1 (goneC s gt (D.take u.1)).length u.2.2.2.2), (17, .slice da D.length dc), (18, .int .i64 D.length), (19, .int .i64 ((u.1 : Nat) : Int))]) (fun u => sepL [slc 3 1 u.2.2.2.1 (goneC s gt (D.take u.1)).length u.2.2.2.2 (ints (goneC s gt (D.take u.1))), bigS (tP A u.2.1 u.2.2.1 (rowsC s gt (D.take u.1))) s.ids, bigS (rP u.2.1 u.2.2.1 (rowsC s gt (D.take u.1))) s.ids, slc 3 1 da D.length dc (ints D), pts b 283 [.map (some mb)], mapF QM.encI mb (fM A s.ids) s.ids.length, pts b2 3 [.int .i64 gt], F]) (fun u => D.length - u.1) ⟨0, ad, cap, (none, 0)⟩ (Nat.zero_le _) ⟨rfl, rfl, rfl, rfl, rfl, rfl, trivial⟩ ((slc_nil 3 1 _).trans (ent_take 0 rfl (ent_takeE 3 rfl (by dsimp only; rw [List.take_zero, rowsC_nil]) (ent_takeE 3 rfl (by dsimp only; rw [List.take_zero, rowsC_nil]) entS)))) ?_
 rintro ⟨k, ad, cap, ⟨oa, oc⟩⟩ hk ρ0
 dsimp only [updL] at hk ⊢
 refine zz [0,1,38,2,0] ?_
 first | refine TC.condD rfl (fun hlt => ?_) (fun hlt => ?_) | refine TC.cond rfl (fun hlt => ?_) (fun hlt => ?_)
 ·have hlt2 : k < D.length := by omega
  obtain ⟨x, hx⟩ : ∃ x, D[k]? = some x := ⟨D[k], List.getElem?_eq_getElem hlt2⟩
  have hxm := List.mem_of_getElem? hx
  have hxi := (hDm x).1 hxm
  have hpos : 0 < (ints D).length := by omega
  obtain ⟨hcs, hrw⟩ := rowsC_snoc (s := s) (g := gt) hDn hx
  have hgs := goneC_snoc (s := s) (g := gt) hx
  have hgl := goneC_len (s := s) (g := gt) (D := D.take k) (fun y hy => hrl y (List.mem_of_mem_take hy))
  have htl : (D.take k).length ≤ k := by rw [List.length_take]; omega
  have hxl := hrl x hxm
  have hgx := gone_len (s.row x) (thru gt)
  have hi1 := ints_length (goneC s gt (D.take k))
  have hi2 := ints_length (goneO (s.row x) (thru gt))
  refine zz [7,0,17,0,1,81] ?_
  first | refine q rfl rfl (ld rfl rfl rfl) ?_ | refine q rfl rfl (ldS rfl rfl (ints_get hx)) ?_ | refine q rfl rfl (ldS rfl rfl rfl) ?_
  refine zz [4,2,1,29,6,13,14] ?_
  first | refine q rfl rfl (ld rfl rfl rfl) ?_ | refine q rfl rfl (ldS rfl rfl (ints_get hx)) ?_ | refine q rfl rfl (ldS rfl rfl rfl) ?_
  refine zz [3,197] ?_
  rw [fM_yes hxi]
  refine zz [13,14] ?_
  first | refine q rfl rfl (mkf (vf := []) (vc := [.pointer _]) rfl rfl) ?_ | refine q rfl rfl (mkf rfl rfl) ?_
  refine e rfl ?_
  refine cl (mcut_ok A ad cap (rowsC s gt (D.take k)) s.ids x hxi hN 303 [.pointer (some ⟨b2, 0, none⟩)] (thru gt) (fun F => Rd F b2 (.cells #[Value.int .i64 gt] 3 (0, 0))) (mclose1_ok b2 gt) (fun Bs _ h => Rd_end h Bs) (by rw [hrw]; omega)) rfl PkL.p RdI.rd ?_
  intro y _
  refine zz [45] ?_
  rw [hcs, hrw]
  refine e rfl ?_
  refine ap 8 rfl rfl rfl rfl rfl (by omega) (ints_all1 rfl) (ints_one1 _) (by omega) (by simp only [maxLen]; omega) ?_
  intro ad1 cap1
  refine zz [35,63,1,36,3,2] ?_
  exact ⟨rfl, ⟨k + 1, updI ad x y.2.1, updI cap x y.2.2, (ad1, cap1)⟩, (by dsimp only; omega), (by dsimp only; omega), ⟨rfl, rfl, congrArg (fun n => Value.slice _ n _) (by dsimp only; rw [hgs, List.length_append]), rfl, rfl, rfl, trivial⟩, (ent_takeE 0 rfl (by dsimp only; rw [hgs, List.length_append, ints_app1]) entS)⟩
 ·obtain rfl : k = D.length := by omega
  rw [List.take_length]
  have hgl := goneC_len (s := s) (g := gt) hrl
  generalize hG : goneC s gt D = Gn at hgi hgl ⊢
  have hGi := ints_length Gn
  refine zz [50,0,0,1,29,91,3,2,17] ?_
  refine TC.loop (ι := Nat) (fun k => k ≤ Gn.length) (fun k => [(0, .pointer (some ⟨b, 0, none⟩)), (5, .slice oa Gn.length oc), (36, .slice oa Gn.length oc), (37, .int .i64 Gn.length), (38, .int .i64 ((k : Nat) : Int))]) (fun k => sepL [slc 3 1 oa Gn.length oc (ints Gn), bigS (tP A ad cap (frL (rowsC s gt D) (Gn.take k))) s.ids, bigS (rP ad cap (frL (rowsC s gt D) (Gn.take k))) s.ids, pts b 283 [.map (some mb)], mapF QM.encI mb (fM A s.ids) s.ids.length, F]) (fun k => Gn.length - k) 0 (Nat.zero_le _) ⟨rfl, rfl, rfl, rfl, rfl, trivial⟩ (ent_take 0 rfl (ent_takeE 0 rfl (by rw [List.take_zero, ← foldl_fr]; rfl) (ent_takeE 0 rfl (by rw [List.take_zero, ← foldl_fr]; rfl) entS))) ?_
  rintro k hk ρ1
  dsimp only [updL] at hk ⊢
  refine zz [0,1,38,2,0] ?_
  first | refine TC.condD rfl (fun hlt2 => ?_) (fun hlt2 => ?_) | refine TC.cond rfl (fun hlt2 => ?_) (fun hlt2 => ?_)
  ·have hlt3 : k < Gn.length := by omega
   obtain ⟨x, hx⟩ : ∃ x, Gn[k]? = some x := ⟨_, List.getElem?_eq_getElem hlt3⟩
   have hpos : 0 < (ints Gn).length := by omega
   obtain ⟨hx1, _⟩ := hgi x (List.mem_of_getElem? hx)
   have hst : frS (frL (rowsC s gt D) (Gn.take k)) x = (frL (rowsC s gt D) (Gn.take (k + 1))) := by rw [← foldl_fr, ← foldl_fr, List.take_add_one, hx, Option.toList, List.foldl_append]; rfl
   refine zz [7,0,17,0,1,81] ?_
   first | refine q rfl rfl (ld rfl rfl rfl) ?_ | refine q rfl rfl (ldS rfl rfl (ints_get hx)) ?_ | refine q rfl rfl (ldS rfl rfl rfl) ?_
   refine zz [4,2,1,6,13,14] ?_
   first | refine q rfl rfl (ld rfl rfl rfl) ?_ | refine q rfl rfl (ldS rfl rfl (ints_get hx)) ?_ | refine q rfl rfl (ldS rfl rfl rfl) ?_
   refine zz [3,197] ?_
   rw [fM_yes hx1]
   refine e rfl ?_
   refine cl (mfree_ok A ad cap (frL (rowsC s gt D) (Gn.take k)) s.ids x hx1 hN) rfl PkL.p trivial ?_
   intro _ _
   refine zz [69] ?_
   rw [hst]
   refine zz [63,1,36,3,2] ?_
   exact ⟨rfl, (k + 1), (by omega), (by omega), ⟨rfl, rfl, rfl, rfl, rfl, trivial⟩, (ent_take 1 rfl (ent_take 0 rfl (ent_takeE 0 rfl (by rw [← hst]; rfl) entS)))⟩
  ·obtain rfl : k = Gn.length := by omega
   rw [List.take_length]
   refine zz [50,0,1,29,35,2,11] ?_
   exact Ret.i ⟨oa, oc⟩ [_] ⟨rfl, trivial⟩ rfl trivial (ent_take 0 rfl (ent_close (⟨ad, cap, mb⟩ : MRep) hN entS))
open Al (En hasA Nd clrA setA offA dueA restA leftA ids)
open Rd (hasS NdS addS RInv topS runS tickS yieldS rndS)
structure Tg where
  th : Int
  er : Int
deriving DecidableEq
def tgC (t : Tg) : List Value := [.int .i64 t.th, .int .i64 t.er]
theorem tgC_sz (t : Tg) : (tgC t).length = 2 := rfl
def tgsC (L : List Tg) : List Value := L.flatMap tgC
theorem tgsC_length (L : List Tg) : (tgsC L).length = L.length * 2 := flat_length tgC_sz L
theorem tgs_app (S T : List Tg) : tgsC S ++ tgsC T = tgsC (S ++ T) := by simp [tgsC]
structure TS where
  S : List Rd.Th
  now : Int
  tn : Int
  A : List En
  m : MS
  pr : Int → Int
  sl : Int → Int
  on : Int → Bool
  told : List Tg
def t0 : TS := ⟨[], 0, 0, [], s0, fun _ => 0, fun _ => 0, fun _ => false, []⟩
def stT (T : TS) (id : Int) : Int := if id ∈ T.m.ids then (if T.on id = true then T.m.st id else 4) else -1
def tell1 (why : Int) (T : TS) (id : Int) : TS := { T with S := (addS T.S id (T.pr id) (T.sl id)).1, A := clrA T.A [id], told := T.told ++ [⟨id, why⟩] }
def tellS (T : TS) (why : Int) (l : List Int) : TS := l.foldl (tell1 why) T
def mS (T : TS) (m : MS) : TS := { T with m := m }
def addT (T : TS) (id : Int) : TS := if id ∈ T.m.ids ∨ id < 0 then T else { T with m := joinS T.m id, pr := updI T.pr id 0, sl := updI T.sl id 0, on := updI T.on id false }
def addL (T : TS) (l : List Int) : TS := l.foldl addT T
def startS (T : TS) (id p s : Int) : TS × Int :=
  if id ∉ T.m.ids then (T, 6) else if p < 0 ∨ 7 < p ∨ s < 1 ∨ 16 < s then (T, 1) else if T.on id = true then (T, 12) else
  ({ T with S := (addS T.S id p s).1, pr := updI T.pr id p, sl := updI T.sl id s, on := updI T.on id true }, (addS T.S id p s).2)
def closeT (T : TS) (g : Int) : TS × Int := (tellS (mS T (closeS T.m g).1) 13 (closeS T.m g).2, (closeS T.m g).2.length)
def toldT (T : TS) : TS := { T with told := [] }
structure TP (T : TS) (L : List Int) : Prop where
  wm : WM T.m
  rj : RInv T.S
  lf : ∀ t ∈ T.S, 1 ≤ t.left ∧ t.left ≤ t.whole
  sp : ∀ t ∈ T.S, t.prio = T.pr t.id ∧ t.whole = T.sl t.id
  rdy : ∀ x, hasS T.S x ↔ (x ∈ T.m.ids ∧ T.on x = true ∧ T.m.st x = 0) ∧ x ∉ L
  na : Nd T.A
  al : ∀ x, hasA T.A x → x ∈ T.m.ids ∧ (T.m.st x ≠ 0 ∨ x ∈ L)
  off : ∀ x ∈ T.m.ids, T.m.st x ≠ 0 → T.on x = true
  ps : ∀ x ∈ T.m.ids, T.on x = true → (0 ≤ T.pr x ∧ T.pr x ≤ 7) ∧ 1 ≤ T.sl x ∧ T.sl x ≤ 16
  tm : ∀ e ∈ T.A, T.now < e.at_ ∧ e.at_ ≤ T.now + 1048576
  L1 : ∀ x ∈ L, x ∈ T.m.ids ∧ T.on x = true ∧ T.m.st x = 0
  Ln : L.Nodup
theorem has_app {S : List Rd.Th} {t : Rd.Th} {x : Int} : hasS (S ++ [t]) x ↔ hasS S x ∨ t.id = x := by simp [hasS, or_and_right, exists_or]
theorem clr_has {A : List En} {l : List Int} {x : Int} : hasA (clrA A l) x ↔ hasA A x ∧ x ∉ l := by
 rw [Al.clrA_eq]
 constructor
 ·rintro ⟨e, he, rfl⟩
  obtain ⟨h1, h2⟩ := List.mem_filter.1 he
  exact ⟨⟨e, h1, rfl⟩, by simpa using h2⟩
 ·rintro ⟨⟨e, he, rfl⟩, h⟩
  exact ⟨e, List.mem_filter.2 ⟨he, by simpa using h⟩, rfl⟩
theorem clr_mem {A : List En} {l : List Int} {e : En} (h : e ∈ clrA A l) : e ∈ A := by rw [Al.clrA_eq] at h; exact (List.mem_filter.1 h).1
theorem clr_Nd {A : List En} (h : Nd A) (l : List Int) : Nd (clrA A l) := h.sublist ((Al.clrA_sub A l).map _)
theorem add_yes {S : List Rd.Th} {id p s : Int} (h0 : 0 ≤ id) (hp : 0 ≤ p ∧ p ≤ 7) (hs : 1 ≤ s ∧ s ≤ 16) (hn : ¬ hasS S id) : addS S id p s = (S ++ [⟨id, p, s, s⟩], 0) := by
 rw [addS, if_neg (by omega), if_neg hn]
theorem TP.add1 {T : TS} {x : Int} {L : List Int} (h : TP T (x :: L)) : addS T.S x (T.pr x) (T.sl x) = (T.S ++ [⟨x, T.pr x, T.sl x, T.sl x⟩], 0) := by
 obtain ⟨h1, h2, h3⟩ := h.L1 x (by simp)
 have h4 := h.ps x h1 h2
 exact add_yes (h.wm.ge x h1) h4.1 h4.2 (fun h5 => ((h.rdy x).1 h5).2 (by simp))
theorem TP.tell {T : TS} {x : Int} {L : List Int} (h : TP T (x :: L)) (why : Int) : TP (tell1 why T x) L := by
 obtain ⟨h1, h2, h3⟩ := h.L1 x (by simp)
 have h4 := h.ps x h1 h2
 have h0 := h.wm.ge x h1
 have hx : ¬ hasS T.S x := fun h5 => ((h.rdy x).1 h5).2 (by simp)
 have hL := List.nodup_cons.1 h.Ln
 have e : tell1 why T x = { T with S := T.S ++ [⟨x, T.pr x, T.sl x, T.sl x⟩], A := clrA T.A [x], told := T.told ++ [⟨x, why⟩] } := by rw [tell1, h.add1]
 rw [e]
 refine ⟨h.wm, h.rj.add (t := ⟨x, T.pr x, T.sl x, T.sl x⟩) hx (by dsimp only; omega), fun t ht => ?_, fun t ht => ?_, fun y => ?_, clr_Nd h.na _, fun y hy => ?_, h.off, h.ps, fun e he => h.tm e (clr_mem he), fun y hy => h.L1 y (by simp [hy]), hL.2⟩
 ·rcases List.mem_append.1 ht with ht | ht
  ·exact h.lf t ht
  ·rw [List.mem_singleton.1 ht]; dsimp only; omega
 ·rcases List.mem_append.1 ht with ht | ht
  ·exact h.sp t ht
  ·rw [List.mem_singleton.1 ht]; exact ⟨rfl, rfl⟩
 ·dsimp only
  rw [has_app, h.rdy]
  simp only [List.mem_cons, not_or]
  constructor
  ·rintro (⟨h5, h6, h7⟩ | rfl)
   ·exact ⟨h5, h7⟩
   ·exact ⟨⟨h1, h2, h3⟩, hL.1⟩
  ·rintro ⟨h5, h6⟩
   by_cases e2 : y = x
   ·exact .inr e2.symm
   ·exact .inl ⟨h5, e2, h6⟩
 ·obtain ⟨h5, h6⟩ := clr_has.1 hy
  obtain ⟨h7, h8⟩ := h.al y h5
  refine ⟨h7, h8.imp id fun h9 => ?_⟩
  rcases List.mem_cons.1 h9 with h9 | h9
  ·exact absurd (by simp [h9]) h6
  ·exact h9
theorem TP.tells : ∀ {L M : List Int} {T : TS} (why : Int), TP T (L ++ M) → TP (tellS T why L) M
 | [], _, _, _, h => h
 | x :: L, M, T, why, h => TP.tells (L := L) (M := M) why (TP.tell (L := L ++ M) h why)
theorem tell_m (why : Int) : ∀ (l : List Int) (T : TS), (tellS T why l).m = T.m ∧ (tellS T why l).now = T.now ∧ (tellS T why l).tn = T.tn ∧ (tellS T why l).pr = T.pr ∧ (tellS T why l).sl = T.sl ∧ (tellS T why l).on = T.on ∧ (tellS T why l).told.length = T.told.length + l.length
 | [], _ => ⟨rfl, rfl, rfl, rfl, rfl, rfl, rfl⟩
 | x :: l, T => by
  obtain ⟨h1, h2, h3, h4, h5, h6, h7⟩ := tell_m why l (tell1 why T x)
  refine ⟨h1, h2, h3, h4, h5, h6, ?_⟩
  rw [show tellS T why (x :: l) = tellS (tell1 why T x) why l from rfl, h7]
  simp [tell1]; omega
theorem TP.meet {T : TS} (h : TP T []) {m : MS} (hW : WM m) (hi : m.ids = T.m.ids) (M : List Int) (hM : ∀ x ∈ M, x ∈ T.m.ids ∧ T.m.st x ≠ 0 ∧ m.st x = 0) (hn : ∀ x ∈ T.m.ids, x ∉ M → (m.st x = 0 ↔ T.m.st x = 0)) (hd : M.Nodup) : TP (mS T m) M := by
 refine ⟨hW, h.rj, h.lf, h.sp, fun x => ?_, h.na, fun x hx => ?_, fun x hx hs => ?_, fun x hx => h.ps x (hi ▸ hx), h.tm, fun x hx => ?_, hd⟩
 ·show hasS T.S x ↔ (x ∈ m.ids ∧ T.on x = true ∧ m.st x = 0) ∧ x ∉ M
  rw [h.rdy, hi]
  constructor
  ·rintro ⟨⟨h1, h2, h3⟩, _⟩
   have h4 : x ∉ M := fun h4 => (hM x h4).2.1 h3
   exact ⟨⟨h1, h2, (hn x h1 h4).2 h3⟩, h4⟩
  ·rintro ⟨⟨h1, h2, h3⟩, h4⟩
   exact ⟨⟨h1, h2, (hn x h1 h4).1 h3⟩, List.not_mem_nil⟩
 ·obtain ⟨h1, h2⟩ := h.al x hx
  refine ⟨hi ▸ h1, ?_⟩
  by_cases h4 : x ∈ M
  ·exact .inr h4
  ·exact .inl fun h5 => (h2.resolve_right List.not_mem_nil) ((hn x h1 h4).1 h5)
 ·have hx : x ∈ T.m.ids := hi ▸ hx
  have hs : m.st x ≠ 0 := hs
  have h4 : x ∉ M := fun h4 => hs (hM x h4).2.2
  exact h.off x hx fun h5 => hs ((hn x hx h4).2 h5)
 ·obtain ⟨h1, h2, h3⟩ := hM x hx
  exact ⟨hi ▸ h1, h.off x h1 h2, h3⟩
end Go.Proofs.YtnlgmaibhlicjaaGreatDoor
namespace Go.Proofs.YtnlgmaibhlicjaaGreatDoor
open Go Go.QM
open Al (En hasA Nd clrA setA offA dueA restA leftA ids)
open Rd (hasS NdS addS RInv topS runS tickS yieldS rndS)
structure TRep where
  q : Nat
  a : Nat
  p : Nat
  tb : Nat
  B : Int → Nat
  M : Int → Nat
  ad : Option Addr
  cap : Nat
abbrev xP (B : Int → Nat) (T : TS) (x : Int) : HP := pts (B x) 222 [.int .i64 (T.pr x), .int .i64 (T.sl x), .bool (T.on x)]
def isT (b : Nat) (T : TS) : HP := EX fun y : TRep => pure' T.m.ids.Nodup (sepL [pts b 201 [.pointer (some ⟨y.q, 0, none⟩), .pointer (some ⟨y.a, 0, none⟩), .pointer (some ⟨y.p, 0, none⟩), .map (some y.tb), .slice y.ad T.told.length y.cap], Rd.isQ y.q T.S, Al.isAl y.a T.now T.tn T.A, isMa y.p y.M T.m, mapF QM.encI y.tb (fM y.B T.m.ids) T.m.ids.length, bigS (xP y.B T) T.m.ids, slc 164 2 y.ad T.told.length y.cap (tgsC T.told)])
theorem xP_rd {B : Int → Nat} {T : TS} {L : List Int} {x : Int} (h : x ∈ L) : RdI (bigS (xP B T) L) (B x) (.cells (List.toArray [.int .i64 (T.pr x), .int .i64 (T.sl x), .bool (T.on x)]) 222 (0, 0)) := ⟨Rd_big h (Rd_pts _ _ _)⟩
theorem tell_snoc (T : TS) (why : Int) (l : List Int) {k : Nat} {x : Int} (h : l[k]? = some x) : tellS T why (l.take (k + 1)) = tell1 why (tellS T why (l.take k)) x := by
 rw [List.take_add_one, h, Option.toList, tellS, List.foldl_append, tellS]; rfl
theorem add_len (S : List Rd.Th) (id p s : Int) : (addS S id p s).1.length ≤ S.length + 1 := by
 rw [addS]; split
 ·exact Nat.le_add_right _ _
 ·split
  ·exact Nat.le_add_right _ _
  ·rw [List.length_append]; exact Nat.le_refl _
theorem tell_len (why : Int) : ∀ (l : List Int) (T : TS), (tellS T why l).S.length ≤ T.S.length + l.length ∧ (tellS T why l).A.length ≤ T.A.length
 | [], _ => ⟨Nat.le_refl _, Nat.le_refl _⟩
 | x :: l, T => by
  obtain ⟨h1, h2⟩ := tell_len why l (tell1 why T x)
  have h3 := add_len T.S x (T.pr x) (T.sl x)
  have h4 : (clrA T.A [x]).length ≤ T.A.length := (Al.clrA_sub _ _).length_le
  have e : tellS T why (x :: l) = tellS (tell1 why T x) why l := rfl
  have e1 : (tell1 why T x).S = (addS T.S x (T.pr x) (T.sl x)).1 := rfl
  have e2 : (tell1 why T x).A = clrA T.A [x] := rfl
  rw [e1] at h1; rw [e2] at h2
  rw [e, List.length_cons]; omega
structure TB (T : TS) : Prop where
  ids : T.m.ids.length ≤ 1000
  now : 0 ≤ T.now ∧ T.now ≤ 1000000000
  tn : 0 ≤ T.tn ∧ T.tn ≤ 1000000000
  told : T.told.length ≤ 100000000
theorem ids_of {S : List Rd.Th} (hn : NdS S) {L : List Int} (h : ∀ x, hasS S x → x ∈ L) : S.length ≤ L.length := by
 have := nodup_sub_len hn (m := L) fun x hx => by
  obtain ⟨t, ht, rfl⟩ := List.mem_map.1 hx
  exact h _ ⟨t, ht, rfl⟩
 simpa using this
theorem ids_ofA {S : List En} (hn : Nd S) {L : List Int} (h : ∀ x, hasA S x → x ∈ L) : S.length ≤ L.length := by
 have := nodup_sub_len hn (m := L) fun x hx => by
  obtain ⟨t, ht, rfl⟩ := List.mem_map.1 hx
  exact h _ ⟨t, ht, rfl⟩
 simpa using this
theorem TP.lenS {T : TS} {L : List Int} (h : TP T L) : T.S.length ≤ T.m.ids.length := ids_of h.rj.nd fun x hx => ((h.rdy x).1 hx).1.1
theorem TP.lenA {T : TS} {L : List Int} (h : TP T L) : T.A.length ≤ T.m.ids.length := ids_ofA h.na fun x hx => (h.al x hx).1
theorem TP.lenL {T : TS} {L : List Int} (h : TP T L) : L.length ≤ T.m.ids.length := nodup_sub_len h.Ln fun x hx => (h.L1 x hx).1
theorem add_ids (T : TS) (x : Int) : (addT T x).m = joinS T.m x := by
 rw [addT]; split
 ·rename_i h; rw [joinS, if_pos h]
 ·rfl
theorem addL_snoc (T : TS) (l : List Int) {k : Nat} {x : Int} (h : l[k]? = some x) : addL T (l.take (k + 1)) = addT (addL T (l.take k)) x := by
 rw [List.take_add_one, h, Option.toList, addL, List.foldl_append, addL]; rfl
theorem addL_len (l : List Int) : ∀ T : TS, T.m.ids.length ≤ (addL T l).m.ids.length ∧ (addL T l).m.ids.length ≤ T.m.ids.length + l.length := by
 induction l with
 | nil => exact fun T => ⟨Nat.le_refl _, Nat.le_refl _⟩
 | cons x l ih => intro T; have h1 := join_len T.m x; have h2 := ih (addT T x); rw [add_ids] at h2; rw [show addL T (x :: l) = addL (addT T x) l from rfl, List.length_cons]; omega
theorem tat_yes (b tb n : Nat) (B : Int → Nat) (ids : List Int) (id : Int) (h : id ∈ ids) (c0 c1 c2 c4 : Value) : FSpec Tryz.prog 101 [.pointer (some ⟨b, 0, none⟩), .int .i64 id] noRd [pts b 201 [c0, c1, c2, .map (some tb), c4], mapF QM.encI tb (fM B ids) n] (fun _ : Unit => .tuple #[.pointer (some ⟨(B id), 0, none⟩), .int .i64 0]) (fun _ => True) (fun _ => [pts b 201 [c0, c1, c2, .map (some tb), c4], mapF QM.encI tb (fM B ids) n]) := by
 refine fI Tryz.func101 Tryz.ntmps101 ?_
 intro F _
 refine zz [44,0,1,87,87,2,0,0,1,71,34,2,10,7,0,1,71,13,78,12,71,228] ?_
 rw [fM_yes h]
 refine zz [24,2,0,0,1,6,34,2,10,7,0,1,6,24,4,2,11] ?_
 exact zc5
theorem tat_no (b tb n : Nat) (B : Int → Nat) (ids : List Int) (id : Int) (h : id ∉ ids) (c0 c1 c2 c4 : Value) : FSpec Tryz.prog 101 [.pointer (some ⟨b, 0, none⟩), .int .i64 id] noRd [pts b 201 [c0, c1, c2, .map (some tb), c4], mapF QM.encI tb (fM B ids) n] (fun _ : Unit => .tuple #[.pointer none, .int .i64 6]) (fun _ => True) (fun _ => [pts b 201 [c0, c1, c2, .map (some tb), c4], mapF QM.encI tb (fM B ids) n]) := by
 refine fI Tryz.func101 Tryz.ntmps101 ?_
 intro F _
 refine zz [44,0,1,87,87,2,0,0,1,71,34,2,10,7,0,1,71,13,78,12,71,228] ?_
 rw [fM_no h]
 refine zz [24,2,0,0,1,6,34,2,40,0,1,24,4,2,51] ?_
 exact zc5
theorem tnew_ok  : FSpec Tryz.prog 45 [] noRd [] (fun b : Nat => .pointer (some ⟨b, 0, none⟩)) (fun _ => True) (fun b => [isT b t0]) := by
 refine fI Tryz.func45 Tryz.ntmps45 ?_
 intro F _
 refine zz [37,0,1,24,2,0,1,5] ?_
 refine cl Rd.rnew_ok rfl (picked_nil _) trivial ?_
 intro qb _
 refine zz [66,5] ?_
 refine cl Al.new_ok rfl (picked_nil _) trivial ?_
 intro a _
 refine zz [43,5] ?_
 refine cl (mnew_ok (fun _ => 0)) rfl (picked_nil _) trivial ?_
 intro pb _
 refine zz [46,5] ?_
 refine mkF QM.encI ?_
 intro b1
 first | refine q rfl rfl (bld (cs := [.pointer _, .pointer _, .pointer _, .map _, .slice _ _ _]) rfl) ?_ | refine q rfl rfl (bld (cs := [_, _, _, _, _]) rfl) ?_
 refine e rfl ?_
 refine bx (v := .agg #[_, _, _, _, _]) (l := [.pointer _, .pointer _, .pointer _, .map _, .slice _ _ _]) rfl rfl ?_
 intro b2
 refine zz [24,2,11] ?_
 have hf : fM (fun _ => 0) [] = fun _ => none := funext fun _ => if_neg (by simp)
 exact Ret.i b2 [_] ⟨rfl, trivial⟩ rfl trivial ((slc_nil 164 2 _).trans ((bigS_nil (f := xP (fun _ => 0) t0) _).trans (ent_close (⟨qb, a, pb, b1, fun _ => 0, fun _ => 0, none, 0⟩ : TRep) List.nodup_nil (ent_take 2 rfl (ent_take 5 rfl (ent_take 4 rfl (ent_take 3 rfl (ent_takeE 2 rfl (by dsimp only [t0, s0]; rw [hf]; rfl) (ent_take 0 rfl (ent_take 0 rfl (ent_take 0 rfl (ent_nil _))))))))))))
theorem tstate_ok (b : Nat) (T : TS) (id : Int) : FSpec Tryz.prog 162 [.pointer (some ⟨b, 0, none⟩), .int .i64 id] noRd [isT b T] (fun _ : Unit => .int .i64 (stT T id)) (fun _ => True) (fun _ => [isT b T]) := by
 refine fI Tryz.func162 Tryz.ntmps162 ?_
 intro F _
 refine zz [39] ?_
 refine TC.open 0 rfl (fun x0 hx0 => ?_)
 obtain ⟨qb, a, pb, tb, B, M, ad, cap⟩ := x0
 have hN := hx0
 refine zz [119] ?_
 dsimp only at hN ⊢
 by_cases h : id ∈ T.m.ids
 ·haveI := xP_rd (B := B) (T := T) (x := id) h
  refine zz [0,1,4,2,0,1,6,3,5] ?_
  refine cl (tat_yes b tb T.m.ids.length B T.m.ids id h (.pointer (some ⟨qb, 0, none⟩)) (.pointer (some ⟨a, 0, none⟩)) (.pointer (some ⟨pb, 0, none⟩)) (.slice ad T.told.length cap)) rfl PkL.p trivial ?_
  intro _ _
  refine zz [53,26,79,15,24,4,2,0,17,0,1,3,23,9,2,10,0,1,6,13,62,12,64,9,2] ?_
  cases hon : T.on id with
  | true => ?_
  | false => ?_
  ·have hv : stT T id = stR T.m id := by rw [stT, if_pos h, stR, if_pos h, hon]; rfl
   rw [hv]
   refine zz [10,42,0,1,6,13,62,12,3,5] ?_
   refine cl (mstate_ok pb M T.m id) rfl PkL.p trivial ?_
   intro _ _
   refine zz [53,4,2,11] ?_
   exact Ret.i () [_] ⟨rfl, trivial⟩ rfl trivial (ent_close (⟨qb, a, pb, tb, B, M, ad, cap⟩ : TRep) hN entS)
  ·have hv : stT T id = 4 := by rw [stT, if_pos h, hon]; rfl
   rw [hv]
   refine zz [40,0,1,4,2,56] ?_
   exact Ret.i () [_] ⟨rfl, trivial⟩ rfl trivial (ent_close (⟨qb, a, pb, tb, B, M, ad, cap⟩ : TRep) hN entS)
 ·have hv : stT T id = -1 := if_neg h
  rw [hv]
  refine zz [0,1,4,2,0,1,6,3,5] ?_
  refine cl (tat_no b tb T.m.ids.length B T.m.ids id h (.pointer (some ⟨qb, 0, none⟩)) (.pointer (some ⟨a, 0, none⟩)) (.pointer (some ⟨pb, 0, none⟩)) (.slice ad T.told.length cap)) rfl PkL.p trivial ?_
  intro _ _
  refine zz [53,26,79,15,24,4,2,0,17,0,1,3,23,9,2,40,0,1,4,2,56] ?_
  exact Ret.i () [_] ⟨rfl, trivial⟩ rfl trivial (ent_close (⟨qb, a, pb, tb, B, M, ad, cap⟩ : TRep) hN entS)
theorem tadd_ok (b : Nat) (T : TS) (ax : Option Addr) (cx : Nat) (xs : List Int) (hl : xs.length ≤ 100000) (hl2 : T.m.ids.length ≤ 100000) : FSpec Tryz.prog 57 [.pointer (some ⟨b, 0, none⟩), .slice ax xs.length cx] (fun F => ∃ E, RdS F E ax (ints xs)) [isT b T] (fun _ : Unit => .int .i64 ((addL T xs).m.ids.length - T.m.ids.length : Int)) (fun _ => True) (fun _ => [isT b (addL T xs)]) := by
 refine fI Tryz.func57 Tryz.ntmps57 ?_
 intro F ⟨E, hF⟩
 refine zz [39] ?_
 haveI : RdSI F ax E (ints xs) := ⟨hF⟩
 have hxl := ints_length xs
 refine zz [0,1,4,2,0,1,4,2,0,0,1,29,91,3,2,17] ?_
 refine TC.loop (ι := Nat) (fun k => k ≤ xs.length) (fun k => [(0, .pointer (some ⟨b, 0, none⟩)), (5, .int .i64 ((addL T (xs.take k)).m.ids.length - T.m.ids.length : Int)), (8, .slice ax xs.length cx), (9, .int .i64 xs.length), (10, .int .i64 ((k : Nat) : Int))]) (fun k => sepL [isT b (addL T (xs.take k)), F]) (fun k => xs.length - k) 0 (Nat.zero_le _) ⟨rfl, congrArg (Value.int .i64) (Int.sub_self _).symm, rfl, rfl, rfl, trivial⟩ (ent_take 0 rfl (ent_take 0 rfl (ent_nil _))) ?_
 rintro k hk ρ0
 dsimp only [updL] at hk ⊢
 refine zz [0,1,38,2,0] ?_
 first | refine TC.condD rfl (fun hlt => ?_) (fun hlt => ?_) | refine TC.cond rfl (fun hlt => ?_) (fun hlt => ?_)
 ·have hlt2 : k < xs.length := by omega
  obtain ⟨x, hx⟩ : ∃ x, xs[k]? = some x := ⟨xs[k], List.getElem?_eq_getElem hlt2⟩
  have hpos : 0 < (ints xs).length := by omega
  have hsn := addL_snoc T xs hx
  have hjl := addL_len (xs.take k) T
  have hjt : (xs.take k).length ≤ k := by rw [List.length_take]; omega
  generalize (addL T (xs.take k)) = Z at hsn hjl ⊢
  have hzi : Z.m.ids.length ≤ 1000000 := by omega
  refine TC.open 0 rfl (fun x0 hx0 => ?_)
  obtain ⟨qb, a, pb, tb, B, M, ad, cap⟩ := x0
  have hN := hx0
  refine zz [119] ?_
  dsimp only at hN ⊢
  refine zz [7,0,17,0,1,81] ?_
  first | refine q rfl rfl (ld rfl rfl rfl) ?_ | refine q rfl rfl (ldS rfl rfl (ints_get hx)) ?_ | refine q rfl rfl (ldS rfl rfl rfl) ?_
  refine zz [4,2,0,1,6,106,20,85,112,151] ?_
  first | refine qg rfl rfl rfl (ld rfl rfl rfl) ?_ | refine qg rfl rfl rfl (ldS rfl rfl (ints_get hx)) ?_ | refine qg rfl rfl rfl (ldS rfl rfl rfl) ?_
  refine zz [32,59,72] ?_
  intro b3
  refine eg rfl rfl ?_
  refine cl (mjoin_ok pb M Z.m (some ⟨b3, 0, none⟩) _ [x] (by simp) hzi) rfl PkL.p ⟨_, RdSI.rd (ad := some ⟨b3, 0, none⟩)⟩ ?_
  intro M2 _
  refine zz [45] ?_
  rw [show joinL Z.m [x] = joinS Z.m x from rfl]
  by_cases h : x ∈ Z.m.ids ∨ x < 0
  ·have hz : addT Z x = Z := if_pos h
   have hj : joinS Z.m x = Z.m := if_pos h
   rw [hz] at hsn
   rw [hj, Int.sub_self]
   refine zz [74,19,2,10,42,1,36,3,2] ?_
   exact ⟨rfl, (k + 1), (by omega), (by omega), ⟨rfl, congrArg (fun z : TS => Value.int .i64 ((z.m.ids.length : Int) - T.m.ids.length)) hsn.symm, rfl, rfl, rfl, trivial⟩, (by rw [hsn]; exact (ent_close (⟨qb, a, pb, tb, B, M2, ad, cap⟩ : TRep) hN entS))⟩
  ·have hz : addT Z x = { Z with m := joinS Z.m x, pr := updI Z.pr x 0, sl := updI Z.sl x 0, on := updI Z.on x false } := if_neg h
   have hj : (joinS Z.m x).ids = Z.m.ids ++ [x] := by rw [joinS, if_neg h]
   have hxi : x ∉ Z.m.ids := fun h2 => h (.inl h2)
   rw [hz] at hsn
   have h1 : ((joinS Z.m x).ids.length : Int) - (Z.m.ids.length : Int) = 1 := by rw [hj, List.length_append, List.length_singleton]; omega
   rw [h1]
   have hfx := fM_no (A := B) hxi
   have hN2 : (joinS Z.m x).ids.Nodup := join_nd hN x
   refine zz [74,19,2,40,0,1,6,13,78] ?_
   first | refine q rfl rfl (ld rfl rfl rfl) ?_ | refine q rfl rfl (ldS rfl rfl (ints_get hx)) ?_ | refine q rfl rfl (ldS rfl rfl rfl) ?_
   refine zz [3,272,5] ?_
   refine bx (v := .agg #[_, _, _]) (l := [.int _ _, .int _ _, .bool _]) rfl rfl ?_
   intro b4
   refine e0 ?_
   refine muF 3 220 rfl (KL.int rfl) rfl rfl rfl ?_
   refine zz [2,1,3,36,4,63,1,36,3,2] ?_
   have hne : ∀ y ∈ Z.m.ids, y ≠ x := fun y hy e2 => hxi (e2 ▸ hy)
   have hP2 : (x :: Z.m.ids).Perm (joinS Z.m x).ids := by rw [hj]; exact (List.perm_append_singleton _ _).symm
   have hcN : ∀ y ∈ Z.m.ids, xP B Z y = xP (updI B x b4) { Z with m := joinS Z.m x, pr := updI Z.pr x 0, sl := updI Z.sl x 0, on := updI Z.on x false } y := fun y hy => by
    have h2 := hne y hy
    dsimp only [xP]; simp only [updI_ne h2]
   have hAx : pts b4 222 [.int .i64 0, .int .i64 0, .bool false] = xP (updI B x b4) { Z with m := joinS Z.m x, pr := updI Z.pr x 0, sl := updI Z.sl x 0, on := updI Z.on x false } x := by dsimp only [xP]; simp only [updI_same]
   have hMF : mapF QM.encI tb (updF (fM B Z.m.ids) x (.pointer (some ⟨b4, 0, none⟩))) (if ((fM B Z.m.ids) x).isSome then Z.m.ids.length else Z.m.ids.length + 1) = mapF QM.encI tb (fM (updI B x b4) (joinS Z.m x).ids) (joinS Z.m x).ids.length := by
    rw [hj, fM_add, hfx, List.length_append]; rfl
   exact ⟨rfl, (k + 1), (by omega), (by omega), ⟨rfl, congrArg (Value.int .i64) (by rw [hsn]; show _ = ((joinS Z.m x).ids.length : Int) - _; omega), rfl, rfl, rfl, trivial⟩, (by rw [hsn]; exact (ent_close (⟨qb, a, pb, tb, updI B x b4, M2, ad, cap⟩ : TRep) hN2 (ent_take 4 rfl (ent_take 4 rfl (ent_take 4 rfl (ent_take 2 rfl (ent_takeE 0 rfl (hMF) (ent_closeB 0 1 x rfl rfl hAx hcN hP2 (ent_take 1 rfl (ent_take 1 rfl (ent_nil _)))))))))))⟩
 ·obtain rfl : k = xs.length := by omega
  rw [List.take_length]
  refine zz [50,0,1,3,4,2,11] ?_
  exact zc1
theorem ttell_ok (b : Nat) (T : TS) (hb : TB T) (why : Int) (av : Option Addr) (cv : Nat) (l : List Int) (hl : ∀ x ∈ l, x ∈ T.m.ids) (hS : T.S.length + l.length ≤ 1000000) (hA : T.A.length ≤ 500000) : FSpec Tryz.prog 216 [.pointer (some ⟨b, 0, none⟩), .int .i64 why, .slice av l.length cv] (fun F => ∃ E, RdS F E av (ints l)) [isT b T] (fun _ : Unit => .tuple #[]) (fun _ => True) (fun _ => [isT b (tellS T why l)]) := by
 refine fI Tryz.func216 Tryz.ntmps216 ?_
 intro F ⟨E, hF⟩
 refine zz [39] ?_
 haveI : RdSI F av E (ints l) := ⟨hF⟩
 have hxl := ints_length l
 refine zz [0,1,29,91,3,2,17] ?_
 refine TC.loop (ι := Nat) (fun k => k ≤ l.length) (fun k => [(0, .pointer (some ⟨b, 0, none⟩)), (1, .int .i64 why), (9, .slice av l.length cv), (10, .int .i64 l.length), (11, .int .i64 ((k : Nat) : Int))]) (fun k => sepL [isT b (tellS T why (l.take k)), F]) (fun k => l.length - k) 0 (Nat.zero_le _) ⟨rfl, rfl, rfl, rfl, rfl, trivial⟩ (ent_take 0 rfl (ent_take 0 rfl (ent_nil _))) ?_
 rintro k hk ρ0
 dsimp only [updL] at hk ⊢
 refine zz [0,1,38,2,0] ?_
 first | refine TC.condD rfl (fun hlt => ?_) (fun hlt => ?_) | refine TC.cond rfl (fun hlt => ?_) (fun hlt => ?_)
 ·have hlt2 : k < l.length := by omega
  obtain ⟨x, hx⟩ : ∃ x, l[k]? = some x := ⟨l[k], List.getElem?_eq_getElem hlt2⟩
  have hpos : 0 < (ints l).length := by omega
  have hsn := tell_snoc T why l hx
  obtain ⟨e1, e2, e3, e4, e5, e6, e7⟩ := tell_m why (l.take k) T
  have hjt : (l.take k).length ≤ k := by rw [List.length_take]; omega
  obtain ⟨hl1, hl2⟩ := tell_len why (l.take k) T
  have hxi : x ∈ (tellS T why (l.take k)).m.ids := by rw [e1]; exact hl x (List.mem_of_getElem? hx)
  have hnow := hb.now
  have htn := hb.tn
  have htold := hb.told
  rw [← e2] at hnow
  rw [← e3] at htn
  have hzt : (tellS T why (l.take k)).told.length ≤ 200000000 := by omega
  have hzs : (tellS T why (l.take k)).S.length ≤ 1000000 := by omega
  have hza : (tellS T why (l.take k)).A.length ≤ 500000 := by omega
  clear e1 e2 e3 e4 e5 e6 e7 hl1 hl2
  generalize (tellS T why (l.take k)) = Z at hsn hxi hnow htn hzt hzs hza ⊢
  have htl := tgsC_length Z.told
  refine TC.open 0 rfl (fun x0 hx0 => ?_)
  obtain ⟨qb, a, pb, tb, B, M, ad, cap⟩ := x0
  have hN := hx0
  refine zz [119] ?_
  dsimp only at hN ⊢
  haveI := xP_rd (B := B) (T := Z) (x := x) hxi
  refine zz [7,0,17,0,1,81] ?_
  first | refine q rfl rfl (ld rfl rfl rfl) ?_ | refine q rfl rfl (ldS rfl rfl (ints_get hx)) ?_ | refine q rfl rfl (ldS rfl rfl rfl) ?_
  refine zz [4,2,0,1,6,13,78] ?_
  first | refine q rfl rfl (ld rfl rfl rfl) ?_ | refine q rfl rfl (ldS rfl rfl (ints_get hx)) ?_ | refine q rfl rfl (ldS rfl rfl rfl) ?_
  refine zz [3,228] ?_
  rw [fM_yes hxi]
  refine zz [24,2,0,1,6,13,47] ?_
  first | refine q rfl rfl (ld rfl rfl rfl) ?_ | refine q rfl rfl (ldS rfl rfl (ints_get hx)) ?_ | refine q rfl rfl (ldS rfl rfl rfl) ?_
  refine zz [3,5,72] ?_
  intro b6
  refine e rfl ?_
  refine cl (Al.clear_ok a Z.now Z.tn Z.A (by omega) (some ⟨b6, 0, none⟩) _ [x] (by simp)) rfl PkL.p ⟨_, RdSI.rd (ad := some ⟨b6, 0, none⟩)⟩ ?_
  intro _ _
  refine zz [45] ?_
  refine TL.weak (B := sepL [Al.isAl a Z.now Z.tn (clrA Z.A [x]), pts b 201 [.pointer (some ⟨qb, 0, none⟩), .pointer (some ⟨a, 0, none⟩), .pointer (some ⟨pb, 0, none⟩), .map (some tb), .slice ad Z.told.length cap], Rd.isQ qb Z.S, isMa pb M Z.m, mapF QM.encI tb (fM B Z.m.ids) Z.m.ids.length, bigS (xP B Z) Z.m.ids, slc 164 2 ad Z.told.length cap (tgsC Z.told), F]) entS ?_
  refine zz [2,0] ?_
  refine TC.draw _ [] [(0, false), (1, false), (2, false), (3, false), (4, false), (5, false), (6, false), (7, false), (8, false), (9, false), (10, false), (11, false), (12, false), (13, true)] (by kernel_rfl) (by kernel_rfl) (ent_take 1 rfl (ent_take 4 rfl (ent_nil _))) ?_
  refine zz [28,31,25] ?_
  first | refine dq rfl rfl rfl (ld rfl rfl rfl) ?_ | refine dq rfl rfl rfl (ldS rfl rfl (ints_get hx)) ?_ | refine dq rfl rfl rfl (ldS rfl rfl rfl) ?_
  refine zz [33,28,31,25] ?_
  first | refine dq rfl rfl rfl (ld rfl rfl rfl) ?_ | refine dq rfl rfl rfl (ldS rfl rfl (ints_get hx)) ?_ | refine dq rfl rfl rfl (ldS rfl rfl rfl) ?_
  refine zz [28,31,60] ?_
  first | refine dq rfl rfl rfl (ld rfl rfl rfl) ?_ | refine dq rfl rfl rfl (ldS rfl rfl (ints_get hx)) ?_ | refine dq rfl rfl rfl (ldS rfl rfl rfl) ?_
  refine de rfl rfl ?_
  refine cl (Rd.add_ok qb Z.S hzs x (Z.pr x) (Z.sl x)) rfl PkL.p trivial ?_
  intro _ _
  refine zz [100,8,27,1,6,6,13,125] ?_
  first | refine q rfl rfl (ld rfl rfl rfl) ?_ | refine q rfl rfl (ldS rfl rfl (ints_get hx)) ?_ | refine q rfl rfl (ldS rfl rfl rfl) ?_
  refine zz [3,3,73,5,114] ?_
  intro b7
  refine e rfl ?_
  refine ap 16 rfl rfl rfl rfl rfl (Nat.le_of_ble_eq_true rfl) (show _ = tgsC [⟨x, why⟩] from rfl) rfl (by omega) (by simp only [maxLen]; omega) ?_
  intro ad1 cap1
  refine zz [13,125,21,110,63,1,36,3,2] ?_
  exact ⟨rfl, (k + 1), (by omega), (by omega), ⟨rfl, rfl, rfl, rfl, rfl, trivial⟩, (by rw [hsn]; exact (ent_close (⟨qb, a, pb, tb, B, M, ad1, cap1⟩ : TRep) hN (ent_takeE 0 rfl (by dsimp only [tell1]; rw [List.length_append]; rfl) (by (repeat (first | refine ent_take 0 rfl ?_ | refine ent_take 1 rfl ?_ | refine ent_take 2 rfl ?_ | refine ent_take 3 rfl ?_ | refine ent_take 4 rfl ?_ | refine ent_take 5 rfl ?_ | refine ent_take 6 rfl ?_ | refine ent_take 7 rfl ?_ | refine ent_take 8 rfl ?_ | refine ent_take 9 rfl ?_)); refine ent_takeE 0 rfl (by dsimp only [tell1]; rw [List.length_append, tgs_app]; rfl) ?_; exact entS))))⟩
 ·obtain rfl : k = l.length := by omega
  rw [List.take_length]
  refine TC.exit (et (et (eb ?_)))
  exact zc7
end Go.Proofs.YtnlgmaibhlicjaaGreatDoor
namespace Go.Proofs.YtnlgmaibhlicjaaGreatDoor
open Go Go.QM
open Al (En hasA Nd clrA setA offA dueA restA leftA ids)
open Rd (hasS NdS addS RInv topS runS tickS yieldS rndS)
theorem close_nd {s : MS} (hW : WM s) (g : Int) : (closeS s g).2.Nodup := by
 show (goneC s g (sortI s.ids)).Nodup
 have hn : (sortI s.ids).Nodup := (sortI_perm _).nodup_iff.2 hW.nd
 have hs : ∀ x ∈ sortI s.ids, x ∈ s.ids := fun x hx => sortI_mem.1 hx
 generalize sortI s.ids = D at hn hs
 induction D with
 | nil => exact List.nodup_nil
 | cons x D ih =>
  obtain ⟨h1, h2⟩ := List.nodup_cons.1 hn
  rw [show goneC s g (x :: D) = goneO (s.row x) (thru g) ++ goneC s g D by rw [goneC, goneC, List.flatMap_cons]]
  refine List.nodup_append.2 ⟨(hW.nr x (hs x (by simp))).sublist (List.filter_sublist.map _), ih h2 fun y hy => hs y (by simp [hy]), fun a ha c hc e => ?_⟩
  obtain ⟨o, ho, rfl⟩ := List.mem_map.1 ha
  obtain ⟨y, hy, u, hu, _, h3⟩ := goneC_mem.1 hc
  have := hW.one (hs x (by simp)) (hs y (by simp [hy])) (List.mem_filter.1 ho).1 hu (by rw [h3]; exact e)
  exact h1 (this.1 ▸ hy)
theorem close_st (s : MS) (g : Int) (x : Int) : (closeS s g).1.st x = if x ∈ (closeS s g).2 then 0 else s.st x := rfl
theorem TP.close {T : TS} (h : TP T []) (g : Int) : TP (closeT T g).1 [] := by
 rw [closeT]
 refine TP.tells (L := (closeS T.m g).2) (M := []) 13 ?_
 rw [List.append_nil]
 refine h.meet (h.wm.close g) rfl _ (fun x hx => ?_) (fun x hx hn => ?_) (close_nd h.wm g)
 ·have := gone_in h.wm hx
  exact ⟨this.1, by omega, by rw [close_st, if_pos hx]⟩
 ·rw [close_st, if_neg hn]
end Go.Proofs.YtnlgmaibhlicjaaGreatDoor
namespace Go.Proofs.YtnlgmaibhlicjaaGreatDoor
open Go Go.QM
open Al (En hasA Nd clrA setA offA dueA restA leftA ids)
open Rd (hasS NdS addS RInv topS runS tickS yieldS rndS)
theorem TP.bds {T : TS} {L : List Int} (h : TP T L) (hb : TB T) : T.S.length ≤ 1000 ∧ T.A.length ≤ 1000 ∧ L.length ≤ 1000 ∧ T.m.ids.length ≤ 1000 := by
 have h1 := h.lenS; have h2 := h.lenA; have h3 := h.lenL; have h4 := hb.ids; omega
theorem tstart_ok (b : Nat) (T : TS) (hP : TP T []) (hb : TB T) (id pr sl : Int) : FSpec Tryz.prog 59 [.pointer (some ⟨b, 0, none⟩), .int .i64 id, .int .i64 pr, .int .i64 sl] noRd [isT b T] (fun _ : Unit => .int .i64 (startS T id pr sl).2) (fun _ => True) (fun _ => [isT b (startS T id pr sl).1]) := by
 refine fI Tryz.func59 Tryz.ntmps59 ?_
 intro F _
 refine zz [39] ?_
 obtain ⟨hSl, hAl, _, hil⟩ := hP.bds hb
 have hW := hP.wm
 have hnow := hb.now
 have htn := hb.tn
 have htold := hb.told
 refine TC.open 0 rfl (fun x0 hx0 => ?_)
 obtain ⟨qb, a, pb, tb, B, M, ad, cap⟩ := x0
 have hN := hx0
 refine zz [119] ?_
 dsimp only at hN ⊢
 by_cases h : id ∈ T.m.ids
 ·haveI := xP_rd (B := B) (T := T) (x := id) h
  have hh : ¬ id ∉ T.m.ids := fun h2 => h2 h
  refine zz [0,1,4,2,0,1,6,3,5] ?_
  refine cl (tat_yes b tb T.m.ids.length B T.m.ids id h (.pointer (some ⟨qb, 0, none⟩)) (.pointer (some ⟨a, 0, none⟩)) (.pointer (some ⟨pb, 0, none⟩)) (.slice ad T.told.length cap)) rfl PkL.p trivial ?_
  intro _ _
  refine zz [53,26,79,15,24,4,2,0,17,0,1,3,23,9,2,10,0,1,3,38,20] ?_
  refine TL.split 24 rfl (fun g1 => ?_) (fun g1 => ?_)
  ·have g1 := of_decide_eq_true g1
   refine zz [22,22,19,20,22,22,19,20,22,22,19,9,2,40] ?_
   have hv : startS T id pr sl = (T, 1) := by rw [startS, if_neg hh, if_pos (by omega)]
   rw [hv]
   refine zz [0,1,4,2,56] ?_
   exact Ret.i () [_] ⟨rfl, trivial⟩ rfl trivial (ent_close (⟨qb, a, pb, tb, B, M, ad, cap⟩ : TRep) hN entS)
  ·have g1 := of_decide_eq_false g1
   refine zz [32,84,19,20] ?_
   refine TL.split 28 rfl (fun g2 => ?_) (fun g2 => ?_)
   ·have g2 := of_decide_eq_true g2
    refine zz [22,22,19,20,22,22,19,9,2,40] ?_
    have hv : startS T id pr sl = (T, 1) := by rw [startS, if_neg hh, if_pos (by omega)]
    rw [hv]
    refine zz [0,1,4,2,56] ?_
    exact Ret.i () [_] ⟨rfl, trivial⟩ rfl trivial (ent_close (⟨qb, a, pb, tb, B, M, ad, cap⟩ : TRep) hN entS)
   ·have g2 := of_decide_eq_false g2
    refine zz [32,88,19,20] ?_
    refine TL.split 32 rfl (fun g3 => ?_) (fun g3 => ?_)
    ·have g3 := of_decide_eq_true g3
     refine zz [22,22,19,9,2,40] ?_
     have hv : startS T id pr sl = (T, 1) := by rw [startS, if_neg hh, if_pos (by omega)]
     rw [hv]
     refine zz [0,1,4,2,56] ?_
     exact Ret.i () [_] ⟨rfl, trivial⟩ rfl trivial (ent_close (⟨qb, a, pb, tb, B, M, ad, cap⟩ : TRep) hN entS)
    ·have g3 := of_decide_eq_false g3
     refine zz [32,84,19,9,2] ?_
     first | refine TC.condD rfl (fun g4 => ?_) (fun g4 => ?_) | refine TC.cond rfl (fun g4 => ?_) (fun g4 => ?_)
     ·have hv : startS T id pr sl = (T, 1) := by rw [startS, if_neg hh, if_pos (by omega)]
      rw [hv]
      refine zz [0,1,4,2,56] ?_
      exact Ret.i () [_] ⟨rfl, trivial⟩ rfl trivial (ent_close (⟨qb, a, pb, tb, B, M, ad, cap⟩ : TRep) hN entS)
     ·have hbad : ¬ (pr < 0 ∨ 7 < pr ∨ sl < 1 ∨ 16 < sl) := by omega
      refine zz [0,1,6,13,62,12,9,2] ?_
      cases hon : T.on id with
      | true => ?_
      | false => ?_
      ·have hv : startS T id pr sl = (T, 12) := by rw [startS, if_neg hh, if_neg hbad, if_pos hon]
       rw [hv]
       refine zz [40,0,1,4,2,56] ?_
       exact Ret.i () [_] ⟨rfl, trivial⟩ rfl trivial (ent_close (⟨qb, a, pb, tb, B, M, ad, cap⟩ : TRep) hN entS)
      ·have hv : startS T id pr sl = ({ T with S := (addS T.S id pr sl).1, pr := updI T.pr id pr, sl := updI T.sl id sl, on := updI T.on id true }, (addS T.S id pr sl).2) := by rw [startS, if_neg hh, if_neg hbad, if_neg (by rw [hon]; decide)]
       rw [hv]
       dsimp only
       refine zz [10,42,0] ?_
       clear this
       obtain ⟨L9, hL9⟩ := perm_mem h
       have hne9 := nd_ne hN hL9
       refine TC.weak (ent_openB 5 rfl hL9) ?_
       refine zz [1,6,3,3,272,13,21,48,2,0] ?_
       refine TC.weak (ent_closeB (g := xP B { T with S := (addS T.S id pr sl).1, pr := updI T.pr id pr, sl := updI T.sl id sl, on := updI T.on id true }) 0 0 id rfl rfl (by dsimp only [xP]; simp only [updI_same]; try rfl) (fun y hy => by have h2 := hne9 y hy; dsimp only [xP]; simp only [updI_ne h2]) hL9.symm (ent.refl _)) ?_
       refine zz [1,6,13,14,12,3,3,3,5] ?_
       refine cl (Rd.add_ok qb T.S (by omega) id pr sl) rfl PkL.p trivial ?_
       intro _ _
       refine zz [53,4,2,11] ?_
       exact Ret.i () [_] ⟨rfl, trivial⟩ rfl trivial (ent_close (⟨qb, a, pb, tb, B, M, ad, cap⟩ : TRep) hN entS)
 ·have hv : startS T id pr sl = (T, 6) := if_pos h
  rw [hv]
  refine zz [0,1,4,2,0,1,6,3,5] ?_
  refine cl (tat_no b tb T.m.ids.length B T.m.ids id h (.pointer (some ⟨qb, 0, none⟩)) (.pointer (some ⟨a, 0, none⟩)) (.pointer (some ⟨pb, 0, none⟩)) (.slice ad T.told.length cap)) rfl PkL.p trivial ?_
  intro _ _
  refine zz [53,26,79,15,24,4,2,0,17,0,1,3,23,9,2,40,0,1,3,4,2,56] ?_
  exact Ret.i () [_] ⟨rfl, trivial⟩ rfl trivial (ent_close (⟨qb, a, pb, tb, B, M, ad, cap⟩ : TRep) hN entS)
theorem tclose_ok (b : Nat) (T : TS) (hP : TP T []) (hb : TB T) (gt : Int) : FSpec Tryz.prog 228 [.pointer (some ⟨b, 0, none⟩), .int .i64 gt] noRd [isT b T] (fun _ : Unit => .int .i64 (closeT T gt).2) (fun _ => True) (fun _ => [isT b (closeT T gt).1]) := by
 refine fI Tryz.func228 Tryz.ntmps228 ?_
 intro F _
 refine zz [39] ?_
 obtain ⟨hSl, hAl, _, hil⟩ := hP.bds hb
 have hW := hP.wm
 have hnow := hb.now
 have htn := hb.tn
 have htold := hb.told
 refine zz [0,1,4,2,0,0,1,6,34,2,10,7,0] ?_
 refine TC.open 0 rfl (fun x0 hx0 => ?_)
 obtain ⟨qb, a, pb, tb, B, M, ad, cap⟩ := x0
 have hN := hx0
 refine zz [119] ?_
 dsimp only at hN ⊢
 refine zz [1,6,13,62,12,3,5] ?_
 refine cl (mclose_ok pb M T.m hW gt (by omega)) rfl PkL.p trivial ?_
 intro yl _
 refine zz [45] ?_
 have hgn : ∀ x ∈ (closeS T.m gt).2, x ∈ T.m.ids := fun x hx => (gone_in hW hx).1
 have hgl := nodup_sub_len (close_nd hW gt) hgn
 have hv : closeT T gt = (tellS (mS T (closeS T.m gt).1) 13 (closeS T.m gt).2, ((closeS T.m gt).2.length : Int)) := rfl
 rw [hv]
 dsimp only
 clear hv
 generalize (closeS T.m gt).2 = G9 at hgn hgl ⊢
 have hgi := ints_length G9
 have hi9 := (show (closeS T.m gt).1.ids = T.m.ids from rfl)
 generalize (closeS T.m gt).1 = m9 at hi9 ⊢
 rw [← hi9] at hN
 rw [← hi9]
 refine zz [35,2,0] ?_
 refine TC.weak (B := sepL [isT b (mS T m9), slc 3 1 yl.1 G9.length yl.2 (ints G9), F]) ((ent_close (⟨qb, a, pb, tb, B, M, ad, cap⟩ : TRep) hN entS)) ?_
 have hb9 : TB (mS T m9) := ⟨by rw [show (mS T m9).m = m9 from rfl, hi9]; exact hb.ids, hb.now, hb.tn, hb.told⟩
 refine zz [1,6,29,5] ?_
 refine cl (ttell_ok b (mS T m9) hb9 (13) yl.1 _ G9 (fun x hx => by show x ∈ m9.ids; rw [hi9]; exact hgn x hx) (by show T.S.length + _ ≤ _; first | omega | (simp <;> omega)) (by show T.A.length ≤ _; omega)) rfl PkL.p ⟨_, RdSI.rd (ad := yl.1)⟩ ?_
 intro _ _
 refine zz [43,2,0,1,29,91,4,2,11] ?_
 exact zc0
end Go.Proofs.YtnlgmaibhlicjaaGreatDoor
namespace Go.Proofs.YtnlgmaibhlicjaaGreatDoor
open Go Go.QM
open Al (En hasA Nd clrA setA offA dueA restA leftA ids)
open Rd (hasS NdS addS RInv topS runS tickS yieldS rndS)
theorem TP.start {T : TS} (h : TP T []) (id p s : Int) : TP (startS T id p s).1 [] := by
 rw [startS]
 split
 ·exact h
 ·rename_i h1
  have h1 := Decidable.not_not.1 h1
  split
  ·exact h
  ·rename_i h2
   split
   ·exact h
   ·rename_i h3
    have hx : ¬ hasS T.S id := fun h4 => h3 ((h.rdy id).1 h4).1.2.1
    have h0 := h.wm.ge id h1
    have hs : T.m.st id = 0 := Decidable.byContradiction fun h4 => h3 (h.off id h1 h4)
    rw [add_yes h0 (by omega) (by omega) hx]
    refine ⟨h.wm, h.rj.add (t := ⟨id, p, s, s⟩) hx (by dsimp only; omega), fun t ht => ?_, fun t ht => ?_, fun y => ?_, h.na, h.al, fun y hy hst => ?_, fun y hy hon => ?_, h.tm, fun y hy => (List.not_mem_nil hy).elim, List.nodup_nil⟩
    ·rcases List.mem_append.1 ht with ht | ht
     ·exact h.lf t ht
     ·rw [List.mem_singleton.1 ht]; dsimp only; omega
    ·show t.prio = updI T.pr id p t.id ∧ t.whole = updI T.sl id s t.id
     rcases List.mem_append.1 ht with ht | ht
     ·have hne : t.id ≠ id := fun e => hx ⟨t, ht, e⟩
      rw [updI_ne hne, updI_ne hne]; exact h.sp t ht
     ·rw [List.mem_singleton.1 ht]; dsimp only; rw [updI_same, updI_same]; exact ⟨rfl, rfl⟩
    ·show hasS (T.S ++ [⟨id, p, s, s⟩]) y ↔ (y ∈ T.m.ids ∧ updI T.on id true y = true ∧ T.m.st y = 0) ∧ y ∉ []
     rw [has_app, h.rdy]
     by_cases e : y = id
     ·rw [e, updI_same]
      exact ⟨fun _ => ⟨⟨h1, rfl, hs⟩, List.not_mem_nil⟩, fun _ => .inr rfl⟩
     ·rw [updI_ne e]
      exact ⟨fun h4 => h4.resolve_right fun e2 => e e2.symm, .inl⟩
    ·show updI T.on id true y = true
     by_cases e : y = id
     ·rw [e, updI_same]
     ·rw [updI_ne e]; exact h.off y hy hst
    ·have hon : updI T.on id true y = true := hon
     show (0 ≤ updI T.pr id p y ∧ updI T.pr id p y ≤ 7) ∧ 1 ≤ updI T.sl id s y ∧ updI T.sl id s y ≤ 16
     by_cases e : y = id
     ·rw [e, updI_same, updI_same]; omega
     ·rw [updI_ne e] at hon
      rw [updI_ne e, updI_ne e]; exact h.ps y hy hon
theorem TP.add {T : TS} (h : TP T []) (id : Int) : TP (addT T id) [] := by
 rw [addT]
 split
 ·exact h
 ·rename_i hn
  have hx : id ∉ T.m.ids := fun h2 => hn (.inl h2)
  have hj : joinS T.m id = ⟨T.m.ids ++ [id], updI T.m.st id 0, updI T.m.cl id (-1), updI T.m.pn id (-1), updI T.m.row id []⟩ := if_neg hn
  have hW := h.wm.join id
  have hne : ∀ y ∈ T.m.ids, y ≠ id := fun y hy e => hx (e ▸ hy)
  have hm : ∀ y, y ∈ (joinS T.m id).ids ↔ y ∈ T.m.ids ∨ y = id := fun y => by rw [hj]; simp
  have hst : ∀ y, y ≠ id → (joinS T.m id).st y = T.m.st y := fun y hy => by rw [hj]; exact updI_ne hy
  refine ⟨hW, h.rj, h.lf, fun t ht => ?_, fun y => ?_, h.na, fun y hy => ?_, fun y hy hs => ?_, fun y hy hon => ?_, h.tm, fun y hy => (List.not_mem_nil hy).elim, List.nodup_nil⟩
  ·have h2 := ((h.rdy t.id).1 ⟨t, ht, rfl⟩).1.1
   show t.prio = updI T.pr id 0 t.id ∧ t.whole = updI T.sl id 0 t.id
   rw [updI_ne (hne _ h2), updI_ne (hne _ h2)]; exact h.sp t ht
  ·show hasS T.S y ↔ (y ∈ (joinS T.m id).ids ∧ updI T.on id false y = true ∧ (joinS T.m id).st y = 0) ∧ y ∉ []
   rw [h.rdy, hm]
   by_cases e : y = id
   ·rw [e, updI_same]
    exact ⟨fun h4 => absurd h4.1.1 hx, fun h4 => by cases h4.1.2.1⟩
   ·rw [updI_ne e, hst y e]
    exact ⟨fun h4 => ⟨⟨.inl h4.1.1, h4.1.2⟩, h4.2⟩, fun h4 => ⟨⟨h4.1.1.resolve_right e, h4.1.2⟩, h4.2⟩⟩
  ·have h2 := h.al y hy
   exact ⟨(hm y).2 (.inl h2.1), .inl (by show (joinS T.m id).st y ≠ 0; rw [hst y (hne y h2.1)]; exact h2.2.resolve_right List.not_mem_nil)⟩
  ·have hs : (joinS T.m id).st y ≠ 0 := hs
   have e : y ≠ id := fun e => hs (by rw [e, hj]; exact updI_same _ _ _)
   show updI T.on id false y = true
   rw [updI_ne e]
   rw [hst y e] at hs
   exact h.off y (((hm y).1 hy).resolve_right e) hs
  ·have hon : updI T.on id false y = true := hon
   have e : y ≠ id := fun e => by rw [e, updI_same] at hon; cases hon
   rw [updI_ne e] at hon
   show (0 ≤ updI T.pr id 0 y ∧ updI T.pr id 0 y ≤ 7) ∧ 1 ≤ updI T.sl id 0 y ∧ updI T.sl id 0 y ≤ 16
   rw [updI_ne e, updI_ne e]
   exact h.ps y (((hm y).1 hy).resolve_right e) hon
theorem TP.adds (l : List Int) : ∀ {T : TS}, TP T [] → TP (addL T l) [] := by
 induction l with
 | nil => exact fun h => h
 | cons x l ih => intro T h; exact ih (h.add x)
theorem TP.zero : TP t0 [] := ⟨WM.zero, Rd.RInv.nil, (fun t h => by cases h), (fun t h => by cases h), fun x => ⟨(fun ⟨t, h, _⟩ => (by cases h)), (fun h => (List.not_mem_nil h.1.1).elim)⟩, List.nodup_nil, (fun x ⟨t, h, _⟩ => by cases h), fun x h => (List.not_mem_nil h).elim, fun x h => (List.not_mem_nil h).elim, (fun e h => by cases h), fun x h => (List.not_mem_nil h).elim, List.nodup_nil⟩
theorem trun_ok (b : Nat) (T : TS) (hP : TP T []) (hb : TB T) : FSpec Tryz.prog 64 [.pointer (some ⟨b, 0, none⟩)] noRd [isT b T] (fun _ : Unit => .int .i64 (runS T.S)) (fun _ => True) (fun _ => [isT b T]) := by
 refine fI Tryz.func64 Tryz.ntmps64 ?_
 intro F _
 refine zz [39] ?_
 obtain ⟨hSl, hAl, _, hil⟩ := hP.bds hb
 have hW := hP.wm
 have hnow := hb.now
 have htn := hb.tn
 have htold := hb.told
 refine TC.open 0 rfl (fun x0 hx0 => ?_)
 obtain ⟨qb, a, pb, tb, B, M, ad, cap⟩ := x0
 have hN := hx0
 refine zz [119] ?_
 dsimp only at hN ⊢
 refine zz [0,1,4,2,0,0,1,6,34,2,10,7,0,1,6,13,14,12,5] ?_
 refine cl (Rd.run_ok qb T.S (by omega)) rfl PkL.p trivial ?_
 intro _ _
 refine zz [53,4,2,11] ?_
 exact Ret.i () [_] ⟨rfl, trivial⟩ rfl trivial (ent_close (⟨qb, a, pb, tb, B, M, ad, cap⟩ : TRep) hN entS)
theorem ttold_ok (b : Nat) (T : TS) : FSpec Tryz.prog 65 [.pointer (some ⟨b, 0, none⟩)] noRd [isT b T] (fun y : Option Addr × Nat => .slice y.1 T.told.length y.2) (fun _ => True) (fun y => [slc 164 2 y.1 T.told.length y.2 (tgsC T.told), isT b (toldT T)]) := by
 refine fI Tryz.func65 Tryz.ntmps65 ?_
 intro F _
 refine zz [39] ?_
 refine TC.open 0 rfl (fun x0 hx0 => ?_)
 obtain ⟨qb, a, pb, tb, B, M, ad, cap⟩ := x0
 have hN := hx0
 refine zz [119] ?_
 dsimp only at hN ⊢
 refine zz [0,1,35,2,0,0,1,6,34,2,10,7,0,1,6,13,125,12,35,2,0,1,6,13,125,21,110,2,0,1,29,35,2,11] ?_
 exact Ret.i ⟨ad, cap⟩ [_] ⟨rfl, trivial⟩ rfl trivial ((slc_nil 164 2 _).trans (ent_take 7 rfl (ent_close (⟨qb, a, pb, tb, B, M, none, 0⟩ : TRep) hN entS)))
theorem tsame_ok (a1 : Option Addr) (c1 : Nat) (xs : List Tg) (a2 : Option Addr) (c2 : Nat) (ys : List Tg) (hl : xs.length ≤ 100000000) : FSpec Tryz.prog 33 [.slice a1 xs.length c1, .slice a2 ys.length c2] (fun F => (∃ E, RdS F E a1 (tgsC xs)) ∧ ∃ E, RdS F E a2 (tgsC ys)) [] (fun _ : Unit => .bool (decide (xs = ys))) (fun _ => True) (fun _ => []) := by
 refine fI Tryz.func33 Tryz.ntmps33 ?_
 intro F ⟨⟨E1, hF1⟩, ⟨E2, hF2⟩⟩
 refine zz [37] ?_
 haveI : RdSI F a1 E1 (tgsC xs) := ⟨hF1⟩
 haveI : RdSI F a2 E2 (tgsC ys) := ⟨hF2⟩
 have hil1 := tgsC_length xs
 have hil2 := tgsC_length ys
 refine zz [0,1,9,2,0,0,1,29,229,29,229,23,2] ?_
 first | refine TC.condD rfl (fun hne => ?_) (fun hne => ?_) | refine TC.cond rfl (fun hne => ?_) (fun hne => ?_)
 ·refine zz [0,1,9,2,51] ?_
  have hd : decide (xs = ys) = false := decide_eq_false (fun e => hne (by rw [e]))
  exact Ret.i () [_] ⟨rfl, trivial⟩ (by rw [hd]; rfl) trivial (ent_take 0 rfl (ent_nil _))
 ·have hle : xs.length = ys.length := by omega
  refine zz [7,0,0,1,4,2,17] ?_
  refine TC.loop (ι := Nat) (fun i => i ≤ xs.length ∧ xs.take i = ys.take i) (fun i => [(0, .slice a1 xs.length c1), (1, .slice a2 ys.length c2), (5, .int .i64 ((i : Nat) : Int))]) (fun i => sepL [F]) (fun i => xs.length - i) 0 ⟨Nat.zero_le _, rfl⟩ ⟨rfl, rfl, rfl, trivial⟩ (ent_take 0 rfl (ent_nil _)) ?_
  rintro k ⟨hinv, hsame⟩ ρ0
  dsimp only [updL] at hinv hsame ⊢
  refine zz [0,0,1,3,29,229,38,2] ?_
  first | refine TC.condD rfl (fun hlt => ?_) (fun hlt => ?_) | refine TC.cond rfl (fun hlt => ?_) (fun hlt => ?_)
  ·have hlt : k < xs.length := by omega
   have hlt2 : k < ys.length := by omega
   obtain ⟨u, hu⟩ : ∃ u, xs[k]? = some u := ⟨xs[k], List.getElem?_eq_getElem hlt⟩
   obtain ⟨v, hv⟩ : ∃ v, ys[k]? = some v := ⟨ys[k], List.getElem?_eq_getElem hlt2⟩
   have hp1 : 0 < (tgsC xs).length := by omega
   have hp2 : 0 < (tgsC ys).length := by omega
   refine zz [7,0,17,0] ?_
   refine TC.draw _ [] [(0, false), (1, false), (2, false), (3, false), (4, false), (5, false), (6, false), (7, false), (8, false)] (by kernel_rfl) (by kernel_rfl) (ent.refl _) ?_
   refine zz [102,33,273] ?_
   first | refine dq rfl rfl rfl (ldN (vs := ints [_, _]) 2 rfl rfl rfl rfl) ?_ | refine dq rfl rfl rfl (ldSN (vs := ints [_, _]) 2 rfl rfl (flat_get_rec tgC_sz hu) rfl (by decide)) ?_ | refine dq rfl rfl rfl (ldSN (vs := ints [_, _]) 2 rfl rfl (flat_get_rec tgC_sz hv) rfl (by decide)) ?_ | refine dq rfl rfl rfl (ldSN (vs := ints [_, _]) 2 rfl rfl rfl rfl (by decide)) ?_
   refine zz [102,33,273] ?_
   first | refine dq rfl rfl rfl (ldN (vs := ints [_, _]) 2 rfl rfl rfl rfl) ?_ | refine dq rfl rfl rfl (ldSN (vs := ints [_, _]) 2 rfl rfl (flat_get_rec tgC_sz hu) rfl (by decide)) ?_ | refine dq rfl rfl rfl (ldSN (vs := ints [_, _]) 2 rfl rfl (flat_get_rec tgC_sz hv) rfl (by decide)) ?_ | refine dq rfl rfl rfl (ldSN (vs := ints [_, _]) 2 rfl rfl rfl rfl (by decide)) ?_
   refine dq rfl rfl rfl (neS 2 (by kernel_rfl) rfl rfl rfl rfl) ?_
   refine TD.nil (nt ?_)
   first | refine TC.condD rfl (fun hd => ?_) (fun hd => ?_) | refine TC.cond rfl (fun hd => ?_) (fun hd => ?_)
   ·refine zz [0,1,9,2,143] ?_
    have hdd : decide (xs = ys) = false := decide_eq_false (fun e => by subst e; rw [hu] at hv; cases hv; exact hd rfl)
    exact Ret.i () [_] ⟨rfl, trivial⟩ (by rw [hdd]; rfl) trivial (ent_take 0 rfl (ent_nil _))
   ·have huv : u = v := by
     obtain ⟨a9, b9⟩ := u; obtain ⟨c9, d9⟩ := v
     have := Decidable.not_not.1 hd
     simp at this
     rw [this.1, this.2]
    refine zz [42,1,3,36,4,2] ?_
    exact ⟨rfl, (k + 1), ⟨by omega, by rw [List.take_add_one, List.take_add_one, hsame, hu, hv, huv]⟩, (by omega), ⟨rfl, rfl, rfl, trivial⟩, (ent_take 0 rfl (ent_nil _))⟩
  ·obtain rfl : k = xs.length := by omega
   have hdd : decide (xs = ys) = true := decide_eq_true (by rw [List.take_length, hle, List.take_length] at hsame; exact hsame)
   refine zz [50,0,1,9,2,11] ?_
   exact Ret.i () [_] ⟨rfl, trivial⟩ (by rw [hdd]; rfl) trivial (ent_take 0 rfl (ent_nil _))
end Go.Proofs.YtnlgmaibhlicjaaGreatDoor
namespace Go.Proofs.YtnlgmaibhlicjaaGreatDoor
open Go Go.QM
def encU (x : Int) : Value := .int .u32 x
theorem KL.u32 {P : Program} {kt : TypeId} (h : P.underlying kt = some (.int .u32)) : KL P kt encU where
 chk := fun emp a w => by
  unfold Instr.checkKey
  simp [underlying, h, encU]
 find := fun a m es w he => by
  have key : ∀ (m : List (Int × Value)) (es : List MapEntry) (i : Nat), es.map (fun e => (e.key, e.val)) = m.map (fun t => (encU t.1, t.2)) → Instr.findNow (.int .u32) (encU a) es i = some (findM a m i) := by
   intro m
   induction m with
   | nil => intro es i he; cases es with | nil => rfl | cons e es => simp at he
   | cons t m ih =>
    intro es i he
    cases es with
    | nil => simp at he
    | cons e es =>
     simp only [List.map_cons, List.cons.injEq, Prod.mk.injEq] at he
     obtain ⟨⟨h1, h2⟩, h3⟩ := he
     rw [Instr.findNow, h1]
     simp only [encU, Instr.sameNow, if_true, findM]
     by_cases hc : a = t.1
     ·simp [hc, h2]
     ·have : (a == t.1) = false := by simpa using hc
      simp only [this, if_neg hc]
      exact ih es (i + 1) h3
  simp [Instr.findKey, underlying, h, key m es 0 he]
 same := fun a => by simp [Instr.sameBits, encU]
def irqC (rm : Nat) : List Value := [.map (some rm), .int .i64 0, .int .i64 0, .int .i64 0, .int .i64 0, .int .i64 0, .int .i64 0, .int .i64 0, .int .i64 0, .int .i64 0, .int .i64 0, .int .i64 0, .int .i64 0, .int .i64 0, .int .i64 0, .int .i64 0, .int .i64 0, .slice none 0 0]
structure IqR where
  rm : Nat
def isIq (b : Nat) (f : Int → Option Value) (n : Nat) : HP := EX fun y : IqR => pure' True (sepL [pts b 205 (irqC y.rm), mapF QM.encI y.rm f n])
theorem crnew_ok (sb : Nat) : FSpec Tryz.prog 19 [.pointer (some ⟨sb, 0, none⟩)] noRd [] (fun y : Nat × Nat => .pointer (some ⟨y.1, 0, none⟩)) (fun _ => True) (fun y => [pts y.1 133 [.pointer (some ⟨y.2, 0, none⟩)], pts y.2 131 [.pointer (some ⟨sb, 0, none⟩)]]) := by
 refine fI Tryz.func19 Tryz.ntmps19 ?_
 intro F _
 refine zz [37,0,1,24,2,0,0,1,6,34,2,10,7,0,1,6,198,5] ?_
 refine bx (v := .agg #[_]) (l := [.pointer _]) rfl rfl ?_
 intro b1
 refine zz [198,5] ?_
 refine bx (v := .agg #[_]) (l := [.pointer _]) rfl rfl ?_
 intro b2
 refine zz [24,2,11] ?_
 exact Ret.i (b2, b1) [_] ⟨rfl, trivial⟩ rfl trivial entS
theorem crsp_ok (crb hob sb : Nat) : FSpec Tryz.prog 29 [.pointer (some ⟨crb, 0, none⟩)] noRd [pts crb 133 [.pointer (some ⟨hob, 0, none⟩)], pts hob 131 [.pointer (some ⟨sb, 0, none⟩)]] (fun _ : Unit => .pointer (some ⟨sb, 0, none⟩)) (fun _ => True) (fun _ => [pts crb 133 [.pointer (some ⟨hob, 0, none⟩)], pts hob 131 [.pointer (some ⟨sb, 0, none⟩)]]) := by
 refine fI Tryz.func29 Tryz.ntmps29 ?_
 intro F _
 refine zz [44,0,1,24,2,0,0,1,6,34,2,10,7,0,1,6,13,14,12,13,14,12,24,2,11] ?_
 exact zc0
theorem iqnew_ok  : FSpec Tryz.prog 46 [] noRd [] (fun b : Nat => .pointer (some ⟨b, 0, none⟩)) (fun _ => True) (fun b => [isIq b (fun _ => none) 0]) := by
 refine fI Tryz.func46 Tryz.ntmps46 ?_
 intro F _
 refine zz [37,0,1,24,2,0,1,5] ?_
 refine mkF QM.encI ?_
 intro b3
 refine q rfl rfl (bld (cs := irqC b3) (by kernel_rfl)) ?_
 refine e rfl ?_
 refine bx (v := .agg (irqC b3).toArray) (l := irqC b3) rfl rfl ?_
 intro bq
 refine zz [24,2,11] ?_
 exact Ret.i bq [_] ⟨rfl, trivial⟩ rfl trivial (ent_close (⟨b3⟩ : IqR) trivial entS)
theorem iqat_no (irb rm : Nat) (f : Int → Option Value) (n : Nat) (id : Int) (hf : f id = none) : FSpec Tryz.prog 100 [.pointer (some ⟨irb, 0, none⟩), .int .i64 id] noRd [pts irb 205 (irqC rm), mapF QM.encI rm f n] (fun _ : Unit => .tuple #[.pointer none, .int .i64 6]) (fun _ => True) (fun _ => [pts irb 205 (irqC rm), mapF QM.encI rm f n]) := by
 refine fI Tryz.func100 Tryz.ntmps100 ?_
 intro F _
 refine zz [44,0,1,24,4,2,0,0,1,6,34,2,10,7,0,1,6,13,14,12,3] ?_
 refine q rfl rfl (luF 3 223 rfl rfl (KL.int rfl) rfl rfl) ?_
 rw [hf]
 refine zz [24,2,0,0,1,6,34,2,40,0,1,24,4,2,51] ?_
 exact zc3
theorem iqadd_ok (irb : Nat) (f : Int → Option Value) (n : Nat) (id : Int) (hf : f id = none) (hid : 0 ≤ id) : FSpec Tryz.prog 58 [.pointer (some ⟨irb, 0, none⟩), .int .i64 id] noRd [isIq irb f n] (fun _ : Nat => .int .i64 0) (fun _ => True) (fun qb => [isIq irb (updF f id (.pointer (some ⟨qb, 0, none⟩))) (n + 1)]) := by
 refine fI Tryz.func58 Tryz.ntmps58 ?_
 intro F _
 refine zz [39,0,1,4,2,0,0,1,6,3] ?_
 refine TL.open 0 rfl (fun x0 hx0 => ?_)
 obtain ⟨rm⟩ := x0
 clear hx0
 refine zz [43,5] ?_
 refine cl (iqat_no irb rm f n id hf) rfl PkL.p trivial ?_
 intro _ _
 refine zz [43,26,79,15,24,4,2,17,0,1,6,34,20,32,88,19,9,2] ?_
 refine TC.condD rfl (fun hc1 => absurd hc1 ((by omega))) (fun hc1 => ?_)
 refine zz [0,1,6,106,9,2,10,42,0,1,6,13,14,12,3] ?_
 first | refine q rfl rfl (bld (cs := [.int _ _, .bool _]) rfl) ?_ | refine q rfl rfl (bld (cs := [_, _]) rfl) ?_
 first | refine q rfl rfl (bld (cs := [.int _ _, .bool _, .int _ _, .int _ _, .bool _]) rfl) ?_ | refine q rfl rfl (bld (cs := [_, _, _, _, _]) rfl) ?_
 refine e rfl ?_
 refine bx (v := .agg #[_, _, _, _, _]) (l := [.int _ _, .bool _, .int _ _, .int _ _, .bool _]) rfl rfl ?_
 intro b4
 refine e0 ?_
 refine muF 3 223 rfl (KL.int rfl) rfl rfl rfl ?_
 refine zz [2,0,1,4,2,11] ?_
 try rw [hf]
 exact Ret.i b4 [_] ⟨rfl, trivial⟩ rfl trivial (ent_close (⟨rm⟩ : IqR) trivial entS)
theorem ipcar_ok (ib crb hob sb thb irb hm gm lm : Nat) : FSpec Tryz.prog 28 [.pointer (some ⟨ib, 0, none⟩)] noRd [pts ib 128 [.pointer (some ⟨crb, 0, none⟩), .pointer (some ⟨thb, 0, none⟩), .pointer (some ⟨irb, 0, none⟩), .map (some hm), .map (some gm), .map (some lm)]] (fun _ : Unit => .pointer (some ⟨crb, 0, none⟩)) (fun _ => True) (fun _ => [pts ib 128 [.pointer (some ⟨crb, 0, none⟩), .pointer (some ⟨thb, 0, none⟩), .pointer (some ⟨irb, 0, none⟩), .map (some hm), .map (some gm), .map (some lm)]]) := by
 refine fI Tryz.func28 Tryz.ntmps28 ?_
 intro F _
 refine zz [39,0,1,24,2,0,0,1,6,34,2,10,7,0,1,6,13,14,14,12,24,2,11] ?_
 exact zc0
theorem iprun_ok (ib crb hob sb thb irb hm gm lm : Nat) (T : TS) (hTP : TP T []) (hTB : TB T) : FSpec Tryz.prog 24 [.pointer (some ⟨ib, 0, none⟩)] noRd [pts ib 128 [.pointer (some ⟨crb, 0, none⟩), .pointer (some ⟨thb, 0, none⟩), .pointer (some ⟨irb, 0, none⟩), .map (some hm), .map (some gm), .map (some lm)], isT thb T] (fun _ : Unit => .int .i64 (Rd.runS T.S)) (fun _ => True) (fun _ => [pts ib 128 [.pointer (some ⟨crb, 0, none⟩), .pointer (some ⟨thb, 0, none⟩), .pointer (some ⟨irb, 0, none⟩), .map (some hm), .map (some gm), .map (some lm)], isT thb T]) := by
 refine fI Tryz.func24 Tryz.ntmps24 ?_
 intro F _
 refine zz [44,0,1,4,2,0,0,1,6,34,2,10,7,0,1,6,13,14,47,12,5] ?_
 refine cl (trun_ok thb T hTP hTB) rfl PkL.p trivial ?_
 intro _ _
 refine zz [43,4,2,11] ?_
 exact zc0
theorem iptold_ok (ib crb hob sb thb irb hm gm lm : Nat) (T : TS) : FSpec Tryz.prog 25 [.pointer (some ⟨ib, 0, none⟩)] noRd [pts ib 128 [.pointer (some ⟨crb, 0, none⟩), .pointer (some ⟨thb, 0, none⟩), .pointer (some ⟨irb, 0, none⟩), .map (some hm), .map (some gm), .map (some lm)], isT thb T] (fun y : Option Addr × Nat => .slice y.1 T.told.length y.2) (fun _ => True) (fun y => [slc 164 2 y.1 T.told.length y.2 (tgsC T.told), pts ib 128 [.pointer (some ⟨crb, 0, none⟩), .pointer (some ⟨thb, 0, none⟩), .pointer (some ⟨irb, 0, none⟩), .map (some hm), .map (some gm), .map (some lm)], isT thb (toldT T)]) := by
 refine fI Tryz.func25 Tryz.ntmps25 ?_
 intro F _
 refine zz [44,0,1,35,2,0,0,1,6,34,2,10,7,0,1,6,13,14,47,12,5] ?_
 refine cl (ttold_ok thb T) rfl PkL.p trivial ?_
 intro y _
 refine zz [46,35,2,11] ?_
 exact Ret.i y [_] ⟨rfl, trivial⟩ rfl trivial entS
theorem iphome_ok (ib crb hob sb thb irb hm gm lm : Nat) (hf : Int → Option Value) (hn : Nat) (th : Int) (at9 : Nat) (hhf : hf th = some (.agg #[.int .u32 1, .int .i64 (at9 : Int)])) : FSpec Tryz.prog 104 [.pointer (some ⟨ib, 0, none⟩), .int .u32 th] noRd [pts ib 128 [.pointer (some ⟨crb, 0, none⟩), .pointer (some ⟨thb, 0, none⟩), .pointer (some ⟨irb, 0, none⟩), .map (some hm), .map (some gm), .map (some lm)], mapF encU hm hf hn] (fun _ : Unit => .tuple #[.agg #[.int .u32 1, .int .i64 (at9 : Int)], .bool true]) (fun _ => True) (fun _ => [pts ib 128 [.pointer (some ⟨crb, 0, none⟩), .pointer (some ⟨thb, 0, none⟩), .pointer (some ⟨irb, 0, none⟩), .map (some hm), .map (some gm), .map (some lm)], mapF encU hm hf hn]) := by
 refine fI Tryz.func104 Tryz.ntmps104 ?_
 intro F _
 refine zz [44,0,1,5] ?_
 refine al (l := [.int _ _, .int _ _]) rfl rfl ?_
 intro b5
 refine zz [9,2,0,0,1,6,34,2,10,7,0,1,6,13,78,12,3] ?_
 refine q rfl rfl (luFO 56 149 rfl rfl (KL.u32 rfl) rfl rfl) ?_
 rw [hhf]
 refine zz [26,101,80,5] ?_
 refine al (l := [.int _ _, .int _ _]) rfl rfl ?_
 intro b6
 refine zz [21,67,9,2,0,1,113,20,21,67,9,2,11] ?_
 exact zc4
theorem ipof_ok (ib crb hob sb thb irb hm gm lm fb cb pb hb qb : Nat) (l : List Hd.Pl) (ho : Hd.OkT l) (h : Int) (hh : 0 ≤ h ∧ h ≤ 4294967295) (o : Hd.Ob) (hg : Hd.getR l h = (o, 0)) (kind : Int) (hk : kind = 0 ∨ o.k = kind) : FSpec Tryz.prog 55 [.pointer (some ⟨ib, 0, none⟩), .int .u32 h, .int .i64 kind] noRd [pts ib 128 [.pointer (some ⟨crb, 0, none⟩), .pointer (some ⟨thb, 0, none⟩), .pointer (some ⟨irb, 0, none⟩), .map (some hm), .map (some gm), .map (some lm)], pts crb 133 [.pointer (some ⟨hob, 0, none⟩)], pts hob 131 [.pointer (some ⟨sb, 0, none⟩)], pts sb 117 [.pointer (some ⟨cb, 0, none⟩), .pointer (some ⟨fb, 0, none⟩)], pts cb 87 [.pointer (some ⟨pb, 0, none⟩), .pointer (some ⟨hb, 0, none⟩), .pointer (some ⟨qb, 0, none⟩)], slc 174 5 (some ⟨hb, 0, none⟩) 256 256 (Hd.tabC l)] (fun _ : Unit => .int .i64 0) (fun _ => True) (fun _ => [pts ib 128 [.pointer (some ⟨crb, 0, none⟩), .pointer (some ⟨thb, 0, none⟩), .pointer (some ⟨irb, 0, none⟩), .map (some hm), .map (some gm), .map (some lm)], pts crb 133 [.pointer (some ⟨hob, 0, none⟩)], pts hob 131 [.pointer (some ⟨sb, 0, none⟩)], pts sb 117 [.pointer (some ⟨cb, 0, none⟩), .pointer (some ⟨fb, 0, none⟩)], pts cb 87 [.pointer (some ⟨pb, 0, none⟩), .pointer (some ⟨hb, 0, none⟩), .pointer (some ⟨qb, 0, none⟩)], slc 174 5 (some ⟨hb, 0, none⟩) 256 256 (Hd.tabC l)]) := by
 refine fI Tryz.func55 Tryz.ntmps55 ?_
 intro F _
 refine zz [104,0,1,4,2,0,0,1,6,34,2,10,7,0,1,6,13,14,14,12,13,14,12,13,14,12,5] ?_
 refine cl (spobj_ok sb cb fb) rfl PkL.p trivial ?_
 intro _ _
 refine zz [49,3,3,5] ?_
 refine cl (coof_ok cb pb hb qb l ho h hh o hg kind hk) rfl PkL.p trivial ?_
 intro _ _
 refine zz [49,26,75,15,5] ?_
 refine al (l := [.int _ _, .int _ _, .int _ _]) rfl rfl ?_
 intro b7
 refine zz [21,48,4,2,0,1,3,4,2,11] ?_
 exact zc0
theorem ipstart_ok (ib crb hob sb thb irb hm gm lm fb cb pb hb qb : Nat) (l : List Hd.Pl) (ho : Hd.OkT l) (h : Int) (hh : 0 ≤ h ∧ h ≤ 4294967295) (o : Hd.Ob) (hg : Hd.getR l h = (o, 0)) (hk : o.k = 3) (pr sl : Int) (T : TS) (hTP : TP T []) (hTB : TB T) : FSpec Tryz.prog 22 [.pointer (some ⟨ib, 0, none⟩), .int .u32 h, .int .i64 pr, .int .i64 sl] noRd [pts ib 128 [.pointer (some ⟨crb, 0, none⟩), .pointer (some ⟨thb, 0, none⟩), .pointer (some ⟨irb, 0, none⟩), .map (some hm), .map (some gm), .map (some lm)], pts crb 133 [.pointer (some ⟨hob, 0, none⟩)], pts hob 131 [.pointer (some ⟨sb, 0, none⟩)], pts sb 117 [.pointer (some ⟨cb, 0, none⟩), .pointer (some ⟨fb, 0, none⟩)], pts cb 87 [.pointer (some ⟨pb, 0, none⟩), .pointer (some ⟨hb, 0, none⟩), .pointer (some ⟨qb, 0, none⟩)], slc 174 5 (some ⟨hb, 0, none⟩) 256 256 (Hd.tabC l), isT thb T] (fun _ : Unit => .int .i64 (startS T h pr sl).2) (fun _ => True) (fun _ => [pts ib 128 [.pointer (some ⟨crb, 0, none⟩), .pointer (some ⟨thb, 0, none⟩), .pointer (some ⟨irb, 0, none⟩), .map (some hm), .map (some gm), .map (some lm)], pts crb 133 [.pointer (some ⟨hob, 0, none⟩)], pts hob 131 [.pointer (some ⟨sb, 0, none⟩)], pts sb 117 [.pointer (some ⟨cb, 0, none⟩), .pointer (some ⟨fb, 0, none⟩)], pts cb 87 [.pointer (some ⟨pb, 0, none⟩), .pointer (some ⟨hb, 0, none⟩), .pointer (some ⟨qb, 0, none⟩)], slc 174 5 (some ⟨hb, 0, none⟩) 256 256 (Hd.tabC l), isT thb (startS T h pr sl).1]) := by
 refine fI Tryz.func22 Tryz.ntmps22 ?_
 intro F _
 refine zz [119,0,1,4,2,0,0,1,6,3,5] ?_
 refine cl (ipof_ok ib crb hob sb thb irb hm gm lm fb cb pb hb qb l ho h hh o hg 3 (.inr hk)) rfl PkL.p trivial ?_
 intro _ _
 refine zz [53,4,2,0,1,3,23,2,10,7,0,1,6,13,14,47,12,3,142,3,3,5] ?_
 refine cl (tstart_ok thb T hTP hTB h pr sl) rfl PkL.p trivial ?_
 intro _ _
 refine zz [53,4,2,11] ?_
 exact zc0
theorem ipmk_task (ib crb hob thb irb hm gm lm : Nat) (sb fb cb pb hb qb top t : Nat) (S : PS) (l : List Hd.Pl) (ho : Hd.OkT l) (hg1 : Hd.getR l 1 = (ob 2 t 0, 0)) (hP : PInv top S) (hT : TI top S t) (s : Nat) (hs : s < 256) (lim u : Int) (r0 : List Qt.Qn) (hA : enA S.m t s = 0) (hQ : S.Q = ⟨0, -1, lim, u⟩ :: r0) (hq : QR lim u r0) (n : Nat) (hU : ∀ c ∈ cls, usd S.C c ≤ n) (hR : RmB top S.Fr (n + 1)) (L : List Fo.Fn) (last : Int) (hla : last ≤ 1000000) (hs8 : s < 128) (th : Int) (hth : 0 ≤ th ∧ th ≤ 4294967295) (f9 : Nat) (g9 : Int) (hg : Hd.getR l th = (ob 1 f9 g9, 0)) (hf9 : Plc 64 (S.C 1) f9) (w : Nat) (hw : ldW S.m f9 = w) (hw9 : w ≤ 40) (li9 : Int) (dz : Int) (r1 : List Qt.Qn) (hch : ChQ lim u r0 w (clsz 2 : Int) dz r1 0) (hr : (Hd.allL l 0).length ≠ 0) (h : Nat) (hh : h < 4294967295) (hput : ∀ o, (Hd.putR l o).2 = ((h : Int), 0)) (hget : ∀ o, Hd.getR (Hd.putR l o).1 (h : Int) = (o, 0)) (hok2 : ∀ o, Hd.OkT (Hd.putR l o).1) (inn : Int) : FSpec Tryz.prog 21 [.pointer (some ⟨ib, 0, none⟩), .int .u32 1, .int .i64 (s : Int), .int .u32 th, .int .i64 2, .int .i64 li9, .int .u32 inn] GV [pts ib 128 [.pointer (some ⟨crb, 0, none⟩), .pointer (some ⟨thb, 0, none⟩), .pointer (some ⟨irb, 0, none⟩), .map (some hm), .map (some gm), .map (some lm)], pts crb 133 [.pointer (some ⟨hob, 0, none⟩)], pts hob 131 [.pointer (some ⟨sb, 0, none⟩)], pts sb 117 [.pointer (some ⟨cb, 0, none⟩), .pointer (some ⟨fb, 0, none⟩)], pts cb 87 [.pointer (some ⟨pb, 0, none⟩), .pointer (some ⟨hb, 0, none⟩), .pointer (some ⟨qb, 0, none⟩)], isPl pb top S, slc 174 5 (some ⟨hb, 0, none⟩) 256 256 (Hd.tabC l), Fo.isF fb L last] (fun _ : Nat × PS => .tuple #[.int .u32 (h : Int), .int .i64 0]) (fun y => MkR top t S s (packN h 15) y.2 ∧ Plc (clsz 2) (y.2.C 2) y.1 ∧ ((2 : Nat) ≠ 2 → ∀ o, y.1 ≤ o → o + 8 ≤ y.1 + clsz 2 → ldW y.2.m o = 0) ∧ (∃ d : Int, 0 ≤ d ∧ d ≤ 304 ∧ y.2.Q = ⟨0, -1, lim, u + d + dz⟩ :: r1) ∧ y.2.nx = S.nx ∧ y.2.Fr = S.Fr) (fun y => [pts ib 128 [.pointer (some ⟨crb, 0, none⟩), .pointer (some ⟨thb, 0, none⟩), .pointer (some ⟨irb, 0, none⟩), .map (some hm), .map (some gm), .map (some lm)], pts crb 133 [.pointer (some ⟨hob, 0, none⟩)], pts hob 131 [.pointer (some ⟨sb, 0, none⟩)], pts sb 117 [.pointer (some ⟨cb, 0, none⟩), .pointer (some ⟨fb, 0, none⟩)], pts cb 87 [.pointer (some ⟨pb, 0, none⟩), .pointer (some ⟨hb, 0, none⟩), .pointer (some ⟨qb, 0, none⟩)], isPl pb top y.2, slc 174 5 (some ⟨hb, 0, none⟩) 256 256 (Hd.tabC (Hd.putR l (ob 2 y.1 (w : Int))).1), Fo.isF fb (Fo.addN L last 0 (1, (s : Int))).1 (Fo.addN L last 0 (1, (s : Int))).2.1]) := by
 refine fI Tryz.func21 Tryz.ntmps21 ?_
 intro F hF
 refine zz [132] ?_
 haveI : GVI F := ⟨hF⟩
 refine zz [0,1,4,4,2,0,0,1,6,34,2,10,7,0,0,1,3,30,2] ?_
 refine TC.condD rfl (fun hc1 => absurd hc1 ((by omega))) (fun hc1 => ?_)
 refine zz [7,0,1,6,5] ?_
 refine cl (ipcar_ok ib crb hob sb thb irb hm gm lm) rfl PkL.p trivial ?_
 intro _ _
 refine zz [45,5] ?_
 refine cl (crsp_ok crb hob sb) rfl PkL.p trivial ?_
 intro _ _
 refine zz [45,3,3,3,3,3,5] ?_
 refine cl (spmk_obj sb fb cb pb hb qb top t S l ho hg1 hP hT s hs lim u r0 hA hQ hq n hU hR L last hla hs8 th hth f9 g9 hg hf9 w hw hw9 2 (by decide) li9 dz r1 hch hr h hh hput) rfl PkL.p GVI.gv ?_
 intro y hy
 refine zz [45,26,15,15,4,4,2,0,0,1,3,23,2,10,7,0,1,6,13,14,14,12,13,14,12,13,14,12,5] ?_
 refine cl (spobj_ok sb cb fb) rfl PkL.p trivial ?_
 intro _ _
 refine zz [45,3,3,5] ?_
 refine cl (coof_ok cb pb hb qb _ (hok2 _) (h : Int) (by omega) (ob 2 y.1 (w : Int)) (hget _) 2 (.inr rfl)) rfl PkL.p trivial ?_
 intro _ _
 refine zz [45,26,75,15,5] ?_
 refine al (l := [.int _ _, .int _ _, .int _ _]) rfl rfl ?_
 intro b1
 refine zz [21,48,4,2,0,0,1,3,2,17,0,1,30,9,2] ?_
 refine TC.condD rfl (fun hc2 => absurd hc2 ((by omega))) (fun hc2 => ?_)
 refine zz [0,1,30,9,2] ?_
 refine TC.condD rfl (fun hc3 => absurd hc3 ((by omega))) (fun hc3 => ?_)
 refine zz [0,1,30,9,2] ?_
 refine TC.condD rfl (fun hc4 => absurd hc4 ((by omega))) (fun hc4 => ?_)
 refine zz [42,0,1,3,4,4,2,11] ?_
 exact Ret.i y [_, _] ⟨rfl, rfl, trivial⟩ rfl hy entS
theorem ipmk_gate (ib crb hob thb irb hm gm lm : Nat) (sb fb cb pb hb qb top t : Nat) (S : PS) (l : List Hd.Pl) (ho : Hd.OkT l) (hg1 : Hd.getR l 1 = (ob 2 t 0, 0)) (hP : PInv top S) (hT : TI top S t) (s : Nat) (hs : s < 256) (lim u : Int) (r0 : List Qt.Qn) (hA : enA S.m t s = 0) (hQ : S.Q = ⟨0, -1, lim, u⟩ :: r0) (hq : QR lim u r0) (n : Nat) (hU : ∀ c ∈ cls, usd S.C c ≤ n) (hR : RmB top S.Fr (n + 1)) (L : List Fo.Fn) (last : Int) (hla : last ≤ 1000000) (hs8 : s < 128) (th : Int) (hth : 0 ≤ th ∧ th ≤ 4294967295) (f9 : Nat) (g9 : Int) (hg : Hd.getR l th = (ob 1 f9 g9, 0)) (hf9 : Plc 64 (S.C 1) f9) (w : Nat) (hw : ldW S.m f9 = w) (hw9 : w ≤ 40) (li9 : Int) (dz : Int) (r1 : List Qt.Qn) (hch : ChQ lim u r0 w (clsz 4 : Int) dz r1 0) (hr : (Hd.allL l 0).length ≠ 0) (h : Nat) (hh : h < 4294967295) (hput : ∀ o, (Hd.putR l o).2 = ((h : Int), 0)) (hget : ∀ o, Hd.getR (Hd.putR l o).1 (h : Int) = (o, 0)) (hok2 : ∀ o, Hd.OkT (Hd.putR l o).1) (inn : Int) (gf : Int → Option Value) (gn : Nat) (hgf : gf (h : Int) = none) : FSpec Tryz.prog 21 [.pointer (some ⟨ib, 0, none⟩), .int .u32 1, .int .i64 (s : Int), .int .u32 th, .int .i64 4, .int .i64 li9, .int .u32 inn] GV [pts ib 128 [.pointer (some ⟨crb, 0, none⟩), .pointer (some ⟨thb, 0, none⟩), .pointer (some ⟨irb, 0, none⟩), .map (some hm), .map (some gm), .map (some lm)], pts crb 133 [.pointer (some ⟨hob, 0, none⟩)], pts hob 131 [.pointer (some ⟨sb, 0, none⟩)], pts sb 117 [.pointer (some ⟨cb, 0, none⟩), .pointer (some ⟨fb, 0, none⟩)], pts cb 87 [.pointer (some ⟨pb, 0, none⟩), .pointer (some ⟨hb, 0, none⟩), .pointer (some ⟨qb, 0, none⟩)], isPl pb top S, slc 174 5 (some ⟨hb, 0, none⟩) 256 256 (Hd.tabC l), Fo.isF fb L last, mapF encU gm gf gn] (fun _ : Nat × Nat × PS => .tuple #[.int .u32 (h : Int), .int .i64 0]) (fun y => MkR top t S s (packN h 15) y.2.2 ∧ Plc (clsz 4) (y.2.2.C 4) y.2.1 ∧ ((4 : Nat) ≠ 2 → ∀ o, y.2.1 ≤ o → o + 8 ≤ y.2.1 + clsz 4 → ldW y.2.2.m o = 0) ∧ (∃ d : Int, 0 ≤ d ∧ d ≤ 304 ∧ y.2.2.Q = ⟨0, -1, lim, u + d + dz⟩ :: r1) ∧ y.2.2.nx = S.nx ∧ y.2.2.Fr = S.Fr) (fun y => [pts ib 128 [.pointer (some ⟨crb, 0, none⟩), .pointer (some ⟨thb, 0, none⟩), .pointer (some ⟨irb, 0, none⟩), .map (some hm), .map (some gm), .map (some lm)], pts crb 133 [.pointer (some ⟨hob, 0, none⟩)], pts hob 131 [.pointer (some ⟨sb, 0, none⟩)], pts sb 117 [.pointer (some ⟨cb, 0, none⟩), .pointer (some ⟨fb, 0, none⟩)], pts cb 87 [.pointer (some ⟨pb, 0, none⟩), .pointer (some ⟨hb, 0, none⟩), .pointer (some ⟨qb, 0, none⟩)], isPl pb top y.2.2, slc 174 5 (some ⟨hb, 0, none⟩) 256 256 (Hd.tabC (Hd.putR l (ob 4 y.2.1 (w : Int))).1), Fo.isF fb (Fo.addN L last 0 (1, (s : Int))).1 (Fo.addN L last 0 (1, (s : Int))).2.1, mapF encU gm (updF gf (h : Int) (.pointer (some ⟨y.1, 0, none⟩))) (gn + 1), pts y.1 152 [.int .i64 (-1), .int .u64 0]]) := by
 refine fI Tryz.func21 Tryz.ntmps21 ?_
 intro F hF
 refine zz [156] ?_
 haveI : GVI F := ⟨hF⟩
 refine zz [0,1,4,4,2,0,0,1,6,34,2,10,7,0,0,1,3,30,2] ?_
 refine TC.condD rfl (fun hc5 => absurd hc5 ((by omega))) (fun hc5 => ?_)
 refine zz [7,0,1,6,5] ?_
 refine cl (ipcar_ok ib crb hob sb thb irb hm gm lm) rfl PkL.p trivial ?_
 intro _ _
 refine zz [86,5] ?_
 refine cl (crsp_ok crb hob sb) rfl PkL.p trivial ?_
 intro _ _
 refine zz [86,3,3,3,3,3,5] ?_
 refine cl (spmk_obj sb fb cb pb hb qb top t S l ho hg1 hP hT s hs lim u r0 hA hQ hq n hU hR L last hla hs8 th hth f9 g9 hg hf9 w hw hw9 4 (by decide) li9 dz r1 hch hr h hh hput) rfl PkL.p GVI.gv ?_
 intro y hy
 refine zz [86,26,15,15,4,4,2,0,0,1,3,23,2,10,7,0,1,6,13,14,14,12,13,14,12,13,14,12,5] ?_
 refine cl (spobj_ok sb cb fb) rfl PkL.p trivial ?_
 intro _ _
 refine zz [86,3,3,5] ?_
 refine cl (coof_ok cb pb hb qb _ (hok2 _) (h : Int) (by omega) (ob 4 y.1 (w : Int)) (hget _) 4 (.inr rfl)) rfl PkL.p trivial ?_
 intro _ _
 refine zz [86,26,75,15,5] ?_
 refine al (l := [.int _ _, .int _ _, .int _ _]) rfl rfl ?_
 intro b2
 refine zz [21,48,4,2,0,0,1,3,2,17,0,1,30,9,2] ?_
 refine TC.condD rfl (fun hc6 => absurd hc6 ((by omega))) (fun hc6 => ?_)
 refine zz [0,1,30,9,2,40,1,6,13,125,12,3,73,5] ?_
 refine bx (v := .agg #[_, _]) (l := [.int _ _, .int _ _]) rfl rfl ?_
 intro b3
 refine e0 ?_
 refine muF 56 150 rfl (KL.u32 rfl) rfl rfl rfl ?_
 refine zz [63,0,1,3,4,4,2,11] ?_
 have hx : (if (gf (h : Int)).isSome then gn else gn + 1) = gn + 1 := by rw [hgf]; rfl
 exact Ret.i (b3, y) [_, _] ⟨rfl, rfl, trivial⟩ rfl hy (by rw [hx]; exact entS)
theorem ipmk_irq (ib crb hob thb irb hm gm lm : Nat) (sb fb cb pb hb qb top t : Nat) (S : PS) (l : List Hd.Pl) (ho : Hd.OkT l) (hg1 : Hd.getR l 1 = (ob 2 t 0, 0)) (hP : PInv top S) (hT : TI top S t) (s : Nat) (hs : s < 256) (lim u : Int) (r0 : List Qt.Qn) (hA : enA S.m t s = 0) (hQ : S.Q = ⟨0, -1, lim, u⟩ :: r0) (hq : QR lim u r0) (n : Nat) (hU : ∀ c ∈ cls, usd S.C c ≤ n) (hR : RmB top S.Fr (n + 1)) (L : List Fo.Fn) (last : Int) (hla : last ≤ 1000000) (hs8 : s < 128) (th : Int) (hth : 0 ≤ th ∧ th ≤ 4294967295) (f9 : Nat) (g9 : Int) (hg : Hd.getR l th = (ob 1 f9 g9, 0)) (hf9 : Plc 64 (S.C 1) f9) (w : Nat) (hw : ldW S.m f9 = w) (hw9 : w ≤ 40) (li9 : Int) (dz : Int) (r1 : List Qt.Qn) (hch : ChQ lim u r0 w (clsz 5 : Int) dz r1 0) (hr : (Hd.allL l 0).length ≠ 0) (h : Nat) (hh : h < 4294967295) (hput : ∀ o, (Hd.putR l o).2 = ((h : Int), 0)) (hget : ∀ o, Hd.getR (Hd.putR l o).1 (h : Int) = (o, 0)) (hok2 : ∀ o, Hd.OkT (Hd.putR l o).1) (inn : Int) (qf lf : Int → Option Value) (qn ln : Nat) (hqf : qf (h : Int) = none) (hlf : lf (h : Int) = none) : FSpec Tryz.prog 21 [.pointer (some ⟨ib, 0, none⟩), .int .u32 1, .int .i64 (s : Int), .int .u32 th, .int .i64 5, .int .i64 li9, .int .u32 inn] GV [pts ib 128 [.pointer (some ⟨crb, 0, none⟩), .pointer (some ⟨thb, 0, none⟩), .pointer (some ⟨irb, 0, none⟩), .map (some hm), .map (some gm), .map (some lm)], pts crb 133 [.pointer (some ⟨hob, 0, none⟩)], pts hob 131 [.pointer (some ⟨sb, 0, none⟩)], pts sb 117 [.pointer (some ⟨cb, 0, none⟩), .pointer (some ⟨fb, 0, none⟩)], pts cb 87 [.pointer (some ⟨pb, 0, none⟩), .pointer (some ⟨hb, 0, none⟩), .pointer (some ⟨qb, 0, none⟩)], isPl pb top S, slc 174 5 (some ⟨hb, 0, none⟩) 256 256 (Hd.tabC l), Fo.isF fb L last, isIq irb qf qn, mapF QM.encI lm lf ln] (fun _ : Nat × Nat × PS => .tuple #[.int .u32 (h : Int), .int .i64 0]) (fun y => MkR top t S s (packN h 15) y.2.2 ∧ Plc (clsz 5) (y.2.2.C 5) y.2.1 ∧ ((5 : Nat) ≠ 2 → ∀ o, y.2.1 ≤ o → o + 8 ≤ y.2.1 + clsz 5 → ldW y.2.2.m o = 0) ∧ (∃ d : Int, 0 ≤ d ∧ d ≤ 304 ∧ y.2.2.Q = ⟨0, -1, lim, u + d + dz⟩ :: r1) ∧ y.2.2.nx = S.nx ∧ y.2.2.Fr = S.Fr) (fun y => [pts ib 128 [.pointer (some ⟨crb, 0, none⟩), .pointer (some ⟨thb, 0, none⟩), .pointer (some ⟨irb, 0, none⟩), .map (some hm), .map (some gm), .map (some lm)], pts crb 133 [.pointer (some ⟨hob, 0, none⟩)], pts hob 131 [.pointer (some ⟨sb, 0, none⟩)], pts sb 117 [.pointer (some ⟨cb, 0, none⟩), .pointer (some ⟨fb, 0, none⟩)], pts cb 87 [.pointer (some ⟨pb, 0, none⟩), .pointer (some ⟨hb, 0, none⟩), .pointer (some ⟨qb, 0, none⟩)], isPl pb top y.2.2, slc 174 5 (some ⟨hb, 0, none⟩) 256 256 (Hd.tabC (Hd.putR l (ob 5 y.2.1 (w : Int))).1), Fo.isF fb (Fo.addN L last 0 (1, (s : Int))).1 (Fo.addN L last 0 (1, (s : Int))).2.1, isIq irb (updF qf (h : Int) (.pointer (some ⟨y.1, 0, none⟩))) (qn + 1), mapF QM.encI lm (updF lf (h : Int) (.int .u64 0)) (ln + 1)]) := by
 refine fI Tryz.func21 Tryz.ntmps21 ?_
 intro F hF
 refine zz [230] ?_
 haveI : GVI F := ⟨hF⟩
 refine zz [0,1,4,4,2,0,0,1,6,34,2,10,7,0,0,1,3,30,2] ?_
 refine TC.condD rfl (fun hc7 => absurd hc7 ((by omega))) (fun hc7 => ?_)
 refine zz [7,0,1,6,5] ?_
 refine cl (ipcar_ok ib crb hob sb thb irb hm gm lm) rfl PkL.p trivial ?_
 intro _ _
 refine zz [93,5] ?_
 refine cl (crsp_ok crb hob sb) rfl PkL.p trivial ?_
 intro _ _
 refine zz [93,3,3,3,3,3,5] ?_
 refine cl (spmk_obj sb fb cb pb hb qb top t S l ho hg1 hP hT s hs lim u r0 hA hQ hq n hU hR L last hla hs8 th hth f9 g9 hg hf9 w hw hw9 5 (by decide) li9 dz r1 hch hr h hh hput) rfl PkL.p GVI.gv ?_
 intro y hy
 refine zz [93,26,15,15,4,4,2,0,0,1,3,23,2,10,7,0,1,6,13,14,14,12,13,14,12,13,14,12,5] ?_
 refine cl (spobj_ok sb cb fb) rfl PkL.p trivial ?_
 intro _ _
 refine zz [93,3,3,5] ?_
 refine cl (coof_ok cb pb hb qb _ (hok2 _) (h : Int) (by omega) (ob 5 y.1 (w : Int)) (hget _) 5 (.inr rfl)) rfl PkL.p trivial ?_
 intro _ _
 refine zz [93,26,75,15,5] ?_
 refine al (l := [.int _ _, .int _ _, .int _ _]) rfl rfl ?_
 intro b4
 refine zz [21,48,4,2,0,0,1,3,2,17,0,1,30,9,2] ?_
 refine TC.condD rfl (fun hc8 => absurd hc8 ((by omega))) (fun hc8 => ?_)
 refine zz [0,1,30,9,2] ?_
 refine TC.condD rfl (fun hc9 => absurd hc9 ((by omega))) (fun hc9 => ?_)
 refine zz [0,1,30,9,2,40,0,1,6,13,14,62,12,3,142,5] ?_
 refine cl (iqadd_ok irb qf qn (h : Int) hqf (by omega)) rfl PkL.p trivial ?_
 intro qb _
 refine zz [194] ?_
 have hx : (if (lf (h : Int)).isSome then ln else ln + 1) = ln + 1 := by rw [hlf]; rfl
 refine zz [2,1,6,13,224,12,3,142,21] ?_
 refine muF 3 31 rfl (KL.int rfl) rfl rfl rfl ?_
 refine zz [63,0,1,3,4,4,2,11] ?_
 exact Ret.i (qb, y) [_, _] ⟨rfl, rfl, trivial⟩ rfl hy (by rw [hx]; exact entS)
theorem ipmk_thr (ib crb hob thb irb hm gm lm : Nat) (sb fb cb pb hb qb top t : Nat) (S : PS) (l : List Hd.Pl) (ho : Hd.OkT l) (hg1 : Hd.getR l 1 = (ob 2 t 0, 0)) (hP : PInv top S) (hT : TI top S t) (s : Nat) (hs : s < 256) (lim u : Int) (r0 : List Qt.Qn) (hA : enA S.m t s = 0) (hQ : S.Q = ⟨0, -1, lim, u⟩ :: r0) (hq : QR lim u r0) (n : Nat) (hU : ∀ c ∈ cls, usd S.C c ≤ n) (hR : RmB top S.Fr (n + 1)) (L : List Fo.Fn) (last : Int) (hla : last ≤ 1000000) (hs8 : s < 128) (th : Int) (hth : 0 ≤ th ∧ th ≤ 4294967295) (f9 : Nat) (g9 : Int) (hg : Hd.getR l th = (ob 1 f9 g9, 0)) (hf9 : Plc 64 (S.C 1) f9) (w : Nat) (hw : ldW S.m f9 = w) (hw9 : w ≤ 40) (li9 : Int) (dz : Int) (r1 : List Qt.Qn) (hch : ChQ lim u r0 w (clsz 3 : Int) dz r1 0) (hr : (Hd.allL l 0).length ≠ 0) (h : Nat) (hh : h < 4294967295) (hput : ∀ o, (Hd.putR l o).2 = ((h : Int), 0)) (hget : ∀ o, Hd.getR (Hd.putR l o).1 (h : Int) = (o, 0)) (hok2 : ∀ o, Hd.OkT (Hd.putR l o).1) (T : TS) (hTP : TP T []) (hTB : TB T) (hf : Int → Option Value) (hn : Nat) (hhf : hf (h : Int) = none) : FSpec Tryz.prog 21 [.pointer (some ⟨ib, 0, none⟩), .int .u32 1, .int .i64 (s : Int), .int .u32 th, .int .i64 3, .int .i64 li9, .int .u32 1] GV [pts ib 128 [.pointer (some ⟨crb, 0, none⟩), .pointer (some ⟨thb, 0, none⟩), .pointer (some ⟨irb, 0, none⟩), .map (some hm), .map (some gm), .map (some lm)], pts crb 133 [.pointer (some ⟨hob, 0, none⟩)], pts hob 131 [.pointer (some ⟨sb, 0, none⟩)], pts sb 117 [.pointer (some ⟨cb, 0, none⟩), .pointer (some ⟨fb, 0, none⟩)], pts cb 87 [.pointer (some ⟨pb, 0, none⟩), .pointer (some ⟨hb, 0, none⟩), .pointer (some ⟨qb, 0, none⟩)], isPl pb top S, slc 174 5 (some ⟨hb, 0, none⟩) 256 256 (Hd.tabC l), Fo.isF fb L last, isT thb T, mapF encU hm hf hn] (fun _ : Nat × PS => .tuple #[.int .u32 (h : Int), .int .i64 0]) (fun y => MkR top t S s (packN h 15) y.2 ∧ Plc (clsz 3) (y.2.C 3) y.1 ∧ ((3 : Nat) ≠ 2 → ∀ o, y.1 ≤ o → o + 8 ≤ y.1 + clsz 3 → ldW y.2.m o = 0) ∧ (∃ d : Int, 0 ≤ d ∧ d ≤ 304 ∧ y.2.Q = ⟨0, -1, lim, u + d + dz⟩ :: r1) ∧ y.2.nx = S.nx ∧ y.2.Fr = S.Fr) (fun y => [pts ib 128 [.pointer (some ⟨crb, 0, none⟩), .pointer (some ⟨thb, 0, none⟩), .pointer (some ⟨irb, 0, none⟩), .map (some hm), .map (some gm), .map (some lm)], pts crb 133 [.pointer (some ⟨hob, 0, none⟩)], pts hob 131 [.pointer (some ⟨sb, 0, none⟩)], pts sb 117 [.pointer (some ⟨cb, 0, none⟩), .pointer (some ⟨fb, 0, none⟩)], pts cb 87 [.pointer (some ⟨pb, 0, none⟩), .pointer (some ⟨hb, 0, none⟩), .pointer (some ⟨qb, 0, none⟩)], isPl pb top y.2, slc 174 5 (some ⟨hb, 0, none⟩) 256 256 (Hd.tabC (Hd.putR l (ob 3 y.1 (w : Int))).1), Fo.isF fb (Fo.addN L last 0 (1, (s : Int))).1 (Fo.addN L last 0 (1, (s : Int))).2.1, isT thb (addL T [(h : Int)]), mapF encU hm (updF hf (h : Int) (.agg #[.int .u32 1, .int .i64 (y.1 : Int)])) (hn + 1)]) := by
 refine fI Tryz.func21 Tryz.ntmps21 ?_
 intro F hF
 refine zz [230] ?_
 haveI : GVI F := ⟨hF⟩
 refine zz [0,1,4,4,2,0,0,1,6,34,2,10,7,0,0,1,3,30,2,40,0,1,6,3,5] ?_
 refine cl (ipof_ok ib crb hob sb thb irb hm gm lm fb cb pb hb qb l ho 1 (by omega) (ob 2 t 0) hg1 2 (.inr rfl)) rfl PkL.p trivial ?_
 intro _ _
 refine zz [93,4,2,0,1,3,23,2,10,7,0,1,6,5] ?_
 refine cl (ipcar_ok ib crb hob sb thb irb hm gm lm) rfl PkL.p trivial ?_
 intro _ _
 refine zz [93,5] ?_
 refine cl (crsp_ok crb hob sb) rfl PkL.p trivial ?_
 intro _ _
 refine zz [93,3,3,3,3,3,5] ?_
 refine cl (spmk_obj sb fb cb pb hb qb top t S l ho hg1 hP hT s hs lim u r0 hA hQ hq n hU hR L last hla hs8 th hth f9 g9 hg hf9 w hw hw9 3 (by decide) li9 dz r1 hch hr h hh hput) rfl PkL.p GVI.gv ?_
 intro y hy
 refine zz [93,26,15,15,4,4,2,0,0,1,3,23,2,10,7,0,1,6,13,14,14,12,13,14,12,13,14,12,5] ?_
 refine cl (spobj_ok sb cb fb) rfl PkL.p trivial ?_
 intro _ _
 refine zz [93,3,3,5] ?_
 refine cl (coof_ok cb pb hb qb _ (hok2 _) (h : Int) (by omega) (ob 3 y.1 (w : Int)) (hget _) 3 (.inr rfl)) rfl PkL.p trivial ?_
 intro _ _
 refine zz [93,26,75,15,5] ?_
 refine al (l := [.int _ _, .int _ _, .int _ _]) rfl rfl ?_
 intro b5
 refine zz [21,48,4,2,0,0,1,3,2,17,0,1,30,9,2,40,0,1,6,13,14,47,12,3,142,5,72] ?_
 intro b6
 refine e rfl ?_
 refine cl (tadd_ok thb T (some ⟨b6, 0, none⟩) 1 [(h : Int)] (by simp) (by have := hTB.ids; omega)) rfl PkL.p ⟨_, RdSI.rd⟩ ?_
 intro _ _
 refine zz [120,2] ?_
 refine TC.draw _ [] [(0, false), (1, false), (2, false), (3, false), (4, false), (5, false), (6, false), (7, false), (8, false), (9, true)] (by kernel_rfl) (by kernel_rfl) (ent_take 2 rfl (ent_take 9 rfl (ent_nil _))) ?_
 refine zz [28,31,90,18,33,33,60,18,176,61] ?_
 refine muF 56 149 rfl (KL.u32 rfl) rfl rfl rfl ?_
 refine zz [8,163,0,1,3,4,4,2,11] ?_
 have hx9 : (if (hf (h : Int)).isSome then hn else hn + 1) = hn + 1 := by rw [hhf]; rfl
 exact Ret.i y [_, _] ⟨rfl, rfl, trivial⟩ rfl hy (by rw [hx9]; exact entS)
theorem ipmk_fac (ib crb hob thb irb hm gm lm : Nat) (sb fb cb pb hb qb top t : Nat) (S : PS) (l : List Hd.Pl) (ho : Hd.OkT l) (hg1 : Hd.getR l 1 = (ob 2 t 0, 0)) (hP : PInv top S) (hT : TI top S t) (s : Nat) (hs : s < 256) (lim u : Int) (r0 : List Qt.Qn) (hA : enA S.m t s = 0) (hQ : S.Q = ⟨0, -1, lim, u⟩ :: r0) (hq : QR lim u r0) (n : Nat) (hU : ∀ c ∈ cls, usd S.C c ≤ n) (hR : RmB top S.Fr (n + 1)) (L : List Fo.Fn) (last : Int) (hla : last ≤ 1000000) (hs8 : s < 128) (th : Int) (hth : 0 ≤ th ∧ th ≤ 4294967295) (f9 : Nat) (g9 : Int) (hg : Hd.getR l th = (ob 1 f9 g9, 0)) (hf9 : Plc 64 (S.C 1) f9) (w : Nat) (hw : ldW S.m f9 = w) (hw9 : w ≤ 40) (li9 : Int) (hl0 : 0 ≤ li9) (dz : Int) (r1 : List Qt.Qn) (hch : ChQ lim u r0 w 64 dz r1 0) (hr : (Hd.allL l 0).length ≠ 0) (h : Nat) (hh : h < 4294967295) (hput : ∀ o, (Hd.putR l o).2 = ((h : Int), 0)) (hnx : S.nx ≤ 1000000) (idn : Nat) (hid : idn ≤ 1000000) (r2 : List Qt.Qn) (hcv : ∀ v, u ≤ v → v ≤ u + 304 → Qt.carveQ (⟨0, -1, lim, v + dz⟩ :: r1) S.nx (w : Int) li9 = (⟨0, -1, lim, v + dz⟩ :: r2, S.nx + 1, (idn : Int), 0)) (hget : ∀ o, Hd.getR (Hd.putR l o).1 (h : Int) = (o, 0)) (hok2 : ∀ o, Hd.OkT (Hd.putR l o).1) (inn : Int) : FSpec Tryz.prog 21 [.pointer (some ⟨ib, 0, none⟩), .int .u32 1, .int .i64 (s : Int), .int .u32 th, .int .i64 1, .int .i64 li9, .int .u32 inn] GV [pts ib 128 [.pointer (some ⟨crb, 0, none⟩), .pointer (some ⟨thb, 0, none⟩), .pointer (some ⟨irb, 0, none⟩), .map (some hm), .map (some gm), .map (some lm)], pts crb 133 [.pointer (some ⟨hob, 0, none⟩)], pts hob 131 [.pointer (some ⟨sb, 0, none⟩)], pts sb 117 [.pointer (some ⟨cb, 0, none⟩), .pointer (some ⟨fb, 0, none⟩)], pts cb 87 [.pointer (some ⟨pb, 0, none⟩), .pointer (some ⟨hb, 0, none⟩), .pointer (some ⟨qb, 0, none⟩)], isPl pb top S, slc 174 5 (some ⟨hb, 0, none⟩) 256 256 (Hd.tabC l), Fo.isF fb L last] (fun _ : Nat × PS => .tuple #[.int .u32 (h : Int), .int .i64 0]) (fun y => MkR top t S s (packN h 15) y.2 ∧ Plc (clsz 1) (y.2.C 1) y.1 ∧ ldW y.2.m y.1 = idn ∧ (∃ d : Int, 0 ≤ d ∧ d ≤ 304 ∧ y.2.Q = ⟨0, -1, lim, u + d + dz⟩ :: r2) ∧ y.2.nx = S.nx + 1 ∧ y.2.Fr = S.Fr) (fun y => [pts ib 128 [.pointer (some ⟨crb, 0, none⟩), .pointer (some ⟨thb, 0, none⟩), .pointer (some ⟨irb, 0, none⟩), .map (some hm), .map (some gm), .map (some lm)], pts crb 133 [.pointer (some ⟨hob, 0, none⟩)], pts hob 131 [.pointer (some ⟨sb, 0, none⟩)], pts sb 117 [.pointer (some ⟨cb, 0, none⟩), .pointer (some ⟨fb, 0, none⟩)], pts cb 87 [.pointer (some ⟨pb, 0, none⟩), .pointer (some ⟨hb, 0, none⟩), .pointer (some ⟨qb, 0, none⟩)], isPl pb top y.2, slc 174 5 (some ⟨hb, 0, none⟩) 256 256 (Hd.tabC (Hd.putR l (ob 1 y.1 (w : Int))).1), Fo.isF fb (Fo.addN L last 0 (1, (s : Int))).1 (Fo.addN L last 0 (1, (s : Int))).2.1]) := by
 refine fI Tryz.func21 Tryz.ntmps21 ?_
 intro F hF
 refine zz [132] ?_
 haveI : GVI F := ⟨hF⟩
 refine zz [0,1,4,4,2,0,0,1,6,34,2,10,7,0,0,1,3,30,2] ?_
 refine TC.condD rfl (fun hc10 => absurd hc10 ((by omega))) (fun hc10 => ?_)
 refine zz [7,0,1,6,5] ?_
 refine cl (ipcar_ok ib crb hob sb thb irb hm gm lm) rfl PkL.p trivial ?_
 intro _ _
 refine zz [45,5] ?_
 refine cl (crsp_ok crb hob sb) rfl PkL.p trivial ?_
 intro _ _
 refine zz [45,3,3,3,3,3,5] ?_
 refine cl (spmk_fac sb fb cb pb hb qb top t S l ho hg1 hP hT s hs lim u r0 hA hQ hq n hU hR L last hla hs8 th hth f9 g9 hg hf9 w hw hw9 li9 hl0 dz r1 hch hr h hh hput hnx idn hid r2 hcv) rfl PkL.p GVI.gv ?_
 intro y hy
 refine zz [45,26,15,15,4,4,2,0,0,1,3,23,2,10,7,0,1,6,13,14,14,12,13,14,12,13,14,12,5] ?_
 refine cl (spobj_ok sb cb fb) rfl PkL.p trivial ?_
 intro _ _
 refine zz [45,3,3,5] ?_
 refine cl (coof_ok cb pb hb qb _ (hok2 _) (h : Int) (by omega) (ob 1 y.1 (w : Int)) (hget _) 1 (.inr rfl)) rfl PkL.p trivial ?_
 intro _ _
 refine zz [45,26,75,15,5] ?_
 refine al (l := [.int _ _, .int _ _, .int _ _]) rfl rfl ?_
 intro b7
 refine zz [21,48,4,2,0,0,1,3,2,17,0,1,30,9,2] ?_
 refine TC.condD rfl (fun hc11 => absurd hc11 ((by omega))) (fun hc11 => ?_)
 refine zz [0,1,30,9,2] ?_
 refine TC.condD rfl (fun hc12 => absurd hc12 ((by omega))) (fun hc12 => ?_)
 refine zz [0,1,30,9,2] ?_
 refine TC.condD rfl (fun hc13 => absurd hc13 ((by omega))) (fun hc13 => ?_)
 refine zz [42,0,1,3,4,4,2,11] ?_
 exact Ret.i y [_, _] ⟨rfl, rfl, trivial⟩ rfl hy entS
theorem ipmk_fr (ib crb hob thb irb hm gm lm : Nat) (sb fb cb pb hb qb top t : Nat) (S : PS) (l : List Hd.Pl) (ho : Hd.OkT l) (hg1 : Hd.getR l 1 = (ob 2 t 0, 0)) (hP : PInv top S) (hT : TI top S t) (s : Nat) (hs : s < 256) (lim u : Int) (r0 : List Qt.Qn) (hA : enA S.m t s = 0) (hQ : S.Q = ⟨0, -1, lim, u⟩ :: r0) (hq : QR lim u r0) (n : Nat) (hU : ∀ c ∈ cls, usd S.C c ≤ n) (hR : RmB top S.Fr (n + 1)) (L : List Fo.Fn) (last : Int) (hla : last ≤ 1000000) (hs8 : 128 ≤ s) (th : Int) (hth : 0 ≤ th ∧ th ≤ 4294967295) (f9 : Nat) (g9 : Int) (hg : Hd.getR l th = (ob 1 f9 g9, 0)) (hf9 : Plc 64 (S.C 1) f9) (w : Nat) (hw : ldW S.m f9 = w) (hw9 : w ≤ 40) (li9 : Int) (dz : Int) (r1 : List Qt.Qn) (hch : ChQ lim u r0 w 1024 dz r1 0) (hr : (Hd.allL l 0).length ≠ 0) (h : Nat) (hh : h < 4294967295) (hput : ∀ o, (Hd.putR l o).2 = ((h : Int), 0)) (hget : ∀ o, Hd.getR (Hd.putR l o).1 (h : Int) = (o, 0)) (hok2 : ∀ o, Hd.OkT (Hd.putR l o).1) (inn : Int) : FSpec Tryz.prog 21 [.pointer (some ⟨ib, 0, none⟩), .int .u32 1, .int .i64 (s : Int), .int .u32 th, .int .i64 8, .int .i64 li9, .int .u32 inn] GV [pts ib 128 [.pointer (some ⟨crb, 0, none⟩), .pointer (some ⟨thb, 0, none⟩), .pointer (some ⟨irb, 0, none⟩), .map (some hm), .map (some gm), .map (some lm)], pts crb 133 [.pointer (some ⟨hob, 0, none⟩)], pts hob 131 [.pointer (some ⟨sb, 0, none⟩)], pts sb 117 [.pointer (some ⟨cb, 0, none⟩), .pointer (some ⟨fb, 0, none⟩)], pts cb 87 [.pointer (some ⟨pb, 0, none⟩), .pointer (some ⟨hb, 0, none⟩), .pointer (some ⟨qb, 0, none⟩)], isPl pb top S, slc 174 5 (some ⟨hb, 0, none⟩) 256 256 (Hd.tabC l), Fo.isF fb L last] (fun _ : Nat × PS => .tuple #[.int .u32 (h : Int), .int .i64 0]) (fun y => MkR top t S s (packN h 15) y.2 ∧ y.2.Fr = y.1 :: S.Fr ∧ (∃ d : Int, 0 ≤ d ∧ d ≤ 304 ∧ y.2.Q = ⟨0, -1, lim, u + d + dz⟩ :: r1) ∧ y.2.nx = S.nx) (fun y => [pts ib 128 [.pointer (some ⟨crb, 0, none⟩), .pointer (some ⟨thb, 0, none⟩), .pointer (some ⟨irb, 0, none⟩), .map (some hm), .map (some gm), .map (some lm)], pts crb 133 [.pointer (some ⟨hob, 0, none⟩)], pts hob 131 [.pointer (some ⟨sb, 0, none⟩)], pts sb 117 [.pointer (some ⟨cb, 0, none⟩), .pointer (some ⟨fb, 0, none⟩)], pts cb 87 [.pointer (some ⟨pb, 0, none⟩), .pointer (some ⟨hb, 0, none⟩), .pointer (some ⟨qb, 0, none⟩)], isPl pb top y.2, slc 174 5 (some ⟨hb, 0, none⟩) 256 256 (Hd.tabC (Hd.putR l (ob 8 (y.1 * 1024) (w : Int))).1), Fo.isF fb (Fo.addN L last 0 (1, (s : Int))).1 (Fo.addN L last 0 (1, (s : Int))).2.1]) := by
 refine fI Tryz.func21 Tryz.ntmps21 ?_
 intro F hF
 refine zz [132] ?_
 haveI : GVI F := ⟨hF⟩
 refine zz [0,1,4,4,2,0,0,1,6,34,2,10,7,0,0,1,3,30,2] ?_
 refine TC.condD rfl (fun hc14 => absurd hc14 ((by omega))) (fun hc14 => ?_)
 refine zz [7,0,1,6,5] ?_
 refine cl (ipcar_ok ib crb hob sb thb irb hm gm lm) rfl PkL.p trivial ?_
 intro _ _
 refine zz [45,5] ?_
 refine cl (crsp_ok crb hob sb) rfl PkL.p trivial ?_
 intro _ _
 refine zz [45,3,3,3,3,3,5] ?_
 refine cl (spmk_fr sb fb cb pb hb qb top t S l ho hg1 hP hT s hs lim u r0 hA hQ hq n hU hR L last hla hs8 th hth f9 g9 hg hf9 w hw hw9 li9 dz r1 hch hr h hh hput) rfl PkL.p GVI.gv ?_
 intro y hy
 refine zz [45,26,15,15,4,4,2,0,0,1,3,23,2,10,7,0,1,6,13,14,14,12,13,14,12,13,14,12,5] ?_
 refine cl (spobj_ok sb cb fb) rfl PkL.p trivial ?_
 intro _ _
 refine zz [45,3,3,5] ?_
 refine cl (coof_ok cb pb hb qb _ (hok2 _) (h : Int) (by omega) (ob 8 (y.1 * 1024) (w : Int)) (hget _) 8 (.inr rfl)) rfl PkL.p trivial ?_
 intro _ _
 refine zz [45,26,75,15,5] ?_
 refine al (l := [.int _ _, .int _ _, .int _ _]) rfl rfl ?_
 intro b8
 refine zz [21,48,4,2,0,0,1,3,2,17,0,1,30,9,2] ?_
 refine TC.condD rfl (fun hc15 => absurd hc15 ((by omega))) (fun hc15 => ?_)
 refine zz [0,1,30,9,2] ?_
 refine TC.condD rfl (fun hc16 => absurd hc16 ((by omega))) (fun hc16 => ?_)
 refine zz [0,1,30,9,2] ?_
 refine TC.condD rfl (fun hc17 => absurd hc17 ((by omega))) (fun hc17 => ?_)
 refine zz [42,0,1,3,4,4,2,11] ?_
 exact Ret.i y [_, _] ⟨rfl, rfl, trivial⟩ rfl hy entS
theorem ipmk_no (ib crb hob thb irb hm gm lm : Nat) (sb fb cb pb hb qb top t : Nat) (S : PS) (l : List Hd.Pl) (ho : Hd.OkT l) (hg1 : Hd.getR l 1 = (ob 2 t 0, 0)) (hP : PInv top S) (hT : TI top S t) (s : Nat) (hs : s < 256) (lim u : Int) (r0 : List Qt.Qn) (hA : enA S.m t s = 0) (hQ : S.Q = ⟨0, -1, lim, u⟩ :: r0) (hq : QR lim u r0) (n : Nat) (hU : ∀ c ∈ cls, usd S.C c ≤ n) (hR : RmB top S.Fr (n + 1)) (L : List Fo.Fn) (last : Int) (hla : last ≤ 1000000) (hs8 : s < 128) (th : Int) (hth : 0 ≤ th ∧ th ≤ 4294967295) (f9 : Nat) (g9 : Int) (hg : Hd.getR l th = (ob 1 f9 g9, 0)) (hf9 : Plc 64 (S.C 1) f9) (w : Nat) (hw : ldW S.m f9 = w) (hw9 : w ≤ 40) (c : Nat) (hc2 : 2 ≤ c ∧ c ≤ 5) (li9 : Int) (hl0 : 0 ≤ li9) (er : Int) (dz : Int) (r1 : List Qt.Qn) (hch : ChQ lim u r0 w (clsz c : Int) dz r1 er) (her : er ≠ 0) (inn : Int) (hc3 : c ≠ 3) : FSpec Tryz.prog 21 [.pointer (some ⟨ib, 0, none⟩), .int .u32 1, .int .i64 (s : Int), .int .u32 th, .int .i64 (c : Int), .int .i64 li9, .int .u32 inn] GV [pts ib 128 [.pointer (some ⟨crb, 0, none⟩), .pointer (some ⟨thb, 0, none⟩), .pointer (some ⟨irb, 0, none⟩), .map (some hm), .map (some gm), .map (some lm)], pts crb 133 [.pointer (some ⟨hob, 0, none⟩)], pts hob 131 [.pointer (some ⟨sb, 0, none⟩)], pts sb 117 [.pointer (some ⟨cb, 0, none⟩), .pointer (some ⟨fb, 0, none⟩)], pts cb 87 [.pointer (some ⟨pb, 0, none⟩), .pointer (some ⟨hb, 0, none⟩), .pointer (some ⟨qb, 0, none⟩)], isPl pb top S, slc 174 5 (some ⟨hb, 0, none⟩) 256 256 (Hd.tabC l), Fo.isF fb L last] (fun _ : PS => .tuple #[.int .u32 0, .int .i64 er]) (fun y => BackR top t S y) (fun y => [pts ib 128 [.pointer (some ⟨crb, 0, none⟩), .pointer (some ⟨thb, 0, none⟩), .pointer (some ⟨irb, 0, none⟩), .map (some hm), .map (some gm), .map (some lm)], pts crb 133 [.pointer (some ⟨hob, 0, none⟩)], pts hob 131 [.pointer (some ⟨sb, 0, none⟩)], pts sb 117 [.pointer (some ⟨cb, 0, none⟩), .pointer (some ⟨fb, 0, none⟩)], pts cb 87 [.pointer (some ⟨pb, 0, none⟩), .pointer (some ⟨hb, 0, none⟩), .pointer (some ⟨qb, 0, none⟩)], isPl pb top y, slc 174 5 (some ⟨hb, 0, none⟩) 256 256 (Hd.tabC l), Fo.isF fb L last]) := by
 refine fI Tryz.func21 Tryz.ntmps21 ?_
 intro F hF
 refine zz [132] ?_
 haveI : GVI F := ⟨hF⟩
 refine zz [0,1,4,4,2,0,0,1,6,34,2,10,7,0,0,1,3,30,2] ?_
 refine TC.condD rfl (fun hc18 => absurd hc18 ((by omega))) (fun hc18 => ?_)
 refine zz [7,0,1,6,5] ?_
 refine cl (ipcar_ok ib crb hob sb thb irb hm gm lm) rfl PkL.p trivial ?_
 intro _ _
 refine zz [45,5] ?_
 refine cl (crsp_ok crb hob sb) rfl PkL.p trivial ?_
 intro _ _
 refine zz [45,3,3,3,3,3,5] ?_
 refine cl (spmk_no sb fb cb pb hb qb top t S l ho hg1 hP hT s hs lim u r0 hA hQ hq n hU hR L last hla hs8 th hth f9 g9 hg hf9 w hw hw9 c hc2 li9 hl0 er dz r1 hch her) rfl PkL.p GVI.gv ?_
 intro y hy
 refine zz [45,26,15,15,4,4,2,0,0,1,3,23,2] ?_
 refine TC.condD rfl (fun hc19 => ?_) (fun hc19 => absurd (her) hc19)
 refine zz [0,1,3,4,4,2,51] ?_
 exact Ret.i y [_, _] ⟨rfl, rfl, trivial⟩ rfl hy entS
theorem ipmk_nofr (ib crb hob thb irb hm gm lm : Nat) (sb fb cb pb hb qb top t : Nat) (S : PS) (l : List Hd.Pl) (ho : Hd.OkT l) (hg1 : Hd.getR l 1 = (ob 2 t 0, 0)) (hP : PInv top S) (hT : TI top S t) (s : Nat) (hs : s < 256) (lim u : Int) (r0 : List Qt.Qn) (hA : enA S.m t s = 0) (hQ : S.Q = ⟨0, -1, lim, u⟩ :: r0) (hq : QR lim u r0) (n : Nat) (hU : ∀ c ∈ cls, usd S.C c ≤ n) (hR : RmB top S.Fr (n + 1)) (L : List Fo.Fn) (last : Int) (hla : last ≤ 1000000) (hs8 : 128 ≤ s) (th : Int) (hth : 0 ≤ th ∧ th ≤ 4294967295) (f9 : Nat) (g9 : Int) (hg : Hd.getR l th = (ob 1 f9 g9, 0)) (hf9 : Plc 64 (S.C 1) f9) (w : Nat) (hw : ldW S.m f9 = w) (hw9 : w ≤ 40) (li9 : Int) (er : Int) (dz : Int) (r1 : List Qt.Qn) (hch : ChQ lim u r0 w 1024 dz r1 er) (her : er ≠ 0) (inn : Int) : FSpec Tryz.prog 21 [.pointer (some ⟨ib, 0, none⟩), .int .u32 1, .int .i64 (s : Int), .int .u32 th, .int .i64 8, .int .i64 li9, .int .u32 inn] GV [pts ib 128 [.pointer (some ⟨crb, 0, none⟩), .pointer (some ⟨thb, 0, none⟩), .pointer (some ⟨irb, 0, none⟩), .map (some hm), .map (some gm), .map (some lm)], pts crb 133 [.pointer (some ⟨hob, 0, none⟩)], pts hob 131 [.pointer (some ⟨sb, 0, none⟩)], pts sb 117 [.pointer (some ⟨cb, 0, none⟩), .pointer (some ⟨fb, 0, none⟩)], pts cb 87 [.pointer (some ⟨pb, 0, none⟩), .pointer (some ⟨hb, 0, none⟩), .pointer (some ⟨qb, 0, none⟩)], isPl pb top S, slc 174 5 (some ⟨hb, 0, none⟩) 256 256 (Hd.tabC l), Fo.isF fb L last] (fun _ : PS => .tuple #[.int .u32 0, .int .i64 er]) (fun y => BackR top t S y) (fun y => [pts ib 128 [.pointer (some ⟨crb, 0, none⟩), .pointer (some ⟨thb, 0, none⟩), .pointer (some ⟨irb, 0, none⟩), .map (some hm), .map (some gm), .map (some lm)], pts crb 133 [.pointer (some ⟨hob, 0, none⟩)], pts hob 131 [.pointer (some ⟨sb, 0, none⟩)], pts sb 117 [.pointer (some ⟨cb, 0, none⟩), .pointer (some ⟨fb, 0, none⟩)], pts cb 87 [.pointer (some ⟨pb, 0, none⟩), .pointer (some ⟨hb, 0, none⟩), .pointer (some ⟨qb, 0, none⟩)], isPl pb top y, slc 174 5 (some ⟨hb, 0, none⟩) 256 256 (Hd.tabC l), Fo.isF fb L last]) := by
 refine fI Tryz.func21 Tryz.ntmps21 ?_
 intro F hF
 refine zz [132] ?_
 haveI : GVI F := ⟨hF⟩
 refine zz [0,1,4,4,2,0,0,1,6,34,2,10,7,0,0,1,3,30,2] ?_
 refine TC.condD rfl (fun hc20 => absurd hc20 ((by omega))) (fun hc20 => ?_)
 refine zz [7,0,1,6,5] ?_
 refine cl (ipcar_ok ib crb hob sb thb irb hm gm lm) rfl PkL.p trivial ?_
 intro _ _
 refine zz [45,5] ?_
 refine cl (crsp_ok crb hob sb) rfl PkL.p trivial ?_
 intro _ _
 refine zz [45,3,3,3,3,3,5] ?_
 refine cl (spmk_nofr sb fb cb pb hb qb top t S l ho hg1 hP hT s hs lim u r0 hA hQ hq n hU hR L last hla hs8 th hth f9 g9 hg hf9 w hw hw9 li9 er dz r1 hch her) rfl PkL.p GVI.gv ?_
 intro y hy
 refine zz [45,26,15,15,4,4,2,0,0,1,3,23,2] ?_
 refine TC.condD rfl (fun hc21 => ?_) (fun hc21 => absurd (her) hc21)
 refine zz [0,1,3,4,4,2,51] ?_
 exact Ret.i y [_, _] ⟨rfl, rfl, trivial⟩ rfl hy entS
end Go.Proofs.YtnlgmaibhlicjaaGreatDoor
