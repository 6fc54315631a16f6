/- Proved here: contracts of functions of this program, under the premises that each theorem names. -/
import Derived.Test.YtnlgmaibhlicjaaGreatDoorYq
set_option maxRecDepth 4000
namespace Go.Proofs.YtnlgmaibhlicjaaGreatDoor.Fo
open Go Go.QM
def findN (L : List Fn) (id : Int) : Option Fn := L.find? fun t => decide (t.id = id)
theorem findN_yes {S : List Fn} (h : NdN S) {t : Fn} (ht : t ∈ S) : findN S t.id = some t := by
 rw [findN]
 cases hf : S.find? fun u => decide (u.id = t.id) with
 | none => rw [List.find?_eq_none] at hf; exact absurd (decide_eq_true rfl) (hf t ht)
 | some u =>
  have h1 := List.find?_some hf
  have h2 := List.mem_of_find?_eq_some hf
  rw [h.inj h2 ht (by simpa using h1)]
theorem findN_no {S : List Fn} {id : Int} (h : ¬ hasN S id) : findN S id = none := by
 rw [findN, List.find?_eq_none]; intro u hu; simp only [decide_eq_true_eq]; exact fun e => h ⟨u, hu, e⟩
def ownN (L : List Fn) (id : Int) : Int × Int × Bool := match findN L id with
  | some t => (t.sp, t.sl, true)
  | none => (0, 0, false)
theorem kids_new {S : List Fn} {last : Int} (h : WI S last) {x : Int} (hx : last < x) : kidsN S x = [] := by
 rw [kidsN, List.filter_eq_nil_iff.2]
 ·rfl
 ·intro t ht
  have := h.rg t ht
  simp only [decide_eq_true_eq]; omega
theorem has_new {S : List Fn} {last : Int} (h : WI S last) {x : Int} (hx : last < x) : ¬ hasN S x := fun h2 => by have := hasN_pos h h2; omega
theorem fnew_ent (b mb ob : Nat) (F : HP) : ent (sepL [pts b 192 [.map (some mb), .map (some ob), .int .i64 0], mapF enc2 ob (fun _ => none) 0, mapF QM.encI mb (fun _ => none) 0, F]) (sepL [isF b [] 0, F]) := by
 have hf : fN (fun _ => 0) [] = fun _ => none := funext fun _ => if_neg (by simp [hasN])
 have ho : fO [] = fun _ => none := funext fun _ => if_neg (by simp [hasO])
 refine (bigS_nil (f := nP (fun _ => 0) (fun _ => none) (fun _ => 0) []) _).trans ?_
 refine (bigS_nil (f := kP (fun _ => none) (fun _ => 0) []) _).trans ?_
 refine ent_close (fun _ => 0 : Int → Nat) trivial ?_
 refine ent_close (⟨fun _ => none, fun _ => 0, mb, ob⟩ : FRep) WI.nil ?_
 exact ent_take 2 rfl (ent_takeE 3 rfl (by rw [hf]; rfl) (ent_takeE 2 rfl (by rw [ho]; rfl) (ent_take 1 rfl (ent_take 0 rfl (ent_take 0 rfl (ent_nil _))))))
theorem fnew_ok  : FSpec Tryz.prog 44 [] noRd [] (fun b : Nat => .pointer (some ⟨b, 0, none⟩)) (fun _ => True) (fun b => [isF b [] 0]) := by
 refine fI Tryz.func44 Tryz.ntmps44 ?_
 intro F _
 refine zz [37,0,1,24,2,0,1,5] ?_
 refine mkF QM.encI ?_
 intro b1
 refine e rfl ?_
 refine mkF enc2 ?_
 intro b2
 first | refine q rfl rfl (bld (cs := [.map _, .map _, .int _ _]) rfl) ?_ | refine q rfl rfl (bld (cs := [_, _, _]) rfl) ?_
 refine e rfl ?_
 refine bx (v := .agg #[_, _, _]) (l := [.map _, .map _, .int _ _]) rfl rfl ?_
 intro b3
 refine zz [24,2,11] ?_
 exact Ret.i b3 [_] ⟨rfl, trivial⟩ rfl trivial (fnew_ent b3 b1 b2 F)
theorem fat_ok (b mb ob n : Nat) (last : Int) (f : Int → Option Value) (id : Int) : FSpec Tryz.prog 96 [.pointer (some ⟨b, 0, none⟩), .int .i64 id] noRd [pts b 192 (hdF mb ob last), mapF QM.encI mb f n] (fun _ : Unit => (f id).getD (.pointer none)) (fun _ => True) (fun _ => [pts b 192 (hdF mb ob last), mapF QM.encI mb f n]) := by
 refine fI Tryz.func96 Tryz.ntmps96 ?_
 intro F _
 refine zz [44,0,1,87,2,0,0,1,71,34,2,10,7,0,1,71,13,14,12,71] ?_
 refine q rfl rfl (luF 3 213 rfl rfl (KL.int rfl) rfl rfl) ?_
 refine zz [87,2,11] ?_
 exact zc9
theorem ffind_ok (b : Nat) (L : List Fn) (last : Int) (sp sl : Int) : FSpec Tryz.prog 233 [.pointer (some ⟨b, 0, none⟩), .int .i64 sp, .int .i64 sl] noRd [isF b L last] (fun _ : Unit => .int .i64 (findO L (sp, sl))) (fun _ => True) (fun _ => [isF b L last]) := by
 refine fI Tryz.func233 Tryz.ntmps233 ?_
 intro F _
 refine zz [39] ?_
 refine TC.open 0 rfl (fun A _ => ?_)
 refine zz [39] ?_
 refine TC.open 0 rfl (fun x0 hx0 => ?_)
 obtain ⟨ad, cap, mb, ob⟩ := x0
 have hW := hx0
 refine zz [82] ?_
 dsimp only at hW ⊢
 refine zz [0,1,4,2,0,0,1,6,34,2,10,7,0,1,6,13,47,12,3,3,218] ?_
 refine q rfl rfl (luF (a := (_, _)) 216 3 rfl rfl (KL.pair (by kernel_rfl)) rfl rfl) ?_
 rw [fO_get]
 refine zz [4,2,11] ?_
 exact Ret.i () [_] ⟨rfl, trivial⟩ rfl trivial (ent_close A trivial (ent_close ⟨ad, cap, mb, ob⟩ hW (ent_take 0 rfl (ent_take 0 rfl (ent_take 0 rfl (ent_take 0 rfl (ent_take 0 rfl (ent_take 0 rfl (ent_nil _)))))))))
theorem fowner_ok (b : Nat) (L : List Fn) (last : Int) (id : Int) : FSpec Tryz.prog 276 [.pointer (some ⟨b, 0, none⟩), .int .i64 id] noRd [isF b L last] (fun _ : Unit => .tuple #[.int .i64 (ownN L id).1, .int .i64 (ownN L id).2.1, .bool (ownN L id).2.2]) (fun _ => True) (fun _ => [isF b L last]) := by
 refine fI Tryz.func276 Tryz.ntmps276 ?_
 intro F _
 refine zz [39] ?_
 refine TC.open 0 rfl (fun A _ => ?_)
 refine zz [39] ?_
 refine TC.open 0 rfl (fun x0 hx0 => ?_)
 obtain ⟨ad, cap, mb, ob⟩ := x0
 have hW := hx0
 refine zz [82] ?_
 dsimp only at hW ⊢
 by_cases hy : hasN L id
 ·have hf := fN_yes (A := A) hy
  obtain ⟨t, ht, rfl⟩ := hy
  obtain ⟨M, hM⟩ := perm_mem ht
  have hv : ownN L t.id = (t.sp, t.sl, true) := by rw [ownN, findN_yes hW.nd ht]
  rw [hv]
  refine TC.weak (ent_openB 3 rfl hM) ?_
  refine zz [0,1,4,4,9,2,0,1,6,3,5] ?_
  refine cl (fat_ok b mb ob L.length last (fN A L) t.id) rfl (picked_cons 2 rfl (picked_cons 2 rfl (picked_nil _))) trivial ?_
  intro _ _
  refine zz [49] ?_
  rw [hf]
  refine zz [24,2,0,0,1,6,34,2,10,7,0] ?_
  refine TC.draw _ [] [(0, false), (1, false), (2, false), (3, false), (4, false), (5, false), (6, false), (7, false), (8, false), (9, false), (10, false), (11, false), (12, false)] (by kernel_rfl) (by kernel_rfl) (ent.refl _) ?_
  refine zz [28,31,25,25,18,28,31,25,60,18,41,41,124,27,11] ?_
  exact Ret.i () [_, _, _] ⟨rfl, rfl, rfl, trivial⟩ rfl trivial (ent_close A trivial (ent_close ⟨ad, cap, mb, ob⟩ hW (ent_take 0 rfl (ent_take 0 rfl (ent_take 2 rfl (ent_closeB 0 0 t rfl rfl rfl (fun _ _ => rfl) hM.symm (ent_take 0 rfl (ent_take 0 rfl (ent_nil _)))))))))
 ·have hf := fN_no (A := A) hy
  have hv : ownN L id = (0, 0, false) := by rw [ownN, findN_no hy]
  rw [hv]
  refine zz [0,1,4,4,9,2,0,1,6,3,5] ?_
  refine cl (fat_ok b mb ob L.length last (fN A L) id) rfl (picked_cons 0 rfl (picked_cons 0 rfl (picked_nil _))) trivial ?_
  intro _ _
  refine zz [69] ?_
  rw [hf]
  refine zz [24,2,0,0,1,6,34,2,40,0,1,4,4,9,2,51] ?_
  exact Ret.i () [_, _, _] ⟨rfl, rfl, rfl, trivial⟩ rfl trivial (ent_close A trivial (ent_close ⟨ad, cap, mb, ob⟩ hW (ent_take 0 rfl (ent_take 0 rfl (ent_take 0 rfl (ent_take 0 rfl (ent_take 0 rfl (ent_take 0 rfl (ent_nil _)))))))))
set_option maxHeartbeats 1000000 in
theorem fadd_ok (b : Nat) (L : List Fn) (last : Int) (par sp sl : Int) (hla : last ≤ 1000000) : FSpec Tryz.prog 54 [.pointer (some ⟨b, 0, none⟩), .int .i64 par, .int .i64 sp, .int .i64 sl] noRd [isF b L last] (fun _ : Unit => .tuple #[.int .i64 (addN L last par (sp, sl)).2.2.1, .int .i64 (addN L last par (sp, sl)).2.2.2]) (fun _ => True) (fun _ => [isF b (addN L last par (sp, sl)).1 (addN L last par (sp, sl)).2.1]) := by
 refine fI Tryz.func54 Tryz.ntmps54 ?_
 intro F _
 refine zz [39] ?_
 refine TC.open 0 rfl (fun A _ => ?_)
 refine zz [39] ?_
 refine TC.open 0 rfl (fun x0 hx0 => ?_)
 obtain ⟨ad, cap, mb, ob⟩ := x0
 have hW := hx0
 refine zz [82] ?_
 dsimp only at hW ⊢
 have hwl := hW.len
 by_cases hy : hasN L par
 ·have hf := fN_yes (A := A) hy
  refine zz [0,1,4,4,2,0,1,6,3,5] ?_
  refine cl (fat_ok b mb ob L.length last (fN A L) par) rfl (picked_cons 0 rfl (picked_cons 0 rfl (picked_nil _))) trivial ?_
  intro _ _
  refine zz [69] ?_
  rw [hf]
  refine zz [3,3,218,5] ?_
  refine al (l := ints [_, _]) rfl rfl ?_
  intro b4
  refine zz [24,21,193,2,0,17,0,1,6,34,9,2,10,0,1,6,34,20] ?_
  refine TL.known 24 rfl (c := false) rfl ?_
  refine zz [22,22,19,9,2,10,0,261,28,31,60,18,141] ?_
  refine dq rfl rfl rfl (luF (a := (_, _)) 216 3 rfl rfl (KL.pair (by kernel_rfl)) rfl rfl) ?_
  rw [fO_get]
  refine dq rfl rfl rfl (neI rfl rfl) ?_
  refine zz [124,27] ?_
  first | refine TC.condD rfl (fun ho => ?_) (fun ho => ?_) | refine TC.cond rfl (fun ho => ?_) (fun ho => ?_)
  ·have hv : addN L last par (sp, sl) = (L, last, 0, 7) := by rw [addN, if_neg (fun h => h.1 hy), if_pos ho]
   rw [hv]
   dsimp only
   refine zz [0,1,4,4,2,56] ?_
   exact Ret.i () [_, _] ⟨rfl, rfl, trivial⟩ rfl trivial (ent_close A trivial (ent_close ⟨ad, cap, mb, ob⟩ hW (ent_take 1 rfl (ent_take 1 rfl (ent_take 1 rfl (ent_take 1 rfl (ent_take 1 rfl (ent_take 1 rfl (ent_nil _)))))))))
  ·have hv : addN L last par (sp, sl) = (L ++ [⟨last + 1, par, sp, sl⟩], last + 1, last + 1, 0) := by rw [addN, if_neg (fun h => h.1 hy), if_neg ho]
   rw [hv]
   dsimp only
   have hno : ¬ hasO L (sp, sl) := fun h => ho ((hasO_find hW _).1 h)
   have hfo := fO_no hno
   have hnn := has_new hW (x := last + 1) (by omega)
   have hfn := fN_no (A := A) hnn
   have hkn := kids_new hW (x := last + 1) (by omega)
   have hlf : (L ++ [(⟨last + 1, par, sp, sl⟩ : Fn)]).length = L.length + 1 := by rw [List.length_append, List.length_singleton]
   have hpp := hasN_pos hW hy
   have hW2 := hW.add (t := ⟨last + 1, par, sp, sl⟩) rfl (by dsimp only; omega) hno
   obtain ⟨t, ht, rfl⟩ := hy
   obtain ⟨M, hM⟩ := perm_mem ht
   have hMn := hW.nd.perm hM.symm
   have hkl := kidsN_len L t.id
   have hil := ints_length (kidsN L t.id)
   have hks : kidsN (L ++ [⟨last + 1, t.id, sp, sl⟩]) t.id = kidsN L t.id ++ [last + 1] := by rw [kidsN_app, kidsN_one rfl (show t.id ≠ 0 by omega)]
   have hko : ∀ x, t.id ≠ x → kidsN (L ++ [⟨last + 1, t.id, sp, sl⟩]) x = kidsN L x := fun x hx => by rw [kidsN_app, kidsN_one_ne hx, List.append_nil]
   have hMo : ∀ u ∈ M, t.id ≠ u.id ∧ u.id ≠ last + 1 := fun u hu => ⟨fun e2 => (List.nodup_cons.1 hMn).1 (List.mem_map.2 ⟨u, hu, e2.symm⟩), fun e2 => by have := hW.rg u (hM.mem_iff.2 (by simp [hu])); omega⟩
   refine TC.weak (ent_openB 4 rfl hM) ?_
   refine TC.weak (ent_openB 6 rfl hM) ?_
   refine zz [42,0,1,6,13,62,12,36,13,62,21,105,2,0] ?_
   refine TC.draw _ [] [(0, false), (1, false), (2, false), (3, false), (4, false), (5, false), (6, false), (7, false), (8, false), (9, false), (10, false), (11, true), (12, true)] (by kernel_rfl) (by kernel_rfl) (ent_take 0 rfl (ent_take 4 rfl (ent_nil _))) ?_
   refine zz [28,31,25,18,28,31,58,18,141,33,262,16] ?_
   refine bx (v := .agg #[_, _, _, _]) (l := [.int _ _, .int _ _, .int _ _, .slice _ _ _]) rfl rfl ?_
   intro b6
   refine zz [8,61] ?_
   refine muF 3 213 rfl (KL.int rfl) rfl rfl rfl ?_
   refine zz [8,27,0] ?_
   refine TC.draw _ [] [(0, false), (1, false), (2, false), (3, false), (4, false), (5, false), (6, false), (7, false), (8, false), (9, true)] (by kernel_rfl) (by kernel_rfl) (ent_take 2 rfl (ent_take 6 rfl (ent_nil _))) ?_
   refine zz [28,31,60,18,141,28,31,58,18,61] ?_
   refine muF (a := (_, _)) 216 3 rfl (KL.pair (by kernel_rfl)) rfl rfl rfl ?_
   refine zz [8,27,0,0,1,6,106,2,40] ?_
   refine TC.draw _ [13] [(0, false), (1, false), (2, false), (3, false), (4, false), (5, false), (6, false), (7, false), (8, false), (9, true), (10, true), (11, false), (12, false), (13, true)] (by kernel_rfl) (by kernel_rfl) (ent_take 3 rfl (ent_take 5 rfl (ent_nil _))) ?_
   refine zz [28,28,31,90,18,28,31,58,18,16,72] ?_
   intro b7
   refine zz [8,16] ?_
   refine ap 8 rfl rfl rfl rfl rfl (Nat.le_of_ble_eq_true rfl) (show _ = ints [last + 1] from rfl) rfl (by omega) (by simp only [maxLen]; omega) ?_
   intro ad1 cap1
   refine zz [8,31,90,70,110,27,0,1,6,13,62,12,4,4,2,11] ?_
   have hne : t.id ≠ last + 1 := by omega
   have hkz : kidsN (L ++ [(⟨last + 1, t.id, sp, sl⟩ : Fn)]) (last + 1) = [] := by rw [hko _ hne, hkn]
   have hP2 : (t :: (⟨last + 1, t.id, sp, sl⟩ : Fn) :: M).Perm (L ++ [(⟨last + 1, t.id, sp, sl⟩ : Fn)]) := (List.Perm.swap _ _ _).trans ((hM.symm.cons _).trans (List.perm_append_singleton _ _).symm)
   have hcN : ∀ u ∈ M, nP A ad cap L u = nP (updI A (last + 1) b6) (updI (updI ad t.id ad1) (last + 1) none) (updI (updI cap t.id cap1) (last + 1) 0) (L ++ [(⟨last + 1, t.id, sp, sl⟩ : Fn)]) u := fun u hu => by
    obtain ⟨h1, h2⟩ := hMo u hu
    dsimp only [nP]
    rw [updI_ne h2, updI_ne h2, updI_ne h2, updI_ne (Ne.symm h1), updI_ne (Ne.symm h1), hko _ h1]
   have hcK : ∀ u ∈ M, kP ad cap L u = kP (updI (updI ad t.id ad1) (last + 1) none) (updI (updI cap t.id cap1) (last + 1) 0) (L ++ [(⟨last + 1, t.id, sp, sl⟩ : Fn)]) u := fun u hu => by
    obtain ⟨h1, h2⟩ := hMo u hu
    dsimp only [kP]
    rw [updI_ne h2, updI_ne h2, updI_ne (Ne.symm h1), updI_ne (Ne.symm h1), hko _ h1]
   exact Ret.i () [_, _] ⟨rfl, rfl, trivial⟩ rfl trivial ((slc_nil 3 1 _).trans (ent_close (updI A (last + 1) b6) trivial (ent_close ⟨updI (updI ad t.id ad1) (last + 1) none, updI (updI cap t.id cap1) (last + 1) 0, mb, ob⟩ hW2 (ent_take 7 rfl (ent_takeE 5 rfl (by dsimp only; rw [fN_add (t := (⟨last + 1, t.id, sp, sl⟩ : Fn)), hfn, hlf]; rfl) (ent_takeE 4 rfl (by dsimp only; rw [fO_add (t := (⟨last + 1, t.id, sp, sl⟩ : Fn)) hno, hfo, hlf]; rfl) (ent_closeB2 1 3 4 t (⟨last + 1, t.id, sp, sl⟩ : Fn) rfl rfl rfl (by dsimp only [nP]; rw [updI_ne hne, updI_ne hne, updI_ne hne, updI_same, updI_same, hks, List.length_append]; rfl) (by dsimp only [nP]; rw [updI_same, updI_same, updI_same, hkz]; rfl) hcN hP2 (ent_closeB2 1 0 1 t (⟨last + 1, t.id, sp, sl⟩ : Fn) rfl rfl rfl (by dsimp only [kP]; rw [updI_ne hne, updI_ne hne, updI_same, updI_same, hks, List.length_append, List.length_singleton, ints_app1]) (by dsimp only [kP]; rw [updI_same, updI_same, hkz]; rfl) hcK hP2 (ent_take 2 rfl (ent_nil _))))))))))
 ·have hf := fN_no (A := A) hy
  refine zz [0,1,4,4,2,0,1,6,3,5] ?_
  refine cl (fat_ok b mb ob L.length last (fN A L) par) rfl (picked_cons 0 rfl (picked_cons 0 rfl (picked_nil _))) trivial ?_
  intro _ _
  refine zz [69] ?_
  rw [hf]
  refine zz [3,3,218,5] ?_
  refine al (l := ints [_, _]) rfl rfl ?_
  intro b5
  refine zz [24,21,193,2,0,17,0,1,6,34,9,2,10,0,1,6,34,20,217,32,92,19,9,2] ?_
  first | refine TC.condD rfl (fun h0 => ?_) (fun h0 => ?_) | refine TC.cond rfl (fun h0 => ?_) (fun h0 => ?_)
  ·have hv : addN L last par (sp, sl) = (L, last, 0, 6) := if_pos ⟨hy, h0⟩
   rw [hv]
   dsimp only
   refine zz [0,1,4,4,2,56] ?_
   exact Ret.i () [_, _] ⟨rfl, rfl, trivial⟩ rfl trivial (ent_close A trivial (ent_close ⟨ad, cap, mb, ob⟩ hW (ent_take 1 rfl (ent_take 1 rfl (ent_take 1 rfl (ent_take 1 rfl (ent_take 1 rfl (ent_take 1 rfl (ent_nil _)))))))))
  ·obtain rfl : par = 0 := by omega
   refine zz [0,261,28,31,60,18,141] ?_
   refine dq rfl rfl rfl (luF (a := (_, _)) 216 3 rfl rfl (KL.pair (by kernel_rfl)) rfl rfl) ?_
   rw [fO_get]
   refine dq rfl rfl rfl (neI rfl rfl) ?_
   refine zz [124,27] ?_
   first | refine TC.condD rfl (fun ho => ?_) (fun ho => ?_) | refine TC.cond rfl (fun ho => ?_) (fun ho => ?_)
   ·have hv : addN L last 0 (sp, sl) = (L, last, 0, 7) := by rw [addN, if_neg (fun h => h.2 rfl), if_pos ho]
    rw [hv]
    dsimp only
    refine zz [0,1,4,4,2,56] ?_
    exact Ret.i () [_, _] ⟨rfl, rfl, trivial⟩ rfl trivial (ent_close A trivial (ent_close ⟨ad, cap, mb, ob⟩ hW (ent_take 1 rfl (ent_take 1 rfl (ent_take 1 rfl (ent_take 1 rfl (ent_take 1 rfl (ent_take 1 rfl (ent_nil _)))))))))
   ·have hv : addN L last 0 (sp, sl) = (L ++ [⟨last + 1, 0, sp, sl⟩], last + 1, last + 1, 0) := by rw [addN, if_neg (fun h => h.2 rfl), if_neg ho]
    rw [hv]
    dsimp only
    have hno : ¬ hasO L (sp, sl) := fun h => ho ((hasO_find hW _).1 h)
    have hfo := fO_no hno
    have hnn := has_new hW (x := last + 1) (by omega)
    have hfn := fN_no (A := A) hnn
    have hkn := kids_new hW (x := last + 1) (by omega)
    have hlf : (L ++ [(⟨last + 1, 0, sp, sl⟩ : Fn)]).length = L.length + 1 := by rw [List.length_append, List.length_singleton]
    have hW2 := hW.add (t := (⟨last + 1, 0, sp, sl⟩ : Fn)) rfl (by dsimp only; omega) hno
    have hko : ∀ x, 1 ≤ x → kidsN (L ++ [(⟨last + 1, 0, sp, sl⟩ : Fn)]) x = kidsN L x := fun x hx => by rw [kidsN_app, kidsN_one_ne (by dsimp only; omega), List.append_nil]
    refine zz [42,0,1,6,13,62,12,36,13,62,21,105,2,0] ?_
    refine TC.draw _ [] [(0, false), (1, false), (2, false), (3, false), (4, false), (5, false), (6, false), (7, false), (8, false), (9, false), (10, false), (11, true), (12, true)] (by kernel_rfl) (by kernel_rfl) (ent_take 0 rfl (ent_take 0 rfl (ent_nil _))) ?_
    refine zz [28,31,25,18,28,31,58,18,141,33,262,16] ?_
    refine bx (v := .agg #[_, _, _, _]) (l := [.int _ _, .int _ _, .int _ _, .slice _ _ _]) rfl rfl ?_
    intro b8
    refine zz [8,61] ?_
    refine muF 3 213 rfl (KL.int rfl) rfl rfl rfl ?_
    refine zz [8,27,0] ?_
    refine TC.draw _ [] [(0, false), (1, false), (2, false), (3, false), (4, false), (5, false), (6, false), (7, false), (8, false), (9, true)] (by kernel_rfl) (by kernel_rfl) (ent_take 2 rfl (ent_take 2 rfl (ent_nil _))) ?_
    refine zz [28,31,60,18,141,28,31,58,18,61] ?_
    refine muF (a := (_, _)) 216 3 rfl (KL.pair (by kernel_rfl)) rfl rfl rfl ?_
    refine zz [8,27,0,0,1,6,106,2,10,7,0,1,6,13,62,12,4,4,2,11] ?_
    have hkz : kidsN (L ++ [(⟨last + 1, 0, sp, sl⟩ : Fn)]) (last + 1) = [] := by rw [hko _ (by omega), hkn]
    have hcN : ∀ u ∈ L, nP A ad cap L u = nP (updI A (last + 1) b8) (updI ad (last + 1) none) (updI cap (last + 1) 0) (L ++ [(⟨last + 1, 0, sp, sl⟩ : Fn)]) u := fun u hu => by
     have h1 := hW.rg u hu
     have h2 : u.id ≠ last + 1 := by omega
     dsimp only [nP]
     rw [updI_ne h2, updI_ne h2, updI_ne h2, hko _ h1.1]
    have hcK : ∀ u ∈ L, kP ad cap L u = kP (updI ad (last + 1) none) (updI cap (last + 1) 0) (L ++ [(⟨last + 1, 0, sp, sl⟩ : Fn)]) u := fun u hu => by
     have h1 := hW.rg u hu
     have h2 : u.id ≠ last + 1 := by omega
     dsimp only [kP]
     rw [updI_ne h2, updI_ne h2, hko _ h1.1]
    have hP2 : ((⟨last + 1, 0, sp, sl⟩ : Fn) :: L).Perm (L ++ [(⟨last + 1, 0, sp, sl⟩ : Fn)]) := (List.perm_append_singleton _ _).symm
    exact Ret.i () [_, _] ⟨rfl, rfl, trivial⟩ rfl trivial ((slc_nil 3 1 _).trans (ent_close (updI A (last + 1) b8) trivial (ent_close ⟨updI ad (last + 1) none, updI cap (last + 1) 0, mb, ob⟩ hW2 (ent_take 4 rfl (ent_takeE 2 rfl (by dsimp only; rw [fN_add (t := (⟨last + 1, 0, sp, sl⟩ : Fn)), hfn, hlf]; rfl) (ent_takeE 1 rfl (by dsimp only; rw [fO_add (t := (⟨last + 1, 0, sp, sl⟩ : Fn)) hno, hfo, hlf]; rfl) (ent_closeB 1 2 (⟨last + 1, 0, sp, sl⟩ : Fn) rfl rfl (by dsimp only [nP]; rw [updI_same, updI_same, updI_same, hkz]; rfl) hcN hP2 (ent_closeB 0 1 (⟨last + 1, 0, sp, sl⟩ : Fn) rfl rfl (by dsimp only [kP]; rw [updI_same, updI_same, hkz]; rfl) hcK hP2 (ent_take 1 rfl (ent_nil _))))))))))
end Go.Proofs.YtnlgmaibhlicjaaGreatDoor.Fo
namespace Go.Proofs.YtnlgmaibhlicjaaGreatDoor.Fo
open Go Go.QM
end Go.Proofs.YtnlgmaibhlicjaaGreatDoor.Fo
namespace Go.Proofs.YtnlgmaibhlicjaaGreatDoor.Fo
open Go Go.QM
end Go.Proofs.YtnlgmaibhlicjaaGreatDoor.Fo
namespace Go.Proofs.YtnlgmaibhlicjaaGreatDoor.Fo
open Go Go.QM
theorem move_perm {Z M : List Fn} {u : Fn} (hn : NdN Z) (hZ : Z.Perm (u :: M)) (p : Int) : ((⟨u.id, p, u.sp, u.sl⟩ : Fn) :: M).Perm (moveN Z u p) :=
 ((offN_perm hn hZ).symm.cons _).trans (List.perm_append_singleton _ _).symm
theorem move_has {Z : List Fn} {u : Fn} (hu : u ∈ Z) (p x : Int) : hasN (moveN Z u p) x ↔ hasN Z x := by
 have : hasN (moveN Z u p) x ↔ hasN (offN Z u.id) x ∨ u.id = x := by simp [moveN, hasN, or_and_right, exists_or]
 rw [this, offN_has]
 constructor
 ·rintro (h | h)
  ·exact h.1
  ·exact ⟨u, hu, h⟩
 ·intro h
  by_cases e : x = u.id
  ·exact .inr e.symm
  ·exact .inl ⟨h, e⟩
theorem move_len {Z : List Fn} {u : Fn} (hn : NdN Z) (hu : u ∈ Z) (p : Int) : (moveN Z u p).length = Z.length := by
 have := offN_len hn hu
 rw [moveN, List.length_append, List.length_singleton]; exact this
theorem fO_congr {S T : List Fn} (hS : NdO S) (hT : NdO T) (h : ∀ o i, (∃ t ∈ S, spN t = o ∧ t.id = i) ↔ ∃ t ∈ T, spN t = o ∧ t.id = i) : fO S = fO T := by
 funext o
 by_cases h1 : hasO S o
 ·obtain ⟨t, ht, rfl⟩ := h1
  obtain ⟨u, hu, h2, h3⟩ := (h (spN t) t.id).1 ⟨t, ht, rfl, rfl⟩
  rw [fO_yes hS ht, ← h2, fO_yes hT hu, h3]
 ·rw [fO_no h1, fO_no]
  rintro ⟨u, hu, h2⟩
  obtain ⟨t, ht, h3, _⟩ := (h o u.id).2 ⟨u, hu, h2, rfl⟩
  exact h1 ⟨t, ht, h3⟩
theorem fO_move {Z : List Fn} {last : Int} (h : WI Z last) {u : Fn} (hu : u ∈ Z) {p : Int} (hp : 0 ≤ p ∧ p < u.id) : fO (moveN Z u p) = fO Z := by
 refine fO_congr (h.move hu hp).no h.no fun o i => ?_
 constructor
 ·rintro ⟨t, ht, h1, h2⟩
  rcases List.mem_append.1 ht with ht | ht
  ·exact ⟨t, (offN_mem.1 ht).1, h1, h2⟩
  ·rw [List.mem_singleton.1 ht] at h1 h2; exact ⟨u, hu, h1, h2⟩
 ·rintro ⟨t, ht, h1, h2⟩
  by_cases e : t.id = u.id
  ·have := h.nd.inj ht hu e
   subst this
   exact ⟨_, List.mem_append.2 (.inr (List.mem_singleton.2 rfl)), h1, h2⟩
  ·exact ⟨t, List.mem_append.2 (.inl (offN_mem.2 ⟨ht, e⟩)), h1, h2⟩
theorem kids_move_ne {Z : List Fn} (hn : NdN Z) {u : Fn} (hu : u ∈ Z) {p x : Int} (h1 : p ≠ x) (h2 : u.par ≠ x) : kidsN (moveN Z u p) x = kidsN Z x := by
 rw [moveN, kidsN_app, kidsN_one_ne h1, List.append_nil, kidsN_off_ne hn hu h2]
theorem kids_move_p {Z : List Fn} (hn : NdN Z) {u : Fn} (hu : u ∈ Z) {p : Int} (h1 : p ≠ 0) (h2 : u.par ≠ p) : kidsN (moveN Z u p) p = kidsN Z p ++ [u.id] := by
 rw [moveN, kidsN_app, kidsN_one rfl h1, kidsN_off_ne hn hu h2]
def mvN (p : Int) (Z : List Fn) (k : Int) : List Fn := match findN Z k with
  | some u => moveN Z u p
  | none => Z
def liftN (L : List Fn) (id : Int) : List Fn := match findN L id with
  | some t => (kidsN L id).foldl (mvN t.par) (offN L id)
  | none => L
def liftE (L : List Fn) (id : Int) : Int := if hasN L id then 0 else 6
structure LI (L : List Fn) (last : Int) (t : Fn) (i : Nat) (Z : List Fn) : Prop where
  eq : Z = ((kidsN L t.id).take i).foldl (mvN t.par) (offN L t.id)
  wi : WI Z last
  no : ¬ hasN Z t.id
  todo : ∀ j k, i ≤ j → (kidsN L t.id)[j]? = some k → ∃ u ∈ Z, u.id = k ∧ u.par = t.id
  len : Z.length = (offN L t.id).length
theorem LI.start {L : List Fn} {last : Int} (h : WI L last) {t : Fn} (ht : t ∈ L) : LI L last t 0 (offN L t.id) where
 eq := rfl
 wi := h.off _
 no := fun h2 => (offN_has.1 h2).2 rfl
 todo := fun j k _ hk => by
  obtain ⟨_, u, hu, h1, h2⟩ := kidsN_mem.1 (List.mem_of_getElem? hk)
  have := h.rg u hu
  exact ⟨u, offN_mem.2 ⟨hu, by omega⟩, h2, h1⟩
 len := rfl
theorem LI.next {L : List Fn} {last : Int} (h : WI L last) {t : Fn} (ht : t ∈ L) {i : Nat} {Z : List Fn} (hI : LI L last t i Z) {u : Fn} (hu : u ∈ Z) (hk : (kidsN L t.id)[i]? = some u.id) (hp : 0 ≤ t.par ∧ t.par < u.id) : LI L last t (i + 1) (moveN Z u t.par) where
 eq := by rw [List.take_add_one, hk, Option.toList, List.foldl_append, ← hI.eq, List.foldl_cons, List.foldl_nil, mvN, findN_yes hI.wi.nd hu]
 wi := hI.wi.move hu hp
 no := by rw [move_has hu]; exact hI.no
 todo := fun j k hj hk2 => by
  obtain ⟨v, hv, h1, h2⟩ := hI.todo j k (by omega) hk2
  refine ⟨v, List.mem_append.2 (.inl (offN_mem.2 ⟨hv, fun e => ?_⟩)), h1, h2⟩
  obtain ⟨a1, b1⟩ := List.getElem?_eq_some_iff.1 hk
  obtain ⟨a2, b2⟩ := List.getElem?_eq_some_iff.1 hk2
  exact (List.pairwise_iff_getElem.1 (kidsN_nd h.nd t.id)) i j a1 a2 (by omega) (by rw [b1, b2, ← h1, e])
 len := by rw [move_len hI.wi.nd hu]; exact hI.len
theorem LI.done {L : List Fn} {last : Int} (h : WI L last) {t : Fn} (ht : t ∈ L) {Z : List Fn} (hI : LI L last t (kidsN L t.id).length Z) : liftN L t.id = Z := by
 have := hI.eq
 rw [List.take_length] at this
 rw [liftN, findN_yes h.nd ht, this]
theorem fdrop1_ok (b : Nat) (id x : Int) : FSpec Tryz.prog 327 [.int .i64 x, .pointer (some ⟨b, 0, none⟩)] (fun F => Rd F b (.cells #[Value.int .i64 id] 3 (0, 0))) [] (fun _ : Unit => .bool (decide (x = id))) (fun _ => True) (fun _ => []) := by
 refine fI Tryz.func327 Tryz.ntmps327 ?_
 intro F hF
 refine zz [37] ?_
 haveI : RdI F b (.cells #[Value.int .i64 id] 3 (0, 0)) := ⟨hF⟩
 refine zz [0,1,9,2,0,1,3,12,30,9,2,11] ?_
 exact zc2
set_option maxHeartbeats 1000000 in
theorem fdrop_ok (b : Nat) (A : Int → Nat) (L : List Fn) (last : Int) (t : Fn) (ht : t ∈ L) (hl : L.length ≤ 1000000) : FSpec Tryz.prog 308 [.pointer (some ⟨b, 0, none⟩), .int .i64 t.id] noRd [isFa b A L last] (fun _ : Option Addr × Nat => .agg (ints [t.sp, t.sl]).toArray) (fun _ => True) (fun y => [isFa b A (offN L t.id) last, pts (A t.id) 218 [.int .i64 t.sp, .int .i64 t.sl, .int .i64 t.par, .slice y.1 (kidsN L t.id).length y.2], slc 3 1 y.1 (kidsN L t.id).length y.2 (ints (kidsN L t.id))]) := by
 refine fI Tryz.func308 Tryz.ntmps308 ?_
 intro F _
 refine zz [39,0,1,5] ?_
 refine bx (v := .int _ _) (l := [.int _ _]) rfl rfl ?_
 intro b1
 refine e rfl ?_
 refine al (l := ints [_, _]) rfl rfl ?_
 intro b2
 refine zz [2,0] ?_
 refine TC.open 2 rfl (fun x0 hx0 => ?_)
 obtain ⟨ad, cap, mb, ob⟩ := x0
 have hW := hx0
 refine zz [119] ?_
 dsimp only at hW ⊢
 have hf := fN_yes (A := A) ⟨t, ht, rfl⟩
 have hol := offN_len hW.nd ht
 have hol2 : (offN L t.id).length = L.length - 1 := by omega
 have hfo : fO L (t.sp, t.sl) = some (.int .i64 t.id) := fO_yes hW.no ht
 have htr := hW.rg t ht
 obtain ⟨M, hM⟩ := perm_mem ht
 have hMn := hW.nd.perm hM.symm
 refine TC.weak (ent_openB 3 rfl hM) ?_
 refine TC.weak (ent_openB 5 rfl hM) ?_
 refine TC.draw _ [] [(0, false), (1, false), (2, false), (3, false), (4, false), (5, false), (6, false)] (by kernel_rfl) (by kernel_rfl) (ent.refl _) ?_
 refine dq rfl rfl rfl (mv rfl) ?_
 refine zz [31,25,18,18] ?_
 refine dq rfl rfl rfl (luF 3 213 rfl rfl (KL.int rfl) rfl rfl) ?_
 refine dq rfl rfl rfl (asg rfl) ?_
 refine zz [27,0,0] ?_
 rw [hf]
 refine zz [1,6,6,13,62,12,5] ?_
 refine cl (fat_ok b mb ob L.length last (fN A L) t.par) rfl (picked_cons 4 rfl (picked_cons 4 rfl (picked_nil _))) trivial ?_
 intro _ _
 refine zz [86] ?_
 by_cases hp : hasN L t.par
 ·obtain ⟨u, hu, hup⟩ := hp
  have hf2 : fN A L t.par = some (.pointer (some ⟨A u.id, 0, none⟩)) := by rw [← hup]; exact fN_yes ⟨u, hu, rfl⟩
  rw [hf2]
  have huM : u ∈ M := by
   rcases List.mem_cons.1 (hM.mem_iff.1 hu) with e | e
   ·subst e; omega
   ·exact e
  obtain ⟨M2, hM2⟩ := perm_mem huM
  have hM2n := (List.nodup_cons.1 ((hM2.map (·.id)).nodup_iff.1 (List.nodup_cons.1 hMn).2)).1
  have hkl := kidsN_len L u.id
  have hne : ∀ x ∈ M2, t.par ≠ x.id := fun x hx e => hM2n (List.mem_map.2 ⟨x, hx, by show x.id = u.id; rw [hup, e]⟩)
  have hcN : ∀ x ∈ M2, nP A ad cap L x = nP A ad cap (offN L t.id) x := fun x hx => by
   dsimp only [nP]
   rw [kidsN_off_ne hW.nd ht (hne x hx)]
  have hcK : ∀ x ∈ M2, kP ad cap L x = kP ad cap (offN L t.id) x := fun x hx => by
   dsimp only [kP]
   rw [kidsN_off_ne hW.nd ht (hne x hx)]
  have hP2 : (u :: M2).Perm (offN L t.id) := hM2.symm.trans (offN_perm hW.nd hM).symm
  refine zz [24,2,0,1,6,106,2,40] ?_
  refine TC.weak (ent_openB 5 rfl hM2) ?_
  refine TC.weak (ent_openB 5 rfl hM2) ?_
  refine zz [1,6,6,13,78,12] ?_
  first | refine q rfl rfl (mkf (vf := []) (vc := [.pointer _]) rfl rfl) ?_ | refine q rfl rfl (mkf rfl rfl) ?_
  refine e rfl ?_
  refine cl (deleteI_ok (ad u.id) (cap u.id) (kidsN L u.id) 327 [.pointer (some ⟨b1, 0, none⟩)] (fun y => decide (y = t.id)) (fun F => Rd F b1 (.cells #[Value.int .i64 t.id] 3 (0, 0))) (fun y => fdrop1_ok b1 t.id y) (by omega) (fun _ h => Rd_here h) (fun _ _ h => Rd_next (Rd_here h))) rfl (picked_cons 0 rfl (picked_nil _)) RdI.rd ?_
  intro _ _
  refine zz [194] ?_
  rw [kidsN_del]
  refine zz [13,78,21,110,2,0] ?_
  refine TC.draw _ [] [(0, false), (1, false), (2, false), (3, false), (4, false), (5, true)] (by kernel_rfl) (by kernel_rfl) (ent_take 4 rfl (ent_take 9 rfl (ent_nil _))) ?_
  refine zz [28,31,25,18,18,61] ?_
  refine deF 3 213 rfl (KL.int rfl) rfl rfl rfl ?_
  refine zz [8,27,0] ?_
  refine TC.draw _ [] [(0, false), (1, false), (2, false), (3, false), (4, false), (5, false), (6, false), (7, false), (8, true)] (by kernel_rfl) (by kernel_rfl) (ent_take 5 rfl (ent_take 6 rfl (ent_nil _))) ?_
  refine zz [28,31,60,18,28,31,25,141,61] ?_
  refine deF (a := (_, _)) 216 3 rfl (KL.pair (by kernel_rfl)) rfl rfl rfl ?_
  refine zz [8,27,0,1,6,13,14,263,21,193,2,11] ?_
  exact Ret.i ⟨ad t.id, cap t.id⟩ [_] ⟨(rcN (n := 2) rfl rfl rfl rfl), trivial⟩ rfl trivial (ent_close ⟨ad, cap, mb, ob⟩ (hW.off t.id) (ent_take 7 rfl (ent_takeE 2 rfl (by rw [fN_off, hf, hol2]; rfl) (ent_takeE 1 rfl (by rw [fO_off hW.nd hW.no ht, hfo, hol2]; rfl) (ent_closeB 1 3 u rfl rfl rfl hcN hP2 (ent_closeB 1 1 u rfl rfl rfl hcK hP2 (ent_take 2 rfl (ent_take 1 rfl (ent_take 2 rfl (ent_nil _))))))))))
 ·have hf2 := fN_no (A := A) hp
  rw [hf2]
  have hcN : ∀ x ∈ M, nP A ad cap L x = nP A ad cap (offN L t.id) x := fun x hx => by
   dsimp only [nP]
   rw [kidsN_off_ne hW.nd ht (fun e => hp ⟨x, hM.mem_iff.2 (by simp [hx]), e.symm⟩)]
  have hcK : ∀ x ∈ M, kP ad cap L x = kP ad cap (offN L t.id) x := fun x hx => by
   dsimp only [kP]
   rw [kidsN_off_ne hW.nd ht (fun e => hp ⟨x, hM.mem_iff.2 (by simp [hx]), e.symm⟩)]
  have hP2 := (offN_perm hW.nd hM).symm
  refine zz [24,2,0,1,6,106,2,10,7,0] ?_
  refine TC.draw _ [] [(0, false), (1, false), (2, false), (3, false), (4, false), (5, true)] (by kernel_rfl) (by kernel_rfl) (ent_take 0 rfl (ent_take 7 rfl (ent_nil _))) ?_
  refine zz [28,31,25,18,18,61] ?_
  refine deF 3 213 rfl (KL.int rfl) rfl rfl rfl ?_
  refine zz [8,27,0] ?_
  refine TC.draw _ [] [(0, false), (1, false), (2, false), (3, false), (4, false), (5, false), (6, false), (7, false), (8, true)] (by kernel_rfl) (by kernel_rfl) (ent_take 1 rfl (ent_take 3 rfl (ent_nil _))) ?_
  refine zz [28,31,60,18,28,31,25,141,61] ?_
  refine deF (a := (_, _)) 216 3 rfl (KL.pair (by kernel_rfl)) rfl rfl rfl ?_
  refine zz [8,27,0,1,6,13,14,263,21,193,2,11] ?_
  exact Ret.i ⟨ad t.id, cap t.id⟩ [_] ⟨(rcN (n := 2) rfl rfl rfl rfl), trivial⟩ rfl trivial (ent_close ⟨ad, cap, mb, ob⟩ (hW.off t.id) (ent_take 3 rfl (ent_takeE 2 rfl (by rw [fN_off, hf, hol2]; rfl) (ent_takeE 1 rfl (by rw [fO_off hW.nd hW.no ht, hfo, hol2]; rfl) (ent_takeB 4 rfl hcN hP2 (ent_takeB 2 rfl hcK hP2 (ent_take 2 rfl (ent_take 1 rfl (ent_take 2 rfl (ent_nil _))))))))))
set_option maxHeartbeats 1000000 in
theorem flift_ok (b : Nat) (L : List Fn) (last : Int) (id : Int) (hl : L.length ≤ 1000000) : FSpec Tryz.prog 277 [.pointer (some ⟨b, 0, none⟩), .int .i64 id] noRd [isF b L last] (fun _ : Unit => .int .i64 (liftE L id)) (fun _ => True) (fun _ => [isF b (liftN L id) last]) := by
 refine fI Tryz.func277 Tryz.ntmps277 ?_
 intro F _
 refine zz [39] ?_
 refine TC.open 0 rfl (fun A _ => ?_)
 refine zz [39] ?_
 refine TC.open 0 rfl (fun x0 hx0 => ?_)
 obtain ⟨ad, cap, mb, ob⟩ := x0
 have hW := hx0
 refine zz [82] ?_
 dsimp only at hW ⊢
 by_cases hy : hasN L id
 ·have hf := fN_yes (A := A) hy
  have hv1 : liftE L id = 0 := if_pos hy
  rw [hv1]
  obtain ⟨t, ht, rfl⟩ := hy
  refine zz [0,1,4,2,0,1,6,3,5] ?_
  refine cl (fat_ok b mb ob L.length last (fN A L) t.id) rfl (picked_cons 0 rfl (picked_cons 0 rfl (picked_nil _))) trivial ?_
  intro _ _
  refine zz [69] ?_
  rw [hf]
  refine zz [24,2,0,17,0,1,6,34,9,2,10,0,1,6,34,9,2,10,42,0] ?_
  refine TC.weak (B := sepL [isFa b A L last, F]) (ent_close ⟨ad, cap, mb, ob⟩ hW (ent_take 0 rfl (ent_take 0 rfl (ent_take 0 rfl (ent_take 0 rfl (ent_take 0 rfl (ent_take 0 rfl (ent_nil _)))))))) ?_
  refine zz [1,6,3,5] ?_
  refine cl (fdrop_ok b A L last t ht (by omega)) rfl (picked_cons 0 rfl (picked_nil _)) trivial ?_
  intro y _
  refine zz [46,2,0,0,1,6,13,78,12,91,3,2,17] ?_
  clear hf
  have hW0 := hW
  clear hW
  have htr := hW0.rg t ht
  have hol := offN_len hW0.nd ht
  have hkl := kidsN_len L t.id
  have hki := ints_length (kidsN L t.id)
  refine TC.loop (ι := Nat × List Fn) (fun s => LI L last t s.1 s.2 ∧ s.1 ≤ (kidsN L t.id).length) (fun s => [(0, .pointer (some ⟨b, 0, none⟩)), (5, .pointer (some ⟨(A t.id), 0, none⟩)), (24, .slice y.1 (kidsN L t.id).length y.2), (25, .int .i64 (kidsN L t.id).length), (26, .int .i64 ((s.1 : Nat) : Int))]) (fun s => sepL [isFa b A s.2 last, pts (A t.id) 218 [.int .i64 t.sp, .int .i64 t.sl, .int .i64 t.par, .slice y.1 (kidsN L t.id).length y.2], slc 3 1 y.1 (kidsN L t.id).length y.2 (ints (kidsN L t.id)), F]) (fun s => (kidsN L t.id).length - s.1) ⟨0, offN L t.id⟩ ⟨LI.start hW0 ht, Nat.zero_le _⟩ ⟨rfl, rfl, rfl, rfl, rfl, trivial⟩ (ent_take 0 rfl (ent_take 0 rfl (ent_take 0 rfl (ent_take 0 rfl (ent_nil _))))) ?_
  rintro ⟨i, Z⟩ ⟨hI, hi⟩ ρ0
  dsimp only [updL] at hI hi ⊢
  refine zz [0,1,38,2,0] ?_
  first | refine TC.condD rfl (fun hlt => ?_) (fun hlt => ?_) | refine TC.cond rfl (fun hlt => ?_) (fun hlt => ?_)
  ·obtain ⟨k, hk⟩ : ∃ k, (kidsN L t.id)[i]? = some k := ⟨_, List.getElem?_eq_getElem (show i < (kidsN L t.id).length by omega)⟩
   have hpos : 0 < (ints (kidsN L t.id)).length := by omega
   obtain ⟨u, hu, huk, hup⟩ := hI.todo i k (Nat.le_refl _) hk
   subst huk
   have hur := hI.wi.rg u hu
   have hpp : 0 ≤ t.par ∧ t.par < u.id := by omega
   have hIn := hI.next hW0 ht hu hk hpp
   obtain ⟨M, hM⟩ := perm_mem hu
   have hMn := hI.wi.nd.perm hM.symm
   have hf := fN_yes (A := A) ⟨u, hu, rfl⟩
   have hml := move_len hI.wi.nd hu t.par
   have hzl := hI.len
   have hni : ∀ x ∈ Z, u.par ≠ x.id := fun x hx e => hI.no ⟨x, hx, by rw [← e, hup]⟩
   have hPm := move_perm hI.wi.nd hM t.par
   have hku : kidsN (moveN Z u t.par) u.id = kidsN Z u.id := kids_move_ne hI.wi.nd hu (by omega) (by omega)
   refine zz [7,0,17,0,1,81] ?_
   first | refine q rfl rfl (ld rfl rfl rfl) ?_ | refine q rfl rfl (ldS rfl rfl (ints_get hk)) ?_ | refine q rfl rfl (ldS rfl rfl rfl) ?_
   refine zz [4,2,0] ?_
   refine TC.open 0 rfl (fun x0 hx0 => ?_)
   obtain ⟨ad, cap, mb, ob⟩ := x0
   have hW := hx0
   refine zz [119] ?_
   dsimp only at hW ⊢
   refine TC.weak (ent_openB 3 rfl hM) ?_
   refine TC.weak (ent_openB 5 rfl hM) ?_
   refine TC.draw _ [12] [(0, false), (1, false), (2, false), (3, false), (4, false), (5, false), (6, false), (7, false), (8, false), (9, false), (10, false), (11, false), (12, true)] (by kernel_rfl) (by kernel_rfl) (ent.refl _) ?_
   refine zz [28,31,25,18,33] ?_
   refine dq rfl rfl rfl (luF 3 213 rfl rfl (KL.int rfl) rfl rfl) ?_
   rw [hf]
   refine zz [28,31,58,18,31,58,70,105,27,0,1,6,6,13,62,12,5] ?_
   refine cl (fat_ok b mb ob Z.length last (fN A Z) t.par) rfl (picked_cons 4 rfl (picked_cons 4 rfl (picked_nil _))) trivial ?_
   intro _ _
   refine zz [86] ?_
   by_cases hp : hasN Z t.par
   ·obtain ⟨w, hw, hwp⟩ := hp
    have hf2 : fN A Z t.par = some (.pointer (some ⟨A w.id, 0, none⟩)) := by rw [← hwp]; exact fN_yes ⟨w, hw, rfl⟩
    rw [hf2]
    have hwr := hI.wi.rg w hw
    have hwM : w ∈ M := by
     rcases List.mem_cons.1 (hM.mem_iff.1 hw) with e | e
     ·subst e; omega
     ·exact e
    obtain ⟨M2, hM2⟩ := perm_mem hwM
    have hM2n := (List.nodup_cons.1 ((hM2.map (·.id)).nodup_iff.1 (List.nodup_cons.1 hMn).2)).1
    have hkw := kidsN_len Z w.id
    have hkx : ∀ x ∈ M2, x.id ≠ w.id ∧ kidsN (moveN Z u t.par) x.id = kidsN Z x.id := fun x hx => by
     have hxM : x ∈ M := hM2.mem_iff.2 (by simp [hx])
     have hxZ : x ∈ Z := hM.mem_iff.2 (by simp [hxM])
     have hne : x.id ≠ w.id := fun e => hM2n (List.mem_map.2 ⟨x, hx, e⟩)
     exact ⟨hne, kids_move_ne hI.wi.nd hu (fun e => hne (by rw [hwp, e])) (hni x hxZ)⟩
    have hkp : kidsN (moveN Z u t.par) w.id = kidsN Z w.id ++ [u.id] := by rw [hwp]; exact kids_move_p hI.wi.nd hu (by omega) (by omega)
    have hP3 : (⟨u.id, t.par, u.sp, u.sl⟩ :: w :: M2 : List Fn).Perm (moveN Z u t.par) := (hM2.symm.cons _).trans hPm
    have huw : u.id ≠ w.id := by omega
    have hil := ints_length (kidsN Z w.id)
    refine zz [24,2,0,1,6,106,2,40] ?_
    refine TC.weak (ent_openB 5 rfl hM2) ?_
    refine TC.weak (ent_openB 6 rfl hM2) ?_
    refine zz [1,6,6,13,78,12,3,5,72] ?_
    intro b3
    refine e rfl ?_
    refine ap 8 rfl rfl rfl rfl rfl (Nat.le_of_ble_eq_true rfl) (show _ = ints [u.id] from rfl) rfl (by omega) (by simp only [maxLen]; omega) ?_
    intro ad1 cap1
    refine zz [13,78,21,110,63,1,36,3,2] ?_
    have hcN : ∀ x ∈ M2, nP A ad cap Z x = nP A (updI ad w.id ad1) (updI cap w.id cap1) (moveN Z u t.par) x := fun x hx => by
     obtain ⟨h1, h2⟩ := hkx x hx
     dsimp only [nP]; rw [updI_ne h1, updI_ne h1, h2]
    have hcK : ∀ x ∈ M2, kP ad cap Z x = kP (updI ad w.id ad1) (updI cap w.id cap1) (moveN Z u t.par) x := fun x hx => by
     obtain ⟨h1, h2⟩ := hkx x hx
     dsimp only [kP]; rw [updI_ne h1, updI_ne h1, h2]
    exact ⟨rfl, ⟨i + 1, moveN Z u t.par⟩, ⟨hIn, by dsimp only; omega⟩, (by dsimp only; omega), ⟨rfl, rfl, rfl, rfl, rfl, trivial⟩, (ent_close ⟨updI ad w.id ad1, updI cap w.id cap1, mb, ob⟩ hIn.wi (ent_take 5 rfl (ent_takeE 5 rfl (by rw [fN_congr (move_has hu t.par), hml]) (ent_takeE 7 rfl (by rw [fO_move hI.wi hu hpp, hml]) (ent_closeB2 5 0 3 (⟨u.id, t.par, u.sp, u.sl⟩ : Fn) w rfl rfl rfl (by dsimp only [nP]; rw [updI_ne huw, updI_ne huw, hku]; rfl) (by dsimp only [nP]; rw [updI_same, updI_same, hkp, List.length_append]; rfl) hcN hP3 (ent_closeB2 3 0 1 (⟨u.id, t.par, u.sp, u.sl⟩ : Fn) w rfl rfl rfl (by dsimp only [kP]; rw [updI_ne huw, updI_ne huw, hku]) (by dsimp only [kP]; rw [updI_same, updI_same, hkp, List.length_append, List.length_singleton, ints_app1]) hcK hP3 (ent_take 1 rfl (ent_take 1 rfl (ent_take 1 rfl (ent_nil _))))))))))⟩
   ·have hf2 := fN_no (A := A) hp
    rw [hf2]
    have hkx : ∀ x ∈ M, kidsN (moveN Z u t.par) x.id = kidsN Z x.id := fun x hx => by
     have hxZ : x ∈ Z := hM.mem_iff.2 (by simp [hx])
     exact kids_move_ne hI.wi.nd hu (fun e => hp ⟨x, hxZ, e.symm⟩) (hni x hxZ)
    have hcN : ∀ x ∈ M, nP A ad cap Z x = nP A ad cap (moveN Z u t.par) x := fun x hx => by dsimp only [nP]; rw [hkx x hx]
    have hcK : ∀ x ∈ M, kP ad cap Z x = kP ad cap (moveN Z u t.par) x := fun x hx => by dsimp only [kP]; rw [hkx x hx]
    refine zz [24,2,0,1,6,106,2,10,42,1,36,3,2] ?_
    exact ⟨rfl, ⟨i + 1, moveN Z u t.par⟩, ⟨hIn, by dsimp only; omega⟩, (by dsimp only; omega), ⟨rfl, rfl, rfl, rfl, rfl, trivial⟩, (ent_close ⟨ad, cap, mb, ob⟩ hIn.wi (ent_take 0 rfl (ent_takeE 0 rfl (by rw [fN_congr (move_has hu t.par), hml]) (ent_takeE 4 rfl (by rw [fO_move hI.wi hu hpp, hml]) (ent_closeB 0 2 (⟨u.id, t.par, u.sp, u.sl⟩ : Fn) rfl rfl (by dsimp only [nP]; rw [hku]; rfl) hcN hPm (ent_closeB 0 0 (⟨u.id, t.par, u.sp, u.sl⟩ : Fn) rfl rfl (by dsimp only [kP]; rw [hku]) hcK hPm (ent_take 0 rfl (ent_take 0 rfl (ent_take 0 rfl (ent_nil _))))))))))⟩
  ·obtain rfl : i = (kidsN L t.id).length := by omega
   rw [hI.done hW0 ht]
   refine zz [50,0,1,4,2,11] ?_
   exact Ret.i () [_] ⟨rfl, trivial⟩ rfl trivial (ent_close A trivial (ent_take 0 rfl (ent_take 2 rfl (ent_nil _))))
 ·have hf := fN_no (A := A) hy
  have hv1 : liftE L id = 6 := if_neg hy
  have hv2 : liftN L id = L := by rw [liftN, findN_no hy]
  rw [hv1, hv2]
  refine zz [0,1,4,2,0,1,6,3,5] ?_
  refine cl (fat_ok b mb ob L.length last (fN A L) id) rfl (picked_cons 0 rfl (picked_cons 0 rfl (picked_nil _))) trivial ?_
  intro _ _
  refine zz [69] ?_
  rw [hf]
  refine zz [24,2,0,17,0,1,6,34,9,2,10,0,1,6,34,9,2,40,0,1,4,2,56] ?_
  exact Ret.i () [_] ⟨rfl, trivial⟩ rfl trivial (ent_close A trivial (ent_close ⟨ad, cap, mb, ob⟩ hW (ent_take 0 rfl (ent_take 0 rfl (ent_take 0 rfl (ent_take 0 rfl (ent_take 0 rfl (ent_take 0 rfl (ent_nil _)))))))))
end Go.Proofs.YtnlgmaibhlicjaaGreatDoor.Fo
namespace Go.Proofs.YtnlgmaibhlicjaaGreatDoor
open Go Go.QM
structure MkR (top t : Nat) (S : PS) (s v : Nat) (S' : PS) : Prop where
  P : PInv top S'
  T : TI top S' t
  G : Grow S S'
  A : enA S'.m t s = v
  O : ∀ x, x < 256 → x ≠ s → enA S'.m t x = enA S.m t x ∧ enB S'.m t x = enB S.m t x
  U : ∀ d, usd S'.C d ≤ usd S.C d + 1
  N : Plc 48 (S'.C 6) (enB S'.m t s)
theorem LayR.nd {top t : Nat} {lim u : Int} {r : List Qt.Qn} {S S' : PS} {s a : Nat} (h : LayR top t lim u r S s a S') : Plc 48 (S'.C 6) (enB S'.m t s) := by
 obtain ⟨k, pn, i, f, hk, hf, hB, _, _⟩ := h.N
 rw [hB]; exact ⟨_, List.mem_of_getElem? hk, i, hf, rfl⟩
theorem mk_fin {top t : Nat} {lim u : Int} {r : List Qt.Qn} {S S2 S3 S4 : PS} {s a v : Nat} (hs : s < 256) (hL : LayR top t lim u r S s a S2) (hv : v < 2 ^ 64) (hv0 : v ≠ 0)
 (h3 : PInv top S3 ∧ TI top S3 t ∧ Grow S2 S3 ∧ (∀ j, j < 16 → rtW S3.m t j = rtW S2.m t j) ∧ ∀ x, x < 256 → enA S3.m t x = enA S2.m t x ∧ enB S3.m t x = enB S2.m t x)
 (hu : ∀ d, usd S3.C d ≤ usd S2.C d + if d = 6 ∨ d = 7 then 0 else 1)
 (e4 : S4 = ⟨S3.Q, S3.nx, S3.C, S3.Fr, stWs S3.m (rtW S3.m t (s / 16) + s % 16 * 16) [v, enB S3.m t s]⟩) : MkR top t S s v S4 ∧ Grow S3 S4 := by
 obtain ⟨P3, T3, G3, R3, E3⟩ := h3
 have C4 : S4.C = S3.C := by rw [e4]
 have m4 : S4.m = stWs S3.m (rtW S3.m t (s / 16) + s % 16 * 16) [v, enB S3.m t s] := by rw [e4]
 have hl : rtW S3.m t (s / 16) ≠ 0 := by rw [R3 _ (by omega)]; exact hL.L
 have htp : 2 ^ top ≤ 128 := Nat.pow_le_pow_right (n := 2) (by decide) P3.tp.2
 have hnd : Plc 48 (S3.C 6) (enB S3.m t s) := by rw [(E3 s hs).2]; exact G3.plc 6 _ c6 hL.nd
 have hb := Plc.bd P3 c6 hnd
 obtain ⟨T4, R4, A4, B4, O4⟩ := T3.setOld P3 hs hl hv (b := enB S3.m t s) (by omega) (.inl hv0) C4 m4
 have G4 := old_stp P3 T3 hs hl C4 m4
 refine ⟨⟨P3.re C4 (by rw [e4]), T4, (hL.G.trans G3).trans G4, A4, fun x hx hne => ?_, fun d => ?_, by rw [B4, C4]; exact hnd⟩, G4⟩
 ·rw [(O4 x hx hne).1, (O4 x hx hne).2, (E3 x hx).1, (E3 x hx).2, (hL.O x hx hne).1, (hL.O x hx hne).2]; exact ⟨rfl, rfl⟩
 ·rw [C4]
  have h1 := hu d
  have h2 := hL.U d
  by_cases e6 : d = 6
  ·rw [if_pos (.inl e6)] at h1; rw [if_pos e6] at h2; omega
  ·rw [if_neg e6] at h2
   by_cases e7 : d = 7
   ·rw [if_pos (.inr e7)] at h1
    split at h2 <;> omega
   ·rw [if_neg (fun h => h.elim e6 e7)] at h1
    rw [if_neg (fun h => e7 h.1)] at h2; omega
theorem hu_got {top : Nat} {S : PS} {c : Nat} {y : Nat × Nat × List Pg} (hc : c ∈ cls) (h6 : c ≤ 5) (g : GotP top S c y) (d : Nat) : usd (updN S.C c y.2.2) d ≤ usd S.C d + if d = 6 ∨ d = 7 then 0 else 1 := by
 rw [usd_got hc g d]
 by_cases e : d = c
 ·rw [if_pos e, if_neg (by omega)]; exact Nat.le_refl _
 ·rw [if_neg e]; split <;> omega
def ChQ (lim u : Int) (r : List Qt.Qn) (w : Nat) (sz dz : Int) (r1 : List Qt.Qn) (er : Int) : Prop := ∀ v, u ≤ v → v ≤ u + 304 → Qt.chargeQ (⟨0, -1, lim, v⟩ :: r) (w : Int) sz = (⟨0, -1, lim, v + dz⟩ :: r1, er)
theorem LayR.dq {top t : Nat} {lim u : Int} {r : List Qt.Qn} {S S' : PS} {s a : Nat} (h : LayR top t lim u r S s a S') : ∃ v, u ≤ v ∧ v ≤ u + 304 ∧ S'.Q = ⟨0, -1, lim, v⟩ :: r := by
 rw [h.Q]; split
 ·exact ⟨u + 48 + 256, by omega, by omega, rfl⟩
 ·exact ⟨u + 48 + 0, by omega, by omega, rfl⟩
theorem LayR.un {top t : Nat} {lim u : Int} {r : List Qt.Qn} {S S' : PS} {s a n : Nat} (h : LayR top t lim u r S s a S') (hU : ∀ c ∈ cls, usd S.C c ≤ n) : ∀ c ∈ cls, usd S'.C c ≤ n + 1 := fun c hc => by
 have h1 := hU c hc
 have h2 := h.U c
 split at h2
 ·omega
 ·split at h2 <;> omega
theorem splook_ok (sb fb cb pb hb qb top t : Nat) (S : PS) (l : List Hd.Pl) (ho : Hd.OkT l) (hg1 : Hd.getR l 1 = (ob 2 t 0, 0)) (hP : PInv top S) (hT : TI top S t) (s : Nat) (hs : s < 256) (h r : Nat) (hh : h < 4294967295) (hr : r ≤ 15) (hA : enA S.m t s = packN h r) : FSpec Tryz.prog 148 [.pointer (some ⟨sb, 0, none⟩), .int .u32 1, .int .i64 (s : Int)] GV [pts sb 117 [.pointer (some ⟨cb, 0, none⟩), .pointer (some ⟨fb, 0, none⟩)], pts cb 87 [.pointer (some ⟨pb, 0, none⟩), .pointer (some ⟨hb, 0, none⟩), .pointer (some ⟨qb, 0, none⟩)], isPl pb top S, slc 174 5 (some ⟨hb, 0, none⟩) 256 256 (Hd.tabC l)] (fun _ : Unit => .tuple #[.agg #[.int .u32 (h : Int), .int .i64 (r : Int)], .int .i64 0]) (fun _ => True) (fun _ => [pts sb 117 [.pointer (some ⟨cb, 0, none⟩), .pointer (some ⟨fb, 0, none⟩)], pts cb 87 [.pointer (some ⟨pb, 0, none⟩), .pointer (some ⟨hb, 0, none⟩), .pointer (some ⟨qb, 0, none⟩)], isPl pb top S, slc 174 5 (some ⟨hb, 0, none⟩) 256 256 (Hd.tabC l)]) := by
 refine fI Tryz.func148 Tryz.ntmps148 ?_
 intro F hF
 refine zz [95] ?_
 haveI : GVI F := ⟨hF⟩
 refine zz [0,1,5] ?_
 refine al (l := [.int _ _, .int _ _]) rfl rfl ?_
 intro b4
 refine zz [4,2,0,1,6,3,5] ?_
 refine cl (spside_ok sb fb cb pb hb qb top t S l ho hg1 hP hT) rfl PkL.p GVI.gv ?_
 intro tb _
 refine zz [49,26,75,15,5] ?_
 refine al (l := [.pointer _, .int _ _, .int _ _]) rfl rfl ?_
 intro b5
 refine zz [21,48,4,2,0,17,0,1,3,23,9,2,10,0,1,3,5] ?_
 refine cl (sphas_ok s hs) rfl (picked_nil _) trivial ?_
 intro _ _
 refine zz [53,64,9,2,10,42,0,1,76,3,5] ?_
 refine cl (spcap_ok tb pb top t S hP hT s hs h r hh hr hA) rfl PkL.p trivial ?_
 intro _ _
 refine zz [53,26,101,80,5] ?_
 refine al (l := [.int _ _, .int _ _]) rfl rfl ?_
 intro b6
 refine zz [21,67,9,2,0,0,1,20,64,2,10,7,0,1,113,21,67,4,2,11] ?_
 exact zc4
theorem sproot_ok (sb fb cb pb hb qb top t : Nat) (S : PS) (l : List Hd.Pl) (ho : Hd.OkT l) (hg1 : Hd.getR l 1 = (ob 2 t 0, 0)) (hP : PInv top S) (hT : TI top S t) (s : Nat) (hs : s < 256) (lim u : Int) (r0 : List Qt.Qn) (hA : enA S.m t s = 0) (hQ : S.Q = ⟨0, -1, lim, u⟩ :: r0) (hq : QR lim u r0) (n : Nat) (hU : ∀ c ∈ cls, usd S.C c ≤ n) (hR : RmB top S.Fr (n + 1)) (L : List Fo.Fn) (last : Int) (hla : last ≤ 1000000) (hs8 : s < 128) (h : Nat) (hh : h < 4294967295) (k a f : Int) (hk : k ≠ 8) (an : Nat) (hg : Hd.getR l (h : Int) = (ob k an f, 0)) : FSpec Tryz.prog 20 [.pointer (some ⟨sb, 0, none⟩), .int .u32 1, .int .i64 (s : Int), .agg #[.int .u32 (h : Int), .int .i64 15]] GV [pts sb 117 [.pointer (some ⟨cb, 0, none⟩), .pointer (some ⟨fb, 0, none⟩)], pts cb 87 [.pointer (some ⟨pb, 0, none⟩), .pointer (some ⟨hb, 0, none⟩), .pointer (some ⟨qb, 0, none⟩)], isPl pb top S, slc 174 5 (some ⟨hb, 0, none⟩) 256 256 (Hd.tabC l), Fo.isF fb L last] (fun _ : PS => .int .i64 0) (fun y => LayR top t lim u r0 S s (packN h 15) y) (fun y => [pts sb 117 [.pointer (some ⟨cb, 0, none⟩), .pointer (some ⟨fb, 0, none⟩)], pts cb 87 [.pointer (some ⟨pb, 0, none⟩), .pointer (some ⟨hb, 0, none⟩), .pointer (some ⟨qb, 0, none⟩)], isPl pb top y, slc 174 5 (some ⟨hb, 0, none⟩) 256 256 (Hd.tabC l), Fo.isF fb (Fo.addN L last 0 (1, (s : Int))).1 (Fo.addN L last 0 (1, (s : Int))).2.1]) := by
 refine fI Tryz.func20 Tryz.ntmps20 ?_
 intro F hF
 refine zz [82] ?_
 haveI : GVI F := ⟨hF⟩
 refine zz [0,1,5] ?_
 refine bx (v := .agg #[_, _]) (l := [.int _ _, .int _ _]) rfl rfl ?_
 intro b7
 refine zz [4,2,0,1,6,3,5] ?_
 refine cl (spside_ok sb fb cb pb hb qb top t S l ho hg1 hP hT) rfl PkL.p GVI.gv ?_
 intro tb _
 refine zz [53,26,75,15,5] ?_
 refine al (l := [.pointer _, .int _ _, .int _ _]) rfl rfl ?_
 intro b8
 refine zz [21,48,4,2,0,0,1,3,23,2,10,7,0] ?_
 refine TC.drawF _ [] 13 rfl (by kernel_rfl) (by kernel_rfl) (ent_take 1 rfl (ent_take 5 rfl (ent_nil _))) ?_
 refine zz [177,190,191,264] ?_
 first | refine fq (i := 4) rfl rfl rfl (by kernel_rfl) (fa 0 rfl rfl) ?_ | refine fq (i := 4) rfl rfl rfl (by kernel_rfl) (faS 0 rfl rfl asm0) ?_
 refine zz [219] ?_
 refine ff (i := 6) (j := 10) rfl rfl rfl rfl (by kernel_rfl) ?_ ?_
 ·refine cl (coof_ok cb pb hb qb l ho (h : Int) (by omega) (ob k an f) hg 0 (.inl rfl)) rfl PkL.p trivial ?_
  intro _ _
  refine zz [258,8,265,83,133,55,16] ?_
  refine al (l := [.int _ _, .int _ _, .int _ _]) rfl rfl ?_
  intro b9
  refine zz [8,61,48,8,41,27,0,1,76,3,5] ?_
  refine cl (spcap_no tb pb top t S hP hT s hs hA) rfl PkL.p trivial ?_
  intro _ _
  refine zz [86,26,101,80,5] ?_
  refine al (l := [.int _ _, .int _ _]) rfl rfl ?_
  intro b10
  refine zz [21,67,9,2,0,17,0,1,3,5] ?_
  refine cl (sphas_ok s hs) rfl (picked_nil _) trivial ?_
  intro _ _
  refine zz [93,64,9,2,10,0,1,3,23,9,2,10,0,266,60,18,16] ?_
  refine cl (spright_ok 15 (by decide)) rfl (picked_nil _) trivial ?_
  intro _ _
  refine zz [195,8,173,122,123,130,220] ?_
  refine dg rfl rfl rfl rfl (eqI rfl rfl) ?_
  refine zz [146] ?_
  refine cl (spcaps_ok s true (decide_eq_true hs8)) rfl (picked_nil _) trivial ?_
  intro _ _
  refine zz [195,8] ?_
  refine dg rfl rfl rfl rfl (eqBo rfl rfl rfl) ?_
  refine zz [109,124,27] ?_
  refine TC.condD rfl (fun hc1 => absurd hc1 ((fun e => hk (of_decide_eq_true e.symm)))) (fun hc1 => ?_)
  refine zz [0,1,20,9,2,10,42,0,0,1,6,76,3,113,5] ?_
  refine cl (splay_ok sb fb cb pb hb qb tb top t lim u r0 S hP hT s hs hA hQ hq n hU hR h 15 hh (by decide)) rfl PkL.p GVI.gv ?_
  intro y hL
  refine zz [93,4,2,0,1,3,23,2,10,7,0,1,6,13,47,12,3,149,3,5] ?_
  refine cl (Fo.fadd_ok fb L last 0 1 (s : Int) hla) rfl PkL.p trivial ?_
  intro _ _
  refine zz [93,2,0,1,4,2,11] ?_
  exact Ret.i y [_] ⟨rfl, trivial⟩ rfl hL entS
 ·refine al (l := [.int _ _, .int _ _, .int _ _]) rfl rfl ?_
  intro b11
  refine zz [8,267,16] ?_
  refine cl (coof_ok cb pb hb qb l ho (h : Int) (by omega) (ob k an f) hg 0 (.inl rfl)) rfl PkL.p trivial ?_
  intro _ _
  refine zz [127,8,83,133,55,61,48,8,41,27,0,1,76,3,5] ?_
  refine cl (spcap_no tb pb top t S hP hT s hs hA) rfl PkL.p trivial ?_
  intro _ _
  refine zz [86,26,101,80,5] ?_
  refine al (l := [.int _ _, .int _ _]) rfl rfl ?_
  intro b12
  refine zz [21,67,9,2,0,17,0,1,3,5] ?_
  refine cl (sphas_ok s hs) rfl (picked_nil _) trivial ?_
  intro _ _
  refine zz [93,64,9,2,10,0,1,3,23,9,2,10,0,266,60,18,16] ?_
  refine cl (spright_ok 15 (by decide)) rfl (picked_nil _) trivial ?_
  intro _ _
  refine zz [195,8,173,122,123,130,220] ?_
  refine dg rfl rfl rfl rfl (eqI rfl rfl) ?_
  refine zz [146] ?_
  refine cl (spcaps_ok s true (decide_eq_true hs8)) rfl (picked_nil _) trivial ?_
  intro _ _
  refine zz [195,8] ?_
  refine dg rfl rfl rfl rfl (eqBo rfl rfl rfl) ?_
  refine zz [109,124,27] ?_
  refine TC.condD rfl (fun hc2 => absurd hc2 ((fun e => hk (of_decide_eq_true e.symm)))) (fun hc2 => ?_)
  refine zz [0,1,20,9,2,10,42,0,0,1,6,76,3,113,5] ?_
  refine cl (splay_ok sb fb cb pb hb qb tb top t lim u r0 S hP hT s hs hA hQ hq n hU hR h 15 hh (by decide)) rfl PkL.p GVI.gv ?_
  intro y hL
  refine zz [93,4,2,0,1,3,23,2,10,7,0,1,6,13,47,12,3,149,3,5] ?_
  refine cl (Fo.fadd_ok fb L last 0 1 (s : Int) hla) rfl PkL.p trivial ?_
  intro _ _
  refine zz [93,2,0,1,4,2,11] ?_
  exact Ret.i y [_] ⟨rfl, trivial⟩ rfl hL entS
theorem spmk_obj (sb fb cb pb hb qb top t : Nat) (S : PS) (l : List Hd.Pl) (ho : Hd.OkT l) (hg1 : Hd.getR l 1 = (ob 2 t 0, 0)) (hP : PInv top S) (hT : TI top S t) (s : Nat) (hs : s < 256) (lim u : Int) (r0 : List Qt.Qn) (hA : enA S.m t s = 0) (hQ : S.Q = ⟨0, -1, lim, u⟩ :: r0) (hq : QR lim u r0) (n : Nat) (hU : ∀ c ∈ cls, usd S.C c ≤ n) (hR : RmB top S.Fr (n + 1)) (L : List Fo.Fn) (last : Int) (hla : last ≤ 1000000) (hs8 : s < 128) (th : Int) (hth : 0 ≤ th ∧ th ≤ 4294967295) (f9 : Nat) (g9 : Int) (hg : Hd.getR l th = (ob 1 f9 g9, 0)) (hf9 : Plc 64 (S.C 1) f9) (w : Nat) (hw : ldW S.m f9 = w) (hw9 : w ≤ 40) (c : Nat) (hc2 : 2 ≤ c ∧ c ≤ 5) (lm : Int) (dz : Int) (r1 : List Qt.Qn) (hch : ChQ lim u r0 w (clsz c : Int) dz r1 0) (hr : (Hd.allL l 0).length ≠ 0) (h : Nat) (hh : h < 4294967295) (hput : ∀ o, (Hd.putR l o).2 = ((h : Int), 0)) : FSpec Tryz.prog 56 [.pointer (some ⟨sb, 0, none⟩), .int .u32 1, .int .i64 (s : Int), .int .u32 th, .int .i64 (c : Int), .int .i64 lm] GV [pts sb 117 [.pointer (some ⟨cb, 0, none⟩), .pointer (some ⟨fb, 0, none⟩)], pts cb 87 [.pointer (some ⟨pb, 0, none⟩), .pointer (some ⟨hb, 0, none⟩), .pointer (some ⟨qb, 0, none⟩)], isPl pb top S, slc 174 5 (some ⟨hb, 0, none⟩) 256 256 (Hd.tabC l), Fo.isF fb L last] (fun _ : Nat × PS => .tuple #[.int .u32 (h : Int), .int .i64 0]) (fun y => MkR top t S s (packN h 15) y.2 ∧ Plc (clsz c) (y.2.C c) y.1 ∧ (c ≠ 2 → ∀ o, y.1 ≤ o → o + 8 ≤ y.1 + clsz c → ldW y.2.m o = 0) ∧ (∃ d : Int, 0 ≤ d ∧ d ≤ 304 ∧ y.2.Q = ⟨0, -1, lim, u + d + dz⟩ :: r1) ∧ y.2.nx = S.nx ∧ y.2.Fr = S.Fr) (fun y => [pts sb 117 [.pointer (some ⟨cb, 0, none⟩), .pointer (some ⟨fb, 0, none⟩)], pts cb 87 [.pointer (some ⟨pb, 0, none⟩), .pointer (some ⟨hb, 0, none⟩), .pointer (some ⟨qb, 0, none⟩)], isPl pb top y.2, slc 174 5 (some ⟨hb, 0, none⟩) 256 256 (Hd.tabC (Hd.putR l (ob (c : Int) y.1 (w : Int))).1), Fo.isF fb (Fo.addN L last 0 (1, (s : Int))).1 (Fo.addN L last 0 (1, (s : Int))).2.1]) := by
 refine fI Tryz.func56 Tryz.ntmps56 ?_
 intro F hF
 refine zz [82] ?_
 haveI : GVI F := ⟨hF⟩
 have hc : c ∈ cls := cls_mem.2 (by omega)
 refine zz [0,1,4,4,2,0,1,6,3,5] ?_
 refine cl (spside_ok sb fb cb pb hb qb top t S l ho hg1 hP hT) rfl PkL.p GVI.gv ?_
 intro tb _
 refine zz [49,26,75,15,5] ?_
 refine al (l := [.pointer _, .int _ _, .int _ _]) rfl rfl ?_
 intro b13
 refine zz [21,48,4,2,0,0,1,3,23,2,10,7,0,1,76,3,5] ?_
 refine cl (spcap_no tb pb top t S hP hT s hs hA) rfl PkL.p trivial ?_
 intro _ _
 refine zz [53,26,101,80,5] ?_
 refine al (l := [.int _ _, .int _ _]) rfl rfl ?_
 intro b14
 refine zz [21,67,9,2,0,17,0,1,3,5] ?_
 refine cl (sphas_ok s hs) rfl (picked_nil _) trivial ?_
 intro _ _
 refine zz [45,64,9,2,10,0,1,3,5] ?_
 refine cl (spmade_ok (c : Int) (by omega)) rfl (picked_nil _) trivial ?_
 intro _ _
 refine zz [45,64,20,32,59] ?_
 refine cl (spcaps_ok s true (decide_eq_true hs8)) rfl (picked_nil _) trivial ?_
 intro _ _
 refine zz [45,32,74,178,19,9,2] ?_
 refine TC.condD rfl (fun hc3 => absurd hc3 ((by intro e; have := of_decide_eq_true e.symm; omega))) (fun hc3 => ?_)
 refine zz [0,1,20,9,2,10,42,0,0,1,6,76,3,73,5] ?_
 refine cl (splay_ok sb fb cb pb hb qb tb top t lim u r0 S hP hT s hs hA hQ hq n hU hR 0 15 (by decide) (by decide)) rfl PkL.p GVI.gv ?_
 intro S2 hL
 refine zz [45,4,2,0,1,3,23,2,10] ?_
 have hb9 := Plc.bd hP (c := 1) (by decide) hf9
 have e64 : clsz 1 = 64 := rfl
 rw [e64] at hb9
 have hw2 : ldW S2.m f9 = w := by rw [hL.G.keep 1 f9 (by decide) (by decide) (by decide) hf9 f9 (Nat.le_refl _) (by omega)]; exact hw
 obtain ⟨v, hv1, hv2, hQv⟩ := hL.dq
 have hchv := hch v hv1 hv2
 have hpk := packN_lt (r := 15) hh (by decide)
 have hroom := (show RmB top S2.Fr (n + 1) by rw [hL.Fr]; exact hR).room hL.P (hL.un hU)
 refine zz [7,0,1,6,13,14,12,3,3,3,5] ?_
 refine cl (comk_obj cb pb hb qb top S2 l ho th hth f9 g9 hg (by omega) (by omega) (by rw [hw2]; omega) c hc hc2 lm hroom hr (by rw [hw2, hQv, hchv])) rfl PkL.p GVI.gv ?_
 intro z hz
 refine zz [45] ?_
 rw [hw2, hQv, hchv]
 dsimp only
 rw [show (Hd.putR l (ob (c : Int) (addr c z) (w : Int))).2.1 = (h : Int) from by rw [hput], show (Hd.putR l (ob (c : Int) (addr c z) (w : Int))).2.2 = 0 from by rw [hput]]
 obtain ⟨S3, e3⟩ : ∃ S3 : PS, S3 = ⟨⟨0, -1, lim, v + dz⟩ :: r1, S2.nx, updN S2.C c z.2.2, S2.Fr, zB S2.m (addr c z) (clsz c)⟩ := ⟨_, rfl⟩
 rw [← e3]
 have h3 := got_stp (S' := S3) hL.P hL.T hc hz (by rw [e3]) (by rw [e3]) (fun o ho => by rw [e3, ldW_zB_ne ho])
 have hu3 : ∀ d, usd S3.C d ≤ usd S2.C d + if d = 6 ∨ d = 7 then 0 else 1 := fun d => by rw [e3]; exact hu_got hc (by omega) hz d
 obtain ⟨P3, T3, G3, R3, E3⟩ := id h3
 have hl3 : rtW S3.m t (s / 16) ≠ 0 := by rw [R3 _ (by omega)]; exact hL.L
 have hb3 := Plc.bd P3 c6 (show Plc 48 (S3.C 6) (enB S3.m t s) by rw [(E3 s hs).2]; exact G3.plc 6 _ c6 hL.nd)
 have htp : 2 ^ top ≤ 128 := Nat.pow_le_pow_right (n := 2) (by decide) hP.tp.2
 obtain ⟨S4, e4⟩ : ∃ S4 : PS, S4 = ⟨S3.Q, S3.nx, S3.C, S3.Fr, stWs S3.m (rtW S3.m t (s / 16) + s % 16 * 16) [packN h 15, enB S3.m t s]⟩ := ⟨_, rfl⟩
 obtain ⟨hM, G4⟩ := mk_fin hs hL hpk.1 hpk.2 h3 hu3 e4
 refine zz [26,15,15,4,4,2,0,0,1,3,23,2,10,7,0,1,14,12,3,5] ?_
 refine cl (tget_ok tb pb top 0 t S3 P3 T3 s hs) rfl PkL.p trivial ?_
 intro _ _
 refine zz [45,26,15,15,4,4,2,0,221,25,18,33,33,176,33,16] ?_
 refine cl (sppack_ok h 15 hh (by decide)) rfl (picked_nil _) trivial ?_
 intro _ _
 refine zz [118,8,16] ?_
 refine cl (tset_old tb pb top 0 t S3 P3 T3 s hs (packN h 15) (enB S3.m t s) hpk.1 (by omega) hpk.2 hl3) rfl PkL.p trivial ?_
 intro _ _
 refine zz [118,8] ?_
 rw [← e4]
 refine zz [27,0,1,6,13,47,12,3,149,3,5] ?_
 refine cl (Fo.fadd_ok fb L last 0 1 (s : Int) hla) rfl PkL.p trivial ?_
 intro _ _
 refine zz [45,2,0,1,3,4,4,2,11] ?_
 exact Ret.i (addr c z, S4) [_, _] ⟨rfl, rfl, trivial⟩ rfl ⟨hM, by rw [e4, e3]; exact (hz.plc hc).2 (.inr ⟨rfl, rfl⟩), fun hc2 o ho1 ho2 => by rw [G4.keep c (addr c z) hc hc2 (by omega) (by rw [e3]; exact (hz.plc hc).2 (.inr ⟨rfl, rfl⟩)) o ho1 ho2, e3, ldW_zB ho1 ho2], ⟨v - u, by omega, by omega, by rw [e4, e3, show u + (v - u) = v by omega]⟩, by rw [e4, e3]; exact hL.nx, by rw [e4, e3]; exact hL.Fr⟩ entS
theorem spmk_fac (sb fb cb pb hb qb top t : Nat) (S : PS) (l : List Hd.Pl) (ho : Hd.OkT l) (hg1 : Hd.getR l 1 = (ob 2 t 0, 0)) (hP : PInv top S) (hT : TI top S t) (s : Nat) (hs : s < 256) (lim u : Int) (r0 : List Qt.Qn) (hA : enA S.m t s = 0) (hQ : S.Q = ⟨0, -1, lim, u⟩ :: r0) (hq : QR lim u r0) (n : Nat) (hU : ∀ c ∈ cls, usd S.C c ≤ n) (hR : RmB top S.Fr (n + 1)) (L : List Fo.Fn) (last : Int) (hla : last ≤ 1000000) (hs8 : s < 128) (th : Int) (hth : 0 ≤ th ∧ th ≤ 4294967295) (f9 : Nat) (g9 : Int) (hg : Hd.getR l th = (ob 1 f9 g9, 0)) (hf9 : Plc 64 (S.C 1) f9) (w : Nat) (hw : ldW S.m f9 = w) (hw9 : w ≤ 40) (lm : Int) (hl0 : 0 ≤ lm) (dz : Int) (r1 : List Qt.Qn) (hch : ChQ lim u r0 w 64 dz r1 0) (hr : (Hd.allL l 0).length ≠ 0) (h : Nat) (hh : h < 4294967295) (hput : ∀ o, (Hd.putR l o).2 = ((h : Int), 0)) (hnx : S.nx ≤ 1000000) (idn : Nat) (hid : idn ≤ 1000000) (r2 : List Qt.Qn) (hcv : ∀ v, u ≤ v → v ≤ u + 304 → Qt.carveQ (⟨0, -1, lim, v + dz⟩ :: r1) S.nx (w : Int) lm = (⟨0, -1, lim, v + dz⟩ :: r2, S.nx + 1, (idn : Int), 0)) : FSpec Tryz.prog 56 [.pointer (some ⟨sb, 0, none⟩), .int .u32 1, .int .i64 (s : Int), .int .u32 th, .int .i64 1, .int .i64 lm] GV [pts sb 117 [.pointer (some ⟨cb, 0, none⟩), .pointer (some ⟨fb, 0, none⟩)], pts cb 87 [.pointer (some ⟨pb, 0, none⟩), .pointer (some ⟨hb, 0, none⟩), .pointer (some ⟨qb, 0, none⟩)], isPl pb top S, slc 174 5 (some ⟨hb, 0, none⟩) 256 256 (Hd.tabC l), Fo.isF fb L last] (fun _ : Nat × PS => .tuple #[.int .u32 (h : Int), .int .i64 0]) (fun y => MkR top t S s (packN h 15) y.2 ∧ Plc (clsz 1) (y.2.C 1) y.1 ∧ ldW y.2.m y.1 = idn ∧ (∃ d : Int, 0 ≤ d ∧ d ≤ 304 ∧ y.2.Q = ⟨0, -1, lim, u + d + dz⟩ :: r2) ∧ y.2.nx = S.nx + 1 ∧ y.2.Fr = S.Fr) (fun y => [pts sb 117 [.pointer (some ⟨cb, 0, none⟩), .pointer (some ⟨fb, 0, none⟩)], pts cb 87 [.pointer (some ⟨pb, 0, none⟩), .pointer (some ⟨hb, 0, none⟩), .pointer (some ⟨qb, 0, none⟩)], isPl pb top y.2, slc 174 5 (some ⟨hb, 0, none⟩) 256 256 (Hd.tabC (Hd.putR l (ob 1 y.1 (w : Int))).1), Fo.isF fb (Fo.addN L last 0 (1, (s : Int))).1 (Fo.addN L last 0 (1, (s : Int))).2.1]) := by
 refine fI Tryz.func56 Tryz.ntmps56 ?_
 intro F hF
 refine zz [82] ?_
 haveI : GVI F := ⟨hF⟩
 refine zz [0,1,4,4,2,0,1,6,3,5] ?_
 refine cl (spside_ok sb fb cb pb hb qb top t S l ho hg1 hP hT) rfl PkL.p GVI.gv ?_
 intro tb _
 refine zz [49,26,75,15,5] ?_
 refine al (l := [.pointer _, .int _ _, .int _ _]) rfl rfl ?_
 intro b15
 refine zz [21,48,4,2,0,0,1,3,23,2,10,7,0,1,76,3,5] ?_
 refine cl (spcap_no tb pb top t S hP hT s hs hA) rfl PkL.p trivial ?_
 intro _ _
 refine zz [53,26,101,80,5] ?_
 refine al (l := [.int _ _, .int _ _]) rfl rfl ?_
 intro b16
 refine zz [21,67,9,2,0,17,0,1,3,5] ?_
 refine cl (sphas_ok s hs) rfl (picked_nil _) trivial ?_
 intro _ _
 refine zz [45,64,9,2,10,0,1,3,5] ?_
 refine cl (spmade_ok 1 (by omega)) rfl (picked_nil _) trivial ?_
 intro _ _
 refine zz [45,64,20,32,59] ?_
 refine cl (spcaps_ok s true (decide_eq_true hs8)) rfl (picked_nil _) trivial ?_
 intro _ _
 refine zz [45,32,74,178,19,9,2] ?_
 refine TC.condD rfl (fun hc4 => absurd hc4 ((by simp))) (fun hc4 => ?_)
 refine zz [0,1,20,9,2,10,42,0,0,1,6,76,3,73,5] ?_
 refine cl (splay_ok sb fb cb pb hb qb tb top t lim u r0 S hP hT s hs hA hQ hq n hU hR 0 15 (by decide) (by decide)) rfl PkL.p GVI.gv ?_
 intro S2 hL
 refine zz [45,4,2,0,1,3,23,2,10] ?_
 have hb9 := Plc.bd hP (c := 1) (by decide) hf9
 have e64 : clsz 1 = 64 := rfl
 rw [e64] at hb9
 have hw2 : ldW S2.m f9 = w := by rw [hL.G.keep 1 f9 (by decide) (by decide) (by decide) hf9 f9 (Nat.le_refl _) (by omega)]; exact hw
 obtain ⟨v, hv1, hv2, hQv⟩ := hL.dq
 have hchv := hch v hv1 hv2
 have hpk := packN_lt (r := 15) hh (by decide)
 have hroom := (show RmB top S2.Fr (n + 1) by rw [hL.Fr]; exact hR).room hL.P (hL.un hU)
 refine zz [7,0,1,6,13,14,12,3,3,3,5] ?_
 refine cl (comk_fac cb pb hb qb top S2 l ho th hth f9 g9 hg (by omega) (by omega) (by rw [hw2]; omega) lm hl0 hroom hr (by rw [hw2, hQv, show ((clsz 1 : Nat) : Int) = 64 from rfl, hchv]) (by rw [hL.nx]; exact hnx) idn (by rw [hw2, hQv, show ((clsz 1 : Nat) : Int) = 64 from rfl, hchv, hL.nx]; dsimp only; rw [hcv v hv1 hv2]) hid) rfl PkL.p GVI.gv ?_
 intro z hz
 refine zz [45] ?_
 rw [hw2, hQv, show ((clsz 1 : Nat) : Int) = 64 from rfl, hchv]
 dsimp only
 rw [hL.nx, hcv v hv1 hv2]
 dsimp only
 rw [show (Hd.putR l (ob 1 (addr 1 z) (w : Int))).2.1 = (h : Int) from by rw [hput], show (Hd.putR l (ob 1 (addr 1 z) (w : Int))).2.2 = 0 from by rw [hput]]
 obtain ⟨S3, e3⟩ : ∃ S3 : PS, S3 = ⟨⟨0, -1, lim, v + dz⟩ :: r2, S.nx + 1, updN S2.C 1 z.2.2, S2.Fr, stWs (zB S2.m (addr 1 z) (clsz 1)) (addr 1 z) [idn]⟩ := ⟨_, rfl⟩
 rw [← e3]
 have h3 := got_stp (S' := S3) hL.P hL.T (c := 1) (by decide) hz (by rw [e3]) (by rw [e3]) (fun o ho => by rw [e3, w1_ne (by rw [e64] at ho; omega), ldW_zB_ne ho])
 have hu3 : ∀ d, usd S3.C d ≤ usd S2.C d + if d = 6 ∨ d = 7 then 0 else 1 := fun d => by rw [e3]; exact hu_got (by decide) (by decide) hz d
 obtain ⟨P3, T3, G3, R3, E3⟩ := id h3
 have hl3 : rtW S3.m t (s / 16) ≠ 0 := by rw [R3 _ (by omega)]; exact hL.L
 have hb3 := Plc.bd P3 c6 (show Plc 48 (S3.C 6) (enB S3.m t s) by rw [(E3 s hs).2]; exact G3.plc 6 _ c6 hL.nd)
 have htp : 2 ^ top ≤ 128 := Nat.pow_le_pow_right (n := 2) (by decide) hP.tp.2
 obtain ⟨S4, e4⟩ : ∃ S4 : PS, S4 = ⟨S3.Q, S3.nx, S3.C, S3.Fr, stWs S3.m (rtW S3.m t (s / 16) + s % 16 * 16) [packN h 15, enB S3.m t s]⟩ := ⟨_, rfl⟩
 obtain ⟨hM, G4⟩ := mk_fin hs hL hpk.1 hpk.2 h3 hu3 e4
 refine zz [26,15,15,4,4,2,0,0,1,3,23,2,10,7,0,1,14,12,3,5] ?_
 refine cl (tget_ok tb pb top 0 t S3 P3 T3 s hs) rfl PkL.p trivial ?_
 intro _ _
 refine zz [45,26,15,15,4,4,2,0,221,25,18,33,33,176,33,16] ?_
 refine cl (sppack_ok h 15 hh (by decide)) rfl (picked_nil _) trivial ?_
 intro _ _
 refine zz [118,8,16] ?_
 refine cl (tset_old tb pb top 0 t S3 P3 T3 s hs (packN h 15) (enB S3.m t s) hpk.1 (by omega) hpk.2 hl3) rfl PkL.p trivial ?_
 intro _ _
 refine zz [118,8] ?_
 rw [← e4]
 refine zz [27,0,1,6,13,47,12,3,149,3,5] ?_
 refine cl (Fo.fadd_ok fb L last 0 1 (s : Int) hla) rfl PkL.p trivial ?_
 intro _ _
 refine zz [45,2,0,1,3,4,4,2,11] ?_
 exact Ret.i (addr 1 z, S4) [_, _] ⟨rfl, rfl, trivial⟩ rfl ⟨hM, by rw [e4, e3]; exact (hz.plc (by decide)).2 (.inr ⟨rfl, rfl⟩), by rw [G4.keep 1 (addr 1 z) (by decide) (by decide) (by decide) (by rw [e3]; exact (hz.plc (by decide)).2 (.inr ⟨rfl, rfl⟩)) (addr 1 z) (Nat.le_refl _) (by omega), e3, w1_a (by omega)], ⟨v - u, by omega, by omega, by rw [e4, e3, show u + (v - u) = v by omega]⟩, by rw [e4, e3], by rw [e4, e3]; exact hL.Fr⟩ entS
theorem spmk_fr (sb fb cb pb hb qb top t : Nat) (S : PS) (l : List Hd.Pl) (ho : Hd.OkT l) (hg1 : Hd.getR l 1 = (ob 2 t 0, 0)) (hP : PInv top S) (hT : TI top S t) (s : Nat) (hs : s < 256) (lim u : Int) (r0 : List Qt.Qn) (hA : enA S.m t s = 0) (hQ : S.Q = ⟨0, -1, lim, u⟩ :: r0) (hq : QR lim u r0) (n : Nat) (hU : ∀ c ∈ cls, usd S.C c ≤ n) (hR : RmB top S.Fr (n + 1)) (L : List Fo.Fn) (last : Int) (hla : last ≤ 1000000) (hs8 : 128 ≤ s) (th : Int) (hth : 0 ≤ th ∧ th ≤ 4294967295) (f9 : Nat) (g9 : Int) (hg : Hd.getR l th = (ob 1 f9 g9, 0)) (hf9 : Plc 64 (S.C 1) f9) (w : Nat) (hw : ldW S.m f9 = w) (hw9 : w ≤ 40) (lm : Int) (dz : Int) (r1 : List Qt.Qn) (hch : ChQ lim u r0 w 1024 dz r1 0) (hr : (Hd.allL l 0).length ≠ 0) (h : Nat) (hh : h < 4294967295) (hput : ∀ o, (Hd.putR l o).2 = ((h : Int), 0)) : FSpec Tryz.prog 56 [.pointer (some ⟨sb, 0, none⟩), .int .u32 1, .int .i64 (s : Int), .int .u32 th, .int .i64 8, .int .i64 lm] GV [pts sb 117 [.pointer (some ⟨cb, 0, none⟩), .pointer (some ⟨fb, 0, none⟩)], pts cb 87 [.pointer (some ⟨pb, 0, none⟩), .pointer (some ⟨hb, 0, none⟩), .pointer (some ⟨qb, 0, none⟩)], isPl pb top S, slc 174 5 (some ⟨hb, 0, none⟩) 256 256 (Hd.tabC l), Fo.isF fb L last] (fun _ : Nat × PS => .tuple #[.int .u32 (h : Int), .int .i64 0]) (fun y => MkR top t S s (packN h 15) y.2 ∧ y.2.Fr = y.1 :: S.Fr ∧ (∃ d : Int, 0 ≤ d ∧ d ≤ 304 ∧ y.2.Q = ⟨0, -1, lim, u + d + dz⟩ :: r1) ∧ y.2.nx = S.nx) (fun y => [pts sb 117 [.pointer (some ⟨cb, 0, none⟩), .pointer (some ⟨fb, 0, none⟩)], pts cb 87 [.pointer (some ⟨pb, 0, none⟩), .pointer (some ⟨hb, 0, none⟩), .pointer (some ⟨qb, 0, none⟩)], isPl pb top y.2, slc 174 5 (some ⟨hb, 0, none⟩) 256 256 (Hd.tabC (Hd.putR l (ob 8 (y.1 * 1024) (w : Int))).1), Fo.isF fb (Fo.addN L last 0 (1, (s : Int))).1 (Fo.addN L last 0 (1, (s : Int))).2.1]) := by
 refine fI Tryz.func56 Tryz.ntmps56 ?_
 intro F hF
 refine zz [82] ?_
 haveI : GVI F := ⟨hF⟩
 refine zz [0,1,4,4,2,0,1,6,3,5] ?_
 refine cl (spside_ok sb fb cb pb hb qb top t S l ho hg1 hP hT) rfl PkL.p GVI.gv ?_
 intro tb _
 refine zz [49,26,75,15,5] ?_
 refine al (l := [.pointer _, .int _ _, .int _ _]) rfl rfl ?_
 intro b17
 refine zz [21,48,4,2,0,0,1,3,23,2,10,7,0,1,76,3,5] ?_
 refine cl (spcap_no tb pb top t S hP hT s hs hA) rfl PkL.p trivial ?_
 intro _ _
 refine zz [53,26,101,80,5] ?_
 refine al (l := [.int _ _, .int _ _]) rfl rfl ?_
 intro b18
 refine zz [21,67,9,2,0,17,0,1,3,5] ?_
 refine cl (sphas_ok s hs) rfl (picked_nil _) trivial ?_
 intro _ _
 refine zz [45,64,9,2,10,0,1,3,5] ?_
 refine cl (spmade_ok 8 (by omega)) rfl (picked_nil _) trivial ?_
 intro _ _
 refine zz [45,64,20,32,59] ?_
 refine cl (spcaps_ok s false (decide_eq_false (by omega))) rfl (picked_nil _) trivial ?_
 intro _ _
 refine zz [45,32,74,178,19,9,2] ?_
 refine TC.condD rfl (fun hc5 => absurd hc5 ((by simp))) (fun hc5 => ?_)
 refine zz [0,1,20,9,2,10,42,0,0,1,6,76,3,73,5] ?_
 refine cl (splay_ok sb fb cb pb hb qb tb top t lim u r0 S hP hT s hs hA hQ hq n hU hR 0 15 (by decide) (by decide)) rfl PkL.p GVI.gv ?_
 intro S2 hL
 refine zz [45,4,2,0,1,3,23,2,10] ?_
 have hb9 := Plc.bd hP (c := 1) (by decide) hf9
 have e64 : clsz 1 = 64 := rfl
 rw [e64] at hb9
 have hw2 : ldW S2.m f9 = w := by rw [hL.G.keep 1 f9 (by decide) (by decide) (by decide) hf9 f9 (Nat.le_refl _) (by omega)]; exact hw
 obtain ⟨v, hv1, hv2, hQv⟩ := hL.dq
 have hchv := hch v hv1 hv2
 have hpk := packN_lt (r := 15) hh (by decide)
 have hroom := (show RmB top S2.Fr (n + 1) by rw [hL.Fr]; exact hR).room hL.P (hL.un hU)
 refine zz [7,0,1,6,13,14,12,3,3,3,5] ?_
 refine cl (comk_fr cb pb hb qb top S2 l ho th hth f9 g9 hg (by omega) (by omega) (by rw [hw2]; omega) lm hroom hr (by rw [hw2, hQv, hchv])) rfl PkL.p GVI.gv ?_
 intro z hz
 refine zz [45] ?_
 rw [hw2, hQv, hchv]
 dsimp only
 rw [show (Hd.putR l (ob 8 (z * 1024) (w : Int))).2.1 = (h : Int) from by rw [hput], show (Hd.putR l (ob 8 (z * 1024) (w : Int))).2.2 = 0 from by rw [hput]]
 obtain ⟨S3, e3⟩ : ∃ S3 : PS, S3 = ⟨⟨0, -1, lim, v + dz⟩ :: r1, S2.nx, S2.C, z :: S2.Fr, zB S2.m (z * 1024) 1024⟩ := ⟨_, rfl⟩
 rw [← e3]
 have h3 := frm_stp (S' := S3) hL.P hL.T hz (by rw [e3]) (by rw [e3]) (fun o ho => by rw [e3, ldW_zB_ne ho])
 have hu3 : ∀ d, usd S3.C d ≤ usd S2.C d + if d = 6 ∨ d = 7 then 0 else 1 := fun d => by rw [e3]; exact Nat.le_add_right _ _
 obtain ⟨P3, T3, G3, R3, E3⟩ := id h3
 have hl3 : rtW S3.m t (s / 16) ≠ 0 := by rw [R3 _ (by omega)]; exact hL.L
 have hb3 := Plc.bd P3 c6 (show Plc 48 (S3.C 6) (enB S3.m t s) by rw [(E3 s hs).2]; exact G3.plc 6 _ c6 hL.nd)
 have htp : 2 ^ top ≤ 128 := Nat.pow_le_pow_right (n := 2) (by decide) hP.tp.2
 obtain ⟨S4, e4⟩ : ∃ S4 : PS, S4 = ⟨S3.Q, S3.nx, S3.C, S3.Fr, stWs S3.m (rtW S3.m t (s / 16) + s % 16 * 16) [packN h 15, enB S3.m t s]⟩ := ⟨_, rfl⟩
 obtain ⟨hM, G4⟩ := mk_fin hs hL hpk.1 hpk.2 h3 hu3 e4
 refine zz [26,15,15,4,4,2,0,0,1,3,23,2,10,7,0,1,14,12,3,5] ?_
 refine cl (tget_ok tb pb top 0 t S3 P3 T3 s hs) rfl PkL.p trivial ?_
 intro _ _
 refine zz [45,26,15,15,4,4,2,0,221,25,18,33,33,176,33,16] ?_
 refine cl (sppack_ok h 15 hh (by decide)) rfl (picked_nil _) trivial ?_
 intro _ _
 refine zz [118,8,16] ?_
 refine cl (tset_old tb pb top 0 t S3 P3 T3 s hs (packN h 15) (enB S3.m t s) hpk.1 (by omega) hpk.2 hl3) rfl PkL.p trivial ?_
 intro _ _
 refine zz [118,8] ?_
 rw [← e4]
 refine zz [27,0,1,6,13,47,12,3,149,3,5] ?_
 refine cl (Fo.fadd_ok fb L last 0 1 (s : Int) hla) rfl PkL.p trivial ?_
 intro _ _
 refine zz [45,2,0,1,3,4,4,2,11] ?_
 exact Ret.i (z, S4) [_, _] ⟨rfl, rfl, trivial⟩ rfl ⟨hM, by rw [e4, e3, hL.Fr], ⟨v - u, by omega, by omega, by rw [e4, e3, show u + (v - u) = v by omega]⟩, by rw [e4, e3]; exact hL.nx⟩ entS
theorem spmk_no (sb fb cb pb hb qb top t : Nat) (S : PS) (l : List Hd.Pl) (ho : Hd.OkT l) (hg1 : Hd.getR l 1 = (ob 2 t 0, 0)) (hP : PInv top S) (hT : TI top S t) (s : Nat) (hs : s < 256) (lim u : Int) (r0 : List Qt.Qn) (hA : enA S.m t s = 0) (hQ : S.Q = ⟨0, -1, lim, u⟩ :: r0) (hq : QR lim u r0) (n : Nat) (hU : ∀ c ∈ cls, usd S.C c ≤ n) (hR : RmB top S.Fr (n + 1)) (L : List Fo.Fn) (last : Int) (hla : last ≤ 1000000) (hs8 : s < 128) (th : Int) (hth : 0 ≤ th ∧ th ≤ 4294967295) (f9 : Nat) (g9 : Int) (hg : Hd.getR l th = (ob 1 f9 g9, 0)) (hf9 : Plc 64 (S.C 1) f9) (w : Nat) (hw : ldW S.m f9 = w) (hw9 : w ≤ 40) (c : Nat) (hc2 : 2 ≤ c ∧ c ≤ 5) (lm : Int) (hl0 : 0 ≤ lm) (er : Int) (dz : Int) (r1 : List Qt.Qn) (hch : ChQ lim u r0 w (clsz c : Int) dz r1 er) (her : er ≠ 0) : FSpec Tryz.prog 56 [.pointer (some ⟨sb, 0, none⟩), .int .u32 1, .int .i64 (s : Int), .int .u32 th, .int .i64 (c : Int), .int .i64 lm] GV [pts sb 117 [.pointer (some ⟨cb, 0, none⟩), .pointer (some ⟨fb, 0, none⟩)], pts cb 87 [.pointer (some ⟨pb, 0, none⟩), .pointer (some ⟨hb, 0, none⟩), .pointer (some ⟨qb, 0, none⟩)], isPl pb top S, slc 174 5 (some ⟨hb, 0, none⟩) 256 256 (Hd.tabC l), Fo.isF fb L last] (fun _ : PS => .tuple #[.int .u32 0, .int .i64 er]) (fun y => BackR top t S y) (fun y => [pts sb 117 [.pointer (some ⟨cb, 0, none⟩), .pointer (some ⟨fb, 0, none⟩)], pts cb 87 [.pointer (some ⟨pb, 0, none⟩), .pointer (some ⟨hb, 0, none⟩), .pointer (some ⟨qb, 0, none⟩)], isPl pb top y, slc 174 5 (some ⟨hb, 0, none⟩) 256 256 (Hd.tabC l), Fo.isF fb L last]) := by
 refine fI Tryz.func56 Tryz.ntmps56 ?_
 intro F hF
 refine zz [82] ?_
 haveI : GVI F := ⟨hF⟩
 have hc : c ∈ cls := cls_mem.2 (by omega)
 refine zz [0,1,4,4,2,0,1,6,3,5] ?_
 refine cl (spside_ok sb fb cb pb hb qb top t S l ho hg1 hP hT) rfl PkL.p GVI.gv ?_
 intro tb _
 refine zz [49,26,75,15,5] ?_
 refine al (l := [.pointer _, .int _ _, .int _ _]) rfl rfl ?_
 intro b19
 refine zz [21,48,4,2,0,0,1,3,23,2,10,7,0,1,76,3,5] ?_
 refine cl (spcap_no tb pb top t S hP hT s hs hA) rfl PkL.p trivial ?_
 intro _ _
 refine zz [53,26,101,80,5] ?_
 refine al (l := [.int _ _, .int _ _]) rfl rfl ?_
 intro b20
 refine zz [21,67,9,2,0,17,0,1,3,5] ?_
 refine cl (sphas_ok s hs) rfl (picked_nil _) trivial ?_
 intro _ _
 refine zz [45,64,9,2,10,0,1,3,5] ?_
 refine cl (spmade_ok (c : Int) (by omega)) rfl (picked_nil _) trivial ?_
 intro _ _
 refine zz [45,64,20,32,59] ?_
 refine cl (spcaps_ok s true (decide_eq_true hs8)) rfl (picked_nil _) trivial ?_
 intro _ _
 refine zz [45,32,74,178,19,9,2] ?_
 refine TC.condD rfl (fun hc6 => absurd hc6 ((by intro e; have := of_decide_eq_true e.symm; omega))) (fun hc6 => ?_)
 refine zz [0,1,20,9,2,10,42,0,0,1,6,76,3,73,5] ?_
 refine cl (splay_ok sb fb cb pb hb qb tb top t lim u r0 S hP hT s hs hA hQ hq n hU hR 0 15 (by decide) (by decide)) rfl PkL.p GVI.gv ?_
 intro S2 hL
 refine zz [45,4,2,0,1,3,23,2,10] ?_
 have hb9 := Plc.bd hP (c := 1) (by decide) hf9
 have e64 : clsz 1 = 64 := rfl
 rw [e64] at hb9
 have hw2 : ldW S2.m f9 = w := by rw [hL.G.keep 1 f9 (by decide) (by decide) (by decide) hf9 f9 (Nat.le_refl _) (by omega)]; exact hw
 obtain ⟨v, hv1, hv2, hQv⟩ := hL.dq
 have hchv := hch v hv1 hv2
 refine zz [7,0,1,6,13,14,12,3,3,3,5] ?_
 refine cl (comk_no cb pb hb qb top S2 l ho th hth f9 g9 hg (by omega) (by omega) (by rw [hw2]; omega) c hc (by omega) lm hl0 (by rw [hw2, hQv, hchv]; exact her)) rfl PkL.p GVI.gv ?_
 intro _ _
 refine zz [45] ?_
 rw [hw2, hQv, hchv]
 dsimp only
 refine zz [26,15,15,4,4,2,0,0,1,3,23,2] ?_
 refine TC.condD rfl (fun hc7 => ?_) (fun hc7 => absurd (her) hc7)
 refine zz [0,1,6,76,3,5] ?_
 refine cl (spbare_ok sb fb cb pb hb qb tb top t lim u r0 S S2 hP hT s hs hA hQ hq (packN 0 15) (by decide) hL) rfl PkL.p GVI.gv ?_
 intro y hB
 refine zz [45,2,0,1,3,4,4,2,51] ?_
 exact Ret.i y [_, _] ⟨rfl, rfl, trivial⟩ rfl hB entS
theorem spmk_nofr (sb fb cb pb hb qb top t : Nat) (S : PS) (l : List Hd.Pl) (ho : Hd.OkT l) (hg1 : Hd.getR l 1 = (ob 2 t 0, 0)) (hP : PInv top S) (hT : TI top S t) (s : Nat) (hs : s < 256) (lim u : Int) (r0 : List Qt.Qn) (hA : enA S.m t s = 0) (hQ : S.Q = ⟨0, -1, lim, u⟩ :: r0) (hq : QR lim u r0) (n : Nat) (hU : ∀ c ∈ cls, usd S.C c ≤ n) (hR : RmB top S.Fr (n + 1)) (L : List Fo.Fn) (last : Int) (hla : last ≤ 1000000) (hs8 : 128 ≤ s) (th : Int) (hth : 0 ≤ th ∧ th ≤ 4294967295) (f9 : Nat) (g9 : Int) (hg : Hd.getR l th = (ob 1 f9 g9, 0)) (hf9 : Plc 64 (S.C 1) f9) (w : Nat) (hw : ldW S.m f9 = w) (hw9 : w ≤ 40) (lm : Int) (er : Int) (dz : Int) (r1 : List Qt.Qn) (hch : ChQ lim u r0 w 1024 dz r1 er) (her : er ≠ 0) : FSpec Tryz.prog 56 [.pointer (some ⟨sb, 0, none⟩), .int .u32 1, .int .i64 (s : Int), .int .u32 th, .int .i64 8, .int .i64 lm] GV [pts sb 117 [.pointer (some ⟨cb, 0, none⟩), .pointer (some ⟨fb, 0, none⟩)], pts cb 87 [.pointer (some ⟨pb, 0, none⟩), .pointer (some ⟨hb, 0, none⟩), .pointer (some ⟨qb, 0, none⟩)], isPl pb top S, slc 174 5 (some ⟨hb, 0, none⟩) 256 256 (Hd.tabC l), Fo.isF fb L last] (fun _ : PS => .tuple #[.int .u32 0, .int .i64 er]) (fun y => BackR top t S y) (fun y => [pts sb 117 [.pointer (some ⟨cb, 0, none⟩), .pointer (some ⟨fb, 0, none⟩)], pts cb 87 [.pointer (some ⟨pb, 0, none⟩), .pointer (some ⟨hb, 0, none⟩), .pointer (some ⟨qb, 0, none⟩)], isPl pb top y, slc 174 5 (some ⟨hb, 0, none⟩) 256 256 (Hd.tabC l), Fo.isF fb L last]) := by
 refine fI Tryz.func56 Tryz.ntmps56 ?_
 intro F hF
 refine zz [82] ?_
 haveI : GVI F := ⟨hF⟩
 refine zz [0,1,4,4,2,0,1,6,3,5] ?_
 refine cl (spside_ok sb fb cb pb hb qb top t S l ho hg1 hP hT) rfl PkL.p GVI.gv ?_
 intro tb _
 refine zz [49,26,75,15,5] ?_
 refine al (l := [.pointer _, .int _ _, .int _ _]) rfl rfl ?_
 intro b21
 refine zz [21,48,4,2,0,0,1,3,23,2,10,7,0,1,76,3,5] ?_
 refine cl (spcap_no tb pb top t S hP hT s hs hA) rfl PkL.p trivial ?_
 intro _ _
 refine zz [53,26,101,80,5] ?_
 refine al (l := [.int _ _, .int _ _]) rfl rfl ?_
 intro b22
 refine zz [21,67,9,2,0,17,0,1,3,5] ?_
 refine cl (sphas_ok s hs) rfl (picked_nil _) trivial ?_
 intro _ _
 refine zz [45,64,9,2,10,0,1,3,5] ?_
 refine cl (spmade_ok 8 (by omega)) rfl (picked_nil _) trivial ?_
 intro _ _
 refine zz [45,64,20,32,59] ?_
 refine cl (spcaps_ok s false (decide_eq_false (by omega))) rfl (picked_nil _) trivial ?_
 intro _ _
 refine zz [45,32,74,178,19,9,2] ?_
 refine TC.condD rfl (fun hc8 => absurd hc8 ((by simp))) (fun hc8 => ?_)
 refine zz [0,1,20,9,2,10,42,0,0,1,6,76,3,73,5] ?_
 refine cl (splay_ok sb fb cb pb hb qb tb top t lim u r0 S hP hT s hs hA hQ hq n hU hR 0 15 (by decide) (by decide)) rfl PkL.p GVI.gv ?_
 intro S2 hL
 refine zz [45,4,2,0,1,3,23,2,10] ?_
 have hb9 := Plc.bd hP (c := 1) (by decide) hf9
 have e64 : clsz 1 = 64 := rfl
 rw [e64] at hb9
 have hw2 : ldW S2.m f9 = w := by rw [hL.G.keep 1 f9 (by decide) (by decide) (by decide) hf9 f9 (Nat.le_refl _) (by omega)]; exact hw
 obtain ⟨v, hv1, hv2, hQv⟩ := hL.dq
 have hchv := hch v hv1 hv2
 refine zz [7,0,1,6,13,14,12,3,3,3,5] ?_
 refine cl (comk_nofr cb pb hb qb top S2 l ho th hth f9 g9 hg (by omega) (by omega) (by rw [hw2]; omega) lm (by rw [hw2, hQv, hchv]; exact her)) rfl PkL.p GVI.gv ?_
 intro _ _
 refine zz [45] ?_
 rw [hw2, hQv, hchv]
 dsimp only
 refine zz [26,15,15,4,4,2,0,0,1,3,23,2] ?_
 refine TC.condD rfl (fun hc9 => ?_) (fun hc9 => absurd (her) hc9)
 refine zz [0,1,6,76,3,5] ?_
 refine cl (spbare_ok sb fb cb pb hb qb tb top t lim u r0 S S2 hP hT s hs hA hQ hq (packN 0 15) (by decide) hL) rfl PkL.p GVI.gv ?_
 intro y hB
 refine zz [45,2,0,1,3,4,4,2,51] ?_
 exact Ret.i y [_, _] ⟨rfl, rfl, trivial⟩ rfl hB entS
def headN (op s a b : Nat) : Nat := b * 4294967296 + a * 16777216 + op * 256 + s
def fldC (at_ m x : Int) : List Value := [.int .u64 at_, .int .u64 m, .int .i64 x]
def layC : List Value := fldC 0 8 255 ++ (fldC 8 8 18 ++ (fldC 16 4 8 ++ (fldC 20 2 2 ++ (fldC 22 1 1 ++ (fldC 24 8 255 ++ (fldC 32 8 255 ++ fldC 40 21 1048576))))))
def lay0C : List Value := fldC 0 0 0 ++ (fldC 0 0 0 ++ (fldC 0 0 0 ++ (fldC 0 0 0 ++ (fldC 0 0 0 ++ (fldC 0 0 0 ++ (fldC 0 0 0 ++ fldC 0 0 0))))))
theorem rdsi_nil (F : HP) (ad : Option Addr) : RdSI F ad 0 [] := ⟨fun _ _ => .inl rfl⟩
def wordsC (op s a b x : Nat) : List Value := [.int .u64 (headN op s a b : Int), .int .u64 (x : Int)]
theorem rin_ok (n lo hi : Int) (h : lo ≤ n ∧ n ≤ hi) : FSpec Tryz.prog 169 [.int .i64 n, .int .i64 lo, .int .i64 hi] noRd [] (fun _ : Unit => .bool true) (fun _ => True) (fun _ => []) := by
 refine fI Tryz.func169 Tryz.ntmps169 ?_
 intro F _
 refine zz [37,0,1,9,2,0,1,3,3,111,20] ?_
 refine TL.known 10 rfl (c := true) (decide_eq_true h.1) ?_
 refine zz [32,32,150,19,9,2,11] ?_
 exact Ret.i () [_] ⟨rfl, trivial⟩ (congrArg Value.bool (decide_eq_true h.2)) trivial (ent_take 0 rfl (ent_nil _))
theorem rmay_ok (op s a b x : Nat) (hop : 1 ≤ op ∧ op ≤ 18) (hs : s ≤ 255) (ha : a ≤ 255) (hb : b ≤ 255) (hx : x < 2 ^ 64) : FSpec Tryz.prog 114 [.agg #[.int .i64 (op : Int), .int .i64 (s : Int), .int .i64 (a : Int), .int .i64 (b : Int), .int .i64 0, .bool false, .int .u64 (x : Int), .slice none 0 0, .slice none 0 0]] noRd [] (fun _ : Unit => .bool true) (fun _ => True) (fun _ => []) := by
 refine fI Tryz.func114 Tryz.ntmps114 ?_
 intro F _
 refine zz [37,0,1,5] ?_
 refine bx (v := .agg _) (l := [.int _ _, .int _ _, .int _ _, .int _ _, .int _ _, .bool _, .int _ _, .slice _ _ _, .slice _ _ _]) rfl rfl ?_
 intro b1
 refine zz [9,2,0,0,1,222,12,147,107,20,268,52,223,84,19,2,10,7,0,0,1,4,2,17] ?_
 refine TC.loop (ι := Unit) (fun z => True) (fun z => [(1, .pointer (some ⟨b1, 0, none⟩)), (2, .bool false), (3, .int .i64 0)]) (fun z => sepL [pts b1 42 [.int .i64 (op : Int), .int .i64 (s : Int), .int .i64 (a : Int), .int .i64 (b : Int), .int .i64 0, .bool false, .int .u64 (x : Int), .slice none 0 0, .slice none 0 0], F]) (fun z => 0) () trivial ⟨rfl, rfl, rfl, trivial⟩ (ent_take 0 rfl (ent_take 0 rfl (ent_nil _))) ?_
 rintro _ _ ρ0
 dsimp only [updL]
 refine zz [0,0,1,3,160,12,179,38,2,10,50,0,1,14,12,5] ?_
 refine cl (rin_ok (op : Int) 1 18 (by omega)) rfl (picked_nil _) trivial ?_
 intro _ _
 refine zz [66,20,97,52,59] ?_
 refine cl (rin_ok (s : Int) 0 255 (by omega)) rfl (picked_nil _) trivial ?_
 intro _ _
 refine zz [66,19,20,151,52,59] ?_
 refine cl (rin_ok (a : Int) 0 255 (by omega)) rfl (picked_nil _) trivial ?_
 intro _ _
 refine zz [66,19,20,164,52,59] ?_
 refine cl (rin_ok (b : Int) 0 255 (by omega)) rfl (picked_nil _) trivial ?_
 intro _ _
 refine zz [66,19,20,269,52,59] ?_
 refine cl (rin_ok (0 : Int) 0 1048576 (by omega)) rfl (picked_nil _) trivial ?_
 intro _ _
 refine zz [66,19,9,2,11] ?_
 exact zc0
theorem renc_ok (op s a b x : Nat) (hop : 1 ≤ op ∧ op ≤ 18) (hs : s ≤ 255) (ha : a ≤ 255) (hb : b ≤ 255) (hx : x < 2 ^ 64) : FSpec Tryz.prog 66 [.agg #[.int .i64 (op : Int), .int .i64 (s : Int), .int .i64 (a : Int), .int .i64 (b : Int), .int .i64 0, .bool false, .int .u64 (x : Int), .slice none 0 0, .slice none 0 0]] noRd [] (fun y : Option Addr × Nat => .slice y.1 2 y.2) (fun _ => True) (fun y => [slc 31 1 y.1 2 y.2 (wordsC op s a b x)]) := by
 refine fI Tryz.func66 Tryz.ntmps66 ?_
 intro F _
 refine zz [37,0,1,5] ?_
 refine bx (v := .agg _) (l := [.int _ _, .int _ _, .int _ _, .int _ _, .int _ _, .bool _, .int _ _, .slice _ _ _, .slice _ _ _]) rfl rfl ?_
 intro b2
 refine zz [35,2,0,0,1,180,5] ?_
 refine cl (rmay_ok op s a b x hop hs ha hb hx) rfl (picked_nil _) trivial ?_
 intro _ _
 refine zz [66,64,2,10,7,0,1,125,12] ?_
 refine q rfl rfl (conv .i64 .u64 rfl rfl rfl (wU (a := 0) (by decide))) ?_
 refine zz [4,2,0,1,3] ?_
 refine q rfl rfl (OQ.to (v := ((0 : Nat) : Int)) (mul rfl rfl rfl) (by rw [IntKind.wrap_u64]; omega)) ?_
 refine zz [78,12,131] ?_
 refine q rfl rfl (OQ.to (v := ((b : Nat) : Int)) (add rfl rfl rfl) (by rw [IntKind.wrap_u64]; omega)) ?_
 refine zz [4,2,0,1,3] ?_
 refine q rfl rfl (OQ.to (v := ((b * 256 : Nat) : Int)) (mul rfl rfl rfl) (by rw [IntKind.wrap_u64]; omega)) ?_
 refine zz [62,12,131] ?_
 refine q rfl rfl (OQ.to (v := ((b * 256 + a : Nat) : Int)) (add rfl rfl rfl) (by rw [IntKind.wrap_u64]; omega)) ?_
 refine zz [4,2,0,1,3] ?_
 refine q rfl rfl (OQ.to (v := (((b * 256 + a) * 2 : Nat) : Int)) (mul rfl rfl rfl) (by rw [IntKind.wrap_u64]; omega)) ?_
 refine zz [4,2,0,1,3] ?_
 refine q rfl rfl (OQ.to (v := (((b * 256 + a) * 4 : Nat) : Int)) (mul rfl rfl rfl) (by rw [IntKind.wrap_u64]; omega)) ?_
 refine zz [4,2,0,0,1,224,12,2,10,7,0,1,3] ?_
 refine q rfl rfl (OQ.to (v := (((b * 256 + a) * 16 : Nat) : Int)) (mul rfl rfl rfl) (by rw [IntKind.wrap_u64]; omega)) ?_
 refine zz [160,12,179] ?_
 refine q rfl rfl (conv .i64 .u64 rfl rfl rfl (wU (a := 0) (by decide))) ?_
 refine q rfl rfl (OQ.to (v := (((b * 256 + a) * 16 : Nat) : Int)) (add rfl rfl rfl) (by rw [IntKind.wrap_u64]; omega)) ?_
 refine zz [4,2,0,1,3] ?_
 refine q rfl rfl (OQ.to (v := (((b * 256 + a) * 256 : Nat) : Int)) (mul rfl rfl rfl) (by rw [IntKind.wrap_u64]; omega)) ?_
 refine zz [222,12,147] ?_
 refine q rfl rfl (conv .i64 .u64 rfl rfl rfl (wU (a := 0) (by decide))) ?_
 refine q rfl rfl (OQ.to (v := (((b * 256 + a) * 256 : Nat) : Int)) (add rfl rfl rfl) (by rw [IntKind.wrap_u64]; omega)) ?_
 refine zz [4,2,0,1,3] ?_
 refine q rfl rfl (OQ.to (v := (((b * 256 + a) * 65536 : Nat) : Int)) (mul rfl rfl rfl) (by rw [IntKind.wrap_u64]; omega)) ?_
 refine zz [14,12,131] ?_
 refine q rfl rfl (OQ.to (v := (((b * 256 + a) * 65536 + op : Nat) : Int)) (add rfl rfl rfl) (by rw [IntKind.wrap_u64]; omega)) ?_
 refine zz [4,2,0,1,3] ?_
 refine q rfl rfl (OQ.to (v := ((((b * 256 + a) * 65536 + op) * 256 : Nat) : Int)) (mul rfl rfl rfl) (by rw [IntKind.wrap_u64]; omega)) ?_
 refine zz [47,12,131] ?_
 refine q rfl rfl (OQ.to (v := ((headN op s a b : Nat) : Int)) (add rfl rfl rfl) (by rw [IntKind.wrap_u64]; rw [headN]; omega)) ?_
 refine zz [4,2,0,1,3,225,12,5,114] ?_
 intro b3
 refine zz [222,12,5] ?_
 refine ap (hr := rdsi_nil _ _) 8 rfl rfl rfl rfl rfl (Nat.le_of_ble_eq_true rfl) rfl rfl (by decide) (by simp only [maxLen]; omega) ?_
 intro ad1 cap1
 refine zz [35,2,0,0,1,4,2,17] ?_
 refine TC.loop (ι := Unit) (fun z => True) (fun z => [(1, .pointer (some ⟨b2, 0, none⟩)), (2, .slice none 0 0), (4, .slice ad1 2 cap1), (5, .int .i64 0)]) (fun z => sepL [slc 31 1 ad1 2 cap1 (wordsC op s a b x), pts b2 42 [.int .i64 (op : Int), .int .i64 (s : Int), .int .i64 (a : Int), .int .i64 (b : Int), .int .i64 0, .bool false, .int .u64 (x : Int), .slice none 0 0, .slice none 0 0], F]) (fun z => 0) () trivial ⟨rfl, rfl, rfl, rfl, trivial⟩ entS ?_
 rintro _ _ ρ0
 dsimp only [updL]
 refine zz [0,0,1,3,160,12,179,38,2,10,50,0,1,29,35,2,11] ?_
 exact Ret.i (ad1, cap1) [_] ⟨rfl, trivial⟩ rfl trivial entS
theorem rwords_ok (op s a b x : Nat) (hop : 1 ≤ op ∧ op ≤ 18) (hs : s ≤ 255) (ha : a ≤ 255) (hb : b ≤ 255) (hx : x < 2 ^ 64) : FSpec Tryz.prog 26 [.agg #[.int .i64 (op : Int), .int .i64 (s : Int), .int .i64 (a : Int), .int .i64 (b : Int), .int .i64 0, .bool false, .int .u64 (x : Int), .slice none 0 0, .slice none 0 0]] noRd [] (fun y : Option Addr × Nat => .slice y.1 2 y.2) (fun _ => True) (fun y => [slc 31 1 y.1 2 y.2 (wordsC op s a b x)]) := by
 refine fI Tryz.func26 Tryz.ntmps26 ?_
 intro F _
 refine zz [37,0,1,5] ?_
 refine bx (v := .agg _) (l := [.int _ _, .int _ _, .int _ _, .int _ _, .int _ _, .bool _, .int _ _, .slice _ _ _, .slice _ _ _]) rfl rfl ?_
 intro b4
 refine zz [35,2,0,1,180,5] ?_
 refine cl (renc_ok op s a b x hop hs ha hb hx) rfl (picked_nil _) trivial ?_
 intro y _
 refine zz [43,35,2,0,0,1,29,147,30,2,10,7,0,1,29,35,2,11] ?_
 exact Ret.i y [_] ⟨rfl, trivial⟩ rfl trivial entS
theorem ask_ok (op s a b x : Nat) (hop : 1 ≤ op ∧ op ≤ 18) (hs : s ≤ 255) (ha : a ≤ 255) (hb : b ≤ 255) (hx : x < 2 ^ 64) : FSpec Tryz.prog 7 [.agg #[.int .i64 (op : Int), .int .i64 (s : Int), .int .i64 (a : Int), .int .i64 (b : Int), .int .i64 0, .bool false, .int .u64 (x : Int), .slice none 0 0, .slice none 0 0]] noRd [] (fun y : Option Addr × Nat => .agg #[.int .i64 0, .int .i64 0, .slice y.1 2 y.2]) (fun _ => True) (fun y => [slc 31 1 y.1 2 y.2 (wordsC op s a b x)]) := by
 refine fI Tryz.func7 Tryz.ntmps7 ?_
 intro F _
 refine zz [37,0,1,5] ?_
 refine bx (v := .agg _) (l := [.int _ _, .int _ _, .int _ _, .int _ _, .int _ _, .bool _, .int _ _, .slice _ _ _, .slice _ _ _]) rfl rfl ?_
 intro b5
 refine e rfl ?_
 refine al (l := [.int _ _, .int _ _, .slice _ _ _]) rfl rfl ?_
 intro b6
 refine zz [2,0,1,180,5] ?_
 refine cl (rwords_ok op s a b x hop hs ha hb hx) rfl (picked_nil _) trivial ?_
 intro y _
 refine zz [46,256,21,48,2,11] ?_
 exact Ret.i y [_] ⟨(rcN (n := 3) rfl rfl rfl rfl), trivial⟩ rfl trivial entS
theorem usual_ok  : FSpec Tryz.prog 13 [] noRd [] (fun _ : Unit => .agg #[.int .i64 65536, .int .i64 65536, .int .i64 2]) (fun _ => True) (fun _ => []) := by
 refine fI Tryz.func13 Tryz.ntmps13 ?_
 intro F _
 refine zz [37,0,1,5] ?_
 refine al (l := [.int _ _, .int _ _, .int _ _]) rfl rfl ?_
 intro b7
 refine zz [2,0,1,89,21,48,2,11] ?_
 exact zc11
theorem clay_ok  : FSpec Tryz.prog 142 [] noRd [] (fun _ : Unit => .agg layC.toArray) (fun _ => True) (fun _ => []) := by
 refine fI Tryz.func142 Tryz.ntmps142 ?_
 intro F _
 refine zz [37,0,1,5] ?_
 refine al (l := lay0C) rfl rfl ?_
 intro b
 refine zz [2,0,1,73,89,73,89,73,89,73,89,73,89,73,89,73,89,73,89] ?_
 refine q rfl rfl (bld (cs := layC) (by kernel_rfl)) ?_
 refine e0 ?_
 refine st (v := .agg layC.toArray) (vs := layC) 24 rfl rfl rfl rfl rfl rfl (Nat.le_of_ble_eq_true rfl) rfl ?_
 refine zz [2,11] ?_
 exact Ret.i () [_] ⟨(rcN (n := 24) rfl rfl rfl rfl), trivial⟩ rfl trivial entS
theorem or_add {a b i : Nat} (h : a < 2 ^ i) : a ||| b * 2 ^ i = a + b * 2 ^ i := by
 rw [Nat.or_comm, Nat.mul_comm, ← Nat.two_pow_add_eq_or_of_lt h]; omega
theorem or_z (a : Nat) : a ||| 0 = a := Nat.or_zero a
theorem cgreat_ok (at_ m g : Nat) (hm : m ≤ 21) (hg : 2 ^ m = g + 1) : FSpec Tryz.prog 187 [.agg #[.int .u64 (at_ : Int), .int .u64 (m : Int)]] noRd [] (fun _ : Unit => .int .u64 (g : Int)) (fun _ => True) (fun _ => []) := by
 refine fI Tryz.func187 Tryz.ntmps187 ?_
 intro F _
 refine zz [37] ?_
 have hm2 : 2 ^ m ≤ 2 ^ 21 := Nat.pow_le_pow_right (by decide) hm
 refine zz [0,1,5] ?_
 refine bx (v := .agg #[_, _]) (l := [.int _ _, .int _ _]) rfl rfl ?_
 intro b1
 refine zz [4,2,0,1,47,12] ?_
 refine q rfl rfl (shlU (a := 1) (n := m) (c := g + 1) rfl rfl (by omega) (by omega)) ?_
 refine q rfl rfl (OQ.to (v := (g : Int)) (sub rfl rfl (wu64 (by omega) (by omega))) (by omega)) ?_
 refine zz [4,2,11] ?_
 exact zc0
theorem cget_ok (at_ m x v g : Nat) (hat : at_ ≤ 63) (hm : m ≤ 21) (hx : x < 2 ^ 64) (hg : 2 ^ m = g + 1) (hv : x / 2 ^ at_ % 2 ^ m = v) : FSpec Tryz.prog 143 [.agg #[.int .u64 (at_ : Int), .int .u64 (m : Int)], .int .u64 (x : Int)] noRd [] (fun _ : Unit => .int .i64 (v : Int)) (fun _ => True) (fun _ => []) := by
 refine fI Tryz.func143 Tryz.ntmps143 ?_
 intro F _
 refine zz [37] ?_
 have hm2 : 2 ^ m ≤ 2 ^ 21 := Nat.pow_le_pow_right (by decide) hm
 have hv2 : v < 2 ^ m := by rw [← hv]; exact Nat.mod_lt _ (Nat.pow_pos (by decide))
 have hxa : x / 2 ^ at_ < 2 ^ 64 := Nat.lt_of_le_of_lt (Nat.div_le_self _ _) hx
 have hand : x / 2 ^ at_ &&& g = v := by
  rw [show g = 2 ^ m - 1 by omega, Nat.and_two_pow_sub_one_eq_mod]; exact hv
 refine zz [0,1,5] ?_
 refine bx (v := .agg #[_, _]) (l := [.int _ _, .int _ _]) rfl rfl ?_
 intro b2
 refine zz [4,2,0] ?_
 refine TC.draw _ [] [(0, false), (1, false), (2, false), (3, false), (4, false), (5, true), (6, false), (7, false), (8, false)] (by kernel_rfl) (by kernel_rfl) (ent_take 0 rfl (ent_nil _)) ?_
 refine zz [33,25,18] ?_
 refine dq rfl rfl rfl (shrU (n := at_) rfl rfl hx rfl) ?_
 refine zz [103,16] ?_
 refine cl (cgreat_ok at_ m g hm hg) rfl (picked_nil _) trivial ?_
 intro _ _
 change ent _ _ ∧ TD _ _ _ _ _ _ _ _ _ _ (sepL [_, _])
 refine ⟨entS, ?_⟩
 refine dq rfl rfl rfl (andU rfl rfl hxa (by omega) hand) ?_
 refine zz [192,41,27,11] ?_
 exact zc0
theorem cput_ok (at_ m n v : Nat) (hat : at_ ≤ 63) (hv : n * 2 ^ at_ = v) (hv2 : v < 2 ^ 63) : FSpec Tryz.prog 190 [.agg #[.int .u64 (at_ : Int), .int .u64 (m : Int)], .int .i64 (n : Int)] noRd [] (fun _ : Unit => .int .u64 (v : Int)) (fun _ => True) (fun _ => []) := by
 refine fI Tryz.func190 Tryz.ntmps190 ?_
 intro F _
 refine zz [37] ?_
 have hn : n ≤ v := by rw [← hv]; exact Nat.le_mul_of_pos_right _ (Nat.pow_pos (by decide))
 refine zz [0,1,5] ?_
 refine bx (v := .agg #[_, _]) (l := [.int _ _, .int _ _]) rfl rfl ?_
 intro b3
 refine zz [4,2,0,1,3,131,14,12] ?_
 refine q rfl rfl (shlU (n := at_) (c := v) rfl rfl (by omega) (by rw [hv]; omega)) ?_
 refine zz [4,2,11] ?_
 exact zc0
theorem cfits_ok (at_ m n : Nat) (most : Int) (h : (n : Int) ≤ most) : FSpec Tryz.prog 189 [.agg #[.int .u64 (at_ : Int), .int .u64 (m : Int), .int .i64 most], .int .i64 (n : Int)] noRd [] (fun _ : Unit => .bool true) (fun _ => True) (fun _ => []) := by
 refine fI Tryz.func189 Tryz.ntmps189 ?_
 intro F _
 refine zz [37,0,1,5] ?_
 refine bx (v := .agg #[_, _, _]) (l := [.int _ _, .int _ _, .int _ _]) rfl rfl ?_
 intro b4
 refine zz [9,2,0,1,3,111,20] ?_
 refine TL.known 7 rfl (c := true) (decide_eq_true (by omega)) ?_
 refine zz [32,151,52,150,19,9,2,11] ?_
 exact Ret.i () [_] ⟨rfl, trivial⟩ (congrArg Value.bool (decide_eq_true h)) trivial entS
theorem cmay_ok (op s a b x : Nat) (hop : 1 ≤ op ∧ op ≤ 18) (hs : s ≤ 255) (ha : a ≤ 255) (hb : b ≤ 255) (wa : Option Addr) (wc : Nat) (hx : x < 2 ^ 64) : FSpec Tryz.prog 145 [.agg #[.int .i64 (op : Int), .int .i64 (s : Int), .int .i64 (a : Int), .int .i64 (b : Int), .int .i64 0, .bool false, .int .u64 (x : Int), .slice wa 0 wc, .slice none 0 0]] noRd [] (fun _ : Unit => .bool true) (fun _ => True) (fun _ => []) := by
 refine fI Tryz.func145 Tryz.ntmps145 ?_
 intro F _
 refine zz [37,0,1,5] ?_
 refine bx (v := .agg _) (l := [.int _ _, .int _ _, .int _ _, .int _ _, .int _ _, .bool _, .int _ _, .slice _ _ _, .slice _ _ _]) rfl rfl ?_
 intro b5
 refine zz [9,2,0,1,5] ?_
 refine cl (clay_ok) rfl (picked_nil _) trivial ?_
 intro _ _
 refine zz [66,5] ?_
 refine al (l := lay0C) rfl rfl ?_
 intro bl
 refine e0 ?_
 refine st (v := .agg layC.toArray) (vs := layC) 24 rfl rfl rfl rfl rfl rfl (Nat.le_of_ble_eq_true rfl) rfl ?_
 refine zz [2,0,0,1,160,12,179,3,2,17] ?_
 refine TC.loop (ι := Unit) (fun z => True) (fun z => [(1, .pointer (some ⟨b5, 0, none⟩)), (2, .bool false), (3, .pointer (some ⟨bl, 0, none⟩)), (10, .slice none 0 0), (11, .int .i64 0), (12, .int .i64 0)]) (fun z => sepL [pts b5 42 [.int .i64 (op : Int), .int .i64 (s : Int), .int .i64 (a : Int), .int .i64 (b : Int), .int .i64 0, .bool false, .int .u64 (x : Int), .slice wa 0 wc, .slice none 0 0], pts bl 310 layC, F]) (fun z => 0) () trivial ⟨rfl, rfl, rfl, rfl, rfl, rfl, trivial⟩ entS ?_
 rintro _ _ ρ0
 dsimp only [updL]
 refine zz [0,1,38,2,0,10,50,0,1,14,12,111,20] ?_
 refine TL.known 27 rfl (c := true) (decide_eq_true (by omega)) ?_
 refine zz [164,152,96,52,59] ?_
 refine cl (cfits_ok 8 8 op 18 (by omega)) rfl (picked_nil _) trivial ?_
 intro _ _
 refine zz [43,19,20,96,152,97,52,59] ?_
 refine cl (cfits_ok 0 8 s 255 (by omega)) rfl (picked_nil _) trivial ?_
 intro _ _
 refine zz [43,19,20] ?_
 first | refine qg rfl rfl rfl (fa 6 rfl rfl) ?_ | refine qg rfl rfl rfl (faS 6 rfl rfl asm0) ?_
 refine zz [152] ?_
 first | refine qg rfl rfl rfl (fa 7 rfl rfl) ?_ | refine qg rfl rfl rfl (faS 7 rfl rfl asm0) ?_
 refine zz [52] ?_
 refine qg rfl rfl rfl (len 31 1 rfl rfl) ?_
 refine eg rfl rfl ?_
 refine cl (cfits_ok 16 4 0 8 (by omega)) rfl (picked_nil _) trivial ?_
 intro _ _
 refine zz [43,19,20] ?_
 first | refine qg rfl rfl rfl (fa 9 rfl rfl) ?_ | refine qg rfl rfl rfl (faS 9 rfl rfl asm0) ?_
 refine zz [152,268,52,223,59] ?_
 refine cl (cfits_ok 20 2 0 2 (by omega)) rfl (picked_nil _) trivial ?_
 intro _ _
 refine zz [43,19,20] ?_
 first | refine qg rfl rfl rfl (fa 15 rfl rfl) ?_ | refine qg rfl rfl rfl (faS 15 rfl rfl asm0) ?_
 refine zz [152,151,52,59] ?_
 refine cl (cfits_ok 24 8 a 255 (by omega)) rfl (picked_nil _) trivial ?_
 intro _ _
 refine zz [43,19,20] ?_
 first | refine qg rfl rfl rfl (fa 18 rfl rfl) ?_ | refine qg rfl rfl rfl (faS 18 rfl rfl asm0) ?_
 refine zz [152,164,52,59] ?_
 refine cl (cfits_ok 32 8 b 255 (by omega)) rfl (picked_nil _) trivial ?_
 intro _ _
 refine zz [43,19,20] ?_
 first | refine qg rfl rfl rfl (fa 21 rfl rfl) ?_ | refine qg rfl rfl rfl (faS 21 rfl rfl asm0) ?_
 refine zz [152,269,52,59] ?_
 refine cl (cfits_ok 40 21 0 1048576 (by omega)) rfl (picked_nil _) trivial ?_
 intro _ _
 refine zz [43,19,9,2,11] ?_
 exact zc0
theorem chead_ok (op s a b x : Nat) (hop : 1 ≤ op ∧ op ≤ 18) (hs : s ≤ 255) (ha : a ≤ 255) (hb : b ≤ 255) (wa : Option Addr) (wc : Nat) (hx : x < 2 ^ 64) : FSpec Tryz.prog 146 [.agg #[.int .i64 (op : Int), .int .i64 (s : Int), .int .i64 (a : Int), .int .i64 (b : Int), .int .i64 0, .bool false, .int .u64 (x : Int), .slice wa 0 wc, .slice none 0 0]] noRd [] (fun _ : Unit => .int .u64 (headN op s a b : Int)) (fun _ => True) (fun _ => []) := by
 refine fI Tryz.func146 Tryz.ntmps146 ?_
 intro F _
 refine zz [37] ?_
 have h1 : s ||| op * 256 = s + op * 256 := or_add (i := 8) (by omega)
 have h2 : (s + op * 256) ||| a * 16777216 = s + op * 256 + a * 16777216 := or_add (i := 24) (by omega)
 have h3 : (s + op * 256 + a * 16777216) ||| b * 4294967296 = headN op s a b := by
  rw [show (4294967296 : Nat) = 2 ^ 32 from rfl, or_add (by omega), headN]; omega
 have h4 : headN op s a b < 2 ^ 64 := by rw [headN]; omega
 refine zz [0,1,5] ?_
 refine bx (v := .agg _) (l := [.int _ _, .int _ _, .int _ _, .int _ _, .int _ _, .bool _, .int _ _, .slice _ _ _, .slice _ _ _]) rfl rfl ?_
 intro b6
 refine zz [4,2,0,1,5] ?_
 refine cl (clay_ok) rfl (picked_nil _) trivial ?_
 intro _ _
 refine zz [66,5] ?_
 refine al (l := lay0C) rfl rfl ?_
 intro bl
 refine e0 ?_
 refine st (v := .agg layC.toArray) (vs := layC) 24 rfl rfl rfl rfl rfl rfl (Nat.le_of_ble_eq_true rfl) rfl ?_
 refine zz [4,2,0,0,1,224,12,2,10,7,0] ?_
 refine TC.draw _ [] [(0, false), (1, false), (2, false), (3, false), (4, false), (6, false), (7, false), (8, false), (9, false), (10, false), (13, false), (14, false), (15, false), (16, false), (17, false), (18, false), (21, false), (22, false), (23, false), (24, false), (25, false), (26, false), (29, false), (30, false), (31, false), (32, false), (35, false), (36, false), (37, false), (38, false), (39, false), (42, false), (43, false), (44, false), (45, false), (46, false), (49, false), (50, false), (51, false), (52, false), (53, false), (5, true), (11, true), (12, false), (19, true), (20, false), (27, true), (28, false), (33, true), (34, false), (40, true), (41, false), (47, true), (48, false), (54, true), (55, false), (56, false)] (by kernel_rfl) (by kernel_rfl) (ent_take 0 rfl (ent_take 0 rfl (ent_nil _))) ?_
 refine zz [25,25,103,60,18,90,25,103,25,18,196,25,103,181,18] ?_
 refine dq rfl rfl rfl (len 31 1 rfl rfl) ?_
 refine zz [153,25,103,226,18] ?_
 refine dq rfl rfl rfl (len 248 5 rfl rfl) ?_
 first | refine dq rfl rfl rfl (fa 12 rfl rfl) ?_ | refine dq rfl rfl rfl (faS 12 rfl rfl asm0) ?_
 refine zz [25,103,33] ?_
 first | refine dq rfl rfl rfl (fa 15 rfl rfl) ?_ | refine dq rfl rfl rfl (faS 15 rfl rfl asm0) ?_
 refine zz [25,103,58,18] ?_
 first | refine dq rfl rfl rfl (fa 18 rfl rfl) ?_ | refine dq rfl rfl rfl (faS 18 rfl rfl asm0) ?_
 refine zz [25,103,90,18] ?_
 first | refine dq rfl rfl rfl (fa 21 rfl rfl) ?_ | refine dq rfl rfl rfl (faS 21 rfl rfl asm0) ?_
 refine zz [25,103,270,18,16] ?_
 refine cl (cput_ok 0 8 s s (by decide) (by omega) (by omega)) rfl (picked_nil _) trivial ?_
 intro _ _
 refine zz [115,8,16] ?_
 refine cl (cput_ok 8 8 op (op * 256) (by decide) (by omega) (by omega)) rfl (picked_nil _) trivial ?_
 intro _ _
 refine zz [115,8] ?_
 refine dq rfl rfl rfl (orU rfl rfl (by omega) (by omega) h1) ?_
 refine de rfl rfl ?_
 refine cl (cput_ok 16 4 0 0 (by decide) (Nat.zero_mul _) (by omega)) rfl (picked_nil _) trivial ?_
 intro _ _
 refine zz [115,8] ?_
 refine dq rfl rfl rfl (orU (a := s + op * 256) (b := 0) (c := s + op * 256) rfl rfl (by omega) (by decide) (or_z _)) ?_
 refine de rfl rfl ?_
 refine cl (cput_ok 20 2 0 0 (by decide) (Nat.zero_mul _) (by omega)) rfl (picked_nil _) trivial ?_
 intro _ _
 refine zz [115,8] ?_
 refine dq rfl rfl rfl (orU (a := s + op * 256) (b := 0) (c := s + op * 256) rfl rfl (by omega) (by decide) (or_z _)) ?_
 refine de rfl rfl ?_
 refine cl (cput_ok 22 1 0 0 (by decide) (Nat.zero_mul _) (by omega)) rfl (picked_nil _) trivial ?_
 intro _ _
 refine zz [115,8] ?_
 refine dq rfl rfl rfl (orU (a := s + op * 256) (b := 0) (c := s + op * 256) rfl rfl (by omega) (by decide) (or_z _)) ?_
 refine de rfl rfl ?_
 refine cl (cput_ok 24 8 a (a * 16777216) (by decide) (by omega) (by omega)) rfl (picked_nil _) trivial ?_
 intro _ _
 refine zz [115,8] ?_
 refine dq rfl rfl rfl (orU rfl rfl (by omega) (by omega) h2) ?_
 refine de rfl rfl ?_
 refine cl (cput_ok 32 8 b (b * 4294967296) (by decide) (by omega) (by omega)) rfl (picked_nil _) trivial ?_
 intro _ _
 refine zz [115,8] ?_
 refine dq rfl rfl rfl (orU rfl rfl (by omega) (by omega) h3) ?_
 refine de rfl rfl ?_
 refine cl (cput_ok 40 21 0 0 (by decide) (Nat.zero_mul _) (by omega)) rfl (picked_nil _) trivial ?_
 intro _ _
 refine zz [115,8] ?_
 refine dq rfl rfl rfl (orU (a := headN op s a b) (b := 0) (c := headN op s a b) rfl rfl h4 (by decide) (or_z _)) ?_
 refine zz [41,27,11] ?_
 exact zc0
end Go.Proofs.YtnlgmaibhlicjaaGreatDoor
