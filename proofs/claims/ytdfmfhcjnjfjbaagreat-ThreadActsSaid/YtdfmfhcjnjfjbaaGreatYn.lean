/-
  Proved here: what functions of this program compute, each as a contract over symbolic states, under the premises that each theorem names (most lines printed by a program of the prover).
-/
import Derived.Test.YtdfmfhcjnjfjbaaGreatYm
namespace Go.Proofs.YtdfmfhcjnjfjbaaGreat
open Go Go.QM
structure Sn where
 to : Int
 o : Off
def snC (u : Sn) : List Value := .int .i64 u.to :: ofC u.o
theorem snC_sz (u : Sn) : (snC u).length = 4 := rfl
def snsC (S : List Sn) : List Value := S.flatMap snC
theorem snsC_length (S : List Sn) : (snsC S).length = S.length * 4 := flat_length snC_sz S
theorem sns_app (S T : List Sn) : snsC S ++ snsC T = snsC (S ++ T) := by simp [snsC]
theorem sns_all (S : List Sn) : (snsC S).take (S.length * 4) = snsC S := List.take_of_length_le (by rw [snsC_length]; omega)
theorem sns_one : ∀ (S : List Sn), (snsC S).all Value.oneCell' = true
 | [] => rfl
 | t :: S => by have := sns_one S; rw [snsC] at this ⊢; rw [List.flatMap_cons, List.all_append, this]; rfl
structure Rf where
 D : List Int
 st : Int → Int
 cl : Int → Int
 S : List Sn
def thC (r : Rf) (x : Int) : List Value := ints [x, r.st x, r.cl x]
theorem thC_sz (r : Rf) (x : Int) : (thC r x).length = 3 := rfl
def thsC (r : Rf) : List Value := r.D.flatMap (thC r)
theorem thsC_length (r : Rf) : (thsC r).length = r.D.length * 3 := flat_length (thC_sz r) r.D
theorem flat_one {f : Int → List Value} (h : ∀ x, (f x).all Value.oneCell' = true) : ∀ D : List Int, (D.flatMap f).all Value.oneCell' = true
 | [] => rfl
 | x :: D => by rw [List.flatMap_cons, List.all_append, h x, flat_one h D]; rfl
theorem thC_one (r : Rf) (x : Int) : (thC r x).all Value.oneCell' = true := rfl
theorem flat_congr {f g : Int → List Value} : ∀ {D : List Int}, (∀ x ∈ D, f x = g x) → D.flatMap f = D.flatMap g
 | [], _ => rfl
 | x :: D, h => by rw [List.flatMap_cons, List.flatMap_cons, h x (by simp), flat_congr fun y hy => h y (by simp [hy])]
def isRm (b : LC) (r : Rf) : HP := EX fun y : (Option Addr × Nat) × (Option Addr × Nat) => pure' True (sepL [pts b.n 60 [b.x0, b.x1, b.x2, b.x3, b.x4, .slice y.1.1 r.D.length y.1.2, .slice y.2.1 r.S.length y.2.2, b.x7], slc 115 3 y.1.1 r.D.length y.1.2 (thsC r), slc 117 4 y.2.1 r.S.length y.2.2 (snsC r.S)])
def atD (D : List Int) (id : Int) : Int := match D.findIdx? fun x => decide (x = id) with
 | some i => (i : Int)
 | none => -1
theorem atD_no {D : List Int} {id : Int} (h : id ∉ D) : atD D id = -1 := by
 have : D.findIdx? (fun x => decide (x = id)) = none := by
  rw [List.findIdx?_eq_none_iff]; intro x hx; simp only [decide_eq_false_iff_not]; exact fun e2 => h (e2 ▸ hx)
 rw [atD, this]
theorem atD_yes {D : List Int} {id : Int} (h : id ∈ D) : ∃ i : Nat, atD D id = (i : Int) ∧ D[i]? = some id := by
 cases hf : D.findIdx? (fun x => decide (x = id)) with
 | none =>
  rw [List.findIdx?_eq_none_iff] at hf
  have := hf id h; simp at this
 | some i =>
  obtain ⟨x, h1, h2⟩ := find_of_findIdx hf
  have := List.find?_some h2
  exact ⟨i, by rw [atD, hf], by rw [h1, show x = id by simpa using this]⟩
def stF (r : Rf) (id : Int) : Int := if id ∈ r.D then r.st id else -1
def clF (r : Rf) (id : Int) : Int := if id ∈ r.D then r.cl id else -1
def setF (r : Rf) (id v : Int) : Rf := { r with st := updI r.st id v }
def setC (r : Rf) (id v : Int) : Rf := { r with cl := updI r.cl id v }
def offF (r : Rf) (f : Int) : Rf := { r with S := r.S.filter fun u => decide (u.o.fr ≠ f) }
def rowF (S : List Sn) (to : Int) : List Off := (S.filter fun u => decide (u.to = to)).map (·.o)
theorem rowF_snoc {S : List Sn} {k : Nat} {u : Sn} (hu : S[k]? = some u) (to : Int) : rowF (S.take (k + 1)) to = rowF (S.take k) to ++ if u.to = to then [u.o] else [] := by
 rw [List.take_add_one, hu, Option.toList, rowF, List.filter_append, List.map_append]
 split
 ·rename_i h; rw [List.filter_cons_of_pos (by simpa using h)]; rfl
 ·rename_i h; rw [List.filter_cons_of_neg (by simpa using h)]; rfl
theorem rowF_len (S : List Sn) (to : Int) : (rowF S to).length ≤ S.length := by rw [rowF, List.length_map]; exact List.length_filter_le _ _
theorem off_snoc {S : List Sn} {k : Nat} {u : Sn} (hu : S[k]? = some u) (f : Int) : (S.take (k + 1)).filter (fun v => decide (v.o.fr ≠ f)) = (S.take k).filter (fun v => decide (v.o.fr ≠ f)) ++ if u.o.fr ≠ f then [u] else [] := by
 rw [List.take_add_one, hu, Option.toList, List.filter_append]
 split
 ·rename_i h; rw [List.filter_cons_of_pos (by simpa using h)]; rfl
 ·rename_i h; rw [List.filter_cons_of_neg (by simpa using h)]; rfl
theorem splice_l {o : Nat} {vs a b : List Value} (h : o + vs.length ≤ a.length) : splice o vs (a ++ b) = splice o vs a ++ b := by
 rw [splice, splice, List.take_append_of_le_length (by omega), List.drop_append_of_le_length h, List.append_assoc, List.append_assoc, List.append_assoc]
theorem splice_r {o : Nat} {vs a b : List Value} : splice (a.length + o) vs (a ++ b) = a ++ splice o vs b := by
 rw [splice, splice, List.take_length_add_append, Nat.add_assoc, List.drop_length_add_append]; simp [List.append_assoc]
theorem ths_set {r r' : Rf} (hn : r.D.Nodup) (hD : r'.D = r.D) {i : Nat} {id : Int} (hi : r.D[i]? = some id) {o j : Nat} {v : Value} (ho : o = i * 3 + j) (hj : splice j [v] (thC r id) = thC r' id) (hlj : j < 3) (h : ∀ x ∈ r.D, x ≠ id → thC r x = thC r' x) : splice o [v] (thsC r) = thsC r' := by
 obtain ⟨h1, h2⟩ := List.getElem?_eq_some_iff.1 hi
 have hQ : r.D = r.D.take i ++ id :: r.D.drop (i + 1) := by rw [← h2, ← List.drop_eq_getElem_cons h1, List.take_append_drop]
 have hp := perm_take hi
 have hne : ∀ x ∈ r.D.take i ++ r.D.drop (i + 1), x ≠ id := fun x hx e => (List.nodup_cons.1 (hp.nodup_iff.1 hn)).1 (e ▸ hx)
 have ht : (r.D.take i).length = i := by rw [List.length_take]; omega
 rw [thsC, thsC, hD, hQ, List.flatMap_append, List.flatMap_cons, List.flatMap_append, List.flatMap_cons]
 have e1 : (r.D.take i).flatMap (thC r) = (r.D.take i).flatMap (thC r') := flat_congr fun x hx => h x (List.mem_of_mem_take hx) (hne x (List.mem_append.2 (.inl hx)))
 have e2 : (r.D.drop (i + 1)).flatMap (thC r) = (r.D.drop (i + 1)).flatMap (thC r') := flat_congr fun x hx => h x (List.mem_of_mem_drop hx) (hne x (List.mem_append.2 (.inr hx)))
 have hl : ((r.D.take i).flatMap (thC r)).length = i * 3 := by rw [flat_length (thC_sz r), ht]
 rw [← e1, ← e2, ← hj, ho, ← hl, splice_r, splice_l (by rw [thC_sz]; show j + 1 ≤ 3; omega)]
set_option maxRecDepth 4000 in
theorem rat_ok (b : LC) (r : Rf) (hd : r.D.length ≤ 1000) (hs : r.S.length ≤ 100000) (id : Int) : FSpec Tryz.prog 86 [.pointer (some ⟨b.n, 5, none⟩), .int .i64 id] (fun F => ent F (isRm b r)) [] (fun _ : Unit => .int .i64 (atD r.D id)) (fun _ => True) (fun _ => []) := by
 refine FSpec.intro (rs := [.tmp 4]) (by kernel_rfl) Tryz.func86 rfl Tryz.ntmps86 (by rfl) rfl ?_
 intro F hF
 change TC _ _ _ _ _ _ _ (sepL [_])
 refine TC.openR hF (fun x0 hx0 => ?_)
 obtain ⟨⟨a1, c1⟩, ⟨a2, c2⟩⟩ := x0
 clear hx0
 dsimp only
 have hil := thsC_length r
 have hsl := snsC_length r.S
 refine TC.seq ?_
 refine TC.region ?_
 refine wai rfl rfl ?_
 refine TL.nil (nt ?_)
 refine TC.seq ?_
 refine TC.seq ?_
 refine TC.region ?_
 refine wai rfl rfl ?_
 refine TL.nil (nt ?_)
 refine TC.block ?_
 refine TC.loop (ι := Nat) (fun i => i ≤ r.D.length ∧ ∀ j t, j < i → r.D[j]? = some t → t ≠ id) (fun i => [(0, .pointer (some ⟨b.n, 5, none⟩)), (1, .int .i64 id), (5, .int .i64 ((i : Nat) : Int))]) (fun i => sepL [restr F (sepL [pts b.n 60 [b.x0, b.x1, b.x2, b.x3, b.x4, .slice a1 r.D.length c1, .slice a2 r.S.length c2, b.x7], slc 115 3 a1 r.D.length c1 (thsC r), slc 117 4 a2 r.S.length c2 (snsC r.S)])]) (fun i => r.D.length - i) 0 ⟨Nat.zero_le _, by intro j t h; omega⟩ ⟨rfl, rfl, rfl, trivial⟩ (ent_take 0 rfl (ent_nil _)) ?_
 rintro k ⟨hk, hno⟩ ρ0
 dsimp only [updL] at hk hno ⊢
 refine TC.seq ?_
 refine TC.seq ?_
 refine TC.region ?_
 refine wmi rfl rfl ?_
 refine wmp rfl rfl ?_
 refine wnc rfl rfl ?_
 refine wfa 0 rfl rfl rfl ?_
 refine wld rfl rfl rfl rfl ?_
 refine q rfl rfl (len 115 3 rfl rfl) ?_
 refine q rfl rfl (lss rfl rfl) ?_
 refine TL.nil (nt ?_)
 refine TC.condD rfl (fun hlt => ?_) (fun hlt => ?_)
 ·have hlt2 : k < r.D.length := by omega
  obtain ⟨x, hx⟩ : ∃ x, r.D[k]? = some x := ⟨r.D[k], List.getElem?_eq_getElem hlt2⟩
  have hpos : 0 < (thsC r).length := by omega
  refine TC.skip (nt ?_)
  refine TC.seq ?_
  refine TC.block ?_
  refine TC.seq ?_
  refine TC.region ?_
  refine wmp rfl rfl ?_
  refine wnc rfl rfl ?_
  refine wfa 0 rfl rfl rfl ?_
  refine wld rfl rfl rfl rfl ?_
  refine wmi rfl rfl ?_
  refine q rfl rfl (ixS 115 3 rfl rfl rfl (by omega) (by assumption)) ?_
  refine q rfl rfl (faS 0 rfl rfl (by assumption)) ?_
  refine q rfl rfl (ldS rfl rfl (flat_ld (thC_sz r) hx 0 (by omega) rfl)) ?_
  refine wmi rfl rfl ?_
  refine q rfl rfl (eqI rfl rfl) ?_
  refine TL.nil (nt ?_)
  refine TC.condD rfl (fun he => ?_) (fun he => ?_)
  ·have hr : atD r.D id = (k : Int) := by
    rw [atD, findIdx_at (p := fun x : Int => decide (x = id)) hx (by simpa using he) (fun j t hj ht => by simpa using hno j t hj ht)]
   refine TC.seq ?_
   refine TC.region ?_
   refine wmi rfl rfl ?_
   refine wai rfl rfl ?_
   refine TL.nil (nt ?_)
   refine TC.ret (rb (rt (rt (rb (rt ?_)))))
   exact Ret.i () [_] ⟨rfl, trivial⟩ (by rw [hr]; rfl) trivial (ent_takeF 0 rfl (ent_nil _))
  ·refine TC.skip (nb (nt ?_))
   refine TC.region ?_
   refine wmi rfl rfl ?_
   refine q rfl rfl (addI rfl rfl (by omega) (by omega)) ?_
   refine wai rfl rfl ?_
   refine TL.nil (nt ?_)
   exact ⟨rfl, (k + 1), ⟨by omega, fun j t hj ht => by rcases Nat.lt_succ_iff_lt_or_eq.1 hj with h | h; exact hno j t h ht; subst h; rw [hx] at ht; cases ht; exact he⟩, (by omega), ⟨rfl, rfl, rfl, trivial⟩, (ent_take 0 rfl (ent_nil _))⟩
 ·have hr : atD r.D id = -1 := atD_no (fun he1 => by
   obtain ⟨j, hj⟩ := List.getElem?_of_mem he1
   exact hno j id (by have := (List.getElem?_eq_some_iff.1 hj).1; omega) hj rfl)
  refine TC.exit (et (et (eb (nt ?_))))
  refine TC.seq ?_
  refine TC.region ?_
  refine wai rfl rfl ?_
  refine TL.nil (nt ?_)
  refine TC.ret ?_
  exact Ret.i () [_] ⟨rfl, trivial⟩ (by rw [hr]; rfl) trivial (ent_takeF 0 rfl (ent_nil _))
set_option maxRecDepth 4000 in
theorem rstate_ok (b : LC) (r : Rf) (hd : r.D.length ≤ 1000) (hs : r.S.length ≤ 100000) (id : Int) : FSpec Tryz.prog 84 [.pointer (some ⟨b.n, 5, none⟩), .int .i64 id] (fun F => ent F (isRm b r)) [] (fun _ : Unit => .int .i64 (stF r id)) (fun _ => True) (fun _ => []) := by
 refine FSpec.intro (rs := [.tmp 4]) (by kernel_rfl) Tryz.func84 rfl Tryz.ntmps84 (by rfl) rfl ?_
 intro F hF
 change TC _ _ _ _ _ _ _ (sepL [_])
 refine TC.seq ?_
 refine TC.region ?_
 refine wai rfl rfl ?_
 refine TL.nil (nt ?_)
 refine TC.seq ?_
 refine TC.region ?_
 refine wmp rfl rfl ?_
 refine wmi rfl rfl ?_
 refine e rfl ?_
 refine cl (rat_ok b r hd hs id) rfl (picked_nil _) ((ent_one 0 rfl).trans hF) ?_
 intro _ _
 change TL _ _ _ _ _ _ _ _ (sepL [_])
 by_cases hy : id ∈ r.D
 ·obtain ⟨i, h1, h2⟩ := atD_yes hy
  rw [h1]
  have hi := (List.getElem?_eq_some_iff.1 h2).1
  rw [show stF r id = r.st id from if_pos hy]
  refine wai rfl rfl ?_
  refine TL.nil (nt ?_)
  refine TC.seq ?_
  refine TC.seq ?_
  refine TC.region ?_
  refine wmi rfl rfl ?_
  refine q rfl rfl (lss rfl rfl) ?_
  refine TL.nil (nt ?_)
  refine TC.condD rfl (fun hc1 => absurd hc1 (by omega)) (fun hc1 => ?_)
  refine TC.skip (nt ?_)
  refine TC.seq ?_
  refine TC.openR hF (fun x0 hx0 => ?_)
  obtain ⟨⟨a1, c1⟩, ⟨a2, c2⟩⟩ := x0
  clear hx0
  dsimp only
  have hil := thsC_length r
  have hsl := snsC_length r.S
  have hpos : 0 < (thsC r).length := by omega
  refine TC.region ?_
  refine wmp rfl rfl ?_
  refine wnc rfl rfl ?_
  refine wfa 0 rfl rfl rfl ?_
  refine wld rfl rfl rfl rfl ?_
  refine wmi rfl rfl ?_
  refine q rfl rfl (ixS 115 3 rfl rfl rfl (by omega) (by assumption)) ?_
  refine q rfl rfl (faS 1 rfl rfl (by assumption)) ?_
  refine q rfl rfl (ldS rfl rfl (flat_ld (thC_sz r) h2 1 (by omega) rfl)) ?_
  refine wai rfl rfl ?_
  refine TL.nil (nt ?_)
  refine TC.ret ?_
  exact Ret.i () [_] ⟨rfl, trivial⟩ rfl trivial (ent_takeF 0 rfl (ent_nil _))
 ·rw [atD_no hy, show stF r id = -1 from if_neg hy]
  refine wai rfl rfl ?_
  refine TL.nil (nt ?_)
  refine TC.seq ?_
  refine TC.seq ?_
  refine TC.region ?_
  refine wmi rfl rfl ?_
  refine q rfl rfl (lss rfl rfl) ?_
  refine TL.nil (nt ?_)
  refine TC.condD rfl (fun hc2 => ?_) (fun hc2 => absurd (by decide) hc2)
  refine TC.seq ?_
  refine TC.region ?_
  refine wai rfl rfl ?_
  refine TL.nil (nt ?_)
  refine TC.ret (rt ?_)
  exact Ret.i () [_] ⟨rfl, trivial⟩ rfl trivial (ent_take 0 rfl (ent_nil _))
set_option maxRecDepth 4000 in
theorem rcaller_ok (b : LC) (r : Rf) (hd : r.D.length ≤ 1000) (hs : r.S.length ≤ 100000) (id : Int) : FSpec Tryz.prog 33 [.pointer (some ⟨b.n, 5, none⟩), .int .i64 id] (fun F => ent F (isRm b r)) [] (fun _ : Unit => .int .i64 (clF r id)) (fun _ => True) (fun _ => []) := by
 refine FSpec.intro (rs := [.tmp 4]) (by kernel_rfl) Tryz.func33 rfl Tryz.ntmps33 (by rfl) rfl ?_
 intro F hF
 change TC _ _ _ _ _ _ _ (sepL [_])
 refine TC.seq ?_
 refine TC.region ?_
 refine wai rfl rfl ?_
 refine TL.nil (nt ?_)
 refine TC.seq ?_
 refine TC.region ?_
 refine wmp rfl rfl ?_
 refine wmi rfl rfl ?_
 refine e rfl ?_
 refine cl (rat_ok b r hd hs id) rfl (picked_nil _) ((ent_one 0 rfl).trans hF) ?_
 intro _ _
 change TL _ _ _ _ _ _ _ _ (sepL [_])
 by_cases hy : id ∈ r.D
 ·obtain ⟨i, h1, h2⟩ := atD_yes hy
  rw [h1]
  have hi := (List.getElem?_eq_some_iff.1 h2).1
  rw [show clF r id = r.cl id from if_pos hy]
  refine wai rfl rfl ?_
  refine TL.nil (nt ?_)
  refine TC.seq ?_
  refine TC.seq ?_
  refine TC.region ?_
  refine wmi rfl rfl ?_
  refine q rfl rfl (lss rfl rfl) ?_
  refine TL.nil (nt ?_)
  refine TC.condD rfl (fun hc3 => absurd hc3 (by omega)) (fun hc3 => ?_)
  refine TC.skip (nt ?_)
  refine TC.seq ?_
  refine TC.openR hF (fun x0 hx0 => ?_)
  obtain ⟨⟨a1, c1⟩, ⟨a2, c2⟩⟩ := x0
  clear hx0
  dsimp only
  have hil := thsC_length r
  have hsl := snsC_length r.S
  have hpos : 0 < (thsC r).length := by omega
  refine TC.region ?_
  refine wmp rfl rfl ?_
  refine wnc rfl rfl ?_
  refine wfa 0 rfl rfl rfl ?_
  refine wld rfl rfl rfl rfl ?_
  refine wmi rfl rfl ?_
  refine q rfl rfl (ixS 115 3 rfl rfl rfl (by omega) (by assumption)) ?_
  refine q rfl rfl (faS 2 rfl rfl (by assumption)) ?_
  refine q rfl rfl (ldS rfl rfl (flat_ld (thC_sz r) h2 2 (by omega) rfl)) ?_
  refine wai rfl rfl ?_
  refine TL.nil (nt ?_)
  refine TC.ret ?_
  exact Ret.i () [_] ⟨rfl, trivial⟩ rfl trivial (ent_takeF 0 rfl (ent_nil _))
 ·rw [atD_no hy, show clF r id = -1 from if_neg hy]
  refine wai rfl rfl ?_
  refine TL.nil (nt ?_)
  refine TC.seq ?_
  refine TC.seq ?_
  refine TC.region ?_
  refine wmi rfl rfl ?_
  refine q rfl rfl (lss rfl rfl) ?_
  refine TL.nil (nt ?_)
  refine TC.condD rfl (fun hc4 => ?_) (fun hc4 => absurd (by decide) hc4)
  refine TC.seq ?_
  refine TC.region ?_
  refine wai rfl rfl ?_
  refine TL.nil (nt ?_)
  refine TC.ret (rt ?_)
  exact Ret.i () [_] ⟨rfl, trivial⟩ rfl trivial (ent_take 0 rfl (ent_nil _))
set_option maxRecDepth 4000 in
theorem rset_ok (b : LC) (r : Rf) (hd : r.D.length ≤ 1000) (hs : r.S.length ≤ 100000) (hn : r.D.Nodup) (id v : Int) : FSpec Tryz.prog 134 [.pointer (some ⟨b.n, 5, none⟩), .int .i64 id, .int .i64 v] noRd [isRm b r] (fun _ : Unit => .tuple #[]) (fun _ => True) (fun _ => [isRm b (setF r id v)]) := by
 refine FSpec.intro (rs := []) (by kernel_rfl) Tryz.func134 rfl Tryz.ntmps134 (by rfl) rfl ?_
 intro F _
 change TC _ _ _ _ _ _ _ (sepL [_, _])
 refine TC.seq ?_
 refine TC.region ?_
 refine wmp rfl rfl ?_
 refine wmi rfl rfl ?_
 refine e rfl ?_
 refine cl (rat_ok b r hd hs id) rfl (picked_nil _) (ent_one 0 rfl) ?_
 intro _ _
 change TL _ _ _ _ _ _ _ _ (sepL [_, _])
 by_cases hy : id ∈ r.D
 ·obtain ⟨i, h1, h2⟩ := atD_yes hy
  rw [h1]
  have hi := (List.getElem?_eq_some_iff.1 h2).1
  have hst : ∀ o, o = i * 3 + 1 → splice o [.int .i64 v] (thsC r) = thsC (setF r id v) := fun o ho => ths_set (r' := setF r id v) hn rfl h2 ho (by rw [thC, thC]; dsimp only [setF]; rw [updI_same]; rfl) (by decide) (fun x _ hx => by rw [thC, thC]; dsimp only [setF]; rw [updI_ne hx])
  refine wai rfl rfl ?_
  refine TL.nil (nt ?_)
  refine TC.seq ?_
  refine TC.region ?_
  refine wmi rfl rfl ?_
  refine q rfl rfl (geq rfl rfl) ?_
  refine TL.nil (nt ?_)
  refine TC.condD rfl (fun hc5 => ?_) (fun hc5 => absurd (by omega) hc5)
  refine TC.open 0 rfl (fun x0 hx0 => ?_)
  obtain ⟨⟨a1, c1⟩, ⟨a2, c2⟩⟩ := x0
  clear hx0
  change TC _ _ _ _ _ _ _ (sepL [_, _, _, _])
  dsimp only
  have hil := thsC_length r
  have hsl := snsC_length r.S
  have hpos : 0 < (thsC r).length := by omega
  refine TC.region ?_
  refine wmp rfl rfl ?_
  refine wnc rfl rfl ?_
  refine wfa 0 rfl rfl rfl ?_
  refine wld rfl rfl rfl rfl ?_
  refine wmi rfl rfl ?_
  refine wmi rfl rfl ?_
  refine q rfl rfl (ixS 115 3 rfl rfl rfl (by omega) (by assumption)) ?_
  refine q rfl rfl (faS 1 rfl rfl (by assumption)) ?_
  refine e0 ?_
  refine QM.stS (v := .int _ _) (vs := [_]) 1 rfl rfl rfl rfl rfl rfl (by decide) (by omega) (hst _ (by omega)) ?_
  refine TL.nil ?_
  exact Ret.n () [] trivial rfl trivial (ent_close (⟨(a1, c1), (a2, c2)⟩ : (Option Addr × Nat) × (Option Addr × Nat)) trivial (ent_take 1 rfl (ent_take 0 rfl (ent_take 0 rfl (ent_take 0 rfl (ent_nil _))))))
 ·rw [atD_no hy]
  have hst : thsC (setF r id v) = thsC r := flat_congr fun x hx => by
   have hne : x ≠ id := fun e2 => hy (e2 ▸ hx)
   rw [thC, thC]; dsimp only [setF]; rw [updI_ne hne]
  refine TL.open 0 rfl (fun x0 hx0 => ?_)
  obtain ⟨⟨a1, c1⟩, ⟨a2, c2⟩⟩ := x0
  clear hx0
  change TL _ _ _ _ _ _ _ _ (sepL [_, _, _, _])
  dsimp only
  have hil := thsC_length r
  have hsl := snsC_length r.S
  refine wai rfl rfl ?_
  refine TL.nil (nt ?_)
  refine TC.seq ?_
  refine TC.region ?_
  refine wmi rfl rfl ?_
  refine q rfl rfl (geq rfl rfl) ?_
  refine TL.nil (nt ?_)
  refine TC.condD rfl (fun hc6 => absurd hc6 (by decide)) (fun hc6 => ?_)
  refine TC.skip ?_
  exact Ret.n () [] trivial rfl trivial (ent_close (⟨(a1, c1), (a2, c2)⟩ : (Option Addr × Nat) × (Option Addr × Nat)) trivial (ent_take 0 rfl (ent_takeE 0 rfl (by rw [hst]; rfl) (ent_take 0 rfl (ent_take 0 rfl (ent_nil _))))))
set_option maxRecDepth 4000 in
theorem roff_ok (b : LC) (r : Rf) (hd : r.D.length ≤ 1000) (hs : r.S.length ≤ 100000) (f : Int) : FSpec Tryz.prog 133 [.pointer (some ⟨b.n, 5, none⟩), .int .i64 f] noRd [isRm b r] (fun _ : Unit => .tuple #[]) (fun _ => True) (fun _ => [isRm b (offF r f)]) := by
 refine FSpec.intro (rs := []) (by kernel_rfl) Tryz.func133 rfl Tryz.ntmps133 (by rfl) rfl ?_
 intro F _
 change TC _ _ _ _ _ _ _ (sepL [_, _])
 refine TC.open 0 rfl (fun x0 hx0 => ?_)
 obtain ⟨⟨a1, c1⟩, ⟨a2, c2⟩⟩ := x0
 clear hx0
 change TC _ _ _ _ _ _ _ (sepL [_, _, _, _])
 dsimp only
 have hil := thsC_length r
 have hsl := snsC_length r.S
 refine TC.seq ?_
 refine TC.region ?_
 refine was rfl rfl ?_
 refine TL.nil (nt ?_)
 refine TC.seq ?_
 refine TC.seq ?_
 refine TC.region ?_
 refine wai rfl rfl ?_
 refine TL.nil (nt ?_)
 refine TC.block ?_
 refine TC.loop (ι := Nat × (Option Addr × Nat)) (fun s => s.1 ≤ r.S.length) (fun s => [(0, .pointer (some ⟨b.n, 5, none⟩)), (1, .int .i64 f), (4, .slice s.2.1 ((r.S.take s.1).filter fun u => decide (u.o.fr ≠ f)).length s.2.2), (5, .int .i64 ((s.1 : Nat) : Int))]) (fun s => sepL [slc 117 4 s.2.1 ((r.S.take s.1).filter fun u => decide (u.o.fr ≠ f)).length s.2.2 (snsC ((r.S.take s.1).filter fun u => decide (u.o.fr ≠ f))), pts b.n 60 [b.x0, b.x1, b.x2, b.x3, b.x4, .slice a1 r.D.length c1, .slice a2 r.S.length c2, b.x7], slc 115 3 a1 r.D.length c1 (thsC r), slc 117 4 a2 r.S.length c2 (snsC r.S), F]) (fun s => r.S.length - s.1) ⟨0, (none, 0)⟩ (Nat.zero_le _) ⟨rfl, rfl, rfl, rfl, trivial⟩ ((slc_nil 117 4 _).trans (ent_takeE 0 rfl rfl (ent_take 0 rfl (ent_take 0 rfl (ent_take 0 rfl (ent_take 0 rfl (ent_nil _))))))) ?_
 rintro ⟨k, ⟨oa, oc⟩⟩ hk ρ0
 dsimp only [updL] at hk ⊢
 refine TC.seq ?_
 refine TC.seq ?_
 refine TC.region ?_
 refine wmi rfl rfl ?_
 refine wmp rfl rfl ?_
 refine wnc rfl rfl ?_
 refine wfa 1 rfl rfl rfl ?_
 refine wld rfl rfl rfl rfl ?_
 refine q rfl rfl (len 117 4 rfl rfl) ?_
 refine q rfl rfl (lss rfl rfl) ?_
 refine TL.nil (nt ?_)
 refine TC.condD rfl (fun hlt => ?_) (fun hlt => ?_)
 ·have hlt2 : k < r.S.length := by omega
  obtain ⟨u, hu⟩ : ∃ u, r.S[k]? = some u := ⟨r.S[k], List.getElem?_eq_getElem hlt2⟩
  have hpos : 0 < (snsC r.S).length := by omega
  have hsn := off_snoc hu f
  have hfl : ((r.S.take k).filter fun u => decide (u.o.fr ≠ f)).length ≤ (r.S.take k).length := List.length_filter_le _ _
  have htl : (r.S.take k).length ≤ k := by rw [List.length_take]; omega
  have hfi := snsC_length ((r.S.take k).filter fun u => decide (u.o.fr ≠ f))
  refine TC.skip (nt ?_)
  refine TC.seq ?_
  refine TC.block ?_
  refine TC.seq ?_
  refine TC.region ?_
  refine wmp rfl rfl ?_
  refine wnc rfl rfl ?_
  refine wfa 1 rfl rfl rfl ?_
  refine wld rfl rfl rfl rfl ?_
  refine wmi rfl rfl ?_
  refine q rfl rfl (ixS 117 4 rfl rfl rfl (by omega) (by assumption)) ?_
  refine q rfl rfl (faS 1 rfl rfl (by assumption)) ?_
  refine q rfl rfl (faS 0 rfl rfl (by assumption)) ?_
  refine q rfl rfl (ldS rfl rfl (flat_ld snC_sz hu 1 (by omega) rfl)) ?_
  refine wmi rfl rfl ?_
  refine q rfl rfl (neI rfl rfl) ?_
  refine TL.nil (nt ?_)
  refine TC.condD rfl (fun hne => ?_) (fun hne => ?_)
  ·rw [if_pos hne] at hsn
   refine TC.region ?_
   refine wms rfl rfl ?_
   refine wmp rfl rfl ?_
   refine wnc rfl rfl ?_
   refine wfa 1 rfl rfl rfl ?_
   refine wld rfl rfl rfl rfl ?_
   refine wmi rfl rfl ?_
   refine q rfl rfl (ixS 117 4 rfl rfl rfl (by omega) (by assumption)) ?_
   refine q rfl rfl (ldSN (vs := [_, _, _, _]) 4 rfl rfl (flat_get_rec snC_sz hu) rfl (by decide)) ?_
   refine e rfl ?_
   refine bs (cs := [.int _ _, .int _ _, .int _ _, .bool _]) rfl ?_
   intro b1
   refine e rfl ?_
   refine ap 32 rfl rfl rfl rfl rfl (Nat.le_of_ble_eq_true rfl) (show _ = snsC [u] from rfl) rfl (by omega) (by simp only [maxLen]; omega) ?_
   intro ad1 cap1
   refine was rfl rfl ?_
   refine TL.nil (nb (nt ?_))
   refine TC.region ?_
   refine wmi rfl rfl ?_
   refine q rfl rfl (addI rfl rfl (by omega) (by omega)) ?_
   refine wai rfl rfl ?_
   refine TL.nil (nt ?_)
   exact ⟨rfl, ⟨k + 1, (ad1, cap1)⟩, (by dsimp only; omega), (by dsimp only; omega), ⟨rfl, rfl, congrArg (fun n => Value.slice _ n _) (by dsimp only; rw [hsn, List.length_append]; rfl), rfl, trivial⟩, (ent_takeE 0 rfl (by dsimp only; rw [hsn, List.length_append, sns_app]; rfl) (ent_take 1 rfl (ent_take 1 rfl (ent_take 1 rfl (ent_take 1 rfl (ent_nil _))))))⟩
  ·rw [if_neg hne, List.append_nil] at hsn
   refine TC.skip (nb (nt ?_))
   refine TC.region ?_
   refine wmi rfl rfl ?_
   refine q rfl rfl (addI rfl rfl (by omega) (by omega)) ?_
   refine wai rfl rfl ?_
   refine TL.nil (nt ?_)
   exact ⟨rfl, ⟨k + 1, (oa, oc)⟩, (by dsimp only; omega), (by dsimp only; omega), ⟨rfl, rfl, congrArg (fun n => Value.slice _ n _) (by dsimp only; rw [hsn]), rfl, trivial⟩, (ent_takeE 0 rfl (by dsimp only; rw [hsn]) (ent_take 0 rfl (ent_take 0 rfl (ent_take 0 rfl (ent_take 0 rfl (ent_nil _))))))⟩
 ·obtain rfl : k = r.S.length := by omega
  rw [List.take_length]
  refine TC.exit (et (et (eb (nt ?_))))
  refine TC.region ?_
  refine wmp rfl rfl ?_
  refine wms rfl rfl ?_
  refine wnc rfl rfl ?_
  refine wfa 1 rfl rfl rfl ?_
  refine e0 ?_
  refine st (v := .slice _ _ _) (vs := [_]) 1 rfl rfl rfl rfl rfl rfl (Nat.le_of_ble_eq_true rfl) rfl ?_
  refine TL.nil ?_
  exact Ret.n () [] trivial rfl trivial (ent_close (⟨(a1, c1), (oa, oc)⟩ : (Option Addr × Nat) × (Option Addr × Nat)) trivial (ent_take 0 rfl (ent_take 1 rfl (ent_take 0 rfl (ent_take 1 rfl (ent_nil _))))))
set_option maxRecDepth 4000 in
theorem rrow_ok (b : LC) (r : Rf) (hd : r.D.length ≤ 1000) (hs : r.S.length ≤ 100000) (to : Int) : FSpec Tryz.prog 35 [.pointer (some ⟨b.n, 5, none⟩), .int .i64 to] (fun F => ent F (isRm b r)) [] (fun y : Option Addr × Nat => .slice y.1 (rowF r.S to).length y.2) (fun _ => True) (fun y => [slc 26 3 y.1 (rowF r.S to).length y.2 (ofsC (rowF r.S to))]) := by
 refine FSpec.intro (rs := [.tmp 4]) (by kernel_rfl) Tryz.func35 rfl Tryz.ntmps35 (by rfl) rfl ?_
 intro F hF
 change TC _ _ _ _ _ _ _ (sepL [_])
 refine TC.openR hF (fun x0 hx0 => ?_)
 obtain ⟨⟨a1, c1⟩, ⟨a2, c2⟩⟩ := x0
 clear hx0
 dsimp only
 have hil := thsC_length r
 have hsl := snsC_length r.S
 refine TC.seq ?_
 refine TC.region ?_
 refine was rfl rfl ?_
 refine TL.nil (nt ?_)
 refine TC.seq ?_
 refine TC.region ?_
 refine was rfl rfl ?_
 refine TL.nil (nt ?_)
 refine TC.seq ?_
 refine TC.seq ?_
 refine TC.region ?_
 refine wai rfl rfl ?_
 refine TL.nil (nt ?_)
 refine TC.block ?_
 refine TC.loop (ι := Nat × (Option Addr × Nat)) (fun s => s.1 ≤ r.S.length) (fun s => [(0, .pointer (some ⟨b.n, 5, none⟩)), (1, .int .i64 to), (5, .slice s.2.1 (rowF (r.S.take s.1) to).length s.2.2), (6, .int .i64 ((s.1 : Nat) : Int))]) (fun s => sepL [slc 26 3 s.2.1 (rowF (r.S.take s.1) to).length s.2.2 (ofsC (rowF (r.S.take s.1) to)), restr F (sepL [pts b.n 60 [b.x0, b.x1, b.x2, b.x3, b.x4, .slice a1 r.D.length c1, .slice a2 r.S.length c2, b.x7], slc 115 3 a1 r.D.length c1 (thsC r), slc 117 4 a2 r.S.length c2 (snsC r.S)])]) (fun s => r.S.length - s.1) ⟨0, (none, 0)⟩ (Nat.zero_le _) ⟨rfl, rfl, rfl, rfl, trivial⟩ ((slc_nil 26 3 _).trans (ent_take 0 rfl (ent_take 0 rfl (ent_nil _)))) ?_
 rintro ⟨k, ⟨oa, oc⟩⟩ hk ρ0
 dsimp only [updL] at hk ⊢
 refine TC.seq ?_
 refine TC.seq ?_
 refine TC.region ?_
 refine wmi rfl rfl ?_
 refine wmp rfl rfl ?_
 refine wnc rfl rfl ?_
 refine wfa 1 rfl rfl rfl ?_
 refine wld rfl rfl rfl rfl ?_
 refine q rfl rfl (len 117 4 rfl rfl) ?_
 refine q rfl rfl (lss rfl rfl) ?_
 refine TL.nil (nt ?_)
 refine TC.condD rfl (fun hlt => ?_) (fun hlt => ?_)
 ·have hlt2 : k < r.S.length := by omega
  obtain ⟨u, hu⟩ : ∃ u, r.S[k]? = some u := ⟨r.S[k], List.getElem?_eq_getElem hlt2⟩
  have hpos : 0 < (snsC r.S).length := by omega
  have hsn := rowF_snoc hu to
  have hfl := rowF_len (r.S.take k) to
  have htl : (r.S.take k).length ≤ k := by rw [List.length_take]; omega
  have hfi := ofsC_length (rowF (r.S.take k) to)
  refine TC.skip (nt ?_)
  refine TC.seq ?_
  refine TC.block ?_
  refine TC.seq ?_
  refine TC.region ?_
  refine wmp rfl rfl ?_
  refine wnc rfl rfl ?_
  refine wfa 1 rfl rfl rfl ?_
  refine wld rfl rfl rfl rfl ?_
  refine wmi rfl rfl ?_
  refine q rfl rfl (ixS 117 4 rfl rfl rfl (by omega) (by assumption)) ?_
  refine q rfl rfl (faS 0 rfl rfl (by assumption)) ?_
  refine q rfl rfl (ldS rfl rfl (flat_ld snC_sz hu 0 (by omega) rfl)) ?_
  refine wmi rfl rfl ?_
  refine q rfl rfl (eqI rfl rfl) ?_
  refine TL.nil (nt ?_)
  refine TC.condD rfl (fun hto => ?_) (fun hto => ?_)
  ·rw [if_pos hto] at hsn
   refine TC.region ?_
   refine wms rfl rfl ?_
   refine wmp rfl rfl ?_
   refine wnc rfl rfl ?_
   refine wfa 1 rfl rfl rfl ?_
   refine wld rfl rfl rfl rfl ?_
   refine wmi rfl rfl ?_
   refine q rfl rfl (ixS 117 4 rfl rfl rfl (by omega) (by assumption)) ?_
   refine q rfl rfl (faS 1 rfl rfl (by assumption)) ?_
   refine q rfl rfl (ldSN (vs := [_, _, _]) 3 rfl rfl (flat_ldN snC_sz hu 1 3 (by omega) (by omega) (show _ = ofC u.o from rfl)) rfl (by decide)) ?_
   refine e rfl ?_
   refine bs (cs := [.int _ _, .int _ _, .bool _]) rfl ?_
   intro b2
   refine e rfl ?_
   refine ap 24 rfl rfl rfl rfl rfl (Nat.le_of_ble_eq_true rfl) (show _ = ofsC [u.o] from rfl) rfl (by omega) (by simp only [maxLen]; omega) ?_
   intro ad2 cap2
   refine was rfl rfl ?_
   refine TL.nil (nb (nt ?_))
   refine TC.region ?_
   refine wmi rfl rfl ?_
   refine q rfl rfl (addI rfl rfl (by omega) (by omega)) ?_
   refine wai rfl rfl ?_
   refine TL.nil (nt ?_)
   exact ⟨rfl, ⟨k + 1, (ad2, cap2)⟩, (by dsimp only; omega), (by dsimp only; omega), ⟨rfl, rfl, congrArg (fun n => Value.slice _ n _) (by dsimp only; rw [hsn, List.length_append]; rfl), rfl, trivial⟩, (ent_takeE 0 rfl (by dsimp only; rw [hsn, List.length_append, ofs_app]; rfl) (ent_take 1 rfl (ent_nil _)))⟩
  ·rw [if_neg hto, List.append_nil] at hsn
   refine TC.skip (nb (nt ?_))
   refine TC.region ?_
   refine wmi rfl rfl ?_
   refine q rfl rfl (addI rfl rfl (by omega) (by omega)) ?_
   refine wai rfl rfl ?_
   refine TL.nil (nt ?_)
   exact ⟨rfl, ⟨k + 1, (oa, oc)⟩, (by dsimp only; omega), (by dsimp only; omega), ⟨rfl, rfl, congrArg (fun n => Value.slice _ n _) (by dsimp only; rw [hsn]), rfl, trivial⟩, (ent_takeE 0 rfl (by dsimp only; rw [hsn]) (ent_take 0 rfl (ent_nil _)))⟩
 ·obtain rfl : k = r.S.length := by omega
  rw [List.take_length]
  refine TC.exit (et (et (eb (nt ?_))))
  refine TC.seq ?_
  refine TC.region ?_
  refine wms rfl rfl ?_
  refine was rfl rfl ?_
  refine TL.nil (nt ?_)
  refine TC.ret ?_
  exact Ret.i ⟨oa, oc⟩ [_] ⟨rfl, trivial⟩ rfl trivial (ent_take 0 rfl (ent_takeF 0 rfl (ent_nil _)))
end Go.Proofs.YtdfmfhcjnjfjbaaGreat
namespace Go.Proofs.YtdfmfhcjnjfjbaaGreat
open Go Go.QM
theorem take_fresh {b : List Int} (h : b.Nodup) {i : Nat} {x : Int} (hx : b[i]? = some x) : x ∉ b.take i := fun h2 => by
  obtain ⟨j, hj⟩ := List.getElem?_of_mem h2
  rw [List.getElem?_take] at hj
  split at hj
  · obtain ⟨a1, b1⟩ := List.getElem?_eq_some_iff.1 hj
    obtain ⟨a2, b2⟩ := List.getElem?_eq_some_iff.1 hx
    exact (List.pairwise_iff_getElem.1 h) j i a1 a2 (by omega) (by rw [b1, b2])
  · cases hj
def openF (r : Rf) (id : Int) : Rf × Int := if id ∉ r.D then (r, 6) else if r.st id ≠ 0 ∨ 0 < (rowF r.S id).length then (r, 12) else (setF r id 2, 0)
def addF (r : Rf) (u : Sn) : Rf := { r with S := r.S ++ [u] }
def offerF (r : Rf) (to : Int) (o : Off) : Rf × Int :=
 if to ∉ r.D ∨ o.fr ∉ r.D then (r, 6) else if o.fr = to then (r, 1) else if r.st o.fr ≠ 0 then (r, 12) else (addF (setF r o.fr 1) ⟨to, o⟩, 0)
def takeF (r : Rf) (to : Int) : Rf × Off × Int × Int :=
 if to ∉ r.D then (r, o0, 0, 6) else if r.st to ≠ 0 ∧ r.st to ≠ 2 then (r, o0, 0, 12) else
 match rowF r.S to with
 | [] => (r, o0, 0, 6)
 | o :: _ => if o.cl = true then (setF (setC (setF (setF (setF (offF r o.fr) to 0) o.fr 0) (r.cl to) 0) to o.fr) o.fr 3, o, r.cl to, 0) else (setF (setF (offF r o.fr) to 0) o.fr 0, o, -1, 0)
def answerF (r : Rf) (id : Int) : Rf × Int × Int :=
 if id ∉ r.D then (r, 0, 6) else if r.st id ≠ 0 then (r, 0, 12) else if r.cl id < 0 then (r, 0, 6) else (setF (setC r id (-1)) (r.cl id) 0, r.cl id, 0)
def clrF (r : Rf) (id : Int) (E : List Int) : Rf := { r with cl := fun x => if x ∈ E ∧ r.cl x = id then -1 else r.cl x }
def callF (r : Rf) (id : Int) : Rf × Int :=
 if id ∉ r.D then (r, 6) else if r.st id = 0 then (r, 12) else (setF (clrF (offF r id) id r.D) id 0, 0)
def goF (r : Rf) (x : Int) : Rf := setF (offF r x) x 0
def outF (r : Rf) (id : Int) : List Int := (rowF r.S id).map (·.fr) ++ if 0 ≤ clF r id then [clF r id] else []
def dropF (r : Rf) (id : Int) : Rf := { r with D := r.D.filter fun y => decide (y ≠ id) }
def leaveF (r : Rf) (id : Int) : Rf × List Int × Int :=
 if id ∉ r.D then (r, [], 6) else (dropF ((outF (callF r id).1 id).foldl goF (callF r id).1) id, outF (callF r id).1 id, 0)
def thrF (r : Rf) (g : Int) (D : List Int) : List Int := D.flatMap fun x => goneO (rowF r.S x) (thru g)
def closeF (r : Rf) (g : Int) : Rf × List Int := ((thrF r g r.D).foldl goF r, thrF r g r.D)
theorem goF_D (r : Rf) (x : Int) : (goF r x).D = r.D ∧ (goF r x).S.length ≤ r.S.length := ⟨rfl, List.length_filter_le _ _⟩
theorem fold_D : ∀ (l : List Int) (r : Rf), (l.foldl goF r).D = r.D ∧ (l.foldl goF r).S.length ≤ r.S.length
 | [], _ => ⟨rfl, Nat.le_refl _⟩
 | x :: l, r => by
  obtain ⟨h1, h2⟩ := fold_D l (goF r x)
  obtain ⟨h3, h4⟩ := goF_D r x
  rw [List.foldl_cons]; exact ⟨h1.trans h3, Nat.le_trans h2 h4⟩
theorem call_D (r : Rf) (id : Int) : (callF r id).1.D = r.D ∧ (callF r id).1.S.length ≤ r.S.length := by
 rw [callF]; split
 ·exact ⟨rfl, Nat.le_refl _⟩
 ·split
  ·exact ⟨rfl, Nat.le_refl _⟩
  ·exact ⟨rfl, List.length_filter_le _ _⟩
theorem fold_snoc {l : List Int} {k : Nat} {x : Int} (h : l[k]? = some x) (r : Rf) : (l.take (k + 1)).foldl goF r = goF ((l.take k).foldl goF r) x := by
 rw [List.take_add_one, h, Option.toList, List.foldl_append]; rfl
theorem thrF_snoc {r : Rf} {g : Int} {D : List Int} {k : Nat} {x : Int} (hx : D[k]? = some x) : thrF r g (D.take (k + 1)) = thrF r g (D.take k) ++ goneO (rowF r.S x) (thru g) := by
 rw [thrF, thrF, List.take_add_one, hx, Option.toList, List.flatMap_append, List.flatMap_cons, List.flatMap_nil, List.append_nil]
theorem thrF_len {r : Rf} {g : Int} {b : Nat} : ∀ {D : List Int}, (∀ x ∈ D, (rowF r.S x).length ≤ b) → (thrF r g D).length ≤ b * D.length
 | [], _ => Nat.zero_le _
 | x :: D, h => by
  have h1 := thrF_len (g := g) (D := D) fun y hy => h y (by simp [hy])
  have h2 := h x (by simp)
  have h3 := gone_len (rowF r.S x) (thru g)
  have e : thrF r g (x :: D) = goneO (rowF r.S x) (thru g) ++ thrF r g D := by rw [thrF, thrF, List.flatMap_cons]
  rw [e, List.length_append, List.length_cons, Nat.mul_add]; omega
theorem clr_next {r : Rf} {id : Int} {D : List Int} (hn : D.Nodup) {k : Nat} {x : Int} (hx : D[k]? = some x) : (clrF r id (D.take k)).cl x = r.cl x ∧ (r.cl x = id → clrF r id (D.take (k + 1)) = setC (clrF r id (D.take k)) x (-1)) ∧ (r.cl x ≠ id → clrF r id (D.take (k + 1)) = clrF r id (D.take k)) := by
 have hm : x ∉ D.take k := take_fresh hn hx
 have ht : ∀ y, y ∈ D.take (k + 1) ↔ y ∈ D.take k ∨ y = x := fun y => by rw [List.take_add_one, hx]; simp
 refine ⟨if_neg (fun h => hm h.1), fun h => ?_, fun h => ?_⟩
 ·simp only [clrF, setC, Rf.mk.injEq, true_and, and_true]
  funext y
  by_cases e2 : y = x
  ·rw [e2, updI_same, if_pos ⟨(ht x).2 (.inr rfl), h⟩]
  ·rw [updI_ne e2]
   by_cases h3 : y ∈ D.take k ∧ r.cl y = id
   ·rw [if_pos h3, if_pos ⟨(ht y).2 (.inl h3.1), h3.2⟩]
   ·rw [if_neg h3, if_neg (fun h4 => h3 ⟨((ht y).1 h4.1).resolve_right e2, h4.2⟩)]
 ·simp only [clrF, Rf.mk.injEq, true_and, and_true]
  funext y
  by_cases h3 : y ∈ D.take k ∧ r.cl y = id
  ·rw [if_pos h3, if_pos ⟨(ht y).2 (.inl h3.1), h3.2⟩]
  ·rw [if_neg h3, if_neg]
   rintro ⟨h4, h5⟩
   rcases (ht y).1 h4 with h6 | h6
   ·exact h3 ⟨h6, h5⟩
   ·rw [h6] at h5; exact h h5
theorem ths_cl {r : Rf} (hn : r.D.Nodup) {i : Nat} {id : Int} (hi : r.D[i]? = some id) {o : Nat} (ho : o = i * 3 + 2) (v : Int) : splice o [.int .i64 v] (thsC r) = thsC (setC r id v) :=
 ths_set (r' := setC r id v) hn rfl hi ho (by rw [thC, thC]; dsimp only [setC]; rw [updI_same]; rfl) (by decide) (fun x _ hx => by rw [thC, thC]; dsimp only [setC]; rw [updI_ne hx])
set_option maxRecDepth 4000 in
theorem ropen_ok (b : LC) (r : Rf) (hd : r.D.length ≤ 1000) (hs : r.S.length ≤ 100000) (hn : r.D.Nodup) (id : Int) : FSpec Tryz.prog 118 [.pointer (some ⟨b.n, 5, none⟩), .int .i64 id] noRd [isRm b r] (fun _ : Unit => .int .i64 (openF r id).2) (fun _ => True) (fun _ => [isRm b (openF r id).1]) := by
 refine FSpec.intro (rs := [.tmp 4]) (by kernel_rfl) Tryz.func118 rfl Tryz.ntmps118 (by rfl) rfl ?_
 intro F _
 change TC _ _ _ _ _ _ _ (sepL [_, _])
 refine TC.seq ?_
 refine TC.region ?_
 refine wai rfl rfl ?_
 refine TL.nil (nt ?_)
 refine TC.seq ?_
 refine TC.seq ?_
 refine TC.region ?_
 refine wmp rfl rfl ?_
 refine wmi rfl rfl ?_
 refine e rfl ?_
 refine cl (rat_ok b r hd hs id) rfl (picked_nil _) (ent_one 0 rfl) ?_
 intro _ _
 change TL _ _ _ _ _ _ _ _ (sepL [_, _])
 by_cases hy : id ∈ r.D
 ·obtain ⟨i, h1, h2⟩ := atD_yes hy
  rw [h1]
  have hh : ¬ id ∉ r.D := fun h => h hy
  have hst : stF r id = r.st id := if_pos hy
  refine q rfl rfl (lss rfl rfl) ?_
  refine TL.nil (nt ?_)
  refine TC.condD rfl (fun hc2 => absurd hc2 (by omega)) (fun hc2 => ?_)
  refine TC.skip (nt ?_)
  refine TC.seq ?_
  refine TC.seq ?_
  refine TC.region ?_
  refine wmp rfl rfl ?_
  refine wmi rfl rfl ?_
  refine e rfl ?_
  refine cl (rstate_ok b r hd hs id) rfl (picked_nil _) (ent_one 0 rfl) ?_
  intro _ _
  change TL _ _ _ _ _ _ _ _ (sepL [_, _])
  rw [hst]
  refine q rfl rfl (neI rfl rfl) ?_
  refine wmb rfl rfl ?_
  refine TL.split 13 rfl (fun h0 => ?_) (fun h0 => ?_)
  ·have h0 := of_decide_eq_true h0
   rw [show openF r id = (r, 12) from by rw [openF, if_neg hh, if_pos (.inl h0)]]
   refine qs rfl rfl ?_
   refine qs rfl rfl ?_
   refine qs rfl rfl ?_
   refine qs rfl rfl ?_
   refine qs rfl rfl ?_
   refine q rfl rfl (pkT (v := .bool _) rfl rfl) ?_
   refine TL.nil (nt ?_)
   refine TC.condT rfl ?_
   refine TC.seq ?_
   refine TC.region ?_
   refine wai rfl rfl ?_
   refine TL.nil (nt ?_)
   refine TC.ret (rt ?_)
   exact Ret.i () [_] ⟨rfl, trivial⟩ rfl trivial (ent_take 0 rfl (ent_take 0 rfl (ent_nil _)))
  ·have h0 := of_decide_eq_false h0
   refine qg rfl rfl rfl (mv (v := .pointer _) rfl) ?_
   refine qg rfl rfl rfl (mv (v := .int _ _) rfl) ?_
   refine eg rfl rfl ?_
   refine cl (rrow_ok b r hd hs id) rfl (picked_nil _) (ent_one 0 rfl) ?_
   intro yr _
   change TL _ _ _ _ _ _ _ _ (sepL [_, _, _])
   refine qg rfl rfl rfl (len 26 3 rfl rfl) ?_
   refine qg rfl rfl rfl (gtr rfl rfl) ?_
   refine q rfl rfl (pkF (v := .bool _) rfl rfl) ?_
   refine TL.nil (nt ?_)
   refine TC.condD rfl (fun hr => ?_) (fun hr => ?_)
   ·rw [show openF r id = (r, 12) from by rw [openF, if_neg hh, if_pos (.inr (by omega))]]
    refine TC.seq ?_
    refine TC.region ?_
    refine wai rfl rfl ?_
    refine TL.nil (nt ?_)
    refine TC.ret (rt ?_)
    exact Ret.i () [_] ⟨rfl, trivial⟩ rfl trivial (ent_take 1 rfl (ent_take 1 rfl (ent_nil _)))
   ·rw [show openF r id = (setF r id 2, 0) from by rw [openF, if_neg hh, if_neg (fun h => h.elim (fun h => h0 h) (fun h => hr (by omega)))]]
    refine TC.skip (nt ?_)
    refine TC.seq ?_
    refine TC.region ?_
    refine wmp rfl rfl ?_
    refine wmi rfl rfl ?_
    refine e rfl ?_
    refine cl (rset_ok b r hd hs hn id 2) rfl PkL.p trivial ?_
    intro _ _
    change TL _ _ _ _ _ _ _ _ (sepL [_, _, _])
    refine TL.nil (nt ?_)
    refine TC.seq ?_
    refine TC.region ?_
    refine wai rfl rfl ?_
    refine TL.nil (nt ?_)
    refine TC.ret ?_
    exact Ret.i () [_] ⟨rfl, trivial⟩ rfl trivial (ent_take 0 rfl (ent_take 1 rfl (ent_nil _)))
 ·rw [atD_no hy, show openF r id = (r, 6) from if_pos hy]
  refine q rfl rfl (lss rfl rfl) ?_
  refine TL.nil (nt ?_)
  refine TC.condD rfl (fun hc1 => ?_) (fun hc1 => absurd (by decide) hc1)
  refine TC.seq ?_
  refine TC.region ?_
  refine wai rfl rfl ?_
  refine TL.nil (nt ?_)
  refine TC.ret (rt ?_)
  exact Ret.i () [_] ⟨rfl, trivial⟩ rfl trivial (ent_take 0 rfl (ent_take 0 rfl (ent_nil _)))
set_option maxRecDepth 4000 in
set_option maxHeartbeats 2000000 in
theorem roffer_ok (b : LC) (r : Rf) (hd : r.D.length ≤ 1000) (hs : r.S.length ≤ 100000) (hn : r.D.Nodup) (to : Int) (o : Off) : FSpec Tryz.prog 117 [.pointer (some ⟨b.n, 5, none⟩), .int .i64 to, .agg (ofC o).toArray] noRd [isRm b r] (fun _ : Unit => .int .i64 (offerF r to o).2) (fun _ => True) (fun _ => [isRm b (offerF r to o).1]) := by
 refine FSpec.intro (rs := [.tmp 6]) (by kernel_rfl) Tryz.func117 rfl Tryz.ntmps117 (by rfl) rfl ?_
 intro F _
 change TC _ _ _ _ _ _ _ (sepL [_, _])
 refine TC.seq ?_
 refine TC.region ?_
 refine e rfl ?_
 refine bx (v := .agg #[_, _, _]) (l := [.int _ _, .int _ _, .bool _]) rfl rfl ?_
 intro b1
 refine wai rfl rfl ?_
 refine TL.nil (nt ?_)
 refine TC.seq ?_
 refine TC.seq ?_
 refine TC.region ?_
 refine wmp rfl rfl ?_
 refine wmi rfl rfl ?_
 refine e rfl ?_
 refine cl (rat_ok b r hd hs to) rfl (picked_nil _) (ent_one 1 rfl) ?_
 intro _ _
 change TL _ _ _ _ _ _ _ _ (sepL [_, _, _])
 by_cases ht : to ∈ r.D
 ·obtain ⟨i, h1, _⟩ := atD_yes ht
  rw [h1]
  refine q rfl rfl (lss rfl rfl) ?_
  refine wmb rfl rfl ?_
  refine TL.known 11 rfl (c := false) (decide_eq_false (by omega)) ?_
  refine qg rfl rfl rfl (mv (v := .pointer _) rfl) ?_
  refine qg rfl rfl rfl (fa 0 rfl rfl) ?_
  refine qg rfl rfl rfl (ld rfl rfl rfl) ?_
  refine eg rfl rfl ?_
  refine cl (rat_ok b r hd hs o.fr) rfl (picked_nil _) (ent_one 1 rfl) ?_
  intro _ _
  change TL _ _ _ _ _ _ _ _ (sepL [_, _, _])
  by_cases hf : o.fr ∈ r.D
  ·obtain ⟨j, h3, _⟩ := atD_yes hf
   rw [h3]
   have hh : ¬ (to ∉ r.D ∨ o.fr ∉ r.D) := fun h => h.elim (fun h => h ht) (fun h => h hf)
   have hst : stF r o.fr = r.st o.fr := if_pos hf
   refine qg rfl rfl rfl (lss rfl rfl) ?_
   refine q rfl rfl (pkF (v := .bool _) rfl rfl) ?_
   refine TL.nil (nt ?_)
   refine TC.condD rfl (fun hc4 => absurd hc4 (by omega)) (fun hc4 => ?_)
   refine TC.skip (nt ?_)
   refine TC.seq ?_
   refine TC.seq ?_
   refine TC.region ?_
   refine wfa 0 rfl rfl rfl ?_
   refine wld rfl rfl rfl rfl ?_
   refine wmi rfl rfl ?_
   refine q rfl rfl (eqI rfl rfl) ?_
   refine TL.nil (nt ?_)
   refine TC.condD rfl (fun he => ?_) (fun he => ?_)
   ·rw [show offerF r to o = (r, 1) from by rw [offerF, if_neg hh, if_pos he]]
    refine TC.seq ?_
    refine TC.region ?_
    refine wai rfl rfl ?_
    refine TL.nil (nt ?_)
    refine TC.ret (rt ?_)
    exact Ret.i () [_] ⟨rfl, trivial⟩ rfl trivial (ent_take 1 rfl (ent_take 1 rfl (ent_nil _)))
   ·refine TC.skip (nt ?_)
    refine TC.seq ?_
    refine TC.seq ?_
    refine TC.region ?_
    refine wmp rfl rfl ?_
    refine wfa 0 rfl rfl rfl ?_
    refine wld rfl rfl rfl rfl ?_
    refine e rfl ?_
    refine cl (rstate_ok b r hd hs o.fr) rfl (picked_nil _) (ent_one 1 rfl) ?_
    intro _ _
    change TL _ _ _ _ _ _ _ _ (sepL [_, _, _])
    rw [hst]
    refine q rfl rfl (neI rfl rfl) ?_
    refine TL.nil (nt ?_)
    refine TC.condD rfl (fun h0 => ?_) (fun h0 => ?_)
    ·rw [show offerF r to o = (r, 12) from by rw [offerF, if_neg hh, if_neg he, if_pos h0]]
     refine TC.seq ?_
     refine TC.region ?_
     refine wai rfl rfl ?_
     refine TL.nil (nt ?_)
     refine TC.ret (rt ?_)
     exact Ret.i () [_] ⟨rfl, trivial⟩ rfl trivial (ent_take 1 rfl (ent_take 1 rfl (ent_nil _)))
    ·rw [show offerF r to o = (addF (setF r o.fr 1) ⟨to, o⟩, 0) from by rw [offerF, if_neg hh, if_neg he, if_neg h0]]
     refine TC.skip (nt ?_)
     refine TC.seq ?_
     refine TC.region ?_
     refine wmp rfl rfl ?_
     refine wfa 0 rfl rfl rfl ?_
     refine wld rfl rfl rfl rfl ?_
     refine e rfl ?_
     refine cl (rset_ok b r hd hs hn o.fr 1) rfl PkL.p trivial ?_
     intro _ _
     change TL _ _ _ _ _ _ _ _ (sepL [_, _, _])
     refine TL.nil (nt ?_)
     refine TC.seq ?_
     refine TC.open 0 rfl (fun x0 hx0 => ?_)
     obtain ⟨⟨a1, c1⟩, ⟨a2, c2⟩⟩ := x0
     clear hx0
     change TC _ _ _ _ _ _ _ (sepL [_, _, _, _, _])
     dsimp only
     have hil := thsC_length (setF r o.fr 1)
     have hsl := snsC_length (setF r o.fr 1).S
     have hs2 : (setF r o.fr 1).S.length ≤ 100000 := hs
     refine TC.drawF _ [14] 15 rfl (by kernel_rfl) (by kernel_rfl) (ent_take 0 rfl (ent_take 2 rfl (ent_nil _))) ?_
     refine fq (i := 0) rfl rfl rfl (by kernel_rfl) (mv (v := .pointer _) rfl) ?_
     refine fq (i := 2) rfl rfl rfl (by kernel_rfl) (mv (v := .pointer _) rfl) ?_
     refine fq (i := 3) rfl rfl rfl (by kernel_rfl) (nc rfl) ?_
     refine fq (i := 4) rfl rfl rfl (by kernel_rfl) (fa 1 rfl rfl) ?_
     refine fq (i := 5) rfl rfl rfl (by kernel_rfl) (ld rfl rfl rfl) ?_
     refine fq (i := 7) rfl rfl rfl (by kernel_rfl) (mv (v := .int _ _) rfl) ?_
     refine fq (i := 8) rfl rfl rfl (by kernel_rfl) (ldN (vs := [_, _, _]) 3 rfl rfl rfl rfl) ?_
     refine fq (i := 9) rfl rfl rfl (by kernel_rfl) (bld (cs := [.int _ _, .int _ _, .int _ _, .bool _]) rfl) ?_
     refine ff (i := 1) (j := 10) rfl rfl rfl rfl (by kernel_rfl) ?_ ?_
     ·refine bs (cs := []) rfl ?_
      intro b2
      refine ⟨(ent_take 1 rfl (ent_take 3 rfl (ent_nil _))), ?_⟩
      refine ff (i := 6) (j := 10) rfl rfl rfl rfl (by kernel_rfl) ?_ ?_
      ·refine ap 32 rfl rfl rfl rfl rfl (by omega) (sns_all (setF r o.fr 1).S) (sns_one _) (by omega) (by simp only [maxLen]; omega) ?_
       intro ad1 cap1
       refine ⟨(ent_take 1 rfl (ent_take 3 rfl (ent_nil _))), ?_⟩
       refine TF.of [(10, true), (11, true), (12, false), (13, false), (14, true)] (by kernel_rfl) rfl ?_
       refine de rfl rfl ?_
       refine bs (cs := [.int _ _, .int _ _, .int _ _, .bool _]) rfl ?_
       intro b3
       refine ⟨(ent_take 2 rfl (ent_take 4 rfl (ent_nil _))), ?_⟩
       refine de rfl rfl ?_
       refine ap 32 rfl rfl rfl rfl rfl (Nat.le_of_ble_eq_true rfl) (show _ = snsC [⟨to, o⟩] from rfl) rfl (by omega) (by simp only [maxLen]; omega) ?_
       intro ad2 cap2
       refine ⟨(ent_take 2 rfl (ent_take 4 rfl (ent_nil _))), ?_⟩
       refine vnc rfl rfl rfl ?_
       refine vfa 1 rfl rfl rfl rfl ?_
       refine dl0 rfl rfl rfl ?_
       refine st (v := .slice _ _ _) (vs := [_]) 1 rfl rfl rfl rfl rfl rfl (Nat.le_of_ble_eq_true rfl) rfl ?_
       refine TD.nil (nt ?_)
       refine TC.seq ?_
       refine TC.region ?_
       refine wai rfl rfl ?_
       refine TL.nil (nt ?_)
       refine TC.ret ?_
       exact Ret.i () [_] ⟨rfl, trivial⟩ rfl trivial (ent_close (⟨(a1, c1), (ad2, cap2)⟩ : (Option Addr × Nat) × (Option Addr × Nat)) trivial (ent_takeE 0 rfl (by simp only [addF, List.length_append, Nat.zero_add, List.length_singleton]; rfl) (by first | exact (ent_take 1 rfl (ent_takeE 0 rfl (by simp only [addF, List.length_append, Nat.zero_add, List.length_singleton, List.nil_append, sns_app]) (by repeat (first | exact ent_nil _ | refine ent_take 0 rfl ?_ | refine ent_take 1 rfl ?_ | refine ent_take 2 rfl ?_ | refine ent_take 3 rfl ?_ | refine ent_take 4 rfl ?_ | refine ent_take 5 rfl ?_ | refine ent_take 6 rfl ?_ | refine ent_take 7 rfl ?_ | refine ent_take 8 rfl ?_ | refine ent_take 9 rfl ?_ | refine ent_take 10 rfl ?_ | refine ent_take 11 rfl ?_ | refine ent_take 12 rfl ?_)))) | exact (ent_take 2 rfl (ent_takeE 0 rfl (by simp only [addF, List.length_append, Nat.zero_add, List.length_singleton, List.nil_append, sns_app]) (ent_take 3 rfl (ent_nil _)))) | exact (ent_take 3 rfl (ent_takeE 0 rfl (by simp only [addF, List.length_append, Nat.zero_add, List.length_singleton, List.nil_append, sns_app]) (by repeat (first | exact ent_nil _ | refine ent_take 0 rfl ?_ | refine ent_take 1 rfl ?_ | refine ent_take 2 rfl ?_ | refine ent_take 3 rfl ?_ | refine ent_take 4 rfl ?_ | refine ent_take 5 rfl ?_ | refine ent_take 6 rfl ?_ | refine ent_take 7 rfl ?_ | refine ent_take 8 rfl ?_ | refine ent_take 9 rfl ?_ | refine ent_take 10 rfl ?_ | refine ent_take 11 rfl ?_ | refine ent_take 12 rfl ?_)))))))
      ·refine bs (cs := [.int _ _, .int _ _, .int _ _, .bool _]) rfl ?_
       intro b4
       refine ⟨(ent_take 2 rfl (ent_take 4 rfl (ent_nil _))), ?_⟩
       refine TF.of [(6, true), (11, true), (12, false), (13, false), (14, true)] (by kernel_rfl) rfl ?_
       refine de rfl rfl ?_
       refine ap 32 rfl rfl rfl rfl rfl (by omega) (sns_all (setF r o.fr 1).S) (sns_one _) (by omega) (by simp only [maxLen]; omega) ?_
       intro ad3 cap3
       refine ⟨(ent_take 2 rfl (ent_take 4 rfl (ent_nil _))), ?_⟩
       refine de rfl rfl ?_
       refine ap 32 rfl rfl rfl rfl rfl (Nat.le_of_ble_eq_true rfl) (show _ = snsC [⟨to, o⟩] from rfl) rfl (by omega) (by simp only [maxLen]; omega) ?_
       intro ad4 cap4
       refine ⟨(ent_take 2 rfl (ent_take 4 rfl (ent_nil _))), ?_⟩
       refine vnc rfl rfl rfl ?_
       refine vfa 1 rfl rfl rfl rfl ?_
       refine dl0 rfl rfl rfl ?_
       refine st (v := .slice _ _ _) (vs := [_]) 1 rfl rfl rfl rfl rfl rfl (Nat.le_of_ble_eq_true rfl) rfl ?_
       refine TD.nil (nt ?_)
       refine TC.seq ?_
       refine TC.region ?_
       refine wai rfl rfl ?_
       refine TL.nil (nt ?_)
       refine TC.ret ?_
       exact Ret.i () [_] ⟨rfl, trivial⟩ rfl trivial (ent_close (⟨(a1, c1), (ad4, cap4)⟩ : (Option Addr × Nat) × (Option Addr × Nat)) trivial (ent_takeE 0 rfl (by simp only [addF, List.length_append, Nat.zero_add, List.length_singleton]; rfl) (by first | exact (ent_take 1 rfl (ent_takeE 0 rfl (by simp only [addF, List.length_append, Nat.zero_add, List.length_singleton, List.nil_append, sns_app]) (by repeat (first | exact ent_nil _ | refine ent_take 0 rfl ?_ | refine ent_take 1 rfl ?_ | refine ent_take 2 rfl ?_ | refine ent_take 3 rfl ?_ | refine ent_take 4 rfl ?_ | refine ent_take 5 rfl ?_ | refine ent_take 6 rfl ?_ | refine ent_take 7 rfl ?_ | refine ent_take 8 rfl ?_ | refine ent_take 9 rfl ?_ | refine ent_take 10 rfl ?_ | refine ent_take 11 rfl ?_ | refine ent_take 12 rfl ?_)))) | exact (ent_take 2 rfl (ent_takeE 0 rfl (by simp only [addF, List.length_append, Nat.zero_add, List.length_singleton, List.nil_append, sns_app]) (ent_take 3 rfl (ent_nil _)))) | exact (ent_take 3 rfl (ent_takeE 0 rfl (by simp only [addF, List.length_append, Nat.zero_add, List.length_singleton, List.nil_append, sns_app]) (by repeat (first | exact ent_nil _ | refine ent_take 0 rfl ?_ | refine ent_take 1 rfl ?_ | refine ent_take 2 rfl ?_ | refine ent_take 3 rfl ?_ | refine ent_take 4 rfl ?_ | refine ent_take 5 rfl ?_ | refine ent_take 6 rfl ?_ | refine ent_take 7 rfl ?_ | refine ent_take 8 rfl ?_ | refine ent_take 9 rfl ?_ | refine ent_take 10 rfl ?_ | refine ent_take 11 rfl ?_ | refine ent_take 12 rfl ?_)))))))
     ·refine bs (cs := [.int _ _, .int _ _, .int _ _, .bool _]) rfl ?_
      intro b5
      refine ⟨(ent_take 1 rfl (ent_take 3 rfl (ent_nil _))), ?_⟩
      refine TF.of [(1, true), (6, true), (11, true), (12, false), (13, false), (14, true)] (by kernel_rfl) rfl ?_
      refine de rfl rfl ?_
      refine bs (cs := []) rfl ?_
      intro b6
      refine ⟨(ent_take 2 rfl (ent_take 4 rfl (ent_nil _))), ?_⟩
      refine de rfl rfl ?_
      refine ap 32 rfl rfl rfl rfl rfl (by omega) (sns_all (setF r o.fr 1).S) (sns_one _) (by omega) (by simp only [maxLen]; omega) ?_
      intro ad5 cap5
      refine ⟨(ent_take 2 rfl (ent_take 4 rfl (ent_nil _))), ?_⟩
      refine de rfl rfl ?_
      refine ap 32 rfl rfl rfl rfl rfl (Nat.le_of_ble_eq_true rfl) (show _ = snsC [⟨to, o⟩] from rfl) rfl (by omega) (by simp only [maxLen]; omega) ?_
      intro ad6 cap6
      refine ⟨(ent_take 2 rfl (ent_take 4 rfl (ent_nil _))), ?_⟩
      refine vnc rfl rfl rfl ?_
      refine vfa 1 rfl rfl rfl rfl ?_
      refine dl0 rfl rfl rfl ?_
      refine st (v := .slice _ _ _) (vs := [_]) 1 rfl rfl rfl rfl rfl rfl (Nat.le_of_ble_eq_true rfl) rfl ?_
      refine TD.nil (nt ?_)
      refine TC.seq ?_
      refine TC.region ?_
      refine wai rfl rfl ?_
      refine TL.nil (nt ?_)
      refine TC.ret ?_
      exact Ret.i () [_] ⟨rfl, trivial⟩ rfl trivial (ent_close (⟨(a1, c1), (ad6, cap6)⟩ : (Option Addr × Nat) × (Option Addr × Nat)) trivial (ent_takeE 0 rfl (by simp only [addF, List.length_append, Nat.zero_add, List.length_singleton]; rfl) (by first | exact (ent_take 1 rfl (ent_takeE 0 rfl (by simp only [addF, List.length_append, Nat.zero_add, List.length_singleton, List.nil_append, sns_app]) (by repeat (first | exact ent_nil _ | refine ent_take 0 rfl ?_ | refine ent_take 1 rfl ?_ | refine ent_take 2 rfl ?_ | refine ent_take 3 rfl ?_ | refine ent_take 4 rfl ?_ | refine ent_take 5 rfl ?_ | refine ent_take 6 rfl ?_ | refine ent_take 7 rfl ?_ | refine ent_take 8 rfl ?_ | refine ent_take 9 rfl ?_ | refine ent_take 10 rfl ?_ | refine ent_take 11 rfl ?_ | refine ent_take 12 rfl ?_)))) | exact (ent_take 2 rfl (ent_takeE 0 rfl (by simp only [addF, List.length_append, Nat.zero_add, List.length_singleton, List.nil_append, sns_app]) (ent_take 3 rfl (ent_nil _)))) | exact (ent_take 3 rfl (ent_takeE 0 rfl (by simp only [addF, List.length_append, Nat.zero_add, List.length_singleton, List.nil_append, sns_app]) (by repeat (first | exact ent_nil _ | refine ent_take 0 rfl ?_ | refine ent_take 1 rfl ?_ | refine ent_take 2 rfl ?_ | refine ent_take 3 rfl ?_ | refine ent_take 4 rfl ?_ | refine ent_take 5 rfl ?_ | refine ent_take 6 rfl ?_ | refine ent_take 7 rfl ?_ | refine ent_take 8 rfl ?_ | refine ent_take 9 rfl ?_ | refine ent_take 10 rfl ?_ | refine ent_take 11 rfl ?_ | refine ent_take 12 rfl ?_)))))))
  ·rw [atD_no hf, show offerF r to o = (r, 6) from if_pos (.inr hf)]
   refine qg rfl rfl rfl (lss rfl rfl) ?_
   refine q rfl rfl (pkF (v := .bool _) rfl rfl) ?_
   refine TL.nil (nt ?_)
   refine TC.condD rfl (fun hc3 => ?_) (fun hc3 => absurd (by decide) hc3)
   refine TC.seq ?_
   refine TC.region ?_
   refine wai rfl rfl ?_
   refine TL.nil (nt ?_)
   refine TC.ret (rt ?_)
   exact Ret.i () [_] ⟨rfl, trivial⟩ rfl trivial (ent_take 1 rfl (ent_take 1 rfl (ent_nil _)))
 ·rw [atD_no ht, show offerF r to o = (r, 6) from if_pos (.inl ht)]
  refine q rfl rfl (lss rfl rfl) ?_
  refine wmb rfl rfl ?_
  refine TL.known 11 rfl (c := true) (by decide) ?_
  refine qs rfl rfl ?_
  refine qs rfl rfl ?_
  refine qs rfl rfl ?_
  refine qs rfl rfl ?_
  refine qs rfl rfl ?_
  refine q rfl rfl (pkT (v := .bool _) rfl rfl) ?_
  refine TL.nil (nt ?_)
  refine TC.condT rfl ?_
  refine TC.seq ?_
  refine TC.region ?_
  refine wai rfl rfl ?_
  refine TL.nil (nt ?_)
  refine TC.ret (rt ?_)
  exact Ret.i () [_] ⟨rfl, trivial⟩ rfl trivial (ent_take 1 rfl (ent_take 1 rfl (ent_nil _)))
end Go.Proofs.YtdfmfhcjnjfjbaaGreat
namespace Go.Proofs.YtdfmfhcjnjfjbaaGreat
open Go Go.QM
set_option maxRecDepth 4000 in
set_option maxHeartbeats 1000000 in
theorem ranswer_ok (b : LC) (r : Rf) (hd : r.D.length ≤ 1000) (hs : r.S.length ≤ 100000) (hn : r.D.Nodup) (id : Int) : FSpec Tryz.prog 120 [.pointer (some ⟨b.n, 5, none⟩), .int .i64 id] noRd [isRm b r] (fun _ : Unit => .tuple #[.int .i64 (answerF r id).2.1, .int .i64 (answerF r id).2.2]) (fun _ => True) (fun _ => [isRm b (answerF r id).1]) := by
 refine FSpec.intro (rs := [.tmp 4, .tmp 5]) (by kernel_rfl) Tryz.func120 rfl Tryz.ntmps120 (by rfl) rfl ?_
 intro F _
 change TC _ _ _ _ _ _ _ (sepL [_, _])
 refine TC.seq ?_
 refine TC.region ?_
 refine wai rfl rfl ?_
 refine wai rfl rfl ?_
 refine TL.nil (nt ?_)
 refine TC.seq ?_
 refine TC.region ?_
 refine wmp rfl rfl ?_
 refine wmi rfl rfl ?_
 refine e rfl ?_
 refine cl (rat_ok b r hd hs id) rfl (picked_nil _) (ent_one 0 rfl) ?_
 intro _ _
 change TL _ _ _ _ _ _ _ _ (sepL [_, _])
 by_cases hy : id ∈ r.D
 ·obtain ⟨i, h1, h2⟩ := atD_yes hy
  rw [h1]
  have hi := (List.getElem?_eq_some_iff.1 h2).1
  have hh : ¬ id ∉ r.D := fun h => h hy
  refine wai rfl rfl ?_
  refine TL.nil (nt ?_)
  refine TC.seq ?_
  refine TC.seq ?_
  refine TC.region ?_
  refine wmi rfl rfl ?_
  refine q rfl rfl (lss rfl rfl) ?_
  refine TL.nil (nt ?_)
  refine TC.condD rfl (fun hc2 => absurd hc2 (by omega)) (fun hc2 => ?_)
  refine TC.skip (nt ?_)
  refine TC.seq ?_
  refine TC.seq ?_
  refine TC.open 0 rfl (fun x0 hx0 => ?_)
  obtain ⟨⟨a1, c1⟩, ⟨a2, c2⟩⟩ := x0
  clear hx0
  change TC _ _ _ _ _ _ _ (sepL [_, _, _, _])
  dsimp only
  have hil := thsC_length r
  have hsl := snsC_length r.S
  have hpos : 0 < (thsC r).length := by omega
  refine TC.region ?_
  refine wmp rfl rfl ?_
  refine wnc rfl rfl ?_
  refine wfa 0 rfl rfl rfl ?_
  refine wld rfl rfl rfl rfl ?_
  refine wmi rfl rfl ?_
  refine q rfl rfl (ixS 115 3 rfl rfl rfl (by omega) (by assumption)) ?_
  refine q rfl rfl (faS 1 rfl rfl (by assumption)) ?_
  refine q rfl rfl (ldS rfl rfl (flat_ld (thC_sz r) h2 1 (by omega) rfl)) ?_
  refine q rfl rfl (neI rfl rfl) ?_
  refine TL.nil (nt ?_)
  refine TC.condD rfl (fun h0 => ?_) (fun h0 => ?_)
  ·rw [show answerF r id = (r, 0, 12) from by rw [answerF, if_neg hh, if_pos h0]]
   refine TC.seq ?_
   refine TC.region ?_
   refine wai rfl rfl ?_
   refine wai rfl rfl ?_
   refine TL.nil (nt ?_)
   refine TC.ret (rt ?_)
   exact Ret.i () [_, _] ⟨rfl, rfl, trivial⟩ rfl trivial (ent_close (⟨(a1, c1), (a2, c2)⟩ : (Option Addr × Nat) × (Option Addr × Nat)) trivial (ent_take 0 rfl (ent_take 0 rfl (ent_take 0 rfl (ent_take 0 rfl (ent_nil _))))))
  ·refine TC.skip (nt ?_)
   refine TC.seq ?_
   refine TC.region ?_
   refine wmp rfl rfl ?_
   refine wnc rfl rfl ?_
   refine wfa 0 rfl rfl rfl ?_
   refine wld rfl rfl rfl rfl ?_
   refine wmi rfl rfl ?_
   refine q rfl rfl (ixS 115 3 rfl rfl rfl (by omega) (by assumption)) ?_
   refine q rfl rfl (faS 2 rfl rfl (by assumption)) ?_
   refine q rfl rfl (ldS rfl rfl (flat_ld (thC_sz r) h2 2 (by omega) rfl)) ?_
   refine wai rfl rfl ?_
   refine TL.nil (nt ?_)
   refine TC.seq ?_
   refine TC.seq ?_
   refine TC.region ?_
   refine wmi rfl rfl ?_
   refine q rfl rfl (lss rfl rfl) ?_
   refine TL.nil (nt ?_)
   refine TC.condD rfl (fun hc => ?_) (fun hc => ?_)
   ·rw [show answerF r id = (r, 0, 6) from by rw [answerF, if_neg hh, if_neg h0, if_pos hc]]
    refine TC.seq ?_
    refine TC.region ?_
    refine wai rfl rfl ?_
    refine wai rfl rfl ?_
    refine TL.nil (nt ?_)
    refine TC.ret (rt ?_)
    exact Ret.i () [_, _] ⟨rfl, rfl, trivial⟩ rfl trivial (ent_close (⟨(a1, c1), (a2, c2)⟩ : (Option Addr × Nat) × (Option Addr × Nat)) trivial (ent_take 0 rfl (ent_take 0 rfl (ent_take 0 rfl (ent_take 0 rfl (ent_nil _))))))
   ·rw [show answerF r id = (setF (setC r id (-1)) (r.cl id) 0, r.cl id, 0) from by rw [answerF, if_neg hh, if_neg h0, if_neg hc]]
    dsimp only
    refine TC.skip (nt ?_)
    refine TC.seq ?_
    refine TC.region ?_
    refine wmp rfl rfl ?_
    refine wnc rfl rfl ?_
    refine wfa 0 rfl rfl rfl ?_
    refine wld rfl rfl rfl rfl ?_
    refine wmi rfl rfl ?_
    refine q rfl rfl (ixS 115 3 rfl rfl rfl (by omega) (by assumption)) ?_
    refine q rfl rfl (faS 2 rfl rfl (by assumption)) ?_
    refine e0 ?_
    refine QM.stS (v := .int _ _) (vs := [_]) 1 rfl rfl rfl rfl rfl rfl (by decide) (by omega) (ths_cl hn h2 (by omega) _) ?_
    refine TL.nil (nt ?_)
    refine TC.seq ?_
    refine TC.weak (B := sepL [isRm b (setC r id (-1)), F]) (ent_close (⟨(a1, c1), (a2, c2)⟩ : (Option Addr × Nat) × (Option Addr × Nat)) trivial (ent_take 1 rfl (ent_take 0 rfl (ent_take 0 rfl (ent_take 0 rfl (ent_nil _)))))) ?_
    refine TC.region ?_
    refine wmp rfl rfl ?_
    refine wmi rfl rfl ?_
    refine e rfl ?_
    refine cl (rset_ok b (setC r id (-1)) hd hs hn (r.cl id) 0) rfl PkL.p trivial ?_
    intro _ _
    change TL _ _ _ _ _ _ _ _ (sepL [_, _])
    refine TL.nil (nt ?_)
    refine TC.seq ?_
    refine TC.region ?_
    refine wmi rfl rfl ?_
    refine wai rfl rfl ?_
    refine wai rfl rfl ?_
    refine TL.nil (nt ?_)
    refine TC.ret ?_
    exact Ret.i () [_, _] ⟨rfl, rfl, trivial⟩ rfl trivial (ent_take 0 rfl (ent_take 0 rfl (ent_nil _)))
 ·rw [atD_no hy, show answerF r id = (r, 0, 6) from if_pos hy]
  refine wai rfl rfl ?_
  refine TL.nil (nt ?_)
  refine TC.seq ?_
  refine TC.seq ?_
  refine TC.region ?_
  refine wmi rfl rfl ?_
  refine q rfl rfl (lss rfl rfl) ?_
  refine TL.nil (nt ?_)
  refine TC.condD rfl (fun hc1 => ?_) (fun hc1 => absurd (by decide) hc1)
  refine TC.seq ?_
  refine TC.region ?_
  refine wai rfl rfl ?_
  refine wai rfl rfl ?_
  refine TL.nil (nt ?_)
  refine TC.ret (rt ?_)
  exact Ret.i () [_, _] ⟨rfl, rfl, trivial⟩ rfl trivial (ent_take 0 rfl (ent_take 0 rfl (ent_nil _)))
set_option maxRecDepth 4000 in
set_option maxHeartbeats 1000000 in
theorem rcall_ok (b : LC) (r : Rf) (hd : r.D.length ≤ 1000) (hs : r.S.length ≤ 100000) (hn : r.D.Nodup) (id : Int) : FSpec Tryz.prog 111 [.pointer (some ⟨b.n, 5, none⟩), .int .i64 id] noRd [isRm b r] (fun _ : Unit => .int .i64 (callF r id).2) (fun _ => True) (fun _ => [isRm b (callF r id).1]) := by
 refine FSpec.intro (rs := [.tmp 4]) (by kernel_rfl) Tryz.func111 rfl Tryz.ntmps111 (by rfl) rfl ?_
 intro F _
 change TC _ _ _ _ _ _ _ (sepL [_, _])
 refine TC.seq ?_
 refine TC.region ?_
 refine wai rfl rfl ?_
 refine TL.nil (nt ?_)
 refine TC.seq ?_
 refine TC.seq ?_
 refine TC.region ?_
 refine wmp rfl rfl ?_
 refine wmi rfl rfl ?_
 refine e rfl ?_
 refine cl (rat_ok b r hd hs id) rfl (picked_nil _) (ent_one 0 rfl) ?_
 intro _ _
 change TL _ _ _ _ _ _ _ _ (sepL [_, _])
 by_cases hy : id ∈ r.D
 ·obtain ⟨i, h1, h2⟩ := atD_yes hy
  rw [h1]
  have hh : ¬ id ∉ r.D := fun h => h hy
  have hst : stF r id = r.st id := if_pos hy
  refine q rfl rfl (lss rfl rfl) ?_
  refine TL.nil (nt ?_)
  refine TC.condD rfl (fun hc4 => absurd hc4 (by omega)) (fun hc4 => ?_)
  refine TC.skip (nt ?_)
  refine TC.seq ?_
  refine TC.seq ?_
  refine TC.region ?_
  refine wmp rfl rfl ?_
  refine wmi rfl rfl ?_
  refine e rfl ?_
  refine cl (rstate_ok b r hd hs id) rfl (picked_nil _) (ent_one 0 rfl) ?_
  intro _ _
  change TL _ _ _ _ _ _ _ _ (sepL [_, _])
  rw [hst]
  refine q rfl rfl (eqI rfl rfl) ?_
  refine TL.nil (nt ?_)
  refine TC.condD rfl (fun h0 => ?_) (fun h0 => ?_)
  ·rw [show callF r id = (r, 12) from by rw [callF, if_neg hh, if_pos h0]]
   refine TC.seq ?_
   refine TC.region ?_
   refine wai rfl rfl ?_
   refine TL.nil (nt ?_)
   refine TC.ret (rt ?_)
   exact Ret.i () [_] ⟨rfl, trivial⟩ rfl trivial (ent_take 0 rfl (ent_take 0 rfl (ent_nil _)))
  ·rw [show callF r id = (setF (clrF (offF r id) id r.D) id 0, 0) from by rw [callF, if_neg hh, if_neg h0]]
   dsimp only
   refine TC.skip (nt ?_)
   refine TC.seq ?_
   refine TC.region ?_
   refine wmp rfl rfl ?_
   refine wmi rfl rfl ?_
   refine e rfl ?_
   refine cl (roff_ok b r hd hs id) rfl PkL.p trivial ?_
   intro _ _
   change TL _ _ _ _ _ _ _ _ (sepL [_, _])
   have hso : (offF r id).S.length ≤ 100000 := Nat.le_trans (List.length_filter_le _ _) hs
   clear h1 h2
   refine TL.nil (nt ?_)
   refine TC.seq ?_
   refine TC.seq ?_
   refine TC.region ?_
   refine wai rfl rfl ?_
   refine TL.nil (nt ?_)
   refine TC.block ?_
   refine TC.loop (ι := Nat) (fun k => k ≤ r.D.length) (fun k => [(0, .pointer (some ⟨b.n, 5, none⟩)), (1, .int .i64 id), (5, .int .i64 ((k : Nat) : Int))]) (fun k => sepL [isRm b (clrF (offF r id) id (r.D.take k)), F]) (fun k => r.D.length - k) 0 (Nat.zero_le _) ⟨rfl, rfl, rfl, trivial⟩ (ent_takeE 0 rfl (by rw [show clrF (offF r id) id (r.D.take 0) = offF r id from by simp [clrF]]) (ent_take 0 rfl (ent_nil _))) ?_
   rintro k hk ρ0
   dsimp only [updL] at hk ⊢
   refine TC.open 0 rfl (fun x0 hx0 => ?_)
   obtain ⟨⟨a1, c1⟩, ⟨a2, c2⟩⟩ := x0
   clear hx0
   change TC _ _ _ _ _ _ _ (sepL [_, _, _, _])
   dsimp only
   have hil := thsC_length (clrF (offF r id) id (r.D.take k))
   have hsl := snsC_length (clrF (offF r id) id (r.D.take k)).S
   have hRD : (clrF (offF r id) id (r.D.take k)).D.length = r.D.length := rfl
   refine TC.seq ?_
   refine TC.seq ?_
   refine TC.region ?_
   refine wmi rfl rfl ?_
   refine wmp rfl rfl ?_
   refine wnc rfl rfl ?_
   refine wfa 0 rfl rfl rfl ?_
   refine wld rfl rfl rfl rfl ?_
   refine q rfl rfl (len 115 3 rfl rfl) ?_
   refine q rfl rfl (lss rfl rfl) ?_
   refine TL.nil (nt ?_)
   refine TC.condD rfl (fun hlt => ?_) (fun hlt => ?_)
   ·have hlt2 : k < r.D.length := by omega
    obtain ⟨x, hx⟩ : ∃ x, r.D[k]? = some x := ⟨r.D[k], List.getElem?_eq_getElem hlt2⟩
    have hpos : 0 < (thsC (clrF (offF r id) id (r.D.take k))).length := by omega
    obtain ⟨hc1, hc2, hc3⟩ := clr_next (r := offF r id) (id := id) hn hx
    have hc0 : (offF r id).cl x = r.cl x := rfl
    have hld : (thC (clrF (offF r id) id (r.D.take k)) x)[2]? = some (.int .i64 (r.cl x)) := by rw [thC, hc1, hc0]; rfl
    refine TC.skip (nt ?_)
    refine TC.seq ?_
    refine TC.block ?_
    refine TC.seq ?_
    refine TC.region ?_
    refine wmp rfl rfl ?_
    refine wnc rfl rfl ?_
    refine wfa 0 rfl rfl rfl ?_
    refine wld rfl rfl rfl rfl ?_
    refine wmi rfl rfl ?_
    refine q rfl rfl (ixS 115 3 rfl rfl rfl (by omega) (by assumption)) ?_
    refine q rfl rfl (faS 2 rfl rfl (by assumption)) ?_
    refine q rfl rfl (ldS rfl rfl (flat_ld (thC_sz (clrF (offF r id) id (r.D.take k))) (xs := r.D) hx 2 (by omega) hld)) ?_
    refine wmi rfl rfl ?_
    refine q rfl rfl (eqI rfl rfl) ?_
    refine TL.nil (nt ?_)
    refine TC.condD rfl (fun he => ?_) (fun he => ?_)
    ·have hnx := hc2 he
     have hst := fun o ho => ths_cl (r := (clrF (offF r id) id (r.D.take k))) hn (o := o) hx ho (-1)
     rw [← hnx] at hst
     refine TC.region ?_
     refine wmp rfl rfl ?_
     refine wnc rfl rfl ?_
     refine wfa 0 rfl rfl rfl ?_
     refine wld rfl rfl rfl rfl ?_
     refine wmi rfl rfl ?_
     refine q rfl rfl (ixS 115 3 rfl rfl rfl (by omega) (by assumption)) ?_
     refine q rfl rfl (faS 2 rfl rfl (by assumption)) ?_
     refine e0 ?_
     refine QM.stS (v := .int _ _) (vs := [_]) 1 rfl rfl rfl rfl rfl rfl (by decide) (by omega) (hst _ (by omega)) ?_
     refine TL.nil (nb (nt ?_))
     refine TC.region ?_
     refine wmi rfl rfl ?_
     refine q rfl rfl (addI rfl rfl (by omega) (by omega)) ?_
     refine wai rfl rfl ?_
     refine TL.nil (nt ?_)
     exact ⟨rfl, (k + 1), (by omega), (by omega), ⟨rfl, rfl, rfl, trivial⟩, (ent_close (⟨(a1, c1), (a2, c2)⟩ : (Option Addr × Nat) × (Option Addr × Nat)) trivial (ent_take 1 rfl (ent_take 0 rfl (ent_take 0 rfl (ent_take 0 rfl (ent_nil _))))))⟩
    ·have hnx := hc3 he
     refine TC.skip (nb (nt ?_))
     refine TC.region ?_
     refine wmi rfl rfl ?_
     refine q rfl rfl (addI rfl rfl (by omega) (by omega)) ?_
     refine wai rfl rfl ?_
     refine TL.nil (nt ?_)
     exact ⟨rfl, (k + 1), (by omega), (by omega), ⟨rfl, rfl, rfl, trivial⟩, (by rw [hnx]; exact (ent_close (⟨(a1, c1), (a2, c2)⟩ : (Option Addr × Nat) × (Option Addr × Nat)) trivial (ent_take 0 rfl (ent_take 0 rfl (ent_take 0 rfl (ent_take 0 rfl (ent_nil _)))))))⟩
   ·obtain rfl : k = r.D.length := by omega
    refine TC.weak (B := sepL [isRm b (clrF (offF r id) id (r.D.take r.D.length)), F]) (ent_close (⟨(a1, c1), (a2, c2)⟩ : (Option Addr × Nat) × (Option Addr × Nat)) trivial (ent_take 0 rfl (ent_take 0 rfl (ent_take 0 rfl (ent_take 0 rfl (ent_nil _)))))) ?_
    rw [List.take_length]
    refine TC.exit (et (et (eb (nt ?_))))
    refine TC.seq ?_
    refine TC.region ?_
    refine wmp rfl rfl ?_
    refine wmi rfl rfl ?_
    refine e rfl ?_
    refine cl (rset_ok b (clrF (offF r id) id r.D) hd hso hn id 0) rfl PkL.p trivial ?_
    intro _ _
    change TL _ _ _ _ _ _ _ _ (sepL [_, _])
    refine TL.nil (nt ?_)
    refine TC.seq ?_
    refine TC.region ?_
    refine wai rfl rfl ?_
    refine TL.nil (nt ?_)
    refine TC.ret ?_
    exact Ret.i () [_] ⟨rfl, trivial⟩ rfl trivial (ent_take 0 rfl (ent_take 0 rfl (ent_nil _)))
 ·rw [atD_no hy, show callF r id = (r, 6) from if_pos hy]
  refine q rfl rfl (lss rfl rfl) ?_
  refine TL.nil (nt ?_)
  refine TC.condD rfl (fun hc3 => ?_) (fun hc3 => absurd (by decide) hc3)
  refine TC.seq ?_
  refine TC.region ?_
  refine wai rfl rfl ?_
  refine TL.nil (nt ?_)
  refine TC.ret (rt ?_)
  exact Ret.i () [_] ⟨rfl, trivial⟩ rfl trivial (ent_take 0 rfl (ent_take 0 rfl (ent_nil _)))
set_option maxRecDepth 4000 in
set_option maxHeartbeats 2000000 in
theorem rtake_ok (b : LC) (r : Rf) (hd : r.D.length ≤ 1000) (hs : r.S.length ≤ 100000) (hn : r.D.Nodup) (to : Int) : FSpec Tryz.prog 119 [.pointer (some ⟨b.n, 5, none⟩), .int .i64 to] noRd [isRm b r] (fun _ : Unit => .tuple #[.agg (ofC (takeF r to).2.1).toArray, .int .i64 (takeF r to).2.2.1, .int .i64 (takeF r to).2.2.2]) (fun _ => True) (fun _ => [isRm b (takeF r to).1]) := by
 refine FSpec.intro (rs := [.cell 4 26, .tmp 5, .tmp 6]) (by kernel_rfl) Tryz.func119 rfl Tryz.ntmps119 (by rfl) rfl ?_
 intro F _
 change TC _ _ _ _ _ _ _ (sepL [_, _])
 refine TC.seq ?_
 refine TC.region ?_
 refine e rfl ?_
 refine al (l := [.int _ _, .int _ _, .bool _]) rfl rfl ?_
 intro b1
 refine wai rfl rfl ?_
 refine wai rfl rfl ?_
 refine TL.nil (nt ?_)
 refine TC.seq ?_
 refine TC.region ?_
 refine wmp rfl rfl ?_
 refine wmi rfl rfl ?_
 refine e rfl ?_
 refine cl (rat_ok b r hd hs to) rfl (picked_nil _) (ent_one 1 rfl) ?_
 intro _ _
 change TL _ _ _ _ _ _ _ _ (sepL [_, _, _])
 by_cases ht : to ∈ r.D
 ·obtain ⟨i, h1, h2⟩ := atD_yes ht
  rw [h1]
  have hi := (List.getElem?_eq_some_iff.1 h2).1
  have hh : ¬ to ∉ r.D := fun h => h ht
  refine wai rfl rfl ?_
  refine TL.nil (nt ?_)
  refine TC.seq ?_
  refine TC.seq ?_
  refine TC.region ?_
  refine wmi rfl rfl ?_
  refine q rfl rfl (lss rfl rfl) ?_
  refine TL.nil (nt ?_)
  refine TC.condD rfl (fun hc6 => absurd hc6 (by omega)) (fun hc6 => ?_)
  refine TC.skip (nt ?_)
  refine TC.seq ?_
  refine TC.seq ?_
  refine TC.open 1 rfl (fun x0 hx0 => ?_)
  obtain ⟨⟨a1, c1⟩, ⟨a2, c2⟩⟩ := x0
  clear hx0
  change TC _ _ _ _ _ _ _ (sepL [_, _, _, _, _])
  dsimp only
  have hil := thsC_length r
  have hsl := snsC_length r.S
  have hpos : 0 < (thsC r).length := by omega
  refine TC.region ?_
  refine wmp rfl rfl ?_
  refine wnc rfl rfl ?_
  refine wfa 0 rfl rfl rfl ?_
  refine wld rfl rfl rfl rfl ?_
  refine wmi rfl rfl ?_
  refine q rfl rfl (ixS 115 3 rfl rfl rfl (by omega) (by assumption)) ?_
  refine q rfl rfl (faS 1 rfl rfl (by assumption)) ?_
  refine q rfl rfl (ldS rfl rfl (flat_ld (thC_sz r) h2 1 (by omega) rfl)) ?_
  refine q rfl rfl (neI rfl rfl) ?_
  refine wmb rfl rfl ?_
  refine TL.split 26 rfl (fun hs0 => ?_) (fun hs0 => ?_)
  ·have hs0 := of_decide_eq_true hs0
   refine qg rfl rfl rfl (mv (v := .pointer _) rfl) ?_
   refine qg rfl rfl rfl (nc rfl) ?_
   refine qg rfl rfl rfl (fa 0 rfl rfl) ?_
   refine qg rfl rfl rfl (ld rfl rfl rfl) ?_
   refine qg rfl rfl rfl (mv (v := .int _ _) rfl) ?_
   refine qg rfl rfl rfl (ixS 115 3 rfl rfl rfl (by omega) (by assumption)) ?_
   refine qg rfl rfl rfl (faS 1 rfl rfl (by assumption)) ?_
   refine qg rfl rfl rfl (ldS rfl rfl (flat_ld (thC_sz r) h2 1 (by omega) rfl)) ?_
   refine qg rfl rfl rfl (neI rfl rfl) ?_
   refine q rfl rfl (pkT (v := .bool _) rfl rfl) ?_
   refine TL.nil (nt ?_)
   refine TC.condD rfl (fun hs2 => ?_) (fun hs2 => ?_)
   ·rw [show takeF r to = (r, o0, 0, 12) from by rw [takeF, if_neg hh, if_pos ⟨hs0, hs2⟩]]
    refine TC.seq ?_
    refine TC.region ?_
    refine q rfl rfl (bld (cs := [.int _ _, .int _ _, .bool _]) rfl) ?_
    refine e0 ?_
    refine st (v := .agg #[_, _, _]) (vs := [_, _, _]) 3 rfl rfl rfl rfl rfl rfl (Nat.le_of_ble_eq_true rfl) rfl ?_
    refine wai rfl rfl ?_
    refine wai rfl rfl ?_
    refine TL.nil (nt ?_)
    refine TC.ret (rt ?_)
    exact Ret.i () [_, _, _] ⟨(rcN (n := 3) rfl rfl rfl rfl), rfl, rfl, trivial⟩ rfl trivial (ent_close (⟨(a1, c1), (a2, c2)⟩ : (Option Addr × Nat) × (Option Addr × Nat)) trivial (ent_take 1 rfl (ent_take 1 rfl (ent_take 1 rfl (ent_take 1 rfl (ent_nil _))))))
   ·have hs3 : ¬ (r.st to ≠ 0 ∧ r.st to ≠ 2) := fun h => hs2 h.2
    refine TC.weak (B := sepL [isRm b r, pts b1 26 (ofC o0), F]) (ent_close (⟨(a1, c1), (a2, c2)⟩ : (Option Addr × Nat) × (Option Addr × Nat)) trivial (ent_take 0 rfl (ent_take 0 rfl (ent_take 0 rfl (ent_take 0 rfl (ent_take 0 rfl (ent_nil _))))))) ?_
    refine TC.skip (nt ?_)
    refine TC.seq ?_
    refine TC.region ?_
    refine wmp rfl rfl ?_
    refine wmi rfl rfl ?_
    refine e rfl ?_
    refine cl (rrow_ok b r hd hs to) rfl (picked_nil _) (ent_one 0 rfl) ?_
    intro yr _
    change TL _ _ _ _ _ _ _ _ (sepL [_, _, _, _])
    rcases row_cases (rowF r.S to) with hr | ⟨o, rw0, hr⟩
    ·rw [show takeF r to = (r, o0, 0, 6) from by rw [takeF, if_neg hh, if_neg hs3, hr], hr]
     refine was rfl rfl ?_
     refine TL.nil (nt ?_)
     refine TC.seq ?_
     refine TC.seq ?_
     refine TC.region ?_
     refine wms rfl rfl ?_
     refine q rfl rfl (len 26 3 rfl rfl) ?_
     refine q rfl rfl (eqI rfl rfl) ?_
     refine TL.nil (nt ?_)
     refine TC.condD rfl (fun hc7 => ?_) (fun hc7 => absurd (by simp) hc7)
     refine TC.seq ?_
     refine TC.region ?_
     refine q rfl rfl (bld (cs := [.int _ _, .int _ _, .bool _]) rfl) ?_
     refine e0 ?_
     refine st (v := .agg #[_, _, _]) (vs := [_, _, _]) 3 rfl rfl rfl rfl rfl rfl (Nat.le_of_ble_eq_true rfl) rfl ?_
     refine wai rfl rfl ?_
     refine wai rfl rfl ?_
     refine TL.nil (nt ?_)
     refine TC.ret (rt ?_)
     exact Ret.i () [_, _, _] ⟨(rcN (n := 3) rfl rfl rfl rfl), rfl, rfl, trivial⟩ rfl trivial (ent_take 2 rfl (ent_take 2 rfl (ent_nil _)))
    ·have hlc : (rowF r.S to).length = rw0.length + 1 := by rw [hr, List.length_cons]
     have hol := ofsC_length (rowF r.S to)
     have hpos2 : 0 < (ofsC (rowF r.S to)).length := by omega
     have hso : (offF r o.fr).S.length ≤ 100000 := Nat.le_trans (List.length_filter_le _ _) hs
     refine was rfl rfl ?_
     refine TL.nil (nt ?_)
     refine TC.seq ?_
     refine TC.seq ?_
     refine TC.region ?_
     refine wms rfl rfl ?_
     refine q rfl rfl (len 26 3 rfl rfl) ?_
     refine q rfl rfl (eqI rfl rfl) ?_
     refine TL.nil (nt ?_)
     refine TC.condD rfl (fun hc8 => absurd hc8 (by omega)) (fun hc8 => ?_)
     refine TC.skip (nt ?_)
     refine TC.seq ?_
     refine TC.region ?_
     refine wms rfl rfl ?_
     refine q rfl rfl (ixJ 26 3 rfl rfl rfl (by omega) (by omega) (by assumption)) ?_
     refine q rfl rfl (ldSN (vs := [_, _, _]) 3 rfl rfl (show _ = ofC o from by rw [hr]; rfl) rfl (by decide)) ?_
     refine e rfl ?_
     refine al (l := [.int _ _, .int _ _, .bool _]) rfl rfl ?_
     intro b2
     refine e0 ?_
     refine st (v := .agg #[_, _, _]) (vs := [_, _, _]) 3 rfl rfl rfl rfl rfl rfl (Nat.le_of_ble_eq_true rfl) rfl ?_
     refine TL.nil (nt ?_)
     refine TC.seq ?_
     refine TC.region ?_
     refine wmp rfl rfl ?_
     refine wfa 0 rfl rfl rfl ?_
     refine wld rfl rfl rfl rfl ?_
     refine e rfl ?_
     refine cl (roff_ok b r hd hs o.fr) rfl PkL.p trivial ?_
     intro _ _
     change TL _ _ _ _ _ _ _ _ (sepL [_, _, _, _, _])
     refine TL.nil (nt ?_)
     refine TC.seq ?_
     refine TC.region ?_
     refine wmp rfl rfl ?_
     refine wmi rfl rfl ?_
     refine e rfl ?_
     refine cl (rset_ok b (offF r o.fr) hd hso hn to 0) rfl PkL.p trivial ?_
     intro _ _
     change TL _ _ _ _ _ _ _ _ (sepL [_, _, _, _, _])
     refine TL.nil (nt ?_)
     refine TC.seq ?_
     refine TC.region ?_
     refine wmp rfl rfl ?_
     refine wfa 0 rfl rfl rfl ?_
     refine wld rfl rfl rfl rfl ?_
     refine e rfl ?_
     refine cl (rset_ok b (setF (offF r o.fr) to 0) hd hso hn o.fr 0) rfl PkL.p trivial ?_
     intro _ _
     change TL _ _ _ _ _ _ _ _ (sepL [_, _, _, _, _])
     refine TL.nil (nt ?_)
     refine TC.seq ?_
     refine TC.seq ?_
     refine TC.region ?_
     refine wfa 2 rfl rfl rfl ?_
     refine wld rfl rfl rfl rfl ?_
     cases hcl : o.cl with
     | false => ?_
     | true => ?_
     ·rw [show takeF r to = ((setF (setF (offF r o.fr) to 0) o.fr 0), o, -1, 0) from by rw [takeF, if_neg hh, if_neg hs3, hr]; dsimp only; rw [hcl]; rfl]
      dsimp only
      refine q rfl rfl (notB rfl) ?_
      refine TL.nil (nt ?_)
      refine TC.condT rfl ?_
      refine TC.seq ?_
      refine TC.region ?_
      refine q rfl rfl (ldN (vs := [_, _, _]) 3 rfl rfl rfl rfl) ?_
      refine e0 ?_
      refine st (v := .agg #[_, _, _]) (vs := [_, _, _]) 3 rfl rfl rfl rfl rfl rfl (Nat.le_of_ble_eq_true rfl) rfl ?_
      refine wai rfl rfl ?_
      refine wai rfl rfl ?_
      refine TL.nil (nt ?_)
      refine TC.ret (rt ?_)
      exact Ret.i () [_, _, _] ⟨(rcN (n := 3) rfl rfl rfl rfl), rfl, rfl, trivial⟩ (by rw [show ofC o = [.int .i64 o.fr, .int .i64 o.gt, .bool false] from by rw [ofC, hcl]]; rfl) trivial (ent_take 1 rfl (ent_take 3 rfl (ent_nil _)))
     ·rw [show takeF r to = (setF (setC (setF (setF (setF (offF r o.fr) to 0) o.fr 0) (r.cl to) 0) to o.fr) o.fr 3, o, r.cl to, 0) from by rw [takeF, if_neg hh, if_neg hs3, hr]; dsimp only; rw [hcl]; rfl]
      dsimp only
      refine q rfl rfl (notB rfl) ?_
      refine TL.nil (nt ?_)
      refine TC.condF rfl ?_
      refine TC.skip (nt ?_)
      refine TC.seq ?_
      refine TC.open 0 rfl (fun x0 hx0 => ?_)
      obtain ⟨⟨a1, c1⟩, ⟨a2, c2⟩⟩ := x0
      clear hx0
      change TC _ _ _ _ _ _ _ (sepL [_, _, _, _, _, _, _])
      dsimp only
      have hil := thsC_length (setF (setF (offF r o.fr) to 0) o.fr 0)
      have hsl := snsC_length (setF (setF (offF r o.fr) to 0) o.fr 0).S
      have hRD : (setF (setF (offF r o.fr) to 0) o.fr 0).D.length = r.D.length := rfl
      have hpos3 : 0 < (thsC (setF (setF (offF r o.fr) to 0) o.fr 0)).length := by omega
      refine TC.region ?_
      refine wmp rfl rfl ?_
      refine wnc rfl rfl ?_
      refine wfa 0 rfl rfl rfl ?_
      refine wld rfl rfl rfl rfl ?_
      refine wmi rfl rfl ?_
      refine q rfl rfl (ixS 115 3 rfl rfl rfl (by omega) (by assumption)) ?_
      refine q rfl rfl (faS 2 rfl rfl (by assumption)) ?_
      refine q rfl rfl (ldS rfl rfl (flat_ld (thC_sz (setF (setF (offF r o.fr) to 0) o.fr 0)) (xs := r.D) h2 2 (by omega) rfl)) ?_
      refine wai rfl rfl ?_
      refine TL.nil (nt ?_)
      refine TC.seq ?_
      refine TC.weak (B := sepL [isRm b (setF (setF (offF r o.fr) to 0) o.fr 0), pts b2 26 [.int .i64 o.fr, .int .i64 o.gt, .bool true], pts b1 26 (ofC o0), F]) (ent_close (⟨(a1, c1), (a2, c2)⟩ : (Option Addr × Nat) × (Option Addr × Nat)) trivial (ent_take 0 rfl (ent_take 0 rfl (ent_take 0 rfl (ent_take 0 rfl (ent_take 1 rfl (ent_take 1 rfl (ent_nil _)))))))) ?_
      refine TC.region ?_
      refine wmp rfl rfl ?_
      refine wmi rfl rfl ?_
      refine e rfl ?_
      refine cl (rset_ok b (setF (setF (offF r o.fr) to 0) o.fr 0) hd hso hn (r.cl to) 0) rfl PkL.p trivial ?_
      intro _ _
      change TL _ _ _ _ _ _ _ _ (sepL [_, _, _, _])
      refine TL.nil (nt ?_)
      refine TC.seq ?_
      refine TC.open 0 rfl (fun x0 hx0 => ?_)
      obtain ⟨⟨a1, c1⟩, ⟨a2, c2⟩⟩ := x0
      clear hx0
      change TC _ _ _ _ _ _ _ (sepL [_, _, _, _, _, _])
      dsimp only
      have hil := thsC_length (setF (setF (setF (offF r o.fr) to 0) o.fr 0) (r.cl to) 0)
      have hsl := snsC_length (setF (setF (setF (offF r o.fr) to 0) o.fr 0) (r.cl to) 0).S
      have hRD : (setF (setF (setF (offF r o.fr) to 0) o.fr 0) (r.cl to) 0).D.length = r.D.length := rfl
      have hpos4 : 0 < (thsC (setF (setF (setF (offF r o.fr) to 0) o.fr 0) (r.cl to) 0)).length := by omega
      refine TC.draw _ [9] [(0, false), (1, false), (2, false), (3, false), (4, false), (5, false), (6, false), (7, false), (8, false), (9, true)] (by kernel_rfl) (by kernel_rfl) (ent.refl _) ?_
      refine vmp rfl rfl rfl ?_
      refine vnc rfl rfl rfl ?_
      refine vfa 0 rfl rfl rfl rfl ?_
      refine vld rfl rfl rfl rfl rfl ?_
      refine vmi rfl rfl rfl ?_
      refine vfa 0 rfl rfl rfl rfl ?_
      refine vld rfl rfl rfl rfl rfl ?_
      refine dq rfl rfl rfl (ixS 115 3 rfl rfl rfl (by omega) (by assumption)) ?_
      refine dq rfl rfl rfl (faS 2 rfl rfl (by assumption)) ?_
      refine dl0 rfl rfl rfl ?_
      refine QM.stS (v := .int _ _) (vs := [_]) 1 rfl rfl rfl rfl rfl rfl (by decide) (by omega) (ths_cl (r := (setF (setF (setF (offF r o.fr) to 0) o.fr 0) (r.cl to) 0)) hn h2 (by omega) _) ?_
      refine TD.nil (nt ?_)
      refine TC.seq ?_
      refine TC.weak (B := sepL [isRm b (setC (setF (setF (setF (offF r o.fr) to 0) o.fr 0) (r.cl to) 0) to o.fr), pts b2 26 [.int .i64 o.fr, .int .i64 o.gt, .bool true], pts b1 26 (ofC o0), F]) (ent_close (⟨(a1, c1), (a2, c2)⟩ : (Option Addr × Nat) × (Option Addr × Nat)) trivial (ent_take 1 rfl (ent_take 0 rfl (ent_take 0 rfl (ent_take 0 rfl (ent_take 0 rfl (ent_take 0 rfl (ent_nil _)))))))) ?_
      refine TC.region ?_
      refine wmp rfl rfl ?_
      refine wfa 0 rfl rfl rfl ?_
      refine wld rfl rfl rfl rfl ?_
      refine e rfl ?_
      refine cl (rset_ok b (setC (setF (setF (setF (offF r o.fr) to 0) o.fr 0) (r.cl to) 0) to o.fr) hd hso hn o.fr 3) rfl PkL.p trivial ?_
      intro _ _
      change TL _ _ _ _ _ _ _ _ (sepL [_, _, _, _])
      refine TL.nil (nt ?_)
      refine TC.seq ?_
      refine TC.region ?_
      refine q rfl rfl (ldN (vs := [_, _, _]) 3 rfl rfl rfl rfl) ?_
      refine wmi rfl rfl ?_
      refine e0 ?_
      refine st (v := .agg #[_, _, _]) (vs := [_, _, _]) 3 rfl rfl rfl rfl rfl rfl (Nat.le_of_ble_eq_true rfl) rfl ?_
      refine wai rfl rfl ?_
      refine wai rfl rfl ?_
      refine TL.nil (nt ?_)
      refine TC.ret ?_
      exact Ret.i () [_, _, _] ⟨(rcN (n := 3) rfl rfl rfl rfl), rfl, rfl, trivial⟩ (by rw [show ofC o = [.int .i64 o.fr, .int .i64 o.gt, .bool true] from by rw [ofC, hcl]]; rfl) trivial (ent_take 1 rfl (ent_take 2 rfl (ent_nil _)))
  ·have hs0 := of_decide_eq_false hs0
   have hs3 : ¬ (r.st to ≠ 0 ∧ r.st to ≠ 2) := fun h => hs0 h.1
   refine qs rfl rfl ?_
   refine qs rfl rfl ?_
   refine qs rfl rfl ?_
   refine qs rfl rfl ?_
   refine qs rfl rfl ?_
   refine qs rfl rfl ?_
   refine qs rfl rfl ?_
   refine qs rfl rfl ?_
   refine qs rfl rfl ?_
   refine q rfl rfl (pkF (v := .bool _) rfl rfl) ?_
   refine TL.nil (nt ?_)
   refine TC.condF rfl ?_
   refine TC.weak (B := sepL [isRm b r, pts b1 26 (ofC o0), F]) (ent_close (⟨(a1, c1), (a2, c2)⟩ : (Option Addr × Nat) × (Option Addr × Nat)) trivial (ent_take 0 rfl (ent_take 0 rfl (ent_take 0 rfl (ent_take 0 rfl (ent_take 0 rfl (ent_nil _))))))) ?_
   refine TC.skip (nt ?_)
   refine TC.seq ?_
   refine TC.region ?_
   refine wmp rfl rfl ?_
   refine wmi rfl rfl ?_
   refine e rfl ?_
   refine cl (rrow_ok b r hd hs to) rfl (picked_nil _) (ent_one 0 rfl) ?_
   intro yr _
   change TL _ _ _ _ _ _ _ _ (sepL [_, _, _, _])
   rcases row_cases (rowF r.S to) with hr | ⟨o, rw0, hr⟩
   ·rw [show takeF r to = (r, o0, 0, 6) from by rw [takeF, if_neg hh, if_neg hs3, hr], hr]
    refine was rfl rfl ?_
    refine TL.nil (nt ?_)
    refine TC.seq ?_
    refine TC.seq ?_
    refine TC.region ?_
    refine wms rfl rfl ?_
    refine q rfl rfl (len 26 3 rfl rfl) ?_
    refine q rfl rfl (eqI rfl rfl) ?_
    refine TL.nil (nt ?_)
    refine TC.condD rfl (fun hc9 => ?_) (fun hc9 => absurd (by simp) hc9)
    refine TC.seq ?_
    refine TC.region ?_
    refine q rfl rfl (bld (cs := [.int _ _, .int _ _, .bool _]) rfl) ?_
    refine e0 ?_
    refine st (v := .agg #[_, _, _]) (vs := [_, _, _]) 3 rfl rfl rfl rfl rfl rfl (Nat.le_of_ble_eq_true rfl) rfl ?_
    refine wai rfl rfl ?_
    refine wai rfl rfl ?_
    refine TL.nil (nt ?_)
    refine TC.ret (rt ?_)
    exact Ret.i () [_, _, _] ⟨(rcN (n := 3) rfl rfl rfl rfl), rfl, rfl, trivial⟩ rfl trivial (ent_take 2 rfl (ent_take 2 rfl (ent_nil _)))
   ·have hlc : (rowF r.S to).length = rw0.length + 1 := by rw [hr, List.length_cons]
    have hol := ofsC_length (rowF r.S to)
    have hpos2 : 0 < (ofsC (rowF r.S to)).length := by omega
    have hso : (offF r o.fr).S.length ≤ 100000 := Nat.le_trans (List.length_filter_le _ _) hs
    refine was rfl rfl ?_
    refine TL.nil (nt ?_)
    refine TC.seq ?_
    refine TC.seq ?_
    refine TC.region ?_
    refine wms rfl rfl ?_
    refine q rfl rfl (len 26 3 rfl rfl) ?_
    refine q rfl rfl (eqI rfl rfl) ?_
    refine TL.nil (nt ?_)
    refine TC.condD rfl (fun hc10 => absurd hc10 (by omega)) (fun hc10 => ?_)
    refine TC.skip (nt ?_)
    refine TC.seq ?_
    refine TC.region ?_
    refine wms rfl rfl ?_
    refine q rfl rfl (ixJ 26 3 rfl rfl rfl (by omega) (by omega) (by assumption)) ?_
    refine q rfl rfl (ldSN (vs := [_, _, _]) 3 rfl rfl (show _ = ofC o from by rw [hr]; rfl) rfl (by decide)) ?_
    refine e rfl ?_
    refine al (l := [.int _ _, .int _ _, .bool _]) rfl rfl ?_
    intro b3
    refine e0 ?_
    refine st (v := .agg #[_, _, _]) (vs := [_, _, _]) 3 rfl rfl rfl rfl rfl rfl (Nat.le_of_ble_eq_true rfl) rfl ?_
    refine TL.nil (nt ?_)
    refine TC.seq ?_
    refine TC.region ?_
    refine wmp rfl rfl ?_
    refine wfa 0 rfl rfl rfl ?_
    refine wld rfl rfl rfl rfl ?_
    refine e rfl ?_
    refine cl (roff_ok b r hd hs o.fr) rfl PkL.p trivial ?_
    intro _ _
    change TL _ _ _ _ _ _ _ _ (sepL [_, _, _, _, _])
    refine TL.nil (nt ?_)
    refine TC.seq ?_
    refine TC.region ?_
    refine wmp rfl rfl ?_
    refine wmi rfl rfl ?_
    refine e rfl ?_
    refine cl (rset_ok b (offF r o.fr) hd hso hn to 0) rfl PkL.p trivial ?_
    intro _ _
    change TL _ _ _ _ _ _ _ _ (sepL [_, _, _, _, _])
    refine TL.nil (nt ?_)
    refine TC.seq ?_
    refine TC.region ?_
    refine wmp rfl rfl ?_
    refine wfa 0 rfl rfl rfl ?_
    refine wld rfl rfl rfl rfl ?_
    refine e rfl ?_
    refine cl (rset_ok b (setF (offF r o.fr) to 0) hd hso hn o.fr 0) rfl PkL.p trivial ?_
    intro _ _
    change TL _ _ _ _ _ _ _ _ (sepL [_, _, _, _, _])
    refine TL.nil (nt ?_)
    refine TC.seq ?_
    refine TC.seq ?_
    refine TC.region ?_
    refine wfa 2 rfl rfl rfl ?_
    refine wld rfl rfl rfl rfl ?_
    cases hcl : o.cl with
    | false => ?_
    | true => ?_
    ·rw [show takeF r to = ((setF (setF (offF r o.fr) to 0) o.fr 0), o, -1, 0) from by rw [takeF, if_neg hh, if_neg hs3, hr]; dsimp only; rw [hcl]; rfl]
     dsimp only
     refine q rfl rfl (notB rfl) ?_
     refine TL.nil (nt ?_)
     refine TC.condT rfl ?_
     refine TC.seq ?_
     refine TC.region ?_
     refine q rfl rfl (ldN (vs := [_, _, _]) 3 rfl rfl rfl rfl) ?_
     refine e0 ?_
     refine st (v := .agg #[_, _, _]) (vs := [_, _, _]) 3 rfl rfl rfl rfl rfl rfl (Nat.le_of_ble_eq_true rfl) rfl ?_
     refine wai rfl rfl ?_
     refine wai rfl rfl ?_
     refine TL.nil (nt ?_)
     refine TC.ret (rt ?_)
     exact Ret.i () [_, _, _] ⟨(rcN (n := 3) rfl rfl rfl rfl), rfl, rfl, trivial⟩ (by rw [show ofC o = [.int .i64 o.fr, .int .i64 o.gt, .bool false] from by rw [ofC, hcl]]; rfl) trivial (ent_take 1 rfl (ent_take 3 rfl (ent_nil _)))
    ·rw [show takeF r to = (setF (setC (setF (setF (setF (offF r o.fr) to 0) o.fr 0) (r.cl to) 0) to o.fr) o.fr 3, o, r.cl to, 0) from by rw [takeF, if_neg hh, if_neg hs3, hr]; dsimp only; rw [hcl]; rfl]
     dsimp only
     refine q rfl rfl (notB rfl) ?_
     refine TL.nil (nt ?_)
     refine TC.condF rfl ?_
     refine TC.skip (nt ?_)
     refine TC.seq ?_
     refine TC.open 0 rfl (fun x0 hx0 => ?_)
     obtain ⟨⟨a1, c1⟩, ⟨a2, c2⟩⟩ := x0
     clear hx0
     change TC _ _ _ _ _ _ _ (sepL [_, _, _, _, _, _, _])
     dsimp only
     have hil := thsC_length (setF (setF (offF r o.fr) to 0) o.fr 0)
     have hsl := snsC_length (setF (setF (offF r o.fr) to 0) o.fr 0).S
     have hRD : (setF (setF (offF r o.fr) to 0) o.fr 0).D.length = r.D.length := rfl
     have hpos3 : 0 < (thsC (setF (setF (offF r o.fr) to 0) o.fr 0)).length := by omega
     refine TC.region ?_
     refine wmp rfl rfl ?_
     refine wnc rfl rfl ?_
     refine wfa 0 rfl rfl rfl ?_
     refine wld rfl rfl rfl rfl ?_
     refine wmi rfl rfl ?_
     refine q rfl rfl (ixS 115 3 rfl rfl rfl (by omega) (by assumption)) ?_
     refine q rfl rfl (faS 2 rfl rfl (by assumption)) ?_
     refine q rfl rfl (ldS rfl rfl (flat_ld (thC_sz (setF (setF (offF r o.fr) to 0) o.fr 0)) (xs := r.D) h2 2 (by omega) rfl)) ?_
     refine wai rfl rfl ?_
     refine TL.nil (nt ?_)
     refine TC.seq ?_
     refine TC.weak (B := sepL [isRm b (setF (setF (offF r o.fr) to 0) o.fr 0), pts b3 26 [.int .i64 o.fr, .int .i64 o.gt, .bool true], pts b1 26 (ofC o0), F]) (ent_close (⟨(a1, c1), (a2, c2)⟩ : (Option Addr × Nat) × (Option Addr × Nat)) trivial (ent_take 0 rfl (ent_take 0 rfl (ent_take 0 rfl (ent_take 0 rfl (ent_take 1 rfl (ent_take 1 rfl (ent_nil _)))))))) ?_
     refine TC.region ?_
     refine wmp rfl rfl ?_
     refine wmi rfl rfl ?_
     refine e rfl ?_
     refine cl (rset_ok b (setF (setF (offF r o.fr) to 0) o.fr 0) hd hso hn (r.cl to) 0) rfl PkL.p trivial ?_
     intro _ _
     change TL _ _ _ _ _ _ _ _ (sepL [_, _, _, _])
     refine TL.nil (nt ?_)
     refine TC.seq ?_
     refine TC.open 0 rfl (fun x0 hx0 => ?_)
     obtain ⟨⟨a1, c1⟩, ⟨a2, c2⟩⟩ := x0
     clear hx0
     change TC _ _ _ _ _ _ _ (sepL [_, _, _, _, _, _])
     dsimp only
     have hil := thsC_length (setF (setF (setF (offF r o.fr) to 0) o.fr 0) (r.cl to) 0)
     have hsl := snsC_length (setF (setF (setF (offF r o.fr) to 0) o.fr 0) (r.cl to) 0).S
     have hRD : (setF (setF (setF (offF r o.fr) to 0) o.fr 0) (r.cl to) 0).D.length = r.D.length := rfl
     have hpos4 : 0 < (thsC (setF (setF (setF (offF r o.fr) to 0) o.fr 0) (r.cl to) 0)).length := by omega
     refine TC.draw _ [9] [(0, false), (1, false), (2, false), (3, false), (4, false), (5, false), (6, false), (7, false), (8, false), (9, true)] (by kernel_rfl) (by kernel_rfl) (ent.refl _) ?_
     refine vmp rfl rfl rfl ?_
     refine vnc rfl rfl rfl ?_
     refine vfa 0 rfl rfl rfl rfl ?_
     refine vld rfl rfl rfl rfl rfl ?_
     refine vmi rfl rfl rfl ?_
     refine vfa 0 rfl rfl rfl rfl ?_
     refine vld rfl rfl rfl rfl rfl ?_
     refine dq rfl rfl rfl (ixS 115 3 rfl rfl rfl (by omega) (by assumption)) ?_
     refine dq rfl rfl rfl (faS 2 rfl rfl (by assumption)) ?_
     refine dl0 rfl rfl rfl ?_
     refine QM.stS (v := .int _ _) (vs := [_]) 1 rfl rfl rfl rfl rfl rfl (by decide) (by omega) (ths_cl (r := (setF (setF (setF (offF r o.fr) to 0) o.fr 0) (r.cl to) 0)) hn h2 (by omega) _) ?_
     refine TD.nil (nt ?_)
     refine TC.seq ?_
     refine TC.weak (B := sepL [isRm b (setC (setF (setF (setF (offF r o.fr) to 0) o.fr 0) (r.cl to) 0) to o.fr), pts b3 26 [.int .i64 o.fr, .int .i64 o.gt, .bool true], pts b1 26 (ofC o0), F]) (ent_close (⟨(a1, c1), (a2, c2)⟩ : (Option Addr × Nat) × (Option Addr × Nat)) trivial (ent_take 1 rfl (ent_take 0 rfl (ent_take 0 rfl (ent_take 0 rfl (ent_take 0 rfl (ent_take 0 rfl (ent_nil _)))))))) ?_
     refine TC.region ?_
     refine wmp rfl rfl ?_
     refine wfa 0 rfl rfl rfl ?_
     refine wld rfl rfl rfl rfl ?_
     refine e rfl ?_
     refine cl (rset_ok b (setC (setF (setF (setF (offF r o.fr) to 0) o.fr 0) (r.cl to) 0) to o.fr) hd hso hn o.fr 3) rfl PkL.p trivial ?_
     intro _ _
     change TL _ _ _ _ _ _ _ _ (sepL [_, _, _, _])
     refine TL.nil (nt ?_)
     refine TC.seq ?_
     refine TC.region ?_
     refine q rfl rfl (ldN (vs := [_, _, _]) 3 rfl rfl rfl rfl) ?_
     refine wmi rfl rfl ?_
     refine e0 ?_
     refine st (v := .agg #[_, _, _]) (vs := [_, _, _]) 3 rfl rfl rfl rfl rfl rfl (Nat.le_of_ble_eq_true rfl) rfl ?_
     refine wai rfl rfl ?_
     refine wai rfl rfl ?_
     refine TL.nil (nt ?_)
     refine TC.ret ?_
     exact Ret.i () [_, _, _] ⟨(rcN (n := 3) rfl rfl rfl rfl), rfl, rfl, trivial⟩ (by rw [show ofC o = [.int .i64 o.fr, .int .i64 o.gt, .bool true] from by rw [ofC, hcl]]; rfl) trivial (ent_take 1 rfl (ent_take 2 rfl (ent_nil _)))
 ·rw [atD_no ht, show takeF r to = (r, o0, 0, 6) from if_pos ht]
  refine wai rfl rfl ?_
  refine TL.nil (nt ?_)
  refine TC.seq ?_
  refine TC.seq ?_
  refine TC.region ?_
  refine wmi rfl rfl ?_
  refine q rfl rfl (lss rfl rfl) ?_
  refine TL.nil (nt ?_)
  refine TC.condD rfl (fun hc5 => ?_) (fun hc5 => absurd (by decide) hc5)
  refine TC.seq ?_
  refine TC.region ?_
  refine q rfl rfl (bld (cs := [.int _ _, .int _ _, .bool _]) rfl) ?_
  refine e0 ?_
  refine st (v := .agg #[_, _, _]) (vs := [_, _, _]) 3 rfl rfl rfl rfl rfl rfl (Nat.le_of_ble_eq_true rfl) rfl ?_
  refine wai rfl rfl ?_
  refine wai rfl rfl ?_
  refine TL.nil (nt ?_)
  refine TC.ret (rt ?_)
  exact Ret.i () [_, _, _] ⟨(rcN (n := 3) rfl rfl rfl rfl), rfl, rfl, trivial⟩ rfl trivial (ent_take 1 rfl (ent_take 1 rfl (ent_nil _)))
end Go.Proofs.YtdfmfhcjnjfjbaaGreat
namespace Go.Proofs.YtdfmfhcjnjfjbaaGreat
open Go Go.QM
theorem ths_take (r : Rf) (k : Nat) : (thsC r).take (k * 3) = (r.D.take k).flatMap (thC r) := flat_take (thC_sz r) r.D k
theorem ths_drop (r : Rf) (k : Nat) : ((thsC r).drop (k * 3)).take ((r.D.length - k) * 3) = (r.D.drop k).flatMap (thC r) := by
 rw [List.take_of_length_le (by rw [List.length_drop, thsC_length]; omega)]; exact flat_drop (thC_sz r) r.D k
theorem drop_D {D : List Int} (hn : D.Nodup) {i : Nat} {x : Int} (hx : D[i]? = some x) : D.filter (fun y => decide (y ≠ x)) = D.take i ++ D.drop (i + 1) := by
 have hp := perm_take hx
 have hs : ∀ a ∈ D.take i ++ D.drop (i + 1), a ≠ x := fun a ha e2 => (List.nodup_cons.1 (hp.nodup_iff.1 hn)).1 (e2 ▸ ha)
 obtain ⟨h1, h2⟩ := List.getElem?_eq_some_iff.1 hx
 have hQ : D = D.take i ++ x :: D.drop (i + 1) := by rw [← h2, ← List.drop_eq_getElem_cons h1, List.take_append_drop]
 conv => lhs; rw [hQ]
 rw [List.filter_append, List.filter_cons_of_neg (by simp)]
 rw [List.filter_eq_self.2 (fun a ha => by simpa using hs a (by simp [ha])), List.filter_eq_self.2 (fun a ha => by simpa using hs a (by simp [ha]))]
def joinF (r : Rf) (x : Int) : Rf := if x ∈ r.D ∨ x < 0 then r else ⟨sortI (r.D ++ [x]), updI r.st x 0, updI r.cl x (-1), r.S⟩
def joinNF (r : Rf) (x : Int) : Int := if x ∈ r.D ∨ x < 0 then 0 else 1
theorem ins_eq {D : List Int} {x : Int} (hs : D.Pairwise (· ≤ ·)) {k : Nat} (h1 : ∀ y ∈ D.take k, y ≤ x) (h2 : ∀ y ∈ D.drop k, x ≤ y) : D.take k ++ x :: D.drop k = sortI (D ++ [x]) := by
 refine List.Perm.eq_of_pairwise (le := fun a c => a ≤ c) (fun a c _ _ h1 h2 => by omega) ?_ (sortI_sorted _) ?_
 ·rw [List.pairwise_append, List.pairwise_cons]
  refine ⟨hs.sublist (List.take_sublist _ _), ⟨h2, hs.sublist (List.drop_sublist _ _)⟩, fun a ha c hc => ?_⟩
  rcases List.mem_cons.1 hc with rfl | hc
  ·exact h1 a ha
  ·have := h1 a ha; have := h2 c hc; omega
 ·refine List.Perm.trans ?_ (sortI_perm _).symm
  refine List.perm_middle.trans ?_
  rw [List.take_append_drop]
  exact (List.perm_append_singleton _ _).symm
theorem ths_join {r : Rf} {x : Int} (hx : x ∉ r.D) (h0 : ¬ x < 0) {k : Nat} (he : r.D.take k ++ x :: r.D.drop k = sortI (r.D ++ [x])) : (r.D.take k).flatMap (thC r) ++ (ints [x, 0, -1] ++ (r.D.drop k).flatMap (thC r)) = thsC (joinF r x) ∧ (joinF r x).D.length = r.D.length + 1 := by
 have hj : joinF r x = ⟨sortI (r.D ++ [x]), updI r.st x 0, updI r.cl x (-1), r.S⟩ := if_neg (fun h => h.elim hx h0)
 refine ⟨?_, by rw [hj, sortI_len, List.length_append]; rfl⟩
 have hc : ∀ y ∈ r.D, thC r y = thC (joinF r x) y := fun y hy => by
  have hne : y ≠ x := fun e => hx (e ▸ hy)
  rw [hj, thC, thC]; dsimp only; rw [updI_ne hne, updI_ne hne]
 have hD : (joinF r x).D = r.D.take k ++ x :: r.D.drop k := by rw [hj]; exact he.symm
 have hx1 : thC (joinF r x) x = ints [x, 0, -1] := by rw [hj, thC]; dsimp only; rw [updI_same, updI_same]
 rw [thsC, hD, List.flatMap_append, List.flatMap_cons, flat_congr fun y hy => hc y (List.mem_of_mem_take hy), flat_congr fun y hy => hc y (List.mem_of_mem_drop hy), hx1]
theorem out_len (r : Rf) (id : Int) : (outF r id).length ≤ r.S.length + 1 := by
 have := rowF_len r.S id
 rw [outF, List.length_append, List.length_map]
 split <;> simp <;> omega
set_option maxRecDepth 4000 in
set_option maxHeartbeats 1000000 in
theorem rclose_ok (b : LC) (r : Rf) (hd : r.D.length ≤ 1000) (hs : r.S.length ≤ 100000) (hn : r.D.Nodup) (g : Int) (hrl : ∀ x ∈ r.D, (rowF r.S x).length ≤ 1000) : FSpec Tryz.prog 121 [.pointer (some ⟨b.n, 5, none⟩), .int .i64 g] noRd [isRm b r] (fun y : Option Addr × Nat => .slice y.1 (closeF r g).2.length y.2) (fun _ => True) (fun y => [slc 3 1 y.1 (closeF r g).2.length y.2 (ints (closeF r g).2), isRm b (closeF r g).1]) := by
 refine FSpec.intro (rs := [.tmp 4]) (by kernel_rfl) Tryz.func121 rfl Tryz.ntmps121 (by rfl) rfl ?_
 intro F _
 change TC _ _ _ _ _ _ _ (sepL [_, _])
 refine TC.seq ?_
 refine TC.region ?_
 refine was rfl rfl ?_
 refine TL.nil (nt ?_)
 refine TC.seq ?_
 refine TC.region ?_
 refine was rfl rfl ?_
 refine TL.nil (nt ?_)
 refine TC.seq ?_
 refine TC.seq ?_
 refine TC.region ?_
 refine wai rfl rfl ?_
 refine TL.nil (nt ?_)
 refine TC.block ?_
 refine TC.loop (ι := Nat × (Option Addr × Nat)) (fun u => u.1 ≤ r.D.length) (fun u => [(0, .pointer (some ⟨b.n, 5, none⟩)), (1, .int .i64 g), (5, .slice u.2.1 (thrF r g (r.D.take u.1)).length u.2.2), (6, .int .i64 ((u.1 : Nat) : Int))]) (fun u => sepL [slc 3 1 u.2.1 (thrF r g (r.D.take u.1)).length u.2.2 (ints (thrF r g (r.D.take u.1))), isRm b r, F]) (fun u => r.D.length - u.1) ⟨0, (none, 0)⟩ (Nat.zero_le _) ⟨rfl, rfl, rfl, rfl, trivial⟩ ((slc_nil 3 1 _).trans (ent_take 0 rfl (ent_take 0 rfl (ent_take 0 rfl (ent_nil _))))) ?_
 rintro ⟨k, ⟨oa, oc⟩⟩ hk ρ0
 dsimp only [updL] at hk ⊢
 refine TC.open 1 rfl (fun x0 hx0 => ?_)
 obtain ⟨⟨a1, c1⟩, ⟨a2, c2⟩⟩ := x0
 clear hx0
 change TC _ _ _ _ _ _ _ (sepL [_, _, _, _, _])
 dsimp only
 have hil := thsC_length r
 have hsl := snsC_length r.S
 refine TC.seq ?_
 refine TC.seq ?_
 refine TC.region ?_
 refine wmi rfl rfl ?_
 refine wmp rfl rfl ?_
 refine wnc rfl rfl ?_
 refine wfa 0 rfl rfl rfl ?_
 refine wld rfl rfl rfl rfl ?_
 refine q rfl rfl (len 115 3 rfl rfl) ?_
 refine q rfl rfl (lss rfl rfl) ?_
 refine TL.nil (nt ?_)
 refine TC.condD rfl (fun hlt => ?_) (fun hlt => ?_)
 ·have hlt2 : k < r.D.length := by omega
  obtain ⟨x, hx⟩ : ∃ x, r.D[k]? = some x := ⟨_, List.getElem?_eq_getElem hlt2⟩
  have hxm := List.mem_of_getElem? hx
  have hpos : 0 < (thsC r).length := by omega
  have hgs := thrF_snoc (r := r) (g := g) hx
  have hgl := thrF_len (r := r) (g := g) (b := 1000) (D := (r.D.take k)) (fun y hy => hrl y (List.mem_of_mem_take hy))
  have htl : (r.D.take k).length ≤ k := by rw [List.length_take]; omega
  have hxl := hrl x hxm
  refine TC.skip (nt ?_)
  refine TC.seq ?_
  refine TC.block ?_
  refine TC.seq ?_
  refine TC.region ?_
  refine wmp rfl rfl ?_
  refine wmp rfl rfl ?_
  refine wnc rfl rfl ?_
  refine wfa 0 rfl rfl rfl ?_
  refine wld rfl rfl rfl rfl ?_
  refine wmi rfl rfl ?_
  refine q rfl rfl (ixS 115 3 rfl rfl rfl (by omega) (by assumption)) ?_
  refine q rfl rfl (faS 0 rfl rfl (by assumption)) ?_
  refine q rfl rfl (ldS rfl rfl (flat_ld (thC_sz r) hx 0 (by omega) rfl)) ?_
  refine e rfl ?_
  refine cl (rrow_ok b r hd hs x) rfl (picked_nil _) (ent_of (ent_close (⟨(a1, c1), (a2, c2)⟩ : (Option Addr × Nat) × (Option Addr × Nat)) trivial (ent_take 0 rfl (ent_take 0 rfl (ent_take 0 rfl (ent_nil _)))))) ?_
  intro yr _
  change TL _ _ _ _ _ _ _ _ (sepL [_, _, _, _, _, _])
  generalize hR : rowF r.S x = R at hgs hxl ⊢
  have hRl := ofsC_length R
  refine was rfl rfl ?_
  refine TL.nil (nt ?_)
  refine TC.seq ?_
  refine TC.region ?_
  refine wai rfl rfl ?_
  refine TL.nil (nt ?_)
  refine TC.block ?_
  refine TC.loop (ι := Nat × (Option Addr × Nat)) (fun u => u.1 ≤ R.length) (fun u => [(0, .pointer (some ⟨b.n, 5, none⟩)), (1, .int .i64 g), (5, .slice u.2.1 ((thrF r g (r.D.take k)) ++ goneO (R.take u.1) (thru g)).length u.2.2), (6, .int .i64 ((k : Nat) : Int)), (7, .slice yr.1 R.length yr.2), (8, .int .i64 ((u.1 : Nat) : Int))]) (fun u => sepL [slc 3 1 u.2.1 ((thrF r g (r.D.take k)) ++ goneO (R.take u.1) (thru g)).length u.2.2 (ints ((thrF r g (r.D.take k)) ++ goneO (R.take u.1) (thru g))), slc 26 3 yr.1 R.length yr.2 (ofsC R), isRm b r, F]) (fun u => R.length - u.1) ⟨0, (oa, oc)⟩ (Nat.zero_le _) ⟨rfl, rfl, congrArg (fun n => Value.slice _ n _) (by rw [List.take_zero, show goneO [] (thru g) = [] from rfl, List.append_nil]), rfl, rfl, rfl, trivial⟩ (by rw [List.take_zero, show goneO [] (thru g) = [] from rfl, List.append_nil]; exact ent_take 4 rfl (ent_take 0 rfl (ent_close (⟨(a1, c1), (a2, c2)⟩ : (Option Addr × Nat) × (Option Addr × Nat)) trivial (ent_take 0 rfl (ent_take 0 rfl (ent_take 0 rfl (ent_take 0 rfl (ent_nil _)))))))) ?_
  rintro ⟨j, ⟨oa, oc⟩⟩ hj ρ1
  dsimp only [updL] at hj ⊢
  refine TC.seq ?_
  refine TC.seq ?_
  refine TC.region ?_
  refine wmi rfl rfl ?_
  refine wms rfl rfl ?_
  refine q rfl rfl (len 26 3 rfl rfl) ?_
  refine q rfl rfl (lss rfl rfl) ?_
  refine TL.nil (nt ?_)
  refine TC.condD rfl (fun hlj => ?_) (fun hlj => ?_)
  ·have hlj2 : j < R.length := by omega
   obtain ⟨o, ho⟩ : ∃ o, R[j]? = some o := ⟨_, List.getElem?_eq_getElem hlj2⟩
   have hpos2 : 0 < (ofsC R).length := by omega
   have hos := gone_snoc (pr := thru g) ho
   have hol := gone_len (R.take j) (thru g)
   have hrt : (R.take j).length ≤ j := by rw [List.length_take]; omega
   have hgi := ints_length ((thrF r g (r.D.take k)) ++ goneO (R.take j) (thru g))
   have hga : ((thrF r g (r.D.take k)) ++ goneO (R.take j) (thru g)).length = (thrF r g (r.D.take k)).length + (goneO (R.take j) (thru g)).length := List.length_append
   refine TC.skip (nt ?_)
   refine TC.seq ?_
   refine TC.block ?_
   refine TC.seq ?_
   refine TC.region ?_
   refine wms rfl rfl ?_
   refine wmi rfl rfl ?_
   refine q rfl rfl (ixS 26 3 rfl rfl rfl (by omega) (by assumption)) ?_
   refine q rfl rfl (faS 1 rfl rfl (by assumption)) ?_
   refine q rfl rfl (ldS rfl rfl (flat_ld ofC_sz ho 1 (by omega) rfl)) ?_
   refine wmi rfl rfl ?_
   refine q rfl rfl (eqI rfl rfl) ?_
   refine TL.nil (nt ?_)
   refine TC.condD rfl (fun hg => ?_) (fun hg => ?_)
   ·rw [if_pos (by simpa [thru] using hg)] at hos
    refine TC.region ?_
    refine wms rfl rfl ?_
    refine wms rfl rfl ?_
    refine wmi rfl rfl ?_
    refine q rfl rfl (ixS 26 3 rfl rfl rfl (by omega) (by assumption)) ?_
    refine q rfl rfl (faS 0 rfl rfl (by assumption)) ?_
    refine q rfl rfl (ldS rfl rfl (flat_ld ofC_sz ho 0 (by omega) rfl)) ?_
    refine e rfl ?_
    refine bs (cs := [.int _ _]) rfl ?_
    intro b1
    refine e rfl ?_
    refine ap 8 rfl rfl rfl rfl rfl (Nat.le_of_ble_eq_true rfl) (show _ = ints [o.fr] from rfl) rfl (by omega) (by simp only [maxLen]; omega) ?_
    intro ad1 cap1
    refine was rfl rfl ?_
    refine TL.nil (nb (nt ?_))
    refine TC.region ?_
    refine wmi rfl rfl ?_
    refine q rfl rfl (addI rfl rfl (by omega) (by omega)) ?_
    refine wai rfl rfl ?_
    refine TL.nil (nt ?_)
    exact ⟨rfl, ⟨j + 1, (ad1, cap1)⟩, (by dsimp only; omega), (by dsimp only; omega), ⟨rfl, rfl, congrArg (fun n => Value.slice _ n _) (by dsimp only; rw [hos, ← List.append_assoc]; simp only [List.length_append, List.length_singleton]), rfl, rfl, rfl, trivial⟩, (ent_takeE 0 rfl (by dsimp only; rw [hos, ← List.append_assoc]; simp only [List.length_append, List.length_singleton, ints_app1]) (ent_take 1 rfl (ent_take 1 rfl (ent_take 1 rfl (ent_nil _)))))⟩
   ·rw [if_neg (by simpa [thru] using hg), List.append_nil] at hos
    refine TC.skip (nb (nt ?_))
    refine TC.region ?_
    refine wmi rfl rfl ?_
    refine q rfl rfl (addI rfl rfl (by omega) (by omega)) ?_
    refine wai rfl rfl ?_
    refine TL.nil (nt ?_)
    exact ⟨rfl, ⟨j + 1, (oa, oc)⟩, (by dsimp only; omega), (by dsimp only; omega), ⟨rfl, rfl, congrArg (fun n => Value.slice _ n _) (by dsimp only; rw [hos]), rfl, rfl, rfl, trivial⟩, (ent_takeE 0 rfl (by dsimp only; rw [hos]) (ent_take 0 rfl (ent_take 0 rfl (ent_take 0 rfl (ent_nil _)))))⟩
  ·obtain rfl : j = R.length := by omega
   rw [List.take_length, ← hgs]
   refine TC.exit (et (et (eb (nb (nt ?_)))))
   refine TC.region ?_
   refine wmi rfl rfl ?_
   refine q rfl rfl (addI rfl rfl (by omega) (by omega)) ?_
   refine wai rfl rfl ?_
   refine TL.nil (nt ?_)
   exact ⟨rfl, ⟨k + 1, (oa, oc)⟩, (by dsimp only; omega), (by dsimp only; omega), ⟨rfl, rfl, rfl, rfl, trivial⟩, (ent_take 0 rfl (ent_take 1 rfl (ent_take 1 rfl (ent_nil _))))⟩
 ·obtain rfl : k = r.D.length := by omega
  rw [List.take_length]
  refine TC.weak (B := sepL [isRm b r, slc 3 1 oa (thrF r g r.D).length oc (ints (thrF r g r.D)), F]) (ent_close (⟨(a1, c1), (a2, c2)⟩ : (Option Addr × Nat) × (Option Addr × Nat)) trivial (ent_take 0 rfl (ent_take 0 rfl (ent_take 0 rfl (ent_take 0 rfl (ent_take 0 rfl (ent_nil _))))))) ?_
  have hcv : closeF r g = ((thrF r g r.D).foldl goF r, thrF r g r.D) := rfl
  rw [hcv]
  dsimp only
  have hGl := thrF_len (r := r) (g := g) hrl
  generalize thrF r g r.D = Gn at hGl ⊢
  refine TC.exit (et (et (eb (nt ?_))))
  refine TC.seq ?_
  refine TC.seq ?_
  refine TC.region ?_
  refine wai rfl rfl ?_
  refine TL.nil (nt ?_)
  refine TC.block ?_
  refine TC.loop (ι := Nat) (fun k => k ≤ Gn.length) (fun k => [(0, .pointer (some ⟨b.n, 5, none⟩)), (5, .slice oa Gn.length oc), (9, .int .i64 ((k : Nat) : Int))]) (fun k => sepL [slc 3 1 oa Gn.length oc (ints Gn), isRm b ((Gn.take k).foldl goF r), F]) (fun k => Gn.length - k) 0 (Nat.zero_le _) ⟨rfl, rfl, rfl, trivial⟩ (ent_take 1 rfl (ent_take 0 rfl (ent_take 0 rfl (ent_nil _)))) ?_
  rintro k hk ρ2
  dsimp only [updL] at hk ⊢
  refine TC.seq ?_
  refine TC.seq ?_
  refine TC.region ?_
  refine wmi rfl rfl ?_
  refine wms rfl rfl ?_
  refine q rfl rfl (len 3 1 rfl rfl) ?_
  refine q rfl rfl (lss rfl rfl) ?_
  refine TL.nil (nt ?_)
  refine TC.condD rfl (fun hlt => ?_) (fun hlt => ?_)
  ·have hlt2 : k < Gn.length := by omega
   obtain ⟨x, hx⟩ : ∃ x, Gn[k]? = some x := ⟨_, List.getElem?_eq_getElem hlt2⟩
   have hpos : 0 < (ints Gn).length := by rw [ints_length]; omega
   have hsn := fold_snoc hx r
   obtain ⟨hfD, hfS⟩ := fold_D (Gn.take k) r
   have hd2 : ((Gn.take k).foldl goF r).D.length ≤ 1000 := by rw [hfD]; exact hd
   have hs2 : ((Gn.take k).foldl goF r).S.length ≤ 100000 := Nat.le_trans hfS hs
   have hn2 : ((Gn.take k).foldl goF r).D.Nodup := by rw [hfD]; exact hn
   have hs3 : (offF ((Gn.take k).foldl goF r) x).S.length ≤ 100000 := Nat.le_trans (List.length_filter_le _ _) hs2
   refine TC.skip (nt ?_)
   refine TC.seq ?_
   refine TC.block ?_
   refine TC.seq ?_
   refine TC.region ?_
   refine wmp rfl rfl ?_
   refine wms rfl rfl ?_
   refine wmi rfl rfl ?_
   refine q rfl rfl (ixS 3 1 rfl rfl rfl (by omega) (by assumption)) ?_
   refine q rfl rfl (ldS rfl rfl (ints_get hx)) ?_
   refine e rfl ?_
   refine cl (roff_ok b ((Gn.take k).foldl goF r) hd2 hs2 x) rfl PkL.p trivial ?_
   intro _ _
   change TL _ _ _ _ _ _ _ _ (sepL [_, _, _])
   refine TL.nil (nt ?_)
   refine TC.region ?_
   refine wmp rfl rfl ?_
   refine wms rfl rfl ?_
   refine wmi rfl rfl ?_
   refine q rfl rfl (ixS 3 1 rfl rfl rfl (by omega) (by assumption)) ?_
   refine q rfl rfl (ldS rfl rfl (ints_get hx)) ?_
   refine e rfl ?_
   refine cl (rset_ok b (offF ((Gn.take k).foldl goF r) x) hd2 hs3 hn2 x 0) rfl PkL.p trivial ?_
   intro _ _
   change TL _ _ _ _ _ _ _ _ (sepL [_, _, _])
   refine TL.nil (nb (nt ?_))
   refine TC.region ?_
   refine wmi rfl rfl ?_
   refine q rfl rfl (addI rfl rfl (by omega) (by omega)) ?_
   refine wai rfl rfl ?_
   refine TL.nil (nt ?_)
   exact ⟨rfl, (k + 1), (by omega), (by omega), ⟨rfl, rfl, rfl, trivial⟩, (by rw [hsn]; exact (ent_take 1 rfl (ent_take 0 rfl (ent_take 0 rfl (ent_nil _)))))⟩
  ·obtain rfl : k = Gn.length := by omega
   rw [List.take_length]
   clear hlt hk
   refine TC.exit (et (et (eb (nt ?_))))
   refine TC.seq ?_
   refine TC.region ?_
   refine wms rfl rfl ?_
   refine was rfl rfl ?_
   refine TL.nil (nt ?_)
   refine TC.ret ?_
   exact Ret.i ⟨oa, oc⟩ [_] ⟨rfl, trivial⟩ rfl trivial (ent_take 0 rfl (ent_take 0 rfl (ent_take 0 rfl (ent_nil _))))
set_option maxRecDepth 4000 in
set_option maxHeartbeats 2000000 in
theorem rleave_ok (b : LC) (r : Rf) (hd : r.D.length ≤ 1000) (hs : r.S.length ≤ 100000) (hn : r.D.Nodup) (id : Int) : FSpec Tryz.prog 114 [.pointer (some ⟨b.n, 5, none⟩), .int .i64 id] noRd [isRm b r] (fun y : Option Addr × Nat => .tuple #[.slice y.1 (leaveF r id).2.1.length y.2, .int .i64 (leaveF r id).2.2]) (fun _ => True) (fun y => [slc 3 1 y.1 (leaveF r id).2.1.length y.2 (ints (leaveF r id).2.1), isRm b (leaveF r id).1]) := by
 refine FSpec.intro (rs := [.tmp 4, .tmp 5]) (by kernel_rfl) Tryz.func114 rfl Tryz.ntmps114 (by rfl) rfl ?_
 intro F _
 change TC _ _ _ _ _ _ _ (sepL [_, _])
 refine TC.seq ?_
 refine TC.region ?_
 refine was rfl rfl ?_
 refine wai rfl rfl ?_
 refine TL.nil (nt ?_)
 refine TC.seq ?_
 refine TC.seq ?_
 refine TC.region ?_
 refine wmp rfl rfl ?_
 refine wmi rfl rfl ?_
 refine e rfl ?_
 refine cl (rat_ok b r hd hs id) rfl (picked_nil _) (ent_one 0 rfl) ?_
 intro _ _
 change TL _ _ _ _ _ _ _ _ (sepL [_, _])
 by_cases hy : id ∈ r.D
 ·obtain ⟨i, h1, _⟩ := atD_yes hy
  rw [h1]
  have hh : ¬ id ∉ r.D := fun h => h hy
  refine q rfl rfl (lss rfl rfl) ?_
  refine TL.nil (nt ?_)
  refine TC.condD rfl (fun hc2 => absurd hc2 (by omega)) (fun hc2 => ?_)
  refine TC.skip (nt ?_)
  refine TC.seq ?_
  refine TC.region ?_
  refine wmp rfl rfl ?_
  refine wmi rfl rfl ?_
  refine e rfl ?_
  refine cl (rcall_ok b r hd hs hn id) rfl PkL.p trivial ?_
  intro _ _
  change TL _ _ _ _ _ _ _ _ (sepL [_, _])
  have hlv : leaveF r id = (dropF ((outF (callF r id).1 id).foldl goF (callF r id).1) id, outF (callF r id).1 id, 0) := if_neg hh
  rw [hlv]
  dsimp only
  obtain ⟨hcD, hcS⟩ := call_D r id
  have hd1 : (callF r id).1.D.length ≤ 1000 := by rw [hcD]; exact hd
  have hs1 : (callF r id).1.S.length ≤ 100000 := Nat.le_trans hcS hs
  have hn1 : (callF r id).1.D.Nodup := by rw [hcD]; exact hn
  have hy1 : id ∈ (callF r id).1.D := by rw [hcD]; exact hy
  clear hlv hcD hcS hy h1 hd hs hn hh
  generalize (callF r id).1 = r1 at hd1 hs1 hn1 hy1 ⊢
  refine TL.nil (nt ?_)
  refine TC.seq ?_
  refine TC.region ?_
  refine was rfl rfl ?_
  refine TL.nil (nt ?_)
  refine TC.seq ?_
  refine TC.region ?_
  refine wmp rfl rfl ?_
  refine wmi rfl rfl ?_
  refine e rfl ?_
  refine cl (rrow_ok b r1 hd1 hs1 id) rfl (picked_nil _) (ent_one 0 rfl) ?_
  intro yr _
  change TL _ _ _ _ _ _ _ _ (sepL [_, _, _])
  have hou : outF r1 id = (rowF r1.S id).map (·.fr) ++ if 0 ≤ clF r1 id then [clF r1 id] else [] := rfl
  have hol := out_len r1 id
  have hrl := rowF_len r1.S id
  generalize hRg : rowF r1.S id = R at hou hrl ⊢
  have hRl := ofsC_length R
  refine was rfl rfl ?_
  refine TL.nil (nt ?_)
  refine TC.seq ?_
  refine TC.seq ?_
  refine TC.region ?_
  refine wai rfl rfl ?_
  refine TL.nil (nt ?_)
  refine TC.block ?_
  refine TC.loop (ι := Nat × (Option Addr × Nat)) (fun u => u.1 ≤ R.length) (fun u => [(0, .pointer (some ⟨b.n, 5, none⟩)), (1, .int .i64 id), (6, .slice u.2.1 ((R.take u.1).map (·.fr)).length u.2.2), (7, .slice yr.1 R.length yr.2), (8, .int .i64 ((u.1 : Nat) : Int))]) (fun u => sepL [slc 3 1 u.2.1 ((R.take u.1).map (·.fr)).length u.2.2 (ints ((R.take u.1).map (·.fr))), slc 26 3 yr.1 R.length yr.2 (ofsC R), isRm b r1, F]) (fun u => R.length - u.1) ⟨0, (none, 0)⟩ (Nat.zero_le _) ⟨rfl, rfl, rfl, rfl, rfl, trivial⟩ ((slc_nil 3 1 _).trans (ent_take 0 rfl (ent_take 0 rfl (ent_take 0 rfl (ent_take 0 rfl (ent_nil _)))))) ?_
  rintro ⟨k, ⟨oa, oc⟩⟩ hk ρ0
  dsimp only [updL] at hk ⊢
  refine TC.seq ?_
  refine TC.seq ?_
  refine TC.region ?_
  refine wmi rfl rfl ?_
  refine wms rfl rfl ?_
  refine q rfl rfl (len 26 3 rfl rfl) ?_
  refine q rfl rfl (lss rfl rfl) ?_
  refine TL.nil (nt ?_)
  refine TC.condD rfl (fun hlt => ?_) (fun hlt => ?_)
  ·have hlt2 : k < R.length := by omega
   obtain ⟨o, ho⟩ : ∃ o, R[k]? = some o := ⟨_, List.getElem?_eq_getElem hlt2⟩
   have hpos : 0 < (ofsC R).length := by omega
   have hsn : ((R.take (k + 1)).map (·.fr)) = ((R.take k).map (·.fr)) ++ [o.fr] := by rw [List.take_add_one, ho, Option.toList, List.map_append]; rfl
   have hgi := ints_length ((R.take k).map (·.fr))
   have hml : ((R.take k).map (·.fr)).length ≤ k := by rw [List.length_map, List.length_take]; omega
   refine TC.skip (nt ?_)
   refine TC.seq ?_
   refine TC.block ?_
   refine TC.region ?_
   refine wms rfl rfl ?_
   refine wms rfl rfl ?_
   refine wmi rfl rfl ?_
   refine q rfl rfl (ixS 26 3 rfl rfl rfl (by omega) (by assumption)) ?_
   refine q rfl rfl (faS 0 rfl rfl (by assumption)) ?_
   refine q rfl rfl (ldS rfl rfl (flat_ld ofC_sz ho 0 (by omega) rfl)) ?_
   refine e rfl ?_
   refine bs (cs := [.int _ _]) rfl ?_
   intro b2
   refine e rfl ?_
   refine ap 8 rfl rfl rfl rfl rfl (Nat.le_of_ble_eq_true rfl) (show _ = ints [o.fr] from rfl) rfl (by omega) (by simp only [maxLen]; omega) ?_
   intro ad2 cap2
   refine was rfl rfl ?_
   refine TL.nil (nb (nt ?_))
   refine TC.region ?_
   refine wmi rfl rfl ?_
   refine q rfl rfl (addI rfl rfl (by omega) (by omega)) ?_
   refine wai rfl rfl ?_
   refine TL.nil (nt ?_)
   exact ⟨rfl, ⟨k + 1, (ad2, cap2)⟩, (by dsimp only; omega), (by dsimp only; omega), ⟨rfl, rfl, congrArg (fun n => Value.slice _ n _) (by dsimp only; rw [hsn, List.length_append]; rfl), rfl, rfl, trivial⟩, (ent_takeE 0 rfl (by dsimp only; rw [hsn, List.length_append, ints_app1]; rfl) (ent_take 1 rfl (ent_take 1 rfl (ent_take 1 rfl (ent_nil _)))))⟩
  ·obtain rfl : k = R.length := by omega
   rw [List.take_length]
   have hgi := ints_length (R.map (·.fr))
   have hml : (R.map (·.fr)).length = R.length := List.length_map _
   clear hlt hk
   refine TC.exit (et (et (eb (nt ?_))))
   refine TC.cut (ι := Option Addr × Nat) (fun u => True) (fun u => [(0, .pointer (some ⟨b.n, 5, none⟩)), (1, .int .i64 id), (6, .slice u.1 (outF r1 id).length u.2)]) (fun u => sepL [slc 3 1 u.1 (outF r1 id).length u.2 (ints (outF r1 id)), isRm b r1, F]) ?_ ?_
   ·refine TC.seq ?_
    refine TC.region ?_
    refine wmp rfl rfl ?_
    refine wmi rfl rfl ?_
    refine e rfl ?_
    refine cl (rcaller_ok b r1 hd1 hs1 id) rfl (picked_nil _) (ent_one 2 rfl) ?_
    intro _ _
    change TL _ _ _ _ _ _ _ _ (sepL [_, _, _, _])
    refine q rfl rfl (geq rfl rfl) ?_
    refine TL.nil (nt ?_)
    refine TC.condD rfl (fun hc => ?_) (fun hc => ?_)
    ·have hoc : outF r1 id = R.map (·.fr) ++ [clF r1 id] := by rw [hou, if_pos (by omega)]
     refine TC.region ?_
     refine wms rfl rfl ?_
     refine wmp rfl rfl ?_
     refine wmi rfl rfl ?_
     refine e rfl ?_
     refine cl (rcaller_ok b r1 hd1 hs1 id) rfl (picked_nil _) (ent_one 2 rfl) ?_
     intro _ _
     change TL _ _ _ _ _ _ _ _ (sepL [_, _, _, _])
     refine e rfl ?_
     refine bs (cs := [.int _ _]) rfl ?_
     intro b3
     refine e rfl ?_
     refine ap 8 rfl rfl rfl rfl rfl (Nat.le_of_ble_eq_true rfl) (show _ = ints [clF r1 id] from rfl) rfl (by omega) (by simp only [maxLen]; omega) ?_
     intro ad3 cap3
     refine was rfl rfl ?_
     refine TL.nil (nt ?_)
     exact ⟨rfl, ⟨ad3, cap3⟩, trivial, ⟨rfl, rfl, congrArg (fun n => Value.slice _ n _) (by rw [hoc, List.length_append]; rfl), trivial⟩, (ent_takeE 0 rfl (by rw [hoc, List.length_append, ints_app1]; rfl) (ent_take 2 rfl (ent_take 2 rfl (ent_nil _))))⟩
    ·have hoc : outF r1 id = R.map (·.fr) := by rw [hou, if_neg (by omega), List.append_nil]
     refine TC.skip (nt ?_)
     exact ⟨rfl, ⟨oa, oc⟩, trivial, ⟨rfl, rfl, congrArg (fun n => Value.slice _ n _) (by rw [hoc]), trivial⟩, (ent_takeE 0 rfl (by rw [hoc]) (ent_take 1 rfl (ent_take 1 rfl (ent_nil _))))⟩
   ·rintro ⟨oa, oc⟩ _ ρ1
    dsimp only [updL]
    clear hou hgi hml hRl hrl hRg
    generalize outF r1 id = Gn at hol ⊢
    refine TC.seq ?_
    refine TC.seq ?_
    refine TC.region ?_
    refine wai rfl rfl ?_
    refine TL.nil (nt ?_)
    refine TC.block ?_
    refine TC.loop (ι := Nat) (fun k => k ≤ Gn.length) (fun k => [(0, .pointer (some ⟨b.n, 5, none⟩)), (1, .int .i64 id), (6, .slice oa Gn.length oc), (9, .int .i64 ((k : Nat) : Int))]) (fun k => sepL [slc 3 1 oa Gn.length oc (ints Gn), isRm b ((Gn.take k).foldl goF r1), F]) (fun k => Gn.length - k) 0 (Nat.zero_le _) ⟨rfl, rfl, rfl, rfl, trivial⟩ (ent_take 0 rfl (ent_take 0 rfl (ent_take 0 rfl (ent_nil _)))) ?_
    rintro k hk ρ2
    dsimp only [updL] at hk ⊢
    refine TC.seq ?_
    refine TC.seq ?_
    refine TC.region ?_
    refine wmi rfl rfl ?_
    refine wms rfl rfl ?_
    refine q rfl rfl (len 3 1 rfl rfl) ?_
    refine q rfl rfl (lss rfl rfl) ?_
    refine TL.nil (nt ?_)
    refine TC.condD rfl (fun hlt => ?_) (fun hlt => ?_)
    ·have hlt2 : k < Gn.length := by omega
     obtain ⟨x, hx⟩ : ∃ x, Gn[k]? = some x := ⟨_, List.getElem?_eq_getElem hlt2⟩
     have hpos : 0 < (ints Gn).length := by rw [ints_length]; omega
     have hsn := fold_snoc hx r1
     obtain ⟨hfD, hfS⟩ := fold_D (Gn.take k) r1
     have hd2 : ((Gn.take k).foldl goF r1).D.length ≤ 1000 := by rw [hfD]; exact hd1
     have hs2 : ((Gn.take k).foldl goF r1).S.length ≤ 100000 := Nat.le_trans hfS hs1
     have hn2 : ((Gn.take k).foldl goF r1).D.Nodup := by rw [hfD]; exact hn1
     have hs3 : (offF ((Gn.take k).foldl goF r1) x).S.length ≤ 100000 := Nat.le_trans (List.length_filter_le _ _) hs2
     refine TC.skip (nt ?_)
     refine TC.seq ?_
     refine TC.block ?_
     refine TC.seq ?_
     refine TC.region ?_
     refine wmp rfl rfl ?_
     refine wms rfl rfl ?_
     refine wmi rfl rfl ?_
     refine q rfl rfl (ixS 3 1 rfl rfl rfl (by omega) (by assumption)) ?_
     refine q rfl rfl (ldS rfl rfl (ints_get hx)) ?_
     refine e rfl ?_
     refine cl (roff_ok b ((Gn.take k).foldl goF r1) hd2 hs2 x) rfl PkL.p trivial ?_
     intro _ _
     change TL _ _ _ _ _ _ _ _ (sepL [_, _, _])
     refine TL.nil (nt ?_)
     refine TC.region ?_
     refine wmp rfl rfl ?_
     refine wms rfl rfl ?_
     refine wmi rfl rfl ?_
     refine q rfl rfl (ixS 3 1 rfl rfl rfl (by omega) (by assumption)) ?_
     refine q rfl rfl (ldS rfl rfl (ints_get hx)) ?_
     refine e rfl ?_
     refine cl (rset_ok b (offF ((Gn.take k).foldl goF r1) x) hd2 hs3 hn2 x 0) rfl PkL.p trivial ?_
     intro _ _
     change TL _ _ _ _ _ _ _ _ (sepL [_, _, _])
     refine TL.nil (nb (nt ?_))
     refine TC.region ?_
     refine wmi rfl rfl ?_
     refine q rfl rfl (addI rfl rfl (by omega) (by omega)) ?_
     refine wai rfl rfl ?_
     refine TL.nil (nt ?_)
     exact ⟨rfl, (k + 1), (by omega), (by omega), ⟨rfl, rfl, rfl, rfl, trivial⟩, (by rw [hsn]; exact (ent_take 1 rfl (ent_take 0 rfl (ent_take 0 rfl (ent_nil _)))))⟩
    ·obtain rfl : k = Gn.length := by omega
     rw [List.take_length]
     clear hlt hk
     obtain ⟨hfD, hfS⟩ := fold_D Gn r1
     have hd2 : (Gn.foldl goF r1).D.length ≤ 1000 := by rw [hfD]; exact hd1
     have hs2 : (Gn.foldl goF r1).S.length ≤ 100000 := Nat.le_trans hfS hs1
     have hn2 : (Gn.foldl goF r1).D.Nodup := by rw [hfD]; exact hn1
     have hy2 : id ∈ (Gn.foldl goF r1).D := by rw [hfD]; exact hy1
     generalize (Gn.foldl goF r1) = r2 at hd2 hs2 hn2 hy2 ⊢
     refine TC.exit (et (et (eb (nt ?_))))
     refine TC.seq ?_
     refine TC.region ?_
     refine wmp rfl rfl ?_
     refine wmi rfl rfl ?_
     refine e rfl ?_
     refine cl (rat_ok b r2 hd2 hs2 id) rfl (picked_nil _) (ent_one 1 rfl) ?_
     intro _ _
     change TL _ _ _ _ _ _ _ _ (sepL [_, _, _])
     obtain ⟨j, h3, h4⟩ := atD_yes hy2
     rw [h3]
     have hj := (List.getElem?_eq_some_iff.1 h4).1
     have hdd := drop_D hn2 h4
     refine wai rfl rfl ?_
     refine TL.nil (nt ?_)
     refine TC.seq ?_
     refine TC.open 1 rfl (fun x0 hx0 => ?_)
     obtain ⟨⟨a1, c1⟩, ⟨a2, c2⟩⟩ := x0
     clear hx0
     change TC _ _ _ _ _ _ _ (sepL [_, _, _, _, _])
     dsimp only
     have hil := thsC_length r2
     have hsl := snsC_length r2.S
     refine TC.factSlc 1 rfl (fun _ hc1 _ => ?_)
     haveI : OffI (thsC r2) c1 (j + 1) 3 := ⟨r2.D.length, by omega, by omega, hc1⟩
     have hpos2 : 0 < (thsC r2).length := by omega
     refine TC.draw _ [19] [(0, false), (2, false), (3, false), (4, false), (5, false), (6, false), (7, false), (9, false), (10, false), (11, false), (12, false), (13, false), (14, false), (15, false), (1, true), (8, true), (16, true), (17, false), (18, false), (19, true)] (by kernel_rfl) (by kernel_rfl) (ent_take 0 rfl (ent_take 0 rfl (ent_nil _))) ?_
     refine vmp rfl rfl rfl ?_
     refine vmp rfl rfl rfl ?_
     refine vnc rfl rfl rfl ?_
     refine vfa 0 rfl rfl rfl rfl ?_
     refine vld rfl rfl rfl rfl rfl ?_
     refine vmi rfl rfl rfl ?_
     refine dq rfl rfl rfl (slTn 115 3 (j) rfl rfl rfl (by omega) (by omega)) ?_
     refine vmp rfl rfl rfl ?_
     refine vnc rfl rfl rfl ?_
     refine vfa 0 rfl rfl rfl rfl ?_
     refine vld rfl rfl rfl rfl rfl ?_
     refine vmi rfl rfl rfl ?_
     refine dq rfl rfl rfl (addI rfl rfl (by omega) (by omega)) ?_
     refine dq rfl rfl rfl (slFn 115 3 (j + 1) rfl rfl rfl (by omega) (by omega)) ?_
     refine de rfl rfl ?_
     refine bs (cs := []) rfl ?_
     intro b4
     refine ⟨(ent_take 1 rfl (ent_take 1 rfl (ent_nil _))), ?_⟩
     refine de rfl rfl ?_
     refine ap 24 rfl rfl rfl rfl rfl (by omega) (ths_take r2 j) (flat_one (thC_one r2) _) (by omega) (by simp only [maxLen]; omega) ?_
     intro ad4 cap4
     refine ⟨(ent_take 1 rfl (ent_take 1 rfl (ent_nil _))), ?_⟩
     refine de rfl rfl ?_
     refine ap 24 rfl rfl rfl rfl rfl (by rw [List.length_drop]; omega) (ths_drop r2 (j + 1)) (flat_one (thC_one r2) _) (by omega) (by simp only [maxLen]; omega) ?_
     intro ad5 cap5
     refine ⟨(ent_take 1 rfl (ent_take 1 rfl (ent_nil _))), ?_⟩
     refine vnc rfl rfl rfl ?_
     refine vfa 0 rfl rfl rfl rfl ?_
     refine dl0 rfl rfl rfl ?_
     refine st (v := .slice _ _ _) (vs := [_]) 1 rfl rfl rfl rfl rfl rfl (Nat.le_of_ble_eq_true rfl) rfl ?_
     refine TD.nil (nt ?_)
     refine TC.seq ?_
     refine TC.region ?_
     refine wms rfl rfl ?_
     refine was rfl rfl ?_
     refine wai rfl rfl ?_
     refine TL.nil (nt ?_)
     refine TC.ret ?_
     have hDl : (dropF r2 id).D = r2.D.take j ++ r2.D.drop (j + 1) := hdd
     have hDn : (dropF r2 id).D.length = 0 + j + (r2.D.length - (j + 1)) := by rw [hDl, List.length_append, List.length_take, List.length_drop]; omega
     have hDt : thsC (dropF r2 id) = (r2.D.take j).flatMap (thC r2) ++ (r2.D.drop (j + 1)).flatMap (thC r2) := by rw [thsC, hDl, List.flatMap_append]; rfl
     exact Ret.i ⟨oa, oc⟩ [_, _] ⟨rfl, rfl, trivial⟩ rfl trivial (ent_take 4 rfl (ent_close (⟨(ad5, cap5), (a2, c2)⟩ : (Option Addr × Nat) × (Option Addr × Nat)) trivial (ent_takeE 0 rfl (by rw [hDn] <;> rfl) (ent_takeE 0 rfl (by rw [hDn, hDt, List.nil_append] <;> rfl) (ent_take 1 rfl (ent_take 1 rfl (ent_nil _)))))))
 ·rw [atD_no hy, show leaveF r id = (r, [], 6) from if_pos hy]
  refine q rfl rfl (lss rfl rfl) ?_
  refine TL.nil (nt ?_)
  refine TC.condD rfl (fun hc1 => ?_) (fun hc1 => absurd (by decide) hc1)
  refine TC.seq ?_
  refine TC.region ?_
  refine was rfl rfl ?_
  refine wai rfl rfl ?_
  refine TL.nil (nt ?_)
  refine TC.ret (rt ?_)
  exact Ret.i ⟨none, 0⟩ [_, _] ⟨rfl, rfl, trivial⟩ rfl trivial ((slc_nil 3 1 _).trans (ent_take 0 rfl (ent_take 0 rfl (ent_take 0 rfl (ent_nil _)))))
set_option maxRecDepth 4000 in
set_option maxHeartbeats 2000000 in
theorem rjoin_ok (b : LC) (r : Rf) (hd : r.D.length ≤ 1000) (hs : r.S.length ≤ 100000) (hn : r.D.Nodup) (hsd : r.D.Pairwise (· ≤ ·)) (x : Int) (ax : Option Addr) (cx : Nat) : FSpec Tryz.prog 108 [.pointer (some ⟨b.n, 5, none⟩), .slice ax 1 cx] (fun F => ∃ E, RdS F E ax (ints [x])) [isRm b r] (fun _ : Unit => .int .i64 (joinNF r x)) (fun _ => True) (fun _ => [isRm b (joinF r x)]) := by
 refine FSpec.intro (rs := [.tmp 4]) (by kernel_rfl) Tryz.func108 rfl Tryz.ntmps108 (by rfl) rfl ?_
 intro F ⟨E, hF⟩
 change TC _ _ _ _ _ _ _ (sepL [_, _])
 haveI : RdSI F ax E (ints [x]) := ⟨hF⟩
 have hxl : (ints [x]).length = 1 := rfl
 refine TC.seq ?_
 refine TC.region ?_
 refine wai rfl rfl ?_
 refine TL.nil (nt ?_)
 refine TC.seq ?_
 refine TC.region ?_
 refine wai rfl rfl ?_
 refine TL.nil (nt ?_)
 refine TC.seq ?_
 refine TC.seq ?_
 refine TC.region ?_
 refine wai rfl rfl ?_
 refine TL.nil (nt ?_)
 refine TC.block ?_
 refine TC.loop (ι := Nat × Rf × Int) (fun u => (u.1 = 0 ∧ u.2.1 = r ∧ u.2.2 = 0) ∨ (u.1 = 1 ∧ u.2.1 = joinF r x ∧ u.2.2 = joinNF r x)) (fun u => [(0, .pointer (some ⟨b.n, 5, none⟩)), (1, .slice ax 1 cx), (5, .int .i64 u.2.2), (6, .int .i64 ((u.1 : Nat) : Int))]) (fun u => sepL [isRm b u.2.1, F]) (fun u => 1 - u.1) ⟨0, r, 0⟩ (.inl ⟨rfl, rfl, rfl⟩) ⟨rfl, rfl, rfl, rfl, trivial⟩ (ent_take 0 rfl (ent_take 0 rfl (ent_nil _))) ?_
 rintro ⟨k, r0, n⟩ hk ρ0
 dsimp only [updL] at hk ⊢
 refine TC.seq ?_
 refine TC.seq ?_
 refine TC.region ?_
 refine wmi rfl rfl ?_
 refine wms rfl rfl ?_
 refine q rfl rfl (len 3 1 rfl rfl) ?_
 refine q rfl rfl (lss rfl rfl) ?_
 refine TL.nil (nt ?_)
 refine TC.condD rfl (fun hlt => ?_) (fun hlt => ?_)
 ·obtain ⟨rfl, rfl, rfl⟩ : k = 0 ∧ r0 = r ∧ n = 0 := by
   rcases hk with h | ⟨h, _, _⟩
   ·exact h
   ·omega
  have hx0 : (ints [x])[0]? = some (.int .i64 x) := rfl
  refine TC.skip (nt ?_)
  refine TC.seq ?_
  refine TC.block ?_
  refine TC.seq ?_
  refine TC.seq ?_
  refine TC.region ?_
  refine wms rfl rfl ?_
  refine wmi rfl rfl ?_
  refine q rfl rfl (ixS 3 1 rfl rfl rfl (by omega) (by simp [ints_length] <;> omega)) ?_
  refine q rfl rfl (ldS rfl rfl (show (ints [x])[0]? = _ from rfl)) ?_
  refine q rfl rfl (lss rfl rfl) ?_
  refine wmb rfl rfl ?_
  refine TL.split 19 rfl (fun h0 => ?_) (fun h0 => ?_)
  ·have h0 := of_decide_eq_true h0
   have hj1 : joinF r0 x = r0 := if_pos (.inr h0)
   have hj2 : joinNF r0 x = 0 := if_pos (.inr h0)
   refine qs rfl rfl ?_
   refine qs rfl rfl ?_
   refine qs rfl rfl ?_
   refine qs rfl rfl ?_
   refine qs rfl rfl ?_
   refine qs rfl rfl ?_
   refine qs rfl rfl ?_
   refine q rfl rfl (pkT (v := .bool _) rfl rfl) ?_
   refine TL.nil (nt ?_)
   refine TC.condT rfl ?_
   refine TC.exit (et (eb (nt ?_)))
   refine TC.region ?_
   refine wmi rfl rfl ?_
   refine q rfl rfl (addI rfl rfl (by omega) (by omega)) ?_
   refine wai rfl rfl ?_
   refine TL.nil (nt ?_)
   exact ⟨rfl, ⟨1, r0, 0⟩, (.inr ⟨rfl, hj1.symm, hj2.symm⟩), (by dsimp only; omega), ⟨rfl, rfl, rfl, rfl, trivial⟩, (ent_take 0 rfl (ent_take 0 rfl (ent_nil _)))⟩
  ·have h0 := of_decide_eq_false h0
   refine qg rfl rfl rfl (mv (v := .pointer _) rfl) ?_
   refine qg rfl rfl rfl (mv (v := .slice _ _ _) rfl) ?_
   refine qg rfl rfl rfl (mv (v := .int _ _) rfl) ?_
   refine qg rfl rfl rfl (ixS 3 1 rfl rfl rfl (by omega) (by simp [ints_length] <;> omega)) ?_
   refine qg rfl rfl rfl (ldS rfl rfl (show (ints [x])[0]? = _ from rfl)) ?_
   refine eg rfl rfl ?_
   refine cl (rat_ok b r0 hd hs x) rfl (picked_nil _) (ent_one 0 rfl) ?_
   intro _ _
   change TL _ _ _ _ _ _ _ _ (sepL [_, _])
   by_cases hy : x ∈ r0.D
   ·obtain ⟨i, h1, _⟩ := atD_yes hy
    rw [h1]
    have hj1 : joinF r0 x = r0 := if_pos (.inl hy)
    have hj2 : joinNF r0 x = 0 := if_pos (.inl hy)
    refine qg rfl rfl rfl (geq rfl rfl) ?_
    refine q rfl rfl (pkF (v := .bool _) rfl rfl) ?_
    refine TL.nil (nt ?_)
    refine TC.condD rfl (fun hc3 => ?_) (fun hc3 => absurd (by omega) hc3)
    refine TC.exit (et (eb (nt ?_)))
    refine TC.region ?_
    refine wmi rfl rfl ?_
    refine q rfl rfl (addI rfl rfl (by omega) (by omega)) ?_
    refine wai rfl rfl ?_
    refine TL.nil (nt ?_)
    exact ⟨rfl, ⟨1, r0, 0⟩, (.inr ⟨rfl, hj1.symm, hj2.symm⟩), (by dsimp only; omega), ⟨rfl, rfl, rfl, rfl, trivial⟩, (ent_take 0 rfl (ent_take 0 rfl (ent_nil _)))⟩
   ·rw [atD_no hy]
    have hj1 : joinNF r0 x = 1 := if_neg (fun h => h.elim hy h0)
    refine qg rfl rfl rfl (geq rfl rfl) ?_
    refine q rfl rfl (pkF (v := .bool _) rfl rfl) ?_
    refine TL.nil (nt ?_)
    refine TC.condD rfl (fun hc4 => absurd hc4 (by decide)) (fun hc4 => ?_)
    refine TC.skip (nt ?_)
    refine TC.seq ?_
    refine TC.open 0 rfl (fun x0 hx0 => ?_)
    obtain ⟨⟨a1, c1⟩, ⟨a2, c2⟩⟩ := x0
    clear hx0
    change TC _ _ _ _ _ _ _ (sepL [_, _, _, _])
    dsimp only
    have hil := thsC_length r0
    have hsl := snsC_length r0.S
    refine TC.region ?_
    refine wmp rfl rfl ?_
    refine wnc rfl rfl ?_
    refine wfa 0 rfl rfl rfl ?_
    refine wld rfl rfl rfl rfl ?_
    refine q rfl rfl (len 115 3 rfl rfl) ?_
    refine wai rfl rfl ?_
    refine TL.nil (nt ?_)
    refine TC.seq ?_
    refine TC.block ?_
    refine TC.loop (ι := Nat) (fun m => m ≤ r0.D.length ∧ ∀ y ∈ r0.D.drop m, x ≤ y) (fun m => [(0, .pointer (some ⟨b.n, 5, none⟩)), (1, .slice ax 1 cx), (5, .int .i64 0), (6, .int .i64 ((0 : Nat) : Int)), (7, .int .i64 ((m : Nat) : Int))]) (fun m => sepL [pts b.n 60 [b.x0, b.x1, b.x2, b.x3, b.x4, .slice a1 r0.D.length c1, .slice a2 r0.S.length c2, b.x7], slc 115 3 a1 r0.D.length c1 (thsC r0), slc 117 4 a2 r0.S.length c2 (snsC r0.S), F]) (fun m => m) r0.D.length ⟨Nat.le_refl _, fun y hy => by rw [List.drop_length] at hy; cases hy⟩ ⟨rfl, rfl, rfl, rfl, rfl, trivial⟩ (ent_take 0 rfl (ent_take 0 rfl (ent_take 0 rfl (ent_take 0 rfl (ent_nil _))))) ?_
    rintro m ⟨hm, hmx⟩ ρ1
    dsimp only [updL] at hm hmx ⊢
    refine TC.seq ?_
    refine TC.seq ?_
    refine TC.draw _ [] [(0, false), (1, false), (2, false), (3, false), (4, false), (5, false), (6, false), (7, false), (8, false), (9, false), (10, false), (11, false), (12, false), (13, false), (14, false), (15, false), (16, false), (17, false)] (by kernel_rfl) (by kernel_rfl) (ent.refl _) ?_
    refine vmi rfl rfl rfl ?_
    refine dq rfl rfl rfl (gtr rfl rfl) ?_
    refine vmb rfl rfl rfl ?_
    refine TD.split 35 rfl (fun hm0 => ?_) (fun hm0 => ?_)
    ·have hm0 := of_decide_eq_true hm0
     obtain ⟨j, rfl⟩ : ∃ j, m = j + 1 := ⟨m - 1, by omega⟩
     obtain ⟨y, hyj⟩ : ∃ y, r0.D[j]? = some y := ⟨_, List.getElem?_eq_getElem (show j < r0.D.length by omega)⟩
     have hpos : 0 < (thsC r0).length := by omega
     have hjl := (List.getElem?_eq_some_iff.1 hyj)
     refine dg rfl rfl rfl rfl (mv (v := .pointer _) rfl) ?_
     refine dg rfl rfl rfl rfl (nc rfl) ?_
     refine dg rfl rfl rfl rfl (fa 0 rfl rfl) ?_
     refine dg rfl rfl rfl rfl (ld rfl rfl rfl) ?_
     refine dg rfl rfl rfl rfl (mv (v := .int _ _) rfl) ?_
     refine dg rfl rfl rfl rfl (subI rfl rfl (by omega) (by omega)) ?_
     refine dg rfl rfl rfl rfl (ixJ 115 3 rfl rfl rfl (by omega) (by omega) (by assumption)) ?_
     refine dg rfl rfl rfl rfl (faS 0 rfl rfl (by assumption)) ?_
     refine dg rfl rfl rfl rfl (ldS rfl rfl (flat_ld (thC_sz r0) hyj 0 (by omega) rfl)) ?_
     refine dg rfl rfl rfl rfl (mv (v := .slice _ _ _) rfl) ?_
     refine dg rfl rfl rfl rfl (mv (v := .int _ _) rfl) ?_
     refine dg rfl rfl rfl rfl (ixS 3 1 rfl rfl rfl (by omega) (by simp [ints_length] <;> omega)) ?_
     refine dg rfl rfl rfl rfl (ldS rfl rfl (show (ints [x])[0]? = _ from rfl)) ?_
     refine dg rfl rfl rfl rfl (gtr rfl rfl) ?_
     refine dq rfl rfl rfl (pkT (v := .bool _) rfl rfl) ?_
     refine TD.nil (nt ?_)
     refine TC.condD rfl (fun hgt => ?_) (fun hgt => ?_)
     ·have hmx2 : ∀ z ∈ r0.D.drop j, x ≤ z := fun z hz => by
       obtain ⟨hj1, hj2⟩ := hjl
       rw [List.drop_eq_getElem_cons hj1, hj2] at hz
       rcases List.mem_cons.1 hz with rfl | hz
       ·omega
       ·exact hmx z hz
      refine TC.skip (nt ?_)
      refine TC.block ?_
      refine TC.region ?_
      refine wmi rfl rfl ?_
      refine q rfl rfl (subI rfl rfl (by omega) (by omega)) ?_
      refine wai rfl rfl ?_
      refine TL.nil (nb (nt ?_))
      exact ⟨rfl, j, ⟨by omega, hmx2⟩, (by omega), ⟨rfl, rfl, rfl, rfl, congrArg (Value.int .i64) (by omega), trivial⟩, (ent_take 0 rfl (ent_take 0 rfl (ent_take 0 rfl (ent_take 0 rfl (ent_nil _)))))⟩
     ·have hlo : ∀ z ∈ r0.D.take (j + 1), z ≤ x := fun z hz => by
       rw [List.take_add_one, hyj, Option.toList] at hz
       rcases List.mem_append.1 hz with hz | hz
       ·obtain ⟨hj1, hj2⟩ := hjl
        obtain ⟨i, hi⟩ := List.getElem?_of_mem hz
        rw [List.getElem?_take] at hi
        split at hi
        ·obtain ⟨b1, b2⟩ := List.getElem?_eq_some_iff.1 hi
         have := (List.pairwise_iff_getElem.1 hsd) i j b1 hj1 (by omega)
         rw [b2, hj2] at this; omega
        ·cases hi
       ·rw [List.mem_singleton.1 hz]; omega
      have hins := ins_eq (x := x) hsd hlo hmx
      obtain ⟨hth, htl⟩ := ths_join hy h0 hins
      refine TC.exit (et (et (eb (nt ?_))))
      refine TC.seq ?_
      refine TC.factSlc 1 rfl (fun _ hc1 _ => ?_)
      haveI : OffI (thsC r0) c1 (j + 1) 3 := ⟨r0.D.length, by omega, by omega, hc1⟩
      refine TC.drawF _ [25] 26 rfl (by kernel_rfl) (by kernel_rfl) (ent_take 0 rfl (ent_take 0 rfl (ent_take 1 rfl (ent_nil _)))) ?_
      refine fq (i := 0) rfl rfl rfl (by kernel_rfl) (mv (v := .pointer _) rfl) ?_
      refine fq (i := 2) rfl rfl rfl (by kernel_rfl) (mv (v := .pointer _) rfl) ?_
      refine fq (i := 3) rfl rfl rfl (by kernel_rfl) (nc rfl) ?_
      refine fq (i := 4) rfl rfl rfl (by kernel_rfl) (fa 0 rfl rfl) ?_
      refine fq (i := 5) rfl rfl rfl (by kernel_rfl) (ld rfl rfl rfl) ?_
      refine fq (i := 6) rfl rfl rfl (by kernel_rfl) (mv (v := .int _ _) rfl) ?_
      refine fq (i := 7) rfl rfl rfl (by kernel_rfl) (slTn 115 3 (j + 1) rfl rfl rfl (by omega) (by omega)) ?_
      refine fq (i := 9) rfl rfl rfl (by kernel_rfl) (mv (v := .slice _ _ _) rfl) ?_
      refine fq (i := 10) rfl rfl rfl (by kernel_rfl) (mv (v := .int _ _) rfl) ?_
      refine fq (i := 11) rfl rfl rfl (by kernel_rfl) (ixS 3 1 rfl rfl rfl (by omega) (by simp [ints_length] <;> omega)) ?_
      refine fq (i := 12) rfl rfl rfl (by kernel_rfl) (ldS rfl rfl (show (ints [x])[0]? = _ from rfl)) ?_
      refine fq (i := 13) rfl rfl rfl (by kernel_rfl) (bld (cs := ints [_, _, _]) rfl) ?_
      refine fq (i := 16) rfl rfl rfl (by kernel_rfl) (mv (v := .pointer _) rfl) ?_
      refine fq (i := 17) rfl rfl rfl (by kernel_rfl) (nc rfl) ?_
      refine fq (i := 18) rfl rfl rfl (by kernel_rfl) (fa 0 rfl rfl) ?_
      refine fq (i := 19) rfl rfl rfl (by kernel_rfl) (ld rfl rfl rfl) ?_
      refine fq (i := 20) rfl rfl rfl (by kernel_rfl) (mv (v := .int _ _) rfl) ?_
      refine fq (i := 21) rfl rfl rfl (by kernel_rfl) (slFn 115 3 (j + 1) rfl rfl rfl (by omega) (by omega)) ?_
      refine ff (i := 1) (j := 14) rfl rfl rfl rfl (by kernel_rfl) ?_ ?_
      ·refine bs (cs := []) rfl ?_
       intro b10
       refine ⟨(ent_take 1 rfl (ent_take 1 rfl (ent_take 2 rfl (ent_nil _)))), ?_⟩
       refine ff (i := 8) (j := 14) rfl rfl rfl rfl (by kernel_rfl) ?_ ?_
       ·refine ap 24 rfl rfl rfl rfl rfl (by omega) (ths_take r0 (j + 1)) (flat_one (thC_one r0) _) (by omega) (by simp only [maxLen]; omega) ?_
        intro ad15 cap15
        refine ⟨(ent_take 1 rfl (ent_take 1 rfl (ent_take 2 rfl (ent_nil _)))), ?_⟩
        refine TF.of [(14, true), (15, true), (22, true), (23, false), (24, false), (25, true)] (by kernel_rfl) rfl ?_
        refine de rfl rfl ?_
        refine bs (cs := ints [_, _, _]) rfl ?_
        intro b11
        refine ⟨(ent_take 2 rfl (ent_take 2 rfl (ent_take 3 rfl (ent_nil _)))), ?_⟩
        refine de rfl rfl ?_
        refine ap 24 rfl rfl rfl rfl rfl (Nat.le_of_ble_eq_true rfl) (show _ = ints [x, 0, -1] from rfl) rfl (by omega) (by simp only [maxLen]; omega) ?_
        intro ad16 cap16
        refine ⟨(ent_take 2 rfl (ent_take 2 rfl (ent_take 3 rfl (ent_nil _)))), ?_⟩
        refine de rfl rfl ?_
        refine ap 24 rfl rfl rfl rfl rfl (by rw [List.length_drop]; omega) (ths_drop r0 (j + 1)) (flat_one (thC_one r0) _) (by omega) (by simp only [maxLen]; omega) ?_
        intro ad17 cap17
        refine ⟨(ent_take 2 rfl (ent_take 2 rfl (ent_take 3 rfl (ent_nil _)))), ?_⟩
        refine vnc rfl rfl rfl ?_
        refine vfa 0 rfl rfl rfl rfl ?_
        refine dl0 rfl rfl rfl ?_
        refine st (v := .slice _ _ _) (vs := [_]) 1 rfl rfl rfl rfl rfl rfl (Nat.le_of_ble_eq_true rfl) rfl ?_
        refine TD.nil (nt ?_)
        refine TC.region ?_
        refine wmi rfl rfl ?_
        refine q rfl rfl (addI rfl rfl (by omega) (by omega)) ?_
        refine wai rfl rfl ?_
        refine TL.nil (nb (nt ?_))
        refine TC.region ?_
        refine wmi rfl rfl ?_
        refine q rfl rfl (addI rfl rfl (by omega) (by omega)) ?_
        refine wai rfl rfl ?_
        refine TL.nil (nt ?_)
        have htn : (joinF r0 x).D.length = 0 + (j + 1) + 1 + (r0.D.length - (j + 1)) := by omega
        have hjS : (joinF r0 x).S = r0.S := by rw [joinF]; split <;> rfl
        exact ⟨rfl, ⟨1, joinF r0 x, 1⟩, (.inr ⟨rfl, rfl, hj1.symm⟩), (by dsimp only; omega), ⟨rfl, rfl, rfl, rfl, trivial⟩, (ent_close (⟨(ad17, cap17), (a2, c2)⟩ : (Option Addr × Nat) × (Option Addr × Nat)) trivial (ent_takeE 0 rfl (by dsimp only; rw [htn, hjS] <;> rfl) (ent_takeE 0 rfl (by dsimp only; rw [htn, ← hth, List.nil_append, List.append_assoc] <;> rfl) (by dsimp only; rw [hjS]; exact (ent_take 2 rfl (ent_take 2 rfl (ent_nil _)))))))⟩
       ·refine bs (cs := ints [_, _, _]) rfl ?_
        intro b12
        refine ⟨(ent_take 2 rfl (ent_take 2 rfl (ent_take 3 rfl (ent_nil _)))), ?_⟩
        refine TF.of [(8, true), (15, true), (22, true), (23, false), (24, false), (25, true)] (by kernel_rfl) rfl ?_
        refine de rfl rfl ?_
        refine ap 24 rfl rfl rfl rfl rfl (by omega) (ths_take r0 (j + 1)) (flat_one (thC_one r0) _) (by omega) (by simp only [maxLen]; omega) ?_
        intro ad18 cap18
        refine ⟨(ent_take 2 rfl (ent_take 2 rfl (ent_take 3 rfl (ent_nil _)))), ?_⟩
        refine de rfl rfl ?_
        refine ap 24 rfl rfl rfl rfl rfl (Nat.le_of_ble_eq_true rfl) (show _ = ints [x, 0, -1] from rfl) rfl (by omega) (by simp only [maxLen]; omega) ?_
        intro ad19 cap19
        refine ⟨(ent_take 2 rfl (ent_take 2 rfl (ent_take 3 rfl (ent_nil _)))), ?_⟩
        refine de rfl rfl ?_
        refine ap 24 rfl rfl rfl rfl rfl (by rw [List.length_drop]; omega) (ths_drop r0 (j + 1)) (flat_one (thC_one r0) _) (by omega) (by simp only [maxLen]; omega) ?_
        intro ad20 cap20
        refine ⟨(ent_take 2 rfl (ent_take 2 rfl (ent_take 3 rfl (ent_nil _)))), ?_⟩
        refine vnc rfl rfl rfl ?_
        refine vfa 0 rfl rfl rfl rfl ?_
        refine dl0 rfl rfl rfl ?_
        refine st (v := .slice _ _ _) (vs := [_]) 1 rfl rfl rfl rfl rfl rfl (Nat.le_of_ble_eq_true rfl) rfl ?_
        refine TD.nil (nt ?_)
        refine TC.region ?_
        refine wmi rfl rfl ?_
        refine q rfl rfl (addI rfl rfl (by omega) (by omega)) ?_
        refine wai rfl rfl ?_
        refine TL.nil (nb (nt ?_))
        refine TC.region ?_
        refine wmi rfl rfl ?_
        refine q rfl rfl (addI rfl rfl (by omega) (by omega)) ?_
        refine wai rfl rfl ?_
        refine TL.nil (nt ?_)
        have htn : (joinF r0 x).D.length = 0 + (j + 1) + 1 + (r0.D.length - (j + 1)) := by omega
        have hjS : (joinF r0 x).S = r0.S := by rw [joinF]; split <;> rfl
        exact ⟨rfl, ⟨1, joinF r0 x, 1⟩, (.inr ⟨rfl, rfl, hj1.symm⟩), (by dsimp only; omega), ⟨rfl, rfl, rfl, rfl, trivial⟩, (ent_close (⟨(ad20, cap20), (a2, c2)⟩ : (Option Addr × Nat) × (Option Addr × Nat)) trivial (ent_takeE 0 rfl (by dsimp only; rw [htn, hjS] <;> rfl) (ent_takeE 0 rfl (by dsimp only; rw [htn, ← hth, List.nil_append, List.append_assoc] <;> rfl) (by dsimp only; rw [hjS]; exact (ent_take 2 rfl (ent_take 2 rfl (ent_nil _)))))))⟩
      ·refine bs (cs := ints [_, _, _]) rfl ?_
       intro b13
       refine ⟨(ent_take 1 rfl (ent_take 1 rfl (ent_take 2 rfl (ent_nil _)))), ?_⟩
       refine TF.of [(1, true), (8, true), (15, true), (22, true), (23, false), (24, false), (25, true)] (by kernel_rfl) rfl ?_
       refine de rfl rfl ?_
       refine bs (cs := []) rfl ?_
       intro b14
       refine ⟨(ent_take 2 rfl (ent_take 2 rfl (ent_take 3 rfl (ent_nil _)))), ?_⟩
       refine de rfl rfl ?_
       refine ap 24 rfl rfl rfl rfl rfl (by omega) (ths_take r0 (j + 1)) (flat_one (thC_one r0) _) (by omega) (by simp only [maxLen]; omega) ?_
       intro ad21 cap21
       refine ⟨(ent_take 2 rfl (ent_take 2 rfl (ent_take 3 rfl (ent_nil _)))), ?_⟩
       refine de rfl rfl ?_
       refine ap 24 rfl rfl rfl rfl rfl (Nat.le_of_ble_eq_true rfl) (show _ = ints [x, 0, -1] from rfl) rfl (by omega) (by simp only [maxLen]; omega) ?_
       intro ad22 cap22
       refine ⟨(ent_take 2 rfl (ent_take 2 rfl (ent_take 3 rfl (ent_nil _)))), ?_⟩
       refine de rfl rfl ?_
       refine ap 24 rfl rfl rfl rfl rfl (by rw [List.length_drop]; omega) (ths_drop r0 (j + 1)) (flat_one (thC_one r0) _) (by omega) (by simp only [maxLen]; omega) ?_
       intro ad23 cap23
       refine ⟨(ent_take 2 rfl (ent_take 2 rfl (ent_take 3 rfl (ent_nil _)))), ?_⟩
       refine vnc rfl rfl rfl ?_
       refine vfa 0 rfl rfl rfl rfl ?_
       refine dl0 rfl rfl rfl ?_
       refine st (v := .slice _ _ _) (vs := [_]) 1 rfl rfl rfl rfl rfl rfl (Nat.le_of_ble_eq_true rfl) rfl ?_
       refine TD.nil (nt ?_)
       refine TC.region ?_
       refine wmi rfl rfl ?_
       refine q rfl rfl (addI rfl rfl (by omega) (by omega)) ?_
       refine wai rfl rfl ?_
       refine TL.nil (nb (nt ?_))
       refine TC.region ?_
       refine wmi rfl rfl ?_
       refine q rfl rfl (addI rfl rfl (by omega) (by omega)) ?_
       refine wai rfl rfl ?_
       refine TL.nil (nt ?_)
       have htn : (joinF r0 x).D.length = 0 + (j + 1) + 1 + (r0.D.length - (j + 1)) := by omega
       have hjS : (joinF r0 x).S = r0.S := by rw [joinF]; split <;> rfl
       exact ⟨rfl, ⟨1, joinF r0 x, 1⟩, (.inr ⟨rfl, rfl, hj1.symm⟩), (by dsimp only; omega), ⟨rfl, rfl, rfl, rfl, trivial⟩, (ent_close (⟨(ad23, cap23), (a2, c2)⟩ : (Option Addr × Nat) × (Option Addr × Nat)) trivial (ent_takeE 0 rfl (by dsimp only; rw [htn, hjS] <;> rfl) (ent_takeE 0 rfl (by dsimp only; rw [htn, ← hth, List.nil_append, List.append_assoc] <;> rfl) (by dsimp only; rw [hjS]; exact (ent_take 2 rfl (ent_take 2 rfl (ent_nil _)))))))⟩
    ·have hm0 := of_decide_eq_false hm0
     obtain rfl : m = 0 := by omega
     have hlo : ∀ y ∈ r0.D.take 0, y ≤ x := fun y hy2 => by rw [List.take_zero] at hy2; cases hy2
     have hins := ins_eq (x := x) hsd hlo hmx
     obtain ⟨hth, htl⟩ := ths_join hy h0 hins
     refine dk rfl rfl rfl rfl ?_
     refine dk rfl rfl rfl rfl ?_
     refine dk rfl rfl rfl rfl ?_
     refine dk rfl rfl rfl rfl ?_
     refine dk rfl rfl rfl rfl ?_
     refine dk rfl rfl rfl rfl ?_
     refine dk rfl rfl rfl rfl ?_
     refine dk rfl rfl rfl rfl ?_
     refine dk rfl rfl rfl rfl ?_
     refine dk rfl rfl rfl rfl ?_
     refine dk rfl rfl rfl rfl ?_
     refine dk rfl rfl rfl rfl ?_
     refine dk rfl rfl rfl rfl ?_
     refine dk rfl rfl rfl rfl ?_
     refine dq rfl rfl rfl (pkF (v := .bool _) rfl rfl) ?_
     refine TD.nil (nt ?_)
     refine TC.condF rfl ?_
     refine TC.exit (et (et (eb (nt ?_))))
     refine TC.seq ?_
     refine TC.factSlc 1 rfl (fun _ hc1 _ => ?_)
     haveI : OffI (thsC r0) c1 0 3 := ⟨r0.D.length, by omega, by omega, hc1⟩
     refine TC.drawF _ [25] 26 rfl (by kernel_rfl) (by kernel_rfl) (ent_take 0 rfl (ent_take 0 rfl (ent_take 1 rfl (ent_nil _)))) ?_
     refine fq (i := 0) rfl rfl rfl (by kernel_rfl) (mv (v := .pointer _) rfl) ?_
     refine fq (i := 2) rfl rfl rfl (by kernel_rfl) (mv (v := .pointer _) rfl) ?_
     refine fq (i := 3) rfl rfl rfl (by kernel_rfl) (nc rfl) ?_
     refine fq (i := 4) rfl rfl rfl (by kernel_rfl) (fa 0 rfl rfl) ?_
     refine fq (i := 5) rfl rfl rfl (by kernel_rfl) (ld rfl rfl rfl) ?_
     refine fq (i := 6) rfl rfl rfl (by kernel_rfl) (mv (v := .int _ _) rfl) ?_
     refine fq (i := 7) rfl rfl rfl (by kernel_rfl) (slTn 115 3 (0) rfl rfl rfl (by omega) (by omega)) ?_
     refine fq (i := 9) rfl rfl rfl (by kernel_rfl) (mv (v := .slice _ _ _) rfl) ?_
     refine fq (i := 10) rfl rfl rfl (by kernel_rfl) (mv (v := .int _ _) rfl) ?_
     refine fq (i := 11) rfl rfl rfl (by kernel_rfl) (ixS 3 1 rfl rfl rfl (by omega) (by simp [ints_length] <;> omega)) ?_
     refine fq (i := 12) rfl rfl rfl (by kernel_rfl) (ldS rfl rfl (show (ints [x])[0]? = _ from rfl)) ?_
     refine fq (i := 13) rfl rfl rfl (by kernel_rfl) (bld (cs := ints [_, _, _]) rfl) ?_
     refine fq (i := 16) rfl rfl rfl (by kernel_rfl) (mv (v := .pointer _) rfl) ?_
     refine fq (i := 17) rfl rfl rfl (by kernel_rfl) (nc rfl) ?_
     refine fq (i := 18) rfl rfl rfl (by kernel_rfl) (fa 0 rfl rfl) ?_
     refine fq (i := 19) rfl rfl rfl (by kernel_rfl) (ld rfl rfl rfl) ?_
     refine fq (i := 20) rfl rfl rfl (by kernel_rfl) (mv (v := .int _ _) rfl) ?_
     refine fq (i := 21) rfl rfl rfl (by kernel_rfl) (slFn 115 3 (0) rfl rfl rfl (by omega) (by omega)) ?_
     refine ff (i := 1) (j := 14) rfl rfl rfl rfl (by kernel_rfl) ?_ ?_
     ·refine bs (cs := []) rfl ?_
      intro b5
      refine ⟨(ent_take 1 rfl (ent_take 1 rfl (ent_take 2 rfl (ent_nil _)))), ?_⟩
      refine ff (i := 8) (j := 14) rfl rfl rfl rfl (by kernel_rfl) ?_ ?_
      ·refine ap 24 rfl rfl rfl rfl rfl (by omega) (ths_take r0 0) (flat_one (thC_one r0) _) (by omega) (by simp only [maxLen]; omega) ?_
       intro ad6 cap6
       refine ⟨(ent_take 1 rfl (ent_take 1 rfl (ent_take 2 rfl (ent_nil _)))), ?_⟩
       refine TF.of [(14, true), (15, true), (22, true), (23, false), (24, false), (25, true)] (by kernel_rfl) rfl ?_
       refine de rfl rfl ?_
       refine bs (cs := ints [_, _, _]) rfl ?_
       intro b6
       refine ⟨(ent_take 2 rfl (ent_take 2 rfl (ent_take 3 rfl (ent_nil _)))), ?_⟩
       refine de rfl rfl ?_
       refine ap 24 rfl rfl rfl rfl rfl (Nat.le_of_ble_eq_true rfl) (show _ = ints [x, 0, -1] from rfl) rfl (by omega) (by simp only [maxLen]; omega) ?_
       intro ad7 cap7
       refine ⟨(ent_take 2 rfl (ent_take 2 rfl (ent_take 3 rfl (ent_nil _)))), ?_⟩
       refine de rfl rfl ?_
       refine ap 24 rfl rfl rfl rfl rfl (by rw [List.length_drop]; omega) (ths_drop r0 0) (flat_one (thC_one r0) _) (by omega) (by simp only [maxLen]; omega) ?_
       intro ad8 cap8
       refine ⟨(ent_take 2 rfl (ent_take 2 rfl (ent_take 3 rfl (ent_nil _)))), ?_⟩
       refine vnc rfl rfl rfl ?_
       refine vfa 0 rfl rfl rfl rfl ?_
       refine dl0 rfl rfl rfl ?_
       refine st (v := .slice _ _ _) (vs := [_]) 1 rfl rfl rfl rfl rfl rfl (Nat.le_of_ble_eq_true rfl) rfl ?_
       refine TD.nil (nt ?_)
       refine TC.region ?_
       refine wmi rfl rfl ?_
       refine q rfl rfl (addI rfl rfl (by omega) (by omega)) ?_
       refine wai rfl rfl ?_
       refine TL.nil (nb (nt ?_))
       refine TC.region ?_
       refine wmi rfl rfl ?_
       refine q rfl rfl (addI rfl rfl (by omega) (by omega)) ?_
       refine wai rfl rfl ?_
       refine TL.nil (nt ?_)
       have htn : (joinF r0 x).D.length = 0 + 0 + 1 + (r0.D.length - 0) := by omega
       have hjS : (joinF r0 x).S = r0.S := by rw [joinF]; split <;> rfl
       exact ⟨rfl, ⟨1, joinF r0 x, 1⟩, (.inr ⟨rfl, rfl, hj1.symm⟩), (by dsimp only; omega), ⟨rfl, rfl, rfl, rfl, trivial⟩, (ent_close (⟨(ad8, cap8), (a2, c2)⟩ : (Option Addr × Nat) × (Option Addr × Nat)) trivial (ent_takeE 0 rfl (by dsimp only; rw [htn, hjS] <;> rfl) (ent_takeE 0 rfl (by dsimp only; rw [htn, ← hth, List.nil_append, List.append_assoc] <;> rfl) (by dsimp only; rw [hjS]; exact (ent_take 2 rfl (ent_take 2 rfl (ent_nil _)))))))⟩
      ·refine bs (cs := ints [_, _, _]) rfl ?_
       intro b7
       refine ⟨(ent_take 2 rfl (ent_take 2 rfl (ent_take 3 rfl (ent_nil _)))), ?_⟩
       refine TF.of [(8, true), (15, true), (22, true), (23, false), (24, false), (25, true)] (by kernel_rfl) rfl ?_
       refine de rfl rfl ?_
       refine ap 24 rfl rfl rfl rfl rfl (by omega) (ths_take r0 0) (flat_one (thC_one r0) _) (by omega) (by simp only [maxLen]; omega) ?_
       intro ad9 cap9
       refine ⟨(ent_take 2 rfl (ent_take 2 rfl (ent_take 3 rfl (ent_nil _)))), ?_⟩
       refine de rfl rfl ?_
       refine ap 24 rfl rfl rfl rfl rfl (Nat.le_of_ble_eq_true rfl) (show _ = ints [x, 0, -1] from rfl) rfl (by omega) (by simp only [maxLen]; omega) ?_
       intro ad10 cap10
       refine ⟨(ent_take 2 rfl (ent_take 2 rfl (ent_take 3 rfl (ent_nil _)))), ?_⟩
       refine de rfl rfl ?_
       refine ap 24 rfl rfl rfl rfl rfl (by rw [List.length_drop]; omega) (ths_drop r0 0) (flat_one (thC_one r0) _) (by omega) (by simp only [maxLen]; omega) ?_
       intro ad11 cap11
       refine ⟨(ent_take 2 rfl (ent_take 2 rfl (ent_take 3 rfl (ent_nil _)))), ?_⟩
       refine vnc rfl rfl rfl ?_
       refine vfa 0 rfl rfl rfl rfl ?_
       refine dl0 rfl rfl rfl ?_
       refine st (v := .slice _ _ _) (vs := [_]) 1 rfl rfl rfl rfl rfl rfl (Nat.le_of_ble_eq_true rfl) rfl ?_
       refine TD.nil (nt ?_)
       refine TC.region ?_
       refine wmi rfl rfl ?_
       refine q rfl rfl (addI rfl rfl (by omega) (by omega)) ?_
       refine wai rfl rfl ?_
       refine TL.nil (nb (nt ?_))
       refine TC.region ?_
       refine wmi rfl rfl ?_
       refine q rfl rfl (addI rfl rfl (by omega) (by omega)) ?_
       refine wai rfl rfl ?_
       refine TL.nil (nt ?_)
       have htn : (joinF r0 x).D.length = 0 + 0 + 1 + (r0.D.length - 0) := by omega
       have hjS : (joinF r0 x).S = r0.S := by rw [joinF]; split <;> rfl
       exact ⟨rfl, ⟨1, joinF r0 x, 1⟩, (.inr ⟨rfl, rfl, hj1.symm⟩), (by dsimp only; omega), ⟨rfl, rfl, rfl, rfl, trivial⟩, (ent_close (⟨(ad11, cap11), (a2, c2)⟩ : (Option Addr × Nat) × (Option Addr × Nat)) trivial (ent_takeE 0 rfl (by dsimp only; rw [htn, hjS] <;> rfl) (ent_takeE 0 rfl (by dsimp only; rw [htn, ← hth, List.nil_append, List.append_assoc] <;> rfl) (by dsimp only; rw [hjS]; exact (ent_take 2 rfl (ent_take 2 rfl (ent_nil _)))))))⟩
     ·refine bs (cs := ints [_, _, _]) rfl ?_
      intro b8
      refine ⟨(ent_take 1 rfl (ent_take 1 rfl (ent_take 2 rfl (ent_nil _)))), ?_⟩
      refine TF.of [(1, true), (8, true), (15, true), (22, true), (23, false), (24, false), (25, true)] (by kernel_rfl) rfl ?_
      refine de rfl rfl ?_
      refine bs (cs := []) rfl ?_
      intro b9
      refine ⟨(ent_take 2 rfl (ent_take 2 rfl (ent_take 3 rfl (ent_nil _)))), ?_⟩
      refine de rfl rfl ?_
      refine ap 24 rfl rfl rfl rfl rfl (by omega) (ths_take r0 0) (flat_one (thC_one r0) _) (by omega) (by simp only [maxLen]; omega) ?_
      intro ad12 cap12
      refine ⟨(ent_take 2 rfl (ent_take 2 rfl (ent_take 3 rfl (ent_nil _)))), ?_⟩
      refine de rfl rfl ?_
      refine ap 24 rfl rfl rfl rfl rfl (Nat.le_of_ble_eq_true rfl) (show _ = ints [x, 0, -1] from rfl) rfl (by omega) (by simp only [maxLen]; omega) ?_
      intro ad13 cap13
      refine ⟨(ent_take 2 rfl (ent_take 2 rfl (ent_take 3 rfl (ent_nil _)))), ?_⟩
      refine de rfl rfl ?_
      refine ap 24 rfl rfl rfl rfl rfl (by rw [List.length_drop]; omega) (ths_drop r0 0) (flat_one (thC_one r0) _) (by omega) (by simp only [maxLen]; omega) ?_
      intro ad14 cap14
      refine ⟨(ent_take 2 rfl (ent_take 2 rfl (ent_take 3 rfl (ent_nil _)))), ?_⟩
      refine vnc rfl rfl rfl ?_
      refine vfa 0 rfl rfl rfl rfl ?_
      refine dl0 rfl rfl rfl ?_
      refine st (v := .slice _ _ _) (vs := [_]) 1 rfl rfl rfl rfl rfl rfl (Nat.le_of_ble_eq_true rfl) rfl ?_
      refine TD.nil (nt ?_)
      refine TC.region ?_
      refine wmi rfl rfl ?_
      refine q rfl rfl (addI rfl rfl (by omega) (by omega)) ?_
      refine wai rfl rfl ?_
      refine TL.nil (nb (nt ?_))
      refine TC.region ?_
      refine wmi rfl rfl ?_
      refine q rfl rfl (addI rfl rfl (by omega) (by omega)) ?_
      refine wai rfl rfl ?_
      refine TL.nil (nt ?_)
      have htn : (joinF r0 x).D.length = 0 + 0 + 1 + (r0.D.length - 0) := by omega
      have hjS : (joinF r0 x).S = r0.S := by rw [joinF]; split <;> rfl
      exact ⟨rfl, ⟨1, joinF r0 x, 1⟩, (.inr ⟨rfl, rfl, hj1.symm⟩), (by dsimp only; omega), ⟨rfl, rfl, rfl, rfl, trivial⟩, (ent_close (⟨(ad14, cap14), (a2, c2)⟩ : (Option Addr × Nat) × (Option Addr × Nat)) trivial (ent_takeE 0 rfl (by dsimp only; rw [htn, hjS] <;> rfl) (ent_takeE 0 rfl (by dsimp only; rw [htn, ← hth, List.nil_append, List.append_assoc] <;> rfl) (by dsimp only; rw [hjS]; exact (ent_take 2 rfl (ent_take 2 rfl (ent_nil _)))))))⟩
 ·obtain ⟨rfl, rfl, rfl⟩ : k = 1 ∧ r0 = joinF r x ∧ n = joinNF r x := by
   rcases hk with ⟨h, _, _⟩ | h
   ·omega
   ·exact h
  refine TC.exit (et (et (eb (nt ?_))))
  refine TC.seq ?_
  refine TC.region ?_
  refine wmi rfl rfl ?_
  refine wai rfl rfl ?_
  refine TL.nil (nt ?_)
  refine TC.ret ?_
  exact Ret.i () [_] ⟨rfl, trivial⟩ rfl trivial (ent_take 0 rfl (ent_take 0 rfl (ent_nil _)))
end Go.Proofs.YtdfmfhcjnjfjbaaGreat
namespace Go.Proofs.YtdfmfhcjnjfjbaaGreat
open Go Go.QM
structure MR (s : MS) (r : Rf) : Prop where
 D : r.D = sortI s.ids
 st : ∀ x ∈ s.ids, r.st x = s.st x
 cl : ∀ x ∈ s.ids, r.cl x = s.cl x
 to : ∀ u ∈ r.S, u.to ∈ s.ids
 row : ∀ x ∈ s.ids, rowF r.S x = s.row x
def r0F : Rf := ⟨[], fun _ => 0, fun _ => 0, []⟩
theorem MR.zero : MR s0 r0F := ⟨(List.eq_nil_of_length_eq_zero (by rw [sortI_len]; rfl)).symm, fun _ h => (List.not_mem_nil h).elim, fun _ h => (List.not_mem_nil h).elim, fun _ h => (List.not_mem_nil h).elim, fun _ h => (List.not_mem_nil h).elim⟩
theorem MR.mem {s : MS} {r : Rf} (h : MR s r) {x : Int} : x ∈ r.D ↔ x ∈ s.ids := by rw [h.D]; exact sortI_mem
theorem MR.nd {s : MS} {r : Rf} (h : MR s r) (hW : WM s) : r.D.Nodup := by rw [h.D]; exact (sortI_perm _).nodup_iff.2 hW.nd
theorem MR.len {s : MS} {r : Rf} (h : MR s r) : r.D.length = s.ids.length := by rw [h.D]; exact sortI_len _
theorem MR.srt {s : MS} {r : Rf} (h : MR s r) : r.D.Pairwise (· ≤ ·) := by rw [h.D]; exact sortI_sorted _
theorem rowF_fil (p : Off → Bool) (x : Int) : ∀ S : List Sn, rowF (S.filter fun u => p u.o) x = (rowF S x).filter p
 | [] => rfl
 | u :: S => by
  have ih := rowF_fil p x S
  have e : ∀ T : List Sn, rowF (u :: T) x = (if u.to = x then [u.o] else []) ++ rowF T x := fun T => by
   rw [rowF, rowF]
   split
   ·rename_i h; rw [List.filter_cons_of_pos (by simpa using h)]; rfl
   ·rename_i h; rw [List.filter_cons_of_neg (by simpa using h)]; rfl
  rw [e, List.filter_append, ← ih]
  by_cases hp : p u.o = true
  ·rw [List.filter_cons_of_pos (p := fun u : Sn => p u.o) hp, e]
   congr 1
   split
   ·rw [List.filter_cons_of_pos hp]; rfl
   ·rfl
  ·rw [List.filter_cons_of_neg (p := fun u : Sn => p u.o) hp]
   split
   ·rw [List.filter_cons_of_neg hp]; rfl
   ·rfl
theorem rowF_app (S : List Sn) (u : Sn) (x : Int) : rowF (S ++ [u]) x = rowF S x ++ if u.to = x then [u.o] else [] := by
 rw [rowF, List.filter_append, List.map_append, rowF]
 split
 ·rename_i h; rw [List.filter_cons_of_pos (by simpa using h)]; rfl
 ·rename_i h; rw [List.filter_cons_of_neg (by simpa using h)]; rfl
theorem rowF_mem {S : List Sn} {u : Sn} (h : u ∈ S) : u.o ∈ rowF S u.to := List.mem_map.2 ⟨u, List.mem_filter.2 ⟨h, by simp⟩, rfl⟩
theorem updI_eq {f g : Int → Int} {a x v : Int} (h : x ≠ a → f x = g x) : updI f a v x = updI g a v x := by
 by_cases e : x = a
 ·rw [e, updI_same, updI_same]
 ·rw [updI_ne e, updI_ne e]; exact h e
theorem MR.stE {s : MS} {r : Rf} (h : MR s r) (id : Int) : stR s id = stF r id := by
 rw [stR, stF]
 by_cases hi : id ∈ s.ids
 ·rw [if_pos hi, if_pos (h.mem.2 hi), h.st id hi]
 ·rw [if_neg hi, if_neg (fun h2 => hi (h.mem.1 h2))]
theorem MR.clE {s : MS} {r : Rf} (h : MR s r) (id : Int) : clR s id = clF r id := by
 rw [clR, clF]
 by_cases hi : id ∈ s.ids
 ·rw [if_pos hi, if_pos (h.mem.2 hi), h.cl id hi]
 ·rw [if_neg hi, if_neg (fun h2 => hi (h.mem.1 h2))]
theorem MR.rowE {s : MS} {r : Rf} (h : MR s r) {id : Int} (hi : id ∈ s.ids) : rowR s id = rowF r.S id := by
 rw [rowR, if_pos hi, h.row id hi]
theorem MR.opens {s : MS} {r : Rf} (h : MR s r) (id : Int) : (openS s id).2 = (openF r id).2 ∧ MR (openS s id).1 (openF r id).1 := by
 rw [openS, openF]
 by_cases hi : id ∈ s.ids
 ·rw [if_neg (show ¬ (id ∉ s.ids) from fun h2 => h2 hi), if_neg (show ¬ (id ∉ r.D) from fun h2 => h2 (h.mem.2 hi)), h.st id hi, h.row id hi]
  split
  ·exact ⟨rfl, h⟩
  ·exact ⟨rfl, h.D, fun x hx => updI_eq fun _ => h.st x hx, h.cl, h.to, h.row⟩
 ·rw [if_pos hi, if_pos (show id ∉ r.D from fun h2 => hi (h.mem.1 h2))]; exact ⟨rfl, h⟩
theorem MR.offer {s : MS} {r : Rf} (h : MR s r) (to : Int) (o : Off) : (offS s to o).2 = (offerF r to o).2 ∧ MR (offS s to o).1 (offerF r to o).1 := by
 rw [offS, offerF]
 by_cases hi : to ∉ s.ids ∨ o.fr ∉ s.ids
 ·rw [if_pos hi, if_pos (hi.imp (fun h2 h3 => h2 (h.mem.1 h3)) (fun h2 h3 => h2 (h.mem.1 h3)))]; exact ⟨rfl, h⟩
 ·have hi2 : ¬ (to ∉ r.D ∨ o.fr ∉ r.D) := fun h2 => hi (h2.imp (fun h3 h4 => h3 (h.mem.2 h4)) (fun h3 h4 => h3 (h.mem.2 h4)))
  rw [if_neg hi, if_neg hi2]
  have ht : to ∈ s.ids := Decidable.not_not.1 fun h2 => hi (.inl h2)
  have hf : o.fr ∈ s.ids := Decidable.not_not.1 fun h2 => hi (.inr h2)
  split
  ·exact ⟨rfl, h⟩
  ·rw [h.st _ hf]
   split
   ·exact ⟨rfl, h⟩
   ·refine ⟨rfl, h.D, fun x hx => updI_eq fun _ => h.st x hx, h.cl, fun u hu => ?_, fun x hx => ?_⟩
    ·rcases List.mem_append.1 hu with hu | hu
     ·exact h.to u hu
     ·rw [List.mem_singleton.1 hu]; exact ht
    ·show rowF (r.S ++ [(⟨to, o⟩ : Sn)]) x = updI s.row to (s.row to ++ [o]) x
     rw [rowF_app]
     by_cases e : to = x
     ·rw [if_pos e, ← e, updI_same, h.row to ht]
     ·rw [if_neg e, List.append_nil, updI_ne (Ne.symm e), h.row x hx]
theorem WM.cl_neg {s : MS} (h : WM s) {x : Int} (hx : x ∈ s.ids) : s.cl x = -1 ∨ 0 ≤ s.cl x := by
 by_cases hc : s.cl x = -1
 ·exact .inl hc
 ·exact .inr (h.ge _ (h.cal x hx hc).1)
theorem MR.answer {s : MS} {r : Rf} (hW : WM s) (h : MR s r) (id : Int) : (ansS s id).2 = (answerF r id).2 ∧ MR (ansS s id).1 (answerF r id).1 := by
 rw [ansS, answerF]
 by_cases hi : id ∈ s.ids
 ·rw [if_neg (show ¬ (id ∉ s.ids) from fun h2 => h2 hi), if_neg (show ¬ (id ∉ r.D) from fun h2 => h2 (h.mem.2 hi)), h.st id hi, h.cl id hi]
  split
  ·exact ⟨rfl, h⟩
  ·rcases hW.cl_neg hi with hc | hc
   ·rw [if_pos hc, if_pos (by omega)]; exact ⟨rfl, h⟩
   ·rw [if_neg (by omega), if_neg (by omega)]
    exact ⟨rfl, h.D, fun x hx => updI_eq fun _ => h.st x hx, fun x hx => updI_eq fun _ => h.cl x hx, h.to, h.row⟩
 ·rw [if_pos hi, if_pos (show id ∉ r.D from fun h2 => hi (h.mem.1 h2))]; exact ⟨rfl, h⟩
theorem fil_self {R : List Off} {id : Int} (h : ∀ o ∈ R, o.fr ≠ id) : R.filter (fun o => decide (o.fr ≠ id)) = R := List.filter_eq_self.2 fun o ho => by simpa using h o ho
theorem MR.call {s : MS} {r : Rf} (hW : WM s) (h : MR s r) (id : Int) : (callS s id).2 = (callF r id).2 ∧ MR (callS s id).1 (callF r id).1 := by
 rw [callS, callF]
 by_cases hi : id ∈ s.ids
 ·rw [if_neg (show ¬ (id ∉ s.ids) from fun h2 => h2 hi), if_neg (show ¬ (id ∉ r.D) from fun h2 => h2 (h.mem.2 hi)), h.st id hi]
  by_cases h0 : s.st id = 0
  ·rw [if_pos h0, if_pos h0]; exact ⟨rfl, h⟩
  ·rw [if_neg h0, if_neg h0]
   have hge := hW.ge id hi
   have hst : ∀ x ∈ s.ids, (setF (clrF (offF r id) id r.D) id 0).st x = updI s.st id 0 x := fun x hx => updI_eq fun _ => h.st x hx
   have hto : ∀ u ∈ (setF (clrF (offF r id) id r.D) id 0).S, u.to ∈ s.ids := fun u hu => h.to u (List.mem_filter.1 hu).1
   have hrow : ∀ x ∈ s.ids, rowF (setF (clrF (offF r id) id r.D) id 0).S x = (s.row x).filter (fun o => decide (o.fr ≠ id)) := fun x hx => by
    show rowF (r.S.filter fun u => decide (u.o.fr ≠ id)) x = _
    rw [rowF_fil (fun o => decide (o.fr ≠ id)), h.row x hx]
   have hcl : ∀ x ∈ s.ids, (setF (clrF (offF r id) id r.D) id 0).cl x = if s.cl x = id then -1 else s.cl x := fun x hx => by
    show (if x ∈ r.D ∧ r.cl x = id then (-1 : Int) else r.cl x) = _
    rw [h.cl x hx]
    by_cases e : s.cl x = id
    ·rw [if_pos ⟨h.mem.2 hx, e⟩, if_pos e]
    ·rw [if_neg (fun h2 => e h2.2), if_neg e]
   have hask : ∀ x ∈ s.ids, s.cl x = id → s.st id = 3 ∧ s.pn id = x := fun x hx e => by
    have := hW.cal x hx (by omega)
    rw [e] at this; exact this.2.2
   have hsnd : ∀ x ∈ s.ids, ∀ o ∈ s.row x, o.fr = id → s.st id = 1 ∧ s.pn id = x := fun x hx o ho e => by
    have := hW.row x hx o ho
    rw [e] at this; exact this.2.2
   by_cases h1 : s.st id = 1
   ·rw [if_pos h1]
    refine ⟨rfl, h.D, hst, fun x hx => ?_, hto, fun x hx => ?_⟩
    ·rw [hcl x hx, if_neg (fun e => by have := hask x hx e; omega)]; rfl
    ·rw [hrow x hx]
     show _ = updI s.row (s.pn id) ((s.row (s.pn id)).filter (notO fun o => decide (o.fr = id))) x
     by_cases e : x = s.pn id
     ·rw [e, updI_same]
      refine List.filter_congr fun o _ => ?_
      by_cases e2 : o.fr = id
      ·rw [notO, decide_eq_true e2, decide_eq_false (fun h => h e2)]; rfl
      ·rw [notO, decide_eq_false e2, decide_eq_true e2]; rfl
     ·rw [updI_ne e, fil_self fun o ho e2 => e (hsnd x hx o ho e2).2.symm]
   ·rw [if_neg h1]
    have hr2 : ∀ x ∈ s.ids, (s.row x).filter (fun o => decide (o.fr ≠ id)) = s.row x := fun x hx => fil_self fun o ho e2 => h1 (hsnd x hx o ho e2).1
    by_cases h3 : s.st id = 3
    ·rw [if_pos h3]
     refine ⟨rfl, h.D, hst, fun x hx => ?_, hto, fun x hx => by rw [hrow x hx]; exact hr2 x hx⟩
     rw [hcl x hx]
     show _ = updI s.cl (s.pn id) (-1) x
     by_cases e : x = s.pn id
     ·rw [e, updI_same, if_pos (hW.ask id hi h3).2]
     ·rw [updI_ne e, if_neg (fun e2 => e (hask x hx e2).2.symm)]
    ·rw [if_neg h3]
     refine ⟨rfl, h.D, hst, fun x hx => ?_, hto, fun x hx => by rw [hrow x hx]; exact hr2 x hx⟩
     rw [hcl x hx, if_neg (fun e => h3 (hask x hx e).1)]; rfl
 ·rw [if_pos hi, if_pos (show id ∉ r.D from fun h2 => hi (h.mem.1 h2))]; exact ⟨rfl, h⟩
theorem MR.take {s : MS} {r : Rf} (hW : WM s) (h : MR s r) (to : Int) : (takeS s to).2 = (takeF r to).2 ∧ MR (takeS s to).1 (takeF r to).1 := by
 rw [takeS, takeF]
 by_cases hi : to ∈ s.ids
 ·rw [if_neg (show ¬ (to ∉ s.ids) from fun h2 => h2 hi), if_neg (show ¬ (to ∉ r.D) from fun h2 => h2 (h.mem.2 hi)), h.st to hi, h.row to hi]
  split
  ·exact ⟨rfl, h⟩
  ·cases hr : s.row to with
   | nil => exact ⟨rfl, h⟩
   | cons o R =>
    dsimp only
    have hom : o ∈ s.row to := by rw [hr]; exact List.mem_cons_self
    have ho := hW.row to hi o hom
    have hnr := hW.nr to hi
    rw [hr] at hnr
    have hrow : ∀ x ∈ s.ids, rowF (r.S.filter fun u => decide (u.o.fr ≠ o.fr)) x = updI s.row to R x := fun x hx => by
     rw [rowF_fil (fun u => decide (u.fr ≠ o.fr)), h.row x hx]
     by_cases e : x = to
     ·rw [e, updI_same, hr]
      have := filter_head hnr
      simpa using this
     ·rw [updI_ne e]
      exact fil_self fun u hu e2 => by
       have := hW.row x hx u hu
       rw [e2] at this
       exact e (this.2.2.2.symm.trans ho.2.2.2)
    have hto : ∀ u ∈ r.S.filter (fun u => decide (u.o.fr ≠ o.fr)), u.to ∈ s.ids := fun u hu => h.to u (List.mem_filter.1 hu).1
    split
    ·rw [h.cl to hi]
     split
     ·refine ⟨rfl, h.D, fun x hx => ?_, fun x hx => updI_eq fun _ => h.cl x hx, hto, hrow⟩
      exact updI_eq fun _ => updI_eq fun _ => updI_eq fun _ => updI_eq fun _ => h.st x hx
     ·rename_i hc
      refine ⟨rfl, h.D, fun x hx => ?_, fun x hx => updI_eq fun _ => h.cl x hx, hto, hrow⟩
      refine updI_eq fun _ => ?_
      have hne : x ≠ s.cl to := fun e => by have := hW.ge x hx; omega
      show updI _ (s.cl to) 0 x = _
      rw [updI_ne hne]
      exact updI_eq fun _ => updI_eq fun _ => h.st x hx
    ·refine ⟨rfl, h.D, fun x hx => ?_, h.cl, hto, hrow⟩
     exact updI_eq fun _ => updI_eq fun _ => h.st x hx
 ·rw [if_pos hi, if_pos (show to ∉ r.D from fun h2 => hi (h.mem.1 h2))]; exact ⟨rfl, h⟩
theorem fold_go : ∀ (l : List Int) (r : Rf), l.foldl goF r = ⟨r.D, fun x => if x ∈ l then 0 else r.st x, r.cl, r.S.filter fun u => decide (u.o.fr ∉ l)⟩
 | [], r => by
  have h1 : (fun x => if x ∈ ([] : List Int) then (0 : Int) else r.st x) = r.st := funext fun x => if_neg List.not_mem_nil
  have h2 : r.S.filter (fun u => decide (u.o.fr ∉ ([] : List Int))) = r.S := List.filter_eq_self.2 fun u _ => by simp
  rw [h1, h2]; rfl
 | y :: l, r => by
  rw [List.foldl_cons, fold_go l]
  simp only [goF, setF, offF, Rf.mk.injEq, true_and, List.filter_filter]
  constructor
  ·funext x
   by_cases h : x ∈ l
   ·rw [if_pos h, if_pos (by simp [h])]
   ·rw [if_neg h]
    by_cases e : x = y
    ·rw [if_pos (by simp [e]), e, updI_same]
    ·rw [if_neg (by simp [e, h]), updI_ne e]
  ·refine List.filter_congr fun u _ => ?_
   simp only [List.mem_cons, not_or]
   by_cases h1 : u.o.fr = y <;> by_cases h2 : u.o.fr ∈ l <;> simp [h1, h2]
theorem MR.goneE {s : MS} {r : Rf} (hW : WM s) (h : MR s r) {id : Int} (hi : id ∈ s.ids) : outF r id = goneL s id := by
 rw [outF, goneL, h.row id hi, clF, if_pos (h.mem.2 hi), h.cl id hi]
 rcases hW.cl_neg hi with hc | hc
 ·rw [if_neg (by omega), if_neg (fun h2 => h2 hc)]
 ·rw [if_pos hc, if_pos (by omega)]
theorem MR.leave1 {s : MS} {r : Rf} (hW : WM s) (h : MR s r) {id : Int} (hi : id ∈ s.ids) : MR (dropS (frL (rowS s id []) (goneL s id)) id) (dropF ((goneL s id).foldl goF r) id) := by
 rw [fold_go]
 have hp : ∀ z ∈ goneL s id, s.pn z = id := fun z hz => (gone_mem hW hi hz).2.2.1
 have hm : ∀ {x : Int}, x ∈ (dropS (frL (rowS s id []) (goneL s id)) id).ids → x ∈ s.ids ∧ x ≠ id := fun hx => by simpa [dropS, frL, rowS] using hx
 refine ⟨?_, fun x hx => ?_, fun x hx => h.cl x (hm hx).1, fun u hu => ?_, fun x hx => ?_⟩
 ·show r.D.filter _ = sortI (s.ids.filter _)
  rw [h.D]
  refine List.Perm.eq_of_pairwise (le := fun a c => a ≤ c) (fun a c _ _ h1 h2 => by omega) ((sortI_sorted _).sublist List.filter_sublist) (sortI_sorted _) ?_
  exact ((sortI_perm _).filter _).trans (sortI_perm _).symm
 ·show (if x ∈ goneL s id then (0 : Int) else r.st x) = if x ∈ goneL s id then 0 else s.st x
  rw [h.st x (hm hx).1]
 ·obtain ⟨hu1, hu2⟩ := List.mem_filter.1 hu
  have hut := h.to u hu1
  refine List.mem_filter.2 ⟨hut, ?_⟩
  simp only [decide_eq_true_eq] at hu2 ⊢
  intro e
  refine hu2 (List.mem_append.2 (.inl (List.mem_map.2 ⟨u.o, ?_, rfl⟩)))
  have := rowF_mem hu1
  rw [e, h.row id hi] at this; exact this
 ·obtain ⟨hx1, hx2⟩ := hm hx
  show rowF (r.S.filter fun u => decide (u.o.fr ∉ goneL s id)) x = updI s.row id [] x
  rw [rowF_fil (fun o => decide (o.fr ∉ goneL s id)), h.row x hx1, updI_ne hx2]
  exact hW.others hx1 hp hx2
theorem MR.leave {s : MS} {r : Rf} (hW : WM s) (h : MR s r) (id : Int) : (leaveS s id).2 = (leaveF r id).2 ∧ MR (leaveS s id).1 (leaveF r id).1 := by
 rw [leaveS, leaveF]
 by_cases hi : id ∈ s.ids
 ·rw [if_neg (show ¬ (id ∉ s.ids) from fun h2 => h2 hi), if_neg (show ¬ (id ∉ r.D) from fun h2 => h2 (h.mem.2 hi))]
  obtain ⟨_, hi2⟩ := call_st s id hi
  have hW1 := hW.call id
  have h1 := (h.call hW id).2
  have hi1 : id ∈ (callS s id).1.ids := by rw [hi2]; exact hi
  have hg := h1.goneE hW1 hi1
  rw [hg]
  exact ⟨rfl, h1.leave1 hW1 hi1⟩
 ·rw [if_pos hi, if_pos (show id ∉ r.D from fun h2 => hi (h.mem.1 h2))]; exact ⟨rfl, h⟩
theorem flat_cong {α β : Type} {f g : α → List β} : ∀ {l : List α}, (∀ a ∈ l, f a = g a) → l.flatMap f = l.flatMap g
 | [], _ => rfl
 | a :: l, h => by rw [List.flatMap_cons, List.flatMap_cons, h a (by simp), flat_cong fun b hb => h b (by simp [hb])]
theorem MR.close {s : MS} {r : Rf} (hW : WM s) (h : MR s r) (g : Int) : (closeS s g).2 = (closeF r g).2 ∧ MR (closeS s g).1 (closeF r g).1 := by
 have hg : thrF r g r.D = goneC s g (sortI s.ids) := by
  rw [thrF, goneC, h.D]
  exact flat_cong fun x hx => by rw [h.row x (sortI_mem.1 hx)]
 rw [closeS, closeF, hg]
 refine ⟨rfl, ?_⟩
 dsimp only
 rw [fold_go]
 refine ⟨h.D, fun x hx => ?_, h.cl, fun u hu => h.to u (List.mem_filter.1 hu).1, fun x hx => ?_⟩
 ·show (if x ∈ goneC s g (sortI s.ids) then (0 : Int) else r.st x) = if x ∈ goneC s g (sortI s.ids) then 0 else s.st x
  rw [h.st x hx]
 ·have hx : x ∈ s.ids := hx
  show rowF (r.S.filter fun u => decide (u.o.fr ∉ goneC s g (sortI s.ids))) x = if x ∈ sortI s.ids then (s.row x).filter (notO (thru g)) else s.row x
  rw [rowF_fil (fun o => decide (o.fr ∉ goneC s g (sortI s.ids))), h.row x hx, if_pos (sortI_mem.2 hx)]
  refine List.filter_congr fun o ho => ?_
  rw [notO, thru, Bool.eq_iff_iff]
  simp only [Bool.not_eq_true', decide_eq_false_iff_not, decide_eq_true_eq, goneC_mem]
  constructor
  ·intro h1 h2
   exact h1 ⟨x, sortI_mem.2 hx, o, ho, h2, rfl⟩
  ·rintro h1 ⟨y, hy, u, hu, h2, h3⟩
   have := hW.one hx (sortI_mem.1 hy) ho hu h3.symm
   rw [this.2] at h1; exact h1 h2
theorem MR.join {s : MS} {r : Rf} (h : MR s r) (x : Int) : ((joinL s [x]).ids.length - s.ids.length : Int) = joinNF r x ∧ MR (joinL s [x]) (joinF r x) := by
 show (((joinS s x).ids.length : Int) - s.ids.length = joinNF r x) ∧ MR (joinS s x) (joinF r x)
 rw [joinS, joinF, joinNF]
 by_cases hi : x ∈ s.ids ∨ x < 0
 ·have hi2 : x ∈ r.D ∨ x < 0 := hi.imp h.mem.2 id
  rw [if_pos hi, if_pos hi2, if_pos hi2]; exact ⟨Int.sub_self _, h⟩
 ·have hi2 : ¬ (x ∈ r.D ∨ x < 0) := fun h2 => hi (h2.imp h.mem.1 id)
  rw [if_neg hi, if_neg hi2, if_neg hi2]
  have hx : x ∉ s.ids := fun h2 => hi (.inl h2)
  refine ⟨by rw [List.length_append, List.length_singleton]; omega, ?_, fun y hy => updI_eq fun hn => ?_, fun y hy => updI_eq fun hn => ?_, fun u hu => List.mem_append.2 (.inl (h.to u hu)), fun y hy => ?_⟩
  ·show sortI (r.D ++ [x]) = sortI (s.ids ++ [x])
   rw [h.D]; exact sortI_uniq ((sortI_perm _).append_right _)
  ·exact h.st y ((List.mem_append.1 hy).resolve_right fun h2 => hn (List.mem_singleton.1 h2))
  ·exact h.cl y ((List.mem_append.1 hy).resolve_right fun h2 => hn (List.mem_singleton.1 h2))
  ·show rowF r.S y = updI s.row x [] y
   by_cases e : y = x
   ·rw [e, updI_same, rowF, List.filter_eq_nil_iff.2, List.map_nil]
    intro u hu
    simp only [decide_eq_true_eq]
    exact fun e2 => hx (e2 ▸ h.to u hu)
   ·rw [updI_ne e]
    exact h.row y ((List.mem_append.1 hy).resolve_right fun h2 => e (List.mem_singleton.1 h2))
end Go.Proofs.YtdfmfhcjnjfjbaaGreat
namespace Go.Proofs.YtdfmfhcjnjfjbaaGreat.Rd
open Go Go.QM
def rthC (t : Th) : List Value := ints [t.id, t.prio, t.whole, t.left]
theorem rthC_sz (t : Th) : (rthC t).length = 4 := rfl
def rthsC (S : List Th) : List Value := S.flatMap rthC
theorem rthsC_length (S : List Th) : (rthsC S).length = S.length * 4 := flat_length rthC_sz S
theorem rths_take (S : List Th) (k : Nat) : (rthsC S).take (k * 4) = rthsC (S.take k) := flat_take rthC_sz S k
theorem rths_drop (S : List Th) (k : Nat) : ((rthsC S).drop (k * 4)).take ((S.length - k) * 4) = rthsC (S.drop k) := by
 rw [List.take_of_length_le (by rw [List.length_drop, rthsC_length]; omega)]; exact flat_drop rthC_sz S k
theorem rths_all (S : List Th) : (rthsC S).take (S.length * 4) = rthsC S := List.take_of_length_le (by rw [rthsC_length]; omega)
theorem rths_one : ∀ (S : List Th), (rthsC S).all Value.oneCell' = true
 | [] => rfl
 | t :: S => by have := rths_one S; rw [rthsC] at this ⊢; rw [List.flatMap_cons, List.all_append, this]; rfl
theorem rths_app (S T : List Th) : rthsC S ++ rthsC T = rthsC (S ++ T) := by simp [rthsC]
def isRq (b : LC) (S : List Th) : HP := EX fun y : Option Addr × Nat => pure' True (sepL [pts b.n 60 [b.x0, .slice y.1 S.length y.2, b.x2, b.x3, b.x4, b.x5, b.x6, b.x7], slc 111 4 y.1 S.length y.2 (rthsC S)])
def atS (S : List Th) (id : Int) : Int := match S.findIdx? fun x => decide (x.id = id) with
 | some i => (i : Int)
 | none => -1
theorem atS_no {S : List Th} {id : Int} (h : ¬ hasS S id) : atS S id = -1 := by
 have : S.findIdx? (fun x => decide (x.id = id)) = none := by
  rw [List.findIdx?_eq_none_iff]; intro x hx; simp only [decide_eq_false_iff_not]; exact fun e2 => h ⟨x, hx, e2⟩
 rw [atS, this]
theorem atS_yes {S : List Th} {id : Int} (h : hasS S id) : ∃ i x, atS S id = ((i : Nat) : Int) ∧ S[i]? = some x ∧ x.id = id := by
 cases hf : S.findIdx? (fun x => decide (x.id = id)) with
 | none =>
  obtain ⟨x, hx, h1⟩ := h
  rw [List.findIdx?_eq_none_iff] at hf
  have := hf x hx; simp [h1] at this
 | some i =>
  obtain ⟨x, h1, h2⟩ := find_of_findIdx hf
  have := List.find?_some h2
  exact ⟨i, x, by rw [atS, hf], h1, by simpa using this⟩
theorem cutS_off {S : List Th} {i : Nat} {x : Th} (hn : NdS S) (hx : S[i]? = some x) : S.take i ++ S.drop (i + 1) = offS S x.id := by
 have hp := perm_take hx
 have hs : ∀ a ∈ S.take i ++ S.drop (i + 1), a.id ≠ x.id := fun a ha e2 => (List.nodup_cons.1 (hn.perm hp.symm)).1 (List.mem_map.2 ⟨a, ha, e2⟩)
 obtain ⟨h1, h2⟩ := List.getElem?_eq_some_iff.1 hx
 have hQ : S = S.take i ++ x :: S.drop (i + 1) := by rw [← h2, ← List.drop_eq_getElem_cons h1, List.take_append_drop]
 conv => rhs; rw [hQ]
 rw [offS, List.filter_append, List.filter_cons_of_neg (by simp)]
 rw [List.filter_eq_self.2 (fun a ha => by simpa using hs a (by simp [ha])), List.filter_eq_self.2 (fun a ha => by simpa using hs a (by simp [ha]))]
theorem cutS_len {S : List Th} {i : Nat} (h : i < S.length) : (S.take i ++ S.drop (i + 1)).length = S.length - 1 := by simp; omega
theorem setS_setL {S : List Th} {i : Nat} {x : Th} (hn : NdS S) (hx : S[i]? = some x) (v : Int) : S.set i ⟨x.id, x.prio, x.whole, v⟩ = setL S x.id v := by
 apply List.ext_getElem?
 intro j
 rw [setL, List.getElem?_map]
 by_cases e : i = j
 ·subst e
  rw [List.getElem?_set_self (List.getElem?_eq_some_iff.1 hx).1, hx, Option.map_some, if_pos rfl]
 ·rw [List.getElem?_set_ne e]
  cases hj : S[j]? with
  | none => rfl
  | some u =>
   rw [Option.map_some, if_neg]
   intro e2
   have hp := List.pairwise_iff_getElem.1 hn
   obtain ⟨a1, b1⟩ := List.getElem?_eq_some_iff.1 hx
   obtain ⟨a2, b2⟩ := List.getElem?_eq_some_iff.1 hj
   have hlm : ∀ k, k < S.length → k < (S.map (·.id)).length := fun k hk => by rw [List.length_map]; exact hk
   rcases Nat.lt_or_gt_of_ne e with h3 | h3
   ·have := hp i j (hlm i a1) (hlm j a2) h3
    rw [List.getElem_map, List.getElem_map, b1, b2] at this; exact this e2.symm
   ·have := hp j i (hlm j a2) (hlm i a1) h3
    rw [List.getElem_map, List.getElem_map, b1, b2] at this; exact this e2
def BestI (S : List Th) (k : Nat) (b : Int) : Prop := (k = 0 ∧ b = -1) ∨ ∃ (i : Nat) (t : Th), b = i ∧ i < k ∧ S[i]? = some t ∧ ∀ j u, j < k → S[j]? = some u → u.prio ≤ t.prio ∧ (j < i → u.prio < t.prio)
theorem BestI.top {S : List Th} {b : Int} (h : BestI S S.length b) : (topS S = none ∧ b = -1) ∨ ∃ (i : Nat) (t : Th), b = i ∧ S[i]? = some t ∧ topS S = some t := by
 rcases h with ⟨h, rfl⟩ | ⟨i, t, rfl, hi, ht, hall⟩
 ·rw [List.length_eq_zero_iff] at h
  subst h; exact .inl ⟨rfl, rfl⟩
 ·refine .inr ⟨i, t, rfl, ht, ?_⟩
  have hat : (S.all fun u => decide (u.prio ≤ t.prio)) = true := by
   rw [List.all_eq_true]
   intro u hu
   obtain ⟨j, hj⟩ := List.getElem?_of_mem hu
   have := (hall j u (List.getElem?_eq_some_iff.1 hj).1 hj).1
   simpa using this
  have hf := findIdx_at (p := fun t : Th => S.all fun u => decide (u.prio ≤ t.prio)) ht hat (fun j u hj hu => by
   have := (hall j u (by omega) hu).2 hj
   rw [Bool.eq_false_iff]
   intro h2
   rw [List.all_eq_true] at h2
   have h3 := h2 t (List.mem_of_getElem? ht)
   simp at h3; omega)
  obtain ⟨u, h1, h2⟩ := find_of_findIdx hf
  rw [ht] at h1; cases h1
  exact h2
theorem BestI.next {S : List Th} {k : Nat} {b : Int} (h : BestI S k b) {u : Th} (hu : S[k]? = some u) : BestI S (k + 1) (if b < 0 then (k : Int) else match S[b.toNat]? with
 | some t => if t.prio < u.prio then (k : Int) else b
 | none => b) := by
 rcases h with ⟨rfl, rfl⟩ | ⟨i, t, rfl, hi, ht, hall⟩
 ·rw [if_pos (by omega)]
  exact .inr ⟨0, u, rfl, by omega, hu, fun j w hj hw => by
   obtain rfl : j = 0 := by omega
   rw [hu] at hw; cases hw; exact ⟨Int.le_refl _, fun h => by omega⟩⟩
 ·rw [if_neg (by omega), Int.toNat_natCast, ht]
  dsimp only
  split
  ·rename_i hlt
   refine .inr ⟨k, u, rfl, by omega, hu, fun j w hj hw => ?_⟩
   rcases Nat.lt_succ_iff_lt_or_eq.1 hj with h3 | h3
   ·have := (hall j w h3 hw).1
    exact ⟨by omega, fun _ => by omega⟩
   ·subst h3; rw [hu] at hw; cases hw; exact ⟨Int.le_refl _, fun h => by omega⟩
  ·rename_i hge
   refine .inr ⟨i, t, rfl, by omega, ht, fun j w hj hw => ?_⟩
   rcases Nat.lt_succ_iff_lt_or_eq.1 hj with h3 | h3
   ·exact hall j w h3 hw
   ·subst h3; rw [hu] at hw; cases hw; exact ⟨by omega, fun h => by omega⟩
def rowI (S : List Th) (pr : Int) : List Int := (S.filter fun t => decide (t.prio = pr)).map (·.id)
theorem rowI_R {S : List Th} (h : RInv S) (pr : Int) : rowR S pr = rowI S pr := by
 rw [rowR]
 split
 ·rename_i h1
  rw [rowA, rowI, Int.toNat_of_nonneg h1.1]
 ·rename_i h1
  rw [rowI, List.filter_eq_nil_iff.2]
  ·rfl
  ·intro t ht
   have := h.rg t ht
   simp only [decide_eq_true_eq]; omega
theorem rowI_len (S : List Th) (pr : Int) : (rowI S pr).length ≤ S.length := by rw [rowI, List.length_map]; exact List.length_filter_le _ _
theorem rowI_snoc {S : List Th} {k : Nat} {t : Th} (h : S[k]? = some t) (pr : Int) : rowI (S.take (k + 1)) pr = if t.prio = pr then rowI (S.take k) pr ++ [t.id] else rowI (S.take k) pr := by
 rw [List.take_add_one, h, rowI, List.filter_append, List.map_append]
 split
 ·rename_i e; rw [Option.toList, List.filter_cons_of_pos (by simpa using e)]; rfl
 ·rename_i e; rw [Option.toList, List.filter_cons_of_neg (by simpa using e)]; simp [rowI]
set_option maxRecDepth 4000 in
theorem may_ok (id pr sl : Int) : FSpec Tryz.prog 109 [.int .i64 id, .int .i64 pr, .int .i64 sl] noRd [] (fun _ : Unit => .bool (decide (¬ (id < 0 ∨ pr < 0 ∨ 7 < pr ∨ sl < 1 ∨ 16 < sl)))) (fun _ => True) (fun _ => []) := by
 refine FSpec.intro (rs := [.tmp 6]) (by kernel_rfl) Tryz.func109 rfl Tryz.ntmps109 (by rfl) rfl ?_
 intro F _
 change TC _ _ _ _ _ _ _ (sepL [_])
 refine TC.seq ?_
 refine TC.region ?_
 refine wab rfl rfl ?_
 refine TL.nil (nt ?_)
 refine TC.seq ?_
 refine TC.region ?_
 refine wmi rfl rfl ?_
 refine q rfl rfl (geq rfl rfl) ?_
 refine wmb rfl rfl ?_
 refine TL.split 9 rfl (fun h0 => ?_) (fun h0 => ?_)
 ·have h0 := of_decide_eq_true h0
  refine qg rfl rfl rfl (mv (v := .int _ _) rfl) ?_
  refine qg rfl rfl rfl (geq rfl rfl) ?_
  refine q rfl rfl (pkT (v := .bool _) rfl rfl) ?_
  refine wmb rfl rfl ?_
  refine TL.split 13 rfl (fun h1 => ?_) (fun h1 => ?_)
  ·have h1 := of_decide_eq_true h1
   refine qg rfl rfl rfl (mv (v := .int _ _) rfl) ?_
   refine qg rfl rfl rfl (leq rfl rfl) ?_
   refine q rfl rfl (pkT (v := .bool _) rfl rfl) ?_
   refine wmb rfl rfl ?_
   refine TL.split 17 rfl (fun h2 => ?_) (fun h2 => ?_)
   ·have h2 := of_decide_eq_true h2
    refine qg rfl rfl rfl (mv (v := .int _ _) rfl) ?_
    refine qg rfl rfl rfl (geq rfl rfl) ?_
    refine q rfl rfl (pkT (v := .bool _) rfl rfl) ?_
    refine wmb rfl rfl ?_
    refine TL.split 21 rfl (fun h3 => ?_) (fun h3 => ?_)
    ·have h3 := of_decide_eq_true h3
     refine qg rfl rfl rfl (mv (v := .int _ _) rfl) ?_
     refine qg rfl rfl rfl (leq rfl rfl) ?_
     refine q rfl rfl (pkT (v := .bool _) rfl rfl) ?_
     refine wab rfl rfl ?_
     refine TL.nil (nt ?_)
     refine TC.ret ?_
     exact Ret.i () [_] ⟨rfl, trivial⟩ (congrArg Value.bool (by rw [decide_eq_decide]; omega)) trivial (ent_take 0 rfl (ent_nil _))
    ·have h3 := of_decide_eq_false h3
     refine qs rfl rfl ?_
     refine qs rfl rfl ?_
     refine q rfl rfl (pkF (v := .bool _) rfl rfl) ?_
     refine wab rfl rfl ?_
     refine TL.nil (nt ?_)
     refine TC.ret ?_
     exact Ret.i () [_] ⟨rfl, trivial⟩ (congrArg Value.bool (decide_eq_false (by omega)).symm) trivial (ent_take 0 rfl (ent_nil _))
   ·have h2 := of_decide_eq_false h2
    refine qs rfl rfl ?_
    refine qs rfl rfl ?_
    refine q rfl rfl (pkF (v := .bool _) rfl rfl) ?_
    refine wmb rfl rfl ?_
    refine qs rfl rfl ?_
    refine qs rfl rfl ?_
    refine q rfl rfl (pkF (v := .bool _) rfl rfl) ?_
    refine wab rfl rfl ?_
    refine TL.nil (nt ?_)
    refine TC.ret ?_
    exact Ret.i () [_] ⟨rfl, trivial⟩ (congrArg Value.bool (decide_eq_false (by omega)).symm) trivial (ent_take 0 rfl (ent_nil _))
  ·have h1 := of_decide_eq_false h1
   refine qs rfl rfl ?_
   refine qs rfl rfl ?_
   refine q rfl rfl (pkF (v := .bool _) rfl rfl) ?_
   refine wmb rfl rfl ?_
   refine qs rfl rfl ?_
   refine qs rfl rfl ?_
   refine q rfl rfl (pkF (v := .bool _) rfl rfl) ?_
   refine wmb rfl rfl ?_
   refine qs rfl rfl ?_
   refine qs rfl rfl ?_
   refine q rfl rfl (pkF (v := .bool _) rfl rfl) ?_
   refine wab rfl rfl ?_
   refine TL.nil (nt ?_)
   refine TC.ret ?_
   exact Ret.i () [_] ⟨rfl, trivial⟩ (congrArg Value.bool (decide_eq_false (by omega)).symm) trivial (ent_take 0 rfl (ent_nil _))
 ·have h0 := of_decide_eq_false h0
  refine qs rfl rfl ?_
  refine qs rfl rfl ?_
  refine q rfl rfl (pkF (v := .bool _) rfl rfl) ?_
  refine wmb rfl rfl ?_
  refine qs rfl rfl ?_
  refine qs rfl rfl ?_
  refine q rfl rfl (pkF (v := .bool _) rfl rfl) ?_
  refine wmb rfl rfl ?_
  refine qs rfl rfl ?_
  refine qs rfl rfl ?_
  refine q rfl rfl (pkF (v := .bool _) rfl rfl) ?_
  refine wmb rfl rfl ?_
  refine qs rfl rfl ?_
  refine qs rfl rfl ?_
  refine q rfl rfl (pkF (v := .bool _) rfl rfl) ?_
  refine wab rfl rfl ?_
  refine TL.nil (nt ?_)
  refine TC.ret ?_
  exact Ret.i () [_] ⟨rfl, trivial⟩ (congrArg Value.bool (decide_eq_false (by omega)).symm) trivial (ent_take 0 rfl (ent_nil _))
set_option maxRecDepth 4000 in
theorem rat_ok (b : LC) (S : List Th) (hl : S.length ≤ 1000000) (id : Int) : FSpec Tryz.prog 132 [.pointer (some ⟨b.n, 1, none⟩), .int .i64 id] (fun F => ent F (isRq b S)) [] (fun _ : Unit => .int .i64 (atS S id)) (fun _ => True) (fun _ => []) := by
 refine FSpec.intro (rs := [.tmp 4]) (by kernel_rfl) Tryz.func132 rfl Tryz.ntmps132 (by rfl) rfl ?_
 intro F hF
 change TC _ _ _ _ _ _ _ (sepL [_])
 refine TC.openR hF (fun x0 hx0 => ?_)
 obtain ⟨a1, c1⟩ := x0
 clear hx0
 dsimp only
 have hil := rthsC_length S
 refine TC.seq ?_
 refine TC.region ?_
 refine wai rfl rfl ?_
 refine TL.nil (nt ?_)
 refine TC.seq ?_
 refine TC.seq ?_
 refine TC.region ?_
 refine wai rfl rfl ?_
 refine TL.nil (nt ?_)
 refine TC.block ?_
 refine TC.loop (ι := Nat) (fun i => i ≤ S.length ∧ ∀ j t, j < i → S[j]? = some t → t.id ≠ id) (fun i => [(0, .pointer (some ⟨b.n, 1, none⟩)), (1, .int .i64 id), (5, .int .i64 i)]) (fun i => sepL [restr F (sepL [pts b.n 60 [b.x0, .slice a1 S.length c1, b.x2, b.x3, b.x4, b.x5, b.x6, b.x7], slc 111 4 a1 S.length c1 (rthsC S)])]) (fun i => S.length - i) 0 ⟨Nat.zero_le _, by intro j t h; omega⟩ ⟨rfl, rfl, rfl, trivial⟩ (ent_take 0 rfl (ent_nil _)) ?_
 rintro k ⟨hk, hno⟩ ρ0
 dsimp only [updL] at hk hno ⊢
 refine TC.seq ?_
 refine TC.seq ?_
 refine TC.region ?_
 refine wmi rfl rfl ?_
 refine wmp rfl rfl ?_
 refine wnc rfl rfl ?_
 refine wfa 0 rfl rfl rfl ?_
 refine wld rfl rfl rfl rfl ?_
 refine q rfl rfl (len 111 4 rfl rfl) ?_
 refine q rfl rfl (lss rfl rfl) ?_
 refine TL.nil (nt ?_)
 refine TC.condD rfl (fun hlt => ?_) (fun hlt => ?_)
 ·have hlt2 : k < S.length := by omega
  obtain ⟨x, hx⟩ : ∃ x, S[k]? = some x := ⟨S[k], List.getElem?_eq_getElem hlt2⟩
  have hpos : 0 < (rthsC S).length := by omega
  refine TC.skip (nt ?_)
  refine TC.seq ?_
  refine TC.block ?_
  refine TC.seq ?_
  refine TC.region ?_
  refine wmp rfl rfl ?_
  refine wnc rfl rfl ?_
  refine wfa 0 rfl rfl rfl ?_
  refine wld rfl rfl rfl rfl ?_
  refine wmi rfl rfl ?_
  refine q rfl rfl (ixS 111 4 rfl rfl rfl (by omega) (by assumption)) ?_
  refine q rfl rfl (faS 0 rfl rfl (by assumption)) ?_
  refine q rfl rfl (ldS rfl rfl (flat_ld rthC_sz hx 0 (by omega) rfl)) ?_
  refine wmi rfl rfl ?_
  refine q rfl rfl (eqI rfl rfl) ?_
  refine TL.nil (nt ?_)
  refine TC.condD rfl (fun he => ?_) (fun he => ?_)
  ·have hr : atS S id = (k : Int) := by
    rw [atS, findIdx_at (p := fun x : Th => decide (x.id = id)) hx (by simpa using he) (fun j t hj ht => by simpa using hno j t hj ht)]
   refine TC.seq ?_
   refine TC.region ?_
   refine wmi rfl rfl ?_
   refine wai rfl rfl ?_
   refine TL.nil (nt ?_)
   refine TC.ret (rb (rt (rt (rb (rt ?_)))))
   exact Ret.i () [_] ⟨rfl, trivial⟩ (by rw [hr]; rfl) trivial (ent_takeF 0 rfl (ent_nil _))
  ·refine TC.skip (nb (nt ?_))
   refine TC.region ?_
   refine wmi rfl rfl ?_
   refine q rfl rfl (addI rfl rfl (by omega) (by omega)) ?_
   refine wai rfl rfl ?_
   refine TL.nil (nt ?_)
   exact ⟨rfl, (k + 1), ⟨by omega, fun j t hj ht => by rcases Nat.lt_succ_iff_lt_or_eq.1 hj with h | h; exact hno j t h ht; subst h; rw [hx] at ht; cases ht; exact he⟩, (by omega), ⟨rfl, rfl, rfl, trivial⟩, (ent_take 0 rfl (ent_nil _))⟩
 ·have hr : atS S id = -1 := atS_no (by
   rintro ⟨e1, he1, he2⟩
   obtain ⟨j, hj⟩ := List.getElem?_of_mem he1
   exact hno j e1 (by have := (List.getElem?_eq_some_iff.1 hj).1; omega) hj he2)
  refine TC.exit (et (et (eb (nt ?_))))
  refine TC.seq ?_
  refine TC.region ?_
  refine wai rfl rfl ?_
  refine TL.nil (nt ?_)
  refine TC.ret ?_
  exact Ret.i () [_] ⟨rfl, trivial⟩ (by rw [hr]; rfl) trivial (ent_takeF 0 rfl (ent_nil _))
set_option maxRecDepth 4000 in
theorem rcut_ok (b : LC) (S : List Th) (hl : S.length ≤ 1000000) (i : Nat) (hi : i < S.length) : FSpec Tryz.prog 138 [.pointer (some ⟨b.n, 1, none⟩), .int .i64 (i : Int)] noRd [isRq b S] (fun _ : Unit => .tuple #[]) (fun _ => True) (fun _ => [isRq b (S.take i ++ S.drop (i + 1))]) := by
 refine FSpec.intro (rs := []) (by kernel_rfl) Tryz.func138 rfl Tryz.ntmps138 (by rfl) rfl ?_
 intro F _
 change TC _ _ _ _ _ _ _ (sepL [_, _])
 refine TC.open 0 rfl (fun x0 hx0 => ?_)
 obtain ⟨a1, c1⟩ := x0
 clear hx0
 change TC _ _ _ _ _ _ _ (sepL [_, _, _])
 dsimp only
 refine TC.factSlc 1 rfl (fun _ hc1 _ => ?_)
 have hil := rthsC_length S
 haveI : OffI (rthsC S) c1 (i + 1) 4 := ⟨S.length, by omega, by omega, hc1⟩
 refine TC.draw _ [19] [(0, false), (2, false), (3, false), (4, false), (5, false), (6, false), (7, false), (9, false), (10, false), (11, false), (12, false), (13, false), (14, false), (15, false), (1, true), (8, true), (16, true), (17, false), (18, false), (19, true)] (by kernel_rfl) (by kernel_rfl) (ent_take 0 rfl (ent_nil _)) ?_
 refine vmp rfl rfl rfl ?_
 refine vmp rfl rfl rfl ?_
 refine vnc rfl rfl rfl ?_
 refine vfa 0 rfl rfl rfl rfl ?_
 refine vld rfl rfl rfl rfl rfl ?_
 refine vmi rfl rfl rfl ?_
 refine dq rfl rfl rfl (slTn 111 4 (i) rfl rfl rfl (by omega) (by omega)) ?_
 refine vmp rfl rfl rfl ?_
 refine vnc rfl rfl rfl ?_
 refine vfa 0 rfl rfl rfl rfl ?_
 refine vld rfl rfl rfl rfl rfl ?_
 refine vmi rfl rfl rfl ?_
 refine dq rfl rfl rfl (addI rfl rfl (by omega) (by omega)) ?_
 refine dq rfl rfl rfl (slFn 111 4 (i + 1) rfl rfl rfl (by omega) (by omega)) ?_
 refine de rfl rfl ?_
 refine bs (cs := []) rfl ?_
 intro b1
 refine ⟨(ent_take 1 rfl (ent_nil _)), ?_⟩
 refine de rfl rfl ?_
 refine ap 32 rfl rfl rfl rfl rfl (by omega) (rths_take S i) (rths_one _) (by omega) (by simp only [maxLen]; omega) ?_
 intro ad1 cap1
 refine ⟨(ent_take 1 rfl (ent_nil _)), ?_⟩
 refine de rfl rfl ?_
 refine ap 32 rfl rfl rfl rfl rfl (by rw [List.length_drop]; omega) (rths_drop S (i + 1)) (rths_one _) (by omega) (by simp only [maxLen]; omega) ?_
 intro ad2 cap2
 refine ⟨(ent_take 1 rfl (ent_nil _)), ?_⟩
 refine vnc rfl rfl rfl ?_
 refine vfa 0 rfl rfl rfl rfl ?_
 refine dl0 rfl rfl rfl ?_
 refine st (v := .slice _ _ _) (vs := [_]) 1 rfl rfl rfl rfl rfl rfl (Nat.le_of_ble_eq_true rfl) rfl ?_
 refine TD.nil ?_
 exact Ret.n () [] trivial rfl trivial (ent_close ⟨ad2, cap2⟩ trivial (ent_takeE 0 rfl (by rw [cutS_len hi, show 0 + i + (S.length - (i + 1)) = S.length - 1 from by omega]; rfl) (ent_takeE 0 rfl (by rw [cutS_len hi, show 0 + i + (S.length - (i + 1)) = S.length - 1 from by omega, List.nil_append, rths_app]) (ent_take 1 rfl (ent_nil _)))))
set_option maxRecDepth 4000 in
theorem radd_ok (b : LC) (S : List Th) (hl : S.length ≤ 1000000) (id pr sl : Int) : FSpec Tryz.prog 110 [.pointer (some ⟨b.n, 1, none⟩), .int .i64 id, .int .i64 pr, .int .i64 sl] noRd [isRq b S] (fun _ : Unit => .int .i64 (addS S id pr sl).2) (fun _ => True) (fun _ => [isRq b (addS S id pr sl).1]) := by
 refine FSpec.intro (rs := [.tmp 8]) (by kernel_rfl) Tryz.func110 rfl Tryz.ntmps110 (by rfl) rfl ?_
 intro F _
 change TC _ _ _ _ _ _ _ (sepL [_, _])
 refine TC.seq ?_
 refine TC.region ?_
 refine wai rfl rfl ?_
 refine TL.nil (nt ?_)
 refine TC.seq ?_
 refine TC.seq ?_
 refine TC.region ?_
 refine wmi rfl rfl ?_
 refine wmi rfl rfl ?_
 refine wmi rfl rfl ?_
 refine e rfl ?_
 refine cl (may_ok id pr sl) rfl (picked_nil _) trivial ?_
 intro _ _
 change TL _ _ _ _ _ _ _ _ (sepL [_, _])
 by_cases hv : id < 0 ∨ pr < 0 ∨ 7 < pr ∨ sl < 1 ∨ 16 < sl
 ·rw [decide_eq_false (not_not_intro hv)]
  have hr : addS S id pr sl = (S, 1) := by rw [addS, if_pos hv]
  rw [hr]
  dsimp only
  refine q rfl rfl (notB rfl) ?_
  refine TL.nil (nt ?_)
  refine TC.condT rfl ?_
  refine TC.seq ?_
  refine TC.region ?_
  refine wai rfl rfl ?_
  refine TL.nil (nt ?_)
  refine TC.ret (rt ?_)
  exact Ret.i () [_] ⟨rfl, trivial⟩ rfl trivial (ent_take 0 rfl (ent_take 0 rfl (ent_nil _)))
 ·rw [decide_eq_true hv]
  refine q rfl rfl (notB rfl) ?_
  refine TL.nil (nt ?_)
  refine TC.condF rfl ?_
  refine TC.skip (nt ?_)
  refine TC.seq ?_
  refine TC.seq ?_
  refine TC.region ?_
  refine wmp rfl rfl ?_
  refine wmi rfl rfl ?_
  refine e rfl ?_
  refine cl (rat_ok b S hl id) rfl (picked_nil _) (ent_one 0 rfl) ?_
  intro _ _
  change TL _ _ _ _ _ _ _ _ (sepL [_, _])
  by_cases hy : hasS S id
  ·obtain ⟨i, x, h1, h2, h3⟩ := atS_yes hy
   rw [h1]
   have hr : addS S id pr sl = (S, 7) := by rw [addS, if_neg hv, if_pos hy]
   rw [hr]
   dsimp only
   refine q rfl rfl (geq rfl rfl) ?_
   refine TL.nil (nt ?_)
   refine TC.condD rfl (fun hc1 => ?_) (fun hc1 => absurd (by omega) hc1)
   refine TC.seq ?_
   refine TC.region ?_
   refine wai rfl rfl ?_
   refine TL.nil (nt ?_)
   refine TC.ret (rt ?_)
   exact Ret.i () [_] ⟨rfl, trivial⟩ rfl trivial (ent_take 0 rfl (ent_take 0 rfl (ent_nil _)))
  ·rw [atS_no hy]
   have hr : addS S id pr sl = (S ++ [⟨id, pr, sl, sl⟩], 0) := by rw [addS, if_neg hv, if_neg hy]
   rw [hr]
   dsimp only
   refine q rfl rfl (geq rfl rfl) ?_
   refine TL.nil (nt ?_)
   refine TC.condD rfl (fun hc2 => absurd hc2 (by decide)) (fun hc2 => ?_)
   refine TC.open 0 rfl (fun x0 hx0 => ?_)
   obtain ⟨a1, c1⟩ := x0
   clear hx0
   change TC _ _ _ _ _ _ _ (sepL [_, _, _])
   dsimp only
   have hil := rthsC_length S
   refine TC.skip (nt ?_)
   refine TC.seq ?_
   refine TC.region ?_
   refine wmp rfl rfl ?_
   refine e rfl ?_
   refine bs (cs := []) rfl ?_
   intro b2
   refine wmp rfl rfl ?_
   refine wnc rfl rfl ?_
   refine wfa 0 rfl rfl rfl ?_
   refine wld rfl rfl rfl rfl ?_
   refine e rfl ?_
   refine ap 32 rfl rfl rfl rfl rfl (by omega) (rths_all S) (rths_one _) (by omega) (by simp only [maxLen]; omega) ?_
   intro ad3 cap3
   refine wmi rfl rfl ?_
   refine wmi rfl rfl ?_
   refine wmi rfl rfl ?_
   refine wmi rfl rfl ?_
   refine q rfl rfl (bld (cs := ints [_, _, _, _]) rfl) ?_
   refine e rfl ?_
   refine bs (cs := ints [_, _, _, _]) rfl ?_
   intro b3
   refine e rfl ?_
   refine ap 32 rfl rfl rfl rfl rfl (Nat.le_of_ble_eq_true rfl) (show _ = rthsC [⟨id, pr, sl, sl⟩] from rfl) rfl (by omega) (by simp only [maxLen]; omega) ?_
   intro ad4 cap4
   refine wnc rfl rfl ?_
   refine wfa 0 rfl rfl rfl ?_
   refine e0 ?_
   refine st (v := .slice _ _ _) (vs := [_]) 1 rfl rfl rfl rfl rfl rfl (Nat.le_of_ble_eq_true rfl) rfl ?_
   refine TL.nil (nt ?_)
   refine TC.seq ?_
   refine TC.region ?_
   refine wai rfl rfl ?_
   refine TL.nil (nt ?_)
   refine TC.ret ?_
   exact Ret.i () [_] ⟨rfl, trivial⟩ rfl trivial (ent_close ⟨ad4, cap4⟩ trivial (ent_takeE 0 rfl (by simp only [List.length_append, Nat.zero_add, List.length_singleton]; rfl) (ent_takeE 0 rfl (by simp only [List.length_append, Nat.zero_add, List.length_singleton, List.nil_append, rths_app]) (ent_take 2 rfl (ent_nil _)))))
set_option maxRecDepth 4000 in
theorem rdrop_ok (b : LC) (S : List Th) (hl : S.length ≤ 1000000) (a2 : Option Addr) (c2 : Nat) (xs : List Int) (hx : xs.length ≤ 1000000) (hn : NdS S) : FSpec Tryz.prog 136 [.pointer (some ⟨b.n, 1, none⟩), .slice a2 xs.length c2] (fun F => ∃ E, RdS F E a2 (ints xs)) [isRq b S] (fun _ : Unit => .int .i64 ((S.length : Int) - (dropS S xs).length)) (fun _ => True) (fun _ => [isRq b (dropS S xs)]) := by
 refine FSpec.intro (rs := [.tmp 4]) (by kernel_rfl) Tryz.func136 rfl Tryz.ntmps136 (by rfl) rfl ?_
 intro F ⟨E, hF⟩
 change TC _ _ _ _ _ _ _ (sepL [_, _])
 haveI : RdSI F a2 E (ints xs) := ⟨hF⟩
 have hxl := ints_length xs
 refine TC.seq ?_
 refine TC.region ?_
 refine wai rfl rfl ?_
 refine TL.nil (nt ?_)
 refine TC.seq ?_
 refine TC.region ?_
 refine wai rfl rfl ?_
 refine TL.nil (nt ?_)
 refine TC.seq ?_
 refine TC.seq ?_
 refine TC.region ?_
 refine wai rfl rfl ?_
 refine TL.nil (nt ?_)
 refine TC.block ?_
 refine TC.loop (ι := Nat × List Th) (fun s => s.1 ≤ xs.length ∧ s.2 = dropS S (xs.take s.1) ∧ NdS s.2) (fun s => [(0, .pointer (some ⟨b.n, 1, none⟩)), (1, .slice a2 xs.length c2), (5, .int .i64 ((S.length : Int) - (s.2.length : Int))), (6, .int .i64 ((s.1 : Nat) : Int))]) (fun s => sepL [isRq b s.2, F]) (fun s => xs.length - s.1) ⟨0, S⟩ ⟨Nat.zero_le _, rfl, hn⟩ ⟨rfl, rfl, congrArg (Value.int .i64) (Int.sub_self _).symm, rfl, trivial⟩ (ent_take 0 rfl (ent_take 0 rfl (ent_nil _))) ?_
 rintro ⟨k, Z⟩ ⟨hk, hZ, hnZ⟩ ρ0
 dsimp only [updL] at hk hZ hnZ ⊢
 refine TC.seq ?_
 refine TC.seq ?_
 refine TC.region ?_
 refine wmi rfl rfl ?_
 refine wms rfl rfl ?_
 refine q rfl rfl (len 3 1 rfl rfl) ?_
 refine q rfl rfl (lss rfl rfl) ?_
 refine TL.nil (nt ?_)
 refine TC.condD rfl (fun hlt => ?_) (fun hlt => ?_)
 ·have hkx : k < xs.length := by omega
  obtain ⟨x, hxk⟩ : ∃ x, xs[k]? = some x := ⟨xs[k], List.getElem?_eq_getElem hkx⟩
  have hpos : 0 < (ints xs).length := by omega
  have htk : dropS S (xs.take (k + 1)) = offS Z x := by rw [List.take_add_one, hxk, Option.toList, dropS_snoc, hZ]
  have hZl : Z.length ≤ S.length := by rw [hZ]; exact (dropS_sub S _).length_le
  refine TC.skip (nt ?_)
  refine TC.seq ?_
  refine TC.block ?_
  refine TC.seq ?_
  refine TC.region ?_
  refine wmp rfl rfl ?_
  refine wms rfl rfl ?_
  refine wmi rfl rfl ?_
  refine q rfl rfl (ixS 3 1 rfl rfl rfl (by omega) (by assumption)) ?_
  refine q rfl rfl (ldS rfl rfl (ints_get hxk)) ?_
  refine e rfl ?_
  refine cl (rat_ok b Z (by omega) x) rfl (picked_nil _) (ent_one 0 rfl) ?_
  intro _ _
  change TL _ _ _ _ _ _ _ _ (sepL [_, _])
  by_cases hy : hasS Z x
  ·obtain ⟨i, u, h1, h2, h3⟩ := atS_yes hy
   rw [h1]
   have hil := (List.getElem?_eq_some_iff.1 h2).1
   have hco := cutS_off hnZ h2
   rw [h3] at hco
   have hol := offS_len hnZ hy
   refine wai rfl rfl ?_
   refine TL.nil (nt ?_)
   refine TC.seq ?_
   refine TC.region ?_
   refine wmi rfl rfl ?_
   refine q rfl rfl (geq rfl rfl) ?_
   refine TL.nil (nt ?_)
   refine TC.condD rfl (fun hc3 => ?_) (fun hc3 => absurd (by omega) hc3)
   refine TC.seq ?_
   refine TC.region ?_
   refine wmp rfl rfl ?_
   refine wmi rfl rfl ?_
   refine e rfl ?_
   refine cl (rcut_ok b Z (by omega) i hil) rfl (picked_cons 0 rfl (picked_nil _)) trivial ?_
   intro _ _
   change TL _ _ _ _ _ _ _ _ (sepL [_, _])
   rw [hco]
   refine TL.nil (nt ?_)
   refine TC.region ?_
   refine wmi rfl rfl ?_
   refine q rfl rfl (addI rfl rfl (by omega) (by omega)) ?_
   refine wai rfl rfl ?_
   refine TL.nil (nb (nt ?_))
   refine TC.region ?_
   refine wmi rfl rfl ?_
   refine q rfl rfl (addI rfl rfl (by omega) (by omega)) ?_
   refine wai rfl rfl ?_
   refine TL.nil (nt ?_)
   exact ⟨rfl, ⟨k + 1, offS Z x⟩, ⟨by dsimp only; omega, htk.symm, hnZ.sublist (List.filter_sublist.map _)⟩, (by dsimp only; omega), ⟨rfl, rfl, congrArg (Value.int .i64) (by dsimp only; omega), rfl, trivial⟩, (ent_take 0 rfl (ent_take 0 rfl (ent_nil _)))⟩
  ·rw [atS_no hy]
   have hon := offS_none hy
   refine wai rfl rfl ?_
   refine TL.nil (nt ?_)
   refine TC.seq ?_
   refine TC.region ?_
   refine wmi rfl rfl ?_
   refine q rfl rfl (geq rfl rfl) ?_
   refine TL.nil (nt ?_)
   refine TC.condD rfl (fun hc4 => absurd hc4 (by decide)) (fun hc4 => ?_)
   refine TC.skip (nb (nt ?_))
   refine TC.region ?_
   refine wmi rfl rfl ?_
   refine q rfl rfl (addI rfl rfl (by omega) (by omega)) ?_
   refine wai rfl rfl ?_
   refine TL.nil (nt ?_)
   exact ⟨rfl, ⟨k + 1, Z⟩, ⟨by dsimp only; omega, by dsimp only; rw [htk, hon], hnZ⟩, (by dsimp only; omega), ⟨rfl, rfl, rfl, rfl, trivial⟩, (ent_take 0 rfl (ent_take 0 rfl (ent_nil _)))⟩
 ·obtain rfl : k = xs.length := by omega
  rw [List.take_length] at hZ
  subst hZ
  refine TC.exit (et (et (eb (nt ?_))))
  refine TC.seq ?_
  refine TC.region ?_
  refine wmi rfl rfl ?_
  refine wai rfl rfl ?_
  refine TL.nil (nt ?_)
  refine TC.ret ?_
  exact Ret.i () [_] ⟨rfl, trivial⟩ rfl trivial (ent_take 0 rfl (ent_take 0 rfl (ent_nil _)))
set_option maxRecDepth 4000 in
theorem rhead_ok (b : LC) (S : List Th) (hl : S.length ≤ 1000000) : FSpec Tryz.prog 83 [.pointer (some ⟨b.n, 1, none⟩)] (fun F => ent F (isRq b S)) [] (fun y : Int => .int .i64 y) (fun y => (topS S = none ∧ y = -1) ∨ ∃ (i : Nat) (t : Th), y = i ∧ S[i]? = some t ∧ topS S = some t) (fun _ => []) := by
 refine FSpec.intro (rs := [.tmp 2]) (by kernel_rfl) Tryz.func83 rfl Tryz.ntmps83 (by rfl) rfl ?_
 intro F hF
 change TC _ _ _ _ _ _ _ (sepL [_])
 refine TC.openR hF (fun x0 hx0 => ?_)
 obtain ⟨a1, c1⟩ := x0
 clear hx0
 dsimp only
 have hil := rthsC_length S
 refine TC.seq ?_
 refine TC.region ?_
 refine wai rfl rfl ?_
 refine TL.nil (nt ?_)
 refine TC.seq ?_
 refine TC.region ?_
 refine wai rfl rfl ?_
 refine TL.nil (nt ?_)
 refine TC.seq ?_
 refine TC.seq ?_
 refine TC.region ?_
 refine wai rfl rfl ?_
 refine TL.nil (nt ?_)
 refine TC.block ?_
 refine TC.loop (ι := Nat × Int) (fun s => s.1 ≤ S.length ∧ BestI S s.1 s.2) (fun s => [(0, .pointer (some ⟨b.n, 1, none⟩)), (3, .int .i64 s.2), (4, .int .i64 ((s.1 : Nat) : Int))]) (fun s => sepL [restr F (sepL [pts b.n 60 [b.x0, .slice a1 S.length c1, b.x2, b.x3, b.x4, b.x5, b.x6, b.x7], slc 111 4 a1 S.length c1 (rthsC S)])]) (fun s => S.length - s.1) ⟨0, -1⟩ ⟨Nat.zero_le _, .inl ⟨rfl, rfl⟩⟩ ⟨rfl, rfl, rfl, trivial⟩ (ent_take 0 rfl (ent_nil _)) ?_
 rintro ⟨k, w⟩ ⟨hk, hB⟩ ρ0
 dsimp only [updL] at hk hB ⊢
 refine TC.seq ?_
 refine TC.seq ?_
 refine TC.region ?_
 refine wmi rfl rfl ?_
 refine wmp rfl rfl ?_
 refine wnc rfl rfl ?_
 refine wfa 0 rfl rfl rfl ?_
 refine wld rfl rfl rfl rfl ?_
 refine q rfl rfl (len 111 4 rfl rfl) ?_
 refine q rfl rfl (lss rfl rfl) ?_
 refine TL.nil (nt ?_)
 refine TC.condD rfl (fun hlt => ?_) (fun hlt => ?_)
 ·have hlt2 : k < S.length := by omega
  obtain ⟨x, hx⟩ : ∃ x, S[k]? = some x := ⟨S[k], List.getElem?_eq_getElem hlt2⟩
  have hpos : 0 < (rthsC S).length := by omega
  have hB2 := hB.next hx
  refine TC.skip (nt ?_)
  refine TC.seq ?_
  refine TC.block ?_
  refine TC.seq ?_
  refine TC.draw _ [] [(0, false), (1, false), (2, false), (3, false), (4, false), (5, false), (6, false), (7, false), (8, false), (9, false), (10, false), (11, false), (12, false), (13, false), (14, false), (15, false), (16, false), (17, false), (18, false), (19, false), (20, false)] (by kernel_rfl) (by kernel_rfl) (ent.refl _) ?_
  refine vmi rfl rfl rfl ?_
  refine dq rfl rfl rfl (lss rfl rfl) ?_
  refine vmb rfl rfl rfl ?_
  refine TD.split 16 rfl (fun h0 => ?_) (fun h0 => ?_)
  ·have h0 := of_decide_eq_true h0
   rw [if_pos h0] at hB2
   refine dk rfl rfl rfl rfl ?_
   refine dk rfl rfl rfl rfl ?_
   refine dk rfl rfl rfl rfl ?_
   refine dk rfl rfl rfl rfl ?_
   refine dk rfl rfl rfl rfl ?_
   refine dk rfl rfl rfl rfl ?_
   refine dk rfl rfl rfl rfl ?_
   refine dk rfl rfl rfl rfl ?_
   refine dk rfl rfl rfl rfl ?_
   refine dk rfl rfl rfl rfl ?_
   refine dk rfl rfl rfl rfl ?_
   refine dk rfl rfl rfl rfl ?_
   refine dk rfl rfl rfl rfl ?_
   refine dk rfl rfl rfl rfl ?_
   refine dk rfl rfl rfl rfl ?_
   refine dk rfl rfl rfl rfl ?_
   refine dk rfl rfl rfl rfl ?_
   refine dq rfl rfl rfl (pkT (v := .bool _) rfl rfl) ?_
   refine TD.nil (nt ?_)
   refine TC.condT rfl ?_
   refine TC.region ?_
   refine wmi rfl rfl ?_
   refine wai rfl rfl ?_
   refine TL.nil (nb (nt ?_))
   refine TC.region ?_
   refine wmi rfl rfl ?_
   refine q rfl rfl (addI rfl rfl (by omega) (by omega)) ?_
   refine wai rfl rfl ?_
   refine TL.nil (nt ?_)
   exact ⟨rfl, ⟨k + 1, k⟩, ⟨by dsimp only; omega, hB2⟩, (by dsimp only; omega), ⟨rfl, rfl, rfl, trivial⟩, (ent_take 0 rfl (ent_nil _))⟩
  ·have h0 := of_decide_eq_false h0
   rcases hB with ⟨_, e1⟩ | ⟨i, t, e1, hik, hit, _⟩
   ·exact absurd (by omega) h0
   subst e1
   rw [if_neg h0, Int.toNat_natCast, hit] at hB2
   dsimp only at hB2
   refine dg rfl rfl rfl rfl (mv (v := .pointer _) rfl) ?_
   refine dg rfl rfl rfl rfl (nc rfl) ?_
   refine dg rfl rfl rfl rfl (fa 0 rfl rfl) ?_
   refine dg rfl rfl rfl rfl (ld rfl rfl rfl) ?_
   refine dg rfl rfl rfl rfl (mv (v := .int _ _) rfl) ?_
   refine dg rfl rfl rfl rfl (ixS 111 4 rfl rfl rfl (by omega) (by assumption)) ?_
   refine dg rfl rfl rfl rfl (faS 1 rfl rfl (by assumption)) ?_
   refine dg rfl rfl rfl rfl (ldS rfl rfl (flat_ld rthC_sz hx 1 (by omega) rfl)) ?_
   refine dg rfl rfl rfl rfl (mv (v := .pointer _) rfl) ?_
   refine dg rfl rfl rfl rfl (nc rfl) ?_
   refine dg rfl rfl rfl rfl (fa 0 rfl rfl) ?_
   refine dg rfl rfl rfl rfl (ld rfl rfl rfl) ?_
   refine dg rfl rfl rfl rfl (mv (v := .int _ _) rfl) ?_
   refine dg rfl rfl rfl rfl (ixS 111 4 rfl rfl rfl (by omega) (by assumption)) ?_
   refine dg rfl rfl rfl rfl (faS 1 rfl rfl (by assumption)) ?_
   refine dg rfl rfl rfl rfl (ldS rfl rfl (flat_ld rthC_sz hit 1 (by omega) rfl)) ?_
   refine dg rfl rfl rfl rfl (gtr rfl rfl) ?_
   refine dq rfl rfl rfl (pkF (v := .bool _) rfl rfl) ?_
   refine TD.nil (nt ?_)
   refine TC.condD rfl (fun hg => ?_) (fun hg => ?_)
   ·rw [if_pos hg] at hB2
    refine TC.region ?_
    refine wmi rfl rfl ?_
    refine wai rfl rfl ?_
    refine TL.nil (nb (nt ?_))
    refine TC.region ?_
    refine wmi rfl rfl ?_
    refine q rfl rfl (addI rfl rfl (by omega) (by omega)) ?_
    refine wai rfl rfl ?_
    refine TL.nil (nt ?_)
    exact ⟨rfl, ⟨k + 1, k⟩, ⟨by dsimp only; omega, hB2⟩, (by dsimp only; omega), ⟨rfl, rfl, rfl, trivial⟩, (ent_take 0 rfl (ent_nil _))⟩
   ·rw [if_neg hg] at hB2
    refine TC.skip (nb (nt ?_))
    refine TC.region ?_
    refine wmi rfl rfl ?_
    refine q rfl rfl (addI rfl rfl (by omega) (by omega)) ?_
    refine wai rfl rfl ?_
    refine TL.nil (nt ?_)
    exact ⟨rfl, ⟨k + 1, i⟩, ⟨by dsimp only; omega, hB2⟩, (by dsimp only; omega), ⟨rfl, rfl, rfl, trivial⟩, (ent_take 0 rfl (ent_nil _))⟩
 ·obtain rfl : k = S.length := by omega
  refine TC.exit (et (et (eb (nt ?_))))
  refine TC.seq ?_
  refine TC.region ?_
  refine wmi rfl rfl ?_
  refine wai rfl rfl ?_
  refine TL.nil (nt ?_)
  refine TC.ret ?_
  exact Ret.i w [_] ⟨rfl, trivial⟩ rfl hB.top (ent_takeF 0 rfl (ent_nil _))
set_option maxRecDepth 4000 in
theorem rrun_ok (b : LC) (S : List Th) (hl : S.length ≤ 1000000) : FSpec Tryz.prog 28 [.pointer (some ⟨b.n, 1, none⟩)] (fun F => ent F (isRq b S)) [] (fun _ : Unit => .int .i64 (runS S)) (fun _ => True) (fun _ => []) := by
 refine FSpec.intro (rs := [.tmp 2]) (by kernel_rfl) Tryz.func28 rfl Tryz.ntmps28 (by rfl) rfl ?_
 intro F hF
 change TC _ _ _ _ _ _ _ (sepL [_])
 refine TC.seq ?_
 refine TC.region ?_
 refine wai rfl rfl ?_
 refine TL.nil (nt ?_)
 refine TC.seq ?_
 refine TC.region ?_
 refine wmp rfl rfl ?_
 refine e rfl ?_
 refine cl (rhead_ok b S hl) rfl (picked_nil _) ((ent_one 0 rfl).trans hF) ?_
 intro y hy
 change TL _ _ _ _ _ _ _ _ (sepL [_])
 rcases hy with ⟨ht, rfl⟩ | ⟨i, t, rfl, hit, ht⟩
 ·have hr : runS S = -1 := by rw [runS, ht]
  rw [hr]
  refine wai rfl rfl ?_
  refine TL.nil (nt ?_)
  refine TC.seq ?_
  refine TC.seq ?_
  refine TC.region ?_
  refine wmi rfl rfl ?_
  refine q rfl rfl (lss rfl rfl) ?_
  refine TL.nil (nt ?_)
  refine TC.condD rfl (fun hc5 => ?_) (fun hc5 => absurd (by decide) hc5)
  refine TC.seq ?_
  refine TC.region ?_
  refine wai rfl rfl ?_
  refine TL.nil (nt ?_)
  refine TC.ret (rt ?_)
  exact Ret.i () [_] ⟨rfl, trivial⟩ rfl trivial (ent_take 0 rfl (ent_nil _))
 ·have hr : runS S = t.id := by rw [runS, ht]
  rw [hr]
  have hil2 := (List.getElem?_eq_some_iff.1 hit).1
  refine wai rfl rfl ?_
  refine TL.nil (nt ?_)
  refine TC.seq ?_
  refine TC.seq ?_
  refine TC.region ?_
  refine wmi rfl rfl ?_
  refine q rfl rfl (lss rfl rfl) ?_
  refine TL.nil (nt ?_)
  refine TC.condD rfl (fun hc6 => absurd hc6 (by omega)) (fun hc6 => ?_)
  refine TC.skip (nt ?_)
  refine TC.seq ?_
  refine TC.openR hF (fun x0 hx0 => ?_)
  obtain ⟨a1, c1⟩ := x0
  clear hx0
  dsimp only
  have hil := rthsC_length S
  have hpos : 0 < (rthsC S).length := by omega
  refine TC.region ?_
  refine wmp rfl rfl ?_
  refine wnc rfl rfl ?_
  refine wfa 0 rfl rfl rfl ?_
  refine wld rfl rfl rfl rfl ?_
  refine wmi rfl rfl ?_
  refine q rfl rfl (ixS 111 4 rfl rfl rfl (by omega) (by assumption)) ?_
  refine q rfl rfl (faS 0 rfl rfl (by assumption)) ?_
  refine q rfl rfl (ldS rfl rfl (flat_ld rthC_sz hit 0 (by omega) rfl)) ?_
  refine wai rfl rfl ?_
  refine TL.nil (nt ?_)
  refine TC.ret ?_
  exact Ret.i () [_] ⟨rfl, trivial⟩ rfl trivial (ent_takeF 0 rfl (ent_nil _))
set_option maxRecDepth 4000 in
theorem rround_ok (b : LC) (S : List Th) (hl : S.length ≤ 1000000) (hn : NdS S) (i : Nat) (t : Th) (hit : S[i]? = some t) : FSpec Tryz.prog 124 [.pointer (some ⟨b.n, 1, none⟩), .int .i64 (i : Int)] noRd [isRq b S] (fun _ : Unit => .tuple #[]) (fun _ => True) (fun _ => [isRq b (rndS S t)]) := by
 refine FSpec.intro (rs := []) (by kernel_rfl) Tryz.func124 rfl Tryz.ntmps124 (by rfl) rfl ?_
 intro F _
 change TC _ _ _ _ _ _ _ (sepL [_, _])
 have hil2 := (List.getElem?_eq_some_iff.1 hit).1
 have hco := cutS_off hn hit
 refine TC.open 0 rfl (fun x0 hx0 => ?_)
 obtain ⟨a1, c1⟩ := x0
 clear hx0
 change TC _ _ _ _ _ _ _ (sepL [_, _, _])
 dsimp only
 have hil := rthsC_length S
 have hpos : 0 < (rthsC S).length := by omega
 refine TC.seq ?_
 refine TC.region ?_
 refine wmp rfl rfl ?_
 refine wnc rfl rfl ?_
 refine wfa 0 rfl rfl rfl ?_
 refine wld rfl rfl rfl rfl ?_
 refine wmi rfl rfl ?_
 refine q rfl rfl (ixS 111 4 rfl rfl rfl (by omega) (by assumption)) ?_
 refine q rfl rfl (ldSN (vs := ints [_, _, _, _]) 4 rfl rfl (flat_get_rec rthC_sz hit) rfl (by decide)) ?_
 refine e rfl ?_
 refine al (l := ints [_, _, _, _]) rfl rfl ?_
 intro b4
 refine e0 ?_
 refine st (v := .agg (List.toArray (ints [_, _, _, _]))) (vs := ints [_, _, _, _]) 4 rfl rfl rfl rfl rfl rfl (Nat.le_of_ble_eq_true rfl) rfl ?_
 refine TL.nil (nt ?_)
 refine TC.seq ?_
 refine TC.region ?_
 refine wfa 2 rfl rfl rfl ?_
 refine wld rfl rfl rfl rfl ?_
 refine wfa 3 rfl rfl rfl ?_
 refine e0 ?_
 refine st (v := .int _ _) (vs := [_]) 1 rfl rfl rfl rfl rfl rfl (Nat.le_of_ble_eq_true rfl) rfl ?_
 refine TL.nil (nt ?_)
 refine TC.seq ?_
 refine TC.weak (B := sepL [isRq b S, pts b4 111 (rthC ⟨t.id, t.prio, t.whole, t.whole⟩), F]) (ent_close ⟨a1, c1⟩ trivial (ent_take 1 rfl (ent_take 1 rfl (ent_takeE 0 rfl (by rfl) (ent_take 0 rfl (ent_nil _)))))) ?_
 refine TC.region ?_
 refine wmp rfl rfl ?_
 refine wmi rfl rfl ?_
 refine e rfl ?_
 refine cl (rcut_ok b S hl i hil2) rfl (picked_cons 0 rfl (picked_nil _)) trivial ?_
 intro _ _
 change TL _ _ _ _ _ _ _ _ (sepL [_, _, _])
 rw [hco]
 have hol : (offS S t.id).length ≤ S.length := List.length_filter_le _ _
 generalize hZ : offS S t.id = Z at hol ⊢
 refine TL.nil (nt ?_)
 refine TC.open 0 rfl (fun x0 hx0 => ?_)
 obtain ⟨a1, c1⟩ := x0
 clear hx0
 change TC _ _ _ _ _ _ _ (sepL [_, _, _, _])
 dsimp only
 refine TC.draw _ [10] [(0, false), (1, false), (2, false), (3, false), (4, false), (5, false), (6, true), (7, true), (8, false), (9, false), (10, true)] (by kernel_rfl) (by kernel_rfl) (ent_take 0 rfl (ent_take 1 rfl (ent_nil _))) ?_
 refine vmp rfl rfl rfl ?_
 refine vmp rfl rfl rfl ?_
 refine vnc rfl rfl rfl ?_
 refine vfa 0 rfl rfl rfl rfl ?_
 refine vld rfl rfl rfl rfl rfl ?_
 refine dq rfl rfl rfl (ldN (vs := ints [_, _, _, _]) 4 rfl rfl rfl rfl) ?_
 refine de rfl rfl ?_
 refine bs (cs := ints [_, _, _, _]) rfl ?_
 intro b5
 refine ⟨(ent_take 1 rfl (ent_take 2 rfl (ent_nil _))), ?_⟩
 refine de rfl rfl ?_
 refine ap 32 rfl rfl rfl rfl rfl (Nat.le_of_ble_eq_true rfl) (show _ = rthsC [⟨t.id, t.prio, t.whole, t.whole⟩] from rfl) rfl (by omega) (by simp only [maxLen]; omega) ?_
 intro ad5 cap5
 refine ⟨(ent_take 2 rfl (ent_take 2 rfl (ent_nil _))), ?_⟩
 refine vnc rfl rfl rfl ?_
 refine vfa 0 rfl rfl rfl rfl ?_
 refine dl0 rfl rfl rfl ?_
 refine st (v := .slice _ _ _) (vs := [_]) 1 rfl rfl rfl rfl rfl rfl (Nat.le_of_ble_eq_true rfl) rfl ?_
 refine TD.nil ?_
 exact Ret.n () [] trivial rfl trivial (ent_close ⟨ad5, cap5⟩ trivial (ent_takeE 0 rfl (by rw [rndS, hZ, List.length_append]; rfl) (ent_takeE 0 rfl (by rw [rndS, hZ, List.length_append, rths_app]; rfl) (ent_take 2 rfl (ent_nil _)))))
set_option maxRecDepth 4000 in
theorem rtick_ok (b : LC) (S : List Th) (hl : S.length ≤ 1000000) (hR : RInv S) : FSpec Tryz.prog 122 [.pointer (some ⟨b.n, 1, none⟩)] noRd [isRq b S] (fun _ : Unit => .int .i64 (runS (tickS S))) (fun _ => True) (fun _ => [isRq b (tickS S)]) := by
 refine FSpec.intro (rs := [.tmp 2]) (by kernel_rfl) Tryz.func122 rfl Tryz.ntmps122 (by rfl) rfl ?_
 intro F _
 change TC _ _ _ _ _ _ _ (sepL [_, _])
 have hn := hR.nd
 refine TC.seq ?_
 refine TC.region ?_
 refine wai rfl rfl ?_
 refine TL.nil (nt ?_)
 refine TC.seq ?_
 refine TC.region ?_
 refine wmp rfl rfl ?_
 refine e rfl ?_
 refine cl (rhead_ok b S hl) rfl (picked_nil _) (ent_one 0 rfl) ?_
 intro y hy
 change TL _ _ _ _ _ _ _ _ (sepL [_, _])
 rcases hy with ⟨ht, rfl⟩ | ⟨i, t, rfl, hit, ht⟩
 ·have hv : tickS S = S := by rw [tickS, ht]
  have hr : runS S = -1 := by rw [runS, ht]
  rw [hv, hr]
  refine wai rfl rfl ?_
  refine TL.nil (nt ?_)
  refine TC.seq ?_
  refine TC.seq ?_
  refine TC.region ?_
  refine wmi rfl rfl ?_
  refine q rfl rfl (lss rfl rfl) ?_
  refine TL.nil (nt ?_)
  refine TC.condD rfl (fun hc7 => ?_) (fun hc7 => absurd (by decide) hc7)
  refine TC.seq ?_
  refine TC.region ?_
  refine wai rfl rfl ?_
  refine TL.nil (nt ?_)
  refine TC.ret (rt ?_)
  exact Ret.i () [_] ⟨rfl, trivial⟩ rfl trivial (ent_take 0 rfl (ent_take 0 rfl (ent_nil _)))
 ·have hil2 := (List.getElem?_eq_some_iff.1 hit).1
  have hrg := hR.rg t (List.mem_of_getElem? hit)
  refine wai rfl rfl ?_
  refine TL.nil (nt ?_)
  refine TC.seq ?_
  refine TC.seq ?_
  refine TC.region ?_
  refine wmi rfl rfl ?_
  refine q rfl rfl (lss rfl rfl) ?_
  refine TL.nil (nt ?_)
  refine TC.condD rfl (fun hc8 => absurd hc8 (by omega)) (fun hc8 => ?_)
  refine TC.skip (nt ?_)
  refine TC.seq ?_
  refine TC.seq ?_
  refine TC.open 0 rfl (fun x0 hx0 => ?_)
  obtain ⟨a1, c1⟩ := x0
  clear hx0
  change TC _ _ _ _ _ _ _ (sepL [_, _, _])
  dsimp only
  have hil := rthsC_length S
  have hpos : 0 < (rthsC S).length := by omega
  have hit2 : (S.set i ⟨t.id, t.prio, t.whole, t.left - 1⟩)[i]? = some ⟨t.id, t.prio, t.whole, t.left - 1⟩ := List.getElem?_set_self hil2
  refine TC.region ?_
  refine wmp rfl rfl ?_
  refine wnc rfl rfl ?_
  refine wfa 0 rfl rfl rfl ?_
  refine wld rfl rfl rfl rfl ?_
  refine wmi rfl rfl ?_
  refine q rfl rfl (ixS 111 4 rfl rfl rfl (by omega) (by assumption)) ?_
  refine q rfl rfl (faS 3 rfl rfl (by assumption)) ?_
  refine q rfl rfl (ldS rfl rfl (flat_ld rthC_sz hit 3 (by omega) rfl)) ?_
  refine q rfl rfl (eqI rfl rfl) ?_
  refine TL.nil (nt ?_)
  refine TC.condD rfl (fun h1 => ?_) (fun h1 => ?_)
  ·have hv : tickS S = rndS S t := by rw [tickS, ht]; dsimp only; rw [if_pos h1]
   rw [hv]
   have hrl := rnd_len hn (List.mem_of_getElem? hit)
   refine TC.weak (B := sepL [isRq b S, F]) (ent_close ⟨a1, c1⟩ trivial (ent_take 0 rfl (ent_take 0 rfl (ent_take 0 rfl (ent_nil _))))) ?_
   refine TC.region ?_
   refine wmp rfl rfl ?_
   refine wmi rfl rfl ?_
   refine e rfl ?_
   refine cl (rround_ok b S hl hn i t hit) rfl (picked_cons 0 rfl (picked_nil _)) trivial ?_
   intro _ _
   change TL _ _ _ _ _ _ _ _ (sepL [_, _])
   refine TL.nil (nt ?_)
   refine TC.seq ?_
   refine TC.region ?_
   refine wmp rfl rfl ?_
   refine e rfl ?_
   refine cl (rrun_ok b (rndS S t) (by omega)) rfl (picked_nil _) (ent_one 0 rfl) ?_
   intro _ _
   change TL _ _ _ _ _ _ _ _ (sepL [_, _])
   refine wai rfl rfl ?_
   refine TL.nil (nt ?_)
   refine TC.ret ?_
   exact Ret.i () [_] ⟨rfl, trivial⟩ rfl trivial (ent_take 0 rfl (ent_take 0 rfl (ent_nil _)))
  ·have hv : tickS S = setL S t.id (t.left - 1) := by rw [tickS, ht]; dsimp only; rw [if_neg h1]
   rw [hv]
   have hss := setS_setL hn hit (t.left - 1)
   have hsl := setL_len S t.id (t.left - 1)
   refine TC.region ?_
   refine wmp rfl rfl ?_
   refine wnc rfl rfl ?_
   refine wfa 0 rfl rfl rfl ?_
   refine wld rfl rfl rfl rfl ?_
   refine wmi rfl rfl ?_
   refine q rfl rfl (ixS 111 4 rfl rfl rfl (by omega) (by assumption)) ?_
   refine q rfl rfl (faS 3 rfl rfl (by assumption)) ?_
   refine q rfl rfl (ldS rfl rfl (flat_ld rthC_sz hit 3 (by omega) rfl)) ?_
   refine q rfl rfl (subI rfl rfl (by omega) (by omega)) ?_
   refine q rfl rfl (ixS 111 4 rfl rfl rfl (by omega) (by assumption)) ?_
   refine q rfl rfl (faS 3 rfl rfl (by assumption)) ?_
   refine e0 ?_
   refine QM.stS (v := .int _ _) (vs := [_]) 1 rfl rfl rfl rfl rfl rfl (by decide) (by have h7 : (List.flatMap rthC S).length = S.length * 4 := flat_length rthC_sz S; omega) (flat_set (a' := ⟨t.id, t.prio, t.whole, t.left - 1⟩) rthC_sz hit 3 (by omega) (Nat.le_of_ble_eq_true rfl) rfl) ?_
   refine TL.nil (nt ?_)
   refine TC.seq ?_
   refine TC.weak (B := sepL [isRq b (setL S t.id (t.left - 1)), F]) (ent_close ⟨a1, c1⟩ trivial (ent_takeE 1 rfl (by rw [hsl]) (ent_takeE 0 rfl (by rw [hsl, ← hss]; rfl) (ent_take 0 rfl (ent_nil _))))) ?_
   refine TC.region ?_
   refine wmp rfl rfl ?_
   refine e rfl ?_
   refine cl (rrun_ok b (setL S t.id (t.left - 1)) (by omega)) rfl (picked_nil _) (ent_one 0 rfl) ?_
   intro _ _
   change TL _ _ _ _ _ _ _ _ (sepL [_, _])
   refine wai rfl rfl ?_
   refine TL.nil (nt ?_)
   refine TC.ret ?_
   exact Ret.i () [_] ⟨rfl, trivial⟩ rfl trivial (ent_take 0 rfl (ent_take 0 rfl (ent_nil _)))
set_option maxRecDepth 4000 in
theorem ryield_ok (b : LC) (S : List Th) (hl : S.length ≤ 1000000) (hn : NdS S) : FSpec Tryz.prog 82 [.pointer (some ⟨b.n, 1, none⟩)] noRd [isRq b S] (fun _ : Unit => .int .i64 (runS (yieldS S))) (fun _ => True) (fun _ => [isRq b (yieldS S)]) := by
 refine FSpec.intro (rs := [.tmp 2]) (by kernel_rfl) Tryz.func82 rfl Tryz.ntmps82 (by rfl) rfl ?_
 intro F _
 change TC _ _ _ _ _ _ _ (sepL [_, _])
 refine TC.seq ?_
 refine TC.region ?_
 refine wai rfl rfl ?_
 refine TL.nil (nt ?_)
 refine TC.seq ?_
 refine TC.region ?_
 refine wmp rfl rfl ?_
 refine e rfl ?_
 refine cl (rhead_ok b S hl) rfl (picked_nil _) (ent_one 0 rfl) ?_
 intro y hy
 change TL _ _ _ _ _ _ _ _ (sepL [_, _])
 rcases hy with ⟨ht, rfl⟩ | ⟨i, t, rfl, hit, ht⟩
 ·have hv : yieldS S = S := by rw [yieldS, ht]
  rw [hv]
  refine wai rfl rfl ?_
  refine TL.nil (nt ?_)
  refine TC.seq ?_
  refine TC.seq ?_
  refine TC.region ?_
  refine wmi rfl rfl ?_
  refine q rfl rfl (geq rfl rfl) ?_
  refine TL.nil (nt ?_)
  refine TC.condD rfl (fun hc9 => absurd hc9 (by decide)) (fun hc9 => ?_)
  refine TC.skip (nt ?_)
  refine TC.seq ?_
  refine TC.region ?_
  refine wmp rfl rfl ?_
  refine e rfl ?_
  refine cl (rrun_ok b S hl) rfl (picked_nil _) (ent_one 0 rfl) ?_
  intro _ _
  change TL _ _ _ _ _ _ _ _ (sepL [_, _])
  refine wai rfl rfl ?_
  refine TL.nil (nt ?_)
  refine TC.ret ?_
  exact Ret.i () [_] ⟨rfl, trivial⟩ rfl trivial (ent_take 0 rfl (ent_take 0 rfl (ent_nil _)))
 ·have hv : yieldS S = rndS S t := by rw [yieldS, ht]
  rw [hv]
  have hrl := rnd_len hn (List.mem_of_getElem? hit)
  refine wai rfl rfl ?_
  refine TL.nil (nt ?_)
  refine TC.seq ?_
  refine TC.seq ?_
  refine TC.region ?_
  refine wmi rfl rfl ?_
  refine q rfl rfl (geq rfl rfl) ?_
  refine TL.nil (nt ?_)
  refine TC.condD rfl (fun hc10 => ?_) (fun hc10 => absurd (by omega) hc10)
  refine TC.region ?_
  refine wmp rfl rfl ?_
  refine wmi rfl rfl ?_
  refine e rfl ?_
  refine cl (rround_ok b S hl hn i t hit) rfl (picked_cons 0 rfl (picked_nil _)) trivial ?_
  intro _ _
  change TL _ _ _ _ _ _ _ _ (sepL [_, _])
  refine TL.nil (nt ?_)
  refine TC.seq ?_
  refine TC.region ?_
  refine wmp rfl rfl ?_
  refine e rfl ?_
  refine cl (rrun_ok b (rndS S t) (by omega)) rfl (picked_nil _) (ent_one 0 rfl) ?_
  intro _ _
  change TL _ _ _ _ _ _ _ _ (sepL [_, _])
  refine wai rfl rfl ?_
  refine TL.nil (nt ?_)
  refine TC.ret ?_
  exact Ret.i () [_] ⟨rfl, trivial⟩ rfl trivial (ent_take 0 rfl (ent_take 0 rfl (ent_nil _)))
set_option maxRecDepth 4000 in
theorem rrow_ok (b : LC) (S : List Th) (hl : S.length ≤ 1000000) (pr : Int) : FSpec Tryz.prog 38 [.pointer (some ⟨b.n, 1, none⟩), .int .i64 pr] (fun F => ent F (isRq b S)) [] (fun y : Option Addr × Nat => .slice y.1 (rowI S pr).length y.2) (fun _ => True) (fun y => [slc 3 1 y.1 (rowI S pr).length y.2 (ints (rowI S pr))]) := by
 refine FSpec.intro (rs := [.tmp 4]) (by kernel_rfl) Tryz.func38 rfl Tryz.ntmps38 (by rfl) rfl ?_
 intro F hF
 change TC _ _ _ _ _ _ _ (sepL [_])
 refine TC.openR hF (fun x0 hx0 => ?_)
 obtain ⟨a1, c1⟩ := x0
 clear hx0
 dsimp only
 have hil := rthsC_length S
 refine TC.seq ?_
 refine TC.region ?_
 refine was rfl rfl ?_
 refine TL.nil (nt ?_)
 refine TC.seq ?_
 refine TC.region ?_
 refine was rfl rfl ?_
 refine TL.nil (nt ?_)
 refine TC.seq ?_
 refine TC.seq ?_
 refine TC.region ?_
 refine wai rfl rfl ?_
 refine TL.nil (nt ?_)
 refine TC.block ?_
 refine TC.loop (ι := Nat × (Option Addr × Nat)) (fun s => s.1 ≤ S.length) (fun s => [(0, .pointer (some ⟨b.n, 1, none⟩)), (1, .int .i64 pr), (5, .slice s.2.1 (rowI (S.take s.1) pr).length s.2.2), (6, .int .i64 ((s.1 : Nat) : Int))]) (fun s => sepL [slc 3 1 s.2.1 (rowI (S.take s.1) pr).length s.2.2 (ints (rowI (S.take s.1) pr)), restr F (sepL [pts b.n 60 [b.x0, .slice a1 S.length c1, b.x2, b.x3, b.x4, b.x5, b.x6, b.x7], slc 111 4 a1 S.length c1 (rthsC S)])]) (fun s => S.length - s.1) ⟨0, (none, 0)⟩ (Nat.zero_le _) ⟨rfl, rfl, rfl, rfl, trivial⟩ ((slc_nil 3 1 _).trans (ent_take 0 rfl (ent_take 0 rfl (ent_nil _)))) ?_
 rintro ⟨k, ⟨oa, oc⟩⟩ hk ρ0
 dsimp only [updL] at hk ⊢
 refine TC.seq ?_
 refine TC.seq ?_
 refine TC.region ?_
 refine wmi rfl rfl ?_
 refine wmp rfl rfl ?_
 refine wnc rfl rfl ?_
 refine wfa 0 rfl rfl rfl ?_
 refine wld rfl rfl rfl rfl ?_
 refine q rfl rfl (len 111 4 rfl rfl) ?_
 refine q rfl rfl (lss rfl rfl) ?_
 refine TL.nil (nt ?_)
 refine TC.condD rfl (fun hlt => ?_) (fun hlt => ?_)
 ·have hlt2 : k < S.length := by omega
  obtain ⟨x, hx⟩ : ∃ x, S[k]? = some x := ⟨S[k], List.getElem?_eq_getElem hlt2⟩
  have hpos : 0 < (rthsC S).length := by omega
  have hsn := rowI_snoc hx pr
  have hrl := rowI_len (S.take k) pr
  have htl : (S.take k).length = k := by rw [List.length_take]; omega
  refine TC.skip (nt ?_)
  refine TC.seq ?_
  refine TC.block ?_
  refine TC.seq ?_
  refine TC.region ?_
  refine wmp rfl rfl ?_
  refine wnc rfl rfl ?_
  refine wfa 0 rfl rfl rfl ?_
  refine wld rfl rfl rfl rfl ?_
  refine wmi rfl rfl ?_
  refine q rfl rfl (ixS 111 4 rfl rfl rfl (by omega) (by assumption)) ?_
  refine q rfl rfl (faS 1 rfl rfl (by assumption)) ?_
  refine q rfl rfl (ldS rfl rfl (flat_ld rthC_sz hx 1 (by omega) rfl)) ?_
  refine wmi rfl rfl ?_
  refine q rfl rfl (eqI rfl rfl) ?_
  refine TL.nil (nt ?_)
  refine TC.condD rfl (fun he => ?_) (fun he => ?_)
  ·rw [if_pos he] at hsn
   refine TC.region ?_
   refine wms rfl rfl ?_
   refine wmp rfl rfl ?_
   refine wnc rfl rfl ?_
   refine wfa 0 rfl rfl rfl ?_
   refine wld rfl rfl rfl rfl ?_
   refine wmi rfl rfl ?_
   refine q rfl rfl (ixS 111 4 rfl rfl rfl (by omega) (by assumption)) ?_
   refine q rfl rfl (faS 0 rfl rfl (by assumption)) ?_
   refine q rfl rfl (ldS rfl rfl (flat_ld rthC_sz hx 0 (by omega) rfl)) ?_
   refine e rfl ?_
   refine bs (cs := [.int _ _]) rfl ?_
   intro b6
   refine e rfl ?_
   refine ap 8 rfl rfl rfl rfl rfl (Nat.le_of_ble_eq_true rfl) (show _ = ints [x.id] from rfl) rfl (by omega) (by simp only [maxLen]; omega) ?_
   intro ad6 cap6
   refine was rfl rfl ?_
   refine TL.nil (nb (nt ?_))
   refine TC.region ?_
   refine wmi rfl rfl ?_
   refine q rfl rfl (addI rfl rfl (by omega) (by omega)) ?_
   refine wai rfl rfl ?_
   refine TL.nil (nt ?_)
   exact ⟨rfl, ⟨k + 1, (ad6, cap6)⟩, (by dsimp only; omega), (by dsimp only; omega), ⟨rfl, rfl, congrArg (fun n => Value.slice _ n _) (by dsimp only; rw [hsn, List.length_append]; rfl), rfl, trivial⟩, (ent_takeE 0 rfl (by dsimp only; rw [hsn, List.length_append, ints_app1]; rfl) (ent_take 1 rfl (ent_nil _)))⟩
  ·rw [if_neg he] at hsn
   refine TC.skip (nb (nt ?_))
   refine TC.region ?_
   refine wmi rfl rfl ?_
   refine q rfl rfl (addI rfl rfl (by omega) (by omega)) ?_
   refine wai rfl rfl ?_
   refine TL.nil (nt ?_)
   exact ⟨rfl, ⟨k + 1, (oa, oc)⟩, (by dsimp only; omega), (by dsimp only; omega), ⟨rfl, rfl, congrArg (fun n => Value.slice _ n _) (by dsimp only; rw [hsn]), rfl, trivial⟩, (ent_takeE 0 rfl (by dsimp only; rw [hsn]) (ent_take 0 rfl (ent_nil _)))⟩
 ·obtain rfl : k = S.length := by omega
  rw [List.take_length]
  refine TC.exit (et (et (eb (nt ?_))))
  refine TC.seq ?_
  refine TC.region ?_
  refine wms rfl rfl ?_
  refine was rfl rfl ?_
  refine TL.nil (nt ?_)
  refine TC.ret ?_
  exact Ret.i ⟨oa, oc⟩ [_] ⟨rfl, trivial⟩ rfl trivial (ent_take 0 rfl (ent_takeF 0 rfl (ent_nil _)))
end Go.Proofs.YtdfmfhcjnjfjbaaGreat.Rd
namespace Go.Proofs.YtdfmfhcjnjfjbaaGreat.Al
open Go Go.QM
theorem due_le (t : Int) (Q : List En) : (ids (dueA t Q)).length ≤ Q.length := by rw [ids, List.length_map]; exact List.length_filter_le _ _
theorem ints_splice {xs : List Int} {i : Nat} (h : i < xs.length) {o : Nat} (ho : o = i * 1) (v : Int) : splice o [.int .i64 v] (ints xs) = ints (xs.set i v) := by
  subst ho
  rw [Nat.mul_one, List.set_eq_take_append_cons_drop, if_pos h]
  simp [splice, ints]
def lf (now : Int) (Q : List En) : List Int := Q.map fun x => x.at_ - now
theorem lf_length (now : Int) (Q : List En) : (lf now Q).length = Q.length := by simp [lf]
theorem ids_length (Q : List En) : (ids Q).length = Q.length := by simp [ids]
def isRf (b : LC) (now : Int) (Q : List En) : HP := EX fun y : (Option Addr × Nat) × (Option Addr × Nat) => pure' True (sepL [pts b.n 60 [b.x0, b.x1, .int .i64 now, .slice y.1.1 Q.length y.1.2, .slice y.2.1 Q.length y.2.2, b.x5, b.x6, b.x7], slc 3 1 y.1.1 Q.length y.1.2 (ints (ids Q)), slc 3 1 y.2.1 Q.length y.2.2 (ints (lf now Q))])
def atA (Q : List En) (id : Int) : Int := match Q.findIdx? fun x => decide (x.id = id) with
 | some i => (i : Int)
 | none => -1
theorem atA_no {Q : List En} {id : Int} (h : ¬ hasA Q id) : atA Q id = -1 := by
 have : Q.findIdx? (fun x => decide (x.id = id)) = none := by
  rw [List.findIdx?_eq_none_iff]; intro x hx; simp only [decide_eq_false_iff_not]; exact fun e2 => h ⟨x, hx, e2⟩
 rw [atA, this]
theorem atA_yes {Q : List En} {id : Int} (h : hasA Q id) : ∃ i x, atA Q id = ((i : Nat) : Int) ∧ Q[i]? = some x ∧ x.id = id := by
 cases hf : Q.findIdx? (fun x => decide (x.id = id)) with
 | none =>
  obtain ⟨x, hx, h1⟩ := h
  rw [List.findIdx?_eq_none_iff] at hf
  have := hf x hx; simp [h1] at this
 | some i =>
  obtain ⟨x, h1, h2⟩ := find_of_findIdx hf
  have := List.find?_some h2
  exact ⟨i, x, by rw [atA, hf], h1, by simpa using this⟩
theorem cut_off {Q : List En} {i : Nat} {x : En} (hn : Nd Q) (hx : Q[i]? = some x) : Q.take i ++ Q.drop (i + 1) = offA Q x.id := by
 obtain ⟨h1, h2⟩ := List.getElem?_eq_some_iff.1 hx
 have hQ : Q = Q.take i ++ x :: Q.drop (i + 1) := by rw [← h2, ← List.drop_eq_getElem_cons h1, List.take_append_drop]
 have hp : (x :: (Q.take i ++ Q.drop (i + 1))).Perm Q := by
  conv => rhs; rw [hQ]
  exact List.perm_middle.symm
 have hs : ∀ a ∈ Q.take i ++ Q.drop (i + 1), a.id ≠ x.id := fun a ha e2 => (List.nodup_cons.1 (hn.perm hp)).1 (List.mem_map.2 ⟨a, ha, e2⟩)
 conv => rhs; rw [hQ]
 rw [offA, List.filter_append, List.filter_cons_of_neg (by simp)]
 rw [List.filter_eq_self.2 (fun a ha => by simpa using hs a (by simp [ha])), List.filter_eq_self.2 (fun a ha => by simpa using hs a (by simp [ha]))]
theorem cutL_len {Q : List En} {i : Nat} (h : i < Q.length) : (Q.take i ++ Q.drop (i + 1)).length = Q.length - 1 := by simp; omega
theorem clr_due {Q : List En} (hn : Nd Q) (t : Int) : clrA Q (ids (dueA t Q)) = restA t Q := by
 rw [clrA_eq, restA]
 refine List.filter_congr fun x hx => ?_
 rw [decide_eq_decide]
 constructor
 ·intro h1 h2
  exact h1 (List.mem_map.2 ⟨x, List.mem_filter.2 ⟨hx, by simpa using h2⟩, rfl⟩)
 ·intro h1 h2
  obtain ⟨y, hy, h3⟩ := List.mem_map.1 h2
  obtain ⟨hy1, hy2⟩ := List.mem_filter.1 hy
  obtain ⟨j1, hj1⟩ := List.getElem?_of_mem hx
  obtain ⟨j2, hj2⟩ := List.getElem?_of_mem hy1
  have := hn.inj (List.getElem?_eq_some_iff.1 hj1).1 (List.getElem?_eq_some_iff.1 hj2).1 (by rw [gE_of hj1, gE_of hj2, h3])
  subst this
  rw [hj1] at hj2; cases hj2
  exact h1 (by simpa using hy2)
theorem ints_take (xs : List Int) (k : Nat) : (ints xs).take (k * 1) = ints (xs.take k) := by simp [ints, List.map_take]
theorem ints_drop {xs : List Int} {n : Nat} (h : xs.length = n) (k : Nat) : ((ints xs).drop (k * 1)).take ((n - k) * 1) = ints (xs.drop k) := by
 rw [List.take_of_length_le (by rw [List.length_drop, ints_length]; omega)]; simp [ints, List.map_drop]
theorem ints_all {xs : List Int} {n : Nat} (h : xs.length = n) : (ints xs).take (n * 1) = ints xs := List.take_of_length_le (by rw [ints_length]; omega)
theorem ints_app (xs ys : List Int) : ints xs ++ ints ys = ints (xs ++ ys) := by simp [ints]
theorem ints_one : ∀ (xs : List Int), (ints xs).all Value.oneCell' = true
 | [] => rfl
 | x :: xs => by have := ints_one xs; rw [ints] at this ⊢; rw [List.map_cons, List.all_cons, this]; rfl
set_option maxRecDepth 4000 in
theorem rat_ok (b : LC) (now : Int) (Q : List En) (id : Int) (hl : Q.length ≤ 1000000) : FSpec Tryz.prog 85 [.pointer (some ⟨b.n, 2, none⟩), .int .i64 id] (fun F => ent F (isRf b now Q)) [] (fun _ : Unit => .int .i64 (atA Q id)) (fun _ => True) (fun _ => []) := by
 refine FSpec.intro (rs := [.tmp 4]) (by kernel_rfl) Tryz.func85 rfl Tryz.ntmps85 (by rfl) rfl ?_
 intro F hF
 change TC _ _ _ _ _ _ _ (sepL [_])
 refine TC.openR hF (fun x0 hx0 => ?_)
 obtain ⟨⟨a1, c1⟩, ⟨a2, c2⟩⟩ := x0
 clear hx0
 have hil := ints_length (ids Q)
 have hll := ints_length (lf now Q)
 have hi2 := ids_length Q
 have hl2 := lf_length now Q
 refine TC.seq ?_
 refine TC.region ?_
 refine wai rfl rfl ?_
 refine TL.nil (nt ?_)
 refine TC.seq ?_
 refine TC.seq ?_
 refine TC.region ?_
 refine wai rfl rfl ?_
 refine TL.nil (nt ?_)
 refine TC.block ?_
 refine TC.loop (ι := Nat) (fun i => i ≤ Q.length ∧ ∀ j t, j < i → Q[j]? = some t → t.id ≠ id) (fun i => [(0, .pointer (some ⟨b.n, 2, none⟩)), (1, .int .i64 id), (5, .int .i64 i)]) (fun i => sepL [restr F (sepL [pts b.n 60 [b.x0, b.x1, .int .i64 now, .slice a1 Q.length c1, .slice a2 Q.length c2, b.x5, b.x6, b.x7], slc 3 1 a1 Q.length c1 (ints (ids Q)), slc 3 1 a2 Q.length c2 (ints (lf now Q))])]) (fun i => Q.length - i) 0 ⟨Nat.zero_le _, by intro j t h; omega⟩ ⟨rfl, rfl, rfl, trivial⟩ (ent_take 0 rfl (ent_nil _)) ?_
 rintro k ⟨hk, hno⟩ ρ0
 dsimp only [updL] at hk hno ⊢
 refine TC.seq ?_
 refine TC.seq ?_
 refine TC.region ?_
 refine wmi rfl rfl ?_
 refine wmp rfl rfl ?_
 refine wnc rfl rfl ?_
 refine wfa 1 rfl rfl rfl ?_
 refine wld rfl rfl rfl rfl ?_
 refine q rfl rfl (len 3 1 rfl rfl) ?_
 refine q rfl rfl (lss rfl rfl) ?_
 refine TL.nil (nt ?_)
 refine TC.condD rfl (fun hlt => ?_) (fun hlt => ?_)
 ·have hlt2 : k < Q.length := by omega
  obtain ⟨x, hx⟩ : ∃ x, Q[k]? = some x := ⟨Q[k], List.getElem?_eq_getElem hlt2⟩
  have hxi : (ids Q)[k]? = some x.id := by rw [ids, List.getElem?_map, hx]; rfl
  have hpos : 0 < (ints (ids Q)).length := by omega
  refine TC.skip (nt ?_)
  refine TC.seq ?_
  refine TC.block ?_
  refine TC.seq ?_
  refine TC.region ?_
  refine wmp rfl rfl ?_
  refine wnc rfl rfl ?_
  refine wfa 1 rfl rfl rfl ?_
  refine wld rfl rfl rfl rfl ?_
  refine wmi rfl rfl ?_
  refine q rfl rfl (ixS 3 1 rfl rfl rfl (by omega) (by assumption)) ?_
  refine q rfl rfl (ldS rfl rfl (ints_get hxi)) ?_
  refine wmi rfl rfl ?_
  refine q rfl rfl (eqI rfl rfl) ?_
  refine TL.nil (nt ?_)
  refine TC.condD rfl (fun he => ?_) (fun he => ?_)
  ·have hr : atA Q id = (k : Int) := by
    rw [atA, findIdx_at (p := fun x : En => decide (x.id = id)) hx (by simpa using he) (fun j t hj ht => by simpa using hno j t hj ht)]
   refine TC.seq ?_
   refine TC.region ?_
   refine wmi rfl rfl ?_
   refine wai rfl rfl ?_
   refine TL.nil (nt ?_)
   refine TC.ret (rb (rt (rt (rb (rt ?_)))))
   exact Ret.i () [_] ⟨rfl, trivial⟩ (by rw [hr]; rfl) trivial (ent_takeF 0 rfl (ent_nil _))
  ·refine TC.skip (nb (nt ?_))
   refine TC.region ?_
   refine wmi rfl rfl ?_
   refine q rfl rfl (addI rfl rfl (by omega) (by omega)) ?_
   refine wai rfl rfl ?_
   refine TL.nil (nt ?_)
   exact ⟨rfl, (k + 1), ⟨by omega, fun j t hj ht => by rcases Nat.lt_succ_iff_lt_or_eq.1 hj with h | h; exact hno j t h ht; subst h; rw [hx] at ht; cases ht; exact he⟩, (by omega), ⟨rfl, rfl, rfl, trivial⟩, (ent_take 0 rfl (ent_nil _))⟩
 ·have hr : atA Q id = -1 := atA_no (by
   rintro ⟨e1, he1, he2⟩
   obtain ⟨j, hj⟩ := List.getElem?_of_mem he1
   exact hno j e1 (by have := (List.getElem?_eq_some_iff.1 hj).1; omega) hj he2)
  refine TC.exit (et (et (eb (nt ?_))))
  refine TC.seq ?_
  refine TC.region ?_
  refine wai rfl rfl ?_
  refine TL.nil (nt ?_)
  refine TC.ret ?_
  exact Ret.i () [_] ⟨rfl, trivial⟩ (by rw [hr]; rfl) trivial (ent_takeF 0 rfl (ent_nil _))
set_option maxRecDepth 4000 in
theorem rcut_ok (b : LC) (now : Int) (Q : List En) (i : Nat) (hi : i < Q.length) (hl : Q.length ≤ 1000000) : FSpec Tryz.prog 135 [.pointer (some ⟨b.n, 2, none⟩), .int .i64 (i : Int)] noRd [isRf b now Q] (fun _ : Unit => .tuple #[]) (fun _ => True) (fun _ => [isRf b now (Q.take i ++ Q.drop (i + 1))]) := by
 refine FSpec.intro (rs := []) (by kernel_rfl) Tryz.func135 rfl Tryz.ntmps135 (by rfl) rfl ?_
 intro F _
 change TC _ _ _ _ _ _ _ (sepL [_, _])
 refine TC.open 0 rfl (fun x0 hx0 => ?_)
 obtain ⟨⟨a1, c1⟩, ⟨a2, c2⟩⟩ := x0
 clear hx0
 change TC _ _ _ _ _ _ _ (sepL [_, _, _, _])
 refine TC.factSlc 1 rfl (fun _ hc1 _ => ?_)
 refine TC.factSlc 2 rfl (fun _ hc2 _ => ?_)
 have hil := ints_length (ids Q)
 have hll := ints_length (lf now Q)
 have hi2 := ids_length Q
 have hl2 := lf_length now Q
 haveI : OffI (ints (ids Q)) c1 (i + 1) 1 := ⟨Q.length, by omega, by omega, hc1⟩
 haveI : OffI (ints (lf now Q)) c2 (i + 1) 1 := ⟨Q.length, by omega, by omega, hc2⟩
 refine TC.seq ?_
 refine TC.draw _ [19] [(0, false), (2, false), (3, false), (4, false), (5, false), (6, false), (7, false), (9, false), (10, false), (11, false), (12, false), (13, false), (14, false), (15, false), (1, true), (8, true), (16, true), (17, false), (18, false), (19, true)] (by kernel_rfl) (by kernel_rfl) (ent_take 0 rfl (ent_nil _)) ?_
 refine vmp rfl rfl rfl ?_
 refine vmp rfl rfl rfl ?_
 refine vnc rfl rfl rfl ?_
 refine vfa 1 rfl rfl rfl rfl ?_
 refine vld rfl rfl rfl rfl rfl ?_
 refine vmi rfl rfl rfl ?_
 refine dq rfl rfl rfl (slTn 3 1 (i) rfl rfl rfl (by omega) (by omega)) ?_
 refine vmp rfl rfl rfl ?_
 refine vnc rfl rfl rfl ?_
 refine vfa 1 rfl rfl rfl rfl ?_
 refine vld rfl rfl rfl rfl rfl ?_
 refine vmi rfl rfl rfl ?_
 refine dq rfl rfl rfl (addI rfl rfl (by omega) (by omega)) ?_
 refine dq rfl rfl rfl (slFn 3 1 (i + 1) rfl rfl rfl (by omega) (by omega)) ?_
 refine de rfl rfl ?_
 refine bs (cs := []) rfl ?_
 intro b1
 refine ⟨(ent_take 1 rfl (ent_nil _)), ?_⟩
 refine de rfl rfl ?_
 refine ap 8 rfl rfl rfl rfl rfl (by omega) (ints_take (ids Q) i) (ints_one _) (by omega) (by simp only [maxLen]; omega) ?_
 intro ad1 cap1
 refine ⟨(ent_take 1 rfl (ent_nil _)), ?_⟩
 refine de rfl rfl ?_
 refine ap 8 rfl rfl rfl rfl rfl (by rw [List.length_drop]; omega) (ints_drop hi2 (i + 1)) (ints_one _) (by omega) (by simp only [maxLen]; omega) ?_
 intro ad2 cap2
 refine ⟨(ent_take 1 rfl (ent_nil _)), ?_⟩
 refine vnc rfl rfl rfl ?_
 refine vfa 1 rfl rfl rfl rfl ?_
 refine dl0 rfl rfl rfl ?_
 refine st (v := .slice _ _ _) (vs := [_]) 1 rfl rfl rfl rfl rfl rfl (Nat.le_of_ble_eq_true rfl) rfl ?_
 refine TD.nil (nt ?_)
 refine TC.draw _ [19] [(0, false), (2, false), (3, false), (4, false), (5, false), (6, false), (7, false), (9, false), (10, false), (11, false), (12, false), (13, false), (14, false), (15, false), (1, true), (8, true), (16, true), (17, false), (18, false), (19, true)] (by kernel_rfl) (by kernel_rfl) (ent_take 0 rfl (ent_nil _)) ?_
 refine vmp rfl rfl rfl ?_
 refine vmp rfl rfl rfl ?_
 refine vnc rfl rfl rfl ?_
 refine vfa 2 rfl rfl rfl rfl ?_
 refine vld rfl rfl rfl rfl rfl ?_
 refine vmi rfl rfl rfl ?_
 refine dq rfl rfl rfl (slTn 3 1 (i) rfl rfl rfl (by omega) (by omega)) ?_
 refine vmp rfl rfl rfl ?_
 refine vnc rfl rfl rfl ?_
 refine vfa 2 rfl rfl rfl rfl ?_
 refine vld rfl rfl rfl rfl rfl ?_
 refine vmi rfl rfl rfl ?_
 refine dq rfl rfl rfl (addI rfl rfl (by omega) (by omega)) ?_
 refine dq rfl rfl rfl (slFn 3 1 (i + 1) rfl rfl rfl (by omega) (by omega)) ?_
 refine de rfl rfl ?_
 refine bs (cs := []) rfl ?_
 intro b2
 refine ⟨(ent_take 1 rfl (ent_nil _)), ?_⟩
 refine de rfl rfl ?_
 refine ap 8 rfl rfl rfl rfl rfl (by omega) (ints_take (lf now Q) i) (ints_one _) (by omega) (by simp only [maxLen]; omega) ?_
 intro ad3 cap3
 refine ⟨(ent_take 1 rfl (ent_nil _)), ?_⟩
 refine de rfl rfl ?_
 refine ap 8 rfl rfl rfl rfl rfl (by rw [List.length_drop]; omega) (ints_drop hl2 (i + 1)) (ints_one _) (by omega) (by simp only [maxLen]; omega) ?_
 intro ad4 cap4
 refine ⟨(ent_take 1 rfl (ent_nil _)), ?_⟩
 refine vnc rfl rfl rfl ?_
 refine vfa 2 rfl rfl rfl rfl ?_
 refine dl0 rfl rfl rfl ?_
 refine st (v := .slice _ _ _) (vs := [_]) 1 rfl rfl rfl rfl rfl rfl (Nat.le_of_ble_eq_true rfl) rfl ?_
 refine TD.nil ?_
 exact Ret.n () [] trivial rfl trivial (ent_close ⟨(ad2, cap2), (ad4, cap4)⟩ trivial (ent_takeE 0 rfl (by rw [cutL_len hi, show 0 + i + (Q.length - (i + 1)) = Q.length - 1 from by omega]; rfl) (ent_takeE 1 rfl (by rw [cutL_len hi, show 0 + i + (Q.length - (i + 1)) = Q.length - 1 from by omega, List.nil_append, ints_app]; simp [ids]) (ent_takeE 0 rfl (by rw [cutL_len hi, show 0 + i + (Q.length - (i + 1)) = Q.length - 1 from by omega, List.nil_append, ints_app]; simp [lf]) (ent_take 2 rfl (ent_nil _))))))
set_option maxRecDepth 4000 in
theorem rof_ok (b : LC) (now : Int) (Q : List En) (id : Int) (hl : Q.length ≤ 1000000) (hn : Nd Q) : FSpec Tryz.prog 32 [.pointer (some ⟨b.n, 2, none⟩), .int .i64 id] (fun F => ent F (isRf b now Q)) [] (fun _ : Unit => .int .i64 (leftA Q now id)) (fun _ => True) (fun _ => []) := by
 refine FSpec.intro (rs := [.tmp 4]) (by kernel_rfl) Tryz.func32 rfl Tryz.ntmps32 (by rfl) rfl ?_
 intro F hF
 change TC _ _ _ _ _ _ _ (sepL [_])
 refine TC.seq ?_
 refine TC.region ?_
 refine wai rfl rfl ?_
 refine TL.nil (nt ?_)
 refine TC.seq ?_
 refine TC.region ?_
 refine wmp rfl rfl ?_
 refine wmi rfl rfl ?_
 refine e rfl ?_
 refine cl (rat_ok b now Q id hl) rfl (picked_nil _) ((ent_one 0 rfl).trans hF) ?_
 intro _ _
 change TL _ _ _ _ _ _ _ _ (sepL [_])
 by_cases hy : hasA Q id
 ·obtain ⟨i, x, h1, h2, h3⟩ := atA_yes hy
  rw [h1]
  have hil := (List.getElem?_eq_some_iff.1 h2).1
  have hR := left_yes hn (List.mem_of_getElem? h2) now
  rw [h3] at hR
  rw [hR]
  have hxl : (lf now Q)[i]? = some (x.at_ - now) := by rw [lf, List.getElem?_map, h2]; rfl
  refine wai rfl rfl ?_
  refine TL.nil (nt ?_)
  refine TC.seq ?_
  refine TC.seq ?_
  refine TC.region ?_
  refine wmi rfl rfl ?_
  refine q rfl rfl (lss rfl rfl) ?_
  refine TL.nil (nt ?_)
  refine TC.condD rfl (fun hc1 => absurd hc1 (by omega)) (fun hc1 => ?_)
  refine TC.skip (nt ?_)
  refine TC.seq ?_
  refine TC.openR hF (fun x0 hx0 => ?_)
  obtain ⟨⟨a1, c1⟩, ⟨a2, c2⟩⟩ := x0
  clear hx0
  have hil := ints_length (ids Q)
  have hll := ints_length (lf now Q)
  have hi2 := ids_length Q
  have hl2 := lf_length now Q
  have hpos : 0 < (ints (lf now Q)).length := by omega
  refine TC.region ?_
  refine wmp rfl rfl ?_
  refine wnc rfl rfl ?_
  refine wfa 2 rfl rfl rfl ?_
  refine wld rfl rfl rfl rfl ?_
  refine wmi rfl rfl ?_
  refine q rfl rfl (ixS 3 1 rfl rfl rfl (by omega) (by assumption)) ?_
  refine q rfl rfl (ldS rfl rfl (ints_get hxl)) ?_
  refine wai rfl rfl ?_
  refine TL.nil (nt ?_)
  refine TC.ret ?_
  exact Ret.i () [_] ⟨rfl, trivial⟩ rfl trivial (ent_takeF 0 rfl (ent_nil _))
 ·rw [atA_no hy, left_no hy]
  refine wai rfl rfl ?_
  refine TL.nil (nt ?_)
  refine TC.seq ?_
  refine TC.seq ?_
  refine TC.region ?_
  refine wmi rfl rfl ?_
  refine q rfl rfl (lss rfl rfl) ?_
  refine TL.nil (nt ?_)
  refine TC.condD rfl (fun hc2 => ?_) (fun hc2 => absurd (by decide) hc2)
  refine TC.seq ?_
  refine TC.region ?_
  refine wai rfl rfl ?_
  refine TL.nil (nt ?_)
  refine TC.ret (rt ?_)
  exact Ret.i () [_] ⟨rfl, trivial⟩ rfl trivial (ent_take 0 rfl (ent_nil _))
set_option maxRecDepth 4000 in
theorem rset_ok (b : LC) (now tn : Int) (Q : List En) (id ticks : Int) (hl : Q.length ≤ 1000000) : FSpec Tryz.prog 137 [.pointer (some ⟨b.n, 2, none⟩), .int .i64 id, .int .i64 ticks] noRd [isRf b now Q] (fun _ : Unit => .int .i64 (setA Q now tn id ticks).2.2) (fun _ => True) (fun _ => [isRf b now (setA Q now tn id ticks).1]) := by
 refine FSpec.intro (rs := [.tmp 6]) (by kernel_rfl) Tryz.func137 rfl Tryz.ntmps137 (by rfl) rfl ?_
 intro F _
 change TC _ _ _ _ _ _ _ (sepL [_, _])
 refine TC.seq ?_
 refine TC.region ?_
 refine wai rfl rfl ?_
 refine TL.nil (nt ?_)
 refine TC.seq ?_
 refine TC.seq ?_
 refine TC.region ?_
 refine wmi rfl rfl ?_
 refine q rfl rfl (lss rfl rfl) ?_
 refine wmb rfl rfl ?_
 refine TL.split 9 rfl (fun hs0 => ?_) (fun hs0 => ?_)
 ·have hs0 := of_decide_eq_true hs0
  have hR : setA Q now tn id ticks = (Q, tn, 1) := by rw [setA, if_pos (by omega)]
  rw [hR]
  dsimp only
  refine qs rfl rfl ?_
  refine qs rfl rfl ?_
  refine q rfl rfl (pkT (v := .bool _) rfl rfl) ?_
  refine wmb rfl rfl ?_
  refine qs rfl rfl ?_
  refine qs rfl rfl ?_
  refine q rfl rfl (pkT (v := .bool _) rfl rfl) ?_
  refine TL.nil (nt ?_)
  refine TC.condT rfl ?_
  refine TC.seq ?_
  refine TC.region ?_
  refine wai rfl rfl ?_
  refine TL.nil (nt ?_)
  refine TC.ret (rt ?_)
  exact Ret.i () [_] ⟨rfl, trivial⟩ rfl trivial (ent_take 0 rfl (ent_take 0 rfl (ent_nil _)))
 ·have hs0 := of_decide_eq_false hs0
  refine qg rfl rfl rfl (mv (v := .int _ _) rfl) ?_
  refine qg rfl rfl rfl (lss rfl rfl) ?_
  refine q rfl rfl (pkF (v := .bool _) rfl rfl) ?_
  refine wmb rfl rfl ?_
  refine TL.split 13 rfl (fun hs1 => ?_) (fun hs1 => ?_)
  ·have hs1 := of_decide_eq_true hs1
   have hR : setA Q now tn id ticks = (Q, tn, 1) := by rw [setA, if_pos (by omega)]
   rw [hR]
   dsimp only
   refine qs rfl rfl ?_
   refine qs rfl rfl ?_
   refine q rfl rfl (pkT (v := .bool _) rfl rfl) ?_
   refine TL.nil (nt ?_)
   refine TC.condT rfl ?_
   refine TC.seq ?_
   refine TC.region ?_
   refine wai rfl rfl ?_
   refine TL.nil (nt ?_)
   refine TC.ret (rt ?_)
   exact Ret.i () [_] ⟨rfl, trivial⟩ rfl trivial (ent_take 0 rfl (ent_take 0 rfl (ent_nil _)))
  ·have hs1 := of_decide_eq_false hs1
   refine qg rfl rfl rfl (mv (v := .int _ _) rfl) ?_
   refine qg rfl rfl rfl (gtr rfl rfl) ?_
   refine q rfl rfl (pkF (v := .bool _) rfl rfl) ?_
   refine TL.nil (nt ?_)
   refine TC.condD rfl (fun hs2 => ?_) (fun hs2 => ?_)
   ·have hR : setA Q now tn id ticks = (Q, tn, 1) := by rw [setA, if_pos (by omega)]
    rw [hR]
    dsimp only
    refine TC.seq ?_
    refine TC.region ?_
    refine wai rfl rfl ?_
    refine TL.nil (nt ?_)
    refine TC.ret (rt ?_)
    exact Ret.i () [_] ⟨rfl, trivial⟩ rfl trivial (ent_take 0 rfl (ent_take 0 rfl (ent_nil _)))
   ·refine TC.skip (nt ?_)
    refine TC.seq ?_
    refine TC.seq ?_
    refine TC.region ?_
    refine wmp rfl rfl ?_
    refine wmi rfl rfl ?_
    refine e rfl ?_
    refine cl (rat_ok b now Q id hl) rfl (picked_nil _) (ent_one 0 rfl) ?_
    intro _ _
    change TL _ _ _ _ _ _ _ _ (sepL [_, _])
    by_cases hy : hasA Q id
    ·obtain ⟨i, x, h1, h2, h3⟩ := atA_yes hy
     rw [h1]
     have hR : setA Q now tn id ticks = (Q, tn, 7) := by rw [setA, if_neg (by omega), if_pos hy]
     rw [hR]
     dsimp only
     refine q rfl rfl (geq rfl rfl) ?_
     refine TL.nil (nt ?_)
     refine TC.condD rfl (fun hc3 => ?_) (fun hc3 => absurd (by omega) hc3)
     refine TC.seq ?_
     refine TC.region ?_
     refine wai rfl rfl ?_
     refine TL.nil (nt ?_)
     refine TC.ret (rt ?_)
     exact Ret.i () [_] ⟨rfl, trivial⟩ rfl trivial (ent_take 0 rfl (ent_take 0 rfl (ent_nil _)))
    ·rw [atA_no hy]
     have hR : setA Q now tn id ticks = (Q ++ [⟨now + ticks, tn + 1, id⟩], tn + 1, 0) := by rw [setA, if_neg (by omega), if_neg hy]
     rw [hR]
     dsimp only
     refine q rfl rfl (geq rfl rfl) ?_
     refine TL.nil (nt ?_)
     refine TC.condD rfl (fun hc4 => absurd hc4 (by decide)) (fun hc4 => ?_)
     refine TC.open 0 rfl (fun x0 hx0 => ?_)
     obtain ⟨⟨a1, c1⟩, ⟨a2, c2⟩⟩ := x0
     clear hx0
     change TC _ _ _ _ _ _ _ (sepL [_, _, _, _])
     have hil := ints_length (ids Q)
     have hll := ints_length (lf now Q)
     have hi2 := ids_length Q
     have hl2 := lf_length now Q
     have hlf : ints (lf now Q) ++ ints [ticks] = ints (lf now (Q ++ [⟨now + ticks, tn + 1, id⟩])) := by
      rw [ints_app, lf, lf, List.map_append, List.map_singleton, show now + ticks - now = ticks from by omega]
     refine TC.skip (nt ?_)
     refine TC.seq ?_
     refine TC.region ?_
     refine wmp rfl rfl ?_
     refine e rfl ?_
     refine bs (cs := []) rfl ?_
     intro b3
     refine wmp rfl rfl ?_
     refine wnc rfl rfl ?_
     refine wfa 1 rfl rfl rfl ?_
     refine wld rfl rfl rfl rfl ?_
     refine e rfl ?_
     refine ap 8 rfl rfl rfl rfl rfl (by omega) (ints_all hi2) (ints_one _) (by omega) (by simp only [maxLen]; omega) ?_
     intro ad5 cap5
     refine wmi rfl rfl ?_
     refine e rfl ?_
     refine bs (cs := [.int _ _]) rfl ?_
     intro b4
     refine e rfl ?_
     refine ap 8 rfl rfl rfl rfl rfl (Nat.le_of_ble_eq_true rfl) (show _ = ints [id] from rfl) rfl (by omega) (by simp only [maxLen]; omega) ?_
     intro ad6 cap6
     refine wnc rfl rfl ?_
     refine wfa 1 rfl rfl rfl ?_
     refine e0 ?_
     refine st (v := .slice _ _ _) (vs := [_]) 1 rfl rfl rfl rfl rfl rfl (Nat.le_of_ble_eq_true rfl) rfl ?_
     refine TL.nil (nt ?_)
     refine TC.seq ?_
     refine TC.region ?_
     refine wmp rfl rfl ?_
     refine e rfl ?_
     refine bs (cs := []) rfl ?_
     intro b5
     refine wmp rfl rfl ?_
     refine wnc rfl rfl ?_
     refine wfa 2 rfl rfl rfl ?_
     refine wld rfl rfl rfl rfl ?_
     refine e rfl ?_
     refine ap 8 rfl rfl rfl rfl rfl (by omega) (ints_all hl2) (ints_one _) (by omega) (by simp only [maxLen]; omega) ?_
     intro ad7 cap7
     refine wmi rfl rfl ?_
     refine e rfl ?_
     refine bs (cs := [.int _ _]) rfl ?_
     intro b6
     refine e rfl ?_
     refine ap 8 rfl rfl rfl rfl rfl (Nat.le_of_ble_eq_true rfl) (show _ = ints [ticks] from rfl) rfl (by omega) (by simp only [maxLen]; omega) ?_
     intro ad8 cap8
     refine wnc rfl rfl ?_
     refine wfa 2 rfl rfl rfl ?_
     refine e0 ?_
     refine st (v := .slice _ _ _) (vs := [_]) 1 rfl rfl rfl rfl rfl rfl (Nat.le_of_ble_eq_true rfl) rfl ?_
     refine TL.nil (nt ?_)
     refine TC.seq ?_
     refine TC.region ?_
     refine wai rfl rfl ?_
     refine TL.nil (nt ?_)
     refine TC.ret ?_
     exact Ret.i () [_] ⟨rfl, trivial⟩ rfl trivial (ent_close ⟨(ad6, cap6), (ad8, cap8)⟩ trivial (ent_takeE 0 rfl (by simp only [List.length_append, Nat.zero_add, List.length_singleton]; rfl) (ent_takeE 2 rfl (by rw [List.nil_append, List.length_append, Nat.zero_add, ints_app]; simp [ids]) (ent_takeE 0 rfl (by rw [List.nil_append, List.length_append, Nat.zero_add, hlf]; rfl) (ent_take 4 rfl (ent_nil _))))))
set_option maxRecDepth 4000 in
theorem rclear_ok (b : LC) (now : Int) (Q : List En) (a2 : Option Addr) (c2 : Nat) (xs : List Int) (hl : Q.length ≤ 1000000) (hx : xs.length ≤ 1000000) (hn : Nd Q) : FSpec Tryz.prog 112 [.pointer (some ⟨b.n, 2, none⟩), .slice a2 xs.length c2] (fun F => ∃ E, RdS F E a2 (ints xs)) [isRf b now Q] (fun _ : Unit => .int .i64 ((Q.length : Int) - (clrA Q xs).length)) (fun _ => True) (fun _ => [isRf b now (clrA Q xs)]) := by
 refine FSpec.intro (rs := [.tmp 4]) (by kernel_rfl) Tryz.func112 rfl Tryz.ntmps112 (by rfl) rfl ?_
 intro F ⟨E, hF⟩
 change TC _ _ _ _ _ _ _ (sepL [_, _])
 haveI : RdSI F a2 E (ints xs) := ⟨hF⟩
 have hxl := ints_length xs
 refine TC.seq ?_
 refine TC.region ?_
 refine wai rfl rfl ?_
 refine TL.nil (nt ?_)
 refine TC.seq ?_
 refine TC.region ?_
 refine wai rfl rfl ?_
 refine TL.nil (nt ?_)
 refine TC.seq ?_
 refine TC.seq ?_
 refine TC.region ?_
 refine wai rfl rfl ?_
 refine TL.nil (nt ?_)
 refine TC.block ?_
 refine TC.loop (ι := Nat × List En) (fun s => s.1 ≤ xs.length ∧ s.2 = clrA Q (xs.take s.1) ∧ Nd s.2) (fun s => [(0, .pointer (some ⟨b.n, 2, none⟩)), (1, .slice a2 xs.length c2), (5, .int .i64 ((Q.length : Int) - (s.2.length : Int))), (6, .int .i64 ((s.1 : Nat) : Int))]) (fun s => sepL [isRf b now s.2, F]) (fun s => xs.length - s.1) ⟨0, Q⟩ ⟨Nat.zero_le _, rfl, hn⟩ ⟨rfl, rfl, congrArg (Value.int .i64) (Int.sub_self _).symm, rfl, trivial⟩ (ent_take 0 rfl (ent_take 0 rfl (ent_nil _))) ?_
 rintro ⟨k, Z⟩ ⟨hk, hZ, hnZ⟩ ρ0
 dsimp only [updL] at hk hZ hnZ ⊢
 refine TC.seq ?_
 refine TC.seq ?_
 refine TC.region ?_
 refine wmi rfl rfl ?_
 refine wms rfl rfl ?_
 refine q rfl rfl (len 3 1 rfl rfl) ?_
 refine q rfl rfl (lss rfl rfl) ?_
 refine TL.nil (nt ?_)
 refine TC.condD rfl (fun hlt => ?_) (fun hlt => ?_)
 ·have hkx : k < xs.length := by omega
  obtain ⟨x, hxk⟩ : ∃ x, xs[k]? = some x := ⟨xs[k], List.getElem?_eq_getElem hkx⟩
  have hpos : 0 < (ints xs).length := by omega
  have htk : clrA Q (xs.take (k + 1)) = offA Z x := by rw [List.take_add_one, hxk, Option.toList, clrA_snoc, hZ]
  have hZl : Z.length ≤ Q.length := by rw [hZ]; exact (clrA_sub Q _).length_le
  refine TC.skip (nt ?_)
  refine TC.seq ?_
  refine TC.block ?_
  refine TC.seq ?_
  refine TC.region ?_
  refine wmp rfl rfl ?_
  refine wms rfl rfl ?_
  refine wmi rfl rfl ?_
  refine q rfl rfl (ixS 3 1 rfl rfl rfl (by omega) (by assumption)) ?_
  refine q rfl rfl (ldS rfl rfl (ints_get hxk)) ?_
  refine e rfl ?_
  refine cl (rat_ok b now Z x (by omega)) rfl (picked_nil _) (ent_one 0 rfl) ?_
  intro _ _
  change TL _ _ _ _ _ _ _ _ (sepL [_, _])
  by_cases hy : hasA Z x
  ·obtain ⟨i, u, h1, h2, h3⟩ := atA_yes hy
   rw [h1]
   have hil := (List.getElem?_eq_some_iff.1 h2).1
   have hco := cut_off hnZ h2
   rw [h3] at hco
   have hol := off_length hy hnZ
   refine wai rfl rfl ?_
   refine TL.nil (nt ?_)
   refine TC.seq ?_
   refine TC.region ?_
   refine wmi rfl rfl ?_
   refine q rfl rfl (geq rfl rfl) ?_
   refine TL.nil (nt ?_)
   refine TC.condD rfl (fun hc5 => ?_) (fun hc5 => absurd (by omega) hc5)
   refine TC.seq ?_
   refine TC.region ?_
   refine wmp rfl rfl ?_
   refine wmi rfl rfl ?_
   refine e rfl ?_
   refine cl (rcut_ok b now Z i hil (by omega)) rfl (picked_cons 0 rfl (picked_nil _)) trivial ?_
   intro _ _
   change TL _ _ _ _ _ _ _ _ (sepL [_, _])
   rw [hco]
   refine TL.nil (nt ?_)
   refine TC.region ?_
   refine wmi rfl rfl ?_
   refine q rfl rfl (addI rfl rfl (by omega) (by omega)) ?_
   refine wai rfl rfl ?_
   refine TL.nil (nb (nt ?_))
   refine TC.region ?_
   refine wmi rfl rfl ?_
   refine q rfl rfl (addI rfl rfl (by omega) (by omega)) ?_
   refine wai rfl rfl ?_
   refine TL.nil (nt ?_)
   exact ⟨rfl, ⟨k + 1, offA Z x⟩, ⟨by dsimp only; omega, htk.symm, hnZ.sublist (List.filter_sublist.map _)⟩, (by dsimp only; omega), ⟨rfl, rfl, congrArg (Value.int .i64) (by dsimp only; omega), rfl, trivial⟩, (ent_take 0 rfl (ent_take 0 rfl (ent_nil _)))⟩
  ·rw [atA_no hy]
   have hon := off_none hy
   refine wai rfl rfl ?_
   refine TL.nil (nt ?_)
   refine TC.seq ?_
   refine TC.region ?_
   refine wmi rfl rfl ?_
   refine q rfl rfl (geq rfl rfl) ?_
   refine TL.nil (nt ?_)
   refine TC.condD rfl (fun hc6 => absurd hc6 (by decide)) (fun hc6 => ?_)
   refine TC.skip (nb (nt ?_))
   refine TC.region ?_
   refine wmi rfl rfl ?_
   refine q rfl rfl (addI rfl rfl (by omega) (by omega)) ?_
   refine wai rfl rfl ?_
   refine TL.nil (nt ?_)
   exact ⟨rfl, ⟨k + 1, Z⟩, ⟨by dsimp only; omega, by dsimp only; rw [htk, hon], hnZ⟩, (by dsimp only; omega), ⟨rfl, rfl, rfl, rfl, trivial⟩, (ent_take 0 rfl (ent_take 0 rfl (ent_nil _)))⟩
 ·obtain rfl : k = xs.length := by omega
  rw [List.take_length] at hZ
  subst hZ
  refine TC.exit (et (et (eb (nt ?_))))
  refine TC.seq ?_
  refine TC.region ?_
  refine wmi rfl rfl ?_
  refine wai rfl rfl ?_
  refine TL.nil (nt ?_)
  refine TC.ret ?_
  exact Ret.i () [_] ⟨rfl, trivial⟩ rfl trivial (ent_take 0 rfl (ent_take 0 rfl (ent_nil _)))
set_option maxRecDepth 4000 in
theorem rtick_ok (b : LC) (now : Int) (Q : List En) (hl : Q.length ≤ 1000000) (hb : 0 ≤ now ∧ now ≤ 1000000000000) (ht : ∀ x ∈ Q, now < x.at_ ∧ x.at_ ≤ 2000000000000) (hn : Nd Q) : FSpec Tryz.prog 123 [.pointer (some ⟨b.n, 2, none⟩)] noRd [isRf b now Q] (fun y : Option Addr × Nat => .slice y.1 (ids (dueA (now + 1) Q)).length y.2) (fun _ => True) (fun y => [isRf b (now + 1) (restA (now + 1) Q), slc 3 1 y.1 (ids (dueA (now + 1) Q)).length y.2 (ints (ids (dueA (now + 1) Q)))]) := by
 refine FSpec.intro (rs := [.tmp 2]) (by kernel_rfl) Tryz.func123 rfl Tryz.ntmps123 (by rfl) rfl ?_
 intro F _
 change TC _ _ _ _ _ _ _ (sepL [_, _])
 refine TC.open 0 rfl (fun x0 hx0 => ?_)
 obtain ⟨⟨a1, c1⟩, ⟨a2, c2⟩⟩ := x0
 clear hx0
 change TC _ _ _ _ _ _ _ (sepL [_, _, _, _])
 have hil := ints_length (ids Q)
 have hll := ints_length (lf now Q)
 have hi2 := ids_length Q
 have hl2 := lf_length now Q
 refine TC.seq ?_
 refine TC.region ?_
 refine was rfl rfl ?_
 refine TL.nil (nt ?_)
 refine TC.seq ?_
 refine TC.region ?_
 refine wmp rfl rfl ?_
 refine wnc rfl rfl ?_
 refine wfa 0 rfl rfl rfl ?_
 refine wld rfl rfl rfl rfl ?_
 refine q rfl rfl (addI rfl rfl (by omega) (by omega)) ?_
 refine wnc rfl rfl ?_
 refine wfa 0 rfl rfl rfl ?_
 refine e0 ?_
 refine st (v := .int _ _) (vs := [_]) 1 rfl rfl rfl rfl rfl rfl (Nat.le_of_ble_eq_true rfl) rfl ?_
 refine TL.nil (nt ?_)
 refine TC.seq ?_
 refine TC.region ?_
 refine was rfl rfl ?_
 refine TL.nil (nt ?_)
 refine TC.seq ?_
 refine TC.seq ?_
 refine TC.region ?_
 refine wai rfl rfl ?_
 refine TL.nil (nt ?_)
 refine TC.block ?_
 refine TC.loop (ι := Nat × (Option Addr × Nat)) (fun s => s.1 ≤ Q.length) (fun s => [(0, .pointer (some ⟨b.n, 2, none⟩)), (3, .slice s.2.1 (ids (dueA (now + 1) (Q.take s.1))).length s.2.2), (4, .int .i64 ((s.1 : Nat) : Int))]) (fun s => sepL [pts b.n 60 [b.x0, b.x1, .int .i64 (now + 1), .slice a1 Q.length c1, .slice a2 Q.length c2, b.x5, b.x6, b.x7], slc 3 1 a1 Q.length c1 (ints (ids Q)), slc 3 1 a2 Q.length c2 (ints (lf (now + 1) (Q.take s.1) ++ lf now (Q.drop s.1))), slc 3 1 s.2.1 (ids (dueA (now + 1) (Q.take s.1))).length s.2.2 (ints (ids (dueA (now + 1) (Q.take s.1)))), F]) (fun s => Q.length - s.1) ⟨0, (none, 0)⟩ (Nat.zero_le _) ⟨rfl, rfl, rfl, trivial⟩ ((slc_nil 3 1 _).trans (ent_take 1 rfl (ent_take 1 rfl (ent_take 1 rfl (ent_take 0 rfl (ent_take 0 rfl (ent_nil _))))))) ?_
 rintro ⟨k, ⟨oa, oc⟩⟩ hk ρ0
 dsimp only [updL] at hk ⊢
 refine TC.seq ?_
 refine TC.seq ?_
 refine TC.region ?_
 refine wmi rfl rfl ?_
 refine wmp rfl rfl ?_
 refine wnc rfl rfl ?_
 refine wfa 1 rfl rfl rfl ?_
 refine wld rfl rfl rfl rfl ?_
 refine q rfl rfl (len 3 1 rfl rfl) ?_
 refine q rfl rfl (lss rfl rfl) ?_
 refine TL.nil (nt ?_)
 refine TC.condD rfl (fun hlt => ?_) (fun hlt => ?_)
 ·have hlt2 : k < Q.length := by omega
  obtain ⟨x, hx⟩ : ∃ x, Q[k]? = some x := ⟨Q[k], List.getElem?_eq_getElem hlt2⟩
  have hxr := ht x (List.mem_of_getElem? hx)
  have hlk : (lf (now + 1) (Q.take k) ++ lf now (Q.drop k)).length = Q.length := by rw [List.length_append, lf_length, lf_length, List.length_take, List.length_drop]; omega
  have hlki := ints_length (lf (now + 1) (Q.take k) ++ lf now (Q.drop k))
  have hl1 : (lf (now + 1) (Q.take k)).length = k := by rw [lf_length, List.length_take]; omega
  have hdr : Q.drop k = x :: Q.drop (k + 1) := by
   obtain ⟨g1, g2⟩ := List.getElem?_eq_some_iff.1 hx
   rw [← g2]; exact List.drop_eq_getElem_cons g1
  have hxk : (lf (now + 1) (Q.take k) ++ lf now (Q.drop k))[k]? = some (x.at_ - now) := by
   rw [List.getElem?_append_right (by omega), hl1, Nat.sub_self, hdr]; rfl
  have htk : Q.take (k + 1) = Q.take k ++ [x] := by rw [List.take_add_one, hx]; rfl
  have hset : (lf (now + 1) (Q.take k) ++ lf now (Q.drop k)).set k (x.at_ - now - 1) = (lf (now + 1) (Q.take (k + 1)) ++ lf now (Q.drop (k + 1))) := by
   rw [List.set_append_right _ _ (by omega), hl1, Nat.sub_self, hdr, htk]
   simp only [lf, List.map_cons, List.set_cons_zero, List.map_append, List.map_nil, List.append_assoc, List.cons_append, List.nil_append]
   congr 2; omega
  have hxk2 : (lf (now + 1) (Q.take (k + 1)) ++ lf now (Q.drop (k + 1)))[k]? = some (x.at_ - now - 1) := by rw [← hset]; exact List.getElem?_set_self (by omega)
  have hxi : (ids Q)[k]? = some x.id := by rw [ids, List.getElem?_map, hx]; rfl
  have hpos : 0 < (ints (lf (now + 1) (Q.take k) ++ lf now (Q.drop k))).length := by omega
  have hlk2 : (lf (now + 1) (Q.take (k + 1)) ++ lf now (Q.drop (k + 1))).length = Q.length := by rw [← hset, List.length_set]; exact hlk
  have hpos2 : 0 < (ints (lf (now + 1) (Q.take (k + 1)) ++ lf now (Q.drop (k + 1)))).length := by rw [ints_length]; omega
  have hpos3 : 0 < (ints (ids Q)).length := by omega
  have hdk := due_le (now + 1) (Q.take k)
  have htl : (Q.take k).length = k := by rw [List.length_take]; omega
  have hdue : dueA (now + 1) (Q.take (k + 1)) = if x.at_ - now - 1 = 0 then dueA (now + 1) (Q.take k) ++ [x] else dueA (now + 1) (Q.take k) := by
   rw [htk, dueA, List.filter_append]
   split
   ·rw [List.filter_cons_of_pos (by simp; omega)]; rfl
   ·rw [List.filter_cons_of_neg (by simp; omega)]; exact List.append_nil _
  refine TC.skip (nt ?_)
  refine TC.seq ?_
  refine TC.block ?_
  refine TC.seq ?_
  refine TC.region ?_
  refine wmp rfl rfl ?_
  refine wnc rfl rfl ?_
  refine wfa 2 rfl rfl rfl ?_
  refine wld rfl rfl rfl rfl ?_
  refine wmi rfl rfl ?_
  refine q rfl rfl (ixS 3 1 rfl rfl rfl (by omega) (by assumption)) ?_
  refine q rfl rfl (ldS rfl rfl (ints_get hxk)) ?_
  refine q rfl rfl (subI rfl rfl (by omega) (by omega)) ?_
  refine q rfl rfl (ixS 3 1 rfl rfl rfl (by omega) (by assumption)) ?_
  refine e0 ?_
  refine QM.stS (v := .int _ _) (vs := [_]) 1 rfl rfl rfl rfl rfl rfl (by decide) (by omega) ((ints_splice (i := k) (by omega) (by omega) _).trans (congrArg ints hset)) ?_
  refine TL.nil (nt ?_)
  refine TC.seq ?_
  refine TC.region ?_
  refine wmp rfl rfl ?_
  refine wnc rfl rfl ?_
  refine wfa 2 rfl rfl rfl ?_
  refine wld rfl rfl rfl rfl ?_
  refine wmi rfl rfl ?_
  refine q rfl rfl (ixS 3 1 rfl rfl rfl (by omega) (by assumption)) ?_
  refine q rfl rfl (ldS rfl rfl (ints_get hxk2)) ?_
  refine q rfl rfl (eqI rfl rfl) ?_
  refine TL.nil (nt ?_)
  refine TC.condD rfl (fun h0 => ?_) (fun h0 => ?_)
  ·rw [if_pos h0] at hdue
   refine TC.region ?_
   refine wms rfl rfl ?_
   refine wmp rfl rfl ?_
   refine wnc rfl rfl ?_
   refine wfa 1 rfl rfl rfl ?_
   refine wld rfl rfl rfl rfl ?_
   refine wmi rfl rfl ?_
   refine q rfl rfl (ixS 3 1 rfl rfl rfl (by omega) (by assumption)) ?_
   refine q rfl rfl (ldS rfl rfl (ints_get hxi)) ?_
   refine e rfl ?_
   refine bs (cs := [.int _ _]) rfl ?_
   intro b7
   refine e rfl ?_
   refine ap 8 rfl rfl rfl rfl rfl (Nat.le_of_ble_eq_true rfl) (show _ = ints [x.id] from rfl) rfl (by omega) (by simp only [maxLen]; omega) ?_
   intro ad9 cap9
   refine was rfl rfl ?_
   refine TL.nil (nb (nt ?_))
   refine TC.region ?_
   refine wmi rfl rfl ?_
   refine q rfl rfl (addI rfl rfl (by omega) (by omega)) ?_
   refine wai rfl rfl ?_
   refine TL.nil (nt ?_)
   exact ⟨rfl, ⟨k + 1, (ad9, cap9)⟩, (by dsimp only; omega), (by dsimp only; omega), ⟨rfl, congrArg (fun n => Value.slice _ n _) (by dsimp only; rw [hdue]; simp [ids]), rfl, trivial⟩, (ent_take 3 rfl (ent_take 3 rfl (ent_take 2 rfl (ent_takeE 0 rfl (by dsimp only; rw [hdue]; simp [ids, ints]) (ent_take 1 rfl (ent_nil _))))))⟩
  ·rw [if_neg h0] at hdue
   refine TC.skip (nb (nt ?_))
   refine TC.region ?_
   refine wmi rfl rfl ?_
   refine q rfl rfl (addI rfl rfl (by omega) (by omega)) ?_
   refine wai rfl rfl ?_
   refine TL.nil (nt ?_)
   exact ⟨rfl, ⟨k + 1, (oa, oc)⟩, (by dsimp only; omega), (by dsimp only; omega), ⟨rfl, congrArg (fun n => Value.slice _ n _) (by dsimp only; rw [hdue]), rfl, trivial⟩, (ent_take 1 rfl (ent_take 1 rfl (ent_take 0 rfl (ent_takeE 0 rfl (by dsimp only; rw [hdue]) (ent_take 0 rfl (ent_nil _))))))⟩
 ·obtain rfl : k = Q.length := by omega
  have hcd := clr_due hn (now + 1)
  have hdl := due_le (now + 1) Q
  rw [List.take_length, List.drop_length, show lf now [] = [] from rfl, List.append_nil]
  refine TC.weak (B := sepL [isRf b (now + 1) Q, slc 3 1 oa (ids (dueA (now + 1) Q)).length oc (ints (ids (dueA (now + 1) Q))), F]) (ent_close ⟨(a1, c1), (a2, c2)⟩ trivial (ent_take 0 rfl (ent_take 0 rfl (ent_take 0 rfl (ent_take 0 rfl (ent_take 0 rfl (ent_nil _))))))) ?_
  refine TC.exit (et (et (eb (nt ?_))))
  refine TC.seq ?_
  refine TC.region ?_
  refine wmp rfl rfl ?_
  refine wms rfl rfl ?_
  refine e rfl ?_
  refine cl (rclear_ok b (now + 1) Q oa oc (ids (dueA (now + 1) Q)) hl (by omega) hn) rfl (picked_cons 0 rfl (picked_nil _)) ⟨_, RdSI.rd⟩ ?_
  intro _ _
  change TL _ _ _ _ _ _ _ _ (sepL [_, _, _])
  rw [hcd]
  refine TL.nil (nt ?_)
  refine TC.seq ?_
  refine TC.region ?_
  refine wms rfl rfl ?_
  refine was rfl rfl ?_
  refine TL.nil (nt ?_)
  refine TC.ret ?_
  exact Ret.i ⟨oa, oc⟩ [_] ⟨rfl, trivial⟩ rfl trivial (ent_take 0 rfl (ent_take 0 rfl (ent_take 0 rfl (ent_nil _))))
end Go.Proofs.YtdfmfhcjnjfjbaaGreat.Al
namespace Go.Proofs.YtdfmfhcjnjfjbaaGreat
open Go Go.QM
theorem nodup_two {S : List Sn} {a c : Sn} (h : [a, c].Sublist S) (t : Int) (ha : a.to = t) (hc : c.to = t) : [a.o, c.o].Sublist (rowF S t) := by
 have h1 := (h.filter fun u : Sn => decide (u.to = t)).map (·.o)
 rw [List.filter_cons_of_pos (by simpa using ha), List.filter_cons_of_pos (by simpa using hc)] at h1
 exact h1
theorem MR.frs {s : MS} {r : Rf} (hW : WM s) (h : MR s r) : (r.S.map fun u => u.o.fr).Nodup := by
 rw [List.nodup_iff_pairwise_ne, List.pairwise_map, List.pairwise_iff_forall_sublist]
 intro a c hac e
 have ha : a ∈ r.S := hac.subset (by simp)
 have hc : c ∈ r.S := hac.subset (by simp)
 have h1 := rowF_mem ha
 have h2 := rowF_mem hc
 rw [h.row _ (h.to a ha)] at h1
 rw [h.row _ (h.to c hc)] at h2
 have k1 := hW.row _ (h.to a ha) _ h1
 have k2 := hW.row _ (h.to c hc) _ h2
 have e : a.o.fr = c.o.fr := e
 rw [e] at k1
 have e2 : c.to = a.to := k2.2.2.2.symm.trans k1.2.2.2
 have h3 := nodup_two hac a.to rfl e2
 rw [h.row _ (h.to a ha)] at h3
 have h4 := (hW.nr _ (h.to a ha)).sublist (h3.map (·.fr))
 simp [e] at h4
theorem MR.lenS {s : MS} {r : Rf} (hW : WM s) (h : MR s r) : r.S.length ≤ s.ids.length := by
 have := nodup_sub_len (h.frs hW) (m := s.ids) fun x hx => by
  obtain ⟨u, hu, rfl⟩ := List.mem_map.1 hx
  have h1 := rowF_mem hu
  rw [h.row _ (h.to u hu)] at h1
  exact (hW.row _ (h.to u hu) _ h1).1
 simpa using this
theorem FSpec.lift {P : Program} {f : FuncId} {args : List Value} {rd : HP → Prop} {Z Y : Type} {p : Z → Prop} {pre rest : Z → List HP} {res : Y → Value} {φ : Y → Prop} {post : Z → Y → List HP} {PRE : List HP} {POST : Y → List HP} (he : enterT P f = true) (hpre : ent (sepL PRE) (EX fun z => pure' (p z) (sepL (pre z ++ rest z)))) (hrd : ∀ A F, rd F → rd (sep A F)) (h : ∀ z, p z → FSpec P f args rd (pre z) res φ (post z)) (hpost : ∀ z, p z → ∀ y, φ y → ent (sepL (post z y ++ rest z)) (sepL (POST y))) : FSpec P f args rd PRE res φ POST :=
 ⟨he, fun F hF w hs => by
  obtain ⟨hh, hx, p', q', dd, rfl, ⟨z, hz, hB⟩, hq⟩ := hs.weak (sep_mono hpre (ent.refl F))
  have h2 : sat w (sep (sepL (pre z)) (sep (sepL (rest z)) F)) := sat.weak ⟨_, hx, p', q', dd, rfl, hB, hq⟩ ((sep_mono (sepL_append' _ _) (ent.refl F)).trans sep_assoc)
  exact ((h z hz).2 _ (hrd _ F hF) w h2).mono fun e w' ⟨y, h1, h2, h3, h4⟩ => ⟨y, h1, h2, h3, h4.weak (sep_assoc'.trans (sep_mono ((sepL_append _ _).trans (hpost z hz y h2)) (ent.refl F)))⟩⟩
theorem FSpec.liftR {P : Program} {f : FuncId} {args : List Value} {Z Y : Type} {p : Z → Prop} {A : Z → HP} {W : HP} {res : Y → Value} {φ : Y → Prop} {post : Y → List HP} (he : enterT P f = true) (hA : ent W (EX fun z => pure' (p z) (A z))) (h : ∀ z, p z → FSpec P f args (fun F => ent F (A z)) [] res φ post) : FSpec P f args (fun F => ent F W) [] res φ post :=
 ⟨he, fun F hF w hs => by
  obtain ⟨hh, hx, hF1⟩ := hs.weak sep_right
  obtain ⟨h1, s1, z, hz, hB⟩ := (hF.trans hA) hh hF1
  have h2 : sat w (sep (sepL []) (restr F (A z))) := sat.weak ⟨hh, hx, (⟨hF1, h1, s1, hB⟩ : restr F (A z) hh)⟩ (sep_emp.trans sep_comm)
  exact ((h z hz).2 _ (restr_in F (A z)) w h2).mono fun e w' ⟨y, h1, h2, h3, h4⟩ => ⟨y, h1, h2, h3, h4.weak (sep_mono (ent.refl _) (restr_ent F (A z)))⟩⟩
theorem ex_left {α : Type} {p : α → Prop} {A : α → HP} {l : α → List HP} : ent (EX fun y => pure' (p y) (sepL (A y :: l y))) (EX fun y => pure' (p y) (A y)) :=
 fun h ⟨y, hp, hB⟩ => let ⟨h', s, c⟩ := sep_left h hB; ⟨h', s, y, hp, c⟩
theorem rdTriv (A F : HP) (_ : noRd F) : noRd (sep A F) := trivial
theorem rdRow {ad : Option Addr} {cs : List Value} (A F : HP) (h : ∃ E, RdS F E ad cs) : ∃ E, RdS (sep A F) E ad cs := let ⟨E, h⟩ := h; ⟨E, RdS_ent sep_right h⟩
theorem ent_openE {α : Type} {p : α → Prop} {B C : α → List HP} (h : ∀ y, p y → ent (sepL (B y)) (sepL (C y))) : ent (sepL [EX fun y => pure' (p y) (sepL (B y))]) (EX fun y => pure' (p y) (sepL (C y))) :=
 sep_left.trans fun hh ⟨y, hp, hB⟩ => let ⟨h', s, c⟩ := h y hp hh hB; ⟨h', s, y, hp, c⟩
theorem ent_openC {α : Type} {p : α → Prop} {B : α → List HP} {rs : List HP} {G : HP} (h : ∀ x, p x → ent (sepL (B x ++ rs)) G) : ent (sepL ((EX fun x => pure' (p x) (sepL (B x))) :: rs)) G := by
 rintro hh ⟨a, c, d, rfl, ⟨x, hp, hB⟩, hc⟩
 obtain ⟨h1, s1, k1⟩ := sepL_append (B x) rs _ ⟨a, c, d, rfl, hB, hc⟩
 obtain ⟨h2, s2, k2⟩ := h x hp h1 k1
 exact ⟨h2, fun i o hi => s1 i o (s2 i o hi), k2⟩
def tcR (T : TS) (x : Int) : List Value := [.int .i64 x, .int .i64 (T.pr x), .int .i64 (T.sl x), .bool (T.on x)]
theorem tcR_sz (T : TS) (x : Int) : (tcR T x).length = 4 := rfl
def tcsR (D : List Int) (T : TS) : List Value := D.flatMap (tcR T)
theorem tcsR_length (D : List Int) (T : TS) : (tcsR D T).length = D.length * 4 := flat_length (tcR_sz T) D
theorem tcR_one (T : TS) (x : Int) : (tcR T x).all Value.oneCell' = true := rfl
structure RY where
 l : Option Addr × Nat
 q : Option Addr × Nat
 a : Option Addr × Nat
 e : Option Addr × Nat
 p : Option Addr × Nat
 s : Option Addr × Nat
 t : Option Addr × Nat
 r : Rf
def cR (b : Nat) (D : List Int) (T : TS) (y : RY) : LC := ⟨b, .slice y.l.1 D.length y.l.2, .slice y.q.1 T.S.length y.q.2, .int .i64 T.now, .slice y.a.1 T.A.length y.a.2, .slice y.e.1 T.A.length y.e.2, .slice y.p.1 y.r.D.length y.p.2, .slice y.s.1 y.r.S.length y.s.2, .slice y.t.1 T.told.length y.t.2⟩
def XP (b : Nat) (D : List Int) (T : TS) (y : RY) : List HP := [pts b 60 [.slice y.l.1 D.length y.l.2, .slice y.q.1 T.S.length y.q.2, .int .i64 T.now, .slice y.a.1 T.A.length y.a.2, .slice y.e.1 T.A.length y.e.2, .slice y.p.1 y.r.D.length y.p.2, .slice y.s.1 y.r.S.length y.s.2, .slice y.t.1 T.told.length y.t.2], slc 66 4 y.l.1 D.length y.l.2 (tcsR D T), slc 111 4 y.q.1 T.S.length y.q.2 (Rd.rthsC T.S), slc 3 1 y.a.1 T.A.length y.a.2 (ints (Al.ids T.A)), slc 3 1 y.e.1 T.A.length y.e.2 (ints (Al.lf T.now T.A)), slc 115 3 y.p.1 y.r.D.length y.p.2 (thsC y.r), slc 117 4 y.s.1 y.r.S.length y.s.2 (snsC y.r.S), slc 74 2 y.t.1 T.told.length y.t.2 (tgsC T.told)]
def RX (b : Nat) (D : List Int) (T : TS) : HP := EX fun y : RY => pure' (MR T.m y.r) (sepL (XP b D T y))
theorem TC.RXc {r : Option Nat} {P : Program} {N : Nat} {c : Code} {Q : Post} {ρ : Env} {ds : List Deferred} {b : Nat} {D : List Int} {T : TS} (y : RY) (hm : MR T.m y.r) {hs rest : List HP} (h : Picked hs (pts b 60 [.slice y.l.1 D.length y.l.2, .slice y.q.1 T.S.length y.q.2, .int .i64 T.now, .slice y.a.1 T.A.length y.a.2, .slice y.e.1 T.A.length y.e.2, .slice y.p.1 y.r.D.length y.p.2, .slice y.s.1 y.r.S.length y.s.2, .slice y.t.1 T.told.length y.t.2] :: slc 66 4 y.l.1 D.length y.l.2 (tcsR D T) :: slc 111 4 y.q.1 T.S.length y.q.2 (Rd.rthsC T.S) :: slc 3 1 y.a.1 T.A.length y.a.2 (ints (Al.ids T.A)) :: slc 3 1 y.e.1 T.A.length y.e.2 (ints (Al.lf T.now T.A)) :: slc 115 3 y.p.1 y.r.D.length y.p.2 (thsC y.r) :: slc 117 4 y.s.1 y.r.S.length y.s.2 (snsC y.r.S) :: slc 74 2 y.t.1 T.told.length y.t.2 (tgsC T.told) :: []) rest) (k : TC r P N c Q ρ ds (sepL (RX b D T :: rest))) : TC r P N c Q ρ ds (sepL hs) :=
 TC.weak (h.trans (sep_mono (ent_of_imp fun _ a => ⟨y, hm, a⟩) (ent.refl _))) k
theorem RXrd {b : Nat} {D : List Int} {T : TS} (y : RY) (hm : MR T.m y.r) {hs : List HP} (h : ent (sepL hs) (sepL (XP b D T y))) : ent (sepL hs) (RX b D T) := h.trans (ent_of_imp fun _ a => ⟨y, hm, a⟩)
theorem RXcl {b : Nat} {D : List Int} {T : TS} (y : RY) (hm : MR T.m y.r) {hs gs : List HP} (h : ent (sepL hs) (sepL (pts b 60 [.slice y.l.1 D.length y.l.2, .slice y.q.1 T.S.length y.q.2, .int .i64 T.now, .slice y.a.1 T.A.length y.a.2, .slice y.e.1 T.A.length y.e.2, .slice y.p.1 y.r.D.length y.p.2, .slice y.s.1 y.r.S.length y.s.2, .slice y.t.1 T.told.length y.t.2] :: slc 66 4 y.l.1 D.length y.l.2 (tcsR D T) :: slc 111 4 y.q.1 T.S.length y.q.2 (Rd.rthsC T.S) :: slc 3 1 y.a.1 T.A.length y.a.2 (ints (Al.ids T.A)) :: slc 3 1 y.e.1 T.A.length y.e.2 (ints (Al.lf T.now T.A)) :: slc 115 3 y.p.1 y.r.D.length y.p.2 (thsC y.r) :: slc 117 4 y.s.1 y.r.S.length y.s.2 (snsC y.r.S) :: slc 74 2 y.t.1 T.told.length y.t.2 (tgsC T.told) :: gs))) : ent (sepL hs) (sepL (RX b D T :: gs)) := ent_close y hm h
def rcQ (D : List Int) (T : TS) (y : RY) : List HP := [slc 66 4 y.l.1 D.length y.l.2 (tcsR D T), slc 3 1 y.a.1 T.A.length y.a.2 (ints (Al.ids T.A)), slc 3 1 y.e.1 T.A.length y.e.2 (ints (Al.lf T.now T.A)), slc 115 3 y.p.1 y.r.D.length y.p.2 (thsC y.r), slc 117 4 y.s.1 y.r.S.length y.s.2 (snsC y.r.S), slc 74 2 y.t.1 T.told.length y.t.2 (tgsC T.told)]
def rcA (D : List Int) (T : TS) (y : RY) : List HP := [slc 66 4 y.l.1 D.length y.l.2 (tcsR D T), slc 111 4 y.q.1 T.S.length y.q.2 (Rd.rthsC T.S), slc 115 3 y.p.1 y.r.D.length y.p.2 (thsC y.r), slc 117 4 y.s.1 y.r.S.length y.s.2 (snsC y.r.S), slc 74 2 y.t.1 T.told.length y.t.2 (tgsC T.told)]
def rcP (D : List Int) (T : TS) (y : RY) : List HP := [slc 66 4 y.l.1 D.length y.l.2 (tcsR D T), slc 111 4 y.q.1 T.S.length y.q.2 (Rd.rthsC T.S), slc 3 1 y.a.1 T.A.length y.a.2 (ints (Al.ids T.A)), slc 3 1 y.e.1 T.A.length y.e.2 (ints (Al.lf T.now T.A)), slc 74 2 y.t.1 T.told.length y.t.2 (tgsC T.told)]
theorem RXq (b : Nat) (D : List Int) (T : TS) : ent (sepL [RX b D T]) (EX fun y : RY => pure' (MR T.m y.r) (sepL ([Rd.isRq (cR b D T y) T.S] ++ rcQ D T y))) :=
 ent_openE fun y _ => ent_close (B := fun z : Option Addr × Nat => _) y.q trivial (ent_take 0 rfl (ent_take 1 rfl (ent_take 0 rfl (ent_take 0 rfl (ent_take 0 rfl (ent_take 0 rfl (ent_take 0 rfl (ent_take 0 rfl (ent_nil _)))))))))
theorem RXqr (b : Nat) (D : List Int) (T : TS) : ent (RX b D T) (EX fun y : RY => pure' (MR T.m y.r) (Rd.isRq (cR b D T y) T.S)) := (sep_emp.trans (RXq b D T)).trans ex_left
theorem RXqc {b : Nat} {D : List Int} {T : TS} {y : RY} (h : MR T.m y.r) (S : List Rd.Th) : ent (sepL (Rd.isRq (cR b D T y) S :: rcQ D T y)) (sepL [RX b D { T with S := S }]) :=
 ent_openC fun z _ => ent_close (α := RY) { y with q := z } h (ent_take 0 rfl (ent_take 1 rfl (ent_take 0 rfl (ent_take 0 rfl (ent_take 0 rfl (ent_take 0 rfl (ent_take 0 rfl (ent_take 0 rfl (ent_nil _)))))))))
theorem RXa (b : Nat) (D : List Int) (T : TS) : ent (sepL [RX b D T]) (EX fun y : RY => pure' (MR T.m y.r) (sepL ([Al.isRf (cR b D T y) T.now T.A] ++ rcA D T y))) :=
 ent_openE fun y _ => ent_close (B := fun z : (Option Addr × Nat) × (Option Addr × Nat) => _) (y.a, y.e) trivial (ent_take 0 rfl (ent_take 2 rfl (ent_take 2 rfl (ent_take 0 rfl (ent_take 0 rfl (ent_take 0 rfl (ent_take 0 rfl (ent_take 0 rfl (ent_nil _)))))))))
theorem RXar (b : Nat) (D : List Int) (T : TS) : ent (RX b D T) (EX fun y : RY => pure' (MR T.m y.r) (Al.isRf (cR b D T y) T.now T.A)) := (sep_emp.trans (RXa b D T)).trans ex_left
theorem RXac {b : Nat} {D : List Int} {T : TS} {y : RY} (h : MR T.m y.r) (now tn : Int) (A : List Al.En) : ent (sepL (Al.isRf (cR b D T y) now A :: rcA D T y)) (sepL [RX b D { T with now := now, tn := tn, A := A }]) :=
 ent_openC fun z _ => ent_close (α := RY) { y with a := z.1, e := z.2 } h (ent_take 0 rfl (ent_take 2 rfl (ent_take 2 rfl (ent_take 0 rfl (ent_take 0 rfl (ent_take 0 rfl (ent_take 0 rfl (ent_take 0 rfl (ent_nil _)))))))))
theorem RXp (b : Nat) (D : List Int) (T : TS) : ent (sepL [RX b D T]) (EX fun y : RY => pure' (MR T.m y.r) (sepL ([isRm (cR b D T y) y.r] ++ rcP D T y))) :=
 ent_openE fun y _ => ent_close (B := fun z : (Option Addr × Nat) × (Option Addr × Nat) => _) (y.p, y.s) trivial (ent_take 0 rfl (ent_take 4 rfl (ent_take 4 rfl (ent_take 0 rfl (ent_take 0 rfl (ent_take 0 rfl (ent_take 0 rfl (ent_take 0 rfl (ent_nil _)))))))))
theorem RXpr (b : Nat) (D : List Int) (T : TS) : ent (RX b D T) (EX fun y : RY => pure' (MR T.m y.r) (isRm (cR b D T y) y.r)) := (sep_emp.trans (RXp b D T)).trans ex_left
theorem RXpc {b : Nat} {D : List Int} {T : TS} {y : RY} {m : MS} {r : Rf} (h : MR m r) : ent (sepL (isRm (cR b D T y) r :: rcP D T y)) (sepL [RX b D (mS T m)]) :=
 ent_openC fun z _ => ent_close (α := RY) { y with p := z.1, s := z.2, r := r } h (ent_take 0 rfl (ent_take 2 rfl (ent_take 2 rfl (ent_take 2 rfl (ent_take 2 rfl (ent_take 0 rfl (ent_take 0 rfl (ent_take 0 rfl (ent_nil _)))))))))
theorem MR.bd {s : MS} {r : Rf} (hW : WM s) (hi : s.ids.length ≤ 1000) (h : MR s r) : r.D.length ≤ 1000 ∧ r.S.length ≤ 100000 ∧ ∀ x ∈ r.D, (rowF r.S x).length ≤ 1000 :=
 ⟨by rw [h.len]; exact hi, Nat.le_trans (h.lenS hW) (Nat.le_trans hi (by decide)), fun x _ => Nat.le_trans (rowF_len _ _) (Nat.le_trans (h.lenS hW) hi)⟩
theorem MR.rowA {s : MS} {r : Rf} (h : MR s r) (id : Int) : rowR s id = rowF r.S id := by
 by_cases hi : id ∈ s.ids
 ·exact h.rowE hi
 ·rw [rowR, if_neg hi, rowF, List.filter_eq_nil_iff.2, List.map_nil]
  intro u hu
  simp only [decide_eq_true_eq]
  exact fun e => hi (e ▸ h.to u hu)
theorem xqadd (b : Nat) (D : List Int) (T : TS) (hS : T.S.length ≤ 1000000) (id pr sl : Int) : FSpec Tryz.prog 110 [.pointer (some ⟨b, 1, none⟩), .int .i64 id, .int .i64 pr, .int .i64 sl] noRd [RX b D T] (fun _ : Unit => .int .i64 (Rd.addS T.S id pr sl).2) (fun _ => True) (fun _ : Unit => [RX b D { T with S := (Rd.addS T.S id pr sl).1 }]) :=
 FSpec.lift (post := fun z (_ : Unit) => [Rd.isRq (cR b D T z) (Rd.addS T.S id pr sl).1]) (by kernel_rfl) (RXq b D T) rdTriv (fun z h => Rd.radd_ok (cR b D T z) T.S hS id pr sl) (fun z h _ _ => RXqc h _)
theorem xqdrop (b : Nat) (D : List Int) (T : TS) (hS : T.S.length ≤ 1000000) (a2 : Option Addr) (c2 : Nat) (xs : List Int) (hx : xs.length ≤ 1000000) (hn : Rd.NdS T.S) : FSpec Tryz.prog 136 [.pointer (some ⟨b, 1, none⟩), .slice a2 xs.length c2] (fun F => ∃ E, RdS F E a2 (ints xs)) [RX b D T] (fun _ : Unit => .int .i64 ((T.S.length : Int) - (Rd.dropS T.S xs).length)) (fun _ => True) (fun _ : Unit => [RX b D { T with S := Rd.dropS T.S xs }]) :=
 FSpec.lift (post := fun z (_ : Unit) => [Rd.isRq (cR b D T z) (Rd.dropS T.S xs)]) (by kernel_rfl) (RXq b D T) rdRow (fun z h => Rd.rdrop_ok (cR b D T z) T.S hS a2 c2 xs hx hn) (fun z h _ _ => RXqc h _)
theorem xqrun (b : Nat) (D : List Int) (T : TS) (hS : T.S.length ≤ 1000000) : FSpec Tryz.prog 28 [.pointer (some ⟨b, 1, none⟩)] (fun F => ent F (RX b D T)) [] (fun _ : Unit => .int .i64 (Rd.runS T.S)) (fun _ => True) (fun _ : Unit => []) :=
 FSpec.liftR (by kernel_rfl) (RXqr b D T) (fun z h => Rd.rrun_ok (cR b D T z) T.S hS)
theorem xqtick (b : Nat) (D : List Int) (T : TS) (hS : T.S.length ≤ 1000000) (hR : Rd.RInv T.S) : FSpec Tryz.prog 122 [.pointer (some ⟨b, 1, none⟩)] noRd [RX b D T] (fun _ : Unit => .int .i64 (Rd.runS (Rd.tickS T.S))) (fun _ => True) (fun _ : Unit => [RX b D { T with S := Rd.tickS T.S }]) :=
 FSpec.lift (post := fun z (_ : Unit) => [Rd.isRq (cR b D T z) (Rd.tickS T.S)]) (by kernel_rfl) (RXq b D T) rdTriv (fun z h => Rd.rtick_ok (cR b D T z) T.S hS hR) (fun z h _ _ => RXqc h _)
theorem xqyield (b : Nat) (D : List Int) (T : TS) (hS : T.S.length ≤ 1000000) (hn : Rd.NdS T.S) : FSpec Tryz.prog 82 [.pointer (some ⟨b, 1, none⟩)] noRd [RX b D T] (fun _ : Unit => .int .i64 (Rd.runS (Rd.yieldS T.S))) (fun _ => True) (fun _ : Unit => [RX b D { T with S := Rd.yieldS T.S }]) :=
 FSpec.lift (post := fun z (_ : Unit) => [Rd.isRq (cR b D T z) (Rd.yieldS T.S)]) (by kernel_rfl) (RXq b D T) rdTriv (fun z h => Rd.ryield_ok (cR b D T z) T.S hS hn) (fun z h _ _ => RXqc h _)
theorem xqrow (b : Nat) (D : List Int) (T : TS) (hS : T.S.length ≤ 1000000) (pr : Int) : FSpec Tryz.prog 38 [.pointer (some ⟨b, 1, none⟩), .int .i64 pr] (fun F => ent F (RX b D T)) [] (fun y : Option Addr × Nat => .slice y.1 (Rd.rowI T.S pr).length y.2) (fun _ => True) (fun y : Option Addr × Nat => [slc 3 1 y.1 (Rd.rowI T.S pr).length y.2 (ints (Rd.rowI T.S pr))]) :=
 FSpec.liftR (by kernel_rfl) (RXqr b D T) (fun z h => Rd.rrow_ok (cR b D T z) T.S hS pr)
theorem xaset (b : Nat) (D : List Int) (T : TS) (hA : T.A.length ≤ 1000000) (id ticks : Int) : FSpec Tryz.prog 137 [.pointer (some ⟨b, 2, none⟩), .int .i64 id, .int .i64 ticks] noRd [RX b D T] (fun _ : Unit => .int .i64 (Al.setA T.A T.now T.tn id ticks).2.2) (fun _ => True) (fun _ : Unit => [RX b D { T with tn := (Al.setA T.A T.now T.tn id ticks).2.1, A := (Al.setA T.A T.now T.tn id ticks).1 }]) :=
 FSpec.lift (post := fun z (_ : Unit) => [Al.isRf (cR b D T z) T.now (Al.setA T.A T.now T.tn id ticks).1]) (by kernel_rfl) (RXa b D T) rdTriv (fun z h => Al.rset_ok (cR b D T z) T.now T.tn T.A id ticks hA) (fun z h _ _ => RXac h _ _ _)
theorem xaclear (b : Nat) (D : List Int) (T : TS) (hA : T.A.length ≤ 1000000) (a2 : Option Addr) (c2 : Nat) (xs : List Int) (hx : xs.length ≤ 1000000) (hn : Al.Nd T.A) : FSpec Tryz.prog 112 [.pointer (some ⟨b, 2, none⟩), .slice a2 xs.length c2] (fun F => ∃ E, RdS F E a2 (ints xs)) [RX b D T] (fun _ : Unit => .int .i64 ((T.A.length : Int) - (Al.clrA T.A xs).length)) (fun _ => True) (fun _ : Unit => [RX b D { T with A := Al.clrA T.A xs }]) :=
 FSpec.lift (post := fun z (_ : Unit) => [Al.isRf (cR b D T z) T.now (Al.clrA T.A xs)]) (by kernel_rfl) (RXa b D T) rdRow (fun z h => Al.rclear_ok (cR b D T z) T.now T.A a2 c2 xs hA hx hn) (fun z h _ _ => RXac h _ T.tn _)
theorem xatick (b : Nat) (D : List Int) (T : TS) (hA : T.A.length ≤ 1000000) (hb : 0 ≤ T.now ∧ T.now ≤ 1000000000000) (ht : ∀ x ∈ T.A, T.now < x.at_ ∧ x.at_ ≤ 2000000000000) (hn : Al.Nd T.A) : FSpec Tryz.prog 123 [.pointer (some ⟨b, 2, none⟩)] noRd [RX b D T] (fun y : Option Addr × Nat => .slice y.1 (Al.ids (Al.dueA (T.now + 1) T.A)).length y.2) (fun _ => True) (fun y : Option Addr × Nat => [slc 3 1 y.1 (Al.ids (Al.dueA (T.now + 1) T.A)).length y.2 (ints (Al.ids (Al.dueA (T.now + 1) T.A))), RX b D { T with now := T.now + 1, A := Al.restA (T.now + 1) T.A }]) :=
 FSpec.lift (post := fun z (y : Option Addr × Nat) => [Al.isRf (cR b D T z) (T.now + 1) (Al.restA (T.now + 1) T.A), slc 3 1 y.1 (Al.ids (Al.dueA (T.now + 1) T.A)).length y.2 (ints (Al.ids (Al.dueA (T.now + 1) T.A)))]) (by kernel_rfl) (RXa b D T) rdTriv (fun z h => Al.rtick_ok (cR b D T z) T.now T.A hA hb ht hn) (fun z h y _ => ent_take 1 rfl (RXac h _ T.tn _))
theorem xaof (b : Nat) (D : List Int) (T : TS) (hA : T.A.length ≤ 1000000) (hn : Al.Nd T.A) (id : Int) : FSpec Tryz.prog 32 [.pointer (some ⟨b, 2, none⟩), .int .i64 id] (fun F => ent F (RX b D T)) [] (fun _ : Unit => .int .i64 (Al.leftA T.A T.now id)) (fun _ => True) (fun _ : Unit => []) :=
 FSpec.liftR (by kernel_rfl) (RXar b D T) (fun z h => Al.rof_ok (cR b D T z) T.now T.A id hA hn)
theorem xpstate (b : Nat) (D : List Int) (T : TS) (hW : WM T.m) (hi : T.m.ids.length ≤ 1000) (id : Int) : FSpec Tryz.prog 84 [.pointer (some ⟨b, 5, none⟩), .int .i64 id] (fun F => ent F (RX b D T)) [] (fun _ : Unit => .int .i64 (stR T.m id)) (fun _ => True) (fun _ : Unit => []) :=
 FSpec.liftR (by kernel_rfl) (RXpr b D T) (fun z h => (h.stE id).symm ▸ rstate_ok (cR b D T z) z.r (h.bd hW hi).1 (h.bd hW hi).2.1 id)
theorem xpcaller (b : Nat) (D : List Int) (T : TS) (hW : WM T.m) (hi : T.m.ids.length ≤ 1000) (id : Int) : FSpec Tryz.prog 33 [.pointer (some ⟨b, 5, none⟩), .int .i64 id] (fun F => ent F (RX b D T)) [] (fun _ : Unit => .int .i64 (clR T.m id)) (fun _ => True) (fun _ : Unit => []) :=
 FSpec.liftR (by kernel_rfl) (RXpr b D T) (fun z h => (h.clE id).symm ▸ rcaller_ok (cR b D T z) z.r (h.bd hW hi).1 (h.bd hW hi).2.1 id)
theorem xprow (b : Nat) (D : List Int) (T : TS) (hW : WM T.m) (hi : T.m.ids.length ≤ 1000) (id : Int) : FSpec Tryz.prog 35 [.pointer (some ⟨b, 5, none⟩), .int .i64 id] (fun F => ent F (RX b D T)) [] (fun y : Option Addr × Nat => .slice y.1 (rowR T.m id).length y.2) (fun _ => True) (fun y : Option Addr × Nat => [slc 26 3 y.1 (rowR T.m id).length y.2 (ofsC (rowR T.m id))]) :=
 FSpec.liftR (by kernel_rfl) (RXpr b D T) (fun z h => (h.rowA id).symm ▸ rrow_ok (cR b D T z) z.r (h.bd hW hi).1 (h.bd hW hi).2.1 id)
theorem xpcall (b : Nat) (D : List Int) (T : TS) (hW : WM T.m) (hi : T.m.ids.length ≤ 1000) (id : Int) : FSpec Tryz.prog 111 [.pointer (some ⟨b, 5, none⟩), .int .i64 id] noRd [RX b D T] (fun _ : Unit => .int .i64 (callS T.m id).2) (fun _ => True) (fun _ : Unit => [RX b D (mS T (callS T.m id).1)]) :=
 FSpec.lift (post := fun z (_ : Unit) => [isRm (cR b D T z) (callF z.r id).1]) (by kernel_rfl) (RXp b D T) rdTriv (fun z h => (h.call hW id).1.symm ▸ rcall_ok (cR b D T z) z.r (h.bd hW hi).1 (h.bd hW hi).2.1 (h.nd hW) id) (fun z h _ _ => RXpc (h.call hW id).2)
theorem xpopen (b : Nat) (D : List Int) (T : TS) (hW : WM T.m) (hi : T.m.ids.length ≤ 1000) (id : Int) : FSpec Tryz.prog 118 [.pointer (some ⟨b, 5, none⟩), .int .i64 id] noRd [RX b D T] (fun _ : Unit => .int .i64 (openS T.m id).2) (fun _ => True) (fun _ : Unit => [RX b D (mS T (openS T.m id).1)]) :=
 FSpec.lift (post := fun z (_ : Unit) => [isRm (cR b D T z) (openF z.r id).1]) (by kernel_rfl) (RXp b D T) rdTriv (fun z h => (h.opens id).1.symm ▸ ropen_ok (cR b D T z) z.r (h.bd hW hi).1 (h.bd hW hi).2.1 (h.nd hW) id) (fun z h _ _ => RXpc (h.opens id).2)
theorem xpoffer (b : Nat) (D : List Int) (T : TS) (hW : WM T.m) (hi : T.m.ids.length ≤ 1000) (to : Int) (o : Off) : FSpec Tryz.prog 117 [.pointer (some ⟨b, 5, none⟩), .int .i64 to, .agg (ofC o).toArray] noRd [RX b D T] (fun _ : Unit => .int .i64 (offS T.m to o).2) (fun _ => True) (fun _ : Unit => [RX b D (mS T (offS T.m to o).1)]) :=
 FSpec.lift (post := fun z (_ : Unit) => [isRm (cR b D T z) (offerF z.r to o).1]) (by kernel_rfl) (RXp b D T) rdTriv (fun z h => (h.offer to o).1.symm ▸ roffer_ok (cR b D T z) z.r (h.bd hW hi).1 (h.bd hW hi).2.1 (h.nd hW) to o) (fun z h _ _ => RXpc (h.offer to o).2)
theorem xptake (b : Nat) (D : List Int) (T : TS) (hW : WM T.m) (hi : T.m.ids.length ≤ 1000) (id : Int) : FSpec Tryz.prog 119 [.pointer (some ⟨b, 5, none⟩), .int .i64 id] noRd [RX b D T] (fun _ : Unit => .tuple #[.agg (ofC (takeS T.m id).2.1).toArray, .int .i64 (takeS T.m id).2.2.1, .int .i64 (takeS T.m id).2.2.2]) (fun _ => True) (fun _ : Unit => [RX b D (mS T (takeS T.m id).1)]) :=
 FSpec.lift (post := fun z (_ : Unit) => [isRm (cR b D T z) (takeF z.r id).1]) (by kernel_rfl) (RXp b D T) rdTriv (fun z h => (h.take hW id).1.symm ▸ rtake_ok (cR b D T z) z.r (h.bd hW hi).1 (h.bd hW hi).2.1 (h.nd hW) id) (fun z h _ _ => RXpc (h.take hW id).2)
theorem xpanswer (b : Nat) (D : List Int) (T : TS) (hW : WM T.m) (hi : T.m.ids.length ≤ 1000) (id : Int) : FSpec Tryz.prog 120 [.pointer (some ⟨b, 5, none⟩), .int .i64 id] noRd [RX b D T] (fun _ : Unit => .tuple #[.int .i64 (ansS T.m id).2.1, .int .i64 (ansS T.m id).2.2]) (fun _ => True) (fun _ : Unit => [RX b D (mS T (ansS T.m id).1)]) :=
 FSpec.lift (post := fun z (_ : Unit) => [isRm (cR b D T z) (answerF z.r id).1]) (by kernel_rfl) (RXp b D T) rdTriv (fun z h => (h.answer hW id).1.symm ▸ ranswer_ok (cR b D T z) z.r (h.bd hW hi).1 (h.bd hW hi).2.1 (h.nd hW) id) (fun z h _ _ => RXpc (h.answer hW id).2)
theorem xpclose (b : Nat) (D : List Int) (T : TS) (hW : WM T.m) (hi : T.m.ids.length ≤ 1000) (id : Int) : FSpec Tryz.prog 121 [.pointer (some ⟨b, 5, none⟩), .int .i64 id] noRd [RX b D T] (fun y : Option Addr × Nat => .slice y.1 (closeS T.m id).2.length y.2) (fun _ => True) (fun y : Option Addr × Nat => [slc 3 1 y.1 (closeS T.m id).2.length y.2 (ints (closeS T.m id).2), RX b D (mS T (closeS T.m id).1)]) :=
 FSpec.lift (post := fun z (y : Option Addr × Nat) => [slc 3 1 y.1 (closeS T.m id).2.length y.2 (ints (closeS T.m id).2), isRm (cR b D T z) (closeF z.r id).1]) (by kernel_rfl) (RXp b D T) rdTriv (fun z h => (h.close hW id).1.symm ▸ rclose_ok (cR b D T z) z.r (h.bd hW hi).1 (h.bd hW hi).2.1 (h.nd hW) id (h.bd hW hi).2.2) (fun z h y _ => sep_mono (ent.refl _) (RXpc (h.close hW id).2))
theorem xpleave (b : Nat) (D : List Int) (T : TS) (hW : WM T.m) (hi : T.m.ids.length ≤ 1000) (id : Int) : FSpec Tryz.prog 114 [.pointer (some ⟨b, 5, none⟩), .int .i64 id] noRd [RX b D T] (fun y : Option Addr × Nat => .tuple #[.slice y.1 (leaveS T.m id).2.1.length y.2, .int .i64 (leaveS T.m id).2.2]) (fun _ => True) (fun y : Option Addr × Nat => [slc 3 1 y.1 (leaveS T.m id).2.1.length y.2 (ints (leaveS T.m id).2.1), RX b D (mS T (leaveS T.m id).1)]) :=
 FSpec.lift (post := fun z (y : Option Addr × Nat) => [slc 3 1 y.1 (leaveS T.m id).2.1.length y.2 (ints (leaveS T.m id).2.1), isRm (cR b D T z) (leaveF z.r id).1]) (by kernel_rfl) (RXp b D T) rdTriv (fun z h => (h.leave hW id).1.symm ▸ rleave_ok (cR b D T z) z.r (h.bd hW hi).1 (h.bd hW hi).2.1 (h.nd hW) id) (fun z h y _ => sep_mono (ent.refl _) (RXpc (h.leave hW id).2))
theorem xpjoin (b : Nat) (D : List Int) (T : TS) (hW : WM T.m) (hi : T.m.ids.length ≤ 1000) (id : Int) (ax : Option Addr) (cx : Nat) : FSpec Tryz.prog 108 [.pointer (some ⟨b, 5, none⟩), .slice ax 1 cx] (fun F => ∃ E, RdS F E ax (ints [id])) [RX b D T] (fun _ : Unit => .int .i64 ((joinL T.m [id]).ids.length - T.m.ids.length : Int)) (fun _ => True) (fun _ : Unit => [RX b D (mS T (joinL T.m [id]))]) :=
 FSpec.lift (post := fun z (_ : Unit) => [isRm (cR b D T z) (joinF z.r id)]) (by kernel_rfl) (RXp b D T) rdRow (fun z h => (h.join id).1.symm ▸ rjoin_ok (cR b D T z) z.r (h.bd hW hi).1 (h.bd hW hi).2.1 (h.nd hW) h.srt id ax cx) (fun z h _ _ => RXpc (h.join id).2)
end Go.Proofs.YtdfmfhcjnjfjbaaGreat
