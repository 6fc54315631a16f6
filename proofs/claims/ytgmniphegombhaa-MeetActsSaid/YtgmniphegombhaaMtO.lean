/-
  Proved here: what functions of this program compute, each as a contract over symbolic states, under the premises that each theorem names (most lines printed by a program of the prover).
-/
import Derived.Test.YtgmniphegombhaaMtN
namespace Go.Proofs.Ytgmniphegombhaa
open Go Go.QM
structure Sn where
  to : Int
  o : Off
def snC (u : Sn) : List Value := .int .i64 u.to :: ofC u.o
theorem snC_sz (u : Sn) : (snC u).length = 4 := rfl
def snsC (S : List Sn) : List Value := S.flatMap snC
theorem snsC_length (S : List Sn) : (snsC S).length = S.length * 4 := flat_length snC_sz S
theorem sns_app (S T : List Sn) : snsC S ++ snsC T = snsC (S ++ T) := by simp [snsC]
theorem sns_all (S : List Sn) : (snsC S).take (S.length * 4) = snsC S := List.take_of_length_le (by rw [snsC_length]; omega)
theorem sns_one : ∀ (S : List Sn), (snsC S).all Value.oneCell' = true
  | [] => rfl
  | t :: S => by have := sns_one S; rw [snsC] at this ⊢; rw [List.flatMap_cons, List.all_append, this]; rfl
structure Rf where
  D : List Int
  st : Int → Int
  cl : Int → Int
  S : List Sn
def thC (r : Rf) (x : Int) : List Value := ints [x, r.st x, r.cl x]
theorem thC_sz (r : Rf) (x : Int) : (thC r x).length = 3 := rfl
def thsC (r : Rf) : List Value := r.D.flatMap (thC r)
theorem thsC_length (r : Rf) : (thsC r).length = r.D.length * 3 := flat_length (thC_sz r) r.D
theorem flat_one {f : Int → List Value} (h : ∀ x, (f x).all Value.oneCell' = true) : ∀ D : List Int, (D.flatMap f).all Value.oneCell' = true
  | [] => rfl
  | x :: D => by rw [List.flatMap_cons, List.all_append, h x, flat_one h D]; rfl
theorem thC_one (r : Rf) (x : Int) : (thC r x).all Value.oneCell' = true := rfl
theorem flat_congr {f g : Int → List Value} : ∀ {D : List Int}, (∀ x ∈ D, f x = g x) → D.flatMap f = D.flatMap g
  | [], _ => rfl
  | x :: D, h => by rw [List.flatMap_cons, List.flatMap_cons, h x (by simp), flat_congr fun y hy => h y (by simp [hy])]
def isRm (b : Nat) (r : Rf) : HP := EX fun y : (Option Addr × Nat) × (Option Addr × Nat) => pure' True (sepL [pts b 60 [.slice y.1.1 r.D.length y.1.2, .slice y.2.1 r.S.length y.2.2], slc 65 3 y.1.1 r.D.length y.1.2 (thsC r), slc 95 4 y.2.1 r.S.length y.2.2 (snsC r.S)])
def atD (D : List Int) (id : Int) : Int := match D.findIdx? fun x => decide (x = id) with
  | some i => (i : Int)
  | none => -1
theorem atD_no {D : List Int} {id : Int} (h : id ∉ D) : atD D id = -1 := by
  have : D.findIdx? (fun x => decide (x = id)) = none := by
    rw [List.findIdx?_eq_none_iff]; intro x hx; simp only [decide_eq_false_iff_not]; exact fun e2 => h (e2 ▸ hx)
  rw [atD, this]
theorem atD_yes {D : List Int} {id : Int} (h : id ∈ D) : ∃ i : Nat, atD D id = (i : Int) ∧ D[i]? = some id := by
  cases hf : D.findIdx? (fun x => decide (x = id)) with
  | none =>
    rw [List.findIdx?_eq_none_iff] at hf
    have := hf id h; simp at this
  | some i =>
    obtain ⟨x, h1, h2⟩ := find_of_findIdx hf
    have := List.find?_some h2
    exact ⟨i, by rw [atD, hf], by rw [h1, show x = id by simpa using this]⟩
def stF (r : Rf) (id : Int) : Int := if id ∈ r.D then r.st id else -1
def clF (r : Rf) (id : Int) : Int := if id ∈ r.D then r.cl id else -1
def setF (r : Rf) (id v : Int) : Rf := { r with st := updI r.st id v }
def setC (r : Rf) (id v : Int) : Rf := { r with cl := updI r.cl id v }
def offF (r : Rf) (f : Int) : Rf := { r with S := r.S.filter fun u => decide (u.o.fr ≠ f) }
def rowF (S : List Sn) (to : Int) : List Off := (S.filter fun u => decide (u.to = to)).map (·.o)
theorem rowF_snoc {S : List Sn} {k : Nat} {u : Sn} (hu : S[k]? = some u) (to : Int) : rowF (S.take (k + 1)) to = rowF (S.take k) to ++ if u.to = to then [u.o] else [] := by
  rw [List.take_add_one, hu, Option.toList, rowF, List.filter_append, List.map_append]
  split
  · rename_i h; rw [List.filter_cons_of_pos (by simpa using h)]; rfl
  · rename_i h; rw [List.filter_cons_of_neg (by simpa using h)]; rfl
theorem rowF_len (S : List Sn) (to : Int) : (rowF S to).length ≤ S.length := by rw [rowF, List.length_map]; exact List.length_filter_le _ _
theorem off_snoc {S : List Sn} {k : Nat} {u : Sn} (hu : S[k]? = some u) (f : Int) : (S.take (k + 1)).filter (fun v => decide (v.o.fr ≠ f)) = (S.take k).filter (fun v => decide (v.o.fr ≠ f)) ++ if u.o.fr ≠ f then [u] else [] := by
  rw [List.take_add_one, hu, Option.toList, List.filter_append]
  split
  · rename_i h; rw [List.filter_cons_of_pos (by simpa using h)]; rfl
  · rename_i h; rw [List.filter_cons_of_neg (by simpa using h)]; rfl
theorem splice_l {o : Nat} {vs a b : List Value} (h : o + vs.length ≤ a.length) : splice o vs (a ++ b) = splice o vs a ++ b := by
  rw [splice, splice, List.take_append_of_le_length (by omega), List.drop_append_of_le_length h, List.append_assoc, List.append_assoc, List.append_assoc]
theorem splice_r {o : Nat} {vs a b : List Value} : splice (a.length + o) vs (a ++ b) = a ++ splice o vs b := by
  rw [splice, splice, List.take_length_add_append, Nat.add_assoc, List.drop_length_add_append]; simp [List.append_assoc]
/-- One thread's cells turned. -/
theorem ths_set {r r' : Rf} (hn : r.D.Nodup) (hD : r'.D = r.D) {i : Nat} {id : Int} (hi : r.D[i]? = some id) {o j : Nat} {v : Value} (ho : o = i * 3 + j) (hj : splice j [v] (thC r id) = thC r' id) (hlj : j < 3) (h : ∀ x ∈ r.D, x ≠ id → thC r x = thC r' x) : splice o [v] (thsC r) = thsC r' := by
  obtain ⟨h1, h2⟩ := List.getElem?_eq_some_iff.1 hi
  have hQ : r.D = r.D.take i ++ id :: r.D.drop (i + 1) := by rw [← h2, ← List.drop_eq_getElem_cons h1, List.take_append_drop]
  have hp := perm_take hi
  have hne : ∀ x ∈ r.D.take i ++ r.D.drop (i + 1), x ≠ id := fun x hx e => (List.nodup_cons.1 (hp.nodup_iff.1 hn)).1 (e ▸ hx)
  have ht : (r.D.take i).length = i := by rw [List.length_take]; omega
  rw [thsC, thsC, hD, hQ, List.flatMap_append, List.flatMap_cons, List.flatMap_append, List.flatMap_cons]
  have e1 : (r.D.take i).flatMap (thC r) = (r.D.take i).flatMap (thC r') := flat_congr fun x hx => h x (List.mem_of_mem_take hx) (hne x (List.mem_append.2 (.inl hx)))
  have e2 : (r.D.drop (i + 1)).flatMap (thC r) = (r.D.drop (i + 1)).flatMap (thC r') := flat_congr fun x hx => h x (List.mem_of_mem_drop hx) (hne x (List.mem_append.2 (.inr hx)))
  have hl : ((r.D.take i).flatMap (thC r)).length = i * 3 := by rw [flat_length (thC_sz r), ht]
  rw [← e1, ← e2, ← hj, ho, ← hl, splice_r, splice_l (by rw [thC_sz]; show j + 1 ≤ 3; omega)]

set_option maxRecDepth 4000 in
theorem rat_ok (b : Nat) (r : Rf) (hd : r.D.length ≤ 1000) (hs : r.S.length ≤ 100000) (id : Int) : FSpec Try.prog 30 [.pointer (some ⟨b, 0, none⟩), .int .i64 id] (fun F => ent F (isRm b r)) [] (fun _ : Unit => .int .i64 (atD r.D id)) (fun _ => True) (fun _ => []) := by
  refine FSpec.intro (rs := [.tmp 4]) (by kernel_rfl) Try.func30 rfl Try.ntmps30 (by rfl) rfl ?_
  intro F hF
  change TC _ _ _ _ _ _ _ (sepL [_])
  refine TC.openR hF (fun x0 hx0 => ?_)
  obtain ⟨⟨a1, c1⟩, ⟨a2, c2⟩⟩ := x0
  clear hx0
  dsimp only
  have hil := thsC_length r
  have hsl := snsC_length r.S
  refine TC.seq ?_
  refine TC.region ?_
  refine q rfl rfl (asg (v := .int _ _) rfl) ?_
  refine TL.nil (nt ?_)
  refine TC.seq ?_
  refine TC.seq ?_
  refine TC.region ?_
  refine q rfl rfl (asg (v := .int _ _) rfl) ?_
  refine TL.nil (nt ?_)
  refine TC.block ?_
  refine TC.loop (ι := Nat) (fun i => i ≤ r.D.length ∧ ∀ j t, j < i → r.D[j]? = some t → t ≠ id) (fun i => [(0, .pointer (some ⟨b, 0, none⟩)), (1, .int .i64 id), (5, .int .i64 ((i : Nat) : Int))]) (fun i => sepL [restr F (sepL [pts b 60 [.slice a1 r.D.length c1, .slice a2 r.S.length c2], slc 65 3 a1 r.D.length c1 (thsC r), slc 95 4 a2 r.S.length c2 (snsC r.S)])]) (fun i => r.D.length - i) 0 ⟨Nat.zero_le _, by intro j t h; omega⟩ ⟨rfl, rfl, rfl, trivial⟩ (ent_take 0 rfl (ent_nil _)) ?_
  rintro k ⟨hk, hno⟩ ρ0
  dsimp only [updL] at hk hno ⊢
  refine TC.seq ?_
  refine TC.seq ?_
  refine TC.region ?_
  refine q rfl rfl (mv (v := .int _ _) rfl) ?_
  refine q rfl rfl (mv (v := .pointer _) rfl) ?_
  first | refine q rfl rfl (nc rfl) ?_ | refine q rfl rfl (ncF rfl) ?_ | refine q rfl rfl (ncS rfl (by first | assumption | (simp [ints_length] <;> omega))) ?_
  first | refine q rfl rfl (fa 0 rfl rfl) ?_ | refine q rfl rfl (faS 0 rfl rfl (by first | assumption | (simp [ints_length] <;> omega))) ?_
  first | refine q rfl rfl (ld rfl rfl rfl) ?_ | refine q rfl rfl (ldS rfl rfl rfl) ?_
  refine q rfl rfl (len 65 3 rfl rfl) ?_
  refine q rfl rfl (lss rfl rfl) ?_
  refine TL.nil (nt ?_)
  first | refine TC.condD rfl (fun hlt => ?_) (fun hlt => ?_) | refine TC.cond rfl (fun hlt => ?_) (fun hlt => ?_)
  · have hlt2 : k < r.D.length := by omega
    obtain ⟨x, hx⟩ : ∃ x, r.D[k]? = some x := ⟨r.D[k], List.getElem?_eq_getElem hlt2⟩
    have hpos : 0 < (thsC r).length := by omega
    refine TC.skip (nt ?_)
    refine TC.seq ?_
    refine TC.block ?_
    refine TC.seq ?_
    refine TC.region ?_
    refine q rfl rfl (mv (v := .pointer _) rfl) ?_
    first | refine q rfl rfl (nc rfl) ?_ | refine q rfl rfl (ncF rfl) ?_ | refine q rfl rfl (ncS rfl (by first | assumption | (simp [ints_length] <;> omega))) ?_
    first | refine q rfl rfl (fa 0 rfl rfl) ?_ | refine q rfl rfl (faS 0 rfl rfl (by first | assumption | (simp [ints_length] <;> omega))) ?_
    first | refine q rfl rfl (ld rfl rfl rfl) ?_ | refine q rfl rfl (ldS rfl rfl (flat_ld (thC_sz r) hx 0 (by omega) rfl)) ?_ | refine q rfl rfl (ldS rfl rfl rfl) ?_
    refine q rfl rfl (mv (v := .int _ _) rfl) ?_
    first | refine q rfl rfl (ixS 65 3 rfl rfl rfl (by omega) (by first | assumption | (simp [ints_length] <;> omega))) ?_ | refine q rfl rfl (ixJ 65 3 rfl rfl rfl (by omega) (by omega) (by first | assumption | (simp [ints_length] <;> omega))) ?_ | refine q rfl rfl (ix 65 3 rfl rfl rfl (by omega) (by omega) rfl) ?_
    first | refine q rfl rfl (fa 0 rfl rfl) ?_ | refine q rfl rfl (faS 0 rfl rfl (by first | assumption | (simp [ints_length] <;> omega))) ?_
    first | refine q rfl rfl (ld rfl rfl rfl) ?_ | refine q rfl rfl (ldS rfl rfl (flat_ld (thC_sz r) hx 0 (by omega) rfl)) ?_ | refine q rfl rfl (ldS rfl rfl rfl) ?_
    refine q rfl rfl (mv (v := .int _ _) rfl) ?_
    refine q rfl rfl (eqI rfl rfl) ?_
    refine TL.nil (nt ?_)
    first | refine TC.condD rfl (fun he => ?_) (fun he => ?_) | refine TC.cond rfl (fun he => ?_) (fun he => ?_)
    · have hr : atD r.D id = (k : Int) := by
        rw [atD, findIdx_at (p := fun x : Int => decide (x = id)) hx (by simpa using he) (fun j t hj ht => by simpa using hno j t hj ht)]
      refine TC.seq ?_
      refine TC.region ?_
      refine q rfl rfl (mv (v := .int _ _) rfl) ?_
      refine q rfl rfl (asg (v := .int _ _) rfl) ?_
      refine TL.nil (nt ?_)
      refine TC.ret (rb (rt (rt (rb (rt ?_)))))
      exact Ret.i () [_] ⟨rfl, trivial⟩ (by rw [hr]; rfl) trivial (ent_takeF 0 rfl (ent_nil _))
    · refine TC.skip (nb (nt ?_))
      refine TC.region ?_
      refine q rfl rfl (mv (v := .int _ _) rfl) ?_
      first | refine q rfl rfl (addI rfl rfl (by omega) (by omega)) ?_ | refine q rfl rfl (add rfl rfl rfl) ?_
      refine q rfl rfl (asg (v := .int _ _) rfl) ?_
      refine TL.nil (nt ?_)
      exact ⟨rfl, (k + 1), ⟨by omega, fun j t hj ht => by rcases Nat.lt_succ_iff_lt_or_eq.1 hj with h | h; exact hno j t h ht; subst h; rw [hx] at ht; cases ht; exact he⟩, (by omega), ⟨rfl, rfl, rfl, trivial⟩, (ent_take 0 rfl (ent_nil _))⟩
  · have hr : atD r.D id = -1 := atD_no (fun he1 => by
      obtain ⟨j, hj⟩ := List.getElem?_of_mem he1
      exact hno j id (by have := (List.getElem?_eq_some_iff.1 hj).1; omega) hj rfl)
    refine TC.exit (et (et (eb (nt ?_))))
    refine TC.seq ?_
    refine TC.region ?_
    refine q rfl rfl (asg (v := .int _ _) rfl) ?_
    refine TL.nil (nt ?_)
    refine TC.ret ?_
    exact Ret.i () [_] ⟨rfl, trivial⟩ (by rw [hr]; rfl) trivial (ent_takeF 0 rfl (ent_nil _))

set_option maxRecDepth 4000 in
theorem rstate_ok (b : Nat) (r : Rf) (hd : r.D.length ≤ 1000) (hs : r.S.length ≤ 100000) (id : Int) : FSpec Try.prog 54 [.pointer (some ⟨b, 0, none⟩), .int .i64 id] (fun F => ent F (isRm b r)) [] (fun _ : Unit => .int .i64 (stF r id)) (fun _ => True) (fun _ => []) := by
  refine FSpec.intro (rs := [.tmp 4]) (by kernel_rfl) Try.func54 rfl Try.ntmps54 (by rfl) rfl ?_
  intro F hF
  change TC _ _ _ _ _ _ _ (sepL [_])
  refine TC.seq ?_
  refine TC.region ?_
  refine q rfl rfl (asg (v := .int _ _) rfl) ?_
  refine TL.nil (nt ?_)
  refine TC.seq ?_
  refine TC.region ?_
  refine q rfl rfl (mv (v := .pointer _) rfl) ?_
  refine q rfl rfl (mv (v := .int _ _) rfl) ?_
  refine e rfl ?_
  refine cl (rat_ok b r hd hs id) rfl (picked_nil _) ((ent_one 0 rfl).trans hF) ?_
  intro _ _
  change TL _ _ _ _ _ _ _ _ (sepL [_])
  by_cases hy : id ∈ r.D
  · obtain ⟨i, h1, h2⟩ := atD_yes hy
    rw [h1]
    have hi := (List.getElem?_eq_some_iff.1 h2).1
    rw [show stF r id = r.st id from if_pos hy]
    refine q rfl rfl (asg (v := .int _ _) rfl) ?_
    refine TL.nil (nt ?_)
    refine TC.seq ?_
    refine TC.seq ?_
    refine TC.region ?_
    refine q rfl rfl (mv (v := .int _ _) rfl) ?_
    refine q rfl rfl (lss rfl rfl) ?_
    refine TL.nil (nt ?_)
    refine TC.condD rfl (fun hc1 => absurd hc1 (by omega)) (fun hc1 => ?_)
    refine TC.skip (nt ?_)
    refine TC.seq ?_
    refine TC.openR hF (fun x0 hx0 => ?_)
    obtain ⟨⟨a1, c1⟩, ⟨a2, c2⟩⟩ := x0
    clear hx0
    dsimp only
    have hil := thsC_length r
    have hsl := snsC_length r.S
    have hpos : 0 < (thsC r).length := by omega
    refine TC.region ?_
    refine q rfl rfl (mv (v := .pointer _) rfl) ?_
    first | refine q rfl rfl (nc rfl) ?_ | refine q rfl rfl (ncF rfl) ?_ | refine q rfl rfl (ncS rfl (by first | assumption | (simp [ints_length] <;> omega))) ?_
    first | refine q rfl rfl (fa 0 rfl rfl) ?_ | refine q rfl rfl (faS 0 rfl rfl (by first | assumption | (simp [ints_length] <;> omega))) ?_
    first | refine q rfl rfl (ld rfl rfl rfl) ?_ | refine q rfl rfl (ldS rfl rfl (flat_ld (thC_sz r) h2 1 (by omega) rfl)) ?_ | refine q rfl rfl (ldS rfl rfl rfl) ?_
    refine q rfl rfl (mv (v := .int _ _) rfl) ?_
    first | refine q rfl rfl (ixS 65 3 rfl rfl rfl (by omega) (by first | assumption | (simp [ints_length] <;> omega))) ?_ | refine q rfl rfl (ixJ 65 3 rfl rfl rfl (by omega) (by omega) (by first | assumption | (simp [ints_length] <;> omega))) ?_ | refine q rfl rfl (ix 65 3 rfl rfl rfl (by omega) (by omega) rfl) ?_
    first | refine q rfl rfl (fa 1 rfl rfl) ?_ | refine q rfl rfl (faS 1 rfl rfl (by first | assumption | (simp [ints_length] <;> omega))) ?_
    first | refine q rfl rfl (ld rfl rfl rfl) ?_ | refine q rfl rfl (ldS rfl rfl (flat_ld (thC_sz r) h2 1 (by omega) rfl)) ?_ | refine q rfl rfl (ldS rfl rfl rfl) ?_
    refine q rfl rfl (asg (v := .int _ _) rfl) ?_
    refine TL.nil (nt ?_)
    refine TC.ret ?_
    exact Ret.i () [_] ⟨rfl, trivial⟩ rfl trivial (ent_takeF 0 rfl (ent_nil _))
  · rw [atD_no hy, show stF r id = -1 from if_neg hy]
    refine q rfl rfl (asg (v := .int _ _) rfl) ?_
    refine TL.nil (nt ?_)
    refine TC.seq ?_
    refine TC.seq ?_
    refine TC.region ?_
    refine q rfl rfl (mv (v := .int _ _) rfl) ?_
    refine q rfl rfl (lss rfl rfl) ?_
    refine TL.nil (nt ?_)
    refine TC.condD rfl (fun hc2 => ?_) (fun hc2 => absurd (by decide) hc2)
    refine TC.seq ?_
    refine TC.region ?_
    refine q rfl rfl (asg (v := .int _ _) rfl) ?_
    refine TL.nil (nt ?_)
    refine TC.ret (rt ?_)
    exact Ret.i () [_] ⟨rfl, trivial⟩ rfl trivial (ent_take 0 rfl (ent_nil _))

set_option maxRecDepth 4000 in
theorem rcaller_ok (b : Nat) (r : Rf) (hd : r.D.length ≤ 1000) (hs : r.S.length ≤ 100000) (id : Int) : FSpec Try.prog 57 [.pointer (some ⟨b, 0, none⟩), .int .i64 id] (fun F => ent F (isRm b r)) [] (fun _ : Unit => .int .i64 (clF r id)) (fun _ => True) (fun _ => []) := by
  refine FSpec.intro (rs := [.tmp 4]) (by kernel_rfl) Try.func57 rfl Try.ntmps57 (by rfl) rfl ?_
  intro F hF
  change TC _ _ _ _ _ _ _ (sepL [_])
  refine TC.seq ?_
  refine TC.region ?_
  refine q rfl rfl (asg (v := .int _ _) rfl) ?_
  refine TL.nil (nt ?_)
  refine TC.seq ?_
  refine TC.region ?_
  refine q rfl rfl (mv (v := .pointer _) rfl) ?_
  refine q rfl rfl (mv (v := .int _ _) rfl) ?_
  refine e rfl ?_
  refine cl (rat_ok b r hd hs id) rfl (picked_nil _) ((ent_one 0 rfl).trans hF) ?_
  intro _ _
  change TL _ _ _ _ _ _ _ _ (sepL [_])
  by_cases hy : id ∈ r.D
  · obtain ⟨i, h1, h2⟩ := atD_yes hy
    rw [h1]
    have hi := (List.getElem?_eq_some_iff.1 h2).1
    rw [show clF r id = r.cl id from if_pos hy]
    refine q rfl rfl (asg (v := .int _ _) rfl) ?_
    refine TL.nil (nt ?_)
    refine TC.seq ?_
    refine TC.seq ?_
    refine TC.region ?_
    refine q rfl rfl (mv (v := .int _ _) rfl) ?_
    refine q rfl rfl (lss rfl rfl) ?_
    refine TL.nil (nt ?_)
    refine TC.condD rfl (fun hc3 => absurd hc3 (by omega)) (fun hc3 => ?_)
    refine TC.skip (nt ?_)
    refine TC.seq ?_
    refine TC.openR hF (fun x0 hx0 => ?_)
    obtain ⟨⟨a1, c1⟩, ⟨a2, c2⟩⟩ := x0
    clear hx0
    dsimp only
    have hil := thsC_length r
    have hsl := snsC_length r.S
    have hpos : 0 < (thsC r).length := by omega
    refine TC.region ?_
    refine q rfl rfl (mv (v := .pointer _) rfl) ?_
    first | refine q rfl rfl (nc rfl) ?_ | refine q rfl rfl (ncF rfl) ?_ | refine q rfl rfl (ncS rfl (by first | assumption | (simp [ints_length] <;> omega))) ?_
    first | refine q rfl rfl (fa 0 rfl rfl) ?_ | refine q rfl rfl (faS 0 rfl rfl (by first | assumption | (simp [ints_length] <;> omega))) ?_
    first | refine q rfl rfl (ld rfl rfl rfl) ?_ | refine q rfl rfl (ldS rfl rfl (flat_ld (thC_sz r) h2 2 (by omega) rfl)) ?_ | refine q rfl rfl (ldS rfl rfl rfl) ?_
    refine q rfl rfl (mv (v := .int _ _) rfl) ?_
    first | refine q rfl rfl (ixS 65 3 rfl rfl rfl (by omega) (by first | assumption | (simp [ints_length] <;> omega))) ?_ | refine q rfl rfl (ixJ 65 3 rfl rfl rfl (by omega) (by omega) (by first | assumption | (simp [ints_length] <;> omega))) ?_ | refine q rfl rfl (ix 65 3 rfl rfl rfl (by omega) (by omega) rfl) ?_
    first | refine q rfl rfl (fa 2 rfl rfl) ?_ | refine q rfl rfl (faS 2 rfl rfl (by first | assumption | (simp [ints_length] <;> omega))) ?_
    first | refine q rfl rfl (ld rfl rfl rfl) ?_ | refine q rfl rfl (ldS rfl rfl (flat_ld (thC_sz r) h2 2 (by omega) rfl)) ?_ | refine q rfl rfl (ldS rfl rfl rfl) ?_
    refine q rfl rfl (asg (v := .int _ _) rfl) ?_
    refine TL.nil (nt ?_)
    refine TC.ret ?_
    exact Ret.i () [_] ⟨rfl, trivial⟩ rfl trivial (ent_takeF 0 rfl (ent_nil _))
  · rw [atD_no hy, show clF r id = -1 from if_neg hy]
    refine q rfl rfl (asg (v := .int _ _) rfl) ?_
    refine TL.nil (nt ?_)
    refine TC.seq ?_
    refine TC.seq ?_
    refine TC.region ?_
    refine q rfl rfl (mv (v := .int _ _) rfl) ?_
    refine q rfl rfl (lss rfl rfl) ?_
    refine TL.nil (nt ?_)
    refine TC.condD rfl (fun hc4 => ?_) (fun hc4 => absurd (by decide) hc4)
    refine TC.seq ?_
    refine TC.region ?_
    refine q rfl rfl (asg (v := .int _ _) rfl) ?_
    refine TL.nil (nt ?_)
    refine TC.ret (rt ?_)
    exact Ret.i () [_] ⟨rfl, trivial⟩ rfl trivial (ent_take 0 rfl (ent_nil _))

set_option maxRecDepth 4000 in
theorem rset_ok (b : Nat) (r : Rf) (hd : r.D.length ≤ 1000) (hs : r.S.length ≤ 100000) (hn : r.D.Nodup) (id v : Int) : FSpec Try.prog 55 [.pointer (some ⟨b, 0, none⟩), .int .i64 id, .int .i64 v] noRd [isRm b r] (fun _ : Unit => .tuple #[]) (fun _ => True) (fun _ => [isRm b (setF r id v)]) := by
  refine FSpec.intro (rs := []) (by kernel_rfl) Try.func55 rfl Try.ntmps55 (by rfl) rfl ?_
  intro F _
  change TC _ _ _ _ _ _ _ (sepL [_, _])
  refine TC.seq ?_
  refine TC.region ?_
  refine q rfl rfl (mv (v := .pointer _) rfl) ?_
  refine q rfl rfl (mv (v := .int _ _) rfl) ?_
  refine e rfl ?_
  refine cl (rat_ok b r hd hs id) rfl (picked_nil _) (ent_one 0 rfl) ?_
  intro _ _
  change TL _ _ _ _ _ _ _ _ (sepL [_, _])
  by_cases hy : id ∈ r.D
  · obtain ⟨i, h1, h2⟩ := atD_yes hy
    rw [h1]
    have hi := (List.getElem?_eq_some_iff.1 h2).1
    have hst : ∀ o, o = i * 3 + 1 → splice o [.int .i64 v] (thsC r) = thsC (setF r id v) := fun o ho => ths_set (r' := setF r id v) hn rfl h2 ho (by rw [thC, thC]; dsimp only [setF]; rw [updI_same]; rfl) (by decide) (fun x _ hx => by rw [thC, thC]; dsimp only [setF]; rw [updI_ne hx])
    refine q rfl rfl (asg (v := .int _ _) rfl) ?_
    refine TL.nil (nt ?_)
    refine TC.seq ?_
    refine TC.region ?_
    refine q rfl rfl (mv (v := .int _ _) rfl) ?_
    refine q rfl rfl (geq rfl rfl) ?_
    refine TL.nil (nt ?_)
    refine TC.condD rfl (fun hc5 => ?_) (fun hc5 => absurd (by omega) hc5)
    refine TC.open 0 rfl (fun x0 hx0 => ?_)
    obtain ⟨⟨a1, c1⟩, ⟨a2, c2⟩⟩ := x0
    clear hx0
    change TC _ _ _ _ _ _ _ (sepL [_, _, _, _])
    dsimp only
    have hil := thsC_length r
    have hsl := snsC_length r.S
    have hpos : 0 < (thsC r).length := by omega
    refine TC.region ?_
    refine q rfl rfl (mv (v := .pointer _) rfl) ?_
    first | refine q rfl rfl (nc rfl) ?_ | refine q rfl rfl (ncF rfl) ?_ | refine q rfl rfl (ncS rfl (by first | assumption | (simp [ints_length] <;> omega))) ?_
    first | refine q rfl rfl (fa 0 rfl rfl) ?_ | refine q rfl rfl (faS 0 rfl rfl (by first | assumption | (simp [ints_length] <;> omega))) ?_
    first | refine q rfl rfl (ld rfl rfl rfl) ?_ | refine q rfl rfl (ldS rfl rfl rfl) ?_
    refine q rfl rfl (mv (v := .int _ _) rfl) ?_
    refine q rfl rfl (mv (v := .int _ _) rfl) ?_
    first | refine q rfl rfl (ixS 65 3 rfl rfl rfl (by omega) (by first | assumption | (simp [ints_length] <;> omega))) ?_ | refine q rfl rfl (ixJ 65 3 rfl rfl rfl (by omega) (by omega) (by first | assumption | (simp [ints_length] <;> omega))) ?_ | refine q rfl rfl (ix 65 3 rfl rfl rfl (by omega) (by omega) rfl) ?_
    first | refine q rfl rfl (fa 1 rfl rfl) ?_ | refine q rfl rfl (faS 1 rfl rfl (by first | assumption | (simp [ints_length] <;> omega))) ?_
    refine e0 ?_
    first | refine st (v := .int _ _) (vs := [_]) 1 rfl rfl rfl rfl rfl rfl (Nat.le_of_ble_eq_true rfl) rfl ?_ | refine QM.stS (v := .int _ _) (vs := [_]) 1 rfl rfl rfl rfl rfl rfl (by decide) (by omega) (hst _ (by omega)) ?_
    refine TL.nil ?_
    exact Ret.n () [] trivial rfl trivial (ent_close (⟨(a1, c1), (a2, c2)⟩ : (Option Addr × Nat) × (Option Addr × Nat)) trivial (by repeat (first | exact ent_nil _ | refine ent_take 0 rfl ?_ | refine ent_take 1 rfl ?_ | refine ent_take 2 rfl ?_ | refine ent_take 3 rfl ?_ | refine ent_take 4 rfl ?_ | refine ent_take 5 rfl ?_ | refine ent_take 6 rfl ?_ | refine ent_take 7 rfl ?_ | refine ent_take 8 rfl ?_ | refine ent_take 9 rfl ?_ | refine ent_take 10 rfl ?_ | refine ent_take 11 rfl ?_ | refine ent_take 12 rfl ?_)))
  · rw [atD_no hy]
    have hst : thsC (setF r id v) = thsC r := flat_congr fun x hx => by
      have hne : x ≠ id := fun e2 => hy (e2 ▸ hx)
      rw [thC, thC]; dsimp only [setF]; rw [updI_ne hne]
    refine TL.open 0 rfl (fun x0 hx0 => ?_)
    obtain ⟨⟨a1, c1⟩, ⟨a2, c2⟩⟩ := x0
    clear hx0
    change TL _ _ _ _ _ _ _ _ (sepL [_, _, _, _])
    dsimp only
    have hil := thsC_length r
    have hsl := snsC_length r.S
    refine q rfl rfl (asg (v := .int _ _) rfl) ?_
    refine TL.nil (nt ?_)
    refine TC.seq ?_
    refine TC.region ?_
    refine q rfl rfl (mv (v := .int _ _) rfl) ?_
    refine q rfl rfl (geq rfl rfl) ?_
    refine TL.nil (nt ?_)
    refine TC.condD rfl (fun hc6 => absurd hc6 (by decide)) (fun hc6 => ?_)
    refine TC.skip ?_
    exact Ret.n () [] trivial rfl trivial (ent_close (⟨(a1, c1), (a2, c2)⟩ : (Option Addr × Nat) × (Option Addr × Nat)) trivial (ent_take 0 rfl (ent_takeE 0 rfl (by rw [hst]; rfl) (by repeat (first | exact ent_nil _ | refine ent_take 0 rfl ?_ | refine ent_take 1 rfl ?_ | refine ent_take 2 rfl ?_ | refine ent_take 3 rfl ?_ | refine ent_take 4 rfl ?_ | refine ent_take 5 rfl ?_ | refine ent_take 6 rfl ?_ | refine ent_take 7 rfl ?_ | refine ent_take 8 rfl ?_ | refine ent_take 9 rfl ?_ | refine ent_take 10 rfl ?_ | refine ent_take 11 rfl ?_ | refine ent_take 12 rfl ?_)))))

set_option maxRecDepth 4000 in
theorem roff_ok (b : Nat) (r : Rf) (hd : r.D.length ≤ 1000) (hs : r.S.length ≤ 100000) (f : Int) : FSpec Try.prog 56 [.pointer (some ⟨b, 0, none⟩), .int .i64 f] noRd [isRm b r] (fun _ : Unit => .tuple #[]) (fun _ => True) (fun _ => [isRm b (offF r f)]) := by
  refine FSpec.intro (rs := []) (by kernel_rfl) Try.func56 rfl Try.ntmps56 (by rfl) rfl ?_
  intro F _
  change TC _ _ _ _ _ _ _ (sepL [_, _])
  refine TC.open 0 rfl (fun x0 hx0 => ?_)
  obtain ⟨⟨a1, c1⟩, ⟨a2, c2⟩⟩ := x0
  clear hx0
  change TC _ _ _ _ _ _ _ (sepL [_, _, _, _])
  dsimp only
  have hil := thsC_length r
  have hsl := snsC_length r.S
  refine TC.seq ?_
  refine TC.region ?_
  refine q rfl rfl (asg (v := .slice _ _ _) rfl) ?_
  refine TL.nil (nt ?_)
  refine TC.seq ?_
  refine TC.seq ?_
  refine TC.region ?_
  refine q rfl rfl (asg (v := .int _ _) rfl) ?_
  refine TL.nil (nt ?_)
  refine TC.block ?_
  refine TC.loop (ι := Nat × (Option Addr × Nat)) (fun s => s.1 ≤ r.S.length) (fun s => [(0, .pointer (some ⟨b, 0, none⟩)), (1, .int .i64 f), (4, .slice s.2.1 ((r.S.take s.1).filter fun u => decide (u.o.fr ≠ f)).length s.2.2), (5, .int .i64 ((s.1 : Nat) : Int))]) (fun s => sepL [slc 95 4 s.2.1 ((r.S.take s.1).filter fun u => decide (u.o.fr ≠ f)).length s.2.2 (snsC ((r.S.take s.1).filter fun u => decide (u.o.fr ≠ f))), pts b 60 [.slice a1 r.D.length c1, .slice a2 r.S.length c2], slc 65 3 a1 r.D.length c1 (thsC r), slc 95 4 a2 r.S.length c2 (snsC r.S), F]) (fun s => r.S.length - s.1) ⟨0, (none, 0)⟩ (Nat.zero_le _) ⟨rfl, rfl, rfl, rfl, trivial⟩ ((slc_nil 95 4 _).trans (ent_takeE 0 rfl rfl (by repeat (first | exact ent_nil _ | refine ent_take 0 rfl ?_ | refine ent_take 1 rfl ?_ | refine ent_take 2 rfl ?_ | refine ent_take 3 rfl ?_ | refine ent_take 4 rfl ?_ | refine ent_take 5 rfl ?_ | refine ent_take 6 rfl ?_ | refine ent_take 7 rfl ?_ | refine ent_take 8 rfl ?_ | refine ent_take 9 rfl ?_ | refine ent_take 10 rfl ?_ | refine ent_take 11 rfl ?_ | refine ent_take 12 rfl ?_)))) ?_
  rintro ⟨k, ⟨oa, oc⟩⟩ hk ρ0
  dsimp only [updL] at hk ⊢
  refine TC.seq ?_
  refine TC.seq ?_
  refine TC.region ?_
  refine q rfl rfl (mv (v := .int _ _) rfl) ?_
  refine q rfl rfl (mv (v := .pointer _) rfl) ?_
  first | refine q rfl rfl (nc rfl) ?_ | refine q rfl rfl (ncF rfl) ?_ | refine q rfl rfl (ncS rfl (by first | assumption | (simp [ints_length] <;> omega))) ?_
  first | refine q rfl rfl (fa 1 rfl rfl) ?_ | refine q rfl rfl (faS 1 rfl rfl (by first | assumption | (simp [ints_length] <;> omega))) ?_
  first | refine q rfl rfl (ld rfl rfl rfl) ?_ | refine q rfl rfl (ldS rfl rfl rfl) ?_
  refine q rfl rfl (len 95 4 rfl rfl) ?_
  refine q rfl rfl (lss rfl rfl) ?_
  refine TL.nil (nt ?_)
  first | refine TC.condD rfl (fun hlt => ?_) (fun hlt => ?_) | refine TC.cond rfl (fun hlt => ?_) (fun hlt => ?_)
  · have hlt2 : k < r.S.length := by omega
    obtain ⟨u, hu⟩ : ∃ u, r.S[k]? = some u := ⟨r.S[k], List.getElem?_eq_getElem hlt2⟩
    have hpos : 0 < (snsC r.S).length := by omega
    have hsn := off_snoc hu f
    have hfl : ((r.S.take k).filter fun u => decide (u.o.fr ≠ f)).length ≤ (r.S.take k).length := List.length_filter_le _ _
    have htl : (r.S.take k).length ≤ k := by rw [List.length_take]; omega
    have hfi := snsC_length ((r.S.take k).filter fun u => decide (u.o.fr ≠ f))
    refine TC.skip (nt ?_)
    refine TC.seq ?_
    refine TC.block ?_
    refine TC.seq ?_
    refine TC.region ?_
    refine q rfl rfl (mv (v := .pointer _) rfl) ?_
    first | refine q rfl rfl (nc rfl) ?_ | refine q rfl rfl (ncF rfl) ?_ | refine q rfl rfl (ncS rfl (by first | assumption | (simp [ints_length] <;> omega))) ?_
    first | refine q rfl rfl (fa 1 rfl rfl) ?_ | refine q rfl rfl (faS 1 rfl rfl (by first | assumption | (simp [ints_length] <;> omega))) ?_
    first | refine q rfl rfl (ld rfl rfl rfl) ?_ | refine q rfl rfl (ldS rfl rfl (flat_ld snC_sz hu 1 (by omega) rfl)) ?_ | refine q rfl rfl (ldS rfl rfl rfl) ?_
    refine q rfl rfl (mv (v := .int _ _) rfl) ?_
    first | refine q rfl rfl (ixS 95 4 rfl rfl rfl (by omega) (by first | assumption | (simp [ints_length] <;> omega))) ?_ | refine q rfl rfl (ixJ 95 4 rfl rfl rfl (by omega) (by omega) (by first | assumption | (simp [ints_length] <;> omega))) ?_ | refine q rfl rfl (ix 95 4 rfl rfl rfl (by omega) (by omega) rfl) ?_
    first | refine q rfl rfl (fa 1 rfl rfl) ?_ | refine q rfl rfl (faS 1 rfl rfl (by first | assumption | (simp [ints_length] <;> omega))) ?_
    first | refine q rfl rfl (fa 0 rfl rfl) ?_ | refine q rfl rfl (faS 0 rfl rfl (by first | assumption | (simp [ints_length] <;> omega))) ?_
    first | refine q rfl rfl (ld rfl rfl rfl) ?_ | refine q rfl rfl (ldS rfl rfl (flat_ld snC_sz hu 1 (by omega) rfl)) ?_ | refine q rfl rfl (ldS rfl rfl rfl) ?_
    refine q rfl rfl (mv (v := .int _ _) rfl) ?_
    refine q rfl rfl (neI rfl rfl) ?_
    refine TL.nil (nt ?_)
    first | refine TC.condD rfl (fun hne => ?_) (fun hne => ?_) | refine TC.cond rfl (fun hne => ?_) (fun hne => ?_)
    · rw [if_pos hne] at hsn
      refine TC.region ?_
      refine q rfl rfl (mv (v := .slice _ _ _) rfl) ?_
      refine q rfl rfl (mv (v := .pointer _) rfl) ?_
      first | refine q rfl rfl (nc rfl) ?_ | refine q rfl rfl (ncF rfl) ?_ | refine q rfl rfl (ncS rfl (by first | assumption | (simp [ints_length] <;> omega))) ?_
      first | refine q rfl rfl (fa 1 rfl rfl) ?_ | refine q rfl rfl (faS 1 rfl rfl (by first | assumption | (simp [ints_length] <;> omega))) ?_
      first | refine q rfl rfl (ld rfl rfl rfl) ?_ | refine q rfl rfl (ldS rfl rfl (flat_get_rec snC_sz hu)) ?_ | refine q rfl rfl (ldS rfl rfl rfl) ?_
      refine q rfl rfl (mv (v := .int _ _) rfl) ?_
      first | refine q rfl rfl (ixS 95 4 rfl rfl rfl (by omega) (by first | assumption | (simp [ints_length] <;> omega))) ?_ | refine q rfl rfl (ixJ 95 4 rfl rfl rfl (by omega) (by omega) (by first | assumption | (simp [ints_length] <;> omega))) ?_ | refine q rfl rfl (ix 95 4 rfl rfl rfl (by omega) (by omega) rfl) ?_
      first | refine q rfl rfl (ldN (vs := [_, _, _, _]) 4 rfl rfl rfl rfl) ?_ | refine q rfl rfl (ldSN (vs := [_, _, _, _]) 4 rfl rfl (flat_get_rec snC_sz hu) rfl (by decide)) ?_ | refine q rfl rfl (ldSN (vs := [_, _, _, _]) 4 rfl rfl rfl rfl (by decide)) ?_
      refine e rfl ?_
      refine bs (cs := [.int _ _, .int _ _, .int _ _, .bool _]) rfl ?_
      intro b1
      refine e rfl ?_
      refine ap 32 rfl rfl rfl rfl rfl (Nat.le_of_ble_eq_true rfl) (show _ = snsC [u] from rfl) rfl (by omega) (by simp only [maxLen]; omega) ?_
      intro ad1 cap1
      refine q rfl rfl (asg (v := .slice _ _ _) rfl) ?_
      refine TL.nil (nb (nt ?_))
      refine TC.region ?_
      refine q rfl rfl (mv (v := .int _ _) rfl) ?_
      first | refine q rfl rfl (addI rfl rfl (by omega) (by omega)) ?_ | refine q rfl rfl (add rfl rfl rfl) ?_
      refine q rfl rfl (asg (v := .int _ _) rfl) ?_
      refine TL.nil (nt ?_)
      exact ⟨rfl, ⟨k + 1, (ad1, cap1)⟩, (by dsimp only; omega), (by dsimp only; omega), ⟨rfl, rfl, congrArg (fun n => Value.slice _ n _) (by dsimp only; rw [hsn, List.length_append]; rfl), rfl, trivial⟩, (ent_takeE 0 rfl (by dsimp only; rw [hsn, List.length_append, sns_app]; rfl) (by repeat (first | exact ent_nil _ | refine ent_take 0 rfl ?_ | refine ent_take 1 rfl ?_ | refine ent_take 2 rfl ?_ | refine ent_take 3 rfl ?_ | refine ent_take 4 rfl ?_ | refine ent_take 5 rfl ?_ | refine ent_take 6 rfl ?_ | refine ent_take 7 rfl ?_ | refine ent_take 8 rfl ?_ | refine ent_take 9 rfl ?_ | refine ent_take 10 rfl ?_ | refine ent_take 11 rfl ?_ | refine ent_take 12 rfl ?_)))⟩
    · rw [if_neg hne, List.append_nil] at hsn
      refine TC.skip (nb (nt ?_))
      refine TC.region ?_
      refine q rfl rfl (mv (v := .int _ _) rfl) ?_
      first | refine q rfl rfl (addI rfl rfl (by omega) (by omega)) ?_ | refine q rfl rfl (add rfl rfl rfl) ?_
      refine q rfl rfl (asg (v := .int _ _) rfl) ?_
      refine TL.nil (nt ?_)
      exact ⟨rfl, ⟨k + 1, (oa, oc)⟩, (by dsimp only; omega), (by dsimp only; omega), ⟨rfl, rfl, congrArg (fun n => Value.slice _ n _) (by dsimp only; rw [hsn]), rfl, trivial⟩, (ent_takeE 0 rfl (by dsimp only; rw [hsn]) (by repeat (first | exact ent_nil _ | refine ent_take 0 rfl ?_ | refine ent_take 1 rfl ?_ | refine ent_take 2 rfl ?_ | refine ent_take 3 rfl ?_ | refine ent_take 4 rfl ?_ | refine ent_take 5 rfl ?_ | refine ent_take 6 rfl ?_ | refine ent_take 7 rfl ?_ | refine ent_take 8 rfl ?_ | refine ent_take 9 rfl ?_ | refine ent_take 10 rfl ?_ | refine ent_take 11 rfl ?_ | refine ent_take 12 rfl ?_)))⟩
  · obtain rfl : k = r.S.length := by omega
    rw [List.take_length]
    refine TC.exit (et (et (eb (nt ?_))))
    refine TC.region ?_
    refine q rfl rfl (mv (v := .pointer _) rfl) ?_
    refine q rfl rfl (mv (v := .slice _ _ _) rfl) ?_
    first | refine q rfl rfl (nc rfl) ?_ | refine q rfl rfl (ncF rfl) ?_ | refine q rfl rfl (ncS rfl (by first | assumption | (simp [ints_length] <;> omega))) ?_
    first | refine q rfl rfl (fa 1 rfl rfl) ?_ | refine q rfl rfl (faS 1 rfl rfl (by first | assumption | (simp [ints_length] <;> omega))) ?_
    refine e0 ?_
    refine st (v := .slice _ _ _) (vs := [_]) 1 rfl rfl rfl rfl rfl rfl (Nat.le_of_ble_eq_true rfl) rfl ?_
    refine TL.nil ?_
    exact Ret.n () [] trivial rfl trivial (ent_close (⟨(a1, c1), (oa, oc)⟩ : (Option Addr × Nat) × (Option Addr × Nat)) trivial (ent_take 0 rfl (ent_take 1 rfl (ent_take 0 rfl (by repeat (first | exact ent_nil _ | refine ent_take 0 rfl ?_ | refine ent_take 1 rfl ?_ | refine ent_take 2 rfl ?_ | refine ent_take 3 rfl ?_ | refine ent_take 4 rfl ?_ | refine ent_take 5 rfl ?_ | refine ent_take 6 rfl ?_ | refine ent_take 7 rfl ?_ | refine ent_take 8 rfl ?_ | refine ent_take 9 rfl ?_ | refine ent_take 10 rfl ?_ | refine ent_take 11 rfl ?_ | refine ent_take 12 rfl ?_))))))

set_option maxRecDepth 4000 in
theorem rrow_ok (b : Nat) (r : Rf) (hd : r.D.length ≤ 1000) (hs : r.S.length ≤ 100000) (to : Int) : FSpec Try.prog 28 [.pointer (some ⟨b, 0, none⟩), .int .i64 to] (fun F => ent F (isRm b r)) [] (fun y : Option Addr × Nat => .slice y.1 (rowF r.S to).length y.2) (fun _ => True) (fun y => [slc 31 3 y.1 (rowF r.S to).length y.2 (ofsC (rowF r.S to))]) := by
  refine FSpec.intro (rs := [.tmp 4]) (by kernel_rfl) Try.func28 rfl Try.ntmps28 (by rfl) rfl ?_
  intro F hF
  change TC _ _ _ _ _ _ _ (sepL [_])
  refine TC.openR hF (fun x0 hx0 => ?_)
  obtain ⟨⟨a1, c1⟩, ⟨a2, c2⟩⟩ := x0
  clear hx0
  dsimp only
  have hil := thsC_length r
  have hsl := snsC_length r.S
  refine TC.seq ?_
  refine TC.region ?_
  refine q rfl rfl (asg (v := .slice _ _ _) rfl) ?_
  refine TL.nil (nt ?_)
  refine TC.seq ?_
  refine TC.region ?_
  refine q rfl rfl (asg (v := .slice _ _ _) rfl) ?_
  refine TL.nil (nt ?_)
  refine TC.seq ?_
  refine TC.seq ?_
  refine TC.region ?_
  refine q rfl rfl (asg (v := .int _ _) rfl) ?_
  refine TL.nil (nt ?_)
  refine TC.block ?_
  refine TC.loop (ι := Nat × (Option Addr × Nat)) (fun s => s.1 ≤ r.S.length) (fun s => [(0, .pointer (some ⟨b, 0, none⟩)), (1, .int .i64 to), (5, .slice s.2.1 (rowF (r.S.take s.1) to).length s.2.2), (6, .int .i64 ((s.1 : Nat) : Int))]) (fun s => sepL [slc 31 3 s.2.1 (rowF (r.S.take s.1) to).length s.2.2 (ofsC (rowF (r.S.take s.1) to)), restr F (sepL [pts b 60 [.slice a1 r.D.length c1, .slice a2 r.S.length c2], slc 65 3 a1 r.D.length c1 (thsC r), slc 95 4 a2 r.S.length c2 (snsC r.S)])]) (fun s => r.S.length - s.1) ⟨0, (none, 0)⟩ (Nat.zero_le _) ⟨rfl, rfl, rfl, rfl, trivial⟩ ((slc_nil 31 3 _).trans (ent_take 0 rfl (ent_take 0 rfl (ent_nil _)))) ?_
  rintro ⟨k, ⟨oa, oc⟩⟩ hk ρ0
  dsimp only [updL] at hk ⊢
  refine TC.seq ?_
  refine TC.seq ?_
  refine TC.region ?_
  refine q rfl rfl (mv (v := .int _ _) rfl) ?_
  refine q rfl rfl (mv (v := .pointer _) rfl) ?_
  first | refine q rfl rfl (nc rfl) ?_ | refine q rfl rfl (ncF rfl) ?_ | refine q rfl rfl (ncS rfl (by first | assumption | (simp [ints_length] <;> omega))) ?_
  first | refine q rfl rfl (fa 1 rfl rfl) ?_ | refine q rfl rfl (faS 1 rfl rfl (by first | assumption | (simp [ints_length] <;> omega))) ?_
  first | refine q rfl rfl (ld rfl rfl rfl) ?_ | refine q rfl rfl (ldS rfl rfl rfl) ?_
  refine q rfl rfl (len 95 4 rfl rfl) ?_
  refine q rfl rfl (lss rfl rfl) ?_
  refine TL.nil (nt ?_)
  first | refine TC.condD rfl (fun hlt => ?_) (fun hlt => ?_) | refine TC.cond rfl (fun hlt => ?_) (fun hlt => ?_)
  · have hlt2 : k < r.S.length := by omega
    obtain ⟨u, hu⟩ : ∃ u, r.S[k]? = some u := ⟨r.S[k], List.getElem?_eq_getElem hlt2⟩
    have hpos : 0 < (snsC r.S).length := by omega
    have hsn := rowF_snoc hu to
    have hfl := rowF_len (r.S.take k) to
    have htl : (r.S.take k).length ≤ k := by rw [List.length_take]; omega
    have hfi := ofsC_length (rowF (r.S.take k) to)
    refine TC.skip (nt ?_)
    refine TC.seq ?_
    refine TC.block ?_
    refine TC.seq ?_
    refine TC.region ?_
    refine q rfl rfl (mv (v := .pointer _) rfl) ?_
    first | refine q rfl rfl (nc rfl) ?_ | refine q rfl rfl (ncF rfl) ?_ | refine q rfl rfl (ncS rfl (by first | assumption | (simp [ints_length] <;> omega))) ?_
    first | refine q rfl rfl (fa 1 rfl rfl) ?_ | refine q rfl rfl (faS 1 rfl rfl (by first | assumption | (simp [ints_length] <;> omega))) ?_
    first | refine q rfl rfl (ld rfl rfl rfl) ?_ | refine q rfl rfl (ldS rfl rfl (flat_ld snC_sz hu 0 (by omega) rfl)) ?_ | refine q rfl rfl (ldS rfl rfl rfl) ?_
    refine q rfl rfl (mv (v := .int _ _) rfl) ?_
    first | refine q rfl rfl (ixS 95 4 rfl rfl rfl (by omega) (by first | assumption | (simp [ints_length] <;> omega))) ?_ | refine q rfl rfl (ixJ 95 4 rfl rfl rfl (by omega) (by omega) (by first | assumption | (simp [ints_length] <;> omega))) ?_ | refine q rfl rfl (ix 95 4 rfl rfl rfl (by omega) (by omega) rfl) ?_
    first | refine q rfl rfl (fa 0 rfl rfl) ?_ | refine q rfl rfl (faS 0 rfl rfl (by first | assumption | (simp [ints_length] <;> omega))) ?_
    first | refine q rfl rfl (ld rfl rfl rfl) ?_ | refine q rfl rfl (ldS rfl rfl (flat_ld snC_sz hu 0 (by omega) rfl)) ?_ | refine q rfl rfl (ldS rfl rfl rfl) ?_
    refine q rfl rfl (mv (v := .int _ _) rfl) ?_
    refine q rfl rfl (eqI rfl rfl) ?_
    refine TL.nil (nt ?_)
    first | refine TC.condD rfl (fun hto => ?_) (fun hto => ?_) | refine TC.cond rfl (fun hto => ?_) (fun hto => ?_)
    · rw [if_pos hto] at hsn
      refine TC.region ?_
      refine q rfl rfl (mv (v := .slice _ _ _) rfl) ?_
      refine q rfl rfl (mv (v := .pointer _) rfl) ?_
      first | refine q rfl rfl (nc rfl) ?_ | refine q rfl rfl (ncF rfl) ?_ | refine q rfl rfl (ncS rfl (by first | assumption | (simp [ints_length] <;> omega))) ?_
      first | refine q rfl rfl (fa 1 rfl rfl) ?_ | refine q rfl rfl (faS 1 rfl rfl (by first | assumption | (simp [ints_length] <;> omega))) ?_
      first | refine q rfl rfl (ld rfl rfl rfl) ?_ | refine q rfl rfl (ldS rfl rfl (flat_ldN snC_sz hu 1 3 (by omega) (by omega) (show _ = ofC u.o from rfl))) ?_ | refine q rfl rfl (ldS rfl rfl rfl) ?_
      refine q rfl rfl (mv (v := .int _ _) rfl) ?_
      first | refine q rfl rfl (ixS 95 4 rfl rfl rfl (by omega) (by first | assumption | (simp [ints_length] <;> omega))) ?_ | refine q rfl rfl (ixJ 95 4 rfl rfl rfl (by omega) (by omega) (by first | assumption | (simp [ints_length] <;> omega))) ?_ | refine q rfl rfl (ix 95 4 rfl rfl rfl (by omega) (by omega) rfl) ?_
      first | refine q rfl rfl (fa 1 rfl rfl) ?_ | refine q rfl rfl (faS 1 rfl rfl (by first | assumption | (simp [ints_length] <;> omega))) ?_
      first | refine q rfl rfl (ldN (vs := [_, _, _]) 3 rfl rfl rfl rfl) ?_ | refine q rfl rfl (ldSN (vs := [_, _, _]) 3 rfl rfl (flat_ldN snC_sz hu 1 3 (by omega) (by omega) (show _ = ofC u.o from rfl)) rfl (by decide)) ?_ | refine q rfl rfl (ldSN (vs := [_, _, _]) 3 rfl rfl rfl rfl (by decide)) ?_
      refine e rfl ?_
      refine bs (cs := [.int _ _, .int _ _, .bool _]) rfl ?_
      intro b2
      refine e rfl ?_
      refine ap 24 rfl rfl rfl rfl rfl (Nat.le_of_ble_eq_true rfl) (show _ = ofsC [u.o] from rfl) rfl (by omega) (by simp only [maxLen]; omega) ?_
      intro ad2 cap2
      refine q rfl rfl (asg (v := .slice _ _ _) rfl) ?_
      refine TL.nil (nb (nt ?_))
      refine TC.region ?_
      refine q rfl rfl (mv (v := .int _ _) rfl) ?_
      first | refine q rfl rfl (addI rfl rfl (by omega) (by omega)) ?_ | refine q rfl rfl (add rfl rfl rfl) ?_
      refine q rfl rfl (asg (v := .int _ _) rfl) ?_
      refine TL.nil (nt ?_)
      exact ⟨rfl, ⟨k + 1, (ad2, cap2)⟩, (by dsimp only; omega), (by dsimp only; omega), ⟨rfl, rfl, congrArg (fun n => Value.slice _ n _) (by dsimp only; rw [hsn, List.length_append]; rfl), rfl, trivial⟩, (ent_takeE 0 rfl (by dsimp only; rw [hsn, List.length_append, ofs_app]; rfl) (by repeat (first | exact ent_nil _ | refine ent_take 0 rfl ?_ | refine ent_take 1 rfl ?_ | refine ent_take 2 rfl ?_ | refine ent_take 3 rfl ?_ | refine ent_take 4 rfl ?_ | refine ent_take 5 rfl ?_ | refine ent_take 6 rfl ?_ | refine ent_take 7 rfl ?_ | refine ent_take 8 rfl ?_ | refine ent_take 9 rfl ?_ | refine ent_take 10 rfl ?_ | refine ent_take 11 rfl ?_ | refine ent_take 12 rfl ?_)))⟩
    · rw [if_neg hto, List.append_nil] at hsn
      refine TC.skip (nb (nt ?_))
      refine TC.region ?_
      refine q rfl rfl (mv (v := .int _ _) rfl) ?_
      first | refine q rfl rfl (addI rfl rfl (by omega) (by omega)) ?_ | refine q rfl rfl (add rfl rfl rfl) ?_
      refine q rfl rfl (asg (v := .int _ _) rfl) ?_
      refine TL.nil (nt ?_)
      exact ⟨rfl, ⟨k + 1, (oa, oc)⟩, (by dsimp only; omega), (by dsimp only; omega), ⟨rfl, rfl, congrArg (fun n => Value.slice _ n _) (by dsimp only; rw [hsn]), rfl, trivial⟩, (ent_takeE 0 rfl (by dsimp only; rw [hsn]) (by repeat (first | exact ent_nil _ | refine ent_take 0 rfl ?_ | refine ent_take 1 rfl ?_ | refine ent_take 2 rfl ?_ | refine ent_take 3 rfl ?_ | refine ent_take 4 rfl ?_ | refine ent_take 5 rfl ?_ | refine ent_take 6 rfl ?_ | refine ent_take 7 rfl ?_ | refine ent_take 8 rfl ?_ | refine ent_take 9 rfl ?_ | refine ent_take 10 rfl ?_ | refine ent_take 11 rfl ?_ | refine ent_take 12 rfl ?_)))⟩
  · obtain rfl : k = r.S.length := by omega
    rw [List.take_length]
    refine TC.exit (et (et (eb (nt ?_))))
    refine TC.seq ?_
    refine TC.region ?_
    refine q rfl rfl (mv (v := .slice _ _ _) rfl) ?_
    refine q rfl rfl (asg (v := .slice _ _ _) rfl) ?_
    refine TL.nil (nt ?_)
    refine TC.ret ?_
    exact Ret.i ⟨oa, oc⟩ [_] ⟨rfl, trivial⟩ rfl trivial (ent_take 0 rfl (ent_takeF 0 rfl (ent_nil _)))

end Go.Proofs.Ytgmniphegombhaa
