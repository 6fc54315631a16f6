/-
  Proved here: what functions of this program compute, each as a contract over symbolic states, under the premises that each theorem names (most lines printed by a program of the prover).
-/
import Derived.Test.YtgmniphegombhaaMtO
import Derived.Test.YtgmniphegombhaaQLibK
namespace Go.Proofs.Ytgmniphegombhaa
open Go Go.QM
def prF (r : Rf) (id : Int) : Int := match r.S.find? fun u => decide (u.o.fr = id) with
  | some u => u.to
  | none => if 0 ≤ id then (match r.D.find? fun x => decide (r.cl x = id) with
    | some x => x
    | none => -1) else -1
def openF (r : Rf) (id : Int) : Rf × Int := if id ∉ r.D then (r, 6) else if r.st id ≠ 0 ∨ 0 < (rowF r.S id).length then (r, 12) else (setF r id 2, 0)
def addF (r : Rf) (u : Sn) : Rf := { r with S := r.S ++ [u] }
def offerF (r : Rf) (to : Int) (o : Off) : Rf × Int :=
  if to ∉ r.D ∨ o.fr ∉ r.D then (r, 6) else if o.fr = to then (r, 1) else if r.st o.fr ≠ 0 then (r, 12) else (addF (setF r o.fr 1) ⟨to, o⟩, 0)
def takeF (r : Rf) (to : Int) : Rf × Off × Int × Int :=
  if to ∉ r.D then (r, o0, 0, 6) else if r.st to ≠ 0 ∧ r.st to ≠ 2 then (r, o0, 0, 12) else
  match rowF r.S to with
  | [] => (r, o0, 0, 6)
  | o :: _ => if o.cl = true then (setF (setC (setF (setF (setF (offF r o.fr) to 0) o.fr 0) (r.cl to) 0) to o.fr) o.fr 3, o, r.cl to, 0) else (setF (setF (offF r o.fr) to 0) o.fr 0, o, -1, 0)
def answerF (r : Rf) (id : Int) : Rf × Int × Int :=
  if id ∉ r.D then (r, 0, 6) else if r.st id ≠ 0 then (r, 0, 12) else if r.cl id < 0 then (r, 0, 6) else (setF (setC r id (-1)) (r.cl id) 0, r.cl id, 0)
def clrF (r : Rf) (id : Int) (E : List Int) : Rf := { r with cl := fun x => if x ∈ E ∧ r.cl x = id then -1 else r.cl x }
def callF (r : Rf) (id : Int) : Rf × Int :=
  if id ∉ r.D then (r, 6) else if r.st id = 0 then (r, 12) else (setF (clrF (offF r id) id r.D) id 0, 0)
def goF (r : Rf) (x : Int) : Rf := setF (offF r x) x 0
def outF (r : Rf) (id : Int) : List Int := (rowF r.S id).map (·.fr) ++ if 0 ≤ clF r id then [clF r id] else []
def dropF (r : Rf) (id : Int) : Rf := { r with D := r.D.filter fun y => decide (y ≠ id) }
def leaveF (r : Rf) (id : Int) : Rf × List Int × Int :=
  if id ∉ r.D then (r, [], 6) else (dropF ((outF (callF r id).1 id).foldl goF (callF r id).1) id, outF (callF r id).1 id, 0)
def thrF (r : Rf) (g : Int) (D : List Int) : List Int := D.flatMap fun x => goneO (rowF r.S x) (thru g)
def closeF (r : Rf) (g : Int) : Rf × List Int := ((thrF r g r.D).foldl goF r, thrF r g r.D)
theorem goF_D (r : Rf) (x : Int) : (goF r x).D = r.D ∧ (goF r x).S.length ≤ r.S.length := ⟨rfl, List.length_filter_le _ _⟩
theorem fold_D : ∀ (l : List Int) (r : Rf), (l.foldl goF r).D = r.D ∧ (l.foldl goF r).S.length ≤ r.S.length
  | [], _ => ⟨rfl, Nat.le_refl _⟩
  | x :: l, r => by
    obtain ⟨h1, h2⟩ := fold_D l (goF r x)
    obtain ⟨h3, h4⟩ := goF_D r x
    rw [List.foldl_cons]; exact ⟨h1.trans h3, Nat.le_trans h2 h4⟩
theorem call_D (r : Rf) (id : Int) : (callF r id).1.D = r.D ∧ (callF r id).1.S.length ≤ r.S.length := by
  rw [callF]; split
  · exact ⟨rfl, Nat.le_refl _⟩
  · split
    · exact ⟨rfl, Nat.le_refl _⟩
    · exact ⟨rfl, List.length_filter_le _ _⟩
theorem fold_snoc {l : List Int} {k : Nat} {x : Int} (h : l[k]? = some x) (r : Rf) : (l.take (k + 1)).foldl goF r = goF ((l.take k).foldl goF r) x := by
  rw [List.take_add_one, h, Option.toList, List.foldl_append]; rfl
theorem thrF_snoc {r : Rf} {g : Int} {D : List Int} {k : Nat} {x : Int} (hx : D[k]? = some x) : thrF r g (D.take (k + 1)) = thrF r g (D.take k) ++ goneO (rowF r.S x) (thru g) := by
  rw [thrF, thrF, List.take_add_one, hx, Option.toList, List.flatMap_append, List.flatMap_cons, List.flatMap_nil, List.append_nil]
theorem thrF_len {r : Rf} {g : Int} {b : Nat} : ∀ {D : List Int}, (∀ x ∈ D, (rowF r.S x).length ≤ b) → (thrF r g D).length ≤ b * D.length
  | [], _ => Nat.zero_le _
  | x :: D, h => by
    have h1 := thrF_len (g := g) (D := D) fun y hy => h y (by simp [hy])
    have h2 := h x (by simp)
    have h3 := gone_len (rowF r.S x) (thru g)
    have e : thrF r g (x :: D) = goneO (rowF r.S x) (thru g) ++ thrF r g D := by rw [thrF, thrF, List.flatMap_cons]
    rw [e, List.length_append, List.length_cons, Nat.mul_add]; omega
theorem clr_next {r : Rf} {id : Int} {D : List Int} (hn : D.Nodup) {k : Nat} {x : Int} (hx : D[k]? = some x) : (clrF r id (D.take k)).cl x = r.cl x ∧ (r.cl x = id → clrF r id (D.take (k + 1)) = setC (clrF r id (D.take k)) x (-1)) ∧ (r.cl x ≠ id → clrF r id (D.take (k + 1)) = clrF r id (D.take k)) := by
  have hm : x ∉ D.take k := take_fresh hn hx
  have ht : ∀ y, y ∈ D.take (k + 1) ↔ y ∈ D.take k ∨ y = x := fun y => by rw [List.take_add_one, hx]; simp
  refine ⟨if_neg (fun h => hm h.1), fun h => ?_, fun h => ?_⟩
  · simp only [clrF, setC, Rf.mk.injEq, true_and, and_true]
    funext y
    by_cases e2 : y = x
    · rw [e2, updI_same, if_pos ⟨(ht x).2 (.inr rfl), h⟩]
    · rw [updI_ne e2]
      by_cases h3 : y ∈ D.take k ∧ r.cl y = id
      · rw [if_pos h3, if_pos ⟨(ht y).2 (.inl h3.1), h3.2⟩]
      · rw [if_neg h3, if_neg (fun h4 => h3 ⟨((ht y).1 h4.1).resolve_right e2, h4.2⟩)]
  · simp only [clrF, Rf.mk.injEq, true_and, and_true]
    funext y
    by_cases h3 : y ∈ D.take k ∧ r.cl y = id
    · rw [if_pos h3, if_pos ⟨(ht y).2 (.inl h3.1), h3.2⟩]
    · rw [if_neg h3, if_neg]
      rintro ⟨h4, h5⟩
      rcases (ht y).1 h4 with h6 | h6
      · exact h3 ⟨h6, h5⟩
      · rw [h6] at h5; exact h h5
theorem ths_cl {r : Rf} (hn : r.D.Nodup) {i : Nat} {id : Int} (hi : r.D[i]? = some id) {o : Nat} (ho : o = i * 3 + 2) (v : Int) : splice o [.int .i64 v] (thsC r) = thsC (setC r id v) :=
  ths_set (r' := setC r id v) hn rfl hi ho (by rw [thC, thC]; dsimp only [setC]; rw [updI_same]; rfl) (by decide) (fun x _ hx => by rw [thC, thC]; dsimp only [setC]; rw [updI_ne hx])

set_option maxRecDepth 4000 in
theorem rpartner_ok (b : Nat) (r : Rf) (hd : r.D.length ≤ 1000) (hs : r.S.length ≤ 100000) (id : Int) : FSpec Try.prog 29 [.pointer (some ⟨b, 0, none⟩), .int .i64 id] (fun F => ent F (isRm b r)) [] (fun _ : Unit => .int .i64 (prF r id)) (fun _ => True) (fun _ => []) := by
  refine FSpec.intro (rs := [.tmp 4]) (by kernel_rfl) Try.func29 rfl Try.ntmps29 (by rfl) rfl ?_
  intro F hF
  change TC _ _ _ _ _ _ _ (sepL [_])
  refine TC.openR hF (fun x0 hx0 => ?_)
  obtain ⟨⟨a1, c1⟩, ⟨a2, c2⟩⟩ := x0
  clear hx0
  dsimp only
  have hil := thsC_length r
  have hsl := snsC_length r.S
  refine TC.seq ?_
  refine TC.region ?_
  refine q rfl rfl (asg (v := .int _ _) rfl) ?_
  refine TL.nil (nt ?_)
  refine TC.seq ?_
  refine TC.seq ?_
  refine TC.region ?_
  refine q rfl rfl (asg (v := .int _ _) rfl) ?_
  refine TL.nil (nt ?_)
  refine TC.block ?_
  refine TC.loop (ι := Nat) (fun i => i ≤ r.S.length ∧ ∀ j t, j < i → r.S[j]? = some t → t.o.fr ≠ id) (fun i => [(0, .pointer (some ⟨b, 0, none⟩)), (1, .int .i64 id), (5, .int .i64 ((i : Nat) : Int))]) (fun i => sepL [restr F (sepL [pts b 60 [.slice a1 r.D.length c1, .slice a2 r.S.length c2], slc 65 3 a1 r.D.length c1 (thsC r), slc 95 4 a2 r.S.length c2 (snsC r.S)])]) (fun i => r.S.length - i) 0 ⟨Nat.zero_le _, by intro j t h; omega⟩ ⟨rfl, rfl, rfl, trivial⟩ (ent_take 0 rfl (ent_nil _)) ?_
  rintro k ⟨hk, hno⟩ ρ0
  dsimp only [updL] at hk hno ⊢
  refine TC.seq ?_
  refine TC.seq ?_
  refine TC.region ?_
  refine q rfl rfl (mv (v := .int _ _) rfl) ?_
  refine q rfl rfl (mv (v := .pointer _) rfl) ?_
  first | refine q rfl rfl (nc rfl) ?_ | refine q rfl rfl (ncF rfl) ?_ | refine q rfl rfl (ncS rfl (by first | assumption | (simp [ints_length] <;> omega))) ?_
  first | refine q rfl rfl (fa 1 rfl rfl) ?_ | refine q rfl rfl (faS 1 rfl rfl (by first | assumption | (simp [ints_length] <;> omega))) ?_
  first | refine q rfl rfl (ld rfl rfl rfl) ?_ | refine q rfl rfl (ldS rfl rfl rfl) ?_
  refine q rfl rfl (len 95 4 rfl rfl) ?_
  refine q rfl rfl (lss rfl rfl) ?_
  refine TL.nil (nt ?_)
  first | refine TC.condD rfl (fun hlt => ?_) (fun hlt => ?_) | refine TC.cond rfl (fun hlt => ?_) (fun hlt => ?_)
  · have hlt2 : k < r.S.length := by omega
    obtain ⟨u, hu⟩ : ∃ u, r.S[k]? = some u := ⟨r.S[k], List.getElem?_eq_getElem hlt2⟩
    have hpos : 0 < (snsC r.S).length := by omega
    refine TC.skip (nt ?_)
    refine TC.seq ?_
    refine TC.block ?_
    refine TC.seq ?_
    refine TC.region ?_
    refine q rfl rfl (mv (v := .pointer _) rfl) ?_
    first | refine q rfl rfl (nc rfl) ?_ | refine q rfl rfl (ncF rfl) ?_ | refine q rfl rfl (ncS rfl (by first | assumption | (simp [ints_length] <;> omega))) ?_
    first | refine q rfl rfl (fa 1 rfl rfl) ?_ | refine q rfl rfl (faS 1 rfl rfl (by first | assumption | (simp [ints_length] <;> omega))) ?_
    first | refine q rfl rfl (ld rfl rfl rfl) ?_ | refine q rfl rfl (ldS rfl rfl (flat_ld snC_sz hu 1 (by omega) rfl)) ?_ | refine q rfl rfl (ldS rfl rfl rfl) ?_
    refine q rfl rfl (mv (v := .int _ _) rfl) ?_
    first | refine q rfl rfl (ixS 95 4 rfl rfl rfl (by omega) (by first | assumption | (simp [ints_length] <;> omega))) ?_ | refine q rfl rfl (ixJ 95 4 rfl rfl rfl (by omega) (by omega) (by first | assumption | (simp [ints_length] <;> omega))) ?_ | refine q rfl rfl (ix 95 4 rfl rfl rfl (by omega) (by omega) rfl) ?_
    first | refine q rfl rfl (fa 1 rfl rfl) ?_ | refine q rfl rfl (faS 1 rfl rfl (by first | assumption | (simp [ints_length] <;> omega))) ?_
    first | refine q rfl rfl (fa 0 rfl rfl) ?_ | refine q rfl rfl (faS 0 rfl rfl (by first | assumption | (simp [ints_length] <;> omega))) ?_
    first | refine q rfl rfl (ld rfl rfl rfl) ?_ | refine q rfl rfl (ldS rfl rfl (flat_ld snC_sz hu 1 (by omega) rfl)) ?_ | refine q rfl rfl (ldS rfl rfl rfl) ?_
    refine q rfl rfl (mv (v := .int _ _) rfl) ?_
    refine q rfl rfl (eqI rfl rfl) ?_
    refine TL.nil (nt ?_)
    first | refine TC.condD rfl (fun he => ?_) (fun he => ?_) | refine TC.cond rfl (fun he => ?_) (fun he => ?_)
    · have hfx := findIdx_at (p := fun u : Sn => decide (u.o.fr = id)) hu (by simpa using he) (fun j t hj ht => by simpa using hno j t hj ht)
      obtain ⟨v, h1, h2⟩ := find_of_findIdx hfx
      rw [hu] at h1; cases h1
      have hr : prF r id = u.to := by rw [prF, h2]
      refine TC.seq ?_
      refine TC.region ?_
      refine q rfl rfl (mv (v := .pointer _) rfl) ?_
      first | refine q rfl rfl (nc rfl) ?_ | refine q rfl rfl (ncF rfl) ?_ | refine q rfl rfl (ncS rfl (by first | assumption | (simp [ints_length] <;> omega))) ?_
      first | refine q rfl rfl (fa 1 rfl rfl) ?_ | refine q rfl rfl (faS 1 rfl rfl (by first | assumption | (simp [ints_length] <;> omega))) ?_
      first | refine q rfl rfl (ld rfl rfl rfl) ?_ | refine q rfl rfl (ldS rfl rfl (flat_ld snC_sz hu 0 (by omega) rfl)) ?_ | refine q rfl rfl (ldS rfl rfl rfl) ?_
      refine q rfl rfl (mv (v := .int _ _) rfl) ?_
      first | refine q rfl rfl (ixS 95 4 rfl rfl rfl (by omega) (by first | assumption | (simp [ints_length] <;> omega))) ?_ | refine q rfl rfl (ixJ 95 4 rfl rfl rfl (by omega) (by omega) (by first | assumption | (simp [ints_length] <;> omega))) ?_ | refine q rfl rfl (ix 95 4 rfl rfl rfl (by omega) (by omega) rfl) ?_
      first | refine q rfl rfl (fa 0 rfl rfl) ?_ | refine q rfl rfl (faS 0 rfl rfl (by first | assumption | (simp [ints_length] <;> omega))) ?_
      first | refine q rfl rfl (ld rfl rfl rfl) ?_ | refine q rfl rfl (ldS rfl rfl (flat_ld snC_sz hu 0 (by omega) rfl)) ?_ | refine q rfl rfl (ldS rfl rfl rfl) ?_
      refine q rfl rfl (asg (v := .int _ _) rfl) ?_
      refine TL.nil (nt ?_)
      refine TC.ret (rb (rt (rt (rb (rt ?_)))))
      exact Ret.i () [_] ⟨rfl, trivial⟩ (by rw [hr]; rfl) trivial (ent_takeF 0 rfl (ent_nil _))
    · refine TC.skip (nb (nt ?_))
      refine TC.region ?_
      refine q rfl rfl (mv (v := .int _ _) rfl) ?_
      first | refine q rfl rfl (addI rfl rfl (by omega) (by omega)) ?_ | refine q rfl rfl (add rfl rfl rfl) ?_
      refine q rfl rfl (asg (v := .int _ _) rfl) ?_
      refine TL.nil (nt ?_)
      exact ⟨rfl, (k + 1), ⟨by omega, fun j t hj ht => by rcases Nat.lt_succ_iff_lt_or_eq.1 hj with h | h; exact hno j t h ht; subst h; rw [hu] at ht; cases ht; exact he⟩, (by omega), ⟨rfl, rfl, rfl, trivial⟩, (ent_take 0 rfl (ent_nil _))⟩
  · have hnone : r.S.find? (fun u => decide (u.o.fr = id)) = none := by
      rw [List.find?_eq_none]; intro u hu; simp only [decide_eq_true_eq]
      obtain ⟨j, hj⟩ := List.getElem?_of_mem hu
      exact hno j u (by have := (List.getElem?_eq_some_iff.1 hj).1; omega) hj
    clear hno hk
    refine TC.exit (et (et (eb (nt ?_))))
    refine TC.seq ?_
    refine TC.seq ?_
    refine TC.region ?_
    refine q rfl rfl (asg (v := .int _ _) rfl) ?_
    refine TL.nil (nt ?_)
    refine TC.block ?_
    refine TC.loop (ι := Nat) (fun i => i ≤ r.D.length ∧ ∀ j t, j < i → r.D[j]? = some t → ¬ (0 ≤ id ∧ r.cl t = id)) (fun i => [(0, .pointer (some ⟨b, 0, none⟩)), (1, .int .i64 id), (6, .int .i64 ((i : Nat) : Int))]) (fun i => sepL [restr F (sepL [pts b 60 [.slice a1 r.D.length c1, .slice a2 r.S.length c2], slc 65 3 a1 r.D.length c1 (thsC r), slc 95 4 a2 r.S.length c2 (snsC r.S)])]) (fun i => r.D.length - i) 0 ⟨Nat.zero_le _, by intro j t h; omega⟩ ⟨rfl, rfl, rfl, trivial⟩ (ent_take 0 rfl (ent_nil _)) ?_
    rintro k ⟨hk, hno⟩ ρ1
    dsimp only [updL] at hk hno ⊢
    refine TC.seq ?_
    refine TC.seq ?_
    refine TC.region ?_
    refine q rfl rfl (mv (v := .int _ _) rfl) ?_
    refine q rfl rfl (mv (v := .pointer _) rfl) ?_
    first | refine q rfl rfl (nc rfl) ?_ | refine q rfl rfl (ncF rfl) ?_ | refine q rfl rfl (ncS rfl (by first | assumption | (simp [ints_length] <;> omega))) ?_
    first | refine q rfl rfl (fa 0 rfl rfl) ?_ | refine q rfl rfl (faS 0 rfl rfl (by first | assumption | (simp [ints_length] <;> omega))) ?_
    first | refine q rfl rfl (ld rfl rfl rfl) ?_ | refine q rfl rfl (ldS rfl rfl rfl) ?_
    refine q rfl rfl (len 65 3 rfl rfl) ?_
    refine q rfl rfl (lss rfl rfl) ?_
    refine TL.nil (nt ?_)
    first | refine TC.condD rfl (fun hlt => ?_) (fun hlt => ?_) | refine TC.cond rfl (fun hlt => ?_) (fun hlt => ?_)
    · have hlt2 : k < r.D.length := by omega
      obtain ⟨x, hx⟩ : ∃ x, r.D[k]? = some x := ⟨r.D[k], List.getElem?_eq_getElem hlt2⟩
      have hpos : 0 < (thsC r).length := by omega
      refine TC.skip (nt ?_)
      refine TC.seq ?_
      refine TC.block ?_
      refine TC.seq ?_
      refine TC.region ?_
      refine q rfl rfl (mv (v := .int _ _) rfl) ?_
      refine q rfl rfl (geq rfl rfl) ?_
      refine q rfl rfl (mv (v := .bool _) rfl) ?_
      refine TL.split 46 rfl (fun h0 => ?_) (fun h0 => ?_)
      · have h0 := of_decide_eq_true h0
        refine qg rfl rfl rfl (mv (v := .pointer _) rfl) ?_
        first | refine qg rfl rfl rfl (nc rfl) ?_ | refine qg rfl rfl rfl (ncF rfl) ?_ | refine qg rfl rfl rfl (ncS rfl (by first | assumption | (simp [ints_length] <;> omega))) ?_
        first | refine qg rfl rfl rfl (fa 0 rfl rfl) ?_ | refine qg rfl rfl rfl (faS 0 rfl rfl (by first | assumption | (simp [ints_length] <;> omega))) ?_
        first | refine qg rfl rfl rfl (ld rfl rfl rfl) ?_ | refine qg rfl rfl rfl (ldS rfl rfl (flat_ld (thC_sz r) hx 2 (by omega) rfl)) ?_ | refine qg rfl rfl rfl (ldS rfl rfl rfl) ?_
        refine qg rfl rfl rfl (mv (v := .int _ _) rfl) ?_
        first | refine qg rfl rfl rfl (ixS 65 3 rfl rfl rfl (by omega) (by first | assumption | (simp [ints_length] <;> omega))) ?_ | refine qg rfl rfl rfl (ixJ 65 3 rfl rfl rfl (by omega) (by omega) (by first | assumption | (simp [ints_length] <;> omega))) ?_ | refine qg rfl rfl rfl (ix 65 3 rfl rfl rfl (by omega) (by omega) rfl) ?_
        first | refine qg rfl rfl rfl (fa 2 rfl rfl) ?_ | refine qg rfl rfl rfl (faS 2 rfl rfl (by first | assumption | (simp [ints_length] <;> omega))) ?_
        first | refine qg rfl rfl rfl (ld rfl rfl rfl) ?_ | refine qg rfl rfl rfl (ldS rfl rfl (flat_ld (thC_sz r) hx 2 (by omega) rfl)) ?_ | refine qg rfl rfl rfl (ldS rfl rfl rfl) ?_
        refine qg rfl rfl rfl (mv (v := .int _ _) rfl) ?_
        refine qg rfl rfl rfl (eqI rfl rfl) ?_
        first | refine q rfl rfl (pkT (v := .bool _) rfl rfl) ?_ | refine q rfl rfl (pkF (v := .bool _) rfl rfl) ?_
        refine TL.nil (nt ?_)
        first | refine TC.condD rfl (fun he => ?_) (fun he => ?_) | refine TC.cond rfl (fun he => ?_) (fun he => ?_)
        · have hfx := findIdx_at (p := fun x : Int => decide (r.cl x = id)) hx (by simpa using he) (fun j t hj ht => by have := hno j t hj ht; simp only [decide_eq_false_iff_not]; exact fun h => this ⟨h0, h⟩)
          obtain ⟨v, h1, h2⟩ := find_of_findIdx hfx
          rw [hx] at h1; cases h1
          have hr : prF r id = x := by rw [prF, hnone]; dsimp only; rw [if_pos h0, h2]
          refine TC.seq ?_
          refine TC.region ?_
          refine q rfl rfl (mv (v := .pointer _) rfl) ?_
          first | refine q rfl rfl (nc rfl) ?_ | refine q rfl rfl (ncF rfl) ?_ | refine q rfl rfl (ncS rfl (by first | assumption | (simp [ints_length] <;> omega))) ?_
          first | refine q rfl rfl (fa 0 rfl rfl) ?_ | refine q rfl rfl (faS 0 rfl rfl (by first | assumption | (simp [ints_length] <;> omega))) ?_
          first | refine q rfl rfl (ld rfl rfl rfl) ?_ | refine q rfl rfl (ldS rfl rfl (flat_ld (thC_sz r) hx 0 (by omega) rfl)) ?_ | refine q rfl rfl (ldS rfl rfl rfl) ?_
          refine q rfl rfl (mv (v := .int _ _) rfl) ?_
          first | refine q rfl rfl (ixS 65 3 rfl rfl rfl (by omega) (by first | assumption | (simp [ints_length] <;> omega))) ?_ | refine q rfl rfl (ixJ 65 3 rfl rfl rfl (by omega) (by omega) (by first | assumption | (simp [ints_length] <;> omega))) ?_ | refine q rfl rfl (ix 65 3 rfl rfl rfl (by omega) (by omega) rfl) ?_
          first | refine q rfl rfl (fa 0 rfl rfl) ?_ | refine q rfl rfl (faS 0 rfl rfl (by first | assumption | (simp [ints_length] <;> omega))) ?_
          first | refine q rfl rfl (ld rfl rfl rfl) ?_ | refine q rfl rfl (ldS rfl rfl (flat_ld (thC_sz r) hx 0 (by omega) rfl)) ?_ | refine q rfl rfl (ldS rfl rfl rfl) ?_
          refine q rfl rfl (asg (v := .int _ _) rfl) ?_
          refine TL.nil (nt ?_)
          refine TC.ret (rb (rt (rt (rb (rt ?_)))))
          exact Ret.i () [_] ⟨rfl, trivial⟩ (by rw [hr]; rfl) trivial (ent_takeF 0 rfl (ent_nil _))
        · have hn2 : ¬ (0 ≤ id ∧ r.cl x = id) := fun h => he h.2
          refine TC.skip (nb (nt ?_))
          refine TC.region ?_
          refine q rfl rfl (mv (v := .int _ _) rfl) ?_
          first | refine q rfl rfl (addI rfl rfl (by omega) (by omega)) ?_ | refine q rfl rfl (add rfl rfl rfl) ?_
          refine q rfl rfl (asg (v := .int _ _) rfl) ?_
          refine TL.nil (nt ?_)
          exact ⟨rfl, (k + 1), ⟨by omega, fun j t hj ht => by rcases Nat.lt_succ_iff_lt_or_eq.1 hj with h | h; exact hno j t h ht; subst h; rw [hx] at ht; cases ht; exact hn2⟩, (by omega), ⟨rfl, rfl, rfl, trivial⟩, (ent_take 0 rfl (ent_nil _))⟩
      · have h0 := of_decide_eq_false h0
        have hn2 : ¬ (0 ≤ id ∧ r.cl x = id) := fun h => h0 h.1
        refine qs rfl rfl ?_
        refine qs rfl rfl ?_
        refine qs rfl rfl ?_
        refine qs rfl rfl ?_
        refine qs rfl rfl ?_
        refine qs rfl rfl ?_
        refine qs rfl rfl ?_
        refine qs rfl rfl ?_
        refine qs rfl rfl ?_
        refine qs rfl rfl ?_
        first | refine q rfl rfl (pkT (v := .bool _) rfl rfl) ?_ | refine q rfl rfl (pkF (v := .bool _) rfl rfl) ?_
        refine TL.nil (nt ?_)
        refine TC.condF rfl ?_
        refine TC.skip (nb (nt ?_))
        refine TC.region ?_
        refine q rfl rfl (mv (v := .int _ _) rfl) ?_
        first | refine q rfl rfl (addI rfl rfl (by omega) (by omega)) ?_ | refine q rfl rfl (add rfl rfl rfl) ?_
        refine q rfl rfl (asg (v := .int _ _) rfl) ?_
        refine TL.nil (nt ?_)
        exact ⟨rfl, (k + 1), ⟨by omega, fun j t hj ht => by rcases Nat.lt_succ_iff_lt_or_eq.1 hj with h | h; exact hno j t h ht; subst h; rw [hx] at ht; cases ht; exact hn2⟩, (by omega), ⟨rfl, rfl, rfl, trivial⟩, (ent_take 0 rfl (ent_nil _))⟩
    · have hr : prF r id = -1 := by
        rw [prF, hnone]; dsimp only
        by_cases h0 : 0 ≤ id
        · rw [if_pos h0]
          have : r.D.find? (fun x => decide (r.cl x = id)) = none := by
            rw [List.find?_eq_none]; intro x hx; simp only [decide_eq_true_eq]
            obtain ⟨j, hj⟩ := List.getElem?_of_mem hx
            exact fun h => hno j x (by have := (List.getElem?_eq_some_iff.1 hj).1; omega) hj ⟨h0, h⟩
          rw [this]
        · rw [if_neg h0]
      refine TC.exit (et (et (eb (nt ?_))))
      refine TC.seq ?_
      refine TC.region ?_
      refine q rfl rfl (asg (v := .int _ _) rfl) ?_
      refine TL.nil (nt ?_)
      refine TC.ret ?_
      exact Ret.i () [_] ⟨rfl, trivial⟩ (by rw [hr]; rfl) trivial (ent_takeF 0 rfl (ent_nil _))

set_option maxRecDepth 4000 in
theorem ropen_ok (b : Nat) (r : Rf) (hd : r.D.length ≤ 1000) (hs : r.S.length ≤ 100000) (hn : r.D.Nodup) (id : Int) : FSpec Try.prog 45 [.pointer (some ⟨b, 0, none⟩), .int .i64 id] noRd [isRm b r] (fun _ : Unit => .int .i64 (openF r id).2) (fun _ => True) (fun _ => [isRm b (openF r id).1]) := by
  refine FSpec.intro (rs := [.tmp 4]) (by kernel_rfl) Try.func45 rfl Try.ntmps45 (by rfl) rfl ?_
  intro F _
  change TC _ _ _ _ _ _ _ (sepL [_, _])
  refine TC.seq ?_
  refine TC.region ?_
  refine q rfl rfl (asg (v := .int _ _) rfl) ?_
  refine TL.nil (nt ?_)
  refine TC.seq ?_
  refine TC.seq ?_
  refine TC.region ?_
  refine q rfl rfl (mv (v := .pointer _) rfl) ?_
  refine q rfl rfl (mv (v := .int _ _) rfl) ?_
  refine e rfl ?_
  refine cl (rat_ok b r hd hs id) rfl (picked_nil _) (ent_one 0 rfl) ?_
  intro _ _
  change TL _ _ _ _ _ _ _ _ (sepL [_, _])
  by_cases hy : id ∈ r.D
  · obtain ⟨i, h1, h2⟩ := atD_yes hy
    rw [h1]
    have hh : ¬ id ∉ r.D := fun h => h hy
    have hst : stF r id = r.st id := if_pos hy
    refine q rfl rfl (lss rfl rfl) ?_
    refine TL.nil (nt ?_)
    refine TC.condD rfl (fun hc2 => absurd hc2 (by omega)) (fun hc2 => ?_)
    refine TC.skip (nt ?_)
    refine TC.seq ?_
    refine TC.seq ?_
    refine TC.region ?_
    refine q rfl rfl (mv (v := .pointer _) rfl) ?_
    refine q rfl rfl (mv (v := .int _ _) rfl) ?_
    refine e rfl ?_
    refine cl (rstate_ok b r hd hs id) rfl (picked_nil _) (ent_one 0 rfl) ?_
    intro _ _
    change TL _ _ _ _ _ _ _ _ (sepL [_, _])
    rw [hst]
    refine q rfl rfl (neI rfl rfl) ?_
    refine q rfl rfl (mv (v := .bool _) rfl) ?_
    refine TL.split 13 rfl (fun h0 => ?_) (fun h0 => ?_)
    · have h0 := of_decide_eq_true h0
      rw [show openF r id = (r, 12) from by rw [openF, if_neg hh, if_pos (.inl h0)]]
      refine qs rfl rfl ?_
      refine qs rfl rfl ?_
      refine qs rfl rfl ?_
      refine qs rfl rfl ?_
      refine qs rfl rfl ?_
      first | refine q rfl rfl (pkT (v := .bool _) rfl rfl) ?_ | refine q rfl rfl (pkF (v := .bool _) rfl rfl) ?_
      refine TL.nil (nt ?_)
      refine TC.condT rfl ?_
      refine TC.seq ?_
      refine TC.region ?_
      refine q rfl rfl (asg (v := .int _ _) rfl) ?_
      refine TL.nil (nt ?_)
      refine TC.ret (rt ?_)
      exact Ret.i () [_] ⟨rfl, trivial⟩ rfl trivial (ent_take 0 rfl (ent_take 0 rfl (ent_nil _)))
    · have h0 := of_decide_eq_false h0
      refine qg rfl rfl rfl (mv (v := .pointer _) rfl) ?_
      refine qg rfl rfl rfl (mv (v := .int _ _) rfl) ?_
      refine eg rfl rfl ?_
      refine cl (rrow_ok b r hd hs id) rfl (picked_nil _) (ent_one 0 rfl) ?_
      intro yr _
      change TL _ _ _ _ _ _ _ _ (sepL [_, _, _])
      refine qg rfl rfl rfl (len 31 3 rfl rfl) ?_
      refine qg rfl rfl rfl (gtr rfl rfl) ?_
      first | refine q rfl rfl (pkT (v := .bool _) rfl rfl) ?_ | refine q rfl rfl (pkF (v := .bool _) rfl rfl) ?_
      refine TL.nil (nt ?_)
      first | refine TC.condD rfl (fun hr => ?_) (fun hr => ?_) | refine TC.cond rfl (fun hr => ?_) (fun hr => ?_)
      · rw [show openF r id = (r, 12) from by rw [openF, if_neg hh, if_pos (.inr (by omega))]]
        refine TC.seq ?_
        refine TC.region ?_
        refine q rfl rfl (asg (v := .int _ _) rfl) ?_
        refine TL.nil (nt ?_)
        refine TC.ret (rt ?_)
        exact Ret.i () [_] ⟨rfl, trivial⟩ rfl trivial (ent_take 1 rfl (ent_take 1 rfl (ent_nil _)))
      · rw [show openF r id = (setF r id 2, 0) from by rw [openF, if_neg hh, if_neg (fun h => h.elim (fun h => h0 h) (fun h => hr (by omega)))]]
        refine TC.skip (nt ?_)
        refine TC.seq ?_
        refine TC.region ?_
        refine q rfl rfl (mv (v := .pointer _) rfl) ?_
        refine q rfl rfl (mv (v := .int _ _) rfl) ?_
        refine e rfl ?_
        refine cl (rset_ok b r hd hs hn id 2) rfl PkL.p trivial ?_
        intro _ _
        change TL _ _ _ _ _ _ _ _ (sepL [_, _, _])
        refine TL.nil (nt ?_)
        refine TC.seq ?_
        refine TC.region ?_
        refine q rfl rfl (asg (v := .int _ _) rfl) ?_
        refine TL.nil (nt ?_)
        refine TC.ret ?_
        exact Ret.i () [_] ⟨rfl, trivial⟩ rfl trivial (by repeat (first | exact ent_nil _ | refine ent_take 0 rfl ?_ | refine ent_take 1 rfl ?_ | refine ent_take 2 rfl ?_ | refine ent_take 3 rfl ?_ | refine ent_take 4 rfl ?_ | refine ent_take 5 rfl ?_ | refine ent_take 6 rfl ?_ | refine ent_take 7 rfl ?_ | refine ent_take 8 rfl ?_ | refine ent_take 9 rfl ?_ | refine ent_take 10 rfl ?_ | refine ent_take 11 rfl ?_ | refine ent_take 12 rfl ?_))
  · rw [atD_no hy, show openF r id = (r, 6) from if_pos hy]
    refine q rfl rfl (lss rfl rfl) ?_
    refine TL.nil (nt ?_)
    refine TC.condD rfl (fun hc1 => ?_) (fun hc1 => absurd (by decide) hc1)
    refine TC.seq ?_
    refine TC.region ?_
    refine q rfl rfl (asg (v := .int _ _) rfl) ?_
    refine TL.nil (nt ?_)
    refine TC.ret (rt ?_)
    exact Ret.i () [_] ⟨rfl, trivial⟩ rfl trivial (ent_take 0 rfl (ent_take 0 rfl (ent_nil _)))

set_option maxRecDepth 4000 in
set_option maxHeartbeats 2000000 in
theorem roffer_ok (b : Nat) (r : Rf) (hd : r.D.length ≤ 1000) (hs : r.S.length ≤ 100000) (hn : r.D.Nodup) (to : Int) (o : Off) : FSpec Try.prog 44 [.pointer (some ⟨b, 0, none⟩), .int .i64 to, .agg (ofC o).toArray] noRd [isRm b r] (fun _ : Unit => .int .i64 (offerF r to o).2) (fun _ => True) (fun _ => [isRm b (offerF r to o).1]) := by
  refine FSpec.intro (rs := [.tmp 6]) (by kernel_rfl) Try.func44 rfl Try.ntmps44 (by rfl) rfl ?_
  intro F _
  change TC _ _ _ _ _ _ _ (sepL [_, _])
  refine TC.seq ?_
  refine TC.region ?_
  refine e rfl ?_
  refine bx (v := .agg #[_, _, _]) (l := [.int _ _, .int _ _, .bool _]) rfl rfl ?_
  intro b1
  refine q rfl rfl (asg (v := .int _ _) rfl) ?_
  refine TL.nil (nt ?_)
  refine TC.seq ?_
  refine TC.seq ?_
  refine TC.region ?_
  refine q rfl rfl (mv (v := .pointer _) rfl) ?_
  refine q rfl rfl (mv (v := .int _ _) rfl) ?_
  refine e rfl ?_
  refine cl (rat_ok b r hd hs to) rfl (picked_nil _) (ent_one 1 rfl) ?_
  intro _ _
  change TL _ _ _ _ _ _ _ _ (sepL [_, _, _])
  by_cases ht : to ∈ r.D
  · obtain ⟨i, h1, _⟩ := atD_yes ht
    rw [h1]
    refine q rfl rfl (lss rfl rfl) ?_
    refine q rfl rfl (mv (v := .bool _) rfl) ?_
    refine TL.known 11 rfl (c := false) (decide_eq_false (by omega)) ?_
    refine qg rfl rfl rfl (mv (v := .pointer _) rfl) ?_
    first | refine qg rfl rfl rfl (fa 0 rfl rfl) ?_ | refine qg rfl rfl rfl (faS 0 rfl rfl (by first | assumption | (simp [ints_length] <;> omega))) ?_
    first | refine qg rfl rfl rfl (ld rfl rfl rfl) ?_ | refine qg rfl rfl rfl (ldS rfl rfl rfl) ?_
    refine eg rfl rfl ?_
    refine cl (rat_ok b r hd hs o.fr) rfl (picked_nil _) (ent_one 1 rfl) ?_
    intro _ _
    change TL _ _ _ _ _ _ _ _ (sepL [_, _, _])
    by_cases hf : o.fr ∈ r.D
    · obtain ⟨j, h3, _⟩ := atD_yes hf
      rw [h3]
      have hh : ¬ (to ∉ r.D ∨ o.fr ∉ r.D) := fun h => h.elim (fun h => h ht) (fun h => h hf)
      have hst : stF r o.fr = r.st o.fr := if_pos hf
      refine qg rfl rfl rfl (lss rfl rfl) ?_
      first | refine q rfl rfl (pkT (v := .bool _) rfl rfl) ?_ | refine q rfl rfl (pkF (v := .bool _) rfl rfl) ?_
      refine TL.nil (nt ?_)
      refine TC.condD rfl (fun hc4 => absurd hc4 (by omega)) (fun hc4 => ?_)
      refine TC.skip (nt ?_)
      refine TC.seq ?_
      refine TC.seq ?_
      refine TC.region ?_
      first | refine q rfl rfl (fa 0 rfl rfl) ?_ | refine q rfl rfl (faS 0 rfl rfl (by first | assumption | (simp [ints_length] <;> omega))) ?_
      first | refine q rfl rfl (ld rfl rfl rfl) ?_ | refine q rfl rfl (ldS rfl rfl rfl) ?_
      refine q rfl rfl (mv (v := .int _ _) rfl) ?_
      refine q rfl rfl (eqI rfl rfl) ?_
      refine TL.nil (nt ?_)
      first | refine TC.condD rfl (fun he => ?_) (fun he => ?_) | refine TC.cond rfl (fun he => ?_) (fun he => ?_)
      · rw [show offerF r to o = (r, 1) from by rw [offerF, if_neg hh, if_pos he]]
        refine TC.seq ?_
        refine TC.region ?_
        refine q rfl rfl (asg (v := .int _ _) rfl) ?_
        refine TL.nil (nt ?_)
        refine TC.ret (rt ?_)
        exact Ret.i () [_] ⟨rfl, trivial⟩ rfl trivial (by repeat (first | exact ent_nil _ | refine ent_take 0 rfl ?_ | refine ent_take 1 rfl ?_ | refine ent_take 2 rfl ?_ | refine ent_take 3 rfl ?_ | refine ent_take 4 rfl ?_ | refine ent_take 5 rfl ?_ | refine ent_take 6 rfl ?_ | refine ent_take 7 rfl ?_ | refine ent_take 8 rfl ?_ | refine ent_take 9 rfl ?_ | refine ent_take 10 rfl ?_ | refine ent_take 11 rfl ?_ | refine ent_take 12 rfl ?_))
      · refine TC.skip (nt ?_)
        refine TC.seq ?_
        refine TC.seq ?_
        refine TC.region ?_
        refine q rfl rfl (mv (v := .pointer _) rfl) ?_
        first | refine q rfl rfl (fa 0 rfl rfl) ?_ | refine q rfl rfl (faS 0 rfl rfl (by first | assumption | (simp [ints_length] <;> omega))) ?_
        first | refine q rfl rfl (ld rfl rfl rfl) ?_ | refine q rfl rfl (ldS rfl rfl rfl) ?_
        refine e rfl ?_
        refine cl (rstate_ok b r hd hs o.fr) rfl (picked_nil _) (ent_one 1 rfl) ?_
        intro _ _
        change TL _ _ _ _ _ _ _ _ (sepL [_, _, _])
        rw [hst]
        refine q rfl rfl (neI rfl rfl) ?_
        refine TL.nil (nt ?_)
        first | refine TC.condD rfl (fun h0 => ?_) (fun h0 => ?_) | refine TC.cond rfl (fun h0 => ?_) (fun h0 => ?_)
        · rw [show offerF r to o = (r, 12) from by rw [offerF, if_neg hh, if_neg he, if_pos h0]]
          refine TC.seq ?_
          refine TC.region ?_
          refine q rfl rfl (asg (v := .int _ _) rfl) ?_
          refine TL.nil (nt ?_)
          refine TC.ret (rt ?_)
          exact Ret.i () [_] ⟨rfl, trivial⟩ rfl trivial (by repeat (first | exact ent_nil _ | refine ent_take 0 rfl ?_ | refine ent_take 1 rfl ?_ | refine ent_take 2 rfl ?_ | refine ent_take 3 rfl ?_ | refine ent_take 4 rfl ?_ | refine ent_take 5 rfl ?_ | refine ent_take 6 rfl ?_ | refine ent_take 7 rfl ?_ | refine ent_take 8 rfl ?_ | refine ent_take 9 rfl ?_ | refine ent_take 10 rfl ?_ | refine ent_take 11 rfl ?_ | refine ent_take 12 rfl ?_))
        · rw [show offerF r to o = (addF (setF r o.fr 1) ⟨to, o⟩, 0) from by rw [offerF, if_neg hh, if_neg he, if_neg h0]]
          refine TC.skip (nt ?_)
          refine TC.seq ?_
          refine TC.region ?_
          refine q rfl rfl (mv (v := .pointer _) rfl) ?_
          first | refine q rfl rfl (fa 0 rfl rfl) ?_ | refine q rfl rfl (faS 0 rfl rfl (by first | assumption | (simp [ints_length] <;> omega))) ?_
          first | refine q rfl rfl (ld rfl rfl rfl) ?_ | refine q rfl rfl (ldS rfl rfl rfl) ?_
          refine e rfl ?_
          refine cl (rset_ok b r hd hs hn o.fr 1) rfl PkL.p trivial ?_
          intro _ _
          change TL _ _ _ _ _ _ _ _ (sepL [_, _, _])
          refine TL.nil (nt ?_)
          refine TC.seq ?_
          refine TC.open 0 rfl (fun x0 hx0 => ?_)
          obtain ⟨⟨a1, c1⟩, ⟨a2, c2⟩⟩ := x0
          clear hx0
          change TC _ _ _ _ _ _ _ (sepL [_, _, _, _, _])
          dsimp only
          have hil := thsC_length (setF r o.fr 1)
          have hsl := snsC_length (setF r o.fr 1).S
          have hs2 : (setF r o.fr 1).S.length ≤ 100000 := hs
          refine TC.drawF _ [14] 15 rfl (by kernel_rfl) (by kernel_rfl) (ent_take 0 rfl (ent_take 2 rfl (ent_nil _))) ?_
          refine fq (i := 0) rfl rfl rfl (by kernel_rfl) (mv (v := .pointer _) rfl) ?_
          refine fq (i := 2) rfl rfl rfl (by kernel_rfl) (mv (v := .pointer _) rfl) ?_
          first | refine fq (i := 3) rfl rfl rfl (by kernel_rfl) (nc rfl) ?_ | refine fq (i := 3) rfl rfl rfl (by kernel_rfl) (ncF rfl) ?_ | refine fq (i := 3) rfl rfl rfl (by kernel_rfl) (ncS rfl (by first | assumption | (simp [ints_length] <;> omega))) ?_
          first | refine fq (i := 4) rfl rfl rfl (by kernel_rfl) (fa 1 rfl rfl) ?_ | refine fq (i := 4) rfl rfl rfl (by kernel_rfl) (faS 1 rfl rfl (by first | assumption | (simp [ints_length] <;> omega))) ?_
          first | refine fq (i := 5) rfl rfl rfl (by kernel_rfl) (ld rfl rfl rfl) ?_ | refine fq (i := 5) rfl rfl rfl (by kernel_rfl) (ldS rfl rfl rfl) ?_
          refine fq (i := 7) rfl rfl rfl (by kernel_rfl) (mv (v := .int _ _) rfl) ?_
          first | refine fq (i := 8) rfl rfl rfl (by kernel_rfl) (ldN (vs := [_, _, _]) 3 rfl rfl rfl rfl) ?_ | refine fq (i := 8) rfl rfl rfl (by kernel_rfl) (ldSN (vs := [_, _, _]) 3 rfl rfl rfl rfl (by decide)) ?_
          first | refine fq (i := 9) rfl rfl rfl (by kernel_rfl) (bld (cs := [.int _ _, .int _ _, .int _ _, .bool _]) rfl) ?_ | refine fq (i := 9) rfl rfl rfl (by kernel_rfl) (bld (cs := [_, _, _, _]) rfl) ?_
          refine ff (i := 1) (j := 10) rfl rfl rfl rfl (by kernel_rfl) ?_ ?_
          · refine bs (cs := []) rfl ?_
            intro b2
            refine ⟨(by repeat (first | exact ent_nil _ | refine ent_take 0 rfl ?_ | refine ent_take 1 rfl ?_ | refine ent_take 2 rfl ?_ | refine ent_take 3 rfl ?_ | refine ent_take 4 rfl ?_ | refine ent_take 5 rfl ?_ | refine ent_take 6 rfl ?_ | refine ent_take 7 rfl ?_ | refine ent_take 8 rfl ?_ | refine ent_take 9 rfl ?_ | refine ent_take 10 rfl ?_ | refine ent_take 11 rfl ?_ | refine ent_take 12 rfl ?_)), ?_⟩
            refine ff (i := 6) (j := 10) rfl rfl rfl rfl (by kernel_rfl) ?_ ?_
            · refine ap 32 rfl rfl rfl rfl rfl (by omega) (sns_all (setF r o.fr 1).S) (sns_one _) (by omega) (by simp only [maxLen]; omega) ?_
              intro ad1 cap1
              refine ⟨(by repeat (first | exact ent_nil _ | refine ent_take 0 rfl ?_ | refine ent_take 1 rfl ?_ | refine ent_take 2 rfl ?_ | refine ent_take 3 rfl ?_ | refine ent_take 4 rfl ?_ | refine ent_take 5 rfl ?_ | refine ent_take 6 rfl ?_ | refine ent_take 7 rfl ?_ | refine ent_take 8 rfl ?_ | refine ent_take 9 rfl ?_ | refine ent_take 10 rfl ?_ | refine ent_take 11 rfl ?_ | refine ent_take 12 rfl ?_)), ?_⟩
              refine TF.of [(10, true), (11, true), (12, false), (13, false), (14, true)] (by kernel_rfl) rfl ?_
              refine de rfl rfl ?_
              refine bs (cs := [.int _ _, .int _ _, .int _ _, .bool _]) rfl ?_
              intro b3
              refine ⟨(by repeat (first | exact ent_nil _ | refine ent_take 0 rfl ?_ | refine ent_take 1 rfl ?_ | refine ent_take 2 rfl ?_ | refine ent_take 3 rfl ?_ | refine ent_take 4 rfl ?_ | refine ent_take 5 rfl ?_ | refine ent_take 6 rfl ?_ | refine ent_take 7 rfl ?_ | refine ent_take 8 rfl ?_ | refine ent_take 9 rfl ?_ | refine ent_take 10 rfl ?_ | refine ent_take 11 rfl ?_ | refine ent_take 12 rfl ?_)), ?_⟩
              refine de rfl rfl ?_
              refine ap 32 rfl rfl rfl rfl rfl (Nat.le_of_ble_eq_true rfl) (show _ = snsC [⟨to, o⟩] from rfl) rfl (by omega) (by simp only [maxLen]; omega) ?_
              intro ad2 cap2
              refine ⟨(by repeat (first | exact ent_nil _ | refine ent_take 0 rfl ?_ | refine ent_take 1 rfl ?_ | refine ent_take 2 rfl ?_ | refine ent_take 3 rfl ?_ | refine ent_take 4 rfl ?_ | refine ent_take 5 rfl ?_ | refine ent_take 6 rfl ?_ | refine ent_take 7 rfl ?_ | refine ent_take 8 rfl ?_ | refine ent_take 9 rfl ?_ | refine ent_take 10 rfl ?_ | refine ent_take 11 rfl ?_ | refine ent_take 12 rfl ?_)), ?_⟩
              first | refine dq rfl rfl rfl (nc rfl) ?_ | refine dq rfl rfl rfl (ncF rfl) ?_ | refine dq rfl rfl rfl (ncS rfl (by first | assumption | (simp [ints_length] <;> omega))) ?_
              first | refine dq rfl rfl rfl (fa 1 rfl rfl) ?_ | refine dq rfl rfl rfl (faS 1 rfl rfl (by first | assumption | (simp [ints_length] <;> omega))) ?_
              refine dl0 rfl rfl rfl ?_
              refine st (v := .slice _ _ _) (vs := [_]) 1 rfl rfl rfl rfl rfl rfl (Nat.le_of_ble_eq_true rfl) rfl ?_
              refine TD.nil (nt ?_)
              refine TC.seq ?_
              refine TC.region ?_
              refine q rfl rfl (asg (v := .int _ _) rfl) ?_
              refine TL.nil (nt ?_)
              refine TC.ret ?_
              exact Ret.i () [_] ⟨rfl, trivial⟩ rfl trivial (ent_close (⟨(a1, c1), (ad2, cap2)⟩ : (Option Addr × Nat) × (Option Addr × Nat)) trivial (ent_takeE 0 rfl (by simp only [addF, List.length_append, Nat.zero_add, List.length_singleton]; rfl) (by first | exact (ent_take 1 rfl (ent_takeE 0 rfl (by simp only [addF, List.length_append, Nat.zero_add, List.length_singleton, List.nil_append, sns_app]) (by repeat (first | exact ent_nil _ | refine ent_take 0 rfl ?_ | refine ent_take 1 rfl ?_ | refine ent_take 2 rfl ?_ | refine ent_take 3 rfl ?_ | refine ent_take 4 rfl ?_ | refine ent_take 5 rfl ?_ | refine ent_take 6 rfl ?_ | refine ent_take 7 rfl ?_ | refine ent_take 8 rfl ?_ | refine ent_take 9 rfl ?_ | refine ent_take 10 rfl ?_ | refine ent_take 11 rfl ?_ | refine ent_take 12 rfl ?_)))) | exact (ent_take 2 rfl (ent_takeE 0 rfl (by simp only [addF, List.length_append, Nat.zero_add, List.length_singleton, List.nil_append, sns_app]) (by repeat (first | exact ent_nil _ | refine ent_take 0 rfl ?_ | refine ent_take 1 rfl ?_ | refine ent_take 2 rfl ?_ | refine ent_take 3 rfl ?_ | refine ent_take 4 rfl ?_ | refine ent_take 5 rfl ?_ | refine ent_take 6 rfl ?_ | refine ent_take 7 rfl ?_ | refine ent_take 8 rfl ?_ | refine ent_take 9 rfl ?_ | refine ent_take 10 rfl ?_ | refine ent_take 11 rfl ?_ | refine ent_take 12 rfl ?_)))) | exact (ent_take 3 rfl (ent_takeE 0 rfl (by simp only [addF, List.length_append, Nat.zero_add, List.length_singleton, List.nil_append, sns_app]) (by repeat (first | exact ent_nil _ | refine ent_take 0 rfl ?_ | refine ent_take 1 rfl ?_ | refine ent_take 2 rfl ?_ | refine ent_take 3 rfl ?_ | refine ent_take 4 rfl ?_ | refine ent_take 5 rfl ?_ | refine ent_take 6 rfl ?_ | refine ent_take 7 rfl ?_ | refine ent_take 8 rfl ?_ | refine ent_take 9 rfl ?_ | refine ent_take 10 rfl ?_ | refine ent_take 11 rfl ?_ | refine ent_take 12 rfl ?_)))))))
            · refine bs (cs := [.int _ _, .int _ _, .int _ _, .bool _]) rfl ?_
              intro b4
              refine ⟨(by repeat (first | exact ent_nil _ | refine ent_take 0 rfl ?_ | refine ent_take 1 rfl ?_ | refine ent_take 2 rfl ?_ | refine ent_take 3 rfl ?_ | refine ent_take 4 rfl ?_ | refine ent_take 5 rfl ?_ | refine ent_take 6 rfl ?_ | refine ent_take 7 rfl ?_ | refine ent_take 8 rfl ?_ | refine ent_take 9 rfl ?_ | refine ent_take 10 rfl ?_ | refine ent_take 11 rfl ?_ | refine ent_take 12 rfl ?_)), ?_⟩
              refine TF.of [(6, true), (11, true), (12, false), (13, false), (14, true)] (by kernel_rfl) rfl ?_
              refine de rfl rfl ?_
              refine ap 32 rfl rfl rfl rfl rfl (by omega) (sns_all (setF r o.fr 1).S) (sns_one _) (by omega) (by simp only [maxLen]; omega) ?_
              intro ad3 cap3
              refine ⟨(by repeat (first | exact ent_nil _ | refine ent_take 0 rfl ?_ | refine ent_take 1 rfl ?_ | refine ent_take 2 rfl ?_ | refine ent_take 3 rfl ?_ | refine ent_take 4 rfl ?_ | refine ent_take 5 rfl ?_ | refine ent_take 6 rfl ?_ | refine ent_take 7 rfl ?_ | refine ent_take 8 rfl ?_ | refine ent_take 9 rfl ?_ | refine ent_take 10 rfl ?_ | refine ent_take 11 rfl ?_ | refine ent_take 12 rfl ?_)), ?_⟩
              refine de rfl rfl ?_
              refine ap 32 rfl rfl rfl rfl rfl (Nat.le_of_ble_eq_true rfl) (show _ = snsC [⟨to, o⟩] from rfl) rfl (by omega) (by simp only [maxLen]; omega) ?_
              intro ad4 cap4
              refine ⟨(by repeat (first | exact ent_nil _ | refine ent_take 0 rfl ?_ | refine ent_take 1 rfl ?_ | refine ent_take 2 rfl ?_ | refine ent_take 3 rfl ?_ | refine ent_take 4 rfl ?_ | refine ent_take 5 rfl ?_ | refine ent_take 6 rfl ?_ | refine ent_take 7 rfl ?_ | refine ent_take 8 rfl ?_ | refine ent_take 9 rfl ?_ | refine ent_take 10 rfl ?_ | refine ent_take 11 rfl ?_ | refine ent_take 12 rfl ?_)), ?_⟩
              first | refine dq rfl rfl rfl (nc rfl) ?_ | refine dq rfl rfl rfl (ncF rfl) ?_ | refine dq rfl rfl rfl (ncS rfl (by first | assumption | (simp [ints_length] <;> omega))) ?_
              first | refine dq rfl rfl rfl (fa 1 rfl rfl) ?_ | refine dq rfl rfl rfl (faS 1 rfl rfl (by first | assumption | (simp [ints_length] <;> omega))) ?_
              refine dl0 rfl rfl rfl ?_
              refine st (v := .slice _ _ _) (vs := [_]) 1 rfl rfl rfl rfl rfl rfl (Nat.le_of_ble_eq_true rfl) rfl ?_
              refine TD.nil (nt ?_)
              refine TC.seq ?_
              refine TC.region ?_
              refine q rfl rfl (asg (v := .int _ _) rfl) ?_
              refine TL.nil (nt ?_)
              refine TC.ret ?_
              exact Ret.i () [_] ⟨rfl, trivial⟩ rfl trivial (ent_close (⟨(a1, c1), (ad4, cap4)⟩ : (Option Addr × Nat) × (Option Addr × Nat)) trivial (ent_takeE 0 rfl (by simp only [addF, List.length_append, Nat.zero_add, List.length_singleton]; rfl) (by first | exact (ent_take 1 rfl (ent_takeE 0 rfl (by simp only [addF, List.length_append, Nat.zero_add, List.length_singleton, List.nil_append, sns_app]) (by repeat (first | exact ent_nil _ | refine ent_take 0 rfl ?_ | refine ent_take 1 rfl ?_ | refine ent_take 2 rfl ?_ | refine ent_take 3 rfl ?_ | refine ent_take 4 rfl ?_ | refine ent_take 5 rfl ?_ | refine ent_take 6 rfl ?_ | refine ent_take 7 rfl ?_ | refine ent_take 8 rfl ?_ | refine ent_take 9 rfl ?_ | refine ent_take 10 rfl ?_ | refine ent_take 11 rfl ?_ | refine ent_take 12 rfl ?_)))) | exact (ent_take 2 rfl (ent_takeE 0 rfl (by simp only [addF, List.length_append, Nat.zero_add, List.length_singleton, List.nil_append, sns_app]) (by repeat (first | exact ent_nil _ | refine ent_take 0 rfl ?_ | refine ent_take 1 rfl ?_ | refine ent_take 2 rfl ?_ | refine ent_take 3 rfl ?_ | refine ent_take 4 rfl ?_ | refine ent_take 5 rfl ?_ | refine ent_take 6 rfl ?_ | refine ent_take 7 rfl ?_ | refine ent_take 8 rfl ?_ | refine ent_take 9 rfl ?_ | refine ent_take 10 rfl ?_ | refine ent_take 11 rfl ?_ | refine ent_take 12 rfl ?_)))) | exact (ent_take 3 rfl (ent_takeE 0 rfl (by simp only [addF, List.length_append, Nat.zero_add, List.length_singleton, List.nil_append, sns_app]) (by repeat (first | exact ent_nil _ | refine ent_take 0 rfl ?_ | refine ent_take 1 rfl ?_ | refine ent_take 2 rfl ?_ | refine ent_take 3 rfl ?_ | refine ent_take 4 rfl ?_ | refine ent_take 5 rfl ?_ | refine ent_take 6 rfl ?_ | refine ent_take 7 rfl ?_ | refine ent_take 8 rfl ?_ | refine ent_take 9 rfl ?_ | refine ent_take 10 rfl ?_ | refine ent_take 11 rfl ?_ | refine ent_take 12 rfl ?_)))))))
          · refine bs (cs := [.int _ _, .int _ _, .int _ _, .bool _]) rfl ?_
            intro b5
            refine ⟨(by repeat (first | exact ent_nil _ | refine ent_take 0 rfl ?_ | refine ent_take 1 rfl ?_ | refine ent_take 2 rfl ?_ | refine ent_take 3 rfl ?_ | refine ent_take 4 rfl ?_ | refine ent_take 5 rfl ?_ | refine ent_take 6 rfl ?_ | refine ent_take 7 rfl ?_ | refine ent_take 8 rfl ?_ | refine ent_take 9 rfl ?_ | refine ent_take 10 rfl ?_ | refine ent_take 11 rfl ?_ | refine ent_take 12 rfl ?_)), ?_⟩
            refine TF.of [(1, true), (6, true), (11, true), (12, false), (13, false), (14, true)] (by kernel_rfl) rfl ?_
            refine de rfl rfl ?_
            refine bs (cs := []) rfl ?_
            intro b6
            refine ⟨(by repeat (first | exact ent_nil _ | refine ent_take 0 rfl ?_ | refine ent_take 1 rfl ?_ | refine ent_take 2 rfl ?_ | refine ent_take 3 rfl ?_ | refine ent_take 4 rfl ?_ | refine ent_take 5 rfl ?_ | refine ent_take 6 rfl ?_ | refine ent_take 7 rfl ?_ | refine ent_take 8 rfl ?_ | refine ent_take 9 rfl ?_ | refine ent_take 10 rfl ?_ | refine ent_take 11 rfl ?_ | refine ent_take 12 rfl ?_)), ?_⟩
            refine de rfl rfl ?_
            refine ap 32 rfl rfl rfl rfl rfl (by omega) (sns_all (setF r o.fr 1).S) (sns_one _) (by omega) (by simp only [maxLen]; omega) ?_
            intro ad5 cap5
            refine ⟨(by repeat (first | exact ent_nil _ | refine ent_take 0 rfl ?_ | refine ent_take 1 rfl ?_ | refine ent_take 2 rfl ?_ | refine ent_take 3 rfl ?_ | refine ent_take 4 rfl ?_ | refine ent_take 5 rfl ?_ | refine ent_take 6 rfl ?_ | refine ent_take 7 rfl ?_ | refine ent_take 8 rfl ?_ | refine ent_take 9 rfl ?_ | refine ent_take 10 rfl ?_ | refine ent_take 11 rfl ?_ | refine ent_take 12 rfl ?_)), ?_⟩
            refine de rfl rfl ?_
            refine ap 32 rfl rfl rfl rfl rfl (Nat.le_of_ble_eq_true rfl) (show _ = snsC [⟨to, o⟩] from rfl) rfl (by omega) (by simp only [maxLen]; omega) ?_
            intro ad6 cap6
            refine ⟨(by repeat (first | exact ent_nil _ | refine ent_take 0 rfl ?_ | refine ent_take 1 rfl ?_ | refine ent_take 2 rfl ?_ | refine ent_take 3 rfl ?_ | refine ent_take 4 rfl ?_ | refine ent_take 5 rfl ?_ | refine ent_take 6 rfl ?_ | refine ent_take 7 rfl ?_ | refine ent_take 8 rfl ?_ | refine ent_take 9 rfl ?_ | refine ent_take 10 rfl ?_ | refine ent_take 11 rfl ?_ | refine ent_take 12 rfl ?_)), ?_⟩
            first | refine dq rfl rfl rfl (nc rfl) ?_ | refine dq rfl rfl rfl (ncF rfl) ?_ | refine dq rfl rfl rfl (ncS rfl (by first | assumption | (simp [ints_length] <;> omega))) ?_
            first | refine dq rfl rfl rfl (fa 1 rfl rfl) ?_ | refine dq rfl rfl rfl (faS 1 rfl rfl (by first | assumption | (simp [ints_length] <;> omega))) ?_
            refine dl0 rfl rfl rfl ?_
            refine st (v := .slice _ _ _) (vs := [_]) 1 rfl rfl rfl rfl rfl rfl (Nat.le_of_ble_eq_true rfl) rfl ?_
            refine TD.nil (nt ?_)
            refine TC.seq ?_
            refine TC.region ?_
            refine q rfl rfl (asg (v := .int _ _) rfl) ?_
            refine TL.nil (nt ?_)
            refine TC.ret ?_
            exact Ret.i () [_] ⟨rfl, trivial⟩ rfl trivial (ent_close (⟨(a1, c1), (ad6, cap6)⟩ : (Option Addr × Nat) × (Option Addr × Nat)) trivial (ent_takeE 0 rfl (by simp only [addF, List.length_append, Nat.zero_add, List.length_singleton]; rfl) (by first | exact (ent_take 1 rfl (ent_takeE 0 rfl (by simp only [addF, List.length_append, Nat.zero_add, List.length_singleton, List.nil_append, sns_app]) (by repeat (first | exact ent_nil _ | refine ent_take 0 rfl ?_ | refine ent_take 1 rfl ?_ | refine ent_take 2 rfl ?_ | refine ent_take 3 rfl ?_ | refine ent_take 4 rfl ?_ | refine ent_take 5 rfl ?_ | refine ent_take 6 rfl ?_ | refine ent_take 7 rfl ?_ | refine ent_take 8 rfl ?_ | refine ent_take 9 rfl ?_ | refine ent_take 10 rfl ?_ | refine ent_take 11 rfl ?_ | refine ent_take 12 rfl ?_)))) | exact (ent_take 2 rfl (ent_takeE 0 rfl (by simp only [addF, List.length_append, Nat.zero_add, List.length_singleton, List.nil_append, sns_app]) (by repeat (first | exact ent_nil _ | refine ent_take 0 rfl ?_ | refine ent_take 1 rfl ?_ | refine ent_take 2 rfl ?_ | refine ent_take 3 rfl ?_ | refine ent_take 4 rfl ?_ | refine ent_take 5 rfl ?_ | refine ent_take 6 rfl ?_ | refine ent_take 7 rfl ?_ | refine ent_take 8 rfl ?_ | refine ent_take 9 rfl ?_ | refine ent_take 10 rfl ?_ | refine ent_take 11 rfl ?_ | refine ent_take 12 rfl ?_)))) | exact (ent_take 3 rfl (ent_takeE 0 rfl (by simp only [addF, List.length_append, Nat.zero_add, List.length_singleton, List.nil_append, sns_app]) (by repeat (first | exact ent_nil _ | refine ent_take 0 rfl ?_ | refine ent_take 1 rfl ?_ | refine ent_take 2 rfl ?_ | refine ent_take 3 rfl ?_ | refine ent_take 4 rfl ?_ | refine ent_take 5 rfl ?_ | refine ent_take 6 rfl ?_ | refine ent_take 7 rfl ?_ | refine ent_take 8 rfl ?_ | refine ent_take 9 rfl ?_ | refine ent_take 10 rfl ?_ | refine ent_take 11 rfl ?_ | refine ent_take 12 rfl ?_)))))))
    · rw [atD_no hf, show offerF r to o = (r, 6) from if_pos (.inr hf)]
      refine qg rfl rfl rfl (lss rfl rfl) ?_
      first | refine q rfl rfl (pkT (v := .bool _) rfl rfl) ?_ | refine q rfl rfl (pkF (v := .bool _) rfl rfl) ?_
      refine TL.nil (nt ?_)
      refine TC.condD rfl (fun hc3 => ?_) (fun hc3 => absurd (by decide) hc3)
      refine TC.seq ?_
      refine TC.region ?_
      refine q rfl rfl (asg (v := .int _ _) rfl) ?_
      refine TL.nil (nt ?_)
      refine TC.ret (rt ?_)
      exact Ret.i () [_] ⟨rfl, trivial⟩ rfl trivial (by repeat (first | exact ent_nil _ | refine ent_take 0 rfl ?_ | refine ent_take 1 rfl ?_ | refine ent_take 2 rfl ?_ | refine ent_take 3 rfl ?_ | refine ent_take 4 rfl ?_ | refine ent_take 5 rfl ?_ | refine ent_take 6 rfl ?_ | refine ent_take 7 rfl ?_ | refine ent_take 8 rfl ?_ | refine ent_take 9 rfl ?_ | refine ent_take 10 rfl ?_ | refine ent_take 11 rfl ?_ | refine ent_take 12 rfl ?_))
  · rw [atD_no ht, show offerF r to o = (r, 6) from if_pos (.inl ht)]
    refine q rfl rfl (lss rfl rfl) ?_
    refine q rfl rfl (mv (v := .bool _) rfl) ?_
    refine TL.known 11 rfl (c := true) (by decide) ?_
    refine qs rfl rfl ?_
    refine qs rfl rfl ?_
    refine qs rfl rfl ?_
    refine qs rfl rfl ?_
    refine qs rfl rfl ?_
    first | refine q rfl rfl (pkT (v := .bool _) rfl rfl) ?_ | refine q rfl rfl (pkF (v := .bool _) rfl rfl) ?_
    refine TL.nil (nt ?_)
    refine TC.condT rfl ?_
    refine TC.seq ?_
    refine TC.region ?_
    refine q rfl rfl (asg (v := .int _ _) rfl) ?_
    refine TL.nil (nt ?_)
    refine TC.ret (rt ?_)
    exact Ret.i () [_] ⟨rfl, trivial⟩ rfl trivial (by repeat (first | exact ent_nil _ | refine ent_take 0 rfl ?_ | refine ent_take 1 rfl ?_ | refine ent_take 2 rfl ?_ | refine ent_take 3 rfl ?_ | refine ent_take 4 rfl ?_ | refine ent_take 5 rfl ?_ | refine ent_take 6 rfl ?_ | refine ent_take 7 rfl ?_ | refine ent_take 8 rfl ?_ | refine ent_take 9 rfl ?_ | refine ent_take 10 rfl ?_ | refine ent_take 11 rfl ?_ | refine ent_take 12 rfl ?_))

end Go.Proofs.Ytgmniphegombhaa
