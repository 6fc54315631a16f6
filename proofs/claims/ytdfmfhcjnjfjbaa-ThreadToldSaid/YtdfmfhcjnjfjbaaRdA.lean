/-
  Proved here: what functions of this program compute, each as a contract over symbolic states, under the premises that each theorem names (most lines printed by a program of the prover).
-/
import Derived.Test.YtdfmfhcjnjfjbaaProg
import Derived.Test.YtdfmfhcjnjfjbaaQLibN
import Derived.Test.YtdfmfhcjnjfjbaaQLibW
namespace Go.Proofs.Ytdfmfhcjnjfjbaa.Rd
open Go Go.QM
theorem ints_take1 (xs : List Int) (k : Nat) : (ints xs).take (k * 1) = ints (xs.take k) := by simp [ints, List.map_take]
theorem ints_one1 : ∀ (xs : List Int), (ints xs).all Value.oneCell' = true
  | [] => rfl
  | x :: xs => by have := ints_one1 xs; rw [ints] at this ⊢; rw [List.map_cons, List.all_cons, this]; rfl
theorem ints_splice1 {xs : List Int} {i : Nat} (h : i < xs.length) {o : Nat} (ho : o = i * 1) (v : Int) : splice o [.int .i64 v] (ints xs) = ints (xs.set i v) := by
  rw [ho, Nat.mul_one, List.set_eq_take_append_cons_drop, if_pos h]
  simp [splice, ints]
theorem ints_all1 {xs : List Int} {n : Nat} (h : xs.length = n) : (ints xs).take (n * 1) = ints xs := List.take_of_length_le (by rw [ints_length]; omega)
theorem ints_app1 (xs ys : List Int) : ints xs ++ ints ys = ints (xs ++ ys) := by simp [ints]
def notP (pr : Int → Bool) : Int → Bool := fun x => !pr x
structure DelI (xs : List Int) (pr : Int → Bool) (i j : Nat) (ys : List Int) : Prop where
  len : ys.length = xs.length
  ij : i < j
  jn : j ≤ xs.length
  tk : ys.take i = (xs.take j).filter (notP pr)
  dr : ys.drop j = xs.drop j
theorem DelI.start {xs : List Int} {pr : Int → Bool} {k : Nat} (h : xs.findIdx? pr = some k) : DelI xs pr k (k + 1) xs := by
  rw [List.findIdx?_eq_some_iff_getElem] at h
  obtain ⟨hk, hp, hn⟩ := h
  refine ⟨rfl, by omega, hk, ?_, rfl⟩
  rw [List.take_add_one, List.getElem?_eq_getElem hk, List.filter_append]
  have h1 : (xs.take k).filter (notP pr) = xs.take k := List.filter_eq_self.2 fun x hx => by
    obtain ⟨j, hj, rfl⟩ := List.getElem_of_mem hx
    rw [List.length_take] at hj
    have := hn j (by omega)
    rw [List.getElem_take]; simpa [notP] using this
  rw [h1]; simp [notP, hp]
theorem DelI.keep {xs : List Int} {pr : Int → Bool} {i j : Nat} {ys : List Int} (h : DelI xs pr i j ys) (hj : j < xs.length) {x : Int} (hx : xs[j]? = some x) (hp : pr x = false) : DelI xs pr (i + 1) (j + 1) (ys.set i x) where
  len := by rw [List.length_set]; exact h.len
  ij := by have := h.ij; omega
  jn := hj
  tk := by
    have hl := h.len; have hij := h.ij
    rw [List.take_add_one, List.getElem?_set_self (by omega), List.take_add_one, hx, List.filter_append, ← h.tk]
    rw [List.take_set_of_le (Nat.le_refl i)]
    simp [notP, hp]
  dr := by
    have hij := h.ij
    rw [List.drop_set_of_lt (by omega)]
    rw [← List.drop_drop, h.dr, List.drop_drop]
theorem DelI.skip {xs : List Int} {pr : Int → Bool} {i j : Nat} {ys : List Int} (h : DelI xs pr i j ys) (hj : j < xs.length) {x : Int} (hx : xs[j]? = some x) (hp : pr x = true) : DelI xs pr i (j + 1) ys where
  len := h.len
  ij := by have := h.ij; omega
  jn := hj
  tk := by rw [List.take_add_one, hx, List.filter_append, h.tk]; simp [notP, hp]
  dr := by rw [← List.drop_drop, h.dr, List.drop_drop]
theorem DelI.get {xs : List Int} {pr : Int → Bool} {i j : Nat} {ys : List Int} (h : DelI xs pr i j ys) {x : Int} (hx : xs[j]? = some x) : ys[j]? = some x := by
  have h1 : (ys.drop j)[0]? = (xs.drop j)[0]? := by rw [h.dr]
  rw [List.getElem?_drop, List.getElem?_drop] at h1
  exact h1.trans hx
theorem DelI.done {xs : List Int} {pr : Int → Bool} {i : Nat} {ys : List Int} (h : DelI xs pr i xs.length ys) : ys.take i = xs.filter (notP pr) ∧ (xs.filter (notP pr)).length = i := by
  have h1 := h.tk
  rw [List.take_length] at h1
  refine ⟨h1, ?_⟩
  rw [← h1, List.length_take]
  have := h.len; have := h.ij; omega
theorem del_none {xs : List Int} {pr : Int → Bool} (h : xs.findIdx? pr = none) : xs.filter (notP pr) = xs := by
  rw [List.findIdx?_eq_none_iff] at h
  exact List.filter_eq_self.2 fun x hx => by simp [notP, h x hx]

set_option maxRecDepth 4000 in
theorem indexI_ok (ad : Option Addr) (cap : Nat) (xs : List Int) (fc : FuncId) (lb : List Value) (pr : Int → Bool) (rdc : HP → Prop) (hclo : ∀ x, FSpec Try.prog fc ([.int .i64 x] ++ lb) rdc [] (fun _ : Unit => .bool (pr x)) (fun _ => True) (fun _ => [])) (hl : xs.length ≤ 1000000000) : FSpec Try.prog 87 [.slice ad xs.length cap, .func (.func fc) #[] lb.toArray] (fun F => (∃ E, RdS F E ad (ints xs)) ∧ rdc (sepL [F])) [] (fun _ : Unit => .int .i64 (match xs.findIdx? pr with | some i => (i : Int) | none => -1)) (fun _ => True) (fun _ => []) := by
  refine FSpec.intro (rs := [.tmp 4]) (by kernel_rfl) Try.func87 rfl Try.ntmps87 (by rfl) rfl ?_
  intro F ⟨⟨E, hF⟩, hFc⟩
  change TC _ _ _ _ _ _ _ (sepL [_])
  haveI : RdSI F ad E (ints xs) := ⟨hF⟩
  refine TC.seq ?_
  refine TC.region ?_
  refine q rfl rfl (asg (v := .int _ _) rfl) ?_
  refine TL.nil (nt ?_)
  refine TC.seq ?_
  refine TC.seq ?_
  refine TC.region ?_
  refine q rfl rfl (mv (v := .slice _ _ _) rfl) ?_
  refine q rfl rfl (len 3 1 rfl rfl) ?_
  refine q rfl rfl (mv (v := .int _ _) rfl) ?_
  refine TL.nil (nt ?_)
  refine TC.block ?_
  refine TC.loop (ι := Nat) (fun i => i ≤ xs.length ∧ ∀ j t, j < i → xs[j]? = some t → pr t = false) (fun i => [(0, .slice ad xs.length cap), (1, .func (.func fc) #[] lb.toArray), (7, .int .i64 xs.length), (8, .int .i64 i)]) (fun i => sepL [F]) (fun i => xs.length - i) 0 ⟨Nat.zero_le _, by intro j t h; omega⟩ ⟨rfl, rfl, rfl, rfl, trivial⟩ (ent_take 0 rfl (ent_nil _)) ?_
  rintro k ⟨hinv, hno⟩ ρ0
  dsimp only [updL] at hinv hno ⊢
  refine TC.seq ?_
  refine TC.region ?_
  refine q rfl rfl (lss rfl rfl) ?_
  refine TL.nil (nt ?_)
  refine TC.seq ?_
  first | refine TC.condD rfl (fun hlt => ?_) (fun hlt => ?_) | refine TC.cond rfl (fun hlt => ?_) (fun hlt => ?_)
  · have hlt : k < xs.length := by omega
    obtain ⟨t, hk⟩ : ∃ t, xs[k]? = some t := ⟨xs[k], List.getElem?_eq_getElem hlt⟩
    have hil : 0 < (ints xs).length := by rw [ints_length]; omega
    refine TC.skip (nt ?_)
    refine TC.seq ?_
    refine TC.block ?_
    refine TC.seq ?_
    refine TC.region ?_
    refine q rfl rfl (mv (v := .int _ _) rfl) ?_
    refine q rfl rfl (asg (v := .int _ _) rfl) ?_
    refine TL.nil (nt ?_)
    refine TC.seq ?_
    refine TC.region ?_
    refine q rfl rfl (mv (v := .func (.func fc) #[] lb.toArray) rfl) ?_
    refine q rfl rfl (mv (v := .slice _ _ _) rfl) ?_
    refine q rfl rfl (mv (v := .int _ _) rfl) ?_
    first | refine q rfl rfl (ixS 3 1 rfl rfl rfl (by omega) (by first | assumption | (simp [ints_length] <;> omega))) ?_ | refine q rfl rfl (ixJ 3 1 rfl rfl rfl (by omega) (by omega) (by first | assumption | (simp [ints_length] <;> omega))) ?_ | refine q rfl rfl (ix 3 1 rfl rfl rfl (by omega) (by omega) rfl) ?_
    first | refine q rfl rfl (ld rfl rfl rfl) ?_ | refine q rfl rfl (ldS rfl rfl (ints_get hk)) ?_ | refine q rfl rfl (ldS rfl rfl rfl) ?_
    refine e rfl ?_
    refine clC (hclo t) rfl rfl (picked_nil _) hFc ?_
    intro _ _
    change TL _ _ _ _ _ _ _ _ (sepL [_])
    refine TL.nil (nt ?_)
    cases hpr : pr t with
    | true => ?_
    | false => ?_
    · refine TC.condT rfl ?_
      refine TC.seq ?_
      refine TC.region ?_
      refine q rfl rfl (mv (v := .int _ _) rfl) ?_
      refine q rfl rfl (asg (v := .int _ _) rfl) ?_
      refine TL.nil (nt ?_)
      refine TC.ret (rb (rt (rt (rb (rt ?_)))))
      have hf : xs.findIdx? pr = some k := findIdx_at hk hpr hno
      exact Ret.i () [_] ⟨rfl, trivial⟩ (by rw [hf]; rfl) trivial (by repeat (first | exact ent_nil _ | refine ent_take 0 rfl ?_ | refine ent_take 1 rfl ?_ | refine ent_take 2 rfl ?_ | refine ent_take 3 rfl ?_ | refine ent_take 4 rfl ?_ | refine ent_take 5 rfl ?_ | refine ent_take 6 rfl ?_ | refine ent_take 7 rfl ?_ | refine ent_take 8 rfl ?_ | refine ent_take 9 rfl ?_ | refine ent_take 10 rfl ?_ | refine ent_take 11 rfl ?_ | refine ent_take 12 rfl ?_))
    · refine TC.condF rfl ?_
      refine TC.skip (nb (nt ?_))
      refine TC.region ?_
      first | refine q rfl rfl (addI rfl rfl (by omega) (by omega)) ?_ | refine q rfl rfl (add rfl rfl rfl) ?_
      refine q rfl rfl (mv (v := .int _ _) rfl) ?_
      refine TL.nil (nt ?_)
      exact ⟨rfl, (k + 1), ⟨by omega, fun j u hj hu => by rcases Nat.lt_succ_iff_lt_or_eq.1 hj with h | h; exact hno j u h hu; subst h; rw [hk] at hu; cases hu; exact hpr⟩, (by omega), ⟨rfl, rfl, rfl, rfl, trivial⟩, (ent_take 0 rfl (ent_nil _))⟩
  · obtain rfl : k = xs.length := by omega
    have hf : xs.findIdx? pr = none := findIdx_no hno
    refine TC.exit (et (et (eb (nt ?_))))
    refine TC.seq ?_
    refine TC.region ?_
    refine q rfl rfl (asg (v := .int _ _) rfl) ?_
    refine TL.nil (nt ?_)
    refine TC.ret ?_
    exact Ret.i () [_] ⟨rfl, trivial⟩ (by rw [hf]; rfl) trivial (ent_take 0 rfl (ent_nil _))

set_option maxRecDepth 4000 in
theorem deleteI_ok (ad : Option Addr) (cap : Nat) (xs : List Int) (fc : FuncId) (lb : List Value) (pr : Int → Bool) (rdc : HP → Prop) (hclo : ∀ x, FSpec Try.prog fc ([.int .i64 x] ++ lb) rdc [] (fun _ : Unit => .bool (pr x)) (fun _ => True) (fun _ => [])) (hl : xs.length ≤ 1000000000) (hm1 : ∀ F, rdc F → rdc (sepL [F])) (hm2 : ∀ B F, rdc F → rdc (sepL [B, F])) : FSpec Try.prog 77 [.slice ad xs.length cap, .func (.func fc) #[] lb.toArray] rdc [slc 3 1 ad xs.length cap (ints xs)] (fun _ : Unit => .slice ad (xs.filter (notP pr)).length cap) (fun _ => True) (fun _ => [slc 3 1 ad (xs.filter (notP pr)).length cap (ints (xs.filter (notP pr)))]) := by
  refine FSpec.intro (rs := [.tmp 4]) (by kernel_rfl) Try.func77 rfl Try.ntmps77 (by rfl) rfl ?_
  intro F hFc
  change TC _ _ _ _ _ _ _ (sepL [_, _])
  refine TC.factSlc 0 rfl (fun _ hcap _ => ?_)
  have hxl := ints_length xs
  refine TC.seq ?_
  refine TC.region ?_
  refine q rfl rfl (asg (v := .slice _ _ _) rfl) ?_
  refine TL.nil (nt ?_)
  refine TC.seq ?_
  refine TC.region ?_
  refine q rfl rfl (mv (v := .slice _ _ _) rfl) ?_
  refine q rfl rfl (mv (v := .func (.func fc) #[] lb.toArray) rfl) ?_
  refine e rfl ?_
  refine cl (indexI_ok ad cap xs fc lb pr rdc hclo hl) rfl (picked_nil _) ⟨⟨_, RdSI.rd⟩, hm1 _ (hm2 _ _ hFc)⟩ ?_
  intro _ _
  change TL _ _ _ _ _ _ _ _ (sepL [_, _])
  cases hf : xs.findIdx? pr with
  | none => ?_
  | some k => ?_
  · dsimp only
    rw [del_none hf]
    refine q rfl rfl (asg (v := .int _ _) rfl) ?_
    refine TL.nil (nt ?_)
    refine TC.seq ?_
    refine TC.seq ?_
    refine TC.region ?_
    refine q rfl rfl (mv (v := .int _ _) rfl) ?_
    refine q rfl rfl (eqI rfl rfl) ?_
    refine TL.nil (nt ?_)
    refine TC.condD rfl (fun hc1 => ?_) (fun hc1 => absurd (rfl) hc1)
    refine TC.seq ?_
    refine TC.region ?_
    refine q rfl rfl (mv (v := .slice _ _ _) rfl) ?_
    refine q rfl rfl (asg (v := .slice _ _ _) rfl) ?_
    refine TL.nil (nt ?_)
    refine TC.ret (rt ?_)
    exact Ret.i () [_] ⟨rfl, trivial⟩ rfl trivial (ent_take 0 rfl (ent_take 0 rfl (ent_nil _)))
  · dsimp only
    have hD := DelI.start hf
    have hkn : k < xs.length := by have := hD.jn; omega
    refine q rfl rfl (asg (v := .int _ _) rfl) ?_
    refine TL.nil (nt ?_)
    refine TC.seq ?_
    refine TC.seq ?_
    refine TC.region ?_
    refine q rfl rfl (mv (v := .int _ _) rfl) ?_
    refine q rfl rfl (eqI rfl rfl) ?_
    refine TL.nil (nt ?_)
    refine TC.condD rfl (fun hc2 => absurd hc2 (by omega)) (fun hc2 => ?_)
    refine TC.skip (nt ?_)
    refine TC.seq ?_
    refine TC.seq ?_
    refine TC.region ?_
    refine q rfl rfl (mv (v := .int _ _) rfl) ?_
    first | refine q rfl rfl (addI rfl rfl (by omega) (by omega)) ?_ | refine q rfl rfl (add rfl rfl rfl) ?_
    refine q rfl rfl (asg (v := .int _ _) rfl) ?_
    refine TL.nil (nt ?_)
    refine TC.block ?_
    refine TC.loop (ι := Nat × Nat × List Int) (fun s => DelI xs pr s.1 s.2.1 s.2.2) (fun s => [(0, .slice ad xs.length cap), (1, .func (.func fc) #[] lb.toArray), (5, .int .i64 ((s.1 : Nat) : Int)), (6, .int .i64 ((s.2.1 : Nat) : Int))]) (fun s => sepL [slc 3 1 ad xs.length cap (ints s.2.2), F]) (fun s => xs.length - s.2.1) ⟨k, k + 1, xs⟩ hD ⟨rfl, rfl, rfl, rfl, trivial⟩ (ent_take 0 rfl (ent_take 0 rfl (ent_nil _))) ?_
    rintro ⟨i, j, ys⟩ hI ρ0
    dsimp only [updL] at hI ⊢
    have hj0 := hI.jn
    have hij := hI.ij
    have hyl := hI.len
    have hyi := ints_length ys
    refine TC.seq ?_
    refine TC.seq ?_
    refine TC.region ?_
    refine q rfl rfl (mv (v := .int _ _) rfl) ?_
    refine q rfl rfl (mv (v := .slice _ _ _) rfl) ?_
    refine q rfl rfl (len 3 1 rfl rfl) ?_
    refine q rfl rfl (lss rfl rfl) ?_
    refine TL.nil (nt ?_)
    first | refine TC.condD rfl (fun hlt => ?_) (fun hlt => ?_) | refine TC.cond rfl (fun hlt => ?_) (fun hlt => ?_)
    · have hlt2 : j < xs.length := by omega
      obtain ⟨x, hx⟩ : ∃ x, xs[j]? = some x := ⟨xs[j], List.getElem?_eq_getElem hlt2⟩
      have hxy := hI.get hx
      have hpos : 0 < (ints ys).length := by omega
      refine TC.skip (nt ?_)
      refine TC.seq ?_
      refine TC.block ?_
      refine TC.seq ?_
      refine TC.region ?_
      refine q rfl rfl (mv (v := .slice _ _ _) rfl) ?_
      refine q rfl rfl (mv (v := .int _ _) rfl) ?_
      first | refine q rfl rfl (ixS 3 1 rfl rfl rfl (by omega) (by first | assumption | (simp [ints_length] <;> omega))) ?_ | refine q rfl rfl (ixJ 3 1 rfl rfl rfl (by omega) (by omega) (by first | assumption | (simp [ints_length] <;> omega))) ?_ | refine q rfl rfl (ix 3 1 rfl rfl rfl (by omega) (by omega) rfl) ?_
      first | refine q rfl rfl (ld rfl rfl rfl) ?_ | refine q rfl rfl (ldS rfl rfl (ints_get hxy)) ?_ | refine q rfl rfl (ldS rfl rfl rfl) ?_
      refine q rfl rfl (asg (v := .int _ _) rfl) ?_
      refine TL.nil (nt ?_)
      refine TC.seq ?_
      refine TC.region ?_
      refine q rfl rfl (mv (v := .func (.func fc) #[] lb.toArray) rfl) ?_
      refine q rfl rfl (mv (v := .int _ _) rfl) ?_
      refine e rfl ?_
      refine clC (hclo x) rfl rfl (picked_nil _) (hm2 _ _ hFc) ?_
      intro _ _
      change TL _ _ _ _ _ _ _ _ (sepL [_, _])
      first | refine q rfl rfl (notD rfl) ?_ | refine q rfl rfl (notB rfl) ?_
      refine TL.nil (nt ?_)
      cases hpr : pr x with
      | true => ?_
      | false => ?_
      · refine TC.condF rfl ?_
        refine TC.skip (nb (nt ?_))
        refine TC.region ?_
        refine q rfl rfl (mv (v := .int _ _) rfl) ?_
        first | refine q rfl rfl (addI rfl rfl (by omega) (by omega)) ?_ | refine q rfl rfl (add rfl rfl rfl) ?_
        refine q rfl rfl (asg (v := .int _ _) rfl) ?_
        refine TL.nil (nt ?_)
        exact ⟨rfl, ⟨i, j + 1, ys⟩, (hI.skip hlt2 hx hpr), (by dsimp only; omega), ⟨rfl, rfl, rfl, rfl, trivial⟩, (ent_take 0 rfl (ent_take 0 rfl (ent_nil _)))⟩
      · refine TC.condT rfl ?_
        refine TC.seq ?_
        refine TC.region ?_
        refine q rfl rfl (mv (v := .slice _ _ _) rfl) ?_
        refine q rfl rfl (mv (v := .int _ _) rfl) ?_
        refine q rfl rfl (mv (v := .int _ _) rfl) ?_
        first | refine q rfl rfl (ixS 3 1 rfl rfl rfl (by omega) (by first | assumption | (simp [ints_length] <;> omega))) ?_ | refine q rfl rfl (ixJ 3 1 rfl rfl rfl (by omega) (by omega) (by first | assumption | (simp [ints_length] <;> omega))) ?_ | refine q rfl rfl (ix 3 1 rfl rfl rfl (by omega) (by omega) rfl) ?_
        refine e0 ?_
        first | refine st (v := .int _ _) (vs := [_]) 1 rfl rfl rfl rfl rfl rfl (Nat.le_of_ble_eq_true rfl) rfl ?_ | refine stS (v := .int _ _) (vs := [_]) 1 rfl rfl rfl rfl rfl rfl (by decide) (by omega) (ints_splice1 (i := i) (by omega) (by omega) _) ?_
        refine TL.nil (nt ?_)
        refine TC.region ?_
        refine q rfl rfl (mv (v := .int _ _) rfl) ?_
        first | refine q rfl rfl (addI rfl rfl (by omega) (by omega)) ?_ | refine q rfl rfl (add rfl rfl rfl) ?_
        refine q rfl rfl (asg (v := .int _ _) rfl) ?_
        refine TL.nil (nb (nt ?_))
        refine TC.region ?_
        refine q rfl rfl (mv (v := .int _ _) rfl) ?_
        first | refine q rfl rfl (addI rfl rfl (by omega) (by omega)) ?_ | refine q rfl rfl (add rfl rfl rfl) ?_
        refine q rfl rfl (asg (v := .int _ _) rfl) ?_
        refine TL.nil (nt ?_)
        exact ⟨rfl, ⟨i + 1, j + 1, ys.set i x⟩, (hI.keep hlt2 hx hpr), (by dsimp only; omega), ⟨rfl, rfl, rfl, rfl, trivial⟩, (ent_take 0 rfl (ent_take 0 rfl (ent_nil _)))⟩
    · obtain rfl : j = xs.length := by omega
      obtain ⟨d1, d2⟩ := hI.done
      refine TC.exit (et (et (eb (nt ?_))))
      refine TC.seq ?_
      refine TC.region ?_
      refine q rfl rfl (mv (v := .slice _ _ _) rfl) ?_
      refine q rfl rfl (mv (v := .int _ _) rfl) ?_
      refine q rfl rfl (slFn 3 1 (i) rfl rfl rfl (by omega) (by omega)) ?_
      refine e0 ?_
      refine clr (sz := 1) (z := .int .i64 0) i rfl rfl rfl rfl (by decide) rfl rfl (by omega) ?_
      intro cs1 hc1 hc2
      have hc3 : cs1.take (i * 1) = ints (xs.filter (notP pr)) := by rw [hc2, ints_take1, d1]
      refine TL.nil (nt ?_)
      refine TC.seq ?_
      refine TC.region ?_
      refine q rfl rfl (mv (v := .slice _ _ _) rfl) ?_
      refine q rfl rfl (mv (v := .int _ _) rfl) ?_
      refine q rfl rfl (slTn 3 1 (i) rfl rfl rfl (by omega) (by omega)) ?_
      refine q rfl rfl (asg (v := .slice _ _ _) rfl) ?_
      refine TL.nil (nt ?_)
      refine TC.ret ?_
      exact Ret.i () [_] ⟨rfl, trivial⟩ (by rw [d2]; rfl) trivial (ent_takeW 0 rfl (by have := slc_to (E := 3) (sz := 1) (ad := ad) (n := xs.length) (cap := cap) (cs := cs1) (j := i) (by omega); rw [hc3] at this; rw [d2]; exact this) (ent_take 0 rfl (ent_nil _)))

set_option maxRecDepth 4000 in
theorem cloneI_ok (ad : Option Addr) (cap : Nat) (xs : List Int) (hl : xs.length ≤ 1000000000) : FSpec Try.prog 73 [.slice ad xs.length cap] (fun F => ∃ E, RdS F E ad (ints xs)) [] (fun y : Option Addr × Nat => .slice y.1 xs.length y.2) (fun _ => True) (fun y => [slc 3 1 y.1 xs.length y.2 (ints xs)]) := by
  refine FSpec.intro (rs := [.tmp 2]) (by kernel_rfl) Try.func73 rfl Try.ntmps73 (by rfl) rfl ?_
  intro F ⟨E, hF⟩
  change TC _ _ _ _ _ _ _ (sepL [_])
  haveI : RdSI F ad E (ints xs) := ⟨hF⟩
  have hxl := ints_length xs
  refine TC.seq ?_
  refine TC.region ?_
  refine q rfl rfl (asg (v := .slice _ _ _) rfl) ?_
  refine TL.nil (nt ?_)
  refine TC.seq ?_
  refine TC.seq ?_
  refine TC.region ?_
  refine q rfl rfl (mv (v := .slice _ _ _) rfl) ?_
  refine q rfl rfl (eqSl rfl rfl rfl) ?_
  refine TL.nil (nt ?_)
  cases ad with
  | none => ?_
  | some a0 => ?_
  · refine TC.fact (fun hh hx => RdS_none (RdS_l hF) hh hx) (fun hnil => ?_)
    obtain rfl : xs = [] := by simpa [ints] using hnil
    refine TC.condT rfl ?_
    refine TC.seq ?_
    refine TC.region ?_
    refine q rfl rfl (asg (v := .slice _ _ _) rfl) ?_
    refine TL.nil (nt ?_)
    refine TC.ret (rt ?_)
    exact Ret.i ⟨none, 0⟩ [_] ⟨rfl, trivial⟩ rfl trivial ((slc_nil 3 1 _).trans (ent_takeE 0 rfl (by simp [ints]) (ent_take 0 rfl (ent_nil _))))
  · refine TC.condF rfl ?_
    refine TC.skip (nt ?_)
    refine TC.seq ?_
    refine TC.region ?_
    refine e rfl ?_
    refine bs (cs := []) rfl ?_
    intro b1
    refine q rfl rfl (mv (v := .slice _ _ _) rfl) ?_
    refine e rfl ?_
    refine ap 8 rfl rfl rfl rfl rfl (by omega) (ints_all1 rfl) (ints_one1 _) (by omega) (by simp only [maxLen]; omega) ?_
    intro ad1 cap1
    refine q rfl rfl (asg (v := .slice _ _ _) rfl) ?_
    refine TL.nil (nt ?_)
    refine TC.ret ?_
    exact Ret.i ⟨ad1, cap1⟩ [_] ⟨rfl, trivial⟩ (by rw [Nat.zero_add]; rfl) trivial (ent_takeE 0 rfl (by rw [Nat.zero_add, List.nil_append]) (ent_take 0 rfl (ent_nil _)))

end Go.Proofs.Ytdfmfhcjnjfjbaa.Rd
