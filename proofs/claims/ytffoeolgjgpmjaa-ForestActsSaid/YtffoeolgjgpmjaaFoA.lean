/-
  Proved here: what functions of this program compute, each as a contract over symbolic states, under the premises that each theorem names (most lines printed by a program of the prover).
-/
import Derived.Test.YtffoeolgjgpmjaaProg
import Derived.Test.YtffoeolgjgpmjaaQLibJ
namespace Go.Proofs.Ytffoeolgjgpmjaa
open Go Go.QM
theorem ints_take1 (xs : List Int) (k : Nat) : (ints xs).take (k * 1) = ints (xs.take k) := by simp [ints, List.map_take]
theorem ints_one1 : ∀ (xs : List Int), (ints xs).all Value.oneCell' = true
  | [] => rfl
  | x :: xs => by have := ints_one1 xs; rw [ints] at this ⊢; rw [List.map_cons, List.all_cons, this]; rfl
theorem ints_splice1 {xs : List Int} {i : Nat} (h : i < xs.length) {o : Nat} (ho : o = i * 1) (v : Int) : splice o [.int .i64 v] (ints xs) = ints (xs.set i v) := by
  rw [ho, Nat.mul_one, List.set_eq_take_append_cons_drop, if_pos h]
  simp [splice, ints]
theorem ints_all1 {xs : List Int} {n : Nat} (h : xs.length = n) : (ints xs).take (n * 1) = ints xs := List.take_of_length_le (by rw [ints_length]; omega)
theorem ints_app1 (xs ys : List Int) : ints xs ++ ints ys = ints (xs ++ ys) := by simp [ints]
def notP (pr : Int → Bool) : Int → Bool := fun x => !pr x
structure DelI (xs : List Int) (pr : Int → Bool) (i j : Nat) (ys : List Int) : Prop where
  len : ys.length = xs.length
  ij : i < j
  jn : j ≤ xs.length
  tk : ys.take i = (xs.take j).filter (notP pr)
  dr : ys.drop j = xs.drop j
theorem DelI.start {xs : List Int} {pr : Int → Bool} {k : Nat} (h : xs.findIdx? pr = some k) : DelI xs pr k (k + 1) xs := by
  rw [List.findIdx?_eq_some_iff_getElem] at h
  obtain ⟨hk, hp, hn⟩ := h
  refine ⟨rfl, by omega, hk, ?_, rfl⟩
  rw [List.take_add_one, List.getElem?_eq_getElem hk, List.filter_append]
  have h1 : (xs.take k).filter (notP pr) = xs.take k := List.filter_eq_self.2 fun x hx => by
    obtain ⟨j, hj, rfl⟩ := List.getElem_of_mem hx
    rw [List.length_take] at hj
    have := hn j (by omega)
    rw [List.getElem_take]; simpa [notP] using this
  rw [h1]; simp [notP, hp]
theorem DelI.keep {xs : List Int} {pr : Int → Bool} {i j : Nat} {ys : List Int} (h : DelI xs pr i j ys) (hj : j < xs.length) {x : Int} (hx : xs[j]? = some x) (hp : pr x = false) : DelI xs pr (i + 1) (j + 1) (ys.set i x) where
  len := by rw [List.length_set]; exact h.len
  ij := by have := h.ij; omega
  jn := hj
  tk := by
    have hl := h.len; have hij := h.ij
    rw [List.take_add_one, List.getElem?_set_self (by omega), List.take_add_one, hx, List.filter_append, ← h.tk]
    rw [List.take_set_of_le (Nat.le_refl i)]
    simp [notP, hp]
  dr := by
    have hij := h.ij
    rw [List.drop_set_of_lt (by omega)]
    rw [← List.drop_drop, h.dr, List.drop_drop]
theorem DelI.skip {xs : List Int} {pr : Int → Bool} {i j : Nat} {ys : List Int} (h : DelI xs pr i j ys) (hj : j < xs.length) {x : Int} (hx : xs[j]? = some x) (hp : pr x = true) : DelI xs pr i (j + 1) ys where
  len := h.len
  ij := by have := h.ij; omega
  jn := hj
  tk := by rw [List.take_add_one, hx, List.filter_append, h.tk]; simp [notP, hp]
  dr := by rw [← List.drop_drop, h.dr, List.drop_drop]
theorem DelI.get {xs : List Int} {pr : Int → Bool} {i j : Nat} {ys : List Int} (h : DelI xs pr i j ys) {x : Int} (hx : xs[j]? = some x) : ys[j]? = some x := by
  have h1 : (ys.drop j)[0]? = (xs.drop j)[0]? := by rw [h.dr]
  rw [List.getElem?_drop, List.getElem?_drop] at h1
  exact h1.trans hx
theorem DelI.done {xs : List Int} {pr : Int → Bool} {i : Nat} {ys : List Int} (h : DelI xs pr i xs.length ys) : ys.take i = xs.filter (notP pr) ∧ (xs.filter (notP pr)).length = i := by
  have h1 := h.tk
  rw [List.take_length] at h1
  refine ⟨h1, ?_⟩
  rw [← h1, List.length_take]
  have := h.len; have := h.ij; omega
theorem del_none {xs : List Int} {pr : Int → Bool} (h : xs.findIdx? pr = none) : xs.filter (notP pr) = xs := by
  rw [List.findIdx?_eq_none_iff] at h
  exact List.filter_eq_self.2 fun x hx => by simp [notP, h x hx]

theorem indexI_ok (ad : Option Addr) (cap : Nat) (xs : List Int) (fc : FuncId) (lb : List Value) (pr : Int → Bool) (rdc : HP → Prop) (hclo : ∀ x, FSpec Try.prog fc ([.int .i64 x] ++ lb) rdc [] (fun _ : Unit => .bool (pr x)) (fun _ => True) (fun _ => [])) (hl : xs.length ≤ 1000000000) : FSpec Try.prog 37 [.slice ad xs.length cap, .func (.func fc) #[] lb.toArray] (fun F => (∃ E, RdS F E ad (ints xs)) ∧ rdc (sepL [F])) [] (fun _ : Unit => .int .i64 (match xs.findIdx? pr with | some i => (i : Int) | none => -1)) (fun _ => True) (fun _ => []) := by
  refine FSpec.intro (rs := [.tmp 4]) (by kernel_rfl) Try.func37 rfl Try.ntmps37 (by rfl) rfl ?_
  intro F ⟨⟨E, hF⟩, hFc⟩
  change TC _ _ _ _ _ _ _ (sepL [_])
  haveI : RdSI F ad E (ints xs) := ⟨hF⟩
  refine TC.seq ?_
  refine TC.region ?_
  refine q rfl rfl (asg (v := .int _ _) rfl) ?_
  refine TL.nil (nt ?_)
  refine TC.seq ?_
  refine TC.seq ?_
  refine TC.region ?_
  refine q rfl rfl (mv (v := .slice _ _ _) rfl) ?_
  refine q rfl rfl (len 3 1 rfl rfl) ?_
  refine q rfl rfl (mv (v := .int _ _) rfl) ?_
  refine TL.nil (nt ?_)
  refine TC.block ?_
  refine TC.loop (ι := Nat) (fun i => i ≤ xs.length ∧ ∀ j t, j < i → xs[j]? = some t → pr t = false) (fun i => [(0, .slice ad xs.length cap), (1, .func (.func fc) #[] lb.toArray), (7, .int .i64 xs.length), (8, .int .i64 i)]) (fun i => sepL [F]) (fun i => xs.length - i) 0 ⟨Nat.zero_le _, by intro j t h; omega⟩ ⟨rfl, rfl, rfl, rfl, trivial⟩ (ent_take 0 rfl (ent_nil _)) ?_
  rintro k ⟨hinv, hno⟩ ρ0
  dsimp only [updL] at hinv hno ⊢
  refine TC.seq ?_
  refine TC.region ?_
  refine q rfl rfl (lss rfl rfl) ?_
  refine TL.nil (nt ?_)
  refine TC.seq ?_
  first | refine TC.condD rfl (fun hlt => ?_) (fun hlt => ?_) | refine TC.cond rfl (fun hlt => ?_) (fun hlt => ?_)
  · have hlt : k < xs.length := by omega
    obtain ⟨t, hk⟩ : ∃ t, xs[k]? = some t := ⟨xs[k], List.getElem?_eq_getElem hlt⟩
    have hil : 0 < (ints xs).length := by rw [ints_length]; omega
    refine TC.skip (nt ?_)
    refine TC.seq ?_
    refine TC.block ?_
    refine TC.seq ?_
    refine TC.region ?_
    refine q rfl rfl (mv (v := .int _ _) rfl) ?_
    refine q rfl rfl (asg (v := .int _ _) rfl) ?_
    refine TL.nil (nt ?_)
    refine TC.seq ?_
    refine TC.region ?_
    refine q rfl rfl (mv (v := .func (.func fc) #[] lb.toArray) rfl) ?_
    refine q rfl rfl (mv (v := .slice _ _ _) rfl) ?_
    refine q rfl rfl (mv (v := .int _ _) rfl) ?_
    first | refine q rfl rfl (ixS 3 1 rfl rfl rfl (by omega) (by first | assumption | (simp [ints_length] <;> omega))) ?_ | refine q rfl rfl (ixJ 3 1 rfl rfl rfl (by omega) (by omega) (by first | assumption | (simp [ints_length] <;> omega))) ?_ | refine q rfl rfl (ix 3 1 rfl rfl rfl (by omega) (by omega) rfl) ?_
    first | refine q rfl rfl (ld rfl rfl rfl) ?_ | refine q rfl rfl (ldS rfl rfl (ints_get hk)) ?_ | refine q rfl rfl (ldS rfl rfl rfl) ?_
    refine e rfl ?_
    refine clC (hclo t) rfl rfl (picked_nil _) hFc ?_
    intro _ _
    change TL _ _ _ _ _ _ _ _ (sepL [_])
    refine TL.nil (nt ?_)
    cases hpr : pr t with
    | true => ?_
    | false => ?_
    · refine TC.condT rfl ?_
      refine TC.seq ?_
      refine TC.region ?_
      refine q rfl rfl (mv (v := .int _ _) rfl) ?_
      refine q rfl rfl (asg (v := .int _ _) rfl) ?_
      refine TL.nil (nt ?_)
      refine TC.ret (rb (rt (rt (rb (rt ?_)))))
      have hf : xs.findIdx? pr = some k := findIdx_at hk hpr hno
      exact Ret.i () [_] ⟨rfl, trivial⟩ (by rw [hf]; rfl) trivial (by repeat (first | exact ent_nil _ | refine ent_take 0 rfl ?_ | refine ent_take 1 rfl ?_ | refine ent_take 2 rfl ?_ | refine ent_take 3 rfl ?_ | refine ent_take 4 rfl ?_ | refine ent_take 5 rfl ?_ | refine ent_take 6 rfl ?_ | refine ent_take 7 rfl ?_ | refine ent_take 8 rfl ?_ | refine ent_take 9 rfl ?_ | refine ent_take 10 rfl ?_ | refine ent_take 11 rfl ?_ | refine ent_take 12 rfl ?_))
    · refine TC.condF rfl ?_
      refine TC.skip (nb (nt ?_))
      refine TC.region ?_
      first | refine q rfl rfl (addI rfl rfl (by omega) (by omega)) ?_ | refine q rfl rfl (add rfl rfl rfl) ?_
      refine q rfl rfl (mv (v := .int _ _) rfl) ?_
      refine TL.nil (nt ?_)
      exact ⟨rfl, (k + 1), ⟨by omega, fun j u hj hu => by rcases Nat.lt_succ_iff_lt_or_eq.1 hj with h | h; exact hno j u h hu; subst h; rw [hk] at hu; cases hu; exact hpr⟩, (by omega), ⟨rfl, rfl, rfl, rfl, trivial⟩, (ent_take 0 rfl (ent_nil _))⟩
  · obtain rfl : k = xs.length := by omega
    have hf : xs.findIdx? pr = none := findIdx_no hno
    refine TC.exit (et (et (eb (nt ?_))))
    refine TC.seq ?_
    refine TC.region ?_
    refine q rfl rfl (asg (v := .int _ _) rfl) ?_
    refine TL.nil (nt ?_)
    refine TC.ret ?_
    exact Ret.i () [_] ⟨rfl, trivial⟩ (by rw [hf]; rfl) trivial (ent_take 0 rfl (ent_nil _))

theorem deleteI_ok (ad : Option Addr) (cap : Nat) (xs : List Int) (fc : FuncId) (lb : List Value) (pr : Int → Bool) (rdc : HP → Prop) (hclo : ∀ x, FSpec Try.prog fc ([.int .i64 x] ++ lb) rdc [] (fun _ : Unit => .bool (pr x)) (fun _ => True) (fun _ => [])) (hl : xs.length ≤ 1000000000) (hm1 : ∀ F, rdc F → rdc (sepL [F])) (hm2 : ∀ B F, rdc F → rdc (sepL [B, F])) : FSpec Try.prog 35 [.slice ad xs.length cap, .func (.func fc) #[] lb.toArray] rdc [slc 3 1 ad xs.length cap (ints xs)] (fun _ : Unit => .slice ad (xs.filter (notP pr)).length cap) (fun _ => True) (fun _ => [slc 3 1 ad (xs.filter (notP pr)).length cap (ints (xs.filter (notP pr)))]) := by
  refine FSpec.intro (rs := [.tmp 4]) (by kernel_rfl) Try.func35 rfl Try.ntmps35 (by rfl) rfl ?_
  intro F hFc
  change TC _ _ _ _ _ _ _ (sepL [_, _])
  refine TC.factSlc 0 rfl (fun _ hcap _ => ?_)
  have hxl := ints_length xs
  refine TC.seq ?_
  refine TC.region ?_
  refine q rfl rfl (asg (v := .slice _ _ _) rfl) ?_
  refine TL.nil (nt ?_)
  refine TC.seq ?_
  refine TC.region ?_
  refine q rfl rfl (mv (v := .slice _ _ _) rfl) ?_
  refine q rfl rfl (mv (v := .func (.func fc) #[] lb.toArray) rfl) ?_
  refine e rfl ?_
  refine cl (indexI_ok ad cap xs fc lb pr rdc hclo hl) rfl (picked_nil _) ⟨⟨_, RdSI.rd⟩, hm1 _ (hm2 _ _ hFc)⟩ ?_
  intro _ _
  change TL _ _ _ _ _ _ _ _ (sepL [_, _])
  cases hf : xs.findIdx? pr with
  | none => ?_
  | some k => ?_
  · dsimp only
    rw [del_none hf]
    refine q rfl rfl (asg (v := .int _ _) rfl) ?_
    refine TL.nil (nt ?_)
    refine TC.seq ?_
    refine TC.seq ?_
    refine TC.region ?_
    refine q rfl rfl (mv (v := .int _ _) rfl) ?_
    refine q rfl rfl (eqI rfl rfl) ?_
    refine TL.nil (nt ?_)
    refine TC.condD rfl (fun hc1 => ?_) (fun hc1 => absurd (rfl) hc1)
    refine TC.seq ?_
    refine TC.region ?_
    refine q rfl rfl (mv (v := .slice _ _ _) rfl) ?_
    refine q rfl rfl (asg (v := .slice _ _ _) rfl) ?_
    refine TL.nil (nt ?_)
    refine TC.ret (rt ?_)
    exact Ret.i () [_] ⟨rfl, trivial⟩ rfl trivial (ent_take 0 rfl (ent_take 0 rfl (ent_nil _)))
  · dsimp only
    have hD := DelI.start hf
    have hkn : k < xs.length := by have := hD.jn; omega
    refine q rfl rfl (asg (v := .int _ _) rfl) ?_
    refine TL.nil (nt ?_)
    refine TC.seq ?_
    refine TC.seq ?_
    refine TC.region ?_
    refine q rfl rfl (mv (v := .int _ _) rfl) ?_
    refine q rfl rfl (eqI rfl rfl) ?_
    refine TL.nil (nt ?_)
    refine TC.condD rfl (fun hc2 => absurd hc2 (by omega)) (fun hc2 => ?_)
    refine TC.skip (nt ?_)
    refine TC.seq ?_
    refine TC.seq ?_
    refine TC.region ?_
    refine q rfl rfl (mv (v := .int _ _) rfl) ?_
    first | refine q rfl rfl (addI rfl rfl (by omega) (by omega)) ?_ | refine q rfl rfl (add rfl rfl rfl) ?_
    refine q rfl rfl (asg (v := .int _ _) rfl) ?_
    refine TL.nil (nt ?_)
    refine TC.block ?_
    refine TC.loop (ι := Nat × Nat × List Int) (fun s => DelI xs pr s.1 s.2.1 s.2.2) (fun s => [(0, .slice ad xs.length cap), (1, .func (.func fc) #[] lb.toArray), (5, .int .i64 ((s.1 : Nat) : Int)), (6, .int .i64 ((s.2.1 : Nat) : Int))]) (fun s => sepL [slc 3 1 ad xs.length cap (ints s.2.2), F]) (fun s => xs.length - s.2.1) ⟨k, k + 1, xs⟩ hD ⟨rfl, rfl, rfl, rfl, trivial⟩ (ent_take 0 rfl (ent_take 0 rfl (ent_nil _))) ?_
    rintro ⟨i, j, ys⟩ hI ρ0
    dsimp only [updL] at hI ⊢
    have hj0 := hI.jn
    have hij := hI.ij
    have hyl := hI.len
    have hyi := ints_length ys
    refine TC.seq ?_
    refine TC.seq ?_
    refine TC.region ?_
    refine q rfl rfl (mv (v := .int _ _) rfl) ?_
    refine q rfl rfl (mv (v := .slice _ _ _) rfl) ?_
    refine q rfl rfl (len 3 1 rfl rfl) ?_
    refine q rfl rfl (lss rfl rfl) ?_
    refine TL.nil (nt ?_)
    first | refine TC.condD rfl (fun hlt => ?_) (fun hlt => ?_) | refine TC.cond rfl (fun hlt => ?_) (fun hlt => ?_)
    · have hlt2 : j < xs.length := by omega
      obtain ⟨x, hx⟩ : ∃ x, xs[j]? = some x := ⟨xs[j], List.getElem?_eq_getElem hlt2⟩
      have hxy := hI.get hx
      have hpos : 0 < (ints ys).length := by omega
      refine TC.skip (nt ?_)
      refine TC.seq ?_
      refine TC.block ?_
      refine TC.seq ?_
      refine TC.region ?_
      refine q rfl rfl (mv (v := .slice _ _ _) rfl) ?_
      refine q rfl rfl (mv (v := .int _ _) rfl) ?_
      first | refine q rfl rfl (ixS 3 1 rfl rfl rfl (by omega) (by first | assumption | (simp [ints_length] <;> omega))) ?_ | refine q rfl rfl (ixJ 3 1 rfl rfl rfl (by omega) (by omega) (by first | assumption | (simp [ints_length] <;> omega))) ?_ | refine q rfl rfl (ix 3 1 rfl rfl rfl (by omega) (by omega) rfl) ?_
      first | refine q rfl rfl (ld rfl rfl rfl) ?_ | refine q rfl rfl (ldS rfl rfl (ints_get hxy)) ?_ | refine q rfl rfl (ldS rfl rfl rfl) ?_
      refine q rfl rfl (asg (v := .int _ _) rfl) ?_
      refine TL.nil (nt ?_)
      refine TC.seq ?_
      refine TC.region ?_
      refine q rfl rfl (mv (v := .func (.func fc) #[] lb.toArray) rfl) ?_
      refine q rfl rfl (mv (v := .int _ _) rfl) ?_
      refine e rfl ?_
      refine clC (hclo x) rfl rfl (picked_nil _) (hm2 _ _ hFc) ?_
      intro _ _
      change TL _ _ _ _ _ _ _ _ (sepL [_, _])
      first | refine q rfl rfl (notD rfl) ?_ | refine q rfl rfl (notB rfl) ?_
      refine TL.nil (nt ?_)
      cases hpr : pr x with
      | true => ?_
      | false => ?_
      · refine TC.condF rfl ?_
        refine TC.skip (nb (nt ?_))
        refine TC.region ?_
        refine q rfl rfl (mv (v := .int _ _) rfl) ?_
        first | refine q rfl rfl (addI rfl rfl (by omega) (by omega)) ?_ | refine q rfl rfl (add rfl rfl rfl) ?_
        refine q rfl rfl (asg (v := .int _ _) rfl) ?_
        refine TL.nil (nt ?_)
        exact ⟨rfl, ⟨i, j + 1, ys⟩, (hI.skip hlt2 hx hpr), (by dsimp only; omega), ⟨rfl, rfl, rfl, rfl, trivial⟩, (ent_take 0 rfl (ent_take 0 rfl (ent_nil _)))⟩
      · refine TC.condT rfl ?_
        refine TC.seq ?_
        refine TC.region ?_
        refine q rfl rfl (mv (v := .slice _ _ _) rfl) ?_
        refine q rfl rfl (mv (v := .int _ _) rfl) ?_
        refine q rfl rfl (mv (v := .int _ _) rfl) ?_
        first | refine q rfl rfl (ixS 3 1 rfl rfl rfl (by omega) (by first | assumption | (simp [ints_length] <;> omega))) ?_ | refine q rfl rfl (ixJ 3 1 rfl rfl rfl (by omega) (by omega) (by first | assumption | (simp [ints_length] <;> omega))) ?_ | refine q rfl rfl (ix 3 1 rfl rfl rfl (by omega) (by omega) rfl) ?_
        refine e0 ?_
        first | refine st (v := .int _ _) (vs := [_]) 1 rfl rfl rfl rfl rfl rfl (Nat.le_of_ble_eq_true rfl) rfl ?_ | refine stS (v := .int _ _) (vs := [_]) 1 rfl rfl rfl rfl rfl rfl (by decide) (by omega) (ints_splice1 (i := i) (by omega) (by omega) _) ?_
        refine TL.nil (nt ?_)
        refine TC.region ?_
        refine q rfl rfl (mv (v := .int _ _) rfl) ?_
        first | refine q rfl rfl (addI rfl rfl (by omega) (by omega)) ?_ | refine q rfl rfl (add rfl rfl rfl) ?_
        refine q rfl rfl (asg (v := .int _ _) rfl) ?_
        refine TL.nil (nb (nt ?_))
        refine TC.region ?_
        refine q rfl rfl (mv (v := .int _ _) rfl) ?_
        first | refine q rfl rfl (addI rfl rfl (by omega) (by omega)) ?_ | refine q rfl rfl (add rfl rfl rfl) ?_
        refine q rfl rfl (asg (v := .int _ _) rfl) ?_
        refine TL.nil (nt ?_)
        exact ⟨rfl, ⟨i + 1, j + 1, ys.set i x⟩, (hI.keep hlt2 hx hpr), (by dsimp only; omega), ⟨rfl, rfl, rfl, rfl, trivial⟩, (ent_take 0 rfl (ent_take 0 rfl (ent_nil _)))⟩
    · obtain rfl : j = xs.length := by omega
      obtain ⟨d1, d2⟩ := hI.done
      refine TC.exit (et (et (eb (nt ?_))))
      refine TC.seq ?_
      refine TC.region ?_
      refine q rfl rfl (mv (v := .slice _ _ _) rfl) ?_
      refine q rfl rfl (mv (v := .int _ _) rfl) ?_
      refine q rfl rfl (slFn 3 1 (i) rfl rfl rfl (by omega) (by omega)) ?_
      refine e0 ?_
      refine clr (sz := 1) (z := .int .i64 0) i rfl rfl rfl rfl (by decide) rfl rfl (by omega) ?_
      intro cs1 hc1 hc2
      have hc3 : cs1.take (i * 1) = ints (xs.filter (notP pr)) := by rw [hc2, ints_take1, d1]
      refine TL.nil (nt ?_)
      refine TC.seq ?_
      refine TC.region ?_
      refine q rfl rfl (mv (v := .slice _ _ _) rfl) ?_
      refine q rfl rfl (mv (v := .int _ _) rfl) ?_
      refine q rfl rfl (slTn 3 1 (i) rfl rfl rfl (by omega) (by omega)) ?_
      refine q rfl rfl (asg (v := .slice _ _ _) rfl) ?_
      refine TL.nil (nt ?_)
      refine TC.ret ?_
      exact Ret.i () [_] ⟨rfl, trivial⟩ (by rw [d2]; rfl) trivial (ent_takeW 0 rfl (by have := slc_to (E := 3) (sz := 1) (ad := ad) (n := xs.length) (cap := cap) (cs := cs1) (j := i) (by omega); rw [hc3] at this; rw [d2]; exact this) (ent_take 0 rfl (ent_nil _)))

theorem cloneI_ok (ad : Option Addr) (cap : Nat) (xs : List Int) (hl : xs.length ≤ 1000000000) : FSpec Try.prog 31 [.slice ad xs.length cap] (fun F => ∃ E, RdS F E ad (ints xs)) [] (fun y : Option Addr × Nat => .slice y.1 xs.length y.2) (fun _ => True) (fun y => [slc 3 1 y.1 xs.length y.2 (ints xs)]) := by
  refine FSpec.intro (rs := [.tmp 2]) (by kernel_rfl) Try.func31 rfl Try.ntmps31 (by rfl) rfl ?_
  intro F ⟨E, hF⟩
  change TC _ _ _ _ _ _ _ (sepL [_])
  haveI : RdSI F ad E (ints xs) := ⟨hF⟩
  have hxl := ints_length xs
  refine TC.seq ?_
  refine TC.region ?_
  refine q rfl rfl (asg (v := .slice _ _ _) rfl) ?_
  refine TL.nil (nt ?_)
  refine TC.seq ?_
  refine TC.seq ?_
  refine TC.region ?_
  refine q rfl rfl (mv (v := .slice _ _ _) rfl) ?_
  refine q rfl rfl (eqSl rfl rfl rfl) ?_
  refine TL.nil (nt ?_)
  cases ad with
  | none => ?_
  | some a0 => ?_
  · refine TC.fact (fun hh hx => RdS_none (RdS_l hF) hh hx) (fun hnil => ?_)
    obtain rfl : xs = [] := by simpa [ints] using hnil
    refine TC.condT rfl ?_
    refine TC.seq ?_
    refine TC.region ?_
    refine q rfl rfl (asg (v := .slice _ _ _) rfl) ?_
    refine TL.nil (nt ?_)
    refine TC.ret (rt ?_)
    exact Ret.i ⟨none, 0⟩ [_] ⟨rfl, trivial⟩ rfl trivial ((slc_nil 3 1 _).trans (ent_takeE 0 rfl (by simp [ints]) (ent_take 0 rfl (ent_nil _))))
  · refine TC.condF rfl ?_
    refine TC.skip (nt ?_)
    refine TC.seq ?_
    refine TC.region ?_
    refine e rfl ?_
    refine bs (cs := []) rfl ?_
    intro b1
    refine q rfl rfl (mv (v := .slice _ _ _) rfl) ?_
    refine e rfl ?_
    refine ap 8 rfl rfl rfl rfl rfl (by omega) (ints_all1 rfl) (ints_one1 _) (by omega) (by simp only [maxLen]; omega) ?_
    intro ad1 cap1
    refine q rfl rfl (asg (v := .slice _ _ _) rfl) ?_
    refine TL.nil (nt ?_)
    refine TC.ret ?_
    exact Ret.i ⟨ad1, cap1⟩ [_] ⟨rfl, trivial⟩ (by rw [Nat.zero_add]; rfl) trivial (ent_takeE 0 rfl (by rw [Nat.zero_add, List.nil_append]) (ent_take 0 rfl (ent_nil _)))

structure Fn where
  id : Int
  par : Int
  sp : Int
  sl : Int
def spN (t : Fn) : Int × Int := (t.sp, t.sl)
def kidsN (L : List Fn) (p : Int) : List Int := (L.filter fun t => decide (t.par = p ∧ p ≠ 0)).map (·.id)
def hasN (L : List Fn) (id : Int) : Prop := ∃ t ∈ L, t.id = id
instance (L : List Fn) (id : Int) : Decidable (hasN L id) := inferInstanceAs (Decidable (∃ t ∈ L, t.id = id))
def fN (A : Int → Nat) (L : List Fn) : Int → Option Value := fun id => if hasN L id then some (.pointer (some ⟨A id, 0, none⟩)) else none
def hasO (L : List Fn) (o : Int × Int) : Prop := ∃ t ∈ L, spN t = o
instance (L : List Fn) (o : Int × Int) : Decidable (hasO L o) := inferInstanceAs (Decidable (∃ t ∈ L, spN t = o))
def findO (L : List Fn) (o : Int × Int) : Int := match L.find? fun t => decide (spN t = o) with
  | some t => t.id
  | none => 0
def fO (L : List Fn) : Int × Int → Option Value := fun o => if hasO L o then some (.int .i64 (findO L o)) else none
def NdN (L : List Fn) : Prop := (L.map (·.id)).Nodup
def NdO (L : List Fn) : Prop := (L.map spN).Nodup
structure WI (L : List Fn) (last : Int) : Prop where
  nd : NdN L
  no : NdO L
  rg : ∀ t ∈ L, 1 ≤ t.id ∧ t.id ≤ last ∧ 0 ≤ t.par ∧ t.par < t.id
  len : (L.length : Int) ≤ last
structure FRep where
  ad : Int → Option Addr
  cap : Int → Nat
  mb : Nat
  ob : Nat
abbrev nP (A : Int → Nat) (ad : Int → Option Addr) (cap : Int → Nat) (L : List Fn) (t : Fn) : HP := pts (A t.id) 66 [.int .i64 t.sp, .int .i64 t.sl, .int .i64 t.par, .slice (ad t.id) (kidsN L t.id).length (cap t.id)]
abbrev kP (ad : Int → Option Addr) (cap : Int → Nat) (L : List Fn) (t : Fn) : HP := slc 3 1 (ad t.id) (kidsN L t.id).length (cap t.id) (ints (kidsN L t.id))
abbrev hdF (mb ob : Nat) (last : Int) : List Value := [.map (some mb), .map (some ob), .int .i64 last]
def isFa (b : Nat) (A : Int → Nat) (L : List Fn) (last : Int) : HP := EX fun y : FRep => pure' (WI L last) (sepL [pts b 64 (hdF y.mb y.ob last), mapF encI y.mb (fN A L) L.length, mapF enc2 y.ob (fO L) L.length, bigS (nP A y.ad y.cap L) L, bigS (kP y.ad y.cap L) L])
def isF (b : Nat) (L : List Fn) (last : Int) : HP := EX fun A : Int → Nat => pure' True (sepL [isFa b A L last])
theorem NdN.perm {S T : List Fn} (h : NdN S) (p : T.Perm S) : NdN T := (p.map _).nodup_iff.2 h
theorem NdN.inj {S : List Fn} (h : NdN S) {t u : Fn} (ht : t ∈ S) (hu : u ∈ S) (e : t.id = u.id) : t = u := by
  obtain ⟨L, hL⟩ := perm_mem ht
  rcases List.mem_cons.1 (hL.mem_iff.1 hu) with h1 | h1
  · exact h1.symm
  · exact absurd (List.mem_map.2 ⟨u, h1, e.symm⟩) (List.nodup_cons.1 (h.perm hL.symm)).1
theorem NdO.inj {S : List Fn} (h : NdO S) {t u : Fn} (ht : t ∈ S) (hu : u ∈ S) (e : spN t = spN u) : t = u := by
  obtain ⟨L, hL⟩ := perm_mem ht
  rcases List.mem_cons.1 (hL.mem_iff.1 hu) with h1 | h1
  · exact h1.symm
  · exact absurd (List.mem_map.2 ⟨u, h1, e.symm⟩) (List.nodup_cons.1 ((hL.symm.map _).nodup_iff.2 h)).1
def offN (S : List Fn) (id : Int) : List Fn := S.filter fun t => decide (t.id ≠ id)
theorem offN_perm {S L : List Fn} {t : Fn} (h : NdN S) (hL : S.Perm (t :: L)) : (offN S t.id).Perm L := by
  have h1 := hL.filter fun u => decide (u.id ≠ t.id)
  rw [List.filter_cons_of_neg (by simp)] at h1
  have h2 : L.filter (fun u => decide (u.id ≠ t.id)) = L := List.filter_eq_self.2 fun u hu => by
    have := (List.nodup_cons.1 (h.perm hL.symm)).1
    simp only [decide_eq_true_eq]
    exact fun e => this (List.mem_map.2 ⟨u, hu, e⟩)
  rw [h2] at h1; exact h1
theorem offN_mem {S : List Fn} {x : Int} {t : Fn} : t ∈ offN S x ↔ t ∈ S ∧ t.id ≠ x := by simp [offN]
theorem offN_has {S : List Fn} {x y : Int} : hasN (offN S x) y ↔ hasN S y ∧ y ≠ x := by
  constructor
  · rintro ⟨t, ht, rfl⟩
    exact ⟨⟨t, (offN_mem.1 ht).1, rfl⟩, (offN_mem.1 ht).2⟩
  · rintro ⟨⟨t, ht, rfl⟩, h⟩
    exact ⟨t, offN_mem.2 ⟨ht, h⟩, rfl⟩
theorem offN_len {S : List Fn} (hn : NdN S) {t : Fn} (ht : t ∈ S) : (offN S t.id).length + 1 = S.length := by
  obtain ⟨L, hL⟩ := perm_mem ht
  rw [(offN_perm hn hL).length_eq, hL.length_eq]; rfl
theorem fN_yes {A : Int → Nat} {S : List Fn} {id : Int} (h : hasN S id) : fN A S id = some (.pointer (some ⟨A id, 0, none⟩)) := if_pos h
theorem fN_no {A : Int → Nat} {S : List Fn} {id : Int} (h : ¬ hasN S id) : fN A S id = none := if_neg h
theorem fN_congr {A : Int → Nat} {S T : List Fn} (h : ∀ x, hasN T x ↔ hasN S x) : fN A T = fN A S := by
  funext x; simp only [fN, h x]
theorem fN_add {A : Int → Nat} {S : List Fn} {t : Fn} (b : Nat) : fN (updI A t.id b) (S ++ [t]) = updF (fN A S) t.id (.pointer (some ⟨b, 0, none⟩)) := by
  funext x
  simp only [fN, updF]
  have hh : hasN (S ++ [t]) x ↔ hasN S x ∨ t.id = x := by simp [hasN, or_and_right, exists_or]
  by_cases e : x = t.id
  · rw [if_pos (hh.2 (.inr e.symm)), if_pos e, e, updI_same]
  · rw [if_neg e, updI_ne e]
    by_cases h : hasN S x
    · rw [if_pos (hh.2 (.inl h)), if_pos h]
    · rw [if_neg (fun h2 => (hh.1 h2).elim h (fun e2 => e e2.symm)), if_neg h]
theorem fN_off {A : Int → Nat} {S : List Fn} (x : Int) : fN A (offN S x) = delF (fN A S) x := by
  funext y
  simp only [fN, delF]
  by_cases e : y = x
  · rw [if_pos e, if_neg (fun h => (offN_has.1 h).2 e)]
  · rw [if_neg e]
    by_cases h : hasN S y
    · rw [if_pos h, if_pos (offN_has.2 ⟨h, e⟩)]
    · rw [if_neg h, if_neg (fun h2 => h (offN_has.1 h2).1)]
theorem findO_yes {S : List Fn} (h : NdO S) {t : Fn} (ht : t ∈ S) : findO S (spN t) = t.id := by
  rw [findO]
  cases hf : S.find? fun u => decide (spN u = spN t) with
  | none => rw [List.find?_eq_none] at hf; exact absurd (decide_eq_true rfl) (hf t ht)
  | some u =>
    have h1 := List.find?_some hf
    have h2 := List.mem_of_find?_eq_some hf
    rw [h.inj h2 ht (by simpa using h1)]
theorem findO_no {S : List Fn} {o : Int × Int} (h : ¬ hasO S o) : findO S o = 0 := by
  have : S.find? (fun u => decide (spN u = o)) = none := by
    rw [List.find?_eq_none]; intro u hu; simp only [decide_eq_true_eq]; exact fun e => h ⟨u, hu, e⟩
  rw [findO, this]
theorem fO_get (S : List Fn) (o : Int × Int) : (fO S o).getD (.int .i64 0) = .int .i64 (findO S o) := by
  rw [fO]
  split
  · rfl
  · rename_i h; rw [findO_no h]; rfl
theorem fO_no {S : List Fn} {o : Int × Int} (h : ¬ hasO S o) : fO S o = none := if_neg h
theorem fO_yes {S : List Fn} (hn : NdO S) {t : Fn} (ht : t ∈ S) : fO S (spN t) = some (.int .i64 t.id) := by rw [fO, if_pos ⟨t, ht, rfl⟩, findO_yes hn ht]
theorem find_filter {α : Type} {p r : α → Bool} : ∀ {l : List α}, (∀ u ∈ l, p u = true → r u = true) → (l.filter r).find? p = l.find? p
  | [], _ => rfl
  | a :: l, h => by
    have ih := find_filter (p := p) (r := r) (l := l) fun u hu => h u (by simp [hu])
    by_cases hr : r a = true
    · rw [List.filter_cons_of_pos hr, List.find?_cons, List.find?_cons, ih]
    · have hp : p a = false := by
        cases hp : p a with
        | false => rfl
        | true => exact absurd (h a (by simp) hp) hr
      rw [List.filter_cons_of_neg hr, List.find?_cons, hp, ih]
theorem fO_off {S : List Fn} (hn : NdN S) (ho : NdO S) {t : Fn} (ht : t ∈ S) : fO (offN S t.id) = delF (fO S) (spN t) := by
  funext o
  simp only [fO, delF]
  by_cases e : o = spN t
  · rw [if_pos e, if_neg]
    rintro ⟨u, hu, h1⟩
    have h2 := offN_mem.1 hu
    exact h2.2 (by rw [ho.inj h2.1 ht (h1.trans e)])
  · rw [if_neg e]
    have hh : hasO (offN S t.id) o ↔ hasO S o := by
      constructor
      · rintro ⟨u, hu, h1⟩; exact ⟨u, (offN_mem.1 hu).1, h1⟩
      · rintro ⟨u, hu, h1⟩
        refine ⟨u, offN_mem.2 ⟨hu, fun h2 => e ?_⟩, h1⟩
        rw [← h1, hn.inj hu ht h2]
    have hf : findO (offN S t.id) o = findO S o := by
      rw [findO, findO, offN, find_filter]
      intro u hu h1
      simp only [decide_eq_true_eq] at h1 ⊢
      intro h2; exact e (by rw [← h1, hn.inj hu ht h2])
    by_cases h : hasO S o
    · rw [if_pos h, if_pos (hh.2 h), hf]
    · rw [if_neg h, if_neg (fun h2 => h (hh.1 h2))]
theorem fO_add {S : List Fn} {t : Fn} (h : ¬ hasO S (spN t)) : fO (S ++ [t]) = updF (fO S) (spN t) (.int .i64 t.id) := by
  funext o
  simp only [fO, updF]
  have hh : hasO (S ++ [t]) o ↔ hasO S o ∨ spN t = o := by simp [hasO, or_and_right, exists_or]
  by_cases e : o = spN t
  · subst e
    rw [if_pos (hh.2 (.inr rfl)), if_pos rfl, findO, List.find?_append]
    have : S.find? (fun u => decide (spN u = spN t)) = none := by
      rw [List.find?_eq_none]; intro u hu; simp only [decide_eq_true_eq]; exact fun e => h ⟨u, hu, e⟩
    rw [this]; simp
  · rw [if_neg e]
    by_cases h2 : hasO S o
    · rw [if_pos (hh.2 (.inl h2)), if_pos h2, findO, findO, List.find?_append]
      obtain ⟨u, hu, h3⟩ := h2
      cases hf : S.find? fun u => decide (spN u = o) with
      | none => rw [List.find?_eq_none] at hf; exact absurd h3 (by simpa using hf u hu)
      | some v => rfl
    · rw [if_neg h2, if_neg (fun h3 => (hh.1 h3).elim h2 (fun e2 => e e2.symm))]
theorem kidsN_mem {S : List Fn} {p x : Int} : x ∈ kidsN S p ↔ p ≠ 0 ∧ ∃ t ∈ S, t.par = p ∧ t.id = x := by
  simp only [kidsN, List.mem_map, List.mem_filter, decide_eq_true_eq]
  exact ⟨fun ⟨t, ⟨h1, h2, h3⟩, h4⟩ => ⟨h3, t, h1, h2, h4⟩, fun ⟨h3, t, h1, h2, h4⟩ => ⟨t, ⟨h1, h2, h3⟩, h4⟩⟩
theorem kidsN_app (S T : List Fn) (p : Int) : kidsN (S ++ T) p = kidsN S p ++ kidsN T p := by simp [kidsN]
theorem kidsN_one {t : Fn} {p : Int} (h : t.par = p) (h0 : p ≠ 0) : kidsN [t] p = [t.id] := by simp [kidsN, h, h0]
theorem kidsN_one_ne {t : Fn} {p : Int} (h : t.par ≠ p) : kidsN [t] p = [] := by simp [kidsN, h]
theorem kidsN_zero (S : List Fn) : kidsN S 0 = [] := by simp [kidsN]
theorem kidsN_len (S : List Fn) (p : Int) : (kidsN S p).length ≤ S.length := by rw [kidsN, List.length_map]; exact List.length_filter_le _ _
theorem kidsN_off (S : List Fn) (p x : Int) : kidsN (offN S x) p = (kidsN S p).filter fun y => decide (y ≠ x) := by
  rw [kidsN, kidsN, List.filter_map, offN, List.filter_filter, List.filter_filter]
  congr 1
  refine List.filter_congr fun t _ => ?_
  simp only [Function.comp_apply, Bool.and_comm]
theorem kidsN_off_ne {S : List Fn} (hn : NdN S) {t : Fn} (ht : t ∈ S) {p : Int} (hp : t.par ≠ p) : kidsN (offN S t.id) p = kidsN S p := by
  rw [kidsN_off]
  refine List.filter_eq_self.2 fun y hy => ?_
  obtain ⟨_, u, hu, h1, rfl⟩ := kidsN_mem.1 hy
  simp only [decide_eq_true_eq]
  intro e
  rw [hn.inj hu ht e] at h1; exact hp h1
theorem kidsN_del {S : List Fn} {p x : Int} : (kidsN S p).filter (notP fun y => decide (y = x)) = kidsN (offN S x) p := by
  rw [kidsN_off]
  exact List.filter_congr fun y _ => by simp [notP]
theorem kidsN_nd {S : List Fn} (h : NdN S) (p : Int) : (kidsN S p).Nodup := h.sublist (List.filter_sublist.map _)
theorem WI.nil : WI [] 0 := ⟨List.nodup_nil, List.nodup_nil, (fun t h => by cases h), Int.le_refl _⟩
theorem WI.sub {S T : List Fn} {last : Int} (h : WI S last) (hs : T.Sublist S) : WI T last :=
  ⟨h.nd.sublist (hs.map _), h.no.sublist (hs.map _), fun t ht => h.rg t (hs.subset ht), by have := h.len; have := hs.length_le; omega⟩
theorem WI.off {S : List Fn} {last : Int} (h : WI S last) (x : Int) : WI (offN S x) last := h.sub List.filter_sublist
theorem WI.add {S : List Fn} {last : Int} (h : WI S last) {t : Fn} (ht : t.id = last + 1) (hp : 0 ≤ t.par ∧ t.par ≤ last) (ho : ¬ hasO S (spN t)) : WI (S ++ [t]) (last + 1) where
  nd := by
    rw [NdN, List.map_append, List.nodup_append]
    refine ⟨h.nd, by simp, fun x hx1 y hy => ?_⟩
    obtain ⟨a, ha, rfl⟩ := List.mem_map.1 hx1
    simp only [List.map_cons, List.map_nil, List.mem_singleton] at hy
    have := h.rg a ha
    omega
  no := by
    rw [NdO, List.map_append, List.nodup_append]
    refine ⟨h.no, by simp, fun x hx1 y hy => ?_⟩
    obtain ⟨a, ha, rfl⟩ := List.mem_map.1 hx1
    simp only [List.map_cons, List.map_nil, List.mem_singleton] at hy
    rw [hy]; exact fun e2 => ho ⟨a, ha, e2⟩
  rg := fun u hu => by
    have hl := h.len
    rcases List.mem_append.1 hu with hu | hu
    · have := h.rg u hu; omega
    · rw [List.mem_singleton.1 hu]; omega
  len := by have := h.len; rw [List.length_append, List.length_singleton]; omega
/-- What Add does. -/
def addN (S : List Fn) (last par : Int) (o : Int × Int) : List Fn × Int × Int × Int := if ¬ hasN S par ∧ par ≠ 0 then (S, last, 0, 6) else if findO S o ≠ 0 then (S, last, 0, 7) else (S ++ [⟨last + 1, par, o.1, o.2⟩], last + 1, last + 1, 0)
def moveN (S : List Fn) (u : Fn) (p : Int) : List Fn := offN S u.id ++ [⟨u.id, p, u.sp, u.sl⟩]
theorem WI.move {S : List Fn} {last : Int} (h : WI S last) {u : Fn} (hu : u ∈ S) {p : Int} (hp : 0 ≤ p ∧ p < u.id) : WI (moveN S u p) last where
  nd := by
    rw [NdN, moveN, List.map_append, List.nodup_append]
    refine ⟨(h.off _).nd, by simp, fun x hx1 y hy => ?_⟩
    obtain ⟨a, ha, rfl⟩ := List.mem_map.1 hx1
    simp only [List.map_cons, List.map_nil, List.mem_singleton] at hy
    rw [hy]; exact (offN_mem.1 ha).2
  no := by
    rw [NdO, moveN, List.map_append, List.nodup_append]
    refine ⟨(h.off _).no, by simp, fun x hx1 y hy => ?_⟩
    obtain ⟨a, ha, rfl⟩ := List.mem_map.1 hx1
    simp only [List.map_cons, List.map_nil, List.mem_singleton] at hy
    rw [hy]; intro e2
    have ha2 := offN_mem.1 ha
    exact ha2.2 (by rw [h.no.inj ha2.1 hu e2])
  rg := fun v hv => by
    rcases List.mem_append.1 hv with hv | hv
    · exact h.rg v (offN_mem.1 hv).1
    · rw [List.mem_singleton.1 hv]; have := h.rg u hu; dsimp only; omega
  len := by have := h.len; have := offN_len h.nd hu; rw [moveN, List.length_append, List.length_singleton]; omega
theorem hasO_find {S : List Fn} {last : Int} (h : WI S last) (o : Int × Int) : hasO S o ↔ findO S o ≠ 0 := by
  constructor
  · rintro ⟨t, ht, rfl⟩
    rw [findO_yes h.no ht]; have := h.rg t ht; omega
  · intro h1
    by_cases h2 : hasO S o
    · exact h2
    · exact absurd (findO_no h2) h1
theorem hasN_pos {S : List Fn} {last : Int} (h : WI S last) {x : Int} (hx : hasN S x) : 1 ≤ x ∧ x ≤ last := by
  obtain ⟨t, ht, rfl⟩ := hx
  have := h.rg t ht; omega

end Go.Proofs.Ytffoeolgjgpmjaa
