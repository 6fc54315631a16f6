/-
  Proved here: what functions of this program compute, each as a contract over symbolic states, under the premises that each theorem names (most lines printed by a program of the prover).
-/
import Derived.Test.YtmffldmipddngaaQtF
import Derived.Test.YtmffldmipddngaaQLibK
namespace Go.Proofs.Ytmffldmipddngaa
open Go Go.QM
def fqC (t : Qn) : List Value := ints [t.id, t.par, t.lim, t.chg]
theorem fqC_sz (t : Qn) : (fqC t).length = 4 := rfl
def fqsC (S : List Qn) : List Value := S.flatMap fqC
theorem fqsC_length (S : List Qn) : (fqsC S).length = S.length * 4 := flat_length fqC_sz S
theorem fqs_take (S : List Qn) (k : Nat) : (fqsC S).take (k * 4) = fqsC (S.take k) := flat_take fqC_sz S k
theorem fqs_drop (S : List Qn) (k : Nat) : ((fqsC S).drop (k * 4)).take ((S.length - k) * 4) = fqsC (S.drop k) := by
  rw [List.take_of_length_le (by rw [List.length_drop, fqsC_length]; omega)]; exact flat_drop fqC_sz S k
theorem fqs_all (S : List Qn) : (fqsC S).take (S.length * 4) = fqsC S := List.take_of_length_le (by rw [fqsC_length]; omega)
theorem fqs_one : ∀ (S : List Qn), (fqsC S).all Value.oneCell' = true
  | [] => rfl
  | t :: S => by have := fqs_one S; rw [fqsC] at this ⊢; rw [List.flatMap_cons, List.all_append, this]; rfl
theorem fqs_app (S T : List Qn) : fqsC S ++ fqsC T = fqsC (S ++ T) := by simp [fqsC]
def isRq (b : Nat) (L : List Qn) (nxt : Int) : HP := EX fun y : Option Addr × Nat => pure' True (sepL [pts b 48 [.slice y.1 L.length y.2, .int .i64 nxt], slc 50 4 y.1 L.length y.2 (fqsC L)])
theorem qidx_at {α : Type} {p : α → Bool} {L : List α} {i : Nat} {x : α} (hx : L[i]? = some x) (hp : p x = true) (hn : ∀ j t, j < i → L[j]? = some t → p t = false) : L.findIdx? p = some i := by
  rw [List.findIdx?_eq_some_iff_getElem]
  obtain ⟨h1, h2⟩ := List.getElem?_eq_some_iff.1 hx
  refine ⟨h1, by rw [h2]; exact hp, fun j hj => ?_⟩
  rw [hn j L[j] hj (List.getElem?_eq_getElem (by omega))]; simp
def atQ (L : List Qn) (id : Int) : Int := match L.findIdx? fun x => decide (x.id = id) with
  | some i => (i : Int)
  | none => -1
theorem atQ_no {L : List Qn} {id : Int} (h : ¬ hasQ L id) : atQ L id = -1 := by
  have : L.findIdx? (fun x => decide (x.id = id)) = none := by
    rw [List.findIdx?_eq_none_iff]; intro x hx; simp only [decide_eq_false_iff_not]; exact fun e2 => h ⟨x, hx, e2⟩
  rw [atQ, this]
theorem atQ_yes {L : List Qn} (hn : NdQ L) {t : Qn} (ht : t ∈ L) : ∃ i : Nat, atQ L t.id = (i : Int) ∧ L[i]? = some t := by
  obtain ⟨i, hi⟩ := List.getElem?_of_mem ht
  refine ⟨i, ?_, hi⟩
  rw [atQ, qidx_at hi (by simp) fun j u hj hu => ?_]
  rw [decide_eq_false_iff_not]
  intro e
  obtain ⟨a1, b1⟩ := List.getElem?_eq_some_iff.1 hi
  obtain ⟨a2, b2⟩ := List.getElem?_eq_some_iff.1 hu
  have := List.pairwise_iff_getElem.1 hn j i (by simpa using a2) (by simpa using a1) hj
  rw [List.getElem_map, List.getElem_map, b1, b2] at this; exact this e
theorem cutQ_off {L : List Qn} {i : Nat} {x : Qn} (hn : NdQ L) (hx : L[i]? = some x) : L.take i ++ L.drop (i + 1) = offQ L x.id := by
  have hp := perm_take hx
  have hs : ∀ a ∈ L.take i ++ L.drop (i + 1), a.id ≠ x.id := fun a ha e2 => (List.nodup_cons.1 (hn.perm hp.symm)).1 (List.mem_map.2 ⟨a, ha, e2⟩)
  obtain ⟨h1, h2⟩ := List.getElem?_eq_some_iff.1 hx
  have hQ : L = L.take i ++ x :: L.drop (i + 1) := by rw [← h2, ← List.drop_eq_getElem_cons h1, List.take_append_drop]
  conv => rhs; rw [hQ]
  rw [offQ, List.filter_append, List.filter_cons_of_neg (by simp)]
  rw [List.filter_eq_self.2 (fun a ha => by simpa using hs a (by simp [ha])), List.filter_eq_self.2 (fun a ha => by simpa using hs a (by simp [ha]))]
theorem cutQ_len {L : List Qn} {i : Nat} (h : i < L.length) : (L.take i ++ L.drop (i + 1)).length = L.length - 1 := by simp; omega
theorem set_at {L : List Qn} {i : Nat} {t : Qn} (hn : NdQ L) (hx : L[i]? = some t) (c : Int) : L.set i ⟨t.id, t.par, t.lim, c⟩ = setQ L t.id c := by
  have hp := perm_take hx
  have hs : ∀ a ∈ L.take i ++ L.drop (i + 1), a.id ≠ t.id := fun a ha e2 => (List.nodup_cons.1 (hn.perm hp.symm)).1 (List.mem_map.2 ⟨a, ha, e2⟩)
  obtain ⟨h1, h2⟩ := List.getElem?_eq_some_iff.1 hx
  have hQ : L = L.take i ++ t :: L.drop (i + 1) := by rw [← h2, ← List.drop_eq_getElem_cons h1, List.take_append_drop]
  have hc : ∀ S : List Qn, (∀ a ∈ S, a.id ≠ t.id) → S.map (fun u : Qn => if u.id = t.id then (⟨u.id, u.par, u.lim, c⟩ : Qn) else u) = S := fun S h => by
    conv => rhs; rw [← List.map_id S]
    exact List.map_congr_left fun u hu => by rw [if_neg (h u hu)]; rfl
  rw [List.set_eq_take_append_cons_drop, if_pos h1]
  conv => rhs; rw [hQ]
  rw [setQ, List.map_append, List.map_cons, if_pos rfl, hc _ fun a ha => hs a (by simp [ha]), hc _ fun a ha => hs a (by simp [ha])]
theorem kidQ_snoc {L : List Qn} {k : Nat} {t : Qn} (h : L[k]? = some t) (x : Int) : kidQ (L.take (k + 1)) x = kidQ (L.take k) x + (if t.par = x then 1 else 0) := by
  rw [List.take_add_one, h, Option.toList, kidQ_app, kidQ_one]
def kidRq (L : List Qn) (id : Int) : Int := if hasQ L id then kidQ L id else 0
def mayQ (m : Int) : Bool := decide (0 ≤ m ∧ m ≤ 1073741824)

set_option maxRecDepth 4000 in
theorem rmay_ok (m : Int) : FSpec Try.prog 18 [.int .i64 m] noRd [] (fun _ : Unit => .bool (mayQ m)) (fun _ => True) (fun _ => []) := by
  refine FSpec.intro (rs := [.tmp 2]) (by kernel_rfl) Try.func18 rfl Try.ntmps18 (by rfl) rfl ?_
  intro F _
  change TC _ _ _ _ _ _ _ (sepL [_])
  refine TC.seq ?_
  refine TC.region ?_
  refine q rfl rfl (asg (v := .bool _) rfl) ?_
  refine TL.nil (nt ?_)
  refine TC.seq ?_
  refine TC.region ?_
  refine q rfl rfl (mv (v := .int _ _) rfl) ?_
  refine q rfl rfl (geq rfl rfl) ?_
  refine q rfl rfl (mv (v := .bool _) rfl) ?_
  refine TL.split 5 rfl (fun h0 => ?_) (fun h0 => ?_)
  · have h0 := of_decide_eq_true h0
    have e1 : mayQ m = decide (m ≤ 1073741824) := by rw [mayQ, Bool.eq_iff_iff]; simp; omega
    refine qg rfl rfl rfl (mv (v := .int _ _) rfl) ?_
    refine qg rfl rfl rfl (leq rfl rfl) ?_
    first | refine q rfl rfl (pkT (v := .bool _) rfl rfl) ?_ | refine q rfl rfl (pkF (v := .bool _) rfl rfl) ?_
    refine q rfl rfl (asg (v := .bool _) rfl) ?_
    refine TL.nil (nt ?_)
    refine TC.ret ?_
    exact Ret.i () [_] ⟨rfl, trivial⟩ (by rw [e1]; rfl) trivial (ent_take 0 rfl (ent_nil _))
  · have h0 := of_decide_eq_false h0
    have e1 : mayQ m = false := by rw [mayQ, decide_eq_false_iff_not]; omega
    refine qs rfl rfl ?_
    refine qs rfl rfl ?_
    first | refine q rfl rfl (pkT (v := .bool _) rfl rfl) ?_ | refine q rfl rfl (pkF (v := .bool _) rfl rfl) ?_
    refine q rfl rfl (asg (v := .bool _) rfl) ?_
    refine TL.nil (nt ?_)
    refine TC.ret ?_
    exact Ret.i () [_] ⟨rfl, trivial⟩ (by rw [e1]; rfl) trivial (ent_take 0 rfl (ent_nil _))

set_option maxRecDepth 4000 in
theorem rnew_ok (m : Int) : FSpec Try.prog 20 [.int .i64 m] noRd [] (fun b : Nat => .pointer (some ⟨b, 0, none⟩)) (fun _ => True) (fun b => [isRq b [⟨0, -1, m, 0⟩] 1]) := by
  refine FSpec.intro (rs := [.tmp 2]) (by kernel_rfl) Try.func20 rfl Try.ntmps20 (by rfl) rfl ?_
  intro F _
  change TC _ _ _ _ _ _ _ (sepL [_])
  refine TC.seq ?_
  refine TC.region ?_
  refine q rfl rfl (asg (v := .pointer _) rfl) ?_
  refine TL.nil (nt ?_)
  refine TC.seq ?_
  refine TC.region ?_
  refine q rfl rfl (mv (v := .int _ _) rfl) ?_
  first | refine q rfl rfl (bld (cs := ints [_, _, _, _]) rfl) ?_ | refine q rfl rfl (bld (cs := [_, _, _, _]) rfl) ?_
  refine e rfl ?_
  refine bs (cs := ints [_, _, _, _]) rfl ?_
  intro b1
  first | refine q rfl rfl (bld (cs := [.slice _ _ _, .int _ _]) rfl) ?_ | refine q rfl rfl (bld (cs := [_, _]) rfl) ?_
  refine e rfl ?_
  refine bx (v := .agg #[_, _]) (l := [.slice _ _ _, .int _ _]) rfl rfl ?_
  intro b2
  refine q rfl rfl (asg (v := .pointer _) rfl) ?_
  refine TL.nil (nt ?_)
  refine TC.ret ?_
  exact Ret.i b2 [_] ⟨rfl, trivial⟩ rfl trivial (ent_close (⟨some ⟨b1, 0, none⟩, 1⟩ : Option Addr × Nat) trivial (ent_take 0 rfl (ent_take 0 rfl (ent_take 0 rfl (ent_nil _)))))

set_option maxRecDepth 4000 in
theorem rat_ok (b : Nat) (L : List Qn) (nxt : Int) (hW : WQ L nxt) (id : Int) : FSpec Try.prog 25 [.pointer (some ⟨b, 0, none⟩), .int .i64 id] (fun F => ent F (isRq b L nxt)) [] (fun _ : Unit => .int .i64 (atQ L id)) (fun _ => True) (fun _ => []) := by
  refine FSpec.intro (rs := [.tmp 4]) (by kernel_rfl) Try.func25 rfl Try.ntmps25 (by rfl) rfl ?_
  intro F hF
  change TC _ _ _ _ _ _ _ (sepL [_])
  refine TC.openR hF (fun x0 hx0 => ?_)
  obtain ⟨a1, c1⟩ := x0
  clear hx0
  dsimp only
  have hil := fqsC_length L
  have hL32 := hW.len
  refine TC.seq ?_
  refine TC.region ?_
  refine q rfl rfl (asg (v := .int _ _) rfl) ?_
  refine TL.nil (nt ?_)
  refine TC.seq ?_
  refine TC.seq ?_
  refine TC.region ?_
  refine q rfl rfl (asg (v := .int _ _) rfl) ?_
  refine TL.nil (nt ?_)
  refine TC.block ?_
  refine TC.loop (ι := Nat) (fun i => i ≤ L.length ∧ ∀ j t, j < i → L[j]? = some t → t.id ≠ id) (fun i => [(0, .pointer (some ⟨b, 0, none⟩)), (1, .int .i64 id), (5, .int .i64 ((i : Nat) : Int))]) (fun i => sepL [restr F (sepL [pts b 48 [.slice a1 L.length c1, .int .i64 nxt], slc 50 4 a1 L.length c1 (fqsC L)])]) (fun i => L.length - i) 0 ⟨Nat.zero_le _, by intro j t h; omega⟩ ⟨rfl, rfl, rfl, trivial⟩ (ent_take 0 rfl (ent_nil _)) ?_
  rintro k ⟨hk, hno⟩ ρ0
  dsimp only [updL] at hk hno ⊢
  refine TC.seq ?_
  refine TC.seq ?_
  refine TC.region ?_
  refine q rfl rfl (mv (v := .int _ _) rfl) ?_
  refine q rfl rfl (mv (v := .pointer _) rfl) ?_
  first | refine q rfl rfl (nc rfl) ?_ | refine q rfl rfl (ncF rfl) ?_ | refine q rfl rfl (ncS rfl (by first | assumption | (simp [ints_length] <;> omega))) ?_
  first | refine q rfl rfl (fa 0 rfl rfl) ?_ | refine q rfl rfl (faS 0 rfl rfl (by first | assumption | (simp [ints_length] <;> omega))) ?_
  first | refine q rfl rfl (ld rfl rfl rfl) ?_ | refine q rfl rfl (ldS rfl rfl rfl) ?_
  refine q rfl rfl (len 50 4 rfl rfl) ?_
  refine q rfl rfl (lss rfl rfl) ?_
  refine TL.nil (nt ?_)
  first | refine TC.condD rfl (fun hlt => ?_) (fun hlt => ?_) | refine TC.cond rfl (fun hlt => ?_) (fun hlt => ?_)
  · have hlt2 : k < L.length := by omega
    obtain ⟨x, hx⟩ : ∃ x, L[k]? = some x := ⟨L[k], List.getElem?_eq_getElem hlt2⟩
    have hpos : 0 < (fqsC L).length := by omega
    refine TC.skip (nt ?_)
    refine TC.seq ?_
    refine TC.block ?_
    refine TC.seq ?_
    refine TC.region ?_
    refine q rfl rfl (mv (v := .pointer _) rfl) ?_
    first | refine q rfl rfl (nc rfl) ?_ | refine q rfl rfl (ncF rfl) ?_ | refine q rfl rfl (ncS rfl (by first | assumption | (simp [ints_length] <;> omega))) ?_
    first | refine q rfl rfl (fa 0 rfl rfl) ?_ | refine q rfl rfl (faS 0 rfl rfl (by first | assumption | (simp [ints_length] <;> omega))) ?_
    first | refine q rfl rfl (ld rfl rfl rfl) ?_ | refine q rfl rfl (ldS rfl rfl (flat_ld fqC_sz hx 0 (by omega) rfl)) ?_ | refine q rfl rfl (ldS rfl rfl rfl) ?_
    refine q rfl rfl (mv (v := .int _ _) rfl) ?_
    first | refine q rfl rfl (ixS 50 4 rfl rfl rfl (by omega) (by first | assumption | (simp [ints_length] <;> omega))) ?_ | refine q rfl rfl (ixJ 50 4 rfl rfl rfl (by omega) (by omega) (by first | assumption | (simp [ints_length] <;> omega))) ?_ | refine q rfl rfl (ix 50 4 rfl rfl rfl (by omega) (by omega) rfl) ?_
    first | refine q rfl rfl (fa 0 rfl rfl) ?_ | refine q rfl rfl (faS 0 rfl rfl (by first | assumption | (simp [ints_length] <;> omega))) ?_
    first | refine q rfl rfl (ld rfl rfl rfl) ?_ | refine q rfl rfl (ldS rfl rfl (flat_ld fqC_sz hx 0 (by omega) rfl)) ?_ | refine q rfl rfl (ldS rfl rfl rfl) ?_
    refine q rfl rfl (mv (v := .int _ _) rfl) ?_
    refine q rfl rfl (eqI rfl rfl) ?_
    refine TL.nil (nt ?_)
    first | refine TC.condD rfl (fun he => ?_) (fun he => ?_) | refine TC.cond rfl (fun he => ?_) (fun he => ?_)
    · have hr : atQ L id = (k : Int) := by
        rw [atQ, qidx_at (p := fun x : Qn => decide (x.id = id)) hx (by simpa using he) (fun j t hj ht => by simpa using hno j t hj ht)]
      refine TC.seq ?_
      refine TC.region ?_
      refine q rfl rfl (mv (v := .int _ _) rfl) ?_
      refine q rfl rfl (asg (v := .int _ _) rfl) ?_
      refine TL.nil (nt ?_)
      refine TC.ret (rb (rt (rt (rb (rt ?_)))))
      exact Ret.i () [_] ⟨rfl, trivial⟩ (by rw [hr]; rfl) trivial (ent_takeF 0 rfl (ent_nil _))
    · refine TC.skip (nb (nt ?_))
      refine TC.region ?_
      refine q rfl rfl (mv (v := .int _ _) rfl) ?_
      first | refine q rfl rfl (addI rfl rfl (by omega) (by omega)) ?_ | refine q rfl rfl (add rfl rfl rfl) ?_
      refine q rfl rfl (asg (v := .int _ _) rfl) ?_
      refine TL.nil (nt ?_)
      exact ⟨rfl, (k + 1), ⟨by omega, fun j t hj ht => by rcases Nat.lt_succ_iff_lt_or_eq.1 hj with h | h; exact hno j t h ht; subst h; rw [hx] at ht; cases ht; exact he⟩, (by omega), ⟨rfl, rfl, rfl, trivial⟩, (ent_take 0 rfl (ent_nil _))⟩
  · have hr : atQ L id = -1 := atQ_no (by
      rintro ⟨e1, he1, he2⟩
      obtain ⟨j, hj⟩ := List.getElem?_of_mem he1
      exact hno j e1 (by have := (List.getElem?_eq_some_iff.1 hj).1; omega) hj he2)
    refine TC.exit (et (et (eb (nt ?_))))
    refine TC.seq ?_
    refine TC.region ?_
    refine q rfl rfl (asg (v := .int _ _) rfl) ?_
    refine TL.nil (nt ?_)
    refine TC.ret ?_
    exact Ret.i () [_] ⟨rfl, trivial⟩ (by rw [hr]; rfl) trivial (ent_takeF 0 rfl (ent_nil _))

set_option maxRecDepth 4000 in
theorem ruse_ok (b : Nat) (L : List Qn) (nxt : Int) (hW : WQ L nxt) (id : Int) : FSpec Try.prog 26 [.pointer (some ⟨b, 0, none⟩), .int .i64 id] (fun F => ent F (isRq b L nxt)) [] (fun _ : Unit => .tuple #[.int .i64 (useQ L id), .int .i64 (kidRq L id)]) (fun _ => True) (fun _ => []) := by
  refine FSpec.intro (rs := [.tmp 4, .tmp 5]) (by kernel_rfl) Try.func26 rfl Try.ntmps26 (by rfl) rfl ?_
  intro F hF
  change TC _ _ _ _ _ _ _ (sepL [_])
  refine TC.seq ?_
  refine TC.region ?_
  refine q rfl rfl (asg (v := .int _ _) rfl) ?_
  refine q rfl rfl (asg (v := .int _ _) rfl) ?_
  refine TL.nil (nt ?_)
  refine TC.seq ?_
  refine TC.region ?_
  refine q rfl rfl (mv (v := .pointer _) rfl) ?_
  refine q rfl rfl (mv (v := .int _ _) rfl) ?_
  refine e rfl ?_
  refine cl (rat_ok b L nxt hW id) rfl (picked_nil _) ((ent_one 0 rfl).trans hF) ?_
  intro _ _
  change TL _ _ _ _ _ _ _ _ (sepL [_])
  by_cases h : hasQ L id
  · obtain ⟨t, ht, rfl⟩ := h
    have h : hasQ L t.id := ⟨t, ht, rfl⟩
    obtain ⟨e1, e2, e3, e4⟩ := use_yes hW.nd ht
    have hb := hW.big ht
    obtain ⟨j, h1, h2⟩ := atQ_yes hW.nd ht
    have hj := (List.getElem?_eq_some_iff.1 h2).1
    have hk : kidRq L t.id = kidQ L t.id := if_pos h
    rw [e1, hk, h1]
    refine q rfl rfl (asg (v := .int _ _) rfl) ?_
    refine TL.nil (nt ?_)
    refine TC.seq ?_
    refine TC.seq ?_
    refine TC.region ?_
    refine q rfl rfl (mv (v := .int _ _) rfl) ?_
    refine q rfl rfl (lss rfl rfl) ?_
    refine TL.nil (nt ?_)
    refine TC.condD rfl (fun hc2 => absurd hc2 (by omega)) (fun hc2 => ?_)
    refine TC.skip (nt ?_)
    refine TC.seq ?_
    refine TC.openR hF (fun x0 hx0 => ?_)
    obtain ⟨a1, c1⟩ := x0
    clear hx0
    dsimp only
    have hil := fqsC_length L
    have hL32 := hW.len
    have hpos : 0 < (fqsC L).length := by omega
    refine TC.region ?_
    refine q rfl rfl (mv (v := .pointer _) rfl) ?_
    first | refine q rfl rfl (nc rfl) ?_ | refine q rfl rfl (ncF rfl) ?_ | refine q rfl rfl (ncS rfl (by first | assumption | (simp [ints_length] <;> omega))) ?_
    first | refine q rfl rfl (fa 0 rfl rfl) ?_ | refine q rfl rfl (faS 0 rfl rfl (by first | assumption | (simp [ints_length] <;> omega))) ?_
    first | refine q rfl rfl (ld rfl rfl rfl) ?_ | refine q rfl rfl (ldS rfl rfl (flat_ld fqC_sz h2 3 (by omega) rfl)) ?_ | refine q rfl rfl (ldS rfl rfl rfl) ?_
    refine q rfl rfl (mv (v := .int _ _) rfl) ?_
    first | refine q rfl rfl (ixS 50 4 rfl rfl rfl (by omega) (by first | assumption | (simp [ints_length] <;> omega))) ?_ | refine q rfl rfl (ixJ 50 4 rfl rfl rfl (by omega) (by omega) (by first | assumption | (simp [ints_length] <;> omega))) ?_ | refine q rfl rfl (ix 50 4 rfl rfl rfl (by omega) (by omega) rfl) ?_
    first | refine q rfl rfl (fa 3 rfl rfl) ?_ | refine q rfl rfl (faS 3 rfl rfl (by first | assumption | (simp [ints_length] <;> omega))) ?_
    first | refine q rfl rfl (ld rfl rfl rfl) ?_ | refine q rfl rfl (ldS rfl rfl (flat_ld fqC_sz h2 3 (by omega) rfl)) ?_ | refine q rfl rfl (ldS rfl rfl rfl) ?_
    refine q rfl rfl (asg (v := .int _ _) rfl) ?_
    refine q rfl rfl (asg (v := .int _ _) rfl) ?_
    refine TL.nil (nt ?_)
    refine TC.seq ?_
    refine TC.seq ?_
    refine TC.region ?_
    refine q rfl rfl (asg (v := .int _ _) rfl) ?_
    refine TL.nil (nt ?_)
    refine TC.block ?_
    refine TC.loop (ι := Nat) (fun k => k ≤ L.length) (fun k => [(0, .pointer (some ⟨b, 0, none⟩)), (1, .int .i64 t.id), (7, .int .i64 (t.chg + givQ (L.take k) t.id)), (8, .int .i64 (kidQ (L.take k) t.id)), (9, .int .i64 ((k : Nat) : Int))]) (fun k => sepL [restr F (sepL [pts b 48 [.slice a1 L.length c1, .int .i64 nxt], slc 50 4 a1 L.length c1 (fqsC L)])]) (fun k => L.length - k) 0 (Nat.zero_le _) ⟨rfl, rfl, congrArg (Value.int .i64) (Int.add_zero _).symm, rfl, rfl, trivial⟩ (ent_take 0 rfl (ent_nil _)) ?_
    rintro k hk ρ0
    dsimp only [updL] at hk ⊢
    refine TC.seq ?_
    refine TC.seq ?_
    refine TC.region ?_
    refine q rfl rfl (mv (v := .int _ _) rfl) ?_
    refine q rfl rfl (mv (v := .pointer _) rfl) ?_
    first | refine q rfl rfl (nc rfl) ?_ | refine q rfl rfl (ncF rfl) ?_ | refine q rfl rfl (ncS rfl (by first | assumption | (simp [ints_length] <;> omega))) ?_
    first | refine q rfl rfl (fa 0 rfl rfl) ?_ | refine q rfl rfl (faS 0 rfl rfl (by first | assumption | (simp [ints_length] <;> omega))) ?_
    first | refine q rfl rfl (ld rfl rfl rfl) ?_ | refine q rfl rfl (ldS rfl rfl (flat_ld fqC_sz h2 3 (by omega) rfl)) ?_ | refine q rfl rfl (ldS rfl rfl rfl) ?_
    refine q rfl rfl (len 50 4 rfl rfl) ?_
    refine q rfl rfl (lss rfl rfl) ?_
    refine TL.nil (nt ?_)
    first | refine TC.condD rfl (fun hlt => ?_) (fun hlt => ?_) | refine TC.cond rfl (fun hlt => ?_) (fun hlt => ?_)
    · have hlt2 : k < L.length := by omega
      obtain ⟨x, hx⟩ : ∃ x, L[k]? = some x := ⟨L[k], List.getElem?_eq_getElem hlt2⟩
      have hpos : 0 < (fqsC L).length := by omega
      have hxb := hW.big (List.mem_of_getElem? hx)
      have hgs := givQ_snoc hx t.id
      have hks := kidQ_snoc hx t.id
      have hgb := givQ_b hW k t.id
      have hkl := kidQ_le (L.take k) t.id
      have htl : (L.take k).length ≤ 32 := by rw [List.length_take]; omega
      refine TC.skip (nt ?_)
      refine TC.seq ?_
      refine TC.block ?_
      refine TC.seq ?_
      refine TC.region ?_
      refine q rfl rfl (mv (v := .pointer _) rfl) ?_
      first | refine q rfl rfl (nc rfl) ?_ | refine q rfl rfl (ncF rfl) ?_ | refine q rfl rfl (ncS rfl (by first | assumption | (simp [ints_length] <;> omega))) ?_
      first | refine q rfl rfl (fa 0 rfl rfl) ?_ | refine q rfl rfl (faS 0 rfl rfl (by first | assumption | (simp [ints_length] <;> omega))) ?_
      first | refine q rfl rfl (ld rfl rfl rfl) ?_ | refine q rfl rfl (ldS rfl rfl (flat_ld fqC_sz hx 1 (by omega) rfl)) ?_ | refine q rfl rfl (ldS rfl rfl rfl) ?_
      refine q rfl rfl (mv (v := .int _ _) rfl) ?_
      first | refine q rfl rfl (ixS 50 4 rfl rfl rfl (by omega) (by first | assumption | (simp [ints_length] <;> omega))) ?_ | refine q rfl rfl (ixJ 50 4 rfl rfl rfl (by omega) (by omega) (by first | assumption | (simp [ints_length] <;> omega))) ?_ | refine q rfl rfl (ix 50 4 rfl rfl rfl (by omega) (by omega) rfl) ?_
      first | refine q rfl rfl (fa 1 rfl rfl) ?_ | refine q rfl rfl (faS 1 rfl rfl (by first | assumption | (simp [ints_length] <;> omega))) ?_
      first | refine q rfl rfl (ld rfl rfl rfl) ?_ | refine q rfl rfl (ldS rfl rfl (flat_ld fqC_sz hx 1 (by omega) rfl)) ?_ | refine q rfl rfl (ldS rfl rfl rfl) ?_
      refine q rfl rfl (mv (v := .int _ _) rfl) ?_
      refine q rfl rfl (eqI rfl rfl) ?_
      refine TL.nil (nt ?_)
      first | refine TC.condD rfl (fun he => ?_) (fun he => ?_) | refine TC.cond rfl (fun he => ?_) (fun he => ?_)
      · rw [if_pos he] at hgs hks
        refine TC.seq ?_
        refine TC.region ?_
        refine q rfl rfl (mv (v := .int _ _) rfl) ?_
        refine q rfl rfl (mv (v := .pointer _) rfl) ?_
        first | refine q rfl rfl (nc rfl) ?_ | refine q rfl rfl (ncF rfl) ?_ | refine q rfl rfl (ncS rfl (by first | assumption | (simp [ints_length] <;> omega))) ?_
        first | refine q rfl rfl (fa 0 rfl rfl) ?_ | refine q rfl rfl (faS 0 rfl rfl (by first | assumption | (simp [ints_length] <;> omega))) ?_
        first | refine q rfl rfl (ld rfl rfl rfl) ?_ | refine q rfl rfl (ldS rfl rfl (flat_ld fqC_sz hx 2 (by omega) rfl)) ?_ | refine q rfl rfl (ldS rfl rfl rfl) ?_
        refine q rfl rfl (mv (v := .int _ _) rfl) ?_
        first | refine q rfl rfl (ixS 50 4 rfl rfl rfl (by omega) (by first | assumption | (simp [ints_length] <;> omega))) ?_ | refine q rfl rfl (ixJ 50 4 rfl rfl rfl (by omega) (by omega) (by first | assumption | (simp [ints_length] <;> omega))) ?_ | refine q rfl rfl (ix 50 4 rfl rfl rfl (by omega) (by omega) rfl) ?_
        first | refine q rfl rfl (fa 2 rfl rfl) ?_ | refine q rfl rfl (faS 2 rfl rfl (by first | assumption | (simp [ints_length] <;> omega))) ?_
        first | refine q rfl rfl (ld rfl rfl rfl) ?_ | refine q rfl rfl (ldS rfl rfl (flat_ld fqC_sz hx 2 (by omega) rfl)) ?_ | refine q rfl rfl (ldS rfl rfl rfl) ?_
        first | refine q rfl rfl (addI rfl rfl (by omega) (by omega)) ?_ | refine q rfl rfl (add rfl rfl rfl) ?_
        refine q rfl rfl (asg (v := .int _ _) rfl) ?_
        refine TL.nil (nt ?_)
        refine TC.region ?_
        refine q rfl rfl (mv (v := .int _ _) rfl) ?_
        first | refine q rfl rfl (addI rfl rfl (by omega) (by omega)) ?_ | refine q rfl rfl (add rfl rfl rfl) ?_
        refine q rfl rfl (asg (v := .int _ _) rfl) ?_
        refine TL.nil (nb (nt ?_))
        refine TC.region ?_
        refine q rfl rfl (mv (v := .int _ _) rfl) ?_
        first | refine q rfl rfl (addI rfl rfl (by omega) (by omega)) ?_ | refine q rfl rfl (add rfl rfl rfl) ?_
        refine q rfl rfl (asg (v := .int _ _) rfl) ?_
        refine TL.nil (nt ?_)
        exact ⟨rfl, (k + 1), (by omega), (by omega), ⟨rfl, rfl, congrArg (Value.int .i64) (by rw [hgs]; omega), congrArg (Value.int .i64) hks.symm, rfl, trivial⟩, (ent_take 0 rfl (ent_nil _))⟩
      · rw [if_neg he] at hgs hks
        refine TC.skip (nb (nt ?_))
        refine TC.region ?_
        refine q rfl rfl (mv (v := .int _ _) rfl) ?_
        first | refine q rfl rfl (addI rfl rfl (by omega) (by omega)) ?_ | refine q rfl rfl (add rfl rfl rfl) ?_
        refine q rfl rfl (asg (v := .int _ _) rfl) ?_
        refine TL.nil (nt ?_)
        exact ⟨rfl, (k + 1), (by omega), (by omega), ⟨rfl, rfl, congrArg (Value.int .i64) (by rw [hgs]; omega), congrArg (Value.int .i64) (by rw [hks]; omega), rfl, trivial⟩, (ent_take 0 rfl (ent_nil _))⟩
    · obtain rfl : k = L.length := by omega
      rw [List.take_length]
      refine TC.exit (et (et (eb (nt ?_))))
      refine TC.seq ?_
      refine TC.region ?_
      refine q rfl rfl (mv (v := .int _ _) rfl) ?_
      refine q rfl rfl (mv (v := .int _ _) rfl) ?_
      refine q rfl rfl (asg (v := .int _ _) rfl) ?_
      refine q rfl rfl (asg (v := .int _ _) rfl) ?_
      refine TL.nil (nt ?_)
      refine TC.ret ?_
      exact Ret.i () [_, _] ⟨rfl, rfl, trivial⟩ rfl trivial (ent_takeF 0 rfl (ent_nil _))
  · have hk : kidRq L id = 0 := if_neg h
    rw [atQ_no h, (use_no h).1, hk]
    refine q rfl rfl (asg (v := .int _ _) rfl) ?_
    refine TL.nil (nt ?_)
    refine TC.seq ?_
    refine TC.seq ?_
    refine TC.region ?_
    refine q rfl rfl (mv (v := .int _ _) rfl) ?_
    refine q rfl rfl (lss rfl rfl) ?_
    refine TL.nil (nt ?_)
    refine TC.condD rfl (fun hc1 => ?_) (fun hc1 => absurd (by decide) hc1)
    refine TC.seq ?_
    refine TC.region ?_
    refine q rfl rfl (asg (v := .int _ _) rfl) ?_
    refine q rfl rfl (asg (v := .int _ _) rfl) ?_
    refine TL.nil (nt ?_)
    refine TC.ret (rt ?_)
    exact Ret.i () [_, _] ⟨rfl, rfl, trivial⟩ rfl trivial (ent_take 0 rfl (ent_nil _))

set_option maxRecDepth 4000 in
theorem rfits_ok (b : Nat) (L : List Qn) (nxt : Int) (hW : WQ L nxt) (t : Qn) (ht : t ∈ L) (n : Int) : FSpec Try.prog 32 [.pointer (some ⟨b, 0, none⟩), .int .i64 t.id, .int .i64 n] (fun F => ent F (isRq b L nxt)) [] (fun _ : Unit => .bool (decide (n ≤ t.lim - useQ L t.id))) (fun _ => True) (fun _ => []) := by
  refine FSpec.intro (rs := [.tmp 6]) (by kernel_rfl) Try.func32 rfl Try.ntmps32 (by rfl) rfl ?_
  intro F hF
  change TC _ _ _ _ _ _ _ (sepL [_])
  obtain ⟨e1, e2, e3, e4⟩ := use_yes hW.nd ht
  have hb := hW.big ht
  obtain ⟨j, h1, h2⟩ := atQ_yes hW.nd ht
  have hj := (List.getElem?_eq_some_iff.1 h2).1
  refine TC.seq ?_
  refine TC.region ?_
  refine q rfl rfl (asg (v := .bool _) rfl) ?_
  refine TL.nil (nt ?_)
  refine TC.seq ?_
  refine TC.region ?_
  refine q rfl rfl (mv (v := .pointer _) rfl) ?_
  refine q rfl rfl (mv (v := .int _ _) rfl) ?_
  refine e rfl ?_
  refine cl (ruse_ok b L nxt hW t.id) rfl (picked_nil _) ((ent_one 0 rfl).trans hF) ?_
  intro _ _
  change TL _ _ _ _ _ _ _ _ (sepL [_])
  refine q rfl rfl (mv (v := .tuple _) rfl) ?_
  refine q rfl rfl (pu (v := .int _ _) (fun _ => rfl)) ?_
  refine q rfl rfl (pu (v := .int _ _) (fun _ => rfl)) ?_
  refine q rfl rfl (asg (v := .int _ _) rfl) ?_
  refine q rfl rfl (asg (v := .int _ _) rfl) ?_
  refine TL.nil (nt ?_)
  refine TC.seq ?_
  refine TC.openR hF (fun x0 hx0 => ?_)
  obtain ⟨a1, c1⟩ := x0
  clear hx0
  dsimp only
  have hil := fqsC_length L
  have hL32 := hW.len
  have hpos : 0 < (fqsC L).length := by omega
  refine TC.draw _ [] [(0, false), (1, false), (2, false), (3, false), (4, false), (5, false), (6, false), (11, false), (7, true), (8, false), (9, false), (10, false), (12, false), (13, false), (14, false)] (by kernel_rfl) (by kernel_rfl) (ent_take 0 rfl (ent_nil _)) ?_
  refine dq rfl rfl rfl (mv (v := .int _ _) rfl) ?_
  refine dq rfl rfl rfl (mv (v := .pointer _) rfl) ?_
  first | refine dq rfl rfl rfl (nc rfl) ?_ | refine dq rfl rfl rfl (ncF rfl) ?_ | refine dq rfl rfl rfl (ncS rfl (by first | assumption | (simp [ints_length] <;> omega))) ?_
  first | refine dq rfl rfl rfl (fa 0 rfl rfl) ?_ | refine dq rfl rfl rfl (faS 0 rfl rfl (by first | assumption | (simp [ints_length] <;> omega))) ?_
  first | refine dq rfl rfl rfl (ld rfl rfl rfl) ?_ | refine dq rfl rfl rfl (ldS rfl rfl (flat_ld fqC_sz h2 2 (by omega) rfl)) ?_ | refine dq rfl rfl rfl (ldS rfl rfl rfl) ?_
  refine dq rfl rfl rfl (mv (v := .pointer _) rfl) ?_
  refine dq rfl rfl rfl (mv (v := .int _ _) rfl) ?_
  refine dq rfl rfl rfl (mv (v := .int _ _) rfl) ?_
  refine de rfl rfl ?_
  refine cl (rat_ok b L nxt hW t.id) rfl (picked_nil _) ((ent_of (ent_takeF 0 rfl (ent_nil _))).trans hF) ?_
  intro _ _
  change ent _ _ ∧ TD _ _ _ _ _ _ _ _ _ _ (sepL [_])
  refine ⟨(by repeat (first | exact ent_nil _ | refine ent_take 0 rfl ?_ | refine ent_take 1 rfl ?_ | refine ent_take 2 rfl ?_ | refine ent_take 3 rfl ?_ | refine ent_take 4 rfl ?_ | refine ent_take 5 rfl ?_ | refine ent_take 6 rfl ?_ | refine ent_take 7 rfl ?_ | refine ent_take 8 rfl ?_ | refine ent_take 9 rfl ?_ | refine ent_take 10 rfl ?_ | refine ent_take 11 rfl ?_ | refine ent_take 12 rfl ?_)), ?_⟩
  rw [h1]
  first | refine dq rfl rfl rfl (ixS 50 4 rfl rfl rfl (by omega) (by first | assumption | (simp [ints_length] <;> omega))) ?_ | refine dq rfl rfl rfl (ixJ 50 4 rfl rfl rfl (by omega) (by omega) (by first | assumption | (simp [ints_length] <;> omega))) ?_ | refine dq rfl rfl rfl (ix 50 4 rfl rfl rfl (by omega) (by omega) rfl) ?_
  first | refine dq rfl rfl rfl (fa 2 rfl rfl) ?_ | refine dq rfl rfl rfl (faS 2 rfl rfl (by first | assumption | (simp [ints_length] <;> omega))) ?_
  first | refine dq rfl rfl rfl (ld rfl rfl rfl) ?_ | refine dq rfl rfl rfl (ldS rfl rfl (flat_ld fqC_sz h2 2 (by omega) rfl)) ?_ | refine dq rfl rfl rfl (ldS rfl rfl rfl) ?_
  first | refine dq rfl rfl rfl (subI rfl rfl (by omega) (by omega)) ?_ | refine dq rfl rfl rfl (sub rfl rfl rfl) ?_
  refine dq rfl rfl rfl (leq rfl rfl) ?_
  refine dq rfl rfl rfl (asg (v := .bool _) rfl) ?_
  refine TD.nil (nt ?_)
  refine TC.ret ?_
  exact Ret.i () [_] ⟨rfl, trivial⟩ rfl trivial (ent_takeF 0 rfl (ent_nil _))

set_option maxRecDepth 4000 in
set_option maxHeartbeats 1000000 in
theorem rcarve_ok (b : Nat) (L : List Qn) (nxt : Int) (hW : WQ L nxt) (hnx : nxt ≤ 1000000) (pr lim : Int) : FSpec Try.prog 21 [.pointer (some ⟨b, 0, none⟩), .int .i64 pr, .int .i64 lim] noRd [isRq b L nxt] (fun _ : Unit => .tuple #[.int .i64 (carveQ L nxt pr lim).2.2.1, .int .i64 (carveQ L nxt pr lim).2.2.2]) (fun _ => True) (fun _ => [isRq b (carveQ L nxt pr lim).1 (carveQ L nxt pr lim).2.1]) := by
  refine FSpec.intro (rs := [.tmp 6, .tmp 7]) (by kernel_rfl) Try.func21 rfl Try.ntmps21 (by rfl) rfl ?_
  intro F _
  change TC _ _ _ _ _ _ _ (sepL [_, _])
  refine TC.seq ?_
  refine TC.region ?_
  refine q rfl rfl (asg (v := .int _ _) rfl) ?_
  refine q rfl rfl (asg (v := .int _ _) rfl) ?_
  refine TL.nil (nt ?_)
  refine TC.seq ?_
  refine TC.seq ?_
  refine TC.region ?_
  refine q rfl rfl (mv (v := .pointer _) rfl) ?_
  refine q rfl rfl (mv (v := .int _ _) rfl) ?_
  refine e rfl ?_
  refine cl (rat_ok b L nxt hW pr) rfl (picked_nil _) (ent_one 0 rfl) ?_
  intro _ _
  change TL _ _ _ _ _ _ _ _ (sepL [_, _])
  by_cases h : hasQ L pr
  · obtain ⟨t, ht, rfl⟩ := h
    have h : hasQ L t.id := ⟨t, ht, rfl⟩
    obtain ⟨e1, e2, e3, e4⟩ := use_yes hW.nd ht
    have hb := hW.big ht
    obtain ⟨j, h1, h2⟩ := atQ_yes hW.nd ht
    have hj := (List.getElem?_eq_some_iff.1 h2).1
    rw [h1]
    refine q rfl rfl (lss rfl rfl) ?_
    refine TL.nil (nt ?_)
    refine TC.condD rfl (fun hc4 => absurd hc4 (by omega)) (fun hc4 => ?_)
    refine TC.skip (nt ?_)
    refine TC.seq ?_
    refine TC.seq ?_
    refine TC.region ?_
    refine q rfl rfl (mv (v := .int _ _) rfl) ?_
    refine q rfl rfl (lss rfl rfl) ?_
    refine TL.nil (nt ?_)
    first | refine TC.condD rfl (fun h0 => ?_) (fun h0 => ?_) | refine TC.cond rfl (fun h0 => ?_) (fun h0 => ?_)
    · have hv : carveQ L nxt t.id lim = (L, nxt, 0, 1) := by rw [carveQ, if_neg (fun h2 => h2 h), if_pos h0]
      rw [hv]
      dsimp only
      refine TC.seq ?_
      refine TC.region ?_
      refine q rfl rfl (asg (v := .int _ _) rfl) ?_
      refine q rfl rfl (asg (v := .int _ _) rfl) ?_
      refine TL.nil (nt ?_)
      refine TC.ret (rt ?_)
      exact Ret.i () [_, _] ⟨rfl, rfl, trivial⟩ rfl trivial (ent_take 0 rfl (ent_take 0 rfl (ent_nil _)))
    · refine TC.skip (nt ?_)
      refine TC.seq ?_
      refine TC.seq ?_
      refine TC.region ?_
      refine q rfl rfl (mv (v := .pointer _) rfl) ?_
      refine q rfl rfl (mv (v := .int _ _) rfl) ?_
      refine q rfl rfl (mv (v := .int _ _) rfl) ?_
      refine e rfl ?_
      refine cl (rfits_ok b L nxt hW t ht lim) rfl (picked_nil _) (ent_one 0 rfl) ?_
      intro _ _
      change TL _ _ _ _ _ _ _ _ (sepL [_, _])
      first | refine q rfl rfl (notD rfl) ?_ | refine q rfl rfl (notB rfl) ?_
      refine TL.nil (nt ?_)
      first | refine TC.condD rfl (fun h3 => ?_) (fun h3 => ?_) | refine TC.cond rfl (fun h3 => ?_) (fun h3 => ?_)
      · have hv : carveQ L nxt t.id lim = (L, nxt, 0, 5) := by rw [carveQ, if_neg (fun h2 => h2 h), if_neg h0, if_pos (by rw [e2]; exact h3)]
        rw [hv]
        dsimp only
        refine TC.seq ?_
        refine TC.region ?_
        refine q rfl rfl (asg (v := .int _ _) rfl) ?_
        refine q rfl rfl (asg (v := .int _ _) rfl) ?_
        refine TL.nil (nt ?_)
        refine TC.ret (rt ?_)
        exact Ret.i () [_, _] ⟨rfl, rfl, trivial⟩ rfl trivial (ent_take 0 rfl (ent_take 0 rfl (ent_nil _)))
      · refine TC.skip (nt ?_)
        refine TC.seq ?_
        refine TC.seq ?_
        refine TC.open 0 rfl (fun x0 hx0 => ?_)
        obtain ⟨a1, c1⟩ := x0
        clear hx0
        change TC _ _ _ _ _ _ _ (sepL [_, _, _])
        dsimp only
        have hil := fqsC_length L
        have hL32 := hW.len
        refine TC.region ?_
        refine q rfl rfl (mv (v := .pointer _) rfl) ?_
        first | refine q rfl rfl (nc rfl) ?_ | refine q rfl rfl (ncF rfl) ?_ | refine q rfl rfl (ncS rfl (by first | assumption | (simp [ints_length] <;> omega))) ?_
        first | refine q rfl rfl (fa 0 rfl rfl) ?_ | refine q rfl rfl (faS 0 rfl rfl (by first | assumption | (simp [ints_length] <;> omega))) ?_
        first | refine q rfl rfl (ld rfl rfl rfl) ?_ | refine q rfl rfl (ldS rfl rfl rfl) ?_
        refine q rfl rfl (len 50 4 rfl rfl) ?_
        refine q rfl rfl (geq rfl rfl) ?_
        refine TL.nil (nt ?_)
        first | refine TC.condD rfl (fun h4 => ?_) (fun h4 => ?_) | refine TC.cond rfl (fun h4 => ?_) (fun h4 => ?_)
        · have hv : carveQ L nxt t.id lim = (L, nxt, 0, 11) := by rw [carveQ, if_neg (fun h2 => h2 h), if_neg h0, if_neg (by rw [e2]; exact h3), if_pos (by omega)]
          rw [hv]
          dsimp only
          refine TC.seq ?_
          refine TC.region ?_
          refine q rfl rfl (asg (v := .int _ _) rfl) ?_
          refine q rfl rfl (asg (v := .int _ _) rfl) ?_
          refine TL.nil (nt ?_)
          refine TC.ret (rt ?_)
          exact Ret.i () [_, _] ⟨rfl, rfl, trivial⟩ rfl trivial (ent_close ⟨a1, c1⟩ trivial (ent_take 0 rfl (ent_take 0 rfl (ent_take 0 rfl (ent_nil _)))))
        · have hv : carveQ L nxt t.id lim = (L ++ [⟨nxt, t.id, lim, 0⟩], nxt + 1, nxt, 0) := by rw [carveQ, if_neg (fun h2 => h2 h), if_neg h0, if_neg (by rw [e2]; exact h3), if_neg (by omega)]
          rw [hv]
          dsimp only
          have hr0 := hW.rg t ht
          refine TC.skip (nt ?_)
          refine TC.seq ?_
          refine TC.drawF _ [18] 19 rfl (by kernel_rfl) (by kernel_rfl) (ent_take 0 rfl (ent_take 1 rfl (ent_nil _))) ?_
          refine fq (i := 0) rfl rfl rfl (by kernel_rfl) (mv (v := .pointer _) rfl) ?_
          refine fq (i := 2) rfl rfl rfl (by kernel_rfl) (mv (v := .pointer _) rfl) ?_
          first | refine fq (i := 3) rfl rfl rfl (by kernel_rfl) (nc rfl) ?_ | refine fq (i := 3) rfl rfl rfl (by kernel_rfl) (ncF rfl) ?_ | refine fq (i := 3) rfl rfl rfl (by kernel_rfl) (ncS rfl (by first | assumption | (simp [ints_length] <;> omega))) ?_
          first | refine fq (i := 4) rfl rfl rfl (by kernel_rfl) (fa 0 rfl rfl) ?_ | refine fq (i := 4) rfl rfl rfl (by kernel_rfl) (faS 0 rfl rfl (by first | assumption | (simp [ints_length] <;> omega))) ?_
          first | refine fq (i := 5) rfl rfl rfl (by kernel_rfl) (ld rfl rfl rfl) ?_ | refine fq (i := 5) rfl rfl rfl (by kernel_rfl) (ldS rfl rfl rfl) ?_
          refine fq (i := 7) rfl rfl rfl (by kernel_rfl) (mv (v := .pointer _) rfl) ?_
          first | refine fq (i := 8) rfl rfl rfl (by kernel_rfl) (nc rfl) ?_ | refine fq (i := 8) rfl rfl rfl (by kernel_rfl) (ncF rfl) ?_ | refine fq (i := 8) rfl rfl rfl (by kernel_rfl) (ncS rfl (by first | assumption | (simp [ints_length] <;> omega))) ?_
          first | refine fq (i := 9) rfl rfl rfl (by kernel_rfl) (fa 1 rfl rfl) ?_ | refine fq (i := 9) rfl rfl rfl (by kernel_rfl) (faS 1 rfl rfl (by first | assumption | (simp [ints_length] <;> omega))) ?_
          first | refine fq (i := 10) rfl rfl rfl (by kernel_rfl) (ld rfl rfl rfl) ?_ | refine fq (i := 10) rfl rfl rfl (by kernel_rfl) (ldS rfl rfl rfl) ?_
          refine fq (i := 11) rfl rfl rfl (by kernel_rfl) (mv (v := .int _ _) rfl) ?_
          refine fq (i := 12) rfl rfl rfl (by kernel_rfl) (mv (v := .int _ _) rfl) ?_
          first | refine fq (i := 13) rfl rfl rfl (by kernel_rfl) (bld (cs := ints [_, _, _, _]) rfl) ?_ | refine fq (i := 13) rfl rfl rfl (by kernel_rfl) (bld (cs := [_, _, _, _]) rfl) ?_
          refine ff (i := 1) (j := 14) rfl rfl rfl rfl (by kernel_rfl) ?_ ?_
          · refine bs (cs := []) rfl ?_
            intro b3
            refine ⟨(by repeat (first | exact ent_nil _ | refine ent_take 0 rfl ?_ | refine ent_take 1 rfl ?_ | refine ent_take 2 rfl ?_ | refine ent_take 3 rfl ?_ | refine ent_take 4 rfl ?_ | refine ent_take 5 rfl ?_ | refine ent_take 6 rfl ?_ | refine ent_take 7 rfl ?_ | refine ent_take 8 rfl ?_ | refine ent_take 9 rfl ?_ | refine ent_take 10 rfl ?_ | refine ent_take 11 rfl ?_ | refine ent_take 12 rfl ?_)), ?_⟩
            refine ff (i := 6) (j := 14) rfl rfl rfl rfl (by kernel_rfl) ?_ ?_
            · refine ap 32 rfl rfl rfl rfl rfl (by omega) (fqs_all L) (fqs_one _) (by omega) (by simp only [maxLen]; omega) ?_
              intro ad1 cap1
              refine ⟨(by repeat (first | exact ent_nil _ | refine ent_take 0 rfl ?_ | refine ent_take 1 rfl ?_ | refine ent_take 2 rfl ?_ | refine ent_take 3 rfl ?_ | refine ent_take 4 rfl ?_ | refine ent_take 5 rfl ?_ | refine ent_take 6 rfl ?_ | refine ent_take 7 rfl ?_ | refine ent_take 8 rfl ?_ | refine ent_take 9 rfl ?_ | refine ent_take 10 rfl ?_ | refine ent_take 11 rfl ?_ | refine ent_take 12 rfl ?_)), ?_⟩
              refine TF.of [(14, true), (15, true), (16, false), (17, false), (18, true)] (by kernel_rfl) rfl ?_
              refine de rfl rfl ?_
              refine bs (cs := ints [_, _, _, _]) rfl ?_
              intro b4
              refine ⟨(by repeat (first | exact ent_nil _ | refine ent_take 0 rfl ?_ | refine ent_take 1 rfl ?_ | refine ent_take 2 rfl ?_ | refine ent_take 3 rfl ?_ | refine ent_take 4 rfl ?_ | refine ent_take 5 rfl ?_ | refine ent_take 6 rfl ?_ | refine ent_take 7 rfl ?_ | refine ent_take 8 rfl ?_ | refine ent_take 9 rfl ?_ | refine ent_take 10 rfl ?_ | refine ent_take 11 rfl ?_ | refine ent_take 12 rfl ?_)), ?_⟩
              refine de rfl rfl ?_
              refine ap 32 rfl rfl rfl rfl rfl (Nat.le_of_ble_eq_true rfl) (show _ = fqsC [⟨nxt, t.id, lim, 0⟩] from rfl) rfl (by omega) (by simp only [maxLen]; omega) ?_
              intro ad2 cap2
              refine ⟨(by repeat (first | exact ent_nil _ | refine ent_take 0 rfl ?_ | refine ent_take 1 rfl ?_ | refine ent_take 2 rfl ?_ | refine ent_take 3 rfl ?_ | refine ent_take 4 rfl ?_ | refine ent_take 5 rfl ?_ | refine ent_take 6 rfl ?_ | refine ent_take 7 rfl ?_ | refine ent_take 8 rfl ?_ | refine ent_take 9 rfl ?_ | refine ent_take 10 rfl ?_ | refine ent_take 11 rfl ?_ | refine ent_take 12 rfl ?_)), ?_⟩
              first | refine dq rfl rfl rfl (nc rfl) ?_ | refine dq rfl rfl rfl (ncF rfl) ?_ | refine dq rfl rfl rfl (ncS rfl (by first | assumption | (simp [ints_length] <;> omega))) ?_
              first | refine dq rfl rfl rfl (fa 0 rfl rfl) ?_ | refine dq rfl rfl rfl (faS 0 rfl rfl (by first | assumption | (simp [ints_length] <;> omega))) ?_
              refine dl0 rfl rfl rfl ?_
              refine st (v := .slice _ _ _) (vs := [_]) 1 rfl rfl rfl rfl rfl rfl (Nat.le_of_ble_eq_true rfl) rfl ?_
              refine TD.nil (nt ?_)
              refine TC.seq ?_
              refine TC.region ?_
              refine q rfl rfl (mv (v := .pointer _) rfl) ?_
              first | refine q rfl rfl (nc rfl) ?_ | refine q rfl rfl (ncF rfl) ?_ | refine q rfl rfl (ncS rfl (by first | assumption | (simp [ints_length] <;> omega))) ?_
              first | refine q rfl rfl (fa 1 rfl rfl) ?_ | refine q rfl rfl (faS 1 rfl rfl (by first | assumption | (simp [ints_length] <;> omega))) ?_
              first | refine q rfl rfl (ld rfl rfl rfl) ?_ | refine q rfl rfl (ldS rfl rfl rfl) ?_
              first | refine q rfl rfl (addI rfl rfl (by omega) (by omega)) ?_ | refine q rfl rfl (add rfl rfl rfl) ?_
              first | refine q rfl rfl (nc rfl) ?_ | refine q rfl rfl (ncF rfl) ?_ | refine q rfl rfl (ncS rfl (by first | assumption | (simp [ints_length] <;> omega))) ?_
              first | refine q rfl rfl (fa 1 rfl rfl) ?_ | refine q rfl rfl (faS 1 rfl rfl (by first | assumption | (simp [ints_length] <;> omega))) ?_
              refine e0 ?_
              refine st (v := .int _ _) (vs := [_]) 1 rfl rfl rfl rfl rfl rfl (Nat.le_of_ble_eq_true rfl) rfl ?_
              refine TL.nil (nt ?_)
              refine TC.seq ?_
              refine TC.region ?_
              refine q rfl rfl (mv (v := .pointer _) rfl) ?_
              first | refine q rfl rfl (nc rfl) ?_ | refine q rfl rfl (ncF rfl) ?_ | refine q rfl rfl (ncS rfl (by first | assumption | (simp [ints_length] <;> omega))) ?_
              first | refine q rfl rfl (fa 1 rfl rfl) ?_ | refine q rfl rfl (faS 1 rfl rfl (by first | assumption | (simp [ints_length] <;> omega))) ?_
              first | refine q rfl rfl (ld rfl rfl rfl) ?_ | refine q rfl rfl (ldS rfl rfl rfl) ?_
              first | refine q rfl rfl (subI rfl rfl (by omega) (by omega)) ?_ | refine q rfl rfl (sub rfl rfl rfl) ?_
              refine q rfl rfl (asg (v := .int _ _) rfl) ?_
              refine q rfl rfl (asg (v := .int _ _) rfl) ?_
              refine TL.nil (nt ?_)
              refine TC.ret ?_
              exact Ret.i () [_, _] ⟨rfl, rfl, trivial⟩ (by rw [show nxt + 1 - 1 = nxt by omega]; rfl) trivial (ent_close (⟨ad2, cap2⟩ : Option Addr × Nat) trivial (ent_takeE 0 rfl (by simp only [List.length_append, Nat.zero_add, List.length_singleton]; rfl) (ent_takeE 0 rfl (by simp only [List.length_append, Nat.zero_add, List.length_singleton, List.nil_append, fqs_app]) (by repeat (first | exact ent_nil _ | refine ent_take 0 rfl ?_ | refine ent_take 1 rfl ?_ | refine ent_take 2 rfl ?_ | refine ent_take 3 rfl ?_ | refine ent_take 4 rfl ?_ | refine ent_take 5 rfl ?_ | refine ent_take 6 rfl ?_ | refine ent_take 7 rfl ?_ | refine ent_take 8 rfl ?_ | refine ent_take 9 rfl ?_ | refine ent_take 10 rfl ?_ | refine ent_take 11 rfl ?_ | refine ent_take 12 rfl ?_)))))
            · refine bs (cs := ints [_, _, _, _]) rfl ?_
              intro b5
              refine ⟨(by repeat (first | exact ent_nil _ | refine ent_take 0 rfl ?_ | refine ent_take 1 rfl ?_ | refine ent_take 2 rfl ?_ | refine ent_take 3 rfl ?_ | refine ent_take 4 rfl ?_ | refine ent_take 5 rfl ?_ | refine ent_take 6 rfl ?_ | refine ent_take 7 rfl ?_ | refine ent_take 8 rfl ?_ | refine ent_take 9 rfl ?_ | refine ent_take 10 rfl ?_ | refine ent_take 11 rfl ?_ | refine ent_take 12 rfl ?_)), ?_⟩
              refine TF.of [(6, true), (15, true), (16, false), (17, false), (18, true)] (by kernel_rfl) rfl ?_
              refine de rfl rfl ?_
              refine ap 32 rfl rfl rfl rfl rfl (by omega) (fqs_all L) (fqs_one _) (by omega) (by simp only [maxLen]; omega) ?_
              intro ad3 cap3
              refine ⟨(by repeat (first | exact ent_nil _ | refine ent_take 0 rfl ?_ | refine ent_take 1 rfl ?_ | refine ent_take 2 rfl ?_ | refine ent_take 3 rfl ?_ | refine ent_take 4 rfl ?_ | refine ent_take 5 rfl ?_ | refine ent_take 6 rfl ?_ | refine ent_take 7 rfl ?_ | refine ent_take 8 rfl ?_ | refine ent_take 9 rfl ?_ | refine ent_take 10 rfl ?_ | refine ent_take 11 rfl ?_ | refine ent_take 12 rfl ?_)), ?_⟩
              refine de rfl rfl ?_
              refine ap 32 rfl rfl rfl rfl rfl (Nat.le_of_ble_eq_true rfl) (show _ = fqsC [⟨nxt, t.id, lim, 0⟩] from rfl) rfl (by omega) (by simp only [maxLen]; omega) ?_
              intro ad4 cap4
              refine ⟨(by repeat (first | exact ent_nil _ | refine ent_take 0 rfl ?_ | refine ent_take 1 rfl ?_ | refine ent_take 2 rfl ?_ | refine ent_take 3 rfl ?_ | refine ent_take 4 rfl ?_ | refine ent_take 5 rfl ?_ | refine ent_take 6 rfl ?_ | refine ent_take 7 rfl ?_ | refine ent_take 8 rfl ?_ | refine ent_take 9 rfl ?_ | refine ent_take 10 rfl ?_ | refine ent_take 11 rfl ?_ | refine ent_take 12 rfl ?_)), ?_⟩
              first | refine dq rfl rfl rfl (nc rfl) ?_ | refine dq rfl rfl rfl (ncF rfl) ?_ | refine dq rfl rfl rfl (ncS rfl (by first | assumption | (simp [ints_length] <;> omega))) ?_
              first | refine dq rfl rfl rfl (fa 0 rfl rfl) ?_ | refine dq rfl rfl rfl (faS 0 rfl rfl (by first | assumption | (simp [ints_length] <;> omega))) ?_
              refine dl0 rfl rfl rfl ?_
              refine st (v := .slice _ _ _) (vs := [_]) 1 rfl rfl rfl rfl rfl rfl (Nat.le_of_ble_eq_true rfl) rfl ?_
              refine TD.nil (nt ?_)
              refine TC.seq ?_
              refine TC.region ?_
              refine q rfl rfl (mv (v := .pointer _) rfl) ?_
              first | refine q rfl rfl (nc rfl) ?_ | refine q rfl rfl (ncF rfl) ?_ | refine q rfl rfl (ncS rfl (by first | assumption | (simp [ints_length] <;> omega))) ?_
              first | refine q rfl rfl (fa 1 rfl rfl) ?_ | refine q rfl rfl (faS 1 rfl rfl (by first | assumption | (simp [ints_length] <;> omega))) ?_
              first | refine q rfl rfl (ld rfl rfl rfl) ?_ | refine q rfl rfl (ldS rfl rfl rfl) ?_
              first | refine q rfl rfl (addI rfl rfl (by omega) (by omega)) ?_ | refine q rfl rfl (add rfl rfl rfl) ?_
              first | refine q rfl rfl (nc rfl) ?_ | refine q rfl rfl (ncF rfl) ?_ | refine q rfl rfl (ncS rfl (by first | assumption | (simp [ints_length] <;> omega))) ?_
              first | refine q rfl rfl (fa 1 rfl rfl) ?_ | refine q rfl rfl (faS 1 rfl rfl (by first | assumption | (simp [ints_length] <;> omega))) ?_
              refine e0 ?_
              refine st (v := .int _ _) (vs := [_]) 1 rfl rfl rfl rfl rfl rfl (Nat.le_of_ble_eq_true rfl) rfl ?_
              refine TL.nil (nt ?_)
              refine TC.seq ?_
              refine TC.region ?_
              refine q rfl rfl (mv (v := .pointer _) rfl) ?_
              first | refine q rfl rfl (nc rfl) ?_ | refine q rfl rfl (ncF rfl) ?_ | refine q rfl rfl (ncS rfl (by first | assumption | (simp [ints_length] <;> omega))) ?_
              first | refine q rfl rfl (fa 1 rfl rfl) ?_ | refine q rfl rfl (faS 1 rfl rfl (by first | assumption | (simp [ints_length] <;> omega))) ?_
              first | refine q rfl rfl (ld rfl rfl rfl) ?_ | refine q rfl rfl (ldS rfl rfl rfl) ?_
              first | refine q rfl rfl (subI rfl rfl (by omega) (by omega)) ?_ | refine q rfl rfl (sub rfl rfl rfl) ?_
              refine q rfl rfl (asg (v := .int _ _) rfl) ?_
              refine q rfl rfl (asg (v := .int _ _) rfl) ?_
              refine TL.nil (nt ?_)
              refine TC.ret ?_
              exact Ret.i () [_, _] ⟨rfl, rfl, trivial⟩ (by rw [show nxt + 1 - 1 = nxt by omega]; rfl) trivial (ent_close (⟨ad4, cap4⟩ : Option Addr × Nat) trivial (ent_takeE 0 rfl (by simp only [List.length_append, Nat.zero_add, List.length_singleton]; rfl) (ent_takeE 0 rfl (by simp only [List.length_append, Nat.zero_add, List.length_singleton, List.nil_append, fqs_app]) (by repeat (first | exact ent_nil _ | refine ent_take 0 rfl ?_ | refine ent_take 1 rfl ?_ | refine ent_take 2 rfl ?_ | refine ent_take 3 rfl ?_ | refine ent_take 4 rfl ?_ | refine ent_take 5 rfl ?_ | refine ent_take 6 rfl ?_ | refine ent_take 7 rfl ?_ | refine ent_take 8 rfl ?_ | refine ent_take 9 rfl ?_ | refine ent_take 10 rfl ?_ | refine ent_take 11 rfl ?_ | refine ent_take 12 rfl ?_)))))
          · refine bs (cs := ints [_, _, _, _]) rfl ?_
            intro b6
            refine ⟨(by repeat (first | exact ent_nil _ | refine ent_take 0 rfl ?_ | refine ent_take 1 rfl ?_ | refine ent_take 2 rfl ?_ | refine ent_take 3 rfl ?_ | refine ent_take 4 rfl ?_ | refine ent_take 5 rfl ?_ | refine ent_take 6 rfl ?_ | refine ent_take 7 rfl ?_ | refine ent_take 8 rfl ?_ | refine ent_take 9 rfl ?_ | refine ent_take 10 rfl ?_ | refine ent_take 11 rfl ?_ | refine ent_take 12 rfl ?_)), ?_⟩
            refine TF.of [(1, true), (6, true), (15, true), (16, false), (17, false), (18, true)] (by kernel_rfl) rfl ?_
            refine de rfl rfl ?_
            refine bs (cs := []) rfl ?_
            intro b7
            refine ⟨(by repeat (first | exact ent_nil _ | refine ent_take 0 rfl ?_ | refine ent_take 1 rfl ?_ | refine ent_take 2 rfl ?_ | refine ent_take 3 rfl ?_ | refine ent_take 4 rfl ?_ | refine ent_take 5 rfl ?_ | refine ent_take 6 rfl ?_ | refine ent_take 7 rfl ?_ | refine ent_take 8 rfl ?_ | refine ent_take 9 rfl ?_ | refine ent_take 10 rfl ?_ | refine ent_take 11 rfl ?_ | refine ent_take 12 rfl ?_)), ?_⟩
            refine de rfl rfl ?_
            refine ap 32 rfl rfl rfl rfl rfl (by omega) (fqs_all L) (fqs_one _) (by omega) (by simp only [maxLen]; omega) ?_
            intro ad5 cap5
            refine ⟨(by repeat (first | exact ent_nil _ | refine ent_take 0 rfl ?_ | refine ent_take 1 rfl ?_ | refine ent_take 2 rfl ?_ | refine ent_take 3 rfl ?_ | refine ent_take 4 rfl ?_ | refine ent_take 5 rfl ?_ | refine ent_take 6 rfl ?_ | refine ent_take 7 rfl ?_ | refine ent_take 8 rfl ?_ | refine ent_take 9 rfl ?_ | refine ent_take 10 rfl ?_ | refine ent_take 11 rfl ?_ | refine ent_take 12 rfl ?_)), ?_⟩
            refine de rfl rfl ?_
            refine ap 32 rfl rfl rfl rfl rfl (Nat.le_of_ble_eq_true rfl) (show _ = fqsC [⟨nxt, t.id, lim, 0⟩] from rfl) rfl (by omega) (by simp only [maxLen]; omega) ?_
            intro ad6 cap6
            refine ⟨(by repeat (first | exact ent_nil _ | refine ent_take 0 rfl ?_ | refine ent_take 1 rfl ?_ | refine ent_take 2 rfl ?_ | refine ent_take 3 rfl ?_ | refine ent_take 4 rfl ?_ | refine ent_take 5 rfl ?_ | refine ent_take 6 rfl ?_ | refine ent_take 7 rfl ?_ | refine ent_take 8 rfl ?_ | refine ent_take 9 rfl ?_ | refine ent_take 10 rfl ?_ | refine ent_take 11 rfl ?_ | refine ent_take 12 rfl ?_)), ?_⟩
            first | refine dq rfl rfl rfl (nc rfl) ?_ | refine dq rfl rfl rfl (ncF rfl) ?_ | refine dq rfl rfl rfl (ncS rfl (by first | assumption | (simp [ints_length] <;> omega))) ?_
            first | refine dq rfl rfl rfl (fa 0 rfl rfl) ?_ | refine dq rfl rfl rfl (faS 0 rfl rfl (by first | assumption | (simp [ints_length] <;> omega))) ?_
            refine dl0 rfl rfl rfl ?_
            refine st (v := .slice _ _ _) (vs := [_]) 1 rfl rfl rfl rfl rfl rfl (Nat.le_of_ble_eq_true rfl) rfl ?_
            refine TD.nil (nt ?_)
            refine TC.seq ?_
            refine TC.region ?_
            refine q rfl rfl (mv (v := .pointer _) rfl) ?_
            first | refine q rfl rfl (nc rfl) ?_ | refine q rfl rfl (ncF rfl) ?_ | refine q rfl rfl (ncS rfl (by first | assumption | (simp [ints_length] <;> omega))) ?_
            first | refine q rfl rfl (fa 1 rfl rfl) ?_ | refine q rfl rfl (faS 1 rfl rfl (by first | assumption | (simp [ints_length] <;> omega))) ?_
            first | refine q rfl rfl (ld rfl rfl rfl) ?_ | refine q rfl rfl (ldS rfl rfl rfl) ?_
            first | refine q rfl rfl (addI rfl rfl (by omega) (by omega)) ?_ | refine q rfl rfl (add rfl rfl rfl) ?_
            first | refine q rfl rfl (nc rfl) ?_ | refine q rfl rfl (ncF rfl) ?_ | refine q rfl rfl (ncS rfl (by first | assumption | (simp [ints_length] <;> omega))) ?_
            first | refine q rfl rfl (fa 1 rfl rfl) ?_ | refine q rfl rfl (faS 1 rfl rfl (by first | assumption | (simp [ints_length] <;> omega))) ?_
            refine e0 ?_
            refine st (v := .int _ _) (vs := [_]) 1 rfl rfl rfl rfl rfl rfl (Nat.le_of_ble_eq_true rfl) rfl ?_
            refine TL.nil (nt ?_)
            refine TC.seq ?_
            refine TC.region ?_
            refine q rfl rfl (mv (v := .pointer _) rfl) ?_
            first | refine q rfl rfl (nc rfl) ?_ | refine q rfl rfl (ncF rfl) ?_ | refine q rfl rfl (ncS rfl (by first | assumption | (simp [ints_length] <;> omega))) ?_
            first | refine q rfl rfl (fa 1 rfl rfl) ?_ | refine q rfl rfl (faS 1 rfl rfl (by first | assumption | (simp [ints_length] <;> omega))) ?_
            first | refine q rfl rfl (ld rfl rfl rfl) ?_ | refine q rfl rfl (ldS rfl rfl rfl) ?_
            first | refine q rfl rfl (subI rfl rfl (by omega) (by omega)) ?_ | refine q rfl rfl (sub rfl rfl rfl) ?_
            refine q rfl rfl (asg (v := .int _ _) rfl) ?_
            refine q rfl rfl (asg (v := .int _ _) rfl) ?_
            refine TL.nil (nt ?_)
            refine TC.ret ?_
            exact Ret.i () [_, _] ⟨rfl, rfl, trivial⟩ (by rw [show nxt + 1 - 1 = nxt by omega]; rfl) trivial (ent_close (⟨ad6, cap6⟩ : Option Addr × Nat) trivial (ent_takeE 0 rfl (by simp only [List.length_append, Nat.zero_add, List.length_singleton]; rfl) (ent_takeE 0 rfl (by simp only [List.length_append, Nat.zero_add, List.length_singleton, List.nil_append, fqs_app]) (by repeat (first | exact ent_nil _ | refine ent_take 0 rfl ?_ | refine ent_take 1 rfl ?_ | refine ent_take 2 rfl ?_ | refine ent_take 3 rfl ?_ | refine ent_take 4 rfl ?_ | refine ent_take 5 rfl ?_ | refine ent_take 6 rfl ?_ | refine ent_take 7 rfl ?_ | refine ent_take 8 rfl ?_ | refine ent_take 9 rfl ?_ | refine ent_take 10 rfl ?_ | refine ent_take 11 rfl ?_ | refine ent_take 12 rfl ?_)))))
  · have hv : carveQ L nxt pr lim = (L, nxt, 0, 6) := if_pos h
    rw [hv, atQ_no h]
    dsimp only
    refine q rfl rfl (lss rfl rfl) ?_
    refine TL.nil (nt ?_)
    refine TC.condD rfl (fun hc3 => ?_) (fun hc3 => absurd (by decide) hc3)
    refine TC.seq ?_
    refine TC.region ?_
    refine q rfl rfl (asg (v := .int _ _) rfl) ?_
    refine q rfl rfl (asg (v := .int _ _) rfl) ?_
    refine TL.nil (nt ?_)
    refine TC.ret (rt ?_)
    exact Ret.i () [_, _] ⟨rfl, rfl, trivial⟩ rfl trivial (ent_take 0 rfl (ent_take 0 rfl (ent_nil _)))

set_option maxRecDepth 4000 in
set_option maxHeartbeats 1000000 in
theorem rclose_ok (b : Nat) (L : List Qn) (nxt : Int) (hW : WQ L nxt) (id : Int) : FSpec Try.prog 22 [.pointer (some ⟨b, 0, none⟩), .int .i64 id] noRd [isRq b L nxt] (fun _ : Unit => .int .i64 (closeQ L id).2) (fun _ => True) (fun _ => [isRq b (closeQ L id).1 nxt]) := by
  refine FSpec.intro (rs := [.tmp 4]) (by kernel_rfl) Try.func22 rfl Try.ntmps22 (by rfl) rfl ?_
  intro F _
  change TC _ _ _ _ _ _ _ (sepL [_, _])
  refine TC.seq ?_
  refine TC.region ?_
  refine q rfl rfl (asg (v := .int _ _) rfl) ?_
  refine TL.nil (nt ?_)
  refine TC.seq ?_
  refine TC.region ?_
  refine q rfl rfl (mv (v := .pointer _) rfl) ?_
  refine q rfl rfl (mv (v := .int _ _) rfl) ?_
  refine e rfl ?_
  refine cl (rat_ok b L nxt hW id) rfl (picked_nil _) (ent_one 0 rfl) ?_
  intro _ _
  change TL _ _ _ _ _ _ _ _ (sepL [_, _])
  by_cases h : hasQ L id
  · obtain ⟨t, ht, rfl⟩ := h
    have h : hasQ L t.id := ⟨t, ht, rfl⟩
    obtain ⟨e1, e2, e3, e4⟩ := use_yes hW.nd ht
    have hb := hW.big ht
    obtain ⟨j, h1, h2⟩ := atQ_yes hW.nd ht
    have hj := (List.getElem?_eq_some_iff.1 h2).1
    have hk : kidRq L t.id = kidQ L t.id := if_pos h
    rw [h1]
    refine q rfl rfl (asg (v := .int _ _) rfl) ?_
    refine TL.nil (nt ?_)
    refine TC.seq ?_
    refine TC.seq ?_
    refine TC.region ?_
    refine q rfl rfl (mv (v := .int _ _) rfl) ?_
    refine q rfl rfl (lss rfl rfl) ?_
    refine TL.nil (nt ?_)
    refine TC.condD rfl (fun hc6 => absurd hc6 (by omega)) (fun hc6 => ?_)
    refine TC.skip (nt ?_)
    refine TC.seq ?_
    refine TC.seq ?_
    refine TC.region ?_
    refine q rfl rfl (mv (v := .int _ _) rfl) ?_
    refine q rfl rfl (eqI rfl rfl) ?_
    refine TL.nil (nt ?_)
    first | refine TC.condD rfl (fun h0 => ?_) (fun h0 => ?_) | refine TC.cond rfl (fun h0 => ?_) (fun h0 => ?_)
    · have hv : closeQ L t.id = (L, 1) := by rw [closeQ, if_neg (fun h2 => h2 h), if_pos h0]
      rw [hv]
      dsimp only
      refine TC.seq ?_
      refine TC.region ?_
      refine q rfl rfl (asg (v := .int _ _) rfl) ?_
      refine TL.nil (nt ?_)
      refine TC.ret (rt ?_)
      exact Ret.i () [_] ⟨rfl, trivial⟩ rfl trivial (ent_take 0 rfl (ent_take 0 rfl (ent_nil _)))
    · refine TC.skip (nt ?_)
      refine TC.seq ?_
      refine TC.region ?_
      refine q rfl rfl (mv (v := .pointer _) rfl) ?_
      refine q rfl rfl (mv (v := .int _ _) rfl) ?_
      refine e rfl ?_
      refine cl (ruse_ok b L nxt hW t.id) rfl (picked_nil _) (ent_one 0 rfl) ?_
      intro _ _
      change TL _ _ _ _ _ _ _ _ (sepL [_, _])
      rw [hk]
      refine q rfl rfl (mv (v := .tuple _) rfl) ?_
      refine q rfl rfl (pu (v := .int _ _) (fun _ => rfl)) ?_
      refine q rfl rfl (pu (v := .int _ _) (fun _ => rfl)) ?_
      refine q rfl rfl (asg (v := .int _ _) rfl) ?_
      refine q rfl rfl (asg (v := .int _ _) rfl) ?_
      refine TL.nil (nt ?_)
      refine TC.seq ?_
      refine TC.seq ?_
      refine TC.region ?_
      refine q rfl rfl (mv (v := .int _ _) rfl) ?_
      refine q rfl rfl (neI rfl rfl) ?_
      refine q rfl rfl (mv (v := .bool _) rfl) ?_
      refine TL.split 23 rfl (fun h3 => ?_) (fun h3 => ?_)
      · have h3 := of_decide_eq_true h3
        refine qs rfl rfl ?_
        refine qs rfl rfl ?_
        first | refine q rfl rfl (pkT (v := .bool _) rfl rfl) ?_ | refine q rfl rfl (pkF (v := .bool _) rfl rfl) ?_
        refine TL.nil (nt ?_)
        refine TC.condT rfl ?_
        have hv : closeQ L t.id = (L, 12) := by rw [closeQ, if_neg (fun h2 => h2 h), if_neg h0, if_pos (.inl h3)]
        rw [hv]
        dsimp only
        refine TC.seq ?_
        refine TC.region ?_
        refine q rfl rfl (asg (v := .int _ _) rfl) ?_
        refine TL.nil (nt ?_)
        refine TC.ret (rt ?_)
        exact Ret.i () [_] ⟨rfl, trivial⟩ rfl trivial (ent_take 0 rfl (ent_take 0 rfl (ent_nil _)))
      · have h3 := of_decide_eq_false h3
        refine qg rfl rfl rfl (mv (v := .int _ _) rfl) ?_
        refine qg rfl rfl rfl (neI rfl rfl) ?_
        first | refine q rfl rfl (pkT (v := .bool _) rfl rfl) ?_ | refine q rfl rfl (pkF (v := .bool _) rfl rfl) ?_
        refine TL.nil (nt ?_)
        first | refine TC.condD rfl (fun h4 => ?_) (fun h4 => ?_) | refine TC.cond rfl (fun h4 => ?_) (fun h4 => ?_)
        · have hv : closeQ L t.id = (L, 12) := by rw [closeQ, if_neg (fun h2 => h2 h), if_neg h0, if_pos (.inr (by omega))]
          rw [hv]
          dsimp only
          refine TC.seq ?_
          refine TC.region ?_
          refine q rfl rfl (asg (v := .int _ _) rfl) ?_
          refine TL.nil (nt ?_)
          refine TC.ret (rt ?_)
          exact Ret.i () [_] ⟨rfl, trivial⟩ rfl trivial (ent_take 0 rfl (ent_take 0 rfl (ent_nil _)))
        · have hv : closeQ L t.id = (offQ L t.id, 0) := by rw [closeQ, if_neg (fun h2 => h2 h), if_neg h0, if_neg (fun h5 => h5.elim h3 (by omega))]
          rw [hv]
          dsimp only
          have hco := cutQ_off hW.nd h2
          have hln := offQ_len hW.nd ht
          refine TC.skip (nt ?_)
          refine TC.seq ?_
          refine TC.open 0 rfl (fun x0 hx0 => ?_)
          obtain ⟨a1, c1⟩ := x0
          clear hx0
          change TC _ _ _ _ _ _ _ (sepL [_, _, _])
          dsimp only
          have hil := fqsC_length L
          have hL32 := hW.len
          refine TC.factSlc 1 rfl (fun _ hc1 _ => ?_)
          haveI : OffI (fqsC L) c1 (j + 1) 4 := ⟨L.length, by omega, by omega, hc1⟩
          have hpos : 0 < (fqsC L).length := by omega
          refine TC.draw _ [19] [(0, false), (2, false), (3, false), (4, false), (5, false), (6, false), (7, false), (9, false), (10, false), (11, false), (12, false), (13, false), (14, false), (15, false), (1, true), (8, true), (16, true), (17, false), (18, false), (19, true)] (by kernel_rfl) (by kernel_rfl) (ent_take 0 rfl (ent_take 1 rfl (ent_nil _))) ?_
          refine dq rfl rfl rfl (mv (v := .pointer _) rfl) ?_
          refine dq rfl rfl rfl (mv (v := .pointer _) rfl) ?_
          first | refine dq rfl rfl rfl (nc rfl) ?_ | refine dq rfl rfl rfl (ncF rfl) ?_ | refine dq rfl rfl rfl (ncS rfl (by first | assumption | (simp [ints_length] <;> omega))) ?_
          first | refine dq rfl rfl rfl (fa 0 rfl rfl) ?_ | refine dq rfl rfl rfl (faS 0 rfl rfl (by first | assumption | (simp [ints_length] <;> omega))) ?_
          first | refine dq rfl rfl rfl (ld rfl rfl rfl) ?_ | refine dq rfl rfl rfl (ldS rfl rfl rfl) ?_
          refine dq rfl rfl rfl (mv (v := .int _ _) rfl) ?_
          refine dq rfl rfl rfl (slTn 50 4 (j) rfl rfl rfl (by omega) (by omega)) ?_
          refine dq rfl rfl rfl (mv (v := .pointer _) rfl) ?_
          first | refine dq rfl rfl rfl (nc rfl) ?_ | refine dq rfl rfl rfl (ncF rfl) ?_ | refine dq rfl rfl rfl (ncS rfl (by first | assumption | (simp [ints_length] <;> omega))) ?_
          first | refine dq rfl rfl rfl (fa 0 rfl rfl) ?_ | refine dq rfl rfl rfl (faS 0 rfl rfl (by first | assumption | (simp [ints_length] <;> omega))) ?_
          first | refine dq rfl rfl rfl (ld rfl rfl rfl) ?_ | refine dq rfl rfl rfl (ldS rfl rfl rfl) ?_
          refine dq rfl rfl rfl (mv (v := .int _ _) rfl) ?_
          first | refine dq rfl rfl rfl (addI rfl rfl (by omega) (by omega)) ?_ | refine dq rfl rfl rfl (add rfl rfl rfl) ?_
          refine dq rfl rfl rfl (slFn 50 4 (j + 1) rfl rfl rfl (by omega) (by omega)) ?_
          refine de rfl rfl ?_
          refine bs (cs := []) rfl ?_
          intro b8
          refine ⟨(by repeat (first | exact ent_nil _ | refine ent_take 0 rfl ?_ | refine ent_take 1 rfl ?_ | refine ent_take 2 rfl ?_ | refine ent_take 3 rfl ?_ | refine ent_take 4 rfl ?_ | refine ent_take 5 rfl ?_ | refine ent_take 6 rfl ?_ | refine ent_take 7 rfl ?_ | refine ent_take 8 rfl ?_ | refine ent_take 9 rfl ?_ | refine ent_take 10 rfl ?_ | refine ent_take 11 rfl ?_ | refine ent_take 12 rfl ?_)), ?_⟩
          refine de rfl rfl ?_
          refine ap 32 rfl rfl rfl rfl rfl (by omega) (fqs_take L j) (fqs_one _) (by omega) (by simp only [maxLen]; omega) ?_
          intro ad7 cap7
          refine ⟨(by repeat (first | exact ent_nil _ | refine ent_take 0 rfl ?_ | refine ent_take 1 rfl ?_ | refine ent_take 2 rfl ?_ | refine ent_take 3 rfl ?_ | refine ent_take 4 rfl ?_ | refine ent_take 5 rfl ?_ | refine ent_take 6 rfl ?_ | refine ent_take 7 rfl ?_ | refine ent_take 8 rfl ?_ | refine ent_take 9 rfl ?_ | refine ent_take 10 rfl ?_ | refine ent_take 11 rfl ?_ | refine ent_take 12 rfl ?_)), ?_⟩
          refine de rfl rfl ?_
          refine ap 32 rfl rfl rfl rfl rfl (by rw [List.length_drop]; omega) (fqs_drop L (j + 1)) (fqs_one _) (by omega) (by simp only [maxLen]; omega) ?_
          intro ad8 cap8
          refine ⟨(by repeat (first | exact ent_nil _ | refine ent_take 0 rfl ?_ | refine ent_take 1 rfl ?_ | refine ent_take 2 rfl ?_ | refine ent_take 3 rfl ?_ | refine ent_take 4 rfl ?_ | refine ent_take 5 rfl ?_ | refine ent_take 6 rfl ?_ | refine ent_take 7 rfl ?_ | refine ent_take 8 rfl ?_ | refine ent_take 9 rfl ?_ | refine ent_take 10 rfl ?_ | refine ent_take 11 rfl ?_ | refine ent_take 12 rfl ?_)), ?_⟩
          first | refine dq rfl rfl rfl (nc rfl) ?_ | refine dq rfl rfl rfl (ncF rfl) ?_ | refine dq rfl rfl rfl (ncS rfl (by first | assumption | (simp [ints_length] <;> omega))) ?_
          first | refine dq rfl rfl rfl (fa 0 rfl rfl) ?_ | refine dq rfl rfl rfl (faS 0 rfl rfl (by first | assumption | (simp [ints_length] <;> omega))) ?_
          refine dl0 rfl rfl rfl ?_
          refine st (v := .slice _ _ _) (vs := [_]) 1 rfl rfl rfl rfl rfl rfl (Nat.le_of_ble_eq_true rfl) rfl ?_
          refine TD.nil (nt ?_)
          refine TC.seq ?_
          refine TC.region ?_
          refine q rfl rfl (asg (v := .int _ _) rfl) ?_
          refine TL.nil (nt ?_)
          refine TC.ret ?_
          exact Ret.i () [_] ⟨rfl, trivial⟩ rfl trivial (ent_close (⟨ad8, cap8⟩ : Option Addr × Nat) trivial (ent_takeE 0 rfl (by rw [← hco, cutQ_len hj, show 0 + j + (L.length - (j + 1)) = L.length - 1 from by omega]; rfl) (ent_takeE 0 rfl (by rw [← hco, cutQ_len hj, show 0 + j + (L.length - (j + 1)) = L.length - 1 from by omega, List.nil_append, fqs_app]) (by repeat (first | exact ent_nil _ | refine ent_take 0 rfl ?_ | refine ent_take 1 rfl ?_ | refine ent_take 2 rfl ?_ | refine ent_take 3 rfl ?_ | refine ent_take 4 rfl ?_ | refine ent_take 5 rfl ?_ | refine ent_take 6 rfl ?_ | refine ent_take 7 rfl ?_ | refine ent_take 8 rfl ?_ | refine ent_take 9 rfl ?_ | refine ent_take 10 rfl ?_ | refine ent_take 11 rfl ?_ | refine ent_take 12 rfl ?_)))))
  · have hv : closeQ L id = (L, 6) := if_pos h
    rw [hv, atQ_no h]
    dsimp only
    refine q rfl rfl (asg (v := .int _ _) rfl) ?_
    refine TL.nil (nt ?_)
    refine TC.seq ?_
    refine TC.seq ?_
    refine TC.region ?_
    refine q rfl rfl (mv (v := .int _ _) rfl) ?_
    refine q rfl rfl (lss rfl rfl) ?_
    refine TL.nil (nt ?_)
    refine TC.condD rfl (fun hc5 => ?_) (fun hc5 => absurd (by decide) hc5)
    refine TC.seq ?_
    refine TC.region ?_
    refine q rfl rfl (asg (v := .int _ _) rfl) ?_
    refine TL.nil (nt ?_)
    refine TC.ret (rt ?_)
    exact Ret.i () [_] ⟨rfl, trivial⟩ rfl trivial (ent_take 0 rfl (ent_take 0 rfl (ent_nil _)))

set_option maxRecDepth 4000 in
set_option maxHeartbeats 1000000 in
theorem rcharge_ok (b : Nat) (L : List Qn) (nxt : Int) (hW : WQ L nxt) (id n : Int) : FSpec Try.prog 23 [.pointer (some ⟨b, 0, none⟩), .int .i64 id, .int .i64 n] noRd [isRq b L nxt] (fun _ : Unit => .int .i64 (chargeQ L id n).2) (fun _ => True) (fun _ => [isRq b (chargeQ L id n).1 nxt]) := by
  refine FSpec.intro (rs := [.tmp 6]) (by kernel_rfl) Try.func23 rfl Try.ntmps23 (by rfl) rfl ?_
  intro F _
  change TC _ _ _ _ _ _ _ (sepL [_, _])
  refine TC.seq ?_
  refine TC.region ?_
  refine q rfl rfl (asg (v := .int _ _) rfl) ?_
  refine TL.nil (nt ?_)
  refine TC.seq ?_
  refine TC.region ?_
  refine q rfl rfl (mv (v := .pointer _) rfl) ?_
  refine q rfl rfl (mv (v := .int _ _) rfl) ?_
  refine e rfl ?_
  refine cl (rat_ok b L nxt hW id) rfl (picked_nil _) (ent_one 0 rfl) ?_
  intro _ _
  change TL _ _ _ _ _ _ _ _ (sepL [_, _])
  by_cases h : hasQ L id
  · obtain ⟨t, ht, rfl⟩ := h
    have h : hasQ L t.id := ⟨t, ht, rfl⟩
    obtain ⟨e1, e2, e3, e4⟩ := use_yes hW.nd ht
    have hb := hW.big ht
    obtain ⟨j, h1, h2⟩ := atQ_yes hW.nd ht
    have hj := (List.getElem?_eq_some_iff.1 h2).1
    rw [h1]
    refine q rfl rfl (asg (v := .int _ _) rfl) ?_
    refine TL.nil (nt ?_)
    refine TC.seq ?_
    refine TC.seq ?_
    refine TC.region ?_
    refine q rfl rfl (mv (v := .int _ _) rfl) ?_
    refine q rfl rfl (lss rfl rfl) ?_
    refine TL.nil (nt ?_)
    refine TC.condD rfl (fun hc8 => absurd hc8 (by omega)) (fun hc8 => ?_)
    refine TC.skip (nt ?_)
    refine TC.seq ?_
    refine TC.seq ?_
    refine TC.region ?_
    refine q rfl rfl (mv (v := .int _ _) rfl) ?_
    refine q rfl rfl (lss rfl rfl) ?_
    refine TL.nil (nt ?_)
    first | refine TC.condD rfl (fun h0 => ?_) (fun h0 => ?_) | refine TC.cond rfl (fun h0 => ?_) (fun h0 => ?_)
    · have hv : chargeQ L t.id n = (L, 1) := by rw [chargeQ, if_neg (fun h2 => h2 h), if_pos h0]
      rw [hv]
      dsimp only
      refine TC.seq ?_
      refine TC.region ?_
      refine q rfl rfl (asg (v := .int _ _) rfl) ?_
      refine TL.nil (nt ?_)
      refine TC.ret (rt ?_)
      exact Ret.i () [_] ⟨rfl, trivial⟩ rfl trivial (ent_take 0 rfl (ent_take 0 rfl (ent_nil _)))
    · refine TC.skip (nt ?_)
      refine TC.seq ?_
      refine TC.seq ?_
      refine TC.region ?_
      refine q rfl rfl (mv (v := .pointer _) rfl) ?_
      refine q rfl rfl (mv (v := .int _ _) rfl) ?_
      refine q rfl rfl (mv (v := .int _ _) rfl) ?_
      refine e rfl ?_
      refine cl (rfits_ok b L nxt hW t ht n) rfl (picked_nil _) (ent_one 0 rfl) ?_
      intro _ _
      change TL _ _ _ _ _ _ _ _ (sepL [_, _])
      first | refine q rfl rfl (notD rfl) ?_ | refine q rfl rfl (notB rfl) ?_
      refine TL.nil (nt ?_)
      first | refine TC.condD rfl (fun h3 => ?_) (fun h3 => ?_) | refine TC.cond rfl (fun h3 => ?_) (fun h3 => ?_)
      · have hv : chargeQ L t.id n = (L, 5) := by rw [chargeQ, if_neg (fun h2 => h2 h), if_neg h0, if_pos (by rw [e2]; exact h3)]
        rw [hv]
        dsimp only
        refine TC.seq ?_
        refine TC.region ?_
        refine q rfl rfl (asg (v := .int _ _) rfl) ?_
        refine TL.nil (nt ?_)
        refine TC.ret (rt ?_)
        exact Ret.i () [_] ⟨rfl, trivial⟩ rfl trivial (ent_take 0 rfl (ent_take 0 rfl (ent_nil _)))
      · have h5 : n ≤ t.lim - useQ L t.id := Decidable.not_not.1 h3
        refine TC.skip (nt ?_)
        refine TC.seq ?_
        refine TC.open 0 rfl (fun x0 hx0 => ?_)
        obtain ⟨a1, c1⟩ := x0
        clear hx0
        change TC _ _ _ _ _ _ _ (sepL [_, _, _])
        dsimp only
        have hil := fqsC_length L
        have hL32 := hW.len
        have hpos : 0 < (fqsC L).length := by omega
        have hv : chargeQ L t.id n = (setQ L t.id (t.chg + n), 0) := by rw [chargeQ, if_neg (fun h2 => h2 h), if_neg h0, if_neg (by rw [e2]; exact h3), e3]
        rw [hv]
        dsimp only
        have hset := set_at hW.nd h2 (t.chg + n)
        refine TC.draw _ [17] [(0, false), (1, false), (2, false), (3, false), (4, false), (5, false), (6, false), (7, false), (8, false), (9, false), (10, false), (11, false), (12, false), (13, false), (14, false), (15, false), (16, false), (17, true)] (by kernel_rfl) (by kernel_rfl) (ent.refl _) ?_
        refine dq rfl rfl rfl (mv (v := .pointer _) rfl) ?_
        first | refine dq rfl rfl rfl (nc rfl) ?_ | refine dq rfl rfl rfl (ncF rfl) ?_ | refine dq rfl rfl rfl (ncS rfl (by first | assumption | (simp [ints_length] <;> omega))) ?_
        first | refine dq rfl rfl rfl (fa 0 rfl rfl) ?_ | refine dq rfl rfl rfl (faS 0 rfl rfl (by first | assumption | (simp [ints_length] <;> omega))) ?_
        first | refine dq rfl rfl rfl (ld rfl rfl rfl) ?_ | refine dq rfl rfl rfl (ldS rfl rfl (flat_ld fqC_sz h2 3 (by omega) rfl)) ?_ | refine dq rfl rfl rfl (ldS rfl rfl rfl) ?_
        refine dq rfl rfl rfl (mv (v := .int _ _) rfl) ?_
        refine dq rfl rfl rfl (mv (v := .pointer _) rfl) ?_
        first | refine dq rfl rfl rfl (nc rfl) ?_ | refine dq rfl rfl rfl (ncF rfl) ?_ | refine dq rfl rfl rfl (ncS rfl (by first | assumption | (simp [ints_length] <;> omega))) ?_
        first | refine dq rfl rfl rfl (fa 0 rfl rfl) ?_ | refine dq rfl rfl rfl (faS 0 rfl rfl (by first | assumption | (simp [ints_length] <;> omega))) ?_
        first | refine dq rfl rfl rfl (ld rfl rfl rfl) ?_ | refine dq rfl rfl rfl (ldS rfl rfl (flat_ld fqC_sz h2 3 (by omega) rfl)) ?_ | refine dq rfl rfl rfl (ldS rfl rfl rfl) ?_
        refine dq rfl rfl rfl (mv (v := .int _ _) rfl) ?_
        first | refine dq rfl rfl rfl (ixS 50 4 rfl rfl rfl (by omega) (by first | assumption | (simp [ints_length] <;> omega))) ?_ | refine dq rfl rfl rfl (ixJ 50 4 rfl rfl rfl (by omega) (by omega) (by first | assumption | (simp [ints_length] <;> omega))) ?_ | refine dq rfl rfl rfl (ix 50 4 rfl rfl rfl (by omega) (by omega) rfl) ?_
        first | refine dq rfl rfl rfl (fa 3 rfl rfl) ?_ | refine dq rfl rfl rfl (faS 3 rfl rfl (by first | assumption | (simp [ints_length] <;> omega))) ?_
        first | refine dq rfl rfl rfl (ld rfl rfl rfl) ?_ | refine dq rfl rfl rfl (ldS rfl rfl (flat_ld fqC_sz h2 3 (by omega) rfl)) ?_ | refine dq rfl rfl rfl (ldS rfl rfl rfl) ?_
        refine dq rfl rfl rfl (mv (v := .int _ _) rfl) ?_
        first | refine dq rfl rfl rfl (addI rfl rfl (by omega) (by omega)) ?_ | refine dq rfl rfl rfl (add rfl rfl rfl) ?_
        first | refine dq rfl rfl rfl (ixS 50 4 rfl rfl rfl (by omega) (by first | assumption | (simp [ints_length] <;> omega))) ?_ | refine dq rfl rfl rfl (ixJ 50 4 rfl rfl rfl (by omega) (by omega) (by first | assumption | (simp [ints_length] <;> omega))) ?_ | refine dq rfl rfl rfl (ix 50 4 rfl rfl rfl (by omega) (by omega) rfl) ?_
        first | refine dq rfl rfl rfl (fa 3 rfl rfl) ?_ | refine dq rfl rfl rfl (faS 3 rfl rfl (by first | assumption | (simp [ints_length] <;> omega))) ?_
        refine dl0 rfl rfl rfl ?_
        first | refine st (v := .int _ _) (vs := [_]) 1 rfl rfl rfl rfl rfl rfl (Nat.le_of_ble_eq_true rfl) rfl ?_ | refine QM.stS (v := .int _ _) (vs := [_]) 1 rfl rfl rfl rfl rfl rfl (by decide) (by have h7 : (List.flatMap fqC L).length = L.length * 4 := flat_length fqC_sz L; omega) ((flat_set (a' := ⟨t.id, t.par, t.lim, t.chg + n⟩) fqC_sz h2 3 (by omega) (Nat.le_of_ble_eq_true rfl) rfl).trans (congrArg fqsC hset)) ?_
        refine TD.nil (nt ?_)
        refine TC.seq ?_
        refine TC.region ?_
        refine q rfl rfl (asg (v := .int _ _) rfl) ?_
        refine TL.nil (nt ?_)
        refine TC.ret ?_
        exact Ret.i () [_] ⟨rfl, trivial⟩ rfl trivial (ent_close (⟨a1, c1⟩ : Option Addr × Nat) trivial (ent_takeE 1 rfl (by rw [setQ_len]) (ent_takeE 0 rfl (by rw [setQ_len]) (by repeat (first | exact ent_nil _ | refine ent_take 0 rfl ?_ | refine ent_take 1 rfl ?_ | refine ent_take 2 rfl ?_ | refine ent_take 3 rfl ?_ | refine ent_take 4 rfl ?_ | refine ent_take 5 rfl ?_ | refine ent_take 6 rfl ?_ | refine ent_take 7 rfl ?_ | refine ent_take 8 rfl ?_ | refine ent_take 9 rfl ?_ | refine ent_take 10 rfl ?_ | refine ent_take 11 rfl ?_ | refine ent_take 12 rfl ?_)))))
  · have hv : chargeQ L id n = (L, 6) := if_pos h
    rw [hv, atQ_no h]
    dsimp only
    refine q rfl rfl (asg (v := .int _ _) rfl) ?_
    refine TL.nil (nt ?_)
    refine TC.seq ?_
    refine TC.seq ?_
    refine TC.region ?_
    refine q rfl rfl (mv (v := .int _ _) rfl) ?_
    refine q rfl rfl (lss rfl rfl) ?_
    refine TL.nil (nt ?_)
    refine TC.condD rfl (fun hc7 => ?_) (fun hc7 => absurd (by decide) hc7)
    refine TC.seq ?_
    refine TC.region ?_
    refine q rfl rfl (asg (v := .int _ _) rfl) ?_
    refine TL.nil (nt ?_)
    refine TC.ret (rt ?_)
    exact Ret.i () [_] ⟨rfl, trivial⟩ rfl trivial (ent_take 0 rfl (ent_take 0 rfl (ent_nil _)))

set_option maxRecDepth 4000 in
set_option maxHeartbeats 1000000 in
theorem rrefund_ok (b : Nat) (L : List Qn) (nxt : Int) (hW : WQ L nxt) (id n : Int) : FSpec Try.prog 24 [.pointer (some ⟨b, 0, none⟩), .int .i64 id, .int .i64 n] noRd [isRq b L nxt] (fun _ : Unit => .int .i64 (refundQ L id n).2) (fun _ => True) (fun _ => [isRq b (refundQ L id n).1 nxt]) := by
  refine FSpec.intro (rs := [.tmp 6]) (by kernel_rfl) Try.func24 rfl Try.ntmps24 (by rfl) rfl ?_
  intro F _
  change TC _ _ _ _ _ _ _ (sepL [_, _])
  refine TC.seq ?_
  refine TC.region ?_
  refine q rfl rfl (asg (v := .int _ _) rfl) ?_
  refine TL.nil (nt ?_)
  refine TC.seq ?_
  refine TC.region ?_
  refine q rfl rfl (mv (v := .pointer _) rfl) ?_
  refine q rfl rfl (mv (v := .int _ _) rfl) ?_
  refine e rfl ?_
  refine cl (rat_ok b L nxt hW id) rfl (picked_nil _) (ent_one 0 rfl) ?_
  intro _ _
  change TL _ _ _ _ _ _ _ _ (sepL [_, _])
  by_cases h : hasQ L id
  · obtain ⟨t, ht, rfl⟩ := h
    have h : hasQ L t.id := ⟨t, ht, rfl⟩
    obtain ⟨e1, e2, e3, e4⟩ := use_yes hW.nd ht
    have hb := hW.big ht
    obtain ⟨j, h1, h2⟩ := atQ_yes hW.nd ht
    have hj := (List.getElem?_eq_some_iff.1 h2).1
    rw [h1]
    refine q rfl rfl (asg (v := .int _ _) rfl) ?_
    refine TL.nil (nt ?_)
    refine TC.seq ?_
    refine TC.seq ?_
    refine TC.region ?_
    refine q rfl rfl (mv (v := .int _ _) rfl) ?_
    refine q rfl rfl (lss rfl rfl) ?_
    refine TL.nil (nt ?_)
    refine TC.condD rfl (fun hc10 => absurd hc10 (by omega)) (fun hc10 => ?_)
    refine TC.skip (nt ?_)
    refine TC.seq ?_
    refine TC.seq ?_
    refine TC.open 0 rfl (fun x0 hx0 => ?_)
    obtain ⟨a1, c1⟩ := x0
    clear hx0
    change TC _ _ _ _ _ _ _ (sepL [_, _, _])
    dsimp only
    have hil := fqsC_length L
    have hL32 := hW.len
    have hpos : 0 < (fqsC L).length := by omega
    refine TC.region ?_
    refine q rfl rfl (mv (v := .int _ _) rfl) ?_
    refine q rfl rfl (lss rfl rfl) ?_
    refine q rfl rfl (mv (v := .bool _) rfl) ?_
    refine TL.split 15 rfl (fun h0 => ?_) (fun h0 => ?_)
    · have h0 := of_decide_eq_true h0
      refine qs rfl rfl ?_
      refine qs rfl rfl ?_
      refine qs rfl rfl ?_
      refine qs rfl rfl ?_
      refine qs rfl rfl ?_
      refine qs rfl rfl ?_
      refine qs rfl rfl ?_
      refine qs rfl rfl ?_
      refine qs rfl rfl ?_
      refine qs rfl rfl ?_
      first | refine q rfl rfl (pkT (v := .bool _) rfl rfl) ?_ | refine q rfl rfl (pkF (v := .bool _) rfl rfl) ?_
      refine TL.nil (nt ?_)
      refine TC.condT rfl ?_
      have hv : refundQ L t.id n = (L, 1) := by rw [refundQ, if_neg (fun h2 => h2 h), if_pos (.inl h0)]
      rw [hv]
      dsimp only
      refine TC.seq ?_
      refine TC.region ?_
      refine q rfl rfl (asg (v := .int _ _) rfl) ?_
      refine TL.nil (nt ?_)
      refine TC.ret (rt ?_)
      exact Ret.i () [_] ⟨rfl, trivial⟩ rfl trivial (ent_close ⟨a1, c1⟩ trivial (ent_take 0 rfl (ent_take 0 rfl (ent_take 0 rfl (ent_nil _)))))
    · have h0 := of_decide_eq_false h0
      refine qg rfl rfl rfl (mv (v := .int _ _) rfl) ?_
      refine qg rfl rfl rfl (mv (v := .pointer _) rfl) ?_
      first | refine qg rfl rfl rfl (nc rfl) ?_ | refine qg rfl rfl rfl (ncF rfl) ?_ | refine qg rfl rfl rfl (ncS rfl (by first | assumption | (simp [ints_length] <;> omega))) ?_
      first | refine qg rfl rfl rfl (fa 0 rfl rfl) ?_ | refine qg rfl rfl rfl (faS 0 rfl rfl (by first | assumption | (simp [ints_length] <;> omega))) ?_
      first | refine qg rfl rfl rfl (ld rfl rfl rfl) ?_ | refine qg rfl rfl rfl (ldS rfl rfl (flat_ld fqC_sz h2 3 (by omega) rfl)) ?_ | refine qg rfl rfl rfl (ldS rfl rfl rfl) ?_
      refine qg rfl rfl rfl (mv (v := .int _ _) rfl) ?_
      first | refine qg rfl rfl rfl (ixS 50 4 rfl rfl rfl (by omega) (by first | assumption | (simp [ints_length] <;> omega))) ?_ | refine qg rfl rfl rfl (ixJ 50 4 rfl rfl rfl (by omega) (by omega) (by first | assumption | (simp [ints_length] <;> omega))) ?_ | refine qg rfl rfl rfl (ix 50 4 rfl rfl rfl (by omega) (by omega) rfl) ?_
      first | refine qg rfl rfl rfl (fa 3 rfl rfl) ?_ | refine qg rfl rfl rfl (faS 3 rfl rfl (by first | assumption | (simp [ints_length] <;> omega))) ?_
      first | refine qg rfl rfl rfl (ld rfl rfl rfl) ?_ | refine qg rfl rfl rfl (ldS rfl rfl (flat_ld fqC_sz h2 3 (by omega) rfl)) ?_ | refine qg rfl rfl rfl (ldS rfl rfl rfl) ?_
      refine qg rfl rfl rfl (gtr rfl rfl) ?_
      first | refine q rfl rfl (pkT (v := .bool _) rfl rfl) ?_ | refine q rfl rfl (pkF (v := .bool _) rfl rfl) ?_
      refine TL.nil (nt ?_)
      first | refine TC.condD rfl (fun h3 => ?_) (fun h3 => ?_) | refine TC.cond rfl (fun h3 => ?_) (fun h3 => ?_)
      · have hv : refundQ L t.id n = (L, 1) := by rw [refundQ, if_neg (fun h2 => h2 h), e3, if_pos (.inr h3)]
        rw [hv]
        dsimp only
        refine TC.seq ?_
        refine TC.region ?_
        refine q rfl rfl (asg (v := .int _ _) rfl) ?_
        refine TL.nil (nt ?_)
        refine TC.ret (rt ?_)
        exact Ret.i () [_] ⟨rfl, trivial⟩ rfl trivial (ent_close ⟨a1, c1⟩ trivial (ent_take 0 rfl (ent_take 0 rfl (ent_take 0 rfl (ent_nil _)))))
      · have hv : refundQ L t.id n = (setQ L t.id (t.chg - n), 0) := by rw [refundQ, if_neg (fun h2 => h2 h), e3, if_neg (fun h4 => h4.elim (fun h5 => h0 h5) (fun h5 => h3 h5))]
        rw [hv]
        dsimp only
        have hset := set_at hW.nd h2 (t.chg - n)
        refine TC.skip (nt ?_)
        refine TC.seq ?_
        refine TC.draw _ [17] [(0, false), (1, false), (2, false), (3, false), (4, false), (5, false), (6, false), (7, false), (8, false), (9, false), (10, false), (11, false), (12, false), (13, false), (14, false), (15, false), (16, false), (17, true)] (by kernel_rfl) (by kernel_rfl) (ent.refl _) ?_
        refine dq rfl rfl rfl (mv (v := .pointer _) rfl) ?_
        first | refine dq rfl rfl rfl (nc rfl) ?_ | refine dq rfl rfl rfl (ncF rfl) ?_ | refine dq rfl rfl rfl (ncS rfl (by first | assumption | (simp [ints_length] <;> omega))) ?_
        first | refine dq rfl rfl rfl (fa 0 rfl rfl) ?_ | refine dq rfl rfl rfl (faS 0 rfl rfl (by first | assumption | (simp [ints_length] <;> omega))) ?_
        first | refine dq rfl rfl rfl (ld rfl rfl rfl) ?_ | refine dq rfl rfl rfl (ldS rfl rfl (flat_ld fqC_sz h2 3 (by omega) rfl)) ?_ | refine dq rfl rfl rfl (ldS rfl rfl rfl) ?_
        refine dq rfl rfl rfl (mv (v := .int _ _) rfl) ?_
        refine dq rfl rfl rfl (mv (v := .pointer _) rfl) ?_
        first | refine dq rfl rfl rfl (nc rfl) ?_ | refine dq rfl rfl rfl (ncF rfl) ?_ | refine dq rfl rfl rfl (ncS rfl (by first | assumption | (simp [ints_length] <;> omega))) ?_
        first | refine dq rfl rfl rfl (fa 0 rfl rfl) ?_ | refine dq rfl rfl rfl (faS 0 rfl rfl (by first | assumption | (simp [ints_length] <;> omega))) ?_
        first | refine dq rfl rfl rfl (ld rfl rfl rfl) ?_ | refine dq rfl rfl rfl (ldS rfl rfl (flat_ld fqC_sz h2 3 (by omega) rfl)) ?_ | refine dq rfl rfl rfl (ldS rfl rfl rfl) ?_
        refine dq rfl rfl rfl (mv (v := .int _ _) rfl) ?_
        first | refine dq rfl rfl rfl (ixS 50 4 rfl rfl rfl (by omega) (by first | assumption | (simp [ints_length] <;> omega))) ?_ | refine dq rfl rfl rfl (ixJ 50 4 rfl rfl rfl (by omega) (by omega) (by first | assumption | (simp [ints_length] <;> omega))) ?_ | refine dq rfl rfl rfl (ix 50 4 rfl rfl rfl (by omega) (by omega) rfl) ?_
        first | refine dq rfl rfl rfl (fa 3 rfl rfl) ?_ | refine dq rfl rfl rfl (faS 3 rfl rfl (by first | assumption | (simp [ints_length] <;> omega))) ?_
        first | refine dq rfl rfl rfl (ld rfl rfl rfl) ?_ | refine dq rfl rfl rfl (ldS rfl rfl (flat_ld fqC_sz h2 3 (by omega) rfl)) ?_ | refine dq rfl rfl rfl (ldS rfl rfl rfl) ?_
        refine dq rfl rfl rfl (mv (v := .int _ _) rfl) ?_
        first | refine dq rfl rfl rfl (subI rfl rfl (by omega) (by omega)) ?_ | refine dq rfl rfl rfl (sub rfl rfl rfl) ?_
        first | refine dq rfl rfl rfl (ixS 50 4 rfl rfl rfl (by omega) (by first | assumption | (simp [ints_length] <;> omega))) ?_ | refine dq rfl rfl rfl (ixJ 50 4 rfl rfl rfl (by omega) (by omega) (by first | assumption | (simp [ints_length] <;> omega))) ?_ | refine dq rfl rfl rfl (ix 50 4 rfl rfl rfl (by omega) (by omega) rfl) ?_
        first | refine dq rfl rfl rfl (fa 3 rfl rfl) ?_ | refine dq rfl rfl rfl (faS 3 rfl rfl (by first | assumption | (simp [ints_length] <;> omega))) ?_
        refine dl0 rfl rfl rfl ?_
        first | refine st (v := .int _ _) (vs := [_]) 1 rfl rfl rfl rfl rfl rfl (Nat.le_of_ble_eq_true rfl) rfl ?_ | refine QM.stS (v := .int _ _) (vs := [_]) 1 rfl rfl rfl rfl rfl rfl (by decide) (by have h7 : (List.flatMap fqC L).length = L.length * 4 := flat_length fqC_sz L; omega) ((flat_set (a' := ⟨t.id, t.par, t.lim, t.chg - n⟩) fqC_sz h2 3 (by omega) (Nat.le_of_ble_eq_true rfl) rfl).trans (congrArg fqsC hset)) ?_
        refine TD.nil (nt ?_)
        refine TC.seq ?_
        refine TC.region ?_
        refine q rfl rfl (asg (v := .int _ _) rfl) ?_
        refine TL.nil (nt ?_)
        refine TC.ret ?_
        exact Ret.i () [_] ⟨rfl, trivial⟩ rfl trivial (ent_close (⟨a1, c1⟩ : Option Addr × Nat) trivial (ent_takeE 1 rfl (by rw [setQ_len]) (ent_takeE 0 rfl (by rw [setQ_len]) (by repeat (first | exact ent_nil _ | refine ent_take 0 rfl ?_ | refine ent_take 1 rfl ?_ | refine ent_take 2 rfl ?_ | refine ent_take 3 rfl ?_ | refine ent_take 4 rfl ?_ | refine ent_take 5 rfl ?_ | refine ent_take 6 rfl ?_ | refine ent_take 7 rfl ?_ | refine ent_take 8 rfl ?_ | refine ent_take 9 rfl ?_ | refine ent_take 10 rfl ?_ | refine ent_take 11 rfl ?_ | refine ent_take 12 rfl ?_)))))
  · have hv : refundQ L id n = (L, 6) := if_pos h
    rw [hv, atQ_no h]
    dsimp only
    refine q rfl rfl (asg (v := .int _ _) rfl) ?_
    refine TL.nil (nt ?_)
    refine TC.seq ?_
    refine TC.seq ?_
    refine TC.region ?_
    refine q rfl rfl (mv (v := .int _ _) rfl) ?_
    refine q rfl rfl (lss rfl rfl) ?_
    refine TL.nil (nt ?_)
    refine TC.condD rfl (fun hc9 => ?_) (fun hc9 => absurd (by decide) hc9)
    refine TC.seq ?_
    refine TC.region ?_
    refine q rfl rfl (asg (v := .int _ _) rfl) ?_
    refine TL.nil (nt ?_)
    refine TC.ret (rt ?_)
    exact Ret.i () [_] ⟨rfl, trivial⟩ rfl trivial (ent_take 0 rfl (ent_take 0 rfl (ent_nil _)))

end Go.Proofs.Ytmffldmipddngaa
