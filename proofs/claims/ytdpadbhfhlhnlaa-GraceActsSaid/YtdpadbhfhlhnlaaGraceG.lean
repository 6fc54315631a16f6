/-
  Proved here: what functions of this program compute, each as a contract over symbolic states, under the premises that each theorem names (most lines printed by a program of the prover).
-/
import Derived.Test.YtdpadbhfhlhnlaaGraceF
namespace Go.Proofs.Ytdpadbhfhlhnlaa
open Go Go.QM
structure ActV where
  ad : Option Addr
  cap : Nat
  xs : List Int
  n : Int
def actC (t : ActV) : List Value := [.slice t.ad t.xs.length t.cap, .int .i64 t.n]
def actsC (l : List ActV) : List Value := l.flatMap actC
theorem actC_sz (t : ActV) : (actC t).length = 2 := rfl
theorem actsC_length (l : List ActV) : (actsC l).length = l.length * 2 := flat_length actC_sz l
structure WaitInv (p now : Int) (l : List (Int × Int)) : Prop where
  hw : ∀ t ∈ l, now < t.2 ∧ t.2 ≤ now + p
  hs : l.Pairwise fun a b => a.2 ≤ b.2
theorem WaitInv.add {p now : Int} {l : List (Int × Int)} (h : WaitInv p now l) (hp : 1 ≤ p) (ys : List Int) : WaitInv p now (l ++ ys.map fun x => (x, now + p)) where
  hw := fun t ht => by
    rcases List.mem_append.1 ht with ht | ht
    · exact h.hw t ht
    · obtain ⟨x, hx, rfl⟩ := List.mem_map.1 ht
      exact ⟨by simp only; omega, by simp⟩
  hs := by
    rw [List.pairwise_append]
    refine ⟨h.hs, pw_const ys _, fun a ha b hb => ?_⟩
    obtain ⟨x, _, rfl⟩ := List.mem_map.1 hb
    exact (h.hw a ha).2
theorem WaitInv.tick {p now : Int} {l : List (Int × Int)} (h : WaitInv p now l) : WaitInv p (now + 1) (restL (now + 1) l) where
  hw := fun t ht => by
    have h1 := rest_gt h.hs t ht
    obtain ⟨_, h2⟩ := h.hw t ((List.dropWhile_sublist _).subset ht)
    exact ⟨h1, by omega⟩
  hs := h.hs.sublist (List.dropWhile_sublist _)
def fsts (l : List (Int × Int)) : List Int := l.map (·.1)
def lefts (now : Int) (l : List (Int × Int)) : List Int := l.map (·.2 - now)
theorem fsts_length (l : List (Int × Int)) : (fsts l).length = l.length := by simp [fsts]
theorem lefts_length (now : Int) (l : List (Int × Int)) : (lefts now l).length = l.length := by simp [lefts]
theorem zip_two (now : Int) (l : List (Int × Int)) : (fsts l).zip (lefts now l) = l.map fun t => (t.1, t.2 - now) := by
  induction l with
  | nil => rfl
  | cons a l ih => simp only [fsts, lefts, List.map_cons, List.zip_cons_cons] at ih ⊢; rw [ih]
theorem rof_two (x now : Int) (l : List (Int × Int)) : rof x (fsts l) (lefts now l) = leftG now x l := by
  rw [rof, zip_two, List.find?_map, leftG]
  have e : ((fun t : Int × Int => decide (t.1 = x)) ∘ fun t : Int × Int => (t.1, t.2 - now)) = fun t => decide (t.1 = x) := rfl
  rw [e]
  cases l.find? fun t => decide (t.1 = x) <;> rfl
theorem filter_due {p now : Int} {l : List (Int × Int)} (h : WaitInv p now l) : (l.filter fun t => decide (t.2 - now = 1)) = dueL (now + 1) l ∧ (l.filter fun t => decide (t.2 - now ≠ 1)) = restL (now + 1) l := by
  induction l with
  | nil => exact ⟨rfl, rfl⟩
  | cons a l ih =>
    have hs := h.hs
    rw [List.pairwise_cons] at hs
    obtain ⟨i1, i2⟩ := ih ⟨fun t ht => h.hw t (by simp [ht]), hs.2⟩
    have ha := (h.hw a (by simp)).1
    by_cases h1 : a.2 - now = 1
    · constructor
      · rw [List.filter_cons_of_pos (by simpa using h1), i1, dueL, dueL, List.takeWhile_cons_of_pos (by simp; omega)]
      · rw [List.filter_cons_of_neg (by simpa using h1), i2, restL, restL, List.dropWhile_cons_of_pos (by simp; omega)]
    · have hall : ∀ t ∈ l, t.2 - now ≠ 1 := fun t ht => by have := hs.1 t ht; omega
      constructor
      · rw [List.filter_cons_of_neg (by simpa using h1), dueL, List.takeWhile_cons_of_neg (by simp; omega), List.filter_eq_nil_iff.2 (fun t ht => by simpa using hall t ht)]
      · rw [List.filter_cons_of_pos (by simpa using h1), restL, List.dropWhile_cons_of_neg (by simp; omega), List.filter_eq_self.2 (fun t ht => by simpa using hall t ht)]
theorem rtwo {p now : Int} {l : List (Int × Int)} (h : WaitInv p now l) : rdue (fsts l) (lefts now l) = (dueL (now + 1) l).map (·.1) ∧ rrest (fsts l) (lefts now l) = fsts (restL (now + 1) l) ∧ rleft (fsts l) (lefts now l) = lefts (now + 1) (restL (now + 1) l) := by
  obtain ⟨h1, h2⟩ := filter_due h
  have e1 : ((fun t : Int × Int => decide (t.2 = 1)) ∘ fun t : Int × Int => (t.1, t.2 - now)) = fun t => decide (t.2 - now = 1) := rfl
  have e2 : ((fun t : Int × Int => decide (t.2 ≠ 1)) ∘ fun t : Int × Int => (t.1, t.2 - now)) = fun t => decide (t.2 - now ≠ 1) := rfl
  refine ⟨?_, ?_, ?_⟩
  · rw [rdue, zip_two, List.filter_map, e1, h1, List.map_map]; rfl
  · rw [rrest, zip_two, List.filter_map, e2, h2, List.map_map]; rfl
  · rw [rleft, zip_two, List.filter_map, e2, h2, List.map_map, lefts]
    exact List.map_congr_left fun t _ => by simp only [Function.comp_apply]; omega
theorem fsts_add (l : List (Int × Int)) (ys : List Int) (c : Int) : fsts l ++ ys = fsts (l ++ ys.map fun x => (x, c)) := by
  simp only [fsts, List.map_append, List.map_map]
  congr 1
  conv => lhs; rw [← List.map_id ys]
  rfl
theorem lefts_add (now p : Int) (l : List (Int × Int)) (ys : List Int) : lefts now l ++ List.replicate ys.length p = lefts now (l ++ ys.map fun x => (x, now + p)) := by
  simp only [lefts, List.map_append, List.map_map]
  congr 1
  induction ys with
  | nil => rfl
  | cons a l ih => simp only [List.length_cons, List.replicate_succ, List.map_cons, Function.comp_apply, ih]; congr 1; omega

theorem actslaw_ok (pp : Int) (ad : Option Addr) (l : List ActV) (cap : Nat) : FSpec Try.prog 3 [.int .i64 pp, .slice ad l.length cap] (fun F => (∃ E, RdS F E ad (actsC l)) ∧ ∀ t ∈ l, ∃ E, RdS F E t.ad (ints t.xs)) [] (fun _ : Unit => .bool true) (fun _ => True) (fun _ => []) := by
  refine FSpec.intro (rs := [.tmp 4]) (by kernel_rfl) Try.func3 rfl Try.ntmps3 (by rfl) rfl ?_
  intro F ⟨⟨E, hF⟩, hin⟩
  change TC _ _ _ _ _ _ _ (sepL [_])
  haveI : RdSI F ad E (actsC l) := ⟨hF⟩
  refine TC.seq ?_
  refine TC.region ?_
  refine q rfl rfl (asg (v := .bool _) rfl) ?_
  refine TL.nil (nt ?_)
  refine TC.seq ?_
  refine TC.seq ?_
  refine TC.region ?_
  refine e rfl ?_
  refine cl alive_ok rfl (picked_nil _) trivial ?_
  intro _ _
  change TL _ _ _ _ _ _ _ _ (sepL [_])
  first | refine q rfl rfl (notD rfl) ?_ | refine q rfl rfl (notB rfl) ?_
  refine TL.nil (nt ?_)
  refine TC.condF rfl ?_
  refine TC.skip (nt ?_)
  refine TC.seq ?_
  refine TC.seq ?_
  refine TC.region ?_
  refine q rfl rfl (mv (v := .slice _ _ _) rfl) ?_
  refine q rfl rfl (len 36 2 rfl rfl) ?_
  refine q rfl rfl (gtr rfl rfl) ?_
  refine TL.nil (nt ?_)
  first | refine TC.condD rfl (fun hbig => ?_) (fun hbig => ?_) | refine TC.cond rfl (fun hbig => ?_) (fun hbig => ?_)
  · refine TC.seq ?_
    refine TC.region ?_
    refine q rfl rfl (asg (v := .bool _) rfl) ?_
    refine TL.nil (nt ?_)
    refine TC.ret (rt ?_)
    exact Ret.i () [_] ⟨rfl, trivial⟩ rfl trivial (ent_take 0 rfl (ent_nil _))
  · have hL : l.length ≤ 60 := by omega
    refine TC.skip (nt ?_)
    refine TC.seq ?_
    refine TC.region ?_
    refine q rfl rfl (mv (v := .int _ _) rfl) ?_
    by_cases hp1 : 1 ≤ pp ∧ pp ≤ 16
    · refine e rfl ?_
      refine cl (new_ok pp hp1.1 hp1.2) rfl (picked_nil _) trivial ?_
      intro qb _
      change TL _ _ _ _ _ _ _ _ (sepL [_, _])
      refine q rfl rfl (asg (v := .pointer _) rfl) ?_
      refine TL.nil (nt ?_)
      refine TC.seq ?_
      refine TC.seq ?_
      refine TC.region ?_
      refine q rfl rfl (mv (v := .int _ _) rfl) ?_
      refine e rfl ?_
      refine cl (may_ok pp) rfl (picked_nil _) trivial ?_
      intro _ _
      change TL _ _ _ _ _ _ _ _ (sepL [_, _])
      rw [decide_eq_true hp1]
      first | refine q rfl rfl (notD rfl) ?_ | refine q rfl rfl (notB rfl) ?_
      refine TL.nil (nt ?_)
      refine TC.condF rfl ?_
      refine TC.skip (nt ?_)
      refine TC.seq ?_
      refine TC.region ?_
      refine q rfl rfl (mv (v := .int _ _) rfl) ?_
      first | refine q rfl rfl (bld (cs := [.int _ _, .slice _ _ _, .slice _ _ _]) rfl) ?_ | refine q rfl rfl (bld (cs := [_, _, _]) rfl) ?_
      refine e rfl ?_
      refine bx (v := .agg #[_, _, _]) (l := [.int _ _, .slice _ _ _, .slice _ _ _]) rfl rfl ?_
      intro b2
      refine q rfl rfl (asg (v := .pointer _) rfl) ?_
      refine TL.nil (nt ?_)
      refine TC.seq ?_
      refine TC.seq ?_
      refine TC.region ?_
      refine q rfl rfl (asg (v := .int _ _) rfl) ?_
      refine TL.nil (nt ?_)
      refine TC.block ?_
      refine TC.weak (B := sepL [isQ qb pp 0 [], isR b2 pp (fsts []) (lefts 0 []), F]) ((slc_nil 3 1 _).trans ((slc_nil 3 1 _).trans (ent_take 3 rfl (ent_close ⟨(none, 0), (none, 0)⟩ (by rfl) (ent_take 2 rfl (ent_take 0 rfl (ent_take 0 rfl (ent_take 0 rfl (ent_nil _))))))))) ?_
      refine TC.loop (ι := Nat × Int × List (Int × Int)) (fun s => WaitInv pp s.2.1 s.2.2 ∧ s.1 ≤ l.length ∧ s.2.2.length ≤ 30 * s.1 ∧ 0 ≤ s.2.1 ∧ s.2.1 ≤ 30 * s.1) (fun s => [(0, .int .i64 pp), (1, .slice ad l.length cap), (5, .pointer (some ⟨qb, 0, none⟩)), (6, .pointer (some ⟨b2, 0, none⟩)), (7, .int .i64 ((s.1 : Nat) : Int))]) (fun s => sepL [isQ qb pp s.2.1 s.2.2, isR b2 pp (fsts s.2.2) (lefts s.2.1 s.2.2), F]) (fun s => l.length - s.1) ⟨0, 0, []⟩ ⟨⟨by simp, by simp⟩, by dsimp only; omega, by simp, by dsimp only; omega, by dsimp only; omega⟩ ⟨rfl, rfl, rfl, rfl, rfl, trivial⟩ (ent_take 0 rfl (ent_take 0 rfl (ent_take 0 rfl (ent_nil _)))) ?_
      rintro ⟨i, now, ql⟩ ⟨hinv, hi, hql, hn0, hnow⟩ ρ0
      dsimp only [updL] at hinv hi hql hn0 hnow ⊢
      refine TC.seq ?_
      refine TC.seq ?_
      refine TC.region ?_
      refine q rfl rfl (mv (v := .int _ _) rfl) ?_
      refine q rfl rfl (mv (v := .slice _ _ _) rfl) ?_
      refine q rfl rfl (len 36 2 rfl rfl) ?_
      refine q rfl rfl (lss rfl rfl) ?_
      refine TL.nil (nt ?_)
      first | refine TC.condD rfl (fun hlt => ?_) (fun hlt => ?_) | refine TC.cond rfl (fun hlt => ?_) (fun hlt => ?_)
      · have hlt : i < l.length := by omega
        obtain ⟨t, ht⟩ : ∃ t, l[i]? = some t := ⟨l[i], List.getElem?_eq_getElem hlt⟩
        obtain ⟨E2, hE2⟩ := hin t (List.mem_of_getElem? ht)
        haveI : RdSI F t.ad E2 (ints t.xs) := ⟨hE2⟩
        have hpos : 0 < (actsC l).length := by rw [actsC_length]; omega
        refine TC.skip (nt ?_)
        refine TC.seq ?_
        refine TC.block ?_
        refine TC.seq ?_
        refine TC.region ?_
        refine q rfl rfl (mv (v := .slice _ _ _) rfl) ?_
        refine q rfl rfl (mv (v := .int _ _) rfl) ?_
        first | refine q rfl rfl (ixS 36 2 rfl rfl rfl (by omega) (by first | assumption | (simp [ints_length] <;> omega))) ?_ | refine q rfl rfl (ixJ 36 2 rfl rfl rfl (by omega) (by omega) (by first | assumption | (simp [ints_length] <;> omega))) ?_ | refine q rfl rfl (ix 36 2 rfl rfl rfl (by omega) (by omega) rfl) ?_
        first | refine q rfl rfl (ldN (vs := [_, _]) 2 rfl rfl rfl rfl) ?_ | refine q rfl rfl (ldSN (vs := [_, _]) 2 rfl rfl (flat_get_rec actC_sz ht) rfl (by decide)) ?_ | refine q rfl rfl (ldSN (vs := [_, _]) 2 rfl rfl rfl rfl (by decide)) ?_
        refine e rfl ?_
        refine al (l := [.slice _ _ _, .int _ _]) rfl rfl ?_
        intro b3
        refine e0 ?_
        refine st (v := .agg #[_, _]) (vs := [_, _]) 2 rfl rfl rfl rfl rfl rfl (Nat.le_of_ble_eq_true rfl) rfl ?_
        refine TL.nil (nt ?_)
        refine TC.seq ?_
        refine TC.seq ?_
        refine TC.region ?_
        first | refine q rfl rfl (fa 0 rfl rfl) ?_ | refine q rfl rfl (faS 0 rfl rfl (by first | assumption | (simp [ints_length] <;> omega))) ?_
        first | refine q rfl rfl (ld rfl rfl rfl) ?_ | refine q rfl rfl (ldS rfl rfl (flat_get_rec actC_sz ht)) ?_ | refine q rfl rfl (ldS rfl rfl rfl) ?_
        refine q rfl rfl (len 3 1 rfl rfl) ?_
        refine q rfl rfl (gtr rfl rfl) ?_
        refine q rfl rfl (mv (v := .bool _) rfl) ?_
        refine TL.split 65 rfl (fun hbg => ?_) (fun hbg => ?_)
        · have hbg := of_decide_eq_true hbg
          refine qs rfl rfl ?_
          refine qs rfl rfl ?_
          refine qs rfl rfl ?_
          first | refine q rfl rfl (pkT rfl rfl) ?_ | refine q rfl rfl (pkF rfl rfl) ?_
          refine TL.nil (nt ?_)
          refine TC.condT rfl ?_
          refine TC.seq ?_
          refine TC.region ?_
          refine q rfl rfl (asg (v := .bool _) rfl) ?_
          refine TL.nil (nt ?_)
          refine TC.ret (rt (rb (rt (rt (rb (rt ?_))))))
          exact Ret.i () [_] ⟨rfl, trivial⟩ rfl trivial (ent_take 3 rfl (ent_nil _))
        · have hbg := of_decide_eq_false hbg
          first | refine qg rfl rfl rfl (fa 1 rfl rfl) ?_ | refine qg rfl rfl rfl (faS 1 rfl rfl (by first | assumption | (simp [ints_length] <;> omega))) ?_
          first | refine qg rfl rfl rfl (ld rfl rfl rfl) ?_ | refine qg rfl rfl rfl (ldS rfl rfl (flat_get_rec actC_sz ht)) ?_ | refine qg rfl rfl rfl (ldS rfl rfl rfl) ?_
          refine qg rfl rfl rfl (gtr rfl rfl) ?_
          first | refine q rfl rfl (pkT rfl rfl) ?_ | refine q rfl rfl (pkF rfl rfl) ?_
          refine TL.nil (nt ?_)
          first | refine TC.condD rfl (fun hbn => ?_) (fun hbn => ?_) | refine TC.cond rfl (fun hbn => ?_) (fun hbn => ?_)
          · refine TC.seq ?_
            refine TC.region ?_
            refine q rfl rfl (asg (v := .bool _) rfl) ?_
            refine TL.nil (nt ?_)
            refine TC.ret (rt (rb (rt (rt (rb (rt ?_))))))
            exact Ret.i () [_] ⟨rfl, trivial⟩ rfl trivial (ent_take 3 rfl (ent_nil _))
          · have hN : t.n ≤ 30 := by omega
            have hX : t.xs.length ≤ 30 := by omega
            have hfl := fsts_length ql
            have hll := lefts_length now ql
            refine TC.skip (nt ?_)
            refine TC.seq ?_
            refine TC.region ?_
            refine q rfl rfl (mv (v := .pointer _) rfl) ?_
            first | refine q rfl rfl (fa 0 rfl rfl) ?_ | refine q rfl rfl (faS 0 rfl rfl (by first | assumption | (simp [ints_length] <;> omega))) ?_
            first | refine q rfl rfl (ld rfl rfl rfl) ?_ | refine q rfl rfl (ldS rfl rfl (flat_get_rec actC_sz ht)) ?_ | refine q rfl rfl (ldS rfl rfl rfl) ?_
            refine e rfl ?_
            refine cl (radd_ok b2 pp (fsts ql) (lefts now ql) _ _ t.xs (by omega) (by omega)) rfl (picked_cons 2 rfl (picked_nil _)) ⟨_, RdSI.rd (ad := t.ad)⟩ ?_
            intro _ _
            change TL _ _ _ _ _ _ _ _ (sepL [_, _, _, _])
            rw [fsts_add ql t.xs (now + pp), lefts_add]
            refine TL.nil (nt ?_)
            refine TC.seq ?_
            refine TC.seq ?_
            refine TC.open 0 rfl (fun x0 hx0 => ?_)
            obtain ⟨⟨a1, c1⟩, ⟨a2, c2⟩⟩ := x0
            have hrl := hx0
            change TC _ _ _ _ _ _ _ (sepL [_, _, _, _, _, _])
            refine TC.draw _ [] [(0, false), (1, false), (2, false), (4, false), (5, false), (6, false), (7, false), (8, false), (3, true), (9, false)] (by kernel_rfl) (by kernel_rfl) (ent_take 0 rfl (ent_take 0 rfl (ent_take 0 rfl (ent_take 0 rfl (ent_take 1 rfl (ent_nil _)))))) ?_
            refine dq rfl rfl rfl (mv (v := .pointer _) rfl) ?_
            first | refine dq rfl rfl rfl (fa 0 rfl rfl) ?_ | refine dq rfl rfl rfl (faS 0 rfl rfl (by first | assumption | (simp [ints_length] <;> omega))) ?_
            first | refine dq rfl rfl rfl (ld rfl rfl rfl) ?_ | refine dq rfl rfl rfl (ldS rfl rfl (flat_get_rec actC_sz ht)) ?_ | refine dq rfl rfl rfl (ldS rfl rfl rfl) ?_
            refine dq rfl rfl rfl (mv (v := .pointer _) rfl) ?_
            first | refine dq rfl rfl rfl (nc rfl) ?_ | refine dq rfl rfl rfl (ncF rfl) ?_ | refine dq rfl rfl rfl (ncS rfl (by first | assumption | (simp [ints_length] <;> omega))) ?_
            first | refine dq rfl rfl rfl (fa 1 rfl rfl) ?_ | refine dq rfl rfl rfl (faS 1 rfl rfl (by first | assumption | (simp [ints_length] <;> omega))) ?_
            first | refine dq rfl rfl rfl (ld rfl rfl rfl) ?_ | refine dq rfl rfl rfl (ldS rfl rfl (flat_get_rec actC_sz ht)) ?_ | refine dq rfl rfl rfl (ldS rfl rfl rfl) ?_
            refine dq rfl rfl rfl (len 3 1 rfl rfl) ?_
            refine de rfl rfl ?_
            refine cl (add_ok qb pp now ql _ _ t.xs hp1 (by omega) (by omega) (by omega)) rfl (picked_cons 4 rfl (picked_nil _)) ⟨_, RdSI.rd (ad := t.ad)⟩ ?_
            intro _ _
            change ent _ _ ∧ TD _ _ _ _ _ _ _ _ _ _ (sepL [_, _, _, _, _, _])
            refine ⟨(by repeat (first | exact ent_nil _ | refine ent_take 0 rfl ?_ | refine ent_take 1 rfl ?_ | refine ent_take 2 rfl ?_ | refine ent_take 3 rfl ?_ | refine ent_take 4 rfl ?_ | refine ent_take 5 rfl ?_ | refine ent_take 6 rfl ?_ | refine ent_take 7 rfl ?_)), ?_⟩
            have hinv1 := hinv.add hp1.1 t.xs
            have hlen1 : (ql ++ t.xs.map fun x => (x, now + pp)).length = ql.length + t.xs.length := by simp
            generalize (ql ++ t.xs.map fun x => (x, now + pp)) = q1 at hinv1 hlen1 hrl ⊢
            have hf1 := fsts_length q1
            have hl1 := lefts_length now q1
            refine dq rfl rfl rfl (neI rfl rfl) ?_
            refine TD.nil (nt ?_)
            refine TC.condD rfl (fun hc1 => absurd hc1 (by omega)) (fun hc1 => ?_)
            refine TC.skip (nt ?_)
            refine TC.seq ?_
            refine TC.seq ?_
            refine TC.weak (B := sepL [isQ qb pp now q1, isR b2 pp (fsts q1) (lefts now q1), pts b3 36 (actC t), F]) (ent_take 0 rfl (ent_close ⟨(a1, c1), (a2, c2)⟩ hrl (ent_take 0 rfl (ent_take 0 rfl (ent_take 0 rfl (ent_take 0 rfl (ent_take 0 rfl (ent_nil _)))))))) ?_
            refine TC.region ?_
            refine q rfl rfl (asg (v := .int _ _) rfl) ?_
            refine TL.nil (nt ?_)
            refine TC.block ?_
            refine TC.loop (ι := Nat × Int × List (Int × Int)) (fun s => WaitInv pp s.2.1 s.2.2 ∧ s.2.2.length ≤ 30 * i + 30 ∧ 0 ≤ s.2.1 ∧ s.2.1 ≤ 30 * i + s.1 ∧ s.1 ≤ 30) (fun s => [(0, .int .i64 pp), (1, .slice ad l.length cap), (5, .pointer (some ⟨qb, 0, none⟩)), (6, .pointer (some ⟨b2, 0, none⟩)), (7, .int .i64 ((i : Nat) : Int)), (8, .pointer (some ⟨b3, 0, none⟩)), (9, .int .i64 ((s.1 : Nat) : Int))]) (fun s => sepL [isQ qb pp s.2.1 s.2.2, isR b2 pp (fsts s.2.2) (lefts s.2.1 s.2.2), pts b3 36 (actC t), F]) (fun s => 31 - s.1) ⟨0, now, q1⟩ ⟨hinv1, by dsimp only; omega, hn0, by dsimp only; omega, by omega⟩ ⟨rfl, rfl, rfl, rfl, rfl, rfl, rfl, trivial⟩ (ent_take 0 rfl (ent_take 0 rfl (ent_take 0 rfl (ent_take 0 rfl (ent_nil _))))) ?_
            rintro ⟨k, now2, q2⟩ ⟨hinv2, hq2, hn2, hnow2, hk2⟩ ρ1
            dsimp only [updL] at hinv2 hq2 hn2 hnow2 hk2 ⊢
            refine TC.seq ?_
            refine TC.seq ?_
            refine TC.region ?_
            refine q rfl rfl (mv (v := .int _ _) rfl) ?_
            first | refine q rfl rfl (fa 1 rfl rfl) ?_ | refine q rfl rfl (faS 1 rfl rfl (by first | assumption | (simp [ints_length] <;> omega))) ?_
            first | refine q rfl rfl (ld rfl rfl rfl) ?_ | refine q rfl rfl (ldS rfl rfl (flat_get_rec actC_sz ht)) ?_ | refine q rfl rfl (ldS rfl rfl rfl) ?_
            refine q rfl rfl (lss rfl rfl) ?_
            refine TL.nil (nt ?_)
            first | refine TC.condD rfl (fun hkn => ?_) (fun hkn => ?_) | refine TC.cond rfl (fun hkn => ?_) (fun hkn => ?_)
            · have hkn' : (k : Int) < t.n := hkn
              have hf2 := fsts_length q2
              have hl2 := lefts_length now2 q2
              obtain ⟨r1, r2, r3⟩ := rtwo hinv2
              have hsp := congrArg List.length (due_rest (now2 + 1) q2)
              rw [List.length_append] at hsp
              have hinv3 := hinv2.tick
              refine TC.skip (nt ?_)
              refine TC.seq ?_
              refine TC.block ?_
              refine TC.seq ?_
              refine TC.region ?_
              refine q rfl rfl (mv (v := .pointer _) rfl) ?_
              refine e rfl ?_
              refine cl (tick_ok qb pp now2 q2 (by omega) (by omega)) rfl (picked_cons 0 rfl (picked_nil _)) trivial ?_
              intro y1 _
              change TL _ _ _ _ _ _ _ _ (sepL [_, _, _, _, _])
              refine q rfl rfl (mv (v := .pointer _) rfl) ?_
              refine e rfl ?_
              refine cl (rtick_ok b2 pp (fsts q2) (lefts now2 q2) (by omega) (fun z hz => by obtain ⟨u, hu, rfl⟩ := List.mem_map.1 hz; have := hinv2.hw u hu; omega)) rfl (picked_cons 2 rfl (picked_nil _)) trivial ?_
              intro y2 _
              change TL _ _ _ _ _ _ _ _ (sepL [_, _, _, _, _, _])
              rw [r1, r2, r3]
              refine e rfl ?_
              refine cl (same_ok _ _ ((dueL (now2 + 1) q2).map fun u : Int × Int => u.1) _ _ ((dueL (now2 + 1) q2).map fun u : Int × Int => u.1) (by simp; omega)) rfl (picked_nil _) ⟨⟨_, RdSI.rd (ad := y1.1)⟩, ⟨_, RdSI.rd (ad := y2.1)⟩⟩ ?_
              intro _ _
              change TL _ _ _ _ _ _ _ _ (sepL [_, _, _, _, _, _])
              rw [decide_eq_true rfl]
              first | refine q rfl rfl (notD rfl) ?_ | refine q rfl rfl (notB rfl) ?_
              refine TL.nil (nt ?_)
              refine TC.condF rfl ?_
              refine TC.skip (nb (nt ?_))
              refine TC.region ?_
              refine q rfl rfl (mv (v := .int _ _) rfl) ?_
              first | refine q rfl rfl (addI rfl rfl (by omega) (by omega)) ?_ | refine q rfl rfl (add rfl rfl rfl) ?_
              refine q rfl rfl (asg (v := .int _ _) rfl) ?_
              refine TL.nil (nt ?_)
              exact ⟨rfl, ⟨k + 1, now2 + 1, restL (now2 + 1) q2⟩, ⟨hinv3, by dsimp only; omega, by dsimp only; omega, by dsimp only; omega, by dsimp only; omega⟩, (by dsimp only; omega), ⟨rfl, rfl, rfl, rfl, rfl, rfl, rfl, trivial⟩, (ent_take 2 rfl (ent_take 0 rfl (ent_take 2 rfl (ent_take 2 rfl (ent_nil _)))))⟩
            · have hf2 := fsts_length q2
              have hl2 := lefts_length now2 q2
              have hbd : ∀ u ∈ q2, 0 ≤ u.2 ∧ u.2 ≤ 2000000000 := fun u hu => by have := hinv2.hw u hu; omega
              refine TC.exit (et (et (eb (nt ?_))))
              refine TC.seq ?_
              refine TC.open 1 rfl (fun x0 hx0 => ?_)
              obtain ⟨⟨a3, c3⟩, ⟨a4, c4⟩⟩ := x0
              have hrl2 := hx0
              change TC _ _ _ _ _ _ _ (sepL [_, _, _, _, _, _])
              refine TC.draw _ [] [(0, false), (2, false), (3, false), (4, false), (5, false), (1, true), (6, true), (7, false), (8, false), (9, false), (10, false), (11, false), (13, false), (14, false), (15, false), (12, true), (16, true), (17, false), (18, false), (19, false), (20, false), (21, false), (22, false), (23, false), (24, false), (25, false), (26, false), (27, false), (28, false), (29, false), (30, false), (31, false), (32, false), (33, false), (35, false), (36, false), (37, false), (38, false), (39, false), (40, false), (41, false), (34, true), (42, true), (43, false), (44, false), (45, false)] (by kernel_rfl) (by kernel_rfl) (ent_take 0 rfl (ent_take 0 rfl (ent_take 0 rfl (ent_take 0 rfl (ent_take 0 rfl (ent_take 0 rfl (ent_nil _))))))) ?_
              refine dq rfl rfl rfl (mv (v := .pointer _) rfl) ?_
              refine dq rfl rfl rfl (mv (v := .pointer _) rfl) ?_
              first | refine dq rfl rfl rfl (nc rfl) ?_ | refine dq rfl rfl rfl (ncF rfl) ?_ | refine dq rfl rfl rfl (ncS rfl (by first | assumption | (simp [ints_length] <;> omega))) ?_
              first | refine dq rfl rfl rfl (fa 1 rfl rfl) ?_ | refine dq rfl rfl rfl (faS 1 rfl rfl (by first | assumption | (simp [ints_length] <;> omega))) ?_
              first | refine dq rfl rfl rfl (ld rfl rfl rfl) ?_ | refine dq rfl rfl rfl (ldS rfl rfl (flat_get_rec actC_sz ht)) ?_ | refine dq rfl rfl rfl (ldS rfl rfl rfl) ?_
              refine de rfl rfl ?_
              refine cl (list_ok qb pp now2 q2 (by omega)) rfl (picked_nil _) (ent_one 3 rfl) ?_
              intro y3 _
              change ent _ _ ∧ TD _ _ _ _ _ _ _ _ _ _ (sepL [_, _, _, _, _, _, _])
              refine ⟨(by repeat (first | exact ent_nil _ | refine ent_take 0 rfl ?_ | refine ent_take 1 rfl ?_ | refine ent_take 2 rfl ?_ | refine ent_take 3 rfl ?_ | refine ent_take 4 rfl ?_ | refine ent_take 5 rfl ?_ | refine ent_take 6 rfl ?_ | refine ent_take 7 rfl ?_)), ?_⟩
              rw [← hf2]
              refine de rfl rfl ?_
              refine cl (same_ok y3.1 _ (fsts q2) a3 _ (fsts q2) (by omega)) rfl (picked_nil _) ⟨⟨_, RdSI.rd (ad := y3.1)⟩, ⟨_, RdSI.rd (ad := a3)⟩⟩ ?_
              intro _ _
              change ent _ _ ∧ TD _ _ _ _ _ _ _ _ _ _ (sepL [_, _, _, _, _, _, _])
              refine ⟨(by repeat (first | exact ent_nil _ | refine ent_take 0 rfl ?_ | refine ent_take 1 rfl ?_ | refine ent_take 2 rfl ?_ | refine ent_take 3 rfl ?_ | refine ent_take 4 rfl ?_ | refine ent_take 5 rfl ?_ | refine ent_take 6 rfl ?_ | refine ent_take 7 rfl ?_)), ?_⟩
              rw [decide_eq_true (show fsts q2 = fsts q2 from rfl)]
              first | refine dq rfl rfl rfl (notD rfl) ?_ | refine dq rfl rfl rfl (notB rfl) ?_
              refine dq rfl rfl rfl (mv (v := .bool _) rfl) ?_
              refine TD.known 104 rfl (b' := false) rfl ?_
              refine dg rfl rfl rfl rfl (mv (v := .pointer _) rfl) ?_
              first | refine dg rfl rfl rfl rfl (fa 1 rfl rfl) ?_ | refine dg rfl rfl rfl rfl (faS 1 rfl rfl (by first | assumption | (simp [ints_length] <;> omega))) ?_
              first | refine dg rfl rfl rfl rfl (ld rfl rfl rfl) ?_ | refine dg rfl rfl rfl rfl (ldS rfl rfl (flat_get_rec actC_sz ht)) ?_ | refine dg rfl rfl rfl rfl (ldS rfl rfl rfl) ?_
              refine dg rfl rfl rfl rfl (mv (v := .pointer _) rfl) ?_
              first | refine dg rfl rfl rfl rfl (fa 1 rfl rfl) ?_ | refine dg rfl rfl rfl rfl (faS 1 rfl rfl (by first | assumption | (simp [ints_length] <;> omega))) ?_
              first | refine dg rfl rfl rfl rfl (ld rfl rfl rfl) ?_ | refine dg rfl rfl rfl rfl (ldS rfl rfl (flat_get_rec actC_sz ht)) ?_ | refine dg rfl rfl rfl rfl (ldS rfl rfl rfl) ?_
              refine deg rfl rfl rfl ?_
              refine cl (left_ok qb pp now2 q2 t.n (by omega) (by omega) hbd) rfl (picked_nil _) (ent_one 4 rfl) ?_
              intro _ _
              change ent _ _ ∧ TD _ _ _ _ _ _ _ _ _ _ (sepL [_, _, _, _, _, _, _])
              refine ⟨(by repeat (first | exact ent_nil _ | refine ent_take 0 rfl ?_ | refine ent_take 1 rfl ?_ | refine ent_take 2 rfl ?_ | refine ent_take 3 rfl ?_ | refine ent_take 4 rfl ?_ | refine ent_take 5 rfl ?_ | refine ent_take 6 rfl ?_ | refine ent_take 7 rfl ?_)), ?_⟩
              refine deg rfl rfl rfl ?_
              refine cl (rof_ok b2 pp (fsts q2) (lefts now2 q2) t.n (by omega)) rfl (picked_nil _) (ent_of (ent_close ⟨(a3, c3), (a4, c4)⟩ hrl2 (ent_take 1 rfl (ent_take 1 rfl (ent_take 1 rfl (ent_nil _)))))) ?_
              intro _ _
              change ent _ _ ∧ TD _ _ _ _ _ _ _ _ _ _ (sepL [_, _, _, _, _, _, _])
              refine ⟨(by repeat (first | exact ent_nil _ | refine ent_take 0 rfl ?_ | refine ent_take 1 rfl ?_ | refine ent_take 2 rfl ?_ | refine ent_take 3 rfl ?_ | refine ent_take 4 rfl ?_ | refine ent_take 5 rfl ?_ | refine ent_take 6 rfl ?_ | refine ent_take 7 rfl ?_)), ?_⟩
              rw [rof_two]
              refine dg rfl rfl rfl rfl (neI rfl rfl) ?_
              first | refine dq rfl rfl rfl (pkT rfl rfl) ?_ | refine dq rfl rfl rfl (pkF rfl rfl) ?_
              refine dq rfl rfl rfl (mv (v := .bool _) rfl) ?_
              refine TD.known 115 rfl (b' := false) (decide_eq_false (fun h => h rfl)) ?_
              refine dg rfl rfl rfl rfl (mv (v := .pointer _) rfl) ?_
              first | refine dg rfl rfl rfl rfl (nc rfl) ?_ | refine dg rfl rfl rfl rfl (ncF rfl) ?_ | refine dg rfl rfl rfl rfl (ncS rfl (by first | assumption | (simp [ints_length] <;> omega))) ?_
              first | refine dg rfl rfl rfl rfl (fa 1 rfl rfl) ?_ | refine dg rfl rfl rfl rfl (faS 1 rfl rfl (by first | assumption | (simp [ints_length] <;> omega))) ?_
              first | refine dg rfl rfl rfl rfl (ld rfl rfl rfl) ?_ | refine dg rfl rfl rfl rfl (ldS rfl rfl (flat_get_rec actC_sz ht)) ?_ | refine dg rfl rfl rfl rfl (ldS rfl rfl rfl) ?_
              refine dg rfl rfl rfl rfl (len 3 1 rfl rfl) ?_
              refine dg rfl rfl rfl rfl (gtr rfl rfl) ?_
              refine dg rfl rfl rfl rfl (mv (v := .bool _) rfl) ?_
              refine TD.split 122 rfl (fun hpl => ?_) (fun hpl => ?_)
              · have hpl := of_decide_eq_true hpl
                obtain ⟨w, hw⟩ : ∃ w, (fsts q2)[0]? = some w := ⟨(fsts q2)[0]'(by omega), List.getElem?_eq_getElem (by omega)⟩
                have hposf : 0 < (ints (fsts q2)).length := by rw [ints_length]; omega
                refine dg rfl rfl rfl rfl (mv (v := .pointer _) rfl) ?_
                refine dg rfl rfl rfl rfl (mv (v := .pointer _) rfl) ?_
                first | refine dg rfl rfl rfl rfl (nc rfl) ?_ | refine dg rfl rfl rfl rfl (ncF rfl) ?_ | refine dg rfl rfl rfl rfl (ncS rfl (by first | assumption | (simp [ints_length] <;> omega))) ?_
                first | refine dg rfl rfl rfl rfl (fa 1 rfl rfl) ?_ | refine dg rfl rfl rfl rfl (faS 1 rfl rfl (by first | assumption | (simp [ints_length] <;> omega))) ?_
                first | refine dg rfl rfl rfl rfl (ld rfl rfl rfl) ?_ | refine dg rfl rfl rfl rfl (ldS rfl rfl (ints_get hw)) ?_ | refine dg rfl rfl rfl rfl (ldS rfl rfl rfl) ?_
                first | refine dg rfl rfl rfl rfl (ixS 3 1 rfl rfl rfl (by omega) (by first | assumption | (simp [ints_length] <;> omega))) ?_ | refine dg rfl rfl rfl rfl (ixJ 3 1 rfl rfl rfl (by omega) (by omega) (by first | assumption | (simp [ints_length] <;> omega))) ?_ | refine dg rfl rfl rfl rfl (ix 3 1 rfl rfl rfl (by omega) (by omega) rfl) ?_
                first | refine dg rfl rfl rfl rfl (ld rfl rfl rfl) ?_ | refine dg rfl rfl rfl rfl (ldS rfl rfl (ints_get hw)) ?_ | refine dg rfl rfl rfl rfl (ldS rfl rfl rfl) ?_
                refine dg rfl rfl rfl rfl (mv (v := .pointer _) rfl) ?_
                refine dg rfl rfl rfl rfl (mv (v := .pointer _) rfl) ?_
                first | refine dg rfl rfl rfl rfl (nc rfl) ?_ | refine dg rfl rfl rfl rfl (ncF rfl) ?_ | refine dg rfl rfl rfl rfl (ncS rfl (by first | assumption | (simp [ints_length] <;> omega))) ?_
                first | refine dg rfl rfl rfl rfl (fa 1 rfl rfl) ?_ | refine dg rfl rfl rfl rfl (faS 1 rfl rfl (by first | assumption | (simp [ints_length] <;> omega))) ?_
                first | refine dg rfl rfl rfl rfl (ld rfl rfl rfl) ?_ | refine dg rfl rfl rfl rfl (ldS rfl rfl (ints_get hw)) ?_ | refine dg rfl rfl rfl rfl (ldS rfl rfl rfl) ?_
                first | refine dg rfl rfl rfl rfl (ixS 3 1 rfl rfl rfl (by omega) (by first | assumption | (simp [ints_length] <;> omega))) ?_ | refine dg rfl rfl rfl rfl (ixJ 3 1 rfl rfl rfl (by omega) (by omega) (by first | assumption | (simp [ints_length] <;> omega))) ?_ | refine dg rfl rfl rfl rfl (ix 3 1 rfl rfl rfl (by omega) (by omega) rfl) ?_
                first | refine dg rfl rfl rfl rfl (ld rfl rfl rfl) ?_ | refine dg rfl rfl rfl rfl (ldS rfl rfl (ints_get hw)) ?_ | refine dg rfl rfl rfl rfl (ldS rfl rfl rfl) ?_
                refine deg rfl rfl rfl ?_
                refine cl (left_ok qb pp now2 q2 w (by omega) (by omega) hbd) rfl (picked_nil _) (ent_one 4 rfl) ?_
                intro _ _
                change ent _ _ ∧ TD _ _ _ _ _ _ _ _ _ _ (sepL [_, _, _, _, _, _, _])
                refine ⟨(by repeat (first | exact ent_nil _ | refine ent_take 0 rfl ?_ | refine ent_take 1 rfl ?_ | refine ent_take 2 rfl ?_ | refine ent_take 3 rfl ?_ | refine ent_take 4 rfl ?_ | refine ent_take 5 rfl ?_ | refine ent_take 6 rfl ?_ | refine ent_take 7 rfl ?_)), ?_⟩
                refine deg rfl rfl rfl ?_
                refine cl (rof_ok b2 pp (fsts q2) (lefts now2 q2) w (by omega)) rfl (picked_nil _) (ent_of (ent_close ⟨(a3, c3), (a4, c4)⟩ hrl2 (ent_take 1 rfl (ent_take 1 rfl (ent_take 1 rfl (ent_nil _)))))) ?_
                intro _ _
                change ent _ _ ∧ TD _ _ _ _ _ _ _ _ _ _ (sepL [_, _, _, _, _, _, _])
                refine ⟨(by repeat (first | exact ent_nil _ | refine ent_take 0 rfl ?_ | refine ent_take 1 rfl ?_ | refine ent_take 2 rfl ?_ | refine ent_take 3 rfl ?_ | refine ent_take 4 rfl ?_ | refine ent_take 5 rfl ?_ | refine ent_take 6 rfl ?_ | refine ent_take 7 rfl ?_)), ?_⟩
                rw [rof_two]
                refine dg rfl rfl rfl rfl (neI rfl rfl) ?_
                first | refine dg rfl rfl rfl rfl (pkT rfl rfl) ?_ | refine dg rfl rfl rfl rfl (pkF rfl rfl) ?_
                first | refine dq rfl rfl rfl (pkT rfl rfl) ?_ | refine dq rfl rfl rfl (pkF rfl rfl) ?_
                refine TD.nil (nt ?_)
                refine TC.condD rfl (fun hc2 => absurd hc2 (by simp)) (fun hc2 => ?_)
                refine TC.skip (nb (nt ?_))
                refine TC.region ?_
                refine q rfl rfl (mv (v := .int _ _) rfl) ?_
                first | refine q rfl rfl (addI rfl rfl (by omega) (by omega)) ?_ | refine q rfl rfl (add rfl rfl rfl) ?_
                refine q rfl rfl (asg (v := .int _ _) rfl) ?_
                refine TL.nil (nt ?_)
                exact ⟨rfl, ⟨i + 1, now2, q2⟩, ⟨hinv2, by dsimp only; omega, by dsimp only; omega, hn2, by dsimp only; omega⟩, (by dsimp only; omega), ⟨rfl, rfl, rfl, rfl, rfl, trivial⟩, (ent_take 4 rfl (ent_close ⟨(a3, c3), (a4, c4)⟩ hrl2 (ent_take 1 rfl (ent_take 1 rfl (ent_take 1 rfl (ent_take 2 rfl (ent_nil _)))))))⟩
              · have hpl := of_decide_eq_false hpl
                refine dk rfl rfl rfl rfl ?_
                refine dk rfl rfl rfl rfl ?_
                refine dk rfl rfl rfl rfl ?_
                refine dk rfl rfl rfl rfl ?_
                refine dk rfl rfl rfl rfl ?_
                refine dk rfl rfl rfl rfl ?_
                refine dk rfl rfl rfl rfl ?_
                refine dk rfl rfl rfl rfl ?_
                refine dk rfl rfl rfl rfl ?_
                refine dk rfl rfl rfl rfl ?_
                refine dk rfl rfl rfl rfl ?_
                refine dk rfl rfl rfl rfl ?_
                refine dk rfl rfl rfl rfl ?_
                refine dk rfl rfl rfl rfl ?_
                refine dke rfl rfl rfl (by repeat (first | exact ent_nil _ | refine ent_take 0 rfl ?_ | refine ent_take 1 rfl ?_ | refine ent_take 2 rfl ?_ | refine ent_take 3 rfl ?_ | refine ent_take 4 rfl ?_ | refine ent_take 5 rfl ?_ | refine ent_take 6 rfl ?_ | refine ent_take 7 rfl ?_)) ?_
                refine dke rfl rfl rfl (by repeat (first | exact ent_nil _ | refine ent_take 0 rfl ?_ | refine ent_take 1 rfl ?_ | refine ent_take 2 rfl ?_ | refine ent_take 3 rfl ?_ | refine ent_take 4 rfl ?_ | refine ent_take 5 rfl ?_ | refine ent_take 6 rfl ?_ | refine ent_take 7 rfl ?_)) ?_
                refine dk rfl rfl rfl rfl ?_
                first | refine dg rfl rfl rfl rfl (pkT rfl rfl) ?_ | refine dg rfl rfl rfl rfl (pkF rfl rfl) ?_
                first | refine dq rfl rfl rfl (pkT rfl rfl) ?_ | refine dq rfl rfl rfl (pkF rfl rfl) ?_
                refine TD.nil (nt ?_)
                refine TC.condF rfl ?_
                refine TC.skip (nb (nt ?_))
                refine TC.region ?_
                refine q rfl rfl (mv (v := .int _ _) rfl) ?_
                first | refine q rfl rfl (addI rfl rfl (by omega) (by omega)) ?_ | refine q rfl rfl (add rfl rfl rfl) ?_
                refine q rfl rfl (asg (v := .int _ _) rfl) ?_
                refine TL.nil (nt ?_)
                exact ⟨rfl, ⟨i + 1, now2, q2⟩, ⟨hinv2, by dsimp only; omega, by dsimp only; omega, hn2, by dsimp only; omega⟩, (by dsimp only; omega), ⟨rfl, rfl, rfl, rfl, rfl, trivial⟩, (ent_take 4 rfl (ent_close ⟨(a3, c3), (a4, c4)⟩ hrl2 (ent_take 1 rfl (ent_take 1 rfl (ent_take 1 rfl (ent_take 2 rfl (ent_nil _)))))))⟩
      · refine TC.exit (et (et (eb (nt ?_))))
        refine TC.seq ?_
        refine TC.region ?_
        refine q rfl rfl (mv (v := .pointer _) rfl) ?_
        refine e rfl ?_
        refine cl (period_ok qb pp now ql) rfl (picked_nil _) (ent_one 0 rfl) ?_
        intro _ _
        change TL _ _ _ _ _ _ _ _ (sepL [_, _, _])
        refine q rfl rfl (mv (v := .int _ _) rfl) ?_
        refine q rfl rfl (eqI rfl rfl) ?_
        refine q rfl rfl (asg (v := .bool _) rfl) ?_
        refine TL.nil (nt ?_)
        refine TC.ret ?_
        exact Ret.i () [_] ⟨rfl, trivial⟩ (congrArg Value.bool (decide_eq_true rfl)) trivial (ent_take 2 rfl (ent_nil _))
    · refine e rfl ?_
      refine cl (new_no pp (by omega)) rfl (picked_nil _) trivial ?_
      intro _ _
      change TL _ _ _ _ _ _ _ _ (sepL [_])
      refine q rfl rfl (asg (v := .pointer _) rfl) ?_
      refine TL.nil (nt ?_)
      refine TC.seq ?_
      refine TC.seq ?_
      refine TC.region ?_
      refine q rfl rfl (mv (v := .int _ _) rfl) ?_
      refine e rfl ?_
      refine cl (may_ok pp) rfl (picked_nil _) trivial ?_
      intro _ _
      change TL _ _ _ _ _ _ _ _ (sepL [_])
      rw [decide_eq_false hp1]
      first | refine q rfl rfl (notD rfl) ?_ | refine q rfl rfl (notB rfl) ?_
      refine TL.nil (nt ?_)
      refine TC.condT rfl ?_
      refine TC.seq ?_
      refine TC.region ?_
      refine q rfl rfl (mv (v := .pointer _) rfl) ?_
      refine q rfl rfl (eqNil rfl rfl rfl) ?_
      refine q rfl rfl (mv (v := .bool _) rfl) ?_
      refine TL.known 22 rfl (c := true) rfl ?_
      refine qg rfl rfl rfl (mv (v := .pointer _) rfl) ?_
      refine eg rfl rfl ?_
      refine cl period_nil rfl (picked_nil _) trivial ?_
      intro _ _
      change TL _ _ _ _ _ _ _ _ (sepL [_])
      refine qg rfl rfl rfl (eqI rfl rfl) ?_
      first | refine q rfl rfl (pkT rfl rfl) ?_ | refine q rfl rfl (pkF rfl rfl) ?_
      refine q rfl rfl (mv (v := .bool _) rfl) ?_
      refine TL.known 27 rfl (c := true) rfl ?_
      refine qg rfl rfl rfl (mv (v := .pointer _) rfl) ?_
      refine eg rfl rfl ?_
      refine bs (cs := [.int _ _]) rfl ?_
      intro b1
      refine eg rfl rfl ?_
      refine cl (add_nil _) rfl (picked_nil _) trivial ?_
      intro _ _
      change TL _ _ _ _ _ _ _ _ (sepL [_, _])
      refine qg rfl rfl rfl (eqI rfl rfl) ?_
      first | refine q rfl rfl (pkT rfl rfl) ?_ | refine q rfl rfl (pkF rfl rfl) ?_
      refine q rfl rfl (mv (v := .bool _) rfl) ?_
      refine TL.known 33 rfl (c := true) rfl ?_
      refine qg rfl rfl rfl (mv (v := .pointer _) rfl) ?_
      refine eg rfl rfl ?_
      refine cl tick_nil rfl (picked_nil _) trivial ?_
      intro _ _
      change TL _ _ _ _ _ _ _ _ (sepL [_, _])
      refine qg rfl rfl rfl (len 3 1 rfl rfl) ?_
      refine qg rfl rfl rfl (mv (v := .pointer _) rfl) ?_
      refine eg rfl rfl ?_
      refine cl list_nil rfl (picked_nil _) trivial ?_
      intro _ _
      change TL _ _ _ _ _ _ _ _ (sepL [_, _])
      refine qg rfl rfl rfl (len 3 1 rfl rfl) ?_
      first | refine qg rfl rfl rfl (addI rfl rfl (by omega) (by omega)) ?_ | refine qg rfl rfl rfl (add rfl rfl rfl) ?_
      refine qg rfl rfl rfl (eqI rfl rfl) ?_
      first | refine q rfl rfl (pkT rfl rfl) ?_ | refine q rfl rfl (pkF rfl rfl) ?_
      refine q rfl rfl (mv (v := .bool _) rfl) ?_
      refine TL.known 43 rfl (c := true) rfl ?_
      refine qg rfl rfl rfl (mv (v := .pointer _) rfl) ?_
      refine eg rfl rfl ?_
      refine cl (left_nil 1) rfl (picked_nil _) trivial ?_
      intro _ _
      change TL _ _ _ _ _ _ _ _ (sepL [_, _])
      refine qg rfl rfl rfl (eqI rfl rfl) ?_
      first | refine q rfl rfl (pkT rfl rfl) ?_ | refine q rfl rfl (pkF rfl rfl) ?_
      refine q rfl rfl (asg (v := .bool _) rfl) ?_
      refine TL.nil (nt ?_)
      refine TC.ret (rt ?_)
      exact Ret.i () [_] ⟨rfl, trivial⟩ rfl trivial (ent_take 1 rfl (ent_nil _))

end Go.Proofs.Ytdpadbhfhlhnlaa
