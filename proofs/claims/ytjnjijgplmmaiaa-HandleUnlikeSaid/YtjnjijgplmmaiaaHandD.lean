/-
  Proved here: what functions of this program compute, each as a contract over symbolic states, under the premises that each theorem names (most lines printed by a program of the prover).
-/
import Derived.Test.YtjnjijgplmmaiaaHandC
import Derived.Test.YtjnjijgplmmaiaaQLibW
namespace Go.Proofs.Ytjnjijgplmmaiaa
open Go Go.QM
def ageR (l : List Pl) (i a : Int) : List Pl × Bool := if 0 ≤ i ∧ i < 256 ∧ 0 ≤ a ∧ a ≤ 1048575 then match l[i.toNat]? with
    | some p => if p.st = 0 then (l.set i.toNat ⟨p.o, p.st, a⟩, true) else (l, false)
    | none => (l, false)
  else (l, false)

theorem age_ok (b : Nat) (l : List Pl) (i a : Int) (ho : OkT l) : FSpec Try.prog 13 [.pointer (some ⟨b, 0, none⟩), .int .i64 i, .int .i64 a] noRd [slc 63 5 (some ⟨b, 0, none⟩) 256 256 (tabC l)] (fun _ : Unit => .bool (ageR l i a).2) (fun _ => True) (fun _ => [slc 63 5 (some ⟨b, 0, none⟩) 256 256 (tabC (ageR l i a).1)]) := by
  refine FSpec.intro (rs := [.tmp 6]) (by kernel_rfl) Try.func13 rfl Try.ntmps13 (by rfl) rfl ?_
  intro F _
  change TC _ _ _ _ _ _ _ (sepL [_, _])
  have hln := ho.n
  refine TC.seq ?_
  refine TC.region ?_
  refine q rfl rfl (asg (v := .bool _) rfl) ?_
  refine TL.nil (nt ?_)
  refine TC.seq ?_
  refine TC.seq ?_
  refine TC.region ?_
  refine q rfl rfl (mv (v := .pointer _) rfl) ?_
  refine q rfl rfl (eqNil rfl rfl rfl) ?_
  refine q rfl rfl (mv (v := .bool _) rfl) ?_
  refine TL.known 9 rfl (c := false) rfl ?_
  refine qg rfl rfl rfl (mv (v := .int _ _) rfl) ?_
  refine qg rfl rfl rfl (lss rfl rfl) ?_
  first | refine q rfl rfl (pkT rfl rfl) ?_ | refine q rfl rfl (pkF rfl rfl) ?_
  refine q rfl rfl (mv (v := .bool _) rfl) ?_
  refine TL.split 13 rfl (fun hs0 => ?_) (fun hs0 => ?_)
  · have hs0 := of_decide_eq_true hs0
    have hR : ageR l i a = (l, false) := by rw [ageR, if_neg (by omega)]
    rw [hR]
    dsimp only
    refine qs rfl rfl ?_
    refine qs rfl rfl ?_
    first | refine q rfl rfl (pkT rfl rfl) ?_ | refine q rfl rfl (pkF rfl rfl) ?_
    refine q rfl rfl (mv (v := .bool _) rfl) ?_
    refine qs rfl rfl ?_
    refine qs rfl rfl ?_
    first | refine q rfl rfl (pkT rfl rfl) ?_ | refine q rfl rfl (pkF rfl rfl) ?_
    refine q rfl rfl (mv (v := .bool _) rfl) ?_
    refine qs rfl rfl ?_
    refine qs rfl rfl ?_
    first | refine q rfl rfl (pkT rfl rfl) ?_ | refine q rfl rfl (pkF rfl rfl) ?_
    refine q rfl rfl (mv (v := .bool _) rfl) ?_
    refine qs rfl rfl ?_
    refine qs rfl rfl ?_
    refine qs rfl rfl ?_
    refine qs rfl rfl ?_
    refine qs rfl rfl ?_
    refine qs rfl rfl ?_
    refine qs rfl rfl ?_
    refine qs rfl rfl ?_
    first | refine q rfl rfl (pkT rfl rfl) ?_ | refine q rfl rfl (pkF rfl rfl) ?_
    refine TL.nil (nt ?_)
    refine TC.condT rfl ?_
    refine TC.seq ?_
    refine TC.region ?_
    refine q rfl rfl (asg (v := .bool _) rfl) ?_
    refine TL.nil (nt ?_)
    refine TC.ret (rt ?_)
    exact Ret.i () [_] ⟨rfl, trivial⟩ rfl trivial (ent_take 0 rfl (ent_take 0 rfl (ent_nil _)))
  · have hs0 := of_decide_eq_false hs0
    refine qg rfl rfl rfl (mv (v := .int _ _) rfl) ?_
    refine qg rfl rfl rfl (geq rfl rfl) ?_
    first | refine q rfl rfl (pkT rfl rfl) ?_ | refine q rfl rfl (pkF rfl rfl) ?_
    refine q rfl rfl (mv (v := .bool _) rfl) ?_
    refine TL.split 17 rfl (fun hs1 => ?_) (fun hs1 => ?_)
    · have hs1 := of_decide_eq_true hs1
      have hR : ageR l i a = (l, false) := by rw [ageR, if_neg (by omega)]
      rw [hR]
      dsimp only
      refine qs rfl rfl ?_
      refine qs rfl rfl ?_
      first | refine q rfl rfl (pkT rfl rfl) ?_ | refine q rfl rfl (pkF rfl rfl) ?_
      refine q rfl rfl (mv (v := .bool _) rfl) ?_
      refine qs rfl rfl ?_
      refine qs rfl rfl ?_
      first | refine q rfl rfl (pkT rfl rfl) ?_ | refine q rfl rfl (pkF rfl rfl) ?_
      refine q rfl rfl (mv (v := .bool _) rfl) ?_
      refine qs rfl rfl ?_
      refine qs rfl rfl ?_
      refine qs rfl rfl ?_
      refine qs rfl rfl ?_
      refine qs rfl rfl ?_
      refine qs rfl rfl ?_
      refine qs rfl rfl ?_
      refine qs rfl rfl ?_
      first | refine q rfl rfl (pkT rfl rfl) ?_ | refine q rfl rfl (pkF rfl rfl) ?_
      refine TL.nil (nt ?_)
      refine TC.condT rfl ?_
      refine TC.seq ?_
      refine TC.region ?_
      refine q rfl rfl (asg (v := .bool _) rfl) ?_
      refine TL.nil (nt ?_)
      refine TC.ret (rt ?_)
      exact Ret.i () [_] ⟨rfl, trivial⟩ rfl trivial (ent_take 0 rfl (ent_take 0 rfl (ent_nil _)))
    · have hs1 := of_decide_eq_false hs1
      refine qg rfl rfl rfl (mv (v := .int _ _) rfl) ?_
      refine qg rfl rfl rfl (lss rfl rfl) ?_
      first | refine q rfl rfl (pkT rfl rfl) ?_ | refine q rfl rfl (pkF rfl rfl) ?_
      refine q rfl rfl (mv (v := .bool _) rfl) ?_
      refine TL.split 21 rfl (fun hs2 => ?_) (fun hs2 => ?_)
      · have hs2 := of_decide_eq_true hs2
        have hR : ageR l i a = (l, false) := by rw [ageR, if_neg (by omega)]
        rw [hR]
        dsimp only
        refine qs rfl rfl ?_
        refine qs rfl rfl ?_
        first | refine q rfl rfl (pkT rfl rfl) ?_ | refine q rfl rfl (pkF rfl rfl) ?_
        refine q rfl rfl (mv (v := .bool _) rfl) ?_
        refine qs rfl rfl ?_
        refine qs rfl rfl ?_
        refine qs rfl rfl ?_
        refine qs rfl rfl ?_
        refine qs rfl rfl ?_
        refine qs rfl rfl ?_
        refine qs rfl rfl ?_
        refine qs rfl rfl ?_
        first | refine q rfl rfl (pkT rfl rfl) ?_ | refine q rfl rfl (pkF rfl rfl) ?_
        refine TL.nil (nt ?_)
        refine TC.condT rfl ?_
        refine TC.seq ?_
        refine TC.region ?_
        refine q rfl rfl (asg (v := .bool _) rfl) ?_
        refine TL.nil (nt ?_)
        refine TC.ret (rt ?_)
        exact Ret.i () [_] ⟨rfl, trivial⟩ rfl trivial (ent_take 0 rfl (ent_take 0 rfl (ent_nil _)))
      · have hs2 := of_decide_eq_false hs2
        refine qg rfl rfl rfl (mv (v := .int _ _) rfl) ?_
        refine qg rfl rfl rfl (gtr rfl rfl) ?_
        first | refine q rfl rfl (pkT rfl rfl) ?_ | refine q rfl rfl (pkF rfl rfl) ?_
        refine q rfl rfl (mv (v := .bool _) rfl) ?_
        refine TL.split 25 rfl (fun hs3 => ?_) (fun hs3 => ?_)
        · have hs3 := of_decide_eq_true hs3
          have hR : ageR l i a = (l, false) := by rw [ageR, if_neg (by omega)]
          rw [hR]
          dsimp only
          refine qs rfl rfl ?_
          refine qs rfl rfl ?_
          refine qs rfl rfl ?_
          refine qs rfl rfl ?_
          refine qs rfl rfl ?_
          refine qs rfl rfl ?_
          refine qs rfl rfl ?_
          refine qs rfl rfl ?_
          first | refine q rfl rfl (pkT rfl rfl) ?_ | refine q rfl rfl (pkF rfl rfl) ?_
          refine TL.nil (nt ?_)
          refine TC.condT rfl ?_
          refine TC.seq ?_
          refine TC.region ?_
          refine q rfl rfl (asg (v := .bool _) rfl) ?_
          refine TL.nil (nt ?_)
          refine TC.ret (rt ?_)
          exact Ret.i () [_] ⟨rfl, trivial⟩ rfl trivial (ent_take 0 rfl (ent_take 0 rfl (ent_nil _)))
        · have hs3 := of_decide_eq_false hs3
          obtain ⟨n, rfl⟩ := Int.eq_ofNat_of_zero_le (show 0 ≤ i by omega)
          have hlt : n < 256 := by omega
          obtain ⟨p, hi, hpa⟩ := ho.at hlt
          have hR0 : ageR l n a = if p.st = 0 then (l.set n ⟨p.o, p.st, a⟩, true) else (l, false) := by rw [ageR, if_pos (by omega), Int.toNat_natCast, hi]
          refine qg rfl rfl rfl (mv (v := .pointer _) rfl) ?_
          refine qg rfl rfl rfl (mv (v := .int _ _) rfl) ?_
          first | refine qg rfl rfl rfl (ncP rfl) ?_ | refine qg rfl rfl rfl (ncQ rfl) ?_
          refine qg rfl rfl rfl (faQ 0 rfl rfl) ?_
          refine qg rfl rfl rfl (ixA 256 60 5 rfl rfl rfl (by omega) (by omega)) ?_
          refine qg rfl rfl rfl (faQ 3 rfl rfl) ?_
          first | refine qg rfl rfl rfl (ld rfl rfl rfl) ?_ | refine qg rfl rfl rfl (ldS rfl rfl (flat_ld placeC_sz hi 3 (by omega) rfl)) ?_ | refine qg rfl rfl rfl (ldS rfl rfl rfl) ?_
          refine qg rfl rfl rfl (neI rfl rfl) ?_
          first | refine q rfl rfl (pkT rfl rfl) ?_ | refine q rfl rfl (pkF rfl rfl) ?_
          refine TL.nil (nt ?_)
          first | refine TC.condD rfl (fun hst => ?_) (fun hst => ?_) | refine TC.cond rfl (fun hst => ?_) (fun hst => ?_)
          · have hR : ageR l n a = (l, false) := by rw [hR0, if_neg hst]
            rw [hR]
            dsimp only
            refine TC.seq ?_
            refine TC.region ?_
            refine q rfl rfl (asg (v := .bool _) rfl) ?_
            refine TL.nil (nt ?_)
            refine TC.ret (rt ?_)
            exact Ret.i () [_] ⟨rfl, trivial⟩ rfl trivial (ent_take 0 rfl (ent_take 0 rfl (ent_nil _)))
          · have hR : ageR l n a = (l.set n ⟨p.o, p.st, a⟩, true) := by rw [hR0, if_pos (by omega)]
            rw [hR]
            dsimp only
            refine TC.skip (nt ?_)
            refine TC.seq ?_
            refine TC.region ?_
            refine q rfl rfl (mv (v := .pointer _) rfl) ?_
            refine q rfl rfl (mv (v := .int _ _) rfl) ?_
            refine q rfl rfl (mv (v := .int _ _) rfl) ?_
            first | refine q rfl rfl (conv .i64 .u32 rfl rfl rfl (wu32 (by omega) (by omega))) ?_ | refine q rfl rfl (conv .i64 .u32 rfl rfl rfl rfl) ?_
            first | refine q rfl rfl (ncP rfl) ?_ | refine q rfl rfl (ncQ rfl) ?_
            refine q rfl rfl (faQ 0 rfl rfl) ?_
            refine q rfl rfl (ixA 256 60 5 rfl rfl rfl (by omega) (by omega)) ?_
            refine q rfl rfl (faQ 4 rfl rfl) ?_
            refine e0 ?_
            first | refine st (v := .int _ _) (vs := [_]) 1 rfl rfl rfl rfl rfl rfl (Nat.le_of_ble_eq_true rfl) rfl ?_ | refine stS (v := .int _ _) (vs := [_]) 1 rfl rfl rfl rfl rfl rfl (by decide) (by rw [flat_length placeC_sz]; omega) (flat_set (a' := ⟨p.o, p.st, a⟩) placeC_sz hi 4 (by omega) (Nat.le_of_ble_eq_true rfl) rfl) ?_
            refine TL.nil (nt ?_)
            refine TC.seq ?_
            refine TC.region ?_
            refine q rfl rfl (asg (v := .bool _) rfl) ?_
            refine TL.nil (nt ?_)
            refine TC.ret ?_
            exact Ret.i () [_] ⟨rfl, trivial⟩ rfl trivial (ent_take 0 rfl (ent_take 0 rfl (ent_nil _)))

theorem age_nil (i a : Int) : FSpec Try.prog 13 [.pointer none, .int .i64 i, .int .i64 a] noRd [] (fun _ : Unit => .bool false) (fun _ => True) (fun _ => []) := by
  refine FSpec.intro (rs := [.tmp 6]) (by kernel_rfl) Try.func13 rfl Try.ntmps13 (by rfl) rfl ?_
  intro F _
  change TC _ _ _ _ _ _ _ (sepL [_])
  refine TC.seq ?_
  refine TC.region ?_
  refine q rfl rfl (asg (v := .bool _) rfl) ?_
  refine TL.nil (nt ?_)
  refine TC.seq ?_
  refine TC.seq ?_
  refine TC.region ?_
  refine q rfl rfl (mv (v := .pointer _) rfl) ?_
  refine q rfl rfl (eqNil rfl rfl rfl) ?_
  refine q rfl rfl (mv (v := .bool _) rfl) ?_
  refine TL.known 9 rfl (c := true) rfl ?_
  refine qs rfl rfl ?_
  refine qs rfl rfl ?_
  first | refine q rfl rfl (pkT rfl rfl) ?_ | refine q rfl rfl (pkF rfl rfl) ?_
  refine q rfl rfl (mv (v := .bool _) rfl) ?_
  refine qs rfl rfl ?_
  refine qs rfl rfl ?_
  first | refine q rfl rfl (pkT rfl rfl) ?_ | refine q rfl rfl (pkF rfl rfl) ?_
  refine q rfl rfl (mv (v := .bool _) rfl) ?_
  refine qs rfl rfl ?_
  refine qs rfl rfl ?_
  first | refine q rfl rfl (pkT rfl rfl) ?_ | refine q rfl rfl (pkF rfl rfl) ?_
  refine q rfl rfl (mv (v := .bool _) rfl) ?_
  refine qs rfl rfl ?_
  refine qs rfl rfl ?_
  first | refine q rfl rfl (pkT rfl rfl) ?_ | refine q rfl rfl (pkF rfl rfl) ?_
  refine q rfl rfl (mv (v := .bool _) rfl) ?_
  refine qs rfl rfl ?_
  refine qs rfl rfl ?_
  refine qs rfl rfl ?_
  refine qs rfl rfl ?_
  refine qs rfl rfl ?_
  refine qs rfl rfl ?_
  refine qs rfl rfl ?_
  refine qs rfl rfl ?_
  first | refine q rfl rfl (pkT rfl rfl) ?_ | refine q rfl rfl (pkF rfl rfl) ?_
  refine TL.nil (nt ?_)
  refine TC.condT rfl ?_
  refine TC.seq ?_
  refine TC.region ?_
  refine q rfl rfl (asg (v := .bool _) rfl) ?_
  refine TL.nil (nt ?_)
  refine TC.ret (rt ?_)
  exact Ret.i () [_] ⟨rfl, trivial⟩ rfl trivial (ent_take 0 rfl (ent_nil _))

def allT (s : Int) (z : List (Pl × Nat)) : List Int := (z.filter fun t => decide (t.1.st = s)).map fun t => t.1.age * 256 + (t.2 : Int)
def allL (l : List Pl) (s : Int) : List Int := allT s l.zipIdx
theorem allT_snoc (s : Int) (z : List (Pl × Nat)) (t : Pl × Nat) : allT s (z ++ [t]) = if t.1.st = s then allT s z ++ [t.1.age * 256 + (t.2 : Int)] else allT s z := by
  rw [allT, allT, List.filter_append]
  split
  · rename_i h; simp [h]
  · rename_i h; simp [h]
theorem zip_take {l : List Pl} {k : Nat} {p : Pl} (h : l[k]? = some p) : l.zipIdx.take (k + 1) = l.zipIdx.take k ++ [(p, k)] := by
  rw [List.take_add_one, List.getElem?_zipIdx, h]; simp
theorem allT_le (s : Int) (z : List (Pl × Nat)) : (allT s z).length ≤ z.length := by rw [allT, List.length_map]; exact List.length_filter_le _ _
theorem allL_le (l : List Pl) (s : Int) : (allL l s).length ≤ l.length := by have := allT_le s l.zipIdx; rw [List.length_zipIdx] at this; exact this

theorem all_ok (b : Nat) (l : List Pl) (s : Int) (ho : OkT l) : FSpec Try.prog 31 [.pointer (some ⟨b, 0, none⟩), .int .i64 s] (fun F => ∃ E, RdS F E (some ⟨b, 0, none⟩) (tabC l)) [] (fun y : Option Addr × Nat => .slice y.1 (allL l s).length y.2) (fun _ => True) (fun y => [slc 27 1 y.1 (allL l s).length y.2 (nums .u32 (allL l s))]) := by
  refine FSpec.intro (rs := [.tmp 4]) (by kernel_rfl) Try.func31 rfl Try.ntmps31 (by rfl) rfl ?_
  intro F ⟨E, hF⟩
  change TC _ _ _ _ _ _ _ (sepL [_])
  haveI : RdSI F (some ⟨b, 0, none⟩) E (tabC l) := ⟨hF⟩
  have hln := ho.n
  have hlc : (tabC l).length = 1280 := by rw [tabC_length, hln]
  refine TC.seq ?_
  refine TC.region ?_
  refine q rfl rfl (asg (v := .slice _ _ _) rfl) ?_
  refine TL.nil (nt ?_)
  refine TC.seq ?_
  refine TC.region ?_
  refine q rfl rfl (asg (v := .slice _ _ _) rfl) ?_
  refine TL.nil (nt ?_)
  refine TC.seq ?_
  refine TC.seq ?_
  refine TC.region ?_
  refine q rfl rfl (mv (v := .pointer _) rfl) ?_
  refine q rfl rfl (eqNil rfl rfl rfl) ?_
  refine TL.nil (nt ?_)
  refine TC.condF rfl ?_
  refine TC.skip (nt ?_)
  refine TC.seq ?_
  refine TC.seq ?_
  refine TC.region ?_
  refine q rfl rfl (mv (v := .pointer _) rfl) ?_
  first | refine q rfl rfl (ncP rfl) ?_ | refine q rfl rfl (ncQ rfl) ?_
  refine q rfl rfl (faQ 0 rfl rfl) ?_
  refine q rfl rfl (ldSN (vs := _) 1280 rfl rfl (by rw [List.drop_zero, ← hlc]; exact List.take_length) hlc (by decide)) ?_
  refine q rfl rfl (mv (v := .int _ _) rfl) ?_
  refine TL.nil (nt ?_)
  refine TC.block ?_
  refine TC.loop (ι := Nat × Option Addr × Nat) (fun i => i.1 ≤ 256) (fun i => [(0, .pointer (some ⟨b, 0, none⟩)), (1, .int .i64 s), (5, .slice i.2.1 (allT s (l.zipIdx.take i.1)).length i.2.2), (13, .agg (tabC l).toArray), (14, .int .i64 ((i.1 : Nat) : Int))]) (fun i => sepL [slc 27 1 i.2.1 (allT s (l.zipIdx.take i.1)).length i.2.2 (nums .u32 (allT s (l.zipIdx.take i.1))), F]) (fun i => 256 - i.1) ⟨0, none, 0⟩ (Nat.zero_le _) ⟨rfl, rfl, rfl, rfl, rfl, trivial⟩ ((slc_nil 27 1 _).trans (ent_takeE 0 rfl (by rfl) (ent_take 0 rfl (ent_nil _)))) ?_
  rintro ⟨k, ad, cap⟩ hinv ρ0
  dsimp only [updL] at hinv ⊢
  refine TC.seq ?_
  refine TC.region ?_
  refine q rfl rfl (lss rfl rfl) ?_
  refine TL.nil (nt ?_)
  refine TC.seq ?_
  first | refine TC.condD rfl (fun hlt => ?_) (fun hlt => ?_) | refine TC.cond rfl (fun hlt => ?_) (fun hlt => ?_)
  · have hlt : k < 256 := by omega
    obtain ⟨p, hi, ha⟩ := ho.at hlt
    have hzt := zip_take hi
    have hle := allT_le s (l.zipIdx.take k)
    rw [List.length_take] at hle
    refine TC.skip (nt ?_)
    refine TC.seq ?_
    refine TC.block ?_
    refine TC.seq ?_
    refine TC.region ?_
    refine q rfl rfl (mv (v := .int _ _) rfl) ?_
    first | refine q rfl rfl (idA 256 60 5 rfl rfl rfl rfl (by omega) (by omega) (flat_ldN placeC_sz hi 0 5 (by omega) (by omega) rfl)) ?_ | refine q rfl rfl (idA 256 60 5 rfl rfl rfl rfl (by omega) (by omega) rfl) ?_
    refine e rfl ?_
    refine al (l := [.int _ _, .int _ _, .int _ _, .int _ _, .int _ _]) rfl rfl ?_
    intro b1
    refine q rfl rfl (asg (v := .int _ _) rfl) ?_
    refine e0 ?_
    refine st (v := .agg #[_, _, _, _, _]) (vs := [_, _, _, _, _]) 5 rfl rfl rfl rfl rfl rfl (Nat.le_of_ble_eq_true rfl) rfl ?_
    refine TL.nil (nt ?_)
    refine TC.seq ?_
    refine TC.region ?_
    first | refine q rfl rfl (fa 3 rfl rfl) ?_ | refine q rfl rfl (faS 3 rfl rfl (by first | assumption | (simp [ints_length] <;> omega))) ?_
    first | refine q rfl rfl (ld rfl rfl rfl) ?_ | refine q rfl rfl (ldS rfl rfl rfl) ?_
    refine q rfl rfl (mv (v := .int _ _) rfl) ?_
    refine q rfl rfl (eqI rfl rfl) ?_
    refine TL.nil (nt ?_)
    first | refine TC.condD rfl (fun hst => ?_) (fun hst => ?_) | refine TC.cond rfl (fun hst => ?_) (fun hst => ?_)
    · refine TC.region ?_
      refine q rfl rfl (mv (v := .slice _ _ _) rfl) ?_
      refine q rfl rfl (mv (v := .pointer _) rfl) ?_
      refine q rfl rfl (mv (v := .int _ _) rfl) ?_
      refine e rfl ?_
      refine cl (name_ok b l k p hi hlt (by omega)) rfl (picked_nil _) ⟨_, RdSI.rd⟩ ?_
      intro _ _
      change TL _ _ _ _ _ _ _ _ (sepL [_, _, _])
      refine e rfl ?_
      refine bs (cs := [.int _ _]) rfl ?_
      intro b2
      refine e rfl ?_
      refine ap 4 rfl rfl rfl rfl rfl (Nat.le_of_ble_eq_true rfl) rfl rfl (by omega) (by simp only [maxLen]; omega) ?_
      intro ad1 cap1
      refine q rfl rfl (asg (v := .slice _ _ _) rfl) ?_
      refine TL.nil (nb (nt ?_))
      refine TC.region ?_
      first | refine q rfl rfl (addI rfl rfl (by omega) (by omega)) ?_ | refine q rfl rfl (add rfl rfl rfl) ?_
      refine q rfl rfl (mv (v := .int _ _) rfl) ?_
      refine TL.nil (nt ?_)
      exact ⟨rfl, ⟨k + 1, ad1, cap1⟩, (by dsimp only; omega), (by dsimp only; omega), ⟨rfl, rfl, congrArg (fun n => Value.slice _ n _) (by rw [hzt, allT_snoc, if_pos hst]; simp), rfl, rfl, trivial⟩, (ent_takeE 0 rfl (by rw [hzt, allT_snoc, if_pos hst]; simp [nums]) (ent_take 2 rfl (ent_nil _)))⟩
    · refine TC.skip (nb (nt ?_))
      refine TC.region ?_
      first | refine q rfl rfl (addI rfl rfl (by omega) (by omega)) ?_ | refine q rfl rfl (add rfl rfl rfl) ?_
      refine q rfl rfl (mv (v := .int _ _) rfl) ?_
      refine TL.nil (nt ?_)
      exact ⟨rfl, ⟨k + 1, ad, cap⟩, (by dsimp only; omega), (by dsimp only; omega), ⟨rfl, rfl, congrArg (fun n => Value.slice _ n _) (by rw [hzt, allT_snoc, if_neg hst]), rfl, rfl, trivial⟩, (ent_takeE 1 rfl (by rw [hzt, allT_snoc, if_neg hst]) (ent_take 1 rfl (ent_nil _)))⟩
  · obtain rfl : k = 256 := by omega
    rw [List.take_of_length_le (by rw [List.length_zipIdx]; omega)]
    refine TC.exit (et (et (eb (nt ?_))))
    refine TC.seq ?_
    refine TC.region ?_
    refine q rfl rfl (mv (v := .slice _ _ _) rfl) ?_
    refine q rfl rfl (asg (v := .slice _ _ _) rfl) ?_
    refine TL.nil (nt ?_)
    refine TC.ret ?_
    exact Ret.i ⟨ad, cap⟩ [_] ⟨rfl, trivial⟩ rfl trivial (ent_take 0 rfl (ent_take 0 rfl (ent_nil _)))

theorem all_nil (s : Int) : FSpec Try.prog 31 [.pointer none, .int .i64 s] noRd [] (fun _ : Unit => .slice none 0 0) (fun _ => True) (fun _ => []) := by
  refine FSpec.intro (rs := [.tmp 4]) (by kernel_rfl) Try.func31 rfl Try.ntmps31 (by rfl) rfl ?_
  intro F _
  change TC _ _ _ _ _ _ _ (sepL [_])
  refine TC.seq ?_
  refine TC.region ?_
  refine q rfl rfl (asg (v := .slice _ _ _) rfl) ?_
  refine TL.nil (nt ?_)
  refine TC.seq ?_
  refine TC.region ?_
  refine q rfl rfl (asg (v := .slice _ _ _) rfl) ?_
  refine TL.nil (nt ?_)
  refine TC.seq ?_
  refine TC.seq ?_
  refine TC.region ?_
  refine q rfl rfl (mv (v := .pointer _) rfl) ?_
  refine q rfl rfl (eqNil rfl rfl rfl) ?_
  refine TL.nil (nt ?_)
  refine TC.condT rfl ?_
  refine TC.seq ?_
  refine TC.region ?_
  refine q rfl rfl (asg (v := .slice _ _ _) rfl) ?_
  refine TL.nil (nt ?_)
  refine TC.ret (rt ?_)
  exact Ret.i () [_] ⟨rfl, trivial⟩ rfl trivial (ent_take 0 rfl (ent_nil _))

theorem live_ok (b : Nat) (l : List Pl) (ho : OkT l) : FSpec Try.prog 14 [.pointer (some ⟨b, 0, none⟩)] (fun F => ∃ E, RdS F E (some ⟨b, 0, none⟩) (tabC l)) [] (fun y : Option Addr × Nat => .slice y.1 (allL l 1).length y.2) (fun _ => True) (fun y => [slc 27 1 y.1 (allL l 1).length y.2 (nums .u32 (allL l 1))]) := by
  refine FSpec.intro (rs := [.tmp 2]) (by kernel_rfl) Try.func14 rfl Try.ntmps14 (by rfl) rfl ?_
  intro F hF
  change TC _ _ _ _ _ _ _ (sepL [_])
  refine TC.seq ?_
  refine TC.region ?_
  refine q rfl rfl (asg (v := .slice _ _ _) rfl) ?_
  refine TL.nil (nt ?_)
  refine TC.seq ?_
  refine TC.region ?_
  refine q rfl rfl (mv (v := .pointer _) rfl) ?_
  refine e rfl ?_
  refine cl (all_ok b l 1 ho) rfl (picked_nil _) (hF.imp fun _ h => RdS_l h) ?_
  intro y _
  change TL _ _ _ _ _ _ _ _ (sepL [_, _])
  refine q rfl rfl (asg (v := .slice _ _ _) rfl) ?_
  refine TL.nil (nt ?_)
  refine TC.ret ?_
  exact Ret.i y [_] ⟨rfl, trivial⟩ rfl trivial (ent_take 0 rfl (ent_take 0 rfl (ent_nil _)))

theorem live_nil  : FSpec Try.prog 14 [.pointer none] noRd [] (fun _ : Unit => .slice none 0 0) (fun _ => True) (fun _ => []) := by
  refine FSpec.intro (rs := [.tmp 2]) (by kernel_rfl) Try.func14 rfl Try.ntmps14 (by rfl) rfl ?_
  intro F _
  change TC _ _ _ _ _ _ _ (sepL [_])
  refine TC.seq ?_
  refine TC.region ?_
  refine q rfl rfl (asg (v := .slice _ _ _) rfl) ?_
  refine TL.nil (nt ?_)
  refine TC.seq ?_
  refine TC.region ?_
  refine q rfl rfl (mv (v := .pointer _) rfl) ?_
  refine e rfl ?_
  refine cl (all_nil 1) rfl (picked_nil _) trivial ?_
  intro _ _
  change TL _ _ _ _ _ _ _ _ (sepL [_])
  refine q rfl rfl (asg (v := .slice _ _ _) rfl) ?_
  refine TL.nil (nt ?_)
  refine TC.ret ?_
  exact Ret.i () [_] ⟨rfl, trivial⟩ rfl trivial (ent_take 0 rfl (ent_nil _))

theorem zombies_ok (b : Nat) (l : List Pl) (ho : OkT l) : FSpec Try.prog 17 [.pointer (some ⟨b, 0, none⟩)] (fun F => ∃ E, RdS F E (some ⟨b, 0, none⟩) (tabC l)) [] (fun y : Option Addr × Nat => .slice y.1 (allL l 2).length y.2) (fun _ => True) (fun y => [slc 27 1 y.1 (allL l 2).length y.2 (nums .u32 (allL l 2))]) := by
  refine FSpec.intro (rs := [.tmp 2]) (by kernel_rfl) Try.func17 rfl Try.ntmps17 (by rfl) rfl ?_
  intro F hF
  change TC _ _ _ _ _ _ _ (sepL [_])
  refine TC.seq ?_
  refine TC.region ?_
  refine q rfl rfl (asg (v := .slice _ _ _) rfl) ?_
  refine TL.nil (nt ?_)
  refine TC.seq ?_
  refine TC.region ?_
  refine q rfl rfl (mv (v := .pointer _) rfl) ?_
  refine e rfl ?_
  refine cl (all_ok b l 2 ho) rfl (picked_nil _) (hF.imp fun _ h => RdS_l h) ?_
  intro y _
  change TL _ _ _ _ _ _ _ _ (sepL [_, _])
  refine q rfl rfl (asg (v := .slice _ _ _) rfl) ?_
  refine TL.nil (nt ?_)
  refine TC.ret ?_
  exact Ret.i y [_] ⟨rfl, trivial⟩ rfl trivial (ent_take 0 rfl (ent_take 0 rfl (ent_nil _)))

theorem zombies_nil  : FSpec Try.prog 17 [.pointer none] noRd [] (fun _ : Unit => .slice none 0 0) (fun _ => True) (fun _ => []) := by
  refine FSpec.intro (rs := [.tmp 2]) (by kernel_rfl) Try.func17 rfl Try.ntmps17 (by rfl) rfl ?_
  intro F _
  change TC _ _ _ _ _ _ _ (sepL [_])
  refine TC.seq ?_
  refine TC.region ?_
  refine q rfl rfl (asg (v := .slice _ _ _) rfl) ?_
  refine TL.nil (nt ?_)
  refine TC.seq ?_
  refine TC.region ?_
  refine q rfl rfl (mv (v := .pointer _) rfl) ?_
  refine e rfl ?_
  refine cl (all_nil 2) rfl (picked_nil _) trivial ?_
  intro _ _
  change TL _ _ _ _ _ _ _ _ (sepL [_])
  refine q rfl rfl (asg (v := .slice _ _ _) rfl) ?_
  refine TL.nil (nt ?_)
  refine TC.ret ?_
  exact Ret.i () [_] ⟨rfl, trivial⟩ rfl trivial (ent_take 0 rfl (ent_nil _))

theorem room_ok (b : Nat) (l : List Pl) (ho : OkT l) : FSpec Try.prog 16 [.pointer (some ⟨b, 0, none⟩)] (fun F => ∃ E, RdS F E (some ⟨b, 0, none⟩) (tabC l)) [] (fun _ : Unit => .int .i64 (allL l 0).length) (fun _ => True) (fun _ => []) := by
  refine FSpec.intro (rs := [.tmp 2]) (by kernel_rfl) Try.func16 rfl Try.ntmps16 (by rfl) rfl ?_
  intro F hF
  change TC _ _ _ _ _ _ _ (sepL [_])
  refine TC.seq ?_
  refine TC.region ?_
  refine q rfl rfl (asg (v := .int _ _) rfl) ?_
  refine TL.nil (nt ?_)
  refine TC.seq ?_
  refine TC.region ?_
  refine q rfl rfl (mv (v := .pointer _) rfl) ?_
  refine e rfl ?_
  refine cl (all_ok b l 0 ho) rfl (picked_nil _) (hF.imp fun _ h => RdS_l h) ?_
  intro y _
  change TL _ _ _ _ _ _ _ _ (sepL [_, _])
  refine q rfl rfl (len 27 1 rfl rfl) ?_
  refine q rfl rfl (asg (v := .int _ _) rfl) ?_
  refine TL.nil (nt ?_)
  refine TC.ret ?_
  exact Ret.i () [_] ⟨rfl, trivial⟩ rfl trivial (ent_take 1 rfl (ent_nil _))

theorem room_nil  : FSpec Try.prog 16 [.pointer none] noRd [] (fun _ : Unit => .int .i64 0) (fun _ => True) (fun _ => []) := by
  refine FSpec.intro (rs := [.tmp 2]) (by kernel_rfl) Try.func16 rfl Try.ntmps16 (by rfl) rfl ?_
  intro F _
  change TC _ _ _ _ _ _ _ (sepL [_])
  refine TC.seq ?_
  refine TC.region ?_
  refine q rfl rfl (asg (v := .int _ _) rfl) ?_
  refine TL.nil (nt ?_)
  refine TC.seq ?_
  refine TC.region ?_
  refine q rfl rfl (mv (v := .pointer _) rfl) ?_
  refine e rfl ?_
  refine cl (all_nil 0) rfl (picked_nil _) trivial ?_
  intro _ _
  change TL _ _ _ _ _ _ _ _ (sepL [_])
  refine q rfl rfl (len 27 1 rfl rfl) ?_
  refine q rfl rfl (asg (v := .int _ _) rfl) ?_
  refine TL.nil (nt ?_)
  refine TC.ret ?_
  exact Ret.i () [_] ⟨rfl, trivial⟩ rfl trivial (ent_take 0 rfl (ent_nil _))

def peekR (l : List Pl) (h : Int) : Ob × Int := match lookL l h 2 with
  | some (_, p) => (p.o, 0)
  | none => getR l h

theorem peek_ok (b : Nat) (l : List Pl) (h : Int) (ho : OkT l) (h0 : 0 ≤ h ∧ h ≤ 4294967295) : FSpec Try.prog 15 [.pointer (some ⟨b, 0, none⟩), .int .u32 h] (fun F => ∃ E, RdS F E (some ⟨b, 0, none⟩) (tabC l)) [] (fun _ : Unit => .tuple #[.agg (ints (peekR l h).1.l).toArray, .int .i64 (peekR l h).2]) (fun _ => True) (fun _ => []) := by
  refine FSpec.intro (rs := [.cell 4 32, .tmp 5]) (by kernel_rfl) Try.func15 rfl Try.ntmps15 (by rfl) rfl ?_
  intro F ⟨E, hF⟩
  change TC _ _ _ _ _ _ _ (sepL [_])
  haveI : RdSI F (some ⟨b, 0, none⟩) E (tabC l) := ⟨hF⟩
  refine TC.seq ?_
  refine TC.region ?_
  refine e rfl ?_
  refine al (l := ints [_, _, _]) rfl rfl ?_
  intro b3
  refine q rfl rfl (asg (v := .int _ _) rfl) ?_
  refine TL.nil (nt ?_)
  refine TC.seq ?_
  refine TC.region ?_
  refine q rfl rfl (mv (v := .pointer _) rfl) ?_
  refine q rfl rfl (mv (v := .int _ _) rfl) ?_
  cases hk : lookL l h 2 with
  | none => ?_
  | some t => ?_
  · have hR : peekR l h = getR l h := by rw [peekR, hk]
    refine e rfl ?_
    refine cl (at_no b l h 2 ho h0 hk) rfl (picked_nil _) ⟨_, RdSI.rd⟩ ?_
    intro _ _
    change TL _ _ _ _ _ _ _ _ (sepL [_, _])
    refine q rfl rfl (mv (v := .tuple _) rfl) ?_
    refine q rfl rfl (pu (v := .pointer _) (fun _ => rfl)) ?_
    refine q rfl rfl (pu (v := .int _ _) (fun _ => rfl)) ?_
    refine q rfl rfl (asg (v := .pointer _) rfl) ?_
    refine q rfl rfl (asg (v := .int _ _) rfl) ?_
    refine TL.nil (nt ?_)
    refine TC.seq ?_
    refine TC.seq ?_
    refine TC.region ?_
    refine q rfl rfl (mv (v := .int _ _) rfl) ?_
    refine q rfl rfl (neI rfl rfl) ?_
    refine TL.nil (nt ?_)
    refine TC.condD rfl (fun hc1 => ?_) (fun hc1 => absurd (by decide) hc1)
    refine TC.seq ?_
    refine TC.region ?_
    refine q rfl rfl (mv (v := .pointer _) rfl) ?_
    refine q rfl rfl (mv (v := .int _ _) rfl) ?_
    refine e rfl ?_
    refine cl (get_ok b l h ho h0) rfl (picked_nil _) ⟨_, RdSI.rd⟩ ?_
    intro _ _
    change TL _ _ _ _ _ _ _ _ (sepL [_, _])
    refine q rfl rfl (pu (v := .agg (List.toArray (ints [_, _, _]))) (fun _ => rfl)) ?_
    refine q rfl rfl (pu (v := .int _ _) (fun _ => rfl)) ?_
    refine e0 ?_
    refine st (v := .agg (List.toArray (ints [_, _, _]))) (vs := ints [_, _, _]) 3 rfl rfl rfl rfl rfl rfl (Nat.le_of_ble_eq_true rfl) rfl ?_
    refine q rfl rfl (asg (v := .int _ _) rfl) ?_
    refine TL.nil (nt ?_)
    refine TC.ret (rt ?_)
    exact Ret.i () [_, _] ⟨(rcN (n := 3) rfl rfl rfl rfl), rfl, trivial⟩ (by rw [hR]; rfl) trivial (ent_take 1 rfl (ent_nil _))
  · obtain ⟨i, p⟩ := t
    obtain ⟨hi, hh, hl, hst⟩ := lookL_some h0.1 hk
    have hR : peekR l h = (p.o, 0) := by rw [peekR, hk]
    refine e rfl ?_
    refine cl (at_yes b l i p h 2 ho h0.1 hk) rfl (picked_nil _) ⟨_, RdSI.rd⟩ ?_
    intro _ _
    change TL _ _ _ _ _ _ _ _ (sepL [_, _])
    refine q rfl rfl (mv (v := .tuple _) rfl) ?_
    refine q rfl rfl (pu (v := .pointer _) (fun _ => rfl)) ?_
    refine q rfl rfl (pu (v := .int _ _) (fun _ => rfl)) ?_
    refine q rfl rfl (asg (v := .pointer _) rfl) ?_
    refine q rfl rfl (asg (v := .int _ _) rfl) ?_
    refine TL.nil (nt ?_)
    refine TC.seq ?_
    refine TC.seq ?_
    refine TC.region ?_
    refine q rfl rfl (mv (v := .int _ _) rfl) ?_
    refine q rfl rfl (neI rfl rfl) ?_
    refine TL.nil (nt ?_)
    refine TC.condD rfl (fun hc2 => absurd hc2 (by decide)) (fun hc2 => ?_)
    refine TC.skip (nt ?_)
    refine TC.seq ?_
    refine TC.region ?_
    refine q rfl rfl (mv (v := .pointer _) rfl) ?_
    refine q rfl rfl (ncQ rfl) ?_
    refine q rfl rfl (faQ 0 rfl rfl) ?_
    first | refine q rfl rfl (ldN (vs := ints [_, _, _]) 3 rfl rfl rfl rfl) ?_ | refine q rfl rfl (ldSN (vs := ints [_, _, _]) 3 rfl rfl (flat_ldN placeC_sz hi 0 3 (by omega) (by omega) rfl) rfl (by decide)) ?_ | refine q rfl rfl (ldSN (vs := ints [_, _, _]) 3 rfl rfl rfl rfl (by decide)) ?_
    refine e0 ?_
    refine st (v := .agg (List.toArray (ints [_, _, _]))) (vs := ints [_, _, _]) 3 rfl rfl rfl rfl rfl rfl (Nat.le_of_ble_eq_true rfl) rfl ?_
    refine q rfl rfl (asg (v := .int _ _) rfl) ?_
    refine TL.nil (nt ?_)
    refine TC.ret ?_
    exact Ret.i () [_, _] ⟨(rcN (n := 3) rfl rfl rfl rfl), rfl, trivial⟩ (by rw [hR]; rfl) trivial (ent_take 1 rfl (ent_nil _))

theorem peek_nil (h : Int) : FSpec Try.prog 15 [.pointer none, .int .u32 h] noRd [] (fun _ : Unit => .tuple #[.agg (ints zeroOb.l).toArray, .int .i64 1]) (fun _ => True) (fun _ => []) := by
  refine FSpec.intro (rs := [.cell 4 32, .tmp 5]) (by kernel_rfl) Try.func15 rfl Try.ntmps15 (by rfl) rfl ?_
  intro F _
  change TC _ _ _ _ _ _ _ (sepL [_])
  refine TC.seq ?_
  refine TC.region ?_
  refine e rfl ?_
  refine al (l := ints [_, _, _]) rfl rfl ?_
  intro b4
  refine q rfl rfl (asg (v := .int _ _) rfl) ?_
  refine TL.nil (nt ?_)
  refine TC.seq ?_
  refine TC.region ?_
  refine q rfl rfl (mv (v := .pointer _) rfl) ?_
  refine q rfl rfl (mv (v := .int _ _) rfl) ?_
  refine e rfl ?_
  refine cl (at_nil _ _) rfl (picked_nil _) trivial ?_
  intro _ _
  change TL _ _ _ _ _ _ _ _ (sepL [_, _])
  refine q rfl rfl (mv (v := .tuple _) rfl) ?_
  refine q rfl rfl (pu (v := .pointer _) (fun _ => rfl)) ?_
  refine q rfl rfl (pu (v := .int _ _) (fun _ => rfl)) ?_
  refine q rfl rfl (asg (v := .pointer _) rfl) ?_
  refine q rfl rfl (asg (v := .int _ _) rfl) ?_
  refine TL.nil (nt ?_)
  refine TC.seq ?_
  refine TC.seq ?_
  refine TC.region ?_
  refine q rfl rfl (mv (v := .int _ _) rfl) ?_
  refine q rfl rfl (neI rfl rfl) ?_
  refine TL.nil (nt ?_)
  refine TC.condD rfl (fun hc3 => ?_) (fun hc3 => absurd (by decide) hc3)
  refine TC.seq ?_
  refine TC.region ?_
  refine q rfl rfl (mv (v := .pointer _) rfl) ?_
  refine q rfl rfl (mv (v := .int _ _) rfl) ?_
  refine e rfl ?_
  refine cl (get_nil h) rfl (picked_nil _) trivial ?_
  intro _ _
  change TL _ _ _ _ _ _ _ _ (sepL [_, _])
  refine q rfl rfl (pu (v := .agg (List.toArray (ints [_, _, _]))) (fun _ => rfl)) ?_
  refine q rfl rfl (pu (v := .int _ _) (fun _ => rfl)) ?_
  refine e0 ?_
  refine st (v := .agg (List.toArray (ints [_, _, _]))) (vs := ints [_, _, _]) 3 rfl rfl rfl rfl rfl rfl (Nat.le_of_ble_eq_true rfl) rfl ?_
  refine q rfl rfl (asg (v := .int _ _) rfl) ?_
  refine TL.nil (nt ?_)
  refine TC.ret (rt ?_)
  exact Ret.i () [_, _] ⟨(rcN (n := 3) rfl rfl rfl rfl), rfl, trivial⟩ rfl trivial (ent_take 1 rfl (ent_nil _))

end Go.Proofs.Ytjnjijgplmmaiaa
