/-
  Proved here: what functions of this program compute, each as a contract over symbolic states, under the premises that each theorem names (most lines printed by a program of the prover).
-/
import Derived.Test.YtjnjijgplmmaiaaHandK
import Derived.Test.YtjnjijgplmmaiaaQLibV
namespace Go.Proofs.Ytjnjijgplmmaiaa
open Go Go.QM
def fsts (z : List (Int × Ob)) : List Int := z.map (·.1)
def objC (t : Int × Ob) : List Value := ints t.2.l
def objsC (z : List (Int × Ob)) : List Value := z.flatMap objC
theorem objC_sz (t : Int × Ob) : (objC t).length = 3 := rfl
theorem objsC_length (z : List (Int × Ob)) : (objsC z).length = z.length * 3 := flat_length objC_sz z
theorem nf_length (z : List (Int × Ob)) : (nums .u32 (fsts z)).length = z.length := by simp [nums, fsts]
theorem nf_get {z : List (Int × Ob)} {k : Nat} {u : Int × Ob} (h : z[k]? = some u) : (nums .u32 (fsts z))[k * 1]? = some (.int .u32 u.1) := by simp [nums, fsts, h]
theorem nf_take (z : List (Int × Ob)) (k : Nat) : (nums .u32 (fsts z)).take (k * 1) = nums .u32 (fsts (z.take k)) := by simp [nums, fsts, List.map_take]
theorem nf_drop (z : List (Int × Ob)) (k : Nat) : ((nums .u32 (fsts z)).drop (k * 1)).take ((z.length - k) * 1) = nums .u32 (fsts (z.drop k)) := by
  rw [List.take_of_length_le (by rw [List.length_drop, nf_length]; omega)]; simp [nums, fsts, List.map_drop]
theorem objs_take (z : List (Int × Ob)) (k : Nat) : (objsC z).take (k * 3) = objsC (z.take k) := flat_take objC_sz z k
theorem objs_drop (z : List (Int × Ob)) (k : Nat) : ((objsC z).drop (k * 3)).take ((z.length - k) * 3) = objsC (z.drop k) := by
  rw [List.take_of_length_le (by rw [List.length_drop, objsC_length]; omega)]; exact flat_drop objC_sz z k
theorem nf_one (z : List (Int × Ob)) : (nums .u32 (fsts z)).all Value.oneCell' = true := by simp [nums, Value.oneCell', List.all_map]
theorem objs_one : ∀ (z : List (Int × Ob)), (objsC z).all Value.oneCell' = true
  | [] => rfl
  | t :: z => by have := objs_one z; rw [objsC] at this ⊢; rw [List.flatMap_cons, List.all_append, this]; rfl
theorem nf_cut (z : List (Int × Ob)) (n : Nat) : nums .u32 (fsts (z.take n)) ++ nums .u32 (fsts (z.drop (n + 1))) = nums .u32 (fsts (cutZ z n)) := by simp [nums, fsts, cutZ]
theorem objs_cut (z : List (Int × Ob)) (n : Nat) : objsC (z.take n) ++ objsC (z.drop (n + 1)) = objsC (cutZ z n) := by simp [objsC, cutZ]

theorem unlike_ok (ad : Option Addr) (xs : List HAct) (cap : Nat) (has : ∀ t ∈ xs, (-9223372036854775808 ≤ t.kind ∧ t.kind ≤ 9223372036854775807) ∧ 0 ≤ t.h ∧ t.h ≤ 4294967295) : FSpec Try.prog 6 [.slice ad xs.length cap] (fun F => ∃ E, RdS F E ad (hactsC xs)) [] (fun _ : Unit => .bool true) (fun _ => True) (fun _ => []) := by
  refine FSpec.intro (rs := [.tmp 2]) (by kernel_rfl) Try.func6 rfl Try.ntmps6 (by rfl) rfl ?_
  intro F ⟨E, hF⟩
  change TC _ _ _ _ _ _ _ (sepL [_])
  haveI : RdSI F ad E (hactsC xs) := ⟨hF⟩
  refine TC.seq ?_
  refine TC.region ?_
  refine q rfl rfl (asg (v := .bool _) rfl) ?_
  refine TL.nil (nt ?_)
  refine TC.seq ?_
  refine TC.seq ?_
  refine TC.region ?_
  refine e rfl ?_
  refine cl alive_ok rfl (picked_nil _) trivial ?_
  intro _ _
  change TL _ _ _ _ _ _ _ _ (sepL [_])
  first | refine q rfl rfl (notD rfl) ?_ | refine q rfl rfl (notB rfl) ?_
  refine TL.nil (nt ?_)
  refine TC.condF rfl ?_
  refine TC.skip (nt ?_)
  refine TC.seq ?_
  refine TC.seq ?_
  refine TC.region ?_
  refine q rfl rfl (mv (v := .slice _ _ _) rfl) ?_
  refine q rfl rfl (len 48 6 rfl rfl) ?_
  refine q rfl rfl (gtr rfl rfl) ?_
  refine TL.nil (nt ?_)
  first | refine TC.condD rfl (fun hbig => ?_) (fun hbig => ?_) | refine TC.cond rfl (fun hbig => ?_) (fun hbig => ?_)
  · refine TC.seq ?_
    refine TC.region ?_
    refine q rfl rfl (asg (v := .bool _) rfl) ?_
    refine TL.nil (nt ?_)
    refine TC.ret (rt ?_)
    exact Ret.i () [_] ⟨rfl, trivial⟩ rfl trivial (ent_take 0 rfl (ent_nil _))
  · have hL : xs.length ≤ 200 := by omega
    refine TC.skip (nt ?_)
    refine TC.seq ?_
    refine TC.region ?_
    refine e rfl ?_
    refine cl new_ok rfl (picked_nil _) trivial ?_
    intro tb _
    change TL _ _ _ _ _ _ _ _ (sepL [_, _])
    refine q rfl rfl (asg (v := .pointer _) rfl) ?_
    refine TL.nil (nt ?_)
    refine TC.seq ?_
    refine TC.region ?_
    refine q rfl rfl (asg (v := .slice _ _ _) rfl) ?_
    refine TL.nil (nt ?_)
    refine TC.seq ?_
    refine TC.region ?_
    refine q rfl rfl (asg (v := .slice _ _ _) rfl) ?_
    refine TL.nil (nt ?_)
    refine TC.seq ?_
    refine TC.seq ?_
    refine TC.region ?_
    refine q rfl rfl (asg (v := .int _ _) rfl) ?_
    refine TL.nil (nt ?_)
    refine TC.block ?_
    refine TC.loop (ι := Nat × List Pl × List (Int × Ob) × (Option Addr × Nat) × (Option Addr × Nat)) (fun s => U1 s.2.1 s.2.2.1 s.1 ∧ s.1 ≤ xs.length) (fun s => [(0, .slice ad xs.length cap), (3, .pointer (some ⟨tb, 0, none⟩)), (4, .slice s.2.2.2.1.1 s.2.2.1.length s.2.2.2.1.2), (5, .slice s.2.2.2.2.1 s.2.2.1.length s.2.2.2.2.2), (6, .int .i64 ((s.1 : Nat) : Int))]) (fun s => sepL [slc 63 5 (some ⟨tb, 0, none⟩) 256 256 (tabC s.2.1), slc 27 1 s.2.2.2.1.1 s.2.2.1.length s.2.2.2.1.2 (nums .u32 (fsts s.2.2.1)), slc 32 3 s.2.2.2.2.1 s.2.2.1.length s.2.2.2.2.2 (objsC s.2.2.1), F]) (fun s => xs.length - s.1) ⟨0, List.replicate 256 zeroPl, [], (none, 0), (none, 0)⟩ ⟨U1.start, Nat.zero_le _⟩ ⟨rfl, rfl, rfl, rfl, rfl, trivial⟩ ((slc_nil 27 1 _).trans ((slc_nil 32 3 _).trans (ent_take 2 rfl (ent_take 1 rfl (ent_take 0 rfl (ent_take 0 rfl (ent_nil _))))))) ?_
    rintro ⟨i, l, z, y1, y2⟩ ⟨hinv, hi⟩ ρ0
    dsimp only [updL] at hinv hi ⊢
    refine TC.seq ?_
    refine TC.seq ?_
    refine TC.region ?_
    refine q rfl rfl (mv (v := .int _ _) rfl) ?_
    refine q rfl rfl (mv (v := .slice _ _ _) rfl) ?_
    refine q rfl rfl (len 48 6 rfl rfl) ?_
    refine q rfl rfl (lss rfl rfl) ?_
    refine TL.nil (nt ?_)
    first | refine TC.condD rfl (fun hlt => ?_) (fun hlt => ?_) | refine TC.cond rfl (fun hlt => ?_) (fun hlt => ?_)
    · have hlt : i < xs.length := by omega
      obtain ⟨t, ht⟩ : ∃ t, xs[i]? = some t := ⟨xs[i], List.getElem?_eq_getElem hlt⟩
      have hpos : 0 < (hactsC xs).length := by rw [hactsC_length]; omega
      have hle := hinv.le
      have hnl := nf_length z
      have hol := objsC_length z
      refine TC.skip (nt ?_)
      refine TC.seq ?_
      refine TC.block ?_
      refine TC.seq ?_
      refine TC.region ?_
      refine q rfl rfl (asg (v := .int _ _) rfl) ?_
      refine TL.nil (nt ?_)
      refine TC.cut (ι := Nat) (fun s => s < z.length ∨ z.length = 0) (fun s => [(0, .slice ad xs.length cap), (3, .pointer (some ⟨tb, 0, none⟩)), (4, .slice y1.1 z.length y1.2), (5, .slice y2.1 z.length y2.2), (6, .int .i64 ((i : Nat) : Int)), (7, .int .i64 ((s : Nat) : Int))]) (fun s => sepL [slc 63 5 (some ⟨tb, 0, none⟩) 256 256 (tabC l), slc 27 1 y1.1 z.length y1.2 (nums .u32 (fsts z)), slc 32 3 y2.1 z.length y2.2 (objsC z), F]) ?_ ?_
      · refine TC.seq ?_
        refine TC.region ?_
        refine q rfl rfl (mv (v := .slice _ _ _) rfl) ?_
        refine q rfl rfl (mv (v := .int _ _) rfl) ?_
        first | refine q rfl rfl (ixS 48 6 rfl rfl rfl (by omega) (by first | assumption | (simp [ints_length] <;> omega))) ?_ | refine q rfl rfl (ixJ 48 6 rfl rfl rfl (by omega) (by omega) (by first | assumption | (simp [ints_length] <;> omega))) ?_ | refine q rfl rfl (ix 48 6 rfl rfl rfl (by omega) (by omega) rfl) ?_
        first | refine q rfl rfl (fa 1 rfl rfl) ?_ | refine q rfl rfl (faS 1 rfl rfl (by first | assumption | (simp [ints_length] <;> omega))) ?_
        first | refine q rfl rfl (ld rfl rfl rfl) ?_ | refine q rfl rfl (ldS rfl rfl (flat_ld hactC_sz ht 0 (by omega) rfl)) ?_ | refine q rfl rfl (ldS rfl rfl (flat_ld hactC_sz ht 1 (by omega) rfl)) ?_ | refine q rfl rfl (ldS rfl rfl rfl) ?_
        refine q rfl rfl (gtr rfl rfl) ?_
        refine q rfl rfl (mv (v := .bool _) rfl) ?_
        refine TL.split 36 rfl (fun hN => ?_) (fun hN => ?_)
        · have hN := of_decide_eq_true hN
          refine qg rfl rfl rfl (mv (v := .slice _ _ _) rfl) ?_
          refine qg rfl rfl rfl (len 27 1 rfl rfl) ?_
          refine qg rfl rfl rfl (gtr rfl rfl) ?_
          first | refine q rfl rfl (pkT rfl rfl) ?_ | refine q rfl rfl (pkF rfl rfl) ?_
          refine TL.nil (nt ?_)
          first | refine TC.condD rfl (fun hz => ?_) (fun hz => ?_) | refine TC.cond rfl (fun hz => ?_) (fun hz => ?_)
          · obtain ⟨j, hj⟩ : ∃ j : Nat, t.n % (z.length : Int) = j := Int.eq_ofNat_of_zero_le (Int.emod_nonneg _ (by omega))
            have hj2 : j < z.length := by have := Int.emod_lt_of_pos t.n (show 0 < (z.length : Int) by omega); omega
            refine TC.region ?_
            refine q rfl rfl (mv (v := .slice _ _ _) rfl) ?_
            refine q rfl rfl (mv (v := .int _ _) rfl) ?_
            first | refine q rfl rfl (ixS 48 6 rfl rfl rfl (by omega) (by first | assumption | (simp [ints_length] <;> omega))) ?_ | refine q rfl rfl (ixJ 48 6 rfl rfl rfl (by omega) (by omega) (by first | assumption | (simp [ints_length] <;> omega))) ?_ | refine q rfl rfl (ix 48 6 rfl rfl rfl (by omega) (by omega) rfl) ?_
            first | refine q rfl rfl (fa 1 rfl rfl) ?_ | refine q rfl rfl (faS 1 rfl rfl (by first | assumption | (simp [ints_length] <;> omega))) ?_
            first | refine q rfl rfl (ld rfl rfl rfl) ?_ | refine q rfl rfl (ldS rfl rfl (flat_ld hactC_sz ht 0 (by omega) rfl)) ?_ | refine q rfl rfl (ldS rfl rfl (flat_ld hactC_sz ht 1 (by omega) rfl)) ?_ | refine q rfl rfl (ldS rfl rfl rfl) ?_
            refine q rfl rfl (mv (v := .slice _ _ _) rfl) ?_
            refine q rfl rfl (len 27 1 rfl rfl) ?_
            first | refine q rfl rfl (remI rfl rfl (by omega) (by omega)) ?_ | refine q rfl rfl (rem rfl rfl (by omega) rfl) ?_
            rw [hj]
            refine q rfl rfl (asg (v := .int _ _) rfl) ?_
            refine TL.nil (nt ?_)
            exact ⟨rfl, j, (.inl hj2), ⟨rfl, rfl, rfl, rfl, rfl, rfl, trivial⟩, (ent_take 0 rfl (ent_take 0 rfl (ent_take 0 rfl (ent_take 0 rfl (ent_nil _)))))⟩
          · refine TC.skip (nt ?_)
            exact ⟨rfl, 0, (by omega), ⟨rfl, rfl, rfl, rfl, rfl, rfl, trivial⟩, (ent_take 0 rfl (ent_take 0 rfl (ent_take 0 rfl (ent_take 0 rfl (ent_nil _)))))⟩
        · have hN := of_decide_eq_false hN
          refine qs rfl rfl ?_
          refine qs rfl rfl ?_
          refine qs rfl rfl ?_
          first | refine q rfl rfl (pkT rfl rfl) ?_ | refine q rfl rfl (pkF rfl rfl) ?_
          refine TL.nil (nt ?_)
          refine TC.condF rfl ?_
          refine TC.skip (nt ?_)
          exact ⟨rfl, 0, (by omega), ⟨rfl, rfl, rfl, rfl, rfl, rfl, trivial⟩, (ent_take 0 rfl (ent_take 0 rfl (ent_take 0 rfl (ent_take 0 rfl (ent_nil _)))))⟩
      · rintro n hn ρ1
        dsimp only [updL] at hn ⊢
        refine TC.seq ?_
        refine TC.seq ?_
        refine TC.region ?_
        refine q rfl rfl (mv (v := .slice _ _ _) rfl) ?_
        refine q rfl rfl (mv (v := .int _ _) rfl) ?_
        first | refine q rfl rfl (ixS 48 6 rfl rfl rfl (by omega) (by first | assumption | (simp [ints_length] <;> omega))) ?_ | refine q rfl rfl (ixJ 48 6 rfl rfl rfl (by omega) (by omega) (by first | assumption | (simp [ints_length] <;> omega))) ?_ | refine q rfl rfl (ix 48 6 rfl rfl rfl (by omega) (by omega) rfl) ?_
        first | refine q rfl rfl (fa 0 rfl rfl) ?_ | refine q rfl rfl (faS 0 rfl rfl (by first | assumption | (simp [ints_length] <;> omega))) ?_
        first | refine q rfl rfl (ld rfl rfl rfl) ?_ | refine q rfl rfl (ldS rfl rfl (flat_ld hactC_sz ht 0 (by omega) rfl)) ?_ | refine q rfl rfl (ldS rfl rfl rfl) ?_
        refine q rfl rfl (eqI rfl rfl) ?_
        refine q rfl rfl (mv (v := .bool _) rfl) ?_
        refine TL.split 55 rfl (fun hk0 => ?_) (fun hk0 => ?_)
        · have hk0 := of_decide_eq_true hk0
          refine qs rfl rfl ?_
          refine qs rfl rfl ?_
          refine qs rfl rfl ?_
          first | refine q rfl rfl (pkT rfl rfl) ?_ | refine q rfl rfl (pkF rfl rfl) ?_
          refine TL.nil (nt ?_)
          refine TC.condT rfl ?_
          rcases hinv.put t.o with ⟨e1, e2⟩ | ⟨e1, e2, e3⟩
          · refine TC.seq ?_
            refine TC.region ?_
            refine q rfl rfl (mv (v := .pointer _) rfl) ?_
            refine q rfl rfl (mv (v := .slice _ _ _) rfl) ?_
            refine q rfl rfl (mv (v := .int _ _) rfl) ?_
            first | refine q rfl rfl (ixS 48 6 rfl rfl rfl (by omega) (by first | assumption | (simp [ints_length] <;> omega))) ?_ | refine q rfl rfl (ixJ 48 6 rfl rfl rfl (by omega) (by omega) (by first | assumption | (simp [ints_length] <;> omega))) ?_ | refine q rfl rfl (ix 48 6 rfl rfl rfl (by omega) (by omega) rfl) ?_
            first | refine q rfl rfl (fa 3 rfl rfl) ?_ | refine q rfl rfl (faS 3 rfl rfl (by first | assumption | (simp [ints_length] <;> omega))) ?_
            first | refine q rfl rfl (ldN (vs := ints [_, _, _]) 3 rfl rfl rfl rfl) ?_ | refine q rfl rfl (ldSN (vs := ints [_, _, _]) 3 rfl rfl (flat_ldN hactC_sz ht 3 3 (by omega) (by omega) rfl) rfl (by decide)) ?_ | refine q rfl rfl (ldSN (vs := ints [_, _, _]) 3 rfl rfl rfl rfl (by decide)) ?_
            refine e rfl ?_
            refine cl (put_ok tb l t.o hinv.ok) rfl (picked_cons 0 rfl (picked_nil _)) trivial ?_
            intro _ _
            change TL _ _ _ _ _ _ _ _ (sepL [_, _, _, _])
            rw [e1, e2]
            generalize (putR l t.o).2.1 = hd
            refine q rfl rfl (mv (v := .tuple _) rfl) ?_
            refine q rfl rfl (pu (v := .int _ _) (fun _ => rfl)) ?_
            refine q rfl rfl (pu (v := .int _ _) (fun _ => rfl)) ?_
            refine q rfl rfl (asg (v := .int _ _) rfl) ?_
            refine q rfl rfl (asg (v := .int _ _) rfl) ?_
            refine TL.nil (nt ?_)
            refine TC.seq ?_
            refine TC.seq ?_
            refine TC.region ?_
            refine q rfl rfl (asg (v := .int _ _) rfl) ?_
            refine TL.nil (nt ?_)
            refine TC.block ?_
            refine TC.loop (ι := Nat) (fun k => k ≤ z.length) (fun k => [(0, .slice ad xs.length cap), (3, .pointer (some ⟨tb, 0, none⟩)), (4, .slice y1.1 z.length y1.2), (5, .slice y2.1 z.length y2.2), (6, .int .i64 ((i : Nat) : Int)), (8, .int .u32 hd), (9, .int .i64 11), (10, .int .i64 (k : Int))]) (fun k => sepL [slc 63 5 (some ⟨tb, 0, none⟩) 256 256 (tabC l), slc 27 1 y1.1 z.length y1.2 (nums .u32 (fsts z)), slc 32 3 y2.1 z.length y2.2 (objsC z), F]) (fun k => z.length - k) 0 (Nat.zero_le _) ⟨rfl, rfl, rfl, rfl, rfl, rfl, rfl, rfl, trivial⟩ (ent_take 0 rfl (ent_take 0 rfl (ent_take 0 rfl (ent_take 0 rfl (ent_nil _))))) ?_
            rintro k hk ρ2
            dsimp only [updL] at hk ⊢
            refine TC.seq ?_
            refine TC.seq ?_
            refine TC.region ?_
            refine q rfl rfl (mv (v := .int _ _) rfl) ?_
            refine q rfl rfl (mv (v := .slice _ _ _) rfl) ?_
            refine q rfl rfl (len 27 1 rfl rfl) ?_
            refine q rfl rfl (lss rfl rfl) ?_
            refine TL.nil (nt ?_)
            first | refine TC.condD rfl (fun hkl => ?_) (fun hkl => ?_) | refine TC.cond rfl (fun hkl => ?_) (fun hkl => ?_)
            · have hkl2 : k < z.length := by omega
              obtain ⟨u, hu⟩ : ∃ u, z[k]? = some u := ⟨z[k], List.getElem?_eq_getElem hkl2⟩
              have hpz : 0 < (nums .u32 (fsts z)).length := by omega
              have hpo : 0 < (objsC z).length := by omega
              refine TC.skip (nt ?_)
              refine TC.seq ?_
              refine TC.block ?_
              refine TC.seq ?_
              refine TC.region ?_
              refine q rfl rfl (mv (v := .slice _ _ _) rfl) ?_
              refine q rfl rfl (mv (v := .int _ _) rfl) ?_
              first | refine q rfl rfl (ixS 27 1 rfl rfl rfl (by omega) (by first | assumption | (simp [ints_length] <;> omega))) ?_ | refine q rfl rfl (ixJ 27 1 rfl rfl rfl (by omega) (by omega) (by first | assumption | (simp [ints_length] <;> omega))) ?_ | refine q rfl rfl (ix 27 1 rfl rfl rfl (by omega) (by omega) rfl) ?_
              first | refine q rfl rfl (ld rfl rfl rfl) ?_ | refine q rfl rfl (ldS rfl rfl (nf_get hu)) ?_ | refine q rfl rfl (ldS rfl rfl rfl) ?_
              refine q rfl rfl (mv (v := .int _ _) rfl) ?_
              refine q rfl rfl (eqI rfl rfl) ?_
              refine q rfl rfl (mv (v := .bool _) rfl) ?_
              refine TL.split 82 rfl (fun hq => ?_) (fun hq => ?_)
              · have hq := of_decide_eq_true hq
                refine qg rfl rfl rfl (mv (v := .int _ _) rfl) ?_
                refine qg rfl rfl rfl (eqI rfl rfl) ?_
                first | refine q rfl rfl (pkT rfl rfl) ?_ | refine q rfl rfl (pkF rfl rfl) ?_
                refine TL.nil (nt ?_)
                refine TC.condD rfl (fun hc1 => absurd hc1 (by decide)) (fun hc1 => ?_)
                refine TC.skip (nb (nt ?_))
                refine TC.region ?_
                refine q rfl rfl (mv (v := .int _ _) rfl) ?_
                first | refine q rfl rfl (addI rfl rfl (by omega) (by omega)) ?_ | refine q rfl rfl (add rfl rfl rfl) ?_
                refine q rfl rfl (asg (v := .int _ _) rfl) ?_
                refine TL.nil (nt ?_)
                exact ⟨rfl, (k + 1), (by omega), (by omega), ⟨rfl, rfl, rfl, rfl, rfl, rfl, rfl, rfl, trivial⟩, (ent_take 0 rfl (ent_take 0 rfl (ent_take 0 rfl (ent_take 0 rfl (ent_nil _)))))⟩
              · have hq := of_decide_eq_false hq
                refine qs rfl rfl ?_
                refine qs rfl rfl ?_
                first | refine q rfl rfl (pkT rfl rfl) ?_ | refine q rfl rfl (pkF rfl rfl) ?_
                refine TL.nil (nt ?_)
                refine TC.condF rfl ?_
                refine TC.skip (nb (nt ?_))
                refine TC.region ?_
                refine q rfl rfl (mv (v := .int _ _) rfl) ?_
                first | refine q rfl rfl (addI rfl rfl (by omega) (by omega)) ?_ | refine q rfl rfl (add rfl rfl rfl) ?_
                refine q rfl rfl (asg (v := .int _ _) rfl) ?_
                refine TL.nil (nt ?_)
                exact ⟨rfl, (k + 1), (by omega), (by omega), ⟨rfl, rfl, rfl, rfl, rfl, rfl, rfl, rfl, trivial⟩, (ent_take 0 rfl (ent_take 0 rfl (ent_take 0 rfl (ent_take 0 rfl (ent_nil _)))))⟩
            · refine TC.exit (et (et (eb (nt ?_))))
              refine TC.seq ?_
              refine TC.seq ?_
              refine TC.region ?_
              refine q rfl rfl (mv (v := .int _ _) rfl) ?_
              refine q rfl rfl (eqI rfl rfl) ?_
              refine TL.nil (nt ?_)
              refine TC.condD rfl (fun hc2 => absurd hc2 (by decide)) (fun hc2 => ?_)
              refine TC.skip (nt ?_)
              refine TC.exit (et (eb (nt ?_)))
              refine TC.region ?_
              refine q rfl rfl (mv (v := .int _ _) rfl) ?_
              first | refine q rfl rfl (addI rfl rfl (by omega) (by omega)) ?_ | refine q rfl rfl (add rfl rfl rfl) ?_
              refine q rfl rfl (asg (v := .int _ _) rfl) ?_
              refine TL.nil (nt ?_)
              exact ⟨rfl, ⟨i + 1, l, z, y1, y2⟩, ⟨hinv.next, by dsimp only; omega⟩, (by dsimp only; omega), ⟨rfl, rfl, rfl, rfl, rfl, trivial⟩, (ent_take 0 rfl (ent_take 0 rfl (ent_take 0 rfl (ent_take 0 rfl (ent_nil _)))))⟩
          · refine TC.seq ?_
            refine TC.region ?_
            refine q rfl rfl (mv (v := .pointer _) rfl) ?_
            refine q rfl rfl (mv (v := .slice _ _ _) rfl) ?_
            refine q rfl rfl (mv (v := .int _ _) rfl) ?_
            first | refine q rfl rfl (ixS 48 6 rfl rfl rfl (by omega) (by first | assumption | (simp [ints_length] <;> omega))) ?_ | refine q rfl rfl (ixJ 48 6 rfl rfl rfl (by omega) (by omega) (by first | assumption | (simp [ints_length] <;> omega))) ?_ | refine q rfl rfl (ix 48 6 rfl rfl rfl (by omega) (by omega) rfl) ?_
            first | refine q rfl rfl (fa 3 rfl rfl) ?_ | refine q rfl rfl (faS 3 rfl rfl (by first | assumption | (simp [ints_length] <;> omega))) ?_
            first | refine q rfl rfl (ldN (vs := ints [_, _, _]) 3 rfl rfl rfl rfl) ?_ | refine q rfl rfl (ldSN (vs := ints [_, _, _]) 3 rfl rfl (flat_ldN hactC_sz ht 3 3 (by omega) (by omega) rfl) rfl (by decide)) ?_ | refine q rfl rfl (ldSN (vs := ints [_, _, _]) 3 rfl rfl rfl rfl (by decide)) ?_
            refine e rfl ?_
            refine cl (put_ok tb l t.o hinv.ok) rfl (picked_cons 0 rfl (picked_nil _)) trivial ?_
            intro _ _
            change TL _ _ _ _ _ _ _ _ (sepL [_, _, _, _])
            rw [e1]
            generalize (putR l t.o).2.1 = hd at e2 e3 ⊢
            generalize (putR l t.o).1 = l2 at e2 ⊢
            refine q rfl rfl (mv (v := .tuple _) rfl) ?_
            refine q rfl rfl (pu (v := .int _ _) (fun _ => rfl)) ?_
            refine q rfl rfl (pu (v := .int _ _) (fun _ => rfl)) ?_
            refine q rfl rfl (asg (v := .int _ _) rfl) ?_
            refine q rfl rfl (asg (v := .int _ _) rfl) ?_
            refine TL.nil (nt ?_)
            refine TC.seq ?_
            refine TC.seq ?_
            refine TC.region ?_
            refine q rfl rfl (asg (v := .int _ _) rfl) ?_
            refine TL.nil (nt ?_)
            refine TC.block ?_
            refine TC.loop (ι := Nat) (fun k => k ≤ z.length) (fun k => [(0, .slice ad xs.length cap), (3, .pointer (some ⟨tb, 0, none⟩)), (4, .slice y1.1 z.length y1.2), (5, .slice y2.1 z.length y2.2), (6, .int .i64 ((i : Nat) : Int)), (8, .int .u32 hd), (9, .int .i64 0), (10, .int .i64 (k : Int))]) (fun k => sepL [slc 63 5 (some ⟨tb, 0, none⟩) 256 256 (tabC l2), slc 27 1 y1.1 z.length y1.2 (nums .u32 (fsts z)), slc 32 3 y2.1 z.length y2.2 (objsC z), F]) (fun k => z.length - k) 0 (Nat.zero_le _) ⟨rfl, rfl, rfl, rfl, rfl, rfl, rfl, rfl, trivial⟩ (ent_take 0 rfl (ent_take 0 rfl (ent_take 0 rfl (ent_take 0 rfl (ent_nil _))))) ?_
            rintro k hk ρ2
            dsimp only [updL] at hk ⊢
            refine TC.seq ?_
            refine TC.seq ?_
            refine TC.region ?_
            refine q rfl rfl (mv (v := .int _ _) rfl) ?_
            refine q rfl rfl (mv (v := .slice _ _ _) rfl) ?_
            refine q rfl rfl (len 27 1 rfl rfl) ?_
            refine q rfl rfl (lss rfl rfl) ?_
            refine TL.nil (nt ?_)
            first | refine TC.condD rfl (fun hkl => ?_) (fun hkl => ?_) | refine TC.cond rfl (fun hkl => ?_) (fun hkl => ?_)
            · have hkl2 : k < z.length := by omega
              obtain ⟨u, hu⟩ : ∃ u, z[k]? = some u := ⟨z[k], List.getElem?_eq_getElem hkl2⟩
              have hpz : 0 < (nums .u32 (fsts z)).length := by omega
              have hpo : 0 < (objsC z).length := by omega
              refine TC.skip (nt ?_)
              refine TC.seq ?_
              refine TC.block ?_
              refine TC.seq ?_
              refine TC.region ?_
              refine q rfl rfl (mv (v := .slice _ _ _) rfl) ?_
              refine q rfl rfl (mv (v := .int _ _) rfl) ?_
              first | refine q rfl rfl (ixS 27 1 rfl rfl rfl (by omega) (by first | assumption | (simp [ints_length] <;> omega))) ?_ | refine q rfl rfl (ixJ 27 1 rfl rfl rfl (by omega) (by omega) (by first | assumption | (simp [ints_length] <;> omega))) ?_ | refine q rfl rfl (ix 27 1 rfl rfl rfl (by omega) (by omega) rfl) ?_
              first | refine q rfl rfl (ld rfl rfl rfl) ?_ | refine q rfl rfl (ldS rfl rfl (nf_get hu)) ?_ | refine q rfl rfl (ldS rfl rfl rfl) ?_
              refine q rfl rfl (mv (v := .int _ _) rfl) ?_
              refine q rfl rfl (eqI rfl rfl) ?_
              refine q rfl rfl (mv (v := .bool _) rfl) ?_
              refine TL.known 82 rfl (c := false) (decide_eq_false (e3 u (List.mem_of_getElem? hu))) ?_
              refine qs rfl rfl ?_
              refine qs rfl rfl ?_
              first | refine q rfl rfl (pkT rfl rfl) ?_ | refine q rfl rfl (pkF rfl rfl) ?_
              refine TL.nil (nt ?_)
              refine TC.condF rfl ?_
              refine TC.skip (nb (nt ?_))
              refine TC.region ?_
              refine q rfl rfl (mv (v := .int _ _) rfl) ?_
              first | refine q rfl rfl (addI rfl rfl (by omega) (by omega)) ?_ | refine q rfl rfl (add rfl rfl rfl) ?_
              refine q rfl rfl (asg (v := .int _ _) rfl) ?_
              refine TL.nil (nt ?_)
              exact ⟨rfl, (k + 1), (by omega), (by omega), ⟨rfl, rfl, rfl, rfl, rfl, rfl, rfl, rfl, trivial⟩, (ent_take 0 rfl (ent_take 0 rfl (ent_take 0 rfl (ent_take 0 rfl (ent_nil _)))))⟩
            · refine TC.exit (et (et (eb (nt ?_))))
              refine TC.seq ?_
              refine TC.seq ?_
              refine TC.region ?_
              refine q rfl rfl (mv (v := .int _ _) rfl) ?_
              refine q rfl rfl (eqI rfl rfl) ?_
              refine TL.nil (nt ?_)
              refine TC.condD rfl (fun hc3 => ?_) (fun hc3 => absurd (rfl) hc3)
              refine TC.seq ?_
              refine TC.region ?_
              refine q rfl rfl (mv (v := .slice _ _ _) rfl) ?_
              refine q rfl rfl (mv (v := .int _ _) rfl) ?_
              refine e rfl ?_
              refine bs (cs := [.int _ _]) rfl ?_
              intro b1
              refine e rfl ?_
              refine ap 4 rfl rfl rfl rfl rfl (Nat.le_of_ble_eq_true rfl) rfl rfl (by omega) (by simp only [maxLen]; omega) ?_
              intro ad1 cap1
              refine q rfl rfl (asg (v := .slice _ _ _) rfl) ?_
              refine TL.nil (nt ?_)
              refine TC.region ?_
              refine q rfl rfl (mv (v := .slice _ _ _) rfl) ?_
              refine q rfl rfl (mv (v := .slice _ _ _) rfl) ?_
              refine q rfl rfl (mv (v := .int _ _) rfl) ?_
              first | refine q rfl rfl (ixS 48 6 rfl rfl rfl (by omega) (by first | assumption | (simp [ints_length] <;> omega))) ?_ | refine q rfl rfl (ixJ 48 6 rfl rfl rfl (by omega) (by omega) (by first | assumption | (simp [ints_length] <;> omega))) ?_ | refine q rfl rfl (ix 48 6 rfl rfl rfl (by omega) (by omega) rfl) ?_
              first | refine q rfl rfl (fa 3 rfl rfl) ?_ | refine q rfl rfl (faS 3 rfl rfl (by first | assumption | (simp [ints_length] <;> omega))) ?_
              first | refine q rfl rfl (ldN (vs := ints [_, _, _]) 3 rfl rfl rfl rfl) ?_ | refine q rfl rfl (ldSN (vs := ints [_, _, _]) 3 rfl rfl (flat_ldN hactC_sz ht 3 3 (by omega) (by omega) rfl) rfl (by decide)) ?_ | refine q rfl rfl (ldSN (vs := ints [_, _, _]) 3 rfl rfl rfl rfl (by decide)) ?_
              refine e rfl ?_
              refine bs (cs := ints [_, _, _]) rfl ?_
              intro b2
              refine e rfl ?_
              refine ap 24 rfl rfl rfl rfl rfl (Nat.le_of_ble_eq_true rfl) rfl rfl (by omega) (by simp only [maxLen]; omega) ?_
              intro ad2 cap2
              refine q rfl rfl (asg (v := .slice _ _ _) rfl) ?_
              refine TL.nil (nt ?_)
              refine TC.exit (et (eb (nt ?_)))
              refine TC.region ?_
              refine q rfl rfl (mv (v := .int _ _) rfl) ?_
              first | refine q rfl rfl (addI rfl rfl (by omega) (by omega)) ?_ | refine q rfl rfl (add rfl rfl rfl) ?_
              refine q rfl rfl (asg (v := .int _ _) rfl) ?_
              refine TL.nil (nt ?_)
              exact ⟨rfl, ⟨i + 1, l2, z ++ [(hd, t.o)], (ad1, cap1), (ad2, cap2)⟩, ⟨e2, by dsimp only; omega⟩, (by dsimp only; omega), ⟨rfl, rfl, congrArg (fun n => Value.slice _ n _) (by rw [List.length_append]; rfl), congrArg (fun n => Value.slice _ n _) (by rw [List.length_append]; rfl), rfl, trivial⟩, (ent_take 4 rfl (ent_takeE 2 rfl (by simp [nums, fsts]) (ent_takeE 0 rfl (by simp [objsC, objC, Ob.l, ints]) (ent_take 2 rfl (ent_nil _)))))⟩
        · have hk0 := of_decide_eq_false hk0
          refine qg rfl rfl rfl (mv (v := .slice _ _ _) rfl) ?_
          refine qg rfl rfl rfl (len 27 1 rfl rfl) ?_
          refine qg rfl rfl rfl (eqI rfl rfl) ?_
          first | refine q rfl rfl (pkT rfl rfl) ?_ | refine q rfl rfl (pkF rfl rfl) ?_
          refine TL.nil (nt ?_)
          first | refine TC.condD rfl (fun hz0 => ?_) (fun hz0 => ?_) | refine TC.cond rfl (fun hz0 => ?_) (fun hz0 => ?_)
          · rcases hinv.put t.o with ⟨e1, e2⟩ | ⟨e1, e2, e3⟩
            · refine TC.seq ?_
              refine TC.region ?_
              refine q rfl rfl (mv (v := .pointer _) rfl) ?_
              refine q rfl rfl (mv (v := .slice _ _ _) rfl) ?_
              refine q rfl rfl (mv (v := .int _ _) rfl) ?_
              first | refine q rfl rfl (ixS 48 6 rfl rfl rfl (by omega) (by first | assumption | (simp [ints_length] <;> omega))) ?_ | refine q rfl rfl (ixJ 48 6 rfl rfl rfl (by omega) (by omega) (by first | assumption | (simp [ints_length] <;> omega))) ?_ | refine q rfl rfl (ix 48 6 rfl rfl rfl (by omega) (by omega) rfl) ?_
              first | refine q rfl rfl (fa 3 rfl rfl) ?_ | refine q rfl rfl (faS 3 rfl rfl (by first | assumption | (simp [ints_length] <;> omega))) ?_
              first | refine q rfl rfl (ldN (vs := ints [_, _, _]) 3 rfl rfl rfl rfl) ?_ | refine q rfl rfl (ldSN (vs := ints [_, _, _]) 3 rfl rfl (flat_ldN hactC_sz ht 3 3 (by omega) (by omega) rfl) rfl (by decide)) ?_ | refine q rfl rfl (ldSN (vs := ints [_, _, _]) 3 rfl rfl rfl rfl (by decide)) ?_
              refine e rfl ?_
              refine cl (put_ok tb l t.o hinv.ok) rfl (picked_cons 0 rfl (picked_nil _)) trivial ?_
              intro _ _
              change TL _ _ _ _ _ _ _ _ (sepL [_, _, _, _])
              rw [e1, e2]
              generalize (putR l t.o).2.1 = hd
              refine q rfl rfl (mv (v := .tuple _) rfl) ?_
              refine q rfl rfl (pu (v := .int _ _) (fun _ => rfl)) ?_
              refine q rfl rfl (pu (v := .int _ _) (fun _ => rfl)) ?_
              refine q rfl rfl (asg (v := .int _ _) rfl) ?_
              refine q rfl rfl (asg (v := .int _ _) rfl) ?_
              refine TL.nil (nt ?_)
              refine TC.seq ?_
              refine TC.seq ?_
              refine TC.region ?_
              refine q rfl rfl (asg (v := .int _ _) rfl) ?_
              refine TL.nil (nt ?_)
              refine TC.block ?_
              refine TC.loop (ι := Nat) (fun k => k ≤ z.length) (fun k => [(0, .slice ad xs.length cap), (3, .pointer (some ⟨tb, 0, none⟩)), (4, .slice y1.1 z.length y1.2), (5, .slice y2.1 z.length y2.2), (6, .int .i64 ((i : Nat) : Int)), (8, .int .u32 hd), (9, .int .i64 11), (10, .int .i64 (k : Int))]) (fun k => sepL [slc 63 5 (some ⟨tb, 0, none⟩) 256 256 (tabC l), slc 27 1 y1.1 z.length y1.2 (nums .u32 (fsts z)), slc 32 3 y2.1 z.length y2.2 (objsC z), F]) (fun k => z.length - k) 0 (Nat.zero_le _) ⟨rfl, rfl, rfl, rfl, rfl, rfl, rfl, rfl, trivial⟩ (ent_take 0 rfl (ent_take 0 rfl (ent_take 0 rfl (ent_take 0 rfl (ent_nil _))))) ?_
              rintro k hk ρ2
              dsimp only [updL] at hk ⊢
              refine TC.seq ?_
              refine TC.seq ?_
              refine TC.region ?_
              refine q rfl rfl (mv (v := .int _ _) rfl) ?_
              refine q rfl rfl (mv (v := .slice _ _ _) rfl) ?_
              refine q rfl rfl (len 27 1 rfl rfl) ?_
              refine q rfl rfl (lss rfl rfl) ?_
              refine TL.nil (nt ?_)
              first | refine TC.condD rfl (fun hkl => ?_) (fun hkl => ?_) | refine TC.cond rfl (fun hkl => ?_) (fun hkl => ?_)
              · have hkl2 : k < z.length := by omega
                obtain ⟨u, hu⟩ : ∃ u, z[k]? = some u := ⟨z[k], List.getElem?_eq_getElem hkl2⟩
                have hpz : 0 < (nums .u32 (fsts z)).length := by omega
                have hpo : 0 < (objsC z).length := by omega
                refine TC.skip (nt ?_)
                refine TC.seq ?_
                refine TC.block ?_
                refine TC.seq ?_
                refine TC.region ?_
                refine q rfl rfl (mv (v := .slice _ _ _) rfl) ?_
                refine q rfl rfl (mv (v := .int _ _) rfl) ?_
                first | refine q rfl rfl (ixS 27 1 rfl rfl rfl (by omega) (by first | assumption | (simp [ints_length] <;> omega))) ?_ | refine q rfl rfl (ixJ 27 1 rfl rfl rfl (by omega) (by omega) (by first | assumption | (simp [ints_length] <;> omega))) ?_ | refine q rfl rfl (ix 27 1 rfl rfl rfl (by omega) (by omega) rfl) ?_
                first | refine q rfl rfl (ld rfl rfl rfl) ?_ | refine q rfl rfl (ldS rfl rfl (nf_get hu)) ?_ | refine q rfl rfl (ldS rfl rfl rfl) ?_
                refine q rfl rfl (mv (v := .int _ _) rfl) ?_
                refine q rfl rfl (eqI rfl rfl) ?_
                refine q rfl rfl (mv (v := .bool _) rfl) ?_
                refine TL.split 82 rfl (fun hq => ?_) (fun hq => ?_)
                · have hq := of_decide_eq_true hq
                  refine qg rfl rfl rfl (mv (v := .int _ _) rfl) ?_
                  refine qg rfl rfl rfl (eqI rfl rfl) ?_
                  first | refine q rfl rfl (pkT rfl rfl) ?_ | refine q rfl rfl (pkF rfl rfl) ?_
                  refine TL.nil (nt ?_)
                  refine TC.condD rfl (fun hc4 => absurd hc4 (by decide)) (fun hc4 => ?_)
                  refine TC.skip (nb (nt ?_))
                  refine TC.region ?_
                  refine q rfl rfl (mv (v := .int _ _) rfl) ?_
                  first | refine q rfl rfl (addI rfl rfl (by omega) (by omega)) ?_ | refine q rfl rfl (add rfl rfl rfl) ?_
                  refine q rfl rfl (asg (v := .int _ _) rfl) ?_
                  refine TL.nil (nt ?_)
                  exact ⟨rfl, (k + 1), (by omega), (by omega), ⟨rfl, rfl, rfl, rfl, rfl, rfl, rfl, rfl, trivial⟩, (ent_take 0 rfl (ent_take 0 rfl (ent_take 0 rfl (ent_take 0 rfl (ent_nil _)))))⟩
                · have hq := of_decide_eq_false hq
                  refine qs rfl rfl ?_
                  refine qs rfl rfl ?_
                  first | refine q rfl rfl (pkT rfl rfl) ?_ | refine q rfl rfl (pkF rfl rfl) ?_
                  refine TL.nil (nt ?_)
                  refine TC.condF rfl ?_
                  refine TC.skip (nb (nt ?_))
                  refine TC.region ?_
                  refine q rfl rfl (mv (v := .int _ _) rfl) ?_
                  first | refine q rfl rfl (addI rfl rfl (by omega) (by omega)) ?_ | refine q rfl rfl (add rfl rfl rfl) ?_
                  refine q rfl rfl (asg (v := .int _ _) rfl) ?_
                  refine TL.nil (nt ?_)
                  exact ⟨rfl, (k + 1), (by omega), (by omega), ⟨rfl, rfl, rfl, rfl, rfl, rfl, rfl, rfl, trivial⟩, (ent_take 0 rfl (ent_take 0 rfl (ent_take 0 rfl (ent_take 0 rfl (ent_nil _)))))⟩
              · refine TC.exit (et (et (eb (nt ?_))))
                refine TC.seq ?_
                refine TC.seq ?_
                refine TC.region ?_
                refine q rfl rfl (mv (v := .int _ _) rfl) ?_
                refine q rfl rfl (eqI rfl rfl) ?_
                refine TL.nil (nt ?_)
                refine TC.condD rfl (fun hc5 => absurd hc5 (by decide)) (fun hc5 => ?_)
                refine TC.skip (nt ?_)
                refine TC.exit (et (eb (nt ?_)))
                refine TC.region ?_
                refine q rfl rfl (mv (v := .int _ _) rfl) ?_
                first | refine q rfl rfl (addI rfl rfl (by omega) (by omega)) ?_ | refine q rfl rfl (add rfl rfl rfl) ?_
                refine q rfl rfl (asg (v := .int _ _) rfl) ?_
                refine TL.nil (nt ?_)
                exact ⟨rfl, ⟨i + 1, l, z, y1, y2⟩, ⟨hinv.next, by dsimp only; omega⟩, (by dsimp only; omega), ⟨rfl, rfl, rfl, rfl, rfl, trivial⟩, (ent_take 0 rfl (ent_take 0 rfl (ent_take 0 rfl (ent_take 0 rfl (ent_nil _)))))⟩
            · refine TC.seq ?_
              refine TC.region ?_
              refine q rfl rfl (mv (v := .pointer _) rfl) ?_
              refine q rfl rfl (mv (v := .slice _ _ _) rfl) ?_
              refine q rfl rfl (mv (v := .int _ _) rfl) ?_
              first | refine q rfl rfl (ixS 48 6 rfl rfl rfl (by omega) (by first | assumption | (simp [ints_length] <;> omega))) ?_ | refine q rfl rfl (ixJ 48 6 rfl rfl rfl (by omega) (by omega) (by first | assumption | (simp [ints_length] <;> omega))) ?_ | refine q rfl rfl (ix 48 6 rfl rfl rfl (by omega) (by omega) rfl) ?_
              first | refine q rfl rfl (fa 3 rfl rfl) ?_ | refine q rfl rfl (faS 3 rfl rfl (by first | assumption | (simp [ints_length] <;> omega))) ?_
              first | refine q rfl rfl (ldN (vs := ints [_, _, _]) 3 rfl rfl rfl rfl) ?_ | refine q rfl rfl (ldSN (vs := ints [_, _, _]) 3 rfl rfl (flat_ldN hactC_sz ht 3 3 (by omega) (by omega) rfl) rfl (by decide)) ?_ | refine q rfl rfl (ldSN (vs := ints [_, _, _]) 3 rfl rfl rfl rfl (by decide)) ?_
              refine e rfl ?_
              refine cl (put_ok tb l t.o hinv.ok) rfl (picked_cons 0 rfl (picked_nil _)) trivial ?_
              intro _ _
              change TL _ _ _ _ _ _ _ _ (sepL [_, _, _, _])
              rw [e1]
              generalize (putR l t.o).2.1 = hd at e2 e3 ⊢
              generalize (putR l t.o).1 = l2 at e2 ⊢
              refine q rfl rfl (mv (v := .tuple _) rfl) ?_
              refine q rfl rfl (pu (v := .int _ _) (fun _ => rfl)) ?_
              refine q rfl rfl (pu (v := .int _ _) (fun _ => rfl)) ?_
              refine q rfl rfl (asg (v := .int _ _) rfl) ?_
              refine q rfl rfl (asg (v := .int _ _) rfl) ?_
              refine TL.nil (nt ?_)
              refine TC.seq ?_
              refine TC.seq ?_
              refine TC.region ?_
              refine q rfl rfl (asg (v := .int _ _) rfl) ?_
              refine TL.nil (nt ?_)
              refine TC.block ?_
              refine TC.loop (ι := Nat) (fun k => k ≤ z.length) (fun k => [(0, .slice ad xs.length cap), (3, .pointer (some ⟨tb, 0, none⟩)), (4, .slice y1.1 z.length y1.2), (5, .slice y2.1 z.length y2.2), (6, .int .i64 ((i : Nat) : Int)), (8, .int .u32 hd), (9, .int .i64 0), (10, .int .i64 (k : Int))]) (fun k => sepL [slc 63 5 (some ⟨tb, 0, none⟩) 256 256 (tabC l2), slc 27 1 y1.1 z.length y1.2 (nums .u32 (fsts z)), slc 32 3 y2.1 z.length y2.2 (objsC z), F]) (fun k => z.length - k) 0 (Nat.zero_le _) ⟨rfl, rfl, rfl, rfl, rfl, rfl, rfl, rfl, trivial⟩ (ent_take 0 rfl (ent_take 0 rfl (ent_take 0 rfl (ent_take 0 rfl (ent_nil _))))) ?_
              rintro k hk ρ2
              dsimp only [updL] at hk ⊢
              refine TC.seq ?_
              refine TC.seq ?_
              refine TC.region ?_
              refine q rfl rfl (mv (v := .int _ _) rfl) ?_
              refine q rfl rfl (mv (v := .slice _ _ _) rfl) ?_
              refine q rfl rfl (len 27 1 rfl rfl) ?_
              refine q rfl rfl (lss rfl rfl) ?_
              refine TL.nil (nt ?_)
              first | refine TC.condD rfl (fun hkl => ?_) (fun hkl => ?_) | refine TC.cond rfl (fun hkl => ?_) (fun hkl => ?_)
              · have hkl2 : k < z.length := by omega
                obtain ⟨u, hu⟩ : ∃ u, z[k]? = some u := ⟨z[k], List.getElem?_eq_getElem hkl2⟩
                have hpz : 0 < (nums .u32 (fsts z)).length := by omega
                have hpo : 0 < (objsC z).length := by omega
                refine TC.skip (nt ?_)
                refine TC.seq ?_
                refine TC.block ?_
                refine TC.seq ?_
                refine TC.region ?_
                refine q rfl rfl (mv (v := .slice _ _ _) rfl) ?_
                refine q rfl rfl (mv (v := .int _ _) rfl) ?_
                first | refine q rfl rfl (ixS 27 1 rfl rfl rfl (by omega) (by first | assumption | (simp [ints_length] <;> omega))) ?_ | refine q rfl rfl (ixJ 27 1 rfl rfl rfl (by omega) (by omega) (by first | assumption | (simp [ints_length] <;> omega))) ?_ | refine q rfl rfl (ix 27 1 rfl rfl rfl (by omega) (by omega) rfl) ?_
                first | refine q rfl rfl (ld rfl rfl rfl) ?_ | refine q rfl rfl (ldS rfl rfl (nf_get hu)) ?_ | refine q rfl rfl (ldS rfl rfl rfl) ?_
                refine q rfl rfl (mv (v := .int _ _) rfl) ?_
                refine q rfl rfl (eqI rfl rfl) ?_
                refine q rfl rfl (mv (v := .bool _) rfl) ?_
                refine TL.known 82 rfl (c := false) (decide_eq_false (e3 u (List.mem_of_getElem? hu))) ?_
                refine qs rfl rfl ?_
                refine qs rfl rfl ?_
                first | refine q rfl rfl (pkT rfl rfl) ?_ | refine q rfl rfl (pkF rfl rfl) ?_
                refine TL.nil (nt ?_)
                refine TC.condF rfl ?_
                refine TC.skip (nb (nt ?_))
                refine TC.region ?_
                refine q rfl rfl (mv (v := .int _ _) rfl) ?_
                first | refine q rfl rfl (addI rfl rfl (by omega) (by omega)) ?_ | refine q rfl rfl (add rfl rfl rfl) ?_
                refine q rfl rfl (asg (v := .int _ _) rfl) ?_
                refine TL.nil (nt ?_)
                exact ⟨rfl, (k + 1), (by omega), (by omega), ⟨rfl, rfl, rfl, rfl, rfl, rfl, rfl, rfl, trivial⟩, (ent_take 0 rfl (ent_take 0 rfl (ent_take 0 rfl (ent_take 0 rfl (ent_nil _)))))⟩
              · refine TC.exit (et (et (eb (nt ?_))))
                refine TC.seq ?_
                refine TC.seq ?_
                refine TC.region ?_
                refine q rfl rfl (mv (v := .int _ _) rfl) ?_
                refine q rfl rfl (eqI rfl rfl) ?_
                refine TL.nil (nt ?_)
                refine TC.condD rfl (fun hc6 => ?_) (fun hc6 => absurd (rfl) hc6)
                refine TC.seq ?_
                refine TC.region ?_
                refine q rfl rfl (mv (v := .slice _ _ _) rfl) ?_
                refine q rfl rfl (mv (v := .int _ _) rfl) ?_
                refine e rfl ?_
                refine bs (cs := [.int _ _]) rfl ?_
                intro b3
                refine e rfl ?_
                refine ap 4 rfl rfl rfl rfl rfl (Nat.le_of_ble_eq_true rfl) rfl rfl (by omega) (by simp only [maxLen]; omega) ?_
                intro ad3 cap3
                refine q rfl rfl (asg (v := .slice _ _ _) rfl) ?_
                refine TL.nil (nt ?_)
                refine TC.region ?_
                refine q rfl rfl (mv (v := .slice _ _ _) rfl) ?_
                refine q rfl rfl (mv (v := .slice _ _ _) rfl) ?_
                refine q rfl rfl (mv (v := .int _ _) rfl) ?_
                first | refine q rfl rfl (ixS 48 6 rfl rfl rfl (by omega) (by first | assumption | (simp [ints_length] <;> omega))) ?_ | refine q rfl rfl (ixJ 48 6 rfl rfl rfl (by omega) (by omega) (by first | assumption | (simp [ints_length] <;> omega))) ?_ | refine q rfl rfl (ix 48 6 rfl rfl rfl (by omega) (by omega) rfl) ?_
                first | refine q rfl rfl (fa 3 rfl rfl) ?_ | refine q rfl rfl (faS 3 rfl rfl (by first | assumption | (simp [ints_length] <;> omega))) ?_
                first | refine q rfl rfl (ldN (vs := ints [_, _, _]) 3 rfl rfl rfl rfl) ?_ | refine q rfl rfl (ldSN (vs := ints [_, _, _]) 3 rfl rfl (flat_ldN hactC_sz ht 3 3 (by omega) (by omega) rfl) rfl (by decide)) ?_ | refine q rfl rfl (ldSN (vs := ints [_, _, _]) 3 rfl rfl rfl rfl (by decide)) ?_
                refine e rfl ?_
                refine bs (cs := ints [_, _, _]) rfl ?_
                intro b4
                refine e rfl ?_
                refine ap 24 rfl rfl rfl rfl rfl (Nat.le_of_ble_eq_true rfl) rfl rfl (by omega) (by simp only [maxLen]; omega) ?_
                intro ad4 cap4
                refine q rfl rfl (asg (v := .slice _ _ _) rfl) ?_
                refine TL.nil (nt ?_)
                refine TC.exit (et (eb (nt ?_)))
                refine TC.region ?_
                refine q rfl rfl (mv (v := .int _ _) rfl) ?_
                first | refine q rfl rfl (addI rfl rfl (by omega) (by omega)) ?_ | refine q rfl rfl (add rfl rfl rfl) ?_
                refine q rfl rfl (asg (v := .int _ _) rfl) ?_
                refine TL.nil (nt ?_)
                exact ⟨rfl, ⟨i + 1, l2, z ++ [(hd, t.o)], (ad3, cap3), (ad4, cap4)⟩, ⟨e2, by dsimp only; omega⟩, (by dsimp only; omega), ⟨rfl, rfl, congrArg (fun n => Value.slice _ n _) (by rw [List.length_append]; rfl), congrArg (fun n => Value.slice _ n _) (by rw [List.length_append]; rfl), rfl, trivial⟩, (ent_take 4 rfl (ent_takeE 2 rfl (by simp [nums, fsts]) (ent_takeE 0 rfl (by simp [objsC, objC, Ob.l, ints]) (ent_take 2 rfl (ent_nil _)))))⟩
          · refine TC.factSlc 1 rfl (fun _ hc1 _ => ?_)
            refine TC.factSlc 2 rfl (fun _ hc2 _ => ?_)
            have hn1 : n < z.length := by omega
            obtain ⟨u, hu⟩ : ∃ u, z[n]? = some u := ⟨z[n], List.getElem?_eq_getElem hn1⟩
            have hpz : 0 < (nums .u32 (fsts z)).length := by omega
            have hpo : 0 < (objsC z).length := by omega
            obtain ⟨m, o, a, d1, d2, d3, d4, d5⟩ := hinv.cut hu (by omega)
            have hrg := hinv.rg u (List.mem_of_getElem? hu)
            haveI : OffI (nums .u32 (fsts z)) y1.2 (n + 1) 1 := ⟨z.length, by omega, by omega, hc1⟩
            haveI : OffI (objsC z) y2.2 (n + 1) 3 := ⟨z.length, by omega, by omega, hc2⟩
            refine TC.skip (nt ?_)
            refine TC.seq ?_
            refine TC.seq ?_
            refine TC.region ?_
            refine q rfl rfl (mv (v := .pointer _) rfl) ?_
            refine q rfl rfl (mv (v := .slice _ _ _) rfl) ?_
            refine q rfl rfl (mv (v := .int _ _) rfl) ?_
            first | refine q rfl rfl (ixS 27 1 rfl rfl rfl (by omega) (by first | assumption | (simp [ints_length] <;> omega))) ?_ | refine q rfl rfl (ixJ 27 1 rfl rfl rfl (by omega) (by omega) (by first | assumption | (simp [ints_length] <;> omega))) ?_ | refine q rfl rfl (ix 27 1 rfl rfl rfl (by omega) (by omega) rfl) ?_
            first | refine q rfl rfl (ld rfl rfl rfl) ?_ | refine q rfl rfl (ldS rfl rfl (nf_get hu)) ?_ | refine q rfl rfl (ldS rfl rfl (flat_ld hactC_sz ht 0 (by omega) rfl)) ?_ | refine q rfl rfl (ldS rfl rfl rfl) ?_
            refine e rfl ?_
            refine cl (kill_ok tb l u.1 hinv.ok hrg) rfl (picked_cons 0 rfl (picked_nil _)) trivial ?_
            intro _ _
            change TL _ _ _ _ _ _ _ _ (sepL [_, _, _, _])
            rw [d1]
            dsimp only
            refine q rfl rfl (neI rfl rfl) ?_
            refine TL.nil (nt ?_)
            refine TC.condD rfl (fun hc7 => absurd hc7 (by decide)) (fun hc7 => ?_)
            refine TC.skip (nt ?_)
            refine TC.seq ?_
            refine TC.seq ?_
            refine TC.region ?_
            refine q rfl rfl (mv (v := .slice _ _ _) rfl) ?_
            refine q rfl rfl (mv (v := .int _ _) rfl) ?_
            first | refine q rfl rfl (ixS 48 6 rfl rfl rfl (by omega) (by first | assumption | (simp [ints_length] <;> omega))) ?_ | refine q rfl rfl (ixJ 48 6 rfl rfl rfl (by omega) (by omega) (by first | assumption | (simp [ints_length] <;> omega))) ?_ | refine q rfl rfl (ix 48 6 rfl rfl rfl (by omega) (by omega) rfl) ?_
            first | refine q rfl rfl (fa 0 rfl rfl) ?_ | refine q rfl rfl (faS 0 rfl rfl (by first | assumption | (simp [ints_length] <;> omega))) ?_
            first | refine q rfl rfl (ld rfl rfl rfl) ?_ | refine q rfl rfl (ldS rfl rfl (nf_get hu)) ?_ | refine q rfl rfl (ldS rfl rfl (flat_ld hactC_sz ht 0 (by omega) rfl)) ?_ | refine q rfl rfl (ldS rfl rfl rfl) ?_
            first | refine q rfl rfl (remI rfl rfl (by omega) (by omega)) ?_ | refine q rfl rfl (rem rfl rfl (by omega) rfl) ?_
            refine q rfl rfl (eqI rfl rfl) ?_
            refine TL.nil (nt ?_)
            first | refine TC.condD rfl (fun hev => ?_) (fun hev => ?_) | refine TC.cond rfl (fun hev => ?_) (fun hev => ?_)
            · refine TC.seq ?_
              refine TC.region ?_
              refine q rfl rfl (mv (v := .pointer _) rfl) ?_
              refine q rfl rfl (mv (v := .slice _ _ _) rfl) ?_
              refine q rfl rfl (mv (v := .int _ _) rfl) ?_
              first | refine q rfl rfl (ixS 27 1 rfl rfl rfl (by omega) (by first | assumption | (simp [ints_length] <;> omega))) ?_ | refine q rfl rfl (ixJ 27 1 rfl rfl rfl (by omega) (by omega) (by first | assumption | (simp [ints_length] <;> omega))) ?_ | refine q rfl rfl (ix 27 1 rfl rfl rfl (by omega) (by omega) rfl) ?_
              first | refine q rfl rfl (ld rfl rfl rfl) ?_ | refine q rfl rfl (ldS rfl rfl (nf_get hu)) ?_ | refine q rfl rfl (ldS rfl rfl rfl) ?_
              refine e rfl ?_
              refine cl (free_ok tb (l.set m ⟨o, 2, a⟩) u.1 d2 hrg) rfl (picked_cons 0 rfl (picked_nil _)) trivial ?_
              intro _ _
              change TL _ _ _ _ _ _ _ _ (sepL [_, _, _, _])
              rw [d4]
              dsimp only
              refine q rfl rfl (mv (v := .tuple _) rfl) ?_
              refine q rfl rfl (pu (v := .agg (List.toArray (ints [_, _, _]))) (fun _ => rfl)) ?_
              refine q rfl rfl (pu (v := .int _ _) (fun _ => rfl)) ?_
              refine e rfl ?_
              refine al (l := ints [_, _, _]) rfl rfl ?_
              intro b5
              refine e0 ?_
              refine st (v := .agg (List.toArray (ints [_, _, _]))) (vs := ints [_, _, _]) 3 rfl rfl rfl rfl rfl rfl (Nat.le_of_ble_eq_true rfl) rfl ?_
              refine q rfl rfl (asg (v := .int _ _) rfl) ?_
              refine TL.nil (nt ?_)
              refine TC.seq ?_
              refine TC.draw _ [] [(0, false), (1, false), (2, false), (3, false), (4, false), (5, false), (6, false), (7, false), (8, false), (9, false)] (by kernel_rfl) (by kernel_rfl) (ent.refl _) ?_
              refine dq rfl rfl rfl (mv (v := .int _ _) rfl) ?_
              refine dq rfl rfl rfl (neI rfl rfl) ?_
              refine dq rfl rfl rfl (mv (v := .bool _) rfl) ?_
              refine TD.known 125 rfl (b' := false) (by decide) ?_
              first | refine dg rfl rfl rfl rfl (ldN (vs := ints [_, _, _]) 3 rfl rfl rfl rfl) ?_ | refine dg rfl rfl rfl rfl (ldSN (vs := ints [_, _, _]) 3 rfl rfl (flat_get_rec objC_sz hu) rfl (by decide)) ?_ | refine dg rfl rfl rfl rfl (ldSN (vs := ints [_, _, _]) 3 rfl rfl rfl rfl (by decide)) ?_
              refine dg rfl rfl rfl rfl (mv (v := .slice _ _ _) rfl) ?_
              refine dg rfl rfl rfl rfl (mv (v := .int _ _) rfl) ?_
              first | refine dg rfl rfl rfl rfl (ixS 32 3 rfl rfl rfl (by omega) (by first | assumption | (simp [ints_length] <;> omega))) ?_ | refine dg rfl rfl rfl rfl (ixJ 32 3 rfl rfl rfl (by omega) (by omega) (by first | assumption | (simp [ints_length] <;> omega))) ?_ | refine dg rfl rfl rfl rfl (ix 32 3 rfl rfl rfl (by omega) (by omega) rfl) ?_
              first | refine dg rfl rfl rfl rfl (ldN (vs := ints [_, _, _]) 3 rfl rfl rfl rfl) ?_ | refine dg rfl rfl rfl rfl (ldSN (vs := ints [_, _, _]) 3 rfl rfl (flat_get_rec objC_sz hu) rfl (by decide)) ?_ | refine dg rfl rfl rfl rfl (ldSN (vs := ints [_, _, _]) 3 rfl rfl rfl rfl (by decide)) ?_
              refine dg rfl rfl rfl rfl (neS 3 (by kernel_rfl) rfl rfl rfl rfl) ?_
              first | refine dq rfl rfl rfl (pkT rfl rfl) ?_ | refine dq rfl rfl rfl (pkF rfl rfl) ?_
              refine TD.nil (nt ?_)
              refine TC.condD rfl (fun hc8 => absurd hc8 (by simp)) (fun hc8 => ?_)
              refine TC.skip (nt ?_)
              refine TC.seq ?_
              refine TC.draw _ [] [(1, false), (2, false), (3, false), (5, false), (6, false), (7, false), (8, false), (0, true), (4, true), (9, true), (10, false)] (by kernel_rfl) (by kernel_rfl) (ent_nil _) ?_
              refine dq rfl rfl rfl (mv (v := .slice _ _ _) rfl) ?_
              refine dq rfl rfl rfl (mv (v := .int _ _) rfl) ?_
              refine dq rfl rfl rfl (slTn 27 1 (n) rfl rfl rfl (by omega) (by omega)) ?_
              refine dq rfl rfl rfl (mv (v := .slice _ _ _) rfl) ?_
              refine dq rfl rfl rfl (mv (v := .int _ _) rfl) ?_
              first | refine dq rfl rfl rfl (addI rfl rfl (by omega) (by omega)) ?_ | refine dq rfl rfl rfl (add rfl rfl rfl) ?_
              refine dq rfl rfl rfl (slFn 27 1 (n + 1) rfl rfl rfl (by omega) (by omega)) ?_
              refine de rfl rfl ?_
              refine bs (cs := []) rfl ?_
              intro b6
              refine ⟨(by repeat (first | exact ent_nil _ | refine ent_take 0 rfl ?_ | refine ent_take 1 rfl ?_ | refine ent_take 2 rfl ?_ | refine ent_take 3 rfl ?_ | refine ent_take 4 rfl ?_ | refine ent_take 5 rfl ?_ | refine ent_take 6 rfl ?_ | refine ent_take 7 rfl ?_)), ?_⟩
              refine de rfl rfl ?_
              refine ap 4 rfl rfl rfl rfl rfl (by omega) (nf_take z n) (nf_one _) (by omega) (by simp only [maxLen]; omega) ?_
              intro ad5 cap5
              refine ⟨(by repeat (first | exact ent_nil _ | refine ent_take 0 rfl ?_ | refine ent_take 1 rfl ?_ | refine ent_take 2 rfl ?_ | refine ent_take 3 rfl ?_ | refine ent_take 4 rfl ?_ | refine ent_take 5 rfl ?_ | refine ent_take 6 rfl ?_ | refine ent_take 7 rfl ?_)), ?_⟩
              refine de rfl rfl ?_
              refine ap 4 rfl rfl rfl rfl rfl (by rw [List.length_drop]; omega) (nf_drop z (n + 1)) (nf_one _) (by omega) (by simp only [maxLen]; omega) ?_
              intro ad6 cap6
              refine ⟨(by repeat (first | exact ent_nil _ | refine ent_take 0 rfl ?_ | refine ent_take 1 rfl ?_ | refine ent_take 2 rfl ?_ | refine ent_take 3 rfl ?_ | refine ent_take 4 rfl ?_ | refine ent_take 5 rfl ?_ | refine ent_take 6 rfl ?_ | refine ent_take 7 rfl ?_)), ?_⟩
              refine dq rfl rfl rfl (asg (v := .slice _ _ _) rfl) ?_
              refine TD.nil (nt ?_)
              refine TC.draw _ [] [(1, false), (2, false), (3, false), (5, false), (6, false), (7, false), (8, false), (0, true), (4, true), (9, true), (10, false)] (by kernel_rfl) (by kernel_rfl) (ent_nil _) ?_
              refine dq rfl rfl rfl (mv (v := .slice _ _ _) rfl) ?_
              refine dq rfl rfl rfl (mv (v := .int _ _) rfl) ?_
              refine dq rfl rfl rfl (slTn 32 3 (n) rfl rfl rfl (by omega) (by omega)) ?_
              refine dq rfl rfl rfl (mv (v := .slice _ _ _) rfl) ?_
              refine dq rfl rfl rfl (mv (v := .int _ _) rfl) ?_
              first | refine dq rfl rfl rfl (addI rfl rfl (by omega) (by omega)) ?_ | refine dq rfl rfl rfl (add rfl rfl rfl) ?_
              refine dq rfl rfl rfl (slFn 32 3 (n + 1) rfl rfl rfl (by omega) (by omega)) ?_
              refine de rfl rfl ?_
              refine bs (cs := []) rfl ?_
              intro b7
              refine ⟨(by repeat (first | exact ent_nil _ | refine ent_take 0 rfl ?_ | refine ent_take 1 rfl ?_ | refine ent_take 2 rfl ?_ | refine ent_take 3 rfl ?_ | refine ent_take 4 rfl ?_ | refine ent_take 5 rfl ?_ | refine ent_take 6 rfl ?_ | refine ent_take 7 rfl ?_)), ?_⟩
              refine de rfl rfl ?_
              refine ap 24 rfl rfl rfl rfl rfl (by omega) (objs_take z n) (objs_one _) (by omega) (by simp only [maxLen]; omega) ?_
              intro ad7 cap7
              refine ⟨(by repeat (first | exact ent_nil _ | refine ent_take 0 rfl ?_ | refine ent_take 1 rfl ?_ | refine ent_take 2 rfl ?_ | refine ent_take 3 rfl ?_ | refine ent_take 4 rfl ?_ | refine ent_take 5 rfl ?_ | refine ent_take 6 rfl ?_ | refine ent_take 7 rfl ?_)), ?_⟩
              refine de rfl rfl ?_
              refine ap 24 rfl rfl rfl rfl rfl (by rw [List.length_drop]; omega) (objs_drop z (n + 1)) (objs_one _) (by omega) (by simp only [maxLen]; omega) ?_
              intro ad8 cap8
              refine ⟨(by repeat (first | exact ent_nil _ | refine ent_take 0 rfl ?_ | refine ent_take 1 rfl ?_ | refine ent_take 2 rfl ?_ | refine ent_take 3 rfl ?_ | refine ent_take 4 rfl ?_ | refine ent_take 5 rfl ?_ | refine ent_take 6 rfl ?_ | refine ent_take 7 rfl ?_)), ?_⟩
              refine dq rfl rfl rfl (asg (v := .slice _ _ _) rfl) ?_
              refine TD.nil (nb (nt ?_))
              refine TC.region ?_
              refine q rfl rfl (mv (v := .int _ _) rfl) ?_
              first | refine q rfl rfl (addI rfl rfl (by omega) (by omega)) ?_ | refine q rfl rfl (add rfl rfl rfl) ?_
              refine q rfl rfl (asg (v := .int _ _) rfl) ?_
              refine TL.nil (nt ?_)
              exact ⟨rfl, ⟨i + 1, (l.set m ⟨zeroOb, 0, a + 1⟩), cutZ z n, (ad6, cap6), (ad8, cap8)⟩, ⟨d5, by dsimp only; omega⟩, (by dsimp only; omega), ⟨rfl, rfl, congrArg (fun n => Value.slice _ n _) (by rw [cutZ_length hn1]; omega), congrArg (fun n => Value.slice _ n _) (by rw [cutZ_length hn1]; omega), rfl, trivial⟩, (ent_take 3 rfl (ent_takeE 1 rfl (by rw [List.nil_append, nf_cut, cutZ_length hn1]; congr 1; omega) (ent_takeE 0 rfl (by rw [List.nil_append, objs_cut, cutZ_length hn1]; congr 1; omega) (ent_take 3 rfl (ent_nil _)))))⟩
            · refine TC.skip (nt ?_)
              refine TC.seq ?_
              refine TC.draw _ [] [(1, false), (2, false), (3, false), (5, false), (6, false), (7, false), (8, false), (0, true), (4, true), (9, true), (10, false)] (by kernel_rfl) (by kernel_rfl) (ent_nil _) ?_
              refine dq rfl rfl rfl (mv (v := .slice _ _ _) rfl) ?_
              refine dq rfl rfl rfl (mv (v := .int _ _) rfl) ?_
              refine dq rfl rfl rfl (slTn 27 1 (n) rfl rfl rfl (by omega) (by omega)) ?_
              refine dq rfl rfl rfl (mv (v := .slice _ _ _) rfl) ?_
              refine dq rfl rfl rfl (mv (v := .int _ _) rfl) ?_
              first | refine dq rfl rfl rfl (addI rfl rfl (by omega) (by omega)) ?_ | refine dq rfl rfl rfl (add rfl rfl rfl) ?_
              refine dq rfl rfl rfl (slFn 27 1 (n + 1) rfl rfl rfl (by omega) (by omega)) ?_
              refine de rfl rfl ?_
              refine bs (cs := []) rfl ?_
              intro b8
              refine ⟨(by repeat (first | exact ent_nil _ | refine ent_take 0 rfl ?_ | refine ent_take 1 rfl ?_ | refine ent_take 2 rfl ?_ | refine ent_take 3 rfl ?_ | refine ent_take 4 rfl ?_ | refine ent_take 5 rfl ?_ | refine ent_take 6 rfl ?_ | refine ent_take 7 rfl ?_)), ?_⟩
              refine de rfl rfl ?_
              refine ap 4 rfl rfl rfl rfl rfl (by omega) (nf_take z n) (nf_one _) (by omega) (by simp only [maxLen]; omega) ?_
              intro ad9 cap9
              refine ⟨(by repeat (first | exact ent_nil _ | refine ent_take 0 rfl ?_ | refine ent_take 1 rfl ?_ | refine ent_take 2 rfl ?_ | refine ent_take 3 rfl ?_ | refine ent_take 4 rfl ?_ | refine ent_take 5 rfl ?_ | refine ent_take 6 rfl ?_ | refine ent_take 7 rfl ?_)), ?_⟩
              refine de rfl rfl ?_
              refine ap 4 rfl rfl rfl rfl rfl (by rw [List.length_drop]; omega) (nf_drop z (n + 1)) (nf_one _) (by omega) (by simp only [maxLen]; omega) ?_
              intro ad10 cap10
              refine ⟨(by repeat (first | exact ent_nil _ | refine ent_take 0 rfl ?_ | refine ent_take 1 rfl ?_ | refine ent_take 2 rfl ?_ | refine ent_take 3 rfl ?_ | refine ent_take 4 rfl ?_ | refine ent_take 5 rfl ?_ | refine ent_take 6 rfl ?_ | refine ent_take 7 rfl ?_)), ?_⟩
              refine dq rfl rfl rfl (asg (v := .slice _ _ _) rfl) ?_
              refine TD.nil (nt ?_)
              refine TC.draw _ [] [(1, false), (2, false), (3, false), (5, false), (6, false), (7, false), (8, false), (0, true), (4, true), (9, true), (10, false)] (by kernel_rfl) (by kernel_rfl) (ent_nil _) ?_
              refine dq rfl rfl rfl (mv (v := .slice _ _ _) rfl) ?_
              refine dq rfl rfl rfl (mv (v := .int _ _) rfl) ?_
              refine dq rfl rfl rfl (slTn 32 3 (n) rfl rfl rfl (by omega) (by omega)) ?_
              refine dq rfl rfl rfl (mv (v := .slice _ _ _) rfl) ?_
              refine dq rfl rfl rfl (mv (v := .int _ _) rfl) ?_
              first | refine dq rfl rfl rfl (addI rfl rfl (by omega) (by omega)) ?_ | refine dq rfl rfl rfl (add rfl rfl rfl) ?_
              refine dq rfl rfl rfl (slFn 32 3 (n + 1) rfl rfl rfl (by omega) (by omega)) ?_
              refine de rfl rfl ?_
              refine bs (cs := []) rfl ?_
              intro b9
              refine ⟨(by repeat (first | exact ent_nil _ | refine ent_take 0 rfl ?_ | refine ent_take 1 rfl ?_ | refine ent_take 2 rfl ?_ | refine ent_take 3 rfl ?_ | refine ent_take 4 rfl ?_ | refine ent_take 5 rfl ?_ | refine ent_take 6 rfl ?_ | refine ent_take 7 rfl ?_)), ?_⟩
              refine de rfl rfl ?_
              refine ap 24 rfl rfl rfl rfl rfl (by omega) (objs_take z n) (objs_one _) (by omega) (by simp only [maxLen]; omega) ?_
              intro ad11 cap11
              refine ⟨(by repeat (first | exact ent_nil _ | refine ent_take 0 rfl ?_ | refine ent_take 1 rfl ?_ | refine ent_take 2 rfl ?_ | refine ent_take 3 rfl ?_ | refine ent_take 4 rfl ?_ | refine ent_take 5 rfl ?_ | refine ent_take 6 rfl ?_ | refine ent_take 7 rfl ?_)), ?_⟩
              refine de rfl rfl ?_
              refine ap 24 rfl rfl rfl rfl rfl (by rw [List.length_drop]; omega) (objs_drop z (n + 1)) (objs_one _) (by omega) (by simp only [maxLen]; omega) ?_
              intro ad12 cap12
              refine ⟨(by repeat (first | exact ent_nil _ | refine ent_take 0 rfl ?_ | refine ent_take 1 rfl ?_ | refine ent_take 2 rfl ?_ | refine ent_take 3 rfl ?_ | refine ent_take 4 rfl ?_ | refine ent_take 5 rfl ?_ | refine ent_take 6 rfl ?_ | refine ent_take 7 rfl ?_)), ?_⟩
              refine dq rfl rfl rfl (asg (v := .slice _ _ _) rfl) ?_
              refine TD.nil (nb (nt ?_))
              refine TC.region ?_
              refine q rfl rfl (mv (v := .int _ _) rfl) ?_
              first | refine q rfl rfl (addI rfl rfl (by omega) (by omega)) ?_ | refine q rfl rfl (add rfl rfl rfl) ?_
              refine q rfl rfl (asg (v := .int _ _) rfl) ?_
              refine TL.nil (nt ?_)
              exact ⟨rfl, ⟨i + 1, (l.set m ⟨o, 2, a⟩), cutZ z n, (ad10, cap10), (ad12, cap12)⟩, ⟨d3, by dsimp only; omega⟩, (by dsimp only; omega), ⟨rfl, rfl, congrArg (fun n => Value.slice _ n _) (by rw [cutZ_length hn1]; omega), congrArg (fun n => Value.slice _ n _) (by rw [cutZ_length hn1]; omega), rfl, trivial⟩, (ent_take 2 rfl (ent_takeE 1 rfl (by rw [List.nil_append, nf_cut, cutZ_length hn1]; congr 1; omega) (ent_takeE 0 rfl (by rw [List.nil_append, objs_cut, cutZ_length hn1]; congr 1; omega) (ent_take 2 rfl (ent_nil _)))))⟩
    · obtain ⟨s1, s2⟩ := hinv.sum
      have hnl := nf_length z
      have hol := objsC_length z
      have hle := hinv.le
      refine TC.exit (et (et (eb (nt ?_))))
      refine TC.seq ?_
      refine TC.seq ?_
      refine TC.region ?_
      refine q rfl rfl (asg (v := .int _ _) rfl) ?_
      refine TL.nil (nt ?_)
      refine TC.block ?_
      refine TC.loop (ι := Nat) (fun k => k ≤ z.length) (fun k => [(3, .pointer (some ⟨tb, 0, none⟩)), (4, .slice y1.1 z.length y1.2), (5, .slice y2.1 z.length y2.2), (13, .int .i64 (k : Int))]) (fun k => sepL [slc 63 5 (some ⟨tb, 0, none⟩) 256 256 (tabC l), slc 27 1 y1.1 z.length y1.2 (nums .u32 (fsts z)), slc 32 3 y2.1 z.length y2.2 (objsC z), F]) (fun k => z.length - k) 0 (Nat.zero_le _) ⟨rfl, rfl, rfl, rfl, trivial⟩ (ent_take 0 rfl (ent_take 0 rfl (ent_take 0 rfl (ent_take 0 rfl (ent_nil _))))) ?_
      rintro k hk ρ2
      dsimp only [updL] at hk ⊢
      refine TC.seq ?_
      refine TC.seq ?_
      refine TC.region ?_
      refine q rfl rfl (mv (v := .int _ _) rfl) ?_
      refine q rfl rfl (mv (v := .slice _ _ _) rfl) ?_
      refine q rfl rfl (len 27 1 rfl rfl) ?_
      refine q rfl rfl (lss rfl rfl) ?_
      refine TL.nil (nt ?_)
      first | refine TC.condD rfl (fun hkl => ?_) (fun hkl => ?_) | refine TC.cond rfl (fun hkl => ?_) (fun hkl => ?_)
      · have hkl2 : k < z.length := by omega
        obtain ⟨u, hu⟩ : ∃ u, z[k]? = some u := ⟨z[k], List.getElem?_eq_getElem hkl2⟩
        have hpz : 0 < (nums .u32 (fsts z)).length := by omega
        have hpo : 0 < (objsC z).length := by omega
        have hum := List.mem_of_getElem? hu
        obtain ⟨g1, g2⟩ := hinv.get hum
        have hrg := hinv.rg u hum
        refine TC.skip (nt ?_)
        refine TC.seq ?_
        refine TC.block ?_
        refine TC.seq ?_
        refine TC.region ?_
        refine q rfl rfl (mv (v := .pointer _) rfl) ?_
        refine q rfl rfl (mv (v := .slice _ _ _) rfl) ?_
        refine q rfl rfl (mv (v := .int _ _) rfl) ?_
        first | refine q rfl rfl (ixS 27 1 rfl rfl rfl (by omega) (by first | assumption | (simp [ints_length] <;> omega))) ?_ | refine q rfl rfl (ixJ 27 1 rfl rfl rfl (by omega) (by omega) (by first | assumption | (simp [ints_length] <;> omega))) ?_ | refine q rfl rfl (ix 27 1 rfl rfl rfl (by omega) (by omega) rfl) ?_
        first | refine q rfl rfl (ld rfl rfl rfl) ?_ | refine q rfl rfl (ldS rfl rfl (nf_get hu)) ?_ | refine q rfl rfl (ldS rfl rfl (flat_get_rec objC_sz hu)) ?_ | refine q rfl rfl (ldS rfl rfl rfl) ?_
        refine e rfl ?_
        refine cl (get_ok tb l u.1 hinv.ok hrg) rfl (picked_nil _) ⟨_, RdSI.rd⟩ ?_
        intro _ _
        change TL _ _ _ _ _ _ _ _ (sepL [_, _, _, _])
        rw [g1]
        dsimp only
        refine q rfl rfl (mv (v := .tuple _) rfl) ?_
        refine q rfl rfl (pu (v := .agg (List.toArray (ints [_, _, _]))) (fun _ => rfl)) ?_
        refine q rfl rfl (pu (v := .int _ _) (fun _ => rfl)) ?_
        refine e rfl ?_
        refine al (l := ints [_, _, _]) rfl rfl ?_
        intro b10
        refine e0 ?_
        refine st (v := .agg (List.toArray (ints [_, _, _]))) (vs := ints [_, _, _]) 3 rfl rfl rfl rfl rfl rfl (Nat.le_of_ble_eq_true rfl) rfl ?_
        refine q rfl rfl (asg (v := .int _ _) rfl) ?_
        refine TL.nil (nt ?_)
        refine TC.seq ?_
        refine TC.region ?_
        refine q rfl rfl (mv (v := .pointer _) rfl) ?_
        refine q rfl rfl (mv (v := .slice _ _ _) rfl) ?_
        refine q rfl rfl (mv (v := .int _ _) rfl) ?_
        first | refine q rfl rfl (ixS 27 1 rfl rfl rfl (by omega) (by first | assumption | (simp [ints_length] <;> omega))) ?_ | refine q rfl rfl (ixJ 27 1 rfl rfl rfl (by omega) (by omega) (by first | assumption | (simp [ints_length] <;> omega))) ?_ | refine q rfl rfl (ix 27 1 rfl rfl rfl (by omega) (by omega) rfl) ?_
        first | refine q rfl rfl (ld rfl rfl rfl) ?_ | refine q rfl rfl (ldS rfl rfl (nf_get hu)) ?_ | refine q rfl rfl (ldS rfl rfl (flat_get_rec objC_sz hu)) ?_ | refine q rfl rfl (ldS rfl rfl rfl) ?_
        refine e rfl ?_
        refine cl (peek_ok tb l u.1 hinv.ok hrg) rfl (picked_nil _) ⟨_, RdSI.rd⟩ ?_
        intro _ _
        change TL _ _ _ _ _ _ _ _ (sepL [_, _, _, _, _])
        rw [g2]
        dsimp only
        refine q rfl rfl (mv (v := .tuple _) rfl) ?_
        refine q rfl rfl (pu (v := .agg (List.toArray (ints [_, _, _]))) (fun _ => rfl)) ?_
        refine q rfl rfl (pu (v := .int _ _) (fun _ => rfl)) ?_
        refine e rfl ?_
        refine al (l := ints [_, _, _]) rfl rfl ?_
        intro b11
        refine e0 ?_
        refine st (v := .agg (List.toArray (ints [_, _, _]))) (vs := ints [_, _, _]) 3 rfl rfl rfl rfl rfl rfl (Nat.le_of_ble_eq_true rfl) rfl ?_
        refine q rfl rfl (asg (v := .int _ _) rfl) ?_
        refine TL.nil (nt ?_)
        refine TC.seq ?_
        refine TC.draw _ [] [(0, false), (1, false), (2, false), (3, false), (4, false), (5, false), (6, false), (7, false), (8, false), (9, false), (10, false), (11, false), (12, false), (13, false), (14, false), (15, false), (16, false), (17, false), (18, false)] (by kernel_rfl) (by kernel_rfl) (ent.refl _) ?_
        refine dq rfl rfl rfl (mv (v := .int _ _) rfl) ?_
        refine dq rfl rfl rfl (neI rfl rfl) ?_
        refine dq rfl rfl rfl (mv (v := .bool _) rfl) ?_
        refine TD.known 179 rfl (b' := false) (by decide) ?_
        refine dg rfl rfl rfl rfl (mv (v := .int _ _) rfl) ?_
        refine dg rfl rfl rfl rfl (neI rfl rfl) ?_
        first | refine dq rfl rfl rfl (pkT rfl rfl) ?_ | refine dq rfl rfl rfl (pkF rfl rfl) ?_
        refine dq rfl rfl rfl (mv (v := .bool _) rfl) ?_
        refine TD.known 183 rfl (b' := false) (by decide) ?_
        first | refine dg rfl rfl rfl rfl (ldN (vs := ints [_, _, _]) 3 rfl rfl rfl rfl) ?_ | refine dg rfl rfl rfl rfl (ldSN (vs := ints [_, _, _]) 3 rfl rfl (nf_get hu) rfl (by decide)) ?_ | refine dg rfl rfl rfl rfl (ldSN (vs := ints [_, _, _]) 3 rfl rfl (flat_get_rec objC_sz hu) rfl (by decide)) ?_ | refine dg rfl rfl rfl rfl (ldSN (vs := ints [_, _, _]) 3 rfl rfl rfl rfl (by decide)) ?_
        refine dg rfl rfl rfl rfl (mv (v := .slice _ _ _) rfl) ?_
        refine dg rfl rfl rfl rfl (mv (v := .int _ _) rfl) ?_
        first | refine dg rfl rfl rfl rfl (ixS 32 3 rfl rfl rfl (by omega) (by first | assumption | (simp [ints_length] <;> omega))) ?_ | refine dg rfl rfl rfl rfl (ixJ 32 3 rfl rfl rfl (by omega) (by omega) (by first | assumption | (simp [ints_length] <;> omega))) ?_ | refine dg rfl rfl rfl rfl (ix 32 3 rfl rfl rfl (by omega) (by omega) rfl) ?_
        first | refine dg rfl rfl rfl rfl (ldN (vs := ints [_, _, _]) 3 rfl rfl rfl rfl) ?_ | refine dg rfl rfl rfl rfl (ldSN (vs := ints [_, _, _]) 3 rfl rfl (nf_get hu) rfl (by decide)) ?_ | refine dg rfl rfl rfl rfl (ldSN (vs := ints [_, _, _]) 3 rfl rfl (flat_get_rec objC_sz hu) rfl (by decide)) ?_ | refine dg rfl rfl rfl rfl (ldSN (vs := ints [_, _, _]) 3 rfl rfl rfl rfl (by decide)) ?_
        refine dg rfl rfl rfl rfl (neS 3 (by kernel_rfl) rfl rfl rfl rfl) ?_
        first | refine dq rfl rfl rfl (pkT rfl rfl) ?_ | refine dq rfl rfl rfl (pkF rfl rfl) ?_
        refine dq rfl rfl rfl (mv (v := .bool _) rfl) ?_
        refine TD.known 191 rfl (b' := false) (by simp) ?_
        first | refine dg rfl rfl rfl rfl (ldN (vs := ints [_, _, _]) 3 rfl rfl rfl rfl) ?_ | refine dg rfl rfl rfl rfl (ldSN (vs := ints [_, _, _]) 3 rfl rfl (nf_get hu) rfl (by decide)) ?_ | refine dg rfl rfl rfl rfl (ldSN (vs := ints [_, _, _]) 3 rfl rfl (flat_get_rec objC_sz hu) rfl (by decide)) ?_ | refine dg rfl rfl rfl rfl (ldSN (vs := ints [_, _, _]) 3 rfl rfl rfl rfl (by decide)) ?_
        first | refine dg rfl rfl rfl rfl (ldN (vs := ints [_, _, _]) 3 rfl rfl rfl rfl) ?_ | refine dg rfl rfl rfl rfl (ldSN (vs := ints [_, _, _]) 3 rfl rfl (nf_get hu) rfl (by decide)) ?_ | refine dg rfl rfl rfl rfl (ldSN (vs := ints [_, _, _]) 3 rfl rfl (flat_get_rec objC_sz hu) rfl (by decide)) ?_ | refine dg rfl rfl rfl rfl (ldSN (vs := ints [_, _, _]) 3 rfl rfl rfl rfl (by decide)) ?_
        refine dg rfl rfl rfl rfl (neS 3 (by kernel_rfl) rfl rfl rfl rfl) ?_
        first | refine dq rfl rfl rfl (pkT rfl rfl) ?_ | refine dq rfl rfl rfl (pkF rfl rfl) ?_
        refine TD.nil (nt ?_)
        refine TC.condD rfl (fun hc9 => absurd hc9 (by simp)) (fun hc9 => ?_)
        refine TC.skip (nb (nt ?_))
        refine TC.region ?_
        refine q rfl rfl (mv (v := .int _ _) rfl) ?_
        first | refine q rfl rfl (addI rfl rfl (by omega) (by omega)) ?_ | refine q rfl rfl (add rfl rfl rfl) ?_
        refine q rfl rfl (asg (v := .int _ _) rfl) ?_
        refine TL.nil (nt ?_)
        exact ⟨rfl, (k + 1), (by omega), (by omega), ⟨rfl, rfl, rfl, rfl, trivial⟩, (ent_take 2 rfl (ent_take 2 rfl (ent_take 2 rfl (ent_take 2 rfl (ent_nil _)))))⟩
      · refine TC.exit (et (et (eb (nt ?_))))
        refine TC.seq ?_
        refine TC.region ?_
        refine q rfl rfl (mv (v := .pointer _) rfl) ?_
        refine e rfl ?_
        refine cl (live_ok tb l hinv.ok) rfl (picked_nil _) ⟨_, RdSI.rd⟩ ?_
        intro w1 _
        change TL _ _ _ _ _ _ _ _ (sepL [_, _, _, _, _])
        refine q rfl rfl (len 27 1 rfl rfl) ?_
        refine q rfl rfl (mv (v := .slice _ _ _) rfl) ?_
        refine q rfl rfl (len 27 1 rfl rfl) ?_
        refine q rfl rfl (eqI rfl rfl) ?_
        refine q rfl rfl (mv (v := .bool _) rfl) ?_
        refine TL.known 202 rfl (c := true) (decide_eq_true (by omega)) ?_
        refine qg rfl rfl rfl (mv (v := .pointer _) rfl) ?_
        refine eg rfl rfl ?_
        refine cl (room_ok tb l hinv.ok) rfl (picked_nil _) ⟨_, RdSI.rd⟩ ?_
        intro _ _
        change TL _ _ _ _ _ _ _ _ (sepL [_, _, _, _, _])
        refine qg rfl rfl rfl (mv (v := .pointer _) rfl) ?_
        refine eg rfl rfl ?_
        refine cl (live_ok tb l hinv.ok) rfl (picked_nil _) ⟨_, RdSI.rd⟩ ?_
        intro w2 _
        change TL _ _ _ _ _ _ _ _ (sepL [_, _, _, _, _, _])
        refine qg rfl rfl rfl (len 27 1 rfl rfl) ?_
        first | refine qg rfl rfl rfl (addI rfl rfl (by omega) (by omega)) ?_ | refine qg rfl rfl rfl (add rfl rfl rfl) ?_
        refine qg rfl rfl rfl (mv (v := .pointer _) rfl) ?_
        refine eg rfl rfl ?_
        refine cl (zombies_ok tb l hinv.ok) rfl (picked_nil _) ⟨_, RdSI.rd⟩ ?_
        intro w3 _
        change TL _ _ _ _ _ _ _ _ (sepL [_, _, _, _, _, _, _])
        refine qg rfl rfl rfl (len 27 1 rfl rfl) ?_
        first | refine qg rfl rfl rfl (addI rfl rfl (by omega) (by omega)) ?_ | refine qg rfl rfl rfl (add rfl rfl rfl) ?_
        refine qg rfl rfl rfl (eqI rfl rfl) ?_
        first | refine q rfl rfl (pkT rfl rfl) ?_ | refine q rfl rfl (pkF rfl rfl) ?_
        refine q rfl rfl (asg (v := .bool _) rfl) ?_
        refine TL.nil (nt ?_)
        refine TC.ret ?_
        exact Ret.i () [_] ⟨rfl, trivial⟩ (congrArg Value.bool (decide_eq_true (by omega))) trivial (ent_take 6 rfl (ent_nil _))

end Go.Proofs.Ytjnjijgplmmaiaa
