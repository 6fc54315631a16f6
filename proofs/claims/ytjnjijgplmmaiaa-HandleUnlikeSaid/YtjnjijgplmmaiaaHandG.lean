/-
  Proved here: what functions of this program compute, each as a contract over symbolic states, under the premises that each theorem names (most lines printed by a program of the prover).
-/
import Derived.Test.YtjnjijgplmmaiaaHandF
namespace Go.Proofs.Ytjnjijgplmmaiaa
open Go Go.QM
structure W1 (o : Ob) (pl : Nat) (l : List Pl) (i : Nat) : Prop where
  ok : OkT l
  a : ∀ j, j < 256 → ∃ p, l[j]? = some p ∧ p.age = (if j = pl then 1048575 else 0) ∧ (j < i → p.st = 1 ∧ p.o = o) ∧ (i ≤ j → p.st = 0)
theorem W1.start (o : Ob) {pl : Nat} (h : pl < 256) : ageR (List.replicate 256 zeroPl) pl 1048575 = ((List.replicate 256 zeroPl).set pl ⟨zeroOb, 0, 1048575⟩, true) ∧ W1 o pl ((List.replicate 256 zeroPl).set pl ⟨zeroOb, 0, 1048575⟩) 0 := by
  have h0 : ∀ j, j < 256 → (List.replicate 256 zeroPl)[j]? = some zeroPl := fun j hj => by rw [List.getElem?_replicate, if_pos hj]
  constructor
  · rw [ageR, if_pos (by omega), Int.toNat_natCast, h0 pl h]
    rfl
  · refine ⟨ok_new.set pl ⟨(by decide : (0 : Int) ≤ 1048575), Int.le_refl _⟩, fun j hj => ?_⟩
    by_cases e : pl = j
    · subst e; exact ⟨_, set_at (h0 _ hj), by simp, by intro h; omega, fun _ => rfl⟩
    · rw [set_ne e]; exact ⟨_, h0 j hj, by rw [if_neg (fun h => e h.symm)]; rfl, by intro h; omega, fun _ => rfl⟩
theorem W1.put {o : Ob} {pl : Nat} {l : List Pl} {i : Nat} (h : W1 o pl l i) (hi : i < 256) : (putR l o).2.2 = 0 ∧ W1 o pl (putR l o).1 (i + 1) := by
  obtain ⟨p, h1, h2, _, h4⟩ := h.a i hi
  have hf : l.findIdx? isEmpty = some i := findIdx_at h1 (by simp [isEmpty, h4 (Nat.le_refl _)]) (fun j t hj ht => by
    obtain ⟨q, k1, _, k3, _⟩ := h.a j (by omega)
    rw [ht] at k1; cases k1
    simp [isEmpty, (k3 hj).1])
  have e : putR l o = (l.set i ⟨o, 1, p.age⟩, p.age * 256 + i, 0) := by rw [putR, hf]; simp only; rw [h1]
  rw [e]
  refine ⟨rfl, h.ok.set i (h.ok.age p (List.mem_of_getElem? h1)), fun j hj => ?_⟩
  by_cases e : i = j
  · subst e; exact ⟨_, set_at h1, h2, fun _ => ⟨rfl, rfl⟩, by intro h; omega⟩
  · obtain ⟨q, k1, k2, k3, k4⟩ := h.a j hj
    rw [set_ne e]; exact ⟨q, k1, k2, fun h => k3 (by omega), fun h => k4 (by omega)⟩
theorem allL_count (l : List Pl) (s : Int) : (allL l s).length = l.countP fun p => decide (p.st = s) := by
  rw [allL, allT, List.length_map, ← List.countP_eq_length_filter]
  conv => rhs; rw [← List.zipIdx_map_fst 0 l, List.countP_map]
  rfl
theorem W1.done {o : Ob} {pl : Nat} {l : List Pl} (h : W1 o pl l 256) (hp : pl < 256) :
    killR l (268435200 + (pl : Int)) = (l.set pl ⟨o, 2, 1048575⟩, 0) ∧ OkT (l.set pl ⟨o, 2, 1048575⟩) ∧ freeR (l.set pl ⟨o, 2, 1048575⟩) (268435200 + (pl : Int)) = (l.set pl ⟨zeroOb, 3, 1048575⟩, o, 0) ∧ OkT (l.set pl ⟨zeroOb, 3, 1048575⟩) ∧
    putR (l.set pl ⟨zeroOb, 3, 1048575⟩) o = (l.set pl ⟨zeroOb, 3, 1048575⟩, 0, 11) ∧ (allL (l.set pl ⟨zeroOb, 3, 1048575⟩) 1).length = 255 ∧ ageR (l.set pl ⟨zeroOb, 3, 1048575⟩) pl 0 = (l.set pl ⟨zeroOb, 3, 1048575⟩, false) := by
  obtain ⟨p, h1, h2, h3, _⟩ := h.a pl hp
  rw [if_pos rfl] at h2
  obtain ⟨h3, h5⟩ := h3 hp
  have hl1 : lookL l (268435200 + (pl : Int)) 1 = some (pl, p) := by
    have := lookL_at (h := 268435200 + (pl : Int)) h1 hp (by rw [h2]; omega)
    rw [h3] at this; exact this
  have hs2 := set_at (q := ⟨o, 2, 1048575⟩) h1
  have hs3 := set_at (q := ⟨zeroOb, 3, 1048575⟩) h1
  have hl2 : lookL (l.set pl ⟨o, 2, 1048575⟩) (268435200 + (pl : Int)) 2 = some (pl, ⟨o, 2, 1048575⟩) := lookL_at (h := 268435200 + (pl : Int)) hs2 hp (by dsimp only; omega)
  have hk1 : OkT (l.set pl ⟨o, 2, 1048575⟩) := h.ok.set pl ⟨(by decide : (0 : Int) ≤ 1048575), Int.le_refl _⟩
  have hk2 : OkT (l.set pl ⟨zeroOb, 3, 1048575⟩) := h.ok.set pl ⟨(by decide : (0 : Int) ≤ 1048575), Int.le_refl _⟩
  refine ⟨by rw [killR, hl1]; simp only [h2, h5], hk1, ?_, hk2, ?_, ?_, ?_⟩
  · rw [freeR, hl2]
    simp only [List.set_set]
    rfl
  · have hf : (l.set pl ⟨zeroOb, 3, 1048575⟩).findIdx? isEmpty = none := findIdx_no fun j t hj ht => by
      by_cases e : pl = j
      · subst e; rw [hs3] at ht; cases ht; rfl
      · rw [set_ne e] at ht
        have hj2 : j < 256 := by rw [List.length_set, h.ok.n] at hj; exact hj
        obtain ⟨q, k1, _, k3, _⟩ := h.a j hj2
        rw [ht] at k1; cases k1
        simp [isEmpty, (k3 hj2).1]
    rw [putR, hf]
  · rw [allL_count, List.set_eq_take_append_cons_drop, if_pos (by rw [h.ok.n]; exact hp), List.countP_append, List.countP_cons]
    have hall : ∀ q ∈ l, decide (q.st = 1) = true := fun q hq => by
      obtain ⟨j, hj⟩ := List.getElem?_of_mem hq
      have hj2 : j < 256 := by rw [← h.ok.n]; exact (List.getElem?_eq_some_iff.1 hj).1
      obtain ⟨r, k1, _, k3, _⟩ := h.a j hj2
      rw [hj] at k1; cases k1
      simpa using (k3 hj2).1
    rw [List.countP_eq_length.2 (fun q hq => hall q (List.mem_of_mem_take hq)), List.countP_eq_length.2 (fun q hq => hall q (List.mem_of_mem_drop hq)), List.length_take, List.length_drop, h.ok.n]
    simp only [show decide ((3 : Int) = 1) = false from rfl]
    simp
    omega
  · rw [ageR, if_pos (by omega), Int.toNat_natCast, hs3]
    rfl

theorem worn_ok (pl : Nat) (o : Ob) (hpl : pl < 256) : FSpec Try.prog 4 [.int .u8 (pl : Int), .agg (ints o.l).toArray] noRd [] (fun _ : Unit => .bool true) (fun _ => True) (fun _ => []) := by
  refine FSpec.intro (rs := [.tmp 4]) (by kernel_rfl) Try.func4 rfl Try.ntmps4 (by rfl) rfl ?_
  intro F _
  change TC _ _ _ _ _ _ _ (sepL [_])
  obtain ⟨hage, hinv0⟩ := W1.start o hpl
  refine TC.seq ?_
  refine TC.region ?_
  refine e rfl ?_
  refine bx (v := .agg (List.toArray (ints [_, _, _]))) (l := ints [_, _, _]) rfl rfl ?_
  intro b1
  refine q rfl rfl (asg (v := .bool _) rfl) ?_
  refine TL.nil (nt ?_)
  refine TC.seq ?_
  refine TC.seq ?_
  refine TC.region ?_
  refine e rfl ?_
  refine cl alive_ok rfl (picked_nil _) trivial ?_
  intro _ _
  change TL _ _ _ _ _ _ _ _ (sepL [_, _])
  first | refine q rfl rfl (notD rfl) ?_ | refine q rfl rfl (notB rfl) ?_
  refine TL.nil (nt ?_)
  refine TC.condF rfl ?_
  refine TC.skip (nt ?_)
  refine TC.seq ?_
  refine TC.region ?_
  refine e rfl ?_
  refine cl new_ok rfl (picked_nil _) trivial ?_
  intro tb _
  change TL _ _ _ _ _ _ _ _ (sepL [_, _, _])
  refine q rfl rfl (asg (v := .pointer _) rfl) ?_
  refine TL.nil (nt ?_)
  refine TC.seq ?_
  refine TC.seq ?_
  refine TC.region ?_
  refine q rfl rfl (mv (v := .pointer _) rfl) ?_
  refine q rfl rfl (mv (v := .int _ _) rfl) ?_
  first | refine q rfl rfl (conv .u8 .i64 rfl rfl rfl (wi64 (by omega) (by omega))) ?_ | refine q rfl rfl (conv .u8 .i64 rfl rfl rfl rfl) ?_
  refine e rfl ?_
  refine cl (age_ok tb _ (pl : Int) 1048575 ok_new) rfl (picked_cons 0 rfl (picked_nil _)) trivial ?_
  intro _ _
  change TL _ _ _ _ _ _ _ _ (sepL [_, _, _])
  rw [hage]
  dsimp only
  first | refine q rfl rfl (notD rfl) ?_ | refine q rfl rfl (notB rfl) ?_
  refine TL.nil (nt ?_)
  refine TC.condF rfl ?_
  refine TC.skip (nt ?_)
  refine TC.seq ?_
  refine TC.seq ?_
  refine TC.region ?_
  refine q rfl rfl (asg (v := .int _ _) rfl) ?_
  refine TL.nil (nt ?_)
  refine TC.block ?_
  refine TC.loop (ι := Nat × List Pl) (fun s => W1 o pl s.2 s.1 ∧ s.1 ≤ 256) (fun s => [(0, .int .u8 (pl : Int)), (3, .pointer (some ⟨b1, 0, none⟩)), (5, .pointer (some ⟨tb, 0, none⟩)), (6, .int .i64 ((s.1 : Nat) : Int))]) (fun s => sepL [slc 63 5 (some ⟨tb, 0, none⟩) 256 256 (tabC s.2), pts b1 32 (ints o.l), F]) (fun s => 256 - s.1) ⟨0, _⟩ ⟨hinv0, Nat.zero_le _⟩ ⟨rfl, rfl, rfl, rfl, trivial⟩ (ent_take 0 rfl (ent_take 0 rfl (ent_take 0 rfl (ent_nil _)))) ?_
  rintro ⟨i, l⟩ ⟨hinv, hi⟩ ρ0
  dsimp only [updL] at hinv hi ⊢
  refine TC.seq ?_
  refine TC.seq ?_
  refine TC.region ?_
  refine q rfl rfl (mv (v := .int _ _) rfl) ?_
  refine q rfl rfl (lss rfl rfl) ?_
  refine TL.nil (nt ?_)
  first | refine TC.condD rfl (fun hlt => ?_) (fun hlt => ?_) | refine TC.cond rfl (fun hlt => ?_) (fun hlt => ?_)
  · obtain ⟨hp0, hinv1⟩ := hinv.put (by omega)
    refine TC.skip (nt ?_)
    refine TC.seq ?_
    refine TC.block ?_
    refine TC.seq ?_
    refine TC.region ?_
    refine q rfl rfl (mv (v := .pointer _) rfl) ?_
    first | refine q rfl rfl (ldN (vs := ints [_, _, _]) 3 rfl rfl rfl rfl) ?_ | refine q rfl rfl (ldSN (vs := ints [_, _, _]) 3 rfl rfl rfl rfl (by decide)) ?_
    refine e rfl ?_
    refine cl (put_ok tb l o hinv.ok) rfl (picked_cons 0 rfl (picked_nil _)) trivial ?_
    intro _ _
    change TL _ _ _ _ _ _ _ _ (sepL [_, _, _])
    rw [hp0]
    refine q rfl rfl (mv (v := .tuple _) rfl) ?_
    refine q rfl rfl (pu (v := .int _ _) (fun _ => rfl)) ?_
    refine q rfl rfl (pu (v := .int _ _) (fun _ => rfl)) ?_
    refine q rfl rfl (asg (v := .int _ _) rfl) ?_
    refine q rfl rfl (asg (v := .int _ _) rfl) ?_
    refine TL.nil (nt ?_)
    refine TC.seq ?_
    refine TC.region ?_
    refine q rfl rfl (mv (v := .int _ _) rfl) ?_
    refine q rfl rfl (neI rfl rfl) ?_
    refine TL.nil (nt ?_)
    refine TC.condD rfl (fun hc1 => absurd hc1 (by decide)) (fun hc1 => ?_)
    refine TC.skip (nb (nt ?_))
    refine TC.region ?_
    refine q rfl rfl (mv (v := .int _ _) rfl) ?_
    first | refine q rfl rfl (addI rfl rfl (by omega) (by omega)) ?_ | refine q rfl rfl (add rfl rfl rfl) ?_
    refine q rfl rfl (asg (v := .int _ _) rfl) ?_
    refine TL.nil (nt ?_)
    exact ⟨rfl, ⟨i + 1, (putR l o).1⟩, ⟨hinv1, by dsimp only; omega⟩, (by dsimp only; omega), ⟨rfl, rfl, rfl, rfl, trivial⟩, (ent_take 0 rfl (ent_take 0 rfl (ent_take 0 rfl (ent_nil _))))⟩
  · obtain rfl : i = 256 := by omega
    obtain ⟨d1, d2, d3, d4, d5, d6, d7⟩ := hinv.done hpl
    refine TC.exit (et (et (eb (nt ?_))))
    refine TC.seq ?_
    refine TC.region ?_
    refine q rfl rfl (mv (v := .int _ _) rfl) ?_
    first | refine q rfl rfl (conv .u8 .i64 rfl rfl rfl (wi64 (by omega) (by omega))) ?_ | refine q rfl rfl (conv .u8 .i64 rfl rfl rfl rfl) ?_
    first | refine q rfl rfl (addI rfl rfl (by omega) (by omega)) ?_ | refine q rfl rfl (add rfl rfl rfl) ?_
    first | refine q rfl rfl (conv .i64 .u32 rfl rfl rfl (wu32 (by omega) (by omega))) ?_ | refine q rfl rfl (conv .i64 .u32 rfl rfl rfl rfl) ?_
    refine q rfl rfl (asg (v := .int _ _) rfl) ?_
    refine TL.nil (nt ?_)
    refine TC.seq ?_
    refine TC.region ?_
    refine q rfl rfl (mv (v := .pointer _) rfl) ?_
    refine q rfl rfl (mv (v := .int _ _) rfl) ?_
    refine e rfl ?_
    refine cl (kill_ok tb l (268435200 + (pl : Int)) hinv.ok (by omega)) rfl (picked_cons 0 rfl (picked_nil _)) trivial ?_
    intro _ _
    change TL _ _ _ _ _ _ _ _ (sepL [_, _, _])
    rw [d1]
    dsimp only
    refine q rfl rfl (asg (v := .int _ _) rfl) ?_
    refine TL.nil (nt ?_)
    refine TC.seq ?_
    refine TC.region ?_
    refine q rfl rfl (mv (v := .pointer _) rfl) ?_
    refine q rfl rfl (mv (v := .int _ _) rfl) ?_
    refine e rfl ?_
    refine cl (free_ok tb (l.set pl ⟨o, 2, 1048575⟩) (268435200 + (pl : Int)) d2 (by omega)) rfl (picked_cons 0 rfl (picked_nil _)) trivial ?_
    intro _ _
    change TL _ _ _ _ _ _ _ _ (sepL [_, _, _])
    rw [d3]
    dsimp only
    refine q rfl rfl (mv (v := .tuple _) rfl) ?_
    refine q rfl rfl (pu (v := .agg (List.toArray (ints [_, _, _]))) (fun _ => rfl)) ?_
    refine q rfl rfl (pu (v := .int _ _) (fun _ => rfl)) ?_
    refine e rfl ?_
    refine al (l := ints [_, _, _]) rfl rfl ?_
    intro b2
    refine e0 ?_
    refine st (v := .agg (List.toArray (ints [_, _, _]))) (vs := ints [_, _, _]) 3 rfl rfl rfl rfl rfl rfl (Nat.le_of_ble_eq_true rfl) rfl ?_
    refine q rfl rfl (asg (v := .int _ _) rfl) ?_
    refine TL.nil (nt ?_)
    refine TC.seq ?_
    refine TC.region ?_
    refine q rfl rfl (mv (v := .pointer _) rfl) ?_
    first | refine q rfl rfl (ldN (vs := ints [_, _, _]) 3 rfl rfl rfl rfl) ?_ | refine q rfl rfl (ldSN (vs := ints [_, _, _]) 3 rfl rfl rfl rfl (by decide)) ?_
    refine e rfl ?_
    refine cl (put_ok tb (l.set pl ⟨zeroOb, 3, 1048575⟩) o d4) rfl (picked_cons 1 rfl (picked_nil _)) trivial ?_
    intro _ _
    change TL _ _ _ _ _ _ _ _ (sepL [_, _, _, _])
    rw [d5]
    dsimp only
    refine q rfl rfl (mv (v := .tuple _) rfl) ?_
    refine q rfl rfl (pu (v := .int _ _) (fun _ => rfl)) ?_
    refine q rfl rfl (pu (v := .int _ _) (fun _ => rfl)) ?_
    refine q rfl rfl (asg (v := .int _ _) rfl) ?_
    refine q rfl rfl (asg (v := .int _ _) rfl) ?_
    refine TL.nil (nt ?_)
    refine TC.seq ?_
    refine TC.region ?_
    refine e rfl ?_
    refine cl alive_ok rfl (picked_nil _) trivial ?_
    intro _ _
    change TL _ _ _ _ _ _ _ _ (sepL [_, _, _, _])
    refine q rfl rfl (mv (v := .bool _) rfl) ?_
    refine TL.known 55 rfl (c := true) rfl ?_
    refine qg rfl rfl rfl (mv (v := .int _ _) rfl) ?_
    refine qg rfl rfl rfl (eqI rfl rfl) ?_
    first | refine q rfl rfl (pkT rfl rfl) ?_ | refine q rfl rfl (pkF rfl rfl) ?_
    refine q rfl rfl (mv (v := .bool _) rfl) ?_
    refine TL.known 59 rfl (c := true) (by simp) ?_
    refine qg rfl rfl rfl (mv (v := .int _ _) rfl) ?_
    refine qg rfl rfl rfl (eqI rfl rfl) ?_
    first | refine q rfl rfl (pkT rfl rfl) ?_ | refine q rfl rfl (pkF rfl rfl) ?_
    refine q rfl rfl (mv (v := .bool _) rfl) ?_
    refine TL.known 63 rfl (c := true) (by simp) ?_
    first | refine qg rfl rfl rfl (ldN (vs := ints [_, _, _]) 3 rfl rfl rfl rfl) ?_ | refine qg rfl rfl rfl (ldSN (vs := ints [_, _, _]) 3 rfl rfl rfl rfl (by decide)) ?_
    first | refine qg rfl rfl rfl (ldN (vs := ints [_, _, _]) 3 rfl rfl rfl rfl) ?_ | refine qg rfl rfl rfl (ldSN (vs := ints [_, _, _]) 3 rfl rfl rfl rfl (by decide)) ?_
    refine qg rfl rfl rfl (eqS 3 (by kernel_rfl) rfl rfl rfl rfl) ?_
    first | refine q rfl rfl (pkT rfl rfl) ?_ | refine q rfl rfl (pkF rfl rfl) ?_
    refine q rfl rfl (mv (v := .bool _) rfl) ?_
    refine TL.known 68 rfl (c := true) (by simp) ?_
    refine qg rfl rfl rfl (mv (v := .int _ _) rfl) ?_
    refine qg rfl rfl rfl (eqI rfl rfl) ?_
    first | refine q rfl rfl (pkT rfl rfl) ?_ | refine q rfl rfl (pkF rfl rfl) ?_
    refine q rfl rfl (mv (v := .bool _) rfl) ?_
    refine TL.known 72 rfl (c := true) (by simp) ?_
    refine qg rfl rfl rfl (mv (v := .pointer _) rfl) ?_
    refine eg rfl rfl ?_
    refine cl (live_ok tb (l.set pl ⟨zeroOb, 3, 1048575⟩) d4) rfl (picked_nil _) ⟨_, RdSI.rd⟩ ?_
    intro y1 _
    change TL _ _ _ _ _ _ _ _ (sepL [_, _, _, _, _])
    rw [d6]
    refine qg rfl rfl rfl (len 27 1 rfl rfl) ?_
    refine qg rfl rfl rfl (eqI rfl rfl) ?_
    first | refine q rfl rfl (pkT rfl rfl) ?_ | refine q rfl rfl (pkF rfl rfl) ?_
    refine q rfl rfl (mv (v := .bool _) rfl) ?_
    refine TL.known 78 rfl (c := true) (by simp) ?_
    refine qg rfl rfl rfl (mv (v := .pointer _) rfl) ?_
    refine qg rfl rfl rfl (mv (v := .int _ _) rfl) ?_
    first | refine qg rfl rfl rfl (conv .u8 .i64 rfl rfl rfl (wi64 (by omega) (by omega))) ?_ | refine qg rfl rfl rfl (conv .u8 .i64 rfl rfl rfl rfl) ?_
    refine eg rfl rfl ?_
    refine cl (age_ok tb (l.set pl ⟨zeroOb, 3, 1048575⟩) (pl : Int) 0 d4) rfl (picked_cons 1 rfl (picked_nil _)) trivial ?_
    intro _ _
    change TL _ _ _ _ _ _ _ _ (sepL [_, _, _, _, _])
    rw [d7]
    dsimp only
    first | refine qg rfl rfl rfl (notD rfl) ?_ | refine qg rfl rfl rfl (notB rfl) ?_
    first | refine q rfl rfl (pkT rfl rfl) ?_ | refine q rfl rfl (pkF rfl rfl) ?_
    refine q rfl rfl (asg (v := .bool _) rfl) ?_
    refine TL.nil (nt ?_)
    refine TC.ret ?_
    exact Ret.i () [_] ⟨rfl, trivial⟩ rfl trivial (ent_take 4 rfl (ent_nil _))

end Go.Proofs.Ytjnjijgplmmaiaa
