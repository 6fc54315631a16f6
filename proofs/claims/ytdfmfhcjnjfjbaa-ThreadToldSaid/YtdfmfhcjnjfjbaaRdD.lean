/-
  Proved here: what functions of this program compute, each as a contract over symbolic states, under the premises that each theorem names (most lines printed by a program of the prover).
-/
import Derived.Test.YtdfmfhcjnjfjbaaRdC
namespace Go.Proofs.Ytdfmfhcjnjfjbaa.Rd
open Go Go.QM
theorem row_one (xs : List Int) (a b : Nat) : (((ints xs).drop a).take b).all Value.oneCell' = true := by
  rw [List.all_eq_true]
  intro v hv
  exact List.all_eq_true.1 (ints_one1 xs) v (List.mem_of_mem_drop (List.mem_of_mem_take hv))
theorem rnd_setL (S : List Th) (t : Th) (v : Int) : rndS (setL S t.id v) ⟨t.id, t.prio, t.whole, v⟩ = rndS S t := by rw [rndS, setL_off]; rfl
theorem rnd_lens {S : List Th} (hn : NdS S) {t : Th} (ht : t ∈ S) {p : Nat} (hp : t.prio = p) {rest : List Int} (hr : rowA S p = t.id :: rest) (x : Nat) : (rowA (rndS S t) x).length = (rowA S x).length := by
  by_cases e : x = p
  · rw [e, rnd_row hn hp hr, hr]; simp
  · rw [rnd_row_ne hn ht hp e]
theorem RInv.tick {S : List Th} (h : RInv S) (hl : ∀ t ∈ S, 1 ≤ t.left) : RInv (tickS S) := by
  rw [tickS]
  cases ht : topS S with
  | none => exact h
  | some t =>
    have hm := (top_mem ht).1
    have h1 := h.rg t hm
    have h2 := hl t hm
    dsimp only
    split
    · exact h.rnd hm
    · exact h.setL t.id (by omega)
theorem rnd_len2 {S : List Th} (h : RInv S) (hl : ∀ t ∈ S, 1 ≤ t.left) : (tickS S).length = S.length := by
  rw [tickS]
  cases ht : topS S with
  | none => rfl
  | some t =>
    dsimp only
    split
    · exact rnd_len h.nd (top_mem ht).1
    · exact setL_len _ _ _

set_option maxRecDepth 4000 in
theorem round_ok (qp : Nat) (S : List Th) (hn : S.length ≤ 1000000) (t : Th) (ht : topS S = some t) : FSpec Try.prog 72 [.pointer (some ⟨qp, 0, none⟩), .int .i64 t.id] noRd [isQ qp S] (fun _ : Unit => .tuple #[]) (fun _ => True) (fun _ => [isQ qp (rndS S t)]) := by
  refine FSpec.intro (rs := []) (by kernel_rfl) Try.func72 rfl Try.ntmps72 (by rfl) rfl ?_
  intro F _
  change TC _ _ _ _ _ _ _ (sepL [_, _])
  refine TC.open 0 rfl (fun x0 hx0 => ?_)
  obtain ⟨ad, cap, mb, A⟩ := x0
  have hR := hx0
  change TC _ _ _ _ _ _ _ (sepL [_, _, _, _, _])
  dsimp only at hR ⊢
  have htm := (top_mem ht).1
  have htr := hR.rg t htm
  obtain ⟨p, hp⟩ := Int.eq_ofNat_of_zero_le htr.2.1.1
  have hp8 : p < 8 := by omega
  obtain ⟨rest, hrow⟩ := top_first ht hp
  obtain ⟨L, hL, hLn⟩ := range_perm hp8
  obtain ⟨M, hM⟩ := perm_mem htm
  have hf := fS_yes (A := A) ⟨t, htm, rfl⟩
  have hrl := rowA_len S p
  rw [hrow, List.length_cons] at hrl
  refine TC.weak (ent_openB 3 rfl hM) ?_
  refine TC.weak (ent_openB 3 rfl hL) ?_
  refine TC.seq ?_
  refine TC.region ?_
  refine q rfl rfl (mv (v := .pointer _) rfl) ?_
  refine q rfl rfl (mv (v := .int _ _) rfl) ?_
  refine e rfl ?_
  refine cl (qat_ok qp _ mb S.length (fS A S) t.id) rfl (picked_cons 4 rfl (picked_cons 4 rfl (picked_nil _))) trivial ?_
  intro _ _
  change TL _ _ _ _ _ _ _ _ (sepL [_, _, _, _, _, _, _])
  rw [hf]
  refine q rfl rfl (asg (v := .pointer _) rfl) ?_
  refine TL.nil (nt ?_)
  refine TC.seq ?_
  refine TC.seq ?_
  refine TC.region ?_
  refine q rfl rfl (mv (v := .pointer _) rfl) ?_
  refine q rfl rfl (eqNil rfl rfl rfl) ?_
  refine TL.nil (nt ?_)
  refine TC.condF rfl ?_
  refine TC.skip (nt ?_)
  refine TC.seq ?_
  refine TC.region ?_
  refine q rfl rfl (mv (v := .pointer _) rfl) ?_
  first | refine q rfl rfl (nc rfl) ?_ | refine q rfl rfl (ncF rfl) ?_ | refine q rfl rfl (ncS rfl (by first | assumption | (simp [ints_length] <;> omega))) ?_
  first | refine q rfl rfl (fa 0 rfl rfl) ?_ | refine q rfl rfl (faS 0 rfl rfl (by first | assumption | (simp [ints_length] <;> omega))) ?_
  refine e rfl ?_
  refine cl (again_ok (A t.id) t.whole t.left t.prio) rfl (picked_cons 4 rfl (picked_nil _)) trivial ?_
  intro _ _
  change TL _ _ _ _ _ _ _ _ (sepL [_, _, _, _, _, _, _])
  refine TL.nil (nt ?_)
  refine TC.seq ?_
  refine TC.draw _ [] [(0, false), (1, false), (2, false), (3, false), (4, false), (5, false), (6, false), (7, false), (8, false), (9, false)] (by kernel_rfl) (by kernel_rfl) (ent.refl _) ?_
  refine dq rfl rfl rfl (mv (v := .pointer _) rfl) ?_
  refine dq rfl rfl rfl (mv (v := .pointer _) rfl) ?_
  first | refine dq rfl rfl rfl (nc rfl) ?_ | refine dq rfl rfl rfl (ncF rfl) ?_ | refine dq rfl rfl rfl (ncS rfl (by first | assumption | (simp [ints_length] <;> omega))) ?_
  first | refine dq rfl rfl rfl (fa 2 rfl rfl) ?_ | refine dq rfl rfl rfl (faS 2 rfl rfl (by first | assumption | (simp [ints_length] <;> omega))) ?_
  first | refine dq rfl rfl rfl (ld rfl rfl rfl) ?_ | refine dq rfl rfl rfl (ld rfl rfl (rows_ld hp8 (by omega))) ?_ | refine dq rfl rfl rfl (ldS rfl rfl rfl) ?_
  first | refine dq rfl rfl rfl (nc rfl) ?_ | refine dq rfl rfl rfl (ncF rfl) ?_ | refine dq rfl rfl rfl (ncS rfl (by first | assumption | (simp [ints_length] <;> omega))) ?_
  first | refine dq rfl rfl rfl (fa 0 rfl rfl) ?_ | refine dq rfl rfl rfl (faS 0 rfl rfl (by first | assumption | (simp [ints_length] <;> omega))) ?_
  refine dq rfl rfl rfl (ixAl 8 45 1 rfl rfl rfl (by omega) (by omega)) ?_
  first | refine dq rfl rfl rfl (ld rfl rfl rfl) ?_ | refine dq rfl rfl rfl (ld rfl rfl (rows_ld hp8 (by omega))) ?_ | refine dq rfl rfl rfl (ldS rfl rfl rfl) ?_
  refine dq rfl rfl rfl (asg (v := .slice _ _ _) rfl) ?_
  refine TD.nil (nt ?_)
  refine TC.seq ?_
  dsimp only [rowP]
  rw [hrow, List.length_cons]
  refine TC.factSlc 3 rfl (fun _ hcap _ => ?_)
  haveI : OffI (ints (t.id :: rest)) (cap p) 1 1 := ⟨rest.length + 1, by rw [ints_length]; simp, by omega, hcap⟩
  have hpos : 0 < (ints (rest ++ (t.id :: rest).drop rest.length)).length := by rw [ints_length]; simp
  change TC _ _ _ _ _ _ _ (sepL [_, _, _, _, _, _, _])
  refine TC.region ?_
  refine q rfl rfl (mv (v := .slice _ _ _) rfl) ?_
  refine q rfl rfl (mv (v := .slice _ _ _) rfl) ?_
  refine q rfl rfl (slFn 3 1 (1) rfl rfl rfl (by omega) (by omega)) ?_
  refine e rfl ?_
  refine cpy rest.length rfl rfl rfl (by rw [List.length_drop, ints_length]; simp) (Nat.min_eq_left (Nat.sub_le _ _)) (by rw [ints_length]; exact Nat.succ_pos _) (row_one _ _ _) (row_copy t.id rest) ?_
  refine TL.nil (nt ?_)
  refine TC.region ?_
  refine q rfl rfl (mv (v := .slice _ _ _) rfl) ?_
  refine q rfl rfl (mv (v := .slice _ _ _) rfl) ?_
  refine q rfl rfl (len 3 1 rfl rfl) ?_
  first | refine q rfl rfl (subI rfl rfl (by omega) (by omega)) ?_ | refine q rfl rfl (sub rfl rfl rfl) ?_
  refine q rfl rfl (mv (v := .int _ _) rfl) ?_
  first | refine q rfl rfl (ixS 3 1 rfl rfl rfl (by omega) (by first | assumption | (simp [ints_length] <;> omega))) ?_ | refine q rfl rfl (ixJ 3 1 rfl rfl rfl (by omega) (by omega) (by first | assumption | (simp [ints_length] <;> omega))) ?_ | refine q rfl rfl (ix 3 1 rfl rfl rfl (by omega) (by omega) rfl) ?_
  refine e0 ?_
  first | refine st (v := .int _ _) (vs := [_]) 1 rfl rfl rfl rfl rfl rfl (Nat.le_of_ble_eq_true rfl) rfl ?_ | refine stS (v := .int _ _) (vs := [_]) 1 rfl rfl rfl rfl rfl rfl (by decide) (by rw [ints_length]; simp) ((ints_splice1 (i := rest.length) (by simp) (by omega) _).trans (congrArg ints (row_set t.id rest))) ?_
  refine TL.nil ?_
  exact Ret.n () [] trivial rfl trivial (ent_close ⟨ad, cap, mb, A⟩ (hR.rnd htm) (ent_takeE 2 rfl (congrArg (pts qp 89) (hd_same (rnd_lens hR.nd htm hp hrow))) (ent_closeB 0 2 p rfl rfl (by dsimp only [rowP]; rw [rnd_row hR.nd hp hrow, List.length_append]; rfl) (rows_eq hLn (fun x hx => rnd_row_ne hR.nd htm hp hx)) hL.symm (ent_takeE 1 rfl (by rw [fS_congr (rnd_has htm), rnd_len hR.nd htm]) (ent_closeB 0 0 ⟨t.id, t.prio, t.whole, t.whole⟩ rfl rfl rfl (fun _ _ => rfl) (perm_off hR.nd hM _) (ent_take 0 rfl (ent_nil _)))))))

set_option maxRecDepth 4000 in
theorem round_no (qp : Nat) (S : List Th) (hn : S.length ≤ 1000000) (id : Int) (hx : ¬ hasS S id) : FSpec Try.prog 72 [.pointer (some ⟨qp, 0, none⟩), .int .i64 id] noRd [isQ qp S] (fun _ : Unit => .tuple #[]) (fun _ => True) (fun _ => [isQ qp S]) := by
  refine FSpec.intro (rs := []) (by kernel_rfl) Try.func72 rfl Try.ntmps72 (by rfl) rfl ?_
  intro F _
  change TC _ _ _ _ _ _ _ (sepL [_, _])
  refine TC.open 0 rfl (fun x0 hx0 => ?_)
  obtain ⟨ad, cap, mb, A⟩ := x0
  have hR := hx0
  change TC _ _ _ _ _ _ _ (sepL [_, _, _, _, _])
  dsimp only at hR ⊢
  have hf := fS_no (A := A) hx
  refine TC.seq ?_
  refine TC.region ?_
  refine q rfl rfl (mv (v := .pointer _) rfl) ?_
  refine q rfl rfl (mv (v := .int _ _) rfl) ?_
  refine e rfl ?_
  refine cl (qat_ok qp _ mb S.length (fS A S) id) rfl (picked_cons 0 rfl (picked_cons 1 rfl (picked_nil _))) trivial ?_
  intro _ _
  change TL _ _ _ _ _ _ _ _ (sepL [_, _, _, _, _])
  rw [hf]
  refine q rfl rfl (asg (v := .pointer _) rfl) ?_
  refine TL.nil (nt ?_)
  refine TC.seq ?_
  refine TC.seq ?_
  refine TC.region ?_
  refine q rfl rfl (mv (v := .pointer _) rfl) ?_
  refine q rfl rfl (eqNil rfl rfl rfl) ?_
  refine TL.nil (nt ?_)
  refine TC.condT rfl ?_
  refine TC.ret (rt ?_)
  exact Ret.i () [] trivial rfl trivial (ent_close ⟨ad, cap, mb, A⟩ hR (ent_take 0 rfl (ent_take 1 rfl (ent_take 0 rfl (ent_take 0 rfl (ent_take 0 rfl (ent_nil _)))))))

set_option maxRecDepth 4000 in
theorem round_nil (id : Int) : FSpec Try.prog 72 [.pointer none, .int .i64 id] noRd [] (fun _ : Unit => .tuple #[]) (fun _ => True) (fun _ => []) := by
  refine FSpec.intro (rs := []) (by kernel_rfl) Try.func72 rfl Try.ntmps72 (by rfl) rfl ?_
  intro F _
  change TC _ _ _ _ _ _ _ (sepL [_])
  refine TC.seq ?_
  refine TC.region ?_
  refine q rfl rfl (mv (v := .pointer _) rfl) ?_
  refine q rfl rfl (mv (v := .int _ _) rfl) ?_
  refine e rfl ?_
  refine cl (qat_nil id) rfl (picked_nil _) trivial ?_
  intro _ _
  change TL _ _ _ _ _ _ _ _ (sepL [_])
  refine q rfl rfl (asg (v := .pointer _) rfl) ?_
  refine TL.nil (nt ?_)
  refine TC.seq ?_
  refine TC.seq ?_
  refine TC.region ?_
  refine q rfl rfl (mv (v := .pointer _) rfl) ?_
  refine q rfl rfl (eqNil rfl rfl rfl) ?_
  refine TL.nil (nt ?_)
  refine TC.condT rfl ?_
  refine TC.ret (rt ?_)
  exact Ret.i () [] trivial rfl trivial (ent_take 0 rfl (ent_nil _))

set_option maxRecDepth 4000 in
theorem qtick_ok (qp : Nat) (S : List Th) (hn : S.length ≤ 1000000) (hl : ∀ t ∈ S, 1 ≤ t.left) : FSpec Try.prog 53 [.pointer (some ⟨qp, 0, none⟩)] noRd [isQ qp S] (fun _ : Unit => .int .i64 (runS (tickS S))) (fun _ => True) (fun _ => [isQ qp (tickS S)]) := by
  refine FSpec.intro (rs := [.tmp 2]) (by kernel_rfl) Try.func53 rfl Try.ntmps53 (by rfl) rfl ?_
  intro F _
  change TC _ _ _ _ _ _ _ (sepL [_, _])
  refine TC.seq ?_
  refine TC.region ?_
  refine q rfl rfl (asg (v := .int _ _) rfl) ?_
  refine TL.nil (nt ?_)
  refine TC.seq ?_
  refine TC.region ?_
  refine q rfl rfl (mv (v := .pointer _) rfl) ?_
  refine e rfl ?_
  refine cl (run_ok qp S hn) rfl (picked_cons 0 rfl (picked_nil _)) trivial ?_
  intro _ _
  change TL _ _ _ _ _ _ _ _ (sepL [_, _])
  refine q rfl rfl (asg (v := .int _ _) rfl) ?_
  refine TL.nil (nt ?_)
  refine TC.seq ?_
  refine TC.seq ?_
  refine TC.open 0 rfl (fun x0 hx0 => ?_)
  obtain ⟨ad, cap, mb, A⟩ := x0
  have hR := hx0
  change TC _ _ _ _ _ _ _ (sepL [_, _, _, _, _])
  dsimp only at hR ⊢
  have hln := rnd_len2 hR hl
  cases ht : topS S with
  | none => ?_
  | some t => ?_
  · have hv : tickS S = S := by rw [tickS, ht]
    have hr : runS S = -1 := by rw [runS, ht]
    have hf := fS_no (A := A) (not_neg hR)
    rw [hr, hv]
    refine TC.region ?_
    refine q rfl rfl (mv (v := .pointer _) rfl) ?_
    refine q rfl rfl (mv (v := .int _ _) rfl) ?_
    refine e rfl ?_
    refine cl (qat_ok qp _ mb S.length (fS A S) (-1)) rfl (picked_cons 0 rfl (picked_cons 1 rfl (picked_nil _))) trivial ?_
    intro _ _
    change TL _ _ _ _ _ _ _ _ (sepL [_, _, _, _, _])
    rw [hf]
    refine q rfl rfl (asg (v := .pointer _) rfl) ?_
    refine TL.nil (nt ?_)
    refine TC.seq ?_
    refine TC.region ?_
    refine q rfl rfl (mv (v := .pointer _) rfl) ?_
    refine q rfl rfl (neNil rfl rfl rfl) ?_
    refine q rfl rfl (mv (v := .bool _) rfl) ?_
    refine TL.known 12 rfl (c := false) rfl ?_
    refine qs rfl rfl ?_
    refine qs rfl rfl ?_
    refine qs rfl rfl ?_
    refine qs rfl rfl ?_
    first | refine q rfl rfl (pkT (v := .bool _) rfl rfl) ?_ | refine q rfl rfl (pkF (v := .bool _) rfl rfl) ?_
    refine TL.nil (nt ?_)
    refine TC.condF rfl ?_
    refine TC.skip (nt ?_)
    refine TC.seq ?_
    refine TC.region ?_
    refine q rfl rfl (mv (v := .pointer _) rfl) ?_
    refine TL.weak (B := sepL [isQ qp S, F]) (ent_close ⟨ad, cap, mb, A⟩ hR (ent_take 0 rfl (ent_take 1 rfl (ent_take 0 rfl (ent_take 0 rfl (ent_take 0 rfl (ent_nil _))))))) ?_
    refine e rfl ?_
    refine cl (run_ok qp S hn) rfl (picked_cons 0 rfl (picked_nil _)) trivial ?_
    intro _ _
    change TL _ _ _ _ _ _ _ _ (sepL [_, _])
    rw [hr]
    refine q rfl rfl (asg (v := .int _ _) rfl) ?_
    refine TL.nil (nt ?_)
    refine TC.ret ?_
    exact Ret.i () [_] ⟨rfl, trivial⟩ rfl trivial (ent_take 0 rfl (ent_take 0 rfl (ent_nil _)))
  · have htm := (top_mem ht).1
    have htr := hR.rg t htm
    have hl1 := hl t htm
    have hr : runS S = t.id := by rw [runS, ht]
    obtain ⟨M, hM⟩ := perm_mem htm
    have hf := fS_yes (A := A) ⟨t, htm, rfl⟩
    have hRl := hR.setL t.id (v := t.left - 1) (by omega)
    rw [hr]
    refine TC.weak (ent_openB 3 rfl hM) ?_
    refine TC.region ?_
    refine q rfl rfl (mv (v := .pointer _) rfl) ?_
    refine q rfl rfl (mv (v := .int _ _) rfl) ?_
    refine e rfl ?_
    refine cl (qat_ok qp _ mb S.length (fS A S) t.id) rfl (picked_cons 2 rfl (picked_cons 3 rfl (picked_nil _))) trivial ?_
    intro _ _
    change TL _ _ _ _ _ _ _ _ (sepL [_, _, _, _, _, _])
    rw [hf]
    refine q rfl rfl (asg (v := .pointer _) rfl) ?_
    refine TL.nil (nt ?_)
    refine TC.seq ?_
    refine TC.region ?_
    refine q rfl rfl (mv (v := .pointer _) rfl) ?_
    refine q rfl rfl (neNil rfl rfl rfl) ?_
    refine q rfl rfl (mv (v := .bool _) rfl) ?_
    refine TL.known 12 rfl (c := true) rfl ?_
    refine qg rfl rfl rfl (mv (v := .pointer _) rfl) ?_
    first | refine qg rfl rfl rfl (nc rfl) ?_ | refine qg rfl rfl rfl (ncF rfl) ?_ | refine qg rfl rfl rfl (ncS rfl (by first | assumption | (simp [ints_length] <;> omega))) ?_
    first | refine qg rfl rfl rfl (fa 0 rfl rfl) ?_ | refine qg rfl rfl rfl (faS 0 rfl rfl (by first | assumption | (simp [ints_length] <;> omega))) ?_
    refine eg rfl rfl ?_
    refine cl (spend_ok (A t.id) t.whole t.left t.prio (by omega)) rfl (picked_cons 2 rfl (picked_nil _)) trivial ?_
    intro _ _
    change TL _ _ _ _ _ _ _ _ (sepL [_, _, _, _, _, _])
    first | refine q rfl rfl (pkT (v := .bool _) rfl rfl) ?_ | refine q rfl rfl (pkF (v := .bool _) rfl rfl) ?_
    refine TL.nil (nt ?_)
    first | refine TC.condD rfl (fun h1 => ?_) (fun h1 => ?_) | refine TC.cond rfl (fun h1 => ?_) (fun h1 => ?_)
    · refine TC.weak (B := sepL [isQ qp (setL S t.id (t.left - 1)), F]) (ent_close ⟨ad, cap, mb, A⟩ hRl (ent_takeE 1 rfl (congrArg (pts qp 89) (hd_same (fun x => by rw [setL_row]))) (ent_takeB 3 rfl (fun x _ => by dsimp only [rowP]; rw [setL_row]) (List.Perm.refl _) (ent_takeE 1 rfl (by rw [fS_congr (setL_has S t.id (t.left - 1)), setL_len]) (ent_closeB 0 0 ⟨t.id, t.prio, t.whole, t.left - 1⟩ rfl rfl rfl (fun _ _ => rfl) (setL_perm hR.nd hM _) (ent_take 0 rfl (ent_nil _))))))) ?_
      have hv : tickS S = rndS S t := by rw [tickS, ht]; dsimp only; rw [if_pos (by omega)]
      rw [hv] at hln ⊢
      refine TC.region ?_
      refine q rfl rfl (mv (v := .pointer _) rfl) ?_
      refine q rfl rfl (mv (v := .int _ _) rfl) ?_
      refine e rfl ?_
      refine cl (round_ok qp (setL S t.id (t.left - 1)) (by rw [setL_len]; exact hn) ⟨t.id, t.prio, t.whole, t.left - 1⟩ (setL_top ht _)) rfl (picked_cons 0 rfl (picked_nil _)) trivial ?_
      intro _ _
      change TL _ _ _ _ _ _ _ _ (sepL [_, _])
      rw [rnd_setL]
      refine TL.nil (nt ?_)
      refine TC.seq ?_
      refine TC.region ?_
      refine q rfl rfl (mv (v := .pointer _) rfl) ?_
      refine e rfl ?_
      refine cl (run_ok qp (rndS S t) (by omega)) rfl (picked_cons 0 rfl (picked_nil _)) trivial ?_
      intro _ _
      change TL _ _ _ _ _ _ _ _ (sepL [_, _])
      refine q rfl rfl (asg (v := .int _ _) rfl) ?_
      refine TL.nil (nt ?_)
      refine TC.ret ?_
      exact Ret.i () [_] ⟨rfl, trivial⟩ rfl trivial (ent_take 0 rfl (ent_take 0 rfl (ent_nil _)))
    · refine TC.weak (B := sepL [isQ qp (setL S t.id (t.left - 1)), F]) (ent_close ⟨ad, cap, mb, A⟩ hRl (ent_takeE 1 rfl (congrArg (pts qp 89) (hd_same (fun x => by rw [setL_row]))) (ent_takeB 3 rfl (fun x _ => by dsimp only [rowP]; rw [setL_row]) (List.Perm.refl _) (ent_takeE 1 rfl (by rw [fS_congr (setL_has S t.id (t.left - 1)), setL_len]) (ent_closeB 0 0 ⟨t.id, t.prio, t.whole, t.left - 1⟩ rfl rfl rfl (fun _ _ => rfl) (setL_perm hR.nd hM _) (ent_take 0 rfl (ent_nil _))))))) ?_
      have hv : tickS S = (setL S t.id (t.left - 1)) := by rw [tickS, ht]; dsimp only; rw [if_neg (by omega)]
      rw [hv] at hln ⊢
      refine TC.skip (nt ?_)
      refine TC.seq ?_
      refine TC.region ?_
      refine q rfl rfl (mv (v := .pointer _) rfl) ?_
      refine e rfl ?_
      refine cl (run_ok qp (setL S t.id (t.left - 1)) (by omega)) rfl (picked_cons 0 rfl (picked_nil _)) trivial ?_
      intro _ _
      change TL _ _ _ _ _ _ _ _ (sepL [_, _])
      refine q rfl rfl (asg (v := .int _ _) rfl) ?_
      refine TL.nil (nt ?_)
      refine TC.ret ?_
      exact Ret.i () [_] ⟨rfl, trivial⟩ rfl trivial (ent_take 0 rfl (ent_take 0 rfl (ent_nil _)))

set_option maxRecDepth 4000 in
theorem qtick_nil  : FSpec Try.prog 53 [.pointer none] noRd [] (fun _ : Unit => .int .i64 (-1)) (fun _ => True) (fun _ => []) := by
  refine FSpec.intro (rs := [.tmp 2]) (by kernel_rfl) Try.func53 rfl Try.ntmps53 (by rfl) rfl ?_
  intro F _
  change TC _ _ _ _ _ _ _ (sepL [_])
  refine TC.seq ?_
  refine TC.region ?_
  refine q rfl rfl (asg (v := .int _ _) rfl) ?_
  refine TL.nil (nt ?_)
  refine TC.seq ?_
  refine TC.region ?_
  refine q rfl rfl (mv (v := .pointer _) rfl) ?_
  refine e rfl ?_
  refine cl run_nil rfl (picked_nil _) trivial ?_
  intro _ _
  change TL _ _ _ _ _ _ _ _ (sepL [_])
  refine q rfl rfl (asg (v := .int _ _) rfl) ?_
  refine TL.nil (nt ?_)
  refine TC.seq ?_
  refine TC.seq ?_
  refine TC.region ?_
  refine q rfl rfl (mv (v := .pointer _) rfl) ?_
  refine q rfl rfl (mv (v := .int _ _) rfl) ?_
  refine e rfl ?_
  refine cl (qat_nil (-1)) rfl (picked_nil _) trivial ?_
  intro _ _
  change TL _ _ _ _ _ _ _ _ (sepL [_])
  refine q rfl rfl (asg (v := .pointer _) rfl) ?_
  refine TL.nil (nt ?_)
  refine TC.seq ?_
  refine TC.region ?_
  refine q rfl rfl (mv (v := .pointer _) rfl) ?_
  refine q rfl rfl (neNil rfl rfl rfl) ?_
  refine q rfl rfl (mv (v := .bool _) rfl) ?_
  refine TL.known 12 rfl (c := false) rfl ?_
  refine qs rfl rfl ?_
  refine qs rfl rfl ?_
  refine qs rfl rfl ?_
  refine qs rfl rfl ?_
  first | refine q rfl rfl (pkT (v := .bool _) rfl rfl) ?_ | refine q rfl rfl (pkF (v := .bool _) rfl rfl) ?_
  refine TL.nil (nt ?_)
  refine TC.condF rfl ?_
  refine TC.skip (nt ?_)
  refine TC.seq ?_
  refine TC.region ?_
  refine q rfl rfl (mv (v := .pointer _) rfl) ?_
  refine e rfl ?_
  refine cl run_nil rfl (picked_nil _) trivial ?_
  intro _ _
  change TL _ _ _ _ _ _ _ _ (sepL [_])
  refine q rfl rfl (asg (v := .int _ _) rfl) ?_
  refine TL.nil (nt ?_)
  refine TC.ret ?_
  exact Ret.i () [_] ⟨rfl, trivial⟩ rfl trivial (ent_take 0 rfl (ent_nil _))

set_option maxRecDepth 4000 in
theorem yield_ok (qp : Nat) (S : List Th) (hn : S.length ≤ 1000000) (hR : RInv S) : FSpec Try.prog 51 [.pointer (some ⟨qp, 0, none⟩)] noRd [isQ qp S] (fun _ : Unit => .int .i64 (runS (yieldS S))) (fun _ => True) (fun _ => [isQ qp (yieldS S)]) := by
  refine FSpec.intro (rs := [.tmp 2]) (by kernel_rfl) Try.func51 rfl Try.ntmps51 (by rfl) rfl ?_
  intro F _
  change TC _ _ _ _ _ _ _ (sepL [_, _])
  refine TC.seq ?_
  refine TC.region ?_
  refine q rfl rfl (asg (v := .int _ _) rfl) ?_
  refine TL.nil (nt ?_)
  refine TC.seq ?_
  refine TC.region ?_
  refine q rfl rfl (mv (v := .pointer _) rfl) ?_
  refine q rfl rfl (mv (v := .pointer _) rfl) ?_
  refine e rfl ?_
  refine cl (run_ok qp S hn) rfl (picked_cons 0 rfl (picked_nil _)) trivial ?_
  intro _ _
  change TL _ _ _ _ _ _ _ _ (sepL [_, _])
  cases ht : topS S with
  | none => ?_
  | some t => ?_
  · have hv : yieldS S = S := by rw [yieldS, ht]
    have hr : runS S = -1 := by rw [runS, ht]
    rw [hv, hr]
    refine e rfl ?_
    refine cl (round_no qp S hn (-1) (not_neg hR)) rfl (picked_cons 0 rfl (picked_nil _)) trivial ?_
    intro _ _
    change TL _ _ _ _ _ _ _ _ (sepL [_, _])
    refine TL.nil (nt ?_)
    refine TC.seq ?_
    refine TC.region ?_
    refine q rfl rfl (mv (v := .pointer _) rfl) ?_
    refine e rfl ?_
    refine cl (run_ok qp S hn) rfl (picked_cons 0 rfl (picked_nil _)) trivial ?_
    intro _ _
    change TL _ _ _ _ _ _ _ _ (sepL [_, _])
    rw [hr]
    refine q rfl rfl (asg (v := .int _ _) rfl) ?_
    refine TL.nil (nt ?_)
    refine TC.ret ?_
    exact Ret.i () [_] ⟨rfl, trivial⟩ rfl trivial (ent_take 0 rfl (ent_take 0 rfl (ent_nil _)))
  · have hv : yieldS S = rndS S t := by rw [yieldS, ht]
    have hr : runS S = t.id := by rw [runS, ht]
    have hln := rnd_len hR.nd (top_mem ht).1
    rw [hv, hr]
    refine e rfl ?_
    refine cl (round_ok qp S hn t ht) rfl (picked_cons 0 rfl (picked_nil _)) trivial ?_
    intro _ _
    change TL _ _ _ _ _ _ _ _ (sepL [_, _])
    refine TL.nil (nt ?_)
    refine TC.seq ?_
    refine TC.region ?_
    refine q rfl rfl (mv (v := .pointer _) rfl) ?_
    refine e rfl ?_
    refine cl (run_ok qp (rndS S t) (by omega)) rfl (picked_cons 0 rfl (picked_nil _)) trivial ?_
    intro _ _
    change TL _ _ _ _ _ _ _ _ (sepL [_, _])
    refine q rfl rfl (asg (v := .int _ _) rfl) ?_
    refine TL.nil (nt ?_)
    refine TC.ret ?_
    exact Ret.i () [_] ⟨rfl, trivial⟩ rfl trivial (ent_take 0 rfl (ent_take 0 rfl (ent_nil _)))

set_option maxRecDepth 4000 in
theorem yield_nil  : FSpec Try.prog 51 [.pointer none] noRd [] (fun _ : Unit => .int .i64 (-1)) (fun _ => True) (fun _ => []) := by
  refine FSpec.intro (rs := [.tmp 2]) (by kernel_rfl) Try.func51 rfl Try.ntmps51 (by rfl) rfl ?_
  intro F _
  change TC _ _ _ _ _ _ _ (sepL [_])
  refine TC.seq ?_
  refine TC.region ?_
  refine q rfl rfl (asg (v := .int _ _) rfl) ?_
  refine TL.nil (nt ?_)
  refine TC.seq ?_
  refine TC.region ?_
  refine q rfl rfl (mv (v := .pointer _) rfl) ?_
  refine q rfl rfl (mv (v := .pointer _) rfl) ?_
  refine e rfl ?_
  refine cl run_nil rfl (picked_nil _) trivial ?_
  intro _ _
  change TL _ _ _ _ _ _ _ _ (sepL [_])
  refine e rfl ?_
  refine cl (round_nil (-1)) rfl (picked_nil _) trivial ?_
  intro _ _
  change TL _ _ _ _ _ _ _ _ (sepL [_])
  refine TL.nil (nt ?_)
  refine TC.seq ?_
  refine TC.region ?_
  refine q rfl rfl (mv (v := .pointer _) rfl) ?_
  refine e rfl ?_
  refine cl run_nil rfl (picked_nil _) trivial ?_
  intro _ _
  change TL _ _ _ _ _ _ _ _ (sepL [_])
  refine q rfl rfl (asg (v := .int _ _) rfl) ?_
  refine TL.nil (nt ?_)
  refine TC.ret ?_
  exact Ret.i () [_] ⟨rfl, trivial⟩ rfl trivial (ent_take 0 rfl (ent_nil _))

set_option maxRecDepth 4000 in
theorem drop_ok (qp : Nat) (S : List Th) (hn : S.length ≤ 1000000) (a2 : Option Addr) (c2 : Nat) (xs : List Int) (hx : xs.length ≤ 1000000) : FSpec Try.prog 57 [.pointer (some ⟨qp, 0, none⟩), .slice a2 xs.length c2] (fun F => ∃ E, RdS F E a2 (ints xs)) [isQ qp S] (fun _ : Unit => .int .i64 ((S.length : Int) - (dropS S xs).length)) (fun _ => True) (fun _ => [isQ qp (dropS S xs)]) := by
  refine FSpec.intro (rs := [.tmp 4]) (by kernel_rfl) Try.func57 rfl Try.ntmps57 (by rfl) rfl ?_
  intro F ⟨E, hF⟩
  change TC _ _ _ _ _ _ _ (sepL [_, _])
  haveI : RdSI F a2 E (ints xs) := ⟨hF⟩
  have hxl := ints_length xs
  refine TC.seq ?_
  refine TC.region ?_
  refine q rfl rfl (asg (v := .int _ _) rfl) ?_
  refine TL.nil (nt ?_)
  refine TC.seq ?_
  refine TC.region ?_
  refine q rfl rfl (asg (v := .int _ _) rfl) ?_
  refine TL.nil (nt ?_)
  refine TC.seq ?_
  refine TC.seq ?_
  refine TC.region ?_
  refine q rfl rfl (mv (v := .slice _ _ _) rfl) ?_
  refine q rfl rfl (len 3 1 rfl rfl) ?_
  refine q rfl rfl (mv (v := .int _ _) rfl) ?_
  refine TL.nil (nt ?_)
  refine TC.block ?_
  refine TC.loop (ι := Nat × List Th) (fun s => s.1 ≤ xs.length ∧ s.2 = dropS S (xs.take s.1)) (fun s => [(0, .pointer (some ⟨qp, 0, none⟩)), (5, .int .i64 ((S.length : Int) - (s.2.length : Int))), (9, .slice a2 xs.length c2), (10, .int .i64 xs.length), (11, .int .i64 ((s.1 : Nat) : Int))]) (fun s => sepL [isQ qp s.2, F]) (fun s => xs.length - s.1) ⟨0, S⟩ ⟨Nat.zero_le _, rfl⟩ ⟨rfl, congrArg (Value.int .i64) (Int.sub_self _).symm, rfl, rfl, rfl, trivial⟩ (ent_take 0 rfl (ent_take 0 rfl (ent_nil _))) ?_
  rintro ⟨k, Z⟩ ⟨hk, hZ⟩ ρ0
  dsimp only [updL] at hk hZ ⊢
  refine TC.seq ?_
  refine TC.region ?_
  refine q rfl rfl (lss rfl rfl) ?_
  refine TL.nil (nt ?_)
  refine TC.seq ?_
  first | refine TC.condD rfl (fun hlt => ?_) (fun hlt => ?_) | refine TC.cond rfl (fun hlt => ?_) (fun hlt => ?_)
  · have hkx : k < xs.length := by omega
    obtain ⟨x, hxk⟩ : ∃ x, xs[k]? = some x := ⟨xs[k], List.getElem?_eq_getElem hkx⟩
    have hpos : 0 < (ints xs).length := by omega
    have htk : dropS S (xs.take (k + 1)) = offS Z x := by rw [List.take_add_one, hxk, Option.toList, dropS_snoc, hZ]
    have hZl : Z.length ≤ S.length := by rw [hZ]; exact (dropS_sub S _).length_le
    refine TC.skip (nt ?_)
    refine TC.seq ?_
    refine TC.block ?_
    refine TC.seq ?_
    refine TC.region ?_
    first | refine q rfl rfl (ixS 3 1 rfl rfl rfl (by omega) (by first | assumption | (simp [ints_length] <;> omega))) ?_ | refine q rfl rfl (ixJ 3 1 rfl rfl rfl (by omega) (by omega) (by first | assumption | (simp [ints_length] <;> omega))) ?_ | refine q rfl rfl (ix 3 1 rfl rfl rfl (by omega) (by omega) rfl) ?_
    first | refine q rfl rfl (ld rfl rfl rfl) ?_ | refine q rfl rfl (ldS rfl rfl (ints_get hxk)) ?_ | refine q rfl rfl (ldS rfl rfl rfl) ?_
    refine e rfl ?_
    refine al (l := [.int _ _]) rfl rfl ?_
    intro b1
    refine e0 ?_
    refine st (v := .int _ _) (vs := [_]) 1 rfl rfl rfl rfl rfl rfl (Nat.le_of_ble_eq_true rfl) rfl ?_
    refine TL.nil (nt ?_)
    refine TC.seq ?_
    refine TC.weak (sep_swap) ?_
    change TC _ _ _ _ _ _ _ (sepL [_, _, _])
    refine TC.open 0 rfl (fun x0 hx0 => ?_)
    obtain ⟨ad, cap, mb, A⟩ := x0
    have hR := hx0
    change TC _ _ _ _ _ _ _ (sepL [_, _, _, _, _, _])
    dsimp only at hR ⊢
    by_cases hy : hasS Z x
    · have hf := fS_yes (A := A) hy
      have hol := offS_len hR.nd hy
      obtain ⟨t, htm, rfl⟩ := hy
      have htr := hR.rg t htm
      obtain ⟨p, hp⟩ := Int.eq_ofNat_of_zero_le htr.2.1.1
      have hp8 : p < 8 := by omega
      obtain ⟨L, hL, hLn⟩ := range_perm hp8
      obtain ⟨M, hM⟩ := perm_mem htm
      have hrl := rowA_len Z p
      have hrne : ∀ x, x ≠ p → rowA (offS Z t.id) x = rowA Z x := fun x hx => rowA_off_ne hR.nd htm (by omega)
      refine TC.weak (ent_openB 3 rfl hM) ?_
      refine TC.weak (ent_openB 3 rfl hL) ?_
      refine TC.region ?_
      refine q rfl rfl (mv (v := .pointer _) rfl) ?_
      first | refine q rfl rfl (ld rfl rfl rfl) ?_ | refine q rfl rfl (ldS rfl rfl (ints_get hxk)) ?_ | refine q rfl rfl (ldS rfl rfl rfl) ?_
      refine e rfl ?_
      refine cl (qat_ok qp _ mb Z.length (fS A Z) t.id) rfl (picked_cons 4 rfl (picked_cons 4 rfl (picked_nil _))) trivial ?_
      intro _ _
      change TL _ _ _ _ _ _ _ _ (sepL [_, _, _, _, _, _, _, _])
      rw [hf]
      refine q rfl rfl (asg (v := .pointer _) rfl) ?_
      refine TL.nil (nt ?_)
      refine TC.seq ?_
      refine TC.seq ?_
      refine TC.region ?_
      refine q rfl rfl (mv (v := .pointer _) rfl) ?_
      refine q rfl rfl (eqNil rfl rfl rfl) ?_
      refine TL.nil (nt ?_)
      refine TC.condF rfl ?_
      refine TC.skip (nt ?_)
      refine TC.seq ?_
      refine TC.draw _ [19] [(0, false), (1, false), (2, false), (3, false), (4, false), (5, false), (6, false), (7, false), (8, false), (9, false), (10, false), (11, false), (12, false), (13, false), (14, false), (16, false), (17, false), (15, true), (18, false), (19, true)] (by kernel_rfl) (by kernel_rfl) (ent_take 0 rfl (ent_take 3 rfl (ent_nil _))) ?_
      refine dq rfl rfl rfl (mv (v := .pointer _) rfl) ?_
      refine dq rfl rfl rfl (mv (v := .pointer _) rfl) ?_
      first | refine dq rfl rfl rfl (nc rfl) ?_ | refine dq rfl rfl rfl (ncF rfl) ?_ | refine dq rfl rfl rfl (ncS rfl (by first | assumption | (simp [ints_length] <;> omega))) ?_
      first | refine dq rfl rfl rfl (fa 2 rfl rfl) ?_ | refine dq rfl rfl rfl (faS 2 rfl rfl (by first | assumption | (simp [ints_length] <;> omega))) ?_
      first | refine dq rfl rfl rfl (ld rfl rfl rfl) ?_ | refine dq rfl rfl rfl (ld rfl rfl (rows_ld hp8 (by omega))) ?_ | refine dq rfl rfl rfl (ldS rfl rfl (ints_get hxk)) ?_ | refine dq rfl rfl rfl (ldS rfl rfl rfl) ?_
      refine dq rfl rfl rfl (mv (v := .pointer _) rfl) ?_
      refine dq rfl rfl rfl (mv (v := .pointer _) rfl) ?_
      first | refine dq rfl rfl rfl (nc rfl) ?_ | refine dq rfl rfl rfl (ncF rfl) ?_ | refine dq rfl rfl rfl (ncS rfl (by first | assumption | (simp [ints_length] <;> omega))) ?_
      first | refine dq rfl rfl rfl (fa 2 rfl rfl) ?_ | refine dq rfl rfl rfl (faS 2 rfl rfl (by first | assumption | (simp [ints_length] <;> omega))) ?_
      first | refine dq rfl rfl rfl (ld rfl rfl rfl) ?_ | refine dq rfl rfl rfl (ld rfl rfl (rows_ld hp8 (by omega))) ?_ | refine dq rfl rfl rfl (ldS rfl rfl (ints_get hxk)) ?_ | refine dq rfl rfl rfl (ldS rfl rfl rfl) ?_
      first | refine dq rfl rfl rfl (nc rfl) ?_ | refine dq rfl rfl rfl (ncF rfl) ?_ | refine dq rfl rfl rfl (ncS rfl (by first | assumption | (simp [ints_length] <;> omega))) ?_
      first | refine dq rfl rfl rfl (fa 0 rfl rfl) ?_ | refine dq rfl rfl rfl (faS 0 rfl rfl (by first | assumption | (simp [ints_length] <;> omega))) ?_
      refine dq rfl rfl rfl (ixAl 8 45 1 rfl rfl rfl (by omega) (by omega)) ?_
      first | refine dq rfl rfl rfl (ld rfl rfl rfl) ?_ | refine dq rfl rfl rfl (ld rfl rfl (rows_ld hp8 (by omega))) ?_ | refine dq rfl rfl rfl (ldS rfl rfl (ints_get hxk)) ?_ | refine dq rfl rfl rfl (ldS rfl rfl rfl) ?_
      first | refine dq rfl rfl rfl (mkf (vf := []) (vc := [.pointer _]) rfl rfl) ?_ | refine dq rfl rfl rfl (mkf rfl rfl) ?_
      first | refine dq rfl rfl rfl (nc rfl) ?_ | refine dq rfl rfl rfl (ncF rfl) ?_ | refine dq rfl rfl rfl (ncS rfl (by first | assumption | (simp [ints_length] <;> omega))) ?_
      first | refine dq rfl rfl rfl (fa 0 rfl rfl) ?_ | refine dq rfl rfl rfl (faS 0 rfl rfl (by first | assumption | (simp [ints_length] <;> omega))) ?_
      refine de rfl rfl ?_
      refine cl (deleteI_ok (ad p) (cap p) (rowA Z p) 78 [.pointer (some ⟨b1, 0, none⟩)] (fun y => decide (y = t.id)) (fun F => Rd F b1 (.cells #[Value.int .i64 t.id] 3 (0, 0))) (fun y => drop1_ok b1 t.id y) (by omega) (fun _ h => Rd_here h) (fun _ _ h => Rd_next (Rd_here h))) rfl (picked_cons 2 rfl (picked_nil _)) RdI.rd ?_
      intro _ _
      change ent _ _ ∧ TD _ _ _ _ _ _ _ _ _ _ (sepL [_, _, _, _, _, _, _, _])
      refine ⟨(by repeat (first | exact ent_nil _ | refine ent_take 0 rfl ?_ | refine ent_take 1 rfl ?_ | refine ent_take 2 rfl ?_ | refine ent_take 3 rfl ?_ | refine ent_take 4 rfl ?_ | refine ent_take 5 rfl ?_ | refine ent_take 6 rfl ?_ | refine ent_take 7 rfl ?_ | refine ent_take 8 rfl ?_ | refine ent_take 9 rfl ?_ | refine ent_take 10 rfl ?_ | refine ent_take 11 rfl ?_ | refine ent_take 12 rfl ?_)), ?_⟩
      rw [row_del]
      refine dq rfl rfl rfl (ixAl 8 45 1 rfl rfl rfl (by omega) (by omega)) ?_
      refine dl0 rfl rfl rfl ?_
      first | refine st (v := .slice _ _ _) (vs := [_]) 1 rfl rfl rfl rfl rfl rfl (Nat.le_of_ble_eq_true rfl) rfl ?_ | refine st (v := .slice _ _ _) (vs := [_]) 1 rfl rfl rfl rfl rfl rfl (by rw [rows_length]; simp; omega) (rows_st _ hp8 (by omega)) ?_
      refine TD.nil (nt ?_)
      refine TC.seq ?_
      refine TC.draw _ [] [(0, false), (1, false), (2, false), (3, false), (4, false), (5, true)] (by kernel_rfl) (by kernel_rfl) (ent_take 0 rfl (ent_take 5 rfl (ent_nil _))) ?_
      refine dq rfl rfl rfl (mv (v := .pointer _) rfl) ?_
      first | refine dq rfl rfl rfl (nc rfl) ?_ | refine dq rfl rfl rfl (ncF rfl) ?_ | refine dq rfl rfl rfl (ncS rfl (by first | assumption | (simp [ints_length] <;> omega))) ?_
      first | refine dq rfl rfl rfl (fa 8 rfl rfl) ?_ | refine dq rfl rfl rfl (faS 8 rfl rfl (by first | assumption | (simp [ints_length] <;> omega))) ?_
      first | refine dq rfl rfl rfl (ld rfl rfl rfl) ?_ | refine dq rfl rfl rfl (ld rfl rfl (rows_ld hp8 (by omega))) ?_ | refine dq rfl rfl rfl (ldS rfl rfl (ints_get hxk)) ?_ | refine dq rfl rfl rfl (ldS rfl rfl rfl) ?_
      first | refine dq rfl rfl rfl (ld rfl rfl rfl) ?_ | refine dq rfl rfl rfl (ld rfl rfl (rows_ld hp8 (by omega))) ?_ | refine dq rfl rfl rfl (ldS rfl rfl (ints_get hxk)) ?_ | refine dq rfl rfl rfl (ldS rfl rfl rfl) ?_
      refine de0 rfl ?_
      refine deF 3 104 rfl (KL.int rfl) rfl rfl rfl ?_
      refine ⟨(by repeat (first | exact ent_nil _ | refine ent_take 0 rfl ?_ | refine ent_take 1 rfl ?_ | refine ent_take 2 rfl ?_ | refine ent_take 3 rfl ?_ | refine ent_take 4 rfl ?_ | refine ent_take 5 rfl ?_ | refine ent_take 6 rfl ?_ | refine ent_take 7 rfl ?_ | refine ent_take 8 rfl ?_ | refine ent_take 9 rfl ?_ | refine ent_take 10 rfl ?_ | refine ent_take 11 rfl ?_ | refine ent_take 12 rfl ?_)), ?_⟩
      refine TD.nil (nt ?_)
      refine TC.region ?_
      refine q rfl rfl (mv (v := .int _ _) rfl) ?_
      first | refine q rfl rfl (addI rfl rfl (by omega) (by omega)) ?_ | refine q rfl rfl (add rfl rfl rfl) ?_
      refine q rfl rfl (asg (v := .int _ _) rfl) ?_
      refine TL.nil (nb (nt ?_))
      refine TC.region ?_
      first | refine q rfl rfl (addI rfl rfl (by omega) (by omega)) ?_ | refine q rfl rfl (add rfl rfl rfl) ?_
      refine q rfl rfl (mv (v := .int _ _) rfl) ?_
      refine TL.nil (nt ?_)
      exact ⟨rfl, ⟨k + 1, offS Z t.id⟩, ⟨by dsimp only; omega, htk.symm⟩, (by dsimp only; omega), ⟨rfl, congrArg (Value.int .i64) (by dsimp only; omega), rfl, rfl, rfl, trivial⟩, (ent_close ⟨updN ad p (ad p), updN cap p (cap p), mb, A⟩ (hR.off t.id) (ent_takeE 1 rfl (congrArg (pts qp 89) (hd_upd (n := (rowA (offS Z t.id) p).length) hrne rfl)) (ent_closeB 1 1 p rfl rfl (by dsimp only [rowP]; rw [updN_same, updN_same]) (rows_ne hLn hrne) hL.symm (ent_takeE 0 rfl (by rw [fS_off, hf, show (offS Z t.id).length = Z.length - 1 from by omega]; rfl) (ent_takeB 1 rfl (fun _ _ => rfl) (off_perm hR.nd hM).symm (ent_take 2 rfl (ent_nil _)))))))⟩
    · have hf := fS_no (A := A) hy
      have hon := offS_none hy
      refine TC.region ?_
      refine q rfl rfl (mv (v := .pointer _) rfl) ?_
      first | refine q rfl rfl (ld rfl rfl rfl) ?_ | refine q rfl rfl (ldS rfl rfl (ints_get hxk)) ?_ | refine q rfl rfl (ldS rfl rfl rfl) ?_
      refine e rfl ?_
      refine cl (qat_ok qp _ mb Z.length (fS A Z) x) rfl (picked_cons 0 rfl (picked_cons 1 rfl (picked_nil _))) trivial ?_
      intro _ _
      change TL _ _ _ _ _ _ _ _ (sepL [_, _, _, _, _, _])
      rw [hf]
      refine q rfl rfl (asg (v := .pointer _) rfl) ?_
      refine TL.nil (nt ?_)
      refine TC.seq ?_
      refine TC.seq ?_
      refine TC.region ?_
      refine q rfl rfl (mv (v := .pointer _) rfl) ?_
      refine q rfl rfl (eqNil rfl rfl rfl) ?_
      refine TL.nil (nt ?_)
      refine TC.condT rfl ?_
      refine TC.exit (et (eb (nt ?_)))
      refine TC.region ?_
      first | refine q rfl rfl (addI rfl rfl (by omega) (by omega)) ?_ | refine q rfl rfl (add rfl rfl rfl) ?_
      refine q rfl rfl (mv (v := .int _ _) rfl) ?_
      refine TL.nil (nt ?_)
      exact ⟨rfl, ⟨k + 1, Z⟩, ⟨by dsimp only; omega, by dsimp only; rw [htk, hon]⟩, (by dsimp only; omega), ⟨rfl, rfl, rfl, rfl, rfl, trivial⟩, (ent_close ⟨ad, cap, mb, A⟩ hR (ent_take 0 rfl (ent_take 1 rfl (ent_take 0 rfl (ent_take 0 rfl (ent_take 1 rfl (ent_nil _)))))))⟩
  · obtain rfl : k = xs.length := by omega
    rw [List.take_length] at hZ
    subst hZ
    refine TC.exit (et (et (eb (nt ?_))))
    refine TC.seq ?_
    refine TC.region ?_
    refine q rfl rfl (mv (v := .int _ _) rfl) ?_
    refine q rfl rfl (asg (v := .int _ _) rfl) ?_
    refine TL.nil (nt ?_)
    refine TC.ret ?_
    exact Ret.i () [_] ⟨rfl, trivial⟩ rfl trivial (ent_take 0 rfl (ent_take 0 rfl (ent_nil _)))

set_option maxRecDepth 4000 in
theorem drop_nil (a2 : Option Addr) (c2 : Nat) (xs : List Int) (hx : xs.length ≤ 1000000) : FSpec Try.prog 57 [.pointer none, .slice a2 xs.length c2] (fun F => ∃ E, RdS F E a2 (ints xs)) [] (fun _ : Unit => .int .i64 0) (fun _ => True) (fun _ => []) := by
  refine FSpec.intro (rs := [.tmp 4]) (by kernel_rfl) Try.func57 rfl Try.ntmps57 (by rfl) rfl ?_
  intro F ⟨E, hF⟩
  change TC _ _ _ _ _ _ _ (sepL [_])
  haveI : RdSI F a2 E (ints xs) := ⟨hF⟩
  have hxl := ints_length xs
  refine TC.seq ?_
  refine TC.region ?_
  refine q rfl rfl (asg (v := .int _ _) rfl) ?_
  refine TL.nil (nt ?_)
  refine TC.seq ?_
  refine TC.region ?_
  refine q rfl rfl (asg (v := .int _ _) rfl) ?_
  refine TL.nil (nt ?_)
  refine TC.seq ?_
  refine TC.seq ?_
  refine TC.region ?_
  refine q rfl rfl (mv (v := .slice _ _ _) rfl) ?_
  refine q rfl rfl (len 3 1 rfl rfl) ?_
  refine q rfl rfl (mv (v := .int _ _) rfl) ?_
  refine TL.nil (nt ?_)
  refine TC.block ?_
  refine TC.loop (ι := Nat) (fun k => k ≤ xs.length) (fun k => [(0, .pointer none), (5, .int .i64 0), (9, .slice a2 xs.length c2), (10, .int .i64 xs.length), (11, .int .i64 (k : Int))]) (fun k => sepL [F]) (fun k => xs.length - k) 0 (Nat.zero_le _) ⟨rfl, rfl, rfl, rfl, rfl, trivial⟩ (ent_take 0 rfl (ent_nil _)) ?_
  rintro k hk ρ0
  dsimp only [updL] at hk ⊢
  refine TC.seq ?_
  refine TC.region ?_
  refine q rfl rfl (lss rfl rfl) ?_
  refine TL.nil (nt ?_)
  refine TC.seq ?_
  first | refine TC.condD rfl (fun hlt => ?_) (fun hlt => ?_) | refine TC.cond rfl (fun hlt => ?_) (fun hlt => ?_)
  · have hkx : k < xs.length := by omega
    obtain ⟨x, hxk⟩ : ∃ x, xs[k]? = some x := ⟨xs[k], List.getElem?_eq_getElem hkx⟩
    have hpos : 0 < (ints xs).length := by omega
    refine TC.skip (nt ?_)
    refine TC.seq ?_
    refine TC.block ?_
    refine TC.seq ?_
    refine TC.region ?_
    first | refine q rfl rfl (ixS 3 1 rfl rfl rfl (by omega) (by first | assumption | (simp [ints_length] <;> omega))) ?_ | refine q rfl rfl (ixJ 3 1 rfl rfl rfl (by omega) (by omega) (by first | assumption | (simp [ints_length] <;> omega))) ?_ | refine q rfl rfl (ix 3 1 rfl rfl rfl (by omega) (by omega) rfl) ?_
    first | refine q rfl rfl (ld rfl rfl rfl) ?_ | refine q rfl rfl (ldS rfl rfl (ints_get hxk)) ?_ | refine q rfl rfl (ldS rfl rfl rfl) ?_
    refine e rfl ?_
    refine al (l := [.int _ _]) rfl rfl ?_
    intro b2
    refine e0 ?_
    refine st (v := .int _ _) (vs := [_]) 1 rfl rfl rfl rfl rfl rfl (Nat.le_of_ble_eq_true rfl) rfl ?_
    refine TL.nil (nt ?_)
    refine TC.seq ?_
    refine TC.region ?_
    refine q rfl rfl (mv (v := .pointer _) rfl) ?_
    first | refine q rfl rfl (ld rfl rfl rfl) ?_ | refine q rfl rfl (ldS rfl rfl (ints_get hxk)) ?_ | refine q rfl rfl (ldS rfl rfl rfl) ?_
    refine e rfl ?_
    refine cl (qat_nil x) rfl (picked_nil _) trivial ?_
    intro _ _
    change TL _ _ _ _ _ _ _ _ (sepL [_, _])
    refine q rfl rfl (asg (v := .pointer _) rfl) ?_
    refine TL.nil (nt ?_)
    refine TC.seq ?_
    refine TC.seq ?_
    refine TC.region ?_
    refine q rfl rfl (mv (v := .pointer _) rfl) ?_
    refine q rfl rfl (eqNil rfl rfl rfl) ?_
    refine TL.nil (nt ?_)
    refine TC.condT rfl ?_
    refine TC.exit (et (eb (nt ?_)))
    refine TC.region ?_
    first | refine q rfl rfl (addI rfl rfl (by omega) (by omega)) ?_ | refine q rfl rfl (add rfl rfl rfl) ?_
    refine q rfl rfl (mv (v := .int _ _) rfl) ?_
    refine TL.nil (nt ?_)
    exact ⟨rfl, (k + 1), (by omega), (by omega), ⟨rfl, rfl, rfl, rfl, rfl, trivial⟩, (ent_take 1 rfl (ent_nil _))⟩
  · refine TC.exit (et (et (eb (nt ?_))))
    refine TC.seq ?_
    refine TC.region ?_
    refine q rfl rfl (mv (v := .int _ _) rfl) ?_
    refine q rfl rfl (asg (v := .int _ _) rfl) ?_
    refine TL.nil (nt ?_)
    refine TC.ret ?_
    exact Ret.i () [_] ⟨rfl, trivial⟩ rfl trivial (ent_take 0 rfl (ent_nil _))

end Go.Proofs.Ytdfmfhcjnjfjbaa.Rd
