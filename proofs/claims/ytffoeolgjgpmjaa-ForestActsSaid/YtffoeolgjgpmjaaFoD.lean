/-
  Proved here: what functions of this program compute, each as a contract over symbolic states, under the premises that each theorem names (most lines printed by a program of the prover).
-/
import Derived.Test.YtffoeolgjgpmjaaFoC
namespace Go.Proofs.Ytffoeolgjgpmjaa
open Go Go.QM
theorem rev_ok (ad : Option Addr) (cap : Nat) (xs : List Int) (hl : xs.length ≤ 1000000000) : FSpec Try.prog 32 [.slice ad xs.length cap] noRd [slc 3 1 ad xs.length cap (ints xs)] (fun _ : Unit => .tuple #[]) (fun _ => True) (fun _ => [slc 3 1 ad xs.length cap (ints xs.reverse)]) := by
  refine FSpec.intro (rs := []) (by kernel_rfl) Try.func32 rfl Try.ntmps32 (by rfl) rfl ?_
  intro F _
  change TC _ _ _ _ _ _ _ (sepL [_, _])
  refine TC.seq ?_
  refine TC.region ?_
  refine q rfl rfl (mv (v := .slice _ _ _) rfl) ?_
  refine q rfl rfl (len 3 1 rfl rfl) ?_
  first | refine q rfl rfl (subI rfl rfl (by omega) (by omega)) ?_ | refine q rfl rfl (sub rfl rfl rfl) ?_
  refine q rfl rfl (asg (v := .int _ _) rfl) ?_
  refine q rfl rfl (asg (v := .int _ _) rfl) ?_
  refine TL.nil (nt ?_)
  refine TC.block ?_
  refine TC.loop (ι := Nat × List Int) (fun s => RevI xs s.1 s.2 ∧ s.1 ≤ xs.length) (fun s => [(0, .slice ad xs.length cap), (2, .int .i64 ((s.1 : Nat) : Int)), (3, .int .i64 ((xs.length : Int) - 1 - ((s.1 : Nat) : Int)))]) (fun s => sepL [slc 3 1 ad xs.length cap (ints s.2), F]) (fun s => xs.length - s.1) ⟨0, xs⟩ ⟨RevI.start xs, Nat.zero_le _⟩ ⟨rfl, rfl, congrArg (Value.int .i64) (by dsimp only; omega), trivial⟩ (ent_take 0 rfl (ent_take 0 rfl (ent_nil _))) ?_
  rintro ⟨i, ys⟩ ⟨hI, hi⟩ ρ0
  dsimp only [updL] at hI hi ⊢
  refine TC.seq ?_
  refine TC.seq ?_
  refine TC.region ?_
  refine q rfl rfl (mv (v := .int _ _) rfl) ?_
  refine q rfl rfl (mv (v := .int _ _) rfl) ?_
  refine q rfl rfl (lss rfl rfl) ?_
  refine TL.nil (nt ?_)
  first | refine TC.condD rfl (fun hlt => ?_) (fun hlt => ?_) | refine TC.cond rfl (fun hlt => ?_) (fun hlt => ?_)
  · have hyl := hI.len
    have hyi := ints_length ys
    obtain ⟨u, hu⟩ : ∃ u, ys[i]? = some u := ⟨ys[i], List.getElem?_eq_getElem (by omega)⟩
    obtain ⟨v, hv⟩ : ∃ v, ys[xs.length - 1 - i]? = some v := ⟨ys[xs.length - 1 - i], List.getElem?_eq_getElem (by omega)⟩
    have hv2 : ys[((xs.length : Int) - 1 - (i : Int)).toNat]? = some v := by rw [show ((xs.length : Int) - 1 - (i : Int)).toNat = xs.length - 1 - i from by omega]; exact hv
    have hyi2 : (ints (ys.set i v)).length = ys.length := by rw [ints_length, List.length_set]
    have hpos : 0 < (ints ys).length := by omega
    refine TC.skip (nt ?_)
    refine TC.seq ?_
    refine TC.block ?_
    refine TC.draw _ [13, 15] [(0, false), (1, false), (2, false), (3, false), (4, false), (5, false), (6, false), (7, false), (8, false), (9, false), (10, false), (11, false), (12, false), (13, true), (14, false), (15, true)] (by kernel_rfl) (by kernel_rfl) (ent.refl _) ?_
    refine dq rfl rfl rfl (mv (v := .slice _ _ _) rfl) ?_
    refine dq rfl rfl rfl (mv (v := .int _ _) rfl) ?_
    refine dq rfl rfl rfl (mv (v := .slice _ _ _) rfl) ?_
    refine dq rfl rfl rfl (mv (v := .int _ _) rfl) ?_
    refine dq rfl rfl rfl (mv (v := .slice _ _ _) rfl) ?_
    refine dq rfl rfl rfl (mv (v := .int _ _) rfl) ?_
    first | refine dq rfl rfl rfl (ixS 3 1 rfl rfl rfl (by omega) (by first | assumption | (simp [ints_length] <;> omega))) ?_ | refine dq rfl rfl rfl (ixJ 3 1 rfl rfl rfl (by omega) (by omega) (by first | assumption | (simp [ints_length] <;> omega))) ?_ | refine dq rfl rfl rfl (ix 3 1 rfl rfl rfl (by omega) (by omega) rfl) ?_
    first | refine dq rfl rfl rfl (ld rfl rfl rfl) ?_ | refine dq rfl rfl rfl (ldS rfl rfl (ints_get hu)) ?_ | refine dq rfl rfl rfl (ldS rfl rfl (ints_get hv2)) ?_ | refine dq rfl rfl rfl (ldS rfl rfl rfl) ?_
    refine dq rfl rfl rfl (mv (v := .slice _ _ _) rfl) ?_
    refine dq rfl rfl rfl (mv (v := .int _ _) rfl) ?_
    first | refine dq rfl rfl rfl (ixS 3 1 rfl rfl rfl (by omega) (by first | assumption | (simp [ints_length] <;> omega))) ?_ | refine dq rfl rfl rfl (ixJ 3 1 rfl rfl rfl (by omega) (by omega) (by first | assumption | (simp [ints_length] <;> omega))) ?_ | refine dq rfl rfl rfl (ix 3 1 rfl rfl rfl (by omega) (by omega) rfl) ?_
    first | refine dq rfl rfl rfl (ld rfl rfl rfl) ?_ | refine dq rfl rfl rfl (ldS rfl rfl (ints_get hu)) ?_ | refine dq rfl rfl rfl (ldS rfl rfl (ints_get hv2)) ?_ | refine dq rfl rfl rfl (ldS rfl rfl rfl) ?_
    first | refine dq rfl rfl rfl (ixS 3 1 rfl rfl rfl (by omega) (by first | assumption | (simp [ints_length] <;> omega))) ?_ | refine dq rfl rfl rfl (ixJ 3 1 rfl rfl rfl (by omega) (by omega) (by first | assumption | (simp [ints_length] <;> omega))) ?_ | refine dq rfl rfl rfl (ix 3 1 rfl rfl rfl (by omega) (by omega) rfl) ?_
    refine dl0 rfl rfl rfl ?_
    first | refine st (v := .int _ _) (vs := [_]) 1 rfl rfl rfl rfl rfl rfl (Nat.le_of_ble_eq_true rfl) rfl ?_ | refine stS (v := .int _ _) (vs := [_]) 1 rfl rfl rfl rfl rfl rfl (by decide) (by omega) (ints_splice1 (i := i) (by omega) (by omega) _) ?_ | refine stS (v := .int _ _) (vs := [_]) 1 rfl rfl rfl rfl rfl rfl (by decide) (by omega) (ints_splice1 (i := xs.length - 1 - i) (by rw [List.length_set]; omega) (by omega) _) ?_
    first | refine dq rfl rfl rfl (ixS 3 1 rfl rfl rfl (by omega) (by first | assumption | (simp [ints_length] <;> omega))) ?_ | refine dq rfl rfl rfl (ixJ 3 1 rfl rfl rfl (by omega) (by omega) (by first | assumption | (simp [ints_length] <;> omega))) ?_ | refine dq rfl rfl rfl (ix 3 1 rfl rfl rfl (by omega) (by omega) rfl) ?_
    refine dl0 rfl rfl rfl ?_
    first | refine st (v := .int _ _) (vs := [_]) 1 rfl rfl rfl rfl rfl rfl (Nat.le_of_ble_eq_true rfl) rfl ?_ | refine stS (v := .int _ _) (vs := [_]) 1 rfl rfl rfl rfl rfl rfl (by decide) (by omega) (ints_splice1 (i := i) (by omega) (by omega) _) ?_ | refine stS (v := .int _ _) (vs := [_]) 1 rfl rfl rfl rfl rfl rfl (by decide) (by omega) (ints_splice1 (i := xs.length - 1 - i) (by rw [List.length_set]; omega) (by omega) _) ?_
    refine TD.nil (nb (nt ?_))
    refine TC.region ?_
    refine q rfl rfl (mv (v := .int _ _) rfl) ?_
    first | refine q rfl rfl (addI rfl rfl (by omega) (by omega)) ?_ | refine q rfl rfl (add rfl rfl rfl) ?_
    refine q rfl rfl (mv (v := .int _ _) rfl) ?_
    first | refine q rfl rfl (subI rfl rfl (by omega) (by omega)) ?_ | refine q rfl rfl (sub rfl rfl rfl) ?_
    refine q rfl rfl (asg (v := .int _ _) rfl) ?_
    refine q rfl rfl (asg (v := .int _ _) rfl) ?_
    refine TL.nil (nt ?_)
    exact ⟨rfl, ⟨i + 1, (ys.set i v).set (xs.length - 1 - i) u⟩, ⟨hI.next (by omega) hu hv, by dsimp only; omega⟩, (by dsimp only; omega), ⟨rfl, rfl, congrArg (Value.int .i64) (by dsimp only; omega), trivial⟩, (ent_take 0 rfl (ent_take 0 rfl (ent_nil _)))⟩
  · have hr := hI.done (by omega)
    subst hr
    refine TC.exit (et (et (eb ?_)))
    exact Ret.n () [] trivial rfl trivial (ent_take 0 rfl (ent_take 0 rfl (ent_nil _)))

set_option maxHeartbeats 1000000 in
theorem fbelow_ok (b : Nat) (L : List Fn) (last : Int) (id : Int) (hl : L.length ≤ 1000000) : FSpec Try.prog 16 [.pointer (some ⟨b, 0, none⟩), .int .i64 id] noRd [isF b L last] (fun y : Option Addr × Nat => .slice y.1 (belR L last id).length y.2) (fun _ => True) (fun y => [slc 3 1 y.1 (belR L last id).length y.2 (ints (belR L last id)), isF b L last]) := by
  refine FSpec.intro (rs := [.tmp 4]) (by kernel_rfl) Try.func16 rfl Try.ntmps16 (by rfl) rfl ?_
  intro F _
  change TC _ _ _ _ _ _ _ (sepL [_, _])
  refine TC.seq ?_
  refine TC.region ?_
  refine q rfl rfl (asg (v := .slice _ _ _) rfl) ?_
  refine TL.nil (nt ?_)
  refine TC.scope (ι := (List Int × (Option Addr × Nat)) × (List Int × (Option Addr × Nat))) 0 (fun s => WalkI L last id s.1.1 s.2.1 ∧ hasN L id) (fun s => [(0, .pointer (some ⟨b, 0, none⟩)), (1, .int .i64 id), (5, .slice s.2.2.1 s.2.1.length s.2.2.2), (6, .slice s.1.2.1 s.1.1.length s.1.2.2)]) (fun s => sepL [slc 3 1 s.1.2.1 s.1.1.length s.1.2.2 (ints s.1.1), slc 3 1 s.2.2.1 s.2.1.length s.2.2.2 (ints s.2.1), isF b L last, F]) (fun s => (s.1.1.flatMap (postL L last)).length) (by rfl) ?_ ?_
  · rintro ⟨⟨W, ⟨wa, wc⟩⟩, ⟨O, ⟨oa, oc⟩⟩⟩ ⟨hI, hid⟩ ρ0
    dsimp only [updL] at hI hid ⊢
    refine TC.seq ?_
    refine TC.seq ?_
    refine TC.region ?_
    refine q rfl rfl (mv (v := .slice _ _ _) rfl) ?_
    refine q rfl rfl (len 3 1 rfl rfl) ?_
    refine q rfl rfl (gtr rfl rfl) ?_
    refine TL.nil (nt ?_)
    first | refine TC.condD rfl (fun hgt => ?_) (fun hgt => ?_) | refine TC.cond rfl (fun hgt => ?_) (fun hgt => ?_)
    · obtain ⟨V, x, rfl⟩ : ∃ V x, W = V ++ [x] := by
        have hne : W ≠ [] := by intro e; rw [e] at hgt; simp at hgt
        exact ⟨W.dropLast, W.getLast hne, (List.dropLast_concat_getLast hne).symm⟩
      have hVl : (V ++ [x]).length = V.length + 1 := by rw [List.length_append, List.length_singleton]
      have hx : (V ++ [x])[(((V.length + 1 : Nat) : Int) - 1).toNat]? = some x := by rw [show (((V.length + 1 : Nat) : Int) - 1).toNat = V.length from by omega]; simp
      have hvx := ints_length (V ++ [x])
      obtain ⟨t, ht, hxe⟩ := hI.mem x (by simp)
      subst hxe
      obtain ⟨M, hM⟩ := perm_mem ht
      rw [hVl]
      refine TC.factSlc 0 rfl (fun _ hwc hmx => ?_)
      simp only [maxLen] at hmx
      have hpos : 0 < (ints (V ++ [t.id])).length := by omega
      refine TC.seq ?_
      refine TC.region ?_
      refine q rfl rfl (mv (v := .slice _ _ _) rfl) ?_
      refine q rfl rfl (mv (v := .slice _ _ _) rfl) ?_
      refine q rfl rfl (len 3 1 rfl rfl) ?_
      first | refine q rfl rfl (subI rfl rfl (by omega) (by omega)) ?_ | refine q rfl rfl (sub rfl rfl rfl) ?_
      first | refine q rfl rfl (ixS 3 1 rfl rfl rfl (by omega) (by first | assumption | (simp [ints_length] <;> omega))) ?_ | refine q rfl rfl (ixJ 3 1 rfl rfl rfl (by omega) (by omega) (by first | assumption | (simp [ints_length] <;> omega))) ?_ | refine q rfl rfl (ix 3 1 rfl rfl rfl (by omega) (by omega) rfl) ?_
      first | refine q rfl rfl (ld rfl rfl rfl) ?_ | refine q rfl rfl (ldS rfl rfl (ints_get hx)) ?_ | refine q rfl rfl (ldS rfl rfl rfl) ?_
      refine q rfl rfl (asg (v := .int _ _) rfl) ?_
      refine TL.nil (nt ?_)
      refine TC.seq ?_
      have hto : ent (slc 3 1 wa (V.length + 1) wc (ints (V ++ [t.id]))) (slc 3 1 wa V.length wc (ints V)) := by
        have := slc_to (E := 3) (sz := 1) (ad := wa) (n := V.length + 1) (cap := wc) (cs := ints (V ++ [t.id])) (j := V.length) (by omega)
        rwa [ints_take1, List.take_left] at this
      refine TC.weak (ent_takeW 0 rfl hto (ent_take 0 rfl (ent_take 0 rfl (ent_take 0 rfl (ent_nil _))))) ?_
      refine TC.open 2 rfl (fun A _ => ?_)
      change TC _ _ _ _ _ _ _ (sepL [_, _, _, _])
      refine TC.open 0 rfl (fun x0 hx0 => ?_)
      obtain ⟨ad, cap, mb, ob⟩ := x0
      have hW := hx0
      change TC _ _ _ _ _ _ _ (sepL [_, _, _, _, _, _, _, _])
      dsimp only at hW ⊢
      have hwi := hI.len hW
      have hf := fN_yes (A := A) ⟨t, ht, rfl⟩
      have hkl := kidsN_len L t.id
      have hil := ints_length (kidsN L t.id)
      rw [List.length_append, List.length_singleton] at hwi
      refine TC.weak (ent_openB 3 rfl hM) ?_
      refine TC.weak (ent_openB 5 rfl hM) ?_
      refine TC.draw _ [] [(0, false), (1, false), (2, false), (3, false), (4, false), (5, false), (6, false), (7, false), (8, false), (9, false), (10, false), (11, false), (12, false), (13, false), (14, true), (15, false)] (by kernel_rfl) (by kernel_rfl) (ent_take 2 rfl (ent_take 3 rfl (ent_take 3 rfl (ent_nil _)))) ?_
      refine dq rfl rfl rfl (mv (v := .slice _ _ _) rfl) ?_
      refine dq rfl rfl rfl (mv (v := .slice _ _ _) rfl) ?_
      refine dq rfl rfl rfl (len 3 1 rfl rfl) ?_
      first | refine dq rfl rfl rfl (subI rfl rfl (by omega) (by omega)) ?_ | refine dq rfl rfl rfl (sub rfl rfl rfl) ?_
      refine dq rfl rfl rfl (slTn 3 1 (V.length) rfl rfl rfl (by omega) (by omega)) ?_
      refine dq rfl rfl rfl (mv (v := .pointer _) rfl) ?_
      first | refine dq rfl rfl rfl (nc rfl) ?_ | refine dq rfl rfl rfl (ncF rfl) ?_ | refine dq rfl rfl rfl (ncS rfl (by first | assumption | (simp [ints_length] <;> omega))) ?_
      first | refine dq rfl rfl rfl (fa 0 rfl rfl) ?_ | refine dq rfl rfl rfl (faS 0 rfl rfl (by first | assumption | (simp [ints_length] <;> omega))) ?_
      first | refine dq rfl rfl rfl (ld rfl rfl rfl) ?_ | refine dq rfl rfl rfl (ldS rfl rfl (ints_get hx)) ?_ | refine dq rfl rfl rfl (ldS rfl rfl rfl) ?_
      refine dq rfl rfl rfl (mv (v := .int _ _) rfl) ?_
      refine dq rfl rfl rfl (luF 3 59 rfl rfl (KL.int rfl) rfl rfl) ?_
      rw [hf]
      first | refine dq rfl rfl rfl (nc rfl) ?_ | refine dq rfl rfl rfl (ncF rfl) ?_ | refine dq rfl rfl rfl (ncS rfl (by first | assumption | (simp [ints_length] <;> omega))) ?_
      first | refine dq rfl rfl rfl (fa 3 rfl rfl) ?_ | refine dq rfl rfl rfl (faS 3 rfl rfl (by first | assumption | (simp [ints_length] <;> omega))) ?_
      first | refine dq rfl rfl rfl (ld rfl rfl rfl) ?_ | refine dq rfl rfl rfl (ldS rfl rfl rfl) ?_
      refine de rfl rfl ?_
      refine ap 8 rfl rfl rfl rfl rfl (by omega) (ints_all1 rfl) (ints_one1 _) (by omega) (by simp only [maxLen]; omega) ?_
      intro ad1 cap1
      refine ⟨(by repeat (first | exact ent_nil _ | refine ent_take 0 rfl ?_ | refine ent_take 1 rfl ?_ | refine ent_take 2 rfl ?_ | refine ent_take 3 rfl ?_ | refine ent_take 4 rfl ?_ | refine ent_take 5 rfl ?_ | refine ent_take 6 rfl ?_ | refine ent_take 7 rfl ?_ | refine ent_take 8 rfl ?_ | refine ent_take 9 rfl ?_ | refine ent_take 10 rfl ?_ | refine ent_take 11 rfl ?_ | refine ent_take 12 rfl ?_)), ?_⟩
      refine dq rfl rfl rfl (asg (v := .slice _ _ _) rfl) ?_
      refine TD.nil (nt ?_)
      refine TC.seq ?_
      refine TC.region ?_
      refine q rfl rfl (mv (v := .slice _ _ _) rfl) ?_
      refine q rfl rfl (mv (v := .int _ _) rfl) ?_
      refine e rfl ?_
      refine bs (cs := [.int _ _]) rfl ?_
      intro b1
      refine e rfl ?_
      refine ap 8 rfl rfl rfl rfl rfl (Nat.le_of_ble_eq_true rfl) (show _ = ints [t.id] from rfl) rfl (by omega) (by simp only [maxLen]; omega) ?_
      intro ad2 cap2
      refine q rfl rfl (asg (v := .slice _ _ _) rfl) ?_
      refine TL.nil (nt ?_)
      refine TC.goto (gt (jg ?_))
      exact ⟨rfl, ⟨⟨V ++ kidsN L t.id, (ad1, cap1)⟩, ⟨O ++ [t.id], (ad2, cap2)⟩⟩, ⟨hI.next hW, hid⟩, (by have e1 := congrArg List.length hI.eq; have e2 := congrArg List.length (hI.next hW).eq; simp only [List.length_append, List.length_reverse, List.length_singleton] at e1 e2 ⊢; omega), ⟨rfl, rfl, congrArg (fun n => Value.slice _ n _) (by dsimp only; rw [List.length_append]; rfl), congrArg (fun n => Value.slice _ n _) (by dsimp only; rw [List.length_append]), trivial⟩, (ent_takeE 2 rfl (by dsimp only; rw [ints_app1, List.length_append]) (ent_takeE 0 rfl (by dsimp only; rw [ints_app1, List.length_append]; rfl) (ent_close A trivial (ent_close ⟨ad, cap, mb, ob⟩ hW (ent_take 5 rfl (ent_take 5 rfl (ent_take 5 rfl (ent_closeB 3 3 t rfl rfl rfl (fun _ _ => rfl) hM.symm (ent_closeB 1 1 t rfl rfl rfl (fun _ _ => rfl) hM.symm (ent_take 1 rfl (ent_nil _)))))))))))⟩
    · obtain rfl : W = [] := List.length_eq_zero_iff.1 (by omega)
      have hrev := hI.done
      have hOl : O.length = (belL L last id).length + 1 := by
        have := congrArg List.length hrev
        rw [List.length_reverse, postL, List.length_append, List.length_singleton] at this; exact this
      have hbl : belR L last id = belL L last id := if_pos hid
      have hpl : (postL L last id).length = (belL L last id).length + 1 := by rw [postL, List.length_append, List.length_singleton]
      rw [hbl]
      refine TC.open 2 rfl (fun A _ => ?_)
      change TC _ _ _ _ _ _ _ (sepL [_, _, _, _])
      refine TC.open 0 rfl (fun x0 hx0 => ?_)
      obtain ⟨ad, cap, mb, ob⟩ := x0
      have hW := hx0
      change TC _ _ _ _ _ _ _ (sepL [_, _, _, _, _, _, _, _])
      dsimp only at hW ⊢
      have hwi := hI.len hW
      rw [List.length_nil] at hwi
      refine TC.skip (nt ?_)
      refine TC.seq ?_
      refine TC.region ?_
      refine q rfl rfl (mv (v := .slice _ _ _) rfl) ?_
      refine e rfl ?_
      refine cl (rev_ok oa oc O (by omega)) rfl (picked_cons 6 rfl (picked_nil _)) trivial ?_
      intro _ _
      change TL _ _ _ _ _ _ _ _ (sepL [_, _, _, _, _, _, _, _])
      rw [hrev, hOl]
      have hto : ent (slc 3 1 oa ((belL L last id).length + 1) oc (ints (postL L last id))) (slc 3 1 oa (belL L last id).length oc (ints (belL L last id))) := by
        have := slc_to (E := 3) (sz := 1) (ad := oa) (n := (belL L last id).length + 1) (cap := oc) (cs := ints (postL L last id)) (j := (belL L last id).length) (by omega)
        rwa [ints_take1, postL, List.take_left] at this
      refine TL.nil (nt ?_)
      refine TC.seq ?_
      refine TC.factSlc 0 rfl (fun _ hoc _ => ?_)
      refine TC.region ?_
      refine q rfl rfl (mv (v := .slice _ _ _) rfl) ?_
      refine q rfl rfl (mv (v := .slice _ _ _) rfl) ?_
      refine q rfl rfl (len 3 1 rfl rfl) ?_
      first | refine q rfl rfl (subI rfl rfl (by omega) (by omega)) ?_ | refine q rfl rfl (sub rfl rfl rfl) ?_
      refine q rfl rfl (slTn 3 1 ((belL L last id).length) rfl rfl rfl (by omega) (by omega)) ?_
      refine q rfl rfl (asg (v := .slice _ _ _) rfl) ?_
      refine TL.nil (nt ?_)
      refine TC.ret (jr ?_)
      exact Ret.i ⟨oa, oc⟩ [_] ⟨rfl, trivial⟩ rfl trivial (ent_takeW 0 rfl hto (ent_close A trivial (ent_close ⟨ad, cap, mb, ob⟩ hW (ent_take 0 rfl (ent_take 0 rfl (ent_take 0 rfl (ent_take 0 rfl (ent_take 0 rfl (ent_take 1 rfl (ent_nil _))))))))))
  · intro hpass
    refine TC.open 0 rfl (fun A _ => ?_)
    change TC _ _ _ _ _ _ _ (sepL [_, _])
    refine TC.open 0 rfl (fun x0 hx0 => ?_)
    obtain ⟨ad, cap, mb, ob⟩ := x0
    have hW := hx0
    change TC _ _ _ _ _ _ _ (sepL [_, _, _, _, _, _])
    dsimp only at hW ⊢
    by_cases hy : hasN L id
    · have hf := fN_yes (A := A) hy
      refine TC.seq ?_
      refine TC.seq ?_
      refine TC.region ?_
      refine q rfl rfl (mv (v := .pointer _) rfl) ?_
      refine q rfl rfl (mv (v := .int _ _) rfl) ?_
      refine e rfl ?_
      refine cl (fat_ok b mb ob L.length last (fN A L) id) rfl (picked_cons 0 rfl (picked_cons 0 rfl (picked_nil _))) trivial ?_
      intro _ _
      change TL _ _ _ _ _ _ _ _ (sepL [_, _, _, _, _, _])
      rw [hf]
      refine q rfl rfl (eqNil rfl rfl rfl) ?_
      refine TL.nil (nt ?_)
      refine TC.condF rfl ?_
      refine TC.skip (nt ?_)
      refine TC.seq ?_
      refine TC.region ?_
      refine q rfl rfl (asg (v := .slice _ _ _) rfl) ?_
      refine TL.nil (nt ?_)
      refine TC.seq ?_
      refine TC.region ?_
      refine q rfl rfl (mv (v := .int _ _) rfl) ?_
      refine e rfl ?_
      refine bs (cs := [.int _ _]) rfl ?_
      intro b2
      refine q rfl rfl (asg (v := .slice _ _ _) rfl) ?_
      refine TL.nil (nt ?_)
      refine TC.seq ?_
      refine TC.label (nt ?_)
      exact TC.enter hpass ⟨⟨[id], (some ⟨b2, 0, none⟩, 1)⟩, ⟨[], (none, 0)⟩⟩ ⟨WalkI.start hy, hy⟩ ⟨rfl, rfl, rfl, rfl, trivial⟩ ((slc_nil 3 1 _).trans (ent_take 1 rfl (ent_take 0 rfl (ent_close A trivial (ent_close ⟨ad, cap, mb, ob⟩ hW (ent_take 0 rfl (ent_take 0 rfl (ent_take 0 rfl (ent_take 0 rfl (ent_take 0 rfl (ent_take 0 rfl (ent_nil _))))))))))))
    · have hf := fN_no (A := A) hy
      rw [belR_none hy]
      refine TC.seq ?_
      refine TC.seq ?_
      refine TC.region ?_
      refine q rfl rfl (mv (v := .pointer _) rfl) ?_
      refine q rfl rfl (mv (v := .int _ _) rfl) ?_
      refine e rfl ?_
      refine cl (fat_ok b mb ob L.length last (fN A L) id) rfl (picked_cons 0 rfl (picked_cons 0 rfl (picked_nil _))) trivial ?_
      intro _ _
      change TL _ _ _ _ _ _ _ _ (sepL [_, _, _, _, _, _])
      rw [hf]
      refine q rfl rfl (eqNil rfl rfl rfl) ?_
      refine TL.nil (nt ?_)
      refine TC.condT rfl ?_
      refine TC.seq ?_
      refine TC.region ?_
      refine q rfl rfl (asg (v := .slice _ _ _) rfl) ?_
      refine TL.nil (nt ?_)
      refine TC.ret (rt (jr ?_))
      exact Ret.i ⟨none, 0⟩ [_] ⟨rfl, trivial⟩ rfl trivial ((slc_nil 3 1 _).trans (ent_take 0 rfl (ent_close A trivial (ent_close ⟨ad, cap, mb, ob⟩ hW (ent_take 0 rfl (ent_take 0 rfl (ent_take 0 rfl (ent_take 0 rfl (ent_take 0 rfl (ent_take 0 rfl (ent_nil _)))))))))))

theorem fbelow_nil (id : Int) : FSpec Try.prog 16 [.pointer none, .int .i64 id] noRd [] (fun _ : Unit => .slice none 0 0) (fun _ => True) (fun _ => []) := by
  refine FSpec.intro (rs := [.tmp 4]) (by kernel_rfl) Try.func16 rfl Try.ntmps16 (by rfl) rfl ?_
  intro F _
  change TC _ _ _ _ _ _ _ (sepL [_])
  refine TC.seq ?_
  refine TC.region ?_
  refine q rfl rfl (asg (v := .slice _ _ _) rfl) ?_
  refine TL.nil (nt ?_)
  refine TC.scope (ι := Empty) 0 (fun s => False) (fun s => []) (fun s => sepL [F]) (fun s => 0) (by rfl) ?_ ?_
  · exact fun i => i.elim
  · intro hpass
    refine TC.seq ?_
    refine TC.seq ?_
    refine TC.region ?_
    refine q rfl rfl (mv (v := .pointer _) rfl) ?_
    refine q rfl rfl (mv (v := .int _ _) rfl) ?_
    refine e rfl ?_
    refine cl (fat_nil id) rfl (picked_nil _) trivial ?_
    intro _ _
    change TL _ _ _ _ _ _ _ _ (sepL [_])
    refine q rfl rfl (eqNil rfl rfl rfl) ?_
    refine TL.nil (nt ?_)
    refine TC.condT rfl ?_
    refine TC.seq ?_
    refine TC.region ?_
    refine q rfl rfl (asg (v := .slice _ _ _) rfl) ?_
    refine TL.nil (nt ?_)
    refine TC.ret (rt (jr ?_))
    exact Ret.i () [_] ⟨rfl, trivial⟩ rfl trivial (ent_take 0 rfl (ent_nil _))

end Go.Proofs.Ytffoeolgjgpmjaa
