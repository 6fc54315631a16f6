/-
  Proved here: what functions of this program compute, each as a contract over symbolic states, under the premises that each theorem names (most lines printed by a program of the prover).
-/
import Derived.Test.YtdfmfhcjnjfjbaaGreatRows
import Derived.WalkKit
import Derived.Test.YtdfmfhcjnjfjbaaGreatYp
namespace Go.Proofs.YtdfmfhcjnjfjbaaGreat.threadActs
open Go Go.QM Go.ChangeShapes Go.WideShapes Go.ChangeAt Go.RowKit
set_option maxRecDepth 4000 in
theorem one_tact {H : Type} {enc : TypeId × Value → H} {W : World} {sp : Nat → Bool} {held : Bool} {fuel : Nat} {cs : List Value} {x : DataW H × List MemPlace} (h : DataW.trod enc Tryz.prog W 0 sp held fuel 63 cs = some x) :
 ∃ t : TAct, cs = tactC t ∧ ((-9223372036854775808 ≤ t.kind ∧ t.kind ≤ 9223372036854775807) ∧ (-9223372036854775808 ≤ t.id ∧ t.id ≤ 9223372036854775807) ∧ (-9223372036854775808 ≤ t.to ∧ t.to ≤ 9223372036854775807) ∧ (-9223372036854775808 ≤ t.n ∧ t.n ≤ 9223372036854775807) ∧ (-9223372036854775808 ≤ t.m ∧ t.m ≤ 9223372036854775807)) := by
 obtain ⟨xs, n, _, _, hl, hlen, hf⟩ := DataW.trod_struct Tryz.underlying63 h
 rw [show Tryz.prog.cellsOf 63 = 6 from by kernel_rfl] at hl
 obtain ⟨c0, c1, c2, c3, c4, c5, rfl⟩ : ∃ c0 c1 c2 c3 c4 c5, cs = [c0, c1, c2, c3, c4, c5] := by
  match cs, hl with
  | [c0, c1, c2, c3, c4, c5], _ => exact ⟨c0, c1, c2, c3, c4, c5, rfl⟩
 have hlen : xs.length = 6 := hlen
 obtain ⟨x0, x1, x2, x3, x4, x5, rfl⟩ : ∃ x0 x1 x2 x3 x4 x5, xs = [x0, x1, x2, x3, x4, x5] := by
  match xs, hlen with
  | [x0, x1, x2, x3, x4, x5], _ => exact ⟨x0, x1, x2, x3, x4, x5, rfl⟩
 have hc : Tryz.prog.cellsOf 3 = 1 := by kernel_rfl
 have hcb : Tryz.prog.cellsOf 4 = 1 := by kernel_rfl
 have h0 := hf 0 _ rfl
 have h1 := hf 1 _ rfl
 have h2 := hf 2 _ rfl
 have h3 := hf 3 _ rfl
 have h4 := hf 4 _ rfl
 have h5 := hf 5 _ rfl
 simp only [List.getElem_toArray, List.getElem_cons_zero, List.getElem_cons_succ, hc, hcb, List.drop_zero, List.drop_succ_cons, List.take_succ_cons, List.take_zero] at h0 h1 h2 h3 h4 h5
 obtain ⟨k, e0, w0⟩ := one_int Tryz.underlying3 h0
 obtain ⟨a, e1, w1⟩ := one_int Tryz.underlying3 h1
 obtain ⟨b, e2, w2⟩ := one_int Tryz.underlying3 h2
 obtain ⟨n, e3, w3⟩ := one_int Tryz.underlying3 h3
 obtain ⟨m, e4, w4⟩ := one_int Tryz.underlying3 h4
 obtain ⟨c, e5⟩ := one_bool Tryz.underlying4 h5
 cases e0; cases e1; cases e2; cases e3; cases e4; cases e5
 exact ⟨⟨k, a, b, n, m, c⟩, rfl, i64_of w0, i64_of w1, i64_of w2, i64_of w3, i64_of w4⟩
theorem own : ownKnob Tryz.prog.godebug = none := by kernel_rfl
theorem laid : laidOutB Tryz.prog = true := by kernel_rfl
theorem readable : ∀ t ∈ Tryz.f3.params.toList, Tryz.prog.readableRec t = true ∧ t < Tryz.prog.types.size := by
 rw [Tryz.params3]
 intro t ht
 simp only [List.mem_cons, List.not_mem_nil, or_false] at ht
 subst ht; exact ⟨by kernel_rfl, of_decide_eq_true (by kernel_rfl)⟩
set_option maxRecDepth 100000 in
theorem lifted (os : Os) (started : os.Started) (H : Type) (enc : TypeId × Value → H) :
 ReturnsInHanded {} Tryz.checked os 3 .any (Rows.threadActsSpec.pre6 enc Tryz.prog Tryz.f3 Rows.threadActsRow.domain false) (Rows.threadActsSpec.post enc Tryz.prog Tryz.f3 false true false false) := by
 refine returnsInHanded_of_change (C := Tryz.checked) own started (by kernel_rfl) Tryz.func3
  (ChangeSpec.witness6 (enc := enc) (C := Tryz.checked) false ⟨#[], #[.slice none 0 0], []⟩ 8 (by kernel_rfl) (by kernel_rfl) (by kernel_rfl) (by kernel_rfl)) ?_
 intro W base args ds gs before hval0 hW hcnd _
 have hval : ∀ (j : Nat) t v, Tryz.f3.params[j]? = some t → args[j]? = some v → Value.okWide Tryz.prog W .any base t v := hval0
 have hW' := hW
 obtain ⟨p, q, hA0, hV, rfl, hfz, hnd⟩ := hW
 have hA : DataW.TrodAll enc Tryz.prog W 0 (fun _ => true) true Tryz.f3.params.toList args.toList ds p := hA0
 rw [Tryz.params3] at hA hval
 obtain ⟨v0, d0, rfl, rfl, h0⟩ := trodAll_one hA
 obtain ⟨rfl, rfl⟩ := trodVars_none hV
 obtain ⟨ad, l, cap, E, rfl, hE, hD, _, _⟩ := open_recs tactC (fun t => (-9223372036854775808 ≤ t.kind ∧ t.kind ≤ 9223372036854775807) ∧ (-9223372036854775808 ≤ t.id ∧ t.id ≤ 9223372036854775807) ∧ (-9223372036854775808 ≤ t.to ∧ t.to ≤ 9223372036854775807) ∧ (-9223372036854775808 ≤ t.n ∧ t.n ≤ 9223372036854775807) ∧ (-9223372036854775808 ≤ t.m ∧ t.m ≤ 9223372036854775807)) 6 Tryz.underlying22 (by kernel_rfl) (by decide) tactC_sz (fun _ _ _ h => one_tact h) (hval 0 22 v0 rfl rfl) h0
 refine ((tacts_ok ad l cap).lawful ⟨E, hE⟩).mono fun e W' ⟨he, hb⟩ => ?_
 subst he
 exact ⟨_, rfl, law_post hW' rfl rfl (by kernel_rfl) Tryz.underlying4 laid readable hb⟩
theorem proved : Rows.ThreadActsSaid :=
 OpenClaim.holds_of_wide 3 Tryz.f3 rfl rfl rfl rfl rfl rfl rfl ⟨rfl, rfl, rfl, rfl, rfl⟩ rfl rfl rfl rfl rfl (by kernel_rfl) Tryz.func3 (by kernel_rfl)
  (of_decide_eq_true (by kernel_rfl)) (by unfold Func.isWrapper; first | (rw [if_pos (by decide +kernel)]; kernel_rfl) | (rw [if_neg (by decide +kernel)]; exact ⟨rfl, rfl⟩))
  (fun os started H enc _ => lifted os started H enc)
#print axioms proved
end Go.Proofs.YtdfmfhcjnjfjbaaGreat.threadActs
