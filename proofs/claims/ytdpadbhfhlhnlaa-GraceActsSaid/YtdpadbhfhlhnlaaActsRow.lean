/-
  Proved here: the law GraceActs answers true for every input, and its arguments read behind the call as they read before.
-/
import Derived.Test.YtdpadbhfhlhnlaaRows
import Derived.Test.YtdpadbhfhlhnlaaGraceG
import Derived.Test.YtdpadbhfhlhnlaaQLibX
import Derived.WalkKit
import Derived.ProofKit
import Derived.OpenShut
namespace Go.Proofs.Ytdpadbhfhlhnlaa.graceActs
open Go Go.QM Go.ChangeShapes Go.WideShapes Go.ChangeAt Go.RowKit
theorem one_act {H : Type} {enc : TypeId × Value → H} {W : World} {sp : Nat → Bool} {held : Bool} {fuel : Nat} {cs : List Value} {x : DataW H × List MemPlace} (h : DataW.trod enc Try.prog W 0 sp held fuel 36 cs = some x) :
    ∃ t : ActV, cs = actC t ∧ ∃ E, RdS (here W) E t.ad (ints t.xs) := by
  obtain ⟨y0, y1, n, _, hl, h0, h1⟩ := trod_struct2 Try.underlying36 h
  rw [show Try.prog.cellsOf 36 = 2 from by kernel_rfl] at hl
  obtain ⟨c0, c1, rfl⟩ : ∃ c0 c1, cs = [c0, c1] := by
    match cs, hl with
    | [c0, c1], _ => exact ⟨c0, c1, rfl⟩
  simp only [show Try.prog.cellsOf 29 = 1 from by kernel_rfl, show Try.prog.cellsOf 3 = 1 from by kernel_rfl, List.drop_zero, List.drop_succ_cons, List.take_succ_cons, List.take_zero] at h0 h1
  obtain ⟨ad, xs, cap, e0, hE, _⟩ := one_nums Try.underlying29 Try.underlying3 (by kernel_rfl) h0
  obtain ⟨k, e1, _⟩ := one_int Try.underlying3 h1
  cases e0; cases e1
  exact ⟨⟨ad, cap, xs, k⟩, rfl, hE⟩

theorem own : ownKnob Try.prog.godebug = none := by kernel_rfl
theorem laid : laidOutB Try.prog = true := by kernel_rfl
theorem readable : ∀ t ∈ Try.f3.params.toList, Try.prog.readableRec t = true ∧ t < Try.prog.types.size := by
  rw [Try.params3]
  intro t ht
  simp only [List.mem_cons, List.not_mem_nil, or_false] at ht
  rcases ht with rfl | rfl <;> exact ⟨by kernel_rfl, of_decide_eq_true (by kernel_rfl)⟩

set_option maxRecDepth 100000 in
theorem lifted (os : Os) (started : os.Started) (H : Type) (enc : TypeId × Value → H) :
    ReturnsInHanded {} Try.checked os 3 .any (Rows.graceActsSpec.pre6 enc Try.prog Try.f3 Rows.graceActsRow.domain false) (Rows.graceActsSpec.post enc Try.prog Try.f3 false true false false) := by
  refine returnsInHanded_of_change (C := Try.checked) own started (by kernel_rfl) Try.func3
    (ChangeSpec.witness6 (enc := enc) (C := Try.checked) false ⟨#[], #[.int .i64 0, .slice none 0 0], []⟩ 8 (by kernel_rfl) (by kernel_rfl) (by kernel_rfl) (by kernel_rfl)) ?_
  intro W base args ds gs before hval0 hW hcnd _
  have hval : ∀ (j : Nat) t v, Try.f3.params[j]? = some t → args[j]? = some v → Value.okWide Try.prog W .any base t v := hval0
  have hW' := hW
  obtain ⟨p, q, hA0, hV, rfl, hfz, hnd⟩ := hW
  have hA : DataW.TrodAll enc Try.prog W 0 (fun _ => true) true Try.f3.params.toList args.toList ds p := hA0
  rw [Try.params3] at hA hval
  obtain ⟨v0, v1, d0, d1, p0, p1, rfl, rfl, rfl, h0, h1⟩ := trodAll_two hA
  obtain ⟨rfl, rfl⟩ := trodVars_none hV
  obtain ⟨a, rfl, rfl, rfl, wa⟩ := open_int Try.underlying3 (hval 0 3 v0 rfl rfl) h0
  obtain ⟨ad, l, cap, E, rfl, hE, hD, _, _⟩ := open_recs actC (fun t => ∃ E, RdS (here W) E t.ad (ints t.xs)) 2 Try.underlying22 (by kernel_rfl) (by decide) actC_sz (fun _ _ _ h => one_act h) (hval 1 22 v1 rfl rfl) h1
  refine ((actslaw_ok a ad l cap).lawful ⟨⟨E, hE⟩, hD⟩).mono fun e W' ⟨he, hb⟩ => ?_
  subst he
  exact ⟨_, rfl, law_post hW' rfl rfl (by kernel_rfl) Try.underlying4 laid readable hb⟩

theorem proved : Rows.GraceActsSaid :=
  OpenClaim.holds_of_wide 3 Try.f3 rfl rfl rfl rfl rfl rfl rfl ⟨rfl, rfl, rfl, rfl, rfl⟩ rfl rfl rfl rfl rfl (by kernel_rfl) Try.func3 (by kernel_rfl)
    (of_decide_eq_true (by kernel_rfl)) (by unfold Func.isWrapper; first | (rw [if_pos (by decide +kernel)]; kernel_rfl) | (rw [if_neg (by decide +kernel)]; exact ⟨rfl, rfl⟩))
    (fun os started H enc _ => lifted os started H enc)
#print axioms proved
end Go.Proofs.Ytdpadbhfhlhnlaa.graceActs

