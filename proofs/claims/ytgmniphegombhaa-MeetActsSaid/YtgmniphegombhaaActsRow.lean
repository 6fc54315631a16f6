/-
  Proved here: the law MeetActs answers true for every input, and its arguments read behind the call as they read before.
-/
import Derived.Test.YtgmniphegombhaaRows
import Derived.Test.YtgmniphegombhaaMtY
import Derived.Test.YtgmniphegombhaaQLibX
import Derived.WalkKit
import Derived.ProofKit
import Derived.OpenShut
namespace Go.Proofs.Ytgmniphegombhaa.meetActs
open Go Go.QM Go.ChangeShapes Go.WideShapes Go.ChangeAt Go.RowKit
set_option maxRecDepth 4000 in
theorem one_mact {H : Type} {enc : TypeId × Value → H} {W : World} {sp : Nat → Bool} {held : Bool} {fuel : Nat} {cs : List Value} {x : DataW H × List MemPlace} (h : DataW.trod enc Try.prog W 0 sp held fuel 63 cs = some x) :
    ∃ t : MAct, cs = mactC t ∧ ((-9223372036854775808 ≤ t.kind ∧ t.kind ≤ 9223372036854775807) ∧ (-9223372036854775808 ≤ t.id ∧ t.id ≤ 9223372036854775807) ∧ (-9223372036854775808 ≤ t.fr ∧ t.fr ≤ 9223372036854775807) ∧ -9223372036854775808 ≤ t.gt ∧ t.gt ≤ 9223372036854775807) := by
  obtain ⟨xs, n, _, _, hl, hlen, hf⟩ := DataW.trod_struct Try.underlying63 h
  rw [show Try.prog.cellsOf 63 = 5 from by kernel_rfl] at hl
  obtain ⟨c0, c1, c2, c3, c4, rfl⟩ : ∃ c0 c1 c2 c3 c4, cs = [c0, c1, c2, c3, c4] := by
    match cs, hl with
    | [c0, c1, c2, c3, c4], _ => exact ⟨c0, c1, c2, c3, c4, rfl⟩
  have hlen : xs.length = 3 := hlen
  obtain ⟨x0, x1, x2, rfl⟩ : ∃ x0 x1 x2, xs = [x0, x1, x2] := by
    match xs, hlen with
    | [x0, x1, x2], _ => exact ⟨x0, x1, x2, rfl⟩
  have hc : Try.prog.cellsOf 3 = 1 := by kernel_rfl
  have hcb : Try.prog.cellsOf 4 = 1 := by kernel_rfl
  have hcs : Try.prog.cellsOf 31 = 3 := by kernel_rfl
  have h0 := hf 0 _ rfl
  have h1 := hf 1 _ rfl
  have h2 := hf 2 _ rfl
  simp only [List.getElem_toArray, List.getElem_cons_zero, List.getElem_cons_succ, hc, hcs, List.drop_zero, List.drop_succ_cons, List.take_succ_cons, List.take_zero] at h0 h1 h2
  obtain ⟨k, e0, w0⟩ := one_int Try.underlying3 h0
  obtain ⟨a, e1, w1⟩ := one_int Try.underlying3 h1
  obtain ⟨ys, m, _, _, _, hlen2, hg⟩ := DataW.trod_struct Try.underlying31 h2
  have hlen2 : ys.length = 3 := hlen2
  obtain ⟨y0, y1, y2, rfl⟩ : ∃ y0 y1 y2, ys = [y0, y1, y2] := by
    match ys, hlen2 with
    | [y0, y1, y2], _ => exact ⟨y0, y1, y2, rfl⟩
  have h3 := hg 0 _ rfl
  have h4 := hg 1 _ rfl
  have h5 := hg 2 _ rfl
  simp only [List.getElem_toArray, List.getElem_cons_zero, List.getElem_cons_succ, hc, hcb, List.drop_zero, List.drop_succ_cons, List.take_succ_cons, List.take_zero] at h3 h4 h5
  obtain ⟨f, e3, w3⟩ := one_int Try.underlying3 h3
  obtain ⟨g, e4, w4⟩ := one_int Try.underlying3 h4
  obtain ⟨c, e5⟩ := one_bool Try.underlying4 h5
  cases e0; cases e1; cases e3; cases e4; cases e5
  exact ⟨⟨k, a, f, g, c⟩, rfl, i64_of w0, i64_of w1, i64_of w3, i64_of w4⟩

theorem own : ownKnob Try.prog.godebug = none := by kernel_rfl
theorem laid : laidOutB Try.prog = true := by kernel_rfl
theorem readable : ∀ t ∈ Try.f8.params.toList, Try.prog.readableRec t = true ∧ t < Try.prog.types.size := by
  rw [Try.params8]
  intro t ht
  simp only [List.mem_cons, List.not_mem_nil, or_false] at ht
  subst ht; exact ⟨by kernel_rfl, of_decide_eq_true (by kernel_rfl)⟩

set_option maxRecDepth 100000 in
theorem lifted (os : Os) (started : os.Started) (H : Type) (enc : TypeId × Value → H) :
    ReturnsInHanded {} Try.checked os 8 .any (Rows.meetActsSpec.pre6 enc Try.prog Try.f8 Rows.meetActsRow.domain false) (Rows.meetActsSpec.post enc Try.prog Try.f8 false true false false) := by
  refine returnsInHanded_of_change (C := Try.checked) own started (by kernel_rfl) Try.func8
    (ChangeSpec.witness6 (enc := enc) (C := Try.checked) false ⟨#[], #[.slice none 0 0], []⟩ 8 (by kernel_rfl) (by kernel_rfl) (by kernel_rfl) (by kernel_rfl)) ?_
  intro W base args ds gs before hval0 hW hcnd _
  have hval : ∀ (j : Nat) t v, Try.f8.params[j]? = some t → args[j]? = some v → Value.okWide Try.prog W .any base t v := hval0
  have hW' := hW
  obtain ⟨p, q, hA0, hV, rfl, hfz, hnd⟩ := hW
  have hA : DataW.TrodAll enc Try.prog W 0 (fun _ => true) true Try.f8.params.toList args.toList ds p := hA0
  rw [Try.params8] at hA hval
  obtain ⟨v0, d0, rfl, rfl, h0⟩ := trodAll_one hA
  obtain ⟨rfl, rfl⟩ := trodVars_none hV
  obtain ⟨ad, l, cap, E, rfl, hE, hD, _, _⟩ := open_recs mactC (fun t => (-9223372036854775808 ≤ t.kind ∧ t.kind ≤ 9223372036854775807) ∧ (-9223372036854775808 ≤ t.id ∧ t.id ≤ 9223372036854775807) ∧ (-9223372036854775808 ≤ t.fr ∧ t.fr ≤ 9223372036854775807) ∧ -9223372036854775808 ≤ t.gt ∧ t.gt ≤ 9223372036854775807) 5 Try.underlying42 (by kernel_rfl) (by decide) mactC_sz (fun _ _ _ h => one_mact h) (hval 0 42 v0 rfl rfl) h0
  refine ((macts_ok ad l cap).lawful ⟨E, hE⟩).mono fun e W' ⟨he, hb⟩ => ?_
  subst he
  exact ⟨_, rfl, law_post hW' rfl rfl (by kernel_rfl) Try.underlying4 laid readable hb⟩

theorem proved : Rows.MeetActsSaid :=
  OpenClaim.holds_of_wide 8 Try.f8 rfl rfl rfl rfl rfl rfl rfl ⟨rfl, rfl, rfl, rfl, rfl⟩ rfl rfl rfl rfl rfl (by kernel_rfl) Try.func8 (by kernel_rfl)
    (of_decide_eq_true (by kernel_rfl)) (by unfold Func.isWrapper; first | (rw [if_pos (by decide +kernel)]; kernel_rfl) | (rw [if_neg (by decide +kernel)]; exact ⟨rfl, rfl⟩))
    (fun os started H enc _ => lifted os started H enc)
#print axioms proved
end Go.Proofs.Ytgmniphegombhaa.meetActs

