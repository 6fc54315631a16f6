/-
  Proved here: the law HandleWorn answers true for every input, and its arguments read behind the call as they read before.
-/
import Derived.Test.YtjnjijgplmmaiaaRows
import Derived.Test.YtjnjijgplmmaiaaHandG
import Derived.Test.YtjnjijgplmmaiaaQLibX
import Derived.WalkKit
import Derived.ProofKit
import Derived.OpenShut
namespace Go.Proofs.Ytjnjijgplmmaiaa.handleWorn
open Go Go.QM Go.ChangeShapes Go.WideShapes Go.ChangeAt Go.RowKit
theorem one_ob {H : Type} {enc : TypeId × Value → H} {W : World} {sp : Nat → Bool} {held : Bool} {fuel : Nat} {cs : List Value} {x : DataW H × List MemPlace} (h : DataW.trod enc Try.prog W 0 sp held fuel 32 cs = some x) : ∃ o : Ob, cs = ints o.l := by
  obtain ⟨xs, n, _, _, hl, hlen, hf⟩ := DataW.trod_struct Try.underlying32 h
  rw [show Try.prog.cellsOf 32 = 3 from by kernel_rfl] at hl
  obtain ⟨c0, c1, c2, rfl⟩ : ∃ c0 c1 c2, cs = [c0, c1, c2] := by
    match cs, hl with
    | [c0, c1, c2], _ => exact ⟨c0, c1, c2, rfl⟩
  have hlen : xs.length = 3 := hlen
  obtain ⟨x0, x1, x2, rfl⟩ : ∃ x0 x1 x2, xs = [x0, x1, x2] := by
    match xs, hlen with
    | [x0, x1, x2], _ => exact ⟨x0, x1, x2, rfl⟩
  have hc : Try.prog.cellsOf 3 = 1 := by kernel_rfl
  have h0 := hf 0 _ rfl
  have h1 := hf 1 _ rfl
  have h2 := hf 2 _ rfl
  simp only [List.getElem_toArray, List.getElem_cons_zero, List.getElem_cons_succ, hc, List.drop_zero, List.drop_succ_cons, List.take_succ_cons, List.take_zero] at h0 h1 h2
  obtain ⟨k, e0, _⟩ := one_int Try.underlying3 h0
  obtain ⟨a, e1, _⟩ := one_int Try.underlying3 h1
  obtain ⟨f, e2, _⟩ := one_int Try.underlying3 h2
  cases e0; cases e1; cases e2
  exact ⟨⟨k, a, f⟩, rfl⟩

theorem own : ownKnob Try.prog.godebug = none := by kernel_rfl
theorem laid : laidOutB Try.prog = true := by kernel_rfl
theorem readable : ∀ t ∈ Try.f4.params.toList, Try.prog.readableRec t = true ∧ t < Try.prog.types.size := by
  rw [Try.params4]
  intro t ht
  simp only [List.mem_cons, List.not_mem_nil, or_false] at ht
  rcases ht with rfl | rfl <;> exact ⟨by kernel_rfl, of_decide_eq_true (by kernel_rfl)⟩

set_option maxRecDepth 100000 in
theorem lifted (os : Os) (started : os.Started) (H : Type) (enc : TypeId × Value → H) :
    ReturnsInHanded {} Try.checked os 4 .any (Rows.handleWornSpec.pre6 enc Try.prog Try.f4 Rows.handleWornRow.domain false) (Rows.handleWornSpec.post enc Try.prog Try.f4 false true false false) := by
  refine returnsInHanded_of_change (C := Try.checked) own started (by kernel_rfl) Try.func4
    (ChangeSpec.witness6 (enc := enc) (C := Try.checked) false ⟨#[], #[.int .u8 0, .agg #[.int .i64 0, .int .i64 0, .int .i64 0]], []⟩ 8 (by kernel_rfl) (by kernel_rfl) (by kernel_rfl) (by kernel_rfl)) ?_
  intro W base args ds gs before hval0 hW hcnd _
  have hval : ∀ (j : Nat) t v, Try.f4.params[j]? = some t → args[j]? = some v → Value.okWide Try.prog W .any base t v := hval0
  have hW' := hW
  obtain ⟨p, q, hA0, hV, rfl, hfz, hnd⟩ := hW
  have hA : DataW.TrodAll enc Try.prog W 0 (fun _ => true) true Try.f4.params.toList args.toList ds p := hA0
  rw [Try.params4] at hA hval
  obtain ⟨v0, v1, d0, d1, p0, p1, rfl, rfl, rfl, h0, h1⟩ := trodAll_two hA
  obtain ⟨rfl, rfl⟩ := trodVars_none hV
  obtain ⟨n, rfl, rfl, rfl, wn⟩ := open_int Try.underlying5 (hval 0 5 v0 rfl rfl) h0
  obtain ⟨c0, rfl, _⟩ := okWide_struct Try.underlying32 (hval 1 32 v1 rfl rfl)
  obtain ⟨fuel, hf⟩ := h1
  obtain ⟨o, ho⟩ := one_ob hf
  obtain rfl : c0 = (ints o.l).toArray := by apply Array.ext'; simpa [Value.cells] using ho
  obtain ⟨pl, rfl⟩ := Int.eq_ofNat_of_zero_le (u8_of wn).1
  refine ((worn_ok pl o (by have := u8_of wn; omega)).lawful trivial).mono fun e W' ⟨he, hb⟩ => ?_
  subst he
  exact ⟨_, rfl, law_post hW' rfl rfl (by kernel_rfl) Try.underlying4 laid readable hb⟩

theorem proved : Rows.HandleWornSaid :=
  OpenClaim.holds_of_wide 4 Try.f4 rfl rfl rfl rfl rfl rfl rfl ⟨rfl, rfl, rfl, rfl, rfl⟩ rfl rfl rfl rfl rfl (by kernel_rfl) Try.func4 (by kernel_rfl)
    (of_decide_eq_true (by kernel_rfl)) (by unfold Func.isWrapper; first | (rw [if_pos (by decide +kernel)]; kernel_rfl) | (rw [if_neg (by decide +kernel)]; exact ⟨rfl, rfl⟩))
    (fun os started H enc _ => lifted os started H enc)
#print axioms proved
end Go.Proofs.Ytjnjijgplmmaiaa.handleWorn

