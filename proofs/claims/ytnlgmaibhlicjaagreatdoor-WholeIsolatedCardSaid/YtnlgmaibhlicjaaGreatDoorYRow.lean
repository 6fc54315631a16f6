/- Proved here: contracts of functions of this program, under the premises that each theorem names. -/
import Derived.LaidMore
import Derived.Stop.Joined
import Derived.Test.YtnlgmaibhlicjaaGreatDoorYz
set_option maxRecDepth 4000
namespace Go.Proofs.YtnlgmaibhlicjaaGreatDoor
open Go Go.QM Go.ChangeShapes Go.WideShapes Go.ChangeAt Go.RowKit
theorem own : ownKnob Tryz.prog.godebug = none := by kernel_rfl
theorem laidO : laidOutB Tryz.prog = true := by kernel_rfl
theorem readable : ∀ t ∈ Tryz.f3.params.toList, Tryz.prog.readableRec t = true ∧ t < Tryz.prog.types.size := by
 rw [Tryz.params3]
 intro t ht
 simp only [List.mem_cons, List.not_mem_nil, or_false] at ht
 rcases ht with rfl | rfl | rfl <;> exact ⟨by kernel_rfl, of_decide_eq_true (by kernel_rfl)⟩
theorem chunks_of {α : Type} {ce : α → List Value} {sz : Nat} : ∀ {L : List α} {cs : List Value}, cs.length = L.length * sz → (∀ i a, L[i]? = some a → (cs.drop (i * sz)).take sz = ce a) → cs = L.flatMap ce
 | [], cs, hl, _ => by rw [List.length_nil, Nat.zero_mul] at hl; rw [List.length_eq_zero_iff.1 hl]; rfl
 | a :: L, cs, hl, h => by
  have h0 := h 0 a rfl
  rw [Nat.zero_mul, List.drop_zero] at h0
  rw [List.length_cons, Nat.succ_mul] at hl
  have ih := chunks_of (ce := ce) (sz := sz) (L := L) (cs := cs.drop sz) (by rw [List.length_drop]; omega) (fun i b hb => by
   have := h (i + 1) b hb
   rwa [Nat.succ_mul, Nat.add_comm, ← List.drop_drop] at this)
  rw [List.flatMap_cons, ← h0, ← ih, List.take_append_drop]
section
variable {H : Type} {enc : TypeId × Value → H} {P : Program} {W : World} {b : Nat} {sp : Nat → Bool} {held : Bool}
theorem arr_of {α : Type} {n : Nat} {e t : TypeId} {fuel : Nat} {cs : List Value} {q : List MemPlace} {L : List α} (ce : α → List Value) (de : α → DataW H) (sz : Nat) (ht : P.underlying t = some (.array n e)) (hc : P.cellsOf e = sz) (hct : P.cellsOf t = n * sz)
 (h1 : ∀ m ds a q, DataW.trod enc P W b sp held m e ds = some (de a, q) → ds = ce a) (h : DataW.trod enc P W b sp held fuel t cs = some (.agg (L.map de), q)) : cs = L.flatMap ce := by
 obtain ⟨xs, m, rfl, hx, hl, hn, hf⟩ := DataW.trod_array ht h
 simp only [Prod.mk.injEq, DataW.agg.injEq] at hx
 have hLn : L.length = n := by have := congrArg List.length hx.1; rw [List.length_map, List.length_map] at this; omega
 refine chunks_of (sz := sz) (by rw [hl, hct, hLn]) (fun i a ha => ?_)
 have hi : i < n := by rw [← hLn]; exact (List.getElem?_eq_some_iff.1 ha).1
 have h2 := hf i hi
 rw [hc] at h2
 have hxi : i < xs.length := by omega
 rw [List.getElem?_eq_getElem hxi] at h2
 have h3 : (xs[i]).1 = de a := by
  have := congrArg (fun z => z[i]?) hx.1
  simp only [List.getElem?_map, ha, List.getElem?_eq_getElem hxi, Option.map_some, Option.some.injEq] at this
  exact this.symm
 exact h1 m _ a (xs[i]).2 (by rw [h2, ← h3])
theorem int_of {k : IntKind} {t : TypeId} (ht : P.underlying t = some (.int k)) (m : Nat) (ds : List Value) (a : Int) (q : List MemPlace) (h : DataW.trod enc P W b sp held m t ds = some (.lit (.int k a), q)) : ds = [.int k a] := by
 obtain ⟨n, e1, e2, _⟩ := DataW.trod_int ht h
 simp only [Prod.mk.injEq, DataW.lit.injEq, Lit.int.injEq, true_and] at e2
 rw [e1, e2.1]
end
theorem var_heap {P : Program} {w : World} {n : String} {g : Nat} {cs : Array Value} (hg : P.globalNamed n = some g) (h : w.var? P n = some cs) : ∃ E fz, w.heap[g]? = some (.cells cs E fz) := by
 simp only [World.var?, hg, Option.bind_some] at h
 split at h <;> simp_all
def askL : List (Int × Int × Bool) := [(0, 0, false), (1, 1, true), (0, 8, true), (3, 2, true), (3, 2, true), (4, 2, true), (5, 2, true), (5, 2, true), (5, 2, true), (5, 1, true), (4, 1, true), (0, 0, false), (0, 0, false), (0, 0, false), (0, 0, false), (2, 2, true), (0, 0, true), (8, 1, true), (8, 2, true)]
theorem ask_of {W : World} {b : Nat} {sp : Nat → Bool} {held : Bool} {H : Type} {enc : TypeId × Value → H} (m : Nat) (ds : List Value) (a : Int × Int × Bool) (q : List MemPlace) (h : DataW.trod enc Tryz.prog W b sp held m 317 ds = some (.agg [.lit (.int .i64 a.1), .lit (.int .i64 a.2.1), .lit (.bool a.2.2)], q)) : ds = askC a.1 a.2.1 a.2.2 := by
 obtain ⟨xs, n, _, hx, hl, hlen, hf⟩ := DataW.trod_struct Tryz.underlying317 h
 rw [show Tryz.prog.cellsOf 317 = 3 from by kernel_rfl] at hl
 obtain ⟨c0, c1, c2, rfl⟩ : ∃ c0 c1 c2, ds = [c0, c1, c2] := by
  match ds, hl with
  | [c0, c1, c2], _ => exact ⟨c0, c1, c2, rfl⟩
 have hlen : xs.length = 3 := hlen
 obtain ⟨x0, x1, x2, rfl⟩ : ∃ x0 x1 x2, xs = [x0, x1, x2] := by
  match xs, hlen with
  | [x0, x1, x2], _ => exact ⟨x0, x1, x2, rfl⟩
 have hi : Tryz.prog.cellsOf 3 = 1 := by kernel_rfl
 have hb : Tryz.prog.cellsOf 4 = 1 := by kernel_rfl
 have h0 := hf 0 _ rfl
 have h1 := hf 1 _ rfl
 have h2 := hf 2 _ rfl
 simp only [List.getElem_toArray, List.getElem_cons_zero, List.getElem_cons_succ, hi, hb, List.drop_zero, List.drop_succ_cons, List.take_succ_cons, List.take_zero] at h0 h1 h2
 obtain ⟨k0, e0, f0, _⟩ := DataW.trod_int Tryz.underlying3 h0
 obtain ⟨k1, e1, f1, _⟩ := DataW.trod_int Tryz.underlying3 h1
 obtain ⟨k2, e2, f2⟩ := DataW.trod_bool Tryz.underlying4 h2
 cases e0; cases e1; cases e2; subst f0 f1 f2
 simp only [List.map_cons, List.map_nil, Prod.mk.injEq, DataW.agg.injEq, List.cons.injEq, DataW.lit.injEq, Lit.int.injEq, Lit.bool.injEq, true_and, and_true] at hx
 obtain ⟨⟨g0, g1, g2⟩, _⟩ := hx
 rw [g0, g1, g2]; rfl
theorem gv_of {W : World} (h : laidMetH Tryz.prog Rows.wholeIsolatedRow.laid W) : GV (here W) := by
 rw [MakeChecks.laidMetH_plain _ _ _ (by kernel_rfl)] at h
 obtain ⟨ps, ⟨g0, t0, cs0, f0, p0, q0, hg0, ht0, hv0, hd0, ⟨g1, t1, cs1, f1, p1, q1, hg1, ht1, hv1, hd1, ⟨g2, t2, cs2, f2, p2, q2, hg2, ht2, hv2, hd2, ⟨g3, t3, cs3, f3, p3, q3, hg3, ht3, hv3, hd3, _, _⟩, _⟩, _⟩, _⟩, _, _⟩ := h
 obtain rfl := Option.some.inj ((show Tryz.prog.globalNamed _ = some 3 by kernel_rfl).symm.trans hg1)
 obtain rfl := Option.some.inj ((show Tryz.prog.globalNamed _ = some 0 by kernel_rfl).symm.trans hg2)
 obtain rfl := Option.some.inj ((show Tryz.prog.globalNamed _ = some 1 by kernel_rfl).symm.trans hg3)
 obtain rfl := Option.some.inj ((show (Tryz.prog.globals[3]?).map (·.type) = some 374 by kernel_rfl).symm.trans ht1)
 obtain rfl := Option.some.inj ((show (Tryz.prog.globals[0]?).map (·.type) = some 168 by kernel_rfl).symm.trans ht2)
 obtain rfl := Option.some.inj ((show (Tryz.prog.globals[1]?).map (·.type) = some 318 by kernel_rfl).symm.trans ht3)
 have e1 : cs1.toList = tz64C := by
  have := arr_of (L := Lib.deBruijn64tab.map fun n : Nat => (n : Int)) (fun a => [Value.int .u8 a]) (fun a => .lit (.int .u8 a)) 1 Tryz.underlying374 (by kernel_rfl) (by kernel_rfl) (int_of Tryz.underlying5) hd1
  exact this.trans (by kernel_rfl)
 have e2 : cs2.toList = costsC := by
  have := arr_of (L := [0, 64, 128, 256, 32, 32, 48, 256]) (fun a => [Value.int .i64 a]) (fun a => .lit (.int .i64 a)) 1 Tryz.underlying168 (by kernel_rfl) (by kernel_rfl) (int_of Tryz.underlying3) hd2
  exact this.trans (by kernel_rfl)
 have e3 : cs3.toList = asksC := by
  have := arr_of (L := askL) (fun a => askC a.1 a.2.1 a.2.2) (fun a => .agg [.lit (.int .i64 a.1), .lit (.int .i64 a.2.1), .lit (.bool a.2.2)]) 3 Tryz.underlying318 (by kernel_rfl) (by kernel_rfl) ask_of hd3
  exact this.trans (by kernel_rfl)
 obtain ⟨E1, z1, k1⟩ := var_heap hg1 hv1
 obtain ⟨E2, z2, k2⟩ := var_heap hg2 hv2
 obtain ⟨E3, z3, k3⟩ := var_heap hg3 hv3
 refine ⟨⟨E2, z2, fun hh e => ?_⟩, ⟨E3, z3, fun hh e => ?_⟩, ⟨E1, z1, fun hh e => ?_⟩⟩
 ·rw [e, k2, ← e2]
 ·rw [e, k3, ← e3]
 ·rw [e, k1, ← e1]
theorem door_met (os : Os) (args : Array Value) : laidMetH Tryz.prog Rows.wholeIsolatedRow.laid ((World.doorLaid Tryz.prog 43 os).forCall (fun _ _ => 0) ⟨#[], args, []⟩).memory :=
 laidMetH_of_parts3 (fuel := 8) (laidMet_of_run' 8 (by kernel_rfl) (by kernel_rfl)) (by kernel_rfl) (by kernel_rfl)
theorem lifted (os : Os) (started : os.Started) (H : Type) (enc : TypeId × Value → H) :
 ReturnsInHanded {} Tryz.checked os 3 .any (fun w args => (Rows.wholeIsolatedSpec.pre enc Tryz.prog Tryz.f3 [] false w args ∧ laidMetH Tryz.prog Rows.wholeIsolatedRow.laid w) ∧ sizedMet enc Tryz.prog Tryz.f3 (OpenSpec.ofChange Rows.wholeIsolatedSpec) false w args)
  (Rows.wholeIsolatedSpec.post enc Tryz.prog Tryz.f3 false true false false) := by
 refine returnsInHanded_of_change_and (C := Tryz.checked) (X := fun w _ => laidMetH Tryz.prog Rows.wholeIsolatedRow.laid w) (fun _ _ _ hh h => h.of_heap hh) own started (by kernel_rfl) Tryz.func3
  (ChangeSpec.witness_shaped (enc := enc) (C := Tryz.checked) (os := os) (X := fun w _ => laidMetH Tryz.prog Rows.wholeIsolatedRow.laid w) false (World.doorLaid Tryz.prog 43 os) #[.int .u16 0, .int .u16 0, .slice none 0 0] 8 rfl (World.shaped_of_RefB (by kernel_rfl) (by kernel_rfl)) (by kernel_rfl) (by kernel_rfl) (by kernel_rfl) (door_met os _)) ?_
 intro W base args ds gs before hval0 hW _ _ hL _
 have hval : ∀ (j : Nat) t v, Tryz.f3.params[j]? = some t → args[j]? = some v → Value.okWide Tryz.prog W .any base t v := hval0
 have hW' := hW
 obtain ⟨p, q, hA0, hV, rfl, hfz, hnd⟩ := hW
 have hA : DataW.TrodAll enc Tryz.prog W 0 (fun _ => true) true Tryz.f3.params.toList args.toList ds p := hA0
 rw [Tryz.params3] at hA hval
 obtain ⟨v0, v1, v2, d0, d1, d2, p0, p1, p2, rfl, rfl, rfl, h0, h1, h2⟩ := trodAll_three hA
 obtain ⟨rfl, rfl⟩ := trodVars_none hV
 obtain ⟨limit, rfl, rfl, rfl, w0⟩ := open_int Tryz.underlying22 (hval 0 22 v0 rfl rfl) h0
 obtain ⟨other, rfl, rfl, rfl, w1⟩ := open_int Tryz.underlying22 (hval 1 22 v1 rfl rfl) h1
 obtain ⟨ad, xs, cap, E, rfl, hE, hwf, _, _⟩ := open_nums Tryz.underlying23 Tryz.underlying5 (by kernel_rfl) (hval 2 23 v2 rfl rfl) h2
 have b0 := u16_of w0
 have b1 := u16_of w1
 obtain ⟨l0, rfl⟩ : ∃ n : Nat, limit = n := ⟨limit.toNat, by omega⟩
 obtain ⟨l1, rfl⟩ : ∃ n : Nat, other = n := ⟨other.toNat, by omega⟩
 refine ((whole_of awake_ok l0 l1 (by omega) (by omega) ad cap xs (fun x hx => by have := u8_of (hwf x hx); omega)).lawful ⟨gv_of hL, E, hE⟩).mono fun e W' ⟨he, hb⟩ => ?_
 subst he
 exact ⟨_, rfl, law_post hW' rfl rfl (by kernel_rfl) Tryz.underlying4 laidO readable hb⟩
theorem isoNamed : Tryz.prog.funcNamed Rows.wholeIsolatedRow.func = some 3 := by kernel_rfl
theorem isoInst : Tryz.f3.isInstance Tryz.prog Rows.wholeIsolatedRow.origin Rows.wholeIsolatedRow.targs := of_decide_eq_true (by kernel_rfl)
theorem isoWrap : Tryz.f3.isWrapper Tryz.prog Rows.wholeIsolatedRow.wrapper Rows.wholeIsolatedRow.mainSum := by
 unfold Func.isWrapper; first | (rw [if_pos (by decide +kernel)]; kernel_rfl) | (rw [if_neg (by decide +kernel)]; exact ⟨rfl, rfl⟩)
theorem isolated_row : Rows.WholeIsolatedSaid :=
 OpenClaim.holds_of_wide 3 Tryz.f3 rfl rfl rfl rfl rfl rfl rfl ⟨rfl, rfl, rfl, rfl, rfl⟩ rfl rfl rfl rfl rfl isoNamed Tryz.func3 isoFacts isoInst isoWrap (fun os started H enc _ => lifted os started H enc)
theorem isolated_card : Rows.WholeIsolatedCardSaid :=
 Claim7.holds_tied_plain_at .later [] [.data, .data, .data, .data] true (true, "815e0ae76c554bd145ef1eb116d61d6350a5fec3011c9f860df9c1d7aa61af73") false
  isolated_row (fun _ h => by cases h) cardW (fun _ h => by cases h) wholeIsolated_row_tie rfl ⟨rfl, rfl⟩ cardM rfl
  (fun f fn hf hfn => by
   obtain rfl : f = 3 := Option.some.inj (isoNamed.symm.trans hf) |>.symm
   obtain rfl : fn = Tryz.f3 := (Option.some.inj (Tryz.func3.symm.trans hfn)).symm
   exact ⟨cardL, fun j t ht => by
    rw [Tryz.params3] at ht
    have hm : t ∈ [22, 22, 23] := by simpa using Array.mem_of_getElem? ht
    exact (show Tryz.prog.wantsStandIn t = false by simpa using List.all_eq_true.1 cardA t hm)⟩)
  cardG
#print axioms isolated_card
end Go.Proofs.YtnlgmaibhlicjaaGreatDoor
