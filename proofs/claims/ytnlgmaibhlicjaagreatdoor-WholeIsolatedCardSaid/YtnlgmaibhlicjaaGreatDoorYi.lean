/- Proved here: contracts of functions of this program, under the premises that each theorem names. -/
import Derived.Test.YtnlgmaibhlicjaaGreatDoorProg
import Derived.Test.YtnlgmaibhlicjaaGreatDoorYh
set_option maxRecDepth 4000
namespace Go.QM
open Go
structure Kt (L : List Nat) (R : Prop) : Prop where
  k : R
structure Kc (c : Nat) (X : Prop) : Prop where
  k : X
theorem entS {A B : HP} (h : ent A B := by repeat (first | exact ent_nil _ | refine ent_take 0 rfl ?_ | refine ent_take 1 rfl ?_ | refine ent_take 2 rfl ?_ | refine ent_take 3 rfl ?_ | refine ent_take 4 rfl ?_ | refine ent_take 5 rfl ?_ | refine ent_take 6 rfl ?_ | refine ent_take 7 rfl ?_ | refine ent_take 8 rfl ?_ | refine ent_take 9 rfl ?_ | refine ent_take 10 rfl ?_ | refine ent_take 11 rfl ?_ | refine ent_take 12 rfl ?_ | refine ent_take 13 rfl ?_ | refine ent_take 14 rfl ?_ | refine ent_take 15 rfl ?_ | refine ent_take 16 rfl ?_ | refine ent_take 17 rfl ?_ | refine ent_take 18 rfl ?_)) : ent A B := h
theorem entT {G R : Prop} (k : R) (h : Kt [] R → G := by intro z; (first | refine ent_take 0 rfl ?_ | refine ent_take 1 rfl ?_ | refine ent_take 2 rfl ?_ | refine ent_take 3 rfl ?_ | refine ent_take 4 rfl ?_ | refine ent_take 5 rfl ?_ | refine ent_take 6 rfl ?_ | refine ent_take 7 rfl ?_ | refine ent_take 8 rfl ?_ | refine ent_take 9 rfl ?_ | refine ent_take 10 rfl ?_ | refine ent_take 11 rfl ?_ | refine ent_take 12 rfl ?_ | refine ent_take 13 rfl ?_ | refine ent_take 14 rfl ?_ | refine ent_take 15 rfl ?_ | refine ent_take 16 rfl ?_ | refine ent_take 17 rfl ?_ | refine ent_take 18 rfl ?_); exact z.k) : G := h ⟨k⟩
theorem asm0 {p : Prop} (h : p := by first | assumption | (simp [ints_length] <;> omega)) : p := h
theorem fI {P : Program} {f : FuncId} {fn : Func} {c : Code} {N : Nat} {rs : List ResultVar} {args : List Value} {rd : HP → Prop} {pre : List HP} {Y : Type} {res : Y → Value} {φ : Y → Prop} {post : Y → List HP}
    (hf : P.funcs[f]? = some fn) (hN : fn.ntmps = N) (h : ∀ F, rd F → TC none P N c (Ret P rs res φ post F) (envA args) [] (sepL (pre ++ [F]))) (hb : fn.body = some c := by rfl) (hrs : fn.results = rs.toArray := by rfl) (hl : Nat.ble args.length N = true := by rfl) (he : enterT P f = true := by kernel_rfl) : FSpec P f args rd pre res φ post := FSpec.intro he hf hb hN hl hrs h
theorem zc0 {G : Prop} (h : G := by exact Ret.i () [_] ⟨rfl, trivial⟩ rfl trivial entS) : G := h
theorem zc1 {G : Prop} (h : G := by exact Ret.i () [_] ⟨rfl, trivial⟩ rfl trivial (ent_take 0 rfl (ent_take 0 rfl (ent_nil _)))) : G := h
theorem zc2 {G : Prop} (h : G := by exact Ret.i () [_] ⟨rfl, trivial⟩ rfl trivial (ent_take 0 rfl (ent_nil _))) : G := h
theorem zc3 {G : Prop} (h : G := by exact Ret.i () [_, _] ⟨rfl, rfl, trivial⟩ rfl trivial entS) : G := h
theorem zc4 {G : Prop} (h : G := by exact Ret.i () [_, _] ⟨(rcN (n := 2) rfl rfl rfl rfl), rfl, trivial⟩ rfl trivial entS) : G := h
theorem zc5 {G : Prop} (h : G := by exact Ret.i () [_, _] ⟨rfl, rfl, trivial⟩ rfl trivial (ent_take 0 rfl (ent_take 0 rfl (ent_take 0 rfl (ent_nil _))))) : G := h
theorem zc6 {G : Prop} (h : G := by exact Ret.i () [_, _] ⟨(rcN (n := 3) rfl rfl rfl rfl), rfl, trivial⟩ rfl trivial entS) : G := h
theorem zc7 {G : Prop} (h : G := by exact Ret.n () [] trivial rfl trivial (ent_take 0 rfl (ent_take 0 rfl (ent_nil _)))) : G := h
theorem zc8 {G : Prop} (h : G := by exact Ret.i () [_, _, _] ⟨rfl, rfl, rfl, trivial⟩ rfl trivial entS) : G := h
theorem zc9 {G : Prop} (h : G := by exact Ret.i () [_] ⟨rfl, trivial⟩ rfl trivial (ent_take 0 rfl (ent_take 0 rfl (ent_take 0 rfl (ent_nil _))))) : G := h
theorem zc10 {G : Prop} (h : G := by exact Ret.i () [_, _] ⟨rfl, rfl, trivial⟩ rfl trivial (ent_take 0 rfl (ent_nil _))) : G := h
theorem zc11 {G : Prop} (h : G := by exact Ret.i () [_] ⟨(rcN (n := 3) rfl rfl rfl rfl), trivial⟩ rfl trivial entS) : G := h
theorem zg0 {c : Nat} {L : List Nat} {G R X : Prop} (z : Kt (c :: L) R) (k : Kt L R → X) (h : Kc c X → G := by
  intro z
  first
    | (change Kc 0 _ at z; refine TC.seq ?_)
    | (change Kc 1 _ at z; refine TC.region ?_)
    | (change Kc 2 _ at z; refine TL.nil (nt ?_))
    | (change Kc 3 _ at z; refine q rfl rfl (mv (v := .int _ _) rfl) ?_)
    | (change Kc 4 _ at z; refine q rfl rfl (asg (v := .int _ _) rfl) ?_)
    | (change Kc 5 _ at z; refine e rfl ?_)
    | (change Kc 6 _ at z; refine q rfl rfl (mv (v := .pointer _) rfl) ?_)
    | (change Kc 7 _ at z; refine TC.skip (nt ?_))
    | (change Kc 8 _ at z; refine ⟨entS, ?_⟩)
    | (change Kc 9 _ at z; refine q rfl rfl (asg (v := .bool _) rfl) ?_)
    | (change Kc 10 _ at z; refine TC.condF rfl ?_)
    | (change Kc 11 _ at z; refine TC.ret ?_)
    | (change Kc 12 _ at z; (first | refine q rfl rfl (ld rfl rfl rfl) ?_ | refine q rfl rfl (ldS rfl rfl rfl) ?_))
    | (change Kc 13 _ at z; (first | refine q rfl rfl (nc rfl) ?_ | refine q rfl rfl (ncF rfl) ?_ | refine q rfl rfl (ncS rfl asm0) ?_))
    | (change Kc 14 _ at z; (first | refine q rfl rfl (fa 0 rfl rfl) ?_ | refine q rfl rfl (faS 0 rfl rfl asm0) ?_))
    | (change Kc 15 _ at z; refine q rfl rfl (pu (v := .int _ _) (fun _ => rfl)) ?_)
    | (change Kc 16 _ at z; refine de rfl rfl ?_)
    | (change Kc 17 _ at z; refine TC.block ?_)
    | (change Kc 18 _ at z; (first | refine dq rfl rfl rfl (ld rfl rfl rfl) ?_ | refine dq rfl rfl rfl (ldS rfl rfl rfl) ?_))
    | (change Kc 19 _ at z; (first | refine q rfl rfl (pkT (v := .bool _) rfl rfl) ?_ | refine q rfl rfl (pkF (v := .bool _) rfl rfl) ?_))
    | (change Kc 20 _ at z; refine q rfl rfl (mv (v := .bool _) rfl) ?_)
    | (change Kc 21 _ at z; refine e0 ?_)
    | (change Kc 22 _ at z; refine qs rfl rfl ?_)
    | (change Kc 23 _ at z; refine q rfl rfl (neI rfl rfl) ?_)
  exact z.k) : G := h ⟨k ⟨z.k⟩⟩
theorem zg1 {c : Nat} {L : List Nat} {G R X : Prop} (z : Kt (c :: L) R) (k : Kt L R → X) (h : Kc c X → G := by
  intro z
  first
    | (change Kc 24 _ at z; refine q rfl rfl (asg (v := .pointer _) rfl) ?_)
    | (change Kc 25 _ at z; (first | refine dq rfl rfl rfl (fa 0 rfl rfl) ?_ | refine dq rfl rfl rfl (faS 0 rfl rfl asm0) ?_))
    | (change Kc 26 _ at z; refine q rfl rfl (mv (v := .tuple _) rfl) ?_)
    | (change Kc 27 _ at z; refine TD.nil (nt ?_))
    | (change Kc 28 _ at z; refine dq rfl rfl rfl (mv (v := .pointer _) rfl) ?_)
    | (change Kc 29 _ at z; refine q rfl rfl (mv (v := .slice _ _ _) rfl) ?_)
    | (change Kc 30 _ at z; refine q rfl rfl (eqI rfl rfl) ?_)
    | (change Kc 31 _ at z; (first | refine dq rfl rfl rfl (nc rfl) ?_ | refine dq rfl rfl rfl (ncF rfl) ?_ | refine dq rfl rfl rfl (ncS rfl asm0) ?_))
    | (change Kc 32 _ at z; refine qg rfl rfl rfl (mv (v := .int _ _) rfl) ?_)
    | (change Kc 33 _ at z; refine dq rfl rfl rfl (mv (v := .int _ _) rfl) ?_)
    | (change Kc 34 _ at z; refine q rfl rfl (eqNil rfl rfl rfl) ?_)
    | (change Kc 35 _ at z; refine q rfl rfl (asg (v := .slice _ _ _) rfl) ?_)
    | (change Kc 36 _ at z; (first | refine q rfl rfl (addI rfl rfl (by omega) (by omega)) ?_ | refine q rfl rfl (add rfl rfl rfl) ?_))
    | (change Kc 37 _ at z; change TC _ _ _ _ _ _ _ (sepL [_]))
    | (change Kc 38 _ at z; refine q rfl rfl (lss rfl rfl) ?_)
    | (change Kc 39 _ at z; change TC _ _ _ _ _ _ _ (sepL [_, _]))
    | (change Kc 40 _ at z; refine TC.condT rfl ?_)
    | (change Kc 41 _ at z; refine dq rfl rfl rfl (asg (v := .int _ _) rfl) ?_)
    | (change Kc 42 _ at z; refine TC.skip (nb (nt ?_)))
    | (change Kc 43 _ at z; change TL _ _ _ _ _ _ _ _ (sepL [_, _, _]))
    | (change Kc 44 _ at z; change TC _ _ _ _ _ _ _ (sepL [_, _, _]))
    | (change Kc 45 _ at z; change TL _ _ _ _ _ _ _ _ (sepL [_, _, _, _, _, _, _, _, _]))
    | (change Kc 46 _ at z; change TL _ _ _ _ _ _ _ _ (sepL [_, _, _, _]))
    | (change Kc 47 _ at z; (first | refine q rfl rfl (fa 1 rfl rfl) ?_ | refine q rfl rfl (faS 1 rfl rfl asm0) ?_))
  exact z.k) : G := h ⟨k ⟨z.k⟩⟩
theorem zg2 {c : Nat} {L : List Nat} {G R X : Prop} (z : Kt (c :: L) R) (k : Kt L R → X) (h : Kc c X → G := by
  intro z
  first
    | (change Kc 48 _ at z; refine st (v := .agg #[_, _, _]) (vs := [_, _, _]) 3 rfl rfl rfl rfl rfl rfl (Nat.le_of_ble_eq_true rfl) rfl ?_)
    | (change Kc 49 _ at z; change TL _ _ _ _ _ _ _ _ (sepL [_, _, _, _, _, _, _]))
    | (change Kc 50 _ at z; refine TC.exit (et (et (eb (nt ?_)))))
    | (change Kc 51 _ at z; refine TC.ret (rt ?_))
    | (change Kc 52 _ at z; (first | refine qg rfl rfl rfl (ld rfl rfl rfl) ?_ | refine qg rfl rfl rfl (ldS rfl rfl rfl) ?_))
    | (change Kc 53 _ at z; change TL _ _ _ _ _ _ _ _ (sepL [_, _, _, _, _, _, _, _]))
    | (change Kc 54 _ at z; refine dk rfl rfl rfl rfl ?_)
    | (change Kc 55 _ at z; refine dq rfl rfl rfl (pu (v := .int _ _) (fun _ => rfl)) ?_)
    | (change Kc 56 _ at z; refine TC.ret (rb (rt ?_)))
    | (change Kc 57 _ at z; change TL _ _ _ _ _ _ _ _ (sepL [_, _, _, _, _]))
    | (change Kc 58 _ at z; (first | refine dq rfl rfl rfl (fa 2 rfl rfl) ?_ | refine dq rfl rfl rfl (faS 2 rfl rfl asm0) ?_))
    | (change Kc 59 _ at z; refine eg rfl rfl ?_)
    | (change Kc 60 _ at z; (first | refine dq rfl rfl rfl (fa 1 rfl rfl) ?_ | refine dq rfl rfl rfl (faS 1 rfl rfl asm0) ?_))
    | (change Kc 61 _ at z; refine de0 rfl ?_)
    | (change Kc 62 _ at z; (first | refine q rfl rfl (fa 2 rfl rfl) ?_ | refine q rfl rfl (faS 2 rfl rfl asm0) ?_))
    | (change Kc 63 _ at z; refine TL.nil (nb (nt ?_)))
    | (change Kc 64 _ at z; (first | refine q rfl rfl (notD rfl) ?_ | refine q rfl rfl (notB rfl) ?_))
    | (change Kc 65 _ at z; change ent _ _ ∧ TD _ _ _ _ _ _ _ _ _ _ (sepL [_, _, _, _, _]))
    | (change Kc 66 _ at z; change TL _ _ _ _ _ _ _ _ (sepL [_, _]))
    | (change Kc 67 _ at z; refine st (v := .agg #[_, _]) (vs := [_, _]) 2 rfl rfl rfl rfl rfl rfl (Nat.le_of_ble_eq_true rfl) rfl ?_)
    | (change Kc 68 _ at z; refine st (v := .agg #[_, _, _, _]) (vs := [_, _, _, _]) 4 rfl rfl rfl rfl rfl rfl (Nat.le_of_ble_eq_true rfl) rfl ?_)
    | (change Kc 69 _ at z; change TL _ _ _ _ _ _ _ _ (sepL [_, _, _, _, _, _]))
    | (change Kc 70 _ at z; refine dl0 rfl rfl rfl ?_)
    | (change Kc 71 _ at z; refine q rfl rfl (mv rfl) ?_)
  exact z.k) : G := h ⟨k ⟨z.k⟩⟩
theorem zg3 {c : Nat} {L : List Nat} {G R X : Prop} (z : Kt (c :: L) R) (k : Kt L R → X) (h : Kc c X → G := by
  intro z
  first
    | (change Kc 72 _ at z; refine bs (cs := [.int _ _]) rfl ?_)
    | (change Kc 73 _ at z; (first | refine q rfl rfl (bld (cs := [.int _ _, .int _ _]) rfl) ?_ | refine q rfl rfl (bld (cs := [_, _]) rfl) ?_))
    | (change Kc 74 _ at z; refine qg rfl rfl rfl (eqI rfl rfl) ?_)
    | (change Kc 75 _ at z; refine q rfl rfl (pu (v := .agg #[_, _, _]) (fun _ => rfl)) ?_)
    | (change Kc 76 _ at z; (first | refine q rfl rfl (ldN (vs := [_, _, _]) 3 rfl rfl rfl rfl) ?_ | refine q rfl rfl (ldSN (vs := [_, _, _]) 3 rfl rfl rfl rfl (by decide)) ?_))
    | (change Kc 77 _ at z; change TC _ _ _ _ _ _ _ (sepL [_, _, _, _]))
    | (change Kc 78 _ at z; (first | refine q rfl rfl (fa 3 rfl rfl) ?_ | refine q rfl rfl (faS 3 rfl rfl asm0) ?_))
    | (change Kc 79 _ at z; refine q rfl rfl (pu (v := .pointer _) (fun _ => rfl)) ?_)
    | (change Kc 80 _ at z; refine q rfl rfl (pu (v := .bool _) (fun _ => rfl)) ?_)
    | (change Kc 81 _ at z; (first | refine q rfl rfl (ixS 3 1 rfl rfl rfl (by omega) asm0) ?_ | refine q rfl rfl (ixJ 3 1 rfl rfl rfl (by omega) (by omega) asm0) ?_ | refine q rfl rfl (ix 3 1 rfl rfl rfl (by omega) (by omega) rfl) ?_))
    | (change Kc 82 _ at z; change TC _ _ _ _ _ _ _ (sepL [_, _, _, _, _, _]))
    | (change Kc 83 _ at z; refine dq rfl rfl rfl (mv (v := .tuple _) rfl) ?_)
    | (change Kc 84 _ at z; refine qg rfl rfl rfl (gtr rfl rfl) ?_)
    | (change Kc 85 _ at z; refine qg rfl rfl rfl (mv (v := .pointer _) rfl) ?_)
    | (change Kc 86 _ at z; change TL _ _ _ _ _ _ _ _ (sepL [_, _, _, _, _, _, _, _, _, _]))
    | (change Kc 87 _ at z; refine q rfl rfl (asg rfl) ?_)
    | (change Kc 88 _ at z; refine qg rfl rfl rfl (lss rfl rfl) ?_)
    | (change Kc 89 _ at z; (first | refine q rfl rfl (bld (cs := [.int _ _, .int _ _, .int _ _]) rfl) ?_ | refine q rfl rfl (bld (cs := [_, _, _]) rfl) ?_))
    | (change Kc 90 _ at z; (first | refine dq rfl rfl rfl (fa 3 rfl rfl) ?_ | refine dq rfl rfl rfl (faS 3 rfl rfl asm0) ?_))
    | (change Kc 91 _ at z; refine q rfl rfl (len 3 1 rfl rfl) ?_)
    | (change Kc 92 _ at z; refine qg rfl rfl rfl (neI rfl rfl) ?_)
    | (change Kc 93 _ at z; change TL _ _ _ _ _ _ _ _ (sepL [_, _, _, _, _, _, _, _, _, _, _]))
    | (change Kc 94 _ at z; change TC _ _ _ _ _ _ _ (sepL [_, _, _, _, _, _, _, _, _, _, _, _]))
    | (change Kc 95 _ at z; change TC _ _ _ _ _ _ _ (sepL [_, _, _, _, _]))
  exact z.k) : G := h ⟨k ⟨z.k⟩⟩
theorem zg4 {c : Nat} {L : List Nat} {G R X : Prop} (z : Kt (c :: L) R) (k : Kt L R → X) (h : Kc c X → G := by
  intro z
  first
    | (change Kc 96 _ at z; (first | refine qg rfl rfl rfl (fa 0 rfl rfl) ?_ | refine qg rfl rfl rfl (faS 0 rfl rfl asm0) ?_))
    | (change Kc 97 _ at z; (first | refine qg rfl rfl rfl (fa 1 rfl rfl) ?_ | refine qg rfl rfl rfl (faS 1 rfl rfl asm0) ?_))
    | (change Kc 98 _ at z; change TL _ _ _ _ _ _ _ _ (sepL [_]))
    | (change Kc 99 _ at z; change ent _ _ ∧ TD _ _ _ _ _ _ _ _ _ _ (sepL [_, _, _, _, _, _]))
    | (change Kc 100 _ at z; change ent _ _ ∧ TD _ _ _ _ _ _ _ _ _ _ (sepL [_, _, _, _, _, _, _, _]))
    | (change Kc 101 _ at z; refine q rfl rfl (pu (v := .agg #[_, _]) (fun _ => rfl)) ?_)
    | (change Kc 102 _ at z; refine dq rfl rfl rfl (mv (v := .slice _ _ _) rfl) ?_)
    | (change Kc 103 _ at z; (first | refine dq rfl rfl rfl (ldN (vs := [_, _]) 2 rfl rfl rfl rfl) ?_ | refine dq rfl rfl rfl (ldSN (vs := [_, _]) 2 rfl rfl rfl rfl (by decide)) ?_))
    | (change Kc 104 _ at z; change TC _ _ _ _ _ _ _ (sepL [_, _, _, _, _, _, _]))
    | (change Kc 105 _ at z; refine st (v := .int _ _) (vs := [_]) 1 rfl rfl rfl rfl rfl rfl (Nat.le_of_ble_eq_true rfl) rfl ?_)
    | (change Kc 106 _ at z; refine q rfl rfl (neNil rfl rfl rfl) ?_)
    | (change Kc 107 _ at z; refine q rfl rfl (gtr rfl rfl) ?_)
    | (change Kc 108 _ at z; (first | refine qg rfl rfl rfl (pkT (v := .bool _) rfl rfl) ?_ | refine qg rfl rfl rfl (pkF (v := .bool _) rfl rfl) ?_))
    | (change Kc 109 _ at z; (first | refine dq rfl rfl rfl (pkT (v := .bool _) rfl rfl) ?_ | refine dq rfl rfl rfl (pkF (v := .bool _) rfl rfl) ?_))
    | (change Kc 110 _ at z; refine st (v := .slice _ _ _) (vs := [_]) 1 rfl rfl rfl rfl rfl rfl (Nat.le_of_ble_eq_true rfl) rfl ?_)
    | (change Kc 111 _ at z; refine q rfl rfl (geq rfl rfl) ?_)
    | (change Kc 112 _ at z; (first | refine qg rfl rfl rfl (nc rfl) ?_ | refine qg rfl rfl rfl (ncF rfl) ?_ | refine qg rfl rfl rfl (ncS rfl asm0) ?_))
    | (change Kc 113 _ at z; (first | refine q rfl rfl (ldN (vs := [_, _]) 2 rfl rfl rfl rfl) ?_ | refine q rfl rfl (ldSN (vs := [_, _]) 2 rfl rfl rfl rfl (by decide)) ?_))
    | (change Kc 114 _ at z; refine bs (cs := [.int _ _, .int _ _]) rfl ?_)
    | (change Kc 115 _ at z; change ent _ _ ∧ TD _ _ _ _ _ _ _ _ _ _ (sepL [_, _, _]))
    | (change Kc 116 _ at z; refine q rfl rfl (len 56 1 rfl rfl) ?_)
    | (change Kc 117 _ at z; refine qg rfl rfl rfl (mv (v := .bool _) rfl) ?_)
    | (change Kc 118 _ at z; change ent _ _ ∧ TD _ _ _ _ _ _ _ _ _ _ (sepL [_, _, _, _, _, _, _, _, _]))
    | (change Kc 119 _ at z; change TC _ _ _ _ _ _ _ (sepL [_, _, _, _, _, _, _, _]))
  exact z.k) : G := h ⟨k ⟨z.k⟩⟩
theorem zg5 {c : Nat} {L : List Nat} {G R X : Prop} (z : Kt (c :: L) R) (k : Kt L R → X) (h : Kc c X → G := by
  intro z
  first
    | (change Kc 120 _ at z; change TL _ _ _ _ _ _ _ _ (sepL [_, _, _, _, _, _, _, _, _, _, _, _, _]))
    | (change Kc 121 _ at z; change ent _ _ ∧ TD _ _ _ _ _ _ _ _ _ _ (sepL [_, _, _, _, _, _, _, _, _, _, _, _]))
    | (change Kc 122 _ at z; refine dq rfl rfl rfl (mv (v := .bool _) rfl) ?_)
    | (change Kc 123 _ at z; refine dg rfl rfl rfl rfl (mv (v := .int _ _) rfl) ?_)
    | (change Kc 124 _ at z; refine dq rfl rfl rfl (asg (v := .bool _) rfl) ?_)
    | (change Kc 125 _ at z; (first | refine q rfl rfl (fa 4 rfl rfl) ?_ | refine q rfl rfl (faS 4 rfl rfl asm0) ?_))
    | (change Kc 126 _ at z; change ent _ _ ∧ TD _ _ _ _ _ _ _ _ _ _ (sepL [_, _, _, _, _, _, _]))
    | (change Kc 127 _ at z; change ent _ _ ∧ TD _ _ _ _ _ _ _ _ _ _ (sepL [_, _, _, _, _, _, _, _, _, _]))
    | (change Kc 128 _ at z; (first | refine q rfl rfl (subI rfl rfl (by omega) (by omega)) ?_ | refine q rfl rfl (sub rfl rfl rfl) ?_))
    | (change Kc 129 _ at z; refine qsu rfl rfl ?_)
    | (change Kc 130 _ at z; (first | refine dg rfl rfl rfl rfl (fa 0 rfl rfl) ?_ | refine dg rfl rfl rfl rfl (faS 0 rfl rfl asm0) ?_))
    | (change Kc 131 _ at z; refine q rfl rfl (conv .i64 .u64 rfl rfl rfl (wU (by omega))) ?_)
    | (change Kc 132 _ at z; change TC _ _ _ _ _ _ _ (sepL [_, _, _, _, _, _, _, _, _]))
    | (change Kc 133 _ at z; refine dq rfl rfl rfl (pu (v := .agg #[_, _, _]) (fun _ => rfl)) ?_)
    | (change Kc 134 _ at z; refine dq rfl rfl rfl (ixAl 19 317 3 rfl rfl rfl (by omega) (by omega)) ?_)
    | (change Kc 135 _ at z; change TC _ _ _ _ _ _ _ (sepL [_, _, _, _, _, _, _, _, _, _, _, _, _]))
    | (change Kc 136 _ at z; change TL _ _ _ _ _ _ _ _ (sepL [_, _, _, _, _, _, _, _, _, _, _, _, _, _]))
    | (change Kc 137 _ at z; (first | refine dq rfl rfl rfl (fa 11 rfl rfl) ?_ | refine dq rfl rfl rfl (faS 11 rfl rfl asm0) ?_))
    | (change Kc 138 _ at z; (first | refine q rfl rfl (bld (cs := [.int _ _, .int _ _, .int _ _, .int _ _, .int _ _, .bool _, .int _ _, .slice _ _ _, .slice _ _ _]) rfl) ?_ | refine q rfl rfl (bld (cs := [_, _, _, _, _, _, _, _, _]) rfl) ?_))
    | (change Kc 139 _ at z; refine qg rfl rfl rfl (geq rfl rfl) ?_)
    | (change Kc 140 _ at z; refine st (v := .agg (List.toArray (ints [_, _, _]))) (vs := ints [_, _, _]) 3 rfl rfl rfl rfl rfl rfl (Nat.le_of_ble_eq_true rfl) rfl ?_)
    | (change Kc 141 _ at z; (first | refine dq rfl rfl rfl (ldN (vs := ints [_, _]) 2 rfl rfl rfl rfl) ?_ | refine dq rfl rfl rfl (ldSN (vs := ints [_, _]) 2 rfl rfl rfl rfl (by decide)) ?_))
    | (change Kc 142 _ at z; refine q rfl rfl (conv .u32 .i64 rfl rfl rfl (wi64 (by omega) (by omega))) ?_)
    | (change Kc 143 _ at z; refine TC.ret (rb (rt (rt (rb (rt ?_))))))
  exact z.k) : G := h ⟨k ⟨z.k⟩⟩
theorem zg6 {c : Nat} {L : List Nat} {G R X : Prop} (z : Kt (c :: L) R) (k : Kt L R → X) (h : Kc c X → G := by
  intro z
  first
    | (change Kc 144 _ at z; refine dg rfl rfl rfl rfl (mv (v := .pointer _) rfl) ?_)
    | (change Kc 145 _ at z; (first | refine dg rfl rfl rfl rfl (nc rfl) ?_ | refine dg rfl rfl rfl rfl (ncF rfl) ?_ | refine dg rfl rfl rfl rfl (ncS rfl asm0) ?_))
    | (change Kc 146 _ at z; refine deg rfl rfl rfl ?_)
    | (change Kc 147 _ at z; refine q rfl rfl (len 31 1 rfl rfl) ?_)
    | (change Kc 148 _ at z; refine q rfl rfl (len 263 2 rfl rfl) ?_)
    | (change Kc 149 _ at z; (first | refine q rfl rfl (conv .u32 .i64 rfl rfl rfl (wi64 (by omega) (by omega))) ?_ | refine q rfl rfl (conv .u32 .i64 rfl rfl rfl rfl) ?_))
    | (change Kc 150 _ at z; refine qg rfl rfl rfl (leq rfl rfl) ?_)
    | (change Kc 151 _ at z; (first | refine qg rfl rfl rfl (fa 2 rfl rfl) ?_ | refine qg rfl rfl rfl (faS 2 rfl rfl asm0) ?_))
    | (change Kc 152 _ at z; (first | refine qg rfl rfl rfl (ldN (vs := [_, _, _]) 3 rfl rfl rfl rfl) ?_ | refine qg rfl rfl rfl (ldSN (vs := [_, _, _]) 3 rfl rfl rfl rfl (by decide)) ?_))
    | (change Kc 153 _ at z; (first | refine dq rfl rfl rfl (fa 9 rfl rfl) ?_ | refine dq rfl rfl rfl (faS 9 rfl rfl asm0) ?_))
    | (change Kc 154 _ at z; change ent _ _ ∧ TF _ _ _ _ _ _ _ _ _ _ _ (sepL [_, _, _, _]))
    | (change Kc 155 _ at z; refine dq rfl rfl rfl (eqI rfl rfl) ?_)
    | (change Kc 156 _ at z; change TC _ _ _ _ _ _ _ (sepL [_, _, _, _, _, _, _, _, _, _]))
    | (change Kc 157 _ at z; change TL _ _ _ _ _ _ _ _ (sepL [_, _, _, _, _, _, _, _, _, _, _, _, _, _, _, _]))
    | (change Kc 158 _ at z; refine TC.draw _ [] [(0, false), (1, false), (2, false), (3, false), (4, false), (5, false), (6, false), (7, false), (8, false), (9, false), (10, false), (11, false), (12, false), (13, false), (14, false), (15, false), (16, false), (17, false), (18, false), (19, true), (20, false), (21, false), (22, false), (23, false), (24, false)] (by kernel_rfl) (by kernel_rfl) (ent_take 0 rfl (ent_take 0 rfl (ent_take 0 rfl (ent_nil _)))) ?_)
    | (change Kc 159 _ at z; (first | refine dq rfl rfl rfl (fa 10 rfl rfl) ?_ | refine dq rfl rfl rfl (faS 10 rfl rfl asm0) ?_))
    | (change Kc 160 _ at z; (first | refine q rfl rfl (fa 8 rfl rfl) ?_ | refine q rfl rfl (faS 8 rfl rfl asm0) ?_))
    | (change Kc 161 _ at z; (first | refine dq rfl rfl rfl (addI rfl rfl (by omega) (by omega)) ?_ | refine dq rfl rfl rfl (add rfl rfl rfl) ?_))
    | (change Kc 162 _ at z; refine q rfl rfl (pu (v := .slice _ _ _) (fun _ => rfl)) ?_)
    | (change Kc 163 _ at z; refine TD.nil (nb (nt ?_)))
    | (change Kc 164 _ at z; (first | refine qg rfl rfl rfl (fa 3 rfl rfl) ?_ | refine qg rfl rfl rfl (faS 3 rfl rfl asm0) ?_))
    | (change Kc 165 _ at z; (first | refine dq rfl rfl rfl (ldN (vs := [_, _, _]) 3 rfl rfl rfl rfl) ?_ | refine dq rfl rfl rfl (ldSN (vs := [_, _, _]) 3 rfl rfl rfl rfl (by decide)) ?_))
    | (change Kc 166 _ at z; change ent _ _ ∧ TD _ _ _ _ _ _ _ _ _ _ (sepL [_, _, _, _]))
    | (change Kc 167 _ at z; (first | refine q rfl rfl (ixS 56 1 rfl rfl rfl (by omega) asm0) ?_ | refine q rfl rfl (ixJ 56 1 rfl rfl rfl (by omega) (by omega) asm0) ?_ | refine q rfl rfl (ix 56 1 rfl rfl rfl (by omega) (by omega) rfl) ?_))
  exact z.k) : G := h ⟨k ⟨z.k⟩⟩
theorem zg7 {c : Nat} {L : List Nat} {G R X : Prop} (z : Kt (c :: L) R) (k : Kt L R → X) (h : Kc c X → G := by
  intro z
  first
    | (change Kc 168 _ at z; change ent _ _ ∧ TF _ _ _ _ _ _ _ _ _ _ _ (sepL [_, _, _, _, _, _, _]))
    | (change Kc 169 _ at z; change ent _ _ ∧ TD _ _ _ _ _ _ _ _ _ _ (sepL [_, _, _, _, _, _, _, _, _, _, _, _, _, _, _, _, _, _, _, _, _, _, _, _, _, _, _, _, _, _, _, _, _, _, _, _, _, _, _, _]))
    | (change Kc 170 _ at z; (first | refine q rfl rfl (ixS 365 3 rfl rfl rfl (by omega) asm0) ?_ | refine q rfl rfl (ixJ 365 3 rfl rfl rfl (by omega) (by omega) asm0) ?_ | refine q rfl rfl (ix 365 3 rfl rfl rfl (by omega) (by omega) rfl) ?_))
    | (change Kc 171 _ at z; (first | refine dg rfl rfl rfl rfl (fa 2 rfl rfl) ?_ | refine dg rfl rfl rfl rfl (faS 2 rfl rfl asm0) ?_))
    | (change Kc 172 _ at z; refine q rfl rfl (len 5 1 rfl rfl) ?_)
    | (change Kc 173 _ at z; (first | refine dq rfl rfl rfl (notD rfl) ?_ | refine dq rfl rfl rfl (notB rfl) ?_))
    | (change Kc 174 _ at z; refine q rfl rfl (faQ 0 rfl rfl) ?_)
    | (change Kc 175 _ at z; refine ap 4 rfl rfl rfl rfl rfl (Nat.le_of_ble_eq_true rfl) rfl rfl (by omega) (by simp only [maxLen]; omega) ?_)
    | (change Kc 176 _ at z; (first | refine dq rfl rfl rfl (bld (cs := [.int _ _, .int _ _]) rfl) ?_ | refine dq rfl rfl rfl (bld (cs := [_, _]) rfl) ?_))
    | (change Kc 177 _ at z; refine fq (i := 0) rfl rfl rfl (by kernel_rfl) (mv (v := .pointer _) rfl) ?_)
    | (change Kc 178 _ at z; refine qg rfl rfl rfl (eqBo rfl rfl rfl) ?_)
    | (change Kc 179 _ at z; refine q rfl rfl (len 248 5 rfl rfl) ?_)
    | (change Kc 180 _ at z; (first | refine q rfl rfl (ldN (vs := _) 9 rfl rfl rfl rfl) ?_ | refine q rfl rfl (ldSN (vs := _) 9 rfl rfl rfl rfl (by decide)) ?_))
    | (change Kc 181 _ at z; (first | refine dq rfl rfl rfl (fa 7 rfl rfl) ?_ | refine dq rfl rfl rfl (faS 7 rfl rfl asm0) ?_))
    | (change Kc 182 _ at z; change ent _ _ ∧ TD _ _ _ _ _ _ _ _ _ _ (sepL [_, _, _, _, _, _, _, _, _, _, _, _, _, _, _]))
    | (change Kc 183 _ at z; (first | refine dg rfl rfl rfl rfl (ixS 365 3 rfl rfl rfl (by omega) asm0) ?_ | refine dg rfl rfl rfl rfl (ixJ 365 3 rfl rfl rfl (by omega) (by omega) asm0) ?_ | refine dg rfl rfl rfl rfl (ix 365 3 rfl rfl rfl (by omega) (by omega) rfl) ?_))
    | (change Kc 184 _ at z; (first | refine q rfl rfl (mulI rfl rfl (by omega) (by omega)) ?_ | refine q rfl rfl (mul rfl rfl rfl) ?_))
    | (change Kc 185 _ at z; (first | refine dq rfl rfl rfl (ixS 31 1 rfl rfl rfl (by omega) asm0) ?_ | refine dq rfl rfl rfl (ixJ 31 1 rfl rfl rfl (by omega) (by omega) asm0) ?_ | refine dq rfl rfl rfl (ix 31 1 rfl rfl rfl (by omega) (by omega) rfl) ?_))
    | (change Kc 186 _ at z; (first | refine q rfl rfl (ixS 31 1 rfl rfl rfl (by omega) asm0) ?_ | refine q rfl rfl (ixJ 31 1 rfl rfl rfl (by omega) (by omega) asm0) ?_ | refine q rfl rfl (ix 31 1 rfl rfl rfl (by omega) (by omega) rfl) ?_))
    | (change Kc 187 _ at z; refine q rfl rfl (ixAl 21 251 1 rfl rfl rfl (by omega) (by omega)) ?_)
    | (change Kc 188 _ at z; refine q rfl rfl (conv .u64 .i64 rfl rfl rfl (wN (by omega))) ?_)
    | (change Kc 189 _ at z; (first | refine q rfl rfl (ncP rfl) ?_ | refine q rfl rfl (ncQ rfl) ?_))
    | (change Kc 190 _ at z; (first | refine fq (i := 1) rfl rfl rfl (by kernel_rfl) (nc rfl) ?_ | refine fq (i := 1) rfl rfl rfl (by kernel_rfl) (ncF rfl) ?_ | refine fq (i := 1) rfl rfl rfl (by kernel_rfl) (ncS rfl asm0) ?_))
    | (change Kc 191 _ at z; (first | refine fq (i := 2) rfl rfl rfl (by kernel_rfl) (fa 0 rfl rfl) ?_ | refine fq (i := 2) rfl rfl rfl (by kernel_rfl) (faS 0 rfl rfl asm0) ?_))
  exact z.k) : G := h ⟨k ⟨z.k⟩⟩
theorem zg8 {c : Nat} {L : List Nat} {G R X : Prop} (z : Kt (c :: L) R) (k : Kt L R → X) (h : Kc c X → G := by
  intro z
  first
    | (change Kc 192 _ at z; refine dq rfl rfl rfl (conv .u64 .i64 rfl rfl rfl (wN (by omega))) ?_)
    | (change Kc 193 _ at z; refine st (v := .agg (List.toArray (ints [_, _]))) (vs := ints [_, _]) 2 rfl rfl rfl rfl rfl rfl (Nat.le_of_ble_eq_true rfl) rfl ?_)
    | (change Kc 194 _ at z; change TL _ _ _ _ _ _ _ _ (sepL [_, _, _, _, _, _, _, _, _, _, _, _]))
    | (change Kc 195 _ at z; change ent _ _ ∧ TD _ _ _ _ _ _ _ _ _ _ (sepL [_, _, _, _, _, _, _, _, _, _, _]))
    | (change Kc 196 _ at z; (first | refine dq rfl rfl rfl (fa 6 rfl rfl) ?_ | refine dq rfl rfl rfl (faS 6 rfl rfl asm0) ?_))
    | (change Kc 197 _ at z; refine q rfl rfl (luF 3 291 rfl rfl (KL.int rfl) rfl rfl) ?_)
    | (change Kc 198 _ at z; (first | refine q rfl rfl (bld (cs := [.pointer _]) rfl) ?_ | refine q rfl rfl (bld (cs := [_]) rfl) ?_))
    | (change Kc 199 _ at z; change ent _ _ ∧ TD _ _ _ _ _ _ _ _ _ _ (sepL [_, _, _, _, _, _, _, _, _, _, _, _, _, _]))
    | (change Kc 200 _ at z; change TL _ _ _ _ _ _ _ _ (sepL [_, _, _, _, _, _, _, _, _, _, _, _, _, _, _]))
    | (change Kc 201 _ at z; refine q rfl rfl (conv .u16 .u64 rfl rfl rfl (wU (by omega))) ?_)
    | (change Kc 202 _ at z; (first | refine q rfl rfl (ixS 5 1 rfl rfl rfl (by omega) asm0) ?_ | refine q rfl rfl (ixJ 5 1 rfl rfl rfl (by omega) (by omega) asm0) ?_ | refine q rfl rfl (ix 5 1 rfl rfl rfl (by omega) (by omega) rfl) ?_))
    | (change Kc 203 _ at z; (first | refine q rfl rfl (conv .u8 .i64 rfl rfl rfl (wi64 (by omega) (by omega))) ?_ | refine q rfl rfl (conv .u8 .i64 rfl rfl rfl rfl) ?_))
    | (change Kc 204 _ at z; refine TF.of [(7, true), (10, true), (11, true)] (by kernel_rfl) rfl ?_)
    | (change Kc 205 _ at z; change TL _ _ _ _ _ _ _ _ (sepL [_, _, _, _, _, _, _, _, _, _, _, _, _, _, _, _, _, _, _, _, _, _, _, _, _, _, _, _, _, _, _, _, _, _, _, _, _, _, _, _]))
    | (change Kc 206 _ at z; refine dq rfl rfl rfl (len 365 3 rfl rfl) ?_)
    | (change Kc 207 _ at z; (first | refine dq rfl rfl rfl (subI rfl rfl (by omega) (by omega)) ?_ | refine dq rfl rfl rfl (sub rfl rfl rfl) ?_))
    | (change Kc 208 _ at z; refine q rfl rfl (luFO 3 3 rfl rfl (KL.int rfl) rfl rfl) ?_)
    | (change Kc 209 _ at z; (first | refine qg rfl rfl rfl (remI rfl rfl (by omega) (by omega)) ?_ | refine qg rfl rfl rfl (rem rfl rfl (by omega) rfl) ?_))
    | (change Kc 210 _ at z; (first | refine q rfl rfl (fa 22 rfl rfl) ?_ | refine q rfl rfl (faS 22 rfl rfl asm0) ?_))
    | (change Kc 211 _ at z; (first | refine q rfl rfl (ixS 263 2 rfl rfl rfl (by omega) asm0) ?_ | refine q rfl rfl (ixJ 263 2 rfl rfl rfl (by omega) (by omega) asm0) ?_ | refine q rfl rfl (ix 263 2 rfl rfl rfl (by omega) (by omega) rfl) ?_))
    | (change Kc 212 _ at z; refine qg rfl rfl rfl (mv (v := .slice _ _ _) rfl) ?_)
    | (change Kc 213 _ at z; refine dq rfl rfl rfl (asg (v := .slice _ _ _) rfl) ?_)
    | (change Kc 214 _ at z; refine q rfl rfl (slFn 263 2 k rfl rfl rfl rfl (by omega)) ?_)
    | (change Kc 215 _ at z; refine TC.draw _ [] [(0, false), (1, false), (2, false), (3, false), (4, false), (5, false), (6, true), (7, true), (8, false)] (by kernel_rfl) (by kernel_rfl) (ent_take 0 rfl (ent_nil _)) ?_)
  exact z.k) : G := h ⟨k ⟨z.k⟩⟩
theorem zg9 {c : Nat} {L : List Nat} {G R X : Prop} (z : Kt (c :: L) R) (k : Kt L R → X) (h : Kc c X → G := by
  intro z
  first
    | (change Kc 216 _ at z; refine dq rfl rfl rfl (faQ 0 rfl rfl) ?_)
    | (change Kc 217 _ at z; refine TL.known 24 rfl (c := true) rfl ?_)
    | (change Kc 218 _ at z; (first | refine q rfl rfl (bld (cs := ints [_, _]) rfl) ?_ | refine q rfl rfl (bld (cs := [_, _]) rfl) ?_))
    | (change Kc 219 _ at z; (first | refine fq (i := 5) rfl rfl rfl (by kernel_rfl) (ld rfl rfl rfl) ?_ | refine fq (i := 5) rfl rfl rfl (by kernel_rfl) (ldS rfl rfl rfl) ?_))
    | (change Kc 220 _ at z; (first | refine dg rfl rfl rfl rfl (ld rfl rfl rfl) ?_ | refine dg rfl rfl rfl rfl (ldS rfl rfl rfl) ?_))
    | (change Kc 221 _ at z; refine TC.draw _ [] [(0, false), (1, false), (2, false), (3, false), (4, false), (6, false), (5, true), (7, true)] (by kernel_rfl) (by kernel_rfl) (ent_take 6 rfl (ent_nil _)) ?_)
    | (change Kc 222 _ at z; (first | refine q rfl rfl (fa 7 rfl rfl) ?_ | refine q rfl rfl (faS 7 rfl rfl asm0) ?_))
    | (change Kc 223 _ at z; refine qg rfl rfl rfl (len 248 5 rfl rfl) ?_)
    | (change Kc 224 _ at z; (first | refine q rfl rfl (fa 5 rfl rfl) ?_ | refine q rfl rfl (faS 5 rfl rfl asm0) ?_))
    | (change Kc 225 _ at z; (first | refine q rfl rfl (fa 6 rfl rfl) ?_ | refine q rfl rfl (faS 6 rfl rfl asm0) ?_))
    | (change Kc 226 _ at z; (first | refine dq rfl rfl rfl (fa 8 rfl rfl) ?_ | refine dq rfl rfl rfl (faS 8 rfl rfl asm0) ?_))
    | (change Kc 227 _ at z; refine TC.draw _ [] [(0, false), (1, false), (2, false), (3, false), (4, false), (5, false), (6, false), (7, false), (8, false), (9, false), (10, false), (11, false), (12, false), (13, false), (14, false)] (by kernel_rfl) (by kernel_rfl) (ent.refl _) ?_)
    | (change Kc 228 _ at z; refine q rfl rfl (luF 3 220 rfl rfl (KL.int rfl) rfl rfl) ?_)
    | (change Kc 229 _ at z; refine q rfl rfl (len 164 2 rfl rfl) ?_)
    | (change Kc 230 _ at z; change TC _ _ _ _ _ _ _ (sepL [_, _, _, _, _, _, _, _, _, _, _]))
    | (change Kc 231 _ at z; change ent _ _ ∧ TF _ _ _ _ _ _ _ _ _ _ _ (sepL [_, _, _, _, _, _, _, _, _, _, _]))
    | (change Kc 232 _ at z; refine TF.of [(9, true), (10, true), (11, true)] (by kernel_rfl) rfl ?_)
    | (change Kc 233 _ at z; refine TF.of [(8, true), (10, true), (11, true)] (by kernel_rfl) rfl ?_)
    | (change Kc 234 _ at z; refine dq rfl rfl rfl (asg (v := .pointer _) rfl) ?_)
    | (change Kc 235 _ at z; refine dq rfl rfl rfl (ixAl 8 43 1 rfl rfl rfl (by omega) (by omega)) ?_)
    | (change Kc 236 _ at z; (first | refine dq rfl rfl rfl (ldN (vs := ints [_, _, _]) 3 rfl rfl rfl rfl) ?_ | refine dq rfl rfl rfl (ldSN (vs := ints [_, _, _]) 3 rfl rfl rfl rfl (by decide)) ?_))
    | (change Kc 237 _ at z; (first | refine dq rfl rfl rfl (ixS 365 3 rfl rfl rfl (by omega) asm0) ?_ | refine dq rfl rfl rfl (ixJ 365 3 rfl rfl rfl (by omega) (by omega) asm0) ?_ | refine dq rfl rfl rfl (ix 365 3 rfl rfl rfl (by omega) (by omega) rfl) ?_))
    | (change Kc 238 _ at z; (first | refine q rfl rfl (quoI rfl rfl (by omega) (by omega) (by omega)) ?_ | refine q rfl rfl (quo rfl rfl (by omega) rfl) ?_))
    | (change Kc 239 _ at z; (first | refine dg rfl rfl rfl rfl (notD rfl) ?_ | refine dg rfl rfl rfl rfl (notB rfl) ?_))
  exact z.k) : G := h ⟨k ⟨z.k⟩⟩
theorem zg10 {c : Nat} {L : List Nat} {G R X : Prop} (z : Kt (c :: L) R) (k : Kt L R → X) (h : Kc c X → G := by
  intro z
  first
    | (change Kc 240 _ at z; refine qg rfl rfl rfl (conv .i64 .u64 rfl rfl rfl (wU (by omega))) ?_)
    | (change Kc 241 _ at z; refine dq rfl rfl rfl (ixAl 21 251 1 rfl rfl rfl (by omega) (by omega)) ?_)
    | (change Kc 242 _ at z; refine dq rfl rfl rfl (slFn 263 2 (k + 1) rfl rfl rfl rfl (by omega)) ?_)
    | (change Kc 243 _ at z; refine TC.draw _ [] [(0, false), (1, false), (2, false), (3, false), (4, false), (5, false), (6, false), (7, false), (8, true)] (by kernel_rfl) (by kernel_rfl) (ent_nil _) ?_)
    | (change Kc 244 _ at z; (first | refine dg rfl rfl rfl rfl (fa 1 rfl rfl) ?_ | refine dg rfl rfl rfl rfl (faS 1 rfl rfl asm0) ?_))
    | (change Kc 245 _ at z; (first | refine q rfl rfl (bld (cs := [.pointer _, .int _ _]) rfl) ?_ | refine q rfl rfl (bld (cs := [_, _]) rfl) ?_))
    | (change Kc 246 _ at z; (first | refine q rfl rfl (bld (cs := [.int _ _, .int _ _, .int _ _, .int _ _, .int _ _]) rfl) ?_ | refine q rfl rfl (bld (cs := [_, _, _, _, _]) rfl) ?_))
    | (change Kc 247 _ at z; refine TC.draw _ [11] [(0, false), (1, false), (2, false), (3, false), (4, false), (5, false), (6, false), (8, false), (9, false), (7, true), (10, false), (11, true)] (by kernel_rfl) (by kernel_rfl) (ent_take 0 rfl (ent_nil _)) ?_)
    | (change Kc 248 _ at z; refine dq rfl rfl rfl (ixAl 8 90 1 rfl rfl rfl (by omega) (by omega)) ?_)
    | (change Kc 249 _ at z; (first | refine q rfl rfl (bld (cs := [.pointer _, .int _ _, .int _ _]) rfl) ?_ | refine q rfl rfl (bld (cs := [_, _, _]) rfl) ?_))
    | (change Kc 250 _ at z; refine q rfl rfl (ixA 256 171 5 rfl rfl rfl (by omega) (by omega)) ?_)
    | (change Kc 251 _ at z; (first | refine q rfl rfl (conv .i64 .u32 rfl rfl rfl (wu32 (by omega) (by omega))) ?_ | refine q rfl rfl (conv .i64 .u32 rfl rfl rfl rfl) ?_))
    | (change Kc 252 _ at z; (first | refine qg rfl rfl rfl (ncP rfl) ?_ | refine qg rfl rfl rfl (ncQ rfl) ?_))
    | (change Kc 253 _ at z; refine qg rfl rfl rfl (ixA 256 171 5 rfl rfl rfl (by omega) (by omega)) ?_)
    | (change Kc 254 _ at z; (first | refine dq rfl rfl rfl (ncP rfl) ?_ | refine dq rfl rfl rfl (ncQ rfl) ?_))
    | (change Kc 255 _ at z; refine dq rfl rfl rfl (ixA 256 171 5 rfl rfl rfl (by omega) (by omega)) ?_)
    | (change Kc 256 _ at z; (first | refine q rfl rfl (bld (cs := [.int _ _, .int _ _, .slice _ _ _]) rfl) ?_ | refine q rfl rfl (bld (cs := [_, _, _]) rfl) ?_))
    | (change Kc 257 _ at z; refine ap 16 rfl rfl rfl rfl rfl (Nat.le_of_ble_eq_true rfl) rfl rfl (by omega) (by simp only [maxLen]; omega) ?_)
    | (change Kc 258 _ at z; change ent _ _ ∧ TF _ _ _ _ _ _ _ _ _ _ _ (sepL [_, _, _, _, _, _, _, _, _]))
    | (change Kc 259 _ at z; refine TC.draw _ [] [(0, false), (1, false), (2, false), (3, false), (4, false), (5, true), (6, false), (7, false), (8, false), (9, false)] (by kernel_rfl) (by kernel_rfl) (ent_take 0 rfl (ent_take 1 rfl (ent_nil _))) ?_)
    | (change Kc 260 _ at z; refine TC.draw _ [] [(0, false), (1, false), (2, false), (3, false), (5, false), (6, false), (7, false), (8, false), (4, true), (9, true)] (by kernel_rfl) (by kernel_rfl) (ent_take 2 rfl (ent_take 2 rfl (ent_nil _))) ?_)
    | (change Kc 261 _ at z; refine TC.draw _ [] [(0, false), (1, false), (2, false), (3, false), (4, false), (5, false), (6, false), (7, false)] (by kernel_rfl) (by kernel_rfl) (ent.refl _) ?_)
    | (change Kc 262 _ at z; (first | refine dq rfl rfl rfl (bld (cs := [.int _ _, .int _ _, .int _ _, .slice _ _ _]) rfl) ?_ | refine dq rfl rfl rfl (bld (cs := [_, _, _, _]) rfl) ?_))
    | (change Kc 263 _ at z; (first | refine q rfl rfl (ldN (vs := ints [_, _]) 2 rfl rfl rfl rfl) ?_ | refine q rfl rfl (ldSN (vs := ints [_, _]) 2 rfl rfl rfl rfl (by decide)) ?_))
  exact z.k) : G := h ⟨k ⟨z.k⟩⟩
theorem zg11 {c : Nat} {L : List Nat} {G R X : Prop} (z : Kt (c :: L) R) (k : Kt L R → X) (h : Kc c X → G := by
  intro z
  first
    | (change Kc 264 _ at z; (first | refine fq (i := 3) rfl rfl rfl (by kernel_rfl) (ld rfl rfl rfl) ?_ | refine fq (i := 3) rfl rfl rfl (by kernel_rfl) (ldS rfl rfl rfl) ?_))
    | (change Kc 265 _ at z; refine TF.of [(7, false), (8, false), (9, false), (10, true), (11, true), (12, false)] (by kernel_rfl) rfl ?_)
    | (change Kc 266 _ at z; refine TC.draw _ [] [(0, false), (1, false), (2, true), (3, false), (4, false), (5, false), (7, false), (8, false), (9, false), (6, true), (10, false), (11, false), (12, false)] (by kernel_rfl) (by kernel_rfl) (ent_take 3 rfl (ent_take 7 rfl (ent_nil _))) ?_)
    | (change Kc 267 _ at z; refine TF.of [(6, true), (7, false), (8, false), (9, false), (11, true), (12, false)] (by kernel_rfl) rfl ?_)
    | (change Kc 268 _ at z; (first | refine qg rfl rfl rfl (fa 8 rfl rfl) ?_ | refine qg rfl rfl rfl (faS 8 rfl rfl asm0) ?_))
    | (change Kc 269 _ at z; (first | refine qg rfl rfl rfl (fa 4 rfl rfl) ?_ | refine qg rfl rfl rfl (faS 4 rfl rfl asm0) ?_))
    | (change Kc 270 _ at z; (first | refine dq rfl rfl rfl (fa 4 rfl rfl) ?_ | refine dq rfl rfl rfl (faS 4 rfl rfl asm0) ?_))
    | (change Kc 271 _ at z; refine st (v := .agg _) (vs := [_, _, _, _, _, _, _, _, _]) 9 rfl rfl rfl rfl rfl rfl (Nat.le_of_ble_eq_true rfl) rfl ?_)
    | (change Kc 272 _ at z; (first | refine q rfl rfl (bld (cs := [.int _ _, .int _ _, .bool _]) rfl) ?_ | refine q rfl rfl (bld (cs := [_, _, _]) rfl) ?_))
    | (change Kc 273 _ at z; (first | refine dq rfl rfl rfl (ixS 164 2 rfl rfl rfl (by omega) asm0) ?_ | refine dq rfl rfl rfl (ixJ 164 2 rfl rfl rfl (by omega) (by omega) asm0) ?_ | refine dq rfl rfl rfl (ix 164 2 rfl rfl rfl (by omega) (by omega) rfl) ?_))
    | (change Kc 274 _ at z; (first | refine fq (i := 3) rfl rfl rfl (by kernel_rfl) (fa 0 rfl rfl) ?_ | refine fq (i := 3) rfl rfl rfl (by kernel_rfl) (faS 0 rfl rfl asm0) ?_))
    | (change Kc 275 _ at z; (first | refine fq (i := 4) rfl rfl rfl (by kernel_rfl) (ld rfl rfl rfl) ?_ | refine fq (i := 4) rfl rfl rfl (by kernel_rfl) (ldS rfl rfl rfl) ?_))
    | (change Kc 276 _ at z; refine TC.draw _ [15] [(0, false), (1, false), (2, false), (3, false), (4, false), (5, false), (6, false), (8, false), (9, false), (10, false), (11, false), (12, false), (7, true), (13, true), (14, false), (15, true)] (by kernel_rfl) (by kernel_rfl) (ent_take 0 rfl (ent_nil _)) ?_)
    | (change Kc 277 _ at z; change TC _ _ _ _ _ _ _ (sepL [_, _, _, _, _, _, _, _, _, _, _, _, _, _]))
    | (change Kc 278 _ at z; refine st (v := .pointer _) (vs := [_]) 1 rfl rfl rfl rfl rfl rfl (Nat.le_of_ble_eq_true rfl) rfl ?_)
    | (change Kc 279 _ at z; change ent _ _ ∧ TF _ _ _ _ _ _ _ _ _ _ _ (sepL [_, _, _, _, _, _]))
    | (change Kc 280 _ at z; refine TF.of [(3, true), (7, true), (10, true), (11, true)] (by kernel_rfl) rfl ?_)
    | (change Kc 281 _ at z; refine dq rfl rfl rfl (ixAl 2 25 1 rfl rfl rfl (by omega) (by omega)) ?_)
    | (change Kc 282 _ at z; change ent _ _ ∧ TD _ _ _ _ _ _ _ _ _ _ (sepL [_, _, _, _, _, _, _, _, _, _, _, _, _]))
    | (change Kc 283 _ at z; (first | refine dq rfl rfl rfl (bld (cs := [.int _ _, .slice _ _ _, .slice _ _ _]) rfl) ?_ | refine dq rfl rfl rfl (bld (cs := [_, _, _]) rfl) ?_))
    | (change Kc 284 _ at z; (first | refine qg rfl rfl rfl (ldN (vs := [_, _, _, _]) 4 rfl rfl rfl rfl) ?_ | refine qg rfl rfl rfl (ldSN (vs := [_, _, _, _]) 4 rfl rfl rfl rfl (by decide)) ?_))
    | (change Kc 285 _ at z; (first | refine qg rfl rfl rfl (bld (cs := [.int _ _, .int _ _, .int _ _, .slice _ _ _]) rfl) ?_ | refine qg rfl rfl rfl (bld (cs := [_, _, _, _]) rfl) ?_))
  exact z.k) : G := h ⟨k ⟨z.k⟩⟩
theorem zz (L : List Nat) {G R : Prop} (k : R) (h : Kt L R → G := by
  intro z
  repeat (first
    | (refine zg0 z ?_; clear z; intro z)
    | (refine zg1 z ?_; clear z; intro z)
    | (refine zg2 z ?_; clear z; intro z)
    | (refine zg3 z ?_; clear z; intro z)
    | (refine zg4 z ?_; clear z; intro z)
    | (refine zg5 z ?_; clear z; intro z)
    | (refine zg6 z ?_; clear z; intro z)
    | (refine zg7 z ?_; clear z; intro z)
    | (refine zg8 z ?_; clear z; intro z)
    | (refine zg9 z ?_; clear z; intro z)
    | (refine zg10 z ?_; clear z; intro z)
    | (refine zg11 z ?_; clear z; intro z))
  exact z.k) : G := h ⟨k⟩
end Go.QM
namespace Go.Proofs.YtnlgmaibhlicjaaGreatDoor.Rd
open Go Go.QM
theorem ints_app1 (xs ys : List Int) : ints xs ++ ints ys = ints (xs ++ ys) := by simp [ints]
def notP (pr : Int → Bool) : Int → Bool := fun x => !pr x
structure DelI (xs : List Int) (pr : Int → Bool) (i j : Nat) (ys : List Int) : Prop where
  len : ys.length = xs.length
  ij : i < j
  jn : j ≤ xs.length
  tk : ys.take i = (xs.take j).filter (notP pr)
  dr : ys.drop j = xs.drop j
end Go.Proofs.YtnlgmaibhlicjaaGreatDoor.Rd
namespace Go.Proofs.YtnlgmaibhlicjaaGreatDoor.Rd
open Go Go.QM
structure Th where
  id : Int
  prio : Int
  whole : Int
  left : Int
def thC (t : Th) : List Value := [.int .i64 t.whole, .int .i64 t.left, .int .i64 t.prio]
def rowA (S : List Th) (p : Nat) : List Int := (S.filter fun t => decide (t.prio = (p : Int))).map (·.id)
def hasS (S : List Th) (id : Int) : Prop := ∃ t ∈ S, t.id = id
instance (S : List Th) (id : Int) : Decidable (hasS S id) := inferInstanceAs (Decidable (∃ t ∈ S, t.id = id))
def fS (A : Int → Nat) (S : List Th) : Int → Option Value := fun id => if hasS S id then some (.pointer (some ⟨A id, 0, none⟩)) else none
def NdS (S : List Th) : Prop := (S.map (·.id)).Nodup
structure RInv (S : List Th) : Prop where
  nd : NdS S
  rg : ∀ t ∈ S, 0 ≤ t.id ∧ (0 ≤ t.prio ∧ t.prio ≤ 7) ∧ (0 ≤ t.whole ∧ t.whole ≤ 16) ∧ 0 ≤ t.left ∧ t.left ≤ 16
structure RRep where
  ad : Nat → Option Addr
  cap : Nat → Nat
  mb : Nat
  A : Int → Nat
abbrev rowP (ad : Nat → Option Addr) (cap : Nat → Nat) (S : List Th) (p : Nat) : HP := slc 3 1 (ad p) (rowA S p).length (cap p) (ints (rowA S p))
abbrev thP (A : Int → Nat) (t : Th) : HP := pts (A t.id) 304 (thC t)
abbrev hdS (ad : Nat → Option Addr) (cap : Nat → Nat) (mb : Nat) (S : List Th) : List Value := rowsC (fun p => .slice (ad p) (rowA S p).length (cap p)) [.map (some mb)]
def isQ (q : Nat) (S : List Th) : HP := EX fun y : RRep => pure' (RInv S) (sepL [pts q 277 (hdS y.ad y.cap y.mb S), bigS (rowP y.ad y.cap S) (List.range 8), mapF QM.encI y.mb (fS y.A S) S.length, bigS (thP y.A) S])
def offS (S : List Th) (id : Int) : List Th := S.filter fun t => decide (t.id ≠ id)
theorem fS_yes {A : Int → Nat} {S : List Th} {id : Int} (h : hasS S id) : fS A S id = some (.pointer (some ⟨A id, 0, none⟩)) := if_pos h
theorem fS_no {A : Int → Nat} {S : List Th} {id : Int} (h : ¬ hasS S id) : fS A S id = none := if_neg h
def addS (S : List Th) (id prio sl : Int) : List Th × Int := if id < 0 ∨ prio < 0 ∨ 7 < prio ∨ sl < 1 ∨ 16 < sl then (S, 1) else if hasS S id then (S, 7) else (S ++ [⟨id, prio, sl, sl⟩], 0)
theorem RInv.add {S : List Th} (h : RInv S) {t : Th} (hx : ¬ hasS S t.id) (hr : 0 ≤ t.id ∧ (0 ≤ t.prio ∧ t.prio ≤ 7) ∧ (0 ≤ t.whole ∧ t.whole ≤ 16) ∧ 0 ≤ t.left ∧ t.left ≤ 16) : RInv (S ++ [t]) where
 nd := by
  rw [NdS, List.map_append, List.nodup_append]
  refine ⟨h.nd, by simp, fun x hx1 y hy => ?_⟩
  obtain ⟨a, ha, rfl⟩ := List.mem_map.1 hx1
  simp only [List.map_cons, List.map_nil, List.mem_singleton] at hy
  rw [hy]; exact fun e => hx ⟨a, ha, e⟩
 rg := fun u hu => by
  rcases List.mem_append.1 hu with hu | hu
  ·exact h.rg u hu
  ·rw [List.mem_singleton.1 hu]; exact hr
theorem rowA_app (S T : List Th) (p : Nat) : rowA (S ++ T) p = rowA S p ++ rowA T p := by simp [rowA]
theorem rowA_one {t : Th} {p : Nat} (h : t.prio = p) : rowA [t] p = [t.id] := by simp [rowA, h]
theorem rowA_one_ne {t : Th} {p : Nat} (h : t.prio ≠ p) : rowA [t] p = [] := by simp [rowA, h]
theorem fS_add {A : Int → Nat} {S : List Th} {t : Th} (b : Nat) : fS (updI A t.id b) (S ++ [t]) = updF (fS A S) t.id (.pointer (some ⟨b, 0, none⟩)) := by
 funext x
 simp only [fS, updF]
 have hh : hasS (S ++ [t]) x ↔ hasS S x ∨ t.id = x := by simp [hasS, or_and_right, exists_or]
 by_cases e : x = t.id
 ·rw [if_pos (hh.2 (.inr e.symm)), if_pos e, e, updI_same]
 ·rw [if_neg e, updI_ne e]
  by_cases h : hasS S x
  ·rw [if_pos (hh.2 (.inl h)), if_pos h]
  ·rw [if_neg (fun h2 => (hh.1 h2).elim h (fun e2 => e e2.symm)), if_neg h]
theorem rowA_mem {S : List Th} {p : Nat} {x : Int} : x ∈ rowA S p ↔ ∃ t ∈ S, t.prio = p ∧ t.id = x := by simp [rowA, and_assoc]
theorem rowA_len (S : List Th) (p : Nat) : (rowA S p).length ≤ S.length := by rw [rowA, List.length_map]; exact List.length_filter_le _ _
theorem rows_ne {ad : Nat → Option Addr} {cap : Nat → Nat} {S T : List Th} {p : Nat} {L : List Nat} {a : Option Addr} {c : Nat} (hL : ∀ x ∈ L, x ≠ p ∧ x < 8) (h : ∀ x, x ≠ p → rowA T x = rowA S x) : ∀ x ∈ L, rowP ad cap S x = rowP (updN ad p a) (updN cap p c) T x := fun x hx => by
 have := (hL x hx).1
 simp only [rowP, updN_ne this, h x this]
theorem hd_upd {ad : Nat → Option Addr} {cap : Nat → Nat} {mb : Nat} {S T : List Th} {p n c : Nat} {a : Option Addr} (h : ∀ x, x ≠ p → rowA T x = rowA S x) (hp : (rowA T p).length = n) :
 rowsC (fun x => if x = p then Value.slice a n c else .slice (ad x) (rowA S x).length (cap x)) [.map (some mb)] = hdS (updN ad p a) (updN cap p c) mb T := rows_congr fun x _ => by
 by_cases e : x = p
 ·rw [if_pos e, e, updN_same, updN_same, hp]
 ·rw [if_neg e, updN_ne e, updN_ne e, h x e]
def topS (S : List Th) : Option Th := S.find? fun t => S.all fun u => decide (u.prio ≤ t.prio)
def runS (S : List Th) : Int := match topS S with
  | some t => t.id
  | none => -1
theorem top_row {S : List Th} (h : RInv S) {p : Nat} (hn : ∀ x, p < x → x < 8 → rowA S x = []) {x : Int} {rest : List Int} (hr : rowA S p = x :: rest) : ∃ t, topS S = some t ∧ t.id = x ∧ t.prio = p := by
 have hle : ∀ u ∈ S, u.prio ≤ p := fun u hu => by
  have h1 := h.rg u hu
  obtain ⟨k, hk⟩ := Int.eq_ofNat_of_zero_le h1.2.1.1
  by_cases hpk : p < k
  ·have := hn k hpk (by omega)
   have hm : u.id ∈ rowA S k := rowA_mem.2 ⟨u, hu, hk, rfl⟩
   rw [this] at hm; cases hm
  ·omega
 obtain ⟨t, T, hf⟩ : ∃ t T, S.filter (fun t => decide (t.prio = (p : Int))) = t :: T := by
  cases hS : S.filter (fun t => decide (t.prio = (p : Int))) with
  | nil => rw [rowA, hS] at hr; cases hr
  | cons t T => exact ⟨t, T, rfl⟩
 have hid : t.id = x := by rw [rowA, hf] at hr; simpa using (List.cons.inj hr).1
 have hmt := List.mem_filter.1 (show t ∈ S.filter (fun t => decide (t.prio = (p : Int))) by rw [hf]; simp)
 have htp : t.prio = p := by simpa using hmt.2
 refine ⟨t, ?_, hid, htp⟩
 have h2 : topS S = S.find? fun t => decide (t.prio = (p : Int)) := by
  rw [topS]
  have : ∀ u ∈ S, (S.all fun v => decide (v.prio ≤ u.prio)) = decide (u.prio = (p : Int)) := fun u hu => by
   rw [Bool.eq_iff_iff, List.all_eq_true]
   simp only [decide_eq_true_eq]
   constructor
   ·intro h3
    have h4 := h3 t hmt.1; have h5 := hle u hu; omega
   ·intro h3 v hv
    have := hle v hv; omega
  induction S with
  | nil => rfl
  | cons a l _ => exact find_congr this
 rw [h2, ← List.head?_filter, hf]; rfl
 where find_congr {f g : Th → Bool} : ∀ {l : List Th}, (∀ u ∈ l, f u = g u) → l.find? f = l.find? g
  | [], _ => rfl
  | a :: l, h => by
   rw [List.find?_cons, List.find?_cons, h a (by simp), find_congr fun u hu => h u (by simp [hu])]
theorem top_none {S : List Th} (h : RInv S) (hn : ∀ x, x < 8 → rowA S x = []) : S = [] := by
 rcases S with _ | ⟨t, T⟩
 ·rfl
 ·have h1 := h.rg t (by simp)
  obtain ⟨k, hk⟩ := Int.eq_ofNat_of_zero_le h1.2.1.1
  have hm : t.id ∈ rowA (t :: T) k := rowA_mem.2 ⟨t, by simp, hk, rfl⟩
  rw [hn k (by omega)] at hm; cases hm
def rndS (S : List Th) (t : Th) : List Th := offS S t.id ++ [⟨t.id, t.prio, t.whole, t.whole⟩]
def setL (S : List Th) (id v : Int) : List Th := S.map fun t => if t.id = id then ⟨t.id, t.prio, t.whole, v⟩ else t
def tickS (S : List Th) : List Th := match topS S with
  | none => S
  | some t => if t.left = 1 then rndS S t else setL S t.id (t.left - 1)
def yieldS (S : List Th) : List Th := match topS S with
  | none => S
  | some t => rndS S t
theorem RInv.nil : RInv [] := ⟨List.nodup_nil, fun t h => by cases h⟩
end Go.Proofs.YtnlgmaibhlicjaaGreatDoor.Rd
namespace Go.Proofs.YtnlgmaibhlicjaaGreatDoor.Rd
open Go Go.QM
theorem rnew_ent (qp mb : Nat) (F : HP) : ent (sepL [pts qp 277 (rowsC (fun _ => .slice none 0 0) [.map (some mb)]), mapF QM.encI mb (fun _ => none) 0, F]) (sepL [isQ qp [], F]) := by
 have hf : fS (fun _ => 0) [] = fun _ => none := funext fun _ => if_neg (by simp [hasS])
 have h8 : List.range 8 = [0, 1, 2, 3, 4, 5, 6, 7] := by rfl
 refine (bigS_nil (f := thP (fun _ => 0)) _).trans ?_
 refine (((slc_nil 3 1 _).trans ((slc_nil 3 1 _).trans ((slc_nil 3 1 _).trans ((slc_nil 3 1 _).trans ((slc_nil 3 1 _).trans ((slc_nil 3 1 _).trans ((slc_nil 3 1 _).trans (slc_nil 3 1 _)))))))) : ent _ (sepL [slc 3 1 none 0 0 [], slc 3 1 none 0 0 [], slc 3 1 none 0 0 [], slc 3 1 none 0 0 [], slc 3 1 none 0 0 [], slc 3 1 none 0 0 [], slc 3 1 none 0 0 [], slc 3 1 none 0 0 [], _, _, _, _])).trans ?_
 refine ent_close (⟨fun _ => none, fun _ => 0, mb, fun _ => 0⟩ : RRep) RInv.nil ?_
 refine ent_take 9 rfl ?_
 refine (show ent (sepL [slc 3 1 none 0 0 [], slc 3 1 none 0 0 [], slc 3 1 none 0 0 [], slc 3 1 none 0 0 [], slc 3 1 none 0 0 [], slc 3 1 none 0 0 [], slc 3 1 none 0 0 [], slc 3 1 none 0 0 [], bigS (thP fun _ => 0) [], mapF QM.encI mb (fun _ => none) 0, F]) (sepL [bigS (rowP (fun _ => none) (fun _ => 0) []) (List.range 8), mapF QM.encI mb (fS (fun _ => 0) []) 0, bigS (thP fun _ => 0) [], F]) from ?_)
 rw [hf, bigS, h8]
 refine (sepL_append' [slc 3 1 none 0 0 [], slc 3 1 none 0 0 [], slc 3 1 none 0 0 [], slc 3 1 none 0 0 [], slc 3 1 none 0 0 [], slc 3 1 none 0 0 [], slc 3 1 none 0 0 [], slc 3 1 none 0 0 []] _).trans (sep_mono (ent.refl _) ?_)
 exact ent_take 1 rfl (ent_take 0 rfl (ent_take 0 rfl (ent_nil _)))
theorem rnew_ok  : FSpec Tryz.prog 88 [] noRd [] (fun qp : Nat => .pointer (some ⟨qp, 0, none⟩)) (fun _ => True) (fun qp => [isQ qp []]) := by
 refine fI Tryz.func88 Tryz.ntmps88 ?_
 intro F _
 refine zz [37,0,1,24,2,0,1,5] ?_
 refine mkF QM.encI ?_
 intro b1
 first | refine q rfl rfl (bld (cs := [.slice _ _ _, .slice _ _ _, .slice _ _ _, .slice _ _ _, .slice _ _ _, .slice _ _ _, .slice _ _ _, .slice _ _ _, .map _]) rfl) ?_ | refine q rfl rfl (bld (cs := [_, _, _, _, _, _, _, _, _]) rfl) ?_
 refine e rfl ?_
 refine bx (v := .agg _) (l := [.slice _ _ _, .slice _ _ _, .slice _ _ _, .slice _ _ _, .slice _ _ _, .slice _ _ _, .slice _ _ _, .slice _ _ _, .map _]) rfl rfl ?_
 intro b2
 refine zz [24,2,11] ?_
 have h8 : List.range 8 = [0, 1, 2, 3, 4, 5, 6, 7] := by rfl
 exact Ret.i b2 [_] ⟨rfl, trivial⟩ rfl trivial (rnew_ent b2 b1 F)
theorem qat_ok (qp : Nat) (r : Nat → Value) (mb n : Nat) (f : Int → Option Value) (id : Int) : FSpec Tryz.prog 140 [.pointer (some ⟨qp, 0, none⟩), .int .i64 id] noRd [pts qp 277 (rowsC r [.map (some mb)]), mapF QM.encI mb f n] (fun _ : Unit => (f id).getD (.pointer none)) (fun _ => True) (fun _ => [pts qp 277 (rowsC r [.map (some mb)]), mapF QM.encI mb f n]) := by
 refine fI Tryz.func140 Tryz.ntmps140 ?_
 intro F _
 refine zz [44,0,1,87,2,0,0,1,71,34,2,10,7,0,1,71,13,160,12,71] ?_
 refine q rfl rfl (luF 3 299 rfl rfl (KL.int rfl) rfl rfl) ?_
 refine zz [87,2,11] ?_
 exact zc9
theorem again_ok (b : Nat) (w l r : Int) : FSpec Tryz.prog 141 [.pointer (some ⟨b, 0, none⟩)] noRd [pts b 304 [.int .i64 w, .int .i64 l, .int .i64 r]] (fun _ : Unit => .tuple #[]) (fun _ => True) (fun _ => [pts b 304 [.int .i64 w, .int .i64 w, .int .i64 r]]) := by
 refine fI Tryz.func141 Tryz.ntmps141 ?_
 intro F _
 refine zz [39,1,6,6,13,14,12,13,47,21,105] ?_
 refine TL.nil ?_
 exact zc7
theorem run_ok (qp : Nat) (S : List Th) (hn : S.length ≤ 1000000) : FSpec Tryz.prog 113 [.pointer (some ⟨qp, 0, none⟩)] noRd [isQ qp S] (fun _ : Unit => .int .i64 (runS S)) (fun _ => True) (fun _ => [isQ qp S]) := by
 refine fI Tryz.func113 Tryz.ntmps113 ?_
 intro F _
 refine zz [39] ?_
 refine TC.open 0 rfl (fun x0 hx0 => ?_)
 obtain ⟨ad, cap, mb, A⟩ := x0
 have hR := hx0
 refine zz [95] ?_
 dsimp only at hR ⊢
 refine zz [0,1,4,2,0,0,1,4,2,17] ?_
 refine TC.loop (ι := Nat) (fun k => k ≤ 8 ∧ ∀ x, k ≤ x → x < 8 → rowA S x = []) (fun k => [(0, .pointer (some ⟨qp, 0, none⟩)), (3, .int .i64 ((k : Int) - 1))]) (fun k => sepL [pts qp 277 (hdS ad cap mb S), bigS (rowP ad cap S) (List.range 8), mapF QM.encI mb (fS A S) S.length, bigS (thP A) S, F]) (fun k => k) 8 ⟨Nat.le_refl _, fun x h1 h2 => by omega⟩ ⟨rfl, rfl, trivial⟩ (ent_take 0 rfl (ent_take 0 rfl (ent_take 0 rfl (ent_take 0 rfl (ent_take 0 rfl (ent_nil _)))))) ?_
 rintro k ⟨hk, hem⟩ ρ0
 dsimp only [updL] at hk hem ⊢
 refine zz [0,0,1,6,106,20] ?_
 refine TL.known 7 rfl (c := true) rfl ?_
 refine zz [32,139,19,2] ?_
 first | refine TC.condD rfl (fun hge => ?_) (fun hge => ?_) | refine TC.cond rfl (fun hge => ?_) (fun hge => ?_)
 ·obtain ⟨p, rfl⟩ : ∃ z, k = z + 1 := ⟨k - 1, by omega⟩
  rw [show (((p + 1 : Nat) : Int) - 1) = (p : Int) from by omega]
  have hp8 : p < 8 := by omega
  obtain ⟨L, hL, hLn⟩ := range_perm hp8
  refine TC.weak (ent_openB 1 rfl hL) ?_
  refine zz [7,0,17,0,1,6,3,13,14] ?_
  refine q rfl rfl (ixAl 8 43 1 rfl rfl rfl (by omega) (by omega)) ?_
  first | refine q rfl rfl (ld rfl rfl rfl) ?_ | refine q rfl rfl (ld rfl rfl (rows_ld hp8 (by omega))) ?_ | refine q rfl rfl (ldS rfl rfl rfl) ?_
  refine zz [35,2,0,1,29,91,107,2] ?_
  first | refine TC.condD rfl (fun hlen => ?_) (fun hlen => ?_) | refine TC.cond rfl (fun hlen => ?_) (fun hlen => ?_)
  ·obtain ⟨x0, rest, hrow⟩ : ∃ x0 rest, rowA S p = x0 :: rest := by
    cases hr0 : rowA S p with
    | nil => rw [hr0] at hlen; simp at hlen
    | cons a l => exact ⟨a, l, rfl⟩
   obtain ⟨t, ht1, ht2, ht3⟩ := top_row hR (fun x h1 h2 => hem x (by omega) h2) hrow
   have hv : runS S = x0 := by rw [runS, ht1, ← ht2]
   rw [hv]
   have hx0 : (rowA S p)[0]? = some x0 := by rw [hrow]; rfl
   have hil := ints_length (rowA S p)
   have hpos : 0 < (ints (rowA S p)).length := by omega
   refine zz [0,1,29,81] ?_
   first | refine q rfl rfl (ld rfl rfl rfl) ?_ | refine q rfl rfl (ld rfl rfl (rows_ld hp8 (by omega))) ?_ | refine q rfl rfl (ldS rfl rfl (ints_get hx0)) ?_ | refine q rfl rfl (ldS rfl rfl rfl) ?_
   refine zz [4,2,143] ?_
   exact Ret.i () [_] ⟨rfl, trivial⟩ rfl trivial (ent_close ⟨ad, cap, mb, A⟩ hR (ent_take 2 rfl (ent_closeB 0 0 p rfl rfl rfl (fun _ _ => rfl) hL.symm (ent_take 0 rfl (ent_take 0 rfl (ent_take 0 rfl (ent_nil _)))))))
  ·refine zz [42,1,3,128,4,2] ?_
   exact ⟨rfl, p, ⟨by omega, fun x h1 h2 => by rcases Nat.lt_or_eq_of_le h1 with h3 | h3; exact hem x (by omega) h2; subst h3; exact List.length_eq_zero_iff.1 (by omega)⟩, (by omega), ⟨rfl, rfl, trivial⟩, (ent_take 2 rfl (ent_closeB 0 0 p rfl rfl rfl (fun _ _ => rfl) hL.symm (ent_take 0 rfl (ent_take 0 rfl (ent_take 0 rfl (ent_nil _))))))⟩
 ·obtain rfl : k = 0 := by omega
  have hS := top_none hR (fun x h => hem x (by omega) h)
  have hv : runS S = -1 := by rw [hS]; rfl
  rw [hv]
  refine zz [50,0,1,4,2,11] ?_
  exact Ret.i () [_] ⟨rfl, trivial⟩ rfl trivial (ent_close ⟨ad, cap, mb, A⟩ hR (ent_take 0 rfl (ent_take 0 rfl (ent_take 0 rfl (ent_take 0 rfl (ent_take 0 rfl (ent_nil _)))))))
theorem add_ok (qp : Nat) (S : List Th) (hn : S.length ≤ 1000000) (id pr sl : Int) : FSpec Tryz.prog 102 [.pointer (some ⟨qp, 0, none⟩), .int .i64 id, .int .i64 pr, .int .i64 sl] noRd [isQ qp S] (fun _ : Unit => .int .i64 (addS S id pr sl).2) (fun _ => True) (fun _ => [isQ qp (addS S id pr sl).1]) := by
 refine fI Tryz.func102 Tryz.ntmps102 ?_
 intro F _
 refine zz [39,0,1,4,2,0,17,0,1,6,34,20] ?_
 refine TL.known 13 rfl (c := false) rfl ?_
 refine zz [32,88,19,20] ?_
 refine TL.split 17 rfl (fun hs0 => ?_) (fun hs0 => ?_)
 ·have hs0 := of_decide_eq_true hs0
  have hv : addS S id pr sl = (S, 1) := by rw [addS, if_pos (by omega)]
  rw [hv]
  dsimp only
  refine zz [22,22,19,20,22,22,19,20,22,22,19,20,22,22,19,9,2,40,0,1,4,2,56] ?_
  exact zc1
 ·have hs0 := of_decide_eq_false hs0
  refine zz [32,88,19,20] ?_
  refine TL.split 21 rfl (fun hs1 => ?_) (fun hs1 => ?_)
  ·have hs1 := of_decide_eq_true hs1
   have hv : addS S id pr sl = (S, 1) := by rw [addS, if_pos (by omega)]
   rw [hv]
   dsimp only
   refine zz [22,22,19,20,22,22,19,20,22,22,19,9,2,40,0,1,4,2,56] ?_
   exact zc1
  ·have hs1 := of_decide_eq_false hs1
   refine zz [32,84,19,20] ?_
   refine TL.split 25 rfl (fun hs2 => ?_) (fun hs2 => ?_)
   ·have hs2 := of_decide_eq_true hs2
    have hv : addS S id pr sl = (S, 1) := by rw [addS, if_pos (by omega)]
    rw [hv]
    dsimp only
    refine zz [22,22,19,20,22,22,19,9,2,40,0,1,4,2,56] ?_
    exact zc1
   ·have hs2 := of_decide_eq_false hs2
    refine zz [32,88,19,20] ?_
    refine TL.split 29 rfl (fun hs3 => ?_) (fun hs3 => ?_)
    ·have hs3 := of_decide_eq_true hs3
     have hv : addS S id pr sl = (S, 1) := by rw [addS, if_pos (by omega)]
     rw [hv]
     dsimp only
     refine zz [22,22,19,9,2,40,0,1,4,2,56] ?_
     exact zc1
    ·have hs3 := of_decide_eq_false hs3
     refine zz [32,84,19,9,2] ?_
     first | refine TC.condD rfl (fun hs4 => ?_) (fun hs4 => ?_) | refine TC.cond rfl (fun hs4 => ?_) (fun hs4 => ?_)
     ·have hv : addS S id pr sl = (S, 1) := by rw [addS, if_pos (by omega)]
      rw [hv]
      dsimp only
      refine zz [0,1,4,2,56] ?_
      exact zc1
     ·refine TC.open 0 rfl (fun x0 hx0 => ?_)
      obtain ⟨ad, cap, mb, A⟩ := x0
      have hR := hx0
      refine zz [95] ?_
      dsimp only at hR ⊢
      by_cases hy : hasS S id
      ·have hf := fS_yes (A := A) hy
       have hv : addS S id pr sl = (S, 7) := by rw [addS, if_neg (by omega), if_pos hy]
       rw [hv]
       dsimp only
       refine zz [0,1,6,3,5] ?_
       refine cl (qat_ok qp _ mb S.length (fS A S) id) rfl (picked_cons 0 rfl (picked_cons 1 rfl (picked_nil _))) trivial ?_
       intro _ _
       refine zz [57] ?_
       rw [hf]
       refine zz [106,9,2,40,0,1,4,2,56] ?_
       exact Ret.i () [_] ⟨rfl, trivial⟩ rfl trivial (ent_close ⟨ad, cap, mb, A⟩ hR (ent_take 0 rfl (ent_take 1 rfl (ent_take 0 rfl (ent_take 0 rfl (ent_take 0 rfl (ent_nil _)))))))
      ·have hf := fS_no (A := A) hy
       have hv : addS S id pr sl = (S ++ [⟨id, pr, sl, sl⟩], 0) := by rw [addS, if_neg (by omega), if_neg hy]
       rw [hv]
       dsimp only
       obtain ⟨p, rfl⟩ := Int.eq_ofNat_of_zero_le (show 0 ≤ pr by omega)
       have hp8 : p < 8 := by omega
       obtain ⟨L, hL, hLn⟩ := range_perm hp8
       have hrl := rowA_len S p
       have hR2 := hR.add (t := ⟨id, p, sl, sl⟩) hy (by dsimp only; omega)
       have hrow : ∀ x, x ≠ p → rowA (S ++ [⟨id, (p : Int), sl, sl⟩]) x = rowA S x := fun x hx => by rw [rowA_app, rowA_one_ne (by dsimp only; omega), List.append_nil]
       have hrowp : rowA (S ++ [⟨id, (p : Int), sl, sl⟩]) p = rowA S p ++ [id] := by rw [rowA_app, rowA_one rfl]
       have hil := ints_length (rowA S p)
       refine TC.weak (ent_openB 1 rfl hL) ?_
       refine zz [0,1,6,3,5] ?_
       refine cl (qat_ok qp _ mb S.length (fS A S) id) rfl (picked_cons 2 rfl (picked_cons 2 rfl (picked_nil _))) trivial ?_
       intro _ _
       refine zz [69] ?_
       rw [hf]
       refine zz [106,9,2,10,42,0,1,3,73,3,89,5] ?_
       refine bx (v := .agg #[_, _, _]) (l := [.int _ _, .int _ _, .int _ _]) rfl rfl ?_
       intro b3
       refine zz [24,2,0,1,6,13,14,5] ?_
       refine cl (again_ok b3 sl 0 p) rfl (picked_cons 0 rfl (picked_nil _)) trivial ?_
       intro _ _
       refine zz [49,2,0,1,6,13,160] ?_
       first | refine q rfl rfl (ld rfl rfl rfl) ?_ | refine q rfl rfl (ld rfl rfl (rows_ld hp8 (by omega))) ?_ | refine q rfl rfl (ldS rfl rfl rfl) ?_
       refine zz [3,6,21] ?_
       refine muF 3 299 rfl (KL.int rfl) rfl rfl rfl ?_
       refine zz [2,0] ?_
       refine TC.draw _ [14] [(0, false), (1, false), (2, false), (3, false), (4, false), (5, false), (6, false), (7, false), (8, false), (11, false), (12, false), (9, true), (10, true), (13, false), (14, true)] (by kernel_rfl) (by kernel_rfl) (ent_take 2 rfl (ent_nil _)) ?_
       refine zz [28,33,28,33,31,25,235] ?_
       first | refine dq rfl rfl rfl (ld rfl rfl rfl) ?_ | refine dq rfl rfl rfl (ld rfl rfl (rows_ld hp8 (by omega))) ?_ | refine dq rfl rfl rfl (ldS rfl rfl rfl) ?_
       refine zz [33,31,25,16,72] ?_
       intro b4
       refine zz [8,16] ?_
       refine ap 8 rfl rfl rfl rfl rfl (Nat.le_of_ble_eq_true rfl) (show _ = ints [id] from rfl) rfl (by omega) (by simp only [maxLen]; omega) ?_
       intro ad1 cap1
       refine zz [8,235,70] ?_
       first | refine st (v := .slice _ _ _) (vs := [_]) 1 rfl rfl rfl rfl rfl rfl (Nat.le_of_ble_eq_true rfl) rfl ?_ | refine st (v := .slice _ _ _) (vs := [_]) 1 rfl rfl rfl rfl rfl rfl (by rw [rows_length]; simp; omega) (rows_st _ hp8 (by omega)) ?_
       refine zz [27,0,1,4,2,11] ?_
       exact Ret.i () [_] ⟨rfl, trivial⟩ rfl trivial (ent_close ⟨updN ad p ad1, updN cap p cap1, mb, updI A id b3⟩ hR2 (ent_takeE 0 rfl (congrArg (pts qp 277) (hd_upd (n := (rowA S p).length + 1) hrow (by rw [hrowp, List.length_append]; rfl))) (ent_closeB 0 3 p rfl rfl (by dsimp only [rowP]; rw [updN_same, updN_same, hrowp, List.length_append, List.length_singleton, ints_app1]) (rows_ne hLn hrow) hL.symm (ent_takeE 1 rfl (by dsimp only; rw [fS_add (t := ⟨id, (p : Int), sl, sl⟩), hf, List.length_append]; rfl) (ent_closeB 1 1 ⟨id, (p : Int), sl, sl⟩ rfl rfl (by dsimp only [thP]; rw [updI_same]; rfl) (fun u hu => by dsimp only [thP]; rw [updI_ne (fun e2 => hy ⟨u, hu, e2⟩)]) (List.perm_append_singleton _ _).symm (ent_take 1 rfl (ent_nil _)))))))
end Go.Proofs.YtnlgmaibhlicjaaGreatDoor.Rd
namespace Go.Proofs.YtnlgmaibhlicjaaGreatDoor.Rd
open Go Go.QM
end Go.Proofs.YtnlgmaibhlicjaaGreatDoor.Rd
namespace Go.Proofs.YtnlgmaibhlicjaaGreatDoor.Al
open Go Go.QM
structure En where
  at_ : Int
  tn : Int
  id : Int
def enC (e : En) : List Value := ints [e.at_, e.tn, e.id]
theorem enC_sz (e : En) : (enC e).length = 3 := rfl
def ents (H : List En) : List Value := H.flatMap enC
theorem ents_length (H : List En) : (ents H).length = H.length * 3 := flat_length enC_sz H
def Lt (a b : En) : Prop := a.at_ < b.at_ ∨ a.at_ = b.at_ ∧ a.tn < b.tn
instance (a b : En) : Decidable (Lt a b) := inferInstanceAs (Decidable (a.at_ < b.at_ ∨ a.at_ = b.at_ ∧ a.tn < b.tn))
def gE (L : List En) (k : Nat) : En := L.getD k ⟨0, 0, 0⟩
theorem gE_get {L : List En} {k : Nat} (h : k < L.length) : L[k]? = some (gE L k) := by simp [gE, h]
theorem gE_of {L : List En} {k : Nat} {e : En} (h : L[k]? = some e) : gE L k = e := by simp [gE, List.getD_eq_getElem?_getD, h]
theorem gE_mem {L : List En} {k : Nat} (h : k < L.length) : gE L k ∈ L := List.mem_of_getElem? (gE_get h)
theorem gE_set {L : List En} {i : Nat} (h : i < L.length) (e : En) (k : Nat) : gE (L.set i e) k = if k = i then e else gE L k := by
 simp only [gE, List.getD_eq_getElem?_getD, List.getElem?_set]
 by_cases hk : k = i
 ·subst hk; simp [h]
 ·rw [if_neg (fun e => hk e.symm), if_neg hk]
theorem set_self {L : List En} {i : Nat} (h : i < L.length) : L.set i (gE L i) = L := by
 have : gE L i = L[i] := by simp [gE, h]
 rw [this]; exact List.set_getElem_self h
def OkAt (L : List En) (k : Nat) : Prop := ¬ Lt (gE L k) (gE L ((k - 1) / 2))
def Heap (L : List En) : Prop := ∀ k, 0 < k → k < L.length → OkAt L k
structure HoleD (L : List En) (i : Nat) : Prop where
  a : ∀ k, 0 < k → k < L.length → k ≠ i → (k - 1) / 2 ≠ i → OkAt L k
  b : ∀ k, 0 < k → k < L.length → (k - 1) / 2 = i → 0 < i → ¬ Lt (gE L k) (gE L ((i - 1) / 2))
structure HoleU (L : List En) (i : Nat) : Prop where
  a : ∀ k, 0 < k → k < L.length → k ≠ i → OkAt L k
  b : ∀ k, 0 < k → k < L.length → (k - 1) / 2 = i → 0 < i → ¬ Lt (gE L k) (gE L ((i - 1) / 2))
def swp (L : List En) (i k : Nat) : List En := (L.set i (gE L k)).set k (gE L i)
theorem swp_length (L : List En) (i k : Nat) : (swp L i k).length = L.length := by simp [swp]
theorem swp_perm {L : List En} {i k : Nat} (hi : i < L.length) (hk : k < L.length) : (swp L i k).Perm L := by
 have h1 : gE L i = L[i] := by simp [gE, hi]
 have h2 : gE L k = L[k] := by simp [gE, hk]
 rw [swp, h1, h2]; exact List.set_set_perm hi hk
theorem gE_swp {L : List En} {i k : Nat} (hi : i < L.length) (hk : k < L.length) (j : Nat) : gE (swp L i k) j = if j = k then gE L i else if j = i then gE L k else gE L j := by
 rw [swp, gE_set (by simpa using hk), gE_set hi]
theorem HoleD.step {L : List En} {i k : Nat} (h : HoleD L i) (hi : i < L.length) (hk0 : 0 < k) (hk : k < L.length) (hp : (k - 1) / 2 = i) (hlt : Lt (gE L k) (gE L i))
 (hmin : ∀ s, 0 < s → s < L.length → (s - 1) / 2 = i → ¬ Lt (gE L s) (gE L k)) : HoleD (swp L i k) k where
 a := fun j h0 hj hne hpk => by
  rw [swp_length] at hj
  have hg := gE_swp hi hk
  simp only [OkAt, hg]
  rw [if_neg hne, if_neg hpk]
  by_cases e : j = i
  ·rw [if_pos e, if_neg (by omega)]
   have := h.b k hk0 hk hp (by omega)
   rw [e]; exact this
  ·rw [if_neg e]
   by_cases e2 : (j - 1) / 2 = i
   ·rw [if_pos e2]; exact hmin j h0 hj e2
   ·rw [if_neg e2]; exact h.a j h0 hj e e2
 b := fun j h0 hj hpj _ => by
  rw [swp_length] at hj
  have hg := gE_swp hi hk
  simp only [hg]
  rw [if_neg (by omega), if_neg (by omega), if_neg (by omega), if_pos hp]
  have := h.a j h0 hj (by omega) (by omega)
  rw [OkAt, hpj] at this; exact this
theorem HoleD.exit {L : List En} {i : Nat} (h : HoleD L i) (hmin : ∀ s, 0 < s → s < L.length → (s - 1) / 2 = i → ¬ Lt (gE L s) (gE L i)) : HoleU L i where
 a := fun k h0 hk hne => by
  by_cases e : (k - 1) / 2 = i
  ·rw [OkAt, e]; exact hmin k h0 hk e
  ·exact h.a k h0 hk hne e
 b := h.b
theorem HoleU.step {L : List En} {i : Nat} (h : HoleU L i) (hi : i < L.length) (h0 : 0 < i) (hlt : Lt (gE L i) (gE L ((i - 1) / 2))) : HoleU (swp L i ((i - 1) / 2)) ((i - 1) / 2) where
 a := fun j hj0 hj hne => by
  rw [swp_length] at hj
  have hp : (i - 1) / 2 < L.length := by omega
  have hg := gE_swp hi hp
  simp only [OkAt, hg]
  rw [if_neg hne]
  by_cases e : j = i
  ·subst e
   rw [if_pos rfl, if_pos rfl]
   simp only [Lt] at hlt ⊢; omega
  ·rw [if_neg e]
   by_cases e2 : (j - 1) / 2 = (i - 1) / 2
   ·rw [if_pos e2]
    have := h.a j hj0 hj e
    rw [OkAt, e2] at this
    simp only [Lt] at this hlt ⊢; omega
   ·rw [if_neg e2]
    by_cases e3 : (j - 1) / 2 = i
    ·rw [if_pos e3]; exact h.b j hj0 hj e3 h0
    ·rw [if_neg e3]; exact h.a j hj0 hj e
 b := fun j hj0 hj hpj hp0 => by
  rw [swp_length] at hj
  have hp : (i - 1) / 2 < L.length := by omega
  have hg := gE_swp hi hp
  simp only [hg]
  have hpp := h.a ((i - 1) / 2) hp0 hp (by omega)
  rw [OkAt] at hpp
  rw [if_neg (by omega), if_neg (by omega : ((i - 1) / 2 - 1) / 2 ≠ (i - 1) / 2), if_neg (by omega : ((i - 1) / 2 - 1) / 2 ≠ i)]
  by_cases e : j = i
  ·rw [if_pos e]; exact hpp
  ·rw [if_neg e]
   have := h.a j hj0 hj e
   rw [OkAt, hpj] at this
   simp only [Lt] at this hpp ⊢; omega
theorem HoleU.exit {L : List En} {i : Nat} (h : HoleU L i) (he : i = 0 ∨ ¬ Lt (gE L i) (gE L ((i - 1) / 2))) : Heap L := fun k h0 hk => by
 by_cases e : k = i
 ·subst e
  rcases he with he | he
  ·omega
  ·exact he
 ·exact h.a k h0 hk e
theorem Heap.hole {L : List En} (h : Heap L) (i : Nat) : HoleU L i where
 a := fun k h0 hk _ => h k h0 hk
 b := fun k h0 hk hp hi => by
  have h1 := h k h0 hk
  have h2 := h i hi (by omega)
  rw [OkAt, hp] at h1
  rw [OkAt] at h2
  simp only [Lt] at h1 h2 ⊢; omega
structure Wh (f : Int → Option Value) (L : List En) (i : Nat) : Prop where
  a : ∀ j, j < L.length → j ≠ i → f (gE L j).id = some (.int .i64 (j : Int))
  b : ∀ x, (∀ j, j < L.length → (gE L j).id ≠ x) → f x = none
structure WhA (f : Int → Option Value) (L : List En) : Prop where
  a : ∀ j, j < L.length → f (gE L j).id = some (.int .i64 (j : Int))
  b : ∀ x, (∀ j, j < L.length → (gE L j).id ≠ x) → f x = none
def Nd (L : List En) : Prop := (L.map (·.id)).Nodup
theorem Nd.perm {L M : List En} (h : Nd L) (p : M.Perm L) : Nd M := (p.map _).nodup_iff.2 h
theorem Nd.inj {L : List En} (h : Nd L) {j k : Nat} (hj : j < L.length) (hk : k < L.length) (e : (gE L j).id = (gE L k).id) : j = k := by
 have h1 : (L.map (·.id))[j]? = some (gE L j).id := by rw [List.getElem?_map, gE_get hj]; rfl
 have h2 : (L.map (·.id))[k]? = some (gE L k).id := by rw [List.getElem?_map, gE_get hk]; rfl
 rw [e] at h1
 obtain ⟨a1, b1⟩ := List.getElem?_eq_some_iff.1 h1
 obtain ⟨a2, b2⟩ := List.getElem?_eq_some_iff.1 h2
 have hp := List.pairwise_iff_getElem.1 h
 rcases Nat.lt_trichotomy j k with h3 | h3 | h3
 ·exact absurd (b1.trans b2.symm) (hp j k a1 a2 h3)
 ·exact h3
 ·exact absurd (b2.trans b1.symm) (hp k j a2 a1 h3)
theorem Wh.step {f : Int → Option Value} {L : List En} {i k : Nat} (h : Wh f L i) (hn : Nd L) (hi : i < L.length) (hk : k < L.length) (hne : k ≠ i) : Wh (updF f (gE L k).id (.int .i64 (i : Int))) (swp L i k) k where
 a := fun j hj hjk => by
  rw [swp_length] at hj
  rw [gE_swp hi hk, if_neg hjk]
  by_cases e : j = i
  ·subst e; rw [if_pos rfl, updF, if_pos rfl]
  ·rw [if_neg e, updF, if_neg (fun e2 => hjk (hn.inj hj hk e2))]; exact h.a j hj e
 b := fun x hx => by
  have h1 : (gE L k).id ≠ x := by
   have := hx i (by rw [swp_length]; exact hi)
   rwa [gE_swp hi hk, if_neg (Ne.symm hne), if_pos rfl] at this
  rw [updF, if_neg (Ne.symm h1)]
  refine h.b x fun j hj => ?_
  by_cases e : j = k
  ·rw [e]; exact h1
  ·by_cases e2 : j = i
   ·have := hx k (by rw [swp_length]; exact hk)
    rw [gE_swp hi hk, if_pos rfl] at this
    rw [e2]; exact this
   ·have := hx j (by rw [swp_length]; exact hj)
    rwa [gE_swp hi hk, if_neg e, if_neg e2] at this
theorem Wh.done {f : Int → Option Value} {L : List En} {i : Nat} (h : Wh f L i) (hn : Nd L) (hi : i < L.length) : WhA (updF f (gE L i).id (.int .i64 (i : Int))) L where
 a := fun j hj => by
  by_cases e : j = i
  ·subst e; rw [updF, if_pos rfl]
  ·rw [updF, if_neg (fun e2 => e (hn.inj hj hi e2))]; exact h.a j hj e
 b := fun x hx => by rw [updF, if_neg (Ne.symm (hx i hi))]; exact h.b x hx
theorem WhA.but {f : Int → Option Value} {L : List En} (h : WhA f L) (i : Nat) : Wh f L i := ⟨fun j hj _ => h.a j hj, h.b⟩
theorem WhA.none {f : Int → Option Value} {L : List En} (h : WhA f L) {x : Int} (hx : ∀ e ∈ L, e.id ≠ x) : f x = none := h.b x fun _ hj => hx _ (gE_mem hj)
theorem WhA.some {f : Int → Option Value} {L : List En} (h : WhA f L) {e : En} (he : e ∈ L) : ∃ j, j < L.length ∧ gE L j = e ∧ f e.id = some (.int .i64 (j : Int)) := by
 obtain ⟨j, hj⟩ := List.getElem?_of_mem he
 have hl := (List.getElem?_eq_some_iff.1 hj).1
 have hg := gE_of hj
 exact ⟨j, hl, hg, by rw [← hg]; exact h.a j hl⟩
theorem hole_set {A : List En} {i k : Nat} (e : En) (hi : i < A.length) (hk : k < A.length) (hne : k ≠ i) : (A.set i (gE A k)).set k e = swp (A.set i e) i k := by
 rw [swp, gE_set hi, if_neg hne, gE_set hi, if_pos rfl, List.set_set]
theorem ahead_ok (a b : En) : FSpec Tryz.prog 295 [.agg (ints [a.at_, a.tn]).toArray, .agg (ints [b.at_, b.tn]).toArray] noRd [] (fun _ : Unit => .bool (decide (Lt a b))) (fun _ => True) (fun _ => []) := by
 refine fI Tryz.func295 Tryz.ntmps295 ?_
 intro F _
 refine zz [37,0,1,5] ?_
 refine bx (v := .agg (List.toArray (ints [_, _]))) (l := ints [_, _]) rfl rfl ?_
 intro b1
 refine e rfl ?_
 refine bx (v := .agg (List.toArray (ints [_, _]))) (l := ints [_, _]) rfl rfl ?_
 intro b2
 refine zz [9,2,0,1,14,12,14,12,38,20] ?_
 refine TL.split 10 rfl (fun h1 => ?_) (fun h1 => ?_)
 ·have h1 := of_decide_eq_true h1
  refine zz [22,22,22,22,22,22,129,129,129,129,129,22,19,9,2,11] ?_
  exact Ret.i () [_] ⟨rfl, trivial⟩ (congrArg Value.bool (decide_eq_true (.inl h1)).symm) trivial (ent_take 2 rfl (ent_nil _))
 ·have h1 := of_decide_eq_false h1
  refine zz [96,52,96,52,74,117] ?_
  refine TL.split 16 rfl (fun h2 => ?_) (fun h2 => ?_)
  ·have h2 := of_decide_eq_true h2
   refine zz [97,52,97,52,88,108,19,9,2,11] ?_
   exact Ret.i () [_] ⟨rfl, trivial⟩ (congrArg Value.bool (by rw [decide_eq_decide]; simp only [Lt]; omega)) trivial (ent_take 2 rfl (ent_nil _))
  ·have h2 := of_decide_eq_false h2
   refine zz [22,22,22,22,22,108,19,9,2,11] ?_
   exact Ret.i () [_] ⟨rfl, trivial⟩ (congrArg Value.bool (decide_eq_false (by simp only [Lt]; omega)).symm) trivial (ent_take 2 rfl (ent_nil _))
theorem put_ok (b : Nat) (now tn : Int) (H : List En) (ad : Option Addr) (n cap wb m : Nat) (f : Int → Option Value) (i : Nat) (hn : H.length = n) (hi : i < n) (hc : n ≤ 1000000) (ee : En) : FSpec Tryz.prog 253 [.pointer (some ⟨b, 0, none⟩), .int .i64 (i : Int), .agg (enC ee).toArray] noRd [pts b 280 [.int .i64 now, .int .i64 tn, .slice ad n cap, .map (some wb)], slc 365 3 ad n cap (ents H), mapF QM.encI wb f m] (fun _ : Unit => .tuple #[]) (fun _ => True) (fun _ => [pts b 280 [.int .i64 now, .int .i64 tn, .slice ad n cap, .map (some wb)], slc 365 3 ad n cap (ents (H.set i ee)), mapF QM.encI wb (updF f ee.id (.int .i64 (i : Int))) (if (f ee.id).isSome then m else m + 1)]) := by
 refine fI Tryz.func253 Tryz.ntmps253 ?_
 intro F _
 refine zz [77] ?_
 have hg := gE_get (show i < H.length by omega)
 have hpl : 0 < (ents H).length := by rw [ents_length]; omega
 refine zz [0,1,5] ?_
 refine bx (v := .agg (List.toArray (ints [_, _, _]))) (l := ints [_, _, _]) rfl rfl ?_
 intro b3
 refine zz [2,0] ?_
 refine TC.draw _ [7] [(0, false), (1, false), (2, false), (3, false), (4, false), (5, false), (6, false), (7, true)] (by kernel_rfl) (by kernel_rfl) (ent.refl _) ?_
 refine zz [28,31,58,18,33,236,237,70] ?_
 first | refine st (v := .agg (List.toArray (ints [_, _, _]))) (vs := ints [_, _, _]) 3 rfl rfl rfl rfl rfl rfl (Nat.le_of_ble_eq_true rfl) rfl ?_ | refine stS (v := .agg (List.toArray (ints [_, _, _]))) (vs := ints [_, _, _]) 3 rfl rfl rfl rfl rfl rfl (by decide) (by rw [flat_length enC_sz]; omega) (flat_set (a' := ee) enC_sz hg 0 (by omega) (Nat.le_of_ble_eq_true rfl) rfl) ?_
 refine TD.nil (nt ?_)
 refine TC.draw _ [] [(0, false), (1, false), (2, false), (3, false), (4, false), (5, false), (6, false), (7, true)] (by kernel_rfl) (by kernel_rfl) (ent_take 0 rfl (ent_take 0 rfl (ent_take 0 rfl (ent_nil _)))) ?_
 refine zz [28,31,90,18,58,18,33,61] ?_
 refine muF 3 3 rfl (KL.int rfl) rfl rfl rfl ?_
 refine ⟨entS, ?_⟩
 refine TD.nil ?_
 exact Ret.n () [] trivial rfl trivial (ent_take 3 rfl (ent_take 1 rfl (ent_take 0 rfl (ent_take 1 rfl (ent_nil _)))))
theorem up_ok (b : Nat) (now tn : Int) (H : List En) (ad : Option Addr) (n cap wb m : Nat) (f : Int → Option Value) (i : Nat) (hn : H.length = n) (hi : i < n) (hc : n ≤ 1000000) (hU : HoleU H i) (hW : Wh f H i) (hN : Nd H) : FSpec Tryz.prog 255 [.pointer (some ⟨b, 0, none⟩), .int .i64 (i : Int)] noRd [pts b 280 [.int .i64 now, .int .i64 tn, .slice ad n cap, .map (some wb)], slc 365 3 ad n cap (ents H), mapF QM.encI wb f m] (fun _ : List En × (Int → Option Value) × Nat => .tuple #[]) (fun y => Heap y.1 ∧ WhA y.2.1 y.1 ∧ y.1.Perm H) (fun y => [pts b 280 [.int .i64 now, .int .i64 tn, .slice ad n cap, .map (some wb)], slc 365 3 ad n cap (ents y.1), mapF QM.encI wb y.2.1 y.2.2]) := by
 refine fI Tryz.func255 Tryz.ntmps255 ?_
 intro F _
 refine zz [77] ?_
 have hg := gE_get (show i < H.length by omega)
 have hpl : 0 < (ents H).length := by rw [ents_length]; omega
 refine zz [0,1,6,13,62] ?_
 first | refine q rfl rfl (ld rfl rfl rfl) ?_ | refine q rfl rfl (ldS rfl rfl (flat_get_rec enC_sz hg)) ?_ | refine q rfl rfl (ldS rfl rfl rfl) ?_
 refine zz [3,170] ?_
 first | refine q rfl rfl (ldN (vs := ints [_, _, _]) 3 rfl rfl rfl rfl) ?_ | refine q rfl rfl (ldSN (vs := ints [_, _, _]) 3 rfl rfl (flat_get_rec enC_sz hg) rfl (by decide)) ?_ | refine q rfl rfl (ldSN (vs := ints [_, _, _]) 3 rfl rfl rfl rfl (by decide)) ?_
 refine e rfl ?_
 refine al (l := ints [_, _, _]) rfl rfl ?_
 intro b4
 refine zz [21,140,2,0,17] ?_
 obtain ⟨ee, he⟩ : ∃ ee, gE H i = ee := ⟨_, rfl⟩
 rw [he]
 refine TC.loop (ι := Nat × List En × (Int → Option Value) × Nat) (fun s => s.1 < n ∧ s.2.1.length = n ∧ HoleU (s.2.1.set s.1 ee) s.1 ∧ Wh s.2.2.1 (s.2.1.set s.1 ee) s.1 ∧ (s.2.1.set s.1 ee).Perm H) (fun s => [(0, .pointer (some ⟨b, 0, none⟩)), (1, .int .i64 ((s.1 : Nat) : Int)), (4, .pointer (some ⟨b4, 0, none⟩))]) (fun s => sepL [pts b4 365 (enC ee), pts b 280 [.int .i64 now, .int .i64 tn, .slice ad n cap, .map (some wb)], slc 365 3 ad n cap (ents s.2.1), mapF QM.encI wb s.2.2.1 s.2.2.2, F]) (fun s => s.1) ⟨i, H, f, m⟩ (by dsimp only; rw [← he, set_self (by omega)]; exact ⟨hi, hn, hU, hW, List.Perm.refl _⟩) ⟨rfl, rfl, rfl, trivial⟩ (ent_take 0 rfl (ent_take 0 rfl (ent_take 0 rfl (ent_take 0 rfl (ent_take 0 rfl (ent_nil _)))))) ?_
 rintro ⟨k, A, g, q0⟩ ⟨hk, hA, hU1, hW1, hP1⟩ ρ0
 dsimp only [updL] at hk hA hU1 hW1 hP1 ⊢
 have hkA : k < A.length := by omega
 have hpA : 0 < (ents A).length := by rw [ents_length]; omega
 have hsl : (A.set k ee).length = n := by rw [List.length_set]; exact hA
 refine zz [0,0] ?_
 refine TC.draw _ [] [(0, false), (1, false), (2, false), (3, false), (4, false), (5, false), (6, false), (7, false), (8, false), (9, false), (10, false), (11, false), (12, false), (13, false), (14, false), (15, true), (16, false)] (by kernel_rfl) (by kernel_rfl) (ent_take 0 rfl (ent_take 0 rfl (ent_take 0 rfl (ent_take 0 rfl (ent_nil _))))) ?_
 refine zz [33] ?_
 refine dq rfl rfl rfl (gtr rfl rfl) ?_
 refine zz [122] ?_
 refine TD.split 14 rfl (fun hk0 => ?_) (fun hk0 => ?_)
 ·have hk0 := of_decide_eq_true hk0
  have hk0' : 0 < k := by omega
  obtain ⟨pp, hp⟩ : ∃ pp : Nat, ((k : Int) - 1) / 2 = pp := ⟨(k - 1) / 2, by omega⟩
  have hpe : pp = (k - 1) / 2 := by omega
  have hgp := gE_get (show pp < A.length by omega)
  have hgs : gE (A.set k ee) pp = gE A pp := by rw [gE_set hkA, if_neg (by omega)]
  have hge : gE (A.set k ee) k = ee := by rw [gE_set hkA, if_pos rfl]
  refine zz [130] ?_
  first | refine dg rfl rfl rfl rfl (ldN (vs := ints [_, _]) 2 rfl rfl rfl rfl) ?_ | refine dg rfl rfl rfl rfl (ldSN (vs := ints [_, _]) 2 rfl rfl (flat_ldN enC_sz hgp 0 2 (by omega) (by omega) rfl) rfl (by decide)) ?_ | refine dg rfl rfl rfl rfl (ldSN (vs := ints [_, _]) 2 rfl rfl (flat_get_rec enC_sz hgp) rfl (by decide)) ?_ | refine dg rfl rfl rfl rfl (ldSN (vs := ints [_, _]) 2 rfl rfl rfl rfl (by decide)) ?_
  refine zz [144,145,171] ?_
  first | refine dg rfl rfl rfl rfl (ld rfl rfl rfl) ?_ | refine dg rfl rfl rfl rfl (ldS rfl rfl (flat_ldN enC_sz hgp 0 2 (by omega) (by omega) rfl)) ?_ | refine dg rfl rfl rfl rfl (ldS rfl rfl (flat_get_rec enC_sz hgp)) ?_ | refine dg rfl rfl rfl rfl (ldS rfl rfl rfl) ?_
  refine zz [123] ?_
  first | refine dg rfl rfl rfl rfl (subI rfl rfl (by omega) (by omega)) ?_ | refine dg rfl rfl rfl rfl (sub rfl rfl rfl) ?_
  first | refine dg rfl rfl rfl rfl (quoI rfl rfl (by omega) (by omega) (by omega)) ?_ | refine dg rfl rfl rfl rfl (quo rfl rfl (by omega) rfl) ?_
  rw [hp]
  refine zz [183,130] ?_
  first | refine dg rfl rfl rfl rfl (ldN (vs := ints [_, _]) 2 rfl rfl rfl rfl) ?_ | refine dg rfl rfl rfl rfl (ldSN (vs := ints [_, _]) 2 rfl rfl (flat_ldN enC_sz hgp 0 2 (by omega) (by omega) rfl) rfl (by decide)) ?_ | refine dg rfl rfl rfl rfl (ldSN (vs := ints [_, _]) 2 rfl rfl (flat_get_rec enC_sz hgp) rfl (by decide)) ?_ | refine dg rfl rfl rfl rfl (ldSN (vs := ints [_, _]) 2 rfl rfl rfl rfl (by decide)) ?_
  refine zz [146] ?_
  refine cl (ahead_ok ee (gE A pp)) rfl (picked_nil _) trivial ?_
  intro _ _
  refine zz [65,8,109,27] ?_
  first | refine TC.condD rfl (fun hlt => ?_) (fun hlt => ?_) | refine TC.cond rfl (fun hlt => ?_) (fun hlt => ?_)
  ·refine zz [7,17,0,1,6,3,6,13,62] ?_
   first | refine q rfl rfl (ld rfl rfl rfl) ?_ | refine q rfl rfl (ldS rfl rfl (flat_ldN enC_sz hgp 0 2 (by omega) (by omega) rfl)) ?_ | refine q rfl rfl (ldS rfl rfl (flat_get_rec enC_sz hgp)) ?_ | refine q rfl rfl (ldS rfl rfl rfl) ?_
   refine zz [3,128,238] ?_
   rw [hp]
   refine zz [170] ?_
   first | refine q rfl rfl (ldN (vs := ints [_, _, _]) 3 rfl rfl rfl rfl) ?_ | refine q rfl rfl (ldSN (vs := ints [_, _, _]) 3 rfl rfl (flat_ldN enC_sz hgp 0 2 (by omega) (by omega) rfl) rfl (by decide)) ?_ | refine q rfl rfl (ldSN (vs := ints [_, _, _]) 3 rfl rfl (flat_get_rec enC_sz hgp) rfl (by decide)) ?_ | refine q rfl rfl (ldSN (vs := ints [_, _, _]) 3 rfl rfl rfl rfl (by decide)) ?_
   refine e rfl ?_
   refine cl (put_ok b now tn A ad n cap wb q0 g k hA (by omega) hc (gE A pp)) rfl (picked_cons 1 rfl (picked_cons 1 rfl (picked_cons 1 rfl (picked_nil _)))) trivial ?_
   intro _ _
   refine zz [57,2,1,3,128,238] ?_
   rw [hp]
   refine zz [4,63] ?_
   have hsw := hole_set ee hkA (show pp < A.length by omega) (by omega)
   have hU2 := hU1.step (by omega) hk0' (by rw [← hpe, hgs, hge]; exact hlt)
   have hW2 := hW1.step (hN.perm hP1) (by omega) (show pp < (A.set k ee).length by omega) (by omega)
   rw [← hpe, ← hsw] at hU2
   rw [hgs, ← hsw] at hW2
   have hP2 := (swp_perm (L := A.set k ee) (i := k) (k := pp) (by omega) (by omega)).trans hP1
   rw [← hsw] at hP2
   exact ⟨rfl, ⟨pp, A.set k (gE A pp), _, _⟩, ⟨by dsimp only; omega, by dsimp only; rw [List.length_set]; exact hA, hU2, hW2, hP2⟩, (by dsimp only; omega), ⟨rfl, rfl, rfl, trivial⟩, (ent_take 3 rfl (ent_take 0 rfl (ent_take 0 rfl (ent_take 0 rfl (ent_take 0 rfl (ent_nil _))))))⟩
  ·have hHp := hU1.exit (.inr (by rw [hge, ← hpe, hgs]; exact hlt))
   refine zz [50,1,6,3] ?_
   first | refine q rfl rfl (ldN (vs := ints [_, _, _]) 3 rfl rfl rfl rfl) ?_ | refine q rfl rfl (ldSN (vs := ints [_, _, _]) 3 rfl rfl (flat_ldN enC_sz hgp 0 2 (by omega) (by omega) rfl) rfl (by decide)) ?_ | refine q rfl rfl (ldSN (vs := ints [_, _, _]) 3 rfl rfl (flat_get_rec enC_sz hgp) rfl (by decide)) ?_ | refine q rfl rfl (ldSN (vs := ints [_, _, _]) 3 rfl rfl rfl rfl (by decide)) ?_
   refine e rfl ?_
   refine cl (put_ok b now tn A ad n cap wb q0 g k hA (by omega) hc ee) rfl (picked_cons 1 rfl (picked_cons 1 rfl (picked_cons 1 rfl (picked_nil _)))) trivial ?_
   intro _ _
   refine zz [57] ?_
   refine TL.nil ?_
   have hWd := hW1.done (hN.perm hP1) (by omega)
   have hge : gE (A.set k ee) k = ee := by rw [gE_set hkA, if_pos rfl]
   rw [hge] at hWd
   exact Ret.n ⟨A.set k ee, _, _⟩ [] trivial rfl ⟨hHp, hWd, hP1⟩ (ent_take 0 rfl (ent_take 0 rfl (ent_take 0 rfl (ent_take 1 rfl (ent_nil _)))))
 ·have hk0 := of_decide_eq_false hk0
  have hHp := hU1.exit (.inl (by omega))
  refine zz [54,54,54,54,54,54,54,54,54,54,54,54] ?_
  refine dke rfl rfl rfl entS ?_
  refine zz [109,27,10,50,1,6,3] ?_
  first | refine q rfl rfl (ldN (vs := ints [_, _, _]) 3 rfl rfl rfl rfl) ?_ | refine q rfl rfl (ldSN (vs := ints [_, _, _]) 3 rfl rfl (flat_get_rec enC_sz hg) rfl (by decide)) ?_ | refine q rfl rfl (ldSN (vs := ints [_, _, _]) 3 rfl rfl rfl rfl (by decide)) ?_
  refine e rfl ?_
  refine cl (put_ok b now tn A ad n cap wb q0 g k hA (by omega) hc ee) rfl (picked_cons 1 rfl (picked_cons 1 rfl (picked_cons 1 rfl (picked_nil _)))) trivial ?_
  intro _ _
  refine zz [57] ?_
  refine TL.nil ?_
  have hWd := hW1.done (hN.perm hP1) (by omega)
  have hge : gE (A.set k ee) k = ee := by rw [gE_set hkA, if_pos rfl]
  rw [hge] at hWd
  exact Ret.n ⟨A.set k ee, _, _⟩ [] trivial rfl ⟨hHp, hWd, hP1⟩ (ent_take 0 rfl (ent_take 0 rfl (ent_take 0 rfl (ent_take 1 rfl (ent_nil _)))))
theorem down_ok (b : Nat) (now tn : Int) (H : List En) (ad : Option Addr) (n cap wb m : Nat) (f : Int → Option Value) (i : Nat) (hn : H.length = n) (hi : i < n) (hc : n ≤ 1000000) (hD : HoleD H i) (hW : Wh f H i) (hN : Nd H) : FSpec Tryz.prog 254 [.pointer (some ⟨b, 0, none⟩), .int .i64 (i : Int)] noRd [pts b 280 [.int .i64 now, .int .i64 tn, .slice ad n cap, .map (some wb)], slc 365 3 ad n cap (ents H), mapF QM.encI wb f m] (fun _ : List En × (Int → Option Value) × Nat => .tuple #[]) (fun y => WhA y.2.1 y.1 ∧ y.1.Perm H ∧ ∃ j, j < n ∧ HoleU y.1 j ∧ gE y.1 j = gE H i) (fun y => [pts b 280 [.int .i64 now, .int .i64 tn, .slice ad n cap, .map (some wb)], slc 365 3 ad n cap (ents y.1), mapF QM.encI wb y.2.1 y.2.2]) := by
 refine fI Tryz.func254 Tryz.ntmps254 ?_
 intro F _
 refine zz [77] ?_
 have hg := gE_get (show i < H.length by omega)
 have hpl : 0 < (ents H).length := by rw [ents_length]; omega
 refine zz [0,1,6,13,62] ?_
 first | refine q rfl rfl (ld rfl rfl rfl) ?_ | refine q rfl rfl (ldS rfl rfl (flat_get_rec enC_sz hg)) ?_ | refine q rfl rfl (ldS rfl rfl rfl) ?_
 refine zz [3,170] ?_
 first | refine q rfl rfl (ldN (vs := ints [_, _, _]) 3 rfl rfl rfl rfl) ?_ | refine q rfl rfl (ldSN (vs := ints [_, _, _]) 3 rfl rfl (flat_get_rec enC_sz hg) rfl (by decide)) ?_ | refine q rfl rfl (ldSN (vs := ints [_, _, _]) 3 rfl rfl rfl rfl (by decide)) ?_
 refine e rfl ?_
 refine al (l := ints [_, _, _]) rfl rfl ?_
 intro b5
 refine zz [21,140,2,0,17] ?_
 obtain ⟨ee, he⟩ : ∃ ee, gE H i = ee := ⟨_, rfl⟩
 rw [he]
 refine TC.loop (ι := Nat × List En × (Int → Option Value) × Nat) (fun s => s.1 < n ∧ s.2.1.length = n ∧ HoleD (s.2.1.set s.1 ee) s.1 ∧ Wh s.2.2.1 (s.2.1.set s.1 ee) s.1 ∧ (s.2.1.set s.1 ee).Perm H) (fun s => [(0, .pointer (some ⟨b, 0, none⟩)), (1, .int .i64 ((s.1 : Nat) : Int)), (4, .pointer (some ⟨b5, 0, none⟩))]) (fun s => sepL [pts b5 365 (enC ee), pts b 280 [.int .i64 now, .int .i64 tn, .slice ad n cap, .map (some wb)], slc 365 3 ad n cap (ents s.2.1), mapF QM.encI wb s.2.2.1 s.2.2.2, F]) (fun s => n - s.1) ⟨i, H, f, m⟩ (by dsimp only; rw [← he, set_self (by omega)]; exact ⟨hi, hn, hD, hW, List.Perm.refl _⟩) ⟨rfl, rfl, rfl, trivial⟩ (ent_take 0 rfl (ent_take 0 rfl (ent_take 0 rfl (ent_take 0 rfl (ent_take 0 rfl (ent_nil _)))))) ?_
 rintro ⟨k, A, g, q0⟩ ⟨hk, hA, hD1, hW1, hP1⟩ ρ0
 dsimp only [updL] at hk hA hD1 hW1 hP1 ⊢
 have hkA : k < A.length := by omega
 have hpA : 0 < (ents A).length := by rw [ents_length]; omega
 have hsl : (A.set k ee).length = n := by rw [List.length_set]; exact hA
 have hgs : ∀ j, j ≠ k → gE (A.set k ee) j = gE A j := fun j hj => by rw [gE_set hkA, if_neg hj]
 have hge : gE (A.set k ee) k = ee := by rw [gE_set hkA, if_pos rfl]
 refine zz [17,0,1,3,184,36,4,2] ?_
 refine TC.cut (ι := Nat) (fun c => (c = 2 * k + 1 ∨ c = 2 * k + 2 ∧ c < n) ∧ ∀ s, s < n → (s = 2 * k + 1 ∨ s = 2 * k + 2) → ¬ Lt (gE A s) (gE A c)) (fun c => [(0, .pointer (some ⟨b, 0, none⟩)), (1, .int .i64 (k : Int)), (4, .pointer (some ⟨b5, 0, none⟩)), (5, .int .i64 ((c : Nat) : Int))]) (fun c => sepL [pts b5 365 (enC ee), pts b 280 [.int .i64 now, .int .i64 tn, .slice ad n cap, .map (some wb)], slc 365 3 ad n cap (ents A), mapF QM.encI wb g q0, F]) ?_ ?_
 ·refine TC.seq ?_
  refine TC.draw _ [] [(0, false), (1, false), (2, false), (3, false), (4, false), (5, false), (6, false), (7, false), (8, false), (9, false), (10, false), (11, false), (12, false), (13, false), (14, false), (15, false), (16, false), (17, false), (18, false), (19, false), (20, false), (21, false), (22, false), (23, false), (24, false), (25, false), (26, true), (27, false)] (by kernel_rfl) (by kernel_rfl) (ent_take 0 rfl (ent_take 0 rfl (ent_take 0 rfl (ent_take 0 rfl (ent_nil _))))) ?_
  refine zz [33,161,28,31,58] ?_
  first | refine dq rfl rfl rfl (ld rfl rfl rfl) ?_ | refine dq rfl rfl rfl (ldS rfl rfl (flat_get_rec enC_sz hg)) ?_ | refine dq rfl rfl rfl (ldS rfl rfl rfl) ?_
  refine zz [206] ?_
  refine dq rfl rfl rfl (lss rfl rfl) ?_
  refine zz [122] ?_
  refine TD.split 24 rfl (fun hin => ?_) (fun hin => ?_)
  ·have hin := of_decide_eq_true hin
   have hg1 := gE_get (show 2 * k + 2 < A.length by omega)
   have hg0 := gE_get (show 2 * k + 1 < A.length by omega)
   refine zz [144,145,171] ?_
   first | refine dg rfl rfl rfl rfl (ld rfl rfl rfl) ?_ | refine dg rfl rfl rfl rfl (ldS rfl rfl (flat_ldN enC_sz hg1 0 2 (by omega) (by omega) rfl)) ?_ | refine dg rfl rfl rfl rfl (ldS rfl rfl (flat_ldN enC_sz hg0 0 2 (by omega) (by omega) rfl)) ?_ | refine dg rfl rfl rfl rfl (ldS rfl rfl rfl) ?_
   refine zz [123] ?_
   first | refine dg rfl rfl rfl rfl (addI rfl rfl (by omega) (by omega)) ?_ | refine dg rfl rfl rfl rfl (add rfl rfl rfl) ?_
   refine zz [183,130] ?_
   first | refine dg rfl rfl rfl rfl (ldN (vs := ints [_, _]) 2 rfl rfl rfl rfl) ?_ | refine dg rfl rfl rfl rfl (ldSN (vs := ints [_, _]) 2 rfl rfl (flat_ldN enC_sz hg1 0 2 (by omega) (by omega) rfl) rfl (by decide)) ?_ | refine dg rfl rfl rfl rfl (ldSN (vs := ints [_, _]) 2 rfl rfl (flat_ldN enC_sz hg0 0 2 (by omega) (by omega) rfl) rfl (by decide)) ?_ | refine dg rfl rfl rfl rfl (ldSN (vs := ints [_, _]) 2 rfl rfl rfl rfl (by decide)) ?_
   refine zz [144,145,171] ?_
   first | refine dg rfl rfl rfl rfl (ld rfl rfl rfl) ?_ | refine dg rfl rfl rfl rfl (ldS rfl rfl (flat_ldN enC_sz hg1 0 2 (by omega) (by omega) rfl)) ?_ | refine dg rfl rfl rfl rfl (ldS rfl rfl (flat_ldN enC_sz hg0 0 2 (by omega) (by omega) rfl)) ?_ | refine dg rfl rfl rfl rfl (ldS rfl rfl rfl) ?_
   refine zz [123,183,130] ?_
   first | refine dg rfl rfl rfl rfl (ldN (vs := ints [_, _]) 2 rfl rfl rfl rfl) ?_ | refine dg rfl rfl rfl rfl (ldSN (vs := ints [_, _]) 2 rfl rfl (flat_ldN enC_sz hg1 0 2 (by omega) (by omega) rfl) rfl (by decide)) ?_ | refine dg rfl rfl rfl rfl (ldSN (vs := ints [_, _]) 2 rfl rfl (flat_ldN enC_sz hg0 0 2 (by omega) (by omega) rfl) rfl (by decide)) ?_ | refine dg rfl rfl rfl rfl (ldSN (vs := ints [_, _]) 2 rfl rfl rfl rfl (by decide)) ?_
   refine zz [146] ?_
   refine cl (ahead_ok (gE A (2 * k + 2)) (gE A (2 * k + 1))) rfl (picked_nil _) trivial ?_
   intro _ _
   refine zz [65,8,109,27] ?_
   first | refine TC.condD rfl (fun hlt => ?_) (fun hlt => ?_) | refine TC.cond rfl (fun hlt => ?_) (fun hlt => ?_)
   ·refine zz [1,3,36,4,2] ?_
    exact ⟨rfl, (2 * k + 2), ⟨.inr ⟨rfl, by omega⟩, fun s hs hs2 => by rcases hs2 with rfl | rfl <;> simp only [Lt] at hlt ⊢ <;> omega⟩, ⟨rfl, rfl, rfl, congrArg (Value.int .i64) (by omega), trivial⟩, (ent_take 0 rfl (ent_take 0 rfl (ent_take 0 rfl (ent_take 0 rfl (ent_take 0 rfl (ent_nil _))))))⟩
   ·refine zz [7] ?_
    exact ⟨rfl, (2 * k + 1), ⟨.inl rfl, fun s hs hs2 => by rcases hs2 with rfl | rfl; simp only [Lt]; omega; exact hlt⟩, ⟨rfl, rfl, rfl, congrArg (Value.int .i64) (by omega), trivial⟩, (ent_take 0 rfl (ent_take 0 rfl (ent_take 0 rfl (ent_take 0 rfl (ent_take 0 rfl (ent_nil _))))))⟩
  ·have hin := of_decide_eq_false hin
   refine zz [54,54,54,54,54,54,54,54,54,54,54,54,54,54,54,54,54] ?_
   refine dke rfl rfl rfl entS ?_
   refine zz [109,27,10,7] ?_
   exact ⟨rfl, (2 * k + 1), ⟨.inl rfl, fun s hs hs2 => by obtain rfl : s = 2 * k + 1 := (by omega); simp only [Lt]; omega⟩, ⟨rfl, rfl, rfl, congrArg (Value.int .i64) (by omega), trivial⟩, (ent_take 0 rfl (ent_take 0 rfl (ent_take 0 rfl (ent_take 0 rfl (ent_take 0 rfl (ent_nil _))))))⟩
 ·rintro c ⟨hc1, hc2⟩ ρ1
  dsimp only [updL] at hc1 hc2 ⊢
  refine zz [0,0] ?_
  refine TC.draw _ [] [(0, false), (1, false), (2, false), (3, false), (4, false), (5, false), (6, false), (7, false), (8, false), (9, false), (10, false), (11, false), (12, false), (13, false), (14, false), (15, false), (16, false), (17, false), (18, true), (19, false), (20, false)] (by kernel_rfl) (by kernel_rfl) (ent_take 0 rfl (ent_take 0 rfl (ent_take 0 rfl (ent_take 0 rfl (ent_nil _))))) ?_
  refine zz [33,28,31,58] ?_
  first | refine dq rfl rfl rfl (ld rfl rfl rfl) ?_ | refine dq rfl rfl rfl (ldS rfl rfl (flat_get_rec enC_sz hg)) ?_ | refine dq rfl rfl rfl (ldS rfl rfl rfl) ?_
  refine zz [206] ?_
  refine dq rfl rfl rfl (geq rfl rfl) ?_
  refine zz [122] ?_
  refine TD.split 53 rfl (fun hge2 => ?_) (fun hge2 => ?_)
  ·have hge2 := of_decide_eq_true hge2
   have hmin : ∀ s, s < n → (s = 2 * k + 1 ∨ s = 2 * k + 2) → ¬ Lt (gE A s) ee := fun s hs hs2 => by omega
   refine zz [54,54,54,54,54,54,54,54,54,54] ?_
   refine dke rfl rfl rfl entS ?_
   refine zz [54,109,27,40] ?_
   have hUf := hD1.exit (fun s h0 hs hps => by rw [hge, hgs s (by omega)]; exact hmin s (by omega) (by omega))
   refine TC.exit (et (en rfl (et (eb (nt ?_)))))
   refine zz [1,6,3] ?_
   first | refine q rfl rfl (ldN (vs := ints [_, _, _]) 3 rfl rfl rfl rfl) ?_ | refine q rfl rfl (ldSN (vs := ints [_, _, _]) 3 rfl rfl (flat_get_rec enC_sz hg) rfl (by decide)) ?_ | refine q rfl rfl (ldSN (vs := ints [_, _, _]) 3 rfl rfl rfl rfl (by decide)) ?_
   refine e rfl ?_
   refine cl (put_ok b now tn A ad n cap wb q0 g k hA (by omega) hc ee) rfl (picked_cons 1 rfl (picked_cons 1 rfl (picked_cons 1 rfl (picked_nil _)))) trivial ?_
   intro _ _
   refine zz [57] ?_
   refine TL.nil ?_
   have hWd := hW1.done (hN.perm hP1) (by omega)
   rw [hge] at hWd
   exact Ret.n ⟨A.set k ee, _, _⟩ [] trivial rfl ⟨hWd, hP1, k, hk, hUf, hge⟩ (ent_take 0 rfl (ent_take 0 rfl (ent_take 0 rfl (ent_take 1 rfl (ent_nil _)))))
  ·have hge2 := of_decide_eq_false hge2
   have hcn : c < n := by omega
   have hgc := gE_get (show c < A.length by omega)
   refine zz [144,145,171] ?_
   first | refine dg rfl rfl rfl rfl (ld rfl rfl rfl) ?_ | refine dg rfl rfl rfl rfl (ldS rfl rfl (flat_ldN enC_sz hgc 0 2 (by omega) (by omega) rfl)) ?_ | refine dg rfl rfl rfl rfl (ldS rfl rfl (flat_get_rec enC_sz hgc)) ?_ | refine dg rfl rfl rfl rfl (ldS rfl rfl rfl) ?_
   refine zz [123,183,130] ?_
   first | refine dg rfl rfl rfl rfl (ldN (vs := ints [_, _]) 2 rfl rfl rfl rfl) ?_ | refine dg rfl rfl rfl rfl (ldSN (vs := ints [_, _]) 2 rfl rfl (flat_ldN enC_sz hgc 0 2 (by omega) (by omega) rfl) rfl (by decide)) ?_ | refine dg rfl rfl rfl rfl (ldSN (vs := ints [_, _]) 2 rfl rfl (flat_get_rec enC_sz hgc) rfl (by decide)) ?_ | refine dg rfl rfl rfl rfl (ldSN (vs := ints [_, _]) 2 rfl rfl rfl rfl (by decide)) ?_
   refine zz [130] ?_
   first | refine dg rfl rfl rfl rfl (ldN (vs := ints [_, _]) 2 rfl rfl rfl rfl) ?_ | refine dg rfl rfl rfl rfl (ldSN (vs := ints [_, _]) 2 rfl rfl (flat_ldN enC_sz hgc 0 2 (by omega) (by omega) rfl) rfl (by decide)) ?_ | refine dg rfl rfl rfl rfl (ldSN (vs := ints [_, _]) 2 rfl rfl (flat_get_rec enC_sz hgc) rfl (by decide)) ?_ | refine dg rfl rfl rfl rfl (ldSN (vs := ints [_, _]) 2 rfl rfl rfl rfl (by decide)) ?_
   refine zz [146] ?_
   refine cl (ahead_ok (gE A c) ee) rfl (picked_nil _) trivial ?_
   intro _ _
   refine zz [65,8,239,109,27] ?_
   first | refine TC.condD rfl (fun hnl => ?_) (fun hnl => ?_) | refine TC.cond rfl (fun hnl => ?_) (fun hnl => ?_)
   ·have hmin : ∀ s, s < n → (s = 2 * k + 1 ∨ s = 2 * k + 2) → ¬ Lt (gE A s) ee := fun s hs hs2 => by have := hc2 s hs hs2; simp only [Lt] at this hnl ⊢; omega
    have hUf := hD1.exit (fun s h0 hs hps => by rw [hge, hgs s (by omega)]; exact hmin s (by omega) (by omega))
    refine TC.exit (et (en rfl (et (eb (nt ?_)))))
    refine zz [1,6,3] ?_
    first | refine q rfl rfl (ldN (vs := ints [_, _, _]) 3 rfl rfl rfl rfl) ?_ | refine q rfl rfl (ldSN (vs := ints [_, _, _]) 3 rfl rfl (flat_ldN enC_sz hgc 0 2 (by omega) (by omega) rfl) rfl (by decide)) ?_ | refine q rfl rfl (ldSN (vs := ints [_, _, _]) 3 rfl rfl (flat_get_rec enC_sz hgc) rfl (by decide)) ?_ | refine q rfl rfl (ldSN (vs := ints [_, _, _]) 3 rfl rfl rfl rfl (by decide)) ?_
    refine e rfl ?_
    refine cl (put_ok b now tn A ad n cap wb q0 g k hA (by omega) hc ee) rfl (picked_cons 1 rfl (picked_cons 1 rfl (picked_cons 1 rfl (picked_nil _)))) trivial ?_
    intro _ _
    refine zz [57] ?_
    refine TL.nil ?_
    have hWd := hW1.done (hN.perm hP1) (by omega)
    rw [hge] at hWd
    exact Ret.n ⟨A.set k ee, _, _⟩ [] trivial rfl ⟨hWd, hP1, k, hk, hUf, hge⟩ (ent_take 0 rfl (ent_take 0 rfl (ent_take 0 rfl (ent_take 1 rfl (ent_nil _)))))
   ·have hnl : Lt (gE A c) ee := Decidable.byContradiction hnl
    refine zz [7,0,1,6,3,6,13,62] ?_
    first | refine q rfl rfl (ld rfl rfl rfl) ?_ | refine q rfl rfl (ldS rfl rfl (flat_ldN enC_sz hgc 0 2 (by omega) (by omega) rfl)) ?_ | refine q rfl rfl (ldS rfl rfl (flat_get_rec enC_sz hgc)) ?_ | refine q rfl rfl (ldS rfl rfl rfl) ?_
    refine zz [3,170] ?_
    first | refine q rfl rfl (ldN (vs := ints [_, _, _]) 3 rfl rfl rfl rfl) ?_ | refine q rfl rfl (ldSN (vs := ints [_, _, _]) 3 rfl rfl (flat_ldN enC_sz hgc 0 2 (by omega) (by omega) rfl) rfl (by decide)) ?_ | refine q rfl rfl (ldSN (vs := ints [_, _, _]) 3 rfl rfl (flat_get_rec enC_sz hgc) rfl (by decide)) ?_ | refine q rfl rfl (ldSN (vs := ints [_, _, _]) 3 rfl rfl rfl rfl (by decide)) ?_
    refine e rfl ?_
    refine cl (put_ok b now tn A ad n cap wb q0 g k hA (by omega) hc (gE A c)) rfl (picked_cons 1 rfl (picked_cons 1 rfl (picked_cons 1 rfl (picked_nil _)))) trivial ?_
    intro _ _
    refine zz [57,2,1,3,4,63] ?_
    have hsw := hole_set ee hkA (show c < A.length by omega) (by omega)
    have hD2 := hD1.step (k := c) (by omega) (by omega) (by omega) (by omega) (by rw [hge, hgs c (by omega)]; exact hnl) (fun s h0 hs hps => by rw [hgs c (by omega), hgs s (by omega)]; exact hc2 s (by omega) (by omega))
    have hW2 := hW1.step (hN.perm hP1) (by omega) (show c < (A.set k ee).length by omega) (by omega)
    rw [← hsw] at hD2
    rw [hgs c (by omega), ← hsw] at hW2
    have hP2 := (swp_perm (L := A.set k ee) (i := k) (k := c) (by omega) (by omega)).trans hP1
    rw [← hsw] at hP2
    exact ⟨rfl, ⟨c, A.set k (gE A c), _, _⟩, ⟨by dsimp only; omega, by dsimp only; rw [List.length_set]; exact hA, hD2, hW2, hP2⟩, (by dsimp only; omega), ⟨rfl, rfl, rfl, trivial⟩, (ent_take 3 rfl (ent_take 0 rfl (ent_take 0 rfl (ent_take 0 rfl (ent_take 0 rfl (ent_nil _))))))⟩
end Go.Proofs.YtnlgmaibhlicjaaGreatDoor.Al
namespace Go.Proofs.YtnlgmaibhlicjaaGreatDoor.Al
open Go Go.QM
theorem ents_take (H : List En) (k : Nat) : (ents H).take (k * 3) = ents (H.take k) := flat_take enC_sz H k
theorem gE_take {H : List En} {n j : Nat} (h : j < n) : gE (H.take n) j = gE H j := by simp [gE, List.getD_eq_getElem?_getD, List.getElem?_take, h]
theorem split_last {H : List En} {n : Nat} (hn : H.length = n + 1) : H.take n ++ [gE H n] = H := by
 have h1 : gE H n = H[n] := by simp [gE, hn]
 rw [h1, List.take_append_getElem, List.take_of_length_le (by omega)]
def cutL (H : List En) (n i : Nat) : List En := if i < n then (H.take n).set i (gE H n) else H.take n
theorem cutL_length {H : List En} {n : Nat} (hn : H.length = n + 1) (i : Nat) : (cutL H n i).length = n := by
 unfold cutL; split <;> simp <;> omega
theorem cutL_gE {H : List En} {n i : Nat} (hn : H.length = n + 1) {j : Nat} (hj : j < n) : gE (cutL H n i) j = if j = i then gE H n else gE H j := by
 unfold cutL
 split
 ·rename_i h
  rw [gE_set (by rw [List.length_take]; omega)]
  split
  ·rfl
  ·exact gE_take hj
 ·rename_i h; rw [if_neg (by omega)]; exact gE_take hj
theorem cutL_perm {H : List En} {n i : Nat} (hn : H.length = n + 1) (hi : i ≤ n) : (gE H i :: cutL H n i).Perm H := by
 by_cases h : i < n
 ·have h1 : swp H i n = cutL H n i ++ [gE H i] := by
   rw [cutL, if_pos h, swp]
   conv => lhs; rw [← split_last hn]
   have hg : gE (H.take n ++ [gE H n]) n = gE H n := by rw [split_last hn]
   have hgi : gE (H.take n ++ [gE H n]) i = gE H i := by rw [split_last hn]
   rw [hg, hgi, List.set_append_left _ _ (by rw [List.length_take]; omega), List.set_append_right _ _ (by rw [List.length_set, List.length_take]; omega)]
   simp [List.length_take, hn]
  refine List.Perm.trans ?_ (h1 ▸ swp_perm (by omega) (by omega))
  exact (List.perm_append_singleton _ _).symm
 ·obtain rfl : i = n := by omega
  rw [cutL, if_neg h]
  have := split_last hn
  refine List.Perm.trans ?_ (List.Perm.of_eq this)
  exact (List.perm_append_singleton _ _).symm
theorem cut_hole {H : List En} {n i : Nat} (hn : H.length = n + 1) (h : Heap H) : HoleD (cutL H n i) i where
 a := fun k h0 hk hne hp => by
  rw [cutL_length hn] at hk
  rw [OkAt, cutL_gE hn hk, cutL_gE hn (by omega), if_neg hne, if_neg hp]
  exact h k h0 (by omega)
 b := fun k h0 hk hp hi => by
  rw [cutL_length hn] at hk
  rw [cutL_gE hn hk, cutL_gE hn (by omega), if_neg (by omega), if_neg (by omega)]
  exact (h.hole i).b k h0 (by omega) hp hi
theorem cut_heap {H : List En} {n : Nat} (hn : H.length = n + 1) (h : Heap H) : Heap (cutL H n n) := fun k h0 hk => by
 rw [cutL_length hn] at hk
 rw [OkAt, cutL_gE hn hk, cutL_gE hn (by omega), if_neg (by omega), if_neg (by omega)]
 exact h k h0 (by omega)
theorem cut_wh {f : Int → Option Value} {H : List En} {n i : Nat} (hn : H.length = n + 1) (hW : WhA f H) (hN : Nd H) (hi : i < n) : WhA (updF (delF f (gE H i).id) (gE H n).id (.int .i64 (i : Int))) (cutL H n i) where
 a := fun j hj => by
  rw [cutL_length hn] at hj
  rw [cutL_gE hn hj]
  by_cases e : j = i
  ·subst e; rw [if_pos rfl, updF, if_pos rfl]
  ·rw [if_neg e, updF, if_neg (fun e2 => by have := hN.inj (by omega) (by omega) e2; omega), delF, if_neg (fun e2 => e (hN.inj (by omega) (by omega) e2))]
   exact hW.a j (by omega)
 b := fun x hx => by
  have h1 : (gE H n).id ≠ x := by
   have := hx i (by rw [cutL_length hn]; exact hi)
   rwa [cutL_gE hn hi, if_pos rfl] at this
  rw [updF, if_neg (Ne.symm h1), delF]
  split
  ·rfl
  ·rename_i h2
   refine hW.b x fun j hj => ?_
   by_cases e : j = i
   ·subst e; exact fun e => h2 e.symm
   ·by_cases e2 : j = n
    ·rw [e2]; exact h1
    ·have := hx j (by rw [cutL_length hn]; omega)
     rwa [cutL_gE hn (by omega), if_neg e] at this
theorem cut_wh_last {f : Int → Option Value} {H : List En} {n : Nat} (hn : H.length = n + 1) (hW : WhA f H) (hN : Nd H) : WhA (delF f (gE H n).id) (cutL H n n) where
 a := fun j hj => by
  rw [cutL_length hn] at hj
  rw [cutL_gE hn hj, if_neg (by omega), delF, if_neg (fun e2 => by have := hN.inj (by omega) (by omega) e2; omega)]
  exact hW.a j (by omega)
 b := fun x hx => by
  rw [delF]
  split
  ·rfl
  ·rename_i h2
   refine hW.b x fun j hj => ?_
   by_cases e2 : j = n
   ·rw [e2]; exact fun e => h2 e.symm
   ·have := hx j (by rw [cutL_length hn]; omega)
    rwa [cutL_gE hn (by omega), if_neg e2] at this
theorem cut_ok (b : Nat) (now tn : Int) (H : List En) (ad : Option Addr) (n cap wb m : Nat) (f : Int → Option Value) (i : Nat) (hn : H.length = n + 1) (hi : i ≤ n) (hc : n ≤ 900000) (hH : Heap H) (hW : WhA f H) (hN : Nd H) : FSpec Tryz.prog 214 [.pointer (some ⟨b, 0, none⟩), .int .i64 (i : Int)] noRd [pts b 280 [.int .i64 now, .int .i64 tn, .slice ad (n + 1) cap, .map (some wb)], slc 365 3 ad (n + 1) cap (ents H), mapF QM.encI wb f m] (fun _ : List En × (Int → Option Value) × Nat => .agg (enC (gE H i)).toArray) (fun y => y.1.length = n ∧ Heap y.1 ∧ WhA y.2.1 y.1 ∧ (gE H i :: y.1).Perm H) (fun y => [pts b 280 [.int .i64 now, .int .i64 tn, .slice ad n cap, .map (some wb)], slc 365 3 ad n cap (ents y.1), mapF QM.encI wb y.2.1 y.2.2]) := by
 refine fI Tryz.func214 Tryz.ntmps214 ?_
 intro F _
 refine zz [77] ?_
 refine TC.factSlc 1 rfl (fun _ hcap _ => ?_)
 have hg := gE_get (show i < H.length by omega)
 have hgn := gE_get (show n < H.length by omega)
 have hpl : 0 < (ents H).length := by rw [ents_length]; omega
 have hcl := cutL_length hn i
 have hcp := cutL_perm hn hi
 have hcN : Nd (gE H i :: cutL H n i) := hN.perm hcp
 have hcN1 : Nd (cutL H n i) := (List.nodup_cons.1 hcN).2
 refine zz [0,1,5] ?_
 refine al (l := ints [_, _, _]) rfl rfl ?_
 intro b1
 refine zz [2,0] ?_
 refine TC.draw _ [] [(0, false), (1, false), (2, false), (3, false), (4, false), (5, false), (6, false), (7, false), (8, false), (9, false), (10, false), (11, false), (12, false), (13, true), (14, true), (15, false)] (by kernel_rfl) (by kernel_rfl) (ent_take 0 rfl (ent_take 0 rfl (ent_take 0 rfl (ent_take 0 rfl (ent_nil _))))) ?_
 refine zz [28,31,58] ?_
 first | refine dq rfl rfl rfl (ld rfl rfl rfl) ?_ | refine dq rfl rfl rfl (ldS rfl rfl (flat_get_rec enC_sz hg)) ?_ | refine dq rfl rfl rfl (ldS rfl rfl (flat_get_rec enC_sz hgn)) ?_ | refine dq rfl rfl rfl (ldS rfl rfl rfl) ?_
 refine zz [33,237] ?_
 first | refine dq rfl rfl rfl (ldN (vs := ints [_, _, _]) 3 rfl rfl rfl rfl) ?_ | refine dq rfl rfl rfl (ldSN (vs := ints [_, _, _]) 3 rfl rfl (flat_get_rec enC_sz hg) rfl (by decide)) ?_ | refine dq rfl rfl rfl (ldSN (vs := ints [_, _, _]) 3 rfl rfl (flat_get_rec enC_sz hgn) rfl (by decide)) ?_ | refine dq rfl rfl rfl (ldSN (vs := ints [_, _, _]) 3 rfl rfl rfl rfl (by decide)) ?_
 refine zz [28,31,58] ?_
 first | refine dq rfl rfl rfl (ld rfl rfl rfl) ?_ | refine dq rfl rfl rfl (ldS rfl rfl (flat_get_rec enC_sz hg)) ?_ | refine dq rfl rfl rfl (ldS rfl rfl (flat_get_rec enC_sz hgn)) ?_ | refine dq rfl rfl rfl (ldS rfl rfl rfl) ?_
 refine zz [206,207] ?_
 rw [show (((n + 1 : Nat) : Int) - 1) = (n : Int) from by omega]
 refine de rfl rfl ?_
 refine al (l := ints [_, _, _]) rfl rfl ?_
 intro b2
 refine zz [8,61,140,8,41,27,0] ?_
 refine TC.draw _ [] [(0, false), (1, false), (2, false), (3, false), (4, false), (5, false), (6, true)] (by kernel_rfl) (by kernel_rfl) (ent_take 0 rfl (ent_take 0 rfl (ent_take 0 rfl (ent_nil _)))) ?_
 refine zz [28,31,90] ?_
 first | refine dq rfl rfl rfl (ld rfl rfl rfl) ?_ | refine dq rfl rfl rfl (ldS rfl rfl (flat_get_rec enC_sz hg)) ?_ | refine dq rfl rfl rfl (ldS rfl rfl (flat_get_rec enC_sz hgn)) ?_ | refine dq rfl rfl rfl (ldS rfl rfl rfl) ?_
 refine zz [58] ?_
 first | refine dq rfl rfl rfl (ld rfl rfl rfl) ?_ | refine dq rfl rfl rfl (ldS rfl rfl (flat_get_rec enC_sz hg)) ?_ | refine dq rfl rfl rfl (ldS rfl rfl (flat_get_rec enC_sz hgn)) ?_ | refine dq rfl rfl rfl (ldS rfl rfl rfl) ?_
 refine de0 rfl ?_
 refine deF 3 3 rfl (KL.int rfl) rfl rfl rfl ?_
 refine zz [8,27,0,1,6,13,62] ?_
 first | refine q rfl rfl (ld rfl rfl rfl) ?_ | refine q rfl rfl (ldS rfl rfl (flat_get_rec enC_sz hg)) ?_ | refine q rfl rfl (ldS rfl rfl (flat_get_rec enC_sz hgn)) ?_ | refine q rfl rfl (ldS rfl rfl rfl) ?_
 refine zz [3,170] ?_
 first | refine q rfl rfl (ldN (vs := ints [_, _, _]) 3 rfl rfl rfl rfl) ?_ | refine q rfl rfl (ldSN (vs := ints [_, _, _]) 3 rfl rfl (flat_get_rec enC_sz hg) rfl (by decide)) ?_ | refine q rfl rfl (ldSN (vs := ints [_, _, _]) 3 rfl rfl (flat_get_rec enC_sz hgn) rfl (by decide)) ?_ | refine q rfl rfl (ldSN (vs := ints [_, _, _]) 3 rfl rfl rfl rfl (by decide)) ?_
 refine e rfl ?_
 refine al (l := ints [_, _, _]) rfl rfl ?_
 intro b3
 refine zz [21,140,2,0,1,6,6,13,62] ?_
 first | refine q rfl rfl (ld rfl rfl rfl) ?_ | refine q rfl rfl (ldS rfl rfl (flat_get_rec enC_sz hg)) ?_ | refine q rfl rfl (ldS rfl rfl (flat_get_rec enC_sz hgn)) ?_ | refine q rfl rfl (ldS rfl rfl rfl) ?_
 refine zz [3] ?_
 refine q rfl rfl (slTn 365 3 (n) rfl rfl rfl (by omega) (by omega)) ?_
 refine zz [13,62,21,110,2,0,0,1,3,3,38,2] ?_
 first | refine TC.condD rfl (fun hlt => ?_) (fun hlt => ?_) | refine TC.cond rfl (fun hlt => ?_) (fun hlt => ?_)
 ·have hlt2 : i < n := by omega
  have hcu : (H.take n).set i (gE H n) = cutL H n i := by rw [cutL, if_pos hlt2]
  have htk : (H.take n).length = n := by rw [List.length_take]; omega
  refine TC.weak (B := sepL [pts b 280 [.int .i64 now, .int .i64 tn, .slice ad n cap, .map (some wb)], slc 365 3 ad n cap (ents (H.take n)), mapF QM.encI wb (delF f (gE H i).id) _, pts b3 365 (enC (gE H n)), pts b2 365 (enC (gE H i)), pts b1 365 (ints [0, 0, 0]), F]) (ent_take 0 rfl (ent_takeW 4 rfl (by rw [← ents_take]; exact slc_to (by omega)) (ent_take 1 rfl (ent_take 0 rfl (ent_take 0 rfl (ent_take 0 rfl (ent_take 0 rfl (ent_nil _)))))))) ?_
  refine zz [0,1,6,3] ?_
  first | refine q rfl rfl (ldN (vs := ints [_, _, _]) 3 rfl rfl rfl rfl) ?_ | refine q rfl rfl (ldSN (vs := ints [_, _, _]) 3 rfl rfl (flat_get_rec enC_sz hg) rfl (by decide)) ?_ | refine q rfl rfl (ldSN (vs := ints [_, _, _]) 3 rfl rfl (flat_get_rec enC_sz hgn) rfl (by decide)) ?_ | refine q rfl rfl (ldSN (vs := ints [_, _, _]) 3 rfl rfl rfl rfl (by decide)) ?_
  refine e rfl ?_
  refine cl (put_ok b now tn (H.take n) ad n cap wb _ _ i htk hlt2 (by omega) (gE H n)) rfl (picked_cons 0 rfl (picked_cons 0 rfl (picked_cons 0 rfl (picked_nil _)))) trivial ?_
  intro _ _
  refine zz [49] ?_
  rw [hcu]
  refine zz [2,0,1,6,3,5] ?_
  refine cl (down_ok b now tn (cutL H n i) ad n cap wb _ _ i hcl hlt2 (by omega) (cut_hole hn hH) ((cut_wh hn hW hN hlt2).but i) hcN1) rfl (picked_cons 0 rfl (picked_cons 0 rfl (picked_cons 0 rfl (picked_nil _)))) trivial ?_
  intro ⟨H3, f3, m3⟩ ⟨hw3, hp3, j, hj, hu3, hg3⟩
  refine zz [49] ?_
  dsimp only at hw3 hp3 hj hu3 hg3 ⊢
  rw [cutL_gE hn hlt2, if_pos rfl] at hg3
  have hl3 : H3.length = n := by rw [hp3.length_eq, hcl]
  have hfj : f3 (gE H n).id = some (.int .i64 (j : Int)) := by rw [← hg3]; exact hw3.a j (by omega)
  refine TL.nil (nt ?_)
  refine TC.draw _ [8] [(0, false), (1, false), (2, false), (3, false), (4, false), (5, false), (6, false), (7, false), (8, true)] (by kernel_rfl) (by kernel_rfl) (ent.refl _) ?_
  refine zz [28,28,31,90] ?_
  first | refine dq rfl rfl rfl (ld rfl rfl rfl) ?_ | refine dq rfl rfl rfl (ldS rfl rfl (flat_get_rec enC_sz hg)) ?_ | refine dq rfl rfl rfl (ldS rfl rfl (flat_get_rec enC_sz hgn)) ?_ | refine dq rfl rfl rfl (ldS rfl rfl rfl) ?_
  refine zz [58] ?_
  first | refine dq rfl rfl rfl (ld rfl rfl rfl) ?_ | refine dq rfl rfl rfl (ldS rfl rfl (flat_get_rec enC_sz hg)) ?_ | refine dq rfl rfl rfl (ldS rfl rfl (flat_get_rec enC_sz hgn)) ?_ | refine dq rfl rfl rfl (ldS rfl rfl rfl) ?_
  refine dq rfl rfl rfl (luF 3 3 rfl rfl (KL.int rfl) rfl rfl) ?_
  rw [hfj]
  refine dl rfl rfl rfl rfl ?_
  refine cl (up_ok b now tn H3 ad n cap wb m3 f3 j hl3 hj (by omega) hu3 (hw3.but j) (hcN1.perm hp3)) rfl (picked_cons 0 rfl (picked_cons 0 rfl (picked_cons 0 rfl (picked_nil _)))) trivial ?_
  intro ⟨H4, f4, m4⟩ ⟨hh4, hw4, hp4⟩
  change TD _ _ _ _ _ _ _ _ _ _ (sepL [_, _, _, _, _, _, _])
  dsimp only at hh4 hw4 hp4 ⊢
  refine zz [27,0,1] ?_
  first | refine q rfl rfl (ldN (vs := ints [_, _, _]) 3 rfl rfl rfl rfl) ?_ | refine q rfl rfl (ldSN (vs := ints [_, _, _]) 3 rfl rfl (flat_get_rec enC_sz hg) rfl (by decide)) ?_ | refine q rfl rfl (ldSN (vs := ints [_, _, _]) 3 rfl rfl (flat_get_rec enC_sz hgn) rfl (by decide)) ?_ | refine q rfl rfl (ldSN (vs := ints [_, _, _]) 3 rfl rfl rfl rfl (by decide)) ?_
  refine zz [21,140,2,11] ?_
  exact Ret.i ⟨H4, f4, m4⟩ [_] ⟨(rcN (n := 3) rfl rfl rfl rfl), trivial⟩ rfl ⟨by dsimp only; rw [hp4.length_eq, hl3], hh4, hw4, ((hp4.trans hp3).cons _).trans hcp⟩ (ent_take 1 rfl (ent_take 1 rfl (ent_take 1 rfl (ent_take 3 rfl (ent_nil _)))))
 ·obtain rfl : i = n := by omega
  have hcu : H.take i = cutL H i i := by rw [cutL, if_neg (by omega)]
  refine TC.weak (B := sepL [pts b 280 [.int .i64 now, .int .i64 tn, .slice ad i cap, .map (some wb)], slc 365 3 ad i cap (ents (cutL H i i)), mapF QM.encI wb (delF f (gE H i).id) _, pts b3 365 (enC (gE H i)), pts b2 365 (enC (gE H i)), pts b1 365 (ints [0, 0, 0]), F]) (ent_take 0 rfl (ent_takeW 4 rfl (by rw [← hcu, ← ents_take]; exact slc_to (by omega)) (ent_take 1 rfl (ent_take 0 rfl (ent_take 0 rfl (ent_take 0 rfl (ent_take 0 rfl (ent_nil _)))))))) ?_
  refine zz [7,0,1] ?_
  first | refine q rfl rfl (ldN (vs := ints [_, _, _]) 3 rfl rfl rfl rfl) ?_ | refine q rfl rfl (ldSN (vs := ints [_, _, _]) 3 rfl rfl (flat_get_rec enC_sz hg) rfl (by decide)) ?_ | refine q rfl rfl (ldSN (vs := ints [_, _, _]) 3 rfl rfl (flat_get_rec enC_sz hgn) rfl (by decide)) ?_ | refine q rfl rfl (ldSN (vs := ints [_, _, _]) 3 rfl rfl rfl rfl (by decide)) ?_
  refine zz [21,140,2,11] ?_
  exact Ret.i ⟨cutL H i i, _, _⟩ [_] ⟨(rcN (n := 3) rfl rfl rfl rfl), trivial⟩ rfl ⟨hcl, cut_heap hn hH, cut_wh_last hn hW hN, hcp⟩ (ent_take 1 rfl (ent_take 1 rfl (ent_take 1 rfl (ent_take 3 rfl (ent_nil _)))))
end Go.Proofs.YtnlgmaibhlicjaaGreatDoor.Al
