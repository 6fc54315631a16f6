/-
  Proved here: what functions of this program compute, each as a contract over symbolic states, under the premises that each theorem names (most lines printed by a program of the prover).
-/
import Derived.Test.YtdfmfhcjnjfjbaaThA
namespace Go.Proofs.Ytdfmfhcjnjfjbaa
open Go Go.QM
open Al (En hasA Nd clrA setA offA dueA restA leftA ids)
open Rd (hasS NdS addS RInv topS runS tickS yieldS rndS)
structure TRep where
  q : Nat
  a : Nat
  p : Nat
  tb : Nat
  B : Int → Nat
  M : Int → Nat
  ad : Option Addr
  cap : Nat
abbrev xP (B : Int → Nat) (T : TS) (x : Int) : HP := pts (B x) 72 [.int .i64 (T.pr x), .int .i64 (T.sl x), .bool (T.on x)]
def isT (b : Nat) (T : TS) : HP := EX fun y : TRep => pure' T.m.ids.Nodup (sepL [pts b 69 [.pointer (some ⟨y.q, 0, none⟩), .pointer (some ⟨y.a, 0, none⟩), .pointer (some ⟨y.p, 0, none⟩), .map (some y.tb), .slice y.ad T.told.length y.cap], Rd.isQ y.q T.S, Al.isAl y.a T.now T.tn T.A, isMa y.p y.M T.m, mapF QM.encI y.tb (fM y.B T.m.ids) T.m.ids.length, bigS (xP y.B T) T.m.ids, slc 39 2 y.ad T.told.length y.cap (tgsC T.told)])
theorem xP_rd {B : Int → Nat} {T : TS} {L : List Int} {x : Int} (h : x ∈ L) : RdI (bigS (xP B T) L) (B x) (.cells (List.toArray [.int .i64 (T.pr x), .int .i64 (T.sl x), .bool (T.on x)]) 72 (0, 0)) := ⟨Rd_big h (Rd_pts _ _ _)⟩
theorem tgs_all (L : List Tg) : (tgsC L).take (L.length * 2) = tgsC L := List.take_of_length_le (by rw [tgsC_length]; omega)
theorem tell_snoc (T : TS) (why : Int) (l : List Int) {k : Nat} {x : Int} (h : l[k]? = some x) : tellS T why (l.take (k + 1)) = tell1 why (tellS T why (l.take k)) x := by
  rw [List.take_add_one, h, Option.toList, tellS, List.foldl_append, tellS]; rfl
theorem add_len (S : List Rd.Th) (id p s : Int) : (addS S id p s).1.length ≤ S.length + 1 := by
  rw [addS]; split
  · exact Nat.le_add_right _ _
  · split
    · exact Nat.le_add_right _ _
    · rw [List.length_append]; exact Nat.le_refl _
theorem tell_len (why : Int) : ∀ (l : List Int) (T : TS), (tellS T why l).S.length ≤ T.S.length + l.length ∧ (tellS T why l).A.length ≤ T.A.length
  | [], _ => ⟨Nat.le_refl _, Nat.le_refl _⟩
  | x :: l, T => by
    obtain ⟨h1, h2⟩ := tell_len why l (tell1 why T x)
    have h3 := add_len T.S x (T.pr x) (T.sl x)
    have h4 : (clrA T.A [x]).length ≤ T.A.length := (Al.clrA_sub _ _).length_le
    have e : tellS T why (x :: l) = tellS (tell1 why T x) why l := rfl
    have e1 : (tell1 why T x).S = (addS T.S x (T.pr x) (T.sl x)).1 := rfl
    have e2 : (tell1 why T x).A = clrA T.A [x] := rfl
    rw [e1] at h1; rw [e2] at h2
    rw [e, List.length_cons]; omega
/-- Sizes. -/
structure TB (T : TS) : Prop where
  ids : T.m.ids.length ≤ 1000
  now : 0 ≤ T.now ∧ T.now ≤ 1000000000
  tn : 0 ≤ T.tn ∧ T.tn ≤ 1000000000
  told : T.told.length ≤ 100000000
theorem ids_of {S : List Rd.Th} (hn : NdS S) {L : List Int} (h : ∀ x, hasS S x → x ∈ L) : S.length ≤ L.length := by
  have := nodup_sub_len hn (m := L) fun x hx => by
    obtain ⟨t, ht, rfl⟩ := List.mem_map.1 hx
    exact h _ ⟨t, ht, rfl⟩
  simpa using this
theorem ids_ofA {S : List En} (hn : Nd S) {L : List Int} (h : ∀ x, hasA S x → x ∈ L) : S.length ≤ L.length := by
  have := nodup_sub_len hn (m := L) fun x hx => by
    obtain ⟨t, ht, rfl⟩ := List.mem_map.1 hx
    exact h _ ⟨t, ht, rfl⟩
  simpa using this
theorem TP.lenS {T : TS} {L : List Int} (h : TP T L) : T.S.length ≤ T.m.ids.length := ids_of h.rj.nd fun x hx => ((h.rdy x).1 hx).1.1
theorem TP.lenA {T : TS} {L : List Int} (h : TP T L) : T.A.length ≤ T.m.ids.length := ids_ofA h.na fun x hx => (h.al x hx).1
theorem TP.lenL {T : TS} {L : List Int} (h : TP T L) : L.length ≤ T.m.ids.length := nodup_sub_len h.Ln fun x hx => (h.L1 x hx).1
theorem al_bd {T : TS} (hb : TB T) (hA : T.A.length ≤ 500000) : (0 ≤ T.now ∧ T.now ≤ 1000000000000) ∧ (0 ≤ T.tn ∧ T.tn ≤ 1000000000000) ∧ T.A.length ≤ 500000 := by
  have h1 := hb.now; have h2 := hb.tn; omega
theorem add_ids (T : TS) (x : Int) : (addT T x).m = joinS T.m x := by
  rw [addT]; split
  · rename_i h; rw [joinS, if_pos h]
  · rfl
theorem addL_snoc (T : TS) (l : List Int) {k : Nat} {x : Int} (h : l[k]? = some x) : addL T (l.take (k + 1)) = addT (addL T (l.take k)) x := by
  rw [List.take_add_one, h, Option.toList, addL, List.foldl_append, addL]; rfl
theorem addL_len (l : List Int) : ∀ T : TS, T.m.ids.length ≤ (addL T l).m.ids.length ∧ (addL T l).m.ids.length ≤ T.m.ids.length + l.length := by
  induction l with
  | nil => exact fun T => ⟨Nat.le_refl _, Nat.le_refl _⟩
  | cons x l ih => intro T; have h1 := join_len T.m x; have h2 := ih (addT T x); rw [add_ids] at h2; rw [show addL T (x :: l) = addL (addT T x) l from rfl, List.length_cons]; omega

set_option maxRecDepth 4000 in
theorem tat_yes (b tb n : Nat) (B : Int → Nat) (ids : List Int) (id : Int) (h : id ∈ ids) (c0 c1 c2 c4 : Value) : FSpec Try.prog 37 [.pointer (some ⟨b, 0, none⟩), .int .i64 id] noRd [pts b 69 [c0, c1, c2, .map (some tb), c4], mapF QM.encI tb (fM B ids) n] (fun _ : Unit => .tuple #[.pointer (some ⟨(B id), 0, none⟩), .int .i64 0]) (fun _ => True) (fun _ => [pts b 69 [c0, c1, c2, .map (some tb), c4], mapF QM.encI tb (fM B ids) n]) := by
  refine FSpec.intro (rs := [.tmp 4, .tmp 5]) (by kernel_rfl) Try.func37 rfl Try.ntmps37 (by rfl) rfl ?_
  intro F _
  change TC _ _ _ _ _ _ _ (sepL [_, _, _])
  refine TC.seq ?_
  refine TC.region ?_
  refine q rfl rfl (asg rfl) ?_
  refine q rfl rfl (asg rfl) ?_
  refine TL.nil (nt ?_)
  refine TC.seq ?_
  refine TC.seq ?_
  refine TC.region ?_
  refine q rfl rfl (mv rfl) ?_
  refine q rfl rfl (eqNil rfl rfl rfl) ?_
  refine TL.nil (nt ?_)
  refine TC.condF rfl ?_
  refine TC.skip (nt ?_)
  refine TC.seq ?_
  refine TC.region ?_
  refine q rfl rfl (mv rfl) ?_
  first | refine q rfl rfl (nc rfl) ?_ | refine q rfl rfl (ncF rfl) ?_ | refine q rfl rfl (ncS rfl (by first | assumption | (simp [ints_length] <;> omega))) ?_
  first | refine q rfl rfl (fa 3 rfl rfl) ?_ | refine q rfl rfl (faS 3 rfl rfl (by first | assumption | (simp [ints_length] <;> omega))) ?_
  first | refine q rfl rfl (ld rfl rfl rfl) ?_ | refine q rfl rfl (ldS rfl rfl rfl) ?_
  refine q rfl rfl (mv rfl) ?_
  refine q rfl rfl (luF 3 70 rfl rfl (KL.int rfl) rfl rfl) ?_
  rw [fM_yes h]
  refine q rfl rfl (asg (v := .pointer _) rfl) ?_
  refine TL.nil (nt ?_)
  refine TC.seq ?_
  refine TC.seq ?_
  refine TC.region ?_
  refine q rfl rfl (mv (v := .pointer _) rfl) ?_
  refine q rfl rfl (eqNil rfl rfl rfl) ?_
  refine TL.nil (nt ?_)
  refine TC.condF rfl ?_
  refine TC.skip (nt ?_)
  refine TC.seq ?_
  refine TC.region ?_
  refine q rfl rfl (mv (v := .pointer _) rfl) ?_
  refine q rfl rfl (asg (v := .pointer _) rfl) ?_
  refine q rfl rfl (asg (v := .int _ _) rfl) ?_
  refine TL.nil (nt ?_)
  refine TC.ret ?_
  exact Ret.i () [_, _] ⟨rfl, rfl, trivial⟩ rfl trivial (ent_take 0 rfl (ent_take 0 rfl (ent_take 0 rfl (ent_nil _))))

set_option maxRecDepth 4000 in
theorem tat_no (b tb n : Nat) (B : Int → Nat) (ids : List Int) (id : Int) (h : id ∉ ids) (c0 c1 c2 c4 : Value) : FSpec Try.prog 37 [.pointer (some ⟨b, 0, none⟩), .int .i64 id] noRd [pts b 69 [c0, c1, c2, .map (some tb), c4], mapF QM.encI tb (fM B ids) n] (fun _ : Unit => .tuple #[.pointer none, .int .i64 6]) (fun _ => True) (fun _ => [pts b 69 [c0, c1, c2, .map (some tb), c4], mapF QM.encI tb (fM B ids) n]) := by
  refine FSpec.intro (rs := [.tmp 4, .tmp 5]) (by kernel_rfl) Try.func37 rfl Try.ntmps37 (by rfl) rfl ?_
  intro F _
  change TC _ _ _ _ _ _ _ (sepL [_, _, _])
  refine TC.seq ?_
  refine TC.region ?_
  refine q rfl rfl (asg rfl) ?_
  refine q rfl rfl (asg rfl) ?_
  refine TL.nil (nt ?_)
  refine TC.seq ?_
  refine TC.seq ?_
  refine TC.region ?_
  refine q rfl rfl (mv rfl) ?_
  refine q rfl rfl (eqNil rfl rfl rfl) ?_
  refine TL.nil (nt ?_)
  refine TC.condF rfl ?_
  refine TC.skip (nt ?_)
  refine TC.seq ?_
  refine TC.region ?_
  refine q rfl rfl (mv rfl) ?_
  first | refine q rfl rfl (nc rfl) ?_ | refine q rfl rfl (ncF rfl) ?_ | refine q rfl rfl (ncS rfl (by first | assumption | (simp [ints_length] <;> omega))) ?_
  first | refine q rfl rfl (fa 3 rfl rfl) ?_ | refine q rfl rfl (faS 3 rfl rfl (by first | assumption | (simp [ints_length] <;> omega))) ?_
  first | refine q rfl rfl (ld rfl rfl rfl) ?_ | refine q rfl rfl (ldS rfl rfl rfl) ?_
  refine q rfl rfl (mv rfl) ?_
  refine q rfl rfl (luF 3 70 rfl rfl (KL.int rfl) rfl rfl) ?_
  rw [fM_no h]
  refine q rfl rfl (asg (v := .pointer _) rfl) ?_
  refine TL.nil (nt ?_)
  refine TC.seq ?_
  refine TC.seq ?_
  refine TC.region ?_
  refine q rfl rfl (mv (v := .pointer _) rfl) ?_
  refine q rfl rfl (eqNil rfl rfl rfl) ?_
  refine TL.nil (nt ?_)
  refine TC.condT rfl ?_
  refine TC.seq ?_
  refine TC.region ?_
  refine q rfl rfl (asg (v := .pointer _) rfl) ?_
  refine q rfl rfl (asg (v := .int _ _) rfl) ?_
  refine TL.nil (nt ?_)
  refine TC.ret (rt ?_)
  exact Ret.i () [_, _] ⟨rfl, rfl, trivial⟩ rfl trivial (ent_take 0 rfl (ent_take 0 rfl (ent_take 0 rfl (ent_nil _))))

set_option maxRecDepth 4000 in
theorem tat_nil (id : Int) : FSpec Try.prog 37 [.pointer none, .int .i64 id] noRd [] (fun _ : Unit => .tuple #[.pointer none, .int .i64 1]) (fun _ => True) (fun _ => []) := by
  refine FSpec.intro (rs := [.tmp 4, .tmp 5]) (by kernel_rfl) Try.func37 rfl Try.ntmps37 (by rfl) rfl ?_
  intro F _
  change TC _ _ _ _ _ _ _ (sepL [_])
  refine TC.seq ?_
  refine TC.region ?_
  refine q rfl rfl (asg (v := .pointer _) rfl) ?_
  refine q rfl rfl (asg (v := .int _ _) rfl) ?_
  refine TL.nil (nt ?_)
  refine TC.seq ?_
  refine TC.seq ?_
  refine TC.region ?_
  refine q rfl rfl (mv (v := .pointer _) rfl) ?_
  refine q rfl rfl (eqNil rfl rfl rfl) ?_
  refine TL.nil (nt ?_)
  refine TC.condT rfl ?_
  refine TC.seq ?_
  refine TC.region ?_
  refine q rfl rfl (asg (v := .pointer _) rfl) ?_
  refine q rfl rfl (asg (v := .int _ _) rfl) ?_
  refine TL.nil (nt ?_)
  refine TC.ret (rt ?_)
  exact Ret.i () [_, _] ⟨rfl, rfl, trivial⟩ rfl trivial (ent_take 0 rfl (ent_nil _))

set_option maxRecDepth 4000 in
theorem tnew_ok  : FSpec Try.prog 10 [] noRd [] (fun b : Nat => .pointer (some ⟨b, 0, none⟩)) (fun _ => True) (fun b => [isT b t0]) := by
  refine FSpec.intro (rs := [.tmp 0]) (by kernel_rfl) Try.func10 rfl Try.ntmps10 (by rfl) rfl ?_
  intro F _
  change TC _ _ _ _ _ _ _ (sepL [_])
  refine TC.seq ?_
  refine TC.region ?_
  refine q rfl rfl (asg (v := .pointer _) rfl) ?_
  refine TL.nil (nt ?_)
  refine TC.seq ?_
  refine TC.region ?_
  refine e rfl ?_
  refine cl Rd.rnew_ok rfl (picked_nil _) trivial ?_
  intro qb _
  change TL _ _ _ _ _ _ _ _ (sepL [_, _])
  refine e rfl ?_
  refine cl Al.new_ok rfl (picked_nil _) trivial ?_
  intro a _
  change TL _ _ _ _ _ _ _ _ (sepL [_, _, _])
  refine e rfl ?_
  refine cl (mnew_ok (fun _ => 0)) rfl (picked_nil _) trivial ?_
  intro pb _
  change TL _ _ _ _ _ _ _ _ (sepL [_, _, _, _])
  refine e rfl ?_
  refine mkF QM.encI ?_
  intro b1
  first | refine q rfl rfl (bld (cs := [.pointer _, .pointer _, .pointer _, .map _, .slice _ _ _]) rfl) ?_ | refine q rfl rfl (bld (cs := [_, _, _, _, _]) rfl) ?_
  refine e rfl ?_
  refine bx (v := .agg #[_, _, _, _, _]) (l := [.pointer _, .pointer _, .pointer _, .map _, .slice _ _ _]) rfl rfl ?_
  intro b2
  refine q rfl rfl (asg (v := .pointer _) rfl) ?_
  refine TL.nil (nt ?_)
  refine TC.ret ?_
  have hf : fM (fun _ => 0) [] = fun _ => none := funext fun _ => if_neg (by simp)
  exact Ret.i b2 [_] ⟨rfl, trivial⟩ rfl trivial ((slc_nil 39 2 _).trans ((bigS_nil (f := xP (fun _ => 0) t0) _).trans (ent_close (⟨qb, a, pb, b1, fun _ => 0, fun _ => 0, none, 0⟩ : TRep) List.nodup_nil (ent_take 2 rfl (ent_take 5 rfl (ent_take 4 rfl (ent_take 3 rfl (ent_takeE 2 rfl (by dsimp only [t0, s0]; rw [hf]; rfl) (ent_take 0 rfl (ent_take 0 rfl (ent_take 0 rfl (ent_nil _))))))))))))

set_option maxRecDepth 4000 in
theorem tmay_ok (t : Int) : FSpec Try.prog 39 [.int .i64 t] noRd [] (fun _ : Unit => .bool (decide (¬ badT t))) (fun _ => True) (fun _ => []) := by
  refine FSpec.intro (rs := [.tmp 2]) (by kernel_rfl) Try.func39 rfl Try.ntmps39 (by rfl) rfl ?_
  intro F _
  change TC _ _ _ _ _ _ _ (sepL [_])
  refine TC.seq ?_
  refine TC.region ?_
  refine q rfl rfl (asg (v := .bool _) rfl) ?_
  refine TL.nil (nt ?_)
  refine TC.seq ?_
  refine TC.region ?_
  refine q rfl rfl (mv (v := .int _ _) rfl) ?_
  refine q rfl rfl (geq rfl rfl) ?_
  refine q rfl rfl (mv (v := .bool _) rfl) ?_
  refine TL.split 5 rfl (fun h0 => ?_) (fun h0 => ?_)
  · have h0 := of_decide_eq_true h0
    refine qg rfl rfl rfl (mv (v := .int _ _) rfl) ?_
    refine qg rfl rfl rfl (leq rfl rfl) ?_
    first | refine q rfl rfl (pkT (v := .bool _) rfl rfl) ?_ | refine q rfl rfl (pkF (v := .bool _) rfl rfl) ?_
    refine q rfl rfl (asg (v := .bool _) rfl) ?_
    refine TL.nil (nt ?_)
    refine TC.ret ?_
    have hd : decide (t ≤ 1048576) = decide (¬ badT t) := decide_eq_decide.2 (by rw [badT]; omega)
    exact Ret.i () [_] ⟨rfl, trivial⟩ (by rw [← hd]; rfl) trivial (ent_take 0 rfl (ent_nil _))
  · have h0 := of_decide_eq_false h0
    refine qs rfl rfl ?_
    refine qs rfl rfl ?_
    first | refine q rfl rfl (pkT (v := .bool _) rfl rfl) ?_ | refine q rfl rfl (pkF (v := .bool _) rfl rfl) ?_
    refine q rfl rfl (asg (v := .bool _) rfl) ?_
    refine TL.nil (nt ?_)
    refine TC.ret ?_
    have hd : decide (¬ badT t) = false := decide_eq_false (by rw [badT]; omega)
    exact Ret.i () [_] ⟨rfl, trivial⟩ (by rw [hd]; rfl) trivial (ent_take 0 rfl (ent_nil _))

set_option maxRecDepth 4000 in
theorem tstate_ok (b : Nat) (T : TS) (id : Int) : FSpec Try.prog 17 [.pointer (some ⟨b, 0, none⟩), .int .i64 id] noRd [isT b T] (fun _ : Unit => .int .i64 (stT T id)) (fun _ => True) (fun _ => [isT b T]) := by
  refine FSpec.intro (rs := [.tmp 4]) (by kernel_rfl) Try.func17 rfl Try.ntmps17 (by rfl) rfl ?_
  intro F _
  change TC _ _ _ _ _ _ _ (sepL [_, _])
  refine TC.open 0 rfl (fun x0 hx0 => ?_)
  obtain ⟨qb, a, pb, tb, B, M, ad, cap⟩ := x0
  have hN := hx0
  change TC _ _ _ _ _ _ _ (sepL [_, _, _, _, _, _, _, _])
  dsimp only at hN ⊢
  by_cases h : id ∈ T.m.ids
  · haveI := xP_rd (B := B) (T := T) (x := id) h
    refine TC.seq ?_
    refine TC.region ?_
    refine q rfl rfl (asg (v := .int _ _) rfl) ?_
    refine TL.nil (nt ?_)
    refine TC.seq ?_
    refine TC.region ?_
    refine q rfl rfl (mv (v := .pointer _) rfl) ?_
    refine q rfl rfl (mv (v := .int _ _) rfl) ?_
    refine e rfl ?_
    refine cl (tat_yes b tb T.m.ids.length B T.m.ids id h (.pointer (some ⟨qb, 0, none⟩)) (.pointer (some ⟨a, 0, none⟩)) (.pointer (some ⟨pb, 0, none⟩)) (.slice ad T.told.length cap)) rfl PkL.p trivial ?_
    intro _ _
    change TL _ _ _ _ _ _ _ _ (sepL [_, _, _, _, _, _, _, _])
    refine q rfl rfl (mv (v := .tuple _) rfl) ?_
    refine q rfl rfl (pu (v := .pointer _) (fun _ => rfl)) ?_
    refine q rfl rfl (pu (v := .int _ _) (fun _ => rfl)) ?_
    refine q rfl rfl (asg (v := .pointer _) rfl) ?_
    refine q rfl rfl (asg (v := .int _ _) rfl) ?_
    refine TL.nil (nt ?_)
    refine TC.seq ?_
    refine TC.block ?_
    refine TC.seq ?_
    refine TC.region ?_
    refine q rfl rfl (mv (v := .int _ _) rfl) ?_
    refine q rfl rfl (neI rfl rfl) ?_
    refine q rfl rfl (asg (v := .bool _) rfl) ?_
    refine TL.nil (nt ?_)
    refine TC.condF rfl ?_
    refine TC.seq ?_
    refine TC.region ?_
    refine q rfl rfl (mv (v := .pointer _) rfl) ?_
    first | refine q rfl rfl (nc rfl) ?_ | refine q rfl rfl (ncF rfl) ?_ | refine q rfl rfl (ncS rfl (by first | assumption | (simp [ints_length] <;> omega))) ?_
    first | refine q rfl rfl (fa 2 rfl rfl) ?_ | refine q rfl rfl (faS 2 rfl rfl (by first | assumption | (simp [ints_length] <;> omega))) ?_
    first | refine q rfl rfl (ld rfl rfl rfl) ?_ | refine q rfl rfl (ldS rfl rfl rfl) ?_
    first | refine q rfl rfl (notD rfl) ?_ | refine q rfl rfl (notB rfl) ?_
    refine q rfl rfl (asg (v := .bool _) rfl) ?_
    refine TL.nil (nt ?_)
    cases hon : T.on id with
    | true => ?_
    | false => ?_
    · have hv : stT T id = stR T.m id := by rw [stT, if_pos h, stR, if_pos h, hon]; rfl
      rw [hv]
      refine TC.condF rfl ?_
      refine TC.skip (nb (nt ?_))
      refine TC.seq ?_
      refine TC.region ?_
      refine q rfl rfl (mv (v := .pointer _) rfl) ?_
      first | refine q rfl rfl (nc rfl) ?_ | refine q rfl rfl (ncF rfl) ?_ | refine q rfl rfl (ncS rfl (by first | assumption | (simp [ints_length] <;> omega))) ?_
      first | refine q rfl rfl (fa 2 rfl rfl) ?_ | refine q rfl rfl (faS 2 rfl rfl (by first | assumption | (simp [ints_length] <;> omega))) ?_
      first | refine q rfl rfl (ld rfl rfl rfl) ?_ | refine q rfl rfl (ldS rfl rfl rfl) ?_
      refine q rfl rfl (mv (v := .int _ _) rfl) ?_
      refine e rfl ?_
      refine cl (mstate_ok pb M T.m id) rfl PkL.p trivial ?_
      intro _ _
      change TL _ _ _ _ _ _ _ _ (sepL [_, _, _, _, _, _, _, _])
      refine q rfl rfl (asg (v := .int _ _) rfl) ?_
      refine TL.nil (nt ?_)
      refine TC.ret ?_
      exact Ret.i () [_] ⟨rfl, trivial⟩ rfl trivial (ent_close (⟨qb, a, pb, tb, B, M, ad, cap⟩ : TRep) hN (by repeat (first | exact ent_nil _ | refine ent_take 0 rfl ?_ | refine ent_take 1 rfl ?_ | refine ent_take 2 rfl ?_ | refine ent_take 3 rfl ?_ | refine ent_take 4 rfl ?_ | refine ent_take 5 rfl ?_ | refine ent_take 6 rfl ?_ | refine ent_take 7 rfl ?_ | refine ent_take 8 rfl ?_ | refine ent_take 9 rfl ?_ | refine ent_take 10 rfl ?_ | refine ent_take 11 rfl ?_ | refine ent_take 12 rfl ?_)))
    · have hv : stT T id = 4 := by rw [stT, if_pos h, hon]; rfl
      rw [hv]
      refine TC.condT rfl ?_
      refine TC.seq ?_
      refine TC.region ?_
      refine q rfl rfl (asg (v := .int _ _) rfl) ?_
      refine TL.nil (nt ?_)
      refine TC.ret (rb (rt ?_))
      exact Ret.i () [_] ⟨rfl, trivial⟩ rfl trivial (ent_close (⟨qb, a, pb, tb, B, M, ad, cap⟩ : TRep) hN (by repeat (first | exact ent_nil _ | refine ent_take 0 rfl ?_ | refine ent_take 1 rfl ?_ | refine ent_take 2 rfl ?_ | refine ent_take 3 rfl ?_ | refine ent_take 4 rfl ?_ | refine ent_take 5 rfl ?_ | refine ent_take 6 rfl ?_ | refine ent_take 7 rfl ?_ | refine ent_take 8 rfl ?_ | refine ent_take 9 rfl ?_ | refine ent_take 10 rfl ?_ | refine ent_take 11 rfl ?_ | refine ent_take 12 rfl ?_)))
  · have hv : stT T id = -1 := if_neg h
    rw [hv]
    refine TC.seq ?_
    refine TC.region ?_
    refine q rfl rfl (asg (v := .int _ _) rfl) ?_
    refine TL.nil (nt ?_)
    refine TC.seq ?_
    refine TC.region ?_
    refine q rfl rfl (mv (v := .pointer _) rfl) ?_
    refine q rfl rfl (mv (v := .int _ _) rfl) ?_
    refine e rfl ?_
    refine cl (tat_no b tb T.m.ids.length B T.m.ids id h (.pointer (some ⟨qb, 0, none⟩)) (.pointer (some ⟨a, 0, none⟩)) (.pointer (some ⟨pb, 0, none⟩)) (.slice ad T.told.length cap)) rfl PkL.p trivial ?_
    intro _ _
    change TL _ _ _ _ _ _ _ _ (sepL [_, _, _, _, _, _, _, _])
    refine q rfl rfl (mv (v := .tuple _) rfl) ?_
    refine q rfl rfl (pu (v := .pointer _) (fun _ => rfl)) ?_
    refine q rfl rfl (pu (v := .int _ _) (fun _ => rfl)) ?_
    refine q rfl rfl (asg (v := .pointer _) rfl) ?_
    refine q rfl rfl (asg (v := .int _ _) rfl) ?_
    refine TL.nil (nt ?_)
    refine TC.seq ?_
    refine TC.block ?_
    refine TC.seq ?_
    refine TC.region ?_
    refine q rfl rfl (mv (v := .int _ _) rfl) ?_
    refine q rfl rfl (neI rfl rfl) ?_
    refine q rfl rfl (asg (v := .bool _) rfl) ?_
    refine TL.nil (nt ?_)
    refine TC.condT rfl ?_
    refine TC.seq ?_
    refine TC.region ?_
    refine q rfl rfl (asg (v := .int _ _) rfl) ?_
    refine TL.nil (nt ?_)
    refine TC.ret (rb (rt ?_))
    exact Ret.i () [_] ⟨rfl, trivial⟩ rfl trivial (ent_close (⟨qb, a, pb, tb, B, M, ad, cap⟩ : TRep) hN (by repeat (first | exact ent_nil _ | refine ent_take 0 rfl ?_ | refine ent_take 1 rfl ?_ | refine ent_take 2 rfl ?_ | refine ent_take 3 rfl ?_ | refine ent_take 4 rfl ?_ | refine ent_take 5 rfl ?_ | refine ent_take 6 rfl ?_ | refine ent_take 7 rfl ?_ | refine ent_take 8 rfl ?_ | refine ent_take 9 rfl ?_ | refine ent_take 10 rfl ?_ | refine ent_take 11 rfl ?_ | refine ent_take 12 rfl ?_)))

set_option maxRecDepth 4000 in
theorem tstate_nil (id : Int) : FSpec Try.prog 17 [.pointer none, .int .i64 id] noRd [] (fun _ : Unit => .int .i64 (-1)) (fun _ => True) (fun _ => []) := by
  refine FSpec.intro (rs := [.tmp 4]) (by kernel_rfl) Try.func17 rfl Try.ntmps17 (by rfl) rfl ?_
  intro F _
  change TC _ _ _ _ _ _ _ (sepL [_])
  refine TC.seq ?_
  refine TC.region ?_
  refine q rfl rfl (asg (v := .int _ _) rfl) ?_
  refine TL.nil (nt ?_)
  refine TC.seq ?_
  refine TC.region ?_
  refine q rfl rfl (mv (v := .pointer _) rfl) ?_
  refine q rfl rfl (mv (v := .int _ _) rfl) ?_
  refine e rfl ?_
  refine cl (tat_nil id) rfl (picked_nil _) trivial ?_
  intro _ _
  change TL _ _ _ _ _ _ _ _ (sepL [_])
  refine q rfl rfl (mv (v := .tuple _) rfl) ?_
  refine q rfl rfl (pu (v := .pointer _) (fun _ => rfl)) ?_
  refine q rfl rfl (pu (v := .int _ _) (fun _ => rfl)) ?_
  refine q rfl rfl (asg (v := .pointer _) rfl) ?_
  refine q rfl rfl (asg (v := .int _ _) rfl) ?_
  refine TL.nil (nt ?_)
  refine TC.seq ?_
  refine TC.block ?_
  refine TC.seq ?_
  refine TC.region ?_
  refine q rfl rfl (mv (v := .int _ _) rfl) ?_
  refine q rfl rfl (neI rfl rfl) ?_
  refine q rfl rfl (asg (v := .bool _) rfl) ?_
  refine TL.nil (nt ?_)
  refine TC.condT rfl ?_
  refine TC.seq ?_
  refine TC.region ?_
  refine q rfl rfl (asg (v := .int _ _) rfl) ?_
  refine TL.nil (nt ?_)
  refine TC.ret (rb (rt ?_))
  exact Ret.i () [_] ⟨rfl, trivial⟩ rfl trivial (ent_take 0 rfl (ent_nil _))

set_option maxRecDepth 4000 in
theorem tadd_ok (b : Nat) (T : TS) (ax : Option Addr) (cx : Nat) (xs : List Int) (hl : xs.length ≤ 100000) (hl2 : T.m.ids.length ≤ 100000) : FSpec Try.prog 11 [.pointer (some ⟨b, 0, none⟩), .slice ax xs.length cx] (fun F => ∃ E, RdS F E ax (ints xs)) [isT b T] (fun _ : Unit => .int .i64 ((addL T xs).m.ids.length - T.m.ids.length : Int)) (fun _ => True) (fun _ => [isT b (addL T xs)]) := by
  refine FSpec.intro (rs := [.tmp 4]) (by kernel_rfl) Try.func11 rfl Try.ntmps11 (by rfl) rfl ?_
  intro F ⟨E, hF⟩
  change TC _ _ _ _ _ _ _ (sepL [_, _])
  haveI : RdSI F ax E (ints xs) := ⟨hF⟩
  have hxl := ints_length xs
  refine TC.seq ?_
  refine TC.region ?_
  refine q rfl rfl (asg (v := .int _ _) rfl) ?_
  refine TL.nil (nt ?_)
  refine TC.seq ?_
  refine TC.region ?_
  refine q rfl rfl (asg (v := .int _ _) rfl) ?_
  refine TL.nil (nt ?_)
  refine TC.seq ?_
  refine TC.seq ?_
  refine TC.region ?_
  refine q rfl rfl (mv (v := .slice _ _ _) rfl) ?_
  refine q rfl rfl (len 3 1 rfl rfl) ?_
  refine q rfl rfl (mv (v := .int _ _) rfl) ?_
  refine TL.nil (nt ?_)
  refine TC.block ?_
  refine TC.loop (ι := Nat) (fun k => k ≤ xs.length) (fun k => [(0, .pointer (some ⟨b, 0, none⟩)), (5, .int .i64 ((addL T (xs.take k)).m.ids.length - T.m.ids.length : Int)), (8, .slice ax xs.length cx), (9, .int .i64 xs.length), (10, .int .i64 ((k : Nat) : Int))]) (fun k => sepL [isT b (addL T (xs.take k)), F]) (fun k => xs.length - k) 0 (Nat.zero_le _) ⟨rfl, congrArg (Value.int .i64) (Int.sub_self _).symm, rfl, rfl, rfl, trivial⟩ (ent_take 0 rfl (ent_take 0 rfl (ent_nil _))) ?_
  rintro k hk ρ0
  dsimp only [updL] at hk ⊢
  refine TC.seq ?_
  refine TC.region ?_
  refine q rfl rfl (lss rfl rfl) ?_
  refine TL.nil (nt ?_)
  refine TC.seq ?_
  first | refine TC.condD rfl (fun hlt => ?_) (fun hlt => ?_) | refine TC.cond rfl (fun hlt => ?_) (fun hlt => ?_)
  · have hlt2 : k < xs.length := by omega
    obtain ⟨x, hx⟩ : ∃ x, xs[k]? = some x := ⟨xs[k], List.getElem?_eq_getElem hlt2⟩
    have hpos : 0 < (ints xs).length := by omega
    have hsn := addL_snoc T xs hx
    have hjl := addL_len (xs.take k) T
    have hjt : (xs.take k).length ≤ k := by rw [List.length_take]; omega
    generalize (addL T (xs.take k)) = Z at hsn hjl ⊢
    have hzi : Z.m.ids.length ≤ 1000000 := by omega
    refine TC.open 0 rfl (fun x0 hx0 => ?_)
    obtain ⟨qb, a, pb, tb, B, M, ad, cap⟩ := x0
    have hN := hx0
    change TC _ _ _ _ _ _ _ (sepL [_, _, _, _, _, _, _, _])
    dsimp only at hN ⊢
    refine TC.skip (nt ?_)
    refine TC.seq ?_
    refine TC.block ?_
    refine TC.seq ?_
    refine TC.region ?_
    first | refine q rfl rfl (ixS 3 1 rfl rfl rfl (by omega) (by first | assumption | (simp [ints_length] <;> omega))) ?_ | refine q rfl rfl (ixJ 3 1 rfl rfl rfl (by omega) (by omega) (by first | assumption | (simp [ints_length] <;> omega))) ?_ | refine q rfl rfl (ix 3 1 rfl rfl rfl (by omega) (by omega) rfl) ?_
    first | refine q rfl rfl (ld rfl rfl rfl) ?_ | refine q rfl rfl (ldS rfl rfl (ints_get hx)) ?_ | refine q rfl rfl (ldS rfl rfl rfl) ?_
    refine q rfl rfl (asg (v := .int _ _) rfl) ?_
    refine TL.nil (nt ?_)
    refine TC.seq ?_
    refine TC.region ?_
    refine q rfl rfl (mv (v := .pointer _) rfl) ?_
    refine q rfl rfl (neNil rfl rfl rfl) ?_
    refine q rfl rfl (mv (v := .bool _) rfl) ?_
    refine qg rfl rfl rfl (mv (v := .pointer _) rfl) ?_
    first | refine qg rfl rfl rfl (nc rfl) ?_ | refine qg rfl rfl rfl (ncF rfl) ?_ | refine qg rfl rfl rfl (ncS rfl (by first | assumption | (simp [ints_length] <;> omega))) ?_
    first | refine qg rfl rfl rfl (fa 2 rfl rfl) ?_ | refine qg rfl rfl rfl (faS 2 rfl rfl (by first | assumption | (simp [ints_length] <;> omega))) ?_
    first | refine qg rfl rfl rfl (ld rfl rfl rfl) ?_ | refine qg rfl rfl rfl (ldS rfl rfl (ints_get hx)) ?_ | refine qg rfl rfl rfl (ldS rfl rfl rfl) ?_
    refine qg rfl rfl rfl (mv (v := .int _ _) rfl) ?_
    refine eg rfl rfl ?_
    refine bs (cs := [.int _ _]) rfl ?_
    intro b3
    refine eg rfl rfl ?_
    refine cl (mjoin_ok pb M Z.m (some ⟨b3, 0, none⟩) _ [x] (by simp) hzi) rfl PkL.p ⟨_, RdSI.rd (ad := some ⟨b3, 0, none⟩)⟩ ?_
    intro M2 _
    change TL _ _ _ _ _ _ _ _ (sepL [_, _, _, _, _, _, _, _, _])
    rw [show joinL Z.m [x] = joinS Z.m x from rfl]
    by_cases h : x ∈ Z.m.ids ∨ x < 0
    · have hz : addT Z x = Z := if_pos h
      have hj : joinS Z.m x = Z.m := if_pos h
      rw [hz] at hsn
      rw [hj, Int.sub_self]
      refine qg rfl rfl rfl (eqI rfl rfl) ?_
      first | refine q rfl rfl (pkT (v := .bool _) rfl rfl) ?_ | refine q rfl rfl (pkF (v := .bool _) rfl rfl) ?_
      refine TL.nil (nt ?_)
      refine TC.condF rfl ?_
      refine TC.skip (nb (nt ?_))
      refine TC.region ?_
      first | refine q rfl rfl (addI rfl rfl (by omega) (by omega)) ?_ | refine q rfl rfl (add rfl rfl rfl) ?_
      refine q rfl rfl (mv (v := .int _ _) rfl) ?_
      refine TL.nil (nt ?_)
      exact ⟨rfl, (k + 1), (by omega), (by omega), ⟨rfl, congrArg (fun z : TS => Value.int .i64 ((z.m.ids.length : Int) - T.m.ids.length)) hsn.symm, rfl, rfl, rfl, trivial⟩, (by rw [hsn]; exact (ent_close (⟨qb, a, pb, tb, B, M2, ad, cap⟩ : TRep) hN (by repeat (first | exact ent_nil _ | refine ent_take 0 rfl ?_ | refine ent_take 1 rfl ?_ | refine ent_take 2 rfl ?_ | refine ent_take 3 rfl ?_ | refine ent_take 4 rfl ?_ | refine ent_take 5 rfl ?_ | refine ent_take 6 rfl ?_ | refine ent_take 7 rfl ?_ | refine ent_take 8 rfl ?_ | refine ent_take 9 rfl ?_ | refine ent_take 10 rfl ?_ | refine ent_take 11 rfl ?_ | refine ent_take 12 rfl ?_))))⟩
    · have hz : addT Z x = { Z with m := joinS Z.m x, pr := updI Z.pr x 0, sl := updI Z.sl x 0, on := updI Z.on x false } := if_neg h
      have hj : (joinS Z.m x).ids = Z.m.ids ++ [x] := by rw [joinS, if_neg h]
      have hxi : x ∉ Z.m.ids := fun h2 => h (.inl h2)
      rw [hz] at hsn
      have h1 : ((joinS Z.m x).ids.length : Int) - (Z.m.ids.length : Int) = 1 := by rw [hj, List.length_append, List.length_singleton]; omega
      rw [h1]
      have hfx := fM_no (A := B) hxi
      have hN2 : (joinS Z.m x).ids.Nodup := join_nd hN x
      refine qg rfl rfl rfl (eqI rfl rfl) ?_
      first | refine q rfl rfl (pkT (v := .bool _) rfl rfl) ?_ | refine q rfl rfl (pkF (v := .bool _) rfl rfl) ?_
      refine TL.nil (nt ?_)
      refine TC.condT rfl ?_
      refine TC.seq ?_
      refine TC.region ?_
      refine q rfl rfl (mv (v := .pointer _) rfl) ?_
      first | refine q rfl rfl (nc rfl) ?_ | refine q rfl rfl (ncF rfl) ?_ | refine q rfl rfl (ncS rfl (by first | assumption | (simp [ints_length] <;> omega))) ?_
      first | refine q rfl rfl (fa 3 rfl rfl) ?_ | refine q rfl rfl (faS 3 rfl rfl (by first | assumption | (simp [ints_length] <;> omega))) ?_
      first | refine q rfl rfl (ld rfl rfl rfl) ?_ | refine q rfl rfl (ldS rfl rfl (ints_get hx)) ?_ | refine q rfl rfl (ldS rfl rfl rfl) ?_
      refine q rfl rfl (mv (v := .int _ _) rfl) ?_
      first | refine q rfl rfl (bld (cs := [.int _ _, .int _ _, .bool _]) rfl) ?_ | refine q rfl rfl (bld (cs := [_, _, _]) rfl) ?_
      refine e rfl ?_
      refine bx (v := .agg #[_, _, _]) (l := [.int _ _, .int _ _, .bool _]) rfl rfl ?_
      intro b4
      refine e0 ?_
      refine muF 3 70 rfl (KL.int rfl) rfl rfl rfl ?_
      refine TL.nil (nt ?_)
      refine TC.region ?_
      refine q rfl rfl (mv (v := .int _ _) rfl) ?_
      first | refine q rfl rfl (addI rfl rfl (by omega) (by omega)) ?_ | refine q rfl rfl (add rfl rfl rfl) ?_
      refine q rfl rfl (asg (v := .int _ _) rfl) ?_
      refine TL.nil (nb (nt ?_))
      refine TC.region ?_
      first | refine q rfl rfl (addI rfl rfl (by omega) (by omega)) ?_ | refine q rfl rfl (add rfl rfl rfl) ?_
      refine q rfl rfl (mv (v := .int _ _) rfl) ?_
      refine TL.nil (nt ?_)
      have hne : ∀ y ∈ Z.m.ids, y ≠ x := fun y hy e2 => hxi (e2 ▸ hy)
      have hP2 : (x :: Z.m.ids).Perm (joinS Z.m x).ids := by rw [hj]; exact (List.perm_append_singleton _ _).symm
      have hcN : ∀ y ∈ Z.m.ids, xP B Z y = xP (updI B x b4) { Z with m := joinS Z.m x, pr := updI Z.pr x 0, sl := updI Z.sl x 0, on := updI Z.on x false } y := fun y hy => by
        have h2 := hne y hy
        dsimp only [xP]; simp only [updI_ne h2]
      have hAx : pts b4 72 [.int .i64 0, .int .i64 0, .bool false] = xP (updI B x b4) { Z with m := joinS Z.m x, pr := updI Z.pr x 0, sl := updI Z.sl x 0, on := updI Z.on x false } x := by dsimp only [xP]; simp only [updI_same]
      have hMF : mapF QM.encI tb (updF (fM B Z.m.ids) x (.pointer (some ⟨b4, 0, none⟩))) (if ((fM B Z.m.ids) x).isSome then Z.m.ids.length else Z.m.ids.length + 1) = mapF QM.encI tb (fM (updI B x b4) (joinS Z.m x).ids) (joinS Z.m x).ids.length := by
        rw [hj, fM_add, hfx, List.length_append]; rfl
      exact ⟨rfl, (k + 1), (by omega), (by omega), ⟨rfl, congrArg (Value.int .i64) (by rw [hsn]; show _ = ((joinS Z.m x).ids.length : Int) - _; omega), rfl, rfl, rfl, trivial⟩, (by rw [hsn]; exact (ent_close (⟨qb, a, pb, tb, updI B x b4, M2, ad, cap⟩ : TRep) hN2 (ent_take 4 rfl (ent_take 4 rfl (ent_take 4 rfl (ent_take 2 rfl (ent_takeE 0 rfl (hMF) (ent_closeB 0 1 x rfl rfl hAx hcN hP2 (ent_take 1 rfl (ent_take 1 rfl (ent_nil _)))))))))))⟩
  · obtain rfl : k = xs.length := by omega
    rw [List.take_length]
    refine TC.exit (et (et (eb (nt ?_))))
    refine TC.seq ?_
    refine TC.region ?_
    refine q rfl rfl (mv (v := .int _ _) rfl) ?_
    refine q rfl rfl (asg (v := .int _ _) rfl) ?_
    refine TL.nil (nt ?_)
    refine TC.ret ?_
    exact Ret.i () [_] ⟨rfl, trivial⟩ rfl trivial (ent_take 0 rfl (ent_take 0 rfl (ent_nil _)))

set_option maxRecDepth 4000 in
theorem tadd_nil (ax : Option Addr) (cx : Nat) (x : Int) : FSpec Try.prog 11 [.pointer none, .slice ax 1 cx] (fun F => ∃ E, RdS F E ax (ints [x])) [] (fun _ : Unit => .int .i64 0) (fun _ => True) (fun _ => []) := by
  refine FSpec.intro (rs := [.tmp 4]) (by kernel_rfl) Try.func11 rfl Try.ntmps11 (by rfl) rfl ?_
  intro F ⟨E, hF⟩
  change TC _ _ _ _ _ _ _ (sepL [_])
  haveI : RdSI F ax E (ints [x]) := ⟨hF⟩
  refine TC.seq ?_
  refine TC.region ?_
  refine q rfl rfl (asg (v := .int _ _) rfl) ?_
  refine TL.nil (nt ?_)
  refine TC.seq ?_
  refine TC.region ?_
  refine q rfl rfl (asg (v := .int _ _) rfl) ?_
  refine TL.nil (nt ?_)
  refine TC.seq ?_
  refine TC.seq ?_
  refine TC.region ?_
  refine q rfl rfl (mv (v := .slice _ _ _) rfl) ?_
  refine q rfl rfl (len 3 1 rfl rfl) ?_
  refine q rfl rfl (mv (v := .int _ _) rfl) ?_
  refine TL.nil (nt ?_)
  refine TC.block ?_
  refine TC.loop (ι := Nat) (fun k => k ≤ 1) (fun k => [(0, .pointer none), (5, .int .i64 0), (8, .slice ax 1 cx), (9, .int .i64 1), (10, .int .i64 ((k : Nat) : Int))]) (fun k => sepL [F]) (fun k => 1 - k) 0 (by omega) ⟨rfl, rfl, rfl, rfl, rfl, trivial⟩ (ent_take 0 rfl (ent_nil _)) ?_
  rintro k hk ρ0
  dsimp only [updL] at hk ⊢
  refine TC.seq ?_
  refine TC.region ?_
  refine q rfl rfl (lss rfl rfl) ?_
  refine TL.nil (nt ?_)
  refine TC.seq ?_
  first | refine TC.condD rfl (fun hlt => ?_) (fun hlt => ?_) | refine TC.cond rfl (fun hlt => ?_) (fun hlt => ?_)
  · obtain rfl : k = 0 := by omega
    have hpos : 0 < (ints [x]).length := by simp [ints]
    refine TC.skip (nt ?_)
    refine TC.seq ?_
    refine TC.block ?_
    refine TC.seq ?_
    refine TC.region ?_
    first | refine q rfl rfl (ixS 3 1 rfl rfl rfl (by omega) (by first | assumption | (simp [ints_length] <;> omega))) ?_ | refine q rfl rfl (ixJ 3 1 rfl rfl rfl (by omega) (by omega) (by first | assumption | (simp [ints_length] <;> omega))) ?_ | refine q rfl rfl (ix 3 1 rfl rfl rfl (by omega) (by omega) rfl) ?_
    first | refine q rfl rfl (ld rfl rfl rfl) ?_ | refine q rfl rfl (ldS rfl rfl (ints_get (xs := [x]) (i := 0) rfl)) ?_ | refine q rfl rfl (ldS rfl rfl rfl) ?_
    refine q rfl rfl (asg (v := .int _ _) rfl) ?_
    refine TL.nil (nt ?_)
    refine TC.seq ?_
    refine TC.region ?_
    refine q rfl rfl (mv (v := .pointer _) rfl) ?_
    refine q rfl rfl (neNil rfl rfl rfl) ?_
    refine q rfl rfl (mv (v := .bool _) rfl) ?_
    refine qs rfl rfl ?_
    refine qs rfl rfl ?_
    refine qs rfl rfl ?_
    refine qs rfl rfl ?_
    refine qs rfl rfl ?_
    refine qs rfl rfl ?_
    refine qs rfl rfl ?_
    refine qs rfl rfl ?_
    first | refine q rfl rfl (pkT (v := .bool _) rfl rfl) ?_ | refine q rfl rfl (pkF (v := .bool _) rfl rfl) ?_
    refine TL.nil (nt ?_)
    refine TC.condF rfl ?_
    refine TC.skip (nb (nt ?_))
    refine TC.region ?_
    first | refine q rfl rfl (addI rfl rfl (by omega) (by omega)) ?_ | refine q rfl rfl (add rfl rfl rfl) ?_
    refine q rfl rfl (mv (v := .int _ _) rfl) ?_
    refine TL.nil (nt ?_)
    exact ⟨rfl, (0 + 1), (by omega), (by omega), ⟨rfl, rfl, rfl, rfl, rfl, trivial⟩, (ent_take 0 rfl (ent_nil _))⟩
  · refine TC.exit (et (et (eb (nt ?_))))
    refine TC.seq ?_
    refine TC.region ?_
    refine q rfl rfl (mv (v := .int _ _) rfl) ?_
    refine q rfl rfl (asg (v := .int _ _) rfl) ?_
    refine TL.nil (nt ?_)
    refine TC.ret ?_
    exact Ret.i () [_] ⟨rfl, trivial⟩ rfl trivial (ent_take 0 rfl (ent_nil _))

set_option maxRecDepth 4000 in
theorem tblock_ok (b : Nat) (T : TS) (hb : TB T) (hA : T.A.length ≤ 500000) (hS : T.S.length ≤ 1000000) (id ticks : Int) : FSpec Try.prog 41 [.pointer (some ⟨b, 0, none⟩), .int .i64 id, .int .i64 ticks] noRd [isT b T] (fun _ : Unit => .tuple #[]) (fun _ => True) (fun _ => [isT b (blockS T id ticks)]) := by
  refine FSpec.intro (rs := []) (by kernel_rfl) Try.func41 rfl Try.ntmps41 (by rfl) rfl ?_
  intro F _
  change TC _ _ _ _ _ _ _ (sepL [_, _])
  refine TC.open 0 rfl (fun x0 hx0 => ?_)
  obtain ⟨qb, a, pb, tb, B, M, ad, cap⟩ := x0
  have hN := hx0
  change TC _ _ _ _ _ _ _ (sepL [_, _, _, _, _, _, _, _])
  dsimp only at hN ⊢
  refine TC.seq ?_
  refine TC.region ?_
  refine q rfl rfl (mv (v := .pointer _) rfl) ?_
  first | refine q rfl rfl (nc rfl) ?_ | refine q rfl rfl (ncF rfl) ?_ | refine q rfl rfl (ncS rfl (by first | assumption | (simp [ints_length] <;> omega))) ?_
  first | refine q rfl rfl (fa 0 rfl rfl) ?_ | refine q rfl rfl (faS 0 rfl rfl (by first | assumption | (simp [ints_length] <;> omega))) ?_
  first | refine q rfl rfl (ld rfl rfl rfl) ?_ | refine q rfl rfl (ldS rfl rfl rfl) ?_
  refine q rfl rfl (mv (v := .int _ _) rfl) ?_
  refine e rfl ?_
  refine bs (cs := [.int _ _]) rfl ?_
  intro b5
  refine e rfl ?_
  refine cl (Rd.drop_ok qb T.S hS (some ⟨b5, 0, none⟩) _ [id] (by simp)) rfl PkL.p ⟨_, RdSI.rd (ad := some ⟨b5, 0, none⟩)⟩ ?_
  intro _ _
  change TL _ _ _ _ _ _ _ _ (sepL [_, _, _, _, _, _, _, _, _])
  refine TL.nil (nt ?_)
  refine TC.seq ?_
  refine TC.region ?_
  refine q rfl rfl (mv (v := .int _ _) rfl) ?_
  refine q rfl rfl (gtr rfl rfl) ?_
  refine TL.nil (nt ?_)
  first | refine TC.condD rfl (fun ht => ?_) (fun ht => ?_) | refine TC.cond rfl (fun ht => ?_) (fun ht => ?_)
  · have hv : blockS T id ticks = { T with S := Rd.dropS T.S [id], tn := (setA T.A T.now T.tn id ticks).2.1, A := (setA T.A T.now T.tn id ticks).1 } := if_pos ht
    rw [hv]
    refine TC.region ?_
    refine q rfl rfl (mv (v := .pointer _) rfl) ?_
    first | refine q rfl rfl (nc rfl) ?_ | refine q rfl rfl (ncF rfl) ?_ | refine q rfl rfl (ncS rfl (by first | assumption | (simp [ints_length] <;> omega))) ?_
    first | refine q rfl rfl (fa 1 rfl rfl) ?_ | refine q rfl rfl (faS 1 rfl rfl (by first | assumption | (simp [ints_length] <;> omega))) ?_
    first | refine q rfl rfl (ld rfl rfl rfl) ?_ | refine q rfl rfl (ldS rfl rfl rfl) ?_
    refine q rfl rfl (mv (v := .int _ _) rfl) ?_
    refine q rfl rfl (mv (v := .int _ _) rfl) ?_
    refine e rfl ?_
    refine cl (Al.set_ok a T.now T.tn T.A (al_bd hb hA) id ticks) rfl PkL.p trivial ?_
    intro _ _
    change TL _ _ _ _ _ _ _ _ (sepL [_, _, _, _, _, _, _, _, _])
    refine TL.nil ?_
    exact Ret.n () [] trivial rfl trivial (ent_close (⟨qb, a, pb, tb, B, M, ad, cap⟩ : TRep) hN (by repeat (first | exact ent_nil _ | refine ent_take 0 rfl ?_ | refine ent_take 1 rfl ?_ | refine ent_take 2 rfl ?_ | refine ent_take 3 rfl ?_ | refine ent_take 4 rfl ?_ | refine ent_take 5 rfl ?_ | refine ent_take 6 rfl ?_ | refine ent_take 7 rfl ?_ | refine ent_take 8 rfl ?_ | refine ent_take 9 rfl ?_ | refine ent_take 10 rfl ?_ | refine ent_take 11 rfl ?_ | refine ent_take 12 rfl ?_)))
  · have hv : blockS T id ticks = { T with S := Rd.dropS T.S [id] } := if_neg ht
    rw [hv]
    refine TC.skip ?_
    exact Ret.n () [] trivial rfl trivial (ent_close (⟨qb, a, pb, tb, B, M, ad, cap⟩ : TRep) hN (by repeat (first | exact ent_nil _ | refine ent_take 0 rfl ?_ | refine ent_take 1 rfl ?_ | refine ent_take 2 rfl ?_ | refine ent_take 3 rfl ?_ | refine ent_take 4 rfl ?_ | refine ent_take 5 rfl ?_ | refine ent_take 6 rfl ?_ | refine ent_take 7 rfl ?_ | refine ent_take 8 rfl ?_ | refine ent_take 9 rfl ?_ | refine ent_take 10 rfl ?_ | refine ent_take 11 rfl ?_ | refine ent_take 12 rfl ?_)))

set_option maxRecDepth 4000 in
theorem ttell_ok (b : Nat) (T : TS) (hb : TB T) (why : Int) (av : Option Addr) (cv : Nat) (l : List Int) (hl : ∀ x ∈ l, x ∈ T.m.ids) (hS : T.S.length + l.length ≤ 1000000) (hA : T.A.length ≤ 500000) : FSpec Try.prog 45 [.pointer (some ⟨b, 0, none⟩), .int .i64 why, .slice av l.length cv] (fun F => ∃ E, RdS F E av (ints l)) [isT b T] (fun _ : Unit => .tuple #[]) (fun _ => True) (fun _ => [isT b (tellS T why l)]) := by
  refine FSpec.intro (rs := []) (by kernel_rfl) Try.func45 rfl Try.ntmps45 (by rfl) rfl ?_
  intro F ⟨E, hF⟩
  change TC _ _ _ _ _ _ _ (sepL [_, _])
  haveI : RdSI F av E (ints l) := ⟨hF⟩
  have hxl := ints_length l
  refine TC.seq ?_
  refine TC.region ?_
  refine q rfl rfl (mv (v := .slice _ _ _) rfl) ?_
  refine q rfl rfl (len 3 1 rfl rfl) ?_
  refine q rfl rfl (mv (v := .int _ _) rfl) ?_
  refine TL.nil (nt ?_)
  refine TC.block ?_
  refine TC.loop (ι := Nat) (fun k => k ≤ l.length) (fun k => [(0, .pointer (some ⟨b, 0, none⟩)), (1, .int .i64 why), (9, .slice av l.length cv), (10, .int .i64 l.length), (11, .int .i64 ((k : Nat) : Int))]) (fun k => sepL [isT b (tellS T why (l.take k)), F]) (fun k => l.length - k) 0 (Nat.zero_le _) ⟨rfl, rfl, rfl, rfl, rfl, trivial⟩ (ent_take 0 rfl (ent_take 0 rfl (ent_nil _))) ?_
  rintro k hk ρ0
  dsimp only [updL] at hk ⊢
  refine TC.seq ?_
  refine TC.region ?_
  refine q rfl rfl (lss rfl rfl) ?_
  refine TL.nil (nt ?_)
  refine TC.seq ?_
  first | refine TC.condD rfl (fun hlt => ?_) (fun hlt => ?_) | refine TC.cond rfl (fun hlt => ?_) (fun hlt => ?_)
  · have hlt2 : k < l.length := by omega
    obtain ⟨x, hx⟩ : ∃ x, l[k]? = some x := ⟨l[k], List.getElem?_eq_getElem hlt2⟩
    have hpos : 0 < (ints l).length := by omega
    have hsn := tell_snoc T why l hx
    obtain ⟨e1, e2, e3, e4, e5, e6, e7⟩ := tell_m why (l.take k) T
    have hjt : (l.take k).length ≤ k := by rw [List.length_take]; omega
    obtain ⟨hl1, hl2⟩ := tell_len why (l.take k) T
    have hxi : x ∈ (tellS T why (l.take k)).m.ids := by rw [e1]; exact hl x (List.mem_of_getElem? hx)
    have hnow := hb.now
    have htn := hb.tn
    have htold := hb.told
    rw [← e2] at hnow
    rw [← e3] at htn
    have hzt : (tellS T why (l.take k)).told.length ≤ 200000000 := by omega
    have hzs : (tellS T why (l.take k)).S.length ≤ 1000000 := by omega
    have hza : (tellS T why (l.take k)).A.length ≤ 500000 := by omega
    clear e1 e2 e3 e4 e5 e6 e7 hl1 hl2
    generalize (tellS T why (l.take k)) = Z at hsn hxi hnow htn hzt hzs hza ⊢
    have htl := tgsC_length Z.told
    refine TC.open 0 rfl (fun x0 hx0 => ?_)
    obtain ⟨qb, a, pb, tb, B, M, ad, cap⟩ := x0
    have hN := hx0
    change TC _ _ _ _ _ _ _ (sepL [_, _, _, _, _, _, _, _])
    dsimp only at hN ⊢
    haveI := xP_rd (B := B) (T := Z) (x := x) hxi
    refine TC.skip (nt ?_)
    refine TC.seq ?_
    refine TC.block ?_
    refine TC.seq ?_
    refine TC.region ?_
    first | refine q rfl rfl (ixS 3 1 rfl rfl rfl (by omega) (by first | assumption | (simp [ints_length] <;> omega))) ?_ | refine q rfl rfl (ixJ 3 1 rfl rfl rfl (by omega) (by omega) (by first | assumption | (simp [ints_length] <;> omega))) ?_ | refine q rfl rfl (ix 3 1 rfl rfl rfl (by omega) (by omega) rfl) ?_
    first | refine q rfl rfl (ld rfl rfl rfl) ?_ | refine q rfl rfl (ldS rfl rfl (ints_get hx)) ?_ | refine q rfl rfl (ldS rfl rfl rfl) ?_
    refine q rfl rfl (asg (v := .int _ _) rfl) ?_
    refine TL.nil (nt ?_)
    refine TC.seq ?_
    refine TC.region ?_
    refine q rfl rfl (mv (v := .pointer _) rfl) ?_
    first | refine q rfl rfl (nc rfl) ?_ | refine q rfl rfl (ncF rfl) ?_ | refine q rfl rfl (ncS rfl (by first | assumption | (simp [ints_length] <;> omega))) ?_
    first | refine q rfl rfl (fa 3 rfl rfl) ?_ | refine q rfl rfl (faS 3 rfl rfl (by first | assumption | (simp [ints_length] <;> omega))) ?_
    first | refine q rfl rfl (ld rfl rfl rfl) ?_ | refine q rfl rfl (ldS rfl rfl (ints_get hx)) ?_ | refine q rfl rfl (ldS rfl rfl rfl) ?_
    refine q rfl rfl (mv (v := .int _ _) rfl) ?_
    refine q rfl rfl (luF 3 70 rfl rfl (KL.int rfl) rfl rfl) ?_
    rw [fM_yes hxi]
    refine q rfl rfl (asg (v := .pointer _) rfl) ?_
    refine TL.nil (nt ?_)
    refine TC.seq ?_
    refine TC.region ?_
    refine q rfl rfl (mv (v := .pointer _) rfl) ?_
    first | refine q rfl rfl (nc rfl) ?_ | refine q rfl rfl (ncF rfl) ?_ | refine q rfl rfl (ncS rfl (by first | assumption | (simp [ints_length] <;> omega))) ?_
    first | refine q rfl rfl (fa 1 rfl rfl) ?_ | refine q rfl rfl (faS 1 rfl rfl (by first | assumption | (simp [ints_length] <;> omega))) ?_
    first | refine q rfl rfl (ld rfl rfl rfl) ?_ | refine q rfl rfl (ldS rfl rfl (ints_get hx)) ?_ | refine q rfl rfl (ldS rfl rfl rfl) ?_
    refine q rfl rfl (mv (v := .int _ _) rfl) ?_
    refine e rfl ?_
    refine bs (cs := [.int _ _]) rfl ?_
    intro b6
    refine e rfl ?_
    refine cl (Al.clear_ok a Z.now Z.tn Z.A (by omega) (some ⟨b6, 0, none⟩) _ [x] (by simp)) rfl PkL.p ⟨_, RdSI.rd (ad := some ⟨b6, 0, none⟩)⟩ ?_
    intro _ _
    change TL _ _ _ _ _ _ _ _ (sepL [_, _, _, _, _, _, _, _, _])
    refine TL.weak (B := sepL [Al.isAl a Z.now Z.tn (clrA Z.A [x]), pts b 69 [.pointer (some ⟨qb, 0, none⟩), .pointer (some ⟨a, 0, none⟩), .pointer (some ⟨pb, 0, none⟩), .map (some tb), .slice ad Z.told.length cap], Rd.isQ qb Z.S, isMa pb M Z.m, mapF QM.encI tb (fM B Z.m.ids) Z.m.ids.length, bigS (xP B Z) Z.m.ids, slc 39 2 ad Z.told.length cap (tgsC Z.told), F]) (by repeat (first | exact ent_nil _ | refine ent_take 0 rfl ?_ | refine ent_take 1 rfl ?_ | refine ent_take 2 rfl ?_ | refine ent_take 3 rfl ?_ | refine ent_take 4 rfl ?_ | refine ent_take 5 rfl ?_ | refine ent_take 6 rfl ?_ | refine ent_take 7 rfl ?_ | refine ent_take 8 rfl ?_ | refine ent_take 9 rfl ?_ | refine ent_take 10 rfl ?_ | refine ent_take 11 rfl ?_ | refine ent_take 12 rfl ?_)) ?_
    refine TL.nil (nt ?_)
    refine TC.seq ?_
    refine TC.draw _ [] [(0, false), (1, false), (2, false), (3, false), (4, false), (5, false), (6, false), (7, false), (8, false), (9, false), (10, false), (11, false), (12, false), (13, true)] (by kernel_rfl) (by kernel_rfl) (ent_take 1 rfl (ent_take 4 rfl (ent_nil _))) ?_
    refine dq rfl rfl rfl (mv (v := .pointer _) rfl) ?_
    first | refine dq rfl rfl rfl (nc rfl) ?_ | refine dq rfl rfl rfl (ncF rfl) ?_ | refine dq rfl rfl rfl (ncS rfl (by first | assumption | (simp [ints_length] <;> omega))) ?_
    first | refine dq rfl rfl rfl (fa 0 rfl rfl) ?_ | refine dq rfl rfl rfl (faS 0 rfl rfl (by first | assumption | (simp [ints_length] <;> omega))) ?_
    first | refine dq rfl rfl rfl (ld rfl rfl rfl) ?_ | refine dq rfl rfl rfl (ldS rfl rfl (ints_get hx)) ?_ | refine dq rfl rfl rfl (ldS rfl rfl rfl) ?_
    refine dq rfl rfl rfl (mv (v := .int _ _) rfl) ?_
    refine dq rfl rfl rfl (mv (v := .pointer _) rfl) ?_
    first | refine dq rfl rfl rfl (nc rfl) ?_ | refine dq rfl rfl rfl (ncF rfl) ?_ | refine dq rfl rfl rfl (ncS rfl (by first | assumption | (simp [ints_length] <;> omega))) ?_
    first | refine dq rfl rfl rfl (fa 0 rfl rfl) ?_ | refine dq rfl rfl rfl (faS 0 rfl rfl (by first | assumption | (simp [ints_length] <;> omega))) ?_
    first | refine dq rfl rfl rfl (ld rfl rfl rfl) ?_ | refine dq rfl rfl rfl (ldS rfl rfl (ints_get hx)) ?_ | refine dq rfl rfl rfl (ldS rfl rfl rfl) ?_
    refine dq rfl rfl rfl (mv (v := .pointer _) rfl) ?_
    first | refine dq rfl rfl rfl (nc rfl) ?_ | refine dq rfl rfl rfl (ncF rfl) ?_ | refine dq rfl rfl rfl (ncS rfl (by first | assumption | (simp [ints_length] <;> omega))) ?_
    first | refine dq rfl rfl rfl (fa 1 rfl rfl) ?_ | refine dq rfl rfl rfl (faS 1 rfl rfl (by first | assumption | (simp [ints_length] <;> omega))) ?_
    first | refine dq rfl rfl rfl (ld rfl rfl rfl) ?_ | refine dq rfl rfl rfl (ldS rfl rfl (ints_get hx)) ?_ | refine dq rfl rfl rfl (ldS rfl rfl rfl) ?_
    refine de rfl rfl ?_
    refine cl (Rd.add_ok qb Z.S hzs x (Z.pr x) (Z.sl x)) rfl PkL.p trivial ?_
    intro _ _
    change ent _ _ ∧ TD _ _ _ _ _ _ _ _ _ _ (sepL [_, _, _, _, _, _, _, _])
    refine ⟨(by repeat (first | exact ent_nil _ | refine ent_take 0 rfl ?_ | refine ent_take 1 rfl ?_ | refine ent_take 2 rfl ?_ | refine ent_take 3 rfl ?_ | refine ent_take 4 rfl ?_ | refine ent_take 5 rfl ?_ | refine ent_take 6 rfl ?_ | refine ent_take 7 rfl ?_ | refine ent_take 8 rfl ?_ | refine ent_take 9 rfl ?_ | refine ent_take 10 rfl ?_ | refine ent_take 11 rfl ?_ | refine ent_take 12 rfl ?_)), ?_⟩
    refine TD.nil (nt ?_)
    refine TC.region ?_
    refine q rfl rfl (mv (v := .pointer _) rfl) ?_
    refine q rfl rfl (mv (v := .pointer _) rfl) ?_
    first | refine q rfl rfl (nc rfl) ?_ | refine q rfl rfl (ncF rfl) ?_ | refine q rfl rfl (ncS rfl (by first | assumption | (simp [ints_length] <;> omega))) ?_
    first | refine q rfl rfl (fa 4 rfl rfl) ?_ | refine q rfl rfl (faS 4 rfl rfl (by first | assumption | (simp [ints_length] <;> omega))) ?_
    first | refine q rfl rfl (ld rfl rfl rfl) ?_ | refine q rfl rfl (ldS rfl rfl (ints_get hx)) ?_ | refine q rfl rfl (ldS rfl rfl rfl) ?_
    refine q rfl rfl (mv (v := .int _ _) rfl) ?_
    refine q rfl rfl (mv (v := .int _ _) rfl) ?_
    first | refine q rfl rfl (bld (cs := [.int _ _, .int _ _]) rfl) ?_ | refine q rfl rfl (bld (cs := [_, _]) rfl) ?_
    refine e rfl ?_
    refine bs (cs := [.int _ _, .int _ _]) rfl ?_
    intro b7
    refine e rfl ?_
    refine ap 16 rfl rfl rfl rfl rfl (Nat.le_of_ble_eq_true rfl) (show _ = tgsC [⟨x, why⟩] from rfl) rfl (by omega) (by simp only [maxLen]; omega) ?_
    intro ad1 cap1
    first | refine q rfl rfl (nc rfl) ?_ | refine q rfl rfl (ncF rfl) ?_ | refine q rfl rfl (ncS rfl (by first | assumption | (simp [ints_length] <;> omega))) ?_
    first | refine q rfl rfl (fa 4 rfl rfl) ?_ | refine q rfl rfl (faS 4 rfl rfl (by first | assumption | (simp [ints_length] <;> omega))) ?_
    refine e0 ?_
    refine st (v := .slice _ _ _) (vs := [_]) 1 rfl rfl rfl rfl rfl rfl (Nat.le_of_ble_eq_true rfl) rfl ?_
    refine TL.nil (nb (nt ?_))
    refine TC.region ?_
    first | refine q rfl rfl (addI rfl rfl (by omega) (by omega)) ?_ | refine q rfl rfl (add rfl rfl rfl) ?_
    refine q rfl rfl (mv (v := .int _ _) rfl) ?_
    refine TL.nil (nt ?_)
    exact ⟨rfl, (k + 1), (by omega), (by omega), ⟨rfl, rfl, rfl, rfl, rfl, trivial⟩, (by rw [hsn]; exact (ent_close (⟨qb, a, pb, tb, B, M, ad1, cap1⟩ : TRep) hN (ent_takeE 0 rfl (by dsimp only [tell1]; rw [List.length_append]; rfl) (by (repeat (first | refine ent_take 0 rfl ?_ | refine ent_take 1 rfl ?_ | refine ent_take 2 rfl ?_ | refine ent_take 3 rfl ?_ | refine ent_take 4 rfl ?_ | refine ent_take 5 rfl ?_ | refine ent_take 6 rfl ?_ | refine ent_take 7 rfl ?_ | refine ent_take 8 rfl ?_ | refine ent_take 9 rfl ?_)); refine ent_takeE 0 rfl (by dsimp only [tell1]; rw [List.length_append, tgs_app]; rfl) ?_; exact (by repeat (first | exact ent_nil _ | refine ent_take 0 rfl ?_ | refine ent_take 1 rfl ?_ | refine ent_take 2 rfl ?_ | refine ent_take 3 rfl ?_ | refine ent_take 4 rfl ?_ | refine ent_take 5 rfl ?_ | refine ent_take 6 rfl ?_ | refine ent_take 7 rfl ?_ | refine ent_take 8 rfl ?_ | refine ent_take 9 rfl ?_ | refine ent_take 10 rfl ?_ | refine ent_take 11 rfl ?_ | refine ent_take 12 rfl ?_))))))⟩
  · obtain rfl : k = l.length := by omega
    rw [List.take_length]
    refine TC.exit (et (et (eb ?_)))
    exact Ret.n () [] trivial rfl trivial (ent_take 0 rfl (ent_take 0 rfl (ent_nil _)))

end Go.Proofs.Ytdfmfhcjnjfjbaa
