/-
  Proved here: what functions of this program compute, each as a contract over symbolic states, under the premises that each theorem names (most lines printed by a program of the prover).
-/
import Derived.Test.YtjnjijgplmmaiaaHandG
namespace Go.Proofs.Ytjnjijgplmmaiaa
open Go Go.QM
def refO (l : List Pl) : List Value := l.flatMap fun p => ints p.o.l
def refS (l : List Pl) : List Value := l.map fun p => .int .i64 p.st
def refA (l : List Pl) : List Value := l.map fun p => .int .i64 p.age
def refC (l : List Pl) : List Value := refO l ++ (refS l ++ refA l)
theorem obC_sz (p : Pl) : (ints p.o.l).length = 3 := rfl
theorem refO_length (l : List Pl) : (refO l).length = l.length * 3 := flat_length obC_sz l
theorem refS_length (l : List Pl) : (refS l).length = l.length := by simp [refS]
theorem refA_length (l : List Pl) : (refA l).length = l.length := by simp [refA]
theorem refC_length {l : List Pl} (h : l.length = 256) : (refC l).length = 1280 := by simp only [refC, List.length_append, refO_length, refS_length, refA_length, h]
theorem refC_o {l : List Pl} (hl : l.length = 256) {i : Nat} {p : Pl} (hi : l[i]? = some p) {o : Nat} (ho : o = i * 3) : ((refC l).drop o).take 3 = ints p.o.l := by
  subst ho
  have hlt := (List.getElem?_eq_some_iff.1 hi).1
  rw [refC, List.drop_append_of_le_length (by rw [refO_length]; omega), List.take_append_of_le_length (by rw [List.length_drop, refO_length]; omega)]
  exact flat_get_rec obC_sz hi
theorem refC_st {l : List Pl} (hl : l.length = 256) {i : Nat} {p : Pl} (hi : l[i]? = some p) {o : Nat} (ho : o = 768 + i) : (refC l)[o]? = some (.int .i64 p.st) := by
  subst ho
  have hlt := (List.getElem?_eq_some_iff.1 hi).1
  rw [refC, List.getElem?_append_right (by rw [refO_length]; omega), refO_length, hl, show 768 + i - 256 * 3 = i by omega, List.getElem?_append_left (by rw [refS_length]; omega), refS, List.getElem?_map, hi]
  rfl
theorem refC_age {l : List Pl} (hl : l.length = 256) {i : Nat} {p : Pl} (hi : l[i]? = some p) {o : Nat} (ho : o = 1024 + i) : (refC l)[o]? = some (.int .i64 p.age) := by
  subst ho
  have hlt := (List.getElem?_eq_some_iff.1 hi).1
  rw [refC, List.getElem?_append_right (by rw [refO_length]; omega), refO_length, hl, List.getElem?_append_right (by rw [refS_length]; omega), refS_length, hl, show 1024 + i - 256 * 3 - 256 = i by omega, refA, List.getElem?_map, hi]
  rfl
theorem splice_l {o : Nat} {vs a b : List Value} (h : o + vs.length ≤ a.length) : splice o vs (a ++ b) = splice o vs a ++ b := by
  rw [splice, splice, List.take_append_of_le_length (by omega), List.drop_append_of_le_length h, List.append_assoc, List.append_assoc, List.append_assoc]
theorem splice_r {o : Nat} {vs a b : List Value} : splice (a.length + o) vs (a ++ b) = a ++ splice o vs b := by
  rw [splice, splice, List.take_length_add_append, Nat.add_assoc, List.drop_length_add_append]
  simp [List.append_assoc]
theorem splice_one {i : Nat} {v : Value} {l : List Value} (h : i < l.length) : splice i [v] l = l.set i v := by
  rw [splice, List.set_eq_take_append_cons_drop, if_pos h]; simp
theorem map_set_same {α β : Type} {f : α → β} {l : List α} {i : Nat} {a b : α} (h : l[i]? = some a) (e : f b = f a) : (l.set i b).map f = l.map f := by
  rw [List.map_set, e]
  apply List.ext_getElem?
  intro j
  rw [List.getElem?_set]
  split
  · rename_i hij; subst hij
    rw [List.getElem?_map, h]
    have := (List.getElem?_eq_some_iff.1 h).1
    simp [this]
  · rfl
theorem refS_same {l : List Pl} {i : Nat} {a : Pl} (h : l[i]? = some a) (b : Pl) (e : b.st = a.st) : refS (l.set i b) = refS l :=
  map_set_same (f := fun p : Pl => Value.int .i64 p.st) h (by show Value.int .i64 b.st = .int .i64 a.st; rw [e])
theorem refA_same {l : List Pl} {i : Nat} {a : Pl} (h : l[i]? = some a) (b : Pl) (e : b.age = a.age) : refA (l.set i b) = refA l :=
  map_set_same (f := fun p : Pl => Value.int .i64 p.age) h (by show Value.int .i64 b.age = .int .i64 a.age; rw [e])
theorem refO_same {l : List Pl} {i : Nat} {a : Pl} (h : l[i]? = some a) (b : Pl) (e : b.o = a.o) : refO (l.set i b) = refO l := by
  have := map_set_same (f := fun p : Pl => ints p.o.l) (b := b) h (by show ints b.o.l = ints a.o.l; rw [e])
  rw [refO, refO, List.flatMap_def, this, List.flatMap_def]
theorem refC_setO {l : List Pl} (hl : l.length = 256) {i : Nat} {p : Pl} (hi : l[i]? = some p) (o : Ob) {k : Nat} (hk : k = i * 3) : splice k (ints o.l) (refC l) = refC (l.set i ⟨o, p.st, p.age⟩) := by
  subst hk
  have hlt := (List.getElem?_eq_some_iff.1 hi).1
  rw [refC, splice_l (by rw [refO_length]; show i * 3 + 3 ≤ _; omega), refC, refS_same hi ⟨o, p.st, p.age⟩ rfl, refA_same hi ⟨o, p.st, p.age⟩ rfl]
  congr 1
  exact flat_set (a' := ⟨o, p.st, p.age⟩) obC_sz hi 0 (by omega) (Nat.le_of_ble_eq_true rfl) rfl
theorem refC_setS {l : List Pl} (hl : l.length = 256) {i : Nat} {p : Pl} (hi : l[i]? = some p) (s : Int) {k : Nat} (hk : k = 768 + i) : splice k [.int .i64 s] (refC l) = refC (l.set i ⟨p.o, s, p.age⟩) := by
  have hlt := (List.getElem?_eq_some_iff.1 hi).1
  have e : k = (refO l).length + i := by rw [refO_length]; omega
  rw [e, refC, splice_r, splice_l (by rw [refS_length]; show i + 1 ≤ _; omega), splice_one (by rw [refS_length]; exact hlt), refC, refO_same hi ⟨p.o, s, p.age⟩ rfl, refA_same hi ⟨p.o, s, p.age⟩ rfl, refS, refS, List.map_set]
theorem refC_setA {l : List Pl} (hl : l.length = 256) {i : Nat} {p : Pl} (hi : l[i]? = some p) (g : Int) {k : Nat} (hk : k = 1024 + i) : splice k [.int .i64 g] (refC l) = refC (l.set i ⟨p.o, p.st, g⟩) := by
  have hlt := (List.getElem?_eq_some_iff.1 hi).1
  have e : k = (refO l).length + ((refS l).length + i) := by rw [refO_length, refS_length]; omega
  rw [e, refC, splice_r, splice_r, splice_one (by rw [refA_length]; exact hlt), refC, refO_same hi ⟨p.o, p.st, g⟩ rfl, refS_same hi ⟨p.o, p.st, g⟩ rfl, refA, refA, List.map_set]

def plR (l : List Pl) (h : Int) : Int := match l[(h % 256).toNat]? with
  | some p => if h / 256 = p.age then h % 256 else -1
  | none => -1

theorem rplace_ok (b : Nat) (l : List Pl) (h : Int) (ho : OkT l) (h0 : 0 ≤ h ∧ h ≤ 4294967295) : FSpec Try.prog 32 [.pointer (some ⟨b, 0, none⟩), .int .u32 h] (fun F => ∃ E, RdS F E (some ⟨b, 0, none⟩) (refC l)) [] (fun _ : Unit => .int .i64 (plR l h)) (fun _ => True) (fun _ => []) := by
  refine FSpec.intro (rs := [.tmp 4]) (by kernel_rfl) Try.func32 rfl Try.ntmps32 (by rfl) rfl ?_
  intro F ⟨E, hF⟩
  change TC _ _ _ _ _ _ _ (sepL [_])
  haveI : RdSI F (some ⟨b, 0, none⟩) E (refC l) := ⟨hF⟩
  have hln := ho.n
  have hrc := refC_length hln
  have hrp : 0 < (refC l).length := by omega
  obtain ⟨i, hi0⟩ : ∃ i : Nat, h % 256 = i := ⟨(h % 256).toNat, by omega⟩
  have hlt : i < 256 := by omega
  obtain ⟨p, hi, ha⟩ := ho.at hlt
  have hR : plR l h = if h / 256 = p.age then (i : Int) else -1 := by rw [plR, hi0, Int.toNat_natCast, hi]
  refine TC.seq ?_
  refine TC.region ?_
  refine q rfl rfl (asg (v := .int _ _) rfl) ?_
  refine TL.nil (nt ?_)
  refine TC.seq ?_
  refine TC.region ?_
  refine q rfl rfl (mv (v := .int _ _) rfl) ?_
  first | refine q rfl rfl (remI rfl rfl (by omega) (by omega)) ?_ | refine q rfl rfl (rem rfl rfl (by omega) rfl) ?_
  first | refine q rfl rfl (conv .u32 .i64 rfl rfl rfl (wi64 (by omega) (by omega))) ?_ | refine q rfl rfl (conv .u32 .i64 rfl rfl rfl rfl) ?_
  refine q rfl rfl (asg (v := .int _ _) rfl) ?_
  refine TL.nil (nt ?_)
  refine TC.seq ?_
  refine TC.seq ?_
  rw [hi0]
  refine TC.region ?_
  refine q rfl rfl (mv (v := .int _ _) rfl) ?_
  first | refine q rfl rfl (quoN rfl rfl (by omega) (by omega) (wu32 (by omega) (by omega))) ?_ | refine q rfl rfl (quoN rfl rfl (by omega) (by omega) rfl) ?_
  first | refine q rfl rfl (conv .u32 .i64 rfl rfl rfl (wi64 (by omega) (by omega))) ?_ | refine q rfl rfl (conv .u32 .i64 rfl rfl rfl rfl) ?_
  refine q rfl rfl (mv (v := .pointer _) rfl) ?_
  refine q rfl rfl (mv (v := .int _ _) rfl) ?_
  first | refine q rfl rfl (ncP rfl) ?_ | refine q rfl rfl (ncQ rfl) ?_
  refine q rfl rfl (faQ 1024 rfl rfl) ?_
  refine q rfl rfl (ixA 256 3 1 rfl rfl rfl (by omega) (by omega)) ?_
  first | refine q rfl rfl (ld rfl rfl rfl) ?_ | refine q rfl rfl (ldS rfl rfl (refC_age hln hi (by omega))) ?_ | refine q rfl rfl (ldS rfl rfl rfl) ?_
  refine q rfl rfl (neI rfl rfl) ?_
  refine TL.nil (nt ?_)
  first | refine TC.condD rfl (fun hne => ?_) (fun hne => ?_) | refine TC.cond rfl (fun hne => ?_) (fun hne => ?_)
  · refine TC.seq ?_
    refine TC.region ?_
    refine q rfl rfl (asg (v := .int _ _) rfl) ?_
    refine TL.nil (nt ?_)
    refine TC.ret (rt ?_)
    exact Ret.i () [_] ⟨rfl, trivial⟩ (by rw [hR, if_neg hne]; rfl) trivial (ent_take 0 rfl (ent_nil _))
  · refine TC.skip (nt ?_)
    refine TC.seq ?_
    refine TC.region ?_
    refine q rfl rfl (mv (v := .int _ _) rfl) ?_
    refine q rfl rfl (asg (v := .int _ _) rfl) ?_
    refine TL.nil (nt ?_)
    refine TC.ret ?_
    exact Ret.i () [_] ⟨rfl, trivial⟩ (by rw [hR, if_pos (Decidable.not_not.1 hne)]; rfl) trivial (ent_take 0 rfl (ent_nil _))

theorem plR_cases {l : List Pl} {h : Int} (ho : OkT l) (h0 : 0 ≤ h ∧ h ≤ 4294967295) : (plR l h = -1 ∧ ∀ st, lookL l h st = none) ∨ ∃ (i : Nat) (p : Pl), plR l h = i ∧ i < 256 ∧ l[i]? = some p ∧ 0 ≤ p.age ∧ p.age ≤ 1048575 ∧ ∀ st, lookL l h st = if p.st = st then some (i, p) else none := by
  obtain ⟨i, hi0⟩ : ∃ i : Nat, h % 256 = i := ⟨(h % 256).toNat, by omega⟩
  have hlt : i < 256 := by omega
  obtain ⟨p, hi, ha⟩ := ho.at hlt
  have hR : plR l h = if h / 256 = p.age then (i : Int) else -1 := by rw [plR, hi0, Int.toNat_natCast, hi]
  have hL : ∀ st, lookL l h st = if p.age * 256 + i = h ∧ p.st = st then some (i, p) else none := fun st => by rw [lookL, hi0, Int.toNat_natCast, hi]
  by_cases e : h / 256 = p.age
  · refine .inr ⟨i, p, by rw [hR, if_pos e], hlt, hi, ha.1, ha.2, fun st => ?_⟩
    rw [hL]
    by_cases hs : p.st = st
    · rw [if_pos ⟨by omega, hs⟩, if_pos hs]
    · rw [if_neg (fun h => hs h.2), if_neg hs]
  · refine .inl ⟨by rw [hR, if_neg e], fun st => ?_⟩
    rw [hL, if_neg (by omega)]

theorem rget_ok (b : Nat) (l : List Pl) (h : Int) (ho : OkT l) (h0 : 0 ≤ h ∧ h ≤ 4294967295) : FSpec Try.prog 23 [.pointer (some ⟨b, 0, none⟩), .int .u32 h] (fun F => ∃ E, RdS F E (some ⟨b, 0, none⟩) (refC l)) [] (fun _ : Unit => .tuple #[.agg (ints (getR l h).1.l).toArray, .int .i64 (getR l h).2]) (fun _ => True) (fun _ => []) := by
  refine FSpec.intro (rs := [.cell 4 32, .tmp 5]) (by kernel_rfl) Try.func23 rfl Try.ntmps23 (by rfl) rfl ?_
  intro F ⟨E, hF⟩
  change TC _ _ _ _ _ _ _ (sepL [_])
  haveI : RdSI F (some ⟨b, 0, none⟩) E (refC l) := ⟨hF⟩
  have hln := ho.n
  have hrc := refC_length hln
  have hrp : 0 < (refC l).length := by omega
  refine TC.seq ?_
  refine TC.region ?_
  refine e rfl ?_
  refine al (l := ints [_, _, _]) rfl rfl ?_
  intro b1
  refine q rfl rfl (asg (v := .int _ _) rfl) ?_
  refine TL.nil (nt ?_)
  refine TC.seq ?_
  refine TC.region ?_
  refine q rfl rfl (mv (v := .pointer _) rfl) ?_
  refine q rfl rfl (mv (v := .int _ _) rfl) ?_
  refine e rfl ?_
  refine cl (rplace_ok b l h ho h0) rfl (picked_nil _) ⟨_, RdSI.rd⟩ ?_
  intro _ _
  change TL _ _ _ _ _ _ _ _ (sepL [_, _])
  rcases plR_cases ho h0 with ⟨hp, hno⟩ | ⟨i, p, hp, hlt, hi, ha1, ha2, hlk⟩ <;> rw [hp]
  · refine q rfl rfl (asg (v := .int _ _) rfl) ?_
    refine TL.nil (nt ?_)
    refine TC.seq ?_
    refine TC.seq ?_
    refine TC.region ?_
    refine q rfl rfl (mv (v := .int _ _) rfl) ?_
    refine q rfl rfl (lss rfl rfl) ?_
    refine q rfl rfl (mv (v := .bool _) rfl) ?_
    refine TL.known 12 rfl (c := true) (by decide) ?_
    refine qs rfl rfl ?_
    refine qs rfl rfl ?_
    refine qs rfl rfl ?_
    refine qs rfl rfl ?_
    refine qs rfl rfl ?_
    refine qs rfl rfl ?_
    refine qs rfl rfl ?_
    first | refine q rfl rfl (pkT rfl rfl) ?_ | refine q rfl rfl (pkF rfl rfl) ?_
    refine TL.nil (nt ?_)
    refine TC.condT rfl ?_
    have hR : getR l h = (zeroOb, 8) := by rw [getR, hno]
    refine TC.seq ?_
    refine TC.region ?_
    first | refine q rfl rfl (bld (cs := ints [_, _, _]) rfl) ?_ | refine q rfl rfl (bld (cs := [_, _, _]) rfl) ?_
    refine e0 ?_
    refine st (v := .agg (List.toArray (ints [_, _, _]))) (vs := ints [_, _, _]) 3 rfl rfl rfl rfl rfl rfl (Nat.le_of_ble_eq_true rfl) rfl ?_
    refine q rfl rfl (asg (v := .int _ _) rfl) ?_
    refine TL.nil (nt ?_)
    refine TC.ret (rt ?_)
    exact Ret.i () [_, _] ⟨(rcN (n := 3) rfl rfl rfl rfl), rfl, trivial⟩ (by rw [hR]; rfl) trivial (ent_take 1 rfl (ent_nil _))
  · refine q rfl rfl (asg (v := .int _ _) rfl) ?_
    refine TL.nil (nt ?_)
    refine TC.seq ?_
    refine TC.seq ?_
    refine TC.region ?_
    refine q rfl rfl (mv (v := .int _ _) rfl) ?_
    refine q rfl rfl (lss rfl rfl) ?_
    refine q rfl rfl (mv (v := .bool _) rfl) ?_
    refine TL.known 12 rfl (c := false) (decide_eq_false (by omega)) ?_
    refine qg rfl rfl rfl (mv (v := .pointer _) rfl) ?_
    refine qg rfl rfl rfl (mv (v := .int _ _) rfl) ?_
    first | refine qg rfl rfl rfl (ncP rfl) ?_ | refine qg rfl rfl rfl (ncQ rfl) ?_
    refine qg rfl rfl rfl (faQ 768 rfl rfl) ?_
    refine qg rfl rfl rfl (ixA 256 3 1 rfl rfl rfl (by omega) (by omega)) ?_
    first | refine qg rfl rfl rfl (ld rfl rfl rfl) ?_ | refine qg rfl rfl rfl (ldS rfl rfl (refC_st hln hi (by omega))) ?_ | refine qg rfl rfl rfl (ldS rfl rfl (refC_age hln hi (by omega))) ?_ | refine qg rfl rfl rfl (ldS rfl rfl rfl) ?_
    refine qg rfl rfl rfl (neI rfl rfl) ?_
    first | refine q rfl rfl (pkT rfl rfl) ?_ | refine q rfl rfl (pkF rfl rfl) ?_
    refine TL.nil (nt ?_)
    first | refine TC.condD rfl (fun hst => ?_) (fun hst => ?_) | refine TC.cond rfl (fun hst => ?_) (fun hst => ?_)
    · have hR : getR l h = (zeroOb, 8) := by rw [getR, hlk, if_neg hst]
      refine TC.seq ?_
      refine TC.region ?_
      first | refine q rfl rfl (bld (cs := ints [_, _, _]) rfl) ?_ | refine q rfl rfl (bld (cs := [_, _, _]) rfl) ?_
      refine e0 ?_
      refine st (v := .agg (List.toArray (ints [_, _, _]))) (vs := ints [_, _, _]) 3 rfl rfl rfl rfl rfl rfl (Nat.le_of_ble_eq_true rfl) rfl ?_
      refine q rfl rfl (asg (v := .int _ _) rfl) ?_
      refine TL.nil (nt ?_)
      refine TC.ret (rt ?_)
      exact Ret.i () [_, _] ⟨(rcN (n := 3) rfl rfl rfl rfl), rfl, trivial⟩ (by rw [hR]; rfl) trivial (ent_take 1 rfl (ent_nil _))
    · have hR : getR l h = (p.o, 0) := by rw [getR, hlk, if_pos (Decidable.not_not.1 hst)]
      refine TC.skip (nt ?_)
      refine TC.seq ?_
      refine TC.region ?_
      refine q rfl rfl (mv (v := .pointer _) rfl) ?_
      refine q rfl rfl (mv (v := .int _ _) rfl) ?_
      first | refine q rfl rfl (ncP rfl) ?_ | refine q rfl rfl (ncQ rfl) ?_
      refine q rfl rfl (faQ 0 rfl rfl) ?_
      refine q rfl rfl (ixA 256 32 3 rfl rfl rfl (by omega) (by omega)) ?_
      first | refine q rfl rfl (ldN (vs := ints [_, _, _]) 3 rfl rfl rfl rfl) ?_ | refine q rfl rfl (ldSN (vs := ints [_, _, _]) 3 rfl rfl (refC_o hln hi (by omega)) rfl (by decide)) ?_ | refine q rfl rfl (ldSN (vs := ints [_, _, _]) 3 rfl rfl rfl rfl (by decide)) ?_
      refine e0 ?_
      refine st (v := .agg (List.toArray (ints [_, _, _]))) (vs := ints [_, _, _]) 3 rfl rfl rfl rfl rfl rfl (Nat.le_of_ble_eq_true rfl) rfl ?_
      refine q rfl rfl (asg (v := .int _ _) rfl) ?_
      refine TL.nil (nt ?_)
      refine TC.ret ?_
      exact Ret.i () [_, _] ⟨(rcN (n := 3) rfl rfl rfl rfl), rfl, trivial⟩ (by rw [hR]; rfl) trivial (ent_take 1 rfl (ent_nil _))

theorem rpeek_ok (b : Nat) (l : List Pl) (h : Int) (ho : OkT l) (h0 : 0 ≤ h ∧ h ≤ 4294967295) : FSpec Try.prog 24 [.pointer (some ⟨b, 0, none⟩), .int .u32 h] (fun F => ∃ E, RdS F E (some ⟨b, 0, none⟩) (refC l)) [] (fun _ : Unit => .tuple #[.agg (ints (peekR l h).1.l).toArray, .int .i64 (peekR l h).2]) (fun _ => True) (fun _ => []) := by
  refine FSpec.intro (rs := [.cell 4 32, .tmp 5]) (by kernel_rfl) Try.func24 rfl Try.ntmps24 (by rfl) rfl ?_
  intro F ⟨E, hF⟩
  change TC _ _ _ _ _ _ _ (sepL [_])
  haveI : RdSI F (some ⟨b, 0, none⟩) E (refC l) := ⟨hF⟩
  have hln := ho.n
  have hrc := refC_length hln
  have hrp : 0 < (refC l).length := by omega
  refine TC.seq ?_
  refine TC.region ?_
  refine e rfl ?_
  refine al (l := ints [_, _, _]) rfl rfl ?_
  intro b2
  refine q rfl rfl (asg (v := .int _ _) rfl) ?_
  refine TL.nil (nt ?_)
  refine TC.seq ?_
  refine TC.region ?_
  refine q rfl rfl (mv (v := .pointer _) rfl) ?_
  refine q rfl rfl (mv (v := .int _ _) rfl) ?_
  refine e rfl ?_
  refine cl (rplace_ok b l h ho h0) rfl (picked_nil _) ⟨_, RdSI.rd⟩ ?_
  intro _ _
  change TL _ _ _ _ _ _ _ _ (sepL [_, _])
  rcases plR_cases ho h0 with ⟨hp, hno⟩ | ⟨i, p, hp, hlt, hi, ha1, ha2, hlk⟩ <;> rw [hp]
  · refine q rfl rfl (asg (v := .int _ _) rfl) ?_
    refine TL.nil (nt ?_)
    refine TC.seq ?_
    refine TC.seq ?_
    refine TC.region ?_
    refine q rfl rfl (mv (v := .int _ _) rfl) ?_
    refine q rfl rfl (lss rfl rfl) ?_
    refine q rfl rfl (mv (v := .bool _) rfl) ?_
    refine TL.known 12 rfl (c := true) (by decide) ?_
    refine qs rfl rfl ?_
    refine qs rfl rfl ?_
    refine qs rfl rfl ?_
    refine qs rfl rfl ?_
    refine qs rfl rfl ?_
    refine qs rfl rfl ?_
    refine qs rfl rfl ?_
    refine qs rfl rfl ?_
    refine qsu rfl rfl ?_
    refine qsu rfl rfl ?_
    refine qsu rfl rfl ?_
    refine qsu rfl rfl ?_
    refine qsu rfl rfl ?_
    refine qsu rfl rfl ?_
    refine qsu rfl rfl ?_
    refine qs rfl rfl ?_
    first | refine q rfl rfl (pkT rfl rfl) ?_ | refine q rfl rfl (pkF rfl rfl) ?_
    refine TL.nil (nt ?_)
    refine TC.condT rfl ?_
    have hR : peekR l h = (zeroOb, 8) := by rw [peekR, hno]; simp only; rw [getR, hno]
    refine TC.seq ?_
    refine TC.region ?_
    first | refine q rfl rfl (bld (cs := ints [_, _, _]) rfl) ?_ | refine q rfl rfl (bld (cs := [_, _, _]) rfl) ?_
    refine e0 ?_
    refine st (v := .agg (List.toArray (ints [_, _, _]))) (vs := ints [_, _, _]) 3 rfl rfl rfl rfl rfl rfl (Nat.le_of_ble_eq_true rfl) rfl ?_
    refine q rfl rfl (asg (v := .int _ _) rfl) ?_
    refine TL.nil (nt ?_)
    refine TC.ret (rt ?_)
    exact Ret.i () [_, _] ⟨(rcN (n := 3) rfl rfl rfl rfl), rfl, trivial⟩ (by rw [hR]; rfl) trivial (ent_take 1 rfl (ent_nil _))
  · refine q rfl rfl (asg (v := .int _ _) rfl) ?_
    refine TL.nil (nt ?_)
    refine TC.seq ?_
    refine TC.seq ?_
    refine TC.region ?_
    refine q rfl rfl (mv (v := .int _ _) rfl) ?_
    refine q rfl rfl (lss rfl rfl) ?_
    refine q rfl rfl (mv (v := .bool _) rfl) ?_
    refine TL.known 12 rfl (c := false) (decide_eq_false (by omega)) ?_
    refine qg rfl rfl rfl (mv (v := .pointer _) rfl) ?_
    refine qg rfl rfl rfl (mv (v := .int _ _) rfl) ?_
    first | refine qg rfl rfl rfl (ncP rfl) ?_ | refine qg rfl rfl rfl (ncQ rfl) ?_
    refine qg rfl rfl rfl (faQ 768 rfl rfl) ?_
    refine qg rfl rfl rfl (ixA 256 3 1 rfl rfl rfl (by omega) (by omega)) ?_
    first | refine qg rfl rfl rfl (ld rfl rfl rfl) ?_ | refine qg rfl rfl rfl (ldS rfl rfl (refC_st hln hi (by omega))) ?_ | refine qg rfl rfl rfl (ldS rfl rfl (refC_age hln hi (by omega))) ?_ | refine qg rfl rfl rfl (ldS rfl rfl rfl) ?_
    refine qg rfl rfl rfl (neI rfl rfl) ?_
    refine qg rfl rfl rfl (mv (v := .bool _) rfl) ?_
    refine TL.split 20 rfl (fun hst => ?_) (fun hst => ?_)
    · have hst := of_decide_eq_true hst
      refine qg rfl rfl rfl (mv (v := .pointer _) rfl) ?_
      refine qg rfl rfl rfl (mv (v := .int _ _) rfl) ?_
      first | refine qg rfl rfl rfl (ncP rfl) ?_ | refine qg rfl rfl rfl (ncQ rfl) ?_
      refine qg rfl rfl rfl (faQ 768 rfl rfl) ?_
      refine qg rfl rfl rfl (ixA 256 3 1 rfl rfl rfl (by omega) (by omega)) ?_
      first | refine qg rfl rfl rfl (ld rfl rfl rfl) ?_ | refine qg rfl rfl rfl (ldS rfl rfl (refC_st hln hi (by omega))) ?_ | refine qg rfl rfl rfl (ldS rfl rfl (refC_age hln hi (by omega))) ?_ | refine qg rfl rfl rfl (ldS rfl rfl rfl) ?_
      refine qg rfl rfl rfl (neI rfl rfl) ?_
      first | refine qg rfl rfl rfl (pkT rfl rfl) ?_ | refine qg rfl rfl rfl (pkF rfl rfl) ?_
      first | refine q rfl rfl (pkT rfl rfl) ?_ | refine q rfl rfl (pkF rfl rfl) ?_
      refine TL.nil (nt ?_)
      first | refine TC.condD rfl (fun hs2 => ?_) (fun hs2 => ?_) | refine TC.cond rfl (fun hs2 => ?_) (fun hs2 => ?_)
      · have hR : peekR l h = (zeroOb, 8) := by rw [peekR, hlk, if_neg hs2]; simp only; rw [getR, hlk, if_neg hst]
        refine TC.seq ?_
        refine TC.region ?_
        first | refine q rfl rfl (bld (cs := ints [_, _, _]) rfl) ?_ | refine q rfl rfl (bld (cs := [_, _, _]) rfl) ?_
        refine e0 ?_
        refine st (v := .agg (List.toArray (ints [_, _, _]))) (vs := ints [_, _, _]) 3 rfl rfl rfl rfl rfl rfl (Nat.le_of_ble_eq_true rfl) rfl ?_
        refine q rfl rfl (asg (v := .int _ _) rfl) ?_
        refine TL.nil (nt ?_)
        refine TC.ret (rt ?_)
        exact Ret.i () [_, _] ⟨(rcN (n := 3) rfl rfl rfl rfl), rfl, trivial⟩ (by rw [hR]; rfl) trivial (ent_take 1 rfl (ent_nil _))
      · have hR : peekR l h = (p.o, 0) := by rw [peekR, hlk, if_pos (Decidable.not_not.1 hs2)]
        refine TC.skip (nt ?_)
        refine TC.seq ?_
        refine TC.region ?_
        refine q rfl rfl (mv (v := .pointer _) rfl) ?_
        refine q rfl rfl (mv (v := .int _ _) rfl) ?_
        first | refine q rfl rfl (ncP rfl) ?_ | refine q rfl rfl (ncQ rfl) ?_
        refine q rfl rfl (faQ 0 rfl rfl) ?_
        refine q rfl rfl (ixA 256 32 3 rfl rfl rfl (by omega) (by omega)) ?_
        first | refine q rfl rfl (ldN (vs := ints [_, _, _]) 3 rfl rfl rfl rfl) ?_ | refine q rfl rfl (ldSN (vs := ints [_, _, _]) 3 rfl rfl (refC_o hln hi (by omega)) rfl (by decide)) ?_ | refine q rfl rfl (ldSN (vs := ints [_, _, _]) 3 rfl rfl rfl rfl (by decide)) ?_
        refine e0 ?_
        refine st (v := .agg (List.toArray (ints [_, _, _]))) (vs := ints [_, _, _]) 3 rfl rfl rfl rfl rfl rfl (Nat.le_of_ble_eq_true rfl) rfl ?_
        refine q rfl rfl (asg (v := .int _ _) rfl) ?_
        refine TL.nil (nt ?_)
        refine TC.ret ?_
        exact Ret.i () [_, _] ⟨(rcN (n := 3) rfl rfl rfl rfl), rfl, trivial⟩ (by rw [hR]; rfl) trivial (ent_take 1 rfl (ent_nil _))
    · have hst := of_decide_eq_false hst
      have hs1 : p.st = 1 := Decidable.not_not.1 hst
      have hR : peekR l h = (p.o, 0) := by rw [peekR, hlk, if_neg (by omega)]; simp only; rw [getR, hlk, if_pos hs1]
      refine qs rfl rfl ?_
      refine qs rfl rfl ?_
      refine qs rfl rfl ?_
      refine qs rfl rfl ?_
      refine qs rfl rfl ?_
      refine qs rfl rfl ?_
      refine qs rfl rfl ?_
      first | refine qg rfl rfl rfl (pkT rfl rfl) ?_ | refine qg rfl rfl rfl (pkF rfl rfl) ?_
      first | refine q rfl rfl (pkT rfl rfl) ?_ | refine q rfl rfl (pkF rfl rfl) ?_
      refine TL.nil (nt ?_)
      refine TC.condF rfl ?_
      refine TC.skip (nt ?_)
      refine TC.seq ?_
      refine TC.region ?_
      refine q rfl rfl (mv (v := .pointer _) rfl) ?_
      refine q rfl rfl (mv (v := .int _ _) rfl) ?_
      first | refine q rfl rfl (ncP rfl) ?_ | refine q rfl rfl (ncQ rfl) ?_
      refine q rfl rfl (faQ 0 rfl rfl) ?_
      refine q rfl rfl (ixA 256 32 3 rfl rfl rfl (by omega) (by omega)) ?_
      first | refine q rfl rfl (ldN (vs := ints [_, _, _]) 3 rfl rfl rfl rfl) ?_ | refine q rfl rfl (ldSN (vs := ints [_, _, _]) 3 rfl rfl (refC_o hln hi (by omega)) rfl (by decide)) ?_ | refine q rfl rfl (ldSN (vs := ints [_, _, _]) 3 rfl rfl rfl rfl (by decide)) ?_
      refine e0 ?_
      refine st (v := .agg (List.toArray (ints [_, _, _]))) (vs := ints [_, _, _]) 3 rfl rfl rfl rfl rfl rfl (Nat.le_of_ble_eq_true rfl) rfl ?_
      refine q rfl rfl (asg (v := .int _ _) rfl) ?_
      refine TL.nil (nt ?_)
      refine TC.ret ?_
      exact Ret.i () [_, _] ⟨(rcN (n := 3) rfl rfl rfl rfl), rfl, trivial⟩ (by rw [hR]; rfl) trivial (ent_take 1 rfl (ent_nil _))

end Go.Proofs.Ytjnjijgplmmaiaa
