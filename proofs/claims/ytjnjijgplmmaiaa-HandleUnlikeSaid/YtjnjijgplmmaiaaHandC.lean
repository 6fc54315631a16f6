/-
  Proved here: what functions of this program compute, each as a contract over symbolic states, under the premises that each theorem names (most lines printed by a program of the prover).
-/
import Derived.Test.YtjnjijgplmmaiaaHandB
namespace Go.Proofs.Ytjnjijgplmmaiaa
open Go Go.QM
def isEmpty (p : Pl) : Bool := decide (p.st = 0)
def putR (l : List Pl) (o : Ob) : List Pl × Int × Int := match l.findIdx? isEmpty with
  | some i => match l[i]? with
    | some p => (l.set i ⟨o, 1, p.age⟩, p.age * 256 + i, 0)
    | none => (l, 0, 11)
  | none => (l, 0, 11)
theorem find_empty {l : List Pl} {i : Nat} (h : l.findIdx? isEmpty = some i) : ∃ p, l[i]? = some p ∧ p.st = 0 := by
  rw [List.findIdx?_eq_some_iff_getElem] at h
  obtain ⟨hl, hp, _⟩ := h
  exact ⟨l[i], List.getElem?_eq_getElem hl, by simpa [isEmpty] using hp⟩
theorem OkT.set {l : List Pl} (h : OkT l) (i : Nat) {p : Pl} (hp : 0 ≤ p.age ∧ p.age ≤ 1048575) : OkT (l.set i p) where
  n := by simp [h.n]
  age := fun q hq => by
    rcases List.mem_or_eq_of_mem_set hq with hq | rfl
    · exact h.age q hq
    · exact hp
theorem set_at {l : List Pl} {i : Nat} {p q : Pl} (h : l[i]? = some p) : (l.set i q)[i]? = some q := List.getElem?_set_self (List.getElem?_eq_some_iff.1 h).1
theorem OkT.lt {l : List Pl} (h : OkT l) {i : Nat} {p : Pl} (hi : l[i]? = some p) : i < 256 := by rw [← h.n]; exact (List.getElem?_eq_some_iff.1 hi).1

theorem put_ok (b : Nat) (l : List Pl) (o : Ob) (ho : OkT l) : FSpec Try.prog 9 [.pointer (some ⟨b, 0, none⟩), .agg (ints o.l).toArray] noRd [slc 63 5 (some ⟨b, 0, none⟩) 256 256 (tabC l)] (fun _ : Unit => .tuple #[.int .u32 (putR l o).2.1, .int .i64 (putR l o).2.2]) (fun _ => True) (fun _ => [slc 63 5 (some ⟨b, 0, none⟩) 256 256 (tabC (putR l o).1)]) := by
  refine FSpec.intro (rs := [.tmp 4, .tmp 5]) (by kernel_rfl) Try.func9 rfl Try.ntmps9 (by rfl) rfl ?_
  intro F _
  change TC _ _ _ _ _ _ _ (sepL [_, _])
  have hln := ho.n
  refine TC.seq ?_
  refine TC.region ?_
  refine e rfl ?_
  refine bx (v := .agg (List.toArray (ints [_, _, _]))) (l := ints [_, _, _]) rfl rfl ?_
  intro b1
  refine q rfl rfl (asg (v := .int _ _) rfl) ?_
  refine q rfl rfl (asg (v := .int _ _) rfl) ?_
  refine TL.nil (nt ?_)
  refine TC.seq ?_
  refine TC.seq ?_
  refine TC.region ?_
  refine q rfl rfl (mv (v := .pointer _) rfl) ?_
  refine q rfl rfl (eqNil rfl rfl rfl) ?_
  refine TL.nil (nt ?_)
  refine TC.condF rfl ?_
  refine TC.skip (nt ?_)
  refine TC.seq ?_
  refine TC.region ?_
  refine q rfl rfl (mv (v := .pointer _) rfl) ?_
  first | refine q rfl rfl (ncP rfl) ?_ | refine q rfl rfl (ncQ rfl) ?_
  refine q rfl rfl (faQ 0 rfl rfl) ?_
  refine q rfl rfl (slA 256 60 5 rfl rfl (by rfl)) ?_
  refine e rfl ?_
  refine cl (indexFunc_ok (some ⟨b, 0, none⟩) 256 l 28 [] isEmpty noRd (by omega) (fun t => put1_ok t)) (by rw [hln]; rfl) (picked_nil _) ⟨⟨_, RdSI.rd⟩, trivial⟩ ?_
  intro _ _
  change TL _ _ _ _ _ _ _ _ (sepL [_, _, _])
  cases hf : l.findIdx? isEmpty with
  | none => ?_
  | some i => ?_
  · have hR : putR l o = (l, 0, 11) := by rw [putR, hf]
    rw [hR]
    dsimp only
    refine q rfl rfl (asg (v := .int _ _) rfl) ?_
    refine TL.nil (nt ?_)
    refine TC.seq ?_
    refine TC.seq ?_
    refine TC.region ?_
    refine q rfl rfl (mv (v := .int _ _) rfl) ?_
    refine q rfl rfl (lss rfl rfl) ?_
    refine TL.nil (nt ?_)
    refine TC.condD rfl (fun hc1 => ?_) (fun hc1 => absurd (by decide) hc1)
    refine TC.seq ?_
    refine TC.region ?_
    refine q rfl rfl (asg (v := .int _ _) rfl) ?_
    refine q rfl rfl (asg (v := .int _ _) rfl) ?_
    refine TL.nil (nt ?_)
    refine TC.ret (rt ?_)
    exact Ret.i () [_, _] ⟨rfl, rfl, trivial⟩ rfl trivial (ent_take 1 rfl (ent_take 1 rfl (ent_nil _)))
  · obtain ⟨p, hi, hst⟩ := find_empty hf
    have hlt := ho.lt hi
    have ha := ho.age p (List.mem_of_getElem? hi)
    have hR : putR l o = (l.set i ⟨o, 1, p.age⟩, p.age * 256 + i, 0) := by rw [putR, hf]; simp only; rw [hi]
    rw [hR]
    dsimp only
    have hi2 := set_at (q := ⟨o, p.st, p.age⟩) hi
    have hi3 := set_at (q := ⟨o, 1, p.age⟩) hi
    refine q rfl rfl (asg (v := .int _ _) rfl) ?_
    refine TL.nil (nt ?_)
    refine TC.seq ?_
    refine TC.seq ?_
    refine TC.region ?_
    refine q rfl rfl (mv (v := .int _ _) rfl) ?_
    refine q rfl rfl (lss rfl rfl) ?_
    refine TL.nil (nt ?_)
    refine TC.condD rfl (fun hc2 => absurd hc2 (by omega)) (fun hc2 => ?_)
    refine TC.skip (nt ?_)
    refine TC.seq ?_
    refine TC.draw _ [] [(0, false), (1, false), (2, false), (3, false), (4, false), (5, false), (6, false), (7, false), (8, false), (10, false), (11, false), (9, true), (12, false), (13, false), (14, true)] (by kernel_rfl) (by kernel_rfl) (ent_take 0 rfl (ent_take 1 rfl (ent_nil _))) ?_
    refine dq rfl rfl rfl (mv (v := .pointer _) rfl) ?_
    refine dq rfl rfl rfl (mv (v := .int _ _) rfl) ?_
    refine dq rfl rfl rfl (mv (v := .pointer _) rfl) ?_
    refine dq rfl rfl rfl (mv (v := .int _ _) rfl) ?_
    first | refine dq rfl rfl rfl (ldN (vs := ints [_, _, _]) 3 rfl rfl rfl rfl) ?_ | refine dq rfl rfl rfl (ldSN (vs := ints [_, _, _]) 3 rfl rfl rfl rfl (by decide)) ?_
    first | refine dq rfl rfl rfl (ncP rfl) ?_ | refine dq rfl rfl rfl (ncQ rfl) ?_
    refine dq rfl rfl rfl (faQ 0 rfl rfl) ?_
    refine dq rfl rfl rfl (ixA 256 60 5 rfl rfl rfl (by omega) (by omega)) ?_
    refine dq rfl rfl rfl (faQ 0 rfl rfl) ?_
    first | refine dq rfl rfl rfl (ncP rfl) ?_ | refine dq rfl rfl rfl (ncQ rfl) ?_
    refine dq rfl rfl rfl (faQ 0 rfl rfl) ?_
    refine de0 rfl ?_
    first | refine st (v := .agg (List.toArray (ints [_, _, _]))) (vs := ints [_, _, _]) 3 rfl rfl rfl rfl rfl rfl (Nat.le_of_ble_eq_true rfl) rfl ?_ | refine stS (v := .agg (List.toArray (ints [_, _, _]))) (vs := ints [_, _, _]) 3 rfl rfl rfl rfl rfl rfl (by decide) (by rw [flat_length placeC_sz]; omega) (flat_set (a' := ⟨o, p.st, p.age⟩) placeC_sz hi 0 (by omega) (Nat.le_of_ble_eq_true rfl) rfl) ?_ | refine stS (v := .agg (List.toArray (ints [_, _, _]))) (vs := ints [_, _, _]) 3 rfl rfl rfl rfl rfl rfl (by decide) (by rw [flat_length placeC_sz, List.length_set]; omega) (flat_set (a' := ⟨o, 1, p.age⟩) placeC_sz hi2 3 (by omega) (Nat.le_of_ble_eq_true rfl) rfl) ?_
    refine ⟨(by repeat (first | exact ent_nil _ | refine ent_take 0 rfl ?_ | refine ent_take 1 rfl ?_ | refine ent_take 2 rfl ?_ | refine ent_take 3 rfl ?_ | refine ent_take 4 rfl ?_ | refine ent_take 5 rfl ?_ | refine ent_take 6 rfl ?_ | refine ent_take 7 rfl ?_)), ?_⟩
    refine dq rfl rfl rfl (ixA 256 60 5 rfl rfl rfl (by omega) (by omega)) ?_
    refine dq rfl rfl rfl (faQ 3 rfl rfl) ?_
    refine de0 rfl ?_
    first | refine st (v := .int _ _) (vs := [_]) 1 rfl rfl rfl rfl rfl rfl (Nat.le_of_ble_eq_true rfl) rfl ?_ | refine stS (v := .int _ _) (vs := [_]) 1 rfl rfl rfl rfl rfl rfl (by decide) (by rw [flat_length placeC_sz]; omega) (flat_set (a' := ⟨o, p.st, p.age⟩) placeC_sz hi 0 (by omega) (Nat.le_of_ble_eq_true rfl) rfl) ?_ | refine stS (v := .int _ _) (vs := [_]) 1 rfl rfl rfl rfl rfl rfl (by decide) (by rw [flat_length placeC_sz, List.length_set]; omega) (flat_set (a' := ⟨o, 1, p.age⟩) placeC_sz hi2 3 (by omega) (Nat.le_of_ble_eq_true rfl) rfl) ?_
    refine ⟨(by repeat (first | exact ent_nil _ | refine ent_take 0 rfl ?_ | refine ent_take 1 rfl ?_ | refine ent_take 2 rfl ?_ | refine ent_take 3 rfl ?_ | refine ent_take 4 rfl ?_ | refine ent_take 5 rfl ?_ | refine ent_take 6 rfl ?_ | refine ent_take 7 rfl ?_)), ?_⟩
    refine TD.nil (nt ?_)
    refine TC.seq ?_
    refine TC.region ?_
    refine q rfl rfl (mv (v := .pointer _) rfl) ?_
    refine q rfl rfl (mv (v := .int _ _) rfl) ?_
    refine e rfl ?_
    refine cl (name_ok b (l.set i ⟨o, 1, p.age⟩) i ⟨o, 1, p.age⟩ hi3 hlt (by dsimp only; omega)) rfl (picked_nil _) (by rw [List.set_set]; exact ⟨_, RdSI.rd⟩) ?_
    intro _ _
    change TL _ _ _ _ _ _ _ _ (sepL [_, _, _])
    refine q rfl rfl (asg (v := .int _ _) rfl) ?_
    refine q rfl rfl (asg (v := .int _ _) rfl) ?_
    refine TL.nil (nt ?_)
    refine TC.ret ?_
    exact Ret.i () [_, _] ⟨rfl, rfl, trivial⟩ rfl trivial (ent_takeE 0 rfl (by rw [List.set_set]; rfl) (ent_take 1 rfl (ent_nil _)))

theorem put_nil (o : Ob) : FSpec Try.prog 9 [.pointer none, .agg (ints o.l).toArray] noRd [] (fun _ : Unit => .tuple #[.int .u32 0, .int .i64 1]) (fun _ => True) (fun _ => []) := by
  refine FSpec.intro (rs := [.tmp 4, .tmp 5]) (by kernel_rfl) Try.func9 rfl Try.ntmps9 (by rfl) rfl ?_
  intro F _
  change TC _ _ _ _ _ _ _ (sepL [_])
  refine TC.seq ?_
  refine TC.region ?_
  refine e rfl ?_
  refine bx (v := .agg (List.toArray (ints [_, _, _]))) (l := ints [_, _, _]) rfl rfl ?_
  intro b2
  refine q rfl rfl (asg (v := .int _ _) rfl) ?_
  refine q rfl rfl (asg (v := .int _ _) rfl) ?_
  refine TL.nil (nt ?_)
  refine TC.seq ?_
  refine TC.seq ?_
  refine TC.region ?_
  refine q rfl rfl (mv (v := .pointer _) rfl) ?_
  refine q rfl rfl (eqNil rfl rfl rfl) ?_
  refine TL.nil (nt ?_)
  refine TC.condT rfl ?_
  refine TC.seq ?_
  refine TC.region ?_
  refine q rfl rfl (asg (v := .int _ _) rfl) ?_
  refine q rfl rfl (asg (v := .int _ _) rfl) ?_
  refine TL.nil (nt ?_)
  refine TC.ret (rt ?_)
  exact Ret.i () [_, _] ⟨rfl, rfl, trivial⟩ rfl trivial (ent_take 1 rfl (ent_nil _))

def killR (l : List Pl) (h : Int) : List Pl × Int := match lookL l h 1 with
  | some (i, p) => (l.set i ⟨p.o, 2, p.age⟩, 0)
  | none => (l, 8)

theorem kill_ok (b : Nat) (l : List Pl) (h : Int) (ho : OkT l) (h0 : 0 ≤ h ∧ h ≤ 4294967295) : FSpec Try.prog 11 [.pointer (some ⟨b, 0, none⟩), .int .u32 h] noRd [slc 63 5 (some ⟨b, 0, none⟩) 256 256 (tabC l)] (fun _ : Unit => .int .i64 (killR l h).2) (fun _ => True) (fun _ => [slc 63 5 (some ⟨b, 0, none⟩) 256 256 (tabC (killR l h).1)]) := by
  refine FSpec.intro (rs := [.tmp 4]) (by kernel_rfl) Try.func11 rfl Try.ntmps11 (by rfl) rfl ?_
  intro F _
  change TC _ _ _ _ _ _ _ (sepL [_, _])
  refine TC.seq ?_
  refine TC.region ?_
  refine q rfl rfl (asg (v := .int _ _) rfl) ?_
  refine TL.nil (nt ?_)
  refine TC.seq ?_
  refine TC.region ?_
  refine q rfl rfl (mv (v := .pointer _) rfl) ?_
  refine q rfl rfl (mv (v := .int _ _) rfl) ?_
  cases hk : lookL l h 1 with
  | none => ?_
  | some t => ?_
  · have hR : killR l h = (l, 8) := by rw [killR, hk]
    refine e rfl ?_
    refine cl (at_no b l h 1 ho h0 hk) rfl (picked_nil _) ⟨_, RdSI.rd⟩ ?_
    intro _ _
    change TL _ _ _ _ _ _ _ _ (sepL [_, _])
    rw [hR]
    dsimp only
    refine q rfl rfl (mv (v := .tuple _) rfl) ?_
    refine q rfl rfl (pu (v := .pointer _) (fun _ => rfl)) ?_
    refine q rfl rfl (pu (v := .int _ _) (fun _ => rfl)) ?_
    refine q rfl rfl (asg (v := .pointer _) rfl) ?_
    refine q rfl rfl (asg (v := .int _ _) rfl) ?_
    refine TL.nil (nt ?_)
    refine TC.seq ?_
    refine TC.seq ?_
    refine TC.region ?_
    refine q rfl rfl (mv (v := .int _ _) rfl) ?_
    refine q rfl rfl (eqI rfl rfl) ?_
    refine TL.nil (nt ?_)
    refine TC.condD rfl (fun hc3 => absurd hc3 (by decide)) (fun hc3 => ?_)
    refine TC.skip (nt ?_)
    refine TC.seq ?_
    refine TC.region ?_
    refine q rfl rfl (mv (v := .int _ _) rfl) ?_
    refine q rfl rfl (asg (v := .int _ _) rfl) ?_
    refine TL.nil (nt ?_)
    refine TC.ret ?_
    exact Ret.i () [_] ⟨rfl, trivial⟩ rfl trivial (ent_take 0 rfl (ent_take 0 rfl (ent_nil _)))
  · obtain ⟨i, p⟩ := t
    obtain ⟨hi, hh, hlt, hst⟩ := lookL_some h0.1 hk
    have hR : killR l h = (l.set i ⟨p.o, 2, p.age⟩, 0) := by rw [killR, hk]
    have ha := ho.age p (List.mem_of_getElem? hi)
    have hln := ho.n
    refine e rfl ?_
    refine cl (at_yes b l i p h 1 ho h0.1 hk) rfl (picked_nil _) ⟨_, RdSI.rd⟩ ?_
    intro _ _
    change TL _ _ _ _ _ _ _ _ (sepL [_, _])
    rw [hR]
    dsimp only
    refine q rfl rfl (mv (v := .tuple _) rfl) ?_
    refine q rfl rfl (pu (v := .pointer _) (fun _ => rfl)) ?_
    refine q rfl rfl (pu (v := .int _ _) (fun _ => rfl)) ?_
    refine q rfl rfl (asg (v := .pointer _) rfl) ?_
    refine q rfl rfl (asg (v := .int _ _) rfl) ?_
    refine TL.nil (nt ?_)
    refine TC.seq ?_
    refine TC.seq ?_
    refine TC.region ?_
    refine q rfl rfl (mv (v := .int _ _) rfl) ?_
    refine q rfl rfl (eqI rfl rfl) ?_
    refine TL.nil (nt ?_)
    refine TC.condD rfl (fun hc4 => ?_) (fun hc4 => absurd (by decide) hc4)
    refine TC.region ?_
    refine q rfl rfl (mv (v := .pointer _) rfl) ?_
    refine q rfl rfl (ncQ rfl) ?_
    refine q rfl rfl (faQ 3 rfl rfl) ?_
    refine e0 ?_
    first | refine st (v := .int _ _) (vs := [_]) 1 rfl rfl rfl rfl rfl rfl (Nat.le_of_ble_eq_true rfl) rfl ?_ | refine stS (v := .int _ _) (vs := [_]) 1 rfl rfl rfl rfl rfl rfl (by decide) (by rw [flat_length placeC_sz]; omega) (flat_set (a' := ⟨p.o, 2, p.age⟩) placeC_sz hi 3 (by omega) (Nat.le_of_ble_eq_true rfl) rfl) ?_
    refine TL.nil (nt ?_)
    refine TC.seq ?_
    refine TC.region ?_
    refine q rfl rfl (mv (v := .int _ _) rfl) ?_
    refine q rfl rfl (asg (v := .int _ _) rfl) ?_
    refine TL.nil (nt ?_)
    refine TC.ret ?_
    exact Ret.i () [_] ⟨rfl, trivial⟩ rfl trivial (ent_take 0 rfl (ent_take 0 rfl (ent_nil _)))

theorem kill_nil (h : Int) : FSpec Try.prog 11 [.pointer none, .int .u32 h] noRd [] (fun _ : Unit => .int .i64 1) (fun _ => True) (fun _ => []) := by
  refine FSpec.intro (rs := [.tmp 4]) (by kernel_rfl) Try.func11 rfl Try.ntmps11 (by rfl) rfl ?_
  intro F _
  change TC _ _ _ _ _ _ _ (sepL [_])
  refine TC.seq ?_
  refine TC.region ?_
  refine q rfl rfl (asg (v := .int _ _) rfl) ?_
  refine TL.nil (nt ?_)
  refine TC.seq ?_
  refine TC.region ?_
  refine q rfl rfl (mv (v := .pointer _) rfl) ?_
  refine q rfl rfl (mv (v := .int _ _) rfl) ?_
  refine e rfl ?_
  refine cl (at_nil _ _) rfl (picked_nil _) trivial ?_
  intro _ _
  change TL _ _ _ _ _ _ _ _ (sepL [_])
  refine q rfl rfl (mv (v := .tuple _) rfl) ?_
  refine q rfl rfl (pu (v := .pointer _) (fun _ => rfl)) ?_
  refine q rfl rfl (pu (v := .int _ _) (fun _ => rfl)) ?_
  refine q rfl rfl (asg (v := .pointer _) rfl) ?_
  refine q rfl rfl (asg (v := .int _ _) rfl) ?_
  refine TL.nil (nt ?_)
  refine TC.seq ?_
  refine TC.seq ?_
  refine TC.region ?_
  refine q rfl rfl (mv (v := .int _ _) rfl) ?_
  refine q rfl rfl (eqI rfl rfl) ?_
  refine TL.nil (nt ?_)
  refine TC.condD rfl (fun hc5 => absurd hc5 (by decide)) (fun hc5 => ?_)
  refine TC.skip (nt ?_)
  refine TC.seq ?_
  refine TC.region ?_
  refine q rfl rfl (mv (v := .int _ _) rfl) ?_
  refine q rfl rfl (asg (v := .int _ _) rfl) ?_
  refine TL.nil (nt ?_)
  refine TC.ret ?_
  exact Ret.i () [_] ⟨rfl, trivial⟩ rfl trivial (ent_take 0 rfl (ent_nil _))

def freeP (p : Pl) : Pl := if 1048575 < p.age + 1 then ⟨zeroOb, 3, 1048575⟩ else ⟨zeroOb, 0, p.age + 1⟩
def freeR (l : List Pl) (h : Int) : List Pl × Ob × Int := match lookL l h 2 with
  | some (i, p) => (l.set i (freeP p), p.o, 0)
  | none => (l, zeroOb, 8)

theorem free_ok (b : Nat) (l : List Pl) (h : Int) (ho : OkT l) (h0 : 0 ≤ h ∧ h ≤ 4294967295) : FSpec Try.prog 12 [.pointer (some ⟨b, 0, none⟩), .int .u32 h] noRd [slc 63 5 (some ⟨b, 0, none⟩) 256 256 (tabC l)] (fun _ : Unit => .tuple #[.agg (ints (freeR l h).2.1.l).toArray, .int .i64 (freeR l h).2.2]) (fun _ => True) (fun _ => [slc 63 5 (some ⟨b, 0, none⟩) 256 256 (tabC (freeR l h).1)]) := by
  refine FSpec.intro (rs := [.cell 4 32, .tmp 5]) (by kernel_rfl) Try.func12 rfl Try.ntmps12 (by rfl) rfl ?_
  intro F _
  change TC _ _ _ _ _ _ _ (sepL [_, _])
  refine TC.seq ?_
  refine TC.region ?_
  refine e rfl ?_
  refine al (l := ints [_, _, _]) rfl rfl ?_
  intro b3
  refine q rfl rfl (asg (v := .int _ _) rfl) ?_
  refine TL.nil (nt ?_)
  refine TC.seq ?_
  refine TC.region ?_
  refine q rfl rfl (mv (v := .pointer _) rfl) ?_
  refine q rfl rfl (mv (v := .int _ _) rfl) ?_
  cases hk : lookL l h 2 with
  | none => ?_
  | some t => ?_
  · have hR : freeR l h = (l, zeroOb, 8) := by rw [freeR, hk]
    refine e rfl ?_
    refine cl (at_no b l h 2 ho h0 hk) rfl (picked_nil _) ⟨_, RdSI.rd⟩ ?_
    intro _ _
    change TL _ _ _ _ _ _ _ _ (sepL [_, _, _])
    rw [hR]
    dsimp only
    refine q rfl rfl (mv (v := .tuple _) rfl) ?_
    refine q rfl rfl (pu (v := .pointer _) (fun _ => rfl)) ?_
    refine q rfl rfl (pu (v := .int _ _) (fun _ => rfl)) ?_
    refine q rfl rfl (asg (v := .pointer _) rfl) ?_
    refine q rfl rfl (asg (v := .int _ _) rfl) ?_
    refine TL.nil (nt ?_)
    refine TC.seq ?_
    refine TC.seq ?_
    refine TC.region ?_
    refine q rfl rfl (mv (v := .int _ _) rfl) ?_
    refine q rfl rfl (neI rfl rfl) ?_
    refine TL.nil (nt ?_)
    refine TC.condD rfl (fun hc6 => ?_) (fun hc6 => absurd (by decide) hc6)
    refine TC.seq ?_
    refine TC.region ?_
    first | refine q rfl rfl (bld (cs := ints [_, _, _]) rfl) ?_ | refine q rfl rfl (bld (cs := [_, _, _]) rfl) ?_
    refine q rfl rfl (mv (v := .int _ _) rfl) ?_
    refine e0 ?_
    refine st (v := .agg (List.toArray (ints [_, _, _]))) (vs := ints [_, _, _]) 3 rfl rfl rfl rfl rfl rfl (Nat.le_of_ble_eq_true rfl) rfl ?_
    refine q rfl rfl (asg (v := .int _ _) rfl) ?_
    refine TL.nil (nt ?_)
    refine TC.ret (rt ?_)
    exact Ret.i () [_, _] ⟨(rcN (n := 3) rfl rfl rfl rfl), rfl, trivial⟩ rfl trivial (ent_take 1 rfl (ent_take 1 rfl (ent_nil _)))
  · obtain ⟨i, p⟩ := t
    obtain ⟨hi, hh, hlt, hst⟩ := lookL_some h0.1 hk
    have hR : freeR l h = (l.set i (freeP p), p.o, 0) := by rw [freeR, hk]
    have ha := ho.age p (List.mem_of_getElem? hi)
    have hln := ho.n
    refine e rfl ?_
    refine cl (at_yes b l i p h 2 ho h0.1 hk) rfl (picked_nil _) ⟨_, RdSI.rd⟩ ?_
    intro _ _
    change TL _ _ _ _ _ _ _ _ (sepL [_, _, _])
    rw [hR]
    dsimp only
    refine q rfl rfl (mv (v := .tuple _) rfl) ?_
    refine q rfl rfl (pu (v := .pointer _) (fun _ => rfl)) ?_
    refine q rfl rfl (pu (v := .int _ _) (fun _ => rfl)) ?_
    refine q rfl rfl (asg (v := .pointer _) rfl) ?_
    refine q rfl rfl (asg (v := .int _ _) rfl) ?_
    refine TL.nil (nt ?_)
    refine TC.seq ?_
    refine TC.seq ?_
    refine TC.region ?_
    refine q rfl rfl (mv (v := .int _ _) rfl) ?_
    refine q rfl rfl (neI rfl rfl) ?_
    refine TL.nil (nt ?_)
    refine TC.condD rfl (fun hc7 => absurd hc7 (by decide)) (fun hc7 => ?_)
    have hi2 := set_at (q := ⟨zeroOb, 0, p.age + 1⟩) hi
    have hi3 := set_at (q := ⟨zeroOb, 3, 1048575⟩) hi
    refine TC.skip (nt ?_)
    refine TC.seq ?_
    refine TC.region ?_
    refine q rfl rfl (mv (v := .pointer _) rfl) ?_
    refine q rfl rfl (ncQ rfl) ?_
    refine q rfl rfl (faQ 0 rfl rfl) ?_
    first | refine q rfl rfl (ldN (vs := ints [_, _, _]) 3 rfl rfl rfl rfl) ?_ | refine q rfl rfl (ldSN (vs := ints [_, _, _]) 3 rfl rfl (flat_ldN placeC_sz hi 0 3 (by omega) (by omega) rfl) rfl (by decide)) ?_ | refine q rfl rfl (ldSN (vs := ints [_, _, _]) 3 rfl rfl (flat_ld placeC_sz hi 4 (by omega) rfl) rfl (by decide)) ?_ | refine q rfl rfl (ldSN (vs := ints [_, _, _]) 3 rfl rfl rfl rfl (by decide)) ?_
    refine e rfl ?_
    refine al (l := ints [_, _, _]) rfl rfl ?_
    intro b4
    refine e0 ?_
    first | refine st (v := .agg (List.toArray (ints [_, _, _]))) (vs := ints [_, _, _]) 3 rfl rfl rfl rfl rfl rfl (Nat.le_of_ble_eq_true rfl) rfl ?_ | refine stS (v := .agg (List.toArray (ints [_, _, _]))) (vs := ints [_, _, _]) 3 rfl rfl rfl rfl rfl rfl (by decide) (by rw [flat_length placeC_sz]; omega) (flat_set (a' := ⟨zeroOb, 0, p.age + 1⟩) placeC_sz hi 0 (by omega) (Nat.le_of_ble_eq_true rfl) rfl) ?_
    refine TL.nil (nt ?_)
    refine TC.seq ?_
    refine TC.region ?_
    refine q rfl rfl (mv (v := .pointer _) rfl) ?_
    refine q rfl rfl (mv (v := .pointer _) rfl) ?_
    refine q rfl rfl (ncQ rfl) ?_
    refine q rfl rfl (faQ 4 rfl rfl) ?_
    first | refine q rfl rfl (ld rfl rfl rfl) ?_ | refine q rfl rfl (ldS rfl rfl (flat_ldN placeC_sz hi 0 3 (by omega) (by omega) rfl)) ?_ | refine q rfl rfl (ldS rfl rfl (flat_ld placeC_sz hi 4 (by omega) rfl)) ?_ | refine q rfl rfl (ldS rfl rfl rfl) ?_
    first | refine q rfl rfl (add rfl rfl (wu32 (by omega) (by omega))) ?_ | refine q rfl rfl (add rfl rfl rfl) ?_
    first | refine q rfl rfl (bld (cs := [.int _ _, .int _ _, .int _ _, .int _ _, .int _ _]) rfl) ?_ | refine q rfl rfl (bld (cs := [_, _, _, _, _]) rfl) ?_
    refine q rfl rfl (ncQ rfl) ?_
    refine e0 ?_
    first | refine st (v := .agg #[_, _, _, _, _]) (vs := [_, _, _, _, _]) 5 rfl rfl rfl rfl rfl rfl (Nat.le_of_ble_eq_true rfl) rfl ?_ | refine stS (v := .agg #[_, _, _, _, _]) (vs := [_, _, _, _, _]) 5 rfl rfl rfl rfl rfl rfl (by decide) (by rw [flat_length placeC_sz]; omega) (flat_set (a' := ⟨zeroOb, 0, p.age + 1⟩) placeC_sz hi 0 (by omega) (Nat.le_of_ble_eq_true rfl) rfl) ?_
    refine TL.nil (nt ?_)
    refine TC.seq ?_
    refine TC.seq ?_
    refine TC.region ?_
    refine q rfl rfl (mv (v := .pointer _) rfl) ?_
    refine q rfl rfl (ncQ rfl) ?_
    refine q rfl rfl (faQ 4 rfl rfl) ?_
    first | refine q rfl rfl (ld rfl rfl rfl) ?_ | refine q rfl rfl (ldS rfl rfl (flat_ld placeC_sz hi2 4 (by omega) rfl)) ?_ | refine q rfl rfl (ldS rfl rfl rfl) ?_
    refine q rfl rfl (gtr rfl rfl) ?_
    refine TL.nil (nt ?_)
    first | refine TC.condD rfl (fun hbig => ?_) (fun hbig => ?_) | refine TC.cond rfl (fun hbig => ?_) (fun hbig => ?_)
    · have hfp : freeP p = ⟨zeroOb, 3, 1048575⟩ := by rw [freeP, if_pos (by omega)]
      rw [hfp]
      refine TC.region ?_
      refine q rfl rfl (mv (v := .pointer _) rfl) ?_
      first | refine q rfl rfl (bld (cs := [.int _ _, .int _ _, .int _ _, .int _ _, .int _ _]) rfl) ?_ | refine q rfl rfl (bld (cs := [_, _, _, _, _]) rfl) ?_
      refine q rfl rfl (ncQ rfl) ?_
      refine e0 ?_
      first | refine st (v := .agg #[_, _, _, _, _]) (vs := [_, _, _, _, _]) 5 rfl rfl rfl rfl rfl rfl (Nat.le_of_ble_eq_true rfl) rfl ?_ | refine stS (v := .agg #[_, _, _, _, _]) (vs := [_, _, _, _, _]) 5 rfl rfl rfl rfl rfl rfl (by decide) (by rw [flat_length placeC_sz, List.length_set]; omega) (flat_set (a' := ⟨zeroOb, 3, 1048575⟩) placeC_sz hi2 0 (by omega) (Nat.le_of_ble_eq_true rfl) rfl) ?_
      refine TL.nil (nt ?_)
      refine TC.seq ?_
      refine TC.region ?_
      first | refine q rfl rfl (ldN (vs := ints [_, _, _]) 3 rfl rfl rfl rfl) ?_ | refine q rfl rfl (ldSN (vs := ints [_, _, _]) 3 rfl rfl (flat_ld placeC_sz hi2 4 (by omega) rfl) rfl (by decide)) ?_ | refine q rfl rfl (ldSN (vs := ints [_, _, _]) 3 rfl rfl rfl rfl (by decide)) ?_
      refine e0 ?_
      first | refine st (v := .agg (List.toArray (ints [_, _, _]))) (vs := ints [_, _, _]) 3 rfl rfl rfl rfl rfl rfl (Nat.le_of_ble_eq_true rfl) rfl ?_ | refine stS (v := .agg (List.toArray (ints [_, _, _]))) (vs := ints [_, _, _]) 3 rfl rfl rfl rfl rfl rfl (by decide) (by rw [flat_length placeC_sz, List.length_set]; omega) (flat_set (a' := ⟨zeroOb, 3, 1048575⟩) placeC_sz hi2 0 (by omega) (Nat.le_of_ble_eq_true rfl) rfl) ?_
      refine q rfl rfl (asg (v := .int _ _) rfl) ?_
      refine TL.nil (nt ?_)
      refine TC.ret ?_
      exact Ret.i () [_, _] ⟨(rcN (n := 3) rfl rfl rfl rfl), rfl, trivial⟩ rfl trivial (ent_takeE 1 rfl (by rw [List.set_set]; rfl) (ent_take 2 rfl (ent_nil _)))
    · have hfp : freeP p = ⟨zeroOb, 0, p.age + 1⟩ := by rw [freeP, if_neg (by omega)]
      rw [hfp]
      refine TC.skip (nt ?_)
      refine TC.seq ?_
      refine TC.region ?_
      first | refine q rfl rfl (ldN (vs := ints [_, _, _]) 3 rfl rfl rfl rfl) ?_ | refine q rfl rfl (ldSN (vs := ints [_, _, _]) 3 rfl rfl (flat_ld placeC_sz hi2 4 (by omega) rfl) rfl (by decide)) ?_ | refine q rfl rfl (ldSN (vs := ints [_, _, _]) 3 rfl rfl rfl rfl (by decide)) ?_
      refine e0 ?_
      first | refine st (v := .agg (List.toArray (ints [_, _, _]))) (vs := ints [_, _, _]) 3 rfl rfl rfl rfl rfl rfl (Nat.le_of_ble_eq_true rfl) rfl ?_ | refine stS (v := .agg (List.toArray (ints [_, _, _]))) (vs := ints [_, _, _]) 3 rfl rfl rfl rfl rfl rfl (by decide) (by rw [flat_length placeC_sz, List.length_set]; omega) (flat_set (a' := ⟨zeroOb, 3, 1048575⟩) placeC_sz hi2 0 (by omega) (Nat.le_of_ble_eq_true rfl) rfl) ?_
      refine q rfl rfl (asg (v := .int _ _) rfl) ?_
      refine TL.nil (nt ?_)
      refine TC.ret ?_
      exact Ret.i () [_, _] ⟨(rcN (n := 3) rfl rfl rfl rfl), rfl, trivial⟩ rfl trivial (ent_takeE 1 rfl rfl (ent_take 2 rfl (ent_nil _)))

theorem free_nil (h : Int) : FSpec Try.prog 12 [.pointer none, .int .u32 h] noRd [] (fun _ : Unit => .tuple #[.agg (ints zeroOb.l).toArray, .int .i64 1]) (fun _ => True) (fun _ => []) := by
  refine FSpec.intro (rs := [.cell 4 32, .tmp 5]) (by kernel_rfl) Try.func12 rfl Try.ntmps12 (by rfl) rfl ?_
  intro F _
  change TC _ _ _ _ _ _ _ (sepL [_])
  refine TC.seq ?_
  refine TC.region ?_
  refine e rfl ?_
  refine al (l := ints [_, _, _]) rfl rfl ?_
  intro b5
  refine q rfl rfl (asg (v := .int _ _) rfl) ?_
  refine TL.nil (nt ?_)
  refine TC.seq ?_
  refine TC.region ?_
  refine q rfl rfl (mv (v := .pointer _) rfl) ?_
  refine q rfl rfl (mv (v := .int _ _) rfl) ?_
  refine e rfl ?_
  refine cl (at_nil _ _) rfl (picked_nil _) trivial ?_
  intro _ _
  change TL _ _ _ _ _ _ _ _ (sepL [_, _])
  refine q rfl rfl (mv (v := .tuple _) rfl) ?_
  refine q rfl rfl (pu (v := .pointer _) (fun _ => rfl)) ?_
  refine q rfl rfl (pu (v := .int _ _) (fun _ => rfl)) ?_
  refine q rfl rfl (asg (v := .pointer _) rfl) ?_
  refine q rfl rfl (asg (v := .int _ _) rfl) ?_
  refine TL.nil (nt ?_)
  refine TC.seq ?_
  refine TC.seq ?_
  refine TC.region ?_
  refine q rfl rfl (mv (v := .int _ _) rfl) ?_
  refine q rfl rfl (neI rfl rfl) ?_
  refine TL.nil (nt ?_)
  refine TC.condD rfl (fun hc8 => ?_) (fun hc8 => absurd (by decide) hc8)
  refine TC.seq ?_
  refine TC.region ?_
  first | refine q rfl rfl (bld (cs := ints [_, _, _]) rfl) ?_ | refine q rfl rfl (bld (cs := [_, _, _]) rfl) ?_
  refine q rfl rfl (mv (v := .int _ _) rfl) ?_
  refine e0 ?_
  refine st (v := .agg (List.toArray (ints [_, _, _]))) (vs := ints [_, _, _]) 3 rfl rfl rfl rfl rfl rfl (Nat.le_of_ble_eq_true rfl) rfl ?_
  refine q rfl rfl (asg (v := .int _ _) rfl) ?_
  refine TL.nil (nt ?_)
  refine TC.ret (rt ?_)
  exact Ret.i () [_, _] ⟨(rcN (n := 3) rfl rfl rfl rfl), rfl, trivial⟩ rfl trivial (ent_take 1 rfl (ent_nil _))

end Go.Proofs.Ytjnjijgplmmaiaa
