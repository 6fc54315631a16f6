/-
  Proved here: what functions of this program compute, each as a contract over symbolic states, under the premises that each theorem names (most lines printed by a program of the prover).
-/
import Derived.Test.YtjnjijgplmmaiaaHandA
namespace Go.Proofs.Ytjnjijgplmmaiaa
open Go Go.QM
theorem indexFunc_ok (ad : Option Addr) (cap : Nat) (l : List Pl) (fc : FuncId) (lb : List Value) (pr : Pl → Bool) (rdc : HP → Prop) (hl : l.length ≤ 100000000) (hclo : ∀ t, FSpec Try.prog fc ([.agg (placeC t).toArray] ++ lb) rdc [] (fun _ : Unit => .bool (pr t)) (fun _ => True) (fun _ => [])) : FSpec Try.prog 27 [.slice ad l.length cap, .func (.func fc) #[] lb.toArray] (fun F => (∃ E, RdS F E ad (tabC l)) ∧ rdc (sepL [F])) [] (fun _ : Unit => .int .i64 (match l.findIdx? pr with | some i => (i : Int) | none => -1)) (fun _ => True) (fun _ => []) := by
  refine FSpec.intro (rs := [.tmp 4]) (by kernel_rfl) Try.func27 rfl Try.ntmps27 (by rfl) rfl ?_
  intro F ⟨⟨E, hF⟩, hFc⟩
  change TC _ _ _ _ _ _ _ (sepL [_])
  haveI : RdSI F ad E (tabC l) := ⟨hF⟩
  refine TC.seq ?_
  refine TC.region ?_
  refine q rfl rfl (asg (v := .int _ _) rfl) ?_
  refine TL.nil (nt ?_)
  refine TC.seq ?_
  refine TC.seq ?_
  refine TC.region ?_
  refine q rfl rfl (mv (v := .slice _ _ _) rfl) ?_
  refine q rfl rfl (len 60 5 rfl rfl) ?_
  refine q rfl rfl (mv (v := .int _ _) rfl) ?_
  refine TL.nil (nt ?_)
  refine TC.block ?_
  refine TC.loop (ι := Nat) (fun i => i ≤ l.length ∧ ∀ j t, j < i → l[j]? = some t → pr t = false) (fun i => [(0, .slice ad l.length cap), (1, .func (.func fc) #[] lb.toArray), (7, .int .i64 l.length), (8, .int .i64 i)]) (fun i => sepL [F]) (fun i => l.length - i) 0 ⟨Nat.zero_le _, by intro j t h; omega⟩ ⟨rfl, rfl, rfl, rfl, trivial⟩ (ent_take 0 rfl (ent_nil _)) ?_
  rintro k ⟨hinv, hno⟩ ρ0
  dsimp only [updL] at hinv hno ⊢
  refine TC.seq ?_
  refine TC.region ?_
  refine q rfl rfl (lss rfl rfl) ?_
  refine TL.nil (nt ?_)
  refine TC.seq ?_
  first | refine TC.condD rfl (fun hlt => ?_) (fun hlt => ?_) | refine TC.cond rfl (fun hlt => ?_) (fun hlt => ?_)
  · have hlt : k < l.length := by omega
    obtain ⟨t, hk⟩ : ∃ t, l[k]? = some t := ⟨l[k], List.getElem?_eq_getElem hlt⟩
    have hil := tabC_pos hk
    refine TC.skip (nt ?_)
    refine TC.seq ?_
    refine TC.block ?_
    refine TC.seq ?_
    refine TC.region ?_
    refine q rfl rfl (mv (v := .int _ _) rfl) ?_
    refine q rfl rfl (asg (v := .int _ _) rfl) ?_
    refine TL.nil (nt ?_)
    refine TC.seq ?_
    refine TC.region ?_
    refine q rfl rfl (mv (v := .func (.func fc) #[] lb.toArray) rfl) ?_
    refine q rfl rfl (mv (v := .slice _ _ _) rfl) ?_
    refine q rfl rfl (mv (v := .int _ _) rfl) ?_
    first | refine q rfl rfl (ixS 60 5 rfl rfl rfl (by omega) (by first | assumption | (simp [ints_length] <;> omega))) ?_ | refine q rfl rfl (ixJ 60 5 rfl rfl rfl (by omega) (by omega) (by first | assumption | (simp [ints_length] <;> omega))) ?_ | refine q rfl rfl (ix 60 5 rfl rfl rfl (by omega) (by omega) rfl) ?_
    first | refine q rfl rfl (ldN (vs := [_, _, _, _, _]) 5 rfl rfl rfl rfl) ?_ | refine q rfl rfl (ldSN (vs := [_, _, _, _, _]) 5 rfl rfl (flat_get_rec placeC_sz hk) rfl (by decide)) ?_ | refine q rfl rfl (ldSN (vs := [_, _, _, _, _]) 5 rfl rfl rfl rfl (by decide)) ?_
    refine e rfl ?_
    refine clC (hclo t) rfl rfl (picked_nil _) hFc ?_
    intro _ _
    change TL _ _ _ _ _ _ _ _ (sepL [_])
    refine TL.nil (nt ?_)
    cases hpr : pr t with
    | true => ?_
    | false => ?_
    · refine TC.condT rfl ?_
      refine TC.seq ?_
      refine TC.region ?_
      refine q rfl rfl (mv (v := .int _ _) rfl) ?_
      refine q rfl rfl (asg (v := .int _ _) rfl) ?_
      refine TL.nil (nt ?_)
      refine TC.ret (rb (rt (rt (rb (rt ?_)))))
      have hf : l.findIdx? pr = some k := findIdx_at hk hpr hno
      exact Ret.i () [_] ⟨rfl, trivial⟩ (by rw [hf]; rfl) trivial (by repeat (first | exact ent_nil _ | refine ent_take 0 rfl ?_ | refine ent_take 1 rfl ?_ | refine ent_take 2 rfl ?_ | refine ent_take 3 rfl ?_ | refine ent_take 4 rfl ?_ | refine ent_take 5 rfl ?_ | refine ent_take 6 rfl ?_ | refine ent_take 7 rfl ?_))
    · refine TC.condF rfl ?_
      refine TC.skip (nb (nt ?_))
      refine TC.region ?_
      first | refine q rfl rfl (addI rfl rfl (by omega) (by omega)) ?_ | refine q rfl rfl (add rfl rfl rfl) ?_
      refine q rfl rfl (mv (v := .int _ _) rfl) ?_
      refine TL.nil (nt ?_)
      exact ⟨rfl, (k + 1), ⟨by omega, fun j u hj hu => by rcases Nat.lt_succ_iff_lt_or_eq.1 hj with h | h; exact hno j u h hu; subst h; rw [hk] at hu; cases hu; exact hpr⟩, (by omega), ⟨rfl, rfl, rfl, rfl, trivial⟩, (ent_take 0 rfl (ent_nil _))⟩
  · obtain rfl : k = l.length := by omega
    have hf : l.findIdx? pr = none := findIdx_no hno
    refine TC.exit (et (et (eb (nt ?_))))
    refine TC.seq ?_
    refine TC.region ?_
    refine q rfl rfl (asg (v := .int _ _) rfl) ?_
    refine TL.nil (nt ?_)
    refine TC.ret ?_
    exact Ret.i () [_] ⟨rfl, trivial⟩ (by rw [hf]; rfl) trivial (ent_take 0 rfl (ent_nil _))

def lookL (l : List Pl) (h st : Int) : Option (Nat × Pl) := match l[(h % 256).toNat]? with
  | some p => if p.age * 256 + h % 256 = h ∧ p.st = st then some ((h % 256).toNat, p) else none
  | none => none
theorem lookL_some {l : List Pl} {h st : Int} {i : Nat} {p : Pl} (hh : 0 ≤ h) (e : lookL l h st = some (i, p)) : l[i]? = some p ∧ h = p.age * 256 + i ∧ i < 256 ∧ p.st = st := by
  unfold lookL at e
  split at e
  · rename_i q hq
    split at e
    · rename_i hc
      simp only [Option.some.injEq, Prod.mk.injEq] at e
      obtain ⟨rfl, rfl⟩ := e
      exact ⟨hq, by omega, by omega, hc.2⟩
    · cases e
  · cases e
theorem lookL_none {l : List Pl} {h st : Int} {p : Pl} (e : lookL l h st = none) (hp : l[(h % 256).toNat]? = some p) : ¬ (p.age * 256 + h % 256 = h ∧ p.st = st) := by
  unfold lookL at e
  rw [hp] at e
  simp only at e
  split at e
  · cases e
  · assumption

theorem at_yes (b : Nat) (l : List Pl) (i : Nat) (p : Pl) (h st : Int) (ho : OkT l) (h0 : 0 ≤ h) (hk : lookL l h st = some (i, p)) : FSpec Try.prog 30 [.pointer (some ⟨b, 0, none⟩), .int .u32 h, .int .i64 st] (fun F => ∃ E, RdS F E (some ⟨b, 0, none⟩) (tabC l)) [] (fun _ : Unit => .tuple #[pa (some ⟨b, 0, none⟩) (i * 5), .int .i64 0]) (fun _ => True) (fun _ => []) := by
  refine FSpec.intro (rs := [.tmp 6, .tmp 7]) (by kernel_rfl) Try.func30 rfl Try.ntmps30 (by rfl) rfl ?_
  intro F ⟨E, hF⟩
  change TC _ _ _ _ _ _ _ (sepL [_])
  haveI : RdSI F (some ⟨b, 0, none⟩) E (tabC l) := ⟨hF⟩
  obtain ⟨hi, rfl, hl, rfl⟩ := lookL_some h0 hk
  have ha := ho.age p (List.mem_of_getElem? hi)
  refine TC.seq ?_
  refine TC.region ?_
  refine q rfl rfl (asg (v := .pointer _) rfl) ?_
  refine q rfl rfl (asg (v := .int _ _) rfl) ?_
  refine TL.nil (nt ?_)
  refine TC.seq ?_
  refine TC.seq ?_
  refine TC.region ?_
  refine q rfl rfl (mv (v := .pointer _) rfl) ?_
  refine q rfl rfl (eqNil rfl rfl rfl) ?_
  refine TL.nil (nt ?_)
  refine TC.condF rfl ?_
  refine TC.skip (nt ?_)
  refine TC.seq ?_
  refine TC.region ?_
  refine q rfl rfl (mv (v := .int _ _) rfl) ?_
  refine q rfl rfl (andR rfl rfl (and8_u32 (by omega) (by omega))) ?_
  first | refine q rfl rfl (conv .u32 .i64 rfl rfl rfl (wi64 (by omega) (by omega))) ?_ | refine q rfl rfl (conv .u32 .i64 rfl rfl rfl rfl) ?_
  refine q rfl rfl (asg (v := .int _ _) rfl) ?_
  refine TL.nil (nt ?_)
  refine TC.seq ?_
  refine TC.seq ?_
  rw [show (p.age * 256 + (i : Int)) % 256 = (i : Int) from by omega]
  refine TC.region ?_
  refine q rfl rfl (mv (v := .pointer _) rfl) ?_
  refine q rfl rfl (mv (v := .int _ _) rfl) ?_
  refine e rfl ?_
  refine cl (name_ok b l i p hi hl (by omega)) rfl (picked_nil _) ⟨_, RdSI.rd⟩ ?_
  intro _ _
  change TL _ _ _ _ _ _ _ _ (sepL [_])
  refine q rfl rfl (mv (v := .int _ _) rfl) ?_
  refine q rfl rfl (neI rfl rfl) ?_
  refine q rfl rfl (mv (v := .bool _) rfl) ?_
  refine TL.known 19 rfl (c := false) (decide_eq_false (by omega)) ?_
  refine qg rfl rfl rfl (mv (v := .pointer _) rfl) ?_
  refine qg rfl rfl rfl (mv (v := .int _ _) rfl) ?_
  first | refine qg rfl rfl rfl (ncP rfl) ?_ | refine qg rfl rfl rfl (ncQ rfl) ?_
  refine qg rfl rfl rfl (faQ 0 rfl rfl) ?_
  refine qg rfl rfl rfl (ixA 256 60 5 rfl rfl rfl (by omega) (by omega)) ?_
  refine qg rfl rfl rfl (faQ 3 rfl rfl) ?_
  first | refine qg rfl rfl rfl (ld rfl rfl rfl) ?_ | refine qg rfl rfl rfl (ldS rfl rfl (flat_ld placeC_sz hi 3 (by omega) rfl)) ?_ | refine qg rfl rfl rfl (ldS rfl rfl rfl) ?_
  refine qg rfl rfl rfl (mv (v := .int _ _) rfl) ?_
  refine qg rfl rfl rfl (neI rfl rfl) ?_
  first | refine q rfl rfl (pkT rfl rfl) ?_ | refine q rfl rfl (pkF rfl rfl) ?_
  refine TL.nil (nt ?_)
  refine TC.condD rfl (fun hc1 => absurd hc1 (by omega)) (fun hc1 => ?_)
  refine TC.skip (nt ?_)
  refine TC.seq ?_
  refine TC.region ?_
  refine q rfl rfl (mv (v := .pointer _) rfl) ?_
  refine q rfl rfl (mv (v := .int _ _) rfl) ?_
  first | refine q rfl rfl (ncP rfl) ?_ | refine q rfl rfl (ncQ rfl) ?_
  refine q rfl rfl (faQ 0 rfl rfl) ?_
  refine q rfl rfl (ixA 256 60 5 rfl rfl rfl (by omega) (by omega)) ?_
  refine q rfl rfl (asg (v := .pointer _) rfl) ?_
  refine q rfl rfl (asg (v := .int _ _) rfl) ?_
  refine TL.nil (nt ?_)
  refine TC.ret ?_
  exact Ret.i () [_, _] ⟨rfl, rfl, trivial⟩ (congrArg (fun o => Value.tuple #[pa (some ⟨b, 0, none⟩) o, .int .i64 0]) (by omega)) trivial (ent_take 0 rfl (ent_nil _))

theorem at_no (b : Nat) (l : List Pl) (h st : Int) (ho : OkT l) (h0 : 0 ≤ h ∧ h ≤ 4294967295) (hk : lookL l h st = none) : FSpec Try.prog 30 [.pointer (some ⟨b, 0, none⟩), .int .u32 h, .int .i64 st] (fun F => ∃ E, RdS F E (some ⟨b, 0, none⟩) (tabC l)) [] (fun _ : Unit => .tuple #[.pointer none, .int .i64 8]) (fun _ => True) (fun _ => []) := by
  refine FSpec.intro (rs := [.tmp 6, .tmp 7]) (by kernel_rfl) Try.func30 rfl Try.ntmps30 (by rfl) rfl ?_
  intro F ⟨E, hF⟩
  change TC _ _ _ _ _ _ _ (sepL [_])
  haveI : RdSI F (some ⟨b, 0, none⟩) E (tabC l) := ⟨hF⟩
  obtain ⟨i, hi0⟩ : ∃ i : Nat, h % 256 = i := ⟨(h % 256).toNat, by omega⟩
  have hl : i < 256 := by omega
  obtain ⟨p, hi, ha⟩ := ho.at hl
  have hno := lookL_none hk (show l[(h % 256).toNat]? = some p from by rw [hi0]; exact hi)
  refine TC.seq ?_
  refine TC.region ?_
  refine q rfl rfl (asg (v := .pointer _) rfl) ?_
  refine q rfl rfl (asg (v := .int _ _) rfl) ?_
  refine TL.nil (nt ?_)
  refine TC.seq ?_
  refine TC.seq ?_
  refine TC.region ?_
  refine q rfl rfl (mv (v := .pointer _) rfl) ?_
  refine q rfl rfl (eqNil rfl rfl rfl) ?_
  refine TL.nil (nt ?_)
  refine TC.condF rfl ?_
  refine TC.skip (nt ?_)
  refine TC.seq ?_
  refine TC.region ?_
  refine q rfl rfl (mv (v := .int _ _) rfl) ?_
  refine q rfl rfl (andR rfl rfl (and8_u32 (by omega) (by omega))) ?_
  first | refine q rfl rfl (conv .u32 .i64 rfl rfl rfl (wi64 (by omega) (by omega))) ?_ | refine q rfl rfl (conv .u32 .i64 rfl rfl rfl rfl) ?_
  refine q rfl rfl (asg (v := .int _ _) rfl) ?_
  refine TL.nil (nt ?_)
  refine TC.seq ?_
  refine TC.seq ?_
  rw [hi0]
  refine TC.region ?_
  refine q rfl rfl (mv (v := .pointer _) rfl) ?_
  refine q rfl rfl (mv (v := .int _ _) rfl) ?_
  refine e rfl ?_
  refine cl (name_ok b l i p hi hl (by omega)) rfl (picked_nil _) ⟨_, RdSI.rd⟩ ?_
  intro _ _
  change TL _ _ _ _ _ _ _ _ (sepL [_])
  refine q rfl rfl (mv (v := .int _ _) rfl) ?_
  refine q rfl rfl (neI rfl rfl) ?_
  refine q rfl rfl (mv (v := .bool _) rfl) ?_
  refine TL.split 19 rfl (fun hn => ?_) (fun hn => ?_)
  · have hn := of_decide_eq_true hn
    refine qs rfl rfl ?_
    refine qs rfl rfl ?_
    refine qs rfl rfl ?_
    refine qs rfl rfl ?_
    refine qs rfl rfl ?_
    refine qs rfl rfl ?_
    refine qs rfl rfl ?_
    refine qs rfl rfl ?_
    refine qs rfl rfl ?_
    first | refine q rfl rfl (pkT rfl rfl) ?_ | refine q rfl rfl (pkF rfl rfl) ?_
    refine TL.nil (nt ?_)
    refine TC.condT rfl ?_
    refine TC.seq ?_
    refine TC.region ?_
    refine q rfl rfl (asg (v := .pointer _) rfl) ?_
    refine q rfl rfl (asg (v := .int _ _) rfl) ?_
    refine TL.nil (nt ?_)
    refine TC.ret (rt ?_)
    exact Ret.i () [_, _] ⟨rfl, rfl, trivial⟩ rfl trivial (ent_take 0 rfl (ent_nil _))
  · have hn := of_decide_eq_false hn
    refine qg rfl rfl rfl (mv (v := .pointer _) rfl) ?_
    refine qg rfl rfl rfl (mv (v := .int _ _) rfl) ?_
    first | refine qg rfl rfl rfl (ncP rfl) ?_ | refine qg rfl rfl rfl (ncQ rfl) ?_
    refine qg rfl rfl rfl (faQ 0 rfl rfl) ?_
    refine qg rfl rfl rfl (ixA 256 60 5 rfl rfl rfl (by omega) (by omega)) ?_
    refine qg rfl rfl rfl (faQ 3 rfl rfl) ?_
    first | refine qg rfl rfl rfl (ld rfl rfl rfl) ?_ | refine qg rfl rfl rfl (ldS rfl rfl (flat_ld placeC_sz hi 3 (by omega) rfl)) ?_ | refine qg rfl rfl rfl (ldS rfl rfl rfl) ?_
    refine qg rfl rfl rfl (mv (v := .int _ _) rfl) ?_
    refine qg rfl rfl rfl (neI rfl rfl) ?_
    first | refine q rfl rfl (pkT rfl rfl) ?_ | refine q rfl rfl (pkF rfl rfl) ?_
    refine TL.nil (nt ?_)
    refine TC.condD rfl (fun hc2 => ?_) (fun hc2 => absurd (by omega) hc2)
    refine TC.seq ?_
    refine TC.region ?_
    refine q rfl rfl (asg (v := .pointer _) rfl) ?_
    refine q rfl rfl (asg (v := .int _ _) rfl) ?_
    refine TL.nil (nt ?_)
    refine TC.ret (rt ?_)
    exact Ret.i () [_, _] ⟨rfl, rfl, trivial⟩ rfl trivial (ent_take 0 rfl (ent_nil _))

theorem at_nil (v w : Value) : FSpec Try.prog 30 [.pointer none, v, w] noRd [] (fun _ : Unit => .tuple #[.pointer none, .int .i64 1]) (fun _ => True) (fun _ => []) := by
  refine FSpec.intro (rs := [.tmp 6, .tmp 7]) (by kernel_rfl) Try.func30 rfl Try.ntmps30 (by rfl) rfl ?_
  intro F _
  change TC _ _ _ _ _ _ _ (sepL [_])
  refine TC.seq ?_
  refine TC.region ?_
  refine q rfl rfl (asg (v := .pointer _) rfl) ?_
  refine q rfl rfl (asg (v := .int _ _) rfl) ?_
  refine TL.nil (nt ?_)
  refine TC.seq ?_
  refine TC.seq ?_
  refine TC.region ?_
  refine q rfl rfl (mv (v := .pointer _) rfl) ?_
  refine q rfl rfl (eqNil rfl rfl rfl) ?_
  refine TL.nil (nt ?_)
  refine TC.condT rfl ?_
  refine TC.seq ?_
  refine TC.region ?_
  refine q rfl rfl (asg (v := .pointer _) rfl) ?_
  refine q rfl rfl (asg (v := .int _ _) rfl) ?_
  refine TL.nil (nt ?_)
  refine TC.ret (rt ?_)
  exact Ret.i () [_, _] ⟨rfl, rfl, trivial⟩ rfl trivial (ent_take 0 rfl (ent_nil _))

def zeroOb : Ob := ⟨0, 0, 0⟩
def getR (l : List Pl) (h : Int) : Ob × Int := match lookL l h 1 with
  | some (_, p) => (p.o, 0)
  | none => (zeroOb, 8)

theorem get_ok (b : Nat) (l : List Pl) (h : Int) (ho : OkT l) (h0 : 0 ≤ h ∧ h ≤ 4294967295) : FSpec Try.prog 10 [.pointer (some ⟨b, 0, none⟩), .int .u32 h] (fun F => ∃ E, RdS F E (some ⟨b, 0, none⟩) (tabC l)) [] (fun _ : Unit => .tuple #[.agg (ints (getR l h).1.l).toArray, .int .i64 (getR l h).2]) (fun _ => True) (fun _ => []) := by
  refine FSpec.intro (rs := [.cell 4 32, .tmp 5]) (by kernel_rfl) Try.func10 rfl Try.ntmps10 (by rfl) rfl ?_
  intro F ⟨E, hF⟩
  change TC _ _ _ _ _ _ _ (sepL [_])
  haveI : RdSI F (some ⟨b, 0, none⟩) E (tabC l) := ⟨hF⟩
  refine TC.seq ?_
  refine TC.region ?_
  refine e rfl ?_
  refine al (l := ints [_, _, _]) rfl rfl ?_
  intro b1
  refine q rfl rfl (asg (v := .int _ _) rfl) ?_
  refine TL.nil (nt ?_)
  refine TC.seq ?_
  refine TC.region ?_
  refine q rfl rfl (mv (v := .pointer _) rfl) ?_
  refine q rfl rfl (mv (v := .int _ _) rfl) ?_
  cases hk : lookL l h 1 with
  | none => ?_
  | some t => ?_
  · have hR : getR l h = (zeroOb, 8) := by rw [getR, hk]
    refine e rfl ?_
    refine cl (at_no b l h 1 ho h0 hk) rfl (picked_nil _) ⟨_, RdSI.rd⟩ ?_
    intro _ _
    change TL _ _ _ _ _ _ _ _ (sepL [_, _])
    refine q rfl rfl (mv (v := .tuple _) rfl) ?_
    refine q rfl rfl (pu (v := .pointer _) (fun _ => rfl)) ?_
    refine q rfl rfl (pu (v := .int _ _) (fun _ => rfl)) ?_
    refine q rfl rfl (asg (v := .pointer _) rfl) ?_
    refine q rfl rfl (asg (v := .int _ _) rfl) ?_
    refine TL.nil (nt ?_)
    refine TC.seq ?_
    refine TC.seq ?_
    refine TC.region ?_
    refine q rfl rfl (mv (v := .int _ _) rfl) ?_
    refine q rfl rfl (neI rfl rfl) ?_
    refine TL.nil (nt ?_)
    refine TC.condD rfl (fun hc3 => ?_) (fun hc3 => absurd (by decide) hc3)
    refine TC.seq ?_
    refine TC.region ?_
    first | refine q rfl rfl (bld (cs := ints [_, _, _]) rfl) ?_ | refine q rfl rfl (bld (cs := [_, _, _]) rfl) ?_
    refine q rfl rfl (mv (v := .int _ _) rfl) ?_
    refine e0 ?_
    refine st (v := .agg (List.toArray (ints [_, _, _]))) (vs := ints [_, _, _]) 3 rfl rfl rfl rfl rfl rfl (Nat.le_of_ble_eq_true rfl) rfl ?_
    refine q rfl rfl (asg (v := .int _ _) rfl) ?_
    refine TL.nil (nt ?_)
    refine TC.ret (rt ?_)
    exact Ret.i () [_, _] ⟨(rcN (n := 3) rfl rfl rfl rfl), rfl, trivial⟩ (by rw [hR]; rfl) trivial (ent_take 1 rfl (ent_nil _))
  · obtain ⟨i, p⟩ := t
    obtain ⟨hi, hh, hl, hst⟩ := lookL_some h0.1 hk
    have hR : getR l h = (p.o, 0) := by rw [getR, hk]
    refine e rfl ?_
    refine cl (at_yes b l i p h 1 ho h0.1 hk) rfl (picked_nil _) ⟨_, RdSI.rd⟩ ?_
    intro _ _
    change TL _ _ _ _ _ _ _ _ (sepL [_, _])
    refine q rfl rfl (mv (v := .tuple _) rfl) ?_
    refine q rfl rfl (pu (v := .pointer _) (fun _ => rfl)) ?_
    refine q rfl rfl (pu (v := .int _ _) (fun _ => rfl)) ?_
    refine q rfl rfl (asg (v := .pointer _) rfl) ?_
    refine q rfl rfl (asg (v := .int _ _) rfl) ?_
    refine TL.nil (nt ?_)
    refine TC.seq ?_
    refine TC.seq ?_
    refine TC.region ?_
    refine q rfl rfl (mv (v := .int _ _) rfl) ?_
    refine q rfl rfl (neI rfl rfl) ?_
    refine TL.nil (nt ?_)
    refine TC.condD rfl (fun hc4 => absurd hc4 (by decide)) (fun hc4 => ?_)
    refine TC.skip (nt ?_)
    refine TC.seq ?_
    refine TC.region ?_
    refine q rfl rfl (mv (v := .pointer _) rfl) ?_
    refine q rfl rfl (ncQ rfl) ?_
    refine q rfl rfl (faQ 0 rfl rfl) ?_
    first | refine q rfl rfl (ldN (vs := ints [_, _, _]) 3 rfl rfl rfl rfl) ?_ | refine q rfl rfl (ldSN (vs := ints [_, _, _]) 3 rfl rfl (flat_ldN placeC_sz hi 0 3 (by omega) (by omega) rfl) rfl (by decide)) ?_ | refine q rfl rfl (ldSN (vs := ints [_, _, _]) 3 rfl rfl rfl rfl (by decide)) ?_
    refine e0 ?_
    refine st (v := .agg (List.toArray (ints [_, _, _]))) (vs := ints [_, _, _]) 3 rfl rfl rfl rfl rfl rfl (Nat.le_of_ble_eq_true rfl) rfl ?_
    refine q rfl rfl (asg (v := .int _ _) rfl) ?_
    refine TL.nil (nt ?_)
    refine TC.ret ?_
    exact Ret.i () [_, _] ⟨(rcN (n := 3) rfl rfl rfl rfl), rfl, trivial⟩ (by rw [hR]; rfl) trivial (ent_take 1 rfl (ent_nil _))

theorem get_nil (h : Int) : FSpec Try.prog 10 [.pointer none, .int .u32 h] noRd [] (fun _ : Unit => .tuple #[.agg (ints zeroOb.l).toArray, .int .i64 1]) (fun _ => True) (fun _ => []) := by
  refine FSpec.intro (rs := [.cell 4 32, .tmp 5]) (by kernel_rfl) Try.func10 rfl Try.ntmps10 (by rfl) rfl ?_
  intro F _
  change TC _ _ _ _ _ _ _ (sepL [_])
  refine TC.seq ?_
  refine TC.region ?_
  refine e rfl ?_
  refine al (l := ints [_, _, _]) rfl rfl ?_
  intro b2
  refine q rfl rfl (asg (v := .int _ _) rfl) ?_
  refine TL.nil (nt ?_)
  refine TC.seq ?_
  refine TC.region ?_
  refine q rfl rfl (mv (v := .pointer _) rfl) ?_
  refine q rfl rfl (mv (v := .int _ _) rfl) ?_
  refine e rfl ?_
  refine cl (at_nil _ _) rfl (picked_nil _) trivial ?_
  intro _ _
  change TL _ _ _ _ _ _ _ _ (sepL [_, _])
  refine q rfl rfl (mv (v := .tuple _) rfl) ?_
  refine q rfl rfl (pu (v := .pointer _) (fun _ => rfl)) ?_
  refine q rfl rfl (pu (v := .int _ _) (fun _ => rfl)) ?_
  refine q rfl rfl (asg (v := .pointer _) rfl) ?_
  refine q rfl rfl (asg (v := .int _ _) rfl) ?_
  refine TL.nil (nt ?_)
  refine TC.seq ?_
  refine TC.seq ?_
  refine TC.region ?_
  refine q rfl rfl (mv (v := .int _ _) rfl) ?_
  refine q rfl rfl (neI rfl rfl) ?_
  refine TL.nil (nt ?_)
  refine TC.condD rfl (fun hc5 => ?_) (fun hc5 => absurd (by decide) hc5)
  refine TC.seq ?_
  refine TC.region ?_
  first | refine q rfl rfl (bld (cs := ints [_, _, _]) rfl) ?_ | refine q rfl rfl (bld (cs := [_, _, _]) rfl) ?_
  refine q rfl rfl (mv (v := .int _ _) rfl) ?_
  refine e0 ?_
  refine st (v := .agg (List.toArray (ints [_, _, _]))) (vs := ints [_, _, _]) 3 rfl rfl rfl rfl rfl rfl (Nat.le_of_ble_eq_true rfl) rfl ?_
  refine q rfl rfl (asg (v := .int _ _) rfl) ?_
  refine TL.nil (nt ?_)
  refine TC.ret (rt ?_)
  exact Ret.i () [_, _] ⟨(rcN (n := 3) rfl rfl rfl rfl), rfl, trivial⟩ rfl trivial (ent_take 1 rfl (ent_nil _))

end Go.Proofs.Ytjnjijgplmmaiaa
