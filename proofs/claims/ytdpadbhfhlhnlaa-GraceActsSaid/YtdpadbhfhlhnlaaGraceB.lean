/-
  Proved here: what functions of this program compute, each as a contract over symbolic states, under the premises that each theorem names (most lines printed by a program of the prover).
-/
import Derived.Test.YtdpadbhfhlhnlaaGrace
namespace Go.Proofs.Ytdpadbhfhlhnlaa
open Go Go.QM
theorem list_ok (b : Nat) (p n : Int) (l : List (Int × Int)) (hl : l.length ≤ 100000000) : FSpec Try.prog 12 [.pointer (some ⟨b, 0, none⟩)] (fun F => ent F (isQ b p n l)) [] (fun y : Option Addr × Nat => .slice y.1 l.length y.2) (fun _ => True) (fun y => [slc 3 1 y.1 l.length y.2 (ints (l.map (·.1)))]) := by
  refine FSpec.intro (rs := [.tmp 2]) (by kernel_rfl) Try.func12 rfl Try.ntmps12 (by rfl) rfl ?_
  intro F hF
  change TC _ _ _ _ _ _ _ (sepL [_])
  refine TC.openR hF (fun x0 hx0 => ?_)
  obtain ⟨ad, cap⟩ := x0
  clear hx0
  refine TC.seq ?_
  refine TC.region ?_
  refine q rfl rfl (asg (v := .slice _ _ _) rfl) ?_
  refine TL.nil (nt ?_)
  refine TC.seq ?_
  refine TC.region ?_
  refine q rfl rfl (asg (v := .slice _ _ _) rfl) ?_
  refine TL.nil (nt ?_)
  refine TC.seq ?_
  refine TC.seq ?_
  refine TC.region ?_
  refine q rfl rfl (mv (v := .pointer _) rfl) ?_
  refine q rfl rfl (eqNil rfl rfl rfl) ?_
  refine TL.nil (nt ?_)
  refine TC.condF rfl ?_
  refine TC.skip (nt ?_)
  refine TC.seq ?_
  refine TC.seq ?_
  refine TC.region ?_
  refine q rfl rfl (mv (v := .pointer _) rfl) ?_
  first | refine q rfl rfl (nc rfl) ?_ | refine q rfl rfl (ncF rfl) ?_ | refine q rfl rfl (ncS rfl (by first | assumption | (simp [ints_length] <;> omega))) ?_
  first | refine q rfl rfl (fa 2 rfl rfl) ?_ | refine q rfl rfl (faS 2 rfl rfl (by first | assumption | (simp [ints_length] <;> omega))) ?_
  first | refine q rfl rfl (ld rfl rfl rfl) ?_ | refine q rfl rfl (ldS rfl rfl rfl) ?_
  refine q rfl rfl (len 46 2 rfl rfl) ?_
  refine q rfl rfl (mv (v := .int _ _) rfl) ?_
  refine TL.nil (nt ?_)
  refine TC.block ?_
  refine TC.loop (ι := Nat × Option Addr × Nat) (fun i => i.1 ≤ l.length) (fun i => [(3, .slice i.2.1 i.1 i.2.2), (11, .slice ad l.length cap), (12, .int .i64 l.length), (13, .int .i64 i.1)]) (fun i => sepL [slc 3 1 i.2.1 i.1 i.2.2 (ints ((l.take i.1).map (·.1))), restr F (sepL [pts b 44 [.int .i64 p, .int .i64 n, .slice ad l.length cap], slc 46 2 ad l.length cap (things l)])]) (fun i => l.length - i.1) ⟨0, none, 0⟩ (Nat.zero_le _) ⟨rfl, rfl, rfl, rfl, trivial⟩ ((slc_nil 3 1 _).trans (ent_takeE 0 rfl (by simp [ints]) (ent_take 0 rfl (ent_nil _)))) ?_
  rintro ⟨k, ad1, cap1⟩ hinv ρ0
  dsimp only [updL] at hinv ⊢
  refine TC.seq ?_
  refine TC.region ?_
  refine q rfl rfl (lss rfl rfl) ?_
  refine TL.nil (nt ?_)
  refine TC.seq ?_
  first | refine TC.condD rfl (fun hlt => ?_) (fun hlt => ?_) | refine TC.cond rfl (fun hlt => ?_) (fun hlt => ?_)
  · have hlt : k < l.length := by omega
    obtain ⟨t, hk⟩ : ∃ t, l[k]? = some t := ⟨l[k], List.getElem?_eq_getElem hlt⟩
    have hil : 0 < (things l).length := by rw [things_length]; omega
    refine TC.skip (nt ?_)
    refine TC.seq ?_
    refine TC.block ?_
    refine TC.seq ?_
    refine TC.region ?_
    first | refine q rfl rfl (ixS 46 2 rfl rfl rfl (by omega) (by first | assumption | (simp [ints_length] <;> omega))) ?_ | refine q rfl rfl (ixJ 46 2 rfl rfl rfl (by omega) (by omega) (by first | assumption | (simp [ints_length] <;> omega))) ?_ | refine q rfl rfl (ix 46 2 rfl rfl rfl (by omega) (by omega) rfl) ?_
    first | refine q rfl rfl (ldN (vs := [_, _]) 2 rfl rfl rfl rfl) ?_ | refine q rfl rfl (ldSN (vs := [_, _]) 2 rfl rfl (flat_get_rec thing_sz hk) rfl (by decide)) ?_ | refine q rfl rfl (ldSN (vs := [_, _]) 2 rfl rfl rfl rfl (by decide)) ?_
    refine e rfl ?_
    refine al (l := [.int _ _, .int _ _]) rfl rfl ?_
    intro b1
    refine e0 ?_
    refine st (v := .agg #[_, _]) (vs := [_, _]) 2 rfl rfl rfl rfl rfl rfl (Nat.le_of_ble_eq_true rfl) rfl ?_
    refine TL.nil (nt ?_)
    refine TC.region ?_
    refine q rfl rfl (mv (v := .slice _ _ _) rfl) ?_
    first | refine q rfl rfl (fa 0 rfl rfl) ?_ | refine q rfl rfl (faS 0 rfl rfl (by first | assumption | (simp [ints_length] <;> omega))) ?_
    first | refine q rfl rfl (ld rfl rfl rfl) ?_ | refine q rfl rfl (ldS rfl rfl (flat_get_rec thing_sz hk)) ?_ | refine q rfl rfl (ldS rfl rfl rfl) ?_
    refine e rfl ?_
    refine bs (cs := [.int _ _]) rfl ?_
    intro b2
    refine e rfl ?_
    refine ap 8 rfl rfl rfl rfl rfl (Nat.le_of_ble_eq_true rfl) rfl rfl (by omega) (by simp only [maxLen]; omega) ?_
    intro ad1 cap1
    refine q rfl rfl (asg (v := .slice _ _ _) rfl) ?_
    refine TL.nil (nb (nt ?_))
    refine TC.region ?_
    first | refine q rfl rfl (addI rfl rfl (by omega) (by omega)) ?_ | refine q rfl rfl (add rfl rfl rfl) ?_
    refine q rfl rfl (mv (v := .int _ _) rfl) ?_
    refine TL.nil (nt ?_)
    exact ⟨rfl, ⟨k + 1, ad1, cap1⟩, (by dsimp only; omega), (by dsimp only; omega), ⟨rfl, rfl, rfl, rfl, trivial⟩, (ent_takeE 0 rfl (by simp [ints, List.take_add_one, hk]) (ent_take 2 rfl (ent_nil _)))⟩
  · obtain rfl : k = l.length := by omega
    refine TC.exit (et (et (eb (nt ?_))))
    refine TC.seq ?_
    refine TC.region ?_
    refine q rfl rfl (mv (v := .slice _ _ _) rfl) ?_
    refine q rfl rfl (asg (v := .slice _ _ _) rfl) ?_
    refine TL.nil (nt ?_)
    refine TC.ret ?_
    exact Ret.i ⟨ad1, cap1⟩ [_] ⟨rfl, trivial⟩ rfl trivial (ent_takeE 0 rfl (by simp) (ent_takeF 0 rfl (ent_nil _)))

theorem list_nil  : FSpec Try.prog 12 [.pointer none] noRd [] (fun _ : Unit => .slice none 0 0) (fun _ => True) (fun _ => []) := by
  refine FSpec.intro (rs := [.tmp 2]) (by kernel_rfl) Try.func12 rfl Try.ntmps12 (by rfl) rfl ?_
  intro F _
  change TC _ _ _ _ _ _ _ (sepL [_])
  refine TC.seq ?_
  refine TC.region ?_
  refine q rfl rfl (asg (v := .slice _ _ _) rfl) ?_
  refine TL.nil (nt ?_)
  refine TC.seq ?_
  refine TC.region ?_
  refine q rfl rfl (asg (v := .slice _ _ _) rfl) ?_
  refine TL.nil (nt ?_)
  refine TC.seq ?_
  refine TC.seq ?_
  refine TC.region ?_
  refine q rfl rfl (mv (v := .pointer _) rfl) ?_
  refine q rfl rfl (eqNil rfl rfl rfl) ?_
  refine TL.nil (nt ?_)
  refine TC.condT rfl ?_
  refine TC.seq ?_
  refine TC.region ?_
  refine q rfl rfl (asg (v := .slice _ _ _) rfl) ?_
  refine TL.nil (nt ?_)
  refine TC.ret (rt ?_)
  exact Ret.i () [_] ⟨rfl, trivial⟩ rfl trivial (by repeat (first | exact ent_nil _ | refine ent_take 0 rfl ?_ | refine ent_take 1 rfl ?_ | refine ent_take 2 rfl ?_ | refine ent_take 3 rfl ?_ | refine ent_take 4 rfl ?_ | refine ent_take 5 rfl ?_ | refine ent_take 6 rfl ?_ | refine ent_take 7 rfl ?_))

theorem tick_nil  : FSpec Try.prog 11 [.pointer none] noRd [] (fun _ : Unit => .slice none 0 0) (fun _ => True) (fun _ => []) := by
  refine FSpec.intro (rs := [.tmp 2]) (by kernel_rfl) Try.func11 rfl Try.ntmps11 (by rfl) rfl ?_
  intro F _
  change TC _ _ _ _ _ _ _ (sepL [_])
  refine TC.seq ?_
  refine TC.region ?_
  refine q rfl rfl (asg (v := .slice _ _ _) rfl) ?_
  refine TL.nil (nt ?_)
  refine TC.seq ?_
  refine TC.region ?_
  refine e rfl ?_
  refine al (l := [.slice _ _ _]) rfl rfl ?_
  intro b3
  refine TL.nil (nt ?_)
  refine TC.seq ?_
  refine TC.seq ?_
  refine TC.region ?_
  refine q rfl rfl (mv (v := .pointer _) rfl) ?_
  refine q rfl rfl (eqNil rfl rfl rfl) ?_
  refine TL.nil (nt ?_)
  refine TC.condT rfl ?_
  refine TC.seq ?_
  refine TC.region ?_
  refine q rfl rfl (asg (v := .slice _ _ _) rfl) ?_
  refine TL.nil (nt ?_)
  refine TC.ret (rt ?_)
  exact Ret.i () [_] ⟨rfl, trivial⟩ rfl trivial (by repeat (first | exact ent_nil _ | refine ent_take 0 rfl ?_ | refine ent_take 1 rfl ?_ | refine ent_take 2 rfl ?_ | refine ent_take 3 rfl ?_ | refine ent_take 4 rfl ?_ | refine ent_take 5 rfl ?_ | refine ent_take 6 rfl ?_ | refine ent_take 7 rfl ?_))

theorem indexFunc_ok (ad : Option Addr) (cap : Nat) (l : List (Int × Int)) (fc : FuncId) (lb : List Value) (pr : Int × Int → Bool) (rdc : HP → Prop) (hl : l.length ≤ 100000000) (hclo : ∀ t, FSpec Try.prog fc ([.agg (thing t).toArray] ++ lb) rdc [] (fun _ : Unit => .bool (pr t)) (fun _ => True) (fun _ => [])) : FSpec Try.prog 19 [.slice ad l.length cap, .func (.func fc) #[] lb.toArray] (fun F => RdS F 46 ad (things l) ∧ rdc (sepL [F])) [] (fun _ : Unit => .int .i64 (match l.findIdx? pr with | some i => (i : Int) | none => -1)) (fun _ => True) (fun _ => []) := by
  refine FSpec.intro (rs := [.tmp 4]) (by kernel_rfl) Try.func19 rfl Try.ntmps19 (by rfl) rfl ?_
  intro F hF
  change TC _ _ _ _ _ _ _ (sepL [_])
  haveI : RdSI F ad 46 (things l) := ⟨hF.1⟩
  refine TC.seq ?_
  refine TC.region ?_
  refine q rfl rfl (asg (v := .int _ _) rfl) ?_
  refine TL.nil (nt ?_)
  refine TC.seq ?_
  refine TC.seq ?_
  refine TC.region ?_
  refine q rfl rfl (mv (v := .slice _ _ _) rfl) ?_
  refine q rfl rfl (len 46 2 rfl rfl) ?_
  refine q rfl rfl (mv (v := .int _ _) rfl) ?_
  refine TL.nil (nt ?_)
  refine TC.block ?_
  refine TC.loop (ι := Nat) (fun i => i ≤ l.length ∧ ∀ j t, j < i → l[j]? = some t → pr t = false) (fun i => [(0, .slice ad l.length cap), (1, .func (.func fc) #[] lb.toArray), (7, .int .i64 l.length), (8, .int .i64 i)]) (fun i => sepL [F]) (fun i => l.length - i) 0 ⟨Nat.zero_le _, by intro j t h; omega⟩ ⟨rfl, rfl, rfl, rfl, trivial⟩ (ent_take 0 rfl (ent_nil _)) ?_
  rintro k ⟨hinv, hno⟩ ρ0
  dsimp only [updL] at hinv hno ⊢
  refine TC.seq ?_
  refine TC.region ?_
  refine q rfl rfl (lss rfl rfl) ?_
  refine TL.nil (nt ?_)
  refine TC.seq ?_
  first | refine TC.condD rfl (fun hlt => ?_) (fun hlt => ?_) | refine TC.cond rfl (fun hlt => ?_) (fun hlt => ?_)
  · have hlt : k < l.length := by omega
    obtain ⟨t, hk⟩ : ∃ t, l[k]? = some t := ⟨l[k], List.getElem?_eq_getElem hlt⟩
    have hil : 0 < (things l).length := by rw [things_length]; omega
    refine TC.skip (nt ?_)
    refine TC.seq ?_
    refine TC.block ?_
    refine TC.seq ?_
    refine TC.region ?_
    refine q rfl rfl (mv (v := .int _ _) rfl) ?_
    refine q rfl rfl (asg (v := .int _ _) rfl) ?_
    refine TL.nil (nt ?_)
    refine TC.seq ?_
    refine TC.region ?_
    refine q rfl rfl (mv (v := .func (.func fc) #[] lb.toArray) rfl) ?_
    refine q rfl rfl (mv (v := .slice _ _ _) rfl) ?_
    refine q rfl rfl (mv (v := .int _ _) rfl) ?_
    first | refine q rfl rfl (ixS 46 2 rfl rfl rfl (by omega) (by first | assumption | (simp [ints_length] <;> omega))) ?_ | refine q rfl rfl (ixJ 46 2 rfl rfl rfl (by omega) (by omega) (by first | assumption | (simp [ints_length] <;> omega))) ?_ | refine q rfl rfl (ix 46 2 rfl rfl rfl (by omega) (by omega) rfl) ?_
    first | refine q rfl rfl (ldN (vs := [_, _]) 2 rfl rfl rfl rfl) ?_ | refine q rfl rfl (ldSN (vs := [_, _]) 2 rfl rfl (flat_get_rec thing_sz hk) rfl (by decide)) ?_ | refine q rfl rfl (ldSN (vs := [_, _]) 2 rfl rfl rfl rfl (by decide)) ?_
    refine e rfl ?_
    refine clC (hclo t) rfl rfl (picked_nil _) hF.2 ?_
    intro _ _
    change TL _ _ _ _ _ _ _ _ (sepL [_])
    refine TL.nil (nt ?_)
    cases hpr : pr t with
    | true => ?_
    | false => ?_
    · refine TC.condT rfl ?_
      refine TC.seq ?_
      refine TC.region ?_
      refine q rfl rfl (mv (v := .int _ _) rfl) ?_
      refine q rfl rfl (asg (v := .int _ _) rfl) ?_
      refine TL.nil (nt ?_)
      refine TC.ret (rb (rt (rt (rb (rt ?_)))))
      have hf : l.findIdx? pr = some k := findIdx_at hk hpr hno
      exact Ret.i () [_] ⟨rfl, trivial⟩ (by rw [hf]; rfl) trivial (by repeat (first | exact ent_nil _ | refine ent_take 0 rfl ?_ | refine ent_take 1 rfl ?_ | refine ent_take 2 rfl ?_ | refine ent_take 3 rfl ?_ | refine ent_take 4 rfl ?_ | refine ent_take 5 rfl ?_ | refine ent_take 6 rfl ?_ | refine ent_take 7 rfl ?_))
    · refine TC.condF rfl ?_
      refine TC.skip (nb (nt ?_))
      refine TC.region ?_
      first | refine q rfl rfl (addI rfl rfl (by omega) (by omega)) ?_ | refine q rfl rfl (add rfl rfl rfl) ?_
      refine q rfl rfl (mv (v := .int _ _) rfl) ?_
      refine TL.nil (nt ?_)
      exact ⟨rfl, (k + 1), ⟨by omega, fun j u hj hu => by rcases Nat.lt_succ_iff_lt_or_eq.1 hj with h | h; exact hno j u h hu; subst h; rw [hk] at hu; cases hu; exact hpr⟩, (by omega), ⟨rfl, rfl, rfl, rfl, trivial⟩, (ent_take 0 rfl (ent_nil _))⟩
  · obtain rfl : k = l.length := by omega
    have hf : l.findIdx? pr = none := findIdx_no hno
    refine TC.exit (et (et (eb (nt ?_))))
    refine TC.seq ?_
    refine TC.region ?_
    refine q rfl rfl (asg (v := .int _ _) rfl) ?_
    refine TL.nil (nt ?_)
    refine TC.ret ?_
    exact Ret.i () [_] ⟨rfl, trivial⟩ (by rw [hf]; rfl) trivial (ent_take 0 rfl (ent_nil _))

theorem left1_ok (c : Nat) (x : Int) (t : Int × Int) : FSpec Try.prog 20 [.agg (thing t).toArray, .pointer (some ⟨c, 0, none⟩)] (fun F => Rd F c (.cells #[.int .i64 x] 3 (0, 0))) [] (fun _ : Unit => .bool (decide (t.1 = x))) (fun _ => True) (fun _ => []) := by
  refine FSpec.intro (rs := [.tmp 3]) (by kernel_rfl) Try.func20 rfl Try.ntmps20 (by rfl) rfl ?_
  intro F hF
  change TC _ _ _ _ _ _ _ (sepL [_])
  haveI : RdI F c (.cells [.int .i64 x].toArray 3 (0, 0)) := ⟨hF⟩
  refine TC.seq ?_
  refine TC.region ?_
  refine e rfl ?_
  refine bx (v := .agg #[_, _]) (l := [.int _ _, .int _ _]) rfl rfl ?_
  intro b4
  refine q rfl rfl (asg (v := .bool _) rfl) ?_
  refine TL.nil (nt ?_)
  refine TC.seq ?_
  refine TC.region ?_
  first | refine q rfl rfl (fa 0 rfl rfl) ?_ | refine q rfl rfl (faS 0 rfl rfl (by first | assumption | (simp [ints_length] <;> omega))) ?_
  first | refine q rfl rfl (ld rfl rfl rfl) ?_ | refine q rfl rfl (ldS rfl rfl rfl) ?_
  first | refine q rfl rfl (ld rfl rfl rfl) ?_ | refine q rfl rfl (ldS rfl rfl rfl) ?_
  refine q rfl rfl (eqI rfl rfl) ?_
  refine q rfl rfl (asg (v := .bool _) rfl) ?_
  refine TL.nil (nt ?_)
  refine TC.ret ?_
  exact Ret.i () [_] ⟨rfl, trivial⟩ rfl trivial (ent_take 1 rfl (ent_nil _))

def leftG (n x : Int) (l : List (Int × Int)) : Int := match l.find? (fun t => decide (t.1 = x)) with | some t => t.2 - n | none => 0

theorem left_ok (b : Nat) (p n : Int) (l : List (Int × Int)) (x : Int) (hn : 0 ≤ n ∧ n ≤ 1000000000) (hl : l.length ≤ 100000000) (hb : ∀ t ∈ l, 0 ≤ t.2 ∧ t.2 ≤ 2000000000) : FSpec Try.prog 13 [.pointer (some ⟨b, 0, none⟩), .int .i64 x] (fun F => ent F (isQ b p n l)) [] (fun _ : Unit => .int .i64 (leftG n x l)) (fun _ => True) (fun _ => []) := by
  refine FSpec.intro (rs := [.tmp 4]) (by kernel_rfl) Try.func13 rfl Try.ntmps13 (by rfl) rfl ?_
  intro F hF
  change TC _ _ _ _ _ _ _ (sepL [_])
  refine TC.openR hF (fun x0 hx0 => ?_)
  obtain ⟨ad, cap⟩ := x0
  clear hx0
  refine TC.seq ?_
  refine TC.region ?_
  refine e rfl ?_
  refine bx (v := .int _ _) (l := [.int _ _]) rfl rfl ?_
  intro b5
  refine q rfl rfl (asg (v := .int _ _) rfl) ?_
  refine TL.nil (nt ?_)
  refine TC.seq ?_
  refine TC.seq ?_
  refine TC.region ?_
  refine q rfl rfl (mv (v := .pointer _) rfl) ?_
  refine q rfl rfl (eqNil rfl rfl rfl) ?_
  refine TL.nil (nt ?_)
  refine TC.condF rfl ?_
  refine TC.skip (nt ?_)
  refine TC.seq ?_
  refine TC.region ?_
  refine q rfl rfl (mv (v := .pointer _) rfl) ?_
  first | refine q rfl rfl (nc rfl) ?_ | refine q rfl rfl (ncF rfl) ?_ | refine q rfl rfl (ncS rfl (by first | assumption | (simp [ints_length] <;> omega))) ?_
  first | refine q rfl rfl (fa 2 rfl rfl) ?_ | refine q rfl rfl (faS 2 rfl rfl (by first | assumption | (simp [ints_length] <;> omega))) ?_
  first | refine q rfl rfl (ld rfl rfl rfl) ?_ | refine q rfl rfl (ldS rfl rfl rfl) ?_
  first | refine q rfl rfl (mkf (vf := []) (vc := [.pointer _]) rfl rfl) ?_ | refine q rfl rfl (mkf rfl rfl) ?_
  refine e rfl ?_
  refine cl (indexFunc_ok ad cap l 20 [.pointer (some ⟨b5, 0, none⟩)] (fun t => decide (t.1 = x)) (fun F => Rd F b5 (.cells #[.int .i64 x] 3 (0, 0))) hl (fun t => left1_ok b5 x t)) rfl (picked_nil _) ⟨RdSI.rd (ad := ad), Rd_here (RdI.rd (b := b5))⟩ ?_
  intro _ _
  change TL _ _ _ _ _ _ _ _ (sepL [_, _])
  cases hf : l.findIdx? (fun t => decide (t.1 = x)) with
  | none => ?_
  | some k => ?_
  · dsimp only
    refine q rfl rfl (asg (v := .int _ _) rfl) ?_
    refine TL.nil (nt ?_)
    refine TC.seq ?_
    refine TC.seq ?_
    refine TC.region ?_
    refine q rfl rfl (mv (v := .int _ _) rfl) ?_
    refine q rfl rfl (lss rfl rfl) ?_
    refine TL.nil (nt ?_)
    refine TC.condD rfl (fun hc1 => ?_) (fun hc1 => absurd (by decide) hc1)
    refine TC.seq ?_
    refine TC.region ?_
    refine q rfl rfl (asg (v := .int _ _) rfl) ?_
    refine TL.nil (nt ?_)
    refine TC.ret (rt ?_)
    have hl0 : leftG n x l = 0 := by rw [leftG, find_of_findIdx_none hf]
    exact Ret.i () [_] ⟨rfl, trivial⟩ (by rw [hl0]; rfl) trivial (ent_takeF 1 rfl (ent_nil _))
  · obtain ⟨t, hk, hfi⟩ := find_of_findIdx hf
    have hlt : k < l.length := (List.getElem?_eq_some_iff.1 hk).1
    have hil : 0 < (things l).length := by rw [things_length]; omega
    have hbt := hb t (List.mem_of_getElem? hk)
    dsimp only
    refine q rfl rfl (asg (v := .int _ _) rfl) ?_
    refine TL.nil (nt ?_)
    refine TC.seq ?_
    refine TC.seq ?_
    refine TC.region ?_
    refine q rfl rfl (mv (v := .int _ _) rfl) ?_
    refine q rfl rfl (lss rfl rfl) ?_
    refine TL.nil (nt ?_)
    refine TC.condD rfl (fun hc2 => absurd hc2 (by omega)) (fun hc2 => ?_)
    refine TC.skip (nt ?_)
    refine TC.seq ?_
    refine TC.draw _ [] [(0, false), (1, false), (2, false), (3, false), (4, false), (5, false), (6, false), (7, false), (8, false), (9, false), (10, false), (11, false), (12, false), (13, false)] (by kernel_rfl) (by kernel_rfl) (ent.refl _) ?_
    refine dq rfl rfl rfl (mv (v := .pointer _) rfl) ?_
    first | refine dq rfl rfl rfl (nc rfl) ?_ | refine dq rfl rfl rfl (ncF rfl) ?_ | refine dq rfl rfl rfl (ncS rfl (by first | assumption | (simp [ints_length] <;> omega))) ?_
    first | refine dq rfl rfl rfl (fa 2 rfl rfl) ?_ | refine dq rfl rfl rfl (faS 2 rfl rfl (by first | assumption | (simp [ints_length] <;> omega))) ?_
    first | refine dq rfl rfl rfl (ld rfl rfl rfl) ?_ | refine dq rfl rfl rfl (ldS rfl rfl (flat_get thing_sz hk (show (thing t)[1]? = some (.int .i64 t.2) from rfl))) ?_ | refine dq rfl rfl rfl (ldS rfl rfl rfl) ?_
    refine dq rfl rfl rfl (mv (v := .int _ _) rfl) ?_
    first | refine dq rfl rfl rfl (ixS 46 2 rfl rfl rfl (by omega) (by first | assumption | (simp [ints_length] <;> omega))) ?_ | refine dq rfl rfl rfl (ixJ 46 2 rfl rfl rfl (by omega) (by omega) (by first | assumption | (simp [ints_length] <;> omega))) ?_ | refine dq rfl rfl rfl (ix 46 2 rfl rfl rfl (by omega) (by omega) rfl) ?_
    first | refine dq rfl rfl rfl (fa 1 rfl rfl) ?_ | refine dq rfl rfl rfl (faS 1 rfl rfl (by first | assumption | (simp [ints_length] <;> omega))) ?_
    first | refine dq rfl rfl rfl (ld rfl rfl rfl) ?_ | refine dq rfl rfl rfl (ldS rfl rfl (flat_get thing_sz hk (show (thing t)[1]? = some (.int .i64 t.2) from rfl))) ?_ | refine dq rfl rfl rfl (ldS rfl rfl rfl) ?_
    refine dq rfl rfl rfl (mv (v := .pointer _) rfl) ?_
    first | refine dq rfl rfl rfl (nc rfl) ?_ | refine dq rfl rfl rfl (ncF rfl) ?_ | refine dq rfl rfl rfl (ncS rfl (by first | assumption | (simp [ints_length] <;> omega))) ?_
    first | refine dq rfl rfl rfl (fa 1 rfl rfl) ?_ | refine dq rfl rfl rfl (faS 1 rfl rfl (by first | assumption | (simp [ints_length] <;> omega))) ?_
    first | refine dq rfl rfl rfl (ld rfl rfl rfl) ?_ | refine dq rfl rfl rfl (ldS rfl rfl (flat_get thing_sz hk (show (thing t)[1]? = some (.int .i64 t.2) from rfl))) ?_ | refine dq rfl rfl rfl (ldS rfl rfl rfl) ?_
    first | refine dq rfl rfl rfl (subI rfl rfl (by omega) (by omega)) ?_ | refine dq rfl rfl rfl (sub rfl rfl rfl) ?_
    refine dq rfl rfl rfl (asg (v := .int _ _) rfl) ?_
    refine TD.nil (nt ?_)
    refine TC.ret ?_
    have hl0 : leftG n x l = t.2 - n := by rw [leftG, hfi]
    exact Ret.i () [_] ⟨rfl, trivial⟩ (by rw [hl0]; rfl) trivial (ent_takeF 1 rfl (ent_nil _))

theorem left_nil (x : Int) : FSpec Try.prog 13 [.pointer none, .int .i64 x] noRd [] (fun _ : Unit => .int .i64 0) (fun _ => True) (fun _ => []) := by
  refine FSpec.intro (rs := [.tmp 4]) (by kernel_rfl) Try.func13 rfl Try.ntmps13 (by rfl) rfl ?_
  intro F _
  change TC _ _ _ _ _ _ _ (sepL [_])
  refine TC.seq ?_
  refine TC.region ?_
  refine e rfl ?_
  refine bx (v := .int _ _) (l := [.int _ _]) rfl rfl ?_
  intro b6
  refine q rfl rfl (asg (v := .int _ _) rfl) ?_
  refine TL.nil (nt ?_)
  refine TC.seq ?_
  refine TC.seq ?_
  refine TC.region ?_
  refine q rfl rfl (mv (v := .pointer _) rfl) ?_
  refine q rfl rfl (eqNil rfl rfl rfl) ?_
  refine TL.nil (nt ?_)
  refine TC.condT rfl ?_
  refine TC.seq ?_
  refine TC.region ?_
  refine q rfl rfl (asg (v := .int _ _) rfl) ?_
  refine TL.nil (nt ?_)
  refine TC.ret (rt ?_)
  exact Ret.i () [_] ⟨rfl, trivial⟩ rfl trivial (ent_take 1 rfl (ent_nil _))

end Go.Proofs.Ytdpadbhfhlhnlaa
