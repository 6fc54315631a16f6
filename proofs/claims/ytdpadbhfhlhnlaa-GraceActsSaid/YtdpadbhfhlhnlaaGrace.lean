/-
  Proved here: what functions of this program compute, each as a contract over symbolic states, under the premises that each theorem names (most lines printed by a program of the prover).
-/
import Derived.Test.YtdpadbhfhlhnlaaProg
import Derived.Test.YtdpadbhfhlhnlaaQLibU
namespace Go.Proofs.Ytdpadbhfhlhnlaa
open Go Go.QM
def thing (t : Int × Int) : List Value := [.int .i64 t.1, .int .i64 t.2]
def things (l : List (Int × Int)) : List Value := l.flatMap thing
theorem thing_sz (t : Int × Int) : (thing t).length = 2 := rfl
theorem things_app (l m : List (Int × Int)) : things (l ++ m) = things l ++ things m := by simp [things]
theorem things_length (l : List (Int × Int)) : (things l).length = l.length * 2 := flat_length thing_sz l
theorem things_one (l : List (Int × Int)) : (things l).all Value.oneCell' = true := by simp [things, thing, List.all_eq_true, Value.oneCell']
def isQ (b : Nat) (p n : Int) (l : List (Int × Int)) : HP := EX fun x : Option Addr × Nat => pure' True (sepL [pts b 44 [.int .i64 p, .int .i64 n, .slice x.1 l.length x.2], slc 46 2 x.1 l.length x.2 (things l)])

theorem new_ok (p : Int) (h1 : 1 ≤ p) (h2 : p ≤ 16) : FSpec Try.prog 7 [.int .i64 p] noRd [] (fun b : Nat => .pointer (some ⟨b, 0, none⟩)) (fun _ => True) (fun b => [isQ b p 0 []]) := by
  refine FSpec.intro (rs := [.tmp 2]) (by kernel_rfl) Try.func7 rfl Try.ntmps7 (by rfl) rfl ?_
  intro F _
  change TC _ _ _ _ _ _ _ (sepL [_])
  refine TC.seq ?_
  refine TC.region ?_
  refine q rfl rfl (asg (v := .pointer _) rfl) ?_
  refine TL.nil (nt ?_)
  refine TC.seq ?_
  refine TC.seq ?_
  refine TC.region ?_
  refine q rfl rfl (mv (v := .int _ _) rfl) ?_
  refine q rfl rfl (lss rfl rfl) ?_
  refine q rfl rfl (mv (v := .bool _) rfl) ?_
  refine TL.known 5 rfl (c := false) (decide_eq_false (by omega)) ?_
  refine qg rfl rfl rfl (mv (v := .int _ _) rfl) ?_
  refine qg rfl rfl rfl (gtr rfl rfl) ?_
  first | refine q rfl rfl (pkT rfl rfl) ?_ | refine q rfl rfl (pkF rfl rfl) ?_
  refine TL.nil (nt ?_)
  refine TC.condD rfl (fun hc1 => absurd hc1 (by omega)) (fun hc1 => ?_)
  refine TC.skip (nt ?_)
  refine TC.seq ?_
  refine TC.region ?_
  refine q rfl rfl (mv (v := .int _ _) rfl) ?_
  first | refine q rfl rfl (bld (cs := [.int _ _, .int _ _, .slice _ _ _]) rfl) ?_ | refine q rfl rfl (bld (cs := [_, _, _]) rfl) ?_
  refine e rfl ?_
  refine bx (v := .agg #[_, _, _]) (l := [.int _ _, .int _ _, .slice _ _ _]) rfl rfl ?_
  intro b1
  refine q rfl rfl (asg (v := .pointer _) rfl) ?_
  refine TL.nil (nt ?_)
  refine TC.ret ?_
  exact Ret.i b1 [_] ⟨rfl, trivial⟩ rfl trivial ((slc_nil 46 2 _).trans (ent_close ⟨none, 0⟩ trivial (ent_take 1 rfl (ent_take 0 rfl (ent_take 0 rfl (ent_nil _))))))

theorem new_no (p : Int) (h : p < 1 ∨ 16 < p) : FSpec Try.prog 7 [.int .i64 p] noRd [] (fun _ : Unit => .pointer none) (fun _ => True) (fun _ => []) := by
  refine FSpec.intro (rs := [.tmp 2]) (by kernel_rfl) Try.func7 rfl Try.ntmps7 (by rfl) rfl ?_
  intro F _
  change TC _ _ _ _ _ _ _ (sepL [_])
  refine TC.seq ?_
  refine TC.region ?_
  refine q rfl rfl (asg (v := .pointer _) rfl) ?_
  refine TL.nil (nt ?_)
  refine TC.seq ?_
  refine TC.seq ?_
  refine TC.region ?_
  refine q rfl rfl (mv (v := .int _ _) rfl) ?_
  refine q rfl rfl (lss rfl rfl) ?_
  refine q rfl rfl (mv (v := .bool _) rfl) ?_
  refine TL.split 5 rfl (fun h1 => ?_) (fun h1 => ?_)
  · have h1 := of_decide_eq_true h1
    refine qs rfl rfl ?_
    refine qs rfl rfl ?_
    first | refine q rfl rfl (pkT rfl rfl) ?_ | refine q rfl rfl (pkF rfl rfl) ?_
    refine TL.nil (nt ?_)
    refine TC.condT rfl ?_
    refine TC.seq ?_
    refine TC.region ?_
    refine q rfl rfl (asg (v := .pointer _) rfl) ?_
    refine TL.nil (nt ?_)
    refine TC.ret (rt ?_)
    exact Ret.i () [_] ⟨rfl, trivial⟩ rfl trivial (by repeat (first | exact ent_nil _ | refine ent_take 0 rfl ?_ | refine ent_take 1 rfl ?_ | refine ent_take 2 rfl ?_ | refine ent_take 3 rfl ?_ | refine ent_take 4 rfl ?_ | refine ent_take 5 rfl ?_ | refine ent_take 6 rfl ?_ | refine ent_take 7 rfl ?_))
  · have h1 := of_decide_eq_false h1
    refine qg rfl rfl rfl (mv (v := .int _ _) rfl) ?_
    refine qg rfl rfl rfl (gtr rfl rfl) ?_
    first | refine q rfl rfl (pkT rfl rfl) ?_ | refine q rfl rfl (pkF rfl rfl) ?_
    refine TL.nil (nt ?_)
    refine TC.condD rfl (fun hc2 => ?_) (fun hc2 => absurd (by omega) hc2)
    refine TC.seq ?_
    refine TC.region ?_
    refine q rfl rfl (asg (v := .pointer _) rfl) ?_
    refine TL.nil (nt ?_)
    refine TC.ret (rt ?_)
    exact Ret.i () [_] ⟨rfl, trivial⟩ rfl trivial (by repeat (first | exact ent_nil _ | refine ent_take 0 rfl ?_ | refine ent_take 1 rfl ?_ | refine ent_take 2 rfl ?_ | refine ent_take 3 rfl ?_ | refine ent_take 4 rfl ?_ | refine ent_take 5 rfl ?_ | refine ent_take 6 rfl ?_ | refine ent_take 7 rfl ?_))

theorem period_ok (b : Nat) (p n : Int) (l : List (Int × Int)) : FSpec Try.prog 9 [.pointer (some ⟨b, 0, none⟩)] (fun F => ent F (isQ b p n l)) [] (fun _ : Unit => .int .i64 p) (fun _ => True) (fun _ => []) := by
  refine FSpec.intro (rs := [.tmp 2]) (by kernel_rfl) Try.func9 rfl Try.ntmps9 (by rfl) rfl ?_
  intro F hF
  change TC _ _ _ _ _ _ _ (sepL [_])
  refine TC.openR hF (fun x0 hx0 => ?_)
  obtain ⟨ad, cap⟩ := x0
  clear hx0
  refine TC.seq ?_
  refine TC.region ?_
  refine q rfl rfl (asg (v := .int _ _) rfl) ?_
  refine TL.nil (nt ?_)
  refine TC.seq ?_
  refine TC.seq ?_
  refine TC.region ?_
  refine q rfl rfl (mv (v := .pointer _) rfl) ?_
  refine q rfl rfl (eqNil rfl rfl rfl) ?_
  refine TL.nil (nt ?_)
  refine TC.condF rfl ?_
  refine TC.skip (nt ?_)
  refine TC.seq ?_
  refine TC.region ?_
  refine q rfl rfl (mv (v := .pointer _) rfl) ?_
  first | refine q rfl rfl (nc rfl) ?_ | refine q rfl rfl (ncF rfl) ?_ | refine q rfl rfl (ncS rfl (by first | assumption | (simp [ints_length] <;> omega))) ?_
  first | refine q rfl rfl (fa 0 rfl rfl) ?_ | refine q rfl rfl (faS 0 rfl rfl (by first | assumption | (simp [ints_length] <;> omega))) ?_
  first | refine q rfl rfl (ld rfl rfl rfl) ?_ | refine q rfl rfl (ldS rfl rfl rfl) ?_
  refine q rfl rfl (asg (v := .int _ _) rfl) ?_
  refine TL.nil (nt ?_)
  refine TC.ret ?_
  exact Ret.i () [_] ⟨rfl, trivial⟩ rfl trivial (ent_takeF 0 rfl (ent_nil _))

theorem period_nil  : FSpec Try.prog 9 [.pointer none] noRd [] (fun _ : Unit => .int .i64 0) (fun _ => True) (fun _ => []) := by
  refine FSpec.intro (rs := [.tmp 2]) (by kernel_rfl) Try.func9 rfl Try.ntmps9 (by rfl) rfl ?_
  intro F _
  change TC _ _ _ _ _ _ _ (sepL [_])
  refine TC.seq ?_
  refine TC.region ?_
  refine q rfl rfl (asg (v := .int _ _) rfl) ?_
  refine TL.nil (nt ?_)
  refine TC.seq ?_
  refine TC.seq ?_
  refine TC.region ?_
  refine q rfl rfl (mv (v := .pointer _) rfl) ?_
  refine q rfl rfl (eqNil rfl rfl rfl) ?_
  refine TL.nil (nt ?_)
  refine TC.condT rfl ?_
  refine TC.seq ?_
  refine TC.region ?_
  refine q rfl rfl (asg (v := .int _ _) rfl) ?_
  refine TL.nil (nt ?_)
  refine TC.ret (rt ?_)
  exact Ret.i () [_] ⟨rfl, trivial⟩ rfl trivial (by repeat (first | exact ent_nil _ | refine ent_take 0 rfl ?_ | refine ent_take 1 rfl ?_ | refine ent_take 2 rfl ?_ | refine ent_take 3 rfl ?_ | refine ent_take 4 rfl ?_ | refine ent_take 5 rfl ?_ | refine ent_take 6 rfl ?_ | refine ent_take 7 rfl ?_))

theorem add_ok (b : Nat) (p n : Int) (l : List (Int × Int)) (ad : Option Addr) (cap : Nat) (xs : List Int) (hp : 1 ≤ p ∧ p ≤ 16) (hn : 0 ≤ n ∧ n ≤ 1000000000) (hl : l.length ≤ 1000000) (hx : xs.length ≤ 1000000) : FSpec Try.prog 10 [.pointer (some ⟨b, 0, none⟩), .slice ad xs.length cap] (fun F => ∃ E, RdS F E ad (ints xs)) [isQ b p n l] (fun _ : Unit => .int .i64 ((l.length + xs.length : Nat) : Int)) (fun _ => True) (fun _ => [isQ b p n (l ++ xs.map (fun x => (x, n + p)))]) := by
  refine FSpec.intro (rs := [.tmp 4]) (by kernel_rfl) Try.func10 rfl Try.ntmps10 (by rfl) rfl ?_
  intro F ⟨E, hF⟩
  change TC _ _ _ _ _ _ _ (sepL [_, _])
  haveI : RdSI F ad E (ints xs) := ⟨hF⟩
  refine TC.open 0 rfl (fun x0 hx0 => ?_)
  obtain ⟨ad0, cap0⟩ := x0
  clear hx0
  change TC _ _ _ _ _ _ _ (sepL [_, _, _])
  refine TC.seq ?_
  refine TC.region ?_
  refine q rfl rfl (asg (v := .int _ _) rfl) ?_
  refine TL.nil (nt ?_)
  refine TC.seq ?_
  refine TC.seq ?_
  refine TC.region ?_
  refine q rfl rfl (mv (v := .pointer _) rfl) ?_
  refine q rfl rfl (eqNil rfl rfl rfl) ?_
  refine TL.nil (nt ?_)
  refine TC.condF rfl ?_
  refine TC.skip (nt ?_)
  refine TC.seq ?_
  refine TC.seq ?_
  refine TC.region ?_
  refine q rfl rfl (mv (v := .slice _ _ _) rfl) ?_
  refine q rfl rfl (len 3 1 rfl rfl) ?_
  refine q rfl rfl (mv (v := .int _ _) rfl) ?_
  refine TL.nil (nt ?_)
  refine TC.block ?_
  refine TC.loop (ι := Nat × Option Addr × Nat) (fun i => i.1 ≤ xs.length) (fun i => [(0, .pointer (some ⟨b, 0, none⟩)), (9, .slice ad xs.length cap), (10, .int .i64 xs.length), (11, .int .i64 i.1)]) (fun i => sepL [pts b 44 [.int .i64 p, .int .i64 n, .slice i.2.1 (l.length + i.1) i.2.2], slc 46 2 i.2.1 (l.length + i.1) i.2.2 (things (l ++ (xs.take i.1).map (fun x => (x, n + p)))), F]) (fun i => xs.length - i.1) ⟨0, ad0, cap0⟩ (Nat.zero_le _) ⟨rfl, rfl, rfl, rfl, trivial⟩ (ent_take 0 rfl (ent_takeE 0 rfl (by simp) (ent_take 0 rfl (ent_nil _)))) ?_
  rintro ⟨k, ad1, cap1⟩ hinv ρ0
  dsimp only [updL] at hinv ⊢
  refine TC.seq ?_
  refine TC.region ?_
  refine q rfl rfl (lss rfl rfl) ?_
  refine TL.nil (nt ?_)
  refine TC.seq ?_
  first | refine TC.condD rfl (fun hlt => ?_) (fun hlt => ?_) | refine TC.cond rfl (fun hlt => ?_) (fun hlt => ?_)
  · have hlt : k < xs.length := by omega
    obtain ⟨x, hxk⟩ : ∃ x, xs[k]? = some x := ⟨xs[k], List.getElem?_eq_getElem hlt⟩
    have hil : 0 < (ints xs).length := by rw [ints_length]; omega
    refine TC.skip (nt ?_)
    refine TC.seq ?_
    refine TC.block ?_
    refine TC.seq ?_
    refine TC.region ?_
    first | refine q rfl rfl (ixS 3 1 rfl rfl rfl (by omega) (by first | assumption | (simp [ints_length] <;> omega))) ?_ | refine q rfl rfl (ixJ 3 1 rfl rfl rfl (by omega) (by omega) (by first | assumption | (simp [ints_length] <;> omega))) ?_ | refine q rfl rfl (ix 3 1 rfl rfl rfl (by omega) (by omega) rfl) ?_
    first | refine q rfl rfl (ld rfl rfl rfl) ?_ | refine q rfl rfl (ldS rfl rfl (ints_get hxk)) ?_ | refine q rfl rfl (ldS rfl rfl rfl) ?_
    refine q rfl rfl (asg (v := .int _ _) rfl) ?_
    refine TL.nil (nt ?_)
    refine TC.draw _ [20] [(0, false), (1, false), (2, false), (3, false), (4, false), (5, false), (6, false), (7, false), (8, false), (9, false), (10, false), (11, false), (12, false), (13, false), (14, false), (15, false), (16, true), (17, true), (18, false), (19, false), (20, true)] (by kernel_rfl) (by kernel_rfl) (ent_take 0 rfl (ent_nil _)) ?_
    refine dq rfl rfl rfl (mv (v := .pointer _) rfl) ?_
    refine dq rfl rfl rfl (mv (v := .pointer _) rfl) ?_
    first | refine dq rfl rfl rfl (nc rfl) ?_ | refine dq rfl rfl rfl (ncF rfl) ?_ | refine dq rfl rfl rfl (ncS rfl (by first | assumption | (simp [ints_length] <;> omega))) ?_
    first | refine dq rfl rfl rfl (fa 2 rfl rfl) ?_ | refine dq rfl rfl rfl (faS 2 rfl rfl (by first | assumption | (simp [ints_length] <;> omega))) ?_
    first | refine dq rfl rfl rfl (ld rfl rfl rfl) ?_ | refine dq rfl rfl rfl (ldS rfl rfl (ints_get hxk)) ?_ | refine dq rfl rfl rfl (ldS rfl rfl rfl) ?_
    refine dq rfl rfl rfl (mv (v := .int _ _) rfl) ?_
    refine dq rfl rfl rfl (mv (v := .pointer _) rfl) ?_
    first | refine dq rfl rfl rfl (nc rfl) ?_ | refine dq rfl rfl rfl (ncF rfl) ?_ | refine dq rfl rfl rfl (ncS rfl (by first | assumption | (simp [ints_length] <;> omega))) ?_
    first | refine dq rfl rfl rfl (fa 1 rfl rfl) ?_ | refine dq rfl rfl rfl (faS 1 rfl rfl (by first | assumption | (simp [ints_length] <;> omega))) ?_
    first | refine dq rfl rfl rfl (ld rfl rfl rfl) ?_ | refine dq rfl rfl rfl (ldS rfl rfl (ints_get hxk)) ?_ | refine dq rfl rfl rfl (ldS rfl rfl rfl) ?_
    refine dq rfl rfl rfl (mv (v := .pointer _) rfl) ?_
    first | refine dq rfl rfl rfl (nc rfl) ?_ | refine dq rfl rfl rfl (ncF rfl) ?_ | refine dq rfl rfl rfl (ncS rfl (by first | assumption | (simp [ints_length] <;> omega))) ?_
    first | refine dq rfl rfl rfl (fa 0 rfl rfl) ?_ | refine dq rfl rfl rfl (faS 0 rfl rfl (by first | assumption | (simp [ints_length] <;> omega))) ?_
    first | refine dq rfl rfl rfl (ld rfl rfl rfl) ?_ | refine dq rfl rfl rfl (ldS rfl rfl (ints_get hxk)) ?_ | refine dq rfl rfl rfl (ldS rfl rfl rfl) ?_
    first | refine dq rfl rfl rfl (addI rfl rfl (by omega) (by omega)) ?_ | refine dq rfl rfl rfl (add rfl rfl rfl) ?_
    first | refine dq rfl rfl rfl (bld (cs := [.int _ _, .int _ _]) rfl) ?_ | refine dq rfl rfl rfl (bld (cs := [_, _]) rfl) ?_
    refine de rfl rfl ?_
    refine bs (cs := [.int _ _, .int _ _]) rfl ?_
    intro b2
    refine ⟨(by repeat (first | exact ent_nil _ | refine ent_take 0 rfl ?_ | refine ent_take 1 rfl ?_ | refine ent_take 2 rfl ?_ | refine ent_take 3 rfl ?_ | refine ent_take 4 rfl ?_ | refine ent_take 5 rfl ?_ | refine ent_take 6 rfl ?_ | refine ent_take 7 rfl ?_)), ?_⟩
    refine de rfl rfl ?_
    refine ap 16 rfl rfl rfl rfl rfl (Nat.le_of_ble_eq_true rfl) rfl rfl (by omega) (by simp only [maxLen]; omega) ?_
    intro ad1 cap1
    refine ⟨(by repeat (first | exact ent_nil _ | refine ent_take 0 rfl ?_ | refine ent_take 1 rfl ?_ | refine ent_take 2 rfl ?_ | refine ent_take 3 rfl ?_ | refine ent_take 4 rfl ?_ | refine ent_take 5 rfl ?_ | refine ent_take 6 rfl ?_ | refine ent_take 7 rfl ?_)), ?_⟩
    first | refine dq rfl rfl rfl (nc rfl) ?_ | refine dq rfl rfl rfl (ncF rfl) ?_ | refine dq rfl rfl rfl (ncS rfl (by first | assumption | (simp [ints_length] <;> omega))) ?_
    first | refine dq rfl rfl rfl (fa 2 rfl rfl) ?_ | refine dq rfl rfl rfl (faS 2 rfl rfl (by first | assumption | (simp [ints_length] <;> omega))) ?_
    refine dl0 rfl rfl rfl ?_
    refine st (v := .slice _ _ _) (vs := [_]) 1 rfl rfl rfl rfl rfl rfl (Nat.le_of_ble_eq_true rfl) rfl ?_
    refine TD.nil (nb (nt ?_))
    refine TC.region ?_
    first | refine q rfl rfl (addI rfl rfl (by omega) (by omega)) ?_ | refine q rfl rfl (add rfl rfl rfl) ?_
    refine q rfl rfl (mv (v := .int _ _) rfl) ?_
    refine TL.nil (nt ?_)
    exact ⟨rfl, ⟨k + 1, ad1, cap1⟩, (by dsimp only; omega), (by dsimp only; omega), ⟨rfl, rfl, rfl, rfl, trivial⟩, (ent_take 0 rfl (ent_takeE 0 rfl (by simp [things, thing, List.take_add_one, hxk, Nat.add_assoc]) (ent_take 1 rfl (ent_nil _))))⟩
  · obtain rfl : k = xs.length := by omega
    refine TC.exit (et (et (eb (nt ?_))))
    refine TC.seq ?_
    refine TC.region ?_
    refine q rfl rfl (mv (v := .pointer _) rfl) ?_
    first | refine q rfl rfl (nc rfl) ?_ | refine q rfl rfl (ncF rfl) ?_ | refine q rfl rfl (ncS rfl (by first | assumption | (simp [ints_length] <;> omega))) ?_
    first | refine q rfl rfl (fa 2 rfl rfl) ?_ | refine q rfl rfl (faS 2 rfl rfl (by first | assumption | (simp [ints_length] <;> omega))) ?_
    first | refine q rfl rfl (ld rfl rfl rfl) ?_ | refine q rfl rfl (ldS rfl rfl rfl) ?_
    refine q rfl rfl (len 46 2 rfl rfl) ?_
    refine q rfl rfl (asg (v := .int _ _) rfl) ?_
    refine TL.nil (nt ?_)
    refine TC.ret ?_
    exact Ret.i () [_] ⟨rfl, trivial⟩ rfl trivial (ent_close ⟨ad1, cap1⟩ trivial (ent_takeE 0 rfl (by simp) (ent_takeE 0 rfl (by simp) (ent_take 0 rfl (ent_nil _)))))

theorem add_nil (v : Value) : FSpec Try.prog 10 [.pointer none, v] noRd [] (fun _ : Unit => .int .i64 0) (fun _ => True) (fun _ => []) := by
  refine FSpec.intro (rs := [.tmp 4]) (by kernel_rfl) Try.func10 rfl Try.ntmps10 (by rfl) rfl ?_
  intro F _
  change TC _ _ _ _ _ _ _ (sepL [_])
  refine TC.seq ?_
  refine TC.region ?_
  refine q rfl rfl (asg (v := .int _ _) rfl) ?_
  refine TL.nil (nt ?_)
  refine TC.seq ?_
  refine TC.seq ?_
  refine TC.region ?_
  refine q rfl rfl (mv (v := .pointer _) rfl) ?_
  refine q rfl rfl (eqNil rfl rfl rfl) ?_
  refine TL.nil (nt ?_)
  refine TC.condT rfl ?_
  refine TC.seq ?_
  refine TC.region ?_
  refine q rfl rfl (asg (v := .int _ _) rfl) ?_
  refine TL.nil (nt ?_)
  refine TC.ret (rt ?_)
  exact Ret.i () [_] ⟨rfl, trivial⟩ rfl trivial (by repeat (first | exact ent_nil _ | refine ent_take 0 rfl ?_ | refine ent_take 1 rfl ?_ | refine ent_take 2 rfl ?_ | refine ent_take 3 rfl ?_ | refine ent_take 4 rfl ?_ | refine ent_take 5 rfl ?_ | refine ent_take 6 rfl ?_ | refine ent_take 7 rfl ?_))

theorem due_ok (qa : Option Addr) : FSpec Try.prog 18 [.pointer qa] noRd [] (fun c : Nat => .func (.func 21) #[] #[.pointer (some ⟨c, 0, none⟩)]) (fun _ => True) (fun c => [pts c 24 [.pointer qa]]) := by
  refine FSpec.intro (rs := [.tmp 2]) (by kernel_rfl) Try.func18 rfl Try.ntmps18 (by rfl) rfl ?_
  intro F _
  change TC _ _ _ _ _ _ _ (sepL [_])
  refine TC.seq ?_
  refine TC.region ?_
  refine e rfl ?_
  refine bx (v := .pointer _) (l := [.pointer _]) rfl rfl ?_
  intro b3
  refine q rfl rfl (asg rfl) ?_
  refine TL.nil (nt ?_)
  refine TC.seq ?_
  refine TC.region ?_
  first | refine q rfl rfl (mkf (vf := []) (vc := [.pointer _]) rfl rfl) ?_ | refine q rfl rfl (mkf rfl rfl) ?_
  refine q rfl rfl (asg rfl) ?_
  refine TL.nil (nt ?_)
  refine TC.ret ?_
  exact Ret.i b3 [_] ⟨rfl, trivial⟩ rfl trivial (ent_take 0 rfl (ent_take 0 rfl (ent_nil _)))

def dueL (n : Int) (l : List (Int × Int)) : List (Int × Int) := l.takeWhile fun t => t.2 ≤ n
def restL (n : Int) (l : List (Int × Int)) : List (Int × Int) := l.dropWhile fun t => t.2 ≤ n

theorem due1_ok (c b : Nat) (p n : Int) (l : List (Int × Int)) (hl : l.length ≤ 100000000) : IterAll Try.prog 21 [.pointer (some ⟨c, 0, none⟩)] (fun x : Int => [.int .i64 x]) (fun bf _ => bf.length < l.length) [pts c 24 [.pointer (some ⟨b, 0, none⟩)], isQ b p n l] (fun _ : Unit => (dueL n l).map (·.1)) (fun _ => True) (fun _ => [pts c 24 [.pointer (some ⟨b, 0, none⟩)], isQ b p n (restL n l)]) := by
  refine IterAll.intro (by kernel_rfl) Try.func21 rfl Try.ntmps21 (by rfl) rfl ?_
  intro lp J hY
  change TC _ _ _ _ _ _ _ (sepL [_, _, _])
  refine TC.open 2 rfl (fun x0 hx0 => ?_)
  obtain ⟨ad0, cap0⟩ := x0
  clear hx0
  change TC _ _ _ _ _ _ _ (sepL [_, _, _, _])
  refine TC.block ?_
  refine TC.loop (ι := List (Int × Int) × List (Int × Int) × Option Addr × Nat) (fun i => l = i.1 ++ i.2.1 ∧ (∀ t ∈ i.1, t.2 ≤ n)) (fun i => [(0, .func (.yield lp) #[] #[]), (1, .pointer (some ⟨c, 0, none⟩))]) (fun i => sepL [J (i.1.map (·.1)), pts c 24 [.pointer (some ⟨b, 0, none⟩)], pts b 44 [.int .i64 p, .int .i64 n, .slice i.2.2.1 i.2.1.length i.2.2.2], slc 46 2 i.2.2.1 i.2.1.length i.2.2.2 (things i.2.1)]) (fun i => i.2.1.length) ⟨[], l, ad0, cap0⟩ ⟨rfl, by simp⟩ ⟨rfl, rfl, trivial⟩ (ent_take 2 rfl (ent_take 2 rfl (ent_take 0 rfl (ent_take 0 rfl (ent_nil _))))) ?_
  rintro ⟨dn, rs, ad, cap⟩ ⟨hld, hdn⟩ ρ0
  dsimp only [updL] at hld hdn ⊢
  cases rs with
  | nil => ?_
  | cons t rs => ?_
  · refine TC.seq ?_
    refine TC.seq ?_
    refine TC.draw _ [] [(0, false), (1, false), (2, false), (3, false), (4, false), (5, false), (6, false), (7, false), (8, false), (9, false), (10, false), (11, false), (12, false), (13, false), (14, false), (15, false), (16, false), (17, false), (18, false), (19, false)] (by kernel_rfl) (by kernel_rfl) (ent.refl _) ?_
    first | refine dq rfl rfl rfl (ld rfl rfl rfl) ?_ | refine dq rfl rfl rfl (ldS rfl rfl rfl) ?_
    first | refine dq rfl rfl rfl (nc rfl) ?_ | refine dq rfl rfl rfl (ncF rfl) ?_ | refine dq rfl rfl rfl (ncS rfl (by first | assumption | (simp [ints_length] <;> omega))) ?_
    first | refine dq rfl rfl rfl (fa 2 rfl rfl) ?_ | refine dq rfl rfl rfl (faS 2 rfl rfl (by first | assumption | (simp [ints_length] <;> omega))) ?_
    first | refine dq rfl rfl rfl (ld rfl rfl rfl) ?_ | refine dq rfl rfl rfl (ldS rfl rfl rfl) ?_
    refine dq rfl rfl rfl (len 46 2 rfl rfl) ?_
    refine dq rfl rfl rfl (gtr rfl rfl) ?_
    refine dq rfl rfl rfl (mv (v := .bool _) rfl) ?_
    refine TD.known 10 rfl (b' := false) (decide_eq_false (by simp)) ?_
    refine dk rfl rfl rfl rfl ?_
    refine dk rfl rfl rfl rfl ?_
    refine dk rfl rfl rfl rfl ?_
    refine dk rfl rfl rfl rfl ?_
    refine dk rfl rfl rfl rfl ?_
    refine dk rfl rfl rfl rfl ?_
    refine dk rfl rfl rfl rfl ?_
    refine dk rfl rfl rfl rfl ?_
    refine dk rfl rfl rfl rfl ?_
    refine dk rfl rfl rfl rfl ?_
    refine dk rfl rfl rfl rfl ?_
    refine dk rfl rfl rfl rfl ?_
    first | refine dq rfl rfl rfl (pkT rfl rfl) ?_ | refine dq rfl rfl rfl (pkF rfl rfl) ?_
    refine TD.nil (nt ?_)
    refine TC.condF rfl ?_
    refine TC.exit (et (et (eb ?_)))
    exact ⟨rfl, (), trivial, (by
          have e1 : dueL n l = dn := by rw [hld, List.append_nil]; exact tw_all (by simpa using hdn)
          have e2 : restL n l = [] := by rw [hld, List.append_nil]; exact dw_all (by simpa using hdn)
          rw [e1, e2]
          exact (ent_take 0 rfl (ent_take 0 rfl (ent_close ⟨ad, cap⟩ trivial (ent_take 0 rfl (ent_take 0 rfl (ent_nil _)))))))⟩
  · have hln : dn.length + rs.length + 1 = l.length := by rw [hld]; simp; omega
    have hc2 : 0 < (things (t :: rs)).length := by simp [things, thing]
    simp only [List.length_cons]
    refine TC.seq ?_
    refine TC.seq ?_
    refine TC.draw _ [] [(0, false), (1, false), (2, false), (3, false), (4, false), (5, false), (6, false), (7, false), (8, false), (9, false), (10, false), (11, false), (12, false), (13, false), (14, false), (15, false), (16, false), (17, false), (18, false), (19, false)] (by kernel_rfl) (by kernel_rfl) (ent.refl _) ?_
    first | refine dq rfl rfl rfl (ld rfl rfl rfl) ?_ | refine dq rfl rfl rfl (ldS rfl rfl rfl) ?_
    first | refine dq rfl rfl rfl (nc rfl) ?_ | refine dq rfl rfl rfl (ncF rfl) ?_ | refine dq rfl rfl rfl (ncS rfl (by first | assumption | (simp [ints_length] <;> omega))) ?_
    first | refine dq rfl rfl rfl (fa 2 rfl rfl) ?_ | refine dq rfl rfl rfl (faS 2 rfl rfl (by first | assumption | (simp [ints_length] <;> omega))) ?_
    first | refine dq rfl rfl rfl (ld rfl rfl rfl) ?_ | refine dq rfl rfl rfl (ldS rfl rfl rfl) ?_
    refine dq rfl rfl rfl (len 46 2 rfl rfl) ?_
    refine dq rfl rfl rfl (gtr rfl rfl) ?_
    refine dq rfl rfl rfl (mv (v := .bool _) rfl) ?_
    refine TD.known 10 rfl (b' := true) (decide_eq_true (by omega)) ?_
    first | refine dg rfl rfl rfl rfl (ld rfl rfl rfl) ?_ | refine dg rfl rfl rfl rfl (ldS rfl rfl rfl) ?_
    first | refine dg rfl rfl rfl rfl (nc rfl) ?_ | refine dg rfl rfl rfl rfl (ncF rfl) ?_ | refine dg rfl rfl rfl rfl (ncS rfl (by first | assumption | (simp [ints_length] <;> omega))) ?_
    first | refine dg rfl rfl rfl rfl (fa 2 rfl rfl) ?_ | refine dg rfl rfl rfl rfl (faS 2 rfl rfl (by first | assumption | (simp [ints_length] <;> omega))) ?_
    first | refine dg rfl rfl rfl rfl (ld rfl rfl rfl) ?_ | refine dg rfl rfl rfl rfl (ldS rfl rfl rfl) ?_
    first | refine dg rfl rfl rfl rfl (ixS 46 2 rfl rfl rfl (by omega) (by first | assumption | (simp [ints_length] <;> omega))) ?_ | refine dg rfl rfl rfl rfl (ixJ 46 2 rfl rfl rfl (by omega) (by omega) (by first | assumption | (simp [ints_length] <;> omega))) ?_ | refine dg rfl rfl rfl rfl (ix 46 2 rfl rfl rfl (by omega) (by omega) rfl) ?_
    first | refine dg rfl rfl rfl rfl (fa 1 rfl rfl) ?_ | refine dg rfl rfl rfl rfl (faS 1 rfl rfl (by first | assumption | (simp [ints_length] <;> omega))) ?_
    first | refine dg rfl rfl rfl rfl (ld rfl rfl rfl) ?_ | refine dg rfl rfl rfl rfl (ldS rfl rfl rfl) ?_
    first | refine dg rfl rfl rfl rfl (ld rfl rfl rfl) ?_ | refine dg rfl rfl rfl rfl (ldS rfl rfl rfl) ?_
    first | refine dg rfl rfl rfl rfl (nc rfl) ?_ | refine dg rfl rfl rfl rfl (ncF rfl) ?_ | refine dg rfl rfl rfl rfl (ncS rfl (by first | assumption | (simp [ints_length] <;> omega))) ?_
    first | refine dg rfl rfl rfl rfl (fa 1 rfl rfl) ?_ | refine dg rfl rfl rfl rfl (faS 1 rfl rfl (by first | assumption | (simp [ints_length] <;> omega))) ?_
    first | refine dg rfl rfl rfl rfl (ld rfl rfl rfl) ?_ | refine dg rfl rfl rfl rfl (ldS rfl rfl rfl) ?_
    refine dg rfl rfl rfl rfl (leq rfl rfl) ?_
    first | refine dq rfl rfl rfl (pkT rfl rfl) ?_ | refine dq rfl rfl rfl (pkF rfl rfl) ?_
    refine TD.nil (nt ?_)
    first | refine TC.condD rfl (fun hle => ?_) (fun hle => ?_) | refine TC.cond rfl (fun hle => ?_) (fun hle => ?_)
    · refine TC.skip (nt ?_)
      refine TC.block ?_
      refine TC.seq ?_
      refine TC.region ?_
      first | refine q rfl rfl (ld rfl rfl rfl) ?_ | refine q rfl rfl (ldS rfl rfl rfl) ?_
      first | refine q rfl rfl (nc rfl) ?_ | refine q rfl rfl (ncF rfl) ?_ | refine q rfl rfl (ncS rfl (by first | assumption | (simp [ints_length] <;> omega))) ?_
      first | refine q rfl rfl (fa 2 rfl rfl) ?_ | refine q rfl rfl (faS 2 rfl rfl (by first | assumption | (simp [ints_length] <;> omega))) ?_
      first | refine q rfl rfl (ld rfl rfl rfl) ?_ | refine q rfl rfl (ldS rfl rfl rfl) ?_
      first | refine q rfl rfl (ixS 46 2 rfl rfl rfl (by omega) (by first | assumption | (simp [ints_length] <;> omega))) ?_ | refine q rfl rfl (ixJ 46 2 rfl rfl rfl (by omega) (by omega) (by first | assumption | (simp [ints_length] <;> omega))) ?_ | refine q rfl rfl (ix 46 2 rfl rfl rfl (by omega) (by omega) rfl) ?_
      first | refine q rfl rfl (fa 0 rfl rfl) ?_ | refine q rfl rfl (faS 0 rfl rfl (by first | assumption | (simp [ints_length] <;> omega))) ?_
      first | refine q rfl rfl (ld rfl rfl rfl) ?_ | refine q rfl rfl (ldS rfl rfl rfl) ?_
      refine q rfl rfl (asg (v := .int _ _) rfl) ?_
      refine TL.nil (nt ?_)
      refine TC.seq ?_
      refine TC.draw _ [8] [(0, false), (1, false), (2, false), (3, false), (4, false), (5, false), (6, false), (7, false), (8, true)] (by kernel_rfl) (by kernel_rfl) (ent.refl _) ?_
      first | refine dq rfl rfl rfl (ld rfl rfl rfl) ?_ | refine dq rfl rfl rfl (ldS rfl rfl rfl) ?_
      first | refine dq rfl rfl rfl (ld rfl rfl rfl) ?_ | refine dq rfl rfl rfl (ldS rfl rfl rfl) ?_
      first | refine dq rfl rfl rfl (nc rfl) ?_ | refine dq rfl rfl rfl (ncF rfl) ?_ | refine dq rfl rfl rfl (ncS rfl (by first | assumption | (simp [ints_length] <;> omega))) ?_
      first | refine dq rfl rfl rfl (fa 2 rfl rfl) ?_ | refine dq rfl rfl rfl (faS 2 rfl rfl (by first | assumption | (simp [ints_length] <;> omega))) ?_
      first | refine dq rfl rfl rfl (ld rfl rfl rfl) ?_ | refine dq rfl rfl rfl (ldS rfl rfl rfl) ?_
      refine dq rfl rfl rfl (slF 46 2 rfl rfl rfl (by omega) (by omega)) ?_
      first | refine dq rfl rfl rfl (nc rfl) ?_ | refine dq rfl rfl rfl (ncF rfl) ?_ | refine dq rfl rfl rfl (ncS rfl (by first | assumption | (simp [ints_length] <;> omega))) ?_
      first | refine dq rfl rfl rfl (fa 2 rfl rfl) ?_ | refine dq rfl rfl rfl (faS 2 rfl rfl (by first | assumption | (simp [ints_length] <;> omega))) ?_
      refine dl0 rfl rfl rfl ?_
      refine st (v := .slice _ _ _) (vs := [_]) 1 rfl rfl rfl rfl rfl rfl (Nat.le_of_ble_eq_true rfl) rfl ?_
      refine TD.nil (nt ?_)
      refine TC.seq ?_
      refine TC.region ?_
      refine q rfl rfl (mv rfl) ?_
      refine q rfl rfl (mv (v := .int _ _) rfl) ?_
      refine e rfl ?_
      refine yld 1 (hY (dn.map (·.1)) t.1 _ (by simp; omega)) rfl rfl rfl ?_
      rintro b' A' ⟨rfl, rfl⟩
      change TL _ _ _ _ _ _ _ _ (sepL [_, _, _, _])
      first | refine q rfl rfl (notD rfl) ?_ | refine q rfl rfl (notB rfl) ?_
      refine TL.nil (nt ?_)
      refine TC.condF rfl ?_
      refine TC.skip (nb (nt ?_))
      exact ⟨rfl, ⟨dn ++ [t], rs, _, _⟩, ⟨by simp [hld], by intro s hs; rcases List.mem_append.1 hs with h | h; exact hdn s h; rw [List.mem_singleton.1 h]; exact hle⟩, (by simp), ⟨rfl, rfl, trivial⟩, (ent_takeE 0 rfl (by simp) (ent_take 1 rfl (ent_take 0 rfl (ent_takeW 0 rfl (slc_from (j := 1) (by omega)) (ent_nil _)))))⟩
    · refine TC.exit (et (et (eb ?_)))
      exact ⟨rfl, (), trivial, (by
              have e1 : dueL n l = dn := by
                rw [hld, dueL, tw_app (by simpa using hdn), List.takeWhile_cons_of_neg (by simpa using hle), List.append_nil]
              have e2 : restL n l = t :: rs := by
                rw [hld, restL, dw_app (by simpa using hdn), List.dropWhile_cons_of_neg (by simpa using hle)]
              rw [e1, e2]
              exact (ent_take 0 rfl (ent_take 0 rfl (ent_close ⟨ad, cap⟩ trivial (ent_take 0 rfl (ent_take 0 rfl (ent_nil _)))))))⟩

def isOut (c : Nat) (xs : List Int) : HP := EX fun x : Option Addr × Nat => pure' True (sepL [pts c 29 [.slice x.1 xs.length x.2], slc 3 1 x.1 xs.length x.2 (ints xs)])

theorem tick_ok (b : Nat) (p n : Int) (l : List (Int × Int)) (hn : 0 ≤ n ∧ n ≤ 1000000000) (hl : l.length ≤ 100000000) : FSpec Try.prog 11 [.pointer (some ⟨b, 0, none⟩)] noRd [isQ b p n l] (fun y : Option Addr × Nat => .slice y.1 ((dueL (n + 1) l).map (·.1)).length y.2) (fun _ => True) (fun y => [isQ b p (n + 1) (restL (n + 1) l), slc 3 1 y.1 ((dueL (n + 1) l).map (·.1)).length y.2 (ints ((dueL (n + 1) l).map (·.1)))]) := by
  refine FSpec.introM (rs := [.tmp 2]) (by kernel_rfl) Try.func11 rfl Try.ntmps11 (by rfl) rfl ?_
  intro F _
  change TC _ _ _ _ _ _ _ (sepL [_, _])
  refine TC.open 0 rfl (fun x0 hx0 => ?_)
  obtain ⟨ad, cap⟩ := x0
  clear hx0
  change TC _ _ _ _ _ _ _ (sepL [_, _, _])
  refine TC.seq ?_
  refine TC.region ?_
  refine q rfl rfl (asg (v := .slice _ _ _) rfl) ?_
  refine TL.nil (nt ?_)
  refine TC.seq ?_
  refine TC.region ?_
  refine e rfl ?_
  refine al (l := [.slice _ _ _]) rfl rfl ?_
  intro b4
  refine TL.nil (nt ?_)
  refine TC.seq ?_
  refine TC.seq ?_
  refine TC.region ?_
  refine q rfl rfl (mv (v := .pointer _) rfl) ?_
  refine q rfl rfl (eqNil rfl rfl rfl) ?_
  refine TL.nil (nt ?_)
  refine TC.condF rfl ?_
  refine TC.skip (nt ?_)
  refine TC.seq ?_
  refine TC.region ?_
  refine q rfl rfl (mv (v := .pointer _) rfl) ?_
  first | refine q rfl rfl (nc rfl) ?_ | refine q rfl rfl (ncF rfl) ?_ | refine q rfl rfl (ncS rfl (by first | assumption | (simp [ints_length] <;> omega))) ?_
  first | refine q rfl rfl (fa 1 rfl rfl) ?_ | refine q rfl rfl (faS 1 rfl rfl (by first | assumption | (simp [ints_length] <;> omega))) ?_
  first | refine q rfl rfl (ld rfl rfl rfl) ?_ | refine q rfl rfl (ldS rfl rfl rfl) ?_
  first | refine q rfl rfl (addI rfl rfl (by omega) (by omega)) ?_ | refine q rfl rfl (add rfl rfl rfl) ?_
  first | refine q rfl rfl (nc rfl) ?_ | refine q rfl rfl (ncF rfl) ?_ | refine q rfl rfl (ncS rfl (by first | assumption | (simp [ints_length] <;> omega))) ?_
  first | refine q rfl rfl (fa 1 rfl rfl) ?_ | refine q rfl rfl (faS 1 rfl rfl (by first | assumption | (simp [ints_length] <;> omega))) ?_
  refine e0 ?_
  refine st (v := .int _ _) (vs := [_]) 1 rfl rfl rfl rfl rfl rfl (Nat.le_of_ble_eq_true rfl) rfl ?_
  refine TL.nil (nt ?_)
  refine TC.seq ?_
  refine TC.seq ?_
  refine TC.region ?_
  refine q rfl rfl (mv (v := .pointer _) rfl) ?_
  refine e rfl ?_
  refine cl (due_ok _) rfl (picked_nil _) trivial ?_
  intro c2 _
  change TL _ _ _ _ _ _ _ _ (sepL [_, _, _, _, _])
  refine TL.nil (nt ?_)
  refine TC.block ?_
  refine TC.weak (B := sepL [pts c2 24 [.pointer (some ⟨b, 0, none⟩)], isQ b p (n + 1) l, isOut b4 [], F]) ((slc_nil 3 1 _).trans (ent_take 1 rfl (ent_close ⟨ad, cap⟩ trivial (ent_take 1 rfl (ent_take 2 rfl (ent_close ⟨none, 0⟩ trivial (ent_take 1 rfl (ent_take 0 rfl (ent_take 0 rfl (ent_nil _)))))))))) ?_
  refine TC.rangeF (fun bf => [isOut b4 bf]) (due1_ok c2 b p (n + 1) l hl) rfl (picked_cons 0 rfl (picked_cons 0 rfl (picked_nil _))) (picked_cons 0 rfl (picked_nil _)) (fun _ => rfl) rfl ?_ ?_
  · rintro lp bf x F' hok
    change TC _ _ _ _ _ _ _ (sepL [_, _])
    refine TC.region ?_
    refine q rfl rfl (asg (v := .int _ _) rfl) ?_
    refine TL.nil (nt ?_)
    refine ⟨rfl, (ent.refl _), fun F'' => ?_⟩
    change TC _ _ _ _ _ _ _ (sepL [_, _])
    refine TC.open 0 rfl (fun x0 hx0 => ?_)
    obtain ⟨ad1, cap1⟩ := x0
    clear hx0
    change TC _ _ _ _ _ _ _ (sepL [_, _, _])
    refine TC.block ?_
    refine TC.region ?_
    first | refine q rfl rfl (ld rfl rfl rfl) ?_ | refine q rfl rfl (ldS rfl rfl rfl) ?_
    refine q rfl rfl (mv (v := .int _ _) rfl) ?_
    refine e rfl ?_
    refine bs (cs := [.int _ _]) rfl ?_
    intro b5
    refine e rfl ?_
    refine ap 8 rfl rfl rfl rfl rfl (Nat.le_of_ble_eq_true rfl) rfl rfl (by omega) (by simp only [maxLen]; omega) ?_
    intro ad2 cap2
    refine e0 ?_
    refine st (v := .slice _ _ _) (vs := [_]) 1 rfl rfl rfl rfl rfl rfl (Nat.le_of_ble_eq_true rfl) rfl ?_
    refine TL.nil (nb ?_)
    refine ⟨rfl, rfl, ?_⟩
    change ent (sepL [_, _, _, _]) (sepL [_, _])
    exact (ent_close ⟨ad2, cap2⟩ trivial (ent_takeE 0 rfl (by simp [splice, Value.cells]) (ent_takeE 0 rfl (by simp [ints]) (ent_take 1 rfl (ent_nil _)))))
  · intro D y hy
    refine (nb (nt ?_))
    change TC _ _ _ _ _ _ _ (sepL [_, _, _, _, _])
    refine TC.open 2 rfl (fun x0 hx0 => ?_)
    obtain ⟨ad2, cap2⟩ := x0
    clear hx0
    change TC _ _ _ _ _ _ _ (sepL [_, _, _, _, _, _])
    refine TC.seq ?_
    refine TC.region ?_
    first | refine q rfl rfl (ld rfl rfl rfl) ?_ | refine q rfl rfl (ldS rfl rfl rfl) ?_
    refine q rfl rfl (asg (v := .slice _ _ _) rfl) ?_
    refine TL.nil (nt ?_)
    refine TC.ret ?_
    exact .inl ⟨⟨ad2, cap2⟩, [_], D, rfl, rfl, ⟨rfl, trivial⟩, rfl, trivial, (ent_take 4 rfl (ent_take 3 rfl (ent_take 1 rfl (ent_take 2 rfl (ent_nil _)))))⟩

end Go.Proofs.Ytdpadbhfhlhnlaa
