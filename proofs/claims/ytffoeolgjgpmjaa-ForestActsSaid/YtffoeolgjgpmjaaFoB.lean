/-
  Proved here: what functions of this program compute, each as a contract over symbolic states, under the premises that each theorem names (most lines printed by a program of the prover).
-/
import Derived.Test.YtffoeolgjgpmjaaFoA
namespace Go.Proofs.Ytffoeolgjgpmjaa
open Go Go.QM
def findN (L : List Fn) (id : Int) : Option Fn := L.find? fun t => decide (t.id = id)
theorem findN_yes {S : List Fn} (h : NdN S) {t : Fn} (ht : t ∈ S) : findN S t.id = some t := by
  rw [findN]
  cases hf : S.find? fun u => decide (u.id = t.id) with
  | none => rw [List.find?_eq_none] at hf; exact absurd (decide_eq_true rfl) (hf t ht)
  | some u =>
    have h1 := List.find?_some hf
    have h2 := List.mem_of_find?_eq_some hf
    rw [h.inj h2 ht (by simpa using h1)]
theorem findN_no {S : List Fn} {id : Int} (h : ¬ hasN S id) : findN S id = none := by
  rw [findN, List.find?_eq_none]; intro u hu; simp only [decide_eq_true_eq]; exact fun e => h ⟨u, hu, e⟩
def ownN (L : List Fn) (id : Int) : Int × Int × Bool := match findN L id with
  | some t => (t.sp, t.sl, true)
  | none => (0, 0, false)
def parN (L : List Fn) (id : Int) : Int := match findN L id with
  | some t => t.par
  | none => 0
def kidsR (L : List Fn) (id : Int) : List Int := if hasN L id then kidsN L id else []
theorem kids_new {S : List Fn} {last : Int} (h : WI S last) {x : Int} (hx : last < x) : kidsN S x = [] := by
  rw [kidsN, List.filter_eq_nil_iff.2]
  · rfl
  · intro t ht
    have := h.rg t ht
    simp only [decide_eq_true_eq]; omega
theorem kids_self {S : List Fn} (par : Int) (o : Int × Int) {x : Int} (h : par ≠ x) (last : Int) : kidsN (S ++ [⟨last, par, o.1, o.2⟩]) x = kidsN S x := by
  rw [kidsN_app, kidsN_one_ne h, List.append_nil]
theorem has_new {S : List Fn} {last : Int} (h : WI S last) {x : Int} (hx : last < x) : ¬ hasN S x := fun h2 => by have := hasN_pos h h2; omega
theorem fnew_ent (b mb ob : Nat) (F : HP) : ent (sepL [pts b 64 [.map (some mb), .map (some ob), .int .i64 0], mapF enc2 ob (fun _ => none) 0, mapF encI mb (fun _ => none) 0, F]) (sepL [isF b [] 0, F]) := by
  have hf : fN (fun _ => 0) [] = fun _ => none := funext fun _ => if_neg (by simp [hasN])
  have ho : fO [] = fun _ => none := funext fun _ => if_neg (by simp [hasO])
  refine (bigS_nil (f := nP (fun _ => 0) (fun _ => none) (fun _ => 0) []) _).trans ?_
  refine (bigS_nil (f := kP (fun _ => none) (fun _ => 0) []) _).trans ?_
  refine ent_close (fun _ => 0 : Int → Nat) trivial ?_
  refine ent_close (⟨fun _ => none, fun _ => 0, mb, ob⟩ : FRep) WI.nil ?_
  exact ent_take 2 rfl (ent_takeE 3 rfl (by rw [hf]; rfl) (ent_takeE 2 rfl (by rw [ho]; rfl) (ent_take 1 rfl (ent_take 0 rfl (ent_take 0 rfl (ent_nil _))))))

theorem fnew_ok  : FSpec Try.prog 19 [] noRd [] (fun b : Nat => .pointer (some ⟨b, 0, none⟩)) (fun _ => True) (fun b => [isF b [] 0]) := by
  refine FSpec.intro (rs := [.tmp 0]) (by kernel_rfl) Try.func19 rfl Try.ntmps19 (by rfl) rfl ?_
  intro F _
  change TC _ _ _ _ _ _ _ (sepL [_])
  refine TC.seq ?_
  refine TC.region ?_
  refine q rfl rfl (asg (v := .pointer _) rfl) ?_
  refine TL.nil (nt ?_)
  refine TC.seq ?_
  refine TC.region ?_
  refine e rfl ?_
  refine mkF encI ?_
  intro b1
  refine e rfl ?_
  refine mkF enc2 ?_
  intro b2
  first | refine q rfl rfl (bld (cs := [.map _, .map _, .int _ _]) rfl) ?_ | refine q rfl rfl (bld (cs := [_, _, _]) rfl) ?_
  refine e rfl ?_
  refine bx (v := .agg #[_, _, _]) (l := [.map _, .map _, .int _ _]) rfl rfl ?_
  intro b3
  refine q rfl rfl (asg (v := .pointer _) rfl) ?_
  refine TL.nil (nt ?_)
  refine TC.ret ?_
  exact Ret.i b3 [_] ⟨rfl, trivial⟩ rfl trivial (fnew_ent b3 b1 b2 F)

theorem fat_ok (b mb ob n : Nat) (last : Int) (f : Int → Option Value) (id : Int) : FSpec Try.prog 29 [.pointer (some ⟨b, 0, none⟩), .int .i64 id] noRd [pts b 64 (hdF mb ob last), mapF encI mb f n] (fun _ : Unit => (f id).getD (.pointer none)) (fun _ => True) (fun _ => [pts b 64 (hdF mb ob last), mapF encI mb f n]) := by
  refine FSpec.intro (rs := [.tmp 4]) (by kernel_rfl) Try.func29 rfl Try.ntmps29 (by rfl) rfl ?_
  intro F _
  change TC _ _ _ _ _ _ _ (sepL [_, _, _])
  refine TC.seq ?_
  refine TC.region ?_
  refine q rfl rfl (asg rfl) ?_
  refine TL.nil (nt ?_)
  refine TC.seq ?_
  refine TC.seq ?_
  refine TC.region ?_
  refine q rfl rfl (mv rfl) ?_
  refine q rfl rfl (eqNil rfl rfl rfl) ?_
  refine TL.nil (nt ?_)
  refine TC.condF rfl ?_
  refine TC.skip (nt ?_)
  refine TC.seq ?_
  refine TC.region ?_
  refine q rfl rfl (mv rfl) ?_
  first | refine q rfl rfl (nc rfl) ?_ | refine q rfl rfl (ncF rfl) ?_ | refine q rfl rfl (ncS rfl (by first | assumption | (simp [ints_length] <;> omega))) ?_
  first | refine q rfl rfl (fa 0 rfl rfl) ?_ | refine q rfl rfl (faS 0 rfl rfl (by first | assumption | (simp [ints_length] <;> omega))) ?_
  first | refine q rfl rfl (ld rfl rfl rfl) ?_ | refine q rfl rfl (ldS rfl rfl rfl) ?_
  refine q rfl rfl (mv rfl) ?_
  refine q rfl rfl (luF 3 59 rfl rfl (KL.int rfl) rfl rfl) ?_
  refine q rfl rfl (asg rfl) ?_
  refine TL.nil (nt ?_)
  refine TC.ret ?_
  exact Ret.i () [_] ⟨rfl, trivial⟩ rfl trivial (ent_take 0 rfl (ent_take 0 rfl (ent_take 0 rfl (ent_nil _))))

theorem fat_nil (id : Int) : FSpec Try.prog 29 [.pointer none, .int .i64 id] noRd [] (fun _ : Unit => .pointer none) (fun _ => True) (fun _ => []) := by
  refine FSpec.intro (rs := [.tmp 4]) (by kernel_rfl) Try.func29 rfl Try.ntmps29 (by rfl) rfl ?_
  intro F _
  change TC _ _ _ _ _ _ _ (sepL [_])
  refine TC.seq ?_
  refine TC.region ?_
  refine q rfl rfl (asg (v := .pointer _) rfl) ?_
  refine TL.nil (nt ?_)
  refine TC.seq ?_
  refine TC.seq ?_
  refine TC.region ?_
  refine q rfl rfl (mv (v := .pointer _) rfl) ?_
  refine q rfl rfl (eqNil rfl rfl rfl) ?_
  refine TL.nil (nt ?_)
  refine TC.condT rfl ?_
  refine TC.seq ?_
  refine TC.region ?_
  refine q rfl rfl (asg (v := .pointer _) rfl) ?_
  refine TL.nil (nt ?_)
  refine TC.ret (rt ?_)
  exact Ret.i () [_] ⟨rfl, trivial⟩ rfl trivial (ent_take 0 rfl (ent_nil _))

theorem flen_ok (b : Nat) (L : List Fn) (last : Int) : FSpec Try.prog 14 [.pointer (some ⟨b, 0, none⟩)] noRd [isF b L last] (fun _ : Unit => .int .i64 L.length) (fun _ => True) (fun _ => [isF b L last]) := by
  refine FSpec.intro (rs := [.tmp 2]) (by kernel_rfl) Try.func14 rfl Try.ntmps14 (by rfl) rfl ?_
  intro F _
  change TC _ _ _ _ _ _ _ (sepL [_, _])
  refine TC.open 0 rfl (fun A _ => ?_)
  change TC _ _ _ _ _ _ _ (sepL [_, _])
  refine TC.open 0 rfl (fun x0 hx0 => ?_)
  obtain ⟨ad, cap, mb, ob⟩ := x0
  have hW := hx0
  change TC _ _ _ _ _ _ _ (sepL [_, _, _, _, _, _])
  dsimp only at hW ⊢
  refine TC.seq ?_
  refine TC.region ?_
  refine q rfl rfl (asg (v := .int _ _) rfl) ?_
  refine TL.nil (nt ?_)
  refine TC.seq ?_
  refine TC.seq ?_
  refine TC.region ?_
  refine q rfl rfl (mv (v := .pointer _) rfl) ?_
  refine q rfl rfl (eqNil rfl rfl rfl) ?_
  refine TL.nil (nt ?_)
  refine TC.condF rfl ?_
  refine TC.skip (nt ?_)
  refine TC.seq ?_
  refine TC.region ?_
  refine q rfl rfl (mv (v := .pointer _) rfl) ?_
  first | refine q rfl rfl (nc rfl) ?_ | refine q rfl rfl (ncF rfl) ?_ | refine q rfl rfl (ncS rfl (by first | assumption | (simp [ints_length] <;> omega))) ?_
  first | refine q rfl rfl (fa 0 rfl rfl) ?_ | refine q rfl rfl (faS 0 rfl rfl (by first | assumption | (simp [ints_length] <;> omega))) ?_
  first | refine q rfl rfl (ld rfl rfl rfl) ?_ | refine q rfl rfl (ldS rfl rfl rfl) ?_
  refine q rfl rfl (lnF 3 59 rfl rfl) ?_
  refine q rfl rfl (asg (v := .int _ _) rfl) ?_
  refine TL.nil (nt ?_)
  refine TC.ret ?_
  exact Ret.i () [_] ⟨rfl, trivial⟩ rfl trivial (ent_close A trivial (ent_close ⟨ad, cap, mb, ob⟩ hW (ent_take 0 rfl (ent_take 0 rfl (ent_take 0 rfl (ent_take 0 rfl (ent_take 0 rfl (ent_take 0 rfl (ent_nil _)))))))))

theorem flen_nil  : FSpec Try.prog 14 [.pointer none] noRd [] (fun _ : Unit => .int .i64 0) (fun _ => True) (fun _ => []) := by
  refine FSpec.intro (rs := [.tmp 2]) (by kernel_rfl) Try.func14 rfl Try.ntmps14 (by rfl) rfl ?_
  intro F _
  change TC _ _ _ _ _ _ _ (sepL [_])
  refine TC.seq ?_
  refine TC.region ?_
  refine q rfl rfl (asg (v := .int _ _) rfl) ?_
  refine TL.nil (nt ?_)
  refine TC.seq ?_
  refine TC.seq ?_
  refine TC.region ?_
  refine q rfl rfl (mv (v := .pointer _) rfl) ?_
  refine q rfl rfl (eqNil rfl rfl rfl) ?_
  refine TL.nil (nt ?_)
  refine TC.condT rfl ?_
  refine TC.seq ?_
  refine TC.region ?_
  refine q rfl rfl (asg (v := .int _ _) rfl) ?_
  refine TL.nil (nt ?_)
  refine TC.ret (rt ?_)
  exact Ret.i () [_] ⟨rfl, trivial⟩ rfl trivial (ent_take 0 rfl (ent_nil _))

theorem ffind_ok (b : Nat) (L : List Fn) (last : Int) (sp sl : Int) : FSpec Try.prog 12 [.pointer (some ⟨b, 0, none⟩), .int .i64 sp, .int .i64 sl] noRd [isF b L last] (fun _ : Unit => .int .i64 (findO L (sp, sl))) (fun _ => True) (fun _ => [isF b L last]) := by
  refine FSpec.intro (rs := [.tmp 6]) (by kernel_rfl) Try.func12 rfl Try.ntmps12 (by rfl) rfl ?_
  intro F _
  change TC _ _ _ _ _ _ _ (sepL [_, _])
  refine TC.open 0 rfl (fun A _ => ?_)
  change TC _ _ _ _ _ _ _ (sepL [_, _])
  refine TC.open 0 rfl (fun x0 hx0 => ?_)
  obtain ⟨ad, cap, mb, ob⟩ := x0
  have hW := hx0
  change TC _ _ _ _ _ _ _ (sepL [_, _, _, _, _, _])
  dsimp only at hW ⊢
  refine TC.seq ?_
  refine TC.region ?_
  refine q rfl rfl (asg (v := .int _ _) rfl) ?_
  refine TL.nil (nt ?_)
  refine TC.seq ?_
  refine TC.seq ?_
  refine TC.region ?_
  refine q rfl rfl (mv (v := .pointer _) rfl) ?_
  refine q rfl rfl (eqNil rfl rfl rfl) ?_
  refine TL.nil (nt ?_)
  refine TC.condF rfl ?_
  refine TC.skip (nt ?_)
  refine TC.seq ?_
  refine TC.region ?_
  refine q rfl rfl (mv (v := .pointer _) rfl) ?_
  first | refine q rfl rfl (nc rfl) ?_ | refine q rfl rfl (ncF rfl) ?_ | refine q rfl rfl (ncS rfl (by first | assumption | (simp [ints_length] <;> omega))) ?_
  first | refine q rfl rfl (fa 1 rfl rfl) ?_ | refine q rfl rfl (faS 1 rfl rfl (by first | assumption | (simp [ints_length] <;> omega))) ?_
  first | refine q rfl rfl (ld rfl rfl rfl) ?_ | refine q rfl rfl (ldS rfl rfl rfl) ?_
  refine q rfl rfl (mv (v := .int _ _) rfl) ?_
  refine q rfl rfl (mv (v := .int _ _) rfl) ?_
  first | refine q rfl rfl (bld (cs := ints [_, _]) rfl) ?_ | refine q rfl rfl (bld (cs := [_, _]) rfl) ?_
  refine q rfl rfl (luF (a := (_, _)) 44 3 rfl rfl (KL.pair (by kernel_rfl)) rfl rfl) ?_
  rw [fO_get]
  refine q rfl rfl (asg (v := .int _ _) rfl) ?_
  refine TL.nil (nt ?_)
  refine TC.ret ?_
  exact Ret.i () [_] ⟨rfl, trivial⟩ rfl trivial (ent_close A trivial (ent_close ⟨ad, cap, mb, ob⟩ hW (ent_take 0 rfl (ent_take 0 rfl (ent_take 0 rfl (ent_take 0 rfl (ent_take 0 rfl (ent_take 0 rfl (ent_nil _)))))))))

theorem ffind_nil (sp sl : Int) : FSpec Try.prog 12 [.pointer none, .int .i64 sp, .int .i64 sl] noRd [] (fun _ : Unit => .int .i64 0) (fun _ => True) (fun _ => []) := by
  refine FSpec.intro (rs := [.tmp 6]) (by kernel_rfl) Try.func12 rfl Try.ntmps12 (by rfl) rfl ?_
  intro F _
  change TC _ _ _ _ _ _ _ (sepL [_])
  refine TC.seq ?_
  refine TC.region ?_
  refine q rfl rfl (asg (v := .int _ _) rfl) ?_
  refine TL.nil (nt ?_)
  refine TC.seq ?_
  refine TC.seq ?_
  refine TC.region ?_
  refine q rfl rfl (mv (v := .pointer _) rfl) ?_
  refine q rfl rfl (eqNil rfl rfl rfl) ?_
  refine TL.nil (nt ?_)
  refine TC.condT rfl ?_
  refine TC.seq ?_
  refine TC.region ?_
  refine q rfl rfl (asg (v := .int _ _) rfl) ?_
  refine TL.nil (nt ?_)
  refine TC.ret (rt ?_)
  exact Ret.i () [_] ⟨rfl, trivial⟩ rfl trivial (ent_take 0 rfl (ent_nil _))

theorem fowner_ok (b : Nat) (L : List Fn) (last : Int) (id : Int) : FSpec Try.prog 10 [.pointer (some ⟨b, 0, none⟩), .int .i64 id] noRd [isF b L last] (fun _ : Unit => .tuple #[.int .i64 (ownN L id).1, .int .i64 (ownN L id).2.1, .bool (ownN L id).2.2]) (fun _ => True) (fun _ => [isF b L last]) := by
  refine FSpec.intro (rs := [.tmp 4, .tmp 5, .tmp 6]) (by kernel_rfl) Try.func10 rfl Try.ntmps10 (by rfl) rfl ?_
  intro F _
  change TC _ _ _ _ _ _ _ (sepL [_, _])
  refine TC.open 0 rfl (fun A _ => ?_)
  change TC _ _ _ _ _ _ _ (sepL [_, _])
  refine TC.open 0 rfl (fun x0 hx0 => ?_)
  obtain ⟨ad, cap, mb, ob⟩ := x0
  have hW := hx0
  change TC _ _ _ _ _ _ _ (sepL [_, _, _, _, _, _])
  dsimp only at hW ⊢
  by_cases hy : hasN L id
  · have hf := fN_yes (A := A) hy
    obtain ⟨t, ht, rfl⟩ := hy
    obtain ⟨M, hM⟩ := perm_mem ht
    have hv : ownN L t.id = (t.sp, t.sl, true) := by rw [ownN, findN_yes hW.nd ht]
    rw [hv]
    refine TC.weak (ent_openB 3 rfl hM) ?_
    refine TC.seq ?_
    refine TC.region ?_
    refine q rfl rfl (asg (v := .int _ _) rfl) ?_
    refine q rfl rfl (asg (v := .int _ _) rfl) ?_
    refine q rfl rfl (asg (v := .bool _) rfl) ?_
    refine TL.nil (nt ?_)
    refine TC.seq ?_
    refine TC.region ?_
    refine q rfl rfl (mv (v := .pointer _) rfl) ?_
    refine q rfl rfl (mv (v := .int _ _) rfl) ?_
    refine e rfl ?_
    refine cl (fat_ok b mb ob L.length last (fN A L) t.id) rfl (picked_cons 2 rfl (picked_cons 2 rfl (picked_nil _))) trivial ?_
    intro _ _
    change TL _ _ _ _ _ _ _ _ (sepL [_, _, _, _, _, _, _])
    rw [hf]
    refine q rfl rfl (asg (v := .pointer _) rfl) ?_
    refine TL.nil (nt ?_)
    refine TC.seq ?_
    refine TC.seq ?_
    refine TC.region ?_
    refine q rfl rfl (mv (v := .pointer _) rfl) ?_
    refine q rfl rfl (eqNil rfl rfl rfl) ?_
    refine TL.nil (nt ?_)
    refine TC.condF rfl ?_
    refine TC.skip (nt ?_)
    refine TC.seq ?_
    refine TC.draw _ [] [(0, false), (1, false), (2, false), (3, false), (4, false), (5, false), (6, false), (7, false), (8, false), (9, false), (10, false), (11, false), (12, false)] (by kernel_rfl) (by kernel_rfl) (ent.refl _) ?_
    refine dq rfl rfl rfl (mv (v := .pointer _) rfl) ?_
    first | refine dq rfl rfl rfl (nc rfl) ?_ | refine dq rfl rfl rfl (ncF rfl) ?_ | refine dq rfl rfl rfl (ncS rfl (by first | assumption | (simp [ints_length] <;> omega))) ?_
    first | refine dq rfl rfl rfl (fa 0 rfl rfl) ?_ | refine dq rfl rfl rfl (faS 0 rfl rfl (by first | assumption | (simp [ints_length] <;> omega))) ?_
    first | refine dq rfl rfl rfl (fa 0 rfl rfl) ?_ | refine dq rfl rfl rfl (faS 0 rfl rfl (by first | assumption | (simp [ints_length] <;> omega))) ?_
    first | refine dq rfl rfl rfl (ld rfl rfl rfl) ?_ | refine dq rfl rfl rfl (ldS rfl rfl rfl) ?_
    refine dq rfl rfl rfl (mv (v := .pointer _) rfl) ?_
    first | refine dq rfl rfl rfl (nc rfl) ?_ | refine dq rfl rfl rfl (ncF rfl) ?_ | refine dq rfl rfl rfl (ncS rfl (by first | assumption | (simp [ints_length] <;> omega))) ?_
    first | refine dq rfl rfl rfl (fa 0 rfl rfl) ?_ | refine dq rfl rfl rfl (faS 0 rfl rfl (by first | assumption | (simp [ints_length] <;> omega))) ?_
    first | refine dq rfl rfl rfl (fa 1 rfl rfl) ?_ | refine dq rfl rfl rfl (faS 1 rfl rfl (by first | assumption | (simp [ints_length] <;> omega))) ?_
    first | refine dq rfl rfl rfl (ld rfl rfl rfl) ?_ | refine dq rfl rfl rfl (ldS rfl rfl rfl) ?_
    refine dq rfl rfl rfl (asg (v := .int _ _) rfl) ?_
    refine dq rfl rfl rfl (asg (v := .int _ _) rfl) ?_
    refine dq rfl rfl rfl (asg (v := .bool _) rfl) ?_
    refine TD.nil (nt ?_)
    refine TC.ret ?_
    exact Ret.i () [_, _, _] ⟨rfl, rfl, rfl, trivial⟩ rfl trivial (ent_close A trivial (ent_close ⟨ad, cap, mb, ob⟩ hW (ent_take 0 rfl (ent_take 0 rfl (ent_take 2 rfl (ent_closeB 0 0 t rfl rfl rfl (fun _ _ => rfl) hM.symm (ent_take 0 rfl (ent_take 0 rfl (ent_nil _)))))))))
  · have hf := fN_no (A := A) hy
    have hv : ownN L id = (0, 0, false) := by rw [ownN, findN_no hy]
    rw [hv]
    refine TC.seq ?_
    refine TC.region ?_
    refine q rfl rfl (asg (v := .int _ _) rfl) ?_
    refine q rfl rfl (asg (v := .int _ _) rfl) ?_
    refine q rfl rfl (asg (v := .bool _) rfl) ?_
    refine TL.nil (nt ?_)
    refine TC.seq ?_
    refine TC.region ?_
    refine q rfl rfl (mv (v := .pointer _) rfl) ?_
    refine q rfl rfl (mv (v := .int _ _) rfl) ?_
    refine e rfl ?_
    refine cl (fat_ok b mb ob L.length last (fN A L) id) rfl (picked_cons 0 rfl (picked_cons 0 rfl (picked_nil _))) trivial ?_
    intro _ _
    change TL _ _ _ _ _ _ _ _ (sepL [_, _, _, _, _, _])
    rw [hf]
    refine q rfl rfl (asg (v := .pointer _) rfl) ?_
    refine TL.nil (nt ?_)
    refine TC.seq ?_
    refine TC.seq ?_
    refine TC.region ?_
    refine q rfl rfl (mv (v := .pointer _) rfl) ?_
    refine q rfl rfl (eqNil rfl rfl rfl) ?_
    refine TL.nil (nt ?_)
    refine TC.condT rfl ?_
    refine TC.seq ?_
    refine TC.region ?_
    refine q rfl rfl (asg (v := .int _ _) rfl) ?_
    refine q rfl rfl (asg (v := .int _ _) rfl) ?_
    refine q rfl rfl (asg (v := .bool _) rfl) ?_
    refine TL.nil (nt ?_)
    refine TC.ret (rt ?_)
    exact Ret.i () [_, _, _] ⟨rfl, rfl, rfl, trivial⟩ rfl trivial (ent_close A trivial (ent_close ⟨ad, cap, mb, ob⟩ hW (ent_take 0 rfl (ent_take 0 rfl (ent_take 0 rfl (ent_take 0 rfl (ent_take 0 rfl (ent_take 0 rfl (ent_nil _)))))))))

theorem fowner_nil (id : Int) : FSpec Try.prog 10 [.pointer none, .int .i64 id] noRd [] (fun _ : Unit => .tuple #[.int .i64 0, .int .i64 0, .bool false]) (fun _ => True) (fun _ => []) := by
  refine FSpec.intro (rs := [.tmp 4, .tmp 5, .tmp 6]) (by kernel_rfl) Try.func10 rfl Try.ntmps10 (by rfl) rfl ?_
  intro F _
  change TC _ _ _ _ _ _ _ (sepL [_])
  refine TC.seq ?_
  refine TC.region ?_
  refine q rfl rfl (asg (v := .int _ _) rfl) ?_
  refine q rfl rfl (asg (v := .int _ _) rfl) ?_
  refine q rfl rfl (asg (v := .bool _) rfl) ?_
  refine TL.nil (nt ?_)
  refine TC.seq ?_
  refine TC.region ?_
  refine q rfl rfl (mv (v := .pointer _) rfl) ?_
  refine q rfl rfl (mv (v := .int _ _) rfl) ?_
  refine e rfl ?_
  refine cl (fat_nil id) rfl (picked_nil _) trivial ?_
  intro _ _
  change TL _ _ _ _ _ _ _ _ (sepL [_])
  refine q rfl rfl (asg (v := .pointer _) rfl) ?_
  refine TL.nil (nt ?_)
  refine TC.seq ?_
  refine TC.seq ?_
  refine TC.region ?_
  refine q rfl rfl (mv (v := .pointer _) rfl) ?_
  refine q rfl rfl (eqNil rfl rfl rfl) ?_
  refine TL.nil (nt ?_)
  refine TC.condT rfl ?_
  refine TC.seq ?_
  refine TC.region ?_
  refine q rfl rfl (asg (v := .int _ _) rfl) ?_
  refine q rfl rfl (asg (v := .int _ _) rfl) ?_
  refine q rfl rfl (asg (v := .bool _) rfl) ?_
  refine TL.nil (nt ?_)
  refine TC.ret (rt ?_)
  exact Ret.i () [_, _, _] ⟨rfl, rfl, rfl, trivial⟩ rfl trivial (ent_take 0 rfl (ent_nil _))

theorem fpar_ok (b : Nat) (L : List Fn) (last : Int) (id : Int) : FSpec Try.prog 13 [.pointer (some ⟨b, 0, none⟩), .int .i64 id] noRd [isF b L last] (fun _ : Unit => .int .i64 (parN L id)) (fun _ => True) (fun _ => [isF b L last]) := by
  refine FSpec.intro (rs := [.tmp 4]) (by kernel_rfl) Try.func13 rfl Try.ntmps13 (by rfl) rfl ?_
  intro F _
  change TC _ _ _ _ _ _ _ (sepL [_, _])
  refine TC.open 0 rfl (fun A _ => ?_)
  change TC _ _ _ _ _ _ _ (sepL [_, _])
  refine TC.open 0 rfl (fun x0 hx0 => ?_)
  obtain ⟨ad, cap, mb, ob⟩ := x0
  have hW := hx0
  change TC _ _ _ _ _ _ _ (sepL [_, _, _, _, _, _])
  dsimp only at hW ⊢
  by_cases hy : hasN L id
  · have hf := fN_yes (A := A) hy
    obtain ⟨t, ht, rfl⟩ := hy
    obtain ⟨M, hM⟩ := perm_mem ht
    have hv : parN L t.id = t.par := by rw [parN, findN_yes hW.nd ht]
    rw [hv]
    refine TC.weak (ent_openB 3 rfl hM) ?_
    refine TC.seq ?_
    refine TC.region ?_
    refine q rfl rfl (asg (v := .int _ _) rfl) ?_
    refine TL.nil (nt ?_)
    refine TC.seq ?_
    refine TC.region ?_
    refine q rfl rfl (mv (v := .pointer _) rfl) ?_
    refine q rfl rfl (mv (v := .int _ _) rfl) ?_
    refine e rfl ?_
    refine cl (fat_ok b mb ob L.length last (fN A L) t.id) rfl (picked_cons 2 rfl (picked_cons 2 rfl (picked_nil _))) trivial ?_
    intro _ _
    change TL _ _ _ _ _ _ _ _ (sepL [_, _, _, _, _, _, _])
    rw [hf]
    refine q rfl rfl (asg (v := .pointer _) rfl) ?_
    refine TL.nil (nt ?_)
    refine TC.seq ?_
    refine TC.seq ?_
    refine TC.region ?_
    refine q rfl rfl (mv (v := .pointer _) rfl) ?_
    refine q rfl rfl (eqNil rfl rfl rfl) ?_
    refine TL.nil (nt ?_)
    refine TC.condF rfl ?_
    refine TC.skip (nt ?_)
    refine TC.seq ?_
    refine TC.region ?_
    refine q rfl rfl (mv (v := .pointer _) rfl) ?_
    first | refine q rfl rfl (nc rfl) ?_ | refine q rfl rfl (ncF rfl) ?_ | refine q rfl rfl (ncS rfl (by first | assumption | (simp [ints_length] <;> omega))) ?_
    first | refine q rfl rfl (fa 2 rfl rfl) ?_ | refine q rfl rfl (faS 2 rfl rfl (by first | assumption | (simp [ints_length] <;> omega))) ?_
    first | refine q rfl rfl (ld rfl rfl rfl) ?_ | refine q rfl rfl (ldS rfl rfl rfl) ?_
    refine q rfl rfl (asg (v := .int _ _) rfl) ?_
    refine TL.nil (nt ?_)
    refine TC.ret ?_
    exact Ret.i () [_] ⟨rfl, trivial⟩ rfl trivial (ent_close A trivial (ent_close ⟨ad, cap, mb, ob⟩ hW (ent_take 0 rfl (ent_take 0 rfl (ent_take 2 rfl (ent_closeB 0 0 t rfl rfl rfl (fun _ _ => rfl) hM.symm (ent_take 0 rfl (ent_take 0 rfl (ent_nil _)))))))))
  · have hf := fN_no (A := A) hy
    have hv : parN L id = 0 := by rw [parN, findN_no hy]
    rw [hv]
    refine TC.seq ?_
    refine TC.region ?_
    refine q rfl rfl (asg (v := .int _ _) rfl) ?_
    refine TL.nil (nt ?_)
    refine TC.seq ?_
    refine TC.region ?_
    refine q rfl rfl (mv (v := .pointer _) rfl) ?_
    refine q rfl rfl (mv (v := .int _ _) rfl) ?_
    refine e rfl ?_
    refine cl (fat_ok b mb ob L.length last (fN A L) id) rfl (picked_cons 0 rfl (picked_cons 0 rfl (picked_nil _))) trivial ?_
    intro _ _
    change TL _ _ _ _ _ _ _ _ (sepL [_, _, _, _, _, _])
    rw [hf]
    refine q rfl rfl (asg (v := .pointer _) rfl) ?_
    refine TL.nil (nt ?_)
    refine TC.seq ?_
    refine TC.seq ?_
    refine TC.region ?_
    refine q rfl rfl (mv (v := .pointer _) rfl) ?_
    refine q rfl rfl (eqNil rfl rfl rfl) ?_
    refine TL.nil (nt ?_)
    refine TC.condT rfl ?_
    refine TC.seq ?_
    refine TC.region ?_
    refine q rfl rfl (asg (v := .int _ _) rfl) ?_
    refine TL.nil (nt ?_)
    refine TC.ret (rt ?_)
    exact Ret.i () [_] ⟨rfl, trivial⟩ rfl trivial (ent_close A trivial (ent_close ⟨ad, cap, mb, ob⟩ hW (ent_take 0 rfl (ent_take 0 rfl (ent_take 0 rfl (ent_take 0 rfl (ent_take 0 rfl (ent_take 0 rfl (ent_nil _)))))))))

theorem fpar_nil (id : Int) : FSpec Try.prog 13 [.pointer none, .int .i64 id] noRd [] (fun _ : Unit => .int .i64 0) (fun _ => True) (fun _ => []) := by
  refine FSpec.intro (rs := [.tmp 4]) (by kernel_rfl) Try.func13 rfl Try.ntmps13 (by rfl) rfl ?_
  intro F _
  change TC _ _ _ _ _ _ _ (sepL [_])
  refine TC.seq ?_
  refine TC.region ?_
  refine q rfl rfl (asg (v := .int _ _) rfl) ?_
  refine TL.nil (nt ?_)
  refine TC.seq ?_
  refine TC.region ?_
  refine q rfl rfl (mv (v := .pointer _) rfl) ?_
  refine q rfl rfl (mv (v := .int _ _) rfl) ?_
  refine e rfl ?_
  refine cl (fat_nil id) rfl (picked_nil _) trivial ?_
  intro _ _
  change TL _ _ _ _ _ _ _ _ (sepL [_])
  refine q rfl rfl (asg (v := .pointer _) rfl) ?_
  refine TL.nil (nt ?_)
  refine TC.seq ?_
  refine TC.seq ?_
  refine TC.region ?_
  refine q rfl rfl (mv (v := .pointer _) rfl) ?_
  refine q rfl rfl (eqNil rfl rfl rfl) ?_
  refine TL.nil (nt ?_)
  refine TC.condT rfl ?_
  refine TC.seq ?_
  refine TC.region ?_
  refine q rfl rfl (asg (v := .int _ _) rfl) ?_
  refine TL.nil (nt ?_)
  refine TC.ret (rt ?_)
  exact Ret.i () [_] ⟨rfl, trivial⟩ rfl trivial (ent_take 0 rfl (ent_nil _))

theorem fkids_ok (b : Nat) (L : List Fn) (last : Int) (id : Int) (hl : L.length ≤ 1000000) : FSpec Try.prog 15 [.pointer (some ⟨b, 0, none⟩), .int .i64 id] noRd [isF b L last] (fun y : Option Addr × Nat => .slice y.1 (kidsR L id).length y.2) (fun _ => True) (fun y => [slc 3 1 y.1 (kidsR L id).length y.2 (ints (kidsR L id)), isF b L last]) := by
  refine FSpec.intro (rs := [.tmp 4]) (by kernel_rfl) Try.func15 rfl Try.ntmps15 (by rfl) rfl ?_
  intro F _
  change TC _ _ _ _ _ _ _ (sepL [_, _])
  refine TC.open 0 rfl (fun A _ => ?_)
  change TC _ _ _ _ _ _ _ (sepL [_, _])
  refine TC.open 0 rfl (fun x0 hx0 => ?_)
  obtain ⟨ad, cap, mb, ob⟩ := x0
  have hW := hx0
  change TC _ _ _ _ _ _ _ (sepL [_, _, _, _, _, _])
  dsimp only at hW ⊢
  by_cases hy : hasN L id
  · have hv : kidsR L id = kidsN L id := if_pos hy
    rw [hv]
    have hf := fN_yes (A := A) hy
    obtain ⟨t, ht, rfl⟩ := hy
    obtain ⟨M, hM⟩ := perm_mem ht
    have hkl := kidsN_len L t.id
    refine TC.weak (ent_openB 3 rfl hM) ?_
    refine TC.weak (ent_openB 5 rfl hM) ?_
    refine TC.seq ?_
    refine TC.region ?_
    refine q rfl rfl (asg (v := .slice _ _ _) rfl) ?_
    refine TL.nil (nt ?_)
    refine TC.seq ?_
    refine TC.region ?_
    refine q rfl rfl (mv (v := .pointer _) rfl) ?_
    refine q rfl rfl (mv (v := .int _ _) rfl) ?_
    refine e rfl ?_
    refine cl (fat_ok b mb ob L.length last (fN A L) t.id) rfl (picked_cons 4 rfl (picked_cons 4 rfl (picked_nil _))) trivial ?_
    intro _ _
    change TL _ _ _ _ _ _ _ _ (sepL [_, _, _, _, _, _, _, _])
    rw [hf]
    refine q rfl rfl (asg (v := .pointer _) rfl) ?_
    refine TL.nil (nt ?_)
    refine TC.seq ?_
    refine TC.seq ?_
    refine TC.region ?_
    refine q rfl rfl (mv (v := .pointer _) rfl) ?_
    refine q rfl rfl (eqNil rfl rfl rfl) ?_
    refine TL.nil (nt ?_)
    refine TC.condF rfl ?_
    refine TC.skip (nt ?_)
    refine TC.seq ?_
    refine TC.region ?_
    refine q rfl rfl (mv (v := .pointer _) rfl) ?_
    first | refine q rfl rfl (nc rfl) ?_ | refine q rfl rfl (ncF rfl) ?_ | refine q rfl rfl (ncS rfl (by first | assumption | (simp [ints_length] <;> omega))) ?_
    first | refine q rfl rfl (fa 3 rfl rfl) ?_ | refine q rfl rfl (faS 3 rfl rfl (by first | assumption | (simp [ints_length] <;> omega))) ?_
    first | refine q rfl rfl (ld rfl rfl rfl) ?_ | refine q rfl rfl (ldS rfl rfl rfl) ?_
    refine e rfl ?_
    refine cl (cloneI_ok (ad t.id) (cap t.id) (kidsN L t.id) (by omega)) rfl (picked_nil _) ⟨_, RdSI.rd (ad := ad t.id)⟩ ?_
    intro y _
    change TL _ _ _ _ _ _ _ _ (sepL [_, _, _, _, _, _, _, _, _])
    refine q rfl rfl (asg (v := .slice _ _ _) rfl) ?_
    refine TL.nil (nt ?_)
    refine TC.ret ?_
    exact Ret.i y [_] ⟨rfl, trivial⟩ rfl trivial (ent_take 0 rfl (ent_close A trivial (ent_close ⟨ad, cap, mb, ob⟩ hW (ent_take 0 rfl (ent_take 0 rfl (ent_take 4 rfl (ent_closeB 2 2 t rfl rfl rfl (fun _ _ => rfl) hM.symm (ent_closeB 0 0 t rfl rfl rfl (fun _ _ => rfl) hM.symm (ent_take 0 rfl (ent_nil _))))))))))
  · have hv : kidsR L id = [] := if_neg hy
    rw [hv]
    have hf := fN_no (A := A) hy
    refine TC.seq ?_
    refine TC.region ?_
    refine q rfl rfl (asg (v := .slice _ _ _) rfl) ?_
    refine TL.nil (nt ?_)
    refine TC.seq ?_
    refine TC.region ?_
    refine q rfl rfl (mv (v := .pointer _) rfl) ?_
    refine q rfl rfl (mv (v := .int _ _) rfl) ?_
    refine e rfl ?_
    refine cl (fat_ok b mb ob L.length last (fN A L) id) rfl (picked_cons 0 rfl (picked_cons 0 rfl (picked_nil _))) trivial ?_
    intro _ _
    change TL _ _ _ _ _ _ _ _ (sepL [_, _, _, _, _, _])
    rw [hf]
    refine q rfl rfl (asg (v := .pointer _) rfl) ?_
    refine TL.nil (nt ?_)
    refine TC.seq ?_
    refine TC.seq ?_
    refine TC.region ?_
    refine q rfl rfl (mv (v := .pointer _) rfl) ?_
    refine q rfl rfl (eqNil rfl rfl rfl) ?_
    refine TL.nil (nt ?_)
    refine TC.condT rfl ?_
    refine TC.seq ?_
    refine TC.region ?_
    refine q rfl rfl (asg (v := .slice _ _ _) rfl) ?_
    refine TL.nil (nt ?_)
    refine TC.ret (rt ?_)
    exact Ret.i ⟨none, 0⟩ [_] ⟨rfl, trivial⟩ rfl trivial ((slc_nil 3 1 _).trans (ent_take 0 rfl (ent_close A trivial (ent_close ⟨ad, cap, mb, ob⟩ hW (ent_take 0 rfl (ent_take 0 rfl (ent_take 0 rfl (ent_take 0 rfl (ent_take 0 rfl (ent_take 0 rfl (ent_nil _)))))))))))

theorem fkids_nil (id : Int) : FSpec Try.prog 15 [.pointer none, .int .i64 id] noRd [] (fun _ : Unit => .slice none 0 0) (fun _ => True) (fun _ => []) := by
  refine FSpec.intro (rs := [.tmp 4]) (by kernel_rfl) Try.func15 rfl Try.ntmps15 (by rfl) rfl ?_
  intro F _
  change TC _ _ _ _ _ _ _ (sepL [_])
  refine TC.seq ?_
  refine TC.region ?_
  refine q rfl rfl (asg (v := .slice _ _ _) rfl) ?_
  refine TL.nil (nt ?_)
  refine TC.seq ?_
  refine TC.region ?_
  refine q rfl rfl (mv (v := .pointer _) rfl) ?_
  refine q rfl rfl (mv (v := .int _ _) rfl) ?_
  refine e rfl ?_
  refine cl (fat_nil id) rfl (picked_nil _) trivial ?_
  intro _ _
  change TL _ _ _ _ _ _ _ _ (sepL [_])
  refine q rfl rfl (asg (v := .pointer _) rfl) ?_
  refine TL.nil (nt ?_)
  refine TC.seq ?_
  refine TC.seq ?_
  refine TC.region ?_
  refine q rfl rfl (mv (v := .pointer _) rfl) ?_
  refine q rfl rfl (eqNil rfl rfl rfl) ?_
  refine TL.nil (nt ?_)
  refine TC.condT rfl ?_
  refine TC.seq ?_
  refine TC.region ?_
  refine q rfl rfl (asg (v := .slice _ _ _) rfl) ?_
  refine TL.nil (nt ?_)
  refine TC.ret (rt ?_)
  exact Ret.i () [_] ⟨rfl, trivial⟩ rfl trivial (ent_take 0 rfl (ent_nil _))

set_option maxHeartbeats 1000000 in
theorem fadd_ok (b : Nat) (L : List Fn) (last : Int) (par sp sl : Int) (hla : last ≤ 1000000) : FSpec Try.prog 9 [.pointer (some ⟨b, 0, none⟩), .int .i64 par, .int .i64 sp, .int .i64 sl] noRd [isF b L last] (fun _ : Unit => .tuple #[.int .i64 (addN L last par (sp, sl)).2.2.1, .int .i64 (addN L last par (sp, sl)).2.2.2]) (fun _ => True) (fun _ => [isF b (addN L last par (sp, sl)).1 (addN L last par (sp, sl)).2.1]) := by
  refine FSpec.intro (rs := [.tmp 8, .tmp 9]) (by kernel_rfl) Try.func9 rfl Try.ntmps9 (by rfl) rfl ?_
  intro F _
  change TC _ _ _ _ _ _ _ (sepL [_, _])
  refine TC.open 0 rfl (fun A _ => ?_)
  change TC _ _ _ _ _ _ _ (sepL [_, _])
  refine TC.open 0 rfl (fun x0 hx0 => ?_)
  obtain ⟨ad, cap, mb, ob⟩ := x0
  have hW := hx0
  change TC _ _ _ _ _ _ _ (sepL [_, _, _, _, _, _])
  dsimp only at hW ⊢
  have hwl := hW.len
  by_cases hy : hasN L par
  · have hf := fN_yes (A := A) hy
    refine TC.seq ?_
    refine TC.region ?_
    refine q rfl rfl (asg (v := .int _ _) rfl) ?_
    refine q rfl rfl (asg (v := .int _ _) rfl) ?_
    refine TL.nil (nt ?_)
    refine TC.seq ?_
    refine TC.region ?_
    refine q rfl rfl (mv (v := .pointer _) rfl) ?_
    refine q rfl rfl (mv (v := .int _ _) rfl) ?_
    refine e rfl ?_
    refine cl (fat_ok b mb ob L.length last (fN A L) par) rfl (picked_cons 0 rfl (picked_cons 0 rfl (picked_nil _))) trivial ?_
    intro _ _
    change TL _ _ _ _ _ _ _ _ (sepL [_, _, _, _, _, _])
    rw [hf]
    refine q rfl rfl (mv (v := .int _ _) rfl) ?_
    refine q rfl rfl (mv (v := .int _ _) rfl) ?_
    first | refine q rfl rfl (bld (cs := ints [_, _]) rfl) ?_ | refine q rfl rfl (bld (cs := [_, _]) rfl) ?_
    refine e rfl ?_
    refine al (l := ints [_, _]) rfl rfl ?_
    intro b4
    refine q rfl rfl (asg (v := .pointer _) rfl) ?_
    refine e0 ?_
    refine st (v := .agg (List.toArray (ints [_, _]))) (vs := ints [_, _]) 2 rfl rfl rfl rfl rfl rfl (Nat.le_of_ble_eq_true rfl) rfl ?_
    refine TL.nil (nt ?_)
    refine TC.seq ?_
    refine TC.block ?_
    refine TC.seq ?_
    refine TC.region ?_
    refine q rfl rfl (mv (v := .pointer _) rfl) ?_
    refine q rfl rfl (eqNil rfl rfl rfl) ?_
    refine q rfl rfl (asg (v := .bool _) rfl) ?_
    refine TL.nil (nt ?_)
    refine TC.condF rfl ?_
    refine TC.seq ?_
    refine TC.region ?_
    refine q rfl rfl (mv (v := .pointer _) rfl) ?_
    refine q rfl rfl (eqNil rfl rfl rfl) ?_
    refine q rfl rfl (mv (v := .bool _) rfl) ?_
    refine TL.known 24 rfl (c := false) rfl ?_
    refine qs rfl rfl ?_
    refine qs rfl rfl ?_
    first | refine q rfl rfl (pkT rfl rfl) ?_ | refine q rfl rfl (pkF rfl rfl) ?_
    refine q rfl rfl (asg (v := .bool _) rfl) ?_
    refine TL.nil (nt ?_)
    refine TC.condF rfl ?_
    refine TC.seq ?_
    refine TC.draw _ [] [(0, false), (1, false), (2, false), (3, false), (4, false), (5, false), (6, false), (7, false)] (by kernel_rfl) (by kernel_rfl) (ent.refl _) ?_
    refine dq rfl rfl rfl (mv (v := .pointer _) rfl) ?_
    first | refine dq rfl rfl rfl (nc rfl) ?_ | refine dq rfl rfl rfl (ncF rfl) ?_ | refine dq rfl rfl rfl (ncS rfl (by first | assumption | (simp [ints_length] <;> omega))) ?_
    first | refine dq rfl rfl rfl (fa 1 rfl rfl) ?_ | refine dq rfl rfl rfl (faS 1 rfl rfl (by first | assumption | (simp [ints_length] <;> omega))) ?_
    first | refine dq rfl rfl rfl (ld rfl rfl rfl) ?_ | refine dq rfl rfl rfl (ldS rfl rfl rfl) ?_
    first | refine dq rfl rfl rfl (ldN (vs := ints [_, _]) 2 rfl rfl rfl rfl) ?_ | refine dq rfl rfl rfl (ldSN (vs := ints [_, _]) 2 rfl rfl rfl rfl (by decide)) ?_
    refine dq rfl rfl rfl (luF (a := (_, _)) 44 3 rfl rfl (KL.pair (by kernel_rfl)) rfl rfl) ?_
    rw [fO_get]
    refine dq rfl rfl rfl (neI rfl rfl) ?_
    refine dq rfl rfl rfl (asg (v := .bool _) rfl) ?_
    refine TD.nil (nt ?_)
    first | refine TC.condD rfl (fun ho => ?_) (fun ho => ?_) | refine TC.cond rfl (fun ho => ?_) (fun ho => ?_)
    · have hv : addN L last par (sp, sl) = (L, last, 0, 7) := by rw [addN, if_neg (fun h => h.1 hy), if_pos ho]
      rw [hv]
      dsimp only
      refine TC.seq ?_
      refine TC.region ?_
      refine q rfl rfl (asg (v := .int _ _) rfl) ?_
      refine q rfl rfl (asg (v := .int _ _) rfl) ?_
      refine TL.nil (nt ?_)
      refine TC.ret (rb (rt ?_))
      exact Ret.i () [_, _] ⟨rfl, rfl, trivial⟩ rfl trivial (ent_close A trivial (ent_close ⟨ad, cap, mb, ob⟩ hW (ent_take 1 rfl (ent_take 1 rfl (ent_take 1 rfl (ent_take 1 rfl (ent_take 1 rfl (ent_take 1 rfl (ent_nil _)))))))))
    · have hv : addN L last par (sp, sl) = (L ++ [⟨last + 1, par, sp, sl⟩], last + 1, last + 1, 0) := by rw [addN, if_neg (fun h => h.1 hy), if_neg ho]
      rw [hv]
      dsimp only
      have hno : ¬ hasO L (sp, sl) := fun h => ho ((hasO_find hW _).1 h)
      have hfo := fO_no hno
      have hnn := has_new hW (x := last + 1) (by omega)
      have hfn := fN_no (A := A) hnn
      have hkn := kids_new hW (x := last + 1) (by omega)
      have hlf : (L ++ [(⟨last + 1, par, sp, sl⟩ : Fn)]).length = L.length + 1 := by rw [List.length_append, List.length_singleton]
      have hpp := hasN_pos hW hy
      have hW2 := hW.add (t := ⟨last + 1, par, sp, sl⟩) rfl (by dsimp only; omega) hno
      obtain ⟨t, ht, rfl⟩ := hy
      obtain ⟨M, hM⟩ := perm_mem ht
      have hMn := hW.nd.perm hM.symm
      have hkl := kidsN_len L t.id
      have hil := ints_length (kidsN L t.id)
      have hks : kidsN (L ++ [⟨last + 1, t.id, sp, sl⟩]) t.id = kidsN L t.id ++ [last + 1] := by rw [kidsN_app, kidsN_one rfl (show t.id ≠ 0 by omega)]
      have hko : ∀ x, t.id ≠ x → kidsN (L ++ [⟨last + 1, t.id, sp, sl⟩]) x = kidsN L x := fun x hx => by rw [kidsN_app, kidsN_one_ne hx, List.append_nil]
      have hMo : ∀ u ∈ M, t.id ≠ u.id ∧ u.id ≠ last + 1 := fun u hu => ⟨fun e2 => (List.nodup_cons.1 hMn).1 (List.mem_map.2 ⟨u, hu, e2.symm⟩), fun e2 => by have := hW.rg u (hM.mem_iff.2 (by simp [hu])); omega⟩
      refine TC.weak (ent_openB 4 rfl hM) ?_
      refine TC.weak (ent_openB 6 rfl hM) ?_
      refine TC.skip (nb (nt ?_))
      refine TC.seq ?_
      refine TC.region ?_
      refine q rfl rfl (mv (v := .pointer _) rfl) ?_
      first | refine q rfl rfl (nc rfl) ?_ | refine q rfl rfl (ncF rfl) ?_ | refine q rfl rfl (ncS rfl (by first | assumption | (simp [ints_length] <;> omega))) ?_
      first | refine q rfl rfl (fa 2 rfl rfl) ?_ | refine q rfl rfl (faS 2 rfl rfl (by first | assumption | (simp [ints_length] <;> omega))) ?_
      first | refine q rfl rfl (ld rfl rfl rfl) ?_ | refine q rfl rfl (ldS rfl rfl rfl) ?_
      first | refine q rfl rfl (addI rfl rfl (by omega) (by omega)) ?_ | refine q rfl rfl (add rfl rfl rfl) ?_
      first | refine q rfl rfl (nc rfl) ?_ | refine q rfl rfl (ncF rfl) ?_ | refine q rfl rfl (ncS rfl (by first | assumption | (simp [ints_length] <;> omega))) ?_
      first | refine q rfl rfl (fa 2 rfl rfl) ?_ | refine q rfl rfl (faS 2 rfl rfl (by first | assumption | (simp [ints_length] <;> omega))) ?_
      refine e0 ?_
      refine st (v := .int _ _) (vs := [_]) 1 rfl rfl rfl rfl rfl rfl (Nat.le_of_ble_eq_true rfl) rfl ?_
      refine TL.nil (nt ?_)
      refine TC.seq ?_
      refine TC.draw _ [] [(0, false), (1, false), (2, false), (3, false), (4, false), (5, false), (6, false), (7, false), (8, false), (9, false), (10, false), (11, true), (12, true)] (by kernel_rfl) (by kernel_rfl) (ent_take 0 rfl (ent_take 4 rfl (ent_nil _))) ?_
      refine dq rfl rfl rfl (mv (v := .pointer _) rfl) ?_
      first | refine dq rfl rfl rfl (nc rfl) ?_ | refine dq rfl rfl rfl (ncF rfl) ?_ | refine dq rfl rfl rfl (ncS rfl (by first | assumption | (simp [ints_length] <;> omega))) ?_
      first | refine dq rfl rfl rfl (fa 0 rfl rfl) ?_ | refine dq rfl rfl rfl (faS 0 rfl rfl (by first | assumption | (simp [ints_length] <;> omega))) ?_
      first | refine dq rfl rfl rfl (ld rfl rfl rfl) ?_ | refine dq rfl rfl rfl (ldS rfl rfl rfl) ?_
      refine dq rfl rfl rfl (mv (v := .pointer _) rfl) ?_
      first | refine dq rfl rfl rfl (nc rfl) ?_ | refine dq rfl rfl rfl (ncF rfl) ?_ | refine dq rfl rfl rfl (ncS rfl (by first | assumption | (simp [ints_length] <;> omega))) ?_
      first | refine dq rfl rfl rfl (fa 2 rfl rfl) ?_ | refine dq rfl rfl rfl (faS 2 rfl rfl (by first | assumption | (simp [ints_length] <;> omega))) ?_
      first | refine dq rfl rfl rfl (ld rfl rfl rfl) ?_ | refine dq rfl rfl rfl (ldS rfl rfl rfl) ?_
      first | refine dq rfl rfl rfl (ldN (vs := ints [_, _]) 2 rfl rfl rfl rfl) ?_ | refine dq rfl rfl rfl (ldSN (vs := ints [_, _]) 2 rfl rfl rfl rfl (by decide)) ?_
      refine dq rfl rfl rfl (mv (v := .int _ _) rfl) ?_
      first | refine dq rfl rfl rfl (bld (cs := [.int _ _, .int _ _, .int _ _, .slice _ _ _]) rfl) ?_ | refine dq rfl rfl rfl (bld (cs := [_, _, _, _]) rfl) ?_
      refine de rfl rfl ?_
      refine bx (v := .agg #[_, _, _, _]) (l := [.int _ _, .int _ _, .int _ _, .slice _ _ _]) rfl rfl ?_
      intro b6
      refine ⟨(by repeat (first | exact ent_nil _ | refine ent_take 0 rfl ?_ | refine ent_take 1 rfl ?_ | refine ent_take 2 rfl ?_ | refine ent_take 3 rfl ?_ | refine ent_take 4 rfl ?_ | refine ent_take 5 rfl ?_ | refine ent_take 6 rfl ?_ | refine ent_take 7 rfl ?_ | refine ent_take 8 rfl ?_ | refine ent_take 9 rfl ?_ | refine ent_take 10 rfl ?_ | refine ent_take 11 rfl ?_ | refine ent_take 12 rfl ?_)), ?_⟩
      refine de0 rfl ?_
      refine muF 3 59 rfl (KL.int rfl) rfl rfl rfl ?_
      refine ⟨(by repeat (first | exact ent_nil _ | refine ent_take 0 rfl ?_ | refine ent_take 1 rfl ?_ | refine ent_take 2 rfl ?_ | refine ent_take 3 rfl ?_ | refine ent_take 4 rfl ?_ | refine ent_take 5 rfl ?_ | refine ent_take 6 rfl ?_ | refine ent_take 7 rfl ?_ | refine ent_take 8 rfl ?_ | refine ent_take 9 rfl ?_ | refine ent_take 10 rfl ?_ | refine ent_take 11 rfl ?_ | refine ent_take 12 rfl ?_)), ?_⟩
      refine TD.nil (nt ?_)
      refine TC.seq ?_
      refine TC.draw _ [] [(0, false), (1, false), (2, false), (3, false), (4, false), (5, false), (6, false), (7, false), (8, false), (9, true)] (by kernel_rfl) (by kernel_rfl) (ent_take 2 rfl (ent_take 6 rfl (ent_nil _))) ?_
      refine dq rfl rfl rfl (mv (v := .pointer _) rfl) ?_
      first | refine dq rfl rfl rfl (nc rfl) ?_ | refine dq rfl rfl rfl (ncF rfl) ?_ | refine dq rfl rfl rfl (ncS rfl (by first | assumption | (simp [ints_length] <;> omega))) ?_
      first | refine dq rfl rfl rfl (fa 1 rfl rfl) ?_ | refine dq rfl rfl rfl (faS 1 rfl rfl (by first | assumption | (simp [ints_length] <;> omega))) ?_
      first | refine dq rfl rfl rfl (ld rfl rfl rfl) ?_ | refine dq rfl rfl rfl (ldS rfl rfl rfl) ?_
      first | refine dq rfl rfl rfl (ldN (vs := ints [_, _]) 2 rfl rfl rfl rfl) ?_ | refine dq rfl rfl rfl (ldSN (vs := ints [_, _]) 2 rfl rfl rfl rfl (by decide)) ?_
      refine dq rfl rfl rfl (mv (v := .pointer _) rfl) ?_
      first | refine dq rfl rfl rfl (nc rfl) ?_ | refine dq rfl rfl rfl (ncF rfl) ?_ | refine dq rfl rfl rfl (ncS rfl (by first | assumption | (simp [ints_length] <;> omega))) ?_
      first | refine dq rfl rfl rfl (fa 2 rfl rfl) ?_ | refine dq rfl rfl rfl (faS 2 rfl rfl (by first | assumption | (simp [ints_length] <;> omega))) ?_
      first | refine dq rfl rfl rfl (ld rfl rfl rfl) ?_ | refine dq rfl rfl rfl (ldS rfl rfl rfl) ?_
      refine de0 rfl ?_
      refine muF (a := (_, _)) 44 3 rfl (KL.pair (by kernel_rfl)) rfl rfl rfl ?_
      refine ⟨(by repeat (first | exact ent_nil _ | refine ent_take 0 rfl ?_ | refine ent_take 1 rfl ?_ | refine ent_take 2 rfl ?_ | refine ent_take 3 rfl ?_ | refine ent_take 4 rfl ?_ | refine ent_take 5 rfl ?_ | refine ent_take 6 rfl ?_ | refine ent_take 7 rfl ?_ | refine ent_take 8 rfl ?_ | refine ent_take 9 rfl ?_ | refine ent_take 10 rfl ?_ | refine ent_take 11 rfl ?_ | refine ent_take 12 rfl ?_)), ?_⟩
      refine TD.nil (nt ?_)
      refine TC.seq ?_
      refine TC.seq ?_
      refine TC.region ?_
      refine q rfl rfl (mv (v := .pointer _) rfl) ?_
      refine q rfl rfl (neNil rfl rfl rfl) ?_
      refine TL.nil (nt ?_)
      refine TC.condT rfl ?_
      refine TC.draw _ [13] [(0, false), (1, false), (2, false), (3, false), (4, false), (5, false), (6, false), (7, false), (8, false), (9, true), (10, true), (11, false), (12, false), (13, true)] (by kernel_rfl) (by kernel_rfl) (ent_take 3 rfl (ent_take 5 rfl (ent_nil _))) ?_
      refine dq rfl rfl rfl (mv (v := .pointer _) rfl) ?_
      refine dq rfl rfl rfl (mv (v := .pointer _) rfl) ?_
      first | refine dq rfl rfl rfl (nc rfl) ?_ | refine dq rfl rfl rfl (ncF rfl) ?_ | refine dq rfl rfl rfl (ncS rfl (by first | assumption | (simp [ints_length] <;> omega))) ?_
      first | refine dq rfl rfl rfl (fa 3 rfl rfl) ?_ | refine dq rfl rfl rfl (faS 3 rfl rfl (by first | assumption | (simp [ints_length] <;> omega))) ?_
      first | refine dq rfl rfl rfl (ld rfl rfl rfl) ?_ | refine dq rfl rfl rfl (ldS rfl rfl rfl) ?_
      refine dq rfl rfl rfl (mv (v := .pointer _) rfl) ?_
      first | refine dq rfl rfl rfl (nc rfl) ?_ | refine dq rfl rfl rfl (ncF rfl) ?_ | refine dq rfl rfl rfl (ncS rfl (by first | assumption | (simp [ints_length] <;> omega))) ?_
      first | refine dq rfl rfl rfl (fa 2 rfl rfl) ?_ | refine dq rfl rfl rfl (faS 2 rfl rfl (by first | assumption | (simp [ints_length] <;> omega))) ?_
      first | refine dq rfl rfl rfl (ld rfl rfl rfl) ?_ | refine dq rfl rfl rfl (ldS rfl rfl rfl) ?_
      refine de rfl rfl ?_
      refine bs (cs := [.int _ _]) rfl ?_
      intro b7
      refine ⟨(by repeat (first | exact ent_nil _ | refine ent_take 0 rfl ?_ | refine ent_take 1 rfl ?_ | refine ent_take 2 rfl ?_ | refine ent_take 3 rfl ?_ | refine ent_take 4 rfl ?_ | refine ent_take 5 rfl ?_ | refine ent_take 6 rfl ?_ | refine ent_take 7 rfl ?_ | refine ent_take 8 rfl ?_ | refine ent_take 9 rfl ?_ | refine ent_take 10 rfl ?_ | refine ent_take 11 rfl ?_ | refine ent_take 12 rfl ?_)), ?_⟩
      refine de rfl rfl ?_
      refine ap 8 rfl rfl rfl rfl rfl (Nat.le_of_ble_eq_true rfl) (show _ = ints [last + 1] from rfl) rfl (by omega) (by simp only [maxLen]; omega) ?_
      intro ad1 cap1
      refine ⟨(by repeat (first | exact ent_nil _ | refine ent_take 0 rfl ?_ | refine ent_take 1 rfl ?_ | refine ent_take 2 rfl ?_ | refine ent_take 3 rfl ?_ | refine ent_take 4 rfl ?_ | refine ent_take 5 rfl ?_ | refine ent_take 6 rfl ?_ | refine ent_take 7 rfl ?_ | refine ent_take 8 rfl ?_ | refine ent_take 9 rfl ?_ | refine ent_take 10 rfl ?_ | refine ent_take 11 rfl ?_ | refine ent_take 12 rfl ?_)), ?_⟩
      first | refine dq rfl rfl rfl (nc rfl) ?_ | refine dq rfl rfl rfl (ncF rfl) ?_ | refine dq rfl rfl rfl (ncS rfl (by first | assumption | (simp [ints_length] <;> omega))) ?_
      first | refine dq rfl rfl rfl (fa 3 rfl rfl) ?_ | refine dq rfl rfl rfl (faS 3 rfl rfl (by first | assumption | (simp [ints_length] <;> omega))) ?_
      refine dl0 rfl rfl rfl ?_
      refine st (v := .slice _ _ _) (vs := [_]) 1 rfl rfl rfl rfl rfl rfl (Nat.le_of_ble_eq_true rfl) rfl ?_
      refine TD.nil (nt ?_)
      refine TC.seq ?_
      refine TC.region ?_
      refine q rfl rfl (mv (v := .pointer _) rfl) ?_
      first | refine q rfl rfl (nc rfl) ?_ | refine q rfl rfl (ncF rfl) ?_ | refine q rfl rfl (ncS rfl (by first | assumption | (simp [ints_length] <;> omega))) ?_
      first | refine q rfl rfl (fa 2 rfl rfl) ?_ | refine q rfl rfl (faS 2 rfl rfl (by first | assumption | (simp [ints_length] <;> omega))) ?_
      first | refine q rfl rfl (ld rfl rfl rfl) ?_ | refine q rfl rfl (ldS rfl rfl rfl) ?_
      refine q rfl rfl (asg (v := .int _ _) rfl) ?_
      refine q rfl rfl (asg (v := .int _ _) rfl) ?_
      refine TL.nil (nt ?_)
      refine TC.ret ?_
      have hne : t.id ≠ last + 1 := by omega
      have hkz : kidsN (L ++ [(⟨last + 1, t.id, sp, sl⟩ : Fn)]) (last + 1) = [] := by rw [hko _ hne, hkn]
      have hP2 : (t :: (⟨last + 1, t.id, sp, sl⟩ : Fn) :: M).Perm (L ++ [(⟨last + 1, t.id, sp, sl⟩ : Fn)]) := (List.Perm.swap _ _ _).trans ((hM.symm.cons _).trans (List.perm_append_singleton _ _).symm)
      have hcN : ∀ u ∈ M, nP A ad cap L u = nP (updI A (last + 1) b6) (updI (updI ad t.id ad1) (last + 1) none) (updI (updI cap t.id cap1) (last + 1) 0) (L ++ [(⟨last + 1, t.id, sp, sl⟩ : Fn)]) u := fun u hu => by
        obtain ⟨h1, h2⟩ := hMo u hu
        dsimp only [nP]
        rw [updI_ne h2, updI_ne h2, updI_ne h2, updI_ne (Ne.symm h1), updI_ne (Ne.symm h1), hko _ h1]
      have hcK : ∀ u ∈ M, kP ad cap L u = kP (updI (updI ad t.id ad1) (last + 1) none) (updI (updI cap t.id cap1) (last + 1) 0) (L ++ [(⟨last + 1, t.id, sp, sl⟩ : Fn)]) u := fun u hu => by
        obtain ⟨h1, h2⟩ := hMo u hu
        dsimp only [kP]
        rw [updI_ne h2, updI_ne h2, updI_ne (Ne.symm h1), updI_ne (Ne.symm h1), hko _ h1]
      exact Ret.i () [_, _] ⟨rfl, rfl, trivial⟩ rfl trivial ((slc_nil 3 1 _).trans (ent_close (updI A (last + 1) b6) trivial (ent_close ⟨updI (updI ad t.id ad1) (last + 1) none, updI (updI cap t.id cap1) (last + 1) 0, mb, ob⟩ hW2 (ent_take 7 rfl (ent_takeE 5 rfl (by dsimp only; rw [fN_add (t := (⟨last + 1, t.id, sp, sl⟩ : Fn)), hfn, hlf]; rfl) (ent_takeE 4 rfl (by dsimp only; rw [fO_add (t := (⟨last + 1, t.id, sp, sl⟩ : Fn)) hno, hfo, hlf]; rfl) (ent_closeB2 1 3 4 t (⟨last + 1, t.id, sp, sl⟩ : Fn) rfl rfl rfl (by dsimp only [nP]; rw [updI_ne hne, updI_ne hne, updI_ne hne, updI_same, updI_same, hks, List.length_append]; rfl) (by dsimp only [nP]; rw [updI_same, updI_same, updI_same, hkz]; rfl) hcN hP2 (ent_closeB2 1 0 1 t (⟨last + 1, t.id, sp, sl⟩ : Fn) rfl rfl rfl (by dsimp only [kP]; rw [updI_ne hne, updI_ne hne, updI_same, updI_same, hks, List.length_append, List.length_singleton, ints_app1]) (by dsimp only [kP]; rw [updI_same, updI_same, hkz]; rfl) hcK hP2 (ent_take 2 rfl (ent_nil _))))))))))
  · have hf := fN_no (A := A) hy
    refine TC.seq ?_
    refine TC.region ?_
    refine q rfl rfl (asg (v := .int _ _) rfl) ?_
    refine q rfl rfl (asg (v := .int _ _) rfl) ?_
    refine TL.nil (nt ?_)
    refine TC.seq ?_
    refine TC.region ?_
    refine q rfl rfl (mv (v := .pointer _) rfl) ?_
    refine q rfl rfl (mv (v := .int _ _) rfl) ?_
    refine e rfl ?_
    refine cl (fat_ok b mb ob L.length last (fN A L) par) rfl (picked_cons 0 rfl (picked_cons 0 rfl (picked_nil _))) trivial ?_
    intro _ _
    change TL _ _ _ _ _ _ _ _ (sepL [_, _, _, _, _, _])
    rw [hf]
    refine q rfl rfl (mv (v := .int _ _) rfl) ?_
    refine q rfl rfl (mv (v := .int _ _) rfl) ?_
    first | refine q rfl rfl (bld (cs := ints [_, _]) rfl) ?_ | refine q rfl rfl (bld (cs := [_, _]) rfl) ?_
    refine e rfl ?_
    refine al (l := ints [_, _]) rfl rfl ?_
    intro b5
    refine q rfl rfl (asg (v := .pointer _) rfl) ?_
    refine e0 ?_
    refine st (v := .agg (List.toArray (ints [_, _]))) (vs := ints [_, _]) 2 rfl rfl rfl rfl rfl rfl (Nat.le_of_ble_eq_true rfl) rfl ?_
    refine TL.nil (nt ?_)
    refine TC.seq ?_
    refine TC.block ?_
    refine TC.seq ?_
    refine TC.region ?_
    refine q rfl rfl (mv (v := .pointer _) rfl) ?_
    refine q rfl rfl (eqNil rfl rfl rfl) ?_
    refine q rfl rfl (asg (v := .bool _) rfl) ?_
    refine TL.nil (nt ?_)
    refine TC.condF rfl ?_
    refine TC.seq ?_
    refine TC.region ?_
    refine q rfl rfl (mv (v := .pointer _) rfl) ?_
    refine q rfl rfl (eqNil rfl rfl rfl) ?_
    refine q rfl rfl (mv (v := .bool _) rfl) ?_
    refine TL.known 24 rfl (c := true) rfl ?_
    refine qg rfl rfl rfl (mv (v := .int _ _) rfl) ?_
    refine qg rfl rfl rfl (neI rfl rfl) ?_
    first | refine q rfl rfl (pkT rfl rfl) ?_ | refine q rfl rfl (pkF rfl rfl) ?_
    refine q rfl rfl (asg (v := .bool _) rfl) ?_
    refine TL.nil (nt ?_)
    first | refine TC.condD rfl (fun h0 => ?_) (fun h0 => ?_) | refine TC.cond rfl (fun h0 => ?_) (fun h0 => ?_)
    · have hv : addN L last par (sp, sl) = (L, last, 0, 6) := if_pos ⟨hy, h0⟩
      rw [hv]
      dsimp only
      refine TC.seq ?_
      refine TC.region ?_
      refine q rfl rfl (asg (v := .int _ _) rfl) ?_
      refine q rfl rfl (asg (v := .int _ _) rfl) ?_
      refine TL.nil (nt ?_)
      refine TC.ret (rb (rt ?_))
      exact Ret.i () [_, _] ⟨rfl, rfl, trivial⟩ rfl trivial (ent_close A trivial (ent_close ⟨ad, cap, mb, ob⟩ hW (ent_take 1 rfl (ent_take 1 rfl (ent_take 1 rfl (ent_take 1 rfl (ent_take 1 rfl (ent_take 1 rfl (ent_nil _)))))))))
    · obtain rfl : par = 0 := by omega
      refine TC.seq ?_
      refine TC.draw _ [] [(0, false), (1, false), (2, false), (3, false), (4, false), (5, false), (6, false), (7, false)] (by kernel_rfl) (by kernel_rfl) (ent.refl _) ?_
      refine dq rfl rfl rfl (mv (v := .pointer _) rfl) ?_
      first | refine dq rfl rfl rfl (nc rfl) ?_ | refine dq rfl rfl rfl (ncF rfl) ?_ | refine dq rfl rfl rfl (ncS rfl (by first | assumption | (simp [ints_length] <;> omega))) ?_
      first | refine dq rfl rfl rfl (fa 1 rfl rfl) ?_ | refine dq rfl rfl rfl (faS 1 rfl rfl (by first | assumption | (simp [ints_length] <;> omega))) ?_
      first | refine dq rfl rfl rfl (ld rfl rfl rfl) ?_ | refine dq rfl rfl rfl (ldS rfl rfl rfl) ?_
      first | refine dq rfl rfl rfl (ldN (vs := ints [_, _]) 2 rfl rfl rfl rfl) ?_ | refine dq rfl rfl rfl (ldSN (vs := ints [_, _]) 2 rfl rfl rfl rfl (by decide)) ?_
      refine dq rfl rfl rfl (luF (a := (_, _)) 44 3 rfl rfl (KL.pair (by kernel_rfl)) rfl rfl) ?_
      rw [fO_get]
      refine dq rfl rfl rfl (neI rfl rfl) ?_
      refine dq rfl rfl rfl (asg (v := .bool _) rfl) ?_
      refine TD.nil (nt ?_)
      first | refine TC.condD rfl (fun ho => ?_) (fun ho => ?_) | refine TC.cond rfl (fun ho => ?_) (fun ho => ?_)
      · have hv : addN L last 0 (sp, sl) = (L, last, 0, 7) := by rw [addN, if_neg (fun h => h.2 rfl), if_pos ho]
        rw [hv]
        dsimp only
        refine TC.seq ?_
        refine TC.region ?_
        refine q rfl rfl (asg (v := .int _ _) rfl) ?_
        refine q rfl rfl (asg (v := .int _ _) rfl) ?_
        refine TL.nil (nt ?_)
        refine TC.ret (rb (rt ?_))
        exact Ret.i () [_, _] ⟨rfl, rfl, trivial⟩ rfl trivial (ent_close A trivial (ent_close ⟨ad, cap, mb, ob⟩ hW (ent_take 1 rfl (ent_take 1 rfl (ent_take 1 rfl (ent_take 1 rfl (ent_take 1 rfl (ent_take 1 rfl (ent_nil _)))))))))
      · have hv : addN L last 0 (sp, sl) = (L ++ [⟨last + 1, 0, sp, sl⟩], last + 1, last + 1, 0) := by rw [addN, if_neg (fun h => h.2 rfl), if_neg ho]
        rw [hv]
        dsimp only
        have hno : ¬ hasO L (sp, sl) := fun h => ho ((hasO_find hW _).1 h)
        have hfo := fO_no hno
        have hnn := has_new hW (x := last + 1) (by omega)
        have hfn := fN_no (A := A) hnn
        have hkn := kids_new hW (x := last + 1) (by omega)
        have hlf : (L ++ [(⟨last + 1, 0, sp, sl⟩ : Fn)]).length = L.length + 1 := by rw [List.length_append, List.length_singleton]
        have hW2 := hW.add (t := (⟨last + 1, 0, sp, sl⟩ : Fn)) rfl (by dsimp only; omega) hno
        have hko : ∀ x, 1 ≤ x → kidsN (L ++ [(⟨last + 1, 0, sp, sl⟩ : Fn)]) x = kidsN L x := fun x hx => by rw [kidsN_app, kidsN_one_ne (by dsimp only; omega), List.append_nil]
        refine TC.skip (nb (nt ?_))
        refine TC.seq ?_
        refine TC.region ?_
        refine q rfl rfl (mv (v := .pointer _) rfl) ?_
        first | refine q rfl rfl (nc rfl) ?_ | refine q rfl rfl (ncF rfl) ?_ | refine q rfl rfl (ncS rfl (by first | assumption | (simp [ints_length] <;> omega))) ?_
        first | refine q rfl rfl (fa 2 rfl rfl) ?_ | refine q rfl rfl (faS 2 rfl rfl (by first | assumption | (simp [ints_length] <;> omega))) ?_
        first | refine q rfl rfl (ld rfl rfl rfl) ?_ | refine q rfl rfl (ldS rfl rfl rfl) ?_
        first | refine q rfl rfl (addI rfl rfl (by omega) (by omega)) ?_ | refine q rfl rfl (add rfl rfl rfl) ?_
        first | refine q rfl rfl (nc rfl) ?_ | refine q rfl rfl (ncF rfl) ?_ | refine q rfl rfl (ncS rfl (by first | assumption | (simp [ints_length] <;> omega))) ?_
        first | refine q rfl rfl (fa 2 rfl rfl) ?_ | refine q rfl rfl (faS 2 rfl rfl (by first | assumption | (simp [ints_length] <;> omega))) ?_
        refine e0 ?_
        refine st (v := .int _ _) (vs := [_]) 1 rfl rfl rfl rfl rfl rfl (Nat.le_of_ble_eq_true rfl) rfl ?_
        refine TL.nil (nt ?_)
        refine TC.seq ?_
        refine TC.draw _ [] [(0, false), (1, false), (2, false), (3, false), (4, false), (5, false), (6, false), (7, false), (8, false), (9, false), (10, false), (11, true), (12, true)] (by kernel_rfl) (by kernel_rfl) (ent_take 0 rfl (ent_take 0 rfl (ent_nil _))) ?_
        refine dq rfl rfl rfl (mv (v := .pointer _) rfl) ?_
        first | refine dq rfl rfl rfl (nc rfl) ?_ | refine dq rfl rfl rfl (ncF rfl) ?_ | refine dq rfl rfl rfl (ncS rfl (by first | assumption | (simp [ints_length] <;> omega))) ?_
        first | refine dq rfl rfl rfl (fa 0 rfl rfl) ?_ | refine dq rfl rfl rfl (faS 0 rfl rfl (by first | assumption | (simp [ints_length] <;> omega))) ?_
        first | refine dq rfl rfl rfl (ld rfl rfl rfl) ?_ | refine dq rfl rfl rfl (ldS rfl rfl rfl) ?_
        refine dq rfl rfl rfl (mv (v := .pointer _) rfl) ?_
        first | refine dq rfl rfl rfl (nc rfl) ?_ | refine dq rfl rfl rfl (ncF rfl) ?_ | refine dq rfl rfl rfl (ncS rfl (by first | assumption | (simp [ints_length] <;> omega))) ?_
        first | refine dq rfl rfl rfl (fa 2 rfl rfl) ?_ | refine dq rfl rfl rfl (faS 2 rfl rfl (by first | assumption | (simp [ints_length] <;> omega))) ?_
        first | refine dq rfl rfl rfl (ld rfl rfl rfl) ?_ | refine dq rfl rfl rfl (ldS rfl rfl rfl) ?_
        first | refine dq rfl rfl rfl (ldN (vs := ints [_, _]) 2 rfl rfl rfl rfl) ?_ | refine dq rfl rfl rfl (ldSN (vs := ints [_, _]) 2 rfl rfl rfl rfl (by decide)) ?_
        refine dq rfl rfl rfl (mv (v := .int _ _) rfl) ?_
        first | refine dq rfl rfl rfl (bld (cs := [.int _ _, .int _ _, .int _ _, .slice _ _ _]) rfl) ?_ | refine dq rfl rfl rfl (bld (cs := [_, _, _, _]) rfl) ?_
        refine de rfl rfl ?_
        refine bx (v := .agg #[_, _, _, _]) (l := [.int _ _, .int _ _, .int _ _, .slice _ _ _]) rfl rfl ?_
        intro b8
        refine ⟨(by repeat (first | exact ent_nil _ | refine ent_take 0 rfl ?_ | refine ent_take 1 rfl ?_ | refine ent_take 2 rfl ?_ | refine ent_take 3 rfl ?_ | refine ent_take 4 rfl ?_ | refine ent_take 5 rfl ?_ | refine ent_take 6 rfl ?_ | refine ent_take 7 rfl ?_ | refine ent_take 8 rfl ?_ | refine ent_take 9 rfl ?_ | refine ent_take 10 rfl ?_ | refine ent_take 11 rfl ?_ | refine ent_take 12 rfl ?_)), ?_⟩
        refine de0 rfl ?_
        refine muF 3 59 rfl (KL.int rfl) rfl rfl rfl ?_
        refine ⟨(by repeat (first | exact ent_nil _ | refine ent_take 0 rfl ?_ | refine ent_take 1 rfl ?_ | refine ent_take 2 rfl ?_ | refine ent_take 3 rfl ?_ | refine ent_take 4 rfl ?_ | refine ent_take 5 rfl ?_ | refine ent_take 6 rfl ?_ | refine ent_take 7 rfl ?_ | refine ent_take 8 rfl ?_ | refine ent_take 9 rfl ?_ | refine ent_take 10 rfl ?_ | refine ent_take 11 rfl ?_ | refine ent_take 12 rfl ?_)), ?_⟩
        refine TD.nil (nt ?_)
        refine TC.seq ?_
        refine TC.draw _ [] [(0, false), (1, false), (2, false), (3, false), (4, false), (5, false), (6, false), (7, false), (8, false), (9, true)] (by kernel_rfl) (by kernel_rfl) (ent_take 2 rfl (ent_take 2 rfl (ent_nil _))) ?_
        refine dq rfl rfl rfl (mv (v := .pointer _) rfl) ?_
        first | refine dq rfl rfl rfl (nc rfl) ?_ | refine dq rfl rfl rfl (ncF rfl) ?_ | refine dq rfl rfl rfl (ncS rfl (by first | assumption | (simp [ints_length] <;> omega))) ?_
        first | refine dq rfl rfl rfl (fa 1 rfl rfl) ?_ | refine dq rfl rfl rfl (faS 1 rfl rfl (by first | assumption | (simp [ints_length] <;> omega))) ?_
        first | refine dq rfl rfl rfl (ld rfl rfl rfl) ?_ | refine dq rfl rfl rfl (ldS rfl rfl rfl) ?_
        first | refine dq rfl rfl rfl (ldN (vs := ints [_, _]) 2 rfl rfl rfl rfl) ?_ | refine dq rfl rfl rfl (ldSN (vs := ints [_, _]) 2 rfl rfl rfl rfl (by decide)) ?_
        refine dq rfl rfl rfl (mv (v := .pointer _) rfl) ?_
        first | refine dq rfl rfl rfl (nc rfl) ?_ | refine dq rfl rfl rfl (ncF rfl) ?_ | refine dq rfl rfl rfl (ncS rfl (by first | assumption | (simp [ints_length] <;> omega))) ?_
        first | refine dq rfl rfl rfl (fa 2 rfl rfl) ?_ | refine dq rfl rfl rfl (faS 2 rfl rfl (by first | assumption | (simp [ints_length] <;> omega))) ?_
        first | refine dq rfl rfl rfl (ld rfl rfl rfl) ?_ | refine dq rfl rfl rfl (ldS rfl rfl rfl) ?_
        refine de0 rfl ?_
        refine muF (a := (_, _)) 44 3 rfl (KL.pair (by kernel_rfl)) rfl rfl rfl ?_
        refine ⟨(by repeat (first | exact ent_nil _ | refine ent_take 0 rfl ?_ | refine ent_take 1 rfl ?_ | refine ent_take 2 rfl ?_ | refine ent_take 3 rfl ?_ | refine ent_take 4 rfl ?_ | refine ent_take 5 rfl ?_ | refine ent_take 6 rfl ?_ | refine ent_take 7 rfl ?_ | refine ent_take 8 rfl ?_ | refine ent_take 9 rfl ?_ | refine ent_take 10 rfl ?_ | refine ent_take 11 rfl ?_ | refine ent_take 12 rfl ?_)), ?_⟩
        refine TD.nil (nt ?_)
        refine TC.seq ?_
        refine TC.seq ?_
        refine TC.region ?_
        refine q rfl rfl (mv (v := .pointer _) rfl) ?_
        refine q rfl rfl (neNil rfl rfl rfl) ?_
        refine TL.nil (nt ?_)
        refine TC.condF rfl ?_
        refine TC.skip (nt ?_)
        refine TC.seq ?_
        refine TC.region ?_
        refine q rfl rfl (mv (v := .pointer _) rfl) ?_
        first | refine q rfl rfl (nc rfl) ?_ | refine q rfl rfl (ncF rfl) ?_ | refine q rfl rfl (ncS rfl (by first | assumption | (simp [ints_length] <;> omega))) ?_
        first | refine q rfl rfl (fa 2 rfl rfl) ?_ | refine q rfl rfl (faS 2 rfl rfl (by first | assumption | (simp [ints_length] <;> omega))) ?_
        first | refine q rfl rfl (ld rfl rfl rfl) ?_ | refine q rfl rfl (ldS rfl rfl rfl) ?_
        refine q rfl rfl (asg (v := .int _ _) rfl) ?_
        refine q rfl rfl (asg (v := .int _ _) rfl) ?_
        refine TL.nil (nt ?_)
        refine TC.ret ?_
        have hkz : kidsN (L ++ [(⟨last + 1, 0, sp, sl⟩ : Fn)]) (last + 1) = [] := by rw [hko _ (by omega), hkn]
        have hcN : ∀ u ∈ L, nP A ad cap L u = nP (updI A (last + 1) b8) (updI ad (last + 1) none) (updI cap (last + 1) 0) (L ++ [(⟨last + 1, 0, sp, sl⟩ : Fn)]) u := fun u hu => by
          have h1 := hW.rg u hu
          have h2 : u.id ≠ last + 1 := by omega
          dsimp only [nP]
          rw [updI_ne h2, updI_ne h2, updI_ne h2, hko _ h1.1]
        have hcK : ∀ u ∈ L, kP ad cap L u = kP (updI ad (last + 1) none) (updI cap (last + 1) 0) (L ++ [(⟨last + 1, 0, sp, sl⟩ : Fn)]) u := fun u hu => by
          have h1 := hW.rg u hu
          have h2 : u.id ≠ last + 1 := by omega
          dsimp only [kP]
          rw [updI_ne h2, updI_ne h2, hko _ h1.1]
        have hP2 : ((⟨last + 1, 0, sp, sl⟩ : Fn) :: L).Perm (L ++ [(⟨last + 1, 0, sp, sl⟩ : Fn)]) := (List.perm_append_singleton _ _).symm
        exact Ret.i () [_, _] ⟨rfl, rfl, trivial⟩ rfl trivial ((slc_nil 3 1 _).trans (ent_close (updI A (last + 1) b8) trivial (ent_close ⟨updI ad (last + 1) none, updI cap (last + 1) 0, mb, ob⟩ hW2 (ent_take 4 rfl (ent_takeE 2 rfl (by dsimp only; rw [fN_add (t := (⟨last + 1, 0, sp, sl⟩ : Fn)), hfn, hlf]; rfl) (ent_takeE 1 rfl (by dsimp only; rw [fO_add (t := (⟨last + 1, 0, sp, sl⟩ : Fn)) hno, hfo, hlf]; rfl) (ent_closeB 1 2 (⟨last + 1, 0, sp, sl⟩ : Fn) rfl rfl (by dsimp only [nP]; rw [updI_same, updI_same, updI_same, hkz]; rfl) hcN hP2 (ent_closeB 0 1 (⟨last + 1, 0, sp, sl⟩ : Fn) rfl rfl (by dsimp only [kP]; rw [updI_same, updI_same, hkz]; rfl) hcK hP2 (ent_take 1 rfl (ent_nil _))))))))))

theorem fadd_nil (par sp sl : Int) : FSpec Try.prog 9 [.pointer none, .int .i64 par, .int .i64 sp, .int .i64 sl] noRd [] (fun _ : Unit => .tuple #[.int .i64 0, .int .i64 1]) (fun _ => True) (fun _ => []) := by
  refine FSpec.intro (rs := [.tmp 8, .tmp 9]) (by kernel_rfl) Try.func9 rfl Try.ntmps9 (by rfl) rfl ?_
  intro F _
  change TC _ _ _ _ _ _ _ (sepL [_])
  refine TC.seq ?_
  refine TC.region ?_
  refine q rfl rfl (asg (v := .int _ _) rfl) ?_
  refine q rfl rfl (asg (v := .int _ _) rfl) ?_
  refine TL.nil (nt ?_)
  refine TC.seq ?_
  refine TC.region ?_
  refine q rfl rfl (mv (v := .pointer _) rfl) ?_
  refine q rfl rfl (mv (v := .int _ _) rfl) ?_
  refine e rfl ?_
  refine cl (fat_nil par) rfl (picked_nil _) trivial ?_
  intro _ _
  change TL _ _ _ _ _ _ _ _ (sepL [_])
  refine q rfl rfl (mv (v := .int _ _) rfl) ?_
  refine q rfl rfl (mv (v := .int _ _) rfl) ?_
  first | refine q rfl rfl (bld (cs := ints [_, _]) rfl) ?_ | refine q rfl rfl (bld (cs := [_, _]) rfl) ?_
  refine e rfl ?_
  refine al (l := ints [_, _]) rfl rfl ?_
  intro b9
  refine q rfl rfl (asg (v := .pointer _) rfl) ?_
  refine e0 ?_
  refine st (v := .agg (List.toArray (ints [_, _]))) (vs := ints [_, _]) 2 rfl rfl rfl rfl rfl rfl (Nat.le_of_ble_eq_true rfl) rfl ?_
  refine TL.nil (nt ?_)
  refine TC.seq ?_
  refine TC.block ?_
  refine TC.seq ?_
  refine TC.region ?_
  refine q rfl rfl (mv (v := .pointer _) rfl) ?_
  refine q rfl rfl (eqNil rfl rfl rfl) ?_
  refine q rfl rfl (asg (v := .bool _) rfl) ?_
  refine TL.nil (nt ?_)
  refine TC.condT rfl ?_
  refine TC.seq ?_
  refine TC.region ?_
  refine q rfl rfl (asg (v := .int _ _) rfl) ?_
  refine q rfl rfl (asg (v := .int _ _) rfl) ?_
  refine TL.nil (nt ?_)
  refine TC.ret (rb (rt ?_))
  exact Ret.i () [_, _] ⟨rfl, rfl, trivial⟩ rfl trivial (ent_take 1 rfl (ent_nil _))

end Go.Proofs.Ytffoeolgjgpmjaa
