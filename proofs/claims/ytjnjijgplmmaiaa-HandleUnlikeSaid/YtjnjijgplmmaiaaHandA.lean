/-
  Proved here: what functions of this program compute, each as a contract over symbolic states, under the premises that each theorem names (most lines printed by a program of the prover).
-/
import Derived.Test.YtjnjijgplmmaiaaProg
import Derived.Test.YtjnjijgplmmaiaaQLibY
namespace Go.Proofs.Ytjnjijgplmmaiaa
open Go Go.QM
structure Ob where
  k : Int
  a : Int
  f : Int
def Ob.l (o : Ob) : List Int := [o.k, o.a, o.f]
structure Pl where
  o : Ob
  st : Int
  age : Int
def zeroPl : Pl := ⟨⟨0, 0, 0⟩, 0, 0⟩
def placeC (p : Pl) : List Value := ints p.o.l ++ [.int .i64 p.st, .int .u32 p.age]
theorem placeC_sz (p : Pl) : (placeC p).length = 5 := rfl
def tabC (l : List Pl) : List Value := l.flatMap placeC
theorem tabC_length (l : List Pl) : (tabC l).length = l.length * 5 := flat_length placeC_sz l
theorem tabC_pos {l : List Pl} {i : Nat} {p : Pl} (h : l[i]? = some p) : 0 < (tabC l).length := by
  rw [tabC_length]; have := (List.getElem?_eq_some_iff.1 h).1; omega
structure OkT (l : List Pl) : Prop where
  n : l.length = 256
  age : ∀ p ∈ l, 0 ≤ p.age ∧ p.age ≤ 1048575
theorem OkT.at {l : List Pl} (h : OkT l) {i : Nat} (hi : i < 256) : ∃ p, l[i]? = some p ∧ 0 ≤ p.age ∧ p.age ≤ 1048575 := by
  have hl : i < l.length := by rw [h.n]; exact hi
  exact ⟨l[i], List.getElem?_eq_getElem hl, h.age _ (List.getElem_mem hl)⟩

theorem new_ok  : FSpec Try.prog 8 [] noRd [] (fun b : Nat => .pointer (some ⟨b, 0, none⟩)) (fun _ => True) (fun b => [slc 63 5 (some ⟨b, 0, none⟩) 256 256 (tabC (List.replicate 256 zeroPl))]) := by
  refine FSpec.intro (rs := [.tmp 0]) (by kernel_rfl) Try.func8 rfl Try.ntmps8 (by rfl) rfl ?_
  intro F _
  change TC _ _ _ _ _ _ _ (sepL [_])
  refine TC.seq ?_
  refine TC.region ?_
  refine q rfl rfl (asg (v := .pointer _) rfl) ?_
  refine TL.nil (nt ?_)
  refine TC.seq ?_
  refine TC.region ?_
  refine q rfl rfl (bld (cs := tabC (List.replicate 256 zeroPl)) (by kernel_rfl)) ?_
  refine e rfl ?_
  refine bx (v := .agg (List.toArray (tabC (List.replicate 256 zeroPl)))) (l := tabC (List.replicate 256 zeroPl)) rfl (by kernel_rfl) ?_
  intro b1
  refine q rfl rfl (asg (v := .pointer _) rfl) ?_
  refine TL.nil (nt ?_)
  refine TC.ret ?_
  exact Ret.i b1 [_] ⟨rfl, trivial⟩ rfl trivial (ent_takeW 0 rfl (slc_of_pts (by kernel_rfl) (by decide)) (ent_take 0 rfl (ent_nil _)))

theorem name_ok (b : Nat) (l : List Pl) (i : Nat) (p : Pl) (hi : l[i]? = some p) (hl : i < 256) (ha : 0 ≤ p.age ∧ p.age ≤ 16777215) : FSpec Try.prog 29 [.pointer (some ⟨b, 0, none⟩), .int .i64 (i : Int)] (fun F => ∃ E, RdS F E (some ⟨b, 0, none⟩) (tabC l)) [] (fun _ : Unit => .int .u32 (p.age * 256 + i)) (fun _ => True) (fun _ => []) := by
  refine FSpec.intro (rs := [.tmp 4]) (by kernel_rfl) Try.func29 rfl Try.ntmps29 (by rfl) rfl ?_
  intro F ⟨E, hF⟩
  change TC _ _ _ _ _ _ _ (sepL [_])
  haveI : RdSI F (some ⟨b, 0, none⟩) E (tabC l) := ⟨hF⟩
  refine TC.seq ?_
  refine TC.region ?_
  refine q rfl rfl (asg (v := .int _ _) rfl) ?_
  refine TL.nil (nt ?_)
  refine TC.seq ?_
  refine TC.region ?_
  refine q rfl rfl (mv (v := .pointer _) rfl) ?_
  refine q rfl rfl (mv (v := .int _ _) rfl) ?_
  first | refine q rfl rfl (ncP rfl) ?_ | refine q rfl rfl (ncQ rfl) ?_
  refine q rfl rfl (faQ 0 rfl rfl) ?_
  refine q rfl rfl (ixA 256 60 5 rfl rfl rfl (by omega) (by omega)) ?_
  refine q rfl rfl (faQ 4 rfl rfl) ?_
  first | refine q rfl rfl (ld rfl rfl rfl) ?_ | refine q rfl rfl (ldS rfl rfl (flat_ld placeC_sz hi 4 (by omega) rfl)) ?_ | refine q rfl rfl (ldS rfl rfl rfl) ?_
  refine q rfl rfl (shlR rfl rfl (by omega) (shl8_u32 (by omega) (by omega))) ?_
  refine q rfl rfl (mv (v := .int _ _) rfl) ?_
  first | refine q rfl rfl (conv .i64 .u32 rfl rfl rfl (wu32 (by omega) (by omega))) ?_ | refine q rfl rfl (conv .i64 .u32 rfl rfl rfl rfl) ?_
  refine q rfl rfl (orR rfl rfl (or8_u32 (by omega) (by omega) (by omega) (by omega))) ?_
  refine q rfl rfl (asg (v := .int _ _) rfl) ?_
  refine TL.nil (nt ?_)
  refine TC.ret ?_
  exact Ret.i () [_] ⟨rfl, trivial⟩ rfl trivial (ent_take 0 rfl (ent_nil _))

theorem put1_ok (p : Pl) : FSpec Try.prog 28 [.agg (placeC p).toArray] noRd [] (fun _ : Unit => .bool (decide (p.st = 0))) (fun _ => True) (fun _ => []) := by
  refine FSpec.intro (rs := [.tmp 2]) (by kernel_rfl) Try.func28 rfl Try.ntmps28 (by rfl) rfl ?_
  intro F _
  change TC _ _ _ _ _ _ _ (sepL [_])
  refine TC.seq ?_
  refine TC.region ?_
  refine e rfl ?_
  refine bx (v := .agg #[_, _, _, _, _]) (l := [.int _ _, .int _ _, .int _ _, .int _ _, .int _ _]) rfl rfl ?_
  intro b2
  refine q rfl rfl (asg (v := .bool _) rfl) ?_
  refine TL.nil (nt ?_)
  refine TC.seq ?_
  refine TC.region ?_
  first | refine q rfl rfl (fa 3 rfl rfl) ?_ | refine q rfl rfl (faS 3 rfl rfl (by first | assumption | (simp [ints_length] <;> omega))) ?_
  first | refine q rfl rfl (ld rfl rfl rfl) ?_ | refine q rfl rfl (ldS rfl rfl rfl) ?_
  refine q rfl rfl (eqI rfl rfl) ?_
  refine q rfl rfl (asg (v := .bool _) rfl) ?_
  refine TL.nil (nt ?_)
  refine TC.ret ?_
  exact Ret.i () [_] ⟨rfl, trivial⟩ rfl trivial (ent_take 1 rfl (ent_nil _))

end Go.Proofs.Ytjnjijgplmmaiaa
