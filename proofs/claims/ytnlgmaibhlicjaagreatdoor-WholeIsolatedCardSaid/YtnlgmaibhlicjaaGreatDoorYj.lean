/- Proved here: contracts of functions of this program, under the premises that each theorem names. -/
import Derived.Test.YtnlgmaibhlicjaaGreatDoorYi
set_option maxRecDepth 4000
namespace Go.Proofs.YtnlgmaibhlicjaaGreatDoor.Al
open Go Go.QM
structure AInv (H : List En) (n : Nat) (f : Int → Option Value) (tn : Int) (Q : List En) : Prop where
  n : H.length = n
  hp : Heap H
  wh : WhA f H
  pm : H.Perm Q
  nd : Nd Q
  tn : ∀ e ∈ Q, e.tn ≤ tn
  pw : Q.Pairwise fun a b => a.tn < b.tn
structure ARep where
  H : List En
  n : Nat
  f : Int → Option Value
  ad : Option Addr
  cap : Nat
  wb : Nat
  m : Nat
def isAl (b : Nat) (now tn : Int) (Q : List En) : HP := EX fun y : ARep => pure' (AInv y.H y.n y.f tn Q) (sepL [pts b 280 [.int .i64 now, .int .i64 tn, .slice y.ad y.n y.cap, .map (some y.wb)], slc 365 3 y.ad y.n y.cap (ents y.H), mapF QM.encI y.wb y.f y.m])
theorem AInv.len {H : List En} {n : Nat} {f : Int → Option Value} {tn : Int} {Q : List En} (h : AInv H n f tn Q) : n = Q.length := by rw [← h.n, h.pm.length_eq]
theorem AInv.ndH {H : List En} {n : Nat} {f : Int → Option Value} {tn : Int} {Q : List En} (h : AInv H n f tn Q) : Nd H := h.nd.perm h.pm
theorem AInv.start (tn : Int) : AInv [] 0 (fun _ => none) tn [] := ⟨rfl, (fun k _ h => by simp at h), ⟨(fun j h => by simp at h), fun _ _ => rfl⟩, List.Perm.refl _, List.nodup_nil, (fun e h => by cases h), List.Pairwise.nil⟩
def hasA (Q : List En) (id : Int) : Prop := ∃ e ∈ Q, e.id = id
instance (Q : List En) (id : Int) : Decidable (hasA Q id) := inferInstanceAs (Decidable (∃ e ∈ Q, e.id = id))
theorem AInv.yes {H : List En} {n : Nat} {f : Int → Option Value} {tn : Int} {Q : List En} (h : AInv H n f tn Q) {id : Int} (hy : hasA Q id) : ∃ j, j < n ∧ (gE H j).id = id ∧ f id = some (.int .i64 (j : Int)) := by
 obtain ⟨e, he, rfl⟩ := hy
 obtain ⟨j, h1, h2, h3⟩ := h.wh.some (h.pm.mem_iff.2 he)
 exact ⟨j, by rw [← h.n]; exact h1, by rw [h2], h3⟩
theorem AInv.no {H : List En} {n : Nat} {f : Int → Option Value} {tn : Int} {Q : List En} (h : AInv H n f tn Q) {id : Int} (hy : ¬ hasA Q id) : f id = none :=
 h.wh.none fun e he e2 => hy ⟨e, h.pm.mem_iff.1 he, e2⟩
def setA (Q : List En) (now tn id ticks : Int) : List En × Int × Int :=
  if id < 0 ∨ ticks < 1 ∨ 1048576 < ticks then (Q, tn, 1) else if hasA Q id then (Q, tn, 7) else (Q ++ [⟨now + ticks, tn + 1, id⟩], tn + 1, 0)
def offA (Q : List En) (id : Int) : List En := Q.filter fun e => decide (e.id ≠ id)
theorem filter_self {H : List En} {e : En} (h : Nd (e :: H)) : offA (e :: H) e.id = H := by
 rw [offA, List.filter_cons_of_neg (by simp)]
 refine List.filter_eq_self.2 fun a ha => ?_
 have := (List.nodup_cons.1 h).1
 simp only [decide_eq_true_eq]
 exact fun e2 => this (List.mem_map.2 ⟨a, ha, e2⟩)
theorem AInv.off {H H' : List En} {n : Nat} {f f' : Int → Option Value} {tn : Int} {Q : List En} (h : AInv H (n + 1) f tn Q) {j : Nat} {id : Int} (hid : (gE H j).id = id) (h0 : H'.length = n) (h1 : Heap H') (h2 : WhA f' H') (h3 : (gE H j :: H').Perm H) : AInv H' n f' tn (offA Q id) where
 n := h0
 hp := h1
 wh := h2
 pm := by
  have := (h3.trans h.pm).filter fun e => decide (e.id ≠ id)
  have h4 := filter_self (h.ndH.perm h3)
  rw [hid] at h4
  rw [offA] at h4 ⊢
  rwa [h4] at this
 nd := h.nd.sublist ((List.filter_sublist).map _)
 tn := fun e he => h.tn e (List.mem_filter.1 he).1
 pw := h.pw.sublist List.filter_sublist
theorem off_none {Q : List En} {id : Int} (h : ¬ hasA Q id) : offA Q id = Q := List.filter_eq_self.2 fun a ha => by
 simp only [decide_eq_true_eq]; exact fun e => h ⟨a, ha, e⟩
theorem off_length {Q : List En} {id : Int} (h : hasA Q id) (hn : Nd Q) : (offA Q id).length + 1 = Q.length := by
 obtain ⟨e, he, rfl⟩ := h
 obtain ⟨s, t, rfl⟩ := List.append_of_mem he
 have hp : (e :: (s ++ t)).Perm (s ++ e :: t) := List.perm_middle.symm
 have h1 := (hp.filter fun a => decide (a.id ≠ e.id)).length_eq
 have h2 := filter_self (hn.perm hp)
 rw [offA] at h2 ⊢
 rw [← h1, h2, ← hp.length_eq]; rfl
def clrA (Q : List En) (ids : List Int) : List En := ids.foldl offA Q
theorem clrA_snoc (Q : List En) (ids : List Int) (x : Int) : clrA Q (ids ++ [x]) = offA (clrA Q ids) x := by simp [clrA]
theorem clrA_sub (Q : List En) : ∀ ids, (clrA Q ids).Sublist Q
 | [] => List.Sublist.refl _
 | x :: l => by rw [clrA, List.foldl_cons]; exact (clrA_sub (offA Q x) l).trans List.filter_sublist
theorem clrA_eq (Q : List En) (ids : List Int) : clrA Q ids = Q.filter fun e => decide (e.id ∉ ids) := by
 induction ids generalizing Q with
 | nil => exact (List.filter_eq_self.2 fun a _ => by simp).symm
 | cons x l ih =>
  rw [clrA, List.foldl_cons]
  have := ih (offA Q x)
  rw [clrA] at this
  rw [this, offA, List.filter_filter]
  congr 1; funext e
  rw [Bool.eq_iff_iff]
  simp only [Bool.and_eq_true, decide_eq_true_eq, List.mem_cons, not_or]
  exact ⟨fun h => ⟨h.2, h.1⟩, fun h => ⟨h.2, h.1⟩⟩
def dueA (t : Int) (Q : List En) : List En := Q.filter fun e => decide (e.at_ ≤ t)
def restA (t : Int) (Q : List En) : List En := Q.filter fun e => decide (¬ e.at_ ≤ t)
def ids (Q : List En) : List Int := Q.map (·.id)
def leftA (Q : List En) (now id : Int) : Int := match Q.find? fun e => decide (e.id = id) with
  | some e => e.at_ - now
  | none => 0
theorem new_ok  : FSpec Tryz.prog 89 [] noRd [] (fun b : Nat => .pointer (some ⟨b, 0, none⟩)) (fun _ => True) (fun b => [isAl b 0 0 []]) := by
 refine fI Tryz.func89 Tryz.ntmps89 ?_
 intro F _
 refine zz [37,0,1,24,2,0,1,5] ?_
 refine mkF QM.encI ?_
 intro b1
 first | refine q rfl rfl (bld (cs := [.int _ _, .int _ _, .slice _ _ _, .map _]) rfl) ?_ | refine q rfl rfl (bld (cs := [_, _, _, _]) rfl) ?_
 refine e rfl ?_
 refine bx (v := .agg #[_, _, _, _]) (l := [.int _ _, .int _ _, .slice _ _ _, .map _]) rfl rfl ?_
 intro b2
 refine zz [24,2,11] ?_
 exact Ret.i b2 [_] ⟨rfl, trivial⟩ rfl trivial ((slc_nil 365 3 _).trans (ent_close ⟨[], 0, fun _ => none, none, 0, b1, 0⟩ (AInv.start 0) (ent_take 1 rfl (ent_take 0 rfl (ent_take 0 rfl (ent_take 0 rfl (ent_nil _)))))))
theorem clear_ok (b : Nat) (now tn : Int) (Q : List En) (hb : (0 ≤ now ∧ now ≤ 1000000000000) ∧ (0 ≤ tn ∧ tn ≤ 1000000000000) ∧ Q.length ≤ 500000) (a2 : Option Addr) (c2 : Nat) (xs : List Int) (hx : xs.length ≤ 1000000) : FSpec Tryz.prog 259 [.pointer (some ⟨b, 0, none⟩), .slice a2 xs.length c2] (fun F => ∃ E, RdS F E a2 (ints xs)) [isAl b now tn Q] (fun _ : Unit => .int .i64 ((Q.length : Int) - (clrA Q xs).length)) (fun _ => True) (fun _ => [isAl b now tn (clrA Q xs)]) := by
 refine fI Tryz.func259 Tryz.ntmps259 ?_
 intro F ⟨E, hF⟩
 refine zz [39] ?_
 haveI : RdSI F a2 E (ints xs) := ⟨hF⟩
 have hxl := ints_length xs
 refine zz [0,1,4,2,0,1,4,2,0,0,1,29,91,3,2,17] ?_
 refine TC.loop (ι := Nat × List En) (fun s => s.1 ≤ xs.length ∧ s.2 = clrA Q (xs.take s.1)) (fun s => [(0, .pointer (some ⟨b, 0, none⟩)), (5, .int .i64 ((Q.length : Int) - (s.2.length : Int))), (10, .slice a2 xs.length c2), (11, .int .i64 xs.length), (12, .int .i64 ((s.1 : Nat) : Int))]) (fun s => sepL [isAl b now tn s.2, F]) (fun s => xs.length - s.1) ⟨0, Q⟩ ⟨Nat.zero_le _, rfl⟩ ⟨rfl, congrArg (Value.int .i64) (Int.sub_self _).symm, rfl, rfl, rfl, trivial⟩ (ent_take 0 rfl (ent_take 0 rfl (ent_nil _))) ?_
 rintro ⟨k, Z⟩ ⟨hk, hZ⟩ ρ0
 dsimp only [updL] at hk hZ ⊢
 refine zz [0,1,38,2,0] ?_
 first | refine TC.condD rfl (fun hlt => ?_) (fun hlt => ?_) | refine TC.cond rfl (fun hlt => ?_) (fun hlt => ?_)
 ·have hkx : k < xs.length := by omega
  obtain ⟨x, hxk⟩ : ∃ x, xs[k]? = some x := ⟨xs[k], List.getElem?_eq_getElem hkx⟩
  have hpos : 0 < (ints xs).length := by omega
  have htk : clrA Q (xs.take (k + 1)) = offA Z x := by rw [List.take_add_one, hxk, Option.toList, clrA_snoc, hZ]
  have hZl : Z.length ≤ Q.length := by rw [hZ]; exact (clrA_sub Q _).length_le
  refine zz [7,0,17,0,1,81] ?_
  first | refine q rfl rfl (ld rfl rfl rfl) ?_ | refine q rfl rfl (ldS rfl rfl (ints_get hxk)) ?_ | refine q rfl rfl (ldS rfl rfl rfl) ?_
  refine zz [4,2,0,0] ?_
  refine TC.open 0 rfl (fun x0 hx0 => ?_)
  obtain ⟨H, n, f, ad, cap, wb, m⟩ := x0
  have hA := hx0
  refine zz [77] ?_
  dsimp only at hA ⊢
  have hHn := hA.n
  have hnQ := hA.len
  have hel := ents_length H
  refine zz [1,6,34,2,10] ?_
  by_cases hy : hasA Z x
  ·obtain ⟨j, hj, hid, hf⟩ := hA.yes hy
   obtain ⟨n, rfl⟩ : ∃ z, n = z + 1 := ⟨n - 1, by omega⟩
   have hol := off_length hy hA.nd
   refine zz [7,0,1,6,13,78] ?_
   first | refine q rfl rfl (ld rfl rfl rfl) ?_ | refine q rfl rfl (ldS rfl rfl (ints_get hxk)) ?_ | refine q rfl rfl (ldS rfl rfl rfl) ?_
   refine zz [3,208] ?_
   rw [hf]
   refine zz [26,15,80,4,9,2,0,1,20,2,40,0,1,6,3,5] ?_
   refine cl (cut_ok b now tn H ad n cap wb m f j hHn (by omega) (by omega) hA.hp hA.wh hA.ndH) rfl (picked_cons 0 rfl (picked_cons 0 rfl (picked_cons 0 rfl (picked_nil _)))) trivial ?_
   intro ⟨H4, f4, m4⟩ ⟨hl4, hh4, hw4, hp4⟩
   refine zz [46] ?_
   dsimp only at hl4 hh4 hw4 hp4 ⊢
   refine zz [2,1,3,36,4,63,1,36,3,2] ?_
   exact ⟨rfl, ⟨k + 1, offA Z x⟩, ⟨by dsimp only; omega, htk.symm⟩, (by dsimp only; omega), ⟨rfl, congrArg (Value.int .i64) (by dsimp only; omega), rfl, rfl, rfl, trivial⟩, (ent_close ⟨H4, n, f4, ad, cap, wb, m4⟩ (hA.off hid hl4 hh4 hw4 hp4) (ent_take 0 rfl (ent_take 0 rfl (ent_take 0 rfl (ent_take 0 rfl (ent_nil _))))))⟩
  ·have hf := hA.no hy
   have hon := off_none hy
   refine zz [7,0,1,6,13,78] ?_
   first | refine q rfl rfl (ld rfl rfl rfl) ?_ | refine q rfl rfl (ldS rfl rfl (ints_get hxk)) ?_ | refine q rfl rfl (ldS rfl rfl rfl) ?_
   refine zz [3,208] ?_
   rw [hf]
   refine zz [26,15,80,4,9,2,0,1,20,2,10,42,1,36,3,2] ?_
   exact ⟨rfl, ⟨k + 1, Z⟩, ⟨by dsimp only; omega, by dsimp only; rw [htk, hon]⟩, (by dsimp only; omega), ⟨rfl, rfl, rfl, rfl, rfl, trivial⟩, (ent_close ⟨H, n, f, ad, cap, wb, m⟩ hA (ent_take 0 rfl (ent_take 0 rfl (ent_take 0 rfl (ent_take 0 rfl (ent_nil _))))))⟩
 ·obtain rfl : k = xs.length := by omega
  rw [List.take_length] at hZ
  subst hZ
  refine zz [50,0,1,3,4,2,11] ?_
  exact zc1
end Go.Proofs.YtnlgmaibhlicjaaGreatDoor.Al
namespace Go.QM
open Go
section
variable {P : Program} {ρ : Env} {A : HP} {d : Option Nat} {ty : TypeId} {ps : String} {af : Array Edge} {g : Option (Nat × Bool)} {t t' : TypeId} {x y : Operand} {k : IntKind} {a b c : Int}
theorem shrR {yk : IntKind} {n : Int} (hx : ev ρ x = .int k a) (hy : ev ρ y = .int yk n) (h0 : 0 ≤ n) :
    OQ P ρ ⟨d, .binOp .shr t x y t', ty, ps, af, g⟩ A (.int k (a.fdiv (2 ^ min n.toNat k.bits))) := fun w _ => by
  have : ¬ n < 0 := by omega
  simp [execOp, hx, hy, eqGuard, binOp, Op.shift, this]
end
end Go.QM
