/-
  Proved here: what functions of this program compute, each as a contract over symbolic states, under the premises that each theorem names (most lines printed by a program of the prover).
-/
import Derived.Test.YtdfmfhcjnjfjbaaGreatProg
import Derived.Test.YtdfmfhcjnjfjbaaGreatYh
namespace Go.QM
open Go
section
variable {r : Option Nat} {P : Program} {N : Nat} {ops : Array Oper} {l : List Oper} {Q : Post} {ρ : Env} {ds : List Deferred} {A I : HP} {T : List Nat} {c : List (Nat × Bool)} {ty : TypeId} {ps : String} {af : Array Edge} {t i : Nat} {x : Operand}
theorem wmi {k9 : IntKind} {a9 : Int} (hd : Nat.blt t N = true) (hx : ev ρ x = (.int k9 a9)) (h : TL r P N ops l Q (upd ρ t (.int k9 a9)) ds A) : TL r P N ops (⟨some t, .move x, ty, ps, af, none⟩ :: l) Q ρ ds A := q rfl hd (mv hx) h
theorem vmi {k9 : IntKind} {a9 : Int} (ho : ops[i]? = some ⟨some t, .move x, ty, ps, af, none⟩) (hd : Nat.blt t N = true) (hx : ev ρ x = (.int k9 a9)) (h : TD r P N ops I T c Q (upd ρ t (.int k9 a9)) ds A) : TD r P N ops I T ((i, false) :: c) Q ρ ds A := dq ho rfl hd (mv hx) h
theorem wai {k9 : IntKind} {a9 : Int} (hd : Nat.blt t N = true) (hx : ev ρ x = (.int k9 a9)) (h : TL r P N ops l Q (upd ρ t (.int k9 a9)) ds A) : TL r P N ops (⟨some t, .assign x, ty, ps, af, none⟩ :: l) Q ρ ds A := q rfl hd (asg hx) h
theorem vai {k9 : IntKind} {a9 : Int} (ho : ops[i]? = some ⟨some t, .assign x, ty, ps, af, none⟩) (hd : Nat.blt t N = true) (hx : ev ρ x = (.int k9 a9)) (h : TD r P N ops I T c Q (upd ρ t (.int k9 a9)) ds A) : TD r P N ops I T ((i, false) :: c) Q ρ ds A := dq ho rfl hd (asg hx) h
theorem wmp {o9 : Option Addr} (hd : Nat.blt t N = true) (hx : ev ρ x = (.pointer o9)) (h : TL r P N ops l Q (upd ρ t (.pointer o9)) ds A) : TL r P N ops (⟨some t, .move x, ty, ps, af, none⟩ :: l) Q ρ ds A := q rfl hd (mv hx) h
theorem vmp {o9 : Option Addr} (ho : ops[i]? = some ⟨some t, .move x, ty, ps, af, none⟩) (hd : Nat.blt t N = true) (hx : ev ρ x = (.pointer o9)) (h : TD r P N ops I T c Q (upd ρ t (.pointer o9)) ds A) : TD r P N ops I T ((i, false) :: c) Q ρ ds A := dq ho rfl hd (mv hx) h
theorem wap {o9 : Option Addr} (hd : Nat.blt t N = true) (hx : ev ρ x = (.pointer o9)) (h : TL r P N ops l Q (upd ρ t (.pointer o9)) ds A) : TL r P N ops (⟨some t, .assign x, ty, ps, af, none⟩ :: l) Q ρ ds A := q rfl hd (asg hx) h
theorem vap {o9 : Option Addr} (ho : ops[i]? = some ⟨some t, .assign x, ty, ps, af, none⟩) (hd : Nat.blt t N = true) (hx : ev ρ x = (.pointer o9)) (h : TD r P N ops I T c Q (upd ρ t (.pointer o9)) ds A) : TD r P N ops I T ((i, false) :: c) Q ρ ds A := dq ho rfl hd (asg hx) h
theorem wmb {c9 : Bool} (hd : Nat.blt t N = true) (hx : ev ρ x = (.bool c9)) (h : TL r P N ops l Q (upd ρ t (.bool c9)) ds A) : TL r P N ops (⟨some t, .move x, ty, ps, af, none⟩ :: l) Q ρ ds A := q rfl hd (mv hx) h
theorem vmb {c9 : Bool} (ho : ops[i]? = some ⟨some t, .move x, ty, ps, af, none⟩) (hd : Nat.blt t N = true) (hx : ev ρ x = (.bool c9)) (h : TD r P N ops I T c Q (upd ρ t (.bool c9)) ds A) : TD r P N ops I T ((i, false) :: c) Q ρ ds A := dq ho rfl hd (mv hx) h
theorem wab {c9 : Bool} (hd : Nat.blt t N = true) (hx : ev ρ x = (.bool c9)) (h : TL r P N ops l Q (upd ρ t (.bool c9)) ds A) : TL r P N ops (⟨some t, .assign x, ty, ps, af, none⟩ :: l) Q ρ ds A := q rfl hd (asg hx) h
theorem vab {c9 : Bool} (ho : ops[i]? = some ⟨some t, .assign x, ty, ps, af, none⟩) (hd : Nat.blt t N = true) (hx : ev ρ x = (.bool c9)) (h : TD r P N ops I T c Q (upd ρ t (.bool c9)) ds A) : TD r P N ops I T ((i, false) :: c) Q ρ ds A := dq ho rfl hd (asg hx) h
theorem wms {o9 : Option Addr} {n9 m9 : Nat} (hd : Nat.blt t N = true) (hx : ev ρ x = (.slice o9 n9 m9)) (h : TL r P N ops l Q (upd ρ t (.slice o9 n9 m9)) ds A) : TL r P N ops (⟨some t, .move x, ty, ps, af, none⟩ :: l) Q ρ ds A := q rfl hd (mv hx) h
theorem vms {o9 : Option Addr} {n9 m9 : Nat} (ho : ops[i]? = some ⟨some t, .move x, ty, ps, af, none⟩) (hd : Nat.blt t N = true) (hx : ev ρ x = (.slice o9 n9 m9)) (h : TD r P N ops I T c Q (upd ρ t (.slice o9 n9 m9)) ds A) : TD r P N ops I T ((i, false) :: c) Q ρ ds A := dq ho rfl hd (mv hx) h
theorem was {o9 : Option Addr} {n9 m9 : Nat} (hd : Nat.blt t N = true) (hx : ev ρ x = (.slice o9 n9 m9)) (h : TL r P N ops l Q (upd ρ t (.slice o9 n9 m9)) ds A) : TL r P N ops (⟨some t, .assign x, ty, ps, af, none⟩ :: l) Q ρ ds A := q rfl hd (asg hx) h
theorem vas {o9 : Option Addr} {n9 m9 : Nat} (ho : ops[i]? = some ⟨some t, .assign x, ty, ps, af, none⟩) (hd : Nat.blt t N = true) (hx : ev ρ x = (.slice o9 n9 m9)) (h : TD r P N ops I T c Q (upd ρ t (.slice o9 n9 m9)) ds A) : TD r P N ops I T ((i, false) :: c) Q ρ ds A := dq ho rfl hd (asg hx) h
theorem wmt {w9 : Array Value} (hd : Nat.blt t N = true) (hx : ev ρ x = (.tuple w9)) (h : TL r P N ops l Q (upd ρ t (.tuple w9)) ds A) : TL r P N ops (⟨some t, .move x, ty, ps, af, none⟩ :: l) Q ρ ds A := q rfl hd (mv hx) h
theorem vmt {w9 : Array Value} (ho : ops[i]? = some ⟨some t, .move x, ty, ps, af, none⟩) (hd : Nat.blt t N = true) (hx : ev ρ x = (.tuple w9)) (h : TD r P N ops I T c Q (upd ρ t (.tuple w9)) ds A) : TD r P N ops I T ((i, false) :: c) Q ρ ds A := dq ho rfl hd (mv hx) h
theorem wat {w9 : Array Value} (hd : Nat.blt t N = true) (hx : ev ρ x = (.tuple w9)) (h : TL r P N ops l Q (upd ρ t (.tuple w9)) ds A) : TL r P N ops (⟨some t, .assign x, ty, ps, af, none⟩ :: l) Q ρ ds A := q rfl hd (asg hx) h
theorem vat {w9 : Array Value} (ho : ops[i]? = some ⟨some t, .assign x, ty, ps, af, none⟩) (hd : Nat.blt t N = true) (hx : ev ρ x = (.tuple w9)) (h : TD r P N ops I T c Q (upd ρ t (.tuple w9)) ds A) : TD r P N ops I T ((i, false) :: c) Q ρ ds A := dq ho rfl hd (asg hx) h
theorem wnc {a : Addr} (hd : Nat.blt t N = true) (hx : ev ρ x = .pointer (some a)) (h : TL r P N ops l Q (upd ρ t (.pointer (some a))) ds A) : TL r P N ops (⟨some t, .nilCheck x, ty, ps, af, none⟩ :: l) Q ρ ds A := q rfl hd (nc hx) h
theorem vnc {a : Addr} (ho : ops[i]? = some ⟨some t, .nilCheck x, ty, ps, af, none⟩) (hd : Nat.blt t N = true) (hx : ev ρ x = .pointer (some a)) (h : TD r P N ops I T c Q (upd ρ t (.pointer (some a))) ds A) : TD r P N ops I T ((i, false) :: c) Q ρ ds A := dq ho rfl hd (nc hx) h
theorem wfa {s : TypeId} {f b off : Nat} (o : Nat) (hd : Nat.blt t N = true) (hf : fldT P s f o = true) (hx : ev ρ x = .pointer (some ⟨b, off, none⟩)) (h : TL r P N ops l Q (upd ρ t (.pointer (some ⟨b, off + o, none⟩))) ds A) : TL r P N ops (⟨some t, .fieldAddr s x f, ty, ps, af, none⟩ :: l) Q ρ ds A := q rfl hd (fa o hf hx) h
theorem vfa {s : TypeId} {f b off : Nat} (o : Nat) (ho : ops[i]? = some ⟨some t, .fieldAddr s x f, ty, ps, af, none⟩) (hd : Nat.blt t N = true) (hf : fldT P s f o = true) (hx : ev ρ x = .pointer (some ⟨b, off, none⟩)) (h : TD r P N ops I T c Q (upd ρ t (.pointer (some ⟨b, off + o, none⟩))) ds A) : TD r P N ops I T ((i, false) :: c) Q ρ ds A := dq ho rfl hd (fa o hf hx) h
theorem wld {tt : TypeId} {b off E : Nat} {cl : List Value} {fz : Nat × Nat} {v : Value} (hd : Nat.blt t N = true) (ht : oneT P tt = true) (hx : ev ρ x = .pointer (some ⟨b, off, none⟩)) [hr : RdI A b (.cells cl.toArray E fz)] (hv : cl[off]? = some v) (h : TL r P N ops l Q (upd ρ t v) ds A) : TL r P N ops (⟨some t, .load tt x, ty, ps, af, none⟩ :: l) Q ρ ds A := q rfl hd (ld ht hx hv) h
theorem vld {tt : TypeId} {b off E : Nat} {cl : List Value} {fz : Nat × Nat} {v : Value} (ho : ops[i]? = some ⟨some t, .load tt x, ty, ps, af, none⟩) (hd : Nat.blt t N = true) (ht : oneT P tt = true) (hx : ev ρ x = .pointer (some ⟨b, off, none⟩)) [hr : RdI I b (.cells cl.toArray E fz)] (hv : cl[off]? = some v) (h : TD r P N ops I T c Q (upd ρ t v) ds A) : TD r P N ops I T ((i, false) :: c) Q ρ ds A := dq ho rfl hd (ld ht hx hv) h
end
end Go.QM
namespace Go.Proofs.YtdfmfhcjnjfjbaaGreat.Rd
open Go Go.QM
set_option maxRecDepth 4000 in
theorem same_ok (a1 : Option Addr) (c1 : Nat) (xs : List Int) (a2 : Option Addr) (c2 : Nat) (ys : List Int) (hl : xs.length ≤ 1000000000) : FSpec Tryz.prog 37 [.slice a1 xs.length c1, .slice a2 ys.length c2] (fun F => (∃ E, RdS F E a1 (ints xs)) ∧ ∃ E, RdS F E a2 (ints ys)) [] (fun _ : Unit => .bool (decide (xs = ys))) (fun _ => True) (fun _ => []) := by
 refine FSpec.intro (rs := [.tmp 4]) (by kernel_rfl) Tryz.func37 rfl Tryz.ntmps37 (by rfl) rfl ?_
 intro F ⟨⟨E1, hF1⟩, ⟨E2, hF2⟩⟩
 change TC _ _ _ _ _ _ _ (sepL [_])
 haveI : RdSI F a1 E1 (ints xs) := ⟨hF1⟩
 haveI : RdSI F a2 E2 (ints ys) := ⟨hF2⟩
 refine TC.seq ?_
 refine TC.region ?_
 refine wab rfl rfl ?_
 refine TL.nil (nt ?_)
 refine TC.seq ?_
 refine TC.seq ?_
 refine TC.region ?_
 refine wms rfl rfl ?_
 refine q rfl rfl (len 3 1 rfl rfl) ?_
 refine wms rfl rfl ?_
 refine q rfl rfl (len 3 1 rfl rfl) ?_
 refine q rfl rfl (neI rfl rfl) ?_
 refine TL.nil (nt ?_)
 refine TC.condD rfl (fun hne => ?_) (fun hne => ?_)
 ·refine TC.seq ?_
  refine TC.region ?_
  refine wab rfl rfl ?_
  refine TL.nil (nt ?_)
  refine TC.ret (rt ?_)
  have hd : decide (xs = ys) = false := decide_eq_false (fun e => hne (by rw [e]))
  exact Ret.i () [_] ⟨rfl, trivial⟩ (by rw [hd]; rfl) trivial (ent_take 0 rfl (ent_nil _))
 ·have hle : xs.length = ys.length := by omega
  refine TC.skip (nt ?_)
  refine TC.seq ?_
  refine TC.seq ?_
  refine TC.region ?_
  refine wai rfl rfl ?_
  refine TL.nil (nt ?_)
  refine TC.block ?_
  refine TC.loop (ι := Nat) (fun i => i ≤ xs.length ∧ xs.take i = ys.take i) (fun i => [(0, .slice a1 xs.length c1), (1, .slice a2 ys.length c2), (5, .int .i64 i)]) (fun i => sepL [F]) (fun i => xs.length - i) 0 ⟨Nat.zero_le _, rfl⟩ ⟨rfl, rfl, rfl, trivial⟩ (ent_take 0 rfl (ent_nil _)) ?_
  rintro k ⟨hinv, hsame⟩ ρ0
  dsimp only [updL] at hinv hsame ⊢
  refine TC.seq ?_
  refine TC.seq ?_
  refine TC.region ?_
  refine wmi rfl rfl ?_
  refine wms rfl rfl ?_
  refine q rfl rfl (len 3 1 rfl rfl) ?_
  refine q rfl rfl (lss rfl rfl) ?_
  refine TL.nil (nt ?_)
  refine TC.condD rfl (fun hlt => ?_) (fun hlt => ?_)
  ·have hlt : k < xs.length := by omega
   have hlt2 : k < ys.length := by omega
   obtain ⟨u, hu⟩ : ∃ u, xs[k]? = some u := ⟨xs[k], List.getElem?_eq_getElem hlt⟩
   obtain ⟨v, hv⟩ : ∃ v, ys[k]? = some v := ⟨ys[k], List.getElem?_eq_getElem hlt2⟩
   have hil : 0 < (ints xs).length := by rw [ints_length]; omega
   have hil2 : 0 < (ints ys).length := by rw [ints_length]; omega
   refine TC.skip (nt ?_)
   refine TC.seq ?_
   refine TC.block ?_
   refine TC.seq ?_
   refine TC.draw _ [] [(0, false), (1, false), (2, false), (3, false), (4, false), (5, false), (6, false), (7, false), (8, false)] (by kernel_rfl) (by kernel_rfl) (ent.refl _) ?_
   refine vms rfl rfl rfl ?_
   refine vmi rfl rfl rfl ?_
   refine dq rfl rfl rfl (ixS 3 1 rfl rfl rfl (by omega) (by assumption)) ?_
   refine dq rfl rfl rfl (ldS rfl rfl (ints_get hu)) ?_
   refine vms rfl rfl rfl ?_
   refine vmi rfl rfl rfl ?_
   refine dq rfl rfl rfl (ixS 3 1 rfl rfl rfl (by omega) (by assumption)) ?_
   refine dq rfl rfl rfl (ldS rfl rfl (ints_get hv)) ?_
   refine dq rfl rfl rfl (neI rfl rfl) ?_
   refine TD.nil (nt ?_)
   refine TC.condD rfl (fun hd => ?_) (fun hd => ?_)
   ·refine TC.seq ?_
    refine TC.region ?_
    refine wab rfl rfl ?_
    refine TL.nil (nt ?_)
    refine TC.ret (rb (rt (rt (rb (rt ?_)))))
    have hdd : decide (xs = ys) = false := decide_eq_false (fun e => by subst e; rw [hu] at hv; cases hv; exact hd rfl)
    exact Ret.i () [_] ⟨rfl, trivial⟩ (by rw [hdd]; rfl) trivial (ent_take 0 rfl (ent_nil _))
   ·refine TC.skip (nb (nt ?_))
    refine TC.region ?_
    refine wmi rfl rfl ?_
    refine q rfl rfl (addI rfl rfl (by omega) (by omega)) ?_
    refine wai rfl rfl ?_
    refine TL.nil (nt ?_)
    exact ⟨rfl, (k + 1), ⟨by omega, by rw [List.take_add_one, List.take_add_one, hsame, hu, hv, Decidable.not_not.1 hd]⟩, (by omega), ⟨rfl, rfl, rfl, trivial⟩, (ent_take 0 rfl (ent_nil _))⟩
  ·obtain rfl : k = xs.length := by omega
   have hdd : decide (xs = ys) = true := decide_eq_true (by rw [List.take_length, hle, List.take_length] at hsame; exact hsame)
   refine TC.exit (et (et (eb (nt ?_))))
   refine TC.seq ?_
   refine TC.region ?_
   refine wab rfl rfl ?_
   refine TL.nil (nt ?_)
   refine TC.ret ?_
   exact Ret.i () [_] ⟨rfl, trivial⟩ (by rw [hdd]; rfl) trivial (ent_take 0 rfl (ent_nil _))
theorem ints_take1 (xs : List Int) (k : Nat) : (ints xs).take (k * 1) = ints (xs.take k) := by simp [ints, List.map_take]
theorem ints_one1 : ∀ (xs : List Int), (ints xs).all Value.oneCell' = true
  | [] => rfl
  | x :: xs => by have := ints_one1 xs; rw [ints] at this ⊢; rw [List.map_cons, List.all_cons, this]; rfl
theorem ints_splice1 {xs : List Int} {i : Nat} (h : i < xs.length) {o : Nat} (ho : o = i * 1) (v : Int) : splice o [.int .i64 v] (ints xs) = ints (xs.set i v) := by
  rw [ho, Nat.mul_one, List.set_eq_take_append_cons_drop, if_pos h]
  simp [splice, ints]
theorem ints_all1 {xs : List Int} {n : Nat} (h : xs.length = n) : (ints xs).take (n * 1) = ints xs := List.take_of_length_le (by rw [ints_length]; omega)
theorem ints_app1 (xs ys : List Int) : ints xs ++ ints ys = ints (xs ++ ys) := by simp [ints]
def notP (pr : Int → Bool) : Int → Bool := fun x => !pr x
structure DelI (xs : List Int) (pr : Int → Bool) (i j : Nat) (ys : List Int) : Prop where
  len : ys.length = xs.length
  ij : i < j
  jn : j ≤ xs.length
  tk : ys.take i = (xs.take j).filter (notP pr)
  dr : ys.drop j = xs.drop j
theorem DelI.start {xs : List Int} {pr : Int → Bool} {k : Nat} (h : xs.findIdx? pr = some k) : DelI xs pr k (k + 1) xs := by
  rw [List.findIdx?_eq_some_iff_getElem] at h
  obtain ⟨hk, hp, hn⟩ := h
  refine ⟨rfl, by omega, hk, ?_, rfl⟩
  rw [List.take_add_one, List.getElem?_eq_getElem hk, List.filter_append]
  have h1 : (xs.take k).filter (notP pr) = xs.take k := List.filter_eq_self.2 fun x hx => by
    obtain ⟨j, hj, rfl⟩ := List.getElem_of_mem hx
    rw [List.length_take] at hj
    have := hn j (by omega)
    rw [List.getElem_take]; simpa [notP] using this
  rw [h1]; simp [notP, hp]
theorem DelI.keep {xs : List Int} {pr : Int → Bool} {i j : Nat} {ys : List Int} (h : DelI xs pr i j ys) (hj : j < xs.length) {x : Int} (hx : xs[j]? = some x) (hp : pr x = false) : DelI xs pr (i + 1) (j + 1) (ys.set i x) where
  len := by rw [List.length_set]; exact h.len
  ij := by have := h.ij; omega
  jn := hj
  tk := by
    have hl := h.len; have hij := h.ij
    rw [List.take_add_one, List.getElem?_set_self (by omega), List.take_add_one, hx, List.filter_append, ← h.tk]
    rw [List.take_set_of_le (Nat.le_refl i)]
    simp [notP, hp]
  dr := by
    have hij := h.ij
    rw [List.drop_set_of_lt (by omega)]
    rw [← List.drop_drop, h.dr, List.drop_drop]
theorem DelI.skip {xs : List Int} {pr : Int → Bool} {i j : Nat} {ys : List Int} (h : DelI xs pr i j ys) (hj : j < xs.length) {x : Int} (hx : xs[j]? = some x) (hp : pr x = true) : DelI xs pr i (j + 1) ys where
  len := h.len
  ij := by have := h.ij; omega
  jn := hj
  tk := by rw [List.take_add_one, hx, List.filter_append, h.tk]; simp [notP, hp]
  dr := by rw [← List.drop_drop, h.dr, List.drop_drop]
theorem DelI.get {xs : List Int} {pr : Int → Bool} {i j : Nat} {ys : List Int} (h : DelI xs pr i j ys) {x : Int} (hx : xs[j]? = some x) : ys[j]? = some x := by
  have h1 : (ys.drop j)[0]? = (xs.drop j)[0]? := by rw [h.dr]
  rw [List.getElem?_drop, List.getElem?_drop] at h1
  exact h1.trans hx
theorem DelI.done {xs : List Int} {pr : Int → Bool} {i : Nat} {ys : List Int} (h : DelI xs pr i xs.length ys) : ys.take i = xs.filter (notP pr) ∧ (xs.filter (notP pr)).length = i := by
  have h1 := h.tk
  rw [List.take_length] at h1
  refine ⟨h1, ?_⟩
  rw [← h1, List.length_take]
  have := h.len; have := h.ij; omega
theorem del_none {xs : List Int} {pr : Int → Bool} (h : xs.findIdx? pr = none) : xs.filter (notP pr) = xs := by
  rw [List.findIdx?_eq_none_iff] at h
  exact List.filter_eq_self.2 fun x hx => by simp [notP, h x hx]
set_option maxRecDepth 4000 in
theorem indexI_ok (ad : Option Addr) (cap : Nat) (xs : List Int) (fc : FuncId) (lb : List Value) (pr : Int → Bool) (rdc : HP → Prop) (hclo : ∀ x, FSpec Tryz.prog fc ([.int .i64 x] ++ lb) rdc [] (fun _ : Unit => .bool (pr x)) (fun _ => True) (fun _ => [])) (hl : xs.length ≤ 1000000000) : FSpec Tryz.prog 128 [.slice ad xs.length cap, .func (.func fc) #[] lb.toArray] (fun F => (∃ E, RdS F E ad (ints xs)) ∧ rdc (sepL [F])) [] (fun _ : Unit => .int .i64 (match xs.findIdx? pr with | some i => (i : Int) | none => -1)) (fun _ => True) (fun _ => []) := by
 refine FSpec.intro (rs := [.tmp 4]) (by kernel_rfl) Tryz.func128 rfl Tryz.ntmps128 (by rfl) rfl ?_
 intro F ⟨⟨E, hF⟩, hFc⟩
 change TC _ _ _ _ _ _ _ (sepL [_])
 haveI : RdSI F ad E (ints xs) := ⟨hF⟩
 refine TC.seq ?_
 refine TC.region ?_
 refine wai rfl rfl ?_
 refine TL.nil (nt ?_)
 refine TC.seq ?_
 refine TC.seq ?_
 refine TC.region ?_
 refine wms rfl rfl ?_
 refine q rfl rfl (len 3 1 rfl rfl) ?_
 refine wmi rfl rfl ?_
 refine TL.nil (nt ?_)
 refine TC.block ?_
 refine TC.loop (ι := Nat) (fun i => i ≤ xs.length ∧ ∀ j t, j < i → xs[j]? = some t → pr t = false) (fun i => [(0, .slice ad xs.length cap), (1, .func (.func fc) #[] lb.toArray), (7, .int .i64 xs.length), (8, .int .i64 i)]) (fun i => sepL [F]) (fun i => xs.length - i) 0 ⟨Nat.zero_le _, by intro j t h; omega⟩ ⟨rfl, rfl, rfl, rfl, trivial⟩ (ent_take 0 rfl (ent_nil _)) ?_
 rintro k ⟨hinv, hno⟩ ρ0
 dsimp only [updL] at hinv hno ⊢
 refine TC.seq ?_
 refine TC.region ?_
 refine q rfl rfl (lss rfl rfl) ?_
 refine TL.nil (nt ?_)
 refine TC.seq ?_
 refine TC.condD rfl (fun hlt => ?_) (fun hlt => ?_)
 ·have hlt : k < xs.length := by omega
  obtain ⟨t, hk⟩ : ∃ t, xs[k]? = some t := ⟨xs[k], List.getElem?_eq_getElem hlt⟩
  have hil : 0 < (ints xs).length := by rw [ints_length]; omega
  refine TC.skip (nt ?_)
  refine TC.seq ?_
  refine TC.block ?_
  refine TC.seq ?_
  refine TC.region ?_
  refine wmi rfl rfl ?_
  refine wai rfl rfl ?_
  refine TL.nil (nt ?_)
  refine TC.seq ?_
  refine TC.region ?_
  refine q rfl rfl (mv (v := .func (.func fc) #[] lb.toArray) rfl) ?_
  refine wms rfl rfl ?_
  refine wmi rfl rfl ?_
  refine q rfl rfl (ixS 3 1 rfl rfl rfl (by omega) (by assumption)) ?_
  refine q rfl rfl (ldS rfl rfl (ints_get hk)) ?_
  refine e rfl ?_
  refine clC (hclo t) rfl rfl (picked_nil _) hFc ?_
  intro _ _
  change TL _ _ _ _ _ _ _ _ (sepL [_])
  refine TL.nil (nt ?_)
  cases hpr : pr t with
  | true => ?_
  | false => ?_
  ·refine TC.condT rfl ?_
   refine TC.seq ?_
   refine TC.region ?_
   refine wmi rfl rfl ?_
   refine wai rfl rfl ?_
   refine TL.nil (nt ?_)
   refine TC.ret (rb (rt (rt (rb (rt ?_)))))
   have hf : xs.findIdx? pr = some k := findIdx_at hk hpr hno
   exact Ret.i () [_] ⟨rfl, trivial⟩ (by rw [hf]; rfl) trivial (ent_take 0 rfl (ent_nil _))
  ·refine TC.condF rfl ?_
   refine TC.skip (nb (nt ?_))
   refine TC.region ?_
   refine q rfl rfl (addI rfl rfl (by omega) (by omega)) ?_
   refine wmi rfl rfl ?_
   refine TL.nil (nt ?_)
   exact ⟨rfl, (k + 1), ⟨by omega, fun j u hj hu => by rcases Nat.lt_succ_iff_lt_or_eq.1 hj with h | h; exact hno j u h hu; subst h; rw [hk] at hu; cases hu; exact hpr⟩, (by omega), ⟨rfl, rfl, rfl, rfl, trivial⟩, (ent_take 0 rfl (ent_nil _))⟩
 ·obtain rfl : k = xs.length := by omega
  have hf : xs.findIdx? pr = none := findIdx_no hno
  refine TC.exit (et (et (eb (nt ?_))))
  refine TC.seq ?_
  refine TC.region ?_
  refine wai rfl rfl ?_
  refine TL.nil (nt ?_)
  refine TC.ret ?_
  exact Ret.i () [_] ⟨rfl, trivial⟩ (by rw [hf]; rfl) trivial (ent_take 0 rfl (ent_nil _))
set_option maxRecDepth 4000 in
theorem deleteI_ok (ad : Option Addr) (cap : Nat) (xs : List Int) (fc : FuncId) (lb : List Value) (pr : Int → Bool) (rdc : HP → Prop) (hclo : ∀ x, FSpec Tryz.prog fc ([.int .i64 x] ++ lb) rdc [] (fun _ : Unit => .bool (pr x)) (fun _ => True) (fun _ => [])) (hl : xs.length ≤ 1000000000) (hm1 : ∀ F, rdc F → rdc (sepL [F])) (hm2 : ∀ B F, rdc F → rdc (sepL [B, F])) : FSpec Tryz.prog 96 [.slice ad xs.length cap, .func (.func fc) #[] lb.toArray] rdc [slc 3 1 ad xs.length cap (ints xs)] (fun _ : Unit => .slice ad (xs.filter (notP pr)).length cap) (fun _ => True) (fun _ => [slc 3 1 ad (xs.filter (notP pr)).length cap (ints (xs.filter (notP pr)))]) := by
 refine FSpec.intro (rs := [.tmp 4]) (by kernel_rfl) Tryz.func96 rfl Tryz.ntmps96 (by rfl) rfl ?_
 intro F hFc
 change TC _ _ _ _ _ _ _ (sepL [_, _])
 refine TC.factSlc 0 rfl (fun _ hcap _ => ?_)
 have hxl := ints_length xs
 refine TC.seq ?_
 refine TC.region ?_
 refine was rfl rfl ?_
 refine TL.nil (nt ?_)
 refine TC.seq ?_
 refine TC.region ?_
 refine wms rfl rfl ?_
 refine q rfl rfl (mv (v := .func (.func fc) #[] lb.toArray) rfl) ?_
 refine e rfl ?_
 refine cl (indexI_ok ad cap xs fc lb pr rdc hclo hl) rfl (picked_nil _) ⟨⟨_, RdSI.rd⟩, hm1 _ (hm2 _ _ hFc)⟩ ?_
 intro _ _
 change TL _ _ _ _ _ _ _ _ (sepL [_, _])
 cases hf : xs.findIdx? pr with
 | none => ?_
 | some k => ?_
 ·dsimp only
  rw [del_none hf]
  refine wai rfl rfl ?_
  refine TL.nil (nt ?_)
  refine TC.seq ?_
  refine TC.seq ?_
  refine TC.region ?_
  refine wmi rfl rfl ?_
  refine q rfl rfl (eqI rfl rfl) ?_
  refine TL.nil (nt ?_)
  refine TC.condD rfl (fun hc1 => ?_) (fun hc1 => absurd (rfl) hc1)
  refine TC.seq ?_
  refine TC.region ?_
  refine wms rfl rfl ?_
  refine was rfl rfl ?_
  refine TL.nil (nt ?_)
  refine TC.ret (rt ?_)
  exact Ret.i () [_] ⟨rfl, trivial⟩ rfl trivial (ent_take 0 rfl (ent_take 0 rfl (ent_nil _)))
 ·dsimp only
  have hD := DelI.start hf
  have hkn : k < xs.length := by have := hD.jn; omega
  refine wai rfl rfl ?_
  refine TL.nil (nt ?_)
  refine TC.seq ?_
  refine TC.seq ?_
  refine TC.region ?_
  refine wmi rfl rfl ?_
  refine q rfl rfl (eqI rfl rfl) ?_
  refine TL.nil (nt ?_)
  refine TC.condD rfl (fun hc2 => absurd hc2 (by omega)) (fun hc2 => ?_)
  refine TC.skip (nt ?_)
  refine TC.seq ?_
  refine TC.seq ?_
  refine TC.region ?_
  refine wmi rfl rfl ?_
  refine q rfl rfl (addI rfl rfl (by omega) (by omega)) ?_
  refine wai rfl rfl ?_
  refine TL.nil (nt ?_)
  refine TC.block ?_
  refine TC.loop (ι := Nat × Nat × List Int) (fun s => DelI xs pr s.1 s.2.1 s.2.2) (fun s => [(0, .slice ad xs.length cap), (1, .func (.func fc) #[] lb.toArray), (5, .int .i64 ((s.1 : Nat) : Int)), (6, .int .i64 ((s.2.1 : Nat) : Int))]) (fun s => sepL [slc 3 1 ad xs.length cap (ints s.2.2), F]) (fun s => xs.length - s.2.1) ⟨k, k + 1, xs⟩ hD ⟨rfl, rfl, rfl, rfl, trivial⟩ (ent_take 0 rfl (ent_take 0 rfl (ent_nil _))) ?_
  rintro ⟨i, j, ys⟩ hI ρ0
  dsimp only [updL] at hI ⊢
  have hj0 := hI.jn
  have hij := hI.ij
  have hyl := hI.len
  have hyi := ints_length ys
  refine TC.seq ?_
  refine TC.seq ?_
  refine TC.region ?_
  refine wmi rfl rfl ?_
  refine wms rfl rfl ?_
  refine q rfl rfl (len 3 1 rfl rfl) ?_
  refine q rfl rfl (lss rfl rfl) ?_
  refine TL.nil (nt ?_)
  refine TC.condD rfl (fun hlt => ?_) (fun hlt => ?_)
  ·have hlt2 : j < xs.length := by omega
   obtain ⟨x, hx⟩ : ∃ x, xs[j]? = some x := ⟨xs[j], List.getElem?_eq_getElem hlt2⟩
   have hxy := hI.get hx
   have hpos : 0 < (ints ys).length := by omega
   refine TC.skip (nt ?_)
   refine TC.seq ?_
   refine TC.block ?_
   refine TC.seq ?_
   refine TC.region ?_
   refine wms rfl rfl ?_
   refine wmi rfl rfl ?_
   refine q rfl rfl (ixS 3 1 rfl rfl rfl (by omega) (by assumption)) ?_
   refine q rfl rfl (ldS rfl rfl (ints_get hxy)) ?_
   refine wai rfl rfl ?_
   refine TL.nil (nt ?_)
   refine TC.seq ?_
   refine TC.region ?_
   refine q rfl rfl (mv (v := .func (.func fc) #[] lb.toArray) rfl) ?_
   refine wmi rfl rfl ?_
   refine e rfl ?_
   refine clC (hclo x) rfl rfl (picked_nil _) (hm2 _ _ hFc) ?_
   intro _ _
   change TL _ _ _ _ _ _ _ _ (sepL [_, _])
   refine q rfl rfl (notB rfl) ?_
   refine TL.nil (nt ?_)
   cases hpr : pr x with
   | true => ?_
   | false => ?_
   ·refine TC.condF rfl ?_
    refine TC.skip (nb (nt ?_))
    refine TC.region ?_
    refine wmi rfl rfl ?_
    refine q rfl rfl (addI rfl rfl (by omega) (by omega)) ?_
    refine wai rfl rfl ?_
    refine TL.nil (nt ?_)
    exact ⟨rfl, ⟨i, j + 1, ys⟩, (hI.skip hlt2 hx hpr), (by dsimp only; omega), ⟨rfl, rfl, rfl, rfl, trivial⟩, (ent_take 0 rfl (ent_take 0 rfl (ent_nil _)))⟩
   ·refine TC.condT rfl ?_
    refine TC.seq ?_
    refine TC.region ?_
    refine wms rfl rfl ?_
    refine wmi rfl rfl ?_
    refine wmi rfl rfl ?_
    refine q rfl rfl (ixS 3 1 rfl rfl rfl (by omega) (by assumption)) ?_
    refine e0 ?_
    refine stS (v := .int _ _) (vs := [_]) 1 rfl rfl rfl rfl rfl rfl (by decide) (by omega) (ints_splice1 (i := i) (by omega) (by omega) _) ?_
    refine TL.nil (nt ?_)
    refine TC.region ?_
    refine wmi rfl rfl ?_
    refine q rfl rfl (addI rfl rfl (by omega) (by omega)) ?_
    refine wai rfl rfl ?_
    refine TL.nil (nb (nt ?_))
    refine TC.region ?_
    refine wmi rfl rfl ?_
    refine q rfl rfl (addI rfl rfl (by omega) (by omega)) ?_
    refine wai rfl rfl ?_
    refine TL.nil (nt ?_)
    exact ⟨rfl, ⟨i + 1, j + 1, ys.set i x⟩, (hI.keep hlt2 hx hpr), (by dsimp only; omega), ⟨rfl, rfl, rfl, rfl, trivial⟩, (ent_take 0 rfl (ent_take 0 rfl (ent_nil _)))⟩
  ·obtain rfl : j = xs.length := by omega
   obtain ⟨d1, d2⟩ := hI.done
   refine TC.exit (et (et (eb (nt ?_))))
   refine TC.seq ?_
   refine TC.region ?_
   refine wms rfl rfl ?_
   refine wmi rfl rfl ?_
   refine q rfl rfl (slFn 3 1 (i) rfl rfl rfl (by omega) (by omega)) ?_
   refine e0 ?_
   refine clr (sz := 1) (z := .int .i64 0) i rfl rfl rfl rfl (by decide) rfl rfl (by omega) ?_
   intro cs1 hc1 hc2
   have hc3 : cs1.take (i * 1) = ints (xs.filter (notP pr)) := by rw [hc2, ints_take1, d1]
   refine TL.nil (nt ?_)
   refine TC.seq ?_
   refine TC.region ?_
   refine wms rfl rfl ?_
   refine wmi rfl rfl ?_
   refine q rfl rfl (slTn 3 1 (i) rfl rfl rfl (by omega) (by omega)) ?_
   refine was rfl rfl ?_
   refine TL.nil (nt ?_)
   refine TC.ret ?_
   exact Ret.i () [_] ⟨rfl, trivial⟩ (by rw [d2]; rfl) trivial (ent_takeW 0 rfl (by have := slc_to (E := 3) (sz := 1) (ad := ad) (n := xs.length) (cap := cap) (cs := cs1) (j := i) (by omega); rw [hc3] at this; rw [d2]; exact this) (ent_take 0 rfl (ent_nil _)))
set_option maxRecDepth 4000 in
theorem cloneI_ok (ad : Option Addr) (cap : Nat) (xs : List Int) (hl : xs.length ≤ 1000000000) : FSpec Tryz.prog 106 [.slice ad xs.length cap] (fun F => ∃ E, RdS F E ad (ints xs)) [] (fun y : Option Addr × Nat => .slice y.1 xs.length y.2) (fun _ => True) (fun y => [slc 3 1 y.1 xs.length y.2 (ints xs)]) := by
 refine FSpec.intro (rs := [.tmp 2]) (by kernel_rfl) Tryz.func106 rfl Tryz.ntmps106 (by rfl) rfl ?_
 intro F ⟨E, hF⟩
 change TC _ _ _ _ _ _ _ (sepL [_])
 haveI : RdSI F ad E (ints xs) := ⟨hF⟩
 have hxl := ints_length xs
 refine TC.seq ?_
 refine TC.region ?_
 refine was rfl rfl ?_
 refine TL.nil (nt ?_)
 refine TC.seq ?_
 refine TC.seq ?_
 refine TC.region ?_
 refine wms rfl rfl ?_
 refine q rfl rfl (eqSl rfl rfl rfl) ?_
 refine TL.nil (nt ?_)
 cases ad with
 | none => ?_
 | some a0 => ?_
 ·refine TC.fact (fun hh hx => RdS_none (RdS_l hF) hh hx) (fun hnil => ?_)
  obtain rfl : xs = [] := by simpa [ints] using hnil
  refine TC.condT rfl ?_
  refine TC.seq ?_
  refine TC.region ?_
  refine was rfl rfl ?_
  refine TL.nil (nt ?_)
  refine TC.ret (rt ?_)
  exact Ret.i ⟨none, 0⟩ [_] ⟨rfl, trivial⟩ rfl trivial ((slc_nil 3 1 _).trans (ent_takeE 0 rfl (by simp [ints]) (ent_take 0 rfl (ent_nil _))))
 ·refine TC.condF rfl ?_
  refine TC.skip (nt ?_)
  refine TC.seq ?_
  refine TC.region ?_
  refine e rfl ?_
  refine bs (cs := []) rfl ?_
  intro b1
  refine wms rfl rfl ?_
  refine e rfl ?_
  refine ap 8 rfl rfl rfl rfl rfl (by omega) (ints_all1 rfl) (ints_one1 _) (by omega) (by simp only [maxLen]; omega) ?_
  intro ad1 cap1
  refine was rfl rfl ?_
  refine TL.nil (nt ?_)
  refine TC.ret ?_
  exact Ret.i ⟨ad1, cap1⟩ [_] ⟨rfl, trivial⟩ (by rw [Nat.zero_add]; rfl) trivial (ent_takeE 0 rfl (by rw [Nat.zero_add, List.nil_append]) (ent_take 0 rfl (ent_nil _)))
end Go.Proofs.YtdfmfhcjnjfjbaaGreat.Rd
namespace Go.Proofs.YtdfmfhcjnjfjbaaGreat.Rd
open Go Go.QM
structure Th where
  id : Int
  prio : Int
  whole : Int
  left : Int
def thC (t : Th) : List Value := [.int .i64 t.whole, .int .i64 t.left, .int .i64 t.prio]
def rowA (S : List Th) (p : Nat) : List Int := (S.filter fun t => decide (t.prio = (p : Int))).map (·.id)
def hasS (S : List Th) (id : Int) : Prop := ∃ t ∈ S, t.id = id
instance (S : List Th) (id : Int) : Decidable (hasS S id) := inferInstanceAs (Decidable (∃ t ∈ S, t.id = id))
def fS (A : Int → Nat) (S : List Th) : Int → Option Value := fun id => if hasS S id then some (.pointer (some ⟨A id, 0, none⟩)) else none
def NdS (S : List Th) : Prop := (S.map (·.id)).Nodup
structure RInv (S : List Th) : Prop where
  nd : NdS S
  rg : ∀ t ∈ S, 0 ≤ t.id ∧ (0 ≤ t.prio ∧ t.prio ≤ 7) ∧ (0 ≤ t.whole ∧ t.whole ≤ 16) ∧ 0 ≤ t.left ∧ t.left ≤ 16
structure RRep where
  ad : Nat → Option Addr
  cap : Nat → Nat
  mb : Nat
  A : Int → Nat
abbrev rowP (ad : Nat → Option Addr) (cap : Nat → Nat) (S : List Th) (p : Nat) : HP := slc 3 1 (ad p) (rowA S p).length (cap p) (ints (rowA S p))
abbrev thP (A : Int → Nat) (t : Th) : HP := pts (A t.id) 136 (thC t)
abbrev hdS (ad : Nat → Option Addr) (cap : Nat → Nat) (mb : Nat) (S : List Th) : List Value := rowsC (fun p => .slice (ad p) (rowA S p).length (cap p)) [.map (some mb)]
def isQ (q : Nat) (S : List Th) : HP := EX fun y : RRep => pure' (RInv S) (sepL [pts q 140 (hdS y.ad y.cap y.mb S), bigS (rowP y.ad y.cap S) (List.range 8), mapF encI y.mb (fS y.A S) S.length, bigS (thP y.A) S])
theorem NdS.perm {S T : List Th} (h : NdS S) (p : T.Perm S) : NdS T := (p.map _).nodup_iff.2 h
theorem NdS.inj {S : List Th} (h : NdS S) {t u : Th} (ht : t ∈ S) (hu : u ∈ S) (e : t.id = u.id) : t = u := by
  obtain ⟨L, hL⟩ := perm_mem ht
  rcases List.mem_cons.1 (hL.mem_iff.1 hu) with h1 | h1
  · exact h1.symm
  · exact absurd (List.mem_map.2 ⟨u, h1, e.symm⟩) (List.nodup_cons.1 (h.perm hL.symm)).1
def offS (S : List Th) (id : Int) : List Th := S.filter fun t => decide (t.id ≠ id)
theorem off_perm {S L : List Th} {t : Th} (h : NdS S) (hL : S.Perm (t :: L)) : (offS S t.id).Perm L := by
  have h1 := hL.filter fun u => decide (u.id ≠ t.id)
  rw [List.filter_cons_of_neg (by simp)] at h1
  have h2 : L.filter (fun u => decide (u.id ≠ t.id)) = L := List.filter_eq_self.2 fun u hu => by
    have := (List.nodup_cons.1 (h.perm hL.symm)).1
    simp only [decide_eq_true_eq]
    exact fun e => this (List.mem_map.2 ⟨u, hu, e⟩)
  rw [h2] at h1; exact h1
theorem fS_congr {A : Int → Nat} {S T : List Th} (h : ∀ x, hasS T x ↔ hasS S x) : fS A T = fS A S := by
  funext x; simp only [fS, h x]
theorem fS_yes {A : Int → Nat} {S : List Th} {id : Int} (h : hasS S id) : fS A S id = some (.pointer (some ⟨A id, 0, none⟩)) := if_pos h
theorem fS_no {A : Int → Nat} {S : List Th} {id : Int} (h : ¬ hasS S id) : fS A S id = none := if_neg h
theorem offS_not (S : List Th) (x : Int) : ¬ hasS (offS S x) x := by
  rintro ⟨t, ht, h⟩
  have := (List.mem_filter.1 ht).2
  simp at this; exact this h
theorem offS_has {S : List Th} {x y : Int} : hasS (offS S x) y ↔ hasS S y ∧ y ≠ x := by
  constructor
  · rintro ⟨t, ht, rfl⟩
    obtain ⟨h1, h2⟩ := List.mem_filter.1 ht
    exact ⟨⟨t, h1, rfl⟩, by simpa using h2⟩
  · rintro ⟨⟨t, ht, rfl⟩, h⟩
    exact ⟨t, List.mem_filter.2 ⟨ht, by simpa using h⟩, rfl⟩
theorem offS_none {S : List Th} {x : Int} (h : ¬ hasS S x) : offS S x = S := List.filter_eq_self.2 fun t ht => by
  simp only [decide_eq_true_eq]; exact fun e => h ⟨t, ht, e⟩
theorem offS_len {S : List Th} {x : Int} (hn : NdS S) (h : hasS S x) : (offS S x).length + 1 = S.length := by
  obtain ⟨t, ht, rfl⟩ := h
  obtain ⟨L, hL⟩ := perm_mem ht
  rw [(off_perm hn hL).length_eq, hL.length_eq]; rfl
theorem RInv.sub {S T : List Th} (h : RInv S) (hs : T.Sublist S) : RInv T := ⟨h.nd.sublist (hs.map _), fun t ht => h.rg t (hs.subset ht)⟩
theorem RInv.off {S : List Th} (h : RInv S) (x : Int) : RInv (offS S x) := h.sub List.filter_sublist
def addS (S : List Th) (id prio sl : Int) : List Th × Int := if id < 0 ∨ prio < 0 ∨ 7 < prio ∨ sl < 1 ∨ 16 < sl then (S, 1) else if hasS S id then (S, 7) else (S ++ [⟨id, prio, sl, sl⟩], 0)
theorem RInv.add {S : List Th} (h : RInv S) {t : Th} (hx : ¬ hasS S t.id) (hr : 0 ≤ t.id ∧ (0 ≤ t.prio ∧ t.prio ≤ 7) ∧ (0 ≤ t.whole ∧ t.whole ≤ 16) ∧ 0 ≤ t.left ∧ t.left ≤ 16) : RInv (S ++ [t]) where
  nd := by
    rw [NdS, List.map_append, List.nodup_append]
    refine ⟨h.nd, by simp, fun x hx1 y hy => ?_⟩
    obtain ⟨a, ha, rfl⟩ := List.mem_map.1 hx1
    simp only [List.map_cons, List.map_nil, List.mem_singleton] at hy
    rw [hy]; exact fun e => hx ⟨a, ha, e⟩
  rg := fun u hu => by
    rcases List.mem_append.1 hu with hu | hu
    · exact h.rg u hu
    · rw [List.mem_singleton.1 hu]; exact hr
theorem rowA_app (S T : List Th) (p : Nat) : rowA (S ++ T) p = rowA S p ++ rowA T p := by simp [rowA]
theorem rowA_one {t : Th} {p : Nat} (h : t.prio = p) : rowA [t] p = [t.id] := by simp [rowA, h]
theorem rowA_one_ne {t : Th} {p : Nat} (h : t.prio ≠ p) : rowA [t] p = [] := by simp [rowA, h]
theorem fS_add {A : Int → Nat} {S : List Th} {t : Th} (b : Nat) : fS (updI A t.id b) (S ++ [t]) = updF (fS A S) t.id (.pointer (some ⟨b, 0, none⟩)) := by
  funext x
  simp only [fS, updF]
  have hh : hasS (S ++ [t]) x ↔ hasS S x ∨ t.id = x := by simp [hasS, or_and_right, exists_or]
  by_cases e : x = t.id
  · rw [if_pos (hh.2 (.inr e.symm)), if_pos e, e, updI_same]
  · rw [if_neg e, updI_ne e]
    by_cases h : hasS S x
    · rw [if_pos (hh.2 (.inl h)), if_pos h]
    · rw [if_neg (fun h2 => (hh.1 h2).elim h (fun e2 => e e2.symm)), if_neg h]
theorem fS_off {A : Int → Nat} {S : List Th} (x : Int) : fS A (offS S x) = delF (fS A S) x := by
  funext y
  simp only [fS, delF]
  by_cases e : y = x
  · rw [if_pos e, if_neg (fun h => (offS_has.1 h).2 e)]
  · rw [if_neg e]
    by_cases h : hasS S y
    · rw [if_pos h, if_pos (offS_has.2 ⟨h, e⟩)]
    · rw [if_neg h, if_neg (fun h2 => h (offS_has.1 h2).1)]
theorem rowA_mem {S : List Th} {p : Nat} {x : Int} : x ∈ rowA S p ↔ ∃ t ∈ S, t.prio = p ∧ t.id = x := by simp [rowA, and_assoc]
theorem rowA_len (S : List Th) (p : Nat) : (rowA S p).length ≤ S.length := by rw [rowA, List.length_map]; exact List.length_filter_le _ _
theorem rowA_off (S : List Th) (p : Nat) (x : Int) : rowA (offS S x) p = (rowA S p).filter fun y => decide (y ≠ x) := by
  rw [rowA, rowA, List.filter_map, offS, List.filter_filter, List.filter_filter]
  congr 1
  refine List.filter_congr fun t _ => ?_
  simp only [Function.comp_apply, Bool.and_comm]
theorem rowA_off_ne {S : List Th} (hn : NdS S) {t : Th} (ht : t ∈ S) {p : Nat} (hp : t.prio ≠ p) : rowA (offS S t.id) p = rowA S p := by
  rw [rowA_off]
  refine List.filter_eq_self.2 fun y hy => ?_
  obtain ⟨u, hu, h1, rfl⟩ := rowA_mem.1 hy
  simp only [decide_eq_true_eq]
  intro e
  rw [hn.inj hu ht e] at h1; exact hp h1
theorem rows_ne {ad : Nat → Option Addr} {cap : Nat → Nat} {S T : List Th} {p : Nat} {L : List Nat} {a : Option Addr} {c : Nat} (hL : ∀ x ∈ L, x ≠ p ∧ x < 8) (h : ∀ x, x ≠ p → rowA T x = rowA S x) : ∀ x ∈ L, rowP ad cap S x = rowP (updN ad p a) (updN cap p c) T x := fun x hx => by
  have := (hL x hx).1
  simp only [rowP, updN_ne this, h x this]
theorem rows_eq {ad : Nat → Option Addr} {cap : Nat → Nat} {S T : List Th} {p : Nat} {L : List Nat} (hL : ∀ x ∈ L, x ≠ p ∧ x < 8) (h : ∀ x, x ≠ p → rowA T x = rowA S x) : ∀ x ∈ L, rowP ad cap S x = rowP ad cap T x := fun x hx => by
  have := (hL x hx).1
  simp only [rowP, h x this]
theorem hd_upd {ad : Nat → Option Addr} {cap : Nat → Nat} {mb : Nat} {S T : List Th} {p n c : Nat} {a : Option Addr} (h : ∀ x, x ≠ p → rowA T x = rowA S x) (hp : (rowA T p).length = n) :
    rowsC (fun x => if x = p then Value.slice a n c else .slice (ad x) (rowA S x).length (cap x)) [.map (some mb)] = hdS (updN ad p a) (updN cap p c) mb T := rows_congr fun x _ => by
  by_cases e : x = p
  · rw [if_pos e, e, updN_same, updN_same, hp]
  · rw [if_neg e, updN_ne e, updN_ne e, h x e]
theorem hd_same {ad : Nat → Option Addr} {cap : Nat → Nat} {mb : Nat} {S T : List Th} (h : ∀ x, (rowA T x).length = (rowA S x).length) : hdS ad cap mb S = hdS ad cap mb T := rows_congr fun x _ => by rw [h x]
def dropS (S : List Th) (ids : List Int) : List Th := ids.foldl offS S
theorem dropS_snoc (S : List Th) (ids : List Int) (x : Int) : dropS S (ids ++ [x]) = offS (dropS S ids) x := by simp [dropS]
theorem dropS_sub (S : List Th) : ∀ ids, (dropS S ids).Sublist S
  | [] => List.Sublist.refl _
  | x :: l => by rw [dropS, List.foldl_cons]; exact (dropS_sub (offS S x) l).trans List.filter_sublist
theorem dropS_eq (S : List Th) (ids : List Int) : dropS S ids = S.filter fun t => decide (t.id ∉ ids) := by
  induction ids generalizing S with
  | nil => exact (List.filter_eq_self.2 fun a _ => by simp).symm
  | cons x l ih =>
    rw [dropS, List.foldl_cons]
    have := ih (offS S x)
    rw [dropS] at this
    rw [this, offS, List.filter_filter]
    congr 1; funext e
    rw [Bool.eq_iff_iff]
    simp only [Bool.and_eq_true, decide_eq_true_eq, List.mem_cons, not_or]
    exact ⟨fun h => ⟨h.2, h.1⟩, fun h => ⟨h.2, h.1⟩⟩
def topS (S : List Th) : Option Th := S.find? fun t => S.all fun u => decide (u.prio ≤ t.prio)
def runS (S : List Th) : Int := match topS S with
  | some t => t.id
  | none => -1
theorem top_mem {S : List Th} {t : Th} (h : topS S = some t) : t ∈ S ∧ ∀ u ∈ S, u.prio ≤ t.prio := by
  refine ⟨List.mem_of_find?_eq_some h, fun u hu => ?_⟩
  have := List.find?_some h
  rw [List.all_eq_true] at this
  simpa using this u hu
theorem top_row {S : List Th} (h : RInv S) {p : Nat} (hn : ∀ x, p < x → x < 8 → rowA S x = []) {x : Int} {rest : List Int} (hr : rowA S p = x :: rest) : ∃ t, topS S = some t ∧ t.id = x ∧ t.prio = p := by
  have hle : ∀ u ∈ S, u.prio ≤ p := fun u hu => by
    have h1 := h.rg u hu
    obtain ⟨k, hk⟩ := Int.eq_ofNat_of_zero_le h1.2.1.1
    by_cases hpk : p < k
    · have := hn k hpk (by omega)
      have hm : u.id ∈ rowA S k := rowA_mem.2 ⟨u, hu, hk, rfl⟩
      rw [this] at hm; cases hm
    · omega
  obtain ⟨t, T, hf⟩ : ∃ t T, S.filter (fun t => decide (t.prio = (p : Int))) = t :: T := by
    cases hS : S.filter (fun t => decide (t.prio = (p : Int))) with
    | nil => rw [rowA, hS] at hr; cases hr
    | cons t T => exact ⟨t, T, rfl⟩
  have hid : t.id = x := by rw [rowA, hf] at hr; simpa using (List.cons.inj hr).1
  have hmt := List.mem_filter.1 (show t ∈ S.filter (fun t => decide (t.prio = (p : Int))) by rw [hf]; simp)
  have htp : t.prio = p := by simpa using hmt.2
  refine ⟨t, ?_, hid, htp⟩
  have h2 : topS S = S.find? fun t => decide (t.prio = (p : Int)) := by
    rw [topS]
    have : ∀ u ∈ S, (S.all fun v => decide (v.prio ≤ u.prio)) = decide (u.prio = (p : Int)) := fun u hu => by
      rw [Bool.eq_iff_iff, List.all_eq_true]
      simp only [decide_eq_true_eq]
      constructor
      · intro h3
        have h4 := h3 t hmt.1; have h5 := hle u hu; omega
      · intro h3 v hv
        have := hle v hv; omega
    induction S with
    | nil => rfl
    | cons a l _ => exact find_congr this
  rw [h2, ← List.head?_filter, hf]; rfl
 where find_congr {f g : Th → Bool} : ∀ {l : List Th}, (∀ u ∈ l, f u = g u) → l.find? f = l.find? g
  | [], _ => rfl
  | a :: l, h => by
    rw [List.find?_cons, List.find?_cons, h a (by simp), find_congr fun u hu => h u (by simp [hu])]
theorem top_none {S : List Th} (h : RInv S) (hn : ∀ x, x < 8 → rowA S x = []) : S = [] := by
  rcases S with _ | ⟨t, T⟩
  · rfl
  · have h1 := h.rg t (by simp)
    obtain ⟨k, hk⟩ := Int.eq_ofNat_of_zero_le h1.2.1.1
    have hm : t.id ∈ rowA (t :: T) k := rowA_mem.2 ⟨t, by simp, hk, rfl⟩
    rw [hn k (by omega)] at hm; cases hm
def rndS (S : List Th) (t : Th) : List Th := offS S t.id ++ [⟨t.id, t.prio, t.whole, t.whole⟩]
def setL (S : List Th) (id v : Int) : List Th := S.map fun t => if t.id = id then ⟨t.id, t.prio, t.whole, v⟩ else t
def tickS (S : List Th) : List Th := match topS S with
  | none => S
  | some t => if t.left = 1 then rndS S t else setL S t.id (t.left - 1)
def yieldS (S : List Th) : List Th := match topS S with
  | none => S
  | some t => rndS S t
theorem rnd_has {S : List Th} {t : Th} (ht : t ∈ S) (x : Int) : hasS (rndS S t) x ↔ hasS S x := by
  have hh : hasS (rndS S t) x ↔ hasS (offS S t.id) x ∨ t.id = x := by simp [rndS, hasS, or_and_right, exists_or]
  rw [hh, offS_has]
  constructor
  · rintro (h | h)
    · exact h.1
    · exact ⟨t, ht, h⟩
  · intro h
    by_cases e : x = t.id
    · exact .inr e.symm
    · exact .inl ⟨h, e⟩
theorem RInv.rnd {S : List Th} (h : RInv S) {t : Th} (ht : t ∈ S) : RInv (rndS S t) :=
  (h.off t.id).add (t := ⟨t.id, t.prio, t.whole, t.whole⟩) (offS_not S t.id) (by have := h.rg t ht; dsimp only; omega)
theorem rnd_len {S : List Th} (h : NdS S) {t : Th} (ht : t ∈ S) : (rndS S t).length = S.length := by
  have := offS_len h ⟨t, ht, rfl⟩
  rw [rndS, List.length_append, List.length_singleton]; omega
theorem rnd_row_ne {S : List Th} (hn : NdS S) {t : Th} (ht : t ∈ S) {p x : Nat} (hp : t.prio = p) (hx : x ≠ p) : rowA (rndS S t) x = rowA S x := by
  have h1 : t.prio ≠ (x : Int) := by omega
  rw [rndS, rowA_app, rowA_one_ne (by dsimp only; exact h1), List.append_nil, rowA_off_ne hn ht h1]
theorem rowA_nd {S : List Th} (hn : NdS S) (p : Nat) : (rowA S p).Nodup := hn.sublist (List.filter_sublist.map _)
theorem rnd_row {S : List Th} (hn : NdS S) {t : Th} {p : Nat} (hp : t.prio = p) {rest : List Int} (hr : rowA S p = t.id :: rest) : rowA (rndS S t) p = rest ++ [t.id] := by
  rw [rndS, rowA_app, rowA_one (by dsimp only; exact hp), rowA_off, hr, List.filter_cons_of_neg (by simp)]
  have h1 := rowA_nd hn p
  rw [hr, List.nodup_cons] at h1
  rw [List.filter_eq_self.2 fun y hy => by simp only [decide_eq_true_eq]; exact fun e => h1.1 (by rw [← e]; exact hy)]
theorem top_first {S : List Th} {t : Th} (h : topS S = some t) {p : Nat} (hp : t.prio = p) : ∃ rest, rowA S p = t.id :: rest := by
  obtain ⟨hm, hle⟩ := top_mem h
  have h2 : topS S = S.find? fun t => decide (t.prio = (p : Int)) := by
    rw [topS]
    refine top_row.find_congr fun u hu => ?_
    rw [Bool.eq_iff_iff, List.all_eq_true]
    simp only [decide_eq_true_eq]
    constructor
    · intro h3
      have h4 := h3 t hm; have h5 := hle u hu; omega
    · intro h3 v hv
      have := hle v hv; omega
  rw [h2, ← List.head?_filter] at h
  cases hf : S.filter (fun t => decide (t.prio = (p : Int))) with
  | nil => rw [hf] at h; cases h
  | cons a l =>
    rw [hf] at h
    simp only [List.head?_cons, Option.some.injEq] at h
    exact ⟨l.map (·.id), by rw [rowA, hf, h]; rfl⟩
theorem row_copy (x : Int) (rest : List Int) : splice 0 (((ints (x :: rest)).drop (1 * 1)).take (rest.length * 1)) (ints (x :: rest)) = ints (rest ++ (x :: rest).drop rest.length) := by
  simp [splice, ints, List.map_drop]
  exact List.take_of_length_le (by simp)
theorem row_set (x : Int) (rest : List Int) : (rest ++ (x :: rest).drop rest.length).set rest.length x = rest ++ [x] := by
  rw [List.set_append_right _ _ (Nat.le_refl _), Nat.sub_self]
  have hl : ((x :: rest).drop rest.length).length = 1 := by simp
  obtain ⟨y, hy⟩ : ∃ y, (x :: rest).drop rest.length = [y] := List.length_eq_one_iff.1 hl
  rw [hy]; rfl
theorem setL_has (S : List Th) (id v x : Int) : hasS (setL S id v) x ↔ hasS S x := by
  simp only [hasS, setL, List.mem_map]
  constructor
  · rintro ⟨_, ⟨t, ht, rfl⟩, h⟩
    exact ⟨t, ht, by split at h <;> exact h⟩
  · rintro ⟨t, ht, h⟩
    exact ⟨_, ⟨t, ht, rfl⟩, by split <;> exact h⟩
theorem setL_row (S : List Th) (id v : Int) (p : Nat) : rowA (setL S id v) p = rowA S p := by
  rw [rowA, rowA, setL, List.filter_map, List.map_map]
  have h1 : ((fun t : Th => decide (t.prio = (p : Int))) ∘ fun t : Th => if t.id = id then (⟨t.id, t.prio, t.whole, v⟩ : Th) else t) = fun t => decide (t.prio = (p : Int)) := by
    funext t; simp only [Function.comp_apply]; split <;> rfl
  rw [h1]
  exact List.map_congr_left fun t _ => by simp only [Function.comp_apply]; split <;> rfl
theorem setL_ids (S : List Th) (id v : Int) : (setL S id v).map (·.id) = S.map (·.id) := by
  rw [setL, List.map_map]
  exact List.map_congr_left fun t _ => by simp only [Function.comp_apply]; split <;> rfl
theorem setL_len (S : List Th) (id v : Int) : (setL S id v).length = S.length := by simp [setL]
theorem RInv.setL {S : List Th} (h : RInv S) (id : Int) {v : Int} (hv : 0 ≤ v ∧ v ≤ 16) : RInv (setL S id v) where
  nd := by rw [NdS, setL_ids]; exact h.nd
  rg := fun t ht => by
    obtain ⟨u, hu, rfl⟩ := List.mem_map.1 ht
    have := h.rg u hu
    split
    · dsimp only; omega
    · exact this
theorem setL_perm {S L : List Th} {t : Th} (hn : NdS S) (hL : S.Perm (t :: L)) (v : Int) : (⟨t.id, t.prio, t.whole, v⟩ :: L : List Th).Perm (setL S t.id v) := by
  have h1 := hL.map fun u : Th => if u.id = t.id then (⟨u.id, u.prio, u.whole, v⟩ : Th) else u
  rw [List.map_cons, if_pos rfl] at h1
  have h2 : L.map (fun u : Th => if u.id = t.id then (⟨u.id, u.prio, u.whole, v⟩ : Th) else u) = L := by
    conv => rhs; rw [← List.map_id L]
    refine List.map_congr_left fun u hu => ?_
    have := (List.nodup_cons.1 (hn.perm hL.symm)).1
    rw [if_neg (fun e => this (List.mem_map.2 ⟨u, hu, e⟩))]; rfl
  rw [h2] at h1
  exact h1.symm
theorem setL_top {S : List Th} {t : Th} (h : topS S = some t) (v : Int) : topS (setL S t.id v) = some ⟨t.id, t.prio, t.whole, v⟩ := by
  have hf : ∀ u : Th, (if u.id = t.id then (⟨u.id, u.prio, u.whole, v⟩ : Th) else u).prio = u.prio := fun u => by split <;> rfl
  rw [topS, setL, List.find?_map]
  have h1 : ((fun a : Th => (S.map fun u : Th => if u.id = t.id then (⟨u.id, u.prio, u.whole, v⟩ : Th) else u).all fun w => decide (w.prio ≤ a.prio)) ∘ fun u : Th => if u.id = t.id then (⟨u.id, u.prio, u.whole, v⟩ : Th) else u) = fun a => S.all fun w => decide (w.prio ≤ a.prio) := by
    funext a
    simp only [Function.comp_apply, hf, List.all_map]
    congr 1; funext w; simp only [Function.comp_apply, hf]
  rw [h1]
  have h2 : S.find? (fun a => S.all fun w => decide (w.prio ≤ a.prio)) = some t := h
  rw [h2, Option.map_some, if_pos rfl]
theorem setL_off (S : List Th) (id v : Int) : offS (setL S id v) id = offS S id := by
  rw [offS, offS, setL, List.filter_map]
  have h1 : ((fun u : Th => decide (u.id ≠ id)) ∘ fun t : Th => if t.id = id then (⟨t.id, t.prio, t.whole, v⟩ : Th) else t) = fun u => decide (u.id ≠ id) := by
    funext u; simp only [Function.comp_apply]; split <;> rfl
  rw [h1]
  conv => rhs; rw [← List.map_id (S.filter _)]
  refine List.map_congr_left fun u hu => ?_
  have := (List.mem_filter.1 hu).2
  rw [if_neg (by simpa using this)]; rfl
theorem RInv.nil : RInv [] := ⟨List.nodup_nil, fun t h => by cases h⟩
theorem not_neg {S : List Th} (h : RInv S) : ¬ hasS S (-1) := by
  rintro ⟨t, ht, h1⟩
  have := h.rg t ht; omega
end Go.Proofs.YtdfmfhcjnjfjbaaGreat.Rd
namespace Go.Proofs.YtdfmfhcjnjfjbaaGreat.Rd
open Go Go.QM
def rowR (S : List Th) (p : Int) : List Int := if 0 ≤ p ∧ p ≤ 7 then rowA S p.toNat else []
theorem row_del {S : List Th} {p : Nat} {x : Int} : (rowA S p).filter (notP fun y => decide (y = x)) = rowA (offS S x) p := by
  rw [rowA_off]
  exact List.filter_congr fun y _ => by simp [notP]
theorem perm_off {S L : List Th} {t : Th} (h : NdS S) (hL : S.Perm (t :: L)) (u : Th) : (u :: L).Perm (offS S t.id ++ [u]) :=
  ((off_perm h hL).symm.cons u).trans (List.perm_append_singleton _ _).symm
theorem rnew_ent (qp mb : Nat) (F : HP) : ent (sepL [pts qp 140 (rowsC (fun _ => .slice none 0 0) [.map (some mb)]), mapF encI mb (fun _ => none) 0, F]) (sepL [isQ qp [], F]) := by
  have hf : fS (fun _ => 0) [] = fun _ => none := funext fun _ => if_neg (by simp [hasS])
  have h8 : List.range 8 = [0, 1, 2, 3, 4, 5, 6, 7] := by rfl
  refine (bigS_nil (f := thP (fun _ => 0)) _).trans ?_
  refine (((slc_nil 3 1 _).trans ((slc_nil 3 1 _).trans ((slc_nil 3 1 _).trans ((slc_nil 3 1 _).trans ((slc_nil 3 1 _).trans ((slc_nil 3 1 _).trans ((slc_nil 3 1 _).trans (slc_nil 3 1 _)))))))) : ent _ (sepL [slc 3 1 none 0 0 [], slc 3 1 none 0 0 [], slc 3 1 none 0 0 [], slc 3 1 none 0 0 [], slc 3 1 none 0 0 [], slc 3 1 none 0 0 [], slc 3 1 none 0 0 [], slc 3 1 none 0 0 [], _, _, _, _])).trans ?_
  refine ent_close (⟨fun _ => none, fun _ => 0, mb, fun _ => 0⟩ : RRep) RInv.nil ?_
  refine ent_take 9 rfl ?_
  refine (show ent (sepL [slc 3 1 none 0 0 [], slc 3 1 none 0 0 [], slc 3 1 none 0 0 [], slc 3 1 none 0 0 [], slc 3 1 none 0 0 [], slc 3 1 none 0 0 [], slc 3 1 none 0 0 [], slc 3 1 none 0 0 [], bigS (thP fun _ => 0) [], mapF encI mb (fun _ => none) 0, F]) (sepL [bigS (rowP (fun _ => none) (fun _ => 0) []) (List.range 8), mapF encI mb (fS (fun _ => 0) []) 0, bigS (thP fun _ => 0) [], F]) from ?_)
  rw [hf, bigS, h8]
  refine (sepL_append' [slc 3 1 none 0 0 [], slc 3 1 none 0 0 [], slc 3 1 none 0 0 [], slc 3 1 none 0 0 [], slc 3 1 none 0 0 [], slc 3 1 none 0 0 [], slc 3 1 none 0 0 [], slc 3 1 none 0 0 []] _).trans (sep_mono (ent.refl _) ?_)
  exact ent_take 1 rfl (ent_take 0 rfl (ent_take 0 rfl (ent_nil _)))
set_option maxRecDepth 4000 in
theorem rnew_ok  : FSpec Tryz.prog 66 [] noRd [] (fun qp : Nat => .pointer (some ⟨qp, 0, none⟩)) (fun _ => True) (fun qp => [isQ qp []]) := by
 refine FSpec.intro (rs := [.tmp 0]) (by kernel_rfl) Tryz.func66 rfl Tryz.ntmps66 (by rfl) rfl ?_
 intro F _
 change TC _ _ _ _ _ _ _ (sepL [_])
 refine TC.seq ?_
 refine TC.region ?_
 refine wap rfl rfl ?_
 refine TL.nil (nt ?_)
 refine TC.seq ?_
 refine TC.region ?_
 refine e rfl ?_
 refine mkF encI ?_
 intro b1
 refine q rfl rfl (bld (cs := [.slice _ _ _, .slice _ _ _, .slice _ _ _, .slice _ _ _, .slice _ _ _, .slice _ _ _, .slice _ _ _, .slice _ _ _, .map _]) rfl) ?_
 refine e rfl ?_
 refine bx (v := .agg _) (l := [.slice _ _ _, .slice _ _ _, .slice _ _ _, .slice _ _ _, .slice _ _ _, .slice _ _ _, .slice _ _ _, .slice _ _ _, .map _]) rfl rfl ?_
 intro b2
 refine wap rfl rfl ?_
 refine TL.nil (nt ?_)
 refine TC.ret ?_
 have h8 : List.range 8 = [0, 1, 2, 3, 4, 5, 6, 7] := by rfl
 exact Ret.i b2 [_] ⟨rfl, trivial⟩ rfl trivial (rnew_ent b2 b1 F)
set_option maxRecDepth 4000 in
theorem qat_ok (qp : Nat) (r : Nat → Value) (mb n : Nat) (f : Int → Option Value) (id : Int) : FSpec Tryz.prog 93 [.pointer (some ⟨qp, 0, none⟩), .int .i64 id] noRd [pts qp 140 (rowsC r [.map (some mb)]), mapF encI mb f n] (fun _ : Unit => (f id).getD (.pointer none)) (fun _ => True) (fun _ => [pts qp 140 (rowsC r [.map (some mb)]), mapF encI mb f n]) := by
 refine FSpec.intro (rs := [.tmp 4]) (by kernel_rfl) Tryz.func93 rfl Tryz.ntmps93 (by rfl) rfl ?_
 intro F _
 change TC _ _ _ _ _ _ _ (sepL [_, _, _])
 refine TC.seq ?_
 refine TC.region ?_
 refine q rfl rfl (asg rfl) ?_
 refine TL.nil (nt ?_)
 refine TC.seq ?_
 refine TC.seq ?_
 refine TC.region ?_
 refine q rfl rfl (mv rfl) ?_
 refine q rfl rfl (eqNil rfl rfl rfl) ?_
 refine TL.nil (nt ?_)
 refine TC.condF rfl ?_
 refine TC.skip (nt ?_)
 refine TC.seq ?_
 refine TC.region ?_
 refine q rfl rfl (mv rfl) ?_
 refine wnc rfl rfl ?_
 refine wfa 8 rfl rfl rfl ?_
 refine wld rfl rfl rfl rfl ?_
 refine q rfl rfl (mv rfl) ?_
 refine q rfl rfl (luF 3 131 rfl rfl (KL.int rfl) rfl rfl) ?_
 refine q rfl rfl (asg rfl) ?_
 refine TL.nil (nt ?_)
 refine TC.ret ?_
 exact Ret.i () [_] ⟨rfl, trivial⟩ rfl trivial (ent_take 0 rfl (ent_take 0 rfl (ent_take 0 rfl (ent_nil _))))
set_option maxRecDepth 4000 in
theorem again_ok (b : Nat) (w l r : Int) : FSpec Tryz.prog 94 [.pointer (some ⟨b, 0, none⟩)] noRd [pts b 136 [.int .i64 w, .int .i64 l, .int .i64 r]] (fun _ : Unit => .tuple #[]) (fun _ => True) (fun _ => [pts b 136 [.int .i64 w, .int .i64 w, .int .i64 r]]) := by
 refine FSpec.intro (rs := []) (by kernel_rfl) Tryz.func94 rfl Tryz.ntmps94 (by rfl) rfl ?_
 intro F _
 change TC _ _ _ _ _ _ _ (sepL [_, _])
 refine TC.region ?_
 refine wmp rfl rfl ?_
 refine wmp rfl rfl ?_
 refine wnc rfl rfl ?_
 refine wfa 0 rfl rfl rfl ?_
 refine wld rfl rfl rfl rfl ?_
 refine wnc rfl rfl ?_
 refine wfa 1 rfl rfl rfl ?_
 refine e0 ?_
 refine st (v := .int _ _) (vs := [_]) 1 rfl rfl rfl rfl rfl rfl (Nat.le_of_ble_eq_true rfl) rfl ?_
 refine TL.nil ?_
 exact Ret.n () [] trivial rfl trivial (ent_take 0 rfl (ent_take 0 rfl (ent_nil _)))
set_option maxRecDepth 4000 in
theorem spend_ok (b : Nat) (w l r : Int) (hl : 0 ≤ l ∧ l ≤ 100) : FSpec Tryz.prog 104 [.pointer (some ⟨b, 0, none⟩)] noRd [pts b 136 [.int .i64 w, .int .i64 l, .int .i64 r]] (fun _ : Unit => .bool (decide (l - 1 = 0))) (fun _ => True) (fun _ => [pts b 136 [.int .i64 w, .int .i64 (l - 1), .int .i64 r]]) := by
 refine FSpec.intro (rs := [.tmp 2]) (by kernel_rfl) Tryz.func104 rfl Tryz.ntmps104 (by rfl) rfl ?_
 intro F _
 change TC _ _ _ _ _ _ _ (sepL [_, _])
 refine TC.seq ?_
 refine TC.region ?_
 refine wab rfl rfl ?_
 refine TL.nil (nt ?_)
 refine TC.seq ?_
 refine TC.region ?_
 refine wmp rfl rfl ?_
 refine wnc rfl rfl ?_
 refine wfa 1 rfl rfl rfl ?_
 refine wld rfl rfl rfl rfl ?_
 refine q rfl rfl (subI rfl rfl (by omega) (by omega)) ?_
 refine wnc rfl rfl ?_
 refine wfa 1 rfl rfl rfl ?_
 refine e0 ?_
 refine st (v := .int _ _) (vs := [_]) 1 rfl rfl rfl rfl rfl rfl (Nat.le_of_ble_eq_true rfl) rfl ?_
 refine TL.nil (nt ?_)
 refine TC.seq ?_
 refine TC.region ?_
 refine wmp rfl rfl ?_
 refine wnc rfl rfl ?_
 refine wfa 1 rfl rfl rfl ?_
 refine wld rfl rfl rfl rfl ?_
 refine q rfl rfl (eqI rfl rfl) ?_
 refine wab rfl rfl ?_
 refine TL.nil (nt ?_)
 refine TC.ret ?_
 exact Ret.i () [_] ⟨rfl, trivial⟩ rfl trivial (ent_take 0 rfl (ent_take 0 rfl (ent_nil _)))
set_option maxRecDepth 4000 in
theorem drop1_ok (b : Nat) (id x : Int) : FSpec Tryz.prog 97 [.int .i64 x, .pointer (some ⟨b, 0, none⟩)] (fun F => Rd F b (.cells #[Value.int .i64 id] 3 (0, 0))) [] (fun _ : Unit => .bool (decide (x = id))) (fun _ => True) (fun _ => []) := by
 refine FSpec.intro (rs := [.tmp 3]) (by kernel_rfl) Tryz.func97 rfl Tryz.ntmps97 (by rfl) rfl ?_
 intro F hF
 change TC _ _ _ _ _ _ _ (sepL [_])
 haveI : RdI F b (.cells #[Value.int .i64 id] 3 (0, 0)) := ⟨hF⟩
 refine TC.seq ?_
 refine TC.region ?_
 refine wab rfl rfl ?_
 refine TL.nil (nt ?_)
 refine TC.seq ?_
 refine TC.region ?_
 refine wmi rfl rfl ?_
 refine wld rfl rfl rfl rfl ?_
 refine q rfl rfl (eqI rfl rfl) ?_
 refine wab rfl rfl ?_
 refine TL.nil (nt ?_)
 refine TC.ret ?_
 exact Ret.i () [_] ⟨rfl, trivial⟩ rfl trivial (ent_take 0 rfl (ent_nil _))
set_option maxRecDepth 4000 in
theorem run_ok (qp : Nat) (S : List Th) (hn : S.length ≤ 1000000) : FSpec Tryz.prog 60 [.pointer (some ⟨qp, 0, none⟩)] noRd [isQ qp S] (fun _ : Unit => .int .i64 (runS S)) (fun _ => True) (fun _ => [isQ qp S]) := by
 refine FSpec.intro (rs := [.tmp 2]) (by kernel_rfl) Tryz.func60 rfl Tryz.ntmps60 (by rfl) rfl ?_
 intro F _
 change TC _ _ _ _ _ _ _ (sepL [_, _])
 refine TC.open 0 rfl (fun x0 hx0 => ?_)
 obtain ⟨ad, cap, mb, A⟩ := x0
 have hR := hx0
 change TC _ _ _ _ _ _ _ (sepL [_, _, _, _, _])
 dsimp only at hR ⊢
 refine TC.seq ?_
 refine TC.region ?_
 refine wai rfl rfl ?_
 refine TL.nil (nt ?_)
 refine TC.seq ?_
 refine TC.seq ?_
 refine TC.region ?_
 refine wai rfl rfl ?_
 refine TL.nil (nt ?_)
 refine TC.block ?_
 refine TC.loop (ι := Nat) (fun k => k ≤ 8 ∧ ∀ x, k ≤ x → x < 8 → rowA S x = []) (fun k => [(0, .pointer (some ⟨qp, 0, none⟩)), (3, .int .i64 ((k : Int) - 1))]) (fun k => sepL [pts qp 140 (hdS ad cap mb S), bigS (rowP ad cap S) (List.range 8), mapF encI mb (fS A S) S.length, bigS (thP A) S, F]) (fun k => k) 8 ⟨Nat.le_refl _, fun x h1 h2 => by omega⟩ ⟨rfl, rfl, trivial⟩ (ent_take 0 rfl (ent_take 0 rfl (ent_take 0 rfl (ent_take 0 rfl (ent_take 0 rfl (ent_nil _)))))) ?_
 rintro k ⟨hk, hem⟩ ρ0
 dsimp only [updL] at hk hem ⊢
 refine TC.seq ?_
 refine TC.seq ?_
 refine TC.region ?_
 refine wmp rfl rfl ?_
 refine q rfl rfl (neNil rfl rfl rfl) ?_
 refine wmb rfl rfl ?_
 refine TL.known 7 rfl (c := true) rfl ?_
 refine qg rfl rfl rfl (mv (v := .int _ _) rfl) ?_
 refine qg rfl rfl rfl (geq rfl rfl) ?_
 refine q rfl rfl (pkT (v := .bool _) rfl rfl) ?_
 refine TL.nil (nt ?_)
 refine TC.condD rfl (fun hge => ?_) (fun hge => ?_)
 ·obtain ⟨p, rfl⟩ : ∃ z, k = z + 1 := ⟨k - 1, by omega⟩
  rw [show (((p + 1 : Nat) : Int) - 1) = (p : Int) from by omega]
  have hp8 : p < 8 := by omega
  obtain ⟨L, hL, hLn⟩ := range_perm hp8
  refine TC.weak (ent_openB 1 rfl hL) ?_
  refine TC.skip (nt ?_)
  refine TC.seq ?_
  refine TC.block ?_
  refine TC.seq ?_
  refine TC.region ?_
  refine wmp rfl rfl ?_
  refine wmi rfl rfl ?_
  refine wnc rfl rfl ?_
  refine wfa 0 rfl rfl rfl ?_
  refine q rfl rfl (ixAl 8 41 1 rfl rfl rfl (by omega) (by omega)) ?_
  refine q rfl rfl (ld rfl rfl (rows_ld hp8 (by omega))) ?_
  refine was rfl rfl ?_
  refine TL.nil (nt ?_)
  refine TC.seq ?_
  refine TC.region ?_
  refine wms rfl rfl ?_
  refine q rfl rfl (len 3 1 rfl rfl) ?_
  refine q rfl rfl (gtr rfl rfl) ?_
  refine TL.nil (nt ?_)
  refine TC.condD rfl (fun hlen => ?_) (fun hlen => ?_)
  ·obtain ⟨x0, rest, hrow⟩ : ∃ x0 rest, rowA S p = x0 :: rest := by
    cases hr0 : rowA S p with
    | nil => rw [hr0] at hlen; simp at hlen
    | cons a l => exact ⟨a, l, rfl⟩
   obtain ⟨t, ht1, ht2, ht3⟩ := top_row hR (fun x h1 h2 => hem x (by omega) h2) hrow
   have hv : runS S = x0 := by rw [runS, ht1, ← ht2]
   rw [hv]
   have hx0 : (rowA S p)[0]? = some x0 := by rw [hrow]; rfl
   have hil := ints_length (rowA S p)
   have hpos : 0 < (ints (rowA S p)).length := by omega
   refine TC.seq ?_
   refine TC.region ?_
   refine wms rfl rfl ?_
   refine q rfl rfl (ixJ 3 1 rfl rfl rfl (by omega) (by omega) (by assumption)) ?_
   refine q rfl rfl (ldS rfl rfl (ints_get hx0)) ?_
   refine wai rfl rfl ?_
   refine TL.nil (nt ?_)
   refine TC.ret (rb (rt (rt (rb (rt ?_)))))
   exact Ret.i () [_] ⟨rfl, trivial⟩ rfl trivial (ent_close ⟨ad, cap, mb, A⟩ hR (ent_take 2 rfl (ent_closeB 0 0 p rfl rfl rfl (fun _ _ => rfl) hL.symm (ent_take 0 rfl (ent_take 0 rfl (ent_take 0 rfl (ent_nil _)))))))
  ·refine TC.skip (nb (nt ?_))
   refine TC.region ?_
   refine wmi rfl rfl ?_
   refine q rfl rfl (subI rfl rfl (by omega) (by omega)) ?_
   refine wai rfl rfl ?_
   refine TL.nil (nt ?_)
   exact ⟨rfl, p, ⟨by omega, fun x h1 h2 => by rcases Nat.lt_or_eq_of_le h1 with h3 | h3; exact hem x (by omega) h2; subst h3; exact List.length_eq_zero_iff.1 (by omega)⟩, (by omega), ⟨rfl, rfl, trivial⟩, (ent_take 2 rfl (ent_closeB 0 0 p rfl rfl rfl (fun _ _ => rfl) hL.symm (ent_take 0 rfl (ent_take 0 rfl (ent_take 0 rfl (ent_nil _))))))⟩
 ·obtain rfl : k = 0 := by omega
  have hS := top_none hR (fun x h => hem x (by omega) h)
  have hv : runS S = -1 := by rw [hS]; rfl
  rw [hv]
  refine TC.exit (et (et (eb (nt ?_))))
  refine TC.seq ?_
  refine TC.region ?_
  refine wai rfl rfl ?_
  refine TL.nil (nt ?_)
  refine TC.ret ?_
  exact Ret.i () [_] ⟨rfl, trivial⟩ rfl trivial (ent_close ⟨ad, cap, mb, A⟩ hR (ent_take 0 rfl (ent_take 0 rfl (ent_take 0 rfl (ent_take 0 rfl (ent_take 0 rfl (ent_nil _)))))))
set_option maxRecDepth 4000 in
theorem row_ok (qp : Nat) (S : List Th) (hn : S.length ≤ 1000000) (pr : Int) : FSpec Tryz.prog 62 [.pointer (some ⟨qp, 0, none⟩), .int .i64 pr] noRd [isQ qp S] (fun y : Option Addr × Nat => .slice y.1 (rowR S pr).length y.2) (fun _ => True) (fun y => [slc 3 1 y.1 (rowR S pr).length y.2 (ints (rowR S pr)), isQ qp S]) := by
 refine FSpec.intro (rs := [.tmp 4]) (by kernel_rfl) Tryz.func62 rfl Tryz.ntmps62 (by rfl) rfl ?_
 intro F _
 change TC _ _ _ _ _ _ _ (sepL [_, _])
 refine TC.seq ?_
 refine TC.region ?_
 refine was rfl rfl ?_
 refine TL.nil (nt ?_)
 refine TC.seq ?_
 refine TC.seq ?_
 refine TC.region ?_
 refine wmp rfl rfl ?_
 refine q rfl rfl (eqNil rfl rfl rfl) ?_
 refine wmb rfl rfl ?_
 refine TL.known 7 rfl (c := false) rfl ?_
 refine qg rfl rfl rfl (mv (v := .int _ _) rfl) ?_
 refine qg rfl rfl rfl (lss rfl rfl) ?_
 refine q rfl rfl (pkF (v := .bool _) rfl rfl) ?_
 refine wmb rfl rfl ?_
 refine TL.split 11 rfl (fun h0 => ?_) (fun h0 => ?_)
 ·have h0 := of_decide_eq_true h0
  have hv : rowR S pr = [] := by rw [rowR, if_neg (by omega)]
  rw [hv]
  refine qs rfl rfl ?_
  refine qs rfl rfl ?_
  refine q rfl rfl (pkT (v := .bool _) rfl rfl) ?_
  refine TL.nil (nt ?_)
  refine TC.condT rfl ?_
  refine TC.seq ?_
  refine TC.region ?_
  refine was rfl rfl ?_
  refine TL.nil (nt ?_)
  refine TC.ret (rt ?_)
  exact Ret.i ⟨none, 0⟩ [_] ⟨rfl, trivial⟩ rfl trivial ((slc_nil 3 1 _).trans (ent_take 0 rfl (ent_take 0 rfl (ent_take 0 rfl (ent_nil _)))))
 ·have h0 := of_decide_eq_false h0
  refine qg rfl rfl rfl (mv (v := .int _ _) rfl) ?_
  refine qg rfl rfl rfl (gtr rfl rfl) ?_
  refine q rfl rfl (pkF (v := .bool _) rfl rfl) ?_
  refine TL.nil (nt ?_)
  refine TC.condD rfl (fun h7 => ?_) (fun h7 => ?_)
  ·have hv : rowR S pr = [] := by rw [rowR, if_neg (by omega)]
   rw [hv]
   refine TC.seq ?_
   refine TC.region ?_
   refine was rfl rfl ?_
   refine TL.nil (nt ?_)
   refine TC.ret (rt ?_)
   exact Ret.i ⟨none, 0⟩ [_] ⟨rfl, trivial⟩ rfl trivial ((slc_nil 3 1 _).trans (ent_take 0 rfl (ent_take 0 rfl (ent_take 0 rfl (ent_nil _)))))
  ·obtain ⟨p, rfl⟩ := Int.eq_ofNat_of_zero_le (show 0 ≤ pr by omega)
   have hp8 : p < 8 := by omega
   have hv : rowR S (p : Int) = rowA S p := by rw [rowR, if_pos (by omega), Int.toNat_natCast]
   rw [hv]
   obtain ⟨L, hL, hLn⟩ := range_perm hp8
   have hrl := rowA_len S p
   refine TC.open 0 rfl (fun x0 hx0 => ?_)
   obtain ⟨ad, cap, mb, A⟩ := x0
   have hR := hx0
   change TC _ _ _ _ _ _ _ (sepL [_, _, _, _, _])
   dsimp only at hR ⊢
   refine TC.weak (ent_openB 1 rfl hL) ?_
   refine TC.skip (nt ?_)
   refine TC.seq ?_
   refine TC.region ?_
   refine wmp rfl rfl ?_
   refine wmi rfl rfl ?_
   refine wnc rfl rfl ?_
   refine wfa 0 rfl rfl rfl ?_
   refine q rfl rfl (ixAl 8 41 1 rfl rfl rfl (by omega) (by omega)) ?_
   refine q rfl rfl (ld rfl rfl (rows_ld hp8 (by omega))) ?_
   refine e rfl ?_
   refine cl (cloneI_ok (ad p) (cap p) (rowA S p) (by omega)) rfl (picked_nil _) ⟨_, RdSI.rd (ad := ad p)⟩ ?_
   intro y _
   change TL _ _ _ _ _ _ _ _ (sepL [_, _, _, _, _, _, _])
   refine was rfl rfl ?_
   refine TL.nil (nt ?_)
   refine TC.ret ?_
   exact Ret.i y [_] ⟨rfl, trivial⟩ rfl trivial (ent_take 0 rfl (ent_close ⟨ad, cap, mb, A⟩ hR (ent_take 2 rfl (ent_closeB 0 0 p rfl rfl rfl (fun _ _ => rfl) hL.symm (ent_take 0 rfl (ent_take 0 rfl (ent_take 0 rfl (ent_nil _))))))))
set_option maxRecDepth 4000 in
theorem add_ok (qp : Nat) (S : List Th) (hn : S.length ≤ 1000000) (id pr sl : Int) : FSpec Tryz.prog 48 [.pointer (some ⟨qp, 0, none⟩), .int .i64 id, .int .i64 pr, .int .i64 sl] noRd [isQ qp S] (fun _ : Unit => .int .i64 (addS S id pr sl).2) (fun _ => True) (fun _ => [isQ qp (addS S id pr sl).1]) := by
 refine FSpec.intro (rs := [.tmp 8]) (by kernel_rfl) Tryz.func48 rfl Tryz.ntmps48 (by rfl) rfl ?_
 intro F _
 change TC _ _ _ _ _ _ _ (sepL [_, _])
 refine TC.seq ?_
 refine TC.region ?_
 refine wai rfl rfl ?_
 refine TL.nil (nt ?_)
 refine TC.seq ?_
 refine TC.block ?_
 refine TC.seq ?_
 refine TC.region ?_
 refine wmp rfl rfl ?_
 refine q rfl rfl (eqNil rfl rfl rfl) ?_
 refine wmb rfl rfl ?_
 refine TL.known 13 rfl (c := false) rfl ?_
 refine qg rfl rfl rfl (mv (v := .int _ _) rfl) ?_
 refine qg rfl rfl rfl (lss rfl rfl) ?_
 refine q rfl rfl (pkF (v := .bool _) rfl rfl) ?_
 refine wmb rfl rfl ?_
 refine TL.split 17 rfl (fun hs0 => ?_) (fun hs0 => ?_)
 ·have hs0 := of_decide_eq_true hs0
  have hv : addS S id pr sl = (S, 1) := by rw [addS, if_pos (by omega)]
  rw [hv]
  dsimp only
  refine qs rfl rfl ?_
  refine qs rfl rfl ?_
  refine q rfl rfl (pkT (v := .bool _) rfl rfl) ?_
  refine wmb rfl rfl ?_
  refine qs rfl rfl ?_
  refine qs rfl rfl ?_
  refine q rfl rfl (pkT (v := .bool _) rfl rfl) ?_
  refine wmb rfl rfl ?_
  refine qs rfl rfl ?_
  refine qs rfl rfl ?_
  refine q rfl rfl (pkT (v := .bool _) rfl rfl) ?_
  refine wmb rfl rfl ?_
  refine qs rfl rfl ?_
  refine qs rfl rfl ?_
  refine q rfl rfl (pkT (v := .bool _) rfl rfl) ?_
  refine wab rfl rfl ?_
  refine TL.nil (nt ?_)
  refine TC.condT rfl ?_
  refine TC.seq ?_
  refine TC.region ?_
  refine wai rfl rfl ?_
  refine TL.nil (nt ?_)
  refine TC.ret (rb (rt ?_))
  exact Ret.i () [_] ⟨rfl, trivial⟩ rfl trivial (ent_take 0 rfl (ent_take 0 rfl (ent_nil _)))
 ·have hs0 := of_decide_eq_false hs0
  refine qg rfl rfl rfl (mv (v := .int _ _) rfl) ?_
  refine qg rfl rfl rfl (lss rfl rfl) ?_
  refine q rfl rfl (pkF (v := .bool _) rfl rfl) ?_
  refine wmb rfl rfl ?_
  refine TL.split 21 rfl (fun hs1 => ?_) (fun hs1 => ?_)
  ·have hs1 := of_decide_eq_true hs1
   have hv : addS S id pr sl = (S, 1) := by rw [addS, if_pos (by omega)]
   rw [hv]
   dsimp only
   refine qs rfl rfl ?_
   refine qs rfl rfl ?_
   refine q rfl rfl (pkT (v := .bool _) rfl rfl) ?_
   refine wmb rfl rfl ?_
   refine qs rfl rfl ?_
   refine qs rfl rfl ?_
   refine q rfl rfl (pkT (v := .bool _) rfl rfl) ?_
   refine wmb rfl rfl ?_
   refine qs rfl rfl ?_
   refine qs rfl rfl ?_
   refine q rfl rfl (pkT (v := .bool _) rfl rfl) ?_
   refine wab rfl rfl ?_
   refine TL.nil (nt ?_)
   refine TC.condT rfl ?_
   refine TC.seq ?_
   refine TC.region ?_
   refine wai rfl rfl ?_
   refine TL.nil (nt ?_)
   refine TC.ret (rb (rt ?_))
   exact Ret.i () [_] ⟨rfl, trivial⟩ rfl trivial (ent_take 0 rfl (ent_take 0 rfl (ent_nil _)))
  ·have hs1 := of_decide_eq_false hs1
   refine qg rfl rfl rfl (mv (v := .int _ _) rfl) ?_
   refine qg rfl rfl rfl (gtr rfl rfl) ?_
   refine q rfl rfl (pkF (v := .bool _) rfl rfl) ?_
   refine wmb rfl rfl ?_
   refine TL.split 25 rfl (fun hs2 => ?_) (fun hs2 => ?_)
   ·have hs2 := of_decide_eq_true hs2
    have hv : addS S id pr sl = (S, 1) := by rw [addS, if_pos (by omega)]
    rw [hv]
    dsimp only
    refine qs rfl rfl ?_
    refine qs rfl rfl ?_
    refine q rfl rfl (pkT (v := .bool _) rfl rfl) ?_
    refine wmb rfl rfl ?_
    refine qs rfl rfl ?_
    refine qs rfl rfl ?_
    refine q rfl rfl (pkT (v := .bool _) rfl rfl) ?_
    refine wab rfl rfl ?_
    refine TL.nil (nt ?_)
    refine TC.condT rfl ?_
    refine TC.seq ?_
    refine TC.region ?_
    refine wai rfl rfl ?_
    refine TL.nil (nt ?_)
    refine TC.ret (rb (rt ?_))
    exact Ret.i () [_] ⟨rfl, trivial⟩ rfl trivial (ent_take 0 rfl (ent_take 0 rfl (ent_nil _)))
   ·have hs2 := of_decide_eq_false hs2
    refine qg rfl rfl rfl (mv (v := .int _ _) rfl) ?_
    refine qg rfl rfl rfl (lss rfl rfl) ?_
    refine q rfl rfl (pkF (v := .bool _) rfl rfl) ?_
    refine wmb rfl rfl ?_
    refine TL.split 29 rfl (fun hs3 => ?_) (fun hs3 => ?_)
    ·have hs3 := of_decide_eq_true hs3
     have hv : addS S id pr sl = (S, 1) := by rw [addS, if_pos (by omega)]
     rw [hv]
     dsimp only
     refine qs rfl rfl ?_
     refine qs rfl rfl ?_
     refine q rfl rfl (pkT (v := .bool _) rfl rfl) ?_
     refine wab rfl rfl ?_
     refine TL.nil (nt ?_)
     refine TC.condT rfl ?_
     refine TC.seq ?_
     refine TC.region ?_
     refine wai rfl rfl ?_
     refine TL.nil (nt ?_)
     refine TC.ret (rb (rt ?_))
     exact Ret.i () [_] ⟨rfl, trivial⟩ rfl trivial (ent_take 0 rfl (ent_take 0 rfl (ent_nil _)))
    ·have hs3 := of_decide_eq_false hs3
     refine qg rfl rfl rfl (mv (v := .int _ _) rfl) ?_
     refine qg rfl rfl rfl (gtr rfl rfl) ?_
     refine q rfl rfl (pkF (v := .bool _) rfl rfl) ?_
     refine wab rfl rfl ?_
     refine TL.nil (nt ?_)
     refine TC.condD rfl (fun hs4 => ?_) (fun hs4 => ?_)
     ·have hv : addS S id pr sl = (S, 1) := by rw [addS, if_pos (by omega)]
      rw [hv]
      dsimp only
      refine TC.seq ?_
      refine TC.region ?_
      refine wai rfl rfl ?_
      refine TL.nil (nt ?_)
      refine TC.ret (rb (rt ?_))
      exact Ret.i () [_] ⟨rfl, trivial⟩ rfl trivial (ent_take 0 rfl (ent_take 0 rfl (ent_nil _)))
     ·refine TC.open 0 rfl (fun x0 hx0 => ?_)
      obtain ⟨ad, cap, mb, A⟩ := x0
      have hR := hx0
      change TC _ _ _ _ _ _ _ (sepL [_, _, _, _, _])
      dsimp only at hR ⊢
      by_cases hy : hasS S id
      ·have hf := fS_yes (A := A) hy
       have hv : addS S id pr sl = (S, 7) := by rw [addS, if_neg (by omega), if_pos hy]
       rw [hv]
       dsimp only
       refine TC.seq ?_
       refine TC.region ?_
       refine wmp rfl rfl ?_
       refine wmi rfl rfl ?_
       refine e rfl ?_
       refine cl (qat_ok qp _ mb S.length (fS A S) id) rfl (picked_cons 0 rfl (picked_cons 1 rfl (picked_nil _))) trivial ?_
       intro _ _
       change TL _ _ _ _ _ _ _ _ (sepL [_, _, _, _, _])
       rw [hf]
       refine q rfl rfl (neNil rfl rfl rfl) ?_
       refine wab rfl rfl ?_
       refine TL.nil (nt ?_)
       refine TC.condT rfl ?_
       refine TC.seq ?_
       refine TC.region ?_
       refine wai rfl rfl ?_
       refine TL.nil (nt ?_)
       refine TC.ret (rb (rt ?_))
       exact Ret.i () [_] ⟨rfl, trivial⟩ rfl trivial (ent_close ⟨ad, cap, mb, A⟩ hR (ent_take 0 rfl (ent_take 1 rfl (ent_take 0 rfl (ent_take 0 rfl (ent_take 0 rfl (ent_nil _)))))))
      ·have hf := fS_no (A := A) hy
       have hv : addS S id pr sl = (S ++ [⟨id, pr, sl, sl⟩], 0) := by rw [addS, if_neg (by omega), if_neg hy]
       rw [hv]
       dsimp only
       obtain ⟨p, rfl⟩ := Int.eq_ofNat_of_zero_le (show 0 ≤ pr by omega)
       have hp8 : p < 8 := by omega
       obtain ⟨L, hL, hLn⟩ := range_perm hp8
       have hrl := rowA_len S p
       have hR2 := hR.add (t := ⟨id, p, sl, sl⟩) hy (by dsimp only; omega)
       have hrow : ∀ x, x ≠ p → rowA (S ++ [⟨id, (p : Int), sl, sl⟩]) x = rowA S x := fun x hx => by rw [rowA_app, rowA_one_ne (by dsimp only; omega), List.append_nil]
       have hrowp : rowA (S ++ [⟨id, (p : Int), sl, sl⟩]) p = rowA S p ++ [id] := by rw [rowA_app, rowA_one rfl]
       have hil := ints_length (rowA S p)
       refine TC.weak (ent_openB 1 rfl hL) ?_
       refine TC.seq ?_
       refine TC.region ?_
       refine wmp rfl rfl ?_
       refine wmi rfl rfl ?_
       refine e rfl ?_
       refine cl (qat_ok qp _ mb S.length (fS A S) id) rfl (picked_cons 2 rfl (picked_cons 2 rfl (picked_nil _))) trivial ?_
       intro _ _
       change TL _ _ _ _ _ _ _ _ (sepL [_, _, _, _, _, _])
       rw [hf]
       refine q rfl rfl (neNil rfl rfl rfl) ?_
       refine wab rfl rfl ?_
       refine TL.nil (nt ?_)
       refine TC.condF rfl ?_
       refine TC.skip (nb (nt ?_))
       refine TC.seq ?_
       refine TC.region ?_
       refine wmi rfl rfl ?_
       refine q rfl rfl (bld (cs := [.int _ _, .int _ _]) rfl) ?_
       refine wmi rfl rfl ?_
       refine q rfl rfl (bld (cs := [.int _ _, .int _ _, .int _ _]) rfl) ?_
       refine e rfl ?_
       refine bx (v := .agg #[_, _, _]) (l := [.int _ _, .int _ _, .int _ _]) rfl rfl ?_
       intro b3
       refine wap rfl rfl ?_
       refine TL.nil (nt ?_)
       refine TC.seq ?_
       refine TC.region ?_
       refine wmp rfl rfl ?_
       refine wnc rfl rfl ?_
       refine wfa 0 rfl rfl rfl ?_
       refine e rfl ?_
       refine cl (again_ok b3 sl 0 p) rfl (picked_cons 0 rfl (picked_nil _)) trivial ?_
       intro _ _
       change TL _ _ _ _ _ _ _ _ (sepL [_, _, _, _, _, _, _])
       refine TL.nil (nt ?_)
       refine TC.seq ?_
       refine TC.region ?_
       refine wmp rfl rfl ?_
       refine wnc rfl rfl ?_
       refine wfa 8 rfl rfl rfl ?_
       refine wld rfl rfl rfl rfl ?_
       refine wmi rfl rfl ?_
       refine wmp rfl rfl ?_
       refine e0 ?_
       refine muF 3 131 rfl (KL.int rfl) rfl rfl rfl ?_
       refine TL.nil (nt ?_)
       refine TC.seq ?_
       refine TC.draw _ [14] [(0, false), (1, false), (2, false), (3, false), (4, false), (5, false), (6, false), (7, false), (8, false), (11, false), (12, false), (9, true), (10, true), (13, false), (14, true)] (by kernel_rfl) (by kernel_rfl) (ent_take 2 rfl (ent_nil _)) ?_
       refine vmp rfl rfl rfl ?_
       refine vmi rfl rfl rfl ?_
       refine vmp rfl rfl rfl ?_
       refine vmi rfl rfl rfl ?_
       refine vnc rfl rfl rfl ?_
       refine vfa 0 rfl rfl rfl rfl ?_
       refine dq rfl rfl rfl (ixAl 8 41 1 rfl rfl rfl (by omega) (by omega)) ?_
       refine dq rfl rfl rfl (ld rfl rfl (rows_ld hp8 (by omega))) ?_
       refine vmi rfl rfl rfl ?_
       refine vnc rfl rfl rfl ?_
       refine vfa 0 rfl rfl rfl rfl ?_
       refine de rfl rfl ?_
       refine bs (cs := [.int _ _]) rfl ?_
       intro b4
       refine ⟨(ent_take 3 rfl (ent_nil _)), ?_⟩
       refine de rfl rfl ?_
       refine ap 8 rfl rfl rfl rfl rfl (Nat.le_of_ble_eq_true rfl) (show _ = ints [id] from rfl) rfl (by omega) (by simp only [maxLen]; omega) ?_
       intro ad1 cap1
       refine ⟨(ent_take 4 rfl (ent_nil _)), ?_⟩
       refine dq rfl rfl rfl (ixAl 8 41 1 rfl rfl rfl (by omega) (by omega)) ?_
       refine dl0 rfl rfl rfl ?_
       refine st (v := .slice _ _ _) (vs := [_]) 1 rfl rfl rfl rfl rfl rfl (by rw [rows_length]; simp; omega) (rows_st _ hp8 (by omega)) ?_
       refine TD.nil (nt ?_)
       refine TC.seq ?_
       refine TC.region ?_
       refine wai rfl rfl ?_
       refine TL.nil (nt ?_)
       refine TC.ret ?_
       exact Ret.i () [_] ⟨rfl, trivial⟩ rfl trivial (ent_close ⟨updN ad p ad1, updN cap p cap1, mb, updI A id b3⟩ hR2 (ent_takeE 0 rfl (congrArg (pts qp 140) (hd_upd (n := (rowA S p).length + 1) hrow (by rw [hrowp, List.length_append]; rfl))) (ent_closeB 0 3 p rfl rfl (by dsimp only [rowP]; rw [updN_same, updN_same, hrowp, List.length_append, List.length_singleton, ints_app1]) (rows_ne hLn hrow) hL.symm (ent_takeE 1 rfl (by dsimp only; rw [fS_add (t := ⟨id, (p : Int), sl, sl⟩), hf, List.length_append]; rfl) (ent_closeB 1 1 ⟨id, (p : Int), sl, sl⟩ rfl rfl (by dsimp only [thP]; rw [updI_same]; rfl) (fun u hu => by dsimp only [thP]; rw [updI_ne (fun e2 => hy ⟨u, hu, e2⟩)]) (List.perm_append_singleton _ _).symm (ent_take 1 rfl (ent_nil _)))))))
end Go.Proofs.YtdfmfhcjnjfjbaaGreat.Rd
namespace Go.Proofs.YtdfmfhcjnjfjbaaGreat.Rd
open Go Go.QM
theorem row_one (xs : List Int) (a b : Nat) : (((ints xs).drop a).take b).all Value.oneCell' = true := by
  rw [List.all_eq_true]
  intro v hv
  exact List.all_eq_true.1 (ints_one1 xs) v (List.mem_of_mem_drop (List.mem_of_mem_take hv))
theorem rnd_setL (S : List Th) (t : Th) (v : Int) : rndS (setL S t.id v) ⟨t.id, t.prio, t.whole, v⟩ = rndS S t := by rw [rndS, setL_off]; rfl
theorem rnd_lens {S : List Th} (hn : NdS S) {t : Th} (ht : t ∈ S) {p : Nat} (hp : t.prio = p) {rest : List Int} (hr : rowA S p = t.id :: rest) (x : Nat) : (rowA (rndS S t) x).length = (rowA S x).length := by
  by_cases e : x = p
  · rw [e, rnd_row hn hp hr, hr]; simp
  · rw [rnd_row_ne hn ht hp e]
theorem RInv.tick {S : List Th} (h : RInv S) (hl : ∀ t ∈ S, 1 ≤ t.left) : RInv (tickS S) := by
  rw [tickS]
  cases ht : topS S with
  | none => exact h
  | some t =>
    have hm := (top_mem ht).1
    have h1 := h.rg t hm
    have h2 := hl t hm
    dsimp only
    split
    · exact h.rnd hm
    · exact h.setL t.id (by omega)
theorem rnd_len2 {S : List Th} (h : RInv S) (hl : ∀ t ∈ S, 1 ≤ t.left) : (tickS S).length = S.length := by
  rw [tickS]
  cases ht : topS S with
  | none => rfl
  | some t =>
    dsimp only
    split
    · exact rnd_len h.nd (top_mem ht).1
    · exact setL_len _ _ _
set_option maxRecDepth 4000 in
theorem round_ok (qp : Nat) (S : List Th) (hn : S.length ≤ 1000000) (t : Th) (ht : topS S = some t) : FSpec Tryz.prog 105 [.pointer (some ⟨qp, 0, none⟩), .int .i64 t.id] noRd [isQ qp S] (fun _ : Unit => .tuple #[]) (fun _ => True) (fun _ => [isQ qp (rndS S t)]) := by
 refine FSpec.intro (rs := []) (by kernel_rfl) Tryz.func105 rfl Tryz.ntmps105 (by rfl) rfl ?_
 intro F _
 change TC _ _ _ _ _ _ _ (sepL [_, _])
 refine TC.open 0 rfl (fun x0 hx0 => ?_)
 obtain ⟨ad, cap, mb, A⟩ := x0
 have hR := hx0
 change TC _ _ _ _ _ _ _ (sepL [_, _, _, _, _])
 dsimp only at hR ⊢
 have htm := (top_mem ht).1
 have htr := hR.rg t htm
 obtain ⟨p, hp⟩ := Int.eq_ofNat_of_zero_le htr.2.1.1
 have hp8 : p < 8 := by omega
 obtain ⟨rest, hrow⟩ := top_first ht hp
 obtain ⟨L, hL, hLn⟩ := range_perm hp8
 obtain ⟨M, hM⟩ := perm_mem htm
 have hf := fS_yes (A := A) ⟨t, htm, rfl⟩
 have hrl := rowA_len S p
 rw [hrow, List.length_cons] at hrl
 refine TC.weak (ent_openB 3 rfl hM) ?_
 refine TC.weak (ent_openB 3 rfl hL) ?_
 refine TC.seq ?_
 refine TC.region ?_
 refine wmp rfl rfl ?_
 refine wmi rfl rfl ?_
 refine e rfl ?_
 refine cl (qat_ok qp _ mb S.length (fS A S) t.id) rfl (picked_cons 4 rfl (picked_cons 4 rfl (picked_nil _))) trivial ?_
 intro _ _
 change TL _ _ _ _ _ _ _ _ (sepL [_, _, _, _, _, _, _])
 rw [hf]
 refine wap rfl rfl ?_
 refine TL.nil (nt ?_)
 refine TC.seq ?_
 refine TC.seq ?_
 refine TC.region ?_
 refine wmp rfl rfl ?_
 refine q rfl rfl (eqNil rfl rfl rfl) ?_
 refine TL.nil (nt ?_)
 refine TC.condF rfl ?_
 refine TC.skip (nt ?_)
 refine TC.seq ?_
 refine TC.region ?_
 refine wmp rfl rfl ?_
 refine wnc rfl rfl ?_
 refine wfa 0 rfl rfl rfl ?_
 refine e rfl ?_
 refine cl (again_ok (A t.id) t.whole t.left t.prio) rfl (picked_cons 4 rfl (picked_nil _)) trivial ?_
 intro _ _
 change TL _ _ _ _ _ _ _ _ (sepL [_, _, _, _, _, _, _])
 refine TL.nil (nt ?_)
 refine TC.seq ?_
 refine TC.draw _ [] [(0, false), (1, false), (2, false), (3, false), (4, false), (5, false), (6, false), (7, false), (8, false), (9, false)] (by kernel_rfl) (by kernel_rfl) (ent.refl _) ?_
 refine vmp rfl rfl rfl ?_
 refine vmp rfl rfl rfl ?_
 refine vnc rfl rfl rfl ?_
 refine vfa 2 rfl rfl rfl rfl ?_
 refine vld rfl rfl rfl rfl rfl ?_
 refine vnc rfl rfl rfl ?_
 refine vfa 0 rfl rfl rfl rfl ?_
 refine dq rfl rfl rfl (ixAl 8 41 1 rfl rfl rfl (by omega) (by omega)) ?_
 refine dq rfl rfl rfl (ld rfl rfl (rows_ld hp8 (by omega))) ?_
 refine vas rfl rfl rfl ?_
 refine TD.nil (nt ?_)
 refine TC.seq ?_
 dsimp only [rowP]
 rw [hrow, List.length_cons]
 refine TC.factSlc 3 rfl (fun _ hcap _ => ?_)
 haveI : OffI (ints (t.id :: rest)) (cap p) 1 1 := ⟨rest.length + 1, by rw [ints_length]; simp, by omega, hcap⟩
 have hpos : 0 < (ints (rest ++ (t.id :: rest).drop rest.length)).length := by rw [ints_length]; simp
 change TC _ _ _ _ _ _ _ (sepL [_, _, _, _, _, _, _])
 refine TC.region ?_
 refine wms rfl rfl ?_
 refine wms rfl rfl ?_
 refine q rfl rfl (slFn 3 1 (1) rfl rfl rfl (by omega) (by omega)) ?_
 refine e rfl ?_
 refine cpy rest.length rfl rfl rfl (by rw [List.length_drop, ints_length]; simp) (Nat.min_eq_left (Nat.sub_le _ _)) (by rw [ints_length]; exact Nat.succ_pos _) (row_one _ _ _) (row_copy t.id rest) ?_
 refine TL.nil (nt ?_)
 refine TC.region ?_
 refine wms rfl rfl ?_
 refine wms rfl rfl ?_
 refine q rfl rfl (len 3 1 rfl rfl) ?_
 refine q rfl rfl (subI rfl rfl (by omega) (by omega)) ?_
 refine wmi rfl rfl ?_
 refine q rfl rfl (ixJ 3 1 rfl rfl rfl (by omega) (by omega) (by assumption)) ?_
 refine e0 ?_
 refine stS (v := .int _ _) (vs := [_]) 1 rfl rfl rfl rfl rfl rfl (by decide) (by rw [ints_length]; simp) ((ints_splice1 (i := rest.length) (by simp) (by omega) _).trans (congrArg ints (row_set t.id rest))) ?_
 refine TL.nil ?_
 exact Ret.n () [] trivial rfl trivial (ent_close ⟨ad, cap, mb, A⟩ (hR.rnd htm) (ent_takeE 2 rfl (congrArg (pts qp 140) (hd_same (rnd_lens hR.nd htm hp hrow))) (ent_closeB 0 2 p rfl rfl (by dsimp only [rowP]; rw [rnd_row hR.nd hp hrow, List.length_append]; rfl) (rows_eq hLn (fun x hx => rnd_row_ne hR.nd htm hp hx)) hL.symm (ent_takeE 1 rfl (by rw [fS_congr (rnd_has htm), rnd_len hR.nd htm]) (ent_closeB 0 0 ⟨t.id, t.prio, t.whole, t.whole⟩ rfl rfl rfl (fun _ _ => rfl) (perm_off hR.nd hM _) (ent_take 0 rfl (ent_nil _)))))))
set_option maxRecDepth 4000 in
theorem round_no (qp : Nat) (S : List Th) (hn : S.length ≤ 1000000) (id : Int) (hx : ¬ hasS S id) : FSpec Tryz.prog 105 [.pointer (some ⟨qp, 0, none⟩), .int .i64 id] noRd [isQ qp S] (fun _ : Unit => .tuple #[]) (fun _ => True) (fun _ => [isQ qp S]) := by
 refine FSpec.intro (rs := []) (by kernel_rfl) Tryz.func105 rfl Tryz.ntmps105 (by rfl) rfl ?_
 intro F _
 change TC _ _ _ _ _ _ _ (sepL [_, _])
 refine TC.open 0 rfl (fun x0 hx0 => ?_)
 obtain ⟨ad, cap, mb, A⟩ := x0
 have hR := hx0
 change TC _ _ _ _ _ _ _ (sepL [_, _, _, _, _])
 dsimp only at hR ⊢
 have hf := fS_no (A := A) hx
 refine TC.seq ?_
 refine TC.region ?_
 refine wmp rfl rfl ?_
 refine wmi rfl rfl ?_
 refine e rfl ?_
 refine cl (qat_ok qp _ mb S.length (fS A S) id) rfl (picked_cons 0 rfl (picked_cons 1 rfl (picked_nil _))) trivial ?_
 intro _ _
 change TL _ _ _ _ _ _ _ _ (sepL [_, _, _, _, _])
 rw [hf]
 refine wap rfl rfl ?_
 refine TL.nil (nt ?_)
 refine TC.seq ?_
 refine TC.seq ?_
 refine TC.region ?_
 refine wmp rfl rfl ?_
 refine q rfl rfl (eqNil rfl rfl rfl) ?_
 refine TL.nil (nt ?_)
 refine TC.condT rfl ?_
 refine TC.ret (rt ?_)
 exact Ret.i () [] trivial rfl trivial (ent_close ⟨ad, cap, mb, A⟩ hR (ent_take 0 rfl (ent_take 1 rfl (ent_take 0 rfl (ent_take 0 rfl (ent_take 0 rfl (ent_nil _)))))))
set_option maxRecDepth 4000 in
theorem qtick_ok (qp : Nat) (S : List Th) (hn : S.length ≤ 1000000) (hl : ∀ t ∈ S, 1 ≤ t.left) : FSpec Tryz.prog 57 [.pointer (some ⟨qp, 0, none⟩)] noRd [isQ qp S] (fun _ : Unit => .int .i64 (runS (tickS S))) (fun _ => True) (fun _ => [isQ qp (tickS S)]) := by
 refine FSpec.intro (rs := [.tmp 2]) (by kernel_rfl) Tryz.func57 rfl Tryz.ntmps57 (by rfl) rfl ?_
 intro F _
 change TC _ _ _ _ _ _ _ (sepL [_, _])
 refine TC.seq ?_
 refine TC.region ?_
 refine wai rfl rfl ?_
 refine TL.nil (nt ?_)
 refine TC.seq ?_
 refine TC.region ?_
 refine wmp rfl rfl ?_
 refine e rfl ?_
 refine cl (run_ok qp S hn) rfl (picked_cons 0 rfl (picked_nil _)) trivial ?_
 intro _ _
 change TL _ _ _ _ _ _ _ _ (sepL [_, _])
 refine wai rfl rfl ?_
 refine TL.nil (nt ?_)
 refine TC.seq ?_
 refine TC.seq ?_
 refine TC.open 0 rfl (fun x0 hx0 => ?_)
 obtain ⟨ad, cap, mb, A⟩ := x0
 have hR := hx0
 change TC _ _ _ _ _ _ _ (sepL [_, _, _, _, _])
 dsimp only at hR ⊢
 have hln := rnd_len2 hR hl
 cases ht : topS S with
 | none => ?_
 | some t => ?_
 ·have hv : tickS S = S := by rw [tickS, ht]
  have hr : runS S = -1 := by rw [runS, ht]
  have hf := fS_no (A := A) (not_neg hR)
  rw [hr, hv]
  refine TC.region ?_
  refine wmp rfl rfl ?_
  refine wmi rfl rfl ?_
  refine e rfl ?_
  refine cl (qat_ok qp _ mb S.length (fS A S) (-1)) rfl (picked_cons 0 rfl (picked_cons 1 rfl (picked_nil _))) trivial ?_
  intro _ _
  change TL _ _ _ _ _ _ _ _ (sepL [_, _, _, _, _])
  rw [hf]
  refine wap rfl rfl ?_
  refine TL.nil (nt ?_)
  refine TC.seq ?_
  refine TC.region ?_
  refine wmp rfl rfl ?_
  refine q rfl rfl (neNil rfl rfl rfl) ?_
  refine wmb rfl rfl ?_
  refine TL.known 12 rfl (c := false) rfl ?_
  refine qs rfl rfl ?_
  refine qs rfl rfl ?_
  refine qs rfl rfl ?_
  refine qs rfl rfl ?_
  refine q rfl rfl (pkF (v := .bool _) rfl rfl) ?_
  refine TL.nil (nt ?_)
  refine TC.condF rfl ?_
  refine TC.skip (nt ?_)
  refine TC.seq ?_
  refine TC.region ?_
  refine wmp rfl rfl ?_
  refine TL.weak (B := sepL [isQ qp S, F]) (ent_close ⟨ad, cap, mb, A⟩ hR (ent_take 0 rfl (ent_take 1 rfl (ent_take 0 rfl (ent_take 0 rfl (ent_take 0 rfl (ent_nil _))))))) ?_
  refine e rfl ?_
  refine cl (run_ok qp S hn) rfl (picked_cons 0 rfl (picked_nil _)) trivial ?_
  intro _ _
  change TL _ _ _ _ _ _ _ _ (sepL [_, _])
  rw [hr]
  refine wai rfl rfl ?_
  refine TL.nil (nt ?_)
  refine TC.ret ?_
  exact Ret.i () [_] ⟨rfl, trivial⟩ rfl trivial (ent_take 0 rfl (ent_take 0 rfl (ent_nil _)))
 ·have htm := (top_mem ht).1
  have htr := hR.rg t htm
  have hl1 := hl t htm
  have hr : runS S = t.id := by rw [runS, ht]
  obtain ⟨M, hM⟩ := perm_mem htm
  have hf := fS_yes (A := A) ⟨t, htm, rfl⟩
  have hRl := hR.setL t.id (v := t.left - 1) (by omega)
  rw [hr]
  refine TC.weak (ent_openB 3 rfl hM) ?_
  refine TC.region ?_
  refine wmp rfl rfl ?_
  refine wmi rfl rfl ?_
  refine e rfl ?_
  refine cl (qat_ok qp _ mb S.length (fS A S) t.id) rfl (picked_cons 2 rfl (picked_cons 3 rfl (picked_nil _))) trivial ?_
  intro _ _
  change TL _ _ _ _ _ _ _ _ (sepL [_, _, _, _, _, _])
  rw [hf]
  refine wap rfl rfl ?_
  refine TL.nil (nt ?_)
  refine TC.seq ?_
  refine TC.region ?_
  refine wmp rfl rfl ?_
  refine q rfl rfl (neNil rfl rfl rfl) ?_
  refine wmb rfl rfl ?_
  refine TL.known 12 rfl (c := true) rfl ?_
  refine qg rfl rfl rfl (mv (v := .pointer _) rfl) ?_
  refine qg rfl rfl rfl (nc rfl) ?_
  refine qg rfl rfl rfl (fa 0 rfl rfl) ?_
  refine eg rfl rfl ?_
  refine cl (spend_ok (A t.id) t.whole t.left t.prio (by omega)) rfl (picked_cons 2 rfl (picked_nil _)) trivial ?_
  intro _ _
  change TL _ _ _ _ _ _ _ _ (sepL [_, _, _, _, _, _])
  refine q rfl rfl (pkT (v := .bool _) rfl rfl) ?_
  refine TL.nil (nt ?_)
  refine TC.condD rfl (fun h1 => ?_) (fun h1 => ?_)
  ·refine TC.weak (B := sepL [isQ qp (setL S t.id (t.left - 1)), F]) (ent_close ⟨ad, cap, mb, A⟩ hRl (ent_takeE 1 rfl (congrArg (pts qp 140) (hd_same (fun x => by rw [setL_row]))) (ent_takeB 3 rfl (fun x _ => by dsimp only [rowP]; rw [setL_row]) (List.Perm.refl _) (ent_takeE 1 rfl (by rw [fS_congr (setL_has S t.id (t.left - 1)), setL_len]) (ent_closeB 0 0 ⟨t.id, t.prio, t.whole, t.left - 1⟩ rfl rfl rfl (fun _ _ => rfl) (setL_perm hR.nd hM _) (ent_take 0 rfl (ent_nil _))))))) ?_
   have hv : tickS S = rndS S t := by rw [tickS, ht]; dsimp only; rw [if_pos (by omega)]
   rw [hv] at hln ⊢
   refine TC.region ?_
   refine wmp rfl rfl ?_
   refine wmi rfl rfl ?_
   refine e rfl ?_
   refine cl (round_ok qp (setL S t.id (t.left - 1)) (by rw [setL_len]; exact hn) ⟨t.id, t.prio, t.whole, t.left - 1⟩ (setL_top ht _)) rfl (picked_cons 0 rfl (picked_nil _)) trivial ?_
   intro _ _
   change TL _ _ _ _ _ _ _ _ (sepL [_, _])
   rw [rnd_setL]
   refine TL.nil (nt ?_)
   refine TC.seq ?_
   refine TC.region ?_
   refine wmp rfl rfl ?_
   refine e rfl ?_
   refine cl (run_ok qp (rndS S t) (by omega)) rfl (picked_cons 0 rfl (picked_nil _)) trivial ?_
   intro _ _
   change TL _ _ _ _ _ _ _ _ (sepL [_, _])
   refine wai rfl rfl ?_
   refine TL.nil (nt ?_)
   refine TC.ret ?_
   exact Ret.i () [_] ⟨rfl, trivial⟩ rfl trivial (ent_take 0 rfl (ent_take 0 rfl (ent_nil _)))
  ·refine TC.weak (B := sepL [isQ qp (setL S t.id (t.left - 1)), F]) (ent_close ⟨ad, cap, mb, A⟩ hRl (ent_takeE 1 rfl (congrArg (pts qp 140) (hd_same (fun x => by rw [setL_row]))) (ent_takeB 3 rfl (fun x _ => by dsimp only [rowP]; rw [setL_row]) (List.Perm.refl _) (ent_takeE 1 rfl (by rw [fS_congr (setL_has S t.id (t.left - 1)), setL_len]) (ent_closeB 0 0 ⟨t.id, t.prio, t.whole, t.left - 1⟩ rfl rfl rfl (fun _ _ => rfl) (setL_perm hR.nd hM _) (ent_take 0 rfl (ent_nil _))))))) ?_
   have hv : tickS S = (setL S t.id (t.left - 1)) := by rw [tickS, ht]; dsimp only; rw [if_neg (by omega)]
   rw [hv] at hln ⊢
   refine TC.skip (nt ?_)
   refine TC.seq ?_
   refine TC.region ?_
   refine wmp rfl rfl ?_
   refine e rfl ?_
   refine cl (run_ok qp (setL S t.id (t.left - 1)) (by omega)) rfl (picked_cons 0 rfl (picked_nil _)) trivial ?_
   intro _ _
   change TL _ _ _ _ _ _ _ _ (sepL [_, _])
   refine wai rfl rfl ?_
   refine TL.nil (nt ?_)
   refine TC.ret ?_
   exact Ret.i () [_] ⟨rfl, trivial⟩ rfl trivial (ent_take 0 rfl (ent_take 0 rfl (ent_nil _)))
set_option maxRecDepth 4000 in
theorem yield_ok (qp : Nat) (S : List Th) (hn : S.length ≤ 1000000) (hR : RInv S) : FSpec Tryz.prog 59 [.pointer (some ⟨qp, 0, none⟩)] noRd [isQ qp S] (fun _ : Unit => .int .i64 (runS (yieldS S))) (fun _ => True) (fun _ => [isQ qp (yieldS S)]) := by
 refine FSpec.intro (rs := [.tmp 2]) (by kernel_rfl) Tryz.func59 rfl Tryz.ntmps59 (by rfl) rfl ?_
 intro F _
 change TC _ _ _ _ _ _ _ (sepL [_, _])
 refine TC.seq ?_
 refine TC.region ?_
 refine wai rfl rfl ?_
 refine TL.nil (nt ?_)
 refine TC.seq ?_
 refine TC.region ?_
 refine wmp rfl rfl ?_
 refine wmp rfl rfl ?_
 refine e rfl ?_
 refine cl (run_ok qp S hn) rfl (picked_cons 0 rfl (picked_nil _)) trivial ?_
 intro _ _
 change TL _ _ _ _ _ _ _ _ (sepL [_, _])
 cases ht : topS S with
 | none => ?_
 | some t => ?_
 ·have hv : yieldS S = S := by rw [yieldS, ht]
  have hr : runS S = -1 := by rw [runS, ht]
  rw [hv, hr]
  refine e rfl ?_
  refine cl (round_no qp S hn (-1) (not_neg hR)) rfl (picked_cons 0 rfl (picked_nil _)) trivial ?_
  intro _ _
  change TL _ _ _ _ _ _ _ _ (sepL [_, _])
  refine TL.nil (nt ?_)
  refine TC.seq ?_
  refine TC.region ?_
  refine wmp rfl rfl ?_
  refine e rfl ?_
  refine cl (run_ok qp S hn) rfl (picked_cons 0 rfl (picked_nil _)) trivial ?_
  intro _ _
  change TL _ _ _ _ _ _ _ _ (sepL [_, _])
  rw [hr]
  refine wai rfl rfl ?_
  refine TL.nil (nt ?_)
  refine TC.ret ?_
  exact Ret.i () [_] ⟨rfl, trivial⟩ rfl trivial (ent_take 0 rfl (ent_take 0 rfl (ent_nil _)))
 ·have hv : yieldS S = rndS S t := by rw [yieldS, ht]
  have hr : runS S = t.id := by rw [runS, ht]
  have hln := rnd_len hR.nd (top_mem ht).1
  rw [hv, hr]
  refine e rfl ?_
  refine cl (round_ok qp S hn t ht) rfl (picked_cons 0 rfl (picked_nil _)) trivial ?_
  intro _ _
  change TL _ _ _ _ _ _ _ _ (sepL [_, _])
  refine TL.nil (nt ?_)
  refine TC.seq ?_
  refine TC.region ?_
  refine wmp rfl rfl ?_
  refine e rfl ?_
  refine cl (run_ok qp (rndS S t) (by omega)) rfl (picked_cons 0 rfl (picked_nil _)) trivial ?_
  intro _ _
  change TL _ _ _ _ _ _ _ _ (sepL [_, _])
  refine wai rfl rfl ?_
  refine TL.nil (nt ?_)
  refine TC.ret ?_
  exact Ret.i () [_] ⟨rfl, trivial⟩ rfl trivial (ent_take 0 rfl (ent_take 0 rfl (ent_nil _)))
set_option maxRecDepth 4000 in
theorem drop_ok (qp : Nat) (S : List Th) (hn : S.length ≤ 1000000) (a2 : Option Addr) (c2 : Nat) (xs : List Int) (hx : xs.length ≤ 1000000) : FSpec Tryz.prog 50 [.pointer (some ⟨qp, 0, none⟩), .slice a2 xs.length c2] (fun F => ∃ E, RdS F E a2 (ints xs)) [isQ qp S] (fun _ : Unit => .int .i64 ((S.length : Int) - (dropS S xs).length)) (fun _ => True) (fun _ => [isQ qp (dropS S xs)]) := by
 refine FSpec.intro (rs := [.tmp 4]) (by kernel_rfl) Tryz.func50 rfl Tryz.ntmps50 (by rfl) rfl ?_
 intro F ⟨E, hF⟩
 change TC _ _ _ _ _ _ _ (sepL [_, _])
 haveI : RdSI F a2 E (ints xs) := ⟨hF⟩
 have hxl := ints_length xs
 refine TC.seq ?_
 refine TC.region ?_
 refine wai rfl rfl ?_
 refine TL.nil (nt ?_)
 refine TC.seq ?_
 refine TC.region ?_
 refine wai rfl rfl ?_
 refine TL.nil (nt ?_)
 refine TC.seq ?_
 refine TC.seq ?_
 refine TC.region ?_
 refine wms rfl rfl ?_
 refine q rfl rfl (len 3 1 rfl rfl) ?_
 refine wmi rfl rfl ?_
 refine TL.nil (nt ?_)
 refine TC.block ?_
 refine TC.loop (ι := Nat × List Th) (fun s => s.1 ≤ xs.length ∧ s.2 = dropS S (xs.take s.1)) (fun s => [(0, .pointer (some ⟨qp, 0, none⟩)), (5, .int .i64 ((S.length : Int) - (s.2.length : Int))), (9, .slice a2 xs.length c2), (10, .int .i64 xs.length), (11, .int .i64 ((s.1 : Nat) : Int))]) (fun s => sepL [isQ qp s.2, F]) (fun s => xs.length - s.1) ⟨0, S⟩ ⟨Nat.zero_le _, rfl⟩ ⟨rfl, congrArg (Value.int .i64) (Int.sub_self _).symm, rfl, rfl, rfl, trivial⟩ (ent_take 0 rfl (ent_take 0 rfl (ent_nil _))) ?_
 rintro ⟨k, Z⟩ ⟨hk, hZ⟩ ρ0
 dsimp only [updL] at hk hZ ⊢
 refine TC.seq ?_
 refine TC.region ?_
 refine q rfl rfl (lss rfl rfl) ?_
 refine TL.nil (nt ?_)
 refine TC.seq ?_
 refine TC.condD rfl (fun hlt => ?_) (fun hlt => ?_)
 ·have hkx : k < xs.length := by omega
  obtain ⟨x, hxk⟩ : ∃ x, xs[k]? = some x := ⟨xs[k], List.getElem?_eq_getElem hkx⟩
  have hpos : 0 < (ints xs).length := by omega
  have htk : dropS S (xs.take (k + 1)) = offS Z x := by rw [List.take_add_one, hxk, Option.toList, dropS_snoc, hZ]
  have hZl : Z.length ≤ S.length := by rw [hZ]; exact (dropS_sub S _).length_le
  refine TC.skip (nt ?_)
  refine TC.seq ?_
  refine TC.block ?_
  refine TC.seq ?_
  refine TC.region ?_
  refine q rfl rfl (ixS 3 1 rfl rfl rfl (by omega) (by assumption)) ?_
  refine q rfl rfl (ldS rfl rfl (ints_get hxk)) ?_
  refine e rfl ?_
  refine al (l := [.int _ _]) rfl rfl ?_
  intro b1
  refine e0 ?_
  refine st (v := .int _ _) (vs := [_]) 1 rfl rfl rfl rfl rfl rfl (Nat.le_of_ble_eq_true rfl) rfl ?_
  refine TL.nil (nt ?_)
  refine TC.seq ?_
  refine TC.weak (sep_swap) ?_
  change TC _ _ _ _ _ _ _ (sepL [_, _, _])
  refine TC.open 0 rfl (fun x0 hx0 => ?_)
  obtain ⟨ad, cap, mb, A⟩ := x0
  have hR := hx0
  change TC _ _ _ _ _ _ _ (sepL [_, _, _, _, _, _])
  dsimp only at hR ⊢
  by_cases hy : hasS Z x
  ·have hf := fS_yes (A := A) hy
   have hol := offS_len hR.nd hy
   obtain ⟨t, htm, rfl⟩ := hy
   have htr := hR.rg t htm
   obtain ⟨p, hp⟩ := Int.eq_ofNat_of_zero_le htr.2.1.1
   have hp8 : p < 8 := by omega
   obtain ⟨L, hL, hLn⟩ := range_perm hp8
   obtain ⟨M, hM⟩ := perm_mem htm
   have hrl := rowA_len Z p
   have hrne : ∀ x, x ≠ p → rowA (offS Z t.id) x = rowA Z x := fun x hx => rowA_off_ne hR.nd htm (by omega)
   refine TC.weak (ent_openB 3 rfl hM) ?_
   refine TC.weak (ent_openB 3 rfl hL) ?_
   refine TC.region ?_
   refine wmp rfl rfl ?_
   refine wld rfl rfl rfl rfl ?_
   refine e rfl ?_
   refine cl (qat_ok qp _ mb Z.length (fS A Z) t.id) rfl (picked_cons 4 rfl (picked_cons 4 rfl (picked_nil _))) trivial ?_
   intro _ _
   change TL _ _ _ _ _ _ _ _ (sepL [_, _, _, _, _, _, _, _])
   rw [hf]
   refine wap rfl rfl ?_
   refine TL.nil (nt ?_)
   refine TC.seq ?_
   refine TC.seq ?_
   refine TC.region ?_
   refine wmp rfl rfl ?_
   refine q rfl rfl (eqNil rfl rfl rfl) ?_
   refine TL.nil (nt ?_)
   refine TC.condF rfl ?_
   refine TC.skip (nt ?_)
   refine TC.seq ?_
   refine TC.draw _ [19] [(0, false), (1, false), (2, false), (3, false), (4, false), (5, false), (6, false), (7, false), (8, false), (9, false), (10, false), (11, false), (12, false), (13, false), (14, false), (16, false), (17, false), (15, true), (18, false), (19, true)] (by kernel_rfl) (by kernel_rfl) (ent_take 0 rfl (ent_take 3 rfl (ent_nil _))) ?_
   refine vmp rfl rfl rfl ?_
   refine vmp rfl rfl rfl ?_
   refine vnc rfl rfl rfl ?_
   refine vfa 2 rfl rfl rfl rfl ?_
   refine vld rfl rfl rfl rfl rfl ?_
   refine vmp rfl rfl rfl ?_
   refine vmp rfl rfl rfl ?_
   refine vnc rfl rfl rfl ?_
   refine vfa 2 rfl rfl rfl rfl ?_
   refine vld rfl rfl rfl rfl rfl ?_
   refine vnc rfl rfl rfl ?_
   refine vfa 0 rfl rfl rfl rfl ?_
   refine dq rfl rfl rfl (ixAl 8 41 1 rfl rfl rfl (by omega) (by omega)) ?_
   refine dq rfl rfl rfl (ld rfl rfl (rows_ld hp8 (by omega))) ?_
   refine dq rfl rfl rfl (mkf (vf := []) (vc := [.pointer _]) rfl rfl) ?_
   refine vnc rfl rfl rfl ?_
   refine vfa 0 rfl rfl rfl rfl ?_
   refine de rfl rfl ?_
   refine cl (deleteI_ok (ad p) (cap p) (rowA Z p) 97 [.pointer (some ⟨b1, 0, none⟩)] (fun y => decide (y = t.id)) (fun F => Rd F b1 (.cells #[Value.int .i64 t.id] 3 (0, 0))) (fun y => drop1_ok b1 t.id y) (by omega) (fun _ h => Rd_here h) (fun _ _ h => Rd_next (Rd_here h))) rfl (picked_cons 2 rfl (picked_nil _)) RdI.rd ?_
   intro _ _
   change ent _ _ ∧ TD _ _ _ _ _ _ _ _ _ _ (sepL [_, _, _, _, _, _, _, _])
   refine ⟨(ent_take 1 rfl (ent_take 3 rfl (ent_nil _))), ?_⟩
   rw [row_del]
   refine dq rfl rfl rfl (ixAl 8 41 1 rfl rfl rfl (by omega) (by omega)) ?_
   refine dl0 rfl rfl rfl ?_
   refine st (v := .slice _ _ _) (vs := [_]) 1 rfl rfl rfl rfl rfl rfl (by rw [rows_length]; simp; omega) (rows_st _ hp8 (by omega)) ?_
   refine TD.nil (nt ?_)
   refine TC.seq ?_
   refine TC.draw _ [] [(0, false), (1, false), (2, false), (3, false), (4, false), (5, true)] (by kernel_rfl) (by kernel_rfl) (ent_take 0 rfl (ent_take 5 rfl (ent_nil _))) ?_
   refine vmp rfl rfl rfl ?_
   refine vnc rfl rfl rfl ?_
   refine vfa 8 rfl rfl rfl rfl ?_
   refine vld rfl rfl rfl rfl rfl ?_
   refine vld rfl rfl rfl rfl rfl ?_
   refine de0 rfl ?_
   refine deF 3 131 rfl (KL.int rfl) rfl rfl rfl ?_
   refine ⟨(ent_take 1 rfl (ent_take 5 rfl (ent_nil _))), ?_⟩
   refine TD.nil (nt ?_)
   refine TC.region ?_
   refine wmi rfl rfl ?_
   refine q rfl rfl (addI rfl rfl (by omega) (by omega)) ?_
   refine wai rfl rfl ?_
   refine TL.nil (nb (nt ?_))
   refine TC.region ?_
   refine q rfl rfl (addI rfl rfl (by omega) (by omega)) ?_
   refine wmi rfl rfl ?_
   refine TL.nil (nt ?_)
   exact ⟨rfl, ⟨k + 1, offS Z t.id⟩, ⟨by dsimp only; omega, htk.symm⟩, (by dsimp only; omega), ⟨rfl, congrArg (Value.int .i64) (by dsimp only; omega), rfl, rfl, rfl, trivial⟩, (ent_close ⟨updN ad p (ad p), updN cap p (cap p), mb, A⟩ (hR.off t.id) (ent_takeE 1 rfl (congrArg (pts qp 140) (hd_upd (n := (rowA (offS Z t.id) p).length) hrne rfl)) (ent_closeB 1 1 p rfl rfl (by dsimp only [rowP]; rw [updN_same, updN_same]) (rows_ne hLn hrne) hL.symm (ent_takeE 0 rfl (by rw [fS_off, hf, show (offS Z t.id).length = Z.length - 1 from by omega]; rfl) (ent_takeB 1 rfl (fun _ _ => rfl) (off_perm hR.nd hM).symm (ent_take 2 rfl (ent_nil _)))))))⟩
  ·have hf := fS_no (A := A) hy
   have hon := offS_none hy
   refine TC.region ?_
   refine wmp rfl rfl ?_
   refine wld rfl rfl rfl rfl ?_
   refine e rfl ?_
   refine cl (qat_ok qp _ mb Z.length (fS A Z) x) rfl (picked_cons 0 rfl (picked_cons 1 rfl (picked_nil _))) trivial ?_
   intro _ _
   change TL _ _ _ _ _ _ _ _ (sepL [_, _, _, _, _, _])
   rw [hf]
   refine wap rfl rfl ?_
   refine TL.nil (nt ?_)
   refine TC.seq ?_
   refine TC.seq ?_
   refine TC.region ?_
   refine wmp rfl rfl ?_
   refine q rfl rfl (eqNil rfl rfl rfl) ?_
   refine TL.nil (nt ?_)
   refine TC.condT rfl ?_
   refine TC.exit (et (eb (nt ?_)))
   refine TC.region ?_
   refine q rfl rfl (addI rfl rfl (by omega) (by omega)) ?_
   refine wmi rfl rfl ?_
   refine TL.nil (nt ?_)
   exact ⟨rfl, ⟨k + 1, Z⟩, ⟨by dsimp only; omega, by dsimp only; rw [htk, hon]⟩, (by dsimp only; omega), ⟨rfl, rfl, rfl, rfl, rfl, trivial⟩, (ent_close ⟨ad, cap, mb, A⟩ hR (ent_take 0 rfl (ent_take 1 rfl (ent_take 0 rfl (ent_take 0 rfl (ent_take 1 rfl (ent_nil _)))))))⟩
 ·obtain rfl : k = xs.length := by omega
  rw [List.take_length] at hZ
  subst hZ
  refine TC.exit (et (et (eb (nt ?_))))
  refine TC.seq ?_
  refine TC.region ?_
  refine wmi rfl rfl ?_
  refine wai rfl rfl ?_
  refine TL.nil (nt ?_)
  refine TC.ret ?_
  exact Ret.i () [_] ⟨rfl, trivial⟩ rfl trivial (ent_take 0 rfl (ent_take 0 rfl (ent_nil _)))
end Go.Proofs.YtdfmfhcjnjfjbaaGreat.Rd
namespace Go.Proofs.YtdfmfhcjnjfjbaaGreat.Al
open Go Go.QM
structure En where
  at_ : Int
  tn : Int
  id : Int
def enC (e : En) : List Value := ints [e.at_, e.tn, e.id]
theorem enC_sz (e : En) : (enC e).length = 3 := rfl
def ents (H : List En) : List Value := H.flatMap enC
theorem ents_length (H : List En) : (ents H).length = H.length * 3 := flat_length enC_sz H
def Lt (a b : En) : Prop := a.at_ < b.at_ ∨ a.at_ = b.at_ ∧ a.tn < b.tn
instance (a b : En) : Decidable (Lt a b) := inferInstanceAs (Decidable (a.at_ < b.at_ ∨ a.at_ = b.at_ ∧ a.tn < b.tn))
def gE (L : List En) (k : Nat) : En := L.getD k ⟨0, 0, 0⟩
theorem gE_get {L : List En} {k : Nat} (h : k < L.length) : L[k]? = some (gE L k) := by simp [gE, h]
theorem gE_of {L : List En} {k : Nat} {e : En} (h : L[k]? = some e) : gE L k = e := by simp [gE, List.getD_eq_getElem?_getD, h]
theorem gE_mem {L : List En} {k : Nat} (h : k < L.length) : gE L k ∈ L := List.mem_of_getElem? (gE_get h)
theorem gE_set {L : List En} {i : Nat} (h : i < L.length) (e : En) (k : Nat) : gE (L.set i e) k = if k = i then e else gE L k := by
  simp only [gE, List.getD_eq_getElem?_getD, List.getElem?_set]
  by_cases hk : k = i
  · subst hk; simp [h]
  · rw [if_neg (fun e => hk e.symm), if_neg hk]
theorem set_self {L : List En} {i : Nat} (h : i < L.length) : L.set i (gE L i) = L := by
  have : gE L i = L[i] := by simp [gE, h]
  rw [this]; exact List.set_getElem_self h
def OkAt (L : List En) (k : Nat) : Prop := ¬ Lt (gE L k) (gE L ((k - 1) / 2))
def Heap (L : List En) : Prop := ∀ k, 0 < k → k < L.length → OkAt L k
structure HoleD (L : List En) (i : Nat) : Prop where
  a : ∀ k, 0 < k → k < L.length → k ≠ i → (k - 1) / 2 ≠ i → OkAt L k
  b : ∀ k, 0 < k → k < L.length → (k - 1) / 2 = i → 0 < i → ¬ Lt (gE L k) (gE L ((i - 1) / 2))
structure HoleU (L : List En) (i : Nat) : Prop where
  a : ∀ k, 0 < k → k < L.length → k ≠ i → OkAt L k
  b : ∀ k, 0 < k → k < L.length → (k - 1) / 2 = i → 0 < i → ¬ Lt (gE L k) (gE L ((i - 1) / 2))
def swp (L : List En) (i k : Nat) : List En := (L.set i (gE L k)).set k (gE L i)
theorem swp_length (L : List En) (i k : Nat) : (swp L i k).length = L.length := by simp [swp]
theorem swp_perm {L : List En} {i k : Nat} (hi : i < L.length) (hk : k < L.length) : (swp L i k).Perm L := by
  have h1 : gE L i = L[i] := by simp [gE, hi]
  have h2 : gE L k = L[k] := by simp [gE, hk]
  rw [swp, h1, h2]; exact List.set_set_perm hi hk
theorem gE_swp {L : List En} {i k : Nat} (hi : i < L.length) (hk : k < L.length) (j : Nat) : gE (swp L i k) j = if j = k then gE L i else if j = i then gE L k else gE L j := by
  rw [swp, gE_set (by simpa using hk), gE_set hi]
theorem HoleD.step {L : List En} {i k : Nat} (h : HoleD L i) (hi : i < L.length) (hk0 : 0 < k) (hk : k < L.length) (hp : (k - 1) / 2 = i) (hlt : Lt (gE L k) (gE L i))
    (hmin : ∀ s, 0 < s → s < L.length → (s - 1) / 2 = i → ¬ Lt (gE L s) (gE L k)) : HoleD (swp L i k) k where
  a := fun j h0 hj hne hpk => by
    rw [swp_length] at hj
    have hg := gE_swp hi hk
    simp only [OkAt, hg]
    rw [if_neg hne, if_neg hpk]
    by_cases e : j = i
    · rw [if_pos e, if_neg (by omega)]
      have := h.b k hk0 hk hp (by omega)
      rw [e]; exact this
    · rw [if_neg e]
      by_cases e2 : (j - 1) / 2 = i
      · rw [if_pos e2]; exact hmin j h0 hj e2
      · rw [if_neg e2]; exact h.a j h0 hj e e2
  b := fun j h0 hj hpj _ => by
    rw [swp_length] at hj
    have hg := gE_swp hi hk
    simp only [hg]
    rw [if_neg (by omega), if_neg (by omega), if_neg (by omega), if_pos hp]
    have := h.a j h0 hj (by omega) (by omega)
    rw [OkAt, hpj] at this; exact this
theorem HoleD.exit {L : List En} {i : Nat} (h : HoleD L i) (hmin : ∀ s, 0 < s → s < L.length → (s - 1) / 2 = i → ¬ Lt (gE L s) (gE L i)) : HoleU L i where
  a := fun k h0 hk hne => by
    by_cases e : (k - 1) / 2 = i
    · rw [OkAt, e]; exact hmin k h0 hk e
    · exact h.a k h0 hk hne e
  b := h.b
theorem HoleU.step {L : List En} {i : Nat} (h : HoleU L i) (hi : i < L.length) (h0 : 0 < i) (hlt : Lt (gE L i) (gE L ((i - 1) / 2))) : HoleU (swp L i ((i - 1) / 2)) ((i - 1) / 2) where
  a := fun j hj0 hj hne => by
    rw [swp_length] at hj
    have hp : (i - 1) / 2 < L.length := by omega
    have hg := gE_swp hi hp
    simp only [OkAt, hg]
    rw [if_neg hne]
    by_cases e : j = i
    · subst e
      rw [if_pos rfl, if_pos rfl]
      simp only [Lt] at hlt ⊢; omega
    · rw [if_neg e]
      by_cases e2 : (j - 1) / 2 = (i - 1) / 2
      · rw [if_pos e2]
        have := h.a j hj0 hj e
        rw [OkAt, e2] at this
        simp only [Lt] at this hlt ⊢; omega
      · rw [if_neg e2]
        by_cases e3 : (j - 1) / 2 = i
        · rw [if_pos e3]; exact h.b j hj0 hj e3 h0
        · rw [if_neg e3]; exact h.a j hj0 hj e
  b := fun j hj0 hj hpj hp0 => by
    rw [swp_length] at hj
    have hp : (i - 1) / 2 < L.length := by omega
    have hg := gE_swp hi hp
    simp only [hg]
    have hpp := h.a ((i - 1) / 2) hp0 hp (by omega)
    rw [OkAt] at hpp
    rw [if_neg (by omega), if_neg (by omega : ((i - 1) / 2 - 1) / 2 ≠ (i - 1) / 2), if_neg (by omega : ((i - 1) / 2 - 1) / 2 ≠ i)]
    by_cases e : j = i
    · rw [if_pos e]; exact hpp
    · rw [if_neg e]
      have := h.a j hj0 hj e
      rw [OkAt, hpj] at this
      simp only [Lt] at this hpp ⊢; omega
theorem HoleU.exit {L : List En} {i : Nat} (h : HoleU L i) (he : i = 0 ∨ ¬ Lt (gE L i) (gE L ((i - 1) / 2))) : Heap L := fun k h0 hk => by
  by_cases e : k = i
  · subst e
    rcases he with he | he
    · omega
    · exact he
  · exact h.a k h0 hk e
theorem Heap.hole {L : List En} (h : Heap L) (i : Nat) : HoleU L i where
  a := fun k h0 hk _ => h k h0 hk
  b := fun k h0 hk hp hi => by
    have h1 := h k h0 hk
    have h2 := h i hi (by omega)
    rw [OkAt, hp] at h1
    rw [OkAt] at h2
    simp only [Lt] at h1 h2 ⊢; omega
theorem Heap.min {L : List En} (h : Heap L) : ∀ k, k < L.length → ¬ Lt (gE L k) (gE L 0) := by
  intro k
  induction k using Nat.strongRecOn with
  | _ k ih =>
    intro hk
    by_cases h0 : k = 0
    · subst h0; simp only [Lt]; omega
    · have h1 := h k (by omega) hk
      have h2 := ih ((k - 1) / 2) (by omega) (by omega)
      rw [OkAt] at h1
      simp only [Lt] at h1 h2 ⊢; omega
structure Wh (f : Int → Option Value) (L : List En) (i : Nat) : Prop where
  a : ∀ j, j < L.length → j ≠ i → f (gE L j).id = some (.int .i64 (j : Int))
  b : ∀ x, (∀ j, j < L.length → (gE L j).id ≠ x) → f x = none
structure WhA (f : Int → Option Value) (L : List En) : Prop where
  a : ∀ j, j < L.length → f (gE L j).id = some (.int .i64 (j : Int))
  b : ∀ x, (∀ j, j < L.length → (gE L j).id ≠ x) → f x = none
def Nd (L : List En) : Prop := (L.map (·.id)).Nodup
theorem Nd.perm {L M : List En} (h : Nd L) (p : M.Perm L) : Nd M := (p.map _).nodup_iff.2 h
theorem Nd.inj {L : List En} (h : Nd L) {j k : Nat} (hj : j < L.length) (hk : k < L.length) (e : (gE L j).id = (gE L k).id) : j = k := by
  have h1 : (L.map (·.id))[j]? = some (gE L j).id := by rw [List.getElem?_map, gE_get hj]; rfl
  have h2 : (L.map (·.id))[k]? = some (gE L k).id := by rw [List.getElem?_map, gE_get hk]; rfl
  rw [e] at h1
  obtain ⟨a1, b1⟩ := List.getElem?_eq_some_iff.1 h1
  obtain ⟨a2, b2⟩ := List.getElem?_eq_some_iff.1 h2
  have hp := List.pairwise_iff_getElem.1 h
  rcases Nat.lt_trichotomy j k with h3 | h3 | h3
  · exact absurd (b1.trans b2.symm) (hp j k a1 a2 h3)
  · exact h3
  · exact absurd (b2.trans b1.symm) (hp k j a2 a1 h3)
theorem Wh.step {f : Int → Option Value} {L : List En} {i k : Nat} (h : Wh f L i) (hn : Nd L) (hi : i < L.length) (hk : k < L.length) (hne : k ≠ i) : Wh (updF f (gE L k).id (.int .i64 (i : Int))) (swp L i k) k where
  a := fun j hj hjk => by
    rw [swp_length] at hj
    rw [gE_swp hi hk, if_neg hjk]
    by_cases e : j = i
    · subst e; rw [if_pos rfl, updF, if_pos rfl]
    · rw [if_neg e, updF, if_neg (fun e2 => hjk (hn.inj hj hk e2))]; exact h.a j hj e
  b := fun x hx => by
    have h1 : (gE L k).id ≠ x := by
      have := hx i (by rw [swp_length]; exact hi)
      rwa [gE_swp hi hk, if_neg (Ne.symm hne), if_pos rfl] at this
    rw [updF, if_neg (Ne.symm h1)]
    refine h.b x fun j hj => ?_
    by_cases e : j = k
    · rw [e]; exact h1
    · by_cases e2 : j = i
      · have := hx k (by rw [swp_length]; exact hk)
        rw [gE_swp hi hk, if_pos rfl] at this
        rw [e2]; exact this
      · have := hx j (by rw [swp_length]; exact hj)
        rwa [gE_swp hi hk, if_neg e, if_neg e2] at this
theorem Wh.done {f : Int → Option Value} {L : List En} {i : Nat} (h : Wh f L i) (hn : Nd L) (hi : i < L.length) : WhA (updF f (gE L i).id (.int .i64 (i : Int))) L where
  a := fun j hj => by
    by_cases e : j = i
    · subst e; rw [updF, if_pos rfl]
    · rw [updF, if_neg (fun e2 => e (hn.inj hj hi e2))]; exact h.a j hj e
  b := fun x hx => by rw [updF, if_neg (Ne.symm (hx i hi))]; exact h.b x hx
theorem WhA.but {f : Int → Option Value} {L : List En} (h : WhA f L) (i : Nat) : Wh f L i := ⟨fun j hj _ => h.a j hj, h.b⟩
theorem WhA.none {f : Int → Option Value} {L : List En} (h : WhA f L) {x : Int} (hx : ∀ e ∈ L, e.id ≠ x) : f x = none := h.b x fun _ hj => hx _ (gE_mem hj)
theorem WhA.some {f : Int → Option Value} {L : List En} (h : WhA f L) {e : En} (he : e ∈ L) : ∃ j, j < L.length ∧ gE L j = e ∧ f e.id = some (.int .i64 (j : Int)) := by
  obtain ⟨j, hj⟩ := List.getElem?_of_mem he
  have hl := (List.getElem?_eq_some_iff.1 hj).1
  have hg := gE_of hj
  exact ⟨j, hl, hg, by rw [← hg]; exact h.a j hl⟩
theorem hole_set {A : List En} {i k : Nat} (e : En) (hi : i < A.length) (hk : k < A.length) (hne : k ≠ i) : (A.set i (gE A k)).set k e = swp (A.set i e) i k := by
  rw [swp, gE_set hi, if_neg hne, gE_set hi, if_pos rfl, List.set_set]
set_option maxRecDepth 4000 in
theorem ahead_ok (a b : En) : FSpec Tryz.prog 139 [.agg (ints [a.at_, a.tn]).toArray, .agg (ints [b.at_, b.tn]).toArray] noRd [] (fun _ : Unit => .bool (decide (Lt a b))) (fun _ => True) (fun _ => []) := by
 refine FSpec.intro (rs := [.tmp 4]) (by kernel_rfl) Tryz.func139 rfl Tryz.ntmps139 (by rfl) rfl ?_
 intro F _
 change TC _ _ _ _ _ _ _ (sepL [_])
 refine TC.seq ?_
 refine TC.region ?_
 refine e rfl ?_
 refine bx (v := .agg (List.toArray (ints [_, _]))) (l := ints [_, _]) rfl rfl ?_
 intro b1
 refine e rfl ?_
 refine bx (v := .agg (List.toArray (ints [_, _]))) (l := ints [_, _]) rfl rfl ?_
 intro b2
 refine wab rfl rfl ?_
 refine TL.nil (nt ?_)
 refine TC.seq ?_
 refine TC.region ?_
 refine wfa 0 rfl rfl rfl ?_
 refine wld rfl rfl rfl rfl ?_
 refine wfa 0 rfl rfl rfl ?_
 refine wld rfl rfl rfl rfl ?_
 refine q rfl rfl (lss rfl rfl) ?_
 refine wmb rfl rfl ?_
 refine TL.split 10 rfl (fun h1 => ?_) (fun h1 => ?_)
 ·have h1 := of_decide_eq_true h1
  refine qs rfl rfl ?_
  refine qs rfl rfl ?_
  refine qs rfl rfl ?_
  refine qs rfl rfl ?_
  refine qs rfl rfl ?_
  refine qs rfl rfl ?_
  refine qsu rfl rfl ?_
  refine qsu rfl rfl ?_
  refine qsu rfl rfl ?_
  refine qsu rfl rfl ?_
  refine qsu rfl rfl ?_
  refine qs rfl rfl ?_
  refine q rfl rfl (pkT (v := .bool _) rfl rfl) ?_
  refine wab rfl rfl ?_
  refine TL.nil (nt ?_)
  refine TC.ret ?_
  exact Ret.i () [_] ⟨rfl, trivial⟩ (congrArg Value.bool (decide_eq_true (.inl h1)).symm) trivial (ent_take 2 rfl (ent_nil _))
 ·have h1 := of_decide_eq_false h1
  refine qg rfl rfl rfl (fa 0 rfl rfl) ?_
  refine qg rfl rfl rfl (ld rfl rfl rfl) ?_
  refine qg rfl rfl rfl (fa 0 rfl rfl) ?_
  refine qg rfl rfl rfl (ld rfl rfl rfl) ?_
  refine qg rfl rfl rfl (eqI rfl rfl) ?_
  refine qg rfl rfl rfl (mv (v := .bool _) rfl) ?_
  refine TL.split 16 rfl (fun h2 => ?_) (fun h2 => ?_)
  ·have h2 := of_decide_eq_true h2
   refine qg rfl rfl rfl (fa 1 rfl rfl) ?_
   refine qg rfl rfl rfl (ld rfl rfl rfl) ?_
   refine qg rfl rfl rfl (fa 1 rfl rfl) ?_
   refine qg rfl rfl rfl (ld rfl rfl rfl) ?_
   refine qg rfl rfl rfl (lss rfl rfl) ?_
   refine qg rfl rfl rfl (pkT (v := .bool _) rfl rfl) ?_
   refine q rfl rfl (pkF (v := .bool _) rfl rfl) ?_
   refine wab rfl rfl ?_
   refine TL.nil (nt ?_)
   refine TC.ret ?_
   exact Ret.i () [_] ⟨rfl, trivial⟩ (congrArg Value.bool (by rw [decide_eq_decide]; simp only [Lt]; omega)) trivial (ent_take 2 rfl (ent_nil _))
  ·have h2 := of_decide_eq_false h2
   refine qs rfl rfl ?_
   refine qs rfl rfl ?_
   refine qs rfl rfl ?_
   refine qs rfl rfl ?_
   refine qs rfl rfl ?_
   refine qg rfl rfl rfl (pkF (v := .bool _) rfl rfl) ?_
   refine q rfl rfl (pkF (v := .bool _) rfl rfl) ?_
   refine wab rfl rfl ?_
   refine TL.nil (nt ?_)
   refine TC.ret ?_
   exact Ret.i () [_] ⟨rfl, trivial⟩ (congrArg Value.bool (decide_eq_false (by simp only [Lt]; omega)).symm) trivial (ent_take 2 rfl (ent_nil _))
set_option maxRecDepth 4000 in
theorem put_ok (b : Nat) (now tn : Int) (H : List En) (ad : Option Addr) (n cap wb m : Nat) (f : Int → Option Value) (i : Nat) (hn : H.length = n) (hi : i < n) (hc : n ≤ 1000000) (ee : En) : FSpec Tryz.prog 125 [.pointer (some ⟨b, 0, none⟩), .int .i64 (i : Int), .agg (enC ee).toArray] noRd [pts b 145 [.int .i64 now, .int .i64 tn, .slice ad n cap, .map (some wb)], slc 149 3 ad n cap (ents H), mapF encI wb f m] (fun _ : Unit => .tuple #[]) (fun _ => True) (fun _ => [pts b 145 [.int .i64 now, .int .i64 tn, .slice ad n cap, .map (some wb)], slc 149 3 ad n cap (ents (H.set i ee)), mapF encI wb (updF f ee.id (.int .i64 (i : Int))) (if (f ee.id).isSome then m else m + 1)]) := by
 refine FSpec.intro (rs := []) (by kernel_rfl) Tryz.func125 rfl Tryz.ntmps125 (by rfl) rfl ?_
 intro F _
 change TC _ _ _ _ _ _ _ (sepL [_, _, _, _])
 have hg := gE_get (show i < H.length by omega)
 have hpl : 0 < (ents H).length := by rw [ents_length]; omega
 refine TC.seq ?_
 refine TC.region ?_
 refine e rfl ?_
 refine bx (v := .agg (List.toArray (ints [_, _, _]))) (l := ints [_, _, _]) rfl rfl ?_
 intro b3
 refine TL.nil (nt ?_)
 refine TC.seq ?_
 refine TC.draw _ [7] [(0, false), (1, false), (2, false), (3, false), (4, false), (5, false), (6, false), (7, true)] (by kernel_rfl) (by kernel_rfl) (ent.refl _) ?_
 refine vmp rfl rfl rfl ?_
 refine vnc rfl rfl rfl ?_
 refine vfa 2 rfl rfl rfl rfl ?_
 refine vld rfl rfl rfl rfl rfl ?_
 refine vmi rfl rfl rfl ?_
 refine dq rfl rfl rfl (ldN (vs := ints [_, _, _]) 3 rfl rfl rfl rfl) ?_
 refine dq rfl rfl rfl (ixS 149 3 rfl rfl rfl (by omega) (by assumption)) ?_
 refine dl0 rfl rfl rfl ?_
 refine stS (v := .agg (List.toArray (ints [_, _, _]))) (vs := ints [_, _, _]) 3 rfl rfl rfl rfl rfl rfl (by decide) (by rw [flat_length enC_sz]; omega) (flat_set (a' := ee) enC_sz hg 0 (by omega) (Nat.le_of_ble_eq_true rfl) rfl) ?_
 refine TD.nil (nt ?_)
 refine TC.draw _ [] [(0, false), (1, false), (2, false), (3, false), (4, false), (5, false), (6, false), (7, true)] (by kernel_rfl) (by kernel_rfl) (ent_take 0 rfl (ent_take 0 rfl (ent_take 0 rfl (ent_nil _)))) ?_
 refine vmp rfl rfl rfl ?_
 refine vnc rfl rfl rfl ?_
 refine vfa 3 rfl rfl rfl rfl ?_
 refine vld rfl rfl rfl rfl rfl ?_
 refine vfa 2 rfl rfl rfl rfl ?_
 refine vld rfl rfl rfl rfl rfl ?_
 refine vmi rfl rfl rfl ?_
 refine de0 rfl ?_
 refine muF 3 3 rfl (KL.int rfl) rfl rfl rfl ?_
 refine ⟨(ent_take 1 rfl (ent_take 1 rfl (ent_take 1 rfl (ent_nil _)))), ?_⟩
 refine TD.nil ?_
 exact Ret.n () [] trivial rfl trivial (ent_take 3 rfl (ent_take 1 rfl (ent_take 0 rfl (ent_take 1 rfl (ent_nil _)))))
set_option maxRecDepth 4000 in
theorem up_ok (b : Nat) (now tn : Int) (H : List En) (ad : Option Addr) (n cap wb m : Nat) (f : Int → Option Value) (i : Nat) (hn : H.length = n) (hi : i < n) (hc : n ≤ 1000000) (hU : HoleU H i) (hW : Wh f H i) (hN : Nd H) : FSpec Tryz.prog 127 [.pointer (some ⟨b, 0, none⟩), .int .i64 (i : Int)] noRd [pts b 145 [.int .i64 now, .int .i64 tn, .slice ad n cap, .map (some wb)], slc 149 3 ad n cap (ents H), mapF encI wb f m] (fun _ : List En × (Int → Option Value) × Nat => .tuple #[]) (fun y => Heap y.1 ∧ WhA y.2.1 y.1 ∧ y.1.Perm H) (fun y => [pts b 145 [.int .i64 now, .int .i64 tn, .slice ad n cap, .map (some wb)], slc 149 3 ad n cap (ents y.1), mapF encI wb y.2.1 y.2.2]) := by
 refine FSpec.intro (rs := []) (by kernel_rfl) Tryz.func127 rfl Tryz.ntmps127 (by rfl) rfl ?_
 intro F _
 change TC _ _ _ _ _ _ _ (sepL [_, _, _, _])
 have hg := gE_get (show i < H.length by omega)
 have hpl : 0 < (ents H).length := by rw [ents_length]; omega
 refine TC.seq ?_
 refine TC.region ?_
 refine wmp rfl rfl ?_
 refine wnc rfl rfl ?_
 refine wfa 2 rfl rfl rfl ?_
 refine wld rfl rfl rfl rfl ?_
 refine wmi rfl rfl ?_
 refine q rfl rfl (ixS 149 3 rfl rfl rfl (by omega) (by assumption)) ?_
 refine q rfl rfl (ldSN (vs := ints [_, _, _]) 3 rfl rfl (flat_get_rec enC_sz hg) rfl (by decide)) ?_
 refine e rfl ?_
 refine al (l := ints [_, _, _]) rfl rfl ?_
 intro b4
 refine e0 ?_
 refine st (v := .agg (List.toArray (ints [_, _, _]))) (vs := ints [_, _, _]) 3 rfl rfl rfl rfl rfl rfl (Nat.le_of_ble_eq_true rfl) rfl ?_
 refine TL.nil (nt ?_)
 refine TC.seq ?_
 refine TC.block ?_
 obtain ⟨ee, he⟩ : ∃ ee, gE H i = ee := ⟨_, rfl⟩
 rw [he]
 refine TC.loop (ι := Nat × List En × (Int → Option Value) × Nat) (fun s => s.1 < n ∧ s.2.1.length = n ∧ HoleU (s.2.1.set s.1 ee) s.1 ∧ Wh s.2.2.1 (s.2.1.set s.1 ee) s.1 ∧ (s.2.1.set s.1 ee).Perm H) (fun s => [(0, .pointer (some ⟨b, 0, none⟩)), (1, .int .i64 ((s.1 : Nat) : Int)), (4, .pointer (some ⟨b4, 0, none⟩))]) (fun s => sepL [pts b4 149 (enC ee), pts b 145 [.int .i64 now, .int .i64 tn, .slice ad n cap, .map (some wb)], slc 149 3 ad n cap (ents s.2.1), mapF encI wb s.2.2.1 s.2.2.2, F]) (fun s => s.1) ⟨i, H, f, m⟩ (by dsimp only; rw [← he, set_self (by omega)]; exact ⟨hi, hn, hU, hW, List.Perm.refl _⟩) ⟨rfl, rfl, rfl, trivial⟩ (ent_take 0 rfl (ent_take 0 rfl (ent_take 0 rfl (ent_take 0 rfl (ent_take 0 rfl (ent_nil _)))))) ?_
 rintro ⟨k, A, g, q0⟩ ⟨hk, hA, hU1, hW1, hP1⟩ ρ0
 dsimp only [updL] at hk hA hU1 hW1 hP1 ⊢
 have hkA : k < A.length := by omega
 have hpA : 0 < (ents A).length := by rw [ents_length]; omega
 have hsl : (A.set k ee).length = n := by rw [List.length_set]; exact hA
 refine TC.seq ?_
 refine TC.seq ?_
 refine TC.draw _ [] [(0, false), (1, false), (2, false), (3, false), (4, false), (5, false), (6, false), (7, false), (8, false), (9, false), (10, false), (11, false), (12, false), (13, false), (14, false), (15, true), (16, false)] (by kernel_rfl) (by kernel_rfl) (ent_take 0 rfl (ent_take 0 rfl (ent_take 0 rfl (ent_take 0 rfl (ent_nil _))))) ?_
 refine vmi rfl rfl rfl ?_
 refine dq rfl rfl rfl (gtr rfl rfl) ?_
 refine vmb rfl rfl rfl ?_
 refine TD.split 14 rfl (fun hk0 => ?_) (fun hk0 => ?_)
 ·have hk0 := of_decide_eq_true hk0
  have hk0' : 0 < k := by omega
  obtain ⟨pp, hp⟩ : ∃ pp : Nat, ((k : Int) - 1) / 2 = pp := ⟨(k - 1) / 2, by omega⟩
  have hpe : pp = (k - 1) / 2 := by omega
  have hgp := gE_get (show pp < A.length by omega)
  have hgs : gE (A.set k ee) pp = gE A pp := by rw [gE_set hkA, if_neg (by omega)]
  have hge : gE (A.set k ee) k = ee := by rw [gE_set hkA, if_pos rfl]
  refine dg rfl rfl rfl rfl (fa 0 rfl rfl) ?_
  refine dg rfl rfl rfl rfl (ldN (vs := ints [_, _]) 2 rfl rfl rfl rfl) ?_
  refine dg rfl rfl rfl rfl (mv (v := .pointer _) rfl) ?_
  refine dg rfl rfl rfl rfl (nc rfl) ?_
  refine dg rfl rfl rfl rfl (fa 2 rfl rfl) ?_
  refine dg rfl rfl rfl rfl (ld rfl rfl rfl) ?_
  refine dg rfl rfl rfl rfl (mv (v := .int _ _) rfl) ?_
  refine dg rfl rfl rfl rfl (subI rfl rfl (by omega) (by omega)) ?_
  refine dg rfl rfl rfl rfl (quoI rfl rfl (by omega) (by omega) (by omega)) ?_
  rw [hp]
  refine dg rfl rfl rfl rfl (ixS 149 3 rfl rfl rfl (by omega) (by assumption)) ?_
  refine dg rfl rfl rfl rfl (faS 0 rfl rfl (by assumption)) ?_
  refine dg rfl rfl rfl rfl (ldSN (vs := ints [_, _]) 2 rfl rfl (flat_ldN enC_sz hgp 0 2 (by omega) (by omega) rfl) rfl (by decide)) ?_
  refine deg rfl rfl rfl ?_
  refine cl (ahead_ok ee (gE A pp)) rfl (picked_nil _) trivial ?_
  intro _ _
  change ent _ _ ∧ TD _ _ _ _ _ _ _ _ _ _ (sepL [_, _, _, _, _])
  refine ⟨(ent_take 0 rfl (ent_take 0 rfl (ent_take 0 rfl (ent_take 0 rfl (ent_nil _))))), ?_⟩
  refine dq rfl rfl rfl (pkT (v := .bool _) rfl rfl) ?_
  refine TD.nil (nt ?_)
  refine TC.condD rfl (fun hlt => ?_) (fun hlt => ?_)
  ·refine TC.skip (nt ?_)
   refine TC.block ?_
   refine TC.seq ?_
   refine TC.region ?_
   refine wmp rfl rfl ?_
   refine wmi rfl rfl ?_
   refine wmp rfl rfl ?_
   refine wnc rfl rfl ?_
   refine wfa 2 rfl rfl rfl ?_
   refine wld rfl rfl rfl rfl ?_
   refine wmi rfl rfl ?_
   refine q rfl rfl (subI rfl rfl (by omega) (by omega)) ?_
   refine q rfl rfl (quoI rfl rfl (by omega) (by omega) (by omega)) ?_
   rw [hp]
   refine q rfl rfl (ixS 149 3 rfl rfl rfl (by omega) (by assumption)) ?_
   refine q rfl rfl (ldSN (vs := ints [_, _, _]) 3 rfl rfl (flat_get_rec enC_sz hgp) rfl (by decide)) ?_
   refine e rfl ?_
   refine cl (put_ok b now tn A ad n cap wb q0 g k hA (by omega) hc (gE A pp)) rfl (picked_cons 1 rfl (picked_cons 1 rfl (picked_cons 1 rfl (picked_nil _)))) trivial ?_
   intro _ _
   change TL _ _ _ _ _ _ _ _ (sepL [_, _, _, _, _])
   refine TL.nil (nt ?_)
   refine TC.region ?_
   refine wmi rfl rfl ?_
   refine q rfl rfl (subI rfl rfl (by omega) (by omega)) ?_
   refine q rfl rfl (quoI rfl rfl (by omega) (by omega) (by omega)) ?_
   rw [hp]
   refine wai rfl rfl ?_
   refine TL.nil (nb (nt ?_))
   have hsw := hole_set ee hkA (show pp < A.length by omega) (by omega)
   have hU2 := hU1.step (by omega) hk0' (by rw [← hpe, hgs, hge]; exact hlt)
   have hW2 := hW1.step (hN.perm hP1) (by omega) (show pp < (A.set k ee).length by omega) (by omega)
   rw [← hpe, ← hsw] at hU2
   rw [hgs, ← hsw] at hW2
   have hP2 := (swp_perm (L := A.set k ee) (i := k) (k := pp) (by omega) (by omega)).trans hP1
   rw [← hsw] at hP2
   exact ⟨rfl, ⟨pp, A.set k (gE A pp), _, _⟩, ⟨by dsimp only; omega, by dsimp only; rw [List.length_set]; exact hA, hU2, hW2, hP2⟩, (by dsimp only; omega), ⟨rfl, rfl, rfl, trivial⟩, (ent_take 3 rfl (ent_take 0 rfl (ent_take 0 rfl (ent_take 0 rfl (ent_take 0 rfl (ent_nil _))))))⟩
  ·have hHp := hU1.exit (.inr (by rw [hge, ← hpe, hgs]; exact hlt))
   refine TC.exit (et (et (eb (nt ?_))))
   refine TC.region ?_
   refine wmp rfl rfl ?_
   refine wmi rfl rfl ?_
   refine q rfl rfl (ldN (vs := ints [_, _, _]) 3 rfl rfl rfl rfl) ?_
   refine e rfl ?_
   refine cl (put_ok b now tn A ad n cap wb q0 g k hA (by omega) hc ee) rfl (picked_cons 1 rfl (picked_cons 1 rfl (picked_cons 1 rfl (picked_nil _)))) trivial ?_
   intro _ _
   change TL _ _ _ _ _ _ _ _ (sepL [_, _, _, _, _])
   refine TL.nil ?_
   have hWd := hW1.done (hN.perm hP1) (by omega)
   have hge : gE (A.set k ee) k = ee := by rw [gE_set hkA, if_pos rfl]
   rw [hge] at hWd
   exact Ret.n ⟨A.set k ee, _, _⟩ [] trivial rfl ⟨hHp, hWd, hP1⟩ (ent_take 0 rfl (ent_take 0 rfl (ent_take 0 rfl (ent_take 1 rfl (ent_nil _)))))
 ·have hk0 := of_decide_eq_false hk0
  have hHp := hU1.exit (.inl (by omega))
  refine dk rfl rfl rfl rfl ?_
  refine dk rfl rfl rfl rfl ?_
  refine dk rfl rfl rfl rfl ?_
  refine dk rfl rfl rfl rfl ?_
  refine dk rfl rfl rfl rfl ?_
  refine dk rfl rfl rfl rfl ?_
  refine dk rfl rfl rfl rfl ?_
  refine dk rfl rfl rfl rfl ?_
  refine dk rfl rfl rfl rfl ?_
  refine dk rfl rfl rfl rfl ?_
  refine dk rfl rfl rfl rfl ?_
  refine dk rfl rfl rfl rfl ?_
  refine dke rfl rfl rfl (ent_take 0 rfl (ent_take 0 rfl (ent_take 0 rfl (ent_take 0 rfl (ent_nil _))))) ?_
  refine dq rfl rfl rfl (pkF (v := .bool _) rfl rfl) ?_
  refine TD.nil (nt ?_)
  refine TC.condF rfl ?_
  refine TC.exit (et (et (eb (nt ?_))))
  refine TC.region ?_
  refine wmp rfl rfl ?_
  refine wmi rfl rfl ?_
  refine q rfl rfl (ldN (vs := ints [_, _, _]) 3 rfl rfl rfl rfl) ?_
  refine e rfl ?_
  refine cl (put_ok b now tn A ad n cap wb q0 g k hA (by omega) hc ee) rfl (picked_cons 1 rfl (picked_cons 1 rfl (picked_cons 1 rfl (picked_nil _)))) trivial ?_
  intro _ _
  change TL _ _ _ _ _ _ _ _ (sepL [_, _, _, _, _])
  refine TL.nil ?_
  have hWd := hW1.done (hN.perm hP1) (by omega)
  have hge : gE (A.set k ee) k = ee := by rw [gE_set hkA, if_pos rfl]
  rw [hge] at hWd
  exact Ret.n ⟨A.set k ee, _, _⟩ [] trivial rfl ⟨hHp, hWd, hP1⟩ (ent_take 0 rfl (ent_take 0 rfl (ent_take 0 rfl (ent_take 1 rfl (ent_nil _)))))
set_option maxRecDepth 4000 in
theorem down_ok (b : Nat) (now tn : Int) (H : List En) (ad : Option Addr) (n cap wb m : Nat) (f : Int → Option Value) (i : Nat) (hn : H.length = n) (hi : i < n) (hc : n ≤ 1000000) (hD : HoleD H i) (hW : Wh f H i) (hN : Nd H) : FSpec Tryz.prog 126 [.pointer (some ⟨b, 0, none⟩), .int .i64 (i : Int)] noRd [pts b 145 [.int .i64 now, .int .i64 tn, .slice ad n cap, .map (some wb)], slc 149 3 ad n cap (ents H), mapF encI wb f m] (fun _ : List En × (Int → Option Value) × Nat => .tuple #[]) (fun y => WhA y.2.1 y.1 ∧ y.1.Perm H ∧ ∃ j, j < n ∧ HoleU y.1 j ∧ gE y.1 j = gE H i) (fun y => [pts b 145 [.int .i64 now, .int .i64 tn, .slice ad n cap, .map (some wb)], slc 149 3 ad n cap (ents y.1), mapF encI wb y.2.1 y.2.2]) := by
 refine FSpec.intro (rs := []) (by kernel_rfl) Tryz.func126 rfl Tryz.ntmps126 (by rfl) rfl ?_
 intro F _
 change TC _ _ _ _ _ _ _ (sepL [_, _, _, _])
 have hg := gE_get (show i < H.length by omega)
 have hpl : 0 < (ents H).length := by rw [ents_length]; omega
 refine TC.seq ?_
 refine TC.region ?_
 refine wmp rfl rfl ?_
 refine wnc rfl rfl ?_
 refine wfa 2 rfl rfl rfl ?_
 refine wld rfl rfl rfl rfl ?_
 refine wmi rfl rfl ?_
 refine q rfl rfl (ixS 149 3 rfl rfl rfl (by omega) (by assumption)) ?_
 refine q rfl rfl (ldSN (vs := ints [_, _, _]) 3 rfl rfl (flat_get_rec enC_sz hg) rfl (by decide)) ?_
 refine e rfl ?_
 refine al (l := ints [_, _, _]) rfl rfl ?_
 intro b5
 refine e0 ?_
 refine st (v := .agg (List.toArray (ints [_, _, _]))) (vs := ints [_, _, _]) 3 rfl rfl rfl rfl rfl rfl (Nat.le_of_ble_eq_true rfl) rfl ?_
 refine TL.nil (nt ?_)
 refine TC.seq ?_
 refine TC.block ?_
 obtain ⟨ee, he⟩ : ∃ ee, gE H i = ee := ⟨_, rfl⟩
 rw [he]
 refine TC.loop (ι := Nat × List En × (Int → Option Value) × Nat) (fun s => s.1 < n ∧ s.2.1.length = n ∧ HoleD (s.2.1.set s.1 ee) s.1 ∧ Wh s.2.2.1 (s.2.1.set s.1 ee) s.1 ∧ (s.2.1.set s.1 ee).Perm H) (fun s => [(0, .pointer (some ⟨b, 0, none⟩)), (1, .int .i64 ((s.1 : Nat) : Int)), (4, .pointer (some ⟨b5, 0, none⟩))]) (fun s => sepL [pts b5 149 (enC ee), pts b 145 [.int .i64 now, .int .i64 tn, .slice ad n cap, .map (some wb)], slc 149 3 ad n cap (ents s.2.1), mapF encI wb s.2.2.1 s.2.2.2, F]) (fun s => n - s.1) ⟨i, H, f, m⟩ (by dsimp only; rw [← he, set_self (by omega)]; exact ⟨hi, hn, hD, hW, List.Perm.refl _⟩) ⟨rfl, rfl, rfl, trivial⟩ (ent_take 0 rfl (ent_take 0 rfl (ent_take 0 rfl (ent_take 0 rfl (ent_take 0 rfl (ent_nil _)))))) ?_
 rintro ⟨k, A, g, q0⟩ ⟨hk, hA, hD1, hW1, hP1⟩ ρ0
 dsimp only [updL] at hk hA hD1 hW1 hP1 ⊢
 have hkA : k < A.length := by omega
 have hpA : 0 < (ents A).length := by rw [ents_length]; omega
 have hsl : (A.set k ee).length = n := by rw [List.length_set]; exact hA
 have hgs : ∀ j, j ≠ k → gE (A.set k ee) j = gE A j := fun j hj => by rw [gE_set hkA, if_neg hj]
 have hge : gE (A.set k ee) k = ee := by rw [gE_set hkA, if_pos rfl]
 refine TC.block ?_
 refine TC.seq ?_
 refine TC.region ?_
 refine wmi rfl rfl ?_
 refine q rfl rfl (mulI rfl rfl (by omega) (by omega)) ?_
 refine q rfl rfl (addI rfl rfl (by omega) (by omega)) ?_
 refine wai rfl rfl ?_
 refine TL.nil (nt ?_)
 refine TC.cut (ι := Nat) (fun c => (c = 2 * k + 1 ∨ c = 2 * k + 2 ∧ c < n) ∧ ∀ s, s < n → (s = 2 * k + 1 ∨ s = 2 * k + 2) → ¬ Lt (gE A s) (gE A c)) (fun c => [(0, .pointer (some ⟨b, 0, none⟩)), (1, .int .i64 (k : Int)), (4, .pointer (some ⟨b5, 0, none⟩)), (5, .int .i64 ((c : Nat) : Int))]) (fun c => sepL [pts b5 149 (enC ee), pts b 145 [.int .i64 now, .int .i64 tn, .slice ad n cap, .map (some wb)], slc 149 3 ad n cap (ents A), mapF encI wb g q0, F]) ?_ ?_
 ·refine TC.seq ?_
  refine TC.draw _ [] [(0, false), (1, false), (2, false), (3, false), (4, false), (5, false), (6, false), (7, false), (8, false), (9, false), (10, false), (11, false), (12, false), (13, false), (14, false), (15, false), (16, false), (17, false), (18, false), (19, false), (20, false), (21, false), (22, false), (23, false), (24, false), (25, false), (26, true), (27, false)] (by kernel_rfl) (by kernel_rfl) (ent_take 0 rfl (ent_take 0 rfl (ent_take 0 rfl (ent_take 0 rfl (ent_nil _))))) ?_
  refine vmi rfl rfl rfl ?_
  refine dq rfl rfl rfl (addI rfl rfl (by omega) (by omega)) ?_
  refine vmp rfl rfl rfl ?_
  refine vnc rfl rfl rfl ?_
  refine vfa 2 rfl rfl rfl rfl ?_
  refine vld rfl rfl rfl rfl rfl ?_
  refine dq rfl rfl rfl (len 149 3 rfl rfl) ?_
  refine dq rfl rfl rfl (lss rfl rfl) ?_
  refine vmb rfl rfl rfl ?_
  refine TD.split 24 rfl (fun hin => ?_) (fun hin => ?_)
  ·have hin := of_decide_eq_true hin
   have hg1 := gE_get (show 2 * k + 2 < A.length by omega)
   have hg0 := gE_get (show 2 * k + 1 < A.length by omega)
   refine dg rfl rfl rfl rfl (mv (v := .pointer _) rfl) ?_
   refine dg rfl rfl rfl rfl (nc rfl) ?_
   refine dg rfl rfl rfl rfl (fa 2 rfl rfl) ?_
   refine dg rfl rfl rfl rfl (ld rfl rfl rfl) ?_
   refine dg rfl rfl rfl rfl (mv (v := .int _ _) rfl) ?_
   refine dg rfl rfl rfl rfl (addI rfl rfl (by omega) (by omega)) ?_
   refine dg rfl rfl rfl rfl (ixJ 149 3 rfl rfl rfl (by omega) (by omega) (by assumption)) ?_
   refine dg rfl rfl rfl rfl (faS 0 rfl rfl (by assumption)) ?_
   refine dg rfl rfl rfl rfl (ldSN (vs := ints [_, _]) 2 rfl rfl (flat_ldN enC_sz hg1 0 2 (by omega) (by omega) rfl) rfl (by decide)) ?_
   refine dg rfl rfl rfl rfl (mv (v := .pointer _) rfl) ?_
   refine dg rfl rfl rfl rfl (nc rfl) ?_
   refine dg rfl rfl rfl rfl (fa 2 rfl rfl) ?_
   refine dg rfl rfl rfl rfl (ld rfl rfl rfl) ?_
   refine dg rfl rfl rfl rfl (mv (v := .int _ _) rfl) ?_
   refine dg rfl rfl rfl rfl (ixJ 149 3 rfl rfl rfl (by omega) (by omega) (by assumption)) ?_
   refine dg rfl rfl rfl rfl (faS 0 rfl rfl (by assumption)) ?_
   refine dg rfl rfl rfl rfl (ldSN (vs := ints [_, _]) 2 rfl rfl (flat_ldN enC_sz hg0 0 2 (by omega) (by omega) rfl) rfl (by decide)) ?_
   refine deg rfl rfl rfl ?_
   refine cl (ahead_ok (gE A (2 * k + 2)) (gE A (2 * k + 1))) rfl (picked_nil _) trivial ?_
   intro _ _
   change ent _ _ ∧ TD _ _ _ _ _ _ _ _ _ _ (sepL [_, _, _, _, _])
   refine ⟨(ent_take 0 rfl (ent_take 0 rfl (ent_take 0 rfl (ent_take 0 rfl (ent_nil _))))), ?_⟩
   refine dq rfl rfl rfl (pkT (v := .bool _) rfl rfl) ?_
   refine TD.nil (nt ?_)
   refine TC.condD rfl (fun hlt => ?_) (fun hlt => ?_)
   ·refine TC.region ?_
    refine wmi rfl rfl ?_
    refine q rfl rfl (addI rfl rfl (by omega) (by omega)) ?_
    refine wai rfl rfl ?_
    refine TL.nil (nt ?_)
    exact ⟨rfl, (2 * k + 2), ⟨.inr ⟨rfl, by omega⟩, fun s hs hs2 => by rcases hs2 with rfl | rfl <;> simp only [Lt] at hlt ⊢ <;> omega⟩, ⟨rfl, rfl, rfl, congrArg (Value.int .i64) (by omega), trivial⟩, (ent_take 0 rfl (ent_take 0 rfl (ent_take 0 rfl (ent_take 0 rfl (ent_take 0 rfl (ent_nil _))))))⟩
   ·refine TC.skip (nt ?_)
    exact ⟨rfl, (2 * k + 1), ⟨.inl rfl, fun s hs hs2 => by rcases hs2 with rfl | rfl; simp only [Lt]; omega; exact hlt⟩, ⟨rfl, rfl, rfl, congrArg (Value.int .i64) (by omega), trivial⟩, (ent_take 0 rfl (ent_take 0 rfl (ent_take 0 rfl (ent_take 0 rfl (ent_take 0 rfl (ent_nil _))))))⟩
  ·have hin := of_decide_eq_false hin
   refine dk rfl rfl rfl rfl ?_
   refine dk rfl rfl rfl rfl ?_
   refine dk rfl rfl rfl rfl ?_
   refine dk rfl rfl rfl rfl ?_
   refine dk rfl rfl rfl rfl ?_
   refine dk rfl rfl rfl rfl ?_
   refine dk rfl rfl rfl rfl ?_
   refine dk rfl rfl rfl rfl ?_
   refine dk rfl rfl rfl rfl ?_
   refine dk rfl rfl rfl rfl ?_
   refine dk rfl rfl rfl rfl ?_
   refine dk rfl rfl rfl rfl ?_
   refine dk rfl rfl rfl rfl ?_
   refine dk rfl rfl rfl rfl ?_
   refine dk rfl rfl rfl rfl ?_
   refine dk rfl rfl rfl rfl ?_
   refine dk rfl rfl rfl rfl ?_
   refine dke rfl rfl rfl (ent_take 0 rfl (ent_take 0 rfl (ent_take 0 rfl (ent_take 0 rfl (ent_nil _))))) ?_
   refine dq rfl rfl rfl (pkF (v := .bool _) rfl rfl) ?_
   refine TD.nil (nt ?_)
   refine TC.condF rfl ?_
   refine TC.skip (nt ?_)
   exact ⟨rfl, (2 * k + 1), ⟨.inl rfl, fun s hs hs2 => by obtain rfl : s = 2 * k + 1 := (by omega); simp only [Lt]; omega⟩, ⟨rfl, rfl, rfl, congrArg (Value.int .i64) (by omega), trivial⟩, (ent_take 0 rfl (ent_take 0 rfl (ent_take 0 rfl (ent_take 0 rfl (ent_take 0 rfl (ent_nil _))))))⟩
 ·rintro c ⟨hc1, hc2⟩ ρ1
  dsimp only [updL] at hc1 hc2 ⊢
  refine TC.seq ?_
  refine TC.seq ?_
  refine TC.draw _ [] [(0, false), (1, false), (2, false), (3, false), (4, false), (5, false), (6, false), (7, false), (8, false), (9, false), (10, false), (11, false), (12, false), (13, false), (14, false), (15, false), (16, false), (17, false), (18, true), (19, false), (20, false)] (by kernel_rfl) (by kernel_rfl) (ent_take 0 rfl (ent_take 0 rfl (ent_take 0 rfl (ent_take 0 rfl (ent_nil _))))) ?_
  refine vmi rfl rfl rfl ?_
  refine vmp rfl rfl rfl ?_
  refine vnc rfl rfl rfl ?_
  refine vfa 2 rfl rfl rfl rfl ?_
  refine vld rfl rfl rfl rfl rfl ?_
  refine dq rfl rfl rfl (len 149 3 rfl rfl) ?_
  refine dq rfl rfl rfl (geq rfl rfl) ?_
  refine vmb rfl rfl rfl ?_
  refine TD.split 53 rfl (fun hge2 => ?_) (fun hge2 => ?_)
  ·have hge2 := of_decide_eq_true hge2
   have hmin : ∀ s, s < n → (s = 2 * k + 1 ∨ s = 2 * k + 2) → ¬ Lt (gE A s) ee := fun s hs hs2 => by omega
   refine dk rfl rfl rfl rfl ?_
   refine dk rfl rfl rfl rfl ?_
   refine dk rfl rfl rfl rfl ?_
   refine dk rfl rfl rfl rfl ?_
   refine dk rfl rfl rfl rfl ?_
   refine dk rfl rfl rfl rfl ?_
   refine dk rfl rfl rfl rfl ?_
   refine dk rfl rfl rfl rfl ?_
   refine dk rfl rfl rfl rfl ?_
   refine dk rfl rfl rfl rfl ?_
   refine dke rfl rfl rfl (ent_take 0 rfl (ent_take 0 rfl (ent_take 0 rfl (ent_take 0 rfl (ent_nil _))))) ?_
   refine dk rfl rfl rfl rfl ?_
   refine dq rfl rfl rfl (pkT (v := .bool _) rfl rfl) ?_
   refine TD.nil (nt ?_)
   refine TC.condT rfl ?_
   have hUf := hD1.exit (fun s h0 hs hps => by rw [hge, hgs s (by omega)]; exact hmin s (by omega) (by omega))
   refine TC.exit (et (en rfl (et (eb (nt ?_)))))
   refine TC.region ?_
   refine wmp rfl rfl ?_
   refine wmi rfl rfl ?_
   refine q rfl rfl (ldN (vs := ints [_, _, _]) 3 rfl rfl rfl rfl) ?_
   refine e rfl ?_
   refine cl (put_ok b now tn A ad n cap wb q0 g k hA (by omega) hc ee) rfl (picked_cons 1 rfl (picked_cons 1 rfl (picked_cons 1 rfl (picked_nil _)))) trivial ?_
   intro _ _
   change TL _ _ _ _ _ _ _ _ (sepL [_, _, _, _, _])
   refine TL.nil ?_
   have hWd := hW1.done (hN.perm hP1) (by omega)
   rw [hge] at hWd
   exact Ret.n ⟨A.set k ee, _, _⟩ [] trivial rfl ⟨hWd, hP1, k, hk, hUf, hge⟩ (ent_take 0 rfl (ent_take 0 rfl (ent_take 0 rfl (ent_take 1 rfl (ent_nil _)))))
  ·have hge2 := of_decide_eq_false hge2
   have hcn : c < n := by omega
   have hgc := gE_get (show c < A.length by omega)
   refine dg rfl rfl rfl rfl (mv (v := .pointer _) rfl) ?_
   refine dg rfl rfl rfl rfl (nc rfl) ?_
   refine dg rfl rfl rfl rfl (fa 2 rfl rfl) ?_
   refine dg rfl rfl rfl rfl (ld rfl rfl rfl) ?_
   refine dg rfl rfl rfl rfl (mv (v := .int _ _) rfl) ?_
   refine dg rfl rfl rfl rfl (ixS 149 3 rfl rfl rfl (by omega) (by assumption)) ?_
   refine dg rfl rfl rfl rfl (faS 0 rfl rfl (by assumption)) ?_
   refine dg rfl rfl rfl rfl (ldSN (vs := ints [_, _]) 2 rfl rfl (flat_ldN enC_sz hgc 0 2 (by omega) (by omega) rfl) rfl (by decide)) ?_
   refine dg rfl rfl rfl rfl (fa 0 rfl rfl) ?_
   refine dg rfl rfl rfl rfl (ldN (vs := ints [_, _]) 2 rfl rfl rfl rfl) ?_
   refine deg rfl rfl rfl ?_
   refine cl (ahead_ok (gE A c) ee) rfl (picked_nil _) trivial ?_
   intro _ _
   change ent _ _ ∧ TD _ _ _ _ _ _ _ _ _ _ (sepL [_, _, _, _, _])
   refine ⟨(ent_take 0 rfl (ent_take 0 rfl (ent_take 0 rfl (ent_take 0 rfl (ent_nil _))))), ?_⟩
   refine dg rfl rfl rfl rfl (notD rfl) ?_
   refine dq rfl rfl rfl (pkF (v := .bool _) rfl rfl) ?_
   refine TD.nil (nt ?_)
   refine TC.condD rfl (fun hnl => ?_) (fun hnl => ?_)
   ·have hmin : ∀ s, s < n → (s = 2 * k + 1 ∨ s = 2 * k + 2) → ¬ Lt (gE A s) ee := fun s hs hs2 => by have := hc2 s hs hs2; simp only [Lt] at this hnl ⊢; omega
    have hUf := hD1.exit (fun s h0 hs hps => by rw [hge, hgs s (by omega)]; exact hmin s (by omega) (by omega))
    refine TC.exit (et (en rfl (et (eb (nt ?_)))))
    refine TC.region ?_
    refine wmp rfl rfl ?_
    refine wmi rfl rfl ?_
    refine q rfl rfl (ldN (vs := ints [_, _, _]) 3 rfl rfl rfl rfl) ?_
    refine e rfl ?_
    refine cl (put_ok b now tn A ad n cap wb q0 g k hA (by omega) hc ee) rfl (picked_cons 1 rfl (picked_cons 1 rfl (picked_cons 1 rfl (picked_nil _)))) trivial ?_
    intro _ _
    change TL _ _ _ _ _ _ _ _ (sepL [_, _, _, _, _])
    refine TL.nil ?_
    have hWd := hW1.done (hN.perm hP1) (by omega)
    rw [hge] at hWd
    exact Ret.n ⟨A.set k ee, _, _⟩ [] trivial rfl ⟨hWd, hP1, k, hk, hUf, hge⟩ (ent_take 0 rfl (ent_take 0 rfl (ent_take 0 rfl (ent_take 1 rfl (ent_nil _)))))
   ·have hnl : Lt (gE A c) ee := Decidable.byContradiction hnl
    refine TC.skip (nt ?_)
    refine TC.seq ?_
    refine TC.region ?_
    refine wmp rfl rfl ?_
    refine wmi rfl rfl ?_
    refine wmp rfl rfl ?_
    refine wnc rfl rfl ?_
    refine wfa 2 rfl rfl rfl ?_
    refine wld rfl rfl rfl rfl ?_
    refine wmi rfl rfl ?_
    refine q rfl rfl (ixS 149 3 rfl rfl rfl (by omega) (by assumption)) ?_
    refine q rfl rfl (ldSN (vs := ints [_, _, _]) 3 rfl rfl (flat_get_rec enC_sz hgc) rfl (by decide)) ?_
    refine e rfl ?_
    refine cl (put_ok b now tn A ad n cap wb q0 g k hA (by omega) hc (gE A c)) rfl (picked_cons 1 rfl (picked_cons 1 rfl (picked_cons 1 rfl (picked_nil _)))) trivial ?_
    intro _ _
    change TL _ _ _ _ _ _ _ _ (sepL [_, _, _, _, _])
    refine TL.nil (nt ?_)
    refine TC.region ?_
    refine wmi rfl rfl ?_
    refine wai rfl rfl ?_
    refine TL.nil (nb (nt ?_))
    have hsw := hole_set ee hkA (show c < A.length by omega) (by omega)
    have hD2 := hD1.step (k := c) (by omega) (by omega) (by omega) (by omega) (by rw [hge, hgs c (by omega)]; exact hnl) (fun s h0 hs hps => by rw [hgs c (by omega), hgs s (by omega)]; exact hc2 s (by omega) (by omega))
    have hW2 := hW1.step (hN.perm hP1) (by omega) (show c < (A.set k ee).length by omega) (by omega)
    rw [← hsw] at hD2
    rw [hgs c (by omega), ← hsw] at hW2
    have hP2 := (swp_perm (L := A.set k ee) (i := k) (k := c) (by omega) (by omega)).trans hP1
    rw [← hsw] at hP2
    exact ⟨rfl, ⟨c, A.set k (gE A c), _, _⟩, ⟨by dsimp only; omega, by dsimp only; rw [List.length_set]; exact hA, hD2, hW2, hP2⟩, (by dsimp only; omega), ⟨rfl, rfl, rfl, trivial⟩, (ent_take 3 rfl (ent_take 0 rfl (ent_take 0 rfl (ent_take 0 rfl (ent_take 0 rfl (ent_nil _))))))⟩
end Go.Proofs.YtdfmfhcjnjfjbaaGreat.Al
namespace Go.Proofs.YtdfmfhcjnjfjbaaGreat.Al
open Go Go.QM
theorem ents_take (H : List En) (k : Nat) : (ents H).take (k * 3) = ents (H.take k) := flat_take enC_sz H k
theorem gE_take {H : List En} {n j : Nat} (h : j < n) : gE (H.take n) j = gE H j := by simp [gE, List.getD_eq_getElem?_getD, List.getElem?_take, h]
theorem split_last {H : List En} {n : Nat} (hn : H.length = n + 1) : H.take n ++ [gE H n] = H := by
  have h1 : gE H n = H[n] := by simp [gE, hn]
  rw [h1, List.take_append_getElem, List.take_of_length_le (by omega)]
def cutL (H : List En) (n i : Nat) : List En := if i < n then (H.take n).set i (gE H n) else H.take n
theorem cutL_length {H : List En} {n : Nat} (hn : H.length = n + 1) (i : Nat) : (cutL H n i).length = n := by
  unfold cutL; split <;> simp <;> omega
theorem cutL_gE {H : List En} {n i : Nat} (hn : H.length = n + 1) {j : Nat} (hj : j < n) : gE (cutL H n i) j = if j = i then gE H n else gE H j := by
  unfold cutL
  split
  · rename_i h
    rw [gE_set (by rw [List.length_take]; omega)]
    split
    · rfl
    · exact gE_take hj
  · rename_i h; rw [if_neg (by omega)]; exact gE_take hj
theorem cutL_perm {H : List En} {n i : Nat} (hn : H.length = n + 1) (hi : i ≤ n) : (gE H i :: cutL H n i).Perm H := by
  by_cases h : i < n
  · have h1 : swp H i n = cutL H n i ++ [gE H i] := by
      rw [cutL, if_pos h, swp]
      conv => lhs; rw [← split_last hn]
      have hg : gE (H.take n ++ [gE H n]) n = gE H n := by rw [split_last hn]
      have hgi : gE (H.take n ++ [gE H n]) i = gE H i := by rw [split_last hn]
      rw [hg, hgi, List.set_append_left _ _ (by rw [List.length_take]; omega), List.set_append_right _ _ (by rw [List.length_set, List.length_take]; omega)]
      simp [List.length_take, hn]
    refine List.Perm.trans ?_ (h1 ▸ swp_perm (by omega) (by omega))
    exact (List.perm_append_singleton _ _).symm
  · obtain rfl : i = n := by omega
    rw [cutL, if_neg h]
    have := split_last hn
    refine List.Perm.trans ?_ (List.Perm.of_eq this)
    exact (List.perm_append_singleton _ _).symm
theorem cut_hole {H : List En} {n i : Nat} (hn : H.length = n + 1) (h : Heap H) : HoleD (cutL H n i) i where
  a := fun k h0 hk hne hp => by
    rw [cutL_length hn] at hk
    rw [OkAt, cutL_gE hn hk, cutL_gE hn (by omega), if_neg hne, if_neg hp]
    exact h k h0 (by omega)
  b := fun k h0 hk hp hi => by
    rw [cutL_length hn] at hk
    rw [cutL_gE hn hk, cutL_gE hn (by omega), if_neg (by omega), if_neg (by omega)]
    exact (h.hole i).b k h0 (by omega) hp hi
theorem cut_heap {H : List En} {n : Nat} (hn : H.length = n + 1) (h : Heap H) : Heap (cutL H n n) := fun k h0 hk => by
  rw [cutL_length hn] at hk
  rw [OkAt, cutL_gE hn hk, cutL_gE hn (by omega), if_neg (by omega), if_neg (by omega)]
  exact h k h0 (by omega)
theorem cut_wh {f : Int → Option Value} {H : List En} {n i : Nat} (hn : H.length = n + 1) (hW : WhA f H) (hN : Nd H) (hi : i < n) : WhA (updF (delF f (gE H i).id) (gE H n).id (.int .i64 (i : Int))) (cutL H n i) where
  a := fun j hj => by
    rw [cutL_length hn] at hj
    rw [cutL_gE hn hj]
    by_cases e : j = i
    · subst e; rw [if_pos rfl, updF, if_pos rfl]
    · rw [if_neg e, updF, if_neg (fun e2 => by have := hN.inj (by omega) (by omega) e2; omega), delF, if_neg (fun e2 => e (hN.inj (by omega) (by omega) e2))]
      exact hW.a j (by omega)
  b := fun x hx => by
    have h1 : (gE H n).id ≠ x := by
      have := hx i (by rw [cutL_length hn]; exact hi)
      rwa [cutL_gE hn hi, if_pos rfl] at this
    rw [updF, if_neg (Ne.symm h1), delF]
    split
    · rfl
    · rename_i h2
      refine hW.b x fun j hj => ?_
      by_cases e : j = i
      · subst e; exact fun e => h2 e.symm
      · by_cases e2 : j = n
        · rw [e2]; exact h1
        · have := hx j (by rw [cutL_length hn]; omega)
          rwa [cutL_gE hn (by omega), if_neg e] at this
theorem cut_wh_last {f : Int → Option Value} {H : List En} {n : Nat} (hn : H.length = n + 1) (hW : WhA f H) (hN : Nd H) : WhA (delF f (gE H n).id) (cutL H n n) where
  a := fun j hj => by
    rw [cutL_length hn] at hj
    rw [cutL_gE hn hj, if_neg (by omega), delF, if_neg (fun e2 => by have := hN.inj (by omega) (by omega) e2; omega)]
    exact hW.a j (by omega)
  b := fun x hx => by
    rw [delF]
    split
    · rfl
    · rename_i h2
      refine hW.b x fun j hj => ?_
      by_cases e2 : j = n
      · rw [e2]; exact fun e => h2 e.symm
      · have := hx j (by rw [cutL_length hn]; omega)
        rwa [cutL_gE hn (by omega), if_neg e2] at this
set_option maxRecDepth 4000 in
theorem cut_ok (b : Nat) (now tn : Int) (H : List En) (ad : Option Addr) (n cap wb m : Nat) (f : Int → Option Value) (i : Nat) (hn : H.length = n + 1) (hi : i ≤ n) (hc : n ≤ 900000) (hH : Heap H) (hW : WhA f H) (hN : Nd H) : FSpec Tryz.prog 95 [.pointer (some ⟨b, 0, none⟩), .int .i64 (i : Int)] noRd [pts b 145 [.int .i64 now, .int .i64 tn, .slice ad (n + 1) cap, .map (some wb)], slc 149 3 ad (n + 1) cap (ents H), mapF encI wb f m] (fun _ : List En × (Int → Option Value) × Nat => .agg (enC (gE H i)).toArray) (fun y => y.1.length = n ∧ Heap y.1 ∧ WhA y.2.1 y.1 ∧ (gE H i :: y.1).Perm H) (fun y => [pts b 145 [.int .i64 now, .int .i64 tn, .slice ad n cap, .map (some wb)], slc 149 3 ad n cap (ents y.1), mapF encI wb y.2.1 y.2.2]) := by
 refine FSpec.intro (rs := [.cell 4 149]) (by kernel_rfl) Tryz.func95 rfl Tryz.ntmps95 (by rfl) rfl ?_
 intro F _
 change TC _ _ _ _ _ _ _ (sepL [_, _, _, _])
 refine TC.factSlc 1 rfl (fun _ hcap _ => ?_)
 have hg := gE_get (show i < H.length by omega)
 have hgn := gE_get (show n < H.length by omega)
 have hpl : 0 < (ents H).length := by rw [ents_length]; omega
 have hcl := cutL_length hn i
 have hcp := cutL_perm hn hi
 have hcN : Nd (gE H i :: cutL H n i) := hN.perm hcp
 have hcN1 : Nd (cutL H n i) := (List.nodup_cons.1 hcN).2
 refine TC.seq ?_
 refine TC.region ?_
 refine e rfl ?_
 refine al (l := ints [_, _, _]) rfl rfl ?_
 intro b1
 refine TL.nil (nt ?_)
 refine TC.seq ?_
 refine TC.draw _ [] [(0, false), (1, false), (2, false), (3, false), (4, false), (5, false), (6, false), (7, false), (8, false), (9, false), (10, false), (11, false), (12, false), (13, true), (14, true), (15, false)] (by kernel_rfl) (by kernel_rfl) (ent_take 0 rfl (ent_take 0 rfl (ent_take 0 rfl (ent_take 0 rfl (ent_nil _))))) ?_
 refine vmp rfl rfl rfl ?_
 refine vnc rfl rfl rfl ?_
 refine vfa 2 rfl rfl rfl rfl ?_
 refine vld rfl rfl rfl rfl rfl ?_
 refine vmi rfl rfl rfl ?_
 refine dq rfl rfl rfl (ixS 149 3 rfl rfl rfl (by omega) (by assumption)) ?_
 refine dq rfl rfl rfl (ldSN (vs := ints [_, _, _]) 3 rfl rfl (flat_get_rec enC_sz hg) rfl (by decide)) ?_
 refine vmp rfl rfl rfl ?_
 refine vnc rfl rfl rfl ?_
 refine vfa 2 rfl rfl rfl rfl ?_
 refine vld rfl rfl rfl rfl rfl ?_
 refine dq rfl rfl rfl (len 149 3 rfl rfl) ?_
 refine dq rfl rfl rfl (subI rfl rfl (by omega) (by omega)) ?_
 rw [show (((n + 1 : Nat) : Int) - 1) = (n : Int) from by omega]
 refine de rfl rfl ?_
 refine al (l := ints [_, _, _]) rfl rfl ?_
 intro b2
 refine ⟨(ent_take 1 rfl (ent_take 1 rfl (ent_take 1 rfl (ent_take 1 rfl (ent_nil _))))), ?_⟩
 refine de0 rfl ?_
 refine st (v := .agg (List.toArray (ints [_, _, _]))) (vs := ints [_, _, _]) 3 rfl rfl rfl rfl rfl rfl (Nat.le_of_ble_eq_true rfl) rfl ?_
 refine ⟨(ent_take 1 rfl (ent_take 1 rfl (ent_take 1 rfl (ent_take 1 rfl (ent_nil _))))), ?_⟩
 refine vai rfl rfl rfl ?_
 refine TD.nil (nt ?_)
 refine TC.seq ?_
 refine TC.draw _ [] [(0, false), (1, false), (2, false), (3, false), (4, false), (5, false), (6, true)] (by kernel_rfl) (by kernel_rfl) (ent_take 0 rfl (ent_take 0 rfl (ent_take 0 rfl (ent_nil _)))) ?_
 refine vmp rfl rfl rfl ?_
 refine vnc rfl rfl rfl ?_
 refine vfa 3 rfl rfl rfl rfl ?_
 refine vld rfl rfl rfl rfl rfl ?_
 refine vfa 2 rfl rfl rfl rfl ?_
 refine vld rfl rfl rfl rfl rfl ?_
 refine de0 rfl ?_
 refine deF 3 3 rfl (KL.int rfl) rfl rfl rfl ?_
 refine ⟨(ent_take 1 rfl (ent_take 1 rfl (ent_take 1 rfl (ent_nil _)))), ?_⟩
 refine TD.nil (nt ?_)
 refine TC.seq ?_
 refine TC.region ?_
 refine wmp rfl rfl ?_
 refine wnc rfl rfl ?_
 refine wfa 2 rfl rfl rfl ?_
 refine wld rfl rfl rfl rfl ?_
 refine wmi rfl rfl ?_
 refine q rfl rfl (ixS 149 3 rfl rfl rfl (by omega) (by assumption)) ?_
 refine q rfl rfl (ldSN (vs := ints [_, _, _]) 3 rfl rfl (flat_get_rec enC_sz hgn) rfl (by decide)) ?_
 refine e rfl ?_
 refine al (l := ints [_, _, _]) rfl rfl ?_
 intro b3
 refine e0 ?_
 refine st (v := .agg (List.toArray (ints [_, _, _]))) (vs := ints [_, _, _]) 3 rfl rfl rfl rfl rfl rfl (Nat.le_of_ble_eq_true rfl) rfl ?_
 refine TL.nil (nt ?_)
 refine TC.seq ?_
 refine TC.region ?_
 refine wmp rfl rfl ?_
 refine wmp rfl rfl ?_
 refine wnc rfl rfl ?_
 refine wfa 2 rfl rfl rfl ?_
 refine wld rfl rfl rfl rfl ?_
 refine wmi rfl rfl ?_
 refine q rfl rfl (slTn 149 3 (n) rfl rfl rfl (by omega) (by omega)) ?_
 refine wnc rfl rfl ?_
 refine wfa 2 rfl rfl rfl ?_
 refine e0 ?_
 refine st (v := .slice _ _ _) (vs := [_]) 1 rfl rfl rfl rfl rfl rfl (Nat.le_of_ble_eq_true rfl) rfl ?_
 refine TL.nil (nt ?_)
 refine TC.seq ?_
 refine TC.seq ?_
 refine TC.region ?_
 refine wmi rfl rfl ?_
 refine wmi rfl rfl ?_
 refine q rfl rfl (lss rfl rfl) ?_
 refine TL.nil (nt ?_)
 refine TC.condD rfl (fun hlt => ?_) (fun hlt => ?_)
 ·have hlt2 : i < n := by omega
  have hcu : (H.take n).set i (gE H n) = cutL H n i := by rw [cutL, if_pos hlt2]
  have htk : (H.take n).length = n := by rw [List.length_take]; omega
  refine TC.weak (B := sepL [pts b 145 [.int .i64 now, .int .i64 tn, .slice ad n cap, .map (some wb)], slc 149 3 ad n cap (ents (H.take n)), mapF encI wb (delF f (gE H i).id) _, pts b3 149 (enC (gE H n)), pts b2 149 (enC (gE H i)), pts b1 149 (ints [0, 0, 0]), F]) (ent_take 0 rfl (ent_takeW 4 rfl (by rw [← ents_take]; exact slc_to (by omega)) (ent_take 1 rfl (ent_take 0 rfl (ent_take 0 rfl (ent_take 0 rfl (ent_take 0 rfl (ent_nil _)))))))) ?_
  refine TC.seq ?_
  refine TC.region ?_
  refine wmp rfl rfl ?_
  refine wmi rfl rfl ?_
  refine q rfl rfl (ldN (vs := ints [_, _, _]) 3 rfl rfl rfl rfl) ?_
  refine e rfl ?_
  refine cl (put_ok b now tn (H.take n) ad n cap wb _ _ i htk hlt2 (by omega) (gE H n)) rfl (picked_cons 0 rfl (picked_cons 0 rfl (picked_cons 0 rfl (picked_nil _)))) trivial ?_
  intro _ _
  change TL _ _ _ _ _ _ _ _ (sepL [_, _, _, _, _, _, _])
  rw [hcu]
  refine TL.nil (nt ?_)
  refine TC.seq ?_
  refine TC.region ?_
  refine wmp rfl rfl ?_
  refine wmi rfl rfl ?_
  refine e rfl ?_
  refine cl (down_ok b now tn (cutL H n i) ad n cap wb _ _ i hcl hlt2 (by omega) (cut_hole hn hH) ((cut_wh hn hW hN hlt2).but i) hcN1) rfl (picked_cons 0 rfl (picked_cons 0 rfl (picked_cons 0 rfl (picked_nil _)))) trivial ?_
  intro ⟨H3, f3, m3⟩ ⟨hw3, hp3, j, hj, hu3, hg3⟩
  change TL _ _ _ _ _ _ _ _ (sepL [_, _, _, _, _, _, _])
  dsimp only at hw3 hp3 hj hu3 hg3 ⊢
  rw [cutL_gE hn hlt2, if_pos rfl] at hg3
  have hl3 : H3.length = n := by rw [hp3.length_eq, hcl]
  have hfj : f3 (gE H n).id = some (.int .i64 (j : Int)) := by rw [← hg3]; exact hw3.a j (by omega)
  refine TL.nil (nt ?_)
  refine TC.draw _ [8] [(0, false), (1, false), (2, false), (3, false), (4, false), (5, false), (6, false), (7, false), (8, true)] (by kernel_rfl) (by kernel_rfl) (ent.refl _) ?_
  refine vmp rfl rfl rfl ?_
  refine vmp rfl rfl rfl ?_
  refine vnc rfl rfl rfl ?_
  refine vfa 3 rfl rfl rfl rfl ?_
  refine vld rfl rfl rfl rfl rfl ?_
  refine vfa 2 rfl rfl rfl rfl ?_
  refine vld rfl rfl rfl rfl rfl ?_
  refine dq rfl rfl rfl (luF 3 3 rfl rfl (KL.int rfl) rfl rfl) ?_
  rw [hfj]
  refine dl rfl rfl rfl rfl ?_
  refine cl (up_ok b now tn H3 ad n cap wb m3 f3 j hl3 hj (by omega) hu3 (hw3.but j) (hcN1.perm hp3)) rfl (picked_cons 0 rfl (picked_cons 0 rfl (picked_cons 0 rfl (picked_nil _)))) trivial ?_
  intro ⟨H4, f4, m4⟩ ⟨hh4, hw4, hp4⟩
  change TD _ _ _ _ _ _ _ _ _ _ (sepL [_, _, _, _, _, _, _])
  dsimp only at hh4 hw4 hp4 ⊢
  refine TD.nil (nt ?_)
  refine TC.seq ?_
  refine TC.region ?_
  refine q rfl rfl (ldN (vs := ints [_, _, _]) 3 rfl rfl rfl rfl) ?_
  refine e0 ?_
  refine st (v := .agg (List.toArray (ints [_, _, _]))) (vs := ints [_, _, _]) 3 rfl rfl rfl rfl rfl rfl (Nat.le_of_ble_eq_true rfl) rfl ?_
  refine TL.nil (nt ?_)
  refine TC.ret ?_
  exact Ret.i ⟨H4, f4, m4⟩ [_] ⟨(rcN (n := 3) rfl rfl rfl rfl), trivial⟩ rfl ⟨by dsimp only; rw [hp4.length_eq, hl3], hh4, hw4, ((hp4.trans hp3).cons _).trans hcp⟩ (ent_take 1 rfl (ent_take 1 rfl (ent_take 1 rfl (ent_take 3 rfl (ent_nil _)))))
 ·obtain rfl : i = n := by omega
  have hcu : H.take i = cutL H i i := by rw [cutL, if_neg (by omega)]
  refine TC.weak (B := sepL [pts b 145 [.int .i64 now, .int .i64 tn, .slice ad i cap, .map (some wb)], slc 149 3 ad i cap (ents (cutL H i i)), mapF encI wb (delF f (gE H i).id) _, pts b3 149 (enC (gE H i)), pts b2 149 (enC (gE H i)), pts b1 149 (ints [0, 0, 0]), F]) (ent_take 0 rfl (ent_takeW 4 rfl (by rw [← hcu, ← ents_take]; exact slc_to (by omega)) (ent_take 1 rfl (ent_take 0 rfl (ent_take 0 rfl (ent_take 0 rfl (ent_take 0 rfl (ent_nil _)))))))) ?_
  refine TC.skip (nt ?_)
  refine TC.seq ?_
  refine TC.region ?_
  refine q rfl rfl (ldN (vs := ints [_, _, _]) 3 rfl rfl rfl rfl) ?_
  refine e0 ?_
  refine st (v := .agg (List.toArray (ints [_, _, _]))) (vs := ints [_, _, _]) 3 rfl rfl rfl rfl rfl rfl (Nat.le_of_ble_eq_true rfl) rfl ?_
  refine TL.nil (nt ?_)
  refine TC.ret ?_
  exact Ret.i ⟨cutL H i i, _, _⟩ [_] ⟨(rcN (n := 3) rfl rfl rfl rfl), trivial⟩ rfl ⟨hcl, cut_heap hn hH, cut_wh_last hn hW hN, hcp⟩ (ent_take 1 rfl (ent_take 1 rfl (ent_take 1 rfl (ent_take 3 rfl (ent_nil _)))))
end Go.Proofs.YtdfmfhcjnjfjbaaGreat.Al
namespace Go.Proofs.YtdfmfhcjnjfjbaaGreat.Al
open Go Go.QM
structure AInv (H : List En) (n : Nat) (f : Int → Option Value) (tn : Int) (Q : List En) : Prop where
  n : H.length = n
  hp : Heap H
  wh : WhA f H
  pm : H.Perm Q
  nd : Nd Q
  tn : ∀ e ∈ Q, e.tn ≤ tn
  pw : Q.Pairwise fun a b => a.tn < b.tn
structure ARep where
  H : List En
  n : Nat
  f : Int → Option Value
  ad : Option Addr
  cap : Nat
  wb : Nat
  m : Nat
def isAl (b : Nat) (now tn : Int) (Q : List En) : HP := EX fun y : ARep => pure' (AInv y.H y.n y.f tn Q) (sepL [pts b 145 [.int .i64 now, .int .i64 tn, .slice y.ad y.n y.cap, .map (some y.wb)], slc 149 3 y.ad y.n y.cap (ents y.H), mapF encI y.wb y.f y.m])
theorem AInv.len {H : List En} {n : Nat} {f : Int → Option Value} {tn : Int} {Q : List En} (h : AInv H n f tn Q) : n = Q.length := by rw [← h.n, h.pm.length_eq]
theorem AInv.ndH {H : List En} {n : Nat} {f : Int → Option Value} {tn : Int} {Q : List En} (h : AInv H n f tn Q) : Nd H := h.nd.perm h.pm
theorem AInv.start (tn : Int) : AInv [] 0 (fun _ => none) tn [] := ⟨rfl, (fun k _ h => by simp at h), ⟨(fun j h => by simp at h), fun _ _ => rfl⟩, List.Perm.refl _, List.nodup_nil, (fun e h => by cases h), List.Pairwise.nil⟩
def hasA (Q : List En) (id : Int) : Prop := ∃ e ∈ Q, e.id = id
instance (Q : List En) (id : Int) : Decidable (hasA Q id) := inferInstanceAs (Decidable (∃ e ∈ Q, e.id = id))
theorem AInv.yes {H : List En} {n : Nat} {f : Int → Option Value} {tn : Int} {Q : List En} (h : AInv H n f tn Q) {id : Int} (hy : hasA Q id) : ∃ j, j < n ∧ (gE H j).id = id ∧ f id = some (.int .i64 (j : Int)) := by
  obtain ⟨e, he, rfl⟩ := hy
  obtain ⟨j, h1, h2, h3⟩ := h.wh.some (h.pm.mem_iff.2 he)
  exact ⟨j, by rw [← h.n]; exact h1, by rw [h2], h3⟩
theorem AInv.no {H : List En} {n : Nat} {f : Int → Option Value} {tn : Int} {Q : List En} (h : AInv H n f tn Q) {id : Int} (hy : ¬ hasA Q id) : f id = none :=
  h.wh.none fun e he e2 => hy ⟨e, h.pm.mem_iff.1 he, e2⟩
def setA (Q : List En) (now tn id ticks : Int) : List En × Int × Int :=
  if id < 0 ∨ ticks < 1 ∨ 1048576 < ticks then (Q, tn, 1) else if hasA Q id then (Q, tn, 7) else (Q ++ [⟨now + ticks, tn + 1, id⟩], tn + 1, 0)
theorem ents_snoc (H : List En) (e : En) : ents (H ++ [e]) = ents H ++ enC e := by simp [ents]
theorem gE_snoc {H : List En} {e : En} {k : Nat} (h : k < H.length) : gE (H ++ [e]) k = gE H k := by simp [gE, List.getD_eq_getElem?_getD, List.getElem?_append, h]
theorem snoc_hole {H : List En} (h : Heap H) (e : En) : HoleU (H ++ [e]) H.length where
  a := fun k h0 hk hne => by
    rw [List.length_append, List.length_singleton] at hk
    rw [OkAt, gE_snoc (by omega), gE_snoc (by omega)]; exact h k h0 (by omega)
  b := fun k h0 hk hp hi => by rw [List.length_append, List.length_singleton] at hk; omega
theorem snoc_wh {H : List En} {f : Int → Option Value} (h : WhA f H) (e : En) : Wh f (H ++ [e]) H.length where
  a := fun j hj hne => by
    rw [List.length_append, List.length_singleton] at hj
    rw [gE_snoc (by omega)]; exact h.a j (by omega)
  b := fun x hx => h.b x fun j hj => by
    have := hx j (by rw [List.length_append]; omega)
    rwa [gE_snoc hj] at this
theorem snoc_nd {H : List En} (h : Nd H) {e : En} (hx : ∀ a ∈ H, a.id ≠ e.id) : Nd (H ++ [e]) := by
  rw [Nd, List.map_append, List.nodup_append]
  refine ⟨h, by simp, fun x hx1 y hy => ?_⟩
  obtain ⟨a, ha, rfl⟩ := List.mem_map.1 hx1
  simp only [List.map_cons, List.map_nil, List.mem_singleton] at hy
  rw [hy]; exact hx a ha
theorem AInv.set {H H4 : List En} {n : Nat} {f f4 : Int → Option Value} {tn : Int} {Q : List En} (h : AInv H n f tn Q) {e : En} (he : e.tn = tn + 1) (hx : ¬ hasA Q e.id) (h1 : Heap H4) (h2 : WhA f4 H4) (h3 : H4.Perm (H ++ [e])) : AInv H4 (n + 1) f4 (tn + 1) (Q ++ [e]) where
  n := by rw [h3.length_eq, List.length_append, h.n]; rfl
  hp := h1
  wh := h2
  pm := h3.trans (h.pm.append_right _)
  nd := snoc_nd h.nd fun a ha e2 => hx ⟨a, ha, e2⟩
  tn := fun a ha => by
    rcases List.mem_append.1 ha with ha | ha
    · have := h.tn a ha; omega
    · obtain rfl := List.mem_singleton.1 ha; omega
  pw := by
    rw [List.pairwise_append]
    refine ⟨h.pw, List.pairwise_singleton _ _, fun a ha b hb => ?_⟩
    obtain rfl := List.mem_singleton.1 hb
    have := h.tn a ha; omega
def offA (Q : List En) (id : Int) : List En := Q.filter fun e => decide (e.id ≠ id)
theorem filter_self {H : List En} {e : En} (h : Nd (e :: H)) : offA (e :: H) e.id = H := by
  rw [offA, List.filter_cons_of_neg (by simp)]
  refine List.filter_eq_self.2 fun a ha => ?_
  have := (List.nodup_cons.1 h).1
  simp only [decide_eq_true_eq]
  exact fun e2 => this (List.mem_map.2 ⟨a, ha, e2⟩)
theorem AInv.off {H H' : List En} {n : Nat} {f f' : Int → Option Value} {tn : Int} {Q : List En} (h : AInv H (n + 1) f tn Q) {j : Nat} {id : Int} (hid : (gE H j).id = id) (h0 : H'.length = n) (h1 : Heap H') (h2 : WhA f' H') (h3 : (gE H j :: H').Perm H) : AInv H' n f' tn (offA Q id) where
  n := h0
  hp := h1
  wh := h2
  pm := by
    have := (h3.trans h.pm).filter fun e => decide (e.id ≠ id)
    have h4 := filter_self (h.ndH.perm h3)
    rw [hid] at h4
    rw [offA] at h4 ⊢
    rwa [h4] at this
  nd := h.nd.sublist ((List.filter_sublist).map _)
  tn := fun e he => h.tn e (List.mem_filter.1 he).1
  pw := h.pw.sublist List.filter_sublist
theorem off_none {Q : List En} {id : Int} (h : ¬ hasA Q id) : offA Q id = Q := List.filter_eq_self.2 fun a ha => by
  simp only [decide_eq_true_eq]; exact fun e => h ⟨a, ha, e⟩
theorem off_length {Q : List En} {id : Int} (h : hasA Q id) (hn : Nd Q) : (offA Q id).length + 1 = Q.length := by
  obtain ⟨e, he, rfl⟩ := h
  obtain ⟨s, t, rfl⟩ := List.append_of_mem he
  have hp : (e :: (s ++ t)).Perm (s ++ e :: t) := List.perm_middle.symm
  have h1 := (hp.filter fun a => decide (a.id ≠ e.id)).length_eq
  have h2 := filter_self (hn.perm hp)
  rw [offA] at h2 ⊢
  rw [← h1, h2, ← hp.length_eq]; rfl
def clrA (Q : List En) (ids : List Int) : List En := ids.foldl offA Q
theorem clrA_snoc (Q : List En) (ids : List Int) (x : Int) : clrA Q (ids ++ [x]) = offA (clrA Q ids) x := by simp [clrA]
theorem clrA_sub (Q : List En) : ∀ ids, (clrA Q ids).Sublist Q
  | [] => List.Sublist.refl _
  | x :: l => by rw [clrA, List.foldl_cons]; exact (clrA_sub (offA Q x) l).trans List.filter_sublist
theorem clrA_eq (Q : List En) (ids : List Int) : clrA Q ids = Q.filter fun e => decide (e.id ∉ ids) := by
  induction ids generalizing Q with
  | nil => exact (List.filter_eq_self.2 fun a _ => by simp).symm
  | cons x l ih =>
    rw [clrA, List.foldl_cons]
    have := ih (offA Q x)
    rw [clrA] at this
    rw [this, offA, List.filter_filter]
    congr 1; funext e
    rw [Bool.eq_iff_iff]
    simp only [Bool.and_eq_true, decide_eq_true_eq, List.mem_cons, not_or]
    exact ⟨fun h => ⟨h.2, h.1⟩, fun h => ⟨h.2, h.1⟩⟩
def dueA (t : Int) (Q : List En) : List En := Q.filter fun e => decide (e.at_ ≤ t)
def restA (t : Int) (Q : List En) : List En := Q.filter fun e => decide (¬ e.at_ ≤ t)
def ids (Q : List En) : List Int := Q.map (·.id)
theorem due_step {H : List En} {n : Nat} {f : Int → Option Value} {tn t : Int} {Q : List En} (h : AInv H n f tn Q) (h0 : 0 < n) (hle : (gE H 0).at_ ≤ t) (hb : ∀ e ∈ Q, t ≤ e.at_) :
    dueA t Q = gE H 0 :: dueA t (offA Q (gE H 0).id) ∧ restA t Q = restA t (offA Q (gE H 0).id) := by
  have hn := h.n
  have hmem : gE H 0 ∈ Q := h.pm.mem_iff.1 (gE_mem (by omega))
  have hmin : ∀ a ∈ Q, a.at_ ≤ t → (gE H 0).tn ≤ a.tn := fun a ha hat => by
    obtain ⟨k, hk⟩ := List.getElem?_of_mem (h.pm.mem_iff.2 ha)
    have hkl := (List.getElem?_eq_some_iff.1 hk).1
    have := h.hp.min k hkl
    rw [gE_of hk] at this
    have h1 := hb _ hmem
    have h2 := hb a ha
    simp only [Lt] at this; omega
  generalize gE H 0 = e at hmem hle hmin ⊢
  have hnd := h.nd
  have hpw := h.pw
  clear h hn
  obtain ⟨s, r, rfl⟩ := List.append_of_mem hmem
  have hp : (e :: (s ++ r)).Perm (s ++ e :: r) := List.perm_middle.symm
  have hsr : ∀ a ∈ s ++ r, a.id ≠ e.id := fun a ha e2 => by
    have := (List.nodup_cons.1 (hnd.perm hp)).1
    exact this (List.mem_map.2 ⟨a, ha, e2⟩)
  have hs : ∀ a ∈ s, ¬ a.at_ ≤ t := fun a ha hat => by
    have h1 := hmin a (by simp [ha]) hat
    have h2 := (List.pairwise_append.1 hpw).2.2 a ha e (by simp)
    omega
  have hoff : offA (s ++ e :: r) e.id = s ++ r := by
    rw [offA, List.filter_append, List.filter_cons_of_neg (by simp)]
    rw [List.filter_eq_self.2 (fun a ha => by simpa using hsr a (by simp [ha])), List.filter_eq_self.2 (fun a ha => by simpa using hsr a (by simp [ha]))]
  rw [hoff]
  constructor
  · rw [dueA, dueA, List.filter_append, List.filter_append, List.filter_eq_nil_iff.2 (fun a ha => by simpa using hs a ha), List.filter_cons_of_pos (by simpa using hle)]; rfl
  · rw [restA, restA, List.filter_append, List.filter_append, List.filter_cons_of_neg (by simpa using hle)]
theorem due_none {H : List En} {n : Nat} {f : Int → Option Value} {tn t : Int} {Q : List En} (h : AInv H n f tn Q) (hd : n = 0 ∨ ¬ (gE H 0).at_ ≤ t) : dueA t Q = [] ∧ restA t Q = Q := by
  have hall : ∀ a ∈ Q, ¬ a.at_ ≤ t := fun a ha => by
    obtain ⟨k, hk⟩ := List.getElem?_of_mem (h.pm.mem_iff.2 ha)
    have hkl := (List.getElem?_eq_some_iff.1 hk).1
    have := h.hp.min k hkl
    rw [gE_of hk] at this
    rcases hd with hd | hd
    · have := h.n; omega
    · simp only [Lt] at this; omega
  exact ⟨List.filter_eq_nil_iff.2 (fun a ha => by simpa using hall a ha), List.filter_eq_self.2 (fun a ha => by simpa using hall a ha)⟩
def leftA (Q : List En) (now id : Int) : Int := match Q.find? fun e => decide (e.id = id) with
  | some e => e.at_ - now
  | none => 0
theorem left_yes {Q : List En} (hn : Nd Q) {e : En} (he : e ∈ Q) (now : Int) : leftA Q now e.id = e.at_ - now := by
  have : Q.find? (fun a => decide (a.id = e.id)) = some e := by
    obtain ⟨s, r, rfl⟩ := List.append_of_mem he
    have hp : (e :: (s ++ r)).Perm (s ++ e :: r) := List.perm_middle.symm
    rw [List.find?_append, List.find?_eq_none.2 (fun a ha => ?_)]
    · simp
    · simp only [decide_eq_true_eq]
      exact fun e2 => (List.nodup_cons.1 (hn.perm hp)).1 (List.mem_map.2 ⟨a, by simp [ha], e2⟩)
  rw [leftA, this]
theorem left_no {Q : List En} {id : Int} (h : ¬ hasA Q id) (now : Int) : leftA Q now id = 0 := by
  have : Q.find? (fun a => decide (a.id = id)) = none := by
    rw [List.find?_eq_none]; intro a ha; simp only [decide_eq_true_eq]; exact fun e2 => h ⟨a, ha, e2⟩
  rw [leftA, this]
set_option maxRecDepth 4000 in
theorem new_ok  : FSpec Tryz.prog 67 [] noRd [] (fun b : Nat => .pointer (some ⟨b, 0, none⟩)) (fun _ => True) (fun b => [isAl b 0 0 []]) := by
 refine FSpec.intro (rs := [.tmp 0]) (by kernel_rfl) Tryz.func67 rfl Tryz.ntmps67 (by rfl) rfl ?_
 intro F _
 change TC _ _ _ _ _ _ _ (sepL [_])
 refine TC.seq ?_
 refine TC.region ?_
 refine wap rfl rfl ?_
 refine TL.nil (nt ?_)
 refine TC.seq ?_
 refine TC.region ?_
 refine e rfl ?_
 refine mkF encI ?_
 intro b1
 refine q rfl rfl (bld (cs := [.int _ _, .int _ _, .slice _ _ _, .map _]) rfl) ?_
 refine e rfl ?_
 refine bx (v := .agg #[_, _, _, _]) (l := [.int _ _, .int _ _, .slice _ _ _, .map _]) rfl rfl ?_
 intro b2
 refine wap rfl rfl ?_
 refine TL.nil (nt ?_)
 refine TC.ret ?_
 exact Ret.i b2 [_] ⟨rfl, trivial⟩ rfl trivial ((slc_nil 149 3 _).trans (ent_close ⟨[], 0, fun _ => none, none, 0, b1, 0⟩ (AInv.start 0) (ent_take 1 rfl (ent_take 0 rfl (ent_take 0 rfl (ent_take 0 rfl (ent_nil _)))))))
set_option maxRecDepth 4000 in
theorem left_ok (b : Nat) (now tn : Int) (Q : List En) (hb : (0 ≤ now ∧ now ≤ 1000000000000) ∧ (0 ≤ tn ∧ tn ≤ 1000000000000) ∧ Q.length ≤ 500000) (id : Int) (ht : ∀ e ∈ Q, 0 ≤ e.at_ ∧ e.at_ ≤ 2000000000000) : FSpec Tryz.prog 64 [.pointer (some ⟨b, 0, none⟩), .int .i64 id] noRd [isAl b now tn Q] (fun _ : Unit => .int .i64 (leftA Q now id)) (fun _ => True) (fun _ => [isAl b now tn Q]) := by
 refine FSpec.intro (rs := [.tmp 4]) (by kernel_rfl) Tryz.func64 rfl Tryz.ntmps64 (by rfl) rfl ?_
 intro F _
 change TC _ _ _ _ _ _ _ (sepL [_, _])
 refine TC.open 0 rfl (fun x0 hx0 => ?_)
 obtain ⟨H, n, f, ad, cap, wb, m⟩ := x0
 have hA := hx0
 change TC _ _ _ _ _ _ _ (sepL [_, _, _, _])
 dsimp only at hA ⊢
 have hHn := hA.n
 have hnQ := hA.len
 have hel := ents_length H
 by_cases hy : hasA Q id
 ·obtain ⟨j, hj, hid, hf⟩ := hA.yes hy
  have hg := gE_get (show j < H.length by omega)
  have hm := hA.pm.mem_iff.1 (gE_mem (show j < H.length by omega))
  have hbt := ht _ hm
  have hR := left_yes hA.nd hm now
  have hpl : 0 < (ents H).length := by omega
  rw [hid] at hR
  rw [hR]
  refine TC.seq ?_
  refine TC.region ?_
  refine wai rfl rfl ?_
  refine TL.nil (nt ?_)
  refine TC.seq ?_
  refine TC.seq ?_
  refine TC.region ?_
  refine wmp rfl rfl ?_
  refine q rfl rfl (eqNil rfl rfl rfl) ?_
  refine TL.nil (nt ?_)
  refine TC.condF rfl ?_
  refine TC.skip (nt ?_)
  refine TC.seq ?_
  refine TC.region ?_
  refine wmp rfl rfl ?_
  refine wnc rfl rfl ?_
  refine wfa 3 rfl rfl rfl ?_
  refine wld rfl rfl rfl rfl ?_
  refine wmi rfl rfl ?_
  refine q rfl rfl (luFO 3 3 rfl rfl (KL.int rfl) rfl rfl) ?_
  rw [hf]
  refine wmt rfl rfl ?_
  refine q rfl rfl (pu (v := .int _ _) (fun _ => rfl)) ?_
  refine q rfl rfl (pu (v := .bool _) (fun _ => rfl)) ?_
  refine wai rfl rfl ?_
  refine wab rfl rfl ?_
  refine TL.nil (nt ?_)
  refine TC.seq ?_
  refine TC.seq ?_
  refine TC.region ?_
  refine wmb rfl rfl ?_
  refine q rfl rfl (notB rfl) ?_
  refine TL.nil (nt ?_)
  refine TC.condF rfl ?_
  refine TC.skip (nt ?_)
  refine TC.seq ?_
  refine TC.draw _ [] [(0, false), (1, false), (2, false), (3, false), (4, false), (5, false), (6, false), (7, false), (8, false), (9, false), (10, false), (11, false), (12, false), (13, false), (14, false)] (by kernel_rfl) (by kernel_rfl) (ent.refl _) ?_
  refine vmp rfl rfl rfl ?_
  refine vnc rfl rfl rfl ?_
  refine vfa 2 rfl rfl rfl rfl ?_
  refine vld rfl rfl rfl rfl rfl ?_
  refine vmi rfl rfl rfl ?_
  refine dq rfl rfl rfl (ixS 149 3 rfl rfl rfl (by omega) (by assumption)) ?_
  refine dq rfl rfl rfl (faS 0 rfl rfl (by assumption)) ?_
  refine dq rfl rfl rfl (faS 0 rfl rfl (by assumption)) ?_
  refine dq rfl rfl rfl (ldS rfl rfl (flat_ld enC_sz hg 0 (by omega) rfl)) ?_
  refine vmp rfl rfl rfl ?_
  refine vnc rfl rfl rfl ?_
  refine vfa 0 rfl rfl rfl rfl ?_
  refine vld rfl rfl rfl rfl rfl ?_
  refine dq rfl rfl rfl (subI rfl rfl (by omega) (by omega)) ?_
  refine vai rfl rfl rfl ?_
  refine TD.nil (nt ?_)
  refine TC.ret ?_
  exact Ret.i () [_] ⟨rfl, trivial⟩ rfl trivial (ent_close ⟨H, n, f, ad, cap, wb, m⟩ hA (ent_take 0 rfl (ent_take 0 rfl (ent_take 0 rfl (ent_take 0 rfl (ent_nil _))))))
 ·have hf := hA.no hy
  have hR := left_no hy now
  rw [hR]
  refine TC.seq ?_
  refine TC.region ?_
  refine wai rfl rfl ?_
  refine TL.nil (nt ?_)
  refine TC.seq ?_
  refine TC.seq ?_
  refine TC.region ?_
  refine wmp rfl rfl ?_
  refine q rfl rfl (eqNil rfl rfl rfl) ?_
  refine TL.nil (nt ?_)
  refine TC.condF rfl ?_
  refine TC.skip (nt ?_)
  refine TC.seq ?_
  refine TC.region ?_
  refine wmp rfl rfl ?_
  refine wnc rfl rfl ?_
  refine wfa 3 rfl rfl rfl ?_
  refine wld rfl rfl rfl rfl ?_
  refine wmi rfl rfl ?_
  refine q rfl rfl (luFO 3 3 rfl rfl (KL.int rfl) rfl rfl) ?_
  rw [hf]
  refine wmt rfl rfl ?_
  refine q rfl rfl (pu (v := .int _ _) (fun _ => rfl)) ?_
  refine q rfl rfl (pu (v := .bool _) (fun _ => rfl)) ?_
  refine wai rfl rfl ?_
  refine wab rfl rfl ?_
  refine TL.nil (nt ?_)
  refine TC.seq ?_
  refine TC.seq ?_
  refine TC.region ?_
  refine wmb rfl rfl ?_
  refine q rfl rfl (notB rfl) ?_
  refine TL.nil (nt ?_)
  refine TC.condT rfl ?_
  refine TC.seq ?_
  refine TC.region ?_
  refine wai rfl rfl ?_
  refine TL.nil (nt ?_)
  refine TC.ret (rt ?_)
  exact Ret.i () [_] ⟨rfl, trivial⟩ rfl trivial (ent_close ⟨H, n, f, ad, cap, wb, m⟩ hA (ent_take 0 rfl (ent_take 0 rfl (ent_take 0 rfl (ent_take 0 rfl (ent_nil _))))))
set_option maxRecDepth 4000 in
theorem set_ok (b : Nat) (now tn : Int) (Q : List En) (hb : (0 ≤ now ∧ now ≤ 1000000000000) ∧ (0 ≤ tn ∧ tn ≤ 1000000000000) ∧ Q.length ≤ 500000) (id ticks : Int) : FSpec Tryz.prog 100 [.pointer (some ⟨b, 0, none⟩), .int .i64 id, .int .i64 ticks] noRd [isAl b now tn Q] (fun _ : Unit => .int .i64 (setA Q now tn id ticks).2.2) (fun _ => True) (fun _ => [isAl b now (setA Q now tn id ticks).2.1 (setA Q now tn id ticks).1]) := by
 refine FSpec.intro (rs := [.tmp 6]) (by kernel_rfl) Tryz.func100 rfl Tryz.ntmps100 (by rfl) rfl ?_
 intro F _
 change TC _ _ _ _ _ _ _ (sepL [_, _])
 refine TC.seq ?_
 refine TC.region ?_
 refine wai rfl rfl ?_
 refine TL.nil (nt ?_)
 refine TC.seq ?_
 refine TC.seq ?_
 refine TC.region ?_
 refine wmp rfl rfl ?_
 refine q rfl rfl (eqNil rfl rfl rfl) ?_
 refine wmb rfl rfl ?_
 refine TL.known 11 rfl (c := false) rfl ?_
 refine qg rfl rfl rfl (mv (v := .int _ _) rfl) ?_
 refine qg rfl rfl rfl (lss rfl rfl) ?_
 refine q rfl rfl (pkF (v := .bool _) rfl rfl) ?_
 refine wmb rfl rfl ?_
 refine TL.split 15 rfl (fun hs0 => ?_) (fun hs0 => ?_)
 ·have hs0 := of_decide_eq_true hs0
  have hR : setA Q now tn id ticks = (Q, tn, 1) := by rw [setA, if_pos (by omega)]
  rw [hR]
  dsimp only
  refine qs rfl rfl ?_
  refine qs rfl rfl ?_
  refine q rfl rfl (pkT (v := .bool _) rfl rfl) ?_
  refine wmb rfl rfl ?_
  refine qs rfl rfl ?_
  refine qs rfl rfl ?_
  refine q rfl rfl (pkT (v := .bool _) rfl rfl) ?_
  refine TL.nil (nt ?_)
  refine TC.condT rfl ?_
  refine TC.seq ?_
  refine TC.region ?_
  refine wai rfl rfl ?_
  refine TL.nil (nt ?_)
  refine TC.ret (rt ?_)
  exact Ret.i () [_] ⟨rfl, trivial⟩ rfl trivial (ent_take 0 rfl (ent_take 0 rfl (ent_nil _)))
 ·have hs0 := of_decide_eq_false hs0
  refine qg rfl rfl rfl (mv (v := .int _ _) rfl) ?_
  refine qg rfl rfl rfl (lss rfl rfl) ?_
  refine q rfl rfl (pkF (v := .bool _) rfl rfl) ?_
  refine wmb rfl rfl ?_
  refine TL.split 19 rfl (fun hs1 => ?_) (fun hs1 => ?_)
  ·have hs1 := of_decide_eq_true hs1
   have hR : setA Q now tn id ticks = (Q, tn, 1) := by rw [setA, if_pos (by omega)]
   rw [hR]
   dsimp only
   refine qs rfl rfl ?_
   refine qs rfl rfl ?_
   refine q rfl rfl (pkT (v := .bool _) rfl rfl) ?_
   refine TL.nil (nt ?_)
   refine TC.condT rfl ?_
   refine TC.seq ?_
   refine TC.region ?_
   refine wai rfl rfl ?_
   refine TL.nil (nt ?_)
   refine TC.ret (rt ?_)
   exact Ret.i () [_] ⟨rfl, trivial⟩ rfl trivial (ent_take 0 rfl (ent_take 0 rfl (ent_nil _)))
  ·have hs1 := of_decide_eq_false hs1
   refine qg rfl rfl rfl (mv (v := .int _ _) rfl) ?_
   refine qg rfl rfl rfl (gtr rfl rfl) ?_
   refine q rfl rfl (pkF (v := .bool _) rfl rfl) ?_
   refine TL.nil (nt ?_)
   refine TC.condD rfl (fun hs2 => ?_) (fun hs2 => ?_)
   ·have hR : setA Q now tn id ticks = (Q, tn, 1) := by rw [setA, if_pos (by omega)]
    rw [hR]
    dsimp only
    refine TC.seq ?_
    refine TC.region ?_
    refine wai rfl rfl ?_
    refine TL.nil (nt ?_)
    refine TC.ret (rt ?_)
    exact Ret.i () [_] ⟨rfl, trivial⟩ rfl trivial (ent_take 0 rfl (ent_take 0 rfl (ent_nil _)))
   ·by_cases hy : hasA Q id
    ·have hR : setA Q now tn id ticks = (Q, tn, 7) := by rw [setA, if_neg (by omega), if_pos hy]
     rw [hR]
     dsimp only
     refine TC.open 0 rfl (fun x0 hx0 => ?_)
     obtain ⟨H, n, f, ad, cap, wb, m⟩ := x0
     have hA := hx0
     change TC _ _ _ _ _ _ _ (sepL [_, _, _, _])
     dsimp only at hA ⊢
     have hHn := hA.n
     have hnQ := hA.len
     have hel := ents_length H
     obtain ⟨j, hj, hid, hf⟩ := hA.yes hy
     refine TC.skip (nt ?_)
     refine TC.seq ?_
     refine TC.seq ?_
     refine TC.region ?_
     refine wmp rfl rfl ?_
     refine wnc rfl rfl ?_
     refine wfa 3 rfl rfl rfl ?_
     refine wld rfl rfl rfl rfl ?_
     refine wmi rfl rfl ?_
     refine q rfl rfl (luFO 3 3 rfl rfl (KL.int rfl) rfl rfl) ?_
     rw [hf]
     refine wmt rfl rfl ?_
     refine q rfl rfl (pu (v := .int _ _) (fun _ => rfl)) ?_
     refine q rfl rfl (pu (v := .bool _) (fun _ => rfl)) ?_
     refine wai rfl rfl ?_
     refine wab rfl rfl ?_
     refine TL.nil (nt ?_)
     refine TC.seq ?_
     refine TC.region ?_
     refine wmb rfl rfl ?_
     refine TL.nil (nt ?_)
     refine TC.condT rfl ?_
     refine TC.seq ?_
     refine TC.region ?_
     refine wai rfl rfl ?_
     refine TL.nil (nt ?_)
     refine TC.ret (rt ?_)
     exact Ret.i () [_] ⟨rfl, trivial⟩ rfl trivial (ent_close ⟨H, n, f, ad, cap, wb, m⟩ hA (ent_take 0 rfl (ent_take 0 rfl (ent_take 0 rfl (ent_take 0 rfl (ent_nil _))))))
    ·have hR : setA Q now tn id ticks = (Q ++ [⟨now + ticks, tn + 1, id⟩], tn + 1, 0) := by rw [setA, if_neg (by omega), if_neg hy]
     rw [hR]
     dsimp only
     refine TC.open 0 rfl (fun x0 hx0 => ?_)
     obtain ⟨H, n, f, ad, cap, wb, m⟩ := x0
     have hA := hx0
     change TC _ _ _ _ _ _ _ (sepL [_, _, _, _])
     dsimp only at hA ⊢
     have hHn := hA.n
     have hnQ := hA.len
     have hel := ents_length H
     have hf := hA.no hy
     refine TC.skip (nt ?_)
     refine TC.seq ?_
     refine TC.seq ?_
     refine TC.region ?_
     refine wmp rfl rfl ?_
     refine wnc rfl rfl ?_
     refine wfa 3 rfl rfl rfl ?_
     refine wld rfl rfl rfl rfl ?_
     refine wmi rfl rfl ?_
     refine q rfl rfl (luFO 3 3 rfl rfl (KL.int rfl) rfl rfl) ?_
     rw [hf]
     refine wmt rfl rfl ?_
     refine q rfl rfl (pu (v := .int _ _) (fun _ => rfl)) ?_
     refine q rfl rfl (pu (v := .bool _) (fun _ => rfl)) ?_
     refine wai rfl rfl ?_
     refine wab rfl rfl ?_
     refine TL.nil (nt ?_)
     refine TC.seq ?_
     refine TC.region ?_
     refine wmb rfl rfl ?_
     refine TL.nil (nt ?_)
     refine TC.condF rfl ?_
     refine TC.skip (nt ?_)
     refine TC.seq ?_
     refine TC.region ?_
     refine wmp rfl rfl ?_
     refine wnc rfl rfl ?_
     refine wfa 1 rfl rfl rfl ?_
     refine wld rfl rfl rfl rfl ?_
     refine q rfl rfl (addI rfl rfl (by omega) (by omega)) ?_
     refine wnc rfl rfl ?_
     refine wfa 1 rfl rfl rfl ?_
     refine e0 ?_
     refine st (v := .int _ _) (vs := [_]) 1 rfl rfl rfl rfl rfl rfl (Nat.le_of_ble_eq_true rfl) rfl ?_
     refine TL.nil (nt ?_)
     refine TC.seq ?_
     refine TC.draw _ [22] [(0, false), (1, false), (2, false), (3, false), (4, false), (5, false), (6, false), (7, false), (8, false), (9, false), (10, false), (11, false), (12, false), (13, false), (14, false), (15, false), (16, false), (17, false), (18, true), (19, true), (20, false), (21, false), (22, true)] (by kernel_rfl) (by kernel_rfl) (ent_take 0 rfl (ent_nil _)) ?_
     refine vmp rfl rfl rfl ?_
     refine vmp rfl rfl rfl ?_
     refine vnc rfl rfl rfl ?_
     refine vfa 2 rfl rfl rfl rfl ?_
     refine vld rfl rfl rfl rfl rfl ?_
     refine vmp rfl rfl rfl ?_
     refine vnc rfl rfl rfl ?_
     refine vfa 0 rfl rfl rfl rfl ?_
     refine vld rfl rfl rfl rfl rfl ?_
     refine vmi rfl rfl rfl ?_
     refine dq rfl rfl rfl (addI rfl rfl (by omega) (by omega)) ?_
     refine vmp rfl rfl rfl ?_
     refine vnc rfl rfl rfl ?_
     refine vfa 1 rfl rfl rfl rfl ?_
     refine vld rfl rfl rfl rfl rfl ?_
     refine dq rfl rfl rfl (bld (cs := ints [_, _]) rfl) ?_
     refine vmi rfl rfl rfl ?_
     refine dq rfl rfl rfl (bld (cs := ints [_, _, _]) rfl) ?_
     refine de rfl rfl ?_
     refine bs (cs := ints [_, _, _]) rfl ?_
     intro b3
     refine ⟨(ent_take 1 rfl (ent_nil _)), ?_⟩
     refine de rfl rfl ?_
     refine ap 24 rfl rfl rfl rfl rfl (Nat.le_of_ble_eq_true rfl) (show _ = enC ⟨now + ticks, tn + 1, id⟩ from rfl) rfl (by omega) (by simp only [maxLen]; omega) ?_
     intro ad1 cap1
     refine ⟨(ent_take 2 rfl (ent_nil _)), ?_⟩
     refine vnc rfl rfl rfl ?_
     refine vfa 2 rfl rfl rfl rfl ?_
     refine dl0 rfl rfl rfl ?_
     refine st (v := .slice _ _ _) (vs := [_]) 1 rfl rfl rfl rfl rfl rfl (Nat.le_of_ble_eq_true rfl) rfl ?_
     refine TD.nil (nt ?_)
     refine TC.seq ?_
     refine TC.region ?_
     refine wmp rfl rfl ?_
     refine wmp rfl rfl ?_
     refine wnc rfl rfl ?_
     refine wfa 2 rfl rfl rfl ?_
     refine wld rfl rfl rfl rfl ?_
     refine q rfl rfl (len 149 3 rfl rfl) ?_
     refine q rfl rfl (subI rfl rfl (by omega) (by omega)) ?_
     rw [show (((n + 1 : Nat) : Int) - 1) = (n : Int) from by omega]
     rw [← ents_snoc]
     refine e rfl ?_
     refine cl (up_ok b now (tn + 1) (H ++ [⟨now + ticks, tn + 1, id⟩]) ad1 (n + 1) cap1 wb m f n (by rw [List.length_append, hHn]; rfl) (by omega) (by omega) (by have := snoc_hole hA.hp ⟨now + ticks, tn + 1, id⟩; rwa [hHn] at this) (by have := snoc_wh hA.wh ⟨now + ticks, tn + 1, id⟩; rwa [hHn] at this) (snoc_nd hA.ndH fun a ha e2 => hy ⟨a, hA.pm.mem_iff.1 ha, e2⟩)) rfl (picked_cons 0 rfl (picked_cons 0 rfl (picked_cons 1 rfl (picked_nil _)))) trivial ?_
     intro ⟨H4, f4, m4⟩ ⟨hh4, hw4, hp4⟩
     change TL _ _ _ _ _ _ _ _ (sepL [_, _, _, _, _])
     dsimp only at hh4 hw4 hp4 ⊢
     refine TL.nil (nt ?_)
     refine TC.seq ?_
     refine TC.region ?_
     refine wai rfl rfl ?_
     refine TL.nil (nt ?_)
     refine TC.ret ?_
     exact Ret.i () [_] ⟨rfl, trivial⟩ rfl trivial (ent_close ⟨H4, n + 1, f4, ad1, cap1, wb, m4⟩ (hA.set rfl hy hh4 hw4 hp4) (ent_take 0 rfl (ent_take 0 rfl (ent_take 0 rfl (ent_take 1 rfl (ent_nil _))))))
set_option maxRecDepth 4000 in
theorem clear_ok (b : Nat) (now tn : Int) (Q : List En) (hb : (0 ≤ now ∧ now ≤ 1000000000000) ∧ (0 ≤ tn ∧ tn ≤ 1000000000000) ∧ Q.length ≤ 500000) (a2 : Option Addr) (c2 : Nat) (xs : List Int) (hx : xs.length ≤ 1000000) : FSpec Tryz.prog 49 [.pointer (some ⟨b, 0, none⟩), .slice a2 xs.length c2] (fun F => ∃ E, RdS F E a2 (ints xs)) [isAl b now tn Q] (fun _ : Unit => .int .i64 ((Q.length : Int) - (clrA Q xs).length)) (fun _ => True) (fun _ => [isAl b now tn (clrA Q xs)]) := by
 refine FSpec.intro (rs := [.tmp 4]) (by kernel_rfl) Tryz.func49 rfl Tryz.ntmps49 (by rfl) rfl ?_
 intro F ⟨E, hF⟩
 change TC _ _ _ _ _ _ _ (sepL [_, _])
 haveI : RdSI F a2 E (ints xs) := ⟨hF⟩
 have hxl := ints_length xs
 refine TC.seq ?_
 refine TC.region ?_
 refine wai rfl rfl ?_
 refine TL.nil (nt ?_)
 refine TC.seq ?_
 refine TC.region ?_
 refine wai rfl rfl ?_
 refine TL.nil (nt ?_)
 refine TC.seq ?_
 refine TC.seq ?_
 refine TC.region ?_
 refine wms rfl rfl ?_
 refine q rfl rfl (len 3 1 rfl rfl) ?_
 refine wmi rfl rfl ?_
 refine TL.nil (nt ?_)
 refine TC.block ?_
 refine TC.loop (ι := Nat × List En) (fun s => s.1 ≤ xs.length ∧ s.2 = clrA Q (xs.take s.1)) (fun s => [(0, .pointer (some ⟨b, 0, none⟩)), (5, .int .i64 ((Q.length : Int) - (s.2.length : Int))), (10, .slice a2 xs.length c2), (11, .int .i64 xs.length), (12, .int .i64 ((s.1 : Nat) : Int))]) (fun s => sepL [isAl b now tn s.2, F]) (fun s => xs.length - s.1) ⟨0, Q⟩ ⟨Nat.zero_le _, rfl⟩ ⟨rfl, congrArg (Value.int .i64) (Int.sub_self _).symm, rfl, rfl, rfl, trivial⟩ (ent_take 0 rfl (ent_take 0 rfl (ent_nil _))) ?_
 rintro ⟨k, Z⟩ ⟨hk, hZ⟩ ρ0
 dsimp only [updL] at hk hZ ⊢
 refine TC.seq ?_
 refine TC.region ?_
 refine q rfl rfl (lss rfl rfl) ?_
 refine TL.nil (nt ?_)
 refine TC.seq ?_
 refine TC.condD rfl (fun hlt => ?_) (fun hlt => ?_)
 ·have hkx : k < xs.length := by omega
  obtain ⟨x, hxk⟩ : ∃ x, xs[k]? = some x := ⟨xs[k], List.getElem?_eq_getElem hkx⟩
  have hpos : 0 < (ints xs).length := by omega
  have htk : clrA Q (xs.take (k + 1)) = offA Z x := by rw [List.take_add_one, hxk, Option.toList, clrA_snoc, hZ]
  have hZl : Z.length ≤ Q.length := by rw [hZ]; exact (clrA_sub Q _).length_le
  refine TC.skip (nt ?_)
  refine TC.seq ?_
  refine TC.block ?_
  refine TC.seq ?_
  refine TC.region ?_
  refine q rfl rfl (ixS 3 1 rfl rfl rfl (by omega) (by assumption)) ?_
  refine q rfl rfl (ldS rfl rfl (ints_get hxk)) ?_
  refine wai rfl rfl ?_
  refine TL.nil (nt ?_)
  refine TC.seq ?_
  refine TC.seq ?_
  refine TC.open 0 rfl (fun x0 hx0 => ?_)
  obtain ⟨H, n, f, ad, cap, wb, m⟩ := x0
  have hA := hx0
  change TC _ _ _ _ _ _ _ (sepL [_, _, _, _])
  dsimp only at hA ⊢
  have hHn := hA.n
  have hnQ := hA.len
  have hel := ents_length H
  refine TC.region ?_
  refine wmp rfl rfl ?_
  refine q rfl rfl (eqNil rfl rfl rfl) ?_
  refine TL.nil (nt ?_)
  refine TC.condF rfl ?_
  by_cases hy : hasA Z x
  ·obtain ⟨j, hj, hid, hf⟩ := hA.yes hy
   obtain ⟨n, rfl⟩ : ∃ z, n = z + 1 := ⟨n - 1, by omega⟩
   have hol := off_length hy hA.nd
   refine TC.skip (nt ?_)
   refine TC.seq ?_
   refine TC.region ?_
   refine wmp rfl rfl ?_
   refine wnc rfl rfl ?_
   refine wfa 3 rfl rfl rfl ?_
   refine wld rfl rfl rfl rfl ?_
   refine wmi rfl rfl ?_
   refine q rfl rfl (luFO 3 3 rfl rfl (KL.int rfl) rfl rfl) ?_
   rw [hf]
   refine wmt rfl rfl ?_
   refine q rfl rfl (pu (v := .int _ _) (fun _ => rfl)) ?_
   refine q rfl rfl (pu (v := .bool _) (fun _ => rfl)) ?_
   refine wai rfl rfl ?_
   refine wab rfl rfl ?_
   refine TL.nil (nt ?_)
   refine TC.seq ?_
   refine TC.region ?_
   refine wmb rfl rfl ?_
   refine TL.nil (nt ?_)
   refine TC.condT rfl ?_
   refine TC.seq ?_
   refine TC.region ?_
   refine wmp rfl rfl ?_
   refine wmi rfl rfl ?_
   refine e rfl ?_
   refine cl (cut_ok b now tn H ad n cap wb m f j hHn (by omega) (by omega) hA.hp hA.wh hA.ndH) rfl (picked_cons 0 rfl (picked_cons 0 rfl (picked_cons 0 rfl (picked_nil _)))) trivial ?_
   intro ⟨H4, f4, m4⟩ ⟨hl4, hh4, hw4, hp4⟩
   change TL _ _ _ _ _ _ _ _ (sepL [_, _, _, _])
   dsimp only at hl4 hh4 hw4 hp4 ⊢
   refine TL.nil (nt ?_)
   refine TC.region ?_
   refine wmi rfl rfl ?_
   refine q rfl rfl (addI rfl rfl (by omega) (by omega)) ?_
   refine wai rfl rfl ?_
   refine TL.nil (nb (nt ?_))
   refine TC.region ?_
   refine q rfl rfl (addI rfl rfl (by omega) (by omega)) ?_
   refine wmi rfl rfl ?_
   refine TL.nil (nt ?_)
   exact ⟨rfl, ⟨k + 1, offA Z x⟩, ⟨by dsimp only; omega, htk.symm⟩, (by dsimp only; omega), ⟨rfl, congrArg (Value.int .i64) (by dsimp only; omega), rfl, rfl, rfl, trivial⟩, (ent_close ⟨H4, n, f4, ad, cap, wb, m4⟩ (hA.off hid hl4 hh4 hw4 hp4) (ent_take 0 rfl (ent_take 0 rfl (ent_take 0 rfl (ent_take 0 rfl (ent_nil _))))))⟩
  ·have hf := hA.no hy
   have hon := off_none hy
   refine TC.skip (nt ?_)
   refine TC.seq ?_
   refine TC.region ?_
   refine wmp rfl rfl ?_
   refine wnc rfl rfl ?_
   refine wfa 3 rfl rfl rfl ?_
   refine wld rfl rfl rfl rfl ?_
   refine wmi rfl rfl ?_
   refine q rfl rfl (luFO 3 3 rfl rfl (KL.int rfl) rfl rfl) ?_
   rw [hf]
   refine wmt rfl rfl ?_
   refine q rfl rfl (pu (v := .int _ _) (fun _ => rfl)) ?_
   refine q rfl rfl (pu (v := .bool _) (fun _ => rfl)) ?_
   refine wai rfl rfl ?_
   refine wab rfl rfl ?_
   refine TL.nil (nt ?_)
   refine TC.seq ?_
   refine TC.region ?_
   refine wmb rfl rfl ?_
   refine TL.nil (nt ?_)
   refine TC.condF rfl ?_
   refine TC.skip (nb (nt ?_))
   refine TC.region ?_
   refine q rfl rfl (addI rfl rfl (by omega) (by omega)) ?_
   refine wmi rfl rfl ?_
   refine TL.nil (nt ?_)
   exact ⟨rfl, ⟨k + 1, Z⟩, ⟨by dsimp only; omega, by dsimp only; rw [htk, hon]⟩, (by dsimp only; omega), ⟨rfl, rfl, rfl, rfl, rfl, trivial⟩, (ent_close ⟨H, n, f, ad, cap, wb, m⟩ hA (ent_take 0 rfl (ent_take 0 rfl (ent_take 0 rfl (ent_take 0 rfl (ent_nil _))))))⟩
 ·obtain rfl : k = xs.length := by omega
  rw [List.take_length] at hZ
  subst hZ
  refine TC.exit (et (et (eb (nt ?_))))
  refine TC.seq ?_
  refine TC.region ?_
  refine wmi rfl rfl ?_
  refine wai rfl rfl ?_
  refine TL.nil (nt ?_)
  refine TC.ret ?_
  exact Ret.i () [_] ⟨rfl, trivial⟩ rfl trivial (ent_take 0 rfl (ent_take 0 rfl (ent_nil _)))
set_option maxRecDepth 4000 in
theorem tick_ok (b : Nat) (now tn : Int) (Q : List En) (hb : (0 ≤ now ∧ now ≤ 1000000000000) ∧ (0 ≤ tn ∧ tn ≤ 1000000000000) ∧ Q.length ≤ 500000) (ht : ∀ e ∈ Q, now < e.at_ ∧ e.at_ ≤ 2000000000000) : FSpec Tryz.prog 58 [.pointer (some ⟨b, 0, none⟩)] noRd [isAl b now tn Q] (fun y : Option Addr × Nat => .slice y.1 (ids (dueA (now + 1) Q)).length y.2) (fun _ => True) (fun y => [slc 3 1 y.1 (ids (dueA (now + 1) Q)).length y.2 (ints (ids (dueA (now + 1) Q))), isAl b (now + 1) tn (restA (now + 1) Q)]) := by
 refine FSpec.intro (rs := [.tmp 2]) (by kernel_rfl) Tryz.func58 rfl Tryz.ntmps58 (by rfl) rfl ?_
 intro F _
 change TC _ _ _ _ _ _ _ (sepL [_, _])
 refine TC.seq ?_
 refine TC.region ?_
 refine was rfl rfl ?_
 refine TL.nil (nt ?_)
 refine TC.seq ?_
 refine TC.region ?_
 refine was rfl rfl ?_
 refine TL.nil (nt ?_)
 refine TC.seq ?_
 refine TC.seq ?_
 refine TC.region ?_
 refine wmp rfl rfl ?_
 refine q rfl rfl (eqNil rfl rfl rfl) ?_
 refine TL.nil (nt ?_)
 refine TC.condF rfl ?_
 refine TC.skip (nt ?_)
 refine TC.seq ?_
 refine TC.open 0 rfl (fun x0 hx0 => ?_)
 obtain ⟨H, n, f, ad, cap, wb, m⟩ := x0
 have hA := hx0
 change TC _ _ _ _ _ _ _ (sepL [_, _, _, _])
 dsimp only at hA ⊢
 refine TC.region ?_
 refine wmp rfl rfl ?_
 refine wnc rfl rfl ?_
 refine wfa 0 rfl rfl rfl ?_
 refine wld rfl rfl rfl rfl ?_
 refine q rfl rfl (addI rfl rfl (by omega) (by omega)) ?_
 refine wnc rfl rfl ?_
 refine wfa 0 rfl rfl rfl ?_
 refine e0 ?_
 refine st (v := .int _ _) (vs := [_]) 1 rfl rfl rfl rfl rfl rfl (Nat.le_of_ble_eq_true rfl) rfl ?_
 refine TL.nil (nt ?_)
 refine TC.seq ?_
 refine TC.block ?_
 refine TC.loop (ι := List En × List Int × Option Addr × Nat) (fun s => s.1.Sublist Q ∧ s.2.1 ++ ids (dueA (now + 1) s.1) = ids (dueA (now + 1) Q) ∧ restA (now + 1) s.1 = restA (now + 1) Q) (fun s => [(0, .pointer (some ⟨b, 0, none⟩)), (3, .slice s.2.2.1 s.2.1.length s.2.2.2)]) (fun s => sepL [slc 3 1 s.2.2.1 s.2.1.length s.2.2.2 (ints s.2.1), isAl b (now + 1) tn s.1, F]) (fun s => s.1.length) ⟨Q, [], none, 0⟩ ⟨List.Sublist.refl _, rfl, rfl⟩ ⟨rfl, rfl, trivial⟩ ((slc_nil 3 1 _).trans (ent_takeE 0 rfl (by rfl) (ent_close ⟨H, n, f, ad, cap, wb, m⟩ hA (ent_take 0 rfl (ent_take 0 rfl (ent_take 0 rfl (ent_take 0 rfl (ent_nil _)))))))) ?_
 rintro ⟨Z, o, oa, oc⟩ ⟨hs, ho, hr⟩ ρ0
 dsimp only [updL] at hs ho hr ⊢
 have hZl := hs.length_le
 have hol := congrArg List.length ho
 rw [List.length_append] at hol
 have hdl : (ids (dueA (now + 1) Q)).length ≤ Q.length := by rw [ids, List.length_map]; exact List.length_filter_le _ _
 clear hA
 refine TC.open 1 rfl (fun x0 hx0 => ?_)
 obtain ⟨H, n, f, ad, cap, wb, m⟩ := x0
 have hA := hx0
 change TC _ _ _ _ _ _ _ (sepL [_, _, _, _, _])
 dsimp only at hA ⊢
 have hHn := hA.n
 have hnQ := hA.len
 have hel := ents_length H
 refine TC.seq ?_
 refine TC.seq ?_
 refine TC.draw _ [] [(0, false), (1, false), (2, false), (3, false), (4, false), (5, false), (6, false), (7, false), (8, false), (9, false), (10, false), (11, false), (12, false), (13, false), (14, false), (15, false), (16, false), (17, false), (18, false), (19, false), (20, false)] (by kernel_rfl) (by kernel_rfl) (ent.refl _) ?_
 refine vmp rfl rfl rfl ?_
 refine vnc rfl rfl rfl ?_
 refine vfa 2 rfl rfl rfl rfl ?_
 refine vld rfl rfl rfl rfl rfl ?_
 refine dq rfl rfl rfl (len 149 3 rfl rfl) ?_
 refine dq rfl rfl rfl (gtr rfl rfl) ?_
 refine vmb rfl rfl rfl ?_
 refine TD.split 19 rfl (fun h0 => ?_) (fun h0 => ?_)
 ·have h0 := of_decide_eq_true h0
  have hg := gE_get (show 0 < H.length by omega)
  have hpl : 0 < (ents H).length := by omega
  refine dg rfl rfl rfl rfl (mv (v := .pointer _) rfl) ?_
  refine dg rfl rfl rfl rfl (nc rfl) ?_
  refine dg rfl rfl rfl rfl (fa 2 rfl rfl) ?_
  refine dg rfl rfl rfl rfl (ld rfl rfl rfl) ?_
  refine dg rfl rfl rfl rfl (ixJ 149 3 rfl rfl rfl (by omega) (by omega) (by assumption)) ?_
  refine dg rfl rfl rfl rfl (faS 0 rfl rfl (by assumption)) ?_
  refine dg rfl rfl rfl rfl (faS 0 rfl rfl (by assumption)) ?_
  refine dg rfl rfl rfl rfl (ldS rfl rfl (flat_ld enC_sz hg 0 (by omega) rfl)) ?_
  refine dg rfl rfl rfl rfl (mv (v := .pointer _) rfl) ?_
  refine dg rfl rfl rfl rfl (nc rfl) ?_
  refine dg rfl rfl rfl rfl (fa 0 rfl rfl) ?_
  refine dg rfl rfl rfl rfl (ld rfl rfl rfl) ?_
  refine dg rfl rfl rfl rfl (leq rfl rfl) ?_
  refine dq rfl rfl rfl (pkT (v := .bool _) rfl rfl) ?_
  refine TD.nil (nt ?_)
  refine TC.condD rfl (fun hd => ?_) (fun hd => ?_)
  ·obtain ⟨d1, d2⟩ := due_step hA (by omega) hd (fun a ha => by have := ht a (hs.subset ha); omega)
   obtain ⟨n, rfl⟩ : ∃ z, n = z + 1 := ⟨n - 1, by omega⟩
   have hofl := off_length ⟨_, hA.pm.mem_iff.1 (gE_mem (show 0 < H.length by omega)), rfl⟩ hA.nd
   refine TC.skip (nt ?_)
   refine TC.block ?_
   refine TC.region ?_
   refine wms rfl rfl ?_
   refine wmp rfl rfl ?_
   refine e rfl ?_
   refine cl (cut_ok b (now + 1) tn H ad n cap wb m f 0 hHn (by omega) (by omega) hA.hp hA.wh hA.ndH) rfl (picked_cons 0 rfl (picked_cons 0 rfl (picked_cons 0 rfl (picked_nil _)))) trivial ?_
   intro ⟨H4, f4, m4⟩ ⟨hl4, hh4, hw4, hp4⟩
   change TL _ _ _ _ _ _ _ _ (sepL [_, _, _, _, _])
   dsimp only at hl4 hh4 hw4 hp4 ⊢
   refine q rfl rfl (pu (v := .int _ _) (fun _ => rfl)) ?_
   refine e rfl ?_
   refine bs (cs := [.int _ _]) rfl ?_
   intro b4
   have hdl1 := congrArg List.length d1
   rw [List.length_cons] at hdl1
   rw [ids, List.length_map] at hol
   refine e rfl ?_
   refine ap 8 rfl rfl rfl rfl rfl (Nat.le_of_ble_eq_true rfl) (show _ = ints [(gE H 0).id] from rfl) rfl (by omega) (by simp only [maxLen]; omega) ?_
   intro ad2 cap2
   refine was rfl rfl ?_
   refine TL.nil (nb (nt ?_))
   exact ⟨rfl, ⟨offA Z (gE H 0).id, o ++ [(gE H 0).id], ad2, cap2⟩, ⟨List.filter_sublist.trans hs, by dsimp only; rw [← ho, d1]; simp [ids], by dsimp only; rw [← hr, d2]⟩, (by dsimp only; omega), ⟨rfl, congrArg (fun n => Value.slice _ n _) (by simp), trivial⟩, (ent_takeE 0 rfl (by simp [ints]) (ent_close ⟨H4, n, f4, ad, cap, wb, m4⟩ (hA.off rfl hl4 hh4 hw4 hp4) (ent_take 1 rfl (ent_take 1 rfl (ent_take 1 rfl (ent_take 1 rfl (ent_nil _)))))))⟩
  ·have hdn := due_none (t := now + 1) hA (.inr hd)
   obtain ⟨d1, d2⟩ := hdn
   rw [d1] at ho
   rw [ids, List.map_nil, List.append_nil] at ho
   rw [d2] at hr
   refine TC.exit (et (et (eb (nt ?_))))
   refine TC.seq ?_
   refine TC.region ?_
   refine wms rfl rfl ?_
   refine was rfl rfl ?_
   refine TL.nil (nt ?_)
   refine TC.ret ?_
   exact Ret.i ⟨oa, oc⟩ [_] ⟨rfl, trivial⟩ (by rw [← ho]; rfl) trivial (ent_takeE 3 rfl (by rw [← ho]) (ent_close ⟨H, n, f, ad, cap, wb, m⟩ (by rw [← hr]; exact hA) (ent_take 0 rfl (ent_take 0 rfl (ent_take 0 rfl (ent_take 0 rfl (ent_nil _)))))))
 ·have h0 := of_decide_eq_false h0
  have hdn := due_none (t := now + 1) hA (.inl (by omega))
  refine dk rfl rfl rfl rfl ?_
  refine dk rfl rfl rfl rfl ?_
  refine dk rfl rfl rfl rfl ?_
  refine dk rfl rfl rfl rfl ?_
  refine dk rfl rfl rfl rfl ?_
  refine dk rfl rfl rfl rfl ?_
  refine dk rfl rfl rfl rfl ?_
  refine dk rfl rfl rfl rfl ?_
  refine dk rfl rfl rfl rfl ?_
  refine dk rfl rfl rfl rfl ?_
  refine dk rfl rfl rfl rfl ?_
  refine dk rfl rfl rfl rfl ?_
  refine dk rfl rfl rfl rfl ?_
  refine dq rfl rfl rfl (pkF (v := .bool _) rfl rfl) ?_
  refine TD.nil (nt ?_)
  refine TC.condF rfl ?_
  obtain ⟨d1, d2⟩ := hdn
  rw [d1] at ho
  rw [ids, List.map_nil, List.append_nil] at ho
  rw [d2] at hr
  refine TC.exit (et (et (eb (nt ?_))))
  refine TC.seq ?_
  refine TC.region ?_
  refine wms rfl rfl ?_
  refine was rfl rfl ?_
  refine TL.nil (nt ?_)
  refine TC.ret ?_
  exact Ret.i ⟨oa, oc⟩ [_] ⟨rfl, trivial⟩ (by rw [← ho]; rfl) trivial (ent_takeE 3 rfl (by rw [← ho]) (ent_close ⟨H, n, f, ad, cap, wb, m⟩ (by rw [← hr]; exact hA) (ent_take 0 rfl (ent_take 0 rfl (ent_take 0 rfl (ent_take 0 rfl (ent_nil _)))))))
end Go.Proofs.YtdfmfhcjnjfjbaaGreat.Al
namespace Go.QM
open Go
section
variable {P : Program} {b : Frame} {a : Act} {k : List Item} {cs : List Frame} {w : World}
end
def Jmp (l : Nat) (J : Env → List Deferred → HP → Prop) (Q : Post) : Post
  | .goto l', ρ, ds, A => l' = l ∧ J ρ ds A
  | e, ρ, ds, A => Q e ρ ds A
section
variable {r : Option Nat} {P : Program} {N : Nat} {Q : Post} {ρ : Env} {ds : List Deferred} {A : HP}
theorem TC.enter {ι : Type} {c : Code} {inv : ι → Prop} {L : ι → List (Nat × Value)} {B : ι → HP} (h : ∀ i, inv i → ∀ ρ', TC r P N c Q (updL ρ' (L i)) ds (B i)) (i0 : ι) (h0 : inv i0) (hl : holdsL ρ (L i0)) (he : ent A (B i0)) :
    TC r P N c Q ρ ds A := by
  have := h i0 h0 ρ
  rw [updL_holds hl] at this
  exact this.weak he
variable {K : Env → List Deferred → HP → Prop} {i j : Nat}
theorem jn (h : Q .normal ρ ds A) : Jmp i K Q .normal ρ ds A := h
theorem gt (h : Q (.goto j) ρ ds A) : Thn K Q (.goto j) ρ ds A := h
end
end Go.QM
namespace Go.QM
open Go
section
variable {r : Option Nat} {P : Program} {N : Nat} {ops : Array Oper} {Q : Post} {ρ : Env} {ds : List Deferred} {A I : HP} {T : List Nat} {c : List (Nat × Bool)} {listed : Array Bool} {m : Nat}
def okQ (ops : Array Oper) (T : List Nat) (listed : Array Bool) (i : Nat) : Bool := (Region.ready .any ops listed).contains i && Region.free .any ops listed i && T.all (fun j => anc ops 9 j i)
def TF (r : Option Nat) (P : Program) (N : Nat) (ops : Array Oper) (I : HP) (T : List Nat) (listed : Array Bool) (m : Nat) (Q : Post) (ρ : Env) (ds : List Deferred) (A : HP) : Prop :=
  ∀ a w, Rep N a ρ ds → sat w A → sat w I → Closed ops listed → Region.noSelect ops = true → (∀ (j : Nat) (o : Oper), ops[j]? = some o → notDefer o.op = true) →
    wpAnyI (FR r) 0 P ops (Np (wq N w Q)) (fun w => sat w I) T m listed a w
theorem TF.of (c : List (Nat × Bool)) (hB : canonB ops T c listed = true) (hm : c.length = m) (h : TD r P N ops I T c Q ρ ds A) : TF r P N ops I T listed m Q ρ ds A := by
  intro a w hr hs hI hc hsel hnd
  subst hm
  exact h a w listed hr hs ⟨w, hI⟩ (.inl hI) hc hsel hnd hB
theorem TF.weak {B : HP} (e : ent A B) (h : TF r P N ops I T listed m Q ρ ds B) : TF r P N ops I T listed m Q ρ ds A := fun a w x y => h a w x (y.weak e)
theorem TF.quiet {i : Nat} {o : Oper} {v : Value} (ho : ops[i]? = some o) (hd : inB N o.dst = true) (hq : okQ ops T listed i = true)
    (hy : ∀ a, Rep N a ρ ds → YieldsI P ops (fun w => sat w I) o v a) (h : TF r P N ops I T (listed.setIfInBounds i true) m Q (updO ρ o.dst v) ds A) : TF r P N ops I T listed (m + 1) Q ρ ds A := by
  intro a w hr hs hI hc hsel hnd
  simp only [okQ, Bool.and_eq_true] at hq
  obtain ⟨⟨hr1, hf⟩, hT⟩ := hq
  have hir : i ∈ Region.ready .any ops listed := by simpa using hr1
  have := h (a.put o.dst v) w (hr.put hd v) hs hI (hc.set hir) hsel hnd
  exact wpAnyI_first (FR_fn r) ho (Region.noSelect_spec hsel) hnd (fun c a w h => h.elim) (.inr ⟨rfl, fun j hj => List.all_eq_true.1 hT j hj⟩) m listed a w hc (Region.free_spec ho hf) hir (hy a hr) hI this
theorem TF.step {i : Nat} {o : Oper} (ho : ops[i]? = some o) (hg : o.guard = none) (hd : inB N o.dst = true)
    (h : OW r P ρ o A (fun v A' => ent A' I ∧ TF r P N ops I T (listed.setIfInBounds i true) m Q (updO ρ o.dst v) ds A')) {a : Act} {w : World} (hr : Rep N a ρ ds) (hs : sat w A) (hc : Closed ops listed)
    (hsel : Region.noSelect ops = true) (hnd : ∀ (j : Nat) (o : Oper), ops[j]? = some o → notDefer o.op = true) (hir : i ∈ Region.ready .any ops listed) :
    wpOpIn (FR r) 0 P ops (Np (wq N w Q)) i (fun a' w' => (i ∉ T → sat w I → sat w' I) ∧ wpAnyI (FR r) 0 P ops (Np (wq N w Q)) (fun w => sat w I) T m (listed.setIfInBounds i true) a' w') a w := by
  unfold wpOpIn
  rw [ho]
  simp only []
  rw [if_pos (by simp [Region.wanted, hg])]
  refine Oper.wpIn_mono2 ?_ (h a w hr.eval hs)
  rintro a' w' ⟨v, A', rfl, s, hs', hk1, hk⟩
  have hgo := hk _ w' (hr.put hd v) hs' (hs'.weak hk1) (hc.set hir) hsel hnd
  have hmono : ∀ e a w'', Np (wq N w' Q) e a w'' → Np (wq N w Q) e a w'' := fun e a w'' h => Np_mono s h
  exact ⟨fun _ _ => hs'.weak hk1, wpAnyI_mono hmono m _ _ _ hgo⟩
theorem TF.eff {i : Nat} {o : Oper} (ho : ops[i]? = some o) (hg : o.guard = none) (hd : inB N o.dst = true) (hr1 : (Region.ready .any ops listed == [i]) = true)
    (h : OW r P ρ o A (fun v A' => ent A' I ∧ TF r P N ops I T (listed.setIfInBounds i true) m Q (updO ρ o.dst v) ds A')) : TF r P N ops I T listed (m + 1) Q ρ ds A := by
  intro a w hr hs _ hc hsel hnd
  rw [beq_iff_eq] at hr1
  refine ⟨fun hz => (by rw [hz] at hr1; cases hr1), fun j hj => ?_⟩
  have hir := hj
  rw [hr1] at hj
  obtain rfl : j = i := by simpa using hj
  exact TF.step ho hg hd h hr hs hc hsel hnd hir
theorem TF.fork {i j : Nat} {oi oj : Oper} (hi : ops[i]? = some oi) (hj : ops[j]? = some oj) (gi : oi.guard = none) (gj : oj.guard = none) (di : inB N oi.dst = true) (dj : inB N oj.dst = true) (hr1 : (Region.ready .any ops listed == [i, j]) = true)
    (h1 : OW r P ρ oi A (fun v A' => ent A' I ∧ TF r P N ops I T (listed.setIfInBounds i true) m Q (updO ρ oi.dst v) ds A'))
    (h2 : OW r P ρ oj A (fun v A' => ent A' I ∧ TF r P N ops I T (listed.setIfInBounds j true) m Q (updO ρ oj.dst v) ds A')) : TF r P N ops I T listed (m + 1) Q ρ ds A := by
  intro a w hr hs _ hc hsel hnd
  rw [beq_iff_eq] at hr1
  refine ⟨fun hz => (by rw [hz] at hr1; cases hr1), fun k hk => ?_⟩
  have hir := hk
  rw [hr1] at hk
  have hk : k = i ∨ k = j := by simpa using hk
  rcases hk with rfl | rfl
  · exact TF.step hi gi di h1 hr hs hc hsel hnd hir
  · exact TF.step hj gj dj h2 hr hs hc hsel hnd hir
section
variable {op op' : Op} {ty ty' : TypeId} {ps ps' : String} {af af' : Array Edge} {t t' i j : Nat} {v : Value}
theorem fq (ho : ops[i]? = some ⟨some t, op, ty, ps, af, none⟩) (hnd : notDefer op = true) (hd : Nat.blt t N = true) (hq : okQ ops T listed i = true) (hy : OQ P ρ ⟨some t, op, ty, ps, af, none⟩ I v)
    (h : TF r P N ops I T (listed.setIfInBounds i true) m Q (upd ρ t v) ds A) : TF r P N ops I T listed (m + 1) Q ρ ds A :=
  TF.quiet ho hd hq (fun a hr => ⟨hnd, .inl ⟨by simp [Region.wanted], fun w hs => by rw [hr.eval]; exact hy w hs⟩⟩) h
theorem ff (hi : ops[i]? = some ⟨some t, op, ty, ps, af, none⟩) (hj : ops[j]? = some ⟨some t', op', ty', ps', af', none⟩) (di : Nat.blt t N = true) (dj : Nat.blt t' N = true) (hr1 : (Region.ready .any ops listed == [i, j]) = true)
    (h1 : OW r P ρ ⟨some t, op, ty, ps, af, none⟩ A (fun v A' => ent A' I ∧ TF r P N ops I T (listed.setIfInBounds i true) m Q (upd ρ t v) ds A'))
    (h2 : OW r P ρ ⟨some t', op', ty', ps', af', none⟩ A (fun v A' => ent A' I ∧ TF r P N ops I T (listed.setIfInBounds j true) m Q (upd ρ t' v) ds A')) : TF r P N ops I T listed (m + 1) Q ρ ds A :=
  TF.fork hi hj rfl rfl di dj hr1 h1 h2
end
theorem TC.drawF {id : Nat} {l : List Oper} (I : HP) (T : List Nat) (m : Nat) (hsz : l.toArray.size = m) (hm : P.follows .mixedOrders = true) (hB : (Region.noSelect l.toArray && l.toArray.all (fun o => notDefer o.op)) = true) (hI : ent A I)
    (h : TF r P N l.toArray I T (Array.replicate m false) m Q ρ ds A) : TC r P N (.region id l.toArray true) Q ρ ds A := by
  intro a w hr hs
  subst hsz
  simp only [Bool.and_eq_true] at hB
  obtain ⟨h1, h2⟩ := hB
  have hgo := h a { w with drawn := w.drawn + 1 } hr hs (sat.weak (w := { w with drawn := w.drawn + 1 }) hs hI) (by
      intro j o ho hj
      have hlt : j < l.toArray.size := (Array.getElem?_eq_some_iff.1 ho).1
      rw [Array.getD_eq_getD_getElem?, Array.getElem?_replicate, if_pos hlt] at hj
      cases hj) h1 (fun j o ho => Array.all_eq_true_iff_forall_mem.1 h2 o (Array.mem_of_getElem? ho))
  have hmono : ∀ e a w'', Np (wq N { w with drawn := w.drawn + 1 } Q) e a w'' → wq N w Q e a w'' := fun e a w'' h =>
    Np_out (Np_mono (w0 := w) (w := { w with drawn := w.drawn + 1 }) ⟨rfl, rfl, rfl, Nat.le_refl _⟩ h)
  exact wpIn_region_any hm (wpAnyIn_of_I _ _ _ _ (wpAnyI_mono hmono _ _ _ _ hgo))
end
end Go.QM
namespace Go.Proofs.YtdfmfhcjnjfjbaaGreat
open Go Go.QM
theorem ints_all1 {xs : List Int} {n : Nat} (h : xs.length = n) : (ints xs).take (n * 1) = ints xs := List.take_of_length_le (by rw [ints_length]; omega)
theorem ints_one1 : ∀ (xs : List Int), (ints xs).all Value.oneCell' = true
  | [] => rfl
  | x :: xs => by have := ints_one1 xs; rw [ints] at this ⊢; rw [List.map_cons, List.all_cons, this]; rfl
theorem ints_app1 (xs ys : List Int) : ints xs ++ ints ys = ints (xs ++ ys) := by simp [ints]
theorem Rd_end {b : Nat} {o : Obj} {F : HP} (h : Rd F b o) : ∀ Bs : List HP, Rd (sepL (Bs ++ [F])) b o
  | [] => Rd_here h
  | _ :: Bs => Rd_next (Rd_end h Bs)
structure Off where
  fr : Int
  gt : Int
  cl : Bool
deriving DecidableEq
def o0 : Off := ⟨0, 0, false⟩
def ofC (o : Off) : List Value := [.int .i64 o.fr, .int .i64 o.gt, .bool o.cl]
theorem ofC_sz (o : Off) : (ofC o).length = 3 := rfl
def ofsC (S : List Off) : List Value := S.flatMap ofC
theorem ofsC_length (S : List Off) : (ofsC S).length = S.length * 3 := flat_length ofC_sz S
theorem ofs_app (S T : List Off) : ofsC S ++ ofsC T = ofsC (S ++ T) := by simp [ofsC]
theorem ofs_all (S : List Off) : (ofsC S).take (S.length * 3) = ofsC S := List.take_of_length_le (by rw [ofsC_length]; omega)
theorem ofs_one : ∀ (S : List Off), (ofsC S).all Value.oneCell' = true
  | [] => rfl
  | t :: S => by have := ofs_one S; rw [ofsC] at this ⊢; rw [List.flatMap_cons, List.all_append, this]; rfl
structure MS where
  ids : List Int
  st : Int → Int
  cl : Int → Int
  pn : Int → Int
  row : Int → List Off
def frS (s : MS) (x : Int) : MS := { s with st := updI s.st x 0, pn := updI s.pn x (-1) }
def wtS (s : MS) (x v p : Int) : MS := { s with st := updI s.st x v, pn := updI s.pn x p }
def pushS (s : MS) (x : Int) (o : Off) : MS := { s with row := updI s.row x (s.row x ++ [o]) }
def rowS (s : MS) (x : Int) (R : List Off) : MS := { s with row := updI s.row x R }
def clS (s : MS) (x c : Int) : MS := { s with cl := updI s.cl x c }
def stS (s : MS) (x v : Int) : MS := { s with st := updI s.st x v }
def notO (pr : Off → Bool) : Off → Bool := fun o => !pr o
def cutMS (s : MS) (x : Int) (pr : Off → Bool) : MS := rowS s x ((s.row x).filter (notO pr))
def goneO (R : List Off) (pr : Off → Bool) : List Int := (R.filter pr).map (·.fr)
def hdO (R : List Off) : Off := R.head?.getD o0
def hdB (R : List Off) : Bool := !R.isEmpty
theorem row_cases (R : List Off) : R = [] ∨ ∃ o r, R = o :: r := by cases R with
  | nil => exact .inl rfl
  | cons o r => exact .inr ⟨o, r, rfl⟩
abbrev tP (A : Int → Nat) (ad : Int → Option Addr) (cap : Int → Nat) (s : MS) (x : Int) : HP := pts (A x) 124 [.slice (ad x) (s.row x).length (cap x), .int .i64 (s.st x), .int .i64 (s.cl x), .int .i64 (s.pn x)]
abbrev rP (ad : Int → Option Addr) (cap : Int → Nat) (s : MS) (x : Int) : HP := slc 26 3 (ad x) (s.row x).length (cap x) (ofsC (s.row x))
def fM (A : Int → Nat) (ids : List Int) : Int → Option Value := fun x => if x ∈ ids then some (.pointer (some ⟨A x, 0, none⟩)) else none
structure MRep where
  ad : Int → Option Addr
  cap : Int → Nat
  mb : Nat
def isMa (b : Nat) (A : Int → Nat) (s : MS) : HP := EX fun y : MRep => pure' s.ids.Nodup (sepL [pts b 128 [.map (some y.mb)], mapF encI y.mb (fM A s.ids) s.ids.length, bigS (tP A y.ad y.cap s) s.ids, bigS (rP y.ad y.cap s) s.ids])
theorem nd_ne {L M : List Int} {x : Int} (hn : L.Nodup) (hM : L.Perm (x :: M)) : ∀ y ∈ M, y ≠ x := fun y hy e => (List.nodup_cons.1 (hM.nodup_iff.1 hn)).1 (e ▸ hy)
theorem fM_yes {A : Int → Nat} {L : List Int} {x : Int} (h : x ∈ L) : fM A L x = some (.pointer (some ⟨A x, 0, none⟩)) := if_pos h
theorem fM_no {A : Int → Nat} {L : List Int} {x : Int} (h : x ∉ L) : fM A L x = none := if_neg h
theorem fil_snoc {pr : Off → Bool} {S : List Off} {k : Nat} {o : Off} (ho : S[k]? = some o) : (S.take (k + 1)).filter pr = (S.take k).filter pr ++ if pr o = true then [o] else [] := by
  rw [List.take_add_one, ho, Option.toList, List.filter_append]
  split
  · rename_i h; rw [List.filter_cons_of_pos h]; rfl
  · rename_i h; rw [List.filter_cons_of_neg h]; rfl
theorem gone_snoc {pr : Off → Bool} {S : List Off} {k : Nat} {o : Off} (ho : S[k]? = some o) : goneO (S.take (k + 1)) pr = goneO (S.take k) pr ++ if pr o = true then [o.fr] else [] := by
  rw [goneO, fil_snoc ho, List.map_append, goneO]; split <;> rfl
theorem gone_len (S : List Off) (pr : Off → Bool) : (goneO S pr).length ≤ S.length := by rw [goneO, List.length_map]; exact List.length_filter_le _ _
set_option maxRecDepth 4000 in
theorem mfree_ok (A : Int → Nat) (ad : Int → Option Addr) (cap : Int → Nat) (s : MS) (L : List Int) (x : Int) (hx : x ∈ L) (hn : L.Nodup) : FSpec Tryz.prog 89 [.pointer (some ⟨(A x), 0, none⟩)] noRd [bigS (tP A ad cap s) L] (fun _ : Unit => .tuple #[]) (fun _ => True) (fun _ => [bigS (tP A ad cap (frS s x)) L]) := by
 refine FSpec.intro (rs := []) (by kernel_rfl) Tryz.func89 rfl Tryz.ntmps89 (by rfl) rfl ?_
 intro F _
 change TC _ _ _ _ _ _ _ (sepL [_, _])
 obtain ⟨M, hM⟩ := perm_mem hx
 have hne := nd_ne hn hM
 refine TC.weak (ent_openB 0 rfl hM) ?_
 refine TC.region ?_
 refine wmp rfl rfl ?_
 refine wmp rfl rfl ?_
 refine wnc rfl rfl ?_
 refine wfa 1 rfl rfl rfl ?_
 refine e0 ?_
 refine st (v := .int _ _) (vs := [_]) 1 rfl rfl rfl rfl rfl rfl (Nat.le_of_ble_eq_true rfl) rfl ?_
 refine wnc rfl rfl ?_
 refine wfa 3 rfl rfl rfl ?_
 refine e0 ?_
 refine st (v := .int _ _) (vs := [_]) 1 rfl rfl rfl rfl rfl rfl (Nat.le_of_ble_eq_true rfl) rfl ?_
 refine TL.nil ?_
 exact Ret.n () [] trivial rfl trivial (ent_closeB 0 0 x rfl rfl (by dsimp only [tP, frS, wtS, pushS, rowS, cutMS, clS, stS]; simp only [updI_same]; rfl) (fun y hy => by have h := hne y hy; dsimp only [tP, frS, wtS, pushS, rowS, cutMS, clS, stS]; simp only [updI_ne h]) hM.symm (ent_take 0 rfl (ent_nil _)))
set_option maxRecDepth 4000 in
theorem mwaits_ok (A : Int → Nat) (ad : Int → Option Addr) (cap : Int → Nat) (s : MS) (L : List Int) (x : Int) (hx : x ∈ L) (hn : L.Nodup) (v w : Int) : FSpec Tryz.prog 90 [.pointer (some ⟨(A x), 0, none⟩), .int .i64 v, .int .i64 w] noRd [bigS (tP A ad cap s) L] (fun _ : Unit => .tuple #[]) (fun _ => True) (fun _ => [bigS (tP A ad cap (wtS s x v w)) L]) := by
 refine FSpec.intro (rs := []) (by kernel_rfl) Tryz.func90 rfl Tryz.ntmps90 (by rfl) rfl ?_
 intro F _
 change TC _ _ _ _ _ _ _ (sepL [_, _])
 obtain ⟨M, hM⟩ := perm_mem hx
 have hne := nd_ne hn hM
 refine TC.weak (ent_openB 0 rfl hM) ?_
 refine TC.region ?_
 refine wmp rfl rfl ?_
 refine wmp rfl rfl ?_
 refine wmi rfl rfl ?_
 refine wmi rfl rfl ?_
 refine wnc rfl rfl ?_
 refine wfa 1 rfl rfl rfl ?_
 refine e0 ?_
 refine st (v := .int _ _) (vs := [_]) 1 rfl rfl rfl rfl rfl rfl (Nat.le_of_ble_eq_true rfl) rfl ?_
 refine wnc rfl rfl ?_
 refine wfa 3 rfl rfl rfl ?_
 refine e0 ?_
 refine st (v := .int _ _) (vs := [_]) 1 rfl rfl rfl rfl rfl rfl (Nat.le_of_ble_eq_true rfl) rfl ?_
 refine TL.nil ?_
 exact Ret.n () [] trivial rfl trivial (ent_closeB 0 0 x rfl rfl (by dsimp only [tP, frS, wtS, pushS, rowS, cutMS, clS, stS]; simp only [updI_same]; rfl) (fun y hy => by have h := hne y hy; dsimp only [tP, frS, wtS, pushS, rowS, cutMS, clS, stS]; simp only [updI_ne h]) hM.symm (ent_take 0 rfl (ent_nil _)))
set_option maxRecDepth 4000 in
theorem mpush_ok (A : Int → Nat) (ad : Int → Option Addr) (cap : Int → Nat) (s : MS) (L : List Int) (x : Int) (hx : x ∈ L) (hn : L.Nodup) (o : Off) (hl : (s.row x).length ≤ 1000000) : FSpec Tryz.prog 99 [.pointer (some ⟨(A x), 0, none⟩), .agg (ofC o).toArray] noRd [bigS (tP A ad cap s) L, bigS (rP ad cap s) L] (fun _ : Option Addr × Nat => .tuple #[]) (fun _ => True) (fun y => [bigS (tP A (updI ad x y.1) (updI cap x y.2) (pushS s x o)) L, bigS (rP (updI ad x y.1) (updI cap x y.2) (pushS s x o)) L]) := by
 refine FSpec.intro (rs := []) (by kernel_rfl) Tryz.func99 rfl Tryz.ntmps99 (by rfl) rfl ?_
 intro F _
 change TC _ _ _ _ _ _ _ (sepL [_, _, _])
 obtain ⟨M, hM⟩ := perm_mem hx
 have hne := nd_ne hn hM
 refine TC.weak (ent_openB 0 rfl hM) ?_
 refine TC.weak (ent_openB 2 rfl hM) ?_
 have hol := ofsC_length (s.row x)
 refine TC.seq ?_
 refine TC.region ?_
 refine e rfl ?_
 refine bx (v := .agg #[_, _, _]) (l := [.int _ _, .int _ _, .bool _]) rfl rfl ?_
 intro b1
 refine TL.nil (nt ?_)
 refine TC.draw _ [10] [(0, false), (1, false), (2, false), (3, false), (4, false), (5, false), (6, true), (7, true), (8, false), (9, false), (10, true)] (by kernel_rfl) (by kernel_rfl) (ent_take 0 rfl (ent_take 2 rfl (ent_nil _))) ?_
 refine vmp rfl rfl rfl ?_
 refine vmp rfl rfl rfl ?_
 refine vnc rfl rfl rfl ?_
 refine vfa 0 rfl rfl rfl rfl ?_
 refine vld rfl rfl rfl rfl rfl ?_
 refine dq rfl rfl rfl (ldN (vs := [_, _, _]) 3 rfl rfl rfl rfl) ?_
 refine de rfl rfl ?_
 refine bs (cs := [.int _ _, .int _ _, .bool _]) rfl ?_
 intro b2
 refine ⟨(ent_take 1 rfl (ent_take 3 rfl (ent_nil _))), ?_⟩
 refine de rfl rfl ?_
 refine ap 24 rfl rfl rfl rfl rfl (Nat.le_of_ble_eq_true rfl) (show _ = ofsC [o] from rfl) rfl (by omega) (by simp only [maxLen]; omega) ?_
 intro ad1 cap1
 refine ⟨(ent_take 2 rfl (ent_take 3 rfl (ent_nil _))), ?_⟩
 refine vnc rfl rfl rfl ?_
 refine vfa 0 rfl rfl rfl rfl ?_
 refine dl0 rfl rfl rfl ?_
 refine st (v := .slice _ _ _) (vs := [_]) 1 rfl rfl rfl rfl rfl rfl (Nat.le_of_ble_eq_true rfl) rfl ?_
 refine TD.nil ?_
 exact Ret.n ⟨ad1, cap1⟩ [] trivial rfl trivial (ent_closeB 0 4 x rfl rfl (by dsimp only [tP, frS, wtS, pushS, rowS, cutMS, clS, stS]; simp only [updI_same, List.length_append, List.length_singleton]; rfl) (fun y hy => by have h := hne y hy; dsimp only [tP, frS, wtS, pushS, rowS, cutMS, clS, stS]; simp only [updI_ne h]) hM.symm (ent_closeB 0 2 x rfl rfl (by dsimp only [rP, frS, wtS, pushS, rowS, cutMS, clS, stS]; simp only [updI_same, List.length_append, List.length_singleton, ofs_app]) (fun y hy => by have h := hne y hy; dsimp only [rP, frS, wtS, pushS, rowS, cutMS, clS, stS]; simp only [updI_ne h]) hM.symm (ent_take 2 rfl (ent_nil _))))
set_option maxRecDepth 4000 in
theorem mfirst_ok (A : Int → Nat) (ad : Int → Option Addr) (cap : Int → Nat) (s : MS) (L : List Int) (x : Int) (hx : x ∈ L) (hn : L.Nodup) : FSpec Tryz.prog 88 [.pointer (some ⟨(A x), 0, none⟩)] noRd [bigS (tP A ad cap s) L, bigS (rP ad cap s) L] (fun _ : Unit => .tuple #[.agg (ofC (hdO (s.row x))).toArray, .bool (hdB (s.row x))]) (fun _ => True) (fun _ => [bigS (tP A ad cap s) L, bigS (rP ad cap s) L]) := by
 refine FSpec.intro (rs := [.cell 2 26, .tmp 3]) (by kernel_rfl) Tryz.func88 rfl Tryz.ntmps88 (by rfl) rfl ?_
 intro F _
 change TC _ _ _ _ _ _ _ (sepL [_, _, _])
 obtain ⟨M, hM⟩ := perm_mem hx
 have hne := nd_ne hn hM
 refine TC.weak (ent_openB 0 rfl hM) ?_
 refine TC.weak (ent_openB 2 rfl hM) ?_
 have hol := ofsC_length (s.row x)
 refine TC.seq ?_
 refine TC.region ?_
 refine e rfl ?_
 refine al (l := [.int _ _, .int _ _, .bool _]) rfl rfl ?_
 intro b3
 refine wab rfl rfl ?_
 refine TL.nil (nt ?_)
 refine TC.seq ?_
 refine TC.seq ?_
 refine TC.region ?_
 refine wmp rfl rfl ?_
 refine wnc rfl rfl ?_
 refine wfa 0 rfl rfl rfl ?_
 refine wld rfl rfl rfl rfl ?_
 refine q rfl rfl (len 26 3 rfl rfl) ?_
 refine q rfl rfl (eqI rfl rfl) ?_
 refine TL.nil (nt ?_)
 rcases row_cases (s.row x) with hr | ⟨o, r, hr⟩
 ·refine TC.condD rfl (fun hc1 => ?_) (fun hc1 => absurd (by rw [hr]; rfl) hc1)
  refine TC.seq ?_
  refine TC.region ?_
  refine q rfl rfl (bld (cs := [.int _ _, .int _ _, .bool _]) rfl) ?_
  refine e0 ?_
  refine st (v := .agg #[_, _, _]) (vs := [_, _, _]) 3 rfl rfl rfl rfl rfl rfl (Nat.le_of_ble_eq_true rfl) rfl ?_
  refine wab rfl rfl ?_
  refine TL.nil (nt ?_)
  refine TC.ret (rt ?_)
  exact Ret.i () [_, _] ⟨(rcN (n := 3) rfl rfl rfl rfl), rfl, trivial⟩ (by rw [hr]; rfl) trivial (ent_closeB 3 3 x rfl rfl rfl (fun _ _ => rfl) hM.symm (ent_closeB 1 1 x rfl rfl rfl (fun _ _ => rfl) hM.symm (ent_take 1 rfl (ent_nil _))))
 ·have hlc : (s.row x).length = r.length + 1 := by rw [hr, List.length_cons]
  have hpos : 0 < (ofsC (s.row x)).length := by omega
  refine TC.condD rfl (fun hc2 => absurd hc2 (by omega)) (fun hc2 => ?_)
  refine TC.skip (nt ?_)
  refine TC.seq ?_
  refine TC.region ?_
  refine wmp rfl rfl ?_
  refine wnc rfl rfl ?_
  refine wfa 0 rfl rfl rfl ?_
  refine wld rfl rfl rfl rfl ?_
  refine q rfl rfl (ixJ 26 3 rfl rfl rfl (by omega) (by omega) (by assumption)) ?_
  refine q rfl rfl (ldSN (vs := [_, _, _]) 3 rfl rfl (show _ = ofC o from by rw [hr]; rfl) rfl (by decide)) ?_
  refine e0 ?_
  refine st (v := .agg #[_, _, _]) (vs := [_, _, _]) 3 rfl rfl rfl rfl rfl rfl (Nat.le_of_ble_eq_true rfl) rfl ?_
  refine wab rfl rfl ?_
  refine TL.nil (nt ?_)
  refine TC.ret ?_
  exact Ret.i () [_, _] ⟨(rcN (n := 3) rfl rfl rfl rfl), rfl, trivial⟩ (by rw [hr]; rfl) trivial (ent_closeB 3 3 x rfl rfl rfl (fun _ _ => rfl) hM.symm (ent_closeB 1 1 x rfl rfl rfl (fun _ _ => rfl) hM.symm (ent_take 1 rfl (ent_nil _))))
set_option maxRecDepth 4000 in
set_option maxHeartbeats 1000000 in
theorem mcut_ok (A : Int → Nat) (ad : Int → Option Addr) (cap : Int → Nat) (s : MS) (L : List Int) (x : Int) (hx : x ∈ L) (hn : L.Nodup) (fc : FuncId) (lb : List Value) (pr : Off → Bool) (rdc : HP → Prop) (hclo : ∀ o, FSpec Tryz.prog fc ([.agg (ofC o).toArray] ++ lb) rdc [] (fun _ : Unit => .bool (pr o)) (fun _ => True) (fun _ => [])) (hm : ∀ (Bs : List HP) F, rdc F → rdc (sepL (Bs ++ [F]))) (hl : (s.row x).length ≤ 1000000) : FSpec Tryz.prog 91 [.pointer (some ⟨(A x), 0, none⟩), .func (.func fc) #[] lb.toArray] rdc [bigS (tP A ad cap s) L, bigS (rP ad cap s) L] (fun y : (Option Addr × Nat) × (Option Addr × Nat) => .slice y.1.1 (goneO (s.row x) pr).length y.1.2) (fun _ => True) (fun y => [slc 3 1 y.1.1 (goneO (s.row x) pr).length y.1.2 (ints (goneO (s.row x) pr)), bigS (tP A (updI ad x y.2.1) (updI cap x y.2.2) (cutMS s x pr)) L, bigS (rP (updI ad x y.2.1) (updI cap x y.2.2) (cutMS s x pr)) L]) := by
 refine FSpec.intro (rs := [.tmp 4]) (by kernel_rfl) Tryz.func91 rfl Tryz.ntmps91 (by rfl) rfl ?_
 intro F hFc
 change TC _ _ _ _ _ _ _ (sepL [_, _, _])
 obtain ⟨M, hM⟩ := perm_mem hx
 have hne := nd_ne hn hM
 refine TC.weak (ent_openB 0 rfl hM) ?_
 refine TC.weak (ent_openB 2 rfl hM) ?_
 have hol := ofsC_length (s.row x)
 refine TC.seq ?_
 refine TC.region ?_
 refine was rfl rfl ?_
 refine TL.nil (nt ?_)
 refine TC.seq ?_
 refine TC.region ?_
 refine was rfl rfl ?_
 refine TL.nil (nt ?_)
 refine TC.seq ?_
 refine TC.region ?_
 refine was rfl rfl ?_
 refine TL.nil (nt ?_)
 refine TC.seq ?_
 refine TC.seq ?_
 refine TC.region ?_
 refine wmp rfl rfl ?_
 refine wnc rfl rfl ?_
 refine wfa 0 rfl rfl rfl ?_
 refine wld rfl rfl rfl rfl ?_
 refine q rfl rfl (len 26 3 rfl rfl) ?_
 refine wmi rfl rfl ?_
 refine TL.nil (nt ?_)
 refine TC.block ?_
 refine TC.loop (ι := Nat × (Option Addr × Nat) × (Option Addr × Nat)) (fun u => u.1 ≤ (s.row x).length) (fun u => [(0, .pointer (some ⟨(A x), 0, none⟩)), (1, .func (.func fc) #[] lb.toArray), (5, .slice u.2.1.1 (goneO ((s.row x).take u.1) pr).length u.2.1.2), (6, .slice u.2.2.1 (((s.row x).take u.1).filter (notO pr)).length u.2.2.2), (12, .slice (ad x) (s.row x).length (cap x)), (13, .int .i64 (s.row x).length), (14, .int .i64 ((u.1 : Nat) : Int))]) (fun u => sepL [slc 3 1 u.2.1.1 (goneO ((s.row x).take u.1) pr).length u.2.1.2 (ints (goneO ((s.row x).take u.1) pr)), slc 26 3 u.2.2.1 (((s.row x).take u.1).filter (notO pr)).length u.2.2.2 (ofsC (((s.row x).take u.1).filter (notO pr))), rP ad cap s x, bigS (rP ad cap s) M, tP A ad cap s x, bigS (tP A ad cap s) M, F]) (fun u => (s.row x).length - u.1) ⟨0, (none, 0), (none, 0)⟩ (Nat.zero_le _) ⟨rfl, rfl, rfl, rfl, rfl, rfl, rfl, trivial⟩ ((slc_nil 3 1 _).trans ((slc_nil 26 3 _).trans (ent_take 1 rfl (ent_take 0 rfl (ent_take 0 rfl (ent_take 0 rfl (ent_take 0 rfl (ent_take 0 rfl (ent_take 0 rfl (ent_nil _)))))))))) ?_
 rintro ⟨k, ⟨ga, gc⟩, ⟨ka, kc⟩⟩ hk ρ0
 dsimp only [updL] at hk ⊢
 refine TC.seq ?_
 refine TC.region ?_
 refine q rfl rfl (lss rfl rfl) ?_
 refine TL.nil (nt ?_)
 refine TC.seq ?_
 refine TC.condD rfl (fun hlt => ?_) (fun hlt => ?_)
 ·have hlt2 : k < (s.row x).length := by omega
  obtain ⟨o, ho⟩ : ∃ o, (s.row x)[k]? = some o := ⟨(s.row x)[k], List.getElem?_eq_getElem hlt2⟩
  have hpos : 0 < (ofsC (s.row x)).length := by omega
  have hg1 := gone_len (s.row x |>.take k) pr
  have hk1 : (((s.row x).take k).filter (notO pr)).length ≤ ((s.row x).take k).length := List.length_filter_le _ _
  have htl : ((s.row x).take k).length ≤ k := by rw [List.length_take]; omega
  have hgs := gone_snoc (pr := pr) ho
  have hks := fil_snoc (pr := notO pr) ho
  have hgi := ints_length (goneO ((s.row x).take k) pr)
  have hki := ofsC_length (((s.row x).take k).filter (notO pr))
  refine TC.skip (nt ?_)
  refine TC.seq ?_
  refine TC.block ?_
  refine TC.seq ?_
  refine TC.region ?_
  refine q rfl rfl (ixS 26 3 rfl rfl rfl (by omega) (by assumption)) ?_
  refine q rfl rfl (ldSN (vs := [_, _, _]) 3 rfl rfl (flat_get_rec ofC_sz ho) rfl (by decide)) ?_
  refine e rfl ?_
  refine al (l := [.int _ _, .int _ _, .bool _]) rfl rfl ?_
  intro b4
  refine e0 ?_
  refine st (v := .agg #[_, _, _]) (vs := [_, _, _]) 3 rfl rfl rfl rfl rfl rfl (Nat.le_of_ble_eq_true rfl) rfl ?_
  refine TL.nil (nt ?_)
  refine TC.seq ?_
  refine TC.region ?_
  refine q rfl rfl (mv (v := .func (.func fc) #[] lb.toArray) rfl) ?_
  refine q rfl rfl (ldN (vs := [_, _, _]) 3 rfl rfl rfl rfl) ?_
  refine e rfl ?_
  refine clC (hclo o) rfl rfl (picked_nil _) (hm [_, _, _, _, _, _, _] _ hFc) ?_
  intro _ _
  change TL _ _ _ _ _ _ _ _ (sepL [_, _, _, _, _, _, _, _])
  refine TL.nil (nt ?_)
  cases hpr : pr o with
  | true => ?_
  | false => ?_
  ·rw [hpr, if_pos rfl] at hgs
   rw [show notO pr o = false by rw [notO, hpr]; rfl, if_neg (by decide), List.append_nil] at hks
   refine TC.condT rfl ?_
   refine TC.region ?_
   refine wms rfl rfl ?_
   refine wfa 0 rfl rfl rfl ?_
   refine wld rfl rfl rfl rfl ?_
   refine e rfl ?_
   refine bs (cs := [.int _ _]) rfl ?_
   intro b5
   refine e rfl ?_
   refine ap 8 rfl rfl rfl rfl rfl (Nat.le_of_ble_eq_true rfl) (show _ = ints [o.fr] from rfl) rfl (by omega) (by simp only [maxLen]; omega) ?_
   intro ad2 cap2
   refine was rfl rfl ?_
   refine TL.nil (nb (nt ?_))
   refine TC.region ?_
   refine q rfl rfl (addI rfl rfl (by omega) (by omega)) ?_
   refine wmi rfl rfl ?_
   refine TL.nil (nt ?_)
   exact ⟨rfl, ⟨k + 1, (ad2, cap2), (ka, kc)⟩, (by dsimp only; omega), (by dsimp only; omega), ⟨rfl, rfl, congrArg (fun n => Value.slice _ n _) (by dsimp only; rw [hgs, List.length_append]; rfl), congrArg (fun n => Value.slice _ n _) (by dsimp only; rw [hks]), rfl, rfl, rfl, trivial⟩, (ent_takeE 0 rfl (by dsimp only; rw [hgs, List.length_append, ints_app1]; rfl) (ent_takeE 2 rfl (by dsimp only; rw [hks]) (ent_take 2 rfl (ent_take 2 rfl (ent_take 2 rfl (ent_take 2 rfl (ent_take 2 rfl (ent_nil _))))))))⟩
  ·rw [hpr, if_neg (by decide), List.append_nil] at hgs
   rw [show notO pr o = true by rw [notO, hpr]; rfl, if_pos rfl] at hks
   refine TC.condF rfl ?_
   refine TC.region ?_
   refine wms rfl rfl ?_
   refine q rfl rfl (ldN (vs := [_, _, _]) 3 rfl rfl rfl rfl) ?_
   refine e rfl ?_
   refine bs (cs := [.int _ _, .int _ _, .bool _]) rfl ?_
   intro b6
   refine e rfl ?_
   refine ap 24 rfl rfl rfl rfl rfl (Nat.le_of_ble_eq_true rfl) (show _ = ofsC [o] from rfl) rfl (by omega) (by simp only [maxLen]; omega) ?_
   intro ad3 cap3
   refine was rfl rfl ?_
   refine TL.nil (nb (nt ?_))
   refine TC.region ?_
   refine q rfl rfl (addI rfl rfl (by omega) (by omega)) ?_
   refine wmi rfl rfl ?_
   refine TL.nil (nt ?_)
   exact ⟨rfl, ⟨k + 1, (ga, gc), (ad3, cap3)⟩, (by dsimp only; omega), (by dsimp only; omega), ⟨rfl, rfl, congrArg (fun n => Value.slice _ n _) (by dsimp only; rw [hgs]), congrArg (fun n => Value.slice _ n _) (by dsimp only; rw [hks, List.length_append]; rfl), rfl, rfl, rfl, trivial⟩, (ent_takeE 3 rfl (by dsimp only; rw [hgs]) (ent_takeE 0 rfl (by dsimp only; rw [hks, List.length_append, ofs_app]; rfl) (ent_take 2 rfl (ent_take 2 rfl (ent_take 2 rfl (ent_take 2 rfl (ent_take 2 rfl (ent_nil _))))))))⟩
 ·obtain rfl : k = (s.row x).length := by omega
  rw [List.take_length]
  refine TC.exit (et (et (eb (nt ?_))))
  refine TC.seq ?_
  refine TC.region ?_
  refine wmp rfl rfl ?_
  refine wms rfl rfl ?_
  refine wnc rfl rfl ?_
  refine wfa 0 rfl rfl rfl ?_
  refine e0 ?_
  refine st (v := .slice _ _ _) (vs := [_]) 1 rfl rfl rfl rfl rfl rfl (Nat.le_of_ble_eq_true rfl) rfl ?_
  refine TL.nil (nt ?_)
  refine TC.seq ?_
  refine TC.region ?_
  refine wms rfl rfl ?_
  refine was rfl rfl ?_
  refine TL.nil (nt ?_)
  refine TC.ret ?_
  exact Ret.i ⟨(ga, gc), (ka, kc)⟩ [_] ⟨rfl, trivial⟩ rfl trivial (ent_take 1 rfl (ent_closeB 0 3 x rfl rfl (by dsimp only [tP, frS, wtS, pushS, rowS, cutMS, clS, stS]; simp only [updI_same]; rfl) (fun y hy => by have h := hne y hy; dsimp only [tP, frS, wtS, pushS, rowS, cutMS, clS, stS]; simp only [updI_ne h]) hM.symm (ent_closeB 0 1 x rfl rfl (by dsimp only [rP, frS, wtS, pushS, rowS, cutMS, clS, stS]; simp only [updI_same]) (fun y hy => by have h := hne y hy; dsimp only [rP, frS, wtS, pushS, rowS, cutMS, clS, stS]; simp only [updI_ne h]) hM.symm (ent_take 1 rfl (ent_nil _)))))
set_option maxRecDepth 4000 in
theorem cloneO_ok (ad : Option Addr) (cap : Nat) (S : List Off) (hl : S.length ≤ 1000000) : FSpec Tryz.prog 107 [.slice ad S.length cap] (fun F => ∃ E, RdS F E ad (ofsC S)) [] (fun y : Option Addr × Nat => .slice y.1 S.length y.2) (fun _ => True) (fun y => [slc 26 3 y.1 S.length y.2 (ofsC S)]) := by
 refine FSpec.intro (rs := [.tmp 2]) (by kernel_rfl) Tryz.func107 rfl Tryz.ntmps107 (by rfl) rfl ?_
 intro F ⟨E, hF⟩
 change TC _ _ _ _ _ _ _ (sepL [_])
 haveI : RdSI F ad E (ofsC S) := ⟨hF⟩
 have hxl := ofsC_length S
 refine TC.seq ?_
 refine TC.region ?_
 refine was rfl rfl ?_
 refine TL.nil (nt ?_)
 refine TC.seq ?_
 refine TC.seq ?_
 refine TC.region ?_
 refine wms rfl rfl ?_
 refine q rfl rfl (eqSl rfl rfl rfl) ?_
 refine TL.nil (nt ?_)
 cases ad with
 | none => ?_
 | some a0 => ?_
 ·refine TC.fact (fun hh hx => RdS_none (RdS_l hF) hh hx) (fun hnil => ?_)
  obtain rfl : S = [] := by
   cases S with
   | nil => rfl
   | cons o r => rw [hnil] at hxl; simp at hxl
  refine TC.condT rfl ?_
  refine TC.seq ?_
  refine TC.region ?_
  refine was rfl rfl ?_
  refine TL.nil (nt ?_)
  refine TC.ret (rt ?_)
  exact Ret.i ⟨none, 0⟩ [_] ⟨rfl, trivial⟩ rfl trivial ((slc_nil 26 3 _).trans (ent_takeE 0 rfl (by simp [ofsC]) (ent_take 0 rfl (ent_nil _))))
 ·refine TC.condF rfl ?_
  refine TC.skip (nt ?_)
  refine TC.seq ?_
  refine TC.region ?_
  refine e rfl ?_
  refine bs (cs := []) rfl ?_
  intro b7
  refine wms rfl rfl ?_
  refine e rfl ?_
  refine ap 24 rfl rfl rfl rfl rfl (by omega) (ofs_all S) (ofs_one _) (by omega) (by simp only [maxLen]; omega) ?_
  intro ad4 cap4
  refine was rfl rfl ?_
  refine TL.nil (nt ?_)
  refine TC.ret ?_
  exact Ret.i ⟨ad4, cap4⟩ [_] ⟨rfl, trivial⟩ (by rw [Nat.zero_add]; rfl) trivial (ent_takeE 0 rfl (by rw [Nat.zero_add, List.nil_append]) (ent_take 0 rfl (ent_nil _)))
set_option maxRecDepth 4000 in
theorem mat_yes (b mb n : Nat) (A : Int → Nat) (ids : List Int) (id : Int) (h : id ∈ ids) : FSpec Tryz.prog 87 [.pointer (some ⟨b, 0, none⟩), .int .i64 id] noRd [pts b 128 [.map (some mb)], mapF encI mb (fM A ids) n] (fun _ : Unit => .tuple #[.pointer (some ⟨(A id), 0, none⟩), .int .i64 0]) (fun _ => True) (fun _ => [pts b 128 [.map (some mb)], mapF encI mb (fM A ids) n]) := by
 refine FSpec.intro (rs := [.tmp 4, .tmp 5]) (by kernel_rfl) Tryz.func87 rfl Tryz.ntmps87 (by rfl) rfl ?_
 intro F _
 change TC _ _ _ _ _ _ _ (sepL [_, _, _])
 refine TC.seq ?_
 refine TC.region ?_
 refine q rfl rfl (asg rfl) ?_
 refine q rfl rfl (asg rfl) ?_
 refine TL.nil (nt ?_)
 refine TC.seq ?_
 refine TC.seq ?_
 refine TC.region ?_
 refine q rfl rfl (mv rfl) ?_
 refine q rfl rfl (eqNil rfl rfl rfl) ?_
 refine TL.nil (nt ?_)
 refine TC.condF rfl ?_
 refine TC.skip (nt ?_)
 refine TC.seq ?_
 refine TC.region ?_
 refine q rfl rfl (mv rfl) ?_
 refine wnc rfl rfl ?_
 refine wfa 0 rfl rfl rfl ?_
 refine wld rfl rfl rfl rfl ?_
 refine q rfl rfl (mv rfl) ?_
 refine q rfl rfl (luF 3 118 rfl rfl (KL.int rfl) rfl rfl) ?_
 rw [fM_yes h]
 refine wap rfl rfl ?_
 refine TL.nil (nt ?_)
 refine TC.seq ?_
 refine TC.seq ?_
 refine TC.region ?_
 refine wmp rfl rfl ?_
 refine q rfl rfl (eqNil rfl rfl rfl) ?_
 refine TL.nil (nt ?_)
 refine TC.condF rfl ?_
 refine TC.skip (nt ?_)
 refine TC.seq ?_
 refine TC.region ?_
 refine wmp rfl rfl ?_
 refine wap rfl rfl ?_
 refine wai rfl rfl ?_
 refine TL.nil (nt ?_)
 refine TC.ret ?_
 exact Ret.i () [_, _] ⟨rfl, rfl, trivial⟩ rfl trivial (ent_take 0 rfl (ent_take 0 rfl (ent_take 0 rfl (ent_nil _))))
set_option maxRecDepth 4000 in
theorem mat_no (b mb n : Nat) (A : Int → Nat) (ids : List Int) (id : Int) (h : id ∉ ids) : FSpec Tryz.prog 87 [.pointer (some ⟨b, 0, none⟩), .int .i64 id] noRd [pts b 128 [.map (some mb)], mapF encI mb (fM A ids) n] (fun _ : Unit => .tuple #[.pointer none, .int .i64 6]) (fun _ => True) (fun _ => [pts b 128 [.map (some mb)], mapF encI mb (fM A ids) n]) := by
 refine FSpec.intro (rs := [.tmp 4, .tmp 5]) (by kernel_rfl) Tryz.func87 rfl Tryz.ntmps87 (by rfl) rfl ?_
 intro F _
 change TC _ _ _ _ _ _ _ (sepL [_, _, _])
 refine TC.seq ?_
 refine TC.region ?_
 refine q rfl rfl (asg rfl) ?_
 refine q rfl rfl (asg rfl) ?_
 refine TL.nil (nt ?_)
 refine TC.seq ?_
 refine TC.seq ?_
 refine TC.region ?_
 refine q rfl rfl (mv rfl) ?_
 refine q rfl rfl (eqNil rfl rfl rfl) ?_
 refine TL.nil (nt ?_)
 refine TC.condF rfl ?_
 refine TC.skip (nt ?_)
 refine TC.seq ?_
 refine TC.region ?_
 refine q rfl rfl (mv rfl) ?_
 refine wnc rfl rfl ?_
 refine wfa 0 rfl rfl rfl ?_
 refine wld rfl rfl rfl rfl ?_
 refine q rfl rfl (mv rfl) ?_
 refine q rfl rfl (luF 3 118 rfl rfl (KL.int rfl) rfl rfl) ?_
 rw [fM_no h]
 refine wap rfl rfl ?_
 refine TL.nil (nt ?_)
 refine TC.seq ?_
 refine TC.seq ?_
 refine TC.region ?_
 refine wmp rfl rfl ?_
 refine q rfl rfl (eqNil rfl rfl rfl) ?_
 refine TL.nil (nt ?_)
 refine TC.condT rfl ?_
 refine TC.seq ?_
 refine TC.region ?_
 refine wap rfl rfl ?_
 refine wai rfl rfl ?_
 refine TL.nil (nt ?_)
 refine TC.ret (rt ?_)
 exact Ret.i () [_, _] ⟨rfl, rfl, trivial⟩ rfl trivial (ent_take 0 rfl (ent_take 0 rfl (ent_take 0 rfl (ent_nil _))))
end Go.Proofs.YtdfmfhcjnjfjbaaGreat
namespace Go.Proofs.YtdfmfhcjnjfjbaaGreat
open Go Go.QM
theorem Rd_big {α : Type} {f : α → HP} {b : Nat} {o : Obj} : ∀ {L : List α} {x : α}, x ∈ L → Rd (f x) b o → Rd (bigS f L) b o
  | a :: L, x, h, r => by
    rcases List.mem_cons.1 h with rfl | h
    · exact Rd_here r
    · exact Rd_next (Rd_big h r)
theorem RdS_big {α : Type} {f : α → HP} {ad : Option Addr} {E : Nat} {cs : List Value} : ∀ {L : List α} {x : α}, x ∈ L → RdS (f x) E ad cs → RdS (bigS f L) E ad cs
  | a :: L, x, h, r => by
    rcases List.mem_cons.1 h with rfl | h
    · exact RdS_l r
    · exact RdS_r (RdS_big h r)
theorem tP_rd {A : Int → Nat} {ad : Int → Option Addr} {cap : Int → Nat} {s : MS} {L : List Int} {x : Int} (h : x ∈ L) : RdI (bigS (tP A ad cap s) L) (A x) (.cells (List.toArray [.slice (ad x) (s.row x).length (cap x), .int .i64 (s.st x), .int .i64 (s.cl x), .int .i64 (s.pn x)]) 124 (0, 0)) := ⟨Rd_big h (Rd_pts _ _ _)⟩
theorem rP_rd {ad : Int → Option Addr} {cap : Int → Nat} {s : MS} {L : List Int} {x : Int} (h : x ∈ L) : RdSI (bigS (rP ad cap s) L) (ad x) 26 (ofsC (s.row x)) := ⟨RdS_big h (RdS_slc _ _ _ _ _ _)⟩
def stR (s : MS) (id : Int) : Int := if id ∈ s.ids then s.st id else -1
def clR (s : MS) (id : Int) : Int := if id ∈ s.ids then s.cl id else -1
def rowR (s : MS) (id : Int) : List Off := if id ∈ s.ids then s.row id else []
def joinS (s : MS) (x : Int) : MS := if x ∈ s.ids ∨ x < 0 then s else ⟨s.ids ++ [x], updI s.st x 0, updI s.cl x (-1), updI s.pn x (-1), updI s.row x []⟩
def joinL (s : MS) (xs : List Int) : MS := xs.foldl joinS s
def offS (s : MS) (to : Int) (o : Off) : MS × Int :=
  if to ∉ s.ids ∨ o.fr ∉ s.ids then (s, 6) else if o.fr = to then (s, 1) else if s.st o.fr ≠ 0 then (s, 12) else (pushS (wtS s o.fr 1 to) to o, 0)
def openS (s : MS) (id : Int) : MS × Int := if id ∉ s.ids then (s, 6) else if s.st id ≠ 0 ∨ 0 < (s.row id).length then (s, 12) else (stS s id 2, 0)
def s0 : MS := ⟨[], fun _ => 0, fun _ => 0, fun _ => 0, fun _ => []⟩
theorem join_nd {s : MS} (h : s.ids.Nodup) (x : Int) : (joinS s x).ids.Nodup := by
  rw [joinS]; split
  · exact h
  · rename_i hx
    exact List.nodup_append.2 ⟨h, by simp, fun a ha b hb e => hx (.inl (by rw [List.mem_singleton] at hb; rw [← hb, ← e]; exact ha))⟩
theorem joinL_snoc (s : MS) (xs : List Int) {k : Nat} {x : Int} (h : xs[k]? = some x) : joinL s (xs.take (k + 1)) = joinS (joinL s (xs.take k)) x := by
  rw [List.take_add_one, h, Option.toList, joinL, List.foldl_append, joinL]; rfl
theorem join_len (s : MS) (x : Int) : s.ids.length ≤ (joinS s x).ids.length ∧ (joinS s x).ids.length ≤ s.ids.length + 1 := by
  rw [joinS]; split
  · omega
  · rw [List.length_append, List.length_singleton]; omega
theorem joinL_len (xs : List Int) : ∀ s : MS, s.ids.length ≤ (joinL s xs).ids.length ∧ (joinL s xs).ids.length ≤ s.ids.length + xs.length := by
  induction xs with
  | nil => intro s; exact ⟨Nat.le_refl _, Nat.le_refl _⟩
  | cons x xs ih => intro s; have h1 := join_len s x; have h2 := ih (joinS s x); rw [joinL] at h2 ⊢; rw [List.foldl_cons, List.length_cons]; omega
theorem fM_add (A : Int → Nat) (ids : List Int) (x : Int) (b : Nat) : fM (updI A x b) (ids ++ [x]) = updF (fM A ids) x (.pointer (some ⟨b, 0, none⟩)) := by
  funext y
  simp only [fM, updF]
  by_cases e : y = x
  · rw [if_pos e, if_pos (by simp [e]), e, updI_same]
  · rw [if_neg e, updI_ne e]
    by_cases h : y ∈ ids
    · rw [if_pos h, if_pos (by simp [h])]
    · rw [if_neg h, if_neg (by simp [h, e])]
theorem mnew_ent (b mb : Nat) (F : HP) (A : Int → Nat) : ent (sepL [pts b 128 [.map (some mb)], mapF encI mb (fun _ => none) 0, F]) (sepL [isMa b A s0, F]) := by
  have hf : fM A [] = fun _ => none := funext fun _ => if_neg (by simp)
  refine (bigS_nil (f := tP A (fun _ => none) (fun _ => 0) s0) _).trans ?_
  refine (bigS_nil (f := rP (fun _ => none) (fun _ => 0) s0) _).trans ?_
  refine ent_close (⟨fun _ => none, fun _ => 0, mb⟩ : MRep) List.nodup_nil ?_
  exact ent_take 2 rfl (ent_takeE 2 rfl (by dsimp only [s0]; rw [hf]; rfl) (ent_take 1 rfl (ent_take 0 rfl (ent_take 0 rfl (ent_nil _)))))
set_option maxRecDepth 4000 in
theorem mnew_ok (A : Int → Nat) : FSpec Tryz.prog 68 [] noRd [] (fun b : Nat => .pointer (some ⟨b, 0, none⟩)) (fun _ => True) (fun b => [isMa b A s0]) := by
 refine FSpec.intro (rs := [.tmp 0]) (by kernel_rfl) Tryz.func68 rfl Tryz.ntmps68 (by rfl) rfl ?_
 intro F _
 change TC _ _ _ _ _ _ _ (sepL [_])
 refine TC.seq ?_
 refine TC.region ?_
 refine wap rfl rfl ?_
 refine TL.nil (nt ?_)
 refine TC.seq ?_
 refine TC.region ?_
 refine e rfl ?_
 refine mkF encI ?_
 intro b1
 refine q rfl rfl (bld (cs := [.map _]) rfl) ?_
 refine e rfl ?_
 refine bx (v := .agg #[_]) (l := [.map _]) rfl rfl ?_
 intro b2
 refine wap rfl rfl ?_
 refine TL.nil (nt ?_)
 refine TC.ret ?_
 exact Ret.i b2 [_] ⟨rfl, trivial⟩ rfl trivial (mnew_ent b2 b1 F A)
set_option maxRecDepth 4000 in
theorem mstate_ok (b : Nat) (A : Int → Nat) (s : MS) (id : Int) : FSpec Tryz.prog 61 [.pointer (some ⟨b, 0, none⟩), .int .i64 id] noRd [isMa b A s] (fun _ : Unit => .int .i64 (stR s id)) (fun _ => True) (fun _ => [isMa b A s]) := by
 refine FSpec.intro (rs := [.tmp 4]) (by kernel_rfl) Tryz.func61 rfl Tryz.ntmps61 (by rfl) rfl ?_
 intro F _
 change TC _ _ _ _ _ _ _ (sepL [_, _])
 refine TC.open 0 rfl (fun x0 hx0 => ?_)
 obtain ⟨ad, cap, mb⟩ := x0
 have hN := hx0
 change TC _ _ _ _ _ _ _ (sepL [_, _, _, _, _])
 dsimp only at hN ⊢
 by_cases h : id ∈ s.ids
 ·rw [show stR s id = s.st id from if_pos h]
  haveI := tP_rd (A := A) (ad := ad) (cap := cap) (s := s) (x := id) h
  refine TC.seq ?_
  refine TC.region ?_
  refine wai rfl rfl ?_
  refine TL.nil (nt ?_)
  refine TC.seq ?_
  refine TC.region ?_
  refine wmp rfl rfl ?_
  refine wmi rfl rfl ?_
  refine e rfl ?_
  refine cl (mat_yes b mb s.ids.length A s.ids id h) rfl PkL.p trivial ?_
  intro _ _
  change TL _ _ _ _ _ _ _ _ (sepL [_, _, _, _, _])
  refine wmt rfl rfl ?_
  refine q rfl rfl (pu (v := .pointer _) (fun _ => rfl)) ?_
  refine q rfl rfl (pu (v := .int _ _) (fun _ => rfl)) ?_
  refine wap rfl rfl ?_
  refine wai rfl rfl ?_
  refine TL.nil (nt ?_)
  refine TC.seq ?_
  refine TC.seq ?_
  refine TC.region ?_
  refine wmi rfl rfl ?_
  refine q rfl rfl (neI rfl rfl) ?_
  refine TL.nil (nt ?_)
  refine TC.condF rfl ?_
  refine TC.skip (nt ?_)
  refine TC.seq ?_
  refine TC.region ?_
  refine wmp rfl rfl ?_
  refine wnc rfl rfl ?_
  refine wfa 1 rfl rfl rfl ?_
  refine wld rfl rfl rfl rfl ?_
  refine wai rfl rfl ?_
  refine TL.nil (nt ?_)
  refine TC.ret ?_
  exact Ret.i () [_] ⟨rfl, trivial⟩ rfl trivial (ent_close ⟨ad, cap, mb⟩ hN (ent_take 0 rfl (ent_take 0 rfl (ent_take 0 rfl (ent_take 0 rfl (ent_take 0 rfl (ent_nil _)))))))
 ·rw [show stR s id = -1 from if_neg h]
  refine TC.seq ?_
  refine TC.region ?_
  refine wai rfl rfl ?_
  refine TL.nil (nt ?_)
  refine TC.seq ?_
  refine TC.region ?_
  refine wmp rfl rfl ?_
  refine wmi rfl rfl ?_
  refine e rfl ?_
  refine cl (mat_no b mb s.ids.length A s.ids id h) rfl PkL.p trivial ?_
  intro _ _
  change TL _ _ _ _ _ _ _ _ (sepL [_, _, _, _, _])
  refine wmt rfl rfl ?_
  refine q rfl rfl (pu (v := .pointer _) (fun _ => rfl)) ?_
  refine q rfl rfl (pu (v := .int _ _) (fun _ => rfl)) ?_
  refine wap rfl rfl ?_
  refine wai rfl rfl ?_
  refine TL.nil (nt ?_)
  refine TC.seq ?_
  refine TC.seq ?_
  refine TC.region ?_
  refine wmi rfl rfl ?_
  refine q rfl rfl (neI rfl rfl) ?_
  refine TL.nil (nt ?_)
  refine TC.condT rfl ?_
  refine TC.seq ?_
  refine TC.region ?_
  refine wai rfl rfl ?_
  refine TL.nil (nt ?_)
  refine TC.ret (rt ?_)
  exact Ret.i () [_] ⟨rfl, trivial⟩ rfl trivial (ent_close ⟨ad, cap, mb⟩ hN (ent_take 0 rfl (ent_take 0 rfl (ent_take 0 rfl (ent_take 0 rfl (ent_take 0 rfl (ent_nil _)))))))
set_option maxRecDepth 4000 in
theorem mcaller_ok (b : Nat) (A : Int → Nat) (s : MS) (id : Int) : FSpec Tryz.prog 65 [.pointer (some ⟨b, 0, none⟩), .int .i64 id] noRd [isMa b A s] (fun _ : Unit => .int .i64 (clR s id)) (fun _ => True) (fun _ => [isMa b A s]) := by
 refine FSpec.intro (rs := [.tmp 4]) (by kernel_rfl) Tryz.func65 rfl Tryz.ntmps65 (by rfl) rfl ?_
 intro F _
 change TC _ _ _ _ _ _ _ (sepL [_, _])
 refine TC.open 0 rfl (fun x0 hx0 => ?_)
 obtain ⟨ad, cap, mb⟩ := x0
 have hN := hx0
 change TC _ _ _ _ _ _ _ (sepL [_, _, _, _, _])
 dsimp only at hN ⊢
 by_cases h : id ∈ s.ids
 ·rw [show clR s id = s.cl id from if_pos h]
  haveI := tP_rd (A := A) (ad := ad) (cap := cap) (s := s) (x := id) h
  refine TC.seq ?_
  refine TC.region ?_
  refine wai rfl rfl ?_
  refine TL.nil (nt ?_)
  refine TC.seq ?_
  refine TC.region ?_
  refine wmp rfl rfl ?_
  refine wmi rfl rfl ?_
  refine e rfl ?_
  refine cl (mat_yes b mb s.ids.length A s.ids id h) rfl PkL.p trivial ?_
  intro _ _
  change TL _ _ _ _ _ _ _ _ (sepL [_, _, _, _, _])
  refine wmt rfl rfl ?_
  refine q rfl rfl (pu (v := .pointer _) (fun _ => rfl)) ?_
  refine q rfl rfl (pu (v := .int _ _) (fun _ => rfl)) ?_
  refine wap rfl rfl ?_
  refine wai rfl rfl ?_
  refine TL.nil (nt ?_)
  refine TC.seq ?_
  refine TC.seq ?_
  refine TC.region ?_
  refine wmi rfl rfl ?_
  refine q rfl rfl (neI rfl rfl) ?_
  refine TL.nil (nt ?_)
  refine TC.condF rfl ?_
  refine TC.skip (nt ?_)
  refine TC.seq ?_
  refine TC.region ?_
  refine wmp rfl rfl ?_
  refine wnc rfl rfl ?_
  refine wfa 2 rfl rfl rfl ?_
  refine wld rfl rfl rfl rfl ?_
  refine wai rfl rfl ?_
  refine TL.nil (nt ?_)
  refine TC.ret ?_
  exact Ret.i () [_] ⟨rfl, trivial⟩ rfl trivial (ent_close ⟨ad, cap, mb⟩ hN (ent_take 0 rfl (ent_take 0 rfl (ent_take 0 rfl (ent_take 0 rfl (ent_take 0 rfl (ent_nil _)))))))
 ·rw [show clR s id = -1 from if_neg h]
  refine TC.seq ?_
  refine TC.region ?_
  refine wai rfl rfl ?_
  refine TL.nil (nt ?_)
  refine TC.seq ?_
  refine TC.region ?_
  refine wmp rfl rfl ?_
  refine wmi rfl rfl ?_
  refine e rfl ?_
  refine cl (mat_no b mb s.ids.length A s.ids id h) rfl PkL.p trivial ?_
  intro _ _
  change TL _ _ _ _ _ _ _ _ (sepL [_, _, _, _, _])
  refine wmt rfl rfl ?_
  refine q rfl rfl (pu (v := .pointer _) (fun _ => rfl)) ?_
  refine q rfl rfl (pu (v := .int _ _) (fun _ => rfl)) ?_
  refine wap rfl rfl ?_
  refine wai rfl rfl ?_
  refine TL.nil (nt ?_)
  refine TC.seq ?_
  refine TC.seq ?_
  refine TC.region ?_
  refine wmi rfl rfl ?_
  refine q rfl rfl (neI rfl rfl) ?_
  refine TL.nil (nt ?_)
  refine TC.condT rfl ?_
  refine TC.seq ?_
  refine TC.region ?_
  refine wai rfl rfl ?_
  refine TL.nil (nt ?_)
  refine TC.ret (rt ?_)
  exact Ret.i () [_] ⟨rfl, trivial⟩ rfl trivial (ent_close ⟨ad, cap, mb⟩ hN (ent_take 0 rfl (ent_take 0 rfl (ent_take 0 rfl (ent_take 0 rfl (ent_take 0 rfl (ent_nil _)))))))
set_option maxRecDepth 4000 in
theorem mrow_ok (b : Nat) (A : Int → Nat) (s : MS) (id : Int) (hl : (rowR s id).length ≤ 1000000) : FSpec Tryz.prog 63 [.pointer (some ⟨b, 0, none⟩), .int .i64 id] noRd [isMa b A s] (fun y : Option Addr × Nat => .slice y.1 (rowR s id).length y.2) (fun _ => True) (fun y => [slc 26 3 y.1 (rowR s id).length y.2 (ofsC (rowR s id)), isMa b A s]) := by
 refine FSpec.intro (rs := [.tmp 4]) (by kernel_rfl) Tryz.func63 rfl Tryz.ntmps63 (by rfl) rfl ?_
 intro F _
 change TC _ _ _ _ _ _ _ (sepL [_, _])
 refine TC.open 0 rfl (fun x0 hx0 => ?_)
 obtain ⟨ad, cap, mb⟩ := x0
 have hN := hx0
 change TC _ _ _ _ _ _ _ (sepL [_, _, _, _, _])
 dsimp only at hN ⊢
 by_cases h : id ∈ s.ids
 ·have hr : rowR s id = s.row id := if_pos h
  rw [hr] at hl ⊢
  haveI := tP_rd (A := A) (ad := ad) (cap := cap) (s := s) (x := id) h
  haveI := rP_rd (ad := ad) (cap := cap) (s := s) (x := id) h
  refine TC.seq ?_
  refine TC.region ?_
  refine was rfl rfl ?_
  refine TL.nil (nt ?_)
  refine TC.seq ?_
  refine TC.region ?_
  refine wmp rfl rfl ?_
  refine wmi rfl rfl ?_
  refine e rfl ?_
  refine cl (mat_yes b mb s.ids.length A s.ids id h) rfl PkL.p trivial ?_
  intro _ _
  change TL _ _ _ _ _ _ _ _ (sepL [_, _, _, _, _])
  refine wmt rfl rfl ?_
  refine q rfl rfl (pu (v := .pointer _) (fun _ => rfl)) ?_
  refine q rfl rfl (pu (v := .int _ _) (fun _ => rfl)) ?_
  refine wap rfl rfl ?_
  refine wai rfl rfl ?_
  refine TL.nil (nt ?_)
  refine TC.seq ?_
  refine TC.seq ?_
  refine TC.region ?_
  refine wmi rfl rfl ?_
  refine q rfl rfl (neI rfl rfl) ?_
  refine TL.nil (nt ?_)
  refine TC.condF rfl ?_
  refine TC.skip (nt ?_)
  refine TC.seq ?_
  refine TC.region ?_
  refine wmp rfl rfl ?_
  refine wnc rfl rfl ?_
  refine wfa 0 rfl rfl rfl ?_
  refine wfa 0 rfl rfl rfl ?_
  refine wld rfl rfl rfl rfl ?_
  refine e rfl ?_
  refine cl (cloneO_ok (ad id) (cap id) (s.row id) hl) rfl (picked_nil _) ⟨_, RdSI.rd (ad := ad id)⟩ ?_
  intro y _
  change TL _ _ _ _ _ _ _ _ (sepL [_, _, _, _, _, _])
  refine was rfl rfl ?_
  refine TL.nil (nt ?_)
  refine TC.ret ?_
  exact Ret.i y [_] ⟨rfl, trivial⟩ rfl trivial (ent_take 0 rfl (ent_close ⟨ad, cap, mb⟩ hN (ent_take 0 rfl (ent_take 0 rfl (ent_take 0 rfl (ent_take 0 rfl (ent_take 0 rfl (ent_nil _))))))))
 ·have hr : rowR s id = [] := if_neg h
  rw [hr]
  refine TC.seq ?_
  refine TC.region ?_
  refine was rfl rfl ?_
  refine TL.nil (nt ?_)
  refine TC.seq ?_
  refine TC.region ?_
  refine wmp rfl rfl ?_
  refine wmi rfl rfl ?_
  refine e rfl ?_
  refine cl (mat_no b mb s.ids.length A s.ids id h) rfl PkL.p trivial ?_
  intro _ _
  change TL _ _ _ _ _ _ _ _ (sepL [_, _, _, _, _])
  refine wmt rfl rfl ?_
  refine q rfl rfl (pu (v := .pointer _) (fun _ => rfl)) ?_
  refine q rfl rfl (pu (v := .int _ _) (fun _ => rfl)) ?_
  refine wap rfl rfl ?_
  refine wai rfl rfl ?_
  refine TL.nil (nt ?_)
  refine TC.seq ?_
  refine TC.seq ?_
  refine TC.region ?_
  refine wmi rfl rfl ?_
  refine q rfl rfl (neI rfl rfl) ?_
  refine TL.nil (nt ?_)
  refine TC.condT rfl ?_
  refine TC.seq ?_
  refine TC.region ?_
  refine was rfl rfl ?_
  refine TL.nil (nt ?_)
  refine TC.ret (rt ?_)
  exact Ret.i ⟨none, 0⟩ [_] ⟨rfl, trivial⟩ rfl trivial ((slc_nil 26 3 _).trans (ent_take 0 rfl (ent_close ⟨ad, cap, mb⟩ hN (ent_take 0 rfl (ent_take 0 rfl (ent_take 0 rfl (ent_take 0 rfl (ent_take 0 rfl (ent_nil _)))))))))
set_option maxRecDepth 4000 in
theorem mfirst_at (b : Nat) (A : Int → Nat) (s : MS) (id : Int) : FSpec Tryz.prog 44 [.pointer (some ⟨b, 0, none⟩), .int .i64 id] noRd [isMa b A s] (fun _ : Unit => .tuple #[.agg (ofC (hdO (rowR s id))).toArray, .bool (hdB (rowR s id))]) (fun _ => True) (fun _ => [isMa b A s]) := by
 refine FSpec.intro (rs := [.cell 4 26, .tmp 5]) (by kernel_rfl) Tryz.func44 rfl Tryz.ntmps44 (by rfl) rfl ?_
 intro F _
 change TC _ _ _ _ _ _ _ (sepL [_, _])
 refine TC.seq ?_
 refine TC.region ?_
 refine e rfl ?_
 refine al (l := [.int _ _, .int _ _, .bool _]) rfl rfl ?_
 intro b3
 refine wab rfl rfl ?_
 refine TL.nil (nt ?_)
 refine TC.seq ?_
 refine TC.open 1 rfl (fun x0 hx0 => ?_)
 obtain ⟨ad, cap, mb⟩ := x0
 have hN := hx0
 change TC _ _ _ _ _ _ _ (sepL [_, _, _, _, _, _])
 dsimp only at hN ⊢
 by_cases h : id ∈ s.ids
 ·have hr : rowR s id = s.row id := if_pos h
  rw [hr]
  refine TC.region ?_
  refine wmp rfl rfl ?_
  refine wmi rfl rfl ?_
  refine e rfl ?_
  refine cl (mat_yes b mb s.ids.length A s.ids id h) rfl PkL.p trivial ?_
  intro _ _
  change TL _ _ _ _ _ _ _ _ (sepL [_, _, _, _, _, _])
  refine wmt rfl rfl ?_
  refine q rfl rfl (pu (v := .pointer _) (fun _ => rfl)) ?_
  refine q rfl rfl (pu (v := .int _ _) (fun _ => rfl)) ?_
  refine wap rfl rfl ?_
  refine wai rfl rfl ?_
  refine TL.nil (nt ?_)
  refine TC.seq ?_
  refine TC.seq ?_
  refine TC.region ?_
  refine wmi rfl rfl ?_
  refine q rfl rfl (neI rfl rfl) ?_
  refine TL.nil (nt ?_)
  refine TC.condF rfl ?_
  refine TC.skip (nt ?_)
  refine TC.seq ?_
  refine TC.region ?_
  refine wmp rfl rfl ?_
  refine wnc rfl rfl ?_
  refine wfa 0 rfl rfl rfl ?_
  refine e rfl ?_
  refine cl (mfirst_ok A ad cap s s.ids id h hN) rfl PkL.p trivial ?_
  intro _ _
  change TL _ _ _ _ _ _ _ _ (sepL [_, _, _, _, _, _])
  refine q rfl rfl (pu (v := .agg #[_, _, _]) (fun _ => rfl)) ?_
  refine q rfl rfl (pu (v := .bool _) (fun _ => rfl)) ?_
  refine e0 ?_
  refine st (v := .agg #[_, _, _]) (vs := [_, _, _]) 3 rfl rfl rfl rfl rfl rfl (Nat.le_of_ble_eq_true rfl) rfl ?_
  refine wab rfl rfl ?_
  refine TL.nil (nt ?_)
  refine TC.ret ?_
  exact Ret.i () [_, _] ⟨(rcN (n := 3) rfl rfl rfl rfl), rfl, trivial⟩ rfl trivial (ent_close (⟨ad, cap, mb⟩ : MRep) hN (ent_take 3 rfl (ent_take 3 rfl (ent_take 1 rfl (ent_take 1 rfl (ent_take 1 rfl (ent_nil _)))))))
 ·have hr : rowR s id = [] := if_neg h
  rw [hr]
  refine TC.region ?_
  refine wmp rfl rfl ?_
  refine wmi rfl rfl ?_
  refine e rfl ?_
  refine cl (mat_no b mb s.ids.length A s.ids id h) rfl PkL.p trivial ?_
  intro _ _
  change TL _ _ _ _ _ _ _ _ (sepL [_, _, _, _, _, _])
  refine wmt rfl rfl ?_
  refine q rfl rfl (pu (v := .pointer _) (fun _ => rfl)) ?_
  refine q rfl rfl (pu (v := .int _ _) (fun _ => rfl)) ?_
  refine wap rfl rfl ?_
  refine wai rfl rfl ?_
  refine TL.nil (nt ?_)
  refine TC.seq ?_
  refine TC.seq ?_
  refine TC.region ?_
  refine wmi rfl rfl ?_
  refine q rfl rfl (neI rfl rfl) ?_
  refine TL.nil (nt ?_)
  refine TC.condT rfl ?_
  refine TC.seq ?_
  refine TC.region ?_
  refine q rfl rfl (bld (cs := [.int _ _, .int _ _, .bool _]) rfl) ?_
  refine e0 ?_
  refine st (v := .agg #[_, _, _]) (vs := [_, _, _]) 3 rfl rfl rfl rfl rfl rfl (Nat.le_of_ble_eq_true rfl) rfl ?_
  refine wab rfl rfl ?_
  refine TL.nil (nt ?_)
  refine TC.ret (rt ?_)
  exact Ret.i () [_, _] ⟨(rcN (n := 3) rfl rfl rfl rfl), rfl, trivial⟩ rfl trivial (ent_close (⟨ad, cap, mb⟩ : MRep) hN (ent_take 1 rfl (ent_take 1 rfl (ent_take 1 rfl (ent_take 1 rfl (ent_take 1 rfl (ent_nil _)))))))
set_option maxRecDepth 4000 in
theorem mjoin_ok (b : Nat) (A : Int → Nat) (s : MS) (ax : Option Addr) (cx : Nat) (xs : List Int) (hl : xs.length ≤ 1000000) (hl2 : s.ids.length ≤ 1000000) : FSpec Tryz.prog 47 [.pointer (some ⟨b, 0, none⟩), .slice ax xs.length cx] (fun F => ∃ E, RdS F E ax (ints xs)) [isMa b A s] (fun _ : Int → Nat => .int .i64 ((joinL s xs).ids.length - s.ids.length : Int)) (fun _ => True) (fun A2 => [isMa b A2 (joinL s xs)]) := by
 refine FSpec.intro (rs := [.tmp 4]) (by kernel_rfl) Tryz.func47 rfl Tryz.ntmps47 (by rfl) rfl ?_
 intro F ⟨E, hF⟩
 change TC _ _ _ _ _ _ _ (sepL [_, _])
 haveI : RdSI F ax E (ints xs) := ⟨hF⟩
 have hxl := ints_length xs
 refine TC.open 0 rfl (fun x0 hx0 => ?_)
 obtain ⟨ad, cap, mb⟩ := x0
 have hN := hx0
 change TC _ _ _ _ _ _ _ (sepL [_, _, _, _, _])
 dsimp only at hN ⊢
 refine TC.weak (B := sepL [isMa b A s, F]) (ent_close ⟨ad, cap, mb⟩ hN (ent_take 0 rfl (ent_take 0 rfl (ent_take 0 rfl (ent_take 0 rfl (ent_take 0 rfl (ent_nil _))))))) ?_
 clear hN
 refine TC.seq ?_
 refine TC.region ?_
 refine wai rfl rfl ?_
 refine TL.nil (nt ?_)
 refine TC.seq ?_
 refine TC.region ?_
 refine wai rfl rfl ?_
 refine TL.nil (nt ?_)
 refine TC.seq ?_
 refine TC.seq ?_
 refine TC.region ?_
 refine wms rfl rfl ?_
 refine q rfl rfl (len 3 1 rfl rfl) ?_
 refine wmi rfl rfl ?_
 refine TL.nil (nt ?_)
 refine TC.block ?_
 refine TC.loop (ι := Nat × (Int → Nat)) (fun u => u.1 ≤ xs.length) (fun u => [(0, .pointer (some ⟨b, 0, none⟩)), (5, .int .i64 ((joinL s (xs.take u.1)).ids.length - s.ids.length : Int)), (10, .slice ax xs.length cx), (11, .int .i64 xs.length), (12, .int .i64 ((u.1 : Nat) : Int))]) (fun u => sepL [isMa b u.2 (joinL s (xs.take u.1)), F]) (fun u => xs.length - u.1) ⟨0, A⟩ (Nat.zero_le _) ⟨rfl, congrArg (Value.int .i64) (Int.sub_self _).symm, rfl, rfl, rfl, trivial⟩ (ent_take 0 rfl (ent_take 0 rfl (ent_nil _))) ?_
 rintro ⟨k, A⟩ hk ρ0
 dsimp only [updL] at hk ⊢
 refine TC.seq ?_
 refine TC.region ?_
 refine q rfl rfl (lss rfl rfl) ?_
 refine TL.nil (nt ?_)
 refine TC.seq ?_
 refine TC.condD rfl (fun hlt => ?_) (fun hlt => ?_)
 ·have hlt2 : k < xs.length := by omega
  obtain ⟨x, hx⟩ : ∃ x, xs[k]? = some x := ⟨xs[k], List.getElem?_eq_getElem hlt2⟩
  have hpos : 0 < (ints xs).length := by omega
  have hsn := joinL_snoc s xs hx
  have hjl := joinL_len (xs.take k) s
  have hjt : (xs.take k).length ≤ k := by rw [List.length_take]; omega
  generalize (joinL s (xs.take k)) = Z at hsn hjl ⊢
  refine TC.open 0 rfl (fun x0 hx0 => ?_)
  obtain ⟨ad, cap, mb⟩ := x0
  have hN := hx0
  change TC _ _ _ _ _ _ _ (sepL [_, _, _, _, _])
  dsimp only at hN ⊢
  by_cases h : x ∈ Z.ids
  ·rw [joinS, if_pos (.inl h)] at hsn
   refine TC.skip (nt ?_)
   refine TC.seq ?_
   refine TC.block ?_
   refine TC.seq ?_
   refine TC.region ?_
   refine q rfl rfl (ixS 3 1 rfl rfl rfl (by omega) (by assumption)) ?_
   refine q rfl rfl (ldS rfl rfl (ints_get hx)) ?_
   refine wai rfl rfl ?_
   refine TL.nil (nt ?_)
   refine TC.seq ?_
   refine TC.region ?_
   refine wmp rfl rfl ?_
   refine wmi rfl rfl ?_
   refine e rfl ?_
   refine cl (mat_yes b mb Z.ids.length A Z.ids x h) rfl PkL.p trivial ?_
   intro _ _
   change TL _ _ _ _ _ _ _ _ (sepL [_, _, _, _, _])
   refine wmt rfl rfl ?_
   refine q rfl rfl (pu (v := .pointer _) (fun _ => rfl)) ?_
   refine q rfl rfl (pu (v := .int _ _) (fun _ => rfl)) ?_
   refine wap rfl rfl ?_
   refine wai rfl rfl ?_
   refine TL.nil (nt ?_)
   refine TC.seq ?_
   refine TC.region ?_
   refine wmi rfl rfl ?_
   refine q rfl rfl (eqI rfl rfl) ?_
   refine wmb rfl rfl ?_
   refine TL.known 24 rfl (c := false) (by decide) ?_
   refine qs rfl rfl ?_
   refine qs rfl rfl ?_
   refine q rfl rfl (pkF (v := .bool _) rfl rfl) ?_
   refine TL.nil (nt ?_)
   refine TC.condF rfl ?_
   refine TC.skip (nb (nt ?_))
   refine TC.region ?_
   refine q rfl rfl (addI rfl rfl (by omega) (by omega)) ?_
   refine wmi rfl rfl ?_
   refine TL.nil (nt ?_)
   exact ⟨rfl, ⟨k + 1, A⟩, (by dsimp only; omega), (by dsimp only; omega), ⟨rfl, congrArg (fun z : MS => Value.int .i64 ((z.ids.length : Int) - s.ids.length)) hsn.symm, rfl, rfl, rfl, trivial⟩, (by dsimp only; rw [hsn]; exact (ent_close ⟨ad, cap, mb⟩ hN (ent_take 0 rfl (ent_take 0 rfl (ent_take 0 rfl (ent_take 0 rfl (ent_take 0 rfl (ent_nil _))))))))⟩
  ·refine TC.skip (nt ?_)
   refine TC.seq ?_
   refine TC.block ?_
   refine TC.seq ?_
   refine TC.region ?_
   refine q rfl rfl (ixS 3 1 rfl rfl rfl (by omega) (by assumption)) ?_
   refine q rfl rfl (ldS rfl rfl (ints_get hx)) ?_
   refine wai rfl rfl ?_
   refine TL.nil (nt ?_)
   refine TC.seq ?_
   refine TC.region ?_
   refine wmp rfl rfl ?_
   refine wmi rfl rfl ?_
   refine e rfl ?_
   refine cl (mat_no b mb Z.ids.length A Z.ids x h) rfl PkL.p trivial ?_
   intro _ _
   change TL _ _ _ _ _ _ _ _ (sepL [_, _, _, _, _])
   refine wmt rfl rfl ?_
   refine q rfl rfl (pu (v := .pointer _) (fun _ => rfl)) ?_
   refine q rfl rfl (pu (v := .int _ _) (fun _ => rfl)) ?_
   refine wap rfl rfl ?_
   refine wai rfl rfl ?_
   refine TL.nil (nt ?_)
   refine TC.seq ?_
   refine TC.region ?_
   refine wmi rfl rfl ?_
   refine q rfl rfl (eqI rfl rfl) ?_
   refine wmb rfl rfl ?_
   refine TL.known 24 rfl (c := true) (by decide) ?_
   refine qg rfl rfl rfl (mv (v := .int _ _) rfl) ?_
   refine qg rfl rfl rfl (geq rfl rfl) ?_
   refine q rfl rfl (pkT (v := .bool _) rfl rfl) ?_
   refine TL.nil (nt ?_)
   refine TC.condD rfl (fun hge => ?_) (fun hge => ?_)
   ·rw [joinS, if_neg (fun h2 => h2.elim h (by omega))] at hsn
    have hfx := fM_no (A := A) h
    have hN2 : (Z.ids ++ [x]).Nodup := List.nodup_append.2 ⟨hN, by simp, fun a ha b hb e2 => h (by rw [List.mem_singleton] at hb; rw [← hb, ← e2]; exact ha)⟩
    refine TC.seq ?_
    refine TC.region ?_
    refine wmp rfl rfl ?_
    refine wnc rfl rfl ?_
    refine wfa 0 rfl rfl rfl ?_
    refine wld rfl rfl rfl rfl ?_
    refine wmi rfl rfl ?_
    refine q rfl rfl (bld (cs := [.slice _ _ _, .int _ _, .int _ _, .int _ _]) rfl) ?_
    refine e rfl ?_
    refine bx (v := .agg #[_, _, _, _]) (l := [.slice _ _ _, .int _ _, .int _ _, .int _ _]) rfl rfl ?_
    intro b5
    refine e0 ?_
    refine muF 3 118 rfl (KL.int rfl) rfl rfl rfl ?_
    refine TL.nil (nt ?_)
    refine TC.region ?_
    refine wmi rfl rfl ?_
    refine q rfl rfl (addI rfl rfl (by omega) (by omega)) ?_
    refine wai rfl rfl ?_
    refine TL.nil (nb (nt ?_))
    refine TC.region ?_
    refine q rfl rfl (addI rfl rfl (by omega) (by omega)) ?_
    refine wmi rfl rfl ?_
    refine TL.nil (nt ?_)
    have hne : ∀ y ∈ Z.ids, y ≠ x := fun y hy e2 => h (e2 ▸ hy)
    have hP2 : (x :: Z.ids).Perm (Z.ids ++ [x]) := (List.perm_append_singleton _ _).symm
    have hcN : ∀ y ∈ Z.ids, tP A ad cap Z y = tP (updI A x b5) (updI ad x none) (updI cap x 0) (⟨Z.ids ++ [x], updI Z.st x 0, updI Z.cl x (-1), updI Z.pn x (-1), updI Z.row x []⟩ : MS) y := fun y hy => by
     have h2 := hne y hy
     dsimp only [tP]; simp only [updI_ne h2]
    have hcK : ∀ y ∈ Z.ids, rP ad cap Z y = rP (updI ad x none) (updI cap x 0) (⟨Z.ids ++ [x], updI Z.st x 0, updI Z.cl x (-1), updI Z.pn x (-1), updI Z.row x []⟩ : MS) y := fun y hy => by
     have h2 := hne y hy
     dsimp only [rP]; simp only [updI_ne h2]
    exact ⟨rfl, ⟨k + 1, updI A x b5⟩, (by dsimp only; omega), (by dsimp only; omega), ⟨rfl, congrArg (Value.int .i64) (by dsimp only; rw [hsn, List.length_append, List.length_singleton]; omega), rfl, rfl, rfl, trivial⟩, (by dsimp only; rw [hsn]; exact (slc_nil 26 3 _).trans (ent_close ⟨updI ad x none, updI cap x 0, mb⟩ hN2 (ent_take 3 rfl (ent_takeE 1 rfl (by dsimp only; rw [fM_add, hfx, List.length_append]; rfl) (ent_closeB 1 1 x rfl rfl (by dsimp only [tP]; simp only [updI_same]; rfl) hcN hP2 (ent_closeB 0 0 x rfl rfl (by dsimp only [rP]; simp only [updI_same]; rfl) hcK hP2 (ent_take 0 rfl (ent_nil _))))))))⟩
   ·rw [joinS, if_pos (.inr (by omega))] at hsn
    refine TC.skip (nb (nt ?_))
    refine TC.region ?_
    refine q rfl rfl (addI rfl rfl (by omega) (by omega)) ?_
    refine wmi rfl rfl ?_
    refine TL.nil (nt ?_)
    exact ⟨rfl, ⟨k + 1, A⟩, (by dsimp only; omega), (by dsimp only; omega), ⟨rfl, congrArg (fun z : MS => Value.int .i64 ((z.ids.length : Int) - s.ids.length)) hsn.symm, rfl, rfl, rfl, trivial⟩, (by dsimp only; rw [hsn]; exact (ent_close ⟨ad, cap, mb⟩ hN (ent_take 0 rfl (ent_take 0 rfl (ent_take 0 rfl (ent_take 0 rfl (ent_take 0 rfl (ent_nil _))))))))⟩
 ·obtain rfl : k = xs.length := by omega
  rw [List.take_length]
  refine TC.exit (et (et (eb (nt ?_))))
  refine TC.seq ?_
  refine TC.region ?_
  refine wmi rfl rfl ?_
  refine wai rfl rfl ?_
  refine TL.nil (nt ?_)
  refine TC.ret ?_
  exact Ret.i A [_] ⟨rfl, trivial⟩ rfl trivial (ent_take 0 rfl (ent_take 0 rfl (ent_nil _)))
end Go.Proofs.YtdfmfhcjnjfjbaaGreat
namespace Go.Proofs.YtdfmfhcjnjfjbaaGreat
open Go Go.QM
theorem nodup_sub_len {l m : List Int} (h : l.Nodup) (hs : ∀ x ∈ l, x ∈ m) : l.length ≤ m.length := by
  induction l generalizing m with
  | nil => simp
  | cons a l ih =>
    obtain ⟨h1, h2⟩ := List.nodup_cons.1 h
    obtain ⟨s, t, rfl⟩ := List.append_of_mem (hs a (by simp))
    have := ih (m := s ++ t) h2 (fun x hx => by
      have h3 := hs x (by simp [hx])
      have h4 : x ≠ a := fun e => h1 (e ▸ hx)
      simp at h3 ⊢
      rcases h3 with h3 | h3 | h3
      · exact .inl h3
      · exact absurd h3 h4
      · exact .inr h3)
    simp at this ⊢; omega
structure WM (s : MS) : Prop where
  nd : s.ids.Nodup
  ge : ∀ x ∈ s.ids, 0 ≤ x
  rg : ∀ x ∈ s.ids, s.st x = 0 ∨ s.st x = 1 ∨ s.st x = 2 ∨ s.st x = 3
  row : ∀ x ∈ s.ids, ∀ o ∈ s.row x, o.fr ∈ s.ids ∧ o.fr ≠ x ∧ s.st o.fr = 1 ∧ s.pn o.fr = x
  nr : ∀ x ∈ s.ids, ((s.row x).map (·.fr)).Nodup
  snd : ∀ x ∈ s.ids, s.st x = 1 → s.pn x ∈ s.ids ∧ ∃ o ∈ s.row (s.pn x), o.fr = x
  cal : ∀ x ∈ s.ids, s.cl x ≠ -1 → s.cl x ∈ s.ids ∧ s.cl x ≠ x ∧ s.st (s.cl x) = 3 ∧ s.pn (s.cl x) = x
  ask : ∀ x ∈ s.ids, s.st x = 3 → s.pn x ∈ s.ids ∧ s.cl (s.pn x) = x
  idle : ∀ x ∈ s.ids, s.st x ≠ 1 → s.st x ≠ 3 → s.pn x = -1
theorem WM.zero : WM s0 := ⟨List.nodup_nil, fun _ h => (List.not_mem_nil h).elim, fun _ h => (List.not_mem_nil h).elim, fun _ h => (List.not_mem_nil h).elim, fun _ h => (List.not_mem_nil h).elim, fun _ h => (List.not_mem_nil h).elim, fun _ h => (List.not_mem_nil h).elim, fun _ h => (List.not_mem_nil h).elim, fun _ h => (List.not_mem_nil h).elim⟩
theorem WM.ext {s t : MS} (h : WM s) (hi : t.ids = s.ids) (h1 : ∀ x ∈ s.ids, t.st x = s.st x ∧ t.cl x = s.cl x ∧ t.pn x = s.pn x ∧ t.row x = s.row x) : WM t where
  nd := by rw [hi]; exact h.nd
  ge := by rw [hi]; exact h.ge
  rg := fun x hx => by rw [hi] at hx; rw [(h1 x hx).1]; exact h.rg x hx
  row := fun x hx o ho => by
    rw [hi] at hx; rw [(h1 x hx).2.2.2] at ho
    have := h.row x hx o ho
    rw [hi, (h1 _ this.1).1, (h1 _ this.1).2.2.1]; exact this
  nr := fun x hx => by rw [hi] at hx; rw [(h1 x hx).2.2.2]; exact h.nr x hx
  snd := fun x hx hs => by
    rw [hi] at hx; rw [(h1 x hx).1] at hs
    have := h.snd x hx hs
    rw [hi, (h1 x hx).2.2.1, (h1 _ this.1).2.2.2]; exact this
  cal := fun x hx hc => by
    rw [hi] at hx; rw [(h1 x hx).2.1] at hc
    have := h.cal x hx hc
    rw [hi, (h1 x hx).2.1, (h1 _ this.1).1, (h1 _ this.1).2.2.1]; exact this
  ask := fun x hx hs => by
    rw [hi] at hx; rw [(h1 x hx).1] at hs
    have := h.ask x hx hs
    rw [hi, (h1 x hx).2.2.1, (h1 _ this.1).2.1]; exact this
  idle := fun x hx a b => by
    rw [hi] at hx; rw [(h1 x hx).1] at a b
    rw [(h1 x hx).2.2.1]; exact h.idle x hx a b
def frL (s : MS) (Y : List Int) : MS := { s with st := fun x => if x ∈ Y then 0 else s.st x, pn := fun x => if x ∈ Y then -1 else s.pn x }
theorem foldl_fr (Y : List Int) : ∀ s : MS, Y.foldl frS s = frL s Y := by
  induction Y with
  | nil => intro s; simp [frL]
  | cons y Y ih =>
    intro s
    rw [List.foldl_cons, ih, frL, frL]
    simp only [frS, MS.mk.injEq, true_and]
    constructor
    · funext x
      by_cases h : x ∈ Y
      · rw [if_pos h, if_pos (by simp [h])]
      · rw [if_neg h]
        by_cases e : x = y
        · rw [if_pos (by simp [e]), e, updI_same]
        · rw [if_neg (by simp [e, h]), updI_ne e]
    · constructor
      · funext x
        by_cases h : x ∈ Y
        · rw [if_pos h, if_pos (by simp [h])]
        · rw [if_neg h]
          by_cases e : x = y
          · rw [if_pos (by simp [e]), e, updI_same]
          · rw [if_neg (by simp [e, h]), updI_ne e]
      · trivial
def unL (s : MS) (Y : List Int) : MS := { frL s Y with row := fun x => (s.row x).filter fun o => decide (o.fr ∉ Y) }
theorem WM.un {s : MS} (h : WM s) (Y : List Int) (hY : ∀ y ∈ Y, y ∈ s.ids ∧ s.st y = 1) : WM (unL s Y) where
  nd := h.nd
  ge := h.ge
  rg := fun x hx => by
    show (if x ∈ Y then (0 : Int) else s.st x) = 0 ∨ _
    have := h.rg x hx
    dsimp only [unL, frL]
    split
    · exact .inl rfl
    · exact this
  row := fun x hx o ho => by
    obtain ⟨ho1, ho2⟩ := List.mem_filter.1 ho
    have ho2 : o.fr ∉ Y := by simpa using ho2
    have := h.row x hx o ho1
    dsimp only [unL, frL]
    rw [if_neg ho2, if_neg ho2]; exact this
  nr := fun x hx => (h.nr x hx).sublist (List.filter_sublist.map _)
  snd := fun x hx hs => by
    dsimp only [unL, frL] at hs ⊢
    by_cases hm : x ∈ Y
    · rw [if_pos hm] at hs; cases hs
    · rw [if_neg hm] at hs ⊢
      obtain ⟨h1, o, h2, h3⟩ := h.snd x hx hs
      exact ⟨h1, o, List.mem_filter.2 ⟨h2, by rw [h3]; simpa using hm⟩, h3⟩
  cal := fun x hx hc => by
    obtain ⟨h1, h2, h3, h4⟩ := h.cal x hx hc
    have hm : s.cl x ∉ Y := fun hm => by have := (hY _ hm).2; omega
    dsimp only [unL, frL]
    rw [if_neg hm, if_neg hm]; exact ⟨h1, h2, h3, h4⟩
  ask := fun x hx hs => by
    dsimp only [unL, frL] at hs ⊢
    by_cases hm : x ∈ Y
    · rw [if_pos hm] at hs; cases hs
    · rw [if_neg hm] at hs ⊢; exact h.ask x hx hs
  idle := fun x hx a b => by
    dsimp only [unL, frL] at a b ⊢
    by_cases hm : x ∈ Y
    · rw [if_pos hm]
    · rw [if_neg hm] at a b ⊢; exact h.idle x hx a b
theorem WM.unask {s : MS} (h : WM s) {y : Int} (hy : y ∈ s.ids) (hs : s.st y = 3) : WM ⟨s.ids, updI s.st y 0, updI s.cl (s.pn y) (-1), updI s.pn y (-1), s.row⟩ where
  nd := h.nd
  ge := h.ge
  rg := fun x hx => by
    dsimp only
    by_cases e : x = y
    · rw [e, updI_same]; exact .inl rfl
    · rw [updI_ne e]; exact h.rg x hx
  row := fun x hx o ho => by
    have := h.row x hx o ho
    have e : o.fr ≠ y := fun e => by rw [e] at this; omega
    dsimp only
    rw [updI_ne e, updI_ne e]; exact this
  nr := h.nr
  snd := fun x hx hst => by
    dsimp only at hst ⊢
    by_cases e : x = y
    · rw [e, updI_same] at hst; cases hst
    · rw [updI_ne e] at hst ⊢; exact h.snd x hx hst
  cal := fun x hx hc => by
    dsimp only at hc ⊢
    by_cases e : x = s.pn y
    · rw [e, updI_same] at hc; exact absurd rfl hc
    · rw [updI_ne e] at hc ⊢
      have := h.cal x hx hc
      have e2 : s.cl x ≠ y := fun e2 => by rw [e2] at this; exact e this.2.2.2.symm
      rw [updI_ne e2, updI_ne e2]; exact this
  ask := fun x hx hst => by
    dsimp only at hst ⊢
    by_cases e : x = y
    · rw [e, updI_same] at hst; cases hst
    · rw [updI_ne e] at hst ⊢
      have h1 := h.ask x hx hst
      have h2 := h.ask y hy hs
      have e2 : s.pn x ≠ s.pn y := fun e2 => e (by rw [← h1.2, e2, h2.2])
      rw [updI_ne e2]; exact h1
  idle := fun x hx a b => by
    dsimp only at a b ⊢
    by_cases e : x = y
    · rw [e, updI_same]
    · rw [updI_ne e] at a b ⊢; exact h.idle x hx a b
theorem WM.set {s : MS} (h : WM s) {y v : Int} (hs : s.st y ≠ 1 ∧ s.st y ≠ 3) (hp : s.pn y = -1) (hv : v = 0 ∨ v = 2) : WM (stS s y v) where
  nd := h.nd
  ge := h.ge
  rg := fun x hx => by
    dsimp only [stS]
    by_cases e : x = y
    · rw [e, updI_same]; omega
    · rw [updI_ne e]; exact h.rg x hx
  row := fun x hx o ho => by
    have := h.row x hx o ho
    have e : o.fr ≠ y := fun e => by rw [e] at this; omega
    dsimp only [stS]
    rw [updI_ne e]; exact this
  nr := h.nr
  snd := fun x hx hst => by
    dsimp only [stS] at hst ⊢
    by_cases e : x = y
    · rw [e, updI_same] at hst; omega
    · rw [updI_ne e] at hst; exact h.snd x hx hst
  cal := fun x hx hc => by
    have := h.cal x hx hc
    have e : s.cl x ≠ y := fun e => by rw [e] at this; omega
    dsimp only [stS]
    rw [updI_ne e]; exact this
  ask := fun x hx hst => by
    dsimp only [stS] at hst ⊢
    by_cases e : x = y
    · rw [e, updI_same] at hst; omega
    · rw [updI_ne e] at hst; exact h.ask x hx hst
  idle := fun x hx a b => by
    dsimp only [stS] at a b ⊢
    by_cases e : x = y
    · rw [e]; exact hp
    · rw [updI_ne e] at a b; exact h.idle x hx a b
theorem WM.send {s : MS} (h : WM s) {to : Int} {o : Off} (hf : o.fr ∈ s.ids) (ht : to ∈ s.ids) (hne : o.fr ≠ to) (hs : s.st o.fr = 0) : WM (pushS (wtS s o.fr 1 to) to o) where
  nd := h.nd
  ge := h.ge
  rg := fun x hx => by
    dsimp only [pushS, wtS]
    by_cases e : x = o.fr
    · rw [e, updI_same]; omega
    · rw [updI_ne e]; exact h.rg x hx
  row := fun x hx u hu => by
    dsimp only [pushS, wtS] at hu ⊢
    have old : u ∈ s.row x → u.fr ∈ s.ids ∧ u.fr ≠ x ∧ updI s.st o.fr 1 u.fr = 1 ∧ updI s.pn o.fr to u.fr = x := fun hu => by
      have := h.row x hx u hu
      have e : u.fr ≠ o.fr := fun e => by rw [e] at this; omega
      rw [updI_ne e, updI_ne e]; exact this
    by_cases e : x = to
    · subst e
      rw [updI_same] at hu
      rcases List.mem_append.1 hu with hu | hu
      · exact old hu
      · rw [List.mem_singleton.1 hu, updI_same, updI_same]; exact ⟨hf, hne, rfl, rfl⟩
    · rw [updI_ne e] at hu; exact old hu
  nr := fun x hx => by
    dsimp only [pushS, wtS]
    by_cases e : x = to
    · subst e
      rw [updI_same, List.map_append, List.nodup_append]
      refine ⟨h.nr x hx, by simp, fun a ha c hc e2 => ?_⟩
      obtain ⟨u, hu, rfl⟩ := List.mem_map.1 ha
      have := h.row x hx u hu
      simp only [List.map_cons, List.map_nil, List.mem_singleton] at hc
      rw [e2, hc] at this; omega
    · rw [updI_ne e]; exact h.nr x hx
  snd := fun x hx hst => by
    dsimp only [pushS, wtS] at hst ⊢
    by_cases e : x = o.fr
    · subst e
      rw [updI_same, updI_same]; exact ⟨ht, o, by simp, rfl⟩
    · rw [updI_ne e] at hst ⊢
      obtain ⟨h1, u, h2, h3⟩ := h.snd x hx hst
      refine ⟨h1, u, ?_, h3⟩
      by_cases e2 : s.pn x = to
      · rw [e2, updI_same]; rw [e2] at h2; exact List.mem_append.2 (.inl h2)
      · rw [updI_ne e2]; exact h2
  cal := fun x hx hc => by
    have := h.cal x hx hc
    have e : s.cl x ≠ o.fr := fun e => by rw [e] at this; omega
    dsimp only [pushS, wtS]
    rw [updI_ne e, updI_ne e]; exact this
  ask := fun x hx hst => by
    dsimp only [pushS, wtS] at hst ⊢
    by_cases e : x = o.fr
    · rw [e, updI_same] at hst; omega
    · rw [updI_ne e] at hst ⊢; exact h.ask x hx hst
  idle := fun x hx a b => by
    dsimp only [pushS, wtS] at a b ⊢
    by_cases e : x = o.fr
    · rw [e, updI_same] at a; exact absurd rfl a
    · rw [updI_ne e] at a b ⊢; exact h.idle x hx a b
theorem WM.link {s : MS} (h : WM s) {to f : Int} (hf : f ∈ s.ids) (ht : to ∈ s.ids) (hne : f ≠ to) (hs : s.st f = 0) (hc : s.cl to = -1) : WM (wtS (clS s to f) f 3 to) where
  nd := h.nd
  ge := h.ge
  rg := fun x hx => by
    dsimp only [clS, wtS]
    by_cases e : x = f
    · rw [e, updI_same]; omega
    · rw [updI_ne e]; exact h.rg x hx
  row := fun x hx u hu => by
    have := h.row x hx u hu
    have e : u.fr ≠ f := fun e => by rw [e] at this; omega
    dsimp only [clS, wtS]
    rw [updI_ne e, updI_ne e]; exact this
  nr := h.nr
  snd := fun x hx hst => by
    dsimp only [clS, wtS] at hst ⊢
    by_cases e : x = f
    · rw [e, updI_same] at hst; omega
    · rw [updI_ne e] at hst ⊢; exact h.snd x hx hst
  cal := fun x hx hc2 => by
    dsimp only [clS, wtS] at hc2 ⊢
    by_cases e : x = to
    · subst e
      rw [updI_same, updI_same, updI_same]; exact ⟨hf, hne, rfl, rfl⟩
    · rw [updI_ne e] at hc2 ⊢
      have := h.cal x hx hc2
      have e2 : s.cl x ≠ f := fun e2 => by rw [e2] at this; omega
      rw [updI_ne e2, updI_ne e2]; exact this
  ask := fun x hx hst => by
    dsimp only [clS, wtS] at hst ⊢
    by_cases e : x = f
    · subst e; rw [updI_same, updI_same]; exact ⟨ht, rfl⟩
    · rw [updI_ne e] at hst ⊢
      have h1 := h.ask x hx hst
      have e2 : s.pn x ≠ to := fun e2 => by have := h.ge x hx; rw [e2] at h1; omega
      rw [updI_ne e2]; exact h1
  idle := fun x hx a b => by
    dsimp only [clS, wtS] at a b ⊢
    by_cases e : x = f
    · rw [e, updI_same] at b; exact absurd rfl b
    · rw [updI_ne e] at a b ⊢; exact h.idle x hx a b
theorem WM.join {s : MS} (h : WM s) (x : Int) : WM (joinS s x) := by
  rw [joinS]
  split
  · exact h
  · rename_i hx
    have hn : x ∉ s.ids := fun h2 => hx (.inl h2)
    have h0 : 0 ≤ x := by omega
    have ne : ∀ y ∈ s.ids, y ≠ x := fun y hy e => hn (e ▸ hy)
    have cases_ : ∀ y, y ∈ s.ids ++ [x] → y ∈ s.ids ∨ y = x := fun y hy => by simpa using hy
    have mem : ∀ y, y ∈ s.ids → y ∈ s.ids ++ [x] := fun y hy => by simp [hy]
    refine ⟨List.nodup_append.2 ⟨h.nd, by simp, fun a ha c hc e => ne a ha (by rw [e]; simpa using hc)⟩, fun y hy => ?_, fun y hy => ?_, fun y hy o ho => ?_, fun y hy => ?_, fun y hy hst => ?_, fun y hy hc => ?_, fun y hy hst => ?_, fun y hy a b => ?_⟩
    · rcases cases_ y hy with hy | rfl
      · exact h.ge y hy
      · exact h0
    · dsimp only
      rcases cases_ y hy with hy | rfl
      · rw [updI_ne (ne y hy)]; exact h.rg y hy
      · rw [updI_same]; exact .inl rfl
    · dsimp only at ho ⊢
      rcases cases_ y hy with hy | rfl
      · rw [updI_ne (ne y hy)] at ho
        have := h.row y hy o ho
        rw [updI_ne (ne _ this.1), updI_ne (ne _ this.1)]; exact ⟨mem _ this.1, this.2⟩
      · rw [updI_same] at ho; cases ho
    · dsimp only
      rcases cases_ y hy with hy | rfl
      · rw [updI_ne (ne y hy)]; exact h.nr y hy
      · rw [updI_same]; exact List.nodup_nil
    · dsimp only at hst ⊢
      rcases cases_ y hy with hy | rfl
      · rw [updI_ne (ne y hy)] at hst ⊢
        have := h.snd y hy hst
        rw [updI_ne (ne _ this.1)]; exact ⟨mem _ this.1, this.2⟩
      · rw [updI_same] at hst; cases hst
    · dsimp only at hc ⊢
      rcases cases_ y hy with hy | rfl
      · rw [updI_ne (ne y hy)] at hc ⊢
        have := h.cal y hy hc
        rw [updI_ne (ne _ this.1), updI_ne (ne _ this.1)]; exact ⟨mem _ this.1, this.2⟩
      · rw [updI_same] at hc; exact absurd rfl hc
    · dsimp only at hst ⊢
      rcases cases_ y hy with hy | rfl
      · rw [updI_ne (ne y hy)] at hst ⊢
        have := h.ask y hy hst
        rw [updI_ne (ne _ this.1)]; exact ⟨mem _ this.1, this.2⟩
      · rw [updI_same] at hst; cases hst
    · dsimp only at a b ⊢
      rcases cases_ y hy with hy | rfl
      · rw [updI_ne (ne y hy)] at a b ⊢; exact h.idle y hy a b
      · rw [updI_same]
theorem WM.drop {s : MS} (h : WM s) {x : Int} (hs : s.st x ≠ 1) (hr : s.row x = []) (hc : s.cl x = -1) (hs3 : s.st x ≠ 3) : WM { s with ids := s.ids.filter fun y => decide (y ≠ x) } := by
  have m1 : ∀ y, y ∈ s.ids.filter (fun y => decide (y ≠ x)) → y ∈ s.ids ∧ y ≠ x := fun y hy => by simpa using hy
  have m2 : ∀ y, y ∈ s.ids → y ≠ x → y ∈ s.ids.filter (fun y => decide (y ≠ x)) := fun y hy e => by simp [hy, e]
  refine ⟨h.nd.sublist List.filter_sublist, fun y hy => h.ge y (m1 y hy).1, fun y hy => h.rg y (m1 y hy).1, fun y hy o ho => ?_, fun y hy => h.nr y (m1 y hy).1, fun y hy hst => ?_, fun y hy hcl => ?_, fun y hy hst => ?_, fun y hy a b => h.idle y (m1 y hy).1 a b⟩
  · have := h.row y (m1 y hy).1 o ho
    exact ⟨m2 _ this.1 (fun e => by rw [e] at this; exact hs this.2.2.1), this.2⟩
  · have := h.snd y (m1 y hy).1 hst
    refine ⟨m2 _ this.1 (fun e => ?_), this.2⟩
    obtain ⟨_, o, ho, _⟩ := this
    rw [e, hr] at ho; cases ho
  · have := h.cal y (m1 y hy).1 hcl
    exact ⟨m2 _ this.1 (fun e => by dsimp only at e; rw [e] at this; exact hs3 this.2.2.1), this.2⟩
  · have := h.ask y (m1 y hy).1 hst
    refine ⟨m2 _ this.1 (fun e => ?_), this.2⟩
    have h0 := h.ge y (m1 y hy).1
    dsimp only at e
    rw [e, hc] at this; omega
theorem rowlen {s : MS} (h : WM s) {x : Int} (hx : x ∈ s.ids) : (s.row x).length ≤ s.ids.length := by
  have : ((s.row x).map (·.fr)).length ≤ s.ids.length := by
    refine nodup_sub_len (h.nr x hx) fun y hy => ?_
    obtain ⟨o, ho, rfl⟩ := List.mem_map.1 hy
    exact (h.row x hx o ho).1
  simpa using this
theorem rowRlen {s : MS} (h : WM s) (x : Int) : (rowR s x).length ≤ s.ids.length := by
  rw [rowR]; split
  · rename_i hx; exact rowlen h hx
  · simp
theorem WM.offer {s : MS} (h : WM s) (to : Int) (o : Off) : WM (offS s to o).1 := by
  rw [offS]
  split
  · exact h
  · rename_i h1
    simp only [not_or, Decidable.not_not] at h1
    split
    · exact h
    · rename_i h2
      split
      · exact h
      · rename_i h3
        exact h.send h1.2 h1.1 h2 (Decidable.not_not.1 h3)
theorem WM.opens {s : MS} (h : WM s) (id : Int) : WM (openS s id).1 := by
  rw [openS]
  split
  · exact h
  · rename_i h1
    split
    · exact h
    · rename_i h2
      have h1 := Decidable.not_not.1 h1
      simp only [not_or, Decidable.not_not] at h2
      exact h.set (by omega) (h.idle id h1 (by omega) (by omega)) (.inr rfl)
def takeS (s : MS) (to : Int) : MS × Off × Int × Int :=
  if to ∉ s.ids then (s, o0, 0, 6) else if s.st to ≠ 0 ∧ s.st to ≠ 2 then (s, o0, 0, 12) else
  match s.row to with
  | [] => (s, o0, 0, 6)
  | o :: r =>
    if o.cl = true then
      (if s.cl to ≠ -1 then wtS (clS (frS (frS (frS (rowS s to r) to) o.fr) (s.cl to)) to o.fr) o.fr 3 to else wtS (clS (frS (frS (rowS s to r) to) o.fr) to o.fr) o.fr 3 to, o, s.cl to, 0)
    else (frS (frS (rowS s to r) to) o.fr, o, -1, 0)
theorem filter_head {o : Off} {r : List Off} (h : ((o :: r).map (·.fr)).Nodup) : (o :: r).filter (fun u => decide (u.fr ∉ [o.fr])) = r := by
  rw [List.map_cons, List.nodup_cons] at h
  rw [List.filter_cons_of_neg (by simp)]
  refine List.filter_eq_self.2 fun u hu => ?_
  simp only [List.mem_singleton, decide_eq_true_eq]
  exact fun e => h.1 (List.mem_map.2 ⟨u, hu, e⟩)
theorem WM.others {s : MS} (h : WM s) {x y : Int} (hx : x ∈ s.ids) {Y : List Int} (hY : ∀ z ∈ Y, s.pn z = y) (hne : x ≠ y) : (s.row x).filter (fun u => decide (u.fr ∉ Y)) = s.row x := by
  refine List.filter_eq_self.2 fun u hu => ?_
  simp only [decide_eq_true_eq]
  intro hm
  have h1 := (h.row x hx u hu).2.2.2
  have h2 := hY _ hm
  exact hne (by rw [← h1, h2])
theorem take_base {s : MS} (h : WM s) {to : Int} (ht : to ∈ s.ids) (hs : s.st to = 0 ∨ s.st to = 2) {o : Off} {r : List Off} (hr : s.row to = o :: r) : WM (frS (frS (rowS s to r) to) o.fr) := by
  obtain ⟨h1, h2, h3, h4⟩ := h.row to ht o (by rw [hr]; simp)
  have hp := h.idle to ht (by omega) (by omega)
  have hu := h.un [o.fr] (fun y hy => by rw [List.mem_singleton.1 hy]; exact ⟨h1, h3⟩)
  have hne : to ∉ [o.fr] := by simpa using fun e => h2 e.symm
  have hv := hu.set (y := to) (v := 0) (by dsimp only [unL, frL]; rw [if_neg hne]; omega) (by dsimp only [unL, frL]; rw [if_neg hne]; exact hp) (.inl rfl)
  refine hv.ext rfl fun x hx => ?_
  have hx : x ∈ s.ids := hx
  dsimp only [frS, rowS, stS, unL, frL]
  refine ⟨?_, rfl, ?_, ?_⟩
  · by_cases e1 : x = o.fr
    · subst e1; rw [updI_same, updI_ne h2, if_pos (by simp)]
    · rw [updI_ne e1]
      by_cases e2 : x = to
      · subst e2; rw [updI_same, updI_same]
      · rw [updI_ne e2, updI_ne e2, if_neg (by simpa using e1)]
  · by_cases e1 : x = o.fr
    · subst e1; rw [updI_same, if_pos (by simp)]
    · rw [updI_ne e1, if_neg (by simpa using e1)]
      by_cases e2 : x = to
      · subst e2; rw [updI_same, hp]
      · rw [updI_ne e2]
  · by_cases e2 : x = to
    · subst e2; rw [updI_same, hr]
      have := h.nr x hx
      rw [hr] at this
      exact (filter_head this).symm
    · rw [updI_ne e2]
      exact (h.others hx (fun z hz => by rw [List.mem_singleton.1 hz]; exact h4) e2).symm
theorem WM.take {s : MS} (h : WM s) (to : Int) : WM (takeS s to).1 := by
  rw [takeS]
  split
  · exact h
  · rename_i ht
    have ht := Decidable.not_not.1 ht
    split
    · exact h
    · rename_i hs
      have hs : s.st to = 0 ∨ s.st to = 2 := by omega
      split
      · exact h
      · rename_i o r hr
        have hb := take_base h ht hs hr
        obtain ⟨h1, h2, h3, h4⟩ := h.row to ht o (by rw [hr]; simp)
        split
        · split
          · rename_i hc
            obtain ⟨c1, c2, c3, c4⟩ := h.cal to ht hc
            have ce : s.cl to ≠ o.fr := fun e => by rw [e] at c3; omega
            have hst : (frS (frS (rowS s to r) to) o.fr).st (s.cl to) = 3 := by
              dsimp only [frS, rowS]; rw [updI_ne ce, updI_ne c2]; exact c3
            have hpn : (frS (frS (rowS s to r) to) o.fr).pn (s.cl to) = to := by
              dsimp only [frS, rowS]; rw [updI_ne ce, updI_ne c2]; exact c4
            have hk := hb.unask (y := s.cl to) c1 hst
            rw [hpn] at hk
            have hl := hk.link (to := to) (f := o.fr) h1 ht h2 (by dsimp only [frS, rowS]; rw [updI_ne (Ne.symm ce), updI_same]) (by dsimp only; rw [updI_same])
            refine hl.ext rfl fun x hx => ⟨rfl, ?_, rfl, rfl⟩
            dsimp only [wtS, clS, frS, rowS]
            by_cases e : x = to
            · rw [e, updI_same, updI_same]
            · rw [updI_ne e, updI_ne e, updI_ne e]
          · rename_i hc
            have hc : s.cl to = -1 := Decidable.not_not.1 hc
            exact hb.link h1 ht h2 (by dsimp only [frS, rowS]; rw [updI_same]) hc
        · exact hb
def ansS (s : MS) (id : Int) : MS × Int × Int :=
  if id ∉ s.ids then (s, 0, 6) else if s.st id ≠ 0 then (s, 0, 12) else if s.cl id = -1 then (s, 0, 6) else (frS (clS s id (-1)) (s.cl id), s.cl id, 0)
theorem WM.answer {s : MS} (h : WM s) (id : Int) : WM (ansS s id).1 := by
  rw [ansS]
  split
  · exact h
  · rename_i hi
    split
    · exact h
    · split
      · exact h
      · rename_i hc
        obtain ⟨c1, c2, c3, c4⟩ := h.cal id (Decidable.not_not.1 hi) hc
        have hk := h.unask c1 c3
        rw [c4] at hk
        exact hk
def callS (s : MS) (id : Int) : MS × Int :=
  if id ∉ s.ids then (s, 6) else if s.st id = 0 then (s, 12) else
  if s.st id = 1 then (frS (cutMS s (s.pn id) fun o => decide (o.fr = id)) id, 0) else if s.st id = 3 then (frS (clS s (s.pn id) (-1)) id, 0) else (frS s id, 0)
theorem WM.call {s : MS} (h : WM s) (id : Int) : WM (callS s id).1 := by
  rw [callS]
  split
  · exact h
  · rename_i hi
    have hi := Decidable.not_not.1 hi
    split
    · exact h
    · rename_i h0
      split
      · rename_i h1
        have hu := h.un [id] (fun y hy => by rw [List.mem_singleton.1 hy]; exact ⟨hi, h1⟩)
        refine hu.ext rfl fun x hx => ?_
        have hx : x ∈ s.ids := hx
        dsimp only [frS, cutMS, rowS, unL, frL]
        refine ⟨?_, rfl, ?_, ?_⟩
        · by_cases e : x = id
          · rw [e, updI_same, if_pos (by simp)]
          · rw [updI_ne e, if_neg (by simpa using e)]
        · by_cases e : x = id
          · rw [e, updI_same, if_pos (by simp)]
          · rw [updI_ne e, if_neg (by simpa using e)]
        · by_cases e : x = s.pn id
          · rw [e, updI_same]
            refine List.filter_congr fun u _ => ?_
            simp [notO]
          · rw [updI_ne e]
            exact (h.others hx (fun z hz => by rw [List.mem_singleton.1 hz]) e).symm
      · rename_i h1
        split
        · rename_i h3
          exact h.unask hi h3
        · rename_i h3
          have hp := h.idle id hi h1 h3
          refine (h.set (y := id) (v := 0) ⟨h1, h3⟩ hp (.inl rfl)).ext rfl fun x _ => ⟨rfl, rfl, ?_, rfl⟩
          dsimp only [frS, stS]
          by_cases e : x = id
          · rw [e, updI_same, hp]
          · rw [updI_ne e]
theorem call_st (s : MS) (id : Int) (h : id ∈ s.ids) : (callS s id).1.st id = 0 ∧ (callS s id).1.ids = s.ids := by
  rw [callS, if_neg (fun h2 => h2 h)]
  split
  · rename_i h0; exact ⟨h0, rfl⟩
  · split
    · exact ⟨updI_same _ _ _, rfl⟩
    · split
      · exact ⟨updI_same _ _ _, rfl⟩
      · exact ⟨updI_same _ _ _, rfl⟩
def goneL (s : MS) (id : Int) : List Int := (s.row id).map (·.fr) ++ if s.cl id ≠ -1 then [s.cl id] else []
def dropS (s : MS) (id : Int) : MS := { s with ids := s.ids.filter fun y => decide (y ≠ id) }
def leaveS (s : MS) (id : Int) : MS × List Int × Int :=
  if id ∉ s.ids then (s, [], 6) else (dropS (frL (rowS (callS s id).1 id []) (goneL (callS s id).1 id)) id, goneL (callS s id).1 id, 0)
theorem gone_mem {s : MS} (h : WM s) {id : Int} (hi : id ∈ s.ids) {x : Int} (hx : x ∈ goneL s id) : x ∈ s.ids ∧ x ≠ id ∧ s.pn x = id ∧ (s.st x = 1 ∨ s.st x = 3) := by
  rcases List.mem_append.1 hx with hx | hx
  · obtain ⟨o, ho, rfl⟩ := List.mem_map.1 hx
    have := h.row id hi o ho
    exact ⟨this.1, this.2.1, this.2.2.2, .inl this.2.2.1⟩
  · split at hx
    · rename_i hc
      rw [List.mem_singleton.1 hx]
      have := h.cal id hi hc
      exact ⟨this.1, this.2.1, this.2.2.2, .inr this.2.2.1⟩
    · cases hx
theorem WM.leave1 {s : MS} (h : WM s) {id : Int} (hi : id ∈ s.ids) (hs : s.st id = 0) : WM (dropS (frL (rowS s id []) (goneL s id)) id) := by
  have hY : ∀ y ∈ (s.row id).map (·.fr), y ∈ s.ids ∧ s.st y = 1 := fun y hy => by
    obtain ⟨o, ho, rfl⟩ := List.mem_map.1 hy
    have := h.row id hi o ho
    exact ⟨this.1, this.2.2.1⟩
  have hYp : ∀ y ∈ (s.row id).map (·.fr), s.pn y = id := fun y hy => by
    obtain ⟨o, ho, rfl⟩ := List.mem_map.1 hy
    exact (h.row id hi o ho).2.2.2
  have hu := h.un _ hY
  have hin : id ∉ (s.row id).map (·.fr) := fun hm => by have := (hY _ hm).2; omega
  have hr0 : (unL s ((s.row id).map (·.fr))).row id = [] := by
    dsimp only [unL]
    refine List.filter_eq_nil_iff.2 fun o ho => ?_
    simp only [decide_eq_true_eq, Decidable.not_not]
    exact List.mem_map.2 ⟨o, ho, rfl⟩
  have hst0 : (unL s ((s.row id).map (·.fr))).st id = 0 := by dsimp only [unL, frL]; rw [if_neg hin]; exact hs
  by_cases hc : s.cl id = -1
  · have hd := hu.drop (x := id) (by omega) hr0 hc (by omega)
    have hg : goneL s id = (s.row id).map (·.fr) := by rw [goneL, if_neg (fun h => h hc), List.append_nil]
    rw [hg]
    refine hd.ext rfl fun x hx => ⟨rfl, rfl, rfl, ?_⟩
    have hx : x ∈ s.ids ∧ x ≠ id := by simpa [unL, frL] using hx
    dsimp only [dropS, frL, rowS, unL]
    rw [updI_ne hx.2]
    exact (h.others hx.1 hYp hx.2).symm
  · obtain ⟨c1, c2, c3, c4⟩ := h.cal id hi hc
    have hcY : s.cl id ∉ (s.row id).map (·.fr) := fun hm => by have := (hY _ hm).2; omega
    have hst3 : (unL s ((s.row id).map (·.fr))).st (s.cl id) = 3 := by dsimp only [unL, frL]; rw [if_neg hcY]; exact c3
    have hpn3 : (unL s ((s.row id).map (·.fr))).pn (s.cl id) = id := by dsimp only [unL, frL]; rw [if_neg hcY]; exact c4
    have hk := hu.unask (y := s.cl id) c1 hst3
    rw [hpn3] at hk
    have hd := hk.drop (x := id) (by dsimp only; rw [updI_ne (Ne.symm c2)]; omega) hr0 (by dsimp only; rw [updI_same]) (by dsimp only; rw [updI_ne (Ne.symm c2)]; omega)
    have hg : goneL s id = (s.row id).map (·.fr) ++ [s.cl id] := by rw [goneL, if_pos hc]
    rw [hg]
    refine hd.ext rfl fun x hx => ?_
    have hx : x ∈ s.ids ∧ x ≠ id := by simpa [unL, frL] using hx
    dsimp only [dropS, frL, rowS, unL]
    refine ⟨?_, ?_, ?_, ?_⟩
    · by_cases e : x = s.cl id
      · rw [e, updI_same, if_pos (by simp)]
      · rw [updI_ne e]
        by_cases hm : x ∈ (s.row id).map (·.fr)
        · rw [if_pos (List.mem_append.2 (.inl hm)), if_pos hm]
        · rw [if_neg (fun h2 => (List.mem_append.1 h2).elim hm fun h3 => e (List.mem_singleton.1 h3)), if_neg hm]
    · rw [updI_ne hx.2]
    · by_cases e : x = s.cl id
      · rw [e, updI_same, if_pos (by simp)]
      · rw [updI_ne e]
        by_cases hm : x ∈ (s.row id).map (·.fr)
        · rw [if_pos (List.mem_append.2 (.inl hm)), if_pos hm]
        · rw [if_neg (fun h2 => (List.mem_append.1 h2).elim hm fun h3 => e (List.mem_singleton.1 h3)), if_neg hm]
    · rw [updI_ne hx.2]
      exact (h.others hx.1 hYp hx.2).symm
theorem WM.leave {s : MS} (h : WM s) (id : Int) : WM (leaveS s id).1 := by
  rw [leaveS]
  split
  · exact h
  · rename_i hi
    have hi := Decidable.not_not.1 hi
    have h2 := call_st s id hi
    exact (h.call id).leave1 (by rw [h2.2]; exact hi) h2.1
end Go.Proofs.YtdfmfhcjnjfjbaaGreat
