/-
  Proved here: what functions of this program compute, each as a contract over symbolic states, under the premises that each theorem names (most lines printed by a program of the prover).
-/
import Derived.Test.YtgmniphegombhaaMtJ
namespace Go.Proofs.Ytgmniphegombhaa
open Go Go.QM
/-- A list told by its places. -/
def fl (n : Nat) (g : Nat → Value) : List Value := (List.range n).map g
theorem fl_length (n : Nat) (g : Nat → Value) : (fl n g).length = n := by simp [fl]
theorem fl_get {n v : Nat} (g : Nat → Value) (h : v < n) : (fl n g)[v]? = some (g v) := by
  rw [fl, List.getElem?_map, List.getElem?_range h]; rfl
theorem fl_congr {n : Nat} {g g' : Nat → Value} (h : ∀ v, v < n → g v = g' v) : fl n g = fl n g' := by
  rw [fl, fl]; exact List.map_congr_left fun v hv => h v (List.mem_range.1 hv)
theorem fl_set {n v : Nat} {g g' : Nat → Value} {x : Value} (h : v < n) (h1 : g' v = x) (h2 : ∀ u, u ≠ v → g' u = g u) : splice v [x] (fl n g) = fl n g' := by
  have h3 : splice v [x] (fl n g) = (fl n g).set v x := by
    rw [List.set_eq_take_append_cons_drop, if_pos (by rw [fl_length]; exact h)]; simp [splice]
  rw [h3]
  apply List.ext_getElem?
  intro u
  by_cases hu : u < n
  · by_cases e : u = v
    · subst e; rw [List.getElem?_set_self (by rw [fl_length]; exact h), fl_get _ h, h1]
    · rw [List.getElem?_set_ne (fun e2 => e e2.symm), fl_get _ hu, fl_get _ hu, h2 u e]
  · rw [List.getElem?_eq_none (by rw [List.length_set, fl_length]; omega), List.getElem?_eq_none (by rw [fl_length]; omega)]
theorem and7 {z : Int} : IntKind.i64.wrap (BitVec.ofInt IntKind.i64.bits z &&& BitVec.ofInt IntKind.i64.bits 7).toNat = z % 8 := by
  have hb : IntKind.i64.bits = 64 := rfl
  have e : ((BitVec.ofInt IntKind.i64.bits z &&& BitVec.ofInt IntKind.i64.bits 7).toNat : Int) = z % 8 := by
    rw [BitVec.toNat_and, BitVec.toNat_ofInt, BitVec.toNat_ofInt, hb]
    have e2 : ((7 : Int) % ((2 ^ 64 : Nat) : Int)).toNat = 2 ^ 3 - 1 := by decide
    rw [e2, Nat.and_two_pow_sub_one_eq_mod]
    omega
  rw [e]
  exact wi64 (by omega) (by omega)
structure MAct where
  kind : Int
  id : Int
  fr : Int
  gt : Int
  cl : Bool
def mactC (t : MAct) : List Value := [.int .i64 t.kind, .int .i64 t.id, .int .i64 t.fr, .int .i64 t.gt, .bool t.cl]
theorem mactC_sz (t : MAct) : (mactC t).length = 5 := rfl
def mactsC (l : List MAct) : List Value := l.flatMap mactC
theorem mactsC_length (l : List MAct) : (mactsC l).length = l.length * 5 := flat_length mactC_sz l
/-- Of the threads 0 to 7. -/
structure P8 (s : MS) : Prop where
  wm : WM s
  rg : ∀ x ∈ s.ids, 0 ≤ x ∧ x ≤ 7
theorem P8.len {s : MS} (h : P8 s) : s.ids.length ≤ 8 := by
  have := nodup_sub_len h.wm.nd (m := [0, 1, 2, 3, 4, 5, 6, 7]) fun x hx => by
    have := h.rg x hx
    simp only [List.mem_cons, List.not_mem_nil, or_false]; omega
  exact this
theorem P8.join {s : MS} (h : P8 s) {x : Int} (hx : 0 ≤ x ∧ x ≤ 7) : P8 (joinS s x) := by
  refine ⟨h.wm.join x, fun y hy => ?_⟩
  rw [joinS] at hy
  split at hy
  · exact h.rg y hy
  · rcases List.mem_append.1 hy with hy | hy
    · exact h.rg y hy
    · rw [List.mem_singleton.1 hy]; exact hx
theorem off_ids (s : MS) (to : Int) (o : Off) : (offS s to o).1.ids = s.ids := by rw [offS]; (repeat' split) <;> rfl
theorem open_ids (s : MS) (id : Int) : (openS s id).1.ids = s.ids := by rw [openS]; (repeat' split) <;> rfl
theorem take_ids (s : MS) (to : Int) : (takeS s to).1.ids = s.ids := by
  rw [takeS]; split
  · rfl
  · split
    · rfl
    · split
      · rfl
      · split
        · dsimp only; split <;> rfl
        · rfl
theorem ans_ids (s : MS) (id : Int) : (ansS s id).1.ids = s.ids := by rw [ansS]; (repeat' split) <;> rfl
theorem call_ids (s : MS) (id : Int) : (callS s id).1.ids = s.ids := by
  by_cases h : id ∈ s.ids
  · exact (call_st s id h).2
  · rw [callS, if_pos h]
theorem P8.offer {s : MS} (h : P8 s) (to : Int) (o : Off) : P8 (offS s to o).1 := ⟨h.wm.offer to o, by rw [off_ids]; exact h.rg⟩
theorem P8.opens {s : MS} (h : P8 s) (id : Int) : P8 (openS s id).1 := ⟨h.wm.opens id, by rw [open_ids]; exact h.rg⟩
theorem P8.take {s : MS} (h : P8 s) (to : Int) : P8 (takeS s to).1 := ⟨h.wm.take to, by rw [take_ids]; exact h.rg⟩
theorem P8.answer {s : MS} (h : P8 s) (id : Int) : P8 (ansS s id).1 := ⟨h.wm.answer id, by rw [ans_ids]; exact h.rg⟩
theorem P8.call {s : MS} (h : P8 s) (id : Int) : P8 (callS s id).1 := ⟨h.wm.call id, by rw [call_ids]; exact h.rg⟩
theorem P8.leave {s : MS} (h : P8 s) (id : Int) : P8 (leaveS s id).1 := by
  refine ⟨h.wm.leave id, fun x hx => ?_⟩
  rw [leaveS] at hx
  split at hx
  · exact h.rg x hx
  · have hx : x ∈ ((callS s id).1.ids.filter fun y => decide (y ≠ id)) := hx
    rw [call_ids] at hx
    exact h.rg x (List.mem_filter.1 hx).1
theorem P8.close {s : MS} (h : P8 s) (g : Int) : P8 (closeS s g).1 := ⟨h.wm.close g, h.rg⟩
theorem P8.start : P8 (joinL s0 [0, 1, 2, 3, 4, 5, 6, 7]) := by
  have h0 : P8 s0 := ⟨WM.zero, fun x h => (List.not_mem_nil h).elim⟩
  exact (((((((h0.join (x := 0) (by omega)).join (x := 1) (by omega)).join (x := 2) (by omega)).join (x := 3) (by omega)).join (x := 4) (by omega)).join (x := 5) (by omega)).join (x := 6) (by omega)).join (x := 7) (by omega)

set_option maxRecDepth 4000 in
set_option maxHeartbeats 2000000 in
theorem play_ok (b : Nat) (A : Int → Nat) (s : MS) (hP : P8 s) (ad : Option Addr) (l : List MAct) (cap : Nat) (hl : l.length ≤ 1000) : FSpec Try.prog 19 [.pointer (some ⟨b, 0, none⟩), .slice ad l.length cap] (fun F => ∃ E, RdS F E ad (mactsC l)) [isMa b A s] (fun _ : (Int → Nat) × MS => .tuple #[]) (fun y => P8 y.2) (fun y => [isMa b y.1 y.2]) := by
  refine FSpec.intro (rs := []) (by kernel_rfl) Try.func19 rfl Try.ntmps19 (by rfl) rfl ?_
  intro F ⟨E, hF⟩
  change TC _ _ _ _ _ _ _ (sepL [_, _])
  haveI : RdSI F ad E (mactsC l) := ⟨hF⟩
  refine TC.seq ?_
  refine TC.region ?_
  refine q rfl rfl (asg (v := .int _ _) rfl) ?_
  refine TL.nil (nt ?_)
  refine TC.block ?_
  refine TC.loop (ι := Nat × (Int → Nat) × MS) (fun u => u.1 ≤ l.length ∧ P8 u.2.2) (fun u => [(0, .pointer (some ⟨b, 0, none⟩)), (1, .slice ad l.length cap), (4, .int .i64 ((u.1 : Nat) : Int))]) (fun u => sepL [isMa b u.2.1 u.2.2, F]) (fun u => l.length - u.1) ⟨0, A, s⟩ ⟨Nat.zero_le _, hP⟩ ⟨rfl, rfl, rfl, trivial⟩ (by repeat (first | exact ent_nil _ | refine ent_take 0 rfl ?_ | refine ent_take 1 rfl ?_ | refine ent_take 2 rfl ?_ | refine ent_take 3 rfl ?_ | refine ent_take 4 rfl ?_ | refine ent_take 5 rfl ?_ | refine ent_take 6 rfl ?_ | refine ent_take 7 rfl ?_ | refine ent_take 8 rfl ?_ | refine ent_take 9 rfl ?_ | refine ent_take 10 rfl ?_ | refine ent_take 11 rfl ?_ | refine ent_take 12 rfl ?_)) ?_
  rintro ⟨i, A, s⟩ ⟨hi, hP⟩ ρ0
  dsimp only [updL] at hi hP ⊢
  refine TC.seq ?_
  refine TC.seq ?_
  refine TC.region ?_
  refine q rfl rfl (mv (v := .int _ _) rfl) ?_
  refine q rfl rfl (mv (v := .slice _ _ _) rfl) ?_
  refine q rfl rfl (len 63 5 rfl rfl) ?_
  refine q rfl rfl (lss rfl rfl) ?_
  refine TL.nil (nt ?_)
  first | refine TC.condD rfl (fun hlt => ?_) (fun hlt => ?_) | refine TC.cond rfl (fun hlt => ?_) (fun hlt => ?_)
  · have hlt2 : i < l.length := by omega
    obtain ⟨t, ht⟩ : ∃ t, l[i]? = some t := ⟨l[i], List.getElem?_eq_getElem hlt2⟩
    have hpos : 0 < (mactsC l).length := by rw [mactsC_length]; omega
    have hW := hP.wm
    have hsl := hP.len
    have hid : 0 ≤ t.id % 8 ∧ t.id % 8 ≤ 7 := by omega
    refine TC.skip (nt ?_)
    refine TC.seq ?_
    refine TC.block ?_
    refine TC.seq ?_
    refine TC.region ?_
    refine q rfl rfl (mv (v := .slice _ _ _) rfl) ?_
    refine q rfl rfl (mv (v := .int _ _) rfl) ?_
    first | refine q rfl rfl (ixS 63 5 rfl rfl rfl (by omega) (by first | assumption | (simp [ints_length] <;> omega))) ?_ | refine q rfl rfl (ixJ 63 5 rfl rfl rfl (by omega) (by omega) (by first | assumption | (simp [ints_length] <;> omega))) ?_ | refine q rfl rfl (ix 63 5 rfl rfl rfl (by omega) (by omega) rfl) ?_
    first | refine q rfl rfl (ldN (vs := [_, _, _, _, _]) 5 rfl rfl rfl rfl) ?_ | refine q rfl rfl (ldSN (vs := [_, _, _, _, _]) 5 rfl rfl (flat_get_rec mactC_sz ht) rfl (by decide)) ?_ | refine q rfl rfl (ldSN (vs := [_, _, _, _, _]) 5 rfl rfl rfl rfl (by decide)) ?_
    refine e rfl ?_
    refine al (l := [.int _ _, .int _ _, .int _ _, .int _ _, .bool _]) rfl rfl ?_
    intro b1
    refine e0 ?_
    refine st (v := .agg #[_, _, _, _, _]) (vs := [_, _, _, _, _]) 5 rfl rfl rfl rfl rfl rfl (Nat.le_of_ble_eq_true rfl) rfl ?_
    refine TL.nil (nt ?_)
    refine TC.seq ?_
    refine TC.region ?_
    first | refine q rfl rfl (fa 1 rfl rfl) ?_ | refine q rfl rfl (faS 1 rfl rfl (by first | assumption | (simp [ints_length] <;> omega))) ?_
    first | refine q rfl rfl (ld rfl rfl rfl) ?_ | refine q rfl rfl (ldS rfl rfl (flat_get_rec mactC_sz ht)) ?_ | refine q rfl rfl (ldS rfl rfl rfl) ?_
    refine q rfl rfl (andR rfl rfl and7) ?_
    refine q rfl rfl (asg (v := .int _ _) rfl) ?_
    refine TL.nil (nt ?_)
    refine TC.seq ?_
    refine TC.region ?_
    first | refine q rfl rfl (fa 2 rfl rfl) ?_ | refine q rfl rfl (faS 2 rfl rfl (by first | assumption | (simp [ints_length] <;> omega))) ?_
    first | refine q rfl rfl (fa 0 rfl rfl) ?_ | refine q rfl rfl (faS 0 rfl rfl (by first | assumption | (simp [ints_length] <;> omega))) ?_
    first | refine q rfl rfl (ld rfl rfl rfl) ?_ | refine q rfl rfl (ldS rfl rfl (flat_get_rec mactC_sz ht)) ?_ | refine q rfl rfl (ldS rfl rfl rfl) ?_
    refine q rfl rfl (andR rfl rfl and7) ?_
    first | refine q rfl rfl (fa 2 rfl rfl) ?_ | refine q rfl rfl (faS 2 rfl rfl (by first | assumption | (simp [ints_length] <;> omega))) ?_
    first | refine q rfl rfl (fa 0 rfl rfl) ?_ | refine q rfl rfl (faS 0 rfl rfl (by first | assumption | (simp [ints_length] <;> omega))) ?_
    refine e0 ?_
    refine st (v := .int _ _) (vs := [_]) 1 rfl rfl rfl rfl rfl rfl (Nat.le_of_ble_eq_true rfl) rfl ?_
    refine TL.nil (nt ?_)
    refine TC.seq ?_
    refine TC.region ?_
    first | refine q rfl rfl (fa 0 rfl rfl) ?_ | refine q rfl rfl (faS 0 rfl rfl (by first | assumption | (simp [ints_length] <;> omega))) ?_
    first | refine q rfl rfl (ld rfl rfl rfl) ?_ | refine q rfl rfl (ldS rfl rfl (flat_get_rec mactC_sz ht)) ?_ | refine q rfl rfl (ldS rfl rfl rfl) ?_
    refine TL.nil (nt ?_)
    refine TC.block ?_
    refine TC.seq ?_
    refine TC.region ?_
    refine q rfl rfl (eqI rfl rfl) ?_
    refine q rfl rfl (asg (v := .bool _) rfl) ?_
    refine TL.nil (nt ?_)
    first | refine TC.condD rfl (fun k0 => ?_) (fun k0 => ?_) | refine TC.cond rfl (fun k0 => ?_) (fun k0 => ?_)
    · refine TC.region ?_
      refine q rfl rfl (mv (v := .pointer _) rfl) ?_
      refine q rfl rfl (mv (v := .int _ _) rfl) ?_
      refine e rfl ?_
      refine bs (cs := [.int _ _]) rfl ?_
      intro b2
      refine e rfl ?_
      refine cl (mjoin_ok b A s (some ⟨b2, 0, none⟩) _ [t.id % 8] (by simp) (by omega)) rfl PkL.p ⟨_, RdSI.rd (ad := some ⟨b2, 0, none⟩)⟩ ?_
      intro A1 _
      change TL _ _ _ _ _ _ _ _ (sepL [_, _, _, _])
      refine TL.nil (nb (nb (nt ?_)))
      refine TC.region ?_
      refine q rfl rfl (mv (v := .int _ _) rfl) ?_
      first | refine q rfl rfl (addI rfl rfl (by omega) (by omega)) ?_ | refine q rfl rfl (add rfl rfl rfl) ?_
      refine q rfl rfl (asg (v := .int _ _) rfl) ?_
      refine TL.nil (nt ?_)
      exact ⟨rfl, ⟨i + 1, A1, joinS s (t.id % 8)⟩, ⟨by dsimp only; omega, hP.join hid⟩, (by dsimp only; omega), ⟨rfl, rfl, rfl, trivial⟩, (by repeat (first | exact ent_nil _ | refine ent_take 0 rfl ?_ | refine ent_take 1 rfl ?_ | refine ent_take 2 rfl ?_ | refine ent_take 3 rfl ?_ | refine ent_take 4 rfl ?_ | refine ent_take 5 rfl ?_ | refine ent_take 6 rfl ?_ | refine ent_take 7 rfl ?_ | refine ent_take 8 rfl ?_ | refine ent_take 9 rfl ?_ | refine ent_take 10 rfl ?_ | refine ent_take 11 rfl ?_ | refine ent_take 12 rfl ?_))⟩
    · refine TC.seq ?_
      refine TC.region ?_
      refine q rfl rfl (eqI rfl rfl) ?_
      refine q rfl rfl (asg (v := .bool _) rfl) ?_
      refine TL.nil (nt ?_)
      first | refine TC.condD rfl (fun k1 => ?_) (fun k1 => ?_) | refine TC.cond rfl (fun k1 => ?_) (fun k1 => ?_)
      · refine TC.region ?_
        refine q rfl rfl (mv (v := .pointer _) rfl) ?_
        refine q rfl rfl (mv (v := .int _ _) rfl) ?_
        first | refine q rfl rfl (fa 2 rfl rfl) ?_ | refine q rfl rfl (faS 2 rfl rfl (by first | assumption | (simp [ints_length] <;> omega))) ?_
        first | refine q rfl rfl (ldN (vs := [_, _, _]) 3 rfl rfl rfl rfl) ?_ | refine q rfl rfl (ldSN (vs := [_, _, _]) 3 rfl rfl rfl rfl (by decide)) ?_
        refine e rfl ?_
        refine cl (moffer_ok b A s hW (t.id % 8) ⟨t.fr % 8, t.gt, t.cl⟩ (by omega)) rfl PkL.p trivial ?_
        intro _ _
        change TL _ _ _ _ _ _ _ _ (sepL [_, _, _])
        refine TL.nil (nb (nb (nt ?_)))
        refine TC.region ?_
        refine q rfl rfl (mv (v := .int _ _) rfl) ?_
        first | refine q rfl rfl (addI rfl rfl (by omega) (by omega)) ?_ | refine q rfl rfl (add rfl rfl rfl) ?_
        refine q rfl rfl (asg (v := .int _ _) rfl) ?_
        refine TL.nil (nt ?_)
        exact ⟨rfl, ⟨i + 1, A, _⟩, ⟨by dsimp only; omega, hP.offer _ _⟩, (by dsimp only; omega), ⟨rfl, rfl, rfl, trivial⟩, (by repeat (first | exact ent_nil _ | refine ent_take 0 rfl ?_ | refine ent_take 1 rfl ?_ | refine ent_take 2 rfl ?_ | refine ent_take 3 rfl ?_ | refine ent_take 4 rfl ?_ | refine ent_take 5 rfl ?_ | refine ent_take 6 rfl ?_ | refine ent_take 7 rfl ?_ | refine ent_take 8 rfl ?_ | refine ent_take 9 rfl ?_ | refine ent_take 10 rfl ?_ | refine ent_take 11 rfl ?_ | refine ent_take 12 rfl ?_))⟩
      · refine TC.seq ?_
        refine TC.region ?_
        refine q rfl rfl (eqI rfl rfl) ?_
        refine q rfl rfl (asg (v := .bool _) rfl) ?_
        refine TL.nil (nt ?_)
        first | refine TC.condD rfl (fun k2 => ?_) (fun k2 => ?_) | refine TC.cond rfl (fun k2 => ?_) (fun k2 => ?_)
        · refine TC.region ?_
          refine q rfl rfl (mv (v := .pointer _) rfl) ?_
          refine q rfl rfl (mv (v := .int _ _) rfl) ?_
          refine e rfl ?_
          refine cl (mopen_ok b A s hW (t.id % 8)) rfl PkL.p trivial ?_
          intro _ _
          change TL _ _ _ _ _ _ _ _ (sepL [_, _, _])
          refine TL.nil (nb (nb (nt ?_)))
          refine TC.region ?_
          refine q rfl rfl (mv (v := .int _ _) rfl) ?_
          first | refine q rfl rfl (addI rfl rfl (by omega) (by omega)) ?_ | refine q rfl rfl (add rfl rfl rfl) ?_
          refine q rfl rfl (asg (v := .int _ _) rfl) ?_
          refine TL.nil (nt ?_)
          exact ⟨rfl, ⟨i + 1, A, _⟩, ⟨by dsimp only; omega, hP.opens _⟩, (by dsimp only; omega), ⟨rfl, rfl, rfl, trivial⟩, (by repeat (first | exact ent_nil _ | refine ent_take 0 rfl ?_ | refine ent_take 1 rfl ?_ | refine ent_take 2 rfl ?_ | refine ent_take 3 rfl ?_ | refine ent_take 4 rfl ?_ | refine ent_take 5 rfl ?_ | refine ent_take 6 rfl ?_ | refine ent_take 7 rfl ?_ | refine ent_take 8 rfl ?_ | refine ent_take 9 rfl ?_ | refine ent_take 10 rfl ?_ | refine ent_take 11 rfl ?_ | refine ent_take 12 rfl ?_))⟩
        · refine TC.seq ?_
          refine TC.region ?_
          refine q rfl rfl (eqI rfl rfl) ?_
          refine q rfl rfl (asg (v := .bool _) rfl) ?_
          refine TL.nil (nt ?_)
          first | refine TC.condD rfl (fun k3 => ?_) (fun k3 => ?_) | refine TC.cond rfl (fun k3 => ?_) (fun k3 => ?_)
          · refine TC.region ?_
            refine q rfl rfl (mv (v := .pointer _) rfl) ?_
            refine q rfl rfl (mv (v := .int _ _) rfl) ?_
            refine e rfl ?_
            refine cl (mtake_ok b A s hW (t.id % 8)) rfl PkL.p trivial ?_
            intro _ _
            change TL _ _ _ _ _ _ _ _ (sepL [_, _, _])
            refine TL.nil (nb (nb (nt ?_)))
            refine TC.region ?_
            refine q rfl rfl (mv (v := .int _ _) rfl) ?_
            first | refine q rfl rfl (addI rfl rfl (by omega) (by omega)) ?_ | refine q rfl rfl (add rfl rfl rfl) ?_
            refine q rfl rfl (asg (v := .int _ _) rfl) ?_
            refine TL.nil (nt ?_)
            exact ⟨rfl, ⟨i + 1, A, _⟩, ⟨by dsimp only; omega, hP.take _⟩, (by dsimp only; omega), ⟨rfl, rfl, rfl, trivial⟩, (by repeat (first | exact ent_nil _ | refine ent_take 0 rfl ?_ | refine ent_take 1 rfl ?_ | refine ent_take 2 rfl ?_ | refine ent_take 3 rfl ?_ | refine ent_take 4 rfl ?_ | refine ent_take 5 rfl ?_ | refine ent_take 6 rfl ?_ | refine ent_take 7 rfl ?_ | refine ent_take 8 rfl ?_ | refine ent_take 9 rfl ?_ | refine ent_take 10 rfl ?_ | refine ent_take 11 rfl ?_ | refine ent_take 12 rfl ?_))⟩
          · refine TC.seq ?_
            refine TC.region ?_
            refine q rfl rfl (eqI rfl rfl) ?_
            refine q rfl rfl (asg (v := .bool _) rfl) ?_
            refine TL.nil (nt ?_)
            first | refine TC.condD rfl (fun k4 => ?_) (fun k4 => ?_) | refine TC.cond rfl (fun k4 => ?_) (fun k4 => ?_)
            · refine TC.region ?_
              refine q rfl rfl (mv (v := .pointer _) rfl) ?_
              refine q rfl rfl (mv (v := .int _ _) rfl) ?_
              refine e rfl ?_
              refine cl (manswer_ok b A s hW (t.id % 8)) rfl PkL.p trivial ?_
              intro _ _
              change TL _ _ _ _ _ _ _ _ (sepL [_, _, _])
              refine TL.nil (nb (nb (nt ?_)))
              refine TC.region ?_
              refine q rfl rfl (mv (v := .int _ _) rfl) ?_
              first | refine q rfl rfl (addI rfl rfl (by omega) (by omega)) ?_ | refine q rfl rfl (add rfl rfl rfl) ?_
              refine q rfl rfl (asg (v := .int _ _) rfl) ?_
              refine TL.nil (nt ?_)
              exact ⟨rfl, ⟨i + 1, A, _⟩, ⟨by dsimp only; omega, hP.answer _⟩, (by dsimp only; omega), ⟨rfl, rfl, rfl, trivial⟩, (by repeat (first | exact ent_nil _ | refine ent_take 0 rfl ?_ | refine ent_take 1 rfl ?_ | refine ent_take 2 rfl ?_ | refine ent_take 3 rfl ?_ | refine ent_take 4 rfl ?_ | refine ent_take 5 rfl ?_ | refine ent_take 6 rfl ?_ | refine ent_take 7 rfl ?_ | refine ent_take 8 rfl ?_ | refine ent_take 9 rfl ?_ | refine ent_take 10 rfl ?_ | refine ent_take 11 rfl ?_ | refine ent_take 12 rfl ?_))⟩
            · refine TC.seq ?_
              refine TC.region ?_
              refine q rfl rfl (eqI rfl rfl) ?_
              refine q rfl rfl (asg (v := .bool _) rfl) ?_
              refine TL.nil (nt ?_)
              first | refine TC.condD rfl (fun k5 => ?_) (fun k5 => ?_) | refine TC.cond rfl (fun k5 => ?_) (fun k5 => ?_)
              · refine TC.region ?_
                refine q rfl rfl (mv (v := .pointer _) rfl) ?_
                refine q rfl rfl (mv (v := .int _ _) rfl) ?_
                refine e rfl ?_
                refine cl (mcall_ok b A s hW (t.id % 8) (by omega)) rfl PkL.p trivial ?_
                intro _ _
                change TL _ _ _ _ _ _ _ _ (sepL [_, _, _])
                refine TL.nil (nb (nb (nt ?_)))
                refine TC.region ?_
                refine q rfl rfl (mv (v := .int _ _) rfl) ?_
                first | refine q rfl rfl (addI rfl rfl (by omega) (by omega)) ?_ | refine q rfl rfl (add rfl rfl rfl) ?_
                refine q rfl rfl (asg (v := .int _ _) rfl) ?_
                refine TL.nil (nt ?_)
                exact ⟨rfl, ⟨i + 1, A, _⟩, ⟨by dsimp only; omega, hP.call _⟩, (by dsimp only; omega), ⟨rfl, rfl, rfl, trivial⟩, (by repeat (first | exact ent_nil _ | refine ent_take 0 rfl ?_ | refine ent_take 1 rfl ?_ | refine ent_take 2 rfl ?_ | refine ent_take 3 rfl ?_ | refine ent_take 4 rfl ?_ | refine ent_take 5 rfl ?_ | refine ent_take 6 rfl ?_ | refine ent_take 7 rfl ?_ | refine ent_take 8 rfl ?_ | refine ent_take 9 rfl ?_ | refine ent_take 10 rfl ?_ | refine ent_take 11 rfl ?_ | refine ent_take 12 rfl ?_))⟩
              · refine TC.seq ?_
                refine TC.region ?_
                refine q rfl rfl (eqI rfl rfl) ?_
                refine q rfl rfl (asg (v := .bool _) rfl) ?_
                refine TL.nil (nt ?_)
                first | refine TC.condD rfl (fun k6 => ?_) (fun k6 => ?_) | refine TC.cond rfl (fun k6 => ?_) (fun k6 => ?_)
                · refine TC.region ?_
                  refine q rfl rfl (mv (v := .pointer _) rfl) ?_
                  refine q rfl rfl (mv (v := .int _ _) rfl) ?_
                  refine e rfl ?_
                  refine cl (mleave_ok b A s hW (t.id % 8) (by omega)) rfl PkL.p trivial ?_
                  intro _ _
                  change TL _ _ _ _ _ _ _ _ (sepL [_, _, _, _])
                  refine TL.nil (nb (nb (nt ?_)))
                  refine TC.region ?_
                  refine q rfl rfl (mv (v := .int _ _) rfl) ?_
                  first | refine q rfl rfl (addI rfl rfl (by omega) (by omega)) ?_ | refine q rfl rfl (add rfl rfl rfl) ?_
                  refine q rfl rfl (asg (v := .int _ _) rfl) ?_
                  refine TL.nil (nt ?_)
                  exact ⟨rfl, ⟨i + 1, A, _⟩, ⟨by dsimp only; omega, hP.leave _⟩, (by dsimp only; omega), ⟨rfl, rfl, rfl, trivial⟩, (by repeat (first | exact ent_nil _ | refine ent_take 0 rfl ?_ | refine ent_take 1 rfl ?_ | refine ent_take 2 rfl ?_ | refine ent_take 3 rfl ?_ | refine ent_take 4 rfl ?_ | refine ent_take 5 rfl ?_ | refine ent_take 6 rfl ?_ | refine ent_take 7 rfl ?_ | refine ent_take 8 rfl ?_ | refine ent_take 9 rfl ?_ | refine ent_take 10 rfl ?_ | refine ent_take 11 rfl ?_ | refine ent_take 12 rfl ?_))⟩
                · refine TC.seq ?_
                  refine TC.region ?_
                  refine q rfl rfl (eqI rfl rfl) ?_
                  refine q rfl rfl (asg (v := .bool _) rfl) ?_
                  refine TL.nil (nt ?_)
                  first | refine TC.condD rfl (fun k7 => ?_) (fun k7 => ?_) | refine TC.cond rfl (fun k7 => ?_) (fun k7 => ?_)
                  · refine TC.region ?_
                    refine q rfl rfl (mv (v := .pointer _) rfl) ?_
                    first | refine q rfl rfl (fa 1 rfl rfl) ?_ | refine q rfl rfl (faS 1 rfl rfl (by first | assumption | (simp [ints_length] <;> omega))) ?_
                    first | refine q rfl rfl (ld rfl rfl rfl) ?_ | refine q rfl rfl (ldS rfl rfl rfl) ?_
                    refine e rfl ?_
                    refine cl (mclose_ok b A s hW t.id (by omega)) rfl PkL.p trivial ?_
                    intro _ _
                    change TL _ _ _ _ _ _ _ _ (sepL [_, _, _, _])
                    refine TL.nil (nb (nb (nt ?_)))
                    refine TC.region ?_
                    refine q rfl rfl (mv (v := .int _ _) rfl) ?_
                    first | refine q rfl rfl (addI rfl rfl (by omega) (by omega)) ?_ | refine q rfl rfl (add rfl rfl rfl) ?_
                    refine q rfl rfl (asg (v := .int _ _) rfl) ?_
                    refine TL.nil (nt ?_)
                    exact ⟨rfl, ⟨i + 1, A, _⟩, ⟨by dsimp only; omega, hP.close _⟩, (by dsimp only; omega), ⟨rfl, rfl, rfl, trivial⟩, (by repeat (first | exact ent_nil _ | refine ent_take 0 rfl ?_ | refine ent_take 1 rfl ?_ | refine ent_take 2 rfl ?_ | refine ent_take 3 rfl ?_ | refine ent_take 4 rfl ?_ | refine ent_take 5 rfl ?_ | refine ent_take 6 rfl ?_ | refine ent_take 7 rfl ?_ | refine ent_take 8 rfl ?_ | refine ent_take 9 rfl ?_ | refine ent_take 10 rfl ?_ | refine ent_take 11 rfl ?_ | refine ent_take 12 rfl ?_))⟩
                  · refine TC.skip (nb (nb (nt ?_)))
                    refine TC.region ?_
                    refine q rfl rfl (mv (v := .int _ _) rfl) ?_
                    first | refine q rfl rfl (addI rfl rfl (by omega) (by omega)) ?_ | refine q rfl rfl (add rfl rfl rfl) ?_
                    refine q rfl rfl (asg (v := .int _ _) rfl) ?_
                    refine TL.nil (nt ?_)
                    exact ⟨rfl, ⟨i + 1, A, s⟩, ⟨by dsimp only; omega, hP⟩, (by dsimp only; omega), ⟨rfl, rfl, rfl, trivial⟩, (by repeat (first | exact ent_nil _ | refine ent_take 0 rfl ?_ | refine ent_take 1 rfl ?_ | refine ent_take 2 rfl ?_ | refine ent_take 3 rfl ?_ | refine ent_take 4 rfl ?_ | refine ent_take 5 rfl ?_ | refine ent_take 6 rfl ?_ | refine ent_take 7 rfl ?_ | refine ent_take 8 rfl ?_ | refine ent_take 9 rfl ?_ | refine ent_take 10 rfl ?_ | refine ent_take 11 rfl ?_ | refine ent_take 12 rfl ?_))⟩
  · refine TC.exit (et (et (eb ?_)))
    exact Ret.n ⟨A, s⟩ [] trivial rfl hP (by repeat (first | exact ent_nil _ | refine ent_take 0 rfl ?_ | refine ent_take 1 rfl ?_ | refine ent_take 2 rfl ?_ | refine ent_take 3 rfl ?_ | refine ent_take 4 rfl ?_ | refine ent_take 5 rfl ?_ | refine ent_take 6 rfl ?_ | refine ent_take 7 rfl ?_ | refine ent_take 8 rfl ?_ | refine ent_take 9 rfl ?_ | refine ent_take 10 rfl ?_ | refine ent_take 11 rfl ?_ | refine ent_take 12 rfl ?_))

end Go.Proofs.Ytgmniphegombhaa
