/-
  Proved here: what functions of this program compute, each as a contract over symbolic states, under the premises that each theorem names (most lines printed by a program of the prover).
-/
import Derived.Test.YtdfmfhcjnjfjbaaThF
namespace Go.Proofs.Ytdfmfhcjnjfjbaa
open Go Go.QM
open Al (En hasA Nd clrA setA offA dueA restA leftA)
open Rd (hasS NdS addS RInv topS runS tickS yieldS rndS)
/-- A list told by its places. -/
def fl (n : Nat) (g : Nat → Value) : List Value := (List.range n).map g
theorem fl_length (n : Nat) (g : Nat → Value) : (fl n g).length = n := by simp [fl]
theorem fl_get {n v : Nat} (g : Nat → Value) (h : v < n) : (fl n g)[v]? = some (g v) := by
  rw [fl, List.getElem?_map, List.getElem?_range h]; rfl
theorem fl_congr {n : Nat} {g g' : Nat → Value} (h : ∀ v, v < n → g v = g' v) : fl n g = fl n g' := by
  rw [fl, fl]; exact List.map_congr_left fun v hv => h v (List.mem_range.1 hv)
theorem fl_set {n v : Nat} {g g' : Nat → Value} {x : Value} (h : v < n) (h1 : g' v = x) (h2 : ∀ u, u ≠ v → g' u = g u) : splice v [x] (fl n g) = fl n g' := by
  have h3 : splice v [x] (fl n g) = (fl n g).set v x := by
    rw [List.set_eq_take_append_cons_drop, if_pos (by rw [fl_length]; exact h)]; simp [splice]
  rw [h3]
  apply List.ext_getElem?
  intro u
  by_cases hu : u < n
  · by_cases e : u = v
    · subst e; rw [List.getElem?_set_self (by rw [fl_length]; exact h), fl_get _ h, h1]
    · rw [List.getElem?_set_ne (fun e2 => e e2.symm), fl_get _ hu, fl_get _ hu, h2 u e]
  · rw [List.getElem?_eq_none (by rw [List.length_set, fl_length]; omega), List.getElem?_eq_none (by rw [fl_length]; omega)]
theorem and7 {z : Int} : IntKind.i64.wrap (BitVec.ofInt IntKind.i64.bits z &&& BitVec.ofInt IntKind.i64.bits 7).toNat = z % 8 := by
  have hb : IntKind.i64.bits = 64 := rfl
  have e : ((BitVec.ofInt IntKind.i64.bits z &&& BitVec.ofInt IntKind.i64.bits 7).toNat : Int) = z % 8 := by
    rw [BitVec.toNat_and, BitVec.toNat_ofInt, BitVec.toNat_ofInt, hb]
    have e2 : ((7 : Int) % ((2 ^ 64 : Nat) : Int)).toNat = 2 ^ 3 - 1 := by decide
    rw [e2, Nat.and_two_pow_sub_one_eq_mod]
    omega
  rw [e]
  exact wi64 (by omega) (by omega)
theorem and3 {z : Int} : IntKind.i64.wrap (BitVec.ofInt IntKind.i64.bits z &&& BitVec.ofInt IntKind.i64.bits 3).toNat = z % 4 := by
  have hb : IntKind.i64.bits = 64 := rfl
  have e : ((BitVec.ofInt IntKind.i64.bits z &&& BitVec.ofInt IntKind.i64.bits 3).toNat : Int) = z % 4 := by
    rw [BitVec.toNat_and, BitVec.toNat_ofInt, BitVec.toNat_ofInt, hb]
    have e2 : ((3 : Int) % ((2 ^ 64 : Nat) : Int)).toNat = 2 ^ 2 - 1 := by decide
    rw [e2, Nat.and_two_pow_sub_one_eq_mod]
    omega
  rw [e]
  exact wi64 (by omega) (by omega)
structure TAct where
  kind : Int
  id : Int
  to : Int
  n : Int
  m : Int
  cl : Bool
def tactC (t : TAct) : List Value := [.int .i64 t.kind, .int .i64 t.id, .int .i64 t.to, .int .i64 t.n, .int .i64 t.m, .bool t.cl]
theorem tactC_sz (t : TAct) : (tactC t).length = 6 := rfl
def tactsC (l : List TAct) : List Value := l.flatMap tactC
theorem tactsC_length (l : List TAct) : (tactsC l).length = l.length * 6 := flat_length tactC_sz l
def tkN (t : TAct) : Int := if t.m < 0 ∨ 40 < t.m then 1 else t.m
/-- Who waits; how often it was told. -/
def wW (T : TS) (x : Int) : Int := if 1 ≤ stT T x ∧ stT T x ≤ 3 then 1 else 0
def cT (L : List Tg) (x : Int) : Int := ((L.filter fun t => decide (t.th = x)).length : Nat)
def mW (T : TS) (x : Int) : Int := cT T.told x + wW T x
theorem cT_app (L K : List Tg) (x : Int) : cT (L ++ K) x = cT L x + cT K x := by simp [cT, List.filter_append]
theorem cT_nil (x : Int) : cT [] x = 0 := rfl
theorem cT_nd : ∀ {K : List Tg} {l : List Int}, K.map (·.th) = l → l.Nodup → ∀ x, cT K x = if x ∈ l then 1 else 0
  | [], l, h, _, x => by cases h; simp [cT]
  | t :: K, l, h, hn, x => by
    subst h
    obtain ⟨h1, h2⟩ := List.nodup_cons.1 (show (t.th :: K.map (·.th)).Nodup from hn)
    have ih := cT_nd (K := K) rfl h2 x
    have e : cT (t :: K) x = cT [t] x + cT K x := cT_app [t] K x
    rw [e, ih]
    by_cases hx : t.th = x
    · have h3 : x ∉ K.map (·.th) := hx ▸ h1
      rw [if_neg h3, if_pos (by simp [hx])]
      simp [cT, hx]
    · have h4 : (x ∈ List.map (·.th) (t :: K)) ↔ x ∈ K.map (·.th) := by
        rw [List.map_cons, List.mem_cons]; exact ⟨fun h => h.resolve_left fun e => hx e.symm, .inr⟩
      simp only [h4]
      simp [cT, hx]
structure Freed (T : TS) (m : MS) (l : List Int) : Prop where
  wm : WM m
  ids : m.ids = T.m.ids
  hM : ∀ x ∈ l, x ∈ T.m.ids ∧ T.m.st x ≠ 0 ∧ m.st x = 0
  hn : ∀ x ∈ T.m.ids, x ∉ l → (m.st x = 0 ↔ T.m.st x = 0)
  hd : l.Nodup
theorem W_of {T : TS} {x : Int} (hx : x ∈ T.m.ids) (ho : T.on x = true) (hW : WM T.m) : wW T x = if T.m.st x = 0 then 0 else 1 := by
  have := hW.rg x hx
  rw [wW, stT, if_pos hx, if_pos ho]
  by_cases h : T.m.st x = 0
  · rw [if_pos h, if_neg (by omega)]
  · rw [if_neg h, if_pos (by omega)]
theorem W_out {T : TS} {x : Int} (hx : x ∉ T.m.ids) : wW T x = 0 := by rw [wW, stT, if_neg hx, if_neg (by omega)]
theorem W_stop {T : TS} {x : Int} (ho : T.on x ≠ true) : wW T x = 0 := by
  rw [wW, stT]
  by_cases hx : x ∈ T.m.ids
  · rw [if_pos hx, if_neg ho, if_neg (by omega)]
  · rw [if_neg hx, if_neg (by omega)]
theorem Freed.mW {T : TS} (hP : TP T []) {m : MS} {l : List Int} (h : Freed T m l) {T' : TS} (h1 : T'.m = m) (h2 : T'.on = T.on) {K : List Tg} (h3 : T'.told = T.told ++ K) (h4 : K.map (·.th) = l) (x : Int) : Go.Proofs.Ytdfmfhcjnjfjbaa.mW T' x = Go.Proofs.Ytdfmfhcjnjfjbaa.mW T x := by
  rw [Go.Proofs.Ytdfmfhcjnjfjbaa.mW, Go.Proofs.Ytdfmfhcjnjfjbaa.mW, h3, cT_app, cT_nd h4 h.hd x]
  by_cases hx : x ∈ T.m.ids
  · have hx' : x ∈ T'.m.ids := by rw [h1, h.ids]; exact hx
    by_cases ho : T.on x = true
    · rw [W_of hx ho hP.wm, W_of hx' (by rw [h2]; exact ho) (by rw [h1]; exact h.wm), h1]
      by_cases hl : x ∈ l
      · obtain ⟨_, a2, a3⟩ := h.hM x hl
        rw [if_pos hl, if_pos a3, if_neg a2]; omega
      · rw [if_neg hl]
        have := h.hn x hx hl
        by_cases e : T.m.st x = 0
        · rw [if_pos e, if_pos (this.2 e)]; omega
        · rw [if_neg e, if_neg fun e2 => e (this.1 e2)]; omega
    · rw [W_stop ho, W_stop (by rw [h2]; exact ho)]
      have hl : x ∉ l := fun hl => ho (hP.off x hx (h.hM x hl).2.1)
      rw [if_neg hl]; omega
  · have hx' : x ∉ T'.m.ids := by rw [h1, h.ids]; exact hx
    rw [W_out hx, W_out hx', if_neg fun hl => hx (h.hM x hl).1]; omega
theorem call_freed {T : TS} (h : TP T []) {id : Int} (hi : id ∈ T.m.ids) (hs : T.m.st id ≠ 0) : Freed T (callS T.m id).1 [id] :=
  ⟨h.wm.call id, call_ids _ _, fun x hx => by rw [List.mem_singleton.1 hx]; exact ⟨hi, hs, (call_st _ _ hi).1⟩, fun x hx hn => by rw [call_ne _ _ (fun e => hn (by simp [e]))], by simp⟩
theorem close_freed {T : TS} (h : TP T []) (g : Int) : Freed T (closeS T.m g).1 (closeS T.m g).2 :=
  ⟨h.wm.close g, rfl, fun x hx => by
    have := gone_in h.wm hx
    exact ⟨this.1, by omega, by rw [close_st, if_pos hx]⟩, fun x hx hn => by rw [close_st, if_neg hn], close_nd h.wm g⟩
theorem tells_on (why : Int) : ∀ (l : List Int) (T : TS), (tellS T why l).on = T.on ∧ (tellS T why l).pr = T.pr ∧ (tellS T why l).told = T.told ++ l.map fun x => ⟨x, why⟩
  | [], T => ⟨rfl, rfl, by simp [tellS]⟩
  | x :: l, T => by
    obtain ⟨h1, h2, h3⟩ := tells_on why l (tell1 why T x)
    refine ⟨h1, h2, ?_⟩
    rw [show tellS T why (x :: l) = tellS (tell1 why T x) why l from rfl, h3]
    show (T.told ++ [(⟨x, why⟩ : Tg)]) ++ _ = _
    rw [List.append_assoc]; rfl
theorem Freed.tells {T : TS} (hP : TP T []) {m : MS} {l : List Int} (h : Freed T m l) (why x : Int) : Go.Proofs.Ytdfmfhcjnjfjbaa.mW (tellS (mS T m) why l) x = Go.Proofs.Ytdfmfhcjnjfjbaa.mW T x := by
  obtain ⟨f1, _, f3⟩ := tells_on why l (mS T m)
  obtain ⟨g1, _⟩ := tells_f (mS T m) why l
  exact h.mW hP g1 f1 f3 (by rw [List.map_map]; exact List.map_id _) x
theorem wake_mW {T : TS} (h : TP T []) (why id x : Int) : mW (wakeS T why id).1 x = mW T x := by
  rw [wakeS]
  split
  · rfl
  · rename_i h1
    split
    · rfl
    · rename_i h2
      have h1 := Decidable.not_not.1 h1
      refine (call_freed h h1 fun h3 => h2 ?_).tells h why x
      rw [stT, if_pos h1]
      split
      · exact .inl h3
      · exact .inr rfl
theorem refuse_mW {T : TS} (h : TP T []) (id why x : Int) : mW (refuseS T id why).1 x = mW T x := by
  rw [refuseS]
  split
  · rfl
  · rename_i h1
    have h1 := Decidable.not_not.1 h1
    split
    · rfl
    · rename_i o r hr
      have ho := h.wm.row id h1 o (by rw [hr]; simp)
      exact (call_freed h ho.1 (by omega)).tells h why x
theorem close_mW {T : TS} (h : TP T []) (g x : Int) : mW (closeT T g).1 x = mW T x := (close_freed h g).tells h 13 x
theorem answer_mW {T : TS} (h : TP T []) (id x : Int) : mW (answerS T id).1 x = mW T x := by
  rw [answerS]
  split
  · rfl
  · rename_i h1
    split
    · rfl
    · rename_i h2
      split
      · rename_i h3
        have h1 := Decidable.not_not.1 h1
        have h2 := Decidable.not_not.1 h2
        have hs := (st_on h2).2.2
        have hc : T.m.cl id ≠ -1 := fun hc => by rw [ansS, if_neg (fun h5 => h5 h1), if_neg (fun h5 => h5 hs), if_pos hc] at h3; cases h3
        have ha : ansS T.m id = (frS (clS T.m id (-1)) (T.m.cl id), T.m.cl id, 0) := by rw [ansS, if_neg (fun h5 => h5 h1), if_neg (fun h5 => h5 hs), if_neg hc]
        have hcl := h.wm.cal id h1 hc
        refine Freed.tells h (m := (ansS T.m id).1) (l := [(ansS T.m id).2.1]) ⟨h.wm.answer id, ans_ids _ _, fun y hy => ?_, fun y hy hn => ?_, by simp⟩ 0 x
        · rw [List.mem_singleton.1 hy, ha]
          exact ⟨hcl.1, by dsimp only; omega, updI_same _ _ _⟩
        · rw [ha] at hn ⊢
          show updI T.m.st (T.m.cl id) 0 y = 0 ↔ _
          rw [updI_ne (fun e => hn (by simp [e]))]
      · rfl
theorem takeT1_list (T : TS) (o : Off) (el s id : Int) : (takeT1 T o el s id).m = T.m ∧ (takeT1 T o el s id).on = T.on ∧ (takeT1 T o el s id).told = T.told ++ ((if o.cl = true then [] else [⟨o.fr, 0⟩]) ++ ((if el = -1 then [] else [⟨el, 13⟩]) ++ if s = 2 then [⟨id, 0⟩] else [])) := by
  have key : ∀ (c : Prop) [Decidable c] (T2 : TS) (w x : Int) (K : List Tg), T2.m = T.m → T2.on = T.on → T2.told = T.told ++ K → (if c then T2 else tellS T2 w [x]).m = T.m ∧ (if c then T2 else tellS T2 w [x]).on = T.on ∧ (if c then T2 else tellS T2 w [x]).told = T.told ++ (K ++ if c then [] else [⟨x, w⟩]) := fun c _ T2 w x K e1 e2 e3 => by
    obtain ⟨f1, _, f3⟩ := tells_on w [x] T2
    obtain ⟨g1, _⟩ := tells_f T2 w [x]
    split
    · exact ⟨e1, e2, by rw [e3, List.append_nil]⟩
    · exact ⟨g1.trans e1, f1.trans e2, by rw [f3, e3, List.append_assoc]; rfl⟩
  obtain ⟨a1, a2, a3⟩ := key (o.cl = true) T 0 o.fr [] rfl rfl (by rw [List.append_nil])
  obtain ⟨b1, b2, b3⟩ := key (el = -1) _ 13 el _ a1 a2 a3
  rw [takeT1]
  split
  · obtain ⟨f1, _, f3⟩ := tells_on 0 [id] (if el = -1 then if o.cl = true then T else tellS T 0 [o.fr] else tellS (if o.cl = true then T else tellS T 0 [o.fr]) 13 [el])
    obtain ⟨g1, _⟩ := tells_f (if el = -1 then if o.cl = true then T else tellS T 0 [o.fr] else tellS (if o.cl = true then T else tellS T 0 [o.fr]) 13 [el]) 0 [id]
    refine ⟨g1.trans b1, f1.trans b2, ?_⟩
    rw [f3, b3]; simp [List.append_assoc]
  · refine ⟨b1, b2, ?_⟩
    rw [b3]; simp
theorem take_mW {T : TS} (h : TP T []) (id x : Int) : mW (takeT T id).1 x = mW T x := by
  rw [takeT]
  split
  · rfl
  · rename_i h1
    split
    · rfl
    · rename_i h2
      split
      · rfl
      · rename_i h3
        have h1 := Decidable.not_not.1 h1
        have h3 := Decidable.not_not.1 h3
        obtain ⟨o, r, hr, ho, f1, f2, f3, f4, f5⟩ := take_form h.wm h1 h3
        have hids := take_ids T.m id
        have hst : stT T id = T.m.st id := by
          rw [stT, if_pos h1]
          split
          · rfl
          · rename_i h4; exfalso; apply h2; rw [stT, if_pos h1, if_neg h4]; decide
        have hs02 : T.m.st id = 0 ∨ T.m.st id = 2 := by rw [hst] at h2; omega
        dsimp only
        rw [ho, hst]
        obtain ⟨m1, m2, m3⟩ := takeT1_list (mS T (takeS T.m id).1) o (takeS T.m id).2.2.1 (T.m.st id) id
        have go : ∀ l : List Int, Freed T (takeS T.m id).1 l → ((if o.cl = true then [] else [(⟨o.fr, 0⟩ : Tg)]) ++ ((if (takeS T.m id).2.2.1 = -1 then [] else [(⟨(takeS T.m id).2.2.1, 13⟩ : Tg)]) ++ if T.m.st id = 2 then [(⟨id, 0⟩ : Tg)] else [])).map (fun t : Tg => t.th) = l → mW (takeT1 (mS T (takeS T.m id).1) o (takeS T.m id).2.2.1 (T.m.st id) id) x = mW T x := fun l hF hl => hF.mW h m1 m2 m3 hl x
        refine go _ ⟨h.wm.take id, hids, fun y hy => ?_, fun y hy hn => ?_, ?_⟩ rfl
        · rcases f5 with ⟨g1, g2, g3, g4⟩ | ⟨g1, g2, g3, g5, g4⟩
          · rw [g1, g2] at hy
            simp only [Bool.false_eq_true, if_false, if_true, List.nil_append, List.cons_append, List.map_cons, List.mem_cons] at hy
            rcases hy with rfl | hy
            · exact ⟨f1, (by show T.m.st o.fr ≠ 0; omega), g3⟩
            · split at hy
              · rename_i e; rw [List.map_cons, List.map_nil, List.mem_singleton] at hy; rw [hy]; exact ⟨h1, by dsimp only; omega, f4⟩
              · cases hy
          · rw [g1, g2] at hy
            simp only [if_true, List.nil_append] at hy
            rw [List.map_append, List.mem_append] at hy
            rcases hy with hy | hy
            · split at hy
              · cases hy
              · rename_i hc
                rw [List.map_cons, List.map_nil, List.mem_singleton] at hy
                obtain ⟨c1, c2, c3, c4, c5⟩ := g5 hc
                rw [hy]; exact ⟨c1, by dsimp only; omega, c5⟩
            · split at hy
              · rename_i e; rw [List.map_cons, List.map_nil, List.mem_singleton] at hy; rw [hy]; exact ⟨h1, by dsimp only; omega, f4⟩
              · cases hy
        · rcases f5 with ⟨g1, g2, g3, g4⟩ | ⟨g1, g2, g3, g5, g4⟩
          · rw [g1, g2] at hn
            simp only [Bool.false_eq_true, if_false, if_true, List.nil_append, List.cons_append, List.map_cons, List.mem_cons, not_or] at hn
            by_cases e : y = id
            · subst e
              have : T.m.st y = 0 := hs02.resolve_right fun e => hn.2 (by rw [if_pos e]; simp)
              rw [f4, this]
            · rw [g4 y e hn.1]
          · rw [g1, g2] at hn
            simp only [if_true, List.nil_append] at hn
            rw [List.map_append, List.mem_append, not_or] at hn
            by_cases e : y = id
            · subst e
              have : T.m.st y = 0 := hs02.resolve_right fun e => hn.2 (by rw [if_pos e]; simp)
              rw [f4, this]
            · by_cases e2 : y = o.fr
              · rw [e2, g3, f3]; decide
              · have e3 : y ≠ T.m.cl id := fun e3 => hn.1 (by
                  have hne : T.m.cl id ≠ -1 := by have := h.wm.ge y hy; omega
                  rw [if_neg hne, ← e3]; simp)
                rw [g4 y e e2 e3]
        · rcases f5 with ⟨g1, g2, g3, g4⟩ | ⟨g1, g2, g3, g5, g4⟩
          · rw [g1, g2]
            simp only [Bool.false_eq_true, if_false, if_true, List.nil_append, List.cons_append, List.map_cons, List.nodup_cons]
            split
            · exact ⟨by simpa using f2, by simp⟩
            · simp
          · rw [g1, g2]
            simp only [if_true, List.nil_append]
            split
            · split <;> simp
            · rename_i hc
              obtain ⟨c1, c2, c3, c4, c5⟩ := g5 hc
              simp only [List.cons_append, List.nil_append, List.map_cons, List.nodup_cons]
              split
              · exact ⟨by simpa using c2, by simp⟩
              · simp
theorem wakeL_mW (x : Int) : ∀ (l : List Int) {T : TS}, TP T [] → mW (wakeL T l) x = mW T x
  | [], _, _ => rfl
  | y :: l, T, h => (wakeL_mW x l (h.wake 14 y)).trans (wake_mW h 14 y x)
theorem tick_mW {T : TS} (h : TP T []) (x : Int) : mW (tickT T) x = mW T x := (wakeL_mW x _ h.tick1).trans rfl
theorem st_same {T T' : TS} (h1 : T'.m = T.m) (h2 : T'.on = T.on) (x : Int) : stT T' x = stT T x := by rw [stT, stT, h1, h2]
theorem mW_same {T T' : TS} {x : Int} (h1 : stT T' x = stT T x) (h2 : T'.told = T.told) : mW T' x = mW T x := by rw [mW, mW, wW, wW, h1, h2]
theorem start_mW {T : TS} (h : TP T []) (id p s x : Int) : mW (startS T id p s).1 x = mW T x := by
  rw [startS]
  split
  · rfl
  · rename_i h1
    have h1 := Decidable.not_not.1 h1
    split
    · rfl
    · split
      · rfl
      · rename_i h3
        by_cases e : x = id
        · subst e
          have hs : T.m.st x = 0 := Decidable.byContradiction fun h4 => h3 (h.off x h1 h4)
          have a1 : wW T x = 0 := W_stop h3
          show cT T.told x + wW _ x = cT T.told x + wW T x
          rw [a1, W_of (T := { T with S := (addS T.S x p s).1, pr := updI T.pr x p, sl := updI T.sl x s, on := updI T.on x true }) h1 (updI_same _ _ _) h.wm]
          show _ + (if T.m.st x = 0 then (0 : Int) else 1) = _
          rw [if_pos hs]
        · refine mW_same ?_ rfl
          rw [stT, stT]
          show (if x ∈ T.m.ids then (if updI T.on id true x = true then _ else _) else _) = _
          rw [updI_ne e]
theorem add_mW {T : TS} (id x : Int) : mW (addT T id) x = mW T x := by
  rw [addT]
  split
  · rfl
  · rename_i hn
    have hj : joinS T.m id = ⟨T.m.ids ++ [id], updI T.m.st id 0, updI T.m.cl id (-1), updI T.m.pn id (-1), updI T.m.row id []⟩ := if_neg hn
    have hx : id ∉ T.m.ids := fun h2 => hn (.inl h2)
    by_cases e : x = id
    · subst e
      show cT T.told x + wW _ x = cT T.told x + wW T x
      rw [W_out hx, W_stop]
      show ¬ (updI T.on x false x = true)
      rw [updI_same]; decide
    · refine mW_same ?_ rfl
      rw [stT, stT]
      show (if x ∈ (joinS T.m id).ids then (if updI T.on id false x = true then (joinS T.m id).st x else 4) else -1) = _
      rw [updI_ne e, hj]
      show (if x ∈ T.m.ids ++ [id] then (if T.on x = true then updI T.m.st id 0 x else 4) else -1) = _
      rw [updI_ne e]
      have : (x ∈ T.m.ids ++ [id]) ↔ x ∈ T.m.ids := by simp [e]
      simp only [this]
theorem stop_mW {T : TS} (h : TP T []) (id x : Int) : mW (stopS T id).1 x = mW T x - (if x = id ∧ (stopS T id).2 = 0 then wW T id else 0) := by
  rw [stopS]
  split
  · rw [if_neg (fun h => by cases h.2)]; exact (Int.sub_zero _).symm
  · rename_i h1
    split
    · rw [if_neg (fun h => by cases h.2)]; exact (Int.sub_zero _).symm
    · by_cases e : x = id
      · subst e
        rw [if_pos ⟨rfl, rfl⟩]
        show cT T.told x + wW _ x = cT T.told x + wW T x - wW T x
        rw [W_stop]
        · omega
        · show ¬ (updI T.on x false x = true)
          rw [updI_same]; decide
      · rw [if_neg (fun h => e h.1), Int.sub_zero]
        refine mW_same ?_ rfl
        rw [stT, stT]
        show (if x ∈ (callS T.m id).1.ids then (if updI T.on id false x = true then (callS T.m id).1.st x else 4) else -1) = _
        rw [updI_ne e, call_ids, call_ne _ _ e]
theorem remove_mW {T : TS} (h : TP T []) (id x : Int) : mW (removeS T id).1 x = mW T x - (if x = id ∧ (removeS T id).2 = 0 then wW T id else 0) := by
  by_cases hi : id ∈ T.m.ids
  · have hv : removeS T id = (tellS (outS T id) 13 (leaveS T.m id).2.1, 0) := if_neg (fun h2 => h2 hi)
    rw [hv]
    obtain ⟨f1, _, f3⟩ := tells_on 13 (leaveS T.m id).2.1 (outS T id)
    obtain ⟨g1, _⟩ := tells_f (outS T id) 13 (leaveS T.m id).2.1
    have hP := h.out hi
    dsimp only
    rw [mW, f3, cT_app, cT_nd (K := (leaveS T.m id).2.1.map fun x => (⟨x, 13⟩ : Tg)) (l := (leaveS T.m id).2.1) (by rw [List.map_map]; exact List.map_id _) hP.Ln x, mW]
    show cT T.told x + _ + _ = _
    have hids := leave_ids hi
    have hm : (tellS (outS T id) 13 (leaveS T.m id).2.1).m = (leaveS T.m id).1 := g1
    have ho : (tellS (outS T id) 13 (leaveS T.m id).2.1).on = T.on := f1
    by_cases e : x = id
    · subst e
      have hx' : x ∉ (tellS (outS T x) 13 (leaveS T.m x).2.1).m.ids := by rw [hm, hids]; simp
      have hl : x ∉ (leaveS T.m x).2.1 := fun hl => (leave_gone h.wm hi hl).2.1 rfl
      rw [W_out hx', if_neg hl, if_pos ⟨rfl, rfl⟩]; omega
    · rw [if_neg (show ¬ (x = id ∧ (0 : Int) = 0) from fun h => e h.1)]
      by_cases hx : x ∈ T.m.ids
      · have hx' : x ∈ (tellS (outS T id) 13 (leaveS T.m id).2.1).m.ids := by rw [hm, hids]; simp [hx, e]
        by_cases hon : T.on x = true
        · rw [W_of hx hon h.wm, W_of hx' (by rw [ho]; exact hon) (by rw [hm]; exact h.wm.leave id), hm]
          by_cases hl : x ∈ (leaveS T.m id).2.1
          · obtain ⟨_, _, a2, a3⟩ := leave_gone h.wm hi hl
            rw [if_pos hl, if_pos a3, if_neg a2]; omega
          · rw [if_neg hl, leave_st hi hl e]; omega
        · have hl : x ∉ (leaveS T.m id).2.1 := fun hl => hon (h.off x hx (leave_gone h.wm hi hl).2.2.1)
          rw [W_stop hon, W_stop (by rw [ho]; exact hon), if_neg hl]; omega
      · have hx' : x ∉ (tellS (outS T id) 13 (leaveS T.m id).2.1).m.ids := by rw [hm, hids]; simp [hx]
        have hl : x ∉ (leaveS T.m id).2.1 := fun hl => hx (leave_gone h.wm hi hl).1
        rw [W_out hx, W_out hx', if_neg hl]; omega
  · have hv : removeS T id = (T, 6) := if_pos hi
    rw [hv, if_neg (fun h => by cases h.2)]; exact (Int.sub_zero _).symm
theorem block_mW {T : TS} (h : TP T []) {m : MS} (hW : WM m) (hi : m.ids = T.m.ids) {y : Int} (hy : y ∈ T.m.ids) (hs : stT T y = 0) (h1 : m.st y ≠ 0) (hn : ∀ x, x ≠ y → m.st x = T.m.st x) (ticks x : Int) : mW (blockS (mS T m) y ticks) x = mW T x + if x = y then 1 else 0 := by
  have hb : (blockS (mS T m) y ticks).m = m ∧ (blockS (mS T m) y ticks).on = T.on ∧ (blockS (mS T m) y ticks).told = T.told := by
    rw [blockS]; split <;> exact ⟨rfl, rfl, rfl⟩
  obtain ⟨b1, b2, b3⟩ := hb
  have hon := (st_on hs).2.1
  have h0 := (st_on hs).2.2
  by_cases e : x = y
  · subst e
    rw [if_pos rfl, mW, mW, b3, W_of hy hon h.wm, W_of (by rw [b1, hi]; exact hy) (by rw [b2]; exact hon) (by rw [b1]; exact hW), b1, if_neg h1, if_pos h0]; omega
  · rw [if_neg e, Int.add_zero]
    refine mW_same ?_ b3
    rw [stT, stT, b1, b2, hi, hn x e]
theorem send_mW {T : TS} (h : TP T []) (fr to gt : Int) (cl : Bool) (ticks x : Int) : mW (sendS T fr to gt cl ticks).1 x = mW T x + if x = fr ∧ (sendS T fr to gt cl ticks).2 = 0 then 1 else 0 := by
  rw [sendS]
  split
  · rw [if_neg (fun h => by cases h.2)]; exact (Int.add_zero _).symm
  · rename_i h1
    split
    · rw [if_neg (fun h => by cases h.2)]; exact (Int.add_zero _).symm
    · rename_i h2
      split
      · rw [if_neg (fun h => by cases h.2)]; exact (Int.add_zero _).symm
      · rename_i h3
        have hf : fr ∈ T.m.ids := Decidable.not_not.1 fun h4 => h1 (.inl h4)
        have ht : to ∈ T.m.ids := Decidable.not_not.1 fun h4 => h1 (.inr h4)
        have h3 := Decidable.not_not.1 h3
        have hs := (st_on h3).2.2
        have ho : offS T.m to ⟨fr, gt, cl⟩ = (pushS (wtS T.m fr 1 to) to ⟨fr, gt, cl⟩, 0) := by
          rw [offS, if_neg (fun h4 => h4.elim (fun h5 => h5 ht) (fun h5 => h5 hf)), if_neg (fun h4 => h2 (.inl h4)), if_neg (fun h4 => h4 hs)]
        rw [block_mW h (h.wm.offer to ⟨fr, gt, cl⟩) (off_ids _ _ _) hf h3 (by rw [ho]; show updI T.m.st fr 1 fr ≠ 0; rw [updI_same]; decide) (fun y hy => by rw [ho]; exact updI_ne hy)]
        simp
theorem wait_mW {T : TS} (h : TP T []) (id ticks x : Int) : mW (waitS T id ticks).1 x = mW T x + if x = id ∧ (waitS T id ticks).2 = 0 then 1 else 0 := by
  rw [waitS]
  split
  · rw [if_neg (fun h => by cases h.2)]; exact (Int.add_zero _).symm
  · rename_i h1
    split
    · rw [if_neg (fun h => by cases h.2)]; exact (Int.add_zero _).symm
    · rename_i h2
      split
      · rw [if_neg (fun h => by cases h.2)]; exact (Int.add_zero _).symm
      · rename_i h3
        split
        · rename_i h4; rw [if_neg (fun h => h4 h.2)]; exact (Int.add_zero _).symm
        · rename_i h4
          have h1 := Decidable.not_not.1 h1
          have h3 := Decidable.not_not.1 h3
          have hs := (st_on h3).2.2
          have h4 := Decidable.not_not.1 h4
          have ho : (openS T.m id).1 = stS T.m id 2 := by
            rw [openS, if_neg (fun h5 => h5 h1)] at h4 ⊢
            split at h4
            · cases h4
            · rename_i h5; rw [if_neg h5]
          rw [block_mW h (h.wm.opens id) (open_ids _ _) h1 h3 (by rw [ho]; show updI T.m.st id 2 id ≠ 0; rw [updI_same]; decide) (fun y hy => by rw [ho]; exact updI_ne hy)]
          simp
/-- Of the threads 0 to 7. -/
structure R8 (T : TS) (n : Nat) : Prop where
  g : TG T n
  rg : ∀ x ∈ T.m.ids, 0 ≤ x ∧ x ≤ 7
theorem R8.len {T : TS} {n : Nat} (h : R8 T n) : T.m.ids.length ≤ 8 := by
  have := nodup_sub_len h.g.p.wm.nd (m := [0, 1, 2, 3, 4, 5, 6, 7]) fun x hx => by
    have := h.rg x hx
    simp only [List.mem_cons, List.not_mem_nil, or_false]; omega
  exact this
theorem R8.up {T : TS} {n m : Nat} (h : R8 T n) (hm : n ≤ m) : R8 T m := ⟨h.g.up hm, h.rg⟩
theorem R8.of {T T' : TS} {n m : Nat} (h : R8 T n) (hg : TG T' m) (hi : ∀ x ∈ T'.m.ids, x ∈ T.m.ids) : R8 T' m := ⟨hg, fun x hx => h.rg x (hi x hx)⟩
def inc (x y : Int) : Int := if 0 ≤ y ∧ x = y then 1 else 0
theorem inc_neg (x : Int) : inc x (-1) = 0 := if_neg (by omega)
theorem inc_self {x y : Int} (hy : 0 ≤ y) (h : x = y) : inc x y = 1 := if_pos ⟨hy, h⟩
theorem inc_ne {x y : Int} (h : x ≠ y) : inc x y = 0 := if_neg fun h2 => h h2.2
def PL (T : TS) (n : Nat) (y : TS × Int × Int) : Prop := R8 y.1 (n + 41) ∧ (y.2.1 = -1 ∨ (0 ≤ y.2.1 ∧ y.2.1 ≤ 7)) ∧ (y.2.2 = -1 ∨ (0 ≤ y.2.2 ∧ y.2.2 ≤ 7)) ∧ ∀ x, mW y.1 x = mW T x + inc x y.2.1 - inc x y.2.2
theorem PL.same {T T' : TS} {n : Nat} (h : R8 T' (n + 41)) (hm : ∀ x, mW T' x = mW T x) : PL T n (T', -1, -1) := ⟨h, .inl rfl, .inl rfl, fun x => by rw [hm]; show _ = _ + inc x (-1) - inc x (-1); rw [inc_neg]; omega⟩
theorem block_ids (T : TS) (m : MS) (y ticks : Int) : (blockS (mS T m) y ticks).m = m := by rw [blockS]; split <;> rfl
theorem send_ids (T : TS) (fr to gt : Int) (cl : Bool) (ticks : Int) : (sendS T fr to gt cl ticks).1.m.ids = T.m.ids := by
  rw [sendS]; split
  · rfl
  · split
    · rfl
    · split
      · rfl
      · dsimp only; rw [block_ids, off_ids]
theorem wait_ids (T : TS) (id ticks : Int) : (waitS T id ticks).1.m.ids = T.m.ids := by
  rw [waitS]; split
  · rfl
  · split
    · rfl
    · split
      · rfl
      · split
        · rfl
        · dsimp only; rw [block_ids, open_ids]
theorem take_idsT (T : TS) (id : Int) : (takeT T id).1.m.ids = T.m.ids := by
  rw [takeT]; split
  · rfl
  · split
    · rfl
    · split
      · rfl
      · dsimp only; rw [(takeT1_f _ _ _ _ _).1]; exact take_ids _ _
theorem refuse_ids (T : TS) (id why : Int) : (refuseS T id why).1.m.ids = T.m.ids := by
  rw [refuseS]; split
  · rfl
  · split
    · rfl
    · dsimp only; rw [(tells_f _ _ _).1]; exact call_ids _ _
theorem answer_ids (T : TS) (id : Int) : (answerS T id).1.m.ids = T.m.ids := by
  rw [answerS]; split
  · rfl
  · split
    · rfl
    · split
      · dsimp only; rw [(tells_f _ _ _).1]; exact ans_ids _ _
      · rfl
theorem close_ids (T : TS) (g : Int) : (closeT T g).1.m.ids = T.m.ids := by
  rw [closeT]; dsimp only; rw [(tells_f _ _ _).1]; rfl
theorem start_ids (T : TS) (id p s : Int) : (startS T id p s).1.m = T.m := by
  rw [startS]; (repeat' split) <;> rfl
theorem stop_ids (T : TS) (id : Int) : (stopS T id).1.m.ids = T.m.ids := by
  rw [stopS]; split
  · rfl
  · split
    · rfl
    · exact call_ids _ _
theorem remove_ids (T : TS) (id : Int) {x : Int} (hx : x ∈ (removeS T id).1.m.ids) : x ∈ T.m.ids := by
  by_cases hi : id ∈ T.m.ids
  · rw [show removeS T id = (tellS (outS T id) 13 (leaveS T.m id).2.1, 0) from if_neg (fun h2 => h2 hi)] at hx
    dsimp only at hx
    rw [(tells_f _ _ _).1] at hx
    have hx : x ∈ (leaveS T.m id).1.ids := hx
    rw [leave_ids hi] at hx; exact (List.mem_filter.1 hx).1
  · rw [show removeS T id = (T, 6) from if_pos hi] at hx; exact hx
theorem tick_ids (T : TS) : (tickT T).m.ids = T.m.ids := (wakeL_f _ _).1
theorem R8.add {T : TS} {n : Nat} (h : R8 T n) {id : Int} (hi : 0 ≤ id ∧ id ≤ 7) : R8 (addL T [id]) n := by
  have hl := h.len
  refine ⟨h.g.adds [id] (by simp; omega), fun x hx => ?_⟩
  have hx : x ∈ (addT T id).m.ids := hx
  rw [add_ids, joinS] at hx
  split at hx
  · exact h.rg x hx
  · rcases List.mem_append.1 hx with hx | hx
    · exact h.rg x hx
    · rw [List.mem_singleton.1 hx]; exact hi
theorem PL.add {T : TS} {n : Nat} (h : R8 T n) {id : Int} (hi : 0 ≤ id ∧ id ≤ 7) : PL T n (addL T [id], -1, -1) := .same ((h.add hi).up (by omega)) fun x => add_mW id x
theorem PL.start {T : TS} {n : Nat} (h : R8 T n) (id p s : Int) : PL T n ((startS T id p s).1, -1, -1) := .same ((h.of (h.g.start id p s) (by rw [start_ids]; exact fun _ h => h)).up (by omega)) fun x => start_mW h.g.p id p s x
theorem PL.take {T : TS} {n : Nat} (h : R8 T n) (id : Int) : PL T n ((takeT T id).1, -1, -1) := .same ((h.of (h.g.take id) (by rw [take_idsT]; exact fun _ h => h)).up (by omega)) fun x => take_mW h.g.p id x
theorem PL.refuse {T : TS} {n : Nat} (h : R8 T n) (id why : Int) : PL T n ((refuseS T id why).1, -1, -1) := .same ((h.of (h.g.refuse id why) (by rw [refuse_ids]; exact fun _ h => h)).up (by omega)) fun x => refuse_mW h.g.p id why x
theorem PL.answer {T : TS} {n : Nat} (h : R8 T n) (id : Int) : PL T n ((answerS T id).1, -1, -1) := .same ((h.of (h.g.answer id) (by rw [answer_ids]; exact fun _ h => h)).up (by omega)) fun x => answer_mW h.g.p id x
theorem PL.wake {T : TS} {n : Nat} (h : R8 T n) (why id : Int) : PL T n ((wakeS T why id).1, -1, -1) := .same ((h.of (h.g.wake why id) (by rw [(wake_f T why id).1]; exact fun _ h => h)).up (by omega)) fun x => wake_mW h.g.p why id x
theorem PL.close {T : TS} {n : Nat} (h : R8 T n) (g : Int) : PL T n ((closeT T g).1, -1, -1) := .same ((h.of (h.g.close g) (by rw [close_ids]; exact fun _ h => h)).up (by omega)) fun x => close_mW h.g.p g x
theorem PL.yield {T : TS} {n : Nat} (h : R8 T n) : PL T n (yieldT T, -1, -1) := .same ((h.of h.g.yield (fun _ h => h)).up (by omega)) fun x => rfl
theorem PL.none {T : TS} {n : Nat} (h : R8 T n) : PL T n (T, -1, -1) := .same (h.up (by omega)) fun x => rfl
theorem R8.stop {T : TS} {n : Nat} (h : R8 T n) (id : Int) : R8 (stopS T id).1 (n + 41) := (h.of (h.g.stop id) (by rw [stop_ids]; exact fun _ h => h)).up (by omega)
theorem R8.remove {T : TS} {n : Nat} (h : R8 T n) (id : Int) : R8 (removeS T id).1 (n + 41) := (h.of (h.g.remove id) (fun _ h => remove_ids T id h)).up (by omega)
theorem wW_eq (T : TS) (id : Int) : wW T id = if 1 ≤ stT T id ∧ stT T id ≤ 3 then 1 else 0 := rfl
theorem PL.out {T T' : TS} {n : Nat} {v : Int} (h8 : R8 T' (n + 41)) {id : Int} (hi : 0 ≤ id ∧ id ≤ 7) (hm : ∀ x, mW T' x = mW T x - (if x = id ∧ v = 0 then wW T id else 0)) : (v = 0 ∧ (1 ≤ stT T id ∧ stT T id ≤ 3) → PL T n (T', -1, id)) ∧ (¬ (v = 0 ∧ (1 ≤ stT T id ∧ stT T id ≤ 3)) → PL T n (T', -1, -1)) := by
  constructor
  · rintro ⟨h1, h2⟩
    refine ⟨h8, .inl rfl, .inr hi, fun x => ?_⟩
    show mW T' x = mW T x + inc x (-1) - inc x id
    rw [hm, inc_neg, wW_eq, if_pos h2]
    by_cases e : x = id
    · rw [if_pos ⟨e, h1⟩, inc_self hi.1 e]; omega
    · rw [if_neg (fun h => e h.1), inc_ne e]; omega
  · intro h1
    refine .same h8 fun x => ?_
    rw [hm, wW_eq]
    by_cases e : x = id ∧ v = 0
    · rw [if_pos e, if_neg (fun h => h1 ⟨e.2, h⟩)]; omega
    · rw [if_neg e]; omega
theorem PL.beg {T T' : TS} {n : Nat} {v : Int} (h8 : R8 T' (n + 41)) {id : Int} (hi : 0 ≤ id ∧ id ≤ 7) (hm : ∀ x, mW T' x = mW T x + if x = id ∧ v = 0 then 1 else 0) : (v = 0 → PL T n (T', id, -1)) ∧ (v ≠ 0 → PL T n (T', -1, -1)) := by
  constructor
  · intro h1
    refine ⟨h8, .inr hi, .inl rfl, fun x => ?_⟩
    show mW T' x = mW T x + inc x id - inc x (-1)
    rw [hm, inc_neg]
    by_cases e : x = id
    · rw [if_pos ⟨e, h1⟩, inc_self hi.1 e]; omega
    · rw [if_neg (fun h => e h.1), inc_ne e]; omega
  · intro h1
    refine .same h8 fun x => ?_
    rw [hm, if_neg (fun h => h1 h.2)]; omega
theorem PL.stop {T : TS} {n : Nat} (h : R8 T n) {id : Int} (hi : 0 ≤ id ∧ id ≤ 7) : ((stopS T id).2 = 0 ∧ (1 ≤ stT T id ∧ stT T id ≤ 3) → PL T n ((stopS T id).1, -1, id)) ∧ (¬ ((stopS T id).2 = 0 ∧ (1 ≤ stT T id ∧ stT T id ≤ 3)) → PL T n ((stopS T id).1, -1, -1)) := PL.out (h.stop id) hi (v := (stopS T id).2) fun x => stop_mW h.g.p id x
theorem PL.remove {T : TS} {n : Nat} (h : R8 T n) {id : Int} (hi : 0 ≤ id ∧ id ≤ 7) : ((removeS T id).2 = 0 ∧ (1 ≤ stT T id ∧ stT T id ≤ 3) → PL T n ((removeS T id).1, -1, id)) ∧ (¬ ((removeS T id).2 = 0 ∧ (1 ≤ stT T id ∧ stT T id ≤ 3)) → PL T n ((removeS T id).1, -1, -1)) := PL.out (h.remove id) hi (v := (removeS T id).2) fun x => remove_mW h.g.p id x
theorem PL.send {T : TS} {n : Nat} (h : R8 T n) {id : Int} (hi : 0 ≤ id ∧ id ≤ 7) (to gt : Int) (cl : Bool) (ticks : Int) : ((sendS T id to gt cl ticks).2 = 0 → PL T n ((sendS T id to gt cl ticks).1, id, -1)) ∧ ((sendS T id to gt cl ticks).2 ≠ 0 → PL T n ((sendS T id to gt cl ticks).1, -1, -1)) := PL.beg ((h.of (h.g.send id to gt cl ticks) (by rw [send_ids]; exact fun _ h => h)).up (show n + 1 ≤ n + 41 by omega)) hi (v := (sendS T id to gt cl ticks).2) fun x => send_mW h.g.p id to gt cl ticks x
theorem PL.wait {T : TS} {n : Nat} (h : R8 T n) {id : Int} (hi : 0 ≤ id ∧ id ≤ 7) (ticks : Int) : ((waitS T id ticks).2 = 0 → PL T n ((waitS T id ticks).1, id, -1)) ∧ ((waitS T id ticks).2 ≠ 0 → PL T n ((waitS T id ticks).1, -1, -1)) := PL.beg ((h.of (h.g.wait id ticks) (by rw [wait_ids]; exact fun _ h => h)).up (show n + 1 ≤ n + 41 by omega)) hi (v := (waitS T id ticks).2) fun x => wait_mW h.g.p id ticks x
def bT : Nat → TS
  | 0 => addL t0 [0, 1, 2, 3, 4, 5, 6, 7]
  | i + 1 => (startS (bT i) i (i % 3) (1 + i)).1
theorem bT_ids (i : Nat) : (bT i).m = (bT 0).m := by
  induction i with
  | zero => rfl
  | succ i ih => rw [show bT (i + 1) = (startS (bT i) i (i % 3) (1 + i)).1 from rfl, start_ids, ih]
theorem bT_8 : ∀ i, R8 (bT i) i
  | 0 => ⟨TG.zero.adds _ (by decide), fun x hx => by
      have : (bT 0).m.ids = [0, 1, 2, 3, 4, 5, 6, 7] := by kernel_rfl
      rw [this] at hx
      simp only [List.mem_cons, List.not_mem_nil, or_false] at hx; omega⟩
  | i + 1 => (bT_8 i).of ((bT_8 i).g.start _ _ _) (by rw [show bT (i + 1) = (startS (bT i) i (i % 3) (1 + i)).1 from rfl, start_ids]; exact fun _ h => h)
theorem bT_ok : ∀ i : Nat, i < 8 → (startS (bT i) i (i % 3) (1 + i)).2 = 0 := by
  intro i hi
  have : i = 0 ∨ i = 1 ∨ i = 2 ∨ i = 3 ∨ i = 4 ∨ i = 5 ∨ i = 6 ∨ i = 7 := by omega
  rcases this with rfl | rfl | rfl | rfl | rfl | rfl | rfl | rfl <;> (show _ = (0 : Int); kernel_rfl)
theorem bT_n : ((bT 0).m.ids.length : Int) - (t0.m.ids.length : Int) = 8 := by kernel_rfl
theorem bT_m (x : Int) : mW (bT 8) x = 0 := by
  have h : ∀ i, mW (bT i) x = mW (bT 0) x := fun i => by
    induction i with
    | zero => rfl
    | succ i ih => rw [show bT (i + 1) = (startS (bT i) i (i % 3) (1 + i)).1 from rfl, start_mW (bT_8 i).g.p, ih]
  rw [h]
  have : ∀ (l : List Int) (T : TS), mW (addL T l) x = mW T x := fun l => by
    induction l with
    | nil => intro T; rfl
    | cons a l ih => intro T; exact (ih (addT T a)).trans (add_mW a x)
  rw [show bT 0 = addL t0 [0, 1, 2, 3, 4, 5, 6, 7] from rfl, this]
  have h0 : wW t0 x = 0 := W_out (List.not_mem_nil)
  rw [mW, h0]; rfl

set_option maxRecDepth 4000 in
set_option maxHeartbeats 2000000 in
theorem begin_ok  : FSpec Try.prog 31 [] noRd [] (fun b : Nat => .pointer (some ⟨b, 0, none⟩)) (fun _ => True) (fun b => [isT b (bT 8)]) := by
  refine FSpec.intro (rs := [.tmp 0]) (by kernel_rfl) Try.func31 rfl Try.ntmps31 (by rfl) rfl ?_
  intro F _
  change TC _ _ _ _ _ _ _ (sepL [_])
  refine TC.seq ?_
  refine TC.region ?_
  refine q rfl rfl (asg (v := .pointer _) rfl) ?_
  refine TL.nil (nt ?_)
  refine TC.seq ?_
  refine TC.region ?_
  refine e rfl ?_
  refine cl tnew_ok rfl (picked_nil _) trivial ?_
  intro a _
  change TL _ _ _ _ _ _ _ _ (sepL [_, _])
  refine q rfl rfl (asg (v := .pointer _) rfl) ?_
  refine TL.nil (nt ?_)
  refine TC.seq ?_
  refine TC.seq ?_
  refine TC.region ?_
  refine q rfl rfl (mv (v := .pointer _) rfl) ?_
  refine e rfl ?_
  refine bs (E := 3) (sz := 1) (cs := ints [0, 1, 2, 3, 4, 5, 6, 7]) (by kernel_rfl) ?_
  intro b1
  refine e rfl ?_
  refine cl (tadd_ok a t0 (some ⟨b1, 0, none⟩) _ [0, 1, 2, 3, 4, 5, 6, 7] (by decide) (by decide)) rfl PkL.p ⟨_, RdSI.rd (ad := some ⟨b1, 0, none⟩)⟩ ?_
  intro _ _
  change TL _ _ _ _ _ _ _ _ (sepL [_, _, _])
  rw [show addL t0 [0, 1, 2, 3, 4, 5, 6, 7] = bT 0 from rfl, bT_n]
  refine q rfl rfl (neI rfl rfl) ?_
  refine TL.nil (nt ?_)
  refine TC.condF rfl ?_
  refine TC.skip (nt ?_)
  refine TC.seq ?_
  refine TC.seq ?_
  refine TC.region ?_
  refine q rfl rfl (asg (v := .int _ _) rfl) ?_
  refine TL.nil (nt ?_)
  refine TC.block ?_
  refine TC.loop (ι := Nat) (fun i => i ≤ 8) (fun i => [(1, .pointer (some ⟨a, 0, none⟩)), (2, .int .i64 ((i : Nat) : Int))]) (fun i => sepL [isT a (bT i), F]) (fun i => 8 - i) 0 (by decide) ⟨rfl, rfl, trivial⟩ (by repeat (first | exact ent_nil _ | refine ent_take 0 rfl ?_ | refine ent_take 1 rfl ?_ | refine ent_take 2 rfl ?_ | refine ent_take 3 rfl ?_ | refine ent_take 4 rfl ?_ | refine ent_take 5 rfl ?_ | refine ent_take 6 rfl ?_ | refine ent_take 7 rfl ?_ | refine ent_take 8 rfl ?_ | refine ent_take 9 rfl ?_ | refine ent_take 10 rfl ?_ | refine ent_take 11 rfl ?_ | refine ent_take 12 rfl ?_)) ?_
  rintro i hi ρ0
  dsimp only [updL] at hi ⊢
  refine TC.seq ?_
  refine TC.seq ?_
  refine TC.region ?_
  refine q rfl rfl (mv (v := .int _ _) rfl) ?_
  refine q rfl rfl (lss rfl rfl) ?_
  refine TL.nil (nt ?_)
  first | refine TC.condD rfl (fun hlt => ?_) (fun hlt => ?_) | refine TC.cond rfl (fun hlt => ?_) (fun hlt => ?_)
  · have hi8 : i < 8 := by omega
    have hg := (bT_8 i).g
    have hv := bT_ok i hi8
    refine TC.skip (nt ?_)
    refine TC.seq ?_
    refine TC.block ?_
    refine TC.seq ?_
    refine TC.region ?_
    refine q rfl rfl (mv (v := .pointer _) rfl) ?_
    refine q rfl rfl (mv (v := .int _ _) rfl) ?_
    refine q rfl rfl (mv (v := .int _ _) rfl) ?_
    first | refine q rfl rfl (remI rfl rfl (by omega) (by omega)) ?_ | refine q rfl rfl (rem rfl rfl (by omega) rfl) ?_
    refine q rfl rfl (mv (v := .int _ _) rfl) ?_
    first | refine q rfl rfl (addI rfl rfl (by omega) (by omega)) ?_ | refine q rfl rfl (add rfl rfl rfl) ?_
    refine e rfl ?_
    refine cl (tstart_ok a (bT i) hg.p (hg.tb (by omega)) i (i % 3) (1 + i)) rfl PkL.p trivial ?_
    intro _ _
    change TL _ _ _ _ _ _ _ _ (sepL [_, _])
    rw [hv, show (startS (bT i) i (i % 3) (1 + i)).1 = bT (i + 1) from rfl]
    refine q rfl rfl (neI rfl rfl) ?_
    refine TL.nil (nt ?_)
    refine TC.condF rfl ?_
    refine TC.skip (nb (nt ?_))
    refine TC.region ?_
    refine q rfl rfl (mv (v := .int _ _) rfl) ?_
    first | refine q rfl rfl (addI rfl rfl (by omega) (by omega)) ?_ | refine q rfl rfl (add rfl rfl rfl) ?_
    refine q rfl rfl (asg (v := .int _ _) rfl) ?_
    refine TL.nil (nt ?_)
    exact ⟨rfl, (i + 1), (by omega), (by omega), ⟨rfl, rfl, trivial⟩, (by repeat (first | exact ent_nil _ | refine ent_take 0 rfl ?_ | refine ent_take 1 rfl ?_ | refine ent_take 2 rfl ?_ | refine ent_take 3 rfl ?_ | refine ent_take 4 rfl ?_ | refine ent_take 5 rfl ?_ | refine ent_take 6 rfl ?_ | refine ent_take 7 rfl ?_ | refine ent_take 8 rfl ?_ | refine ent_take 9 rfl ?_ | refine ent_take 10 rfl ?_ | refine ent_take 11 rfl ?_ | refine ent_take 12 rfl ?_))⟩
  · obtain rfl : i = 8 := by omega
    refine TC.exit (et (et (eb (nt ?_))))
    refine TC.seq ?_
    refine TC.region ?_
    refine q rfl rfl (mv (v := .pointer _) rfl) ?_
    refine q rfl rfl (asg (v := .pointer _) rfl) ?_
    refine TL.nil (nt ?_)
    refine TC.ret ?_
    exact Ret.i a [_] ⟨rfl, trivial⟩ rfl trivial (by repeat (first | exact ent_nil _ | refine ent_take 0 rfl ?_ | refine ent_take 1 rfl ?_ | refine ent_take 2 rfl ?_ | refine ent_take 3 rfl ?_ | refine ent_take 4 rfl ?_ | refine ent_take 5 rfl ?_ | refine ent_take 6 rfl ?_ | refine ent_take 7 rfl ?_ | refine ent_take 8 rfl ?_ | refine ent_take 9 rfl ?_ | refine ent_take 10 rfl ?_ | refine ent_take 11 rfl ?_ | refine ent_take 12 rfl ?_))

set_option maxRecDepth 4000 in
theorem ticks_ok (t : TAct) : FSpec Try.prog 61 [.agg (tactC t).toArray] noRd [] (fun _ : Unit => .int .i64 (tkN t)) (fun _ => True) (fun _ => []) := by
  refine FSpec.intro (rs := [.tmp 2]) (by kernel_rfl) Try.func61 rfl Try.ntmps61 (by rfl) rfl ?_
  intro F _
  change TC _ _ _ _ _ _ _ (sepL [_])
  refine TC.seq ?_
  refine TC.region ?_
  refine e rfl ?_
  refine bx (v := .agg #[_, _, _, _, _, _]) (l := [.int _ _, .int _ _, .int _ _, .int _ _, .int _ _, .bool _]) rfl rfl ?_
  intro b2
  refine q rfl rfl (asg (v := .int _ _) rfl) ?_
  refine TL.nil (nt ?_)
  refine TC.seq ?_
  refine TC.seq ?_
  refine TC.region ?_
  first | refine q rfl rfl (fa 4 rfl rfl) ?_ | refine q rfl rfl (faS 4 rfl rfl (by first | assumption | (simp [ints_length] <;> omega))) ?_
  first | refine q rfl rfl (ld rfl rfl rfl) ?_ | refine q rfl rfl (ldS rfl rfl rfl) ?_
  refine q rfl rfl (lss rfl rfl) ?_
  refine q rfl rfl (mv (v := .bool _) rfl) ?_
  refine TL.split 6 rfl (fun h0 => ?_) (fun h0 => ?_)
  · have h0 := of_decide_eq_true h0
    have hv : tkN t = 1 := if_pos (.inl h0)
    rw [hv]
    refine qs rfl rfl ?_
    refine qs rfl rfl ?_
    refine qs rfl rfl ?_
    first | refine q rfl rfl (pkT (v := .bool _) rfl rfl) ?_ | refine q rfl rfl (pkF (v := .bool _) rfl rfl) ?_
    refine TL.nil (nt ?_)
    refine TC.condT rfl ?_
    refine TC.seq ?_
    refine TC.region ?_
    refine q rfl rfl (asg (v := .int _ _) rfl) ?_
    refine TL.nil (nt ?_)
    refine TC.ret (rt ?_)
    exact Ret.i () [_] ⟨rfl, trivial⟩ rfl trivial (by repeat (first | exact ent_nil _ | refine ent_take 0 rfl ?_ | refine ent_take 1 rfl ?_ | refine ent_take 2 rfl ?_ | refine ent_take 3 rfl ?_ | refine ent_take 4 rfl ?_ | refine ent_take 5 rfl ?_ | refine ent_take 6 rfl ?_ | refine ent_take 7 rfl ?_ | refine ent_take 8 rfl ?_ | refine ent_take 9 rfl ?_ | refine ent_take 10 rfl ?_ | refine ent_take 11 rfl ?_ | refine ent_take 12 rfl ?_))
  · have h0 := of_decide_eq_false h0
    first | refine qg rfl rfl rfl (fa 4 rfl rfl) ?_ | refine qg rfl rfl rfl (faS 4 rfl rfl (by first | assumption | (simp [ints_length] <;> omega))) ?_
    first | refine qg rfl rfl rfl (ld rfl rfl rfl) ?_ | refine qg rfl rfl rfl (ldS rfl rfl rfl) ?_
    refine qg rfl rfl rfl (gtr rfl rfl) ?_
    first | refine q rfl rfl (pkT (v := .bool _) rfl rfl) ?_ | refine q rfl rfl (pkF (v := .bool _) rfl rfl) ?_
    refine TL.nil (nt ?_)
    first | refine TC.condD rfl (fun h1 => ?_) (fun h1 => ?_) | refine TC.cond rfl (fun h1 => ?_) (fun h1 => ?_)
    · have hv : tkN t = 1 := if_pos (.inr h1)
      rw [hv]
      refine TC.seq ?_
      refine TC.region ?_
      refine q rfl rfl (asg (v := .int _ _) rfl) ?_
      refine TL.nil (nt ?_)
      refine TC.ret (rt ?_)
      exact Ret.i () [_] ⟨rfl, trivial⟩ rfl trivial (by repeat (first | exact ent_nil _ | refine ent_take 0 rfl ?_ | refine ent_take 1 rfl ?_ | refine ent_take 2 rfl ?_ | refine ent_take 3 rfl ?_ | refine ent_take 4 rfl ?_ | refine ent_take 5 rfl ?_ | refine ent_take 6 rfl ?_ | refine ent_take 7 rfl ?_ | refine ent_take 8 rfl ?_ | refine ent_take 9 rfl ?_ | refine ent_take 10 rfl ?_ | refine ent_take 11 rfl ?_ | refine ent_take 12 rfl ?_))
    · have hv : tkN t = t.m := if_neg (fun h => h.elim h0 h1)
      rw [hv]
      refine TC.skip (nt ?_)
      refine TC.seq ?_
      refine TC.region ?_
      first | refine q rfl rfl (fa 4 rfl rfl) ?_ | refine q rfl rfl (faS 4 rfl rfl (by first | assumption | (simp [ints_length] <;> omega))) ?_
      first | refine q rfl rfl (ld rfl rfl rfl) ?_ | refine q rfl rfl (ldS rfl rfl rfl) ?_
      refine q rfl rfl (asg (v := .int _ _) rfl) ?_
      refine TL.nil (nt ?_)
      refine TC.ret ?_
      exact Ret.i () [_] ⟨rfl, trivial⟩ rfl trivial (by repeat (first | exact ent_nil _ | refine ent_take 0 rfl ?_ | refine ent_take 1 rfl ?_ | refine ent_take 2 rfl ?_ | refine ent_take 3 rfl ?_ | refine ent_take 4 rfl ?_ | refine ent_take 5 rfl ?_ | refine ent_take 6 rfl ?_ | refine ent_take 7 rfl ?_ | refine ent_take 8 rfl ?_ | refine ent_take 9 rfl ?_ | refine ent_take 10 rfl ?_ | refine ent_take 11 rfl ?_ | refine ent_take 12 rfl ?_))

set_option maxRecDepth 4000 in
set_option maxHeartbeats 4000000 in
theorem play_ok (a : Nat) (T : TS) (n : Nat) (h8 : R8 T n) (hn : n ≤ 300000) (t : TAct) : FSpec Try.prog 32 [.pointer (some ⟨a, 0, none⟩), .agg (tactC t).toArray] noRd [isT a T] (fun y : TS × Int × Int => .tuple #[.int .i64 y.2.1, .int .i64 y.2.2]) (fun y => PL T n y) (fun y => [isT a y.1]) := by
  refine FSpec.intro (rs := [.tmp 4, .tmp 5]) (by kernel_rfl) Try.func32 rfl Try.ntmps32 (by rfl) rfl ?_
  intro F _
  change TC _ _ _ _ _ _ _ (sepL [_, _])
  have hg := h8.g
  have hln := h8.len
  have hid : 0 ≤ t.id % 8 ∧ t.id % 8 ≤ 7 := by omega
  refine TC.seq ?_
  refine TC.region ?_
  refine e rfl ?_
  refine bx (v := .agg #[_, _, _, _, _, _]) (l := [.int _ _, .int _ _, .int _ _, .int _ _, .int _ _, .bool _]) rfl rfl ?_
  intro b3
  refine q rfl rfl (asg (v := .int _ _) rfl) ?_
  refine q rfl rfl (asg (v := .int _ _) rfl) ?_
  refine TL.nil (nt ?_)
  refine TC.seq ?_
  refine TC.region ?_
  first | refine q rfl rfl (fa 1 rfl rfl) ?_ | refine q rfl rfl (faS 1 rfl rfl (by first | assumption | (simp [ints_length] <;> omega))) ?_
  first | refine q rfl rfl (ld rfl rfl rfl) ?_ | refine q rfl rfl (ldS rfl rfl rfl) ?_
  first | refine q rfl rfl (andR rfl rfl and7) ?_ | refine q rfl rfl (andR rfl rfl and3) ?_
  refine q rfl rfl (asg (v := .int _ _) rfl) ?_
  refine TL.nil (nt ?_)
  refine TC.seq ?_
  refine TC.region ?_
  refine q rfl rfl (mv (v := .pointer _) rfl) ?_
  refine q rfl rfl (mv (v := .int _ _) rfl) ?_
  refine e rfl ?_
  refine cl (tstate_ok a T (t.id % 8)) rfl PkL.p trivial ?_
  intro _ _
  change TL _ _ _ _ _ _ _ _ (sepL [_, _, _])
  refine q rfl rfl (asg (v := .int _ _) rfl) ?_
  refine TL.nil (nt ?_)
  refine TC.seq ?_
  refine TC.region ?_
  refine q rfl rfl (mv (v := .int _ _) rfl) ?_
  refine q rfl rfl (geq rfl rfl) ?_
  refine q rfl rfl (mv (v := .bool _) rfl) ?_
  refine TL.split 18 rfl (fun w1 => ?_) (fun w1 => ?_)
  · have w1 := of_decide_eq_true w1
    refine qg rfl rfl rfl (mv (v := .int _ _) rfl) ?_
    refine qg rfl rfl rfl (leq rfl rfl) ?_
    first | refine q rfl rfl (pkT (v := .bool _) rfl rfl) ?_ | refine q rfl rfl (pkF (v := .bool _) rfl rfl) ?_
    refine q rfl rfl (asg (v := .bool _) rfl) ?_
    refine TL.nil (nt ?_)
    refine TC.seq ?_
    refine TC.seq ?_
    refine TC.region ?_
    first | refine q rfl rfl (fa 0 rfl rfl) ?_ | refine q rfl rfl (faS 0 rfl rfl (by first | assumption | (simp [ints_length] <;> omega))) ?_
    first | refine q rfl rfl (ld rfl rfl rfl) ?_ | refine q rfl rfl (ldS rfl rfl rfl) ?_
    refine TL.nil (nt ?_)
    refine TC.block ?_
    refine TC.seq ?_
    refine TC.region ?_
    refine q rfl rfl (eqI rfl rfl) ?_
    refine q rfl rfl (asg (v := .bool _) rfl) ?_
    refine TL.nil (nt ?_)
    first | refine TC.condD rfl (fun k0 => ?_) (fun k0 => ?_) | refine TC.cond rfl (fun k0 => ?_) (fun k0 => ?_)
    · refine TC.region ?_
      refine q rfl rfl (mv (v := .pointer _) rfl) ?_
      refine q rfl rfl (mv (v := .int _ _) rfl) ?_
      refine e rfl ?_
      refine bs (cs := [.int _ _]) rfl ?_
      intro b4
      refine e rfl ?_
      refine cl (tadd_ok a T (some ⟨b4, 0, none⟩) _ [t.id % 8] (by simp) (by omega)) rfl PkL.p ⟨_, RdSI.rd (ad := some ⟨b4, 0, none⟩)⟩ ?_
      intro _ _
      change TL _ _ _ _ _ _ _ _ (sepL [_, _, _, _])
      refine TL.nil (nb (nt ?_))
      refine TC.seq ?_
      refine TC.region ?_
      refine q rfl rfl (asg (v := .int _ _) rfl) ?_
      refine q rfl rfl (asg (v := .int _ _) rfl) ?_
      refine TL.nil (nt ?_)
      refine TC.ret ?_
      exact Ret.i ⟨addL T [t.id % 8], -1, -1⟩ [_, _] ⟨rfl, rfl, trivial⟩ rfl (PL.add h8 hid) (by repeat (first | exact ent_nil _ | refine ent_take 0 rfl ?_ | refine ent_take 1 rfl ?_ | refine ent_take 2 rfl ?_ | refine ent_take 3 rfl ?_ | refine ent_take 4 rfl ?_ | refine ent_take 5 rfl ?_ | refine ent_take 6 rfl ?_ | refine ent_take 7 rfl ?_ | refine ent_take 8 rfl ?_ | refine ent_take 9 rfl ?_ | refine ent_take 10 rfl ?_ | refine ent_take 11 rfl ?_ | refine ent_take 12 rfl ?_))
    · refine TC.seq ?_
      refine TC.region ?_
      refine q rfl rfl (eqI rfl rfl) ?_
      refine q rfl rfl (asg (v := .bool _) rfl) ?_
      refine TL.nil (nt ?_)
      first | refine TC.condD rfl (fun k1 => ?_) (fun k1 => ?_) | refine TC.cond rfl (fun k1 => ?_) (fun k1 => ?_)
      · refine TC.region ?_
        refine q rfl rfl (mv (v := .pointer _) rfl) ?_
        refine q rfl rfl (mv (v := .int _ _) rfl) ?_
        first | refine q rfl rfl (fa 3 rfl rfl) ?_ | refine q rfl rfl (faS 3 rfl rfl (by first | assumption | (simp [ints_length] <;> omega))) ?_
        first | refine q rfl rfl (ld rfl rfl rfl) ?_ | refine q rfl rfl (ldS rfl rfl rfl) ?_
        first | refine q rfl rfl (andR rfl rfl and7) ?_ | refine q rfl rfl (andR rfl rfl and3) ?_
        first | refine q rfl rfl (fa 4 rfl rfl) ?_ | refine q rfl rfl (faS 4 rfl rfl (by first | assumption | (simp [ints_length] <;> omega))) ?_
        first | refine q rfl rfl (ld rfl rfl rfl) ?_ | refine q rfl rfl (ldS rfl rfl rfl) ?_
        first | refine q rfl rfl (andR rfl rfl and7) ?_ | refine q rfl rfl (andR rfl rfl and3) ?_
        first | refine q rfl rfl (addI rfl rfl (by omega) (by omega)) ?_ | refine q rfl rfl (add rfl rfl rfl) ?_
        refine e rfl ?_
        refine cl (tstart_ok a T hg.p (hg.tb (by omega)) (t.id % 8) (t.n % 8) (1 + t.m % 8)) rfl PkL.p trivial ?_
        intro _ _
        change TL _ _ _ _ _ _ _ _ (sepL [_, _, _])
        refine TL.nil (nb (nt ?_))
        refine TC.seq ?_
        refine TC.region ?_
        refine q rfl rfl (asg (v := .int _ _) rfl) ?_
        refine q rfl rfl (asg (v := .int _ _) rfl) ?_
        refine TL.nil (nt ?_)
        refine TC.ret ?_
        exact Ret.i ⟨_, -1, -1⟩ [_, _] ⟨rfl, rfl, trivial⟩ rfl (PL.start h8 _ _ _) (by repeat (first | exact ent_nil _ | refine ent_take 0 rfl ?_ | refine ent_take 1 rfl ?_ | refine ent_take 2 rfl ?_ | refine ent_take 3 rfl ?_ | refine ent_take 4 rfl ?_ | refine ent_take 5 rfl ?_ | refine ent_take 6 rfl ?_ | refine ent_take 7 rfl ?_ | refine ent_take 8 rfl ?_ | refine ent_take 9 rfl ?_ | refine ent_take 10 rfl ?_ | refine ent_take 11 rfl ?_ | refine ent_take 12 rfl ?_))
      · refine TC.seq ?_
        refine TC.region ?_
        refine q rfl rfl (eqI rfl rfl) ?_
        refine q rfl rfl (asg (v := .bool _) rfl) ?_
        refine TL.nil (nt ?_)
        first | refine TC.condD rfl (fun k2 => ?_) (fun k2 => ?_) | refine TC.cond rfl (fun k2 => ?_) (fun k2 => ?_)
        · refine TC.seq ?_
          refine TC.region ?_
          refine q rfl rfl (mv (v := .pointer _) rfl) ?_
          refine q rfl rfl (mv (v := .int _ _) rfl) ?_
          refine e rfl ?_
          refine cl (tstop_ok a T hg.p (hg.tb (by omega)) (t.id % 8)) rfl PkL.p trivial ?_
          intro _ _
          change TL _ _ _ _ _ _ _ _ (sepL [_, _, _])
          obtain ⟨o1, o2⟩ := PL.stop h8 hid
          refine q rfl rfl (eqI rfl rfl) ?_
          refine q rfl rfl (mv (v := .bool _) rfl) ?_
          refine TL.split 48 rfl (fun hv => ?_) (fun hv => ?_)
          · have hv := of_decide_eq_true hv
            refine qg rfl rfl rfl (mv (v := .bool _) rfl) ?_
            first | refine q rfl rfl (pkT (v := .bool _) rfl rfl) ?_ | refine q rfl rfl (pkF (v := .bool _) rfl rfl) ?_
            refine TL.nil (nt ?_)
            first | refine TC.condD rfl (fun w2 => ?_) (fun w2 => ?_) | refine TC.cond rfl (fun w2 => ?_) (fun w2 => ?_)
            · refine TC.seq ?_
              refine TC.region ?_
              refine q rfl rfl (mv (v := .int _ _) rfl) ?_
              refine q rfl rfl (asg (v := .int _ _) rfl) ?_
              refine q rfl rfl (asg (v := .int _ _) rfl) ?_
              refine TL.nil (nt ?_)
              refine TC.ret (rb (rt ?_))
              exact Ret.i ⟨_, -1, t.id % 8⟩ [_, _] ⟨rfl, rfl, trivial⟩ rfl (o1 ⟨hv, w1, w2⟩) (by repeat (first | exact ent_nil _ | refine ent_take 0 rfl ?_ | refine ent_take 1 rfl ?_ | refine ent_take 2 rfl ?_ | refine ent_take 3 rfl ?_ | refine ent_take 4 rfl ?_ | refine ent_take 5 rfl ?_ | refine ent_take 6 rfl ?_ | refine ent_take 7 rfl ?_ | refine ent_take 8 rfl ?_ | refine ent_take 9 rfl ?_ | refine ent_take 10 rfl ?_ | refine ent_take 11 rfl ?_ | refine ent_take 12 rfl ?_))
            · refine TC.skip (nb (nt ?_))
              refine TC.seq ?_
              refine TC.region ?_
              refine q rfl rfl (asg (v := .int _ _) rfl) ?_
              refine q rfl rfl (asg (v := .int _ _) rfl) ?_
              refine TL.nil (nt ?_)
              refine TC.ret ?_
              exact Ret.i ⟨_, -1, -1⟩ [_, _] ⟨rfl, rfl, trivial⟩ rfl (o2 fun h => w2 h.2.2) (by repeat (first | exact ent_nil _ | refine ent_take 0 rfl ?_ | refine ent_take 1 rfl ?_ | refine ent_take 2 rfl ?_ | refine ent_take 3 rfl ?_ | refine ent_take 4 rfl ?_ | refine ent_take 5 rfl ?_ | refine ent_take 6 rfl ?_ | refine ent_take 7 rfl ?_ | refine ent_take 8 rfl ?_ | refine ent_take 9 rfl ?_ | refine ent_take 10 rfl ?_ | refine ent_take 11 rfl ?_ | refine ent_take 12 rfl ?_))
          · have hv := of_decide_eq_false hv
            refine qs rfl rfl ?_
            first | refine q rfl rfl (pkT (v := .bool _) rfl rfl) ?_ | refine q rfl rfl (pkF (v := .bool _) rfl rfl) ?_
            refine TL.nil (nt ?_)
            refine TC.condF rfl ?_
            refine TC.skip (nb (nt ?_))
            refine TC.seq ?_
            refine TC.region ?_
            refine q rfl rfl (asg (v := .int _ _) rfl) ?_
            refine q rfl rfl (asg (v := .int _ _) rfl) ?_
            refine TL.nil (nt ?_)
            refine TC.ret ?_
            exact Ret.i ⟨_, -1, -1⟩ [_, _] ⟨rfl, rfl, trivial⟩ rfl (o2 fun h => hv h.1) (by repeat (first | exact ent_nil _ | refine ent_take 0 rfl ?_ | refine ent_take 1 rfl ?_ | refine ent_take 2 rfl ?_ | refine ent_take 3 rfl ?_ | refine ent_take 4 rfl ?_ | refine ent_take 5 rfl ?_ | refine ent_take 6 rfl ?_ | refine ent_take 7 rfl ?_ | refine ent_take 8 rfl ?_ | refine ent_take 9 rfl ?_ | refine ent_take 10 rfl ?_ | refine ent_take 11 rfl ?_ | refine ent_take 12 rfl ?_))
        · refine TC.seq ?_
          refine TC.region ?_
          refine q rfl rfl (eqI rfl rfl) ?_
          refine q rfl rfl (asg (v := .bool _) rfl) ?_
          refine TL.nil (nt ?_)
          first | refine TC.condD rfl (fun k3 => ?_) (fun k3 => ?_) | refine TC.cond rfl (fun k3 => ?_) (fun k3 => ?_)
          · refine TC.seq ?_
            refine TC.region ?_
            refine q rfl rfl (mv (v := .pointer _) rfl) ?_
            refine q rfl rfl (mv (v := .int _ _) rfl) ?_
            refine e rfl ?_
            refine cl (tremove_ok a T hg.p (hg.tb (by omega)) (t.id % 8) (hg.tl (by omega))) rfl PkL.p trivial ?_
            intro _ _
            change TL _ _ _ _ _ _ _ _ (sepL [_, _, _])
            obtain ⟨o1, o2⟩ := PL.remove h8 hid
            refine q rfl rfl (eqI rfl rfl) ?_
            refine q rfl rfl (mv (v := .bool _) rfl) ?_
            refine TL.split 58 rfl (fun hv => ?_) (fun hv => ?_)
            · have hv := of_decide_eq_true hv
              refine qg rfl rfl rfl (mv (v := .bool _) rfl) ?_
              first | refine q rfl rfl (pkT (v := .bool _) rfl rfl) ?_ | refine q rfl rfl (pkF (v := .bool _) rfl rfl) ?_
              refine TL.nil (nt ?_)
              first | refine TC.condD rfl (fun w2 => ?_) (fun w2 => ?_) | refine TC.cond rfl (fun w2 => ?_) (fun w2 => ?_)
              · refine TC.seq ?_
                refine TC.region ?_
                refine q rfl rfl (mv (v := .int _ _) rfl) ?_
                refine q rfl rfl (asg (v := .int _ _) rfl) ?_
                refine q rfl rfl (asg (v := .int _ _) rfl) ?_
                refine TL.nil (nt ?_)
                refine TC.ret (rb (rt ?_))
                exact Ret.i ⟨_, -1, t.id % 8⟩ [_, _] ⟨rfl, rfl, trivial⟩ rfl (o1 ⟨hv, w1, w2⟩) (by repeat (first | exact ent_nil _ | refine ent_take 0 rfl ?_ | refine ent_take 1 rfl ?_ | refine ent_take 2 rfl ?_ | refine ent_take 3 rfl ?_ | refine ent_take 4 rfl ?_ | refine ent_take 5 rfl ?_ | refine ent_take 6 rfl ?_ | refine ent_take 7 rfl ?_ | refine ent_take 8 rfl ?_ | refine ent_take 9 rfl ?_ | refine ent_take 10 rfl ?_ | refine ent_take 11 rfl ?_ | refine ent_take 12 rfl ?_))
              · refine TC.skip (nb (nt ?_))
                refine TC.seq ?_
                refine TC.region ?_
                refine q rfl rfl (asg (v := .int _ _) rfl) ?_
                refine q rfl rfl (asg (v := .int _ _) rfl) ?_
                refine TL.nil (nt ?_)
                refine TC.ret ?_
                exact Ret.i ⟨_, -1, -1⟩ [_, _] ⟨rfl, rfl, trivial⟩ rfl (o2 fun h => w2 h.2.2) (by repeat (first | exact ent_nil _ | refine ent_take 0 rfl ?_ | refine ent_take 1 rfl ?_ | refine ent_take 2 rfl ?_ | refine ent_take 3 rfl ?_ | refine ent_take 4 rfl ?_ | refine ent_take 5 rfl ?_ | refine ent_take 6 rfl ?_ | refine ent_take 7 rfl ?_ | refine ent_take 8 rfl ?_ | refine ent_take 9 rfl ?_ | refine ent_take 10 rfl ?_ | refine ent_take 11 rfl ?_ | refine ent_take 12 rfl ?_))
            · have hv := of_decide_eq_false hv
              refine qs rfl rfl ?_
              first | refine q rfl rfl (pkT (v := .bool _) rfl rfl) ?_ | refine q rfl rfl (pkF (v := .bool _) rfl rfl) ?_
              refine TL.nil (nt ?_)
              refine TC.condF rfl ?_
              refine TC.skip (nb (nt ?_))
              refine TC.seq ?_
              refine TC.region ?_
              refine q rfl rfl (asg (v := .int _ _) rfl) ?_
              refine q rfl rfl (asg (v := .int _ _) rfl) ?_
              refine TL.nil (nt ?_)
              refine TC.ret ?_
              exact Ret.i ⟨_, -1, -1⟩ [_, _] ⟨rfl, rfl, trivial⟩ rfl (o2 fun h => hv h.1) (by repeat (first | exact ent_nil _ | refine ent_take 0 rfl ?_ | refine ent_take 1 rfl ?_ | refine ent_take 2 rfl ?_ | refine ent_take 3 rfl ?_ | refine ent_take 4 rfl ?_ | refine ent_take 5 rfl ?_ | refine ent_take 6 rfl ?_ | refine ent_take 7 rfl ?_ | refine ent_take 8 rfl ?_ | refine ent_take 9 rfl ?_ | refine ent_take 10 rfl ?_ | refine ent_take 11 rfl ?_ | refine ent_take 12 rfl ?_))
          · refine TC.seq ?_
            refine TC.region ?_
            refine q rfl rfl (eqI rfl rfl) ?_
            refine q rfl rfl (asg (v := .bool _) rfl) ?_
            refine TL.nil (nt ?_)
            first | refine TC.condD rfl (fun k4 => ?_) (fun k4 => ?_) | refine TC.cond rfl (fun k4 => ?_) (fun k4 => ?_)
            · refine TC.seq ?_
              refine TC.region ?_
              refine q rfl rfl (mv (v := .pointer _) rfl) ?_
              refine q rfl rfl (mv (v := .int _ _) rfl) ?_
              first | refine q rfl rfl (fa 2 rfl rfl) ?_ | refine q rfl rfl (faS 2 rfl rfl (by first | assumption | (simp [ints_length] <;> omega))) ?_
              first | refine q rfl rfl (ld rfl rfl rfl) ?_ | refine q rfl rfl (ldS rfl rfl rfl) ?_
              first | refine q rfl rfl (andR rfl rfl and7) ?_ | refine q rfl rfl (andR rfl rfl and3) ?_
              first | refine q rfl rfl (fa 3 rfl rfl) ?_ | refine q rfl rfl (faS 3 rfl rfl (by first | assumption | (simp [ints_length] <;> omega))) ?_
              first | refine q rfl rfl (ld rfl rfl rfl) ?_ | refine q rfl rfl (ldS rfl rfl rfl) ?_
              first | refine q rfl rfl (andR rfl rfl and7) ?_ | refine q rfl rfl (andR rfl rfl and3) ?_
              first | refine q rfl rfl (fa 5 rfl rfl) ?_ | refine q rfl rfl (faS 5 rfl rfl (by first | assumption | (simp [ints_length] <;> omega))) ?_
              first | refine q rfl rfl (ld rfl rfl rfl) ?_ | refine q rfl rfl (ldS rfl rfl rfl) ?_
              first | refine q rfl rfl (fa 4 rfl rfl) ?_ | refine q rfl rfl (faS 4 rfl rfl (by first | assumption | (simp [ints_length] <;> omega))) ?_
              first | refine q rfl rfl (ld rfl rfl rfl) ?_ | refine q rfl rfl (ldS rfl rfl rfl) ?_
              refine e rfl ?_
              refine cl (tsend_ok a T hg.p (hg.tb (by omega)) (t.id % 8) (t.to % 8) (t.n % 4) t.cl t.m) rfl PkL.p trivial ?_
              intro _ _
              change TL _ _ _ _ _ _ _ _ (sepL [_, _, _])
              obtain ⟨o1, o2⟩ := PL.send h8 hid (t.to % 8) (t.n % 4) t.cl t.m
              refine q rfl rfl (eqI rfl rfl) ?_
              refine TL.nil (nt ?_)
              first | refine TC.condD rfl (fun hv => ?_) (fun hv => ?_) | refine TC.cond rfl (fun hv => ?_) (fun hv => ?_)
              · refine TC.seq ?_
                refine TC.region ?_
                refine q rfl rfl (mv (v := .int _ _) rfl) ?_
                refine q rfl rfl (asg (v := .int _ _) rfl) ?_
                refine q rfl rfl (asg (v := .int _ _) rfl) ?_
                refine TL.nil (nt ?_)
                refine TC.ret (rb (rt ?_))
                exact Ret.i ⟨_, t.id % 8, -1⟩ [_, _] ⟨rfl, rfl, trivial⟩ rfl (o1 hv) (by repeat (first | exact ent_nil _ | refine ent_take 0 rfl ?_ | refine ent_take 1 rfl ?_ | refine ent_take 2 rfl ?_ | refine ent_take 3 rfl ?_ | refine ent_take 4 rfl ?_ | refine ent_take 5 rfl ?_ | refine ent_take 6 rfl ?_ | refine ent_take 7 rfl ?_ | refine ent_take 8 rfl ?_ | refine ent_take 9 rfl ?_ | refine ent_take 10 rfl ?_ | refine ent_take 11 rfl ?_ | refine ent_take 12 rfl ?_))
              · refine TC.skip (nb (nt ?_))
                refine TC.seq ?_
                refine TC.region ?_
                refine q rfl rfl (asg (v := .int _ _) rfl) ?_
                refine q rfl rfl (asg (v := .int _ _) rfl) ?_
                refine TL.nil (nt ?_)
                refine TC.ret ?_
                exact Ret.i ⟨_, -1, -1⟩ [_, _] ⟨rfl, rfl, trivial⟩ rfl (o2 hv) (by repeat (first | exact ent_nil _ | refine ent_take 0 rfl ?_ | refine ent_take 1 rfl ?_ | refine ent_take 2 rfl ?_ | refine ent_take 3 rfl ?_ | refine ent_take 4 rfl ?_ | refine ent_take 5 rfl ?_ | refine ent_take 6 rfl ?_ | refine ent_take 7 rfl ?_ | refine ent_take 8 rfl ?_ | refine ent_take 9 rfl ?_ | refine ent_take 10 rfl ?_ | refine ent_take 11 rfl ?_ | refine ent_take 12 rfl ?_))
            · refine TC.seq ?_
              refine TC.region ?_
              refine q rfl rfl (eqI rfl rfl) ?_
              refine q rfl rfl (asg (v := .bool _) rfl) ?_
              refine TL.nil (nt ?_)
              first | refine TC.condD rfl (fun k5 => ?_) (fun k5 => ?_) | refine TC.cond rfl (fun k5 => ?_) (fun k5 => ?_)
              · refine TC.seq ?_
                refine TC.region ?_
                refine q rfl rfl (mv (v := .pointer _) rfl) ?_
                refine q rfl rfl (mv (v := .int _ _) rfl) ?_
                first | refine q rfl rfl (fa 4 rfl rfl) ?_ | refine q rfl rfl (faS 4 rfl rfl (by first | assumption | (simp [ints_length] <;> omega))) ?_
                first | refine q rfl rfl (ld rfl rfl rfl) ?_ | refine q rfl rfl (ldS rfl rfl rfl) ?_
                refine e rfl ?_
                refine cl (twait_ok a T hg.p (hg.tb (by omega)) (t.id % 8) t.m) rfl PkL.p trivial ?_
                intro _ _
                change TL _ _ _ _ _ _ _ _ (sepL [_, _, _])
                obtain ⟨o1, o2⟩ := PL.wait h8 hid t.m
                refine q rfl rfl (eqI rfl rfl) ?_
                refine TL.nil (nt ?_)
                first | refine TC.condD rfl (fun hv => ?_) (fun hv => ?_) | refine TC.cond rfl (fun hv => ?_) (fun hv => ?_)
                · refine TC.seq ?_
                  refine TC.region ?_
                  refine q rfl rfl (mv (v := .int _ _) rfl) ?_
                  refine q rfl rfl (asg (v := .int _ _) rfl) ?_
                  refine q rfl rfl (asg (v := .int _ _) rfl) ?_
                  refine TL.nil (nt ?_)
                  refine TC.ret (rb (rt ?_))
                  exact Ret.i ⟨_, t.id % 8, -1⟩ [_, _] ⟨rfl, rfl, trivial⟩ rfl (o1 hv) (by repeat (first | exact ent_nil _ | refine ent_take 0 rfl ?_ | refine ent_take 1 rfl ?_ | refine ent_take 2 rfl ?_ | refine ent_take 3 rfl ?_ | refine ent_take 4 rfl ?_ | refine ent_take 5 rfl ?_ | refine ent_take 6 rfl ?_ | refine ent_take 7 rfl ?_ | refine ent_take 8 rfl ?_ | refine ent_take 9 rfl ?_ | refine ent_take 10 rfl ?_ | refine ent_take 11 rfl ?_ | refine ent_take 12 rfl ?_))
                · refine TC.skip (nb (nt ?_))
                  refine TC.seq ?_
                  refine TC.region ?_
                  refine q rfl rfl (asg (v := .int _ _) rfl) ?_
                  refine q rfl rfl (asg (v := .int _ _) rfl) ?_
                  refine TL.nil (nt ?_)
                  refine TC.ret ?_
                  exact Ret.i ⟨_, -1, -1⟩ [_, _] ⟨rfl, rfl, trivial⟩ rfl (o2 hv) (by repeat (first | exact ent_nil _ | refine ent_take 0 rfl ?_ | refine ent_take 1 rfl ?_ | refine ent_take 2 rfl ?_ | refine ent_take 3 rfl ?_ | refine ent_take 4 rfl ?_ | refine ent_take 5 rfl ?_ | refine ent_take 6 rfl ?_ | refine ent_take 7 rfl ?_ | refine ent_take 8 rfl ?_ | refine ent_take 9 rfl ?_ | refine ent_take 10 rfl ?_ | refine ent_take 11 rfl ?_ | refine ent_take 12 rfl ?_))
              · refine TC.seq ?_
                refine TC.region ?_
                refine q rfl rfl (eqI rfl rfl) ?_
                refine q rfl rfl (asg (v := .bool _) rfl) ?_
                refine TL.nil (nt ?_)
                first | refine TC.condD rfl (fun k6 => ?_) (fun k6 => ?_) | refine TC.cond rfl (fun k6 => ?_) (fun k6 => ?_)
                · refine TC.region ?_
                  refine q rfl rfl (mv (v := .pointer _) rfl) ?_
                  refine q rfl rfl (mv (v := .int _ _) rfl) ?_
                  refine e rfl ?_
                  refine cl (ttake_ok a T hg.p (hg.tb (by omega)) (t.id % 8) (hg.tl (by omega))) rfl PkL.p trivial ?_
                  intro _ _
                  change TL _ _ _ _ _ _ _ _ (sepL [_, _, _])
                  refine TL.nil (nb (nt ?_))
                  refine TC.seq ?_
                  refine TC.region ?_
                  refine q rfl rfl (asg (v := .int _ _) rfl) ?_
                  refine q rfl rfl (asg (v := .int _ _) rfl) ?_
                  refine TL.nil (nt ?_)
                  refine TC.ret ?_
                  exact Ret.i ⟨_, -1, -1⟩ [_, _] ⟨rfl, rfl, trivial⟩ rfl (PL.take h8 _) (by repeat (first | exact ent_nil _ | refine ent_take 0 rfl ?_ | refine ent_take 1 rfl ?_ | refine ent_take 2 rfl ?_ | refine ent_take 3 rfl ?_ | refine ent_take 4 rfl ?_ | refine ent_take 5 rfl ?_ | refine ent_take 6 rfl ?_ | refine ent_take 7 rfl ?_ | refine ent_take 8 rfl ?_ | refine ent_take 9 rfl ?_ | refine ent_take 10 rfl ?_ | refine ent_take 11 rfl ?_ | refine ent_take 12 rfl ?_))
                · refine TC.seq ?_
                  refine TC.region ?_
                  refine q rfl rfl (eqI rfl rfl) ?_
                  refine q rfl rfl (asg (v := .bool _) rfl) ?_
                  refine TL.nil (nt ?_)
                  first | refine TC.condD rfl (fun k7 => ?_) (fun k7 => ?_) | refine TC.cond rfl (fun k7 => ?_) (fun k7 => ?_)
                  · refine TC.region ?_
                    refine q rfl rfl (mv (v := .pointer _) rfl) ?_
                    refine q rfl rfl (mv (v := .int _ _) rfl) ?_
                    refine e rfl ?_
                    refine cl (trefuse_ok a T hg.p (hg.tb (by omega)) (t.id % 8) 9) rfl PkL.p trivial ?_
                    intro _ _
                    change TL _ _ _ _ _ _ _ _ (sepL [_, _, _])
                    refine TL.nil (nb (nt ?_))
                    refine TC.seq ?_
                    refine TC.region ?_
                    refine q rfl rfl (asg (v := .int _ _) rfl) ?_
                    refine q rfl rfl (asg (v := .int _ _) rfl) ?_
                    refine TL.nil (nt ?_)
                    refine TC.ret ?_
                    exact Ret.i ⟨_, -1, -1⟩ [_, _] ⟨rfl, rfl, trivial⟩ rfl (PL.refuse h8 _ _) (by repeat (first | exact ent_nil _ | refine ent_take 0 rfl ?_ | refine ent_take 1 rfl ?_ | refine ent_take 2 rfl ?_ | refine ent_take 3 rfl ?_ | refine ent_take 4 rfl ?_ | refine ent_take 5 rfl ?_ | refine ent_take 6 rfl ?_ | refine ent_take 7 rfl ?_ | refine ent_take 8 rfl ?_ | refine ent_take 9 rfl ?_ | refine ent_take 10 rfl ?_ | refine ent_take 11 rfl ?_ | refine ent_take 12 rfl ?_))
                  · refine TC.seq ?_
                    refine TC.region ?_
                    refine q rfl rfl (eqI rfl rfl) ?_
                    refine q rfl rfl (asg (v := .bool _) rfl) ?_
                    refine TL.nil (nt ?_)
                    first | refine TC.condD rfl (fun k8 => ?_) (fun k8 => ?_) | refine TC.cond rfl (fun k8 => ?_) (fun k8 => ?_)
                    · refine TC.region ?_
                      refine q rfl rfl (mv (v := .pointer _) rfl) ?_
                      refine q rfl rfl (mv (v := .int _ _) rfl) ?_
                      refine e rfl ?_
                      refine cl (tanswer_ok a T hg.p (hg.tb (by omega)) (t.id % 8)) rfl PkL.p trivial ?_
                      intro _ _
                      change TL _ _ _ _ _ _ _ _ (sepL [_, _, _])
                      refine TL.nil (nb (nt ?_))
                      refine TC.seq ?_
                      refine TC.region ?_
                      refine q rfl rfl (asg (v := .int _ _) rfl) ?_
                      refine q rfl rfl (asg (v := .int _ _) rfl) ?_
                      refine TL.nil (nt ?_)
                      refine TC.ret ?_
                      exact Ret.i ⟨_, -1, -1⟩ [_, _] ⟨rfl, rfl, trivial⟩ rfl (PL.answer h8 _) (by repeat (first | exact ent_nil _ | refine ent_take 0 rfl ?_ | refine ent_take 1 rfl ?_ | refine ent_take 2 rfl ?_ | refine ent_take 3 rfl ?_ | refine ent_take 4 rfl ?_ | refine ent_take 5 rfl ?_ | refine ent_take 6 rfl ?_ | refine ent_take 7 rfl ?_ | refine ent_take 8 rfl ?_ | refine ent_take 9 rfl ?_ | refine ent_take 10 rfl ?_ | refine ent_take 11 rfl ?_ | refine ent_take 12 rfl ?_))
                    · refine TC.seq ?_
                      refine TC.region ?_
                      refine q rfl rfl (eqI rfl rfl) ?_
                      refine q rfl rfl (asg (v := .bool _) rfl) ?_
                      refine TL.nil (nt ?_)
                      first | refine TC.condD rfl (fun k9 => ?_) (fun k9 => ?_) | refine TC.cond rfl (fun k9 => ?_) (fun k9 => ?_)
                      · refine TC.region ?_
                        refine q rfl rfl (mv (v := .pointer _) rfl) ?_
                        refine q rfl rfl (mv (v := .int _ _) rfl) ?_
                        refine e rfl ?_
                        refine cl (twake_ok a T hg.p (hg.tb (by omega)) (t.id % 8) 6) rfl PkL.p trivial ?_
                        intro _ _
                        change TL _ _ _ _ _ _ _ _ (sepL [_, _, _])
                        refine TL.nil (nb (nt ?_))
                        refine TC.seq ?_
                        refine TC.region ?_
                        refine q rfl rfl (asg (v := .int _ _) rfl) ?_
                        refine q rfl rfl (asg (v := .int _ _) rfl) ?_
                        refine TL.nil (nt ?_)
                        refine TC.ret ?_
                        exact Ret.i ⟨_, -1, -1⟩ [_, _] ⟨rfl, rfl, trivial⟩ rfl (PL.wake h8 _ _) (by repeat (first | exact ent_nil _ | refine ent_take 0 rfl ?_ | refine ent_take 1 rfl ?_ | refine ent_take 2 rfl ?_ | refine ent_take 3 rfl ?_ | refine ent_take 4 rfl ?_ | refine ent_take 5 rfl ?_ | refine ent_take 6 rfl ?_ | refine ent_take 7 rfl ?_ | refine ent_take 8 rfl ?_ | refine ent_take 9 rfl ?_ | refine ent_take 10 rfl ?_ | refine ent_take 11 rfl ?_ | refine ent_take 12 rfl ?_))
                      · refine TC.seq ?_
                        refine TC.region ?_
                        refine q rfl rfl (eqI rfl rfl) ?_
                        refine q rfl rfl (asg (v := .bool _) rfl) ?_
                        refine TL.nil (nt ?_)
                        first | refine TC.condD rfl (fun k10 => ?_) (fun k10 => ?_) | refine TC.cond rfl (fun k10 => ?_) (fun k10 => ?_)
                        · refine TC.region ?_
                          refine q rfl rfl (mv (v := .pointer _) rfl) ?_
                          first | refine q rfl rfl (fa 3 rfl rfl) ?_ | refine q rfl rfl (faS 3 rfl rfl (by first | assumption | (simp [ints_length] <;> omega))) ?_
                          first | refine q rfl rfl (ld rfl rfl rfl) ?_ | refine q rfl rfl (ldS rfl rfl rfl) ?_
                          first | refine q rfl rfl (andR rfl rfl and7) ?_ | refine q rfl rfl (andR rfl rfl and3) ?_
                          refine e rfl ?_
                          refine cl (tclose_ok a T hg.p (hg.tb (by omega)) (t.n % 4)) rfl PkL.p trivial ?_
                          intro _ _
                          change TL _ _ _ _ _ _ _ _ (sepL [_, _, _])
                          refine TL.nil (nb (nt ?_))
                          refine TC.seq ?_
                          refine TC.region ?_
                          refine q rfl rfl (asg (v := .int _ _) rfl) ?_
                          refine q rfl rfl (asg (v := .int _ _) rfl) ?_
                          refine TL.nil (nt ?_)
                          refine TC.ret ?_
                          exact Ret.i ⟨_, -1, -1⟩ [_, _] ⟨rfl, rfl, trivial⟩ rfl (PL.close h8 _) (by repeat (first | exact ent_nil _ | refine ent_take 0 rfl ?_ | refine ent_take 1 rfl ?_ | refine ent_take 2 rfl ?_ | refine ent_take 3 rfl ?_ | refine ent_take 4 rfl ?_ | refine ent_take 5 rfl ?_ | refine ent_take 6 rfl ?_ | refine ent_take 7 rfl ?_ | refine ent_take 8 rfl ?_ | refine ent_take 9 rfl ?_ | refine ent_take 10 rfl ?_ | refine ent_take 11 rfl ?_ | refine ent_take 12 rfl ?_))
                        · refine TC.seq ?_
                          refine TC.region ?_
                          refine q rfl rfl (eqI rfl rfl) ?_
                          refine q rfl rfl (asg (v := .bool _) rfl) ?_
                          refine TL.nil (nt ?_)
                          first | refine TC.condD rfl (fun k11 => ?_) (fun k11 => ?_) | refine TC.cond rfl (fun k11 => ?_) (fun k11 => ?_)
                          · refine TC.seq ?_
                            refine TC.region ?_
                            first | refine q rfl rfl (ldN (vs := [_, _, _, _, _, _]) 6 rfl rfl rfl rfl) ?_ | refine q rfl rfl (ldSN (vs := [_, _, _, _, _, _]) 6 rfl rfl rfl rfl (by decide)) ?_
                            refine e rfl ?_
                            refine cl (ticks_ok t) rfl (picked_nil _) trivial ?_
                            intro _ _
                            change TL _ _ _ _ _ _ _ _ (sepL [_, _, _])
                            have htk : 0 ≤ tkN t ∧ tkN t ≤ 40 := by rw [tkN]; split <;> omega
                            generalize tkN t = tk at htk ⊢
                            refine q rfl rfl (asg (v := .int _ _) rfl) ?_
                            refine TL.nil (nt ?_)
                            refine TC.block ?_
                            refine TC.loop (ι := Nat × TS) (fun u => (u.1 : Int) ≤ tk ∧ R8 u.2 (n + u.1) ∧ ∀ x, mW u.2 x = mW T x) (fun u => [(0, .pointer (some ⟨a, 0, none⟩)), (9, .int .i64 (tk - (u.1 : Nat) : Int))]) (fun u => sepL [isT a u.2, F]) (fun u => 50 - u.1) ⟨0, T⟩ ⟨by dsimp only; omega, h8, fun _ => rfl⟩ ⟨rfl, congrArg (Value.int .i64) (by dsimp only; omega), trivial⟩ (by repeat (first | exact ent_nil _ | refine ent_take 0 rfl ?_ | refine ent_take 1 rfl ?_ | refine ent_take 2 rfl ?_ | refine ent_take 3 rfl ?_ | refine ent_take 4 rfl ?_ | refine ent_take 5 rfl ?_ | refine ent_take 6 rfl ?_ | refine ent_take 7 rfl ?_ | refine ent_take 8 rfl ?_ | refine ent_take 9 rfl ?_ | refine ent_take 10 rfl ?_ | refine ent_take 11 rfl ?_ | refine ent_take 12 rfl ?_)) ?_
                            rintro ⟨i, V⟩ ⟨hi, hV, hm⟩ ρ0
                            dsimp only [updL] at hi hV hm ⊢
                            refine TC.seq ?_
                            refine TC.seq ?_
                            refine TC.region ?_
                            refine q rfl rfl (mv (v := .int _ _) rfl) ?_
                            refine q rfl rfl (gtr rfl rfl) ?_
                            refine TL.nil (nt ?_)
                            first | refine TC.condD rfl (fun hlt => ?_) (fun hlt => ?_) | refine TC.cond rfl (fun hlt => ?_) (fun hlt => ?_)
                            · have hgV := hV.g
                              refine TC.skip (nt ?_)
                              refine TC.seq ?_
                              refine TC.block ?_
                              refine TC.region ?_
                              refine q rfl rfl (mv (v := .pointer _) rfl) ?_
                              refine e rfl ?_
                              refine cl (ttick_ok a V hgV.p (hgV.tb (by omega)) (hgV.tl (by omega)) (hgV.nw (by omega))) rfl PkL.p trivial ?_
                              intro _ _
                              change TL _ _ _ _ _ _ _ _ (sepL [_, _])
                              refine TL.nil (nb (nt ?_))
                              refine TC.region ?_
                              refine q rfl rfl (mv (v := .int _ _) rfl) ?_
                              first | refine q rfl rfl (subI rfl rfl (by omega) (by omega)) ?_ | refine q rfl rfl (sub rfl rfl rfl) ?_
                              refine q rfl rfl (asg (v := .int _ _) rfl) ?_
                              refine TL.nil (nt ?_)
                              exact ⟨rfl, ⟨i + 1, tickT V⟩, ⟨by dsimp only; omega, hV.of hgV.tick (by rw [tick_ids]; exact fun _ h => h), fun x => (tick_mW hgV.p x).trans (hm x)⟩, (by dsimp only; omega), ⟨rfl, congrArg (Value.int .i64) (by dsimp only; omega), trivial⟩, (by repeat (first | exact ent_nil _ | refine ent_take 0 rfl ?_ | refine ent_take 1 rfl ?_ | refine ent_take 2 rfl ?_ | refine ent_take 3 rfl ?_ | refine ent_take 4 rfl ?_ | refine ent_take 5 rfl ?_ | refine ent_take 6 rfl ?_ | refine ent_take 7 rfl ?_ | refine ent_take 8 rfl ?_ | refine ent_take 9 rfl ?_ | refine ent_take 10 rfl ?_ | refine ent_take 11 rfl ?_ | refine ent_take 12 rfl ?_))⟩
                            · refine TC.exit (et (et (eb (nb (nt ?_)))))
                              refine TC.seq ?_
                              refine TC.region ?_
                              refine q rfl rfl (asg (v := .int _ _) rfl) ?_
                              refine q rfl rfl (asg (v := .int _ _) rfl) ?_
                              refine TL.nil (nt ?_)
                              refine TC.ret ?_
                              exact Ret.i ⟨V, -1, -1⟩ [_, _] ⟨rfl, rfl, trivial⟩ rfl (PL.same (hV.up (by omega)) hm) (by repeat (first | exact ent_nil _ | refine ent_take 0 rfl ?_ | refine ent_take 1 rfl ?_ | refine ent_take 2 rfl ?_ | refine ent_take 3 rfl ?_ | refine ent_take 4 rfl ?_ | refine ent_take 5 rfl ?_ | refine ent_take 6 rfl ?_ | refine ent_take 7 rfl ?_ | refine ent_take 8 rfl ?_ | refine ent_take 9 rfl ?_ | refine ent_take 10 rfl ?_ | refine ent_take 11 rfl ?_ | refine ent_take 12 rfl ?_))
                          · refine TC.seq ?_
                            refine TC.region ?_
                            refine q rfl rfl (eqI rfl rfl) ?_
                            refine q rfl rfl (asg (v := .bool _) rfl) ?_
                            refine TL.nil (nt ?_)
                            first | refine TC.condD rfl (fun k12 => ?_) (fun k12 => ?_) | refine TC.cond rfl (fun k12 => ?_) (fun k12 => ?_)
                            · refine TC.region ?_
                              refine q rfl rfl (mv (v := .pointer _) rfl) ?_
                              refine e rfl ?_
                              refine cl (tyield_ok a T hg.p (hg.tb (by omega))) rfl PkL.p trivial ?_
                              intro _ _
                              change TL _ _ _ _ _ _ _ _ (sepL [_, _, _])
                              refine TL.nil (nb (nt ?_))
                              refine TC.seq ?_
                              refine TC.region ?_
                              refine q rfl rfl (asg (v := .int _ _) rfl) ?_
                              refine q rfl rfl (asg (v := .int _ _) rfl) ?_
                              refine TL.nil (nt ?_)
                              refine TC.ret ?_
                              exact Ret.i ⟨_, -1, -1⟩ [_, _] ⟨rfl, rfl, trivial⟩ rfl (PL.yield h8) (by repeat (first | exact ent_nil _ | refine ent_take 0 rfl ?_ | refine ent_take 1 rfl ?_ | refine ent_take 2 rfl ?_ | refine ent_take 3 rfl ?_ | refine ent_take 4 rfl ?_ | refine ent_take 5 rfl ?_ | refine ent_take 6 rfl ?_ | refine ent_take 7 rfl ?_ | refine ent_take 8 rfl ?_ | refine ent_take 9 rfl ?_ | refine ent_take 10 rfl ?_ | refine ent_take 11 rfl ?_ | refine ent_take 12 rfl ?_))
                            · refine TC.skip (nb (nt ?_))
                              refine TC.seq ?_
                              refine TC.region ?_
                              refine q rfl rfl (asg (v := .int _ _) rfl) ?_
                              refine q rfl rfl (asg (v := .int _ _) rfl) ?_
                              refine TL.nil (nt ?_)
                              refine TC.ret ?_
                              exact Ret.i ⟨T, -1, -1⟩ [_, _] ⟨rfl, rfl, trivial⟩ rfl (PL.none h8) (by repeat (first | exact ent_nil _ | refine ent_take 0 rfl ?_ | refine ent_take 1 rfl ?_ | refine ent_take 2 rfl ?_ | refine ent_take 3 rfl ?_ | refine ent_take 4 rfl ?_ | refine ent_take 5 rfl ?_ | refine ent_take 6 rfl ?_ | refine ent_take 7 rfl ?_ | refine ent_take 8 rfl ?_ | refine ent_take 9 rfl ?_ | refine ent_take 10 rfl ?_ | refine ent_take 11 rfl ?_ | refine ent_take 12 rfl ?_))
  · have w1 := of_decide_eq_false w1
    refine qs rfl rfl ?_
    refine qs rfl rfl ?_
    first | refine q rfl rfl (pkT (v := .bool _) rfl rfl) ?_ | refine q rfl rfl (pkF (v := .bool _) rfl rfl) ?_
    refine q rfl rfl (asg (v := .bool _) rfl) ?_
    refine TL.nil (nt ?_)
    refine TC.seq ?_
    refine TC.seq ?_
    refine TC.region ?_
    first | refine q rfl rfl (fa 0 rfl rfl) ?_ | refine q rfl rfl (faS 0 rfl rfl (by first | assumption | (simp [ints_length] <;> omega))) ?_
    first | refine q rfl rfl (ld rfl rfl rfl) ?_ | refine q rfl rfl (ldS rfl rfl rfl) ?_
    refine TL.nil (nt ?_)
    refine TC.block ?_
    refine TC.seq ?_
    refine TC.region ?_
    refine q rfl rfl (eqI rfl rfl) ?_
    refine q rfl rfl (asg (v := .bool _) rfl) ?_
    refine TL.nil (nt ?_)
    first | refine TC.condD rfl (fun k0 => ?_) (fun k0 => ?_) | refine TC.cond rfl (fun k0 => ?_) (fun k0 => ?_)
    · refine TC.region ?_
      refine q rfl rfl (mv (v := .pointer _) rfl) ?_
      refine q rfl rfl (mv (v := .int _ _) rfl) ?_
      refine e rfl ?_
      refine bs (cs := [.int _ _]) rfl ?_
      intro b5
      refine e rfl ?_
      refine cl (tadd_ok a T (some ⟨b5, 0, none⟩) _ [t.id % 8] (by simp) (by omega)) rfl PkL.p ⟨_, RdSI.rd (ad := some ⟨b5, 0, none⟩)⟩ ?_
      intro _ _
      change TL _ _ _ _ _ _ _ _ (sepL [_, _, _, _])
      refine TL.nil (nb (nt ?_))
      refine TC.seq ?_
      refine TC.region ?_
      refine q rfl rfl (asg (v := .int _ _) rfl) ?_
      refine q rfl rfl (asg (v := .int _ _) rfl) ?_
      refine TL.nil (nt ?_)
      refine TC.ret ?_
      exact Ret.i ⟨addL T [t.id % 8], -1, -1⟩ [_, _] ⟨rfl, rfl, trivial⟩ rfl (PL.add h8 hid) (by repeat (first | exact ent_nil _ | refine ent_take 0 rfl ?_ | refine ent_take 1 rfl ?_ | refine ent_take 2 rfl ?_ | refine ent_take 3 rfl ?_ | refine ent_take 4 rfl ?_ | refine ent_take 5 rfl ?_ | refine ent_take 6 rfl ?_ | refine ent_take 7 rfl ?_ | refine ent_take 8 rfl ?_ | refine ent_take 9 rfl ?_ | refine ent_take 10 rfl ?_ | refine ent_take 11 rfl ?_ | refine ent_take 12 rfl ?_))
    · refine TC.seq ?_
      refine TC.region ?_
      refine q rfl rfl (eqI rfl rfl) ?_
      refine q rfl rfl (asg (v := .bool _) rfl) ?_
      refine TL.nil (nt ?_)
      first | refine TC.condD rfl (fun k1 => ?_) (fun k1 => ?_) | refine TC.cond rfl (fun k1 => ?_) (fun k1 => ?_)
      · refine TC.region ?_
        refine q rfl rfl (mv (v := .pointer _) rfl) ?_
        refine q rfl rfl (mv (v := .int _ _) rfl) ?_
        first | refine q rfl rfl (fa 3 rfl rfl) ?_ | refine q rfl rfl (faS 3 rfl rfl (by first | assumption | (simp [ints_length] <;> omega))) ?_
        first | refine q rfl rfl (ld rfl rfl rfl) ?_ | refine q rfl rfl (ldS rfl rfl rfl) ?_
        first | refine q rfl rfl (andR rfl rfl and7) ?_ | refine q rfl rfl (andR rfl rfl and3) ?_
        first | refine q rfl rfl (fa 4 rfl rfl) ?_ | refine q rfl rfl (faS 4 rfl rfl (by first | assumption | (simp [ints_length] <;> omega))) ?_
        first | refine q rfl rfl (ld rfl rfl rfl) ?_ | refine q rfl rfl (ldS rfl rfl rfl) ?_
        first | refine q rfl rfl (andR rfl rfl and7) ?_ | refine q rfl rfl (andR rfl rfl and3) ?_
        first | refine q rfl rfl (addI rfl rfl (by omega) (by omega)) ?_ | refine q rfl rfl (add rfl rfl rfl) ?_
        refine e rfl ?_
        refine cl (tstart_ok a T hg.p (hg.tb (by omega)) (t.id % 8) (t.n % 8) (1 + t.m % 8)) rfl PkL.p trivial ?_
        intro _ _
        change TL _ _ _ _ _ _ _ _ (sepL [_, _, _])
        refine TL.nil (nb (nt ?_))
        refine TC.seq ?_
        refine TC.region ?_
        refine q rfl rfl (asg (v := .int _ _) rfl) ?_
        refine q rfl rfl (asg (v := .int _ _) rfl) ?_
        refine TL.nil (nt ?_)
        refine TC.ret ?_
        exact Ret.i ⟨_, -1, -1⟩ [_, _] ⟨rfl, rfl, trivial⟩ rfl (PL.start h8 _ _ _) (by repeat (first | exact ent_nil _ | refine ent_take 0 rfl ?_ | refine ent_take 1 rfl ?_ | refine ent_take 2 rfl ?_ | refine ent_take 3 rfl ?_ | refine ent_take 4 rfl ?_ | refine ent_take 5 rfl ?_ | refine ent_take 6 rfl ?_ | refine ent_take 7 rfl ?_ | refine ent_take 8 rfl ?_ | refine ent_take 9 rfl ?_ | refine ent_take 10 rfl ?_ | refine ent_take 11 rfl ?_ | refine ent_take 12 rfl ?_))
      · refine TC.seq ?_
        refine TC.region ?_
        refine q rfl rfl (eqI rfl rfl) ?_
        refine q rfl rfl (asg (v := .bool _) rfl) ?_
        refine TL.nil (nt ?_)
        first | refine TC.condD rfl (fun k2 => ?_) (fun k2 => ?_) | refine TC.cond rfl (fun k2 => ?_) (fun k2 => ?_)
        · refine TC.seq ?_
          refine TC.region ?_
          refine q rfl rfl (mv (v := .pointer _) rfl) ?_
          refine q rfl rfl (mv (v := .int _ _) rfl) ?_
          refine e rfl ?_
          refine cl (tstop_ok a T hg.p (hg.tb (by omega)) (t.id % 8)) rfl PkL.p trivial ?_
          intro _ _
          change TL _ _ _ _ _ _ _ _ (sepL [_, _, _])
          obtain ⟨o1, o2⟩ := PL.stop h8 hid
          refine q rfl rfl (eqI rfl rfl) ?_
          refine q rfl rfl (mv (v := .bool _) rfl) ?_
          refine TL.split 48 rfl (fun hv => ?_) (fun hv => ?_)
          · have hv := of_decide_eq_true hv
            refine qg rfl rfl rfl (mv (v := .bool _) rfl) ?_
            first | refine q rfl rfl (pkT (v := .bool _) rfl rfl) ?_ | refine q rfl rfl (pkF (v := .bool _) rfl rfl) ?_
            refine TL.nil (nt ?_)
            refine TC.condF rfl ?_
            refine TC.skip (nb (nt ?_))
            refine TC.seq ?_
            refine TC.region ?_
            refine q rfl rfl (asg (v := .int _ _) rfl) ?_
            refine q rfl rfl (asg (v := .int _ _) rfl) ?_
            refine TL.nil (nt ?_)
            refine TC.ret ?_
            exact Ret.i ⟨_, -1, -1⟩ [_, _] ⟨rfl, rfl, trivial⟩ rfl (o2 fun h => w1 h.2.1) (by repeat (first | exact ent_nil _ | refine ent_take 0 rfl ?_ | refine ent_take 1 rfl ?_ | refine ent_take 2 rfl ?_ | refine ent_take 3 rfl ?_ | refine ent_take 4 rfl ?_ | refine ent_take 5 rfl ?_ | refine ent_take 6 rfl ?_ | refine ent_take 7 rfl ?_ | refine ent_take 8 rfl ?_ | refine ent_take 9 rfl ?_ | refine ent_take 10 rfl ?_ | refine ent_take 11 rfl ?_ | refine ent_take 12 rfl ?_))
          · have hv := of_decide_eq_false hv
            refine qs rfl rfl ?_
            first | refine q rfl rfl (pkT (v := .bool _) rfl rfl) ?_ | refine q rfl rfl (pkF (v := .bool _) rfl rfl) ?_
            refine TL.nil (nt ?_)
            refine TC.condF rfl ?_
            refine TC.skip (nb (nt ?_))
            refine TC.seq ?_
            refine TC.region ?_
            refine q rfl rfl (asg (v := .int _ _) rfl) ?_
            refine q rfl rfl (asg (v := .int _ _) rfl) ?_
            refine TL.nil (nt ?_)
            refine TC.ret ?_
            exact Ret.i ⟨_, -1, -1⟩ [_, _] ⟨rfl, rfl, trivial⟩ rfl (o2 fun h => hv h.1) (by repeat (first | exact ent_nil _ | refine ent_take 0 rfl ?_ | refine ent_take 1 rfl ?_ | refine ent_take 2 rfl ?_ | refine ent_take 3 rfl ?_ | refine ent_take 4 rfl ?_ | refine ent_take 5 rfl ?_ | refine ent_take 6 rfl ?_ | refine ent_take 7 rfl ?_ | refine ent_take 8 rfl ?_ | refine ent_take 9 rfl ?_ | refine ent_take 10 rfl ?_ | refine ent_take 11 rfl ?_ | refine ent_take 12 rfl ?_))
        · refine TC.seq ?_
          refine TC.region ?_
          refine q rfl rfl (eqI rfl rfl) ?_
          refine q rfl rfl (asg (v := .bool _) rfl) ?_
          refine TL.nil (nt ?_)
          first | refine TC.condD rfl (fun k3 => ?_) (fun k3 => ?_) | refine TC.cond rfl (fun k3 => ?_) (fun k3 => ?_)
          · refine TC.seq ?_
            refine TC.region ?_
            refine q rfl rfl (mv (v := .pointer _) rfl) ?_
            refine q rfl rfl (mv (v := .int _ _) rfl) ?_
            refine e rfl ?_
            refine cl (tremove_ok a T hg.p (hg.tb (by omega)) (t.id % 8) (hg.tl (by omega))) rfl PkL.p trivial ?_
            intro _ _
            change TL _ _ _ _ _ _ _ _ (sepL [_, _, _])
            obtain ⟨o1, o2⟩ := PL.remove h8 hid
            refine q rfl rfl (eqI rfl rfl) ?_
            refine q rfl rfl (mv (v := .bool _) rfl) ?_
            refine TL.split 58 rfl (fun hv => ?_) (fun hv => ?_)
            · have hv := of_decide_eq_true hv
              refine qg rfl rfl rfl (mv (v := .bool _) rfl) ?_
              first | refine q rfl rfl (pkT (v := .bool _) rfl rfl) ?_ | refine q rfl rfl (pkF (v := .bool _) rfl rfl) ?_
              refine TL.nil (nt ?_)
              refine TC.condF rfl ?_
              refine TC.skip (nb (nt ?_))
              refine TC.seq ?_
              refine TC.region ?_
              refine q rfl rfl (asg (v := .int _ _) rfl) ?_
              refine q rfl rfl (asg (v := .int _ _) rfl) ?_
              refine TL.nil (nt ?_)
              refine TC.ret ?_
              exact Ret.i ⟨_, -1, -1⟩ [_, _] ⟨rfl, rfl, trivial⟩ rfl (o2 fun h => w1 h.2.1) (by repeat (first | exact ent_nil _ | refine ent_take 0 rfl ?_ | refine ent_take 1 rfl ?_ | refine ent_take 2 rfl ?_ | refine ent_take 3 rfl ?_ | refine ent_take 4 rfl ?_ | refine ent_take 5 rfl ?_ | refine ent_take 6 rfl ?_ | refine ent_take 7 rfl ?_ | refine ent_take 8 rfl ?_ | refine ent_take 9 rfl ?_ | refine ent_take 10 rfl ?_ | refine ent_take 11 rfl ?_ | refine ent_take 12 rfl ?_))
            · have hv := of_decide_eq_false hv
              refine qs rfl rfl ?_
              first | refine q rfl rfl (pkT (v := .bool _) rfl rfl) ?_ | refine q rfl rfl (pkF (v := .bool _) rfl rfl) ?_
              refine TL.nil (nt ?_)
              refine TC.condF rfl ?_
              refine TC.skip (nb (nt ?_))
              refine TC.seq ?_
              refine TC.region ?_
              refine q rfl rfl (asg (v := .int _ _) rfl) ?_
              refine q rfl rfl (asg (v := .int _ _) rfl) ?_
              refine TL.nil (nt ?_)
              refine TC.ret ?_
              exact Ret.i ⟨_, -1, -1⟩ [_, _] ⟨rfl, rfl, trivial⟩ rfl (o2 fun h => hv h.1) (by repeat (first | exact ent_nil _ | refine ent_take 0 rfl ?_ | refine ent_take 1 rfl ?_ | refine ent_take 2 rfl ?_ | refine ent_take 3 rfl ?_ | refine ent_take 4 rfl ?_ | refine ent_take 5 rfl ?_ | refine ent_take 6 rfl ?_ | refine ent_take 7 rfl ?_ | refine ent_take 8 rfl ?_ | refine ent_take 9 rfl ?_ | refine ent_take 10 rfl ?_ | refine ent_take 11 rfl ?_ | refine ent_take 12 rfl ?_))
          · refine TC.seq ?_
            refine TC.region ?_
            refine q rfl rfl (eqI rfl rfl) ?_
            refine q rfl rfl (asg (v := .bool _) rfl) ?_
            refine TL.nil (nt ?_)
            first | refine TC.condD rfl (fun k4 => ?_) (fun k4 => ?_) | refine TC.cond rfl (fun k4 => ?_) (fun k4 => ?_)
            · refine TC.seq ?_
              refine TC.region ?_
              refine q rfl rfl (mv (v := .pointer _) rfl) ?_
              refine q rfl rfl (mv (v := .int _ _) rfl) ?_
              first | refine q rfl rfl (fa 2 rfl rfl) ?_ | refine q rfl rfl (faS 2 rfl rfl (by first | assumption | (simp [ints_length] <;> omega))) ?_
              first | refine q rfl rfl (ld rfl rfl rfl) ?_ | refine q rfl rfl (ldS rfl rfl rfl) ?_
              first | refine q rfl rfl (andR rfl rfl and7) ?_ | refine q rfl rfl (andR rfl rfl and3) ?_
              first | refine q rfl rfl (fa 3 rfl rfl) ?_ | refine q rfl rfl (faS 3 rfl rfl (by first | assumption | (simp [ints_length] <;> omega))) ?_
              first | refine q rfl rfl (ld rfl rfl rfl) ?_ | refine q rfl rfl (ldS rfl rfl rfl) ?_
              first | refine q rfl rfl (andR rfl rfl and7) ?_ | refine q rfl rfl (andR rfl rfl and3) ?_
              first | refine q rfl rfl (fa 5 rfl rfl) ?_ | refine q rfl rfl (faS 5 rfl rfl (by first | assumption | (simp [ints_length] <;> omega))) ?_
              first | refine q rfl rfl (ld rfl rfl rfl) ?_ | refine q rfl rfl (ldS rfl rfl rfl) ?_
              first | refine q rfl rfl (fa 4 rfl rfl) ?_ | refine q rfl rfl (faS 4 rfl rfl (by first | assumption | (simp [ints_length] <;> omega))) ?_
              first | refine q rfl rfl (ld rfl rfl rfl) ?_ | refine q rfl rfl (ldS rfl rfl rfl) ?_
              refine e rfl ?_
              refine cl (tsend_ok a T hg.p (hg.tb (by omega)) (t.id % 8) (t.to % 8) (t.n % 4) t.cl t.m) rfl PkL.p trivial ?_
              intro _ _
              change TL _ _ _ _ _ _ _ _ (sepL [_, _, _])
              obtain ⟨o1, o2⟩ := PL.send h8 hid (t.to % 8) (t.n % 4) t.cl t.m
              refine q rfl rfl (eqI rfl rfl) ?_
              refine TL.nil (nt ?_)
              first | refine TC.condD rfl (fun hv => ?_) (fun hv => ?_) | refine TC.cond rfl (fun hv => ?_) (fun hv => ?_)
              · refine TC.seq ?_
                refine TC.region ?_
                refine q rfl rfl (mv (v := .int _ _) rfl) ?_
                refine q rfl rfl (asg (v := .int _ _) rfl) ?_
                refine q rfl rfl (asg (v := .int _ _) rfl) ?_
                refine TL.nil (nt ?_)
                refine TC.ret (rb (rt ?_))
                exact Ret.i ⟨_, t.id % 8, -1⟩ [_, _] ⟨rfl, rfl, trivial⟩ rfl (o1 hv) (by repeat (first | exact ent_nil _ | refine ent_take 0 rfl ?_ | refine ent_take 1 rfl ?_ | refine ent_take 2 rfl ?_ | refine ent_take 3 rfl ?_ | refine ent_take 4 rfl ?_ | refine ent_take 5 rfl ?_ | refine ent_take 6 rfl ?_ | refine ent_take 7 rfl ?_ | refine ent_take 8 rfl ?_ | refine ent_take 9 rfl ?_ | refine ent_take 10 rfl ?_ | refine ent_take 11 rfl ?_ | refine ent_take 12 rfl ?_))
              · refine TC.skip (nb (nt ?_))
                refine TC.seq ?_
                refine TC.region ?_
                refine q rfl rfl (asg (v := .int _ _) rfl) ?_
                refine q rfl rfl (asg (v := .int _ _) rfl) ?_
                refine TL.nil (nt ?_)
                refine TC.ret ?_
                exact Ret.i ⟨_, -1, -1⟩ [_, _] ⟨rfl, rfl, trivial⟩ rfl (o2 hv) (by repeat (first | exact ent_nil _ | refine ent_take 0 rfl ?_ | refine ent_take 1 rfl ?_ | refine ent_take 2 rfl ?_ | refine ent_take 3 rfl ?_ | refine ent_take 4 rfl ?_ | refine ent_take 5 rfl ?_ | refine ent_take 6 rfl ?_ | refine ent_take 7 rfl ?_ | refine ent_take 8 rfl ?_ | refine ent_take 9 rfl ?_ | refine ent_take 10 rfl ?_ | refine ent_take 11 rfl ?_ | refine ent_take 12 rfl ?_))
            · refine TC.seq ?_
              refine TC.region ?_
              refine q rfl rfl (eqI rfl rfl) ?_
              refine q rfl rfl (asg (v := .bool _) rfl) ?_
              refine TL.nil (nt ?_)
              first | refine TC.condD rfl (fun k5 => ?_) (fun k5 => ?_) | refine TC.cond rfl (fun k5 => ?_) (fun k5 => ?_)
              · refine TC.seq ?_
                refine TC.region ?_
                refine q rfl rfl (mv (v := .pointer _) rfl) ?_
                refine q rfl rfl (mv (v := .int _ _) rfl) ?_
                first | refine q rfl rfl (fa 4 rfl rfl) ?_ | refine q rfl rfl (faS 4 rfl rfl (by first | assumption | (simp [ints_length] <;> omega))) ?_
                first | refine q rfl rfl (ld rfl rfl rfl) ?_ | refine q rfl rfl (ldS rfl rfl rfl) ?_
                refine e rfl ?_
                refine cl (twait_ok a T hg.p (hg.tb (by omega)) (t.id % 8) t.m) rfl PkL.p trivial ?_
                intro _ _
                change TL _ _ _ _ _ _ _ _ (sepL [_, _, _])
                obtain ⟨o1, o2⟩ := PL.wait h8 hid t.m
                refine q rfl rfl (eqI rfl rfl) ?_
                refine TL.nil (nt ?_)
                first | refine TC.condD rfl (fun hv => ?_) (fun hv => ?_) | refine TC.cond rfl (fun hv => ?_) (fun hv => ?_)
                · refine TC.seq ?_
                  refine TC.region ?_
                  refine q rfl rfl (mv (v := .int _ _) rfl) ?_
                  refine q rfl rfl (asg (v := .int _ _) rfl) ?_
                  refine q rfl rfl (asg (v := .int _ _) rfl) ?_
                  refine TL.nil (nt ?_)
                  refine TC.ret (rb (rt ?_))
                  exact Ret.i ⟨_, t.id % 8, -1⟩ [_, _] ⟨rfl, rfl, trivial⟩ rfl (o1 hv) (by repeat (first | exact ent_nil _ | refine ent_take 0 rfl ?_ | refine ent_take 1 rfl ?_ | refine ent_take 2 rfl ?_ | refine ent_take 3 rfl ?_ | refine ent_take 4 rfl ?_ | refine ent_take 5 rfl ?_ | refine ent_take 6 rfl ?_ | refine ent_take 7 rfl ?_ | refine ent_take 8 rfl ?_ | refine ent_take 9 rfl ?_ | refine ent_take 10 rfl ?_ | refine ent_take 11 rfl ?_ | refine ent_take 12 rfl ?_))
                · refine TC.skip (nb (nt ?_))
                  refine TC.seq ?_
                  refine TC.region ?_
                  refine q rfl rfl (asg (v := .int _ _) rfl) ?_
                  refine q rfl rfl (asg (v := .int _ _) rfl) ?_
                  refine TL.nil (nt ?_)
                  refine TC.ret ?_
                  exact Ret.i ⟨_, -1, -1⟩ [_, _] ⟨rfl, rfl, trivial⟩ rfl (o2 hv) (by repeat (first | exact ent_nil _ | refine ent_take 0 rfl ?_ | refine ent_take 1 rfl ?_ | refine ent_take 2 rfl ?_ | refine ent_take 3 rfl ?_ | refine ent_take 4 rfl ?_ | refine ent_take 5 rfl ?_ | refine ent_take 6 rfl ?_ | refine ent_take 7 rfl ?_ | refine ent_take 8 rfl ?_ | refine ent_take 9 rfl ?_ | refine ent_take 10 rfl ?_ | refine ent_take 11 rfl ?_ | refine ent_take 12 rfl ?_))
              · refine TC.seq ?_
                refine TC.region ?_
                refine q rfl rfl (eqI rfl rfl) ?_
                refine q rfl rfl (asg (v := .bool _) rfl) ?_
                refine TL.nil (nt ?_)
                first | refine TC.condD rfl (fun k6 => ?_) (fun k6 => ?_) | refine TC.cond rfl (fun k6 => ?_) (fun k6 => ?_)
                · refine TC.region ?_
                  refine q rfl rfl (mv (v := .pointer _) rfl) ?_
                  refine q rfl rfl (mv (v := .int _ _) rfl) ?_
                  refine e rfl ?_
                  refine cl (ttake_ok a T hg.p (hg.tb (by omega)) (t.id % 8) (hg.tl (by omega))) rfl PkL.p trivial ?_
                  intro _ _
                  change TL _ _ _ _ _ _ _ _ (sepL [_, _, _])
                  refine TL.nil (nb (nt ?_))
                  refine TC.seq ?_
                  refine TC.region ?_
                  refine q rfl rfl (asg (v := .int _ _) rfl) ?_
                  refine q rfl rfl (asg (v := .int _ _) rfl) ?_
                  refine TL.nil (nt ?_)
                  refine TC.ret ?_
                  exact Ret.i ⟨_, -1, -1⟩ [_, _] ⟨rfl, rfl, trivial⟩ rfl (PL.take h8 _) (by repeat (first | exact ent_nil _ | refine ent_take 0 rfl ?_ | refine ent_take 1 rfl ?_ | refine ent_take 2 rfl ?_ | refine ent_take 3 rfl ?_ | refine ent_take 4 rfl ?_ | refine ent_take 5 rfl ?_ | refine ent_take 6 rfl ?_ | refine ent_take 7 rfl ?_ | refine ent_take 8 rfl ?_ | refine ent_take 9 rfl ?_ | refine ent_take 10 rfl ?_ | refine ent_take 11 rfl ?_ | refine ent_take 12 rfl ?_))
                · refine TC.seq ?_
                  refine TC.region ?_
                  refine q rfl rfl (eqI rfl rfl) ?_
                  refine q rfl rfl (asg (v := .bool _) rfl) ?_
                  refine TL.nil (nt ?_)
                  first | refine TC.condD rfl (fun k7 => ?_) (fun k7 => ?_) | refine TC.cond rfl (fun k7 => ?_) (fun k7 => ?_)
                  · refine TC.region ?_
                    refine q rfl rfl (mv (v := .pointer _) rfl) ?_
                    refine q rfl rfl (mv (v := .int _ _) rfl) ?_
                    refine e rfl ?_
                    refine cl (trefuse_ok a T hg.p (hg.tb (by omega)) (t.id % 8) 9) rfl PkL.p trivial ?_
                    intro _ _
                    change TL _ _ _ _ _ _ _ _ (sepL [_, _, _])
                    refine TL.nil (nb (nt ?_))
                    refine TC.seq ?_
                    refine TC.region ?_
                    refine q rfl rfl (asg (v := .int _ _) rfl) ?_
                    refine q rfl rfl (asg (v := .int _ _) rfl) ?_
                    refine TL.nil (nt ?_)
                    refine TC.ret ?_
                    exact Ret.i ⟨_, -1, -1⟩ [_, _] ⟨rfl, rfl, trivial⟩ rfl (PL.refuse h8 _ _) (by repeat (first | exact ent_nil _ | refine ent_take 0 rfl ?_ | refine ent_take 1 rfl ?_ | refine ent_take 2 rfl ?_ | refine ent_take 3 rfl ?_ | refine ent_take 4 rfl ?_ | refine ent_take 5 rfl ?_ | refine ent_take 6 rfl ?_ | refine ent_take 7 rfl ?_ | refine ent_take 8 rfl ?_ | refine ent_take 9 rfl ?_ | refine ent_take 10 rfl ?_ | refine ent_take 11 rfl ?_ | refine ent_take 12 rfl ?_))
                  · refine TC.seq ?_
                    refine TC.region ?_
                    refine q rfl rfl (eqI rfl rfl) ?_
                    refine q rfl rfl (asg (v := .bool _) rfl) ?_
                    refine TL.nil (nt ?_)
                    first | refine TC.condD rfl (fun k8 => ?_) (fun k8 => ?_) | refine TC.cond rfl (fun k8 => ?_) (fun k8 => ?_)
                    · refine TC.region ?_
                      refine q rfl rfl (mv (v := .pointer _) rfl) ?_
                      refine q rfl rfl (mv (v := .int _ _) rfl) ?_
                      refine e rfl ?_
                      refine cl (tanswer_ok a T hg.p (hg.tb (by omega)) (t.id % 8)) rfl PkL.p trivial ?_
                      intro _ _
                      change TL _ _ _ _ _ _ _ _ (sepL [_, _, _])
                      refine TL.nil (nb (nt ?_))
                      refine TC.seq ?_
                      refine TC.region ?_
                      refine q rfl rfl (asg (v := .int _ _) rfl) ?_
                      refine q rfl rfl (asg (v := .int _ _) rfl) ?_
                      refine TL.nil (nt ?_)
                      refine TC.ret ?_
                      exact Ret.i ⟨_, -1, -1⟩ [_, _] ⟨rfl, rfl, trivial⟩ rfl (PL.answer h8 _) (by repeat (first | exact ent_nil _ | refine ent_take 0 rfl ?_ | refine ent_take 1 rfl ?_ | refine ent_take 2 rfl ?_ | refine ent_take 3 rfl ?_ | refine ent_take 4 rfl ?_ | refine ent_take 5 rfl ?_ | refine ent_take 6 rfl ?_ | refine ent_take 7 rfl ?_ | refine ent_take 8 rfl ?_ | refine ent_take 9 rfl ?_ | refine ent_take 10 rfl ?_ | refine ent_take 11 rfl ?_ | refine ent_take 12 rfl ?_))
                    · refine TC.seq ?_
                      refine TC.region ?_
                      refine q rfl rfl (eqI rfl rfl) ?_
                      refine q rfl rfl (asg (v := .bool _) rfl) ?_
                      refine TL.nil (nt ?_)
                      first | refine TC.condD rfl (fun k9 => ?_) (fun k9 => ?_) | refine TC.cond rfl (fun k9 => ?_) (fun k9 => ?_)
                      · refine TC.region ?_
                        refine q rfl rfl (mv (v := .pointer _) rfl) ?_
                        refine q rfl rfl (mv (v := .int _ _) rfl) ?_
                        refine e rfl ?_
                        refine cl (twake_ok a T hg.p (hg.tb (by omega)) (t.id % 8) 6) rfl PkL.p trivial ?_
                        intro _ _
                        change TL _ _ _ _ _ _ _ _ (sepL [_, _, _])
                        refine TL.nil (nb (nt ?_))
                        refine TC.seq ?_
                        refine TC.region ?_
                        refine q rfl rfl (asg (v := .int _ _) rfl) ?_
                        refine q rfl rfl (asg (v := .int _ _) rfl) ?_
                        refine TL.nil (nt ?_)
                        refine TC.ret ?_
                        exact Ret.i ⟨_, -1, -1⟩ [_, _] ⟨rfl, rfl, trivial⟩ rfl (PL.wake h8 _ _) (by repeat (first | exact ent_nil _ | refine ent_take 0 rfl ?_ | refine ent_take 1 rfl ?_ | refine ent_take 2 rfl ?_ | refine ent_take 3 rfl ?_ | refine ent_take 4 rfl ?_ | refine ent_take 5 rfl ?_ | refine ent_take 6 rfl ?_ | refine ent_take 7 rfl ?_ | refine ent_take 8 rfl ?_ | refine ent_take 9 rfl ?_ | refine ent_take 10 rfl ?_ | refine ent_take 11 rfl ?_ | refine ent_take 12 rfl ?_))
                      · refine TC.seq ?_
                        refine TC.region ?_
                        refine q rfl rfl (eqI rfl rfl) ?_
                        refine q rfl rfl (asg (v := .bool _) rfl) ?_
                        refine TL.nil (nt ?_)
                        first | refine TC.condD rfl (fun k10 => ?_) (fun k10 => ?_) | refine TC.cond rfl (fun k10 => ?_) (fun k10 => ?_)
                        · refine TC.region ?_
                          refine q rfl rfl (mv (v := .pointer _) rfl) ?_
                          first | refine q rfl rfl (fa 3 rfl rfl) ?_ | refine q rfl rfl (faS 3 rfl rfl (by first | assumption | (simp [ints_length] <;> omega))) ?_
                          first | refine q rfl rfl (ld rfl rfl rfl) ?_ | refine q rfl rfl (ldS rfl rfl rfl) ?_
                          first | refine q rfl rfl (andR rfl rfl and7) ?_ | refine q rfl rfl (andR rfl rfl and3) ?_
                          refine e rfl ?_
                          refine cl (tclose_ok a T hg.p (hg.tb (by omega)) (t.n % 4)) rfl PkL.p trivial ?_
                          intro _ _
                          change TL _ _ _ _ _ _ _ _ (sepL [_, _, _])
                          refine TL.nil (nb (nt ?_))
                          refine TC.seq ?_
                          refine TC.region ?_
                          refine q rfl rfl (asg (v := .int _ _) rfl) ?_
                          refine q rfl rfl (asg (v := .int _ _) rfl) ?_
                          refine TL.nil (nt ?_)
                          refine TC.ret ?_
                          exact Ret.i ⟨_, -1, -1⟩ [_, _] ⟨rfl, rfl, trivial⟩ rfl (PL.close h8 _) (by repeat (first | exact ent_nil _ | refine ent_take 0 rfl ?_ | refine ent_take 1 rfl ?_ | refine ent_take 2 rfl ?_ | refine ent_take 3 rfl ?_ | refine ent_take 4 rfl ?_ | refine ent_take 5 rfl ?_ | refine ent_take 6 rfl ?_ | refine ent_take 7 rfl ?_ | refine ent_take 8 rfl ?_ | refine ent_take 9 rfl ?_ | refine ent_take 10 rfl ?_ | refine ent_take 11 rfl ?_ | refine ent_take 12 rfl ?_))
                        · refine TC.seq ?_
                          refine TC.region ?_
                          refine q rfl rfl (eqI rfl rfl) ?_
                          refine q rfl rfl (asg (v := .bool _) rfl) ?_
                          refine TL.nil (nt ?_)
                          first | refine TC.condD rfl (fun k11 => ?_) (fun k11 => ?_) | refine TC.cond rfl (fun k11 => ?_) (fun k11 => ?_)
                          · refine TC.seq ?_
                            refine TC.region ?_
                            first | refine q rfl rfl (ldN (vs := [_, _, _, _, _, _]) 6 rfl rfl rfl rfl) ?_ | refine q rfl rfl (ldSN (vs := [_, _, _, _, _, _]) 6 rfl rfl rfl rfl (by decide)) ?_
                            refine e rfl ?_
                            refine cl (ticks_ok t) rfl (picked_nil _) trivial ?_
                            intro _ _
                            change TL _ _ _ _ _ _ _ _ (sepL [_, _, _])
                            have htk : 0 ≤ tkN t ∧ tkN t ≤ 40 := by rw [tkN]; split <;> omega
                            generalize tkN t = tk at htk ⊢
                            refine q rfl rfl (asg (v := .int _ _) rfl) ?_
                            refine TL.nil (nt ?_)
                            refine TC.block ?_
                            refine TC.loop (ι := Nat × TS) (fun u => (u.1 : Int) ≤ tk ∧ R8 u.2 (n + u.1) ∧ ∀ x, mW u.2 x = mW T x) (fun u => [(0, .pointer (some ⟨a, 0, none⟩)), (9, .int .i64 (tk - (u.1 : Nat) : Int))]) (fun u => sepL [isT a u.2, F]) (fun u => 50 - u.1) ⟨0, T⟩ ⟨by dsimp only; omega, h8, fun _ => rfl⟩ ⟨rfl, congrArg (Value.int .i64) (by dsimp only; omega), trivial⟩ (by repeat (first | exact ent_nil _ | refine ent_take 0 rfl ?_ | refine ent_take 1 rfl ?_ | refine ent_take 2 rfl ?_ | refine ent_take 3 rfl ?_ | refine ent_take 4 rfl ?_ | refine ent_take 5 rfl ?_ | refine ent_take 6 rfl ?_ | refine ent_take 7 rfl ?_ | refine ent_take 8 rfl ?_ | refine ent_take 9 rfl ?_ | refine ent_take 10 rfl ?_ | refine ent_take 11 rfl ?_ | refine ent_take 12 rfl ?_)) ?_
                            rintro ⟨i, V⟩ ⟨hi, hV, hm⟩ ρ0
                            dsimp only [updL] at hi hV hm ⊢
                            refine TC.seq ?_
                            refine TC.seq ?_
                            refine TC.region ?_
                            refine q rfl rfl (mv (v := .int _ _) rfl) ?_
                            refine q rfl rfl (gtr rfl rfl) ?_
                            refine TL.nil (nt ?_)
                            first | refine TC.condD rfl (fun hlt => ?_) (fun hlt => ?_) | refine TC.cond rfl (fun hlt => ?_) (fun hlt => ?_)
                            · have hgV := hV.g
                              refine TC.skip (nt ?_)
                              refine TC.seq ?_
                              refine TC.block ?_
                              refine TC.region ?_
                              refine q rfl rfl (mv (v := .pointer _) rfl) ?_
                              refine e rfl ?_
                              refine cl (ttick_ok a V hgV.p (hgV.tb (by omega)) (hgV.tl (by omega)) (hgV.nw (by omega))) rfl PkL.p trivial ?_
                              intro _ _
                              change TL _ _ _ _ _ _ _ _ (sepL [_, _])
                              refine TL.nil (nb (nt ?_))
                              refine TC.region ?_
                              refine q rfl rfl (mv (v := .int _ _) rfl) ?_
                              first | refine q rfl rfl (subI rfl rfl (by omega) (by omega)) ?_ | refine q rfl rfl (sub rfl rfl rfl) ?_
                              refine q rfl rfl (asg (v := .int _ _) rfl) ?_
                              refine TL.nil (nt ?_)
                              exact ⟨rfl, ⟨i + 1, tickT V⟩, ⟨by dsimp only; omega, hV.of hgV.tick (by rw [tick_ids]; exact fun _ h => h), fun x => (tick_mW hgV.p x).trans (hm x)⟩, (by dsimp only; omega), ⟨rfl, congrArg (Value.int .i64) (by dsimp only; omega), trivial⟩, (by repeat (first | exact ent_nil _ | refine ent_take 0 rfl ?_ | refine ent_take 1 rfl ?_ | refine ent_take 2 rfl ?_ | refine ent_take 3 rfl ?_ | refine ent_take 4 rfl ?_ | refine ent_take 5 rfl ?_ | refine ent_take 6 rfl ?_ | refine ent_take 7 rfl ?_ | refine ent_take 8 rfl ?_ | refine ent_take 9 rfl ?_ | refine ent_take 10 rfl ?_ | refine ent_take 11 rfl ?_ | refine ent_take 12 rfl ?_))⟩
                            · refine TC.exit (et (et (eb (nb (nt ?_)))))
                              refine TC.seq ?_
                              refine TC.region ?_
                              refine q rfl rfl (asg (v := .int _ _) rfl) ?_
                              refine q rfl rfl (asg (v := .int _ _) rfl) ?_
                              refine TL.nil (nt ?_)
                              refine TC.ret ?_
                              exact Ret.i ⟨V, -1, -1⟩ [_, _] ⟨rfl, rfl, trivial⟩ rfl (PL.same (hV.up (by omega)) hm) (by repeat (first | exact ent_nil _ | refine ent_take 0 rfl ?_ | refine ent_take 1 rfl ?_ | refine ent_take 2 rfl ?_ | refine ent_take 3 rfl ?_ | refine ent_take 4 rfl ?_ | refine ent_take 5 rfl ?_ | refine ent_take 6 rfl ?_ | refine ent_take 7 rfl ?_ | refine ent_take 8 rfl ?_ | refine ent_take 9 rfl ?_ | refine ent_take 10 rfl ?_ | refine ent_take 11 rfl ?_ | refine ent_take 12 rfl ?_))
                          · refine TC.seq ?_
                            refine TC.region ?_
                            refine q rfl rfl (eqI rfl rfl) ?_
                            refine q rfl rfl (asg (v := .bool _) rfl) ?_
                            refine TL.nil (nt ?_)
                            first | refine TC.condD rfl (fun k12 => ?_) (fun k12 => ?_) | refine TC.cond rfl (fun k12 => ?_) (fun k12 => ?_)
                            · refine TC.region ?_
                              refine q rfl rfl (mv (v := .pointer _) rfl) ?_
                              refine e rfl ?_
                              refine cl (tyield_ok a T hg.p (hg.tb (by omega))) rfl PkL.p trivial ?_
                              intro _ _
                              change TL _ _ _ _ _ _ _ _ (sepL [_, _, _])
                              refine TL.nil (nb (nt ?_))
                              refine TC.seq ?_
                              refine TC.region ?_
                              refine q rfl rfl (asg (v := .int _ _) rfl) ?_
                              refine q rfl rfl (asg (v := .int _ _) rfl) ?_
                              refine TL.nil (nt ?_)
                              refine TC.ret ?_
                              exact Ret.i ⟨_, -1, -1⟩ [_, _] ⟨rfl, rfl, trivial⟩ rfl (PL.yield h8) (by repeat (first | exact ent_nil _ | refine ent_take 0 rfl ?_ | refine ent_take 1 rfl ?_ | refine ent_take 2 rfl ?_ | refine ent_take 3 rfl ?_ | refine ent_take 4 rfl ?_ | refine ent_take 5 rfl ?_ | refine ent_take 6 rfl ?_ | refine ent_take 7 rfl ?_ | refine ent_take 8 rfl ?_ | refine ent_take 9 rfl ?_ | refine ent_take 10 rfl ?_ | refine ent_take 11 rfl ?_ | refine ent_take 12 rfl ?_))
                            · refine TC.skip (nb (nt ?_))
                              refine TC.seq ?_
                              refine TC.region ?_
                              refine q rfl rfl (asg (v := .int _ _) rfl) ?_
                              refine q rfl rfl (asg (v := .int _ _) rfl) ?_
                              refine TL.nil (nt ?_)
                              refine TC.ret ?_
                              exact Ret.i ⟨T, -1, -1⟩ [_, _] ⟨rfl, rfl, trivial⟩ rfl (PL.none h8) (by repeat (first | exact ent_nil _ | refine ent_take 0 rfl ?_ | refine ent_take 1 rfl ?_ | refine ent_take 2 rfl ?_ | refine ent_take 3 rfl ?_ | refine ent_take 4 rfl ?_ | refine ent_take 5 rfl ?_ | refine ent_take 6 rfl ?_ | refine ent_take 7 rfl ?_ | refine ent_take 8 rfl ?_ | refine ent_take 9 rfl ?_ | refine ent_take 10 rfl ?_ | refine ent_take 11 rfl ?_ | refine ent_take 12 rfl ?_))

end Go.Proofs.Ytdfmfhcjnjfjbaa
