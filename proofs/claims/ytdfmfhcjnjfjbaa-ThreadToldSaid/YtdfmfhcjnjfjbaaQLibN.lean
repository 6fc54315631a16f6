/-
  Rows of pieces; copy and clear; keys that are structs of two numbers. Nothing of a program stands here.
-/
import Derived.Test.YtdfmfhcjnjfjbaaQLibV
namespace Go.QM
open Go

/-! ### Rows of pieces -/
def bigS {α : Type} (f : α → HP) (L : List α) : HP := sepL (L.map f)
section
variable {α : Type} {f g : α → HP}
theorem sepL_perm {l m : List HP} (h : l.Perm m) : ent (sepL l) (sepL m) := by
  induction h with
  | nil => exact ent.refl _
  | cons x _ ih => exact sep_mono (ent.refl x) ih
  | swap x y l => exact sep_swap
  | trans _ _ h1 h2 => exact h1.trans h2
theorem bigS_perm {L M : List α} (h : L.Perm M) : ent (bigS f L) (bigS f M) := sepL_perm (h.map f)
theorem bigS_congr {L : List α} (h : ∀ a ∈ L, f a = g a) : bigS f L = bigS g L := by
  rw [bigS, bigS, List.map_congr_left h]
theorem bigS_nil (hs : List HP) : ent (sepL hs) (sepL (bigS f [] :: hs)) := sep_emp.trans sep_comm
/-- One piece of a row comes to the front. -/
theorem ent_openB (n : Nat) {hs rr : List HP} {L L' : List α} {a : α} (h : take1 n hs = some (bigS f L, rr)) (hp : L.Perm (a :: L')) : ent (sepL hs) (sepL (f a :: bigS f L' :: rr)) :=
  (take1_ent h).trans ((sep_mono (bigS_perm hp) (ent.refl _)).trans sep_assoc)
/-- A piece goes back into a row; what the row's other pieces say has not turned. -/
theorem ent_closeB (i j : Nat) {hs r1 r2 gs : List HP} {L M : List α} {A : HP} (a : α) (h1 : take1 i hs = some (A, r1)) (h2 : take1 j r1 = some (bigS f L, r2)) (hA : A = g a) (hc : ∀ x ∈ L, f x = g x) (hp : (a :: L).Perm M)
    (k : ent (sepL r2) (sepL gs)) : ent (sepL hs) (sepL (bigS g M :: gs)) := by
  subst hA
  rw [bigS_congr hc] at h2
  refine (take1_ent h1).trans ((sep_mono (ent.refl _) (take1_ent h2)).trans (sep_assoc'.trans (sep_mono ?_ k)))
  exact bigS_perm (f := g) hp
/-- A row is what another row is. -/
theorem ent_takeB (i : Nat) {hs r gs : List HP} {L M : List α} (h : take1 i hs = some (bigS f L, r)) (hc : ∀ x ∈ L, f x = g x) (hp : L.Perm M) (k : ent (sepL r) (sepL gs)) : ent (sepL hs) (sepL (bigS g M :: gs)) := by
  rw [bigS_congr hc] at h
  exact (take1_ent h).trans (sep_mono (bigS_perm hp) k)
theorem perm_take {L : List α} {i : Nat} {a : α} (h : L[i]? = some a) : L.Perm (a :: (L.take i ++ L.drop (i + 1))) := by
  obtain ⟨h1, h2⟩ := List.getElem?_eq_some_iff.1 h
  have e : L = L.take i ++ a :: L.drop (i + 1) := by rw [← h2, ← List.drop_eq_getElem_cons h1, List.take_append_drop]
  conv => lhs; rw [e]
  exact List.perm_middle
theorem perm_set {L : List α} {i : Nat} {a : α} (b : α) (h : L[i]? = some a) : (b :: (L.take i ++ L.drop (i + 1))).Perm (L.set i b) := by
  have hl := (List.getElem?_eq_some_iff.1 h).1
  rw [List.set_eq_take_append_cons_drop, if_pos hl]
  exact List.perm_middle.symm
theorem perm_mem {L : List α} {a : α} (h : a ∈ L) : ∃ L', L.Perm (a :: L') := by
  obtain ⟨s, t, rfl⟩ := List.append_of_mem h
  exact ⟨s ++ t, List.perm_middle⟩
end

/-! ### copy and clear -/
section
variable {r : Option Nat} {P : Program} {N : Nat} {ops : Array Oper} {l : List Oper} {Q : Post} {ρ : Env} {ds : List Deferred} {A : HP} {K : Value → HP → Prop}
variable {d : Option Tmp} {ty : TypeId} {ps : String} {af : Array Edge} {g : Option (Nat × Bool)}
variable {t t' : TypeId} {x y : Operand}
theorem storeCells_run {w : World} {b off E : Nat} {l vs : List Value} (h : w.heap[b]? = some (.cells l.toArray E (0, 0))) (hlen : off + vs.length ≤ l.length) (h1 : vs.all Value.oneCell' = true) :
    (storeCells ⟨b, off, none⟩ vs).run P w = .ok () (w.setRow b (splice off vs l).toArray) := by
  have := run_storeCells_at P b off E vs 0 l.toArray w h (by simpa using hlen) (fun u hu => by simpa using List.all_eq_true.1 h1 u hu)
  simp only [Nat.add_zero] at this
  simpa [splice] using this
theorem splice_mid {pre cs suf vs : List Value} {o : Nat} (h : o + vs.length ≤ cs.length) : splice (pre.length + o) vs (pre ++ cs ++ suf) = pre ++ splice o vs cs ++ suf := by
  unfold splice
  rw [List.append_assoc pre cs suf, List.take_append, List.take_of_length_le (by omega), Nat.add_sub_cancel_left, Nat.add_assoc, List.drop_append, List.drop_eq_nil_of_le (by omega), Nat.add_sub_cancel_left, List.nil_append,
    List.take_append_of_le_length (by omega), List.drop_append_of_le_length (by omega)]
  simp [List.append_assoc]
/-- The block of a slice is turned in place. -/
theorem slc_turn {w : World} {E sz pb n cap : Nat} {pre cs cs' suf : List Value} {rest : List HP} (h : sat w (sep (pts pb E (pre ++ cs ++ suf)) (sepL rest))) (f2 : cs.length = n * sz) (f3 : n ≤ cap) (f4 : cap ≤ maxLen)
    (f5 : cap * sz ≤ cs.length + suf.length) (hl : cs'.length = cs.length) : sat (w.setRow pb (pre ++ cs' ++ suf).toArray) (sepL (slc E sz (some ⟨pb, pre.length, none⟩) n cap cs' :: rest)) :=
  (sat_setRow h).weak (sep_mono (ent_of_imp fun h hh => ⟨(pre, suf), ⟨rfl, by omega, f3, f4, by simp only; omega⟩, hh⟩) (ent.refl _))
theorem slc_open {w : World} {E sz n cap : Nat} {ad : Option Addr} {cs : List Value} {hs rest : List HP} (hs' : sat w (sepL hs)) (hi : ∃ i, take1 i hs = some (slc E sz ad n cap cs, rest)) (hn : 0 < cs.length) :
    ∃ pb pre suf, ad = some ⟨pb, pre.length, none⟩ ∧ cs.length = n * sz ∧ n ≤ cap ∧ cap ≤ maxLen ∧ cap * sz ≤ cs.length + suf.length ∧ sat w (sep (pts pb E (pre ++ cs ++ suf)) (sepL rest)) := by
  obtain ⟨i, hi⟩ := hi
  obtain ⟨hh, hx, a, b, dd, rfl, hp, hq⟩ := hs'.weak (take1_ent hi)
  cases ad with
  | none => obtain ⟨⟨_, _, e⟩, _⟩ := hp; rw [e] at hn; simp at hn
  | some p =>
    obtain ⟨⟨pre, suf⟩, ⟨f1, f2, f3, f4, f5⟩, hp⟩ := hp
    obtain ⟨pb, po, psp⟩ := p
    simp only [Addr.mk.injEq, true_and] at f1
    obtain ⟨rfl, rfl⟩ := f1
    exact ⟨pb, pre, suf, rfl, f2, f3, f4, f5, _, hx, a, b, dd, rfl, hp, hq⟩
/-- 'copy(s, s2)', where something is copied. -/
theorem cpy {hs rest : List HP} {E sz n cap E2 m cap2 : Nat} {ad ad2 : Option Addr} {cs cs2 cs' : List Value} (k : Nat) (ht : slcT P t E sz = true) (hx : ev ρ x = .slice ad n cap) (hy : ev ρ y = .slice ad2 m cap2)
    [hi : TkS hs ad E sz n cap cs rest] [hr : RdSI (sepL hs) ad2 E2 cs2] (hm : m * sz ≤ cs2.length) (hk : Nat.min m n = k) (hp : 0 < cs.length) (h1 : (cs2.take (k * sz)).all Value.oneCell' = true) (hs' : splice 0 (cs2.take (k * sz)) cs = cs')
    (kk : K (.int .i64 k) (sepL (slc E sz ad n cap cs' :: rest))) : OW r P ρ ⟨d, .call ⟨.builtin .copy, #[x, y], #[t, t']⟩, ty, ps, af, g⟩ (sepL hs) K := by
  refine OW.run rfl fun w hsat => ?_
  obtain ⟨pb, pre, suf, rfl, f2, f3, f4, f5, h2⟩ := slc_open hsat hi.tk hp
  have hb : w.heap[pb]? = some (.cells (pre ++ cs ++ suf).toArray E (0, 0)) := (Rd_l (Rd_pts pb E _)).sat h2
  have hkm : k ≤ m := by rw [← hk]; exact Nat.min_le_left _ _
  have hkn : k ≤ n := by rw [← hk]; exact Nat.min_le_right _ _
  have hks : k * sz ≤ cs2.length := Nat.le_trans (Nat.mul_le_mul_right _ hkm) hm
  have hcl : (cs2.take (k * sz)).length = k * sz := by rw [List.length_take]; omega
  have hfit : 0 + (cs2.take (k * sz)).length ≤ cs.length := by rw [hcl, f2]; have := Nat.mul_le_mul_right sz hkn; omega
  have hst := storeCells_run (P := P) (off := pre.length + 0) hb (by rw [List.length_append, List.length_append]; omega) h1
  rw [splice_mid hfit, hs', Nat.add_zero] at hst
  have hfe : Builtin.firstCells sz k (.slice ad2 m cap2) = Builtin.firstCells sz k (.slice ad2 k cap2) := by cases ad2 <;> rfl
  have hfc : (Builtin.firstCells sz k (.slice ad2 m cap2)).run P w = .ok (cs2.take (k * sz)).toArray w := by rw [hfe]; exact firstCells_run (hr.rd.sat hsat) hks
  refine ⟨.int .i64 k, w.setRow pb (pre ++ cs' ++ suf).toArray, _, .inl ?_, ⟨rfl, rfl, rfl, by simp⟩, slc_turn h2 f2 f3 f4 f5 (by rw [← hs']; exact splice_length hfit), kk⟩
  simp [execOp, resolve, invoke, builtin, Builtin.copy_, hx, hy, slcT_run ht, Builtin.lenOf, hk, hfc, hst, goInt]
/-- 'clear(s[i:])' -/
theorem clr {hs rest : List HP} {E sz n cap : Nat} {ad : Option Addr} {cs : List Value} {z : Value} {tys : Array TypeId} (i : Nat) (ht : slcT P t E sz = true) (hz : zeroT P E = some z) (hzs : z.cells.toList.length = sz) (hz1 : z.cells.toList.all Value.oneCell' = true) (hsz : 0 < sz)
    (hx : ev ρ x = .slice (sliceOff ad cap i sz) (n - i) (cap - i)) (hty : tys[0]? = some t) [hi : TkS hs ad E sz n cap cs rest] (hin : i ≤ n)
    (k : ∀ cs', cs'.length = cs.length → cs'.take (i * sz) = cs.take (i * sz) → K (.tuple #[]) (sepL (slc E sz ad n cap cs' :: rest))) : OW r P ρ ⟨d, .call ⟨.builtin .clear, #[x], tys⟩, ty, ps, af, g⟩ (sepL hs) K := by
  refine OW.run rfl fun w hsat => ?_
  by_cases h0 : n - i = 0
  · obtain ⟨j, hj⟩ := hi.tk
    refine ⟨.tuple #[], w, _, .inl ?_, Same.refl w, hsat.weak (take1_ent hj), k cs rfl rfl⟩
    rw [h0] at hx
    cases hs0 : sliceOff ad cap i sz <;> rw [hs0] at hx <;> simp [execOp, resolve, invoke, builtin, Builtin.clear_, hx, hty, (slcT_run ht w).1]
  · obtain ⟨j, hj⟩ := hi.tk
    have hfacts : cs.length = n * sz := by
      obtain ⟨hh, hx', a, b, dd, rfl, hp, hq⟩ := hsat.weak (take1_ent hj)
      exact (slc_facts hp).1
    have hcl : 0 < cs.length := by rw [hfacts]; exact Nat.mul_pos (by omega) hsz
    obtain ⟨pb, pre, suf, rfl, f2, f3, f4, f5, h2⟩ := slc_open hsat hi.tk hcl
    have hb : w.heap[pb]? = some (.cells (pre ++ cs ++ suf).toArray E (0, 0)) := (Rd_l (Rd_pts pb E _)).sat h2
    have hso : sliceOff (some ⟨pb, pre.length, none⟩) cap i sz = some ⟨pb, pre.length + i * sz, none⟩ := by
      rw [sliceOff, if_neg (by omega)]; simp [addr_add]
    rw [hso] at hx
    have hzc : (Builtin.zeroCells z.cells (n - i)).toList = (List.replicate (n - i) z.cells.toList).flatten := by
      have := zero_cells z.cells (n - i)
      rw [Builtin.zeroCells, this]
    have hzl : (Builtin.zeroCells z.cells (n - i)).toList.length = (n - i) * sz := by
      rw [hzc]; simp [hzs]
    have hza : (Builtin.zeroCells z.cells (n - i)).toList.all Value.oneCell' = true := by
      rw [hzc, List.all_eq_true]
      intro v hv
      obtain ⟨l0, hl0, hv0⟩ := List.mem_flatten.1 hv
      obtain ⟨_, rfl⟩ := List.mem_replicate.1 hl0
      exact List.all_eq_true.1 hz1 v hv0
    have hmul : i * sz + (n - i) * sz = n * sz := by rw [← Nat.add_mul]; congr 1; omega
    have hst := storeCells_run (P := P) (off := pre.length + i * sz) hb (by rw [hzl, List.length_append, List.length_append]; omega) hza
    rw [splice_mid (by rw [hzl]; omega)] at hst
    have hsl : (splice (i * sz) (Builtin.zeroCells z.cells (n - i)).toList cs).length = cs.length := splice_length (by rw [hzl]; omega)
    refine ⟨.tuple #[], w.setRow pb (pre ++ splice (i * sz) (Builtin.zeroCells z.cells (n - i)).toList cs ++ suf).toArray, _, .inl ?_, ⟨rfl, rfl, rfl, by simp⟩, slc_turn h2 f2 f3 f4 f5 hsl, k _ hsl ?_⟩
    · obtain ⟨m, hm⟩ : ∃ m, n - i = m + 1 := ⟨n - i - 1, by omega⟩
      rw [hm] at hx hst
      have hzv : (zeroValue E).run P w = .ok z w := zeroT_run hz w
      simp [execOp, resolve, invoke, builtin, Builtin.clear_, hx, hty, (slcT_run ht w).1, hzv, hst, hm]
    · have hle : i * sz ≤ cs.length := by omega
      rw [splice, List.append_assoc, List.take_append_of_le_length (by rw [List.length_take]; omega), List.take_of_length_le (by rw [List.length_take]; omega)]
/-- A slice against nil. -/
def sliT (P : Program) (t : TypeId) : Bool := match P.underlying t with
  | some (.slice _) => true
  | _ => false
theorem equal_nilS {t : TypeId} (h : sliT P t = true) (p : Option Addr) (n c : Nat) (w : World) : (Op.equal t (.slice p n c) (.slice none 0 0)).run P w = .ok p.isNone w := by
  unfold sliT at h
  cases hu : P.underlying t with
  | none => rw [hu] at h; cases h
  | some u =>
    rw [hu] at h
    cases u <;> first | (cases h; done) | skip
    have key : ∀ d, (Op.equalIn (d + 1) t (.slice p n c) (.slice none 0 0)).run P w = .ok p.isNone w := fun d => by
      cases p <;> simp [Op.equalIn, underlying, hu]
    exact key 9999
theorem eqSl {p : Option Addr} {n c : Nat} (ht : sliT P t = true) (hx : ev ρ x = .slice p n c) (hy : ev ρ y = .slice none 0 0) : OQ P ρ ⟨d, .binOp .eql t x y t', ty, ps, af, g⟩ A (.bool p.isNone) := by
  intro w _
  unfold execOp
  simp only [hx, hy, eqGuard, binOp, Sem.run_bind, Sem.run_pure, Result.andThen_ok, equal_nilS ht]
  rfl
theorem neSl {p : Option Addr} {n c : Nat} (ht : sliT P t = true) (hx : ev ρ x = .slice p n c) (hy : ev ρ y = .slice none 0 0) : OQ P ρ ⟨d, .binOp .neq t x y t', ty, ps, af, g⟩ A (.bool p.isSome) := by
  intro w _
  unfold execOp
  simp only [hx, hy, eqGuard, binOp, Sem.run_bind, Sem.run_pure, Result.andThen_ok, equal_nilS ht]
  cases p <;> rfl
/-- Truth values against each other. -/
def booT (P : Program) (t : TypeId) : Bool := match P.underlying t with
  | some .bool => true
  | _ => false
theorem equal_boo {t : TypeId} (h : booT P t = true) (a b : Bool) (w : World) : (Op.equal t (.bool a) (.bool b)).run P w = .ok (a == b) w := by
  unfold booT at h
  cases hu : P.underlying t with
  | none => rw [hu] at h; cases h
  | some u =>
    rw [hu] at h
    cases u <;> first | (cases h; done) | skip
    have key : ∀ d, (Op.equalIn (d + 1) t (.bool a) (.bool b)).run P w = .ok (a == b) w := fun d => by
      simp [Op.equalIn, underlying, hu]
    exact key 9999
theorem eqBo {a b : Bool} (ht : booT P t = true) (hx : ev ρ x = .bool a) (hy : ev ρ y = .bool b) : OQ P ρ ⟨d, .binOp .eql t x y t', ty, ps, af, g⟩ A (.bool (a == b)) := by
  intro w _
  unfold execOp
  simp only [hx, hy, eqGuard, binOp, Sem.run_bind, Sem.run_pure, Result.andThen_ok, equal_boo ht]
  rfl
theorem neBo {a b : Bool} (ht : booT P t = true) (hx : ev ρ x = .bool a) (hy : ev ρ y = .bool b) : OQ P ρ ⟨d, .binOp .neq t x y t', ty, ps, af, g⟩ A (.bool (a != b)) := by
  intro w _
  unfold execOp
  simp only [hx, hy, eqGuard, binOp, Sem.run_bind, Sem.run_pure, Result.andThen_ok, equal_boo ht]
  rfl
end

/-! ### What an assertion says -/
section
variable {r : Option Nat} {P : Program} {N : Nat} {Q : Post} {ρ : Env} {ds : List Deferred} {A : HP} {c : Code}
theorem TC.fact {p : Prop} (h : ∀ hh, A hh → p) (k : p → TC r P N c Q ρ ds A) : TC r P N c Q ρ ds A := fun a w hr hs =>
  k (let ⟨hh, _, x⟩ := hs; h hh x) a w hr hs
end
theorem RdS_none {A : HP} {E : Nat} {cs : List Value} (x : RdS A E none cs) : ∀ h, A h → cs = [] := fun h a => by
  rcases x h a with h1 | ⟨_, _, _, _, h1, _⟩
  · exact h1
  · cases h1

/-! ### Arrays of eight in a struct -/
def rowsC (r : Nat → Value) (tl : List Value) : List Value := [r 0, r 1, r 2, r 3, r 4, r 5, r 6, r 7] ++ tl
theorem rows_ld {r : Nat → Value} {tl : List Value} {p o : Nat} (hp : p < 8) (ho : o = p) : (rowsC r tl)[o]? = some (r p) := by
  rw [ho]; clear ho
  rcases p with _ | _ | _ | _ | _ | _ | _ | _ | p <;> first | rfl | omega
theorem rows_st {r : Nat → Value} {tl : List Value} {p o : Nat} (v : Value) (hp : p < 8) (ho : o = p) : splice o [v] (rowsC r tl) = rowsC (fun x => if x = p then v else r x) tl := by
  rw [ho]; clear ho
  rcases p with _ | _ | _ | _ | _ | _ | _ | _ | p <;> first | rfl | omega
theorem rows_congr {r r' : Nat → Value} {tl : List Value} (h : ∀ p, p < 8 → r p = r' p) : rowsC r tl = rowsC r' tl := by
  rw [rowsC, rowsC, h 0 (by omega), h 1 (by omega), h 2 (by omega), h 3 (by omega), h 4 (by omega), h 5 (by omega), h 6 (by omega), h 7 (by omega)]
theorem rows_length (r : Nat → Value) (tl : List Value) : (rowsC r tl).length = 8 + tl.length := by simp [rowsC]; omega
theorem range_perm {n p : Nat} (hp : p < n) : ∃ L, (List.range n).Perm (p :: L) ∧ ∀ x ∈ L, x ≠ p ∧ x < n := by
  have hm : p ∈ List.range n := List.mem_range.2 hp
  obtain ⟨s, t, e⟩ := List.append_of_mem hm
  have hp1 : (List.range n).Perm (p :: (s ++ t)) := by rw [e]; exact List.perm_middle
  have hn := hp1.nodup_iff.1 List.nodup_range
  rw [List.nodup_cons] at hn
  exact ⟨s ++ t, hp1, fun x hx => ⟨fun e2 => hn.1 (by rw [← e2]; exact hx), List.mem_range.1 (hp1.mem_iff.2 (by simp [hx]))⟩⟩
def updN {α : Type} (f : Nat → α) (p : Nat) (v : α) : Nat → α := fun x => if x = p then v else f x
theorem updN_same {α : Type} (f : Nat → α) (p : Nat) (v : α) : updN f p v p = v := by simp [updN]
theorem updN_ne {α : Type} {f : Nat → α} {p x : Nat} {v : α} (h : x ≠ p) : updN f p v x = f x := by simp [updN, h]
def updI {α : Type} (f : Int → α) (p : Int) (v : α) : Int → α := fun x => if x = p then v else f x
theorem updI_same {α : Type} (f : Int → α) (p : Int) (v : α) : updI f p v p = v := by simp [updI]
theorem updI_ne {α : Type} {f : Int → α} {p x : Int} {v : α} (h : x ≠ p) : updI f p v x = f x := by simp [updI, h]

end Go.QM
