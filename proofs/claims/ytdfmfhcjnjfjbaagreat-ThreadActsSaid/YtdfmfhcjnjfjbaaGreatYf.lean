/-
  Proved here: what functions of this program compute, each as a contract over symbolic states, under the premises that each theorem names (most lines printed by a program of the prover).
-/
import Derived.Laws.StructEq
import Derived.Test.YtdfmfhcjnjfjbaaGreatYe
namespace Go.QM
open Go
section
variable {r : Option Nat} {P : Program} {N : Nat} {ops : Array Oper} {l : List Oper} {Q : Post} {ρ : Env} {ds : List Deferred} {A : HP} {K : Value → HP → Prop}
variable {d : Option Tmp} {ty : TypeId} {ps : String} {af : Array Edge} {g : Option (Nat × Bool)}
variable {t t' : TypeId} {x y : Operand} {k : IntKind} {a b c : Int}
def arrT (P : Program) (t : TypeId) (n E sz : Nat) : Bool := match P.underlying t with
  | some (.array m e) => Nat.beq m n && Nat.beq e E && szT P e sz
  | _ => false
theorem arrT_run {n E sz : Nat} (h : arrT P t n E sz = true) (w : World) : (underlying t).run P w = .ok (.array n E) w ∧ (Go.sizeOf E).run P w = .ok sz w := by
  unfold arrT at h
  cases hu : P.underlying t with
  | none => rw [hu] at h; cases h
  | some u =>
    rw [hu] at h
    cases u <;> first
      | (cases h; done)
      | (simp only [Bool.and_eq_true] at h
         obtain ⟨⟨h1, h2⟩, h3⟩ := h
         have h1 := Nat.eq_of_beq_eq_true h1
         have h2 := Nat.eq_of_beq_eq_true h2
         subst h1; subst h2
         exact ⟨by simp [underlying, hu], szT_run h3 w⟩)
theorem ixAl (n E sz : Nat) {bl off : Nat} {j : Int} (ht : arrT P t n E sz = true) (hx : ev ρ x = .pointer (some ⟨bl, off, none⟩)) (hy : ev ρ y = .int k j) (h0 : 0 ≤ j) (h1 : j < n) :
    OQ P ρ ⟨d, .indexAddr t x y, ty, ps, af, g⟩ A (.pointer (some ⟨bl, off + j.toNat * sz, none⟩)) := fun w _ => by
  simp [execOp, Instr.indexAt, Instr.sureAddr, hx, hy, asIntOf, arrT_run ht, h0, h1, addr_add]
def eqI64T (P : Program) (n : Nat) : List Field → Nat → Bool
  | [], m => Nat.beq m n
  | f :: fs, m => (f.name != "_") && Nat.beq f.offset m && (match P.underlying f.type with | some (.int .i64) => true | _ => false) && eqI64T P n fs (m + 1)
def eqST (P : Program) (t : TypeId) (n : Nat) : Bool := match P.underlying t with
  | some (.struct fs) => eqI64T P n fs.toList 0 && !(P.stoodInHeld t) && !(P.eqGuardType P.depth t)
  | _ => false
theorem eqFields_run {n : Nat} {d : Nat} (xs ys : List Int) (hx : xs.length = n) (hy : ys.length = n) (w : World) : ∀ (fs : List Field) (m : Nat), m ≤ n → eqI64T P n fs m = true →
    (Op.eqFields (d + 1) (ints xs).toArray (ints ys).toArray fs).run P w = .ok (decide (xs.drop m = ys.drop m)) w
  | [], m, _, h => by
    have := Nat.eq_of_beq_eq_true h
    simp [Op.eqFields, List.drop_eq_nil_of_le, this, hx, hy]
  | f :: fs, m, hm, h => by
    simp only [eqI64T, Bool.and_eq_true] at h
    obtain ⟨⟨⟨h1, h2⟩, h3⟩, h4⟩ := h
    have h2 := Nat.eq_of_beq_eq_true h2
    have hu : P.underlying f.type = some (.int .i64) := by
      cases hu : P.underlying f.type with
      | none => rw [hu] at h3; cases h3
      | some u => rw [hu] at h3; cases u <;> first | (cases h3; done) | (rename_i k; cases k <;> first | (cases h3; done) | rfl)
    have hmn : m < n := by
      rcases Nat.lt_or_ge m n with h | h
      · exact h
      · exfalso
        have hgt : ∀ (fs : List Field) (m : Nat), n < m → eqI64T P n fs m = true → False := by
          intro fs
          induction fs with
          | nil => intro m hm h; have := Nat.eq_of_beq_eq_true h; omega
          | cons f fs ih => intro m hm h; simp only [eqI64T, Bool.and_eq_true] at h; exact ih _ (by omega) h.2
        exact hgt fs (m + 1) (by omega) h4
    have hxm : xs.drop m = xs[m] :: xs.drop (m + 1) := List.drop_eq_getElem_cons (by omega)
    have hym : ys.drop m = ys[m] :: ys.drop (m + 1) := List.drop_eq_getElem_cons (by omega)
    have p1 : (part f.type (ints xs).toArray f.offset).run P w = .ok (.int .i64 xs[m]) w := by
      have ha : oneT P f.type = true := by simp [oneT, hu]
      simp [part, isAgg_one ha, h2, ints, show m < xs.length by omega]
    have p2 : (part f.type (ints ys).toArray f.offset).run P w = .ok (.int .i64 ys[m]) w := by
      have ha : oneT P f.type = true := by simp [oneT, hu]
      simp [part, isAgg_one ha, h2, ints, show m < ys.length by omega]
    have hn : f.name ≠ "_" := by simpa using h1
    simp only [Op.eqFields, hn, ne_eq, not_false_eq_true, if_true, Sem.run_bind, p1, p2, Result.andThen_ok, run_equalIn_int w d f.type .i64 .i64 _ _ hu]
    by_cases he : xs[m] = ys[m]
    · rw [if_neg (by simp [he]), eqFields_run xs ys hx hy w fs (m + 1) (by omega) h4]
      refine congrArg (fun b => Result.ok b w) (decide_eq_decide.2 ?_)
      rw [hxm, hym, he]
      exact ⟨fun h => by rw [h], fun h => (List.cons.inj h).2⟩
    · rw [if_pos (by simp [he]), Sem.run_pure]
      refine congrArg (fun b => Result.ok b w) (decide_eq_false ?_).symm
      rw [hxm, hym]
      exact fun h => he (List.cons.inj h).1
theorem eqST_run {n : Nat} (h : eqST P t n = true) (xs ys : List Int) (hx : xs.length = n) (hy : ys.length = n) (w : World) :
    (Op.equalIn 10000 t (.agg (ints xs).toArray) (.agg (ints ys).toArray)).run P w = .ok (decide (xs = ys)) w ∧ P.eqGuardType P.depth t = false := by
  unfold eqST at h
  cases hu : P.underlying t with
  | none => rw [hu] at h; cases h
  | some u =>
    rw [hu] at h
    cases u with
    | struct fs =>
      simp only [Bool.and_eq_true, Bool.not_eq_true'] at h
      obtain ⟨⟨h1, h2⟩, h3⟩ := h
      have hf : P.fieldsOf t = fs := by simp [Program.fieldsOf, hu]
      have := eqFields_run (P := P) (d := 9998) xs ys hx hy w fs.toList 0 (Nat.zero_le _) h1
      refine ⟨?_, h3⟩
      rw [run_equalIn_agg w 9999 t _ _ (by rw [hf]; exact hu) h2, hf, this]
      simp
    | _ => cases h
theorem neS (n : Nat) {xs ys : List Int} (ht : eqST P t n = true) (hx : ev ρ x = .agg (ints xs).toArray) (hy : ev ρ y = .agg (ints ys).toArray) (hn : xs.length = n) (hm : ys.length = n) :
    OQ P ρ ⟨d, .binOp .neq t x y t', ty, ps, af, g⟩ A (.bool (decide (xs ≠ ys))) := fun w _ => by
  obtain ⟨h1, h2⟩ := eqST_run ht xs ys hn hm w
  simp [execOp, hx, hy, run_eqGuard_agg w .neq t x y _ _ h2, run_neq_struct w t, h1]
end
theorem rcN {P : Program} {ρ : Env} {A : HP} {t a n b off E : Nat} {fz : Nat × Nat} {l vs : List Value} (ht : aggT P t n = true) (hp : ρ a = .pointer (some ⟨b, off, none⟩)) [h : RdI A b (.cells l.toArray E fz)] (hv : (l.drop off).take n = vs) (hn : vs.length = n) :
    ∃ b off, ρ a = .pointer (some ⟨b, off, none⟩) ∧ ∀ w, sat w A → (loadVar t ⟨b, off, none⟩).run P w = .ok (.agg vs.toArray) w :=
  ⟨b, off, hp, fun _ hs => loadVar_agg ht (h.rd.sat hs) hv hn⟩
theorem flat_ld {α : Type} {enc : α → List Value} {sz : Nat} (h : ∀ a, (enc a).length = sz) {xs : List α} {i : Nat} {a : α} (hi : xs[i]? = some a) {o : Nat} (j : Nat) (ho : o = i * sz + j) {v : Value} (hj : (enc a)[j]? = some v) : (xs.flatMap enc)[o]? = some v := by
  subst ho; exact flat_get h hi hj
theorem flat_ldN {α : Type} {enc : α → List Value} {sz : Nat} (h : ∀ a, (enc a).length = sz) {xs : List α} {i : Nat} {a : α} (hi : xs[i]? = some a) {o : Nat} (j m : Nat) (ho : o = i * sz + j) (hm : j + m ≤ sz) {vs : List Value} (hj : ((enc a).drop j).take m = vs) :
    ((xs.flatMap enc).drop o).take m = vs := by
  subst ho hj
  have h1 := flat_get_rec h hi
  rw [← h1, List.drop_take, List.drop_drop, List.take_take, Nat.min_eq_left (by omega)]
theorem flat_set {α : Type} {enc : α → List Value} {sz : Nat} (h : ∀ a, (enc a).length = sz) {xs : List α} {i : Nat} {a a' : α} (hi : xs[i]? = some a) {o : Nat} (j : Nat) {vs : List Value} (ho : o = i * sz + j) (hm : j + vs.length ≤ sz) (ha : enc a' = splice j vs (enc a)) :
    splice o vs (xs.flatMap enc) = (xs.set i a').flatMap enc := by
  subst ho
  have hlt := (List.getElem?_eq_some_iff.1 hi).1
  have hx : xs = xs.take i ++ a :: xs.drop (i + 1) := by
    conv => lhs; rw [← List.take_append_drop i xs, List.drop_eq_getElem_cons hlt]
    rw [(List.getElem?_eq_some_iff.1 hi).2]
  have hs : xs.set i a' = xs.take i ++ a' :: xs.drop (i + 1) := by rw [List.set_eq_take_append_cons_drop, if_pos hlt]
  have hl : ((xs.take i).flatMap enc).length = i * sz := by rw [flat_length h, List.length_take, Nat.min_eq_left (Nat.le_of_lt hlt)]
  rw [hs]
  conv => lhs; rw [hx]
  simp only [List.flatMap_append, List.flatMap_cons, splice, ha]
  have e1 : ((xs.take i).flatMap enc ++ (enc a ++ (xs.drop (i + 1)).flatMap enc)).take (i * sz + j) = (xs.take i).flatMap enc ++ (enc a).take j := by
    rw [List.take_append, hl, Nat.add_sub_cancel_left, List.take_of_length_le (by omega), List.take_append_of_le_length (by rw [h]; omega)]
  have e2 : ((xs.take i).flatMap enc ++ (enc a ++ (xs.drop (i + 1)).flatMap enc)).drop (i * sz + j + vs.length) = (enc a).drop (j + vs.length) ++ (xs.drop (i + 1)).flatMap enc := by
    rw [List.drop_append, hl, List.drop_eq_nil_of_le (by omega), List.nil_append, show i * sz + j + vs.length - i * sz = j + vs.length by omega, List.drop_append_of_le_length (by rw [h]; omega)]
  rw [e1, e2]
  simp [List.append_assoc]
end Go.QM
