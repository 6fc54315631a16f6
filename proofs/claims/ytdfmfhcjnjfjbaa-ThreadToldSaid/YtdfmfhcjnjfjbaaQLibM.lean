/-
  Structs of two numbers and a truth value, one against another. Nothing of a program stands here.
-/
import Derived.Test.YtdfmfhcjnjfjbaaQLibK
namespace Go.QM
open Go
def i64T (P : Program) (t : TypeId) : Bool := match P.underlying t with
  | some (.int .i64) => true
  | _ => false
theorem i64T_un {P : Program} {t : TypeId} (h : i64T P t = true) : P.underlying t = some (.int .i64) := by
  unfold i64T at h
  cases hu : P.underlying t with
  | none => rw [hu] at h; cases h
  | some u => rw [hu] at h; cases u <;> first | (cases h; done) | (rename_i k; cases k <;> first | (cases h; done) | rfl)
theorem booT_un {P : Program} {t : TypeId} (h : booT P t = true) : P.underlying t = some .bool := by
  unfold booT at h
  cases hu : P.underlying t with
  | none => rw [hu] at h; cases h
  | some u => rw [hu] at h; cases u <;> first | (cases h; done) | rfl
def oft (P : Program) (f1 f2 f3 : Field) : Bool :=
  !(f1.name == "_") && !(f2.name == "_") && !(f3.name == "_") && Nat.beq f1.offset 0 && Nat.beq f2.offset 1 && Nat.beq f3.offset 2 && i64T P f1.type && i64T P f2.type && booT P f3.type
def eqOT (P : Program) (t : TypeId) : Bool := match P.underlying t with
  | some (.struct fs) => (match fs.toList with
    | [f1, f2, f3] => oft P f1 f2 f3
    | _ => false) && !(P.stoodInHeld t) && !(P.eqGuardType P.depth t)
  | _ => false
theorem eqOT_run {P : Program} {t : TypeId} (h : eqOT P t = true) (a b a' b' : Int) (c c' : Bool) (w : World) :
    (Op.equalIn 10000 t (.agg #[.int .i64 a, .int .i64 b, .bool c]) (.agg #[.int .i64 a', .int .i64 b', .bool c'])).run P w = .ok (decide (a = a' ∧ b = b' ∧ c = c')) w ∧ P.eqGuardType P.depth t = false := by
  unfold eqOT at h
  cases hu : P.underlying t with
  | none => rw [hu] at h; cases h
  | some u =>
    rw [hu] at h
    cases u with
    | struct fs =>
      simp only [Bool.and_eq_true, Bool.not_eq_true'] at h
      obtain ⟨⟨h1, h2⟩, h3⟩ := h
      have hf : P.fieldsOf t = fs := by simp [Program.fieldsOf, hu]
      refine ⟨?_, h3⟩
      rw [run_equalIn_agg w 9999 t _ _ (by rw [hf]; exact hu) h2, hf]
      split at h1
      · rename_i f1 f2 f3 hl
        rw [hl]
        simp only [oft, Bool.and_eq_true, Bool.not_eq_true', beq_eq_false_iff_ne] at h1
        obtain ⟨⟨⟨⟨⟨⟨⟨⟨n1, n2⟩, n3⟩, o1⟩, o2⟩, o3⟩, t1⟩, t2⟩, t3⟩ := h1
        have o1 := Nat.eq_of_beq_eq_true o1
        have o2 := Nat.eq_of_beq_eq_true o2
        have o3 := Nat.eq_of_beq_eq_true o3
        have t1 := i64T_un t1
        have t2 := i64T_un t2
        have t3 := booT_un t3
        have s1 : oneT P f1.type = true := by simp [oneT, t1]
        have s2 : oneT P f2.type = true := by simp [oneT, t2]
        have s3 : oneT P f3.type = true := by simp [oneT, t3]
        have p1 : ∀ x y : Int, ∀ z : Bool, (part f1.type #[.int .i64 x, .int .i64 y, .bool z] f1.offset).run P w = .ok (.int .i64 x) w := fun x y z => by simp [part, isAgg_one s1, o1]
        have p2 : ∀ x y : Int, ∀ z : Bool, (part f2.type #[.int .i64 x, .int .i64 y, .bool z] f2.offset).run P w = .ok (.int .i64 y) w := fun x y z => by simp [part, isAgg_one s2, o2]
        have p3 : ∀ x y : Int, ∀ z : Bool, (part f3.type #[.int .i64 x, .int .i64 y, .bool z] f3.offset).run P w = .ok (.bool z) w := fun x y z => by simp [part, isAgg_one s3, o3]
        have e3 : ∀ d, (Op.equalIn (d + 1) f3.type (.bool c) (.bool c')).run P w = .ok (c == c') w := fun d => by
          simp [Op.equalIn, underlying, t3]
        have e1 : ∀ x y : Int, (Op.equalIn 9999 f1.type (.int .i64 x) (.int .i64 y)).run P w = .ok (decide (x = y)) w := fun x y => run_equalIn_int w 9998 f1.type .i64 .i64 x y t1
        have e2 : ∀ x y : Int, (Op.equalIn 9999 f2.type (.int .i64 x) (.int .i64 y)).run P w = .ok (decide (x = y)) w := fun x y => run_equalIn_int w 9998 f2.type .i64 .i64 x y t2
        have e4 := e3 9998
        simp only [Op.eqFields, ne_eq, n1, n2, n3, not_false_eq_true, if_true, Sem.run_bind, p1, p2, p3, Result.andThen_ok, e1]
        by_cases h1 : a = a'
        · by_cases h2 : b = b'
          · cases hc : (c == c')
            · have hn : c ≠ c' := by simpa using hc
              rw [hc] at e4
              simp [h1, h2, hn, p2, p3, e2, e4]
            · have hn : c = c' := by simpa using hc
              rw [hc] at e4
              simp [h1, h2, p2, p3, e2, e4, hn]
              rw [hn] at e4
              simp [e4]
          · simp [h1, h2, p2, e2]
        · simp [h1]
      · cases h1
    | _ => cases h
section
variable {P : Program} {ρ : Env} {A : HP} {d : Option Nat} {ty : TypeId} {ps : String} {af : Array Edge} {g : Option (Nat × Bool)} {t t' : TypeId} {x y : Operand}
theorem eqO {a b a' b' : Int} {c c' : Bool} (ht : eqOT P t = true) (hx : ev ρ x = .agg #[.int .i64 a, .int .i64 b, .bool c]) (hy : ev ρ y = .agg #[.int .i64 a', .int .i64 b', .bool c']) :
    OQ P ρ ⟨d, .binOp .eql t x y t', ty, ps, af, g⟩ A (.bool (decide (a = a' ∧ b = b' ∧ c = c'))) := fun w _ => by
  obtain ⟨h1, h2⟩ := eqOT_run ht a b a' b' c c' w
  simp [execOp, hx, hy, run_eqGuard_agg w .eql t x y _ _ h2, run_eql_struct w t, h1]
theorem neO {a b a' b' : Int} {c c' : Bool} (ht : eqOT P t = true) (hx : ev ρ x = .agg #[.int .i64 a, .int .i64 b, .bool c]) (hy : ev ρ y = .agg #[.int .i64 a', .int .i64 b', .bool c']) :
    OQ P ρ ⟨d, .binOp .neq t x y t', ty, ps, af, g⟩ A (.bool (decide (¬ (a = a' ∧ b = b' ∧ c = c')))) := fun w _ => by
  obtain ⟨h1, h2⟩ := eqOT_run ht a b a' b' c c' w
  simp [execOp, hx, hy, run_eqGuard_agg w .neq t x y _ _ h2, run_neq_struct w t, h1]
end
end Go.QM
