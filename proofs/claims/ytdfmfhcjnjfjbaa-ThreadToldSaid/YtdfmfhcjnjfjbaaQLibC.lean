/-
  Contracts of functions, calls, arithmetic, slices: over symbolic states. Nothing of a program stands here.
-/
import Derived.Test.YtdfmfhcjnjfjbaaQLibD
import Derived.Laws.Append
namespace Go.QM
open Go

/-! ### Contracts -/
def enterT (P : Program) (f : FuncId) : Bool := match P.funcs[f]? with
  | some fn => fn.name != "runtime.NumGoroutine" && fn.body.isSome
  | none => false
theorem enterT_run {P : Program} {f : FuncId} (h : enterT P f = true) (args : Array Value) (w : World) : (callFunc f args).run P w = .ok (.enter f args) w := by
  unfold enterT at h
  cases hf : P.funcs[f]? with
  | none => rw [hf] at h; cases h
  | some fn =>
    rw [hf] at h
    simp only [Bool.and_eq_true, bne_iff_ne, ne_eq] at h
    obtain ⟨h1, h2⟩ := h
    have h2 : fn.body.isNone = false := by cases hb : fn.body <;> simp_all
    simp only [callFunc, Sem.run_bind, run_program, Result.andThen_ok, hf]
    rw [if_neg (by simpa using h1), if_neg (by simp [h2])]
    rfl
/-- A contract: pieces asked, what is asked of the rest, results, facts, pieces given back. -/
def FSpec (P : Program) (f : FuncId) (args : List Value) (rd : HP → Prop) (pre : List HP) {Y : Type} (res : Y → Value) (φ : Y → Prop) (post : Y → List HP) : Prop :=
  enterT P f = true ∧ ∀ F, rd F → ∀ w, sat w (sep (sepL pre) F) →
    CallsIn Fence.wide 0 P f args.toArray w (fun e w' => ∃ y, e = .returned (res y) ∧ φ y ∧ Same w w' ∧ sat w' (sep (sepL (post y)) F))
def noRd : HP → Prop := fun _ => True
def retV : List Value → Value
  | [v] => v
  | vs => .tuple vs.toArray
def ResOK (P : Program) : List ResultVar → List Value → Env → HP → Prop
  | [], [], _, _ => True
  | .tmp t :: rs, v :: vs, ρ, A => ρ t = v ∧ ResOK P rs vs ρ A
  | .cell a ty :: rs, v :: vs, ρ, A => (∃ b off, ρ a = .pointer (some ⟨b, off, none⟩) ∧ ∀ w, sat w A → (loadVar ty ⟨b, off, none⟩).run P w = .ok v w) ∧ ResOK P rs vs ρ A
  | _, _, _, _ => False
theorem results_run {P : Program} {fn : Func} {rs : List ResultVar} {vs : List Value} {ρ : Env} {A : HP} {tmps : Array Value} {w : World} (hrs : fn.results = rs.toArray) (ht : ∀ t, tmps.getD t undef = ρ t) (hs : sat w A)
    (h : ResOK P rs vs ρ A) : (results fn tmps).run P w = .ok (retV vs) w := by
  have key : ∀ (rs : List ResultVar) (vs : List Value), ResOK P rs vs ρ A → (rs.mapM (m := Sem) fun
      | .tmp t => pure (tmps.getD t undef)
      | .cell a t => do loadVar t (← asAddr (tmps.getD a undef))).run P w = .ok vs w := by
    intro rs
    induction rs with
    | nil => intro vs h; cases vs with | nil => simp | cons v vs => exact h.elim
    | cons x rs ih =>
      intro vs h
      cases vs with
      | nil => cases x <;> exact h.elim
      | cons v vs =>
        cases x with
        | tmp t => obtain ⟨h1, h2⟩ := h; simp only [List.mapM_cons, Sem.run_bind, Sem.run_pure, Result.andThen_ok, ih vs h2, ht t, h1]
        | cell a ty =>
          obtain ⟨⟨b, off, h1, h3⟩, h2⟩ := h
          have ha : asAddr (.pointer (some ⟨b, off, none⟩)) = pure ⟨b, off, none⟩ := rfl
          simp only [List.mapM_cons, Sem.run_bind, Sem.run_pure, Result.andThen_ok, ih vs h2, ht a, h1, ha, h3 w hs]
  have := key rs vs h
  unfold results
  rw [hrs, List.mapM_toArray]
  simp only [Sem.run_bind, Sem.run_map]
  refine Eq.trans (congrArg (fun x => Result.andThen (Result.andThen x _) _) this) ?_
  simp only [Result.andThen_ok, Sem.run_pure]
  congr 1
  cases vs with
  | nil => simp [retV]
  | cons v vs => cases vs <;> simp [retV]
def Ret (P : Program) (rs : List ResultVar) {Y : Type} (res : Y → Value) (φ : Y → Prop) (post : Y → List HP) (F : HP) : Post
  | .ret, ρ, ds, A | .normal, ρ, ds, A => ds = [] ∧ ∃ y vs, ResOK P rs vs ρ A ∧ retV vs = res y ∧ φ y ∧ ent A (sepL (post y ++ [F]))
  | _, _, _, _ => False
theorem Ret.i {P : Program} {rs : List ResultVar} {Y : Type} {res : Y → Value} {φ : Y → Prop} {post : Y → List HP} {F : HP} {ρ : Env} {A : HP} (y : Y) (vs : List Value) (h1 : ResOK P rs vs ρ A) (h2 : retV vs = res y) (h3 : φ y)
    (h4 : ent A (sepL (post y ++ [F]))) : Ret P rs res φ post F .ret ρ [] A := ⟨rfl, y, vs, h1, h2, h3, h4⟩
theorem Ret.n {P : Program} {rs : List ResultVar} {Y : Type} {res : Y → Value} {φ : Y → Prop} {post : Y → List HP} {F : HP} {ρ : Env} {A : HP} (y : Y) (vs : List Value) (h1 : ResOK P rs vs ρ A) (h2 : retV vs = res y) (h3 : φ y)
    (h4 : ent A (sepL (post y ++ [F]))) : Ret P rs res φ post F .normal ρ [] A := ⟨rfl, y, vs, h1, h2, h3, h4⟩
def envA (l : List Value) : Env := fun t => l.getD t undef
theorem sep_last {l : List HP} {F : HP} : ent (sepL (l ++ [F])) (sep (sepL l) F) := (sepL_append' l [F]).trans (sep_mono (ent.refl _) sep_left)
theorem sep_last' {l : List HP} {F : HP} : ent (sep (sepL l) F) (sepL (l ++ [F])) := (sep_mono (ent.refl _) sep_emp).trans (sepL_append l [F])
theorem FSpec.intro {P : Program} {f : FuncId} {fn : Func} {c : Code} {N : Nat} {rs : List ResultVar} {args : List Value} {rd : HP → Prop} {pre : List HP} {Y : Type} {res : Y → Value} {φ : Y → Prop} {post : Y → List HP}
    (he : enterT P f = true) (hf : P.funcs[f]? = some fn) (hb : fn.body = some c) (hN : fn.ntmps = N) (hl : Nat.ble args.length N = true) (hrs : fn.results = rs.toArray)
    (h : ∀ F, rd F → TC none P N c (Ret P rs res φ post F) (envA args) [] (sepL (pre ++ [F]))) : FSpec P f args rd pre res φ post := by
  refine ⟨he, fun F hF w hs => ?_⟩
  have hl' : args.length ≤ N := by simpa using hl
  refine callsIn_of_wp hf hb trivial (wpIn_mono (h F hF _ w ?_ (hs.weak sep_last')) ?_) rfl
  · refine ⟨by simp [hN, hl'], fun t => ?_, rfl⟩
    simp only [envA, Array.getD_eq_getD_getElem?, List.getD_eq_getElem?_getD, Array.getElem?_append]
    by_cases ht : t < args.length
    · simp [ht]
    · simp only [List.size_toArray, ht, if_false]
      rw [List.getElem?_eq_none (by omega)]
      simp only [Option.getD_none, Array.getElem?_replicate]
      split <;> rfl
  · rintro e a' w' ⟨s, ρ', ds', A', h1, h2, h3⟩
    cases e with
    | ret =>
      obtain ⟨hds, y, vs, k1, k2, k3, k4⟩ := h3
      exact ⟨by rw [h1.defers, hds], _, results_run hrs h1.get h2 k1, y, by rw [k2], k3, s, h2.weak (k4.trans sep_last)⟩
    | normal =>
      obtain ⟨hds, y, vs, k1, k2, k3, k4⟩ := h3
      exact ⟨by rw [h1.defers, hds], _, results_run hrs h1.get h2 k1, y, by rw [k2], k3, s, h2.weak (k4.trans sep_last)⟩
    | _ => exact h3.elim
theorem FSpec.weak {P : Program} {f : FuncId} {args : List Value} {rd rd' : HP → Prop} {pre pre' : List HP} {Y Y' : Type} {res : Y → Value} {φ : Y → Prop} {post : Y → List HP} {res' : Y' → Value} {φ' : Y' → Prop} {post' : Y' → List HP}
    (h : FSpec P f args rd pre res φ post) (hrd : ∀ F, rd' F → rd F) (hpre : ent (sepL pre') (sepL pre)) (hy : ∀ y, φ y → ∃ y', res y = res' y' ∧ φ' y' ∧ ent (sepL (post y)) (sepL (post' y'))) : FSpec P f args rd' pre' res' φ' post' :=
  ⟨h.1, fun F hF w hs => (h.2 F (hrd F hF) w (hs.weak (sep_mono hpre (ent.refl _)))).mono fun e w' ⟨y, h1, h2, h3, h4⟩ => by
    obtain ⟨y', k1, k2, k3⟩ := hy y h2
    exact ⟨y', by rw [h1, k1], k2, h3, h4.weak (sep_mono k3 (ent.refl _))⟩⟩

section
variable {r : Option Nat} {P : Program} {N : Nat} {ops : Array Oper} {l : List Oper} {Q : Post} {ρ : Env} {ds : List Deferred} {A : HP} {K : Value → HP → Prop}
variable {d : Option Tmp} {ty : TypeId} {ps : String} {af : Array Edge} {g : Option (Nat × Bool)}

def evL (ρ : Env) : List Operand → List Value
  | [] => []
  | x :: l => ev ρ x :: evL ρ l
theorem evL_map (ρ : Env) (l : List Operand) : l.map (ev ρ) = evL ρ l := by induction l with | nil => rfl | cons x l ih => simp [evL, ih]
/-- The call of a function, by its contract. -/
theorem clC {f : FuncId} {fo : Operand} {lb vs : List Value} {cargs : List Operand} {tys : Array TypeId} {rd : HP → Prop} {pre hs rest : List HP} {Y : Type} {res : Y → Value} {φ : Y → Prop} {post : Y → List HP}
    (spec : FSpec P f (vs ++ lb) rd pre res φ post) (hc : ev ρ fo = .func (.func f) #[] lb.toArray) (ha : evL ρ cargs = vs) (hp : Picked hs pre rest) (hrd : rd (sepL rest)) (k : ∀ y, φ y → K (res y) (sepL (post y ++ rest))) :
    OW r P ρ ⟨d, .call ⟨.value fo, cargs.toArray, tys⟩, ty, ps, af, g⟩ (sepL hs) K := by
  intro a w he hs'
  refine ⟨fun _ _ => trivial, ?_⟩
  rw [semAt_nd _ (by rfl), he]
  have hrun : (execOp (ev ρ) ⟨d, .call ⟨.value fo, cargs.toArray, tys⟩, ty, ps, af, g⟩).run P w = .ok (.enter f (vs ++ lb).toArray) w := by
    simp [execOp, resolve, hc, Deferred.ofValue, invoke, evL_map, ha, enterT_run spec.1]
  rw [hrun]
  refine ⟨FR_depth r, ?_⟩
  have := spec.2 (sepL rest) hrd w (hs'.weak hp)
  refine CallsIn.mono (show CallsIn (FR r) (0 - 1) P f (vs ++ lb).toArray w _ from this) ?_
  rintro e w' ⟨y, rfl, hy, s, hs''⟩
  exact ⟨res y, _, rfl, s, hs''.weak (sepL_append _ _), k y hy⟩
theorem cl {f : FuncId} {vs : List Value} {cargs : List Operand} {tys : Array TypeId} {rd : HP → Prop} {pre hs rest : List HP} {Y : Type} {res : Y → Value} {φ : Y → Prop} {post : Y → List HP}
    (spec : FSpec P f vs rd pre res φ post) (ha : evL ρ cargs = vs) (hp : Picked hs pre rest) (hrd : rd (sepL rest)) (k : ∀ y, φ y → K (res y) (sepL (post y ++ rest))) :
    OW r P ρ ⟨d, .call ⟨.value (.func f), cargs.toArray, tys⟩, ty, ps, af, g⟩ (sepL hs) K :=
  clC (lb := []) (vs := vs) (by simpa using spec) rfl ha hp hrd k

end
end Go.QM
