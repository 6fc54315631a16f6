/-
  Proved here: what functions of this program compute, each as a contract over symbolic states, under the premises that each theorem names (most lines printed by a program of the prover).
-/
import Derived.Laws.Append
import Derived.Test.YtdfmfhcjnjfjbaaGreatYb
namespace Go.QM
open Go
def enterT (P : Program) (f : FuncId) : Bool := match P.funcs[f]? with
  | some fn => fn.name != "runtime.NumGoroutine" && fn.body.isSome
  | none => false
theorem enterT_run {P : Program} {f : FuncId} (h : enterT P f = true) (args : Array Value) (w : World) : (callFunc f args).run P w = .ok (.enter f args) w := by
  unfold enterT at h
  cases hf : P.funcs[f]? with
  | none => rw [hf] at h; cases h
  | some fn =>
    rw [hf] at h
    simp only [Bool.and_eq_true, bne_iff_ne, ne_eq] at h
    obtain ⟨h1, h2⟩ := h
    have h2 : fn.body.isNone = false := by cases hb : fn.body <;> simp_all
    simp only [callFunc, Sem.run_bind, run_program, Result.andThen_ok, hf]
    rw [if_neg (by simpa using h1), if_neg (by simp [h2])]
    rfl
def FSpec (P : Program) (f : FuncId) (args : List Value) (rd : HP → Prop) (pre : List HP) {Y : Type} (res : Y → Value) (φ : Y → Prop) (post : Y → List HP) : Prop :=
  enterT P f = true ∧ ∀ F, rd F → ∀ w, sat w (sep (sepL pre) F) →
    CallsIn Fence.wide 0 P f args.toArray w (fun e w' => ∃ y, e = .returned (res y) ∧ φ y ∧ Same w w' ∧ sat w' (sep (sepL (post y)) F))
def noRd : HP → Prop := fun _ => True
def retV : List Value → Value
  | [v] => v
  | vs => .tuple vs.toArray
def ResOK (P : Program) : List ResultVar → List Value → Env → HP → Prop
  | [], [], _, _ => True
  | .tmp t :: rs, v :: vs, ρ, A => ρ t = v ∧ ResOK P rs vs ρ A
  | .cell a ty :: rs, v :: vs, ρ, A => (∃ b off, ρ a = .pointer (some ⟨b, off, none⟩) ∧ ∀ w, sat w A → (loadVar ty ⟨b, off, none⟩).run P w = .ok v w) ∧ ResOK P rs vs ρ A
  | _, _, _, _ => False
theorem results_run {P : Program} {fn : Func} {rs : List ResultVar} {vs : List Value} {ρ : Env} {A : HP} {tmps : Array Value} {w : World} (hrs : fn.results = rs.toArray) (ht : ∀ t, tmps.getD t undef = ρ t) (hs : sat w A)
    (h : ResOK P rs vs ρ A) : (results fn tmps).run P w = .ok (retV vs) w := by
  have key : ∀ (rs : List ResultVar) (vs : List Value), ResOK P rs vs ρ A → (rs.mapM (m := Sem) fun
      | .tmp t => pure (tmps.getD t undef)
      | .cell a t => do loadVar t (← asAddr (tmps.getD a undef))).run P w = .ok vs w := by
    intro rs
    induction rs with
    | nil => intro vs h; cases vs with | nil => simp | cons v vs => exact h.elim
    | cons x rs ih =>
      intro vs h
      cases vs with
      | nil => cases x <;> exact h.elim
      | cons v vs =>
        cases x with
        | tmp t => obtain ⟨h1, h2⟩ := h; simp only [List.mapM_cons, Sem.run_bind, Sem.run_pure, Result.andThen_ok, ih vs h2, ht t, h1]
        | cell a ty =>
          obtain ⟨⟨b, off, h1, h3⟩, h2⟩ := h
          have ha : asAddr (.pointer (some ⟨b, off, none⟩)) = pure ⟨b, off, none⟩ := rfl
          simp only [List.mapM_cons, Sem.run_bind, Sem.run_pure, Result.andThen_ok, ih vs h2, ht a, h1, ha, h3 w hs]
  have := key rs vs h
  unfold results
  rw [hrs, List.mapM_toArray]
  simp only [Sem.run_bind, Sem.run_map]
  refine Eq.trans (congrArg (fun x => Result.andThen (Result.andThen x _) _) this) ?_
  simp only [Result.andThen_ok, Sem.run_pure]
  congr 1
  cases vs with
  | nil => simp [retV]
  | cons v vs => cases vs <;> simp [retV]
def Ret (P : Program) (rs : List ResultVar) {Y : Type} (res : Y → Value) (φ : Y → Prop) (post : Y → List HP) (F : HP) : Post
  | .ret, ρ, ds, A | .normal, ρ, ds, A => ds = [] ∧ ∃ y vs, ResOK P rs vs ρ A ∧ retV vs = res y ∧ φ y ∧ ent A (sepL (post y ++ [F]))
  | _, _, _, _ => False
theorem Ret.i {P : Program} {rs : List ResultVar} {Y : Type} {res : Y → Value} {φ : Y → Prop} {post : Y → List HP} {F : HP} {ρ : Env} {A : HP} (y : Y) (vs : List Value) (h1 : ResOK P rs vs ρ A) (h2 : retV vs = res y) (h3 : φ y)
    (h4 : ent A (sepL (post y ++ [F]))) : Ret P rs res φ post F .ret ρ [] A := ⟨rfl, y, vs, h1, h2, h3, h4⟩
theorem Ret.n {P : Program} {rs : List ResultVar} {Y : Type} {res : Y → Value} {φ : Y → Prop} {post : Y → List HP} {F : HP} {ρ : Env} {A : HP} (y : Y) (vs : List Value) (h1 : ResOK P rs vs ρ A) (h2 : retV vs = res y) (h3 : φ y)
    (h4 : ent A (sepL (post y ++ [F]))) : Ret P rs res φ post F .normal ρ [] A := ⟨rfl, y, vs, h1, h2, h3, h4⟩
def envA (l : List Value) : Env := fun t => l.getD t undef
theorem sep_last {l : List HP} {F : HP} : ent (sepL (l ++ [F])) (sep (sepL l) F) := (sepL_append' l [F]).trans (sep_mono (ent.refl _) sep_left)
theorem sep_last' {l : List HP} {F : HP} : ent (sep (sepL l) F) (sepL (l ++ [F])) := (sep_mono (ent.refl _) sep_emp).trans (sepL_append l [F])
theorem FSpec.intro {P : Program} {f : FuncId} {fn : Func} {c : Code} {N : Nat} {rs : List ResultVar} {args : List Value} {rd : HP → Prop} {pre : List HP} {Y : Type} {res : Y → Value} {φ : Y → Prop} {post : Y → List HP}
    (he : enterT P f = true) (hf : P.funcs[f]? = some fn) (hb : fn.body = some c) (hN : fn.ntmps = N) (hl : Nat.ble args.length N = true) (hrs : fn.results = rs.toArray)
    (h : ∀ F, rd F → TC none P N c (Ret P rs res φ post F) (envA args) [] (sepL (pre ++ [F]))) : FSpec P f args rd pre res φ post := by
  refine ⟨he, fun F hF w hs => ?_⟩
  have hl' : args.length ≤ N := by simpa using hl
  refine callsIn_of_wp hf hb trivial (wpIn_mono (h F hF _ w ?_ (hs.weak sep_last')) ?_) rfl
  · refine ⟨by simp [hN, hl'], fun t => ?_, rfl⟩
    simp only [envA, Array.getD_eq_getD_getElem?, List.getD_eq_getElem?_getD, Array.getElem?_append]
    by_cases ht : t < args.length
    · simp [ht]
    · simp only [List.size_toArray, ht, if_false]
      rw [List.getElem?_eq_none (by omega)]
      simp only [Option.getD_none, Array.getElem?_replicate]
      split <;> rfl
  · rintro e a' w' ⟨s, ρ', ds', A', h1, h2, h3⟩
    cases e with
    | ret =>
      obtain ⟨hds, y, vs, k1, k2, k3, k4⟩ := h3
      exact ⟨by rw [h1.defers, hds], _, results_run hrs h1.get h2 k1, y, by rw [k2], k3, s, h2.weak (k4.trans sep_last)⟩
    | normal =>
      obtain ⟨hds, y, vs, k1, k2, k3, k4⟩ := h3
      exact ⟨by rw [h1.defers, hds], _, results_run hrs h1.get h2 k1, y, by rw [k2], k3, s, h2.weak (k4.trans sep_last)⟩
    | _ => exact h3.elim
theorem FSpec.weak {P : Program} {f : FuncId} {args : List Value} {rd rd' : HP → Prop} {pre pre' : List HP} {Y Y' : Type} {res : Y → Value} {φ : Y → Prop} {post : Y → List HP} {res' : Y' → Value} {φ' : Y' → Prop} {post' : Y' → List HP}
    (h : FSpec P f args rd pre res φ post) (hrd : ∀ F, rd' F → rd F) (hpre : ent (sepL pre') (sepL pre)) (hy : ∀ y, φ y → ∃ y', res y = res' y' ∧ φ' y' ∧ ent (sepL (post y)) (sepL (post' y'))) : FSpec P f args rd' pre' res' φ' post' :=
  ⟨h.1, fun F hF w hs => (h.2 F (hrd F hF) w (hs.weak (sep_mono hpre (ent.refl _)))).mono fun e w' ⟨y, h1, h2, h3, h4⟩ => by
    obtain ⟨y', k1, k2, k3⟩ := hy y h2
    exact ⟨y', by rw [h1, k1], k2, h3, h4.weak (sep_mono k3 (ent.refl _))⟩⟩
section
variable {r : Option Nat} {P : Program} {N : Nat} {ops : Array Oper} {l : List Oper} {Q : Post} {ρ : Env} {ds : List Deferred} {A : HP} {K : Value → HP → Prop}
variable {d : Option Tmp} {ty : TypeId} {ps : String} {af : Array Edge} {g : Option (Nat × Bool)}
def evL (ρ : Env) : List Operand → List Value
  | [] => []
  | x :: l => ev ρ x :: evL ρ l
theorem evL_map (ρ : Env) (l : List Operand) : l.map (ev ρ) = evL ρ l := by induction l with | nil => rfl | cons x l ih => simp [evL, ih]
theorem clC {f : FuncId} {fo : Operand} {lb vs : List Value} {cargs : List Operand} {tys : Array TypeId} {rd : HP → Prop} {pre hs rest : List HP} {Y : Type} {res : Y → Value} {φ : Y → Prop} {post : Y → List HP}
    (spec : FSpec P f (vs ++ lb) rd pre res φ post) (hc : ev ρ fo = .func (.func f) #[] lb.toArray) (ha : evL ρ cargs = vs) (hp : Picked hs pre rest) (hrd : rd (sepL rest)) (k : ∀ y, φ y → K (res y) (sepL (post y ++ rest))) :
    OW r P ρ ⟨d, .call ⟨.value fo, cargs.toArray, tys⟩, ty, ps, af, g⟩ (sepL hs) K := by
  intro a w he hs'
  refine ⟨fun _ _ => trivial, ?_⟩
  rw [semAt_nd _ (by rfl), he]
  have hrun : (execOp (ev ρ) ⟨d, .call ⟨.value fo, cargs.toArray, tys⟩, ty, ps, af, g⟩).run P w = .ok (.enter f (vs ++ lb).toArray) w := by
    simp [execOp, resolve, hc, Deferred.ofValue, invoke, evL_map, ha, enterT_run spec.1]
  rw [hrun]
  refine ⟨FR_depth r, ?_⟩
  have := spec.2 (sepL rest) hrd w (hs'.weak hp)
  refine CallsIn.mono (show CallsIn (FR r) (0 - 1) P f (vs ++ lb).toArray w _ from this) ?_
  rintro e w' ⟨y, rfl, hy, s, hs''⟩
  exact ⟨res y, _, rfl, s, hs''.weak (sepL_append _ _), k y hy⟩
theorem cl {f : FuncId} {vs : List Value} {cargs : List Operand} {tys : Array TypeId} {rd : HP → Prop} {pre hs rest : List HP} {Y : Type} {res : Y → Value} {φ : Y → Prop} {post : Y → List HP}
    (spec : FSpec P f vs rd pre res φ post) (ha : evL ρ cargs = vs) (hp : Picked hs pre rest) (hrd : rd (sepL rest)) (k : ∀ y, φ y → K (res y) (sepL (post y ++ rest))) :
    OW r P ρ ⟨d, .call ⟨.value (.func f), cargs.toArray, tys⟩, ty, ps, af, g⟩ (sepL hs) K :=
  clC (lb := []) (vs := vs) (by simpa using spec) rfl ha hp hrd k
end
end Go.QM
namespace Go.QM
open Go
theorem wi64 {n : Int} (h1 : -9223372036854775808 ≤ n) (h2 : n ≤ 9223372036854775807) : IntKind.i64.wrap n = n := by
  simp only [IntKind.wrap, IntKind.bits, IntKind.signed]
  simp
  omega
theorem beq_dec (a b : Int) : (a == b) = decide (a = b) := by rw [Bool.eq_iff_iff]; simp
section
variable {r : Option Nat} {P : Program} {N : Nat} {ops : Array Oper} {l : List Oper} {Q : Post} {ρ : Env} {ds : List Deferred} {A : HP} {K : Value → HP → Prop}
variable {d : Option Tmp} {ty : TypeId} {ps : String} {af : Array Edge} {g : Option (Nat × Bool)}
variable {t t' : TypeId} {x y : Operand} {k : IntKind} {a b c : Int}
theorem add (hx : ev ρ x = .int k a) (hy : ev ρ y = .int k b) (hw : k.wrap (a + b) = c) : OQ P ρ ⟨d, .binOp .add t x y t', ty, ps, af, g⟩ A (.int k c) :=
  fun _ _ => by simp [execOp, eqGuard, binOp, Op.intArith, hx, hy, hw]
theorem sub (hx : ev ρ x = .int k a) (hy : ev ρ y = .int k b) (hw : k.wrap (a - b) = c) : OQ P ρ ⟨d, .binOp .sub t x y t', ty, ps, af, g⟩ A (.int k c) :=
  fun _ _ => by simp [execOp, eqGuard, binOp, Op.intArith, hx, hy, hw]
theorem mul (hx : ev ρ x = .int k a) (hy : ev ρ y = .int k b) (hw : k.wrap (a * b) = c) : OQ P ρ ⟨d, .binOp .mul t x y t', ty, ps, af, g⟩ A (.int k c) :=
  fun _ _ => by simp [execOp, eqGuard, binOp, Op.intArith, hx, hy, hw]
theorem quo (hx : ev ρ x = .int k a) (hy : ev ρ y = .int k b) (hb : b ≠ 0) (hw : k.wrap (a.tdiv b) = c) : OQ P ρ ⟨d, .binOp .quo t x y t', ty, ps, af, g⟩ A (.int k c) :=
  fun _ _ => by simp [execOp, eqGuard, binOp, Op.intDiv, hx, hy, hw, hb]
theorem rem (hx : ev ρ x = .int k a) (hy : ev ρ y = .int k b) (hb : b ≠ 0) (hw : a.tmod b = c) : OQ P ρ ⟨d, .binOp .rem t x y t', ty, ps, af, g⟩ A (.int k c) :=
  fun _ _ => by simp [execOp, eqGuard, binOp, Op.intDiv, hx, hy, hw, hb]
theorem addI (hx : ev ρ x = .int .i64 a) (hy : ev ρ y = .int .i64 b) (h1 : -9223372036854775808 ≤ a + b) (h2 : a + b ≤ 9223372036854775807) : OQ P ρ ⟨d, .binOp .add t x y t', ty, ps, af, g⟩ A (.int .i64 (a + b)) := add hx hy (wi64 h1 h2)
theorem subI (hx : ev ρ x = .int .i64 a) (hy : ev ρ y = .int .i64 b) (h1 : -9223372036854775808 ≤ a - b) (h2 : a - b ≤ 9223372036854775807) : OQ P ρ ⟨d, .binOp .sub t x y t', ty, ps, af, g⟩ A (.int .i64 (a - b)) := sub hx hy (wi64 h1 h2)
theorem mulI (hx : ev ρ x = .int .i64 a) (hy : ev ρ y = .int .i64 b) (h1 : -9223372036854775808 ≤ a * b) (h2 : a * b ≤ 9223372036854775807) : OQ P ρ ⟨d, .binOp .mul t x y t', ty, ps, af, g⟩ A (.int .i64 (a * b)) := mul hx hy (wi64 h1 h2)
theorem quoI (hx : ev ρ x = .int .i64 a) (hy : ev ρ y = .int .i64 b) (ha : 0 ≤ a) (hb : 0 < b) (h2 : a ≤ 9223372036854775807) : OQ P ρ ⟨d, .binOp .quo t x y t', ty, ps, af, g⟩ A (.int .i64 (a / b)) :=
  quo hx hy (by omega) (by
    rw [Int.tdiv_eq_ediv_of_nonneg ha]
    have h0 : 0 ≤ a / b := Int.ediv_nonneg ha (by omega)
    have h1 : a / b ≤ a := Int.ediv_le_self b ha
    exact wi64 (by omega) (by omega))
theorem lss (hx : ev ρ x = .int k a) (hy : ev ρ y = .int k b) : OQ P ρ ⟨d, .binOp .lss t x y t', ty, ps, af, g⟩ A (.bool (decide (a < b))) :=
  fun _ _ => by simp [execOp, eqGuard, binOp, Op.intCmp, hx, hy]
theorem leq (hx : ev ρ x = .int k a) (hy : ev ρ y = .int k b) : OQ P ρ ⟨d, .binOp .leq t x y t', ty, ps, af, g⟩ A (.bool (decide (a ≤ b))) :=
  fun _ _ => by simp [execOp, eqGuard, binOp, Op.intCmp, hx, hy]
theorem gtr (hx : ev ρ x = .int k a) (hy : ev ρ y = .int k b) : OQ P ρ ⟨d, .binOp .gtr t x y t', ty, ps, af, g⟩ A (.bool (decide (b < a))) :=
  fun _ _ => by simp [execOp, eqGuard, binOp, Op.intCmp, hx, hy]
theorem geq (hx : ev ρ x = .int k a) (hy : ev ρ y = .int k b) : OQ P ρ ⟨d, .binOp .geq t x y t', ty, ps, af, g⟩ A (.bool (decide (b ≤ a))) :=
  fun _ _ => by simp [execOp, eqGuard, binOp, Op.intCmp, hx, hy]
theorem eqI (hx : ev ρ x = .int k a) (hy : ev ρ y = .int k b) : OQ P ρ ⟨d, .binOp .eql t x y t', ty, ps, af, g⟩ A (.bool (decide (a = b))) :=
  fun _ _ => by simp [execOp, eqGuard, binOp, Op.intCmp, hx, hy, beq_dec]
theorem neI (hx : ev ρ x = .int k a) (hy : ev ρ y = .int k b) : OQ P ρ ⟨d, .binOp .neq t x y t', ty, ps, af, g⟩ A (.bool (decide (a ≠ b))) :=
  fun _ _ => by
    have : (a != b) = decide (a ≠ b) := by rw [Bool.eq_iff_iff]; simp
    simp [execOp, eqGuard, binOp, Op.intCmp, hx, hy, this]
theorem notD {p : Prop} [Decidable p] (hx : ev ρ x = .bool (decide p)) : OQ P ρ ⟨d, .unOp .not t x, ty, ps, af, g⟩ A (.bool (decide (¬ p))) :=
  fun _ _ => by simp [execOp, Op.unary, hx]
theorem notB {b : Bool} (hx : ev ρ x = .bool b) : OQ P ρ ⟨d, .unOp .not t x, ty, ps, af, g⟩ A (.bool (!b)) :=
  fun _ _ => by simp [execOp, Op.unary, hx]
def intT (P : Program) (t : TypeId) (k : IntKind) : Bool := match P.underlying t with
  | some (.int k') => decide (k' = k)
  | _ => false
theorem intT_run {t : TypeId} {k : IntKind} (h : intT P t k = true) (w : World) : (underlying t).run P w = .ok (.int k) w := by
  unfold intT at h
  cases hu : P.underlying t with
  | none => rw [hu] at h; cases h
  | some u => rw [hu] at h; cases u <;> first | (cases h; done) | (have := of_decide_eq_true h; subst this; simp [underlying, hu])
theorem conv (k k' : IntKind) (h1 : intT P t k = true) (h2 : intT P t' k' = true) (hx : ev ρ x = .int k a) (hw : k'.wrap a = c) : OQ P ρ ⟨d, .convert t t' x, ty, ps, af, g⟩ A (.int k' c) :=
  fun w _ => by simp [execOp, Go.convert, intT_run h1, intT_run h2, hx, Conv.intToInt, hw]
def ptrT (P : Program) (t : TypeId) : Bool := match P.underlying t with
  | some (.pointer _) => true
  | _ => false
theorem ptrT_run {t : TypeId} (h : ptrT P t = true) : ∃ e, P.underlying t = some (.pointer e) := by
  unfold ptrT at h
  cases hu : P.underlying t with
  | none => rw [hu] at h; cases h
  | some u => rw [hu] at h; cases u <;> first | (cases h; done) | exact ⟨_, rfl⟩
theorem equal_nil {t : TypeId} (h : ptrT P t = true) (p : Option Addr) (w : World) : (Op.equal t (.pointer p) (.pointer none)).run P w = .ok p.isNone w := by
  obtain ⟨e, he⟩ := ptrT_run h
  have key : ∀ d, (Op.equalIn (d + 1) t (.pointer p) (.pointer none)).run P w = .ok p.isNone w := fun d => by
    cases p <;> simp [Op.equalIn, underlying, he]
  exact key 9999
theorem eqNil {p : Option Addr} (ht : ptrT P t = true) (hx : ev ρ x = .pointer p) (hy : ev ρ y = .pointer none) : OQ P ρ ⟨d, .binOp .eql t x y t', ty, ps, af, g⟩ A (.bool p.isNone) := by
  intro w _
  unfold execOp
  simp only [hx, hy, eqGuard, binOp, Sem.run_bind, Sem.run_pure, Result.andThen_ok, equal_nil ht]
  rfl
theorem neNil {p : Option Addr} (ht : ptrT P t = true) (hx : ev ρ x = .pointer p) (hy : ev ρ y = .pointer none) : OQ P ρ ⟨d, .binOp .neq t x y t', ty, ps, af, g⟩ A (.bool p.isSome) := by
  intro w _
  unfold execOp
  simp only [hx, hy, eqGuard, binOp, Sem.run_bind, Sem.run_pure, Result.andThen_ok, equal_nil ht]
  cases p <;> rfl
def slcT (P : Program) (t : TypeId) (E sz : Nat) : Bool := match P.underlying t with
  | some (.slice e) => Nat.beq e E && szT P e sz
  | _ => false
theorem slcT_run {t E sz : Nat} (h : slcT P t E sz = true) (w : World) : (underlying t).run P w = .ok (.slice E) w ∧ (Go.sizeOf E).run P w = .ok sz w := by
  unfold slcT at h
  cases hu : P.underlying t with
  | none => rw [hu] at h; cases h
  | some u =>
    rw [hu] at h
    cases u <;> first | (cases h; done) | (simp only [Bool.and_eq_true] at h; have := Nat.eq_of_beq_eq_true h.1; subst this; exact ⟨by simp [underlying, hu], szT_run h.2 w⟩)
def pa (ad : Option Addr) (o : Nat) : Value := .pointer (ad.map fun p => ⟨p.block, p.off + o, none⟩)
theorem len (E sz : Nat) {ad : Option Addr} {n cap : Nat} (ht : slcT P t E sz = true) (hx : ev ρ x = .slice ad n cap) :
    OQ P ρ ⟨d, .call ⟨.builtin .len, #[x], #[t]⟩, ty, ps, af, g⟩ A (.int .i64 n) :=
  fun w _ => by simp [execOp, resolve, invoke, builtin, Builtin.len_, hx, slcT_run ht, goInt]
def sliceOff (ad : Option Addr) (cap j sz : Nat) : Option Addr := if cap = j then ad else ad.map (·.add (j * sz))
theorem slF (E sz : Nat) {ad : Option Addr} {n cap : Nat} {j : Int} (ht : slcT P t E sz = true) (hx : ev ρ x = .slice ad n cap) (hy : ev ρ y = .int .i64 j) (h0 : 0 ≤ j) (h1 : j ≤ n) :
    OQ P ρ ⟨d, .slice t x (some y) none none, ty, ps, af, g⟩ A (.slice (sliceOff ad cap j.toNat sz) (n - j.toNat) (cap - j.toNat)) :=
  fun w _ => by simp [execOp, Instr.sliceAt, Instr.slice, Instr.sliceBounds, Instr.sliceBound, hx, hy, asIntOf, slcT_run ht, h0, h1, sliceOff]
theorem slT (E sz : Nat) {ad : Option Addr} {n cap : Nat} {j : Int} (ht : slcT P t E sz = true) (hx : ev ρ x = .slice ad n cap) (hy : ev ρ y = .int .i64 j) (h0 : 0 ≤ j) (h1 : j ≤ cap) :
    OQ P ρ ⟨d, .slice t x none (some y) none, ty, ps, af, g⟩ A (.slice ad j.toNat cap) :=
  fun w _ => by
    have : (if cap = 0 then ad else Option.map (fun x => x.add 0) ad) = ad := by split <;> cases ad <;> simp [Addr.add]
    simp [execOp, Instr.sliceAt, Instr.slice, Instr.sliceBounds, Instr.sliceBound, hx, hy, asIntOf, slcT_run ht, h0, h1, this]
end
end Go.QM
