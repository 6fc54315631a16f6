/-
  A scope with a label to which the run jumps back; maps by pairs of numbers. Nothing of a program stands here.
-/
import Derived.Test.YtdfmfhcjnjfjbaaQLibN
namespace Go.QM
open Go

/-! ### Jumps back -/
section
variable {P : Program} {b : Frame} {a : Act} {k : List Item} {cs : List Frame} {w : World}
theorem stepR_scope {c : Code} : step P (lone (b.atR a (.code (.scope c) :: k)) cs w) = .next (lone (b.atR a (.code c :: .inScope c :: k)) cs w) :=
  step_lone_go (by simp [stepG, stepG.exec, Frame.atR])
theorem stepR_inScope {c : Code} : step P (lone (b.atR a (.inScope c :: k)) cs w) = .next (lone (b.atR a k) cs w) :=
  step_lone_go (by simp [stepG, stepG.exec, Frame.atR])
end
def JmpA (l : Nat) (J : Act → World → Prop) (Q : Exit → Act → World → Prop) : Exit → Act → World → Prop
  | .goto l', a, w => l' = l ∧ J a w
  | e, a, w => Q e a w
theorem wpIn_scopeG {F : Fence} {n : Nat} {P : Program} {Q : Exit → Act → World → Prop} {a : Act} {w : World} {c rest : Code} (l : Nat) (J : Nat → Act → World → Prop) (hf : findLabel c l = some rest)
    (first : c.wpIn F n P (JmpA l (fun a' w' => ∃ m, J m a' w') Q) a w)
    (pass : ∀ m a w, J m a w → rest.wpIn F n P (JmpA l (fun a' w' => ∃ m', m' < m ∧ J m' a' w') Q) a w) : (Code.scope c).wpIn F n P Q a w := by
  intro b k cs hro hb hr
  have hg : gotoIn l (.inScope c :: k) = some (.code rest :: .inScope c :: k) := by simp [gotoIn, hf]
  have key : ∀ j a w, J j a w →
      ∃ e a' w', Q e a' w' ∧ ArrivesIn (Machine.fenced P F) P (lone (b.atR a (.code rest :: .inScope c :: k)) cs w) b k cs e a' w' := by
    intro j
    induction j using Nat.strongRecOn with
    | _ j ih =>
      intro a w hJ
      obtain ⟨e, a₁, w₁, hq, harr⟩ := pass j a w hJ b (.inScope c :: k) cs hro hb hr
      cases e with
      | normal => exact ⟨.normal, a₁, w₁, hq, StepsIn.trans harr (.one (fenced_calm hb hr rfl) stepR_inScope)⟩
      | exit id => exact ⟨_, a₁, w₁, hq, ⟨fun k' hk => harr.1 k' (by simp [exitTo, hk]), fun h1 h2 => harr.2 h1 (by simp [exitTo, h2])⟩⟩
      | goto l' =>
        obtain ⟨rfl, m', hlt, hJ'⟩ := hq
        obtain ⟨e₂, a₂, w₂, hq₂, harr₂⟩ := ih m' hlt a₁ w₁ hJ'
        exact ⟨e₂, a₂, w₂, hq₂, .of_steps (harr.1 _ hg) harr₂⟩
      | ret => exact ⟨_, a₁, w₁, hq, harr⟩
      | panic ch => exact ⟨_, a₁, w₁, hq, harr⟩
      | outgrown => exact ⟨_, a₁, w₁, hq, harr⟩
  have h0 : StepsIn (Machine.fenced P F) P (lone (b.atR a (.code (.scope c) :: k)) cs w) (lone (b.atR a (.code c :: .inScope c :: k)) cs w) := .one (fenced_calm hb hr rfl) stepR_scope
  obtain ⟨e, a₁, w₁, hq, harr⟩ := first b (.inScope c :: k) cs hro hb hr
  cases e with
  | normal => exact ⟨.normal, a₁, w₁, hq, .of_steps h0 (StepsIn.trans harr (.one (fenced_calm hb hr rfl) stepR_inScope))⟩
  | exit id => exact ⟨_, a₁, w₁, hq, .of_steps h0 ⟨fun k' hk => harr.1 k' (by simp [exitTo, hk]), fun h1 h2 => harr.2 h1 (by simp [exitTo, h2])⟩⟩
  | goto l' =>
    obtain ⟨rfl, m, hJ'⟩ := hq
    obtain ⟨e₂, a₂, w₂, hq₂, harr₂⟩ := key _ a₁ w₁ hJ'
    exact ⟨e₂, a₂, w₂, hq₂, .of_steps h0 (.of_steps (harr.1 _ hg) harr₂)⟩
  | ret => exact ⟨_, a₁, w₁, hq, .of_steps h0 harr⟩
  | panic ch => exact ⟨_, a₁, w₁, hq, .of_steps h0 harr⟩
  | outgrown => exact ⟨_, a₁, w₁, hq, .of_steps h0 harr⟩
def Jmp (l : Nat) (J : Env → List Deferred → HP → Prop) (Q : Post) : Post
  | .goto l', ρ, ds, A => l' = l ∧ J ρ ds A
  | e, ρ, ds, A => Q e ρ ds A
section
variable {r : Option Nat} {P : Program} {N : Nat} {Q : Post} {ρ : Env} {ds : List Deferred} {A : HP}
/-- A scope: a family of symbolic states at its label. -/
theorem TC.scope {ι : Type} {c rest : Code} (l : Nat) (inv : ι → Prop) (L : ι → List (Nat × Value)) (B : ι → HP) (μ : ι → Nat) (hf : findLabel c l = some (.seq .skip rest))
    (pass : ∀ i, inv i → ∀ ρ', TC r P N rest (Jmp l (fun ρ1 ds1 A1 => ds1 = ds ∧ ∃ j, inv j ∧ μ j < μ i ∧ holdsL ρ1 (L j) ∧ ent A1 (B j)) Q) (updL ρ' (L i)) ds (B i))
    (first : (∀ i, inv i → ∀ ρ', TC r P N rest (Jmp l (fun ρ1 ds1 A1 => ds1 = ds ∧ ∃ j, inv j ∧ holdsL ρ1 (L j) ∧ ent A1 (B j)) Q) (updL ρ' (L i)) ds (B i)) →
      TC r P N c (Jmp l (fun ρ1 ds1 A1 => ds1 = ds ∧ ∃ j, inv j ∧ holdsL ρ1 (L j) ∧ ent A1 (B j)) Q) ρ ds A) : TC r P N (.scope c) Q ρ ds A := by
  intro a w hr hs
  refine wpIn_scopeG l (fun m a' w' => Same w w' ∧ ∃ i ρ', inv i ∧ Rep N a' (updL ρ' (L i)) ds ∧ sat w' (B i) ∧ μ i = m) hf ?_ ?_
  · refine wpIn_mono (first (fun i hi ρ' => (pass i hi ρ').mono fun e ρ1 ds1 A1 h => ?_) a w hr hs) ?_
    · cases e with
      | goto l' => obtain ⟨h1, h2, j, h3, _, h5, h6⟩ := h; exact ⟨h1, h2, j, h3, h5, h6⟩
      | _ => exact h
    · rintro e a' w' ⟨s, ρ'', ds', A', x1, x2, x3⟩
      cases e with
      | goto l' =>
        obtain ⟨rfl, rfl, j, hj, hl', he'⟩ := x3
        exact ⟨rfl, μ j, s, j, ρ'', hj, by rw [updL_holds hl']; exact x1, x2.weak he', rfl⟩
      | _ => exact ⟨s, ρ'', ds', A', x1, x2, x3⟩
  · rintro m a1 w1 ⟨s1, i, ρ', hi, hr1, hs1, rfl⟩
    refine wpIn_seq (wpIn_skip ?_)
    refine wpIn_mono (pass i hi ρ' a1 w1 hr1 hs1) ?_
    rintro e a' w' ⟨s, ρ'', ds', A', x1, x2, x3⟩
    cases e with
    | goto l' =>
      obtain ⟨rfl, rfl, j, hj, hlt, hl', he'⟩ := x3
      exact ⟨rfl, μ j, hlt, s1.trans s, j, ρ'', hj, by rw [updL_holds hl']; exact x1, x2.weak he', rfl⟩
    | _ => exact ⟨s1.trans s, ρ'', ds', A', x1, x2, x3⟩
theorem TC.enter {ι : Type} {c : Code} {inv : ι → Prop} {L : ι → List (Nat × Value)} {B : ι → HP} (h : ∀ i, inv i → ∀ ρ', TC r P N c Q (updL ρ' (L i)) ds (B i)) (i0 : ι) (h0 : inv i0) (hl : holdsL ρ (L i0)) (he : ent A (B i0)) :
    TC r P N c Q ρ ds A := by
  have := h i0 h0 ρ
  rw [updL_holds hl] at this
  exact this.weak he
variable {K : Env → List Deferred → HP → Prop} {i j : Nat}
theorem jn (h : Q .normal ρ ds A) : Jmp i K Q .normal ρ ds A := h
theorem jx (h : Q (.exit j) ρ ds A) : Jmp i K Q (.exit j) ρ ds A := h
theorem jr (h : Q .ret ρ ds A) : Jmp i K Q .ret ρ ds A := h
theorem jg (h : K ρ ds A) : Jmp i K Q (.goto i) ρ ds A := ⟨rfl, h⟩
theorem gt (h : Q (.goto j) ρ ds A) : Thn K Q (.goto j) ρ ds A := h
theorem gb (h : Q (.goto j) ρ ds A) : Blk i Q (.goto j) ρ ds A := h
end

/-! ### Two pieces go back into a row -/
theorem ent_closeB2 {α : Type} {f g : α → HP} (i j k : Nat) {hs r1 r2 r3 gs : List HP} {L M : List α} {A B : HP} (a b : α) (h1 : take1 i hs = some (A, r1)) (h2 : take1 j r1 = some (B, r2)) (h3 : take1 k r2 = some (bigS f L, r3)) (hA : A = g a) (hB : B = g b)
    (hc : ∀ x ∈ L, f x = g x) (hp : (a :: b :: L).Perm M) (kk : ent (sepL r3) (sepL gs)) : ent (sepL hs) (sepL (bigS g M :: gs)) := by
  subst hA; subst hB
  rw [bigS_congr hc] at h3
  refine (take1_ent h1).trans ((sep_mono (ent.refl _) (take1_ent h2)).trans ?_)
  refine (sep_mono (ent.refl _) (sep_mono (ent.refl _) (take1_ent h3))).trans ?_
  refine (sep_mono (ent.refl _) sep_assoc').trans (sep_assoc'.trans (sep_mono ?_ kk))
  exact bigS_perm (f := g) hp

/-! ### Keys that are pairs of numbers -/
def enc2 (a : Int × Int) : Value := .agg (ints [a.1, a.2]).toArray
theorem findAsking2 {P : Program} {kt : TypeId} (h : eqST P kt 2 = true) (a : Int × Int) (w : World) : ∀ (m : List ((Int × Int) × Value)) (es : List MapEntry) (i : Nat), es.map (fun e => (e.key, e.val)) = m.map (fun t => (enc2 t.1, t.2)) →
    (Instr.findAsking kt (enc2 a) es i).run P w = .ok (findM a m i) w
  | [], es, i, he => by cases es with | nil => rfl | cons e es => simp at he
  | t :: m, es, i, he => by
    cases es with
    | nil => simp at he
    | cons e es =>
      simp only [List.map_cons, List.cons.injEq, Prod.mk.injEq] at he
      obtain ⟨⟨h1, h2⟩, h3⟩ := he
      have heq := (eqST_run h [a.1, a.2] [t.1.1, t.1.2] rfl rfl w).1
      have h4 : (Op.equal kt (enc2 a) (enc2 t.1)).run P w = .ok (decide (a = t.1)) w := by
        refine Eq.trans heq (congrArg (fun x => Result.ok x w) ?_)
        rw [decide_eq_decide]
        obtain ⟨a1, a2⟩ := a
        obtain ⟨⟨b1, b2⟩, v⟩ := t
        simp
      simp only [Instr.findAsking, h1, Sem.run_bind, h4, Result.andThen_ok, findM]
      by_cases hc : a = t.1
      · rw [if_pos (by simpa using hc), if_pos hc, Sem.run_pure, h2]
      · rw [if_neg (by simpa using hc), if_neg hc]
        exact findAsking2 h a w m es (i + 1) h3
theorem checkFields {P : Program} {n : Nat} (emp : Bool) (xs : List Int) (hx : xs.length = n) (w : World) : ∀ (fs : List Field) (m : Nat), m ≤ n → eqI64T P n fs m = true →
    (forIn (m := Sem) fs PUnit.unit fun f _ => do
        if f.name ≠ "_" then Instr.checkKey emp 9999 f.type (← part f.type (ints xs).toArray f.offset)
        pure (ForInStep.yield PUnit.unit)).run P w = .ok PUnit.unit w
  | [], m, _, _ => by simp
  | f :: fs, m, hm, h => by
    simp only [eqI64T, Bool.and_eq_true] at h
    obtain ⟨⟨⟨h1, h2⟩, h3⟩, h4⟩ := h
    have h2 := Nat.eq_of_beq_eq_true h2
    have hu : P.underlying f.type = some (.int .i64) := by
      cases hu : P.underlying f.type with
      | none => rw [hu] at h3; cases h3
      | some u => rw [hu] at h3; cases u <;> first | (cases h3; done) | (rename_i k; cases k <;> first | (cases h3; done) | rfl)
    have hmn : m < n := by
      rcases Nat.lt_or_ge m n with h | h
      · exact h
      · exfalso
        have hgt : ∀ (fs : List Field) (m : Nat), n < m → eqI64T P n fs m = true → False := by
          intro fs
          induction fs with
          | nil => intro m hm h; have := Nat.eq_of_beq_eq_true h; omega
          | cons f fs ih => intro m hm h; simp only [eqI64T, Bool.and_eq_true] at h; exact ih _ (by omega) h.2
        exact hgt fs (m + 1) (by omega) h4
    have p1 : (part f.type (ints xs).toArray f.offset).run P w = .ok (.int .i64 xs[m]) w := by
      have ha : oneT P f.type = true := by simp [oneT, hu]
      simp [part, isAgg_one ha, h2, ints, show m < xs.length by omega]
    have p2 : (Instr.checkKey emp 9999 f.type (.int .i64 xs[m])).run P w = .ok () w := by
      rw [show (9999 : Nat) = 9998 + 1 from rfl]
      unfold Instr.checkKey
      simp [underlying, hu]
    have hn : f.name ≠ "_" := by simpa using h1
    have ih := checkFields emp xs hx w fs (m + 1) (by omega) h4
    simp only [List.forIn_cons, Sem.run_bind, hn, ne_eq, not_false_eq_true, if_true, Result.andThen_ok, p1, p2, Sem.run_pure] at ih ⊢
    exact ih
theorem KL.pair {P : Program} {kt : TypeId} (h : eqST P kt 2 = true) : KL P kt enc2 where
  chk := fun emp a w => by
    have h' := h
    unfold eqST at h'
    cases hu : P.underlying kt with
    | none => rw [hu] at h'; cases h'
    | some u =>
      rw [hu] at h'
      cases u with
      | struct fs =>
        simp only [Bool.and_eq_true, Bool.not_eq_true'] at h'
        rw [show (10000 : Nat) = 9999 + 1 from rfl, Instr.checkKey]
        simp only [Sem.run_bind, underlying, run_program, Result.andThen_ok, hu, enc2]
        have := checkFields emp [a.1, a.2] rfl w fs.toList 0 (Nat.zero_le _) h'.1.1
        rw [Array.forIn_toList] at this
        simpa using this
      | _ => cases h'
  find := fun a m es w he => by
    have hs : ∃ fs, P.underlying kt = some (.struct fs) := by
      unfold eqST at h
      cases hu : P.underlying kt with
      | none => rw [hu] at h; cases h
      | some u =>
        rw [hu] at h
        cases u with
        | struct fs => exact ⟨fs, rfl⟩
        | _ => cases h
    obtain ⟨fs, hu⟩ := hs
    have hn : ∀ (es : List MapEntry), es.map (fun e => (e.key, e.val)) = m.map (fun t => (enc2 t.1, t.2)) → Instr.findNow (.struct fs) (enc2 a) es 0 = none ∨ es = [] := by
      intro es he
      cases es with
      | nil => exact .inr rfl
      | cons e es => left; simp [Instr.findNow, enc2, Instr.sameNow]
    rcases hn es he with h1 | h1
    · simp [Instr.findKey, underlying, hu, h1, findAsking2 h a w m es 0 he]
    · subst h1
      have : m = [] := by cases m with | nil => rfl | cons t m => simp at he
      subst this
      simp [Instr.findKey, underlying, hu, Instr.findNow, findM]
  same := fun a => by
    rw [show (10000 : Nat) = 9999 + 1 from rfl]
    simp [enc2, ints, Instr.sameBits]
end Go.QM
