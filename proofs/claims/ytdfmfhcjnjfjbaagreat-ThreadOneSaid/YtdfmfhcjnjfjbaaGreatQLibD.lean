/-
  A region that draws its order, over symbolic states: one walk in a fixed order serves every order. Nothing of a program stands here.
-/
import Derived.Test.YtdfmfhcjnjfjbaaGreatQLibB
namespace Go.QM
open Go

/-! ### Operations that do not look at the heap -/
def Pu {α : Type} (P : Program) (s : Sem α) : Prop := (∃ r, ∀ w, s.run P w = .ok r w) ∨ ∀ w r w', s.run P w ≠ .ok r w'
theorem Pu.pure {α : Type} {P : Program} (r : α) : Pu P (pure r : Sem α) := .inl ⟨r, fun w => by simp⟩
theorem Pu.bind {α β : Type} {P : Program} {s : Sem α} {f : α → Sem β} (hs : Pu P s) (hf : ∀ a, Pu P (f a)) : Pu P (s >>= f) := by
  rcases hs with ⟨r, hr⟩ | hs
  · rcases hf r with ⟨q, hq⟩ | hn
    · exact .inl ⟨q, fun w => by simp [hr, hq]⟩
    · exact .inr fun w q w' => by simp [hr]; exact hn w q w'
  · refine .inr fun w q w' h => ?_
    rw [Sem.run_bind] at h
    cases hw : s.run P w with
    | ok r w1 => exact hs w r w1 hw
    | halt x w1 => rw [hw] at h; simp [Result.andThen] at h
theorem Pu.stuck {α : Type} {P : Program} (why : String) : Pu P (stuck why : Sem α) := .inr fun w r w' h => by simp at h
theorem Pu.uns {α : Type} {P : Program} (u : Unsupported) : Pu P (unsupported u : Sem α) := .inr fun w r w' h => by simp at h
theorem never_bounds {α : Type} {P : Program} (x y : Int) (s : Bool) (c : BoundsCode) (w : World) (r : α) (w' : World) : (runtimePanic (.bounds x y s c) : Sem α).run P w ≠ .ok r w' := by
  simp [runtimePanic]
theorem never_bind {α β : Type} {P : Program} {s : Sem α} {f : α → Sem β} (hf : ∀ a w r w', (f a).run P w ≠ .ok r w') (w : World) (r : β) (w' : World) : (s >>= f).run P w ≠ .ok r w' := by
  intro h
  rw [Sem.run_bind] at h
  cases hs : s.run P w with
  | ok b w1 => rw [hs] at h; exact hf b w1 r w' h
  | halt x w1 => rw [hs] at h; simp [Result.andThen] at h
theorem Pu.bounds {α : Type} {P : Program} (k : IntKind) (x y : Int) (c : BoundsCode) : Pu P (boundsPanic k x y c : Sem α) := by
  refine .inr fun w r w' h => ?_
  unfold boundsPanic at h
  dsimp only at h
  split at h
  · exact never_bind (fun a w r w' => never_bounds _ _ _ _ _ _ _) w r w' h
  · exact never_bind (fun a w r w' => never_bounds _ _ _ _ _ _ _) w r w' h
theorem Pu.int {P : Program} (v : Value) : Pu P (asIntOf v) := by
  unfold asIntOf
  split
  · exact .pure _
  · exact .uns _
  · exact .stuck _
theorem Pu.und {P : Program} (t : TypeId) : Pu P (underlying t) := by
  unfold underlying
  cases h : P.underlying t with
  | some d => exact .inl ⟨d, fun w => by simp [h]⟩
  | none => exact .inr fun w r w' => by simp [h]
theorem Pu.size {P : Program} (t : TypeId) : Pu P (sizeOf t) := by
  unfold sizeOf typeInfo
  cases h : P.info? t with
  | some d => exact .inl ⟨d.size, fun w => by simp [h]⟩
  | none => exact .inr fun w r w' => by simp [h]
theorem Pu.ixEnd {P : Program} {why : String} (t : TypeId) (k : IntKind) (i : Int) (base : Option Addr) (len : Nat) (elem : TypeId) (tiny : TypeDesc → Bool) : Pu P (do
    let d ← underlying t
    match base with
    | some a => if 0 ≤ i ∧ i < len then (do let z ← sizeOf elem; Pure.pure (Value.pointer (some (a.add (i.toNat * z))))) else if tiny d = true then unsupported (Unsupported.noEntry why) else boundsPanic k i len .index
    | none => boundsPanic k i 0 .index : Sem Value) := by
  refine .bind (.und _) fun u2 => ?_
  cases base with
  | some a =>
    dsimp only
    split
    · exact .bind (.size _) fun _ => .pure _
    · split
      · exact .uns _
      · exact .bounds _ _ _ _
  | none => exact .bounds _ _ _ _
theorem Pu.index {P : Program} (t : TypeId) (x y : Value) : Pu P (Instr.indexAt t x y) := by
  unfold Instr.indexAt
  refine .bind (.int _) fun ki => ?_
  refine .bind (.und _) fun u => ?_
  dsimp only
  split
  · refine .bind ?_ fun _ => .bind (.pure _) fun ble => ?_
    · unfold Instr.sureAddr
      split
      · exact .pure _
      · exact .stuck _
    · exact Pu.ixEnd t ki.1 ki.2 _ _ _ (fun d => decide (ble.2.1 ≤ 1) && match d with | .array _ _ => true | _ => false)
  · exact .bind (.pure _) fun ble => Pu.ixEnd t ki.1 ki.2 _ _ _ (fun d => decide (ble.2.1 ≤ 1) && match d with | .array _ _ => true | _ => false)
  · exact .bind (.stuck _) fun ble => Pu.ixEnd t ki.1 ki.2 _ _ _ (fun d => decide (ble.2.1 ≤ 1) && match d with | .array _ _ => true | _ => false)
def hfree : Op → Bool
  | .move _ | .assign _ | .indexAddr .. => true
  | _ => false
theorem hfree_run {P : Program} {e : Operand → Value} {o : Oper} (h : hfree o.op = true) {v : Value} {w : World} (hr : (execOp e o).run P w = .ok (.value v) w) (w' : World) : (execOp e o).run P w' = .ok (.value v) w' := by
  obtain ⟨d, op, ty, ps, af, g⟩ := o
  cases op <;> first | (cases h; done) | skip
  case move x => simp [execOp] at hr ⊢; exact hr
  case assign x => simp [execOp] at hr ⊢; exact hr
  case indexAddr t x y =>
    have hp : Pu P (Instr.indexAt t (e x) (e y) >>= fun a => (Pure.pure (Next.value a) : Sem Next)) := .bind (.index _ _ _) fun _ => .pure _
    rcases hp with ⟨r, h1⟩ | h1
    · have h2 := (h1 w).symm.trans hr
      cases h2
      exact h1 w'
    · exact absurd hr (h1 w _ w)
def hfr (ops : Array Oper) (i : Nat) : Bool := match ops[i]? with
  | some o => hfree o.op
  | none => false
section
variable {F : Fence} {n : Nat} {P : Program} {ops : Array Oper} {Q : Exit → Act → World → Prop} {I : World → Prop} {T : List Nat}

/-- Every order; behind each operation that is not of T the invariant holds. -/
def wpAnyI (F : Fence) (n : Nat) (P : Program) (ops : Array Oper) (Q : Exit → Act → World → Prop) (I : World → Prop) (T : List Nat) : Nat → Array Bool → Act → World → Prop
  | 0, listed, a, w => Region.ready .any ops listed = [] ∧ Q .normal a w
  | fuel + 1, listed, a, w =>
    (Region.ready .any ops listed = [] → Q .normal a w) ∧
    ∀ i ∈ Region.ready .any ops listed, wpOpIn F n P ops Q i (fun a' w' => (i ∉ T → I w → I w') ∧ wpAnyI F n P ops Q I T fuel (listed.setIfInBounds i true) a' w') a w

theorem wpAnyIn_of_I : ∀ (fuel : Nat) (listed : Array Bool) (a : Act) (w : World), wpAnyI F n P ops Q I T fuel listed a w → wpAnyIn F n P .any ops Q fuel listed a w
  | 0, _, _, _, h => h
  | fuel + 1, _, _, _, h => ⟨h.1, fun i hi => wpOpIn_mono (fun a' w' h' => wpAnyIn_of_I fuel _ a' w' h'.2) (h.2 i hi)⟩

/-- What operation i may come behind, some steps back. -/
def anc (ops : Array Oper) : Nat → Nat → Nat → Bool
  | 0, _, _ => false
  | f + 1, j, i => match ops[j]? with
    | some o => o.after.any (fun e => Region.binds .any e && e.on == i) || o.after.any (fun e => Region.binds .any e && anc ops f e.on i)
    | none => false
def Closed (ops : Array Oper) (listed : Array Bool) : Prop := ∀ j o, ops[j]? = some o → listed.getD j true = true → ∀ e ∈ o.after, Region.binds .any e = true → listed.getD e.on false = true
theorem anc_listed {listed : Array Bool} (hc : Closed ops listed) : ∀ (f j i : Nat), anc ops f j i = true → (∀ o, ops[j]? = some o → ∀ e ∈ o.after, Region.binds .any e = true → listed.getD e.on false = true) → listed.getD i false = true
  | 0, _, _, h, _ => by simp [anc] at h
  | f + 1, j, i, h, hd => by
    simp only [anc] at h
    cases ho : ops[j]? with
    | none => rw [ho] at h; cases h
    | some o =>
      rw [ho] at h
      simp only [Bool.or_eq_true] at h
      rcases h with h | h
      · obtain ⟨e, he, hb⟩ := Array.any_eq_true'.1 h
        simp only [Bool.and_eq_true, beq_iff_eq] at hb
        have := hd o ho e he hb.1
        rwa [hb.2] at this
      · obtain ⟨e, he, hb⟩ := Array.any_eq_true'.1 h
        simp only [Bool.and_eq_true] at hb
        have h1 := hd o ho e he hb.1
        refine anc_listed hc f e.on i hb.2 (fun o' ho' e' he' hb' => hc e.on o' ho' ?_ e' he' hb')
        have hlt : e.on < listed.size := by
          rcases Nat.lt_or_ge e.on listed.size with h' | h'
          · exact h'
          · simp [Array.getElem?_eq_none h'] at h1
        simp [hlt] at h1 ⊢
        exact h1
theorem Closed.set {listed : Array Bool} (hc : Closed ops listed) {i : Nat} (hr : i ∈ Region.ready .any ops listed) : Closed ops (listed.setIfInBounds i true) := by
  intro j o ho hj e he hb
  obtain ⟨_, oi, hoi, hall⟩ := mem_ready.1 hr
  by_cases hji : i = j
  · subst hji
    rw [hoi] at ho; cases ho
    exact getD_set_true (hall e he hb)
  · rw [getD_set_ne true hji] at hj
    exact getD_set_true (hc j o ho hj e he hb)
theorem ready_not_behind {listed : Array Bool} (hc : Closed ops listed) {i j : Nat} (hi : listed.getD i true = false) (hj : j ∈ Region.ready .any ops listed) (h : anc ops 9 j i = true) : False := by
  obtain ⟨_, o, ho, hall⟩ := mem_ready.1 hj
  have := anc_listed hc 9 j i h (fun o' ho' e he hb => by rw [ho] at ho'; cases ho'; exact hall e he hb)
  rcases Nat.lt_or_ge i listed.size with h' | h'
  · simp [h'] at this hi; rw [this] at hi; cases hi
  · simp [Array.getElem?_eq_none h'] at this

/-- In every world of the invariant the operation yields v and does nothing else. -/
def YieldsI (P : Program) (ops : Array Oper) (I : World → Prop) (o : Oper) (v : Value) (a : Act) : Prop :=
  notDefer o.op = true ∧ ((Region.wanted o (yielded ops a.tmps) = true ∧ ∀ w, I w → (execOp a.eval o).run P w = .ok (.value v) w) ∨
  (Region.wanted o (yielded ops a.tmps) = false ∧ v = undef))

theorem YieldsI.op (hF : ∀ f, F.fn f) {i : Nat} {o : Oper} {v : Value} {a : Act} (hi : ops[i]? = some o) (hy : YieldsI P ops I o v a)
    {K : Act → World → Prop} {w : World} (hS : I w) (h : K (a.put o.dst v) w) : wpOpIn F n P ops Q i K a w := by
  unfold Go.wpOpIn
  simp only [hi]
  obtain ⟨hd, hy⟩ := hy
  rcases hy with ⟨hw, hv⟩ | ⟨hw, rfl⟩
  · simp only [hw, if_true, Oper.wpIn, semAt_nd _ hd, hv w hS, Oper.uponIn]; exact ⟨fun f _ => hF f, h⟩
  · simp only [hw, Bool.false_eq_true, if_false]; exact ⟨fun f _ => hF f, h⟩
theorem YieldsI.of_same {o : Oper} {v : Value} {a a' : Act} (hy : YieldsI P ops I o v a) (he : execOp a'.eval o = execOp a.eval o)
    (hw : Region.wanted o (yielded ops a'.tmps) = Region.wanted o (yielded ops a.tmps)) : YieldsI P ops I o v a' := by
  unfold YieldsI at *
  rw [he, hw]
  exact hy

theorem YieldsI.free {o : Oper} {v : Value} {a : Act} (hy : YieldsI P ops I o v a) {w0 : World} (h0 : I w0) (hf : hfree o.op = true) : YieldsI P ops (fun _ => True) o v a :=
  ⟨hy.1, hy.2.imp (fun h => ⟨h.1, fun w _ => hfree_run hf (h.2 w0 h0) w⟩) (fun h => h)⟩
theorem wpOpIn_putI (hF : ∀ f, F.fn f) {j : Nat} {oi oj : Oper} {v : Value} (hj : ops[j]? = some oj) (hap : oi.apart ops oj = true) (hdj : notDefer oj.op = true)
    (hsi : ∀ cs b, oi.op ≠ .select cs b) (hsj : ∀ cs b, oj.op ≠ .select cs b)
    (hQ : ∀ c a w, Q (.panic c) (a.put oi.dst v) w → Q (.panic c) a w) {K : Act → World → Prop} {a : Act} {w : World}
    (hy : YieldsI P ops I oi v a) (h : wpOpIn F n P ops Q j K (a.put oi.dst v) w) :
    wpOpIn F n P ops Q j (fun a' w' => YieldsI P ops I oi v a' ∧ K (a'.put oi.dst v) w') a w := by
  obtain ⟨h1, h2, h3⟩ := Oper.apart_spec hap
  have keep : ∀ (a : Act), YieldsI P ops I oi v a → ∀ u, YieldsI P ops I oi v (a.put oj.dst u) := fun a hy u =>
    hy.of_same (execOp_put oi hsi a oj.dst u h3) (wanted_put oi a oj.dst u h3)
  have keepD : ∀ d, YieldsI P ops I oi v { a with defers := d :: a.defers } := fun d => hy.of_same rfl rfl
  unfold wpOpIn at *
  simp only [hj] at *
  rw [wanted_put oj a oi.dst v h1] at h
  split
  · rename_i hw
    simp only [hw, if_true] at h
    unfold Oper.wpIn at *
    refine ⟨fun f _ => hF f, ?_⟩
    have h := h.2
    rw [semAt_nd _ hdj, execOp_put oj hsj a oi.dst v h1] at h
    rw [semAt_nd _ hdj]
    generalize (execOp a.eval oj).run P w = r at *
    cases r with
    | ok x w' =>
      cases x <;> simp only [Oper.uponIn] at h ⊢
      case value u => exact ⟨keep a hy u, by rw [← Act.put_comm a v u h2]; exact h⟩
      case skip => exact ⟨keep a hy _, by rw [← Act.put_comm a v undef h2]; exact h⟩
      case defer d =>
        refine ⟨keep _ (keepD d) _, ?_⟩
        rw [← Act.put_comm _ v undef h2, ← Act.put_defers]
        exact h
      case enter f args =>
        refine ⟨h.1, CallsIn.mono h.2 fun e w'' he => ?_⟩
        cases e with
        | returned u => exact ⟨keep a hy u, by rw [← Act.put_comm a v u h2]; exact he⟩
        | panicked c => exact hQ _ _ _ he
        | outgrown => exact he
      case row row args => exact ⟨h.1, RowsIn.mono h.2 fun u w'' he => ⟨keep a hy u, by rw [← Act.put_comm a v u h2]; exact he⟩⟩
      case round l f tmps assign body =>
        refine ⟨h.1, RoundIn.mono h.2 fun e w'' he => ?_⟩
        cases e with
        | returned u => exact ⟨keep a hy u, by rw [← Act.put_comm a v u h2]; exact he⟩
        | panicked c => exact hQ _ _ _ he
        | outgrown => exact he
    | halt x w' =>
      cases x <;> simp only [Oper.uponIn] at h ⊢
      case panic u => exact hQ _ _ _ h
  · rename_i hw
    simp only [hw] at h
    exact ⟨fun f _ => hF f, keep a hy _, by rw [← Act.put_comm a v undef h2]; exact h.2⟩

theorem wpAnyI_first (hF : ∀ f, F.fn f) {i : Nat} {oi : Oper} {v : Value} {I' : World → Prop} (hi : ops[i]? = some oi) (hsel : ∀ (j : Nat) (o : Oper) cs b, ops[j]? = some o → o.op ≠ .select cs b)
    (hnd : ∀ (j : Nat) (o : Oper), ops[j]? = some o → notDefer o.op = true) (hQ : ∀ c a w, Q (.panic c) (a.put oi.dst v) w → Q (.panic c) a w)
    (hT : (∀ w, I' w) ∨ (I' = I ∧ ∀ j ∈ T, anc ops 9 j i = true)) :
    ∀ (fuel : Nat) (listed : Array Bool) (a : Act) (w : World), Closed ops listed →
      (∀ j oj, ops[j]? = some oj → j ≠ i → listed.getD j true = false → (∀ e ∈ oj.after, Region.binds .any e = true → e.on ≠ i) → oi.apart ops oj = true) →
      i ∈ Region.ready .any ops listed → YieldsI P ops I' oi v a → I' w →
      wpAnyI F n P ops Q I T fuel (listed.setIfInBounds i true) (a.put oi.dst v) w → wpAnyI F n P ops Q I T (fuel + 1) listed a w := by
  intro fuel
  induction fuel with
  | zero =>
    intro listed a w hc _ hr hy hS H
    refine ⟨fun h => (by rw [h] at hr; cases hr), fun j hj => ?_⟩
    by_cases hji : j = i
    · subst hji; exact hy.op hF hi hS ⟨fun _ h => h, H⟩
    · have := ready_mono hj hji
      rw [H.1] at this
      cases this
  | succ fuel ih =>
    intro listed a w hc hfree hr hy hS H
    refine ⟨fun h => (by rw [h] at hr; cases hr), fun j hj => ?_⟩
    by_cases hji : j = i
    · subst hji; exact hy.op hF hi hS ⟨fun _ h => h, H⟩
    · have h1 := H.2 j (ready_mono hj hji)
      obtain ⟨hjun, oj, hoj, hall⟩ := mem_ready.1 hj
      have hnot : ∀ e ∈ oj.after, Region.binds .any e = true → e.on ≠ i := fun e he hb heq => by
        have h1 := hall e he hb
        have h0 := (mem_ready.1 hr).1
        rw [heq] at h1
        rcases Nat.lt_or_ge i listed.size with h' | h'
        · simp [h'] at h0 h1; rw [h0] at h1; cases h1
        · simp [Array.getElem?_eq_none h'] at h1
      have h2 := wpOpIn_putI hF hoj (hfree j oj hoj hji hjun hnot) (hnd j oj hoj) (fun cs b => hsel i oi cs b hi) (fun cs b => hsel j oj cs b hoj) hQ hy h1
      have hfree' : ∀ k ok, ops[k]? = some ok → k ≠ i → (listed.setIfInBounds j true).getD k true = false →
          (∀ e ∈ ok.after, Region.binds .any e = true → e.on ≠ i) → oi.apart ops ok = true := fun k ok hk hki hun hno => by
        refine hfree k ok hk hki ?_ hno
        by_cases hjk : j = k
        · subst hjk; exact hjun
        · rw [getD_set_ne true hjk] at hun; exact hun
      refine wpOpIn_mono (fun a' w' h3 => ⟨h3.2.1, ih (listed.setIfInBounds j true) a' w' (hc.set hj) hfree' (ready_mono hr (Ne.symm hji)) h3.1 ?_ ?_⟩) h2
      · rcases hT with hT | ⟨rfl, hT⟩
        · exact hT w'
        · exact h3.2.1 (fun hjT => ready_not_behind hc (mem_ready.1 hr).1 hj (hT j hjT)) hS
      · rw [Array.setIfInBounds_comm _ _ hji]
        exact h3.2.2

/-- The order of the walk, held against the region's edges. -/
def canonB (ops : Array Oper) (T : List Nat) : List (Nat × Bool) → Array Bool → Bool
  | [], listed => (Region.ready .any ops listed).isEmpty
  | (i, false) :: c, listed => (Region.ready .any ops listed).contains i && Region.free .any ops listed i && (T.all (fun j => anc ops 9 j i) || hfr ops i) && canonB ops T c (listed.setIfInBounds i true)
  | (i, true) :: c, listed => (Region.ready .any ops listed == [i]) && canonB ops T c (listed.setIfInBounds i true)
def canonOK (ops : Array Oper) (T : List Nat) (c : List (Nat × Bool)) : Bool :=
  Region.noSelect ops && ops.all (fun o => notDefer o.op) && (c.length == ops.size) && canonB ops T c (Array.replicate ops.size false)
end

/-! ### Over symbolic states -/
section
variable {r : Option Nat} {P : Program} {N : Nat} {ops : Array Oper} {Q : Post} {ρ : Env} {ds : List Deferred} {A I : HP} {T : List Nat} {c : List (Nat × Bool)}

/-- No panic. -/
def Np (Q : Exit → Act → World → Prop) : Exit → Act → World → Prop
  | .panic _, _, _ => False
  | e, a, w => Q e a w
theorem Np_mono {w0 w : World} (s : Same w0 w) {e : Exit} {a : Act} {w' : World} (h : Np (wq N w Q) e a w') : Np (wq N w0 Q) e a w' := by
  cases e <;> first | exact h | exact wq_mono (w := w) s (fun _ _ _ _ h => h) h
theorem Np_out {X : Exit → Act → World → Prop} {e : Exit} {a : Act} {w' : World} (h : Np X e a w') : X e a w' := by
  cases e <;> first | exact h.elim | exact h
/-- The walk of a region that draws, in the order c. -/
def TD (r : Option Nat) (P : Program) (N : Nat) (ops : Array Oper) (I : HP) (T : List Nat) (c : List (Nat × Bool)) (Q : Post) (ρ : Env) (ds : List Deferred) (A : HP) : Prop :=
  ∀ a w listed, Rep N a ρ ds → sat w A → (∃ w0, sat w0 I) → (sat w I ∨ ∀ x ∈ c, x.2 = true ∨ hfr ops x.1 = true) → Closed ops listed → Region.noSelect ops = true → (∀ (j : Nat) (o : Oper), ops[j]? = some o → notDefer o.op = true) → canonB ops T c listed = true →
    wpAnyI (FR r) 0 P ops (Np (wq N w Q)) (fun w => sat w I) T c.length listed a w

theorem wpAnyI_mono {F : Fence} {n : Nat} {Q Q' : Exit → Act → World → Prop} {S : World → Prop} (hq : ∀ e a w, Q e a w → Q' e a w) : ∀ (fuel : Nat) (listed : Array Bool) (a : Act) (w : World), wpAnyI F n P ops Q S T fuel listed a w → wpAnyI F n P ops Q' S T fuel listed a w
  | 0, _, _, _, h => ⟨h.1, hq _ _ _ h.2⟩
  | fuel + 1, listed, a, w, h => ⟨fun h0 => hq _ _ _ (h.1 h0), fun i hi => by
      have h1 := h.2 i hi
      unfold wpOpIn at *
      cases ho : ops[i]? with
      | none => rw [ho] at h1; exact ⟨h1.1, wpAnyI_mono hq fuel _ _ _ h1.2⟩
      | some o =>
        rw [ho] at h1
        simp only [] at h1 ⊢
        split
        · rename_i hw
          rw [if_pos hw] at h1
          refine Oper.wpIn_mono (K := fun a' w' => (i ∉ T → S w → S w') ∧ wpAnyI F n P ops Q S T fuel (listed.setIfInBounds i true) a' w') (fun a w h => ⟨h.1, wpAnyI_mono hq fuel _ a w h.2⟩) ?_
          unfold Oper.wpIn at *
          refine ⟨h1.1, ?_⟩
          have h := h1.2
          have hl : LetsOut Q → LetsOut Q' := fun ⟨a, w, x⟩ => ⟨a, w, hq _ _ _ x⟩
          generalize (o.semAt F.round a.eval).run P w = r at *
          cases r with
          | ok x w' =>
            cases x <;> simp only [Oper.uponIn] at h ⊢ <;>
              first
                | exact h
                | exact ⟨h.1, CallsIn.mono h.2 (fun e w'' he => by cases e <;> first | exact he | exact hq _ _ _ he | exact hl he)⟩
                | exact ⟨h.1, RoundIn.mono h.2 (fun e w'' he => by cases e <;> first | exact he | exact hq _ _ _ he | exact hl he)⟩
          | halt x w' => cases x <;> simp only [Oper.uponIn] at h ⊢; exact hq _ _ _ h
        · rename_i hw
          rw [if_neg hw] at h1
          exact ⟨h1.1, h1.2.1, wpAnyI_mono hq fuel _ _ _ h1.2.2⟩⟩

theorem TD.weak {B : HP} (e : ent A B) (h : TD r P N ops I T c Q ρ ds B) : TD r P N ops I T c Q ρ ds A := fun a w l x y => h a w l x (y.weak e)
theorem TD.nil (h : Q .normal ρ ds A) : TD r P N ops I T [] Q ρ ds A := by
  intro a w listed hr hs _ _ _ _ _ hB
  exact ⟨by simpa [canonB] using hB, Same.refl w, ρ, ds, A, hr, hs, h⟩
theorem TD.quiet' {i : Nat} {o : Oper} {v : Value} (ho : ops[i]? = some o) (hd : inB N o.dst = true)
    (hy : ∀ a, Rep N a ρ ds → YieldsI P ops (fun w => sat w I) o v a) (h : TD r P N ops I T c Q (updO ρ o.dst v) ds A) : TD r P N ops I T ((i, false) :: c) Q ρ ds A := by
  intro a w listed hr hs h0 hI hc hsel hnd hB
  simp only [canonB, Bool.and_eq_true, Bool.or_eq_true] at hB
  obtain ⟨⟨⟨hr1, hf⟩, hT⟩, hB⟩ := hB
  have hir : i ∈ Region.ready .any ops listed := by simpa using hr1
  have hI2 : sat w I ∨ ∀ x ∈ c, x.2 = true ∨ hfr ops x.1 = true := hI.imp id fun h x hx => h x (by simp [hx])
  have := h (a.put o.dst v) w (listed.setIfInBounds i true) (hr.put hd v) hs h0 hI2 (hc.set hir) hsel hnd hB
  have hfo : hfr ops i = true → hfree o.op = true := fun h => by rw [hfr, ho] at h; exact h
  have key : hfree o.op = true → wpAnyI (FR r) 0 P ops (Np (wq N w Q)) (fun w => sat w I) T (c.length + 1) listed a w := fun h1 =>
    let ⟨w0, hw0⟩ := h0
    wpAnyI_first (I' := fun _ => True) (FR_fn r) ho (Region.noSelect_spec hsel) hnd (fun c a w h => h.elim) (.inl fun _ => trivial) c.length listed a w hc (Region.free_spec ho hf) hir ((hy a hr).free hw0 h1) trivial this
  rcases hT with hT | hT
  · rcases hI with hI' | hI'
    · exact wpAnyI_first (FR_fn r) ho (Region.noSelect_spec hsel) hnd (fun c a w h => h.elim) (.inr ⟨rfl, fun j hj => List.all_eq_true.1 hT j hj⟩) c.length listed a w hc (Region.free_spec ho hf) hir (hy a hr) hI' this
    · exact key (hfo ((hI' (i, false) (by simp)).resolve_left (by simp)))
  · exact key (hfo hT)
/-- An operation that reads at most what the invariant says. -/
theorem TD.q {i : Nat} {o : Oper} {v : Value} (ho : ops[i]? = some o) (hg : o.guard = none) (hd : inB N o.dst = true) (hnd : notDefer o.op = true)
    (hy : OQ P ρ o I v) (h : TD r P N ops I T c Q (updO ρ o.dst v) ds A) : TD r P N ops I T ((i, false) :: c) Q ρ ds A :=
  TD.quiet' ho hd (fun a hr => ⟨hnd, .inl ⟨by simp [Region.wanted, hg], fun w hs => by rw [hr.eval]; exact hy w hs⟩⟩) h
theorem TD.qG {i : Nat} {o : Oper} {v : Value} {j : Nat} {b : Bool} (ho : ops[i]? = some o) (hg : o.guard = some (j, b)) (hyl : yl ops ρ j = some b) (hd : inB N o.dst = true) (hnd : notDefer o.op = true)
    (hy : OQ P ρ o I v) (h : TD r P N ops I T c Q (updO ρ o.dst v) ds A) : TD r P N ops I T ((i, false) :: c) Q ρ ds A :=
  TD.quiet' ho hd (fun a hr => ⟨hnd, .inl ⟨by simp [Region.wanted, hg, hr.yielded hyl], fun w hs => by rw [hr.eval]; exact hy w hs⟩⟩) h
theorem TD.skip {i : Nat} {o : Oper} {j : Nat} {b : Bool} (ho : ops[i]? = some o) (hg : o.guard = some (j, !b)) (hyl : yl ops ρ j = some b) (hd : inB N o.dst = true) (hnd : notDefer o.op = true)
    (h : TD r P N ops I T c Q (updO ρ o.dst undef) ds A) : TD r P N ops I T ((i, false) :: c) Q ρ ds A :=
  TD.quiet' ho hd (fun a hr => ⟨hnd, .inr ⟨by simp [Region.wanted, hg, hr.yielded hyl], rfl⟩⟩) h
theorem TD.split (t : Nat) {b : Bool} (ht : ρ t = .bool b) (h1 : b = true → TD r P N ops I T c Q (upd ρ t (.bool true)) ds A) (h2 : b = false → TD r P N ops I T c Q (upd ρ t (.bool false)) ds A) : TD r P N ops I T c Q ρ ds A := by
  cases b with
  | true => have := h1 rfl; rwa [upd_same ht] at this
  | false => have := h2 rfl; rwa [upd_same ht] at this
theorem TD.known (t : Nat) {b b' : Bool} (ht : ρ t = .bool b) (hb : b = b') (h : TD r P N ops I T c Q (upd ρ t (.bool b')) ds A) : TD r P N ops I T c Q ρ ds A := by
  subst hb; rwa [upd_same ht] at h
/-- The one operation that may come now. -/
theorem TD.eff' {i : Nat} {o : Oper} (ho : ops[i]? = some o) (hd : inB N o.dst = true) (hw : ∀ a, Rep N a ρ ds → Region.wanted o (yielded ops a.tmps) = true)
    (h : OW r P ρ o A (fun v A' => (T.contains i = true ∨ ent A' I) ∧ ((∀ x ∈ c, x.2 = true ∨ hfr ops x.1 = true) ∨ ent A' I) ∧ TD r P N ops I T c Q (updO ρ o.dst v) ds A')) : TD r P N ops I T ((i, true) :: c) Q ρ ds A := by
  intro a w listed hr hs h0 hI hc hsel hnd hB
  simp only [canonB, Bool.and_eq_true, beq_iff_eq] at hB
  obtain ⟨hr1, hB⟩ := hB
  refine ⟨fun hz => (by rw [hz] at hr1; cases hr1), fun j hj => ?_⟩
  rw [hr1] at hj
  obtain rfl : j = i := by simpa using hj
  have hir : j ∈ Region.ready .any ops listed := by rw [hr1]; simp
  unfold wpOpIn
  rw [ho]
  simp only []
  rw [if_pos (hw a hr)]
  refine Oper.wpIn_mono2 ?_ (h a w hr.eval hs)
  rintro a' w' ⟨v, A', rfl, s, hs', hk1, hk2, hk⟩
  have hgo := hk _ w' (listed.setIfInBounds j true) (hr.put hd v) hs' h0 (hk2.elim .inr fun h => .inl (hs'.weak h)) (hc.set hir) hsel hnd hB
  have hmono : ∀ e a w'', Np (wq N w' Q) e a w'' → Np (wq N w Q) e a w'' := fun e a w'' h => Np_mono s h
  exact ⟨fun hT _ => hk1.elim (fun h => absurd (by simpa using h) hT) fun h => hs'.weak h, wpAnyI_mono hmono c.length _ _ _ hgo⟩
theorem TD.eff {i : Nat} {o : Oper} (ho : ops[i]? = some o) (hg : o.guard = none) (hd : inB N o.dst = true)
    (h : OW r P ρ o A (fun v A' => (T.contains i = true ∨ ent A' I) ∧ ((∀ x ∈ c, x.2 = true ∨ hfr ops x.1 = true) ∨ ent A' I) ∧ TD r P N ops I T c Q (updO ρ o.dst v) ds A')) : TD r P N ops I T ((i, true) :: c) Q ρ ds A :=
  TD.eff' ho hd (fun _ _ => by simp [Region.wanted, hg]) h
theorem TD.effG {i : Nat} {o : Oper} {j : Nat} {b : Bool} (ho : ops[i]? = some o) (hg : o.guard = some (j, b)) (hyl : yl ops ρ j = some b) (hd : inB N o.dst = true)
    (h : OW r P ρ o A (fun v A' => (T.contains i = true ∨ ent A' I) ∧ ((∀ x ∈ c, x.2 = true ∨ hfr ops x.1 = true) ∨ ent A' I) ∧ TD r P N ops I T c Q (updO ρ o.dst v) ds A')) : TD r P N ops I T ((i, true) :: c) Q ρ ds A :=
  TD.eff' ho hd (fun a hr => by simp [Region.wanted, hg, hr.yielded hyl]) h
theorem TD.skipU {i : Nat} {o : Oper} {j : Nat} {b : Bool} (ho : ops[i]? = some o) (hg : o.guard = some (j, b)) (hyl : ud ops ρ j = true) (hd : inB N o.dst = true) (hnd : notDefer o.op = true)
    (h : TD r P N ops I T c Q (updO ρ o.dst undef) ds A) : TD r P N ops I T ((i, false) :: c) Q ρ ds A :=
  TD.quiet' ho hd (fun a hr => ⟨hnd, .inr ⟨by simp [Region.wanted, hg, hr.yieldedN hyl], rfl⟩⟩) h
theorem TD.skipUE {i : Nat} {o : Oper} {j : Nat} {b : Bool} (ho : ops[i]? = some o) (hg : o.guard = some (j, b)) (hyl : ud ops ρ j = true) (hd : inB N o.dst = true) (hi : ent A I)
    (h : TD r P N ops I T c Q (updO ρ o.dst undef) ds A) : TD r P N ops I T ((i, true) :: c) Q ρ ds A := by
  intro a w listed hr hs h0 hI hc hsel hnd hB
  simp only [canonB, Bool.and_eq_true, beq_iff_eq] at hB
  obtain ⟨hr1, hB⟩ := hB
  refine ⟨fun hz => (by rw [hz] at hr1; cases hr1), fun j' hj => ?_⟩
  rw [hr1] at hj
  obtain rfl : j' = i := by simpa using hj
  have hir : j' ∈ Region.ready .any ops listed := by rw [hr1]; simp
  unfold wpOpIn
  rw [ho]
  simp only []
  rw [if_neg (by simp [Region.wanted, hg, hr.yieldedN hyl])]
  exact ⟨fun f _ => FR_fn r f, fun _ _ => hs.weak hi, h _ w (listed.setIfInBounds j' true) (hr.put hd undef) hs h0 (.inl (hs.weak hi)) (hc.set hir) hsel hnd hB⟩
/-- An operation that would do something, and is not wanted. -/
theorem TD.skipE {i : Nat} {o : Oper} {j : Nat} {b : Bool} (ho : ops[i]? = some o) (hg : o.guard = some (j, !b)) (hyl : yl ops ρ j = some b) (hd : inB N o.dst = true) (hi : (T.contains i = true ∧ ∀ x ∈ c, x.2 = true) ∨ ent A I)
    (h : TD r P N ops I T c Q (updO ρ o.dst undef) ds A) : TD r P N ops I T ((i, true) :: c) Q ρ ds A := by
  intro a w listed hr hs h0 hI hc hsel hnd hB
  simp only [canonB, Bool.and_eq_true, beq_iff_eq] at hB
  obtain ⟨hr1, hB⟩ := hB
  refine ⟨fun hz => (by rw [hz] at hr1; cases hr1), fun j' hj => ?_⟩
  rw [hr1] at hj
  obtain rfl : j' = i := by simpa using hj
  have hir : j' ∈ Region.ready .any ops listed := by rw [hr1]; simp
  unfold wpOpIn
  rw [ho]
  simp only []
  rw [if_neg (by simp [Region.wanted, hg, hr.yielded hyl])]
  exact ⟨fun f _ => FR_fn r f, fun hT _ => hi.elim (fun h => absurd (by simpa using h.1) hT) fun h => hs.weak h,
    h _ w (listed.setIfInBounds j' true) (hr.put hd undef) hs h0 (hi.elim (fun h => .inr fun x hx => .inl (h.2 x hx)) fun h => .inl (hs.weak h)) (hc.set hir) hsel hnd hB⟩
section
variable {op : Op} {ty : TypeId} {ps : String} {af : Array Edge} {t i : Nat} {v : Value} {j : Nat} {b : Bool}
theorem dq (ho : ops[i]? = some ⟨some t, op, ty, ps, af, none⟩) (hnd : notDefer op = true) (hd : Nat.blt t N = true) (hy : OQ P ρ ⟨some t, op, ty, ps, af, none⟩ I v) (h : TD r P N ops I T c Q (upd ρ t v) ds A) : TD r P N ops I T ((i, false) :: c) Q ρ ds A :=
  TD.q ho rfl hd hnd hy h
theorem dg (ho : ops[i]? = some ⟨some t, op, ty, ps, af, some (j, b)⟩) (hyl : yl ops ρ j = some b) (hnd : notDefer op = true) (hd : Nat.blt t N = true) (hy : OQ P ρ ⟨some t, op, ty, ps, af, some (j, b)⟩ I v) (h : TD r P N ops I T c Q (upd ρ t v) ds A) : TD r P N ops I T ((i, false) :: c) Q ρ ds A :=
  TD.qG ho rfl hyl hd hnd hy h
theorem dk (ho : ops[i]? = some ⟨some t, op, ty, ps, af, some (j, b)⟩) (hyl : yl ops ρ j = some (!b)) (hnd : notDefer op = true) (hd : Nat.blt t N = true) (h : TD r P N ops I T c Q (upd ρ t undef) ds A) : TD r P N ops I T ((i, false) :: c) Q ρ ds A :=
  TD.skip (b := !b) ho (by simp) hyl hd hnd h
theorem de (ho : ops[i]? = some ⟨some t, op, ty, ps, af, none⟩) (hd : Nat.blt t N = true)
    (h : OW r P ρ ⟨some t, op, ty, ps, af, none⟩ A (fun v A' => ent A' I ∧ TD r P N ops I T c Q (upd ρ t v) ds A')) : TD r P N ops I T ((i, true) :: c) Q ρ ds A :=
  TD.eff ho rfl hd (h.mono fun _ _ ⟨h1, h2⟩ => ⟨.inr h1, .inr h1, h2⟩)
theorem de0 (ho : ops[i]? = some ⟨none, op, ty, ps, af, none⟩)
    (h : OW r P ρ ⟨none, op, ty, ps, af, none⟩ A (fun _ A' => ent A' I ∧ TD r P N ops I T c Q ρ ds A')) : TD r P N ops I T ((i, true) :: c) Q ρ ds A :=
  TD.eff ho rfl rfl (h.mono fun _ _ ⟨h1, h2⟩ => ⟨.inr h1, .inr h1, h2⟩)
/-- Of T, and nothing quiet comes behind. -/
theorem dl (hT : T.contains i = true) (hq : c.all (fun x => x.2 || hfr ops x.1) = true) (ho : ops[i]? = some ⟨some t, op, ty, ps, af, none⟩) (hd : Nat.blt t N = true)
    (h : OW r P ρ ⟨some t, op, ty, ps, af, none⟩ A (fun v A' => TD r P N ops I T c Q (upd ρ t v) ds A')) : TD r P N ops I T ((i, true) :: c) Q ρ ds A :=
  TD.eff ho rfl hd (h.mono fun _ _ h2 => ⟨.inl hT, .inl (fun x hx => by simpa using List.all_eq_true.1 hq x hx), h2⟩)
theorem dl0 (hT : T.contains i = true) (hq : c.all (fun x => x.2 || hfr ops x.1) = true) (ho : ops[i]? = some ⟨none, op, ty, ps, af, none⟩)
    (h : OW r P ρ ⟨none, op, ty, ps, af, none⟩ A (fun _ A' => TD r P N ops I T c Q ρ ds A')) : TD r P N ops I T ((i, true) :: c) Q ρ ds A :=
  TD.eff ho rfl rfl (h.mono fun _ _ h2 => ⟨.inl hT, .inl (fun x hx => by simpa using List.all_eq_true.1 hq x hx), h2⟩)
theorem deg (ho : ops[i]? = some ⟨some t, op, ty, ps, af, some (j, b)⟩) (hyl : yl ops ρ j = some b) (hd : Nat.blt t N = true)
    (h : OW r P ρ ⟨some t, op, ty, ps, af, some (j, b)⟩ A (fun v A' => ent A' I ∧ TD r P N ops I T c Q (upd ρ t v) ds A')) : TD r P N ops I T ((i, true) :: c) Q ρ ds A :=
  TD.effG ho rfl hyl hd (h.mono fun _ _ ⟨h1, h2⟩ => ⟨.inr h1, .inr h1, h2⟩)
theorem dku (ho : ops[i]? = some ⟨some t, op, ty, ps, af, some (j, b)⟩) (hyl : ud ops ρ j = true) (hnd : notDefer op = true) (hd : Nat.blt t N = true) (h : TD r P N ops I T c Q (upd ρ t undef) ds A) : TD r P N ops I T ((i, false) :: c) Q ρ ds A :=
  TD.skipU ho rfl hyl hd hnd h
theorem dkue (ho : ops[i]? = some ⟨some t, op, ty, ps, af, some (j, b)⟩) (hyl : ud ops ρ j = true) (hd : Nat.blt t N = true) (hi : ent A I) (h : TD r P N ops I T c Q (upd ρ t undef) ds A) : TD r P N ops I T ((i, true) :: c) Q ρ ds A :=
  TD.skipUE ho rfl hyl hd hi h
theorem dke (ho : ops[i]? = some ⟨some t, op, ty, ps, af, some (j, b)⟩) (hyl : yl ops ρ j = some (!b)) (hd : Nat.blt t N = true) (hi : ent A I) (h : TD r P N ops I T c Q (upd ρ t undef) ds A) : TD r P N ops I T ((i, true) :: c) Q ρ ds A :=
  TD.skipE (b := !b) ho (by simp) hyl hd (.inr hi) h
theorem dke0 (ho : ops[i]? = some ⟨none, op, ty, ps, af, some (j, b)⟩) (hyl : yl ops ρ j = some (!b)) (hi : ent A I) (h : TD r P N ops I T c Q ρ ds A) : TD r P N ops I T ((i, true) :: c) Q ρ ds A :=
  TD.skipE (b := !b) ho (by simp) hyl rfl (.inr hi) h
theorem dk0 (ho : ops[i]? = some ⟨none, op, ty, ps, af, some (j, b)⟩) (hyl : yl ops ρ j = some (!b)) (hnd : notDefer op = true) (h : TD r P N ops I T c Q ρ ds A) : TD r P N ops I T ((i, false) :: c) Q ρ ds A :=
  TD.skip (b := !b) ho (by simp) hyl rfl hnd h
end
/-- The beginning. -/
theorem TC.draw {id : Nat} {l : List Oper} (I : HP) (T : List Nat) (c : List (Nat × Bool)) (hm : P.follows .mixedOrders = true) (hB : canonOK l.toArray T c = true) (hI : ent A I)
    (h : TD r P N l.toArray I T c Q ρ ds A) : TC r P N (.region id l.toArray true) Q ρ ds A := by
  intro a w hr hs
  simp only [canonOK, Bool.and_eq_true, beq_iff_eq] at hB
  obtain ⟨⟨⟨h1, h2⟩, h3⟩, h4⟩ := hB
  have hgo := h a { w with drawn := w.drawn + 1 } (Array.replicate l.toArray.size false) hr hs ⟨{ w with drawn := w.drawn + 1 }, sat.weak (w := { w with drawn := w.drawn + 1 }) hs hI⟩ (.inl (sat.weak (w := { w with drawn := w.drawn + 1 }) hs hI)) (by
      intro j o ho hj
      have hlt : j < l.toArray.size := (Array.getElem?_eq_some_iff.1 ho).1
      rw [Array.getD_eq_getD_getElem?, Array.getElem?_replicate, if_pos hlt] at hj
      cases hj) h1 (fun j o ho => Array.all_eq_true_iff_forall_mem.1 h2 o (Array.mem_of_getElem? ho)) h4
  have hmono : ∀ e a w'', Np (wq N { w with drawn := w.drawn + 1 } Q) e a w'' → wq N w Q e a w'' := fun e a w'' h =>
    Np_out (Np_mono (w0 := w) (w := { w with drawn := w.drawn + 1 }) ⟨rfl, rfl, rfl, Nat.le_refl _⟩ h)
  rw [h3] at hgo
  exact wpIn_region_any hm (wpAnyIn_of_I _ _ _ _ (wpAnyI_mono hmono _ _ _ _ hgo))
end
end Go.QM
