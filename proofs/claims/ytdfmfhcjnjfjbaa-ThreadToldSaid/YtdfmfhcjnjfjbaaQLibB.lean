/-
  The rules of single operations, over symbolic states (QLibA). Nothing of a program stands here.
-/
import Derived.Test.YtdfmfhcjnjfjbaaQLibA
import Derived.Laws.Cells
import Derived.Laws.CopyRow
import Derived.Laws.Tables
namespace Go.QM
open Go

/-! ### One operation -/
def OW (r : Option Nat) (P : Program) (ρ : Env) (o : Oper) (A : HP) (K : Value → HP → Prop) : Prop :=
  ∀ a w, a.eval = ev ρ → sat w A →
    o.wpIn (FR r) 0 P a w (fun a' w' => ∃ v A', a' = a.put o.dst v ∧ Same w w' ∧ sat w' A' ∧ K v A') (fun _ _ _ => False)

def wpLi (F : Fence) (n : Nat) (P : Program) (ops : Array Oper) (Q : Exit → Act → World → Prop) : List Oper → Act → World → Prop
  | [], a, w => Q .normal a w
  | o :: rest, a, w => if Region.wanted o (yielded ops a.tmps) = true then o.wpIn F n P a w (wpLi F n P ops Q rest) Q else (∀ f, o.about P w a.eval = some f → F.fn f) ∧ wpLi F n P ops Q rest (a.put o.dst undef) w

theorem wpOpsIn_of_wpLi {F : Fence} {n : Nat} {P : Program} {ops : Array Oper} {Q : Exit → Act → World → Prop} : ∀ (l : List Oper) (k : Nat), (∀ j, l[j]? = ops[k + j]?) → ∀ (a : Act) (w : World),
    wpLi F n P ops Q l a w → wpOpsIn F n P ops Q (List.range' k l.length) a w
  | [], _, _, a, w, h => by simpa [wpOpsIn, wpLi] using h
  | o :: l, k, hl, a, w, h => by
    have h0 : ops[k]? = some o := by simpa using (hl 0).symm
    have hl' : ∀ j, l[j]? = ops[(k + 1) + j]? := fun j => by have := hl (j + 1); simpa [Nat.add_assoc, Nat.add_comm 1 j] using this
    simp only [List.length_cons, List.range'_succ]
    simp only [wpOpsIn, h0]
    simp only [wpLi] at h
    split
    · rename_i hw
      rw [if_pos hw] at h
      exact Oper.wpIn_mono (fun a w => wpOpsIn_of_wpLi l (k + 1) hl' a w) h
    · rename_i hw
      rw [if_neg hw] at h
      exact ⟨h.1, wpOpsIn_of_wpLi l (k + 1) hl' _ _ h.2⟩

theorem Oper.wpIn_mono2 {F : Fence} {n : Nat} {P : Program} {o : Oper} {a : Act} {w : World} {K K' : Act → World → Prop} {Q : Exit → Act → World → Prop} (h : ∀ a w, K a w → K' a w)
    (hh : o.wpIn F n P a w K (fun _ _ _ => False)) : o.wpIn F n P a w K' Q := by
  unfold Oper.wpIn at *
  refine ⟨hh.1, ?_⟩
  have hh := hh.2
  generalize (o.semAt F.round a.eval).run P w = r at *
  have hl : ¬ LetsOut (fun (_ : Exit) (_ : Act) (_ : World) => False) := fun ⟨_, _, x⟩ => x
  cases r with
  | ok x w' =>
    cases x <;> simp only [Oper.uponIn] at hh ⊢ <;>
      first
        | exact h _ _ hh
        | exact ⟨hh.1, CallsIn.mono hh.2 (fun e w'' he => by cases e <;> first | exact h _ _ he | exact he.elim | exact (hl he).elim)⟩
        | exact ⟨hh.1, RowsIn.mono hh.2 (fun _ _ he => h _ _ he)⟩
        | exact ⟨hh.1, RoundIn.mono hh.2 (fun e w'' he => by cases e <;> first | exact h _ _ he | exact he.elim | exact (hl he).elim)⟩
  | halt x w' => cases x <;> simp only [Oper.uponIn] at hh

def TL (r : Option Nat) (P : Program) (N : Nat) (ops : Array Oper) (l : List Oper) (Q : Post) (ρ : Env) (ds : List Deferred) (A : HP) : Prop :=
  ∀ a w, Rep N a ρ ds → sat w A → wpLi (FR r) 0 P ops (wq N w Q) l a w

section
variable {r : Option Nat} {P : Program} {N : Nat} {ops : Array Oper} {l : List Oper} {Q : Post} {ρ : Env} {ds : List Deferred} {A : HP} {K : Value → HP → Prop}

theorem wpLi_mono {F : Fence} {n : Nat} {Q Q' : Exit → Act → World → Prop} (hq : ∀ e a w, Q e a w → Q' e a w) : ∀ (l : List Oper) (a : Act) (w : World), wpLi F n P ops Q l a w → wpLi F n P ops Q' l a w
  | [], _, _, h => hq _ _ _ h
  | o :: l, a, w, h => by
    simp only [wpLi] at h ⊢
    split
    · rename_i hw
      rw [if_pos hw] at h
      refine Oper.wpIn_mono (fun a w => wpLi_mono hq l a w) ?_
      unfold Oper.wpIn at *
      refine ⟨h.1, ?_⟩
      have h := h.2
      have hl : LetsOut Q → LetsOut Q' := fun ⟨a, w, x⟩ => ⟨a, w, hq _ _ _ x⟩
      generalize (o.semAt F.round a.eval).run P w = r at *
      cases r with
      | ok x w' =>
        cases x <;> simp only [Oper.uponIn] at h ⊢ <;>
          first
            | exact h
            | exact ⟨h.1, CallsIn.mono h.2 (fun e w'' he => by cases e <;> first | exact he | exact hq _ _ _ he | exact hl he)⟩
            | exact ⟨h.1, RoundIn.mono h.2 (fun e w'' he => by cases e <;> first | exact he | exact hq _ _ _ he | exact hl he)⟩
      | halt x w' => cases x <;> simp only [Oper.uponIn] at h ⊢; exact hq _ _ _ h
    · rename_i hw
      rw [if_neg hw] at h
      exact ⟨h.1, wpLi_mono hq l _ _ h.2⟩

theorem TL.weak {B : HP} (e : ent A B) (h : TL r P N ops l Q ρ ds B) : TL r P N ops l Q ρ ds A := fun a w x y => h a w x (y.weak e)
theorem TC.region {id : Nat} (h : TL r P N l.toArray l Q ρ ds A) : TC r P N (.region id l.toArray false) Q ρ ds A := by
  intro a w hr hs
  refine wpIn_region ?_
  have := wpOpsIn_of_wpLi (ops := l.toArray) l 0 (by simp) a w (h a w hr hs)
  rw [← List.range_eq_range'] at this
  simpa using this
theorem TL.nil (h : Q .normal ρ ds A) : TL r P N ops [] Q ρ ds A := fun _ w x y => ⟨Same.refl w, ρ, ds, A, x, y, h⟩
theorem TL.cons {o : Oper} (hg : o.guard = none) (hd : inB N o.dst = true) (h : OW r P ρ o A (fun v A' => TL r P N ops l Q (updO ρ o.dst v) ds A')) : TL r P N ops (o :: l) Q ρ ds A := by
  intro a w hr hs
  have hw : Region.wanted o (yielded ops a.tmps) = true := by simp [Region.wanted, hg]
  simp only [wpLi, hw, if_true]
  refine Oper.wpIn_mono2 ?_ (h a w hr.eval hs)
  rintro a' w' ⟨v, A', rfl, s, hs', hk⟩
  exact wpLi_mono (fun e a w => wq_mono s (fun _ _ _ _ h => h)) l _ _ (hk _ _ (hr.put hd v) hs')
/-- What an operation of the region has yielded, as a Bool. -/
def yl (ops : Array Oper) (ρ : Env) (j : Nat) : Option Bool :=
  match (ops[j]?).bind (·.dst) with
  | some d => match ρ d with
    | .bool b => some b
    | _ => none
  | none => none
theorem Rep.yielded {a : Act} (h : Rep N a ρ ds) {j : Nat} {b : Bool} (hy : yl ops ρ j = some b) : yielded ops a.tmps j = some b := by
  unfold yl at hy
  unfold Go.yielded
  cases hd : (ops[j]?).bind (·.dst) with
  | none => rw [hd] at hy; cases hy
  | some d =>
    rw [hd] at hy
    simp only [] at hy
    have hg := h.get d
    rw [Array.getD_eq_getD_getElem?] at hg
    simp only [Option.bind_some]
    cases ht : a.tmps[d]? with
    | none => rw [ht] at hg; simp [undef] at hg; rw [← hg] at hy; simp at hy
    | some v => rw [ht] at hg; simp at hg; rw [hg]; cases hv : ρ d <;> simp_all
theorem TL.consG {o : Oper} {j : Nat} {b : Bool} (hg : o.guard = some (j, b)) (hy : yl ops ρ j = some b) (hd : inB N o.dst = true) (h : OW r P ρ o A (fun v A' => TL r P N ops l Q (updO ρ o.dst v) ds A')) : TL r P N ops (o :: l) Q ρ ds A := by
  intro a w hr hs
  have hw : Region.wanted o (Go.yielded ops a.tmps) = true := by simp [Region.wanted, hg, hr.yielded hy]
  simp only [wpLi, hw, if_true]
  refine Oper.wpIn_mono2 ?_ (h a w hr.eval hs)
  rintro a' w' ⟨v, A', rfl, s, hs', hk⟩
  exact wpLi_mono (fun e a w => wq_mono s (fun _ _ _ _ h => h)) l _ _ (hk _ _ (hr.put hd v) hs')
theorem TL.skipG {o : Oper} {j : Nat} {b : Bool} (hg : o.guard = some (j, !b)) (hy : yl ops ρ j = some b) (hd : inB N o.dst = true) (h : TL r P N ops l Q (updO ρ o.dst undef) ds A) : TL r P N ops (o :: l) Q ρ ds A := by
  intro a w hr hs
  have hw : Region.wanted o (Go.yielded ops a.tmps) = false := by simp [Region.wanted, hg, hr.yielded hy]
  simp only [wpLi, hw]
  exact ⟨fun _ _ => trivial, h _ _ (hr.put hd undef) hs⟩
/-- What was not wanted itself yields nothing. -/
def ud (ops : Array Oper) (ρ : Env) (j : Nat) : Bool :=
  match (ops[j]?).bind (·.dst) with
  | some d => match ρ d with
    | .bool _ => false
    | _ => true
  | none => true
theorem Rep.yieldedN {a : Act} (h : Rep N a ρ ds) {j : Nat} (hy : ud ops ρ j = true) : Go.yielded ops a.tmps j = none := by
  unfold ud at hy
  unfold Go.yielded
  cases hd : (ops[j]?).bind (·.dst) with
  | none => rfl
  | some d =>
    rw [hd] at hy
    simp only [] at hy
    have hg := h.get d
    rw [Array.getD_eq_getD_getElem?] at hg
    simp only [Option.bind_some]
    cases hv : a.tmps[d]? with
    | none => rfl
    | some v =>
      rw [hv] at hg
      simp only [Option.getD_some] at hg
      subst hg
      revert hy
      generalize ρ d = z
      intro hy
      cases z <;> first | rfl | cases hy
theorem TL.skipU {o : Oper} {j : Nat} {b : Bool} (hg : o.guard = some (j, b)) (hy : ud ops ρ j = true) (hd : inB N o.dst = true) (h : TL r P N ops l Q (updO ρ o.dst undef) ds A) : TL r P N ops (o :: l) Q ρ ds A := by
  intro a w hr hs
  have hw : Region.wanted o (Go.yielded ops a.tmps) = false := by simp [Region.wanted, hg, hr.yieldedN hy]
  simp only [wpLi, hw]
  exact ⟨fun _ _ => trivial, h _ _ (hr.put hd undef) hs⟩
/-- A slot that holds a Bool: by cases. -/
theorem TL.split (t : Nat) {b : Bool} (ht : ρ t = .bool b) (h1 : b = true → TL r P N ops l Q (upd ρ t (.bool true)) ds A) (h2 : b = false → TL r P N ops l Q (upd ρ t (.bool false)) ds A) : TL r P N ops l Q ρ ds A := by
  cases b with
  | true => have := h1 rfl; rwa [upd_same ht] at this
  | false => have := h2 rfl; rwa [upd_same ht] at this

theorem TL.known (t : Nat) {b c : Bool} (ht : ρ t = .bool b) (hb : b = c) (h : TL r P N ops l Q (upd ρ t (.bool c)) ds A) : TL r P N ops l Q ρ ds A := by
  subst hb; rwa [upd_same ht] at h
/-! ### Operations that look at no memory, or read -/
theorem OW.mono {o : Oper} {K' : Value → HP → Prop} (h : OW r P ρ o A K) (hk : ∀ v A', K v A' → K' v A') : OW r P ρ o A K' :=
  fun a w x y => Oper.wpIn_mono (fun _ _ ⟨v, A', h1, h2, h3, h4⟩ => ⟨v, A', h1, h2, h3, hk _ _ h4⟩) (h a w x y)
theorem OW.weak {o : Oper} {B : HP} (e : ent A B) (h : OW r P ρ o B K) : OW r P ρ o A K := fun a w x y => h a w x (y.weak e)
def notDefer : Op → Bool
  | .defer _ => false
  | _ => true
theorem semAt_nd (r : Option Nat) {o : Oper} (h : notDefer o.op = true) (f : Operand → Value) : o.semAt r f = execOp f o :=
  Oper.semAt_eq r f o (fun c hc => by rw [hc] at h; cases h)
/-- An operation that yields a value, in every world of the assertion. -/
theorem OW.run {o : Oper} (hnd : notDefer o.op = true)
    (h : ∀ w, sat w A → ∃ v w' A', ((execOp (ev ρ) o).run P w = .ok (.value v) w' ∨ ((execOp (ev ρ) o).run P w = .ok .skip w' ∧ v = undef)) ∧ Same w w' ∧ sat w' A' ∧ K v A') : OW r P ρ o A K := by
  intro a w he hs
  obtain ⟨v, w', A', hrun, hsm, hs', hk⟩ := h w hs
  refine ⟨fun _ _ => trivial, ?_⟩
  rw [semAt_nd _ hnd, he]
  rcases hrun with hrun | ⟨hrun, rfl⟩ <;> rw [hrun] <;> exact ⟨_, A', rfl, hsm, hs', hk⟩
theorem OW.val {o : Oper} (v : Value) (hnd : notDefer o.op = true) (h : ∀ w, sat w A → (execOp (ev ρ) o).run P w = .ok (.value v) w) (k : K v A) : OW r P ρ o A K :=
  OW.run hnd fun w hs => ⟨v, w, A, .inl (h w hs), Same.refl w, hs, k⟩

/-- In every world of the assertion the operation yields the value and does nothing else. -/
def OQ (P : Program) (ρ : Env) (o : Oper) (A : HP) (v : Value) : Prop := ∀ w, sat w A → (execOp (ev ρ) o).run P w = .ok (.value v) w
theorem OW.q {o : Oper} {v : Value} (hnd : notDefer o.op = true) (h : OQ P ρ o A v) (k : K v A) : OW r P ρ o A K := OW.val v hnd h k
variable {op : Op} {d : Option Tmp} {ty : TypeId} {ps : String} {af : Array Edge} {g : Option (Nat × Bool)} {t : Nat} {v : Value} {j : Nat} {b : Bool}
/-- A quiet operation, in the order of the text. -/
theorem q (hnd : notDefer op = true) (hd : Nat.blt t N = true) (hy : OQ P ρ ⟨some t, op, ty, ps, af, none⟩ A v) (h : TL r P N ops l Q (upd ρ t v) ds A) : TL r P N ops (⟨some t, op, ty, ps, af, none⟩ :: l) Q ρ ds A :=
  TL.cons rfl hd (OW.q hnd hy h)
theorem qg (hyl : yl ops ρ j = some b) (hnd : notDefer op = true) (hd : Nat.blt t N = true) (hy : OQ P ρ ⟨some t, op, ty, ps, af, some (j, b)⟩ A v) (h : TL r P N ops l Q (upd ρ t v) ds A) : TL r P N ops (⟨some t, op, ty, ps, af, some (j, b)⟩ :: l) Q ρ ds A :=
  TL.consG rfl hyl hd (OW.q hnd hy h)
theorem qs (hyl : yl ops ρ j = some (!b)) (hd : Nat.blt t N = true) (h : TL r P N ops l Q (upd ρ t undef) ds A) : TL r P N ops (⟨some t, op, ty, ps, af, some (j, b)⟩ :: l) Q ρ ds A :=
  TL.skipG (o := ⟨some t, op, ty, ps, af, some (j, b)⟩) (b := !b) (by simp) hyl hd h
theorem qsu (hyl : ud ops ρ j = true) (hd : Nat.blt t N = true) (h : TL r P N ops l Q (upd ρ t undef) ds A) : TL r P N ops (⟨some t, op, ty, ps, af, some (j, b)⟩ :: l) Q ρ ds A :=
  TL.skipU (o := ⟨some t, op, ty, ps, af, some (j, b)⟩) rfl hyl hd h
theorem qs0 (hyl : yl ops ρ j = some (!b)) (h : TL r P N ops l Q ρ ds A) : TL r P N ops (⟨none, op, ty, ps, af, some (j, b)⟩ :: l) Q ρ ds A :=
  TL.skipG (o := ⟨none, op, ty, ps, af, some (j, b)⟩) (b := !b) (by simp) hyl rfl h
/-- An operation that does something: in the order of the text. -/
theorem e (hd : Nat.blt t N = true) (h : OW r P ρ ⟨some t, op, ty, ps, af, none⟩ A (fun v A' => TL r P N ops l Q (upd ρ t v) ds A')) : TL r P N ops (⟨some t, op, ty, ps, af, none⟩ :: l) Q ρ ds A :=
  TL.cons rfl hd h
theorem e0 (h : OW r P ρ ⟨none, op, ty, ps, af, none⟩ A (fun _ A' => TL r P N ops l Q ρ ds A')) : TL r P N ops (⟨none, op, ty, ps, af, none⟩ :: l) Q ρ ds A :=
  TL.cons rfl rfl h
theorem eg (hyl : yl ops ρ j = some b) (hd : Nat.blt t N = true) (h : OW r P ρ ⟨some t, op, ty, ps, af, some (j, b)⟩ A (fun v A' => TL r P N ops l Q (upd ρ t v) ds A')) : TL r P N ops (⟨some t, op, ty, ps, af, some (j, b)⟩ :: l) Q ρ ds A :=
  TL.consG rfl hyl hd h

theorem mv {x : Operand} {v : Value} (hx : ev ρ x = v) : OQ P ρ ⟨d, .move x, ty, ps, af, g⟩ A v := fun _ _ => by simp [execOp, hx]
theorem asg {x : Operand} {v : Value} (hx : ev ρ x = v) : OQ P ρ ⟨d, .assign x, ty, ps, af, g⟩ A v := fun _ _ => by simp [execOp, hx]
theorem pkT {c x y : Operand} {v : Value} (hc : ev ρ c = .bool true) (hx : ev ρ x = v) : OQ P ρ ⟨d, .pick c x y, ty, ps, af, g⟩ A v := fun _ _ => by simp [execOp, hc, hx, asBool]
theorem pkF {c x y : Operand} {v : Value} (hc : ev ρ c = .bool false) (hx : ev ρ y = v) : OQ P ρ ⟨d, .pick c x y, ty, ps, af, g⟩ A v := fun _ _ => by simp [execOp, hc, hx, asBool]
theorem nc {x : Operand} {a : Addr} (hx : ev ρ x = .pointer (some a)) : OQ P ρ ⟨d, .nilCheck x, ty, ps, af, g⟩ A (.pointer (some a)) := fun _ _ => by simp [execOp, hx]
theorem ncF {x : Operand} {f : FuncId} {lb : Array Value} (hx : ev ρ x = .func (.func f) #[] lb) : OQ P ρ ⟨d, .nilCheck x, ty, ps, af, g⟩ A (.func (.func f) #[] lb) := fun _ _ => by simp [execOp, hx]
/-- Whatever runs by itself, in every world alike. -/
theorem pu (v : Value) (h : ∀ w, (execOp (ev ρ) ⟨d, op, ty, ps, af, g⟩).run P w = .ok (.value v) w) : OQ P ρ ⟨d, op, ty, ps, af, g⟩ A v := fun w _ => h w

theorem addr_add (b off n : Nat) : (⟨b, off, none⟩ : Addr).add n = ⟨b, off + n, none⟩ := by unfold Addr.add; split <;> simp_all

/-- Of which kind a type is. -/
def oneT (P : Program) (t : TypeId) : Bool := match P.underlying t with
  | some (.struct _) | some (.array _ _) | none => false
  | some _ => true
def aggT (P : Program) (t : TypeId) (n : Nat) : Bool := match P.underlying t, P.info? t with
  | some (.struct _), some i | some (.array _ _), some i => Nat.beq i.size n
  | _, _ => false
def szT (P : Program) (t : TypeId) (n : Nat) : Bool := match P.info? t with
  | some i => Nat.beq i.size n
  | none => false
def fldT (P : Program) (s : TypeId) (f off : Nat) : Bool := match P.underlying s with
  | some (.struct fs) => match fs[f]? with
    | some fd => Nat.beq fd.offset off && (match P.info? fd.type with | some i => !Nat.beq i.size 0 | none => false)
    | none => false
  | _ => false
theorem isAgg_one {t : TypeId} (h : oneT P t = true) (w : World) : (isAgg t).run P w = .ok false w := by
  unfold oneT at h
  cases hu : P.underlying t with
  | none => rw [hu] at h; cases h
  | some u => rw [hu] at h; cases u <;> first | (simp at h; done) | simp [isAgg, underlying, hu]
theorem isAgg_agg {t : TypeId} {n : Nat} (h : aggT P t n = true) (w : World) : (isAgg t).run P w = .ok true w ∧ (sizeOf t).run P w = .ok n w := by
  unfold aggT at h
  cases hu : P.underlying t with
  | none => rw [hu] at h; cases h
  | some u =>
    rw [hu] at h
    cases hi : P.info? t with
    | none => rw [hi] at h; cases u <;> cases h
    | some i =>
      rw [hi] at h
      cases u <;> first | (cases h; done) | (simp only [] at h; have := Nat.eq_of_beq_eq_true h; simp [isAgg, underlying, hu, sizeOf, typeInfo, hi, this])
theorem szT_run {t : TypeId} {n : Nat} (h : szT P t n = true) (w : World) : (sizeOf t).run P w = .ok n w := by
  unfold szT at h
  cases hi : P.info? t with
  | none => rw [hi] at h; cases h
  | some i => rw [hi] at h; have := Nat.eq_of_beq_eq_true h; simp [sizeOf, typeInfo, hi, this]

theorem fa {s : TypeId} {x : Operand} {f b off : Nat} (o : Nat) (hf : fldT P s f o = true) (hx : ev ρ x = .pointer (some ⟨b, off, none⟩)) :
    OQ P ρ ⟨d, .fieldAddr s x f, ty, ps, af, g⟩ A (.pointer (some ⟨b, off + o, none⟩)) := by
  intro w _
  unfold fldT at hf
  cases hu : P.underlying s with
  | none => rw [hu] at hf; cases hf
  | some u =>
    rw [hu] at hf
    cases u with
    | struct fs =>
      simp only [] at hf
      cases hfd : fs[f]? with
      | none => rw [hfd] at hf; cases hf
      | some fd =>
        rw [hfd] at hf
        simp only [Bool.and_eq_true] at hf
        obtain ⟨h1, h2⟩ := hf
        have h1 := Nat.eq_of_beq_eq_true h1
        cases hi : P.info? fd.type with
        | none => rw [hi] at h2; cases h2
        | some i =>
          rw [hi] at h2
          have hz : i.size ≠ 0 := fun e => by simp [e] at h2
          simp [execOp, Instr.fieldAt, underlying, hu, hfd, hx, Instr.sureAddr, fieldPlace, sizeOf, typeInfo, hi, hz, addr_add, h1]
    | _ => cases hf

theorem cell_of_heap {w : World} {b E : Nat} {l : List Value} {fz : Nat × Nat} (h : w.heap[b]? = some (.cells l.toArray E fz)) (off : Nat) : w.cell? ⟨b, off, none⟩ = l[off]? := by
  simp [World.cell?, h]
theorem loadVar_one {t : TypeId} (ht : oneT P t = true) {w : World} {b off E : Nat} {l : List Value} {fz : Nat × Nat} {v : Value} (h : w.heap[b]? = some (.cells l.toArray E fz)) (hv : l[off]? = some v) :
    (loadVar t ⟨b, off, none⟩).run P w = .ok v w := by
  simp [loadVar, isAgg_one ht, cell_of_heap h, hv]
theorem loadVar_agg {t : TypeId} {n : Nat} (ht : aggT P t n = true) {w : World} {b off E : Nat} {l vs : List Value} {fz : Nat × Nat} (h : w.heap[b]? = some (.cells l.toArray E fz)) (hv : (l.drop off).take n = vs) (hn : vs.length = n) :
    (loadVar t ⟨b, off, none⟩).run P w = .ok (.agg vs.toArray) w := by
  have hl := run_loadCells_list (P := P) w ⟨b, off, none⟩ vs (fun j v hj => by
    rw [addr_add, cell_of_heap h]
    rw [← hv, List.getElem?_take] at hj
    split at hj
    · rwa [List.getElem?_drop] at hj
    · cases hj)
  rw [hn] at hl
  simp [loadVar, isAgg_agg ht, hl]

/-- What lies in a block, looked up in a list of pieces. -/
class RdI (A : HP) (b : Nat) (o : outParam Obj) : Prop where
  rd : Rd A b o
instance (b : Nat) (E : TypeId) (l : List Value) : RdI (pts b E l) b (.cells l.toArray E (0, 0)) := ⟨Rd_pts b E l⟩
instance (b : Nat) (o : Obj) : RdI (obj b o) b o := ⟨Rd_obj b o⟩
instance (A : HP) (l : List HP) (b : Nat) (o : Obj) [h : RdI (sepL l) b o] : RdI (sepL (A :: l)) b o := ⟨Rd_next h.rd⟩
instance (A : HP) (l : List HP) (b : Nat) (o : Obj) [h : RdI A b o] : RdI (sepL (A :: l)) b o := ⟨Rd_here h.rd⟩
theorem ld' {t : TypeId} {x : Operand} {b off E : Nat} {l : List Value} {fz : Nat × Nat} {v : Value} (ht : oneT P t = true) (hx : ev ρ x = .pointer (some ⟨b, off, none⟩)) (hr : Rd A b (.cells l.toArray E fz)) (hv : l[off]? = some v) :
    OQ P ρ ⟨d, .load t x, ty, ps, af, g⟩ A v := by
  intro w hs
  simp [execOp, Instr.loadAt, hx, Instr.sureAddr, loadVar_one ht (hr.sat hs) hv]
theorem ldN' {t : TypeId} {x : Operand} {b off E : Nat} {l vs : List Value} {fz : Nat × Nat} (n : Nat) (ht : aggT P t n = true) (hx : ev ρ x = .pointer (some ⟨b, off, none⟩)) (hr : Rd A b (.cells l.toArray E fz)) (hv : (l.drop off).take n = vs) (hn : vs.length = n) :
    OQ P ρ ⟨d, .load t x, ty, ps, af, g⟩ A (.agg vs.toArray) := by
  intro w hs
  simp [execOp, Instr.loadAt, hx, Instr.sureAddr, loadVar_agg ht (hr.sat hs) hv hn]
theorem ld {t : TypeId} {x : Operand} {b off E : Nat} {l : List Value} {fz : Nat × Nat} {v : Value} (ht : oneT P t = true) (hx : ev ρ x = .pointer (some ⟨b, off, none⟩)) [hr : RdI A b (.cells l.toArray E fz)] (hv : l[off]? = some v) :
    OQ P ρ ⟨d, .load t x, ty, ps, af, g⟩ A v := ld' ht hx hr.rd hv
theorem ldN {t : TypeId} {x : Operand} {b off E : Nat} {l vs : List Value} {fz : Nat × Nat} (n : Nat) (ht : aggT P t n = true) (hx : ev ρ x = .pointer (some ⟨b, off, none⟩)) [hr : RdI A b (.cells l.toArray E fz)] (hv : (l.drop off).take n = vs) (hn : vs.length = n) :
    OQ P ρ ⟨d, .load t x, ty, ps, af, g⟩ A (.agg vs.toArray) := ldN' n ht hx hr.rd hv hn

/-! ### Stores and new blocks -/
def splice (off : Nat) (vs l : List Value) : List Value := l.take off ++ vs ++ l.drop (off + vs.length)
theorem splice_length {off : Nat} {vs l : List Value} (h : off + vs.length ≤ l.length) : (splice off vs l).length = l.length := by
  simp [splice]; omega
theorem sat_setRow {w : World} {b E : Nat} {l l' : List Value} (h : sat w (sep (pts b E l) A)) : sat (w.setRow b l'.toArray) (sep (pts b E l') A) := by
  have hb : w.heap[b]? = some (.cells l.toArray E (0, 0)) := (Rd_l (Rd_pts b E l)).sat h
  exact sat_set h (setRow_heap w b _ _ E (0, 0) hb) (fun i hi => setRow_other w b i _ hi)
theorem storeVar_run {t : TypeId} {v : Value} {n : Nat} (ht : szT P t n = true) (hn : v.cells.toList.length = n) (h1 : v.cells.toList.all Value.oneCell' = true) {w : World} {b off E : Nat} {l : List Value}
    (h : w.heap[b]? = some (.cells l.toArray E (0, 0))) (hlen : off + n ≤ l.length) : (storeVar t ⟨b, off, none⟩ v).run P w = .ok () (w.setRow b (splice off v.cells.toList l).toArray) := by
  have := run_storeCells_at P b off E v.cells.toList 0 l.toArray w h (by rw [hn]; simpa using hlen) (fun u hu => by simpa using List.all_eq_true.1 h1 u hu)
  simp only [Nat.add_zero] at this
  have hn' : v.cells.size = n := by simpa using hn
  simp only [storeVar, Sem.run_bind, szT_run ht, Result.andThen_ok, hn', ne_eq, not_true_eq_false, if_false, this, splice]
theorem ow_store (i : Nat) {hs rest : List HP} {t : TypeId} {x y : Operand} {b off E n : Nat} {l l' vs : List Value} {v : Value} (hx : ev ρ x = .pointer (some ⟨b, off, none⟩)) (hi : take1 i hs = some (pts b E l, rest)) (hy : ev ρ y = v)
    (hc : v.cells.toList = vs) (h1 : vs.all Value.oneCell' = true) (ht : szT P t n = true) (hn : vs.length = n) (hlen : off + n ≤ l.length) (hl' : splice off vs l = l') (k : K undef (sepL (pts b E l' :: rest))) :
    OW r P ρ ⟨d, .store t x y, ty, ps, af, g⟩ (sepL hs) K := by
  subst hc
  refine OW.run rfl fun w hsat => ⟨undef, w.setRow b l'.toArray, _, .inr ⟨?_, rfl⟩, ⟨rfl, rfl, rfl, by simp⟩, ?_, k⟩
  · have hb : w.heap[b]? = some (.cells l.toArray E (0, 0)) := (Rd_l (Rd_pts b E l)).sat (hsat.weak (take1_ent hi))
    subst hl'
    simp only [execOp, Instr.storeAt, hx, hy, Instr.sureAddr, Sem.run_bind, Sem.run_pure, Result.andThen_ok, storeVar_run ht hn h1 hb hlen]
  · exact sat_setRow (hsat.weak (take1_ent hi))

/-- A block's cells, taken out of a list of pieces. -/
class TkI (hs : List HP) (b : Nat) (E : outParam Nat) (l : outParam (List Value)) (r : outParam (List HP)) : Prop where
  tk : ∃ i, take1 i hs = some (pts b E l, r)
instance (b E : Nat) (l : List Value) (r : List HP) : TkI (pts b E l :: r) b E l r := ⟨0, rfl⟩
instance (A : HP) (hs : List HP) (b E : Nat) (l : List Value) (r : List HP) [h : TkI hs b E l r] : TkI (A :: hs) b E l (A :: r) := ⟨by
  obtain ⟨i, hi⟩ := h.tk
  exact ⟨i + 1, by simp [take1, hi]⟩⟩
theorem st {hs rest : List HP} {t : TypeId} {x y : Operand} {b off E : Nat} {l l' vs : List Value} {v : Value} (n : Nat) (ht : szT P t n = true) (hx : ev ρ x = .pointer (some ⟨b, off, none⟩)) (hy : ev ρ y = v)
    (hc : v.cells.toList = vs) (h1 : vs.all Value.oneCell' = true) (hn : Nat.beq vs.length n = true) [hi : TkI hs b E l rest] (hlen : off + n ≤ l.length) (hl' : splice off vs l = l') (k : K undef (sepL (pts b E l' :: rest))) :
    OW r P ρ ⟨d, .store t x y, ty, ps, af, g⟩ (sepL hs) K := by
  obtain ⟨i, hi⟩ := hi.tk
  exact ow_store i hx hi hy hc h1 ht (Nat.eq_of_beq_eq_true hn) hlen hl' k

theorem OW.new {o : Oper} (nd : notDefer o.op = true) (E : TypeId) (l : List Value) (f : Nat → Value) (hrun : ∀ w, (execOp (ev ρ) o).run P w = .ok (.value (f w.heap.size)) (w.alloc (.cells l.toArray E)))
    {hs : List HP} (k : ∀ b, K (f b) (sepL (pts b E l :: hs))) : OW r P ρ o (sepL hs) K :=
  OW.run nd fun w hsat => ⟨_, _, _, .inl (hrun w), ⟨rfl, rfl, rfl, by simp⟩, sat_alloc _ hsat, k w.heap.size⟩
theorem bx {hs : List HP} {E : TypeId} {x : Operand} {v : Value} {l : List Value} (hx : ev ρ x = v) (hc : v.cells.toList = l) (k : ∀ b, K (.pointer (some ⟨b, 0, none⟩)) (sepL (pts b E l :: hs))) :
    OW r P ρ ⟨d, .box E x, ty, ps, af, g⟩ (sepL hs) K := by
  subst hc
  refine OW.new rfl E _ (fun b => .pointer (some ⟨b, 0, none⟩)) (fun w => ?_) k
  simp [execOp, Instr.box, newVar, newRow, hx]
def zeroT (P : Program) (t : TypeId) : Option Value := (P.info? t).bind (·.zero)
theorem zeroT_run {t : TypeId} {z : Value} (h : zeroT P t = some z) (w : World) : (zeroValue t).run P w = .ok z w := by
  unfold zeroT at h
  cases hi : P.info? t with
  | none => rw [hi] at h; cases h
  | some i => rw [hi] at h; simp only [Option.bind_some] at h; simp [zeroValue, typeInfo, hi, h]
theorem al {hs : List HP} {E : TypeId} {z : Value} {l : List Value} (hz : zeroT P E = some z) (hc : z.cells.toList = l) (k : ∀ b, K (.pointer (some ⟨b, 0, none⟩)) (sepL (pts b E l :: hs))) :
    OW r P ρ ⟨d, .alloc E, ty, ps, af, g⟩ (sepL hs) K := by
  subst hc
  refine OW.new rfl E _ (fun b => .pointer (some ⟨b, 0, none⟩)) (fun w => ?_) k
  simp [execOp, Instr.alloc, newVar, newRow, zeroT_run hz]
end
end Go.QM
