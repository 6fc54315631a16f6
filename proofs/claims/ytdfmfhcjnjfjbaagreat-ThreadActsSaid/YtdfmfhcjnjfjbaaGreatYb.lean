/-
  Proved here: what functions of this program compute, each as a contract over symbolic states, under the premises that each theorem names (most lines printed by a program of the prover).
-/
import Derived.Laws.Cells
import Derived.Laws.CopyRow
import Derived.Laws.Tables
import Derived.Test.YtdfmfhcjnjfjbaaGreatYa
namespace Go.QM
open Go
def OW (r : Option Nat) (P : Program) (ρ : Env) (o : Oper) (A : HP) (K : Value → HP → Prop) : Prop :=
  ∀ a w, a.eval = ev ρ → sat w A →
    o.wpIn (FR r) 0 P a w (fun a' w' => ∃ v A', a' = a.put o.dst v ∧ Same w w' ∧ sat w' A' ∧ K v A') (fun _ _ _ => False)
def wpLi (F : Fence) (n : Nat) (P : Program) (ops : Array Oper) (Q : Exit → Act → World → Prop) : List Oper → Act → World → Prop
  | [], a, w => Q .normal a w
  | o :: rest, a, w => if Region.wanted o (yielded ops a.tmps) = true then o.wpIn F n P a w (wpLi F n P ops Q rest) Q else (∀ f, o.about P w a.eval = some f → F.fn f) ∧ wpLi F n P ops Q rest (a.put o.dst undef) w
theorem wpOpsIn_of_wpLi {F : Fence} {n : Nat} {P : Program} {ops : Array Oper} {Q : Exit → Act → World → Prop} : ∀ (l : List Oper) (k : Nat), (∀ j, l[j]? = ops[k + j]?) → ∀ (a : Act) (w : World),
    wpLi F n P ops Q l a w → wpOpsIn F n P ops Q (List.range' k l.length) a w
  | [], _, _, a, w, h => by simpa [wpOpsIn, wpLi] using h
  | o :: l, k, hl, a, w, h => by
    have h0 : ops[k]? = some o := by simpa using (hl 0).symm
    have hl' : ∀ j, l[j]? = ops[(k + 1) + j]? := fun j => by have := hl (j + 1); simpa [Nat.add_assoc, Nat.add_comm 1 j] using this
    simp only [List.length_cons, List.range'_succ]
    simp only [wpOpsIn, h0]
    simp only [wpLi] at h
    split
    · rename_i hw
      rw [if_pos hw] at h
      exact Oper.wpIn_mono (fun a w => wpOpsIn_of_wpLi l (k + 1) hl' a w) h
    · rename_i hw
      rw [if_neg hw] at h
      exact ⟨h.1, wpOpsIn_of_wpLi l (k + 1) hl' _ _ h.2⟩
theorem Oper.wpIn_mono2 {F : Fence} {n : Nat} {P : Program} {o : Oper} {a : Act} {w : World} {K K' : Act → World → Prop} {Q : Exit → Act → World → Prop} (h : ∀ a w, K a w → K' a w)
    (hh : o.wpIn F n P a w K (fun _ _ _ => False)) : o.wpIn F n P a w K' Q := by
  unfold Oper.wpIn at *
  refine ⟨hh.1, ?_⟩
  have hh := hh.2
  generalize (o.semAt F.round a.eval).run P w = r at *
  have hl : ¬ LetsOut (fun (_ : Exit) (_ : Act) (_ : World) => False) := fun ⟨_, _, x⟩ => x
  cases r with
  | ok x w' =>
    cases x <;> simp only [Oper.uponIn] at hh ⊢ <;>
      first
        | exact h _ _ hh
        | exact ⟨hh.1, CallsIn.mono hh.2 (fun e w'' he => by cases e <;> first | exact h _ _ he | exact he.elim | exact (hl he).elim)⟩
        | exact ⟨hh.1, RowsIn.mono hh.2 (fun _ _ he => h _ _ he)⟩
        | exact ⟨hh.1, RoundIn.mono hh.2 (fun e w'' he => by cases e <;> first | exact h _ _ he | exact he.elim | exact (hl he).elim)⟩
  | halt x w' => cases x <;> simp only [Oper.uponIn] at hh
def TL (r : Option Nat) (P : Program) (N : Nat) (ops : Array Oper) (l : List Oper) (Q : Post) (ρ : Env) (ds : List Deferred) (A : HP) : Prop :=
  ∀ a w, Rep N a ρ ds → sat w A → wpLi (FR r) 0 P ops (wq N w Q) l a w
section
variable {r : Option Nat} {P : Program} {N : Nat} {ops : Array Oper} {l : List Oper} {Q : Post} {ρ : Env} {ds : List Deferred} {A : HP} {K : Value → HP → Prop}
theorem wpLi_mono {F : Fence} {n : Nat} {Q Q' : Exit → Act → World → Prop} (hq : ∀ e a w, Q e a w → Q' e a w) : ∀ (l : List Oper) (a : Act) (w : World), wpLi F n P ops Q l a w → wpLi F n P ops Q' l a w
  | [], _, _, h => hq _ _ _ h
  | o :: l, a, w, h => by
    simp only [wpLi] at h ⊢
    split
    · rename_i hw
      rw [if_pos hw] at h
      refine Oper.wpIn_mono (fun a w => wpLi_mono hq l a w) ?_
      unfold Oper.wpIn at *
      refine ⟨h.1, ?_⟩
      have h := h.2
      have hl : LetsOut Q → LetsOut Q' := fun ⟨a, w, x⟩ => ⟨a, w, hq _ _ _ x⟩
      generalize (o.semAt F.round a.eval).run P w = r at *
      cases r with
      | ok x w' =>
        cases x <;> simp only [Oper.uponIn] at h ⊢ <;>
          first
            | exact h
            | exact ⟨h.1, CallsIn.mono h.2 (fun e w'' he => by cases e <;> first | exact he | exact hq _ _ _ he | exact hl he)⟩
            | exact ⟨h.1, RoundIn.mono h.2 (fun e w'' he => by cases e <;> first | exact he | exact hq _ _ _ he | exact hl he)⟩
      | halt x w' => cases x <;> simp only [Oper.uponIn] at h ⊢; exact hq _ _ _ h
    · rename_i hw
      rw [if_neg hw] at h
      exact ⟨h.1, wpLi_mono hq l _ _ h.2⟩
theorem TL.weak {B : HP} (e : ent A B) (h : TL r P N ops l Q ρ ds B) : TL r P N ops l Q ρ ds A := fun a w x y => h a w x (y.weak e)
theorem TC.region {id : Nat} (h : TL r P N l.toArray l Q ρ ds A) : TC r P N (.region id l.toArray false) Q ρ ds A := by
  intro a w hr hs
  refine wpIn_region ?_
  have := wpOpsIn_of_wpLi (ops := l.toArray) l 0 (by simp) a w (h a w hr hs)
  rw [← List.range_eq_range'] at this
  simpa using this
theorem TL.nil (h : Q .normal ρ ds A) : TL r P N ops [] Q ρ ds A := fun _ w x y => ⟨Same.refl w, ρ, ds, A, x, y, h⟩
theorem TL.cons {o : Oper} (hg : o.guard = none) (hd : inB N o.dst = true) (h : OW r P ρ o A (fun v A' => TL r P N ops l Q (updO ρ o.dst v) ds A')) : TL r P N ops (o :: l) Q ρ ds A := by
  intro a w hr hs
  have hw : Region.wanted o (yielded ops a.tmps) = true := by simp [Region.wanted, hg]
  simp only [wpLi, hw, if_true]
  refine Oper.wpIn_mono2 ?_ (h a w hr.eval hs)
  rintro a' w' ⟨v, A', rfl, s, hs', hk⟩
  exact wpLi_mono (fun e a w => wq_mono s (fun _ _ _ _ h => h)) l _ _ (hk _ _ (hr.put hd v) hs')
def yl (ops : Array Oper) (ρ : Env) (j : Nat) : Option Bool :=
  match (ops[j]?).bind (·.dst) with
  | some d => match ρ d with
    | .bool b => some b
    | _ => none
  | none => none
theorem Rep.yielded {a : Act} (h : Rep N a ρ ds) {j : Nat} {b : Bool} (hy : yl ops ρ j = some b) : yielded ops a.tmps j = some b := by
  unfold yl at hy
  unfold Go.yielded
  cases hd : (ops[j]?).bind (·.dst) with
  | none => rw [hd] at hy; cases hy
  | some d =>
    rw [hd] at hy
    simp only [] at hy
    have hg := h.get d
    rw [Array.getD_eq_getD_getElem?] at hg
    simp only [Option.bind_some]
    cases ht : a.tmps[d]? with
    | none => rw [ht] at hg; simp [undef] at hg; rw [← hg] at hy; simp at hy
    | some v => rw [ht] at hg; simp at hg; rw [hg]; cases hv : ρ d <;> simp_all
theorem TL.consG {o : Oper} {j : Nat} {b : Bool} (hg : o.guard = some (j, b)) (hy : yl ops ρ j = some b) (hd : inB N o.dst = true) (h : OW r P ρ o A (fun v A' => TL r P N ops l Q (updO ρ o.dst v) ds A')) : TL r P N ops (o :: l) Q ρ ds A := by
  intro a w hr hs
  have hw : Region.wanted o (Go.yielded ops a.tmps) = true := by simp [Region.wanted, hg, hr.yielded hy]
  simp only [wpLi, hw, if_true]
  refine Oper.wpIn_mono2 ?_ (h a w hr.eval hs)
  rintro a' w' ⟨v, A', rfl, s, hs', hk⟩
  exact wpLi_mono (fun e a w => wq_mono s (fun _ _ _ _ h => h)) l _ _ (hk _ _ (hr.put hd v) hs')
theorem TL.skipG {o : Oper} {j : Nat} {b : Bool} (hg : o.guard = some (j, !b)) (hy : yl ops ρ j = some b) (hd : inB N o.dst = true) (h : TL r P N ops l Q (updO ρ o.dst undef) ds A) : TL r P N ops (o :: l) Q ρ ds A := by
  intro a w hr hs
  have hw : Region.wanted o (Go.yielded ops a.tmps) = false := by simp [Region.wanted, hg, hr.yielded hy]
  simp only [wpLi, hw]
  exact ⟨fun _ _ => trivial, h _ _ (hr.put hd undef) hs⟩
def ud (ops : Array Oper) (ρ : Env) (j : Nat) : Bool :=
  match (ops[j]?).bind (·.dst) with
  | some d => match ρ d with
    | .bool _ => false
    | _ => true
  | none => true
theorem Rep.yieldedN {a : Act} (h : Rep N a ρ ds) {j : Nat} (hy : ud ops ρ j = true) : Go.yielded ops a.tmps j = none := by
  unfold ud at hy
  unfold Go.yielded
  cases hd : (ops[j]?).bind (·.dst) with
  | none => rfl
  | some d =>
    rw [hd] at hy
    simp only [] at hy
    have hg := h.get d
    rw [Array.getD_eq_getD_getElem?] at hg
    simp only [Option.bind_some]
    cases hv : a.tmps[d]? with
    | none => rfl
    | some v =>
      rw [hv] at hg
      simp only [Option.getD_some] at hg
      subst hg
      revert hy
      generalize ρ d = z
      intro hy
      cases z <;> first | rfl | cases hy
theorem TL.skipU {o : Oper} {j : Nat} {b : Bool} (hg : o.guard = some (j, b)) (hy : ud ops ρ j = true) (hd : inB N o.dst = true) (h : TL r P N ops l Q (updO ρ o.dst undef) ds A) : TL r P N ops (o :: l) Q ρ ds A := by
  intro a w hr hs
  have hw : Region.wanted o (Go.yielded ops a.tmps) = false := by simp [Region.wanted, hg, hr.yieldedN hy]
  simp only [wpLi, hw]
  exact ⟨fun _ _ => trivial, h _ _ (hr.put hd undef) hs⟩
theorem TL.split (t : Nat) {b : Bool} (ht : ρ t = .bool b) (h1 : b = true → TL r P N ops l Q (upd ρ t (.bool true)) ds A) (h2 : b = false → TL r P N ops l Q (upd ρ t (.bool false)) ds A) : TL r P N ops l Q ρ ds A := by
  cases b with
  | true => have := h1 rfl; rwa [upd_same ht] at this
  | false => have := h2 rfl; rwa [upd_same ht] at this
theorem TL.known (t : Nat) {b c : Bool} (ht : ρ t = .bool b) (hb : b = c) (h : TL r P N ops l Q (upd ρ t (.bool c)) ds A) : TL r P N ops l Q ρ ds A := by
  subst hb; rwa [upd_same ht] at h
theorem OW.mono {o : Oper} {K' : Value → HP → Prop} (h : OW r P ρ o A K) (hk : ∀ v A', K v A' → K' v A') : OW r P ρ o A K' :=
  fun a w x y => Oper.wpIn_mono (fun _ _ ⟨v, A', h1, h2, h3, h4⟩ => ⟨v, A', h1, h2, h3, hk _ _ h4⟩) (h a w x y)
theorem OW.weak {o : Oper} {B : HP} (e : ent A B) (h : OW r P ρ o B K) : OW r P ρ o A K := fun a w x y => h a w x (y.weak e)
def notDefer : Op → Bool
  | .defer _ => false
  | _ => true
theorem semAt_nd (r : Option Nat) {o : Oper} (h : notDefer o.op = true) (f : Operand → Value) : o.semAt r f = execOp f o :=
  Oper.semAt_eq r f o (fun c hc => by rw [hc] at h; cases h)
theorem OW.run {o : Oper} (hnd : notDefer o.op = true)
    (h : ∀ w, sat w A → ∃ v w' A', ((execOp (ev ρ) o).run P w = .ok (.value v) w' ∨ ((execOp (ev ρ) o).run P w = .ok .skip w' ∧ v = undef)) ∧ Same w w' ∧ sat w' A' ∧ K v A') : OW r P ρ o A K := by
  intro a w he hs
  obtain ⟨v, w', A', hrun, hsm, hs', hk⟩ := h w hs
  refine ⟨fun _ _ => trivial, ?_⟩
  rw [semAt_nd _ hnd, he]
  rcases hrun with hrun | ⟨hrun, rfl⟩ <;> rw [hrun] <;> exact ⟨_, A', rfl, hsm, hs', hk⟩
theorem OW.val {o : Oper} (v : Value) (hnd : notDefer o.op = true) (h : ∀ w, sat w A → (execOp (ev ρ) o).run P w = .ok (.value v) w) (k : K v A) : OW r P ρ o A K :=
  OW.run hnd fun w hs => ⟨v, w, A, .inl (h w hs), Same.refl w, hs, k⟩
def OQ (P : Program) (ρ : Env) (o : Oper) (A : HP) (v : Value) : Prop := ∀ w, sat w A → (execOp (ev ρ) o).run P w = .ok (.value v) w
theorem OW.q {o : Oper} {v : Value} (hnd : notDefer o.op = true) (h : OQ P ρ o A v) (k : K v A) : OW r P ρ o A K := OW.val v hnd h k
variable {op : Op} {d : Option Tmp} {ty : TypeId} {ps : String} {af : Array Edge} {g : Option (Nat × Bool)} {t : Nat} {v : Value} {j : Nat} {b : Bool}
theorem q (hnd : notDefer op = true) (hd : Nat.blt t N = true) (hy : OQ P ρ ⟨some t, op, ty, ps, af, none⟩ A v) (h : TL r P N ops l Q (upd ρ t v) ds A) : TL r P N ops (⟨some t, op, ty, ps, af, none⟩ :: l) Q ρ ds A :=
  TL.cons rfl hd (OW.q hnd hy h)
theorem qg (hyl : yl ops ρ j = some b) (hnd : notDefer op = true) (hd : Nat.blt t N = true) (hy : OQ P ρ ⟨some t, op, ty, ps, af, some (j, b)⟩ A v) (h : TL r P N ops l Q (upd ρ t v) ds A) : TL r P N ops (⟨some t, op, ty, ps, af, some (j, b)⟩ :: l) Q ρ ds A :=
  TL.consG rfl hyl hd (OW.q hnd hy h)
theorem qs (hyl : yl ops ρ j = some (!b)) (hd : Nat.blt t N = true) (h : TL r P N ops l Q (upd ρ t undef) ds A) : TL r P N ops (⟨some t, op, ty, ps, af, some (j, b)⟩ :: l) Q ρ ds A :=
  TL.skipG (o := ⟨some t, op, ty, ps, af, some (j, b)⟩) (b := !b) (by simp) hyl hd h
theorem qsu (hyl : ud ops ρ j = true) (hd : Nat.blt t N = true) (h : TL r P N ops l Q (upd ρ t undef) ds A) : TL r P N ops (⟨some t, op, ty, ps, af, some (j, b)⟩ :: l) Q ρ ds A :=
  TL.skipU (o := ⟨some t, op, ty, ps, af, some (j, b)⟩) rfl hyl hd h
theorem e (hd : Nat.blt t N = true) (h : OW r P ρ ⟨some t, op, ty, ps, af, none⟩ A (fun v A' => TL r P N ops l Q (upd ρ t v) ds A')) : TL r P N ops (⟨some t, op, ty, ps, af, none⟩ :: l) Q ρ ds A :=
  TL.cons rfl hd h
theorem e0 (h : OW r P ρ ⟨none, op, ty, ps, af, none⟩ A (fun _ A' => TL r P N ops l Q ρ ds A')) : TL r P N ops (⟨none, op, ty, ps, af, none⟩ :: l) Q ρ ds A :=
  TL.cons rfl rfl h
theorem eg (hyl : yl ops ρ j = some b) (hd : Nat.blt t N = true) (h : OW r P ρ ⟨some t, op, ty, ps, af, some (j, b)⟩ A (fun v A' => TL r P N ops l Q (upd ρ t v) ds A')) : TL r P N ops (⟨some t, op, ty, ps, af, some (j, b)⟩ :: l) Q ρ ds A :=
  TL.consG rfl hyl hd h
theorem mv {x : Operand} {v : Value} (hx : ev ρ x = v) : OQ P ρ ⟨d, .move x, ty, ps, af, g⟩ A v := fun _ _ => by simp [execOp, hx]
theorem asg {x : Operand} {v : Value} (hx : ev ρ x = v) : OQ P ρ ⟨d, .assign x, ty, ps, af, g⟩ A v := fun _ _ => by simp [execOp, hx]
theorem pkT {c x y : Operand} {v : Value} (hc : ev ρ c = .bool true) (hx : ev ρ x = v) : OQ P ρ ⟨d, .pick c x y, ty, ps, af, g⟩ A v := fun _ _ => by simp [execOp, hc, hx, asBool]
theorem pkF {c x y : Operand} {v : Value} (hc : ev ρ c = .bool false) (hx : ev ρ y = v) : OQ P ρ ⟨d, .pick c x y, ty, ps, af, g⟩ A v := fun _ _ => by simp [execOp, hc, hx, asBool]
theorem nc {x : Operand} {a : Addr} (hx : ev ρ x = .pointer (some a)) : OQ P ρ ⟨d, .nilCheck x, ty, ps, af, g⟩ A (.pointer (some a)) := fun _ _ => by simp [execOp, hx]
theorem pu (v : Value) (h : ∀ w, (execOp (ev ρ) ⟨d, op, ty, ps, af, g⟩).run P w = .ok (.value v) w) : OQ P ρ ⟨d, op, ty, ps, af, g⟩ A v := fun w _ => h w
theorem addr_add (b off n : Nat) : (⟨b, off, none⟩ : Addr).add n = ⟨b, off + n, none⟩ := by unfold Addr.add; split <;> simp_all
def oneT (P : Program) (t : TypeId) : Bool := match P.underlying t with
  | some (.struct _) | some (.array _ _) | none => false
  | some _ => true
def aggT (P : Program) (t : TypeId) (n : Nat) : Bool := match P.underlying t, P.info? t with
  | some (.struct _), some i | some (.array _ _), some i => Nat.beq i.size n
  | _, _ => false
def szT (P : Program) (t : TypeId) (n : Nat) : Bool := match P.info? t with
  | some i => Nat.beq i.size n
  | none => false
def fldT (P : Program) (s : TypeId) (f off : Nat) : Bool := match P.underlying s with
  | some (.struct fs) => match fs[f]? with
    | some fd => Nat.beq fd.offset off && (match P.info? fd.type with | some i => !Nat.beq i.size 0 | none => false)
    | none => false
  | _ => false
theorem isAgg_one {t : TypeId} (h : oneT P t = true) (w : World) : (isAgg t).run P w = .ok false w := by
  unfold oneT at h
  cases hu : P.underlying t with
  | none => rw [hu] at h; cases h
  | some u => rw [hu] at h; cases u <;> first | (simp at h; done) | simp [isAgg, underlying, hu]
theorem isAgg_agg {t : TypeId} {n : Nat} (h : aggT P t n = true) (w : World) : (isAgg t).run P w = .ok true w ∧ (sizeOf t).run P w = .ok n w := by
  unfold aggT at h
  cases hu : P.underlying t with
  | none => rw [hu] at h; cases h
  | some u =>
    rw [hu] at h
    cases hi : P.info? t with
    | none => rw [hi] at h; cases u <;> cases h
    | some i =>
      rw [hi] at h
      cases u <;> first | (cases h; done) | (simp only [] at h; have := Nat.eq_of_beq_eq_true h; simp [isAgg, underlying, hu, sizeOf, typeInfo, hi, this])
theorem szT_run {t : TypeId} {n : Nat} (h : szT P t n = true) (w : World) : (sizeOf t).run P w = .ok n w := by
  unfold szT at h
  cases hi : P.info? t with
  | none => rw [hi] at h; cases h
  | some i => rw [hi] at h; have := Nat.eq_of_beq_eq_true h; simp [sizeOf, typeInfo, hi, this]
theorem fa {s : TypeId} {x : Operand} {f b off : Nat} (o : Nat) (hf : fldT P s f o = true) (hx : ev ρ x = .pointer (some ⟨b, off, none⟩)) :
    OQ P ρ ⟨d, .fieldAddr s x f, ty, ps, af, g⟩ A (.pointer (some ⟨b, off + o, none⟩)) := by
  intro w _
  unfold fldT at hf
  cases hu : P.underlying s with
  | none => rw [hu] at hf; cases hf
  | some u =>
    rw [hu] at hf
    cases u with
    | struct fs =>
      simp only [] at hf
      cases hfd : fs[f]? with
      | none => rw [hfd] at hf; cases hf
      | some fd =>
        rw [hfd] at hf
        simp only [Bool.and_eq_true] at hf
        obtain ⟨h1, h2⟩ := hf
        have h1 := Nat.eq_of_beq_eq_true h1
        cases hi : P.info? fd.type with
        | none => rw [hi] at h2; cases h2
        | some i =>
          rw [hi] at h2
          have hz : i.size ≠ 0 := fun e => by simp [e] at h2
          simp [execOp, Instr.fieldAt, underlying, hu, hfd, hx, Instr.sureAddr, fieldPlace, sizeOf, typeInfo, hi, hz, addr_add, h1]
    | _ => cases hf
theorem cell_of_heap {w : World} {b E : Nat} {l : List Value} {fz : Nat × Nat} (h : w.heap[b]? = some (.cells l.toArray E fz)) (off : Nat) : w.cell? ⟨b, off, none⟩ = l[off]? := by
  simp [World.cell?, h]
theorem loadVar_one {t : TypeId} (ht : oneT P t = true) {w : World} {b off E : Nat} {l : List Value} {fz : Nat × Nat} {v : Value} (h : w.heap[b]? = some (.cells l.toArray E fz)) (hv : l[off]? = some v) :
    (loadVar t ⟨b, off, none⟩).run P w = .ok v w := by
  simp [loadVar, isAgg_one ht, cell_of_heap h, hv]
theorem loadVar_agg {t : TypeId} {n : Nat} (ht : aggT P t n = true) {w : World} {b off E : Nat} {l vs : List Value} {fz : Nat × Nat} (h : w.heap[b]? = some (.cells l.toArray E fz)) (hv : (l.drop off).take n = vs) (hn : vs.length = n) :
    (loadVar t ⟨b, off, none⟩).run P w = .ok (.agg vs.toArray) w := by
  have hl := run_loadCells_list (P := P) w ⟨b, off, none⟩ vs (fun j v hj => by
    rw [addr_add, cell_of_heap h]
    rw [← hv, List.getElem?_take] at hj
    split at hj
    · rwa [List.getElem?_drop] at hj
    · cases hj)
  rw [hn] at hl
  simp [loadVar, isAgg_agg ht, hl]
class RdI (A : HP) (b : Nat) (o : outParam Obj) : Prop where
  rd : Rd A b o
instance (b : Nat) (E : TypeId) (l : List Value) : RdI (pts b E l) b (.cells l.toArray E (0, 0)) := ⟨Rd_pts b E l⟩
instance (b : Nat) (o : Obj) : RdI (obj b o) b o := ⟨Rd_obj b o⟩
instance (A : HP) (l : List HP) (b : Nat) (o : Obj) [h : RdI (sepL l) b o] : RdI (sepL (A :: l)) b o := ⟨Rd_next h.rd⟩
instance (A : HP) (l : List HP) (b : Nat) (o : Obj) [h : RdI A b o] : RdI (sepL (A :: l)) b o := ⟨Rd_here h.rd⟩
theorem ld' {t : TypeId} {x : Operand} {b off E : Nat} {l : List Value} {fz : Nat × Nat} {v : Value} (ht : oneT P t = true) (hx : ev ρ x = .pointer (some ⟨b, off, none⟩)) (hr : Rd A b (.cells l.toArray E fz)) (hv : l[off]? = some v) :
    OQ P ρ ⟨d, .load t x, ty, ps, af, g⟩ A v := by
  intro w hs
  simp [execOp, Instr.loadAt, hx, Instr.sureAddr, loadVar_one ht (hr.sat hs) hv]
theorem ldN' {t : TypeId} {x : Operand} {b off E : Nat} {l vs : List Value} {fz : Nat × Nat} (n : Nat) (ht : aggT P t n = true) (hx : ev ρ x = .pointer (some ⟨b, off, none⟩)) (hr : Rd A b (.cells l.toArray E fz)) (hv : (l.drop off).take n = vs) (hn : vs.length = n) :
    OQ P ρ ⟨d, .load t x, ty, ps, af, g⟩ A (.agg vs.toArray) := by
  intro w hs
  simp [execOp, Instr.loadAt, hx, Instr.sureAddr, loadVar_agg ht (hr.sat hs) hv hn]
theorem ld {t : TypeId} {x : Operand} {b off E : Nat} {l : List Value} {fz : Nat × Nat} {v : Value} (ht : oneT P t = true) (hx : ev ρ x = .pointer (some ⟨b, off, none⟩)) [hr : RdI A b (.cells l.toArray E fz)] (hv : l[off]? = some v) :
    OQ P ρ ⟨d, .load t x, ty, ps, af, g⟩ A v := ld' ht hx hr.rd hv
theorem ldN {t : TypeId} {x : Operand} {b off E : Nat} {l vs : List Value} {fz : Nat × Nat} (n : Nat) (ht : aggT P t n = true) (hx : ev ρ x = .pointer (some ⟨b, off, none⟩)) [hr : RdI A b (.cells l.toArray E fz)] (hv : (l.drop off).take n = vs) (hn : vs.length = n) :
    OQ P ρ ⟨d, .load t x, ty, ps, af, g⟩ A (.agg vs.toArray) := ldN' n ht hx hr.rd hv hn
def splice (off : Nat) (vs l : List Value) : List Value := l.take off ++ vs ++ l.drop (off + vs.length)
theorem splice_length {off : Nat} {vs l : List Value} (h : off + vs.length ≤ l.length) : (splice off vs l).length = l.length := by
  simp [splice]; omega
theorem sat_setRow {w : World} {b E : Nat} {l l' : List Value} (h : sat w (sep (pts b E l) A)) : sat (w.setRow b l'.toArray) (sep (pts b E l') A) := by
  have hb : w.heap[b]? = some (.cells l.toArray E (0, 0)) := (Rd_l (Rd_pts b E l)).sat h
  exact sat_set h (setRow_heap w b _ _ E (0, 0) hb) (fun i hi => setRow_other w b i _ hi)
theorem storeVar_run {t : TypeId} {v : Value} {n : Nat} (ht : szT P t n = true) (hn : v.cells.toList.length = n) (h1 : v.cells.toList.all Value.oneCell' = true) {w : World} {b off E : Nat} {l : List Value}
    (h : w.heap[b]? = some (.cells l.toArray E (0, 0))) (hlen : off + n ≤ l.length) : (storeVar t ⟨b, off, none⟩ v).run P w = .ok () (w.setRow b (splice off v.cells.toList l).toArray) := by
  have := run_storeCells_at P b off E v.cells.toList 0 l.toArray w h (by rw [hn]; simpa using hlen) (fun u hu => by simpa using List.all_eq_true.1 h1 u hu)
  simp only [Nat.add_zero] at this
  have hn' : v.cells.size = n := by simpa using hn
  simp only [storeVar, Sem.run_bind, szT_run ht, Result.andThen_ok, hn', ne_eq, not_true_eq_false, if_false, this, splice]
theorem ow_store (i : Nat) {hs rest : List HP} {t : TypeId} {x y : Operand} {b off E n : Nat} {l l' vs : List Value} {v : Value} (hx : ev ρ x = .pointer (some ⟨b, off, none⟩)) (hi : take1 i hs = some (pts b E l, rest)) (hy : ev ρ y = v)
    (hc : v.cells.toList = vs) (h1 : vs.all Value.oneCell' = true) (ht : szT P t n = true) (hn : vs.length = n) (hlen : off + n ≤ l.length) (hl' : splice off vs l = l') (k : K undef (sepL (pts b E l' :: rest))) :
    OW r P ρ ⟨d, .store t x y, ty, ps, af, g⟩ (sepL hs) K := by
  subst hc
  refine OW.run rfl fun w hsat => ⟨undef, w.setRow b l'.toArray, _, .inr ⟨?_, rfl⟩, ⟨rfl, rfl, rfl, by simp⟩, ?_, k⟩
  · have hb : w.heap[b]? = some (.cells l.toArray E (0, 0)) := (Rd_l (Rd_pts b E l)).sat (hsat.weak (take1_ent hi))
    subst hl'
    simp only [execOp, Instr.storeAt, hx, hy, Instr.sureAddr, Sem.run_bind, Sem.run_pure, Result.andThen_ok, storeVar_run ht hn h1 hb hlen]
  · exact sat_setRow (hsat.weak (take1_ent hi))
class TkI (hs : List HP) (b : Nat) (E : outParam Nat) (l : outParam (List Value)) (r : outParam (List HP)) : Prop where
  tk : ∃ i, take1 i hs = some (pts b E l, r)
instance (b E : Nat) (l : List Value) (r : List HP) : TkI (pts b E l :: r) b E l r := ⟨0, rfl⟩
instance (A : HP) (hs : List HP) (b E : Nat) (l : List Value) (r : List HP) [h : TkI hs b E l r] : TkI (A :: hs) b E l (A :: r) := ⟨by
  obtain ⟨i, hi⟩ := h.tk
  exact ⟨i + 1, by simp [take1, hi]⟩⟩
theorem st {hs rest : List HP} {t : TypeId} {x y : Operand} {b off E : Nat} {l l' vs : List Value} {v : Value} (n : Nat) (ht : szT P t n = true) (hx : ev ρ x = .pointer (some ⟨b, off, none⟩)) (hy : ev ρ y = v)
    (hc : v.cells.toList = vs) (h1 : vs.all Value.oneCell' = true) (hn : Nat.beq vs.length n = true) [hi : TkI hs b E l rest] (hlen : off + n ≤ l.length) (hl' : splice off vs l = l') (k : K undef (sepL (pts b E l' :: rest))) :
    OW r P ρ ⟨d, .store t x y, ty, ps, af, g⟩ (sepL hs) K := by
  obtain ⟨i, hi⟩ := hi.tk
  exact ow_store i hx hi hy hc h1 ht (Nat.eq_of_beq_eq_true hn) hlen hl' k
theorem OW.new {o : Oper} (nd : notDefer o.op = true) (E : TypeId) (l : List Value) (f : Nat → Value) (hrun : ∀ w, (execOp (ev ρ) o).run P w = .ok (.value (f w.heap.size)) (w.alloc (.cells l.toArray E)))
    {hs : List HP} (k : ∀ b, K (f b) (sepL (pts b E l :: hs))) : OW r P ρ o (sepL hs) K :=
  OW.run nd fun w hsat => ⟨_, _, _, .inl (hrun w), ⟨rfl, rfl, rfl, by simp⟩, sat_alloc _ hsat, k w.heap.size⟩
theorem bx {hs : List HP} {E : TypeId} {x : Operand} {v : Value} {l : List Value} (hx : ev ρ x = v) (hc : v.cells.toList = l) (k : ∀ b, K (.pointer (some ⟨b, 0, none⟩)) (sepL (pts b E l :: hs))) :
    OW r P ρ ⟨d, .box E x, ty, ps, af, g⟩ (sepL hs) K := by
  subst hc
  refine OW.new rfl E _ (fun b => .pointer (some ⟨b, 0, none⟩)) (fun w => ?_) k
  simp [execOp, Instr.box, newVar, newRow, hx]
def zeroT (P : Program) (t : TypeId) : Option Value := (P.info? t).bind (·.zero)
theorem zeroT_run {t : TypeId} {z : Value} (h : zeroT P t = some z) (w : World) : (zeroValue t).run P w = .ok z w := by
  unfold zeroT at h
  cases hi : P.info? t with
  | none => rw [hi] at h; cases h
  | some i => rw [hi] at h; simp only [Option.bind_some] at h; simp [zeroValue, typeInfo, hi, h]
theorem al {hs : List HP} {E : TypeId} {z : Value} {l : List Value} (hz : zeroT P E = some z) (hc : z.cells.toList = l) (k : ∀ b, K (.pointer (some ⟨b, 0, none⟩)) (sepL (pts b E l :: hs))) :
    OW r P ρ ⟨d, .alloc E, ty, ps, af, g⟩ (sepL hs) K := by
  subst hc
  refine OW.new rfl E _ (fun b => .pointer (some ⟨b, 0, none⟩)) (fun w => ?_) k
  simp [execOp, Instr.alloc, newVar, newRow, zeroT_run hz]
end
end Go.QM
namespace Go.QM
open Go
def Pu {α : Type} (P : Program) (s : Sem α) : Prop := (∃ r, ∀ w, s.run P w = .ok r w) ∨ ∀ w r w', s.run P w ≠ .ok r w'
theorem Pu.pure {α : Type} {P : Program} (r : α) : Pu P (pure r : Sem α) := .inl ⟨r, fun w => by simp⟩
theorem Pu.bind {α β : Type} {P : Program} {s : Sem α} {f : α → Sem β} (hs : Pu P s) (hf : ∀ a, Pu P (f a)) : Pu P (s >>= f) := by
  rcases hs with ⟨r, hr⟩ | hs
  · rcases hf r with ⟨q, hq⟩ | hn
    · exact .inl ⟨q, fun w => by simp [hr, hq]⟩
    · exact .inr fun w q w' => by simp [hr]; exact hn w q w'
  · refine .inr fun w q w' h => ?_
    rw [Sem.run_bind] at h
    cases hw : s.run P w with
    | ok r w1 => exact hs w r w1 hw
    | halt x w1 => rw [hw] at h; simp [Result.andThen] at h
theorem Pu.stuck {α : Type} {P : Program} (why : String) : Pu P (stuck why : Sem α) := .inr fun w r w' h => by simp at h
theorem Pu.uns {α : Type} {P : Program} (u : Unsupported) : Pu P (unsupported u : Sem α) := .inr fun w r w' h => by simp at h
theorem never_bounds {α : Type} {P : Program} (x y : Int) (s : Bool) (c : BoundsCode) (w : World) (r : α) (w' : World) : (runtimePanic (.bounds x y s c) : Sem α).run P w ≠ .ok r w' := by
  simp [runtimePanic]
theorem never_bind {α β : Type} {P : Program} {s : Sem α} {f : α → Sem β} (hf : ∀ a w r w', (f a).run P w ≠ .ok r w') (w : World) (r : β) (w' : World) : (s >>= f).run P w ≠ .ok r w' := by
  intro h
  rw [Sem.run_bind] at h
  cases hs : s.run P w with
  | ok b w1 => rw [hs] at h; exact hf b w1 r w' h
  | halt x w1 => rw [hs] at h; simp [Result.andThen] at h
theorem Pu.bounds {α : Type} {P : Program} (k : IntKind) (x y : Int) (c : BoundsCode) : Pu P (boundsPanic k x y c : Sem α) := by
  refine .inr fun w r w' h => ?_
  unfold boundsPanic at h
  dsimp only at h
  split at h
  · exact never_bind (fun a w r w' => never_bounds _ _ _ _ _ _ _) w r w' h
  · exact never_bind (fun a w r w' => never_bounds _ _ _ _ _ _ _) w r w' h
theorem Pu.int {P : Program} (v : Value) : Pu P (asIntOf v) := by
  unfold asIntOf
  split
  · exact .pure _
  · exact .uns _
  · exact .stuck _
theorem Pu.und {P : Program} (t : TypeId) : Pu P (underlying t) := by
  unfold underlying
  cases h : P.underlying t with
  | some d => exact .inl ⟨d, fun w => by simp [h]⟩
  | none => exact .inr fun w r w' => by simp [h]
theorem Pu.size {P : Program} (t : TypeId) : Pu P (sizeOf t) := by
  unfold sizeOf typeInfo
  cases h : P.info? t with
  | some d => exact .inl ⟨d.size, fun w => by simp [h]⟩
  | none => exact .inr fun w r w' => by simp [h]
theorem Pu.ixEnd {P : Program} {why : String} (t : TypeId) (k : IntKind) (i : Int) (base : Option Addr) (len : Nat) (elem : TypeId) (tiny : TypeDesc → Bool) : Pu P (do
    let d ← underlying t
    match base with
    | some a => if 0 ≤ i ∧ i < len then (do let z ← sizeOf elem; Pure.pure (Value.pointer (some (a.add (i.toNat * z))))) else if tiny d = true then unsupported (Unsupported.noEntry why) else boundsPanic k i len .index
    | none => boundsPanic k i 0 .index : Sem Value) := by
  refine .bind (.und _) fun u2 => ?_
  cases base with
  | some a =>
    dsimp only
    split
    · exact .bind (.size _) fun _ => .pure _
    · split
      · exact .uns _
      · exact .bounds _ _ _ _
  | none => exact .bounds _ _ _ _
theorem Pu.index {P : Program} (t : TypeId) (x y : Value) : Pu P (Instr.indexAt t x y) := by
  unfold Instr.indexAt
  refine .bind (.int _) fun ki => ?_
  refine .bind (.und _) fun u => ?_
  dsimp only
  split
  · refine .bind ?_ fun _ => .bind (.pure _) fun ble => ?_
    · unfold Instr.sureAddr
      split
      · exact .pure _
      · exact .stuck _
    · exact Pu.ixEnd t ki.1 ki.2 _ _ _ (fun d => decide (ble.2.1 ≤ 1) && match d with | .array _ _ => true | _ => false)
  · exact .bind (.pure _) fun ble => Pu.ixEnd t ki.1 ki.2 _ _ _ (fun d => decide (ble.2.1 ≤ 1) && match d with | .array _ _ => true | _ => false)
  · exact .bind (.stuck _) fun ble => Pu.ixEnd t ki.1 ki.2 _ _ _ (fun d => decide (ble.2.1 ≤ 1) && match d with | .array _ _ => true | _ => false)
def hfree : Op → Bool
  | .move _ | .assign _ | .indexAddr .. => true
  | _ => false
theorem hfree_run {P : Program} {e : Operand → Value} {o : Oper} (h : hfree o.op = true) {v : Value} {w : World} (hr : (execOp e o).run P w = .ok (.value v) w) (w' : World) : (execOp e o).run P w' = .ok (.value v) w' := by
  obtain ⟨d, op, ty, ps, af, g⟩ := o
  cases op <;> first | (cases h; done) | skip
  case move x => simp [execOp] at hr ⊢; exact hr
  case assign x => simp [execOp] at hr ⊢; exact hr
  case indexAddr t x y =>
    have hp : Pu P (Instr.indexAt t (e x) (e y) >>= fun a => (Pure.pure (Next.value a) : Sem Next)) := .bind (.index _ _ _) fun _ => .pure _
    rcases hp with ⟨r, h1⟩ | h1
    · have h2 := (h1 w).symm.trans hr
      cases h2
      exact h1 w'
    · exact absurd hr (h1 w _ w)
def hfr (ops : Array Oper) (i : Nat) : Bool := match ops[i]? with
  | some o => hfree o.op
  | none => false
section
variable {F : Fence} {n : Nat} {P : Program} {ops : Array Oper} {Q : Exit → Act → World → Prop} {I : World → Prop} {T : List Nat}
def wpAnyI (F : Fence) (n : Nat) (P : Program) (ops : Array Oper) (Q : Exit → Act → World → Prop) (I : World → Prop) (T : List Nat) : Nat → Array Bool → Act → World → Prop
  | 0, listed, a, w => Region.ready .any ops listed = [] ∧ Q .normal a w
  | fuel + 1, listed, a, w =>
    (Region.ready .any ops listed = [] → Q .normal a w) ∧
    ∀ i ∈ Region.ready .any ops listed, wpOpIn F n P ops Q i (fun a' w' => (i ∉ T → I w → I w') ∧ wpAnyI F n P ops Q I T fuel (listed.setIfInBounds i true) a' w') a w
theorem wpAnyIn_of_I : ∀ (fuel : Nat) (listed : Array Bool) (a : Act) (w : World), wpAnyI F n P ops Q I T fuel listed a w → wpAnyIn F n P .any ops Q fuel listed a w
  | 0, _, _, _, h => h
  | fuel + 1, _, _, _, h => ⟨h.1, fun i hi => wpOpIn_mono (fun a' w' h' => wpAnyIn_of_I fuel _ a' w' h'.2) (h.2 i hi)⟩
def anc (ops : Array Oper) : Nat → Nat → Nat → Bool
  | 0, _, _ => false
  | f + 1, j, i => match ops[j]? with
    | some o => o.after.any (fun e => Region.binds .any e && e.on == i) || o.after.any (fun e => Region.binds .any e && anc ops f e.on i)
    | none => false
def Closed (ops : Array Oper) (listed : Array Bool) : Prop := ∀ j o, ops[j]? = some o → listed.getD j true = true → ∀ e ∈ o.after, Region.binds .any e = true → listed.getD e.on false = true
theorem anc_listed {listed : Array Bool} (hc : Closed ops listed) : ∀ (f j i : Nat), anc ops f j i = true → (∀ o, ops[j]? = some o → ∀ e ∈ o.after, Region.binds .any e = true → listed.getD e.on false = true) → listed.getD i false = true
  | 0, _, _, h, _ => by simp [anc] at h
  | f + 1, j, i, h, hd => by
    simp only [anc] at h
    cases ho : ops[j]? with
    | none => rw [ho] at h; cases h
    | some o =>
      rw [ho] at h
      simp only [Bool.or_eq_true] at h
      rcases h with h | h
      · obtain ⟨e, he, hb⟩ := Array.any_eq_true'.1 h
        simp only [Bool.and_eq_true, beq_iff_eq] at hb
        have := hd o ho e he hb.1
        rwa [hb.2] at this
      · obtain ⟨e, he, hb⟩ := Array.any_eq_true'.1 h
        simp only [Bool.and_eq_true] at hb
        have h1 := hd o ho e he hb.1
        refine anc_listed hc f e.on i hb.2 (fun o' ho' e' he' hb' => hc e.on o' ho' ?_ e' he' hb')
        have hlt : e.on < listed.size := by
          rcases Nat.lt_or_ge e.on listed.size with h' | h'
          · exact h'
          · simp [Array.getElem?_eq_none h'] at h1
        simp [hlt] at h1 ⊢
        exact h1
theorem Closed.set {listed : Array Bool} (hc : Closed ops listed) {i : Nat} (hr : i ∈ Region.ready .any ops listed) : Closed ops (listed.setIfInBounds i true) := by
  intro j o ho hj e he hb
  obtain ⟨_, oi, hoi, hall⟩ := mem_ready.1 hr
  by_cases hji : i = j
  · subst hji
    rw [hoi] at ho; cases ho
    exact getD_set_true (hall e he hb)
  · rw [getD_set_ne true hji] at hj
    exact getD_set_true (hc j o ho hj e he hb)
theorem ready_not_behind {listed : Array Bool} (hc : Closed ops listed) {i j : Nat} (hi : listed.getD i true = false) (hj : j ∈ Region.ready .any ops listed) (h : anc ops 9 j i = true) : False := by
  obtain ⟨_, o, ho, hall⟩ := mem_ready.1 hj
  have := anc_listed hc 9 j i h (fun o' ho' e he hb => by rw [ho] at ho'; cases ho'; exact hall e he hb)
  rcases Nat.lt_or_ge i listed.size with h' | h'
  · simp [h'] at this hi; rw [this] at hi; cases hi
  · simp [Array.getElem?_eq_none h'] at this
def YieldsI (P : Program) (ops : Array Oper) (I : World → Prop) (o : Oper) (v : Value) (a : Act) : Prop :=
  notDefer o.op = true ∧ ((Region.wanted o (yielded ops a.tmps) = true ∧ ∀ w, I w → (execOp a.eval o).run P w = .ok (.value v) w) ∨
  (Region.wanted o (yielded ops a.tmps) = false ∧ v = undef))
theorem YieldsI.op (hF : ∀ f, F.fn f) {i : Nat} {o : Oper} {v : Value} {a : Act} (hi : ops[i]? = some o) (hy : YieldsI P ops I o v a)
    {K : Act → World → Prop} {w : World} (hS : I w) (h : K (a.put o.dst v) w) : wpOpIn F n P ops Q i K a w := by
  unfold Go.wpOpIn
  simp only [hi]
  obtain ⟨hd, hy⟩ := hy
  rcases hy with ⟨hw, hv⟩ | ⟨hw, rfl⟩
  · simp only [hw, if_true, Oper.wpIn, semAt_nd _ hd, hv w hS, Oper.uponIn]; exact ⟨fun f _ => hF f, h⟩
  · simp only [hw, Bool.false_eq_true, if_false]; exact ⟨fun f _ => hF f, h⟩
theorem YieldsI.of_same {o : Oper} {v : Value} {a a' : Act} (hy : YieldsI P ops I o v a) (he : execOp a'.eval o = execOp a.eval o)
    (hw : Region.wanted o (yielded ops a'.tmps) = Region.wanted o (yielded ops a.tmps)) : YieldsI P ops I o v a' := by
  unfold YieldsI at *
  rw [he, hw]
  exact hy
theorem YieldsI.free {o : Oper} {v : Value} {a : Act} (hy : YieldsI P ops I o v a) {w0 : World} (h0 : I w0) (hf : hfree o.op = true) : YieldsI P ops (fun _ => True) o v a :=
  ⟨hy.1, hy.2.imp (fun h => ⟨h.1, fun w _ => hfree_run hf (h.2 w0 h0) w⟩) (fun h => h)⟩
theorem wpOpIn_putI (hF : ∀ f, F.fn f) {j : Nat} {oi oj : Oper} {v : Value} (hj : ops[j]? = some oj) (hap : oi.apart ops oj = true) (hdj : notDefer oj.op = true)
    (hsi : ∀ cs b, oi.op ≠ .select cs b) (hsj : ∀ cs b, oj.op ≠ .select cs b)
    (hQ : ∀ c a w, Q (.panic c) (a.put oi.dst v) w → Q (.panic c) a w) {K : Act → World → Prop} {a : Act} {w : World}
    (hy : YieldsI P ops I oi v a) (h : wpOpIn F n P ops Q j K (a.put oi.dst v) w) :
    wpOpIn F n P ops Q j (fun a' w' => YieldsI P ops I oi v a' ∧ K (a'.put oi.dst v) w') a w := by
  obtain ⟨h1, h2, h3⟩ := Oper.apart_spec hap
  have keep : ∀ (a : Act), YieldsI P ops I oi v a → ∀ u, YieldsI P ops I oi v (a.put oj.dst u) := fun a hy u =>
    hy.of_same (execOp_put oi hsi a oj.dst u h3) (wanted_put oi a oj.dst u h3)
  have keepD : ∀ d, YieldsI P ops I oi v { a with defers := d :: a.defers } := fun d => hy.of_same rfl rfl
  unfold wpOpIn at *
  simp only [hj] at *
  rw [wanted_put oj a oi.dst v h1] at h
  split
  · rename_i hw
    simp only [hw, if_true] at h
    unfold Oper.wpIn at *
    refine ⟨fun f _ => hF f, ?_⟩
    have h := h.2
    rw [semAt_nd _ hdj, execOp_put oj hsj a oi.dst v h1] at h
    rw [semAt_nd _ hdj]
    generalize (execOp a.eval oj).run P w = r at *
    cases r with
    | ok x w' =>
      cases x <;> simp only [Oper.uponIn] at h ⊢
      case value u => exact ⟨keep a hy u, by rw [← Act.put_comm a v u h2]; exact h⟩
      case skip => exact ⟨keep a hy _, by rw [← Act.put_comm a v undef h2]; exact h⟩
      case defer d =>
        refine ⟨keep _ (keepD d) _, ?_⟩
        rw [← Act.put_comm _ v undef h2, ← Act.put_defers]
        exact h
      case enter f args =>
        refine ⟨h.1, CallsIn.mono h.2 fun e w'' he => ?_⟩
        cases e with
        | returned u => exact ⟨keep a hy u, by rw [← Act.put_comm a v u h2]; exact he⟩
        | panicked c => exact hQ _ _ _ he
        | outgrown => exact he
      case row row args => exact ⟨h.1, RowsIn.mono h.2 fun u w'' he => ⟨keep a hy u, by rw [← Act.put_comm a v u h2]; exact he⟩⟩
      case round l f tmps assign body =>
        refine ⟨h.1, RoundIn.mono h.2 fun e w'' he => ?_⟩
        cases e with
        | returned u => exact ⟨keep a hy u, by rw [← Act.put_comm a v u h2]; exact he⟩
        | panicked c => exact hQ _ _ _ he
        | outgrown => exact he
    | halt x w' =>
      cases x <;> simp only [Oper.uponIn] at h ⊢
      case panic u => exact hQ _ _ _ h
  · rename_i hw
    simp only [hw] at h
    exact ⟨fun f _ => hF f, keep a hy _, by rw [← Act.put_comm a v undef h2]; exact h.2⟩
theorem wpAnyI_first (hF : ∀ f, F.fn f) {i : Nat} {oi : Oper} {v : Value} {I' : World → Prop} (hi : ops[i]? = some oi) (hsel : ∀ (j : Nat) (o : Oper) cs b, ops[j]? = some o → o.op ≠ .select cs b)
    (hnd : ∀ (j : Nat) (o : Oper), ops[j]? = some o → notDefer o.op = true) (hQ : ∀ c a w, Q (.panic c) (a.put oi.dst v) w → Q (.panic c) a w)
    (hT : (∀ w, I' w) ∨ (I' = I ∧ ∀ j ∈ T, anc ops 9 j i = true)) :
    ∀ (fuel : Nat) (listed : Array Bool) (a : Act) (w : World), Closed ops listed →
      (∀ j oj, ops[j]? = some oj → j ≠ i → listed.getD j true = false → (∀ e ∈ oj.after, Region.binds .any e = true → e.on ≠ i) → oi.apart ops oj = true) →
      i ∈ Region.ready .any ops listed → YieldsI P ops I' oi v a → I' w →
      wpAnyI F n P ops Q I T fuel (listed.setIfInBounds i true) (a.put oi.dst v) w → wpAnyI F n P ops Q I T (fuel + 1) listed a w := by
  intro fuel
  induction fuel with
  | zero =>
    intro listed a w hc _ hr hy hS H
    refine ⟨fun h => (by rw [h] at hr; cases hr), fun j hj => ?_⟩
    by_cases hji : j = i
    · subst hji; exact hy.op hF hi hS ⟨fun _ h => h, H⟩
    · have := ready_mono hj hji
      rw [H.1] at this
      cases this
  | succ fuel ih =>
    intro listed a w hc hfree hr hy hS H
    refine ⟨fun h => (by rw [h] at hr; cases hr), fun j hj => ?_⟩
    by_cases hji : j = i
    · subst hji; exact hy.op hF hi hS ⟨fun _ h => h, H⟩
    · have h1 := H.2 j (ready_mono hj hji)
      obtain ⟨hjun, oj, hoj, hall⟩ := mem_ready.1 hj
      have hnot : ∀ e ∈ oj.after, Region.binds .any e = true → e.on ≠ i := fun e he hb heq => by
        have h1 := hall e he hb
        have h0 := (mem_ready.1 hr).1
        rw [heq] at h1
        rcases Nat.lt_or_ge i listed.size with h' | h'
        · simp [h'] at h0 h1; rw [h0] at h1; cases h1
        · simp [Array.getElem?_eq_none h'] at h1
      have h2 := wpOpIn_putI hF hoj (hfree j oj hoj hji hjun hnot) (hnd j oj hoj) (fun cs b => hsel i oi cs b hi) (fun cs b => hsel j oj cs b hoj) hQ hy h1
      have hfree' : ∀ k ok, ops[k]? = some ok → k ≠ i → (listed.setIfInBounds j true).getD k true = false →
          (∀ e ∈ ok.after, Region.binds .any e = true → e.on ≠ i) → oi.apart ops ok = true := fun k ok hk hki hun hno => by
        refine hfree k ok hk hki ?_ hno
        by_cases hjk : j = k
        · subst hjk; exact hjun
        · rw [getD_set_ne true hjk] at hun; exact hun
      refine wpOpIn_mono (fun a' w' h3 => ⟨h3.2.1, ih (listed.setIfInBounds j true) a' w' (hc.set hj) hfree' (ready_mono hr (Ne.symm hji)) h3.1 ?_ ?_⟩) h2
      · rcases hT with hT | ⟨rfl, hT⟩
        · exact hT w'
        · exact h3.2.1 (fun hjT => ready_not_behind hc (mem_ready.1 hr).1 hj (hT j hjT)) hS
      · rw [Array.setIfInBounds_comm _ _ hji]
        exact h3.2.2
def canonB (ops : Array Oper) (T : List Nat) : List (Nat × Bool) → Array Bool → Bool
  | [], listed => (Region.ready .any ops listed).isEmpty
  | (i, false) :: c, listed => (Region.ready .any ops listed).contains i && Region.free .any ops listed i && (T.all (fun j => anc ops 9 j i) || hfr ops i) && canonB ops T c (listed.setIfInBounds i true)
  | (i, true) :: c, listed => (Region.ready .any ops listed == [i]) && canonB ops T c (listed.setIfInBounds i true)
def canonOK (ops : Array Oper) (T : List Nat) (c : List (Nat × Bool)) : Bool :=
  Region.noSelect ops && ops.all (fun o => notDefer o.op) && (c.length == ops.size) && canonB ops T c (Array.replicate ops.size false)
end
section
variable {r : Option Nat} {P : Program} {N : Nat} {ops : Array Oper} {Q : Post} {ρ : Env} {ds : List Deferred} {A I : HP} {T : List Nat} {c : List (Nat × Bool)}
def Np (Q : Exit → Act → World → Prop) : Exit → Act → World → Prop
  | .panic _, _, _ => False
  | e, a, w => Q e a w
theorem Np_mono {w0 w : World} (s : Same w0 w) {e : Exit} {a : Act} {w' : World} (h : Np (wq N w Q) e a w') : Np (wq N w0 Q) e a w' := by
  cases e <;> first | exact h | exact wq_mono (w := w) s (fun _ _ _ _ h => h) h
theorem Np_out {X : Exit → Act → World → Prop} {e : Exit} {a : Act} {w' : World} (h : Np X e a w') : X e a w' := by
  cases e <;> first | exact h.elim | exact h
def TD (r : Option Nat) (P : Program) (N : Nat) (ops : Array Oper) (I : HP) (T : List Nat) (c : List (Nat × Bool)) (Q : Post) (ρ : Env) (ds : List Deferred) (A : HP) : Prop :=
  ∀ a w listed, Rep N a ρ ds → sat w A → (∃ w0, sat w0 I) → (sat w I ∨ ∀ x ∈ c, x.2 = true ∨ hfr ops x.1 = true) → Closed ops listed → Region.noSelect ops = true → (∀ (j : Nat) (o : Oper), ops[j]? = some o → notDefer o.op = true) → canonB ops T c listed = true →
    wpAnyI (FR r) 0 P ops (Np (wq N w Q)) (fun w => sat w I) T c.length listed a w
theorem wpAnyI_mono {F : Fence} {n : Nat} {Q Q' : Exit → Act → World → Prop} {S : World → Prop} (hq : ∀ e a w, Q e a w → Q' e a w) : ∀ (fuel : Nat) (listed : Array Bool) (a : Act) (w : World), wpAnyI F n P ops Q S T fuel listed a w → wpAnyI F n P ops Q' S T fuel listed a w
  | 0, _, _, _, h => ⟨h.1, hq _ _ _ h.2⟩
  | fuel + 1, listed, a, w, h => ⟨fun h0 => hq _ _ _ (h.1 h0), fun i hi => by
      have h1 := h.2 i hi
      unfold wpOpIn at *
      cases ho : ops[i]? with
      | none => rw [ho] at h1; exact ⟨h1.1, wpAnyI_mono hq fuel _ _ _ h1.2⟩
      | some o =>
        rw [ho] at h1
        simp only [] at h1 ⊢
        split
        · rename_i hw
          rw [if_pos hw] at h1
          refine Oper.wpIn_mono (K := fun a' w' => (i ∉ T → S w → S w') ∧ wpAnyI F n P ops Q S T fuel (listed.setIfInBounds i true) a' w') (fun a w h => ⟨h.1, wpAnyI_mono hq fuel _ a w h.2⟩) ?_
          unfold Oper.wpIn at *
          refine ⟨h1.1, ?_⟩
          have h := h1.2
          have hl : LetsOut Q → LetsOut Q' := fun ⟨a, w, x⟩ => ⟨a, w, hq _ _ _ x⟩
          generalize (o.semAt F.round a.eval).run P w = r at *
          cases r with
          | ok x w' =>
            cases x <;> simp only [Oper.uponIn] at h ⊢ <;>
              first
                | exact h
                | exact ⟨h.1, CallsIn.mono h.2 (fun e w'' he => by cases e <;> first | exact he | exact hq _ _ _ he | exact hl he)⟩
                | exact ⟨h.1, RoundIn.mono h.2 (fun e w'' he => by cases e <;> first | exact he | exact hq _ _ _ he | exact hl he)⟩
          | halt x w' => cases x <;> simp only [Oper.uponIn] at h ⊢; exact hq _ _ _ h
        · rename_i hw
          rw [if_neg hw] at h1
          exact ⟨h1.1, h1.2.1, wpAnyI_mono hq fuel _ _ _ h1.2.2⟩⟩
theorem TD.weak {B : HP} (e : ent A B) (h : TD r P N ops I T c Q ρ ds B) : TD r P N ops I T c Q ρ ds A := fun a w l x y => h a w l x (y.weak e)
theorem TD.nil (h : Q .normal ρ ds A) : TD r P N ops I T [] Q ρ ds A := by
  intro a w listed hr hs _ _ _ _ _ hB
  exact ⟨by simpa [canonB] using hB, Same.refl w, ρ, ds, A, hr, hs, h⟩
theorem TD.quiet' {i : Nat} {o : Oper} {v : Value} (ho : ops[i]? = some o) (hd : inB N o.dst = true)
    (hy : ∀ a, Rep N a ρ ds → YieldsI P ops (fun w => sat w I) o v a) (h : TD r P N ops I T c Q (updO ρ o.dst v) ds A) : TD r P N ops I T ((i, false) :: c) Q ρ ds A := by
  intro a w listed hr hs h0 hI hc hsel hnd hB
  simp only [canonB, Bool.and_eq_true, Bool.or_eq_true] at hB
  obtain ⟨⟨⟨hr1, hf⟩, hT⟩, hB⟩ := hB
  have hir : i ∈ Region.ready .any ops listed := by simpa using hr1
  have hI2 : sat w I ∨ ∀ x ∈ c, x.2 = true ∨ hfr ops x.1 = true := hI.imp id fun h x hx => h x (by simp [hx])
  have := h (a.put o.dst v) w (listed.setIfInBounds i true) (hr.put hd v) hs h0 hI2 (hc.set hir) hsel hnd hB
  have hfo : hfr ops i = true → hfree o.op = true := fun h => by rw [hfr, ho] at h; exact h
  have key : hfree o.op = true → wpAnyI (FR r) 0 P ops (Np (wq N w Q)) (fun w => sat w I) T (c.length + 1) listed a w := fun h1 =>
    let ⟨w0, hw0⟩ := h0
    wpAnyI_first (I' := fun _ => True) (FR_fn r) ho (Region.noSelect_spec hsel) hnd (fun c a w h => h.elim) (.inl fun _ => trivial) c.length listed a w hc (Region.free_spec ho hf) hir ((hy a hr).free hw0 h1) trivial this
  rcases hT with hT | hT
  · rcases hI with hI' | hI'
    · exact wpAnyI_first (FR_fn r) ho (Region.noSelect_spec hsel) hnd (fun c a w h => h.elim) (.inr ⟨rfl, fun j hj => List.all_eq_true.1 hT j hj⟩) c.length listed a w hc (Region.free_spec ho hf) hir (hy a hr) hI' this
    · exact key (hfo ((hI' (i, false) (by simp)).resolve_left (by simp)))
  · exact key (hfo hT)
theorem TD.q {i : Nat} {o : Oper} {v : Value} (ho : ops[i]? = some o) (hg : o.guard = none) (hd : inB N o.dst = true) (hnd : notDefer o.op = true)
    (hy : OQ P ρ o I v) (h : TD r P N ops I T c Q (updO ρ o.dst v) ds A) : TD r P N ops I T ((i, false) :: c) Q ρ ds A :=
  TD.quiet' ho hd (fun a hr => ⟨hnd, .inl ⟨by simp [Region.wanted, hg], fun w hs => by rw [hr.eval]; exact hy w hs⟩⟩) h
theorem TD.qG {i : Nat} {o : Oper} {v : Value} {j : Nat} {b : Bool} (ho : ops[i]? = some o) (hg : o.guard = some (j, b)) (hyl : yl ops ρ j = some b) (hd : inB N o.dst = true) (hnd : notDefer o.op = true)
    (hy : OQ P ρ o I v) (h : TD r P N ops I T c Q (updO ρ o.dst v) ds A) : TD r P N ops I T ((i, false) :: c) Q ρ ds A :=
  TD.quiet' ho hd (fun a hr => ⟨hnd, .inl ⟨by simp [Region.wanted, hg, hr.yielded hyl], fun w hs => by rw [hr.eval]; exact hy w hs⟩⟩) h
theorem TD.skip {i : Nat} {o : Oper} {j : Nat} {b : Bool} (ho : ops[i]? = some o) (hg : o.guard = some (j, !b)) (hyl : yl ops ρ j = some b) (hd : inB N o.dst = true) (hnd : notDefer o.op = true)
    (h : TD r P N ops I T c Q (updO ρ o.dst undef) ds A) : TD r P N ops I T ((i, false) :: c) Q ρ ds A :=
  TD.quiet' ho hd (fun a hr => ⟨hnd, .inr ⟨by simp [Region.wanted, hg, hr.yielded hyl], rfl⟩⟩) h
theorem TD.split (t : Nat) {b : Bool} (ht : ρ t = .bool b) (h1 : b = true → TD r P N ops I T c Q (upd ρ t (.bool true)) ds A) (h2 : b = false → TD r P N ops I T c Q (upd ρ t (.bool false)) ds A) : TD r P N ops I T c Q ρ ds A := by
  cases b with
  | true => have := h1 rfl; rwa [upd_same ht] at this
  | false => have := h2 rfl; rwa [upd_same ht] at this
theorem TD.known (t : Nat) {b b' : Bool} (ht : ρ t = .bool b) (hb : b = b') (h : TD r P N ops I T c Q (upd ρ t (.bool b')) ds A) : TD r P N ops I T c Q ρ ds A := by
  subst hb; rwa [upd_same ht] at h
theorem TD.eff' {i : Nat} {o : Oper} (ho : ops[i]? = some o) (hd : inB N o.dst = true) (hw : ∀ a, Rep N a ρ ds → Region.wanted o (yielded ops a.tmps) = true)
    (h : OW r P ρ o A (fun v A' => (T.contains i = true ∨ ent A' I) ∧ ((∀ x ∈ c, x.2 = true ∨ hfr ops x.1 = true) ∨ ent A' I) ∧ TD r P N ops I T c Q (updO ρ o.dst v) ds A')) : TD r P N ops I T ((i, true) :: c) Q ρ ds A := by
  intro a w listed hr hs h0 hI hc hsel hnd hB
  simp only [canonB, Bool.and_eq_true, beq_iff_eq] at hB
  obtain ⟨hr1, hB⟩ := hB
  refine ⟨fun hz => (by rw [hz] at hr1; cases hr1), fun j hj => ?_⟩
  rw [hr1] at hj
  obtain rfl : j = i := by simpa using hj
  have hir : j ∈ Region.ready .any ops listed := by rw [hr1]; simp
  unfold wpOpIn
  rw [ho]
  simp only []
  rw [if_pos (hw a hr)]
  refine Oper.wpIn_mono2 ?_ (h a w hr.eval hs)
  rintro a' w' ⟨v, A', rfl, s, hs', hk1, hk2, hk⟩
  have hgo := hk _ w' (listed.setIfInBounds j true) (hr.put hd v) hs' h0 (hk2.elim .inr fun h => .inl (hs'.weak h)) (hc.set hir) hsel hnd hB
  have hmono : ∀ e a w'', Np (wq N w' Q) e a w'' → Np (wq N w Q) e a w'' := fun e a w'' h => Np_mono s h
  exact ⟨fun hT _ => hk1.elim (fun h => absurd (by simpa using h) hT) fun h => hs'.weak h, wpAnyI_mono hmono c.length _ _ _ hgo⟩
theorem TD.eff {i : Nat} {o : Oper} (ho : ops[i]? = some o) (hg : o.guard = none) (hd : inB N o.dst = true)
    (h : OW r P ρ o A (fun v A' => (T.contains i = true ∨ ent A' I) ∧ ((∀ x ∈ c, x.2 = true ∨ hfr ops x.1 = true) ∨ ent A' I) ∧ TD r P N ops I T c Q (updO ρ o.dst v) ds A')) : TD r P N ops I T ((i, true) :: c) Q ρ ds A :=
  TD.eff' ho hd (fun _ _ => by simp [Region.wanted, hg]) h
theorem TD.effG {i : Nat} {o : Oper} {j : Nat} {b : Bool} (ho : ops[i]? = some o) (hg : o.guard = some (j, b)) (hyl : yl ops ρ j = some b) (hd : inB N o.dst = true)
    (h : OW r P ρ o A (fun v A' => (T.contains i = true ∨ ent A' I) ∧ ((∀ x ∈ c, x.2 = true ∨ hfr ops x.1 = true) ∨ ent A' I) ∧ TD r P N ops I T c Q (updO ρ o.dst v) ds A')) : TD r P N ops I T ((i, true) :: c) Q ρ ds A :=
  TD.eff' ho hd (fun a hr => by simp [Region.wanted, hg, hr.yielded hyl]) h
theorem TD.skipU {i : Nat} {o : Oper} {j : Nat} {b : Bool} (ho : ops[i]? = some o) (hg : o.guard = some (j, b)) (hyl : ud ops ρ j = true) (hd : inB N o.dst = true) (hnd : notDefer o.op = true)
    (h : TD r P N ops I T c Q (updO ρ o.dst undef) ds A) : TD r P N ops I T ((i, false) :: c) Q ρ ds A :=
  TD.quiet' ho hd (fun a hr => ⟨hnd, .inr ⟨by simp [Region.wanted, hg, hr.yieldedN hyl], rfl⟩⟩) h
theorem TD.skipE {i : Nat} {o : Oper} {j : Nat} {b : Bool} (ho : ops[i]? = some o) (hg : o.guard = some (j, !b)) (hyl : yl ops ρ j = some b) (hd : inB N o.dst = true) (hi : (T.contains i = true ∧ ∀ x ∈ c, x.2 = true) ∨ ent A I)
    (h : TD r P N ops I T c Q (updO ρ o.dst undef) ds A) : TD r P N ops I T ((i, true) :: c) Q ρ ds A := by
  intro a w listed hr hs h0 hI hc hsel hnd hB
  simp only [canonB, Bool.and_eq_true, beq_iff_eq] at hB
  obtain ⟨hr1, hB⟩ := hB
  refine ⟨fun hz => (by rw [hz] at hr1; cases hr1), fun j' hj => ?_⟩
  rw [hr1] at hj
  obtain rfl : j' = i := by simpa using hj
  have hir : j' ∈ Region.ready .any ops listed := by rw [hr1]; simp
  unfold wpOpIn
  rw [ho]
  simp only []
  rw [if_neg (by simp [Region.wanted, hg, hr.yielded hyl])]
  exact ⟨fun f _ => FR_fn r f, fun hT _ => hi.elim (fun h => absurd (by simpa using h.1) hT) fun h => hs.weak h,
    h _ w (listed.setIfInBounds j' true) (hr.put hd undef) hs h0 (hi.elim (fun h => .inr fun x hx => .inl (h.2 x hx)) fun h => .inl (hs.weak h)) (hc.set hir) hsel hnd hB⟩
section
variable {op : Op} {ty : TypeId} {ps : String} {af : Array Edge} {t i : Nat} {v : Value} {j : Nat} {b : Bool}
theorem dq (ho : ops[i]? = some ⟨some t, op, ty, ps, af, none⟩) (hnd : notDefer op = true) (hd : Nat.blt t N = true) (hy : OQ P ρ ⟨some t, op, ty, ps, af, none⟩ I v) (h : TD r P N ops I T c Q (upd ρ t v) ds A) : TD r P N ops I T ((i, false) :: c) Q ρ ds A :=
  TD.q ho rfl hd hnd hy h
theorem dg (ho : ops[i]? = some ⟨some t, op, ty, ps, af, some (j, b)⟩) (hyl : yl ops ρ j = some b) (hnd : notDefer op = true) (hd : Nat.blt t N = true) (hy : OQ P ρ ⟨some t, op, ty, ps, af, some (j, b)⟩ I v) (h : TD r P N ops I T c Q (upd ρ t v) ds A) : TD r P N ops I T ((i, false) :: c) Q ρ ds A :=
  TD.qG ho rfl hyl hd hnd hy h
theorem dk (ho : ops[i]? = some ⟨some t, op, ty, ps, af, some (j, b)⟩) (hyl : yl ops ρ j = some (!b)) (hnd : notDefer op = true) (hd : Nat.blt t N = true) (h : TD r P N ops I T c Q (upd ρ t undef) ds A) : TD r P N ops I T ((i, false) :: c) Q ρ ds A :=
  TD.skip (b := !b) ho (by simp) hyl hd hnd h
theorem de (ho : ops[i]? = some ⟨some t, op, ty, ps, af, none⟩) (hd : Nat.blt t N = true)
    (h : OW r P ρ ⟨some t, op, ty, ps, af, none⟩ A (fun v A' => ent A' I ∧ TD r P N ops I T c Q (upd ρ t v) ds A')) : TD r P N ops I T ((i, true) :: c) Q ρ ds A :=
  TD.eff ho rfl hd (h.mono fun _ _ ⟨h1, h2⟩ => ⟨.inr h1, .inr h1, h2⟩)
theorem de0 (ho : ops[i]? = some ⟨none, op, ty, ps, af, none⟩)
    (h : OW r P ρ ⟨none, op, ty, ps, af, none⟩ A (fun _ A' => ent A' I ∧ TD r P N ops I T c Q ρ ds A')) : TD r P N ops I T ((i, true) :: c) Q ρ ds A :=
  TD.eff ho rfl rfl (h.mono fun _ _ ⟨h1, h2⟩ => ⟨.inr h1, .inr h1, h2⟩)
theorem dl (hT : T.contains i = true) (hq : c.all (fun x => x.2 || hfr ops x.1) = true) (ho : ops[i]? = some ⟨some t, op, ty, ps, af, none⟩) (hd : Nat.blt t N = true)
    (h : OW r P ρ ⟨some t, op, ty, ps, af, none⟩ A (fun v A' => TD r P N ops I T c Q (upd ρ t v) ds A')) : TD r P N ops I T ((i, true) :: c) Q ρ ds A :=
  TD.eff ho rfl hd (h.mono fun _ _ h2 => ⟨.inl hT, .inl (fun x hx => by simpa using List.all_eq_true.1 hq x hx), h2⟩)
theorem dl0 (hT : T.contains i = true) (hq : c.all (fun x => x.2 || hfr ops x.1) = true) (ho : ops[i]? = some ⟨none, op, ty, ps, af, none⟩)
    (h : OW r P ρ ⟨none, op, ty, ps, af, none⟩ A (fun _ A' => TD r P N ops I T c Q ρ ds A')) : TD r P N ops I T ((i, true) :: c) Q ρ ds A :=
  TD.eff ho rfl rfl (h.mono fun _ _ h2 => ⟨.inl hT, .inl (fun x hx => by simpa using List.all_eq_true.1 hq x hx), h2⟩)
theorem deg (ho : ops[i]? = some ⟨some t, op, ty, ps, af, some (j, b)⟩) (hyl : yl ops ρ j = some b) (hd : Nat.blt t N = true)
    (h : OW r P ρ ⟨some t, op, ty, ps, af, some (j, b)⟩ A (fun v A' => ent A' I ∧ TD r P N ops I T c Q (upd ρ t v) ds A')) : TD r P N ops I T ((i, true) :: c) Q ρ ds A :=
  TD.effG ho rfl hyl hd (h.mono fun _ _ ⟨h1, h2⟩ => ⟨.inr h1, .inr h1, h2⟩)
theorem dke (ho : ops[i]? = some ⟨some t, op, ty, ps, af, some (j, b)⟩) (hyl : yl ops ρ j = some (!b)) (hd : Nat.blt t N = true) (hi : ent A I) (h : TD r P N ops I T c Q (upd ρ t undef) ds A) : TD r P N ops I T ((i, true) :: c) Q ρ ds A :=
  TD.skipE (b := !b) ho (by simp) hyl hd (.inr hi) h
end
theorem TC.draw {id : Nat} {l : List Oper} (I : HP) (T : List Nat) (c : List (Nat × Bool)) (hm : P.follows .mixedOrders = true) (hB : canonOK l.toArray T c = true) (hI : ent A I)
    (h : TD r P N l.toArray I T c Q ρ ds A) : TC r P N (.region id l.toArray true) Q ρ ds A := by
  intro a w hr hs
  simp only [canonOK, Bool.and_eq_true, beq_iff_eq] at hB
  obtain ⟨⟨⟨h1, h2⟩, h3⟩, h4⟩ := hB
  have hgo := h a { w with drawn := w.drawn + 1 } (Array.replicate l.toArray.size false) hr hs ⟨{ w with drawn := w.drawn + 1 }, sat.weak (w := { w with drawn := w.drawn + 1 }) hs hI⟩ (.inl (sat.weak (w := { w with drawn := w.drawn + 1 }) hs hI)) (by
      intro j o ho hj
      have hlt : j < l.toArray.size := (Array.getElem?_eq_some_iff.1 ho).1
      rw [Array.getD_eq_getD_getElem?, Array.getElem?_replicate, if_pos hlt] at hj
      cases hj) h1 (fun j o ho => Array.all_eq_true_iff_forall_mem.1 h2 o (Array.mem_of_getElem? ho)) h4
  have hmono : ∀ e a w'', Np (wq N { w with drawn := w.drawn + 1 } Q) e a w'' → wq N w Q e a w'' := fun e a w'' h =>
    Np_out (Np_mono (w0 := w) (w := { w with drawn := w.drawn + 1 }) ⟨rfl, rfl, rfl, Nat.le_refl _⟩ h)
  rw [h3] at hgo
  exact wpIn_region_any hm (wpAnyIn_of_I _ _ _ _ (wpAnyI_mono hmono _ _ _ _ hgo))
end
end Go.QM
