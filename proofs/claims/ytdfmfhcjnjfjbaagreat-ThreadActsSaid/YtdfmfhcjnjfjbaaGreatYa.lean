/-
  Proved here: what functions of this program compute, each as a contract over symbolic states, under the premises that each theorem names (most lines printed by a program of the prover).
-/
import Derived.RangeFuncLeaves
import Derived.OrdersIn
import Derived.Laws.World
import Derived.Laws.Sem
import Derived.KernelRfl
namespace Go.QM
open Go
abbrev PH := Nat → Option Obj
def hdisj (a b : PH) : Prop := ∀ i, a i = none ∨ b i = none
def hun (a b : PH) : PH := fun i => match a i with | some o => some o | none => b i
def hsub (a b : PH) : Prop := ∀ i o, a i = some o → b i = some o
abbrev HP := PH → Prop
def sep (A B : HP) : HP := fun h => ∃ a b, hdisj a b ∧ h = hun a b ∧ A a ∧ B b
def emp : HP := fun h => h = fun _ => none
def obj (b : Nat) (o : Obj) : HP := fun h => h = fun i => if i = b then some o else none
def pts (b : Nat) (E : TypeId) (l : List Value) : HP := obj b (.cells l.toArray E (0, 0))
def sepL : List HP → HP
  | [] => emp
  | A :: l => sep A (sepL l)
def EX {α : Type} (A : α → HP) : HP := fun h => ∃ x, A x h
def pure' (p : Prop) (A : HP) : HP := fun h => p ∧ A h
theorem hdisj.symm {a b : PH} (h : hdisj a b) : hdisj b a := fun i => (h i).symm
theorem hun_comm {a b : PH} (h : hdisj a b) : hun a b = hun b a := by
  funext i
  rcases h i with h | h <;> simp only [hun, h]
  · cases b i <;> rfl
  · cases a i <;> rfl
theorem hun_assoc (a b c : PH) : hun (hun a b) c = hun a (hun b c) := by
  funext i; simp only [hun]; cases a i <;> rfl
theorem hsub_refl (a : PH) : hsub a a := fun _ _ h => h
theorem hsub.trans {a b c : PH} (h : hsub a b) (k : hsub b c) : hsub a c := fun i o x => k i o (h i o x)
theorem hsub_hun_l (a b : PH) : hsub a (hun a b) := fun i o h => by simp [hun, h]
theorem hsub_hun_r {a b : PH} (h : hdisj a b) : hsub b (hun a b) := by rw [hun_comm h]; exact hsub_hun_l b a
theorem hsub_hun {a b a' b' : PH} (ha : hsub a a') (hb : hsub b b') (h : hdisj a' b') : hsub (hun a b) (hun a' b') := by
  intro i o hi
  simp only [hun] at hi ⊢
  cases hx : a i with
  | some x => rw [hx] at hi; rw [ha i x hx]; exact hi
  | none =>
    rw [hx] at hi
    have hb' := hb i o hi
    rcases h i with h | h
    · rw [h]; exact hb'
    · rw [h] at hb'; cases hb'
theorem hdisj_sub {a b a' b' : PH} (h : hdisj a' b') (ha : hsub a a') (hb : hsub b b') : hdisj a b := by
  intro i
  rcases h i with h | h
  · left; cases hx : a i with
    | none => rfl
    | some o => have := ha i o hx; rw [h] at this; cases this
  · right; cases hx : b i with
    | none => rfl
    | some o => have := hb i o hx; rw [h] at this; cases this
theorem hdisj_hun {a b c : PH} : hdisj (hun a b) c ↔ hdisj a c ∧ hdisj b c := by
  constructor
  · intro h
    constructor <;> intro i <;> rcases h i with h | h
    · left; simp only [hun] at h; cases hx : a i <;> simp_all
    · right; exact h
    · left; simp only [hun] at h; cases hx : a i <;> simp_all
    · right; exact h
  · intro ⟨h, k⟩ i
    rcases h i with h | h
    · rcases k i with k | k
      · left; simp [hun, h, k]
      · right; exact k
    · right; exact h
def ent (A B : HP) : Prop := ∀ h, A h → ∃ h', hsub h' h ∧ B h'
theorem ent.refl (A : HP) : ent A A := fun h x => ⟨h, hsub_refl h, x⟩
theorem ent.trans {A B C : HP} (x : ent A B) (y : ent B C) : ent A C := fun h a =>
  let ⟨h1, s1, b⟩ := x h a; let ⟨h2, s2, c⟩ := y h1 b; ⟨h2, s2.trans s1, c⟩
theorem ent_of_imp {A B : HP} (x : ∀ h, A h → B h) : ent A B := fun h a => ⟨h, hsub_refl h, x h a⟩
theorem ent_emp (A : HP) : ent A emp := fun _ _ => ⟨fun _ => none, (fun _ _ h => by cases h), rfl⟩
theorem sep_mono {A B A' B' : HP} (x : ent A A') (y : ent B B') : ent (sep A B) (sep A' B') := by
  rintro h ⟨a, b, d, rfl, ha, hb⟩
  obtain ⟨a', sa, ha'⟩ := x a ha
  obtain ⟨b', sb, hb'⟩ := y b hb
  exact ⟨hun a' b', hsub_hun sa sb d, a', b', hdisj_sub d sa sb, rfl, ha', hb'⟩
theorem sep_comm {A B : HP} : ent (sep A B) (sep B A) := ent_of_imp (by
  rintro h ⟨a, b, d, rfl, ha, hb⟩
  exact ⟨b, a, d.symm, hun_comm d, hb, ha⟩)
theorem sep_assoc {A B C : HP} : ent (sep (sep A B) C) (sep A (sep B C)) := ent_of_imp (by
  rintro h ⟨ab, c, d, rfl, ⟨a, b, d', rfl, ha, hb⟩, hc⟩
  obtain ⟨d1, d2⟩ := hdisj_hun.1 d
  exact ⟨a, hun b c, (hdisj_hun.2 ⟨d'.symm, d1.symm⟩).symm, hun_assoc a b c, ha, b, c, d2, rfl, hb, hc⟩)
theorem sep_assoc' {A B C : HP} : ent (sep A (sep B C)) (sep (sep A B) C) := ent_of_imp (by
  rintro h ⟨a, bc, d, rfl, ha, b, c, d', rfl, hb, hc⟩
  obtain ⟨d1, d2⟩ := hdisj_hun.1 d.symm
  exact ⟨hun a b, c, hdisj_hun.2 ⟨d2.symm, d'⟩, (hun_assoc a b c).symm, ⟨a, b, d1.symm, rfl, ha, hb⟩, hc⟩)
theorem sep_emp {A : HP} : ent A (sep A emp) := ent_of_imp (fun h a => ⟨h, fun _ => none, fun _ => .inr rfl, by funext i; simp only [hun]; cases h i <;> rfl, a, rfl⟩)
theorem sep_left {A B : HP} : ent (sep A B) A := by
  rintro h ⟨a, b, d, rfl, ha, hb⟩; exact ⟨a, hsub_hun_l a b, ha⟩
theorem sep_right {A B : HP} : ent (sep A B) B := sep_comm.trans sep_left
theorem sep_swap {A B C : HP} : ent (sep A (sep B C)) (sep B (sep A C)) :=
  sep_assoc'.trans ((sep_mono sep_comm (ent.refl _)).trans sep_assoc)
def take1 : Nat → List HP → Option (HP × List HP)
  | _, [] => none
  | 0, A :: l => some (A, l)
  | n + 1, A :: l => match take1 n l with | some (B, r) => some (B, A :: r) | none => none
theorem take1_ent : ∀ {n : Nat} {l r : List HP} {B : HP}, take1 n l = some (B, r) → ent (sepL l) (sep B (sepL r))
  | _, [], _, _, h => by simp [take1] at h
  | 0, A :: l, _, _, h => by simp only [take1, Option.some.injEq, Prod.mk.injEq] at h; obtain ⟨rfl, rfl⟩ := h; exact ent.refl _
  | n + 1, A :: l, r, B, h => by
    simp only [take1] at h
    cases ht : take1 n l with
    | none => rw [ht] at h; cases h
    | some x =>
      obtain ⟨C, r'⟩ := x
      rw [ht] at h
      simp only [Option.some.injEq, Prod.mk.injEq] at h
      obtain ⟨rfl, rfl⟩ := h
      exact (sep_mono (ent.refl A) (take1_ent ht)).trans sep_swap
def Picked (hs pre rest : List HP) : Prop := ent (sepL hs) (sep (sepL pre) (sepL rest))
theorem picked_nil (hs : List HP) : Picked hs [] hs := sep_emp.trans sep_comm
theorem picked_cons (i : Nat) {hs r pre rest : List HP} {A : HP} (h : take1 i hs = some (A, r)) (k : Picked r pre rest) : Picked hs (A :: pre) rest :=
  (take1_ent h).trans ((sep_mono (ent.refl _) k).trans sep_assoc')
theorem sepL_append : ∀ (l m : List HP), ent (sep (sepL l) (sepL m)) (sepL (l ++ m))
  | [], _ => sep_right
  | _ :: l, m => sep_assoc.trans (sep_mono (ent.refl _) (sepL_append l m))
theorem sepL_append' : ∀ (l m : List HP), ent (sepL (l ++ m)) (sep (sepL l) (sepL m))
  | [], _ => sep_emp.trans sep_comm
  | _ :: l, m => (sep_mono (ent.refl _) (sepL_append' l m)).trans sep_assoc'
theorem ent_nil (hs : List HP) : ent (sepL hs) (sepL []) := ent_emp _
theorem ent_take (n : Nat) {hs r gs : List HP} {B : HP} (h : take1 n hs = some (B, r)) (k : ent (sepL r) (sepL gs)) : ent (sepL hs) (sepL (B :: gs)) :=
  (take1_ent h).trans (sep_mono (ent.refl _) k)
def sat (w : World) (A : HP) : Prop := ∃ h : PH, (∀ i o, h i = some o → w.heap[i]? = some o) ∧ A h
theorem sat.weak {w : World} {A B : HP} (h : sat w A) (e : ent A B) : sat w B :=
  let ⟨x, hx, a⟩ := h; let ⟨y, s, b⟩ := e x a; ⟨y, fun i o hi => hx i o (s i o hi), b⟩
structure Same (w w' : World) : Prop where
  os : w'.os = w.os
  tape : w'.tape = w.tape
  output : w'.output = w.output
  size : w.heap.size ≤ w'.heap.size
theorem Same.refl (w : World) : Same w w := ⟨rfl, rfl, rfl, Nat.le_refl _⟩
theorem Same.trans {a b c : World} (h : Same a b) (k : Same b c) : Same a c := ⟨k.os.trans h.os, k.tape.trans h.tape, k.output.trans h.output, Nat.le_trans h.size k.size⟩
theorem sat_alloc {w : World} {A : HP} (o : Obj) (h : sat w A) : sat (w.alloc o) (sep (obj w.heap.size o) A) := by
  obtain ⟨x, hx, a⟩ := h
  have hlt : ∀ i o, x i = some o → i < w.heap.size := fun i o hi => (Array.getElem?_eq_some_iff.1 (hx i o hi)).1
  refine ⟨hun (fun i => if i = w.heap.size then some o else none) x, ?_, _, x, ?_, rfl, rfl, a⟩
  · intro i o' hi
    simp only [hun] at hi
    show (w.heap.push o)[i]? = some o'
    rw [Array.getElem?_push]
    by_cases e : i = w.heap.size
    · simp [e] at hi; simp [e, hi]
    · simp [e] at hi; rw [if_neg e]; exact hx i o' hi
  · intro i
    by_cases e : i = w.heap.size
    · right
      cases hxi : x i with
      | none => rfl
      | some o' => exact absurd (hlt i o' hxi) (by omega)
    · left; simp [e]
def Rd (A : HP) (b : Nat) (o : Obj) : Prop := ∀ h, A h → h b = some o
theorem Rd.sat {A : HP} {b : Nat} {o : Obj} (r : Rd A b o) {w : World} (h : sat w A) : w.heap[b]? = some o :=
  let ⟨x, hx, a⟩ := h; hx b o (r x a)
theorem Rd_obj (b : Nat) (o : Obj) : Rd (obj b o) b o := fun h e => by rw [e]; simp
theorem Rd_pts (b : Nat) (E : TypeId) (l : List Value) : Rd (pts b E l) b (.cells l.toArray E (0, 0)) := Rd_obj _ _
theorem Rd_l {A B : HP} {b : Nat} {o : Obj} (r : Rd A b o) : Rd (sep A B) b o := by
  rintro h ⟨x, y, d, rfl, ha, hb⟩; exact hsub_hun_l x y b o (r x ha)
theorem Rd_r {A B : HP} {b : Nat} {o : Obj} (r : Rd B b o) : Rd (sep A B) b o := by
  rintro h ⟨x, y, d, rfl, ha, hb⟩; exact hsub_hun_r d b o (r y hb)
theorem Rd_here {A : HP} {l : List HP} {b : Nat} {o : Obj} (r : Rd A b o) : Rd (sepL (A :: l)) b o := Rd_l r
theorem Rd_next {A : HP} {l : List HP} {b : Nat} {o : Obj} (r : Rd (sepL l) b o) : Rd (sepL (A :: l)) b o := Rd_r r
theorem Rd_ent {A B : HP} {b : Nat} {o : Obj} (e : ent A B) (r : Rd B b o) : Rd A b o := fun h a =>
  let ⟨h', s, hb⟩ := e h a; s b o (r h' hb)
theorem sat_set {w w' : World} {A : HP} {b : Nat} {o o' : Obj} (h : sat w (sep (obj b o) A)) (hb : w'.heap[b]? = some o') (hne : ∀ i, i ≠ b → w'.heap[i]? = w.heap[i]?) :
    sat w' (sep (obj b o') A) := by
  obtain ⟨x, hx, p, q, d, rfl, hp, hq⟩ := h
  have hqb : q b = none := by
    rcases d b with h | h
    · rw [hp] at h; simp at h
    · exact h
  refine ⟨hun (fun i => if i = b then some o' else none) q, ?_, _, q, ?_, rfl, rfl, hq⟩
  · intro i o'' hi
    simp only [hun] at hi
    by_cases e : i = b
    · subst e; simp at hi; rw [hb, hi]
    · simp [e] at hi
      rw [hne i e]
      exact hx i o'' (hsub_hun_r d i o'' hi)
  · intro i
    by_cases e : i = b
    · right; rw [e]; exact hqb
    · left; simp [e]
abbrev Env := Nat → Value
def upd (ρ : Env) (d : Nat) (v : Value) : Env := fun t => bif Nat.beq t d then v else ρ t
def updO (ρ : Env) : Option Nat → Value → Env
  | some d, v => upd ρ d v
  | none, _ => ρ
def ev (ρ : Env) : Operand → Value
  | .tmp t => ρ t
  | .const v => v
  | .global g => .pointer (some ⟨g, 0, none⟩)
  | .func f => .func (.func f) #[] #[]
def updL (ρ : Env) : List (Nat × Value) → Env
  | [] => ρ
  | (t, v) :: l => upd (updL ρ l) t v
def holdsL (ρ : Env) : List (Nat × Value) → Prop
  | [] => True
  | (t, v) :: l => ρ t = v ∧ holdsL ρ l
theorem upd_same {ρ : Env} {t : Nat} {v : Value} (h : ρ t = v) : upd ρ t v = ρ := by
  funext s
  simp only [upd]
  cases hb : Nat.beq s t with
  | true => rw [Nat.eq_of_beq_eq_true hb]; simp [h]
  | false => simp
theorem updL_holds {ρ : Env} : ∀ {l : List (Nat × Value)}, holdsL ρ l → updL ρ l = ρ
  | [], _ => rfl
  | (t, v) :: l, h => by rw [updL, updL_holds h.2, upd_same h.1]
structure Rep (N : Nat) (a : Act) (ρ : Env) (ds : List Deferred) : Prop where
  size : a.tmps.size = N
  get : ∀ t, a.tmps.getD t undef = ρ t
  defers : a.defers = ds
theorem Rep.eval {N : Nat} {a : Act} {ρ : Env} {ds : List Deferred} (h : Rep N a ρ ds) : a.eval = ev ρ := by
  funext x; cases x <;> first | exact h.get _ | rfl
def inB (N : Nat) : Option Nat → Bool
  | some d => Nat.blt d N
  | none => true
theorem Rep.put {N : Nat} {a : Act} {ρ : Env} {ds : List Deferred} (h : Rep N a ρ ds) {d : Option Nat} (hd : inB N d = true) (v : Value) : Rep N (a.put d v) (updO ρ d v) ds := by
  cases d with
  | none => exact h
  | some d =>
    have hlt : d < N := by simpa [inB, Nat.blt_eq] using hd
    refine ⟨by simp [Act.put, h.size], fun t => ?_, h.defers⟩
    simp only [Act.put, updO, upd]
    by_cases e : t = d
    · subst e
      have : Nat.beq t t = true := Nat.beq_refl t
      rw [this]; simp [h.size, hlt]
    · have hb : Nat.beq t d = false := by cases hh : Nat.beq t d with | false => rfl | true => exact absurd (Nat.eq_of_beq_eq_true hh) e
      rw [hb, cond_false, ← h.get t]
      rw [Array.getD_eq_getD_getElem?, Array.getD_eq_getD_getElem?, Array.getElem?_setIfInBounds_ne (fun x => e x.symm)]
def FR (r : Option Nat) : Fence := { Fence.wide with round := r }
theorem FR_fn (r : Option Nat) (f : FuncId) : (FR r).fn f := trivial
theorem FR_depth (r : Option Nat) : (FR r).depth.isSome = true → 1 ≤ 0 := fun h => by simp [FR, Fence.wide] at h
abbrev Post := Exit → Env → List Deferred → HP → Prop
def wq (N : Nat) (w : World) (Q : Post) : Exit → Act → World → Prop :=
  fun e a' w' => Same w w' ∧ ∃ ρ' ds' A', Rep N a' ρ' ds' ∧ sat w' A' ∧ Q e ρ' ds' A'
def TC (r : Option Nat) (P : Program) (N : Nat) (c : Code) (Q : Post) (ρ : Env) (ds : List Deferred) (A : HP) : Prop :=
  ∀ a w, Rep N a ρ ds → sat w A → c.wpIn (FR r) 0 P (wq N w Q) a w
theorem wq_mono {N : Nat} {w0 w : World} {Q Q' : Post} (hs : Same w0 w) (hq : ∀ e ρ ds A, Q e ρ ds A → Q' e ρ ds A) {e : Exit} {a' : Act} {w' : World} (h : wq N w Q e a' w') : wq N w0 Q' e a' w' :=
  let ⟨s, ρ, ds, A, x, y, z⟩ := h; ⟨hs.trans s, ρ, ds, A, x, y, hq _ _ _ _ z⟩
def Thn (K : Env → List Deferred → HP → Prop) (Q : Post) : Post
  | .normal, ρ, ds, A => K ρ ds A
  | e, ρ, ds, A => Q e ρ ds A
def Blk (id : Nat) (Q : Post) : Post
  | .exit id', ρ, ds, A => bif Nat.beq id' id then Q .normal ρ ds A else Q (.exit id') ρ ds A
  | e, ρ, ds, A => Q e ρ ds A
section code
variable {r : Option Nat} {P : Program} {N : Nat} {Q : Post} {ρ : Env} {ds : List Deferred} {A : HP}
theorem TC.weak {c : Code} {B : HP} (e : ent A B) (h : TC r P N c Q ρ ds B) : TC r P N c Q ρ ds A := fun a w x y => h a w x (y.weak e)
theorem TC.mono {c : Code} {Q' : Post} (h : TC r P N c Q ρ ds A) (hq : ∀ e ρ ds A, Q e ρ ds A → Q' e ρ ds A) : TC r P N c Q' ρ ds A :=
  fun a w x y => wpIn_mono (h a w x y) fun _ _ _ => wq_mono (Same.refl w) hq
theorem TC.gc {c : Code} (l : List (Nat × Value)) (hl : holdsL ρ l) (h : ∀ ρ', TC r P N c Q (updL ρ' l) ds A) : TC r P N c Q ρ ds A := by
  have := h ρ; rwa [updL_holds hl] at this
theorem TC.skip (h : Q .normal ρ ds A) : TC r P N .skip Q ρ ds A := fun _ w x y => wpIn_skip ⟨Same.refl w, ρ, ds, A, x, y, h⟩
theorem TC.exit {id : Nat} (h : Q (.exit id) ρ ds A) : TC r P N (.exit id) Q ρ ds A := fun _ w x y => wpIn_exit ⟨Same.refl w, ρ, ds, A, x, y, h⟩
theorem TC.goto {l : Nat} (h : Q (.goto l) ρ ds A) : TC r P N (.goto l) Q ρ ds A := fun _ w x y => wpIn_goto ⟨Same.refl w, ρ, ds, A, x, y, h⟩
theorem TC.ret (h : Q .ret ρ ds A) : TC r P N .ret Q ρ ds A := fun _ w x y => wpIn_ret ⟨Same.refl w, ρ, ds, A, x, y, h⟩
theorem TC.seq {x y : Code} (h : TC r P N x (Thn (fun ρ ds A => TC r P N y Q ρ ds A) Q) ρ ds A) : TC r P N (.seq x y) Q ρ ds A := by
  intro a w hr hs
  refine wpIn_seq (wpIn_mono (h a w hr hs) ?_)
  rintro e a' w' ⟨s, ρ', ds', A', x1, x2, x3⟩
  cases e with
  | normal => exact wpIn_mono (x3 a' w' x1 x2) fun _ _ _ => wq_mono s (fun _ _ _ _ h => h)
  | _ => exact ⟨s, ρ', ds', A', x1, x2, x3⟩
theorem TC.block {id : Nat} {c : Code} (h : TC r P N c (Blk id Q) ρ ds A) : TC r P N (.block id c) Q ρ ds A := by
  intro a w hr hs
  refine wpIn_block (wpIn_mono (h a w hr hs) ?_)
  rintro e a' w' ⟨s, ρ', ds', A', x1, x2, x3⟩
  cases e with
  | exit id' =>
    simp only [Exit.inBlock]
    simp only [Blk] at x3
    by_cases e : id' = id
    · subst e
      rw [if_pos rfl]
      have : Nat.beq id' id' = true := Nat.beq_refl _
      rw [this] at x3
      exact ⟨s, ρ', ds', A', x1, x2, x3⟩
    · rw [if_neg e]
      have : Nat.beq id' id = false := by cases hh : Nat.beq id' id with | false => rfl | true => exact absurd (Nat.eq_of_beq_eq_true hh) e
      rw [this] at x3
      exact ⟨s, ρ', ds', A', x1, x2, x3⟩
  | _ => exact ⟨s, ρ', ds', A', x1, x2, x3⟩
theorem TC.cond {c : Operand} {x y : Code} {t : Bool} (hc : ev ρ c = .bool t) (ht : t = true → TC r P N x Q ρ ds A) (hf : t = false → TC r P N y Q ρ ds A) : TC r P N (.cond c x y) Q ρ ds A := by
  intro a w hr hs
  cases t with
  | true => exact wpIn_cond_true (by rw [hr.eval]; exact hc) (ht rfl a w hr hs)
  | false => exact wpIn_cond_false (by rw [hr.eval]; exact hc) (hf rfl a w hr hs)
theorem TC.condT {c : Operand} {x y : Code} (hc : ev ρ c = .bool true) (ht : TC r P N x Q ρ ds A) : TC r P N (.cond c x y) Q ρ ds A :=
  TC.cond hc (fun _ => ht) (fun h => by cases h)
theorem TC.condF {c : Operand} {x y : Code} (hc : ev ρ c = .bool false) (hf : TC r P N y Q ρ ds A) : TC r P N (.cond c x y) Q ρ ds A :=
  TC.cond hc (fun h => by cases h) (fun _ => hf)
theorem TC.condD {c : Operand} {x y : Code} {p : Prop} [Decidable p] (hc : ev ρ c = .bool (decide p)) (ht : p → TC r P N x Q ρ ds A) (hf : ¬ p → TC r P N y Q ρ ds A) : TC r P N (.cond c x y) Q ρ ds A :=
  TC.cond hc (fun h => ht (of_decide_eq_true h)) (fun h => hf (of_decide_eq_false h))
end code
theorem wpIn_loopG {F : Fence} {n : Nat} {P : Program} {Q : Exit → Act → World → Prop} {a : Act} {w : World} {c : Code} (J : Nat → Act → World → Prop) (n0 : Nat) (h₀ : J n0 a w)
    (round : ∀ m a w, J m a w → c.wpIn F n P (Exit.then (fun a' w' => ∃ m', m' < m ∧ J m' a' w') Q) a w) : (Code.loop c).wpIn F n P Q a w := by
  intro b k cs hro hb hr
  have key : ∀ j a w, J j a w →
      ∃ e a' w', Q e a' w' ∧ ArrivesIn (Machine.fenced P F) P (lone (b.atR a (.code c :: .inLoop c :: k)) cs w) b k cs e a' w' := by
    intro j
    induction j using Nat.strongRecOn with
    | _ j ih =>
      intro a w hI
      obtain ⟨e, a₁, w₁, hq, harr⟩ := round j a w hI b (.inLoop c :: k) cs hro hb hr
      cases e with
      | normal =>
        obtain ⟨m', hlt, hI₁⟩ := hq
        obtain ⟨e₂, a₂, w₂, hq₂, harr₂⟩ := ih m' hlt a₁ w₁ hI₁
        exact ⟨e₂, a₂, w₂, hq₂, .of_steps (StepsIn.trans harr (.one (fenced_calm hb hr rfl) stepR_inLoop)) harr₂⟩
      | exit id => exact ⟨_, a₁, w₁, hq, .pass (x := .inLoop c) rfl (fun _ _ => .inl (by simp)) harr⟩
      | goto l => exact ⟨_, a₁, w₁, hq, .pass (x := .inLoop c) rfl (fun _ _ => .inl (by simp)) harr⟩
      | ret => exact ⟨_, a₁, w₁, hq, .pass (x := .inLoop c) rfl (fun _ _ => .inl (by simp)) harr⟩
      | panic ch => exact ⟨_, a₁, w₁, hq, .pass (x := .inLoop c) rfl (fun _ _ => .inl (by simp)) harr⟩
      | outgrown => exact ⟨_, a₁, w₁, hq, .pass (x := .inLoop c) rfl (fun _ _ => .inl (by simp)) harr⟩
  obtain ⟨e, a', w', hq, harr⟩ := key n0 a w h₀
  exact ⟨e, a', w', hq, .of_steps (.one (fenced_calm hb hr rfl) stepR_loop) harr⟩
section code2
variable {r : Option Nat} {P : Program} {N : Nat} {Q : Post} {ρ : Env} {ds : List Deferred} {A : HP}
theorem TC.loop {ι : Type} {c : Code} (inv : ι → Prop) (L : ι → List (Nat × Value)) (B : ι → HP) (μ : ι → Nat) (i0 : ι) (h0 : inv i0) (hl : holdsL ρ (L i0)) (he : ent A (B i0))
    (round : ∀ i, inv i → ∀ ρ', TC r P N c (Thn (fun ρ1 ds1 A1 => ds1 = ds ∧ ∃ j, inv j ∧ μ j < μ i ∧ holdsL ρ1 (L j) ∧ ent A1 (B j)) Q) (updL ρ' (L i)) ds (B i)) :
    TC r P N (.loop c) Q ρ ds A := by
  intro a w hr hs
  refine wpIn_loopG (fun m a' w' => Same w w' ∧ ∃ i ρ', inv i ∧ Rep N a' (updL ρ' (L i)) ds ∧ sat w' (B i) ∧ μ i = m) (μ i0)
    ⟨Same.refl w, i0, ρ, h0, by rw [updL_holds hl]; exact hr, hs.weak he, rfl⟩ ?_
  rintro m a1 w1 ⟨s1, i, ρ', hi, hr1, hs1, rfl⟩
  refine wpIn_mono (round i hi ρ' a1 w1 hr1 hs1) ?_
  rintro e a' w' ⟨s, ρ'', ds', A', x1, x2, x3⟩
  cases e with
  | normal =>
    obtain ⟨rfl, j, hj, hlt, hl', he'⟩ := x3
    exact ⟨μ j, hlt, s1.trans s, j, ρ'', hj, by rw [updL_holds hl']; exact x1, x2.weak he', rfl⟩
  | _ => exact ⟨s1.trans s, ρ'', ds', A', x1, x2, x3⟩
theorem TC.cut {ι : Type} {x y : Code} (inv : ι → Prop) (L : ι → List (Nat × Value)) (B : ι → HP) (h1 : TC r P N x (Thn (fun ρ1 ds1 A1 => ds1 = ds ∧ ∃ j, inv j ∧ holdsL ρ1 (L j) ∧ ent A1 (B j)) Q) ρ ds A)
    (h2 : ∀ j, inv j → ∀ ρ', TC r P N y Q (updL ρ' (L j)) ds (B j)) : TC r P N (.seq x y) Q ρ ds A := by
  refine TC.seq (h1.mono fun e ρ1 ds1 A1 h => ?_)
  cases e with
  | normal =>
    obtain ⟨rfl, j, hj, hl, he⟩ := h
    have := h2 j hj ρ1
    rw [updL_holds hl] at this
    exact this.weak he
  | _ => exact h
variable {K : Env → List Deferred → HP → Prop} {i j : Nat}
theorem nt (h : K ρ ds A) : Thn K Q .normal ρ ds A := h
theorem et (h : Q (.exit i) ρ ds A) : Thn K Q (.exit i) ρ ds A := h
theorem rt (h : Q .ret ρ ds A) : Thn K Q .ret ρ ds A := h
theorem nb (h : Q .normal ρ ds A) : Blk i Q .normal ρ ds A := h
theorem eb (h : Q .normal ρ ds A) : Blk i Q (.exit i) ρ ds A := by
  have : Nat.beq i i = true := Nat.beq_refl i
  simp only [Blk, this, cond_true]; exact h
theorem en (hne : Nat.beq j i = false) (h : Q (.exit j) ρ ds A) : Blk i Q (.exit j) ρ ds A := by
  simp only [Blk, hne, cond_false]; exact h
theorem rb (h : Q .ret ρ ds A) : Blk i Q .ret ρ ds A := h
end code2
end Go.QM
