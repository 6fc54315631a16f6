/-
  A region that draws its order and has more than one chain of effects: each order of these is walked. Nothing of a program stands here.
-/
import Derived.Test.YtdfmfhcjnjfjbaaQLibJ
namespace Go.QM
open Go
section
variable {r : Option Nat} {P : Program} {N : Nat} {ops : Array Oper} {Q : Post} {ρ : Env} {ds : List Deferred} {A I : HP} {T : List Nat} {c : List (Nat × Bool)} {listed : Array Bool} {m : Nat}

def okQ (ops : Array Oper) (T : List Nat) (listed : Array Bool) (i : Nat) : Bool := (Region.ready .any ops listed).contains i && Region.free .any ops listed i && T.all (fun j => anc ops 9 j i)
/-- The walk of what is left of a region. -/
def TF (r : Option Nat) (P : Program) (N : Nat) (ops : Array Oper) (I : HP) (T : List Nat) (listed : Array Bool) (m : Nat) (Q : Post) (ρ : Env) (ds : List Deferred) (A : HP) : Prop :=
  ∀ a w, Rep N a ρ ds → sat w A → sat w I → Closed ops listed → Region.noSelect ops = true → (∀ (j : Nat) (o : Oper), ops[j]? = some o → notDefer o.op = true) →
    wpAnyI (FR r) 0 P ops (Np (wq N w Q)) (fun w => sat w I) T m listed a w
theorem TF.of (c : List (Nat × Bool)) (hB : canonB ops T c listed = true) (hm : c.length = m) (h : TD r P N ops I T c Q ρ ds A) : TF r P N ops I T listed m Q ρ ds A := by
  intro a w hr hs hI hc hsel hnd
  subst hm
  exact h a w listed hr hs ⟨w, hI⟩ (.inl hI) hc hsel hnd hB
theorem TF.weak {B : HP} (e : ent A B) (h : TF r P N ops I T listed m Q ρ ds B) : TF r P N ops I T listed m Q ρ ds A := fun a w x y => h a w x (y.weak e)
theorem TF.quiet {i : Nat} {o : Oper} {v : Value} (ho : ops[i]? = some o) (hd : inB N o.dst = true) (hq : okQ ops T listed i = true)
    (hy : ∀ a, Rep N a ρ ds → YieldsI P ops (fun w => sat w I) o v a) (h : TF r P N ops I T (listed.setIfInBounds i true) m Q (updO ρ o.dst v) ds A) : TF r P N ops I T listed (m + 1) Q ρ ds A := by
  intro a w hr hs hI hc hsel hnd
  simp only [okQ, Bool.and_eq_true] at hq
  obtain ⟨⟨hr1, hf⟩, hT⟩ := hq
  have hir : i ∈ Region.ready .any ops listed := by simpa using hr1
  have := h (a.put o.dst v) w (hr.put hd v) hs hI (hc.set hir) hsel hnd
  exact wpAnyI_first (FR_fn r) ho (Region.noSelect_spec hsel) hnd (fun c a w h => h.elim) (.inr ⟨rfl, fun j hj => List.all_eq_true.1 hT j hj⟩) m listed a w hc (Region.free_spec ho hf) hir (hy a hr) hI this
theorem TF.step {i : Nat} {o : Oper} (ho : ops[i]? = some o) (hg : o.guard = none) (hd : inB N o.dst = true)
    (h : OW r P ρ o A (fun v A' => ent A' I ∧ TF r P N ops I T (listed.setIfInBounds i true) m Q (updO ρ o.dst v) ds A')) {a : Act} {w : World} (hr : Rep N a ρ ds) (hs : sat w A) (hc : Closed ops listed)
    (hsel : Region.noSelect ops = true) (hnd : ∀ (j : Nat) (o : Oper), ops[j]? = some o → notDefer o.op = true) (hir : i ∈ Region.ready .any ops listed) :
    wpOpIn (FR r) 0 P ops (Np (wq N w Q)) i (fun a' w' => (i ∉ T → sat w I → sat w' I) ∧ wpAnyI (FR r) 0 P ops (Np (wq N w Q)) (fun w => sat w I) T m (listed.setIfInBounds i true) a' w') a w := by
  unfold wpOpIn
  rw [ho]
  simp only []
  rw [if_pos (by simp [Region.wanted, hg])]
  refine Oper.wpIn_mono2 ?_ (h a w hr.eval hs)
  rintro a' w' ⟨v, A', rfl, s, hs', hk1, hk⟩
  have hgo := hk _ w' (hr.put hd v) hs' (hs'.weak hk1) (hc.set hir) hsel hnd
  have hmono : ∀ e a w'', Np (wq N w' Q) e a w'' → Np (wq N w Q) e a w'' := fun e a w'' h => Np_mono s h
  exact ⟨fun _ _ => hs'.weak hk1, wpAnyI_mono hmono m _ _ _ hgo⟩
theorem TF.eff {i : Nat} {o : Oper} (ho : ops[i]? = some o) (hg : o.guard = none) (hd : inB N o.dst = true) (hr1 : (Region.ready .any ops listed == [i]) = true)
    (h : OW r P ρ o A (fun v A' => ent A' I ∧ TF r P N ops I T (listed.setIfInBounds i true) m Q (updO ρ o.dst v) ds A')) : TF r P N ops I T listed (m + 1) Q ρ ds A := by
  intro a w hr hs _ hc hsel hnd
  rw [beq_iff_eq] at hr1
  refine ⟨fun hz => (by rw [hz] at hr1; cases hr1), fun j hj => ?_⟩
  have hir := hj
  rw [hr1] at hj
  obtain rfl : j = i := by simpa using hj
  exact TF.step ho hg hd h hr hs hc hsel hnd hir
/-- Two of them may come next. -/
theorem TF.fork {i j : Nat} {oi oj : Oper} (hi : ops[i]? = some oi) (hj : ops[j]? = some oj) (gi : oi.guard = none) (gj : oj.guard = none) (di : inB N oi.dst = true) (dj : inB N oj.dst = true) (hr1 : (Region.ready .any ops listed == [i, j]) = true)
    (h1 : OW r P ρ oi A (fun v A' => ent A' I ∧ TF r P N ops I T (listed.setIfInBounds i true) m Q (updO ρ oi.dst v) ds A'))
    (h2 : OW r P ρ oj A (fun v A' => ent A' I ∧ TF r P N ops I T (listed.setIfInBounds j true) m Q (updO ρ oj.dst v) ds A')) : TF r P N ops I T listed (m + 1) Q ρ ds A := by
  intro a w hr hs _ hc hsel hnd
  rw [beq_iff_eq] at hr1
  refine ⟨fun hz => (by rw [hz] at hr1; cases hr1), fun k hk => ?_⟩
  have hir := hk
  rw [hr1] at hk
  have hk : k = i ∨ k = j := by simpa using hk
  rcases hk with rfl | rfl
  · exact TF.step hi gi di h1 hr hs hc hsel hnd hir
  · exact TF.step hj gj dj h2 hr hs hc hsel hnd hir
section
variable {op op' : Op} {ty ty' : TypeId} {ps ps' : String} {af af' : Array Edge} {t t' i j : Nat} {v : Value}
theorem fq (ho : ops[i]? = some ⟨some t, op, ty, ps, af, none⟩) (hnd : notDefer op = true) (hd : Nat.blt t N = true) (hq : okQ ops T listed i = true) (hy : OQ P ρ ⟨some t, op, ty, ps, af, none⟩ I v)
    (h : TF r P N ops I T (listed.setIfInBounds i true) m Q (upd ρ t v) ds A) : TF r P N ops I T listed (m + 1) Q ρ ds A :=
  TF.quiet ho hd hq (fun a hr => ⟨hnd, .inl ⟨by simp [Region.wanted], fun w hs => by rw [hr.eval]; exact hy w hs⟩⟩) h
theorem fe (ho : ops[i]? = some ⟨some t, op, ty, ps, af, none⟩) (hd : Nat.blt t N = true) (hr1 : (Region.ready .any ops listed == [i]) = true)
    (h : OW r P ρ ⟨some t, op, ty, ps, af, none⟩ A (fun v A' => ent A' I ∧ TF r P N ops I T (listed.setIfInBounds i true) m Q (upd ρ t v) ds A')) : TF r P N ops I T listed (m + 1) Q ρ ds A :=
  TF.eff ho rfl hd hr1 h
theorem ff (hi : ops[i]? = some ⟨some t, op, ty, ps, af, none⟩) (hj : ops[j]? = some ⟨some t', op', ty', ps', af', none⟩) (di : Nat.blt t N = true) (dj : Nat.blt t' N = true) (hr1 : (Region.ready .any ops listed == [i, j]) = true)
    (h1 : OW r P ρ ⟨some t, op, ty, ps, af, none⟩ A (fun v A' => ent A' I ∧ TF r P N ops I T (listed.setIfInBounds i true) m Q (upd ρ t v) ds A'))
    (h2 : OW r P ρ ⟨some t', op', ty', ps', af', none⟩ A (fun v A' => ent A' I ∧ TF r P N ops I T (listed.setIfInBounds j true) m Q (upd ρ t' v) ds A')) : TF r P N ops I T listed (m + 1) Q ρ ds A :=
  TF.fork hi hj rfl rfl di dj hr1 h1 h2
end
/-- The beginning. -/
theorem TC.drawF {id : Nat} {l : List Oper} (I : HP) (T : List Nat) (m : Nat) (hsz : l.toArray.size = m) (hm : P.follows .mixedOrders = true) (hB : (Region.noSelect l.toArray && l.toArray.all (fun o => notDefer o.op)) = true) (hI : ent A I)
    (h : TF r P N l.toArray I T (Array.replicate m false) m Q ρ ds A) : TC r P N (.region id l.toArray true) Q ρ ds A := by
  intro a w hr hs
  subst hsz
  simp only [Bool.and_eq_true] at hB
  obtain ⟨h1, h2⟩ := hB
  have hgo := h a { w with drawn := w.drawn + 1 } hr hs (sat.weak (w := { w with drawn := w.drawn + 1 }) hs hI) (by
      intro j o ho hj
      have hlt : j < l.toArray.size := (Array.getElem?_eq_some_iff.1 ho).1
      rw [Array.getD_eq_getD_getElem?, Array.getElem?_replicate, if_pos hlt] at hj
      cases hj) h1 (fun j o ho => Array.all_eq_true_iff_forall_mem.1 h2 o (Array.mem_of_getElem? ho))
  have hmono : ∀ e a w'', Np (wq N { w with drawn := w.drawn + 1 } Q) e a w'' → wq N w Q e a w'' := fun e a w'' h =>
    Np_out (Np_mono (w0 := w) (w := { w with drawn := w.drawn + 1 }) ⟨rfl, rfl, rfl, Nat.le_refl _⟩ h)
  exact wpIn_region_any hm (wpAnyIn_of_I _ _ _ _ (wpAnyI_mono hmono _ _ _ _ hgo))
end
end Go.QM
