/-
  Proved here: what functions of this program compute, each as a contract over symbolic states, under the premises that each theorem names (most lines printed by a program of the prover).
-/
import Derived.Laws.AppendOwn
import Derived.Test.YtdfmfhcjnjfjbaaGreatYc
namespace Go.QM
open Go
def slc (E sz : Nat) (ad : Option Addr) (n cap : Nat) (cs : List Value) : HP := match ad with
  | none => pure' (n = 0 ∧ cap = 0 ∧ cs = []) emp
  | some p => EX fun x : List Value × List Value =>
      pure' (p = ⟨p.block, x.1.length, none⟩ ∧ cs.length = n * sz ∧ n ≤ cap ∧ cap ≤ maxLen ∧ cap * sz ≤ cs.length + x.2.length) (pts p.block E (x.1 ++ cs ++ x.2))
theorem slc_nil (E sz : Nat) (hs : List HP) : ent (sepL hs) (sepL (slc E sz none 0 0 [] :: hs)) :=
  (sep_emp.trans sep_comm).trans (sep_mono (ent_of_imp fun _ h => ⟨⟨rfl, rfl, rfl⟩, h⟩) (ent.refl _))
def RS (h : PH) (E : Nat) (ad : Option Addr) (cs : List Value) : Prop :=
  cs = [] ∨ ∃ p pre suf fz, ad = some p ∧ p = ⟨p.block, pre.length, none⟩ ∧ h p.block = some (.cells (pre ++ cs ++ suf).toArray E fz)
def RdS (A : HP) (E : Nat) (ad : Option Addr) (cs : List Value) : Prop := ∀ h, A h → RS h E ad cs
theorem RS.sub {h h' : PH} {E : Nat} {ad : Option Addr} {cs : List Value} (x : RS h E ad cs) (s : hsub h h') : RS h' E ad cs := by
  rcases x with x | ⟨p, pre, suf, fz, h1, h2, h3⟩
  · exact .inl x
  · exact .inr ⟨p, pre, suf, fz, h1, h2, s _ _ h3⟩
theorem RdS_slc (E sz : Nat) (ad : Option Addr) (n cap : Nat) (cs : List Value) : RdS (slc E sz ad n cap cs) E ad cs := by
  intro h hs
  cases ad with
  | none => exact .inl hs.1.2.2
  | some p =>
    obtain ⟨⟨pre, suf⟩, ⟨h1, _⟩, h3⟩ := hs
    exact .inr ⟨p, pre, suf, (0, 0), rfl, h1, by rw [h3]; simp⟩
theorem RdS_l {A B : HP} {E : Nat} {ad : Option Addr} {cs : List Value} (x : RdS A E ad cs) : RdS (sep A B) E ad cs := by
  rintro h ⟨a, b, d, rfl, ha, hb⟩; exact (x a ha).sub (hsub_hun_l a b)
theorem RdS_r {A B : HP} {E : Nat} {ad : Option Addr} {cs : List Value} (x : RdS B E ad cs) : RdS (sep A B) E ad cs := by
  rintro h ⟨a, b, d, rfl, ha, hb⟩; exact (x b hb).sub (hsub_hun_r d)
theorem RdS_ent {A B : HP} {E : Nat} {ad : Option Addr} {cs : List Value} (e : ent A B) (x : RdS B E ad cs) : RdS A E ad cs := fun h a =>
  let ⟨h', s, hb⟩ := e h a; (x h' hb).sub s
theorem RdS_drop {A : HP} {E : Nat} {ad : Option Addr} {cs : List Value} (x : RdS A E ad cs) {n cap j sz : Nat} (hl : cs.length = n * sz) (hj : j ≤ n) (hc : n ≤ cap) : RdS A E (sliceOff ad cap j sz) (cs.drop (j * sz)) := fun h a => by
  by_cases hcj : cap = j
  · left
    have : n = j := by omega
    subst this
    rw [List.drop_eq_nil_iff]; omega
  · rcases x h a with x | ⟨p, pre, suf, fz, h1, h2, h3⟩
    · exact .inl (by simp [x])
    · have hle : j * sz ≤ cs.length := by rw [hl]; exact Nat.mul_le_mul_right _ hj
      refine .inr ⟨⟨p.block, pre.length + j * sz, none⟩, pre ++ cs.take (j * sz), suf, fz, ?_, ?_, ?_⟩
      · rw [h1, h2]; simp [sliceOff, hcj, addr_add]
      · simp [Nat.min_eq_left hle]
      · rw [h3, List.append_assoc pre (cs.take _), List.take_append_drop]
class RdSI (A : HP) (ad : Option Addr) (E : outParam Nat) (cs : outParam (List Value)) : Prop where
  rd : RdS A E ad cs
instance (E sz : Nat) (ad : Option Addr) (n cap : Nat) (cs : List Value) : RdSI (slc E sz ad n cap cs) ad E cs := ⟨RdS_slc E sz ad n cap cs⟩
instance (A : HP) (l : List HP) (ad : Option Addr) (E : Nat) (cs : List Value) [h : RdSI (sepL l) ad E cs] : RdSI (sepL (A :: l)) ad E cs := ⟨RdS_r h.rd⟩
instance (A : HP) (l : List HP) (ad : Option Addr) (E : Nat) (cs : List Value) [h : RdSI A ad E cs] : RdSI (sepL (A :: l)) ad E cs := ⟨RdS_l h.rd⟩
class TkS (hs : List HP) (ad : Option Addr) (E sz n cap : outParam Nat) (cs : outParam (List Value)) (r : outParam (List HP)) : Prop where
  tk : ∃ i, take1 i hs = some (slc E sz ad n cap cs, r)
instance (ad : Option Addr) (E sz n cap : Nat) (cs : List Value) (r : List HP) : TkS (slc E sz ad n cap cs :: r) ad E sz n cap cs r := ⟨0, rfl⟩
instance (A : HP) (hs : List HP) (ad : Option Addr) (E sz n cap : Nat) (cs : List Value) (r : List HP) [h : TkS hs ad E sz n cap cs r] : TkS (A :: hs) ad E sz n cap cs (A :: r) := ⟨by
  obtain ⟨i, hi⟩ := h.tk
  exact ⟨i + 1, by simp [take1, hi]⟩⟩
theorem slc_facts {E sz : Nat} {ad : Option Addr} {n cap : Nat} {cs : List Value} {h : PH} (x : slc E sz ad n cap cs h) : cs.length = n * sz ∧ n ≤ cap ∧ cap ≤ maxLen ∧ (ad = none → n = 0) := by
  cases ad with
  | none => obtain ⟨⟨rfl, rfl, rfl⟩, _⟩ := x; simp
  | some p => obtain ⟨⟨pre, suf⟩, ⟨_, h2, h3, h4, _⟩, _⟩ := x; exact ⟨h2, h3, h4, fun e => by cases e⟩
theorem slc_from {E sz : Nat} {ad : Option Addr} {n cap : Nat} {cs : List Value} {j : Nat} (hj : j ≤ n) : ent (slc E sz ad n cap cs) (slc E sz (sliceOff ad cap j sz) (n - j) (cap - j) (cs.drop (j * sz))) := ent_of_imp fun h x => by
  obtain ⟨f1, f2, f3, _⟩ := slc_facts x
  cases ad with
  | none =>
    obtain ⟨⟨rfl, rfl, rfl⟩, x⟩ := x
    obtain rfl : j = 0 := by omega
    simp only [sliceOff, if_true]
    exact ⟨⟨by simp, by simp, by simp⟩, x⟩
  | some p =>
    obtain ⟨⟨pre, suf⟩, ⟨h1, h2, h3, h4, h5⟩, x⟩ := x
    have hle : j * sz ≤ cs.length := by rw [f1]; exact Nat.mul_le_mul_right _ hj
    by_cases hcj : cap = j
    · have hnj : n = j := by omega
      subst hcj hnj
      simp only [sliceOff, if_true, Nat.sub_self]
      refine ⟨(pre, cs ++ suf), ⟨h1, ?_, Nat.le_refl _, Nat.zero_le _, by simp⟩, ?_⟩
      · simp only [List.length_drop]; omega
      · have : cs.drop (n * sz) = [] := by rw [List.drop_eq_nil_iff]; omega
        rw [this]; simpa using x
    · have : sliceOff (some p) cap j sz = some ⟨p.block, pre.length + j * sz, none⟩ := by rw [h1]; simp [sliceOff, hcj, addr_add]
      rw [this]
      refine ⟨(pre ++ cs.take (j * sz), suf), ⟨?_, ?_, by omega, by omega, ?_⟩, ?_⟩
      · simp [Nat.min_eq_left hle]
      · simp only [List.length_drop, f1, Nat.sub_mul]
      · simp only [List.length_drop, Nat.sub_mul]; simp only [] at h5; omega
      · simp only []
        rw [List.append_assoc pre, List.take_append_drop]; exact x
theorem slc_to {E sz : Nat} {ad : Option Addr} {n cap : Nat} {cs : List Value} {j : Nat} (hj : j ≤ n) : ent (slc E sz ad n cap cs) (slc E sz ad j cap (cs.take (j * sz))) := ent_of_imp fun h x => by
  obtain ⟨f1, f2, f3, _⟩ := slc_facts x
  have hle : j * sz ≤ cs.length := by rw [f1]; exact Nat.mul_le_mul_right _ hj
  cases ad with
  | none =>
    obtain ⟨⟨rfl, rfl, rfl⟩, x⟩ := x
    obtain rfl : j = 0 := by omega
    exact ⟨⟨rfl, rfl, by simp⟩, x⟩
  | some p =>
    obtain ⟨⟨pre, suf⟩, ⟨h1, h2, h3, h4, h5⟩, x⟩ := x
    refine ⟨(pre, cs.drop (j * sz) ++ suf), ⟨h1, by simp [Nat.min_eq_left hle], by omega, f3, ?_⟩, ?_⟩
    · simp only [] at h5; simp; omega
    · simp only []
      rw [show pre ++ List.take (j * sz) cs ++ (List.drop (j * sz) cs ++ suf) = pre ++ cs ++ suf by
        rw [List.append_assoc, ← List.append_assoc (List.take _ _), List.take_append_drop, List.append_assoc]]
      exact x
section
variable {r : Option Nat} {P : Program} {N : Nat} {ops : Array Oper} {l : List Oper} {Q : Post} {ρ : Env} {ds : List Deferred} {A : HP} {K : Value → HP → Prop}
variable {d : Option Tmp} {ty : TypeId} {ps : String} {af : Array Edge} {g : Option (Nat × Bool)}
variable {t t' : TypeId} {x y : Operand} {k : IntKind} {a b c : Int}
theorem RdS.sat {E : Nat} {ad : Option Addr} {cs : List Value} (x : RdS A E ad cs) {w : World} (h : QM.sat w A) :
    cs = [] ∨ ∃ p pre suf fz, ad = some p ∧ p = ⟨p.block, pre.length, none⟩ ∧ w.heap[p.block]? = some (.cells (pre ++ cs ++ suf).toArray E fz) := by
  obtain ⟨hh, hx, ha⟩ := h
  rcases x hh ha with x | ⟨p, pre, suf, fz, h1, h2, h3⟩
  · exact .inl x
  · exact .inr ⟨p, pre, suf, fz, h1, h2, hx _ _ h3⟩
theorem RdS.nonnil {E : Nat} {ad : Option Addr} {cs : List Value} (x : RdS A E ad cs) {w : World} (h : QM.sat w A) (hn : cs ≠ []) : ∃ p, ad = some p ∧ p.spot = none := by
  rcases x.sat h with x | ⟨p, pre, suf, fz, h1, h2, h3⟩
  · exact absurd x hn
  · exact ⟨p, h1, by rw [h2]⟩
theorem ixS (E sz : Nat) {E' : Nat} {ad : Option Addr} {n cap i : Nat} {cs : List Value} (ht : slcT P t E sz = true) (hx : ev ρ x = .slice ad n cap) (hy : ev ρ y = .int .i64 (i : Int)) [hr : RdSI A ad E' cs] (hi : i < n) (hc : 0 < cs.length) :
    OQ P ρ ⟨d, .indexAddr t x y, ty, ps, af, g⟩ A (pa ad (i * sz)) := fun w hs => by
  obtain ⟨p, rfl, hp⟩ := hr.rd.nonnil hs (by intro e; rw [e] at hc; cases hc)
  obtain ⟨pb, po, psp⟩ := p
  simp only at hp; subst hp
  simp [execOp, Instr.indexAt, hx, hy, asIntOf, slcT_run ht, hi, addr_add, pa]
theorem ixJ (E sz : Nat) {E' : Nat} {ad : Option Addr} {n cap : Nat} {j : Int} {cs : List Value} (ht : slcT P t E sz = true) (hx : ev ρ x = .slice ad n cap) (hy : ev ρ y = .int .i64 j) [hr : RdSI A ad E' cs] (h0 : 0 ≤ j) (hi : j < n) (hc : 0 < cs.length) :
    OQ P ρ ⟨d, .indexAddr t x y, ty, ps, af, g⟩ A (pa ad (j.toNat * sz)) := fun w hs => by
  obtain ⟨p, rfl, hp⟩ := hr.rd.nonnil hs (by intro e; rw [e] at hc; cases hc)
  obtain ⟨pb, po, psp⟩ := p
  simp only at hp; subst hp
  simp [execOp, Instr.indexAt, hx, hy, asIntOf, slcT_run ht, h0, hi, addr_add, pa]
theorem faS {s : TypeId} {x : Operand} {f : Nat} {ad : Option Addr} {o1 E' : Nat} {cs : List Value} (o : Nat) (hf : fldT P s f o = true) (hx : ev ρ x = pa ad o1) [hr : RdSI A ad E' cs] (hc : 0 < cs.length) :
    OQ P ρ ⟨d, .fieldAddr s x f, ty, ps, af, g⟩ A (pa ad (o1 + o)) := fun w hs => by
  obtain ⟨p, rfl, hp⟩ := hr.rd.nonnil hs (by intro e; rw [e] at hc; cases hc)
  obtain ⟨pb, po, psp⟩ := p
  simp only at hp; subst hp
  have := (fa (A := A) (d := d) (ty := ty) (ps := ps) (af := af) (g := g) o hf (show ev ρ x = .pointer (some ⟨pb, po + o1, none⟩) by rw [hx]; rfl)) w hs
  rw [this]; simp [pa, Nat.add_assoc]
theorem ldS {t : TypeId} {x : Operand} {ad : Option Addr} {o E : Nat} {cs : List Value} {v : Value} (ht : oneT P t = true) (hx : ev ρ x = pa ad o) [hr : RdSI A ad E cs] (hv : cs[o]? = some v) :
    OQ P ρ ⟨d, .load t x, ty, ps, af, g⟩ A v := fun w hs => by
  rcases hr.rd.sat hs with h | ⟨p, pre, suf, fz, rfl, h2, h3⟩
  · rw [h] at hv; simp at hv
  · have ho : o < cs.length := (List.getElem?_eq_some_iff.1 hv).1
    obtain ⟨pb, po, psp⟩ := p
    simp only [Addr.mk.injEq, true_and] at h2
    obtain ⟨rfl, rfl⟩ := h2
    have := loadVar_one (P := P) (off := pre.length + o) ht h3 (v := v) (by
      rw [List.append_assoc, List.getElem?_append_right (by omega), Nat.add_sub_cancel_left, List.getElem?_append_left ho]; exact hv)
    simp [execOp, Instr.loadAt, hx, pa, Instr.sureAddr, this]
theorem ldSN {t : TypeId} {x : Operand} {ad : Option Addr} {o E : Nat} {cs vs : List Value} (n : Nat) (ht : aggT P t n = true) (hx : ev ρ x = pa ad o) [hr : RdSI A ad E cs] (hv : (cs.drop o).take n = vs) (hn : vs.length = n) (h0 : 0 < n) :
    OQ P ρ ⟨d, .load t x, ty, ps, af, g⟩ A (.agg vs.toArray) := fun w hs => by
  have hlen : o + n ≤ cs.length := by
    rw [← hv] at hn; simp only [List.length_take, List.length_drop] at hn; omega
  rcases hr.rd.sat hs with h | ⟨p, pre, suf, fz, rfl, h2, h3⟩
  · rw [h] at hlen; simp at hlen; omega
  · obtain ⟨pb, po, psp⟩ := p
    simp only [Addr.mk.injEq, true_and] at h2
    obtain ⟨rfl, rfl⟩ := h2
    have := loadVar_agg (P := P) (off := pre.length + o) ht h3 (vs := vs) (by
      rw [List.append_assoc, List.drop_append, List.drop_eq_nil_of_le (by omega), Nat.add_sub_cancel_left, List.nil_append, List.drop_append_of_le_length (by omega), List.take_append_of_le_length (by simp; omega)]; exact hv) hn
    simp [execOp, Instr.loadAt, hx, pa, Instr.sureAddr, this]
theorem OW.post {o : Oper} {K1 : Value → HP → Prop} (h : OW r P ρ o A K1) (hk : ∀ v A1, K1 v A1 → ∃ A2, ent A1 A2 ∧ K v A2) : OW r P ρ o A K :=
  fun a w x y => Oper.wpIn_mono (fun _ _ ⟨v, A', h1, h2, h3, h4⟩ => by
    obtain ⟨A2, e, k⟩ := hk v A' h4
    exact ⟨v, A2, h1, h2, h3.weak e, k⟩) (h a w x y)
theorem OW.ex {o : Oper} {α : Type} {B : α → HP} {rest : List HP} (h : ∀ x, OW r P ρ o (sepL (B x :: rest)) K) : OW r P ρ o (sepL (EX B :: rest)) K := fun a w he hs => by
  obtain ⟨hh, hx, p, q', dd, rfl, ⟨z, hp⟩, hq⟩ := hs
  exact h z a w he ⟨_, hx, p, q', dd, rfl, hp, hq⟩
theorem OW.pure {o : Oper} {p : Prop} {B : HP} {rest : List HP} (h : p → OW r P ρ o (sepL (B :: rest)) K) : OW r P ρ o (sepL (pure' p B :: rest)) K := fun a w he hs => by
  obtain ⟨hh, hx, p', q', dd, rfl, ⟨z, hp⟩, hq⟩ := hs
  exact h z a w he ⟨_, hx, p', q', dd, rfl, hp, hq⟩
theorem stS {hs rest : List HP} {t : TypeId} {x y : Operand} {ad : Option Addr} {o E sz n' cap : Nat} {cs cs' vs : List Value} {v : Value} (n : Nat) (ht : szT P t n = true) (hx : ev ρ x = pa ad o) (hy : ev ρ y = v)
    (hc : v.cells.toList = vs) (h1 : vs.all Value.oneCell' = true) (hn : Nat.beq vs.length n = true) (h0 : 0 < n) [hi : TkS hs ad E sz n' cap cs rest] (hlen : o + n ≤ cs.length) (hl' : splice o vs cs = cs') (k : K undef (sepL (slc E sz ad n' cap cs' :: rest))) :
    OW r P ρ ⟨d, .store t x y, ty, ps, af, g⟩ (sepL hs) K := by
  obtain ⟨i, hi⟩ := hi.tk
  have hn := Nat.eq_of_beq_eq_true hn
  refine OW.weak (take1_ent hi) (show OW r P ρ _ (sepL (slc E sz ad n' cap cs :: rest)) K from ?_)
  cases ad with
  | none => exact OW.pure fun ⟨_, _, e⟩ => by rw [e] at hlen; simp at hlen; omega
  | some p =>
    refine OW.ex fun ⟨pre, suf⟩ => OW.pure fun ⟨f1, f2, f3, f4, f5⟩ => ?_
    obtain ⟨pb, po, psp⟩ := p
    simp only [Addr.mk.injEq, true_and] at f1 f5
    obtain ⟨rfl, rfl⟩ := f1
    have hvl : o + vs.length ≤ cs.length := by omega
    have e1 : splice (pre.length + o) vs (pre ++ cs ++ suf) = pre ++ cs' ++ suf := by
      subst hl'
      unfold splice
      rw [List.append_assoc pre cs suf, List.take_append, List.take_of_length_le (by omega), Nat.add_sub_cancel_left, Nat.add_assoc, List.drop_append, List.drop_eq_nil_of_le (by omega), Nat.add_sub_cancel_left, List.nil_append,
        List.take_append_of_le_length (by omega), List.drop_append_of_le_length (by omega)]
      simp [List.append_assoc]
    refine OW.post (K1 := fun v A => v = undef ∧ A = sepL (pts pb E (pre ++ cs' ++ suf) :: rest))
      (ow_store 0 (hs := pts pb E (pre ++ cs ++ suf) :: rest) (b := pb) (off := pre.length + o) (by rw [hx]; rfl) rfl hy hc h1 ht hn (by simp; omega) e1 ⟨rfl, rfl⟩) ?_
    rintro v A1 ⟨rfl, rfl⟩
    refine ⟨_, sep_mono (ent_of_imp fun h x => ?_) (ent.refl _), k⟩
    have hl2 : cs'.length = cs.length := by rw [← hl']; exact splice_length hvl
    exact ⟨(pre, suf), ⟨rfl, by omega, f3, f4, by simp only []; omega⟩, x⟩
end
end Go.QM
namespace Go.QM
open Go
def elT (P : Program) (E sz bytes : Nat) : Bool := match P.info? E with
  | some i => Nat.beq i.size sz && Nat.beq i.bytes bytes && (match i.zero with | some z => Nat.beq z.cells.size sz | none => false)
  | none => false
theorem elT_run {P : Program} {E sz bytes : Nat} (h : elT P E sz bytes = true) : ∃ i z, P.info? E = some i ∧ i.zero = some z ∧ i.size = sz ∧ i.bytes = bytes ∧ z.cells.size = sz := by
  unfold elT at h
  cases hi : P.info? E with
  | none => rw [hi] at h; cases h
  | some i =>
    rw [hi] at h
    simp only [Bool.and_eq_true] at h
    obtain ⟨⟨h1, h2⟩, h3⟩ := h
    cases hz : i.zero with
    | none => rw [hz] at h3; cases h3
    | some z => rw [hz] at h3; exact ⟨i, z, rfl, hz, Nat.eq_of_beq_eq_true h1, Nat.eq_of_beq_eq_true h2, Nat.eq_of_beq_eq_true h3⟩
section
variable {r : Option Nat} {P : Program} {N : Nat} {ops : Array Oper} {l : List Oper} {Q : Post} {ρ : Env} {ds : List Deferred} {A : HP} {K : Value → HP → Prop}
variable {d : Option Tmp} {ty : TypeId} {ps : String} {af : Array Edge} {g : Option (Nat × Bool)}
variable {t t' : TypeId} {x y : Operand} {k : IntKind} {a b c : Int}
theorem firstCells_run {w : World} {E : Nat} {ad : Option Addr} {cs : List Value} {m sz c : Nat} (h : cs = [] ∨ ∃ p pre suf fz, ad = some p ∧ p = ⟨p.block, pre.length, none⟩ ∧ w.heap[p.block]? = some (.cells (pre ++ cs ++ suf).toArray E fz)) (hm : m * sz ≤ cs.length) :
    (Builtin.firstCells sz m (.slice ad m c)).run P w = .ok (cs.take (m * sz)).toArray w := by
  by_cases h0 : m * sz = 0
  · cases ad <;> simp [Builtin.firstCells, h0, loadCells, loadCellsFrom]
  · rcases h with h | ⟨p, pre, suf, fz, rfl, h2, h3⟩
    · rw [h] at hm; simp at hm; omega
    · refine run_firstCells_some w sz m p m c _ (by simp [Nat.min_eq_left hm]) (fun j v hj => ?_)
      obtain ⟨pb, po, psp⟩ := p
      simp only [Addr.mk.injEq, true_and] at h2
      obtain ⟨rfl, rfl⟩ := h2
      rw [addr_add, cell_of_heap h3]
      rw [List.getElem?_take] at hj
      split at hj
      · rename_i hlt
        rw [List.append_assoc, List.getElem?_append_right (by omega), Nat.add_sub_cancel_left, List.getElem?_append_left (by omega)]; exact hj
      · cases hj
theorem ap {hs rest : List HP} {E sz n cap E2 m cap2 : Nat} {ad ad2 : Option Addr} {cs cs2 news : List Value} (bytes : Nat) (ht : slcT P t E sz = true) (ht2 : slcT P t' E sz = true) (hel : elT P E sz bytes = true)
    (hx : ev ρ x = .slice ad n cap) (hy : ev ρ y = .slice ad2 m cap2) [hi : TkS hs ad E sz n cap cs rest] [hr : RdSI (sepL rest) ad2 E2 cs2] (hm : m * sz ≤ cs2.length) (hnews : cs2.take (m * sz) = news) (h1 : news.all Value.oneCell' = true)
    (hb : (n + m) * bytes ≤ 140737488355328) (hl : n + m ≤ maxLen) (k : ∀ ad' cap', K (.slice ad' (n + m) cap') (sepL (slc E sz ad' (n + m) cap' (cs ++ news) :: rest))) :
    OW r P ρ ⟨d, .call ⟨.builtin .append, #[x, y], #[t, t']⟩, ty, ps, af, g⟩ (sepL hs) K := by
  obtain ⟨i, hi⟩ := hi.tk
  obtain ⟨inf, z, hinf, hz, hsz, hby, hzc⟩ := elT_run hel
  refine OW.weak (take1_ent hi) (show OW r P ρ _ (sepL (slc E sz ad n cap cs :: rest)) K from ?_)
  have hnl : news.length = m * sz := by rw [← hnews]; simp [Nat.min_eq_left hm]
  have hlen63 : ¬ ((n + m : Nat) : Int) > IntKind.i64.max := by
    have : maxLen = 9223372036854775807 := rfl
    have e : IntKind.i64.max = 9223372036854775807 := by decide
    rw [e]; omega
  have hty : ∀ w, (Go.typeInfo E).run P w = .ok inf w := fun w => by simp [typeInfo, hinf]
  have hzv : ∀ w, (Go.zeroValue E).run P w = .ok z w := fun w => by simp [zeroValue, typeInfo, hinf, hz]
  -- the grown slice
  have grow : ∀ (w : World), sat w (sepL rest) → cap < n + m → cs.length = n * sz → (∀ w' : World, w'.heap = w.heap → (Builtin.firstCells sz n (.slice ad n cap)).run P w' = .ok cs.toArray w') →
      ∃ v w' A', ((execOp (ev ρ) ⟨d, .call ⟨.builtin .append, #[x, y], #[t, t']⟩, ty, ps, af, g⟩).run P w = .ok (.value v) w' ∨ ((execOp (ev ρ) ⟨d, .call ⟨.builtin .append, #[x, y], #[t, t']⟩, ty, ps, af, g⟩).run P w = .ok .skip w' ∧ v = undef)) ∧ Same w w' ∧ sat w' A' ∧ K v A' := by
    intro w hsat hg hcs hold
    have hf2 : (Builtin.firstCells sz m (.slice ad2 m cap2)).run P w.drew = .ok news.toArray w.drew := by
      rw [← hnews]; exact firstCells_run (hr.rd.sat (w := w.drew) hsat) hm
    have hf1 := hold w.drew rfl
    have hnx : ¬ (Builtin.nextslicecap (n + m) cap * inf.bytes > 2 ^ 48) := by
      have := growslice_fits (need := n + m) (old := cap) (bytes := inf.bytes) hg (by rw [hby]; exact hb)
      omega
    have hge := grownCap_ge w (n + m) cap E
    have hcl := grownCap_le_maxLen w (n + m) cap E hl
    have hnb : ¬ (((n + m : Nat) : Int) > IntKind.i64.max ∧ (false = true ∨ inf.bytes = 0)) := fun ⟨h, _⟩ => hlen63 h
    refine ⟨.slice (some ⟨w.heap.size, 0, none⟩) (n + m) (grownCap w (n + m) cap E), w.drew.alloc (.cells (cs.toArray ++ news.toArray ++ Builtin.zeroCells z.cells (grownCap w (n + m) cap E - (n + m))) E), _, .inl ?_, ⟨rfl, rfl, rfl, by simp⟩, ?_, k _ _⟩
    · simp only [execOp, resolve, invoke, builtin, Builtin.append_, List.map_toArray, List.map_cons, List.map_nil, Sem.run_bind, Sem.run_pure, Result.andThen_ok, hx, hy, List.getElem?_toArray, List.getElem?_cons_zero, List.getElem?_cons_succ, slcT_run ht, slcT_run ht2, Builtin.lenOf, Bool.false_eq_true, if_false]
      rw [if_neg (by omega)]
      simp only [Sem.run_bind, hty, Result.andThen_ok, false_or, if_neg hnx, Sem.run_pure, hlen63, false_and, if_false, run_choose, Question.forced, Bool.false_eq_true, run_askRoom, Bool.not_false, if_true]
      change Result.andThen (Result.andThen (Sem.run P (Builtin.firstCells sz n (.slice ad n cap)) w.drew) _) _ = _
      simp only [hf1, hf2, hzv, Result.andThen_ok, newRow, Sem.run_bind, run_newObj, Sem.run_pure]
      rfl
    · have hs2 := sat_alloc (.cells (cs.toArray ++ news.toArray ++ Builtin.zeroCells z.cells (grownCap w (n + m) cap E - (n + m))) E) (show sat w.drew (sepL rest) from hsat)
      refine hs2.weak (sep_mono (ent_of_imp fun h hh => ?_) (ent.refl _))
      refine ⟨([], (Builtin.zeroCells z.cells (grownCap w (n + m) cap E - (n + m))).toList), ⟨rfl, ?_, hge, hcl, ?_⟩, ?_⟩
      · simp [hcs, hnl, Nat.add_mul]
      · simp only [List.length_append, hcs, hnl, Array.length_toList, size_zeroCells, hzc, ← Nat.add_mul]
        exact Nat.mul_le_mul_right _ (by omega)
      · simp only [pts]
        have e : ([] ++ (cs ++ news) ++ (Builtin.zeroCells z.cells (grownCap w (n + m) cap E - (n + m))).toList).toArray = cs.toArray ++ news.toArray ++ Builtin.zeroCells z.cells (grownCap w (n + m) cap E - (n + m)) := by
          apply Array.ext'; simp
        rw [e]; exact hh
  cases ad with
  | none =>
    refine OW.pure fun ⟨e1, e2, e3⟩ => OW.run rfl fun w hsat => ?_
    subst e1 e2 e3
    have hsat := hsat.weak sep_right
    by_cases h0 : m = 0
    · subst h0
      refine ⟨.slice none 0 0, w, sepL (slc E sz none (0 + 0) 0 ([] ++ news) :: rest), .inl ?_, Same.refl w, hsat.weak (slc_nil E sz rest |>.trans ?_), by simpa using k none 0⟩
      · have hf2 : (Builtin.firstCells sz 0 (.slice ad2 0 cap2)).run P w = .ok #[] w := by cases ad2 <;> simp [Builtin.firstCells, loadCells, loadCellsFrom]
        simp [execOp, resolve, invoke, builtin, Builtin.append_, hx, hy, slcT_run ht, slcT_run ht2, Builtin.lenOf, hf2]
      · have : news = [] := List.eq_nil_of_length_eq_zero (by simpa using hnl)
        subst this; exact ent.refl _
    · exact grow w hsat (by omega) (by simp) (fun w' _ => by simp [Builtin.firstCells])
  | some p =>
    refine OW.ex fun ⟨pre, suf⟩ => OW.pure fun ⟨f1, f2, f3, f4, f5⟩ => OW.run rfl fun w hsat => ?_
    obtain ⟨pb, po, psp⟩ := p
    simp only [Addr.mk.injEq, true_and] at f1 f5
    obtain ⟨rfl, rfl⟩ := f1
    have hblk : w.heap[pb]? = some (.cells (pre ++ cs ++ suf).toArray E (0, 0)) := (Rd_l (Rd_pts pb E _)).sat hsat
    have hrest := hsat.weak sep_right
    by_cases hroom : n + m ≤ cap
    · have hf2 : (Builtin.firstCells sz m (.slice ad2 m cap2)).run P w = .ok news.toArray w := by
        rw [← hnews]; exact firstCells_run (hr.rd.sat hrest) hm
      have hfit : pre.length + n * sz + news.length ≤ (pre ++ cs ++ suf).length := by
        have : (n + m) * sz ≤ cap * sz := Nat.mul_le_mul_right _ hroom
        rw [Nat.add_mul] at this
        simp only [List.length_append]; omega
      have hstore := run_storeCells_at P pb (pre.length + n * sz) E news 0 (pre ++ cs ++ suf).toArray w hblk (by simpa using hfit) (fun u hu => by simpa using List.all_eq_true.1 h1 u hu)
      have e1 : (List.take (pre.length + n * sz + 0) (pre ++ cs ++ suf) ++ news ++ List.drop (pre.length + n * sz + 0 + news.length) (pre ++ cs ++ suf)) = pre ++ (cs ++ news) ++ suf.drop news.length := by
        have e2 : pre.length + n * sz + 0 = (pre ++ cs).length := by simp [f2]
        rw [e2, List.take_left, List.drop_append, List.drop_eq_nil_of_le (by omega)]
        simp
      dsimp only at hstore
      rw [e1] at hstore
      refine ⟨.slice (some ⟨pb, pre.length, none⟩) (n + m) cap, w.setRow pb (pre ++ (cs ++ news) ++ suf.drop news.length).toArray, sepL (slc E sz (some ⟨pb, pre.length, none⟩) (n + m) cap (cs ++ news) :: rest), .inl ?_, ⟨rfl, rfl, rfl, by simp⟩, ?_, k _ _⟩
      · simp only [execOp, resolve, invoke, builtin, Builtin.append_, List.map_toArray, List.map_cons, List.map_nil, Sem.run_bind, Sem.run_pure, Result.andThen_ok, hx, hy, List.getElem?_toArray, List.getElem?_cons_zero, List.getElem?_cons_succ, slcT_run ht, slcT_run ht2, Builtin.lenOf, Bool.false_eq_true, if_false]
        rw [if_pos hroom]
        simp only [Sem.run_bind, Bool.not_false, if_true, hf2, Result.andThen_ok, addr_add, hstore, Sem.run_pure]
      · refine (sat_setRow (l' := pre ++ (cs ++ news) ++ suf.drop news.length) hsat).weak (sep_mono (ent_of_imp fun h hh => ?_) (ent.refl _))
        refine ⟨(pre, suf.drop news.length), ⟨rfl, by simp [f2, hnl, Nat.add_mul], hroom, f4, ?_⟩, hh⟩
        simp only [List.length_append, List.length_drop]
        simp only [List.length_append] at hfit
        omega
    · exact grow w hrest (by omega) f2 (fun w' hw => by
        have hb' : w'.heap[pb]? = some (.cells (pre ++ cs ++ suf).toArray E (0, 0)) := by rw [hw]; exact hblk
        have := firstCells_run (P := P) (w := w') (E := E) (ad := some ⟨pb, pre.length, none⟩) (cs := cs) (m := n) (sz := sz) (c := cap) (.inr ⟨_, pre, suf, (0, 0), rfl, rfl, hb'⟩) (by omega)
        rw [List.take_of_length_le (by omega)] at this
        exact this)
def evP (ρ : Env) : List (Nat × Operand) → List (Nat × Value)
  | [] => []
  | (i, x) :: l => (i, ev ρ x) :: evP ρ l
theorem evP_map (ρ : Env) (l : List (Nat × Operand)) : l.map (fun (i, x) => (i, ev ρ x)) = evP ρ l := by induction l with | nil => rfl | cons x l ih => simp [evP, ih]
theorem replicate_flat_get (z : List Value) : ∀ (n i : Nat), i < n * z.length → (List.replicate n z).flatten[i]? = z[i % z.length]?
  | 0, i, h => by simp at h
  | n + 1, i, h => by
    rw [List.replicate_succ, List.flatten_cons]
    have hz : 0 < z.length := by rcases Nat.eq_zero_or_pos z.length with e | e <;> first | exact e | (rw [e] at h; simp at h)
    by_cases hi : i < z.length
    · rw [List.getElem?_append_left hi, Nat.mod_eq_of_lt hi]
    · have hi := Nat.le_of_not_lt hi
      rw [List.getElem?_append_right hi, replicate_flat_get z n (i - z.length) (by rw [Nat.add_mul] at h; omega), Nat.mod_eq_sub_mod hi]
theorem zero_cells (z : Array Value) (n : Nat) : (Array.range (n * z.size)).map (z[· % z.size]!) = (List.replicate n z.toList).flatten.toArray := by
  apply Array.ext'
  apply List.ext_getElem?
  intro i
  by_cases hi : i < n * z.size
  · have hz : 0 < z.size := by rcases Nat.eq_zero_or_pos z.size with e | e <;> first | exact e | (rw [e] at hi; simp at hi)
    have h1 := replicate_flat_get z.toList n i (by simpa using hi)
    have hm : i % z.size < z.size := Nat.mod_lt _ hz
    simp only [Array.length_toList] at h1
    dsimp only at h1 ⊢
    rw [h1]
    simp [hi, hm]
  · have hl : ((List.replicate n z.toList).flatten).length = n * z.size := by simp
    rw [List.getElem?_eq_none (by simpa using hi), List.getElem?_eq_none (by simpa using hi)]
def bsC (P : Program) (t len : Nat) (parts : List (Nat × Value)) : Option (Nat × Nat × List Value) := match P.underlying t with
  | some (.slice e) => match P.info? e with
    | some i =>
      match bif Nat.ble (len * i.size) 16777216 then i.zero else none with
      | some z => match (bif Nat.beq z.cells.size i.size then Instr.fill (fun j => some (j * i.size, i.size)) (List.replicate len z.cells.toList).flatten.toArray parts else none) with
        | some cells => bif Nat.beq cells.toList.length (len * i.size) && Nat.ble len maxLen then some (e, i.size, cells.toList) else none
        | none => none
      | none => none
    | none => none
  | _ => none
theorem bs {hs : List HP} {t len E sz : Nat} {parts : List (Nat × Operand)} {cs : List Value} (hc : bsC P t len (evP ρ parts) = some (E, sz, cs))
    (k : ∀ b, K (.slice (some ⟨b, 0, none⟩) len len) (sepL (slc E sz (some ⟨b, 0, none⟩) len len cs :: hs))) : OW r P ρ ⟨d, .buildSlice t len parts.toArray, ty, ps, af, g⟩ (sepL hs) K := by
  unfold bsC at hc
  cases hu : P.underlying t with
  | none => rw [hu] at hc; cases hc
  | some u =>
    rw [hu] at hc
    cases u <;> first | (cases hc; done) | skip
    rename_i e
    simp only [] at hc
    cases hi : P.info? e with
    | none => rw [hi] at hc; cases hc
    | some inf =>
      rw [hi] at hc
      simp only [] at hc
      cases hble : Nat.ble (len * inf.size) 16777216 with
      | false => rw [hble] at hc; cases hc
      | true =>
        rw [hble, cond_true] at hc
        have h24 : ¬ (len * inf.size > 2 ^ 24) := by
          have := Nat.le_of_ble_eq_true hble
          have e : 2 ^ 24 = 16777216 := by decide
          omega
        cases hz : inf.zero with
        | none => rw [hz] at hc; cases hc
        | some z =>
          rw [hz] at hc
          simp only [] at hc
          split at hc
          · rename_i cells hf
            have hlm : (Nat.beq cells.toList.length (len * inf.size) && Nat.ble len maxLen) = true := by
              cases hlm : (Nat.beq cells.toList.length (len * inf.size) && Nat.ble len maxLen) with
              | false => rw [hlm] at hc; cases hc
              | true => rfl
            rw [hlm] at hc
            simp only [cond_true, Option.some.injEq, Prod.mk.injEq] at hc
            obtain ⟨rfl, rfl, rfl⟩ := hc
            simp only [Bool.and_eq_true] at hlm
            obtain ⟨hl, hm⟩ := hlm
            have hlen := Nat.eq_of_beq_eq_true hl
            refine OW.run rfl fun w hsat => ⟨.slice (some ⟨w.heap.size, 0, none⟩) len len, w.alloc (.cells cells e), _, .inl ?_, ⟨rfl, rfl, rfl, by simp⟩, (sat_alloc _ hsat).weak (sep_mono (ent_of_imp fun h hh => ?_) (ent.refl _)), k w.heap.size⟩
            · have hzs : Nat.beq z.cells.size inf.size = true := by
                cases hb : Nat.beq z.cells.size inf.size with
                | false => rw [hb] at hf; cases hf
                | true => rfl
              rw [hzs, cond_true] at hf
              have hzs := Nat.eq_of_beq_eq_true hzs
              have hun : ∀ w, (underlying t).run P w = .ok (.slice e) w := fun w => by simp [underlying, hu]
              have hsize : ∀ w, (Go.sizeOf e).run P w = .ok inf.size w := fun w => by simp [Go.sizeOf, typeInfo, hi]
              have hps : List.map (fun x => match x with | (i, x) => (i, ev ρ x)) parts = evP ρ parts := evP_map ρ parts
              simp only [execOp, Instr.buildSlice, List.map_toArray, Sem.run_bind, hun, hsize, Result.andThen_ok, hps]
              rw [if_neg h24]
              have hzv : ∀ w, (zeroValue e).run P w = .ok z w := fun w => by simp [zeroValue, typeInfo, hi, hz]
              by_cases h0 : len * inf.size = 0
              · rw [if_pos h0]
                have hr : (Array.range (len * inf.size)).map ((#[] : Array Value)[· % (#[] : Array Value).size]!) = (List.replicate len z.cells.toList).flatten.toArray := by
                  rw [h0]
                  have : ((List.replicate len z.cells.toList).flatten) = [] := List.eq_nil_of_length_eq_zero (by simp [hzs, h0])
                  rw [this]; apply Array.ext <;> simp
                simp only [Sem.run_bind, Result.andThen_ok, Sem.run_pure, hr, hf, newRow, run_newObj]
                rfl
              · rw [if_neg h0]
                have hr := zero_cells z.cells len
                rw [hzs] at hr
                simp only [Sem.run_bind, Result.andThen_ok, Sem.run_pure, hzv, hzs, hr, hf, newRow, run_newObj]
                rfl
            · refine ⟨([], []), ⟨rfl, hlen, Nat.le_refl _, by simpa using hm, by simp only [List.length_nil]; omega⟩, ?_⟩
              simp only [pts, List.nil_append, List.append_nil, Array.toArray_toList]; exact hh
          · cases hc
def plcT (P : Program) : List Field → Option (List (Nat × Nat))
  | [] => some []
  | f :: fs => match P.info? f.type, plcT P fs with
    | some i, some r => some ((f.offset, i.size) :: r)
    | _, _ => none
theorem plcT_run : ∀ {fs : List Field} {r : List (Nat × Nat)}, plcT P fs = some r → ∀ w, (fs.mapM (m := Sem) fun f => do pure (f.offset, ← Go.sizeOf f.type)).run P w = .ok r w
  | [], _, h, w => by simp only [plcT, Option.some.injEq] at h; subst h; simp
  | f :: fs, r, h, w => by
    simp only [plcT] at h
    cases hi : P.info? f.type with
    | none => rw [hi] at h; cases h
    | some i =>
      cases hr : plcT P fs with
      | none => rw [hi, hr] at h; cases h
      | some r' =>
        rw [hi, hr] at h
        simp only [Option.some.injEq] at h; subst h
        have hs : (Go.sizeOf f.type).run P w = .ok i.size w := by simp [Go.sizeOf, typeInfo, hi]
        simp only [List.mapM_cons, Sem.run_bind, Sem.run_pure, hs, Result.andThen_ok, plcT_run hr w]
def bldC (P : Program) (t : TypeId) (parts : List (Nat × Value)) : Option (List Value) := match P.underlying t, zeroT P t with
  | some (.struct fs), some z => match plcT P fs.toList with
    | some r => (Instr.fill (r[·]?) z.cells parts).map (·.toList)
    | none => none
  | _, _ => none
theorem bld {parts : List (Nat × Operand)} {cs : List Value} (hc : bldC P t (evP ρ parts) = some cs) : OQ P ρ ⟨d, .build t parts.toArray, ty, ps, af, g⟩ A (.agg cs.toArray) := by
  intro w _
  unfold bldC at hc
  cases hu : P.underlying t with
  | none => rw [hu] at hc; cases hc
  | some u =>
    cases hz : zeroT P t with
    | none => rw [hu, hz] at hc; cases u <;> cases hc
    | some z =>
      rw [hu, hz] at hc
      cases u <;> first | (cases hc; done) | skip
      rename_i fs
      simp only [] at hc
      cases hp : plcT P fs.toList with
      | none => rw [hp] at hc; cases hc
      | some rr =>
        rw [hp] at hc
        simp only [Option.map_eq_some_iff] at hc
        obtain ⟨cells, hf, rfl⟩ := hc
        have hun : (underlying t).run P w = .ok (.struct fs) w := by simp [underlying, hu]
        have hm : (fs.mapM (m := Sem) fun f => do pure (f.offset, ← Go.sizeOf f.type)).run P w = .ok rr.toArray w := by
          have e : fs = fs.toList.toArray := by simp
          rw [e, List.mapM_toArray]
          simp only [Sem.run_map]
          have := plcT_run hp w
          exact (congrArg (fun x => Result.andThen x _) this)
        have hps : List.map (fun x => match x with | (i, x) => (i, ev ρ x)) parts = evP ρ parts := evP_map ρ parts
        have hf' : Instr.fill (fun x => rr.toArray[x]?) z.cells (evP ρ parts) = some cells := by simpa using hf
        simp only [execOp, Instr.build, List.map_toArray, hps, Sem.run_bind, zeroT_run hz, Result.andThen_ok, hun, hm, hf', Sem.run_pure, Array.toArray_toList]
theorem mkf {fn : Fn} {fs cs : List Operand} {vf vc : List Value} (hf : evL ρ fs = vf) (hc : evL ρ cs = vc) : OQ P ρ ⟨d, .makeFunc fn fs.toArray cs.toArray, ty, ps, af, g⟩ A (.func fn vf.toArray vc.toArray) := by
  intro w _
  simp [execOp, Instr.makeFunc, evL_map, hf, hc]
end
end Go.QM
