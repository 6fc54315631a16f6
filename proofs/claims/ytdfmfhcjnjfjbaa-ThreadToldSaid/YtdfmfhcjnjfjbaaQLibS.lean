/-
  Slices that own their block, slices that are read: over symbolic states. Nothing of a program stands here.
-/
import Derived.Test.YtdfmfhcjnjfjbaaQLibE
import Derived.Laws.AppendOwn
namespace Go.QM
open Go

/-! ### Pieces -/
/-- A slice of n places (sz cells each): it owns the whole of its block. -/
def slc (E sz : Nat) (ad : Option Addr) (n cap : Nat) (cs : List Value) : HP := match ad with
  | none => pure' (n = 0 ∧ cap = 0 ∧ cs = []) emp
  | some p => EX fun x : List Value × List Value =>
      pure' (p = ⟨p.block, x.1.length, none⟩ ∧ cs.length = n * sz ∧ n ≤ cap ∧ cap ≤ maxLen ∧ cap * sz ≤ cs.length + x.2.length) (pts p.block E (x.1 ++ cs ++ x.2))
theorem slc_nil (E sz : Nat) (hs : List HP) : ent (sepL hs) (sepL (slc E sz none 0 0 [] :: hs)) :=
  (sep_emp.trans sep_comm).trans (sep_mono (ent_of_imp fun _ h => ⟨⟨rfl, rfl, rfl⟩, h⟩) (ent.refl _))
/-- What can be read at an address, in a heap. -/
def RS (h : PH) (E : Nat) (ad : Option Addr) (cs : List Value) : Prop :=
  cs = [] ∨ ∃ p pre suf fz, ad = some p ∧ p = ⟨p.block, pre.length, none⟩ ∧ h p.block = some (.cells (pre ++ cs ++ suf).toArray E fz)
def RdS (A : HP) (E : Nat) (ad : Option Addr) (cs : List Value) : Prop := ∀ h, A h → RS h E ad cs
theorem RS.sub {h h' : PH} {E : Nat} {ad : Option Addr} {cs : List Value} (x : RS h E ad cs) (s : hsub h h') : RS h' E ad cs := by
  rcases x with x | ⟨p, pre, suf, fz, h1, h2, h3⟩
  · exact .inl x
  · exact .inr ⟨p, pre, suf, fz, h1, h2, s _ _ h3⟩
theorem RdS_slc (E sz : Nat) (ad : Option Addr) (n cap : Nat) (cs : List Value) : RdS (slc E sz ad n cap cs) E ad cs := by
  intro h hs
  cases ad with
  | none => exact .inl hs.1.2.2
  | some p =>
    obtain ⟨⟨pre, suf⟩, ⟨h1, _⟩, h3⟩ := hs
    exact .inr ⟨p, pre, suf, (0, 0), rfl, h1, by rw [h3]; simp⟩
theorem RdS_l {A B : HP} {E : Nat} {ad : Option Addr} {cs : List Value} (x : RdS A E ad cs) : RdS (sep A B) E ad cs := by
  rintro h ⟨a, b, d, rfl, ha, hb⟩; exact (x a ha).sub (hsub_hun_l a b)
theorem RdS_r {A B : HP} {E : Nat} {ad : Option Addr} {cs : List Value} (x : RdS B E ad cs) : RdS (sep A B) E ad cs := by
  rintro h ⟨a, b, d, rfl, ha, hb⟩; exact (x b hb).sub (hsub_hun_r d)
theorem RdS_ent {A B : HP} {E : Nat} {ad : Option Addr} {cs : List Value} (e : ent A B) (x : RdS B E ad cs) : RdS A E ad cs := fun h a =>
  let ⟨h', s, hb⟩ := e h a; (x h' hb).sub s
theorem RdS_take {A : HP} {E : Nat} {ad : Option Addr} {cs : List Value} (x : RdS A E ad cs) (k : Nat) : RdS A E ad (cs.take k) := fun h a => by
  rcases x h a with x | ⟨p, pre, suf, fz, h1, h2, h3⟩
  · exact .inl (by simp [x])
  · refine .inr ⟨p, pre, cs.drop k ++ suf, fz, h1, h2, ?_⟩
    rw [h3, List.append_assoc pre (cs.take k), ← List.append_assoc (cs.take k), List.take_append_drop, List.append_assoc]
theorem RdS_drop {A : HP} {E : Nat} {ad : Option Addr} {cs : List Value} (x : RdS A E ad cs) {n cap j sz : Nat} (hl : cs.length = n * sz) (hj : j ≤ n) (hc : n ≤ cap) : RdS A E (sliceOff ad cap j sz) (cs.drop (j * sz)) := fun h a => by
  by_cases hcj : cap = j
  · left
    have : n = j := by omega
    subst this
    rw [List.drop_eq_nil_iff]; omega
  · rcases x h a with x | ⟨p, pre, suf, fz, h1, h2, h3⟩
    · exact .inl (by simp [x])
    · have hle : j * sz ≤ cs.length := by rw [hl]; exact Nat.mul_le_mul_right _ hj
      refine .inr ⟨⟨p.block, pre.length + j * sz, none⟩, pre ++ cs.take (j * sz), suf, fz, ?_, ?_, ?_⟩
      · rw [h1, h2]; simp [sliceOff, hcj, addr_add]
      · simp [Nat.min_eq_left hle]
      · rw [h3, List.append_assoc pre (cs.take _), List.take_append_drop]
/-- The same, looked up in a list of pieces. -/
class RdSI (A : HP) (ad : Option Addr) (E : outParam Nat) (cs : outParam (List Value)) : Prop where
  rd : RdS A E ad cs
instance (E sz : Nat) (ad : Option Addr) (n cap : Nat) (cs : List Value) : RdSI (slc E sz ad n cap cs) ad E cs := ⟨RdS_slc E sz ad n cap cs⟩
instance (A : HP) (l : List HP) (ad : Option Addr) (E : Nat) (cs : List Value) [h : RdSI (sepL l) ad E cs] : RdSI (sepL (A :: l)) ad E cs := ⟨RdS_r h.rd⟩
instance (A : HP) (l : List HP) (ad : Option Addr) (E : Nat) (cs : List Value) [h : RdSI A ad E cs] : RdSI (sepL (A :: l)) ad E cs := ⟨RdS_l h.rd⟩
/-- A slice's piece, taken out of a list of pieces. -/
class TkS (hs : List HP) (ad : Option Addr) (E sz n cap : outParam Nat) (cs : outParam (List Value)) (r : outParam (List HP)) : Prop where
  tk : ∃ i, take1 i hs = some (slc E sz ad n cap cs, r)
instance (ad : Option Addr) (E sz n cap : Nat) (cs : List Value) (r : List HP) : TkS (slc E sz ad n cap cs :: r) ad E sz n cap cs r := ⟨0, rfl⟩
instance (A : HP) (hs : List HP) (ad : Option Addr) (E sz n cap : Nat) (cs : List Value) (r : List HP) [h : TkS hs ad E sz n cap cs r] : TkS (A :: hs) ad E sz n cap cs (A :: r) := ⟨by
  obtain ⟨i, hi⟩ := h.tk
  exact ⟨i + 1, by simp [take1, hi]⟩⟩

theorem slc_facts {E sz : Nat} {ad : Option Addr} {n cap : Nat} {cs : List Value} {h : PH} (x : slc E sz ad n cap cs h) : cs.length = n * sz ∧ n ≤ cap ∧ cap ≤ maxLen ∧ (ad = none → n = 0) := by
  cases ad with
  | none => obtain ⟨⟨rfl, rfl, rfl⟩, _⟩ := x; simp
  | some p => obtain ⟨⟨pre, suf⟩, ⟨_, h2, h3, h4, _⟩, _⟩ := x; exact ⟨h2, h3, h4, fun e => by cases e⟩
/-- 's = s[j:]' -/
theorem slc_from {E sz : Nat} {ad : Option Addr} {n cap : Nat} {cs : List Value} {j : Nat} (hj : j ≤ n) : ent (slc E sz ad n cap cs) (slc E sz (sliceOff ad cap j sz) (n - j) (cap - j) (cs.drop (j * sz))) := ent_of_imp fun h x => by
  obtain ⟨f1, f2, f3, _⟩ := slc_facts x
  cases ad with
  | none =>
    obtain ⟨⟨rfl, rfl, rfl⟩, x⟩ := x
    obtain rfl : j = 0 := by omega
    simp only [sliceOff, if_true]
    exact ⟨⟨by simp, by simp, by simp⟩, x⟩
  | some p =>
    obtain ⟨⟨pre, suf⟩, ⟨h1, h2, h3, h4, h5⟩, x⟩ := x
    have hle : j * sz ≤ cs.length := by rw [f1]; exact Nat.mul_le_mul_right _ hj
    by_cases hcj : cap = j
    · have hnj : n = j := by omega
      subst hcj hnj
      simp only [sliceOff, if_true, Nat.sub_self]
      refine ⟨(pre, cs ++ suf), ⟨h1, ?_, Nat.le_refl _, Nat.zero_le _, by simp⟩, ?_⟩
      · simp only [List.length_drop]; omega
      · have : cs.drop (n * sz) = [] := by rw [List.drop_eq_nil_iff]; omega
        rw [this]; simpa using x
    · have : sliceOff (some p) cap j sz = some ⟨p.block, pre.length + j * sz, none⟩ := by rw [h1]; simp [sliceOff, hcj, addr_add]
      rw [this]
      refine ⟨(pre ++ cs.take (j * sz), suf), ⟨?_, ?_, by omega, by omega, ?_⟩, ?_⟩
      · simp [Nat.min_eq_left hle]
      · simp only [List.length_drop, f1, Nat.sub_mul]
      · simp only [List.length_drop, Nat.sub_mul]; simp only [] at h5; omega
      · simp only []
        rw [List.append_assoc pre, List.take_append_drop]; exact x
/-- 's = s[:j]' -/
theorem slc_to {E sz : Nat} {ad : Option Addr} {n cap : Nat} {cs : List Value} {j : Nat} (hj : j ≤ n) : ent (slc E sz ad n cap cs) (slc E sz ad j cap (cs.take (j * sz))) := ent_of_imp fun h x => by
  obtain ⟨f1, f2, f3, _⟩ := slc_facts x
  have hle : j * sz ≤ cs.length := by rw [f1]; exact Nat.mul_le_mul_right _ hj
  cases ad with
  | none =>
    obtain ⟨⟨rfl, rfl, rfl⟩, x⟩ := x
    obtain rfl : j = 0 := by omega
    exact ⟨⟨rfl, rfl, by simp⟩, x⟩
  | some p =>
    obtain ⟨⟨pre, suf⟩, ⟨h1, h2, h3, h4, h5⟩, x⟩ := x
    refine ⟨(pre, cs.drop (j * sz) ++ suf), ⟨h1, by simp [Nat.min_eq_left hle], by omega, f3, ?_⟩, ?_⟩
    · simp only [] at h5; simp; omega
    · simp only []
      rw [show pre ++ List.take (j * sz) cs ++ (List.drop (j * sz) cs ++ suf) = pre ++ cs ++ suf by
        rw [List.append_assoc, ← List.append_assoc (List.take _ _), List.take_append_drop, List.append_assoc]]
      exact x

section
variable {r : Option Nat} {P : Program} {N : Nat} {ops : Array Oper} {l : List Oper} {Q : Post} {ρ : Env} {ds : List Deferred} {A : HP} {K : Value → HP → Prop}
variable {d : Option Tmp} {ty : TypeId} {ps : String} {af : Array Edge} {g : Option (Nat × Bool)}
variable {t t' : TypeId} {x y : Operand} {k : IntKind} {a b c : Int}

theorem RdS.sat {E : Nat} {ad : Option Addr} {cs : List Value} (x : RdS A E ad cs) {w : World} (h : QM.sat w A) :
    cs = [] ∨ ∃ p pre suf fz, ad = some p ∧ p = ⟨p.block, pre.length, none⟩ ∧ w.heap[p.block]? = some (.cells (pre ++ cs ++ suf).toArray E fz) := by
  obtain ⟨hh, hx, ha⟩ := h
  rcases x hh ha with x | ⟨p, pre, suf, fz, h1, h2, h3⟩
  · exact .inl x
  · exact .inr ⟨p, pre, suf, fz, h1, h2, hx _ _ h3⟩
theorem RdS.nonnil {E : Nat} {ad : Option Addr} {cs : List Value} (x : RdS A E ad cs) {w : World} (h : QM.sat w A) (hn : cs ≠ []) : ∃ p, ad = some p ∧ p.spot = none := by
  rcases x.sat h with x | ⟨p, pre, suf, fz, h1, h2, h3⟩
  · exact absurd x hn
  · exact ⟨p, h1, by rw [h2]⟩
/-- The address of element i of a slice that can be read. -/
theorem ixS (E sz : Nat) {E' : Nat} {ad : Option Addr} {n cap i : Nat} {cs : List Value} (ht : slcT P t E sz = true) (hx : ev ρ x = .slice ad n cap) (hy : ev ρ y = .int .i64 (i : Int)) [hr : RdSI A ad E' cs] (hi : i < n) (hc : 0 < cs.length) :
    OQ P ρ ⟨d, .indexAddr t x y, ty, ps, af, g⟩ A (pa ad (i * sz)) := fun w hs => by
  obtain ⟨p, rfl, hp⟩ := hr.rd.nonnil hs (by intro e; rw [e] at hc; cases hc)
  obtain ⟨pb, po, psp⟩ := p
  simp only at hp; subst hp
  simp [execOp, Instr.indexAt, hx, hy, asIntOf, slcT_run ht, hi, addr_add, pa]
theorem ixJ (E sz : Nat) {E' : Nat} {ad : Option Addr} {n cap : Nat} {j : Int} {cs : List Value} (ht : slcT P t E sz = true) (hx : ev ρ x = .slice ad n cap) (hy : ev ρ y = .int .i64 j) [hr : RdSI A ad E' cs] (h0 : 0 ≤ j) (hi : j < n) (hc : 0 < cs.length) :
    OQ P ρ ⟨d, .indexAddr t x y, ty, ps, af, g⟩ A (pa ad (j.toNat * sz)) := fun w hs => by
  obtain ⟨p, rfl, hp⟩ := hr.rd.nonnil hs (by intro e; rw [e] at hc; cases hc)
  obtain ⟨pb, po, psp⟩ := p
  simp only at hp; subst hp
  simp [execOp, Instr.indexAt, hx, hy, asIntOf, slcT_run ht, h0, hi, addr_add, pa]
theorem faS {s : TypeId} {x : Operand} {f : Nat} {ad : Option Addr} {o1 E' : Nat} {cs : List Value} (o : Nat) (hf : fldT P s f o = true) (hx : ev ρ x = pa ad o1) [hr : RdSI A ad E' cs] (hc : 0 < cs.length) :
    OQ P ρ ⟨d, .fieldAddr s x f, ty, ps, af, g⟩ A (pa ad (o1 + o)) := fun w hs => by
  obtain ⟨p, rfl, hp⟩ := hr.rd.nonnil hs (by intro e; rw [e] at hc; cases hc)
  obtain ⟨pb, po, psp⟩ := p
  simp only at hp; subst hp
  have := (fa (A := A) (d := d) (ty := ty) (ps := ps) (af := af) (g := g) o hf (show ev ρ x = .pointer (some ⟨pb, po + o1, none⟩) by rw [hx]; rfl)) w hs
  rw [this]; simp [pa, Nat.add_assoc]
theorem ncS {x : Operand} {ad : Option Addr} {o1 E' : Nat} {cs : List Value} (hx : ev ρ x = pa ad o1) [hr : RdSI A ad E' cs] (hc : 0 < cs.length) :
    OQ P ρ ⟨d, .nilCheck x, ty, ps, af, g⟩ A (pa ad o1) := fun w hs => by
  obtain ⟨p, rfl, hp⟩ := hr.rd.nonnil hs (by intro e; rw [e] at hc; cases hc)
  simp [execOp, hx, pa]
theorem ldS {t : TypeId} {x : Operand} {ad : Option Addr} {o E : Nat} {cs : List Value} {v : Value} (ht : oneT P t = true) (hx : ev ρ x = pa ad o) [hr : RdSI A ad E cs] (hv : cs[o]? = some v) :
    OQ P ρ ⟨d, .load t x, ty, ps, af, g⟩ A v := fun w hs => by
  rcases hr.rd.sat hs with h | ⟨p, pre, suf, fz, rfl, h2, h3⟩
  · rw [h] at hv; simp at hv
  · have ho : o < cs.length := (List.getElem?_eq_some_iff.1 hv).1
    obtain ⟨pb, po, psp⟩ := p
    simp only [Addr.mk.injEq, true_and] at h2
    obtain ⟨rfl, rfl⟩ := h2
    have := loadVar_one (P := P) (off := pre.length + o) ht h3 (v := v) (by
      rw [List.append_assoc, List.getElem?_append_right (by omega), Nat.add_sub_cancel_left, List.getElem?_append_left ho]; exact hv)
    simp [execOp, Instr.loadAt, hx, pa, Instr.sureAddr, this]
theorem ldSN {t : TypeId} {x : Operand} {ad : Option Addr} {o E : Nat} {cs vs : List Value} (n : Nat) (ht : aggT P t n = true) (hx : ev ρ x = pa ad o) [hr : RdSI A ad E cs] (hv : (cs.drop o).take n = vs) (hn : vs.length = n) (h0 : 0 < n) :
    OQ P ρ ⟨d, .load t x, ty, ps, af, g⟩ A (.agg vs.toArray) := fun w hs => by
  have hlen : o + n ≤ cs.length := by
    rw [← hv] at hn; simp only [List.length_take, List.length_drop] at hn; omega
  rcases hr.rd.sat hs with h | ⟨p, pre, suf, fz, rfl, h2, h3⟩
  · rw [h] at hlen; simp at hlen; omega
  · obtain ⟨pb, po, psp⟩ := p
    simp only [Addr.mk.injEq, true_and] at h2
    obtain ⟨rfl, rfl⟩ := h2
    have := loadVar_agg (P := P) (off := pre.length + o) ht h3 (vs := vs) (by
      rw [List.append_assoc, List.drop_append, List.drop_eq_nil_of_le (by omega), Nat.add_sub_cancel_left, List.nil_append, List.drop_append_of_le_length (by omega), List.take_append_of_le_length (by simp; omega)]; exact hv) hn
    simp [execOp, Instr.loadAt, hx, pa, Instr.sureAddr, this]
theorem OW.post {o : Oper} {K1 : Value → HP → Prop} (h : OW r P ρ o A K1) (hk : ∀ v A1, K1 v A1 → ∃ A2, ent A1 A2 ∧ K v A2) : OW r P ρ o A K :=
  fun a w x y => Oper.wpIn_mono (fun _ _ ⟨v, A', h1, h2, h3, h4⟩ => by
    obtain ⟨A2, e, k⟩ := hk v A' h4
    exact ⟨v, A2, h1, h2, h3.weak e, k⟩) (h a w x y)
theorem OW.ex {o : Oper} {α : Type} {B : α → HP} {rest : List HP} (h : ∀ x, OW r P ρ o (sepL (B x :: rest)) K) : OW r P ρ o (sepL (EX B :: rest)) K := fun a w he hs => by
  obtain ⟨hh, hx, p, q', dd, rfl, ⟨z, hp⟩, hq⟩ := hs
  exact h z a w he ⟨_, hx, p, q', dd, rfl, hp, hq⟩
theorem OW.pure {o : Oper} {p : Prop} {B : HP} {rest : List HP} (h : p → OW r P ρ o (sepL (B :: rest)) K) : OW r P ρ o (sepL (pure' p B :: rest)) K := fun a w he hs => by
  obtain ⟨hh, hx, p', q', dd, rfl, ⟨z, hp⟩, hq⟩ := hs
  exact h z a w he ⟨_, hx, p', q', dd, rfl, hp, hq⟩
/-- A store into an element. -/
theorem stS {hs rest : List HP} {t : TypeId} {x y : Operand} {ad : Option Addr} {o E sz n' cap : Nat} {cs cs' vs : List Value} {v : Value} (n : Nat) (ht : szT P t n = true) (hx : ev ρ x = pa ad o) (hy : ev ρ y = v)
    (hc : v.cells.toList = vs) (h1 : vs.all Value.oneCell' = true) (hn : Nat.beq vs.length n = true) (h0 : 0 < n) [hi : TkS hs ad E sz n' cap cs rest] (hlen : o + n ≤ cs.length) (hl' : splice o vs cs = cs') (k : K undef (sepL (slc E sz ad n' cap cs' :: rest))) :
    OW r P ρ ⟨d, .store t x y, ty, ps, af, g⟩ (sepL hs) K := by
  obtain ⟨i, hi⟩ := hi.tk
  have hn := Nat.eq_of_beq_eq_true hn
  refine OW.weak (take1_ent hi) (show OW r P ρ _ (sepL (slc E sz ad n' cap cs :: rest)) K from ?_)
  cases ad with
  | none => exact OW.pure fun ⟨_, _, e⟩ => by rw [e] at hlen; simp at hlen; omega
  | some p =>
    refine OW.ex fun ⟨pre, suf⟩ => OW.pure fun ⟨f1, f2, f3, f4, f5⟩ => ?_
    obtain ⟨pb, po, psp⟩ := p
    simp only [Addr.mk.injEq, true_and] at f1 f5
    obtain ⟨rfl, rfl⟩ := f1
    have hvl : o + vs.length ≤ cs.length := by omega
    have e1 : splice (pre.length + o) vs (pre ++ cs ++ suf) = pre ++ cs' ++ suf := by
      subst hl'
      unfold splice
      rw [List.append_assoc pre cs suf, List.take_append, List.take_of_length_le (by omega), Nat.add_sub_cancel_left, Nat.add_assoc, List.drop_append, List.drop_eq_nil_of_le (by omega), Nat.add_sub_cancel_left, List.nil_append,
        List.take_append_of_le_length (by omega), List.drop_append_of_le_length (by omega)]
      simp [List.append_assoc]
    refine OW.post (K1 := fun v A => v = undef ∧ A = sepL (pts pb E (pre ++ cs' ++ suf) :: rest))
      (ow_store 0 (hs := pts pb E (pre ++ cs ++ suf) :: rest) (b := pb) (off := pre.length + o) (by rw [hx]; rfl) rfl hy hc h1 ht hn (by simp; omega) e1 ⟨rfl, rfl⟩) ?_
    rintro v A1 ⟨rfl, rfl⟩
    refine ⟨_, sep_mono (ent_of_imp fun h x => ?_) (ent.refl _), k⟩
    have hl2 : cs'.length = cs.length := by rw [← hl']; exact splice_length hvl
    exact ⟨(pre, suf), ⟨rfl, by omega, f3, f4, by simp only []; omega⟩, x⟩
end
end Go.QM
