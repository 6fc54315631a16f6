/-
  Maps that are owned, maps that are read: over symbolic states. Nothing of a program stands here.
-/
import Derived.Test.YtdfmfhcjnjfjbaaQLibY
import Derived.MapKept
namespace Go.QM
open Go

section
variable {α : Type} [DecidableEq α]
/-- The first entry of a key: its place, its value. -/
def findM (a : α) : List (α × Value) → Nat → Option (Nat × Value)
  | [], _ => none
  | t :: m, i => if a = t.1 then some (i, t.2) else findM a m (i + 1)
def lkM (a : α) : List (α × Value) → Option Value
  | [] => none
  | t :: m => if a = t.1 then some t.2 else lkM a m
def upM (a : α) (v : Value) : List (α × Value) → List (α × Value)
  | [] => [(a, v)]
  | t :: m => if a = t.1 then (a, v) :: m else t :: upM a v m
def dlM (a : α) : List (α × Value) → List (α × Value)
  | [] => []
  | t :: m => if a = t.1 then m else t :: dlM a m
theorem findM_none {a : α} : ∀ {m : List (α × Value)} {i : Nat}, findM a m i = none → lkM a m = none ∧ (∀ v, upM a v m = m ++ [(a, v)]) ∧ dlM a m = m
  | [], _, _ => ⟨rfl, fun _ => rfl, rfl⟩
  | t :: m, i, h => by
    unfold findM at h
    split at h
    · cases h
    · rename_i hne
      obtain ⟨h1, h2, h3⟩ := findM_none h
      exact ⟨by rw [lkM, if_neg hne, h1], fun v => by rw [upM, if_neg hne, h2]; rfl, by rw [dlM, if_neg hne, h3]⟩
theorem findM_some {a : α} : ∀ {m : List (α × Value)} {i j : Nat} {v : Value}, findM a m i = some (j, v) → ∃ k, j = i + k ∧ m[k]? = some (a, v) ∧ lkM a m = some v ∧ (∀ u, upM a u m = m.set k (a, u)) ∧ dlM a m = m.eraseIdx k
  | [], _, _, _, h => by cases h
  | t :: m, i, j, v, h => by
    unfold findM at h
    split at h
    · rename_i he
      cases h
      refine ⟨0, rfl, ?_, by rw [lkM, if_pos he], fun u => by rw [upM, if_pos he]; rfl, by rw [dlM, if_pos he]; rfl⟩
      obtain ⟨x, y⟩ := t
      simp only at he; subst he; rfl
    · rename_i hne
      obtain ⟨k, h1, h2, h3, h4, h5⟩ := findM_some h
      exact ⟨k + 1, by omega, h2, by rw [lkM, if_neg hne, h3], fun u => by rw [upM, if_neg hne, h4]; rfl, by rw [dlM, if_neg hne, h5]; rfl⟩

/-- What is asked of a map's keys. -/
structure KL (P : Program) (kt : TypeId) (enc : α → Value) : Prop where
  chk : ∀ (emp : Bool) (a : α) (w : World), (Instr.checkKey emp 10000 kt (enc a)).run P w = .ok () w
  find : ∀ (a : α) (m : List (α × Value)) (es : List MapEntry) (w : World), es.map (fun e => (e.key, e.val)) = m.map (fun t => (enc t.1, t.2)) → (Instr.findKey kt (enc a) es).run P w = .ok (findM a m 0) w
  same : ∀ a : α, Instr.sameBits 10000 (enc a) (enc a) = true
end

def encI (x : Int) : Value := .int .i64 x
theorem KL.int {P : Program} {kt : TypeId} (h : P.underlying kt = some (.int .i64)) : KL P kt encI where
  chk := fun emp a w => by
    unfold Instr.checkKey
    simp [underlying, h, encI]
  find := fun a m es w he => by
    have key : ∀ (m : List (Int × Value)) (es : List MapEntry) (i : Nat), es.map (fun e => (e.key, e.val)) = m.map (fun t => (encI t.1, t.2)) → Instr.findNow (.int .i64) (encI a) es i = some (findM a m i) := by
      intro m
      induction m with
      | nil => intro es i he; cases es with | nil => rfl | cons e es => simp at he
      | cons t m ih =>
        intro es i he
        cases es with
        | nil => simp at he
        | cons e es =>
          simp only [List.map_cons, List.cons.injEq, Prod.mk.injEq] at he
          obtain ⟨⟨h1, h2⟩, h3⟩ := he
          rw [Instr.findNow, h1]
          simp only [encI, Instr.sameNow, if_true, findM]
          by_cases hc : a = t.1
          · simp [hc, h2]
          · have : (a == t.1) = false := by simpa using hc
            simp only [this, if_neg hc]
            exact ih es (i + 1) h3
    simp [Instr.findKey, underlying, h, key m es 0 he]
  same := fun a => by simp [Instr.sameBits, encI]

/-! ### Pieces -/
/-- Stamps: below the clock, and each once. -/
def BoM (es : Array MapEntry) (cl : Nat) : Prop := (∀ e ∈ es.toList, e.born < cl) ∧ (es.toList.map (·.born)).Nodup
theorem BoM.push {es : Array MapEntry} {cl : Nat} (h : BoM es cl) {k v : Value} : BoM (es.push { key := k, val := v, born := cl }) (cl + 1) := by
  refine ⟨fun e he => ?_, ?_⟩
  · rw [Array.toList_push, List.mem_append, List.mem_singleton] at he
    rcases he with he | rfl
    · have := h.1 e he; omega
    · exact Nat.lt_succ_self _
  · rw [Array.toList_push, List.map_append, List.nodup_append]
    refine ⟨h.2, by simp, fun a ha c hc e => ?_⟩
    obtain ⟨u, hu, rfl⟩ := List.mem_map.1 ha
    have := h.1 u hu
    simp only [List.map_cons, List.map_nil, List.mem_singleton] at hc
    omega
theorem BoM.modify {es : Array MapEntry} {cl : Nat} (h : BoM es cl) (j : Nat) (f : MapEntry → MapEntry) (hf : ∀ e, (f e).born = e.born) : BoM (es.modify j f) cl := by
  have hm : (es.modify j f).toList.map (·.born) = es.toList.map (·.born) := by
    rw [Array.toList_modify]
    apply List.ext_getElem?
    intro i
    simp only [List.getElem?_map, List.getElem?_modify]
    cases es.toList[i]? with
    | none => rfl
    | some e => simp only [Option.map_some]; split <;> simp [hf]
  refine ⟨fun e he => ?_, by rw [hm]; exact h.2⟩
  have h1 : e.born ∈ (es.modify j f).toList.map (·.born) := List.mem_map.2 ⟨e, he, rfl⟩
  rw [hm] at h1
  obtain ⟨u, hu, e2⟩ := List.mem_map.1 h1
  rw [← e2]; exact h.1 u hu
theorem BoM.erase {es : Array MapEntry} {cl : Nat} (h : BoM es cl) (j : Nat) : BoM (es.eraseIdxIfInBounds j) cl := by
  have hs : (es.eraseIdxIfInBounds j).toList.Sublist es.toList := by
    unfold Array.eraseIdxIfInBounds
    split
    · rw [Array.toList_eraseIdx]; exact List.eraseIdx_sublist _ _
    · exact List.Sublist.refl _
  exact ⟨fun e he => h.1 e (hs.subset he), h.2.sublist (hs.map _)⟩
def isM {α : Type} (enc : α → Value) (m : List (α × Value)) (o : Obj) : Prop := ∃ es cl, o = .map es cl ∧ es.toList.map (fun e => (e.key, e.val)) = m.map (fun t => (enc t.1, t.2)) ∧ BoM es cl
def mapP {α : Type} (enc : α → Value) (b : Nat) (m : List (α × Value)) : HP := EX fun o : Obj => pure' (isM enc m o) (obj b o)
def RdM {α : Type} (A : HP) (b : Nat) (enc : α → Value) (m : List (α × Value)) : Prop := ∀ h, A h → ∃ o, h b = some o ∧ isM enc m o
theorem RdM_map {α : Type} (enc : α → Value) (b : Nat) (m : List (α × Value)) : RdM (mapP enc b m) b enc m := fun h ⟨o, hi, ho⟩ => ⟨o, by rw [ho]; simp, hi⟩
theorem RdM_l {α : Type} {A B : HP} {b : Nat} {enc : α → Value} {m : List (α × Value)} (x : RdM A b enc m) : RdM (sep A B) b enc m := by
  rintro h ⟨a, c, d, rfl, ha, hb⟩
  obtain ⟨o, h1, h2⟩ := x a ha
  exact ⟨o, hsub_hun_l a c b o h1, h2⟩
theorem RdM_r {α : Type} {A B : HP} {b : Nat} {enc : α → Value} {m : List (α × Value)} (x : RdM B b enc m) : RdM (sep A B) b enc m := by
  rintro h ⟨a, c, d, rfl, ha, hb⟩
  obtain ⟨o, h1, h2⟩ := x c hb
  exact ⟨o, hsub_hun_r d b o h1, h2⟩
theorem RdM_ent {α : Type} {A B : HP} {b : Nat} {enc : α → Value} {m : List (α × Value)} (e : ent A B) (x : RdM B b enc m) : RdM A b enc m := fun h a =>
  let ⟨h', s, hb⟩ := e h a; let ⟨o, h1, h2⟩ := x h' hb; ⟨o, s b o h1, h2⟩
class RdMI (A : HP) (b : Nat) (α : outParam Type) (enc : outParam (α → Value)) (m : outParam (List (α × Value))) : Prop where
  rd : RdM A b enc m
instance {α : Type} (enc : α → Value) (b : Nat) (m : List (α × Value)) : RdMI (mapP enc b m) b α enc m := ⟨RdM_map enc b m⟩
instance (A : HP) (l : List HP) (b : Nat) (α : Type) (enc : α → Value) (m : List (α × Value)) [h : RdMI (sepL l) b α enc m] : RdMI (sepL (A :: l)) b α enc m := ⟨RdM_r h.rd⟩
instance (A : HP) (l : List HP) (b : Nat) (α : Type) (enc : α → Value) (m : List (α × Value)) [h : RdMI A b α enc m] : RdMI (sepL (A :: l)) b α enc m := ⟨RdM_l h.rd⟩
instance (F B : HP) (b : Nat) (α : Type) (enc : α → Value) (m : List (α × Value)) [h : RdMI B b α enc m] : RdMI (restr F B) b α enc m := ⟨RdM_ent (restr_in F B) h.rd⟩
class TkM (hs : List HP) (b : Nat) (α : outParam Type) (enc : outParam (α → Value)) (m : outParam (List (α × Value))) (r : outParam (List HP)) : Prop where
  tk : ∃ i, take1 i hs = some (mapP enc b m, r)
instance {α : Type} (enc : α → Value) (b : Nat) (m : List (α × Value)) (r : List HP) : TkM (mapP enc b m :: r) b α enc m r := ⟨0, rfl⟩
instance (A : HP) (hs : List HP) (b : Nat) (α : Type) (enc : α → Value) (m : List (α × Value)) (r : List HP) [h : TkM hs b α enc m r] : TkM (A :: hs) b α enc m (A :: r) := ⟨by
  obtain ⟨i, hi⟩ := h.tk
  exact ⟨i + 1, by simp [take1, hi]⟩⟩
theorem RdM.sat {α : Type} {A : HP} {b : Nat} {enc : α → Value} {m : List (α × Value)} (x : RdM A b enc m) {w : World} (h : QM.sat w A) : ∃ es cl, w.heap[b]? = some (.map es cl) ∧ es.toList.map (fun e => (e.key, e.val)) = m.map (fun t => (enc t.1, t.2)) ∧ BoM es cl := by
  obtain ⟨hh, hx, ha⟩ := h
  obtain ⟨o, h1, es, cl, rfl, h2⟩ := x hh ha
  exact ⟨es, cl, hx _ _ h1, h2⟩

theorem map_eraseIdx_eq {β γ : Type} (f : β → γ) : ∀ (l : List β) (j : Nat), (l.eraseIdx j).map f = (l.map f).eraseIdx j
  | [], _ => by simp
  | _ :: _, 0 => by simp
  | a :: l, j + 1 => by simp [map_eraseIdx_eq f l j]
section
variable {α : Type} {enc : α → Value} {m : List (α × Value)}
variable {r : Option Nat} {P : Program} {ρ : Env} {A : HP} {K : Value → HP → Prop}
variable {d : Option Tmp} {ty : TypeId} {ps : String} {af : Array Edge} {g : Option (Nat × Bool)}
variable {t : TypeId} {x : Operand}
def mapT (P : Program) (t kt e : TypeId) : Bool := match P.underlying t with
  | some (.map k v) => Nat.beq k kt && Nat.beq v e
  | _ => false
theorem mapT_run {kt e : TypeId} (h : mapT P t kt e = true) (w : World) : (underlying t).run P w = .ok (.map kt e) w := by
  unfold mapT at h
  cases hu : P.underlying t with
  | none => rw [hu] at h; cases h
  | some u =>
    rw [hu] at h
    cases u <;> first | (cases h; done) | (simp only [Bool.and_eq_true] at h; have h1 := Nat.eq_of_beq_eq_true h.1; have h2 := Nat.eq_of_beq_eq_true h.2; subst h1; subst h2; simp [underlying, hu])
theorem mkM {hs : List HP} (enc : α → Value) (k : ∀ b, K (.map (some b)) (sepL (mapP enc b [] :: hs))) : OW r P ρ ⟨d, .makeMap t none, ty, ps, af, g⟩ (sepL hs) K :=
  OW.run rfl fun w hsat => ⟨.map (some w.heap.size), w.alloc (.map #[] 0), _, .inl rfl, ⟨rfl, rfl, rfl, by simp⟩,
    (sat_alloc _ hsat).weak (sep_mono (ent_of_imp fun h hh => ⟨_, ⟨#[], 0, rfl, rfl, ⟨fun _ h => (by cases h), List.nodup_nil⟩⟩, hh⟩) (ent.refl _)), k w.heap.size⟩
/-- A map's object is turned. -/
theorem sat_map {w : World} {b : Nat} {m' : List (α × Value)} {es es' : Array MapEntry} {cl cl' : Nat} {hs rest : List HP} (hsat : sat w (sepL hs)) (hi : ∃ i, take1 i hs = some (mapP enc b m, rest)) (hb : w.heap[b]? = some (.map es cl))
    (h' : es'.toList.map (fun e => (e.key, e.val)) = m'.map (fun t => (enc t.1, t.2))) (hbo : BoM es' cl') : sat { w with heap := w.heap.setIfInBounds b (.map es' cl') } (sepL (mapP enc b m' :: rest)) := by
  obtain ⟨i, hi⟩ := hi
  obtain ⟨hh, hx, p, q, dd, rfl, ⟨o, ho, hp⟩, hq⟩ := hsat.weak (take1_ent hi)
  have h1 : sat w (sep (obj b o) (sepL rest)) := ⟨_, hx, p, q, dd, rfl, hp, hq⟩
  have hlt : b < w.heap.size := (Array.getElem?_eq_some_iff.1 hb).1
  have h2 : sat { w with heap := w.heap.setIfInBounds b (.map es' cl') } (sep (obj b (.map es' cl')) (sepL rest)) :=
    sat_set h1 (by show (w.heap.setIfInBounds b _)[b]? = _; rw [Array.getElem?_setIfInBounds_self_of_lt hlt]) (fun j hj => by show (w.heap.setIfInBounds b _)[j]? = _; rw [Array.getElem?_setIfInBounds_ne (Ne.symm hj)])
  exact h2.weak (sep_mono (ent_of_imp fun h hh => ⟨_, ⟨es', cl', rfl, h', hbo⟩, hh⟩) (ent.refl _))
theorem lnM (kt e : TypeId) {b : Nat} (ht : mapT P t kt e = true) (hx : ev ρ x = .map (some b)) [hr : RdMI A b α enc m] :
    OQ P ρ ⟨d, .call ⟨.builtin .len, #[x], #[t]⟩, ty, ps, af, g⟩ A (.int .i64 m.length) := fun w hs => by
  obtain ⟨es, cl, h1, h2, hbo⟩ := hr.rd.sat hs
  have hlen : es.size = m.length := by simpa using congrArg List.length h2
  simp [execOp, resolve, invoke, builtin, Builtin.len_, hx, mapT_run ht, MapKept.run_getObj_map h1, goInt, hlen]
end
section
variable {α : Type} [DecidableEq α] {enc : α → Value} {m : List (α × Value)}
variable {r : Option Nat} {P : Program} {N : Nat} {ops : Array Oper} {l : List Oper} {Q : Post} {ρ : Env} {ds : List Deferred} {A : HP} {K : Value → HP → Prop}
variable {d : Option Tmp} {ty : TypeId} {ps : String} {af : Array Edge} {g : Option (Nat × Bool)}
variable {t t' : TypeId} {x y z : Operand} {k : IntKind}
theorem luM (kt e : TypeId) {b : Nat} {a : α} {zv : Value} (ht : mapT P t kt e = true) (hz : zeroT P e = some zv) (hk : KL P kt enc) (hx : ev ρ x = .map (some b)) (hy : ev ρ y = enc a) [hr : RdMI A b α enc m] :
    OQ P ρ ⟨d, .lookup t x y false, ty, ps, af, g⟩ A ((lkM a m).getD zv) := fun w hs => by
  obtain ⟨es, cl, h1, h2, hbo⟩ := hr.rd.sat hs
  have hf := hk.find a m es.toList w h2
  cases hc : findM a m 0 with
  | none =>
    obtain ⟨h3, _⟩ := findM_none hc
    simp [execOp, Instr.lookup, hx, hy, mapT_run ht, MapKept.run_getObj_map h1, hk.chk, hf, hc, h3, zeroT_run hz]
  | some p =>
    obtain ⟨j, v⟩ := p
    obtain ⟨_, _, _, h3, _⟩ := findM_some hc
    simp [execOp, Instr.lookup, hx, hy, mapT_run ht, MapKept.run_getObj_map h1, hk.chk, hf, hc, h3]
theorem luO (kt e : TypeId) {b : Nat} {a : α} {zv : Value} (ht : mapT P t kt e = true) (hz : zeroT P e = some zv) (hk : KL P kt enc) (hx : ev ρ x = .map (some b)) (hy : ev ρ y = enc a) [hr : RdMI A b α enc m] :
    OQ P ρ ⟨d, .lookup t x y true, ty, ps, af, g⟩ A (.tuple #[(lkM a m).getD zv, .bool (lkM a m).isSome]) := fun w hs => by
  obtain ⟨es, cl, h1, h2, hbo⟩ := hr.rd.sat hs
  have hf := hk.find a m es.toList w h2
  cases hc : findM a m 0 with
  | none =>
    obtain ⟨h3, _⟩ := findM_none hc
    simp [execOp, Instr.lookup, hx, hy, mapT_run ht, MapKept.run_getObj_map h1, hk.chk, hf, hc, h3, zeroT_run hz]
  | some p =>
    obtain ⟨j, v⟩ := p
    obtain ⟨_, _, _, h3, _⟩ := findM_some hc
    simp [execOp, Instr.lookup, hx, hy, mapT_run ht, MapKept.run_getObj_map h1, hk.chk, hf, hc, h3]
theorem muM {hs rest : List HP} (kt e : TypeId) {b : Nat} {a : α} {v : Value} (ht : mapT P t kt e = true) (hk : KL P kt enc) (hx : ev ρ x = .map (some b)) (hy : ev ρ y = enc a) (hv : ev ρ z = v) [hi : TkM hs b α enc m rest]
    (k : K undef (sepL (mapP enc b (upM a v m) :: rest))) : OW r P ρ ⟨d, .mapUpdate t x y z, ty, ps, af, g⟩ (sepL hs) K := by
  refine OW.run rfl fun w hsat => ?_
  obtain ⟨i, hi'⟩ := hi.tk
  obtain ⟨es, cl, h1, h2, hbo⟩ := (RdM_l (RdM_map enc b m)).sat (hsat.weak (take1_ent hi'))
  have hf := hk.find a m es.toList w h2
  cases hc : findM a m 0 with
  | none =>
    obtain ⟨_, h3, _⟩ := findM_none hc
    refine ⟨undef, { w with heap := w.heap.setIfInBounds b (.map (es.push { key := enc a, val := v, born := cl }) (cl + 1)) }, _, .inr ⟨?_, rfl⟩, ⟨rfl, rfl, rfl, ?_⟩, sat_map (m' := upM a v m) (es' := es.push { key := enc a, val := v, born := cl }) (cl' := cl + 1) hsat hi.tk h1 (by rw [h3]; simp [h2]) hbo.push, k⟩
    · simp [execOp, Instr.mapUpdate, hx, hy, hv, mapT_run ht, MapKept.run_getObj_map h1, hk.chk, hf, hc, MapKept.run_setObj_map _ h1]
    · simp
  | some p =>
    obtain ⟨j, v0⟩ := p
    obtain ⟨n, h0, h3, _, h4, _⟩ := findM_some hc
    have hjn : j = n := by omega
    subst hjn
    have hkey : ((es.toList[j]?).map (·.key)) = some (enc a) := by
      have := congrArg (fun l => l[j]?) h2
      simp only [List.getElem?_map, h3, Option.map_some] at this
      cases he : es.toList[j]? with
      | none => rw [he] at this; cases this
      | some e0 => rw [he] at this; simp only [Option.map_some, Option.some.injEq, Prod.mk.injEq] at this; simp [this.1]
    have hst : (Instr.keyThatStays (((es[j]?).map (·.key)).getD (enc a)) (enc a)).run P w = .ok (enc a) w := by
      have : es[j]? = es.toList[j]? := by simp
      rw [this, hkey]
      simp [Instr.keyThatStays, hk.same a]
    refine ⟨undef, { w with heap := w.heap.setIfInBounds b (.map (es.modify j fun e => { e with key := enc a, val := v }) cl) }, _, .inr ⟨?_, rfl⟩, ⟨rfl, rfl, rfl, ?_⟩, sat_map (m' := upM a v m) (es' := es.modify j fun e => { e with key := enc a, val := v }) (cl' := cl) hsat hi.tk h1 ?_ (hbo.modify j _ fun _ => rfl), k⟩
    · simp [execOp, Instr.mapUpdate, hx, hy, hv, mapT_run ht, MapKept.run_getObj_map h1, hk.chk, hf, hc, hst, MapKept.run_setObj_map _ h1]
    · simp
    · rw [h4, List.map_set, ← h2, Array.toList_modify]
      apply List.ext_getElem?
      intro i
      simp only [List.getElem?_map, List.getElem?_modify, List.getElem?_set, List.length_map]
      by_cases hij : j = i
      · subst hij
        cases he : es.toList[j]? with
        | none => simp [he] at hkey
        | some e0 => have := (List.getElem?_eq_some_iff.1 he).1; simp; simpa using this
      · simp [hij]
theorem deM {hs rest : List HP} (kt e : TypeId) {b : Nat} {a : α} {tys : Array TypeId} (ht : mapT P t kt e = true) (hk : KL P kt enc) (hx : ev ρ x = .map (some b)) (hy : ev ρ y = enc a) (hty : tys[0]? = some t) [hi : TkM hs b α enc m rest]
    (k : K (.tuple #[]) (sepL (mapP enc b (dlM a m) :: rest))) : OW r P ρ ⟨d, .call ⟨.builtin .delete, #[x, y], tys⟩, ty, ps, af, g⟩ (sepL hs) K := by
  refine OW.run rfl fun w hsat => ?_
  obtain ⟨i, hi'⟩ := hi.tk
  obtain ⟨es, cl, h1, h2, hbo⟩ := (RdM_l (RdM_map enc b m)).sat (hsat.weak (take1_ent hi'))
  have hf := hk.find a m es.toList w h2
  cases hc : findM a m 0 with
  | none =>
    obtain ⟨_, _, h3⟩ := findM_none hc
    refine ⟨.tuple #[], { w with heap := w.heap.setIfInBounds b (.map es cl) }, _, .inl ?_, ⟨rfl, rfl, rfl, ?_⟩, sat_map (m' := dlM a m) (es' := es) (cl' := cl) hsat hi.tk h1 (by rw [h3]; exact h2) hbo, k⟩
    · simp [execOp, resolve, invoke, builtin, Builtin.delete_, hx, hy, hty, mapT_run ht, MapKept.run_getObj_map h1, hk.chk, hf, hc, MapKept.run_setObj_map _ h1]
    · simp
  | some p =>
    obtain ⟨j, v0⟩ := p
    obtain ⟨n, h0, h3, _, _, h5⟩ := findM_some hc
    have hjn : j = n := by omega
    subst hjn
    have hlen : es.size = m.length := by simpa using congrArg List.length h2
    have hj : j < es.size := by rw [hlen]; exact (List.getElem?_eq_some_iff.1 h3).1
    refine ⟨.tuple #[], { w with heap := w.heap.setIfInBounds b (.map (es.eraseIdxIfInBounds j) cl) }, _, .inl ?_, ⟨rfl, rfl, rfl, ?_⟩, sat_map (m' := dlM a m) (es' := es.eraseIdxIfInBounds j) (cl' := cl) hsat hi.tk h1 ?_ (hbo.erase j), k⟩
    · simp [execOp, resolve, invoke, builtin, Builtin.delete_, hx, hy, hty, mapT_run ht, MapKept.run_getObj_map h1, hk.chk, hf, hc, MapKept.run_setObj_map _ h1]
    · simp
    · rw [h5, map_eraseIdx_eq, ← h2, ← map_eraseIdx_eq]
      simp [Array.eraseIdxIfInBounds, hj]
end
end Go.QM
