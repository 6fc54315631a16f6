/-
  Proved here: what functions of this program compute, each as a contract over symbolic states, under the premises that each theorem names (most lines printed by a program of the prover).
-/
import Derived.MapKept
import Derived.Test.YtdfmfhcjnjfjbaaGreatYf
namespace Go.QM
open Go
section
variable {α : Type} [DecidableEq α]
def findM (a : α) : List (α × Value) → Nat → Option (Nat × Value)
  | [], _ => none
  | t :: m, i => if a = t.1 then some (i, t.2) else findM a m (i + 1)
def lkM (a : α) : List (α × Value) → Option Value
  | [] => none
  | t :: m => if a = t.1 then some t.2 else lkM a m
def upM (a : α) (v : Value) : List (α × Value) → List (α × Value)
  | [] => [(a, v)]
  | t :: m => if a = t.1 then (a, v) :: m else t :: upM a v m
def dlM (a : α) : List (α × Value) → List (α × Value)
  | [] => []
  | t :: m => if a = t.1 then m else t :: dlM a m
theorem findM_none {a : α} : ∀ {m : List (α × Value)} {i : Nat}, findM a m i = none → lkM a m = none ∧ (∀ v, upM a v m = m ++ [(a, v)]) ∧ dlM a m = m
  | [], _, _ => ⟨rfl, fun _ => rfl, rfl⟩
  | t :: m, i, h => by
    unfold findM at h
    split at h
    · cases h
    · rename_i hne
      obtain ⟨h1, h2, h3⟩ := findM_none h
      exact ⟨by rw [lkM, if_neg hne, h1], fun v => by rw [upM, if_neg hne, h2]; rfl, by rw [dlM, if_neg hne, h3]⟩
theorem findM_some {a : α} : ∀ {m : List (α × Value)} {i j : Nat} {v : Value}, findM a m i = some (j, v) → ∃ k, j = i + k ∧ m[k]? = some (a, v) ∧ lkM a m = some v ∧ (∀ u, upM a u m = m.set k (a, u)) ∧ dlM a m = m.eraseIdx k
  | [], _, _, _, h => by cases h
  | t :: m, i, j, v, h => by
    unfold findM at h
    split at h
    · rename_i he
      cases h
      refine ⟨0, rfl, ?_, by rw [lkM, if_pos he], fun u => by rw [upM, if_pos he]; rfl, by rw [dlM, if_pos he]; rfl⟩
      obtain ⟨x, y⟩ := t
      simp only at he; subst he; rfl
    · rename_i hne
      obtain ⟨k, h1, h2, h3, h4, h5⟩ := findM_some h
      exact ⟨k + 1, by omega, h2, by rw [lkM, if_neg hne, h3], fun u => by rw [upM, if_neg hne, h4]; rfl, by rw [dlM, if_neg hne, h5]; rfl⟩
structure KL (P : Program) (kt : TypeId) (enc : α → Value) : Prop where
  chk : ∀ (emp : Bool) (a : α) (w : World), (Instr.checkKey emp 10000 kt (enc a)).run P w = .ok () w
  find : ∀ (a : α) (m : List (α × Value)) (es : List MapEntry) (w : World), es.map (fun e => (e.key, e.val)) = m.map (fun t => (enc t.1, t.2)) → (Instr.findKey kt (enc a) es).run P w = .ok (findM a m 0) w
  same : ∀ a : α, Instr.sameBits 10000 (enc a) (enc a) = true
end
def encI (x : Int) : Value := .int .i64 x
theorem KL.int {P : Program} {kt : TypeId} (h : P.underlying kt = some (.int .i64)) : KL P kt encI where
  chk := fun emp a w => by
    unfold Instr.checkKey
    simp [underlying, h, encI]
  find := fun a m es w he => by
    have key : ∀ (m : List (Int × Value)) (es : List MapEntry) (i : Nat), es.map (fun e => (e.key, e.val)) = m.map (fun t => (encI t.1, t.2)) → Instr.findNow (.int .i64) (encI a) es i = some (findM a m i) := by
      intro m
      induction m with
      | nil => intro es i he; cases es with | nil => rfl | cons e es => simp at he
      | cons t m ih =>
        intro es i he
        cases es with
        | nil => simp at he
        | cons e es =>
          simp only [List.map_cons, List.cons.injEq, Prod.mk.injEq] at he
          obtain ⟨⟨h1, h2⟩, h3⟩ := he
          rw [Instr.findNow, h1]
          simp only [encI, Instr.sameNow, if_true, findM]
          by_cases hc : a = t.1
          · simp [hc, h2]
          · have : (a == t.1) = false := by simpa using hc
            simp only [this, if_neg hc]
            exact ih es (i + 1) h3
    simp [Instr.findKey, underlying, h, key m es 0 he]
  same := fun a => by simp [Instr.sameBits, encI]
def BoM (es : Array MapEntry) (cl : Nat) : Prop := (∀ e ∈ es.toList, e.born < cl) ∧ (es.toList.map (·.born)).Nodup
theorem BoM.push {es : Array MapEntry} {cl : Nat} (h : BoM es cl) {k v : Value} : BoM (es.push { key := k, val := v, born := cl }) (cl + 1) := by
  refine ⟨fun e he => ?_, ?_⟩
  · rw [Array.toList_push, List.mem_append, List.mem_singleton] at he
    rcases he with he | rfl
    · have := h.1 e he; omega
    · exact Nat.lt_succ_self _
  · rw [Array.toList_push, List.map_append, List.nodup_append]
    refine ⟨h.2, by simp, fun a ha c hc e => ?_⟩
    obtain ⟨u, hu, rfl⟩ := List.mem_map.1 ha
    have := h.1 u hu
    simp only [List.map_cons, List.map_nil, List.mem_singleton] at hc
    omega
theorem BoM.modify {es : Array MapEntry} {cl : Nat} (h : BoM es cl) (j : Nat) (f : MapEntry → MapEntry) (hf : ∀ e, (f e).born = e.born) : BoM (es.modify j f) cl := by
  have hm : (es.modify j f).toList.map (·.born) = es.toList.map (·.born) := by
    rw [Array.toList_modify]
    apply List.ext_getElem?
    intro i
    simp only [List.getElem?_map, List.getElem?_modify]
    cases es.toList[i]? with
    | none => rfl
    | some e => simp only [Option.map_some]; split <;> simp [hf]
  refine ⟨fun e he => ?_, by rw [hm]; exact h.2⟩
  have h1 : e.born ∈ (es.modify j f).toList.map (·.born) := List.mem_map.2 ⟨e, he, rfl⟩
  rw [hm] at h1
  obtain ⟨u, hu, e2⟩ := List.mem_map.1 h1
  rw [← e2]; exact h.1 u hu
theorem BoM.erase {es : Array MapEntry} {cl : Nat} (h : BoM es cl) (j : Nat) : BoM (es.eraseIdxIfInBounds j) cl := by
  have hs : (es.eraseIdxIfInBounds j).toList.Sublist es.toList := by
    unfold Array.eraseIdxIfInBounds
    split
    · rw [Array.toList_eraseIdx]; exact List.eraseIdx_sublist _ _
    · exact List.Sublist.refl _
  exact ⟨fun e he => h.1 e (hs.subset he), h.2.sublist (hs.map _)⟩
def isM {α : Type} (enc : α → Value) (m : List (α × Value)) (o : Obj) : Prop := ∃ es cl, o = .map es cl ∧ es.toList.map (fun e => (e.key, e.val)) = m.map (fun t => (enc t.1, t.2)) ∧ BoM es cl
def mapP {α : Type} (enc : α → Value) (b : Nat) (m : List (α × Value)) : HP := EX fun o : Obj => pure' (isM enc m o) (obj b o)
def RdM {α : Type} (A : HP) (b : Nat) (enc : α → Value) (m : List (α × Value)) : Prop := ∀ h, A h → ∃ o, h b = some o ∧ isM enc m o
theorem RdM_map {α : Type} (enc : α → Value) (b : Nat) (m : List (α × Value)) : RdM (mapP enc b m) b enc m := fun h ⟨o, hi, ho⟩ => ⟨o, by rw [ho]; simp, hi⟩
theorem RdM_l {α : Type} {A B : HP} {b : Nat} {enc : α → Value} {m : List (α × Value)} (x : RdM A b enc m) : RdM (sep A B) b enc m := by
  rintro h ⟨a, c, d, rfl, ha, hb⟩
  obtain ⟨o, h1, h2⟩ := x a ha
  exact ⟨o, hsub_hun_l a c b o h1, h2⟩
class RdMI (A : HP) (b : Nat) (α : outParam Type) (enc : outParam (α → Value)) (m : outParam (List (α × Value))) : Prop where
  rd : RdM A b enc m
class TkM (hs : List HP) (b : Nat) (α : outParam Type) (enc : outParam (α → Value)) (m : outParam (List (α × Value))) (r : outParam (List HP)) : Prop where
  tk : ∃ i, take1 i hs = some (mapP enc b m, r)
instance {α : Type} (enc : α → Value) (b : Nat) (m : List (α × Value)) (r : List HP) : TkM (mapP enc b m :: r) b α enc m r := ⟨0, rfl⟩
theorem RdM.sat {α : Type} {A : HP} {b : Nat} {enc : α → Value} {m : List (α × Value)} (x : RdM A b enc m) {w : World} (h : QM.sat w A) : ∃ es cl, w.heap[b]? = some (.map es cl) ∧ es.toList.map (fun e => (e.key, e.val)) = m.map (fun t => (enc t.1, t.2)) ∧ BoM es cl := by
  obtain ⟨hh, hx, ha⟩ := h
  obtain ⟨o, h1, es, cl, rfl, h2⟩ := x hh ha
  exact ⟨es, cl, hx _ _ h1, h2⟩
theorem map_eraseIdx_eq {β γ : Type} (f : β → γ) : ∀ (l : List β) (j : Nat), (l.eraseIdx j).map f = (l.map f).eraseIdx j
  | [], _ => by simp
  | _ :: _, 0 => by simp
  | a :: l, j + 1 => by simp [map_eraseIdx_eq f l j]
section
variable {α : Type} {enc : α → Value} {m : List (α × Value)}
variable {r : Option Nat} {P : Program} {ρ : Env} {A : HP} {K : Value → HP → Prop}
variable {d : Option Tmp} {ty : TypeId} {ps : String} {af : Array Edge} {g : Option (Nat × Bool)}
variable {t : TypeId} {x : Operand}
def mapT (P : Program) (t kt e : TypeId) : Bool := match P.underlying t with
  | some (.map k v) => Nat.beq k kt && Nat.beq v e
  | _ => false
theorem mapT_run {kt e : TypeId} (h : mapT P t kt e = true) (w : World) : (underlying t).run P w = .ok (.map kt e) w := by
  unfold mapT at h
  cases hu : P.underlying t with
  | none => rw [hu] at h; cases h
  | some u =>
    rw [hu] at h
    cases u <;> first | (cases h; done) | (simp only [Bool.and_eq_true] at h; have h1 := Nat.eq_of_beq_eq_true h.1; have h2 := Nat.eq_of_beq_eq_true h.2; subst h1; subst h2; simp [underlying, hu])
theorem mkM {hs : List HP} (enc : α → Value) (k : ∀ b, K (.map (some b)) (sepL (mapP enc b [] :: hs))) : OW r P ρ ⟨d, .makeMap t none, ty, ps, af, g⟩ (sepL hs) K :=
  OW.run rfl fun w hsat => ⟨.map (some w.heap.size), w.alloc (.map #[] 0), _, .inl rfl, ⟨rfl, rfl, rfl, by simp⟩,
    (sat_alloc _ hsat).weak (sep_mono (ent_of_imp fun h hh => ⟨_, ⟨#[], 0, rfl, rfl, ⟨fun _ h => (by cases h), List.nodup_nil⟩⟩, hh⟩) (ent.refl _)), k w.heap.size⟩
theorem sat_map {w : World} {b : Nat} {m' : List (α × Value)} {es es' : Array MapEntry} {cl cl' : Nat} {hs rest : List HP} (hsat : sat w (sepL hs)) (hi : ∃ i, take1 i hs = some (mapP enc b m, rest)) (hb : w.heap[b]? = some (.map es cl))
    (h' : es'.toList.map (fun e => (e.key, e.val)) = m'.map (fun t => (enc t.1, t.2))) (hbo : BoM es' cl') : sat { w with heap := w.heap.setIfInBounds b (.map es' cl') } (sepL (mapP enc b m' :: rest)) := by
  obtain ⟨i, hi⟩ := hi
  obtain ⟨hh, hx, p, q, dd, rfl, ⟨o, ho, hp⟩, hq⟩ := hsat.weak (take1_ent hi)
  have h1 : sat w (sep (obj b o) (sepL rest)) := ⟨_, hx, p, q, dd, rfl, hp, hq⟩
  have hlt : b < w.heap.size := (Array.getElem?_eq_some_iff.1 hb).1
  have h2 : sat { w with heap := w.heap.setIfInBounds b (.map es' cl') } (sep (obj b (.map es' cl')) (sepL rest)) :=
    sat_set h1 (by show (w.heap.setIfInBounds b _)[b]? = _; rw [Array.getElem?_setIfInBounds_self_of_lt hlt]) (fun j hj => by show (w.heap.setIfInBounds b _)[j]? = _; rw [Array.getElem?_setIfInBounds_ne (Ne.symm hj)])
  exact h2.weak (sep_mono (ent_of_imp fun h hh => ⟨_, ⟨es', cl', rfl, h', hbo⟩, hh⟩) (ent.refl _))
end
section
variable {α : Type} [DecidableEq α] {enc : α → Value} {m : List (α × Value)}
variable {r : Option Nat} {P : Program} {N : Nat} {ops : Array Oper} {l : List Oper} {Q : Post} {ρ : Env} {ds : List Deferred} {A : HP} {K : Value → HP → Prop}
variable {d : Option Tmp} {ty : TypeId} {ps : String} {af : Array Edge} {g : Option (Nat × Bool)}
variable {t t' : TypeId} {x y z : Operand} {k : IntKind}
theorem luM (kt e : TypeId) {b : Nat} {a : α} {zv : Value} (ht : mapT P t kt e = true) (hz : zeroT P e = some zv) (hk : KL P kt enc) (hx : ev ρ x = .map (some b)) (hy : ev ρ y = enc a) [hr : RdMI A b α enc m] :
    OQ P ρ ⟨d, .lookup t x y false, ty, ps, af, g⟩ A ((lkM a m).getD zv) := fun w hs => by
  obtain ⟨es, cl, h1, h2, hbo⟩ := hr.rd.sat hs
  have hf := hk.find a m es.toList w h2
  cases hc : findM a m 0 with
  | none =>
    obtain ⟨h3, _⟩ := findM_none hc
    simp [execOp, Instr.lookup, hx, hy, mapT_run ht, MapKept.run_getObj_map h1, hk.chk, hf, hc, h3, zeroT_run hz]
  | some p =>
    obtain ⟨j, v⟩ := p
    obtain ⟨_, _, _, h3, _⟩ := findM_some hc
    simp [execOp, Instr.lookup, hx, hy, mapT_run ht, MapKept.run_getObj_map h1, hk.chk, hf, hc, h3]
theorem luO (kt e : TypeId) {b : Nat} {a : α} {zv : Value} (ht : mapT P t kt e = true) (hz : zeroT P e = some zv) (hk : KL P kt enc) (hx : ev ρ x = .map (some b)) (hy : ev ρ y = enc a) [hr : RdMI A b α enc m] :
    OQ P ρ ⟨d, .lookup t x y true, ty, ps, af, g⟩ A (.tuple #[(lkM a m).getD zv, .bool (lkM a m).isSome]) := fun w hs => by
  obtain ⟨es, cl, h1, h2, hbo⟩ := hr.rd.sat hs
  have hf := hk.find a m es.toList w h2
  cases hc : findM a m 0 with
  | none =>
    obtain ⟨h3, _⟩ := findM_none hc
    simp [execOp, Instr.lookup, hx, hy, mapT_run ht, MapKept.run_getObj_map h1, hk.chk, hf, hc, h3, zeroT_run hz]
  | some p =>
    obtain ⟨j, v⟩ := p
    obtain ⟨_, _, _, h3, _⟩ := findM_some hc
    simp [execOp, Instr.lookup, hx, hy, mapT_run ht, MapKept.run_getObj_map h1, hk.chk, hf, hc, h3]
theorem muM {hs rest : List HP} (kt e : TypeId) {b : Nat} {a : α} {v : Value} (ht : mapT P t kt e = true) (hk : KL P kt enc) (hx : ev ρ x = .map (some b)) (hy : ev ρ y = enc a) (hv : ev ρ z = v) [hi : TkM hs b α enc m rest]
    (k : K undef (sepL (mapP enc b (upM a v m) :: rest))) : OW r P ρ ⟨d, .mapUpdate t x y z, ty, ps, af, g⟩ (sepL hs) K := by
  refine OW.run rfl fun w hsat => ?_
  obtain ⟨i, hi'⟩ := hi.tk
  obtain ⟨es, cl, h1, h2, hbo⟩ := (RdM_l (RdM_map enc b m)).sat (hsat.weak (take1_ent hi'))
  have hf := hk.find a m es.toList w h2
  cases hc : findM a m 0 with
  | none =>
    obtain ⟨_, h3, _⟩ := findM_none hc
    refine ⟨undef, { w with heap := w.heap.setIfInBounds b (.map (es.push { key := enc a, val := v, born := cl }) (cl + 1)) }, _, .inr ⟨?_, rfl⟩, ⟨rfl, rfl, rfl, ?_⟩, sat_map (m' := upM a v m) (es' := es.push { key := enc a, val := v, born := cl }) (cl' := cl + 1) hsat hi.tk h1 (by rw [h3]; simp [h2]) hbo.push, k⟩
    · simp [execOp, Instr.mapUpdate, hx, hy, hv, mapT_run ht, MapKept.run_getObj_map h1, hk.chk, hf, hc, MapKept.run_setObj_map _ h1]
    · simp
  | some p =>
    obtain ⟨j, v0⟩ := p
    obtain ⟨n, h0, h3, _, h4, _⟩ := findM_some hc
    have hjn : j = n := by omega
    subst hjn
    have hkey : ((es.toList[j]?).map (·.key)) = some (enc a) := by
      have := congrArg (fun l => l[j]?) h2
      simp only [List.getElem?_map, h3, Option.map_some] at this
      cases he : es.toList[j]? with
      | none => rw [he] at this; cases this
      | some e0 => rw [he] at this; simp only [Option.map_some, Option.some.injEq, Prod.mk.injEq] at this; simp [this.1]
    have hst : (Instr.keyThatStays (((es[j]?).map (·.key)).getD (enc a)) (enc a)).run P w = .ok (enc a) w := by
      have : es[j]? = es.toList[j]? := by simp
      rw [this, hkey]
      simp [Instr.keyThatStays, hk.same a]
    refine ⟨undef, { w with heap := w.heap.setIfInBounds b (.map (es.modify j fun e => { e with key := enc a, val := v }) cl) }, _, .inr ⟨?_, rfl⟩, ⟨rfl, rfl, rfl, ?_⟩, sat_map (m' := upM a v m) (es' := es.modify j fun e => { e with key := enc a, val := v }) (cl' := cl) hsat hi.tk h1 ?_ (hbo.modify j _ fun _ => rfl), k⟩
    · simp [execOp, Instr.mapUpdate, hx, hy, hv, mapT_run ht, MapKept.run_getObj_map h1, hk.chk, hf, hc, hst, MapKept.run_setObj_map _ h1]
    · simp
    · rw [h4, List.map_set, ← h2, Array.toList_modify]
      apply List.ext_getElem?
      intro i
      simp only [List.getElem?_map, List.getElem?_modify, List.getElem?_set, List.length_map]
      by_cases hij : j = i
      · subst hij
        cases he : es.toList[j]? with
        | none => simp [he] at hkey
        | some e0 => have := (List.getElem?_eq_some_iff.1 he).1; simp; simpa using this
      · simp [hij]
theorem deM {hs rest : List HP} (kt e : TypeId) {b : Nat} {a : α} {tys : Array TypeId} (ht : mapT P t kt e = true) (hk : KL P kt enc) (hx : ev ρ x = .map (some b)) (hy : ev ρ y = enc a) (hty : tys[0]? = some t) [hi : TkM hs b α enc m rest]
    (k : K (.tuple #[]) (sepL (mapP enc b (dlM a m) :: rest))) : OW r P ρ ⟨d, .call ⟨.builtin .delete, #[x, y], tys⟩, ty, ps, af, g⟩ (sepL hs) K := by
  refine OW.run rfl fun w hsat => ?_
  obtain ⟨i, hi'⟩ := hi.tk
  obtain ⟨es, cl, h1, h2, hbo⟩ := (RdM_l (RdM_map enc b m)).sat (hsat.weak (take1_ent hi'))
  have hf := hk.find a m es.toList w h2
  cases hc : findM a m 0 with
  | none =>
    obtain ⟨_, _, h3⟩ := findM_none hc
    refine ⟨.tuple #[], { w with heap := w.heap.setIfInBounds b (.map es cl) }, _, .inl ?_, ⟨rfl, rfl, rfl, ?_⟩, sat_map (m' := dlM a m) (es' := es) (cl' := cl) hsat hi.tk h1 (by rw [h3]; exact h2) hbo, k⟩
    · simp [execOp, resolve, invoke, builtin, Builtin.delete_, hx, hy, hty, mapT_run ht, MapKept.run_getObj_map h1, hk.chk, hf, hc, MapKept.run_setObj_map _ h1]
    · simp
  | some p =>
    obtain ⟨j, v0⟩ := p
    obtain ⟨n, h0, h3, _, _, h5⟩ := findM_some hc
    have hjn : j = n := by omega
    subst hjn
    have hlen : es.size = m.length := by simpa using congrArg List.length h2
    have hj : j < es.size := by rw [hlen]; exact (List.getElem?_eq_some_iff.1 h3).1
    refine ⟨.tuple #[], { w with heap := w.heap.setIfInBounds b (.map (es.eraseIdxIfInBounds j) cl) }, _, .inl ?_, ⟨rfl, rfl, rfl, ?_⟩, sat_map (m' := dlM a m) (es' := es.eraseIdxIfInBounds j) (cl' := cl) hsat hi.tk h1 ?_ (hbo.erase j), k⟩
    · simp [execOp, resolve, invoke, builtin, Builtin.delete_, hx, hy, hty, mapT_run ht, MapKept.run_getObj_map h1, hk.chk, hf, hc, MapKept.run_setObj_map _ h1]
    · simp
    · rw [h5, map_eraseIdx_eq, ← h2, ← map_eraseIdx_eq]
      simp [Array.eraseIdxIfInBounds, hj]
end
end Go.QM
namespace Go.QM
open Go
class OffI (cs : List Value) (cap j sz : Nat) : Prop where
  n : ∃ n, cs.length = n * sz ∧ j ≤ n ∧ n ≤ cap
instance (A : HP) (ad : Option Addr) (cap j sz E : Nat) (cs : List Value) [hr : RdSI A ad E cs] [h : OffI cs cap j sz] : RdSI A (sliceOff ad cap j sz) E (cs.drop (j * sz)) := ⟨by
  obtain ⟨n, h1, h2, h3⟩ := h.n
  exact RdS_drop hr.rd h1 h2 h3⟩
section
variable {r : Option Nat} {P : Program} {N : Nat} {ops : Array Oper} {l : List Oper} {Q : Post} {ρ : Env} {ds : List Deferred} {A : HP} {K : Value → HP → Prop}
variable {d : Option Tmp} {ty : TypeId} {ps : String} {af : Array Edge} {g : Option (Nat × Bool)}
variable {t t' : TypeId} {x y z : Operand} {k : IntKind}
theorem slFn (E sz i : Nat) {ad : Option Addr} {n cap : Nat} {j : Int} (ht : slcT P t E sz = true) (hx : ev ρ x = .slice ad n cap) (hy : ev ρ y = .int .i64 j) (hj : j = (i : Int)) (h1 : i ≤ n) :
    OQ P ρ ⟨d, .slice t x (some y) none none, ty, ps, af, g⟩ A (.slice (sliceOff ad cap i sz) (n - i) (cap - i)) := by
  subst hj
  have := slF (A := A) (d := d) (ty := ty) (ps := ps) (af := af) (g := g) E sz ht hx hy (by omega) (by omega)
  rwa [Int.toNat_natCast] at this
theorem slTn (E sz i : Nat) {ad : Option Addr} {n cap : Nat} {j : Int} (ht : slcT P t E sz = true) (hx : ev ρ x = .slice ad n cap) (hy : ev ρ y = .int .i64 j) (hj : j = (i : Int)) (h1 : i ≤ cap) :
    OQ P ρ ⟨d, .slice t x none (some y) none, ty, ps, af, g⟩ A (.slice ad i cap) := by
  subst hj
  have := slT (A := A) (d := d) (ty := ty) (ps := ps) (af := af) (g := g) E sz ht hx hy (by omega) (by omega)
  rwa [Int.toNat_natCast] at this
end
class TkA (hs : List HP) (A : HP) (r : outParam (List HP)) : Prop where
  tk : ∃ i, take1 i hs = some (A, r)
instance (priority := 100) (B : HP) (hs : List HP) (A : HP) (r : List HP) [h : TkA hs A r] : TkA (B :: hs) A (B :: r) := ⟨by
  obtain ⟨i, hi⟩ := h.tk
  exact ⟨i + 1, by simp [take1, hi]⟩⟩
instance (priority := 200) (A : HP) (r : List HP) : TkA (A :: r) A r := ⟨0, rfl⟩
class PkL (hs pre : List HP) (rest : outParam (List HP)) : Prop where
  p : Picked hs pre rest
instance (hs : List HP) : PkL hs [] hs := ⟨picked_nil hs⟩
instance (hs r pre rest : List HP) (A : HP) [h : TkA hs A r] [k : PkL r pre rest] : PkL hs (A :: pre) rest := ⟨by
  obtain ⟨i, hi⟩ := h.tk
  exact picked_cons i hi k.p⟩
section
variable {α : Type} [DecidableEq α]
def updF (f : α → Option Value) (a : α) (v : Value) : α → Option Value := fun x => if x = a then some v else f x
def delF (f : α → Option Value) (a : α) : α → Option Value := fun x => if x = a then none else f x
structure Fm (f : α → Option Value) (n : Nat) (m : List (α × Value)) : Prop where
  nd : (m.map (·.1)).Nodup
  lk : ∀ a, lkM a m = f a
  n : m.length = n
theorem lkM_none_iff {a : α} : ∀ {m : List (α × Value)}, lkM a m = none ↔ a ∉ m.map (·.1)
  | [] => by simp [lkM]
  | t :: m => by
    simp only [lkM, List.map_cons, List.mem_cons, not_or]
    split
    · rename_i h; simp [h]
    · rename_i h; rw [lkM_none_iff]; simp [h]
theorem lkM_up (a b : α) (v : Value) : ∀ (m : List (α × Value)), lkM a (upM b v m) = if a = b then some v else lkM a m
  | [] => by simp only [upM, lkM]
  | t :: m => by
    simp only [upM]
    by_cases h : b = t.1
    · rw [if_pos h]; simp only [lkM]
      by_cases h2 : a = b
      · rw [if_pos h2, if_pos h2]
      · rw [if_neg h2, if_neg h2, if_neg (by rw [← h]; exact h2)]
    · rw [if_neg h]; simp only [lkM]
      by_cases h2 : a = t.1
      · rw [if_pos h2, if_pos h2, if_neg (by rw [h2]; exact fun e => h e.symm)]
      · rw [if_neg h2, if_neg h2]; exact lkM_up a b v m
theorem keys_up (b : α) (v : Value) : ∀ (m : List (α × Value)), (upM b v m).map (·.1) = if b ∈ m.map (·.1) then m.map (·.1) else m.map (·.1) ++ [b]
  | [] => by simp [upM]
  | t :: m => by
    simp only [upM]
    by_cases h : b = t.1
    · rw [if_pos h]; simp [h]
    · rw [if_neg h]; simp only [List.map_cons, keys_up b v m, List.mem_cons]
      by_cases h2 : b ∈ m.map (·.1)
      · rw [if_pos h2, if_pos (.inr h2)]
      · rw [if_neg h2, if_neg (by simp [h, h2])]; rfl
theorem lkM_dl (a b : α) : ∀ (m : List (α × Value)), (m.map (·.1)).Nodup → lkM a (dlM b m) = if a = b then none else lkM a m
  | [], _ => by simp [dlM, lkM]
  | t :: m, hn => by
    simp only [List.map_cons, List.nodup_cons] at hn
    simp only [dlM]
    by_cases h : b = t.1
    · rw [if_pos h]
      by_cases h2 : a = b
      · rw [if_pos h2, lkM_none_iff, h2, h]; exact hn.1
      · rw [if_neg h2]; simp only [lkM]; rw [if_neg (by rw [← h]; exact h2)]
    · rw [if_neg h]; simp only [lkM]
      by_cases h2 : a = t.1
      · rw [if_pos h2, if_pos h2, if_neg (by rw [h2]; exact fun e => h e.symm)]
      · rw [if_neg h2, if_neg h2]; exact lkM_dl a b m hn.2
theorem keys_dl (b : α) : ∀ (m : List (α × Value)), ((dlM b m).map (·.1)).Sublist (m.map (·.1))
  | [] => by simp [dlM]
  | t :: m => by
    simp only [dlM]
    by_cases h : b = t.1
    · rw [if_pos h]; simp
    · rw [if_neg h]; simp only [List.map_cons]; exact (keys_dl b m).cons_cons _
theorem dl_length (b : α) : ∀ (m : List (α × Value)), (dlM b m).length = if (lkM b m).isSome then m.length - 1 else m.length
  | [] => rfl
  | t :: m => by
    by_cases h : b = t.1
    · have h1 : lkM b (t :: m) = some t.2 := by simp only [lkM]; rw [if_pos h]
      have h2 : dlM b (t :: m) = m := by simp only [dlM]; rw [if_pos h]
      rw [h1, h2]; rfl
    · have h1 : lkM b (t :: m) = lkM b m := by simp only [lkM]; rw [if_neg h]
      have h2 : dlM b (t :: m) = t :: dlM b m := by simp only [dlM]; rw [if_neg h]
      rw [h1, h2, List.length_cons, dl_length b m]
      split
      · rename_i hs
        have : m ≠ [] := by intro e; subst e; simp [lkM] at hs
        have := List.length_pos_iff.2 this
        simp only [List.length_cons]
        omega
      · rfl
theorem up_length (b : α) (v : Value) : ∀ (m : List (α × Value)), (upM b v m).length = if (lkM b m).isSome then m.length else m.length + 1
  | [] => rfl
  | t :: m => by
    by_cases h : b = t.1
    · have h1 : lkM b (t :: m) = some t.2 := by simp only [lkM]; rw [if_pos h]
      have h2 : upM b v (t :: m) = (b, v) :: m := by simp only [upM]; rw [if_pos h]
      rw [h1, h2]; rfl
    · have h1 : lkM b (t :: m) = lkM b m := by simp only [lkM]; rw [if_neg h]
      have h2 : upM b v (t :: m) = t :: upM b v m := by simp only [upM]; rw [if_neg h]
      rw [h1, h2, List.length_cons, up_length b v m]; split <;> rfl
theorem Fm.up {f : α → Option Value} {n : Nat} {m : List (α × Value)} (h : Fm f n m) (a : α) (v : Value) : Fm (updF f a v) (if (f a).isSome then n else n + 1) (upM a v m) where
  nd := by
    rw [keys_up]
    split
    · exact h.nd
    · rename_i h1
      rw [List.nodup_append]
      refine ⟨h.nd, by simp, ?_⟩
      intro x hx y hy e
      simp only [List.mem_singleton] at hy
      subst hy; subst e; exact h1 hx
  lk := fun x => by rw [lkM_up, updF, h.lk]
  n := by rw [up_length, h.lk, h.n]
theorem Fm.dl {f : α → Option Value} {n : Nat} {m : List (α × Value)} (h : Fm f n m) (a : α) : Fm (delF f a) (if (f a).isSome then n - 1 else n) (dlM a m) where
  nd := h.nd.sublist (keys_dl a m)
  lk := fun x => by rw [lkM_dl _ _ _ h.nd, delF, h.lk]
  n := by rw [dl_length, h.lk, h.n]
end
def mapF {α : Type} [DecidableEq α] (enc : α → Value) (b : Nat) (f : α → Option Value) (n : Nat) : HP := EX fun m : List (α × Value) => pure' (Fm f n m) (mapP enc b m)
def RdF {α : Type} [DecidableEq α] (A : HP) (b : Nat) (enc : α → Value) (f : α → Option Value) (n : Nat) : Prop := ∀ h, A h → ∃ m, Fm f n m ∧ ∃ o, h b = some o ∧ isM enc m o
section
variable {α : Type} [DecidableEq α] {enc : α → Value} {f : α → Option Value} {n b : Nat}
theorem RdF_map : RdF (mapF enc b f n) b enc f n := fun _ ⟨m, hm, hp⟩ => ⟨m, hm, RdM_map enc b m _ hp⟩
theorem RdF_l {A B : HP} (x : RdF A b enc f n) : RdF (sep A B) b enc f n := by
  rintro h ⟨a, c, d, rfl, ha, hb⟩
  obtain ⟨m, hm, o, h1, h2⟩ := x a ha
  exact ⟨m, hm, o, hsub_hun_l a c b o h1, h2⟩
theorem RdF_r {A B : HP} (x : RdF B b enc f n) : RdF (sep A B) b enc f n := by
  rintro h ⟨a, c, d, rfl, ha, hb⟩
  obtain ⟨m, hm, o, h1, h2⟩ := x c hb
  exact ⟨m, hm, o, hsub_hun_r d b o h1, h2⟩
end
class RdFI (A : HP) (b : Nat) {α : outParam Type} [outParam (DecidableEq α)] (enc : outParam (α → Value)) (f : outParam (α → Option Value)) (n : outParam Nat) : Prop where
  rd : RdF A b enc f n
section
variable {α : Type} [DecidableEq α]
instance (enc : α → Value) (b : Nat) (f : α → Option Value) (n : Nat) : RdFI (mapF enc b f n) b enc f n := ⟨RdF_map⟩
instance (A : HP) (l : List HP) (b : Nat) (enc : α → Value) (f : α → Option Value) (n : Nat) [h : RdFI (sepL l) b enc f n] : RdFI (sepL (A :: l)) b enc f n := ⟨RdF_r h.rd⟩
instance (A : HP) (l : List HP) (b : Nat) (enc : α → Value) (f : α → Option Value) (n : Nat) [h : RdFI A b enc f n] : RdFI (sepL (A :: l)) b enc f n := ⟨RdF_l h.rd⟩
end
class TkF (hs : List HP) (b : Nat) {α : outParam Type} [outParam (DecidableEq α)] (enc : outParam (α → Value)) (f : outParam (α → Option Value)) (n : outParam Nat) (r : outParam (List HP)) : Prop where
  tk : ∃ i, take1 i hs = some (mapF enc b f n, r)
section
variable {α : Type} [DecidableEq α]
instance (enc : α → Value) (b : Nat) (f : α → Option Value) (n : Nat) (r : List HP) : TkF (mapF enc b f n :: r) b enc f n r := ⟨0, rfl⟩
instance (A : HP) (hs : List HP) (b : Nat) (enc : α → Value) (f : α → Option Value) (n : Nat) (r : List HP) [h : TkF hs b enc f n r] : TkF (A :: hs) b enc f n (A :: r) := ⟨by
  obtain ⟨i, hi⟩ := h.tk
  exact ⟨i + 1, by simp [take1, hi]⟩⟩
end
section
variable {α : Type} [DecidableEq α] {enc : α → Value} {f : α → Option Value} {n : Nat}
variable {r : Option Nat} {P : Program} {N : Nat} {ops : Array Oper} {l : List Oper} {Q : Post} {ρ : Env} {ds : List Deferred} {A : HP} {K : Value → HP → Prop}
variable {d : Option Tmp} {ty : TypeId} {ps : String} {af : Array Edge} {g : Option (Nat × Bool)}
variable {t t' : TypeId} {x y z : Operand}
theorem RdF.at {b : Nat} (hr : RdF A b enc f n) {w : World} (hs : QM.sat w A) : ∃ (B : HP) (m : List (α × Value)), Fm f n m ∧ QM.sat w B ∧ RdMI B b α enc m := by
  obtain ⟨hh, hx, ha⟩ := hs
  obtain ⟨m, hm, o, h1, h2⟩ := hr hh ha
  exact ⟨fun h => h = hh, m, hm, ⟨hh, hx, rfl⟩, ⟨fun h e => by subst e; exact ⟨o, h1, h2⟩⟩⟩
theorem luF (kt e : TypeId) {b : Nat} {a : α} {zv : Value} (ht : mapT P t kt e = true) (hz : zeroT P e = some zv) (hk : KL P kt enc) (hx : ev ρ x = .map (some b)) (hy : ev ρ y = enc a) [hr : RdFI A b enc f n] :
    OQ P ρ ⟨d, .lookup t x y false, ty, ps, af, g⟩ A ((f a).getD zv) := fun w hs => by
  obtain ⟨B, m, hm, hs', hr'⟩ := hr.rd.at hs
  have := (luM (A := B) (d := d) (ty := ty) (ps := ps) (af := af) (g := g) kt e ht hz hk hx hy) w hs'
  rwa [hm.lk] at this
theorem luFO (kt e : TypeId) {b : Nat} {a : α} {zv : Value} (ht : mapT P t kt e = true) (hz : zeroT P e = some zv) (hk : KL P kt enc) (hx : ev ρ x = .map (some b)) (hy : ev ρ y = enc a) [hr : RdFI A b enc f n] :
    OQ P ρ ⟨d, .lookup t x y true, ty, ps, af, g⟩ A (.tuple #[(f a).getD zv, .bool (f a).isSome]) := fun w hs => by
  obtain ⟨B, m, hm, hs', hr'⟩ := hr.rd.at hs
  have := (luO (A := B) (d := d) (ty := ty) (ps := ps) (af := af) (g := g) kt e ht hz hk hx hy) w hs'
  rwa [hm.lk] at this
theorem mkF {hs : List HP} (enc : α → Value) (k : ∀ b, K (.map (some b)) (sepL (mapF enc b (fun _ => none) 0 :: hs))) : OW r P ρ ⟨d, .makeMap t none, ty, ps, af, g⟩ (sepL hs) K :=
  OW.post (K1 := fun v A' => ∃ b, v = .map (some b) ∧ A' = sepL (mapP enc b [] :: hs)) (mkM enc fun b => ⟨b, rfl, rfl⟩) (by
    rintro v A' ⟨b, rfl, rfl⟩
    exact ⟨_, sep_mono (ent_of_imp fun h hp => ⟨[], ⟨by simp, fun _ => rfl, rfl⟩, hp⟩) (ent.refl _), k b⟩)
theorem muF {hs rest : List HP} (kt e : TypeId) {b : Nat} {a : α} {v : Value} (ht : mapT P t kt e = true) (hk : KL P kt enc) (hx : ev ρ x = .map (some b)) (hy : ev ρ y = enc a) (hv : ev ρ z = v) [hi : TkF hs b enc f n rest]
    (k : K undef (sepL (mapF enc b (updF f a v) (if (f a).isSome then n else n + 1) :: rest))) : OW r P ρ ⟨d, .mapUpdate t x y z, ty, ps, af, g⟩ (sepL hs) K := by
  obtain ⟨i, hi⟩ := hi.tk
  refine OW.weak (take1_ent hi) (show OW r P ρ _ (sepL (mapF enc b f n :: rest)) K from ?_)
  refine OW.ex fun m => OW.pure fun hm => ?_
  exact OW.post (K1 := fun v' A' => v' = undef ∧ A' = sepL (mapP enc b (upM a v m) :: rest)) (muM kt e ht hk hx hy hv ⟨rfl, rfl⟩) (by
    rintro v' A' ⟨rfl, rfl⟩
    exact ⟨_, sep_mono (ent_of_imp fun h hp => ⟨_, hm.up a v, hp⟩) (ent.refl _), k⟩)
theorem deF {hs rest : List HP} (kt e : TypeId) {b : Nat} {a : α} {tys : Array TypeId} (ht : mapT P t kt e = true) (hk : KL P kt enc) (hx : ev ρ x = .map (some b)) (hy : ev ρ y = enc a) (hty : tys[0]? = some t) [hi : TkF hs b enc f n rest]
    (k : K (.tuple #[]) (sepL (mapF enc b (delF f a) (if (f a).isSome then n - 1 else n) :: rest))) : OW r P ρ ⟨d, .call ⟨.builtin .delete, #[x, y], tys⟩, ty, ps, af, g⟩ (sepL hs) K := by
  obtain ⟨i, hi⟩ := hi.tk
  refine OW.weak (take1_ent hi) (show OW r P ρ _ (sepL (mapF enc b f n :: rest)) K from ?_)
  refine OW.ex fun m => OW.pure fun hm => ?_
  exact OW.post (K1 := fun v' A' => v' = .tuple #[] ∧ A' = sepL (mapP enc b (dlM a m) :: rest)) (deM kt e ht hk hx hy hty ⟨rfl, rfl⟩) (by
    rintro v' A' ⟨rfl, rfl⟩
    exact ⟨_, sep_mono (ent_of_imp fun h hp => ⟨_, hm.dl a, hp⟩) (ent.refl _), k⟩)
end
end Go.QM
namespace Go.QM
open Go
def bigS {α : Type} (f : α → HP) (L : List α) : HP := sepL (L.map f)
section
variable {α : Type} {f g : α → HP}
theorem sepL_perm {l m : List HP} (h : l.Perm m) : ent (sepL l) (sepL m) := by
  induction h with
  | nil => exact ent.refl _
  | cons x _ ih => exact sep_mono (ent.refl x) ih
  | swap x y l => exact sep_swap
  | trans _ _ h1 h2 => exact h1.trans h2
theorem bigS_perm {L M : List α} (h : L.Perm M) : ent (bigS f L) (bigS f M) := sepL_perm (h.map f)
theorem bigS_congr {L : List α} (h : ∀ a ∈ L, f a = g a) : bigS f L = bigS g L := by
  rw [bigS, bigS, List.map_congr_left h]
theorem bigS_nil (hs : List HP) : ent (sepL hs) (sepL (bigS f [] :: hs)) := sep_emp.trans sep_comm
theorem ent_openB (n : Nat) {hs rr : List HP} {L L' : List α} {a : α} (h : take1 n hs = some (bigS f L, rr)) (hp : L.Perm (a :: L')) : ent (sepL hs) (sepL (f a :: bigS f L' :: rr)) :=
  (take1_ent h).trans ((sep_mono (bigS_perm hp) (ent.refl _)).trans sep_assoc)
theorem ent_closeB (i j : Nat) {hs r1 r2 gs : List HP} {L M : List α} {A : HP} (a : α) (h1 : take1 i hs = some (A, r1)) (h2 : take1 j r1 = some (bigS f L, r2)) (hA : A = g a) (hc : ∀ x ∈ L, f x = g x) (hp : (a :: L).Perm M)
    (k : ent (sepL r2) (sepL gs)) : ent (sepL hs) (sepL (bigS g M :: gs)) := by
  subst hA
  rw [bigS_congr hc] at h2
  refine (take1_ent h1).trans ((sep_mono (ent.refl _) (take1_ent h2)).trans (sep_assoc'.trans (sep_mono ?_ k)))
  exact bigS_perm (f := g) hp
theorem ent_takeB (i : Nat) {hs r gs : List HP} {L M : List α} (h : take1 i hs = some (bigS f L, r)) (hc : ∀ x ∈ L, f x = g x) (hp : L.Perm M) (k : ent (sepL r) (sepL gs)) : ent (sepL hs) (sepL (bigS g M :: gs)) := by
  rw [bigS_congr hc] at h
  exact (take1_ent h).trans (sep_mono (bigS_perm hp) k)
theorem perm_take {L : List α} {i : Nat} {a : α} (h : L[i]? = some a) : L.Perm (a :: (L.take i ++ L.drop (i + 1))) := by
  obtain ⟨h1, h2⟩ := List.getElem?_eq_some_iff.1 h
  have e : L = L.take i ++ a :: L.drop (i + 1) := by rw [← h2, ← List.drop_eq_getElem_cons h1, List.take_append_drop]
  conv => lhs; rw [e]
  exact List.perm_middle
theorem perm_mem {L : List α} {a : α} (h : a ∈ L) : ∃ L', L.Perm (a :: L') := by
  obtain ⟨s, t, rfl⟩ := List.append_of_mem h
  exact ⟨s ++ t, List.perm_middle⟩
end
section
variable {r : Option Nat} {P : Program} {N : Nat} {ops : Array Oper} {l : List Oper} {Q : Post} {ρ : Env} {ds : List Deferred} {A : HP} {K : Value → HP → Prop}
variable {d : Option Tmp} {ty : TypeId} {ps : String} {af : Array Edge} {g : Option (Nat × Bool)}
variable {t t' : TypeId} {x y : Operand}
theorem storeCells_run {w : World} {b off E : Nat} {l vs : List Value} (h : w.heap[b]? = some (.cells l.toArray E (0, 0))) (hlen : off + vs.length ≤ l.length) (h1 : vs.all Value.oneCell' = true) :
    (storeCells ⟨b, off, none⟩ vs).run P w = .ok () (w.setRow b (splice off vs l).toArray) := by
  have := run_storeCells_at P b off E vs 0 l.toArray w h (by simpa using hlen) (fun u hu => by simpa using List.all_eq_true.1 h1 u hu)
  simp only [Nat.add_zero] at this
  simpa [splice] using this
theorem splice_mid {pre cs suf vs : List Value} {o : Nat} (h : o + vs.length ≤ cs.length) : splice (pre.length + o) vs (pre ++ cs ++ suf) = pre ++ splice o vs cs ++ suf := by
  unfold splice
  rw [List.append_assoc pre cs suf, List.take_append, List.take_of_length_le (by omega), Nat.add_sub_cancel_left, Nat.add_assoc, List.drop_append, List.drop_eq_nil_of_le (by omega), Nat.add_sub_cancel_left, List.nil_append,
    List.take_append_of_le_length (by omega), List.drop_append_of_le_length (by omega)]
  simp [List.append_assoc]
theorem slc_turn {w : World} {E sz pb n cap : Nat} {pre cs cs' suf : List Value} {rest : List HP} (h : sat w (sep (pts pb E (pre ++ cs ++ suf)) (sepL rest))) (f2 : cs.length = n * sz) (f3 : n ≤ cap) (f4 : cap ≤ maxLen)
    (f5 : cap * sz ≤ cs.length + suf.length) (hl : cs'.length = cs.length) : sat (w.setRow pb (pre ++ cs' ++ suf).toArray) (sepL (slc E sz (some ⟨pb, pre.length, none⟩) n cap cs' :: rest)) :=
  (sat_setRow h).weak (sep_mono (ent_of_imp fun h hh => ⟨(pre, suf), ⟨rfl, by omega, f3, f4, by simp only; omega⟩, hh⟩) (ent.refl _))
theorem slc_open {w : World} {E sz n cap : Nat} {ad : Option Addr} {cs : List Value} {hs rest : List HP} (hs' : sat w (sepL hs)) (hi : ∃ i, take1 i hs = some (slc E sz ad n cap cs, rest)) (hn : 0 < cs.length) :
    ∃ pb pre suf, ad = some ⟨pb, pre.length, none⟩ ∧ cs.length = n * sz ∧ n ≤ cap ∧ cap ≤ maxLen ∧ cap * sz ≤ cs.length + suf.length ∧ sat w (sep (pts pb E (pre ++ cs ++ suf)) (sepL rest)) := by
  obtain ⟨i, hi⟩ := hi
  obtain ⟨hh, hx, a, b, dd, rfl, hp, hq⟩ := hs'.weak (take1_ent hi)
  cases ad with
  | none => obtain ⟨⟨_, _, e⟩, _⟩ := hp; rw [e] at hn; simp at hn
  | some p =>
    obtain ⟨⟨pre, suf⟩, ⟨f1, f2, f3, f4, f5⟩, hp⟩ := hp
    obtain ⟨pb, po, psp⟩ := p
    simp only [Addr.mk.injEq, true_and] at f1
    obtain ⟨rfl, rfl⟩ := f1
    exact ⟨pb, pre, suf, rfl, f2, f3, f4, f5, _, hx, a, b, dd, rfl, hp, hq⟩
theorem cpy {hs rest : List HP} {E sz n cap E2 m cap2 : Nat} {ad ad2 : Option Addr} {cs cs2 cs' : List Value} (k : Nat) (ht : slcT P t E sz = true) (hx : ev ρ x = .slice ad n cap) (hy : ev ρ y = .slice ad2 m cap2)
    [hi : TkS hs ad E sz n cap cs rest] [hr : RdSI (sepL hs) ad2 E2 cs2] (hm : m * sz ≤ cs2.length) (hk : Nat.min m n = k) (hp : 0 < cs.length) (h1 : (cs2.take (k * sz)).all Value.oneCell' = true) (hs' : splice 0 (cs2.take (k * sz)) cs = cs')
    (kk : K (.int .i64 k) (sepL (slc E sz ad n cap cs' :: rest))) : OW r P ρ ⟨d, .call ⟨.builtin .copy, #[x, y], #[t, t']⟩, ty, ps, af, g⟩ (sepL hs) K := by
  refine OW.run rfl fun w hsat => ?_
  obtain ⟨pb, pre, suf, rfl, f2, f3, f4, f5, h2⟩ := slc_open hsat hi.tk hp
  have hb : w.heap[pb]? = some (.cells (pre ++ cs ++ suf).toArray E (0, 0)) := (Rd_l (Rd_pts pb E _)).sat h2
  have hkm : k ≤ m := by rw [← hk]; exact Nat.min_le_left _ _
  have hkn : k ≤ n := by rw [← hk]; exact Nat.min_le_right _ _
  have hks : k * sz ≤ cs2.length := Nat.le_trans (Nat.mul_le_mul_right _ hkm) hm
  have hcl : (cs2.take (k * sz)).length = k * sz := by rw [List.length_take]; omega
  have hfit : 0 + (cs2.take (k * sz)).length ≤ cs.length := by rw [hcl, f2]; have := Nat.mul_le_mul_right sz hkn; omega
  have hst := storeCells_run (P := P) (off := pre.length + 0) hb (by rw [List.length_append, List.length_append]; omega) h1
  rw [splice_mid hfit, hs', Nat.add_zero] at hst
  have hfe : Builtin.firstCells sz k (.slice ad2 m cap2) = Builtin.firstCells sz k (.slice ad2 k cap2) := by cases ad2 <;> rfl
  have hfc : (Builtin.firstCells sz k (.slice ad2 m cap2)).run P w = .ok (cs2.take (k * sz)).toArray w := by rw [hfe]; exact firstCells_run (hr.rd.sat hsat) hks
  refine ⟨.int .i64 k, w.setRow pb (pre ++ cs' ++ suf).toArray, _, .inl ?_, ⟨rfl, rfl, rfl, by simp⟩, slc_turn h2 f2 f3 f4 f5 (by rw [← hs']; exact splice_length hfit), kk⟩
  simp [execOp, resolve, invoke, builtin, Builtin.copy_, hx, hy, slcT_run ht, Builtin.lenOf, hk, hfc, hst, goInt]
theorem clr {hs rest : List HP} {E sz n cap : Nat} {ad : Option Addr} {cs : List Value} {z : Value} {tys : Array TypeId} (i : Nat) (ht : slcT P t E sz = true) (hz : zeroT P E = some z) (hzs : z.cells.toList.length = sz) (hz1 : z.cells.toList.all Value.oneCell' = true) (hsz : 0 < sz)
    (hx : ev ρ x = .slice (sliceOff ad cap i sz) (n - i) (cap - i)) (hty : tys[0]? = some t) [hi : TkS hs ad E sz n cap cs rest] (hin : i ≤ n)
    (k : ∀ cs', cs'.length = cs.length → cs'.take (i * sz) = cs.take (i * sz) → K (.tuple #[]) (sepL (slc E sz ad n cap cs' :: rest))) : OW r P ρ ⟨d, .call ⟨.builtin .clear, #[x], tys⟩, ty, ps, af, g⟩ (sepL hs) K := by
  refine OW.run rfl fun w hsat => ?_
  by_cases h0 : n - i = 0
  · obtain ⟨j, hj⟩ := hi.tk
    refine ⟨.tuple #[], w, _, .inl ?_, Same.refl w, hsat.weak (take1_ent hj), k cs rfl rfl⟩
    rw [h0] at hx
    cases hs0 : sliceOff ad cap i sz <;> rw [hs0] at hx <;> simp [execOp, resolve, invoke, builtin, Builtin.clear_, hx, hty, (slcT_run ht w).1]
  · obtain ⟨j, hj⟩ := hi.tk
    have hfacts : cs.length = n * sz := by
      obtain ⟨hh, hx', a, b, dd, rfl, hp, hq⟩ := hsat.weak (take1_ent hj)
      exact (slc_facts hp).1
    have hcl : 0 < cs.length := by rw [hfacts]; exact Nat.mul_pos (by omega) hsz
    obtain ⟨pb, pre, suf, rfl, f2, f3, f4, f5, h2⟩ := slc_open hsat hi.tk hcl
    have hb : w.heap[pb]? = some (.cells (pre ++ cs ++ suf).toArray E (0, 0)) := (Rd_l (Rd_pts pb E _)).sat h2
    have hso : sliceOff (some ⟨pb, pre.length, none⟩) cap i sz = some ⟨pb, pre.length + i * sz, none⟩ := by
      rw [sliceOff, if_neg (by omega)]; simp [addr_add]
    rw [hso] at hx
    have hzc : (Builtin.zeroCells z.cells (n - i)).toList = (List.replicate (n - i) z.cells.toList).flatten := by
      have := zero_cells z.cells (n - i)
      rw [Builtin.zeroCells, this]
    have hzl : (Builtin.zeroCells z.cells (n - i)).toList.length = (n - i) * sz := by
      rw [hzc]; simp [hzs]
    have hza : (Builtin.zeroCells z.cells (n - i)).toList.all Value.oneCell' = true := by
      rw [hzc, List.all_eq_true]
      intro v hv
      obtain ⟨l0, hl0, hv0⟩ := List.mem_flatten.1 hv
      obtain ⟨_, rfl⟩ := List.mem_replicate.1 hl0
      exact List.all_eq_true.1 hz1 v hv0
    have hmul : i * sz + (n - i) * sz = n * sz := by rw [← Nat.add_mul]; congr 1; omega
    have hst := storeCells_run (P := P) (off := pre.length + i * sz) hb (by rw [hzl, List.length_append, List.length_append]; omega) hza
    rw [splice_mid (by rw [hzl]; omega)] at hst
    have hsl : (splice (i * sz) (Builtin.zeroCells z.cells (n - i)).toList cs).length = cs.length := splice_length (by rw [hzl]; omega)
    refine ⟨.tuple #[], w.setRow pb (pre ++ splice (i * sz) (Builtin.zeroCells z.cells (n - i)).toList cs ++ suf).toArray, _, .inl ?_, ⟨rfl, rfl, rfl, by simp⟩, slc_turn h2 f2 f3 f4 f5 hsl, k _ hsl ?_⟩
    · obtain ⟨m, hm⟩ : ∃ m, n - i = m + 1 := ⟨n - i - 1, by omega⟩
      rw [hm] at hx hst
      have hzv : (zeroValue E).run P w = .ok z w := zeroT_run hz w
      simp [execOp, resolve, invoke, builtin, Builtin.clear_, hx, hty, (slcT_run ht w).1, hzv, hst, hm]
    · have hle : i * sz ≤ cs.length := by omega
      rw [splice, List.append_assoc, List.take_append_of_le_length (by rw [List.length_take]; omega), List.take_of_length_le (by rw [List.length_take]; omega)]
def sliT (P : Program) (t : TypeId) : Bool := match P.underlying t with
  | some (.slice _) => true
  | _ => false
theorem equal_nilS {t : TypeId} (h : sliT P t = true) (p : Option Addr) (n c : Nat) (w : World) : (Op.equal t (.slice p n c) (.slice none 0 0)).run P w = .ok p.isNone w := by
  unfold sliT at h
  cases hu : P.underlying t with
  | none => rw [hu] at h; cases h
  | some u =>
    rw [hu] at h
    cases u <;> first | (cases h; done) | skip
    have key : ∀ d, (Op.equalIn (d + 1) t (.slice p n c) (.slice none 0 0)).run P w = .ok p.isNone w := fun d => by
      cases p <;> simp [Op.equalIn, underlying, hu]
    exact key 9999
theorem eqSl {p : Option Addr} {n c : Nat} (ht : sliT P t = true) (hx : ev ρ x = .slice p n c) (hy : ev ρ y = .slice none 0 0) : OQ P ρ ⟨d, .binOp .eql t x y t', ty, ps, af, g⟩ A (.bool p.isNone) := by
  intro w _
  unfold execOp
  simp only [hx, hy, eqGuard, binOp, Sem.run_bind, Sem.run_pure, Result.andThen_ok, equal_nilS ht]
  rfl
def booT (P : Program) (t : TypeId) : Bool := match P.underlying t with
  | some .bool => true
  | _ => false
end
section
variable {r : Option Nat} {P : Program} {N : Nat} {Q : Post} {ρ : Env} {ds : List Deferred} {A : HP} {c : Code}
theorem TC.fact {p : Prop} (h : ∀ hh, A hh → p) (k : p → TC r P N c Q ρ ds A) : TC r P N c Q ρ ds A := fun a w hr hs =>
  k (let ⟨hh, _, x⟩ := hs; h hh x) a w hr hs
end
theorem RdS_none {A : HP} {E : Nat} {cs : List Value} (x : RdS A E none cs) : ∀ h, A h → cs = [] := fun h a => by
  rcases x h a with h1 | ⟨_, _, _, _, h1, _⟩
  · exact h1
  · cases h1
def rowsC (r : Nat → Value) (tl : List Value) : List Value := [r 0, r 1, r 2, r 3, r 4, r 5, r 6, r 7] ++ tl
theorem rows_ld {r : Nat → Value} {tl : List Value} {p o : Nat} (hp : p < 8) (ho : o = p) : (rowsC r tl)[o]? = some (r p) := by
  rw [ho]; clear ho
  rcases p with _ | _ | _ | _ | _ | _ | _ | _ | p <;> first | rfl | omega
theorem rows_st {r : Nat → Value} {tl : List Value} {p o : Nat} (v : Value) (hp : p < 8) (ho : o = p) : splice o [v] (rowsC r tl) = rowsC (fun x => if x = p then v else r x) tl := by
  rw [ho]; clear ho
  rcases p with _ | _ | _ | _ | _ | _ | _ | _ | p <;> first | rfl | omega
theorem rows_congr {r r' : Nat → Value} {tl : List Value} (h : ∀ p, p < 8 → r p = r' p) : rowsC r tl = rowsC r' tl := by
  rw [rowsC, rowsC, h 0 (by omega), h 1 (by omega), h 2 (by omega), h 3 (by omega), h 4 (by omega), h 5 (by omega), h 6 (by omega), h 7 (by omega)]
theorem rows_length (r : Nat → Value) (tl : List Value) : (rowsC r tl).length = 8 + tl.length := by simp [rowsC]; omega
theorem range_perm {n p : Nat} (hp : p < n) : ∃ L, (List.range n).Perm (p :: L) ∧ ∀ x ∈ L, x ≠ p ∧ x < n := by
  have hm : p ∈ List.range n := List.mem_range.2 hp
  obtain ⟨s, t, e⟩ := List.append_of_mem hm
  have hp1 : (List.range n).Perm (p :: (s ++ t)) := by rw [e]; exact List.perm_middle
  have hn := hp1.nodup_iff.1 List.nodup_range
  rw [List.nodup_cons] at hn
  exact ⟨s ++ t, hp1, fun x hx => ⟨fun e2 => hn.1 (by rw [← e2]; exact hx), List.mem_range.1 (hp1.mem_iff.2 (by simp [hx]))⟩⟩
def updN {α : Type} (f : Nat → α) (p : Nat) (v : α) : Nat → α := fun x => if x = p then v else f x
theorem updN_same {α : Type} (f : Nat → α) (p : Nat) (v : α) : updN f p v p = v := by simp [updN]
theorem updN_ne {α : Type} {f : Nat → α} {p x : Nat} {v : α} (h : x ≠ p) : updN f p v x = f x := by simp [updN, h]
def updI {α : Type} (f : Int → α) (p : Int) (v : α) : Int → α := fun x => if x = p then v else f x
theorem updI_same {α : Type} (f : Int → α) (p : Int) (v : α) : updI f p v p = v := by simp [updI]
theorem updI_ne {α : Type} {f : Int → α} {p x : Int} {v : α} (h : x ≠ p) : updI f p v x = f x := by simp [updI, h]
end Go.QM
