/-
  Slices cut at numbers, read from the middle; maps by what they hold at each key. Nothing of a program stands here.
-/
import Derived.Test.YtdfmfhcjnjfjbaaQLibZ
namespace Go.QM
open Go

/-! ### Slices of slices -/
/-- A part behind j of a slice that can be read. -/
class OffI (cs : List Value) (cap j sz : Nat) : Prop where
  n : ∃ n, cs.length = n * sz ∧ j ≤ n ∧ n ≤ cap
instance (A : HP) (ad : Option Addr) (cap j sz E : Nat) (cs : List Value) [hr : RdSI A ad E cs] [h : OffI cs cap j sz] : RdSI A (sliceOff ad cap j sz) E (cs.drop (j * sz)) := ⟨by
  obtain ⟨n, h1, h2, h3⟩ := h.n
  exact RdS_drop hr.rd h1 h2 h3⟩
section
variable {r : Option Nat} {P : Program} {N : Nat} {ops : Array Oper} {l : List Oper} {Q : Post} {ρ : Env} {ds : List Deferred} {A : HP} {K : Value → HP → Prop}
variable {d : Option Tmp} {ty : TypeId} {ps : String} {af : Array Edge} {g : Option (Nat × Bool)}
variable {t t' : TypeId} {x y z : Operand} {k : IntKind}
theorem slFn (E sz i : Nat) {ad : Option Addr} {n cap : Nat} {j : Int} (ht : slcT P t E sz = true) (hx : ev ρ x = .slice ad n cap) (hy : ev ρ y = .int .i64 j) (hj : j = (i : Int)) (h1 : i ≤ n) :
    OQ P ρ ⟨d, .slice t x (some y) none none, ty, ps, af, g⟩ A (.slice (sliceOff ad cap i sz) (n - i) (cap - i)) := by
  subst hj
  have := slF (A := A) (d := d) (ty := ty) (ps := ps) (af := af) (g := g) E sz ht hx hy (by omega) (by omega)
  rwa [Int.toNat_natCast] at this
theorem slTn (E sz i : Nat) {ad : Option Addr} {n cap : Nat} {j : Int} (ht : slcT P t E sz = true) (hx : ev ρ x = .slice ad n cap) (hy : ev ρ y = .int .i64 j) (hj : j = (i : Int)) (h1 : i ≤ cap) :
    OQ P ρ ⟨d, .slice t x none (some y) none, ty, ps, af, g⟩ A (.slice ad i cap) := by
  subst hj
  have := slT (A := A) (d := d) (ty := ty) (ps := ps) (af := af) (g := g) E sz ht hx hy (by omega) (by omega)
  rwa [Int.toNat_natCast] at this
end

/-! ### Pieces that are looked for -/
class TkA (hs : List HP) (A : HP) (r : outParam (List HP)) : Prop where
  tk : ∃ i, take1 i hs = some (A, r)
instance (priority := 100) (B : HP) (hs : List HP) (A : HP) (r : List HP) [h : TkA hs A r] : TkA (B :: hs) A (B :: r) := ⟨by
  obtain ⟨i, hi⟩ := h.tk
  exact ⟨i + 1, by simp [take1, hi]⟩⟩
instance (priority := 200) (A : HP) (r : List HP) : TkA (A :: r) A r := ⟨0, rfl⟩
class PkL (hs pre : List HP) (rest : outParam (List HP)) : Prop where
  p : Picked hs pre rest
instance (hs : List HP) : PkL hs [] hs := ⟨picked_nil hs⟩
instance (hs r pre rest : List HP) (A : HP) [h : TkA hs A r] [k : PkL r pre rest] : PkL hs (A :: pre) rest := ⟨by
  obtain ⟨i, hi⟩ := h.tk
  exact picked_cons i hi k.p⟩
/-- Every piece that is asked is found. -/
class EnL (hs gs : List HP) : Prop where
  e : ent (sepL hs) (sepL gs)
instance (hs : List HP) : EnL hs [] := ⟨ent_nil hs⟩
instance (hs r gs : List HP) (A : HP) [h : TkA hs A r] [k : EnL r gs] : EnL hs (A :: gs) := ⟨by
  obtain ⟨i, hi⟩ := h.tk
  exact ent_take i hi k.e⟩

/-! ### Maps by their keys -/
section
variable {α : Type} [DecidableEq α]
def updF (f : α → Option Value) (a : α) (v : Value) : α → Option Value := fun x => if x = a then some v else f x
def delF (f : α → Option Value) (a : α) : α → Option Value := fun x => if x = a then none else f x
/-- The entries m hold f, and no key twice. -/
structure Fm (f : α → Option Value) (n : Nat) (m : List (α × Value)) : Prop where
  nd : (m.map (·.1)).Nodup
  lk : ∀ a, lkM a m = f a
  n : m.length = n
theorem lkM_none_iff {a : α} : ∀ {m : List (α × Value)}, lkM a m = none ↔ a ∉ m.map (·.1)
  | [] => by simp [lkM]
  | t :: m => by
    simp only [lkM, List.map_cons, List.mem_cons, not_or]
    split
    · rename_i h; simp [h]
    · rename_i h; rw [lkM_none_iff]; simp [h]
theorem lkM_up (a b : α) (v : Value) : ∀ (m : List (α × Value)), lkM a (upM b v m) = if a = b then some v else lkM a m
  | [] => by simp only [upM, lkM]
  | t :: m => by
    simp only [upM]
    by_cases h : b = t.1
    · rw [if_pos h]; simp only [lkM]
      by_cases h2 : a = b
      · rw [if_pos h2, if_pos h2]
      · rw [if_neg h2, if_neg h2, if_neg (by rw [← h]; exact h2)]
    · rw [if_neg h]; simp only [lkM]
      by_cases h2 : a = t.1
      · rw [if_pos h2, if_pos h2, if_neg (by rw [h2]; exact fun e => h e.symm)]
      · rw [if_neg h2, if_neg h2]; exact lkM_up a b v m
theorem keys_up (b : α) (v : Value) : ∀ (m : List (α × Value)), (upM b v m).map (·.1) = if b ∈ m.map (·.1) then m.map (·.1) else m.map (·.1) ++ [b]
  | [] => by simp [upM]
  | t :: m => by
    simp only [upM]
    by_cases h : b = t.1
    · rw [if_pos h]; simp [h]
    · rw [if_neg h]; simp only [List.map_cons, keys_up b v m, List.mem_cons]
      by_cases h2 : b ∈ m.map (·.1)
      · rw [if_pos h2, if_pos (.inr h2)]
      · rw [if_neg h2, if_neg (by simp [h, h2])]; rfl
theorem lkM_dl (a b : α) : ∀ (m : List (α × Value)), (m.map (·.1)).Nodup → lkM a (dlM b m) = if a = b then none else lkM a m
  | [], _ => by simp [dlM, lkM]
  | t :: m, hn => by
    simp only [List.map_cons, List.nodup_cons] at hn
    simp only [dlM]
    by_cases h : b = t.1
    · rw [if_pos h]
      by_cases h2 : a = b
      · rw [if_pos h2, lkM_none_iff, h2, h]; exact hn.1
      · rw [if_neg h2]; simp only [lkM]; rw [if_neg (by rw [← h]; exact h2)]
    · rw [if_neg h]; simp only [lkM]
      by_cases h2 : a = t.1
      · rw [if_pos h2, if_pos h2, if_neg (by rw [h2]; exact fun e => h e.symm)]
      · rw [if_neg h2, if_neg h2]; exact lkM_dl a b m hn.2
theorem keys_dl (b : α) : ∀ (m : List (α × Value)), ((dlM b m).map (·.1)).Sublist (m.map (·.1))
  | [] => by simp [dlM]
  | t :: m => by
    simp only [dlM]
    by_cases h : b = t.1
    · rw [if_pos h]; simp
    · rw [if_neg h]; simp only [List.map_cons]; exact (keys_dl b m).cons_cons _
theorem dl_length (b : α) : ∀ (m : List (α × Value)), (dlM b m).length = if (lkM b m).isSome then m.length - 1 else m.length
  | [] => rfl
  | t :: m => by
    by_cases h : b = t.1
    · have h1 : lkM b (t :: m) = some t.2 := by simp only [lkM]; rw [if_pos h]
      have h2 : dlM b (t :: m) = m := by simp only [dlM]; rw [if_pos h]
      rw [h1, h2]; rfl
    · have h1 : lkM b (t :: m) = lkM b m := by simp only [lkM]; rw [if_neg h]
      have h2 : dlM b (t :: m) = t :: dlM b m := by simp only [dlM]; rw [if_neg h]
      rw [h1, h2, List.length_cons, dl_length b m]
      split
      · rename_i hs
        have : m ≠ [] := by intro e; subst e; simp [lkM] at hs
        have := List.length_pos_iff.2 this
        simp only [List.length_cons]
        omega
      · rfl
theorem up_length (b : α) (v : Value) : ∀ (m : List (α × Value)), (upM b v m).length = if (lkM b m).isSome then m.length else m.length + 1
  | [] => rfl
  | t :: m => by
    by_cases h : b = t.1
    · have h1 : lkM b (t :: m) = some t.2 := by simp only [lkM]; rw [if_pos h]
      have h2 : upM b v (t :: m) = (b, v) :: m := by simp only [upM]; rw [if_pos h]
      rw [h1, h2]; rfl
    · have h1 : lkM b (t :: m) = lkM b m := by simp only [lkM]; rw [if_neg h]
      have h2 : upM b v (t :: m) = t :: upM b v m := by simp only [upM]; rw [if_neg h]
      rw [h1, h2, List.length_cons, up_length b v m]; split <;> rfl
theorem Fm.up {f : α → Option Value} {n : Nat} {m : List (α × Value)} (h : Fm f n m) (a : α) (v : Value) : Fm (updF f a v) (if (f a).isSome then n else n + 1) (upM a v m) where
  nd := by
    rw [keys_up]
    split
    · exact h.nd
    · rename_i h1
      rw [List.nodup_append]
      refine ⟨h.nd, by simp, ?_⟩
      intro x hx y hy e
      simp only [List.mem_singleton] at hy
      subst hy; subst e; exact h1 hx
  lk := fun x => by rw [lkM_up, updF, h.lk]
  n := by rw [up_length, h.lk, h.n]
theorem Fm.dl {f : α → Option Value} {n : Nat} {m : List (α × Value)} (h : Fm f n m) (a : α) : Fm (delF f a) (if (f a).isSome then n - 1 else n) (dlM a m) where
  nd := h.nd.sublist (keys_dl a m)
  lk := fun x => by rw [lkM_dl _ _ _ h.nd, delF, h.lk]
  n := by rw [dl_length, h.lk, h.n]
end
/-- A map that is owned: what it holds at each key, how many keys. -/
def mapF {α : Type} [DecidableEq α] (enc : α → Value) (b : Nat) (f : α → Option Value) (n : Nat) : HP := EX fun m : List (α × Value) => pure' (Fm f n m) (mapP enc b m)
def RdF {α : Type} [DecidableEq α] (A : HP) (b : Nat) (enc : α → Value) (f : α → Option Value) (n : Nat) : Prop := ∀ h, A h → ∃ m, Fm f n m ∧ ∃ o, h b = some o ∧ isM enc m o
section
variable {α : Type} [DecidableEq α] {enc : α → Value} {f : α → Option Value} {n b : Nat}
theorem RdF_map : RdF (mapF enc b f n) b enc f n := fun _ ⟨m, hm, hp⟩ => ⟨m, hm, RdM_map enc b m _ hp⟩
theorem RdF_l {A B : HP} (x : RdF A b enc f n) : RdF (sep A B) b enc f n := by
  rintro h ⟨a, c, d, rfl, ha, hb⟩
  obtain ⟨m, hm, o, h1, h2⟩ := x a ha
  exact ⟨m, hm, o, hsub_hun_l a c b o h1, h2⟩
theorem RdF_r {A B : HP} (x : RdF B b enc f n) : RdF (sep A B) b enc f n := by
  rintro h ⟨a, c, d, rfl, ha, hb⟩
  obtain ⟨m, hm, o, h1, h2⟩ := x c hb
  exact ⟨m, hm, o, hsub_hun_r d b o h1, h2⟩
theorem RdF_ent {A B : HP} (e : ent A B) (x : RdF B b enc f n) : RdF A b enc f n := fun h a =>
  let ⟨h', s, hb⟩ := e h a; let ⟨m, hm, o, h1, h2⟩ := x h' hb; ⟨m, hm, o, s b o h1, h2⟩
end
class RdFI (A : HP) (b : Nat) {α : outParam Type} [outParam (DecidableEq α)] (enc : outParam (α → Value)) (f : outParam (α → Option Value)) (n : outParam Nat) : Prop where
  rd : RdF A b enc f n
section
variable {α : Type} [DecidableEq α]
instance (enc : α → Value) (b : Nat) (f : α → Option Value) (n : Nat) : RdFI (mapF enc b f n) b enc f n := ⟨RdF_map⟩
instance (A : HP) (l : List HP) (b : Nat) (enc : α → Value) (f : α → Option Value) (n : Nat) [h : RdFI (sepL l) b enc f n] : RdFI (sepL (A :: l)) b enc f n := ⟨RdF_r h.rd⟩
instance (A : HP) (l : List HP) (b : Nat) (enc : α → Value) (f : α → Option Value) (n : Nat) [h : RdFI A b enc f n] : RdFI (sepL (A :: l)) b enc f n := ⟨RdF_l h.rd⟩
instance (F B : HP) (b : Nat) (enc : α → Value) (f : α → Option Value) (n : Nat) [h : RdFI B b enc f n] : RdFI (restr F B) b enc f n := ⟨RdF_ent (restr_in F B) h.rd⟩
end
class TkF (hs : List HP) (b : Nat) {α : outParam Type} [outParam (DecidableEq α)] (enc : outParam (α → Value)) (f : outParam (α → Option Value)) (n : outParam Nat) (r : outParam (List HP)) : Prop where
  tk : ∃ i, take1 i hs = some (mapF enc b f n, r)
section
variable {α : Type} [DecidableEq α]
instance (enc : α → Value) (b : Nat) (f : α → Option Value) (n : Nat) (r : List HP) : TkF (mapF enc b f n :: r) b enc f n r := ⟨0, rfl⟩
instance (A : HP) (hs : List HP) (b : Nat) (enc : α → Value) (f : α → Option Value) (n : Nat) (r : List HP) [h : TkF hs b enc f n r] : TkF (A :: hs) b enc f n (A :: r) := ⟨by
  obtain ⟨i, hi⟩ := h.tk
  exact ⟨i + 1, by simp [take1, hi]⟩⟩
end
section
variable {α : Type} [DecidableEq α] {enc : α → Value} {f : α → Option Value} {n : Nat}
variable {r : Option Nat} {P : Program} {N : Nat} {ops : Array Oper} {l : List Oper} {Q : Post} {ρ : Env} {ds : List Deferred} {A : HP} {K : Value → HP → Prop}
variable {d : Option Tmp} {ty : TypeId} {ps : String} {af : Array Edge} {g : Option (Nat × Bool)}
variable {t t' : TypeId} {x y z : Operand}
theorem RdF.at {b : Nat} (hr : RdF A b enc f n) {w : World} (hs : QM.sat w A) : ∃ (B : HP) (m : List (α × Value)), Fm f n m ∧ QM.sat w B ∧ RdMI B b α enc m := by
  obtain ⟨hh, hx, ha⟩ := hs
  obtain ⟨m, hm, o, h1, h2⟩ := hr hh ha
  exact ⟨fun h => h = hh, m, hm, ⟨hh, hx, rfl⟩, ⟨fun h e => by subst e; exact ⟨o, h1, h2⟩⟩⟩
theorem luF (kt e : TypeId) {b : Nat} {a : α} {zv : Value} (ht : mapT P t kt e = true) (hz : zeroT P e = some zv) (hk : KL P kt enc) (hx : ev ρ x = .map (some b)) (hy : ev ρ y = enc a) [hr : RdFI A b enc f n] :
    OQ P ρ ⟨d, .lookup t x y false, ty, ps, af, g⟩ A ((f a).getD zv) := fun w hs => by
  obtain ⟨B, m, hm, hs', hr'⟩ := hr.rd.at hs
  have := (luM (A := B) (d := d) (ty := ty) (ps := ps) (af := af) (g := g) kt e ht hz hk hx hy) w hs'
  rwa [hm.lk] at this
theorem luFO (kt e : TypeId) {b : Nat} {a : α} {zv : Value} (ht : mapT P t kt e = true) (hz : zeroT P e = some zv) (hk : KL P kt enc) (hx : ev ρ x = .map (some b)) (hy : ev ρ y = enc a) [hr : RdFI A b enc f n] :
    OQ P ρ ⟨d, .lookup t x y true, ty, ps, af, g⟩ A (.tuple #[(f a).getD zv, .bool (f a).isSome]) := fun w hs => by
  obtain ⟨B, m, hm, hs', hr'⟩ := hr.rd.at hs
  have := (luO (A := B) (d := d) (ty := ty) (ps := ps) (af := af) (g := g) kt e ht hz hk hx hy) w hs'
  rwa [hm.lk] at this
theorem lnF (kt e : TypeId) {b : Nat} (ht : mapT P t kt e = true) (hx : ev ρ x = .map (some b)) [hr : RdFI A b enc f n] :
    OQ P ρ ⟨d, .call ⟨.builtin .len, #[x], #[t]⟩, ty, ps, af, g⟩ A (.int .i64 n) := fun w hs => by
  obtain ⟨B, m, hm, hs', hr'⟩ := hr.rd.at hs
  have := (lnM (A := B) (d := d) (ty := ty) (ps := ps) (af := af) (g := g) kt e ht hx) w hs'
  rwa [hm.n] at this
theorem mkF {hs : List HP} (enc : α → Value) (k : ∀ b, K (.map (some b)) (sepL (mapF enc b (fun _ => none) 0 :: hs))) : OW r P ρ ⟨d, .makeMap t none, ty, ps, af, g⟩ (sepL hs) K :=
  OW.post (K1 := fun v A' => ∃ b, v = .map (some b) ∧ A' = sepL (mapP enc b [] :: hs)) (mkM enc fun b => ⟨b, rfl, rfl⟩) (by
    rintro v A' ⟨b, rfl, rfl⟩
    exact ⟨_, sep_mono (ent_of_imp fun h hp => ⟨[], ⟨by simp, fun _ => rfl, rfl⟩, hp⟩) (ent.refl _), k b⟩)
theorem muF {hs rest : List HP} (kt e : TypeId) {b : Nat} {a : α} {v : Value} (ht : mapT P t kt e = true) (hk : KL P kt enc) (hx : ev ρ x = .map (some b)) (hy : ev ρ y = enc a) (hv : ev ρ z = v) [hi : TkF hs b enc f n rest]
    (k : K undef (sepL (mapF enc b (updF f a v) (if (f a).isSome then n else n + 1) :: rest))) : OW r P ρ ⟨d, .mapUpdate t x y z, ty, ps, af, g⟩ (sepL hs) K := by
  obtain ⟨i, hi⟩ := hi.tk
  refine OW.weak (take1_ent hi) (show OW r P ρ _ (sepL (mapF enc b f n :: rest)) K from ?_)
  refine OW.ex fun m => OW.pure fun hm => ?_
  exact OW.post (K1 := fun v' A' => v' = undef ∧ A' = sepL (mapP enc b (upM a v m) :: rest)) (muM kt e ht hk hx hy hv ⟨rfl, rfl⟩) (by
    rintro v' A' ⟨rfl, rfl⟩
    exact ⟨_, sep_mono (ent_of_imp fun h hp => ⟨_, hm.up a v, hp⟩) (ent.refl _), k⟩)
theorem deF {hs rest : List HP} (kt e : TypeId) {b : Nat} {a : α} {tys : Array TypeId} (ht : mapT P t kt e = true) (hk : KL P kt enc) (hx : ev ρ x = .map (some b)) (hy : ev ρ y = enc a) (hty : tys[0]? = some t) [hi : TkF hs b enc f n rest]
    (k : K (.tuple #[]) (sepL (mapF enc b (delF f a) (if (f a).isSome then n - 1 else n) :: rest))) : OW r P ρ ⟨d, .call ⟨.builtin .delete, #[x, y], tys⟩, ty, ps, af, g⟩ (sepL hs) K := by
  obtain ⟨i, hi⟩ := hi.tk
  refine OW.weak (take1_ent hi) (show OW r P ρ _ (sepL (mapF enc b f n :: rest)) K from ?_)
  refine OW.ex fun m => OW.pure fun hm => ?_
  exact OW.post (K1 := fun v' A' => v' = .tuple #[] ∧ A' = sepL (mapP enc b (dlM a m) :: rest)) (deM kt e ht hk hx hy hty ⟨rfl, rfl⟩) (by
    rintro v' A' ⟨rfl, rfl⟩
    exact ⟨_, sep_mono (ent_of_imp fun h hp => ⟨_, hm.dl a, hp⟩) (ent.refl _), k⟩)
end
end Go.QM
