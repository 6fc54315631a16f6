/-
  Opening and shutting of pieces; cells of records in a row. Nothing of a program stands here.
-/
import Derived.Test.YtdfmfhcjnjfjbaaQLibT
import Derived.Test.YtdfmfhcjnjfjbaaQLibR
namespace Go.QM
open Go

theorem ent_close {α : Type} {p : α → Prop} {B : α → List HP} (x : α) (hp : p x) {hs gs : List HP} (h : ent (sepL hs) (sepL (B x ++ gs))) : ent (sepL hs) (sepL (EX (fun x => pure' (p x) (sepL (B x))) :: gs)) :=
  h.trans ((sepL_append' (B x) gs).trans (sep_mono (ent_of_imp fun _ a => ⟨x, hp, a⟩) (ent.refl _)))
theorem ent_takeE (n : Nat) {hs r gs : List HP} {A B : HP} (h : take1 n hs = some (A, r)) (e : A = B) (k : ent (sepL r) (sepL gs)) : ent (sepL hs) (sepL (B :: gs)) := by
  subst e; exact ent_take n h k
theorem ent_takeW (n : Nat) {hs r gs : List HP} {A B : HP} (h : take1 n hs = some (A, r)) (e : ent A B) (k : ent (sepL r) (sepL gs)) : ent (sepL hs) (sepL (B :: gs)) :=
  (take1_ent h).trans (sep_mono e k)
/-- A piece is opened where it stands: what it is made of comes to the front. -/
theorem ent_open (n : Nat) {α : Type} {p : α → Prop} {B : α → List HP} {hs r : List HP} (h : take1 n hs = some (EX (fun x => pure' (p x) (sepL (B x))), r)) {w : World} (hw : sat w (sepL hs)) : ∃ x, p x ∧ sat w (sepL (B x ++ r)) := by
  obtain ⟨hh, hx, p', q', dd, rfl, ⟨z, hp, hB⟩, hq⟩ := hw.weak (take1_ent h)
  exact ⟨z, hp, sat.weak ⟨_, hx, p', q', dd, rfl, hB, hq⟩ (sepL_append _ _)⟩
section
variable {r : Option Nat} {P : Program} {N : Nat} {ops : Array Oper} {l : List Oper} {Q : Post} {ρ : Env} {ds : List Deferred} {A I : HP} {K : Value → HP → Prop} {c : Code} {T : List Nat} {co : List (Nat × Bool)}
theorem TC.open (n : Nat) {α : Type} {p : α → Prop} {B : α → List HP} {hs rr : List HP} (h : take1 n hs = some (EX (fun x => pure' (p x) (sepL (B x))), rr)) (k : ∀ x, p x → TC r P N c Q ρ ds (sepL (B x ++ rr))) : TC r P N c Q ρ ds (sepL hs) :=
  fun a w hr hs => let ⟨x, hp, hs'⟩ := ent_open n h hs; k x hp a w hr hs'
theorem TL.open (n : Nat) {α : Type} {p : α → Prop} {B : α → List HP} {hs rr : List HP} (h : take1 n hs = some (EX (fun x => pure' (p x) (sepL (B x))), rr)) (k : ∀ x, p x → TL r P N ops l Q ρ ds (sepL (B x ++ rr))) : TL r P N ops l Q ρ ds (sepL hs) :=
  fun a w hr hs => let ⟨x, hp, hs'⟩ := ent_open n h hs; k x hp a w hr hs'
theorem TD.open (n : Nat) {α : Type} {p : α → Prop} {B : α → List HP} {hs rr : List HP} (h : take1 n hs = some (EX (fun x => pure' (p x) (sepL (B x))), rr)) (k : ∀ x, p x → TD r P N ops I T co Q ρ ds (sepL (B x ++ rr))) : TD r P N ops I T co Q ρ ds (sepL hs) :=
  fun a w listed hr hs => let ⟨x, hp, hs'⟩ := ent_open n h hs; k x hp a w listed hr hs'
theorem TC.factSlc (n : Nat) {E sz n' cap : Nat} {ad : Option Addr} {cs : List Value} {hs rr : List HP} (h : take1 n hs = some (slc E sz ad n' cap cs, rr)) (k : cs.length = n' * sz → n' ≤ cap → cap ≤ maxLen → TC r P N c Q ρ ds (sepL hs)) : TC r P N c Q ρ ds (sepL hs) :=
  fun a w hr hs => by
    obtain ⟨hh, hx, p', q', dd, rfl, hp, hq⟩ := hs.weak (take1_ent h)
    obtain ⟨f1, f2, f3, _⟩ := slc_facts hp
    exact k f1 f2 f3 a w hr hs
end

/-- The rest, with what is known to lie in it told. -/
def restr (F B : HP) : HP := fun h => F h ∧ ∃ h', hsub h' h ∧ B h'
theorem restr_ent (F B : HP) : ent (restr F B) F := ent_of_imp fun _ h => h.1
theorem restr_in (F B : HP) : ent (restr F B) B := fun _ ⟨_, h', s, b⟩ => ⟨h', s, b⟩
instance (F B : HP) (b : Nat) (o : Obj) [h : RdI B b o] : RdI (restr F B) b o := ⟨Rd_ent (restr_in F B) h.rd⟩
instance (F B : HP) (ad : Option Addr) (E : Nat) (cs : List Value) [h : RdSI B ad E cs] : RdSI (restr F B) ad E cs := ⟨RdS_ent (restr_in F B) h.rd⟩
theorem ent_one (n : Nat) {hs r : List HP} {B : HP} (h : take1 n hs = some (B, r)) : ent (sepL hs) B := (take1_ent h).trans sep_left
theorem ent_of {hs : List HP} {B : HP} (h : ent (sepL hs) (sepL [B])) : ent (sepL hs) B := h.trans sep_left
theorem ent_takeF (n : Nat) {hs r gs : List HP} {F B : HP} (h : take1 n hs = some (restr F B, r)) (k : ent (sepL r) (sepL gs)) : ent (sepL hs) (sepL (F :: gs)) :=
  (take1_ent h).trans (sep_mono (restr_ent F B) k)
section
variable {r : Option Nat} {P : Program} {N : Nat} {Q : Post} {ρ : Env} {ds : List Deferred} {c : Code}
/-- What is known to lie in the rest is opened; the rest stays whole. -/
theorem TC.openR {F : HP} {α : Type} {p : α → Prop} {B : α → List HP} {hs : List HP} (h : ent F (EX (fun x => pure' (p x) (sepL (B x))))) (k : ∀ x, p x → TC r P N c Q ρ ds (sepL (restr F (sepL (B x)) :: hs))) : TC r P N c Q ρ ds (sepL (F :: hs)) := by
  intro a w hr hs'
  obtain ⟨hh, hx, p', q', dd, rfl, hp, hq⟩ := hs'
  obtain ⟨h', s', x, hpx, hB⟩ := h p' hp
  exact k x hpx a w hr ⟨_, hx, p', q', dd, rfl, ⟨hp, h', s', hB⟩, hq⟩
end

/-- The cells of records in a row. -/
theorem flat_length {α : Type} {enc : α → List Value} {sz : Nat} (h : ∀ a, (enc a).length = sz) : ∀ (xs : List α), (xs.flatMap enc).length = xs.length * sz
  | [] => by simp
  | a :: xs => by rw [List.flatMap_cons, List.length_append, h, flat_length h xs, List.length_cons, Nat.add_mul]; omega
theorem flat_get {α : Type} {enc : α → List Value} {sz : Nat} (h : ∀ a, (enc a).length = sz) : ∀ {xs : List α} {i j : Nat} {a : α} {v : Value}, xs[i]? = some a → (enc a)[j]? = some v → (xs.flatMap enc)[i * sz + j]? = some v
  | [], _, _, _, _, hi, _ => by simp at hi
  | b :: xs, 0, j, a, v, hi, hj => by
    simp at hi; subst hi
    rw [List.flatMap_cons, Nat.zero_mul, Nat.zero_add, List.getElem?_append_left (List.getElem?_eq_some_iff.1 hj).1]; exact hj
  | b :: xs, i + 1, j, a, v, hi, hj => by
    simp at hi
    have := flat_get h hi hj
    rw [List.flatMap_cons, List.getElem?_append_right (by rw [h, Nat.add_mul]; omega), h, Nat.add_mul]
    rw [show i * sz + 1 * sz + j - sz = i * sz + j by omega]; exact this
theorem flat_drop {α : Type} {enc : α → List Value} {sz : Nat} (h : ∀ a, (enc a).length = sz) : ∀ (xs : List α) (i : Nat), (xs.flatMap enc).drop (i * sz) = (xs.drop i).flatMap enc
  | [], i => by simp
  | b :: xs, 0 => by simp
  | b :: xs, i + 1 => by
    rw [List.flatMap_cons, List.drop_append, List.drop_eq_nil_of_le (by rw [h, Nat.add_mul]; omega), h, Nat.add_mul]
    rw [show i * sz + 1 * sz - sz = i * sz by omega, List.nil_append, List.drop_succ_cons]; exact flat_drop h xs i
theorem flat_take {α : Type} {enc : α → List Value} {sz : Nat} (h : ∀ a, (enc a).length = sz) : ∀ (xs : List α) (i : Nat), (xs.flatMap enc).take (i * sz) = (xs.take i).flatMap enc
  | [], i => by simp
  | b :: xs, 0 => by simp
  | b :: xs, i + 1 => by
    rw [List.flatMap_cons, List.take_append, List.take_of_length_le (by rw [h, Nat.add_mul]; omega), h, Nat.add_mul]
    rw [show i * sz + 1 * sz - sz = i * sz by omega, List.take_succ_cons, List.flatMap_cons, flat_take h xs i]
theorem flat_get_rec {α : Type} {enc : α → List Value} {sz : Nat} (h : ∀ a, (enc a).length = sz) {xs : List α} {i : Nat} {a : α} (hi : xs[i]? = some a) : ((xs.flatMap enc).drop (i * sz)).take sz = enc a := by
  rw [flat_drop h]
  have : xs.drop i = a :: xs.drop (i + 1) := by
    have hlt := (List.getElem?_eq_some_iff.1 hi)
    obtain ⟨hl, he⟩ := hlt
    rw [List.drop_eq_getElem_cons hl, he]
  rw [this, List.flatMap_cons, List.take_append_of_le_length (by rw [h]; omega), List.take_of_length_le (by rw [h]; omega)]
theorem tw_all {α : Type} {p : α → Bool} : ∀ {l : List α}, (∀ t ∈ l, p t = true) → l.takeWhile p = l
  | [], _ => rfl
  | a :: l, h => by rw [List.takeWhile_cons_of_pos (h a (by simp)), tw_all fun t ht => h t (by simp [ht])]
theorem dw_all {α : Type} {p : α → Bool} : ∀ {l : List α}, (∀ t ∈ l, p t = true) → l.dropWhile p = []
  | [], _ => rfl
  | a :: l, h => by rw [List.dropWhile_cons_of_pos (h a (by simp)), dw_all fun t ht => h t (by simp [ht])]
theorem tw_app {α : Type} {p : α → Bool} {m : List α} : ∀ {l : List α}, (∀ t ∈ l, p t = true) → (l ++ m).takeWhile p = l ++ m.takeWhile p
  | [], _ => rfl
  | a :: l, h => by rw [List.cons_append, List.takeWhile_cons_of_pos (h a (by simp)), tw_app fun t ht => h t (by simp [ht])]; rfl
theorem dw_app {α : Type} {p : α → Bool} {m : List α} : ∀ {l : List α}, (∀ t ∈ l, p t = true) → (l ++ m).dropWhile p = m.dropWhile p
  | [], _ => rfl
  | a :: l, h => by rw [List.cons_append, List.dropWhile_cons_of_pos (h a (by simp)), dw_app fun t ht => h t (by simp [ht])]
theorem findIdx_at {α : Type} {p : α → Bool} : ∀ {l : List α} {k : Nat} {t : α}, l[k]? = some t → p t = true → (∀ j u, j < k → l[j]? = some u → p u = false) → l.findIdx? p = some k
  | [], _, _, h, _, _ => by simp at h
  | a :: l, 0, t, h, hp, _ => by simp at h; subst h; simp [List.findIdx?_cons, hp]
  | a :: l, k + 1, t, h, hp, hn => by
    have h0 := hn 0 a (by omega) rfl
    have := findIdx_at (l := l) (k := k) (by simpa using h) hp (fun j u hj hu => hn (j + 1) u (by omega) (by simpa using hu))
    simp [List.findIdx?_cons, h0, this]
theorem findIdx_no {α : Type} {p : α → Bool} {l : List α} (hn : ∀ j u, j < l.length → l[j]? = some u → p u = false) : l.findIdx? p = none := by
  rw [List.findIdx?_eq_none_iff]
  intro x hx
  obtain ⟨j, hj, rfl⟩ := List.getElem_of_mem hx
  exact hn j _ hj (List.getElem?_eq_getElem hj)
theorem find_of_findIdx_none {α : Type} {p : α → Bool} {l : List α} (h : l.findIdx? p = none) : l.find? p = none := by
  rw [List.findIdx?_eq_none_iff] at h
  rw [List.find?_eq_none]
  intro x hx; simp [h x hx]
theorem find_of_findIdx {α : Type} {p : α → Bool} : ∀ {l : List α} {k : Nat}, l.findIdx? p = some k → ∃ t, l[k]? = some t ∧ l.find? p = some t
  | [], _, h => by simp at h
  | a :: l, k, h => by
    rw [List.findIdx?_cons] at h
    by_cases hp : p a = true
    · simp [hp] at h; subst h; exact ⟨a, rfl, by simp [hp]⟩
    · simp [hp] at h
      obtain ⟨j, hj, rfl⟩ := h
      obtain ⟨t, h1, h2⟩ := find_of_findIdx hj
      exact ⟨t, by simpa using h1, by simp [hp, h2]⟩
/-- Numbers in a row. -/
def ints (xs : List Int) : List Value := xs.map (fun x => .int .i64 x)
theorem ints_length (xs : List Int) : (ints xs).length = xs.length := by simp [ints]
theorem ints_get {xs : List Int} {i : Nat} {x : Int} (h : xs[i]? = some x) : (ints xs)[i * 1]? = some (.int .i64 x) := by simp [ints, h]
theorem ints_app (xs ys : List Int) : ints (xs ++ ys) = ints xs ++ ints ys := by simp [ints]
theorem ints_one (xs : List Int) : (ints xs).all Value.oneCell' = true := by simp [ints, List.all_eq_true, Value.oneCell']
end Go.QM
