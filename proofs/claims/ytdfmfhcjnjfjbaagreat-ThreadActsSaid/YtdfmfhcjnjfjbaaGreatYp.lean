/-
  Proved here: what functions of this program compute, each as a contract over symbolic states, under the premises that each theorem names (most lines printed by a program of the prover).
-/
import Derived.Deep.Slices
import Derived.Test.YtdfmfhcjnjfjbaaGreatYo
namespace Go.QM
open Go Go.ChangeShapes Go.WideShapes Go.RowKit
theorem choose_list {α : Type} {Q : Nat → α → Prop} : ∀ n, (∀ i, i < n → ∃ a, Q i a) → ∃ xs : List α, xs.length = n ∧ ∀ i a, xs[i]? = some a → Q i a
  | 0, _ => ⟨[], rfl, by simp⟩
  | n + 1, h => by
    obtain ⟨xs, h1, h2⟩ := choose_list n (fun i hi => h i (by omega))
    obtain ⟨a, ha⟩ := h n (by omega)
    refine ⟨xs ++ [a], by simp [h1], fun i b hb => ?_⟩
    rw [List.getElem?_append] at hb
    split at hb
    · exact h2 i b hb
    · rename_i hge
      have := (List.getElem?_eq_some_iff.1 hb).1
      simp at this
      obtain rfl : i = n := by omega
      simp [h1] at hb
      subst hb; exact ha
section
variable {H : Type} {enc : TypeId × Value → H} {P : Program}
theorem open_recs {α : Type} {W : World} {sp : Nat → Bool} {held : Bool} {r : Reach} {b0 : Nat} {t e : TypeId} {v : Value} {d : DataW H} {ps : List MemPlace} (cells : α → List Value) (D : α → Prop) (sz : Nat) (ht : P.underlying t = some (.slice e)) (hc : P.cellsOf e = sz) (hz : 0 < sz)
    (hsz : ∀ a, (cells a).length = sz)
    (hone : ∀ fuel cs x, DataW.trod enc P W 0 sp held fuel e cs = some x → ∃ a, cs = cells a ∧ D a)
    (hval : Value.okWide P W r b0 t v) (hd : DataW.Trod enc P W 0 sp held t v d ps) :
    ∃ (ad : Option Addr) (xs : List α) (cap : Nat) (E : Nat), v = .slice ad xs.length cap ∧ RdS (here W) E ad (xs.flatMap cells) ∧ (∀ a ∈ xs, D a) ∧ xs.length ≤ maxLen ∧ xs.length ≤ cap := by
  subst hc
  obtain ⟨a, len, cap, rfl⟩ := okWide_slice ht hval
  obtain ⟨fuel, hf⟩ := hd
  rcases Deep.open_slice ht hf with ⟨h1, _⟩ | ⟨a', len', cap', m, n, Dd, Pl, h1, _, h3, h4, h5, _, h7⟩
  · simp [Value.cells] at h1
    obtain ⟨rfl, rfl, rfl⟩ := h1
    exact ⟨none, [], 0, 0, rfl, fun _ _ => .inl rfl, by simp, by simp, by simp⟩
  · simp [Value.cells] at h1
    obtain ⟨rfl, rfl, rfl⟩ := h1
    have hlm : len ≤ m := by rw [h5]; split <;> omega
    obtain ⟨xs, hx1, hx2⟩ := choose_list (Q := fun i (x : α) => W.cells? 0 (a'.add (i * P.cellsOf e)) (P.cellsOf e) = some (cells x) ∧ D x) len (fun i hi => by
      obtain ⟨cs', k1, k2⟩ := h7 i (by omega)
      obtain ⟨x, rfl, hx⟩ := hone _ _ _ k2
      exact ⟨x, k1, hx⟩)
    have hcell : ∀ i v, (xs.flatMap cells)[i]? = some v → W.cell? (a'.add i) = some v := by
      have hspot : ∀ x, xs[0]? = some x → a'.spot = none := fun x hx => by
        obtain ⟨k1, _⟩ := hx2 0 x hx
        obtain ⟨_, _, k3⟩ := World.cells?_some k1
        have := k3 0 hz
        rw [List.getElem?_eq_getElem (by rw [hsz]; exact hz)] at this
        simp only [Nat.zero_mul, Addr.add, if_true] at this
        cases hs : a'.spot with
        | none => rfl
        | some s => simp only [World.cell?, hs] at this; split at this <;> simp at this
      intro i v hv
      have hlt : i < (xs.flatMap cells).length := (List.getElem?_eq_some_iff.1 hv).1
      rw [flat_length hsz] at hlt
      have hq : i / P.cellsOf e < xs.length := Nat.div_lt_of_lt_mul (by rw [Nat.mul_comm]; exact hlt)
      have hx : xs[i / P.cellsOf e]? = some xs[i / P.cellsOf e] := List.getElem?_eq_getElem hq
      obtain ⟨k1, _⟩ := hx2 _ _ hx
      obtain ⟨_, _, k3⟩ := World.cells?_some k1
      have hm : i % P.cellsOf e < P.cellsOf e := Nat.mod_lt _ hz
      have k4 := k3 _ hm
      have hi : i / P.cellsOf e * P.cellsOf e + i % P.cellsOf e = i := by rw [Nat.mul_comm]; exact Nat.div_add_mod i _
      obtain ⟨w', hw'⟩ : ∃ w', (cells xs[i / P.cellsOf e])[i % P.cellsOf e]? = some w' := by
        have hl : i % P.cellsOf e < (cells xs[i / P.cellsOf e]).length := by rw [hsz]; exact hm
        exact ⟨_, List.getElem?_eq_getElem hl⟩
      have hg := flat_get hsz hx hw'
      rw [hi, hv] at hg
      cases hg
      have h0 : 0 < xs.length := Nat.lt_of_le_of_lt (Nat.zero_le _) hq
      have hs := hspot xs[0] (List.getElem?_eq_getElem h0)
      obtain ⟨ab, ao, as9⟩ := a'
      simp only at hs; subst hs
      rw [addr_add, addr_add, Nat.add_assoc, hi] at k4
      rw [addr_add, k4, hw']
    obtain ⟨E, hE⟩ := rdS_here hcell
    exact ⟨some a', xs, cap, E, by rw [hx1], hE, fun x hx => by obtain ⟨i, hi⟩ := List.getElem?_of_mem hx; exact (hx2 i x hi).2, by omega, by omega⟩
theorem one_int {W : World} {sp : Nat → Bool} {held : Bool} {fuel : Nat} {t : TypeId} {k : IntKind} {cs : List Value} {x : DataW H × List MemPlace} (ht : P.underlying t = some (.int k)) (h : DataW.trod enc P W 0 sp held fuel t cs = some x) :
    ∃ n, cs = [.int k n] ∧ (Lit.int k n).wf = true := by
  obtain ⟨n, h1, _, h3⟩ := DataW.trod_int ht h; exact ⟨n, h1, h3⟩
theorem one_bool {W : World} {sp : Nat → Bool} {held : Bool} {fuel : Nat} {t : TypeId} {cs : List Value} {x : DataW H × List MemPlace} (ht : P.underlying t = some .bool) (h : DataW.trod enc P W 0 sp held fuel t cs = some x) :
    ∃ b, cs = [.bool b] := by
  obtain ⟨b, h1, _⟩ := DataW.trod_bool ht h; exact ⟨b, h1⟩
end
end Go.QM
